/- Texts of the proof, part 5. -/
import Derived.Test.YtnegbdpggideiaaGreatDoorCardXLB4
set_option linter.unusedVariables false
set_option linter.unusedSimpArgs false
set_option maxRecDepth 10000
set_option maxHeartbeats 1000000
namespace Go.Proofs.YtnegbdpggideiaaGreatDoor
namespace PW
section
open Go.RowKit Go.Shelf cE Mem Net eY
attribute [local go_sem] Oper.semAt_some
def Is(K:St→Prop):Exit→St→Prop
 | .normal,s=>K s
 |_,_=>False
theorem piece{P:Program}{N L n:Nat}{c:Code}{st:St}{K:St→Prop}{F:Nat→Prop}{base:Nat}{E₀ E:Env}{w₀ w:World}{a:Act}{Q:Exit→Act→World→Prop}(hc:po base L E₀ w₀ E w)(hs:ee F base N st E a w)(h:W P N L c st (Is K))(hq:∀s E' a' w',K s→ee F base N s E' a' w'→dj E₀ w₀ E' w'→Below base w₀ w'→Q .normal a' w'):c.wpIn Fence.wide n P Q a w:=
 wpIn_wide.2 (wp_mono (h F base E₀ w₀ E a w hc hs) fun e a' w' ⟨s,E',k1,k2,k3,k4⟩=>by
  cases e<;>first|exact hq s E' a' w' k1 k2 k3 k4|exact k1.elim)
def uG:Op→Bool
 | .defer _=>true
 |_=>false
theorem CY{ops:Array Oper}(h:(ops.all fun o=> !uG o.op)=true)(i:Nat)(o:Oper)(ho:ops[i]? =some o)(c:Call):o.op≠ .defer c:=fun e=>by
 have:=Array.all_eq_true'.1 h o (Array.mem_of_getElem? ho)
 rw[e]at this
 cases this
theorem HQ{E:Env}{w w':World}{v:Value}{L:List nM}{n₁ G:Nat}(h:cK E w v (.slice L.length (iA L)))(hE:Ext w w')(hG:G=n₁∨E.M G)(hlt:∀b,E.M b→b<w.heap.size)(hn:w'.heap.size=n₁:=by rfl):Kg n₁ G w' v L:=by
 generalize hn1:L.length=m at h
 generalize hxs:iA L=xs at h
 cases h with
 |bQ=>exact .inl ⟨none,0,rfl,List.eq_nil_of_length_eq_zero hn1⟩
 |empty a c _=>exact .inl ⟨some a,c,rfl,List.eq_nil_of_length_eq_zero hn1⟩
 |slice b off _ c cs _ h0 h1 h2 hb hM hc hl hr=>
  subst hn1
  subst hxs
  have hz:=hE.size
  refine .inr ⟨b,off,c,rfl,by omega,fun e=>?_,fun i hi=>?_⟩
  ·subst e
   rcases hG with h|h
   ·omega
   ·exact hM h
  ·have key:∀j v,(la (cC L i))[j]? =some (.raw v)→j<7→w'.cell? ⟨b,off+(i*7+j),none⟩=some v:=fun j v hj h7=>by
    have e:=fq L i j hi h7
    rw[hj]at e
    have hlt:i*7+j<cs.length:=by rw[hl];exact(List.getElem?_eq_some_iff.1 e).1
    have hcs:cs[i*7+j]? =some cs[i*7+j]:=List.getElem?_eq_getElem hlt
    have:=eo (hr _ _ _ hcs e)
    rw[this]at hcs
    exact hE.cell (hc _ _ hcs)
   have k0:=key 0 _ rfl (by omega)
   have k1:=key 1 _ rfl (by omega)
   have k2:=key 2 _ rfl (by omega)
   have k3:=key 3 _ rfl (by omega)
   have k4:=key 4 _ rfl (by omega)
   have k5:=key 5 _ rfl (by omega)
   have k6:=key 6 _ rfl (by omega)
   simp only[←Nat.add_assoc,Nat.add_zero]at k0 k1 k2 k3 k4 k5 k6
   exact⟨k0,k1,k2,k3,k4,k5,k6⟩
theorem wJ{P:Program}{F:Fence}{n:Nat}{c:Code}{Q:Exit→Act→World→Prop}{a:Act}{w:World}(Fin:Act→World→Prop)(h1:c.wpIn F n P (Exit.then Fin Q) a w)(h2:∀a' w',Fin a' w'→c.wpIn F n P (Exit.then (fun _ _=>False) Q) a' w'):(Code.loop c).wpIn F n P Q a w:=by
 have mono:∀ {K K':Act→World→Prop} {a:Act} {w:World},(∀a w,K a w→K' a w)→c.wpIn F n P (Exit.then K Q) a w→c.wpIn F n P (Exit.then K' Q) a w:=fun hk h b k cs hro hb hr=>by
  obtain⟨e,a',w',q,r⟩:=h b k cs hro hb hr
  exact⟨e,a',w',by cases e<;>first|exact hk _ _ q|exact q,r⟩
 classical
 by_cases hf:Fin a w
 ·exact wpIn_loop Fin (fun _ _=>0) hf (fun a w h=>mono (fun _ _ h=>h.elim) (h2 a w h))
 ·refine wpIn_loop (fun a' w'=>(a'=a∧w'=w)∨Fin a' w') (fun a' w'=>if Fin a' w' then 0 else 1) (.inl ⟨rfl,rfl⟩) ?_
  rintro a' w' (⟨rfl,rfl⟩|h)
  ·exact mono (fun a'' w'' h=>⟨.inr h,by rw[if_pos h,if_neg hf];exact Nat.one_pos⟩) h1
  ·exact mono (fun _ _ h=>h.elim) (h2 a' w' h)
theorem bY{α:Type}{l:List α}{n:Nat}(h:l.length=n+1):∃a t,l=a::t∧t.length=n:=by
 cases l with
 |nil=>simp at h
 |cons a t=>exact⟨a,t,rfl,by simpa using h⟩
set_option maxRecDepth 100000 in
set_option maxHeartbeats 4000000 in
theorem Be(T:an)(k x:Int)(hv:aq T=true)(hc:cp T k x=true)(w:World)(vs:Array Value)(hR:bd (EF fun _=>False) w vs.toList [aN T,.slice 1 (cG k x)])(gl:iw (fun _=>False) w):
  Calls Tryz.prog 60 vs w fun e w'=>∃v,e= .returned (.tuple #[v,.int .i64 0])∧Ext w w'∧w'.ownsRow w.heap.size 4 1 v (2*T.ag.length) ((aE T k x).map Value.bool):=by
 have hll:=bV hv
 have hS:=Sat.start (fun _=>False) w (fun _ h=>h.elim) gl
 refine(callsIn_wide (n:=4)).1 ?_
 refine callsIn_of_wp_marks Tryz.func60 I trivial ?_ rfl
 have hs0:=jb (N:=41) hS hR (by have:=hR.1;simp at this;omega)
 have hc0:po w.heap.size 0 (EF fun _=>False) w (EF fun _=>False) w:=⟨rfl,dj.refl _ _,Below.refl _ _⟩
 refine wpIn_seq (piece (K:=fun s=>s=⟨[(1,.slice 1 (cG k x)),(2,.bc (bC T) 0)],[]⟩) hc0 hs0 ?_ ?_)
 ·skip
  refine aC (.a 3 I<|.k [1,2] I) ?_
  exact rfl
 rintro _ E1 a1 w1 rfl hs1 g1 b1
 refine wpIn_seq (piece (K:=fun s=>s=⟨[(1,.slice 1 (cG k x)),(2,.bc (bC T) 0)],[]⟩) ⟨rfl,g1,b1⟩ hs1 ?_ ?_)
 ·skip
  refine ab (.a 1 I<|.c rfl (eN T) I<|.a 1 I<|.k [1,2,12] I) ?_
  rw[hv]
  refine ah I (fun hc=>?_) (fun hc=>?_)
  ·cases hc
  ·refine eS [1,2] I (ai ?_)
   exact rfl
 rintro _ E2 a2 w2 rfl hs2 g2 b2
 refine wpIn_seq (piece (K:=fun s=>s=⟨[(1,.slice 1 (cG k x)),(2,.bc (bC T) 0),(6,.ptr 1 0)],[some (.row 4 1 (2*T.ag.length) (bX (List.replicate (2*T.ag.length) false))),some (.cells 22 [.own 0])]⟩) ⟨rfl,g2,b2⟩ hs2 ?_ ?_)
 ·skip
  refine bG<|av 1 I<|fe I (iu T (by omega)) I<|b7 (dT I (ba.rk.get I) I I (show 2*(T.ag.length:Int)=((2*T.ag.length:Nat):Int) by omega) (show 2*(T.ag.length:Int)=((2*T.ag.length:Nat):Int) by omega) ⟨by unfold maxLen;omega,by omega⟩) I<|av 2 I<|aG [1,2,6] I ?_
  rw[←iy]
  rfl
 rintro _ E3 a3 w3 rfl hs3 g3 b3
 obtain⟨n,hn⟩:∃n,2*T.ag.length=n:=⟨_,rfl⟩
 rw[hn]at hs3
 obtain⟨B,cs1,hB,hBb,hBh,hBr⟩:=hs3.sat.blk 1 _ rfl
 obtain⟨cs0,hrow,hcs0⟩:=hs3.sat.blk 0 _ rfl
 have t1:=hs3.tmp 1 _ rfl
 have t2:=hs3.tmp 2 _ rfl
 have t6:=hs3.tmp 6 _ rfl
 have hsz:=hs3.size
 have hdf:=hs3.j9
 obtain⟨arr,ds⟩:=a3
 simp only at hdf hsz
 subst hdf
 obtain⟨al⟩:=arr
 replace hsz:al.length=41:=by simpa using hsz
 obtain⟨x0,z0,e0,k0⟩:=bY (n:=40) hsz
 obtain⟨x1,z1,e1,k1⟩:=bY (n:=39) k0
 obtain⟨x2,z2,e2,k2⟩:=bY (n:=38) k1
 obtain⟨x3,z3,e3,k3⟩:=bY (n:=37) k2
 obtain⟨x4,z4,e4,k4⟩:=bY (n:=36) k3
 obtain⟨x5,z5,e5,k5⟩:=bY (n:=35) k4
 obtain⟨x6,z6,e6,k6⟩:=bY (n:=34) k5
 obtain⟨x7,z7,e7,k7⟩:=bY (n:=33) k6
 obtain⟨x8,z8,e8,k8⟩:=bY (n:=32) k7
 obtain⟨x9,z9,e9,k9⟩:=bY (n:=31) k8
 obtain⟨x10,z10,e10,k10⟩:=bY (n:=30) k9
 obtain⟨x11,z11,e11,k11⟩:=bY (n:=29) k10
 obtain⟨x12,z12,e12,k12⟩:=bY (n:=28) k11
 obtain⟨x13,z13,e13,k13⟩:=bY (n:=27) k12
 obtain⟨x14,z14,e14,k14⟩:=bY (n:=26) k13
 obtain⟨x15,z15,e15,k15⟩:=bY (n:=25) k14
 obtain⟨x16,z16,e16,k16⟩:=bY (n:=24) k15
 obtain⟨x17,z17,e17,k17⟩:=bY (n:=23) k16
 obtain⟨x18,z18,e18,k18⟩:=bY (n:=22) k17
 obtain⟨x19,z19,e19,k19⟩:=bY (n:=21) k18
 obtain⟨x20,z20,e20,k20⟩:=bY (n:=20) k19
 obtain⟨x21,z21,e21,k21⟩:=bY (n:=19) k20
 obtain⟨x22,z22,e22,k22⟩:=bY (n:=18) k21
 obtain⟨x23,z23,e23,k23⟩:=bY (n:=17) k22
 obtain⟨x24,z24,e24,k24⟩:=bY (n:=16) k23
 obtain⟨x25,z25,e25,k25⟩:=bY (n:=15) k24
 obtain⟨x26,z26,e26,k26⟩:=bY (n:=14) k25
 obtain⟨x27,z27,e27,k27⟩:=bY (n:=13) k26
 obtain⟨x28,z28,e28,k28⟩:=bY (n:=12) k27
 obtain⟨x29,z29,e29,k29⟩:=bY (n:=11) k28
 obtain⟨x30,z30,e30,k30⟩:=bY (n:=10) k29
 obtain⟨x31,z31,e31,k31⟩:=bY (n:=9) k30
 obtain⟨x32,z32,e32,k32⟩:=bY (n:=8) k31
 obtain⟨x33,z33,e33,k33⟩:=bY (n:=7) k32
 obtain⟨x34,z34,e34,k34⟩:=bY (n:=6) k33
 obtain⟨x35,z35,e35,k35⟩:=bY (n:=5) k34
 obtain⟨x36,z36,e36,k36⟩:=bY (n:=4) k35
 obtain⟨x37,z37,e37,k37⟩:=bY (n:=3) k36
 obtain⟨x38,z38,e38,k38⟩:=bY (n:=2) k37
 obtain⟨x39,z39,e39,k39⟩:=bY (n:=1) k38
 obtain⟨x40,z40,e40,k40⟩:=bY (n:=0) k39
 have e41:=List.eq_nil_of_length_eq_zero k40
 subst e41
 subst e40
 subst e39
 subst e38
 subst e37
 subst e36
 subst e35
 subst e34
 subst e33
 subst e32
 subst e31
 subst e30
 subst e29
 subst e28
 subst e27
 subst e26
 subst e25
 subst e24
 subst e23
 subst e22
 subst e21
 subst e20
 subst e19
 subst e18
 subst e17
 subst e16
 subst e15
 subst e14
 subst e13
 subst e12
 subst e11
 subst e10
 subst e9
 subst e8
 subst e7
 subst e6
 subst e5
 subst e4
 subst e3
 subst e2
 subst e1
 subst e0
 clear k0 k1 k2 k3 k4 k5 k6 k7 k8 k9 k10 k11 k12 k13 k14 k15 k16 k17 k18 k19 k20 k21 k22 k23 k24 k25 k26 k27 k28 k29 k30 k31 k32 k33 k34 k35 k36 k37 k38 k39 k40 hsz
 skip
 have e1:Act.eval ⟨⟨[x0,x1,x2,x3,x4,x5,x6,x7,x8,x9,x10,x11,x12,x13,x14,x15,x16,x17,x18,x19,x20,x21,x22,x23,x24,x25,x26,x27,x28,x29,x30,x31,x32,x33,x34,x35,x36,x37,x38,x39,x40]⟩,[]⟩ (.tmp 1)=x1:=rfl
 have e2:Act.eval ⟨⟨[x0,x1,x2,x3,x4,x5,x6,x7,x8,x9,x10,x11,x12,x13,x14,x15,x16,x17,x18,x19,x20,x21,x22,x23,x24,x25,x26,x27,x28,x29,x30,x31,x32,x33,x34,x35,x36,x37,x38,x39,x40]⟩,[]⟩ (.tmp 2)=x2:=rfl
 have e6:Act.eval ⟨⟨[x0,x1,x2,x3,x4,x5,x6,x7,x8,x9,x10,x11,x12,x13,x14,x15,x16,x17,x18,x19,x20,x21,x22,x23,x24,x25,x26,x27,x28,x29,x30,x31,x32,x33,x34,x35,x36,x37,x38,x39,x40]⟩,[]⟩ (.tmp 6)=x6:=rfl
 rw[e1]at t1
 rw[e2]at t2
 rw[e6]at t6
 clear e1 e2 e6
 cases t1 with
 |slice lb lo _ lcap lcs _ _ hl1 hl2 hlb hlM hlc hll' hlr=>
  match lcs,hll',hlc,hlr with
  | [u0,u1],_,hlc,hlr=>
   have hu0:=eo (hlr 0 u0 _ rfl rfl)
   have hu1:=eo (hlr 1 u1 _ rfl rfl)
   subst hu0
   subst hu1
   have l0:=hlc 0 _ rfl
   have l1:=hlc 1 _ rfl
   clear hlc hlr
   cases t2 with
   |bc bt bo off tcs _ htb htM htc htl htr=>
    match tcs,htl,htc,htr with
    | [c0,c1,c2],_,htc,htr=>
     have m0:=htc 0 _ rfl
     have m1:=htc 1 _ rfl
     have m2:=htc 2 _ rfl
     have hT3:bd E3 w3 [c0,c1,c2] (bC T):=⟨rfl,htr⟩
     cases t6 with
     |ptr _ _ B' _ h6=>
      have hBB:B'=B:=by
       rcases h6 with h6|⟨n',c',h6⟩
       ·rw[hB]at h6;cases h6;rfl
       ·rw[hB]at h6;cases h6
      subst hBB
      clear h6
      simp only[Nat.add_zero]at l0 l1 m0 m1 m2 ⊢
      have hcw:=mw T k x
      rw[hc]at hcw
      have E34:Ext w3 (w3.alloc (.cells #[.int .i64 k,.int .i64 x] 33)):=(Ext.refl w3).alloc _
      have hwi:=(callsIn_wide (n:=3)).2 (hcw (fun _=>False) (w3.alloc (.cells #[.int .i64 k,.int .i64 x] 33)) #[.agg #[c0,c1,c2],.agg #[.int .i64 k,.int .i64 x]] (fun _ h=>h.elim) ((hs3.sat.gl.sub (fun _ h=>h.elim)).goes (E:=EF fun _=>False) (E':=EF fun _=>False) (.ext E34)) (bd.cons (.agg _ _ rfl (fun j z u k1 k2=>((hT3.pure (fun _ h=>h.elim):bd (EF fun _=>False) w3 [c0,c1,c2] (bC T)).2 j z u (by simpa using k1) k2).goes (.ext E34))) (bd.cons (.agg _ _ rfl (fun j z u k1 k2=>(bd.cons (.raw _) (bd.cons (.raw _) (bd.nil _ _)):bd (EF fun _=>False) _ [.int .i64 k,.int .i64 x] (cG k x)).2 j z u (by simpa using k1) k2)) (bd.nil _ _))))
      gi_wp2
      refine wJ (fun a' w'=>∃(y0 y1 y2 y3 y4 y5 y7 y8 y9 y10 y11 y12 y13 y14 y15 y16 y19 y20 y21 y22 y23 y24 y25 y26 y27 y28 y29 y30 y31 y32 y33 y34 y35 y36 y37 y38 y39 y40:Value) (D:Nat),a'=⟨#[y0,y1,y2,y3,y4,y5,Value.pointer (some ⟨B',0,none⟩),y7,y8,y9,y10,y11,y12,y13,y14,y15,y16,Value.int .i64 1,Value.int .i64 1,y19,y20,y21,y22,y23,y24,y25,y26,y27,y28,y29,y30,y31,y32,y33,y34,y35,y36,y37,y38,y39,y40],[⟨.collected D,#[]⟩]⟩∧mo w.heap.size n B' (E3.at_ 0) E3.M (aE T k x) w'∧Below w.heap.size w w'∧w.heap.size≤D∧w'.heap[D]? =some (.deferred (some []))) ?_ ?_
      ·gi_wp2
       refine⟨trivial,hwi.mono ?_⟩
       rintro e w5 ⟨v5,rfl,hE5,r,rfl,hv5⟩
       cases hv5
       have q0:w5.cell? ⟨bt,bo,none⟩=some c0:=hE5.cell (ib _ m0)
       have q1:w5.cell? ⟨bt,bo+1,none⟩=some c1:=hE5.cell (ib _ m1)
       have q2:w5.cell? ⟨bt,bo+2,none⟩=some c2:=hE5.cell (ib _ m2)
       have q3:w5.cell? ⟨w3.heap.size,0,none⟩=some (.int .i64 k):=hE5.cell (G9 w3 _ _ _).1
       have q4:w5.cell? ⟨w3.heap.size,1,none⟩=some (.int .i64 x):=hE5.cell (G9 w3 _ _ _).2
       gi_wp2
       refine⟨trivial,(EO c0 c1 c2 k x 3 w5).mono ?_⟩
       rintro e w6 ⟨rfl,rfl⟩
       gi_wp2
       have E35:Ext w3 w5:=E34.trans hE5
       have hz5:=E35.size
       have E56:Ext w5 ((w5.alloc (.cells #[c0,c1,c2] 25)).alloc (.cells #[.int .i64 k,.int .i64 x] 33)):=((Ext.refl w5).alloc _).alloc _
       have hz6:((w5.alloc (.cells #[c0,c1,c2] 25)).alloc (.cells #[.int .i64 k,.int .i64 x] 33)).heap.size=w5.heap.size+2:=by simp
       have p2:((w5.alloc (.cells #[c0,c1,c2] 25)).alloc (.cells #[.int .i64 k,.int .i64 x] 33)).cell? ⟨w5.heap.size,2,none⟩=some c2:=ib _ (Ky w5 _ _ _ _)
       have p3:((w5.alloc (.cells #[c0,c1,c2] 25)).alloc (.cells #[.int .i64 k,.int .i64 x] 33)).cell? ⟨w5.heap.size+1,0,none⟩=some (.int .i64 k):=by
        have:=(G9 (w5.alloc (.cells #[c0,c1,c2] 25)) (.int .i64 k) (.int .i64 x) 33).1
        rwa [World.size_alloc]at this
       have p4:((w5.alloc (.cells #[c0,c1,c2] 25)).alloc (.cells #[.int .i64 k,.int .i64 x] 33)).cell? ⟨w5.heap.size+1,1,none⟩=some (.int .i64 x):=by
        have:=(G9 (w5.alloc (.cells #[c0,c1,c2] 25)) (.int .i64 k) (.int .i64 x) 33).2
        rwa [World.size_alloc]at this
       generalize (w5.alloc (.cells #[c0,c1,c2] 25)).alloc (.cells #[.int .i64 k,.int .i64 x] 33)=w6 at*
       have E36:Ext w3 w6:=E35.trans E56
       obtain⟨hU3,hone⟩:=mo.of hs3.sat hB
       have hU6:mo w.heap.size n B' (E3.at_ 0) E3.M (List.replicate n false) w6:=hU3.same E36.size (fun b cs t fz hb=>E36.block b (Array.getElem?_eq_some_iff.1 hb).1)
       have hL3:E3.L=2:=hs3.sat.len
       obtain⟨G,hGv,hGM⟩:∃G,(∀b,bF (E3.at_ 0)=some b→b=G)∧(G=w6.heap.size∨E3.M G):=by
        cases hbo:bF (E3.at_ 0)with
        |none=>exact⟨_,fun b h=>(by cases h),.inl rfl⟩
        |some g=>exact⟨g,fun b h=>(by cases h;rfl),.inr ((hs3.sat.mm g).2 (.inr ⟨0,_,rfl,hbo⟩))⟩
       have hlk:=HQ (n₁:=w6.heap.size) (hT3.2 2 c2 _ rfl rfl) E36 hGM (fun b hb=>hs3.sat.lt hb)
       have hGc:w5.heap.size+1≠G:=by
        rcases hGM with h|h
        ·omega
        ·have:=hs3.sat.lt h;omega
       have hk3:k=1∨k=2∨k=3:=by
        unfold cp at hc
        split at hc
        ·exact .inl ‹_›
        ·split at hc
         ·exact .inr (.inl ‹_›)
         ·split at hc
          ·exact .inr (.inr ‹_›)
          ·cases hc
       refine wpIn_rangeFunc_ownF (α:=eY.Ix T.ag.length) I (by omega) (gf:=160) (lb:= #[.pointer (some ⟨w5.heap.size,0,none⟩),.pointer (some ⟨w5.heap.size+1,0,none⟩)]) I trivial (enters_of Tryz.func160 (by kernel_rfl) I)
        (encs:=fun i=> #[Value.int .i64 (i.1:Int)]) (xK T k x hk3 (by omega) 3 w5.heap.size (w5.heap.size+1) G (by omega) c2 w6 (by omega) (by omega) hGc p2 p3 p4 hlk) (fun h1 h2=>h1.trans h2) (fun W l o o' hl ho _ _=>⟨(grownBy_putObj' W l o').size,fun b h1 _=>(grownBy_putObj' W l o').block b (by have:=(Array.getElem?_eq_some_iff.1 ho).1;omega) (fun e=>by cases e;omega)⟩) (Below.refl _ _) (fun _=>rfl)
        (fun l W=>mo w.heap.size n B' (E3.at_ 0) E3.M (CR n l) W∧Kp G w6.heap.size w6 W∧Below w.heap.size w W) (fun _ _ _=>False)
        (fun s W W' row hs hg hr=>⟨hs.1.grown hg (fun r e=>(hr r e).2),⟨Nat.le_trans hs.2.1.size hg.size,fun b h1 h2=>(hg.block b (by have:=hs.2.1.size;omega) (fun e=>by have:=(hr b e.symm).1;omega)).trans (hs.2.1.block b h1 h2)⟩,hs.2.2.trans ⟨hg.os,hg.tape,hg.output,hg.size,fun b h1=>hg.block b (by have:=hs.1.bl;omega) (fun e=>by have:=(hr b e.symm).1;have:=hU6.bl;omega)⟩⟩)
        (fun _ _ _ _ _ h _ _=>h) ⟨hU6,Kp.refl _ _ _,b3.trans (Below.ik E36 hs3.sat.bl)⟩
        (fun i=>⟨#[x0,Value.slice (some ⟨lb,lo,none⟩) 1 lcap,Value.pointer (some ⟨bt,bo,none⟩),x3,x4,x5,Value.pointer (some ⟨B',0,none⟩),x7,Value.pointer (some ⟨w3.heap.size,0,none⟩),Value.int .i64 (i.1:Int),x10,x11,x12,x13,x14,x15,Value.slice (some ⟨lb,lo,none⟩) 1 lcap,Value.int .i64 1,Value.int .i64 0,Value.bool true,Value.pointer (some ⟨lb,lo,none⟩),Value.agg #[.int .i64 k,.int .i64 x],Value.agg #[c0,c1,c2],Value.agg #[.int .i64 k,.int .i64 x],Value.bool true,Value.bool false,Value.agg #[c0,c1,c2],Value.agg #[.int .i64 k,.int .i64 x],Value.func (.func 160) #[] #[.pointer (some ⟨w5.heap.size,0,none⟩),.pointer (some ⟨w5.heap.size+1,0,none⟩)],Value.int .i64 (i.1:Int),x30,x31,x32,x33,x34,x35,x36,x37,x38,x39,x40],[]⟩) ?assign ?body ?done ?stop
       case assign=>
        intro l i W K hK
        gi_wp2
        exact hK
       case body=>
        rintro l pre i W ⟨hU,hK,hb⟩ hlt
        have hMl:=vg (n:=n) pre
        have hi2:=i.2
        have hb11:=II (CR n pre) i.1 (by rw[hMl];omega) (by rw[hMl];omega)
        rw[hMl,←xo]at hb11
        have hUd:mo w.heap.size n B' (E3.at_ 0) E3.M (CR n pre) {W with drawn:=W.drawn+1}:=hU.same (Nat.le_refl _) (fun _ _ _ _ _=>rfl)
        have hsat:=hUd.sat hs3.sat rfl ⟨_,_,_,_,rfl⟩ hB hBb hone
        refine wpIn_block (wpIn_region_any mixed (jS (fun j o ho c=>?_) ?_ _ _ _ _ (hb11.any (fun _=>False) w.heap.size E3 {W with drawn:=W.drawn+1} E3 _ {W with drawn:=W.drawn+1} ⟨hL3,dj.refl _ _,Below.refl _ _⟩ ⟨hsat,?_,rfl,rfl⟩ _ ?_)))
        ·exact CY (by kernel_rfl) j o ho c
        ·rintro⟨a',w',h⟩
         exact h
        ·intro k' p' hk'
         simp only[look,Bool.cond_eq_ite]at hk'
         split at hk'
         ·rename_i he
          have:=Nat.eq_of_beq_eq_true he
          subst this
          cases hk'
          exact .ptr 1 0 B' (by omega) (.inl hB)
         ·split at hk'
          ·rename_i he
           have:=Nat.eq_of_beq_eq_true he
           subst this
           cases hk'
           exact .raw _
          ·cases hk'
        ·rintro a' w' ⟨⟨t',σ'⟩,E',hσ,hs',hg',hb'⟩
         simp only at hσ
         subst hσ
         have hB'2:E'.at_ 1= .pointer (some ⟨B',0,none⟩):=(hg'.at_ 1 (by omega)).trans hB
         have hv':E'.at_ 0=E3.at_ 0:=hg'.at_ 0 (by omega)
         obtain⟨hU',_⟩:=mo.of hs'.sat hB'2
         rw[hv']at hU'
         have hMM:∀b,E3.M b→E'.M b:=fun b hb=>by
          rcases(hs3.sat.mm b).1 hb with h|⟨j,blk,h1,h2⟩
          ·exact h.elim
          ·match j,h1 with
           |0,_=>exact(hs'.sat.mm b).2 (.inr ⟨0,_,rfl,by rw[hv'];exact h2⟩)
           |1,_=>exact(hs'.sat.mm b).2 (.inr ⟨1,_,rfl,by rw[hg'.at_ 1 (by omega)];exact h2⟩)
           |_+2,h1=>simp at h1
         have hown:∀b,E3.M b→bF (E3.at_ 0)=some b∨b=B':=fun b hb=>by
          rcases(hs3.sat.mm b).1 hb with h|⟨j,blk,h1,h2⟩
          ·exact h.elim
          ·match j,h1 with
           |0,_=>exact .inl h2
           |1,_=>rw[hB]at h2;cases h2;exact .inr rfl
           |_+2,h1=>simp at h1
         have hfin:mo w.heap.size n B' (E3.at_ 0) E3.M (CR n (pre++[i])) w':=⟨hU'.bl,hU'.row,hU'.box,hU'.gl.sub hMM⟩
         have hzW:w6.heap.size≤W.heap.size:=hK.size
         have hkp:Kp G w6.heap.size W w':=⟨hg'.size,fun b h1 h2=>by
          by_cases hm:E3.M b
          ·rcases hown b hm with h|h
           ·exact absurd (hGv b h) h2
           ·rw[h,hU'.box,hU.box]
          ·exact hg'.heap b (show b<W.heap.size by omega) hm⟩
         refine⟨⟨hg'.size,fun b o hb ho=>?_⟩,hkp,hfin,hK.trans hkp,hb.trans ⟨hb'.os,hb'.tape,hb'.output,hb'.size,hb'.block⟩⟩
         have hnm:¬E3.M b:=fun hm=>by
          rcases hown b hm with h|h
          ·rcases hU.row.2 with⟨h1,_⟩|⟨g,cap,cur,h1,_,h3,_⟩
           ·rw[h1]at h;cases h
           ·rw[h1]at h
            cases h
            rw[h3]at hb
            cases hb
            cases ho
          ·rw[h,hU.box]at hb
           cases hb
           cases ho
         rw[hg'.heap b (Array.getElem?_eq_some_iff.1 hb).1 hnm]
         exact hb
       case done=>
        rintro D ys W hD rfl ⟨hU,hK,hb⟩ hDh
        have hmk:CR n (lM (cR k x T.ag) T.ag.length T.ag.length)=aE T k x:=by rw[←hn];exact HB T k x
        rw[hmk]at hU
        gi_wp2
        exact⟨_,_,_,_,_,_,_,_,_,_,_,_,_,_,_,_,_,_,_,_,_,_,_,_,_,_,_,_,_,_,_,_,_,_,_,_,_,_,D,rfl,hU,hb,by have:=hU6.bl;omega,hDh⟩
       case stop=>
        rintro D c pre W _ _ h _
        exact h.elim
      ·rintro a' w' ⟨y0,y1,y2,y3,y4,y5,y7,y8,y9,y10,y11,y12,y13,y14,y15,y16,y19,y20,y21,y22,y23,y24,y25,y26,y27,y28,y29,y30,y31,y32,y33,y34,y35,y36,y37,y38,y39,y40,D,rfl,hU,hb,hD,hDh⟩
       have hbx:w'.cell? ⟨B',0,none⟩=some (E3.at_ 0):=by
        unfold World.cell?
        simp only[hU.box]
        rfl
       gi_wp2
       have hput:=grownBy_putObj' w' D (.deferred none)
       have hnd:∀(g:Nat) (o:Array Value) (e:TypeId),w'.heap[g]? =some (Obj.cells o e (0,0))→(w'.putObj D (.deferred none)).heap[g]? =w'.heap[g]? :=fun g o e hg=>hput.block g (Array.getElem?_eq_some_iff.1 hg).1 (fun h=>by cases h;rw[hDh]at hg;cases hg)
       refine⟨by simp,.inl ⟨_,_,rfl,run_takeDeferred hDh,?_⟩⟩
       rw[hn]
       exact⟨_,results_tmp2 rfl _ _ _,E3.at_ 0,rfl,hb.trans ⟨hput.os,hput.tape,hput.output,hput.size,fun b h1=>hput.block b (by have:=hU.bl;omega) (fun h=>by cases h;omega)⟩,xm hU.row (fun g o hg=>hnd g o _ hg)⟩
end
section
open Go.RowKit cE Mem Net eY
theorem Can.La{P:Program}{f:FuncId}{ps:List PV}{R:PV→cc→Prop}{S:PV→Prop}(h:bT P f ps [] R)(hR:∀r σ',R r σ'→∃q,ay σ' r q∧S q):Can P f ps S:=fun F w vs hF hG hr=>by
 refine(h F w.heap.size (EF F) w vs (Sat.start F w hF hG) hr).mono ?_
 rintro e w' ⟨v,r,σ',E',rfl,h1,h2,h3,h4,h5⟩
 obtain⟨q,k1,k2⟩:=hR r σ' h1
 exact⟨v,rfl,h4,q,k2,k1.rep h2 (fun b hb=>(h2.mm b).2 (.inl hb)) (fun b hb=>(h2.fb b hb).2) v h5⟩
theorem yt(T:an)(k x:Int)(hv:aq T=true)(hc:cp T k x=true):bT Tryz.prog 60 [aN T,.slice 1 (cG k x)] [] (fun r σ'=>r= .tuple [.own 0,num 0]∧σ'=[some (.row 4 1 (2*T.ag.length) (bX (aE T k x)))]):=fun F base E w vs hS hR=>by
 refine(Be T k x hv hc w vs (hR.pure (fun _ h=>h.elim)) (hS.gl.sub fun _ h=>h.elim)).mono ?_
 rintro e w' ⟨v,rfl,hE,hrow⟩
 have hrow2:w'.ownsRow base 4 1 v (2*T.ag.length) ((aE T k x).map Value.bool):=⟨hrow.1,hrow.2.imp id fun⟨g,cap,cur,h1,h2,h3⟩=>⟨g,cap,cur,h1,Nat.le_trans hS.bl h2,h3⟩⟩
 have hnew:∀b,bF v=some b→w.heap.size≤b∧b<w'.heap.size:=fun b hb=>by
  rcases hrow.2 with⟨h1,_⟩|⟨g,cap,cur,h1,h2,h3,_⟩
  ·rw[h1]at hb;cases hb
  ·rw[h1]at hb
   cases hb
   exact⟨h2,(Array.getElem?_eq_some_iff.1 h3).1⟩
 have hone:v.oneCell'=true:=by
  rcases hrow.2 with⟨h1,_⟩|⟨g,cap,cur,h1,h2,h3,_⟩<;>rw[h1]<;>rfl
 have hL:E.L=0:=hS.len
 have hp:=hS.push hE (v:=v) (blk:=.row 4 1 (2*T.ag.length) (bX (aE T k x))) (fun b h=>(hnew b h).1) ⟨_,hrow2,o9 _⟩
 refine⟨_,_,_,E.push v,rfl,⟨rfl,rfl⟩,hp.1,hp.2,Below.ik hE hS.bl,.tuple _ _ rfl (fun i c u h1 h2=>?_)⟩
 match i,h1,h2 with
 |0,h1,h2=>
  simp at h1 h2
  subst h1
  subst h2
  exact .own 0 (by show 0<E.L+1;omega) _ (by simp[Env.push,hL]) hone
 |1,h1,h2=>
  simp at h1 h2
  subst h1
  subst h2
  exact .raw _
 |_+2,h1,h2=>simp at h2
def eA(T:an)(k x:Int):Int:=if(aq T&&cp T k x)=true then 0 else 1
def jY(e:Int)(L:List Bool):PV:=.tuple [bq (if e=0 then L else []),num e]
theorem fQ(T:an)(k x:Int):(aE T k x).length=2*T.ag.length:=by simp[aE]
theorem yI(T:an)(k x:Int)(hno:(aq T&&cp T k x)=false):Can Tryz.prog 60 [aN T,.slice 1 (cG k x)] (· =jY 1 []):=by
 refine aI Tryz.func60 I Tryz.ntmps60 I<|ab (.a 3 I<|.k [1,2] I)<|aj<|ab (.a 1 I<|.c rfl (eN T) I<|.a 1 I<|.k [1,2,12] I)<|ah I (fun h1=>?_) (fun h1=>?_)
 ·skip
  exact ab (.a 2 I<|.k [4,5] I)<|ao<|⟨_,_,az.of I,ay.aX (af.cons ay.bQ (af.cons ay.pure af.nil)),rfl⟩
 ·have hv:aq T=true:=by simpa using h1
  have hc:cp T k x=false:=by rw[hv,Bool.true_and]at hno;exact hno
  have hll:=bV hv
  have hcw:=mw T k x
  rw[hc]at hcw
  refine ai<|aP<|av 1 I<|fe I (iu T (by omega)) I<|b7 (dT I (ba.rk.get I) I I (show 2*(T.ag.length:Int)=((2*T.ag.length:Nat):Int) by omega) (show 2*(T.ag.length:Int)=((2*T.ag.length:Nat):Int) by omega) ⟨by unfold maxLen;omega,by omega⟩) I<|av 2 I<|aG [1,2,6] I ?_
  refine aj<|ab (.a 3 I<|.k [2,6,16,17,18] I)<|aw<|eS [2,6,16,17,18] I<|bu (fun r st=>st=⟨[(2,.bc (bC T) 0),(6,.ptr 1 0),(16,.slice 1 (cG k x)),(17,num 1),(18,num 0)],[some (.row 4 1 (2*T.ag.length) (dP [.raw (.bool false)] (2*T.ag.length))),some (.cells 22 [.own 0])]⟩) 0 I ?_
  rintro r st rfl
  refine ab (.a 1 I<|.k [2,6,16,17,18,19] I)<|aj<|ah I (fun h2=>?_) (fun h2=>?_)
  ·skip
   refine ai<|aj<|aw<|aP<|bw (aM (0) I) I<|bw (fG I ((show((cG k x).drop 0).take 2=cG k x from rfl)) I) I<|av 2 I<|aG [2,6,8,16,17,18] I ?_
   refine aj<|ab (.a 2 I<|.c rfl (hcw) I<|.a 1 I<|.k [2,6,8,16,17,18,25] I)<|ah I (fun h3=>?_) (fun h3=>?_)
   ·skip
    exact ab (.a 2 I<|.k [4,5] I)<|ao<|⟨_,_,az.of I,ay.aX (af.cons ay.bQ (af.cons ay.pure af.nil)),rfl⟩
   ·exact absurd h3 (by decide)
  ·exact absurd h2 (by decide)
theorem tm(T:an)(k x:Int)(hv:aq T=true)(hc:cp T k x=true):bT Tryz.prog 16 [aN T,cq k x] [] (fun r σ'=>r= .tuple [.own 0,num 0]∧σ'=[some (.row 4 1 (2*T.ag.length) (bX (aE T k x)))]):=by
 refine ct Tryz.func16 I Tryz.ntmps16 I<|ab (.a 4 I<|.k [2,3] I)<|aP<|av 3 I<|cM I I (bT.mono (yt T k x hv hc) (fun r σ' h=>?_))
 obtain⟨rfl,rfl⟩:=h
 refine av 4 I<|aG [4,5] I ?_
 exact ao<|⟨_,az.of I,rfl,rfl⟩
theorem mj(T:an)(k x:Int):Can Tryz.prog 16 [aN T,cq k x] (· =jY (eA T k x) (aE T k x)):=by
 cases hno:(aq T&&cp T k x)with
 |true=>
  obtain⟨hv,hc⟩:=Bool.and_eq_true_iff.1 hno
  refine Can.La (tm T k x hv hc) ?_
  rintro r σ' ⟨rfl,rfl⟩
  refine⟨_,ay.aX (af.cons (ay.fr rfl af.pure) (af.cons ay.pure af.nil)),?_⟩
  unfold jY eA bq
  rw[if_pos hno,if_pos rfl,fQ]
 |false=>
  have he:eA T k x=1:=by unfold eA;rw[if_neg (by rw[hno];simp)]
  rw[he]
  exact aI Tryz.func16 I Tryz.ntmps16 I<|ab (.a 4 I<|.k [2,3] I)<|ab (.a 3 I<|.c rfl (yI T k x hno) I<|.a 4 I<|.k [4,5] I)<|ao<|⟨_,_,az.of I,ay.pure,rfl⟩
end
section
open Go.RowKit cE Mem
section
variable {P:Program} {N L:Nat} {ops:Array Oper}
theorem WA.mono:∀ {n:Nat} {ls:Array Bool} {st:St} {K K':St→Prop},WA P N L ops n ls st K→(∀s,K s→K' s)→WA P N L ops n ls st K'
 |0,_,_,_,_,h,hk=>⟨h.1,hk _ h.2⟩
 |_+1,_,_,_,_,h,hk=>⟨h.1,fun i hi=>by
   obtain⟨o,h1,h2,h3⟩:=h.2 i hi
   exact⟨o,h1,h2,h3.mono fun s hs=>WA.mono hs hk⟩⟩
theorem rL{id:Nat}{l:List Oper}{y:Code}{st:St}{Q:Exit→St→Prop}(t':cg)(σ':cc)(hm:P.follows .mixedOrders=true)(h:WA P N L l.toArray l.length (Array.replicate l.length false) st (fun s=>s.σ=σ'∧Sub s.t t'))(hq:W P N L y ⟨t',σ'⟩ Q):W P N L (.seq (.region id l.toArray true) y) st Q:=
 oZ hm (h.mono fun s hs=>by
  obtain⟨t,σ⟩:=s
  obtain⟨h1,h2⟩:=hs
  subst h1
  exact lB h2 hq)
theorem Sat.seal{F:Nat→Prop}{base:Nat}{σ:cc}{E:Env}{w:World}(hS:Sat F base σ E w){i e s n:Nat}{xs:List PV}(hi:σ[i]? =some (some (.row e s n xs))){v:Value}(hv:cK E w v (.own i)):cK (E.kill i) w v (.slice n xs):=by
 obtain⟨_,g⟩:=hS.kill i hi
 cases hv with
 |own _ hiL _ h _=>
  obtain⟨cs,k1,k2⟩:=hS.blk i _ hi
  rw[h]at k1
  have k3:=k1
  rcases k1.2 with⟨rfl,h0⟩|⟨b,cap,cur,rfl,hb,hg,hn,hc,hs',ht⟩
  ·subst h0
   have:xs=[]:=by
    have:=k3.1;simp at this;subst this
    exact List.eq_nil_of_length_eq_zero k2.1.symm
   subst this
   exact .bQ
  ·by_cases h0:n=0
   ·subst h0
    have:xs=[]:=by
     have:=k3.1;simp at this;subst this
     exact List.eq_nil_of_length_eq_zero k2.1.symm
    subst this
    exact .empty _ _ hc
   ·refine .slice b 0 n cap cs xs (by omega) hn hc (Array.getElem?_eq_some_iff.1 hg).1 (fun hM=>hM.2 (by rw[h];rfl)) (fun j x hx=>?_) k2.1 (fun j x u h1 h2=>(k2.2 j x u h1 h2).goes g)
    have:=k3.cells (g:=b) I j x hx
    rw[Addr.add_lit]at this
    exact this
theorem Fv{c:Code}{t:cg}{σ:cc}{Q:Exit→St→Prop}(k i:Nat){e s n:Nat}{xs:List PV}(hk:look k t=some (.own i))(hi:σ[i]? =some (some (.row e s n xs)))(h:W P N L c ⟨(k,.slice n xs)::t,σ.set i none⟩ Q):W P N L c ⟨t,σ⟩ Q:=fun F base E₀ w₀ E a w hc hs=>by
 obtain⟨a1,a2⟩:=hs.sat.kill i hi
 exact h F base E₀ w₀ _ a w (hc.on a2 (Below.refl _ _)) ⟨a1,(hs.tmp.goes a2).EH (hs.sat.seal hi (hs.tmp k _ hk)),hs.j9,hs.size⟩
theorem fN{c:Code}{t:cg}{σ:cc}{Q:Exit→St→Prop}(k i off:Nat){ty:TypeId}{xs:List PV}(hk:look k t=some (.ptr i off))(hi:σ[i]? =some (some (.cells ty xs)))(h:W P N L c ⟨(k,.bc xs off)::t,σ.set i none⟩ Q):W P N L c ⟨t,σ⟩ Q:=fun F base E₀ w₀ E a w hc hs=>by
 obtain⟨a1,a2⟩:=hs.sat.kill i hi
 have hv:=hs.tmp k _ hk
 obtain⟨b,cs,h1,h2,h3,h4⟩:=hs.sat.blk i _ hi
 have hp:cK (E.kill i) w (a.eval (.tmp k)) (.bc xs off):=by
  generalize a.eval (.tmp k)=z at hv
  cases hv with
  |ptr _ _ b' hi' h=>
   have hb:b'=b:=by
    rcases h with h|⟨n,c,h⟩<;>rw[h1]at h<;>cases h
    rfl
   subst hb
   have:=cK.bc (E:=E.kill i) (w:=w) b' 0 off cs.toList xs (Array.getElem?_eq_some_iff.1 h3).1 (fun hM=>hM.2 (by rw[h1];rfl)) (fun j x hx=>by rw[Nat.zero_add];unfold World.cell?;simp only[h3];simpa using hx) h4.1 (fun j x u k1 k2=>(h4.2 j x u k1 k2).goes a2)
   rw[Nat.zero_add]at this
   exact this
 exact h F base E₀ w₀ _ a w (hc.on a2 (Below.refl _ _)) ⟨a1,(hs.tmp.goes a2).EH hp,hs.j9,hs.size⟩
end
open Net
theorem eX(n lo hi:Int):Can Tryz.prog 116 [num n,num lo,num hi] (· =flag (bL n lo hi)):=by
 obtain⟨p1,hp1⟩:∃q,decide (lo≤n)=q:=⟨_,rfl⟩
 obtain⟨p2,hp2⟩:∃q,decide (n≤hi)=q:=⟨_,rfl⟩
 have he:bL n lo hi=(p1&&p2):=by rw[←hp1,←hp2];unfold bL;exact Bool.decide_and _ _
 rw[he]
 refine aI Tryz.func116 I Tryz.ntmps116 I<|ab (.a 1 I<|.k [0,1,2] I)<|bE 6 (.raw (.bool (p1&&p2))) [] I ?_ ?_
 ·refine .a 2 I<|.v (cd I (hp1)) I<|.a 1 I<|?_
  cases p1
  ·exact .a 5 I<|.k [6] I
  ·exact .a 2 I<|.v (cd I (hp2)) I<|.a 2 I<|.k [6] I
 exact ao<|⟨_,_,az.of I,ay.pure,rfl⟩
set_option maxHeartbeats 2000000 in
theorem eZ(T:an):Can Tryz.prog 58 [aN T] (· =flag (aq T)):=by
  obtain⟨p0,hp0⟩:∃q,bL T.nodes 1 64=q:=⟨_,rfl⟩
  obtain⟨p1,hp1⟩:∃q,decide ((T.over.length:Int)≠0)=q:=⟨_,rfl⟩
  obtain⟨p2,hp2⟩:∃q,decide ((T.over.length:Int)≠T.nodes)=q:=⟨_,rfl⟩
  obtain⟨p3,hp3⟩:∃q,decide (256<(T.ag.length:Int))=q:=⟨_,rfl⟩
  have hw:Can Tryz.prog 116 [num T.nodes,num 1,num 64] (· =flag p0):=by rw[←hp0];exact eX _ _ _
  refine aI Tryz.func58 I Tryz.ntmps58 I<|ab (.a 2 I<|.k [1] I)<|aj<|bE 28 (.raw (.bool (((!p0)||(p1&&p2))||p3))) [1] I ?_ ?_
  · refine .a 2 I<|.c rfl (hw) I<|.a 2 I<|?_
    cases p0
    · exact .a 19 I<|.k [28,1] I
    · refine .a 3 I<|.v (cd I (hp1)) I<|.a 1 I<|?_
      cases p1
      · exact .a 12 I<|.v (cd I (hp3)) I<|.a 1 I<|.k [28,1] I
      · refine .a 5 I<|.v (cd I (hp2)) I<|.a 3 I<|?_
        cases p2
        · exact .a 3 I<|.v (cd I (hp3)) I<|.a 1 I<|.k [28,1] I
        · exact .a 5 I<|.k [28,1] I
  refine ah I (fun hc=>?_) (fun hc=>?_)
  · have hv:aq T=false:=by
      rcases Bool.or_eq_true_iff.1 hc with h|h
      · rcases Bool.or_eq_true_iff.1 h with h|h
        · exact(hJ T (.inl (by rw[hp0];simpa using h))).symm
        · obtain⟨a1,a2⟩:=Bool.and_eq_true_iff.1 h
          rw[a1]at hp1
          rw[a2]at hp2
          exact(hJ T (.inr (.inr ⟨by have:=tt hp1;omega,tt hp2⟩))).symm
      · rw[h]at hp3;exact(hJ T (.inr (.inl (by have:=tt hp3;omega)))).symm
    rw[hv]
    exact ab (.a 1 I<|.k [2] I)<|ao<|⟨_,_,az.of I,ay.pure,rfl⟩
  · obtain ⟨c1, c2⟩ := Bool.or_eq_false_iff.1 hc
    obtain⟨c1,c3⟩:=Bool.or_eq_false_iff.1 c1
    have h0:p0=true:=by simpa using c1
    rw[h0]at hp0
    rw[c2]at hp3
    have hle:T.ag.length≤256:=by have:=ff hp3;omega
    have hov:T.over.length=0∨(T.over.length:Int)=T.nodes:=by
      rcases Bool.and_eq_false_iff.1 c3 with h|h
      · rw[h]at hp1;exact .inl (by have:=ff hp1;omega)
      · rw[h]at hp2;exact .inr (by have:=ff hp2;omega)
    rw[rv T hp0 hle hov]
    have hnd:=oA hp0
    clear hw hc c1 c3 hp1 hp2
    refine ai<|aj<|ab (.a 1 I<|.k [1,3] I)<|aw<|eS [1,3] I<|bu (fun r s=>∃k,k≤T.ag.length∧r=T.ag.length - k∧(T.ag.take k).all (iJ T)=true∧s=⟨[(1,.bc (bC T) 0),(3,num k)],[]⟩) T.ag.length ⟨0,by omega,by omega,by simp,rfl⟩ ?_
    rintro r s ⟨k,hk,rfl,hall,rfl⟩
    refine aj<|ab (.a 5 I<|.k [1,3,33] I)<|ah I (fun hc=>?_) (fun hc=>?_)
    · have hlt:k<T.ag.length:=by have:=tt hc;omega
      obtain⟨q1,g1⟩:∃q,decide ((cC T.ag k).a=(cC T.ag k).b)=q:=⟨_,rfl⟩
      obtain⟨q2,g2⟩:∃q,bm T (cC T.ag k).a=q:=⟨_,rfl⟩
      obtain⟨q3,g3⟩:∃q,bm T (cC T.ag k).b=q:=⟨_,rfl⟩
      obtain⟨q4,g4⟩:∃q,bL (cC T.ag k).c0 1 65535=q:=⟨_,rfl⟩
      obtain⟨q5,g5⟩:∃q,bL (cC T.ag k).c1 1 65535=q:=⟨_,rfl⟩
      obtain⟨q6,g6⟩:∃q,bL (cC T.ag k).cap 0 1048576=q:=⟨_,rfl⟩
      obtain⟨q7,g7⟩:∃q,bL (cC T.ag k).fK 1 65536=q:=⟨_,rfl⟩
      obtain⟨q8,g8⟩:∃q,bL (cC T.ag k).vF 0 64=q:=⟨_,rfl⟩
      have hOK:=s8 (T:=T) (l:=cC T.ag k) (q1:=q1) (by rw[←g1];exact Bool.eq_iff_iff.2 (by simp)) g2 g3 g4 g5 g6 g7 g8
      have hall':=wq (iJ T) T.ag k hlt
      have hno:=xp (iJ T) T.ag k hlt
      rw[hOK]at hall' hno
      have n2:=eX (cC T.ag k).a 0 (T.nodes - 1)
      rw[pQ,g2]at n2
      have n3:=eX (cC T.ag k).b 0 (T.nodes - 1)
      rw[pQ,g3]at n3
      have n4:=eX (cC T.ag k).c0 1 65535
      rw[g4]at n4
      have n5:=eX (cC T.ag k).c1 1 65535
      rw[g5]at n5
      have n6:=eX (cC T.ag k).cap 0 1048576
      rw[g6]at n6
      have n7:=eX (cC T.ag k).fK 1 65536
      rw[g7]at n7
      have n8:=eX (cC T.ag k).vF 0 64
      rw[g8]at n8
      clear hOK g2 g3 g4 g5 g6 g7 g8
      refine ai<|aj<|aw<|aP<|av 3 I<|bw (aM (k*7) I) I<|bw (fG I (DT T.ag k hlt) I) I<|av 2 I<|aG [1,3,4] I ?_
      refine fN 4 0 0 I I ?_
      refine dI [] (.c 1<|.c 3<|.c 4 .nil) .nil rfl rfl ?_
      refine aj<|bE 77 (.raw (.bool (((((!q2)|| !q3)||q1)|| !q4)|| !q5))) [1,3,4] I ?_ ?_
      · refine .a 4 I<|.v (aV I) I<|.c rfl (n2) I<|.a 2 I<|?_
        cases q2
        · exact .a 29 I<|.k [77,1,3,4] I
        · refine .a 4 I<|.v (aV I) I<|.c rfl (n3) I<|.a 3 I<|?_
          cases q3
          · exact .a 20 I<|.k [77,1,3,4] I
          · refine .a 4 I<|.v (cd I (g1)) I<|.a 2 I<|?_
            cases q1
            · refine .a 1 I<|.v (aM (0) I) I<|.a 1 I<|.c rfl (n4) I<|.a 3 I<|?_
              cases q4
              · exact .a 6 I<|.k [77,1,3,4] I
              · exact .a 1 I<|.v (aM (1) I) I<|.a 1 I<|.c rfl (n5) I<|.a 2 I<|.k [77,1,3,4] I
            · exact .a 13 I<|.k [77,1,3,4] I
      refine ah I (fun hx=>?_) (fun hx=>?_)
      · have hno':=hno (by cases q1<;>cases q2<;>cases q3<;>cases q4<;>cases q5<;>simp_all)
        rw[hno']
        exact ab (.a 1 I<|.k [2] I)<|ao<|⟨_,_,az.of I,ay.pure,rfl⟩
      · have e1:q1=false:=by cases q1<;>simp_all
        have e2:q2=true:=by cases q2<;>simp_all
        have e3:q3=true:=by cases q3<;>simp_all
        have e4:q4=true:=by cases q4<;>simp_all
        have e5:q5=true:=by cases q5<;>simp_all
        subst e1 e2 e3 e4 e5
        clear n2 n3 n4 n5 hx
        refine ai<|bE 93 (.raw (.bool (((!q6)|| !q7)|| !q8))) [1,3] I ?_ ?_
        · refine .a 2 I<|.c rfl (n6) I<|.a 2 I<|?_
          cases q6
          · exact .a 11 I<|.k [93,1,3] I
          · refine .a 2 I<|.c rfl (n7) I<|.a 3 I<|?_
            cases q7
            · exact .a 5 I<|.k [93,1,3] I
            · exact .a 2 I<|.c rfl (n8) I<|.a 2 I<|.k [93,1,3] I
        refine ah I (fun hx=>?_) (fun hx=>?_)
        · have hno':=hno (by cases q6<;>cases q7<;>cases q8<;>simp_all)
          rw[hno']
          exact ab (.a 1 I<|.k [2] I)<|ao<|⟨_,_,az.of I,ay.pure,rfl⟩
        · have e1:q6=true:=by cases q6<;>simp_all
          have e2:q7=true:=by cases q7<;>simp_all
          have e3:q8=true:=by cases q8<;>simp_all
          subst e1 e2 e3
          clear n6 n7 n8 hx
          refine ai<|aC (.a 1 I<|.v (aV I) I<|.a 1 I<|.k [1,3] I) ?_
          exact⟨T.ag.length - (k+1),by omega,k+1,by omega,rfl,by rw[hall',hall];rfl,rfl⟩
    · have hke:k=T.ag.length:=by have:=ff hc;omega
      subst hke
      rw[List.take_length]at hall
      rw[hall]
      exact bh<|ab (.a 1 I<|.k [2] I)<|ao<|⟨_,_,az.of I,ay.pure,rfl⟩
theorem kc(T:an)(hv:aq T=true):Can Tryz.prog 94 [aN T] (· =num (2*(T.ag.length:Int))):=by
 have hll:=bV hv
 have h:=eZ T
 rw[hv]at h
 refine aI Tryz.func94 I Tryz.ntmps94 I<|ab (.a 2 I<|.k [1] I)<|aj<|ab (.a 1 I<|.c rfl (h) I<|.a 1 I<|.k [1,5] I)<|ah I (fun hc=>?_) (fun hc=>?_)
 ·cases hc
 ·exact ai<|ab (.a 3 I<|.v (aV I) I<|.a 1 I<|.k [2] I)<|ao<|⟨_,_,az.of I,ay.pure,rfl⟩
theorem oJ{T:an}{a:Int}{p1 p2:Bool}(hp1:decide (a<0)=p1)(hp2:decide (2*(T.ag.length:Int)≤a)=p2)(hc:(p1||p2)=true):¬(0≤a∧a<2*(T.ag.length:Int)):=by
 rcases Bool.or_eq_true_iff.1 hc with h|h
 ·rw[h]at hp1;have:=tt hp1;omega
 ·rw[h]at hp2;have:=tt hp2;omega
theorem mC{T:an}{a:Int}{p1 p2:Bool}(hp1:decide (a<0)=p1)(hp2:decide (2*(T.ag.length:Int)≤a)=p2)(hc:(p1||p2)=false):0≤a∧a<2*(T.ag.length:Int):=by
 obtain⟨h1,h2⟩:=Bool.or_eq_false_iff.1 hc
 rw[h1]at hp1
 rw[h2]at hp2
 have:=ff hp1
 have:=ff hp2
 omega
theorem mU(T:an)(hv:aq T=true)(a:Int):Can Tryz.prog 39 [aN T,num a] (· =num (nr T a)):=by
 have hll:=bV hv
 obtain⟨p1,hp1⟩:∃q,decide (a<0)=q:=⟨_,rfl⟩
 obtain⟨p2,hp2⟩:∃q,decide (2*(T.ag.length:Int)≤a)=q:=⟨_,rfl⟩
 refine aI Tryz.func39 I Tryz.ntmps39 I<|ab (.a 2 I<|.k [1,2] I)<|aj<|aw<|bE 5 (.raw (.bool (p1||p2))) [1,2] I ?_ ?_
 ·refine .a 1 I<|.v (cd I (hp1)) I<|.a 1 I<|?_
  cases p1
  ·exact .a 2 I<|.c rfl (kc T hv) I<|.v (cd I (hp2)) I<|.a 2 I<|.k [5,1,2] I
  ·exact .a 6 I<|.k [5,1,2] I
 refine ah I (fun hc=>?_) (fun hc=>?_)
 ·unfold nr
  rw[if_neg (oJ hp1 hp2 hc)]
  exact ab (.a 1 I<|.k [4] I)<|ao<|⟨_,_,az.of I,ay.pure,rfl⟩
 ·have hy:=mC hp1 hp2 hc
  unfold nr
  rw[if_pos hy]
  clear hp1 hp2 hc
  obtain⟨a,rfl⟩:=Int.eq_ofNat_of_zero_le hy.1
  have hi:a / 2<T.ag.length:=by omega
  unfold br
  rw[Int.toNat_natCast]
  refine ab (.a 1 I<|.v (tP I I I (by decide) (Et a)) I<|.a 2 I<|.k [1,2,14] I)<|ah I (fun hc=>?_) (fun hc=>?_)
  ·have h2:a % 2=0:=by have:=tt hc;omega
   rw[if_pos h2]
   exact ab (.a 3 I<|.v (jP I I I (by decide) (yb a) (by unfold In64;omega)) I<|.v (aM (a / 2*7) I) I<|.a 1 I<|.v (aJ I (fq T.ag (a / 2) 0 hi (by omega))) I<|.a 1 I<|.k [4] I)<|ao<|⟨_,_,az.of I,ay.pure,rfl⟩
  ·have h2:¬a % 2=0:=by have:=ff hc;omega
   rw[if_neg h2]
   exact ai<|ab (.a 3 I<|.v (jP I I I (by decide) (yb a) (by unfold In64;omega)) I<|.v (aM (a / 2*7) I) I<|.a 1 I<|.v (aJ I (fq T.ag (a / 2) 1 hi (by omega))) I<|.a 1 I<|.k [4] I)<|ao<|⟨_,_,az.of I,ay.pure,rfl⟩
theorem Hw(a:Nat):(((a / 2:Nat):Int)*2+1) - ((a % 2:Nat):Int)=((Net.flip a:Nat):Int):=by unfold Net.flip;split<;>omega
theorem CA(T:an)(hv:aq T=true)(a:Int):Can Tryz.prog 41 [aN T,num a] (· =num (wR T a)):=by
 have hll:=bV hv
 obtain⟨p1,hp1⟩:∃q,decide (a<0)=q:=⟨_,rfl⟩
 obtain⟨p2,hp2⟩:∃q,decide (2*(T.ag.length:Int)≤a)=q:=⟨_,rfl⟩
 refine aI Tryz.func41 I Tryz.ntmps41 I<|ab (.a 2 I<|.k [1,2] I)<|aj<|bE 12 (.raw (.bool (p1||p2))) [1,2] I ?_ ?_
 ·refine .a 1 I<|.v (cd I (hp1)) I<|.a 1 I<|?_
  cases p1
  ·exact .a 2 I<|.c rfl (kc T hv) I<|.v (cd I (hp2)) I<|.a 1 I<|.k [12,1,2] I
  ·exact .a 5 I<|.k [12,1,2] I
 refine ah I (fun hc=>?_) (fun hc=>?_)
 ·unfold wR
  rw[if_neg (oJ hp1 hp2 hc)]
  exact ab (.a 1 I<|.k [4] I)<|ao<|⟨_,_,az.of I,ay.pure,rfl⟩
 ·have hy:=mC hp1 hp2 hc
  unfold wR
  rw[if_pos hy]
  clear hp1 hp2 hc
  obtain⟨a,rfl⟩:=Int.eq_ofNat_of_zero_le hy.1
  rw[Int.toNat_natCast]
  have ht:=mU T hv ((Net.flip a:Nat):Int)
  rw[tO T (Net.flip a) (by unfold Net.flip;split<;>omega)]at ht
  exact ai<|ab (.a 2 I<|.v (jP I I I (by decide) (yb a) (by unfold In64;omega)) I<|.v (aV I) I<|.v (aV I) I<|.a 1 I<|.v (tP I I I (by decide) (Et a)) I<|.v (aV I (hc:=Hw a) (hn:=by unfold In64 Net.flip;split<;>omega)) I<|.c rfl (ht) I<|.a 1 I<|.k [4] I)<|ao<|⟨_,_,az.of I,ay.pure,rfl⟩
theorem BJ(T:an)(hv:aq T=true)(a:Int):Can Tryz.prog 42 [aN T,num a] (· =num (xk T a)):=by
 have hll:=bV hv
 obtain⟨p1,hp1⟩:∃q,decide (a<0)=q:=⟨_,rfl⟩
 obtain⟨p2,hp2⟩:∃q,decide (2*(T.ag.length:Int)≤a)=q:=⟨_,rfl⟩
 refine aI Tryz.func42 I Tryz.ntmps42 I<|ab (.a 2 I<|.k [1,2] I)<|aj<|bE 12 (.raw (.bool (p1||p2))) [1,2] I ?_ ?_
 ·refine .a 1 I<|.v (cd I (hp1)) I<|.a 1 I<|?_
  cases p1
  ·exact .a 2 I<|.c rfl (kc T hv) I<|.v (cd I (hp2)) I<|.a 1 I<|.k [12,1,2] I
  ·exact .a 5 I<|.k [12,1,2] I
 refine ah I (fun hc=>?_) (fun hc=>?_)
 ·unfold xk
  rw[if_neg (oJ hp1 hp2 hc)]
  exact ab (.a 1 I<|.k [4] I)<|ao<|⟨_,_,az.of I,ay.pure,rfl⟩
 ·have hy:=mC hp1 hp2 hc
  unfold xk
  rw[if_pos hy]
  clear hp1 hp2 hc
  obtain⟨a,rfl⟩:=Int.eq_ofNat_of_zero_le hy.1
  rw[Int.toNat_natCast]
  exact ai<|ab (.a 3 I<|.v (jP I I I (by decide) (yb a) (by unfold In64;omega)) I<|.a 1 I<|.v (tP I I I (by decide) (Et a)) I<|.v (aM (a / 2*7) I) I<|.a 1 I<|.v (aM (a % 2) I) I<|.v (aJ I (wx T a (by omega))) I<|.a 1 I<|.k [4] I)<|ao<|⟨_,_,az.of I,ay.pure,rfl⟩
theorem jA(T:an)(hv:aq T=true)(a:Nat)(ha:a<2*T.ag.length):Can Tryz.prog 39 [aN T,num a] (· =num (br T a)):=by rw[←tO T a ha];exact mU T hv a
theorem jG(T:an)(hv:aq T=true)(a:Nat)(ha:a<2*T.ag.length):Can Tryz.prog 41 [aN T,num a] (· =num (aS T a)):=by rw[←BX T a ha];exact CA T hv a
theorem ln(T:an)(hv:aq T=true)(a:Nat)(ha:a<2*T.ag.length):Can Tryz.prog 42 [aN T,num a] (· =num (cn T a)):=by rw[←A7 T a ha];exact BJ T hv a
theorem th(T:an)(hv:aq T=true)(n:Nat):Can Tryz.prog 62 [aN T,num n] (· =flag (dh T n)):=by
 have h:=eZ T
 rw[hv]at h
 obtain⟨p1,hp1⟩:∃q,decide ((n:Int)<(T.over.length:Int))=q:=⟨_,rfl⟩
 obtain⟨p2,hp2⟩:∃q,T.over.getD n false=q:=⟨_,rfl⟩
 have he:dh T n=(p1&&p2):=by
  unfold dh
  cases p1
  ·have:=ff hp1
   rw[List.getD_eq_getElem?_getD,List.getElem?_eq_none (by omega)];rfl
  ·exact hp2
 rw[he]
 have h0:decide (0≤(n:Int))=true:=decide_eq_true (by omega)
 refine aI Tryz.func62 I Tryz.ntmps62 I<|ab (.a 2 I<|.k [1,2] I)<|bE 4 (.raw (.bool (p1&&p2))) [] I ?_ ?_
 ·refine .a 1 I<|.c rfl (h) I<|.a 2 I<|.v (cd I h0) I<|.a 6 I<|.v (cd I (hp1)) I<|.a 2 I<|?_
  cases p1
  ·exact .a 7 I<|.k [4] I
  ·exact .a 3 I<|.v (aM (n) I (by omega) (by have:=tt hp1;omega)) I<|.v (aJ I (show _=some (flag p2) by rw[dy _ n (by have:=tt hp1;omega),hp2])) I<|.a 2 I<|.k [4] I
 exact ao<|⟨_,_,az.of I,ay.pure,rfl⟩
theorem BM(T:an)(D:List Bool):Can Tryz.prog 134 [aN T,bq D] (· =flag (aq T&&bW T D)):=by
 obtain⟨p0,hp0⟩:∃q,aq T=q:=⟨_,rfl⟩
 have h:=eZ T
 rw[hp0]at h
 obtain⟨p1,hp1⟩:∃q,decide ((D.length:Int)=0)=q:=⟨_,rfl⟩
 obtain⟨p2,hp2⟩:∃q,decide ((D.length:Int)=2*(T.ag.length:Int))=q:=⟨_,rfl⟩
 have he:bW T D=(p1||p2):=by rw[←hp1,←hp2];unfold bW;rw[←Bool.decide_or];exact decide_eq_decide.2 (by omega)
 rw[he,hp0]
 refine aI Tryz.func134 I Tryz.ntmps134 I<|ab (.a 2 I<|.k [1,2] I)<|bE 4 (.raw (.bool (p0&&(p1||p2)))) [] I ?_ ?_
 ·refine .a 1 I<|.c rfl (h) I<|.a 1 I<|?_
  cases p0
  ·exact .a 14 I<|.k [4] I
  ·refine .a 2 I<|.v (cd I (hp1)) I<|.a 1 I<|?_
   cases p1
   ·exact .a 5 I<|.v (aV I (hn:=by have:=bV hp0;unfold In64;omega)) I<|.v (cd I (hp2)) I<|.a 3 I<|.k [4] I
   ·exact .a 10 I<|.k [4] I
 exact ao<|⟨_,_,az.of I,ay.pure,rfl⟩
theorem uH(D:List Bool)(a:Nat)(ha:D.length=0∨a<D.length):Can Tryz.prog 40 [bq D,num a] (· =flag (!aQ D a)):=by
 obtain⟨p1,hp1⟩:∃q,decide ((D.length:Int)=0)=q:=⟨_,rfl⟩
 obtain⟨p2,hp2⟩:∃q,D.getD a false=q:=⟨_,rfl⟩
 have he:(!aQ D a)=(p1|| !p2):=by
  rw[Al (p1:= !p1) (by rw[←hp1];rw[←decide_not];exact decide_eq_decide.2 (by omega)) hp2]
  cases p1<;>cases p2<;>rfl
 rw[he]
 refine aI Tryz.func40 I Tryz.ntmps40 I<|ab (.a 1 I<|.k [0,1] I)<|bE 4 (.raw (.bool (p1|| !p2))) [] I ?_ ?_
 ·refine .a 2 I<|.v (cd I (hp1)) I<|.a 1 I<|?_
  cases p1
  ·exact .a 2 I<|.v (aM (a) I (by omega) (by have:=ff hp1;omega)) I<|.v (aJ I (show _=some (flag p2) by rw[dy _ a (by have:=ff hp1;omega),hp2])) I<|.a 3 I<|.k [4] I
  ·exact .a 7 I<|.k [4] I
 exact ao<|⟨_,_,az.of I,ay.pure,rfl⟩
theorem kV(T:an)(hv:aq T=true)(n d:Nat):Can Tryz.prog 97 [aN T,num n,num d] (· =flag (decide (n=d)|| !dh T n)):=by
 obtain⟨p1,hp1⟩:∃q,decide ((n:Int)=(d:Int))=q:=⟨_,rfl⟩
 obtain⟨p2,hp2⟩:∃q,dh T n=q:=⟨_,rfl⟩
 have he:decide (n=d)=p1:=by rw[←hp1];exact decide_eq_decide.2 (by omega)
 have h:=th T hv n
 rw[hp2]at h
 rw[he,hp2]
 refine aI Tryz.func97 I Tryz.ntmps97 I<|ab (.a 2 I<|.k [1,2,3] I)<|bE 6 (.raw (.bool (p1|| !p2))) [] I ?_ ?_
 ·refine .a 2 I<|.v (cd I (hp1)) I<|.a 1 I<|?_
  cases p1
  ·exact .a 2 I<|.c rfl (h) I<|.a 3 I<|.k [6] I
  ·exact .a 6 I<|.k [6] I
 exact ao<|⟨_,_,az.of I,ay.pure,rfl⟩
theorem BY(L M:List Int):Can Tryz.prog 35 [au L,au M] (· =flag (nt L M)):=by
 refine lq fun⟨E,w,vs,hR⟩=>?_
 obtain⟨v,_,hv⟩:=hR.get (i:=0) I
 have hm:=jJ hv
 unfold maxLen at hm
 refine aI Tryz.func35 I Tryz.ntmps35 I<|ab (.a 1 I<|.k [0,1] I)<|aj<|ab (.a 5 I<|.k [0,1,10] I)<|ah I (fun hc=>?_) (fun hc=>?_)
 ·rw[←CV L M (by have:=tt hc;omega)]
  exact ab (.a 1 I<|.k [4] I)<|ao<|⟨_,_,az.of I,ay.pure,rfl⟩
 ·have hlen:M.length=L.length:=by have:=ff hc;omega
  refine ai<|aj<|ab (.a 1 I<|.k [0,1,5] I)<|aw<|eS [0,1,5] I<|bu (fun r s=>∃k,k≤L.length∧r=L.length - k∧(∀i,i<k→L.getD i 0=M.getD i 0)∧s=⟨[(0,au L),(1,au M),(5,num k)],[]⟩) L.length ⟨0,by omega,by omega,fun i hi=>by omega,rfl⟩ ?_
  rintro r s ⟨k,hk,rfl,hall,rfl⟩
  refine aj<|ab (.a 4 I<|.k [0,1,5,14] I)<|ah I (fun hc=>?_) (fun hc=>?_)
  ·have hlt:k<L.length:=by have:=tt hc;omega
   refine ai<|aj<|aw<|ef mixed (by kernel_rfl) (.a 2 I<|.v [17,18] (aM (k) I) I I<|.v [19] (aJ I (aB L k hlt)) I I<|.a 2 I<|.v [21,22] (aM (k) I) I I<|.v [23] (aJ I (aB M k (by omega))) I I<|.a 1 I<|.k [0,1,5,25] I) ?_
   refine ah I (fun hx=>?_) (fun hx=>?_)
   ·rw[←HM L M k (tt hx)]
    exact ab (.a 1 I<|.k [4] I)<|ao<|⟨_,_,az.of I,ay.pure,rfl⟩
   ·have hx':L.getD k 0=M.getD k 0:=by have:=ff hx;omega
    refine ai<|aC (.a 1 I<|.v (aV I) I<|.a 1 I<|.k [0,1,5] I) ?_
    refine⟨L.length - (k+1),by omega,k+1,by omega,rfl,fun i hi=>?_,rfl⟩
    by_cases h:i=k
    ·rw[h];exact hx'
    ·exact hall i (by omega)
  ·have hke:k=L.length:=by have:=ff hc;omega
   rw[←EV L M hlen (fun i hi=>hall i (by omega))]
   exact bh<|ab (.a 1 I<|.k [4] I)<|ao<|⟨_,_,az.of I,ay.pure,rfl⟩
end
end PW
end Go.Proofs.YtnegbdpggideiaaGreatDoor
namespace Go.Proofs.YtnegbdpggideiaaGreatDoor
namespace Heap
section
def par(q:Nat):Nat:=(q - 1) / 2
theorem fI{q:Nat}(h:0<q):par q<q:=by unfold par;omega
theorem HH{p c:Nat}(h:0<c)(hc:par c=p):c=2*p+1∨c=2*p+2:=by unfold par at hc;omega
def rn(f:Nat→Int)(len:Nat):Prop:=∀q,0<q→q<len→f (par q)≤f q
def Ig(f:Nat→Int)(len p:Nat):Prop:=0<p→∀c,0<c→c<len→par c=p→f (par p)≤f c
def oh(f:Nat→Int)(len p:Nat):Prop:=(∀q,0<q→q<len→q≠p→par q≠p→f (par q)≤f q)∧Ig f len p
def tZ(f:Nat→Int)(len p:Nat):Prop:=(∀q,0<q→q<len→par q≠p→f (par q)≤f q)∧Ig f len p
def FG(f:Nat→Int)(p q x:Nat):Int:=if x=p then f q else if x=q then f p else f x
theorem wj(f:Nat→Int)(p q:Nat):FG f p q p=f q:=by simp[FG]
theorem J8(f:Nat→Int)(p q:Nat):FG f p q q=f p:=by
 unfold FG;split
 ·rename_i h;rw[h]
 ·simp
theorem kY(f:Nat→Int){p q x:Nat}(h1:x≠p)(h2:x≠q):FG f p q x=f x:=by simp[FG,h1,h2]
theorem EJ{f:Nat→Int}{len p:Nat}(h:oh f len p)(hp:0<p)(hl:p<len)(_:f p<f (par p)):oh (FG f p (par p)) len (par p):=by
 have hpp:=fI hp
 refine⟨fun q h0 hq h1 h2=>?_,fun hg c h0 hc hpc=>?_⟩
 ·by_cases e:par q=p
  ·have hqp:=fI h0
   rw[e,wj,kY f (by omega) h1]
   exact h.2 hp q h0 hq e
  ·have hqp:q≠p:=fun e'=>h2 (by rw[e'])
   rw[kY f e h2,kY f hqp h1]
   exact h.1 q h0 hq hqp e
 ·have hgg:=fI hg
  rw[kY f (by omega) (by omega)]
  have h3:=h.1 (par p) hg (by omega) (by omega) (by omega)
  by_cases e:c=p
  ·rw[e,wj];exact h3
  ·have:=fI h0
   rw[kY f e (by omega)]
   have:=h.1 c h0 hc e (by omega)
   rw[hpc]at this
   omega
theorem zM{f:Nat→Int}{len p:Nat}(h:oh f len p)(hp:p=0∨f (par p)≤f p):tZ f len p:=
 ⟨fun q h0 hq h2=>by
  by_cases e:q=p
  ·subst e
   rcases hp with h'|h'
   ·omega
   ·exact h'
  ·exact h.1 q h0 hq e h2,h.2⟩
theorem zP{f:Nat→Int}{len p:Nat}(h:tZ f len p)(hk:∀c,0<c→c<len→par c=p→f p≤f c):rn f len:=fun q h0 hq=>by
 by_cases e:par q=p
 ·rw[e];exact hk q h0 hq e
 ·exact h.1 q h0 hq e
theorem yn{f:Nat→Int}{len p c:Nat}(h:tZ f len p)(hc0:0<c)(hcl:c<len)(hcp:par c=p)(hlt:f c<f p)(hk:∀c',0<c'→c'<len→par c'=p→f c≤f c'):tZ (FG f p c) len c:=by
 have hpc:=fI hc0
 refine⟨fun q h0 hq h2=>?_,fun _ d h0 hd hdc=>?_⟩
 ·have hqq:=fI h0
  by_cases e:par q=p
  ·rw[e,wj]
   by_cases e':q=c
   ·rw[e',J8];omega
   ·rw[kY f (by omega) e'];exact hk q h0 hq e
  ·rw[kY f e h2]
   by_cases e':q=p
   ·rw[e',wj]
    exact h.2 (by omega) c hc0 hcl hcp
   ·rw[kY f e' (fun e2=>e (by rw[e2];exact hcp))]
    exact h.1 q h0 hq e
 ·have hdd:=fI h0
  rw[hcp,wj,kY f (by omega) (by omega)]
  have:=h.1 d h0 hd (by omega)
  rw[hdc]at this
  exact this
theorem CG{f:Nat→Int}{len:Nat}(h:rn f len):∀q,q<len→f 0≤f q:=by
 intro q
 induction q using Nat.strongRecOn with
 |_ q ih=>
  intro hq
  by_cases e:q=0
  ·rw[e];exact Int.le_refl _
  ·have:=fI (q:=q) (by omega)
   exact Int.le_trans (ih (par q) this (by omega)) (h q (by omega) hq)
theorem xx{f g:Nat→Int}{len p:Nat}(h:rn f len)(he:∀q,q<len→q≠p→g q=f q)(hp:p<len):oh g len p:=by
 refine⟨fun q h0 hq h1 h2=>?_,fun hp0 c h0 hc hcp=>?_⟩
 ·have:=fI h0
  rw[he q hq h1,he (par q) (by omega) h2];exact h q h0 hq
 ·have:=fI h0
  have:=fI hp0
  rw[he (par p) (by omega) (by omega),he c hc (by omega)]
  have h1:=h c h0 hc
  rw[hcp]at h1
  exact Int.le_trans (h p hp0 hp) h1
theorem zc{f g:Nat→Int}{len:Nat}(h:rn f len)(he:∀q,q<len→g q=f q):oh g (len+1) len:=by
 refine⟨fun q h0 hq h1 _=>?_,fun hp0 c h0 hc hcp=>?_⟩
 ·have:=fI h0
  rw[he q (by omega),he (par q) (by omega)];exact h q h0 (by omega)
 ·have:=fI h0;omega
theorem yX{f g:Nat→Int}{len:Nat}(h:rn f (len+1))(he:∀q,q<len→q≠0→g q=f q):oh g len 0:=by
 refine⟨fun q h0 hq h1 h2=>?_,fun hp0=>by omega⟩
 have:=fI h0
 rw[he q hq h1,he (par q) (by omega) h2];exact h q h0 (by omega)
def ki(K:List Int)(i:Int):Int:=K.getD i.toNat 0*65536+i
def rk(K O:List Int)(p:Nat):Int:=ki K (O.getD p 0)
theorem oC{K:List Int}{i j:Int}(hi:0≤i)(hi':i<65536)(hj:0≤j)(hj':j<65536):
  decide (ki K i<ki K j)=(if K.getD i.toNat 0=K.getD j.toNat 0 then decide (i<j) else decide (K.getD i.toNat 0<K.getD j.toNat 0)):=by
 unfold ki
 generalize K.getD i.toNat 0=a
 generalize K.getD j.toNat 0=b
 split
 ·simp only[decide_eq_decide];omega
 ·simp only[decide_eq_decide];omega
theorem EG{K:List Int}{i j:Int}(hi:0≤i)(hj':j<65536)(h:ki K i≤ki K j):K.getD i.toNat 0≤K.getD j.toNat 0:=by
 unfold ki at h;omega
def ec(O:List Int)(p q:Nat):List Int:=(O.set p (O.getD q 0)).set q (O.getD p 0)
theorem gw(O:List Int)(p q:Nat):(ec O p q).length=O.length:=by simp[ec]
theorem eL(L:List Int)(i j:Nat)(c:Int)(hi:i<L.length):(L.set i c).getD j 0=if j=i then c else L.getD j 0:=by
 simp only[List.getD_eq_getElem?_getD,List.getElem?_set]
 by_cases h:i=j
 ·subst h;simp[hi]
 ·rw[if_neg h,if_neg (Ne.symm h)]
theorem dZ(O:List Int)(p q x:Nat)(hp:p<O.length)(hq:q<O.length):(ec O p q).getD x 0=if x=q then O.getD p 0 else if x=p then O.getD q 0 else O.getD x 0:=by
 unfold ec
 rw[eL _ _ _ _ (by simpa using hq),eL _ _ _ _ hp]
theorem As(K O:List Int)(p q:Nat)(hp:p<O.length)(hq:q<O.length):rk K (ec O p q)=FG (rk K O) p q:=by
 funext x
 unfold rk FG
 rw[dZ O p q x hp hq]
 by_cases h1:x=q
 ·subst h1
  rw[if_pos rfl]
  by_cases h2:x=p
  ·rw[if_pos h2,h2]
  ·rw[if_neg h2,if_pos rfl]
 ·rw[if_neg h1]
  by_cases h2:x=p
  ·rw[if_pos h2,if_pos h2]
  ·rw[if_neg h2,if_neg h2,if_neg h1]
def eT(O:List Int)(i:Int):Prop:=∃p,p<O.length∧O.getD p 0=i
theorem mM(O:List Int)(p q:Nat)(hp:p<O.length)(hq:q<O.length)(i:Int):eT (ec O p q) i↔eT O i:=by
 unfold eT
 rw[gw]
 constructor
 ·rintro⟨x,hx,rfl⟩
  rw[dZ O p q x hp hq]
  split
  ·exact⟨p,hp,rfl⟩
  ·split
   ·exact⟨q,hq,rfl⟩
   ·exact⟨x,hx,rfl⟩
 ·rintro⟨x,hx,rfl⟩
  by_cases h1:x=p
  ·exact⟨q,hq,by rw[dZ O p q q hp hq,if_pos rfl,h1]⟩
  ·by_cases h2:x=q
   ·exact⟨p,hp,by
     rw[dZ O p q p hp hq]
     by_cases h3:p=q
     ·omega
     ·rw[if_neg h3,if_pos rfl,h2]⟩
   ·exact⟨x,hx,by rw[dZ O p q x hp hq,if_neg h2,if_neg h1]⟩
structure dM (N:Nat) (P O:List Int):Prop where
 len:P.length=N
 item:∀p,p<O.length→0≤O.getD p 0∧O.getD p 0<N∧P.getD (O.getD p 0).toNat 0=(p:Int)+1
 place:∀i,i<N→P.getD i 0=0∨∃p,p<O.length∧O.getD p 0=(i:Int)
theorem dM.inj{N:Nat}{P O:List Int}(h:dM N P O){p q:Nat}(hp:p<O.length)(hq:q<O.length)(he:O.getD p 0=O.getD q 0):p=q:=by
 have h1:=(h.item p hp).2.2
 have h2:=(h.item q hq).2.2
 rw[he]at h1
 omega
def gZ(P O:List Int)(p q:Nat):List Int:=(P.set (O.getD q 0).toNat ((p:Int)+1)).set (O.getD p 0).toNat ((q:Int)+1)
theorem dM.swap{N:Nat}{P O:List Int}(h:dM N P O){p q:Nat}(hp:p<O.length)(hq:q<O.length):dM N (gZ P O p q) (ec O p q):=by
 have ip:=h.item p hp
 have iq:=h.item q hq
 have hl:=h.len
 refine⟨by simp[gZ,h.len],fun x hx=>?_,fun i hi=>?_⟩
 ·rw[gw]at hx
  have ix:=h.item x hx
  have e:∀j:Int,0≤j→j<N→(gZ P O p q).getD j.toNat 0=if j=O.getD p 0 then(q:Int)+1 else if j=O.getD q 0 then(p:Int)+1 else P.getD j.toNat 0:=fun j h0 h1=>by
   unfold gZ
   rw[eL _ _ _ _ (by rw[List.length_set];omega),eL _ _ _ _ (by omega)]
   have e1:(j.toNat=(O.getD p 0).toNat)=(j=O.getD p 0):=by apply propext;omega
   have e2:(j.toNat=(O.getD q 0).toNat)=(j=O.getD q 0):=by apply propext;omega
   simp only[e1,e2]
  rw[dZ O p q x hp hq]
  by_cases h1:x=q
  ·rw[if_pos h1,e _ ip.1 ip.2.1,if_pos rfl]
   exact⟨ip.1,ip.2.1,by rw[h1]⟩
  ·rw[if_neg h1]
   by_cases h2:x=p
   ·rw[if_pos h2,e _ iq.1 iq.2.1,if_neg (fun e=>by have:=h.inj hq hp e;omega),if_pos rfl]
    exact⟨iq.1,iq.2.1,by rw[h2]⟩
   ·rw[if_neg h2,e _ ix.1 ix.2.1,if_neg (fun e=>h2 (h.inj hx hp e)),if_neg (fun e=>h1 (h.inj hx hq e))]
    exact ix
 ·by_cases hH:eT O (i:Int)
  ·exact .inr ((mM O p q hp hq (i:Int)).2 hH)
  ·rcases h.place i hi with h0|h0
   ·refine .inl ?_
    unfold gZ
    rw[eL _ _ _ _ (by rw[List.length_set];omega),eL _ _ _ _ (by omega),if_neg (fun e=>hH ⟨p,hp,by omega⟩),if_neg (fun e=>hH ⟨q,hq,by omega⟩)]
    exact h0
   ·exact absurd h0 hH
theorem dM.zero{N:Nat}{P O:List Int}(h:dM N P O){i:Nat}(hi:i<N):P.getD i 0=0↔¬eT O (i:Int):=by
 constructor
 ·rintro h0 ⟨p,hp,he⟩
  have:=(h.item p hp).2.2
  rw[he,Int.toNat_natCast,h0]at this
  omega
 ·intro hn
  rcases h.place i hi with h0|h0
  ·exact h0
  ·exact absurd h0 hn
theorem dM.push{N:Nat}{P O:List Int}(h:dM N P O){i:Nat}(hi:i<N)(hn:¬eT O (i:Int)):dM N (P.set i ((O.length:Int)+1)) (O++[(i:Int)]):=by
 have hl:=h.len
 refine⟨by simp[h.len],fun x hx=>?_,fun j hj=>?_⟩
 ·rw[eL _ _ _ _ (by omega)]
  by_cases h1:x<O.length
  ·have ix:=h.item x h1
   have e:(O++[(i:Int)]).getD x 0=O.getD x 0:=by simp[List.getD_eq_getElem?_getD,List.getElem?_append_left h1]
   rw[e,if_neg (fun e=>hn ⟨x,h1,by omega⟩)]
   exact ix
  ·have:x=O.length:=by simp at hx;omega
   subst this
   have e:(O++[(i:Int)]).getD O.length 0=i:=by simp
   rw[e,Int.toNat_natCast,if_pos rfl]
   exact⟨by omega,by omega,rfl⟩
 ·rw[eL _ _ _ _ (by omega)]
  by_cases hji:j=i
  ·exact .inr ⟨O.length,by simp,by simp[hji]⟩
  ·rw[if_neg hji]
   rcases h.place j hj with h0|⟨p,hp,he⟩
   ·exact .inl h0
   ·exact .inr ⟨p,by simp;omega,by simp[List.getD_eq_getElem?_getD,List.getElem?_append_left hp]at he ⊢;exact he⟩
theorem CK(O:List Int)(i j:Int):eT (O++[i]) j↔j=i∨eT O j:=by
 constructor
 ·rintro⟨p,hp,rfl⟩
  by_cases h1:p<O.length
  ·exact .inr ⟨p,h1,by simp[List.getD_eq_getElem?_getD,List.getElem?_append_left h1]⟩
  ·have:p=O.length:=by simp at hp;omega
   subst this
   exact .inl (by simp)
 ·rintro(rfl|⟨p,hp,rfl⟩)
  ·exact⟨O.length,by simp,by simp⟩
  ·exact⟨p,by simp;omega,by simp[List.getD_eq_getElem?_getD,List.getElem?_append_left hp]⟩
theorem lZ(O:List Int)(m x:Nat)(h:x<m):(O.take m).getD x 0=O.getD x 0:=by
 simp[List.getD_eq_getElem?_getD,h]
theorem dM.pop{N:Nat}{P O:List Int}{m:Nat}(h:dM N P O)(hm:O.length=m+1):dM N (P.set (O.getD m 0).toNat 0) (O.take m):=by
 have hl:=h.len
 have im:=h.item m (by omega)
 refine⟨by simp[h.len],fun x hx=>?_,fun j hj=>?_⟩
 ·have hx':x<m:=by simp at hx;omega
  rw[lZ O m x hx',eL _ _ _ _ (by omega)]
  have ix:=h.item x (by omega)
  rw[if_neg (fun e=>by have:=h.inj (p:=x) (q:=m) (by omega) (by omega) (by omega);omega)]
  exact ix
 ·rw[eL _ _ _ _ (by omega)]
  by_cases hjm:j=(O.getD m 0).toNat
  ·exact .inl (if_pos hjm)
  ·rw[if_neg hjm]
   rcases h.place j hj with h0|⟨p,hp,he⟩
   ·exact .inl h0
   ·have:p≠m:=fun e=>hjm (by rw[←e,he];rfl)
    exact .inr ⟨p,by simp;omega,by rw[lZ O m p (by omega)];exact he⟩
theorem Fc{N:Nat}{P O:List Int}{m:Nat}(h:dM N P O)(hm:O.length=m+1)(j:Int):eT (O.take m) j↔eT O j∧j≠O.getD m 0:=by
 constructor
 ·rintro⟨p,hp,rfl⟩
  have hp':p<m:=by simp at hp;omega
  rw[lZ O m p hp']
  exact⟨⟨p,by omega,rfl⟩,fun e=>by have:=h.inj (p:=p) (q:=m) (by omega) (by omega) e;omega⟩
 ·rintro⟨⟨p,hp,rfl⟩,hne⟩
  have:p≠m:=fun e=>hne (by rw[e])
  exact⟨p,by simp;omega,lZ O m p (by omega)⟩
theorem yM:∀(N m:Nat) (f:Nat→Nat),(∀p,p<m→f p<N)→(∀p q,p<m→q<m→f p=f q→p=q)→m≤N
 |0,m,f,h,_=>by
  rcases Nat.eq_zero_or_pos m with h0|h0
  ·omega
  ·have:=h 0 h0;omega
 |N+1,m,f,h,hi=>by
  by_cases hx:∃p,p<m∧f p=N
  ·obtain⟨p0,hp0,he⟩:=hx
   have:=yM N (m - 1) (fun p=>if p=p0 then f (m - 1) else f p) (fun p hp=>by
    by_cases e:p=p0
    ·simp only[e,if_true]
     have h1:=h (m - 1) (by omega)
     have h2:f (m - 1)≠N:=fun e'=>by have:=hi (m - 1) p0 (by omega) hp0 (by omega);omega
     omega
    ·simp only[e,if_false]
     have h1:=h p (by omega)
     have h2:f p≠N:=fun e'=>e (hi p p0 (by omega) hp0 (by omega))
     omega) (fun p q hp hq hpq=>by
    by_cases e:p=p0<;>by_cases e':q=p0
    ·omega
    ·simp only[e,e',if_true,if_false]at hpq
     have:=hi (m - 1) q (by omega) (by omega) hpq
     omega
    ·simp only[e,e',if_true,if_false]at hpq
     have:=hi p (m - 1) (by omega) (by omega) hpq
     omega
    ·simp only[e,e',if_false]at hpq
     exact hi p q (by omega) (by omega) hpq)
   omega
  ·have:=yM N m f (fun p hp=>by
    have h1:=h p hp
    have h2:f p≠N:=fun e=>hx ⟨p,hp,e⟩
    omega) hi
   omega
theorem jz{N:Nat}{P O:List Int}(h:dM N P O):O.length≤N:=
 yM N O.length (fun p=>(O.getD p 0).toNat) (fun p hp=>by have:=h.item p hp;omega) (fun p q hp hq e=>by
  have h1:=h.item p hp
  have h2:=h.item q hq
  exact h.inj hp hq (by omega))
end
end Heap
end Go.Proofs.YtnegbdpggideiaaGreatDoor
namespace Go.Proofs.YtnegbdpggideiaaGreatDoor
namespace PW
section
open Go.RowKit cE Mem Net Heap
def iG(b:Bool)(d:Option cJ)(N n:Nat)(K P O:List Int):cc:=
 match b with
 |false=>[d,some (.cells 236 [.own 2,.own 3,.own 4]),some (.row 3 1 N (aK K)),some (.row 3 1 N (aK P)),some (.row 3 1 n (aK O))]
 |true=>[d,some (.cells 236 [.own 2,.own 3,.own 5]),some (.row 3 1 N (aK K)),some (.row 3 1 N (aK P)),none,some (.row 3 1 n (aK O))]
def JL:cJ→Prop
 | .cells _ xs=>aL xs
 | .row _ _ _ xs=>aL xs
 | .mp kv=>aL (kv.map (·.2))
def lE(d:Option cJ):Prop:=∀b,d=some b→JL b
theorem km.same{fs:List Nat}{σ σ':cc}{js:List Nat}{j:Nat}{d:Option cJ}(hd:lE d)(h:σ[j]? =some d)(hs:km fs σ σ' js):km fs σ (d::σ') (j::js):=by
 cases d with
 |none=>exact .gone hs
 |some b=>
  have hb:=hd b rfl
  cases b with
  |cells ty xs=>haveI:aL xs:=hd _ rfl;exact .kept h (.cells aH.pure) hs
  |row e s n xs=>haveI:aL xs:=hd _ rfl;exact .kept h (.row aH.pure) hs
  |mp kv=>haveI:aL (kv.map (·.2)):=hd _ rfl;exact .kept h .mp hs
def wu(K P O:List Int):PV:=.bc [au K,au P,au O] 0
theorem rN(b:Bool)(d:Option cJ){N n:Nat}{K P O:List Int}(hK:K.length=N)(hP:P.length=N)(hO:O.length=n):ay (iG b d N n K P O) (.ptr 1 0) (wu K P O):=by
 subst hK;subst hO
 unfold wu au
 rw[hP]
 cases b<;>exact ay.ju rfl (af.cons (ay.fr rfl af.pure) (af.cons (ay.fr rfl af.pure) (af.cons (ay.fr rfl af.pure) af.nil)))
theorem kl{N:Nat}{P O:List Int}(h:dM N P O){p:Nat}(hp:p<O.length):∃i:Nat,O.getD p 0=(i:Int)∧i<N:=by
 obtain⟨h1,h2,_⟩:=h.item p hp
 exact⟨(O.getD p 0).toNat,by omega,by omega⟩
theorem ra{N:Nat}(K P O:List Int)(hP:dM N P O)(hK:K.length=N)(hN:N≤65536)(p q:Nat)(hp:p<O.length)(hq:q<O.length):
  Can Tryz.prog 222 [wu K P O,num p,num q] (· =flag (decide (rk K O p<rk K O q))):=by
 obtain⟨i,hi,hi'⟩:=kl hP hp
 obtain⟨j,hj,hj'⟩:=kl hP hq
 have hr:decide (rk K O p<rk K O q)=if K.getD i 0=K.getD j 0 then decide ((i:Int)<(j:Int)) else decide (K.getD i 0<K.getD j 0):=by
  unfold rk
  rw[hi,hj,oC (by omega) (by omega) (by omega) (by omega),Int.toNat_natCast,Int.toNat_natCast]
 refine aI Tryz.func222 I Tryz.ntmps222 I<|ab (.a 1 I<|.k [0,1,2] I)<|ef mixed (by kernel_rfl) (.a 5 I<|.v [12,13] (aM (p) I) I I<|.v [14] (aJ I ((aB O p hp).trans (by rw[hi]))) I I<|.a 5 I<|.v [19,20] (aM (q) I) I I<|.v [21] (aJ I ((aB O q hq).trans (by rw[hj]))) I I<|.a 2 I<|.k [0,7,8] I) ?_
 refine aj<|ef mixed (by kernel_rfl) (.a 5 I<|.v [26,27] (aM (i) I) I I<|.v [28] (aJ I (aB K i (by omega))) I I<|.a 5 I<|.v [33,34] (aM (j) I) I I<|.v [35] (aJ I (aB K j (by omega))) I I<|.a 1 I<|.k [0,7,8,37] I) ?_
 refine ah I (fun hc=>?_) (fun hc=>?_)
 ·have:=of_decide_eq_true hc
  rw[if_neg this]at hr
  refine ef mixed (by kernel_rfl) (.a 5 I<|.v [41,42] (aM (i) I) I I<|.v [43] (aJ I (aB K i (by omega))) I I<|.a 5 I<|.v [48,49] (aM (j) I) I I<|.v [50] (aJ I (aB K j (by omega))) I I<|.a 2 I<|.k [6] I) ?_
  exact ao<|⟨_,_,az.of I,ay.pure,by rw[hr];rfl⟩
 ·have:=of_decide_eq_false hc
  rw[if_pos (by simpa using this)]at hr
  exact ai<|ab (.a 4 I<|.k [6] I)<|ao<|⟨_,_,az.of I,ay.pure,by rw[hr];rfl⟩
theorem rX{N n:Nat}(b:Bool)(d:Option cJ)(K P O:List Int)(hP:dM N P O)(hO:O.length=n)(hN:N≤65536)(p q:Nat)(hp:p<O.length)(hq:q<O.length):
  bT Tryz.prog 223 [.ptr 1 0,num p,num q] (iG b d N n K P O) (fun _ σ'=>σ'=iG b d N n K (gZ P O p q) (ec O p q)):=by
 obtain⟨i,hi,hi'⟩:=kl hP hp
 obtain⟨j,hj,hj'⟩:=kl hP hq
 have hlen:=jz hP
 have hPl:=hP.len
 have gp:(ec O p q).getD p 0=j:=by
  rw[dZ O p q p hp hq]
  by_cases h:p=q
  ·rw[if_pos h];subst h;omega
  ·rw[if_neg h,if_pos rfl,hj]
 have gq:(ec O p q).getD q 0=i:=by rw[dZ O p q q hp hq,if_pos rfl,hi]
 have hsw:ec O p q=(O.set p (j:Int)).set q (i:Int):=by unfold ec;rw[hi,hj]
 rw[hsw]at gp gq
 refine ct Tryz.func223 I Tryz.ntmps223 I ?_
 cases b
 all_goals
  refine iC 25 20 mixed (
   .val [0] I (aZ I) I I<|
   .val [6] I (aZ I) I I<|
   .val [7] I (aZ I) I I<|
   .val [8] I (aZ I) I I<|
   .val [1] I (aZ I) I I<|
   .val [0] I (aZ I) I I<|
   .val [11] I (aZ I) I I<|
   .val [12] I (aZ I) I I<|
   .val [13] I (aZ I) I I<|
   .late [2] I (jC rfl rfl) inferInstance rfl rfl<|
   .val [0] I (aZ I) I I<|
   .val [16] I (aZ I) I I<|
   .val [17] I (aZ I) I I<|
   .val [18] I (aZ I) I I<|
   .val [2] I (aZ I) I I<|
   .val [19,20] I (aM (q) I) I I<|
   .val [21] I (aJ I ((aB O q hq).trans (by rw[hj]))) I I<|
   .val [0] I (aZ I) I I<|
   .val [23] I (aZ I) I I<|
   .val [24] I (aZ I) I I<|
   .val [25] I (aZ I) I I<|
   .val [1] I (aZ I) I I<|
   .val [26,27] I (aM (p) I) I I<|
   .val [28] I (aJ I ((aB O p hp).trans (by rw[hi]))) I I<|
   .val [9,10] I (aM (p) I) I I<|
   .nil) (by kernel_rfl) I I (aY (ks:=[0,1,2,14,15,22,29,30]) I) ?_
  refine bb ((by first|exact bO I (ba.tk.get I) I I I (by first|omega|(simp;omega))|exact bf I (ba.tk.get I) I I I (by first|omega|(simp;omega)))) I I<|bw (aM (q) I) I<|bb ((by first|exact bO I (ba.tk.get I) I I I (by first|omega|(simp;omega))|exact bf I (ba.tk.get I) I I I (by first|omega|(simp;omega)))) I I<|aG [0,1,2] I ?_
  refine iC 14 20 mixed (
   .val [0] I (aZ I) I I<|
   .val [32] I (aZ I) I I<|
   .val [33] I (aZ I) I I<|
   .val [34] I (aZ I) I I<|
   .val [0] I (aZ I) I I<|
   .val [36] I (aZ I) I I<|
   .val [37] I (aZ I) I I<|
   .val [38] I (aZ I) I I<|
   .val [1] I (aZ I) I I<|
   .val [39,40] I (aM (p) I) I I<|
   .val [41] I (aJ I ((aB ((O.set p (j:Int)).set q (i:Int)) p (by simpa using hp)).trans (by rw[gp]))) I I<|
   .val [1] I (aZ I) I I<|
   .val [43] I (aV I) I I<|
   .val [35,42] I (aM (j) I) I I<|
   .nil) (by kernel_rfl) I I (aY (ks:=[0,2,44,45]) I) ?_
  refine bb ((by first|exact bO I (ba.tk.get I) I I I (by first|omega|(simp;omega))|exact bf I (ba.tk.get I) I I I (by first|omega|(simp;omega)))) I I<|aG [0,2] I ?_
  refine dL 14 20 mixed (
   .val [0] I (aZ I) I I<|
   .val [46] I (aZ I) I I<|
   .val [47] I (aZ I) I I<|
   .val [48] I (aZ I) I I<|
   .val [0] I (aZ I) I I<|
   .val [50] I (aZ I) I I<|
   .val [51] I (aZ I) I I<|
   .val [52] I (aZ I) I I<|
   .val [2] I (aZ I) I I<|
   .val [53,54] I (aM (q) I) I I<|
   .val [55] I (aJ I ((aB ((O.set p (j:Int)).set q (i:Int)) q (by simpa using hq)).trans (by rw[gq]))) I I<|
   .val [2] I (aZ I) I I<|
   .val [57] I (aV I) I I<|
   .val [49,56] I (aM (i) I) I I<|
   .nil) (by kernel_rfl) I I (aY (ks:=[58,59]) I) ?_
  refine bb ((by first|exact bO I (ba.tk.get I) I I I (by first|omega|(simp;omega))|exact bf I (ba.tk.get I) I I I (by first|omega|(simp;omega)))) I I<|aG [] I ?_
  refine⟨_,az.of I,?_⟩
  unfold gZ
  rw[hi,hj,hsw]
  rfl
theorem EA(p:Nat)(h:0<p):((p:Int) - 1).tdiv 2=((par p:Nat):Int):=by
 rw[Int.tdiv_eq_ediv_of_nonneg (by omega)];unfold par;omega
theorem zT{σ:cc}{K P O:List Int}(h:ay σ (.ptr 1 0) (wu K P O))(p q:Int):af σ ([.ptr 1 0,num p,num q]++[]) [wu K P O,num p,num q]:=af.cons h (af.cons ay.pure (af.cons ay.pure af.nil))
theorem nG{N n:Nat}(b:Bool)(d:Option cJ)(K P O:List Int)(hP:dM N P O)(hO:O.length=n)(hK:K.length=N)(hN:N≤65536)(p:Nat)(hp:p<n)(hL:oh (rk K O) n p):
  bT Tryz.prog 213 [.ptr 1 0,num p] (iG b d N n K P O) (fun _ σ'=>∃P' O',σ'=iG b d N n K P' O'∧dM N P' O'∧O'.length=n∧rn (rk K O') n∧∀i,eT O' i↔eT O i):=by
 have hlen:=jz hP
 refine ct Tryz.func213 I Tryz.ntmps213 I ?_
 cases b
 all_goals
  refine aj<|aw<|eS [0,1] I<|bu (fun r s=>∃P' O' p',dM N P' O'∧O'.length=n∧oh (rk K O') n p'∧p'<n∧(∀i,eT O' i↔eT O i)∧r=p'∧s=⟨[(0,.ptr 1 0),(1,num p')],iG _ d N n K P' O'⟩) p ⟨P,O,p,hP,hO,hL,hp,fun _=>Iff.rfl,rfl,rfl⟩ ?_
  rintro r s ⟨P',O',p',hP',hO',hL',hp',hH',rfl,rfl⟩
  refine aj ?_
  obtain⟨q1,hq1⟩:∃q,decide ((0:Int)<(r:Int))=q:=⟨_,rfl⟩
  obtain⟨q2,hq2⟩:∃q,decide (rk K O' r<rk K O' (par r))=q:=⟨_,rfl⟩
  refine bE 15 (.raw (.bool (q1&&q2))) [0,1] I ?_ ?_
  ·refine .a 1 I<|.v (cd I (hq1)) I<|.a 1 I<|?_
   cases q1
   ·exact .a 7 I<|.k [15,0,1] I
   ·exact .a 3 I<|.v (aV I) I<|.v (jP I I I (by decide) (EA r (by have:=of_decide_eq_true hq1;omega)) (by unfold In64 par;omega)) I<|.v (Jb I (zT (rN _ d hK hP'.len hO') _ _) (hq2▸ra K P' O' hP' hK hN r (par r) (by omega) (by have:=of_decide_eq_true hq1;have:=fI (q:=r) (by omega);omega))) I<|.a 1 I<|.k [15,0,1] I
  refine ah I (fun hc=>?_) (fun hc=>?_)
  ·obtain⟨c1,c2⟩:=Bool.and_eq_true_iff.1 hc
   rw[c1]at hq1
   rw[c2]at hq2
   have hr0:0<r:=by have:=of_decide_eq_true hq1;omega
   have hlt:=of_decide_eq_true hq2
   have hpl:=fI hr0
   refine ai<|aw<|aP<|av 3 I<|bw (aV I) I<|bw (jP I I I (by decide) (EA r hr0) (by unfold In64;omega)) I<|cM I I (bT.mono (rX _ d K P' O' hP' hO' hN r (par r) (by omega) (by omega)) (fun _ σ' h=>?_))
   subst h
   refine aG [0,1] I ?_
   refine aC (.a 1 I<|.v (aV I) I<|.v (jP I I I (by decide) (EA r hr0) (by unfold In64;omega)) I<|.a 1 I<|.k [0,1] I) ?_
   refine⟨par r,hpl,gZ P' O' r (par r),ec O' r (par r),par r,hP'.swap (by omega) (by omega),by rw[gw];exact hO',?_,by omega,fun i=>(mM O' r (par r) (by omega) (by omega) i).trans (hH' i),rfl,rfl⟩
   rw[As K O' r (par r) (by omega) (by omega)]
   exact EJ hL' hr0 hp' hlt
  ·have hdn:tZ (rk K O') n r:=zM hL' (by
    by_cases h0:r=0
    ·exact .inl h0
    ·refine .inr ?_
     have h1:q1=true:=by rw[←hq1];simp;omega
     rw[h1]at hc
     simp only[Bool.true_and]at hc
     rw[hc]at hq2
     have:=of_decide_eq_false hq2
     omega)
   clear hL' hq1 hq2 hc
   refine bh<|aw<|eS [0,1] I<|bu (fun r s=>∃P' O' p',dM N P' O'∧O'.length=n∧tZ (rk K O') n p'∧p'<n∧(∀i,eT O' i↔eT O i)∧r=n - p'∧s=⟨[(0,.ptr 1 0),(1,num p')],iG _ d N n K P' O'⟩) (n - r) ⟨P',O',r,hP',hO',hdn,hp',hH',rfl,rfl⟩ ?_
   clear hP' hO' hdn hH' P' O' hp' r
   rintro r s ⟨P',O',p',hP',hO',hdn,hp',hH',rfl,rfl⟩
   refine aw<|ab (.a 2 I<|.k [0,1,4] I)<|aj<|ab (.a 1 I<|.v (aV I) I<|.v (aV I) I<|.a 1 I<|.k [0,1,4,5] I)<|aw<|eS [0,1,4,5] I<|bu (fun r s=>∃c l,2*p'+1≤c∧c≤2*p'+3∧r=2*p'+3 - c∧l<n∧(l=p'∨(par l=p'∧0<l∧rk K O' l<rk K O' p'))∧(∀x,2*p'+1≤x→x<c→x<n→rk K O' l≤rk K O' x)∧s=⟨[(0,.ptr 1 0),(1,num p'),(4,num l),(5,num c)],iG _ d N n K P' O'⟩) 2 ⟨2*p'+1,p',by omega,by omega,by omega,hp',.inl rfl,fun x h1 h2=>by omega,rfl⟩ ?_
   rintro r s ⟨c,l,hc1,hc2,rfl,hl,hl2,hl3,rfl⟩
   refine aj ?_
   obtain⟨q1,hq1⟩:∃q,decide ((c:Int)≤2*(p':Int)+2)=q:=⟨_,rfl⟩
   obtain⟨q2,hq2⟩:∃q,decide ((c:Int)<(n:Int))=q:=⟨_,rfl⟩
   refine bE 42 (.raw (.bool (q1&&q2))) [0,1,4,5] I ?_ ?_
   ·refine .a 2 I<|.v (aV I) I<|.v (aV I) I<|.v (cd I (hq1)) I<|.a 1 I<|?_
    cases q1
    ·exact .a 8 I<|.k [42,0,1,4,5] I
    ·exact .a 6 I<|.v (cd I (hq2)) I<|.a 1 I<|.k [42,0,1,4,5] I
   refine ah I (fun hc=>?_) (fun hc=>?_)
   ·obtain⟨c1,c2⟩:=Bool.and_eq_true_iff.1 hc
    rw[c1]at hq1
    rw[c2]at hq2
    have hcn:c<n:=by have:=of_decide_eq_true hq2;omega
    have hc4:c≤2*p'+2:=by have:=of_decide_eq_true hq1;omega
    have hpc:par c=p':=by unfold par;omega
    refine ai<|aj<|aw<|ab (.a 3 I<|.v (Jb I (zT (rN _ d hK hP'.len hO') _ _) (ra K P' O' hP' hK hN c l (by omega) (by omega))) I<|.k [0,1,4,5,48] I)<|ah I (fun hb=>?_) (fun hb=>?_)
    ·have hb':=of_decide_eq_true hb
     refine aC (.a 2 I<|.k [0,1,4,5] I) ?_
     refine aC (.a 1 I<|.v (aV I) I<|.a 1 I<|.k [0,1,4,5] I) ?_
     first
      |exact⟨2*p'+3 - (c+1),by omega,c+1,c,by omega,by omega,rfl,hcn,.inr ⟨hpc,by omega,by rcases hl2 with h|h;(rw[h]at hb';exact hb');omega⟩,fun x h1 h2 h3=>by by_cases e:x=c;(rw[e];exact Int.le_refl _);(have:=hl3 x h1 (by omega) h3;omega),rfl⟩
      |exact⟨2*p'+3 - (c+1),by omega,c+1,l,by omega,by omega,rfl,hl,hl2,fun x h1 h2 h3=>by by_cases e:x=c;(rw[e];omega);exact hl3 x h1 (by omega) h3,rfl⟩
    ·have hb':=of_decide_eq_false hb
     refine ai<|aC (.a 1 I<|.v (aV I) I<|.a 1 I<|.k [0,1,4,5] I) ?_
     first
      |exact⟨2*p'+3 - (c+1),by omega,c+1,c,by omega,by omega,rfl,hcn,.inr ⟨hpc,by omega,by rcases hl2 with h|h;(rw[h]at hb';exact hb');omega⟩,fun x h1 h2 h3=>by by_cases e:x=c;(rw[e];exact Int.le_refl _);(have:=hl3 x h1 (by omega) h3;omega),rfl⟩
      |exact⟨2*p'+3 - (c+1),by omega,c+1,l,by omega,by omega,rfl,hl,hl2,fun x h1 h2 h3=>by by_cases e:x=c;(rw[e];omega);exact hl3 x h1 (by omega) h3,rfl⟩
   ·have hmin:∀x,0<x→x<n→par x=p'→rk K O' l≤rk K O' x:=fun x h0 hx hpx=>by
     refine hl3 x (by unfold par at hpx;omega) ?_ hx
     rcases Nat.lt_or_ge x c with h|h
     ·exact h
     ·exfalso
      have hx2:=HH h0 hpx
      have h1:q1=true:=by rw[←hq1];simp;omega
      rw[h1]at hc
      simp only[Bool.true_and]at hc
      rw[hc]at hq2
      have:=of_decide_eq_false hq2
      omega
    clear hc hq1 hq2 hl3
    refine bh<|aj<|ab (.a 3 I<|.k [0,1,4,52] I)<|ah I (fun hc=>?_) (fun hc=>?_)
    ·have hlp:l=p':=by have:=of_decide_eq_true hc;omega
     refine ao<|⟨_,az.of I,P',O',rfl,hP',hO',?_,hH'⟩
     refine zP hdn fun x h0 hx hpx=>?_
     have:=hmin x h0 hx hpx
     rw[hlp]at this
     exact this
    ·have hlp:l≠p':=by have:=of_decide_eq_false hc;omega
     obtain⟨hlp1,hl0,hllt⟩:=hl2.resolve_left hlp
     refine ai<|aP<|av 3 I<|cM I I (bT.mono (rX _ d K P' O' hP' hO' hN p' l (by omega) (by omega)) (fun _ σ' h=>?_))
     subst h
     refine aG [0,4] I ?_
     refine aC (.a 2 I<|.k [0,1] I) ?_
     have hpl:=fI hl0
     refine⟨n - l,by omega,gZ P' O' p' l,ec O' p' l,l,hP'.swap (by omega) (by omega),by rw[gw];exact hO',?_,hl,fun i=>(mM O' p' l (by omega) (by omega) i).trans (hH' i),rfl,rfl⟩
     rw[As K O' p' l (by omega) (by omega)]
     exact yn hdn hl0 hl hlp1 hllt hmin
def CS(N n:Nat)(K P O:List Int):Prop:=dM N P O∧O.length=n∧K.length=N∧rn (rk K O) n
theorem Ep{N n:Nat}(d:Option cJ)(hd:lE d)(K P O:List Int)(h:CS N (n+1) K P O)(hN:N≤65536)(i:Nat)(hi:O.getD 0 0=(i:Int)):
  bT Tryz.prog 214 [.ptr 1 0,num 0] (iG false d N (n+1) K P O) (fun _ σ'=>∃P' O',σ'=iG true d N n (K.set i 0) P' O'∧CS N n (K.set i 0) P' O'∧∀j,eT O' j↔eT O j∧j≠(i:Int)):=by
 obtain⟨hP,hO,hK,hH⟩:=h
 have hlen:=jz hP
 have hiN:i<N:=by have:=(hP.item 0 (by omega)).2.1;rw[hi]at this;omega
 have hPs:=hP.swap (p:=0) (q:=n) (by omega) (by omega)
 have hg:(ec O 0 n).getD n 0=(i:Int):=by rw[dZ O 0 n n (by omega) (by omega),if_pos rfl,hi]
 have hPp:=hPs.pop (m:=n) (by rw[gw];exact hO)
 rw[hg,Int.toNat_natCast]at hPp
 have hheld:∀j,eT ((ec O 0 n).take n) j↔eT O j∧j≠(i:Int):=fun j=>by
  rw[Fc hPs (by rw[gw];exact hO) j,hg,mM O 0 n (by omega) (by omega)]
 have hOt:((ec O 0 n).take n).length=n:=by rw[List.length_take,gw];omega
 have hPll:(gZ P O 0 n).length=N:=hPs.len
 have hrk:∀x,x<n→x≠0→rk (K.set i 0) ((ec O 0 n).take n) x=rk K O x:=fun x hx hx0=>by
  unfold rk
  rw[lZ _ _ _ hx,dZ O 0 n x (by omega) (by omega),if_neg (by omega),if_neg hx0]
  unfold ki
  have hne:(O.getD x 0).toNat≠i:=fun e=>by
   have h1:=hP.item x (by omega)
   have:=hP.inj (p:=x) (q:=0) (by omega) (by omega) (by rw[hi];omega)
   omega
  rw[eL _ _ _ _ (by omega),if_neg hne]
 have hloose:oh (rk (K.set i 0) ((ec O 0 n).take n)) n 0:=yX hH hrk
 refine ct Tryz.func214 I Tryz.ntmps214 I<|ab (.a 5 I<|.v (aV I (hc:=(show(((n+1:Nat):Int)) - 1=(n:Int) by omega))) I<|.a 1 I<|.k [0,1,4] I)<|ab (.a 5 I<|.v (aM (0) I) I<|.v (aJ I ((aB O 0 (by omega)).trans (by rw[hi]))) I<|.a 1 I<|.k [0,1,4,5] I)<|aP<|av 3 I<|cM I I (bT.mono (rX false d K P O hP hO hN 0 n (by omega) (by omega)) (fun _ σ' h=>?_))
 subst h
 refine aG [0,1,4,5] I ?_
 refine aP<|av 6 I<|b7 (nU I (ba.el.get I) I I I I (by omega)) I<|av 3 I ?_
 refine eP [0,1,2,3,4,5] (.c 0<|.c 1<|.c 4<|.c 5<|.nil) (.same hd rfl<|.kept rfl (.cells (aH.c<|aH.c<|aH.c<|aH.nil))<|.kept rfl (.row aH.pure)<|.kept rfl (.row aH.pure)<|.gone<|.kept rfl (.fF rfl (show(aK (ec O 0 n)).take (n*1)=aK ((ec O 0 n).take n) by rw[Nat.mul_one];unfold aK;rw[List.map_take]))<|.nil) I I (bn ?_)
 refine iC 11 20 mixed (
  .val [0] I (aZ I) I I<|
  .val [32] I (aZ I) I I<|
  .val [33] I (aZ I) I I<|
  .val [34] I (aZ I) I I<|
  .val [5] I (aZ I) I I<|
  .val [0] I (aZ I) I I<|
  .val [37] I (aZ I) I I<|
  .val [38] I (aZ I) I I<|
  .val [39] I (aZ I) I I<|
  .late [5] I (jC rfl rfl) inferInstance rfl rfl<|
  .val [35,36] I (aM (i) I) I I<|
  .nil) (by kernel_rfl) I I (aY (ks:=[0,1,4,40,41,42]) I) ?_
 refine bb ((by first|exact bO I (ba.tk.get I) I I I (by first|omega|(simp;omega))|exact bf I (ba.tk.get I) I I I (by first|omega|(simp;omega)))) I I<|bw (aM (i) I) I<|bb ((by first|exact bO I (ba.tk.get I) I I I (by first|omega|(simp;omega))|exact bf I (ba.tk.get I) I I I (by first|omega|(simp;omega)))) I I<|aG [0,1,4] I ?_
 refine ab (.a 3 I<|.k [0,1,46] I)<|ah I (fun hc=>?_) (fun hc=>?_)
 ·have hn0:0<n:=by have:=of_decide_eq_true hc;omega
  refine bG<|av 2 I<|cM I I (bT.mono (nG true d (K.set i 0) ((gZ P O 0 n).set i 0) ((ec O 0 n).take n) hPp hOt (by simpa using hK) hN 0 hn0 hloose) (fun _ σ' h=>?_))
  obtain⟨P',O',rfl,h1,h2,h3,h4⟩:=h
  refine aG [] I ?_
  first
   |exact⟨_,az.of rfl,P',O',rfl,⟨h1,h2,by simpa using hK,h3⟩,fun j=>(h4 j).trans (hheld j)⟩
   |exact⟨_,az.of rfl,(gZ P O 0 n).set i 0,(ec O 0 n).take n,rfl,⟨hPp,hOt,by simpa using hK,fun q h0 hq=>by omega⟩,hheld⟩
 ·have hn0:n=0:=by have:=of_decide_eq_false hc;omega
  refine ai ?_
  first
   |exact⟨_,az.of rfl,P',O',rfl,⟨h1,h2,by simpa using hK,h3⟩,fun j=>(h4 j).trans (hheld j)⟩
   |exact⟨_,az.of rfl,(gZ P O 0 n).set i 0,(ec O 0 n).take n,rfl,⟨hPp,hOt,by simpa using hK,fun q h0 hq=>by omega⟩,hheld⟩
theorem Gh{N:Nat}(K P O:List Int)(hP:P.length=N)(hK:K.length=N)(hN:N≤65536)(i:Nat)(hi:i<N):
  Can Tryz.prog 200 [wu K P O,num i] (· = .tuple [num (if P.getD i 0=0 then 0 else K.getD i 0),flag (!decide (P.getD i 0=0))]):=by
 refine aI Tryz.func200 I Tryz.ntmps200 I<|ab (.a 2 I<|.k [0,1] I)<|aj ?_
 obtain⟨q1,hq1⟩:∃q,decide ((i:Int)<0)=q:=⟨_,rfl⟩
 obtain⟨q2,hq2⟩:∃q,decide ((K.length:Int)≤(i:Int))=q:=⟨_,rfl⟩
 obtain⟨q3,hq3⟩:∃q,decide (P.getD i 0=0)=q:=⟨_,rfl⟩
 refine bE 30 (.raw (.bool (q1||q2||q3))) [0,1] I ?_ ?_
 ·refine .a 4 I<|.v (cd I (hq1)) I<|.a 2 I<|?_
  cases q1
  ·refine .a 6 I<|.v (cd I (hq2)) I<|.a 2 I<|?_
   cases q2
   ·exact .a 5 I<|.v (aM (i) I) I<|.v (aJ I (aB P i (by omega))) I<|.v (cd I (hq3)) I<|.a 1 I<|.k [30,0,1] I
   ·exact .a 9 I<|.k [30,0,1] I
  ·exact .a 18 I<|.k [30,0,1] I
 refine ah I (fun hc=>?_) (fun hc=>?_)
 ·have h1:q1=false:=by rw[←hq1];simp
  have h2:q2=false:=by rw[←hq2];simp;omega
  rw[h1,h2]at hc
  simp only[Bool.false_or]at hc
  rw[hc]at hq3
  refine ab (.a 2 I<|.k [4,5] I)<|ao<|⟨_,_,az.of I,ay.pure,?_⟩
  rw[hq3]
  first
   |(rw[if_pos (of_decide_eq_true hq3)];rfl)
   |(rw[if_neg (of_decide_eq_false hq3)];rfl)
 ·have hc3:q3=false:=by revert hc;cases q3<;>simp
  rw[hc3]at hq3
  refine ai<|ab (.a 5 I<|.v (aM (i) I) I<|.v (aJ I (aB K i (by omega))) I<|.a 2 I<|.k [4,5] I)<|ao<|⟨_,_,az.of I,ay.pure,?_⟩
  rw[hq3]
  first
   |(rw[if_pos (of_decide_eq_true hq3)];rfl)
   |(rw[if_neg (of_decide_eq_false hq3)];rfl)
theorem FQ{N n:Nat}(d:Option cJ)(hd:lE d)(K P O:List Int)(h:CS N n K P O)(hN:N≤65536):
  bT Tryz.prog 199 [.ptr 1 0] (iG false d N n K P O) (fun r σ'=>(n=0∧r= .tuple [num 0,num 0,flag false]∧σ'=iG false d N n K P O)∨
   ∃(n' i:Nat) (P' O':List Int),n=n'+1∧i<N∧O.getD 0 0=(i:Int)∧r= .tuple [num i,num (K.getD i 0),flag true]∧σ'=iG true d N n' (K.set i 0) P' O'∧CS N n' (K.set i 0) P' O'∧∀j,eT O' j↔eT O j∧j≠(i:Int)):=by
 have h':=h
 obtain⟨hP,hO,hK,hH⟩:=h'
 refine ct Tryz.func199 I Tryz.ntmps199 I<|ab (.a 3 I<|.k [0] I)<|aj ?_
 obtain⟨q1,hq1⟩:∃q,decide ((n:Int)=0)=q:=⟨_,rfl⟩
 refine bE 14 (.raw (.bool (q1))) [0] I ?_ ?_
 ·exact .a 8 I<|.v (cd I (hq1)) I<|.a 1 I<|.k [14,0] I
 refine ah I (fun hc=>?_) (fun hc=>?_)
 ·have hn0:n=0:=by rw[hc]at hq1;have:=of_decide_eq_true hq1;omega
  refine ab (.a 3 I<|.k [2,3,4] I)<|ao ?_
  first
   |exact⟨_,az.of rfl,.inl ⟨hn0,rfl,rfl⟩⟩
   |exact⟨_,az.of rfl,.inr ⟨n',i,P',O',rfl,hiN,hi,rfl,rfl,h1,h2⟩⟩
 ·have hn0:n≠0:=by rw[hc]at hq1;have:=of_decide_eq_false hq1;omega
  obtain⟨n',rfl⟩:∃n',n=n'+1:=⟨n - 1,by omega⟩
  obtain⟨i,hi,hiN⟩:=kl hP (p:=0) (by omega)
  refine ai<|ab (.a 4 I<|.v (aM (0) I) I<|.v (aJ I ((aB O 0 (by omega)).trans (by rw[hi]))) I<|.a 1 I<|.k [0,2] I)<|ab (.a 5 I<|.v (aM (i) I) I<|.v (aJ I (aB K i (by omega))) I<|.a 1 I<|.k [0,2,3] I)<|aP<|av 1 I<|cM I I (bT.mono (Ep d hd K P O h hN i hi) (fun _ σ' h=>?_))
  obtain⟨P',O',rfl,h1,h2⟩:=h
  refine aG [2,3] I ?_
  refine ab (.a 5 I<|.k [2,3,4] I)<|ao ?_
  first
   |exact⟨_,az.of rfl,.inl ⟨hn0,rfl,rfl⟩⟩
   |exact⟨_,az.of rfl,.inr ⟨n',i,P',O',rfl,hiN,hi,rfl,rfl,h1,h2⟩⟩
theorem DA{N:Nat}{P O:List Int}(hP:dM N P O){i:Nat}(hi:i<N)(h:P.getD i 0≠0):∃p,p<O.length∧O.getD p 0=(i:Int)∧P.getD i 0=(p:Int)+1:=by
 rcases hP.place i hi with h0|⟨p,hp,he⟩
 ·exact absurd h0 h
 ·have:=(hP.item p hp).2.2
  rw[he,Int.toNat_natCast]at this
  exact⟨p,hp,he,this⟩
theorem DB{N:Nat}{K P O:List Int}(hP:dM N P O)(hK:K.length=N){i:Nat}(hi:i<N)(c:Int){x:Nat}(hx:x<O.length)(hne:O.getD x 0≠(i:Int)):rk (K.set i c) O x=rk K O x:=by
 unfold rk ki
 have h1:=hP.item x hx
 rw[eL _ _ _ _ (by omega),if_neg (by omega)]
theorem Aa{N n:Nat}(d:Option cJ)(hd:lE d)(K P O:List Int)(h:CS N n K P O)(hN:N≤65536)(i:Nat)(hi:i<N)(key:Int):
  bT Tryz.prog 198 [.ptr 1 0,num i,num key] (iG false d N n K P O) (fun r σ'=>∃(b:Bool) (n':Nat) (P' O':List Int),σ'=iG b d N n' (K.set i key) P' O'∧CS N n' (K.set i key) P' O'∧∀j,eT O' j↔eT O j∨j=(i:Int)):=by
 obtain⟨hP,hO,hK,hH⟩:=h
 have hlen:=jz hP
 have hPl:=hP.len
 refine ct Tryz.func198 I Tryz.ntmps198 I<|ab (.a 1 I<|.k [0,1,2] I)<|aj<|ab (.a 2 I<|.k [0,1,2,8] I)<|ah I (fun hc=>?_) (fun hc=>?_)
 ·cases hc
 ·refine ai<|aj ?_
  obtain⟨q1,hq1⟩:∃q,decide ((i:Int)<0)=q:=⟨_,rfl⟩
  obtain⟨q2,hq2⟩:∃q,decide ((N:Int)≤(i:Int))=q:=⟨_,rfl⟩
  refine bE 19 (.raw (.bool (q1||q2))) [0,1,2] I ?_ ?_
  ·refine .a 1 I<|.v (cd I (hq1)) I<|.a 1 I<|?_
   cases q1
   ·exact .a 6 I<|.v (cd I (hq2)) I<|.a 1 I<|.k [19,0,1,2] I
   ·exact .a 8 I<|.k [19,0,1,2] I
  refine ah I (fun hc=>?_) (fun hc=>?_)
  ·have h1:q1=false:=by rw[←hq1];simp
   have h2:q2=false:=by rw[←hq2];simp;omega
   rw[h1,h2]at hc
   cases hc
  ·refine ai<|aP<|av 6 I<|bw (aM (i) I) I<|bb ((by first|exact bO I (ba.tk.get I) I I I (by first|omega|(simp;omega))|exact bf I (ba.tk.get I) I I I (by first|omega|(simp;omega)))) I I<|aG [0,1] I ?_
   refine aj<|ab (.a 5 I<|.v (aM (i) I) I<|.v (aJ I (aB P i (by omega))) I<|.a 1 I<|.k [0,1,34] I)<|ah I (fun hc=>?_) (fun hc=>?_)
   ·have hp0:P.getD i 0=0:=of_decide_eq_true hc
    have hnh:=(hP.zero hi).1 hp0
    have hPp:=hP.push hi hnh
    have hOl:(O++[(i:Int)]).length=n+1:=by simp[hO]
    rw[hO]at hPp
    have hPi2:(P.set i ((n:Int)+1)).getD i 0=(n:Int)+1:=by rw[eL _ _ _ _ (by omega),if_pos rfl]
    have hlt2:i<(P.set i ((n:Int)+1)).length:=by simp;omega
    have hsb:((n:Int)+1) - 1=(n:Int):=by omega
    have hnb:n<N:=by have:=jz hPp;simp at this;omega
    have hset:=nG true d (K.set i key) (P.set i ((n:Int)+1)) (O++[(i:Int)]) hPp hOl (by simpa using hK) hN n (by omega) (zc hH fun q hq=>by
     have e:(O++[(i:Int)]).getD q 0=O.getD q 0:=by simp[List.getD_eq_getElem?_getD,List.getElem?_append_left (show q<O.length by omega)]
     have:=DB hP hK hi key (x:=q) (by omega) (fun e=>hnh ⟨q,by omega,e⟩)
     unfold rk at this ⊢
     rw[e];exact this)
    have hfin:∀j,eT (O++[(i:Int)]) j↔eT O j∨j=(i:Int):=fun j=>(CK O i j).trans Or.comm
    refine aP<|av 7 I<|b7 (bg I (ba.rk.get I) I I I I (by unfold maxLen;omega)) I<|av 3 I ?_
    refine eP [0,1,2,3,4,5] (.c 0<|.c 1<|.nil) (.same hd rfl<|.kept rfl (.cells (aH.c<|aH.c<|aH.c<|aH.nil))<|.kept rfl (.row aH.pure)<|.kept rfl (.row aH.pure)<|.gone<|.kept rfl (.fF rfl (dA _ _))<|.nil) I I (bn ?_)
    refine dL 11 20 mixed (
     .val [0] I (aZ I) I I<|
     .val [45] I (aZ I) I I<|
     .val [46] I (aZ I) I I<|
     .val [47] I (aZ I) I I<|
     .val [1] I (aZ I) I I<|
     .val [0] I (aZ I) I I<|
     .val [50] I (aZ I) I I<|
     .val [51] I (aZ I) I I<|
     .val [52] I (aZ I) I I<|
     .val [53] I (aZ I) I I<|
     .val [48,49] I (aM (i) I) I I<|
     .nil) (by kernel_rfl) I I (aY (ks:=[0,1,54,55]) I) ?_
    refine bb ((by first|exact bO I (ba.tk.get I) I I I (by first|omega|(simp;omega))|exact bf I (ba.tk.get I) I I I (by first|omega|(simp;omega)))) I I<|aG [0,1] I ?_
    refine aP<|av 6 I<|bw (aM (i) I) I<|bw (aJ I ((aB _ i hlt2).trans (congrArg (fun z=>some (PV.raw (.int .i64 z))) hPi2))) I<|bw (aV I (hc:=hsb)) I<|cM I I (bT.mono hset (fun _ σ' h=>?_))
    obtain⟨P',O',rfl,h1,h2,h3,h4⟩:=h
    refine aG [] I ?_
    refine ab (.a 1 I<|.k [6] I)<|ao ?_
    first
     |exact⟨_,az.of rfl,true,_,P',O',rfl,⟨h1,h2,by simpa using hK,h3⟩,fun j=>(h4 j).trans (hfin j)⟩
     |exact⟨_,az.of rfl,false,_,P',O',rfl,⟨h1,h2,by simpa using hK,h3⟩,fun j=>(h4 j).trans (hfin j)⟩
   ·have hp0:P.getD i 0≠0:=of_decide_eq_false hc
    obtain⟨p,hp,hpi,hPi2⟩:=DA hP hi hp0
    have hlt2:i<P.length:=by omega
    have hsb:((p:Int)+1) - 1=(p:Int):=by omega
    have hset:=nG false d (K.set i key) P O hP hO (by simpa using hK) hN p (by omega) (xx hH (fun q hq hqp=>DB hP hK hi key (x:=q) (by omega) (fun e=>hqp (hP.inj (by omega) hp (by rw[e,hpi])))) (by omega))
    have hfin:∀j,eT O j↔eT O j∨j=(i:Int):=fun j=>⟨.inl,fun h=>h.elim id fun e=>⟨p,hp,by rw[hpi,e]⟩⟩
    refine ai<|aP<|av 6 I<|bw (aM (i) I) I<|bw (aJ I ((aB _ i hlt2).trans (congrArg (fun z=>some (PV.raw (.int .i64 z))) hPi2))) I<|bw (aV I (hc:=hsb)) I<|cM I I (bT.mono hset (fun _ σ' h=>?_))
    obtain⟨P',O',rfl,h1,h2,h3,h4⟩:=h
    refine aG [] I ?_
    refine ab (.a 1 I<|.k [6] I)<|ao ?_
    first
     |exact⟨_,az.of rfl,true,_,P',O',rfl,⟨h1,h2,by simpa using hK,h3⟩,fun j=>(h4 j).trans (hfin j)⟩
     |exact⟨_,az.of rfl,false,_,P',O',rfl,⟨h1,h2,by simpa using hK,h3⟩,fun j=>(h4 j).trans (hfin j)⟩
theorem G7(N:Nat)(d:Option cJ)(hd:lE d)(hN:N≤65536):
  bT Tryz.prog 197 [num N] [d] (fun r σ'=>r= .tuple [.ptr 1 0,num 0]∧σ'=iG false d N 0 (List.replicate N 0) (List.replicate N 0) []):=by
 refine ct Tryz.func197 I Tryz.ntmps197 I<|ab (.a 2 I<|.k [0] I) ?_
 obtain⟨q1,hq1⟩:∃q,decide ((N:Int)<0)=q:=⟨_,rfl⟩
 obtain⟨q2,hq2⟩:∃q,decide ((65536:Int)<(N:Int))=q:=⟨_,rfl⟩
 refine aj<|bE 9 (.raw (.bool (q1||q2))) [0] I ?_ ?_
 ·refine .a 1 I<|.v (cd I (hq1)) I<|.a 1 I<|?_
  cases q1
  ·exact .a 1 I<|.v (cd I (hq2)) I<|.a 1 I<|.k [9,0] I
  ·exact .a 3 I<|.k [9,0] I
 have h1:q1=false:=by rw[←hq1];simp
 have h2:q2=false:=by rw[←hq2];simp;omega
 refine ah (b:=q1||q2) I (fun hc=>?_) (fun hc=>?_)
 ·rw[h1,h2]at hc
  cases hc
 ·clear hc hq1 hq2 h1 h2
  refine ai<|oZ mixed ?_
  have hfin:W Tryz.prog 16 1 .ret ⟨[(2,.ptr 1 0),(3,num 0)],iG false d N 0 (List.replicate N 0) (List.replicate N 0) []⟩ (Jy Tryz.prog Tryz.f197 (fun r σ'=>r= .tuple [.ptr 1 0,num 0]∧σ'=iG false d N 0 (List.replicate N 0) (List.replicate N 0) [])):=
   ao ⟨_,.cons (.tmp rfl) (.cons (.tmp rfl) .nil),rfl,rfl⟩
  refine bR 0 [2] (by kernel_rfl) ?_
  refine bp I I (bJ (fV I I) I I I (bn ?_)) ?_
  ·refine bR 1 [2] (by kernel_rfl) ?_
   refine bp I I (dH (dT I (ba.rk.get I) I I I I ⟨by unfold maxLen;omega,by omega⟩) I I I (bn ?_)) ?_
   ·refine bR 2 [] (by kernel_rfl) ?_
    refine bp I I (bJ (fV I I) I I I (bn ?_)) bP
    refine bR 3 [] (by kernel_rfl) ?_
    refine bp I I (dH (dT I (ba.rk.get I) I I I I ⟨by unfold maxLen;omega,by omega⟩) I I I (bn ?_)) bP
    refine bR 4 [] (by kernel_rfl) ?_
    refine bp I I (bJ (iW (xs:=[_,_,_]) I (ba.st.get I) I I) I I I (bn ?_)) bP
    refine bR 5 [] (by kernel_rfl) ?_
    refine bp I I (dH (fx I I I) I I I (bn ?_)) bP
    refine bR 6 [] (by kernel_rfl) ?_
    refine bp I I (bJ (eO I I) I I I (bn ?_)) bP
    refine bR 7 [] (by kernel_rfl) ?_
    refine bp I I (bJ (eO I I) I I I (bn ?_)) bP
    refine j7 (by kernel_rfl) ?_
    refine cw 3 2 3 1 I I ?_
    exact dI [0,3,1,2,4] (.cons 2 I (Ren.ptr (i:=1) I)<|.cons 3 I Ren.pure<|.nil) (.same hd rfl<|.kept rfl (.cells (aH.cons (Ren.own (i:=2) I)<|aH.cons (Ren.own (i:=3) I)<|aH.cons (Ren.own (i:=4) I) aH.nil))<|.kept rfl (.fF rfl (dc N))<|.kept rfl (.fF rfl (dc N))<|.kept rfl (.row aH.pure)<|.nil) I I hfin
   refine bp I I (bJ (fV I I) I I I (bn ?_)) bP
   refine bR 1 [3] (by kernel_rfl) ?_
   refine bp I I (dH (dT I (ba.rk.get I) I I I I ⟨by unfold maxLen;omega,by omega⟩) I I I (bn ?_)) ?_
   ·refine bR 3 [] (by kernel_rfl) ?_
    refine bp I I (dH (dT I (ba.rk.get I) I I I I ⟨by unfold maxLen;omega,by omega⟩) I I I (bn ?_)) bP
    refine bR 4 [] (by kernel_rfl) ?_
    refine bp I I (bJ (iW (xs:=[_,_,_]) I (ba.st.get I) I I) I I I (bn ?_)) bP
    refine bR 5 [] (by kernel_rfl) ?_
    refine bp I I (dH (fx I I I) I I I (bn ?_)) bP
    refine bR 6 [] (by kernel_rfl) ?_
    refine bp I I (bJ (eO I I) I I I (bn ?_)) bP
    refine bR 7 [] (by kernel_rfl) ?_
    refine bp I I (bJ (eO I I) I I I (bn ?_)) bP
    refine j7 (by kernel_rfl) ?_
    refine cw 3 2 3 1 I I ?_
    exact dI [0,3,1,2,4] (.cons 2 I (Ren.ptr (i:=1) I)<|.cons 3 I Ren.pure<|.nil) (.same hd rfl<|.kept rfl (.cells (aH.cons (Ren.own (i:=2) I)<|aH.cons (Ren.own (i:=3) I)<|aH.cons (Ren.own (i:=4) I) aH.nil))<|.kept rfl (.fF rfl (dc N))<|.kept rfl (.fF rfl (dc N))<|.kept rfl (.row aH.pure)<|.nil) I I hfin
   refine bp I I (dH (dT I (ba.rk.get I) I I I I ⟨by unfold maxLen;omega,by omega⟩) I I I (bn ?_)) bP
   refine bR 1 [] (by kernel_rfl) ?_
   refine bp I I (dH (dT I (ba.rk.get I) I I I I ⟨by unfold maxLen;omega,by omega⟩) I I I (bn ?_)) bP
   refine bR 4 [] (by kernel_rfl) ?_
   refine bp I I (bJ (iW (xs:=[_,_,_]) I (ba.st.get I) I I) I I I (bn ?_)) bP
   refine bR 5 [] (by kernel_rfl) ?_
   refine bp I I (dH (fx I I I) I I I (bn ?_)) bP
   refine bR 6 [] (by kernel_rfl) ?_
   refine bp I I (bJ (eO I I) I I I (bn ?_)) bP
   refine bR 7 [] (by kernel_rfl) ?_
   refine bp I I (bJ (eO I I) I I I (bn ?_)) bP
   refine j7 (by kernel_rfl) ?_
   refine cw 3 2 3 1 I I ?_
   exact dI [0,3,2,1,4] (.cons 2 I (Ren.ptr (i:=1) I)<|.cons 3 I Ren.pure<|.nil) (.same hd rfl<|.kept rfl (.cells (aH.cons (Ren.own (i:=2) I)<|aH.cons (Ren.own (i:=3) I)<|aH.cons (Ren.own (i:=4) I) aH.nil))<|.kept rfl (.fF rfl (dc N))<|.kept rfl (.fF rfl (dc N))<|.kept rfl (.row aH.pure)<|.nil) I I hfin
  refine bp I I (bJ (fV I I) I I I (bn ?_)) bP
  refine bR 0 [3] (by kernel_rfl) ?_
  refine bp I I (bJ (fV I I) I I I (bn ?_)) ?_
  ·refine bR 1 [3] (by kernel_rfl) ?_
   refine bp I I (dH (dT I (ba.rk.get I) I I I I ⟨by unfold maxLen;omega,by omega⟩) I I I (bn ?_)) ?_
   ·refine bR 3 [] (by kernel_rfl) ?_
    refine bp I I (dH (dT I (ba.rk.get I) I I I I ⟨by unfold maxLen;omega,by omega⟩) I I I (bn ?_)) bP
    refine bR 4 [] (by kernel_rfl) ?_
    refine bp I I (bJ (iW (xs:=[_,_,_]) I (ba.st.get I) I I) I I I (bn ?_)) bP
    refine bR 5 [] (by kernel_rfl) ?_
    refine bp I I (dH (fx I I I) I I I (bn ?_)) bP
    refine bR 6 [] (by kernel_rfl) ?_
    refine bp I I (bJ (eO I I) I I I (bn ?_)) bP
    refine bR 7 [] (by kernel_rfl) ?_
    refine bp I I (bJ (eO I I) I I I (bn ?_)) bP
    refine j7 (by kernel_rfl) ?_
    refine cw 3 2 3 1 I I ?_
    exact dI [0,3,1,2,4] (.cons 2 I (Ren.ptr (i:=1) I)<|.cons 3 I Ren.pure<|.nil) (.same hd rfl<|.kept rfl (.cells (aH.cons (Ren.own (i:=2) I)<|aH.cons (Ren.own (i:=3) I)<|aH.cons (Ren.own (i:=4) I) aH.nil))<|.kept rfl (.fF rfl (dc N))<|.kept rfl (.fF rfl (dc N))<|.kept rfl (.row aH.pure)<|.nil) I I hfin
   refine bp I I (dH (dT I (ba.rk.get I) I I I I ⟨by unfold maxLen;omega,by omega⟩) I I I (bn ?_)) bP
   refine bR 1 [] (by kernel_rfl) ?_
   refine bp I I (dH (dT I (ba.rk.get I) I I I I ⟨by unfold maxLen;omega,by omega⟩) I I I (bn ?_)) bP
   refine bR 4 [] (by kernel_rfl) ?_
   refine bp I I (bJ (iW (xs:=[_,_,_]) I (ba.st.get I) I I) I I I (bn ?_)) bP
   refine bR 5 [] (by kernel_rfl) ?_
   refine bp I I (dH (fx I I I) I I I (bn ?_)) bP
   refine bR 6 [] (by kernel_rfl) ?_
   refine bp I I (bJ (eO I I) I I I (bn ?_)) bP
   refine bR 7 [] (by kernel_rfl) ?_
   refine bp I I (bJ (eO I I) I I I (bn ?_)) bP
   refine j7 (by kernel_rfl) ?_
   refine cw 3 2 3 1 I I ?_
   exact dI [0,3,2,1,4] (.cons 2 I (Ren.ptr (i:=1) I)<|.cons 3 I Ren.pure<|.nil) (.same hd rfl<|.kept rfl (.cells (aH.cons (Ren.own (i:=2) I)<|aH.cons (Ren.own (i:=3) I)<|aH.cons (Ren.own (i:=4) I) aH.nil))<|.kept rfl (.fF rfl (dc N))<|.kept rfl (.fF rfl (dc N))<|.kept rfl (.row aH.pure)<|.nil) I I hfin
  refine bp I I (dH (dT I (ba.rk.get I) I I I I ⟨by unfold maxLen;omega,by omega⟩) I I I (bn ?_)) bP
  refine bR 0 [] (by kernel_rfl) ?_
  refine bp I I (bJ (fV I I) I I I (bn ?_)) bP
  refine bR 1 [] (by kernel_rfl) ?_
  refine bp I I (dH (dT I (ba.rk.get I) I I I I ⟨by unfold maxLen;omega,by omega⟩) I I I (bn ?_)) bP
  refine bR 4 [] (by kernel_rfl) ?_
  refine bp I I (bJ (iW (xs:=[_,_,_]) I (ba.st.get I) I I) I I I (bn ?_)) bP
  refine bR 5 [] (by kernel_rfl) ?_
  refine bp I I (dH (fx I I I) I I I (bn ?_)) bP
  refine bR 6 [] (by kernel_rfl) ?_
  refine bp I I (bJ (eO I I) I I I (bn ?_)) bP
  refine bR 7 [] (by kernel_rfl) ?_
  refine bp I I (bJ (eO I I) I I I (bn ?_)) bP
  refine j7 (by kernel_rfl) ?_
  refine cw 3 2 3 1 I I ?_
  exact dI [0,3,2,1,4] (.cons 2 I (Ren.ptr (i:=1) I)<|.cons 3 I Ren.pure<|.nil) (.same hd rfl<|.kept rfl (.cells (aH.cons (Ren.own (i:=2) I)<|aH.cons (Ren.own (i:=3) I)<|aH.cons (Ren.own (i:=4) I) aH.nil))<|.kept rfl (.fF rfl (dc N))<|.kept rfl (.fF rfl (dc N))<|.kept rfl (.row aH.pure)<|.nil) I I hfin
end
end PW
end Go.Proofs.YtnegbdpggideiaaGreatDoor
namespace Go.Proofs.YtnegbdpggideiaaGreatDoor
namespace Net
def fJ(T:an)(dir:Bool)(a:Nat):Int:=if dir then aS T a else br T a
def cX(T:an)(dir:Bool)(a:Nat):Int:=if dir then br T a else aS T a
def at'(l:List Int)(x:Int):Int:=l.getD x.toNat (-1)
def Way(T:an)(D:List Bool)(n:Nat)(dir:Bool)(out:List Int)(a:Nat):Prop:=
 aQ D a=false∧0≤at' out (cX T dir a)∧(cX T dir a=(n:Int)∨dh T (cX T dir a).toNat=false)
structure iE (T:an) (D:List Bool) (n:Nat) (dir:Bool) (out:List Int):Prop where
 len:(out.length:Int)=T.nodes
 root:at' out (n:Int)=0
 ge:∀x:Nat,(x:Int)<T.nodes→ -1≤at' out (x:Int)
 closed:∀a,a<2*T.ag.length→Way T D n dir out a→0≤at' out (fJ T dir a)∧at' out (fJ T dir a)≤at' out (cX T dir a)+cn T a
 nk:∀x:Nat,(x:Int)<T.nodes→0≤at' out (x:Int)→x=n∨∃a,a<2*T.ag.length∧fJ T dir a=(x:Int)∧Way T D n dir out a∧at' out (x:Int)=at' out (cX T dir a)+cn T a
structure Sound (T:an):Prop where
 cost:∀a,a<2*T.ag.length→1≤cn T a∧cn T a≤65535
 tail:∀a,a<2*T.ag.length→0≤br T a∧br T a<T.nodes
 head:∀a,a<2*T.ag.length→0≤aS T a∧aS T a<T.nodes
 nodes:1≤T.nodes∧T.nodes≤64
theorem Sound.x{T:an}(h:Sound T)(dir:Bool)(a:Nat)(ha:a<2*T.ag.length):0≤fJ T dir a∧fJ T dir a<T.nodes:=by
 unfold fJ;cases dir
 ·exact h.tail a ha
 ·exact h.head a ha
theorem Sound.y{T:an}(h:Sound T)(dir:Bool)(a:Nat)(ha:a<2*T.ag.length):0≤cX T dir a∧cX T dir a<T.nodes:=by
 unfold cX;cases dir
 ·exact h.head a ha
 ·exact h.tail a ha
theorem vy{T:an}(hT:Sound T){D:List Bool}{n:Nat}{dir:Bool}{out out':List Int}(h:iE T D n dir out)(h':iE T D n dir out'):
  ∀(k:Nat) (x:Nat),(x:Int)<T.nodes→at' out (x:Int)=(k:Int)→0≤at' out' (x:Int)∧at' out' (x:Int)≤at' out (x:Int):=by
 intro k
 induction k using Nat.strongRecOn with
 |_ k ih=>
  intro x hx hk
  rcases h.nk x hx (by omega)with rfl|⟨a,ha,hax,⟨w1,w2,w3⟩,he⟩
  ·rw[h'.root];omega
  ·have hc:=hT.cost a ha
   obtain⟨y,hy⟩:=Int.eq_ofNat_of_zero_le (hT.y dir a ha).1
   have hyn:=(hT.y dir a ha).2
   rw[hy]at w2 w3 he hyn
   obtain⟨j,hj⟩:=Int.eq_ofNat_of_zero_le w2
   have hlt:j<k:=by omega
   have h1:=ih j hlt y hyn hj
   have h2:=h'.closed a ha ⟨w1,by rw[hy];exact h1.1,by rw[hy];exact w3⟩
   rw[hax,hy]at h2
   exact⟨h2.1,by omega⟩
theorem Da(out:List Int)(x:Nat)(hx:x<out.length):at' out (x:Int)=out[x]:=by
 simp[at',hx]
theorem xX{T:an}(hT:Sound T){D:List Bool}{n:Nat}{dir:Bool}{out out':List Int}(h:iE T D n dir out)(h':iE T D n dir out'):out=out':=by
 have hl:out.length=out'.length:=by have:=h.len;have:=h'.len;omega
 refine List.ext_getElem hl fun x h1 h2=>?_
 have hx:(x:Int)<T.nodes:=by have:=h.len;omega
 rw[←Da out x h1,←Da out' x h2]
 have g1:=h.ge x hx
 have g2:=h'.ge x hx
 by_cases c1:0≤at' out (x:Int)
 ·obtain⟨k,hk⟩:=Int.eq_ofNat_of_zero_le c1
  have a1:=vy hT h h' k x hx hk
  obtain⟨k',hk'⟩:=Int.eq_ofNat_of_zero_le a1.1
  have a2:=vy hT h' h k' x hx hk'
  omega
 ·by_cases c2:0≤at' out' (x:Int)
  ·obtain⟨k,hk⟩:=Int.eq_ofNat_of_zero_le c2
   have a1:=vy hT h' h k x hx hk
   omega
  ·omega
open Classical in
noncomputable def bH(T:an)(D:List Bool)(n:Nat)(dir:Bool):List Int:=if h:∃out,iE T D n dir out then h.choose else []
theorem kh{T:an}(hT:Sound T){D:List Bool}{n:Nat}{dir:Bool}{out:List Int}(h:iE T D n dir out):bH T D n dir=out:=by
 unfold bH
 rw[dif_pos ⟨out,h⟩]
 exact xX hT (Exists.choose_spec (⟨out,h⟩:∃out,iE T D n dir out)) h
end Net
end Go.Proofs.YtnegbdpggideiaaGreatDoor
