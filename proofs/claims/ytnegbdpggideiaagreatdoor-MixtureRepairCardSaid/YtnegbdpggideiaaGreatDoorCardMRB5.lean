/- Texts of the proof, part 5. -/
import Derived.Test.YtnegbdpggideiaaGreatDoorCardMRB4
set_option linter.unusedVariables false
set_option linter.unusedSimpArgs false
set_option maxRecDepth 10000
set_option maxHeartbeats 1000000
namespace Go.Proofs.YtnegbdpggideiaaGreatDoor
namespace PW
open Go.RowKit Go.Shelf cH Mem Net fw
attribute [local go_sem] Oper.semAt_some
def H0(K:St→Prop):Exit→St→Prop
 | .normal,s=>K s
 |_,_=>False
theorem piece{P:Program}{N L n:Nat}{c:Code}{st:St}{K:St→Prop}{F:Nat→Prop}{base:Nat}{E₀ E:Env}{w₀ w:World}{a:Act}{Q:Exit→Act→World→Prop}(hc:oS base L E₀ w₀ E w)(hs:dR F base N st E a w)(h:W P N L c st (H0 K))(hq:∀s E' a' w',K s→dR F base N s E' a' w'→cX E₀ w₀ E' w'→Below base w₀ w'→Q .normal a' w'):c.wpIn Fence.wide n P Q a w:=
 wpIn_wide.2 (wp_mono (h F base E₀ w₀ E a w hc hs) fun e a' w' ⟨s,E',k1,k2,k3,k4⟩=>by
  cases e<;>first|exact hq s E' a' w' k1 k2 k3 k4|exact k1.elim)
def vk:Op→Bool
 | .defer _=>true
 |_=>false
theorem Di{ops:Array Oper}(h:(ops.all fun o=> !vk o.op)=true)(i:Nat)(o:Oper)(ho:ops[i]? =some o)(c:Call):o.op≠ .defer c:=fun e=>by
 have:=Array.all_eq_true'.1 h o (Array.mem_of_getElem? ho)
 rw[e]at this
 cases this
theorem HA{E:Env}{w w':World}{v:Value}{L:List np}{n₁ G:Nat}(h:cG E w v (.slice L.length (gP L)))(hE:Ext w w')(hG:G=n₁∨E.M G)(hlt:∀b,E.M b→b<w.heap.size)(hn:w'.heap.size=n₁:=by rfl):JR n₁ G w' v L:=by
 generalize hn1:L.length=m at h
 generalize hxs:gP L=xs at h
 cases h with
 |bT=>exact .inl ⟨none,0,rfl,List.eq_nil_of_length_eq_zero hn1⟩
 |empty a c _=>exact .inl ⟨some a,c,rfl,List.eq_nil_of_length_eq_zero hn1⟩
 |slice b off _ c cs _ h0 h1 h2 hb hM hc hl hr=>
  subst hn1
  subst hxs
  have hz:=hE.size
  refine .inr ⟨b,off,c,rfl,by omega,fun e=>?_,fun i hi=>?_⟩
  ·subst e
   rcases hG with h|h
   ·omega
   ·exact hM h
  ·have key:∀j v,(jK (cB L i))[j]? =some (.raw v)→j<7→w'.cell? ⟨b,off+(i*7+j),none⟩=some v:=fun j v hj h7=>by
    have e:=eG L i j hi h7
    rw[hj]at e
    have hlt:i*7+j<cs.length:=by rw[hl];exact(List.getElem?_eq_some_iff.1 e).1
    have hcs:cs[i*7+j]? =some cs[i*7+j]:=List.getElem?_eq_getElem hlt
    have:=dV (hr _ _ _ hcs e)
    rw[this]at hcs
    exact hE.cell (hc _ _ hcs)
   have k0:=key 0 _ rfl (by omega)
   have k1:=key 1 _ rfl (by omega)
   have k2:=key 2 _ rfl (by omega)
   have k3:=key 3 _ rfl (by omega)
   have k4:=key 4 _ rfl (by omega)
   have k5:=key 5 _ rfl (by omega)
   have k6:=key 6 _ rfl (by omega)
   simp only[←Nat.add_assoc,Nat.add_zero]at k0 k1 k2 k3 k4 k5 k6
   exact⟨k0,k1,k2,k3,k4,k5,k6⟩
theorem xh{P:Program}{F:Fence}{n:Nat}{c:Code}{Q:Exit→Act→World→Prop}{a:Act}{w:World}(Fin:Act→World→Prop)(h1:c.wpIn F n P (Exit.then Fin Q) a w)(h2:∀a' w',Fin a' w'→c.wpIn F n P (Exit.then (fun _ _=>False) Q) a' w'):(Code.loop c).wpIn F n P Q a w:=by
 have mono:∀ {K K':Act→World→Prop} {a:Act} {w:World},(∀a w,K a w→K' a w)→c.wpIn F n P (Exit.then K Q) a w→c.wpIn F n P (Exit.then K' Q) a w:=fun hk h b k cs hro hb hr=>by
  obtain⟨e,a',w',q,r⟩:=h b k cs hro hb hr
  exact⟨e,a',w',by cases e<;>first|exact hk _ _ q|exact q,r⟩
 classical
 by_cases hf:Fin a w
 ·exact wpIn_loop Fin (fun _ _=>0) hf (fun a w h=>mono (fun _ _ h=>h.elim) (h2 a w h))
 ·refine wpIn_loop (fun a' w'=>(a'=a∧w'=w)∨Fin a' w') (fun a' w'=>if Fin a' w' then 0 else 1) (.inl ⟨rfl,rfl⟩) ?_
  rintro a' w' (⟨rfl,rfl⟩|h)
  ·exact mono (fun a'' w'' h=>⟨.inr h,by rw[if_pos h,if_neg hf];exact Nat.one_pos⟩) h1
  ·exact mono (fun _ _ h=>h.elim) (h2 a' w' h)
theorem bX{α:Type}{l:List α}{n:Nat}(h:l.length=n+1):∃a t,l=a::t∧t.length=n:=by
 cases l with
 |nil=>simp at h
 |cons a t=>exact⟨a,t,rfl,by simpa using h⟩
set_option maxRecDepth 100000 in
set_option maxHeartbeats 4000000 in
theorem Cf(T:an)(k x:Int)(hv:ao T=true)(hc:bZ T k x=true)(w:World)(vs:Array Value)(hR:bb (EF fun _=>False) w vs.toList [aN T,.slice 1 (ct k x)])(gl:ir (fun _=>False) w):
  Calls Tryz.prog 60 vs w fun e w'=>∃v,e= .returned (.tuple #[v,.int .i64 0])∧Ext w w'∧w'.ownsRow w.heap.size 4 1 v (2*T.ae.length) ((aC T k x).map Value.bool):=by
 have hll:=bJ hv
 have hS:=Sat.start (fun _=>False) w (fun _ h=>h.elim) gl
 refine(callsIn_wide (n:=4)).1 ?_
 refine callsIn_of_wp_marks Tryz.func60 rfl trivial ?_ rfl
 have hs0:=ja (N:=41) hS hR (by have:=hR.1;simp at this;omega)
 have hc0:oS w.heap.size 0 (EF fun _=>False) w (EF fun _=>False) w:=⟨rfl,cX.refl _ _,Below.refl _ _⟩
 refine wpIn_seq (piece (K:=fun s=>s=⟨[(1,.slice 1 (ct k x)),(2,.aY (bq T) 0)],[]⟩) hc0 hs0 ?_ ?_)
 ·skip
  refine az (.a 3 rfl<|.k [1,2] rfl) ?_
  exact rfl
 rintro _ E1 a1 w1 rfl hs1 g1 b1
 refine wpIn_seq (piece (K:=fun s=>s=⟨[(1,.slice 1 (ct k x)),(2,.aY (bq T) 0)],[]⟩) ⟨rfl,g1,b1⟩ hs1 ?_ ?_)
 ·skip
  refine ab (.a 1 rfl<|.c rfl (eC T) rfl<|.a 1 rfl<|.k [1,2,12] rfl) ?_
  rw[hv]
  refine ag rfl (fun hc=>?_) (fun hc=>?_)
  ·cases hc
  ·refine eu [1,2] rfl (ai ?_)
   exact rfl
 rintro _ E2 a2 w2 rfl hs2 g2 b2
 refine wpIn_seq (piece (K:=fun s=>s=⟨[(1,.slice 1 (ct k x)),(2,.aY (bq T) 0),(6,.ptr 1 0)],[some (.row 4 1 (2*T.ae.length) (bQ (List.replicate (2*T.ae.length) false))),some (.cells 22 [.own 0])]⟩) ⟨rfl,g2,b2⟩ hs2 ?_ ?_)
 ·skip
  refine bF<|av 1 rfl<|ec rfl (ik T (by omega)) rfl<|cp (dF rfl (bI.rk.get rfl) rfl rfl (show 2*(T.ae.length:Int)=((2*T.ae.length:Nat):Int) by omega) (show 2*(T.ae.length:Int)=((2*T.ae.length:Nat):Int) by omega) ⟨by unfold maxLen;omega,by omega⟩) rfl<|av 2 rfl<|aG [1,2,6] rfl ?_
  rw[←iA]
  rfl
 rintro _ E3 a3 w3 rfl hs3 g3 b3
 obtain⟨n,hn⟩:∃n,2*T.ae.length=n:=⟨_,rfl⟩
 rw[hn]at hs3
 obtain⟨B,cs1,hB,hBb,hBh,hBr⟩:=hs3.sat.blk 1 _ rfl
 obtain⟨cs0,hrow,hcs0⟩:=hs3.sat.blk 0 _ rfl
 have t1:=hs3.tmp 1 _ rfl
 have t2:=hs3.tmp 2 _ rfl
 have t6:=hs3.tmp 6 _ rfl
 have hsz:=hs3.size
 have hdf:=hs3.kD
 obtain⟨arr,ds⟩:=a3
 simp only at hdf hsz
 subst hdf
 obtain⟨al⟩:=arr
 replace hsz:al.length=41:=by simpa using hsz
 obtain⟨x0,z0,e0,k0⟩:=bX (n:=40) hsz
 obtain⟨x1,z1,e1,k1⟩:=bX (n:=39) k0
 obtain⟨x2,z2,e2,k2⟩:=bX (n:=38) k1
 obtain⟨x3,z3,e3,k3⟩:=bX (n:=37) k2
 obtain⟨x4,z4,e4,k4⟩:=bX (n:=36) k3
 obtain⟨x5,z5,e5,k5⟩:=bX (n:=35) k4
 obtain⟨x6,z6,e6,k6⟩:=bX (n:=34) k5
 obtain⟨x7,z7,e7,k7⟩:=bX (n:=33) k6
 obtain⟨x8,z8,e8,k8⟩:=bX (n:=32) k7
 obtain⟨x9,z9,e9,k9⟩:=bX (n:=31) k8
 obtain⟨x10,z10,e10,k10⟩:=bX (n:=30) k9
 obtain⟨x11,z11,e11,k11⟩:=bX (n:=29) k10
 obtain⟨x12,z12,e12,k12⟩:=bX (n:=28) k11
 obtain⟨x13,z13,e13,k13⟩:=bX (n:=27) k12
 obtain⟨x14,z14,e14,k14⟩:=bX (n:=26) k13
 obtain⟨x15,z15,e15,k15⟩:=bX (n:=25) k14
 obtain⟨x16,z16,e16,k16⟩:=bX (n:=24) k15
 obtain⟨x17,z17,e17,k17⟩:=bX (n:=23) k16
 obtain⟨x18,z18,e18,k18⟩:=bX (n:=22) k17
 obtain⟨x19,z19,e19,k19⟩:=bX (n:=21) k18
 obtain⟨x20,z20,e20,k20⟩:=bX (n:=20) k19
 obtain⟨x21,z21,e21,k21⟩:=bX (n:=19) k20
 obtain⟨x22,z22,e22,k22⟩:=bX (n:=18) k21
 obtain⟨x23,z23,e23,k23⟩:=bX (n:=17) k22
 obtain⟨x24,z24,e24,k24⟩:=bX (n:=16) k23
 obtain⟨x25,z25,e25,k25⟩:=bX (n:=15) k24
 obtain⟨x26,z26,e26,k26⟩:=bX (n:=14) k25
 obtain⟨x27,z27,e27,k27⟩:=bX (n:=13) k26
 obtain⟨x28,z28,e28,k28⟩:=bX (n:=12) k27
 obtain⟨x29,z29,e29,k29⟩:=bX (n:=11) k28
 obtain⟨x30,z30,e30,k30⟩:=bX (n:=10) k29
 obtain⟨x31,z31,e31,k31⟩:=bX (n:=9) k30
 obtain⟨x32,z32,e32,k32⟩:=bX (n:=8) k31
 obtain⟨x33,z33,e33,k33⟩:=bX (n:=7) k32
 obtain⟨x34,z34,e34,k34⟩:=bX (n:=6) k33
 obtain⟨x35,z35,e35,k35⟩:=bX (n:=5) k34
 obtain⟨x36,z36,e36,k36⟩:=bX (n:=4) k35
 obtain⟨x37,z37,e37,k37⟩:=bX (n:=3) k36
 obtain⟨x38,z38,e38,k38⟩:=bX (n:=2) k37
 obtain⟨x39,z39,e39,k39⟩:=bX (n:=1) k38
 obtain⟨x40,z40,e40,k40⟩:=bX (n:=0) k39
 have e41:=List.eq_nil_of_length_eq_zero k40
 subst e41
 subst e40
 subst e39
 subst e38
 subst e37
 subst e36
 subst e35
 subst e34
 subst e33
 subst e32
 subst e31
 subst e30
 subst e29
 subst e28
 subst e27
 subst e26
 subst e25
 subst e24
 subst e23
 subst e22
 subst e21
 subst e20
 subst e19
 subst e18
 subst e17
 subst e16
 subst e15
 subst e14
 subst e13
 subst e12
 subst e11
 subst e10
 subst e9
 subst e8
 subst e7
 subst e6
 subst e5
 subst e4
 subst e3
 subst e2
 subst e1
 subst e0
 clear k0 k1 k2 k3 k4 k5 k6 k7 k8 k9 k10 k11 k12 k13 k14 k15 k16 k17 k18 k19 k20 k21 k22 k23 k24 k25 k26 k27 k28 k29 k30 k31 k32 k33 k34 k35 k36 k37 k38 k39 k40 hsz
 skip
 have e1:Act.eval ⟨⟨[x0,x1,x2,x3,x4,x5,x6,x7,x8,x9,x10,x11,x12,x13,x14,x15,x16,x17,x18,x19,x20,x21,x22,x23,x24,x25,x26,x27,x28,x29,x30,x31,x32,x33,x34,x35,x36,x37,x38,x39,x40]⟩,[]⟩ (.tmp 1)=x1:=rfl
 have e2:Act.eval ⟨⟨[x0,x1,x2,x3,x4,x5,x6,x7,x8,x9,x10,x11,x12,x13,x14,x15,x16,x17,x18,x19,x20,x21,x22,x23,x24,x25,x26,x27,x28,x29,x30,x31,x32,x33,x34,x35,x36,x37,x38,x39,x40]⟩,[]⟩ (.tmp 2)=x2:=rfl
 have e6:Act.eval ⟨⟨[x0,x1,x2,x3,x4,x5,x6,x7,x8,x9,x10,x11,x12,x13,x14,x15,x16,x17,x18,x19,x20,x21,x22,x23,x24,x25,x26,x27,x28,x29,x30,x31,x32,x33,x34,x35,x36,x37,x38,x39,x40]⟩,[]⟩ (.tmp 6)=x6:=rfl
 rw[e1]at t1
 rw[e2]at t2
 rw[e6]at t6
 clear e1 e2 e6
 cases t1 with
 |slice lb lo _ lcap lcs _ _ hl1 hl2 hlb hlM hlc hll' hlr=>
  match lcs,hll',hlc,hlr with
  | [u0,u1],_,hlc,hlr=>
   have hu0:=dV (hlr 0 u0 _ rfl rfl)
   have hu1:=dV (hlr 1 u1 _ rfl rfl)
   subst hu0
   subst hu1
   have l0:=hlc 0 _ rfl
   have l1:=hlc 1 _ rfl
   clear hlc hlr
   cases t2 with
   |aY bt bo off tcs _ htb htM htc htl htr=>
    match tcs,htl,htc,htr with
    | [c0,c1,c2],_,htc,htr=>
     have m0:=htc 0 _ rfl
     have m1:=htc 1 _ rfl
     have m2:=htc 2 _ rfl
     have hT3:bb E3 w3 [c0,c1,c2] (bq T):=⟨rfl,htr⟩
     cases t6 with
     |ptr _ _ B' _ h6=>
      have hBB:B'=B:=by
       rcases h6 with h6|⟨n',c',h6⟩
       ·rw[hB]at h6;cases h6;rfl
       ·rw[hB]at h6;cases h6
      subst hBB
      clear h6
      simp only[Nat.add_zero]at l0 l1 m0 m1 m2 ⊢
      have hcw:=lW T k x
      rw[hc]at hcw
      have E34:Ext w3 (w3.alloc (.cells #[.int .i64 k,.int .i64 x] 33)):=(Ext.refl w3).alloc _
      have hwi:=(callsIn_wide (n:=3)).2 (hcw (fun _=>False) (w3.alloc (.cells #[.int .i64 k,.int .i64 x] 33)) #[.agg #[c0,c1,c2],.agg #[.int .i64 k,.int .i64 x]] (fun _ h=>h.elim) ((hs3.sat.gl.sub (fun _ h=>h.elim)).goes (E:=EF fun _=>False) (E':=EF fun _=>False) (.ext E34)) (bb.cons (.agg _ _ rfl (fun j z u k1 k2=>((hT3.pure (fun _ h=>h.elim):bb (EF fun _=>False) w3 [c0,c1,c2] (bq T)).2 j z u (by simpa using k1) k2).goes (.ext E34))) (bb.cons (.agg _ _ rfl (fun j z u k1 k2=>(bb.cons (.raw _) (bb.cons (.raw _) (bb.nil _ _)):bb (EF fun _=>False) _ [.int .i64 k,.int .i64 x] (ct k x)).2 j z u (by simpa using k1) k2)) (bb.nil _ _))))
      gi_wp2
      refine xh (fun a' w'=>∃(y0 y1 y2 y3 y4 y5 y7 y8 y9 y10 y11 y12 y13 y14 y15 y16 y19 y20 y21 y22 y23 y24 y25 y26 y27 y28 y29 y30 y31 y32 y33 y34 y35 y36 y37 y38 y39 y40:Value) (D:Nat),a'=⟨#[y0,y1,y2,y3,y4,y5,Value.pointer (some ⟨B',0,none⟩),y7,y8,y9,y10,y11,y12,y13,y14,y15,y16,Value.int .i64 1,Value.int .i64 1,y19,y20,y21,y22,y23,y24,y25,y26,y27,y28,y29,y30,y31,y32,y33,y34,y35,y36,y37,y38,y39,y40],[⟨.collected D,#[]⟩]⟩∧lP w.heap.size n B' (E3.at_ 0) E3.M (aC T k x) w'∧Below w.heap.size w w'∧w.heap.size≤D∧w'.heap[D]? =some (.deferred (some []))) ?_ ?_
      ·gi_wp2
       refine⟨trivial,hwi.mono ?_⟩
       rintro e w5 ⟨v5,rfl,hE5,r,rfl,hv5⟩
       cases hv5
       have q0:w5.cell? ⟨bt,bo,none⟩=some c0:=hE5.cell (hZ _ m0)
       have q1:w5.cell? ⟨bt,bo+1,none⟩=some c1:=hE5.cell (hZ _ m1)
       have q2:w5.cell? ⟨bt,bo+2,none⟩=some c2:=hE5.cell (hZ _ m2)
       have q3:w5.cell? ⟨w3.heap.size,0,none⟩=some (.int .i64 k):=hE5.cell (Gk w3 _ _ _).1
       have q4:w5.cell? ⟨w3.heap.size,1,none⟩=some (.int .i64 x):=hE5.cell (Gk w3 _ _ _).2
       gi_wp2
       refine⟨trivial,(Dp c0 c1 c2 k x 3 w5).mono ?_⟩
       rintro e w6 ⟨rfl,rfl⟩
       gi_wp2
       have E35:Ext w3 w5:=E34.trans hE5
       have hz5:=E35.size
       have E56:Ext w5 ((w5.alloc (.cells #[c0,c1,c2] 25)).alloc (.cells #[.int .i64 k,.int .i64 x] 33)):=((Ext.refl w5).alloc _).alloc _
       have hz6:((w5.alloc (.cells #[c0,c1,c2] 25)).alloc (.cells #[.int .i64 k,.int .i64 x] 33)).heap.size=w5.heap.size+2:=by simp
       have p2:((w5.alloc (.cells #[c0,c1,c2] 25)).alloc (.cells #[.int .i64 k,.int .i64 x] 33)).cell? ⟨w5.heap.size,2,none⟩=some c2:=hZ _ (Ks w5 _ _ _ _)
       have p3:((w5.alloc (.cells #[c0,c1,c2] 25)).alloc (.cells #[.int .i64 k,.int .i64 x] 33)).cell? ⟨w5.heap.size+1,0,none⟩=some (.int .i64 k):=by
        have:=(Gk (w5.alloc (.cells #[c0,c1,c2] 25)) (.int .i64 k) (.int .i64 x) 33).1
        rwa [World.size_alloc]at this
       have p4:((w5.alloc (.cells #[c0,c1,c2] 25)).alloc (.cells #[.int .i64 k,.int .i64 x] 33)).cell? ⟨w5.heap.size+1,1,none⟩=some (.int .i64 x):=by
        have:=(Gk (w5.alloc (.cells #[c0,c1,c2] 25)) (.int .i64 k) (.int .i64 x) 33).2
        rwa [World.size_alloc]at this
       generalize (w5.alloc (.cells #[c0,c1,c2] 25)).alloc (.cells #[.int .i64 k,.int .i64 x] 33)=w6 at*
       have E36:Ext w3 w6:=E35.trans E56
       obtain⟨hU3,hone⟩:=lP.of hs3.sat hB
       have hU6:lP w.heap.size n B' (E3.at_ 0) E3.M (List.replicate n false) w6:=hU3.same E36.size (fun b cs t fz hb=>E36.block b (Array.getElem?_eq_some_iff.1 hb).1)
       have hL3:E3.L=2:=hs3.sat.len
       obtain⟨G,hGv,hGM⟩:∃G,(∀b,bz (E3.at_ 0)=some b→b=G)∧(G=w6.heap.size∨E3.M G):=by
        cases hbo:bz (E3.at_ 0)with
        |none=>exact⟨_,fun b h=>(by cases h),.inl rfl⟩
        |some g=>exact⟨g,fun b h=>(by cases h;rfl),.inr ((hs3.sat.mm g).2 (.inr ⟨0,_,rfl,hbo⟩))⟩
       have hlk:=HA (n₁:=w6.heap.size) (hT3.2 2 c2 _ rfl rfl) E36 hGM (fun b hb=>hs3.sat.lt hb)
       have hGc:w5.heap.size+1≠G:=by
        rcases hGM with h|h
        ·omega
        ·have:=hs3.sat.lt h;omega
       have hk3:k=1∨k=2∨k=3:=by
        unfold bZ at hc
        split at hc
        ·exact .inl ‹_›
        ·split at hc
         ·exact .inr (.inl ‹_›)
         ·split at hc
          ·exact .inr (.inr ‹_›)
          ·cases hc
       refine wpIn_rangeFunc_ownF (α:=fw.Ix T.ae.length) rfl (by omega) (gf:=160) (lb:= #[.pointer (some ⟨w5.heap.size,0,none⟩),.pointer (some ⟨w5.heap.size+1,0,none⟩)]) rfl trivial (enters_of Tryz.func160 (by kernel_rfl) rfl)
        (encs:=fun i=> #[Value.int .i64 (i.1:Int)]) (wa T k x hk3 (by omega) 3 w5.heap.size (w5.heap.size+1) G (by omega) c2 w6 (by omega) (by omega) hGc p2 p3 p4 hlk) (fun h1 h2=>h1.trans h2) (fun W l o o' hl ho _ _=>⟨(grownBy_putObj' W l o').size,fun b h1 _=>(grownBy_putObj' W l o').block b (by have:=(Array.getElem?_eq_some_iff.1 ho).1;omega) (fun e=>by cases e;omega)⟩) (Below.refl _ _) (fun _=>rfl)
        (fun l W=>lP w.heap.size n B' (E3.at_ 0) E3.M (CU n l) W∧Kp G w6.heap.size w6 W∧Below w.heap.size w W) (fun _ _ _=>False)
        (fun s W W' row hs hg hr=>⟨hs.1.grown hg (fun r e=>(hr r e).2),⟨Nat.le_trans hs.2.1.size hg.size,fun b h1 h2=>(hg.block b (by have:=hs.2.1.size;omega) (fun e=>by have:=(hr b e.symm).1;omega)).trans (hs.2.1.block b h1 h2)⟩,hs.2.2.trans ⟨hg.os,hg.tape,hg.output,hg.size,fun b h1=>hg.block b (by have:=hs.1.bl;omega) (fun e=>by have:=(hr b e.symm).1;have:=hU6.bl;omega)⟩⟩)
        (fun _ _ _ _ _ h _ _=>h) ⟨hU6,Kp.refl _ _ _,b3.trans (Below.iP E36 hs3.sat.bl)⟩
        (fun i=>⟨#[x0,Value.slice (some ⟨lb,lo,none⟩) 1 lcap,Value.pointer (some ⟨bt,bo,none⟩),x3,x4,x5,Value.pointer (some ⟨B',0,none⟩),x7,Value.pointer (some ⟨w3.heap.size,0,none⟩),Value.int .i64 (i.1:Int),x10,x11,x12,x13,x14,x15,Value.slice (some ⟨lb,lo,none⟩) 1 lcap,Value.int .i64 1,Value.int .i64 0,Value.bool true,Value.pointer (some ⟨lb,lo,none⟩),Value.agg #[.int .i64 k,.int .i64 x],Value.agg #[c0,c1,c2],Value.agg #[.int .i64 k,.int .i64 x],Value.bool true,Value.bool false,Value.agg #[c0,c1,c2],Value.agg #[.int .i64 k,.int .i64 x],Value.func (.func 160) #[] #[.pointer (some ⟨w5.heap.size,0,none⟩),.pointer (some ⟨w5.heap.size+1,0,none⟩)],Value.int .i64 (i.1:Int),x30,x31,x32,x33,x34,x35,x36,x37,x38,x39,x40],[]⟩) ?assign ?body ?done ?stop
       case assign=>
        intro l i W K hK
        gi_wp2
        exact hK
       case body=>
        rintro l pre i W ⟨hU,hK,hb⟩ hlt
        have hMl:=uP (n:=n) pre
        have hi2:=i.2
        have hb11:=IL (CU n pre) i.1 (by rw[hMl];omega) (by rw[hMl];omega)
        rw[hMl,←wv]at hb11
        have hUd:lP w.heap.size n B' (E3.at_ 0) E3.M (CU n pre) {W with drawn:=W.drawn+1}:=hU.same (Nat.le_refl _) (fun _ _ _ _ _=>rfl)
        have hsat:=hUd.sat hs3.sat rfl ⟨_,_,_,_,rfl⟩ hB hBb hone
        refine wpIn_block (wpIn_region_any mixed (jL (fun j o ho c=>?_) ?_ _ _ _ _ (hb11.any (fun _=>False) w.heap.size E3 {W with drawn:=W.drawn+1} E3 _ {W with drawn:=W.drawn+1} ⟨hL3,cX.refl _ _,Below.refl _ _⟩ ⟨hsat,?_,rfl,rfl⟩ _ ?_)))
        ·exact Di (by kernel_rfl) j o ho c
        ·rintro⟨a',w',h⟩
         exact h
        ·intro k' p' hk'
         simp only[look,Bool.cond_eq_ite]at hk'
         split at hk'
         ·rename_i he
          have:=Nat.eq_of_beq_eq_true he
          subst this
          cases hk'
          exact .ptr 1 0 B' (by omega) (.inl hB)
         ·split at hk'
          ·rename_i he
           have:=Nat.eq_of_beq_eq_true he
           subst this
           cases hk'
           exact .raw _
          ·cases hk'
        ·rintro a' w' ⟨⟨t',σ'⟩,E',hσ,hs',hg',hb'⟩
         simp only at hσ
         subst hσ
         have hB'2:E'.at_ 1= .pointer (some ⟨B',0,none⟩):=(hg'.at_ 1 (by omega)).trans hB
         have hv':E'.at_ 0=E3.at_ 0:=hg'.at_ 0 (by omega)
         obtain⟨hU',_⟩:=lP.of hs'.sat hB'2
         rw[hv']at hU'
         have hMM:∀b,E3.M b→E'.M b:=fun b hb=>by
          rcases(hs3.sat.mm b).1 hb with h|⟨j,blk,h1,h2⟩
          ·exact h.elim
          ·match j,h1 with
           |0,_=>exact(hs'.sat.mm b).2 (.inr ⟨0,_,rfl,by rw[hv'];exact h2⟩)
           |1,_=>exact(hs'.sat.mm b).2 (.inr ⟨1,_,rfl,by rw[hg'.at_ 1 (by omega)];exact h2⟩)
           |_+2,h1=>simp at h1
         have hown:∀b,E3.M b→bz (E3.at_ 0)=some b∨b=B':=fun b hb=>by
          rcases(hs3.sat.mm b).1 hb with h|⟨j,blk,h1,h2⟩
          ·exact h.elim
          ·match j,h1 with
           |0,_=>exact .inl h2
           |1,_=>rw[hB]at h2;cases h2;exact .inr rfl
           |_+2,h1=>simp at h1
         have hfin:lP w.heap.size n B' (E3.at_ 0) E3.M (CU n (pre++[i])) w':=⟨hU'.bl,hU'.row,hU'.box,hU'.gl.sub hMM⟩
         have hzW:w6.heap.size≤W.heap.size:=hK.size
         have hkp:Kp G w6.heap.size W w':=⟨hg'.size,fun b h1 h2=>by
          by_cases hm:E3.M b
          ·rcases hown b hm with h|h
           ·exact absurd (hGv b h) h2
           ·rw[h,hU'.box,hU.box]
          ·exact hg'.heap b (show b<W.heap.size by omega) hm⟩
         refine⟨⟨hg'.size,fun b o hb ho=>?_⟩,hkp,hfin,hK.trans hkp,hb.trans ⟨hb'.os,hb'.tape,hb'.output,hb'.size,hb'.block⟩⟩
         have hnm:¬E3.M b:=fun hm=>by
          rcases hown b hm with h|h
          ·rcases hU.row.2 with⟨h1,_⟩|⟨g,cap,cur,h1,_,h3,_⟩
           ·rw[h1]at h;cases h
           ·rw[h1]at h
            cases h
            rw[h3]at hb
            cases hb
            cases ho
          ·rw[h,hU.box]at hb
           cases hb
           cases ho
         rw[hg'.heap b (Array.getElem?_eq_some_iff.1 hb).1 hnm]
         exact hb
       case done=>
        rintro D ys W hD rfl ⟨hU,hK,hb⟩ hDh
        have hmk:CU n (lu (cD k x T.ae) T.ae.length T.ae.length)=aC T k x:=by rw[←hn];exact Gj T k x
        rw[hmk]at hU
        gi_wp2
        exact⟨_,_,_,_,_,_,_,_,_,_,_,_,_,_,_,_,_,_,_,_,_,_,_,_,_,_,_,_,_,_,_,_,_,_,_,_,_,_,D,rfl,hU,hb,by have:=hU6.bl;omega,hDh⟩
       case stop=>
        rintro D c pre W _ _ h _
        exact h.elim
      ·rintro a' w' ⟨y0,y1,y2,y3,y4,y5,y7,y8,y9,y10,y11,y12,y13,y14,y15,y16,y19,y20,y21,y22,y23,y24,y25,y26,y27,y28,y29,y30,y31,y32,y33,y34,y35,y36,y37,y38,y39,y40,D,rfl,hU,hb,hD,hDh⟩
       have hbx:w'.cell? ⟨B',0,none⟩=some (E3.at_ 0):=by
        unfold World.cell?
        simp only[hU.box]
        rfl
       gi_wp2
       have hput:=grownBy_putObj' w' D (.deferred none)
       have hnd:∀(g:Nat) (o:Array Value) (e:TypeId),w'.heap[g]? =some (Obj.cells o e (0,0))→(w'.putObj D (.deferred none)).heap[g]? =w'.heap[g]? :=fun g o e hg=>hput.block g (Array.getElem?_eq_some_iff.1 hg).1 (fun h=>by cases h;rw[hDh]at hg;cases hg)
       refine⟨by simp,.inl ⟨_,_,rfl,run_takeDeferred hDh,?_⟩⟩
       rw[hn]
       exact⟨_,results_tmp2 rfl _ _ _,E3.at_ 0,rfl,hb.trans ⟨hput.os,hput.tape,hput.output,hput.size,fun b h1=>hput.block b (by have:=hU.bl;omega) (fun h=>by cases h;omega)⟩,vL hU.row (fun g o hg=>hnd g o _ hg)⟩
end PW
end Go.Proofs.YtnegbdpggideiaaGreatDoor
namespace Go.Proofs.YtnegbdpggideiaaGreatDoor
namespace PW
open Go.RowKit cH Mem Net fw
theorem Can.KL{P:Program}{f:FuncId}{ps:List PV}{R:PV→cm→Prop}{S:PV→Prop}(h:bS P f ps [] R)(hR:∀r σ',R r σ'→∃q,aB σ' r q∧S q):Can P f ps S:=fun F w vs hF hG hr=>by
 refine(h F w.heap.size (EF F) w vs (Sat.start F w hF hG) hr).mono ?_
 rintro e w' ⟨v,r,σ',E',rfl,h1,h2,h3,h4,h5⟩
 obtain⟨q,k1,k2⟩:=hR r σ' h1
 exact⟨v,rfl,h4,q,k2,k1.rep h2 (fun b hb=>(h2.mm b).2 (.inl hb)) (fun b hb=>(h2.fb b hb).2) v h5⟩
theorem yW(T:an)(k x:Int)(hv:ao T=true)(hc:bZ T k x=true):bS Tryz.prog 60 [aN T,.slice 1 (ct k x)] [] (fun r σ'=>r= .tuple [.own 0,num 0]∧σ'=[some (.row 4 1 (2*T.ae.length) (bQ (aC T k x)))]):=fun F base E w vs hS hR=>by
 refine(Cf T k x hv hc w vs (hR.pure (fun _ h=>h.elim)) (hS.gl.sub fun _ h=>h.elim)).mono ?_
 rintro e w' ⟨v,rfl,hE,hrow⟩
 have hrow2:w'.ownsRow base 4 1 v (2*T.ae.length) ((aC T k x).map Value.bool):=⟨hrow.1,hrow.2.imp id fun⟨g,cap,cur,h1,h2,h3⟩=>⟨g,cap,cur,h1,Nat.le_trans hS.bl h2,h3⟩⟩
 have hnew:∀b,bz v=some b→w.heap.size≤b∧b<w'.heap.size:=fun b hb=>by
  rcases hrow.2 with⟨h1,_⟩|⟨g,cap,cur,h1,h2,h3,_⟩
  ·rw[h1]at hb;cases hb
  ·rw[h1]at hb
   cases hb
   exact⟨h2,(Array.getElem?_eq_some_iff.1 h3).1⟩
 have hone:v.oneCell'=true:=by
  rcases hrow.2 with⟨h1,_⟩|⟨g,cap,cur,h1,h2,h3,_⟩<;>rw[h1]<;>rfl
 have hL:E.L=0:=hS.len
 have hp:=hS.push hE (v:=v) (blk:=.row 4 1 (2*T.ae.length) (bQ (aC T k x))) (fun b h=>(hnew b h).1) ⟨_,hrow2,pr _⟩
 refine⟨_,_,_,E.push v,rfl,⟨rfl,rfl⟩,hp.1,hp.2,Below.iP hE hS.bl,.tuple _ _ rfl (fun i c u h1 h2=>?_)⟩
 match i,h1,h2 with
 |0,h1,h2=>
  simp at h1 h2
  subst h1
  subst h2
  exact .own 0 (by show 0<E.L+1;omega) _ (by simp[Env.push,hL]) hone
 |1,h1,h2=>
  simp at h1 h2
  subst h1
  subst h2
  exact .raw _
 |_+2,h1,h2=>simp at h2
def da(T:an)(k x:Int):Int:=if(ao T&&bZ T k x)=true then 0 else 1
def iM(e:Int)(L:List Bool):PV:=.tuple [aQ (if e=0 then L else []),num e]
theorem ez(T:an)(k x:Int):(aC T k x).length=2*T.ae.length:=by simp[aC]
theorem zB(T:an)(k x:Int)(hno:(ao T&&bZ T k x)=false):Can Tryz.prog 60 [aN T,.slice 1 (ct k x)] (· =iM 1 []):=by
 refine aE Tryz.func60 rfl Tryz.ntmps60 rfl<|ab (.a 3 rfl<|.k [1,2] rfl)<|ah<|ab (.a 1 rfl<|.c rfl (eC T) rfl<|.a 1 rfl<|.k [1,2,12] rfl)<|ag rfl (fun h1=>?_) (fun h1=>?_)
 ·skip
  exact ab (.a 2 rfl<|.k [4,5] rfl)<|aq<|⟨_,_,aA.of rfl,aB.bx (aj.cons aB.bT (aj.cons aB.pure aj.nil)),rfl⟩
 ·have hv:ao T=true:=by simpa using h1
  have hc:bZ T k x=false:=by rw[hv,Bool.true_and]at hno;exact hno
  have hll:=bJ hv
  have hcw:=lW T k x
  rw[hc]at hcw
  refine ai<|aP<|av 1 rfl<|ec rfl (ik T (by omega)) rfl<|cp (dF rfl (bI.rk.get rfl) rfl rfl (show 2*(T.ae.length:Int)=((2*T.ae.length:Nat):Int) by omega) (show 2*(T.ae.length:Int)=((2*T.ae.length:Nat):Int) by omega) ⟨by unfold maxLen;omega,by omega⟩) rfl<|av 2 rfl<|aG [1,2,6] rfl ?_
  refine ah<|ab (.a 3 rfl<|.k [2,6,16,17,18] rfl)<|au<|eu [2,6,16,17,18] rfl<|bf (fun r st=>st=⟨[(2,.aY (bq T) 0),(6,.ptr 1 0),(16,.slice 1 (ct k x)),(17,num 1),(18,num 0)],[some (.row 4 1 (2*T.ae.length) (dI [.raw (.bool false)] (2*T.ae.length))),some (.cells 22 [.own 0])]⟩) 0 rfl ?_
  rintro r st rfl
  refine ab (.a 1 rfl<|.k [2,6,16,17,18,19] rfl)<|ah<|ag rfl (fun h2=>?_) (fun h2=>?_)
  ·skip
   refine ai<|ah<|au<|aP<|bC (aJ (0) rfl) rfl<|bC (gO rfl ((show((ct k x).drop 0).take 2=ct k x from rfl)) rfl) rfl<|av 2 rfl<|aG [2,6,8,16,17,18] rfl ?_
   refine ah<|ab (.a 2 rfl<|.c rfl (hcw) rfl<|.a 1 rfl<|.k [2,6,8,16,17,18,25] rfl)<|ag rfl (fun h3=>?_) (fun h3=>?_)
   ·skip
    exact ab (.a 2 rfl<|.k [4,5] rfl)<|aq<|⟨_,_,aA.of rfl,aB.bx (aj.cons aB.bT (aj.cons aB.pure aj.nil)),rfl⟩
   ·exact absurd h3 (by decide)
  ·exact absurd h2 (by decide)
theorem s9(T:an)(k x:Int)(hv:ao T=true)(hc:bZ T k x=true):bS Tryz.prog 16 [aN T,bW k x] [] (fun r σ'=>r= .tuple [.own 0,num 0]∧σ'=[some (.row 4 1 (2*T.ae.length) (bQ (aC T k x)))]):=by
 refine cw Tryz.func16 rfl Tryz.ntmps16 rfl<|ab (.a 4 rfl<|.k [2,3] rfl)<|aP<|av 3 rfl<|cP rfl rfl (bS.mono (yW T k x hv hc) (fun r σ' h=>?_))
 obtain⟨rfl,rfl⟩:=h
 refine av 4 rfl<|aG [4,5] rfl ?_
 exact aq<|⟨_,aA.of rfl,rfl,rfl⟩
theorem mh(T:an)(k x:Int):Can Tryz.prog 16 [aN T,bW k x] (· =iM (da T k x) (aC T k x)):=by
 cases hno:(ao T&&bZ T k x)with
 |true=>
  obtain⟨hv,hc⟩:=Bool.and_eq_true_iff.1 hno
  refine Can.KL (s9 T k x hv hc) ?_
  rintro r σ' ⟨rfl,rfl⟩
  refine⟨_,aB.bx (aj.cons (aB.eH rfl aj.pure) (aj.cons aB.pure aj.nil)),?_⟩
  unfold iM da aQ
  rw[if_pos hno,if_pos rfl,ez]
 |false=>
  have he:da T k x=1:=by unfold da;rw[if_neg (by rw[hno];simp)]
  rw[he]
  exact aE Tryz.func16 rfl Tryz.ntmps16 rfl<|ab (.a 4 rfl<|.k [2,3] rfl)<|ab (.a 3 rfl<|.c rfl (zB T k x hno) rfl<|.a 4 rfl<|.k [4,5] rfl)<|aq<|⟨_,_,aA.of rfl,aB.pure,rfl⟩
end PW
end Go.Proofs.YtnegbdpggideiaaGreatDoor
namespace Go.Proofs.YtnegbdpggideiaaGreatDoor
namespace PW
open Go.RowKit cH Mem
section
variable {P:Program} {N L:Nat} {ops:Array Oper}
theorem WA.mono:∀ {n:Nat} {ls:Array Bool} {st:St} {K K':St→Prop},WA P N L ops n ls st K→(∀s,K s→K' s)→WA P N L ops n ls st K'
 |0,_,_,_,_,h,hk=>⟨h.1,hk _ h.2⟩
 |_+1,_,_,_,_,h,hk=>⟨h.1,fun i hi=>by
   obtain⟨o,h1,h2,h3⟩:=h.2 i hi
   exact⟨o,h1,h2,h3.mono fun s hs=>WA.mono hs hk⟩⟩
theorem rQ{id:Nat}{l:List Oper}{y:Code}{st:St}{Q:Exit→St→Prop}(t':cd)(σ':cm)(hm:P.follows .mixedOrders=true)(h:WA P N L l.toArray l.length (Array.replicate l.length false) st (fun s=>s.σ=σ'∧Sub s.t t'))(hq:W P N L y ⟨t',σ'⟩ Q):W P N L (.seq (.region id l.toArray true) y) st Q:=
 py hm (h.mono fun s hs=>by
  obtain⟨t,σ⟩:=s
  obtain⟨h1,h2⟩:=hs
  subst h1
  exact lf h2 hq)
theorem Sat.seal{F:Nat→Prop}{base:Nat}{σ:cm}{E:Env}{w:World}(hS:Sat F base σ E w){i e s n:Nat}{xs:List PV}(hi:σ[i]? =some (some (.row e s n xs))){v:Value}(hv:cG E w v (.own i)):cG (E.kill i) w v (.slice n xs):=by
 obtain⟨_,g⟩:=hS.kill i hi
 cases hv with
 |own _ hiL _ h _=>
  obtain⟨cs,k1,k2⟩:=hS.blk i _ hi
  rw[h]at k1
  have k3:=k1
  rcases k1.2 with⟨rfl,h0⟩|⟨b,cap,cur,rfl,hb,hg,hn,hc,hs',ht⟩
  ·subst h0
   have:xs=[]:=by
    have:=k3.1;simp at this;subst this
    exact List.eq_nil_of_length_eq_zero k2.1.symm
   subst this
   exact .bT
  ·by_cases h0:n=0
   ·subst h0
    have:xs=[]:=by
     have:=k3.1;simp at this;subst this
     exact List.eq_nil_of_length_eq_zero k2.1.symm
    subst this
    exact .empty _ _ hc
   ·refine .slice b 0 n cap cs xs (by omega) hn hc (Array.getElem?_eq_some_iff.1 hg).1 (fun hM=>hM.2 (by rw[h];rfl)) (fun j x hx=>?_) k2.1 (fun j x u h1 h2=>(k2.2 j x u h1 h2).goes g)
    have:=k3.cells (g:=b) rfl j x hx
    rw[Addr.add_lit]at this
    exact this
theorem zl{c:Code}{t:cd}{σ:cm}{Q:Exit→St→Prop}(k i:Nat){e s n:Nat}{xs:List PV}(hk:look k t=some (.own i))(hi:σ[i]? =some (some (.row e s n xs)))(h:W P N L c ⟨(k,.slice n xs)::t,σ.set i none⟩ Q):W P N L c ⟨t,σ⟩ Q:=fun F base E₀ w₀ E a w hc hs=>by
 obtain⟨a1,a2⟩:=hs.sat.kill i hi
 exact h F base E₀ w₀ _ a w (hc.on a2 (Below.refl _ _)) ⟨a1,(hs.tmp.goes a2).Ff (hs.sat.seal hi (hs.tmp k _ hk)),hs.kD,hs.size⟩
theorem gi{c:Code}{t:cd}{σ:cm}{Q:Exit→St→Prop}(k i off:Nat){ty:TypeId}{xs:List PV}(hk:look k t=some (.ptr i off))(hi:σ[i]? =some (some (.cells ty xs)))(h:W P N L c ⟨(k,.aY xs off)::t,σ.set i none⟩ Q):W P N L c ⟨t,σ⟩ Q:=fun F base E₀ w₀ E a w hc hs=>by
 obtain⟨a1,a2⟩:=hs.sat.kill i hi
 have hv:=hs.tmp k _ hk
 obtain⟨b,cs,h1,h2,h3,h4⟩:=hs.sat.blk i _ hi
 have hp:cG (E.kill i) w (a.eval (.tmp k)) (.aY xs off):=by
  generalize a.eval (.tmp k)=z at hv
  cases hv with
  |ptr _ _ b' hi' h=>
   have hb:b'=b:=by
    rcases h with h|⟨n,c,h⟩<;>rw[h1]at h<;>cases h
    rfl
   subst hb
   have:=cG.aY (E:=E.kill i) (w:=w) b' 0 off cs.toList xs (Array.getElem?_eq_some_iff.1 h3).1 (fun hM=>hM.2 (by rw[h1];rfl)) (fun j x hx=>by rw[Nat.zero_add];unfold World.cell?;simp only[h3];simpa using hx) h4.1 (fun j x u k1 k2=>(h4.2 j x u k1 k2).goes a2)
   rw[Nat.zero_add]at this
   exact this
 exact h F base E₀ w₀ _ a w (hc.on a2 (Below.refl _ _)) ⟨a1,(hs.tmp.goes a2).Ff hp,hs.kD,hs.size⟩
end
end PW
end Go.Proofs.YtnegbdpggideiaaGreatDoor
namespace Go.Proofs.YtnegbdpggideiaaGreatDoor
namespace PW
open Go.RowKit cH Mem Net
theorem eL(n lo hi:Int):Can Tryz.prog 116 [num n,num lo,num hi] (· =flag (bU n lo hi)):=by
 obtain⟨p1,hp1⟩:∃q,decide (lo≤n)=q:=⟨_,rfl⟩
 obtain⟨p2,hp2⟩:∃q,decide (n≤hi)=q:=⟨_,rfl⟩
 have he:bU n lo hi=(p1&&p2):=by rw[←hp1,←hp2];unfold bU;exact Bool.decide_and _ _
 rw[he]
 refine aE Tryz.func116 rfl Tryz.ntmps116 rfl<|ab (.a 1 rfl<|.k [0,1,2] rfl)<|bu 6 (.raw (.bool (p1&&p2))) [] rfl ?_ ?_
 ·refine .a 2 rfl<|.v (b9 rfl (hp1)) rfl<|.a 1 rfl<|?_
  cases p1
  ·exact .a 5 rfl<|.k [6] rfl
  ·exact .a 2 rfl<|.v (b9 rfl (hp2)) rfl<|.a 2 rfl<|.k [6] rfl
 exact aq<|⟨_,_,aA.of rfl,aB.pure,rfl⟩
set_option maxHeartbeats 2000000 in
theorem fX(T:an):Can Tryz.prog 58 [aN T] (· =flag (ao T)):=by
  obtain⟨p0,hp0⟩:∃q,bU T.nodes 1 64=q:=⟨_,rfl⟩
  obtain⟨p1,hp1⟩:∃q,decide ((T.over.length:Int)≠0)=q:=⟨_,rfl⟩
  obtain⟨p2,hp2⟩:∃q,decide ((T.over.length:Int)≠T.nodes)=q:=⟨_,rfl⟩
  obtain⟨p3,hp3⟩:∃q,decide (256<(T.ae.length:Int))=q:=⟨_,rfl⟩
  have hw:Can Tryz.prog 116 [num T.nodes,num 1,num 64] (· =flag p0):=by rw[←hp0];exact eL _ _ _
  refine aE Tryz.func58 rfl Tryz.ntmps58 rfl<|ab (.a 2 rfl<|.k [1] rfl)<|ah<|bu 28 (.raw (.bool (((!p0)||(p1&&p2))||p3))) [1] rfl ?_ ?_
  · refine .a 2 rfl<|.c rfl (hw) rfl<|.a 2 rfl<|?_
    cases p0
    · exact .a 19 rfl<|.k [28,1] rfl
    · refine .a 3 rfl<|.v (b9 rfl (hp1)) rfl<|.a 1 rfl<|?_
      cases p1
      · exact .a 12 rfl<|.v (b9 rfl (hp3)) rfl<|.a 1 rfl<|.k [28,1] rfl
      · refine .a 5 rfl<|.v (b9 rfl (hp2)) rfl<|.a 3 rfl<|?_
        cases p2
        · exact .a 3 rfl<|.v (b9 rfl (hp3)) rfl<|.a 1 rfl<|.k [28,1] rfl
        · exact .a 5 rfl<|.k [28,1] rfl
  refine ag rfl (fun hc=>?_) (fun hc=>?_)
  · have hv:ao T=false:=by
      rcases Bool.or_eq_true_iff.1 hc with h|h
      · rcases Bool.or_eq_true_iff.1 h with h|h
        · exact(gZ T (.inl (by rw[hp0];simpa using h))).symm
        · obtain⟨a1,a2⟩:=Bool.and_eq_true_iff.1 h
          rw[a1]at hp1
          rw[a2]at hp2
          exact(gZ T (.inr (.inr ⟨by have:=tt hp1;omega,tt hp2⟩))).symm
      · rw[h]at hp3;exact(gZ T (.inr (.inl (by have:=tt hp3;omega)))).symm
    rw[hv]
    exact ab (.a 1 rfl<|.k [2] rfl)<|aq<|⟨_,_,aA.of rfl,aB.pure,rfl⟩
  · obtain ⟨c1, c2⟩ := Bool.or_eq_false_iff.1 hc
    obtain⟨c1,c3⟩:=Bool.or_eq_false_iff.1 c1
    have h0:p0=true:=by simpa using c1
    rw[h0]at hp0
    rw[c2]at hp3
    have hle:T.ae.length≤256:=by have:=ff hp3;omega
    have hov:T.over.length=0∨(T.over.length:Int)=T.nodes:=by
      rcases Bool.and_eq_false_iff.1 c3 with h|h
      · rw[h]at hp1;exact .inl (by have:=ff hp1;omega)
      · rw[h]at hp2;exact .inr (by have:=ff hp2;omega)
    rw[qM T hp0 hle hov]
    have hnd:=oz hp0
    clear hw hc c1 c3 hp1 hp2
    refine ai<|ah<|ab (.a 1 rfl<|.k [1,3] rfl)<|au<|eu [1,3] rfl<|bf (fun r s=>∃k,k≤T.ae.length∧r=T.ae.length - k∧(T.ae.take k).all (iL T)=true∧s=⟨[(1,.aY (bq T) 0),(3,num k)],[]⟩) T.ae.length ⟨0,by omega,by omega,by simp,rfl⟩ ?_
    rintro r s ⟨k,hk,rfl,hall,rfl⟩
    refine ah<|ab (.a 5 rfl<|.k [1,3,33] rfl)<|ag rfl (fun hc=>?_) (fun hc=>?_)
    · have hlt:k<T.ae.length:=by have:=tt hc;omega
      obtain⟨q1,g1⟩:∃q,decide ((cB T.ae k).a=(cB T.ae k).b)=q:=⟨_,rfl⟩
      obtain⟨q2,g2⟩:∃q,bd T (cB T.ae k).a=q:=⟨_,rfl⟩
      obtain⟨q3,g3⟩:∃q,bd T (cB T.ae k).b=q:=⟨_,rfl⟩
      obtain⟨q4,g4⟩:∃q,bU (cB T.ae k).c0 1 65535=q:=⟨_,rfl⟩
      obtain⟨q5,g5⟩:∃q,bU (cB T.ae k).c1 1 65535=q:=⟨_,rfl⟩
      obtain⟨q6,g6⟩:∃q,bU (cB T.ae k).cap 0 1048576=q:=⟨_,rfl⟩
      obtain⟨q7,g7⟩:∃q,bU (cB T.ae k).fx 1 65536=q:=⟨_,rfl⟩
      obtain⟨q8,g8⟩:∃q,bU (cB T.ae k).uz 0 64=q:=⟨_,rfl⟩
      have hOK:=tf (T:=T) (l:=cB T.ae k) (q1:=q1) (by rw[←g1];exact Bool.eq_iff_iff.2 (by simp)) g2 g3 g4 g5 g6 g7 g8
      have hall':=wC (iL T) T.ae k hlt
      have hno:=xD (iL T) T.ae k hlt
      rw[hOK]at hall' hno
      have n2:=eL (cB T.ae k).a 0 (T.nodes - 1)
      rw[pV,g2]at n2
      have n3:=eL (cB T.ae k).b 0 (T.nodes - 1)
      rw[pV,g3]at n3
      have n4:=eL (cB T.ae k).c0 1 65535
      rw[g4]at n4
      have n5:=eL (cB T.ae k).c1 1 65535
      rw[g5]at n5
      have n6:=eL (cB T.ae k).cap 0 1048576
      rw[g6]at n6
      have n7:=eL (cB T.ae k).fx 1 65536
      rw[g7]at n7
      have n8:=eL (cB T.ae k).uz 0 64
      rw[g8]at n8
      clear hOK g2 g3 g4 g5 g6 g7 g8
      refine ai<|ah<|au<|aP<|av 3 rfl<|bC (aJ (k*7) rfl) rfl<|bC (gO rfl (Fp T.ae k hlt) rfl) rfl<|av 2 rfl<|aG [1,3,4] rfl ?_
      refine gi 4 0 0 rfl rfl ?_
      refine dx [] (.c 1<|.c 3<|.c 4 .nil) .nil rfl rfl ?_
      refine ah<|bu 77 (.raw (.bool (((((!q2)|| !q3)||q1)|| !q4)|| !q5))) [1,3,4] rfl ?_ ?_
      · refine .a 4 rfl<|.v (aS rfl) rfl<|.c rfl (n2) rfl<|.a 2 rfl<|?_
        cases q2
        · exact .a 29 rfl<|.k [77,1,3,4] rfl
        · refine .a 4 rfl<|.v (aS rfl) rfl<|.c rfl (n3) rfl<|.a 3 rfl<|?_
          cases q3
          · exact .a 20 rfl<|.k [77,1,3,4] rfl
          · refine .a 4 rfl<|.v (b9 rfl (g1)) rfl<|.a 2 rfl<|?_
            cases q1
            · refine .a 1 rfl<|.v (aJ (0) rfl) rfl<|.a 1 rfl<|.c rfl (n4) rfl<|.a 3 rfl<|?_
              cases q4
              · exact .a 6 rfl<|.k [77,1,3,4] rfl
              · exact .a 1 rfl<|.v (aJ (1) rfl) rfl<|.a 1 rfl<|.c rfl (n5) rfl<|.a 2 rfl<|.k [77,1,3,4] rfl
            · exact .a 13 rfl<|.k [77,1,3,4] rfl
      refine ag rfl (fun hx=>?_) (fun hx=>?_)
      · have hno':=hno (by cases q1<;>cases q2<;>cases q3<;>cases q4<;>cases q5<;>simp_all)
        rw[hno']
        exact ab (.a 1 rfl<|.k [2] rfl)<|aq<|⟨_,_,aA.of rfl,aB.pure,rfl⟩
      · have e1:q1=false:=by cases q1<;>simp_all
        have e2:q2=true:=by cases q2<;>simp_all
        have e3:q3=true:=by cases q3<;>simp_all
        have e4:q4=true:=by cases q4<;>simp_all
        have e5:q5=true:=by cases q5<;>simp_all
        subst e1 e2 e3 e4 e5
        clear n2 n3 n4 n5 hx
        refine ai<|bu 93 (.raw (.bool (((!q6)|| !q7)|| !q8))) [1,3] rfl ?_ ?_
        · refine .a 2 rfl<|.c rfl (n6) rfl<|.a 2 rfl<|?_
          cases q6
          · exact .a 11 rfl<|.k [93,1,3] rfl
          · refine .a 2 rfl<|.c rfl (n7) rfl<|.a 3 rfl<|?_
            cases q7
            · exact .a 5 rfl<|.k [93,1,3] rfl
            · exact .a 2 rfl<|.c rfl (n8) rfl<|.a 2 rfl<|.k [93,1,3] rfl
        refine ag rfl (fun hx=>?_) (fun hx=>?_)
        · have hno':=hno (by cases q6<;>cases q7<;>cases q8<;>simp_all)
          rw[hno']
          exact ab (.a 1 rfl<|.k [2] rfl)<|aq<|⟨_,_,aA.of rfl,aB.pure,rfl⟩
        · have e1:q6=true:=by cases q6<;>simp_all
          have e2:q7=true:=by cases q7<;>simp_all
          have e3:q8=true:=by cases q8<;>simp_all
          subst e1 e2 e3
          clear n6 n7 n8 hx
          refine ai<|az (.a 1 rfl<|.v (aS rfl) rfl<|.a 1 rfl<|.k [1,3] rfl) ?_
          exact⟨T.ae.length - (k+1),by omega,k+1,by omega,rfl,by rw[hall',hall];rfl,rfl⟩
    · have hke:k=T.ae.length:=by have:=ff hc;omega
      subst hke
      rw[List.take_length]at hall
      rw[hall]
      exact ba<|ab (.a 1 rfl<|.k [2] rfl)<|aq<|⟨_,_,aA.of rfl,aB.pure,rfl⟩
theorem mM(T:an)(hv:ao T=true):Can Tryz.prog 94 [aN T] (· =num (2*(T.ae.length:Int))):=by
 have hll:=bJ hv
 have h:=fX T
 rw[hv]at h
 refine aE Tryz.func94 rfl Tryz.ntmps94 rfl<|ab (.a 2 rfl<|.k [1] rfl)<|ah<|ab (.a 1 rfl<|.c rfl (h) rfl<|.a 1 rfl<|.k [1,5] rfl)<|ag rfl (fun hc=>?_) (fun hc=>?_)
 ·cases hc
 ·exact ai<|ab (.a 3 rfl<|.v (aS rfl) rfl<|.a 1 rfl<|.k [2] rfl)<|aq<|⟨_,_,aA.of rfl,aB.pure,rfl⟩
theorem oI{T:an}{a:Int}{p1 p2:Bool}(hp1:decide (a<0)=p1)(hp2:decide (2*(T.ae.length:Int)≤a)=p2)(hc:(p1||p2)=true):¬(0≤a∧a<2*(T.ae.length:Int)):=by
 rcases Bool.or_eq_true_iff.1 hc with h|h
 ·rw[h]at hp1;have:=tt hp1;omega
 ·rw[h]at hp2;have:=tt hp2;omega
theorem mY{T:an}{a:Int}{p1 p2:Bool}(hp1:decide (a<0)=p1)(hp2:decide (2*(T.ae.length:Int)≤a)=p2)(hc:(p1||p2)=false):0≤a∧a<2*(T.ae.length:Int):=by
 obtain⟨h1,h2⟩:=Bool.or_eq_false_iff.1 hc
 rw[h1]at hp1
 rw[h2]at hp2
 have:=ff hp1
 have:=ff hp2
 omega
theorem tN(T:an)(hv:ao T=true)(a:Int):Can Tryz.prog 39 [aN T,num a] (· =num (xF T a)):=by
 have hll:=bJ hv
 obtain⟨p1,hp1⟩:∃q,decide (a<0)=q:=⟨_,rfl⟩
 obtain⟨p2,hp2⟩:∃q,decide (2*(T.ae.length:Int)≤a)=q:=⟨_,rfl⟩
 refine aE Tryz.func39 rfl Tryz.ntmps39 rfl<|ab (.a 2 rfl<|.k [1,2] rfl)<|ah<|au<|bu 5 (.raw (.bool (p1||p2))) [1,2] rfl ?_ ?_
 ·refine .a 1 rfl<|.v (b9 rfl (hp1)) rfl<|.a 1 rfl<|?_
  cases p1
  ·exact .a 2 rfl<|.c rfl (mM T hv) rfl<|.v (b9 rfl (hp2)) rfl<|.a 2 rfl<|.k [5,1,2] rfl
  ·exact .a 6 rfl<|.k [5,1,2] rfl
 refine ag rfl (fun hc=>?_) (fun hc=>?_)
 ·unfold xF
  rw[if_neg (oI hp1 hp2 hc)]
  exact ab (.a 1 rfl<|.k [4] rfl)<|aq<|⟨_,_,aA.of rfl,aB.pure,rfl⟩
 ·have hy:=mY hp1 hp2 hc
  unfold xF
  rw[if_pos hy]
  clear hp1 hp2 hc
  obtain⟨a,rfl⟩:=Int.eq_ofNat_of_zero_le hy.1
  have hi:a / 2<T.ae.length:=by omega
  unfold aZ
  rw[Int.toNat_natCast]
  refine ab (.a 1 rfl<|.v (tq rfl rfl rfl (by decide) (Fu a)) rfl<|.a 2 rfl<|.k [1,2,14] rfl)<|ag rfl (fun hc=>?_) (fun hc=>?_)
  ·have h2:a % 2=0:=by have:=tt hc;omega
   rw[if_pos h2]
   exact ab (.a 3 rfl<|.v (iQ rfl rfl rfl (by decide) (zh a) (by unfold In64;omega)) rfl<|.v (aJ (a / 2*7) rfl) rfl<|.a 1 rfl<|.v (aL rfl (eG T.ae (a / 2) 0 hi (by omega))) rfl<|.a 1 rfl<|.k [4] rfl)<|aq<|⟨_,_,aA.of rfl,aB.pure,rfl⟩
  ·have h2:¬a % 2=0:=by have:=ff hc;omega
   rw[if_neg h2]
   exact ai<|ab (.a 3 rfl<|.v (iQ rfl rfl rfl (by decide) (zh a) (by unfold In64;omega)) rfl<|.v (aJ (a / 2*7) rfl) rfl<|.a 1 rfl<|.v (aL rfl (eG T.ae (a / 2) 1 hi (by omega))) rfl<|.a 1 rfl<|.k [4] rfl)<|aq<|⟨_,_,aA.of rfl,aB.pure,rfl⟩
theorem F5(a:Nat):(((a / 2:Nat):Int)*2+1) - ((a % 2:Nat):Int)=((Net.flip a:Nat):Int):=by unfold Net.flip;split<;>omega
theorem Cn(T:an)(hv:ao T=true)(a:Int):Can Tryz.prog 41 [aN T,num a] (· =num (vM T a)):=by
 have hll:=bJ hv
 obtain⟨p1,hp1⟩:∃q,decide (a<0)=q:=⟨_,rfl⟩
 obtain⟨p2,hp2⟩:∃q,decide (2*(T.ae.length:Int)≤a)=q:=⟨_,rfl⟩
 refine aE Tryz.func41 rfl Tryz.ntmps41 rfl<|ab (.a 2 rfl<|.k [1,2] rfl)<|ah<|bu 12 (.raw (.bool (p1||p2))) [1,2] rfl ?_ ?_
 ·refine .a 1 rfl<|.v (b9 rfl (hp1)) rfl<|.a 1 rfl<|?_
  cases p1
  ·exact .a 2 rfl<|.c rfl (mM T hv) rfl<|.v (b9 rfl (hp2)) rfl<|.a 1 rfl<|.k [12,1,2] rfl
  ·exact .a 5 rfl<|.k [12,1,2] rfl
 refine ag rfl (fun hc=>?_) (fun hc=>?_)
 ·unfold vM
  rw[if_neg (oI hp1 hp2 hc)]
  exact ab (.a 1 rfl<|.k [4] rfl)<|aq<|⟨_,_,aA.of rfl,aB.pure,rfl⟩
 ·have hy:=mY hp1 hp2 hc
  unfold vM
  rw[if_pos hy]
  clear hp1 hp2 hc
  obtain⟨a,rfl⟩:=Int.eq_ofNat_of_zero_le hy.1
  rw[Int.toNat_natCast]
  have ht:=tN T hv ((Net.flip a:Nat):Int)
  rw[tS T (Net.flip a) (by unfold Net.flip;split<;>omega)]at ht
  exact ai<|ab (.a 2 rfl<|.v (iQ rfl rfl rfl (by decide) (zh a) (by unfold In64;omega)) rfl<|.v (aS rfl) rfl<|.v (aS rfl) rfl<|.a 1 rfl<|.v (tq rfl rfl rfl (by decide) (Fu a)) rfl<|.v (aS rfl (hc:=F5 a) (hn:=by unfold In64 Net.flip;split<;>omega)) rfl<|.c rfl (ht) rfl<|.a 1 rfl<|.k [4] rfl)<|aq<|⟨_,_,aA.of rfl,aB.pure,rfl⟩
theorem Bs(T:an)(hv:ao T=true)(a:Int):Can Tryz.prog 42 [aN T,num a] (· =num (yg T a)):=by
 have hll:=bJ hv
 obtain⟨p1,hp1⟩:∃q,decide (a<0)=q:=⟨_,rfl⟩
 obtain⟨p2,hp2⟩:∃q,decide (2*(T.ae.length:Int)≤a)=q:=⟨_,rfl⟩
 refine aE Tryz.func42 rfl Tryz.ntmps42 rfl<|ab (.a 2 rfl<|.k [1,2] rfl)<|ah<|bu 12 (.raw (.bool (p1||p2))) [1,2] rfl ?_ ?_
 ·refine .a 1 rfl<|.v (b9 rfl (hp1)) rfl<|.a 1 rfl<|?_
  cases p1
  ·exact .a 2 rfl<|.c rfl (mM T hv) rfl<|.v (b9 rfl (hp2)) rfl<|.a 1 rfl<|.k [12,1,2] rfl
  ·exact .a 5 rfl<|.k [12,1,2] rfl
 refine ag rfl (fun hc=>?_) (fun hc=>?_)
 ·unfold yg
  rw[if_neg (oI hp1 hp2 hc)]
  exact ab (.a 1 rfl<|.k [4] rfl)<|aq<|⟨_,_,aA.of rfl,aB.pure,rfl⟩
 ·have hy:=mY hp1 hp2 hc
  unfold yg
  rw[if_pos hy]
  clear hp1 hp2 hc
  obtain⟨a,rfl⟩:=Int.eq_ofNat_of_zero_le hy.1
  rw[Int.toNat_natCast]
  exact ai<|ab (.a 3 rfl<|.v (iQ rfl rfl rfl (by decide) (zh a) (by unfold In64;omega)) rfl<|.a 1 rfl<|.v (tq rfl rfl rfl (by decide) (Fu a)) rfl<|.v (aJ (a / 2*7) rfl) rfl<|.a 1 rfl<|.v (aJ (a % 2) rfl) rfl<|.v (aL rfl (wj T a (by omega))) rfl<|.a 1 rfl<|.k [4] rfl)<|aq<|⟨_,_,aA.of rfl,aB.pure,rfl⟩
theorem eN(T:an)(hv:ao T=true)(a:Nat)(ha:a<2*T.ae.length):Can Tryz.prog 39 [aN T,num a] (· =num (aZ T a)):=by rw[←tS T a ha];exact tN T hv a
theorem gR(T:an)(hv:ao T=true)(a:Nat)(ha:a<2*T.ae.length):Can Tryz.prog 41 [aN T,num a] (· =num (aW T a)):=by rw[←Ci T a ha];exact Cn T hv a
theorem kQ(T:an)(hv:ao T=true)(a:Nat)(ha:a<2*T.ae.length):Can Tryz.prog 42 [aN T,num a] (· =num (cb T a)):=by rw[←B8 T a ha];exact Bs T hv a
theorem tY(T:an)(hv:ao T=true)(n:Nat):Can Tryz.prog 62 [aN T,num n] (· =flag (cU T n)):=by
 have h:=fX T
 rw[hv]at h
 obtain⟨p1,hp1⟩:∃q,decide ((n:Int)<(T.over.length:Int))=q:=⟨_,rfl⟩
 obtain⟨p2,hp2⟩:∃q,T.over.getD n false=q:=⟨_,rfl⟩
 have he:cU T n=(p1&&p2):=by
  unfold cU
  cases p1
  ·have:=ff hp1
   rw[List.getD_eq_getElem?_getD,List.getElem?_eq_none (by omega)];rfl
  ·exact hp2
 rw[he]
 have h0:decide (0≤(n:Int))=true:=decide_eq_true (by omega)
 refine aE Tryz.func62 rfl Tryz.ntmps62 rfl<|ab (.a 2 rfl<|.k [1,2] rfl)<|bu 4 (.raw (.bool (p1&&p2))) [] rfl ?_ ?_
 ·refine .a 1 rfl<|.c rfl (h) rfl<|.a 2 rfl<|.v (b9 rfl h0) rfl<|.a 6 rfl<|.v (b9 rfl (hp1)) rfl<|.a 2 rfl<|?_
  cases p1
  ·exact .a 7 rfl<|.k [4] rfl
  ·exact .a 3 rfl<|.v (aJ (n) rfl (by omega) (by have:=tt hp1;omega)) rfl<|.v (aL rfl (show _=some (flag p2) by rw[cF _ n (by have:=tt hp1;omega),hp2])) rfl<|.a 2 rfl<|.k [4] rfl
 exact aq<|⟨_,_,aA.of rfl,aB.pure,rfl⟩
theorem nd(T:an)(D:List Bool):Can Tryz.prog 134 [aN T,aQ D] (· =flag (ao T&&bN T D)):=by
 obtain⟨p0,hp0⟩:∃q,ao T=q:=⟨_,rfl⟩
 have h:=fX T
 rw[hp0]at h
 obtain⟨p1,hp1⟩:∃q,decide ((D.length:Int)=0)=q:=⟨_,rfl⟩
 obtain⟨p2,hp2⟩:∃q,decide ((D.length:Int)=2*(T.ae.length:Int))=q:=⟨_,rfl⟩
 have he:bN T D=(p1||p2):=by rw[←hp1,←hp2];unfold bN;rw[←Bool.decide_or];exact decide_eq_decide.2 (by omega)
 rw[he,hp0]
 refine aE Tryz.func134 rfl Tryz.ntmps134 rfl<|ab (.a 2 rfl<|.k [1,2] rfl)<|bu 4 (.raw (.bool (p0&&(p1||p2)))) [] rfl ?_ ?_
 ·refine .a 1 rfl<|.c rfl (h) rfl<|.a 1 rfl<|?_
  cases p0
  ·exact .a 14 rfl<|.k [4] rfl
  ·refine .a 2 rfl<|.v (b9 rfl (hp1)) rfl<|.a 1 rfl<|?_
   cases p1
   ·exact .a 5 rfl<|.v (aS rfl (hn:=by have:=bJ hp0;unfold In64;omega)) rfl<|.v (b9 rfl (hp2)) rfl<|.a 3 rfl<|.k [4] rfl
   ·exact .a 10 rfl<|.k [4] rfl
 exact aq<|⟨_,_,aA.of rfl,aB.pure,rfl⟩
theorem qg(D:List Bool)(a:Nat)(ha:D.length=0∨a<D.length):Can Tryz.prog 40 [aQ D,num a] (· =flag (!aI D a)):=by
 obtain⟨p1,hp1⟩:∃q,decide ((D.length:Int)=0)=q:=⟨_,rfl⟩
 obtain⟨p2,hp2⟩:∃q,D.getD a false=q:=⟨_,rfl⟩
 have he:(!aI D a)=(p1|| !p2):=by
  rw[Ae (p1:= !p1) (by rw[←hp1];rw[←decide_not];exact decide_eq_decide.2 (by omega)) hp2]
  cases p1<;>cases p2<;>rfl
 rw[he]
 refine aE Tryz.func40 rfl Tryz.ntmps40 rfl<|ab (.a 1 rfl<|.k [0,1] rfl)<|bu 4 (.raw (.bool (p1|| !p2))) [] rfl ?_ ?_
 ·refine .a 2 rfl<|.v (b9 rfl (hp1)) rfl<|.a 1 rfl<|?_
  cases p1
  ·exact .a 2 rfl<|.v (aJ (a) rfl (by omega) (by have:=ff hp1;omega)) rfl<|.v (aL rfl (show _=some (flag p2) by rw[cF _ a (by have:=ff hp1;omega),hp2])) rfl<|.a 3 rfl<|.k [4] rfl
  ·exact .a 7 rfl<|.k [4] rfl
 exact aq<|⟨_,_,aA.of rfl,aB.pure,rfl⟩
theorem kN(T:an)(hv:ao T=true)(n d:Nat):Can Tryz.prog 97 [aN T,num n,num d] (· =flag (decide (n=d)|| !cU T n)):=by
 obtain⟨p1,hp1⟩:∃q,decide ((n:Int)=(d:Int))=q:=⟨_,rfl⟩
 obtain⟨p2,hp2⟩:∃q,cU T n=q:=⟨_,rfl⟩
 have he:decide (n=d)=p1:=by rw[←hp1];exact decide_eq_decide.2 (by omega)
 have h:=tY T hv n
 rw[hp2]at h
 rw[he,hp2]
 refine aE Tryz.func97 rfl Tryz.ntmps97 rfl<|ab (.a 2 rfl<|.k [1,2,3] rfl)<|bu 6 (.raw (.bool (p1|| !p2))) [] rfl ?_ ?_
 ·refine .a 2 rfl<|.v (b9 rfl (hp1)) rfl<|.a 1 rfl<|?_
  cases p1
  ·exact .a 2 rfl<|.c rfl (h) rfl<|.a 3 rfl<|.k [6] rfl
  ·exact .a 6 rfl<|.k [6] rfl
 exact aq<|⟨_,_,aA.of rfl,aB.pure,rfl⟩
theorem tP(L M:List Int):Can Tryz.prog 35 [aw L,aw M] (· =flag (nt L M)):=by
 refine qk fun⟨E,w,vs,hR⟩=>?_
 obtain⟨v,_,hv⟩:=hR.get (i:=0) rfl
 have hm:=mB hv
 unfold maxLen at hm
 refine aE Tryz.func35 rfl Tryz.ntmps35 rfl<|ab (.a 1 rfl<|.k [0,1] rfl)<|ah<|ab (.a 5 rfl<|.k [0,1,10] rfl)<|ag rfl (fun hc=>?_) (fun hc=>?_)
 ·rw[←ER L M (by have:=tt hc;omega)]
  exact ab (.a 1 rfl<|.k [4] rfl)<|aq<|⟨_,_,aA.of rfl,aB.pure,rfl⟩
 ·have hlen:M.length=L.length:=by have:=ff hc;omega
  refine ai<|ah<|ab (.a 1 rfl<|.k [0,1,5] rfl)<|au<|eu [0,1,5] rfl<|bf (fun r s=>∃k,k≤L.length∧r=L.length - k∧(∀i,i<k→L.getD i 0=M.getD i 0)∧s=⟨[(0,aw L),(1,aw M),(5,num k)],[]⟩) L.length ⟨0,by omega,by omega,fun i hi=>by omega,rfl⟩ ?_
  rintro r s ⟨k,hk,rfl,hall,rfl⟩
  refine ah<|ab (.a 4 rfl<|.k [0,1,5,14] rfl)<|ag rfl (fun hc=>?_) (fun hc=>?_)
  ·have hlt:k<L.length:=by have:=tt hc;omega
   refine ai<|ah<|au<|dY mixed (by kernel_rfl) (.a 2 rfl<|.v [17,18] (aJ (k) rfl) rfl rfl<|.v [19] (aL rfl (ax L k hlt)) rfl rfl<|.a 2 rfl<|.v [21,22] (aJ (k) rfl) rfl rfl<|.v [23] (aL rfl (ax M k (by omega))) rfl rfl<|.a 1 rfl<|.k [0,1,5,25] rfl) ?_
   refine ag rfl (fun hx=>?_) (fun hx=>?_)
   ·rw[←Hf L M k (tt hx)]
    exact ab (.a 1 rfl<|.k [4] rfl)<|aq<|⟨_,_,aA.of rfl,aB.pure,rfl⟩
   ·have hx':L.getD k 0=M.getD k 0:=by have:=ff hx;omega
    refine ai<|az (.a 1 rfl<|.v (aS rfl) rfl<|.a 1 rfl<|.k [0,1,5] rfl) ?_
    refine⟨L.length - (k+1),by omega,k+1,by omega,rfl,fun i hi=>?_,rfl⟩
    by_cases h:i=k
    ·rw[h];exact hx'
    ·exact hall i (by omega)
  ·have hke:k=L.length:=by have:=ff hc;omega
   rw[←Db L M hlen (fun i hi=>hall i (by omega))]
   exact ba<|ab (.a 1 rfl<|.k [4] rfl)<|aq<|⟨_,_,aA.of rfl,aB.pure,rfl⟩
end PW
end Go.Proofs.YtnegbdpggideiaaGreatDoor
namespace Go.Proofs.YtnegbdpggideiaaGreatDoor
namespace Heap
def par(q:Nat):Nat:=(q - 1) / 2
theorem fA{q:Nat}(h:0<q):par q<q:=by unfold par;omega
theorem HD{p c:Nat}(h:0<c)(hc:par c=p):c=2*p+1∨c=2*p+2:=by unfold par at hc;omega
def ra(f:Nat→Int)(len:Nat):Prop:=∀q,0<q→q<len→f (par q)≤f q
def Ia(f:Nat→Int)(len p:Nat):Prop:=0<p→∀c,0<c→c<len→par c=p→f (par p)≤f c
def om(f:Nat→Int)(len p:Nat):Prop:=(∀q,0<q→q<len→q≠p→par q≠p→f (par q)≤f q)∧Ia f len p
def tu(f:Nat→Int)(len p:Nat):Prop:=(∀q,0<q→q<len→par q≠p→f (par q)≤f q)∧Ia f len p
def FA(f:Nat→Int)(p q x:Nat):Int:=if x=p then f q else if x=q then f p else f x
theorem xi(f:Nat→Int)(p q:Nat):FA f p q p=f q:=by simp[FA]
theorem JW(f:Nat→Int)(p q:Nat):FA f p q q=f p:=by
 unfold FA;split
 ·rename_i h;rw[h]
 ·simp
theorem kT(f:Nat→Int){p q x:Nat}(h1:x≠p)(h2:x≠q):FA f p q x=f x:=by simp[FA,h1,h2]
theorem DL{f:Nat→Int}{len p:Nat}(h:om f len p)(hp:0<p)(hl:p<len)(_:f p<f (par p)):om (FA f p (par p)) len (par p):=by
 have hpp:=fA hp
 refine⟨fun q h0 hq h1 h2=>?_,fun hg c h0 hc hpc=>?_⟩
 ·by_cases e:par q=p
  ·have hqp:=fA h0
   rw[e,xi,kT f (by omega) h1]
   exact h.2 hp q h0 hq e
  ·have hqp:q≠p:=fun e'=>h2 (by rw[e'])
   rw[kT f e h2,kT f hqp h1]
   exact h.1 q h0 hq hqp e
 ·have hgg:=fA hg
  rw[kT f (by omega) (by omega)]
  have h3:=h.1 (par p) hg (by omega) (by omega) (by omega)
  by_cases e:c=p
  ·rw[e,xi];exact h3
  ·have:=fA h0
   rw[kT f e (by omega)]
   have:=h.1 c h0 hc e (by omega)
   rw[hpc]at this
   omega
theorem zr{f:Nat→Int}{len p:Nat}(h:om f len p)(hp:p=0∨f (par p)≤f p):tu f len p:=
 ⟨fun q h0 hq h2=>by
  by_cases e:q=p
  ·subst e
   rcases hp with h'|h'
   ·omega
   ·exact h'
  ·exact h.1 q h0 hq e h2,h.2⟩
theorem zy{f:Nat→Int}{len p:Nat}(h:tu f len p)(hk:∀c,0<c→c<len→par c=p→f p≤f c):ra f len:=fun q h0 hq=>by
 by_cases e:par q=p
 ·rw[e];exact hk q h0 hq e
 ·exact h.1 q h0 hq e
theorem zN{f:Nat→Int}{len p c:Nat}(h:tu f len p)(hc0:0<c)(hcl:c<len)(hcp:par c=p)(hlt:f c<f p)(hk:∀c',0<c'→c'<len→par c'=p→f c≤f c'):tu (FA f p c) len c:=by
 have hpc:=fA hc0
 refine⟨fun q h0 hq h2=>?_,fun _ d h0 hd hdc=>?_⟩
 ·have hqq:=fA h0
  by_cases e:par q=p
  ·rw[e,xi]
   by_cases e':q=c
   ·rw[e',JW];omega
   ·rw[kT f (by omega) e'];exact hk q h0 hq e
  ·rw[kT f e h2]
   by_cases e':q=p
   ·rw[e',xi]
    exact h.2 (by omega) c hc0 hcl hcp
   ·rw[kT f e' (fun e2=>e (by rw[e2];exact hcp))]
    exact h.1 q h0 hq e
 ·have hdd:=fA h0
  rw[hcp,xi,kT f (by omega) (by omega)]
  have:=h.1 d h0 hd (by omega)
  rw[hdc]at this
  exact this
theorem B6{f:Nat→Int}{len:Nat}(h:ra f len):∀q,q<len→f 0≤f q:=by
 intro q
 induction q using Nat.strongRecOn with
 |_ q ih=>
  intro hq
  by_cases e:q=0
  ·rw[e];exact Int.le_refl _
  ·have:=fA (q:=q) (by omega)
   exact Int.le_trans (ih (par q) this (by omega)) (h q (by omega) hq)
theorem wN{f g:Nat→Int}{len p:Nat}(h:ra f len)(he:∀q,q<len→q≠p→g q=f q)(hp:p<len):om g len p:=by
 refine⟨fun q h0 hq h1 h2=>?_,fun hp0 c h0 hc hcp=>?_⟩
 ·have:=fA h0
  rw[he q hq h1,he (par q) (by omega) h2];exact h q h0 hq
 ·have:=fA h0
  have:=fA hp0
  rw[he (par p) (by omega) (by omega),he c hc (by omega)]
  have h1:=h c h0 hc
  rw[hcp]at h1
  exact Int.le_trans (h p hp0 hp) h1
theorem zx{f g:Nat→Int}{len:Nat}(h:ra f len)(he:∀q,q<len→g q=f q):om g (len+1) len:=by
 refine⟨fun q h0 hq h1 _=>?_,fun hp0 c h0 hc hcp=>?_⟩
 ·have:=fA h0
  rw[he q (by omega),he (par q) (by omega)];exact h q h0 (by omega)
 ·have:=fA h0;omega
theorem zp{f g:Nat→Int}{len:Nat}(h:ra f (len+1))(he:∀q,q<len→q≠0→g q=f q):om g len 0:=by
 refine⟨fun q h0 hq h1 h2=>?_,fun hp0=>by omega⟩
 have:=fA h0
 rw[he q hq h1,he (par q) (by omega) h2];exact h q h0 (by omega)
def kb(K:List Int)(i:Int):Int:=K.getD i.toNat 0*65536+i
def rk(K O:List Int)(p:Nat):Int:=kb K (O.getD p 0)
theorem vp{K:List Int}{i j:Int}(hi:0≤i)(hi':i<65536)(hj:0≤j)(hj':j<65536):
  decide (kb K i<kb K j)=(if K.getD i.toNat 0=K.getD j.toNat 0 then decide (i<j) else decide (K.getD i.toNat 0<K.getD j.toNat 0)):=by
 unfold kb
 generalize K.getD i.toNat 0=a
 generalize K.getD j.toNat 0=b
 split
 ·simp only[decide_eq_decide];omega
 ·simp only[decide_eq_decide];omega
theorem Ee{K:List Int}{i j:Int}(hi:0≤i)(hj':j<65536)(h:kb K i≤kb K j):K.getD i.toNat 0≤K.getD j.toNat 0:=by
 unfold kb at h;omega
def dU(O:List Int)(p q:Nat):List Int:=(O.set p (O.getD q 0)).set q (O.getD p 0)
theorem gj(O:List Int)(p q:Nat):(dU O p q).length=O.length:=by simp[dU]
theorem eD(L:List Int)(i j:Nat)(c:Int)(hi:i<L.length):(L.set i c).getD j 0=if j=i then c else L.getD j 0:=by
 simp only[List.getD_eq_getElem?_getD,List.getElem?_set]
 by_cases h:i=j
 ·subst h;simp[hi]
 ·rw[if_neg h,if_neg (Ne.symm h)]
theorem dO(O:List Int)(p q x:Nat)(hp:p<O.length)(hq:q<O.length):(dU O p q).getD x 0=if x=q then O.getD p 0 else if x=p then O.getD q 0 else O.getD x 0:=by
 unfold dU
 rw[eD _ _ _ _ (by simpa using hq),eD _ _ _ _ hp]
theorem At(K O:List Int)(p q:Nat)(hp:p<O.length)(hq:q<O.length):rk K (dU O p q)=FA (rk K O) p q:=by
 funext x
 unfold rk FA
 rw[dO O p q x hp hq]
 by_cases h1:x=q
 ·subst h1
  rw[if_pos rfl]
  by_cases h2:x=p
  ·rw[if_pos h2,h2]
  ·rw[if_neg h2,if_pos rfl]
 ·rw[if_neg h1]
  by_cases h2:x=p
  ·rw[if_pos h2,if_pos h2]
  ·rw[if_neg h2,if_neg h2,if_neg h1]
def eK(O:List Int)(i:Int):Prop:=∃p,p<O.length∧O.getD p 0=i
theorem mN(O:List Int)(p q:Nat)(hp:p<O.length)(hq:q<O.length)(i:Int):eK (dU O p q) i↔eK O i:=by
 unfold eK
 rw[gj]
 constructor
 ·rintro⟨x,hx,rfl⟩
  rw[dO O p q x hp hq]
  split
  ·exact⟨p,hp,rfl⟩
  ·split
   ·exact⟨q,hq,rfl⟩
   ·exact⟨x,hx,rfl⟩
 ·rintro⟨x,hx,rfl⟩
  by_cases h1:x=p
  ·exact⟨q,hq,by rw[dO O p q q hp hq,if_pos rfl,h1]⟩
  ·by_cases h2:x=q
   ·exact⟨p,hp,by
     rw[dO O p q p hp hq]
     by_cases h3:p=q
     ·omega
     ·rw[if_neg h3,if_pos rfl,h2]⟩
   ·exact⟨x,hx,by rw[dO O p q x hp hq,if_neg h2,if_neg h1]⟩
structure dG (N:Nat) (P O:List Int):Prop where
 len:P.length=N
 item:∀p,p<O.length→0≤O.getD p 0∧O.getD p 0<N∧P.getD (O.getD p 0).toNat 0=(p:Int)+1
 place:∀i,i<N→P.getD i 0=0∨∃p,p<O.length∧O.getD p 0=(i:Int)
theorem dG.inj{N:Nat}{P O:List Int}(h:dG N P O){p q:Nat}(hp:p<O.length)(hq:q<O.length)(he:O.getD p 0=O.getD q 0):p=q:=by
 have h1:=(h.item p hp).2.2
 have h2:=(h.item q hq).2.2
 rw[he]at h1
 omega
def gT(P O:List Int)(p q:Nat):List Int:=(P.set (O.getD q 0).toNat ((p:Int)+1)).set (O.getD p 0).toNat ((q:Int)+1)
theorem dG.swap{N:Nat}{P O:List Int}(h:dG N P O){p q:Nat}(hp:p<O.length)(hq:q<O.length):dG N (gT P O p q) (dU O p q):=by
 have ip:=h.item p hp
 have iq:=h.item q hq
 have hl:=h.len
 refine⟨by simp[gT,h.len],fun x hx=>?_,fun i hi=>?_⟩
 ·rw[gj]at hx
  have ix:=h.item x hx
  have e:∀j:Int,0≤j→j<N→(gT P O p q).getD j.toNat 0=if j=O.getD p 0 then(q:Int)+1 else if j=O.getD q 0 then(p:Int)+1 else P.getD j.toNat 0:=fun j h0 h1=>by
   unfold gT
   rw[eD _ _ _ _ (by rw[List.length_set];omega),eD _ _ _ _ (by omega)]
   have e1:(j.toNat=(O.getD p 0).toNat)=(j=O.getD p 0):=by apply propext;omega
   have e2:(j.toNat=(O.getD q 0).toNat)=(j=O.getD q 0):=by apply propext;omega
   simp only[e1,e2]
  rw[dO O p q x hp hq]
  by_cases h1:x=q
  ·rw[if_pos h1,e _ ip.1 ip.2.1,if_pos rfl]
   exact⟨ip.1,ip.2.1,by rw[h1]⟩
  ·rw[if_neg h1]
   by_cases h2:x=p
   ·rw[if_pos h2,e _ iq.1 iq.2.1,if_neg (fun e=>by have:=h.inj hq hp e;omega),if_pos rfl]
    exact⟨iq.1,iq.2.1,by rw[h2]⟩
   ·rw[if_neg h2,e _ ix.1 ix.2.1,if_neg (fun e=>h2 (h.inj hx hp e)),if_neg (fun e=>h1 (h.inj hx hq e))]
    exact ix
 ·by_cases hH:eK O (i:Int)
  ·exact .inr ((mN O p q hp hq (i:Int)).2 hH)
  ·rcases h.place i hi with h0|h0
   ·refine .inl ?_
    unfold gT
    rw[eD _ _ _ _ (by rw[List.length_set];omega),eD _ _ _ _ (by omega),if_neg (fun e=>hH ⟨p,hp,by omega⟩),if_neg (fun e=>hH ⟨q,hq,by omega⟩)]
    exact h0
   ·exact absurd h0 hH
theorem dG.zero{N:Nat}{P O:List Int}(h:dG N P O){i:Nat}(hi:i<N):P.getD i 0=0↔¬eK O (i:Int):=by
 constructor
 ·rintro h0 ⟨p,hp,he⟩
  have:=(h.item p hp).2.2
  rw[he,Int.toNat_natCast,h0]at this
  omega
 ·intro hn
  rcases h.place i hi with h0|h0
  ·exact h0
  ·exact absurd h0 hn
theorem dG.push{N:Nat}{P O:List Int}(h:dG N P O){i:Nat}(hi:i<N)(hn:¬eK O (i:Int)):dG N (P.set i ((O.length:Int)+1)) (O++[(i:Int)]):=by
 have hl:=h.len
 refine⟨by simp[h.len],fun x hx=>?_,fun j hj=>?_⟩
 ·rw[eD _ _ _ _ (by omega)]
  by_cases h1:x<O.length
  ·have ix:=h.item x h1
   have e:(O++[(i:Int)]).getD x 0=O.getD x 0:=by simp[List.getD_eq_getElem?_getD,List.getElem?_append_left h1]
   rw[e,if_neg (fun e=>hn ⟨x,h1,by omega⟩)]
   exact ix
  ·have:x=O.length:=by simp at hx;omega
   subst this
   have e:(O++[(i:Int)]).getD O.length 0=i:=by simp
   rw[e,Int.toNat_natCast,if_pos rfl]
   exact⟨by omega,by omega,rfl⟩
 ·rw[eD _ _ _ _ (by omega)]
  by_cases hji:j=i
  ·exact .inr ⟨O.length,by simp,by simp[hji]⟩
  ·rw[if_neg hji]
   rcases h.place j hj with h0|⟨p,hp,he⟩
   ·exact .inl h0
   ·exact .inr ⟨p,by simp;omega,by simp[List.getD_eq_getElem?_getD,List.getElem?_append_left hp]at he ⊢;exact he⟩
theorem Bj(O:List Int)(i j:Int):eK (O++[i]) j↔j=i∨eK O j:=by
 constructor
 ·rintro⟨p,hp,rfl⟩
  by_cases h1:p<O.length
  ·exact .inr ⟨p,h1,by simp[List.getD_eq_getElem?_getD,List.getElem?_append_left h1]⟩
  ·have:p=O.length:=by simp at hp;omega
   subst this
   exact .inl (by simp)
 ·rintro(rfl|⟨p,hp,rfl⟩)
  ·exact⟨O.length,by simp,by simp⟩
  ·exact⟨p,by simp;omega,by simp[List.getD_eq_getElem?_getD,List.getElem?_append_left hp]⟩
theorem ma(O:List Int)(m x:Nat)(h:x<m):(O.take m).getD x 0=O.getD x 0:=by
 simp[List.getD_eq_getElem?_getD,h]
theorem dG.pop{N:Nat}{P O:List Int}{m:Nat}(h:dG N P O)(hm:O.length=m+1):dG N (P.set (O.getD m 0).toNat 0) (O.take m):=by
 have hl:=h.len
 have im:=h.item m (by omega)
 refine⟨by simp[h.len],fun x hx=>?_,fun j hj=>?_⟩
 ·have hx':x<m:=by simp at hx;omega
  rw[ma O m x hx',eD _ _ _ _ (by omega)]
  have ix:=h.item x (by omega)
  rw[if_neg (fun e=>by have:=h.inj (p:=x) (q:=m) (by omega) (by omega) (by omega);omega)]
  exact ix
 ·rw[eD _ _ _ _ (by omega)]
  by_cases hjm:j=(O.getD m 0).toNat
  ·exact .inl (if_pos hjm)
  ·rw[if_neg hjm]
   rcases h.place j hj with h0|⟨p,hp,he⟩
   ·exact .inl h0
   ·have:p≠m:=fun e=>hjm (by rw[←e,he];rfl)
    exact .inr ⟨p,by simp;omega,by rw[ma O m p (by omega)];exact he⟩
theorem D9{N:Nat}{P O:List Int}{m:Nat}(h:dG N P O)(hm:O.length=m+1)(j:Int):eK (O.take m) j↔eK O j∧j≠O.getD m 0:=by
 constructor
 ·rintro⟨p,hp,rfl⟩
  have hp':p<m:=by simp at hp;omega
  rw[ma O m p hp']
  exact⟨⟨p,by omega,rfl⟩,fun e=>by have:=h.inj (p:=p) (q:=m) (by omega) (by omega) e;omega⟩
 ·rintro⟨⟨p,hp,rfl⟩,hne⟩
  have:p≠m:=fun e=>hne (by rw[e])
  exact⟨p,by simp;omega,ma O m p (by omega)⟩
theorem yU:∀(N m:Nat) (f:Nat→Nat),(∀p,p<m→f p<N)→(∀p q,p<m→q<m→f p=f q→p=q)→m≤N
 |0,m,f,h,_=>by
  rcases Nat.eq_zero_or_pos m with h0|h0
  ·omega
  ·have:=h 0 h0;omega
 |N+1,m,f,h,hi=>by
  by_cases hx:∃p,p<m∧f p=N
  ·obtain⟨p0,hp0,he⟩:=hx
   have:=yU N (m - 1) (fun p=>if p=p0 then f (m - 1) else f p) (fun p hp=>by
    by_cases e:p=p0
    ·simp only[e,if_true]
     have h1:=h (m - 1) (by omega)
     have h2:f (m - 1)≠N:=fun e'=>by have:=hi (m - 1) p0 (by omega) hp0 (by omega);omega
     omega
    ·simp only[e,if_false]
     have h1:=h p (by omega)
     have h2:f p≠N:=fun e'=>e (hi p p0 (by omega) hp0 (by omega))
     omega) (fun p q hp hq hpq=>by
    by_cases e:p=p0<;>by_cases e':q=p0
    ·omega
    ·simp only[e,e',if_true,if_false]at hpq
     have:=hi (m - 1) q (by omega) (by omega) hpq
     omega
    ·simp only[e,e',if_true,if_false]at hpq
     have:=hi p (m - 1) (by omega) (by omega) hpq
     omega
    ·simp only[e,e',if_false]at hpq
     exact hi p q (by omega) (by omega) hpq)
   omega
  ·have:=yU N m f (fun p hp=>by
    have h1:=h p hp
    have h2:f p≠N:=fun e=>hx ⟨p,hp,e⟩
    omega) hi
   omega
theorem jG{N:Nat}{P O:List Int}(h:dG N P O):O.length≤N:=
 yU N O.length (fun p=>(O.getD p 0).toNat) (fun p hp=>by have:=h.item p hp;omega) (fun p q hp hq e=>by
  have h1:=h.item p hp
  have h2:=h.item q hq
  exact h.inj hp hq (by omega))
end Heap
end Go.Proofs.YtnegbdpggideiaaGreatDoor
namespace Go.Proofs.YtnegbdpggideiaaGreatDoor
namespace PW
open Go.RowKit cH Mem Net Heap
def iC(b:Bool)(d:Option cZ)(N n:Nat)(K P O:List Int):cm:=
 match b with
 |false=>[d,some (.cells 236 [.own 2,.own 3,.own 4]),some (.row 3 1 N (aR K)),some (.row 3 1 N (aR P)),some (.row 3 1 n (aR O))]
 |true=>[d,some (.cells 236 [.own 2,.own 3,.own 5]),some (.row 3 1 N (aR K)),some (.row 3 1 N (aR P)),none,some (.row 3 1 n (aR O))]
def JP:cZ→Prop
 | .cells _ xs=>aO xs
 | .row _ _ _ xs=>aO xs
 | .mp kv=>aO (kv.map (·.2))
def ll(d:Option cZ):Prop:=∀b,d=some b→JP b
theorem ki.same{fs:List Nat}{σ σ':cm}{js:List Nat}{j:Nat}{d:Option cZ}(hd:ll d)(h:σ[j]? =some d)(hs:ki fs σ σ' js):ki fs σ (d::σ') (j::js):=by
 cases d with
 |none=>exact .gone hs
 |some b=>
  have hb:=hd b rfl
  cases b with
  |cells ty xs=>haveI:aO xs:=hd _ rfl;exact .kept h (.cells aF.pure) hs
  |row e s n xs=>haveI:aO xs:=hd _ rfl;exact .kept h (.row aF.pure) hs
  |mp kv=>haveI:aO (kv.map (·.2)):=hd _ rfl;exact .kept h .mp hs
def wY(K P O:List Int):PV:=.aY [aw K,aw P,aw O] 0
theorem qL(b:Bool)(d:Option cZ){N n:Nat}{K P O:List Int}(hK:K.length=N)(hP:P.length=N)(hO:O.length=n):aB (iC b d N n K P O) (.ptr 1 0) (wY K P O):=by
 subst hK;subst hO
 unfold wY aw
 rw[hP]
 cases b<;>exact aB.jJ rfl (aj.cons (aB.eH rfl aj.pure) (aj.cons (aB.eH rfl aj.pure) (aj.cons (aB.eH rfl aj.pure) aj.nil)))
theorem kp{N:Nat}{P O:List Int}(h:dG N P O){p:Nat}(hp:p<O.length):∃i:Nat,O.getD p 0=(i:Int)∧i<N:=by
 obtain⟨h1,h2,_⟩:=h.item p hp
 exact⟨(O.getD p 0).toNat,by omega,by omega⟩
theorem rX{N:Nat}(K P O:List Int)(hP:dG N P O)(hK:K.length=N)(hN:N≤65536)(p q:Nat)(hp:p<O.length)(hq:q<O.length):
  Can Tryz.prog 222 [wY K P O,num p,num q] (· =flag (decide (rk K O p<rk K O q))):=by
 obtain⟨i,hi,hi'⟩:=kp hP hp
 obtain⟨j,hj,hj'⟩:=kp hP hq
 have hr:decide (rk K O p<rk K O q)=if K.getD i 0=K.getD j 0 then decide ((i:Int)<(j:Int)) else decide (K.getD i 0<K.getD j 0):=by
  unfold rk
  rw[hi,hj,vp (by omega) (by omega) (by omega) (by omega),Int.toNat_natCast,Int.toNat_natCast]
 refine aE Tryz.func222 rfl Tryz.ntmps222 rfl<|ab (.a 1 rfl<|.k [0,1,2] rfl)<|dY mixed (by kernel_rfl) (.a 5 rfl<|.v [12,13] (aJ (p) rfl) rfl rfl<|.v [14] (aL rfl ((ax O p hp).trans (by rw[hi]))) rfl rfl<|.a 5 rfl<|.v [19,20] (aJ (q) rfl) rfl rfl<|.v [21] (aL rfl ((ax O q hq).trans (by rw[hj]))) rfl rfl<|.a 2 rfl<|.k [0,7,8] rfl) ?_
 refine ah<|dY mixed (by kernel_rfl) (.a 5 rfl<|.v [26,27] (aJ (i) rfl) rfl rfl<|.v [28] (aL rfl (ax K i (by omega))) rfl rfl<|.a 5 rfl<|.v [33,34] (aJ (j) rfl) rfl rfl<|.v [35] (aL rfl (ax K j (by omega))) rfl rfl<|.a 1 rfl<|.k [0,7,8,37] rfl) ?_
 refine ag rfl (fun hc=>?_) (fun hc=>?_)
 ·have:=of_decide_eq_true hc
  rw[if_neg this]at hr
  refine dY mixed (by kernel_rfl) (.a 5 rfl<|.v [41,42] (aJ (i) rfl) rfl rfl<|.v [43] (aL rfl (ax K i (by omega))) rfl rfl<|.a 5 rfl<|.v [48,49] (aJ (j) rfl) rfl rfl<|.v [50] (aL rfl (ax K j (by omega))) rfl rfl<|.a 2 rfl<|.k [6] rfl) ?_
  exact aq<|⟨_,_,aA.of rfl,aB.pure,by rw[hr];rfl⟩
 ·have:=of_decide_eq_false hc
  rw[if_pos (by simpa using this)]at hr
  exact ai<|ab (.a 4 rfl<|.k [6] rfl)<|aq<|⟨_,_,aA.of rfl,aB.pure,by rw[hr];rfl⟩
theorem so{N n:Nat}(b:Bool)(d:Option cZ)(K P O:List Int)(hP:dG N P O)(hO:O.length=n)(hN:N≤65536)(p q:Nat)(hp:p<O.length)(hq:q<O.length):
  bS Tryz.prog 223 [.ptr 1 0,num p,num q] (iC b d N n K P O) (fun _ σ'=>σ'=iC b d N n K (gT P O p q) (dU O p q)):=by
 obtain⟨i,hi,hi'⟩:=kp hP hp
 obtain⟨j,hj,hj'⟩:=kp hP hq
 have hlen:=jG hP
 have hPl:=hP.len
 have gp:(dU O p q).getD p 0=j:=by
  rw[dO O p q p hp hq]
  by_cases h:p=q
  ·rw[if_pos h];subst h;omega
  ·rw[if_neg h,if_pos rfl,hj]
 have gq:(dU O p q).getD q 0=i:=by rw[dO O p q q hp hq,if_pos rfl,hi]
 have hsw:dU O p q=(O.set p (j:Int)).set q (i:Int):=by unfold dU;rw[hi,hj]
 rw[hsw]at gp gq
 refine cw Tryz.func223 rfl Tryz.ntmps223 rfl ?_
 cases b
 all_goals
  refine lV 25 20 mixed (
   .val [0] rfl (bH rfl) rfl rfl<|
   .val [6] rfl (bH rfl) rfl rfl<|
   .val [7] rfl (bH rfl) rfl rfl<|
   .val [8] rfl (bH rfl) rfl rfl<|
   .val [1] rfl (bH rfl) rfl rfl<|
   .val [0] rfl (bH rfl) rfl rfl<|
   .val [11] rfl (bH rfl) rfl rfl<|
   .val [12] rfl (bH rfl) rfl rfl<|
   .val [13] rfl (bH rfl) rfl rfl<|
   .late [2] rfl (lG rfl rfl) inferInstance rfl rfl<|
   .val [0] rfl (bH rfl) rfl rfl<|
   .val [16] rfl (bH rfl) rfl rfl<|
   .val [17] rfl (bH rfl) rfl rfl<|
   .val [18] rfl (bH rfl) rfl rfl<|
   .val [2] rfl (bH rfl) rfl rfl<|
   .val [19,20] rfl (aJ (q) rfl) rfl rfl<|
   .val [21] rfl (aL rfl ((ax O q hq).trans (by rw[hj]))) rfl rfl<|
   .val [0] rfl (bH rfl) rfl rfl<|
   .val [23] rfl (bH rfl) rfl rfl<|
   .val [24] rfl (bH rfl) rfl rfl<|
   .val [25] rfl (bH rfl) rfl rfl<|
   .val [1] rfl (bH rfl) rfl rfl<|
   .val [26,27] rfl (aJ (p) rfl) rfl rfl<|
   .val [28] rfl (aL rfl ((ax O p hp).trans (by rw[hi]))) rfl rfl<|
   .val [9,10] rfl (aJ (p) rfl) rfl rfl<|
   .nil) (by kernel_rfl) rfl rfl (bm (ks:=[0,1,2,14,15,22,29,30]) rfl) ?_
  refine bg ((by first|exact bE rfl (bI.tk.get rfl) rfl rfl rfl (by first|omega|(simp;omega))|exact aV rfl (bI.tk.get rfl) rfl rfl rfl (by first|omega|(simp;omega)))) rfl rfl<|bC (aJ (q) rfl) rfl<|bg ((by first|exact bE rfl (bI.tk.get rfl) rfl rfl rfl (by first|omega|(simp;omega))|exact aV rfl (bI.tk.get rfl) rfl rfl rfl (by first|omega|(simp;omega)))) rfl rfl<|aG [0,1,2] rfl ?_
  refine lV 14 20 mixed (
   .val [0] rfl (bH rfl) rfl rfl<|
   .val [32] rfl (bH rfl) rfl rfl<|
   .val [33] rfl (bH rfl) rfl rfl<|
   .val [34] rfl (bH rfl) rfl rfl<|
   .val [0] rfl (bH rfl) rfl rfl<|
   .val [36] rfl (bH rfl) rfl rfl<|
   .val [37] rfl (bH rfl) rfl rfl<|
   .val [38] rfl (bH rfl) rfl rfl<|
   .val [1] rfl (bH rfl) rfl rfl<|
   .val [39,40] rfl (aJ (p) rfl) rfl rfl<|
   .val [41] rfl (aL rfl ((ax ((O.set p (j:Int)).set q (i:Int)) p (by simpa using hp)).trans (by rw[gp]))) rfl rfl<|
   .val [1] rfl (bH rfl) rfl rfl<|
   .val [43] rfl (aS rfl) rfl rfl<|
   .val [35,42] rfl (aJ (j) rfl) rfl rfl<|
   .nil) (by kernel_rfl) rfl rfl (bm (ks:=[0,2,44,45]) rfl) ?_
  refine bg ((by first|exact bE rfl (bI.tk.get rfl) rfl rfl rfl (by first|omega|(simp;omega))|exact aV rfl (bI.tk.get rfl) rfl rfl rfl (by first|omega|(simp;omega)))) rfl rfl<|aG [0,2] rfl ?_
  refine dp 14 20 mixed (
   .val [0] rfl (bH rfl) rfl rfl<|
   .val [46] rfl (bH rfl) rfl rfl<|
   .val [47] rfl (bH rfl) rfl rfl<|
   .val [48] rfl (bH rfl) rfl rfl<|
   .val [0] rfl (bH rfl) rfl rfl<|
   .val [50] rfl (bH rfl) rfl rfl<|
   .val [51] rfl (bH rfl) rfl rfl<|
   .val [52] rfl (bH rfl) rfl rfl<|
   .val [2] rfl (bH rfl) rfl rfl<|
   .val [53,54] rfl (aJ (q) rfl) rfl rfl<|
   .val [55] rfl (aL rfl ((ax ((O.set p (j:Int)).set q (i:Int)) q (by simpa using hq)).trans (by rw[gq]))) rfl rfl<|
   .val [2] rfl (bH rfl) rfl rfl<|
   .val [57] rfl (aS rfl) rfl rfl<|
   .val [49,56] rfl (aJ (i) rfl) rfl rfl<|
   .nil) (by kernel_rfl) rfl rfl (bm (ks:=[58,59]) rfl) ?_
  refine bg ((by first|exact bE rfl (bI.tk.get rfl) rfl rfl rfl (by first|omega|(simp;omega))|exact aV rfl (bI.tk.get rfl) rfl rfl rfl (by first|omega|(simp;omega)))) rfl rfl<|aG [] rfl ?_
  refine⟨_,aA.of rfl,?_⟩
  unfold gT
  rw[hi,hj,hsw]
  rfl
theorem Dx(p:Nat)(h:0<p):((p:Int) - 1).tdiv 2=((par p:Nat):Int):=by
 rw[Int.tdiv_eq_ediv_of_nonneg (by omega)];unfold par;omega
theorem As{σ:cm}{K P O:List Int}(h:aB σ (.ptr 1 0) (wY K P O))(p q:Int):aj σ ([.ptr 1 0,num p,num q]++[]) [wY K P O,num p,num q]:=aj.cons h (aj.cons aB.pure (aj.cons aB.pure aj.nil))
theorem nH{N n:Nat}(b:Bool)(d:Option cZ)(K P O:List Int)(hP:dG N P O)(hO:O.length=n)(hK:K.length=N)(hN:N≤65536)(p:Nat)(hp:p<n)(hL:om (rk K O) n p):
  bS Tryz.prog 213 [.ptr 1 0,num p] (iC b d N n K P O) (fun _ σ'=>∃P' O',σ'=iC b d N n K P' O'∧dG N P' O'∧O'.length=n∧ra (rk K O') n∧∀i,eK O' i↔eK O i):=by
 have hlen:=jG hP
 refine cw Tryz.func213 rfl Tryz.ntmps213 rfl ?_
 cases b
 all_goals
  refine ah<|au<|eu [0,1] rfl<|bf (fun r s=>∃P' O' p',dG N P' O'∧O'.length=n∧om (rk K O') n p'∧p'<n∧(∀i,eK O' i↔eK O i)∧r=p'∧s=⟨[(0,.ptr 1 0),(1,num p')],iC _ d N n K P' O'⟩) p ⟨P,O,p,hP,hO,hL,hp,fun _=>Iff.rfl,rfl,rfl⟩ ?_
  rintro r s ⟨P',O',p',hP',hO',hL',hp',hH',rfl,rfl⟩
  refine ah ?_
  obtain⟨q1,hq1⟩:∃q,decide ((0:Int)<(r:Int))=q:=⟨_,rfl⟩
  obtain⟨q2,hq2⟩:∃q,decide (rk K O' r<rk K O' (par r))=q:=⟨_,rfl⟩
  refine bu 15 (.raw (.bool (q1&&q2))) [0,1] rfl ?_ ?_
  ·refine .a 1 rfl<|.v (b9 rfl (hq1)) rfl<|.a 1 rfl<|?_
   cases q1
   ·exact .a 7 rfl<|.k [15,0,1] rfl
   ·exact .a 3 rfl<|.v (aS rfl) rfl<|.v (iQ rfl rfl rfl (by decide) (Dx r (by have:=of_decide_eq_true hq1;omega)) (by unfold In64 par;omega)) rfl<|.v (G0 rfl (As (qL _ d hK hP'.len hO') _ _) (hq2▸rX K P' O' hP' hK hN r (par r) (by omega) (by have:=of_decide_eq_true hq1;have:=fA (q:=r) (by omega);omega))) rfl<|.a 1 rfl<|.k [15,0,1] rfl
  refine ag rfl (fun hc=>?_) (fun hc=>?_)
  ·obtain⟨c1,c2⟩:=Bool.and_eq_true_iff.1 hc
   rw[c1]at hq1
   rw[c2]at hq2
   have hr0:0<r:=by have:=of_decide_eq_true hq1;omega
   have hlt:=of_decide_eq_true hq2
   have hpl:=fA hr0
   refine ai<|au<|aP<|av 3 rfl<|bC (aS rfl) rfl<|bC (iQ rfl rfl rfl (by decide) (Dx r hr0) (by unfold In64;omega)) rfl<|cP rfl rfl (bS.mono (so _ d K P' O' hP' hO' hN r (par r) (by omega) (by omega)) (fun _ σ' h=>?_))
   subst h
   refine aG [0,1] rfl ?_
   refine az (.a 1 rfl<|.v (aS rfl) rfl<|.v (iQ rfl rfl rfl (by decide) (Dx r hr0) (by unfold In64;omega)) rfl<|.a 1 rfl<|.k [0,1] rfl) ?_
   refine⟨par r,hpl,gT P' O' r (par r),dU O' r (par r),par r,hP'.swap (by omega) (by omega),by rw[gj];exact hO',?_,by omega,fun i=>(mN O' r (par r) (by omega) (by omega) i).trans (hH' i),rfl,rfl⟩
   rw[At K O' r (par r) (by omega) (by omega)]
   exact DL hL' hr0 hp' hlt
  ·have hdn:tu (rk K O') n r:=zr hL' (by
    by_cases h0:r=0
    ·exact .inl h0
    ·refine .inr ?_
     have h1:q1=true:=by rw[←hq1];simp;omega
     rw[h1]at hc
     simp only[Bool.true_and]at hc
     rw[hc]at hq2
     have:=of_decide_eq_false hq2
     omega)
   clear hL' hq1 hq2 hc
   refine ba<|au<|eu [0,1] rfl<|bf (fun r s=>∃P' O' p',dG N P' O'∧O'.length=n∧tu (rk K O') n p'∧p'<n∧(∀i,eK O' i↔eK O i)∧r=n - p'∧s=⟨[(0,.ptr 1 0),(1,num p')],iC _ d N n K P' O'⟩) (n - r) ⟨P',O',r,hP',hO',hdn,hp',hH',rfl,rfl⟩ ?_
   clear hP' hO' hdn hH' P' O' hp' r
   rintro r s ⟨P',O',p',hP',hO',hdn,hp',hH',rfl,rfl⟩
   refine au<|ab (.a 2 rfl<|.k [0,1,4] rfl)<|ah<|ab (.a 1 rfl<|.v (aS rfl) rfl<|.v (aS rfl) rfl<|.a 1 rfl<|.k [0,1,4,5] rfl)<|au<|eu [0,1,4,5] rfl<|bf (fun r s=>∃c l,2*p'+1≤c∧c≤2*p'+3∧r=2*p'+3 - c∧l<n∧(l=p'∨(par l=p'∧0<l∧rk K O' l<rk K O' p'))∧(∀x,2*p'+1≤x→x<c→x<n→rk K O' l≤rk K O' x)∧s=⟨[(0,.ptr 1 0),(1,num p'),(4,num l),(5,num c)],iC _ d N n K P' O'⟩) 2 ⟨2*p'+1,p',by omega,by omega,by omega,hp',.inl rfl,fun x h1 h2=>by omega,rfl⟩ ?_
   rintro r s ⟨c,l,hc1,hc2,rfl,hl,hl2,hl3,rfl⟩
   refine ah ?_
   obtain⟨q1,hq1⟩:∃q,decide ((c:Int)≤2*(p':Int)+2)=q:=⟨_,rfl⟩
   obtain⟨q2,hq2⟩:∃q,decide ((c:Int)<(n:Int))=q:=⟨_,rfl⟩
   refine bu 42 (.raw (.bool (q1&&q2))) [0,1,4,5] rfl ?_ ?_
   ·refine .a 2 rfl<|.v (aS rfl) rfl<|.v (aS rfl) rfl<|.v (b9 rfl (hq1)) rfl<|.a 1 rfl<|?_
    cases q1
    ·exact .a 8 rfl<|.k [42,0,1,4,5] rfl
    ·exact .a 6 rfl<|.v (b9 rfl (hq2)) rfl<|.a 1 rfl<|.k [42,0,1,4,5] rfl
   refine ag rfl (fun hc=>?_) (fun hc=>?_)
   ·obtain⟨c1,c2⟩:=Bool.and_eq_true_iff.1 hc
    rw[c1]at hq1
    rw[c2]at hq2
    have hcn:c<n:=by have:=of_decide_eq_true hq2;omega
    have hc4:c≤2*p'+2:=by have:=of_decide_eq_true hq1;omega
    have hpc:par c=p':=by unfold par;omega
    refine ai<|ah<|au<|ab (.a 3 rfl<|.v (G0 rfl (As (qL _ d hK hP'.len hO') _ _) (rX K P' O' hP' hK hN c l (by omega) (by omega))) rfl<|.k [0,1,4,5,48] rfl)<|ag rfl (fun hb=>?_) (fun hb=>?_)
    ·have hb':=of_decide_eq_true hb
     refine az (.a 2 rfl<|.k [0,1,4,5] rfl) ?_
     refine az (.a 1 rfl<|.v (aS rfl) rfl<|.a 1 rfl<|.k [0,1,4,5] rfl) ?_
     first
      |exact⟨2*p'+3 - (c+1),by omega,c+1,c,by omega,by omega,rfl,hcn,.inr ⟨hpc,by omega,by rcases hl2 with h|h;(rw[h]at hb';exact hb');omega⟩,fun x h1 h2 h3=>by by_cases e:x=c;(rw[e];exact Int.le_refl _);(have:=hl3 x h1 (by omega) h3;omega),rfl⟩
      |exact⟨2*p'+3 - (c+1),by omega,c+1,l,by omega,by omega,rfl,hl,hl2,fun x h1 h2 h3=>by by_cases e:x=c;(rw[e];omega);exact hl3 x h1 (by omega) h3,rfl⟩
    ·have hb':=of_decide_eq_false hb
     refine ai<|az (.a 1 rfl<|.v (aS rfl) rfl<|.a 1 rfl<|.k [0,1,4,5] rfl) ?_
     first
      |exact⟨2*p'+3 - (c+1),by omega,c+1,c,by omega,by omega,rfl,hcn,.inr ⟨hpc,by omega,by rcases hl2 with h|h;(rw[h]at hb';exact hb');omega⟩,fun x h1 h2 h3=>by by_cases e:x=c;(rw[e];exact Int.le_refl _);(have:=hl3 x h1 (by omega) h3;omega),rfl⟩
      |exact⟨2*p'+3 - (c+1),by omega,c+1,l,by omega,by omega,rfl,hl,hl2,fun x h1 h2 h3=>by by_cases e:x=c;(rw[e];omega);exact hl3 x h1 (by omega) h3,rfl⟩
   ·have hmin:∀x,0<x→x<n→par x=p'→rk K O' l≤rk K O' x:=fun x h0 hx hpx=>by
     refine hl3 x (by unfold par at hpx;omega) ?_ hx
     rcases Nat.lt_or_ge x c with h|h
     ·exact h
     ·exfalso
      have hx2:=HD h0 hpx
      have h1:q1=true:=by rw[←hq1];simp;omega
      rw[h1]at hc
      simp only[Bool.true_and]at hc
      rw[hc]at hq2
      have:=of_decide_eq_false hq2
      omega
    clear hc hq1 hq2 hl3
    refine ba<|ah<|ab (.a 3 rfl<|.k [0,1,4,52] rfl)<|ag rfl (fun hc=>?_) (fun hc=>?_)
    ·have hlp:l=p':=by have:=of_decide_eq_true hc;omega
     refine aq<|⟨_,aA.of rfl,P',O',rfl,hP',hO',?_,hH'⟩
     refine zy hdn fun x h0 hx hpx=>?_
     have:=hmin x h0 hx hpx
     rw[hlp]at this
     exact this
    ·have hlp:l≠p':=by have:=of_decide_eq_false hc;omega
     obtain⟨hlp1,hl0,hllt⟩:=hl2.resolve_left hlp
     refine ai<|aP<|av 3 rfl<|cP rfl rfl (bS.mono (so _ d K P' O' hP' hO' hN p' l (by omega) (by omega)) (fun _ σ' h=>?_))
     subst h
     refine aG [0,4] rfl ?_
     refine az (.a 2 rfl<|.k [0,1] rfl) ?_
     have hpl:=fA hl0
     refine⟨n - l,by omega,gT P' O' p' l,dU O' p' l,l,hP'.swap (by omega) (by omega),by rw[gj];exact hO',?_,hl,fun i=>(mN O' p' l (by omega) (by omega) i).trans (hH' i),rfl,rfl⟩
     rw[At K O' p' l (by omega) (by omega)]
     exact zN hdn hl0 hl hlp1 hllt hmin
def CS(N n:Nat)(K P O:List Int):Prop:=dG N P O∧O.length=n∧K.length=N∧ra (rk K O) n
theorem Ec{N n:Nat}(d:Option cZ)(hd:ll d)(K P O:List Int)(h:CS N (n+1) K P O)(hN:N≤65536)(i:Nat)(hi:O.getD 0 0=(i:Int)):
  bS Tryz.prog 214 [.ptr 1 0,num 0] (iC false d N (n+1) K P O) (fun _ σ'=>∃P' O',σ'=iC true d N n (K.set i 0) P' O'∧CS N n (K.set i 0) P' O'∧∀j,eK O' j↔eK O j∧j≠(i:Int)):=by
 obtain⟨hP,hO,hK,hH⟩:=h
 have hlen:=jG hP
 have hiN:i<N:=by have:=(hP.item 0 (by omega)).2.1;rw[hi]at this;omega
 have hPs:=hP.swap (p:=0) (q:=n) (by omega) (by omega)
 have hg:(dU O 0 n).getD n 0=(i:Int):=by rw[dO O 0 n n (by omega) (by omega),if_pos rfl,hi]
 have hPp:=hPs.pop (m:=n) (by rw[gj];exact hO)
 rw[hg,Int.toNat_natCast]at hPp
 have hheld:∀j,eK ((dU O 0 n).take n) j↔eK O j∧j≠(i:Int):=fun j=>by
  rw[D9 hPs (by rw[gj];exact hO) j,hg,mN O 0 n (by omega) (by omega)]
 have hOt:((dU O 0 n).take n).length=n:=by rw[List.length_take,gj];omega
 have hPll:(gT P O 0 n).length=N:=hPs.len
 have hrk:∀x,x<n→x≠0→rk (K.set i 0) ((dU O 0 n).take n) x=rk K O x:=fun x hx hx0=>by
  unfold rk
  rw[ma _ _ _ hx,dO O 0 n x (by omega) (by omega),if_neg (by omega),if_neg hx0]
  unfold kb
  have hne:(O.getD x 0).toNat≠i:=fun e=>by
   have h1:=hP.item x (by omega)
   have:=hP.inj (p:=x) (q:=0) (by omega) (by omega) (by rw[hi];omega)
   omega
  rw[eD _ _ _ _ (by omega),if_neg hne]
 have hloose:om (rk (K.set i 0) ((dU O 0 n).take n)) n 0:=zp hH hrk
 refine cw Tryz.func214 rfl Tryz.ntmps214 rfl<|ab (.a 5 rfl<|.v (aS rfl (hc:=(show(((n+1:Nat):Int)) - 1=(n:Int) by omega))) rfl<|.a 1 rfl<|.k [0,1,4] rfl)<|ab (.a 5 rfl<|.v (aJ (0) rfl) rfl<|.v (aL rfl ((ax O 0 (by omega)).trans (by rw[hi]))) rfl<|.a 1 rfl<|.k [0,1,4,5] rfl)<|aP<|av 3 rfl<|cP rfl rfl (bS.mono (so false d K P O hP hO hN 0 n (by omega) (by omega)) (fun _ σ' h=>?_))
 subst h
 refine aG [0,1,4,5] rfl ?_
 refine aP<|av 6 rfl<|cp (nY rfl (bI.el.get rfl) rfl rfl rfl rfl (by omega)) rfl<|av 3 rfl ?_
 refine dD [0,1,2,3,4,5] (.c 0<|.c 1<|.c 4<|.c 5<|.nil) (.same hd rfl<|.kept rfl (.cells (aF.c<|aF.c<|aF.c<|aF.nil))<|.kept rfl (.row aF.pure)<|.kept rfl (.row aF.pure)<|.gone<|.kept rfl (.eJ rfl (show(aR (dU O 0 n)).take (n*1)=aR ((dU O 0 n).take n) by rw[Nat.mul_one];unfold aR;rw[List.map_take]))<|.nil) rfl rfl (bc ?_)
 refine lV 11 20 mixed (
  .val [0] rfl (bH rfl) rfl rfl<|
  .val [32] rfl (bH rfl) rfl rfl<|
  .val [33] rfl (bH rfl) rfl rfl<|
  .val [34] rfl (bH rfl) rfl rfl<|
  .val [5] rfl (bH rfl) rfl rfl<|
  .val [0] rfl (bH rfl) rfl rfl<|
  .val [37] rfl (bH rfl) rfl rfl<|
  .val [38] rfl (bH rfl) rfl rfl<|
  .val [39] rfl (bH rfl) rfl rfl<|
  .late [5] rfl (lG rfl rfl) inferInstance rfl rfl<|
  .val [35,36] rfl (aJ (i) rfl) rfl rfl<|
  .nil) (by kernel_rfl) rfl rfl (bm (ks:=[0,1,4,40,41,42]) rfl) ?_
 refine bg ((by first|exact bE rfl (bI.tk.get rfl) rfl rfl rfl (by first|omega|(simp;omega))|exact aV rfl (bI.tk.get rfl) rfl rfl rfl (by first|omega|(simp;omega)))) rfl rfl<|bC (aJ (i) rfl) rfl<|bg ((by first|exact bE rfl (bI.tk.get rfl) rfl rfl rfl (by first|omega|(simp;omega))|exact aV rfl (bI.tk.get rfl) rfl rfl rfl (by first|omega|(simp;omega)))) rfl rfl<|aG [0,1,4] rfl ?_
 refine ab (.a 3 rfl<|.k [0,1,46] rfl)<|ag rfl (fun hc=>?_) (fun hc=>?_)
 ·have hn0:0<n:=by have:=of_decide_eq_true hc;omega
  refine bF<|av 2 rfl<|cP rfl rfl (bS.mono (nH true d (K.set i 0) ((gT P O 0 n).set i 0) ((dU O 0 n).take n) hPp hOt (by simpa using hK) hN 0 hn0 hloose) (fun _ σ' h=>?_))
  obtain⟨P',O',rfl,h1,h2,h3,h4⟩:=h
  refine aG [] rfl ?_
  first
   |exact⟨_,aA.of rfl,P',O',rfl,⟨h1,h2,by simpa using hK,h3⟩,fun j=>(h4 j).trans (hheld j)⟩
   |exact⟨_,aA.of rfl,(gT P O 0 n).set i 0,(dU O 0 n).take n,rfl,⟨hPp,hOt,by simpa using hK,fun q h0 hq=>by omega⟩,hheld⟩
 ·have hn0:n=0:=by have:=of_decide_eq_false hc;omega
  refine ai ?_
  first
   |exact⟨_,aA.of rfl,P',O',rfl,⟨h1,h2,by simpa using hK,h3⟩,fun j=>(h4 j).trans (hheld j)⟩
   |exact⟨_,aA.of rfl,(gT P O 0 n).set i 0,(dU O 0 n).take n,rfl,⟨hPp,hOt,by simpa using hK,fun q h0 hq=>by omega⟩,hheld⟩
theorem GC{N:Nat}(K P O:List Int)(hP:P.length=N)(hK:K.length=N)(hN:N≤65536)(i:Nat)(hi:i<N):
  Can Tryz.prog 200 [wY K P O,num i] (· = .tuple [num (if P.getD i 0=0 then 0 else K.getD i 0),flag (!decide (P.getD i 0=0))]):=by
 refine aE Tryz.func200 rfl Tryz.ntmps200 rfl<|ab (.a 2 rfl<|.k [0,1] rfl)<|ah ?_
 obtain⟨q1,hq1⟩:∃q,decide ((i:Int)<0)=q:=⟨_,rfl⟩
 obtain⟨q2,hq2⟩:∃q,decide ((K.length:Int)≤(i:Int))=q:=⟨_,rfl⟩
 obtain⟨q3,hq3⟩:∃q,decide (P.getD i 0=0)=q:=⟨_,rfl⟩
 refine bu 30 (.raw (.bool (q1||q2||q3))) [0,1] rfl ?_ ?_
 ·refine .a 4 rfl<|.v (b9 rfl (hq1)) rfl<|.a 2 rfl<|?_
  cases q1
  ·refine .a 6 rfl<|.v (b9 rfl (hq2)) rfl<|.a 2 rfl<|?_
   cases q2
   ·exact .a 5 rfl<|.v (aJ (i) rfl) rfl<|.v (aL rfl (ax P i (by omega))) rfl<|.v (b9 rfl (hq3)) rfl<|.a 1 rfl<|.k [30,0,1] rfl
   ·exact .a 9 rfl<|.k [30,0,1] rfl
  ·exact .a 18 rfl<|.k [30,0,1] rfl
 refine ag rfl (fun hc=>?_) (fun hc=>?_)
 ·have h1:q1=false:=by rw[←hq1];simp
  have h2:q2=false:=by rw[←hq2];simp;omega
  rw[h1,h2]at hc
  simp only[Bool.false_or]at hc
  rw[hc]at hq3
  refine ab (.a 2 rfl<|.k [4,5] rfl)<|aq<|⟨_,_,aA.of rfl,aB.pure,?_⟩
  rw[hq3]
  first
   |(rw[if_pos (of_decide_eq_true hq3)];rfl)
   |(rw[if_neg (of_decide_eq_false hq3)];rfl)
 ·have hc3:q3=false:=by revert hc;cases q3<;>simp
  rw[hc3]at hq3
  refine ai<|ab (.a 5 rfl<|.v (aJ (i) rfl) rfl<|.v (aL rfl (ax K i (by omega))) rfl<|.a 2 rfl<|.k [4,5] rfl)<|aq<|⟨_,_,aA.of rfl,aB.pure,?_⟩
  rw[hq3]
  first
   |(rw[if_pos (of_decide_eq_true hq3)];rfl)
   |(rw[if_neg (of_decide_eq_false hq3)];rfl)
theorem GW{N n:Nat}(d:Option cZ)(hd:ll d)(K P O:List Int)(h:CS N n K P O)(hN:N≤65536):
  bS Tryz.prog 199 [.ptr 1 0] (iC false d N n K P O) (fun r σ'=>(n=0∧r= .tuple [num 0,num 0,flag false]∧σ'=iC false d N n K P O)∨
   ∃(n' i:Nat) (P' O':List Int),n=n'+1∧i<N∧O.getD 0 0=(i:Int)∧r= .tuple [num i,num (K.getD i 0),flag true]∧σ'=iC true d N n' (K.set i 0) P' O'∧CS N n' (K.set i 0) P' O'∧∀j,eK O' j↔eK O j∧j≠(i:Int)):=by
 have h':=h
 obtain⟨hP,hO,hK,hH⟩:=h'
 refine cw Tryz.func199 rfl Tryz.ntmps199 rfl<|ab (.a 3 rfl<|.k [0] rfl)<|ah ?_
 obtain⟨q1,hq1⟩:∃q,decide ((n:Int)=0)=q:=⟨_,rfl⟩
 refine bu 14 (.raw (.bool (q1))) [0] rfl ?_ ?_
 ·exact .a 8 rfl<|.v (b9 rfl (hq1)) rfl<|.a 1 rfl<|.k [14,0] rfl
 refine ag rfl (fun hc=>?_) (fun hc=>?_)
 ·have hn0:n=0:=by rw[hc]at hq1;have:=of_decide_eq_true hq1;omega
  refine ab (.a 3 rfl<|.k [2,3,4] rfl)<|aq ?_
  first
   |exact⟨_,aA.of rfl,.inl ⟨hn0,rfl,rfl⟩⟩
   |exact⟨_,aA.of rfl,.inr ⟨n',i,P',O',rfl,hiN,hi,rfl,rfl,h1,h2⟩⟩
 ·have hn0:n≠0:=by rw[hc]at hq1;have:=of_decide_eq_false hq1;omega
  obtain⟨n',rfl⟩:∃n',n=n'+1:=⟨n - 1,by omega⟩
  obtain⟨i,hi,hiN⟩:=kp hP (p:=0) (by omega)
  refine ai<|ab (.a 4 rfl<|.v (aJ (0) rfl) rfl<|.v (aL rfl ((ax O 0 (by omega)).trans (by rw[hi]))) rfl<|.a 1 rfl<|.k [0,2] rfl)<|ab (.a 5 rfl<|.v (aJ (i) rfl) rfl<|.v (aL rfl (ax K i (by omega))) rfl<|.a 1 rfl<|.k [0,2,3] rfl)<|aP<|av 1 rfl<|cP rfl rfl (bS.mono (Ec d hd K P O h hN i hi) (fun _ σ' h=>?_))
  obtain⟨P',O',rfl,h1,h2⟩:=h
  refine aG [2,3] rfl ?_
  refine ab (.a 5 rfl<|.k [2,3,4] rfl)<|aq ?_
  first
   |exact⟨_,aA.of rfl,.inl ⟨hn0,rfl,rfl⟩⟩
   |exact⟨_,aA.of rfl,.inr ⟨n',i,P',O',rfl,hiN,hi,rfl,rfl,h1,h2⟩⟩
theorem C6{N:Nat}{P O:List Int}(hP:dG N P O){i:Nat}(hi:i<N)(h:P.getD i 0≠0):∃p,p<O.length∧O.getD p 0=(i:Int)∧P.getD i 0=(p:Int)+1:=by
 rcases hP.place i hi with h0|⟨p,hp,he⟩
 ·exact absurd h0 h
 ·have:=(hP.item p hp).2.2
  rw[he,Int.toNat_natCast]at this
  exact⟨p,hp,he,this⟩
theorem Ew{N:Nat}{K P O:List Int}(hP:dG N P O)(hK:K.length=N){i:Nat}(hi:i<N)(c:Int){x:Nat}(hx:x<O.length)(hne:O.getD x 0≠(i:Int)):rk (K.set i c) O x=rk K O x:=by
 unfold rk kb
 have h1:=hP.item x hx
 rw[eD _ _ _ _ (by omega),if_neg (by omega)]
theorem Ay{N n:Nat}(d:Option cZ)(hd:ll d)(K P O:List Int)(h:CS N n K P O)(hN:N≤65536)(i:Nat)(hi:i<N)(key:Int):
  bS Tryz.prog 198 [.ptr 1 0,num i,num key] (iC false d N n K P O) (fun r σ'=>∃(b:Bool) (n':Nat) (P' O':List Int),σ'=iC b d N n' (K.set i key) P' O'∧CS N n' (K.set i key) P' O'∧∀j,eK O' j↔eK O j∨j=(i:Int)):=by
 obtain⟨hP,hO,hK,hH⟩:=h
 have hlen:=jG hP
 have hPl:=hP.len
 refine cw Tryz.func198 rfl Tryz.ntmps198 rfl<|ab (.a 1 rfl<|.k [0,1,2] rfl)<|ah<|ab (.a 2 rfl<|.k [0,1,2,8] rfl)<|ag rfl (fun hc=>?_) (fun hc=>?_)
 ·cases hc
 ·refine ai<|ah ?_
  obtain⟨q1,hq1⟩:∃q,decide ((i:Int)<0)=q:=⟨_,rfl⟩
  obtain⟨q2,hq2⟩:∃q,decide ((N:Int)≤(i:Int))=q:=⟨_,rfl⟩
  refine bu 19 (.raw (.bool (q1||q2))) [0,1,2] rfl ?_ ?_
  ·refine .a 1 rfl<|.v (b9 rfl (hq1)) rfl<|.a 1 rfl<|?_
   cases q1
   ·exact .a 6 rfl<|.v (b9 rfl (hq2)) rfl<|.a 1 rfl<|.k [19,0,1,2] rfl
   ·exact .a 8 rfl<|.k [19,0,1,2] rfl
  refine ag rfl (fun hc=>?_) (fun hc=>?_)
  ·have h1:q1=false:=by rw[←hq1];simp
   have h2:q2=false:=by rw[←hq2];simp;omega
   rw[h1,h2]at hc
   cases hc
  ·refine ai<|aP<|av 6 rfl<|bC (aJ (i) rfl) rfl<|bg ((by first|exact bE rfl (bI.tk.get rfl) rfl rfl rfl (by first|omega|(simp;omega))|exact aV rfl (bI.tk.get rfl) rfl rfl rfl (by first|omega|(simp;omega)))) rfl rfl<|aG [0,1] rfl ?_
   refine ah<|ab (.a 5 rfl<|.v (aJ (i) rfl) rfl<|.v (aL rfl (ax P i (by omega))) rfl<|.a 1 rfl<|.k [0,1,34] rfl)<|ag rfl (fun hc=>?_) (fun hc=>?_)
   ·have hp0:P.getD i 0=0:=of_decide_eq_true hc
    have hnh:=(hP.zero hi).1 hp0
    have hPp:=hP.push hi hnh
    have hOl:(O++[(i:Int)]).length=n+1:=by simp[hO]
    rw[hO]at hPp
    have hPi2:(P.set i ((n:Int)+1)).getD i 0=(n:Int)+1:=by rw[eD _ _ _ _ (by omega),if_pos rfl]
    have hlt2:i<(P.set i ((n:Int)+1)).length:=by simp;omega
    have hsb:((n:Int)+1) - 1=(n:Int):=by omega
    have hnb:n<N:=by have:=jG hPp;simp at this;omega
    have hset:=nH true d (K.set i key) (P.set i ((n:Int)+1)) (O++[(i:Int)]) hPp hOl (by simpa using hK) hN n (by omega) (zx hH fun q hq=>by
     have e:(O++[(i:Int)]).getD q 0=O.getD q 0:=by simp[List.getD_eq_getElem?_getD,List.getElem?_append_left (show q<O.length by omega)]
     have:=Ew hP hK hi key (x:=q) (by omega) (fun e=>hnh ⟨q,by omega,e⟩)
     unfold rk at this ⊢
     rw[e];exact this)
    have hfin:∀j,eK (O++[(i:Int)]) j↔eK O j∨j=(i:Int):=fun j=>(Bj O i j).trans Or.comm
    refine aP<|av 7 rfl<|cp (bA rfl (bI.rk.get rfl) rfl rfl rfl rfl (by unfold maxLen;omega)) rfl<|av 3 rfl ?_
    refine dD [0,1,2,3,4,5] (.c 0<|.c 1<|.nil) (.same hd rfl<|.kept rfl (.cells (aF.c<|aF.c<|aF.c<|aF.nil))<|.kept rfl (.row aF.pure)<|.kept rfl (.row aF.pure)<|.gone<|.kept rfl (.eJ rfl (cN _ _))<|.nil) rfl rfl (bc ?_)
    refine dp 11 20 mixed (
     .val [0] rfl (bH rfl) rfl rfl<|
     .val [45] rfl (bH rfl) rfl rfl<|
     .val [46] rfl (bH rfl) rfl rfl<|
     .val [47] rfl (bH rfl) rfl rfl<|
     .val [1] rfl (bH rfl) rfl rfl<|
     .val [0] rfl (bH rfl) rfl rfl<|
     .val [50] rfl (bH rfl) rfl rfl<|
     .val [51] rfl (bH rfl) rfl rfl<|
     .val [52] rfl (bH rfl) rfl rfl<|
     .val [53] rfl (bH rfl) rfl rfl<|
     .val [48,49] rfl (aJ (i) rfl) rfl rfl<|
     .nil) (by kernel_rfl) rfl rfl (bm (ks:=[0,1,54,55]) rfl) ?_
    refine bg ((by first|exact bE rfl (bI.tk.get rfl) rfl rfl rfl (by first|omega|(simp;omega))|exact aV rfl (bI.tk.get rfl) rfl rfl rfl (by first|omega|(simp;omega)))) rfl rfl<|aG [0,1] rfl ?_
    refine aP<|av 6 rfl<|bC (aJ (i) rfl) rfl<|bC (aL rfl ((ax _ i hlt2).trans (congrArg (fun z=>some (PV.raw (.int .i64 z))) hPi2))) rfl<|bC (aS rfl (hc:=hsb)) rfl<|cP rfl rfl (bS.mono hset (fun _ σ' h=>?_))
    obtain⟨P',O',rfl,h1,h2,h3,h4⟩:=h
    refine aG [] rfl ?_
    refine ab (.a 1 rfl<|.k [6] rfl)<|aq ?_
    first
     |exact⟨_,aA.of rfl,true,_,P',O',rfl,⟨h1,h2,by simpa using hK,h3⟩,fun j=>(h4 j).trans (hfin j)⟩
     |exact⟨_,aA.of rfl,false,_,P',O',rfl,⟨h1,h2,by simpa using hK,h3⟩,fun j=>(h4 j).trans (hfin j)⟩
   ·have hp0:P.getD i 0≠0:=of_decide_eq_false hc
    obtain⟨p,hp,hpi,hPi2⟩:=C6 hP hi hp0
    have hlt2:i<P.length:=by omega
    have hsb:((p:Int)+1) - 1=(p:Int):=by omega
    have hset:=nH false d (K.set i key) P O hP hO (by simpa using hK) hN p (by omega) (wN hH (fun q hq hqp=>Ew hP hK hi key (x:=q) (by omega) (fun e=>hqp (hP.inj (by omega) hp (by rw[e,hpi])))) (by omega))
    have hfin:∀j,eK O j↔eK O j∨j=(i:Int):=fun j=>⟨.inl,fun h=>h.elim id fun e=>⟨p,hp,by rw[hpi,e]⟩⟩
    refine ai<|aP<|av 6 rfl<|bC (aJ (i) rfl) rfl<|bC (aL rfl ((ax _ i hlt2).trans (congrArg (fun z=>some (PV.raw (.int .i64 z))) hPi2))) rfl<|bC (aS rfl (hc:=hsb)) rfl<|cP rfl rfl (bS.mono hset (fun _ σ' h=>?_))
    obtain⟨P',O',rfl,h1,h2,h3,h4⟩:=h
    refine aG [] rfl ?_
    refine ab (.a 1 rfl<|.k [6] rfl)<|aq ?_
    first
     |exact⟨_,aA.of rfl,true,_,P',O',rfl,⟨h1,h2,by simpa using hK,h3⟩,fun j=>(h4 j).trans (hfin j)⟩
     |exact⟨_,aA.of rfl,false,_,P',O',rfl,⟨h1,h2,by simpa using hK,h3⟩,fun j=>(h4 j).trans (hfin j)⟩
end PW
end Go.Proofs.YtnegbdpggideiaaGreatDoor
namespace Go.Proofs.YtnegbdpggideiaaGreatDoor
namespace PW
open Go.RowKit cH Mem Net Heap
theorem Hw(N:Nat)(d:Option cZ)(hd:ll d)(hN:N≤65536):
  bS Tryz.prog 197 [num N] [d] (fun r σ'=>r= .tuple [.ptr 1 0,num 0]∧σ'=iC false d N 0 (List.replicate N 0) (List.replicate N 0) []):=by
 refine cw Tryz.func197 rfl Tryz.ntmps197 rfl<|ab (.a 2 rfl<|.k [0] rfl) ?_
 obtain⟨q1,hq1⟩:∃q,decide ((N:Int)<0)=q:=⟨_,rfl⟩
 obtain⟨q2,hq2⟩:∃q,decide ((65536:Int)<(N:Int))=q:=⟨_,rfl⟩
 refine ah<|bu 9 (.raw (.bool (q1||q2))) [0] rfl ?_ ?_
 ·refine .a 1 rfl<|.v (b9 rfl (hq1)) rfl<|.a 1 rfl<|?_
  cases q1
  ·exact .a 1 rfl<|.v (b9 rfl (hq2)) rfl<|.a 1 rfl<|.k [9,0] rfl
  ·exact .a 3 rfl<|.k [9,0] rfl
 have h1:q1=false:=by rw[←hq1];simp
 have h2:q2=false:=by rw[←hq2];simp;omega
 refine ag (b:=q1||q2) rfl (fun hc=>?_) (fun hc=>?_)
 ·rw[h1,h2]at hc
  cases hc
 ·clear hc hq1 hq2 h1 h2
  refine ai<|py mixed ?_
  have hfin:W Tryz.prog 16 1 .ret ⟨[(2,.ptr 1 0),(3,num 0)],iC false d N 0 (List.replicate N 0) (List.replicate N 0) []⟩ (JG Tryz.prog Tryz.f197 (fun r σ'=>r= .tuple [.ptr 1 0,num 0]∧σ'=iC false d N 0 (List.replicate N 0) (List.replicate N 0) [])):=
   aq ⟨_,.cons (.tmp rfl) (.cons (.tmp rfl) .nil),rfl,rfl⟩
  refine bL 0 [2] (by kernel_rfl) ?_
  refine bh rfl rfl (bK (fK rfl rfl) rfl rfl rfl (bc ?_)) ?_
  ·refine bL 1 [2] (by kernel_rfl) ?_
   refine bh rfl rfl (dz (dF rfl (bI.rk.get rfl) rfl rfl rfl rfl ⟨by unfold maxLen;omega,by omega⟩) rfl rfl rfl (bc ?_)) ?_
   ·refine bL 2 [] (by kernel_rfl) ?_
    refine bh rfl rfl (bK (fK rfl rfl) rfl rfl rfl (bc ?_)) bM
    refine bL 3 [] (by kernel_rfl) ?_
    refine bh rfl rfl (dz (dF rfl (bI.rk.get rfl) rfl rfl rfl rfl ⟨by unfold maxLen;omega,by omega⟩) rfl rfl rfl (bc ?_)) bM
    refine bL 4 [] (by kernel_rfl) ?_
    refine bh rfl rfl (bK (ia (xs:=[_,_,_]) rfl (bI.st.get rfl) rfl rfl) rfl rfl rfl (bc ?_)) bM
    refine bL 5 [] (by kernel_rfl) ?_
    refine bh rfl rfl (dz (fS rfl rfl rfl) rfl rfl rfl (bc ?_)) bM
    refine bL 6 [] (by kernel_rfl) ?_
    refine bh rfl rfl (bK (eE rfl rfl) rfl rfl rfl (bc ?_)) bM
    refine bL 7 [] (by kernel_rfl) ?_
    refine bh rfl rfl (bK (eE rfl rfl) rfl rfl rfl (bc ?_)) bM
    refine jX (by kernel_rfl) ?_
    refine cn 3 2 3 1 rfl rfl ?_
    exact dx [0,3,1,2,4] (.cons 2 rfl (Ren.ptr (i:=1) rfl)<|.cons 3 rfl Ren.pure<|.nil) (.same hd rfl<|.kept rfl (.cells (aF.cons (Ren.own (i:=2) rfl)<|aF.cons (Ren.own (i:=3) rfl)<|aF.cons (Ren.own (i:=4) rfl) aF.nil))<|.kept rfl (.eJ rfl (cO N))<|.kept rfl (.eJ rfl (cO N))<|.kept rfl (.row aF.pure)<|.nil) rfl rfl hfin
   refine bh rfl rfl (bK (fK rfl rfl) rfl rfl rfl (bc ?_)) bM
   refine bL 1 [3] (by kernel_rfl) ?_
   refine bh rfl rfl (dz (dF rfl (bI.rk.get rfl) rfl rfl rfl rfl ⟨by unfold maxLen;omega,by omega⟩) rfl rfl rfl (bc ?_)) ?_
   ·refine bL 3 [] (by kernel_rfl) ?_
    refine bh rfl rfl (dz (dF rfl (bI.rk.get rfl) rfl rfl rfl rfl ⟨by unfold maxLen;omega,by omega⟩) rfl rfl rfl (bc ?_)) bM
    refine bL 4 [] (by kernel_rfl) ?_
    refine bh rfl rfl (bK (ia (xs:=[_,_,_]) rfl (bI.st.get rfl) rfl rfl) rfl rfl rfl (bc ?_)) bM
    refine bL 5 [] (by kernel_rfl) ?_
    refine bh rfl rfl (dz (fS rfl rfl rfl) rfl rfl rfl (bc ?_)) bM
    refine bL 6 [] (by kernel_rfl) ?_
    refine bh rfl rfl (bK (eE rfl rfl) rfl rfl rfl (bc ?_)) bM
    refine bL 7 [] (by kernel_rfl) ?_
    refine bh rfl rfl (bK (eE rfl rfl) rfl rfl rfl (bc ?_)) bM
    refine jX (by kernel_rfl) ?_
    refine cn 3 2 3 1 rfl rfl ?_
    exact dx [0,3,1,2,4] (.cons 2 rfl (Ren.ptr (i:=1) rfl)<|.cons 3 rfl Ren.pure<|.nil) (.same hd rfl<|.kept rfl (.cells (aF.cons (Ren.own (i:=2) rfl)<|aF.cons (Ren.own (i:=3) rfl)<|aF.cons (Ren.own (i:=4) rfl) aF.nil))<|.kept rfl (.eJ rfl (cO N))<|.kept rfl (.eJ rfl (cO N))<|.kept rfl (.row aF.pure)<|.nil) rfl rfl hfin
   refine bh rfl rfl (dz (dF rfl (bI.rk.get rfl) rfl rfl rfl rfl ⟨by unfold maxLen;omega,by omega⟩) rfl rfl rfl (bc ?_)) bM
   refine bL 1 [] (by kernel_rfl) ?_
   refine bh rfl rfl (dz (dF rfl (bI.rk.get rfl) rfl rfl rfl rfl ⟨by unfold maxLen;omega,by omega⟩) rfl rfl rfl (bc ?_)) bM
   refine bL 4 [] (by kernel_rfl) ?_
   refine bh rfl rfl (bK (ia (xs:=[_,_,_]) rfl (bI.st.get rfl) rfl rfl) rfl rfl rfl (bc ?_)) bM
   refine bL 5 [] (by kernel_rfl) ?_
   refine bh rfl rfl (dz (fS rfl rfl rfl) rfl rfl rfl (bc ?_)) bM
   refine bL 6 [] (by kernel_rfl) ?_
   refine bh rfl rfl (bK (eE rfl rfl) rfl rfl rfl (bc ?_)) bM
   refine bL 7 [] (by kernel_rfl) ?_
   refine bh rfl rfl (bK (eE rfl rfl) rfl rfl rfl (bc ?_)) bM
   refine jX (by kernel_rfl) ?_
   refine cn 3 2 3 1 rfl rfl ?_
   exact dx [0,3,2,1,4] (.cons 2 rfl (Ren.ptr (i:=1) rfl)<|.cons 3 rfl Ren.pure<|.nil) (.same hd rfl<|.kept rfl (.cells (aF.cons (Ren.own (i:=2) rfl)<|aF.cons (Ren.own (i:=3) rfl)<|aF.cons (Ren.own (i:=4) rfl) aF.nil))<|.kept rfl (.eJ rfl (cO N))<|.kept rfl (.eJ rfl (cO N))<|.kept rfl (.row aF.pure)<|.nil) rfl rfl hfin
  refine bh rfl rfl (bK (fK rfl rfl) rfl rfl rfl (bc ?_)) bM
  refine bL 0 [3] (by kernel_rfl) ?_
  refine bh rfl rfl (bK (fK rfl rfl) rfl rfl rfl (bc ?_)) ?_
  ·refine bL 1 [3] (by kernel_rfl) ?_
   refine bh rfl rfl (dz (dF rfl (bI.rk.get rfl) rfl rfl rfl rfl ⟨by unfold maxLen;omega,by omega⟩) rfl rfl rfl (bc ?_)) ?_
   ·refine bL 3 [] (by kernel_rfl) ?_
    refine bh rfl rfl (dz (dF rfl (bI.rk.get rfl) rfl rfl rfl rfl ⟨by unfold maxLen;omega,by omega⟩) rfl rfl rfl (bc ?_)) bM
    refine bL 4 [] (by kernel_rfl) ?_
    refine bh rfl rfl (bK (ia (xs:=[_,_,_]) rfl (bI.st.get rfl) rfl rfl) rfl rfl rfl (bc ?_)) bM
    refine bL 5 [] (by kernel_rfl) ?_
    refine bh rfl rfl (dz (fS rfl rfl rfl) rfl rfl rfl (bc ?_)) bM
    refine bL 6 [] (by kernel_rfl) ?_
    refine bh rfl rfl (bK (eE rfl rfl) rfl rfl rfl (bc ?_)) bM
    refine bL 7 [] (by kernel_rfl) ?_
    refine bh rfl rfl (bK (eE rfl rfl) rfl rfl rfl (bc ?_)) bM
    refine jX (by kernel_rfl) ?_
    refine cn 3 2 3 1 rfl rfl ?_
    exact dx [0,3,1,2,4] (.cons 2 rfl (Ren.ptr (i:=1) rfl)<|.cons 3 rfl Ren.pure<|.nil) (.same hd rfl<|.kept rfl (.cells (aF.cons (Ren.own (i:=2) rfl)<|aF.cons (Ren.own (i:=3) rfl)<|aF.cons (Ren.own (i:=4) rfl) aF.nil))<|.kept rfl (.eJ rfl (cO N))<|.kept rfl (.eJ rfl (cO N))<|.kept rfl (.row aF.pure)<|.nil) rfl rfl hfin
   refine bh rfl rfl (dz (dF rfl (bI.rk.get rfl) rfl rfl rfl rfl ⟨by unfold maxLen;omega,by omega⟩) rfl rfl rfl (bc ?_)) bM
   refine bL 1 [] (by kernel_rfl) ?_
   refine bh rfl rfl (dz (dF rfl (bI.rk.get rfl) rfl rfl rfl rfl ⟨by unfold maxLen;omega,by omega⟩) rfl rfl rfl (bc ?_)) bM
   refine bL 4 [] (by kernel_rfl) ?_
   refine bh rfl rfl (bK (ia (xs:=[_,_,_]) rfl (bI.st.get rfl) rfl rfl) rfl rfl rfl (bc ?_)) bM
   refine bL 5 [] (by kernel_rfl) ?_
   refine bh rfl rfl (dz (fS rfl rfl rfl) rfl rfl rfl (bc ?_)) bM
   refine bL 6 [] (by kernel_rfl) ?_
   refine bh rfl rfl (bK (eE rfl rfl) rfl rfl rfl (bc ?_)) bM
   refine bL 7 [] (by kernel_rfl) ?_
   refine bh rfl rfl (bK (eE rfl rfl) rfl rfl rfl (bc ?_)) bM
   refine jX (by kernel_rfl) ?_
   refine cn 3 2 3 1 rfl rfl ?_
   exact dx [0,3,2,1,4] (.cons 2 rfl (Ren.ptr (i:=1) rfl)<|.cons 3 rfl Ren.pure<|.nil) (.same hd rfl<|.kept rfl (.cells (aF.cons (Ren.own (i:=2) rfl)<|aF.cons (Ren.own (i:=3) rfl)<|aF.cons (Ren.own (i:=4) rfl) aF.nil))<|.kept rfl (.eJ rfl (cO N))<|.kept rfl (.eJ rfl (cO N))<|.kept rfl (.row aF.pure)<|.nil) rfl rfl hfin
  refine bh rfl rfl (dz (dF rfl (bI.rk.get rfl) rfl rfl rfl rfl ⟨by unfold maxLen;omega,by omega⟩) rfl rfl rfl (bc ?_)) bM
  refine bL 0 [] (by kernel_rfl) ?_
  refine bh rfl rfl (bK (fK rfl rfl) rfl rfl rfl (bc ?_)) bM
  refine bL 1 [] (by kernel_rfl) ?_
  refine bh rfl rfl (dz (dF rfl (bI.rk.get rfl) rfl rfl rfl rfl ⟨by unfold maxLen;omega,by omega⟩) rfl rfl rfl (bc ?_)) bM
  refine bL 4 [] (by kernel_rfl) ?_
  refine bh rfl rfl (bK (ia (xs:=[_,_,_]) rfl (bI.st.get rfl) rfl rfl) rfl rfl rfl (bc ?_)) bM
  refine bL 5 [] (by kernel_rfl) ?_
  refine bh rfl rfl (dz (fS rfl rfl rfl) rfl rfl rfl (bc ?_)) bM
  refine bL 6 [] (by kernel_rfl) ?_
  refine bh rfl rfl (bK (eE rfl rfl) rfl rfl rfl (bc ?_)) bM
  refine bL 7 [] (by kernel_rfl) ?_
  refine bh rfl rfl (bK (eE rfl rfl) rfl rfl rfl (bc ?_)) bM
  refine jX (by kernel_rfl) ?_
  refine cn 3 2 3 1 rfl rfl ?_
  exact dx [0,3,2,1,4] (.cons 2 rfl (Ren.ptr (i:=1) rfl)<|.cons 3 rfl Ren.pure<|.nil) (.same hd rfl<|.kept rfl (.cells (aF.cons (Ren.own (i:=2) rfl)<|aF.cons (Ren.own (i:=3) rfl)<|aF.cons (Ren.own (i:=4) rfl) aF.nil))<|.kept rfl (.eJ rfl (cO N))<|.kept rfl (.eJ rfl (cO N))<|.kept rfl (.row aF.pure)<|.nil) rfl rfl hfin
end PW
end Go.Proofs.YtnegbdpggideiaaGreatDoor
namespace Go.Proofs.YtnegbdpggideiaaGreatDoor
namespace Net
def fv(T:an)(dir:Bool)(a:Nat):Int:=if dir then aW T a else aZ T a
def cR(T:an)(dir:Bool)(a:Nat):Int:=if dir then aZ T a else aW T a
def at'(l:List Int)(x:Int):Int:=l.getD x.toNat (-1)
def Way(T:an)(D:List Bool)(n:Nat)(dir:Bool)(out:List Int)(a:Nat):Prop:=
 aI D a=false∧0≤at' out (cR T dir a)∧(cR T dir a=(n:Int)∨cU T (cR T dir a).toNat=false)
structure iD (T:an) (D:List Bool) (n:Nat) (dir:Bool) (out:List Int):Prop where
 len:(out.length:Int)=T.nodes
 root:at' out (n:Int)=0
 ge:∀x:Nat,(x:Int)<T.nodes→ -1≤at' out (x:Int)
 closed:∀a,a<2*T.ae.length→Way T D n dir out a→0≤at' out (fv T dir a)∧at' out (fv T dir a)≤at' out (cR T dir a)+cb T a
 nj:∀x:Nat,(x:Int)<T.nodes→0≤at' out (x:Int)→x=n∨∃a,a<2*T.ae.length∧fv T dir a=(x:Int)∧Way T D n dir out a∧at' out (x:Int)=at' out (cR T dir a)+cb T a
structure Sound (T:an):Prop where
 cost:∀a,a<2*T.ae.length→1≤cb T a∧cb T a≤65535
 tail:∀a,a<2*T.ae.length→0≤aZ T a∧aZ T a<T.nodes
 head:∀a,a<2*T.ae.length→0≤aW T a∧aW T a<T.nodes
 nodes:1≤T.nodes∧T.nodes≤64
theorem Sound.x{T:an}(h:Sound T)(dir:Bool)(a:Nat)(ha:a<2*T.ae.length):0≤fv T dir a∧fv T dir a<T.nodes:=by
 unfold fv;cases dir
 ·exact h.tail a ha
 ·exact h.head a ha
theorem Sound.y{T:an}(h:Sound T)(dir:Bool)(a:Nat)(ha:a<2*T.ae.length):0≤cR T dir a∧cR T dir a<T.nodes:=by
 unfold cR;cases dir
 ·exact h.head a ha
 ·exact h.tail a ha
theorem u4{T:an}(hT:Sound T){D:List Bool}{n:Nat}{dir:Bool}{out out':List Int}(h:iD T D n dir out)(h':iD T D n dir out'):
  ∀(k:Nat) (x:Nat),(x:Int)<T.nodes→at' out (x:Int)=(k:Int)→0≤at' out' (x:Int)∧at' out' (x:Int)≤at' out (x:Int):=by
 intro k
 induction k using Nat.strongRecOn with
 |_ k ih=>
  intro x hx hk
  rcases h.nj x hx (by omega)with rfl|⟨a,ha,hax,⟨w1,w2,w3⟩,he⟩
  ·rw[h'.root];omega
  ·have hc:=hT.cost a ha
   obtain⟨y,hy⟩:=Int.eq_ofNat_of_zero_le (hT.y dir a ha).1
   have hyn:=(hT.y dir a ha).2
   rw[hy]at w2 w3 he hyn
   obtain⟨j,hj⟩:=Int.eq_ofNat_of_zero_le w2
   have hlt:j<k:=by omega
   have h1:=ih j hlt y hyn hj
   have h2:=h'.closed a ha ⟨w1,by rw[hy];exact h1.1,by rw[hy];exact w3⟩
   rw[hax,hy]at h2
   exact⟨h2.1,by omega⟩
theorem Ds(out:List Int)(x:Nat)(hx:x<out.length):at' out (x:Int)=out[x]:=by
 simp[at',hx]
theorem wK{T:an}(hT:Sound T){D:List Bool}{n:Nat}{dir:Bool}{out out':List Int}(h:iD T D n dir out)(h':iD T D n dir out'):out=out':=by
 have hl:out.length=out'.length:=by have:=h.len;have:=h'.len;omega
 refine List.ext_getElem hl fun x h1 h2=>?_
 have hx:(x:Int)<T.nodes:=by have:=h.len;omega
 rw[←Ds out x h1,←Ds out' x h2]
 have g1:=h.ge x hx
 have g2:=h'.ge x hx
 by_cases c1:0≤at' out (x:Int)
 ·obtain⟨k,hk⟩:=Int.eq_ofNat_of_zero_le c1
  have a1:=u4 hT h h' k x hx hk
  obtain⟨k',hk'⟩:=Int.eq_ofNat_of_zero_le a1.1
  have a2:=u4 hT h' h k' x hx hk'
  omega
 ·by_cases c2:0≤at' out' (x:Int)
  ·obtain⟨k,hk⟩:=Int.eq_ofNat_of_zero_le c2
   have a1:=u4 hT h' h k x hx hk
   omega
  ·omega
open Classical in
noncomputable def bn(T:an)(D:List Bool)(n:Nat)(dir:Bool):List Int:=if h:∃out,iD T D n dir out then h.choose else []
theorem kr{T:an}(hT:Sound T){D:List Bool}{n:Nat}{dir:Bool}{out:List Int}(h:iD T D n dir out):bn T D n dir=out:=by
 unfold bn
 rw[dif_pos ⟨out,h⟩]
 exact wK hT (Exists.choose_spec (⟨out,h⟩:∃out,iD T D n dir out)) h
end Net
end Go.Proofs.YtnegbdpggideiaaGreatDoor
