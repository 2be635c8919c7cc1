/- Texts of the proof, part 5. -/
import Derived.Test.YtnegbdpggideiaaGreatDoorCardXEB4
set_option linter.unusedVariables false
set_option linter.unusedSimpArgs false
set_option maxRecDepth 10000
set_option maxHeartbeats 1000000
namespace Go.Proofs.YtnegbdpggideiaaGreatDoor
namespace PW
section
open Go.RowKit Go.Shelf cG Mem Net eY
attribute [local go_sem] Oper.semAt_some
def IF(K:St→Prop):Exit→St→Prop
 | .normal,s=>K s
 |_,_=>False
theorem piece{P:Program}{N L n:Nat}{c:Code}{st:St}{K:St→Prop}{F:Nat→Prop}{base:Nat}{E₀ E:Env}{w₀ w:World}{a:Act}{Q:Exit→Act→World→Prop}(hc:pa base L E₀ w₀ E w)(hs:eh F base N st E a w)(h:W P N L c st (IF K))(hq:∀s E' a' w',K s→eh F base N s E' a' w'→di E₀ w₀ E' w'→Below base w₀ w'→Q .normal a' w'):c.wpIn Fence.wide n P Q a w:=
 wpIn_wide.2 (wp_mono (h F base E₀ w₀ E a w hc hs) fun e a' w' ⟨s,E',k1,k2,k3,k4⟩=>by
  cases e<;>first|exact hq s E' a' w' k1 k2 k3 k4|exact k1.elim)
def uY:Op→Bool
 | .defer _=>true
 |_=>false
theorem FM{ops:Array Oper}(h:(ops.all fun o=> !uY o.op)=true)(i:Nat)(o:Oper)(ho:ops[i]? =some o)(c:Call):o.op≠ .defer c:=fun e=>by
 have:=Array.all_eq_true'.1 h o (Array.mem_of_getElem? ho)
 rw[e]at this
 cases this
theorem Ik{E:Env}{w w':World}{v:Value}{L:List nM}{n₁ G:Nat}(h:cM E w v (.slice L.length (iH L)))(hE:Ext w w')(hG:G=n₁∨E.M G)(hlt:∀b,E.M b→b<w.heap.size)(hn:w'.heap.size=n₁:=by rfl):J4 n₁ G w' v L:=by
 generalize hn1:L.length=m at h
 generalize hxs:iH L=xs at h
 cases h with
 |bM=>exact .inl ⟨none,0,rfl,List.eq_nil_of_length_eq_zero hn1⟩
 |empty a c _=>exact .inl ⟨some a,c,rfl,List.eq_nil_of_length_eq_zero hn1⟩
 |slice b off _ c cs _ h0 h1 h2 hb hM hc hl hr=>
  subst hn1
  subst hxs
  have hz:=hE.size
  refine .inr ⟨b,off,c,rfl,by omega,fun e=>?_,fun i hi=>?_⟩
  ·subst e
   rcases hG with h|h
   ·omega
   ·exact hM h
  ·have key:∀j v,(kh (cF L i))[j]? =some (.raw v)→j<7→w'.cell? ⟨b,off+(i*7+j),none⟩=some v:=fun j v hj h7=>by
    have e:=eP L i j hi h7
    rw[hj]at e
    have hlt:i*7+j<cs.length:=by rw[hl];exact(List.getElem?_eq_some_iff.1 e).1
    have hcs:cs[i*7+j]? =some cs[i*7+j]:=List.getElem?_eq_getElem hlt
    have:=ek (hr _ _ _ hcs e)
    rw[this]at hcs
    exact hE.cell (hc _ _ hcs)
   have k0:=key 0 _ rfl (by omega)
   have k1:=key 1 _ rfl (by omega)
   have k2:=key 2 _ rfl (by omega)
   have k3:=key 3 _ rfl (by omega)
   have k4:=key 4 _ rfl (by omega)
   have k5:=key 5 _ rfl (by omega)
   have k6:=key 6 _ rfl (by omega)
   simp only[←Nat.add_assoc,Nat.add_zero]at k0 k1 k2 k3 k4 k5 k6
   exact⟨k0,k1,k2,k3,k4,k5,k6⟩
theorem wR{P:Program}{F:Fence}{n:Nat}{c:Code}{Q:Exit→Act→World→Prop}{a:Act}{w:World}(Fin:Act→World→Prop)(h1:c.wpIn F n P (Exit.then Fin Q) a w)(h2:∀a' w',Fin a' w'→c.wpIn F n P (Exit.then (fun _ _=>False) Q) a' w'):(Code.loop c).wpIn F n P Q a w:=by
 have mono:∀ {K K':Act→World→Prop} {a:Act} {w:World},(∀a w,K a w→K' a w)→c.wpIn F n P (Exit.then K Q) a w→c.wpIn F n P (Exit.then K' Q) a w:=fun hk h b k cs hro hb hr=>by
  obtain⟨e,a',w',q,r⟩:=h b k cs hro hb hr
  exact⟨e,a',w',by cases e<;>first|exact hk _ _ q|exact q,r⟩
 classical
 by_cases hf:Fin a w
 ·exact wpIn_loop Fin (fun _ _=>0) hf (fun a w h=>mono (fun _ _ h=>h.elim) (h2 a w h))
 ·refine wpIn_loop (fun a' w'=>(a'=a∧w'=w)∨Fin a' w') (fun a' w'=>if Fin a' w' then 0 else 1) (.inl ⟨rfl,rfl⟩) ?_
  rintro a' w' (⟨rfl,rfl⟩|h)
  ·exact mono (fun a'' w'' h=>⟨.inr h,by rw[if_pos h,if_neg hf];exact Nat.one_pos⟩) h1
  ·exact mono (fun _ _ h=>h.elim) (h2 a' w' h)
theorem bY{α:Type}{l:List α}{n:Nat}(h:l.length=n+1):∃a t,l=a::t∧t.length=n:=by
 cases l with
 |nil=>simp at h
 |cons a t=>exact⟨a,t,rfl,by simpa using h⟩
set_option maxRecDepth 100000 in
set_option maxHeartbeats 4000000 in
theorem BO(T:ak)(k x:Int)(hv:aq T=true)(hc:cj T k x=true)(w:World)(vs:Array Value)(hR:bf (EF fun _=>False) w vs.toList [aP T,.slice 1 (cC k x)])(gl:iA (fun _=>False) w):
  Calls Tryz.prog 60 vs w fun e w'=>∃v,e= .returned (.tuple #[v,.int .i64 0])∧Ext w w'∧w'.ownsRow w.heap.size 4 1 v (2*T.ae.length) ((aF T k x).map Value.bool):=by
 have hll:=bT hv
 have hS:=Sat.start (fun _=>False) w (fun _ h=>h.elim) gl
 refine(callsIn_wide (n:=4)).1 ?_
 refine callsIn_of_wp_marks Tryz.func60 I trivial ?_ rfl
 have hs0:=jh (N:=41) hS hR (by have:=hR.1;simp at this;omega)
 have hc0:pa w.heap.size 0 (EF fun _=>False) w (EF fun _=>False) w:=⟨rfl,di.refl _ _,Below.refl _ _⟩
 refine wpIn_seq (piece (K:=fun s=>s=⟨[(1,.slice 1 (cC k x)),(2,.bb (bC T) 0)],[]⟩) hc0 hs0 ?_ ?_)
 ·skip
  refine aC (.a 3 I<|.k [1,2] I) ?_
  exact rfl
 rintro _ E1 a1 w1 rfl hs1 g1 b1
 refine wpIn_seq (piece (K:=fun s=>s=⟨[(1,.slice 1 (cC k x)),(2,.bb (bC T) 0)],[]⟩) ⟨rfl,g1,b1⟩ hs1 ?_ ?_)
 ·skip
  refine ab (.a 1 I<|.c rfl (eJ T) I<|.a 1 I<|.k [1,2,12] I) ?_
  rw[hv]
  refine ag I (fun hc=>?_) (fun hc=>?_)
  ·cases hc
  ·refine eH [1,2] I (ai ?_)
   exact rfl
 rintro _ E2 a2 w2 rfl hs2 g2 b2
 refine wpIn_seq (piece (K:=fun s=>s=⟨[(1,.slice 1 (cC k x)),(2,.bb (bC T) 0),(6,.ptr 1 0)],[some (.row 4 1 (2*T.ae.length) (bX (List.replicate (2*T.ae.length) false))),some (.cells 22 [.own 0])]⟩) ⟨rfl,g2,b2⟩ hs2 ?_ ?_)
 ·skip
  refine bI<|aw 1 I<|eW I (iG T (by omega)) I<|b7 (dX I (ba.rk.get I) I I (show 2*(T.ae.length:Int)=((2*T.ae.length:Nat):Int) by omega) (show 2*(T.ae.length:Int)=((2*T.ae.length:Nat):Int) by omega) ⟨by unfold maxLen;omega,by omega⟩) I<|aw 2 I<|aE [1,2,6] I ?_
  rw[←iD]
  rfl
 rintro _ E3 a3 w3 rfl hs3 g3 b3
 obtain⟨n,hn⟩:∃n,2*T.ae.length=n:=⟨_,rfl⟩
 rw[hn]at hs3
 obtain⟨B,cs1,hB,hBb,hBh,hBr⟩:=hs3.sat.blk 1 _ rfl
 obtain⟨cs0,hrow,hcs0⟩:=hs3.sat.blk 0 _ rfl
 have t1:=hs3.tmp 1 _ rfl
 have t2:=hs3.tmp 2 _ rfl
 have t6:=hs3.tmp 6 _ rfl
 have hsz:=hs3.size
 have hdf:=hs3.j9
 obtain⟨arr,ds⟩:=a3
 simp only at hdf hsz
 subst hdf
 obtain⟨al⟩:=arr
 replace hsz:al.length=41:=by simpa using hsz
 obtain⟨x0,z0,e0,k0⟩:=bY (n:=40) hsz
 obtain⟨x1,z1,e1,k1⟩:=bY (n:=39) k0
 obtain⟨x2,z2,e2,k2⟩:=bY (n:=38) k1
 obtain⟨x3,z3,e3,k3⟩:=bY (n:=37) k2
 obtain⟨x4,z4,e4,k4⟩:=bY (n:=36) k3
 obtain⟨x5,z5,e5,k5⟩:=bY (n:=35) k4
 obtain⟨x6,z6,e6,k6⟩:=bY (n:=34) k5
 obtain⟨x7,z7,e7,k7⟩:=bY (n:=33) k6
 obtain⟨x8,z8,e8,k8⟩:=bY (n:=32) k7
 obtain⟨x9,z9,e9,k9⟩:=bY (n:=31) k8
 obtain⟨x10,z10,e10,k10⟩:=bY (n:=30) k9
 obtain⟨x11,z11,e11,k11⟩:=bY (n:=29) k10
 obtain⟨x12,z12,e12,k12⟩:=bY (n:=28) k11
 obtain⟨x13,z13,e13,k13⟩:=bY (n:=27) k12
 obtain⟨x14,z14,e14,k14⟩:=bY (n:=26) k13
 obtain⟨x15,z15,e15,k15⟩:=bY (n:=25) k14
 obtain⟨x16,z16,e16,k16⟩:=bY (n:=24) k15
 obtain⟨x17,z17,e17,k17⟩:=bY (n:=23) k16
 obtain⟨x18,z18,e18,k18⟩:=bY (n:=22) k17
 obtain⟨x19,z19,e19,k19⟩:=bY (n:=21) k18
 obtain⟨x20,z20,e20,k20⟩:=bY (n:=20) k19
 obtain⟨x21,z21,e21,k21⟩:=bY (n:=19) k20
 obtain⟨x22,z22,e22,k22⟩:=bY (n:=18) k21
 obtain⟨x23,z23,e23,k23⟩:=bY (n:=17) k22
 obtain⟨x24,z24,e24,k24⟩:=bY (n:=16) k23
 obtain⟨x25,z25,e25,k25⟩:=bY (n:=15) k24
 obtain⟨x26,z26,e26,k26⟩:=bY (n:=14) k25
 obtain⟨x27,z27,e27,k27⟩:=bY (n:=13) k26
 obtain⟨x28,z28,e28,k28⟩:=bY (n:=12) k27
 obtain⟨x29,z29,e29,k29⟩:=bY (n:=11) k28
 obtain⟨x30,z30,e30,k30⟩:=bY (n:=10) k29
 obtain⟨x31,z31,e31,k31⟩:=bY (n:=9) k30
 obtain⟨x32,z32,e32,k32⟩:=bY (n:=8) k31
 obtain⟨x33,z33,e33,k33⟩:=bY (n:=7) k32
 obtain⟨x34,z34,e34,k34⟩:=bY (n:=6) k33
 obtain⟨x35,z35,e35,k35⟩:=bY (n:=5) k34
 obtain⟨x36,z36,e36,k36⟩:=bY (n:=4) k35
 obtain⟨x37,z37,e37,k37⟩:=bY (n:=3) k36
 obtain⟨x38,z38,e38,k38⟩:=bY (n:=2) k37
 obtain⟨x39,z39,e39,k39⟩:=bY (n:=1) k38
 obtain⟨x40,z40,e40,k40⟩:=bY (n:=0) k39
 have e41:=List.eq_nil_of_length_eq_zero k40
 subst e41
 subst e40
 subst e39
 subst e38
 subst e37
 subst e36
 subst e35
 subst e34
 subst e33
 subst e32
 subst e31
 subst e30
 subst e29
 subst e28
 subst e27
 subst e26
 subst e25
 subst e24
 subst e23
 subst e22
 subst e21
 subst e20
 subst e19
 subst e18
 subst e17
 subst e16
 subst e15
 subst e14
 subst e13
 subst e12
 subst e11
 subst e10
 subst e9
 subst e8
 subst e7
 subst e6
 subst e5
 subst e4
 subst e3
 subst e2
 subst e1
 subst e0
 clear k0 k1 k2 k3 k4 k5 k6 k7 k8 k9 k10 k11 k12 k13 k14 k15 k16 k17 k18 k19 k20 k21 k22 k23 k24 k25 k26 k27 k28 k29 k30 k31 k32 k33 k34 k35 k36 k37 k38 k39 k40 hsz
 skip
 have e1:Act.eval ⟨⟨[x0,x1,x2,x3,x4,x5,x6,x7,x8,x9,x10,x11,x12,x13,x14,x15,x16,x17,x18,x19,x20,x21,x22,x23,x24,x25,x26,x27,x28,x29,x30,x31,x32,x33,x34,x35,x36,x37,x38,x39,x40]⟩,[]⟩ (.tmp 1)=x1:=rfl
 have e2:Act.eval ⟨⟨[x0,x1,x2,x3,x4,x5,x6,x7,x8,x9,x10,x11,x12,x13,x14,x15,x16,x17,x18,x19,x20,x21,x22,x23,x24,x25,x26,x27,x28,x29,x30,x31,x32,x33,x34,x35,x36,x37,x38,x39,x40]⟩,[]⟩ (.tmp 2)=x2:=rfl
 have e6:Act.eval ⟨⟨[x0,x1,x2,x3,x4,x5,x6,x7,x8,x9,x10,x11,x12,x13,x14,x15,x16,x17,x18,x19,x20,x21,x22,x23,x24,x25,x26,x27,x28,x29,x30,x31,x32,x33,x34,x35,x36,x37,x38,x39,x40]⟩,[]⟩ (.tmp 6)=x6:=rfl
 rw[e1]at t1
 rw[e2]at t2
 rw[e6]at t6
 clear e1 e2 e6
 cases t1 with
 |slice lb lo _ lcap lcs _ _ hl1 hl2 hlb hlM hlc hll' hlr=>
  match lcs,hll',hlc,hlr with
  | [u0,u1],_,hlc,hlr=>
   have hu0:=ek (hlr 0 u0 _ rfl rfl)
   have hu1:=ek (hlr 1 u1 _ rfl rfl)
   subst hu0
   subst hu1
   have l0:=hlc 0 _ rfl
   have l1:=hlc 1 _ rfl
   clear hlc hlr
   cases t2 with
   |bb bt bo off tcs _ htb htM htc htl htr=>
    match tcs,htl,htc,htr with
    | [c0,c1,c2],_,htc,htr=>
     have m0:=htc 0 _ rfl
     have m1:=htc 1 _ rfl
     have m2:=htc 2 _ rfl
     have hT3:bf E3 w3 [c0,c1,c2] (bC T):=⟨rfl,htr⟩
     cases t6 with
     |ptr _ _ B' _ h6=>
      have hBB:B'=B:=by
       rcases h6 with h6|⟨n',c',h6⟩
       ·rw[hB]at h6;cases h6;rfl
       ·rw[hB]at h6;cases h6
      subst hBB
      clear h6
      simp only[Nat.add_zero]at l0 l1 m0 m1 m2 ⊢
      have hcw:=lV T k x
      rw[hc]at hcw
      have E34:Ext w3 (w3.alloc (.cells #[.int .i64 k,.int .i64 x] 33)):=(Ext.refl w3).alloc _
      have hwi:=(callsIn_wide (n:=3)).2 (hcw (fun _=>False) (w3.alloc (.cells #[.int .i64 k,.int .i64 x] 33)) #[.agg #[c0,c1,c2],.agg #[.int .i64 k,.int .i64 x]] (fun _ h=>h.elim) ((hs3.sat.gl.sub (fun _ h=>h.elim)).goes (E:=EF fun _=>False) (E':=EF fun _=>False) (.ext E34)) (bf.cons (.agg _ _ rfl (fun j z u k1 k2=>((hT3.pure (fun _ h=>h.elim):bf (EF fun _=>False) w3 [c0,c1,c2] (bC T)).2 j z u (by simpa using k1) k2).goes (.ext E34))) (bf.cons (.agg _ _ rfl (fun j z u k1 k2=>(bf.cons (.raw _) (bf.cons (.raw _) (bf.nil _ _)):bf (EF fun _=>False) _ [.int .i64 k,.int .i64 x] (cC k x)).2 j z u (by simpa using k1) k2)) (bf.nil _ _))))
      gi_wp2
      refine wR (fun a' w'=>∃(y0 y1 y2 y3 y4 y5 y7 y8 y9 y10 y11 y12 y13 y14 y15 y16 y19 y20 y21 y22 y23 y24 y25 y26 y27 y28 y29 y30 y31 y32 y33 y34 y35 y36 y37 y38 y39 y40:Value) (D:Nat),a'=⟨#[y0,y1,y2,y3,y4,y5,Value.pointer (some ⟨B',0,none⟩),y7,y8,y9,y10,y11,y12,y13,y14,y15,y16,Value.int .i64 1,Value.int .i64 1,y19,y20,y21,y22,y23,y24,y25,y26,y27,y28,y29,y30,y31,y32,y33,y34,y35,y36,y37,y38,y39,y40],[⟨.collected D,#[]⟩]⟩∧l7 w.heap.size n B' (E3.at_ 0) E3.M (aF T k x) w'∧Below w.heap.size w w'∧w.heap.size≤D∧w'.heap[D]? =some (.deferred (some []))) ?_ ?_
      ·gi_wp2
       refine⟨trivial,hwi.mono ?_⟩
       rintro e w5 ⟨v5,rfl,hE5,r,rfl,hv5⟩
       cases hv5
       have q0:w5.cell? ⟨bt,bo,none⟩=some c0:=hE5.cell (ir _ m0)
       have q1:w5.cell? ⟨bt,bo+1,none⟩=some c1:=hE5.cell (ir _ m1)
       have q2:w5.cell? ⟨bt,bo+2,none⟩=some c2:=hE5.cell (ir _ m2)
       have q3:w5.cell? ⟨w3.heap.size,0,none⟩=some (.int .i64 k):=hE5.cell (HF w3 _ _ _).1
       have q4:w5.cell? ⟨w3.heap.size,1,none⟩=some (.int .i64 x):=hE5.cell (HF w3 _ _ _).2
       gi_wp2
       refine⟨trivial,(FN c0 c1 c2 k x 3 w5).mono ?_⟩
       rintro e w6 ⟨rfl,rfl⟩
       gi_wp2
       have E35:Ext w3 w5:=E34.trans hE5
       have hz5:=E35.size
       have E56:Ext w5 ((w5.alloc (.cells #[c0,c1,c2] 25)).alloc (.cells #[.int .i64 k,.int .i64 x] 33)):=((Ext.refl w5).alloc _).alloc _
       have hz6:((w5.alloc (.cells #[c0,c1,c2] 25)).alloc (.cells #[.int .i64 k,.int .i64 x] 33)).heap.size=w5.heap.size+2:=by simp
       have p2:((w5.alloc (.cells #[c0,c1,c2] 25)).alloc (.cells #[.int .i64 k,.int .i64 x] 33)).cell? ⟨w5.heap.size,2,none⟩=some c2:=ir _ (La w5 _ _ _ _)
       have p3:((w5.alloc (.cells #[c0,c1,c2] 25)).alloc (.cells #[.int .i64 k,.int .i64 x] 33)).cell? ⟨w5.heap.size+1,0,none⟩=some (.int .i64 k):=by
        have:=(HF (w5.alloc (.cells #[c0,c1,c2] 25)) (.int .i64 k) (.int .i64 x) 33).1
        rwa [World.size_alloc]at this
       have p4:((w5.alloc (.cells #[c0,c1,c2] 25)).alloc (.cells #[.int .i64 k,.int .i64 x] 33)).cell? ⟨w5.heap.size+1,1,none⟩=some (.int .i64 x):=by
        have:=(HF (w5.alloc (.cells #[c0,c1,c2] 25)) (.int .i64 k) (.int .i64 x) 33).2
        rwa [World.size_alloc]at this
       generalize (w5.alloc (.cells #[c0,c1,c2] 25)).alloc (.cells #[.int .i64 k,.int .i64 x] 33)=w6 at*
       have E36:Ext w3 w6:=E35.trans E56
       obtain⟨hU3,hone⟩:=l7.of hs3.sat hB
       have hU6:l7 w.heap.size n B' (E3.at_ 0) E3.M (List.replicate n false) w6:=hU3.same E36.size (fun b cs t fz hb=>E36.block b (Array.getElem?_eq_some_iff.1 hb).1)
       have hL3:E3.L=2:=hs3.sat.len
       obtain⟨G,hGv,hGM⟩:∃G,(∀b,bF (E3.at_ 0)=some b→b=G)∧(G=w6.heap.size∨E3.M G):=by
        cases hbo:bF (E3.at_ 0)with
        |none=>exact⟨_,fun b h=>(by cases h),.inl rfl⟩
        |some g=>exact⟨g,fun b h=>(by cases h;rfl),.inr ((hs3.sat.mm g).2 (.inr ⟨0,_,rfl,hbo⟩))⟩
       have hlk:=Ik (n₁:=w6.heap.size) (hT3.2 2 c2 _ rfl rfl) E36 hGM (fun b hb=>hs3.sat.lt hb)
       have hGc:w5.heap.size+1≠G:=by
        rcases hGM with h|h
        ·omega
        ·have:=hs3.sat.lt h;omega
       have hk3:k=1∨k=2∨k=3:=by
        unfold cj at hc
        split at hc
        ·exact .inl ‹_›
        ·split at hc
         ·exact .inr (.inl ‹_›)
         ·split at hc
          ·exact .inr (.inr ‹_›)
          ·cases hc
       refine wpIn_rangeFunc_ownF (α:=eY.Ix T.ae.length) I (by omega) (gf:=160) (lb:= #[.pointer (some ⟨w5.heap.size,0,none⟩),.pointer (some ⟨w5.heap.size+1,0,none⟩)]) I trivial (enters_of Tryz.func160 (by kernel_rfl) I)
        (encs:=fun i=> #[Value.int .i64 (i.1:Int)]) (yq T k x hk3 (by omega) 3 w5.heap.size (w5.heap.size+1) G (by omega) c2 w6 (by omega) (by omega) hGc p2 p3 p4 hlk) (fun h1 h2=>h1.trans h2) (fun W l o o' hl ho _ _=>⟨(grownBy_putObj' W l o').size,fun b h1 _=>(grownBy_putObj' W l o').block b (by have:=(Array.getElem?_eq_some_iff.1 ho).1;omega) (fun e=>by cases e;omega)⟩) (Below.refl _ _) (fun _=>rfl)
        (fun l W=>l7 w.heap.size n B' (E3.at_ 0) E3.M (C9 n l) W∧Kp G w6.heap.size w6 W∧Below w.heap.size w W) (fun _ _ _=>False)
        (fun s W W' row hs hg hr=>⟨hs.1.grown hg (fun r e=>(hr r e).2),⟨Nat.le_trans hs.2.1.size hg.size,fun b h1 h2=>(hg.block b (by have:=hs.2.1.size;omega) (fun e=>by have:=(hr b e.symm).1;omega)).trans (hs.2.1.block b h1 h2)⟩,hs.2.2.trans ⟨hg.os,hg.tape,hg.output,hg.size,fun b h1=>hg.block b (by have:=hs.1.bl;omega) (fun e=>by have:=(hr b e.symm).1;have:=hU6.bl;omega)⟩⟩)
        (fun _ _ _ _ _ h _ _=>h) ⟨hU6,Kp.refl _ _ _,b3.trans (Below.iy E36 hs3.sat.bl)⟩
        (fun i=>⟨#[x0,Value.slice (some ⟨lb,lo,none⟩) 1 lcap,Value.pointer (some ⟨bt,bo,none⟩),x3,x4,x5,Value.pointer (some ⟨B',0,none⟩),x7,Value.pointer (some ⟨w3.heap.size,0,none⟩),Value.int .i64 (i.1:Int),x10,x11,x12,x13,x14,x15,Value.slice (some ⟨lb,lo,none⟩) 1 lcap,Value.int .i64 1,Value.int .i64 0,Value.bool true,Value.pointer (some ⟨lb,lo,none⟩),Value.agg #[.int .i64 k,.int .i64 x],Value.agg #[c0,c1,c2],Value.agg #[.int .i64 k,.int .i64 x],Value.bool true,Value.bool false,Value.agg #[c0,c1,c2],Value.agg #[.int .i64 k,.int .i64 x],Value.func (.func 160) #[] #[.pointer (some ⟨w5.heap.size,0,none⟩),.pointer (some ⟨w5.heap.size+1,0,none⟩)],Value.int .i64 (i.1:Int),x30,x31,x32,x33,x34,x35,x36,x37,x38,x39,x40],[]⟩) ?assign ?body ?done ?stop
       case assign=>
        intro l i W K hK
        gi_wp2
        exact hK
       case body=>
        rintro l pre i W ⟨hU,hK,hb⟩ hlt
        have hMl:=uP (n:=n) pre
        have hi2:=i.2
        have hb11:=Ja (C9 n pre) i.1 (by rw[hMl];omega) (by rw[hMl];omega)
        rw[hMl,←xW]at hb11
        have hUd:l7 w.heap.size n B' (E3.at_ 0) E3.M (C9 n pre) {W with drawn:=W.drawn+1}:=hU.same (Nat.le_refl _) (fun _ _ _ _ _=>rfl)
        have hsat:=hUd.sat hs3.sat rfl ⟨_,_,_,_,rfl⟩ hB hBb hone
        refine wpIn_block (wpIn_region_any mixed (jS (fun j o ho c=>?_) ?_ _ _ _ _ (hb11.any (fun _=>False) w.heap.size E3 {W with drawn:=W.drawn+1} E3 _ {W with drawn:=W.drawn+1} ⟨hL3,di.refl _ _,Below.refl _ _⟩ ⟨hsat,?_,rfl,rfl⟩ _ ?_)))
        ·exact FM (by kernel_rfl) j o ho c
        ·rintro⟨a',w',h⟩
         exact h
        ·intro k' p' hk'
         simp only[look,Bool.cond_eq_ite]at hk'
         split at hk'
         ·rename_i he
          have:=Nat.eq_of_beq_eq_true he
          subst this
          cases hk'
          exact .ptr 1 0 B' (by omega) (.inl hB)
         ·split at hk'
          ·rename_i he
           have:=Nat.eq_of_beq_eq_true he
           subst this
           cases hk'
           exact .raw _
          ·cases hk'
        ·rintro a' w' ⟨⟨t',σ'⟩,E',hσ,hs',hg',hb'⟩
         simp only at hσ
         subst hσ
         have hB'2:E'.at_ 1= .pointer (some ⟨B',0,none⟩):=(hg'.at_ 1 (by omega)).trans hB
         have hv':E'.at_ 0=E3.at_ 0:=hg'.at_ 0 (by omega)
         obtain⟨hU',_⟩:=l7.of hs'.sat hB'2
         rw[hv']at hU'
         have hMM:∀b,E3.M b→E'.M b:=fun b hb=>by
          rcases(hs3.sat.mm b).1 hb with h|⟨j,blk,h1,h2⟩
          ·exact h.elim
          ·match j,h1 with
           |0,_=>exact(hs'.sat.mm b).2 (.inr ⟨0,_,rfl,by rw[hv'];exact h2⟩)
           |1,_=>exact(hs'.sat.mm b).2 (.inr ⟨1,_,rfl,by rw[hg'.at_ 1 (by omega)];exact h2⟩)
           |_+2,h1=>simp at h1
         have hown:∀b,E3.M b→bF (E3.at_ 0)=some b∨b=B':=fun b hb=>by
          rcases(hs3.sat.mm b).1 hb with h|⟨j,blk,h1,h2⟩
          ·exact h.elim
          ·match j,h1 with
           |0,_=>exact .inl h2
           |1,_=>rw[hB]at h2;cases h2;exact .inr rfl
           |_+2,h1=>simp at h1
         have hfin:l7 w.heap.size n B' (E3.at_ 0) E3.M (C9 n (pre++[i])) w':=⟨hU'.bl,hU'.row,hU'.box,hU'.gl.sub hMM⟩
         have hzW:w6.heap.size≤W.heap.size:=hK.size
         have hkp:Kp G w6.heap.size W w':=⟨hg'.size,fun b h1 h2=>by
          by_cases hm:E3.M b
          ·rcases hown b hm with h|h
           ·exact absurd (hGv b h) h2
           ·rw[h,hU'.box,hU.box]
          ·exact hg'.heap b (show b<W.heap.size by omega) hm⟩
         refine⟨⟨hg'.size,fun b o hb ho=>?_⟩,hkp,hfin,hK.trans hkp,hb.trans ⟨hb'.os,hb'.tape,hb'.output,hb'.size,hb'.block⟩⟩
         have hnm:¬E3.M b:=fun hm=>by
          rcases hown b hm with h|h
          ·rcases hU.row.2 with⟨h1,_⟩|⟨g,cap,cur,h1,_,h3,_⟩
           ·rw[h1]at h;cases h
           ·rw[h1]at h
            cases h
            rw[h3]at hb
            cases hb
            cases ho
          ·rw[h,hU.box]at hb
           cases hb
           cases ho
         rw[hg'.heap b (Array.getElem?_eq_some_iff.1 hb).1 hnm]
         exact hb
       case done=>
        rintro D ys W hD rfl ⟨hU,hK,hb⟩ hDh
        have hmk:C9 n (lK (cI k x T.ae) T.ae.length T.ae.length)=aF T k x:=by rw[←hn];exact GC T k x
        rw[hmk]at hU
        gi_wp2
        exact⟨_,_,_,_,_,_,_,_,_,_,_,_,_,_,_,_,_,_,_,_,_,_,_,_,_,_,_,_,_,_,_,_,_,_,_,_,_,_,D,rfl,hU,hb,by have:=hU6.bl;omega,hDh⟩
       case stop=>
        rintro D c pre W _ _ h _
        exact h.elim
      ·rintro a' w' ⟨y0,y1,y2,y3,y4,y5,y7,y8,y9,y10,y11,y12,y13,y14,y15,y16,y19,y20,y21,y22,y23,y24,y25,y26,y27,y28,y29,y30,y31,y32,y33,y34,y35,y36,y37,y38,y39,y40,D,rfl,hU,hb,hD,hDh⟩
       have hbx:w'.cell? ⟨B',0,none⟩=some (E3.at_ 0):=by
        unfold World.cell?
        simp only[hU.box]
        rfl
       gi_wp2
       have hput:=grownBy_putObj' w' D (.deferred none)
       have hnd:∀(g:Nat) (o:Array Value) (e:TypeId),w'.heap[g]? =some (Obj.cells o e (0,0))→(w'.putObj D (.deferred none)).heap[g]? =w'.heap[g]? :=fun g o e hg=>hput.block g (Array.getElem?_eq_some_iff.1 hg).1 (fun h=>by cases h;rw[hDh]at hg;cases hg)
       refine⟨by simp,.inl ⟨_,_,rfl,run_takeDeferred hDh,?_⟩⟩
       rw[hn]
       exact⟨_,results_tmp2 rfl _ _ _,E3.at_ 0,rfl,hb.trans ⟨hput.os,hput.tape,hput.output,hput.size,fun b h1=>hput.block b (by have:=hU.bl;omega) (fun h=>by cases h;omega)⟩,xD hU.row (fun g o hg=>hnd g o _ hg)⟩
end
section
open Go.RowKit cG Mem Net eY
theorem Can.Lu{P:Program}{f:FuncId}{ps:List PV}{R:PV→cg→Prop}{S:PV→Prop}(h:bU P f ps [] R)(hR:∀r σ',R r σ'→∃q,ay σ' r q∧S q):Can P f ps S:=fun F w vs hF hG hr=>by
 refine(h F w.heap.size (EF F) w vs (Sat.start F w hF hG) hr).mono ?_
 rintro e w' ⟨v,r,σ',E',rfl,h1,h2,h3,h4,h5⟩
 obtain⟨q,k1,k2⟩:=hR r σ' h1
 exact⟨v,rfl,h4,q,k2,k1.rep h2 (fun b hb=>(h2.mm b).2 (.inl hb)) (fun b hb=>(h2.fb b hb).2) v h5⟩
theorem yy(T:ak)(k x:Int)(hv:aq T=true)(hc:cj T k x=true):bU Tryz.prog 60 [aP T,.slice 1 (cC k x)] [] (fun r σ'=>r= .tuple [.own 0,num 0]∧σ'=[some (.row 4 1 (2*T.ae.length) (bX (aF T k x)))]):=fun F base E w vs hS hR=>by
 refine(BO T k x hv hc w vs (hR.pure (fun _ h=>h.elim)) (hS.gl.sub fun _ h=>h.elim)).mono ?_
 rintro e w' ⟨v,rfl,hE,hrow⟩
 have hrow2:w'.ownsRow base 4 1 v (2*T.ae.length) ((aF T k x).map Value.bool):=⟨hrow.1,hrow.2.imp id fun⟨g,cap,cur,h1,h2,h3⟩=>⟨g,cap,cur,h1,Nat.le_trans hS.bl h2,h3⟩⟩
 have hnew:∀b,bF v=some b→w.heap.size≤b∧b<w'.heap.size:=fun b hb=>by
  rcases hrow.2 with⟨h1,_⟩|⟨g,cap,cur,h1,h2,h3,_⟩
  ·rw[h1]at hb;cases hb
  ·rw[h1]at hb
   cases hb
   exact⟨h2,(Array.getElem?_eq_some_iff.1 h3).1⟩
 have hone:v.oneCell'=true:=by
  rcases hrow.2 with⟨h1,_⟩|⟨g,cap,cur,h1,h2,h3,_⟩<;>rw[h1]<;>rfl
 have hL:E.L=0:=hS.len
 have hp:=hS.push hE (v:=v) (blk:=.row 4 1 (2*T.ae.length) (bX (aF T k x))) (fun b h=>(hnew b h).1) ⟨_,hrow2,pG _⟩
 refine⟨_,_,_,E.push v,rfl,⟨rfl,rfl⟩,hp.1,hp.2,Below.iy hE hS.bl,.tuple _ _ rfl (fun i c u h1 h2=>?_)⟩
 match i,h1,h2 with
 |0,h1,h2=>
  simp at h1 h2
  subst h1
  subst h2
  exact .own 0 (by show 0<E.L+1;omega) _ (by simp[Env.push,hL]) hone
 |1,h1,h2=>
  simp at h1 h2
  subst h1
  subst h2
  exact .raw _
 |_+2,h1,h2=>simp at h2
def ej(T:ak)(k x:Int):Int:=if(aq T&&cj T k x)=true then 0 else 1
def iO(e:Int)(L:List Bool):PV:=.tuple [bn (if e=0 then L else []),num e]
theorem fr(T:ak)(k x:Int):(aF T k x).length=2*T.ae.length:=by simp[aF]
theorem yC(T:ak)(k x:Int)(hno:(aq T&&cj T k x)=false):Can Tryz.prog 60 [aP T,.slice 1 (cC k x)] (· =iO 1 []):=by
 refine aH Tryz.func60 I Tryz.ntmps60 I<|ab (.a 3 I<|.k [1,2] I)<|aj<|ab (.a 1 I<|.c rfl (eJ T) I<|.a 1 I<|.k [1,2,12] I)<|ag I (fun h1=>?_) (fun h1=>?_)
 ·skip
  exact ab (.a 2 I<|.k [4,5] I)<|ao<|⟨_,_,az.of I,ay.aX (ah.cons ay.bM (ah.cons ay.pure ah.nil)),rfl⟩
 ·have hv:aq T=true:=by simpa using h1
  have hc:cj T k x=false:=by rw[hv,Bool.true_and]at hno;exact hno
  have hll:=bT hv
  have hcw:=lV T k x
  rw[hc]at hcw
  refine ai<|aO<|aw 1 I<|eW I (iG T (by omega)) I<|b7 (dX I (ba.rk.get I) I I (show 2*(T.ae.length:Int)=((2*T.ae.length:Nat):Int) by omega) (show 2*(T.ae.length:Int)=((2*T.ae.length:Nat):Int) by omega) ⟨by unfold maxLen;omega,by omega⟩) I<|aw 2 I<|aE [1,2,6] I ?_
  refine aj<|ab (.a 3 I<|.k [2,6,16,17,18] I)<|au<|eH [2,6,16,17,18] I<|bq (fun r st=>st=⟨[(2,.bb (bC T) 0),(6,.ptr 1 0),(16,.slice 1 (cC k x)),(17,num 1),(18,num 0)],[some (.row 4 1 (2*T.ae.length) (dS [.raw (.bool false)] (2*T.ae.length))),some (.cells 22 [.own 0])]⟩) 0 I ?_
  rintro r st rfl
  refine ab (.a 1 I<|.k [2,6,16,17,18,19] I)<|aj<|ag I (fun h2=>?_) (fun h2=>?_)
  ·skip
   refine ai<|aj<|au<|aO<|bw (aN (0) I) I<|bw (eU I ((show((cC k x).drop 0).take 2=cC k x from rfl)) I) I<|aw 2 I<|aE [2,6,8,16,17,18] I ?_
   refine aj<|ab (.a 2 I<|.c rfl (hcw) I<|.a 1 I<|.k [2,6,8,16,17,18,25] I)<|ag I (fun h3=>?_) (fun h3=>?_)
   ·skip
    exact ab (.a 2 I<|.k [4,5] I)<|ao<|⟨_,_,az.of I,ay.aX (ah.cons ay.bM (ah.cons ay.pure ah.nil)),rfl⟩
   ·exact absurd h3 (by decide)
  ·exact absurd h2 (by decide)
theorem tu(T:ak)(k x:Int)(hv:aq T=true)(hc:cj T k x=true):bU Tryz.prog 16 [aP T,ca k x] [] (fun r σ'=>r= .tuple [.own 0,num 0]∧σ'=[some (.row 4 1 (2*T.ae.length) (bX (aF T k x)))]):=by
 refine ct Tryz.func16 I Tryz.ntmps16 I<|ab (.a 4 I<|.k [2,3] I)<|aO<|aw 3 I<|cN I I (bU.mono (yy T k x hv hc) (fun r σ' h=>?_))
 obtain⟨rfl,rfl⟩:=h
 refine aw 4 I<|aE [4,5] I ?_
 exact ao<|⟨_,az.of I,rfl,rfl⟩
theorem mw(T:ak)(k x:Int):Can Tryz.prog 16 [aP T,ca k x] (· =iO (ej T k x) (aF T k x)):=by
 cases hno:(aq T&&cj T k x)with
 |true=>
  obtain⟨hv,hc⟩:=Bool.and_eq_true_iff.1 hno
  refine Can.Lu (tu T k x hv hc) ?_
  rintro r σ' ⟨rfl,rfl⟩
  refine⟨_,ay.aX (ah.cons (ay.fy rfl ah.pure) (ah.cons ay.pure ah.nil)),?_⟩
  unfold iO ej bn
  rw[if_pos hno,if_pos rfl,fr]
 |false=>
  have he:ej T k x=1:=by unfold ej;rw[if_neg (by rw[hno];simp)]
  rw[he]
  exact aH Tryz.func16 I Tryz.ntmps16 I<|ab (.a 4 I<|.k [2,3] I)<|ab (.a 3 I<|.c rfl (yC T k x hno) I<|.a 4 I<|.k [4,5] I)<|ao<|⟨_,_,az.of I,ay.pure,rfl⟩
end
section
open Go.RowKit cG Mem
section
variable {P:Program} {N L:Nat} {ops:Array Oper}
theorem WA.mono:∀ {n:Nat} {ls:Array Bool} {st:St} {K K':St→Prop},WA P N L ops n ls st K→(∀s,K s→K' s)→WA P N L ops n ls st K'
 |0,_,_,_,_,h,hk=>⟨h.1,hk _ h.2⟩
 |_+1,_,_,_,_,h,hk=>⟨h.1,fun i hi=>by
   obtain⟨o,h1,h2,h3⟩:=h.2 i hi
   exact⟨o,h1,h2,h3.mono fun s hs=>WA.mono hs hk⟩⟩
theorem rq{id:Nat}{l:List Oper}{y:Code}{st:St}{Q:Exit→St→Prop}(t':cn)(σ':cg)(hm:P.follows .mixedOrders=true)(h:WA P N L l.toArray l.length (Array.replicate l.length false) st (fun s=>s.σ=σ'∧Sub s.t t'))(hq:W P N L y ⟨t',σ'⟩ Q):W P N L (.seq (.region id l.toArray true) y) st Q:=
 oX hm (h.mono fun s hs=>by
  obtain⟨t,σ⟩:=s
  obtain⟨h1,h2⟩:=hs
  subst h1
  exact ln h2 hq)
theorem Sat.seal{F:Nat→Prop}{base:Nat}{σ:cg}{E:Env}{w:World}(hS:Sat F base σ E w){i e s n:Nat}{xs:List PV}(hi:σ[i]? =some (some (.row e s n xs))){v:Value}(hv:cM E w v (.own i)):cM (E.kill i) w v (.slice n xs):=by
 obtain⟨_,g⟩:=hS.kill i hi
 cases hv with
 |own _ hiL _ h _=>
  obtain⟨cs,k1,k2⟩:=hS.blk i _ hi
  rw[h]at k1
  have k3:=k1
  rcases k1.2 with⟨rfl,h0⟩|⟨b,cap,cur,rfl,hb,hg,hn,hc,hs',ht⟩
  ·subst h0
   have:xs=[]:=by
    have:=k3.1;simp at this;subst this
    exact List.eq_nil_of_length_eq_zero k2.1.symm
   subst this
   exact .bM
  ·by_cases h0:n=0
   ·subst h0
    have:xs=[]:=by
     have:=k3.1;simp at this;subst this
     exact List.eq_nil_of_length_eq_zero k2.1.symm
    subst this
    exact .empty _ _ hc
   ·refine .slice b 0 n cap cs xs (by omega) hn hc (Array.getElem?_eq_some_iff.1 hg).1 (fun hM=>hM.2 (by rw[h];rfl)) (fun j x hx=>?_) k2.1 (fun j x u h1 h2=>(k2.2 j x u h1 h2).goes g)
    have:=k3.cells (g:=b) I j x hx
    rw[Addr.add_lit]at this
    exact this
theorem Fq{c:Code}{t:cn}{σ:cg}{Q:Exit→St→Prop}(k i:Nat){e s n:Nat}{xs:List PV}(hk:look k t=some (.own i))(hi:σ[i]? =some (some (.row e s n xs)))(h:W P N L c ⟨(k,.slice n xs)::t,σ.set i none⟩ Q):W P N L c ⟨t,σ⟩ Q:=fun F base E₀ w₀ E a w hc hs=>by
 obtain⟨a1,a2⟩:=hs.sat.kill i hi
 exact h F base E₀ w₀ _ a w (hc.on a2 (Below.refl _ _)) ⟨a1,(hs.tmp.goes a2).Fj (hs.sat.seal hi (hs.tmp k _ hk)),hs.j9,hs.size⟩
theorem fP{c:Code}{t:cn}{σ:cg}{Q:Exit→St→Prop}(k i off:Nat){ty:TypeId}{xs:List PV}(hk:look k t=some (.ptr i off))(hi:σ[i]? =some (some (.cells ty xs)))(h:W P N L c ⟨(k,.bb xs off)::t,σ.set i none⟩ Q):W P N L c ⟨t,σ⟩ Q:=fun F base E₀ w₀ E a w hc hs=>by
 obtain⟨a1,a2⟩:=hs.sat.kill i hi
 have hv:=hs.tmp k _ hk
 obtain⟨b,cs,h1,h2,h3,h4⟩:=hs.sat.blk i _ hi
 have hp:cM (E.kill i) w (a.eval (.tmp k)) (.bb xs off):=by
  generalize a.eval (.tmp k)=z at hv
  cases hv with
  |ptr _ _ b' hi' h=>
   have hb:b'=b:=by
    rcases h with h|⟨n,c,h⟩<;>rw[h1]at h<;>cases h
    rfl
   subst hb
   have:=cM.bb (E:=E.kill i) (w:=w) b' 0 off cs.toList xs (Array.getElem?_eq_some_iff.1 h3).1 (fun hM=>hM.2 (by rw[h1];rfl)) (fun j x hx=>by rw[Nat.zero_add];unfold World.cell?;simp only[h3];simpa using hx) h4.1 (fun j x u k1 k2=>(h4.2 j x u k1 k2).goes a2)
   rw[Nat.zero_add]at this
   exact this
 exact h F base E₀ w₀ _ a w (hc.on a2 (Below.refl _ _)) ⟨a1,(hs.tmp.goes a2).Fj hp,hs.j9,hs.size⟩
end
open Net
theorem fc(n lo hi:Int):Can Tryz.prog 116 [num n,num lo,num hi] (· =flag (bK n lo hi)):=by
 obtain⟨p1,hp1⟩:∃q,decide (lo≤n)=q:=⟨_,rfl⟩
 obtain⟨p2,hp2⟩:∃q,decide (n≤hi)=q:=⟨_,rfl⟩
 have he:bK n lo hi=(p1&&p2):=by rw[←hp1,←hp2];unfold bK;exact Bool.decide_and _ _
 rw[he]
 refine aH Tryz.func116 I Tryz.ntmps116 I<|ab (.a 1 I<|.k [0,1,2] I)<|bz 6 (.raw (.bool (p1&&p2))) [] I ?_ ?_
 ·refine .a 2 I<|.v (cf I (hp1)) I<|.a 1 I<|?_
  cases p1
  ·exact .a 5 I<|.k [6] I
  ·exact .a 2 I<|.v (cf I (hp2)) I<|.a 2 I<|.k [6] I
 exact ao<|⟨_,_,az.of I,ay.pure,rfl⟩
set_option maxHeartbeats 2000000 in
theorem fe(T:ak):Can Tryz.prog 58 [aP T] (· =flag (aq T)):=by
  obtain⟨p0,hp0⟩:∃q,bK T.nodes 1 64=q:=⟨_,rfl⟩
  obtain⟨p1,hp1⟩:∃q,decide ((T.over.length:Int)≠0)=q:=⟨_,rfl⟩
  obtain⟨p2,hp2⟩:∃q,decide ((T.over.length:Int)≠T.nodes)=q:=⟨_,rfl⟩
  obtain⟨p3,hp3⟩:∃q,decide (256<(T.ae.length:Int))=q:=⟨_,rfl⟩
  have hw:Can Tryz.prog 116 [num T.nodes,num 1,num 64] (· =flag p0):=by rw[←hp0];exact fc _ _ _
  refine aH Tryz.func58 I Tryz.ntmps58 I<|ab (.a 2 I<|.k [1] I)<|aj<|bz 28 (.raw (.bool (((!p0)||(p1&&p2))||p3))) [1] I ?_ ?_
  · refine .a 2 I<|.c rfl (hw) I<|.a 2 I<|?_
    cases p0
    · exact .a 19 I<|.k [28,1] I
    · refine .a 3 I<|.v (cf I (hp1)) I<|.a 1 I<|?_
      cases p1
      · exact .a 12 I<|.v (cf I (hp3)) I<|.a 1 I<|.k [28,1] I
      · refine .a 5 I<|.v (cf I (hp2)) I<|.a 3 I<|?_
        cases p2
        · exact .a 3 I<|.v (cf I (hp3)) I<|.a 1 I<|.k [28,1] I
        · exact .a 5 I<|.k [28,1] I
  refine ag I (fun hc=>?_) (fun hc=>?_)
  · have hv:aq T=false:=by
      rcases Bool.or_eq_true_iff.1 hc with h|h
      · rcases Bool.or_eq_true_iff.1 h with h|h
        · exact(ia T (.inl (by rw[hp0];simpa using h))).symm
        · obtain⟨a1,a2⟩:=Bool.and_eq_true_iff.1 h
          rw[a1]at hp1
          rw[a2]at hp2
          exact(ia T (.inr (.inr ⟨by have:=tt hp1;omega,tt hp2⟩))).symm
      · rw[h]at hp3;exact(ia T (.inr (.inl (by have:=tt hp3;omega)))).symm
    rw[hv]
    exact ab (.a 1 I<|.k [2] I)<|ao<|⟨_,_,az.of I,ay.pure,rfl⟩
  · obtain ⟨c1, c2⟩ := Bool.or_eq_false_iff.1 hc
    obtain⟨c1,c3⟩:=Bool.or_eq_false_iff.1 c1
    have h0:p0=true:=by simpa using c1
    rw[h0]at hp0
    rw[c2]at hp3
    have hle:T.ae.length≤256:=by have:=ff hp3;omega
    have hov:T.over.length=0∨(T.over.length:Int)=T.nodes:=by
      rcases Bool.and_eq_false_iff.1 c3 with h|h
      · rw[h]at hp1;exact .inl (by have:=ff hp1;omega)
      · rw[h]at hp2;exact .inr (by have:=ff hp2;omega)
    rw[rm T hp0 hle hov]
    have hnd:=om hp0
    clear hw hc c1 c3 hp1 hp2
    refine ai<|aj<|ab (.a 1 I<|.k [1,3] I)<|au<|eH [1,3] I<|bq (fun r s=>∃k,k≤T.ae.length∧r=T.ae.length - k∧(T.ae.take k).all (iU T)=true∧s=⟨[(1,.bb (bC T) 0),(3,num k)],[]⟩) T.ae.length ⟨0,by omega,by omega,by simp,rfl⟩ ?_
    rintro r s ⟨k,hk,rfl,hall,rfl⟩
    refine aj<|ab (.a 5 I<|.k [1,3,33] I)<|ag I (fun hc=>?_) (fun hc=>?_)
    · have hlt:k<T.ae.length:=by have:=tt hc;omega
      obtain⟨q1,g1⟩:∃q,decide ((cF T.ae k).a=(cF T.ae k).b)=q:=⟨_,rfl⟩
      obtain⟨q2,g2⟩:∃q,bu T (cF T.ae k).a=q:=⟨_,rfl⟩
      obtain⟨q3,g3⟩:∃q,bu T (cF T.ae k).b=q:=⟨_,rfl⟩
      obtain⟨q4,g4⟩:∃q,bK (cF T.ae k).c0 1 65535=q:=⟨_,rfl⟩
      obtain⟨q5,g5⟩:∃q,bK (cF T.ae k).c1 1 65535=q:=⟨_,rfl⟩
      obtain⟨q6,g6⟩:∃q,bK (cF T.ae k).cap 0 1048576=q:=⟨_,rfl⟩
      obtain⟨q7,g7⟩:∃q,bK (cF T.ae k).fK 1 65536=q:=⟨_,rfl⟩
      obtain⟨q8,g8⟩:∃q,bK (cF T.ae k).vg 0 64=q:=⟨_,rfl⟩
      have hOK:=uB (T:=T) (l:=cF T.ae k) (q1:=q1) (by rw[←g1];exact Bool.eq_iff_iff.2 (by simp)) g2 g3 g4 g5 g6 g7 g8
      have hall':=wE (iU T) T.ae k hlt
      have hno:=yt (iU T) T.ae k hlt
      rw[hOK]at hall' hno
      have n2:=fc (cF T.ae k).a 0 (T.nodes - 1)
      rw[pR,g2]at n2
      have n3:=fc (cF T.ae k).b 0 (T.nodes - 1)
      rw[pR,g3]at n3
      have n4:=fc (cF T.ae k).c0 1 65535
      rw[g4]at n4
      have n5:=fc (cF T.ae k).c1 1 65535
      rw[g5]at n5
      have n6:=fc (cF T.ae k).cap 0 1048576
      rw[g6]at n6
      have n7:=fc (cF T.ae k).fK 1 65536
      rw[g7]at n7
      have n8:=fc (cF T.ae k).vg 0 64
      rw[g8]at n8
      clear hOK g2 g3 g4 g5 g6 g7 g8
      refine ai<|aj<|au<|aO<|aw 3 I<|bw (aN (k*7) I) I<|bw (eU I (Dw T.ae k hlt) I) I<|aw 2 I<|aE [1,3,4] I ?_
      refine fP 4 0 0 I I ?_
      refine dI [] (.c 1<|.c 3<|.c 4 .nil) .nil rfl rfl ?_
      refine aj<|bz 77 (.raw (.bool (((((!q2)|| !q3)||q1)|| !q4)|| !q5))) [1,3,4] I ?_ ?_
      · refine .a 4 I<|.v (aU I) I<|.c rfl (n2) I<|.a 2 I<|?_
        cases q2
        · exact .a 29 I<|.k [77,1,3,4] I
        · refine .a 4 I<|.v (aU I) I<|.c rfl (n3) I<|.a 3 I<|?_
          cases q3
          · exact .a 20 I<|.k [77,1,3,4] I
          · refine .a 4 I<|.v (cf I (g1)) I<|.a 2 I<|?_
            cases q1
            · refine .a 1 I<|.v (aN (0) I) I<|.a 1 I<|.c rfl (n4) I<|.a 3 I<|?_
              cases q4
              · exact .a 6 I<|.k [77,1,3,4] I
              · exact .a 1 I<|.v (aN (1) I) I<|.a 1 I<|.c rfl (n5) I<|.a 2 I<|.k [77,1,3,4] I
            · exact .a 13 I<|.k [77,1,3,4] I
      refine ag I (fun hx=>?_) (fun hx=>?_)
      · have hno':=hno (by cases q1<;>cases q2<;>cases q3<;>cases q4<;>cases q5<;>simp_all)
        rw[hno']
        exact ab (.a 1 I<|.k [2] I)<|ao<|⟨_,_,az.of I,ay.pure,rfl⟩
      · have e1:q1=false:=by cases q1<;>simp_all
        have e2:q2=true:=by cases q2<;>simp_all
        have e3:q3=true:=by cases q3<;>simp_all
        have e4:q4=true:=by cases q4<;>simp_all
        have e5:q5=true:=by cases q5<;>simp_all
        subst e1 e2 e3 e4 e5
        clear n2 n3 n4 n5 hx
        refine ai<|bz 93 (.raw (.bool (((!q6)|| !q7)|| !q8))) [1,3] I ?_ ?_
        · refine .a 2 I<|.c rfl (n6) I<|.a 2 I<|?_
          cases q6
          · exact .a 11 I<|.k [93,1,3] I
          · refine .a 2 I<|.c rfl (n7) I<|.a 3 I<|?_
            cases q7
            · exact .a 5 I<|.k [93,1,3] I
            · exact .a 2 I<|.c rfl (n8) I<|.a 2 I<|.k [93,1,3] I
        refine ag I (fun hx=>?_) (fun hx=>?_)
        · have hno':=hno (by cases q6<;>cases q7<;>cases q8<;>simp_all)
          rw[hno']
          exact ab (.a 1 I<|.k [2] I)<|ao<|⟨_,_,az.of I,ay.pure,rfl⟩
        · have e1:q6=true:=by cases q6<;>simp_all
          have e2:q7=true:=by cases q7<;>simp_all
          have e3:q8=true:=by cases q8<;>simp_all
          subst e1 e2 e3
          clear n6 n7 n8 hx
          refine ai<|aC (.a 1 I<|.v (aU I) I<|.a 1 I<|.k [1,3] I) ?_
          exact⟨T.ae.length - (k+1),by omega,k+1,by omega,rfl,by rw[hall',hall];rfl,rfl⟩
    · have hke:k=T.ae.length:=by have:=ff hc;omega
      subst hke
      rw[List.take_length]at hall
      rw[hall]
      exact bd<|ab (.a 1 I<|.k [2] I)<|ao<|⟨_,_,az.of I,ay.pure,rfl⟩
theorem mH(T:ak)(hv:aq T=true):Can Tryz.prog 94 [aP T] (· =num (2*(T.ae.length:Int))):=by
 have hll:=bT hv
 have h:=fe T
 rw[hv]at h
 refine aH Tryz.func94 I Tryz.ntmps94 I<|ab (.a 2 I<|.k [1] I)<|aj<|ab (.a 1 I<|.c rfl (h) I<|.a 1 I<|.k [1,5] I)<|ag I (fun hc=>?_) (fun hc=>?_)
 ·cases hc
 ·exact ai<|ab (.a 3 I<|.v (aU I) I<|.a 1 I<|.k [2] I)<|ao<|⟨_,_,az.of I,ay.pure,rfl⟩
theorem rB{T:ak}{a:Int}{p1 p2:Bool}(hp1:decide (a<0)=p1)(hp2:decide (2*(T.ae.length:Int)≤a)=p2)(hc:(p1||p2)=true):¬(0≤a∧a<2*(T.ae.length:Int)):=by
 rcases Bool.or_eq_true_iff.1 hc with h|h
 ·rw[h]at hp1;have:=tt hp1;omega
 ·rw[h]at hp2;have:=tt hp2;omega
theorem pq{T:ak}{a:Int}{p1 p2:Bool}(hp1:decide (a<0)=p1)(hp2:decide (2*(T.ae.length:Int)≤a)=p2)(hc:(p1||p2)=false):0≤a∧a<2*(T.ae.length:Int):=by
 obtain⟨h1,h2⟩:=Bool.or_eq_false_iff.1 hc
 rw[h1]at hp1
 rw[h2]at hp2
 have:=ff hp1
 have:=ff hp2
 omega
theorem mB(T:ak)(hv:aq T=true)(a:Int):Can Tryz.prog 39 [aP T,num a] (· =num (nr T a)):=by
 have hll:=bT hv
 obtain⟨p1,hp1⟩:∃q,decide (a<0)=q:=⟨_,rfl⟩
 obtain⟨p2,hp2⟩:∃q,decide (2*(T.ae.length:Int)≤a)=q:=⟨_,rfl⟩
 refine aH Tryz.func39 I Tryz.ntmps39 I<|ab (.a 2 I<|.k [1,2] I)<|aj<|au<|bz 5 (.raw (.bool (p1||p2))) [1,2] I ?_ ?_
 ·refine .a 1 I<|.v (cf I (hp1)) I<|.a 1 I<|?_
  cases p1
  ·exact .a 2 I<|.c rfl (mH T hv) I<|.v (cf I (hp2)) I<|.a 2 I<|.k [5,1,2] I
  ·exact .a 6 I<|.k [5,1,2] I
 refine ag I (fun hc=>?_) (fun hc=>?_)
 ·unfold nr
  rw[if_neg (rB hp1 hp2 hc)]
  exact ab (.a 1 I<|.k [4] I)<|ao<|⟨_,_,az.of I,ay.pure,rfl⟩
 ·have hy:=pq hp1 hp2 hc
  unfold nr
  rw[if_pos hy]
  clear hp1 hp2 hc
  obtain⟨a,rfl⟩:=Int.eq_ofNat_of_zero_le hy.1
  have hi:a / 2<T.ae.length:=by omega
  unfold bm
  rw[Int.toNat_natCast]
  refine ab (.a 1 I<|.v (uH I I I (by decide) (El a)) I<|.a 2 I<|.k [1,2,14] I)<|ag I (fun hc=>?_) (fun hc=>?_)
  ·have h2:a % 2=0:=by have:=tt hc;omega
   rw[if_pos h2]
   exact ab (.a 3 I<|.v (iV I I I (by decide) (zp a) (by unfold In64;omega)) I<|.v (aN (a / 2*7) I) I<|.a 1 I<|.v (aJ I (eP T.ae (a / 2) 0 hi (by omega))) I<|.a 1 I<|.k [4] I)<|ao<|⟨_,_,az.of I,ay.pure,rfl⟩
  ·have h2:¬a % 2=0:=by have:=ff hc;omega
   rw[if_neg h2]
   exact ai<|ab (.a 3 I<|.v (iV I I I (by decide) (zp a) (by unfold In64;omega)) I<|.v (aN (a / 2*7) I) I<|.a 1 I<|.v (aJ I (eP T.ae (a / 2) 1 hi (by omega))) I<|.a 1 I<|.k [4] I)<|ao<|⟨_,_,az.of I,ay.pure,rfl⟩
theorem H9(a:Nat):(((a / 2:Nat):Int)*2+1) - ((a % 2:Nat):Int)=((Net.flip a:Nat):Int):=by unfold Net.flip;split<;>omega
theorem BN(T:ak)(hv:aq T=true)(a:Int):Can Tryz.prog 41 [aP T,num a] (· =num (xZ T a)):=by
 have hll:=bT hv
 obtain⟨p1,hp1⟩:∃q,decide (a<0)=q:=⟨_,rfl⟩
 obtain⟨p2,hp2⟩:∃q,decide (2*(T.ae.length:Int)≤a)=q:=⟨_,rfl⟩
 refine aH Tryz.func41 I Tryz.ntmps41 I<|ab (.a 2 I<|.k [1,2] I)<|aj<|bz 12 (.raw (.bool (p1||p2))) [1,2] I ?_ ?_
 ·refine .a 1 I<|.v (cf I (hp1)) I<|.a 1 I<|?_
  cases p1
  ·exact .a 2 I<|.c rfl (mH T hv) I<|.v (cf I (hp2)) I<|.a 1 I<|.k [12,1,2] I
  ·exact .a 5 I<|.k [12,1,2] I
 refine ag I (fun hc=>?_) (fun hc=>?_)
 ·unfold xZ
  rw[if_neg (rB hp1 hp2 hc)]
  exact ab (.a 1 I<|.k [4] I)<|ao<|⟨_,_,az.of I,ay.pure,rfl⟩
 ·have hy:=pq hp1 hp2 hc
  unfold xZ
  rw[if_pos hy]
  clear hp1 hp2 hc
  obtain⟨a,rfl⟩:=Int.eq_ofNat_of_zero_le hy.1
  rw[Int.toNat_natCast]
  have ht:=mB T hv ((Net.flip a:Nat):Int)
  rw[tf T (Net.flip a) (by unfold Net.flip;split<;>omega)]at ht
  exact ai<|ab (.a 2 I<|.v (iV I I I (by decide) (zp a) (by unfold In64;omega)) I<|.v (aU I) I<|.v (aU I) I<|.a 1 I<|.v (uH I I I (by decide) (El a)) I<|.v (aU I (hc:=H9 a) (hn:=by unfold In64 Net.flip;split<;>omega)) I<|.c rfl (ht) I<|.a 1 I<|.k [4] I)<|ao<|⟨_,_,az.of I,ay.pure,rfl⟩
theorem Bd(T:ak)(hv:aq T=true)(a:Int):Can Tryz.prog 42 [aP T,num a] (· =num (yu T a)):=by
 have hll:=bT hv
 obtain⟨p1,hp1⟩:∃q,decide (a<0)=q:=⟨_,rfl⟩
 obtain⟨p2,hp2⟩:∃q,decide (2*(T.ae.length:Int)≤a)=q:=⟨_,rfl⟩
 refine aH Tryz.func42 I Tryz.ntmps42 I<|ab (.a 2 I<|.k [1,2] I)<|aj<|bz 12 (.raw (.bool (p1||p2))) [1,2] I ?_ ?_
 ·refine .a 1 I<|.v (cf I (hp1)) I<|.a 1 I<|?_
  cases p1
  ·exact .a 2 I<|.c rfl (mH T hv) I<|.v (cf I (hp2)) I<|.a 1 I<|.k [12,1,2] I
  ·exact .a 5 I<|.k [12,1,2] I
 refine ag I (fun hc=>?_) (fun hc=>?_)
 ·unfold yu
  rw[if_neg (rB hp1 hp2 hc)]
  exact ab (.a 1 I<|.k [4] I)<|ao<|⟨_,_,az.of I,ay.pure,rfl⟩
 ·have hy:=pq hp1 hp2 hc
  unfold yu
  rw[if_pos hy]
  clear hp1 hp2 hc
  obtain⟨a,rfl⟩:=Int.eq_ofNat_of_zero_le hy.1
  rw[Int.toNat_natCast]
  exact ai<|ab (.a 3 I<|.v (iV I I I (by decide) (zp a) (by unfold In64;omega)) I<|.a 1 I<|.v (uH I I I (by decide) (El a)) I<|.v (aN (a / 2*7) I) I<|.a 1 I<|.v (aN (a % 2) I) I<|.v (aJ I (we T a (by omega))) I<|.a 1 I<|.k [4] I)<|ao<|⟨_,_,az.of I,ay.pure,rfl⟩
theorem gh(T:ak)(hv:aq T=true)(a:Nat)(ha:a<2*T.ae.length):Can Tryz.prog 39 [aP T,num a] (· =num (bm T a)):=by rw[←tf T a ha];exact mB T hv a
theorem gX(T:ak)(hv:aq T=true)(a:Nat)(ha:a<2*T.ae.length):Can Tryz.prog 41 [aP T,num a] (· =num (aS T a)):=by rw[←Cd T a ha];exact BN T hv a
theorem lg(T:ak)(hv:aq T=true)(a:Nat)(ha:a<2*T.ae.length):Can Tryz.prog 42 [aP T,num a] (· =num (cp T a)):=by rw[←Cu T a ha];exact Bd T hv a
theorem C5(T:ak)(hv:aq T=true)(n:Nat):Can Tryz.prog 62 [aP T,num n] (· =flag (dp T n)):=by
 have h:=fe T
 rw[hv]at h
 obtain⟨p1,hp1⟩:∃q,decide ((n:Int)<(T.over.length:Int))=q:=⟨_,rfl⟩
 obtain⟨p2,hp2⟩:∃q,T.over.getD n false=q:=⟨_,rfl⟩
 have he:dp T n=(p1&&p2):=by
  unfold dp
  cases p1
  ·have:=ff hp1
   rw[List.getD_eq_getElem?_getD,List.getElem?_eq_none (by omega)];rfl
  ·exact hp2
 rw[he]
 have h0:decide (0≤(n:Int))=true:=decide_eq_true (by omega)
 refine aH Tryz.func62 I Tryz.ntmps62 I<|ab (.a 2 I<|.k [1,2] I)<|bz 4 (.raw (.bool (p1&&p2))) [] I ?_ ?_
 ·refine .a 1 I<|.c rfl (h) I<|.a 2 I<|.v (cf I h0) I<|.a 6 I<|.v (cf I (hp1)) I<|.a 2 I<|?_
  cases p1
  ·exact .a 7 I<|.k [4] I
  ·exact .a 3 I<|.v (aN (n) I (by omega) (by have:=tt hp1;omega)) I<|.v (aJ I (show _=some (flag p2) by rw[dt _ n (by have:=tt hp1;omega),hp2])) I<|.a 2 I<|.k [4] I
 exact ao<|⟨_,_,az.of I,ay.pure,rfl⟩
theorem CO(T:ak)(D:List Bool):Can Tryz.prog 134 [aP T,bn D] (· =flag (aq T&&bW T D)):=by
 obtain⟨p0,hp0⟩:∃q,aq T=q:=⟨_,rfl⟩
 have h:=fe T
 rw[hp0]at h
 obtain⟨p1,hp1⟩:∃q,decide ((D.length:Int)=0)=q:=⟨_,rfl⟩
 obtain⟨p2,hp2⟩:∃q,decide ((D.length:Int)=2*(T.ae.length:Int))=q:=⟨_,rfl⟩
 have he:bW T D=(p1||p2):=by rw[←hp1,←hp2];unfold bW;rw[←Bool.decide_or];exact decide_eq_decide.2 (by omega)
 rw[he,hp0]
 refine aH Tryz.func134 I Tryz.ntmps134 I<|ab (.a 2 I<|.k [1,2] I)<|bz 4 (.raw (.bool (p0&&(p1||p2)))) [] I ?_ ?_
 ·refine .a 1 I<|.c rfl (h) I<|.a 1 I<|?_
  cases p0
  ·exact .a 14 I<|.k [4] I
  ·refine .a 2 I<|.v (cf I (hp1)) I<|.a 1 I<|?_
   cases p1
   ·exact .a 5 I<|.v (aU I (hn:=by have:=bT hp0;unfold In64;omega)) I<|.v (cf I (hp2)) I<|.a 3 I<|.k [4] I
   ·exact .a 10 I<|.k [4] I
 exact ao<|⟨_,_,az.of I,ay.pure,rfl⟩
theorem qv(D:List Bool)(a:Nat)(ha:D.length=0∨a<D.length):Can Tryz.prog 40 [bn D,num a] (· =flag (!aQ D a)):=by
 obtain⟨p1,hp1⟩:∃q,decide ((D.length:Int)=0)=q:=⟨_,rfl⟩
 obtain⟨p2,hp2⟩:∃q,D.getD a false=q:=⟨_,rfl⟩
 have he:(!aQ D a)=(p1|| !p2):=by
  rw[AF (p1:= !p1) (by rw[←hp1];rw[←decide_not];exact decide_eq_decide.2 (by omega)) hp2]
  cases p1<;>cases p2<;>rfl
 rw[he]
 refine aH Tryz.func40 I Tryz.ntmps40 I<|ab (.a 1 I<|.k [0,1] I)<|bz 4 (.raw (.bool (p1|| !p2))) [] I ?_ ?_
 ·refine .a 2 I<|.v (cf I (hp1)) I<|.a 1 I<|?_
  cases p1
  ·exact .a 2 I<|.v (aN (a) I (by omega) (by have:=ff hp1;omega)) I<|.v (aJ I (show _=some (flag p2) by rw[dt _ a (by have:=ff hp1;omega),hp2])) I<|.a 3 I<|.k [4] I
  ·exact .a 7 I<|.k [4] I
 exact ao<|⟨_,_,az.of I,ay.pure,rfl⟩
theorem kV(T:ak)(hv:aq T=true)(n d:Nat):Can Tryz.prog 97 [aP T,num n,num d] (· =flag (decide (n=d)|| !dp T n)):=by
 obtain⟨p1,hp1⟩:∃q,decide ((n:Int)=(d:Int))=q:=⟨_,rfl⟩
 obtain⟨p2,hp2⟩:∃q,dp T n=q:=⟨_,rfl⟩
 have he:decide (n=d)=p1:=by rw[←hp1];exact decide_eq_decide.2 (by omega)
 have h:=C5 T hv n
 rw[hp2]at h
 rw[he,hp2]
 refine aH Tryz.func97 I Tryz.ntmps97 I<|ab (.a 2 I<|.k [1,2,3] I)<|bz 6 (.raw (.bool (p1|| !p2))) [] I ?_ ?_
 ·refine .a 2 I<|.v (cf I (hp1)) I<|.a 1 I<|?_
  cases p1
  ·exact .a 2 I<|.c rfl (h) I<|.a 3 I<|.k [6] I
  ·exact .a 6 I<|.k [6] I
 exact ao<|⟨_,_,az.of I,ay.pure,rfl⟩
theorem CY(L M:List Int):Can Tryz.prog 35 [av L,av M] (· =flag (np L M)):=by
 refine kW fun⟨E,w,vs,hR⟩=>?_
 obtain⟨v,_,hv⟩:=hR.get (i:=0) I
 have hm:=jM hv
 unfold maxLen at hm
 refine aH Tryz.func35 I Tryz.ntmps35 I<|ab (.a 1 I<|.k [0,1] I)<|aj<|ab (.a 5 I<|.k [0,1,10] I)<|ag I (fun hc=>?_) (fun hc=>?_)
 ·rw[←Fa L M (by have:=tt hc;omega)]
  exact ab (.a 1 I<|.k [4] I)<|ao<|⟨_,_,az.of I,ay.pure,rfl⟩
 ·have hlen:M.length=L.length:=by have:=ff hc;omega
  refine ai<|aj<|ab (.a 1 I<|.k [0,1,5] I)<|au<|eH [0,1,5] I<|bq (fun r s=>∃k,k≤L.length∧r=L.length - k∧(∀i,i<k→L.getD i 0=M.getD i 0)∧s=⟨[(0,av L),(1,av M),(5,num k)],[]⟩) L.length ⟨0,by omega,by omega,fun i hi=>by omega,rfl⟩ ?_
  rintro r s ⟨k,hk,rfl,hall,rfl⟩
  refine aj<|ab (.a 4 I<|.k [0,1,5,14] I)<|ag I (fun hc=>?_) (fun hc=>?_)
  ·have hlt:k<L.length:=by have:=tt hc;omega
   refine ai<|aj<|au<|ep mixed (by kernel_rfl) (.a 2 I<|.v [17,18] (aN (k) I) I I<|.v [19] (aJ I (aB L k hlt)) I I<|.a 2 I<|.v [21,22] (aN (k) I) I I<|.v [23] (aJ I (aB M k (by omega))) I I<|.a 1 I<|.k [0,1,5,25] I) ?_
   refine ag I (fun hx=>?_) (fun hx=>?_)
   ·rw[←H4 L M k (tt hx)]
    exact ab (.a 1 I<|.k [4] I)<|ao<|⟨_,_,az.of I,ay.pure,rfl⟩
   ·have hx':L.getD k 0=M.getD k 0:=by have:=ff hx;omega
    refine ai<|aC (.a 1 I<|.v (aU I) I<|.a 1 I<|.k [0,1,5] I) ?_
    refine⟨L.length - (k+1),by omega,k+1,by omega,rfl,fun i hi=>?_,rfl⟩
    by_cases h:i=k
    ·rw[h];exact hx'
    ·exact hall i (by omega)
  ·have hke:k=L.length:=by have:=ff hc;omega
   rw[←EG L M hlen (fun i hi=>hall i (by omega))]
   exact bd<|ab (.a 1 I<|.k [4] I)<|ao<|⟨_,_,az.of I,ay.pure,rfl⟩
end
end PW
end Go.Proofs.YtnegbdpggideiaaGreatDoor
namespace Go.Proofs.YtnegbdpggideiaaGreatDoor
namespace Heap
section
def par(q:Nat):Nat:=(q - 1) / 2
theorem fG{q:Nat}(h:0<q):par q<q:=by unfold par;omega
theorem HB{p c:Nat}(h:0<c)(hc:par c=p):c=2*p+1∨c=2*p+2:=by unfold par at hc;omega
def sA(f:Nat→Int)(len:Nat):Prop:=∀q,0<q→q<len→f (par q)≤f q
def Iu(f:Nat→Int)(len p:Nat):Prop:=0<p→∀c,0<c→c<len→par c=p→f (par p)≤f c
def oq(f:Nat→Int)(len p:Nat):Prop:=(∀q,0<q→q<len→q≠p→par q≠p→f (par q)≤f q)∧Iu f len p
def ud(f:Nat→Int)(len p:Nat):Prop:=(∀q,0<q→q<len→par q≠p→f (par q)≤f q)∧Iu f len p
def F5(f:Nat→Int)(p q x:Nat):Int:=if x=p then f q else if x=q then f p else f x
theorem xK(f:Nat→Int)(p q:Nat):F5 f p q p=f q:=by simp[F5]
theorem J9(f:Nat→Int)(p q:Nat):F5 f p q q=f p:=by
 unfold F5;split
 ·rename_i h;rw[h]
 ·simp
theorem kQ(f:Nat→Int){p q x:Nat}(h1:x≠p)(h2:x≠q):F5 f p q x=f x:=by simp[F5,h1,h2]
theorem FB{f:Nat→Int}{len p:Nat}(h:oq f len p)(hp:0<p)(hl:p<len)(_:f p<f (par p)):oq (F5 f p (par p)) len (par p):=by
 have hpp:=fG hp
 refine⟨fun q h0 hq h1 h2=>?_,fun hg c h0 hc hpc=>?_⟩
 ·by_cases e:par q=p
  ·have hqp:=fG h0
   rw[e,xK,kQ f (by omega) h1]
   exact h.2 hp q h0 hq e
  ·have hqp:q≠p:=fun e'=>h2 (by rw[e'])
   rw[kQ f e h2,kQ f hqp h1]
   exact h.1 q h0 hq hqp e
 ·have hgg:=fG hg
  rw[kQ f (by omega) (by omega)]
  have h3:=h.1 (par p) hg (by omega) (by omega) (by omega)
  by_cases e:c=p
  ·rw[e,xK];exact h3
  ·have:=fG h0
   rw[kQ f e (by omega)]
   have:=h.1 c h0 hc e (by omega)
   rw[hpc]at this
   omega
theorem yY{f:Nat→Int}{len p:Nat}(h:oq f len p)(hp:p=0∨f (par p)≤f p):ud f len p:=
 ⟨fun q h0 hq h2=>by
  by_cases e:q=p
  ·subst e
   rcases hp with h'|h'
   ·omega
   ·exact h'
  ·exact h.1 q h0 hq e h2,h.2⟩
theorem za{f:Nat→Int}{len p:Nat}(h:ud f len p)(hk:∀c,0<c→c<len→par c=p→f p≤f c):sA f len:=fun q h0 hq=>by
 by_cases e:par q=p
 ·rw[e];exact hk q h0 hq e
 ·exact h.1 q h0 hq e
theorem yI{f:Nat→Int}{len p c:Nat}(h:ud f len p)(hc0:0<c)(hcl:c<len)(hcp:par c=p)(hlt:f c<f p)(hk:∀c',0<c'→c'<len→par c'=p→f c≤f c'):ud (F5 f p c) len c:=by
 have hpc:=fG hc0
 refine⟨fun q h0 hq h2=>?_,fun _ d h0 hd hdc=>?_⟩
 ·have hqq:=fG h0
  by_cases e:par q=p
  ·rw[e,xK]
   by_cases e':q=c
   ·rw[e',J9];omega
   ·rw[kQ f (by omega) e'];exact hk q h0 hq e
  ·rw[kQ f e h2]
   by_cases e':q=p
   ·rw[e',xK]
    exact h.2 (by omega) c hc0 hcl hcp
   ·rw[kQ f e' (fun e2=>e (by rw[e2];exact hcp))]
    exact h.1 q h0 hq e
 ·have hdd:=fG h0
  rw[hcp,xK,kQ f (by omega) (by omega)]
  have:=h.1 d h0 hd (by omega)
  rw[hdc]at this
  exact this
theorem CF{f:Nat→Int}{len:Nat}(h:sA f len):∀q,q<len→f 0≤f q:=by
 intro q
 induction q using Nat.strongRecOn with
 |_ q ih=>
  intro hq
  by_cases e:q=0
  ·rw[e];exact Int.le_refl _
  ·have:=fG (q:=q) (by omega)
   exact Int.le_trans (ih (par q) this (by omega)) (h q (by omega) hq)
theorem wV{f g:Nat→Int}{len p:Nat}(h:sA f len)(he:∀q,q<len→q≠p→g q=f q)(hp:p<len):oq g len p:=by
 refine⟨fun q h0 hq h1 h2=>?_,fun hp0 c h0 hc hcp=>?_⟩
 ·have:=fG h0
  rw[he q hq h1,he (par q) (by omega) h2];exact h q h0 hq
 ·have:=fG h0
  have:=fG hp0
  rw[he (par p) (by omega) (by omega),he c hc (by omega)]
  have h1:=h c h0 hc
  rw[hcp]at h1
  exact Int.le_trans (h p hp0 hp) h1
theorem zJ{f g:Nat→Int}{len:Nat}(h:sA f len)(he:∀q,q<len→g q=f q):oq g (len+1) len:=by
 refine⟨fun q h0 hq h1 _=>?_,fun hp0 c h0 hc hcp=>?_⟩
 ·have:=fG h0
  rw[he q (by omega),he (par q) (by omega)];exact h q h0 (by omega)
 ·have:=fG h0;omega
theorem yG{f g:Nat→Int}{len:Nat}(h:sA f (len+1))(he:∀q,q<len→q≠0→g q=f q):oq g len 0:=by
 refine⟨fun q h0 hq h1 h2=>?_,fun hp0=>by omega⟩
 have:=fG h0
 rw[he q hq h1,he (par q) (by omega) h2];exact h q h0 (by omega)
def kj(K:List Int)(i:Int):Int:=K.getD i.toNat 0*65536+i
def rk(K O:List Int)(p:Nat):Int:=kj K (O.getD p 0)
theorem oc{K:List Int}{i j:Int}(hi:0≤i)(hi':i<65536)(hj:0≤j)(hj':j<65536):
  decide (kj K i<kj K j)=(if K.getD i.toNat 0=K.getD j.toNat 0 then decide (i<j) else decide (K.getD i.toNat 0<K.getD j.toNat 0)):=by
 unfold kj
 generalize K.getD i.toNat 0=a
 generalize K.getD j.toNat 0=b
 split
 ·simp only[decide_eq_decide];omega
 ·simp only[decide_eq_decide];omega
theorem EA{K:List Int}{i j:Int}(hi:0≤i)(hj':j<65536)(h:kj K i≤kj K j):K.getD i.toNat 0≤K.getD j.toNat 0:=by
 unfold kj at h;omega
def ed(O:List Int)(p q:Nat):List Int:=(O.set p (O.getD q 0)).set q (O.getD p 0)
theorem gj(O:List Int)(p q:Nat):(ed O p q).length=O.length:=by simp[ed]
theorem eN(L:List Int)(i j:Nat)(c:Int)(hi:i<L.length):(L.set i c).getD j 0=if j=i then c else L.getD j 0:=by
 simp only[List.getD_eq_getElem?_getD,List.getElem?_set]
 by_cases h:i=j
 ·subst h;simp[hi]
 ·rw[if_neg h,if_neg (Ne.symm h)]
theorem ec(O:List Int)(p q x:Nat)(hp:p<O.length)(hq:q<O.length):(ed O p q).getD x 0=if x=q then O.getD p 0 else if x=p then O.getD q 0 else O.getD x 0:=by
 unfold ed
 rw[eN _ _ _ _ (by simpa using hq),eN _ _ _ _ hp]
theorem AU(K O:List Int)(p q:Nat)(hp:p<O.length)(hq:q<O.length):rk K (ed O p q)=F5 (rk K O) p q:=by
 funext x
 unfold rk F5
 rw[ec O p q x hp hq]
 by_cases h1:x=q
 ·subst h1
  rw[if_pos rfl]
  by_cases h2:x=p
  ·rw[if_pos h2,h2]
  ·rw[if_neg h2,if_pos rfl]
 ·rw[if_neg h1]
  by_cases h2:x=p
  ·rw[if_pos h2,if_pos h2]
  ·rw[if_neg h2,if_neg h2,if_neg h1]
def eX(O:List Int)(i:Int):Prop:=∃p,p<O.length∧O.getD p 0=i
theorem my(O:List Int)(p q:Nat)(hp:p<O.length)(hq:q<O.length)(i:Int):eX (ed O p q) i↔eX O i:=by
 unfold eX
 rw[gj]
 constructor
 ·rintro⟨x,hx,rfl⟩
  rw[ec O p q x hp hq]
  split
  ·exact⟨p,hp,rfl⟩
  ·split
   ·exact⟨q,hq,rfl⟩
   ·exact⟨x,hx,rfl⟩
 ·rintro⟨x,hx,rfl⟩
  by_cases h1:x=p
  ·exact⟨q,hq,by rw[ec O p q q hp hq,if_pos rfl,h1]⟩
  ·by_cases h2:x=q
   ·exact⟨p,hp,by
     rw[ec O p q p hp hq]
     by_cases h3:p=q
     ·omega
     ·rw[if_neg h3,if_pos rfl,h2]⟩
   ·exact⟨x,hx,by rw[ec O p q x hp hq,if_neg h2,if_neg h1]⟩
structure dQ (N:Nat) (P O:List Int):Prop where
 len:P.length=N
 item:∀p,p<O.length→0≤O.getD p 0∧O.getD p 0<N∧P.getD (O.getD p 0).toNat 0=(p:Int)+1
 place:∀i,i<N→P.getD i 0=0∨∃p,p<O.length∧O.getD p 0=(i:Int)
theorem dQ.inj{N:Nat}{P O:List Int}(h:dQ N P O){p q:Nat}(hp:p<O.length)(hq:q<O.length)(he:O.getD p 0=O.getD q 0):p=q:=by
 have h1:=(h.item p hp).2.2
 have h2:=(h.item q hq).2.2
 rw[he]at h1
 omega
def ik(P O:List Int)(p q:Nat):List Int:=(P.set (O.getD q 0).toNat ((p:Int)+1)).set (O.getD p 0).toNat ((q:Int)+1)
theorem dQ.swap{N:Nat}{P O:List Int}(h:dQ N P O){p q:Nat}(hp:p<O.length)(hq:q<O.length):dQ N (ik P O p q) (ed O p q):=by
 have ip:=h.item p hp
 have iq:=h.item q hq
 have hl:=h.len
 refine⟨by simp[ik,h.len],fun x hx=>?_,fun i hi=>?_⟩
 ·rw[gj]at hx
  have ix:=h.item x hx
  have e:∀j:Int,0≤j→j<N→(ik P O p q).getD j.toNat 0=if j=O.getD p 0 then(q:Int)+1 else if j=O.getD q 0 then(p:Int)+1 else P.getD j.toNat 0:=fun j h0 h1=>by
   unfold ik
   rw[eN _ _ _ _ (by rw[List.length_set];omega),eN _ _ _ _ (by omega)]
   have e1:(j.toNat=(O.getD p 0).toNat)=(j=O.getD p 0):=by apply propext;omega
   have e2:(j.toNat=(O.getD q 0).toNat)=(j=O.getD q 0):=by apply propext;omega
   simp only[e1,e2]
  rw[ec O p q x hp hq]
  by_cases h1:x=q
  ·rw[if_pos h1,e _ ip.1 ip.2.1,if_pos rfl]
   exact⟨ip.1,ip.2.1,by rw[h1]⟩
  ·rw[if_neg h1]
   by_cases h2:x=p
   ·rw[if_pos h2,e _ iq.1 iq.2.1,if_neg (fun e=>by have:=h.inj hq hp e;omega),if_pos rfl]
    exact⟨iq.1,iq.2.1,by rw[h2]⟩
   ·rw[if_neg h2,e _ ix.1 ix.2.1,if_neg (fun e=>h2 (h.inj hx hp e)),if_neg (fun e=>h1 (h.inj hx hq e))]
    exact ix
 ·by_cases hH:eX O (i:Int)
  ·exact .inr ((my O p q hp hq (i:Int)).2 hH)
  ·rcases h.place i hi with h0|h0
   ·refine .inl ?_
    unfold ik
    rw[eN _ _ _ _ (by rw[List.length_set];omega),eN _ _ _ _ (by omega),if_neg (fun e=>hH ⟨p,hp,by omega⟩),if_neg (fun e=>hH ⟨q,hq,by omega⟩)]
    exact h0
   ·exact absurd h0 hH
theorem dQ.zero{N:Nat}{P O:List Int}(h:dQ N P O){i:Nat}(hi:i<N):P.getD i 0=0↔¬eX O (i:Int):=by
 constructor
 ·rintro h0 ⟨p,hp,he⟩
  have:=(h.item p hp).2.2
  rw[he,Int.toNat_natCast,h0]at this
  omega
 ·intro hn
  rcases h.place i hi with h0|h0
  ·exact h0
  ·exact absurd h0 hn
theorem dQ.push{N:Nat}{P O:List Int}(h:dQ N P O){i:Nat}(hi:i<N)(hn:¬eX O (i:Int)):dQ N (P.set i ((O.length:Int)+1)) (O++[(i:Int)]):=by
 have hl:=h.len
 refine⟨by simp[h.len],fun x hx=>?_,fun j hj=>?_⟩
 ·rw[eN _ _ _ _ (by omega)]
  by_cases h1:x<O.length
  ·have ix:=h.item x h1
   have e:(O++[(i:Int)]).getD x 0=O.getD x 0:=by simp[List.getD_eq_getElem?_getD,List.getElem?_append_left h1]
   rw[e,if_neg (fun e=>hn ⟨x,h1,by omega⟩)]
   exact ix
  ·have:x=O.length:=by simp at hx;omega
   subst this
   have e:(O++[(i:Int)]).getD O.length 0=i:=by simp
   rw[e,Int.toNat_natCast,if_pos rfl]
   exact⟨by omega,by omega,rfl⟩
 ·rw[eN _ _ _ _ (by omega)]
  by_cases hji:j=i
  ·exact .inr ⟨O.length,by simp,by simp[hji]⟩
  ·rw[if_neg hji]
   rcases h.place j hj with h0|⟨p,hp,he⟩
   ·exact .inl h0
   ·exact .inr ⟨p,by simp;omega,by simp[List.getD_eq_getElem?_getD,List.getElem?_append_left hp]at he ⊢;exact he⟩
theorem BV(O:List Int)(i j:Int):eX (O++[i]) j↔j=i∨eX O j:=by
 constructor
 ·rintro⟨p,hp,rfl⟩
  by_cases h1:p<O.length
  ·exact .inr ⟨p,h1,by simp[List.getD_eq_getElem?_getD,List.getElem?_append_left h1]⟩
  ·have:p=O.length:=by simp at hp;omega
   subst this
   exact .inl (by simp)
 ·rintro(rfl|⟨p,hp,rfl⟩)
  ·exact⟨O.length,by simp,by simp⟩
  ·exact⟨p,by simp;omega,by simp[List.getD_eq_getElem?_getD,List.getElem?_append_left hp]⟩
theorem mc(O:List Int)(m x:Nat)(h:x<m):(O.take m).getD x 0=O.getD x 0:=by
 simp[List.getD_eq_getElem?_getD,h]
theorem dQ.pop{N:Nat}{P O:List Int}{m:Nat}(h:dQ N P O)(hm:O.length=m+1):dQ N (P.set (O.getD m 0).toNat 0) (O.take m):=by
 have hl:=h.len
 have im:=h.item m (by omega)
 refine⟨by simp[h.len],fun x hx=>?_,fun j hj=>?_⟩
 ·have hx':x<m:=by simp at hx;omega
  rw[mc O m x hx',eN _ _ _ _ (by omega)]
  have ix:=h.item x (by omega)
  rw[if_neg (fun e=>by have:=h.inj (p:=x) (q:=m) (by omega) (by omega) (by omega);omega)]
  exact ix
 ·rw[eN _ _ _ _ (by omega)]
  by_cases hjm:j=(O.getD m 0).toNat
  ·exact .inl (if_pos hjm)
  ·rw[if_neg hjm]
   rcases h.place j hj with h0|⟨p,hp,he⟩
   ·exact .inl h0
   ·have:p≠m:=fun e=>hjm (by rw[←e,he];rfl)
    exact .inr ⟨p,by simp;omega,by rw[mc O m p (by omega)];exact he⟩
theorem DZ{N:Nat}{P O:List Int}{m:Nat}(h:dQ N P O)(hm:O.length=m+1)(j:Int):eX (O.take m) j↔eX O j∧j≠O.getD m 0:=by
 constructor
 ·rintro⟨p,hp,rfl⟩
  have hp':p<m:=by simp at hp;omega
  rw[mc O m p hp']
  exact⟨⟨p,by omega,rfl⟩,fun e=>by have:=h.inj (p:=p) (q:=m) (by omega) (by omega) e;omega⟩
 ·rintro⟨⟨p,hp,rfl⟩,hne⟩
  have:p≠m:=fun e=>hne (by rw[e])
  exact⟨p,by simp;omega,mc O m p (by omega)⟩
theorem yB:∀(N m:Nat) (f:Nat→Nat),(∀p,p<m→f p<N)→(∀p q,p<m→q<m→f p=f q→p=q)→m≤N
 |0,m,f,h,_=>by
  rcases Nat.eq_zero_or_pos m with h0|h0
  ·omega
  ·have:=h 0 h0;omega
 |N+1,m,f,h,hi=>by
  by_cases hx:∃p,p<m∧f p=N
  ·obtain⟨p0,hp0,he⟩:=hx
   have:=yB N (m - 1) (fun p=>if p=p0 then f (m - 1) else f p) (fun p hp=>by
    by_cases e:p=p0
    ·simp only[e,if_true]
     have h1:=h (m - 1) (by omega)
     have h2:f (m - 1)≠N:=fun e'=>by have:=hi (m - 1) p0 (by omega) hp0 (by omega);omega
     omega
    ·simp only[e,if_false]
     have h1:=h p (by omega)
     have h2:f p≠N:=fun e'=>e (hi p p0 (by omega) hp0 (by omega))
     omega) (fun p q hp hq hpq=>by
    by_cases e:p=p0<;>by_cases e':q=p0
    ·omega
    ·simp only[e,e',if_true,if_false]at hpq
     have:=hi (m - 1) q (by omega) (by omega) hpq
     omega
    ·simp only[e,e',if_true,if_false]at hpq
     have:=hi p (m - 1) (by omega) (by omega) hpq
     omega
    ·simp only[e,e',if_false]at hpq
     exact hi p q (by omega) (by omega) hpq)
   omega
  ·have:=yB N m f (fun p hp=>by
    have h1:=h p hp
    have h2:f p≠N:=fun e=>hx ⟨p,hp,e⟩
    omega) hi
   omega
theorem jx{N:Nat}{P O:List Int}(h:dQ N P O):O.length≤N:=
 yB N O.length (fun p=>(O.getD p 0).toNat) (fun p hp=>by have:=h.item p hp;omega) (fun p q hp hq e=>by
  have h1:=h.item p hp
  have h2:=h.item q hq
  exact h.inj hp hq (by omega))
end
end Heap
end Go.Proofs.YtnegbdpggideiaaGreatDoor
namespace Go.Proofs.YtnegbdpggideiaaGreatDoor
namespace PW
section
open Go.RowKit cG Mem Net Heap
def iS(b:Bool)(d:Option cK)(N n:Nat)(K P O:List Int):cg:=
 match b with
 |false=>[d,some (.cells 236 [.own 2,.own 3,.own 4]),some (.row 3 1 N (aK K)),some (.row 3 1 N (aK P)),some (.row 3 1 n (aK O))]
 |true=>[d,some (.cells 236 [.own 2,.own 3,.own 5]),some (.row 3 1 N (aK K)),some (.row 3 1 N (aK P)),none,some (.row 3 1 n (aK O))]
def J1:cK→Prop
 | .cells _ xs=>aL xs
 | .row _ _ _ xs=>aL xs
 | .mp kv=>aL (kv.map (·.2))
def lq(d:Option cK):Prop:=∀b,d=some b→J1 b
theorem kl.same{fs:List Nat}{σ σ':cg}{js:List Nat}{j:Nat}{d:Option cK}(hd:lq d)(h:σ[j]? =some d)(hs:kl fs σ σ' js):kl fs σ (d::σ') (j::js):=by
 cases d with
 |none=>exact .gone hs
 |some b=>
  have hb:=hd b rfl
  cases b with
  |cells ty xs=>haveI:aL xs:=hd _ rfl;exact .kept h (.cells aI.pure) hs
  |row e s n xs=>haveI:aL xs:=hd _ rfl;exact .kept h (.row aI.pure) hs
  |mp kv=>haveI:aL (kv.map (·.2)):=hd _ rfl;exact .kept h .mp hs
def xA(K P O:List Int):PV:=.bb [av K,av P,av O] 0
theorem si(b:Bool)(d:Option cK){N n:Nat}{K P O:List Int}(hK:K.length=N)(hP:P.length=N)(hO:O.length=n):ay (iS b d N n K P O) (.ptr 1 0) (xA K P O):=by
 subst hK;subst hO
 unfold xA av
 rw[hP]
 cases b<;>exact ay.jI rfl (ah.cons (ay.fy rfl ah.pure) (ah.cons (ay.fy rfl ah.pure) (ah.cons (ay.fy rfl ah.pure) ah.nil)))
theorem ky{N:Nat}{P O:List Int}(h:dQ N P O){p:Nat}(hp:p<O.length):∃i:Nat,O.getD p 0=(i:Int)∧i<N:=by
 obtain⟨h1,h2,_⟩:=h.item p hp
 exact⟨(O.getD p 0).toNat,by omega,by omega⟩
theorem rI{N:Nat}(K P O:List Int)(hP:dQ N P O)(hK:K.length=N)(hN:N≤65536)(p q:Nat)(hp:p<O.length)(hq:q<O.length):
  Can Tryz.prog 222 [xA K P O,num p,num q] (· =flag (decide (rk K O p<rk K O q))):=by
 obtain⟨i,hi,hi'⟩:=ky hP hp
 obtain⟨j,hj,hj'⟩:=ky hP hq
 have hr:decide (rk K O p<rk K O q)=if K.getD i 0=K.getD j 0 then decide ((i:Int)<(j:Int)) else decide (K.getD i 0<K.getD j 0):=by
  unfold rk
  rw[hi,hj,oc (by omega) (by omega) (by omega) (by omega),Int.toNat_natCast,Int.toNat_natCast]
 refine aH Tryz.func222 I Tryz.ntmps222 I<|ab (.a 1 I<|.k [0,1,2] I)<|ep mixed (by kernel_rfl) (.a 5 I<|.v [12,13] (aN (p) I) I I<|.v [14] (aJ I ((aB O p hp).trans (by rw[hi]))) I I<|.a 5 I<|.v [19,20] (aN (q) I) I I<|.v [21] (aJ I ((aB O q hq).trans (by rw[hj]))) I I<|.a 2 I<|.k [0,7,8] I) ?_
 refine aj<|ep mixed (by kernel_rfl) (.a 5 I<|.v [26,27] (aN (i) I) I I<|.v [28] (aJ I (aB K i (by omega))) I I<|.a 5 I<|.v [33,34] (aN (j) I) I I<|.v [35] (aJ I (aB K j (by omega))) I I<|.a 1 I<|.k [0,7,8,37] I) ?_
 refine ag I (fun hc=>?_) (fun hc=>?_)
 ·have:=of_decide_eq_true hc
  rw[if_neg this]at hr
  refine ep mixed (by kernel_rfl) (.a 5 I<|.v [41,42] (aN (i) I) I I<|.v [43] (aJ I (aB K i (by omega))) I I<|.a 5 I<|.v [48,49] (aN (j) I) I I<|.v [50] (aJ I (aB K j (by omega))) I I<|.a 2 I<|.k [6] I) ?_
  exact ao<|⟨_,_,az.of I,ay.pure,by rw[hr];rfl⟩
 ·have:=of_decide_eq_false hc
  rw[if_pos (by simpa using this)]at hr
  exact ai<|ab (.a 4 I<|.k [6] I)<|ao<|⟨_,_,az.of I,ay.pure,by rw[hr];rfl⟩
theorem rS{N n:Nat}(b:Bool)(d:Option cK)(K P O:List Int)(hP:dQ N P O)(hO:O.length=n)(hN:N≤65536)(p q:Nat)(hp:p<O.length)(hq:q<O.length):
  bU Tryz.prog 223 [.ptr 1 0,num p,num q] (iS b d N n K P O) (fun _ σ'=>σ'=iS b d N n K (ik P O p q) (ed O p q)):=by
 obtain⟨i,hi,hi'⟩:=ky hP hp
 obtain⟨j,hj,hj'⟩:=ky hP hq
 have hlen:=jx hP
 have hPl:=hP.len
 have gp:(ed O p q).getD p 0=j:=by
  rw[ec O p q p hp hq]
  by_cases h:p=q
  ·rw[if_pos h];subst h;omega
  ·rw[if_neg h,if_pos rfl,hj]
 have gq:(ed O p q).getD q 0=i:=by rw[ec O p q q hp hq,if_pos rfl,hi]
 have hsw:ed O p q=(O.set p (j:Int)).set q (i:Int):=by unfold ed;rw[hi,hj]
 rw[hsw]at gp gq
 refine ct Tryz.func223 I Tryz.ntmps223 I ?_
 cases b
 all_goals
  refine iw 25 20 mixed (
   .val [0] I (aZ I) I I<|
   .val [6] I (aZ I) I I<|
   .val [7] I (aZ I) I I<|
   .val [8] I (aZ I) I I<|
   .val [1] I (aZ I) I I<|
   .val [0] I (aZ I) I I<|
   .val [11] I (aZ I) I I<|
   .val [12] I (aZ I) I I<|
   .val [13] I (aZ I) I I<|
   .late [2] I (ju rfl rfl) inferInstance rfl rfl<|
   .val [0] I (aZ I) I I<|
   .val [16] I (aZ I) I I<|
   .val [17] I (aZ I) I I<|
   .val [18] I (aZ I) I I<|
   .val [2] I (aZ I) I I<|
   .val [19,20] I (aN (q) I) I I<|
   .val [21] I (aJ I ((aB O q hq).trans (by rw[hj]))) I I<|
   .val [0] I (aZ I) I I<|
   .val [23] I (aZ I) I I<|
   .val [24] I (aZ I) I I<|
   .val [25] I (aZ I) I I<|
   .val [1] I (aZ I) I I<|
   .val [26,27] I (aN (p) I) I I<|
   .val [28] I (aJ I ((aB O p hp).trans (by rw[hi]))) I I<|
   .val [9,10] I (aN (p) I) I I<|
   .nil) (by kernel_rfl) I I (aY (ks:=[0,1,2,14,15,22,29,30]) I) ?_
  refine bc ((by first|exact bN I (ba.tk.get I) I I I (by first|omega|(simp;omega))|exact bg I (ba.tk.get I) I I I (by first|omega|(simp;omega)))) I I<|bw (aN (q) I) I<|bc ((by first|exact bN I (ba.tk.get I) I I I (by first|omega|(simp;omega))|exact bg I (ba.tk.get I) I I I (by first|omega|(simp;omega)))) I I<|aE [0,1,2] I ?_
  refine iw 14 20 mixed (
   .val [0] I (aZ I) I I<|
   .val [32] I (aZ I) I I<|
   .val [33] I (aZ I) I I<|
   .val [34] I (aZ I) I I<|
   .val [0] I (aZ I) I I<|
   .val [36] I (aZ I) I I<|
   .val [37] I (aZ I) I I<|
   .val [38] I (aZ I) I I<|
   .val [1] I (aZ I) I I<|
   .val [39,40] I (aN (p) I) I I<|
   .val [41] I (aJ I ((aB ((O.set p (j:Int)).set q (i:Int)) p (by simpa using hp)).trans (by rw[gp]))) I I<|
   .val [1] I (aZ I) I I<|
   .val [43] I (aU I) I I<|
   .val [35,42] I (aN (j) I) I I<|
   .nil) (by kernel_rfl) I I (aY (ks:=[0,2,44,45]) I) ?_
  refine bc ((by first|exact bN I (ba.tk.get I) I I I (by first|omega|(simp;omega))|exact bg I (ba.tk.get I) I I I (by first|omega|(simp;omega)))) I I<|aE [0,2] I ?_
  refine dL 14 20 mixed (
   .val [0] I (aZ I) I I<|
   .val [46] I (aZ I) I I<|
   .val [47] I (aZ I) I I<|
   .val [48] I (aZ I) I I<|
   .val [0] I (aZ I) I I<|
   .val [50] I (aZ I) I I<|
   .val [51] I (aZ I) I I<|
   .val [52] I (aZ I) I I<|
   .val [2] I (aZ I) I I<|
   .val [53,54] I (aN (q) I) I I<|
   .val [55] I (aJ I ((aB ((O.set p (j:Int)).set q (i:Int)) q (by simpa using hq)).trans (by rw[gq]))) I I<|
   .val [2] I (aZ I) I I<|
   .val [57] I (aU I) I I<|
   .val [49,56] I (aN (i) I) I I<|
   .nil) (by kernel_rfl) I I (aY (ks:=[58,59]) I) ?_
  refine bc ((by first|exact bN I (ba.tk.get I) I I I (by first|omega|(simp;omega))|exact bg I (ba.tk.get I) I I I (by first|omega|(simp;omega)))) I I<|aE [] I ?_
  refine⟨_,az.of I,?_⟩
  unfold ik
  rw[hi,hj,hsw]
  rfl
theorem Fv(p:Nat)(h:0<p):((p:Int) - 1).tdiv 2=((par p:Nat):Int):=by
 rw[Int.tdiv_eq_ediv_of_nonneg (by omega)];unfold par;omega
theorem AQ{σ:cg}{K P O:List Int}(h:ay σ (.ptr 1 0) (xA K P O))(p q:Int):ah σ ([.ptr 1 0,num p,num q]++[]) [xA K P O,num p,num q]:=ah.cons h (ah.cons ay.pure (ah.cons ay.pure ah.nil))
theorem ny{N n:Nat}(b:Bool)(d:Option cK)(K P O:List Int)(hP:dQ N P O)(hO:O.length=n)(hK:K.length=N)(hN:N≤65536)(p:Nat)(hp:p<n)(hL:oq (rk K O) n p):
  bU Tryz.prog 213 [.ptr 1 0,num p] (iS b d N n K P O) (fun _ σ'=>∃P' O',σ'=iS b d N n K P' O'∧dQ N P' O'∧O'.length=n∧sA (rk K O') n∧∀i,eX O' i↔eX O i):=by
 have hlen:=jx hP
 refine ct Tryz.func213 I Tryz.ntmps213 I ?_
 cases b
 all_goals
  refine aj<|au<|eH [0,1] I<|bq (fun r s=>∃P' O' p',dQ N P' O'∧O'.length=n∧oq (rk K O') n p'∧p'<n∧(∀i,eX O' i↔eX O i)∧r=p'∧s=⟨[(0,.ptr 1 0),(1,num p')],iS _ d N n K P' O'⟩) p ⟨P,O,p,hP,hO,hL,hp,fun _=>Iff.rfl,rfl,rfl⟩ ?_
  rintro r s ⟨P',O',p',hP',hO',hL',hp',hH',rfl,rfl⟩
  refine aj ?_
  obtain⟨q1,hq1⟩:∃q,decide ((0:Int)<(r:Int))=q:=⟨_,rfl⟩
  obtain⟨q2,hq2⟩:∃q,decide (rk K O' r<rk K O' (par r))=q:=⟨_,rfl⟩
  refine bz 15 (.raw (.bool (q1&&q2))) [0,1] I ?_ ?_
  ·refine .a 1 I<|.v (cf I (hq1)) I<|.a 1 I<|?_
   cases q1
   ·exact .a 7 I<|.k [15,0,1] I
   ·exact .a 3 I<|.v (aU I) I<|.v (iV I I I (by decide) (Fv r (by have:=of_decide_eq_true hq1;omega)) (by unfold In64 par;omega)) I<|.v (I2 I (AQ (si _ d hK hP'.len hO') _ _) (hq2▸rI K P' O' hP' hK hN r (par r) (by omega) (by have:=of_decide_eq_true hq1;have:=fG (q:=r) (by omega);omega))) I<|.a 1 I<|.k [15,0,1] I
  refine ag I (fun hc=>?_) (fun hc=>?_)
  ·obtain⟨c1,c2⟩:=Bool.and_eq_true_iff.1 hc
   rw[c1]at hq1
   rw[c2]at hq2
   have hr0:0<r:=by have:=of_decide_eq_true hq1;omega
   have hlt:=of_decide_eq_true hq2
   have hpl:=fG hr0
   refine ai<|au<|aO<|aw 3 I<|bw (aU I) I<|bw (iV I I I (by decide) (Fv r hr0) (by unfold In64;omega)) I<|cN I I (bU.mono (rS _ d K P' O' hP' hO' hN r (par r) (by omega) (by omega)) (fun _ σ' h=>?_))
   subst h
   refine aE [0,1] I ?_
   refine aC (.a 1 I<|.v (aU I) I<|.v (iV I I I (by decide) (Fv r hr0) (by unfold In64;omega)) I<|.a 1 I<|.k [0,1] I) ?_
   refine⟨par r,hpl,ik P' O' r (par r),ed O' r (par r),par r,hP'.swap (by omega) (by omega),by rw[gj];exact hO',?_,by omega,fun i=>(my O' r (par r) (by omega) (by omega) i).trans (hH' i),rfl,rfl⟩
   rw[AU K O' r (par r) (by omega) (by omega)]
   exact FB hL' hr0 hp' hlt
  ·have hdn:ud (rk K O') n r:=yY hL' (by
    by_cases h0:r=0
    ·exact .inl h0
    ·refine .inr ?_
     have h1:q1=true:=by rw[←hq1];simp;omega
     rw[h1]at hc
     simp only[Bool.true_and]at hc
     rw[hc]at hq2
     have:=of_decide_eq_false hq2
     omega)
   clear hL' hq1 hq2 hc
   refine bd<|au<|eH [0,1] I<|bq (fun r s=>∃P' O' p',dQ N P' O'∧O'.length=n∧ud (rk K O') n p'∧p'<n∧(∀i,eX O' i↔eX O i)∧r=n - p'∧s=⟨[(0,.ptr 1 0),(1,num p')],iS _ d N n K P' O'⟩) (n - r) ⟨P',O',r,hP',hO',hdn,hp',hH',rfl,rfl⟩ ?_
   clear hP' hO' hdn hH' P' O' hp' r
   rintro r s ⟨P',O',p',hP',hO',hdn,hp',hH',rfl,rfl⟩
   refine au<|ab (.a 2 I<|.k [0,1,4] I)<|aj<|ab (.a 1 I<|.v (aU I) I<|.v (aU I) I<|.a 1 I<|.k [0,1,4,5] I)<|au<|eH [0,1,4,5] I<|bq (fun r s=>∃c l,2*p'+1≤c∧c≤2*p'+3∧r=2*p'+3 - c∧l<n∧(l=p'∨(par l=p'∧0<l∧rk K O' l<rk K O' p'))∧(∀x,2*p'+1≤x→x<c→x<n→rk K O' l≤rk K O' x)∧s=⟨[(0,.ptr 1 0),(1,num p'),(4,num l),(5,num c)],iS _ d N n K P' O'⟩) 2 ⟨2*p'+1,p',by omega,by omega,by omega,hp',.inl rfl,fun x h1 h2=>by omega,rfl⟩ ?_
   rintro r s ⟨c,l,hc1,hc2,rfl,hl,hl2,hl3,rfl⟩
   refine aj ?_
   obtain⟨q1,hq1⟩:∃q,decide ((c:Int)≤2*(p':Int)+2)=q:=⟨_,rfl⟩
   obtain⟨q2,hq2⟩:∃q,decide ((c:Int)<(n:Int))=q:=⟨_,rfl⟩
   refine bz 42 (.raw (.bool (q1&&q2))) [0,1,4,5] I ?_ ?_
   ·refine .a 2 I<|.v (aU I) I<|.v (aU I) I<|.v (cf I (hq1)) I<|.a 1 I<|?_
    cases q1
    ·exact .a 8 I<|.k [42,0,1,4,5] I
    ·exact .a 6 I<|.v (cf I (hq2)) I<|.a 1 I<|.k [42,0,1,4,5] I
   refine ag I (fun hc=>?_) (fun hc=>?_)
   ·obtain⟨c1,c2⟩:=Bool.and_eq_true_iff.1 hc
    rw[c1]at hq1
    rw[c2]at hq2
    have hcn:c<n:=by have:=of_decide_eq_true hq2;omega
    have hc4:c≤2*p'+2:=by have:=of_decide_eq_true hq1;omega
    have hpc:par c=p':=by unfold par;omega
    refine ai<|aj<|au<|ab (.a 3 I<|.v (I2 I (AQ (si _ d hK hP'.len hO') _ _) (rI K P' O' hP' hK hN c l (by omega) (by omega))) I<|.k [0,1,4,5,48] I)<|ag I (fun hb=>?_) (fun hb=>?_)
    ·have hb':=of_decide_eq_true hb
     refine aC (.a 2 I<|.k [0,1,4,5] I) ?_
     refine aC (.a 1 I<|.v (aU I) I<|.a 1 I<|.k [0,1,4,5] I) ?_
     first
      |exact⟨2*p'+3 - (c+1),by omega,c+1,c,by omega,by omega,rfl,hcn,.inr ⟨hpc,by omega,by rcases hl2 with h|h;(rw[h]at hb';exact hb');omega⟩,fun x h1 h2 h3=>by by_cases e:x=c;(rw[e];exact Int.le_refl _);(have:=hl3 x h1 (by omega) h3;omega),rfl⟩
      |exact⟨2*p'+3 - (c+1),by omega,c+1,l,by omega,by omega,rfl,hl,hl2,fun x h1 h2 h3=>by by_cases e:x=c;(rw[e];omega);exact hl3 x h1 (by omega) h3,rfl⟩
    ·have hb':=of_decide_eq_false hb
     refine ai<|aC (.a 1 I<|.v (aU I) I<|.a 1 I<|.k [0,1,4,5] I) ?_
     first
      |exact⟨2*p'+3 - (c+1),by omega,c+1,c,by omega,by omega,rfl,hcn,.inr ⟨hpc,by omega,by rcases hl2 with h|h;(rw[h]at hb';exact hb');omega⟩,fun x h1 h2 h3=>by by_cases e:x=c;(rw[e];exact Int.le_refl _);(have:=hl3 x h1 (by omega) h3;omega),rfl⟩
      |exact⟨2*p'+3 - (c+1),by omega,c+1,l,by omega,by omega,rfl,hl,hl2,fun x h1 h2 h3=>by by_cases e:x=c;(rw[e];omega);exact hl3 x h1 (by omega) h3,rfl⟩
   ·have hmin:∀x,0<x→x<n→par x=p'→rk K O' l≤rk K O' x:=fun x h0 hx hpx=>by
     refine hl3 x (by unfold par at hpx;omega) ?_ hx
     rcases Nat.lt_or_ge x c with h|h
     ·exact h
     ·exfalso
      have hx2:=HB h0 hpx
      have h1:q1=true:=by rw[←hq1];simp;omega
      rw[h1]at hc
      simp only[Bool.true_and]at hc
      rw[hc]at hq2
      have:=of_decide_eq_false hq2
      omega
    clear hc hq1 hq2 hl3
    refine bd<|aj<|ab (.a 3 I<|.k [0,1,4,52] I)<|ag I (fun hc=>?_) (fun hc=>?_)
    ·have hlp:l=p':=by have:=of_decide_eq_true hc;omega
     refine ao<|⟨_,az.of I,P',O',rfl,hP',hO',?_,hH'⟩
     refine za hdn fun x h0 hx hpx=>?_
     have:=hmin x h0 hx hpx
     rw[hlp]at this
     exact this
    ·have hlp:l≠p':=by have:=of_decide_eq_false hc;omega
     obtain⟨hlp1,hl0,hllt⟩:=hl2.resolve_left hlp
     refine ai<|aO<|aw 3 I<|cN I I (bU.mono (rS _ d K P' O' hP' hO' hN p' l (by omega) (by omega)) (fun _ σ' h=>?_))
     subst h
     refine aE [0,4] I ?_
     refine aC (.a 2 I<|.k [0,1] I) ?_
     have hpl:=fG hl0
     refine⟨n - l,by omega,ik P' O' p' l,ed O' p' l,l,hP'.swap (by omega) (by omega),by rw[gj];exact hO',?_,hl,fun i=>(my O' p' l (by omega) (by omega) i).trans (hH' i),rfl,rfl⟩
     rw[AU K O' p' l (by omega) (by omega)]
     exact yI hdn hl0 hl hlp1 hllt hmin
def Db(N n:Nat)(K P O:List Int):Prop:=dQ N P O∧O.length=n∧K.length=N∧sA (rk K O) n
theorem FA{N n:Nat}(d:Option cK)(hd:lq d)(K P O:List Int)(h:Db N (n+1) K P O)(hN:N≤65536)(i:Nat)(hi:O.getD 0 0=(i:Int)):
  bU Tryz.prog 214 [.ptr 1 0,num 0] (iS false d N (n+1) K P O) (fun _ σ'=>∃P' O',σ'=iS true d N n (K.set i 0) P' O'∧Db N n (K.set i 0) P' O'∧∀j,eX O' j↔eX O j∧j≠(i:Int)):=by
 obtain⟨hP,hO,hK,hH⟩:=h
 have hlen:=jx hP
 have hiN:i<N:=by have:=(hP.item 0 (by omega)).2.1;rw[hi]at this;omega
 have hPs:=hP.swap (p:=0) (q:=n) (by omega) (by omega)
 have hg:(ed O 0 n).getD n 0=(i:Int):=by rw[ec O 0 n n (by omega) (by omega),if_pos rfl,hi]
 have hPp:=hPs.pop (m:=n) (by rw[gj];exact hO)
 rw[hg,Int.toNat_natCast]at hPp
 have hheld:∀j,eX ((ed O 0 n).take n) j↔eX O j∧j≠(i:Int):=fun j=>by
  rw[DZ hPs (by rw[gj];exact hO) j,hg,my O 0 n (by omega) (by omega)]
 have hOt:((ed O 0 n).take n).length=n:=by rw[List.length_take,gj];omega
 have hPll:(ik P O 0 n).length=N:=hPs.len
 have hrk:∀x,x<n→x≠0→rk (K.set i 0) ((ed O 0 n).take n) x=rk K O x:=fun x hx hx0=>by
  unfold rk
  rw[mc _ _ _ hx,ec O 0 n x (by omega) (by omega),if_neg (by omega),if_neg hx0]
  unfold kj
  have hne:(O.getD x 0).toNat≠i:=fun e=>by
   have h1:=hP.item x (by omega)
   have:=hP.inj (p:=x) (q:=0) (by omega) (by omega) (by rw[hi];omega)
   omega
  rw[eN _ _ _ _ (by omega),if_neg hne]
 have hloose:oq (rk (K.set i 0) ((ed O 0 n).take n)) n 0:=yG hH hrk
 refine ct Tryz.func214 I Tryz.ntmps214 I<|ab (.a 5 I<|.v (aU I (hc:=(show(((n+1:Nat):Int)) - 1=(n:Int) by omega))) I<|.a 1 I<|.k [0,1,4] I)<|ab (.a 5 I<|.v (aN (0) I) I<|.v (aJ I ((aB O 0 (by omega)).trans (by rw[hi]))) I<|.a 1 I<|.k [0,1,4,5] I)<|aO<|aw 3 I<|cN I I (bU.mono (rS false d K P O hP hO hN 0 n (by omega) (by omega)) (fun _ σ' h=>?_))
 subst h
 refine aE [0,1,4,5] I ?_
 refine aO<|aw 6 I<|b7 (nR I (ba.el.get I) I I I I (by omega)) I<|aw 3 I ?_
 refine eR [0,1,2,3,4,5] (.c 0<|.c 1<|.c 4<|.c 5<|.nil) (.same hd rfl<|.kept rfl (.cells (aI.c<|aI.c<|aI.c<|aI.nil))<|.kept rfl (.row aI.pure)<|.kept rfl (.row aI.pure)<|.gone<|.kept rfl (.fF rfl (show(aK (ed O 0 n)).take (n*1)=aK ((ed O 0 n).take n) by rw[Nat.mul_one];unfold aK;rw[List.map_take]))<|.nil) I I (bp ?_)
 refine iw 11 20 mixed (
  .val [0] I (aZ I) I I<|
  .val [32] I (aZ I) I I<|
  .val [33] I (aZ I) I I<|
  .val [34] I (aZ I) I I<|
  .val [5] I (aZ I) I I<|
  .val [0] I (aZ I) I I<|
  .val [37] I (aZ I) I I<|
  .val [38] I (aZ I) I I<|
  .val [39] I (aZ I) I I<|
  .late [5] I (ju rfl rfl) inferInstance rfl rfl<|
  .val [35,36] I (aN (i) I) I I<|
  .nil) (by kernel_rfl) I I (aY (ks:=[0,1,4,40,41,42]) I) ?_
 refine bc ((by first|exact bN I (ba.tk.get I) I I I (by first|omega|(simp;omega))|exact bg I (ba.tk.get I) I I I (by first|omega|(simp;omega)))) I I<|bw (aN (i) I) I<|bc ((by first|exact bN I (ba.tk.get I) I I I (by first|omega|(simp;omega))|exact bg I (ba.tk.get I) I I I (by first|omega|(simp;omega)))) I I<|aE [0,1,4] I ?_
 refine ab (.a 3 I<|.k [0,1,46] I)<|ag I (fun hc=>?_) (fun hc=>?_)
 ·have hn0:0<n:=by have:=of_decide_eq_true hc;omega
  refine bI<|aw 2 I<|cN I I (bU.mono (ny true d (K.set i 0) ((ik P O 0 n).set i 0) ((ed O 0 n).take n) hPp hOt (by simpa using hK) hN 0 hn0 hloose) (fun _ σ' h=>?_))
  obtain⟨P',O',rfl,h1,h2,h3,h4⟩:=h
  refine aE [] I ?_
  first
   |exact⟨_,az.of rfl,P',O',rfl,⟨h1,h2,by simpa using hK,h3⟩,fun j=>(h4 j).trans (hheld j)⟩
   |exact⟨_,az.of rfl,(ik P O 0 n).set i 0,(ed O 0 n).take n,rfl,⟨hPp,hOt,by simpa using hK,fun q h0 hq=>by omega⟩,hheld⟩
 ·have hn0:n=0:=by have:=of_decide_eq_false hc;omega
  refine ai ?_
  first
   |exact⟨_,az.of rfl,P',O',rfl,⟨h1,h2,by simpa using hK,h3⟩,fun j=>(h4 j).trans (hheld j)⟩
   |exact⟨_,az.of rfl,(ik P O 0 n).set i 0,(ed O 0 n).take n,rfl,⟨hPp,hOt,by simpa using hK,fun q h0 hq=>by omega⟩,hheld⟩
theorem Gh{N:Nat}(K P O:List Int)(hP:P.length=N)(hK:K.length=N)(hN:N≤65536)(i:Nat)(hi:i<N):
  Can Tryz.prog 200 [xA K P O,num i] (· = .tuple [num (if P.getD i 0=0 then 0 else K.getD i 0),flag (!decide (P.getD i 0=0))]):=by
 refine aH Tryz.func200 I Tryz.ntmps200 I<|ab (.a 2 I<|.k [0,1] I)<|aj ?_
 obtain⟨q1,hq1⟩:∃q,decide ((i:Int)<0)=q:=⟨_,rfl⟩
 obtain⟨q2,hq2⟩:∃q,decide ((K.length:Int)≤(i:Int))=q:=⟨_,rfl⟩
 obtain⟨q3,hq3⟩:∃q,decide (P.getD i 0=0)=q:=⟨_,rfl⟩
 refine bz 30 (.raw (.bool (q1||q2||q3))) [0,1] I ?_ ?_
 ·refine .a 4 I<|.v (cf I (hq1)) I<|.a 2 I<|?_
  cases q1
  ·refine .a 6 I<|.v (cf I (hq2)) I<|.a 2 I<|?_
   cases q2
   ·exact .a 5 I<|.v (aN (i) I) I<|.v (aJ I (aB P i (by omega))) I<|.v (cf I (hq3)) I<|.a 1 I<|.k [30,0,1] I
   ·exact .a 9 I<|.k [30,0,1] I
  ·exact .a 18 I<|.k [30,0,1] I
 refine ag I (fun hc=>?_) (fun hc=>?_)
 ·have h1:q1=false:=by rw[←hq1];simp
  have h2:q2=false:=by rw[←hq2];simp;omega
  rw[h1,h2]at hc
  simp only[Bool.false_or]at hc
  rw[hc]at hq3
  refine ab (.a 2 I<|.k [4,5] I)<|ao<|⟨_,_,az.of I,ay.pure,?_⟩
  rw[hq3]
  first
   |(rw[if_pos (of_decide_eq_true hq3)];rfl)
   |(rw[if_neg (of_decide_eq_false hq3)];rfl)
 ·have hc3:q3=false:=by revert hc;cases q3<;>simp
  rw[hc3]at hq3
  refine ai<|ab (.a 5 I<|.v (aN (i) I) I<|.v (aJ I (aB K i (by omega))) I<|.a 2 I<|.k [4,5] I)<|ao<|⟨_,_,az.of I,ay.pure,?_⟩
  rw[hq3]
  first
   |(rw[if_pos (of_decide_eq_true hq3)];rfl)
   |(rw[if_neg (of_decide_eq_false hq3)];rfl)
theorem HN{N n:Nat}(d:Option cK)(hd:lq d)(K P O:List Int)(h:Db N n K P O)(hN:N≤65536):
  bU Tryz.prog 199 [.ptr 1 0] (iS false d N n K P O) (fun r σ'=>(n=0∧r= .tuple [num 0,num 0,flag false]∧σ'=iS false d N n K P O)∨
   ∃(n' i:Nat) (P' O':List Int),n=n'+1∧i<N∧O.getD 0 0=(i:Int)∧r= .tuple [num i,num (K.getD i 0),flag true]∧σ'=iS true d N n' (K.set i 0) P' O'∧Db N n' (K.set i 0) P' O'∧∀j,eX O' j↔eX O j∧j≠(i:Int)):=by
 have h':=h
 obtain⟨hP,hO,hK,hH⟩:=h'
 refine ct Tryz.func199 I Tryz.ntmps199 I<|ab (.a 3 I<|.k [0] I)<|aj ?_
 obtain⟨q1,hq1⟩:∃q,decide ((n:Int)=0)=q:=⟨_,rfl⟩
 refine bz 14 (.raw (.bool (q1))) [0] I ?_ ?_
 ·exact .a 8 I<|.v (cf I (hq1)) I<|.a 1 I<|.k [14,0] I
 refine ag I (fun hc=>?_) (fun hc=>?_)
 ·have hn0:n=0:=by rw[hc]at hq1;have:=of_decide_eq_true hq1;omega
  refine ab (.a 3 I<|.k [2,3,4] I)<|ao ?_
  first
   |exact⟨_,az.of rfl,.inl ⟨hn0,rfl,rfl⟩⟩
   |exact⟨_,az.of rfl,.inr ⟨n',i,P',O',rfl,hiN,hi,rfl,rfl,h1,h2⟩⟩
 ·have hn0:n≠0:=by rw[hc]at hq1;have:=of_decide_eq_false hq1;omega
  obtain⟨n',rfl⟩:∃n',n=n'+1:=⟨n - 1,by omega⟩
  obtain⟨i,hi,hiN⟩:=ky hP (p:=0) (by omega)
  refine ai<|ab (.a 4 I<|.v (aN (0) I) I<|.v (aJ I ((aB O 0 (by omega)).trans (by rw[hi]))) I<|.a 1 I<|.k [0,2] I)<|ab (.a 5 I<|.v (aN (i) I) I<|.v (aJ I (aB K i (by omega))) I<|.a 1 I<|.k [0,2,3] I)<|aO<|aw 1 I<|cN I I (bU.mono (FA d hd K P O h hN i hi) (fun _ σ' h=>?_))
  obtain⟨P',O',rfl,h1,h2⟩:=h
  refine aE [2,3] I ?_
  refine ab (.a 5 I<|.k [2,3,4] I)<|ao ?_
  first
   |exact⟨_,az.of rfl,.inl ⟨hn0,rfl,rfl⟩⟩
   |exact⟨_,az.of rfl,.inr ⟨n',i,P',O',rfl,hiN,hi,rfl,rfl,h1,h2⟩⟩
theorem FL{N:Nat}{P O:List Int}(hP:dQ N P O){i:Nat}(hi:i<N)(h:P.getD i 0≠0):∃p,p<O.length∧O.getD p 0=(i:Int)∧P.getD i 0=(p:Int)+1:=by
 rcases hP.place i hi with h0|⟨p,hp,he⟩
 ·exact absurd h0 h
 ·have:=(hP.item p hp).2.2
  rw[he,Int.toNat_natCast]at this
  exact⟨p,hp,he,this⟩
theorem De{N:Nat}{K P O:List Int}(hP:dQ N P O)(hK:K.length=N){i:Nat}(hi:i<N)(c:Int){x:Nat}(hx:x<O.length)(hne:O.getD x 0≠(i:Int)):rk (K.set i c) O x=rk K O x:=by
 unfold rk kj
 have h1:=hP.item x hx
 rw[eN _ _ _ _ (by omega),if_neg (by omega)]
theorem As{N n:Nat}(d:Option cK)(hd:lq d)(K P O:List Int)(h:Db N n K P O)(hN:N≤65536)(i:Nat)(hi:i<N)(key:Int):
  bU Tryz.prog 198 [.ptr 1 0,num i,num key] (iS false d N n K P O) (fun r σ'=>∃(b:Bool) (n':Nat) (P' O':List Int),σ'=iS b d N n' (K.set i key) P' O'∧Db N n' (K.set i key) P' O'∧∀j,eX O' j↔eX O j∨j=(i:Int)):=by
 obtain⟨hP,hO,hK,hH⟩:=h
 have hlen:=jx hP
 have hPl:=hP.len
 refine ct Tryz.func198 I Tryz.ntmps198 I<|ab (.a 1 I<|.k [0,1,2] I)<|aj<|ab (.a 2 I<|.k [0,1,2,8] I)<|ag I (fun hc=>?_) (fun hc=>?_)
 ·cases hc
 ·refine ai<|aj ?_
  obtain⟨q1,hq1⟩:∃q,decide ((i:Int)<0)=q:=⟨_,rfl⟩
  obtain⟨q2,hq2⟩:∃q,decide ((N:Int)≤(i:Int))=q:=⟨_,rfl⟩
  refine bz 19 (.raw (.bool (q1||q2))) [0,1,2] I ?_ ?_
  ·refine .a 1 I<|.v (cf I (hq1)) I<|.a 1 I<|?_
   cases q1
   ·exact .a 6 I<|.v (cf I (hq2)) I<|.a 1 I<|.k [19,0,1,2] I
   ·exact .a 8 I<|.k [19,0,1,2] I
  refine ag I (fun hc=>?_) (fun hc=>?_)
  ·have h1:q1=false:=by rw[←hq1];simp
   have h2:q2=false:=by rw[←hq2];simp;omega
   rw[h1,h2]at hc
   cases hc
  ·refine ai<|aO<|aw 6 I<|bw (aN (i) I) I<|bc ((by first|exact bN I (ba.tk.get I) I I I (by first|omega|(simp;omega))|exact bg I (ba.tk.get I) I I I (by first|omega|(simp;omega)))) I I<|aE [0,1] I ?_
   refine aj<|ab (.a 5 I<|.v (aN (i) I) I<|.v (aJ I (aB P i (by omega))) I<|.a 1 I<|.k [0,1,34] I)<|ag I (fun hc=>?_) (fun hc=>?_)
   ·have hp0:P.getD i 0=0:=of_decide_eq_true hc
    have hnh:=(hP.zero hi).1 hp0
    have hPp:=hP.push hi hnh
    have hOl:(O++[(i:Int)]).length=n+1:=by simp[hO]
    rw[hO]at hPp
    have hPi2:(P.set i ((n:Int)+1)).getD i 0=(n:Int)+1:=by rw[eN _ _ _ _ (by omega),if_pos rfl]
    have hlt2:i<(P.set i ((n:Int)+1)).length:=by simp;omega
    have hsb:((n:Int)+1) - 1=(n:Int):=by omega
    have hnb:n<N:=by have:=jx hPp;simp at this;omega
    have hset:=ny true d (K.set i key) (P.set i ((n:Int)+1)) (O++[(i:Int)]) hPp hOl (by simpa using hK) hN n (by omega) (zJ hH fun q hq=>by
     have e:(O++[(i:Int)]).getD q 0=O.getD q 0:=by simp[List.getD_eq_getElem?_getD,List.getElem?_append_left (show q<O.length by omega)]
     have:=De hP hK hi key (x:=q) (by omega) (fun e=>hnh ⟨q,by omega,e⟩)
     unfold rk at this ⊢
     rw[e];exact this)
    have hfin:∀j,eX (O++[(i:Int)]) j↔eX O j∨j=(i:Int):=fun j=>(BV O i j).trans Or.comm
    refine aO<|aw 7 I<|b7 (bh I (ba.rk.get I) I I I I (by unfold maxLen;omega)) I<|aw 3 I ?_
    refine eR [0,1,2,3,4,5] (.c 0<|.c 1<|.nil) (.same hd rfl<|.kept rfl (.cells (aI.c<|aI.c<|aI.c<|aI.nil))<|.kept rfl (.row aI.pure)<|.kept rfl (.row aI.pure)<|.gone<|.kept rfl (.fF rfl (dE _ _))<|.nil) I I (bp ?_)
    refine dL 11 20 mixed (
     .val [0] I (aZ I) I I<|
     .val [45] I (aZ I) I I<|
     .val [46] I (aZ I) I I<|
     .val [47] I (aZ I) I I<|
     .val [1] I (aZ I) I I<|
     .val [0] I (aZ I) I I<|
     .val [50] I (aZ I) I I<|
     .val [51] I (aZ I) I I<|
     .val [52] I (aZ I) I I<|
     .val [53] I (aZ I) I I<|
     .val [48,49] I (aN (i) I) I I<|
     .nil) (by kernel_rfl) I I (aY (ks:=[0,1,54,55]) I) ?_
    refine bc ((by first|exact bN I (ba.tk.get I) I I I (by first|omega|(simp;omega))|exact bg I (ba.tk.get I) I I I (by first|omega|(simp;omega)))) I I<|aE [0,1] I ?_
    refine aO<|aw 6 I<|bw (aN (i) I) I<|bw (aJ I ((aB _ i hlt2).trans (congrArg (fun z=>some (PV.raw (.int .i64 z))) hPi2))) I<|bw (aU I (hc:=hsb)) I<|cN I I (bU.mono hset (fun _ σ' h=>?_))
    obtain⟨P',O',rfl,h1,h2,h3,h4⟩:=h
    refine aE [] I ?_
    refine ab (.a 1 I<|.k [6] I)<|ao ?_
    first
     |exact⟨_,az.of rfl,true,_,P',O',rfl,⟨h1,h2,by simpa using hK,h3⟩,fun j=>(h4 j).trans (hfin j)⟩
     |exact⟨_,az.of rfl,false,_,P',O',rfl,⟨h1,h2,by simpa using hK,h3⟩,fun j=>(h4 j).trans (hfin j)⟩
   ·have hp0:P.getD i 0≠0:=of_decide_eq_false hc
    obtain⟨p,hp,hpi,hPi2⟩:=FL hP hi hp0
    have hlt2:i<P.length:=by omega
    have hsb:((p:Int)+1) - 1=(p:Int):=by omega
    have hset:=ny false d (K.set i key) P O hP hO (by simpa using hK) hN p (by omega) (wV hH (fun q hq hqp=>De hP hK hi key (x:=q) (by omega) (fun e=>hqp (hP.inj (by omega) hp (by rw[e,hpi])))) (by omega))
    have hfin:∀j,eX O j↔eX O j∨j=(i:Int):=fun j=>⟨.inl,fun h=>h.elim id fun e=>⟨p,hp,by rw[hpi,e]⟩⟩
    refine ai<|aO<|aw 6 I<|bw (aN (i) I) I<|bw (aJ I ((aB _ i hlt2).trans (congrArg (fun z=>some (PV.raw (.int .i64 z))) hPi2))) I<|bw (aU I (hc:=hsb)) I<|cN I I (bU.mono hset (fun _ σ' h=>?_))
    obtain⟨P',O',rfl,h1,h2,h3,h4⟩:=h
    refine aE [] I ?_
    refine ab (.a 1 I<|.k [6] I)<|ao ?_
    first
     |exact⟨_,az.of rfl,true,_,P',O',rfl,⟨h1,h2,by simpa using hK,h3⟩,fun j=>(h4 j).trans (hfin j)⟩
     |exact⟨_,az.of rfl,false,_,P',O',rfl,⟨h1,h2,by simpa using hK,h3⟩,fun j=>(h4 j).trans (hfin j)⟩
theorem Im(N:Nat)(d:Option cK)(hd:lq d)(hN:N≤65536):
  bU Tryz.prog 197 [num N] [d] (fun r σ'=>r= .tuple [.ptr 1 0,num 0]∧σ'=iS false d N 0 (List.replicate N 0) (List.replicate N 0) []):=by
 refine ct Tryz.func197 I Tryz.ntmps197 I<|ab (.a 2 I<|.k [0] I) ?_
 obtain⟨q1,hq1⟩:∃q,decide ((N:Int)<0)=q:=⟨_,rfl⟩
 obtain⟨q2,hq2⟩:∃q,decide ((65536:Int)<(N:Int))=q:=⟨_,rfl⟩
 refine aj<|bz 9 (.raw (.bool (q1||q2))) [0] I ?_ ?_
 ·refine .a 1 I<|.v (cf I (hq1)) I<|.a 1 I<|?_
  cases q1
  ·exact .a 1 I<|.v (cf I (hq2)) I<|.a 1 I<|.k [9,0] I
  ·exact .a 3 I<|.k [9,0] I
 have h1:q1=false:=by rw[←hq1];simp
 have h2:q2=false:=by rw[←hq2];simp;omega
 refine ag (b:=q1||q2) I (fun hc=>?_) (fun hc=>?_)
 ·rw[h1,h2]at hc
  cases hc
 ·clear hc hq1 hq2 h1 h2
  refine ai<|oX mixed ?_
  have hfin:W Tryz.prog 16 1 .ret ⟨[(2,.ptr 1 0),(3,num 0)],iS false d N 0 (List.replicate N 0) (List.replicate N 0) []⟩ (JW Tryz.prog Tryz.f197 (fun r σ'=>r= .tuple [.ptr 1 0,num 0]∧σ'=iS false d N 0 (List.replicate N 0) (List.replicate N 0) [])):=
   ao ⟨_,.cons (.tmp rfl) (.cons (.tmp rfl) .nil),rfl,rfl⟩
  refine bR 0 [2] (by kernel_rfl) ?_
  refine br I I (bJ (fV I I) I I I (bp ?_)) ?_
  ·refine bR 1 [2] (by kernel_rfl) ?_
   refine br I I (dM (dX I (ba.rk.get I) I I I I ⟨by unfold maxLen;omega,by omega⟩) I I I (bp ?_)) ?_
   ·refine bR 2 [] (by kernel_rfl) ?_
    refine br I I (bJ (fV I I) I I I (bp ?_)) bQ
    refine bR 3 [] (by kernel_rfl) ?_
    refine br I I (dM (dX I (ba.rk.get I) I I I I ⟨by unfold maxLen;omega,by omega⟩) I I I (bp ?_)) bQ
    refine bR 4 [] (by kernel_rfl) ?_
    refine br I I (bJ (iZ (xs:=[_,_,_]) I (ba.st.get I) I I) I I I (bp ?_)) bQ
    refine bR 5 [] (by kernel_rfl) ?_
    refine br I I (dM (fD I I I) I I I (bp ?_)) bQ
    refine bR 6 [] (by kernel_rfl) ?_
    refine br I I (bJ (eS I I) I I I (bp ?_)) bQ
    refine bR 7 [] (by kernel_rfl) ?_
    refine br I I (bJ (eS I I) I I I (bp ?_)) bQ
    refine jW (by kernel_rfl) ?_
    refine cz 3 2 3 1 I I ?_
    exact dI [0,3,1,2,4] (.cons 2 I (Ren.ptr (i:=1) I)<|.cons 3 I Ren.pure<|.nil) (.same hd rfl<|.kept rfl (.cells (aI.cons (Ren.own (i:=2) I)<|aI.cons (Ren.own (i:=3) I)<|aI.cons (Ren.own (i:=4) I) aI.nil))<|.kept rfl (.fF rfl (db N))<|.kept rfl (.fF rfl (db N))<|.kept rfl (.row aI.pure)<|.nil) I I hfin
   refine br I I (bJ (fV I I) I I I (bp ?_)) bQ
   refine bR 1 [3] (by kernel_rfl) ?_
   refine br I I (dM (dX I (ba.rk.get I) I I I I ⟨by unfold maxLen;omega,by omega⟩) I I I (bp ?_)) ?_
   ·refine bR 3 [] (by kernel_rfl) ?_
    refine br I I (dM (dX I (ba.rk.get I) I I I I ⟨by unfold maxLen;omega,by omega⟩) I I I (bp ?_)) bQ
    refine bR 4 [] (by kernel_rfl) ?_
    refine br I I (bJ (iZ (xs:=[_,_,_]) I (ba.st.get I) I I) I I I (bp ?_)) bQ
    refine bR 5 [] (by kernel_rfl) ?_
    refine br I I (dM (fD I I I) I I I (bp ?_)) bQ
    refine bR 6 [] (by kernel_rfl) ?_
    refine br I I (bJ (eS I I) I I I (bp ?_)) bQ
    refine bR 7 [] (by kernel_rfl) ?_
    refine br I I (bJ (eS I I) I I I (bp ?_)) bQ
    refine jW (by kernel_rfl) ?_
    refine cz 3 2 3 1 I I ?_
    exact dI [0,3,1,2,4] (.cons 2 I (Ren.ptr (i:=1) I)<|.cons 3 I Ren.pure<|.nil) (.same hd rfl<|.kept rfl (.cells (aI.cons (Ren.own (i:=2) I)<|aI.cons (Ren.own (i:=3) I)<|aI.cons (Ren.own (i:=4) I) aI.nil))<|.kept rfl (.fF rfl (db N))<|.kept rfl (.fF rfl (db N))<|.kept rfl (.row aI.pure)<|.nil) I I hfin
   refine br I I (dM (dX I (ba.rk.get I) I I I I ⟨by unfold maxLen;omega,by omega⟩) I I I (bp ?_)) bQ
   refine bR 1 [] (by kernel_rfl) ?_
   refine br I I (dM (dX I (ba.rk.get I) I I I I ⟨by unfold maxLen;omega,by omega⟩) I I I (bp ?_)) bQ
   refine bR 4 [] (by kernel_rfl) ?_
   refine br I I (bJ (iZ (xs:=[_,_,_]) I (ba.st.get I) I I) I I I (bp ?_)) bQ
   refine bR 5 [] (by kernel_rfl) ?_
   refine br I I (dM (fD I I I) I I I (bp ?_)) bQ
   refine bR 6 [] (by kernel_rfl) ?_
   refine br I I (bJ (eS I I) I I I (bp ?_)) bQ
   refine bR 7 [] (by kernel_rfl) ?_
   refine br I I (bJ (eS I I) I I I (bp ?_)) bQ
   refine jW (by kernel_rfl) ?_
   refine cz 3 2 3 1 I I ?_
   exact dI [0,3,2,1,4] (.cons 2 I (Ren.ptr (i:=1) I)<|.cons 3 I Ren.pure<|.nil) (.same hd rfl<|.kept rfl (.cells (aI.cons (Ren.own (i:=2) I)<|aI.cons (Ren.own (i:=3) I)<|aI.cons (Ren.own (i:=4) I) aI.nil))<|.kept rfl (.fF rfl (db N))<|.kept rfl (.fF rfl (db N))<|.kept rfl (.row aI.pure)<|.nil) I I hfin
  refine br I I (bJ (fV I I) I I I (bp ?_)) bQ
  refine bR 0 [3] (by kernel_rfl) ?_
  refine br I I (bJ (fV I I) I I I (bp ?_)) ?_
  ·refine bR 1 [3] (by kernel_rfl) ?_
   refine br I I (dM (dX I (ba.rk.get I) I I I I ⟨by unfold maxLen;omega,by omega⟩) I I I (bp ?_)) ?_
   ·refine bR 3 [] (by kernel_rfl) ?_
    refine br I I (dM (dX I (ba.rk.get I) I I I I ⟨by unfold maxLen;omega,by omega⟩) I I I (bp ?_)) bQ
    refine bR 4 [] (by kernel_rfl) ?_
    refine br I I (bJ (iZ (xs:=[_,_,_]) I (ba.st.get I) I I) I I I (bp ?_)) bQ
    refine bR 5 [] (by kernel_rfl) ?_
    refine br I I (dM (fD I I I) I I I (bp ?_)) bQ
    refine bR 6 [] (by kernel_rfl) ?_
    refine br I I (bJ (eS I I) I I I (bp ?_)) bQ
    refine bR 7 [] (by kernel_rfl) ?_
    refine br I I (bJ (eS I I) I I I (bp ?_)) bQ
    refine jW (by kernel_rfl) ?_
    refine cz 3 2 3 1 I I ?_
    exact dI [0,3,1,2,4] (.cons 2 I (Ren.ptr (i:=1) I)<|.cons 3 I Ren.pure<|.nil) (.same hd rfl<|.kept rfl (.cells (aI.cons (Ren.own (i:=2) I)<|aI.cons (Ren.own (i:=3) I)<|aI.cons (Ren.own (i:=4) I) aI.nil))<|.kept rfl (.fF rfl (db N))<|.kept rfl (.fF rfl (db N))<|.kept rfl (.row aI.pure)<|.nil) I I hfin
   refine br I I (dM (dX I (ba.rk.get I) I I I I ⟨by unfold maxLen;omega,by omega⟩) I I I (bp ?_)) bQ
   refine bR 1 [] (by kernel_rfl) ?_
   refine br I I (dM (dX I (ba.rk.get I) I I I I ⟨by unfold maxLen;omega,by omega⟩) I I I (bp ?_)) bQ
   refine bR 4 [] (by kernel_rfl) ?_
   refine br I I (bJ (iZ (xs:=[_,_,_]) I (ba.st.get I) I I) I I I (bp ?_)) bQ
   refine bR 5 [] (by kernel_rfl) ?_
   refine br I I (dM (fD I I I) I I I (bp ?_)) bQ
   refine bR 6 [] (by kernel_rfl) ?_
   refine br I I (bJ (eS I I) I I I (bp ?_)) bQ
   refine bR 7 [] (by kernel_rfl) ?_
   refine br I I (bJ (eS I I) I I I (bp ?_)) bQ
   refine jW (by kernel_rfl) ?_
   refine cz 3 2 3 1 I I ?_
   exact dI [0,3,2,1,4] (.cons 2 I (Ren.ptr (i:=1) I)<|.cons 3 I Ren.pure<|.nil) (.same hd rfl<|.kept rfl (.cells (aI.cons (Ren.own (i:=2) I)<|aI.cons (Ren.own (i:=3) I)<|aI.cons (Ren.own (i:=4) I) aI.nil))<|.kept rfl (.fF rfl (db N))<|.kept rfl (.fF rfl (db N))<|.kept rfl (.row aI.pure)<|.nil) I I hfin
  refine br I I (dM (dX I (ba.rk.get I) I I I I ⟨by unfold maxLen;omega,by omega⟩) I I I (bp ?_)) bQ
  refine bR 0 [] (by kernel_rfl) ?_
  refine br I I (bJ (fV I I) I I I (bp ?_)) bQ
  refine bR 1 [] (by kernel_rfl) ?_
  refine br I I (dM (dX I (ba.rk.get I) I I I I ⟨by unfold maxLen;omega,by omega⟩) I I I (bp ?_)) bQ
  refine bR 4 [] (by kernel_rfl) ?_
  refine br I I (bJ (iZ (xs:=[_,_,_]) I (ba.st.get I) I I) I I I (bp ?_)) bQ
  refine bR 5 [] (by kernel_rfl) ?_
  refine br I I (dM (fD I I I) I I I (bp ?_)) bQ
  refine bR 6 [] (by kernel_rfl) ?_
  refine br I I (bJ (eS I I) I I I (bp ?_)) bQ
  refine bR 7 [] (by kernel_rfl) ?_
  refine br I I (bJ (eS I I) I I I (bp ?_)) bQ
  refine jW (by kernel_rfl) ?_
  refine cz 3 2 3 1 I I ?_
  exact dI [0,3,2,1,4] (.cons 2 I (Ren.ptr (i:=1) I)<|.cons 3 I Ren.pure<|.nil) (.same hd rfl<|.kept rfl (.cells (aI.cons (Ren.own (i:=2) I)<|aI.cons (Ren.own (i:=3) I)<|aI.cons (Ren.own (i:=4) I) aI.nil))<|.kept rfl (.fF rfl (db N))<|.kept rfl (.fF rfl (db N))<|.kept rfl (.row aI.pure)<|.nil) I I hfin
end
end PW
end Go.Proofs.YtnegbdpggideiaaGreatDoor
namespace Go.Proofs.YtnegbdpggideiaaGreatDoor
namespace Net
def fL(T:ak)(dir:Bool)(a:Nat):Int:=if dir then aS T a else bm T a
def cY(T:ak)(dir:Bool)(a:Nat):Int:=if dir then bm T a else aS T a
def at'(l:List Int)(x:Int):Int:=l.getD x.toNat (-1)
def Way(T:ak)(D:List Bool)(n:Nat)(dir:Bool)(out:List Int)(a:Nat):Prop:=
 aQ D a=false∧0≤at' out (cY T dir a)∧(cY T dir a=(n:Int)∨dp T (cY T dir a).toNat=false)
structure iT (T:ak) (D:List Bool) (n:Nat) (dir:Bool) (out:List Int):Prop where
 len:(out.length:Int)=T.nodes
 root:at' out (n:Int)=0
 ge:∀x:Nat,(x:Int)<T.nodes→ -1≤at' out (x:Int)
 closed:∀a,a<2*T.ae.length→Way T D n dir out a→0≤at' out (fL T dir a)∧at' out (fL T dir a)≤at' out (cY T dir a)+cp T a
 nm:∀x:Nat,(x:Int)<T.nodes→0≤at' out (x:Int)→x=n∨∃a,a<2*T.ae.length∧fL T dir a=(x:Int)∧Way T D n dir out a∧at' out (x:Int)=at' out (cY T dir a)+cp T a
structure Sound (T:ak):Prop where
 cost:∀a,a<2*T.ae.length→1≤cp T a∧cp T a≤65535
 tail:∀a,a<2*T.ae.length→0≤bm T a∧bm T a<T.nodes
 head:∀a,a<2*T.ae.length→0≤aS T a∧aS T a<T.nodes
 nodes:1≤T.nodes∧T.nodes≤64
theorem Sound.x{T:ak}(h:Sound T)(dir:Bool)(a:Nat)(ha:a<2*T.ae.length):0≤fL T dir a∧fL T dir a<T.nodes:=by
 unfold fL;cases dir
 ·exact h.tail a ha
 ·exact h.head a ha
theorem Sound.y{T:ak}(h:Sound T)(dir:Bool)(a:Nat)(ha:a<2*T.ae.length):0≤cY T dir a∧cY T dir a<T.nodes:=by
 unfold cY;cases dir
 ·exact h.head a ha
 ·exact h.tail a ha
theorem vO{T:ak}(hT:Sound T){D:List Bool}{n:Nat}{dir:Bool}{out out':List Int}(h:iT T D n dir out)(h':iT T D n dir out'):
  ∀(k:Nat) (x:Nat),(x:Int)<T.nodes→at' out (x:Int)=(k:Int)→0≤at' out' (x:Int)∧at' out' (x:Int)≤at' out (x:Int):=by
 intro k
 induction k using Nat.strongRecOn with
 |_ k ih=>
  intro x hx hk
  rcases h.nm x hx (by omega)with rfl|⟨a,ha,hax,⟨w1,w2,w3⟩,he⟩
  ·rw[h'.root];omega
  ·have hc:=hT.cost a ha
   obtain⟨y,hy⟩:=Int.eq_ofNat_of_zero_le (hT.y dir a ha).1
   have hyn:=(hT.y dir a ha).2
   rw[hy]at w2 w3 he hyn
   obtain⟨j,hj⟩:=Int.eq_ofNat_of_zero_le w2
   have hlt:j<k:=by omega
   have h1:=ih j hlt y hyn hj
   have h2:=h'.closed a ha ⟨w1,by rw[hy];exact h1.1,by rw[hy];exact w3⟩
   rw[hax,hy]at h2
   exact⟨h2.1,by omega⟩
theorem Eh(out:List Int)(x:Nat)(hx:x<out.length):at' out (x:Int)=out[x]:=by
 simp[at',hx]
theorem xi{T:ak}(hT:Sound T){D:List Bool}{n:Nat}{dir:Bool}{out out':List Int}(h:iT T D n dir out)(h':iT T D n dir out'):out=out':=by
 have hl:out.length=out'.length:=by have:=h.len;have:=h'.len;omega
 refine List.ext_getElem hl fun x h1 h2=>?_
 have hx:(x:Int)<T.nodes:=by have:=h.len;omega
 rw[←Eh out x h1,←Eh out' x h2]
 have g1:=h.ge x hx
 have g2:=h'.ge x hx
 by_cases c1:0≤at' out (x:Int)
 ·obtain⟨k,hk⟩:=Int.eq_ofNat_of_zero_le c1
  have a1:=vO hT h h' k x hx hk
  obtain⟨k',hk'⟩:=Int.eq_ofNat_of_zero_le a1.1
  have a2:=vO hT h' h k' x hx hk'
  omega
 ·by_cases c2:0≤at' out' (x:Int)
  ·obtain⟨k,hk⟩:=Int.eq_ofNat_of_zero_le c2
   have a1:=vO hT h' h k x hx hk
   omega
  ·omega
open Classical in
noncomputable def bG(T:ak)(D:List Bool)(n:Nat)(dir:Bool):List Int:=if h:∃out,iT T D n dir out then h.choose else []
theorem kB{T:ak}(hT:Sound T){D:List Bool}{n:Nat}{dir:Bool}{out:List Int}(h:iT T D n dir out):bG T D n dir=out:=by
 unfold bG
 rw[dif_pos ⟨out,h⟩]
 exact xi hT (Exists.choose_spec (⟨out,h⟩:∃out,iT T D n dir out)) h
end Net
end Go.Proofs.YtnegbdpggideiaaGreatDoor
