/- Texts of the proof, part 5. -/
import Derived.Test.YtnegbdpggideiaaGreatDoorCardMLB4
set_option linter.unusedVariables false
set_option linter.unusedSimpArgs false
set_option maxRecDepth 10000
set_option maxHeartbeats 1000000
namespace Go.Proofs.YtnegbdpggideiaaGreatDoor
namespace PW
open Go.RowKit Go.Shelf cE Mem Net fk
attribute [local go_sem] Oper.semAt_some
def Hi(K:St→Prop):Exit→St→Prop
 | .normal,s=>K s
 |_,_=>False
theorem piece{P:Program}{N L n:Nat}{c:Code}{st:St}{K:St→Prop}{F:Nat→Prop}{base:Nat}{E₀ E:Env}{w₀ w:World}{a:Act}{Q:Exit→Act→World→Prop}(hc:oA base L E₀ w₀ E w)(hs:dG F base N st E a w)(h:W P N L c st (Hi K))(hq:∀s E' a' w',K s→dG F base N s E' a' w'→cP E₀ w₀ E' w'→Below base w₀ w'→Q .normal a' w'):c.wpIn Fence.wide n P Q a w:=
 wpIn_wide.2 (wp_mono (h F base E₀ w₀ E a w hc hs) fun e a' w' ⟨s,E',k1,k2,k3,k4⟩=>by
  cases e<;>first|exact hq s E' a' w' k1 k2 k3 k4|exact k1.elim)
def uz:Op→Bool
 | .defer _=>true
 |_=>false
theorem DC{ops:Array Oper}(h:(ops.all fun o=> !uz o.op)=true)(i:Nat)(o:Oper)(ho:ops[i]? =some o)(c:Call):o.op≠ .defer c:=fun e=>by
 have:=Array.all_eq_true'.1 h o (Array.mem_of_getElem? ho)
 rw[e]at this
 cases this
theorem EX{E:Env}{w w':World}{v:Value}{L:List mC}{n₁ G:Nat}(h:cC E w v (.slice L.length (gv L)))(hE:Ext w w')(hG:G=n₁∨E.M G)(hlt:∀b,E.M b→b<w.heap.size)(hn:w'.heap.size=n₁:=by rfl):IQ n₁ G w' v L:=by
 generalize hn1:L.length=m at h
 generalize hxs:gv L=xs at h
 cases h with
 |b7=>exact .inl ⟨none,0,rfl,List.eq_nil_of_length_eq_zero hn1⟩
 |empty a c _=>exact .inl ⟨some a,c,rfl,List.eq_nil_of_length_eq_zero hn1⟩
 |slice b off _ c cs _ h0 h1 h2 hb hM hc hl hr=>
  subst hn1
  subst hxs
  have hz:=hE.size
  refine .inr ⟨b,off,c,rfl,by omega,fun e=>?_,fun i hi=>?_⟩
  ·subst e
   rcases hG with h|h
   ·omega
   ·exact hM h
  ·have key:∀j v,(jj (cu L i))[j]? =some (.raw v)→j<7→w'.cell? ⟨b,off+(i*7+j),none⟩=some v:=fun j v hj h7=>by
    have e:=ei L i j hi h7
    rw[hj]at e
    have hlt:i*7+j<cs.length:=by rw[hl];exact(List.getElem?_eq_some_iff.1 e).1
    have hcs:cs[i*7+j]? =some cs[i*7+j]:=List.getElem?_eq_getElem hlt
    have:=dO (hr _ _ _ hcs e)
    rw[this]at hcs
    exact hE.cell (hc _ _ hcs)
   have k0:=key 0 _ rfl (by omega)
   have k1:=key 1 _ rfl (by omega)
   have k2:=key 2 _ rfl (by omega)
   have k3:=key 3 _ rfl (by omega)
   have k4:=key 4 _ rfl (by omega)
   have k5:=key 5 _ rfl (by omega)
   have k6:=key 6 _ rfl (by omega)
   simp only[←Nat.add_assoc,Nat.add_zero]at k0 k1 k2 k3 k4 k5 k6
   exact⟨k0,k1,k2,k3,k4,k5,k6⟩
theorem uX{P:Program}{F:Fence}{n:Nat}{c:Code}{Q:Exit→Act→World→Prop}{a:Act}{w:World}(Fin:Act→World→Prop)(h1:c.wpIn F n P (Exit.then Fin Q) a w)(h2:∀a' w',Fin a' w'→c.wpIn F n P (Exit.then (fun _ _=>False) Q) a' w'):(Code.loop c).wpIn F n P Q a w:=by
 have mono:∀ {K K':Act→World→Prop} {a:Act} {w:World},(∀a w,K a w→K' a w)→c.wpIn F n P (Exit.then K Q) a w→c.wpIn F n P (Exit.then K' Q) a w:=fun hk h b k cs hro hb hr=>by
  obtain⟨e,a',w',q,r⟩:=h b k cs hro hb hr
  exact⟨e,a',w',by cases e<;>first|exact hk _ _ q|exact q,r⟩
 classical
 by_cases hf:Fin a w
 ·exact wpIn_loop Fin (fun _ _=>0) hf (fun a w h=>mono (fun _ _ h=>h.elim) (h2 a w h))
 ·refine wpIn_loop (fun a' w'=>(a'=a∧w'=w)∨Fin a' w') (fun a' w'=>if Fin a' w' then 0 else 1) (.inl ⟨rfl,rfl⟩) ?_
  rintro a' w' (⟨rfl,rfl⟩|h)
  ·exact mono (fun a'' w'' h=>⟨.inr h,by rw[if_pos h,if_neg hf];exact Nat.one_pos⟩) h1
  ·exact mono (fun _ _ h=>h.elim) (h2 a' w' h)
theorem bT{α:Type}{l:List α}{n:Nat}(h:l.length=n+1):∃a t,l=a::t∧t.length=n:=by
 cases l with
 |nil=>simp at h
 |cons a t=>exact⟨a,t,rfl,by simpa using h⟩
set_option maxRecDepth 100000 in
set_option maxHeartbeats 4000000 in
theorem A3(T:ai)(k x:Int)(hv:ao T=true)(hc:bW T k x=true)(w:World)(vs:Array Value)(hR:aW (EF fun _=>False) w vs.toList [aN T,.slice 1 (cn k x)])(gl:gZ (fun _=>False) w):
  Calls Tryz.prog 60 vs w fun e w'=>∃v,e= .returned (.tuple #[v,.int .i64 0])∧Ext w w'∧w'.ownsRow w.heap.size 4 1 v (2*T.ae.length) ((ay T k x).map Value.bool):=by
 have hll:=bO hv
 have hS:=Sat.start (fun _=>False) w (fun _ h=>h.elim) gl
 refine(callsIn_wide (n:=4)).1 ?_
 refine callsIn_of_wp_marks Tryz.func60 rfl trivial ?_ rfl
 have hs0:=iO (N:=41) hS hR (by have:=hR.1;simp at this;omega)
 have hc0:oA w.heap.size 0 (EF fun _=>False) w (EF fun _=>False) w:=⟨rfl,cP.refl _ _,Below.refl _ _⟩
 refine wpIn_seq (piece (K:=fun s=>s=⟨[(1,.slice 1 (cn k x)),(2,.aX (bw T) 0)],[]⟩) hc0 hs0 ?_ ?_)
 ·skip
  refine aB (.a 3 rfl<|.k [1,2] rfl) ?_
  exact rfl
 rintro _ E1 a1 w1 rfl hs1 g1 b1
 refine wpIn_seq (piece (K:=fun s=>s=⟨[(1,.slice 1 (cn k x)),(2,.aX (bw T) 0)],[]⟩) ⟨rfl,g1,b1⟩ hs1 ?_ ?_)
 ·skip
  refine ab (.a 1 rfl<|.c rfl (ej T) rfl<|.a 1 rfl<|.k [1,2,12] rfl) ?_
  rw[hv]
  refine ah rfl (fun hc=>?_) (fun hc=>?_)
  ·cases hc
  ·refine fp [1,2] rfl (aj ?_)
   exact rfl
 rintro _ E2 a2 w2 rfl hs2 g2 b2
 refine wpIn_seq (piece (K:=fun s=>s=⟨[(1,.slice 1 (cn k x)),(2,.aX (bw T) 0),(6,.ptr 1 0)],[some (.row 4 1 (2*T.ae.length) (bR (List.replicate (2*T.ae.length) false))),some (.cells 22 [.own 0])]⟩) ⟨rfl,g2,b2⟩ hs2 ?_ ?_)
 ·skip
  refine bI<|au 1 rfl<|er rfl (gX T (by omega)) rfl<|cz (dz rfl (bL.rk.get rfl) rfl rfl (show 2*(T.ae.length:Int)=((2*T.ae.length:Nat):Int) by omega) (show 2*(T.ae.length:Int)=((2*T.ae.length:Nat):Int) by omega) ⟨by unfold maxLen;omega,by omega⟩) rfl<|au 2 rfl<|aH [1,2,6] rfl ?_
  rw[←gQ]
  rfl
 rintro _ E3 a3 w3 rfl hs3 g3 b3
 obtain⟨n,hn⟩:∃n,2*T.ae.length=n:=⟨_,rfl⟩
 rw[hn]at hs3
 obtain⟨B,cs1,hB,hBb,hBh,hBr⟩:=hs3.sat.blk 1 _ rfl
 obtain⟨cs0,hrow,hcs0⟩:=hs3.sat.blk 0 _ rfl
 have t1:=hs3.tmp 1 _ rfl
 have t2:=hs3.tmp 2 _ rfl
 have t6:=hs3.tmp 6 _ rfl
 have hsz:=hs3.size
 have hdf:=hs3.j7
 obtain⟨arr,ds⟩:=a3
 simp only at hdf hsz
 subst hdf
 obtain⟨al⟩:=arr
 replace hsz:al.length=41:=by simpa using hsz
 obtain⟨x0,z0,e0,k0⟩:=bT (n:=40) hsz
 obtain⟨x1,z1,e1,k1⟩:=bT (n:=39) k0
 obtain⟨x2,z2,e2,k2⟩:=bT (n:=38) k1
 obtain⟨x3,z3,e3,k3⟩:=bT (n:=37) k2
 obtain⟨x4,z4,e4,k4⟩:=bT (n:=36) k3
 obtain⟨x5,z5,e5,k5⟩:=bT (n:=35) k4
 obtain⟨x6,z6,e6,k6⟩:=bT (n:=34) k5
 obtain⟨x7,z7,e7,k7⟩:=bT (n:=33) k6
 obtain⟨x8,z8,e8,k8⟩:=bT (n:=32) k7
 obtain⟨x9,z9,e9,k9⟩:=bT (n:=31) k8
 obtain⟨x10,z10,e10,k10⟩:=bT (n:=30) k9
 obtain⟨x11,z11,e11,k11⟩:=bT (n:=29) k10
 obtain⟨x12,z12,e12,k12⟩:=bT (n:=28) k11
 obtain⟨x13,z13,e13,k13⟩:=bT (n:=27) k12
 obtain⟨x14,z14,e14,k14⟩:=bT (n:=26) k13
 obtain⟨x15,z15,e15,k15⟩:=bT (n:=25) k14
 obtain⟨x16,z16,e16,k16⟩:=bT (n:=24) k15
 obtain⟨x17,z17,e17,k17⟩:=bT (n:=23) k16
 obtain⟨x18,z18,e18,k18⟩:=bT (n:=22) k17
 obtain⟨x19,z19,e19,k19⟩:=bT (n:=21) k18
 obtain⟨x20,z20,e20,k20⟩:=bT (n:=20) k19
 obtain⟨x21,z21,e21,k21⟩:=bT (n:=19) k20
 obtain⟨x22,z22,e22,k22⟩:=bT (n:=18) k21
 obtain⟨x23,z23,e23,k23⟩:=bT (n:=17) k22
 obtain⟨x24,z24,e24,k24⟩:=bT (n:=16) k23
 obtain⟨x25,z25,e25,k25⟩:=bT (n:=15) k24
 obtain⟨x26,z26,e26,k26⟩:=bT (n:=14) k25
 obtain⟨x27,z27,e27,k27⟩:=bT (n:=13) k26
 obtain⟨x28,z28,e28,k28⟩:=bT (n:=12) k27
 obtain⟨x29,z29,e29,k29⟩:=bT (n:=11) k28
 obtain⟨x30,z30,e30,k30⟩:=bT (n:=10) k29
 obtain⟨x31,z31,e31,k31⟩:=bT (n:=9) k30
 obtain⟨x32,z32,e32,k32⟩:=bT (n:=8) k31
 obtain⟨x33,z33,e33,k33⟩:=bT (n:=7) k32
 obtain⟨x34,z34,e34,k34⟩:=bT (n:=6) k33
 obtain⟨x35,z35,e35,k35⟩:=bT (n:=5) k34
 obtain⟨x36,z36,e36,k36⟩:=bT (n:=4) k35
 obtain⟨x37,z37,e37,k37⟩:=bT (n:=3) k36
 obtain⟨x38,z38,e38,k38⟩:=bT (n:=2) k37
 obtain⟨x39,z39,e39,k39⟩:=bT (n:=1) k38
 obtain⟨x40,z40,e40,k40⟩:=bT (n:=0) k39
 have e41:=List.eq_nil_of_length_eq_zero k40
 subst e41
 subst e40
 subst e39
 subst e38
 subst e37
 subst e36
 subst e35
 subst e34
 subst e33
 subst e32
 subst e31
 subst e30
 subst e29
 subst e28
 subst e27
 subst e26
 subst e25
 subst e24
 subst e23
 subst e22
 subst e21
 subst e20
 subst e19
 subst e18
 subst e17
 subst e16
 subst e15
 subst e14
 subst e13
 subst e12
 subst e11
 subst e10
 subst e9
 subst e8
 subst e7
 subst e6
 subst e5
 subst e4
 subst e3
 subst e2
 subst e1
 subst e0
 clear k0 k1 k2 k3 k4 k5 k6 k7 k8 k9 k10 k11 k12 k13 k14 k15 k16 k17 k18 k19 k20 k21 k22 k23 k24 k25 k26 k27 k28 k29 k30 k31 k32 k33 k34 k35 k36 k37 k38 k39 k40 hsz
 skip
 have e1:Act.eval ⟨⟨[x0,x1,x2,x3,x4,x5,x6,x7,x8,x9,x10,x11,x12,x13,x14,x15,x16,x17,x18,x19,x20,x21,x22,x23,x24,x25,x26,x27,x28,x29,x30,x31,x32,x33,x34,x35,x36,x37,x38,x39,x40]⟩,[]⟩ (.tmp 1)=x1:=rfl
 have e2:Act.eval ⟨⟨[x0,x1,x2,x3,x4,x5,x6,x7,x8,x9,x10,x11,x12,x13,x14,x15,x16,x17,x18,x19,x20,x21,x22,x23,x24,x25,x26,x27,x28,x29,x30,x31,x32,x33,x34,x35,x36,x37,x38,x39,x40]⟩,[]⟩ (.tmp 2)=x2:=rfl
 have e6:Act.eval ⟨⟨[x0,x1,x2,x3,x4,x5,x6,x7,x8,x9,x10,x11,x12,x13,x14,x15,x16,x17,x18,x19,x20,x21,x22,x23,x24,x25,x26,x27,x28,x29,x30,x31,x32,x33,x34,x35,x36,x37,x38,x39,x40]⟩,[]⟩ (.tmp 6)=x6:=rfl
 rw[e1]at t1
 rw[e2]at t2
 rw[e6]at t6
 clear e1 e2 e6
 cases t1 with
 |slice lb lo _ lcap lcs _ _ hl1 hl2 hlb hlM hlc hll' hlr=>
  match lcs,hll',hlc,hlr with
  | [u0,u1],_,hlc,hlr=>
   have hu0:=dO (hlr 0 u0 _ rfl rfl)
   have hu1:=dO (hlr 1 u1 _ rfl rfl)
   subst hu0
   subst hu1
   have l0:=hlc 0 _ rfl
   have l1:=hlc 1 _ rfl
   clear hlc hlr
   cases t2 with
   |aX bt bo off tcs _ htb htM htc htl htr=>
    match tcs,htl,htc,htr with
    | [c0,c1,c2],_,htc,htr=>
     have m0:=htc 0 _ rfl
     have m1:=htc 1 _ rfl
     have m2:=htc 2 _ rfl
     have hT3:aW E3 w3 [c0,c1,c2] (bw T):=⟨rfl,htr⟩
     cases t6 with
     |ptr _ _ B' _ h6=>
      have hBB:B'=B:=by
       rcases h6 with h6|⟨n',c',h6⟩
       ·rw[hB]at h6;cases h6;rfl
       ·rw[hB]at h6;cases h6
      subst hBB
      clear h6
      simp only[Nat.add_zero]at l0 l1 m0 m1 m2 ⊢
      have hcw:=lE T k x
      rw[hc]at hcw
      have E34:Ext w3 (w3.alloc (.cells #[.int .i64 k,.int .i64 x] 33)):=(Ext.refl w3).alloc _
      have hwi:=(callsIn_wide (n:=3)).2 (hcw (fun _=>False) (w3.alloc (.cells #[.int .i64 k,.int .i64 x] 33)) #[.agg #[c0,c1,c2],.agg #[.int .i64 k,.int .i64 x]] (fun _ h=>h.elim) ((hs3.sat.gl.sub (fun _ h=>h.elim)).goes (E:=EF fun _=>False) (E':=EF fun _=>False) (.ext E34)) (aW.cons (.agg _ _ rfl (fun j z u k1 k2=>((hT3.pure (fun _ h=>h.elim):aW (EF fun _=>False) w3 [c0,c1,c2] (bw T)).2 j z u (by simpa using k1) k2).goes (.ext E34))) (aW.cons (.agg _ _ rfl (fun j z u k1 k2=>(aW.cons (.raw _) (aW.cons (.raw _) (aW.nil _ _)):aW (EF fun _=>False) _ [.int .i64 k,.int .i64 x] (cn k x)).2 j z u (by simpa using k1) k2)) (aW.nil _ _))))
      gi_wp2
      refine uX (fun a' w'=>∃(y0 y1 y2 y3 y4 y5 y7 y8 y9 y10 y11 y12 y13 y14 y15 y16 y19 y20 y21 y22 y23 y24 y25 y26 y27 y28 y29 y30 y31 y32 y33 y34 y35 y36 y37 y38 y39 y40:Value) (D:Nat),a'=⟨#[y0,y1,y2,y3,y4,y5,Value.pointer (some ⟨B',0,none⟩),y7,y8,y9,y10,y11,y12,y13,y14,y15,y16,Value.int .i64 1,Value.int .i64 1,y19,y20,y21,y22,y23,y24,y25,y26,y27,y28,y29,y30,y31,y32,y33,y34,y35,y36,y37,y38,y39,y40],[⟨.collected D,#[]⟩]⟩∧lB w.heap.size n B' (E3.at_ 0) E3.M (ay T k x) w'∧Below w.heap.size w w'∧w.heap.size≤D∧w'.heap[D]? =some (.deferred (some []))) ?_ ?_
      ·gi_wp2
       refine⟨trivial,hwi.mono ?_⟩
       rintro e w5 ⟨v5,rfl,hE5,r,rfl,hv5⟩
       cases hv5
       have q0:w5.cell? ⟨bt,bo,none⟩=some c0:=hE5.cell (gO _ m0)
       have q1:w5.cell? ⟨bt,bo+1,none⟩=some c1:=hE5.cell (gO _ m1)
       have q2:w5.cell? ⟨bt,bo+2,none⟩=some c2:=hE5.cell (gO _ m2)
       have q3:w5.cell? ⟨w3.heap.size,0,none⟩=some (.int .i64 k):=hE5.cell (G0 w3 _ _ _).1
       have q4:w5.cell? ⟨w3.heap.size,1,none⟩=some (.int .i64 x):=hE5.cell (G0 w3 _ _ _).2
       gi_wp2
       refine⟨trivial,(CF c0 c1 c2 k x 3 w5).mono ?_⟩
       rintro e w6 ⟨rfl,rfl⟩
       gi_wp2
       have E35:Ext w3 w5:=E34.trans hE5
       have hz5:=E35.size
       have E56:Ext w5 ((w5.alloc (.cells #[c0,c1,c2] 25)).alloc (.cells #[.int .i64 k,.int .i64 x] 33)):=((Ext.refl w5).alloc _).alloc _
       have hz6:((w5.alloc (.cells #[c0,c1,c2] 25)).alloc (.cells #[.int .i64 k,.int .i64 x] 33)).heap.size=w5.heap.size+2:=by simp
       have p2:((w5.alloc (.cells #[c0,c1,c2] 25)).alloc (.cells #[.int .i64 k,.int .i64 x] 33)).cell? ⟨w5.heap.size,2,none⟩=some c2:=gO _ (JG w5 _ _ _ _)
       have p3:((w5.alloc (.cells #[c0,c1,c2] 25)).alloc (.cells #[.int .i64 k,.int .i64 x] 33)).cell? ⟨w5.heap.size+1,0,none⟩=some (.int .i64 k):=by
        have:=(G0 (w5.alloc (.cells #[c0,c1,c2] 25)) (.int .i64 k) (.int .i64 x) 33).1
        rwa [World.size_alloc]at this
       have p4:((w5.alloc (.cells #[c0,c1,c2] 25)).alloc (.cells #[.int .i64 k,.int .i64 x] 33)).cell? ⟨w5.heap.size+1,1,none⟩=some (.int .i64 x):=by
        have:=(G0 (w5.alloc (.cells #[c0,c1,c2] 25)) (.int .i64 k) (.int .i64 x) 33).2
        rwa [World.size_alloc]at this
       generalize (w5.alloc (.cells #[c0,c1,c2] 25)).alloc (.cells #[.int .i64 k,.int .i64 x] 33)=w6 at*
       have E36:Ext w3 w6:=E35.trans E56
       obtain⟨hU3,hone⟩:=lB.of hs3.sat hB
       have hU6:lB w.heap.size n B' (E3.at_ 0) E3.M (List.replicate n false) w6:=hU3.same E36.size (fun b cs t fz hb=>E36.block b (Array.getElem?_eq_some_iff.1 hb).1)
       have hL3:E3.L=2:=hs3.sat.len
       obtain⟨G,hGv,hGM⟩:∃G,(∀b,bp (E3.at_ 0)=some b→b=G)∧(G=w6.heap.size∨E3.M G):=by
        cases hbo:bp (E3.at_ 0)with
        |none=>exact⟨_,fun b h=>(by cases h),.inl rfl⟩
        |some g=>exact⟨g,fun b h=>(by cases h;rfl),.inr ((hs3.sat.mm g).2 (.inr ⟨0,_,rfl,hbo⟩))⟩
       have hlk:=EX (n₁:=w6.heap.size) (hT3.2 2 c2 _ rfl rfl) E36 hGM (fun b hb=>hs3.sat.lt hb)
       have hGc:w5.heap.size+1≠G:=by
        rcases hGM with h|h
        ·omega
        ·have:=hs3.sat.lt h;omega
       have hk3:k=1∨k=2∨k=3:=by
        unfold bW at hc
        split at hc
        ·exact .inl ‹_›
        ·split at hc
         ·exact .inr (.inl ‹_›)
         ·split at hc
          ·exact .inr (.inr ‹_›)
          ·cases hc
       refine wpIn_rangeFunc_ownF (α:=fk.Ix T.ae.length) rfl (by omega) (gf:=160) (lb:= #[.pointer (some ⟨w5.heap.size,0,none⟩),.pointer (some ⟨w5.heap.size+1,0,none⟩)]) rfl trivial (enters_of Tryz.func160 (by kernel_rfl) rfl)
        (encs:=fun i=> #[Value.int .i64 (i.1:Int)]) (we T k x hk3 (by omega) 3 w5.heap.size (w5.heap.size+1) G (by omega) c2 w6 (by omega) (by omega) hGc p2 p3 p4 hlk) (fun h1 h2=>h1.trans h2) (fun W l o o' hl ho _ _=>⟨(grownBy_putObj' W l o').size,fun b h1 _=>(grownBy_putObj' W l o').block b (by have:=(Array.getElem?_eq_some_iff.1 ho).1;omega) (fun e=>by cases e;omega)⟩) (Below.refl _ _) (fun _=>rfl)
        (fun l W=>lB w.heap.size n B' (E3.at_ 0) E3.M (BX n l) W∧Kp G w6.heap.size w6 W∧Below w.heap.size w W) (fun _ _ _=>False)
        (fun s W W' row hs hg hr=>⟨hs.1.grown hg (fun r e=>(hr r e).2),⟨Nat.le_trans hs.2.1.size hg.size,fun b h1 h2=>(hg.block b (by have:=hs.2.1.size;omega) (fun e=>by have:=(hr b e.symm).1;omega)).trans (hs.2.1.block b h1 h2)⟩,hs.2.2.trans ⟨hg.os,hg.tape,hg.output,hg.size,fun b h1=>hg.block b (by have:=hs.1.bl;omega) (fun e=>by have:=(hr b e.symm).1;have:=hU6.bl;omega)⟩⟩)
        (fun _ _ _ _ _ h _ _=>h) ⟨hU6,Kp.refl _ _ _,b3.trans (Below.iy E36 hs3.sat.bl)⟩
        (fun i=>⟨#[x0,Value.slice (some ⟨lb,lo,none⟩) 1 lcap,Value.pointer (some ⟨bt,bo,none⟩),x3,x4,x5,Value.pointer (some ⟨B',0,none⟩),x7,Value.pointer (some ⟨w3.heap.size,0,none⟩),Value.int .i64 (i.1:Int),x10,x11,x12,x13,x14,x15,Value.slice (some ⟨lb,lo,none⟩) 1 lcap,Value.int .i64 1,Value.int .i64 0,Value.bool true,Value.pointer (some ⟨lb,lo,none⟩),Value.agg #[.int .i64 k,.int .i64 x],Value.agg #[c0,c1,c2],Value.agg #[.int .i64 k,.int .i64 x],Value.bool true,Value.bool false,Value.agg #[c0,c1,c2],Value.agg #[.int .i64 k,.int .i64 x],Value.func (.func 160) #[] #[.pointer (some ⟨w5.heap.size,0,none⟩),.pointer (some ⟨w5.heap.size+1,0,none⟩)],Value.int .i64 (i.1:Int),x30,x31,x32,x33,x34,x35,x36,x37,x38,x39,x40],[]⟩) ?assign ?body ?done ?stop
       case assign=>
        intro l i W K hK
        gi_wp2
        exact hK
       case body=>
        rintro l pre i W ⟨hU,hK,hb⟩ hlt
        have hMl:=uh (n:=n) pre
        have hi2:=i.2
        have hb11:=H4 (BX n pre) i.1 (by rw[hMl];omega) (by rw[hMl];omega)
        rw[hMl,←wj]at hb11
        have hUd:lB w.heap.size n B' (E3.at_ 0) E3.M (BX n pre) {W with drawn:=W.drawn+1}:=hU.same (Nat.le_refl _) (fun _ _ _ _ _=>rfl)
        have hsat:=hUd.sat hs3.sat rfl ⟨_,_,_,_,rfl⟩ hB hBb hone
        refine wpIn_block (wpIn_region_any mixed (jn (fun j o ho c=>?_) ?_ _ _ _ _ (hb11.any (fun _=>False) w.heap.size E3 {W with drawn:=W.drawn+1} E3 _ {W with drawn:=W.drawn+1} ⟨hL3,cP.refl _ _,Below.refl _ _⟩ ⟨hsat,?_,rfl,rfl⟩ _ ?_)))
        ·exact DC (by kernel_rfl) j o ho c
        ·rintro⟨a',w',h⟩
         exact h
        ·intro k' p' hk'
         simp only[look,Bool.cond_eq_ite]at hk'
         split at hk'
         ·rename_i he
          have:=Nat.eq_of_beq_eq_true he
          subst this
          cases hk'
          exact .ptr 1 0 B' (by omega) (.inl hB)
         ·split at hk'
          ·rename_i he
           have:=Nat.eq_of_beq_eq_true he
           subst this
           cases hk'
           exact .raw _
          ·cases hk'
        ·rintro a' w' ⟨⟨t',σ'⟩,E',hσ,hs',hg',hb'⟩
         simp only at hσ
         subst hσ
         have hB'2:E'.at_ 1= .pointer (some ⟨B',0,none⟩):=(hg'.at_ 1 (by omega)).trans hB
         have hv':E'.at_ 0=E3.at_ 0:=hg'.at_ 0 (by omega)
         obtain⟨hU',_⟩:=lB.of hs'.sat hB'2
         rw[hv']at hU'
         have hMM:∀b,E3.M b→E'.M b:=fun b hb=>by
          rcases(hs3.sat.mm b).1 hb with h|⟨j,blk,h1,h2⟩
          ·exact h.elim
          ·match j,h1 with
           |0,_=>exact(hs'.sat.mm b).2 (.inr ⟨0,_,rfl,by rw[hv'];exact h2⟩)
           |1,_=>exact(hs'.sat.mm b).2 (.inr ⟨1,_,rfl,by rw[hg'.at_ 1 (by omega)];exact h2⟩)
           |_+2,h1=>simp at h1
         have hown:∀b,E3.M b→bp (E3.at_ 0)=some b∨b=B':=fun b hb=>by
          rcases(hs3.sat.mm b).1 hb with h|⟨j,blk,h1,h2⟩
          ·exact h.elim
          ·match j,h1 with
           |0,_=>exact .inl h2
           |1,_=>rw[hB]at h2;cases h2;exact .inr rfl
           |_+2,h1=>simp at h1
         have hfin:lB w.heap.size n B' (E3.at_ 0) E3.M (BX n (pre++[i])) w':=⟨hU'.bl,hU'.row,hU'.box,hU'.gl.sub hMM⟩
         have hzW:w6.heap.size≤W.heap.size:=hK.size
         have hkp:Kp G w6.heap.size W w':=⟨hg'.size,fun b h1 h2=>by
          by_cases hm:E3.M b
          ·rcases hown b hm with h|h
           ·exact absurd (hGv b h) h2
           ·rw[h,hU'.box,hU.box]
          ·exact hg'.heap b (show b<W.heap.size by omega) hm⟩
         refine⟨⟨hg'.size,fun b o hb ho=>?_⟩,hkp,hfin,hK.trans hkp,hb.trans ⟨hb'.os,hb'.tape,hb'.output,hb'.size,hb'.block⟩⟩
         have hnm:¬E3.M b:=fun hm=>by
          rcases hown b hm with h|h
          ·rcases hU.row.2 with⟨h1,_⟩|⟨g,cap,cur,h1,_,h3,_⟩
           ·rw[h1]at h;cases h
           ·rw[h1]at h
            cases h
            rw[h3]at hb
            cases hb
            cases ho
          ·rw[h,hU.box]at hb
           cases hb
           cases ho
         rw[hg'.heap b (Array.getElem?_eq_some_iff.1 hb).1 hnm]
         exact hb
       case done=>
        rintro D ys W hD rfl ⟨hU,hK,hb⟩ hDh
        have hmk:BX n (kO (cB k x T.ae) T.ae.length T.ae.length)=ay T k x:=by rw[←hn];exact FQ T k x
        rw[hmk]at hU
        gi_wp2
        exact⟨_,_,_,_,_,_,_,_,_,_,_,_,_,_,_,_,_,_,_,_,_,_,_,_,_,_,_,_,_,_,_,_,_,_,_,_,_,_,D,rfl,hU,hb,by have:=hU6.bl;omega,hDh⟩
       case stop=>
        rintro D c pre W _ _ h _
        exact h.elim
      ·rintro a' w' ⟨y0,y1,y2,y3,y4,y5,y7,y8,y9,y10,y11,y12,y13,y14,y15,y16,y19,y20,y21,y22,y23,y24,y25,y26,y27,y28,y29,y30,y31,y32,y33,y34,y35,y36,y37,y38,y39,y40,D,rfl,hU,hb,hD,hDh⟩
       have hbx:w'.cell? ⟨B',0,none⟩=some (E3.at_ 0):=by
        unfold World.cell?
        simp only[hU.box]
        rfl
       gi_wp2
       have hput:=grownBy_putObj' w' D (.deferred none)
       have hnd:∀(g:Nat) (o:Array Value) (e:TypeId),w'.heap[g]? =some (Obj.cells o e (0,0))→(w'.putObj D (.deferred none)).heap[g]? =w'.heap[g]? :=fun g o e hg=>hput.block g (Array.getElem?_eq_some_iff.1 hg).1 (fun h=>by cases h;rw[hDh]at hg;cases hg)
       refine⟨by simp,.inl ⟨_,_,rfl,run_takeDeferred hDh,?_⟩⟩
       rw[hn]
       exact⟨_,results_tmp2 rfl _ _ _,E3.at_ 0,rfl,hb.trans ⟨hput.os,hput.tape,hput.output,hput.size,fun b h1=>hput.block b (by have:=hU.bl;omega) (fun h=>by cases h;omega)⟩,wc hU.row (fun g o hg=>hnd g o _ hg)⟩
end PW
end Go.Proofs.YtnegbdpggideiaaGreatDoor
namespace Go.Proofs.YtnegbdpggideiaaGreatDoor
namespace PW
open Go.RowKit cE Mem Net fk
theorem Can.JP{P:Program}{f:FuncId}{ps:List PV}{R:PV→cf→Prop}{S:PV→Prop}(h:bU P f ps [] R)(hR:∀r σ',R r σ'→∃q,aC σ' r q∧S q):Can P f ps S:=fun F w vs hF hG hr=>by
 refine(h F w.heap.size (EF F) w vs (Sat.start F w hF hG) hr).mono ?_
 rintro e w' ⟨v,r,σ',E',rfl,h1,h2,h3,h4,h5⟩
 obtain⟨q,k1,k2⟩:=hR r σ' h1
 exact⟨v,rfl,h4,q,k2,k1.rep h2 (fun b hb=>(h2.mm b).2 (.inl hb)) (fun b hb=>(h2.fb b hb).2) v h5⟩
theorem yL(T:ai)(k x:Int)(hv:ao T=true)(hc:bW T k x=true):bU Tryz.prog 60 [aN T,.slice 1 (cn k x)] [] (fun r σ'=>r= .tuple [.own 0,num 0]∧σ'=[some (.row 4 1 (2*T.ae.length) (bR (ay T k x)))]):=fun F base E w vs hS hR=>by
 refine(A3 T k x hv hc w vs (hR.pure (fun _ h=>h.elim)) (hS.gl.sub fun _ h=>h.elim)).mono ?_
 rintro e w' ⟨v,rfl,hE,hrow⟩
 have hrow2:w'.ownsRow base 4 1 v (2*T.ae.length) ((ay T k x).map Value.bool):=⟨hrow.1,hrow.2.imp id fun⟨g,cap,cur,h1,h2,h3⟩=>⟨g,cap,cur,h1,Nat.le_trans hS.bl h2,h3⟩⟩
 have hnew:∀b,bp v=some b→w.heap.size≤b∧b<w'.heap.size:=fun b hb=>by
  rcases hrow.2 with⟨h1,_⟩|⟨g,cap,cur,h1,h2,h3,_⟩
  ·rw[h1]at hb;cases hb
  ·rw[h1]at hb
   cases hb
   exact⟨h2,(Array.getElem?_eq_some_iff.1 h3).1⟩
 have hone:v.oneCell'=true:=by
  rcases hrow.2 with⟨h1,_⟩|⟨g,cap,cur,h1,h2,h3,_⟩<;>rw[h1]<;>rfl
 have hL:E.L=0:=hS.len
 have hp:=hS.push hE (v:=v) (blk:=.row 4 1 (2*T.ae.length) (bR (ay T k x))) (fun b h=>(hnew b h).1) ⟨_,hrow2,oU _⟩
 refine⟨_,_,_,E.push v,rfl,⟨rfl,rfl⟩,hp.1,hp.2,Below.iy hE hS.bl,.tuple _ _ rfl (fun i c u h1 h2=>?_)⟩
 match i,h1,h2 with
 |0,h1,h2=>
  simp at h1 h2
  subst h1
  subst h2
  exact .own 0 (by show 0<E.L+1;omega) _ (by simp[Env.push,hL]) hone
 |1,h1,h2=>
  simp at h1 h2
  subst h1
  subst h2
  exact .raw _
 |_+2,h1,h2=>simp at h2
def dM(T:ai)(k x:Int):Int:=if(ao T&&bW T k x)=true then 0 else 1
def ig(e:Int)(L:List Bool):PV:=.tuple [aY (if e=0 then L else []),num e]
theorem eF(T:ai)(k x:Int):(ay T k x).length=2*T.ae.length:=by simp[ay]
theorem xz(T:ai)(k x:Int)(hno:(ao T&&bW T k x)=false):Can Tryz.prog 60 [aN T,.slice 1 (cn k x)] (· =ig 1 []):=by
 refine aG Tryz.func60 rfl Tryz.ntmps60 rfl<|ab (.a 3 rfl<|.k [1,2] rfl)<|ak<|ab (.a 1 rfl<|.c rfl (ej T) rfl<|.a 1 rfl<|.k [1,2,12] rfl)<|ah rfl (fun h1=>?_) (fun h1=>?_)
 ·skip
  exact ab (.a 2 rfl<|.k [4,5] rfl)<|aq<|⟨_,_,az.of rfl,aC.bz (an.cons aC.b7 (an.cons aC.pure an.nil)),rfl⟩
 ·have hv:ao T=true:=by simpa using h1
  have hc:bW T k x=false:=by rw[hv,Bool.true_and]at hno;exact hno
  have hll:=bO hv
  have hcw:=lE T k x
  rw[hc]at hcw
  refine aj<|aR<|au 1 rfl<|er rfl (gX T (by omega)) rfl<|cz (dz rfl (bL.rk.get rfl) rfl rfl (show 2*(T.ae.length:Int)=((2*T.ae.length:Nat):Int) by omega) (show 2*(T.ae.length:Int)=((2*T.ae.length:Nat):Int) by omega) ⟨by unfold maxLen;omega,by omega⟩) rfl<|au 2 rfl<|aH [1,2,6] rfl ?_
  refine ak<|ab (.a 3 rfl<|.k [2,6,16,17,18] rfl)<|av<|fp [2,6,16,17,18] rfl<|bq (fun r st=>st=⟨[(2,.aX (bw T) 0),(6,.ptr 1 0),(16,.slice 1 (cn k x)),(17,num 1),(18,num 0)],[some (.row 4 1 (2*T.ae.length) (dv [.raw (.bool false)] (2*T.ae.length))),some (.cells 22 [.own 0])]⟩) 0 rfl ?_
  rintro r st rfl
  refine ab (.a 1 rfl<|.k [2,6,16,17,18,19] rfl)<|ak<|ah rfl (fun h2=>?_) (fun h2=>?_)
  ·skip
   refine aj<|ak<|av<|aR<|bE (aM (0) rfl) rfl<|bE (iF rfl ((show((cn k x).drop 0).take 2=cn k x from rfl)) rfl) rfl<|au 2 rfl<|aH [2,6,8,16,17,18] rfl ?_
   refine ak<|ab (.a 2 rfl<|.c rfl (hcw) rfl<|.a 1 rfl<|.k [2,6,8,16,17,18,25] rfl)<|ah rfl (fun h3=>?_) (fun h3=>?_)
   ·skip
    exact ab (.a 2 rfl<|.k [4,5] rfl)<|aq<|⟨_,_,az.of rfl,aC.bz (an.cons aC.b7 (an.cons aC.pure an.nil)),rfl⟩
   ·exact absurd h3 (by decide)
  ·exact absurd h2 (by decide)
theorem s4(T:ai)(k x:Int)(hv:ao T=true)(hc:bW T k x=true):bU Tryz.prog 16 [aN T,bS k x] [] (fun r σ'=>r= .tuple [.own 0,num 0]∧σ'=[some (.row 4 1 (2*T.ae.length) (bR (ay T k x)))]):=by
 refine cr Tryz.func16 rfl Tryz.ntmps16 rfl<|ab (.a 4 rfl<|.k [2,3] rfl)<|aR<|au 3 rfl<|cQ rfl rfl (bU.mono (yL T k x hv hc) (fun r σ' h=>?_))
 obtain⟨rfl,rfl⟩:=h
 refine au 4 rfl<|aH [4,5] rfl ?_
 exact aq<|⟨_,az.of rfl,rfl,rfl⟩
theorem lD(T:ai)(k x:Int):Can Tryz.prog 16 [aN T,bS k x] (· =ig (dM T k x) (ay T k x)):=by
 cases hno:(ao T&&bW T k x)with
 |true=>
  obtain⟨hv,hc⟩:=Bool.and_eq_true_iff.1 hno
  refine Can.JP (s4 T k x hv hc) ?_
  rintro r σ' ⟨rfl,rfl⟩
  refine⟨_,aC.bz (an.cons (aC.fu rfl an.pure) (an.cons aC.pure an.nil)),?_⟩
  unfold ig dM aY
  rw[if_pos hno,if_pos rfl,eF]
 |false=>
  have he:dM T k x=1:=by unfold dM;rw[if_neg (by rw[hno];simp)]
  rw[he]
  exact aG Tryz.func16 rfl Tryz.ntmps16 rfl<|ab (.a 4 rfl<|.k [2,3] rfl)<|ab (.a 3 rfl<|.c rfl (xz T k x hno) rfl<|.a 4 rfl<|.k [4,5] rfl)<|aq<|⟨_,_,az.of rfl,aC.pure,rfl⟩
end PW
end Go.Proofs.YtnegbdpggideiaaGreatDoor
namespace Go.Proofs.YtnegbdpggideiaaGreatDoor
namespace PW
open Go.RowKit cE Mem
section
variable {P:Program} {N L:Nat} {ops:Array Oper}
theorem WA.mono:∀ {n:Nat} {ls:Array Bool} {st:St} {K K':St→Prop},WA P N L ops n ls st K→(∀s,K s→K' s)→WA P N L ops n ls st K'
 |0,_,_,_,_,h,hk=>⟨h.1,hk _ h.2⟩
 |_+1,_,_,_,_,h,hk=>⟨h.1,fun i hi=>by
   obtain⟨o,h1,h2,h3⟩:=h.2 i hi
   exact⟨o,h1,h2,h3.mono fun s hs=>WA.mono hs hk⟩⟩
theorem qw{id:Nat}{l:List Oper}{y:Code}{st:St}{Q:Exit→St→Prop}(t':bZ)(σ':cf)(hm:P.follows .mixedOrders=true)(h:WA P N L l.toArray l.length (Array.replicate l.length false) st (fun s=>s.σ=σ'∧Sub s.t t'))(hq:W P N L y ⟨t',σ'⟩ Q):W P N L (.seq (.region id l.toArray true) y) st Q:=
 oP hm (h.mono fun s hs=>by
  obtain⟨t,σ⟩:=s
  obtain⟨h1,h2⟩:=hs
  subst h1
  exact kG h2 hq)
theorem Sat.seal{F:Nat→Prop}{base:Nat}{σ:cf}{E:Env}{w:World}(hS:Sat F base σ E w){i e s n:Nat}{xs:List PV}(hi:σ[i]? =some (some (.row e s n xs))){v:Value}(hv:cC E w v (.own i)):cC (E.kill i) w v (.slice n xs):=by
 obtain⟨_,g⟩:=hS.kill i hi
 cases hv with
 |own _ hiL _ h _=>
  obtain⟨cs,k1,k2⟩:=hS.blk i _ hi
  rw[h]at k1
  have k3:=k1
  rcases k1.2 with⟨rfl,h0⟩|⟨b,cap,cur,rfl,hb,hg,hn,hc,hs',ht⟩
  ·subst h0
   have:xs=[]:=by
    have:=k3.1;simp at this;subst this
    exact List.eq_nil_of_length_eq_zero k2.1.symm
   subst this
   exact .b7
  ·by_cases h0:n=0
   ·subst h0
    have:xs=[]:=by
     have:=k3.1;simp at this;subst this
     exact List.eq_nil_of_length_eq_zero k2.1.symm
    subst this
    exact .empty _ _ hc
   ·refine .slice b 0 n cap cs xs (by omega) hn hc (Array.getElem?_eq_some_iff.1 hg).1 (fun hM=>hM.2 (by rw[h];rfl)) (fun j x hx=>?_) k2.1 (fun j x u h1 h2=>(k2.2 j x u h1 h2).goes g)
    have:=k3.cells (g:=b) rfl j x hx
    rw[Addr.add_lit]at this
    exact this
theorem DJ{c:Code}{t:bZ}{σ:cf}{Q:Exit→St→Prop}(k i:Nat){e s n:Nat}{xs:List PV}(hk:look k t=some (.own i))(hi:σ[i]? =some (some (.row e s n xs)))(h:W P N L c ⟨(k,.slice n xs)::t,σ.set i none⟩ Q):W P N L c ⟨t,σ⟩ Q:=fun F base E₀ w₀ E a w hc hs=>by
 obtain⟨a1,a2⟩:=hs.sat.kill i hi
 exact h F base E₀ w₀ _ a w (hc.on a2 (Below.refl _ _)) ⟨a1,(hs.tmp.goes a2).Cy (hs.sat.seal hi (hs.tmp k _ hk)),hs.j7,hs.size⟩
theorem fT{c:Code}{t:bZ}{σ:cf}{Q:Exit→St→Prop}(k i off:Nat){ty:TypeId}{xs:List PV}(hk:look k t=some (.ptr i off))(hi:σ[i]? =some (some (.cells ty xs)))(h:W P N L c ⟨(k,.aX xs off)::t,σ.set i none⟩ Q):W P N L c ⟨t,σ⟩ Q:=fun F base E₀ w₀ E a w hc hs=>by
 obtain⟨a1,a2⟩:=hs.sat.kill i hi
 have hv:=hs.tmp k _ hk
 obtain⟨b,cs,h1,h2,h3,h4⟩:=hs.sat.blk i _ hi
 have hp:cC (E.kill i) w (a.eval (.tmp k)) (.aX xs off):=by
  generalize a.eval (.tmp k)=z at hv
  cases hv with
  |ptr _ _ b' hi' h=>
   have hb:b'=b:=by
    rcases h with h|⟨n,c,h⟩<;>rw[h1]at h<;>cases h
    rfl
   subst hb
   have:=cC.aX (E:=E.kill i) (w:=w) b' 0 off cs.toList xs (Array.getElem?_eq_some_iff.1 h3).1 (fun hM=>hM.2 (by rw[h1];rfl)) (fun j x hx=>by rw[Nat.zero_add];unfold World.cell?;simp only[h3];simpa using hx) h4.1 (fun j x u k1 k2=>(h4.2 j x u k1 k2).goes a2)
   rw[Nat.zero_add]at this
   exact this
 exact h F base E₀ w₀ _ a w (hc.on a2 (Below.refl _ _)) ⟨a1,(hs.tmp.goes a2).Cy hp,hs.j7,hs.size⟩
end
end PW
end Go.Proofs.YtnegbdpggideiaaGreatDoor
namespace Go.Proofs.YtnegbdpggideiaaGreatDoor
namespace PW
open Go.RowKit cE Mem Net
theorem eu(n lo hi:Int):Can Tryz.prog 116 [num n,num lo,num hi] (· =flag (bQ n lo hi)):=by
 obtain⟨p1,hp1⟩:∃q,decide (lo≤n)=q:=⟨_,rfl⟩
 obtain⟨p2,hp2⟩:∃q,decide (n≤hi)=q:=⟨_,rfl⟩
 have he:bQ n lo hi=(p1&&p2):=by rw[←hp1,←hp2];unfold bQ;exact Bool.decide_and _ _
 rw[he]
 refine aG Tryz.func116 rfl Tryz.ntmps116 rfl<|ab (.a 1 rfl<|.k [0,1,2] rfl)<|bu 6 (.raw (.bool (p1&&p2))) [] rfl ?_ ?_
 ·refine .a 2 rfl<|.v (cg rfl (hp1)) rfl<|.a 1 rfl<|?_
  cases p1
  ·exact .a 5 rfl<|.k [6] rfl
  ·exact .a 2 rfl<|.v (cg rfl (hp2)) rfl<|.a 2 rfl<|.k [6] rfl
 exact aq<|⟨_,_,az.of rfl,aC.pure,rfl⟩
set_option maxHeartbeats 2000000 in
theorem gJ(T:ai):Can Tryz.prog 58 [aN T] (· =flag (ao T)):=by
  obtain⟨p0,hp0⟩:∃q,bQ T.nodes 1 64=q:=⟨_,rfl⟩
  obtain⟨p1,hp1⟩:∃q,decide ((T.over.length:Int)≠0)=q:=⟨_,rfl⟩
  obtain⟨p2,hp2⟩:∃q,decide ((T.over.length:Int)≠T.nodes)=q:=⟨_,rfl⟩
  obtain⟨p3,hp3⟩:∃q,decide (256<(T.ae.length:Int))=q:=⟨_,rfl⟩
  have hw:Can Tryz.prog 116 [num T.nodes,num 1,num 64] (· =flag p0):=by rw[←hp0];exact eu _ _ _
  refine aG Tryz.func58 rfl Tryz.ntmps58 rfl<|ab (.a 2 rfl<|.k [1] rfl)<|ak<|bu 28 (.raw (.bool (((!p0)||(p1&&p2))||p3))) [1] rfl ?_ ?_
  · refine .a 2 rfl<|.c rfl (hw) rfl<|.a 2 rfl<|?_
    cases p0
    · exact .a 19 rfl<|.k [28,1] rfl
    · refine .a 3 rfl<|.v (cg rfl (hp1)) rfl<|.a 1 rfl<|?_
      cases p1
      · exact .a 12 rfl<|.v (cg rfl (hp3)) rfl<|.a 1 rfl<|.k [28,1] rfl
      · refine .a 5 rfl<|.v (cg rfl (hp2)) rfl<|.a 3 rfl<|?_
        cases p2
        · exact .a 3 rfl<|.v (cg rfl (hp3)) rfl<|.a 1 rfl<|.k [28,1] rfl
        · exact .a 5 rfl<|.k [28,1] rfl
  refine ah rfl (fun hc=>?_) (fun hc=>?_)
  · have hv:ao T=false:=by
      rcases Bool.or_eq_true_iff.1 hc with h|h
      · rcases Bool.or_eq_true_iff.1 h with h|h
        · exact(gF T (.inl (by rw[hp0];simpa using h))).symm
        · obtain⟨a1,a2⟩:=Bool.and_eq_true_iff.1 h
          rw[a1]at hp1
          rw[a2]at hp2
          exact(gF T (.inr (.inr ⟨by have:=tt hp1;omega,tt hp2⟩))).symm
      · rw[h]at hp3;exact(gF T (.inr (.inl (by have:=tt hp3;omega)))).symm
    rw[hv]
    exact ab (.a 1 rfl<|.k [2] rfl)<|aq<|⟨_,_,az.of rfl,aC.pure,rfl⟩
  · obtain ⟨c1, c2⟩ := Bool.or_eq_false_iff.1 hc
    obtain⟨c1,c3⟩:=Bool.or_eq_false_iff.1 c1
    have h0:p0=true:=by simpa using c1
    rw[h0]at hp0
    rw[c2]at hp3
    have hle:T.ae.length≤256:=by have:=ff hp3;omega
    have hov:T.over.length=0∨(T.over.length:Int)=T.nodes:=by
      rcases Bool.and_eq_false_iff.1 c3 with h|h
      · rw[h]at hp1;exact .inl (by have:=ff hp1;omega)
      · rw[h]at hp2;exact .inr (by have:=ff hp2;omega)
    rw[pW T hp0 hle hov]
    have hnd:=nD hp0
    clear hw hc c1 c3 hp1 hp2
    refine aj<|ak<|ab (.a 1 rfl<|.k [1,3] rfl)<|av<|fp [1,3] rfl<|bq (fun r s=>∃k,k≤T.ae.length∧r=T.ae.length - k∧(T.ae.take k).all (ic T)=true∧s=⟨[(1,.aX (bw T) 0),(3,num k)],[]⟩) T.ae.length ⟨0,by omega,by omega,by simp,rfl⟩ ?_
    rintro r s ⟨k,hk,rfl,hall,rfl⟩
    refine ak<|ab (.a 5 rfl<|.k [1,3,33] rfl)<|ah rfl (fun hc=>?_) (fun hc=>?_)
    · have hlt:k<T.ae.length:=by have:=tt hc;omega
      obtain⟨q1,g1⟩:∃q,decide ((cu T.ae k).a=(cu T.ae k).b)=q:=⟨_,rfl⟩
      obtain⟨q2,g2⟩:∃q,bn T (cu T.ae k).a=q:=⟨_,rfl⟩
      obtain⟨q3,g3⟩:∃q,bn T (cu T.ae k).b=q:=⟨_,rfl⟩
      obtain⟨q4,g4⟩:∃q,bQ (cu T.ae k).c0 1 65535=q:=⟨_,rfl⟩
      obtain⟨q5,g5⟩:∃q,bQ (cu T.ae k).c1 1 65535=q:=⟨_,rfl⟩
      obtain⟨q6,g6⟩:∃q,bQ (cu T.ae k).cap 0 1048576=q:=⟨_,rfl⟩
      obtain⟨q7,g7⟩:∃q,bQ (cu T.ae k).eX 1 65536=q:=⟨_,rfl⟩
      obtain⟨q8,g8⟩:∃q,bQ (cu T.ae k).tE 0 64=q:=⟨_,rfl⟩
      have hOK:=sc (T:=T) (l:=cu T.ae k) (q1:=q1) (by rw[←g1];exact Bool.eq_iff_iff.2 (by simp)) g2 g3 g4 g5 g6 g7 g8
      have hall':=xc (ic T) T.ae k hlt
      have hno:=vS (ic T) T.ae k hlt
      rw[hOK]at hall' hno
      have n2:=eu (cu T.ae k).a 0 (T.nodes - 1)
      rw[o7,g2]at n2
      have n3:=eu (cu T.ae k).b 0 (T.nodes - 1)
      rw[o7,g3]at n3
      have n4:=eu (cu T.ae k).c0 1 65535
      rw[g4]at n4
      have n5:=eu (cu T.ae k).c1 1 65535
      rw[g5]at n5
      have n6:=eu (cu T.ae k).cap 0 1048576
      rw[g6]at n6
      have n7:=eu (cu T.ae k).eX 1 65536
      rw[g7]at n7
      have n8:=eu (cu T.ae k).tE 0 64
      rw[g8]at n8
      clear hOK g2 g3 g4 g5 g6 g7 g8
      refine aj<|ak<|av<|aR<|au 3 rfl<|bE (aM (k*7) rfl) rfl<|bE (iF rfl (CS T.ae k hlt) rfl) rfl<|au 2 rfl<|aH [1,3,4] rfl ?_
      refine fT 4 0 0 rfl rfl ?_
      refine dp [] (.c 1<|.c 3<|.c 4 .nil) .nil rfl rfl ?_
      refine ak<|bu 77 (.raw (.bool (((((!q2)|| !q3)||q1)|| !q4)|| !q5))) [1,3,4] rfl ?_ ?_
      · refine .a 4 rfl<|.v (aT rfl) rfl<|.c rfl (n2) rfl<|.a 2 rfl<|?_
        cases q2
        · exact .a 29 rfl<|.k [77,1,3,4] rfl
        · refine .a 4 rfl<|.v (aT rfl) rfl<|.c rfl (n3) rfl<|.a 3 rfl<|?_
          cases q3
          · exact .a 20 rfl<|.k [77,1,3,4] rfl
          · refine .a 4 rfl<|.v (cg rfl (g1)) rfl<|.a 2 rfl<|?_
            cases q1
            · refine .a 1 rfl<|.v (aM (0) rfl) rfl<|.a 1 rfl<|.c rfl (n4) rfl<|.a 3 rfl<|?_
              cases q4
              · exact .a 6 rfl<|.k [77,1,3,4] rfl
              · exact .a 1 rfl<|.v (aM (1) rfl) rfl<|.a 1 rfl<|.c rfl (n5) rfl<|.a 2 rfl<|.k [77,1,3,4] rfl
            · exact .a 13 rfl<|.k [77,1,3,4] rfl
      refine ah rfl (fun hx=>?_) (fun hx=>?_)
      · have hno':=hno (by cases q1<;>cases q2<;>cases q3<;>cases q4<;>cases q5<;>simp_all)
        rw[hno']
        exact ab (.a 1 rfl<|.k [2] rfl)<|aq<|⟨_,_,az.of rfl,aC.pure,rfl⟩
      · have e1:q1=false:=by cases q1<;>simp_all
        have e2:q2=true:=by cases q2<;>simp_all
        have e3:q3=true:=by cases q3<;>simp_all
        have e4:q4=true:=by cases q4<;>simp_all
        have e5:q5=true:=by cases q5<;>simp_all
        subst e1 e2 e3 e4 e5
        clear n2 n3 n4 n5 hx
        refine aj<|bu 93 (.raw (.bool (((!q6)|| !q7)|| !q8))) [1,3] rfl ?_ ?_
        · refine .a 2 rfl<|.c rfl (n6) rfl<|.a 2 rfl<|?_
          cases q6
          · exact .a 11 rfl<|.k [93,1,3] rfl
          · refine .a 2 rfl<|.c rfl (n7) rfl<|.a 3 rfl<|?_
            cases q7
            · exact .a 5 rfl<|.k [93,1,3] rfl
            · exact .a 2 rfl<|.c rfl (n8) rfl<|.a 2 rfl<|.k [93,1,3] rfl
        refine ah rfl (fun hx=>?_) (fun hx=>?_)
        · have hno':=hno (by cases q6<;>cases q7<;>cases q8<;>simp_all)
          rw[hno']
          exact ab (.a 1 rfl<|.k [2] rfl)<|aq<|⟨_,_,az.of rfl,aC.pure,rfl⟩
        · have e1:q6=true:=by cases q6<;>simp_all
          have e2:q7=true:=by cases q7<;>simp_all
          have e3:q8=true:=by cases q8<;>simp_all
          subst e1 e2 e3
          clear n6 n7 n8 hx
          refine aj<|aB (.a 1 rfl<|.v (aT rfl) rfl<|.a 1 rfl<|.k [1,3] rfl) ?_
          exact⟨T.ae.length - (k+1),by omega,k+1,by omega,rfl,by rw[hall',hall];rfl,rfl⟩
    · have hke:k=T.ae.length:=by have:=ff hc;omega
      subst hke
      rw[List.take_length]at hall
      rw[hall]
      exact bf<|ab (.a 1 rfl<|.k [2] rfl)<|aq<|⟨_,_,az.of rfl,aC.pure,rfl⟩
theorem oT(T:ai)(hv:ao T=true):Can Tryz.prog 94 [aN T] (· =num (2*(T.ae.length:Int))):=by
 have hll:=bO hv
 have h:=gJ T
 rw[hv]at h
 refine aG Tryz.func94 rfl Tryz.ntmps94 rfl<|ab (.a 2 rfl<|.k [1] rfl)<|ak<|ab (.a 1 rfl<|.c rfl (h) rfl<|.a 1 rfl<|.k [1,5] rfl)<|ah rfl (fun hc=>?_) (fun hc=>?_)
 ·cases hc
 ·exact aj<|ab (.a 3 rfl<|.v (aT rfl) rfl<|.a 1 rfl<|.k [2] rfl)<|aq<|⟨_,_,az.of rfl,aC.pure,rfl⟩
theorem qo{T:ai}{a:Int}{p1 p2:Bool}(hp1:decide (a<0)=p1)(hp2:decide (2*(T.ae.length:Int)≤a)=p2)(hc:(p1||p2)=true):¬(0≤a∧a<2*(T.ae.length:Int)):=by
 rcases Bool.or_eq_true_iff.1 hc with h|h
 ·rw[h]at hp1;have:=tt hp1;omega
 ·rw[h]at hp2;have:=tt hp2;omega
theorem oN{T:ai}{a:Int}{p1 p2:Bool}(hp1:decide (a<0)=p1)(hp2:decide (2*(T.ae.length:Int)≤a)=p2)(hc:(p1||p2)=false):0≤a∧a<2*(T.ae.length:Int):=by
 obtain⟨h1,h2⟩:=Bool.or_eq_false_iff.1 hc
 rw[h1]at hp1
 rw[h2]at hp2
 have:=ff hp1
 have:=ff hp2
 omega
theorem sV(T:ai)(hv:ao T=true)(a:Int):Can Tryz.prog 39 [aN T,num a] (· =num (wH T a)):=by
 have hll:=bO hv
 obtain⟨p1,hp1⟩:∃q,decide (a<0)=q:=⟨_,rfl⟩
 obtain⟨p2,hp2⟩:∃q,decide (2*(T.ae.length:Int)≤a)=q:=⟨_,rfl⟩
 refine aG Tryz.func39 rfl Tryz.ntmps39 rfl<|ab (.a 2 rfl<|.k [1,2] rfl)<|ak<|av<|bu 5 (.raw (.bool (p1||p2))) [1,2] rfl ?_ ?_
 ·refine .a 1 rfl<|.v (cg rfl (hp1)) rfl<|.a 1 rfl<|?_
  cases p1
  ·exact .a 2 rfl<|.c rfl (oT T hv) rfl<|.v (cg rfl (hp2)) rfl<|.a 2 rfl<|.k [5,1,2] rfl
  ·exact .a 6 rfl<|.k [5,1,2] rfl
 refine ah rfl (fun hc=>?_) (fun hc=>?_)
 ·unfold wH
  rw[if_neg (qo hp1 hp2 hc)]
  exact ab (.a 1 rfl<|.k [4] rfl)<|aq<|⟨_,_,az.of rfl,aC.pure,rfl⟩
 ·have hy:=oN hp1 hp2 hc
  unfold wH
  rw[if_pos hy]
  clear hp1 hp2 hc
  obtain⟨a,rfl⟩:=Int.eq_ofNat_of_zero_le hy.1
  have hi:a / 2<T.ae.length:=by omega
  unfold bb
  rw[Int.toNat_natCast]
  refine ab (.a 1 rfl<|.v (rW rfl rfl rfl (by decide) (Cz a)) rfl<|.a 2 rfl<|.k [1,2,14] rfl)<|ah rfl (fun hc=>?_) (fun hc=>?_)
  ·have h2:a % 2=0:=by have:=tt hc;omega
   rw[if_pos h2]
   exact ab (.a 3 rfl<|.v (iA rfl rfl rfl (by decide) (xJ a) (by unfold In64;omega)) rfl<|.v (aM (a / 2*7) rfl) rfl<|.a 1 rfl<|.v (aO rfl (ei T.ae (a / 2) 0 hi (by omega))) rfl<|.a 1 rfl<|.k [4] rfl)<|aq<|⟨_,_,az.of rfl,aC.pure,rfl⟩
  ·have h2:¬a % 2=0:=by have:=ff hc;omega
   rw[if_neg h2]
   exact aj<|ab (.a 3 rfl<|.v (iA rfl rfl rfl (by decide) (xJ a) (by unfold In64;omega)) rfl<|.v (aM (a / 2*7) rfl) rfl<|.a 1 rfl<|.v (aO rfl (ei T.ae (a / 2) 1 hi (by omega))) rfl<|.a 1 rfl<|.k [4] rfl)<|aq<|⟨_,_,az.of rfl,aC.pure,rfl⟩
theorem F7(a:Nat):(((a / 2:Nat):Int)*2+1) - ((a % 2:Nat):Int)=((Net.flip a:Nat):Int):=by unfold Net.flip;split<;>omega
theorem BI(T:ai)(hv:ao T=true)(a:Int):Can Tryz.prog 41 [aN T,num a] (· =num (vH T a)):=by
 have hll:=bO hv
 obtain⟨p1,hp1⟩:∃q,decide (a<0)=q:=⟨_,rfl⟩
 obtain⟨p2,hp2⟩:∃q,decide (2*(T.ae.length:Int)≤a)=q:=⟨_,rfl⟩
 refine aG Tryz.func41 rfl Tryz.ntmps41 rfl<|ab (.a 2 rfl<|.k [1,2] rfl)<|ak<|bu 12 (.raw (.bool (p1||p2))) [1,2] rfl ?_ ?_
 ·refine .a 1 rfl<|.v (cg rfl (hp1)) rfl<|.a 1 rfl<|?_
  cases p1
  ·exact .a 2 rfl<|.c rfl (oT T hv) rfl<|.v (cg rfl (hp2)) rfl<|.a 1 rfl<|.k [12,1,2] rfl
  ·exact .a 5 rfl<|.k [12,1,2] rfl
 refine ah rfl (fun hc=>?_) (fun hc=>?_)
 ·unfold vH
  rw[if_neg (qo hp1 hp2 hc)]
  exact ab (.a 1 rfl<|.k [4] rfl)<|aq<|⟨_,_,az.of rfl,aC.pure,rfl⟩
 ·have hy:=oN hp1 hp2 hc
  unfold vH
  rw[if_pos hy]
  clear hp1 hp2 hc
  obtain⟨a,rfl⟩:=Int.eq_ofNat_of_zero_le hy.1
  rw[Int.toNat_natCast]
  have ht:=sV T hv ((Net.flip a:Nat):Int)
  rw[sE T (Net.flip a) (by unfold Net.flip;split<;>omega)]at ht
  exact aj<|ab (.a 2 rfl<|.v (iA rfl rfl rfl (by decide) (xJ a) (by unfold In64;omega)) rfl<|.v (aT rfl) rfl<|.v (aT rfl) rfl<|.a 1 rfl<|.v (rW rfl rfl rfl (by decide) (Cz a)) rfl<|.v (aT rfl (hc:=F7 a) (hn:=by unfold In64 Net.flip;split<;>omega)) rfl<|.c rfl (ht) rfl<|.a 1 rfl<|.k [4] rfl)<|aq<|⟨_,_,az.of rfl,aC.pure,rfl⟩
theorem Bp(T:ai)(hv:ao T=true)(a:Int):Can Tryz.prog 42 [aN T,num a] (· =num (vW T a)):=by
 have hll:=bO hv
 obtain⟨p1,hp1⟩:∃q,decide (a<0)=q:=⟨_,rfl⟩
 obtain⟨p2,hp2⟩:∃q,decide (2*(T.ae.length:Int)≤a)=q:=⟨_,rfl⟩
 refine aG Tryz.func42 rfl Tryz.ntmps42 rfl<|ab (.a 2 rfl<|.k [1,2] rfl)<|ak<|bu 12 (.raw (.bool (p1||p2))) [1,2] rfl ?_ ?_
 ·refine .a 1 rfl<|.v (cg rfl (hp1)) rfl<|.a 1 rfl<|?_
  cases p1
  ·exact .a 2 rfl<|.c rfl (oT T hv) rfl<|.v (cg rfl (hp2)) rfl<|.a 1 rfl<|.k [12,1,2] rfl
  ·exact .a 5 rfl<|.k [12,1,2] rfl
 refine ah rfl (fun hc=>?_) (fun hc=>?_)
 ·unfold vW
  rw[if_neg (qo hp1 hp2 hc)]
  exact ab (.a 1 rfl<|.k [4] rfl)<|aq<|⟨_,_,az.of rfl,aC.pure,rfl⟩
 ·have hy:=oN hp1 hp2 hc
  unfold vW
  rw[if_pos hy]
  clear hp1 hp2 hc
  obtain⟨a,rfl⟩:=Int.eq_ofNat_of_zero_le hy.1
  rw[Int.toNat_natCast]
  exact aj<|ab (.a 3 rfl<|.v (iA rfl rfl rfl (by decide) (xJ a) (by unfold In64;omega)) rfl<|.a 1 rfl<|.v (rW rfl rfl rfl (by decide) (Cz a)) rfl<|.v (aM (a / 2*7) rfl) rfl<|.a 1 rfl<|.v (aM (a % 2) rfl) rfl<|.v (aO rfl (vJ T a (by omega))) rfl<|.a 1 rfl<|.k [4] rfl)<|aq<|⟨_,_,az.of rfl,aC.pure,rfl⟩
theorem gA(T:ai)(hv:ao T=true)(a:Nat)(ha:a<2*T.ae.length):Can Tryz.prog 39 [aN T,num a] (· =num (bb T a)):=by rw[←sE T a ha];exact sV T hv a
theorem kr(T:ai)(hv:ao T=true)(a:Nat)(ha:a<2*T.ae.length):Can Tryz.prog 41 [aN T,num a] (· =num (aS T a)):=by rw[←AJ T a ha];exact BI T hv a
theorem mZ(T:ai)(hv:ao T=true)(a:Nat)(ha:a<2*T.ae.length):Can Tryz.prog 42 [aN T,num a] (· =num (cb T a)):=by rw[←Ac T a ha];exact Bp T hv a
theorem zV(T:ai)(hv:ao T=true)(n:Nat):Can Tryz.prog 62 [aN T,num n] (· =flag (cR T n)):=by
 have h:=gJ T
 rw[hv]at h
 obtain⟨p1,hp1⟩:∃q,decide ((n:Int)<(T.over.length:Int))=q:=⟨_,rfl⟩
 obtain⟨p2,hp2⟩:∃q,T.over.getD n false=q:=⟨_,rfl⟩
 have he:cR T n=(p1&&p2):=by
  unfold cR
  cases p1
  ·have:=ff hp1
   rw[List.getD_eq_getElem?_getD,List.getElem?_eq_none (by omega)];rfl
  ·exact hp2
 rw[he]
 have h0:decide (0≤(n:Int))=true:=decide_eq_true (by omega)
 refine aG Tryz.func62 rfl Tryz.ntmps62 rfl<|ab (.a 2 rfl<|.k [1,2] rfl)<|bu 4 (.raw (.bool (p1&&p2))) [] rfl ?_ ?_
 ·refine .a 1 rfl<|.c rfl (h) rfl<|.a 2 rfl<|.v (cg rfl h0) rfl<|.a 6 rfl<|.v (cg rfl (hp1)) rfl<|.a 2 rfl<|?_
  cases p1
  ·exact .a 7 rfl<|.k [4] rfl
  ·exact .a 3 rfl<|.v (aM (n) rfl (by omega) (by have:=tt hp1;omega)) rfl<|.v (aO rfl (show _=some (flag p2) by rw[cV _ n (by have:=tt hp1;omega),hp2])) rfl<|.a 2 rfl<|.k [4] rfl
 exact aq<|⟨_,_,az.of rfl,aC.pure,rfl⟩
theorem Bo(T:ai)(D:List Bool):Can Tryz.prog 134 [aN T,aY D] (· =flag (ao T&&bP T D)):=by
 obtain⟨p0,hp0⟩:∃q,ao T=q:=⟨_,rfl⟩
 have h:=gJ T
 rw[hp0]at h
 obtain⟨p1,hp1⟩:∃q,decide ((D.length:Int)=0)=q:=⟨_,rfl⟩
 obtain⟨p2,hp2⟩:∃q,decide ((D.length:Int)=2*(T.ae.length:Int))=q:=⟨_,rfl⟩
 have he:bP T D=(p1||p2):=by rw[←hp1,←hp2];unfold bP;rw[←Bool.decide_or];exact decide_eq_decide.2 (by omega)
 rw[he,hp0]
 refine aG Tryz.func134 rfl Tryz.ntmps134 rfl<|ab (.a 2 rfl<|.k [1,2] rfl)<|bu 4 (.raw (.bool (p0&&(p1||p2)))) [] rfl ?_ ?_
 ·refine .a 1 rfl<|.c rfl (h) rfl<|.a 1 rfl<|?_
  cases p0
  ·exact .a 14 rfl<|.k [4] rfl
  ·refine .a 2 rfl<|.v (cg rfl (hp1)) rfl<|.a 1 rfl<|?_
   cases p1
   ·exact .a 5 rfl<|.v (aT rfl (hn:=by have:=bO hp0;unfold In64;omega)) rfl<|.v (cg rfl (hp2)) rfl<|.a 3 rfl<|.k [4] rfl
   ·exact .a 10 rfl<|.k [4] rfl
 exact aq<|⟨_,_,az.of rfl,aC.pure,rfl⟩
theorem tS(D:List Bool)(a:Nat)(ha:D.length=0∨a<D.length):Can Tryz.prog 40 [aY D,num a] (· =flag (!aL D a)):=by
 obtain⟨p1,hp1⟩:∃q,decide ((D.length:Int)=0)=q:=⟨_,rfl⟩
 obtain⟨p2,hp2⟩:∃q,D.getD a false=q:=⟨_,rfl⟩
 have he:(!aL D a)=(p1|| !p2):=by
  rw[zy (p1:= !p1) (by rw[←hp1];rw[←decide_not];exact decide_eq_decide.2 (by omega)) hp2]
  cases p1<;>cases p2<;>rfl
 rw[he]
 refine aG Tryz.func40 rfl Tryz.ntmps40 rfl<|ab (.a 1 rfl<|.k [0,1] rfl)<|bu 4 (.raw (.bool (p1|| !p2))) [] rfl ?_ ?_
 ·refine .a 2 rfl<|.v (cg rfl (hp1)) rfl<|.a 1 rfl<|?_
  cases p1
  ·exact .a 2 rfl<|.v (aM (a) rfl (by omega) (by have:=ff hp1;omega)) rfl<|.v (aO rfl (show _=some (flag p2) by rw[cV _ a (by have:=ff hp1;omega),hp2])) rfl<|.a 3 rfl<|.k [4] rfl
  ·exact .a 7 rfl<|.k [4] rfl
 exact aq<|⟨_,_,az.of rfl,aC.pure,rfl⟩
theorem km(T:ai)(hv:ao T=true)(n d:Nat):Can Tryz.prog 97 [aN T,num n,num d] (· =flag (decide (n=d)|| !cR T n)):=by
 obtain⟨p1,hp1⟩:∃q,decide ((n:Int)=(d:Int))=q:=⟨_,rfl⟩
 obtain⟨p2,hp2⟩:∃q,cR T n=q:=⟨_,rfl⟩
 have he:decide (n=d)=p1:=by rw[←hp1];exact decide_eq_decide.2 (by omega)
 have h:=zV T hv n
 rw[hp2]at h
 rw[he,hp2]
 refine aG Tryz.func97 rfl Tryz.ntmps97 rfl<|ab (.a 2 rfl<|.k [1,2,3] rfl)<|bu 6 (.raw (.bool (p1|| !p2))) [] rfl ?_ ?_
 ·refine .a 2 rfl<|.v (cg rfl (hp1)) rfl<|.a 1 rfl<|?_
  cases p1
  ·exact .a 2 rfl<|.c rfl (h) rfl<|.a 3 rfl<|.k [6] rfl
  ·exact .a 6 rfl<|.k [6] rfl
 exact aq<|⟨_,_,az.of rfl,aC.pure,rfl⟩
theorem AI(L M:List Int):Can Tryz.prog 35 [aw L,aw M] (· =flag (mz L M)):=by
 refine pQ fun⟨E,w,vs,hR⟩=>?_
 obtain⟨v,_,hv⟩:=hR.get (i:=0) rfl
 have hm:=lS hv
 unfold maxLen at hm
 refine aG Tryz.func35 rfl Tryz.ntmps35 rfl<|ab (.a 1 rfl<|.k [0,1] rfl)<|ak<|ab (.a 5 rfl<|.k [0,1,10] rfl)<|ah rfl (fun hc=>?_) (fun hc=>?_)
 ·rw[←De L M (by have:=tt hc;omega)]
  exact ab (.a 1 rfl<|.k [4] rfl)<|aq<|⟨_,_,az.of rfl,aC.pure,rfl⟩
 ·have hlen:M.length=L.length:=by have:=ff hc;omega
  refine aj<|ak<|ab (.a 1 rfl<|.k [0,1,5] rfl)<|av<|fp [0,1,5] rfl<|bq (fun r s=>∃k,k≤L.length∧r=L.length - k∧(∀i,i<k→L.getD i 0=M.getD i 0)∧s=⟨[(0,aw L),(1,aw M),(5,num k)],[]⟩) L.length ⟨0,by omega,by omega,fun i hi=>by omega,rfl⟩ ?_
  rintro r s ⟨k,hk,rfl,hall,rfl⟩
  refine ak<|ab (.a 4 rfl<|.k [0,1,5,14] rfl)<|ah rfl (fun hc=>?_) (fun hc=>?_)
  ·have hlt:k<L.length:=by have:=tt hc;omega
   refine aj<|ak<|av<|ez mixed (by kernel_rfl) (.a 2 rfl<|.v [17,18] (aM (k) rfl) rfl rfl<|.v [19] (aO rfl (aA L k hlt)) rfl rfl<|.a 2 rfl<|.v [21,22] (aM (k) rfl) rfl rfl<|.v [23] (aO rfl (aA M k (by omega))) rfl rfl<|.a 1 rfl<|.k [0,1,5,25] rfl) ?_
   refine ah rfl (fun hx=>?_) (fun hx=>?_)
   ·rw[←E7 L M k (tt hx)]
    exact ab (.a 1 rfl<|.k [4] rfl)<|aq<|⟨_,_,az.of rfl,aC.pure,rfl⟩
   ·have hx':L.getD k 0=M.getD k 0:=by have:=ff hx;omega
    refine aj<|aB (.a 1 rfl<|.v (aT rfl) rfl<|.a 1 rfl<|.k [0,1,5] rfl) ?_
    refine⟨L.length - (k+1),by omega,k+1,by omega,rfl,fun i hi=>?_,rfl⟩
    by_cases h:i=k
    ·rw[h];exact hx'
    ·exact hall i (by omega)
  ·have hke:k=L.length:=by have:=ff hc;omega
   rw[←El L M hlen (fun i hi=>hall i (by omega))]
   exact bf<|ab (.a 1 rfl<|.k [4] rfl)<|aq<|⟨_,_,az.of rfl,aC.pure,rfl⟩
end PW
end Go.Proofs.YtnegbdpggideiaaGreatDoor
namespace Go.Proofs.YtnegbdpggideiaaGreatDoor
namespace Heap
def par(q:Nat):Nat:=(q - 1) / 2
theorem fi{q:Nat}(h:0<q):par q<q:=by unfold par;omega
theorem Fo{p c:Nat}(h:0<c)(hc:par c=p):c=2*p+1∨c=2*p+2:=by unfold par at hc;omega
def rn(f:Nat→Int)(len:Nat):Prop:=∀q,0<q→q<len→f (par q)≤f q
def G5(f:Nat→Int)(len p:Nat):Prop:=0<p→∀c,0<c→c<len→par c=p→f (par p)≤f c
def nG(f:Nat→Int)(len p:Nat):Prop:=(∀q,0<q→q<len→q≠p→par q≠p→f (par q)≤f q)∧G5 f len p
def sR(f:Nat→Int)(len p:Nat):Prop:=(∀q,0<q→q<len→par q≠p→f (par q)≤f q)∧G5 f len p
def Ez(f:Nat→Int)(p q x:Nat):Int:=if x=p then f q else if x=q then f p else f x
theorem vQ(f:Nat→Int)(p q:Nat):Ez f p q p=f q:=by simp[Ez]
theorem I7(f:Nat→Int)(p q:Nat):Ez f p q q=f p:=by
 unfold Ez;split
 ·rename_i h;rw[h]
 ·simp
theorem ko(f:Nat→Int){p q x:Nat}(h1:x≠p)(h2:x≠q):Ez f p q x=f x:=by simp[Ez,h1,h2]
theorem D7{f:Nat→Int}{len p:Nat}(h:nG f len p)(hp:0<p)(hl:p<len)(_:f p<f (par p)):nG (Ez f p (par p)) len (par p):=by
 have hpp:=fi hp
 refine⟨fun q h0 hq h1 h2=>?_,fun hg c h0 hc hpc=>?_⟩
 ·by_cases e:par q=p
  ·have hqp:=fi h0
   rw[e,vQ,ko f (by omega) h1]
   exact h.2 hp q h0 hq e
  ·have hqp:q≠p:=fun e'=>h2 (by rw[e'])
   rw[ko f e h2,ko f hqp h1]
   exact h.1 q h0 hq hqp e
 ·have hgg:=fi hg
  rw[ko f (by omega) (by omega)]
  have h3:=h.1 (par p) hg (by omega) (by omega) (by omega)
  by_cases e:c=p
  ·rw[e,vQ];exact h3
  ·have:=fi h0
   rw[ko f e (by omega)]
   have:=h.1 c h0 hc e (by omega)
   rw[hpc]at this
   omega
theorem xi{f:Nat→Int}{len p:Nat}(h:nG f len p)(hp:p=0∨f (par p)≤f p):sR f len p:=
 ⟨fun q h0 hq h2=>by
  by_cases e:q=p
  ·subst e
   rcases hp with h'|h'
   ·omega
   ·exact h'
  ·exact h.1 q h0 hq e h2,h.2⟩
theorem yP{f:Nat→Int}{len p:Nat}(h:sR f len p)(hk:∀c,0<c→c<len→par c=p→f p≤f c):rn f len:=fun q h0 hq=>by
 by_cases e:par q=p
 ·rw[e];exact hk q h0 hq e
 ·exact h.1 q h0 hq e
theorem yb{f:Nat→Int}{len p c:Nat}(h:sR f len p)(hc0:0<c)(hcl:c<len)(hcp:par c=p)(hlt:f c<f p)(hk:∀c',0<c'→c'<len→par c'=p→f c≤f c'):sR (Ez f p c) len c:=by
 have hpc:=fi hc0
 refine⟨fun q h0 hq h2=>?_,fun _ d h0 hd hdc=>?_⟩
 ·have hqq:=fi h0
  by_cases e:par q=p
  ·rw[e,vQ]
   by_cases e':q=c
   ·rw[e',I7];omega
   ·rw[ko f (by omega) e'];exact hk q h0 hq e
  ·rw[ko f e h2]
   by_cases e':q=p
   ·rw[e',vQ]
    exact h.2 (by omega) c hc0 hcl hcp
   ·rw[ko f e' (fun e2=>e (by rw[e2];exact hcp))]
    exact h.1 q h0 hq e
 ·have hdd:=fi h0
  rw[hcp,vQ,ko f (by omega) (by omega)]
  have:=h.1 d h0 hd (by omega)
  rw[hdc]at this
  exact this
theorem Bz{f:Nat→Int}{len:Nat}(h:rn f len):∀q,q<len→f 0≤f q:=by
 intro q
 induction q using Nat.strongRecOn with
 |_ q ih=>
  intro hq
  by_cases e:q=0
  ·rw[e];exact Int.le_refl _
  ·have:=fi (q:=q) (by omega)
   exact Int.le_trans (ih (par q) this (by omega)) (h q (by omega) hq)
theorem xa{f g:Nat→Int}{len p:Nat}(h:rn f len)(he:∀q,q<len→q≠p→g q=f q)(hp:p<len):nG g len p:=by
 refine⟨fun q h0 hq h1 h2=>?_,fun hp0 c h0 hc hcp=>?_⟩
 ·have:=fi h0
  rw[he q hq h1,he (par q) (by omega) h2];exact h q h0 hq
 ·have:=fi h0
  have:=fi hp0
  rw[he (par p) (by omega) (by omega),he c hc (by omega)]
  have h1:=h c h0 hc
  rw[hcp]at h1
  exact Int.le_trans (h p hp0 hp) h1
theorem yq{f g:Nat→Int}{len:Nat}(h:rn f len)(he:∀q,q<len→g q=f q):nG g (len+1) len:=by
 refine⟨fun q h0 hq h1 _=>?_,fun hp0 c h0 hc hcp=>?_⟩
 ·have:=fi h0
  rw[he q (by omega),he (par q) (by omega)];exact h q h0 (by omega)
 ·have:=fi h0;omega
theorem yx{f g:Nat→Int}{len:Nat}(h:rn f (len+1))(he:∀q,q<len→q≠0→g q=f q):nG g len 0:=by
 refine⟨fun q h0 hq h1 h2=>?_,fun hp0=>by omega⟩
 have:=fi h0
 rw[he q hq h1,he (par q) (by omega) h2];exact h q h0 (by omega)
def jC(K:List Int)(i:Int):Int:=K.getD i.toNat 0*65536+i
def rk(K O:List Int)(p:Nat):Int:=jC K (O.getD p 0)
theorem ui{K:List Int}{i j:Int}(hi:0≤i)(hi':i<65536)(hj:0≤j)(hj':j<65536):
  decide (jC K i<jC K j)=(if K.getD i.toNat 0=K.getD j.toNat 0 then decide (i<j) else decide (K.getD i.toNat 0<K.getD j.toNat 0)):=by
 unfold jC
 generalize K.getD i.toNat 0=a
 generalize K.getD j.toNat 0=b
 split
 ·simp only[decide_eq_decide];omega
 ·simp only[decide_eq_decide];omega
theorem CG{K:List Int}{i j:Int}(hi:0≤i)(hj':j<65536)(h:jC K i≤jC K j):K.getD i.toNat 0≤K.getD j.toNat 0:=by
 unfold jC at h;omega
def dK(O:List Int)(p q:Nat):List Int:=(O.set p (O.getD q 0)).set q (O.getD p 0)
theorem fR(O:List Int)(p q:Nat):(dK O p q).length=O.length:=by simp[dK]
theorem ek(L:List Int)(i j:Nat)(c:Int)(hi:i<L.length):(L.set i c).getD j 0=if j=i then c else L.getD j 0:=by
 simp only[List.getD_eq_getElem?_getD,List.getElem?_set]
 by_cases h:i=j
 ·subst h;simp[hi]
 ·rw[if_neg h,if_neg (Ne.symm h)]
theorem dE(O:List Int)(p q x:Nat)(hp:p<O.length)(hq:q<O.length):(dK O p q).getD x 0=if x=q then O.getD p 0 else if x=p then O.getD q 0 else O.getD x 0:=by
 unfold dK
 rw[ek _ _ _ _ (by simpa using hq),ek _ _ _ _ hp]
theorem zr(K O:List Int)(p q:Nat)(hp:p<O.length)(hq:q<O.length):rk K (dK O p q)=Ez (rk K O) p q:=by
 funext x
 unfold rk Ez
 rw[dE O p q x hp hq]
 by_cases h1:x=q
 ·subst h1
  rw[if_pos rfl]
  by_cases h2:x=p
  ·rw[if_pos h2,h2]
  ·rw[if_neg h2,if_pos rfl]
 ·rw[if_neg h1]
  by_cases h2:x=p
  ·rw[if_pos h2,if_pos h2]
  ·rw[if_neg h2,if_neg h2,if_neg h1]
def eo(O:List Int)(i:Int):Prop:=∃p,p<O.length∧O.getD p 0=i
theorem lU(O:List Int)(p q:Nat)(hp:p<O.length)(hq:q<O.length)(i:Int):eo (dK O p q) i↔eo O i:=by
 unfold eo
 rw[fR]
 constructor
 ·rintro⟨x,hx,rfl⟩
  rw[dE O p q x hp hq]
  split
  ·exact⟨p,hp,rfl⟩
  ·split
   ·exact⟨q,hq,rfl⟩
   ·exact⟨x,hx,rfl⟩
 ·rintro⟨x,hx,rfl⟩
  by_cases h1:x=p
  ·exact⟨q,hq,by rw[dE O p q q hp hq,if_pos rfl,h1]⟩
  ·by_cases h2:x=q
   ·exact⟨p,hp,by
     rw[dE O p q p hp hq]
     by_cases h3:p=q
     ·omega
     ·rw[if_neg h3,if_pos rfl,h2]⟩
   ·exact⟨x,hx,by rw[dE O p q x hp hq,if_neg h2,if_neg h1]⟩
structure dt (N:Nat) (P O:List Int):Prop where
 len:P.length=N
 item:∀p,p<O.length→0≤O.getD p 0∧O.getD p 0<N∧P.getD (O.getD p 0).toNat 0=(p:Int)+1
 place:∀i,i<N→P.getD i 0=0∨∃p,p<O.length∧O.getD p 0=(i:Int)
theorem dt.inj{N:Nat}{P O:List Int}(h:dt N P O){p q:Nat}(hp:p<O.length)(hq:q<O.length)(he:O.getD p 0=O.getD q 0):p=q:=by
 have h1:=(h.item p hp).2.2
 have h2:=(h.item q hq).2.2
 rw[he]at h1
 omega
def gI(P O:List Int)(p q:Nat):List Int:=(P.set (O.getD q 0).toNat ((p:Int)+1)).set (O.getD p 0).toNat ((q:Int)+1)
theorem dt.swap{N:Nat}{P O:List Int}(h:dt N P O){p q:Nat}(hp:p<O.length)(hq:q<O.length):dt N (gI P O p q) (dK O p q):=by
 have ip:=h.item p hp
 have iq:=h.item q hq
 have hl:=h.len
 refine⟨by simp[gI,h.len],fun x hx=>?_,fun i hi=>?_⟩
 ·rw[fR]at hx
  have ix:=h.item x hx
  have e:∀j:Int,0≤j→j<N→(gI P O p q).getD j.toNat 0=if j=O.getD p 0 then(q:Int)+1 else if j=O.getD q 0 then(p:Int)+1 else P.getD j.toNat 0:=fun j h0 h1=>by
   unfold gI
   rw[ek _ _ _ _ (by rw[List.length_set];omega),ek _ _ _ _ (by omega)]
   have e1:(j.toNat=(O.getD p 0).toNat)=(j=O.getD p 0):=by apply propext;omega
   have e2:(j.toNat=(O.getD q 0).toNat)=(j=O.getD q 0):=by apply propext;omega
   simp only[e1,e2]
  rw[dE O p q x hp hq]
  by_cases h1:x=q
  ·rw[if_pos h1,e _ ip.1 ip.2.1,if_pos rfl]
   exact⟨ip.1,ip.2.1,by rw[h1]⟩
  ·rw[if_neg h1]
   by_cases h2:x=p
   ·rw[if_pos h2,e _ iq.1 iq.2.1,if_neg (fun e=>by have:=h.inj hq hp e;omega),if_pos rfl]
    exact⟨iq.1,iq.2.1,by rw[h2]⟩
   ·rw[if_neg h2,e _ ix.1 ix.2.1,if_neg (fun e=>h2 (h.inj hx hp e)),if_neg (fun e=>h1 (h.inj hx hq e))]
    exact ix
 ·by_cases hH:eo O (i:Int)
  ·exact .inr ((lU O p q hp hq (i:Int)).2 hH)
  ·rcases h.place i hi with h0|h0
   ·refine .inl ?_
    unfold gI
    rw[ek _ _ _ _ (by rw[List.length_set];omega),ek _ _ _ _ (by omega),if_neg (fun e=>hH ⟨p,hp,by omega⟩),if_neg (fun e=>hH ⟨q,hq,by omega⟩)]
    exact h0
   ·exact absurd h0 hH
theorem dt.zero{N:Nat}{P O:List Int}(h:dt N P O){i:Nat}(hi:i<N):P.getD i 0=0↔¬eo O (i:Int):=by
 constructor
 ·rintro h0 ⟨p,hp,he⟩
  have:=(h.item p hp).2.2
  rw[he,Int.toNat_natCast,h0]at this
  omega
 ·intro hn
  rcases h.place i hi with h0|h0
  ·exact h0
  ·exact absurd h0 hn
theorem dt.push{N:Nat}{P O:List Int}(h:dt N P O){i:Nat}(hi:i<N)(hn:¬eo O (i:Int)):dt N (P.set i ((O.length:Int)+1)) (O++[(i:Int)]):=by
 have hl:=h.len
 refine⟨by simp[h.len],fun x hx=>?_,fun j hj=>?_⟩
 ·rw[ek _ _ _ _ (by omega)]
  by_cases h1:x<O.length
  ·have ix:=h.item x h1
   have e:(O++[(i:Int)]).getD x 0=O.getD x 0:=by simp[List.getD_eq_getElem?_getD,List.getElem?_append_left h1]
   rw[e,if_neg (fun e=>hn ⟨x,h1,by omega⟩)]
   exact ix
  ·have:x=O.length:=by simp at hx;omega
   subst this
   have e:(O++[(i:Int)]).getD O.length 0=i:=by simp
   rw[e,Int.toNat_natCast,if_pos rfl]
   exact⟨by omega,by omega,rfl⟩
 ·rw[ek _ _ _ _ (by omega)]
  by_cases hji:j=i
  ·exact .inr ⟨O.length,by simp,by simp[hji]⟩
  ·rw[if_neg hji]
   rcases h.place j hj with h0|⟨p,hp,he⟩
   ·exact .inl h0
   ·exact .inr ⟨p,by simp;omega,by simp[List.getD_eq_getElem?_getD,List.getElem?_append_left hp]at he ⊢;exact he⟩
theorem Ag(O:List Int)(i j:Int):eo (O++[i]) j↔j=i∨eo O j:=by
 constructor
 ·rintro⟨p,hp,rfl⟩
  by_cases h1:p<O.length
  ·exact .inr ⟨p,h1,by simp[List.getD_eq_getElem?_getD,List.getElem?_append_left h1]⟩
  ·have:p=O.length:=by simp at hp;omega
   subst this
   exact .inl (by simp)
 ·rintro(rfl|⟨p,hp,rfl⟩)
  ·exact⟨O.length,by simp,by simp⟩
  ·exact⟨p,by simp;omega,by simp[List.getD_eq_getElem?_getD,List.getElem?_append_left hp]⟩
theorem ll(O:List Int)(m x:Nat)(h:x<m):(O.take m).getD x 0=O.getD x 0:=by
 simp[List.getD_eq_getElem?_getD,h]
theorem dt.pop{N:Nat}{P O:List Int}{m:Nat}(h:dt N P O)(hm:O.length=m+1):dt N (P.set (O.getD m 0).toNat 0) (O.take m):=by
 have hl:=h.len
 have im:=h.item m (by omega)
 refine⟨by simp[h.len],fun x hx=>?_,fun j hj=>?_⟩
 ·have hx':x<m:=by simp at hx;omega
  rw[ll O m x hx',ek _ _ _ _ (by omega)]
  have ix:=h.item x (by omega)
  rw[if_neg (fun e=>by have:=h.inj (p:=x) (q:=m) (by omega) (by omega) (by omega);omega)]
  exact ix
 ·rw[ek _ _ _ _ (by omega)]
  by_cases hjm:j=(O.getD m 0).toNat
  ·exact .inl (if_pos hjm)
  ·rw[if_neg hjm]
   rcases h.place j hj with h0|⟨p,hp,he⟩
   ·exact .inl h0
   ·have:p≠m:=fun e=>hjm (by rw[←e,he];rfl)
    exact .inr ⟨p,by simp;omega,by rw[ll O m p (by omega)];exact he⟩
theorem Eo{N:Nat}{P O:List Int}{m:Nat}(h:dt N P O)(hm:O.length=m+1)(j:Int):eo (O.take m) j↔eo O j∧j≠O.getD m 0:=by
 constructor
 ·rintro⟨p,hp,rfl⟩
  have hp':p<m:=by simp at hp;omega
  rw[ll O m p hp']
  exact⟨⟨p,by omega,rfl⟩,fun e=>by have:=h.inj (p:=p) (q:=m) (by omega) (by omega) e;omega⟩
 ·rintro⟨⟨p,hp,rfl⟩,hne⟩
  have:p≠m:=fun e=>hne (by rw[e])
  exact⟨p,by simp;omega,ll O m p (by omega)⟩
theorem xS:∀(N m:Nat) (f:Nat→Nat),(∀p,p<m→f p<N)→(∀p q,p<m→q<m→f p=f q→p=q)→m≤N
 |0,m,f,h,_=>by
  rcases Nat.eq_zero_or_pos m with h0|h0
  ·omega
  ·have:=h 0 h0;omega
 |N+1,m,f,h,hi=>by
  by_cases hx:∃p,p<m∧f p=N
  ·obtain⟨p0,hp0,he⟩:=hx
   have:=xS N (m - 1) (fun p=>if p=p0 then f (m - 1) else f p) (fun p hp=>by
    by_cases e:p=p0
    ·simp only[e,if_true]
     have h1:=h (m - 1) (by omega)
     have h2:f (m - 1)≠N:=fun e'=>by have:=hi (m - 1) p0 (by omega) hp0 (by omega);omega
     omega
    ·simp only[e,if_false]
     have h1:=h p (by omega)
     have h2:f p≠N:=fun e'=>e (hi p p0 (by omega) hp0 (by omega))
     omega) (fun p q hp hq hpq=>by
    by_cases e:p=p0<;>by_cases e':q=p0
    ·omega
    ·simp only[e,e',if_true,if_false]at hpq
     have:=hi (m - 1) q (by omega) (by omega) hpq
     omega
    ·simp only[e,e',if_true,if_false]at hpq
     have:=hi p (m - 1) (by omega) (by omega) hpq
     omega
    ·simp only[e,e',if_false]at hpq
     exact hi p q (by omega) (by omega) hpq)
   omega
  ·have:=xS N m f (fun p hp=>by
    have h1:=h p hp
    have h2:f p≠N:=fun e=>hx ⟨p,hp,e⟩
    omega) hi
   omega
theorem iV{N:Nat}{P O:List Int}(h:dt N P O):O.length≤N:=
 xS N O.length (fun p=>(O.getD p 0).toNat) (fun p hp=>by have:=h.item p hp;omega) (fun p q hp hq e=>by
  have h1:=h.item p hp
  have h2:=h.item q hq
  exact h.inj hp hq (by omega))
end Heap
end Go.Proofs.YtnegbdpggideiaaGreatDoor
namespace Go.Proofs.YtnegbdpggideiaaGreatDoor
namespace PW
open Go.RowKit cE Mem Net Heap
def ia(b:Bool)(d:Option cU)(N n:Nat)(K P O:List Int):cf:=
 match b with
 |false=>[d,some (.cells 236 [.own 2,.own 3,.own 4]),some (.row 3 1 N (aP K)),some (.row 3 1 N (aP P)),some (.row 3 1 n (aP O))]
 |true=>[d,some (.cells 236 [.own 2,.own 3,.own 5]),some (.row 3 1 N (aP K)),some (.row 3 1 N (aP P)),none,some (.row 3 1 n (aP O))]
def IK:cU→Prop
 | .cells _ xs=>aJ xs
 | .row _ _ _ xs=>aJ xs
 | .mp kv=>aJ (kv.map (·.2))
def kD(d:Option cU):Prop:=∀b,d=some b→IK b
theorem jT.same{fs:List Nat}{σ σ':cf}{js:List Nat}{j:Nat}{d:Option cU}(hd:kD d)(h:σ[j]? =some d)(hs:jT fs σ σ' js):jT fs σ (d::σ') (j::js):=by
 cases d with
 |none=>exact .gone hs
 |some b=>
  have hb:=hd b rfl
  cases b with
  |cells ty xs=>haveI:aJ xs:=hd _ rfl;exact .kept h (.cells aE.pure) hs
  |row e s n xs=>haveI:aJ xs:=hd _ rfl;exact .kept h (.row aE.pure) hs
  |mp kv=>haveI:aJ (kv.map (·.2)):=hd _ rfl;exact .kept h .mp hs
def wT(K P O:List Int):PV:=.aX [aw K,aw P,aw O] 0
theorem qf(b:Bool)(d:Option cU){N n:Nat}{K P O:List Int}(hK:K.length=N)(hP:P.length=N)(hO:O.length=n):aC (ia b d N n K P O) (.ptr 1 0) (wT K P O):=by
 subst hK;subst hO
 unfold wT aw
 rw[hP]
 cases b<;>exact aC.jh rfl (an.cons (aC.fu rfl an.pure) (an.cons (aC.fu rfl an.pure) (an.cons (aC.fu rfl an.pure) an.nil)))
theorem jF{N:Nat}{P O:List Int}(h:dt N P O){p:Nat}(hp:p<O.length):∃i:Nat,O.getD p 0=(i:Int)∧i<N:=by
 obtain⟨h1,h2,_⟩:=h.item p hp
 exact⟨(O.getD p 0).toNat,by omega,by omega⟩
theorem pY{N:Nat}(K P O:List Int)(hP:dt N P O)(hK:K.length=N)(hN:N≤65536)(p q:Nat)(hp:p<O.length)(hq:q<O.length):
  Can Tryz.prog 222 [wT K P O,num p,num q] (· =flag (decide (rk K O p<rk K O q))):=by
 obtain⟨i,hi,hi'⟩:=jF hP hp
 obtain⟨j,hj,hj'⟩:=jF hP hq
 have hr:decide (rk K O p<rk K O q)=if K.getD i 0=K.getD j 0 then decide ((i:Int)<(j:Int)) else decide (K.getD i 0<K.getD j 0):=by
  unfold rk
  rw[hi,hj,ui (by omega) (by omega) (by omega) (by omega),Int.toNat_natCast,Int.toNat_natCast]
 refine aG Tryz.func222 rfl Tryz.ntmps222 rfl<|ab (.a 1 rfl<|.k [0,1,2] rfl)<|ez mixed (by kernel_rfl) (.a 5 rfl<|.v [12,13] (aM (p) rfl) rfl rfl<|.v [14] (aO rfl ((aA O p hp).trans (by rw[hi]))) rfl rfl<|.a 5 rfl<|.v [19,20] (aM (q) rfl) rfl rfl<|.v [21] (aO rfl ((aA O q hq).trans (by rw[hj]))) rfl rfl<|.a 2 rfl<|.k [0,7,8] rfl) ?_
 refine ak<|ez mixed (by kernel_rfl) (.a 5 rfl<|.v [26,27] (aM (i) rfl) rfl rfl<|.v [28] (aO rfl (aA K i (by omega))) rfl rfl<|.a 5 rfl<|.v [33,34] (aM (j) rfl) rfl rfl<|.v [35] (aO rfl (aA K j (by omega))) rfl rfl<|.a 1 rfl<|.k [0,7,8,37] rfl) ?_
 refine ah rfl (fun hc=>?_) (fun hc=>?_)
 ·have:=of_decide_eq_true hc
  rw[if_neg this]at hr
  refine ez mixed (by kernel_rfl) (.a 5 rfl<|.v [41,42] (aM (i) rfl) rfl rfl<|.v [43] (aO rfl (aA K i (by omega))) rfl rfl<|.a 5 rfl<|.v [48,49] (aM (j) rfl) rfl rfl<|.v [50] (aO rfl (aA K j (by omega))) rfl rfl<|.a 2 rfl<|.k [6] rfl) ?_
  exact aq<|⟨_,_,az.of rfl,aC.pure,by rw[hr];rfl⟩
 ·have:=of_decide_eq_false hc
  rw[if_pos (by simpa using this)]at hr
  exact aj<|ab (.a 4 rfl<|.k [6] rfl)<|aq<|⟨_,_,az.of rfl,aC.pure,by rw[hr];rfl⟩
theorem rF{N n:Nat}(b:Bool)(d:Option cU)(K P O:List Int)(hP:dt N P O)(hO:O.length=n)(hN:N≤65536)(p q:Nat)(hp:p<O.length)(hq:q<O.length):
  bU Tryz.prog 223 [.ptr 1 0,num p,num q] (ia b d N n K P O) (fun _ σ'=>σ'=ia b d N n K (gI P O p q) (dK O p q)):=by
 obtain⟨i,hi,hi'⟩:=jF hP hp
 obtain⟨j,hj,hj'⟩:=jF hP hq
 have hlen:=iV hP
 have hPl:=hP.len
 have gp:(dK O p q).getD p 0=j:=by
  rw[dE O p q p hp hq]
  by_cases h:p=q
  ·rw[if_pos h];subst h;omega
  ·rw[if_neg h,if_pos rfl,hj]
 have gq:(dK O p q).getD q 0=i:=by rw[dE O p q q hp hq,if_pos rfl,hi]
 have hsw:dK O p q=(O.set p (j:Int)).set q (i:Int):=by unfold dK;rw[hi,hj]
 rw[hsw]at gp gq
 refine cr Tryz.func223 rfl Tryz.ntmps223 rfl ?_
 cases b
 all_goals
  refine lj 25 20 mixed (
   .val [0] rfl (bF rfl) rfl rfl<|
   .val [6] rfl (bF rfl) rfl rfl<|
   .val [7] rfl (bF rfl) rfl rfl<|
   .val [8] rfl (bF rfl) rfl rfl<|
   .val [1] rfl (bF rfl) rfl rfl<|
   .val [0] rfl (bF rfl) rfl rfl<|
   .val [11] rfl (bF rfl) rfl rfl<|
   .val [12] rfl (bF rfl) rfl rfl<|
   .val [13] rfl (bF rfl) rfl rfl<|
   .late [2] rfl (nc rfl rfl) inferInstance rfl rfl<|
   .val [0] rfl (bF rfl) rfl rfl<|
   .val [16] rfl (bF rfl) rfl rfl<|
   .val [17] rfl (bF rfl) rfl rfl<|
   .val [18] rfl (bF rfl) rfl rfl<|
   .val [2] rfl (bF rfl) rfl rfl<|
   .val [19,20] rfl (aM (q) rfl) rfl rfl<|
   .val [21] rfl (aO rfl ((aA O q hq).trans (by rw[hj]))) rfl rfl<|
   .val [0] rfl (bF rfl) rfl rfl<|
   .val [23] rfl (bF rfl) rfl rfl<|
   .val [24] rfl (bF rfl) rfl rfl<|
   .val [25] rfl (bF rfl) rfl rfl<|
   .val [1] rfl (bF rfl) rfl rfl<|
   .val [26,27] rfl (aM (p) rfl) rfl rfl<|
   .val [28] rfl (aO rfl ((aA O p hp).trans (by rw[hi]))) rfl rfl<|
   .val [9,10] rfl (aM (p) rfl) rfl rfl<|
   .nil) (by kernel_rfl) rfl rfl (bm (ks:=[0,1,2,14,15,22,29,30]) rfl) ?_
  refine bd ((by first|exact bG rfl (bL.tk.get rfl) rfl rfl rfl (by first|omega|(simp;omega))|exact aV rfl (bL.tk.get rfl) rfl rfl rfl (by first|omega|(simp;omega)))) rfl rfl<|bE (aM (q) rfl) rfl<|bd ((by first|exact bG rfl (bL.tk.get rfl) rfl rfl rfl (by first|omega|(simp;omega))|exact aV rfl (bL.tk.get rfl) rfl rfl rfl (by first|omega|(simp;omega)))) rfl rfl<|aH [0,1,2] rfl ?_
  refine lj 14 20 mixed (
   .val [0] rfl (bF rfl) rfl rfl<|
   .val [32] rfl (bF rfl) rfl rfl<|
   .val [33] rfl (bF rfl) rfl rfl<|
   .val [34] rfl (bF rfl) rfl rfl<|
   .val [0] rfl (bF rfl) rfl rfl<|
   .val [36] rfl (bF rfl) rfl rfl<|
   .val [37] rfl (bF rfl) rfl rfl<|
   .val [38] rfl (bF rfl) rfl rfl<|
   .val [1] rfl (bF rfl) rfl rfl<|
   .val [39,40] rfl (aM (p) rfl) rfl rfl<|
   .val [41] rfl (aO rfl ((aA ((O.set p (j:Int)).set q (i:Int)) p (by simpa using hp)).trans (by rw[gp]))) rfl rfl<|
   .val [1] rfl (bF rfl) rfl rfl<|
   .val [43] rfl (aT rfl) rfl rfl<|
   .val [35,42] rfl (aM (j) rfl) rfl rfl<|
   .nil) (by kernel_rfl) rfl rfl (bm (ks:=[0,2,44,45]) rfl) ?_
  refine bd ((by first|exact bG rfl (bL.tk.get rfl) rfl rfl rfl (by first|omega|(simp;omega))|exact aV rfl (bL.tk.get rfl) rfl rfl rfl (by first|omega|(simp;omega)))) rfl rfl<|aH [0,2] rfl ?_
  refine dS 14 20 mixed (
   .val [0] rfl (bF rfl) rfl rfl<|
   .val [46] rfl (bF rfl) rfl rfl<|
   .val [47] rfl (bF rfl) rfl rfl<|
   .val [48] rfl (bF rfl) rfl rfl<|
   .val [0] rfl (bF rfl) rfl rfl<|
   .val [50] rfl (bF rfl) rfl rfl<|
   .val [51] rfl (bF rfl) rfl rfl<|
   .val [52] rfl (bF rfl) rfl rfl<|
   .val [2] rfl (bF rfl) rfl rfl<|
   .val [53,54] rfl (aM (q) rfl) rfl rfl<|
   .val [55] rfl (aO rfl ((aA ((O.set p (j:Int)).set q (i:Int)) q (by simpa using hq)).trans (by rw[gq]))) rfl rfl<|
   .val [2] rfl (bF rfl) rfl rfl<|
   .val [57] rfl (aT rfl) rfl rfl<|
   .val [49,56] rfl (aM (i) rfl) rfl rfl<|
   .nil) (by kernel_rfl) rfl rfl (bm (ks:=[58,59]) rfl) ?_
  refine bd ((by first|exact bG rfl (bL.tk.get rfl) rfl rfl rfl (by first|omega|(simp;omega))|exact aV rfl (bL.tk.get rfl) rfl rfl rfl (by first|omega|(simp;omega)))) rfl rfl<|aH [] rfl ?_
  refine⟨_,az.of rfl,?_⟩
  unfold gI
  rw[hi,hj,hsw]
  rfl
theorem Cx(p:Nat)(h:0<p):((p:Int) - 1).tdiv 2=((par p:Nat):Int):=by
 rw[Int.tdiv_eq_ediv_of_nonneg (by omega)];unfold par;omega
theorem zI{σ:cf}{K P O:List Int}(h:aC σ (.ptr 1 0) (wT K P O))(p q:Int):an σ ([.ptr 1 0,num p,num q]++[]) [wT K P O,num p,num q]:=an.cons h (an.cons aC.pure (an.cons aC.pure an.nil))
theorem mK{N n:Nat}(b:Bool)(d:Option cU)(K P O:List Int)(hP:dt N P O)(hO:O.length=n)(hK:K.length=N)(hN:N≤65536)(p:Nat)(hp:p<n)(hL:nG (rk K O) n p):
  bU Tryz.prog 213 [.ptr 1 0,num p] (ia b d N n K P O) (fun _ σ'=>∃P' O',σ'=ia b d N n K P' O'∧dt N P' O'∧O'.length=n∧rn (rk K O') n∧∀i,eo O' i↔eo O i):=by
 have hlen:=iV hP
 refine cr Tryz.func213 rfl Tryz.ntmps213 rfl ?_
 cases b
 all_goals
  refine ak<|av<|fp [0,1] rfl<|bq (fun r s=>∃P' O' p',dt N P' O'∧O'.length=n∧nG (rk K O') n p'∧p'<n∧(∀i,eo O' i↔eo O i)∧r=p'∧s=⟨[(0,.ptr 1 0),(1,num p')],ia _ d N n K P' O'⟩) p ⟨P,O,p,hP,hO,hL,hp,fun _=>Iff.rfl,rfl,rfl⟩ ?_
  rintro r s ⟨P',O',p',hP',hO',hL',hp',hH',rfl,rfl⟩
  refine ak ?_
  obtain⟨q1,hq1⟩:∃q,decide ((0:Int)<(r:Int))=q:=⟨_,rfl⟩
  obtain⟨q2,hq2⟩:∃q,decide (rk K O' r<rk K O' (par r))=q:=⟨_,rfl⟩
  refine bu 15 (.raw (.bool (q1&&q2))) [0,1] rfl ?_ ?_
  ·refine .a 1 rfl<|.v (cg rfl (hq1)) rfl<|.a 1 rfl<|?_
   cases q1
   ·exact .a 7 rfl<|.k [15,0,1] rfl
   ·exact .a 3 rfl<|.v (aT rfl) rfl<|.v (iA rfl rfl rfl (by decide) (Cx r (by have:=of_decide_eq_true hq1;omega)) (by unfold In64 par;omega)) rfl<|.v (Ih rfl (zI (qf _ d hK hP'.len hO') _ _) (hq2▸pY K P' O' hP' hK hN r (par r) (by omega) (by have:=of_decide_eq_true hq1;have:=fi (q:=r) (by omega);omega))) rfl<|.a 1 rfl<|.k [15,0,1] rfl
  refine ah rfl (fun hc=>?_) (fun hc=>?_)
  ·obtain⟨c1,c2⟩:=Bool.and_eq_true_iff.1 hc
   rw[c1]at hq1
   rw[c2]at hq2
   have hr0:0<r:=by have:=of_decide_eq_true hq1;omega
   have hlt:=of_decide_eq_true hq2
   have hpl:=fi hr0
   refine aj<|av<|aR<|au 3 rfl<|bE (aT rfl) rfl<|bE (iA rfl rfl rfl (by decide) (Cx r hr0) (by unfold In64;omega)) rfl<|cQ rfl rfl (bU.mono (rF _ d K P' O' hP' hO' hN r (par r) (by omega) (by omega)) (fun _ σ' h=>?_))
   subst h
   refine aH [0,1] rfl ?_
   refine aB (.a 1 rfl<|.v (aT rfl) rfl<|.v (iA rfl rfl rfl (by decide) (Cx r hr0) (by unfold In64;omega)) rfl<|.a 1 rfl<|.k [0,1] rfl) ?_
   refine⟨par r,hpl,gI P' O' r (par r),dK O' r (par r),par r,hP'.swap (by omega) (by omega),by rw[fR];exact hO',?_,by omega,fun i=>(lU O' r (par r) (by omega) (by omega) i).trans (hH' i),rfl,rfl⟩
   rw[zr K O' r (par r) (by omega) (by omega)]
   exact D7 hL' hr0 hp' hlt
  ·have hdn:sR (rk K O') n r:=xi hL' (by
    by_cases h0:r=0
    ·exact .inl h0
    ·refine .inr ?_
     have h1:q1=true:=by rw[←hq1];simp;omega
     rw[h1]at hc
     simp only[Bool.true_and]at hc
     rw[hc]at hq2
     have:=of_decide_eq_false hq2
     omega)
   clear hL' hq1 hq2 hc
   refine bf<|av<|fp [0,1] rfl<|bq (fun r s=>∃P' O' p',dt N P' O'∧O'.length=n∧sR (rk K O') n p'∧p'<n∧(∀i,eo O' i↔eo O i)∧r=n - p'∧s=⟨[(0,.ptr 1 0),(1,num p')],ia _ d N n K P' O'⟩) (n - r) ⟨P',O',r,hP',hO',hdn,hp',hH',rfl,rfl⟩ ?_
   clear hP' hO' hdn hH' P' O' hp' r
   rintro r s ⟨P',O',p',hP',hO',hdn,hp',hH',rfl,rfl⟩
   refine av<|ab (.a 2 rfl<|.k [0,1,4] rfl)<|ak<|ab (.a 1 rfl<|.v (aT rfl) rfl<|.v (aT rfl) rfl<|.a 1 rfl<|.k [0,1,4,5] rfl)<|av<|fp [0,1,4,5] rfl<|bq (fun r s=>∃c l,2*p'+1≤c∧c≤2*p'+3∧r=2*p'+3 - c∧l<n∧(l=p'∨(par l=p'∧0<l∧rk K O' l<rk K O' p'))∧(∀x,2*p'+1≤x→x<c→x<n→rk K O' l≤rk K O' x)∧s=⟨[(0,.ptr 1 0),(1,num p'),(4,num l),(5,num c)],ia _ d N n K P' O'⟩) 2 ⟨2*p'+1,p',by omega,by omega,by omega,hp',.inl rfl,fun x h1 h2=>by omega,rfl⟩ ?_
   rintro r s ⟨c,l,hc1,hc2,rfl,hl,hl2,hl3,rfl⟩
   refine ak ?_
   obtain⟨q1,hq1⟩:∃q,decide ((c:Int)≤2*(p':Int)+2)=q:=⟨_,rfl⟩
   obtain⟨q2,hq2⟩:∃q,decide ((c:Int)<(n:Int))=q:=⟨_,rfl⟩
   refine bu 42 (.raw (.bool (q1&&q2))) [0,1,4,5] rfl ?_ ?_
   ·refine .a 2 rfl<|.v (aT rfl) rfl<|.v (aT rfl) rfl<|.v (cg rfl (hq1)) rfl<|.a 1 rfl<|?_
    cases q1
    ·exact .a 8 rfl<|.k [42,0,1,4,5] rfl
    ·exact .a 6 rfl<|.v (cg rfl (hq2)) rfl<|.a 1 rfl<|.k [42,0,1,4,5] rfl
   refine ah rfl (fun hc=>?_) (fun hc=>?_)
   ·obtain⟨c1,c2⟩:=Bool.and_eq_true_iff.1 hc
    rw[c1]at hq1
    rw[c2]at hq2
    have hcn:c<n:=by have:=of_decide_eq_true hq2;omega
    have hc4:c≤2*p'+2:=by have:=of_decide_eq_true hq1;omega
    have hpc:par c=p':=by unfold par;omega
    refine aj<|ak<|av<|ab (.a 3 rfl<|.v (Ih rfl (zI (qf _ d hK hP'.len hO') _ _) (pY K P' O' hP' hK hN c l (by omega) (by omega))) rfl<|.k [0,1,4,5,48] rfl)<|ah rfl (fun hb=>?_) (fun hb=>?_)
    ·have hb':=of_decide_eq_true hb
     refine aB (.a 2 rfl<|.k [0,1,4,5] rfl) ?_
     refine aB (.a 1 rfl<|.v (aT rfl) rfl<|.a 1 rfl<|.k [0,1,4,5] rfl) ?_
     first
      |exact⟨2*p'+3 - (c+1),by omega,c+1,c,by omega,by omega,rfl,hcn,.inr ⟨hpc,by omega,by rcases hl2 with h|h;(rw[h]at hb';exact hb');omega⟩,fun x h1 h2 h3=>by by_cases e:x=c;(rw[e];exact Int.le_refl _);(have:=hl3 x h1 (by omega) h3;omega),rfl⟩
      |exact⟨2*p'+3 - (c+1),by omega,c+1,l,by omega,by omega,rfl,hl,hl2,fun x h1 h2 h3=>by by_cases e:x=c;(rw[e];omega);exact hl3 x h1 (by omega) h3,rfl⟩
    ·have hb':=of_decide_eq_false hb
     refine aj<|aB (.a 1 rfl<|.v (aT rfl) rfl<|.a 1 rfl<|.k [0,1,4,5] rfl) ?_
     first
      |exact⟨2*p'+3 - (c+1),by omega,c+1,c,by omega,by omega,rfl,hcn,.inr ⟨hpc,by omega,by rcases hl2 with h|h;(rw[h]at hb';exact hb');omega⟩,fun x h1 h2 h3=>by by_cases e:x=c;(rw[e];exact Int.le_refl _);(have:=hl3 x h1 (by omega) h3;omega),rfl⟩
      |exact⟨2*p'+3 - (c+1),by omega,c+1,l,by omega,by omega,rfl,hl,hl2,fun x h1 h2 h3=>by by_cases e:x=c;(rw[e];omega);exact hl3 x h1 (by omega) h3,rfl⟩
   ·have hmin:∀x,0<x→x<n→par x=p'→rk K O' l≤rk K O' x:=fun x h0 hx hpx=>by
     refine hl3 x (by unfold par at hpx;omega) ?_ hx
     rcases Nat.lt_or_ge x c with h|h
     ·exact h
     ·exfalso
      have hx2:=Fo h0 hpx
      have h1:q1=true:=by rw[←hq1];simp;omega
      rw[h1]at hc
      simp only[Bool.true_and]at hc
      rw[hc]at hq2
      have:=of_decide_eq_false hq2
      omega
    clear hc hq1 hq2 hl3
    refine bf<|ak<|ab (.a 3 rfl<|.k [0,1,4,52] rfl)<|ah rfl (fun hc=>?_) (fun hc=>?_)
    ·have hlp:l=p':=by have:=of_decide_eq_true hc;omega
     refine aq<|⟨_,az.of rfl,P',O',rfl,hP',hO',?_,hH'⟩
     refine yP hdn fun x h0 hx hpx=>?_
     have:=hmin x h0 hx hpx
     rw[hlp]at this
     exact this
    ·have hlp:l≠p':=by have:=of_decide_eq_false hc;omega
     obtain⟨hlp1,hl0,hllt⟩:=hl2.resolve_left hlp
     refine aj<|aR<|au 3 rfl<|cQ rfl rfl (bU.mono (rF _ d K P' O' hP' hO' hN p' l (by omega) (by omega)) (fun _ σ' h=>?_))
     subst h
     refine aH [0,4] rfl ?_
     refine aB (.a 2 rfl<|.k [0,1] rfl) ?_
     have hpl:=fi hl0
     refine⟨n - l,by omega,gI P' O' p' l,dK O' p' l,l,hP'.swap (by omega) (by omega),by rw[fR];exact hO',?_,hl,fun i=>(lU O' p' l (by omega) (by omega) i).trans (hH' i),rfl,rfl⟩
     rw[zr K O' p' l (by omega) (by omega)]
     exact yb hdn hl0 hl hlp1 hllt hmin
def BY(N n:Nat)(K P O:List Int):Prop:=dt N P O∧O.length=n∧K.length=N∧rn (rk K O) n
theorem D9{N n:Nat}(d:Option cU)(hd:kD d)(K P O:List Int)(h:BY N (n+1) K P O)(hN:N≤65536)(i:Nat)(hi:O.getD 0 0=(i:Int)):
  bU Tryz.prog 214 [.ptr 1 0,num 0] (ia false d N (n+1) K P O) (fun _ σ'=>∃P' O',σ'=ia true d N n (K.set i 0) P' O'∧BY N n (K.set i 0) P' O'∧∀j,eo O' j↔eo O j∧j≠(i:Int)):=by
 obtain⟨hP,hO,hK,hH⟩:=h
 have hlen:=iV hP
 have hiN:i<N:=by have:=(hP.item 0 (by omega)).2.1;rw[hi]at this;omega
 have hPs:=hP.swap (p:=0) (q:=n) (by omega) (by omega)
 have hg:(dK O 0 n).getD n 0=(i:Int):=by rw[dE O 0 n n (by omega) (by omega),if_pos rfl,hi]
 have hPp:=hPs.pop (m:=n) (by rw[fR];exact hO)
 rw[hg,Int.toNat_natCast]at hPp
 have hheld:∀j,eo ((dK O 0 n).take n) j↔eo O j∧j≠(i:Int):=fun j=>by
  rw[Eo hPs (by rw[fR];exact hO) j,hg,lU O 0 n (by omega) (by omega)]
 have hOt:((dK O 0 n).take n).length=n:=by rw[List.length_take,fR];omega
 have hPll:(gI P O 0 n).length=N:=hPs.len
 have hrk:∀x,x<n→x≠0→rk (K.set i 0) ((dK O 0 n).take n) x=rk K O x:=fun x hx hx0=>by
  unfold rk
  rw[ll _ _ _ hx,dE O 0 n x (by omega) (by omega),if_neg (by omega),if_neg hx0]
  unfold jC
  have hne:(O.getD x 0).toNat≠i:=fun e=>by
   have h1:=hP.item x (by omega)
   have:=hP.inj (p:=x) (q:=0) (by omega) (by omega) (by rw[hi];omega)
   omega
  rw[ek _ _ _ _ (by omega),if_neg hne]
 have hloose:nG (rk (K.set i 0) ((dK O 0 n).take n)) n 0:=yx hH hrk
 refine cr Tryz.func214 rfl Tryz.ntmps214 rfl<|ab (.a 5 rfl<|.v (aT rfl (hc:=(show(((n+1:Nat):Int)) - 1=(n:Int) by omega))) rfl<|.a 1 rfl<|.k [0,1,4] rfl)<|ab (.a 5 rfl<|.v (aM (0) rfl) rfl<|.v (aO rfl ((aA O 0 (by omega)).trans (by rw[hi]))) rfl<|.a 1 rfl<|.k [0,1,4,5] rfl)<|aR<|au 3 rfl<|cQ rfl rfl (bU.mono (rF false d K P O hP hO hN 0 n (by omega) (by omega)) (fun _ σ' h=>?_))
 subst h
 refine aH [0,1,4,5] rfl ?_
 refine aR<|au 6 rfl<|cz (nL rfl (bL.el.get rfl) rfl rfl rfl rfl (by omega)) rfl<|au 3 rfl ?_
 refine ee [0,1,2,3,4,5] (.c 0<|.c 1<|.c 4<|.c 5<|.nil) (.same hd rfl<|.kept rfl (.cells (aE.c<|aE.c<|aE.c<|aE.nil))<|.kept rfl (.row aE.pure)<|.kept rfl (.row aE.pure)<|.gone<|.kept rfl (.fm rfl (show(aP (dK O 0 n)).take (n*1)=aP ((dK O 0 n).take n) by rw[Nat.mul_one];unfold aP;rw[List.map_take]))<|.nil) rfl rfl (aZ ?_)
 refine lj 11 20 mixed (
  .val [0] rfl (bF rfl) rfl rfl<|
  .val [32] rfl (bF rfl) rfl rfl<|
  .val [33] rfl (bF rfl) rfl rfl<|
  .val [34] rfl (bF rfl) rfl rfl<|
  .val [5] rfl (bF rfl) rfl rfl<|
  .val [0] rfl (bF rfl) rfl rfl<|
  .val [37] rfl (bF rfl) rfl rfl<|
  .val [38] rfl (bF rfl) rfl rfl<|
  .val [39] rfl (bF rfl) rfl rfl<|
  .late [5] rfl (nc rfl rfl) inferInstance rfl rfl<|
  .val [35,36] rfl (aM (i) rfl) rfl rfl<|
  .nil) (by kernel_rfl) rfl rfl (bm (ks:=[0,1,4,40,41,42]) rfl) ?_
 refine bd ((by first|exact bG rfl (bL.tk.get rfl) rfl rfl rfl (by first|omega|(simp;omega))|exact aV rfl (bL.tk.get rfl) rfl rfl rfl (by first|omega|(simp;omega)))) rfl rfl<|bE (aM (i) rfl) rfl<|bd ((by first|exact bG rfl (bL.tk.get rfl) rfl rfl rfl (by first|omega|(simp;omega))|exact aV rfl (bL.tk.get rfl) rfl rfl rfl (by first|omega|(simp;omega)))) rfl rfl<|aH [0,1,4] rfl ?_
 refine ab (.a 3 rfl<|.k [0,1,46] rfl)<|ah rfl (fun hc=>?_) (fun hc=>?_)
 ·have hn0:0<n:=by have:=of_decide_eq_true hc;omega
  refine bI<|au 2 rfl<|cQ rfl rfl (bU.mono (mK true d (K.set i 0) ((gI P O 0 n).set i 0) ((dK O 0 n).take n) hPp hOt (by simpa using hK) hN 0 hn0 hloose) (fun _ σ' h=>?_))
  obtain⟨P',O',rfl,h1,h2,h3,h4⟩:=h
  refine aH [] rfl ?_
  first
   |exact⟨_,az.of rfl,P',O',rfl,⟨h1,h2,by simpa using hK,h3⟩,fun j=>(h4 j).trans (hheld j)⟩
   |exact⟨_,az.of rfl,(gI P O 0 n).set i 0,(dK O 0 n).take n,rfl,⟨hPp,hOt,by simpa using hK,fun q h0 hq=>by omega⟩,hheld⟩
 ·have hn0:n=0:=by have:=of_decide_eq_false hc;omega
  refine aj ?_
  first
   |exact⟨_,az.of rfl,P',O',rfl,⟨h1,h2,by simpa using hK,h3⟩,fun j=>(h4 j).trans (hheld j)⟩
   |exact⟨_,az.of rfl,(gI P O 0 n).set i 0,(dK O 0 n).take n,rfl,⟨hPp,hOt,by simpa using hK,fun q h0 hq=>by omega⟩,hheld⟩
theorem F5{N:Nat}(K P O:List Int)(hP:P.length=N)(hK:K.length=N)(hN:N≤65536)(i:Nat)(hi:i<N):
  Can Tryz.prog 200 [wT K P O,num i] (· = .tuple [num (if P.getD i 0=0 then 0 else K.getD i 0),flag (!decide (P.getD i 0=0))]):=by
 refine aG Tryz.func200 rfl Tryz.ntmps200 rfl<|ab (.a 2 rfl<|.k [0,1] rfl)<|ak ?_
 obtain⟨q1,hq1⟩:∃q,decide ((i:Int)<0)=q:=⟨_,rfl⟩
 obtain⟨q2,hq2⟩:∃q,decide ((K.length:Int)≤(i:Int))=q:=⟨_,rfl⟩
 obtain⟨q3,hq3⟩:∃q,decide (P.getD i 0=0)=q:=⟨_,rfl⟩
 refine bu 30 (.raw (.bool (q1||q2||q3))) [0,1] rfl ?_ ?_
 ·refine .a 4 rfl<|.v (cg rfl (hq1)) rfl<|.a 2 rfl<|?_
  cases q1
  ·refine .a 6 rfl<|.v (cg rfl (hq2)) rfl<|.a 2 rfl<|?_
   cases q2
   ·exact .a 5 rfl<|.v (aM (i) rfl) rfl<|.v (aO rfl (aA P i (by omega))) rfl<|.v (cg rfl (hq3)) rfl<|.a 1 rfl<|.k [30,0,1] rfl
   ·exact .a 9 rfl<|.k [30,0,1] rfl
  ·exact .a 18 rfl<|.k [30,0,1] rfl
 refine ah rfl (fun hc=>?_) (fun hc=>?_)
 ·have h1:q1=false:=by rw[←hq1];simp
  have h2:q2=false:=by rw[←hq2];simp;omega
  rw[h1,h2]at hc
  simp only[Bool.false_or]at hc
  rw[hc]at hq3
  refine ab (.a 2 rfl<|.k [4,5] rfl)<|aq<|⟨_,_,az.of rfl,aC.pure,?_⟩
  rw[hq3]
  first
   |(rw[if_pos (of_decide_eq_true hq3)];rfl)
   |(rw[if_neg (of_decide_eq_false hq3)];rfl)
 ·have hc3:q3=false:=by revert hc;cases q3<;>simp
  rw[hc3]at hq3
  refine aj<|ab (.a 5 rfl<|.v (aM (i) rfl) rfl<|.v (aO rfl (aA K i (by omega))) rfl<|.a 2 rfl<|.k [4,5] rfl)<|aq<|⟨_,_,az.of rfl,aC.pure,?_⟩
  rw[hq3]
  first
   |(rw[if_pos (of_decide_eq_true hq3)];rfl)
   |(rw[if_neg (of_decide_eq_false hq3)];rfl)
theorem ER{N n:Nat}(d:Option cU)(hd:kD d)(K P O:List Int)(h:BY N n K P O)(hN:N≤65536):
  bU Tryz.prog 199 [.ptr 1 0] (ia false d N n K P O) (fun r σ'=>(n=0∧r= .tuple [num 0,num 0,flag false]∧σ'=ia false d N n K P O)∨
   ∃(n' i:Nat) (P' O':List Int),n=n'+1∧i<N∧O.getD 0 0=(i:Int)∧r= .tuple [num i,num (K.getD i 0),flag true]∧σ'=ia true d N n' (K.set i 0) P' O'∧BY N n' (K.set i 0) P' O'∧∀j,eo O' j↔eo O j∧j≠(i:Int)):=by
 have h':=h
 obtain⟨hP,hO,hK,hH⟩:=h'
 refine cr Tryz.func199 rfl Tryz.ntmps199 rfl<|ab (.a 3 rfl<|.k [0] rfl)<|ak ?_
 obtain⟨q1,hq1⟩:∃q,decide ((n:Int)=0)=q:=⟨_,rfl⟩
 refine bu 14 (.raw (.bool (q1))) [0] rfl ?_ ?_
 ·exact .a 8 rfl<|.v (cg rfl (hq1)) rfl<|.a 1 rfl<|.k [14,0] rfl
 refine ah rfl (fun hc=>?_) (fun hc=>?_)
 ·have hn0:n=0:=by rw[hc]at hq1;have:=of_decide_eq_true hq1;omega
  refine ab (.a 3 rfl<|.k [2,3,4] rfl)<|aq ?_
  first
   |exact⟨_,az.of rfl,.inl ⟨hn0,rfl,rfl⟩⟩
   |exact⟨_,az.of rfl,.inr ⟨n',i,P',O',rfl,hiN,hi,rfl,rfl,h1,h2⟩⟩
 ·have hn0:n≠0:=by rw[hc]at hq1;have:=of_decide_eq_false hq1;omega
  obtain⟨n',rfl⟩:∃n',n=n'+1:=⟨n - 1,by omega⟩
  obtain⟨i,hi,hiN⟩:=jF hP (p:=0) (by omega)
  refine aj<|ab (.a 4 rfl<|.v (aM (0) rfl) rfl<|.v (aO rfl ((aA O 0 (by omega)).trans (by rw[hi]))) rfl<|.a 1 rfl<|.k [0,2] rfl)<|ab (.a 5 rfl<|.v (aM (i) rfl) rfl<|.v (aO rfl (aA K i (by omega))) rfl<|.a 1 rfl<|.k [0,2,3] rfl)<|aR<|au 1 rfl<|cQ rfl rfl (bU.mono (D9 d hd K P O h hN i hi) (fun _ σ' h=>?_))
  obtain⟨P',O',rfl,h1,h2⟩:=h
  refine aH [2,3] rfl ?_
  refine ab (.a 5 rfl<|.k [2,3,4] rfl)<|aq ?_
  first
   |exact⟨_,az.of rfl,.inl ⟨hn0,rfl,rfl⟩⟩
   |exact⟨_,az.of rfl,.inr ⟨n',i,P',O',rfl,hiN,hi,rfl,rfl,h1,h2⟩⟩
theorem DF{N:Nat}{P O:List Int}(hP:dt N P O){i:Nat}(hi:i<N)(h:P.getD i 0≠0):∃p,p<O.length∧O.getD p 0=(i:Int)∧P.getD i 0=(p:Int)+1:=by
 rcases hP.place i hi with h0|⟨p,hp,he⟩
 ·exact absurd h0 h
 ·have:=(hP.item p hp).2.2
  rw[he,Int.toNat_natCast]at this
  exact⟨p,hp,he,this⟩
theorem Cb{N:Nat}{K P O:List Int}(hP:dt N P O)(hK:K.length=N){i:Nat}(hi:i<N)(c:Int){x:Nat}(hx:x<O.length)(hne:O.getD x 0≠(i:Int)):rk (K.set i c) O x=rk K O x:=by
 unfold rk jC
 have h1:=hP.item x hx
 rw[ek _ _ _ _ (by omega),if_neg (by omega)]
theorem y6{N n:Nat}(d:Option cU)(hd:kD d)(K P O:List Int)(h:BY N n K P O)(hN:N≤65536)(i:Nat)(hi:i<N)(key:Int):
  bU Tryz.prog 198 [.ptr 1 0,num i,num key] (ia false d N n K P O) (fun r σ'=>∃(b:Bool) (n':Nat) (P' O':List Int),σ'=ia b d N n' (K.set i key) P' O'∧BY N n' (K.set i key) P' O'∧∀j,eo O' j↔eo O j∨j=(i:Int)):=by
 obtain⟨hP,hO,hK,hH⟩:=h
 have hlen:=iV hP
 have hPl:=hP.len
 refine cr Tryz.func198 rfl Tryz.ntmps198 rfl<|ab (.a 1 rfl<|.k [0,1,2] rfl)<|ak<|ab (.a 2 rfl<|.k [0,1,2,8] rfl)<|ah rfl (fun hc=>?_) (fun hc=>?_)
 ·cases hc
 ·refine aj<|ak ?_
  obtain⟨q1,hq1⟩:∃q,decide ((i:Int)<0)=q:=⟨_,rfl⟩
  obtain⟨q2,hq2⟩:∃q,decide ((N:Int)≤(i:Int))=q:=⟨_,rfl⟩
  refine bu 19 (.raw (.bool (q1||q2))) [0,1,2] rfl ?_ ?_
  ·refine .a 1 rfl<|.v (cg rfl (hq1)) rfl<|.a 1 rfl<|?_
   cases q1
   ·exact .a 6 rfl<|.v (cg rfl (hq2)) rfl<|.a 1 rfl<|.k [19,0,1,2] rfl
   ·exact .a 8 rfl<|.k [19,0,1,2] rfl
  refine ah rfl (fun hc=>?_) (fun hc=>?_)
  ·have h1:q1=false:=by rw[←hq1];simp
   have h2:q2=false:=by rw[←hq2];simp;omega
   rw[h1,h2]at hc
   cases hc
  ·refine aj<|aR<|au 6 rfl<|bE (aM (i) rfl) rfl<|bd ((by first|exact bG rfl (bL.tk.get rfl) rfl rfl rfl (by first|omega|(simp;omega))|exact aV rfl (bL.tk.get rfl) rfl rfl rfl (by first|omega|(simp;omega)))) rfl rfl<|aH [0,1] rfl ?_
   refine ak<|ab (.a 5 rfl<|.v (aM (i) rfl) rfl<|.v (aO rfl (aA P i (by omega))) rfl<|.a 1 rfl<|.k [0,1,34] rfl)<|ah rfl (fun hc=>?_) (fun hc=>?_)
   ·have hp0:P.getD i 0=0:=of_decide_eq_true hc
    have hnh:=(hP.zero hi).1 hp0
    have hPp:=hP.push hi hnh
    have hOl:(O++[(i:Int)]).length=n+1:=by simp[hO]
    rw[hO]at hPp
    have hPi2:(P.set i ((n:Int)+1)).getD i 0=(n:Int)+1:=by rw[ek _ _ _ _ (by omega),if_pos rfl]
    have hlt2:i<(P.set i ((n:Int)+1)).length:=by simp;omega
    have hsb:((n:Int)+1) - 1=(n:Int):=by omega
    have hnb:n<N:=by have:=iV hPp;simp at this;omega
    have hset:=mK true d (K.set i key) (P.set i ((n:Int)+1)) (O++[(i:Int)]) hPp hOl (by simpa using hK) hN n (by omega) (yq hH fun q hq=>by
     have e:(O++[(i:Int)]).getD q 0=O.getD q 0:=by simp[List.getD_eq_getElem?_getD,List.getElem?_append_left (show q<O.length by omega)]
     have:=Cb hP hK hi key (x:=q) (by omega) (fun e=>hnh ⟨q,by omega,e⟩)
     unfold rk at this ⊢
     rw[e];exact this)
    have hfin:∀j,eo (O++[(i:Int)]) j↔eo O j∨j=(i:Int):=fun j=>(Ag O i j).trans Or.comm
    refine aR<|au 7 rfl<|cz (bA rfl (bL.rk.get rfl) rfl rfl rfl rfl (by unfold maxLen;omega)) rfl<|au 3 rfl ?_
    refine ee [0,1,2,3,4,5] (.c 0<|.c 1<|.nil) (.same hd rfl<|.kept rfl (.cells (aE.c<|aE.c<|aE.c<|aE.nil))<|.kept rfl (.row aE.pure)<|.kept rfl (.row aE.pure)<|.gone<|.kept rfl (.fm rfl (dc _ _))<|.nil) rfl rfl (aZ ?_)
    refine dS 11 20 mixed (
     .val [0] rfl (bF rfl) rfl rfl<|
     .val [45] rfl (bF rfl) rfl rfl<|
     .val [46] rfl (bF rfl) rfl rfl<|
     .val [47] rfl (bF rfl) rfl rfl<|
     .val [1] rfl (bF rfl) rfl rfl<|
     .val [0] rfl (bF rfl) rfl rfl<|
     .val [50] rfl (bF rfl) rfl rfl<|
     .val [51] rfl (bF rfl) rfl rfl<|
     .val [52] rfl (bF rfl) rfl rfl<|
     .val [53] rfl (bF rfl) rfl rfl<|
     .val [48,49] rfl (aM (i) rfl) rfl rfl<|
     .nil) (by kernel_rfl) rfl rfl (bm (ks:=[0,1,54,55]) rfl) ?_
    refine bd ((by first|exact bG rfl (bL.tk.get rfl) rfl rfl rfl (by first|omega|(simp;omega))|exact aV rfl (bL.tk.get rfl) rfl rfl rfl (by first|omega|(simp;omega)))) rfl rfl<|aH [0,1] rfl ?_
    refine aR<|au 6 rfl<|bE (aM (i) rfl) rfl<|bE (aO rfl ((aA _ i hlt2).trans (congrArg (fun z=>some (PV.raw (.int .i64 z))) hPi2))) rfl<|bE (aT rfl (hc:=hsb)) rfl<|cQ rfl rfl (bU.mono hset (fun _ σ' h=>?_))
    obtain⟨P',O',rfl,h1,h2,h3,h4⟩:=h
    refine aH [] rfl ?_
    refine ab (.a 1 rfl<|.k [6] rfl)<|aq ?_
    first
     |exact⟨_,az.of rfl,true,_,P',O',rfl,⟨h1,h2,by simpa using hK,h3⟩,fun j=>(h4 j).trans (hfin j)⟩
     |exact⟨_,az.of rfl,false,_,P',O',rfl,⟨h1,h2,by simpa using hK,h3⟩,fun j=>(h4 j).trans (hfin j)⟩
   ·have hp0:P.getD i 0≠0:=of_decide_eq_false hc
    obtain⟨p,hp,hpi,hPi2⟩:=DF hP hi hp0
    have hlt2:i<P.length:=by omega
    have hsb:((p:Int)+1) - 1=(p:Int):=by omega
    have hset:=mK false d (K.set i key) P O hP hO (by simpa using hK) hN p (by omega) (xa hH (fun q hq hqp=>Cb hP hK hi key (x:=q) (by omega) (fun e=>hqp (hP.inj (by omega) hp (by rw[e,hpi])))) (by omega))
    have hfin:∀j,eo O j↔eo O j∨j=(i:Int):=fun j=>⟨.inl,fun h=>h.elim id fun e=>⟨p,hp,by rw[hpi,e]⟩⟩
    refine aj<|aR<|au 6 rfl<|bE (aM (i) rfl) rfl<|bE (aO rfl ((aA _ i hlt2).trans (congrArg (fun z=>some (PV.raw (.int .i64 z))) hPi2))) rfl<|bE (aT rfl (hc:=hsb)) rfl<|cQ rfl rfl (bU.mono hset (fun _ σ' h=>?_))
    obtain⟨P',O',rfl,h1,h2,h3,h4⟩:=h
    refine aH [] rfl ?_
    refine ab (.a 1 rfl<|.k [6] rfl)<|aq ?_
    first
     |exact⟨_,az.of rfl,true,_,P',O',rfl,⟨h1,h2,by simpa using hK,h3⟩,fun j=>(h4 j).trans (hfin j)⟩
     |exact⟨_,az.of rfl,false,_,P',O',rfl,⟨h1,h2,by simpa using hK,h3⟩,fun j=>(h4 j).trans (hfin j)⟩
end PW
end Go.Proofs.YtnegbdpggideiaaGreatDoor
namespace Go.Proofs.YtnegbdpggideiaaGreatDoor
namespace PW
open Go.RowKit cE Mem Net Heap
theorem EW(N:Nat)(d:Option cU)(hd:kD d)(hN:N≤65536):
  bU Tryz.prog 197 [num N] [d] (fun r σ'=>r= .tuple [.ptr 1 0,num 0]∧σ'=ia false d N 0 (List.replicate N 0) (List.replicate N 0) []):=by
 refine cr Tryz.func197 rfl Tryz.ntmps197 rfl<|ab (.a 2 rfl<|.k [0] rfl) ?_
 obtain⟨q1,hq1⟩:∃q,decide ((N:Int)<0)=q:=⟨_,rfl⟩
 obtain⟨q2,hq2⟩:∃q,decide ((65536:Int)<(N:Int))=q:=⟨_,rfl⟩
 refine ak<|bu 9 (.raw (.bool (q1||q2))) [0] rfl ?_ ?_
 ·refine .a 1 rfl<|.v (cg rfl (hq1)) rfl<|.a 1 rfl<|?_
  cases q1
  ·exact .a 1 rfl<|.v (cg rfl (hq2)) rfl<|.a 1 rfl<|.k [9,0] rfl
  ·exact .a 3 rfl<|.k [9,0] rfl
 have h1:q1=false:=by rw[←hq1];simp
 have h2:q2=false:=by rw[←hq2];simp;omega
 refine ah (b:=q1||q2) rfl (fun hc=>?_) (fun hc=>?_)
 ·rw[h1,h2]at hc
  cases hc
 ·clear hc hq1 hq2 h1 h2
  refine aj<|oP mixed ?_
  have hfin:W Tryz.prog 16 1 .ret ⟨[(2,.ptr 1 0),(3,num 0)],ia false d N 0 (List.replicate N 0) (List.replicate N 0) []⟩ (ID Tryz.prog Tryz.f197 (fun r σ'=>r= .tuple [.ptr 1 0,num 0]∧σ'=ia false d N 0 (List.replicate N 0) (List.replicate N 0) [])):=
   aq ⟨_,.cons (.tmp rfl) (.cons (.tmp rfl) .nil),rfl,rfl⟩
  refine bK 0 [2] (by kernel_rfl) ?_
  refine ba rfl rfl (bC (fC rfl rfl) rfl rfl rfl (aZ ?_)) ?_
  ·refine bK 1 [2] (by kernel_rfl) ?_
   refine ba rfl rfl (dq (dz rfl (bL.rk.get rfl) rfl rfl rfl rfl ⟨by unfold maxLen;omega,by omega⟩) rfl rfl rfl (aZ ?_)) ?_
   ·refine bK 2 [] (by kernel_rfl) ?_
    refine ba rfl rfl (bC (fC rfl rfl) rfl rfl rfl (aZ ?_)) bJ
    refine bK 3 [] (by kernel_rfl) ?_
    refine ba rfl rfl (dq (dz rfl (bL.rk.get rfl) rfl rfl rfl rfl ⟨by unfold maxLen;omega,by omega⟩) rfl rfl rfl (aZ ?_)) bJ
    refine bK 4 [] (by kernel_rfl) ?_
    refine ba rfl rfl (bC (iI (xs:=[_,_,_]) rfl (bL.st.get rfl) rfl rfl) rfl rfl rfl (aZ ?_)) bJ
    refine bK 5 [] (by kernel_rfl) ?_
    refine ba rfl rfl (dq (fJ rfl rfl rfl) rfl rfl rfl (aZ ?_)) bJ
    refine bK 6 [] (by kernel_rfl) ?_
    refine ba rfl rfl (bC (ef rfl rfl) rfl rfl rfl (aZ ?_)) bJ
    refine bK 7 [] (by kernel_rfl) ?_
    refine ba rfl rfl (bC (ef rfl rfl) rfl rfl rfl (aZ ?_)) bJ
    refine jz (by kernel_rfl) ?_
    refine cq 3 2 3 1 rfl rfl ?_
    exact dp [0,3,1,2,4] (.cons 2 rfl (Ren.ptr (i:=1) rfl)<|.cons 3 rfl Ren.pure<|.nil) (.same hd rfl<|.kept rfl (.cells (aE.cons (Ren.own (i:=2) rfl)<|aE.cons (Ren.own (i:=3) rfl)<|aE.cons (Ren.own (i:=4) rfl) aE.nil))<|.kept rfl (.fm rfl (cN N))<|.kept rfl (.fm rfl (cN N))<|.kept rfl (.row aE.pure)<|.nil) rfl rfl hfin
   refine ba rfl rfl (bC (fC rfl rfl) rfl rfl rfl (aZ ?_)) bJ
   refine bK 1 [3] (by kernel_rfl) ?_
   refine ba rfl rfl (dq (dz rfl (bL.rk.get rfl) rfl rfl rfl rfl ⟨by unfold maxLen;omega,by omega⟩) rfl rfl rfl (aZ ?_)) ?_
   ·refine bK 3 [] (by kernel_rfl) ?_
    refine ba rfl rfl (dq (dz rfl (bL.rk.get rfl) rfl rfl rfl rfl ⟨by unfold maxLen;omega,by omega⟩) rfl rfl rfl (aZ ?_)) bJ
    refine bK 4 [] (by kernel_rfl) ?_
    refine ba rfl rfl (bC (iI (xs:=[_,_,_]) rfl (bL.st.get rfl) rfl rfl) rfl rfl rfl (aZ ?_)) bJ
    refine bK 5 [] (by kernel_rfl) ?_
    refine ba rfl rfl (dq (fJ rfl rfl rfl) rfl rfl rfl (aZ ?_)) bJ
    refine bK 6 [] (by kernel_rfl) ?_
    refine ba rfl rfl (bC (ef rfl rfl) rfl rfl rfl (aZ ?_)) bJ
    refine bK 7 [] (by kernel_rfl) ?_
    refine ba rfl rfl (bC (ef rfl rfl) rfl rfl rfl (aZ ?_)) bJ
    refine jz (by kernel_rfl) ?_
    refine cq 3 2 3 1 rfl rfl ?_
    exact dp [0,3,1,2,4] (.cons 2 rfl (Ren.ptr (i:=1) rfl)<|.cons 3 rfl Ren.pure<|.nil) (.same hd rfl<|.kept rfl (.cells (aE.cons (Ren.own (i:=2) rfl)<|aE.cons (Ren.own (i:=3) rfl)<|aE.cons (Ren.own (i:=4) rfl) aE.nil))<|.kept rfl (.fm rfl (cN N))<|.kept rfl (.fm rfl (cN N))<|.kept rfl (.row aE.pure)<|.nil) rfl rfl hfin
   refine ba rfl rfl (dq (dz rfl (bL.rk.get rfl) rfl rfl rfl rfl ⟨by unfold maxLen;omega,by omega⟩) rfl rfl rfl (aZ ?_)) bJ
   refine bK 1 [] (by kernel_rfl) ?_
   refine ba rfl rfl (dq (dz rfl (bL.rk.get rfl) rfl rfl rfl rfl ⟨by unfold maxLen;omega,by omega⟩) rfl rfl rfl (aZ ?_)) bJ
   refine bK 4 [] (by kernel_rfl) ?_
   refine ba rfl rfl (bC (iI (xs:=[_,_,_]) rfl (bL.st.get rfl) rfl rfl) rfl rfl rfl (aZ ?_)) bJ
   refine bK 5 [] (by kernel_rfl) ?_
   refine ba rfl rfl (dq (fJ rfl rfl rfl) rfl rfl rfl (aZ ?_)) bJ
   refine bK 6 [] (by kernel_rfl) ?_
   refine ba rfl rfl (bC (ef rfl rfl) rfl rfl rfl (aZ ?_)) bJ
   refine bK 7 [] (by kernel_rfl) ?_
   refine ba rfl rfl (bC (ef rfl rfl) rfl rfl rfl (aZ ?_)) bJ
   refine jz (by kernel_rfl) ?_
   refine cq 3 2 3 1 rfl rfl ?_
   exact dp [0,3,2,1,4] (.cons 2 rfl (Ren.ptr (i:=1) rfl)<|.cons 3 rfl Ren.pure<|.nil) (.same hd rfl<|.kept rfl (.cells (aE.cons (Ren.own (i:=2) rfl)<|aE.cons (Ren.own (i:=3) rfl)<|aE.cons (Ren.own (i:=4) rfl) aE.nil))<|.kept rfl (.fm rfl (cN N))<|.kept rfl (.fm rfl (cN N))<|.kept rfl (.row aE.pure)<|.nil) rfl rfl hfin
  refine ba rfl rfl (bC (fC rfl rfl) rfl rfl rfl (aZ ?_)) bJ
  refine bK 0 [3] (by kernel_rfl) ?_
  refine ba rfl rfl (bC (fC rfl rfl) rfl rfl rfl (aZ ?_)) ?_
  ·refine bK 1 [3] (by kernel_rfl) ?_
   refine ba rfl rfl (dq (dz rfl (bL.rk.get rfl) rfl rfl rfl rfl ⟨by unfold maxLen;omega,by omega⟩) rfl rfl rfl (aZ ?_)) ?_
   ·refine bK 3 [] (by kernel_rfl) ?_
    refine ba rfl rfl (dq (dz rfl (bL.rk.get rfl) rfl rfl rfl rfl ⟨by unfold maxLen;omega,by omega⟩) rfl rfl rfl (aZ ?_)) bJ
    refine bK 4 [] (by kernel_rfl) ?_
    refine ba rfl rfl (bC (iI (xs:=[_,_,_]) rfl (bL.st.get rfl) rfl rfl) rfl rfl rfl (aZ ?_)) bJ
    refine bK 5 [] (by kernel_rfl) ?_
    refine ba rfl rfl (dq (fJ rfl rfl rfl) rfl rfl rfl (aZ ?_)) bJ
    refine bK 6 [] (by kernel_rfl) ?_
    refine ba rfl rfl (bC (ef rfl rfl) rfl rfl rfl (aZ ?_)) bJ
    refine bK 7 [] (by kernel_rfl) ?_
    refine ba rfl rfl (bC (ef rfl rfl) rfl rfl rfl (aZ ?_)) bJ
    refine jz (by kernel_rfl) ?_
    refine cq 3 2 3 1 rfl rfl ?_
    exact dp [0,3,1,2,4] (.cons 2 rfl (Ren.ptr (i:=1) rfl)<|.cons 3 rfl Ren.pure<|.nil) (.same hd rfl<|.kept rfl (.cells (aE.cons (Ren.own (i:=2) rfl)<|aE.cons (Ren.own (i:=3) rfl)<|aE.cons (Ren.own (i:=4) rfl) aE.nil))<|.kept rfl (.fm rfl (cN N))<|.kept rfl (.fm rfl (cN N))<|.kept rfl (.row aE.pure)<|.nil) rfl rfl hfin
   refine ba rfl rfl (dq (dz rfl (bL.rk.get rfl) rfl rfl rfl rfl ⟨by unfold maxLen;omega,by omega⟩) rfl rfl rfl (aZ ?_)) bJ
   refine bK 1 [] (by kernel_rfl) ?_
   refine ba rfl rfl (dq (dz rfl (bL.rk.get rfl) rfl rfl rfl rfl ⟨by unfold maxLen;omega,by omega⟩) rfl rfl rfl (aZ ?_)) bJ
   refine bK 4 [] (by kernel_rfl) ?_
   refine ba rfl rfl (bC (iI (xs:=[_,_,_]) rfl (bL.st.get rfl) rfl rfl) rfl rfl rfl (aZ ?_)) bJ
   refine bK 5 [] (by kernel_rfl) ?_
   refine ba rfl rfl (dq (fJ rfl rfl rfl) rfl rfl rfl (aZ ?_)) bJ
   refine bK 6 [] (by kernel_rfl) ?_
   refine ba rfl rfl (bC (ef rfl rfl) rfl rfl rfl (aZ ?_)) bJ
   refine bK 7 [] (by kernel_rfl) ?_
   refine ba rfl rfl (bC (ef rfl rfl) rfl rfl rfl (aZ ?_)) bJ
   refine jz (by kernel_rfl) ?_
   refine cq 3 2 3 1 rfl rfl ?_
   exact dp [0,3,2,1,4] (.cons 2 rfl (Ren.ptr (i:=1) rfl)<|.cons 3 rfl Ren.pure<|.nil) (.same hd rfl<|.kept rfl (.cells (aE.cons (Ren.own (i:=2) rfl)<|aE.cons (Ren.own (i:=3) rfl)<|aE.cons (Ren.own (i:=4) rfl) aE.nil))<|.kept rfl (.fm rfl (cN N))<|.kept rfl (.fm rfl (cN N))<|.kept rfl (.row aE.pure)<|.nil) rfl rfl hfin
  refine ba rfl rfl (dq (dz rfl (bL.rk.get rfl) rfl rfl rfl rfl ⟨by unfold maxLen;omega,by omega⟩) rfl rfl rfl (aZ ?_)) bJ
  refine bK 0 [] (by kernel_rfl) ?_
  refine ba rfl rfl (bC (fC rfl rfl) rfl rfl rfl (aZ ?_)) bJ
  refine bK 1 [] (by kernel_rfl) ?_
  refine ba rfl rfl (dq (dz rfl (bL.rk.get rfl) rfl rfl rfl rfl ⟨by unfold maxLen;omega,by omega⟩) rfl rfl rfl (aZ ?_)) bJ
  refine bK 4 [] (by kernel_rfl) ?_
  refine ba rfl rfl (bC (iI (xs:=[_,_,_]) rfl (bL.st.get rfl) rfl rfl) rfl rfl rfl (aZ ?_)) bJ
  refine bK 5 [] (by kernel_rfl) ?_
  refine ba rfl rfl (dq (fJ rfl rfl rfl) rfl rfl rfl (aZ ?_)) bJ
  refine bK 6 [] (by kernel_rfl) ?_
  refine ba rfl rfl (bC (ef rfl rfl) rfl rfl rfl (aZ ?_)) bJ
  refine bK 7 [] (by kernel_rfl) ?_
  refine ba rfl rfl (bC (ef rfl rfl) rfl rfl rfl (aZ ?_)) bJ
  refine jz (by kernel_rfl) ?_
  refine cq 3 2 3 1 rfl rfl ?_
  exact dp [0,3,2,1,4] (.cons 2 rfl (Ren.ptr (i:=1) rfl)<|.cons 3 rfl Ren.pure<|.nil) (.same hd rfl<|.kept rfl (.cells (aE.cons (Ren.own (i:=2) rfl)<|aE.cons (Ren.own (i:=3) rfl)<|aE.cons (Ren.own (i:=4) rfl) aE.nil))<|.kept rfl (.fm rfl (cN N))<|.kept rfl (.fm rfl (cN N))<|.kept rfl (.row aE.pure)<|.nil) rfl rfl hfin
end PW
end Go.Proofs.YtnegbdpggideiaaGreatDoor
namespace Go.Proofs.YtnegbdpggideiaaGreatDoor
namespace Net
def eW(T:ai)(dir:Bool)(a:Nat):Int:=if dir then aS T a else bb T a
def cJ(T:ai)(dir:Bool)(a:Nat):Int:=if dir then bb T a else aS T a
def at'(l:List Int)(x:Int):Int:=l.getD x.toNat (-1)
def Way(T:ai)(D:List Bool)(n:Nat)(dir:Bool)(out:List Int)(a:Nat):Prop:=
 aL D a=false∧0≤at' out (cJ T dir a)∧(cJ T dir a=(n:Int)∨cR T (cJ T dir a).toNat=false)
structure ik (T:ai) (D:List Bool) (n:Nat) (dir:Bool) (out:List Int):Prop where
 len:(out.length:Int)=T.nodes
 root:at' out (n:Int)=0
 ge:∀x:Nat,(x:Int)<T.nodes→ -1≤at' out (x:Int)
 closed:∀a,a<2*T.ae.length→Way T D n dir out a→0≤at' out (eW T dir a)∧at' out (eW T dir a)≤at' out (cJ T dir a)+cb T a
 my:∀x:Nat,(x:Int)<T.nodes→0≤at' out (x:Int)→x=n∨∃a,a<2*T.ae.length∧eW T dir a=(x:Int)∧Way T D n dir out a∧at' out (x:Int)=at' out (cJ T dir a)+cb T a
structure Sound (T:ai):Prop where
 cost:∀a,a<2*T.ae.length→1≤cb T a∧cb T a≤65535
 tail:∀a,a<2*T.ae.length→0≤bb T a∧bb T a<T.nodes
 head:∀a,a<2*T.ae.length→0≤aS T a∧aS T a<T.nodes
 nodes:1≤T.nodes∧T.nodes≤64
theorem Sound.x{T:ai}(h:Sound T)(dir:Bool)(a:Nat)(ha:a<2*T.ae.length):0≤eW T dir a∧eW T dir a<T.nodes:=by
 unfold eW;cases dir
 ·exact h.tail a ha
 ·exact h.head a ha
theorem Sound.y{T:ai}(h:Sound T)(dir:Bool)(a:Nat)(ha:a<2*T.ae.length):0≤cJ T dir a∧cJ T dir a<T.nodes:=by
 unfold cJ;cases dir
 ·exact h.head a ha
 ·exact h.tail a ha
theorem tr{T:ai}(hT:Sound T){D:List Bool}{n:Nat}{dir:Bool}{out out':List Int}(h:ik T D n dir out)(h':ik T D n dir out'):
  ∀(k:Nat) (x:Nat),(x:Int)<T.nodes→at' out (x:Int)=(k:Int)→0≤at' out' (x:Int)∧at' out' (x:Int)≤at' out (x:Int):=by
 intro k
 induction k using Nat.strongRecOn with
 |_ k ih=>
  intro x hx hk
  rcases h.my x hx (by omega)with rfl|⟨a,ha,hax,⟨w1,w2,w3⟩,he⟩
  ·rw[h'.root];omega
  ·have hc:=hT.cost a ha
   obtain⟨y,hy⟩:=Int.eq_ofNat_of_zero_le (hT.y dir a ha).1
   have hyn:=(hT.y dir a ha).2
   rw[hy]at w2 w3 he hyn
   obtain⟨j,hj⟩:=Int.eq_ofNat_of_zero_le w2
   have hlt:j<k:=by omega
   have h1:=ih j hlt y hyn hj
   have h2:=h'.closed a ha ⟨w1,by rw[hy];exact h1.1,by rw[hy];exact w3⟩
   rw[hax,hy]at h2
   exact⟨h2.1,by omega⟩
theorem Eh(out:List Int)(x:Nat)(hx:x<out.length):at' out (x:Int)=out[x]:=by
 simp[at',hx]
theorem wU{T:ai}(hT:Sound T){D:List Bool}{n:Nat}{dir:Bool}{out out':List Int}(h:ik T D n dir out)(h':ik T D n dir out'):out=out':=by
 have hl:out.length=out'.length:=by have:=h.len;have:=h'.len;omega
 refine List.ext_getElem hl fun x h1 h2=>?_
 have hx:(x:Int)<T.nodes:=by have:=h.len;omega
 rw[←Eh out x h1,←Eh out' x h2]
 have g1:=h.ge x hx
 have g2:=h'.ge x hx
 by_cases c1:0≤at' out (x:Int)
 ·obtain⟨k,hk⟩:=Int.eq_ofNat_of_zero_le c1
  have a1:=tr hT h h' k x hx hk
  obtain⟨k',hk'⟩:=Int.eq_ofNat_of_zero_le a1.1
  have a2:=tr hT h' h k' x hx hk'
  omega
 ·by_cases c2:0≤at' out' (x:Int)
  ·obtain⟨k,hk⟩:=Int.eq_ofNat_of_zero_le c2
   have a1:=tr hT h' h k x hx hk
   omega
  ·omega
open Classical in
noncomputable def br(T:ai)(D:List Bool)(n:Nat)(dir:Bool):List Int:=if h:∃out,ik T D n dir out then h.choose else []
theorem jN{T:ai}(hT:Sound T){D:List Bool}{n:Nat}{dir:Bool}{out:List Int}(h:ik T D n dir out):br T D n dir=out:=by
 unfold br
 rw[dif_pos ⟨out,h⟩]
 exact wU hT (Exists.choose_spec (⟨out,h⟩:∃out,ik T D n dir out)) h
end Net
end Go.Proofs.YtnegbdpggideiaaGreatDoor
