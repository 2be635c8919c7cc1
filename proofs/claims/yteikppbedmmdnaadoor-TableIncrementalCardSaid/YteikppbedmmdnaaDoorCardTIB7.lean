/- Texts of the proof, part 7. -/
import Derived.Laws.CopyRow
import Derived.Laws.IdiomCopy
import Derived.Test.YteikppbedmmdnaaDoorCardTIB6
set_option linter.unusedVariables false
set_option linter.unusedSimpArgs false
set_option maxRecDepth 10000
set_option maxHeartbeats 1000000
namespace Go.Proofs.YteikppbedmmdnaaDoor
namespace PW
section
open Go.RowKit cX Mem
section
variable {P:Program} {N L:Nat}
def o1(ops:Array Oper)(f m q:Nat)(gs:List GD):Bool:=
  Nat.beq gs.length ops.size&&
  ((List.range ops.size).all fun i=>(gr ops i).all fun k=>decide (k<i))&&
  ((List.range ops.size).all fun i=>(List.range i).all fun j=>(a6 ops i).isNone||a6 ops i !=a6 ops j)&&
  ((List.range ops.size).all fun j=>(bT ops j).all fun k=>(List.range ops.size).all fun i=>a6 ops i !=some k||cg ops f j i)&&
  ((List.range ops.size).all fun i => match gs[i]? with
    |some ⟨_,some r,_,_⟩=>decide (r<m)&&(Nat.ble r q||(List.range ops.size).any fun j=>cF gs j==some (r - 1)&&cg ops f i j)
    |some ⟨_,none,lo,hi⟩=>(Nat.beq lo 0||(List.range ops.size).any fun j=>cF gs j==some (lo - 1)&&cg ops f i j)&&(Nat.ble m hi||(List.range ops.size).any fun j=>cF gs j==some hi&&cg ops f j i)
    |none=>false)&&
  ((List.range ops.size).all fun i=>(List.range i).all fun j=>(cF gs i).isNone||cF gs i !=cF gs j)&&
  ((List.range m).all fun r=>(List.range ops.size).any fun j=>cF gs j==some r)
structure ov (ops:Array Oper) (f m q:Nat) (gs:List GD):Prop where
 len:gs.length=ops.size
 gr:∀i,i<ops.size→∀k∈gr ops i,k<i
 ss:∀i j d,i<ops.size→j<ops.size→a6 ops i=some d→a6 ops j=some d→i=j
 rd:∀j,j<ops.size→∀k∈bT ops j,∀i,i<ops.size→a6 ops i=some k→cg ops f j i=true
 jb:∀(i:Nat) g r,gs[i]? =some g→g.r=some r→r<m∧(r≤q∨∃j,j<ops.size∧cF gs j=some (r - 1)∧cg ops f i j=true)
 quiet:∀(i:Nat) g,gs[i]? =some g→g.r=none→(g.lo=0∨∃j,j<ops.size∧cF gs j=some (g.lo - 1)∧cg ops f i j=true)∧(m≤g.hi∨∃j,j<ops.size∧cF gs j=some g.hi∧cg ops f j i=true)
 one:∀i j r,i<ops.size→j<ops.size→cF gs i=some r→cF gs j=some r→i=j
 has:∀r,r<m→∃j,j<ops.size∧cF gs j=some r
theorem lx{ops:Array Oper}{f m q:Nat}{gs:List GD}(h:o1 ops f m q gs=true):ov ops f m q gs:=by
 unfold o1 at h
 simp only[Bool.and_eq_true]at h
 obtain⟨⟨⟨⟨⟨⟨h1,h2⟩,h3⟩,h4⟩,h5⟩,h6⟩,h7⟩:=h
 have hl:gs.length=ops.size:=Nat.eq_of_beq_eq_true h1
 have all:∀ {n:Nat} {p:Nat→Bool},(List.range n).all p=true→∀i,i<n→p i=true:=fun h i hi=>List.all_eq_true.1 h i (List.mem_range.2 hi)
 have any:∀ {n:Nat} {p:Nat→Bool},(List.range n).any p=true→∃i,i<n∧p i=true:=fun h=>by
  obtain⟨i,hi,hp⟩:=List.any_eq_true.1 h
  exact⟨i,List.mem_range.1 hi,hp⟩
 have s3:∀i j d,i<ops.size→j<i→a6 ops i=some d→a6 ops j=some d→False:=fun i j d hi hj e1 e2=>by
  have:=all (all h3 i hi) j hj
  rw[e1,e2]at this
  simp at this
 have s6:∀i j r,i<ops.size→j<i→cF gs i=some r→cF gs j=some r→False:=fun i j r hi hj e1 e2=>by
  have:=all (all h6 i hi) j hj
  rw[e1,e2]at this
  simp at this
 refine⟨hl,fun i hi k hk=>?_,fun i j d hi hj e1 e2=>?_,fun j hj k hk i hi hd=>?_,fun i g r hg hr=>?_,fun i g hg hr=>?_,fun i j r hi hj e1 e2=>?_,fun r hr=>?_⟩
 ·have:=List.all_eq_true.1 (all h2 i hi) k hk;simpa using this
 ·rcases Nat.lt_trichotomy i j with h|h|h
  ·exact(s3 j i d hj h e2 e1).elim
  ·exact h
  ·exact(s3 i j d hi h e1 e2).elim
 ·have:=all (List.all_eq_true.1 (all h4 j hj) k hk) i hi
  rw[hd]at this
  simpa using this
 ·have hi:i<ops.size:=by rw[←hl];exact(List.getElem?_eq_some_iff.1 hg).1
  have:=all h5 i hi
  obtain⟨p,r',lo,hi'⟩:=g
  simp only at hr
  subst hr
  rw[hg]at this
  simp only[Bool.and_eq_true,decide_eq_true_eq,Bool.or_eq_true]at this
  refine⟨this.1,?_⟩
  rcases this.2 with h|h
  ·exact .inl (Nat.ble_eq.mp h)
  ·obtain⟨j,hj,h'⟩:=any h
   simp only[Bool.and_eq_true,beq_iff_eq]at h'
   exact .inr ⟨j,hj,h'.1,h'.2⟩
 ·have hi:i<ops.size:=by rw[←hl];exact(List.getElem?_eq_some_iff.1 hg).1
  have:=all h5 i hi
  obtain⟨p,r',lo,hi'⟩:=g
  simp only at hr
  subst hr
  rw[hg]at this
  simp only[Bool.and_eq_true,Bool.or_eq_true]at this
  refine⟨?_,?_⟩
  ·rcases this.1 with h|h
   ·exact .inl (Nat.eq_of_beq_eq_true h)
   ·obtain⟨j,hj,h'⟩:=any h
    simp only[Bool.and_eq_true,beq_iff_eq]at h'
    exact .inr ⟨j,hj,h'.1,h'.2⟩
  ·rcases this.2 with h|h
   ·exact .inl (Nat.ble_eq.mp h)
   ·obtain⟨j,hj,h'⟩:=any h
    simp only[Bool.and_eq_true,beq_iff_eq]at h'
    exact .inr ⟨j,hj,h'.1,h'.2⟩
 ·rcases Nat.lt_trichotomy i j with h|h|h
  ·exact(s6 j i r hj h e2 e1).elim
  ·exact h
  ·exact(s6 i j r hi h e1 e2).elim
 ·obtain⟨j,hj,h⟩:=any (all h7 r hr)
  exact⟨j,hj,by simpa using h⟩
section
variable {l:List Oper} {gs:List GD} {σs:List ba} {t T:bo} {f m q base:Nat} {F:Nat→Prop}
theorem pw.gz(hG:ov l.toArray f m q gs){ls:Array Bool}{r:Nat}{E:Env}{a:Act}{w:World}(h:pw base N F l gs σs t ls r E a w){i j:Nat}(hi:i<l.length)(hr:cg l.toArray f i j=true)(hk:∀k∈gr l.toArray i,ls.getD k false=true):ls.getD j true=true:=by
 have:=dC (by rw[h.size];simp) h.down (fun i hi=>hG.gr i hi) f i j (by simpa using hi) hr hk
 by_cases hj:j<ls.size
 ·rw[oJ hj true false];exact this
 ·simp[hj]
theorem pw.nY(hG:ov l.toArray f m q gs)(hT:fF l (gs.map (·.p)) t=T){ls:Array Bool}{r:Nat}{E:Env}{a:Act}{w:World}(h:pw base N F l gs σs t ls r E a w){i:Nat}(hi:i<l.length)(hk:∀k∈gr l.toArray i,ls.getD k false=true):
  ∀k∈bT l.toArray i,∀p,look k T=some p→bK E w (a.eval (.tmp k)) p:=fun k hks p hp=>by
 rw[←hT]at hp
 rcases fI _ _ _ k p hp with⟨j,o,h1,h2,h3⟩|h'
 ·rw[List.getElem?_map,Option.map_eq_some_iff]at h3
  obtain⟨g,hg,rfl⟩:=h3
  have hj:j<l.length:=(List.getElem?_eq_some_iff.1 h1).1
  have hd:a6 l.toArray j=some k:=by simp only[a6,List.getElem?_toArray,h1,Option.bind_some,h2]
  have hr:=hG.rd i (by simpa using hi) k hks j (by simpa using hj) hd
  exact h.sO j k g hj (h.gz hG hi hr hk) hd hg
 ·exact h.t0 k p h'
theorem pw.jB(hG:ov l.toArray f m q gs)(hfr:∀i d,i<l.length→a6 l.toArray i=some d→look d t=none){ls:Array Bool}{r r':Nat}{E E':Env}{a:Act}{w w':World}(h:pw base N F l gs σs t ls r E a w){i:Nat}{g:GD}{v:Value}(hi:i<l.length)(hu:ls.getD i true=false)(hk:∀k∈gr l.toArray i,ls.getD k false=true)(hg:gs[i]? =some g)(hgo:bJ E w E' w')
  (hs:∃σ,σs[r']? =some σ∧Sat F base σ E' w') (hr:(g.r=none∧r'=r)∨(g.r=some r∧r'=r+1)) {o:Oper} (ho:l[i]? =some o) (hdN:∀d,o.dst=some d→d<N) (hv:∀d,o.dst=some d→bK E' w' v g.p):
  pw base N F l gs σs t (ls.setIfInBounds i true) r' E' (a.put o.dst v) w':=by
 have hil:i<ls.size:=by rw[h.size];exact hi
 have hrk:cF gs i=g.r:=by simp only[cF,hg,Option.bind_some]
 have hdi:a6 l.toArray i=o.dst:=by simp only[a6,List.getElem?_toArray,ho,Option.bind_some]
 refine⟨by simpa using h.size,fun j hj hjs k hkj=>?_,fun j s hj hs'=>?_,hs,by cases o.dst<;>simpa[Act.put]using h.gI,by cases o.dst<;>simpa[Act.put]using h.tmps,fun k p hkp=>?_,fun j d g' hj hjl hd hg'=>?_⟩
 ·rw[iM _ _ _ _ hil]at hj ⊢
  split
  ·rfl
  ·by_cases e:j=i
   ·subst e;exact hk k hkj
   ·rw[if_neg e]at hj
    exact h.down j hj hjs k hkj
 ·rw[iM _ _ _ _ hil]
  by_cases e:j=i
  ·subst e
   rw[if_pos rfl]
   rw[hrk]at hs'
   rcases hr with⟨h1,_⟩|⟨h1,h2⟩
   ·rw[h1]at hs';cases hs'
   ·rw[h1]at hs';cases hs';exact⟨fun _=>by omega,fun _=>rfl⟩
  ·rw[if_neg e,h.rk j s hj hs']
   rcases hr with⟨_,h2⟩|⟨h1,h2⟩
   ·rw[h2]
   ·have:s≠r:=fun e'=>e (hG.one j i r (by simpa using hj) (by simpa using hi) (by rw[hs',e']) (by rw[hrk,h1]))
    omega
 ·have hne:∀d,o.dst=some d→k≠d:=fun d hd e=>by
   subst e
   rw[hfr i k hi (by rw[hdi,hd])]at hkp;cases hkp
  have:(a.put o.dst v).eval (.tmp k)=a.eval (.tmp k):=Act.eval_put fun d hd heq=>by cases heq;exact hne _ hd rfl
  rw[this]
  exact(h.t0 k p hkp).goes hgo
 ·rw[iM _ _ _ _ hil]at hjl
  by_cases e:j=i
  ·subst e
   rw[hdi]at hd
   rw[hg]at hg';cases hg'
   rw[hd,dT a (by rw[h.tmps];exact hdN d hd),if_pos rfl]
   exact hv d hd
  ·rw[if_neg e]at hjl
   have hne:∀d',o.dst=some d'→d≠d':=fun d' hd' e'=>by
    subst e'
    exact e (hG.ss j i d (by simpa using hj) (by simpa using hi) hd (by rw[hdi,hd']))
   have:(a.put o.dst v).eval (.tmp d)=a.eval (.tmp d):=Act.eval_put fun d' hd' heq=>by cases heq;exact hne _ hd' rfl
   rw[this]
   exact(h.sO j d g' hj hjl hd hg').goes hgo
theorem gS(hG:ov l.toArray f m q gs)(hT:fF l (gs.map (·.p)) t=T)(hfr:∀i d,i<l.length→a6 l.toArray i=some d→look d t=none)(hL:GL P N l.toArray σs T l gs){σm:ba}(hm:σs[m]? =some σm){Q:Exit→Act→World→Prop}{E₀:Env}{w₀:World}(hq:∀a' w' E',Sat F base σm E' w'→cZ E' w' a'.eval T→a'.defers=[]→a'.tmps.size=N→bJ E₀ w₀ E' w'→Below base w₀ w'→Q .normal a' w'):
  ∀(fuel:Nat) (ls:Array Bool) (r:Nat) (E:Env) (a:Act) (w:World),pw base N F l gs σs t ls r E a w→aS ls l.length=fuel→bJ E₀ w₀ E w→Below base w₀ w→r≤m→q≤r→wpAny P .any l.toArray Q fuel ls a w:=by
 obtain⟨hgl,hget⟩:=hL.get
 intro fuel
 induction fuel with
 |zero=>
  intro ls r E a w h hu hgo hb hrm hqr
  have hall:=bQ hu
  have hrm':r=m:=by
   rcases Nat.lt_or_ge r m with h'|h'
   ·obtain⟨j,hj,hjr⟩:=hG.has r h'
    have hj:j<l.length:=by simpa using hj
    have:=(h.rk j r hj hjr).1 (hall j hj)
    omega
   ·omega
  subst hrm'
  refine⟨List.eq_nil_iff_forall_not_mem.2 fun i hi=>?_,?_⟩
  ·obtain⟨h1,h2,_⟩:=cx.1 hi
   rw[hall i (by simpa using h1)]at h2;cases h2
  ·obtain⟨σ,hσ,hs⟩:=h.sat
   rw[hm]at hσ;cases hσ
   refine hq a w E hs (fun k p hkp=>?_) h.gI h.tmps hgo hb
   rw[←hT]at hkp
   rcases fI _ _ _ k p hkp with⟨j,o,h1,h2,h3⟩|h'
   ·rw[List.getElem?_map,Option.map_eq_some_iff]at h3
    obtain⟨g,hg,rfl⟩:=h3
    have hj:j<l.length:=(List.getElem?_eq_some_iff.1 h1).1
    exact h.sO j k g hj (hall j hj) (by simp only[a6,List.getElem?_toArray,h1,Option.bind_some,h2]) hg
   ·exact h.t0 k p h'
 |succ fuel ih=>
  intro ls r E a w h hu hgo hb hrm hqr
  obtain⟨i0,hi0,hi1,hi2⟩:=dv (ls:=ls) (m:=l.length) (by omega)
  have hi0r:i0∈Region.ready .any l.toArray ls:=cx.2 ⟨by simpa using hi0,hi1,fun k hk=>by
   have:=hG.gr i0 (by simpa using hi0) k hk
   rw[oJ (by rw[h.size];omega) false true];exact hi2 k this⟩
  refine⟨fun h0=>absurd hi0r (by rw[h0];simp),fun i hi=>?_⟩
  obtain⟨h1,h2,h3⟩:=cx.1 hi
  have hil:i<l.length:=by simpa using h1
  have ho:l[i]? =some l[i]:=by simp[hil]
  have hgi:gs[i]? =some (gs[i]'(by omega)):=by simp
  have hK:=hget i _ _ ho hgi
  generalize hgg:gs[i]'(by omega)=g at hgi hK
  generalize hoo:l[i]=o at ho hK
  have hlk:=h.nY hG hT hil h3
  have hlo:bT l.toArray i=o.looksAt l.toArray:=by simp only[bT,List.getElem?_toArray,ho]
  rw[hlo]at hlk
  have hpk:∀ks:List Nat,(ks.all fun k=>(o.looksAt l.toArray).contains k)=true→cZ E w a.eval (dc T ks):=fun ks hks k p hkp=>by
   obtain⟨e1,e2⟩:=dq ks k p hkp
   exact hlk k (by have:=List.all_eq_true.1 hks k e1;simpa using this) p e2
  have hwant:∀b,cu l.toArray T o=some b→Region.wanted o (yielded l.toArray a.tmps)=b:=fun b hb=>by
   rw[cY];exact dW (fun k hk p hp=>hlk k hk p hp) hb
  have hun:aS (ls.setIfInBounds i true) l.length=fuel:=by have:=dx h2 hil (by rw[h.size];omega);omega
  unfold wpOp
  have ho':l.toArray[i]? =some o:=by simpa using ho
  simp only[ho']
  have hrk:cF gs i=g.r:=by simp only[cF,hgi,Option.bind_some]
  cases hK with
  | @val p d lo hi ks hks hw hy hd hN=>
   rw[hwant true hw,if_pos rfl]
   left
   obtain⟨σ,hσ,hs⟩:=h.sat
   obtain⟨q1,q2⟩:=hG.quiet i _ hgi rfl
   have hlo':lo≤r:=by
    rcases q1 with e|⟨j,hj,hj1,hj2⟩
    ·simp only at e;omega
    ·have:=(h.rk j _ (by simpa using hj) hj1).1 (h.gz hG hil hj2 h3)
     simp only at this;omega
   have hhi':r≤hi:=by
    rcases q2 with e|⟨j,hj,hj1,hj2⟩
    ·simp only at e;omega
    ·rcases Nat.lt_or_ge hi r with h'|h'
     ·have hjl:j<l.length:=by simpa using hj
      have e1:=(h.rk j _ hjl hj1).2 h'
      have e2:=h.gz hG hjl hj2 (h.down j e1 hj)
      rw[h2]at e2;cases e2
     ·exact h'
   refine iy (hy r σ hlo' hhi' hσ F base E a.eval w (cn a) hs (hpk ks hks)) fun v w' hE hv=>?_
   exact ih _ r E _ w' (h.jB hG hfr hil h2 h3 hgi (.ext hE) ⟨σ,hσ,hs.ext hE⟩ (.inl ⟨rfl,rfl⟩) ho (fun d' hd'=>by rw[hd]at hd';cases hd';exact Nat.blt_eq.mp hN) (fun _ _=>hv)) hun (hgo.trans (.ext hE)) (hb.trans (Below.eX hE hs.bl)) hrm hqr
  | @skip d lo hi hw hd hN=>
   rw[hwant false hw,if_neg (by simp)]
   exact ih _ r E _ w (h.jB hG hfr hil h2 h3 hgi (bJ.refl _ _) h.sat (.inl ⟨rfl,rfl⟩) ho (fun d' hd'=>by rw[hd]at hd';cases hd';exact Nat.blt_eq.mp hN) (fun _ _=>.raw _)) hun hgo hb hrm hqr
  | @jb p d r0 lo hi σ σ' ks hks hw e1 e2 hy hd hN=>
   rw[hwant true hw,if_pos rfl]
   left
   obtain⟨q1,q2⟩:=hG.jb i _ r0 hgi rfl
   have hr0:r0=r:=by
    have n1:¬r0<r:=fun h'=>by
     have:=(h.rk i r0 hil hrk).2 h'
     rw[h2]at this;cases this
    rcases q2 with e|⟨j,hj,hj1,hj2⟩
    ·omega
    ·have:=(h.rk j _ (by simpa using hj) hj1).1 (h.gz hG hil hj2 h3)
     omega
   subst hr0
   obtain⟨σ0,hσ,hs⟩:=h.sat
   rw[e1]at hσ;cases hσ
   obtain⟨v,w',E',hr,k1,k2,k3,k4⟩:=hy F base E a.eval w (cn a) hs (hpk ks hks)
   have hn':=ih _ (r0+1) E' (a.put o.dst v) w' (h.jB hG hfr hil h2 h3 hgi k2 ⟨σ',e2,k1⟩ (.inr ⟨rfl,rfl⟩) ho (fun d' hd'=>by rw[hd]at hd';cases hd';exact Nat.blt_eq.mp hN) (fun _ _=>k4)) hun (hgo.trans k2) (hb.trans k3) (by omega) (by omega)
   unfold Oper.wp
   rcases hr with hr|⟨rfl,hr⟩
   ·rw[hr];exact hn'
   ·rw[hr];exact hn'
  | @lH p r0 lo hi σ σ' ks hks hw e1 e2 hy hd=>
   rw[hwant true hw,if_pos rfl]
   left
   obtain⟨q1,q2⟩:=hG.jb i _ r0 hgi rfl
   have hr0:r0=r:=by
    have n1:¬r0<r:=fun h'=>by
     have:=(h.rk i r0 hil hrk).2 h'
     rw[h2]at this;cases this
    rcases q2 with e|⟨j,hj,hj1,hj2⟩
    ·omega
    ·have:=(h.rk j _ (by simpa using hj) hj1).1 (h.gz hG hil hj2 h3)
     omega
   subst hr0
   obtain⟨σ0,hσ,hs⟩:=h.sat
   rw[e1]at hσ;cases hσ
   obtain⟨v,w',E',hr,k1,k2,k3,k4⟩:=hy F base E a.eval w (cn a) hs (hpk ks hks)
   have hn':=ih _ (r0+1) E' (a.put o.dst v) w' (h.jB hG hfr hil h2 h3 hgi k2 ⟨σ',e2,k1⟩ (.inr ⟨rfl,rfl⟩) ho (fun d' hd'=>by rw[hd]at hd';cases hd') (fun d' hd'=>by rw[hd]at hd';cases hd')) hun (hgo.trans k2) (hb.trans k3) (by omega) (by omega)
   unfold Oper.wp
   rcases hr with hr|⟨rfl,hr⟩
   ·rw[hr];exact hn'
   ·rw[hr];exact hn'
theorem rV{gs':List GD}{σs':List ba}{T':bo}{ia ib:Nat}(hG:ov l.toArray f m 1 gs)(hG':ov l.toArray f m 1 gs')(hT:fF l (gs.map (·.p)) t=T)(hT':fF l (gs'.map (·.p)) t=T')(hfr:∀i d,i<l.length→a6 l.toArray i=some d→look d t=none)
  (hL:GL P N l.toArray σs T l gs) (hL':GL P N l.toArray σs' T' l gs') (hm0:1<m) (ha:cF gs ia=some 0) (hb0:cF gs ib=some 1) (ha':cF gs' ib=some 0) (hia:ia<l.length) (hib:ib<l.length)
  (hsame:∀(i:Nat) g g',gs[i]? =some g→gs'[i]? =some g'→g.r=none→g.lo=0→g'=g)
  (hs0:σs[0]? =σs'[0]?)
  {σm σm':ba} (hm:σs[m]? =some σm) (hm':σs'[m]? =some σm') {Q:Exit→Act→World→Prop} {E₀:Env} {w₀:World} (hq:∀a' w' E',Sat F base σm E' w'→cZ E' w' a'.eval T→a'.defers=[]→a'.tmps.size=N→bJ E₀ w₀ E' w'→Below base w₀ w'→Q .normal a' w')
  (hq':∀a' w' E',Sat F base σm' E' w'→cZ E' w' a'.eval T'→a'.defers=[]→a'.tmps.size=N→bJ E₀ w₀ E' w'→Below base w₀ w'→Q .normal a' w'):
  ∀(fuel:Nat) (ls:Array Bool) (E:Env) (a:Act) (w:World),pw base N F l gs σs t ls 0 E a w→pw base N F l gs' σs' t ls 0 E a w→aS ls l.length=fuel→bJ E₀ w₀ E w→Below base w₀ w→wpAny P .any l.toArray Q fuel ls a w:=by
 obtain⟨hgl,hget⟩:=hL.get
 obtain⟨hgl',hget'⟩:=hL'.get
 intro fuel
 induction fuel with
 |zero=>
  intro ls E a w h h' hu hgo hb
  have hall:=bQ hu
  have:=(h.rk ia 0 hia ha).1 (hall ia hia)
  omega
 |succ fuel ih=>
  intro ls E a w h h' hu hgo hb
  obtain⟨i0,hi0,hi1,hi2⟩:=dv (ls:=ls) (m:=l.length) (by omega)
  have hi0r:i0∈Region.ready .any l.toArray ls:=cx.2 ⟨by simpa using hi0,hi1,fun k hk=>by
   have:=hG.gr i0 (by simpa using hi0) k hk
   rw[oJ (by rw[h.size];omega) false true];exact hi2 k this⟩
  refine⟨fun h0=>absurd hi0r (by rw[h0];simp),fun i hi=>?_⟩
  obtain⟨h1,h2,h3⟩:=cx.1 hi
  have hil:i<l.length:=by simpa using h1
  have ho:l[i]? =some l[i]:=by simp[hil]
  have hgi:gs[i]? =some (gs[i]'(by omega)):=by simp
  have hgi':gs'[i]? =some (gs'[i]'(by omega)):=by simp
  have hK:=hget i _ _ ho hgi
  have hK':=hget' i _ _ ho hgi'
  have hsm:=hsame i _ _ hgi hgi'
  generalize hgg:gs[i]'(by omega)=g at hgi hK hsm
  generalize hgg':gs'[i]'(by omega)=g' at hgi' hK' hsm
  generalize hoo:l[i]=o at ho hK hK'
  have hlo:bT l.toArray i=o.looksAt l.toArray:=by simp only[bT,List.getElem?_toArray,ho]
  have hlk:=h.nY hG hT hil h3
  rw[hlo]at hlk
  have hlk':=h'.nY hG' hT' hil h3
  rw[hlo]at hlk'
  have hpk:∀ks:List Nat,(ks.all fun k=>(o.looksAt l.toArray).contains k)=true→cZ E w a.eval (dc T ks):=fun ks hks k p hkp=>by
   obtain⟨e1,e2⟩:=dq ks k p hkp
   exact hlk k (by have:=List.all_eq_true.1 hks k e1;simpa using this) p e2
  have hpk':∀ks:List Nat,(ks.all fun k=>(o.looksAt l.toArray).contains k)=true→cZ E w a.eval (dc T' ks):=fun ks hks k p hkp=>by
   obtain⟨e1,e2⟩:=dq ks k p hkp
   exact hlk' k (by have:=List.all_eq_true.1 hks k e1;simpa using this) p e2
  have hwant:∀b,cu l.toArray T o=some b→Region.wanted o (yielded l.toArray a.tmps)=b:=fun b hb=>by
   rw[cY];exact dW (fun k hk p hp=>hlk k hk p hp) hb
  have hwant':∀b,cu l.toArray T' o=some b→Region.wanted o (yielded l.toArray a.tmps)=b:=fun b hb=>by
   rw[cY];exact dW (fun k hk p hp=>hlk' k hk p hp) hb
  have hun:aS (ls.setIfInBounds i true) l.length=fuel:=by have:=dx h2 hil (by rw[h.size];omega);omega
  unfold wpOp
  have ho':l.toArray[i]? =some o:=by simpa using ho
  simp only[ho']
  have hrk:cF gs i=g.r:=by simp only[cF,hgi,Option.bind_some]
  have hrk':cF gs' i=g'.r:=by simp only[cF,hgi',Option.bind_some]
  have lo0:∀ {g:GD},gs[i]? =some g→g.r=none→g.lo=0:=fun {g} e1 e2=>by
   obtain⟨q1,_⟩:=hG.quiet i _ e1 e2
   rcases q1 with e|⟨j,hj,hj1,hj2⟩
   ·exact e
   ·have:=(h.rk j _ (by simpa using hj) hj1).1 (h.gz hG hil hj2 h3);omega
  have second:∀r0,g.r=some r0→r0≠0→g'.r=some 0:=fun r0 e1 e2=>by
   obtain⟨q1,q2⟩:=hG.jb i _ r0 hgi e1
   have:r0=1:=by
    rcases q2 with e|⟨j,hj,hj1,hj2⟩
    ·omega
    ·have:=(h.rk j _ (by simpa using hj) hj1).1 (h.gz hG hil hj2 h3)
     omega
   subst this
   have hbi:=hG.one i ib 1 (by simpa using hil) (by simpa using hib) (by rw[hrk,e1]) hb0
   subst hbi
   rw[←hrk',ha']
  have goA:∀ {ps:PV} {d0 lo hi:Nat},True:=fun {_ _ _ _}=>trivial
  cases hK with
  | @val p d lo hi ks hks hw hy hd hN=>
   have hlo0:=lo0 hgi rfl
   simp only at hlo0
   have hgs:=hsm rfl hlo0
   rw[hwant true hw,if_pos rfl]
   left
   obtain⟨σ,hσ,hs⟩:=h.sat
   refine iy (hy 0 σ (by omega) (Nat.zero_le _) hσ F base E a.eval w (cn a) hs (hpk ks hks)) fun v w' hE hv=>?_
   refine ih _ E _ w' (h.jB hG hfr hil h2 h3 hgi (.ext hE) ⟨σ,hσ,hs.ext hE⟩ (.inl ⟨rfl,rfl⟩) ho (fun d' hd'=>by rw[hd]at hd';cases hd';exact Nat.blt_eq.mp hN) (fun _ _=>hv))
    (h'.jB hG' hfr hil h2 h3 hgi' (.ext hE) ⟨σ,by rw[←hs0];exact hσ,hs.ext hE⟩ (.inl ⟨by rw[hgs],rfl⟩) ho (fun d' hd'=>by rw[hd]at hd';cases hd';exact Nat.blt_eq.mp hN) (fun _ _=>by rw[hgs];exact hv)) hun (hgo.trans (.ext hE)) (hb.trans (Below.eX hE hs.bl))
  | @skip d lo hi hw hd hN=>
   have hlo0:=lo0 hgi rfl
   simp only at hlo0
   have hgs:=hsm rfl hlo0
   rw[hwant false hw,if_neg (by simp)]
   exact ih _ E _ w (h.jB hG hfr hil h2 h3 hgi (bJ.refl _ _) h.sat (.inl ⟨rfl,rfl⟩) ho (fun d' hd'=>by rw[hd]at hd';cases hd';exact Nat.blt_eq.mp hN) (fun _ _=>.raw _))
    (h'.jB hG' hfr hil h2 h3 hgi' (bJ.refl _ _) h'.sat (.inl ⟨by rw[hgs],rfl⟩) ho (fun d' hd'=>by rw[hd]at hd';cases hd';exact Nat.blt_eq.mp hN) (fun _ _=>by rw[hgs];exact .raw _)) hun hgo hb
  | @jb p d r0 lo hi σ σ' ks hks hw e1 e2 hy hd hN=>
   by_cases hr00:r0=0
   ·subst hr00
    rw[hwant true hw,if_pos rfl]
    left
    obtain⟨σ0,hσ,hs⟩:=h.sat
    rw[e1]at hσ;cases hσ
    obtain⟨v,w',E',hr,k1,k2,k3,k4⟩:=hy F base E a.eval w (cn a) hs (hpk ks hks)
    have hn':=gS hG hT hfr hL hm hq fuel _ 1 E' (a.put o.dst v) w' (h.jB hG hfr hil h2 h3 hgi k2 ⟨σ',e2,k1⟩ (.inr ⟨rfl,rfl⟩) ho (fun d' hd'=>by rw[hd]at hd';cases hd';exact Nat.blt_eq.mp hN) (fun _ _=>k4)) hun (hgo.trans k2) (hb.trans k3) (by omega) (Nat.le_refl _)
    unfold Oper.wp
    rcases hr with hr|⟨rfl,hr⟩
    ·rw[hr];exact hn'
    ·rw[hr];exact hn'
   ·have hs2:=second r0 rfl hr00
    cases hK' with
    | @jb p2 d2 r2 lo2 hi2 σ2 σ2' ks2 hks2 hw2 f1 f2 hy2 hd2 hN2=>
     simp only[Option.some.injEq]at hs2
     subst hs2
     rw[hwant' true hw2,if_pos rfl]
     left
     obtain⟨σ0,hσ,hs⟩:=h'.sat
     rw[f1]at hσ;cases hσ
     obtain⟨v,w',E',hr,k1,k2,k3,k4⟩:=hy2 F base E a.eval w (cn a) hs (hpk' ks2 hks2)
     have hn':=gS hG' hT' hfr hL' hm' hq' fuel _ 1 E' (a.put o.dst v) w' (h'.jB hG' hfr hil h2 h3 hgi' k2 ⟨σ2',f2,k1⟩ (.inr ⟨rfl,rfl⟩) ho (fun d' hd'=>by rw[hd2]at hd';cases hd';exact Nat.blt_eq.mp hN2) (fun _ _=>k4)) hun (hgo.trans k2) (hb.trans k3) (by omega) (Nat.le_refl _)
     unfold Oper.wp
     rcases hr with hr|⟨rfl,hr⟩
     ·rw[hr];exact hn'
     ·rw[hr];exact hn'
    | @lH p2 r2 lo2 hi2 σ2 σ2' ks2 hks2 hw2 f1 f2 hy2 hd2=>rw[hd2]at hd;cases hd
    |val=>cases hs2
    |skip=>cases hs2
  | @lH p r0 lo hi σ σ' ks hks hw e1 e2 hy hd=>
   by_cases hr00:r0=0
   ·subst hr00
    rw[hwant true hw,if_pos rfl]
    left
    obtain⟨σ0,hσ,hs⟩:=h.sat
    rw[e1]at hσ;cases hσ
    obtain⟨v,w',E',hr,k1,k2,k3,k4⟩:=hy F base E a.eval w (cn a) hs (hpk ks hks)
    have hn':=gS hG hT hfr hL hm hq fuel _ 1 E' (a.put o.dst v) w' (h.jB hG hfr hil h2 h3 hgi k2 ⟨σ',e2,k1⟩ (.inr ⟨rfl,rfl⟩) ho (fun d' hd'=>by rw[hd]at hd';cases hd') (fun d' hd'=>by rw[hd]at hd';cases hd')) hun (hgo.trans k2) (hb.trans k3) (by omega) (Nat.le_refl _)
    unfold Oper.wp
    rcases hr with hr|⟨rfl,hr⟩
    ·rw[hr];exact hn'
    ·rw[hr];exact hn'
   ·have hs2:=second r0 rfl hr00
    cases hK' with
    | @jb p2 d2 r2 lo2 hi2 σ2 σ2' ks2 hks2 hw2 f1 f2 hy2 hd2 hN2=>rw[hd2]at hd;cases hd
    | @lH p2 r2 lo2 hi2 σ2 σ2' ks2 hks2 hw2 f1 f2 hy2 hd2=>
     simp only[Option.some.injEq]at hs2
     subst hs2
     rw[hwant' true hw2,if_pos rfl]
     left
     obtain⟨σ0,hσ,hs⟩:=h'.sat
     rw[f1]at hσ;cases hσ
     obtain⟨v,w',E',hr,k1,k2,k3,k4⟩:=hy2 F base E a.eval w (cn a) hs (hpk' ks2 hks2)
     have hn':=gS hG' hT' hfr hL' hm' hq' fuel _ 1 E' (a.put o.dst v) w' (h'.jB hG' hfr hil h2 h3 hgi' k2 ⟨σ2',f2,k1⟩ (.inr ⟨rfl,rfl⟩) ho (fun d' hd'=>by rw[hd2]at hd';cases hd') (fun d' hd'=>by rw[hd2]at hd';cases hd')) hun (hgo.trans k2) (hb.trans k3) (by omega) (Nat.le_refl _)
     unfold Oper.wp
     rcases hr with hr|⟨rfl,hr⟩
     ·rw[hr];exact hn'
     ·rw[hr];exact hn'
    |val=>cases hs2
    |skip=>cases hs2
end
def sI:List GD→List GD→Prop
 |g::gs,g'::gs'=>(g.r=none→g.lo=0→g'=g)∧sI gs gs'
 |_,_=>True
theorem lS:∀ {gs gs':List GD},sI gs gs'→∀(i:Nat) g g',gs[i]? =some g→gs'[i]? =some g'→g.r=none→g.lo=0→g'=g
 | [],_,_,i,g,g',h,_=>by simp at h
 |_::_,[],_,i,g,g',_,h=>by simp at h
 |x::gs,y::gs',h,0,g,g',h1,h2=>by simp at h1 h2;subst h1;subst h2;exact h.1
 |x::gs,y::gs',h,i+1,g,g',h1,h2=>lS h.2 i g g' (by simpa using h1) (by simpa using h2)
theorem uw{id:Nat}{l:List Oper}{t t1 t2:bo}{σ σm σm':ba}{Q:Exit→St→Prop}{y:Code}(f m:Nat)(σs σs':List ba)(gs gs':List GD)(T T':bo)(ia ib:Nat)(hm:P.follows .mixedOrders=true)(hB:o1 l.toArray f m 1 gs=true)(hB':o1 l.toArray f m 1 gs'=true)(hT:fF l (gs.map (·.p)) t=T)(hT':fF l (gs'.map (·.p)) t=T')(hfr:(l.all fun o=>o.dst.all fun d=>(look d t).isNone)=true)
  (h0:σs[0]? =some σ) (h0':σs'[0]? =some σ) (h1:σs[m]? =some σm) (h1':σs'[m]? =some σm') (hm0:1<m) (ha:cF gs ia=some 0) (hb0:cF gs ib=some 1) (ha':cF gs' ib=some 0) (hia:ia<l.length) (hib:ib<l.length) (hsame:sI gs gs')
  (hL:GL P N l.toArray σs T l gs) (hL':GL P N l.toArray σs' T' l gs') (hsub:Sub T t1) (hsub':Sub T' t2) (hr:W P N L y ⟨t1,σm⟩ Q→W P N L y ⟨t2,σm'⟩ Q) (hq:W P N L y ⟨t1,σm⟩ Q):W P N L (.seq (.region id l.toArray true) y) ⟨t,σ⟩ Q:=by
 have hq2:=hr hq
 refine al (Q:=Q) (fun F base E₀ w₀ E a w hc hs=>?_)
 have hG:=lx hB
 have hG':=lx hB'
 have hE:Ext w {w with drawn:=w.drawn+1}:=⟨rfl,rfl,rfl,Nat.le_refl _,fun _ _=>rfl⟩
 refine wp_region_any hm ?_
 have hfr':∀i d,i<l.length→a6 l.toArray i=some d→look d t=none:=fun i d hi hd=>by
  have ho:l[i]? =some l[i]:=by simp[hi]
  simp only[a6,List.getElem?_toArray,ho,Option.bind_some]at hd
  have:=List.all_eq_true.1 hfr _ (List.mem_of_getElem? ho)
  rw[hd]at this
  simpa using this
 have hg0:∀(gs:List GD) (σs:List ba),σs[0]? =some σ→pw base N F l gs σs t (Array.replicate l.length false) 0 E a {w with drawn:=w.drawn+1}:=fun gs σs h0=>by
  have hrep:∀i,i<l.length→(Array.replicate l.length false).getD i true=false:=fun i hi=>by simp[hi]
  refine⟨by simp,fun i hi hi'=>?_,fun i s hi _=>?_,⟨σ,h0,hs.sat.ext hE⟩,hs.gI,hs.size,hs.tmp.goes (.ext hE),fun j d g hj hjl=>?_⟩
  ·rw[hrep i (by simpa using hi')]at hi;cases hi
  ·rw[hrep i hi];simp
  ·rw[hrep j hj]at hjl;cases hjl
 have:=rV (Q:=fun e a' w'=>kM F base N E₀ w₀ (rR (fun s=>W P N L y s Q) Q e) a' w') hG hG' hT hT' hfr' hL hL' hm0 ha hb0 ha' hia hib (lS hsame) (h0.trans h0'.symm) h1 h1' (E₀:=E₀) (w₀:=w₀)
  (fun a' w' E' k1 k2 k3 k4 k5 k6=>⟨⟨t1,σm⟩,E',hq,⟨k1,k2.sub hsub,k3,k4⟩,k5,k6⟩) (fun a' w' E' k1 k2 k3 k4 k5 k6=>⟨⟨t2,σm'⟩,E',hq2,⟨k1,k2.sub hsub',k3,k4⟩,k5,k6⟩) l.length _ E a _ (hg0 gs σs h0) (hg0 gs' σs' h0') (il _ _ (Nat.le_refl _)) (hc.g.trans (.ext hE)) (hc.b.trans (Below.eX hE hs.sat.bl))
 simpa using this
end
open Net Heap
section
variable {P:Program} {σ:ba} {t:bo} {o:Oper}
theorem vx{ty e n i:Nat}{x ix:Operand}{xs:List PV}{p:PV}(ho:o.op= .index ty x ix)(hu:P.underlying ty=some (.array n e))(hk:kA P e=some none)(hx:aj t x=some (.agg xs))(hi:aj t ix=some (num i))(hn:i<n)(hp:xs[i]? =some p):aH P σ t o p:=by
 intro F base E ρ w hρ _ hT
 have h1:=ae hρ hT hx
 have h2:ρ ix= .int .i64 i:=jI (ae hρ hT hi)
 generalize hz:ρ x=z at h1
 cases h1 with
 |agg cs _ hl hr=>
  obtain⟨c,hcc,hcr⟩:=aB.get (E:=E) (w:=w) (cs:=cs.toList) ⟨by simpa using hl,fun i x u h1 h2=>hr i x u (by simpa using h1) h2⟩ hp
  have hag:∀w,(isAgg e).run P w= .ok false w:=by
   intro w
   have hk':=hk
   unfold kA at hk'
   split at hk'
   ·rename_i d i hu' hi'
    split at hk'
    ·cases hk'
    ·cases hk'
    ·rename_i h1 h2
     unfold isAgg
     simp only[Sem.run_bind,run_underlying hu',Result.andThen_ok]
     rfl
   ·cases hk'
  have hcc':cs[i]? =some c:=by simpa using hcc
  have hsz:=nM hk w
  have hin:(0:Int)≤(i:Int)∧(i:Int)<(n:Int):=by omega
  have has:(asIntOf (.int .i64 (i:Int))).run P w= .ok (.i64,(i:Int)) w:=rfl
  simp only[execOp,ho,hz,h2,Instr.index,Sem.run_bind,has,run_underlying hu,Result.andThen_ok,if_pos hin,hsz,Option.getD_none,Nat.mul_one,Int.toNat_natCast,Go.part,hag,hcc',Bool.false_eq_true,if_false,Sem.run_pure]
  exact aJ hcr
theorem jo{f:FuncId}{cs:Array Operand}{xs:List PV}(ho:o.op= .makeFunc (.func f) cs #[])(hx:dH t cs.toList=some xs):aH P σ t o (.bound f xs):=by
 intro F base E ρ w hρ _ hT
 simp only[execOp,ho,Instr.makeFunc,Sem.run_bind,Sem.run_pure,Result.andThen_ok]
 refine aJ ?_
 have:(Array.map ρ #[]:Array Value)= #[]:=by simp
 rw[this]
 have h:=dp hρ hT hx
 exact .bound f _ xs (by simpa using h.1) (fun i x u h1 h2=>h.2 i x u (by simpa using h1) h2)
theorem kz{f:FuncId}{x:Operand}{ats:Array TypeId}{ρ:Operand→Value}{cap:Array Value}(h:enters P f=true)(ho:o.op= .call {callee:=.value x,args:= #[],argTypes:=ats})(hx:ρ x= .func (.func f) cap #[])(w:World):
  (execOp ρ o).run P w= .ok (.enter f cap) w:=by
 have:=gY h cap w
 simp[execOp,ho,resolve,hx,Deferred.ofValue,invoke,this]
theorem sr{N L:Nat}{ops:Array Oper}{rest:List Oper}{K:St→Prop}{d:Nat}{f:FuncId}{x:Operand}{ats:Array TypeId}{cap:List PV}(ho:o.op= .call {callee:=.value x,args:= #[],argTypes:=ats})(hf:enters P f=true)(hx:aj t x=some (.bound f cap))
  (hd:o.dst=some d) (hw:cu ops t o=some true) (hN:Nat.blt d N=true) (hc:aG P f cap σ (fun r σ'=>WR P N L ops rest ⟨(d,r)::t,σ'⟩ K)):WR P N L ops (o::rest) ⟨t,σ⟩ K:=by
 refine gd hw fun F base E a w hs next Q hn=>?_
 have h1:=ae (cn a) hs.tmp hx
 generalize hz:a.eval x=z at h1
 cases h1 with
 |bound _ cs _ hl hr=>
  unfold Oper.wp
  rw[kz hf ho hz w]
  simp only[Oper.upon]
  refine(hc F base E w cs hs.sat ⟨by simpa using hl,fun i x u k1 k2=>hr i x u (by simpa using k1) k2⟩).mono ?_
  rintro e w' ⟨v,r,σ',E',rfl,h4,h5,h6,h7,h8⟩
  rw[hd]
  exact hn _ w' _ E' h4 (hs.put h5 h6 hN h8) h6 h7
theorem tv{ty:TypeId}{x y:Operand}{f g:FuncId}{cap cap':List PV}(ho:o.op= .build ty #[(0,x),(1,y)])(hx:aj t x=some (.bound f cap))(hy:aj t y=some (.bound g cap'))(hb:∀cs cs',P.built ty [(0,.func (.func f) cs #[]),(1,.func (.func g) cs' #[])]=some #[.func (.func f) cs #[],.func (.func g) cs' #[]]):aH P σ t o (.agg [.bound f cap,.bound g cap']):=by
 intro F base E ρ w hρ hS hT
 have h1:=ae hρ hT hx
 have h2:=ae hρ hT hy
 generalize hz:ρ x=z at h1
 generalize hz2:ρ y=z2 at h2
 have h1':=h1
 have h2':=h2
 cases h1 with
 |bound _ cs _ hl hr=>
  cases h2 with
  |bound _ cs' _ hl' hr'=>
   have hrun:=run_build (P:=P) w ty #[(0,.func (.func f) cs #[]),(1,.func (.func g) cs' #[])] #[.func (.func f) cs #[],.func (.func g) cs' #[]] (hb cs cs')
   have hr:(execOp ρ o).run P w= .ok (.value (.agg #[.func (.func f) cs #[],.func (.func g) cs' #[]])) w:=by
    simp only[execOp,ho,Sem.run_bind,List.map_toArray,List.map_cons,List.map_nil,hz,hz2,hrun,Result.andThen_ok,Sem.run_pure]
   rw[hr]
   refine aJ (.agg _ _ rfl (fun i x u k1 k2=>?_))
   match i,k1,k2 with
   |0,k1,k2=>simp at k1 k2;subst k1;subst k2;exact h1'
   |1,k1,k2=>simp at k1 k2;subst k1;subst k2;exact h2'
   |_+2,k1,k2=>simp at k2
end
def bZ(T:au)(D:List Bool)(d N:Nat)(out:List Int)(tch:PV):ba:=[some (.cells 63 [num T.nodes,.own 1,.own 2,.own 3,num d,.own 4,tch]),some (.row 4 1 T.over.length (aT T.over)),some (.row 54 7 T.aa.length (bA T.aa)),some (.row 4 1 D.length (aT D)),some (.row 3 1 N (aI out))]
theorem bS{T:au}{D:List Bool}{d N:Nat}{out:List Int}{tch:PV}(A:ba):eZ (bZ T D d N out tch++A) T D d N out tch:=⟨rfl,rfl,rfl,rfl,rfl⟩
theorem eZ.oF{σ:ba}{T:au}{D:List Bool}{d N:Nat}{out:List Int}{tch:PV}(h:eZ σ T D d N out tch)(hout:out.length=N):aZ σ (.own 4) (aL out):=by
 subst hout
 exact aZ.du h.h4 aq.pure
theorem uv(cs cs':Array Value):Tryd.prog.built 97 [(0,.func (.func 46) cs #[]),(1,.func (.func 47) cs' #[])]=some #[.func (.func 46) cs #[],.func (.func 47) cs' #[]]:=by kernel_rfl
def vo(T:au)(D:List Bool)(d N:Nat)(out:List Int)(ay:List Int)(k:Nat)(out1 L:List Int):Prop:=
 (k=0∧out1=out∧L=[])∨
 (k=1∧lU T D d out1 (List.replicate N 0) (fun y=>bf [] (y:Int)) (List.replicate N (-1)) 0 (fun a=>(((aE T a).toNat:Nat):Int)∈L∨∃c:Nat,(c:Int)∈ay∧aE T c=aE T a))∨
 (k=2∧out1=aP T D d false)
def uy(T:au)(N:Nat)(ay:List Int):List PV:=[.bound 46 [.agg (gi T N ay (.own 5))],.bound 47 [.agg (gi T N ay (.own 5))]]
theorem qK{T₀ T:au}{D₀ D:List Bool}{N d:Nat}{S:Nat→Prop}(hT:eI T D N d)(h2:tT T₀ D₀ T D d S)(out:List Int)(hd:cC T₀ D₀ d false out)(hout:out.length=N)(hub:∀x:Nat,(x:Int)<T.nodes→at' out (x:Int)≤4194240)(tch:PV)[IsPure tch]
  (ay:List Int) (hal:ay.length≤1000) (harc:∀a∈ay,0≤a∧a<2*(T.aa.length:Int)) (hS:∀a,S a→a<2*T.aa.length→∃c:Nat,(c:Int)∈ay∧aE T c=aE T a) {k:Nat} (hk:k<2) {out1 L:List Int} (h:vo T D d N out ay k out1 L):
  ∃f,(uy T N ay)[k]? =some (.bound f [.agg (gi T N ay (.own 5))])∧enters Tryd.prog f=true∧aG Tryd.prog f [.agg (gi T N ay (.own 5))] (kJ T D d N out1 tch L) (fun _ σ'=>∃out2 L2,vo T D d N out ay (k+1) out2 L2∧σ'=kJ T D d N out2 tch L2):=by
 have hSd:=bz hT.valid
 rcases h with⟨rfl,rfl,rfl⟩|⟨rfl,hG⟩|⟨rfl,_⟩
 ·refine⟨_,rfl,by kernel_rfl,aG.mono (sg hT h2 out1 hd hout hub tch ay hal harc hS) ?_⟩
  rintro r σ' ⟨L,out2,dn,b,h3,h4,rfl⟩
  have h5:=qE (K:=List.replicate N 0) (H:=fun y=>bf [] (y:Int)) h2 hSd hT.nodes.symm hT.dest hd hub h3 h4 (fun y ⟨p,hp,_⟩=>by simp at hp)
  refine⟨out2,L,.inr (.inl ⟨rfl,fi h5 (fun a ha h=>h.imp id (fun⟨c,e1,e2,e3⟩=>?_))⟩),rfl⟩
  obtain⟨c',e4,e5⟩:=hS c e1 e2
  exact⟨c',e4,e5.trans e3⟩
 ·refine⟨_,rfl,by kernel_rfl,aG.mono (sD hT out1 tch ay hal harc L hG) ?_⟩
  rintro r σ' rfl
  exact⟨_,L,.inr (.inr ⟨rfl,rfl⟩),rfl⟩
 ·omega
set_option maxHeartbeats 2000000 in
theorem gE{T₀ T:au}{D₀ D:List Bool}{N d:Nat}{S:Nat→Prop}(hT:eI T D N d)(h2:tT T₀ D₀ T D d S)(out:List Int)(hd:cC T₀ D₀ d false out)(hout:out.length=N)(hub:∀x:Nat,(x:Int)<T.nodes→at' out (x:Int)≤4194240)(tc:Int)
  (ay:List Int) (hal:ay.length≤1000) (harc:∀a∈ay,0≤a∧a<2*(T.aa.length:Int)) (hS:∀a,S a→a<2*T.aa.length→∃c:Nat,(c:Int)∈ay∧aE T c=aE T a):
  aG Tryd.prog 21 [.ptr 0 0,aL ay] (bZ T D d N out (num tc)) (fun _ σ'=>∃tc',σ'=bZ T D d N (aP T D d false) (num tc')):=by
 have hSd:=bz hT.valid
 have hnn:=hT.nodes
 have hN64:N≤64:=by have:=hSd.nodes;omega
 have hlv:=l3 T hT.valid
 have hev:=gu T hT.valid
 rw[show T.nodes.toNat=N by omega]at hlv hev
 have hdl:(aP T D d false).length=N:=by have:=(ik hSd D false (by have:=hT.dest;omega:(d:Int)<T.nodes)).len;omega
 have hph:=fun(tch:PV) [IsPure tch] {k:Nat} (hk:k<2) {out1 L:List Int} (h:vo T D d N out ay k out1 L)=>qK hT h2 out hd hout hub tch ay hal harc hS hk h
 refine bc Tryd.func21 I Tryd.ntmps21 I<|ag (.a 4 I<|.v (fE I (aq.cons ((bS []).oF hout) aq.nil) (nE out (by omega))) I<|.a 1 I<|.k [0,1,4] I)<|uw 20 3 (bZ T D d N out (num tc)::(bZ T D d N out (num tc)++[some (iU [])])::(bZ T D d N out (num tc)++[some (iU []),some (.cells 96 [.raw (.pointer none),.raw (.slice none 0 0),.raw (.slice none 0 0),.raw (.slice none 0 0),.raw (.map none)])])::(bZ T D d N out (num tc)++[some (iU []),some (.cells 96 (gi T N ay (.own 5)))])::[]) (bZ T D d N out (num tc)::(bZ T D d N out (num tc)++[some (.cells 96 [.raw (.pointer none),.raw (.slice none 0 0),.raw (.slice none 0 0),.raw (.slice none 0 0),.raw (.map none)])])::(bZ T D d N out (num tc)++[some (.cells 96 [.raw (.pointer none),.raw (.slice none 0 0),.raw (.slice none 0 0),.raw (.slice none 0 0),.raw (.map none)]),some (iU [])])::(bZ T D d N out (num tc)++[some (.cells 96 (gi T N ay (.own 6))),some (iU [])])::[]) (⟨.ptr 0 0,none,0,2⟩::⟨aL ay,none,0,2⟩::⟨.ptr 0 0,none,0,2⟩::⟨.ptr 0 0,none,0,2⟩::⟨.ptr 0 0,none,0,2⟩::⟨.agg [num T.nodes,.own 1,.own 2],none,0,2⟩::⟨dr (bp (aE T) N (2*T.aa.length)),none,0,2⟩::⟨.ptr 0 0,none,0,2⟩::⟨.ptr 0 0,none,0,2⟩::⟨.ptr 0 0,none,0,2⟩::⟨.agg [num T.nodes,.own 1,.own 2],none,0,2⟩::⟨dr (bp (aA T) N (2*T.aa.length)),none,0,2⟩::⟨.own 5,some 0,0,0⟩::⟨.agg (gi T N ay (.own 5)),none,1,2⟩::⟨.ptr 6 0,some 1,0,0⟩::⟨_,some 2,0,0⟩::[]) (⟨.ptr 0 0,none,0,2⟩::⟨aL ay,none,0,2⟩::⟨.ptr 0 0,none,0,2⟩::⟨.ptr 0 0,none,0,2⟩::⟨.ptr 0 0,none,0,2⟩::⟨.agg [num T.nodes,.own 1,.own 2],none,0,2⟩::⟨dr (bp (aE T) N (2*T.aa.length)),none,0,2⟩::⟨.ptr 0 0,none,0,2⟩::⟨.ptr 0 0,none,0,2⟩::⟨.ptr 0 0,none,0,2⟩::⟨.agg [num T.nodes,.own 1,.own 2],none,0,2⟩::⟨dr (bp (aA T) N (2*T.aa.length)),none,0,2⟩::⟨.own 6,some 1,0,0⟩::⟨.agg (gi T N ay (.own 6)),none,2,2⟩::⟨.ptr 5 0,some 0,0,0⟩::⟨_,some 2,0,0⟩::[]) _ _ 12 14 mixed ?grd1 ?grd2 rfl rfl rfl rfl rfl rfl rfl (by decide) I I I (by decide) (by decide) ⟨(fun _ _=>rfl),(fun _ _=>rfl),(fun _ _=>rfl),(fun _ _=>rfl),(fun _ _=>rfl),(fun _ _=>rfl),(fun _ _=>rfl),(fun _ _=>rfl),(fun _ _=>rfl),(fun _ _=>rfl),(fun _ _=>rfl),(fun _ _=>rfl),(fun h=>by cases h),(fun _ h=>by cases h),(fun h=>by cases h),(fun h=>by cases h),trivial⟩ (.cons (.val [0] I I (yz (cM (bb I) (cM (bb I) (cM (bb I) jf)))) I I)<|.cons (.val [1] I I (yz (cM (bb I) (cM (bb I) (cM (bb I) jf)))) I I)<|.cons (.val [0] I I (yz (cM (bb I) (cM (bb I) (cM (bb I) jf)))) I I)<|.cons (.val [17] I I (yz (cM (bb I) (cM (bb I) (cM (bb I) jf)))) I I)<|.cons (.val [18] I I (yz (cM (bb I) (cM (bb I) (cM (bb I) jf)))) I I)<|.cons (.val [19] I I (yz (cM (bb I) (cM (bb I) (cM (bb I) jf)))) I I)<|.cons (.val [20] I I (yz (cM (fE I (aq.cons (bS _).eN aq.nil) hlv) (cM (fE I (aq.cons (bS _).eN aq.nil) hlv) (cM (fE I (aq.cons (bS _).eN aq.nil) hlv) jf)))) I I)<|.cons (.val [0] I I (yz (cM (bb I) (cM (bb I) (cM (bb I) jf)))) I I)<|.cons (.val [22] I I (yz (cM (bb I) (cM (bb I) (cM (bb I) jf)))) I I)<|.cons (.val [23] I I (yz (cM (bb I) (cM (bb I) (cM (bb I) jf)))) I I)<|.cons (.val [24] I I (yz (cM (bb I) (cM (bb I) (cM (bb I) jf)))) I I)<|.cons (.val [25] I I (yz (cM (fE I (aq.cons (bS _).eN aq.nil) hev) (cM (fE I (aq.cons (bS _).eN aq.nil) hev) (cM (fE I (aq.cons (bS _).eN aq.nil) hev) jf)))) I I)<|.cons (.jb [] I I I I (lj kO rfl) I I)<|.cons (.val [15,16,21,26,27] I I (yz (cM (bb I) (cM (bb I) jf))) I I)<|.cons (.jb [] I I I I (vl I) I I)<|.cons (.lH [5,28] I I I I (vl I) I) .nil) (.cons (.val [0] I I (yz (cM (bb I) (cM (bb I) (cM (bb I) jf)))) I I)<|.cons (.val [1] I I (yz (cM (bb I) (cM (bb I) (cM (bb I) jf)))) I I)<|.cons (.val [0] I I (yz (cM (bb I) (cM (bb I) (cM (bb I) jf)))) I I)<|.cons (.val [17] I I (yz (cM (bb I) (cM (bb I) (cM (bb I) jf)))) I I)<|.cons (.val [18] I I (yz (cM (bb I) (cM (bb I) (cM (bb I) jf)))) I I)<|.cons (.val [19] I I (yz (cM (bb I) (cM (bb I) (cM (bb I) jf)))) I I)<|.cons (.val [20] I I (yz (cM (fE I (aq.cons (bS _).eN aq.nil) hlv) (cM (fE I (aq.cons (bS _).eN aq.nil) hlv) (cM (fE I (aq.cons (bS _).eN aq.nil) hlv) jf)))) I I)<|.cons (.val [0] I I (yz (cM (bb I) (cM (bb I) (cM (bb I) jf)))) I I)<|.cons (.val [22] I I (yz (cM (bb I) (cM (bb I) (cM (bb I) jf)))) I I)<|.cons (.val [23] I I (yz (cM (bb I) (cM (bb I) (cM (bb I) jf)))) I I)<|.cons (.val [24] I I (yz (cM (bb I) (cM (bb I) (cM (bb I) jf)))) I I)<|.cons (.val [25] I I (yz (cM (fE I (aq.cons (bS _).eN aq.nil) hev) (cM (fE I (aq.cons (bS _).eN aq.nil) hev) (cM (fE I (aq.cons (bS _).eN aq.nil) hev) jf)))) I I)<|.cons (.jb [] I I I I (lj kO rfl) I I)<|.cons (.val [15,16,21,26,27] I I (yz (cM (bb I) jf)) I I)<|.cons (.jb [] I I I I (vl I) I I)<|.cons (.lH [5,28] I I I I (vl I) I) .nil) (aQ (ks:=[0,4,5]) I) (aQ (ks:=[0,4,5]) I) (fun h=>bO [0,1,2,3,4,6,5] (.c 0<|.c 4<|.c 5 .nil) (.kept rfl (.cells (ab.c<|ab.c<|ab.c<|ab.c<|ab.c<|ab.c<|ab.c ab.nil))<|.kept rfl (.row ab.pure)<|.kept rfl (.row ab.pure)<|.kept rfl (.row ab.pure)<|.kept rfl (.row ab.pure)<|.kept rfl .mp<|.kept rfl (.cells (ab.c<|ab.c<|ab.c<|ab.c<|ab.c ab.nil)) .nil) I I h) ?_
 case grd1=>kernel_rfl
 case grd2=>kernel_rfl
 refine al<|ag (.a 1 I<|.v (jo I I) I<|.a 1 I<|.v (jo I I) I<|.v (tv I I I uv) I<|.a 1 I<|.k [0,4,33,34] I)<|bO [0,1,2,3,4,5] (σ':=kJ T D d N out (num tc) []) (.c 0<|.c 4<|.cons (p':=.agg (uy T N ay)) 33 I (Ren.fv (ab.cons (Ren.rz (ab.cons (Ren.fv (ab.c<|ab.c<|ab.c<|ab.c<|ab.c ab.nil)) ab.nil))<|ab.cons (Ren.rz (ab.cons (Ren.fv (ab.c<|ab.c<|ab.c<|ab.c<|ab.c ab.nil)) ab.nil)) ab.nil))<|.c 34 .nil) (.kept rfl (.cells (ab.c<|ab.c<|ab.c<|ab.c<|ab.c<|ab.c<|ab.c ab.nil))<|.kept rfl (.row ab.pure)<|.kept rfl (.row ab.pure)<|.kept rfl (.row ab.pure)<|.kept rfl (.row ab.pure)<|.kept rfl .mp .nil) I I ?_
 refine aw<|fx [0,4,33,34] I<|bx (fun r s=>∃(k:Nat) (out1 L:List Int),k≤2∧vo T D d N out ay k out1 L∧r=2 - k∧s=⟨[(0,.ptr 0 0),(4,aL out),(33,.agg (uy T N ay)),(34,num k)],kJ T D d N out1 (num tc) L⟩) 2 ⟨0,out,[],by omega,.inl ⟨rfl,rfl,rfl⟩,by omega,rfl⟩ ?_
 rintro r s ⟨k,out1,L,hk,hP,rfl,rfl⟩
 refine ag (.a 1 I<|.k [0,4,33,34,35] I)<|al<|ak I (fun hc=>?_) (fun hc=>?_)
 ·have hlt:k<2:=by have:=of_decide_eq_true hc;omega
  obtain⟨f,hf1,hf2,hf3⟩:=hph (num tc) hlt hP
  refine an<|al<|aw<|ag (.v (vx (i:=k) I Tryd.underlying97 (bB.tk.get I) I I hlt hf1) I<|.a 1 I<|.k [0,4,7,33,34] I)<|aR<|ax 1 I<|sr I hf2 rfl rfl rfl rfl (aG.mono hf3 (fun _ σ' h=>?_))
  obtain⟨out2,L2,hP2,rfl⟩:=h
  refine aO [0,4,33,34] I ?_
  refine aD (.v (bw I) I<|.a 1 I<|.k [0,4,33,34] I) ?_
  exact⟨2 - (k+1),by omega,k+1,out2,L2,by omega,hP2,rfl,rfl⟩
 ·have hke:k=2:=by have:=of_decide_eq_false hc;omega
  have ho1:out1=aP T D d false:=by
   rcases hP with⟨h,_⟩|⟨h,_⟩|⟨_,h⟩
   ·omega
   ·omega
   ·exact h
  subst ho1
  refine bO [0,1,2,3,4] (σ':=bZ T D d N (aP T D d false) (num tc)) (.c 0<|.c 4 .nil) (.kept rfl (.cells (ab.c<|ab.c<|ab.c<|ab.c<|ab.c<|ab.c<|ab.c ab.nil))<|.kept rfl (.row ab.pure)<|.kept rfl (.row ab.pure)<|.kept rfl (.row ab.pure)<|.kept rfl (.row ab.pure) .nil) I I ?_
  refine bn<|a7<|ax 4 I<|aO [0,4] I ?_
  refine dI (σ':=bZ T D d N (aP T D d false) (num 0)) I ?_
  refine ag (.a 6 I<|.k [0,4,46,47,48] I)<|aw<|fx [0,4,46,47,48] I<|bx (fun r s=>∃(k:Nat) (c:Int),k≤N∧0≤c∧c≤k∧r=N - k∧s=⟨[(0,.ptr 0 0),(4,aL out),(46,.own 4),(47,num N),(48,num k)],bZ T D d N (aP T D d false) (num c)⟩) N ⟨0,0,by omega,by omega,by omega,by omega,rfl⟩ ?_
  rintro r s ⟨k,c,hk,hc0,hck,rfl,rfl⟩
  refine ag (.a 1 I<|.k [0,4,46,47,48,49] I)<|al<|ak I (fun hy=>?_) (fun hy=>?_)
  ·have hlt:k<N:=by have:=of_decide_eq_true hy;omega
   refine an<|al<|aw<|ag (.a 1 I<|.v (aY (k) I) I<|.v (aV I (dD _ k (by omega))) I<|.a 2 I<|.k [0,4,8,9,46,47,48] I) ?_
   obtain⟨p1,hp1⟩:∃q,decide (at' (aP T D d false) (k:Int)≠at' out (k:Int))=q:=⟨_,rfl⟩
   refine ag (.a 3 I<|.v (aY (k) I) I<|.v (aV I (dD _ k (by omega))) I<|.v (cJ I (hp1)) I<|.k [0,4,46,47,48,58] I)<|ak I (fun hc=>?_) (fun hc=>?_)
   ·refine aR<|ax 4 I<|aM (bw I (hn:=by unfold In64;omega)) I<|ax 3 I<|aO [0,4,46,47,48] I ?_
    refine aD (.v (bw I) I<|.a 1 I<|.k [0,4,46,47,48] I) ?_
    first
     |exact⟨N - (k+1),by omega,k+1,c+1,by omega,by omega,by omega,rfl,rfl⟩
     |exact⟨N - (k+1),by omega,k+1,c,by omega,by omega,by omega,rfl,rfl⟩
   ·refine an<|aD (.v (bw I) I<|.a 1 I<|.k [0,4,46,47,48] I) ?_
    first
     |exact⟨N - (k+1),by omega,k+1,c+1,by omega,by omega,by omega,rfl,rfl⟩
     |exact⟨N - (k+1),by omega,k+1,c,by omega,by omega,by omega,rfl,rfl⟩
  ·exact bn<|⟨_,aK.of I,c,rfl⟩
theorem kN{P:Program}{σ:ba}{t:bo}{o:Oper}{ty s n m:Nat}{x ix:Operand}{k:IntKind}{i:Int}{off j:Nat}(ho:o.op= .indexAddr ty x ix)(he:uM P ty=some (n,s))(hx:aj t x=some (.ptr m off))(hix:aj t ix=some (.raw (.int k i)))(hi:0≤i)(hn:i<n)(hj:i.toNat*s=j):aH P σ t o (.ptr m (off+j)):=by
 intro F base E ρ w hρ _ hT
 have h1:=ae hρ hT hx
 have h2:=ae hρ hT hix
 generalize hz:ρ x=z at h1
 generalize hz':ρ ix=z' at h2
 cases h2
 cases h1 with
 |ptr _ _ b hb hM=>
  simp only[execOp,ho,hz,hz',Sem.run_bind,hX he hi hn,Result.andThen_ok,Sem.run_pure,hj]
  exact aJ (.ptr m (off+j) b hb hM)
theorem si(xs:List PV)(i:Nat)(v:PV)(h:i<xs.length):over xs i [v]=xs.set i v:=by
 unfold over
 rw[List.set_eq_take_append_cons_drop,if_pos h]
 simp
theorem nO:∀(L:List fw) (i j:Nat) (c:Int),i<L.length→j<2→(bA L).set (i*7+2+j) (num c)=bA (L.set i ((eD L i).cost j c))
 | [],i,j,c,h,_=>by simp at h
 |l::L,0,j,c,_,hj=>by
  simp only[bA,List.flatMap_cons,List.set_cons_zero,Nat.zero_mul,Nat.zero_add,eD,List.getD_cons_zero]
  rw[List.set_append_left _ _ (by simp[eS];omega)]
  congr 1
  rcases(show j=0∨j=1 by omega)with rfl|rfl<;>rfl
 |l::L,i+1,j,c,h,hj=>by
  have ih:=nO L i j c (by simpa using h) hj
  simp only[bA,List.flatMap_cons,List.set_cons_succ,eD,List.getD_cons_succ]at ih ⊢
  rw[List.set_append_right _ _ (by simp[eS];omega)]
  congr 1
  rw[show(i+1)*7+2+j - (eS l).length=i*7+2+j by simp[eS];omega]
  exact ih
section
variable {T:au} {D:List Bool} {N d:Nat}
theorem eI.cost(h:eI T D N d)(a:Nat)(c:Int)(ha:a<2*T.aa.length)(hc:1≤c∧c≤65535):eI (bX T a c) D N d:=⟨kF h.valid a c ha hc,h.nodes,by rw[h.mask];simp[bX],h.over,h.dest⟩
theorem eI.down(h:eI T D N d)(a:Nat)(b:Bool):eI T (D.set a b) N d:=⟨h.valid,h.nodes,by rw[List.length_set];exact h.mask,h.over,h.dest⟩
theorem eI.bt(h:eI T D N d)(n:Nat)(b:Bool):eI (bt T n b) D N d:=⟨kE h.valid n b,h.nodes,h.mask,by rw[←h.over];simp[Net.bt],h.dest⟩
theorem eI.eG(h:eI T D N d)(a c:Int):eI (eG T a c) D N d:=by
 unfold Net.eG
 split
 ·rename_i h0
  unfold gO at h0
  split at h0
  ·rename_i h1
   obtain⟨k1,k2⟩:=kn.1 h1
   split at h0
   ·omega
   ·exact h.cost a.toNat c (by omega) (by omega)
  ·omega
 ·exact h
theorem eI.er(h:eI T D N d)(a:Int)(b:Bool):eI T (er T D a b) N d:=by
 unfold Net.er
 split
 ·exact h.down _ _
 ·exact h
theorem eI.ek(h:eI T D N d)(n:Int)(b:Bool):eI (ek T n b) D N d:=by
 unfold Net.ek
 split
 ·exact h.bt _ _
 ·exact h
theorem eI.sound(h:eI T D N d):Sound T:=bz h.valid
theorem eI.oF(h:eI T D N d):cC T D d false (aP T D d false):=ik h.sound D false (by have:=h.dest;have:=h.nodes;omega)
theorem eI.len(h:eI T D N d):(aP T D d false).length=N:=by have:=h.oF.len;have:=h.nodes;omega
theorem eI.ub(h:eI T D N d)(x:Nat)(hx:(x:Int)<T.nodes):at' (aP T D d false) (x:Int)≤4194240:=Inv.ub (lJ h.sound D false (by have:=h.dest;have:=h.nodes;omega)) x hx h.sound.nodes.2
theorem mG(hT:eI T D N d)(tc a c:Int):
  aG Tryd.prog 7 [.ptr 0 0,num a,num c] (bZ T D d N (aP T D d false) (num tc)) (fun r σ'=>∃tc',r=num (gO T a c)∧σ'=bZ (eG T a c) D d N (aP (eG T a c) D d false) (num tc')):=by
 have hll:=cq hT.valid
 refine bc Tryd.func7 I Tryd.ntmps7 I<|ag (.a 1 I<|.k [0,1,2] I)<|al<|ag (.a 2 I<|.k [0,1,2,8] I)<|ak I (fun hc=>?_) (fun hc=>?_)
 ·cases hc
 ·refine an<|al ?_
  obtain⟨p0,hp0⟩:∃q,kC T a=q:=⟨_,rfl⟩
  refine ag (.a 5 I<|.v (iG I (aq.cons (bS []).eN (aq.cons aZ.pure aq.nil)) (hp0▸pA T (by omega) a)) I<|.a 1 I<|.k [0,1,2,15] I)<|ak I (fun hc=>?_) (fun hc=>?_)
  ·have h0:p0=false:=by cases p0;rfl;cases hc
   have he:gO T a c=2:=by unfold gO;rw[hp0,h0];rfl
   have ht:eG T a c=T:=by unfold eG;rw[if_neg (by omega)]
   exact ag (.a 1 I<|.k [6] I)<|aF<|⟨_,aK.of I,tc,by rw[he];rfl,by rw[ht]⟩
  ·have h0:p0=true:=by cases p0;cases hc;rfl
   rw[h0]at hp0
   obtain⟨k1,k2⟩:=kn.1 hp0
   obtain⟨b,rfl⟩:=Int.eq_ofNat_of_zero_le k1
   have hb:b<2*T.aa.length:=by omega
   have hb2:b / 2<T.aa.length:=by omega
   obtain⟨p1,hp1⟩:∃q,decide (c<1)=q:=⟨_,rfl⟩
   obtain⟨p2,hp2⟩:∃q,decide (65535<c)=q:=⟨_,rfl⟩
   clear hc
   refine an<|al<|bF 21 (.raw (.bool (p1||p2))) [0,1,2] I ?_ ?_
   ·refine .a 1 I<|.v (cJ I (hp1)) I<|.a 1 I<|?_
    cases p1
    ·exact .a 1 I<|.v (cJ I (hp2)) I<|.a 1 I<|.k [21,0,1,2] I
    ·exact .a 3 I<|.k [21,0,1,2] I
   refine ak I (fun hc=>?_) (fun hc=>?_)
   ·have he:gO T (b:Int) c=1:=by
     unfold gO
     rw[hp0,if_pos rfl,if_pos]
     rcases Bool.or_eq_true_iff.1 hc with h|h
     ·rw[h]at hp1;exact .inl (of_decide_eq_true hp1)
     ·rw[h]at hp2;exact .inr (of_decide_eq_true hp2)
    have ht:eG T (b:Int) c=T:=by unfold eG;rw[if_neg (by omega)]
    exact ag (.a 1 I<|.k [6] I)<|aF<|⟨_,aK.of I,tc,by rw[he];rfl,by rw[ht]⟩
   ·have hcc:1≤c∧c≤65535:=by
     obtain⟨c1,c2⟩:=Bool.or_eq_false_iff.1 hc
     rw[c1]at hp1
     rw[c2]at hp2
     have:=of_decide_eq_false hp1
     have:=of_decide_eq_false hp2
     omega
    have he:gO T (b:Int) c=0:=by unfold gO;rw[hp0,if_pos rfl,if_neg (by omega)]
    have ht:eG T (b:Int) c=bX T b c:=by unfold eG;rw[if_pos he];rfl
    refine an<|a7<|ax 6 I<|aM (jP I I I (by decide) (tK b) (by unfold In64;omega)) I<|ax 1 I<|aM (pg I I I (by decide) (uu b)) I<|ax 1 I<|aM (aY (b / 2*7) I) I<|ax 1 I<|aM (kN (j:=b % 2) I (bB.ar.get I) I I (by omega) (by omega) (by omega)) I<|bq (dy I (bB.tk.get I) I I I (by show b / 2*7+2+b % 2<(bA T.aa).length;rw[ja];omega)) I I<|aO [0,1] I ?_
    refine dI (σ':=bZ (bX T b c) D d N (aP T D d false) (num tc)) (by
     have e:over (bA T.aa) (b / 2*7+2+b % 2) [num c]=bA (bX T b c).aa:=by
      rw[si _ _ _ (by rw[ja];omega)]
      exact nO T.aa (b / 2) (b % 2) c hb2 (by omega)
     have e2:(bX T b c).aa.length=T.aa.length:=by simp[bX]
     unfold bZ
     rw[e2,←e]
     rfl) ?_
    refine a7<|ax 3 I<|bh I I (aG.mono (gE (hT.cost b c hb hcc) (nR (D:=D) (d:=d) hb) (aP T D d false) hT.oF hT.len hT.ub tc [(b:Int)] (by simp) (fun x hx=>by simp at hx;subst hx;simp[bX];omega) (fun x hx _=>⟨b,by simp,by rw[hx]⟩)) (fun _ σ' h=>?_))
    obtain⟨tc',rfl⟩:=h
    refine aO [] I ?_
    exact ag (.a 1 I<|.k [6] I)<|aF<|⟨_,aK.of I,tc',by rw[he];rfl,by rw[ht]⟩
theorem nT(hT:eI T D N d)(tc a:Int)(v:Bool):
  aG Tryd.prog 8 [.ptr 0 0,num a,flag v] (bZ T D d N (aP T D d false) (num tc)) (fun r σ'=>∃tc',r=num (mJ T a)∧σ'=bZ T (er T D a v) d N (aP T (er T D a v) d false) (num tc')):=by
 have hll:=cq hT.valid
 have hm:=hT.mask
 refine bc Tryd.func8 I Tryd.ntmps8 I<|ag (.a 1 I<|.k [0,1,2] I)<|al<|ag (.a 2 I<|.k [0,1,2,8] I)<|ak I (fun hc=>?_) (fun hc=>?_)
 ·cases hc
 ·refine an<|al ?_
  obtain⟨p0,hp0⟩:∃q,kC T a=q:=⟨_,rfl⟩
  refine ag (.a 5 I<|.v (iG I (aq.cons (bS []).eN (aq.cons aZ.pure aq.nil)) (hp0▸pA T (by omega) a)) I<|.a 1 I<|.k [0,1,2,15] I)<|ak I (fun hc=>?_) (fun hc=>?_)
  ·have h0:p0=false:=by cases p0;rfl;cases hc
   have he:mJ T a=2:=by unfold mJ;rw[hp0,h0];rfl
   have ht:er T D a v=D:=by unfold er;rw[hp0,h0];rfl
   exact ag (.a 1 I<|.k [6] I)<|aF<|⟨_,aK.of I,tc,by rw[he];rfl,by rw[ht]⟩
  ·have h0:p0=true:=by cases p0;cases hc;rfl
   rw[h0]at hp0
   obtain⟨k1,k2⟩:=kn.1 hp0
   obtain⟨b,rfl⟩:=Int.eq_ofNat_of_zero_le k1
   have hb:b<2*T.aa.length:=by omega
   have he:mJ T (b:Int)=0:=by unfold mJ;rw[hp0];rfl
   have ht:er T D (b:Int) v=D.set b v:=by unfold er;rw[hp0];rfl
   refine an<|a7<|ax 6 I<|aM (aY (b) I) I<|bq ((by first|exact bu I (bB.tk.get I) I I I (by first|omega|(simp;omega))|exact bm I (bB.tk.get I) I I I (by first|omega|(simp;omega)))) I I<|aO [0,1] I ?_
   refine dI (σ':=bZ T (D.set b v) d N (aP T D d false) (num tc)) (by unfold bZ;rw[List.length_set];rfl) ?_
   refine a7<|ax 3 I<|bh I I (aG.mono (gE (hT.down b v) (mQ (D:=D) (d:=d)) (aP T D d false) hT.oF hT.len hT.ub tc [(b:Int)] (by simp) (fun x hx=>by simp at hx;subst hx;omega) (fun x hx _=>⟨b,by simp,by rw[hx]⟩)) (fun _ σ' h=>?_))
   obtain⟨tc',rfl⟩:=h
   refine aO [] I ?_
   exact ag (.a 1 I<|.k [6] I)<|aF<|⟨_,aK.of I,tc',by rw[he];rfl,by rw[ht]⟩
theorem nk(hT:eI T D N d)(tc n:Int)(v:Bool):
  aG Tryd.prog 9 [.ptr 0 0,num n,flag v] (bZ T D d N (aP T D d false) (num tc)) (fun r σ'=>∃tc',r=num (mZ T n)∧σ'=bZ (ek T n v) D d N (aP (ek T n v) D d false) (num tc')):=by
 have hll:=cq hT.valid
 have hov:=hT.over
 have hnn:=hT.nodes
 refine bc Tryd.func9 I Tryd.ntmps9 I<|ag (.a 1 I<|.k [0,1,2] I)<|al<|ag (.a 2 I<|.k [0,1,2,8] I)<|ak I (fun hc=>?_) (fun hc=>?_)
 ·cases hc
 ·refine an<|al ?_
  obtain⟨p0,hp0⟩:∃q,bL T n=q:=⟨_,rfl⟩
  refine ag (.a 5 I<|.v (iG I (aq.cons (bS []).eN (aq.cons aZ.pure aq.nil)) (hp0▸eu T n)) I<|.a 1 I<|.k [0,1,2,15] I)<|ak I (fun hc=>?_) (fun hc=>?_)
  ·have h0:p0=false:=by cases p0;rfl;cases hc
   have he:mZ T n=2:=by unfold mZ;rw[hp0,h0];rfl
   have ht:ek T n v=T:=by unfold ek;rw[hp0,h0];rfl
   exact ag (.a 1 I<|.k [6] I)<|aF<|⟨_,aK.of I,tc,by rw[he];rfl,by rw[ht]⟩
  ·have h0:p0=true:=by cases p0;cases hc;rfl
   rw[h0]at hp0
   obtain⟨k1,k2⟩:=cI.1 hp0
   obtain⟨b,rfl⟩:=Int.eq_ofNat_of_zero_le k1
   have hb:b<N:=by omega
   have he:mZ T (b:Int)=0:=by unfold mZ;rw[hp0];rfl
   have ht:ek T (b:Int) v=bt T b v:=by unfold ek;rw[hp0];rfl
   have hT2:=hT.bt b v
   have hev:=gu (bt T b v) hT2.valid
   rw[show(bt T b v).nodes.toNat=N by have:=hT2.nodes;omega]at hev
   have hrl:=cw (aA (bt T b v)) N (2*(bt T b v).aa.length)
   have hrow:(bp (aA (bt T b v)) N (2*(bt T b v).aa.length)).getD b []=ao (bt T b v) false b:=cH _ _ _ _ hb
   have hal:=dK (bt T b v) false b
   have hll2:(bt T b v).aa.length=T.aa.length:=rfl
   have hbnd:∀x∈ao (bt T b v) false b,0≤x∧x<2*((bt T b v).aa.length:Int):=fun x hx=>by
    unfold ao at hx
    obtain⟨y,hy,rfl⟩:=List.mem_map.1 hx
    have:=List.mem_range.1 (List.mem_filter.1 hy).1
    simp only[Int.ofNat_eq_natCast]
    omega
   refine an<|a7<|ax 7 I<|aM (aY (b) I) I<|bq ((by first|exact bu I (bB.tk.get I) I I I (by first|omega|(simp;omega))|exact bm I (bB.tk.get I) I I I (by first|omega|(simp;omega)))) I I<|aO [0,1] I ?_
   refine dI (σ':=bZ (bt T b v) D d N (aP T D d false) (num tc)) (by unfold bZ bt;simp only[List.length_set];rfl) ?_
   refine a7<|ax 5 I<|aM (fE I (aq.cons (bS []).eN aq.nil) hev) I<|ax 1 I<|aM (aY (b) I) I<|aM (aV I ((show((bp (aA (bt T b v)) N (2*(bt T b v).aa.length)).map aL)[b]? =some (aL (ao (bt T b v) false b)) by rw[←hrow];simp[hrl,hb]))) I<|bh I I (aG.mono (gE hT2 (np (D:=D) (d:=d) hT.sound) (aP T D d false) hT.oF hT.len hT.ub tc (ao (bt T b v) false b) (by omega) hbnd (fun x hx hxl=>⟨x,(df (bt T b v) false b x).2 ⟨hxl,hx⟩,rfl⟩)) (fun _ σ' h=>?_))
   obtain⟨tc',rfl⟩:=h
   refine aO [] I ?_
   exact ag (.a 1 I<|.k [6] I)<|aF<|⟨_,aK.of I,tc',by rw[he];rfl,by rw[ht]⟩
end
end
section
open Go.RowKit cX Mem Net
def jY(T:au)(D:List Bool)(L:List Int)(dn:Int)(d a:Nat):Bool:=
 !(db D a||decide (L.getD (aA T a).toNat 0<0)||(decide (aA T a≠(d:Int))&&cU T (aA T a).toNat))&&decide (L.getD (aA T a).toNat 0+bg T a=dn)
def cT(T:au)(D:List Bool)(L:List Int)(dn:Int)(d:Nat)(l:List Int):List Int:=l.filter fun a=>jY T D L dn d a.toNat
theorem p7(T:au)(D:List Bool)(L lv:List Int)(n d:Nat)(hv:aW T=true)(hf:b8 T D=true)(hL:(L.length:Int)=T.nodes)(hub:∀x∈L, -1≤x∧x≤4194240)(hn:(n:Int)<T.nodes)(hd:(d:Int)<T.nodes)
    (hlv:∀a∈lv,0≤a∧a<2*(T.aa.length:Int)) (hll:lv.length≤100000):
    Can Tryd.prog 50 [bI T,br D,aL L,aL lv,num n,num d] (· =aL (if n=d∨L.getD n 0<0 then [] else cT T D L (L.getD n 0) d lv)):=by
  have hbd:=cr hv
  have hS:=bz hv
  have hnL:n<L.length:=by omega
  refine bE Tryd.func50 I Tryd.ntmps50 I<|ag (.a 2 I<|.k [1,2,3,4,5,6] I)<|ag (.a 1 I<|.k [1,2,3,4,5,6,13] I) ?_
  obtain⟨q1,hq1⟩:∃q,decide ((n:Int)=(d:Int))=q:=⟨_,rfl⟩
  obtain⟨q2,hq2⟩:∃q,decide (L.getD n 0<0)=q:=⟨_,rfl⟩
  refine al<|bF 26 (.raw (.bool (q1||q2))) [1,2,3,4,5,6,13] I ?_ ?_
  · refine .a 2 I<|.v (cJ I (hq1)) I<|.a 1 I<|?_
    cases q1
    · exact .a 2 I<|.v (aY (n) I) I<|.v (aV I (aN L n hnL)) I<|.v (cJ I (hq2)) I<|.a 1 I<|.k [26,1,2,3,4,5,6,13] I
    · exact .a 6 I<|.k [26,1,2,3,4,5,6,13] I
  refine ak (b:=q1||q2) I (fun hc=>?_) (fun hc=>?_)
  · have:n=d∨L.getD n 0<0:=by
      rcases Bool.or_eq_true_iff.1 hc with h|h
      · rw[h]at hq1;exact .inl (by have:=of_decide_eq_true hq1;omega)
      · rw[h]at hq2;exact .inr (of_decide_eq_true hq2)
    rw[if_pos this]
    refine ag (.a 2 I<|.k [12] I)<|aF ⟨_,_,.cons (.tmp rfl) .nil,aZ.cd,rfl⟩
  · obtain ⟨c1, c2⟩ := Bool.or_eq_false_iff.1 hc
    rw[c1]at hq1
    rw[c2]at hq2
    have hnd:¬(n=d∨L.getD n 0<0):=by
      have:=of_decide_eq_false hq1
      have:=of_decide_eq_false hq2
      omega
    rw[if_neg hnd]
    refine an<|al<|ag (.a 3 I<|.k [1,2,4,5,6,13,28,29,30] I)<|ee 13 3 1 I ?_
    refine aw<|fL (.cons (k:=1) I<|.cons (k:=2) I<|.cons (k:=4) I<|.cons (k:=5) I<|.cons (k:=6) I<|.cons (k:=13) I<|.cons (k:=28) I<|.cons (k:=29) I<|.cons (k:=30) I<|Sub.nil _) ?_
    refine bx (fun r s=>∃i,i≤lv.length∧r=lv.length - i∧s=⟨[(1,br D),(2,aL L),(4,num n),(5,num d),(6,.bY (da T) 0),(13,.own 0),(28,aL lv),(29,num lv.length),(30,num i)],[some (.row 3 1 (cT T D L (L.getD n 0) d (lv.take i)).length (aI (cT T D L (L.getD n 0) d (lv.take i))))]⟩) lv.length ⟨0,by omega,by omega,?_⟩ ?_
    · simp only[List.take_zero,cT,List.filter_nil]
      rfl
    · rintro r s ⟨i,hi,rfl,rfl⟩
      refine ag (.a 1 I<|.k [1,2,4,5,6,13,28,29,30,31] I)<|al<|ak (b:=decide ((i:Int)<(lv.length:Int))) I (fun hc=>?_) (fun hc=>?_)
      · have hlt:i<lv.length:=by have:=of_decide_eq_true hc;omega
        refine an ?_
        obtain⟨a,ha⟩:∃a:Nat,lv.getD i 0=(a:Int):=Int.eq_ofNat_of_zero_le (hlv _ (c7 hlt)).1
        have ham:a<2*T.aa.length:=by
          have:=(hlv (lv.getD i 0) (c7 hlt)).2
          omega
        have hstep:cT T D L (L.getD n 0) d (lv.take (i+1))=cT T D L (L.getD n 0) d (lv.take i)++(if jY T D L (L.getD n 0) d a then [(a:Int)] else []):=by
          unfold cT
          rw[List.take_add_one,List.filter_append,show lv[i]? =some (a:Int) by rw[←ha,List.getD_eq_getElem?_getD];simp[hlt]]
          congr 1
          simp only[Option.toList_some,List.filter_cons,List.filter_nil,Int.toNat_natCast]
        have hlen:(cT T D L (L.getD n 0) d (lv.take i)).length≤100000:=Nat.le_trans (List.length_filter_le _ _) (by rw[List.length_take];omega)
        obtain⟨hd0,hhN⟩:=hS.head a ham
        obtain⟨h,hh⟩:=Int.eq_ofNat_of_zero_le hd0
        have hhL:h<L.length:=by omega
        have hub1: -1≤L.getD h 0∧L.getD h 0≤4194240:=hub _ (c7 hhL)
        have hcb:=hS.cost a ham
        have hDl:D.length=0∨a<D.length:=by simp only[b8,decide_eq_true_eq]at hf;omega
        have hov:T.over.length=0∨h<T.over.length:=by have:=hbd.2.2.2;omega
        refine al<|aw<|ag (.v (aY (i) I) I<|.v (aV I ((aN lv i hlt).trans (by rw[ha]))) I<|.a 1 I<|.k [1,2,4,5,6,13,15,28,29,30] I)<|ag (.a 2 I<|.c rfl (hh▸e0 T a ham (by omega)) I<|.a 1 I<|.k [1,2,4,5,6,13,15,16,28,29,30] I) ?_
        obtain⟨p1,hp1⟩:∃q,db D a=q:=⟨_,rfl⟩
        obtain⟨p2,hp2⟩:∃q,decide (L.getD h 0<0)=q:=⟨_,rfl⟩
        obtain⟨p3,hp3⟩:∃q,decide ((h:Int)≠(d:Int))=q:=⟨_,rfl⟩
        obtain⟨p4,hp4⟩:∃q,cU T h=q:=⟨_,rfl⟩
        obtain⟨p5,hp5⟩:∃q,decide (L.getD h 0+bg T a=L.getD n 0)=q:=⟨_,rfl⟩
        have hpass:jY T D L (L.getD n 0) d a=(!((p1||p2)||(p3&&p4))&&p5):=by
          unfold jY;rw[hh,Int.toNat_natCast,hp1,hp2,hp3,hp4,hp5]
        refine al<|bF 56 (.raw (.bool ((p1||p2)||(p3&&p4)))) [1,2,4,5,6,13,15,16,28,29,30] I ?_ ?_
        · refine .a 2 I<|.c rfl (hp1▸ie D a hDl) I<|.a 1 I<|?_
          cases p1
          · refine .a 2 I<|.v (aY (h) I) I<|.v (aV I (aN L h hhL)) I<|.v (cJ I (hp2)) I<|.a 2 I<|?_
            cases p2
            · refine .a 2 I<|.v (cJ I (hp3)) I<|.a 1 I<|?_
              cases p3
              · exact .a 5 I<|.k [56,1,2,4,5,6,13,15,16,28,29,30] I
              · exact .a 2 I<|.c rfl (hp4▸ke T h hov) I<|.a 2 I<|.k [56,1,2,4,5,6,13,15,16,28,29,30] I
            · exact .a 9 I<|.k [56,1,2,4,5,6,13,15,16,28,29,30] I
          · exact .a 16 I<|.k [56,1,2,4,5,6,13,15,16,28,29,30] I
        refine ak (b:=(p1||p2)||(p3&&p4)) I (fun hc=>?_) (fun hc=>?_)
        · rw[hc]at hpass
          refine bn<|aD (.v (bw I) I<|.a 1 I<|.k [1,2,4,5,6,13,28,29,30] I) ?_
          refine⟨lv.length - (i+1),by omega,i+1,by omega,rfl,?_⟩
          rw[hstep,hpass]
          simp only[Bool.not_true,Bool.false_and,Bool.false_eq_true,if_false,List.append_nil]
          rfl
        · rw[hc]at hpass
          refine an<|jk mixed (by kernel_rfl) (.a 2 I<|.v [57,58] (aY (h) I) I I<|.v [59] (aV I (aN L h hhL)) I I<|.a 2 I<|.v [61,62] (fu I (eW T a ham)) I I<|.v [60,63] (bw I) I I<|.a 2 I<|.v [65,66] (aY (n) I) I I<|.v [67] (aV I (aN L n hnL)) I I<|.v [64,68] (cJ I (hp5)) I I<|.k [1,2,4,5,6,13,15,28,29,30,69] I) ?_
          refine ak (b:=p5) I (fun hc5=>?_) (fun hc5=>?_)
          · rw[hc5]at hpass
            refine aR<|ax 3 I<|bD (aU I (bB.rk.get I) I I I I (by unfold maxLen;omega)) I<|ax 1 I ?_
            refine eb [1] (.c 1<|.c 2<|.c 4<|.c 5<|.c 6<|.c 13<|.c 28<|.c 29<|.c 30<|.nil) (.kept rfl (.dX rfl (dL _ _))<|.nil) I I (af ?_)
            refine aD (.v (bw I) I<|.a 1 I<|.k [1,2,4,5,6,13,28,29,30] I) ?_
            refine⟨lv.length - (i+1),by omega,i+1,by omega,rfl,?_⟩
            rw[hstep,hpass]
            simp only[Bool.not_false,Bool.true_and,if_true,List.length_append,List.length_singleton]
            rfl
          · rw[hc5]at hpass
            refine an<|aD (.v (bw I) I<|.a 1 I<|.k [1,2,4,5,6,13,28,29,30] I) ?_
            refine⟨lv.length - (i+1),by omega,i+1,by omega,rfl,?_⟩
            rw[hstep,hpass]
            simp only[Bool.not_false,Bool.true_and,Bool.false_eq_true,if_false,List.append_nil]
            rfl
      · have:i=lv.length:=by have:=of_decide_eq_false hc;omega
        subst this
        rw[List.take_length]
        exact bn<|ag (.a 2 I<|.k [12] I)<|aF ⟨_,_,.cons (.tmp rfl) .nil,aZ.du rfl aq.pure,rfl⟩
open Heap
def bW(T:au)(D:List Bool)(ns:List Int):Int:=if aW T&&b8 T D then(if ns.all (bL T) then 0 else 2) else 1
theorem kT(T:au)(D:List Bool)(ns:List Int)(hns:ns.length≤1000):Can Tryd.prog 38 [bI T,br D,aL ns] (· =num (bW T D ns)):=by
 refine bE Tryd.func38 I Tryd.ntmps38 I<|ag (.a 2 I<|.k [1,2,3] I)<|al ?_
 obtain⟨q1,hq1⟩:∃q,aW T=q:=⟨_,rfl⟩
 obtain⟨q2,hq2⟩:∃q,b8 T D=q:=⟨_,rfl⟩
 refine bF 17 (.raw (.bool ((!q1)||(!q2)))) [2,3] I ?_ ?_
 ·refine .a 1 I<|.c rfl (hq1▸iO T) I<|.a 2 I<|?_
  cases q1
  ·exact .a 5 I<|.k [17,2,3] I
  ·exact .a 2 I<|.c rfl (hq2▸j6 T D (by have:=cq hq1;omega)) I<|.a 2 I<|.k [17,2,3] I
 refine ak I (fun hc=>?_) (fun hc=>?_)
 ·have hch:bW T D ns=1:=by
   unfold bW
   rw[hq1,hq2,if_neg]
   revert hc
   cases q1<;>cases q2<;>simp
  exact ag (.a 1 I<|.k [6] I)<|aF<|⟨_,_,aK.of I,aZ.pure,by rw[hch];rfl⟩
 ·have hok:(aW T&&b8 T D)=true:=by
   rw[hq1,hq2]
   revert hc
   cases q1<;>cases q2<;>simp
  refine an<|al<|ag (.a 3 I<|.k [3,18,19,20] I)<|aw<|fx [3,18,19,20] I<|bx (fun r s=>∃i,i≤ns.length∧(ns.take i).all (bL T)=true∧r=ns.length - i∧s=⟨[(3,.bY (da T) 0),(18,aL ns),(19,num ns.length),(20,num i)],[]⟩) ns.length ⟨0,by omega,by simp,by omega,rfl⟩ ?_
  rintro r s ⟨i,hi,hall,rfl,rfl⟩
  refine ag (.a 1 I<|.k [3,18,19,20,21] I)<|al<|ak I (fun hc=>?_) (fun hc=>?_)
  ·have hlt:i<ns.length:=by have:=of_decide_eq_true hc;omega
   refine an<|al<|aw<|ag (.v (aY (i) I) I<|.v (aV I (aN ns i hlt)) I<|.a 1 I<|.k [3,8,18,19,20] I)<|ag (.a 2 I<|.c rfl (eu T _) I<|.a 1 I<|.k [3,18,19,20,27] I)<|ak I (fun hc=>?_) (fun hc=>?_)
   ·have hch:bW T D ns=2:=by
     unfold bW
     rw[if_pos hok,if_neg]
     intro h
     have h1:=List.all_eq_true.1 h _ (c7 (d:=0) hlt)
     rw[h1]at hc
     cases hc
    exact ag (.a 1 I<|.k [6] I)<|aF<|⟨_,_,aK.of I,aZ.pure,by rw[hch];rfl⟩
   ·have hall':(ns.take (i+1)).all (bL T)=true:=by
     rw[ef ns i 0 hlt,List.all_append,hall]
     have:bL T (ns.getD i 0)=true:=by revert hc;cases bL T (ns.getD i 0)<;>simp
     simp only[List.all_cons,this,List.all_nil,Bool.and_self]
    refine an<|aD (.v (bw I) I<|.a 1 I<|.k [3,18,19,20] I) ?_
    exact⟨ns.length - (i+1),by omega,i+1,by omega,hall',rfl,rfl⟩
  ·have hie:i=ns.length:=by have:=of_decide_eq_false hc;omega
   refine bn<|ag (.a 1 I<|.k [6] I)<|aF<|⟨_,_,aK.of I,aZ.pure,?_⟩
   unfold bW
   rw[if_pos hok,if_pos (by rw[hie,List.take_length]at hall;exact hall)]
   rfl
theorem kW(rs:List (List Int))(i:Nat)(hi:i<rs.length):Can Tryd.prog 39 ([num i]++[.bY [dr rs] 0]) (· =aL (rs.getD i [])):=by
 exact bE Tryd.func39 I Tryd.ntmps39 I<|ag (.a 1 I<|.k [0,1] I)<|ag (.a 2 I<|.v (aY (i) I) I<|.v (aV I ((show(rs.map aL)[i]? =some (aL (rs.getD i [])) by simp[hi]))) I<|.a 1 I<|.k [3] I)<|aF<|⟨_,_,aK.of I,aZ.pure,rfl⟩
theorem ld(T:au)(a:Nat)(ha:a<2*T.aa.length):Can Tryd.prog 40 ([num a]++[.bY (da T) 0]) (· =num (aE T a)):=by
 exact bE Tryd.func40 I Tryd.ntmps40 I<|ag (.a 1 I<|.k [0,1] I)<|ag (.a 2 I<|.c rfl (dV T a ha) I<|.a 1 I<|.k [3] I)<|aF<|⟨_,_,aK.of I,aZ.pure,rfl⟩
def iE(e:Int)(l:List Int):PV:=.tuple [aL (if e=0 then l else []),num e]
theorem rn(T:au)(D:List Bool)(d:Int):Can Tryd.prog 17 [bI T,br D,num d] (· =iE (bW T D [d]) (aP T D d.toNat false)):=by
 refine bE Tryd.func17 I Tryd.ntmps17 I<|ag (.a 3 I<|.k [1,2,3] I)<|al<|ag (.a 4 I<|.c rfl (kT T D [d] (by simp)) I<|.a 1 I<|.k [1,2,3,8] I)<|ag (.a 2 I<|.k [1,2,3,8,17] I)<|ak I (fun hc=>?_) (fun hc=>?_)
 ·have he:bW T D [d]≠0:=of_decide_eq_true hc
  exact ag (.a 3 I<|.k [6,7] I)<|aF<|⟨_,_,aK.of I,aZ.eo (aq.cons aZ.cd (aq.cons aZ.pure aq.nil)),by unfold iE;rw[if_neg he];rfl⟩
 ·have he:bW T D [d]=0:=by have:=of_decide_eq_false hc;omega
  have hok:(aW T&&b8 T D)=true∧bL T d=true:=by
   unfold bW at he
   split at he
   ·rename_i h1
    split at he
    ·rename_i h2;exact⟨h1,by simpa using h2⟩
    ·omega
   ·omega
  obtain⟨hvf,hnd⟩:=hok
  obtain⟨hv,hf⟩:=Bool.and_eq_true_iff.1 hvf
  have hd:0≤d∧d<T.nodes:=by simpa[bL]using hnd
  obtain⟨n,rfl⟩:=Int.eq_ofNat_of_zero_le hd.1
  have hS:=bz hv
  refine an<|a7<|ax 1 I<|nZ I (gW T hv) I<|ax 2 I<|aO [1,2,3,9] I ?_
  refine a7<|ax 3 I<|aM (gA I I) I<|ax 4 I<|aO [10] I ?_
  refine nu (.cons 10 I (aZ.ot rfl (aq.cons aZ.pure<|aq.cons aZ.pure<|aq.cons aZ.pure<|aq.cons aZ.pure<|aq.cons aZ.pure<|aq.cons (aZ.km (aq.cons (aZ.ot rfl (aq.cons aZ.pure aq.nil)) aq.nil))<|aq.cons aZ.pure aq.nil)) .nil) ?_
  exact ag (.a 1 I<|.c rfl (sP T D n false 39 40 [.bY [dr (bp (aA T) T.nodes.toNat (2*T.aa.length))] 0] [.bY (da T) 0] hv hf hd.2 (by kernel_rfl) (by kernel_rfl) (fun i hi=>by have h:=kW (bp (aA T) T.nodes.toNat (2*T.aa.length)) i (by rw[cw];omega);rw[cH _ _ _ _ (by omega)]at h;exact h) (fun a ha=>ld T a ha)) I<|.a 2 I<|.k [6,7] I)<|aF<|⟨_,_,aK.of I,aZ.pure,by unfold iE;rw[if_pos he,he];rfl⟩
set_option maxHeartbeats 4000000 in
theorem sM(T : au)(D : List Bool)(n : Nat)(dir : Bool)(f1 f2 : FuncId)(cap1 cap2 : List PV)[av cap1][av cap2](hv : aW T = true)(hf : b8 T D = true)(hn : (n : Int) < T.nodes)(he1 : enters Tryd.prog f1 = true)(he2 : enters Tryd.prog f2 = true)
    (h1:∀i:Nat,(i:Int)<T.nodes→Can Tryd.prog f1 ([num i]++cap1) (· =aL (ao T dir i))) (h2:∀a:Nat,a<2*T.aa.length→Can Tryd.prog f2 ([num a]++cap2) (· =num (cS T dir a))):
    aG Tryd.prog 42 [.agg (dS T D n f1 f2 cap1 cap2)] [] (fun r σ'=>r= .own 0∧σ'=[some (.row 3 1 (aP T D n dir).length (aI (aP T D n dir)))]):=by
  have hbd:=cr hv
  have hS:=bz hv
  obtain⟨N,hN⟩:∃N:Nat,T.nodes=(N:Int):=⟨T.nodes.toNat,by omega⟩
  have hN64:N≤64:=by have:=hS.nodes;omega
  have hnN:n<N:=by omega
  refine bc Tryd.func42 I Tryd.ntmps42 I<|ag (.a 2 I<|.k [1] I)<|a7<|ax 3 I<|bD (b9 I (bB.rk.get I) I I hN hN ⟨by unfold maxLen;omega,by omega⟩) I<|ax 1 I<|aO [1,3] I ?_
  refine al<|ag (.a 3 I<|.k [1,3,21,22] I)<|aw<|fx [1,3,21,22] I<|bx (fun r s=>∃k,k≤N∧r=N - k∧s=⟨[(1,.bY (dS T D n f1 f2 cap1 cap2) 0),(3,.own 0),(21,num N),(22,num k)],[some (.row 3 1 N (aI (List.replicate k (-1)++List.replicate (N - k) 0)))]⟩) N ⟨0,by omega,by omega,by rw[←fy N];rfl⟩ ?_
  rintro r s ⟨k,hk,rfl,rfl⟩
  refine ag (.a 1 I<|.k [1,3,21,22,23] I)<|al<|ak I (fun hc=>?_) (fun hc=>?_)
  · have hlt:k<N:=by have:=of_decide_eq_true hc;omega
    refine an<|al<|aw<|ag (.a 2 I<|.k [1,3,4,21,22] I)<|aR<|ax 2 I<|aM (aY (k) I) I<|bq ((by first|exact bu I (bB.tk.get I) I I I (by first|omega|(simp;omega))|exact bm I (bB.tk.get I) I I I (by first|omega|(simp;omega)))) I I<|aO [1,3,21,22] I ?_
    refine dI (σ':=[some (.row 3 1 N (aI (List.replicate (k+1) (-1)++List.replicate (N - (k+1)) 0)))]) (by rw[←mI N k hlt];rfl) ?_
    refine aD (.v (bw I) I<|.a 1 I<|.k [1,3,21,22] I) ?_
    exact⟨N - (k+1),by omega,k+1,by omega,rfl,rfl⟩
  · have hke:k=N:=by have:=of_decide_eq_false hc;omega
    subst hke
    refine dI (σ':=[some (.row 3 1 k (aI (List.replicate k (-1))))]) (by simp) ?_
    refine bn<|a7<|ax 2 I<|aM (aV I ((show some (num T.nodes)=some (num (k:Int)) by rw[hN]))) I<|bh I I (aG.mono (ml k (some (.row 3 1 k (aI (List.replicate k (-1))))) (cP _ _) (by omega)) (fun _ σ' h=>?_))
    obtain⟨rfl,rfl⟩:=h
    refine ax 5 I<|aO [1,3,5] I ?_
    refine a7<|ax 3 I<|bh I I (aG.mono (iw (some (.row 3 1 k (aI (List.replicate k (-1))))) (cP _ _) _ _ _ (jC k) (by omega) n hnN 0) (fun _ σ' h=>?_))
    obtain⟨b,n1,P1,O1,rfl,hok,hheld⟩:=h
    refine aO [1,3,5] I ?_
    refine i6 (cP _ _) (.cons 1 I Ren.pure<|.cons 3 I (Ren.own (i:=0) I)<|.cons 5 I (Ren.ptr (i:=1) I)<|.nil) ?_
    have hD0:=lO (T:=T) (D:=D) (N:=k) (n:=n) (dir:=dir) hN.symm hnN (K:=(List.replicate k (0:Int)).set n 0) (H:=fun y=>bf O1 (y:Int)) (by rw[l8 _ _ _ _ (by simpa using hnN),if_pos rfl]) (fun y=>(hheld y).trans ⟨fun h=>h.elim (fun⟨p,hp,_⟩=>by simp at hp) (fun e=>by omega),fun e=>.inr (by omega)⟩)
    generalize (List.replicate k (0:Int)).set n 0=K1 at hok hD0
    generalize List.replicate k (-1:Int)=out1 at hD0
    clear hheld
    refine aw<|fx [1,3,5] I<|bx (fun r s=>∃out K P O q,lT T D n dir out K (fun y=>bf O (y:Int)) (fun _=>False)∧iH k q K P O∧r=k+1 - dF out∧s=⟨[(1,.bY (dS T D n f1 f2 cap1 cap2) 0),(3,.own 0),(5,.ptr 1 0)],cL false (some (.row 3 1 k (aI out))) k q K P O⟩) (k+1 - dF out1) ⟨out1,K1,P1,O1,n1,hD0,hok,rfl,rfl⟩ ?_
    clear hD0 hok out1 K1 P1 O1 n1 b
    rintro r s ⟨out,K,P,O,q,hD,hok,rfl,rfl⟩
    refine aw<|a7<|ax 1 I<|bh I I (aG.mono (lX (some (.row 3 1 k (aI out))) (cP _ _) K P O hok (by omega)) (fun _ σ' h=>?_))
    obtain⟨b,ok,i,n1,key,K1,P1,O1,rfl,rfl,hpop⟩:=h
    refine ax 7 I<|aO [1,3,5,7,8,9] I ?_
    refine i6 (cP _ _) (.cons 1 I Ren.pure<|.cons 3 I (Ren.own (i:=0) I)<|.cons 5 I (Ren.ptr (i:=1) I)<|.cons 7 I Ren.pure<|.cons 8 I Ren.pure<|.cons 9 I Ren.pure<|.nil) ?_
    refine al<|ag (.a 2 I<|.k [1,3,5,7,8,47] I)<|ak I (fun hc=>?_) (fun hc=>?_)
    · have hok0:ok=false:=by cases ok;rfl;cases hc
      have hq0:q=0:=by
        rcases hpop with⟨_,h⟩|⟨h,_⟩
        · exact h
        · rw[hok0]at h;cases h
      have hdist:aP T D n dir=out:=eE hS (pn hD (fun y ⟨p,hp,_⟩=>by have:=hok.2.1;omega))
      refine bO [0] (.c 3 .nil) (.kept rfl (.row ab.pure) .nil) I I ?_
      exact ag (.a 2 I<|.k [2] I)<|aF<|⟨_,aK.of I,rfl,by rw[hdist,show out.length=k by have:=hD.len;omega]⟩
    · have hok1:ok=true:=by cases ok;cases hc;rfl
      rcases hpop with⟨h,_⟩|⟨_,hiN,hHi,hmin,rfl,rfl,hok',hH'⟩
      · rw[hok1]at h;cases h
      obtain⟨hD1,hcnt,htop,hati,hk0,hku⟩:=pj hS hD hHi hmin (by rw[hok.2.2.1];exact hiN) hH'
      have hol:out.length=k:=by have:=hD.len;omega
      have hcl:=dJ (out.set i (K.getD i 0))
      have hiT:(i:Int)<T.nodes:=by omega
      refine an<|a7<|ax 3 I<|aM (aY (i) I) I<|bq ((by first|exact bu I (bB.tk.get I) I I I (by first|omega|(simp;omega))|exact bm I (bB.tk.get I) I I I (by first|omega|(simp;omega)))) I I<|aO [1,3,5,7,8] I ?_
      refine dI (σ':=cL false (some (.row 3 1 k (aI (out.set i (K.getD i 0))))) k n1 (K.set i 0) P1 O1) I ?_
      have ho1:(out.set i (K.getD i 0)).length=k:=by simpa using hol
      have hmeas:k+1 - dF (out.set i (K.getD i 0))<k+1 - dF out:=by have:=dJ (out.set i (K.getD i 0));omega
      generalize K.getD i 0=d at hD1 hcnt htop hati hk0 hku ho1 hcl hmeas
      generalize out.set i d=out1 at hD1 hcnt htop hati ho1 hcl hmeas
      generalize K.set i 0=K1 at hD1 hok'
      refine al ?_
      obtain⟨q1,hq1⟩:∃q,decide ((i:Int)≠(n:Int))=q:=⟨_,rfl⟩
      obtain⟨q2,hq2⟩:∃q,cU T i=q:=⟨_,rfl⟩
      have hov:T.over.length=0∨i<T.over.length:=by have:=hbd.2.2.2;omega
      refine bF 62 (.raw (.bool (q1&&q2))) [1,3,5,7,8] I ?_ ?_
      · refine .a 3 I<|.v (cJ I (hq1)) I<|.a 1 I<|?_
        cases q1
        · exact .a 5 I<|.k [62,1,3,5,7,8] I
        · exact .a 3 I<|.c rfl (hq2▸ke T i hov) I<|.a 1 I<|.k [62,1,3,5,7,8] I
      refine ak I (fun hc=>?_) (fun hc=>?_)
      · obtain⟨c1,c2⟩:=Bool.and_eq_true_iff.1 hc
        rw[c1]at hq1
        rw[c2]at hq2
        have hDe:=nJ hD1 (by have:=of_decide_eq_true hq1;omega) hq2
        refine fL (.cons (k:=1) I<|.cons (k:=3) I<|.cons (k:=5) I<|Sub.nil _) ?_
        refine bn ?_
        first
          |exact⟨_,hmeas,out1,K2,P2,O2,q2,hDe,hok2,rfl,rfl⟩
          |exact⟨_,hmeas,out1,K1,P1,O1,n1,hDe,hok',rfl,rfl⟩
      · have hfree:i=n∨cU T i=false:=by
          by_cases e:i=n
          · exact .inl e
          · right
            have:q1=true:=by rw[←hq1];simp;omega
            rw[this,Bool.true_and]at hc
            rw[hq2,hc]
        clear hq1 hq2 hc
        refine an<|ag (.a 3 I<|.v (ka I he1 rfl rfl (h1 i hiT)) I<|.a 2 I<|.k [1,3,5,8,66,67,68] I) ?_
        have hll:=dK T dir i
        have hD2:lT T D n dir out1 K1 (fun y=>bf O1 (y:Int)) (fun a=>bH T dir a=(i:Int)∧(a:Int)∉(ao T dir i).take 0):=⟨hD1.len,hD1.ge,hD1.root,hD1.kS,hD1.mono,hD1.eH,hD1.eU,fun a ha hs=>hD1.closed a ha (fun e=>hs ⟨e,by simp⟩),hD1.ub,hD1.pd⟩
        refine aw<|fx [1,3,5,8,66,67,68] I<|bx (fun r s=>∃j K P O q,j≤(ao T dir i).length∧lT T D n dir out1 K (fun y=>bf O (y:Int)) (fun a=>bH T dir a=(i:Int)∧(a:Int)∉(ao T dir i).take j)∧iH k q K P O∧r=(ao T dir i).length - j∧s=⟨[(1,.bY (dS T D n f1 f2 cap1 cap2) 0),(3,.own 0),(5,.ptr 1 0),(8,num d),(66,aL (ao T dir i)),(67,num (ao T dir i).length),(68,num j)],cL false (some (.row 3 1 k (aI out1))) k q K P O⟩) (ao T dir i).length ⟨0,K1,P1,O1,n1,by omega,hD2,hok',rfl,rfl⟩ ?_
        clear hD2 hok' hD1 K1 P1 O1 n1 hH' hmin hHi hD hok
        rintro r s ⟨j,K2,P2,O2,q2,hj,hD2,hok2,rfl,rfl⟩
        refine ag (.a 1 I<|.k [1,3,5,8,66,67,68,69] I)<|al<|ak I (fun hc=>?_) (fun hc=>?_)
        · have hlt:j<(ao T dir i).length:=by have:=of_decide_eq_true hc;omega
          obtain⟨a,ha,ham,hay⟩:=ev T dir i j hlt
          obtain⟨m,hm⟩:=Int.eq_ofNat_of_zero_le (hS.x dir a ham).1
          have hmN:m<k:=by have:=(hS.x dir a ham).2;omega
          have hcb:=hS.cost a ham
          have hDl:D.length=0∨a<D.length:=by simp only[b8,decide_eq_true_eq]at hf;omega
          have hSS:∀b,b<2*T.aa.length→(bH T dir b=(i:Int)∧(b:Int)∉(ao T dir i).take j)→(bH T dir b=(i:Int)∧(b:Int)∉(ao T dir i).take (j+1))∨b=a:=fun b _ ⟨e1,e2⟩=>by
            by_cases e:b=a
            · exact .inr e
            · left
              refine⟨e1,fun hm'=>?_⟩
              rw[ef _ j 0 hlt,ha]at hm'
              rcases List.mem_append.1 hm' with h|h
              · exact e2 h
              · simp at h;exact e (by omega)
          have hayi:at' out1 (bH T dir a)=d:=by rw[hay];exact hati
          have hga:out1.getD m 0=at' out1 (m:Int):=by simp[at',List.getD_eq_getElem?_getD,show m<out1.length by omega]
          refine an<|al<|aw<|ag (.v (aY (j) I) I<|.v (aV I ((aN _ j hlt).trans (by rw[ha]))) I<|.a 1 I<|.k [1,3,5,8,11,66,67,68] I)<|ag (.a 3 I<|.v (ka I he2 rfl rfl (hm▸h2 a ham)) I<|.a 1 I<|.k [1,3,5,8,11,12,66,67,68] I)<|al ?_
          obtain⟨p1,hp1⟩:∃q,db D a=q:=⟨_,rfl⟩
          obtain⟨p2,hp2⟩:∃q,decide (0≤out1.getD m 0)=q:=⟨_,rfl⟩
          refine bF 86 (.raw (.bool (p1||p2))) [1,3,5,8,11,12,66,67,68] I ?_ ?_
          · refine .a 3 I<|.c rfl (hp1▸ie D a hDl) I<|.a 1 I<|?_
            cases p1
            · exact .a 2 I<|.v (aY (m) I) I<|.v (aV I (aN out1 m (by omega))) I<|.v (cJ I (hp2)) I<|.a 1 I<|.k [86,1,3,5,8,11,12,66,67,68] I
            · exact .a 6 I<|.k [86,1,3,5,8,11,12,66,67,68] I
          refine ak I (fun hc=>?_) (fun hc=>?_)
          · have hD3:=jD (S':=fun b=>bH T dir b=(i:Int)∧(b:Int)∉(ao T dir i).take (j+1)) hD2 hSS (fun hw=>.inl (by
              rcases Bool.or_eq_true_iff.1 hc with h|h
              · rw[hw.1]at hp1;rw[h]at hp1;cases hp1
              · rw[h]at hp2
                have h3:=of_decide_eq_true hp2
                rw[hga]at h3
                rw[hm,hayi]
                have:=htop m (by omega)
                exact⟨h3,by omega⟩))
            refine bn<|aD (.v (bw I) I<|.a 1 I<|.k [1,3,5,8,66,67,68] I) ?_
            first
              |exact⟨(ao T dir i).length - (j+1),by omega,j+1,_,P3,O3,n3,by omega,hD3,hok3,rfl,rfl⟩
              |exact⟨(ao T dir i).length - (j+1),by omega,j+1,K2,P2,O2,q2,by omega,hD3,hok2,rfl,rfl⟩
          · obtain⟨c1,c2⟩:=Bool.or_eq_false_iff.1 hc
            rw[c1]at hp1
            rw[c2]at hp2
            have hmneg:at' out1 (m:Int)<0:=by have:=of_decide_eq_false hp2;rw[hga]at this;omega
            have hway:Net.Way T D n dir out1 a:=⟨hp1,by rw[hayi];exact hk0,by rw[hay,Int.toNat_natCast];rcases hfree with h|h;(exact .inl (by rw[h]));exact .inr h⟩
            refine an<|ag (.a 4 I<|.c rfl (eW T a ham) I<|.v (bw I) I<|.a 1 I<|.k [1,3,5,8,12,13,66,67,68] I) ?_
            obtain⟨p3,hp3⟩:∃q,(!decide (P2.getD m 0=0))=q:=⟨_,rfl⟩
            obtain⟨kv,hkv⟩:∃z,(if P2.getD m 0=0 then 0 else K2.getD m 0)=z:=⟨_,rfl⟩
            have hkc:=l6 K2 P2 O2 hok2.1.len hok2.2.2.1 (by omega) m hmN
            rw[hp3,hkv]at hkc
            refine ag (.a 2 I<|.v (iG I (ra (gX false _ hok2.2.2.1 hok2.1.len hok2.2.1) _) (hkc)) I<|.a 5 I<|.k [1,3,5,8,12,13,14,15,66,67,68] I) ?_
            obtain⟨p4,hp4⟩:∃q,decide (d+bg T a<kv)=q:=⟨_,rfl⟩
            refine bF 105 (.raw (.bool ((!p3)||p4))) [1,3,5,8,12,13,66,67,68] I ?_ ?_
            · refine .a 3 I<|?_
              cases p3
              · exact .a 4 I<|.k [105,1,3,5,8,12,13,66,67,68] I
              · exact .a 2 I<|.v (cJ I (hp4)) I<|.a 1 I<|.k [105,1,3,5,8,12,13,66,67,68] I
            refine ak I (fun hc=>?_) (fun hc=>?_)
            · have hnew:¬bf O2 (m:Int)∨at' out1 (bH T dir a)+bg T a<K2.getD m 0:=by
                rw[hayi]
                by_cases e:P2.getD m 0=0
                · exact .inl ((hok2.1.zero hmN).1 e)
                · right
                  have h3:p3=true:=by rw[←hp3];simp only[e];rfl
                  rw[h3]at hc
                  have h4:p4=true:=by simpa using hc
                  rw[h4]at hp4
                  have:=of_decide_eq_true hp4
                  rw[if_neg e]at hkv
                  omega
              refine aR<|ax 3 I<|bh I I (aG.mono (iw (some (.row 3 1 k (aI out1))) (cP _ _) K2 P2 O2 hok2 (by omega) m hmN (d+bg T a)) (fun _ σ' h=>?_))
              obtain⟨b3,n3,P3,O3,rfl,hok3,hH3⟩:=h
              refine aO [1,3,5,8,66,67,68] I ?_
              refine i6 (cP _ _) (.cons 1 I Ren.pure<|.cons 3 I (Ren.own (i:=0) I)<|.cons 5 I (Ren.ptr (i:=1) I)<|.cons 8 I Ren.pure<|.cons 66 I Ren.pure<|.cons 67 I Ren.pure<|.cons 68 I Ren.pure<|.nil) ?_
              have hD3:=o0 (S':=fun b=>bH T dir b=(i:Int)∧(b:Int)∉(ao T dir i).take (j+1)) (H':=fun y=>bf O3 (y:Int)) hS hD2 ham hSS hway hm hmneg (fun x hx=>by rw[hayi];exact htop x hx) (by rw[hayi];omega) hnew (by rw[hok2.2.2.1];exact hmN) (fun y=>(hH3 y).trans ⟨fun h=>h.imp id (fun e=>by omega),fun h=>h.imp id (fun e=>by omega)⟩)
              rw[hayi]at hD3
              refine aD (.v (bw I) I<|.a 1 I<|.k [1,3,5,8,66,67,68] I) ?_
              first
                |exact⟨(ao T dir i).length - (j+1),by omega,j+1,_,P3,O3,n3,by omega,hD3,hok3,rfl,rfl⟩
                |exact⟨(ao T dir i).length - (j+1),by omega,j+1,K2,P2,O2,q2,by omega,hD3,hok2,rfl,rfl⟩
            · obtain⟨c3,c4⟩:=Bool.or_eq_false_iff.1 hc
              have h3:p3=true:=by cases p3;cases c3;rfl
              rw[h3]at hp3
              rw[c4]at hp4
              have e:P2.getD m 0≠0:=fun e=>by rw[e]at hp3;cases hp3
              have hD3:=jD (S':=fun b=>bH T dir b=(i:Int)∧(b:Int)∉(ao T dir i).take (j+1)) hD2 hSS (fun hw=>.inr (by
                rw[hm,Int.toNat_natCast,hayi]
                refine⟨Classical.byContradiction fun hh=>e ((hok2.1.zero hmN).2 hh),?_⟩
                rw[if_neg e]at hkv
                have:=of_decide_eq_false hp4
                omega))
              refine an<|aD (.v (bw I) I<|.a 1 I<|.k [1,3,5,8,66,67,68] I) ?_
              first
                |exact⟨(ao T dir i).length - (j+1),by omega,j+1,_,P3,O3,n3,by omega,hD3,hok3,rfl,rfl⟩
                |exact⟨(ao T dir i).length - (j+1),by omega,j+1,K2,P2,O2,q2,by omega,hD3,hok2,rfl,rfl⟩
        · have hje:j=(ao T dir i).length:=by have:=of_decide_eq_false hc;omega
          have hDe:lT T D n dir out1 K2 (fun y=>bf O2 (y:Int)) (fun _=>False):=⟨hD2.len,hD2.ge,hD2.root,hD2.kS,hD2.mono,hD2.eH,hD2.eU,fun a ha _=>hD2.closed a ha (fun⟨e1,e2⟩=>e2 (by rw[hje,List.take_length];exact(df T dir i a).2 ⟨ha,e1⟩)),hD2.ub,hD2.pd⟩
          refine fL (.cons (k:=1) I<|.cons (k:=3) I<|.cons (k:=5) I<|Sub.nil _) ?_
          refine bn ?_
          first
            |exact⟨_,hmeas,out1,K2,P2,O2,q2,hDe,hok2,rfl,rfl⟩
            |exact⟨_,hmeas,out1,K1,P1,O1,n1,hDe,hok',rfl,rfl⟩
theorem lC(T:au)(D:List Bool)(d:Int):aG Tryd.prog 17 [bI T,br D,num d] [] (fun r σ'=>(bW T D [d]≠0∧r= .tuple [.raw (.slice none 0 0),num (bW T D [d])]∧σ'=[])∨(bW T D [d]=0∧r= .tuple [.own 0,num 0]∧σ'=[some (.row 3 1 (aP T D d.toNat false).length (aI (aP T D d.toNat false)))])):=by
 refine bc Tryd.func17 I Tryd.ntmps17 I<|ag (.a 3 I<|.k [1,2,3] I)<|al<|ag (.a 4 I<|.c rfl (kT T D [d] (by simp)) I<|.a 1 I<|.k [1,2,3,8] I)<|ag (.a 2 I<|.k [1,2,3,8,17] I)<|ak I (fun hc=>?_) (fun hc=>?_)
 ·have he:bW T D [d]≠0:=of_decide_eq_true hc
  exact ag (.a 3 I<|.k [6,7] I)<|aF<|⟨_,aK.of I,.inl ⟨he,rfl,rfl⟩⟩
 ·have he:bW T D [d]=0:=by have:=of_decide_eq_false hc;omega
  have hok:(aW T&&b8 T D)=true∧bL T d=true:=by
   unfold bW at he
   split at he
   ·rename_i h1
    split at he
    ·rename_i h2;exact⟨h1,by simpa using h2⟩
    ·omega
   ·omega
  obtain⟨hvf,hnd⟩:=hok
  obtain⟨hv,hf⟩:=Bool.and_eq_true_iff.1 hvf
  have hd:0≤d∧d<T.nodes:=by simpa[bL]using hnd
  obtain⟨n,rfl⟩:=Int.eq_ofNat_of_zero_le hd.1
  have hS:=bz hv
  refine an<|a7<|ax 1 I<|nZ I (gW T hv) I<|ax 2 I<|aO [1,2,3,9] I ?_
  refine a7<|ax 3 I<|aM (gA I I) I<|ax 4 I<|aO [10] I ?_
  refine nu (.cons 10 I (aZ.ot rfl (aq.cons aZ.pure<|aq.cons aZ.pure<|aq.cons aZ.pure<|aq.cons aZ.pure<|aq.cons aZ.pure<|aq.cons (aZ.km (aq.cons (aZ.ot rfl (aq.cons aZ.pure aq.nil)) aq.nil))<|aq.cons aZ.pure aq.nil)) .nil) ?_
  refine a7<|ax 1 I<|bh I I (aG.mono (sM T D n false 39 40 [.bY [dr (bp (aA T) T.nodes.toNat (2*T.aa.length))] 0] [.bY (da T) 0] hv hf hd.2 (by kernel_rfl) (by kernel_rfl) (fun i hi=>by have h:=kW (bp (aA T) T.nodes.toNat (2*T.aa.length)) i (by rw[cw];omega);rw[cH _ _ _ _ (by omega)]at h;exact h) (fun a ha=>ld T a ha)) (fun _ σ' h=>?_))
  obtain⟨rfl,rfl⟩:=h
  refine ax 2 I<|aO [6,7] I ?_
  exact aF<|⟨_,aK.of I,.inr ⟨he,rfl,rfl⟩⟩
end
section
open Go.RowKit cX Mem
theorem qF{α:Type}{l:List α}{k:Nat}{x:α}(h:l[k]? =some x):l.set k x=l:=by
 obtain⟨h1,rfl⟩:=List.getElem?_eq_some_iff.1 h
 exact List.set_getElem_self h1
section
variable {P:Program} {σ:ba} {t:bo} {o:Oper}
theorem oG{ty e n i e' s':Nat}{x y:Operand}{xs ys:List PV}(ho:o.op= .call {callee:=.builtin .copy,args:= #[x,y],argTypes:= #[ty,ty]})(hu:P.underlying ty=some (.slice e))(hs:(P.info? e).map (·.size)=some 1)(hx:aj t x=some (.own i))(hi:σ[i]? =some (some (.row e' s' n xs)))(hy:aj t y=some (.slice 0 ys)):dN P σ t o (.raw (.int .i64 0)) σ:=by
 intro F base E ρ w hρ hS hT
 have h1:=ae hρ hT hx
 have h2:=ae hρ hT hy
 generalize hz1:ρ x=v at h1
 generalize hz2:ρ y=u at h2
 have hv:∃d m c,v= .slice d m c:=by
  cases h1 with
  |own _ hmL _ h _=>
   obtain⟨cs,k1,k2⟩:=hS.blk i _ hi
   rcases k1.2 with⟨hv,h0⟩|⟨g,cap,cur,hv,_⟩
   ·rw[hv]at h;subst h;exact⟨_,_,_,rfl⟩
   ·rw[hv]at h;subst h;exact⟨_,_,_,rfl⟩
 have hw:∃d c,u= .slice d 0 c:=by
  cases h2 with
  |cd=>exact⟨_,_,rfl⟩
  |empty a c h=>exact⟨_,_,rfl⟩
  |slice b off _ c cs _ h0=>omega
 obtain⟨d,m,c,rfl⟩:=hv
 obtain⟨d',c',rfl⟩:=hw
 have hrun:=run_copy_none (P:=P) w ty ty o.type e d d' m c 0 c' hu hs (by simp)
 have hr:(execOp ρ o).run P w= .ok (.value (.int .i64 0)) w:=by
  simp only[execOp,ho,resolve,invoke,builtin,List.map_toArray,List.map_cons,List.map_nil,hz1,hz2,Sem.run_bind,Sem.run_pure,Result.andThen_ok,hrun,goInt]
 exact⟨_,w,E,.inl hr,hS,bJ.refl _ _,Below.refl _ _,.raw _⟩
theorem p9{ty e n i:Nat}{x y:Operand}{xs ys:List PV}(ho:o.op= .call {callee:=.builtin .copy,args:= #[x,y],argTypes:= #[ty,ty]})(hu:P.underlying ty=some (.slice e))(hs:(P.info? e).map (·.size)=some 1)(hx:aj t x=some (.own i))(hi:σ[i]? =some (some (.row e 1 n xs)))(hy:aj t y=some (.slice n ys))(hl:ys.length=n)(hn:0<n)[bV ys]:
  dN P σ t o (.raw (.int .i64 n)) (σ.set i (some (.row e 1 n ys))):=by
 intro F base E ρ w hρ hS hT
 have h1:=ae hρ hT hx
 have h2:=jw (ae hρ hT hy)
 generalize hz1:ρ x=v at h1
 generalize hz2:ρ y=u at h2
 rcases h2 with⟨_,h0,_⟩|⟨a,c,news,rfl,hnews,hR⟩
 ·omega
 ·cases h1 with
  |own _ hiL _ hat _=>
   obtain⟨cs,k1,k2⟩:=hS.blk i _ hi
   obtain⟨hcl,k1'⟩:=k1
   rcases k1' with⟨_,h0⟩|⟨b,cap,cur,hv,hb0,hg,hnc,hcm,hcs,htake⟩
   ·omega
   ·rw[hv]at hat
    subst hat
    have hbk:az (E.at_ i)=some b:=by rw[hv];rfl
    have hbM:E.M b:=(hS.mm b).2 (.inr ⟨i,_,hi,hbk⟩)
    have hnl:news.length=n:=hR.1.trans hl
    have hrun:=run_copy_row (P:=P) w ty ty o.type e b 0 n cap a n c cur e news hu hs hg (by rw[hnl];simp) hnews (by rw[hnl,hcs];omega) hR.mA
    rw[hnl,Nat.zero_add,List.take_zero,List.nil_append]at hrun
    have hr:(execOp ρ o).run P w= .ok (.value (.int .i64 n)) (w.setRow b (news++cur.toList.drop n).toArray):=by
     simp only[execOp,ho,resolve,invoke,builtin,List.map_toArray,List.map_cons,List.map_nil,hz1,hz2,Sem.run_bind,Sem.run_pure,Result.andThen_ok,hrun,goInt]
    have oth:∀j,j<w.heap.size→j≠b→(w.setRow b (news++cur.toList.drop n).toArray).heap[j]? =w.heap[j]? :=fun j _ hj=>setRow_other w b j _ hj
    have hsize:w.heap.size≤(w.setRow b (news++cur.toList.drop n).toArray).heap.size:=by simp
    have g:bJ E w E (w.setRow b (news++cur.toList.drop n).toArray):=⟨Nat.le_refl _,fun _ _=>rfl,fun _ _ h=>h,hsize,fun j hj hM=>oth j hj (fun e=>hM (by rw[e];exact hbM))⟩
    have hcz:cur.toList.length=cap:=by rw[Array.length_toList,hcs];omega
    have hn:=hS.qh (w':=w.setRow b (news++cur.toList.drop n).toArray) (bi':=.row e 1 n ys) hi hbk hsize oth ⟨news,⟨by rw[hnl];omega,.inr ⟨b,cap,_,hv,hb0,setRow_heap w b cur _ e _ hg,hnc,hcm,by
     simp only[List.size_toArray,List.length_append,List.length_drop,hnl,hcz];omega,by
     rw[Nat.mul_one,List.take_append_of_le_length (by omega),List.take_of_length_le (by omega)]⟩⟩,hR.goes g⟩
    exact⟨_,_,E,.inl hr,hn.1,hn.2,⟨rfl,rfl,rfl,hsize,fun j hj=>setRow_other w b j _ (by omega)⟩,.raw _⟩
theorem oB{ty e n i:Nat}{x y:Operand}{D:List Bool}(ho:o.op= .call {callee:=.builtin .copy,args:= #[x,y],argTypes:= #[ty,ty]})(hu:P.underlying ty=some (.slice e))(hs:(P.info? e).map (·.size)=some 1)(hx:aj t x=some (.own i))(hi:σ[i]? =some (some (.row e 1 n (aT (List.replicate n false)))))(hy:aj t y=some (br D))(hD:D.length=0∨D.length=n):
  dN P σ t o (num D.length) (σ.set i (some (.row e 1 n (aT (if D.length=0 then List.replicate n false else D))))):=by
 by_cases h0:D.length=0
 ·have hd:D=[]:=List.eq_nil_of_length_eq_zero h0
  subst hd
  rw[if_pos (show([]:List Bool).length=0 from rfl),qF hi]
  exact oG ho hu hs hx hi hy
 ·rw[if_neg h0]
  have hn:D.length=n:=hD.resolve_left h0
  subst hn
  exact p9 ho hu hs hx hi hy (by simp[aT]) (by omega)
end
open Net Heap
theorem l4(T:au)(hl:T.aa.length≤256)(n:Int):Can Tryd.prog 27 [bI T,num n] (· =aL (b6 T n)):=by
 refine bE Tryd.func27 I Tryd.ntmps27 I<|ag (.a 2 I<|.k [1,2] I)<|ag (.a 1 I<|.k [1,2,5] I)<|ee 5 3 1 I ?_
 refine al<|ag (.a 1 I<|.c rfl (c8 T (by omega)) I<|.a 1 I<|.k [1,2,5,8,9] I)<|aw<|fx [1,2,5,8,9] I<|bx (fun r s=>∃k,k≤2*T.aa.length∧r=2*T.aa.length - k∧s=⟨[(1,num n),(2,.bY (da T) 0),(5,.own 0),(8,num (2*(T.aa.length:Int))),(9,num k)],[some (.row 3 1 (fr T n k).length (aI (fr T n k)))]⟩) (2*T.aa.length) ⟨0,by omega,by omega,rfl⟩ ?_
 rintro r s ⟨k,hk,rfl,rfl⟩
 refine ag (.a 1 I<|.k [1,2,5,8,9,10] I)<|al<|ak I (fun hc=>?_) (fun hc=>?_)
 ·have hlt:k<2*T.aa.length:=by have:=of_decide_eq_true hc;omega
  have hlen:=eT T n k
  refine an<|al<|aw<|ag (.a 2 I<|.k [1,2,5,6,8,9] I)<|ag (.a 2 I<|.c rfl (dV T k hlt) I<|.a 2 I<|.k [1,2,5,6,8,9,16] I)<|ak I (fun hc=>?_) (fun hc=>?_)
  ·have hst:=pQ T n k (by simpa using of_decide_eq_true hc)
   refine aR<|ax 3 I<|bD (aU I (bB.rk.get I) I I I I (by unfold maxLen;omega)) I<|ax 1 I ?_
   refine eb [1] (.c 1<|.c 2<|.c 5<|.c 8<|.c 9<|.nil) (.kept rfl (.dX rfl (dL _ _))<|.nil) I I (af ?_)
   refine aD (.v (bw I) I<|.a 1 I<|.k [1,2,5,8,9] I) ?_
   refine⟨2*T.aa.length - (k+1),by omega,k+1,by omega,rfl,?_⟩
   rw[hst]
   first
    |rfl
    |(simp only[List.length_append,List.length_singleton];rfl)
  ·have hst:=rK T n k (by simpa using of_decide_eq_false hc)
   refine an<|aD (.v (bw I) I<|.a 1 I<|.k [1,2,5,8,9] I) ?_
   refine⟨2*T.aa.length - (k+1),by omega,k+1,by omega,rfl,?_⟩
   rw[hst]
   first
    |rfl
    |(simp only[List.length_append,List.length_singleton];rfl)
 ·have hke:k=2*T.aa.length:=by have:=of_decide_eq_false hc;omega
  subst hke
  exact bn<|ag (.a 2 I<|.k [4] I)<|aF<|⟨_,_,aK.of I,aZ.du rfl aq.pure,rfl⟩
def fD(T:au)(D:List Bool)(n d:Int):Int:=if bW T D [d]=0 then(if bL T n then 0 else 2) else bW T D [d]
theorem qb(T:au)(D:List Bool)(n d:Int):Can Tryd.prog 49 [bI T,br D,num n,num d] (· =iE (fD T D n d) (aP T D d.toNat false)):=by
 refine bE Tryd.func49 I Tryd.ntmps49 I<|ag (.a 3 I<|.k [1,2,3,4] I)<|ag (.a 3 I<|.c rfl (rn T D d) I<|.a 5 I<|.k [2,4,10,11] I)<|al<|ag (.a 2 I<|.k [2,4,10,11,20] I)<|ak I (fun hc=>?_) (fun hc=>?_)
 ·have he:bW T D [d]≠0:=of_decide_eq_true hc
  exact ag (.a 3 I<|.k [8,9] I)<|aF<|⟨_,_,aK.of I,aZ.eo (aq.cons aZ.cd (aq.cons aZ.pure aq.nil)),by unfold iE fD;rw[if_neg he,if_neg he];rfl⟩
 ·have he:bW T D [d]=0:=by have:=of_decide_eq_false hc;omega
  refine an<|al<|ag (.a 2 I<|.c rfl (eu T n) I<|.a 1 I<|.k [10,25] I)<|ak I (fun hc=>?_) (fun hc=>?_)
  ·have hn:bL T n=false:=by revert hc;cases bL T n<;>simp
   exact ag (.a 2 I<|.k [8,9] I)<|aF<|⟨_,_,aK.of I,aZ.eo (aq.cons aZ.cd (aq.cons aZ.pure aq.nil)),by unfold iE fD;rw[if_pos he,hn];rfl⟩
  ·have hn:bL T n=true:=by revert hc;cases bL T n<;>simp
   exact an<|ag (.a 3 I<|.k [8,9] I)<|aF<|⟨_,_,aK.of I,aZ.pure,by unfold iE fD;simp only[he,hn,if_true];rfl⟩
theorem fU{T:au}{D:List Bool}{ns:List Int}(he:bW T D ns=0):aW T=true∧b8 T D=true∧∀n∈ns,bL T n=true:=by
 unfold bW at he
 split at he
 ·rename_i h1
  split at he
  ·rename_i h2
   obtain⟨a,b⟩:=Bool.and_eq_true_iff.1 h1
   exact⟨a,b,List.all_eq_true.1 h2⟩
  ·omega
 ·omega
theorem oa{T:au}{D:List Bool}{n d:Int}(he:fD T D n d=0):aW T=true∧b8 T D=true∧bL T n=true∧bL T d=true:=by
 unfold fD at he
 split at he
 ·rename_i h1
  obtain⟨a,b,c⟩:=fU h1
  split at he
  ·rename_i h2;exact⟨a,b,h2,c d (by simp)⟩
  ·omega
 ·omega
theorem nP{T:au}{D:List Bool}(hv:aW T=true){d:Nat}{dir:Bool}(hd:(d:Int)<T.nodes):((aP T D d dir).length:Int)=T.nodes∧∀x∈aP T D d dir, -1≤x∧x≤4194240:=by
 have hS:=bz hv
 have hI:=lJ hS D dir hd
 refine⟨hI.len,fun x hx=>?_⟩
 obtain⟨i,hi,rfl⟩:=List.getElem_of_mem hx
 have hin:(i:Int)<T.nodes:=by have:=hI.len;omega
 have h1:=hI.ge i hin
 have h2:=hI.u9 i hin
 have h3:=dJ (aP T D d dir)
 have h4:=hS.nodes
 have h5:=hI.len
 rw[qZ _ i hi]at h1 h2
 omega
noncomputable def eY(T:au)(D:List Bool)(n d:Nat):List Int:=
 if n=d∨(aP T D d false).getD n 0<0 then [] else cT T D (aP T D d false) ((aP T D d false).getD n 0) d (b6 T n)
theorem j2{T:au}{n:Int}{a:Int}(h:a∈b6 T n):0≤a∧a<2*(T.aa.length:Int):=by
 unfold b6 fr at h
 obtain⟨b,hb,rfl⟩:=List.mem_map.1 h
 have:=(List.mem_filter.1 hb).1
 have:=List.mem_range.1 this
 simp;omega
theorem rP(T:au)(D:List Bool)(n d:Int):Can Tryd.prog 31 [bI T,br D,num n,num d] (· =iE (fD T D n d) (eY T D n.toNat d.toNat)):=by
 refine bE Tryd.func31 I Tryd.ntmps31 I<|ag (.a 3 I<|.k [1,2,3,4] I)<|ag (.a 4 I<|.c rfl (qb T D n d) I<|.a 5 I<|.k [1,2,3,4,10,11] I)<|al<|ag (.a 2 I<|.k [1,2,3,4,10,11,21] I)<|ak I (fun hc=>?_) (fun hc=>?_)
 ·have he:fD T D n d≠0:=of_decide_eq_true hc
  exact ag (.a 3 I<|.k [8,9] I)<|aF<|⟨_,_,aK.of I,aZ.eo (aq.cons aZ.cd (aq.cons aZ.pure aq.nil)),by unfold iE;rw[if_neg he];rfl⟩
 ·have he:fD T D n d=0:=by have:=of_decide_eq_false hc;omega
  rw[he]
  obtain⟨hv,hf,hn,hd⟩:=oa he
  rw[cI]at hn hd
  obtain⟨n,rfl⟩:=Int.eq_ofNat_of_zero_le hn.1
  obtain⟨d,rfl⟩:=Int.eq_ofNat_of_zero_le hd.1
  have hll:=cq hv
  obtain⟨hb1,hb2⟩:=nP (D:=D) hv (dir:=false) hd.2
  refine an<|jk mixed (by kernel_rfl) (.a 5 I<|.v [26,27] (fu I (l4 T hll _)) I I<|.a 2 I<|.v [23,24,25,28,29,30] (fu I (p7 T D (aP T D d false) (b6 T n) n d hv hf hb1 hb2 hn.2 hd.2 (fun a ha=>j2 ha) (Nat.le_trans (eT T n _) (by omega)))) I I<|.a 2 I<|.k [8,9] I) ?_
  exact aF<|⟨_,_,aK.of I,aZ.pure,rfl⟩
end
section
open Go.RowKit cX Mem
section
variable {P:Program} {N L:Nat} {ops:Array Oper} {Φ:kq} {Ts:List bo} {Ss:List ba} {K:St→Prop}
def o4:Nat→Nat→List Bool
 |0,_=>[]
 |n+1,z=>Nat.beq (z % 2) 1::o4 n (z / 2)
def iB(n z:Nat):Array Bool:=(o4 n z).toArray
def tV(ops:Array Oper)(z:Nat)(l:List (Nat×Nat)):Bool:=
 !l.isEmpty &&(Region.ready .any ops (iB ops.size z)==l.map (·.1))&&l.all fun p=>(o4 ops.size z).set p.1 true==o4 ops.size p.2
def mK(Ts:List bo)(Ss:List ba)(j:Nat)(ks:List Nat)(k:Nat):Option St:=
 match Ts[j]? with
 |some T=>match eM T ks with
  |some t=>match Ss[k]? with
   |some σ=>some ⟨t,σ⟩
   |none=>none
  |none=>none
 |none=>none
def WZ(P:Program)(N L:Nat)(ops:Array Oper)(Ts:List bo)(Ss:List ba)(K:St→Prop)(n z j:Nat)(ks:List Nat)(k:Nat):Prop:=
 ∀st,mK Ts Ss j ks k=some st→WA P N L ops n (iB ops.size z) st K
def qL(P:Program)(N L:Nat)(ops:Array Oper)(K:St→Prop)(n:Nat)(st:St)(l:List (Nat×Nat)):Prop:=
 ∀p∈l,∃o,ops[p.1]? =some o∧o.guard=none∧WR P N L [o].toArray [o] st (fun s=>WA P N L ops n (iB ops.size p.2) s K)
theorem uh{n:Nat}{ls:Array Bool}{st:St}(Ts:List bo)(Ss:List ba)(ks:List Nat)(hr:mK Ts Ss 0 ks 0=some st)(hl:ls=iB ops.size 0)(h:∀M:Nat→Nat→Nat→List Nat→Nat→Prop,(∀ {n z j ks k},WZ P N L ops Ts Ss K n z j ks k→M n z j ks k)→(∀ {n z j ks k},M n z j ks k→WZ P N L ops Ts Ss K n z j ks k)→M n 0 0 ks 0):WA P N L ops n ls st K:=by
 have:=h (WZ P N L ops Ts Ss K) id id st hr
 rwa [←hl]at this
theorem uB{z j k:Nat}{ks:List Nat}{st:St}(hr:mK Ts Ss j ks k=some st)(hz:Region.ready .any ops (iB ops.size z)=[])(hk:K st):WZ P N L ops Ts Ss K 0 z j ks k:=fun s hs=>by
 rw[hr]at hs
 cases hs
 exact b7 hz hk
theorem bd{n z j k:Nat}{ks:List Nat}{st:St}(l:List (Nat×Nat))(hr:mK Ts Ss j ks k=some st)(h:qL P N L ops K n st l)(hl:tV ops z l=true:=by kernel_rfl):WZ P N L ops Ts Ss K (n+1) z j ks k:=fun s hs=>by
 rw[hr]at hs
 cases hs
 unfold tV at hl
 simp only[Bool.and_eq_true,List.all_eq_true]at hl
 obtain⟨⟨h0,h1⟩,h2⟩:=hl
 have h1:=eq_of_beq h1
 refine⟨?_,fun i hi=>?_⟩
 ·rw[h1]
  intro e
  cases l with
  |nil=>simp at h0
  |cons a l=>simp at e
 ·rw[h1]at hi
  obtain⟨p,hp,rfl⟩:=List.mem_map.1 hi
  obtain⟨o,e1,e2,e3⟩:=h p hp
  refine⟨o,e1,e2,?_⟩
  have e:(iB ops.size z).setIfInBounds p.1 true=iB ops.size p.2:=by
   unfold iB
   rw[←eq_of_beq (h2 p hp)]
   simp
  rw[e]
  exact e3
theorem bC{n:Nat}{st:St}:qL P N L ops K n st []:=fun p hp=>by simp at hp
theorem mw{n i z:Nat}{st:St}{o:Oper}{l:List (Nat×Nat)}(ho:ops[i]? =some o)(hg:o.guard=none)(h:WR P N L [o].toArray [o] st (fun s=>WA P N L ops n (iB ops.size z) s K))(hs:qL P N L ops K n st l):qL P N L ops K n st ((i,z)::l):=fun p hp=>by
 rcases List.mem_cons.1 hp with rfl|hp
 ·exact⟨o,ho,hg,h⟩
 ·exact hs p hp
variable {n i z j k:Nat} {ks:List Nat} {o:Oper} {t t':bo} {σ σ':ba} {l:List (Nat×Nat)} {p:PV} {d:Nat}
theorem rr(ho:ops[i]? =some o)(hg:o.guard=none)(hy:aH P σ t o p)(hd:dk N [o].toArray t o=some d)(ha:WZ P N L ops Ts Ss K n z j ks k)(hr:mK Ts Ss j ks k=some ⟨t',σ⟩)(hk:eM ((d,p)::t) ks=some t')(hs:qL P N L ops K n ⟨t,σ⟩ l):qL P N L ops K n ⟨t,σ⟩ ((i,z)::l):=
 mw ho hg (aM hy hd (aO ks hk (ha _ hr))) hs
theorem qV(ho:ops[i]? =some o)(hg:o.guard=none)(hy:dN P σ t o p σ')(hd:dk N [o].toArray t o=some d)(ha:WZ P N L ops Ts Ss K n z j ks k)(hr:mK Ts Ss j ks k=some ⟨t',σ'⟩)(hk:eM ((d,p)::t) ks=some t')(hs:qL P N L ops K n ⟨t,σ⟩ l):qL P N L ops K n ⟨t,σ⟩ ((i,z)::l):=
 mw ho hg (bD hy hd (aO ks hk (ha _ hr))) hs
theorem nq[Has P Φ]{f:Nat}{ps:List PV}(ho:ops[i]? =some o)(hg:o.guard=none)(hf:gj Φ t o.op=some (f,ps))(hd:dk N [o].toArray t o=some d)(hc:aG P f ps σ (fun r s=>r=p∧s=σ'))(ha:WZ P N L ops Ts Ss K n z j ks k)(hr:mK Ts Ss j ks k=some ⟨t',σ'⟩)(hk:eM ((d,p)::t) ks=some t')(hs:qL P N L ops K n ⟨t,σ⟩ l):qL P N L ops K n ⟨t,σ⟩ ((i,z)::l):=
 mw ho hg (bh hf hd (aG.mono hc (fun r s h=>by obtain⟨rfl,rfl⟩:=h;exact aO ks hk (ha _ hr)))) hs
def ua(Φ:kq)(ops:Array Oper)(N:Nat)(t:bo)(σ:ba)(i:Nat)(ks:List Nat):Option bo:=
 match ops[i]? with
 |some o=>match o.guard with
  |none=>match c9 Φ σ t o.op with
   |some p=>match dk N [o].toArray t o with
    |some d=>eM ((d,p)::t) ks
    |none=>none
   |none=>none
  |some _=>none
 |none=>none
theorem bP[hP:Has P Φ](ha:WZ P N L ops Ts Ss K n z j ks k)(hr:mK Ts Ss j ks k=some ⟨t',σ⟩)(h:ua Φ ops N t σ i ks=some t')(hs:qL P N L ops K n ⟨t,σ⟩ l):qL P N L ops K n ⟨t,σ⟩ ((i,z)::l):=by
 unfold ua at h
 split at h
 ·rename_i o ho
  split at h
  ·rename_i hg
   split at h
   ·rename_i p hp
    split at h
    ·rename_i d hd
     exact rr ho hg (bb hp) hd ha hr h hs
    ·cases h
   ·cases h
  ·cases h
 ·cases h
end
end
end PW
end Go.Proofs.YteikppbedmmdnaaDoor
