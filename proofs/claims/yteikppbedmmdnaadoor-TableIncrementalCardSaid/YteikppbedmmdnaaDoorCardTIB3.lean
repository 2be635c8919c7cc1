/- Texts of the proof, part 3. -/
import Derived.Test.YteikppbedmmdnaaDoorProg
import Derived.WalkKit
import Derived.ProofKit
import Derived.Deep.Slices
import Derived.Lib.SmallJoins
import Derived.OpenShut
import Derived.Test.YteikppbedmmdnaaDoorRows
import Derived.Test.YteikppbedmmdnaaDoorCards
import Derived.Test.YteikppbedmmdnaaDoorTie
import Derived.ShutString
import Derived.ChangeOld
import Derived.Below
import Derived.LaidMore
import Derived.Stop.Joined
import Derived.SevenTiedAt
import Derived.Lib.LaidTab
import Derived.Test.YteikppbedmmdnaaDoorCardTIB2
set_option linter.unusedVariables false
set_option linter.unusedSimpArgs false
set_option maxRecDepth 10000
set_option maxHeartbeats 1000000
namespace Go.Proofs.YteikppbedmmdnaaDoor
namespace PW
section
open Go.RowKit cX Mem
class nD (p:PV):Prop where
 out:∀(E:Env) (w w':World) (v:Value),bK E w v p→bK E w' v p
 vH:∀(E:Env) (w:World) (v v':Value),bK E w v p→bK E w v' p→v=v'
instance (v:Value):nD (.raw v):=⟨fun _ _ _ _ h=>by cases h;exact .raw _,fun _ _ _ _ h h'=>by cases h;cases h';rfl⟩
instance (i k:Nat):nD (.ptr i k):=⟨fun _ _ _ _ h=>by cases h with|ptr _ _ b hi h=>exact .ptr i k b hi h,fun E w v v' h h'=>by
 cases h with
 |ptr _ _ b _ h=>cases h' with
  |ptr _ _ b' _ h'=>
   have:b=b':=by
    rcases h with h|⟨n,c,h⟩<;>rcases h' with h'|⟨n',c',h'⟩<;>rw[h]at h'<;>simp at h'<;>first|exact h'|exact h'.1
   rw[this]⟩
section
variable {P:Program} {ops:Array Oper} {N L:Nat}
def jO(P:Program)(t:bo)(o:Oper)(p:PV):Prop:=∀E ρ w,fh ρ→cZ E w ρ t→∃v,(∀w',(execOp ρ o).run P w'= .ok (.value v) w')∧bK E w v p
theorem qW{t:bo}{o:Oper}{x:Operand}{p:PV}(ho:o.op= .move x)(hx:aj t x=some p):jO P t o p:=fun E ρ w hρ hT=>
 ⟨ρ x,fun w'=>by simp only[execOp,ho,Sem.run_pure],ae hρ hT hx⟩
theorem jO.y{t:bo}{o:Oper}{p:PV}{σ:ba}(h:jO P t o p):aH P σ t o p:=fun F base E ρ w hρ _ hT=>by
 obtain⟨v,h1,h2⟩:=h E ρ w hρ hT
 rw[h1];exact aJ h2
def fF:List Oper→List PV→bo→bo
 |o::l,p::ps,t=>fF l ps (match o.dst with|some d=>(d,p)::t|none=>t)
 |_,_,t=>t
inductive eB (P:Program) (N:Nat) (ops:Array Oper) (σ:ba):List Oper→List PV→List Bool→bo→Prop
 |nil {t:bo}:eB P N ops σ [] [] [] t
 |val {o:Oper} {rest:List Oper} {t:bo} {d:Nat} {p:PV} {ps:List PV} {fs:List Bool} (ks:List Nat):(ks.all fun k=>(o.looksAt ops).contains k)=true→aH P σ (dc t ks) o p→o.dst=some d→Nat.blt d N=true→eB P N ops σ rest ps fs ((d,p)::t)→eB P N ops σ (o::rest) (p::ps) (false::fs) t
 |late {o:Oper} {rest:List Oper} {t:bo} {d:Nat} {p:PV} {ps:List PV} {fs:List Bool} (ks:List Nat):(ks.all fun k=>(o.looksAt ops).contains k)=true→jO P (dc t ks) o p→nD p→o.dst=some d→Nat.blt d N=true→eB P N ops σ rest ps fs ((d,p)::t)→eB P N ops σ (o::rest) (p::ps) (true::fs) t
structure Datum (P:Program) (N:Nat) (ops:Array Oper) (σ:ba) (o:Oper) (p:PV) (fl:Bool) (t:bo):Prop where
 dst:∃d,o.dst=some d∧d<N
 y:∃ks,(∀k∈ks,k∈o.looksAt ops)∧aH P σ (dc t ks) o p
 r:fl=true→nD p∧∃ks,(∀k∈ks,k∈o.looksAt ops)∧jO P (dc t ks) o p
theorem eB.data{σ:ba}{l:List Oper}{ps:List PV}{fs:List Bool}{t:bo}(h:eB P N ops σ l ps fs t):ps.length=l.length∧fs.length=l.length∧∀(i:Nat) o p f,l[i]? =some o→ps[i]? =some p→fs[i]? =some f→Datum P N ops σ o p f (fF (l.take i) (ps.take i) t):=by
 have mem:∀ {ks:List Nat} {o:Oper},(ks.all fun k=>(o.looksAt ops).contains k)=true→∀k∈ks,k∈o.looksAt ops:=fun h k hk=>by
  have:=List.all_eq_true.1 h k hk;simpa using this
 induction h with
 |nil=>exact⟨rfl,rfl,fun i o p f h=>by simp at h⟩
 | @val o rest t d p ps fs ks hks hy hd hN _ ih=>
  refine⟨by simp[ih.1],by simp[ih.2.1],fun i o' p' f h1 h2 h3=>?_⟩
  cases i with
  |zero=>
   simp at h1 h2 h3
   subst h1;subst h2;subst h3
   exact⟨⟨d,hd,Nat.blt_eq.mp hN⟩,⟨ks,mem hks,hy⟩,fun e=>by cases e⟩
  |succ i=>
   have:=ih.2.2 i o' p' f (by simpa using h1) (by simpa using h2) (by simpa using h3)
   simpa[fF,hd]using this
 | @late o rest t d p ps fs ks hks hy hfp hd hN _ ih=>
  refine⟨by simp[ih.1],by simp[ih.2.1],fun i o' p' f h1 h2 h3=>?_⟩
  cases i with
  |zero=>
   simp at h1 h2 h3
   subst h1;subst h2;subst h3
   exact⟨⟨d,hd,Nat.blt_eq.mp hN⟩,⟨ks,mem hks,hy.y⟩,fun _=>⟨hfp,ks,mem hks,hy⟩⟩
  |succ i=>
   have:=ih.2.2 i o' p' f (by simpa using h1) (by simpa using h2) (by simpa using h3)
   simpa[fF,hd]using this
def a6(ops:Array Oper)(i:Nat):Option Nat:=(ops[i]?).bind (·.dst)
def bT(ops:Array Oper)(i:Nat):List Nat:=match ops[i]? with|some o=>o.looksAt ops|none=>[]
def ts(ops:Array Oper)(f m:Nat)(fl:List Bool):Bool:=
 decide (m≤ops.size)&&Nat.beq fl.length m&&
 ((List.range ops.size).all fun i=>(gr ops i).all fun k=>decide (k<i))&&
 ((List.range ops.size).all fun i=>((ops[i]?).all fun o=>o.guard.isNone))&&
 ((List.range m).all fun i=>(List.range i).all fun j=>a6 ops i !=a6 ops j)&&
 ((List.range m).all fun j=>(bT ops j).all fun k=>(List.range m).all fun i=>a6 ops i !=some k||(decide (i<j)&&(gr ops j).contains i))&&
 ((List.range ops.size).all fun i=>decide (i<m)||(List.range i).all fun j=>fl.getD j false||cg ops f i j)&&
 ((List.range ops.size).all fun i=>decide (i<m)||(List.range m).all fun j=> !fl.getD j false||((a6 ops j).all fun d=> !(bT ops i).contains d||cg ops f i j))&&
 ((List.range ops.size).all fun i=>decide (i<m)||(List.range m).all fun j=> !fl.getD j false||((a6 ops i).all fun d=>a6 ops j !=some d&& !(bT ops j).contains d))
structure Form (ops:Array Oper) (f m:Nat) (fl:List Bool):Prop where
 le:m≤ops.size
 vz:fl.length=m
 gr:∀i,i<ops.size→∀k∈gr ops i,k<i
 ng:∀(i:Nat) (o:Oper),ops[i]? =some o→o.guard=none
 ss:∀i j,i<m→j<i→a6 ops i≠a6 ops j
 rd:∀j,j<m→∀k∈bT ops j,∀i,i<m→a6 ops i=some k→i<j∧i∈PW.gr ops j
 vF:∀i,i<ops.size→m≤i→∀j,j<i→fl.getD j false=false→cg ops f i j=true
 use:∀i,i<ops.size→m≤i→∀j,j<m→fl.getD j false=true→∀d,a6 ops j=some d→d∈bT ops i→cg ops f i j=true
 wr:∀i,i<ops.size→m≤i→∀j,j<m→fl.getD j false=true→∀d,a6 ops i=some d→a6 ops j≠some d∧d∉bT ops j
theorem qA{f m:Nat}{fl:List Bool}(h:ts ops f m fl=true):Form ops f m fl:=by
 unfold ts at h
 simp only[Bool.and_eq_true]at h
 obtain⟨⟨⟨⟨⟨⟨⟨⟨h1,h2⟩,h3⟩,h4⟩,h5⟩,h6⟩,h7⟩,h8⟩,h9⟩:=h
 have all:∀ {n:Nat} {p:Nat→Bool},(List.range n).all p=true→∀i,i<n→p i=true:=fun h i hi=>List.all_eq_true.1 h i (List.mem_range.2 hi)
 refine⟨by simpa using h1,Nat.eq_of_beq_eq_true h2,fun i hi k hk=>?_,fun i o ho=>?_,fun i j hi hj=>?_,fun j hj k hk i hi hd=>?_,fun i hi hm j hj hf=>?_,fun i hi hm j hj hf d hd hl=>?_,fun i hi hm j hj hf d hd=>?_⟩
 ·have:=List.all_eq_true.1 (all h3 i hi) k hk;simpa using this
 ·have hi:i<ops.size:=(Array.getElem?_eq_some_iff.1 ho).1
  have:=all h4 i hi
  rw[ho]at this
  simpa using this
 ·have:=all (all h5 i hi) j hj
  simpa using this
 ·have:=all (List.all_eq_true.1 (all h6 j hj) k hk) i hi
  rw[hd]at this
  simpa using this
 ·have:=all h7 i hi
  simp only[Bool.or_eq_true,decide_eq_true_eq]at this
  rcases this with h|h
  ·omega
  ·have:=all h j hj
   rw[hf]at this
   simpa using this
 ·have:=all h8 i hi
  simp only[Bool.or_eq_true,decide_eq_true_eq]at this
  rcases this with h|h
  ·omega
  ·have:=all h j hj
   rw[hf,hd]at this
   simpa[hl]using this
 ·have:=all h9 i hi
  simp only[Bool.or_eq_true,decide_eq_true_eq]at this
  rcases this with h|h
  ·omega
  ·have:=all h j hj
   rw[hf,hd]at this
   simpa using this
structure sK (ops:Array Oper) (m:Nat) (fl:List Bool) (ls:Array Bool) (a a₁:Act):Prop where
 gI:a.defers=a₁.defers
 size:a.tmps.size=a₁.tmps.size
 tmp:∀k,(∀j,j<m→fl.getD j false=true→ls.getD j true=false→a6 ops j≠some k)→a.eval (.tmp k)=a₁.eval (.tmp k)
def tZ(P:Program)(ops:Array Oper)(m:Nat)(fl:List Bool)(a₁:Act):Prop:=
 ∀j o d,j<m→fl.getD j false=true→ops[j]? =some o→o.dst=some d→∀w,(execOp a₁.eval o).run P w= .ok (.value (a₁.eval (.tmp d))) w
theorem qt{i:Nat}{o:Oper}(ho:ops[i]? =some o){k:Nat}(hk:Operand.tmp k∈o.op.operands):k∈bT ops i:=by
 unfold bT
 rw[ho]
 exact List.mem_append_left _ (List.mem_filterMap.2 ⟨.tmp k,by simpa using hk,rfl⟩)
theorem gM{i:Nat}{o:Oper}{a a₁:Act}(ho:ops[i]? =some o)(hs:∀cs b,o.op≠ .select cs b)(h:∀k∈bT ops i,a.eval (.tmp k)=a₁.eval (.tmp k)):execOp a.eval o=execOp a₁.eval o:=by
 refine execOp_congr o hs fun x hx=>?_
 match x,hx with
 | .tmp k,hx=>exact h k (qt ho hx)
 | .const v,_=>rfl
 | .global g,_=>rfl
 | .func g,_=>rfl
theorem ui{a a₁:Act}(hd:a.defers=a₁.defers)(hs:a.tmps.size=a₁.tmps.size)(h:∀k,a.eval (.tmp k)=a₁.eval (.tmp k)):a=a₁:=by
 obtain⟨t,d⟩:=a
 obtain⟨t',d'⟩:=a₁
 simp only at hd hs
 subst hd
 congr
 apply Array.ext hs
 intro i h1 h2
 have:=h i
 simpa[Act.eval,h1,h2]using this
theorem dT(a:Act){d:Nat}(hd:d<a.tmps.size)(v:Value)(k:Nat):(a.put (some d) v).eval (.tmp k)=if k=d then v else a.eval (.tmp k):=by
 split
 ·rename_i e;subst e;simp[Act.put,Act.eval,hd]
 ·rename_i e;exact Act.eval_put (fun d' hd' heq=>by cases hd';cases heq;exact e rfl)
def se(Qn:Act→World→Prop):Exit→Act→World→Prop
 | .normal,a,w=>Qn a w
 |_,_,_=>False
theorem sb{o:Oper}{a a₁:Act}{w:World}{K K':Act→World→Prop}{Qn:Act→World→Prop}{Q:Exit→Act→World→Prop}(he:execOp a.eval o=execOp a₁.eval o)(hd:a.defers=a₁.defers)(hh:o.wp P a₁ w K (se Qn))(h:∀ds v w',K (({a₁ with defers:=ds}:Act).put o.dst v) w'→K' (({a with defers:=ds}:Act).put o.dst v) w'):o.wp P a w K' Q:=by
 have h1:∀v w',K (a₁.put o.dst v) w'→K' (a.put o.dst v) w':=fun v w' hk=>by
  have:=h a₁.defers v w' hk
  rw[←hd]at this
  exact this
 unfold Oper.wp at*
 rw[he]
 generalize (execOp a₁.eval o).run P w=x at*
 cases x with
 |ok n w'=>
  cases n<;>simp only[Oper.upon]at hh ⊢
  case value v=>exact h1 _ _ hh
  case skip=>exact h1 _ _ hh
  case defer d=>rw[hd];exact h _ _ _ hh
  case enter f args=>exact Calls.mono hh (fun e w'' he=>by cases e<;>first|exact h1 _ _ he|exact he.elim|exact(he.elim fun _ h=>h.elim fun _ h=>h.elim))
  case row r args=>exact Rows.mono hh (fun _ _ he=>h1 _ _ he)
  all_goals exact hh.elim
 |halt x w'=>cases x<;>simp only[Oper.upon]at hh ⊢ <;>exact hh.elim
theorem rh{f m:Nat}{fl:List Bool}(hF:Form ops f m fl)(hsel:∀(i:Nat) (o:Oper),ops[i]? =some o→∀cs b,o.op≠ .select cs b)(hfd:∀j,j<m→∃d,a6 ops j=some d){Qn:Act→World→Prop}{Q:Exit→Act→World→Prop}(hQ:∀a w,Qn a w→Q .normal a w):
  ∀(fuel k r:Nat) (ls:Array Bool) (a a₁:Act) (w:World),k+r=ops.size→m≤k→ls.size=ops.size→(∀i,k≤i→i<ops.size→ls.getD i true=false)→(∀i,m≤i→i<k→ls.getD i true=true)→(∀i,i<m→fl.getD i false=false→ls.getD i true=true)→Down ops ls→fuel=aS ls m+r→
   sK ops m fl ls a a₁→tZ P ops m fl a₁→(∀j d,j<m→a6 ops j=some d→d<a₁.tmps.size)→wpOps P ops (se Qn) (List.range' k r) a₁ w→wpAny P .any ops Q fuel ls a w:=by
 intro fuel
 induction fuel with
 |zero=>
  intro k r ls a a₁ w hk hm hsz hA hB hC hD hfu hag hfx hds h
  have hr:r=0:=by omega
  subst hr
  have hu:aS ls m=0:=by omega
  have hall:∀i,i<ops.size→ls.getD i true=true:=fun i hi=>by
   rcases Nat.lt_or_ge i m with h'|h'
   ·exact bQ hu i h'
   ·exact hB i h' (by omega)
  have hr0:Region.ready .any ops ls=[]:=by
   apply List.eq_nil_iff_forall_not_mem.2
   intro i hi
   obtain⟨h1,h2,_⟩:=cx.1 hi
   rw[hall i h1]at h2;cases h2
  have:a=a₁:=ui hag.gI hag.size fun k=>hag.tmp k fun j hj _ hl=>by
   rw[bQ hu j hj]at hl;cases hl
  subst this
  exact⟨hr0,hQ a w h⟩
 |succ fuel ih=>
  intro k r ls a a₁ w hk hm hsz hA hB hC hD hfu hag hfx hds h
  have hf:∀b c (i:Nat),i<ops.size→ls.getD i b=ls.getD i c:=fun b c i hi=>by simp[show i<ls.size by omega]
  have hne:Region.ready .any ops ls≠[]:=by
   rcases Nat.eq_zero_or_pos (aS ls m)with hu|hu
   ·have hkr:k<ops.size:=by omega
    have:k∈Region.ready .any ops ls:=cx.2 ⟨hkr,hA k (Nat.le_refl _) hkr,fun j hj=>by
     have:=hF.gr k hkr j hj
     rw[hf false true j (by omega)]
     rcases Nat.lt_or_ge j m with h'|h'
     ·exact bQ hu j h'
     ·exact hB j h' this⟩
    intro h0;rw[h0]at this;cases this
   ·obtain⟨i,h1,h2,h3⟩:=dv hu
    have hle:=hF.le
    have:i∈Region.ready .any ops ls:=cx.2 ⟨by omega,h2,fun j hj=>by
     have:=hF.gr i (by omega) j hj
     rw[hf false true j (by omega)];exact h3 j this⟩
    intro h0;rw[h0]at this;cases this
  refine⟨fun h0=>absurd h0 hne,fun i hi=>?_⟩
  obtain⟨hi1,hi2,hi3⟩:=cx.1 hi
  have ho:ops[i]? =some ops[i]:=by simp[hi1]
  have hwant:Region.wanted ops[i] (yielded ops a.tmps)=true:=by unfold Region.wanted;rw[hF.ng i _ ho]
  have hset:∀(j:Nat) b,(ls.setIfInBounds i true).getD j b=if j=i then true else ls.getD j b:=fun j b=>by
   by_cases e:i=j
   ·subst e;simp[show i<ls.size by omega]
   ·rw[if_neg (fun h=>e h.symm),Array.getD_eq_getD_getElem?,Array.getD_eq_getD_getElem?,Array.getElem?_setIfInBounds_ne e]
  have hdown:Down ops (ls.setIfInBounds i true):=fun j hj hj' q hq=>by
   rw[hset]
   split
   ·rfl
   ·rw[hset]at hj
    split at hj
    ·rename_i e;subst e;exact hi3 q hq
    ·exact hD j hj hj' q hq
  unfold wpOp
  rw[ho]
  simp only[hwant,if_true]
  rcases Nat.lt_or_ge i m with him|him
  ·
   have hfl:fl.getD i false=true:=by
    cases hb:fl.getD i false with
    |true=>rfl
    |false=>rw[hC i him hb]at hi2;cases hi2
   cases hd:(ops[i]).dst with
   |none=>
    obtain⟨d,hd'⟩:=hfd i him
    simp only[a6,ho,Option.bind_some]at hd'
    have:=hd.symm.trans hd'
    cases this
   |some d=>
    have hdo:a6 ops i=some d:=by simp only[a6,ho,Option.bind_some];exact hd
    have hrun:=hfx i ops[i] d him hfl ho hd w
    have hex:execOp a.eval ops[i]=execOp a₁.eval ops[i]:=gM ho (hsel i _ ho) fun q hq=>hag.tmp q fun j hj _ hjl hjd=>by
     have:=(hF.rd i him q hq j hj hjd).2
     have:=hi3 j this
     rw[hf false true j (by omega),hjl]at this
     cases this
    left
    unfold Oper.wp
    rw[hex,hrun]
    simp only[Oper.upon]
    rw[hd]
    have hda:=hds i d him hdo
    refine ih k r _ _ a₁ w hk hm (by simpa using hsz) (fun j hj hj'=>by rw[hset,if_neg (by omega)];exact hA j hj hj') (fun j hj hj'=>by rw[hset,if_neg (by omega)];exact hB j hj hj') (fun j hj hj'=>?_) hdown ?_ ⟨by simpa[Act.put]using hag.gI,by simpa[Act.put]using hag.size,fun q hq=>?_⟩ hfx hds h
    ·rw[hset];split
     ·rfl
     ·exact hC j hj hj'
    ·have:=dx hi2 him (by have:=hF.le;omega);omega
    ·rw[dT a (by rw[hag.size];exact hda)]
     split
     ·rename_i e;rw[e]
     ·rename_i e
      refine hag.tmp q fun j hj hjf hjl hjd=>?_
      by_cases e2:j=i
      ·subst e2;rw[hdo]at hjd;cases hjd;exact e rfl
      ·exact hq j hj hjf (by rw[hset,if_neg e2];exact hjl) hjd
  ·
   have hik:i=k:=by
    rcases Nat.lt_or_ge i k with h'|h'
    ·rw[hB i him h']at hi2;cases hi2
    ·rcases Nat.lt_or_ge k i with h''|h''
     ·have hfk:fl.getD k false=false:=by
       have:=hF.vz
       simp[List.getD_eq_getElem?_getD,List.getElem?_eq_none (show fl.length≤k by omega)]
      have:=dC hsz hD hF.gr f i k hi1 (hF.vF i hi1 him k h'' hfk) hi3
      rw[hf false true k (by omega),hA k (Nat.le_refl _) (by omega)]at this
      cases this
     ·omega
   subst hik
   obtain⟨r',rfl⟩:∃r',r=r'+1:=⟨r - 1,by omega⟩
   rw[List.range'_succ,wpOps_cons]at h
   unfold wpOp at h
   rw[ho]at h
   have hwant':Region.wanted ops[i] (yielded ops a₁.tmps)=true:=by unfold Region.wanted;rw[hF.ng i _ ho]
   simp only[hwant',if_true]at h
   have hh:=h.resolve_right (fun⟨_,_,_,hq⟩=>hq)
   have hex:execOp a.eval ops[i]=execOp a₁.eval ops[i]:=gM ho (hsel i _ ho) fun q hq=>hag.tmp q fun j hj hjf hjl hjd=>by
    have:=dC hsz hD hF.gr f i j hi1 (hF.use i hi1 him j hj hjf q hjd hq) hi3
    rw[hf false true j (by have:=hF.le;omega),hjl]at this
    cases this
   left
   refine sb hex hag.gI hh fun ds v w' hK=>?_
   have hdd:∀d,(ops[i]).dst=some d→a6 ops i=some d:=fun d hd=>by simp only[a6,ho,Option.bind_some];exact hd
   refine ih (i+1) r' _ _ _ w' (by omega) (by omega) (by simpa using hsz) (fun j hj hj'=>by rw[hset,if_neg (by omega)];exact hA j (by omega) hj') (fun j hj hj'=>?_) (fun j hj hj'=>by rw[hset,if_neg (by omega)];exact hC j hj hj') hdown ?_ ⟨?_,?_,fun q hq=>?_⟩ (fun j o d hj hjf hjo hjd w''=>?_) (fun j d hj hjd=>?_) hK
   ·rw[hset];split
    ·rfl
    ·exact hB j hj (by omega)
   ·have:aS (ls.setIfInBounds i true) m=aS ls m:=by
     have:∀q,q≤m→aS (ls.setIfInBounds i true) q=aS ls q:=by
      intro q
      induction q with
      |zero=>intro _;rfl
      |succ q ihq=>
       intro hq
       simp only[aS]
       rw[ihq (by omega),hset q true,if_neg (show ¬q=i by omega)]
     exact this m (Nat.le_refl _)
    omega
   ·cases(ops[i]).dst<;>rfl
   ·cases(ops[i]).dst<;>simpa[Act.put]using hag.size
   ·have hq':∀j,j<m→fl.getD j false=true→ls.getD j true=false→a6 ops j≠some q:=fun j hj hjf hjl=>hq j hj hjf (by rw[hset,if_neg (by omega)];exact hjl)
    cases hd:(ops[i]).dst with
    |none=>exact hag.tmp q hq'
    |some d=>
     by_cases hsz2:d<a.tmps.size
     ·rw[dT _ (by simpa using hsz2),dT _ (by rw[←hag.size];exact hsz2)]
      split
      ·rfl
      ·exact hag.tmp q hq'
     ·have e1:({a with defers:=ds}:Act).put (some d) v= {a with defers:=ds}:=by simp[Act.put,Array.setIfInBounds,hsz2]
      have e2:({a₁ with defers:=ds}:Act).put (some d) v= {a₁ with defers:=ds}:=by simp[Act.put,Array.setIfInBounds,←hag.size,hsz2]
      rw[e1,e2]
      exact hag.tmp q hq'
   ·have hj1:=hfx j o d hj hjf hjo hjd w''
    have hjd':a6 ops j=some d:=by simp only[a6,hjo,Option.bind_some];exact hjd
    have key:∀q,(q∈bT ops j∨q=d)→(({a₁ with defers:=ds}:Act).put (ops[i]).dst v).eval (.tmp q)=a₁.eval (.tmp q):=fun q hq=>by
     refine Act.eval_put (a:= {a₁ with defers:=ds}) fun e he heq=>?_
     cases heq
     have:=hF.wr i hi1 him j hj hjf q (hdd q he)
     rcases hq with hq|rfl
     ·exact this.2 hq
     ·exact this.1 hjd'
    have he2:execOp (({a₁ with defers:=ds}:Act).put (ops[i]).dst v).eval o=execOp a₁.eval o:=gM hjo (hsel j o hjo) fun q hq=>key q (.inl hq)
    rw[he2,hj1,key d (.inr rfl)]
   ·have:=hds j d hj hjd
    cases(ops[i]).dst<;>simpa[Act.put]using this
theorem fI:∀(l:List Oper) (ps:List PV) (t:bo) (k:Nat) (p:PV),look k (fF l ps t)=some p→(∃(j:Nat) (o:Oper),l[j]? =some o∧o.dst=some k∧ps[j]? =some p)∨look k t=some p
 | [],_,t,k,p,h=>.inr (by simpa[fF]using h)
 |_::_,[],t,k,p,h=>.inr (by simpa[fF]using h)
 |o::l,q::ps,t,k,p,h=>by
  simp only[fF]at h
  rcases fI l ps _ k p h with⟨j,o',h1,h2,h3⟩|h'
  ·exact .inl ⟨j+1,o',by simpa using h1,h2,by simpa using h3⟩
  ·cases hd:o.dst with
   |none=>rw[hd]at h';exact .inr h'
   |some d=>
    rw[hd]at h'
    simp only[look]at h'
    rw[Bool.cond_eq_ite]at h'
    split at h'
    ·rename_i he
     have:=Nat.eq_of_beq_eq_true he
     subst this
     cases h'
     exact .inl ⟨0,o,rfl,hd,rfl⟩
    ·exact .inr h'
section
variable {F:Nat→Prop} {base:Nat} {E:Env} {σ:ba} {t:bo} {l:List Oper} {ps:List PV} {fl:List Bool} {f m:Nat}
structure fp (N m:Nat) (l:List Oper) (ps:List PV) (E:Env) (t:bo) (w:World) (dn:Nat→Prop) (a:Act) (w':World):Prop where
 ext:Ext w w'
 gI:a.defers=[]
 size:a.tmps.size=N
 t0:cZ E w' a.eval t
 sO:∀j,j<m→dn j→∀d p,a6 l.toArray j=some d→ps[j]? =some p→bK E w' (a.eval (.tmp d)) p
theorem eg{i:Nat}{o:Oper}(h:(l.take m)[i]? =some o):i<m∧l.toArray[i]? =some o∧a6 l.toArray i=o.dst:=by
 rw[List.getElem?_take]at h
 split at h
 ·rename_i hi
  refine⟨hi,by simpa using h,?_⟩
  simp only[a6]
  have:l.toArray[i]? =some o:=by simpa using h
  rw[this];rfl
 ·cases h
theorem iV{dn:Nat→Prop}{a:Act}{w w':World}(hg:fp N m l ps E t w dn a w'){i:Nat}(hi:i≤m){ks:List Nat}(hdn:∀j k,j<i→k∈ks→a6 l.toArray j=some k→dn j):cZ E w' a.eval (dc (fF ((l.take m).take i) (ps.take i) t) ks):=fun k p hk=>by
 obtain⟨h1,h2⟩:=dq ks k p hk
 rcases fI _ _ _ k p h2 with⟨j,o,h3,h4,h5⟩|h'
 ·rw[List.getElem?_take]at h3
  split at h3
  ·rename_i hj
   obtain⟨hjm,h6,h7⟩:=eg h3
   rw[List.getElem?_take,if_pos hj]at h5
   exact hg.sO j (by omega) (hdn j k hj h1 (by rw[h7];exact h4)) k p (by rw[h7];exact h4) h5
  ·cases h3
 ·exact hg.t0 k p h'
theorem lL{dn:Nat→Prop}{a:Act}{w w' w'':World}(hF:Form l.toArray f m fl)(hfr:∀i d,i<m→a6 l.toArray i=some d→look d t=none)(hg:fp N m l ps E t w dn a w')(hE:Ext w' w''){i d:Nat}{p:PV}(hi:i<m)(hd:a6 l.toArray i=some d)(hdN:d<N)(hp:ps[i]? =some p){v:Value}(hv:bK E w'' v p):
  fp N m l ps E t w (fun j=>dn j∨j=i) (a.put (some d) v) w'':=by
 refine⟨hg.ext.trans hE,by simpa[Act.put]using hg.gI,by simpa[Act.put]using hg.size,fun k q hk=>?_,fun j hj hdj d' q hd' hq=>?_⟩
 ·have hne:k≠d:=fun e=>by subst e;rw[hfr i k hi hd]at hk;cases hk
  rw[dT a (by rw[hg.size];exact hdN),if_neg hne]
  exact(hg.t0 k q hk).ext hE
 ·rw[dT a (by rw[hg.size];exact hdN)]
  by_cases e:j=i
  ·subst e
   rw[hd]at hd';cases hd'
   rw[hp]at hq;cases hq
   rw[if_pos rfl];exact hv
  ·have hne:d'≠d:=fun e'=>by
    subst e'
    rcases Nat.lt_or_ge i j with h'|h'
    ·exact hF.ss j i hj h' (by rw[hd,hd'])
    ·exact hF.ss i j hi (by omega) (by rw[hd,hd'])
   rw[if_neg hne]
   exact(hg.sO j hj (hdj.resolve_right e) d' q hd' hq).ext hE
theorem fp.mono{dn dn':Nat→Prop}{a:Act}{w w':World}(h:fp N m l ps E t w dn a w')(hd:∀j,j<m→dn' j→dn j):fp N m l ps E t w dn' a w':=⟨h.ext,h.gI,h.size,h.t0,fun j hj hj'=>h.sO j hj (hd j hj hj')⟩
theorem r6(hF:Form l.toArray f m fl)(hml:m≤l.length)(hfr:∀i d,i<m→a6 l.toArray i=some d→look d t=none)(hc:eB P N l.toArray σ (l.take m) ps fl t){ls:Array Bool}{a:Act}{w w':World}(hg:fp N m l ps E t w (fun j=>ls.getD j true=true) a w')(hall:∀i,i<m→fl.getD i false=false→ls.getD i true=true):
  ∃a₁,sK l.toArray m fl ls a a₁∧fp N m l ps E t w (fun _=>True) a₁ w':=by
 obtain⟨hl1,hl2,hdat⟩:=hc.data
 have hlen:(l.take m).length=m:=by simp;omega
 have key:∀q,q≤m→∃b,sK l.toArray m fl ls a b∧fp N m l ps E t w (fun j=>ls.getD j true=true∨j<q) b w':=by
  intro q
  induction q with
  |zero=>intro _;exact⟨a,⟨rfl,rfl,fun _ _=>rfl⟩,hg.mono fun j _ h=>h.resolve_right (by omega)⟩
  |succ q ih=>
   intro hq
   obtain⟨b,hag,hgb⟩:=ih (by omega)
   cases hb:ls.getD q true with
   |true=>exact⟨b,hag,hgb.mono fun j _ h=>by
     rcases h with h|h
     ·exact .inl h
     ·by_cases e:j=q
      ·subst e;exact .inl hb
      ·exact .inr (by omega)⟩
   |false=>
    have hfq:fl.getD q false=true:=by
     cases hf:fl.getD q false with
     |true=>rfl
     |false=>rw[hall q (by omega) hf]at hb;cases hb
    have ho:(l.take m)[q]? =some ((l.take m)[q]'(by omega)):=List.getElem?_eq_getElem (by omega)
    obtain⟨_,hoq,hdq⟩:=eg ho
    have hpq:ps[q]? =some (ps[q]'(by omega)):=by simp
    have hff:fl[q]? =some true:=by
     have:q<fl.length:=by rw[hl2,hlen];omega
     simp[this]at hfq ⊢;exact hfq
    have D:=hdat q _ _ _ ho hpq hff
    obtain⟨d,hd,hdN⟩:=D.dst
    obtain⟨_,ks,hks,hR⟩:=D.r rfl
    have hrep:=iV hgb (i:=q) (by omega) (ks:=ks) (fun j k hj _ _=>.inr hj)
    obtain⟨v,_,hv⟩:=hR E b.eval w' (cn b) hrep
    have hdd:a6 l.toArray q=some d:=by rw[hdq];exact hd
    refine⟨b.put (some d) v,⟨by simpa[Act.put]using hag.gI,by simpa[Act.put]using hag.size,fun k hk=>?_⟩,(lL hF hfr hgb (Ext.refl _) (by omega) hdd hdN hpq hv).mono fun j _ h=>?_⟩
    ·have hne:k≠d:=fun e=>hk q (by omega) hfq hb (by rw[hdd,e])
     rw[dT b (by rw[hgb.size];exact hdN),if_neg hne]
     exact hag.tmp k hk
    ·rcases h with h|h
     ·exact .inl (.inl h)
     ·by_cases e:j=q
      ·exact .inr e
      ·exact .inl (.inr (by omega))
 obtain⟨b,h1,h2⟩:=key m (Nat.le_refl _)
 exact⟨b,h1,h2.mono fun j hj _=>.inr hj⟩
theorem sH(hml:m≤l.length)(hc:eB P N l.toArray σ (l.take m) ps fl t){a:Act}{w w':World}(hg:fp N m l ps E t w (fun _=>True) a w'):tZ P l.toArray m fl a:=fun j o d hj hf ho hd w''=>by
 obtain⟨hl1,hl2,hdat⟩:=hc.data
 have hlen:(l.take m).length=m:=by simp;omega
 have hoj:(l.take m)[j]? =some o:=by rw[List.getElem?_take,if_pos hj];simpa using ho
 have hpj:ps[j]? =some (ps[j]'(by omega)):=by simp
 have hff:fl[j]? =some true:=by
  have:j<fl.length:=by rw[hl2,hlen];omega
  simp[this]at hf ⊢;exact hf
 have D:=hdat j _ _ _ hoj hpj hff
 obtain⟨hfix,ks,hks,hR⟩:=D.r rfl
 have hrep:=iV hg (i:=j) (by omega) (ks:=ks) (fun _ _ _ _ _=>trivial)
 obtain⟨v,hrun,hv⟩:=hR E a.eval w' (cn a) hrep
 have hdd:a6 l.toArray j=some d:=by rw[(eg hoj).2.2];exact hd
 have:=hfix.vH E w' _ _ (hg.sO j hj trivial d _ hdd hpj) hv
 rw[this];exact hrun w''
end
theorem gb{id:Nat}{l:List Oper}{t t':bo}{σ:ba}{Q:Exit→St→Prop}(m f:Nat){fl:List Bool}{ps:List PV}(hm:P.follows .mixedOrders=true)(hc:eB P N l.toArray σ (l.take m) ps fl t)(hB:(ts l.toArray f m fl&&Region.noSelect l.toArray)=true)(hml:Nat.ble m l.length=true)
  (hfr:((l.take m).all fun o=>o.dst.all fun d=>(look d t).isNone)=true) (hsub:Sub (fF (l.take m) ps t) t') (hw:WR P N L l.toArray (l.drop m) ⟨t',σ⟩ (fun s=>Q .normal s)):W P N L (.region id l.toArray true) ⟨t,σ⟩ Q:=fun F base E₀ w₀ E a w hcm hs=>by
 simp only[Bool.and_eq_true]at hB
 have hF:=qA hB.1
 have hmle:m≤l.length:=Nat.ble_eq.mp hml
 obtain⟨hl1,hl2,hdat⟩:=hc.data
 have hlen:(l.take m).length=m:=by simp;omega
 have hfr':∀i d,i<m→a6 l.toArray i=some d→look d t=none:=fun i d hi hd=>by
  have ho:(l.take m)[i]? =some ((l.take m)[i]'(by omega)):=List.getElem?_eq_getElem (by omega)
  have:=List.all_eq_true.1 hfr _ (List.mem_of_getElem? ho)
  rw[(eg ho).2.2]at hd
  rw[hd]at this
  simpa using this
 have hdst:∀i,i<m→∃d,a6 l.toArray i=some d∧d<N:=fun i hi=>by
  have ho:(l.take m)[i]? =some ((l.take m)[i]'(by omega)):=List.getElem?_eq_getElem (by omega)
  have hp:ps[i]? =some (ps[i]'(by omega)):=by simp
  have hf:fl[i]? =some (fl[i]'(by omega)):=by simp
  obtain⟨d,h1,h2⟩:=(hdat i _ _ _ ho hp hf).dst
  exact⟨d,by rw[(eg ho).2.2];exact h1,h2⟩
 have hsel:∀(i:Nat) (o:Oper),l.toArray[i]? =some o→∀cs b,o.op≠ .select cs b:=fun i o ho cs b=>Region.noSelect_spec hB.2 i o cs b ho
 have main:∀(fuel:Nat) (ls:Array Bool) (a:Act) (w':World),ls.size=l.toArray.size→(∀i,m≤i→i<l.toArray.size→ls.getD i true=false)→Down l.toArray ls→fuel=aS ls m+(l.toArray.size - m)→fp N m l ps E t w (fun j=>ls.getD j true=true) a w'→
   wpAny P .any l.toArray (fun e a' w'=>kM F base N E₀ w₀ (Q e) a' w') fuel ls a w':=by
  have tW:∀(fuel:Nat) (ls:Array Bool) (a:Act) (w':World),ls.size=l.toArray.size→(∀i,m≤i→i<l.toArray.size→ls.getD i true=false)→Down l.toArray ls→fuel=aS ls m+(l.toArray.size - m)→fp N m l ps E t w (fun j=>ls.getD j true=true) a w'→
    (∀i,i<m→fl.getD i false=false→ls.getD i true=true)→wpAny P .any l.toArray (fun e a' w'=>kM F base N E₀ w₀ (Q e) a' w') fuel ls a w':=by
   intro fuel ls a w' hsz hrest hdn hfu hg hall
   obtain⟨a₁,hag,hg1⟩:=r6 hF hmle hfr' hc hg hall
   have hsat:dE F base N ⟨t',σ⟩ E a₁ w':=by
    refine⟨hs.sat.ext hg1.ext,cZ.sub (fun k p hk=>?_) hsub,hg1.gI,hg1.size⟩
    rcases fI _ _ _ k p hk with⟨j,o,h1,h2,h3⟩|h'
    ·obtain⟨hj,_,h4⟩:=eg h1
     exact hg1.sO j hj trivial k p (by rw[h4];exact h2) h3
    ·exact hg1.t0 k p h'
   have hops:=hw F base E₀ w₀ E a₁ w' (hcm.on (.ext hg1.ext) (Below.eX hg1.ext hs.sat.bl)) hsat (se fun a' w'=>kM F base N E₀ w₀ (Q .normal) a' w') m (fun a' w' hp=>hp) (fun j=>by simp)
   refine rh hF hsel (fun j hj=>(hdst j hj).imp fun _ h=>h.1) (fun a w h=>h) fuel m (l.toArray.size - m) ls a a₁ w' (by have:=hF.le;omega) (Nat.le_refl _) hsz hrest (fun i h1 h2=>by omega) hall hdn hfu hag (sH hmle hc hg1) (fun j d hj hd=>?_) (by simpa using hops)
   obtain⟨d',h1,h2⟩:=hdst j hj
   rw[hd]at h1;cases h1
   rw[hg1.size];exact h2
  intro fuel
  induction fuel with
  |zero=>
   intro ls a w' hsz hrest hdn hfu hg
   exact tW 0 ls a w' hsz hrest hdn hfu hg (fun i hi _=>bQ (m:=m) (by omega) i hi)
  |succ fuel ih=>
   intro ls a w' hsz hrest hdn hfu hg
   by_cases hall:∀i,i<m→fl.getD i false=false→ls.getD i true=true
   ·exact tW (fuel+1) ls a w' hsz hrest hdn hfu hg hall
   ·have hle:=hF.le
    obtain⟨j0,hj0,hj1,hj2⟩:∃j0,j0<m∧fl.getD j0 false=false∧ls.getD j0 true=false:=by
     apply Classical.byContradiction
     intro hno
     refine hall fun i hi hf=>?_
     cases hb:ls.getD i true with
     |true=>rfl
     |false=>exact absurd ⟨i,hi,hf,hb⟩ hno
    have hf:∀b c (i:Nat),i<l.toArray.size→ls.getD i b=ls.getD i c:=fun b c i hi=>by simp only[Array.getD_eq_getD_getElem?];simp[show i<ls.size by omega]
    have hpos:0<aS ls m:=by
     rcases Nat.eq_zero_or_pos (aS ls m)with h|h
     ·rw[bQ h j0 hj0]at hj2;cases hj2
     ·exact h
    obtain⟨i0,hi0,hi1,hi2⟩:=dv hpos
    have hne:i0∈Region.ready .any l.toArray ls:=cx.2 ⟨by omega,hi1,fun k hk=>by
     have:=hF.gr i0 (by omega) k hk
     rw[hf false true k (by omega)];exact hi2 k this⟩
    refine⟨fun h0=>absurd hne (by rw[h0];simp),fun i hi=>?_⟩
    obtain⟨h1,h2,h3⟩:=cx.1 hi
    have him:i<m:=by
     rcases Nat.lt_or_ge i m with h'|h'
     ·exact h'
     ·have:=dC hsz hdn hF.gr f i j0 h1 (hF.vF i h1 h' j0 (by omega) hj1) h3
      rw[hf false true j0 (by omega),hj2]at this
      cases this
    have ho:(l.take m)[i]? =some ((l.take m)[i]'(by omega)):=List.getElem?_eq_getElem (by omega)
    obtain⟨_,hoi,hdi⟩:=eg ho
    have hp:ps[i]? =some (ps[i]'(by omega)):=by simp
    have hfi:fl[i]? =some (fl[i]'(by omega)):=by simp
    have D:=hdat i _ _ _ ho hp hfi
    obtain⟨d,hd,hdN⟩:=D.dst
    obtain⟨ks,hks,hY⟩:=D.y
    have hdd:a6 l.toArray i=some d:=by rw[hdi];exact hd
    have hrep:=iV hg (i:=i) (by omega) (ks:=ks) (fun j k hj hk hjd=>by
     have hlk:k∈bT l.toArray i:=by
      unfold bT;rw[hoi];exact hks k hk
     have:=h3 j (hF.rd i him k hlk j (by omega) hjd).2
     rw[hf false true j (by omega)]at this
     exact this)
    unfold wpOp
    rw[hoi]
    have hwant:Region.wanted ((l.take m)[i]'(by omega)) (yielded l.toArray a.tmps)=true:=by unfold Region.wanted;rw[hF.ng i _ hoi]
    simp only[hwant,if_true]
    left
    refine iy (hY F base E a.eval w' (cn a) (hs.sat.ext hg.ext) hrep) fun v w'' hE hv=>?_
    rw[hd]
    have hset:∀(j:Nat) b,(ls.setIfInBounds i true).getD j b=if j=i then true else ls.getD j b:=fun j b=>by
     by_cases e:i=j
     ·subst e;simp[show i<ls.size by omega]
     ·rw[if_neg (fun h=>e h.symm),Array.getD_eq_getD_getElem?,Array.getD_eq_getD_getElem?,Array.getElem?_setIfInBounds_ne e]
    refine ih _ _ w'' (by simpa using hsz) (fun j hj hj'=>by rw[hset j true,if_neg (show ¬j=i by omega)];exact hrest j hj hj') (fun j hj hj' q hq=>?_) (by have:=dx h2 him (by omega);omega) ((lL hF hfr' hg hE him hdd hdN hp hv).mono fun j hj hjj=>?_)
    ·rw[hset]
     split
     ·rfl
     ·rw[hset]at hj
      split at hj
      ·rename_i e;subst e;exact h3 q hq
      ·exact hdn j hj hj' q hq
    ·rw[hset]at hjj
     split at hjj
     ·rename_i e;exact .inr e
     ·exact .inl hjj
 obtain⟨arr,ds⟩:=a
 refine wp_region_any hm ?_
 have hE:Ext w {w with drawn:=w.drawn+1}:=⟨rfl,rfl,rfl,Nat.le_refl _,fun _ _=>rfl⟩
 have hul:∀k,k≤l.length→aS (Array.replicate l.toArray.size false) k=k:=by
  intro k
  induction k with
  |zero=>intro _;rfl
  |succ k ih=>
   intro hk
   simp only[aS]
   rw[ih (by omega),jH _ _ (by simp;omega)]
   simp
 refine main l.toArray.size (Array.replicate l.toArray.size false) ⟨arr,ds⟩ _ (by simp) (fun i _ hi=>jH _ _ hi _) (fun i hi hi'=>?_) (by rw[hul m hmle];simp;omega) ⟨hE,hs.gI,hs.size,hs.tmp.goes (.ext hE),fun j hj hjl=>?_⟩
 ·rw[jH _ _ hi']at hi;cases hi
 ·rw[jH _ _ (by simp;omega)]at hjl;cases hjl
theorem o2{id:Nat}{l:List Oper}{y:Code}{t t':bo}{σ:ba}{Q:Exit→St→Prop}(m f:Nat){fl:List Bool}{ps:List PV}(hm:P.follows .mixedOrders=true)(hc:eB P N l.toArray σ (l.take m) ps fl t)(hB:(ts l.toArray f m fl&&Region.noSelect l.toArray)=true)(hml:Nat.ble m l.length=true)
  (hfr:((l.take m).all fun o=>o.dst.all fun d=>(look d t).isNone)=true) (hsub:Sub (fF (l.take m) ps t) t') (hw:WR P N L l.toArray (l.drop m) ⟨t',σ⟩ (fun s=>W P N L y s Q)):W P N L (.seq (.region id l.toArray true) y) ⟨t,σ⟩ Q:=al (gb m f hm hc hB hml hfr hsub hw)
end
inductive Tr (α:Type) where
 |l
 |n (a:Tr α) (k:Nat) (v:α) (b:Tr α)
def Tr.get{α:Type}:Tr α→Nat→Option α
 | .l,_=>none
 | .n a k v b,j=>bif Nat.beq j k then some v else bif Nat.blt j k then a.get j else b.get j
inductive Tr.mB {α:Type} (R:Nat→α→Prop):Tr α→Prop
 |l:Tr.mB R .l
 |n {a b:Tr α} {k:Nat} {v:α}:Tr.mB R a→R k v→Tr.mB R b→Tr.mB R (.n a k v b)
theorem Tr.mB.get{α:Type}{R:Nat→α→Prop}{t:Tr α}(h:Tr.mB R t){j:Nat}{v:α}:t.get j=some v→R j v:=by
 induction h with
 |l=>intro h;cases h
 | @n a b k u _ hr _ iha ihb=>
  intro h
  simp only[Tr.get,Bool.cond_eq_ite]at h
  split at h
  ·rename_i he
   cases Nat.eq_of_beq_eq_true he
   cases h
   exact hr
  ·split at h
   ·exact iha h
   ·exact ihb h
structure kq where
 tk:Tr (Option Nat)
 fo:Tr Nat
 el:Tr (Nat×Nat)
 st:Tr (List (Nat×Nat)×List Value)
 sl:Tr (Nat×Nat×List Value)
 rk:Tr (Nat×Nat×Nat×List Value)
 zk:Tr (List Value)
 bk:Tr Unit
 pk:Tr Unit
 ar:Tr (Nat×Nat)
 en:Tr Unit
structure kq.Ok (P:Program) (Φ:kq):Prop where
 tk:Φ.tk.mB fun k v=>kA P k=some v
 fo:Φ.fo.mB fun k v=>eQ P (k / 100) (k % 100)=some v
 el:Φ.el.mB fun k v=>sh P k=some v
 st:Φ.st.mB fun k v=>vj P k=some v
 sl:Φ.sl.mB fun k v=>uf P k=some v
 rk:Φ.rk.mB fun k v=>oA P k=some v
 zk:Φ.zk.mB fun k v=>o6 P k=some v
 bk:Φ.bk.mB fun k _=>kV P k=true
 pk:Φ.pk.mB fun k _=>kD P k=true
 ar:Φ.ar.mB fun k v=>uM P k=some v
 en:Φ.en.mB fun k _=>enters P k=true
class Has (P:Program) (Φ:outParam kq):Prop where
 ok:kq.Ok P Φ
def force{α:Type}:List α→Option (List α)
 | []=>some []
 |x::l=>match force l with
  |some r=>some (x::r)
  |none=>none
theorem force_eq{α:Type}:∀ {l r:List α},force l=some r→l=r
 | [],r,h=>by cases h;rfl
 |x::l,r,h=>by
  simp only[force]at h
  split at h
  ·rename_i r' hr
   cases h
   rw[force_eq hr]
  ·cases h
def tF(xs:List PV)(k:Nat):Nat→Option (List PV)
 |0=>some []
 |n+1=>match xs[k]? with
  |some p=>match tF xs (k+1) n with
   |some r=>some (p::r)
   |none=>none
  |none=>none
theorem pE{xs:List PV}:∀ {n k:Nat} {ys:List PV},tF xs k n=some ys→(xs.drop k).take n=ys∧ys.length=n
 |0,k,ys,h=>by cases h;simp
 |n+1,k,ys,h=>by
  simp only[tF]at h
  split at h
  ·rename_i p hp
   split at h
   ·rename_i r hr
    cases h
    obtain⟨h1,h2⟩:=pE hr
    have hlt:=(List.getElem?_eq_some_iff.1 hp).1
    have hx:xs[k]=p:=by rw[List.getElem?_eq_getElem hlt]at hp;exact Option.some.inj hp
    refine⟨?_,by simp[h2]⟩
    rw[List.drop_eq_getElem_cons hlt,List.take_succ_cons,h1,hx]
   ·cases h
  ·cases h
def part(xs:List PV)(k n:Nat):Option PV:=bif Nat.beq k 0&&Nat.beq xs.length n then some (.agg xs) else match tF xs k n with
 |some ys=>some (.agg ys)
 |none=>none
def vc(op:BinOp)(a b:Int):Option PV:=
 match op with
 | .lss=>some (.raw (.bool (decide (a<b))))
 | .leq=>some (.raw (.bool (decide (a≤b))))
 | .gtr=>some (.raw (.bool (decide (b<a))))
 | .geq=>some (.raw (.bool (decide (b≤a))))
 | .eql=>some (.raw (.bool (decide (a=b))))
 | .neq=>some (.raw (.bool (decide (a≠b))))
 |_=>none
def um(Φ:kq)(op:BinOp)(ty:TypeId):PV→PV→Option PV
 | .raw (.int .i64 a),.raw (.int .i64 b)=>vc op a b
 | .raw (.bool a),.raw (.bool b)=>match Φ.bk.get ty with
  |some _=>match op with
   | .eql=>some (.raw (.bool (a==b)))
   | .neq=>some (.raw (.bool (!(a==b))))
   |_=>none
  |none=>none
 | .ptr _ _,.raw (.pointer none)=>match Φ.pk.get ty with
  |some _=>match op with
   | .eql=>some (.raw (.bool false))
   | .neq=>some (.raw (.bool true))
   |_=>none
  |none=>none
 | .bY _ _,.raw (.pointer none)=>match Φ.pk.get ty with
  |some _=>match op with
   | .eql=>some (.raw (.bool false))
   |_=>none
  |none=>none
 |_,_=>none
def c9(Φ:kq)(σ:ba)(t:bo):Op→Option PV
  | .move x=>aj t x
  | .assign x=>aj t x
  | .pick c a b=>match aj t c with
    |some (.raw (.bool true))=>aj t a
    |some (.raw (.bool false))=>aj t b
    |_=>none
  | .unOp .not _ x=>match aj t x with
    |some (.raw (.bool q))=>some (.raw (.bool (!q)))
    |_=>none
  | .binOp op ty x y _=>match aj t x with
    |some p=>match aj t y with
      |some q=>um Φ op ty p q
      |none=>none
    |none=>none
  | .nilCheck x=>match aj t x with
    |some (.bY xs k)=>some (.bY xs k)
    |some (.ptr i k)=>some (.ptr i k)
    |some (.func f c)=>some (.func f c)
    |_=>none
  | .fieldAddr s x f=>bif Nat.blt f 100 then match Φ.fo.get (s*100+f)with
      |some off=>match aj t x with
        |some (.bY xs k)=>some (.bY xs (k+off))
        |some (.ptr i k)=>some (.ptr i (k+off))
        |_=>none
      |none=>none
    else none
  | .load ty x=>match Φ.tk.get ty with
    |some none=>match aj t x with
      |some (.bY xs k)=>xs[k]?
      |some (.ptr i k)=>match σ[i]? with
        |some (some blk)=>blk.xs[k]?
        |_=>none
      |_=>none
    |some (some n)=>match aj t x with
      |some (.bY xs k)=>part xs k n
      |some (.ptr i k)=>match σ[i]? with
        |some (some blk)=>part blk.xs k n
        |_=>none
      |_=>none
    |none=>none
  | .extract x k=>match aj t x with
    |some (.tuple xs)=>xs[k]?
    |_=>none
  | .makeFunc fn fs cs=>match fn with
    | .func f=>match fs.toList with
      | []=>match dH t cs.toList with
        |some xs=>some (.func f xs)
        |none=>none
      |_=>none
    |_=>none
  | .box _ x=>match aj t x with
    |some p=>match fH p with
      |some xs=>some (.bY xs 0)
      |none=>none
    |none=>none
  | .build ty parts=>match Φ.st.get ty with
    |some (pl,z)=>match ec t parts.toList with
      |some ps=>match fm (pl[·]?) (z.map .raw) ps with
        |some xs=>match force xs with
          |some ys=>some (.agg ys)
          |none=>none
        |none=>none
      |none=>none
    |none=>none
  | .buildSlice ty n parts=>match Φ.sl.get ty with
    | some (_, s, z) => bif Nat.blt 0 n && Nat.ble (n * s) 16777216 then match ec t parts.toList with
        |some ps=>match fm (fun i=>some (i*s,s)) (cz (z.map .raw) n) ps with
          |some xs=>match force xs with
            |some ys=>some (.slice n ys)
            |none=>none
          |none=>none
        |none=>none
      else bif Nat.beq n 0&&Nat.beq parts.size 0 then some (.slice 0 []) else none
    |none=>none
  | .call c=>match c.callee with
    | .builtin .len=>match c.args.toList,c.argTypes.toList with
      | [x],[ty]=>match Φ.el.get ty with
        |some _=>match aj t x with
          |some (.slice n _)=>some (.raw (.int .i64 n))
          |some (.raw (.slice none 0 0))=>some (.raw (.int .i64 0))
          |some (.own m)=>match σ[m]? with
            |some (some (.row _ _ n _))=>some (.raw (.int .i64 n))
            |_=>none
          |_=>none
        |none=>none
      |_,_=>none
    |_=>none
  |_=>none
section
variable {P:Program} {σ:ba} {t:bo} {o:Oper} {Φ:kq}
theorem me{xs:List PV}{k n:Nat}{p:PV}(h:part xs k n=some p):∃ys,p= .agg ys∧(xs.drop k).take n=ys∧ys.length=n:=by
 unfold part at h
 rw[Bool.cond_eq_ite]at h
 split at h
 ·rename_i hc
  simp only[Bool.and_eq_true]at hc
  have h1:=Nat.eq_of_beq_eq_true hc.1
  have h2:=Nat.eq_of_beq_eq_true hc.2
  subst h1
  cases h
  exact⟨xs,rfl,by rw[List.drop_zero,←h2,List.take_length],h2⟩
 ·split at h
  ·rename_i ys hy
   cases h
   exact⟨ys,rfl,pE hy⟩
  ·cases h
theorem uJ(hΦ:Φ.Ok P){op:BinOp}{x y:Operand}{ty tz:TypeId}{p q r:PV}(ho:o.op= .binOp op ty x y tz)(hx:aj t x=some p)(hy:aj t y=some q)(h:um Φ op ty p q=some r):aH P σ t o r:=by
 unfold um at h
 split at h
 ·unfold vc at h
  split at h<;>first|(cases h;done)|skip
  ·cases h;exact u4 ho hx hy rfl
  ·cases h;exact uY ho hx hy rfl
  ·cases h;exact u6 ho hx hy rfl
  ·cases h;exact vf ho hx hy rfl
  ·cases h;exact uX ho hx hy rfl
  ·cases h;exact vi ho hx hy rfl
 ·split at h
  ·rename_i u hu
   have hb:=hΦ.bk.get hu
   split at h
   ·cases h;exact qp ho hb hx hy rfl
   ·cases h;exact pT ho hb hx hy rfl
   ·cases h
  ·cases h
 ·split at h
  ·rename_i u hu
   have hb:=hΦ.pk.get hu
   split at h
   ·cases h;exact jR ho hb hx hy
   ·cases h;exact rZ ho hb hx hy
   ·cases h
  ·cases h
 ·split at h
  ·rename_i u hu
   have hb:=hΦ.pk.get hu
   split at h
   ·cases h;exact r4 ho hb hx hy
   ·cases h
  ·cases h
 ·cases h
theorem mi{α:Type}{a:Array α}{l:List α}(h:a.toList=l):a=l.toArray:=by rw[←h]
theorem sj(s f:Nat):(s*100+f) / 100=s+f / 100∧(s*100+f) % 100=f % 100:=by omega
theorem fS(hΦ:Φ.Ok P){op:Op}{p:PV}(ho:o.op=op)(h:c9 Φ σ t op=some p):aH P σ t o p:=by
 unfold c9 at h
 split at h
 ·exact cA ho h
 ·exact cp ho h
 ·split at h
  ·rename_i hc;exact sW ho hc h
  ·rename_i hc;exact sY ho hc h
  ·cases h
 ·split at h
  ·rename_i hc;cases h;exact u2 ho hc
  ·cases h
 ·split at h
  ·rename_i p' hp
   split at h
   ·rename_i q' hq;exact uJ hΦ ho hp hq h
   ·cases h
  ·cases h
 ·split at h
  ·rename_i hc;cases h;exact rm ho hc
  ·rename_i hc;cases h;exact dB ho hc
  ·rename_i hc;cases h;exact qG ho hc
  ·cases h
 ·rename_i s x f
  rw[Bool.cond_eq_ite]at h
  split at h
  ·rename_i hf100
   have hf100:=Nat.blt_eq.mp hf100
   split at h
   ·rename_i off hof
    have hf:=hΦ.fo.get hof
    obtain⟨e1,e2⟩:=sj s f
    rw[e1,e2,Nat.div_eq_of_lt hf100,Nat.mod_eq_of_lt hf100,Nat.add_zero]at hf
    split at h
    ·rename_i hc;cases h;exact oN ho hf hc
    ·rename_i hc;cases h;exact oV ho hf hc
    ·cases h
   ·cases h
  ·cases h
 ·split at h
  ·rename_i htk
   have hk:=hΦ.tk.get htk
   split at h
   ·rename_i hc;exact kX ho hk hc h
   ·rename_i hc
    split at h
    ·rename_i hi;exact dt ho hk hc hi h
    ·cases h
   ·cases h
  ·rename_i n htk
   have hk:=hΦ.tk.get htk
   split at h
   ·rename_i hc
    obtain⟨ys,rfl,h1,h2⟩:=me h
    exact fc ho hk hc h1 h2
   ·rename_i hc
    split at h
    ·rename_i hi
     obtain⟨ys,rfl,h1,h2⟩:=me h
     exact fk ho hk hc hi h1 h2
    ·cases h
   ·cases h
  ·cases h
 ·split at h
  ·rename_i hc;exact qk ho hc h
  ·cases h
 ·split at h
  ·split at h
   ·rename_i gv
    split at h
    ·rename_i hc
     cases h
     rw[mi gv]at ho
     exact gA ho hc
    ·cases h
   ·cases h
  ·cases h
 ·split at h
  ·rename_i hc
   split at h
   ·rename_i hx;cases h;exact sA ho hc hx
   ·cases h
  ·cases h
 ·split at h
  ·rename_i hst
   have hk:=hΦ.st.get hst
   split at h
   ·rename_i hps
    split at h
    ·rename_i hf
     split at h
     ·rename_i hfo
      cases h
      cases force_eq hfo
      exact eK ho hk hps hf
     ·cases h
    ·cases h
   ·cases h
  ·cases h
 ·split at h
  ·rename_i hsl
   have hk:=hΦ.sl.get hsl
   rw[Bool.cond_eq_ite]at h
   split at h
   ·rename_i hn
    simp only[Bool.and_eq_true,Nat.blt_eq,Nat.ble_eq]at hn
    split at h
    ·rename_i hps
     split at h
     ·rename_i hf
      split at h
      ·rename_i hfo
       cases h
       cases force_eq hfo
       exact mf ho hk hn hps hf
      ·cases h
     ·cases h
    ·cases h
   ·rw[Bool.cond_eq_ite]at h
    split at h
    ·rename_i hn
     simp only[Bool.and_eq_true]at hn
     have h1:=Nat.eq_of_beq_eq_true hn.1
     have h2:=Nat.eq_of_beq_eq_true hn.2
     subst h1
     have h3:=Array.eq_empty_of_size_eq_zero h2
     rw[h3]at ho
     cases h
     exact mx ho hk
    ·cases h
  ·cases h
 ·rename_i c
  split at h
  ·rename_i hcal
   split at h
   ·rename_i x ty hax hat
    split at h
    ·rename_i hel
     have hk:=hΦ.el.get hel
     have ho':o.op= .call {callee:=.builtin .len,args:= #[x],argTypes:= #[ty]}:=by
      rw[ho]
      obtain⟨c1,c2,c3⟩:=c
      simp only at hcal hax hat
      rw[hcal,mi hax,mi hat]
     split at h
     ·rename_i hc;cases h;exact oD ho' hk hc
     ·rename_i hc;cases h;exact sf ho' hk hc
     ·rename_i hc
      split at h
      ·rename_i hi;cases h;exact re ho' hk hc hi
      ·cases h
     ·cases h
    ·cases h
   ·cases h
  ·cases h
 ·cases h
theorem je{t':bo}:∀ {l:List Operand},(∀x∈l,aj t' x=aj t x)→dH t' l=dH t l
 | [],_=>rfl
 |x::l,h=>by simp only[dH,h x (List.mem_cons_self ..),je (fun y hy=>h y (List.mem_cons_of_mem _ hy))]
theorem fC{t':bo}:∀ {l:List (Nat×Operand)},(∀x∈l,aj t' x.2=aj t x.2)→ec t' l=ec t l
 | [],_=>rfl
 |(i,x)::l,h=>by simp only[ec,h (i,x) (List.mem_cons_self ..),fC (fun y hy=>h y (List.mem_cons_of_mem _ hy))]
theorem nH{t':bo}(op:Op)(h:∀x∈op.operands,aj t' x=aj t x):c9 Φ σ t' op=c9 Φ σ t op:=by
 cases op with
 |move x=>exact h x (by simp[Op.operands])
 |assign x=>exact h x (by simp[Op.operands])
 |pick c a b=>simp only[c9,h c (by simp[Op.operands]),h a (by simp[Op.operands]),h b (by simp[Op.operands])]
 |unOp u ty x=>cases u<;>simp only[c9,h x (by simp[Op.operands])]
 |binOp b ty x y tz=>simp only[c9,h x (by simp[Op.operands]),h y (by simp[Op.operands])]
 |nilCheck x=>simp only[c9,h x (by simp[Op.operands])]
 |fieldAddr s x f=>simp only[c9,h x (by simp[Op.operands])]
 |load ty x=>simp only[c9,h x (by simp[Op.operands])]
 |extract x k=>simp only[c9,h x (by simp[Op.operands])]
 |box ty x=>simp only[c9,h x (by simp[Op.operands])]
 |makeFunc fn fs cs=>
  have:dH t' cs.toList=dH t cs.toList:=je fun x hx=>h x (by simp only[Op.operands];exact Array.mem_append_right _ (by simpa using hx))
  simp only[c9,this]
 |build ty ps=>
  have:ec t' ps.toList=ec t ps.toList:=fC fun x hx=>h x.2 (by simp only[Op.operands,List.mem_toArray,List.mem_map];exact⟨x,hx,rfl⟩)
  simp only[c9,this]
 |buildSlice ty n ps=>
  have:ec t' ps.toList=ec t ps.toList:=fC fun x hx=>h x.2 (by simp only[Op.operands,List.mem_toArray,List.mem_map];exact⟨x,hx,rfl⟩)
  simp only[c9,this]
 |call c=>
  simp only[c9]
  split
  ·split
   ·rename_i x ty hax _
    rw[h x (by simp only[Op.operands,Call.operands];exact Array.mem_append_right _ (by rw[mi hax];simp))]
   ·rfl
  ·rfl
 |_=>rfl
theorem nC{ks:List Nat}{k:Nat}(h:k∈ks):look k (dc t ks)=look k t:=by
 cases e:look k (dc t ks)with
 |some p=>exact((dq ks k p e).2).symm
 |none=>
  induction ks with
  |nil=>cases h
  |cons j ks ih=>
   simp only[dc]at e
   by_cases hjk:k=j
   ·subst hjk
    cases hl:look k t with
    |none=>rfl
    |some p=>rw[hl]at e;simp[look,Nat.beq_refl]at e
   ·have hm:k∈ks:=by cases h with|head=>exact absurd rfl hjk|tail _ hh=>exact hh
    split at e
    ·have hb:Nat.beq k j=false:=by rw[Bool.eq_false_iff];exact fun hh=>hjk (Nat.eq_of_beq_eq_true hh)
     simp only[look,hb,cond_false]at e
     exact ih hm e
    ·exact ih hm e
theorem l0{ks:List Nat}{x:Operand}(h:∀k,x= .tmp k→k∈ks):aj (dc t ks) x=aj t x:=by
 cases x with
 |tmp k=>exact nC (h k rfl)
 |_=>rfl
def rT(Φ:kq)(N:Nat)(ops:Array Oper)(σ:ba)(t:bo)(o:Oper):Option (Nat×PV):=
 match o.dst with
 |some d=>bif Nat.blt d N then match cu ops t o with
   |some true=>match c9 Φ σ t o.op with
    |some p=>some (d,p)
    |none=>none
   |some false=>some (d,.raw undef)
   |none=>none
  else none
 |none=>none
def rq(Φ:kq)(N:Nat)(ops:Array Oper)(σ:ba):Nat→List Oper→bo→Option (List Oper×bo)
 |0,l,t=>some (l,t)
 |_+1,[],_=>none
 |n+1,o::l,t=>match rT Φ N ops σ t o with
  |some x=>rq Φ N ops σ n l (x::t)
  |none=>none
variable {N L:Nat} {ops:Array Oper}
theorem cQ.a[hP:Has P Φ](n:Nat){l l':List Oper}{u t':bo}(h:rq Φ N ops σ n l t=some (l',u))(k:cQ P N ops σ l' u t'):cQ P N ops σ l t t':=by
 induction n generalizing l t with
 |zero=>cases h;exact k
 |succ n ih=>
  cases l with
  |nil=>cases h
  |cons o l=>
   simp only[rq]at h
   split at h
   ·rename_i x hx
    have kk:=ih h
    unfold rT at hx
    split at hx
    ·rename_i d hd
     rw[Bool.cond_eq_ite]at hx
     split at hx
     ·rename_i hN
      split at hx
      ·rename_i hw
       split at hx
       ·rename_i p hp
        cases hx
        exact .val (fS hP.ok rfl hp) hd hw hN kk
       ·cases hx
      ·rename_i hw
       cases hx
       exact .skip hd hw hN kk
      ·cases hx
     ·cases hx
    ·cases hx
   ·cases h
theorem cB.a[hP:Has P Φ](n:Nat){l l':List Oper}{u t':bo}(h:rq Φ N ops σ n l t=some (l',u))(k:cB P N ops σ l' u t'):cB P N ops σ l t t':=by
 induction n generalizing l t with
 |zero=>cases h;exact k
 |succ n ih=>
  cases l with
  |nil=>cases h
  |cons o l=>
   simp only[rq]at h
   split at h
   ·rename_i x hx
    have kk:=ih h
    unfold rT at hx
    split at hx
    ·rename_i d hd
     rw[Bool.cond_eq_ite]at hx
     split at hx
     ·rename_i hN
      split at hx
      ·rename_i hw
       split at hx
       ·rename_i p hp
        cases hx
        refine .val (o.looksAt ops) (by simp) (fS hP.ok rfl (op:=o.op) ?_) hd hw hN kk
        rw[nH,hp]
        intro x hx
        refine l0 fun k hk=>?_
        subst hk
        exact List.mem_append_left _ (List.mem_filterMap.2 ⟨.tmp k,by simpa using hx,rfl⟩)
       ·cases hx
      ·rename_i hw
       cases hx
       exact .skip hd hw hN kk
      ·cases hx
     ·cases hx
    ·cases hx
   ·cases h
def dk(N:Nat)(ops:Array Oper)(t:bo)(o:Oper):Option Nat:=
 match o.dst with
 |some d=>bif Nat.blt d N then match cu ops t o with
   |some true=>some d
   |_=>none
  else none
 |none=>none
theorem cE{d:Nat}(h:dk N ops t o=some d):o.dst=some d∧cu ops t o=some true∧Nat.blt d N=true:=by
 unfold dk at h
 split at h
 ·rename_i d' hd
  rw[Bool.cond_eq_ite]at h
  split at h
  ·rename_i hN
   split at h
   ·rename_i hw;cases h;exact⟨hd,hw,hN⟩
   ·cases h
  ·cases h
 ·cases h
theorem cQ.v{rest:List Oper}{t':bo}{d:Nat}{p:PV}(hy:aH P σ t o p)(h:dk N ops t o=some d)(k:cQ P N ops σ rest ((d,p)::t) t'):cQ P N ops σ (o::rest) t t':=.val hy (cE h).1 (cE h).2.1 (cE h).2.2 k
theorem cB.v{rest:List Oper}{t':bo}{d:Nat}{p:PV}(ks:List Nat)(hy:aH P σ (dc t ks) o p)(hk:(ks.all fun k=>(o.looksAt ops).contains k)=true)(h:dk N ops t o=some d)(k:cB P N ops σ rest ((d,p)::t) t'):cB P N ops σ (o::rest) t t':=.val ks hk hy (cE h).1 (cE h).2.1 (cE h).2.2 k
theorem aM{rest:List Oper}{K:St→Prop}{d:Nat}{p:PV}(hy:aH P σ t o p)(h:dk N ops t o=some d)(k:WR P N L ops rest ⟨(d,p)::t,σ⟩ K):WR P N L ops (o::rest) ⟨t,σ⟩ K:=aC hy (cE h).1 (cE h).2.1 (cE h).2.2 k
theorem bD{rest:List Oper}{σ':ba}{K:St→Prop}{d:Nat}{p:PV}(hy:dN P σ t o p σ')(h:dk N ops t o=some d)(k:WR P N L ops rest ⟨(d,p)::t,σ'⟩ K):WR P N L ops (o::rest) ⟨t,σ⟩ K:=bR hy (cE h).1 (cE h).2.1 (cE h).2.2 k
def eM(t:bo):List Nat→Option bo
 | []=>some []
 |k::ks=>match look k t with
  |some p=>match eM t ks with
   |some r=>some ((k,p)::r)
   |none=>none
  |none=>none
theorem aQ:∀ {ks:List Nat} {u:bo},eM t ks=some u→Sub t u
 | [],u,h=>by cases h;exact Sub.nil _
 |k::ks,u,h=>by
  simp only[eM]at h
  split at h
  ·rename_i p hp
   split at h
   ·rename_i r hr
    cases h
    exact .cons hp (aQ hr)
   ·cases h
  ·cases h
theorem cQ.k(ks:List Nat){u:bo}(h:eM t ks=some u):cQ P N ops σ [] t u:=.nil (aQ h)
theorem cB.k(ks:List Nat){u:bo}(h:eM t ks=some u):cB P N ops σ [] t u:=.nil (aQ h)
theorem fx{c:Code}{Q:Exit→St→Prop}(ks:List Nat){u:bo}(h:eM t ks=some u)(k:W P N L c ⟨u,σ⟩ Q):W P N L c ⟨t,σ⟩ Q:=fL (aQ h) k
theorem aO{K:St→Prop}(ks:List Nat){u:bo}(h:eM t ks=some u)(k:K ⟨u,σ⟩):WR P N L ops [] ⟨t,σ⟩ K:=oR (aQ h) (af k)
def sR:ba→Option Nat
 | []=>some 0
 |_::l=>match sR l with
  |some n=>some (n+1)
  |none=>none
theorem pD:∀ {s:ba} {n:Nat},sR s=some n→s.length=n
 | [],n,h=>by cases h;rfl
 |_::l,n,h=>by
  simp only[sR]at h
  split at h
  ·rename_i m hm;cases h;simp[pD hm]
  ·cases h
def tG:PV→Bool
 | .raw (.int _ _)=>true
 | .raw (.bool _)=>true
 | .raw (.string _)=>true
 | .raw (.slice _ _ _)=>true
 | .raw (.pointer _)=>true
 | .slice _ _=>true
 | .bY _ _=>true
 | .func _ _=>true
 | .ptr _ _=>true
 | .own _=>true
 |_=>false
theorem r9{p:PV}(h:tG p=true):dj p:=by
 unfold tG at h
 split at h<;>first|infer_instance|cases h
theorem rS{xs:List PV}(h:xs.all tG=true):bV xs:=⟨fun i u hu=>r9 (List.all_eq_true.1 h u (List.mem_of_getElem? hu))⟩
def mR(Φ:kq)(t:bo)(σ:ba):Op→Option (PV×ba)
  | .alloc ty=>match Φ.zk.get ty with
    |some z=>match force (z.map PV.raw)with
      |some z'=>match sR σ with
        |some n=>match force (σ++[some (.cells ty z')])with
          |some s=>some (.ptr n 0,s)
          |none=>none
        |none=>none
      |none=>none
    |none=>none
  | .store ty x y=>match Φ.tk.get ty with
    | some k => match aj t x with
      | some (.ptr i off) => match aj t y with
        | some p => match σ[i]? with
          | some (some blk) => match fH p with
            |some ys=>match force ys with
              |some ys=>bif Nat.beq ys.length (k.getD 1)&&(Nat.ble (off+ys.length) blk.xs.length&&ys.all tG) then match force (over blk.xs off ys)with
                  |some zs=>match force (σ.set i (some (blk.lK zs)))with
                    |some s=>some (.raw undef,s)
                    |none=>none
                  |none=>none
                else none
              |none=>none
            |none=>none
          |_=>none
        |none=>none
      |_=>none
    |none=>none
  |_=>none
theorem jZ(hΦ : Φ.Ok P){op : Op}{p : PV}{σ' : ba}(ho : o.op = op)(h : mR Φ t σ op = some (p, σ')) : dN P σ t o p σ' := by
  unfold mR at h
  split at h
  · split at h
    · rename_i hz
      split at h
      · rename_i hz'
        cases force_eq hz'
        split at h
        · rename_i hl
          cases pD hl
          split at h
          · rename_i hs
            cases force_eq hs
            cases h
            exact tm ho (hΦ.zk.get hz)
          · cases h
        · cases h
      · cases h
    · cases h
  · split at h
    · rename_i hk
      split at h
      · rename_i hx
        split at h
        · rename_i hy
          split at h
          · rename_i hi
            split at h
            · rename_i hc
              split at h
              · rename_i hf
                cases force_eq hf
                rw[Bool.cond_eq_ite]at h
                split at h
                · rename_i hb
                  simp only[Bool.and_eq_true,Nat.ble_eq]at hb
                  have h1:=Nat.eq_of_beq_eq_true hb.1
                  haveI:=rS hb.2.2
                  split at h
                  · rename_i hz
                    cases force_eq hz
                    split at h
                    · rename_i hs
                      cases force_eq hs
                      cases h
                      exact pv ho (hΦ.tk.get hk) hx hy hc h1 hi hb.2.1
                    · cases h
                  · cases h
                · cases h
              · cases h
            · cases h
          · cases h
        · cases h
      · cases h
    · cases h
  · cases h
def ud(Φ:kq)(N:Nat)(ops:Array Oper)(t:bo)(σ:ba)(o:Oper):Option (bo×ba):=
 match cu ops t o with
 |some true=>match o.dst with
  |some d=>bif Nat.blt d N then match c9 Φ σ t o.op with
    |some p=>some ((d,p)::t,σ)
    |none=>match mR Φ t σ o.op with
     |some (p,s)=>some ((d,p)::t,s)
     |none=>none
   else none
  |none=>match mR Φ t σ o.op with
   |some (_,s)=>some (t,s)
   |none=>none
 |some false=>match o.dst with
  |some d=>bif Nat.blt d N then some ((d,.raw undef)::t,σ) else none
  |none=>none
 |none=>none
def ug(Φ:kq)(N:Nat)(ops:Array Oper):Nat→List Oper→bo→ba→Option (List Oper×bo×ba)
 |0,l,t,σ=>some (l,t,σ)
 |_+1,[],_,_=>none
 |n+1,o::l,t,σ=>match ud Φ N ops t σ o with
  |some (t',σ')=>ug Φ N ops n l t' σ'
  |none=>none
theorem ax[hP:Has P Φ](n:Nat){l l':List Oper}{u:bo}{σ':ba}{K:St→Prop}(h:ug Φ N ops n l t σ=some (l',u,σ'))(k:WR P N L ops l' ⟨u,σ'⟩ K):WR P N L ops l ⟨t,σ⟩ K:=by
 induction n generalizing l t σ with
 |zero=>cases h;exact k
 |succ n ih=>
  cases l with
  |nil=>cases h
  |cons o l=>
   simp only[ug]at h
   split at h
   ·rename_i t' s' hx
    have kk:=ih h
    unfold ud at hx
    split at hx
    ·rename_i hw
     split at hx
     ·rename_i d hd
      rw[Bool.cond_eq_ite]at hx
      split at hx
      ·rename_i hN
       split at hx
       ·rename_i p hp
        cases hx
        exact aC (fS hP.ok rfl hp) hd hw hN kk
       ·split at hx
        ·rename_i hs
         cases hx
         exact bR (jZ hP.ok rfl hs) hd hw hN kk
        ·cases hx
      ·cases hx
     ·rename_i hd
      split at hx
      ·rename_i hs
       cases hx
       exact bq (jZ hP.ok rfl hs) hd hw kk
      ·cases hx
    ·rename_i hw
     split at hx
     ·rename_i d hd
      rw[Bool.cond_eq_ite]at hx
      split at hx
      ·rename_i hN
       cases hx
       exact pI hd hw hN kk
      ·cases hx
     ·cases hx
    ·cases hx
   ·cases h
def gj(Φ:kq)(t:bo):Op→Option (Nat×List PV)
  | .call c=>match c.callee with
    | .value x=>match aj t x with
      | some (.func f cap) => match Φ.en.get f with
        |some _=>match dH t c.args.toList with
          |some ps=>match cap with
            | []=>some (f,ps)
            |q::cap=>match force (ps++(q::cap))with
              |some qs=>some (f,qs)
              |none=>none
          |none=>none
        |none=>none
      |_=>none
    |_=>none
  |_=>none
theorem ej(hΦ:Φ.Ok P){op:Op}{f:Nat}{ps:List PV}(h:gj Φ t op=some (f,ps)):∃x args ats cap qs,op= .call {callee:=.value x,args:=args,argTypes:=ats}∧enters P f=true∧aj t x=some (.func f cap)∧dH t args.toList=some qs∧qs++cap=ps:=by
 unfold gj at h
 split at h
 ·rename_i c
  obtain⟨c1,c2,c3⟩:=c
  split at h
  ·rename_i x hx
   simp only at hx
   subst hx
   split at h
   ·rename_i hf
    split at h
    ·rename_i hen
     split at h
     ·rename_i qs hq
      split at h
      ·cases h;exact⟨_,_,_,_,_,rfl,hΦ.en.get hen,hf,hq,by simp⟩
      ·split at h
       ·rename_i hfo
        cases h;exact⟨_,_,_,_,_,rfl,hΦ.en.get hen,hf,hq,force_eq hfo⟩
       ·cases h
     ·cases h
    ·cases h
   ·cases h
  ·cases h
 ·cases h
theorem fu[hP:Has P Φ]{f:Nat}{ps:List PV}{r:PV}(h:gj Φ t o.op=some (f,ps))(hc:Can P f ps (· =r))[hp:av ps]:aH P σ t o r:=by
 obtain⟨x,args,ats,cap,qs,ho,hen,hx,hq,rfl⟩:=ej hP.ok h
 exact ka ho hen hx hq hc
theorem iG[hP:Has P Φ]{f:Nat}{ps qs:List PV}{r:PV}(h:gj Φ t o.op=some (f,ps))(hq:aq σ ps qs)(hc:Can P f qs (· =r))[hp:fP r]:aH P σ t o r:=by
 obtain⟨x,args,ats,cap,ps',ho,hen,hx,he,rfl⟩:=ej hP.ok h
 exact tp ho hen hx he hq hc
theorem vA[hP:Has P Φ]{f:Nat}{ps qs:List PV}{r:PV}(h:gj Φ t o.op=some (f,ps))(hq:aq [] ps qs)(hc:Can P f qs (· =r)):aH P σ t o r:=by
 obtain⟨x,args,ats,cap,ps',ho,hen,hx,he,rfl⟩:=ej hP.ok h
 exact sT ho hen hx he hq hc
theorem cQ.c[Has P Φ]{rest:List Oper}{t':bo}{d f:Nat}{ps:List PV}{r:PV}(h:gj Φ t o.op=some (f,ps))(hc:Can P f ps (· =r))(hd:dk N ops t o=some d)(k:cQ P N ops σ rest ((d,r)::t) t')[av ps]:cQ P N ops σ (o::rest) t t':=.v (fu h hc) hd k
theorem nZ[Has P Φ]{rest:List Oper}{K:St→Prop}{d f:Nat}{ps:List PV}{r:PV}(h:gj Φ t o.op=some (f,ps))(hc:Can P f ps (· =r))(hd:dk N ops t o=some d)(k:WR P N L ops rest ⟨(d,r)::t,σ⟩ K)[av ps]:WR P N L ops (o::rest) ⟨t,σ⟩ K:=aM (fu h hc) hd k
theorem bh[hP:Has P Φ]{rest:List Oper}{K:St→Prop}{d f:Nat}{ps:List PV}(h:gj Φ t o.op=some (f,ps))(hd:dk N ops t o=some d)(hc:aG P f ps σ (fun r σ'=>WR P N L ops rest ⟨(d,r)::t,σ'⟩ K)):WR P N L ops (o::rest) ⟨t,σ⟩ K:=by
 obtain⟨x,args,ats,cap,ps',ho,hen,hx,he,rfl⟩:=ej hP.ok h
 exact r7 ho hen hx he (cE hd).1 (cE hd).2.1 (cE hd).2.2 hc
theorem cJ[hP:Has P Φ]{b q:Bool}(h:c9 Φ σ t o.op=some (.raw (.bool b)))(hq:b=q):aH P σ t o (.raw (.bool q)):=by subst hq;exact fS hP.ok rfl h
def vG(t:bo):Op→Option Int
 | .binOp op _ x y _=>match aj t x with
  |some (.raw (.int .i64 a))=>match aj t y with
   |some (.raw (.int .i64 b))=>match op with
    | .add=>some (a+b)
    | .sub=>some (a - b)
    | .mul=>some (a*b)
    |_=>none
   |_=>none
  |_=>none
 |_=>none
theorem bw{a:Int}(h:vG t o.op=some a){c:Int}(hc:a=c:=by exact rfl)(hn:In64 c:=by unfold In64;omega):aH P σ t o (.raw (.int .i64 c)):=by
 subst hc
 unfold vG at h
 split at h
 ·rename_i ho
  split at h
  ·rename_i hx
   split at h
   ·rename_i hy
    split at h
    ·cases h;exact uV ho hx hy rfl hn
    ·cases h;exact ve ho hx hy rfl hn
    ·cases h;exact uU ho hx hy rfl hn
    ·cases h
   ·cases h
  ·cases h
 ·cases h
def vI(Φ:kq)(σ:ba)(t:bo):Op→Option (Int×Nat×Nat×(Nat→PV))
 | .indexAddr ty x ix=>match aj t ix with
  |some (.raw (.int _ i))=>match Φ.el.get ty with
   |some (_,s)=>match aj t x with
    |some (.slice n xs)=>some (i,n,s,fun j=>.bY xs j)
    |some (.own m)=>match σ[m]? with
     |some (some (.row _ _ n _))=>some (i,n,s,fun j=>.ptr m j)
     |_=>none
    |_=>none
   |none=>match Φ.ar.get ty with
    |some (n,s)=>match aj t x with
     |some (.bY xs off)=>some (i,n,s,fun j=>.bY xs (off+j))
     |_=>none
    |none=>none
  |_=>none
 |_=>none
theorem aY[hP:Has P Φ]{i:Int}{n s:Nat}{g:Nat→PV}(j:Nat)(h:vI Φ σ t o.op=some (i,n,s,g))(h0:0≤i:=by omega)(h1:i<n:=by omega)(hj:i.toNat*s=j:=by omega):aH P σ t o (g j):=by
 unfold vI at h
 split at h
 ·rename_i ho
  split at h
  ·rename_i hix
   split at h
   ·rename_i hel
    have hk:=hP.ok.el.get hel
    split at h
    ·rename_i hx;cases h;exact my ho hk hx hix h0 h1 hj
    ·rename_i hx
     split at h
     ·rename_i hi;cases h;exact oK ho hk hx hi hix h0 h1 hj
     ·cases h
    ·cases h
   ·split at h
    ·rename_i har
     have hk:=hP.ok.ar.get har
     split at h
     ·rename_i hx;cases h;exact kQ ho hk hx hix h0 h1 hj
     ·cases h
    ·cases h
  ·cases h
 ·cases h
def vn(Φ:kq)(σ:ba)(t:bo):Op→Option (List PV×Nat×Option Nat)
 | .load ty x=>match Φ.tk.get ty with
  |some k=>match aj t x with
   |some (.bY xs o)=>some (xs,o,k)
   |some (.ptr i o)=>match σ[i]? with
    |some (some blk)=>some (blk.xs,o,k)
    |_=>none
   |_=>none
  |none=>none
 |_=>none
theorem aV[hP:Has P Φ]{xs:List PV}{k:Nat}{p:PV}(h:vn Φ σ t o.op=some (xs,k,none))(hp:xs[k]? =some p):aH P σ t o p:=by
 unfold vn at h
 split at h
 ·rename_i ho
  split at h
  ·rename_i htk
   have hk:=hP.ok.tk.get htk
   split at h
   ·rename_i hx;cases h;exact kX ho hk hx hp
   ·rename_i hx
    split at h
    ·rename_i hi;cases h;exact dt ho hk hx hi hp
    ·cases h
   ·cases h
  ·cases h
 ·cases h
theorem vE[hP:Has P Φ]{xs ys:List PV}{k n:Nat}(h:vn Φ σ t o.op=some (xs,k,some n))(hp:(xs.drop k).take n=ys)(hn:ys.length=n):aH P σ t o (.agg ys):=by
 unfold vn at h
 split at h
 ·rename_i ho
  split at h
  ·rename_i htk
   have hk:=hP.ok.tk.get htk
   split at h
   ·rename_i hx;cases h;exact fc ho hk hx hp hn
   ·rename_i hx
    split at h
    ·rename_i hi;cases h;exact fk ho hk hx hi hp hn
    ·cases h
   ·cases h
  ·cases h
 ·cases h
def vb(Φ:kq)(st:St):ResultVar→Option PV
 | .tmp k=>look k st.t
 | .cell k ty=>match look k st.t with
  |some (.ptr i off)=>match st.σ[i]? with
   |some (some blk)=>match Φ.tk.get ty with
    |some none=>blk.xs[off]?
    |some (some n)=>part blk.xs off n
    |none=>none
   |_=>none
  |_=>none
def uA(Φ:kq)(st:St):List ResultVar→Option (List PV)
 | []=>some []
 |r::rs=>match vb Φ st r with
  |some p=>match uA Φ st rs with
   |some ps=>some (p::ps)
   |none=>none
  |none=>none
theorem aK.of[hP:Has P Φ]{st:St}:∀ {rs:List ResultVar} {ps:List PV},uA Φ st rs=some ps→aK P st rs ps
 | [],ps,h=>by cases h;exact .nil
 |r::rs,ps,h=>by
  simp only[uA]at h
  split at h
  ·rename_i p hp
   split at h
   ·rename_i ps' hps
    cases h
    refine .cons ?_ (aK.of hps)
    unfold vb at hp
    split at hp
    ·exact .tmp hp
    ·split at hp
     ·rename_i hl
      split at hp
      ·rename_i hi
       split at hp
       ·rename_i htk;exact .tM hl hi (hP.ok.tk.get htk) hp
       ·rename_i htk
        obtain⟨ys,rfl,h1,h2⟩:=me hp
        exact .tR hl hi (hP.ok.tk.get htk) h1 h2
       ·cases hp
      ·cases hp
     ·cases hp
   ·cases h
  ·cases h
def so:List Nat→Nat→Option Nat
 | [],_=>none
 |x::l,j=>bif Nat.beq x j then some 0 else match so l j with
  |some n=>some (n+1)
  |none=>none
theorem mv:∀ {fs:List Nat} {j i:Nat},so fs j=some i→fs[i]? =some j
 | [],_,_,h=>by cases h
 |x::l,j,i,h=>by
  simp only[so,Bool.cond_eq_ite]at h
  split at h
  ·rename_i he;cases h;cases Nat.eq_of_beq_eq_true he;rfl
  ·split at h
   ·rename_i n hn;cases h;simpa using mv hn
   ·cases h
theorem Ren.va{fs:List Nat}{i j:Nat}(h:so fs j=some i):Ren fs (.own i) (.own j):=.own (mv h)
theorem Ren.qU{fs:List Nat}{i j k:Nat}(h:so fs j=some i):Ren fs (.ptr i k) (.ptr j k):=.ptr (mv h)
theorem gw.c{fs:List Nat}{t t':bo}{p p':PV}(k:Nat)(rest:gw fs t t')(h:look k t=some p:=by exact rfl)(hr:Ren fs p' p:=by first|exact Ren.pure|exact Ren.va rfl|exact Ren.qU rfl):gw fs t ((k,p')::t'):=.cons k h hr rest
theorem ab.c{fs:List Nat}{x y:PV}{xs ys:List PV}(rest:ab fs xs ys)(hr:Ren fs x y:=by first|exact Ren.pure|exact Ren.va rfl|exact Ren.qU rfl):ab fs (x::xs) (y::ys):=ab.cons hr rest
theorem bb[hP:Has P Φ]{p:PV}(h:c9 Φ σ t o.op=some p):aH P σ t o p:=fS hP.ok rfl h
theorem vl[hP:Has P Φ]{p:PV}{σ':ba}(h:mR Φ t σ o.op=some (p,σ')):dN P σ t o p σ':=jZ hP.ok rfl h
def j1(N:Nat)(l:List Oper):Bool:=Region.lexB .any l.toArray&&l.all fun o=>o.dst.all fun e=>decide (e<N)
theorem fK{l:List Oper}(h:j1 N l=true):Region.lexB .any l.toArray=true∧(l.all fun o=>o.dst.all fun e=>decide (e<N)&&(l.filterMap (·.dst)).contains e)=true∧((l.filterMap (·.dst)).all fun e=>decide (e<N))=true:=by
 unfold j1 at h
 simp only[Bool.and_eq_true,List.all_eq_true]at h
 refine⟨h.1,List.all_eq_true.2 fun o ho=>?_,List.all_eq_true.2 fun e he=>?_⟩
 ·have h2:=h.2 o ho
  cases hd:o.dst with
  |none=>rfl
  |some e=>
   rw[hd]at h2
   simp only[Option.all_some,Bool.and_eq_true,List.contains_iff_mem,List.mem_filterMap]at h2 ⊢
   exact⟨h2,o,ho,hd⟩
 ·obtain⟨o,ho,hd⟩:=List.mem_filterMap.1 he
  have h2:=h.2 o ho
  rw[hd]at h2
  exact h2
theorem vC{id:Nat}{l:List Oper}{t':bo}{Q:Exit→St→Prop}(hm:P.follows .mixedOrders=true)(hB:j1 N l=true)(h:cB P N l.toArray σ l t t')(hq:Q .normal ⟨t',σ⟩):W P N L (.region id l.toArray true) ⟨t,σ⟩ Q:=uj _ hm (fK hB).1 (fK hB).2.1 (fK hB).2.2 h hq
theorem jk{id:Nat}{l:List Oper}{y:Code}{t':bo}{Q:Exit→St→Prop}(hm:P.follows .mixedOrders=true)(hB:j1 N l=true)(h:cB P N l.toArray σ l t t')(hq:W P N L y ⟨t',σ⟩ Q):W P N L (.seq (.region id l.toArray true) y) ⟨t,σ⟩ Q:=al (vC hm hB h hq)
theorem bF{id:Nat}{l:List Oper}{y:Code}{u:bo}{Q:Exit→St→Prop}(k:Nat)(p:PV)(ks:List Nat)(_:eM t ks=some u)(h:cQ P N l.toArray σ l t ((k,p)::u))(hq:W P N L y ⟨(k,p)::u,σ⟩ Q):W P N L (.seq (.region id l.toArray false) y) ⟨t,σ⟩ Q:=ag h hq
theorem nW{id:Nat}{l:List Oper}{y:Code}{u:bo}{Q:Exit→St→Prop}(hm:P.follows .mixedOrders=true)(hB:j1 N l=true)(k:Nat)(p:PV)(ks:List Nat)(_:eM t ks=some u)(h:cB P N l.toArray σ l t ((k,p)::u))(hq:W P N L y ⟨(k,p)::u,σ⟩ Q):W P N L (.seq (.region id l.toArray true) y) ⟨t,σ⟩ Q:=jk hm hB h hq
def Tr.keys{α:Type}:Tr α→List Nat
 | .l=>[]
 | .n a k _ b=>a.keys++k::b.keys
def Tr.pO{α:Type}:Tr α→List α
 | .l=>[]
 | .n a _ v b=>a.pO++v::b.pO
theorem Tr.j4{α:Type}:∀(t:Tr α),t.keys.length=t.pO.length
 | .l=>rfl
 | .n a _ _ b=>by simp[Tr.keys,Tr.pO,Tr.j4 a,Tr.j4 b]
theorem Tr.of{α:Type}(f:Nat→Option α):∀ {t:Tr α},t.keys.map f=t.pO.map some→t.mB fun k v=>f k=some v
 | .l,_=>.l
 | .n a k v b,h=>by
  simp only[Tr.keys,Tr.pO,List.map_append,List.map_cons]at h
  obtain⟨h1,h2⟩:=List.append_inj h (by simp[Tr.j4])
  simp only[List.cons.injEq]at h2
  exact .n (Tr.of f h1) h2.1 (Tr.of f h2.2)
theorem Tr.uR{α:Type}(f:Nat→Bool):∀ {t:Tr α},t.keys.all f=true→t.mB fun k _=>f k=true
 | .l,_=>.l
 | .n a k v b,h=>by
  simp only[Tr.keys,List.all_append,List.all_cons,Bool.and_eq_true]at h
  exact .n (Tr.uR f h.1) h.2.1 (Tr.uR f h.2.2)
end
end
section
set_option maxRecDepth 100000
abbrev tq{α:Type}(k:Nat)(v:α):Tr α:=.n .l k v .l
def vK:Tr (Option Nat):=.n (.n (.n (.n (.n (.n (.n (tq 0 none) 1 none .l) 2 none (tq 3 none)) 4 none (.n (tq 5 none) 7 (some 4) (tq 9 none))) 12 none (.n (.n (.n (tq 13 (some 2)) 15 none .l) 16 none (tq 17 none)) 18 (some 1) (.n (tq 20 none) 21 none (tq 22 none)))) 23 none (.n (.n (.n (.n (tq 24 (some 3)) 25 (some 3) .l) 26 none (tq 27 none)) 28 none (.n (tq 29 none) 30 none (tq 31 none))) 32 none (.n (.n (.n (tq 33 (some 3)) 34 (some 3) .l) 35 none (tq 36 none)) 37 none (.n (tq 38 none) 39 none (tq 40 none))))) 41 none (.n (.n (.n (.n (.n (tq 42 none) 43 none .l) 44 (some 3) (tq 45 (some 3))) 46 none (.n (tq 47 none) 48 (some 3) (tq 49 (some 3)))) 50 none (.n (.n (.n (tq 51 none) 52 (some 2) .l) 53 (some 7) (tq 54 (some 7))) 55 none (.n (tq 56 none) 57 none (tq 58 none)))) 59 none (.n (.n (.n (.n (tq 60 none) 61 none .l) 62 (some 7) (tq 63 (some 7))) 64 none (.n (tq 65 none) 66 none (tq 67 none))) 68 none (.n (.n (tq 69 none) 70 none (tq 71 none)) 72 none (.n (tq 73 none) 74 none (tq 75 none)))))) 76 none (.n (.n (.n (.n (.n (.n (tq 77 (some 2)) 78 (some 2) .l) 79 none (tq 80 none)) 81 none (.n (tq 82 none) 83 (some 2) (tq 84 (some 2)))) 85 none (.n (.n (.n (tq 86 none) 87 none .l) 88 none (tq 89 (some 7))) 90 (some 7) (.n (tq 91 none) 92 none (tq 93 none)))) 94 none (.n (.n (.n (.n (tq 95 (some 5)) 96 (some 5) .l) 97 (some 2) (tq 98 none)) 99 none (.n (tq 100 none) 101 none (tq 102 none))) 103 none (.n (.n (tq 104 none) 105 none (tq 106 none)) 107 none (.n (tq 108 none) 109 none (tq 110 none))))) 111 none (.n (.n (.n (.n (.n (tq 112 none) 113 none .l) 114 none (tq 115 none)) 116 none (.n (tq 117 none) 118 none (tq 119 (some 3)))) 120 (some 3) (.n (.n (.n (tq 121 none) 122 none .l) 123 (some 24) (tq 124 none)) 125 none (.n (tq 126 none) 127 none (tq 128 none)))) 129 none (.n (.n (.n (.n (tq 130 none) 131 none .l) 132 (some 20) (tq 133 none)) 134 (some 65) (.n (tq 135 none) 136 none (tq 137 none))) 138 (some 32) (.n (.n (tq 139 (some 64)) 140 (some 4) (tq 142 (some 0))) 143 (some 0) (.n (tq 145 none) 148 none (tq 151 (some 11)))))))
def vN:Tr (Nat):=.n (.n (.n (.n (.n (.n (tq 700 0) 701 1 (tq 702 2)) 703 3 (.n (tq 1300 0) 1301 1 .l)) 1800 0 (.n (.n (tq 2400 0) 2401 1 .l) 2402 2 (.n (tq 2500 0) 2501 1 .l))) 2502 2 (.n (.n (.n (tq 3300 0) 3301 1 (tq 3302 2)) 3400 0 (.n (tq 3401 1) 3402 2 .l)) 4400 0 (.n (.n (tq 4401 1) 4402 2 .l) 4500 0 (.n (tq 4501 1) 4502 2 .l)))) 4800 0 (.n (.n (.n (.n (tq 4801 1) 4802 2 (tq 4900 0)) 4901 1 (.n (tq 4902 2) 5300 0 .l)) 5301 1 (.n (.n (tq 5302 2) 5303 4 .l) 5304 5 (.n (tq 5305 6) 5400 0 .l))) 5401 1 (.n (.n (.n (tq 5402 2) 5403 4 (tq 5404 5)) 5405 6 (.n (tq 6200 0) 6201 3 .l)) 6202 4 (.n (.n (tq 6203 5) 6204 6 .l) 6300 0 (.n (tq 6301 3) 6302 4 .l))))) 6303 5 (.n (.n (.n (.n (.n (tq 6304 6) 7700 0 (tq 7701 1)) 7800 0 (.n (tq 7801 1) 8300 0 .l)) 8301 1 (.n (.n (tq 8400 0) 8401 1 .l) 8900 0 (.n (tq 8901 3) 8902 4 .l))) 8903 5 (.n (.n (.n (tq 8904 6) 9000 0 (tq 9001 3)) 9002 4 (.n (tq 9003 5) 9004 6 .l)) 9500 0 (.n (.n (tq 9501 1) 9502 2 .l) 9503 3 (.n (tq 9504 4) 9600 0 .l)))) 9601 1 (.n (.n (.n (.n (tq 9602 2) 9603 3 (tq 9604 4)) 11900 0 (.n (tq 11901 1) 11902 2 .l)) 12000 0 (.n (.n (tq 12001 1) 12002 2 .l) 14000 0 (.n (tq 14001 1) 14002 2 .l))) 14003 3 (.n (.n (.n (tq 15100 0) 15101 1 .l) 15102 2 (.n (tq 15103 3) 15104 4 .l)) 15105 5 (.n (.n (tq 15106 6) 15107 7 .l) 15108 8 (.n (tq 15109 9) 15110 10 .l)))))
def vX:Tr (Nat×Nat):=.n (.n (.n (tq 22 (4,1)) 23 (54,7) .l) 26 (34,3) (.n (tq 37 (45,3)) 42 (49,3) .l)) 43 (3,1) (.n (.n (tq 47 (84,2)) 66 (43,1) .l) 76 (5,1) (tq 81 (9,1)))
def vL:Tr (List (Nat×Nat)×List Value):=.n (.n (.n (.n (tq 7 ([(0,1),(1,1),(2,1),(3,1)],[.int .i64 0,.int .i64 0,.bool false,.int .u8 0])) 13 ([(0,1),(1,1)],[.string ⟨#[]⟩,.int .u64 0]) (tq 18 ([(0,1)],[.pointer none]))) 24 ([(0,1),(1,1),(2,1)],[.int .i64 0,.slice none 0 0,.slice none 0 0]) (.n (tq 25 ([(0,1),(1,1),(2,1)],[.int .i64 0,.slice none 0 0,.slice none 0 0])) 33 ([(0,1),(1,1),(2,1)],[.int .i64 0,.int .i64 0,.int .i64 0]) (tq 34 ([(0,1),(1,1),(2,1)],[.int .i64 0,.int .i64 0,.int .i64 0])))) 44 ([(0,1),(1,1),(2,1)],[.int .i64 0,.slice none 0 0,.slice none 0 0]) (.n (.n (tq 45 ([(0,1),(1,1),(2,1)],[.int .i64 0,.slice none 0 0,.slice none 0 0])) 48 ([(0,1),(1,1),(2,1)],[.slice none 0 0,.bool false,.slice none 0 0]) (tq 49 ([(0,1),(1,1),(2,1)],[.slice none 0 0,.bool false,.slice none 0 0]))) 53 ([(0,1),(1,1),(2,2),(4,1),(5,1),(6,1)],[.int .i64 0,.int .i64 0,.int .i64 0,.int .i64 0,.int .i64 0,.int .i64 0,.int .i64 0]) (.n (tq 54 ([(0,1),(1,1),(2,2),(4,1),(5,1),(6,1)],[.int .i64 0,.int .i64 0,.int .i64 0,.int .i64 0,.int .i64 0,.int .i64 0,.int .i64 0])) 62 ([(0,3),(3,1),(4,1),(5,1),(6,1)],[.int .i64 0,.slice none 0 0,.slice none 0 0,.slice none 0 0,.int .i64 0,.slice none 0 0,.int .i64 0]) .l))) 63 ([(0,3),(3,1),(4,1),(5,1),(6,1)],[.int .i64 0,.slice none 0 0,.slice none 0 0,.slice none 0 0,.int .i64 0,.slice none 0 0,.int .i64 0]) (.n (.n (.n (tq 77 ([(0,1),(1,1)],[.pointer none,.slice none 0 0])) 78 ([(0,1),(1,1)],[.pointer none,.slice none 0 0]) (tq 83 ([(0,1),(1,1)],[.int .i64 0,.int .i64 0]))) 84 ([(0,1),(1,1)],[.int .i64 0,.int .i64 0]) (.n (tq 89 ([(0,3),(3,1),(4,1),(5,1),(6,1)],[.int .i64 0,.slice none 0 0,.slice none 0 0,.slice none 0 0,.int .i64 0,.nilFunc,.nilFunc])) 90 ([(0,3),(3,1),(4,1),(5,1),(6,1)],[.int .i64 0,.slice none 0 0,.slice none 0 0,.slice none 0 0,.int .i64 0,.nilFunc,.nilFunc]) .l)) 95 ([(0,1),(1,1),(2,1),(3,1),(4,1)],[.pointer none,.slice none 0 0,.slice none 0 0,.slice none 0 0,.map none]) (.n (.n (tq 96 ([(0,1),(1,1),(2,1),(3,1),(4,1)],[.pointer none,.slice none 0 0,.slice none 0 0,.slice none 0 0,.map none])) 119 ([(0,1),(1,1),(2,1)],[.slice none 0 0,.slice none 0 0,.slice none 0 0]) (tq 120 ([(0,1),(1,1),(2,1)],[.slice none 0 0,.slice none 0 0,.slice none 0 0]))) 140 ([(0,1),(1,1),(2,1),(3,1)],[.pointer none,.pointer none,.pointer none,.string ⟨#[]⟩]) (.n (tq 143 ([(0,0)],[])) 151 ([(0,1),(1,1),(2,1),(3,1),(4,1),(5,1),(6,1),(7,1),(8,1),(9,1),(10,1)],[.int .u64 0,.int .u64 0,.int .u32 0,.int .u8 0,.int .u8 0,.int .u8 0,.int .u8 0,.nilFunc,.pointer none,.int .i32 0,.int .i32 0]) .l)))
def vQ:Tr (Nat×Nat×List Value):=.n (.n (.n (tq 22 (4,1,[.bool false])) 23 (54,7,[.int .i64 0,.int .i64 0,.int .i64 0,.int .i64 0,.int .i64 0,.int .i64 0,.int .i64 0]) .l) 26 (34,3,[.int .i64 0,.int .i64 0,.int .i64 0]) (.n (tq 37 (45,3,[.int .i64 0,.slice none 0 0,.slice none 0 0])) 42 (49,3,[.slice none 0 0,.bool false,.slice none 0 0]) .l)) 43 (3,1,[.int .i64 0]) (.n (.n (tq 47 (84,2,[.int .i64 0,.int .i64 0])) 66 (43,1,[.slice none 0 0]) .l) 76 (5,1,[.int .u8 0]) (tq 81 (9,1,[.string ⟨#[]⟩])))
def vU:Tr (Nat×Nat×Nat×List Value):=.n (.n (.n (tq 22 (4,1,1,[.bool false])) 23 (54,7,56,[.int .i64 0,.int .i64 0,.int .i64 0,.int .i64 0,.int .i64 0,.int .i64 0,.int .i64 0]) .l) 26 (34,3,24,[.int .i64 0,.int .i64 0,.int .i64 0]) (.n (tq 37 (45,3,56,[.int .i64 0,.slice none 0 0,.slice none 0 0])) 42 (49,3,56,[.slice none 0 0,.bool false,.slice none 0 0]) .l)) 43 (3,1,8,[.int .i64 0]) (.n (.n (tq 47 (84,2,16,[.int .i64 0,.int .i64 0])) 66 (43,1,24,[.slice none 0 0]) .l) 76 (5,1,1,[.int .u8 0]) (tq 81 (9,1,16,[.string ⟨#[]⟩])))
def vS:Tr (List Value):=.n (.n (.n (.n (.n (.n (tq 2 [.int .i64 0]) 3 [.int .i64 0] .l) 4 [.bool false] (tq 5 [.int .u8 0])) 7 [.int .i64 0,.int .i64 0,.bool false,.int .u8 0] (.n (tq 9 [.string ⟨#[]⟩]) 12 [.int .u64 0] (tq 13 [.string ⟨#[]⟩,.int .u64 0]))) 15 [.pointer none] (.n (.n (.n (tq 16 [.pointer none]) 17 [.pointer none] .l) 18 [.pointer none] (tq 20 [.nilIface])) 21 [.int .i32 0] (.n (tq 22 [.slice none 0 0]) 23 [.slice none 0 0] (tq 24 [.int .i64 0,.slice none 0 0,.slice none 0 0])))) 25 [.int .i64 0,.slice none 0 0,.slice none 0 0] (.n (.n (.n (.n (tq 26 [.slice none 0 0]) 29 [.pointer none] .l) 30 [.int .i64 0] (tq 33 [.int .i64 0,.int .i64 0,.int .i64 0])) 34 [.int .i64 0,.int .i64 0,.int .i64 0] (.n (tq 37 [.slice none 0 0]) 42 [.slice none 0 0] (tq 43 [.slice none 0 0]))) 44 [.int .i64 0,.slice none 0 0,.slice none 0 0] (.n (.n (tq 45 [.int .i64 0,.slice none 0 0,.slice none 0 0]) 47 [.slice none 0 0] (tq 48 [.slice none 0 0,.bool false,.slice none 0 0])) 49 [.slice none 0 0,.bool false,.slice none 0 0] (.n (tq 52 [.int .i64 0,.int .i64 0]) 53 [.int .i64 0,.int .i64 0,.int .i64 0,.int .i64 0,.int .i64 0,.int .i64 0,.int .i64 0] (tq 54 [.int .i64 0,.int .i64 0,.int .i64 0,.int .i64 0,.int .i64 0,.int .i64 0,.int .i64 0]))))) 62 [.int .i64 0,.slice none 0 0,.slice none 0 0,.slice none 0 0,.int .i64 0,.slice none 0 0,.int .i64 0] (.n (.n (.n (.n (.n (tq 63 [.int .i64 0,.slice none 0 0,.slice none 0 0,.slice none 0 0,.int .i64 0,.slice none 0 0,.int .i64 0]) 66 [.slice none 0 0] .l) 75 [.pointer none] (tq 76 [.slice none 0 0])) 77 [.pointer none,.slice none 0 0] (.n (tq 78 [.pointer none,.slice none 0 0]) 81 [.slice none 0 0] (tq 83 [.int .i64 0,.int .i64 0]))) 84 [.int .i64 0,.int .i64 0] (.n (.n (tq 89 [.int .i64 0,.slice none 0 0,.slice none 0 0,.slice none 0 0,.int .i64 0,.nilFunc,.nilFunc]) 90 [.int .i64 0,.slice none 0 0,.slice none 0 0,.slice none 0 0,.int .i64 0,.nilFunc,.nilFunc] (tq 94 [.map none])) 95 [.pointer none,.slice none 0 0,.slice none 0 0,.slice none 0 0,.map none] (.n (tq 96 [.pointer none,.slice none 0 0,.slice none 0 0,.slice none 0 0,.map none]) 97 [.nilFunc,.nilFunc] (tq 99 [.pointer none])))) 101 [.nilIface] (.n (.n (.n (.n (tq 102 [.nilIface]) 108 [.pointer none] .l) 109 [.pointer none] (tq 119 [.slice none 0 0,.slice none 0 0,.slice none 0 0])) 120 [.slice none 0 0,.slice none 0 0,.slice none 0 0] (.n (tq 121 [.pointer none]) 123 [.int .u8 0,.int .u8 0,.int .u8 0,.int .u8 0,.int .u8 0,.int .u8 0,.int .u8 0,.int .u8 0,.int .u8 0,.int .u8 0,.int .u8 0,.int .u8 0,.int .u8 0,.int .u8 0,.int .u8 0,.int .u8 0,.int .u8 0,.int .u8 0,.int .u8 0,.int .u8 0,.int .u8 0,.int .u8 0,.int .u8 0,.int .u8 0] (tq 124 [.int .u64 0]))) 132 [.int .u64 0,.int .u64 0,.int .u64 0,.int .u64 0,.int .u64 0,.int .u64 0,.int .u64 0,.int .u64 0,.int .u64 0,.int .u64 0,.int .u64 0,.int .u64 0,.int .u64 0,.int .u64 0,.int .u64 0,.int .u64 0,.int .u64 0,.int .u64 0,.int .u64 0,.int .u64 0] (.n (.n (tq 133 [.int .u32 0]) 135 [.int .u64 0] (tq 138 [.int .u8 0,.int .u8 0,.int .u8 0,.int .u8 0,.int .u8 0,.int .u8 0,.int .u8 0,.int .u8 0,.int .u8 0,.int .u8 0,.int .u8 0,.int .u8 0,.int .u8 0,.int .u8 0,.int .u8 0,.int .u8 0,.int .u8 0,.int .u8 0,.int .u8 0,.int .u8 0,.int .u8 0,.int .u8 0,.int .u8 0,.int .u8 0,.int .u8 0,.int .u8 0,.int .u8 0,.int .u8 0,.int .u8 0,.int .u8 0,.int .u8 0,.int .u8 0])) 140 [.pointer none,.pointer none,.pointer none,.string ⟨#[]⟩] (.n (tq 142 []) 143 [] (tq 151 [.int .u64 0,.int .u64 0,.int .u32 0,.int .u8 0,.int .u8 0,.int .u8 0,.int .u8 0,.nilFunc,.pointer none,.int .i32 0,.int .i32 0])))))
def vZ:Tr (Unit):=tq 4 ()
def vO:Tr (Unit):=.n (.n (.n (tq 15 ()) 16 () .l) 17 () (tq 29 ())) 75 () (.n (tq 99 ()) 108 () (tq 109 ()))
def vR:Tr (Nat×Nat):=.n (.n (.n (tq 52 (2,1)) 97 (2,1) .l) 123 (24,1) (tq 132 (20,1))) 134 (65,1) (.n (tq 138 (32,1)) 139 (64,1) (tq 142 (0,1)))
def vV:Tr (Unit):=.n (.n (.n (.n (.n (.n (tq 2 ()) 3 () .l) 4 () (.n (tq 5 ()) 6 () .l)) 7 () (.n (.n (tq 8 ()) 9 () .l) 10 () (tq 11 ()))) 12 () (.n (.n (.n (tq 13 ()) 14 () .l) 15 () (tq 16 ())) 17 () (.n (.n (tq 18 ()) 19 () .l) 20 () (tq 21 ())))) 22 () (.n (.n (.n (.n (tq 23 ()) 24 () .l) 25 () (tq 26 ())) 27 () (.n (.n (tq 28 ()) 29 () .l) 30 () (tq 31 ()))) 32 () (.n (.n (.n (tq 33 ()) 34 () .l) 35 () (tq 36 ())) 37 () (.n (.n (tq 38 ()) 39 () .l) 40 () (tq 41 ()))))) 42 () (.n (.n (.n (.n (.n (tq 43 ()) 44 () .l) 45 () (.n (tq 46 ()) 47 () .l)) 48 () (.n (.n (tq 49 ()) 50 () .l) 51 () (tq 52 ()))) 53 () (.n (.n (.n (tq 54 ()) 55 () .l) 56 () (tq 57 ())) 58 () (.n (.n (tq 59 ()) 60 () .l) 61 () (tq 62 ())))) 63 () (.n (.n (.n (.n (tq 64 ()) 65 () .l) 66 () (tq 67 ())) 69 () (.n (.n (tq 70 ()) 71 () .l) 72 () (tq 73 ()))) 74 () (.n (.n (.n (tq 75 ()) 77 () .l) 78 () (tq 79 ())) 80 () (.n (.n (tq 81 ()) 82 () .l) 83 () (tq 108 ())))))
def facts:kq:=⟨vK,vN,vX,vL,vQ,vU,vS,vZ,vO,vR,vV⟩
theorem bB:kq.Ok Tryd.prog facts:=⟨Tr.of (kA Tryd.prog) (by kernel_rfl),Tr.of (fun k=>eQ Tryd.prog (k / 100) (k % 100)) (by kernel_rfl),Tr.of (sh Tryd.prog) (by kernel_rfl),Tr.of (vj Tryd.prog) (by kernel_rfl),Tr.of (uf Tryd.prog) (by kernel_rfl),Tr.of (oA Tryd.prog) (by kernel_rfl),Tr.of (o6 Tryd.prog) (by kernel_rfl),Tr.uR (kV Tryd.prog) (by kernel_rfl),Tr.uR (kD Tryd.prog) (by kernel_rfl),Tr.of (uM Tryd.prog) (by kernel_rfl),Tr.uR (enters Tryd.prog) (by kernel_rfl)⟩
instance:Has Tryd.prog facts:=⟨bB⟩
theorem mixed:Tryd.prog.follows .mixedOrders=true:=by kernel_rfl
end
end PW
end Go.Proofs.YteikppbedmmdnaaDoor
namespace Go.Proofs.YteikppbedmmdnaaDoor
namespace Net
section
open Go
structure fw where
 a:Int
 b:Int
 c0:Int
 c1:Int
 cap:Int
 nw:Int
 vd:Int
def fw.zero:fw:=⟨0,0,0,0,0,0,0⟩
structure au where
 nodes:Int
 over:List Bool
 aa:List fw
def eD(L:List fw)(i:Nat):fw:=L.getD i fw.zero
def aE(T:au)(a:Nat):Int:=if a % 2=0 then(eD T.aa (a / 2)).a else(eD T.aa (a / 2)).b
def flip(a:Nat):Nat:=if a % 2=0 then a+1 else a - 1
def aA(T:au)(a:Nat):Int:=aE T (flip a)
def bg(T:au)(a:Nat):Int:=if a % 2=0 then(eD T.aa (a / 2)).c0 else(eD T.aa (a / 2)).c1
def cU(T:au)(n:Nat):Bool:=T.over.getD n false
def bL(T:au)(n:Int):Bool:=decide (0≤n∧n<T.nodes)
def kC(T:au)(a:Int):Bool:=decide (0≤a∧a<2*(T.aa.length:Int))
def b8(T:au)(down:List Bool):Bool:=decide (down.length=0∨down.length=2*T.aa.length)
def db(down:List Bool)(a:Nat):Bool:=down.getD a false
def bG(n lo hi:Int):Bool:=decide (lo≤n∧n≤hi)
def eh(T:au)(l:fw):Bool:=
 !(l.a==l.b)&&bL T l.a&&bL T l.b&&bG l.c0 1 65535&&bG l.c1 1 65535&&bG l.cap 0 1048576&&bG l.nw 1 65536&&bG l.vd 0 64
def aW(T:au):Bool:=
 bG T.nodes 1 64&&decide (T.aa.length≤256)&&(decide (T.over.length=0)||decide ((T.over.length:Int)=T.nodes))&&T.aa.all (eh T)
theorem su(p:fw→Bool)(L:List fw)(k:Nat)(hk:k<L.length):(L.take (k+1)).all p=((L.take k).all p&&p (eD L k)):=by
 rw[List.take_succ_eq_append_getElem hk,List.all_append]
 simp[eD,hk]
theorem rH(p:fw→Bool)(L:List fw)(k:Nat)(hk:k<L.length)(h:p (eD L k)=false):L.all p=false:=by
 rw[Bool.eq_false_iff]
 intro ha
 have:=List.all_eq_true.1 ha (eD L k) (by simp[eD,hk])
 rw[h]at this
 cases this
theorem gL(T:au)(h:bG T.nodes 1 64=false∨256<T.aa.length∨(T.over.length≠0∧(T.over.length:Int)≠T.nodes)):false=aW T:=by
 unfold aW
 rcases h with h|h|⟨h1,h2⟩
 ·simp[h]
 ·have:decide (T.aa.length≤256)=false:=by simp;omega
  simp[this]
 ·simp[h1,h2]
theorem oq(T:au)(h1:bG T.nodes 1 64=true)(h2:T.aa.length≤256)(h3:T.over.length=0∨(T.over.length:Int)=T.nodes):aW T=T.aa.all (eh T):=by
 unfold aW
 rcases h3 with h3|h3<;>simp[h1,h2,h3]
theorem qH{T:au}{l:fw}{q1 q2 q3 q4 q5 q6 q7 q8:Bool}(g1:(l.a==l.b)=q1)(g2:bL T l.a=q2)(g3:bL T l.b=q3)(g4:bG l.c0 1 65535=q4)(g5:bG l.c1 1 65535=q5)(g6:bG l.cap 0 1048576=q6)(g7:bG l.nw 1 65536=q7)(g8:bG l.vd 0 64=q8):
  eh T l=(!q1 &&q2&&q3&&q4&&q5&&q6&&q7&&q8):=by subst g1 g2 g3 g4 g5 g6 g7 g8;rfl
theorem l5{n lo hi:Int}(h:bG n lo hi=true):lo≤n∧n≤hi:=by simpa[bG]using h
theorem cr{T:au}(h:aW T=true):1≤T.nodes∧T.nodes≤64∧T.aa.length≤256∧(T.over.length=0∨(T.over.length:Int)=T.nodes):=by
 unfold aW at h
 simp only[Bool.and_eq_true,Bool.or_eq_true,decide_eq_true_eq]at h
 obtain⟨⟨⟨h1,h2⟩,h3⟩,_⟩:=h
 have:=l5 h1
 exact⟨this.1,this.2,h2,h3⟩
theorem oh{T:au}(h:aW T=true)(i:Nat)(hi:i<T.aa.length):eh T (eD T.aa i)=true:=by
 unfold aW at h
 simp only[Bool.and_eq_true]at h
 exact List.all_eq_true.1 h.2 _ (by simp[eD,hi])
def fr(T:au)(n:Int)(k:Nat):List Int:=((List.range k).filter fun a=>aE T a==n).map Int.ofNat
def b6(T:au)(n:Int):List Int:=fr T n (2*T.aa.length)
theorem pQ(T:au)(n:Int)(k:Nat)(h:(aE T k==n)=true):fr T n (k+1)=fr T n k++[(k:Int)]:=by
 simp[fr,List.range_succ,List.filter_append,h]
theorem rK(T:au)(n:Int)(k:Nat)(h:(aE T k==n)=false):fr T n (k+1)=fr T n k:=by
 simp[fr,List.range_succ,List.filter_append,h]
theorem eT(T:au)(n:Int)(k:Nat):(fr T n k).length≤k:=by
 simp only[fr,List.length_map]
 exact Nat.le_trans (List.length_filter_le _ _) (by simp)
def iD(L M:List Int):Bool:=decide (L=M)
theorem sC(L M:List Int)(h:L.length≠M.length):false=iD L M:=by
 unfold iD;symm;exact decide_eq_false fun e=>h (by rw[e])
theorem tJ(L M:List Int)(k:Nat)(h:L.getD k 0≠M.getD k 0):false=iD L M:=by
 unfold iD;symm;exact decide_eq_false fun e=>h (by rw[e])
theorem rL(L M:List Int)(hM:M.length=L.length)(h:∀i,i<L.length→L.getD i 0=M.getD i 0):true=iD L M:=by
 unfold iD;symm
 refine decide_eq_true (List.ext_getElem hM.symm fun i h1 h2=>?_)
 have:=h i h1
 simpa[h1,h2]using this
theorem tb(a:Nat)(ha:a<9223372036854775806):bits .xor .i64 (a:Int) 1=(flip a:Int):=by
 have h1:(a ^^^ 1) / 2=a / 2:=by rw[Nat.xor_div_two];simp
 have h2:((a ^^^ 1) % 2=1)↔¬((a % 2=1)↔(1 % 2=1)):=Nat.xor_mod_two_eq_one
 have h3:a ^^^ 1=flip a:=by unfold flip;split<;>omega
 have e1:(BitVec.ofInt 64 (a:Int)).toNat=a:=by rw[BitVec.ofInt_natCast,BitVec.toNat_ofNat];exact Nat.mod_eq_of_lt (by omega)
 have e2:(BitVec.ofInt 64 (1:Int)).toNat=1:=by decide
 show IntKind.i64.wrap ((BitVec.ofInt 64 (a:Int) ^^^ BitVec.ofInt 64 (1:Int)).toNat:Int)=_
 rw[BitVec.toNat_xor,e1,e2,h3]
 exact IntWalk.i64_in _ (by unfold flip;split<;>omega)
end
end Net
end Go.Proofs.YteikppbedmmdnaaDoor
namespace Go.Proofs.YteikppbedmmdnaaDoor
namespace PW
section
open Go.RowKit cX Mem Net
abbrev num(n:Int):PV:=.raw (.int .i64 n)
abbrev flag(b:Bool):PV:=.raw (.bool b)
theorem c7{α:Type}{L:List α}{i:Nat}{d:α}(h:i<L.length):L.getD i d∈L:=by
 have:L.getD i d=L[i]:=by simp[h]
 rw[this];exact List.getElem_mem h
theorem ef{α:Type}(L:List α)(i:Nat)(d:α)(h:i<L.length):L.take (i+1)=L.take i++[L.getD i d]:=by
 rw[List.take_add_one];simp[h]
def aI(L:List Int):List PV:=L.map fun n=>.raw (.int .i64 n)
def aT(L:List Bool):List PV:=L.map fun b=>.raw (.bool b)
def aL(L:List Int):PV:=.slice L.length (aI L)
def br(L:List Bool):PV:=.slice L.length (aT L)
def eS(l:fw):List PV:=[.raw (.int .i64 l.a),.raw (.int .i64 l.b),.raw (.int .i64 l.c0),.raw (.int .i64 l.c1),.raw (.int .i64 l.cap),.raw (.int .i64 l.nw),.raw (.int .i64 l.vd)]
def bA(L:List fw):List PV:=L.flatMap eS
def da(T:au):List PV:=[.raw (.int .i64 T.nodes),br T.over,.slice T.aa.length (bA T.aa)]
def bI(T:au):PV:=.agg (da T)
instance (L:List Int):av (aI L):=av.map _ _ fun _=>inferInstance
instance (L:List Bool):av (aT L):=av.map _ _ fun _=>inferInstance
instance (L:List Int):bV (aI L):=bV.map _ _ fun _=>inferInstance
instance (L:List Bool):bV (aT L):=bV.map _ _ fun _=>inferInstance
instance (l:fw):av (eS l):=by unfold eS;infer_instance
instance (l:fw):bV (eS l):=by unfold eS;infer_instance
instance (L:List fw):av (bA L):=av.flatMap _ _ fun _=>inferInstance
instance (L:List fw):bV (bA L):=bV.flatMap _ _ fun _=>inferInstance
instance (L:List Int):IsPure (aL L):=by unfold aL;infer_instance
instance (L:List Bool):IsPure (br L):=by unfold br;infer_instance
instance (T:au):av (da T):=by unfold da;infer_instance
instance (T:au):IsPure (bI T):=by unfold bI;infer_instance
instance (L:List Int):dj (aL L):=by unfold aL;infer_instance
theorem ja(L:List fw):(bA L).length=L.length*7:=by
 induction L with
 |nil=>rfl
 |cons l L ih=>simp only[bA,List.flatMap_cons,List.length_append,List.length_cons]at*;rw[ih];simp[eS];omega
theorem aN(L:List Int)(i:Nat)(h:i<L.length):(aI L)[i]? =some (.raw (.int .i64 (L.getD i 0))):=by simp[aI,h]
theorem fg(L:List Bool)(i:Nat)(h:i<L.length):(aT L)[i]? =some (.raw (.bool (L.getD i false))):=by simp[aT,h]
theorem dL(L:List Int)(n:Int):aI L++[.raw (.int .i64 n)]=aI (L++[n]):=by simp[aI]
theorem pY(L:List Int)(i:Nat)(n:Int)(h:i<L.length):over (aI L) i [.raw (.int .i64 n)]=aI (L.set i n):=by
 unfold over aI
 rw[List.map_set,List.set_eq_take_append_cons_drop,if_pos (by simpa using h)]
 simp
theorem oC(L:List Bool)(i:Nat)(n:Bool)(h:i<L.length):over (aT L) i [.raw (.bool n)]=aT (L.set i n):=by
 unfold over aT
 rw[List.map_set,List.set_eq_take_append_cons_drop,if_pos (by simpa using h)]
 simp
theorem aG.mono{P:Program}{f:FuncId}{ps:List PV}{σ:ba}{R R':PV→ba→Prop}(h:aG P f ps σ R)(hr:∀r σ',R r σ'→R' r σ'):aG P f ps σ R':=fun F base E w vs hS hR=>
 (h F base E w vs hS hR).mono fun _ _ ⟨v,r,σ',E',h1,h2,h3⟩=>⟨v,r,σ',E',h1,hr r σ' h2,h3⟩
theorem bu{P:Program}{σ:ba}{t:bo}{o:Oper}{ty e n:Nat}{x y:Operand}{i j:Nat}{c:Int}{L:List Int}(ho:o.op= .store ty x y)(hk:kA P ty=some none)(hx:aj t x=some (.ptr i j))(hy:aj t y=some (num c))(hi:σ[i]? =some (some (.row e 1 n (aI L))))(hj:j<L.length):
  dN P σ t o (.raw undef) (σ.set i (some (.row e 1 n (aI (L.set j c))))):=by
 have:=dy ho hk hx hy hi (by show j<(aI L).length;simpa[aI]using hj)
 have he:cy.lK (.row e 1 n (aI L)) (over (cy.xs (.row e 1 n (aI L))) j [num c])= .row e 1 n (aI (L.set j c)):=by
  show cy.row e 1 n (over (aI L) j [num c])=_
  rw[pY L j c hj]
 rw[he]at this
 exact this
theorem bm{P:Program}{σ:ba}{t:bo}{o:Oper}{ty e n:Nat}{x y:Operand}{i j:Nat}{c:Bool}{L:List Bool}(ho:o.op= .store ty x y)(hk:kA P ty=some none)(hx:aj t x=some (.ptr i j))(hy:aj t y=some (flag c))(hi:σ[i]? =some (some (.row e 1 n (aT L))))(hj:j<L.length):
  dN P σ t o (.raw undef) (σ.set i (some (.row e 1 n (aT (L.set j c))))):=by
 have:=dy ho hk hx hy hi (by show j<(aT L).length;simpa[aT]using hj)
 have he:cy.lK (.row e 1 n (aT L)) (over (cy.xs (.row e 1 n (aT L))) j [flag c])= .row e 1 n (aT (L.set j c)):=by
  show cy.row e 1 n (over (aT L) j [flag c])=_
  rw[oC L j c hj]
 rw[he]at this
 exact this
theorem bN(n:Nat):cz [.raw (.int .i64 0)] n=aI (List.replicate n 0):=by
 induction n with
 |zero=>rfl
 |succ n ih=>simp only[cz,ih,List.replicate_succ,aI];rfl
theorem jr(n:Nat):cz [.raw (.bool false)] n=aT (List.replicate n false):=by
 induction n with
 |zero=>rfl
 |succ n ih=>simp only[cz,ih,List.replicate_succ,aT];rfl
theorem fV(L:List fw)(i j:Nat)(hi:i<L.length)(hj:j<7):(bA L)[i*7+j]? =(eS (eD L i))[j]? :=by
 induction L generalizing i with
 |nil=>simp at hi
 |cons l L ih=>
  cases i with
  |zero=>
   simp only[bA,List.flatMap_cons,Nat.zero_mul,Nat.zero_add]
   rw[List.getElem?_append_left (by simp[eS];omega)]
   rfl
  |succ i=>
   have:=ih i (by simpa using hi)
   simp only[bA,List.flatMap_cons]at*
   rw[List.getElem?_append_right (by simp[eS];omega)]
   rw[show(i+1)*7+j - (eS l).length=i*7+j by simp[eS];omega]
   rw[this]
   rfl
theorem jI{E:Env}{w:World}{v u:Value}(h:bK E w v (.raw u)):v=u:=by cases h;rfl
theorem u0{E:Env}{w:World}{vs:Array Value}{p:PV}(h:aB E w vs.toList [p]):∃v,vs= #[v]∧bK E w v p:=by
 obtain⟨l⟩:=vs
 match l,h with
 | [v],h=>exact⟨v,rfl,h.jK.1⟩
 | [],h=>simp[aB]at h
 |_::_::_,h=>simp[aB]at h
theorem uZ{E:Env}{w:World}{vs:Array Value}{p q:PV}(h:aB E w vs.toList [p,q]):∃v u,vs= #[v,u]∧bK E w v p∧bK E w u q:=by
 obtain⟨l⟩:=vs
 match l,h with
 | [v,u],h=>exact⟨v,u,rfl,h.jK.1,h.jK.2.jK.1⟩
 | [],h=>simp[aB]at h
 | [_],h=>simp[aB]at h
 |_::_::_::_,h=>simp[aB]at h
end
end PW
end Go.Proofs.YteikppbedmmdnaaDoor
namespace Go.Proofs.YteikppbedmmdnaaDoor
namespace PW
open Go.RowKit cX Mem
open Go.Deep
section
variable {P:Program} {H:Type} {enc:TypeId×Value→H} {W:World}
abbrev EN:Env:=EF fun _=>False
theorem gQ{α:Type}{f:α→List PV}{s:Nat}{t e:TypeId}{fuel:Nat}{v:Value}{x:DataW H×List MemPlace}(ht:P.underlying t=some (.slice e))(hc:P.cellsOf e=s)(hs0:0<s)
  (hel:∀n cs y,DataW.trod enc P W 0 (fun _=>true) true n e cs=some y→cs.length=s→∃a,aB EN W cs (f a))
  (h:DataW.trod enc P W 0 (fun _=>true) true fuel t [v]=some x):∃L:List α,bK EN W v (.slice L.length (L.flatMap f)):=by
 rcases open_slice ht h with⟨hcs,_⟩|⟨a,len,cap,m,n,D,Pl,hcs,_,hl,hm,hmm,_,hx⟩
 ·simp at hcs;subst hcs
  exact⟨[],.cd⟩
 ·simp at hcs;subst hcs
  rw[hc]at hx
  simp only[if_true]at hmm
  subst hmm
  have hall:∀k,k≤len→∃(L:List α) (cs:List Value),L.length=k∧cs.length=k*s∧aB EN W cs (L.flatMap f)∧∀(i:Nat) u,cs[i]? =some u→W.cell? (a.add i)=some u:=by
   intro k
   induction k with
   |zero=>intro _;exact⟨[],[],rfl,by simp,aB.nil _ _,fun i u h=>by simp at h⟩
   |succ k ih=>
    intro hk
    obtain⟨L,cs,h1,h2,h3,h4⟩:=ih (by omega)
    obtain⟨cs',h5,h6⟩:=hx k (by omega)
    obtain⟨_,hlen,hget⟩:=World.cells?_some h5
    obtain⟨b,hb⟩:=hel n cs' _ h6 hlen
    refine⟨L++[b],cs++cs',by simp[h1],by rw[List.length_append,h2,hlen,Nat.succ_mul],by rw[List.flatMap_append];simpa using h3.append hb,fun i u hu=>?_⟩
    by_cases hi:i<cs.length
    ·rw[List.getElem?_append_left hi]at hu;exact h4 i u hu
    ·rw[List.getElem?_append_right (by omega)]at hu
     have hj:i - cs.length<s:=by have:=(List.getElem?_eq_some_iff.1 hu).1;omega
     have:=hget (i - cs.length) hj
     rw[hu]at this
     rw[←this]
     rw[Addr.add_add]
     congr 2
     omega
  obtain⟨L,cs,h1,h2,h3,h4⟩:=hall len (Nat.le_refl _)
  by_cases h0:len=0
  ·subst h0
   have:L=[]:=List.eq_nil_of_length_eq_zero h1
   subst this
   exact⟨[],.empty _ _ hm⟩
  ·obtain⟨b,off,spot⟩:=a
   have hlt:0<cs.length:=by rw[h2];exact Nat.mul_pos (by omega) hs0
   have hc0:=h4 0 cs[0] (by simp[hlt])
   have hspot:spot=none:=by simpa[Addr.add]using World.cell?_spot hc0
   subst hspot
   have hbs:b<W.heap.size:=by
    unfold World.cell? at hc0
    split at hc0
    ·rename_i hh;exact(Array.getElem?_eq_some_iff.1 hh).1
    ·cases hc0
   refine⟨L,?_⟩
   rw[h1]
   exact .slice b off len _ cs _ (by omega) hl hm hbs (fun hf=>hf) (fun i u hu=>by have:=h4 i u hu;rw[Addr.add_lit]at this;exact this) h3.1 h3.2
end
end PW
end Go.Proofs.YteikppbedmmdnaaDoor
namespace Go.Proofs.YteikppbedmmdnaaDoor
namespace PW
section
open Go.RowKit cX Mem Net
section
variable {H:Type} {enc:TypeId×Value→H} {W:World}
theorem dY{n:Nat}{cs:List Value}{y:DataW H×List MemPlace}(h:DataW.trod enc Tryd.prog W 0 (fun _=>true) true n 3 cs=some y):∃a:Int,cs=[.int .i64 a]:=by
 obtain⟨a,h1,_⟩:=DataW.trod_int Tryd.underlying3 h
 exact⟨a,h1⟩
theorem jl{α:Type}(f:α→PV)(l:List α):l.flatMap (fun a=>[f a])=l.map f:=by induction l with
 |nil=>rfl
 |cons a l ih=>simp[ih]
theorem vk{n:Nat}{v:Value}{y:DataW H×List MemPlace}(h:DataW.trod enc Tryd.prog W 0 (fun _=>true) true n 43 [v]=some y):∃L,bK EN W v (aL L):=by
 obtain⟨L,hL⟩:=gQ (f:=fun a:Int=>[PV.raw (.int .i64 a)]) (s:=1) Tryd.underlying43 (by kernel_rfl) (by omega) (fun n cs y hy _=>by
  obtain⟨a,rfl⟩:=dY hy
  exact⟨a,aB.one (.raw _)⟩) h
 refine⟨L,?_⟩
 rw[jl]at hL
 exact hL
theorem na{n:Nat}{v:Value}{y:DataW H×List MemPlace}(h:DataW.trod enc Tryd.prog W 0 (fun _=>true) true n 22 [v]=some y):∃L,bK EN W v (br L):=by
 obtain⟨L,hL⟩:=gQ (f:=fun a:Bool=>[PV.raw (.bool a)]) (s:=1) Tryd.underlying22 (by kernel_rfl) (by omega) (fun n cs y hy _=>by
  obtain⟨a,rfl,_⟩:=DataW.trod_bool Tryd.underlying4 hy
  exact⟨a,aB.one (.raw _)⟩) h
 refine⟨L,?_⟩
 rw[jl]at hL
 exact hL
theorem s7{n:Nat}{cs:List Value}{y:DataW H×List MemPlace}(h:DataW.trod enc Tryd.prog W 0 (fun _=>true) true n 54 cs=some y)(hl:cs.length=7):∃l:fw,aB EN W cs (eS l):=by
 have c3:Tryd.prog.cellsOf 3=1:=by kernel_rfl
 have c54:Tryd.prog.cellsOf 52=2:=by kernel_rfl
 obtain⟨xs,m,_,_,_,hlen,hf⟩:=DataW.trod_struct Tryd.underlying54 h
 match cs,hl with
 | [c0,c1,c2,c3',c4,c5,c6],_=>
  match xs,hlen with
  | [y0,y1,y2,y3,y4,y5],_=>
   have f0:DataW.trod enc Tryd.prog W 0 (fun _=>true) true m 3 (([c0,c1,c2,c3',c4,c5,c6].drop 0).take (Tryd.prog.cellsOf 3))=some y0:=hf 0 _ rfl
   rw[c3]at f0
   have f1:DataW.trod enc Tryd.prog W 0 (fun _=>true) true m 3 (([c0,c1,c2,c3',c4,c5,c6].drop 1).take (Tryd.prog.cellsOf 3))=some y1:=hf 1 _ rfl
   rw[c3]at f1
   have f2:DataW.trod enc Tryd.prog W 0 (fun _=>true) true m 52 (([c0,c1,c2,c3',c4,c5,c6].drop 2).take (Tryd.prog.cellsOf 52))=some y2:=hf 2 _ rfl
   rw[c54]at f2
   have f3:DataW.trod enc Tryd.prog W 0 (fun _=>true) true m 3 (([c0,c1,c2,c3',c4,c5,c6].drop 4).take (Tryd.prog.cellsOf 3))=some y3:=hf 3 _ rfl
   rw[c3]at f3
   have f4:DataW.trod enc Tryd.prog W 0 (fun _=>true) true m 3 (([c0,c1,c2,c3',c4,c5,c6].drop 5).take (Tryd.prog.cellsOf 3))=some y4:=hf 4 _ rfl
   rw[c3]at f4
   have f5:DataW.trod enc Tryd.prog W 0 (fun _=>true) true m 3 (([c0,c1,c2,c3',c4,c5,c6].drop 6).take (Tryd.prog.cellsOf 3))=some y5:=hf 5 _ rfl
   rw[c3]at f5
   obtain⟨a0,h0⟩:=dY f0
   obtain⟨a1,h1⟩:=dY f1
   obtain⟨a3,h3⟩:=dY f3
   obtain⟨a4,h4⟩:=dY f4
   obtain⟨a5,h5⟩:=dY f5
   obtain⟨zs,m2,_,_,_,hz,hg⟩:=DataW.trod_array Tryd.underlying52 f2
   match zs,hz with
   | [z0,z1],_=>
    have g0:=hg 0 (by omega)
    have g1:=hg 1 (by omega)
    rw[c3]at g0 g1
    obtain⟨b0,k0⟩:=dY g0
    obtain⟨b1,k1⟩:=dY g1
    simp at h0 h1 h3 h4 h5 k0 k1
    subst h0 h1 h3 h4 h5 k0 k1
    exact⟨⟨a0,a1,b0,b1,a3,a4,a5⟩,aB.cons (.raw _)<|aB.cons (.raw _)<|aB.cons (.raw _)<|aB.cons (.raw _)<|aB.cons (.raw _)<|aB.cons (.raw _)<|aB.cons (.raw _) (aB.nil _ _)⟩
theorem tI{base:Nat}{v:Value}{d:DataW H}{p:List MemPlace}(hv:Value.okWide Tryd.prog W .any base 25 v)(h:DataW.Trod enc Tryd.prog W 0 (fun _=>true) true 25 v d p):∃T,bK EN W v (bI T):=by
 obtain⟨v0,v1,v2,y0,y1,y2,n,rfl,_,_,h0,h1,h2⟩:=Joins.open_agg3 Tryd.underlying25 (by kernel_rfl) (by kernel_rfl) hv h
 obtain⟨a,ha⟩:=dY h0
 obtain⟨B,hB⟩:=na h1
 obtain⟨L,hL⟩:=gQ (f:=eS) (s:=7) Tryd.underlying23 (by kernel_rfl) (by omega) (fun n cs y hy hl=>s7 hy hl) h2
 cases ha
 refine⟨⟨a,B,L⟩,.agg #[_,v1,v2] _ rfl (fun i x u k1 k2=>?_)⟩
 match i,k1,k2 with
 |0,k1,k2=>cases k1;cases k2;exact .raw _
 |1,k1,k2=>cases k1;cases k2;exact hB
 |2,k1,k2=>cases k1;cases k2;exact hL
 |_+3,_,k2=>simp[da]at k2
end
end
end PW
end Go.Proofs.YteikppbedmmdnaaDoor
namespace Go.Proofs.YteikppbedmmdnaaDoor
namespace PW
open Go.ChangeShapes Go.WideShapes Go.ChangeAt Go.RowKit
open Go.Joins cX Mem
theorem own:ownKnob Tryd.prog.godebug=none:=by kernel_rfl
theorem laidOut:laidOutB Tryd.prog=true:=by kernel_rfl
theorem pL{H:Type}{enc:TypeId×Value→H}{W:World}{t:TypeId}{v:Value}{d:DataW H}{p:List MemPlace}(h:DataW.Trod enc Tryd.prog W 0 (fun _=>true) true t v d p):∀x∈p,x.block<W.heap.size:=by
 obtain⟨m,hm⟩:=h;exact DataW.trod_lt m _ _ _ hm
set_option maxRecDepth 100000 in
theorem tg{H:Type}{enc:TypeId×Value→H}{W:World}{base:Nat}{v:Value}{d:DataW H}{p:List MemPlace}(hv:Value.okWide Tryd.prog W .any base 3 v)(h:DataW.Trod enc Tryd.prog W 0 (fun _=>true) true 3 v d p):
  ∃a,bK EN W v (num a):=by
 obtain⟨n,rfl,_,_,hw⟩:=open_int Tryd.underlying3 hv h
 exact⟨n,.raw _⟩
set_option maxRecDepth 100000 in
theorem qB{H:Type}{enc:TypeId×Value→H}{W:World}{base:Nat}{v:Value}{d:DataW H}{p:List MemPlace}(hv:Value.okWide Tryd.prog W .any base 22 v)(h:DataW.Trod enc Tryd.prog W 0 (fun _=>true) true 22 v d p):
  ∃L,bK EN W v (br L):=by
 obtain⟨a,len,cap,rfl⟩:=okWide_slice Tryd.underlying22 hv
 obtain⟨fuel,hf⟩:=h
 exact na hf
end PW
end Go.Proofs.YteikppbedmmdnaaDoor
namespace Go.Proofs.YteikppbedmmdnaaDoor
namespace PW
section
open Go.RowKit cX Mem
theorem nc{P:Program}{x:String×DataW Unit}{r:List (String×DataW Unit)}{W:World}(h:laidMet P (x::r) W):laidMet P r W:=by
 obtain⟨ps,⟨g,t,cs,fuel,p,q,_,_,_,_,hr,rfl⟩,hn,hc⟩:=h
 exact⟨q,hr,(List.nodup_append.1 hn).2.1,fun b off hm=>hc b off (List.mem_append.2 (.inr hm))⟩
theorem fM{P:Program}{W:World}{name:String}{k:IntKind}{zs:List Int}{g:Nat}(hg:P.globalNamed name=some g)(h:Lib.TabIs P W name k zs):∃t fz,W.heap[g]? =some (.cells (zs.map fun z=>Value.int k z).toArray t fz):=by
 unfold Lib.TabIs World.var? at h
 rw[hg]at h
 simp only[Option.bind_some]at h
 split at h
 ·rename_i cs t fz hh
  cases h
  exact⟨t,fz,hh⟩
 ·cases h
def t32:List Int:=[0,1,28,2,29,14,24,3,30,22,20,15,25,17,4,8,31,27,13,23,21,19,16,7,26,12,18,6,11,5,10,9]
def t64:List Int:=[0,1,56,2,57,49,28,3,61,58,42,50,38,29,17,4,62,47,59,36,45,43,51,22,53,39,33,30,24,18,12,5,63,55,48,27,60,41,37,16,46,35,44,21,52,32,23,11,54,26,40,15,34,20,31,10,25,14,19,9,13,8,7,6]
def t10:List Int:=[1,10,100,1000,10000,100000,1000000,10000000,100000000,1000000000,10000000000,100000000000,1000000000000,10000000000000,100000000000000,1000000000000000,10000000000000000,100000000000000000,1000000000000000000,10000000000000000000]
theorem pM{W:World}(h:laidMetH Tryd.prog Rows.tableIncrementalRow.laid W):kG (fun _=>False) W:=by
 have h1:laidMet Tryd.prog [("math/bits.deBruijn32tab",Lib.tabData .u8 t32),("math/bits.deBruijn64tab",Lib.tabData .u8 t64),("internal/strconv.uint64pow10",Lib.tabData .u64 t10)] W:=h
 have h2:=nc h1
 have h3:=nc h2
 have a1:=fM (g:=2) (by kernel_rfl) (Lib.tabIs_of_head (g:=2) (t:=138) (e:=5) (n:=32) (by kernel_rfl) (by kernel_rfl) (by kernel_rfl) (by kernel_rfl) (by kernel_rfl) (by kernel_rfl) h1)
 have a2:=fM (g:=3) (by kernel_rfl) (Lib.tabIs_of_head (g:=3) (t:=139) (e:=5) (n:=64) (by kernel_rfl) (by kernel_rfl) (by kernel_rfl) (by kernel_rfl) (by kernel_rfl) (by kernel_rfl) h2)
 have a3:=fM (g:=0) (by kernel_rfl) (Lib.tabIs_of_head (g:=0) (t:=132) (e:=124) (n:=20) (by kernel_rfl) (by kernel_rfl) (by kernel_rfl) (by kernel_rfl) (by kernel_rfl) (by kernel_rfl) h3)
 intro g cs hm
 refine⟨fun hf=>hf,?_⟩
 have hG:GG=[(0,t10.map fun z=>Value.int .u64 z),(2,t32.map fun z=>Value.int .u8 z),(3,t64.map fun z=>Value.int .u8 z)]:=by kernel_rfl
 rw[hG]at hm
 rcases List.mem_cons.1 hm with e|hm
 ·cases e;exact a3
 ·rcases List.mem_cons.1 hm with e|hm
  ·cases e;exact a1
  ·rcases List.mem_cons.1 hm with e|hm
   ·cases e;exact a2
   ·cases hm
end
end PW
end Go.Proofs.YteikppbedmmdnaaDoor
