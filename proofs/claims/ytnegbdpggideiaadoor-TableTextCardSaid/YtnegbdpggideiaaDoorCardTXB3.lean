/- Texts of the proof, part 3. -/
import Derived.Test.YtnegbdpggideiaaDoorProg
import Derived.WalkKit
import Derived.ProofKit
import Derived.Deep.Slices
import Derived.Lib.SmallJoins
import Derived.OpenShut
import Derived.Test.YtnegbdpggideiaaDoorRows
import Derived.Test.YtnegbdpggideiaaDoorCards
import Derived.Test.YtnegbdpggideiaaDoorTie
import Derived.ShutString
import Derived.ChangeOld
import Derived.Below
import Derived.LaidMore
import Derived.Stop.Joined
import Derived.SevenTiedAt
import Derived.Lib.LaidTab
import Derived.Test.YtnegbdpggideiaaDoorCardTXB2
set_option linter.unusedVariables false
set_option linter.unusedSimpArgs false
set_option maxRecDepth 10000
set_option maxHeartbeats 1000000
namespace Go.Proofs.YtnegbdpggideiaaDoor
namespace PW
section
open Go.RowKit bm Mem
class kQ (p:PV):Prop where
 out:∀(E:Env) (w w':World) (v:Value),bB E w v p→bB E w' v p
 rZ:∀(E:Env) (w:World) (v v':Value),bB E w v p→bB E w v' p→v=v'
instance (v:Value):kQ (.raw v):=⟨fun _ _ _ _ h=>by cases h;exact .raw _,fun _ _ _ _ h h'=>by cases h;cases h';rfl⟩
instance (i k:Nat):kQ (.ptr i k):=⟨fun _ _ _ _ h=>by cases h with|ptr _ _ b hi h=>exact .ptr i k b hi h,fun E w v v' h h'=>by
 cases h with
 |ptr _ _ b _ h=>cases h' with
  |ptr _ _ b' _ h'=>
   have:b=b':=by
    rcases h with h|⟨n,c,h⟩<;>rcases h' with h'|⟨n',c',h'⟩<;>rw[h]at h'<;>simp at h'<;>first|exact h'|exact h'.1
   rw[this]⟩
section
variable {P:Program} {ops:Array Oper} {N L:Nat}
def iO(P:Program)(t:aZ)(o:Oper)(p:PV):Prop:=∀E ρ w,dp ρ→cZ E w ρ t→∃v,(∀w',(execOp ρ o).run P w'= .ok (.value v) w')∧bB E w v p
theorem nO{t:aZ}{o:Oper}{x:Operand}{p:PV}(ho:o.op= .move x)(hx:ag t x=some p):iO P t o p:=fun E ρ w hρ hT=>
 ⟨ρ x,fun w'=>by simp only[execOp,ho,Sem.run_pure],af hρ hT hx⟩
theorem iO.y{t:aZ}{o:Oper}{p:PV}{σ:bt}(h:iO P t o p):ay P σ t o p:=fun F base E ρ w hρ _ hT=>by
 obtain⟨v,h1,h2⟩:=h E ρ w hρ hT
 rw[h1];exact aC h2
def iQ:List Oper→List PV→aZ→aZ
 |o::l,p::ps,t=>iQ l ps (match o.dst with|some d=>(d,p)::t|none=>t)
 |_,_,t=>t
inductive di (P:Program) (N:Nat) (ops:Array Oper) (σ:bt):List Oper→List PV→List Bool→aZ→Prop
 |nil {t:aZ}:di P N ops σ [] [] [] t
 |val {o:Oper} {rest:List Oper} {t:aZ} {d:Nat} {p:PV} {ps:List PV} {fs:List Bool} (ks:List Nat):(ks.all fun k=>(o.looksAt ops).contains k)=true→ay P σ (dr t ks) o p→o.dst=some d→Nat.blt d N=true→di P N ops σ rest ps fs ((d,p)::t)→di P N ops σ (o::rest) (p::ps) (false::fs) t
 |late {o:Oper} {rest:List Oper} {t:aZ} {d:Nat} {p:PV} {ps:List PV} {fs:List Bool} (ks:List Nat):(ks.all fun k=>(o.looksAt ops).contains k)=true→iO P (dr t ks) o p→kQ p→o.dst=some d→Nat.blt d N=true→di P N ops σ rest ps fs ((d,p)::t)→di P N ops σ (o::rest) (p::ps) (true::fs) t
structure Datum (P:Program) (N:Nat) (ops:Array Oper) (σ:bt) (o:Oper) (p:PV) (fl:Bool) (t:aZ):Prop where
 dst:∃d,o.dst=some d∧d<N
 y:∃ks,(∀k∈ks,k∈o.looksAt ops)∧ay P σ (dr t ks) o p
 r:fl=true→kQ p∧∃ks,(∀k∈ks,k∈o.looksAt ops)∧iO P (dr t ks) o p
theorem di.data{σ:bt}{l:List Oper}{ps:List PV}{fs:List Bool}{t:aZ}(h:di P N ops σ l ps fs t):ps.length=l.length∧fs.length=l.length∧∀(i:Nat) o p f,l[i]? =some o→ps[i]? =some p→fs[i]? =some f→Datum P N ops σ o p f (iQ (l.take i) (ps.take i) t):=by
 have mem:∀ {ks:List Nat} {o:Oper},(ks.all fun k=>(o.looksAt ops).contains k)=true→∀k∈ks,k∈o.looksAt ops:=fun h k hk=>by
  have:=List.all_eq_true.1 h k hk;simpa using this
 induction h with
 |nil=>exact⟨rfl,rfl,fun i o p f h=>by simp at h⟩
 | @val o rest t d p ps fs ks hks hy hd hN _ ih=>
  refine⟨by simp[ih.1],by simp[ih.2.1],fun i o' p' f h1 h2 h3=>?_⟩
  cases i with
  |zero=>
   simp at h1 h2 h3
   subst h1;subst h2;subst h3
   exact⟨⟨d,hd,Nat.blt_eq.mp hN⟩,⟨ks,mem hks,hy⟩,fun e=>by cases e⟩
  |succ i=>
   have:=ih.2.2 i o' p' f (by simpa using h1) (by simpa using h2) (by simpa using h3)
   simpa[iQ,hd]using this
 | @late o rest t d p ps fs ks hks hy hfp hd hN _ ih=>
  refine⟨by simp[ih.1],by simp[ih.2.1],fun i o' p' f h1 h2 h3=>?_⟩
  cases i with
  |zero=>
   simp at h1 h2 h3
   subst h1;subst h2;subst h3
   exact⟨⟨d,hd,Nat.blt_eq.mp hN⟩,⟨ks,mem hks,hy.y⟩,fun _=>⟨hfp,ks,mem hks,hy⟩⟩
  |succ i=>
   have:=ih.2.2 i o' p' f (by simpa using h1) (by simpa using h2) (by simpa using h3)
   simpa[iQ,hd]using this
def bs(ops:Array Oper)(i:Nat):Option Nat:=(ops[i]?).bind (·.dst)
def cm(ops:Array Oper)(i:Nat):List Nat:=match ops[i]? with|some o=>o.looksAt ops|none=>[]
def pA(ops:Array Oper)(f m:Nat)(fl:List Bool):Bool:=
 decide (m≤ops.size)&&Nat.beq fl.length m&&
 ((List.range ops.size).all fun i=>(jq ops i).all fun k=>decide (k<i))&&
 ((List.range ops.size).all fun i=>((ops[i]?).all fun o=>o.guard.isNone))&&
 ((List.range m).all fun i=>(List.range i).all fun j=>bs ops i !=bs ops j)&&
 ((List.range m).all fun j=>(cm ops j).all fun k=>(List.range m).all fun i=>bs ops i !=some k||(decide (i<j)&&(jq ops j).contains i))&&
 ((List.range ops.size).all fun i=>decide (i<m)||(List.range i).all fun j=>fl.getD j false||eC ops f i j)&&
 ((List.range ops.size).all fun i=>decide (i<m)||(List.range m).all fun j=> !fl.getD j false||((bs ops j).all fun d=> !(cm ops i).contains d||eC ops f i j))&&
 ((List.range ops.size).all fun i=>decide (i<m)||(List.range m).all fun j=> !fl.getD j false||((bs ops i).all fun d=>bs ops j !=some d&& !(cm ops j).contains d))
structure Form (ops:Array Oper) (f m:Nat) (fl:List Bool):Prop where
 le:m≤ops.size
 rQ:fl.length=m
 jq:∀i,i<ops.size→∀k∈jq ops i,k<i
 ng:∀(i:Nat) (o:Oper),ops[i]? =some o→o.guard=none
 ss:∀i j,i<m→j<i→bs ops i≠bs ops j
 rd:∀j,j<m→∀k∈cm ops j,∀i,i<m→bs ops i=some k→i<j∧i∈PW.jq ops j
 rY:∀i,i<ops.size→m≤i→∀j,j<i→fl.getD j false=false→eC ops f i j=true
 use:∀i,i<ops.size→m≤i→∀j,j<m→fl.getD j false=true→∀d,bs ops j=some d→d∈cm ops i→eC ops f i j=true
 wr:∀i,i<ops.size→m≤i→∀j,j<m→fl.getD j false=true→∀d,bs ops i=some d→bs ops j≠some d∧d∉cm ops j
theorem mL{f m:Nat}{fl:List Bool}(h:pA ops f m fl=true):Form ops f m fl:=by
 unfold pA at h
 simp only[Bool.and_eq_true]at h
 obtain⟨⟨⟨⟨⟨⟨⟨⟨h1,h2⟩,h3⟩,h4⟩,h5⟩,h6⟩,h7⟩,h8⟩,h9⟩:=h
 have all:∀ {n:Nat} {p:Nat→Bool},(List.range n).all p=true→∀i,i<n→p i=true:=fun h i hi=>List.all_eq_true.1 h i (List.mem_range.2 hi)
 refine⟨by simpa using h1,Nat.eq_of_beq_eq_true h2,fun i hi k hk=>?_,fun i o ho=>?_,fun i j hi hj=>?_,fun j hj k hk i hi hd=>?_,fun i hi hm j hj hf=>?_,fun i hi hm j hj hf d hd hl=>?_,fun i hi hm j hj hf d hd=>?_⟩
 ·have:=List.all_eq_true.1 (all h3 i hi) k hk;simpa using this
 ·have hi:i<ops.size:=(Array.getElem?_eq_some_iff.1 ho).1
  have:=all h4 i hi
  rw[ho]at this
  simpa using this
 ·have:=all (all h5 i hi) j hj
  simpa using this
 ·have:=all (List.all_eq_true.1 (all h6 j hj) k hk) i hi
  rw[hd]at this
  simpa using this
 ·have:=all h7 i hi
  simp only[Bool.or_eq_true,decide_eq_true_eq]at this
  rcases this with h|h
  ·omega
  ·have:=all h j hj
   rw[hf]at this
   simpa using this
 ·have:=all h8 i hi
  simp only[Bool.or_eq_true,decide_eq_true_eq]at this
  rcases this with h|h
  ·omega
  ·have:=all h j hj
   rw[hf,hd]at this
   simpa[hl]using this
 ·have:=all h9 i hi
  simp only[Bool.or_eq_true,decide_eq_true_eq]at this
  rcases this with h|h
  ·omega
  ·have:=all h j hj
   rw[hf,hd]at this
   simpa using this
structure oS (ops:Array Oper) (m:Nat) (fl:List Bool) (ls:Array Bool) (a a₁:Act):Prop where
 gy:a.defers=a₁.defers
 size:a.tmps.size=a₁.tmps.size
 tmp:∀k,(∀j,j<m→fl.getD j false=true→ls.getD j true=false→bs ops j≠some k)→a.eval (.tmp k)=a₁.eval (.tmp k)
def qq(P:Program)(ops:Array Oper)(m:Nat)(fl:List Bool)(a₁:Act):Prop:=
 ∀j o d,j<m→fl.getD j false=true→ops[j]? =some o→o.dst=some d→∀w,(execOp a₁.eval o).run P w= .ok (.value (a₁.eval (.tmp d))) w
theorem nE{i:Nat}{o:Oper}(ho:ops[i]? =some o){k:Nat}(hk:Operand.tmp k∈o.op.operands):k∈cm ops i:=by
 unfold cm
 rw[ho]
 exact List.mem_append_left _ (List.mem_filterMap.2 ⟨.tmp k,by simpa using hk,rfl⟩)
theorem fe{i:Nat}{o:Oper}{a a₁:Act}(ho:ops[i]? =some o)(hs:∀cs b,o.op≠ .select cs b)(h:∀k∈cm ops i,a.eval (.tmp k)=a₁.eval (.tmp k)):execOp a.eval o=execOp a₁.eval o:=by
 refine execOp_congr o hs fun x hx=>?_
 match x,hx with
 | .tmp k,hx=>exact h k (nE ho hx)
 | .const v,_=>rfl
 | .global g,_=>rfl
 | .func g,_=>rfl
theorem qS{a a₁:Act}(hd:a.defers=a₁.defers)(hs:a.tmps.size=a₁.tmps.size)(h:∀k,a.eval (.tmp k)=a₁.eval (.tmp k)):a=a₁:=by
 obtain⟨t,d⟩:=a
 obtain⟨t',d'⟩:=a₁
 simp only at hd hs
 subst hd
 congr
 apply Array.ext hs
 intro i h1 h2
 have:=h i
 simpa[Act.eval,h1,h2]using this
theorem dI(a:Act){d:Nat}(hd:d<a.tmps.size)(v:Value)(k:Nat):(a.put (some d) v).eval (.tmp k)=if k=d then v else a.eval (.tmp k):=by
 split
 ·rename_i e;subst e;simp[Act.put,Act.eval,hd]
 ·rename_i e;exact Act.eval_put (fun d' hd' heq=>by cases hd';cases heq;exact e rfl)
def o3(Qn:Act→World→Prop):Exit→Act→World→Prop
 | .normal,a,w=>Qn a w
 |_,_,_=>False
theorem o6{o:Oper}{a a₁:Act}{w:World}{K K':Act→World→Prop}{Qn:Act→World→Prop}{Q:Exit→Act→World→Prop}(he:execOp a.eval o=execOp a₁.eval o)(hd:a.defers=a₁.defers)(hh:o.wp P a₁ w K (o3 Qn))(h:∀ds v w',K (({a₁ with defers:=ds}:Act).put o.dst v) w'→K' (({a with defers:=ds}:Act).put o.dst v) w'):o.wp P a w K' Q:=by
 have h1:∀v w',K (a₁.put o.dst v) w'→K' (a.put o.dst v) w':=fun v w' hk=>by
  have:=h a₁.defers v w' hk
  rw[←hd]at this
  exact this
 unfold Oper.wp at*
 rw[he]
 generalize (execOp a₁.eval o).run P w=x at*
 cases x with
 |ok n w'=>
  cases n<;>simp only[Oper.upon]at hh ⊢
  case value v=>exact h1 _ _ hh
  case skip=>exact h1 _ _ hh
  case defer d=>rw[hd];exact h _ _ _ hh
  case enter f args=>exact Calls.mono hh (fun e w'' he=>by cases e<;>first|exact h1 _ _ he|exact he.elim|exact(he.elim fun _ h=>h.elim fun _ h=>h.elim))
  case row r args=>exact Rows.mono hh (fun _ _ he=>h1 _ _ he)
  all_goals exact hh.elim
 |halt x w'=>cases x<;>simp only[Oper.upon]at hh ⊢ <;>exact hh.elim
theorem ot{f m:Nat}{fl:List Bool}(hF:Form ops f m fl)(hsel:∀(i:Nat) (o:Oper),ops[i]? =some o→∀cs b,o.op≠ .select cs b)(hfd:∀j,j<m→∃d,bs ops j=some d){Qn:Act→World→Prop}{Q:Exit→Act→World→Prop}(hQ:∀a w,Qn a w→Q .normal a w):
  ∀(fuel k r:Nat) (ls:Array Bool) (a a₁:Act) (w:World),k+r=ops.size→m≤k→ls.size=ops.size→(∀i,k≤i→i<ops.size→ls.getD i true=false)→(∀i,m≤i→i<k→ls.getD i true=true)→(∀i,i<m→fl.getD i false=false→ls.getD i true=true)→Down ops ls→fuel=aP ls m+r→
   oS ops m fl ls a a₁→qq P ops m fl a₁→(∀j d,j<m→bs ops j=some d→d<a₁.tmps.size)→wpOps P ops (o3 Qn) (List.range' k r) a₁ w→wpAny P .any ops Q fuel ls a w:=by
 intro fuel
 induction fuel with
 |zero=>
  intro k r ls a a₁ w hk hm hsz hA hB hC hD hfu hag hfx hds h
  have hr:r=0:=by omega
  subst hr
  have hu:aP ls m=0:=by omega
  have hall:∀i,i<ops.size→ls.getD i true=true:=fun i hi=>by
   rcases Nat.lt_or_ge i m with h'|h'
   ·exact bM hu i h'
   ·exact hB i h' (by omega)
  have hr0:Region.ready .any ops ls=[]:=by
   apply List.eq_nil_iff_forall_not_mem.2
   intro i hi
   obtain⟨h1,h2,_⟩:=dh.1 hi
   rw[hall i h1]at h2;cases h2
  have:a=a₁:=qS hag.gy hag.size fun k=>hag.tmp k fun j hj _ hl=>by
   rw[bM hu j hj]at hl;cases hl
  subst this
  exact⟨hr0,hQ a w h⟩
 |succ fuel ih=>
  intro k r ls a a₁ w hk hm hsz hA hB hC hD hfu hag hfx hds h
  have hf:∀b c (i:Nat),i<ops.size→ls.getD i b=ls.getD i c:=fun b c i hi=>by simp[show i<ls.size by omega]
  have hne:Region.ready .any ops ls≠[]:=by
   rcases Nat.eq_zero_or_pos (aP ls m)with hu|hu
   ·have hkr:k<ops.size:=by omega
    have:k∈Region.ready .any ops ls:=dh.2 ⟨hkr,hA k (Nat.le_refl _) hkr,fun j hj=>by
     have:=hF.jq k hkr j hj
     rw[hf false true j (by omega)]
     rcases Nat.lt_or_ge j m with h'|h'
     ·exact bM hu j h'
     ·exact hB j h' this⟩
    intro h0;rw[h0]at this;cases this
   ·obtain⟨i,h1,h2,h3⟩:=dX hu
    have hle:=hF.le
    have:i∈Region.ready .any ops ls:=dh.2 ⟨by omega,h2,fun j hj=>by
     have:=hF.jq i (by omega) j hj
     rw[hf false true j (by omega)];exact h3 j this⟩
    intro h0;rw[h0]at this;cases this
  refine⟨fun h0=>absurd h0 hne,fun i hi=>?_⟩
  obtain⟨hi1,hi2,hi3⟩:=dh.1 hi
  have ho:ops[i]? =some ops[i]:=by simp[hi1]
  have hwant:Region.wanted ops[i] (yielded ops a.tmps)=true:=by unfold Region.wanted;rw[hF.ng i _ ho]
  have hset:∀(j:Nat) b,(ls.setIfInBounds i true).getD j b=if j=i then true else ls.getD j b:=fun j b=>by
   by_cases e:i=j
   ·subst e;simp[show i<ls.size by omega]
   ·rw[if_neg (fun h=>e h.symm),Array.getD_eq_getD_getElem?,Array.getD_eq_getD_getElem?,Array.getElem?_setIfInBounds_ne e]
  have hdown:Down ops (ls.setIfInBounds i true):=fun j hj hj' q hq=>by
   rw[hset]
   split
   ·rfl
   ·rw[hset]at hj
    split at hj
    ·rename_i e;subst e;exact hi3 q hq
    ·exact hD j hj hj' q hq
  unfold wpOp
  rw[ho]
  simp only[hwant,if_true]
  rcases Nat.lt_or_ge i m with him|him
  ·
   have hfl:fl.getD i false=true:=by
    cases hb:fl.getD i false with
    |true=>rfl
    |false=>rw[hC i him hb]at hi2;cases hi2
   cases hd:(ops[i]).dst with
   |none=>
    obtain⟨d,hd'⟩:=hfd i him
    simp only[bs,ho,Option.bind_some]at hd'
    have:=hd.symm.trans hd'
    cases this
   |some d=>
    have hdo:bs ops i=some d:=by simp only[bs,ho,Option.bind_some];exact hd
    have hrun:=hfx i ops[i] d him hfl ho hd w
    have hex:execOp a.eval ops[i]=execOp a₁.eval ops[i]:=fe ho (hsel i _ ho) fun q hq=>hag.tmp q fun j hj _ hjl hjd=>by
     have:=(hF.rd i him q hq j hj hjd).2
     have:=hi3 j this
     rw[hf false true j (by omega),hjl]at this
     cases this
    left
    unfold Oper.wp
    rw[hex,hrun]
    simp only[Oper.upon]
    rw[hd]
    have hda:=hds i d him hdo
    refine ih k r _ _ a₁ w hk hm (by simpa using hsz) (fun j hj hj'=>by rw[hset,if_neg (by omega)];exact hA j hj hj') (fun j hj hj'=>by rw[hset,if_neg (by omega)];exact hB j hj hj') (fun j hj hj'=>?_) hdown ?_ ⟨by simpa[Act.put]using hag.gy,by simpa[Act.put]using hag.size,fun q hq=>?_⟩ hfx hds h
    ·rw[hset];split
     ·rfl
     ·exact hC j hj hj'
    ·have:=ef hi2 him (by have:=hF.le;omega);omega
    ·rw[dI a (by rw[hag.size];exact hda)]
     split
     ·rename_i e;rw[e]
     ·rename_i e
      refine hag.tmp q fun j hj hjf hjl hjd=>?_
      by_cases e2:j=i
      ·subst e2;rw[hdo]at hjd;cases hjd;exact e rfl
      ·exact hq j hj hjf (by rw[hset,if_neg e2];exact hjl) hjd
  ·
   have hik:i=k:=by
    rcases Nat.lt_or_ge i k with h'|h'
    ·rw[hB i him h']at hi2;cases hi2
    ·rcases Nat.lt_or_ge k i with h''|h''
     ·have hfk:fl.getD k false=false:=by
       have:=hF.rQ
       simp[List.getD_eq_getElem?_getD,List.getElem?_eq_none (show fl.length≤k by omega)]
      have:=dc hsz hD hF.jq f i k hi1 (hF.rY i hi1 him k h'' hfk) hi3
      rw[hf false true k (by omega),hA k (Nat.le_refl _) (by omega)]at this
      cases this
     ·omega
   subst hik
   obtain⟨r',rfl⟩:∃r',r=r'+1:=⟨r - 1,by omega⟩
   rw[List.range'_succ,wpOps_cons]at h
   unfold wpOp at h
   rw[ho]at h
   have hwant':Region.wanted ops[i] (yielded ops a₁.tmps)=true:=by unfold Region.wanted;rw[hF.ng i _ ho]
   simp only[hwant',if_true]at h
   have hh:=h.resolve_right (fun⟨_,_,_,hq⟩=>hq)
   have hex:execOp a.eval ops[i]=execOp a₁.eval ops[i]:=fe ho (hsel i _ ho) fun q hq=>hag.tmp q fun j hj hjf hjl hjd=>by
    have:=dc hsz hD hF.jq f i j hi1 (hF.use i hi1 him j hj hjf q hjd hq) hi3
    rw[hf false true j (by have:=hF.le;omega),hjl]at this
    cases this
   left
   refine o6 hex hag.gy hh fun ds v w' hK=>?_
   have hdd:∀d,(ops[i]).dst=some d→bs ops i=some d:=fun d hd=>by simp only[bs,ho,Option.bind_some];exact hd
   refine ih (i+1) r' _ _ _ w' (by omega) (by omega) (by simpa using hsz) (fun j hj hj'=>by rw[hset,if_neg (by omega)];exact hA j (by omega) hj') (fun j hj hj'=>?_) (fun j hj hj'=>by rw[hset,if_neg (by omega)];exact hC j hj hj') hdown ?_ ⟨?_,?_,fun q hq=>?_⟩ (fun j o d hj hjf hjo hjd w''=>?_) (fun j d hj hjd=>?_) hK
   ·rw[hset];split
    ·rfl
    ·exact hB j hj (by omega)
   ·have:aP (ls.setIfInBounds i true) m=aP ls m:=by
     have:∀q,q≤m→aP (ls.setIfInBounds i true) q=aP ls q:=by
      intro q
      induction q with
      |zero=>intro _;rfl
      |succ q ihq=>
       intro hq
       simp only[aP]
       rw[ihq (by omega),hset q true,if_neg (show ¬q=i by omega)]
     exact this m (Nat.le_refl _)
    omega
   ·cases(ops[i]).dst<;>rfl
   ·cases(ops[i]).dst<;>simpa[Act.put]using hag.size
   ·have hq':∀j,j<m→fl.getD j false=true→ls.getD j true=false→bs ops j≠some q:=fun j hj hjf hjl=>hq j hj hjf (by rw[hset,if_neg (by omega)];exact hjl)
    cases hd:(ops[i]).dst with
    |none=>exact hag.tmp q hq'
    |some d=>
     by_cases hsz2:d<a.tmps.size
     ·rw[dI _ (by simpa using hsz2),dI _ (by rw[←hag.size];exact hsz2)]
      split
      ·rfl
      ·exact hag.tmp q hq'
     ·have e1:({a with defers:=ds}:Act).put (some d) v= {a with defers:=ds}:=by simp[Act.put,Array.setIfInBounds,hsz2]
      have e2:({a₁ with defers:=ds}:Act).put (some d) v= {a₁ with defers:=ds}:=by simp[Act.put,Array.setIfInBounds,←hag.size,hsz2]
      rw[e1,e2]
      exact hag.tmp q hq'
   ·have hj1:=hfx j o d hj hjf hjo hjd w''
    have hjd':bs ops j=some d:=by simp only[bs,hjo,Option.bind_some];exact hjd
    have key:∀q,(q∈cm ops j∨q=d)→(({a₁ with defers:=ds}:Act).put (ops[i]).dst v).eval (.tmp q)=a₁.eval (.tmp q):=fun q hq=>by
     refine Act.eval_put (a:= {a₁ with defers:=ds}) fun e he heq=>?_
     cases heq
     have:=hF.wr i hi1 him j hj hjf q (hdd q he)
     rcases hq with hq|rfl
     ·exact this.2 hq
     ·exact this.1 hjd'
    have he2:execOp (({a₁ with defers:=ds}:Act).put (ops[i]).dst v).eval o=execOp a₁.eval o:=fe hjo (hsel j o hjo) fun q hq=>key q (.inl hq)
    rw[he2,hj1,key d (.inr rfl)]
   ·have:=hds j d hj hjd
    cases(ops[i]).dst<;>simpa[Act.put]using this
theorem iT:∀(l:List Oper) (ps:List PV) (t:aZ) (k:Nat) (p:PV),look k (iQ l ps t)=some p→(∃(j:Nat) (o:Oper),l[j]? =some o∧o.dst=some k∧ps[j]? =some p)∨look k t=some p
 | [],_,t,k,p,h=>.inr (by simpa[iQ]using h)
 |_::_,[],t,k,p,h=>.inr (by simpa[iQ]using h)
 |o::l,q::ps,t,k,p,h=>by
  simp only[iQ]at h
  rcases iT l ps _ k p h with⟨j,o',h1,h2,h3⟩|h'
  ·exact .inl ⟨j+1,o',by simpa using h1,h2,by simpa using h3⟩
  ·cases hd:o.dst with
   |none=>rw[hd]at h';exact .inr h'
   |some d=>
    rw[hd]at h'
    simp only[look]at h'
    rw[Bool.cond_eq_ite]at h'
    split at h'
    ·rename_i he
     have:=Nat.eq_of_beq_eq_true he
     subst this
     cases h'
     exact .inl ⟨0,o,rfl,hd,rfl⟩
    ·exact .inr h'
section
variable {F:Nat→Prop} {base:Nat} {E:Env} {σ:bt} {t:aZ} {l:List Oper} {ps:List PV} {fl:List Bool} {f m:Nat}
structure ei (N m:Nat) (l:List Oper) (ps:List PV) (E:Env) (t:aZ) (w:World) (dn:Nat→Prop) (a:Act) (w':World):Prop where
 ext:Ext w w'
 gy:a.defers=[]
 size:a.tmps.size=N
 t0:cZ E w' a.eval t
 rh:∀j,j<m→dn j→∀d p,bs l.toArray j=some d→ps[j]? =some p→bB E w' (a.eval (.tmp d)) p
theorem dw{i:Nat}{o:Oper}(h:(l.take m)[i]? =some o):i<m∧l.toArray[i]? =some o∧bs l.toArray i=o.dst:=by
 rw[List.getElem?_take]at h
 split at h
 ·rename_i hi
  refine⟨hi,by simpa using h,?_⟩
  simp only[bs]
  have:l.toArray[i]? =some o:=by simpa using h
  rw[this];rfl
 ·cases h
theorem fR{dn:Nat→Prop}{a:Act}{w w':World}(hg:ei N m l ps E t w dn a w'){i:Nat}(hi:i≤m){ks:List Nat}(hdn:∀j k,j<i→k∈ks→bs l.toArray j=some k→dn j):cZ E w' a.eval (dr (iQ ((l.take m).take i) (ps.take i) t) ks):=fun k p hk=>by
 obtain⟨h1,h2⟩:=dK ks k p hk
 rcases iT _ _ _ k p h2 with⟨j,o,h3,h4,h5⟩|h'
 ·rw[List.getElem?_take]at h3
  split at h3
  ·rename_i hj
   obtain⟨hjm,h6,h7⟩:=dw h3
   rw[List.getElem?_take,if_pos hj]at h5
   exact hg.rh j (by omega) (hdn j k hj h1 (by rw[h7];exact h4)) k p (by rw[h7];exact h4) h5
  ·cases h3
 ·exact hg.t0 k p h'
theorem jh{dn:Nat→Prop}{a:Act}{w w' w'':World}(hF:Form l.toArray f m fl)(hfr:∀i d,i<m→bs l.toArray i=some d→look d t=none)(hg:ei N m l ps E t w dn a w')(hE:Ext w' w''){i d:Nat}{p:PV}(hi:i<m)(hd:bs l.toArray i=some d)(hdN:d<N)(hp:ps[i]? =some p){v:Value}(hv:bB E w'' v p):
  ei N m l ps E t w (fun j=>dn j∨j=i) (a.put (some d) v) w'':=by
 refine⟨hg.ext.trans hE,by simpa[Act.put]using hg.gy,by simpa[Act.put]using hg.size,fun k q hk=>?_,fun j hj hdj d' q hd' hq=>?_⟩
 ·have hne:k≠d:=fun e=>by subst e;rw[hfr i k hi hd]at hk;cases hk
  rw[dI a (by rw[hg.size];exact hdN),if_neg hne]
  exact(hg.t0 k q hk).ext hE
 ·rw[dI a (by rw[hg.size];exact hdN)]
  by_cases e:j=i
  ·subst e
   rw[hd]at hd';cases hd'
   rw[hp]at hq;cases hq
   rw[if_pos rfl];exact hv
  ·have hne:d'≠d:=fun e'=>by
    subst e'
    rcases Nat.lt_or_ge i j with h'|h'
    ·exact hF.ss j i hj h' (by rw[hd,hd'])
    ·exact hF.ss i j hi (by omega) (by rw[hd,hd'])
   rw[if_neg hne]
   exact(hg.rh j hj (hdj.resolve_right e) d' q hd' hq).ext hE
theorem ei.mono{dn dn':Nat→Prop}{a:Act}{w w':World}(h:ei N m l ps E t w dn a w')(hd:∀j,j<m→dn' j→dn j):ei N m l ps E t w dn' a w':=⟨h.ext,h.gy,h.size,h.t0,fun j hj hj'=>h.rh j hj (hd j hj hj')⟩
theorem oE(hF:Form l.toArray f m fl)(hml:m≤l.length)(hfr:∀i d,i<m→bs l.toArray i=some d→look d t=none)(hc:di P N l.toArray σ (l.take m) ps fl t){ls:Array Bool}{a:Act}{w w':World}(hg:ei N m l ps E t w (fun j=>ls.getD j true=true) a w')(hall:∀i,i<m→fl.getD i false=false→ls.getD i true=true):
  ∃a₁,oS l.toArray m fl ls a a₁∧ei N m l ps E t w (fun _=>True) a₁ w':=by
 obtain⟨hl1,hl2,hdat⟩:=hc.data
 have hlen:(l.take m).length=m:=by simp;omega
 have key:∀q,q≤m→∃b,oS l.toArray m fl ls a b∧ei N m l ps E t w (fun j=>ls.getD j true=true∨j<q) b w':=by
  intro q
  induction q with
  |zero=>intro _;exact⟨a,⟨rfl,rfl,fun _ _=>rfl⟩,hg.mono fun j _ h=>h.resolve_right (by omega)⟩
  |succ q ih=>
   intro hq
   obtain⟨b,hag,hgb⟩:=ih (by omega)
   cases hb:ls.getD q true with
   |true=>exact⟨b,hag,hgb.mono fun j _ h=>by
     rcases h with h|h
     ·exact .inl h
     ·by_cases e:j=q
      ·subst e;exact .inl hb
      ·exact .inr (by omega)⟩
   |false=>
    have hfq:fl.getD q false=true:=by
     cases hf:fl.getD q false with
     |true=>rfl
     |false=>rw[hall q (by omega) hf]at hb;cases hb
    have ho:(l.take m)[q]? =some ((l.take m)[q]'(by omega)):=List.getElem?_eq_getElem (by omega)
    obtain⟨_,hoq,hdq⟩:=dw ho
    have hpq:ps[q]? =some (ps[q]'(by omega)):=by simp
    have hff:fl[q]? =some true:=by
     have:q<fl.length:=by rw[hl2,hlen];omega
     simp[this]at hfq ⊢;exact hfq
    have D:=hdat q _ _ _ ho hpq hff
    obtain⟨d,hd,hdN⟩:=D.dst
    obtain⟨_,ks,hks,hR⟩:=D.r rfl
    have hrep:=fR hgb (i:=q) (by omega) (ks:=ks) (fun j k hj _ _=>.inr hj)
    obtain⟨v,_,hv⟩:=hR E b.eval w' (dV b) hrep
    have hdd:bs l.toArray q=some d:=by rw[hdq];exact hd
    refine⟨b.put (some d) v,⟨by simpa[Act.put]using hag.gy,by simpa[Act.put]using hag.size,fun k hk=>?_⟩,(jh hF hfr hgb (Ext.refl _) (by omega) hdd hdN hpq hv).mono fun j _ h=>?_⟩
    ·have hne:k≠d:=fun e=>hk q (by omega) hfq hb (by rw[hdd,e])
     rw[dI b (by rw[hgb.size];exact hdN),if_neg hne]
     exact hag.tmp k hk
    ·rcases h with h|h
     ·exact .inl (.inl h)
     ·by_cases e:j=q
      ·exact .inr e
      ·exact .inl (.inr (by omega))
 obtain⟨b,h1,h2⟩:=key m (Nat.le_refl _)
 exact⟨b,h1,h2.mono fun j hj _=>.inr hj⟩
theorem oG(hml:m≤l.length)(hc:di P N l.toArray σ (l.take m) ps fl t){a:Act}{w w':World}(hg:ei N m l ps E t w (fun _=>True) a w'):qq P l.toArray m fl a:=fun j o d hj hf ho hd w''=>by
 obtain⟨hl1,hl2,hdat⟩:=hc.data
 have hlen:(l.take m).length=m:=by simp;omega
 have hoj:(l.take m)[j]? =some o:=by rw[List.getElem?_take,if_pos hj];simpa using ho
 have hpj:ps[j]? =some (ps[j]'(by omega)):=by simp
 have hff:fl[j]? =some true:=by
  have:j<fl.length:=by rw[hl2,hlen];omega
  simp[this]at hf ⊢;exact hf
 have D:=hdat j _ _ _ hoj hpj hff
 obtain⟨hfix,ks,hks,hR⟩:=D.r rfl
 have hrep:=fR hg (i:=j) (by omega) (ks:=ks) (fun _ _ _ _ _=>trivial)
 obtain⟨v,hrun,hv⟩:=hR E a.eval w' (dV a) hrep
 have hdd:bs l.toArray j=some d:=by rw[(dw hoj).2.2];exact hd
 have:=hfix.rZ E w' _ _ (hg.rh j hj trivial d _ hdd hpj) hv
 rw[this];exact hrun w''
end
theorem gd{id:Nat}{l:List Oper}{t t':aZ}{σ:bt}{Q:Exit→St→Prop}(m f:Nat){fl:List Bool}{ps:List PV}(hm:P.follows .mixedOrders=true)(hc:di P N l.toArray σ (l.take m) ps fl t)(hB:(pA l.toArray f m fl&&Region.noSelect l.toArray)=true)(hml:Nat.ble m l.length=true)
  (hfr:((l.take m).all fun o=>o.dst.all fun d=>(look d t).isNone)=true) (hsub:Sub (iQ (l.take m) ps t) t') (hw:WR P N L l.toArray (l.drop m) ⟨t',σ⟩ (fun s=>Q .normal s)):W P N L (.region id l.toArray true) ⟨t,σ⟩ Q:=fun F base E₀ w₀ E a w hcm hs=>by
 simp only[Bool.and_eq_true]at hB
 have hF:=mL hB.1
 have hmle:m≤l.length:=Nat.ble_eq.mp hml
 obtain⟨hl1,hl2,hdat⟩:=hc.data
 have hlen:(l.take m).length=m:=by simp;omega
 have hfr':∀i d,i<m→bs l.toArray i=some d→look d t=none:=fun i d hi hd=>by
  have ho:(l.take m)[i]? =some ((l.take m)[i]'(by omega)):=List.getElem?_eq_getElem (by omega)
  have:=List.all_eq_true.1 hfr _ (List.mem_of_getElem? ho)
  rw[(dw ho).2.2]at hd
  rw[hd]at this
  simpa using this
 have hdst:∀i,i<m→∃d,bs l.toArray i=some d∧d<N:=fun i hi=>by
  have ho:(l.take m)[i]? =some ((l.take m)[i]'(by omega)):=List.getElem?_eq_getElem (by omega)
  have hp:ps[i]? =some (ps[i]'(by omega)):=by simp
  have hf:fl[i]? =some (fl[i]'(by omega)):=by simp
  obtain⟨d,h1,h2⟩:=(hdat i _ _ _ ho hp hf).dst
  exact⟨d,by rw[(dw ho).2.2];exact h1,h2⟩
 have hsel:∀(i:Nat) (o:Oper),l.toArray[i]? =some o→∀cs b,o.op≠ .select cs b:=fun i o ho cs b=>Region.noSelect_spec hB.2 i o cs b ho
 have main:∀(fuel:Nat) (ls:Array Bool) (a:Act) (w':World),ls.size=l.toArray.size→(∀i,m≤i→i<l.toArray.size→ls.getD i true=false)→Down l.toArray ls→fuel=aP ls m+(l.toArray.size - m)→ei N m l ps E t w (fun j=>ls.getD j true=true) a w'→
   wpAny P .any l.toArray (fun e a' w'=>jX F base N E₀ w₀ (Q e) a' w') fuel ls a w':=by
  have part1:∀(fuel:Nat) (ls:Array Bool) (a:Act) (w':World),ls.size=l.toArray.size→(∀i,m≤i→i<l.toArray.size→ls.getD i true=false)→Down l.toArray ls→fuel=aP ls m+(l.toArray.size - m)→ei N m l ps E t w (fun j=>ls.getD j true=true) a w'→
    (∀i,i<m→fl.getD i false=false→ls.getD i true=true)→wpAny P .any l.toArray (fun e a' w'=>jX F base N E₀ w₀ (Q e) a' w') fuel ls a w':=by
   intro fuel ls a w' hsz hrest hdn hfu hg hall
   obtain⟨a₁,hag,hg1⟩:=oE hF hmle hfr' hc hg hall
   have hsat:cD F base N ⟨t',σ⟩ E a₁ w':=by
    refine⟨hs.sat.ext hg1.ext,cZ.sub (fun k p hk=>?_) hsub,hg1.gy,hg1.size⟩
    rcases iT _ _ _ k p hk with⟨j,o,h1,h2,h3⟩|h'
    ·obtain⟨hj,_,h4⟩:=dw h1
     exact hg1.rh j hj trivial k p (by rw[h4];exact h2) h3
    ·exact hg1.t0 k p h'
   have hops:=hw F base E₀ w₀ E a₁ w' (hcm.on (.ext hg1.ext) (Below.iB hg1.ext hs.sat.bl)) hsat (o3 fun a' w'=>jX F base N E₀ w₀ (Q .normal) a' w') m (fun a' w' hp=>hp) (fun j=>by simp)
   refine ot hF hsel (fun j hj=>(hdst j hj).imp fun _ h=>h.1) (fun a w h=>h) fuel m (l.toArray.size - m) ls a a₁ w' (by have:=hF.le;omega) (Nat.le_refl _) hsz hrest (fun i h1 h2=>by omega) hall hdn hfu hag (oG hmle hc hg1) (fun j d hj hd=>?_) (by simpa using hops)
   obtain⟨d',h1,h2⟩:=hdst j hj
   rw[hd]at h1;cases h1
   rw[hg1.size];exact h2
  intro fuel
  induction fuel with
  |zero=>
   intro ls a w' hsz hrest hdn hfu hg
   exact part1 0 ls a w' hsz hrest hdn hfu hg (fun i hi _=>bM (m:=m) (by omega) i hi)
  |succ fuel ih=>
   intro ls a w' hsz hrest hdn hfu hg
   by_cases hall:∀i,i<m→fl.getD i false=false→ls.getD i true=true
   ·exact part1 (fuel+1) ls a w' hsz hrest hdn hfu hg hall
   ·have hle:=hF.le
    obtain⟨j0,hj0,hj1,hj2⟩:∃j0,j0<m∧fl.getD j0 false=false∧ls.getD j0 true=false:=by
     apply Classical.byContradiction
     intro hno
     refine hall fun i hi hf=>?_
     cases hb:ls.getD i true with
     |true=>rfl
     |false=>exact absurd ⟨i,hi,hf,hb⟩ hno
    have hf:∀b c (i:Nat),i<l.toArray.size→ls.getD i b=ls.getD i c:=fun b c i hi=>by simp only[Array.getD_eq_getD_getElem?];simp[show i<ls.size by omega]
    have hpos:0<aP ls m:=by
     rcases Nat.eq_zero_or_pos (aP ls m)with h|h
     ·rw[bM h j0 hj0]at hj2;cases hj2
     ·exact h
    obtain⟨i0,hi0,hi1,hi2⟩:=dX hpos
    have hne:i0∈Region.ready .any l.toArray ls:=dh.2 ⟨by omega,hi1,fun k hk=>by
     have:=hF.jq i0 (by omega) k hk
     rw[hf false true k (by omega)];exact hi2 k this⟩
    refine⟨fun h0=>absurd hne (by rw[h0];simp),fun i hi=>?_⟩
    obtain⟨h1,h2,h3⟩:=dh.1 hi
    have him:i<m:=by
     rcases Nat.lt_or_ge i m with h'|h'
     ·exact h'
     ·have:=dc hsz hdn hF.jq f i j0 h1 (hF.rY i h1 h' j0 (by omega) hj1) h3
      rw[hf false true j0 (by omega),hj2]at this
      cases this
    have ho:(l.take m)[i]? =some ((l.take m)[i]'(by omega)):=List.getElem?_eq_getElem (by omega)
    obtain⟨_,hoi,hdi⟩:=dw ho
    have hp:ps[i]? =some (ps[i]'(by omega)):=by simp
    have hfi:fl[i]? =some (fl[i]'(by omega)):=by simp
    have D:=hdat i _ _ _ ho hp hfi
    obtain⟨d,hd,hdN⟩:=D.dst
    obtain⟨ks,hks,hY⟩:=D.y
    have hdd:bs l.toArray i=some d:=by rw[hdi];exact hd
    have hrep:=fR hg (i:=i) (by omega) (ks:=ks) (fun j k hj hk hjd=>by
     have hlk:k∈cm l.toArray i:=by
      unfold cm;rw[hoi];exact hks k hk
     have:=h3 j (hF.rd i him k hlk j (by omega) hjd).2
     rw[hf false true j (by omega)]at this
     exact this)
    unfold wpOp
    rw[hoi]
    have hwant:Region.wanted ((l.take m)[i]'(by omega)) (yielded l.toArray a.tmps)=true:=by unfold Region.wanted;rw[hF.ng i _ hoi]
    simp only[hwant,if_true]
    left
    refine mf (hY F base E a.eval w' (dV a) (hs.sat.ext hg.ext) hrep) fun v w'' hE hv=>?_
    rw[hd]
    have hset:∀(j:Nat) b,(ls.setIfInBounds i true).getD j b=if j=i then true else ls.getD j b:=fun j b=>by
     by_cases e:i=j
     ·subst e;simp[show i<ls.size by omega]
     ·rw[if_neg (fun h=>e h.symm),Array.getD_eq_getD_getElem?,Array.getD_eq_getD_getElem?,Array.getElem?_setIfInBounds_ne e]
    refine ih _ _ w'' (by simpa using hsz) (fun j hj hj'=>by rw[hset j true,if_neg (show ¬j=i by omega)];exact hrest j hj hj') (fun j hj hj' q hq=>?_) (by have:=ef h2 him (by omega);omega) ((jh hF hfr' hg hE him hdd hdN hp hv).mono fun j hj hjj=>?_)
    ·rw[hset]
     split
     ·rfl
     ·rw[hset]at hj
      split at hj
      ·rename_i e;subst e;exact h3 q hq
      ·exact hdn j hj hj' q hq
    ·rw[hset]at hjj
     split at hjj
     ·rename_i e;exact .inr e
     ·exact .inl hjj
 obtain⟨arr,ds⟩:=a
 refine wp_region_any hm ?_
 have hE:Ext w {w with drawn:=w.drawn+1}:=⟨rfl,rfl,rfl,Nat.le_refl _,fun _ _=>rfl⟩
 have hul:∀k,k≤l.length→aP (Array.replicate l.toArray.size false) k=k:=by
  intro k
  induction k with
  |zero=>intro _;rfl
  |succ k ih=>
   intro hk
   simp only[aP]
   rw[ih (by omega),gT _ _ (by simp;omega)]
   simp
 refine main l.toArray.size (Array.replicate l.toArray.size false) ⟨arr,ds⟩ _ (by simp) (fun i _ hi=>gT _ _ hi _) (fun i hi hi'=>?_) (by rw[hul m hmle];simp;omega) ⟨hE,hs.gy,hs.size,hs.tmp.goes (.ext hE),fun j hj hjl=>?_⟩
 ·rw[gT _ _ hi']at hi;cases hi
 ·rw[gT _ _ (by simp;omega)]at hjl;cases hjl
theorem mx{id:Nat}{l:List Oper}{y:Code}{t t':aZ}{σ:bt}{Q:Exit→St→Prop}(m f:Nat){fl:List Bool}{ps:List PV}(hm:P.follows .mixedOrders=true)(hc:di P N l.toArray σ (l.take m) ps fl t)(hB:(pA l.toArray f m fl&&Region.noSelect l.toArray)=true)(hml:Nat.ble m l.length=true)
  (hfr:((l.take m).all fun o=>o.dst.all fun d=>(look d t).isNone)=true) (hsub:Sub (iQ (l.take m) ps t) t') (hw:WR P N L l.toArray (l.drop m) ⟨t',σ⟩ (fun s=>W P N L y s Q)):W P N L (.seq (.region id l.toArray true) y) ⟨t,σ⟩ Q:=ak (gd m f hm hc hB hml hfr hsub hw)
end
inductive Tr (α:Type) where
 |l
 |n (a:Tr α) (k:Nat) (v:α) (b:Tr α)
def Tr.get{α:Type}:Tr α→Nat→Option α
 | .l,_=>none
 | .n a k v b,j=>bif Nat.beq j k then some v else bif Nat.blt j k then a.get j else b.get j
inductive Tr.kl {α:Type} (R:Nat→α→Prop):Tr α→Prop
 |l:Tr.kl R .l
 |n {a b:Tr α} {k:Nat} {v:α}:Tr.kl R a→R k v→Tr.kl R b→Tr.kl R (.n a k v b)
theorem Tr.kl.get{α:Type}{R:Nat→α→Prop}{t:Tr α}(h:Tr.kl R t){j:Nat}{v:α}:t.get j=some v→R j v:=by
 induction h with
 |l=>intro h;cases h
 | @n a b k u _ hr _ iha ihb=>
  intro h
  simp only[Tr.get,Bool.cond_eq_ite]at h
  split at h
  ·rename_i he
   cases Nat.eq_of_beq_eq_true he
   cases h
   exact hr
  ·split at h
   ·exact iha h
   ·exact ihb h
structure j2 where
 tk:Tr (Option Nat)
 fo:Tr Nat
 el:Tr (Nat×Nat)
 st:Tr (List (Nat×Nat)×List Value)
 sl:Tr (Nat×Nat×List Value)
 rk:Tr (Nat×Nat×Nat×List Value)
 zk:Tr (List Value)
 bk:Tr Unit
 pk:Tr Unit
 ar:Tr (Nat×Nat)
 en:Tr Unit
structure j2.Ok (P:Program) (Φ:j2):Prop where
 tk:Φ.tk.kl fun k v=>km P k=some v
 fo:Φ.fo.kl fun k v=>dJ P (k / 100) (k % 100)=some v
 el:Φ.el.kl fun k v=>oU P k=some v
 st:Φ.st.kl fun k v=>rK P k=some v
 sl:Φ.sl.kl fun k v=>qQ P k=some v
 rk:Φ.rk.kl fun k v=>lG P k=some v
 zk:Φ.zk.kl fun k v=>mE P k=some v
 bk:Φ.bk.kl fun k _=>ju P k=true
 pk:Φ.pk.kl fun k _=>j8 P k=true
 ar:Φ.ar.kl fun k v=>q9 P k=some v
 en:Φ.en.kl fun k _=>enters P k=true
class Has (P:Program) (Φ:outParam j2):Prop where
 ok:j2.Ok P Φ
def force{α:Type}:List α→Option (List α)
 | []=>some []
 |x::l=>match force l with
  |some r=>some (x::r)
  |none=>none
theorem force_eq{α:Type}:∀ {l r:List α},force l=some r→l=r
 | [],r,h=>by cases h;rfl
 |x::l,r,h=>by
  simp only[force]at h
  split at h
  ·rename_i r' hr
   cases h
   rw[force_eq hr]
  ·cases h
def pM(xs:List PV)(k:Nat):Nat→Option (List PV)
 |0=>some []
 |n+1=>match xs[k]? with
  |some p=>match pM xs (k+1) n with
   |some r=>some (p::r)
   |none=>none
  |none=>none
theorem l6{xs:List PV}:∀ {n k:Nat} {ys:List PV},pM xs k n=some ys→(xs.drop k).take n=ys∧ys.length=n
 |0,k,ys,h=>by cases h;simp
 |n+1,k,ys,h=>by
  simp only[pM]at h
  split at h
  ·rename_i p hp
   split at h
   ·rename_i r hr
    cases h
    obtain⟨h1,h2⟩:=l6 hr
    have hlt:=(List.getElem?_eq_some_iff.1 hp).1
    have hx:xs[k]=p:=by rw[List.getElem?_eq_getElem hlt]at hp;exact Option.some.inj hp
    refine⟨?_,by simp[h2]⟩
    rw[List.drop_eq_getElem_cons hlt,List.take_succ_cons,h1,hx]
   ·cases h
  ·cases h
def part(xs:List PV)(k n:Nat):Option PV:=bif Nat.beq k 0&&Nat.beq xs.length n then some (.agg xs) else match pM xs k n with
 |some ys=>some (.agg ys)
 |none=>none
def rG(op:BinOp)(a b:Int):Option PV:=
 match op with
 | .lss=>some (.raw (.bool (decide (a<b))))
 | .leq=>some (.raw (.bool (decide (a≤b))))
 | .gtr=>some (.raw (.bool (decide (b<a))))
 | .geq=>some (.raw (.bool (decide (b≤a))))
 | .eql=>some (.raw (.bool (decide (a=b))))
 | .neq=>some (.raw (.bool (decide (a≠b))))
 |_=>none
def qM(Φ:j2)(op:BinOp)(ty:TypeId):PV→PV→Option PV
 | .raw (.int .i64 a),.raw (.int .i64 b)=>rG op a b
 | .raw (.bool a),.raw (.bool b)=>match Φ.bk.get ty with
  |some _=>match op with
   | .eql=>some (.raw (.bool (a==b)))
   | .neq=>some (.raw (.bool (!(a==b))))
   |_=>none
  |none=>none
 | .ptr _ _,.raw (.pointer none)=>match Φ.pk.get ty with
  |some _=>match op with
   | .eql=>some (.raw (.bool false))
   | .neq=>some (.raw (.bool true))
   |_=>none
  |none=>none
 | .bT _ _,.raw (.pointer none)=>match Φ.pk.get ty with
  |some _=>match op with
   | .eql=>some (.raw (.bool false))
   |_=>none
  |none=>none
 |_,_=>none
def ct(Φ:j2)(σ:bt)(t:aZ):Op→Option PV
  | .move x=>ag t x
  | .assign x=>ag t x
  | .pick c a b=>match ag t c with
    |some (.raw (.bool true))=>ag t a
    |some (.raw (.bool false))=>ag t b
    |_=>none
  | .unOp .not _ x=>match ag t x with
    |some (.raw (.bool q))=>some (.raw (.bool (!q)))
    |_=>none
  | .binOp op ty x y _=>match ag t x with
    |some p=>match ag t y with
      |some q=>qM Φ op ty p q
      |none=>none
    |none=>none
  | .nilCheck x=>match ag t x with
    |some (.bT xs k)=>some (.bT xs k)
    |some (.ptr i k)=>some (.ptr i k)
    |some (.func f c)=>some (.func f c)
    |_=>none
  | .fieldAddr s x f=>bif Nat.blt f 100 then match Φ.fo.get (s*100+f)with
      |some off=>match ag t x with
        |some (.bT xs k)=>some (.bT xs (k+off))
        |some (.ptr i k)=>some (.ptr i (k+off))
        |_=>none
      |none=>none
    else none
  | .load ty x=>match Φ.tk.get ty with
    |some none=>match ag t x with
      |some (.bT xs k)=>xs[k]?
      |some (.ptr i k)=>match σ[i]? with
        |some (some blk)=>blk.xs[k]?
        |_=>none
      |_=>none
    |some (some n)=>match ag t x with
      |some (.bT xs k)=>part xs k n
      |some (.ptr i k)=>match σ[i]? with
        |some (some blk)=>part blk.xs k n
        |_=>none
      |_=>none
    |none=>none
  | .extract x k=>match ag t x with
    |some (.tuple xs)=>xs[k]?
    |_=>none
  | .makeFunc fn fs cs=>match fn with
    | .func f=>match fs.toList with
      | []=>match cT t cs.toList with
        |some xs=>some (.func f xs)
        |none=>none
      |_=>none
    |_=>none
  | .box _ x=>match ag t x with
    |some p=>match eO p with
      |some xs=>some (.bT xs 0)
      |none=>none
    |none=>none
  | .build ty parts=>match Φ.st.get ty with
    |some (pl,z)=>match c9 t parts.toList with
      |some ps=>match er (pl[·]?) (z.map .raw) ps with
        |some xs=>match force xs with
          |some ys=>some (.agg ys)
          |none=>none
        |none=>none
      |none=>none
    |none=>none
  | .buildSlice ty n parts=>match Φ.sl.get ty with
    | some (_, s, z) => bif Nat.blt 0 n && Nat.ble (n * s) 16777216 then match c9 t parts.toList with
        |some ps=>match er (fun i=>some (i*s,s)) (cw (z.map .raw) n) ps with
          |some xs=>match force xs with
            |some ys=>some (.slice n ys)
            |none=>none
          |none=>none
        |none=>none
      else bif Nat.beq n 0&&Nat.beq parts.size 0 then some (.slice 0 []) else none
    |none=>none
  | .call c=>match c.callee with
    | .builtin .len=>match c.args.toList,c.argTypes.toList with
      | [x],[ty]=>match Φ.el.get ty with
        |some _=>match ag t x with
          |some (.slice n _)=>some (.raw (.int .i64 n))
          |some (.raw (.slice none 0 0))=>some (.raw (.int .i64 0))
          |some (.own m)=>match σ[m]? with
            |some (some (.row _ _ n _))=>some (.raw (.int .i64 n))
            |_=>none
          |_=>none
        |none=>none
      |_,_=>none
    |_=>none
  |_=>none
section
variable {P:Program} {σ:bt} {t:aZ} {o:Oper} {Φ:j2}
theorem j1{xs:List PV}{k n:Nat}{p:PV}(h:part xs k n=some p):∃ys,p= .agg ys∧(xs.drop k).take n=ys∧ys.length=n:=by
 unfold part at h
 rw[Bool.cond_eq_ite]at h
 split at h
 ·rename_i hc
  simp only[Bool.and_eq_true]at hc
  have h1:=Nat.eq_of_beq_eq_true hc.1
  have h2:=Nat.eq_of_beq_eq_true hc.2
  subst h1
  cases h
  exact⟨xs,rfl,by rw[List.drop_zero,←h2,List.take_length],h2⟩
 ·split at h
  ·rename_i ys hy
   cases h
   exact⟨ys,rfl,l6 hy⟩
  ·cases h
theorem qN(hΦ:Φ.Ok P){op:BinOp}{x y:Operand}{ty tz:TypeId}{p q r:PV}(ho:o.op= .binOp op ty x y tz)(hx:ag t x=some p)(hy:ag t y=some q)(h:qM Φ op ty p q=some r):ay P σ t o r:=by
 unfold qM at h
 split at h
 ·unfold rG at h
  split at h<;>first|(cases h;done)|skip
  ·cases h;exact qj ho hx hy rfl
  ·cases h;exact rr ho hx hy rfl
  ·cases h;exact ri ho hx hy rfl
  ·cases h;exact rb ho hx hy rfl
  ·cases h;exact rE ho hx hy rfl
  ·cases h;exact rf ho hx hy rfl
 ·split at h
  ·rename_i u hu
   have hb:=hΦ.bk.get hu
   split at h
   ·cases h;exact nn ho hb hx hy rfl
   ·cases h;exact nc ho hb hx hy rfl
   ·cases h
  ·cases h
 ·split at h
  ·rename_i u hu
   have hb:=hΦ.pk.get hu
   split at h
   ·cases h;exact ir ho hb hx hy
   ·cases h;exact nQ ho hb hx hy
   ·cases h
  ·cases h
 ·split at h
  ·rename_i u hu
   have hb:=hΦ.pk.get hu
   split at h
   ·cases h;exact pd ho hb hx hy
   ·cases h
  ·cases h
 ·cases h
theorem j6{α:Type}{a:Array α}{l:List α}(h:a.toList=l):a=l.toArray:=by rw[←h]
theorem n0(s f:Nat):(s*100+f) / 100=s+f / 100∧(s*100+f) % 100=f % 100:=by omega
theorem ew(hΦ:Φ.Ok P){op:Op}{p:PV}(ho:o.op=op)(h:ct Φ σ t op=some p):ay P σ t o p:=by
 unfold ct at h
 split at h
 ·exact bW ho h
 ·exact bR ho h
 ·split at h
  ·rename_i hc;exact pQ ho hc h
  ·rename_i hc;exact pZ ho hc h
  ·cases h
 ·split at h
  ·rename_i hc;cases h;exact rz ho hc
  ·cases h
 ·split at h
  ·rename_i p' hp
   split at h
   ·rename_i q' hq;exact qN hΦ ho hp hq h
   ·cases h
  ·cases h
 ·split at h
  ·rename_i hc;cases h;exact oD ho hc
  ·rename_i hc;cases h;exact cy ho hc
  ·rename_i hc;cases h;exact nh ho hc
  ·cases h
 ·rename_i s x f
  rw[Bool.cond_eq_ite]at h
  split at h
  ·rename_i hf100
   have hf100:=Nat.blt_eq.mp hf100
   split at h
   ·rename_i off hof
    have hf:=hΦ.fo.get hof
    obtain⟨e1,e2⟩:=n0 s f
    rw[e1,e2,Nat.div_eq_of_lt hf100,Nat.mod_eq_of_lt hf100,Nat.add_zero]at hf
    split at h
    ·rename_i hc;cases h;exact lS ho hf hc
    ·rename_i hc;cases h;exact lO ho hf hc
    ·cases h
   ·cases h
  ·cases h
 ·split at h
  ·rename_i htk
   have hk:=hΦ.tk.get htk
   split at h
   ·rename_i hc;exact jm ho hk hc h
   ·rename_i hc
    split at h
    ·rename_i hi;exact cu ho hk hc hi h
    ·cases h
   ·cases h
  ·rename_i n htk
   have hk:=hΦ.tk.get htk
   split at h
   ·rename_i hc
    obtain⟨ys,rfl,h1,h2⟩:=j1 h
    exact db ho hk hc h1 h2
   ·rename_i hc
    split at h
    ·rename_i hi
     obtain⟨ys,rfl,h1,h2⟩:=j1 h
     exact dZ ho hk hc hi h1 h2
    ·cases h
   ·cases h
  ·cases h
 ·split at h
  ·rename_i hc;exact mU ho hc h
  ·cases h
 ·split at h
  ·split at h
   ·rename_i hfs
    split at h
    ·rename_i hc
     cases h
     rw[j6 hfs]at ho
     exact iA ho hc
    ·cases h
   ·cases h
  ·cases h
 ·split at h
  ·rename_i hc
   split at h
   ·rename_i hx;cases h;exact oN ho hc hx
   ·cases h
  ·cases h
 ·split at h
  ·rename_i hst
   have hk:=hΦ.st.get hst
   split at h
   ·rename_i hps
    split at h
    ·rename_i hf
     split at h
     ·rename_i hfo
      cases h
      cases force_eq hfo
      exact dD ho hk hps hf
     ·cases h
    ·cases h
   ·cases h
  ·cases h
 ·split at h
  ·rename_i hsl
   have hk:=hΦ.sl.get hsl
   rw[Bool.cond_eq_ite]at h
   split at h
   ·rename_i hn
    simp only[Bool.and_eq_true,Nat.blt_eq,Nat.ble_eq]at hn
    split at h
    ·rename_i hps
     split at h
     ·rename_i hf
      split at h
      ·rename_i hfo
       cases h
       cases force_eq hfo
       exact kf ho hk hn hps hf
      ·cases h
     ·cases h
    ·cases h
   ·rw[Bool.cond_eq_ite]at h
    split at h
    ·rename_i hn
     simp only[Bool.and_eq_true]at hn
     have h1:=Nat.eq_of_beq_eq_true hn.1
     have h2:=Nat.eq_of_beq_eq_true hn.2
     subst h1
     have h3:=Array.eq_empty_of_size_eq_zero h2
     rw[h3]at ho
     cases h
     exact jZ ho hk
    ·cases h
  ·cases h
 ·rename_i c
  split at h
  ·rename_i hcal
   split at h
   ·rename_i x ty hax hat
    split at h
    ·rename_i hel
     have hk:=hΦ.el.get hel
     have ho':o.op= .call {callee:=.builtin .len,args:= #[x],argTypes:= #[ty]}:=by
      rw[ho]
      obtain⟨c1,c2,c3⟩:=c
      simp only at hcal hax hat
      rw[hcal,j6 hax,j6 hat]
     split at h
     ·rename_i hc;cases h;exact lL ho' hk hc
     ·rename_i hc;cases h;exact oy ho' hk hc
     ·rename_i hc
      split at h
      ·rename_i hi;cases h;exact n9 ho' hk hc hi
      ·cases h
     ·cases h
    ·cases h
   ·cases h
  ·cases h
 ·cases h
theorem gm{t':aZ}:∀ {l:List Operand},(∀x∈l,ag t' x=ag t x)→cT t' l=cT t l
 | [],_=>rfl
 |x::l,h=>by simp only[cT,h x (List.mem_cons_self ..),gm (fun y hy=>h y (List.mem_cons_of_mem _ hy))]
theorem ez{t':aZ}:∀ {l:List (Nat×Operand)},(∀x∈l,ag t' x.2=ag t x.2)→c9 t' l=c9 t l
 | [],_=>rfl
 |(i,x)::l,h=>by simp only[c9,h (i,x) (List.mem_cons_self ..),ez (fun y hy=>h y (List.mem_cons_of_mem _ hy))]
theorem kJ{t':aZ}(op:Op)(h:∀x∈op.operands,ag t' x=ag t x):ct Φ σ t' op=ct Φ σ t op:=by
 cases op with
 |move x=>exact h x (by simp[Op.operands])
 |assign x=>exact h x (by simp[Op.operands])
 |pick c a b=>simp only[ct,h c (by simp[Op.operands]),h a (by simp[Op.operands]),h b (by simp[Op.operands])]
 |unOp u ty x=>cases u<;>simp only[ct,h x (by simp[Op.operands])]
 |binOp b ty x y tz=>simp only[ct,h x (by simp[Op.operands]),h y (by simp[Op.operands])]
 |nilCheck x=>simp only[ct,h x (by simp[Op.operands])]
 |fieldAddr s x f=>simp only[ct,h x (by simp[Op.operands])]
 |load ty x=>simp only[ct,h x (by simp[Op.operands])]
 |extract x k=>simp only[ct,h x (by simp[Op.operands])]
 |box ty x=>simp only[ct,h x (by simp[Op.operands])]
 |makeFunc fn fs cs=>
  have:cT t' cs.toList=cT t cs.toList:=gm fun x hx=>h x (by simp only[Op.operands];exact Array.mem_append_right _ (by simpa using hx))
  simp only[ct,this]
 |build ty ps=>
  have:c9 t' ps.toList=c9 t ps.toList:=ez fun x hx=>h x.2 (by simp only[Op.operands,List.mem_toArray,List.mem_map];exact⟨x,hx,rfl⟩)
  simp only[ct,this]
 |buildSlice ty n ps=>
  have:c9 t' ps.toList=c9 t ps.toList:=ez fun x hx=>h x.2 (by simp only[Op.operands,List.mem_toArray,List.mem_map];exact⟨x,hx,rfl⟩)
  simp only[ct,this]
 |call c=>
  simp only[ct]
  split
  ·split
   ·rename_i x ty hax _
    rw[h x (by simp only[Op.operands,Call.operands];exact Array.mem_append_right _ (by rw[j6 hax];simp))]
   ·rfl
  ·rfl
 |_=>rfl
theorem kZ{ks:List Nat}{k:Nat}(h:k∈ks):look k (dr t ks)=look k t:=by
 cases e:look k (dr t ks)with
 |some p=>exact((dK ks k p e).2).symm
 |none=>
  induction ks with
  |nil=>cases h
  |cons j ks ih=>
   simp only[dr]at e
   by_cases hjk:k=j
   ·subst hjk
    cases hl:look k t with
    |none=>rfl
    |some p=>rw[hl]at e;simp[look,Nat.beq_refl]at e
   ·have hm:k∈ks:=by cases h with|head=>exact absurd rfl hjk|tail _ hh=>exact hh
    split at e
    ·have hb:Nat.beq k j=false:=by rw[Bool.eq_false_iff];exact fun hh=>hjk (Nat.eq_of_beq_eq_true hh)
     simp only[look,hb,cond_false]at e
     exact ih hm e
    ·exact ih hm e
theorem jT{ks:List Nat}{x:Operand}(h:∀k,x= .tmp k→k∈ks):ag (dr t ks) x=ag t x:=by
 cases x with
 |tmp k=>exact kZ (h k rfl)
 |_=>rfl
def o0(Φ:j2)(N:Nat)(ops:Array Oper)(σ:bt)(t:aZ)(o:Oper):Option (Nat×PV):=
 match o.dst with
 |some d=>bif Nat.blt d N then match cK ops t o with
   |some true=>match ct Φ σ t o.op with
    |some p=>some (d,p)
    |none=>none
   |some false=>some (d,.raw undef)
   |none=>none
  else none
 |none=>none
def nZ(Φ:j2)(N:Nat)(ops:Array Oper)(σ:bt):Nat→List Oper→aZ→Option (List Oper×aZ)
 |0,l,t=>some (l,t)
 |_+1,[],_=>none
 |n+1,o::l,t=>match o0 Φ N ops σ t o with
  |some x=>nZ Φ N ops σ n l (x::t)
  |none=>none
variable {N L:Nat} {ops:Array Oper}
theorem cf.a[hP:Has P Φ](n:Nat){l l':List Oper}{u t':aZ}(h:nZ Φ N ops σ n l t=some (l',u))(k:cf P N ops σ l' u t'):cf P N ops σ l t t':=by
 induction n generalizing l t with
 |zero=>cases h;exact k
 |succ n ih=>
  cases l with
  |nil=>cases h
  |cons o l=>
   simp only[nZ]at h
   split at h
   ·rename_i x hx
    have kk:=ih h
    unfold o0 at hx
    split at hx
    ·rename_i d hd
     rw[Bool.cond_eq_ite]at hx
     split at hx
     ·rename_i hN
      split at hx
      ·rename_i hw
       split at hx
       ·rename_i p hp
        cases hx
        exact .val (ew hP.ok rfl hp) hd hw hN kk
       ·cases hx
      ·rename_i hw
       cases hx
       exact .skip hd hw hN kk
      ·cases hx
     ·cases hx
    ·cases hx
   ·cases h
theorem bX.a[hP:Has P Φ](n:Nat){l l':List Oper}{u t':aZ}(h:nZ Φ N ops σ n l t=some (l',u))(k:bX P N ops σ l' u t'):bX P N ops σ l t t':=by
 induction n generalizing l t with
 |zero=>cases h;exact k
 |succ n ih=>
  cases l with
  |nil=>cases h
  |cons o l=>
   simp only[nZ]at h
   split at h
   ·rename_i x hx
    have kk:=ih h
    unfold o0 at hx
    split at hx
    ·rename_i d hd
     rw[Bool.cond_eq_ite]at hx
     split at hx
     ·rename_i hN
      split at hx
      ·rename_i hw
       split at hx
       ·rename_i p hp
        cases hx
        refine .val (o.looksAt ops) (by simp) (ew hP.ok rfl (op:=o.op) ?_) hd hw hN kk
        rw[kJ,hp]
        intro x hx
        refine jT fun k hk=>?_
        subst hk
        exact List.mem_append_left _ (List.mem_filterMap.2 ⟨.tmp k,by simpa using hx,rfl⟩)
       ·cases hx
      ·rename_i hw
       cases hx
       exact .skip hd hw hN kk
      ·cases hx
     ·cases hx
    ·cases hx
   ·cases h
def dk(N:Nat)(ops:Array Oper)(t:aZ)(o:Oper):Option Nat:=
 match o.dst with
 |some d=>bif Nat.blt d N then match cK ops t o with
   |some true=>some d
   |_=>none
  else none
 |none=>none
theorem bZ{d:Nat}(h:dk N ops t o=some d):o.dst=some d∧cK ops t o=some true∧Nat.blt d N=true:=by
 unfold dk at h
 split at h
 ·rename_i d' hd
  rw[Bool.cond_eq_ite]at h
  split at h
  ·rename_i hN
   split at h
   ·rename_i hw;cases h;exact⟨hd,hw,hN⟩
   ·cases h
  ·cases h
 ·cases h
theorem cf.v{rest:List Oper}{t':aZ}{d:Nat}{p:PV}(hy:ay P σ t o p)(h:dk N ops t o=some d)(k:cf P N ops σ rest ((d,p)::t) t'):cf P N ops σ (o::rest) t t':=.val hy (bZ h).1 (bZ h).2.1 (bZ h).2.2 k
theorem bX.v{rest:List Oper}{t':aZ}{d:Nat}{p:PV}(ks:List Nat)(hy:ay P σ (dr t ks) o p)(hk:(ks.all fun k=>(o.looksAt ops).contains k)=true)(h:dk N ops t o=some d)(k:bX P N ops σ rest ((d,p)::t) t'):bX P N ops σ (o::rest) t t':=.val ks hk hy (bZ h).1 (bZ h).2.1 (bZ h).2.2 k
theorem an{rest:List Oper}{K:St→Prop}{d:Nat}{p:PV}(hy:ay P σ t o p)(h:dk N ops t o=some d)(k:WR P N L ops rest ⟨(d,p)::t,σ⟩ K):WR P N L ops (o::rest) ⟨t,σ⟩ K:=av hy (bZ h).1 (bZ h).2.1 (bZ h).2.2 k
theorem aO{rest:List Oper}{σ':bt}{K:St→Prop}{d:Nat}{p:PV}(hy:e6 P σ t o p σ')(h:dk N ops t o=some d)(k:WR P N L ops rest ⟨(d,p)::t,σ'⟩ K):WR P N L ops (o::rest) ⟨t,σ⟩ K:=bu hy (bZ h).1 (bZ h).2.1 (bZ h).2.2 k
def fw(t:aZ):List Nat→Option aZ
 | []=>some []
 |k::ks=>match look k t with
  |some p=>match fw t ks with
   |some r=>some ((k,p)::r)
   |none=>none
  |none=>none
theorem al:∀ {ks:List Nat} {u:aZ},fw t ks=some u→Sub t u
 | [],u,h=>by cases h;exact Sub.nil _
 |k::ks,u,h=>by
  simp only[fw]at h
  split at h
  ·rename_i p hp
   split at h
   ·rename_i r hr
    cases h
    exact .cons hp (al hr)
   ·cases h
  ·cases h
theorem cf.k(ks:List Nat){u:aZ}(h:fw t ks=some u):cf P N ops σ [] t u:=.nil (al h)
theorem bX.k(ks:List Nat){u:aZ}(h:fw t ks=some u):bX P N ops σ [] t u:=.nil (al h)
theorem gU{c:Code}{Q:Exit→St→Prop}(ks:List Nat){u:aZ}(h:fw t ks=some u)(k:W P N L c ⟨u,σ⟩ Q):W P N L c ⟨t,σ⟩ Q:=jJ (al h) k
theorem bd{K:St→Prop}(ks:List Nat){u:aZ}(h:fw t ks=some u)(k:K ⟨u,σ⟩):WR P N L ops [] ⟨t,σ⟩ K:=l0 (al h) (ab k)
def qd:bt→Option Nat
 | []=>some 0
 |_::l=>match qd l with
  |some n=>some (n+1)
  |none=>none
theorem l9:∀ {s:bt} {n:Nat},qd s=some n→s.length=n
 | [],n,h=>by cases h;rfl
 |_::l,n,h=>by
  simp only[qd]at h
  split at h
  ·rename_i m hm;cases h;simp[l9 hm]
  ·cases h
def pB:PV→Bool
 | .raw (.int _ _)=>true
 | .raw (.bool _)=>true
 | .raw (.string _)=>true
 | .raw (.slice _ _ _)=>true
 | .raw (.pointer _)=>true
 | .slice _ _=>true
 | .bT _ _=>true
 | .func _ _=>true
 | .ptr _ _=>true
 | .own _=>true
 |_=>false
theorem oT{p:PV}(h:pB p=true):cJ p:=by
 unfold pB at h
 split at h<;>first|infer_instance|cases h
theorem nY{xs:List PV}(h:xs.all pB=true):cn xs:=⟨fun i u hu=>oT (List.all_eq_true.1 h u (List.mem_of_getElem? hu))⟩
def ma(Φ:j2)(t:aZ)(σ:bt):Op→Option (PV×bt)
  | .alloc ty=>match Φ.zk.get ty with
    |some z=>match force (z.map PV.raw)with
      |some z'=>match qd σ with
        |some n=>match force (σ++[some (.cells ty z')])with
          |some s=>some (.ptr n 0,s)
          |none=>none
        |none=>none
      |none=>none
    |none=>none
  | .store ty x y=>match Φ.tk.get ty with
    | some k => match ag t x with
      | some (.ptr i off) => match ag t y with
        | some p => match σ[i]? with
          | some (some blk) => match eO p with
            |some ys=>match force ys with
              |some ys=>bif Nat.beq ys.length (k.getD 1)&&(Nat.ble (off+ys.length) blk.xs.length&&ys.all pB) then match force (over blk.xs off ys)with
                  |some zs=>match force (σ.set i (some (blk.ko zs)))with
                    |some s=>some (.raw undef,s)
                    |none=>none
                  |none=>none
                else none
              |none=>none
            |none=>none
          |_=>none
        |none=>none
      |_=>none
    |none=>none
  |_=>none
theorem kP(hΦ : Φ.Ok P){op : Op}{p : PV}{σ' : bt}(ho : o.op = op)(h : ma Φ t σ op = some (p, σ')) : e6 P σ t o p σ' := by
  unfold ma at h
  split at h
  · split at h
    · rename_i hz
      split at h
      · rename_i hz'
        cases force_eq hz'
        split at h
        · rename_i hl
          cases l9 hl
          split at h
          · rename_i hs
            cases force_eq hs
            cases h
            exact fD ho (hΦ.zk.get hz)
          · cases h
        · cases h
      · cases h
    · cases h
  · split at h
    · rename_i hk
      split at h
      · rename_i hx
        split at h
        · rename_i hy
          split at h
          · rename_i hi
            split at h
            · rename_i hc
              split at h
              · rename_i hf
                cases force_eq hf
                rw[Bool.cond_eq_ite]at h
                split at h
                · rename_i hb
                  simp only[Bool.and_eq_true,Nat.ble_eq]at hb
                  have h1:=Nat.eq_of_beq_eq_true hb.1
                  haveI:=nY hb.2.2
                  split at h
                  · rename_i hz
                    cases force_eq hz
                    split at h
                    · rename_i hs
                      cases force_eq hs
                      cases h
                      exact ee ho (hΦ.tk.get hk) hx hy hc h1 hi hb.2.1
                    · cases h
                  · cases h
                · cases h
              · cases h
            · cases h
          · cases h
        · cases h
      · cases h
    · cases h
  · cases h
def qu(Φ:j2)(N:Nat)(ops:Array Oper)(t:aZ)(σ:bt)(o:Oper):Option (aZ×bt):=
 match cK ops t o with
 |some true=>match o.dst with
  |some d=>bif Nat.blt d N then match ct Φ σ t o.op with
    |some p=>some ((d,p)::t,σ)
    |none=>match ma Φ t σ o.op with
     |some (p,s)=>some ((d,p)::t,s)
     |none=>none
   else none
  |none=>match ma Φ t σ o.op with
   |some (_,s)=>some (t,s)
   |none=>none
 |some false=>match o.dst with
  |some d=>bif Nat.blt d N then some ((d,.raw undef)::t,σ) else none
  |none=>none
 |none=>none
def qz(Φ:j2)(N:Nat)(ops:Array Oper):Nat→List Oper→aZ→bt→Option (List Oper×aZ×bt)
 |0,l,t,σ=>some (l,t,σ)
 |_+1,[],_,_=>none
 |n+1,o::l,t,σ=>match qu Φ N ops t σ o with
  |some (t',σ')=>qz Φ N ops n l t' σ'
  |none=>none
theorem aK[hP:Has P Φ](n:Nat){l l':List Oper}{u:aZ}{σ':bt}{K:St→Prop}(h:qz Φ N ops n l t σ=some (l',u,σ'))(k:WR P N L ops l' ⟨u,σ'⟩ K):WR P N L ops l ⟨t,σ⟩ K:=by
 induction n generalizing l t σ with
 |zero=>cases h;exact k
 |succ n ih=>
  cases l with
  |nil=>cases h
  |cons o l=>
   simp only[qz]at h
   split at h
   ·rename_i t' s' hx
    have kk:=ih h
    unfold qu at hx
    split at hx
    ·rename_i hw
     split at hx
     ·rename_i d hd
      rw[Bool.cond_eq_ite]at hx
      split at hx
      ·rename_i hN
       split at hx
       ·rename_i p hp
        cases hx
        exact av (ew hP.ok rfl hp) hd hw hN kk
       ·split at hx
        ·rename_i hs
         cases hx
         exact bu (kP hP.ok rfl hs) hd hw hN kk
        ·cases hx
      ·cases hx
     ·rename_i hd
      split at hx
      ·rename_i hs
       cases hx
       exact bc (kP hP.ok rfl hs) hd hw kk
      ·cases hx
    ·rename_i hw
     split at hx
     ·rename_i d hd
      rw[Bool.cond_eq_ite]at hx
      split at hx
      ·rename_i hN
       cases hx
       exact mg hd hw hN kk
      ·cases hx
     ·cases hx
    ·cases hx
   ·cases h
def gj(Φ:j2)(t:aZ):Op→Option (Nat×List PV)
  | .call c=>match c.callee with
    | .value x=>match ag t x with
      | some (.func f cap) => match Φ.en.get f with
        |some _=>match cT t c.args.toList with
          |some ps=>match cap with
            | []=>some (f,ps)
            |q::cap=>match force (ps++(q::cap))with
              |some qs=>some (f,qs)
              |none=>none
          |none=>none
        |none=>none
      |_=>none
    |_=>none
  |_=>none
theorem dU(hΦ:Φ.Ok P){op:Op}{f:Nat}{ps:List PV}(h:gj Φ t op=some (f,ps)):∃x args ats cap qs,op= .call {callee:=.value x,args:=args,argTypes:=ats}∧enters P f=true∧ag t x=some (.func f cap)∧cT t args.toList=some qs∧qs++cap=ps:=by
 unfold gj at h
 split at h
 ·rename_i c
  obtain⟨c1,c2,c3⟩:=c
  split at h
  ·rename_i x hx
   simp only at hx
   subst hx
   split at h
   ·rename_i hf
    split at h
    ·rename_i hen
     split at h
     ·rename_i qs hq
      split at h
      ·cases h;exact⟨_,_,_,_,_,rfl,hΦ.en.get hen,hf,hq,by simp⟩
      ·split at h
       ·rename_i hfo
        cases h;exact⟨_,_,_,_,_,rfl,hΦ.en.get hen,hf,hq,force_eq hfo⟩
       ·cases h
     ·cases h
    ·cases h
   ·cases h
  ·cases h
 ·cases h
theorem cH[hP:Has P Φ]{f:Nat}{ps:List PV}{r:PV}(h:gj Φ t o.op=some (f,ps))(hc:Can P f ps (· =r))[hp:ao ps]:ay P σ t o r:=by
 obtain⟨x,args,ats,cap,qs,ho,hen,hx,hq,rfl⟩:=dU hP.ok h
 exact lK ho hen hx hq hc
theorem qB[hP:Has P Φ]{f:Nat}{ps qs:List PV}{r:PV}(h:gj Φ t o.op=some (f,ps))(hq:aI σ ps qs)(hc:Can P f qs (· =r))[hp:fS r]:ay P σ t o r:=by
 obtain⟨x,args,ats,cap,ps',ho,hen,hx,he,rfl⟩:=dU hP.ok h
 exact pF ho hen hx he hq hc
theorem rP[hP:Has P Φ]{f:Nat}{ps qs:List PV}{r:PV}(h:gj Φ t o.op=some (f,ps))(hq:aI [] ps qs)(hc:Can P f qs (· =r)):ay P σ t o r:=by
 obtain⟨x,args,ats,cap,ps',ho,hen,hx,he,rfl⟩:=dU hP.ok h
 exact pY ho hen hx he hq hc
theorem cf.c[Has P Φ]{rest:List Oper}{t':aZ}{d f:Nat}{ps:List PV}{r:PV}(h:gj Φ t o.op=some (f,ps))(hc:Can P f ps (· =r))(hd:dk N ops t o=some d)(k:cf P N ops σ rest ((d,r)::t) t')[ao ps]:cf P N ops σ (o::rest) t t':=.v (cH h hc) hd k
theorem j4[Has P Φ]{rest:List Oper}{K:St→Prop}{d f:Nat}{ps:List PV}{r:PV}(h:gj Φ t o.op=some (f,ps))(hc:Can P f ps (· =r))(hd:dk N ops t o=some d)(k:WR P N L ops rest ⟨(d,r)::t,σ⟩ K)[ao ps]:WR P N L ops (o::rest) ⟨t,σ⟩ K:=an (cH h hc) hd k
theorem bQ[hP:Has P Φ]{rest:List Oper}{K:St→Prop}{d f:Nat}{ps:List PV}(h:gj Φ t o.op=some (f,ps))(hd:dk N ops t o=some d)(hc:bG P f ps σ (fun r σ'=>WR P N L ops rest ⟨(d,r)::t,σ'⟩ K)):WR P N L ops (o::rest) ⟨t,σ⟩ K:=by
 obtain⟨x,args,ats,cap,ps',ho,hen,hx,he,rfl⟩:=dU hP.ok h
 exact pe ho hen hx he (bZ hd).1 (bZ hd).2.1 (bZ hd).2.2 hc
theorem et[hP:Has P Φ]{b q:Bool}(h:ct Φ σ t o.op=some (.raw (.bool b)))(hq:b=q):ay P σ t o (.raw (.bool q)):=by subst hq;exact ew hP.ok rfl h
def rX(t:aZ):Op→Option Int
 | .binOp op _ x y _=>match ag t x with
  |some (.raw (.int .i64 a))=>match ag t y with
   |some (.raw (.int .i64 b))=>match op with
    | .add=>some (a+b)
    | .sub=>some (a - b)
    | .mul=>some (a*b)
    |_=>none
   |_=>none
  |_=>none
 |_=>none
theorem bA{a:Int}(h:rX t o.op=some a){c:Int}(hc:a=c:=by exact rfl)(hn:In64 c:=by unfold In64;omega):ay P σ t o (.raw (.int .i64 c)):=by
 subst hc
 unfold rX at h
 split at h
 ·rename_i ho
  split at h
  ·rename_i hx
   split at h
   ·rename_i hy
    split at h
    ·cases h;exact rv ho hx hy rfl hn
    ·cases h;exact rC ho hx hy rfl hn
    ·cases h;exact rp ho hx hy rfl hn
    ·cases h
   ·cases h
  ·cases h
 ·cases h
def r4(Φ:j2)(σ:bt)(t:aZ):Op→Option (Int×Nat×Nat×(Nat→PV))
 | .indexAddr ty x ix=>match ag t ix with
  |some (.raw (.int _ i))=>match Φ.el.get ty with
   |some (_,s)=>match ag t x with
    |some (.slice n xs)=>some (i,n,s,fun j=>.bT xs j)
    |some (.own m)=>match σ[m]? with
     |some (some (.row _ _ n _))=>some (i,n,s,fun j=>.ptr m j)
     |_=>none
    |_=>none
   |none=>match Φ.ar.get ty with
    |some (n,s)=>match ag t x with
     |some (.bT xs off)=>some (i,n,s,fun j=>.bT xs (off+j))
     |_=>none
    |none=>none
  |_=>none
 |_=>none
theorem bf[hP:Has P Φ]{i:Int}{n s:Nat}{g:Nat→PV}(j:Nat)(h:r4 Φ σ t o.op=some (i,n,s,g))(h0:0≤i:=by omega)(h1:i<n:=by omega)(hj:i.toNat*s=j:=by omega):ay P σ t o (g j):=by
 unfold r4 at h
 split at h
 ·rename_i ho
  split at h
  ·rename_i hix
   split at h
   ·rename_i hel
    have hk:=hP.ok.el.get hel
    split at h
    ·rename_i hx;cases h;exact j9 ho hk hx hix h0 h1 hj
    ·rename_i hx
     split at h
     ·rename_i hi;cases h;exact lB ho hk hx hi hix h0 h1 hj
     ·cases h
    ·cases h
   ·split at h
    ·rename_i har
     have hk:=hP.ok.ar.get har
     split at h
     ·rename_i hx;cases h;exact iW ho hk hx hix h0 h1 hj
     ·cases h
    ·cases h
  ·cases h
 ·cases h
def rL(Φ:j2)(σ:bt)(t:aZ):Op→Option (List PV×Nat×Option Nat)
 | .load ty x=>match Φ.tk.get ty with
  |some k=>match ag t x with
   |some (.bT xs o)=>some (xs,o,k)
   |some (.ptr i o)=>match σ[i]? with
    |some (some blk)=>some (blk.xs,o,k)
    |_=>none
   |_=>none
  |none=>none
 |_=>none
theorem aN[hP:Has P Φ]{xs:List PV}{k:Nat}{p:PV}(h:rL Φ σ t o.op=some (xs,k,none))(hp:xs[k]? =some p):ay P σ t o p:=by
 unfold rL at h
 split at h
 ·rename_i ho
  split at h
  ·rename_i htk
   have hk:=hP.ok.tk.get htk
   split at h
   ·rename_i hx;cases h;exact jm ho hk hx hp
   ·rename_i hx
    split at h
    ·rename_i hi;cases h;exact cu ho hk hx hi hp
    ·cases h
   ·cases h
  ·cases h
 ·cases h
theorem nD[hP:Has P Φ]{xs ys:List PV}{k n:Nat}(h:rL Φ σ t o.op=some (xs,k,some n))(hp:(xs.drop k).take n=ys)(hn:ys.length=n):ay P σ t o (.agg ys):=by
 unfold rL at h
 split at h
 ·rename_i ho
  split at h
  ·rename_i htk
   have hk:=hP.ok.tk.get htk
   split at h
   ·rename_i hx;cases h;exact db ho hk hx hp hn
   ·rename_i hx
    split at h
    ·rename_i hi;cases h;exact dZ ho hk hx hi hp hn
    ·cases h
   ·cases h
  ·cases h
 ·cases h
def rD(Φ:j2)(st:St):ResultVar→Option PV
 | .tmp k=>look k st.t
 | .cell k ty=>match look k st.t with
  |some (.ptr i off)=>match st.σ[i]? with
   |some (some blk)=>match Φ.tk.get ty with
    |some none=>blk.xs[off]?
    |some (some n)=>part blk.xs off n
    |none=>none
   |_=>none
  |_=>none
def qL(Φ:j2)(st:St):List ResultVar→Option (List PV)
 | []=>some []
 |r::rs=>match rD Φ st r with
  |some p=>match qL Φ st rs with
   |some ps=>some (p::ps)
   |none=>none
  |none=>none
theorem aL.of[hP:Has P Φ]{st:St}:∀ {rs:List ResultVar} {ps:List PV},qL Φ st rs=some ps→aL P st rs ps
 | [],ps,h=>by cases h;exact .nil
 |r::rs,ps,h=>by
  simp only[qL]at h
  split at h
  ·rename_i p hp
   split at h
   ·rename_i ps' hps
    cases h
    refine .cons ?_ (aL.of hps)
    unfold rD at hp
    split at hp
    ·exact .tmp hp
    ·split at hp
     ·rename_i hl
      split at hp
      ·rename_i hi
       split at hp
       ·rename_i htk;exact .qm hl hi (hP.ok.tk.get htk) hp
       ·rename_i htk
        obtain⟨ys,rfl,h1,h2⟩:=j1 hp
        exact .qo hl hi (hP.ok.tk.get htk) h1 h2
       ·cases hp
      ·cases hp
     ·cases hp
   ·cases h
  ·cases h
def pa:List Nat→Nat→Option Nat
 | [],_=>none
 |x::l,j=>bif Nat.beq x j then some 0 else match pa l j with
  |some n=>some (n+1)
  |none=>none
theorem jP:∀ {fs:List Nat} {j i:Nat},pa fs j=some i→fs[i]? =some j
 | [],_,_,h=>by cases h
 |x::l,j,i,h=>by
  simp only[pa,Bool.cond_eq_ite]at h
  split at h
  ·rename_i he;cases h;cases Nat.eq_of_beq_eq_true he;rfl
  ·split at h
   ·rename_i n hn;cases h;simpa using jP hn
   ·cases h
theorem Ren.rn{fs:List Nat}{i j:Nat}(h:pa fs j=some i):Ren fs (.own i) (.own j):=.own (jP h)
theorem Ren.rA{fs:List Nat}{i j k:Nat}(h:pa fs j=some i):Ren fs (.ptr i k) (.ptr j k):=.ptr (jP h)
theorem gb.c{fs:List Nat}{t t':aZ}{p p':PV}(k:Nat)(rest:gb fs t t')(h:look k t=some p:=by exact rfl)(hr:Ren fs p' p:=by first|exact Ren.pure|exact Ren.rn rfl|exact Ren.rA rfl):gb fs t ((k,p')::t'):=.cons k h hr rest
theorem aw.c{fs:List Nat}{x y:PV}{xs ys:List PV}(rest:aw fs xs ys)(hr:Ren fs x y:=by first|exact Ren.pure|exact Ren.rn rfl|exact Ren.rA rfl):aw fs (x::xs) (y::ys):=aw.cons hr rest
theorem bg[hP:Has P Φ]{p:PV}(h:ct Φ σ t o.op=some p):ay P σ t o p:=ew hP.ok rfl h
def iF(N:Nat)(l:List Oper):Bool:=Region.lexB .any l.toArray&&l.all fun o=>o.dst.all fun e=>decide (e<N)
theorem eL{l:List Oper}(h:iF N l=true):Region.lexB .any l.toArray=true∧(l.all fun o=>o.dst.all fun e=>decide (e<N)&&(l.filterMap (·.dst)).contains e)=true∧((l.filterMap (·.dst)).all fun e=>decide (e<N))=true:=by
 unfold iF at h
 simp only[Bool.and_eq_true,List.all_eq_true]at h
 refine⟨h.1,List.all_eq_true.2 fun o ho=>?_,List.all_eq_true.2 fun e he=>?_⟩
 ·have h2:=h.2 o ho
  cases hd:o.dst with
  |none=>rfl
  |some e=>
   rw[hd]at h2
   simp only[Option.all_some,Bool.and_eq_true,List.contains_iff_mem,List.mem_filterMap]at h2 ⊢
   exact⟨h2,o,ho,hd⟩
 ·obtain⟨o,ho,hd⟩:=List.mem_filterMap.1 he
  have h2:=h.2 o ho
  rw[hd]at h2
  exact h2
theorem rU{id:Nat}{l:List Oper}{t':aZ}{Q:Exit→St→Prop}(hm:P.follows .mixedOrders=true)(hB:iF N l=true)(h:bX P N l.toArray σ l t t')(hq:Q .normal ⟨t',σ⟩):W P N L (.region id l.toArray true) ⟨t,σ⟩ Q:=qy _ hm (eL hB).1 (eL hB).2.1 (eL hB).2.2 h hq
theorem fa{id:Nat}{l:List Oper}{y:Code}{t':aZ}{Q:Exit→St→Prop}(hm:P.follows .mixedOrders=true)(hB:iF N l=true)(h:bX P N l.toArray σ l t t')(hq:W P N L y ⟨t',σ⟩ Q):W P N L (.seq (.region id l.toArray true) y) ⟨t,σ⟩ Q:=ak (rU hm hB h hq)
theorem b4{id:Nat}{l:List Oper}{y:Code}{u:aZ}{Q:Exit→St→Prop}(k:Nat)(p:PV)(ks:List Nat)(_:fw t ks=some u)(h:cf P N l.toArray σ l t ((k,p)::u))(hq:W P N L y ⟨(k,p)::u,σ⟩ Q):W P N L (.seq (.region id l.toArray false) y) ⟨t,σ⟩ Q:=ai h hq
theorem qO{id:Nat}{l:List Oper}{y:Code}{u:aZ}{Q:Exit→St→Prop}(hm:P.follows .mixedOrders=true)(hB:iF N l=true)(k:Nat)(p:PV)(ks:List Nat)(_:fw t ks=some u)(h:bX P N l.toArray σ l t ((k,p)::u))(hq:W P N L y ⟨(k,p)::u,σ⟩ Q):W P N L (.seq (.region id l.toArray true) y) ⟨t,σ⟩ Q:=fa hm hB h hq
def Tr.keys{α:Type}:Tr α→List Nat
 | .l=>[]
 | .n a k _ b=>a.keys++k::b.keys
def Tr.np{α:Type}:Tr α→List α
 | .l=>[]
 | .n a _ v b=>a.np++v::b.np
theorem Tr.gW{α:Type}:∀(t:Tr α),t.keys.length=t.np.length
 | .l=>rfl
 | .n a _ _ b=>by simp[Tr.keys,Tr.np,Tr.gW a,Tr.gW b]
theorem Tr.of{α:Type}(f:Nat→Option α):∀ {t:Tr α},t.keys.map f=t.np.map some→t.kl fun k v=>f k=some v
 | .l,_=>.l
 | .n a k v b,h=>by
  simp only[Tr.keys,Tr.np,List.map_append,List.map_cons]at h
  obtain⟨h1,h2⟩:=List.append_inj h (by simp[Tr.gW])
  simp only[List.cons.injEq]at h2
  exact .n (Tr.of f h1) h2.1 (Tr.of f h2.2)
theorem Tr.rB{α:Type}(f:Nat→Bool):∀ {t:Tr α},t.keys.all f=true→t.kl fun k _=>f k=true
 | .l,_=>.l
 | .n a k v b,h=>by
  simp only[Tr.keys,List.all_append,List.all_cons,Bool.and_eq_true]at h
  exact .n (Tr.rB f h.1) h.2.1 (Tr.rB f h.2.2)
end
end
section
set_option maxRecDepth 100000
abbrev tq{α:Type}(k:Nat)(v:α):Tr α:=.n .l k v .l
def sk:Tr (Option Nat):=.n (.n (.n (.n (.n (.n (.n (tq 0 none) 1 none .l) 2 none (.n (tq 3 none) 4 none .l)) 5 none (.n (.n (tq 7 (some 4)) 9 none .l) 12 none (tq 13 (some 2)))) 15 none (.n (.n (.n (tq 16 none) 17 none .l) 18 (some 1) (tq 20 none)) 21 none (.n (.n (tq 22 none) 23 none .l) 24 (some 3) (tq 25 (some 3))))) 26 none (.n (.n (.n (.n (tq 27 none) 28 none .l) 29 (some 3) (tq 30 (some 3))) 31 (some 2) (.n (.n (tq 32 (some 2)) 33 none .l) 34 none (tq 35 none))) 36 none (.n (.n (.n (tq 37 (some 3)) 38 (some 3) .l) 39 (some 2) (tq 40 none)) 41 none (.n (.n (tq 42 none) 43 none .l) 44 none (tq 45 none))))) 46 none (.n (.n (.n (.n (.n (tq 47 (some 3)) 48 (some 3) .l) 49 none (tq 50 none)) 51 (some 6) (.n (.n (tq 52 (some 6)) 53 none .l) 54 none (tq 55 none))) 56 none (.n (.n (.n (tq 57 (some 2)) 58 (some 7) .l) 59 (some 7) (tq 60 none)) 61 none (.n (.n (tq 62 (some 5)) 63 none .l) 64 none (tq 65 none)))) 66 (some 2) (.n (.n (.n (.n (tq 67 (some 2)) 68 none .l) 69 none (tq 70 none)) 71 none (.n (.n (tq 72 none) 73 none .l) 74 none (tq 75 none))) 76 none (.n (.n (.n (tq 77 none) 78 none .l) 79 none (tq 80 none)) 81 none (.n (.n (tq 82 none) 83 none .l) 84 none (tq 85 none)))))) 86 none (.n (.n (.n (.n (.n (.n (tq 87 none) 88 none .l) 89 none (tq 90 none)) 91 none (.n (.n (tq 92 none) 93 none .l) 94 none (tq 95 none))) 96 none (.n (.n (.n (tq 97 none) 98 none .l) 99 none (tq 100 none)) 101 none (.n (.n (tq 102 none) 103 none .l) 104 none (tq 105 none)))) 106 none (.n (.n (.n (.n (tq 107 none) 108 none .l) 109 none (tq 110 none)) 111 none (.n (.n (tq 112 none) 113 none .l) 114 none (tq 115 none))) 116 none (.n (.n (.n (tq 117 none) 118 none .l) 119 none (tq 120 none)) 121 none (.n (.n (tq 122 none) 123 none .l) 124 none (tq 125 none))))) 126 (some 24) (.n (.n (.n (.n (.n (tq 127 none) 128 none .l) 129 none (tq 130 none)) 131 none (.n (.n (tq 132 none) 133 none .l) 134 none (tq 135 none))) 136 none (.n (.n (.n (tq 137 none) 138 none .l) 139 (some 7) (tq 140 (some 7))) 141 none (.n (.n (tq 142 none) 143 none .l) 144 (some 20) (tq 145 none)))) 146 (some 65) (.n (.n (.n (.n (tq 147 none) 148 none .l) 149 none (tq 150 none)) 151 none (.n (.n (tq 152 none) 153 none .l) 154 none (tq 155 none))) 156 none (.n (.n (.n (tq 157 (some 3)) 158 (some 3) .l) 159 (some 32) (tq 160 (some 64))) 161 none (.n (.n (tq 162 none) 163 (some 4) .l) 165 (some 0) (tq 166 (some 0)))))))
def se:Tr (Nat):=.n (.n (.n (.n (.n (.n (tq 700 0) 701 1 .l) 702 2 (.n (tq 703 3) 1300 0 .l)) 1301 1 (.n (.n (tq 1800 0) 2400 0 .l) 2401 1 (tq 2402 2))) 2500 0 (.n (.n (.n (tq 2501 1) 2502 2 .l) 2900 0 (tq 2901 1)) 2902 2 (.n (.n (tq 3000 0) 3001 1 .l) 3002 2 (tq 3100 0)))) 3101 1 (.n (.n (.n (.n (tq 3200 0) 3201 1 .l) 3700 0 (.n (tq 3701 1) 3702 2 .l)) 3800 0 (.n (.n (tq 3801 1) 3802 2 .l) 4700 0 (tq 4701 1))) 4702 2 (.n (.n (.n (tq 4800 0) 4801 1 .l) 4802 2 (tq 5100 0)) 5101 1 (.n (.n (tq 5102 2) 5103 3 .l) 5104 4 (tq 5105 5))))) 5200 0 (.n (.n (.n (.n (.n (tq 5201 1) 5202 2 .l) 5203 3 (.n (tq 5204 4) 5205 5 .l)) 5800 0 (.n (.n (tq 5801 1) 5802 2 .l) 5803 4 (tq 5804 5))) 5805 6 (.n (.n (.n (tq 5900 0) 5901 1 .l) 5902 2 (tq 5903 4)) 5904 5 (.n (.n (tq 5905 6) 6600 0 .l) 6601 1 (tq 6700 0)))) 6701 1 (.n (.n (.n (.n (tq 13900 0) 13901 3 .l) 13902 4 (.n (tq 13903 5) 13904 6 .l)) 14000 0 (.n (.n (tq 14001 3) 14002 4 .l) 14003 5 (tq 14004 6))) 15700 0 (.n (.n (.n (tq 15701 1) 15702 2 .l) 15800 0 (tq 15801 1)) 15802 2 (.n (.n (tq 16300 0) 16301 1 .l) 16302 2 (tq 16303 3)))))
def sb:Tr (Nat×Nat):=.n (.n (.n (tq 22 (30,3)) 23 (3,1) .l) 28 (32,2) (.n (tq 35 (4,1)) 36 (59,7) .l)) 44 (25,3) (.n (.n (tq 65 (5,1)) 69 (9,1) .l) 132 (28,1) (tq 135 (23,1)))
def r9:Tr (List (Nat×Nat)×List Value):=.n (.n (.n (.n (tq 7 ([(0,1),(1,1),(2,1),(3,1)],[.int .i64 0,.int .i64 0,.bool false,.int .u8 0])) 13 ([(0,1),(1,1)],[.string ⟨#[]⟩,.int .u64 0]) (tq 18 ([(0,1)],[.pointer none]))) 24 ([(0,1),(1,1),(2,1)],[.int .i64 0,.slice none 0 0,.slice none 0 0]) (.n (tq 25 ([(0,1),(1,1),(2,1)],[.int .i64 0,.slice none 0 0,.slice none 0 0])) 29 ([(0,1),(1,1),(2,1)],[.slice none 0 0,.bool false,.slice none 0 0]) .l)) 30 ([(0,1),(1,1),(2,1)],[.slice none 0 0,.bool false,.slice none 0 0]) (.n (.n (tq 31 ([(0,1),(1,1)],[.int .i64 0,.int .i64 0])) 32 ([(0,1),(1,1)],[.int .i64 0,.int .i64 0]) .l) 37 ([(0,1),(1,1),(2,1)],[.int .i64 0,.slice none 0 0,.slice none 0 0]) (.n (tq 38 ([(0,1),(1,1),(2,1)],[.int .i64 0,.slice none 0 0,.slice none 0 0])) 47 ([(0,1),(1,1),(2,1)],[.int .i64 0,.int .i64 0,.slice none 0 0]) .l))) 48 ([(0,1),(1,1),(2,1)],[.int .i64 0,.int .i64 0,.slice none 0 0]) (.n (.n (.n (tq 51 ([(0,1),(1,1),(2,1),(3,1),(4,1),(5,1)],[.int .i64 0,.int .i64 0,.int .i64 0,.int .i64 0,.slice none 0 0,.int .i64 0])) 52 ([(0,1),(1,1),(2,1),(3,1),(4,1),(5,1)],[.int .i64 0,.int .i64 0,.int .i64 0,.int .i64 0,.slice none 0 0,.int .i64 0]) (tq 58 ([(0,1),(1,1),(2,2),(4,1),(5,1),(6,1)],[.int .i64 0,.int .i64 0,.int .i64 0,.int .i64 0,.int .i64 0,.int .i64 0,.int .i64 0]))) 59 ([(0,1),(1,1),(2,2),(4,1),(5,1),(6,1)],[.int .i64 0,.int .i64 0,.int .i64 0,.int .i64 0,.int .i64 0,.int .i64 0,.int .i64 0]) (.n (tq 66 ([(0,1),(1,1)],[.pointer none,.slice none 0 0])) 67 ([(0,1),(1,1)],[.pointer none,.slice none 0 0]) .l)) 139 ([(0,3),(3,1),(4,1),(5,1),(6,1)],[.int .i64 0,.slice none 0 0,.slice none 0 0,.slice none 0 0,.int .i64 0,.nilFunc,.nilFunc]) (.n (.n (tq 140 ([(0,3),(3,1),(4,1),(5,1),(6,1)],[.int .i64 0,.slice none 0 0,.slice none 0 0,.slice none 0 0,.int .i64 0,.nilFunc,.nilFunc])) 157 ([(0,1),(1,1),(2,1)],[.slice none 0 0,.slice none 0 0,.slice none 0 0]) .l) 158 ([(0,1),(1,1),(2,1)],[.slice none 0 0,.slice none 0 0,.slice none 0 0]) (.n (tq 163 ([(0,1),(1,1),(2,1),(3,1)],[.pointer none,.pointer none,.pointer none,.string ⟨#[]⟩])) 166 ([(0,0)],[]) .l)))
def r8:Tr (Nat×Nat×List Value):=.n (.n (.n (tq 22 (30,3,[.slice none 0 0,.bool false,.slice none 0 0])) 23 (3,1,[.int .i64 0]) .l) 28 (32,2,[.int .i64 0,.int .i64 0]) (.n (tq 35 (4,1,[.bool false])) 36 (59,7,[.int .i64 0,.int .i64 0,.int .i64 0,.int .i64 0,.int .i64 0,.int .i64 0,.int .i64 0]) .l)) 44 (25,3,[.int .i64 0,.slice none 0 0,.slice none 0 0]) (.n (.n (tq 65 (5,1,[.int .u8 0])) 69 (9,1,[.string ⟨#[]⟩]) .l) 132 (28,1,[.slice none 0 0]) (tq 135 (23,1,[.slice none 0 0])))
def r6:Tr (Nat×Nat×Nat×List Value):=.n (.n (.n (tq 22 (30,3,56,[.slice none 0 0,.bool false,.slice none 0 0])) 23 (3,1,8,[.int .i64 0]) .l) 28 (32,2,16,[.int .i64 0,.int .i64 0]) (.n (tq 35 (4,1,1,[.bool false])) 36 (59,7,56,[.int .i64 0,.int .i64 0,.int .i64 0,.int .i64 0,.int .i64 0,.int .i64 0,.int .i64 0]) .l)) 44 (25,3,56,[.int .i64 0,.slice none 0 0,.slice none 0 0]) (.n (.n (tq 65 (5,1,1,[.int .u8 0])) 69 (9,1,16,[.string ⟨#[]⟩]) .l) 132 (28,1,24,[.slice none 0 0]) (tq 135 (23,1,24,[.slice none 0 0])))
def sa:Tr (List Value):=.n (.n (.n (.n (.n (.n (tq 2 [.int .i64 0]) 3 [.int .i64 0] .l) 4 [.bool false] (tq 5 [.int .u8 0])) 7 [.int .i64 0,.int .i64 0,.bool false,.int .u8 0] (.n (tq 9 [.string ⟨#[]⟩]) 12 [.int .u64 0] (tq 13 [.string ⟨#[]⟩,.int .u64 0]))) 15 [.pointer none] (.n (.n (tq 16 [.pointer none]) 17 [.pointer none] (tq 18 [.pointer none])) 20 [.nilIface] (.n (tq 21 [.int .i32 0]) 22 [.slice none 0 0] (tq 23 [.slice none 0 0])))) 24 [.int .i64 0,.slice none 0 0,.slice none 0 0] (.n (.n (.n (tq 25 [.int .i64 0,.slice none 0 0,.slice none 0 0]) 28 [.slice none 0 0] (tq 29 [.slice none 0 0,.bool false,.slice none 0 0])) 30 [.slice none 0 0,.bool false,.slice none 0 0] (.n (tq 31 [.int .i64 0,.int .i64 0]) 32 [.int .i64 0,.int .i64 0] (tq 35 [.slice none 0 0]))) 36 [.slice none 0 0] (.n (.n (tq 37 [.int .i64 0,.slice none 0 0,.slice none 0 0]) 38 [.int .i64 0,.slice none 0 0,.slice none 0 0] (tq 39 [.int .u8 0,.int .u8 0])) 41 [.int .i64 0] (.n (tq 44 [.slice none 0 0]) 47 [.int .i64 0,.int .i64 0,.slice none 0 0] (tq 48 [.int .i64 0,.int .i64 0,.slice none 0 0]))))) 51 [.int .i64 0,.int .i64 0,.int .i64 0,.int .i64 0,.slice none 0 0,.int .i64 0] (.n (.n (.n (.n (.n (tq 52 [.int .i64 0,.int .i64 0,.int .i64 0,.int .i64 0,.slice none 0 0,.int .i64 0]) 57 [.int .i64 0,.int .i64 0] .l) 58 [.int .i64 0,.int .i64 0,.int .i64 0,.int .i64 0,.int .i64 0,.int .i64 0,.int .i64 0] (tq 59 [.int .i64 0,.int .i64 0,.int .i64 0,.int .i64 0,.int .i64 0,.int .i64 0,.int .i64 0])) 62 [.string ⟨#[]⟩,.string ⟨#[]⟩,.string ⟨#[]⟩,.string ⟨#[]⟩,.string ⟨#[]⟩] (.n (tq 64 [.pointer none]) 65 [.slice none 0 0] (tq 66 [.pointer none,.slice none 0 0]))) 67 [.pointer none,.slice none 0 0] (.n (.n (tq 69 [.slice none 0 0]) 73 [.int .u64 0] (tq 79 [.map none])) 95 [.nilIface] (.n (tq 96 [.nilIface]) 102 [.pointer none] (tq 103 [.int .u64 0])))) 106 [.pointer none] (.n (.n (.n (tq 124 [.pointer none]) 126 [.int .u8 0,.int .u8 0,.int .u8 0,.int .u8 0,.int .u8 0,.int .u8 0,.int .u8 0,.int .u8 0,.int .u8 0,.int .u8 0,.int .u8 0,.int .u8 0,.int .u8 0,.int .u8 0,.int .u8 0,.int .u8 0,.int .u8 0,.int .u8 0,.int .u8 0,.int .u8 0,.int .u8 0,.int .u8 0,.int .u8 0,.int .u8 0] (tq 132 [.slice none 0 0])) 135 [.slice none 0 0] (.n (tq 139 [.int .i64 0,.slice none 0 0,.slice none 0 0,.slice none 0 0,.int .i64 0,.nilFunc,.nilFunc]) 140 [.int .i64 0,.slice none 0 0,.slice none 0 0,.slice none 0 0,.int .i64 0,.nilFunc,.nilFunc] (tq 144 [.int .u64 0,.int .u64 0,.int .u64 0,.int .u64 0,.int .u64 0,.int .u64 0,.int .u64 0,.int .u64 0,.int .u64 0,.int .u64 0,.int .u64 0,.int .u64 0,.int .u64 0,.int .u64 0,.int .u64 0,.int .u64 0,.int .u64 0,.int .u64 0,.int .u64 0,.int .u64 0]))) 145 [.int .u32 0] (.n (.n (tq 148 [.pointer none]) 157 [.slice none 0 0,.slice none 0 0,.slice none 0 0] (tq 158 [.slice none 0 0,.slice none 0 0,.slice none 0 0])) 159 [.int .u8 0,.int .u8 0,.int .u8 0,.int .u8 0,.int .u8 0,.int .u8 0,.int .u8 0,.int .u8 0,.int .u8 0,.int .u8 0,.int .u8 0,.int .u8 0,.int .u8 0,.int .u8 0,.int .u8 0,.int .u8 0,.int .u8 0,.int .u8 0,.int .u8 0,.int .u8 0,.int .u8 0,.int .u8 0,.int .u8 0,.int .u8 0,.int .u8 0,.int .u8 0,.int .u8 0,.int .u8 0,.int .u8 0,.int .u8 0,.int .u8 0,.int .u8 0] (.n (tq 163 [.pointer none,.pointer none,.pointer none,.string ⟨#[]⟩]) 165 [] (tq 166 [])))))
def sf:Tr (Unit):=tq 4 ()
def sn:Tr (Unit):=.n (.n (tq 15 ()) 16 () (tq 17 ())) 64 () (.n (tq 102 ()) 106 () (tq 148 ()))
def r7:Tr (Nat×Nat):=.n (.n (.n (tq 39 (2,1)) 57 (2,1) .l) 62 (5,1) (tq 126 (24,1))) 144 (20,1) (.n (.n (tq 146 (65,1)) 159 (32,1) .l) 160 (64,1) (tq 165 (0,1)))
def sh:Tr (Unit):=.n (.n (.n (.n (.n (.n (tq 2 ()) 3 () (tq 4 ())) 5 () (.n (tq 6 ()) 7 () (tq 8 ()))) 9 () (.n (.n (tq 10 ()) 11 () (tq 12 ())) 13 () (.n (tq 14 ()) 15 () .l))) 16 () (.n (.n (.n (tq 17 ()) 18 () (tq 19 ())) 20 () (.n (tq 21 ()) 22 () .l)) 23 () (.n (.n (tq 24 ()) 25 () (tq 26 ())) 27 () (.n (tq 28 ()) 29 () .l)))) 30 () (.n (.n (.n (.n (tq 31 ()) 32 () (tq 33 ())) 34 () (.n (tq 35 ()) 36 () (tq 37 ()))) 38 () (.n (.n (tq 39 ()) 40 () (tq 41 ())) 42 () (.n (tq 43 ()) 44 () .l))) 45 () (.n (.n (.n (tq 46 ()) 47 () (tq 48 ())) 49 () (.n (tq 50 ()) 51 () .l)) 52 () (.n (.n (tq 53 ()) 54 () (tq 55 ())) 56 () (.n (tq 57 ()) 58 () .l))))) 59 () (.n (.n (.n (.n (.n (tq 60 ()) 61 () (tq 62 ())) 63 () (.n (tq 64 ()) 65 () (tq 66 ()))) 67 () (.n (.n (tq 68 ()) 69 () (tq 70 ())) 71 () (.n (tq 72 ()) 73 () .l))) 74 () (.n (.n (.n (tq 75 ()) 76 () (tq 77 ())) 78 () (.n (tq 79 ()) 80 () .l)) 81 () (.n (.n (tq 82 ()) 83 () (tq 84 ())) 85 () (.n (tq 86 ()) 87 () .l)))) 88 () (.n (.n (.n (.n (tq 90 ()) 91 () (tq 92 ())) 93 () (.n (tq 94 ()) 95 () (tq 96 ()))) 97 () (.n (.n (tq 98 ()) 99 () (tq 100 ())) 101 () (.n (tq 103 ()) 104 () .l))) 105 () (.n (.n (.n (tq 106 ()) 107 () (tq 108 ())) 109 () (.n (tq 110 ()) 111 () .l)) 112 () (.n (.n (tq 113 ()) 114 () (tq 115 ())) 116 () (.n (tq 117 ()) 141 () .l)))))
def facts:j2:=⟨sk,se,sb,r9,r8,r6,sa,sf,sn,r7,sh⟩
theorem aV:j2.Ok Tryd.prog facts:=⟨Tr.of (km Tryd.prog) (by kernel_rfl),Tr.of (fun k=>dJ Tryd.prog (k / 100) (k % 100)) (by kernel_rfl),Tr.of (oU Tryd.prog) (by kernel_rfl),Tr.of (rK Tryd.prog) (by kernel_rfl),Tr.of (qQ Tryd.prog) (by kernel_rfl),Tr.of (lG Tryd.prog) (by kernel_rfl),Tr.of (mE Tryd.prog) (by kernel_rfl),Tr.rB (ju Tryd.prog) (by kernel_rfl),Tr.rB (j8 Tryd.prog) (by kernel_rfl),Tr.of (q9 Tryd.prog) (by kernel_rfl),Tr.rB (enters Tryd.prog) (by kernel_rfl)⟩
instance:Has Tryd.prog facts:=⟨aV⟩
theorem mixed:Tryd.prog.follows .mixedOrders=true:=by kernel_rfl
end
end PW
end Go.Proofs.YtnegbdpggideiaaDoor
namespace Go.Proofs.YtnegbdpggideiaaDoor
namespace Net
section
open Go
structure jr where
 a:Int
 b:Int
 c0:Int
 c1:Int
 cap:Int
 k8:Int
 rl:Int
def jr.zero:jr:=⟨0,0,0,0,0,0,0⟩
structure aG where
 nodes:Int
 over:List Bool
 ah:List jr
def ej(L:List jr)(i:Nat):jr:=L.getD i jr.zero
def cL(T:aG)(a:Nat):Int:=if a % 2=0 then(ej T.ah (a / 2)).a else(ej T.ah (a / 2)).b
def flip(a:Nat):Nat:=if a % 2=0 then a+1 else a - 1
def bV(T:aG)(a:Nat):Int:=cL T (flip a)
def bo(T:aG)(a:Nat):Int:=if a % 2=0 then(ej T.ah (a / 2)).c0 else(ej T.ah (a / 2)).c1
def dM(T:aG)(n:Nat):Bool:=T.over.getD n false
def bE(T:aG)(n:Int):Bool:=decide (0≤n∧n<T.nodes)
def da(T:aG)(down:List Bool):Bool:=decide (down.length=0∨down.length=2*T.ah.length)
def dB(down:List Bool)(a:Nat):Bool:=down.getD a false
def a8(n lo hi:Int):Bool:=decide (lo≤n∧n≤hi)
def eE(T:aG)(l:jr):Bool:=
 !(l.a==l.b)&&bE T l.a&&bE T l.b&&a8 l.c0 1 65535&&a8 l.c1 1 65535&&a8 l.cap 0 1048576&&a8 l.k8 1 65536&&a8 l.rl 0 64
def aX(T:aG):Bool:=
 a8 T.nodes 1 64&&decide (T.ah.length≤256)&&(decide (T.over.length=0)||decide ((T.over.length:Int)=T.nodes))&&T.ah.all (eE T)
theorem oF(p:jr→Bool)(L:List jr)(k:Nat)(hk:k<L.length):(L.take (k+1)).all p=((L.take k).all p&&p (ej L k)):=by
 rw[List.take_succ_eq_append_getElem hk,List.all_append]
 simp[ej,hk]
theorem o4(p:jr→Bool)(L:List jr)(k:Nat)(hk:k<L.length)(h:p (ej L k)=false):L.all p=false:=by
 rw[Bool.eq_false_iff]
 intro ha
 have:=List.all_eq_true.1 ha (ej L k) (by simp[ej,hk])
 rw[h]at this
 cases this
theorem fi(T:aG)(h:a8 T.nodes 1 64=false∨256<T.ah.length∨(T.over.length≠0∧(T.over.length:Int)≠T.nodes)):false=aX T:=by
 unfold aX
 rcases h with h|h|⟨h1,h2⟩
 ·simp[h]
 ·have:decide (T.ah.length≤256)=false:=by simp;omega
  simp[this]
 ·simp[h1,h2]
theorem lC(T:aG)(h1:a8 T.nodes 1 64=true)(h2:T.ah.length≤256)(h3:T.over.length=0∨(T.over.length:Int)=T.nodes):aX T=T.ah.all (eE T):=by
 unfold aX
 rcases h3 with h3|h3<;>simp[h1,h2,h3]
theorem mW{T:aG}{l:jr}{q1 q2 q3 q4 q5 q6 q7 q8:Bool}(g1:(l.a==l.b)=q1)(g2:bE T l.a=q2)(g3:bE T l.b=q3)(g4:a8 l.c0 1 65535=q4)(g5:a8 l.c1 1 65535=q5)(g6:a8 l.cap 0 1048576=q6)(g7:a8 l.k8 1 65536=q7)(g8:a8 l.rl 0 64=q8):
  eE T l=(!q1 &&q2&&q3&&q4&&q5&&q6&&q7&&q8):=by subst g1 g2 g3 g4 g5 g6 g7 g8;rfl
theorem j7{n lo hi:Int}(h:a8 n lo hi=true):lo≤n∧n≤hi:=by simpa[a8]using h
theorem eN{T:aG}(h:aX T=true):1≤T.nodes∧T.nodes≤64∧T.ah.length≤256∧(T.over.length=0∨(T.over.length:Int)=T.nodes):=by
 unfold aX at h
 simp only[Bool.and_eq_true,Bool.or_eq_true,decide_eq_true_eq]at h
 obtain⟨⟨⟨h1,h2⟩,h3⟩,_⟩:=h
 have:=j7 h1
 exact⟨this.1,this.2,h2,h3⟩
theorem lE{T:aG}(h:aX T=true)(i:Nat)(hi:i<T.ah.length):eE T (ej T.ah i)=true:=by
 unfold aX at h
 simp only[Bool.and_eq_true]at h
 exact List.all_eq_true.1 h.2 _ (by simp[ej,hi])
def ep(T:aG)(n:Int)(k:Nat):List Int:=((List.range k).filter fun a=>cL T a==n).map Int.ofNat
def cX(T:aG)(n:Int):List Int:=ep T n (2*T.ah.length)
theorem nB(T:aG)(n:Int)(k:Nat)(h:(cL T k==n)=true):ep T n (k+1)=ep T n k++[(k:Int)]:=by
 simp[ep,List.range_succ,List.filter_append,h]
theorem pw(T:aG)(n:Int)(k:Nat)(h:(cL T k==n)=false):ep T n (k+1)=ep T n k:=by
 simp[ep,List.range_succ,List.filter_append,h]
theorem e5(T:aG)(n:Int)(k:Nat):(ep T n k).length≤k:=by
 simp only[ep,List.length_map]
 exact Nat.le_trans (List.length_filter_le _ _) (by simp)
theorem pR(a:Nat)(ha:a<9223372036854775806):bits .xor .i64 (a:Int) 1=(flip a:Int):=by
 have h1:(a ^^^ 1) / 2=a / 2:=by rw[Nat.xor_div_two];simp
 have h2:((a ^^^ 1) % 2=1)↔¬((a % 2=1)↔(1 % 2=1)):=Nat.xor_mod_two_eq_one
 have h3:a ^^^ 1=flip a:=by unfold flip;split<;>omega
 have e1:(BitVec.ofInt 64 (a:Int)).toNat=a:=by rw[BitVec.ofInt_natCast,BitVec.toNat_ofNat];exact Nat.mod_eq_of_lt (by omega)
 have e2:(BitVec.ofInt 64 (1:Int)).toNat=1:=by decide
 show IntKind.i64.wrap ((BitVec.ofInt 64 (a:Int) ^^^ BitVec.ofInt 64 (1:Int)).toNat:Int)=_
 rw[BitVec.toNat_xor,e1,e2,h3]
 exact IntWalk.i64_in _ (by unfold flip;split<;>omega)
end
end Net
end Go.Proofs.YtnegbdpggideiaaDoor
namespace Go.Proofs.YtnegbdpggideiaaDoor
namespace PW
section
open Go.RowKit bm Mem Net
abbrev num(n:Int):PV:=.raw (.int .i64 n)
abbrev flag(b:Bool):PV:=.raw (.bool b)
theorem cA{α:Type}{L:List α}{i:Nat}{d:α}(h:i<L.length):L.getD i d∈L:=by
 have:L.getD i d=L[i]:=by simp[h]
 rw[this];exact List.getElem_mem h
theorem de{α:Type}(L:List α)(i:Nat)(d:α)(h:i<L.length):L.take (i+1)=L.take i++[L.getD i d]:=by
 rw[List.take_add_one];simp[h]
def aS(L:List Int):List PV:=L.map fun n=>.raw (.int .i64 n)
def ke(L:List Bool):List PV:=L.map fun b=>.raw (.bool b)
def aR(L:List Int):PV:=.slice L.length (aS L)
def ca(L:List Bool):PV:=.slice L.length (ke L)
def iZ(l:jr):List PV:=[.raw (.int .i64 l.a),.raw (.int .i64 l.b),.raw (.int .i64 l.c0),.raw (.int .i64 l.c1),.raw (.int .i64 l.cap),.raw (.int .i64 l.k8),.raw (.int .i64 l.rl)]
def dx(L:List jr):List PV:=L.flatMap iZ
def eo(T:aG):List PV:=[.raw (.int .i64 T.nodes),ca T.over,.slice T.ah.length (dx T.ah)]
def cj(T:aG):PV:=.agg (eo T)
instance (L:List Int):ao (aS L):=ao.map _ _ fun _=>inferInstance
instance (L:List Bool):ao (ke L):=ao.map _ _ fun _=>inferInstance
instance (l:jr):ao (iZ l):=by unfold iZ;infer_instance
instance (L:List jr):ao (dx L):=ao.flatMap _ _ fun _=>inferInstance
instance (L:List Int):IsPure (aR L):=by unfold aR;infer_instance
instance (L:List Bool):IsPure (ca L):=by unfold ca;infer_instance
instance (T:aG):ao (eo T):=by unfold eo;infer_instance
instance (T:aG):IsPure (cj T):=by unfold cj;infer_instance
instance (L:List Int):cJ (aR L):=by unfold aR;infer_instance
theorem aM(L:List Int)(i:Nat)(h:i<L.length):(aS L)[i]? =some (.raw (.int .i64 (L.getD i 0))):=by simp[aS,h]
theorem iE(L:List Bool)(i:Nat)(h:i<L.length):(ke L)[i]? =some (.raw (.bool (L.getD i false))):=by simp[ke,h]
theorem dj(L:List Int)(n:Int):aS L++[.raw (.int .i64 n)]=aS (L++[n]):=by simp[aS]
theorem na(L:List Int)(i:Nat)(n:Int)(h:i<L.length):over (aS L) i [.raw (.int .i64 n)]=aS (L.set i n):=by
 unfold over aS
 rw[List.map_set,List.set_eq_take_append_cons_drop,if_pos (by simpa using h)]
 simp
theorem bG.mono{P:Program}{f:FuncId}{ps:List PV}{σ:bt}{R R':PV→bt→Prop}(h:bG P f ps σ R)(hr:∀r σ',R r σ'→R' r σ'):bG P f ps σ R':=fun F base E w vs hS hR=>
 (h F base E w vs hS hR).mono fun _ _ ⟨v,r,σ',E',h1,h2,h3⟩=>⟨v,r,σ',E',h1,hr r σ' h2,h3⟩
theorem bF{P:Program}{σ:bt}{t:aZ}{o:Oper}{ty e n:Nat}{x y:Operand}{i j:Nat}{c:Int}{L:List Int}(ho:o.op= .store ty x y)(hk:km P ty=some none)(hx:ag t x=some (.ptr i j))(hy:ag t y=some (num c))(hi:σ[i]? =some (some (.row e 1 n (aS L))))(hj:j<L.length):
  e6 P σ t o (.raw undef) (σ.set i (some (.row e 1 n (aS (L.set j c))))):=by
 have:=fv ho hk hx hy hi (by show j<(aS L).length;simpa[aS]using hj)
 have he:cI.ko (.row e 1 n (aS L)) (over (cI.xs (.row e 1 n (aS L))) j [num c])= .row e 1 n (aS (L.set j c)):=by
  show cI.row e 1 n (over (aS L) j [num c])=_
  rw[na L j c hj]
 rw[he]at this
 exact this
theorem bn(n:Nat):cw [.raw (.int .i64 0)] n=aS (List.replicate n 0):=by
 induction n with
 |zero=>rfl
 |succ n ih=>simp only[cw,ih,List.replicate_succ,aS];rfl
theorem eV(L:List jr)(i j:Nat)(hi:i<L.length)(hj:j<7):(dx L)[i*7+j]? =(iZ (ej L i))[j]? :=by
 induction L generalizing i with
 |nil=>simp at hi
 |cons l L ih=>
  cases i with
  |zero=>
   simp only[dx,List.flatMap_cons,Nat.zero_mul,Nat.zero_add]
   rw[List.getElem?_append_left (by simp[iZ];omega)]
   rfl
  |succ i=>
   have:=ih i (by simpa using hi)
   simp only[dx,List.flatMap_cons]at*
   rw[List.getElem?_append_right (by simp[iZ];omega)]
   rw[show(i+1)*7+j - (iZ l).length=i*7+j by simp[iZ];omega]
   rw[this]
   rfl
theorem dP{E:Env}{w:World}{v u:Value}(h:bB E w v (.raw u)):v=u:=by cases h;rfl
theorem oH{E:Env}{w:World}{vs:Array Value}{p:PV}(h:aA E w vs.toList [p]):∃v,vs= #[v]∧bB E w v p:=by
 obtain⟨l⟩:=vs
 match l,h with
 | [v],h=>exact⟨v,rfl,h.iM.1⟩
 | [],h=>simp[aA]at h
 |_::_::_,h=>simp[aA]at h
theorem ru{E:Env}{w:World}{vs:Array Value}{p q:PV}(h:aA E w vs.toList [p,q]):∃v u,vs= #[v,u]∧bB E w v p∧bB E w u q:=by
 obtain⟨l⟩:=vs
 match l,h with
 | [v,u],h=>exact⟨v,u,rfl,h.iM.1,h.iM.2.iM.1⟩
 | [],h=>simp[aA]at h
 | [_],h=>simp[aA]at h
 |_::_::_::_,h=>simp[aA]at h
end
end PW
end Go.Proofs.YtnegbdpggideiaaDoor
namespace Go.Proofs.YtnegbdpggideiaaDoor
namespace PW
open Go.RowKit bm Mem
open Go.Deep
section
variable {P:Program} {H:Type} {enc:TypeId×Value→H} {W:World}
abbrev EN:Env:=EF fun _=>False
end
end PW
end Go.Proofs.YtnegbdpggideiaaDoor
namespace Go.Proofs.YtnegbdpggideiaaDoor
namespace PW
section
open Go.RowKit bm Mem Net
section
variable {H:Type} {enc:TypeId×Value→H} {W:World}
theorem oa{n:Nat}{cs:List Value}{y:DataW H×List MemPlace}(h:DataW.trod enc Tryd.prog W 0 (fun _=>true) true n 3 cs=some y):∃a:Int,cs=[.int .i64 a]:=by
 obtain⟨a,h1,_⟩:=DataW.trod_int Tryd.underlying3 h
 exact⟨a,h1⟩
theorem k6{α:Type}(f:α→PV)(l:List α):l.flatMap (fun a=>[f a])=l.map f:=by induction l with
 |nil=>rfl
 |cons a l ih=>simp[ih]
end
end
end PW
end Go.Proofs.YtnegbdpggideiaaDoor
namespace Go.Proofs.YtnegbdpggideiaaDoor
namespace PW
open Go.ChangeShapes Go.WideShapes Go.ChangeAt Go.RowKit
open Go.Joins bm Mem
theorem own:ownKnob Tryd.prog.godebug=none:=by kernel_rfl
theorem laidOut:laidOutB Tryd.prog=true:=by kernel_rfl
theorem rq{H:Type}{enc:TypeId×Value→H}{W:World}{t:TypeId}{v:Value}{d:DataW H}{p:List MemPlace}(h:DataW.Trod enc Tryd.prog W 0 (fun _=>true) true t v d p):∀x∈p,x.block<W.heap.size:=by
 obtain⟨m,hm⟩:=h;exact DataW.trod_lt m _ _ _ hm
end PW
end Go.Proofs.YtnegbdpggideiaaDoor
namespace Go.Proofs.YtnegbdpggideiaaDoor
namespace PW
section
open Go.RowKit bm Mem
theorem kK{P:Program}{x:String×DataW Unit}{r:List (String×DataW Unit)}{W:World}(h:laidMet P (x::r) W):laidMet P r W:=by
 obtain⟨ps,⟨g,t,cs,fuel,p,q,_,_,_,_,hr,rfl⟩,hn,hc⟩:=h
 exact⟨q,hr,(List.nodup_append.1 hn).2.1,fun b off hm=>hc b off (List.mem_append.2 (.inr hm))⟩
theorem eG{P:Program}{W:World}{name:String}{k:IntKind}{zs:List Int}{g:Nat}(hg:P.globalNamed name=some g)(h:Lib.TabIs P W name k zs):∃t fz,W.heap[g]? =some (.cells (zs.map fun z=>Value.int k z).toArray t fz):=by
 unfold Lib.TabIs World.var? at h
 rw[hg]at h
 simp only[Option.bind_some]at h
 split at h
 ·rename_i cs t fz hh
  cases h
  exact⟨t,fz,hh⟩
 ·cases h
def t32:List Int:=[0,1,28,2,29,14,24,3,30,22,20,15,25,17,4,8,31,27,13,23,21,19,16,7,26,12,18,6,11,5,10,9]
def t64:List Int:=[0,1,56,2,57,49,28,3,61,58,42,50,38,29,17,4,62,47,59,36,45,43,51,22,53,39,33,30,24,18,12,5,63,55,48,27,60,41,37,16,46,35,44,21,52,32,23,11,54,26,40,15,34,20,31,10,25,14,19,9,13,8,7,6]
def t10:List Int:=[1,10,100,1000,10000,100000,1000000,10000000,100000000,1000000000,10000000000,100000000000,1000000000000,10000000000000,100000000000000,1000000000000000,10000000000000000,100000000000000000,1000000000000000000,10000000000000000000]
theorem nj{W:World}(h:laidMetH Tryd.prog Rows.flowhashArrivesRow.laid W):gE (fun _=>False) W:=by
 have h1:laidMet Tryd.prog [("math/bits.deBruijn32tab",Lib.tabData .u8 t32),("math/bits.deBruijn64tab",Lib.tabData .u8 t64),("internal/strconv.uint64pow10",Lib.tabData .u64 t10)] W:=h
 have h2:=kK h1
 have h3:=kK h2
 have a1:=eG (g:=2) (by kernel_rfl) (Lib.tabIs_of_head (g:=2) (t:=159) (e:=5) (n:=32) (by kernel_rfl) (by kernel_rfl) (by kernel_rfl) (by kernel_rfl) (by kernel_rfl) (by kernel_rfl) h1)
 have a2:=eG (g:=3) (by kernel_rfl) (Lib.tabIs_of_head (g:=3) (t:=160) (e:=5) (n:=64) (by kernel_rfl) (by kernel_rfl) (by kernel_rfl) (by kernel_rfl) (by kernel_rfl) (by kernel_rfl) h2)
 have a3:=eG (g:=0) (by kernel_rfl) (Lib.tabIs_of_head (g:=0) (t:=144) (e:=73) (n:=20) (by kernel_rfl) (by kernel_rfl) (by kernel_rfl) (by kernel_rfl) (by kernel_rfl) (by kernel_rfl) h3)
 intro g cs hm
 refine⟨fun hf=>hf,?_⟩
 have hG:GG=[(0,t10.map fun z=>Value.int .u64 z),(2,t32.map fun z=>Value.int .u8 z),(3,t64.map fun z=>Value.int .u8 z)]:=by kernel_rfl
 rw[hG]at hm
 rcases List.mem_cons.1 hm with e|hm
 ·cases e;exact a3
 ·rcases List.mem_cons.1 hm with e|hm
  ·cases e;exact a1
  ·rcases List.mem_cons.1 hm with e|hm
   ·cases e;exact a2
   ·cases hm
section
variable {P:Program} {N L:Nat} {ops:Array Oper}
def WA(P:Program)(N L:Nat)(ops:Array Oper):Nat→Array Bool→St→(St→Prop)→Prop
 |0,ls,st,K=>Region.ready .any ops ls=[]∧K st
 |n+1,ls,st,K=>Region.ready .any ops ls≠[]∧∀i∈Region.ready .any ops ls,∃o,ops[i]? =some o∧o.guard=none∧WR P N L [o].toArray [o] st (fun s=>WA P N L ops n (ls.setIfInBounds i true) s K)
def rM(P:Program)(N L:Nat)(ops:Array Oper)(n:Nat)(ls:Array Bool)(st:St)(K:St→Prop)(is:List Nat):Prop:=
 ∀i∈is,∃o,ops[i]? =some o∧o.guard=none∧WR P N L [o].toArray [o] st (fun s=>WA P N L ops n (ls.setIfInBounds i true) s K)
theorem aU{ls:Array Bool}{st:St}{K:St→Prop}(h:Region.ready .any ops ls=[])(hk:K st):WA P N L ops 0 ls st K:=⟨h,hk⟩
theorem ae{n:Nat}{ls:Array Bool}{st:St}{K:St→Prop}(i:Nat)(is:List Nat)(h:Region.ready .any ops ls=i::is)(hk:rM P N L ops n ls st K (i::is)):WA P N L ops (n+1) ls st K:=
 ⟨by rw[h];simp,fun j hj=>hk j (by rw[←h];exact hj)⟩
theorem ad{n:Nat}{ls:Array Bool}{st:St}{K:St→Prop}:rM P N L ops n ls st K []:=fun i hi=>by simp at hi
theorem aa{n:Nat}{ls:Array Bool}{st:St}{K:St→Prop}{i:Nat}{is:List Nat}{o:Oper}(ho:ops[i]? =some o)(hg:o.guard=none)(h:WR P N L [o].toArray [o] st (fun s=>WA P N L ops n (ls.setIfInBounds i true) s K))(hs:rM P N L ops n ls st K is):rM P N L ops n ls st K (i::is):=fun j hj=>by
 rcases List.mem_cons.1 hj with rfl|hj
 ·exact⟨o,ho,hg,h⟩
 ·exact hs j hj
def ql(K:Act→World→Prop)(Q:Exit→Act→World→Prop):Exit→Act→World→Prop
 | .normal,a,w=>K a w
 |e,a,w=>Q e a w
theorem jS{o:Oper}{a:Act}{w:World}{K K' K'':Act→World→Prop}{Q:Exit→Act→World→Prop}(h:∀a w,K a w→K' a w)(hh:o.wp P a w K (ql K'' Q)):o.wp P a w K' Q:=by
 unfold Oper.wp at*
 generalize (execOp a.eval o).run P w=x at*
 cases x with
 |ok n w'=>
  cases n<;>simp only[Oper.upon]at hh ⊢ <;>
   first
    |exact h _ _ hh
    |exact Calls.mono hh (fun e w'' he=>by cases e<;>first|exact h _ _ he|exact he)
    |exact Rows.mono hh (fun _ _ he=>h _ _ he)
 |halt x w'=>cases x<;>simp only[Oper.upon]at hh ⊢ <;>exact hh
theorem WA.any:∀ {n:Nat} {ls:Array Bool} {st:St} {K:St→Prop},WA P N L ops n ls st K→∀F base E₀ w₀ E a w,ku base L E₀ w₀ E w→cD F base N st E a w→∀(Q:Exit→Act→World→Prop),(∀a' w',jX F base N E₀ w₀ K a' w'→Q .normal a' w')→wpAny P .any ops Q n ls a w
 |0,ls,st,K,h,F,base,E₀,w₀,E,a,w,hc,hs,Q,hQ=>⟨h.1,hQ a w ⟨st,E,h.2,hs,hc.g,hc.b⟩⟩
 |n+1,ls,st,K,h,F,base,E₀,w₀,E,a,w,hc,hs,Q,hQ=>by
  refine⟨fun h0=>absurd h0 h.1,fun i hi=>?_⟩
  obtain⟨o,ho,hg,hw⟩:=h.2 i hi
  have h1:=hw F base E₀ w₀ E a w hc hs (ql (wpAny P .any ops Q n (ls.setIfInBounds i true)) Q) 0 (fun a' w' ⟨s,E',k1,k2,k3,k4⟩=>by
   show wpAny P .any ops Q n (ls.setIfInBounds i true) a' w'
   exact WA.any k1 F base E₀ w₀ E' a' w' ⟨hc.L,k3,k4⟩ k2 Q hQ) (fun j=>by simp)
  simp only[List.length_singleton]at h1
  rw[List.range'_succ,wpOps_cons]at h1
  unfold wpOp at h1 ⊢
  have hw1:∀y,Region.wanted o y=true:=fun y=>by unfold Region.wanted;rw[hg]
  simp only[List.getElem?_toArray,List.getElem?_cons_zero,hw1,if_true]at h1
  simp only[ho,hw1,if_true]
  rcases h1 with h1|⟨h1,h2⟩
  ·exact .inl (jS (fun a w h=>h) h1)
  ·exact .inr ⟨h1,h2⟩
theorem o5{id:Nat}{l:List Oper}{st:St}{Q:Exit→St→Prop}(hm:P.follows .mixedOrders=true)(h:WA P N L l.toArray l.length (Array.replicate l.length false) st (fun s=>Q .normal s)):W P N L (.region id l.toArray true) st Q:=fun F base E₀ w₀ E a w hc hs=>by
 refine wp_region_any hm ?_
 have hE:Ext w {w with drawn:=w.drawn+1}:=⟨rfl,rfl,rfl,Nat.le_refl _,fun _ _=>rfl⟩
 have:=h.any F base E₀ w₀ E a {w with drawn:=w.drawn+1} (hc.on (.ext hE) (Below.iB hE hs.sat.bl)) ⟨hs.sat.ext hE,hs.tmp.goes (.ext hE),hs.gy,hs.size⟩ (fun e a' w'=>jX F base N E₀ w₀ (Q e) a' w') (fun a' w' h=>h)
 simpa using this
theorem jb{id:Nat}{l:List Oper}{y:Code}{st:St}{Q:Exit→St→Prop}(hm:P.follows .mixedOrders=true)(h:WA P N L l.toArray l.length (Array.replicate l.length false) st (fun s=>W P N L y s Q)):W P N L (.seq (.region id l.toArray true) y) st Q:=ak (o5 hm h)
theorem jj{α:Type}{l:List α}{k:Nat}{x:α}(h:l[k]? =some x):l.set k x=l:=by
 obtain⟨hk,rfl⟩:=List.getElem?_eq_some_iff.1 h
 simp
theorem bD{c:Code}{t:aZ}{σ:bt}{Q:Exit→St→Prop}(i k e s:Nat){ty:TypeId}{xs:List PV}(hi:σ[i]? =some (some (.cells ty xs)))(hk:xs[k]? =some (.raw (.slice none 0 0)))
  (h:W P N L c ⟨t,(σ++[some (cI.row e s 0 [])]).set i (some (.cells ty (xs.set k (.own σ.length))))⟩ Q):W P N L c ⟨t,σ⟩ Q:=fun F base E₀ w₀ E a w hc hs=>by
 obtain⟨a1,a2,a3⟩:=pc hs.sat e s
 have hil:=(List.getElem?_eq_some_iff.1 hi).1
 have hi':(σ++[some (cI.row e s 0 [])])[i]? =some (some (.cells ty xs)):=by rw[List.getElem?_append_left hil];exact hi
 obtain⟨b,cs,hb,h1,h2,h3⟩:=a1.blk i _ hi'
 obtain⟨cv,hcv,hrep⟩:=h3.get hk
 cases hrep
 obtain⟨b1,b2⟩:=a1.p7 hi' (b:=b) (by rw[hb];rfl) (Nat.le_refl _) (fun _ _ _=>rfl) (bi':=.cells ty (xs.set k (.own σ.length))) ⟨b,cs,hb,h1,h2,by
  have:=h3.set k a3
  rw[jj hcv]at this
  exact this⟩
 exact h F base E₀ w₀ _ a w (hc.on (a2.trans b2) (Below.refl _ _)) ⟨b1,(hs.tmp.goes a2).goes b2,hs.gy,hs.size⟩
inductive nJ (σ:bt) (t:aZ):aZ→Prop
 |nil:nJ σ t []
 |cons {t':aZ} (k:Nat) {p q:PV}:look k t=some p→aW σ p q→nJ σ t t'→nJ σ t ((k,q)::t')
theorem nJ.get{σ:bt}{t t':aZ}(h:nJ σ t t'):∀k q,look k t'=some q→∃p,look k t=some p∧aW σ p q:=by
 induction h with
 |nil=>intro k q h;cases h
 |cons k h1 h2 _ ih=>
  intro j q hj
  simp only[look]at hj
  rw[Bool.cond_eq_ite]at hj
  split at hj
  ·rename_i he
   have:=Nat.eq_of_beq_eq_true he
   subst this
   cases hj
   exact⟨_,h1,h2⟩
  ·exact ih j q hj
theorem o8{c:Code}{t t':aZ}{σ:bt}{Q:Exit→St→Prop}(hT:nJ σ t t')(h:W P N 0 c ⟨t',[]⟩ Q):W P N 0 c ⟨t,σ⟩ Q:=fun F base E₀ w₀ E a w hc hs=>by
 have hF:∀b,F b→E.M b:=fun b hb=>(hs.sat.mm b).2 (.inl hb)
 refine h F base E₀ w₀ (EF F) a w ⟨hc.L,⟨by rw[hc.L];exact Nat.zero_le _,fun i hi=>by rw[hc.L]at hi;omega,fun b h1 h2 hf=>hc.g.M b h1 h2 (hF b hf),hc.g.size,hc.g.heap⟩,hc.b⟩
  ⟨⟨hs.sat.bl,fun b hb=>⟨(hs.sat.fb b hb).1,fun i blk h=>by simp at h⟩,rfl,fun b=>by simp[EF],fun i blk h=>by simp at h,fun i j bi bj b h=>by simp at h,hs.sat.gl.sub hF⟩,fun k q hq=>?_,hs.gy,hs.size⟩
 obtain⟨p,h1,h2⟩:=hT.get k q hq
 exact h2.rep hs.sat hF (fun b hb=>(hs.sat.fb b hb).2) _ (hs.tmp k p h1)
end
end
end PW
end Go.Proofs.YtnegbdpggideiaaDoor
