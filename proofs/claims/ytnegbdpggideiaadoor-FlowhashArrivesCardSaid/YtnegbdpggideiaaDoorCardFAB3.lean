/- Texts of the proof, part 3. -/
import Derived.Test.YtnegbdpggideiaaDoorProg
import Derived.WalkKit
import Derived.ProofKit
import Derived.Deep.Slices
import Derived.Lib.SmallJoins
import Derived.OpenShut
import Derived.Test.YtnegbdpggideiaaDoorRows
import Derived.Test.YtnegbdpggideiaaDoorCards
import Derived.Test.YtnegbdpggideiaaDoorTie
import Derived.ShutString
import Derived.ChangeOld
import Derived.Below
import Derived.LaidMore
import Derived.Stop.Joined
import Derived.SevenTiedAt
import Derived.Lib.LaidTab
import Derived.Test.YtnegbdpggideiaaDoorCardFAB2
set_option linter.unusedVariables false
set_option linter.unusedSimpArgs false
set_option maxRecDepth 10000
set_option maxHeartbeats 1000000
namespace Go.Proofs.YtnegbdpggideiaaDoor
namespace PW
open Go.RowKit aN Mem
class l9 (p:PV):Prop where
 out:∀(E:Env) (w w':World) (v:Value),bC E w v p→bC E w' v p
 yH:∀(E:Env) (w:World) (v v':Value),bC E w v p→bC E w v' p→v=v'
instance (v:Value):l9 (.raw v):=⟨fun _ _ _ _ h=>by cases h;exact .raw _,fun _ _ _ _ h h'=>by cases h;cases h';rfl⟩
instance (i:Nat):l9 (.own i):=⟨fun _ _ _ _ h=>by cases h with|own _ hi _ h hs=>exact .own i hi _ h hs,fun _ _ _ _ h h'=>by
 cases h with
 |own _ _ _ h _=>cases h' with
  |own _ _ _ h' _=>rw[←h,←h']⟩
instance (i k:Nat):l9 (.ptr i k):=⟨fun _ _ _ _ h=>by cases h with|ptr _ _ b hi h=>exact .ptr i k b hi h,fun E w v v' h h'=>by
 cases h with
 |ptr _ _ b _ h=>cases h' with
  |ptr _ _ b' _ h'=>
   have:b=b':=by
    rcases h with h|⟨n,c,h⟩<;>rcases h' with h'|⟨n',c',h'⟩<;>rw[h]at h'<;>simp at h'<;>first|exact h'|exact h'.1
   rw[this]⟩
section
variable {P:Program} {ops:Array Oper} {N L:Nat}
def kX(P:Program)(t:a7)(o:Oper)(p:PV):Prop:=∀E ρ w,ec ρ→dy E w ρ t→∃v,(∀w',(execOp ρ o).run P w'= .ok (.value v) w')∧bC E w v p
theorem tE{t:a7}{o:Oper}{x:Operand}{p:PV}(ho:o.op= .move x)(hx:ah t x=some p):kX P t o p:=fun E ρ w hρ hT=>
 ⟨ρ x,fun w'=>by simp only[execOp,ho,Sem.run_pure],ae hρ hT hx⟩
theorem kX.y{t:a7}{o:Oper}{p:PV}{σ:bo}(h:kX P t o p):az P σ t o p:=fun F base E ρ w hρ _ hT=>by
 obtain⟨v,h1,h2⟩:=h E ρ w hρ hT
 rw[h1];exact aA h2
def iz:List Oper→List PV→a7→a7
 |o::l,p::ps,t=>iz l ps (match o.dst with|some d=>(d,p)::t|none=>t)
 |_,_,t=>t
inductive eO (P:Program) (N:Nat) (ops:Array Oper) (σ:bo):List Oper→List PV→List Bool→a7→Prop
 |nil {t:a7}:eO P N ops σ [] [] [] t
 |val {o:Oper} {rest:List Oper} {t:a7} {d:Nat} {p:PV} {ps:List PV} {fs:List Bool} (ks:List Nat):(ks.all fun k=>(o.looksAt ops).contains k)=true→az P σ (df t ks) o p→o.dst=some d→Nat.blt d N=true→eO P N ops σ rest ps fs ((d,p)::t)→eO P N ops σ (o::rest) (p::ps) (false::fs) t
 |late {o:Oper} {rest:List Oper} {t:a7} {d:Nat} {p:PV} {ps:List PV} {fs:List Bool} (ks:List Nat):(ks.all fun k=>(o.looksAt ops).contains k)=true→kX P (df t ks) o p→l9 p→o.dst=some d→Nat.blt d N=true→eO P N ops σ rest ps fs ((d,p)::t)→eO P N ops σ (o::rest) (p::ps) (true::fs) t
structure Datum (P:Program) (N:Nat) (ops:Array Oper) (σ:bo) (o:Oper) (p:PV) (fl:Bool) (t:a7):Prop where
 dst:∃d,o.dst=some d∧d<N
 y:∃ks,(∀k∈ks,k∈o.looksAt ops)∧az P σ (df t ks) o p
 r:fl=true→l9 p∧∃ks,(∀k∈ks,k∈o.looksAt ops)∧kX P (df t ks) o p
theorem eO.data{σ:bo}{l:List Oper}{ps:List PV}{fs:List Bool}{t:a7}(h:eO P N ops σ l ps fs t):ps.length=l.length∧fs.length=l.length∧∀(i:Nat) o p f,l[i]? =some o→ps[i]? =some p→fs[i]? =some f→Datum P N ops σ o p f (iz (l.take i) (ps.take i) t):=by
 have mem:∀ {ks:List Nat} {o:Oper},(ks.all fun k=>(o.looksAt ops).contains k)=true→∀k∈ks,k∈o.looksAt ops:=fun h k hk=>by
  have:=List.all_eq_true.1 h k hk;simpa using this
 induction h with
 |nil=>exact⟨rfl,rfl,fun i o p f h=>by simp at h⟩
 | @val o rest t d p ps fs ks hks hy hd hN _ ih=>
  refine⟨by simp[ih.1],by simp[ih.2.1],fun i o' p' f h1 h2 h3=>?_⟩
  cases i with
  |zero=>
   simp at h1 h2 h3
   subst h1;subst h2;subst h3
   exact⟨⟨d,hd,Nat.blt_eq.mp hN⟩,⟨ks,mem hks,hy⟩,fun e=>by cases e⟩
  |succ i=>
   have:=ih.2.2 i o' p' f (by simpa using h1) (by simpa using h2) (by simpa using h3)
   simpa[iz,hd]using this
 | @late o rest t d p ps fs ks hks hy hfp hd hN _ ih=>
  refine⟨by simp[ih.1],by simp[ih.2.1],fun i o' p' f h1 h2 h3=>?_⟩
  cases i with
  |zero=>
   simp at h1 h2 h3
   subst h1;subst h2;subst h3
   exact⟨⟨d,hd,Nat.blt_eq.mp hN⟩,⟨ks,mem hks,hy.y⟩,fun _=>⟨hfp,ks,mem hks,hy⟩⟩
  |succ i=>
   have:=ih.2.2 i o' p' f (by simpa using h1) (by simpa using h2) (by simpa using h3)
   simpa[iz,hd]using this
def aZ(ops:Array Oper)(i:Nat):Option Nat:=(ops[i]?).bind (·.dst)
def b9(ops:Array Oper)(i:Nat):List Nat:=match ops[i]? with|some o=>o.looksAt ops|none=>[]
def vo(ops:Array Oper)(f m:Nat)(fl:List Bool):Bool:=
 decide (m≤ops.size)&&Nat.beq fl.length m&&
 ((List.range ops.size).all fun i=>(jr ops i).all fun k=>decide (k<i))&&
 ((List.range ops.size).all fun i=>((ops[i]?).all fun o=>o.guard.isNone))&&
 ((List.range m).all fun i=>(List.range i).all fun j=>aZ ops i !=aZ ops j)&&
 ((List.range m).all fun j=>(b9 ops j).all fun k=>(List.range m).all fun i=>aZ ops i !=some k||(decide (i<j)&&(jr ops j).contains i))&&
 ((List.range ops.size).all fun i=>decide (i<m)||(List.range i).all fun j=>fl.getD j false||cJ ops f i j)&&
 ((List.range ops.size).all fun i=>decide (i<m)||(List.range m).all fun j=> !fl.getD j false||((aZ ops j).all fun d=> !(b9 ops i).contains d||cJ ops f i j))&&
 ((List.range ops.size).all fun i=>decide (i<m)||(List.range m).all fun j=> !fl.getD j false||((aZ ops i).all fun d=>aZ ops j !=some d&& !(b9 ops j).contains d))
structure Form (ops:Array Oper) (f m:Nat) (fl:List Bool):Prop where
 le:m≤ops.size
 yq:fl.length=m
 jr:∀i,i<ops.size→∀k∈jr ops i,k<i
 ng:∀(i:Nat) (o:Oper),ops[i]? =some o→o.guard=none
 ss:∀i j,i<m→j<i→aZ ops i≠aZ ops j
 rd:∀j,j<m→∀k∈b9 ops j,∀i,i<m→aZ ops i=some k→i<j∧i∈PW.jr ops j
 yM:∀i,i<ops.size→m≤i→∀j,j<i→fl.getD j false=false→cJ ops f i j=true
 use:∀i,i<ops.size→m≤i→∀j,j<m→fl.getD j false=true→∀d,aZ ops j=some d→d∈b9 ops i→cJ ops f i j=true
 wr:∀i,i<ops.size→m≤i→∀j,j<m→fl.getD j false=true→∀d,aZ ops i=some d→aZ ops j≠some d∧d∉b9 ops j
theorem qV{f m:Nat}{fl:List Bool}(h:vo ops f m fl=true):Form ops f m fl:=by
 unfold vo at h
 simp only[Bool.and_eq_true]at h
 obtain⟨⟨⟨⟨⟨⟨⟨⟨h1,h2⟩,h3⟩,h4⟩,h5⟩,h6⟩,h7⟩,h8⟩,h9⟩:=h
 have all:∀ {n:Nat} {p:Nat→Bool},(List.range n).all p=true→∀i,i<n→p i=true:=fun h i hi=>List.all_eq_true.1 h i (List.mem_range.2 hi)
 refine⟨by simpa using h1,Nat.eq_of_beq_eq_true h2,fun i hi k hk=>?_,fun i o ho=>?_,fun i j hi hj=>?_,fun j hj k hk i hi hd=>?_,fun i hi hm j hj hf=>?_,fun i hi hm j hj hf d hd hl=>?_,fun i hi hm j hj hf d hd=>?_⟩
 ·have:=List.all_eq_true.1 (all h3 i hi) k hk;simpa using this
 ·have hi:i<ops.size:=(Array.getElem?_eq_some_iff.1 ho).1
  have:=all h4 i hi
  rw[ho]at this
  simpa using this
 ·have:=all (all h5 i hi) j hj
  simpa using this
 ·have:=all (List.all_eq_true.1 (all h6 j hj) k hk) i hi
  rw[hd]at this
  simpa using this
 ·have:=all h7 i hi
  simp only[Bool.or_eq_true,decide_eq_true_eq]at this
  rcases this with h|h
  ·omega
  ·have:=all h j hj
   rw[hf]at this
   simpa using this
 ·have:=all h8 i hi
  simp only[Bool.or_eq_true,decide_eq_true_eq]at this
  rcases this with h|h
  ·omega
  ·have:=all h j hj
   rw[hf,hd]at this
   simpa[hl]using this
 ·have:=all h9 i hi
  simp only[Bool.or_eq_true,decide_eq_true_eq]at this
  rcases this with h|h
  ·omega
  ·have:=all h j hj
   rw[hf,hd]at this
   simpa using this
structure tC (ops:Array Oper) (m:Nat) (fl:List Bool) (ls:Array Bool) (a a₁:Act):Prop where
 jq:a.defers=a₁.defers
 size:a.tmps.size=a₁.tmps.size
 tmp:∀k,(∀j,j<m→fl.getD j false=true→ls.getD j true=false→aZ ops j≠some k)→a.eval (.tmp k)=a₁.eval (.tmp k)
def v8(P:Program)(ops:Array Oper)(m:Nat)(fl:List Bool)(a₁:Act):Prop:=
 ∀j o d,j<m→fl.getD j false=true→ops[j]? =some o→o.dst=some d→∀w,(execOp a₁.eval o).run P w= .ok (.value (a₁.eval (.tmp d))) w
theorem rD{i:Nat}{o:Oper}(ho:ops[i]? =some o){k:Nat}(hk:Operand.tmp k∈o.op.operands):k∈b9 ops i:=by
 unfold b9
 rw[ho]
 exact List.mem_append_left _ (List.mem_filterMap.2 ⟨.tmp k,by simpa using hk,rfl⟩)
theorem iv{i:Nat}{o:Oper}{a a₁:Act}(ho:ops[i]? =some o)(hs:∀cs b,o.op≠ .select cs b)(h:∀k∈b9 ops i,a.eval (.tmp k)=a₁.eval (.tmp k)):execOp a.eval o=execOp a₁.eval o:=by
 refine execOp_congr o hs fun x hx=>?_
 match x,hx with
 | .tmp k,hx=>exact h k (rD ho hx)
 | .const v,_=>rfl
 | .global g,_=>rfl
 | .func g,_=>rfl
theorem wM{a a₁:Act}(hd:a.defers=a₁.defers)(hs:a.tmps.size=a₁.tmps.size)(h:∀k,a.eval (.tmp k)=a₁.eval (.tmp k)):a=a₁:=by
 obtain⟨t,d⟩:=a
 obtain⟨t',d'⟩:=a₁
 simp only at hd hs
 subst hd
 congr
 apply Array.ext hs
 intro i h1 h2
 have:=h i
 simpa[Act.eval,h1,h2]using this
theorem eH(a:Act){d:Nat}(hd:d<a.tmps.size)(v:Value)(k:Nat):(a.put (some d) v).eval (.tmp k)=if k=d then v else a.eval (.tmp k):=by
 split
 ·rename_i e;subst e;simp[Act.put,Act.eval,hd]
 ·rename_i e;exact Act.eval_put (fun d' hd' heq=>by cases hd';cases heq;exact e rfl)
def ui(Qn:Act→World→Prop):Exit→Act→World→Prop
 | .normal,a,w=>Qn a w
 |_,_,_=>False
theorem tp{o:Oper}{a a₁:Act}{w:World}{K K':Act→World→Prop}{Qn:Act→World→Prop}{Q:Exit→Act→World→Prop}(he:execOp a.eval o=execOp a₁.eval o)(hd:a.defers=a₁.defers)(hh:o.wp P a₁ w K (ui Qn))(h:∀ds v w',K (({a₁ with defers:=ds}:Act).put o.dst v) w'→K' (({a with defers:=ds}:Act).put o.dst v) w'):o.wp P a w K' Q:=by
 have h1:∀v w',K (a₁.put o.dst v) w'→K' (a.put o.dst v) w':=fun v w' hk=>by
  have:=h a₁.defers v w' hk
  rw[←hd]at this
  exact this
 unfold Oper.wp at*
 rw[he]
 generalize (execOp a₁.eval o).run P w=x at*
 cases x with
 |ok n w'=>
  cases n<;>simp only[Oper.upon]at hh ⊢
  case value v=>exact h1 _ _ hh
  case skip=>exact h1 _ _ hh
  case defer d=>rw[hd];exact h _ _ _ hh
  case enter f args=>exact Calls.mono hh (fun e w'' he=>by cases e<;>first|exact h1 _ _ he|exact he.elim|exact(he.elim fun _ h=>h.elim fun _ h=>h.elim))
  case row r args=>exact Rows.mono hh (fun _ _ he=>h1 _ _ he)
  all_goals exact hh.elim
 |halt x w'=>cases x<;>simp only[Oper.upon]at hh ⊢ <;>exact hh.elim
theorem sN{f m:Nat}{fl:List Bool}(hF:Form ops f m fl)(hsel:∀(i:Nat) (o:Oper),ops[i]? =some o→∀cs b,o.op≠ .select cs b)(hfd:∀j,j<m→∃d,aZ ops j=some d){Qn:Act→World→Prop}{Q:Exit→Act→World→Prop}(hQ:∀a w,Qn a w→Q .normal a w):
  ∀(fuel k r:Nat) (ls:Array Bool) (a a₁:Act) (w:World),k+r=ops.size→m≤k→ls.size=ops.size→(∀i,k≤i→i<ops.size→ls.getD i true=false)→(∀i,m≤i→i<k→ls.getD i true=true)→(∀i,i<m→fl.getD i false=false→ls.getD i true=true)→Down ops ls→fuel=aP ls m+r→
   tC ops m fl ls a a₁→v8 P ops m fl a₁→(∀j d,j<m→aZ ops j=some d→d<a₁.tmps.size)→wpOps P ops (ui Qn) (List.range' k r) a₁ w→wpAny P .any ops Q fuel ls a w:=by
 intro fuel
 induction fuel with
 |zero=>
  intro k r ls a a₁ w hk hm hsz hA hB hC hD hfu hag hfx hds h
  have hr:r=0:=by omega
  subst hr
  have hu:aP ls m=0:=by omega
  have hall:∀i,i<ops.size→ls.getD i true=true:=fun i hi=>by
   rcases Nat.lt_or_ge i m with h'|h'
   ·exact bW hu i h'
   ·exact hB i h' (by omega)
  have hr0:Region.ready .any ops ls=[]:=by
   apply List.eq_nil_iff_forall_not_mem.2
   intro i hi
   obtain⟨h1,h2,_⟩:=cK.1 hi
   rw[hall i h1]at h2;cases h2
  have:a=a₁:=wM hag.jq hag.size fun k=>hag.tmp k fun j hj _ hl=>by
   rw[bW hu j hj]at hl;cases hl
  subst this
  exact⟨hr0,hQ a w h⟩
 |succ fuel ih=>
  intro k r ls a a₁ w hk hm hsz hA hB hC hD hfu hag hfx hds h
  have hf:∀b c (i:Nat),i<ops.size→ls.getD i b=ls.getD i c:=fun b c i hi=>by simp[show i<ls.size by omega]
  have hne:Region.ready .any ops ls≠[]:=by
   rcases Nat.eq_zero_or_pos (aP ls m)with hu|hu
   ·have hkr:k<ops.size:=by omega
    have:k∈Region.ready .any ops ls:=cK.2 ⟨hkr,hA k (Nat.le_refl _) hkr,fun j hj=>by
     have:=hF.jr k hkr j hj
     rw[hf false true j (by omega)]
     rcases Nat.lt_or_ge j m with h'|h'
     ·exact bW hu j h'
     ·exact hB j h' this⟩
    intro h0;rw[h0]at this;cases this
   ·obtain⟨i,h1,h2,h3⟩:=ej hu
    have hle:=hF.le
    have:i∈Region.ready .any ops ls:=cK.2 ⟨by omega,h2,fun j hj=>by
     have:=hF.jr i (by omega) j hj
     rw[hf false true j (by omega)];exact h3 j this⟩
    intro h0;rw[h0]at this;cases this
  refine⟨fun h0=>absurd h0 hne,fun i hi=>?_⟩
  obtain⟨hi1,hi2,hi3⟩:=cK.1 hi
  have ho:ops[i]? =some ops[i]:=by simp[hi1]
  have hwant:Region.wanted ops[i] (yielded ops a.tmps)=true:=by unfold Region.wanted;rw[hF.ng i _ ho]
  have hset:∀(j:Nat) b,(ls.setIfInBounds i true).getD j b=if j=i then true else ls.getD j b:=fun j b=>by
   by_cases e:i=j
   ·subst e;simp[show i<ls.size by omega]
   ·rw[if_neg (fun h=>e h.symm),Array.getD_eq_getD_getElem?,Array.getD_eq_getD_getElem?,Array.getElem?_setIfInBounds_ne e]
  have hdown:Down ops (ls.setIfInBounds i true):=fun j hj hj' q hq=>by
   rw[hset]
   split
   ·rfl
   ·rw[hset]at hj
    split at hj
    ·rename_i e;subst e;exact hi3 q hq
    ·exact hD j hj hj' q hq
  unfold wpOp
  rw[ho]
  simp only[hwant,if_true]
  rcases Nat.lt_or_ge i m with him|him
  ·
   have hfl:fl.getD i false=true:=by
    cases hb:fl.getD i false with
    |true=>rfl
    |false=>rw[hC i him hb]at hi2;cases hi2
   cases hd:(ops[i]).dst with
   |none=>
    obtain⟨d,hd'⟩:=hfd i him
    simp only[aZ,ho,Option.bind_some]at hd'
    have:=hd.symm.trans hd'
    cases this
   |some d=>
    have hdo:aZ ops i=some d:=by simp only[aZ,ho,Option.bind_some];exact hd
    have hrun:=hfx i ops[i] d him hfl ho hd w
    have hex:execOp a.eval ops[i]=execOp a₁.eval ops[i]:=iv ho (hsel i _ ho) fun q hq=>hag.tmp q fun j hj _ hjl hjd=>by
     have:=(hF.rd i him q hq j hj hjd).2
     have:=hi3 j this
     rw[hf false true j (by omega),hjl]at this
     cases this
    left
    unfold Oper.wp
    rw[hex,hrun]
    simp only[Oper.upon]
    rw[hd]
    have hda:=hds i d him hdo
    refine ih k r _ _ a₁ w hk hm (by simpa using hsz) (fun j hj hj'=>by rw[hset,if_neg (by omega)];exact hA j hj hj') (fun j hj hj'=>by rw[hset,if_neg (by omega)];exact hB j hj hj') (fun j hj hj'=>?_) hdown ?_ ⟨by simpa[Act.put]using hag.jq,by simpa[Act.put]using hag.size,fun q hq=>?_⟩ hfx hds h
    ·rw[hset];split
     ·rfl
     ·exact hC j hj hj'
    ·have:=eh hi2 him (by have:=hF.le;omega);omega
    ·rw[eH a (by rw[hag.size];exact hda)]
     split
     ·rename_i e;rw[e]
     ·rename_i e
      refine hag.tmp q fun j hj hjf hjl hjd=>?_
      by_cases e2:j=i
      ·subst e2;rw[hdo]at hjd;cases hjd;exact e rfl
      ·exact hq j hj hjf (by rw[hset,if_neg e2];exact hjl) hjd
  ·
   have hik:i=k:=by
    rcases Nat.lt_or_ge i k with h'|h'
    ·rw[hB i him h']at hi2;cases hi2
    ·rcases Nat.lt_or_ge k i with h''|h''
     ·have hfk:fl.getD k false=false:=by
       have:=hF.yq
       simp[List.getD_eq_getElem?_getD,List.getElem?_eq_none (show fl.length≤k by omega)]
      have:=dr hsz hD hF.jr f i k hi1 (hF.yM i hi1 him k h'' hfk) hi3
      rw[hf false true k (by omega),hA k (Nat.le_refl _) (by omega)]at this
      cases this
     ·omega
   subst hik
   obtain⟨r',rfl⟩:∃r',r=r'+1:=⟨r - 1,by omega⟩
   rw[List.range'_succ,wpOps_cons]at h
   unfold wpOp at h
   rw[ho]at h
   have hwant':Region.wanted ops[i] (yielded ops a₁.tmps)=true:=by unfold Region.wanted;rw[hF.ng i _ ho]
   simp only[hwant',if_true]at h
   have hh:=h.resolve_right (fun⟨_,_,_,hq⟩=>hq)
   have hex:execOp a.eval ops[i]=execOp a₁.eval ops[i]:=iv ho (hsel i _ ho) fun q hq=>hag.tmp q fun j hj hjf hjl hjd=>by
    have:=dr hsz hD hF.jr f i j hi1 (hF.use i hi1 him j hj hjf q hjd hq) hi3
    rw[hf false true j (by have:=hF.le;omega),hjl]at this
    cases this
   left
   refine tp hex hag.jq hh fun ds v w' hK=>?_
   have hdd:∀d,(ops[i]).dst=some d→aZ ops i=some d:=fun d hd=>by simp only[aZ,ho,Option.bind_some];exact hd
   refine ih (i+1) r' _ _ _ w' (by omega) (by omega) (by simpa using hsz) (fun j hj hj'=>by rw[hset,if_neg (by omega)];exact hA j (by omega) hj') (fun j hj hj'=>?_) (fun j hj hj'=>by rw[hset,if_neg (by omega)];exact hC j hj hj') hdown ?_ ⟨?_,?_,fun q hq=>?_⟩ (fun j o d hj hjf hjo hjd w''=>?_) (fun j d hj hjd=>?_) hK
   ·rw[hset];split
    ·rfl
    ·exact hB j hj (by omega)
   ·have:aP (ls.setIfInBounds i true) m=aP ls m:=by
     have:∀q,q≤m→aP (ls.setIfInBounds i true) q=aP ls q:=by
      intro q
      induction q with
      |zero=>intro _;rfl
      |succ q ihq=>
       intro hq
       simp only[aP]
       rw[ihq (by omega),hset q true,if_neg (show ¬q=i by omega)]
     exact this m (Nat.le_refl _)
    omega
   ·cases(ops[i]).dst<;>rfl
   ·cases(ops[i]).dst<;>simpa[Act.put]using hag.size
   ·have hq':∀j,j<m→fl.getD j false=true→ls.getD j true=false→aZ ops j≠some q:=fun j hj hjf hjl=>hq j hj hjf (by rw[hset,if_neg (by omega)];exact hjl)
    cases hd:(ops[i]).dst with
    |none=>exact hag.tmp q hq'
    |some d=>
     by_cases hsz2:d<a.tmps.size
     ·rw[eH _ (by simpa using hsz2),eH _ (by rw[←hag.size];exact hsz2)]
      split
      ·rfl
      ·exact hag.tmp q hq'
     ·have e1:({a with defers:=ds}:Act).put (some d) v= {a with defers:=ds}:=by simp[Act.put,Array.setIfInBounds,hsz2]
      have e2:({a₁ with defers:=ds}:Act).put (some d) v= {a₁ with defers:=ds}:=by simp[Act.put,Array.setIfInBounds,←hag.size,hsz2]
      rw[e1,e2]
      exact hag.tmp q hq'
   ·have hj1:=hfx j o d hj hjf hjo hjd w''
    have hjd':aZ ops j=some d:=by simp only[aZ,hjo,Option.bind_some];exact hjd
    have key:∀q,(q∈b9 ops j∨q=d)→(({a₁ with defers:=ds}:Act).put (ops[i]).dst v).eval (.tmp q)=a₁.eval (.tmp q):=fun q hq=>by
     refine Act.eval_put (a:= {a₁ with defers:=ds}) fun e he heq=>?_
     cases heq
     have:=hF.wr i hi1 him j hj hjf q (hdd q he)
     rcases hq with hq|rfl
     ·exact this.2 hq
     ·exact this.1 hjd'
    have he2:execOp (({a₁ with defers:=ds}:Act).put (ops[i]).dst v).eval o=execOp a₁.eval o:=iv hjo (hsel j o hjo) fun q hq=>key q (.inl hq)
    rw[he2,hj1,key d (.inr rfl)]
   ·have:=hds j d hj hjd
    cases(ops[i]).dst<;>simpa[Act.put]using this
theorem fV:∀(l:List Oper) (ps:List PV) (t:a7) (k:Nat) (p:PV),look k (iz l ps t)=some p→(∃(j:Nat) (o:Oper),l[j]? =some o∧o.dst=some k∧ps[j]? =some p)∨look k t=some p
 | [],_,t,k,p,h=>.inr (by simpa[iz]using h)
 |_::_,[],t,k,p,h=>.inr (by simpa[iz]using h)
 |o::l,q::ps,t,k,p,h=>by
  simp only[iz]at h
  rcases fV l ps _ k p h with⟨j,o',h1,h2,h3⟩|h'
  ·exact .inl ⟨j+1,o',by simpa using h1,h2,by simpa using h3⟩
  ·cases hd:o.dst with
   |none=>rw[hd]at h';exact .inr h'
   |some d=>
    rw[hd]at h'
    simp only[look]at h'
    rw[Bool.cond_eq_ite]at h'
    split at h'
    ·rename_i he
     have:=Nat.eq_of_beq_eq_true he
     subst this
     cases h'
     exact .inl ⟨0,o,rfl,hd,rfl⟩
    ·exact .inr h'
section
variable {F:Nat→Prop} {base:Nat} {E:Env} {σ:bo} {t:a7} {l:List Oper} {ps:List PV} {fl:List Bool} {f m:Nat}
structure fO (N m:Nat) (l:List Oper) (ps:List PV) (E:Env) (t:a7) (w:World) (dn:Nat→Prop) (a:Act) (w':World):Prop where
 ext:Ext w w'
 jq:a.defers=[]
 size:a.tmps.size=N
 t0:dy E w' a.eval t
 uS:∀j,j<m→dn j→∀d p,aZ l.toArray j=some d→ps[j]? =some p→bC E w' (a.eval (.tmp d)) p
theorem ez{i:Nat}{o:Oper}(h:(l.take m)[i]? =some o):i<m∧l.toArray[i]? =some o∧aZ l.toArray i=o.dst:=by
 rw[List.getElem?_take]at h
 split at h
 ·rename_i hi
  refine⟨hi,by simpa using h,?_⟩
  simp only[aZ]
  have:l.toArray[i]? =some o:=by simpa using h
  rw[this];rfl
 ·cases h
theorem jL{dn:Nat→Prop}{a:Act}{w w':World}(hg:fO N m l ps E t w dn a w'){i:Nat}(hi:i≤m){ks:List Nat}(hdn:∀j k,j<i→k∈ks→aZ l.toArray j=some k→dn j):dy E w' a.eval (df (iz ((l.take m).take i) (ps.take i) t) ks):=fun k p hk=>by
 obtain⟨h1,h2⟩:=eu ks k p hk
 rcases fV _ _ _ k p h2 with⟨j,o,h3,h4,h5⟩|h'
 ·rw[List.getElem?_take]at h3
  split at h3
  ·rename_i hj
   obtain⟨hjm,h6,h7⟩:=ez h3
   rw[List.getElem?_take,if_pos hj]at h5
   exact hg.uS j (by omega) (hdn j k hj h1 (by rw[h7];exact h4)) k p (by rw[h7];exact h4) h5
  ·cases h3
 ·exact hg.t0 k p h'
theorem lV{dn:Nat→Prop}{a:Act}{w w' w'':World}(hF:Form l.toArray f m fl)(hfr:∀i d,i<m→aZ l.toArray i=some d→look d t=none)(hg:fO N m l ps E t w dn a w')(hE:Ext w' w''){i d:Nat}{p:PV}(hi:i<m)(hd:aZ l.toArray i=some d)(hdN:d<N)(hp:ps[i]? =some p){v:Value}(hv:bC E w'' v p):
  fO N m l ps E t w (fun j=>dn j∨j=i) (a.put (some d) v) w'':=by
 refine⟨hg.ext.trans hE,by simpa[Act.put]using hg.jq,by simpa[Act.put]using hg.size,fun k q hk=>?_,fun j hj hdj d' q hd' hq=>?_⟩
 ·have hne:k≠d:=fun e=>by subst e;rw[hfr i k hi hd]at hk;cases hk
  rw[eH a (by rw[hg.size];exact hdN),if_neg hne]
  exact(hg.t0 k q hk).ext hE
 ·rw[eH a (by rw[hg.size];exact hdN)]
  by_cases e:j=i
  ·subst e
   rw[hd]at hd';cases hd'
   rw[hp]at hq;cases hq
   rw[if_pos rfl];exact hv
  ·have hne:d'≠d:=fun e'=>by
    subst e'
    rcases Nat.lt_or_ge i j with h'|h'
    ·exact hF.ss j i hj h' (by rw[hd,hd'])
    ·exact hF.ss i j hi (by omega) (by rw[hd,hd'])
   rw[if_neg hne]
   exact(hg.uS j hj (hdj.resolve_right e) d' q hd' hq).ext hE
theorem fO.mono{dn dn':Nat→Prop}{a:Act}{w w':World}(h:fO N m l ps E t w dn a w')(hd:∀j,j<m→dn' j→dn j):fO N m l ps E t w dn' a w':=⟨h.ext,h.jq,h.size,h.t0,fun j hj hj'=>h.uS j hj (hd j hj hj')⟩
theorem s0(hF:Form l.toArray f m fl)(hml:m≤l.length)(hfr:∀i d,i<m→aZ l.toArray i=some d→look d t=none)(hc:eO P N l.toArray σ (l.take m) ps fl t){ls:Array Bool}{a:Act}{w w':World}(hg:fO N m l ps E t w (fun j=>ls.getD j true=true) a w')(hall:∀i,i<m→fl.getD i false=false→ls.getD i true=true):
  ∃a₁,tC l.toArray m fl ls a a₁∧fO N m l ps E t w (fun _=>True) a₁ w':=by
 obtain⟨hl1,hl2,hdat⟩:=hc.data
 have hlen:(l.take m).length=m:=by simp;omega
 have key:∀q,q≤m→∃b,tC l.toArray m fl ls a b∧fO N m l ps E t w (fun j=>ls.getD j true=true∨j<q) b w':=by
  intro q
  induction q with
  |zero=>intro _;exact⟨a,⟨rfl,rfl,fun _ _=>rfl⟩,hg.mono fun j _ h=>h.resolve_right (by omega)⟩
  |succ q ih=>
   intro hq
   obtain⟨b,hag,hgb⟩:=ih (by omega)
   cases hb:ls.getD q true with
   |true=>exact⟨b,hag,hgb.mono fun j _ h=>by
     rcases h with h|h
     ·exact .inl h
     ·by_cases e:j=q
      ·subst e;exact .inl hb
      ·exact .inr (by omega)⟩
   |false=>
    have hfq:fl.getD q false=true:=by
     cases hf:fl.getD q false with
     |true=>rfl
     |false=>rw[hall q (by omega) hf]at hb;cases hb
    have ho:(l.take m)[q]? =some ((l.take m)[q]'(by omega)):=List.getElem?_eq_getElem (by omega)
    obtain⟨_,hoq,hdq⟩:=ez ho
    have hpq:ps[q]? =some (ps[q]'(by omega)):=by simp
    have hff:fl[q]? =some true:=by
     have:q<fl.length:=by rw[hl2,hlen];omega
     simp[this]at hfq ⊢;exact hfq
    have D:=hdat q _ _ _ ho hpq hff
    obtain⟨d,hd,hdN⟩:=D.dst
    obtain⟨_,ks,hks,hR⟩:=D.r rfl
    have hrep:=jL hgb (i:=q) (by omega) (ks:=ks) (fun j k hj _ _=>.inr hj)
    obtain⟨v,_,hv⟩:=hR E b.eval w' (di b) hrep
    have hdd:aZ l.toArray q=some d:=by rw[hdq];exact hd
    refine⟨b.put (some d) v,⟨by simpa[Act.put]using hag.jq,by simpa[Act.put]using hag.size,fun k hk=>?_⟩,(lV hF hfr hgb (Ext.refl _) (by omega) hdd hdN hpq hv).mono fun j _ h=>?_⟩
    ·have hne:k≠d:=fun e=>hk q (by omega) hfq hb (by rw[hdd,e])
     rw[eH b (by rw[hgb.size];exact hdN),if_neg hne]
     exact hag.tmp k hk
    ·rcases h with h|h
     ·exact .inl (.inl h)
     ·by_cases e:j=q
      ·exact .inr e
      ·exact .inl (.inr (by omega))
 obtain⟨b,h1,h2⟩:=key m (Nat.le_refl _)
 exact⟨b,h1,h2.mono fun j hj _=>.inr hj⟩
theorem tO(hml:m≤l.length)(hc:eO P N l.toArray σ (l.take m) ps fl t){a:Act}{w w':World}(hg:fO N m l ps E t w (fun _=>True) a w'):v8 P l.toArray m fl a:=fun j o d hj hf ho hd w''=>by
 obtain⟨hl1,hl2,hdat⟩:=hc.data
 have hlen:(l.take m).length=m:=by simp;omega
 have hoj:(l.take m)[j]? =some o:=by rw[List.getElem?_take,if_pos hj];simpa using ho
 have hpj:ps[j]? =some (ps[j]'(by omega)):=by simp
 have hff:fl[j]? =some true:=by
  have:j<fl.length:=by rw[hl2,hlen];omega
  simp[this]at hf ⊢;exact hf
 have D:=hdat j _ _ _ hoj hpj hff
 obtain⟨hfix,ks,hks,hR⟩:=D.r rfl
 have hrep:=jL hg (i:=j) (by omega) (ks:=ks) (fun _ _ _ _ _=>trivial)
 obtain⟨v,hrun,hv⟩:=hR E a.eval w' (di a) hrep
 have hdd:aZ l.toArray j=some d:=by rw[(ez hoj).2.2];exact hd
 have:=hfix.yH E w' _ _ (hg.uS j hj trivial d _ hdd hpj) hv
 rw[this];exact hrun w''
end
theorem jD{id:Nat}{l:List Oper}{t t':a7}{σ:bo}{Q:Exit→St→Prop}(m f:Nat){fl:List Bool}{ps:List PV}(hm:P.follows .mixedOrders=true)(hc:eO P N l.toArray σ (l.take m) ps fl t)(hB:(vo l.toArray f m fl&&Region.noSelect l.toArray)=true)(hml:Nat.ble m l.length=true)
  (hfr:((l.take m).all fun o=>o.dst.all fun d=>(look d t).isNone)=true) (hsub:Sub (iz (l.take m) ps t) t') (hw:WR P N L l.toArray (l.drop m) ⟨t',σ⟩ (fun s=>Q .normal s)):W P N L (.region id l.toArray true) ⟨t,σ⟩ Q:=fun F base E₀ w₀ E a w hcm hs=>by
 simp only[Bool.and_eq_true]at hB
 have hF:=qV hB.1
 have hmle:m≤l.length:=Nat.ble_eq.mp hml
 obtain⟨hl1,hl2,hdat⟩:=hc.data
 have hlen:(l.take m).length=m:=by simp;omega
 have hfr':∀i d,i<m→aZ l.toArray i=some d→look d t=none:=fun i d hi hd=>by
  have ho:(l.take m)[i]? =some ((l.take m)[i]'(by omega)):=List.getElem?_eq_getElem (by omega)
  have:=List.all_eq_true.1 hfr _ (List.mem_of_getElem? ho)
  rw[(ez ho).2.2]at hd
  rw[hd]at this
  simpa using this
 have hdst:∀i,i<m→∃d,aZ l.toArray i=some d∧d<N:=fun i hi=>by
  have ho:(l.take m)[i]? =some ((l.take m)[i]'(by omega)):=List.getElem?_eq_getElem (by omega)
  have hp:ps[i]? =some (ps[i]'(by omega)):=by simp
  have hf:fl[i]? =some (fl[i]'(by omega)):=by simp
  obtain⟨d,h1,h2⟩:=(hdat i _ _ _ ho hp hf).dst
  exact⟨d,by rw[(ez ho).2.2];exact h1,h2⟩
 have hsel:∀(i:Nat) (o:Oper),l.toArray[i]? =some o→∀cs b,o.op≠ .select cs b:=fun i o ho cs b=>Region.noSelect_spec hB.2 i o cs b ho
 have main:∀(fuel:Nat) (ls:Array Bool) (a:Act) (w':World),ls.size=l.toArray.size→(∀i,m≤i→i<l.toArray.size→ls.getD i true=false)→Down l.toArray ls→fuel=aP ls m+(l.toArray.size - m)→fO N m l ps E t w (fun j=>ls.getD j true=true) a w'→
   wpAny P .any l.toArray (fun e a' w'=>lH F base N E₀ w₀ (Q e) a' w') fuel ls a w':=by
  have wx:∀(fuel:Nat) (ls:Array Bool) (a:Act) (w':World),ls.size=l.toArray.size→(∀i,m≤i→i<l.toArray.size→ls.getD i true=false)→Down l.toArray ls→fuel=aP ls m+(l.toArray.size - m)→fO N m l ps E t w (fun j=>ls.getD j true=true) a w'→
    (∀i,i<m→fl.getD i false=false→ls.getD i true=true)→wpAny P .any l.toArray (fun e a' w'=>lH F base N E₀ w₀ (Q e) a' w') fuel ls a w':=by
   intro fuel ls a w' hsz hrest hdn hfu hg hall
   obtain⟨a₁,hag,hg1⟩:=s0 hF hmle hfr' hc hg hall
   have hsat:dt F base N ⟨t',σ⟩ E a₁ w':=by
    refine⟨hs.sat.ext hg1.ext,dy.sub (fun k p hk=>?_) hsub,hg1.jq,hg1.size⟩
    rcases fV _ _ _ k p hk with⟨j,o,h1,h2,h3⟩|h'
    ·obtain⟨hj,_,h4⟩:=ez h1
     exact hg1.uS j hj trivial k p (by rw[h4];exact h2) h3
    ·exact hg1.t0 k p h'
   have dp:=hw F base E₀ w₀ E a₁ w' (hcm.on (.ext hg1.ext) (Below.fq hg1.ext hs.sat.bl)) hsat (ui fun a' w'=>lH F base N E₀ w₀ (Q .normal) a' w') m (fun a' w' hp=>hp) (fun j=>by simp)
   refine sN hF hsel (fun j hj=>(hdst j hj).imp fun _ h=>h.1) (fun a w h=>h) fuel m (l.toArray.size - m) ls a a₁ w' (by have:=hF.le;omega) (Nat.le_refl _) hsz hrest (fun i h1 h2=>by omega) hall hdn hfu hag (tO hmle hc hg1) (fun j d hj hd=>?_) (by simpa using dp)
   obtain⟨d',h1,h2⟩:=hdst j hj
   rw[hd]at h1;cases h1
   rw[hg1.size];exact h2
  intro fuel
  induction fuel with
  |zero=>
   intro ls a w' hsz hrest hdn hfu hg
   exact wx 0 ls a w' hsz hrest hdn hfu hg (fun i hi _=>bW (m:=m) (by omega) i hi)
  |succ fuel ih=>
   intro ls a w' hsz hrest hdn hfu hg
   by_cases hall:∀i,i<m→fl.getD i false=false→ls.getD i true=true
   ·exact wx (fuel+1) ls a w' hsz hrest hdn hfu hg hall
   ·have hle:=hF.le
    obtain⟨j0,hj0,hj1,hj2⟩:∃j0,j0<m∧fl.getD j0 false=false∧ls.getD j0 true=false:=by
     apply Classical.byContradiction
     intro hno
     refine hall fun i hi hf=>?_
     cases hb:ls.getD i true with
     |true=>rfl
     |false=>exact absurd ⟨i,hi,hf,hb⟩ hno
    have hf:∀b c (i:Nat),i<l.toArray.size→ls.getD i b=ls.getD i c:=fun b c i hi=>by simp only[Array.getD_eq_getD_getElem?];simp[show i<ls.size by omega]
    have hpos:0<aP ls m:=by
     rcases Nat.eq_zero_or_pos (aP ls m)with h|h
     ·rw[bW h j0 hj0]at hj2;cases hj2
     ·exact h
    obtain⟨i0,hi0,hi1,hi2⟩:=ej hpos
    have hne:i0∈Region.ready .any l.toArray ls:=cK.2 ⟨by omega,hi1,fun k hk=>by
     have:=hF.jr i0 (by omega) k hk
     rw[hf false true k (by omega)];exact hi2 k this⟩
    refine⟨fun h0=>absurd hne (by rw[h0];simp),fun i hi=>?_⟩
    obtain⟨h1,h2,h3⟩:=cK.1 hi
    have him:i<m:=by
     rcases Nat.lt_or_ge i m with h'|h'
     ·exact h'
     ·have:=dr hsz hdn hF.jr f i j0 h1 (hF.yM i h1 h' j0 (by omega) hj1) h3
      rw[hf false true j0 (by omega),hj2]at this
      cases this
    have ho:(l.take m)[i]? =some ((l.take m)[i]'(by omega)):=List.getElem?_eq_getElem (by omega)
    obtain⟨_,hoi,hdi⟩:=ez ho
    have hp:ps[i]? =some (ps[i]'(by omega)):=by simp
    have hfi:fl[i]? =some (fl[i]'(by omega)):=by simp
    have D:=hdat i _ _ _ ho hp hfi
    obtain⟨d,hd,hdN⟩:=D.dst
    obtain⟨ks,hks,hY⟩:=D.y
    have hdd:aZ l.toArray i=some d:=by rw[hdi];exact hd
    have hrep:=jL hg (i:=i) (by omega) (ks:=ks) (fun j k hj hk hjd=>by
     have hlk:k∈b9 l.toArray i:=by
      unfold b9;rw[hoi];exact hks k hk
     have:=h3 j (hF.rd i him k hlk j (by omega) hjd).2
     rw[hf false true j (by omega)]at this
     exact this)
    unfold wpOp
    rw[hoi]
    have hwant:Region.wanted ((l.take m)[i]'(by omega)) (yielded l.toArray a.tmps)=true:=by unfold Region.wanted;rw[hF.ng i _ hoi]
    simp only[hwant,if_true]
    left
    refine kf (hY F base E a.eval w' (di a) (hs.sat.ext hg.ext) hrep) fun v w'' hE hv=>?_
    rw[hd]
    have hset:∀(j:Nat) b,(ls.setIfInBounds i true).getD j b=if j=i then true else ls.getD j b:=fun j b=>by
     by_cases e:i=j
     ·subst e;simp[show i<ls.size by omega]
     ·rw[if_neg (fun h=>e h.symm),Array.getD_eq_getD_getElem?,Array.getD_eq_getD_getElem?,Array.getElem?_setIfInBounds_ne e]
    refine ih _ _ w'' (by simpa using hsz) (fun j hj hj'=>by rw[hset j true,if_neg (show ¬j=i by omega)];exact hrest j hj hj') (fun j hj hj' q hq=>?_) (by have:=eh h2 him (by omega);omega) ((lV hF hfr' hg hE him hdd hdN hp hv).mono fun j hj hjj=>?_)
    ·rw[hset]
     split
     ·rfl
     ·rw[hset]at hj
      split at hj
      ·rename_i e;subst e;exact h3 q hq
      ·exact hdn j hj hj' q hq
    ·rw[hset]at hjj
     split at hjj
     ·rename_i e;exact .inr e
     ·exact .inl hjj
 obtain⟨arr,ds⟩:=a
 refine wp_region_any hm ?_
 have hE:Ext w {w with drawn:=w.drawn+1}:=⟨rfl,rfl,rfl,Nat.le_refl _,fun _ _=>rfl⟩
 have hul:∀k,k≤l.length→aP (Array.replicate l.toArray.size false) k=k:=by
  intro k
  induction k with
  |zero=>intro _;rfl
  |succ k ih=>
   intro hk
   simp only[aP]
   rw[ih (by omega),kh _ _ (by simp;omega)]
   simp
 refine main l.toArray.size (Array.replicate l.toArray.size false) ⟨arr,ds⟩ _ (by simp) (fun i _ hi=>kh _ _ hi _) (fun i hi hi'=>?_) (by rw[hul m hmle];simp;omega) ⟨hE,hs.jq,hs.size,hs.tmp.goes (.ext hE),fun j hj hjl=>?_⟩
 ·rw[kh _ _ hi']at hi;cases hi
 ·rw[kh _ _ (by simp;omega)]at hjl;cases hjl
theorem jY{id:Nat}{l:List Oper}{y:Code}{t t':a7}{σ:bo}{Q:Exit→St→Prop}(m f:Nat){fl:List Bool}{ps:List PV}(hm:P.follows .mixedOrders=true)(hc:eO P N l.toArray σ (l.take m) ps fl t)(hB:(vo l.toArray f m fl&&Region.noSelect l.toArray)=true)(hml:Nat.ble m l.length=true)
  (hfr:((l.take m).all fun o=>o.dst.all fun d=>(look d t).isNone)=true) (hsub:Sub (iz (l.take m) ps t) t') (hw:WR P N L l.toArray (l.drop m) ⟨t',σ⟩ (fun s=>W P N L y s Q)):W P N L (.seq (.region id l.toArray true) y) ⟨t,σ⟩ Q:=ak (jD m f hm hc hB hml hfr hsub hw)
end
end PW
end Go.Proofs.YtnegbdpggideiaaDoor
namespace Go.Proofs.YtnegbdpggideiaaDoor
namespace PW
open Go.RowKit aN Mem
inductive Tr (α:Type) where
 |l
 |n (a:Tr α) (k:Nat) (v:α) (b:Tr α)
def Tr.get{α:Type}:Tr α→Nat→Option α
 | .l,_=>none
 | .n a k v b,j=>bif Nat.beq j k then some v else bif Nat.blt j k then a.get j else b.get j
inductive Tr.mT {α:Type} (R:Nat→α→Prop):Tr α→Prop
 |l:Tr.mT R .l
 |n {a b:Tr α} {k:Nat} {v:α}:Tr.mT R a→R k v→Tr.mT R b→Tr.mT R (.n a k v b)
theorem Tr.mT.get{α:Type}{R:Nat→α→Prop}{t:Tr α}(h:Tr.mT R t){j:Nat}{v:α}:t.get j=some v→R j v:=by
 induction h with
 |l=>intro h;cases h
 | @n a b k u _ hr _ iha ihb=>
  intro h
  simp only[Tr.get,Bool.cond_eq_ite]at h
  split at h
  ·rename_i he
   cases Nat.eq_of_beq_eq_true he
   cases h
   exact hr
  ·split at h
   ·exact iha h
   ·exact ihb h
structure lU where
 tk:Tr (Option Nat)
 fo:Tr Nat
 el:Tr (Nat×Nat)
 st:Tr (List (Nat×Nat)×List Value)
 sl:Tr (Nat×Nat×List Value)
 rk:Tr (Nat×Nat×Nat×List Value)
 zk:Tr (List Value)
 bk:Tr Unit
 pk:Tr Unit
 ar:Tr (Nat×Nat)
 en:Tr Unit
structure lU.Ok (P:Program) (Φ:lU):Prop where
 tk:Φ.tk.mT fun k v=>nv P k=some v
 fo:Φ.fo.mT fun k v=>fv P (k / 100) (k % 100)=some v
 el:Φ.el.mT fun k v=>pE P k=some v
 st:Φ.st.mT fun k v=>yk P k=some v
 sl:Φ.sl.mT fun k v=>xg P k=some v
 rk:Φ.rk.mT fun k v=>nY P k=some v
 zk:Φ.zk.mT fun k v=>qL P k=some v
 bk:Φ.bk.mT fun k _=>mC P k=true
 pk:Φ.pk.mT fun k _=>mV P k=true
 ar:Φ.ar.mT fun k v=>x4 P k=some v
 en:Φ.en.mT fun k _=>enters P k=true
class Has (P:Program) (Φ:outParam lU):Prop where
 ok:lU.Ok P Φ
def force{α:Type}:List α→Option (List α)
 | []=>some []
 |x::l=>match force l with
  |some r=>some (x::r)
  |none=>none
theorem force_eq{α:Type}:∀ {l r:List α},force l=some r→l=r
 | [],r,h=>by cases h;rfl
 |x::l,r,h=>by
  simp only[force]at h
  split at h
  ·rename_i r' hr
   cases h
   rw[force_eq hr]
  ·cases h
def uW(xs:List PV)(k:Nat):Nat→Option (List PV)
 |0=>some []
 |n+1=>match xs[k]? with
  |some p=>match uW xs (k+1) n with
   |some r=>some (p::r)
   |none=>none
  |none=>none
theorem qH{xs:List PV}:∀ {n k:Nat} {ys:List PV},uW xs k n=some ys→(xs.drop k).take n=ys∧ys.length=n
 |0,k,ys,h=>by cases h;simp
 |n+1,k,ys,h=>by
  simp only[uW]at h
  split at h
  ·rename_i p hp
   split at h
   ·rename_i r hr
    cases h
    obtain⟨h1,h2⟩:=qH hr
    have hlt:=(List.getElem?_eq_some_iff.1 hp).1
    have hx:xs[k]=p:=by rw[List.getElem?_eq_getElem hlt]at hp;exact Option.some.inj hp
    refine⟨?_,by simp[h2]⟩
    rw[List.drop_eq_getElem_cons hlt,List.take_succ_cons,h1,hx]
   ·cases h
  ·cases h
def part(xs:List PV)(k n:Nat):Option PV:=bif Nat.beq k 0&&Nat.beq xs.length n then some (.agg xs) else match uW xs k n with
 |some ys=>some (.agg ys)
 |none=>none
def xx(op:BinOp)(a b:Int):Option PV:=
 match op with
 | .lss=>some (.raw (.bool (decide (a<b))))
 | .leq=>some (.raw (.bool (decide (a≤b))))
 | .gtr=>some (.raw (.bool (decide (b<a))))
 | .geq=>some (.raw (.bool (decide (b≤a))))
 | .eql=>some (.raw (.bool (decide (a=b))))
 | .neq=>some (.raw (.bool (decide (a≠b))))
 |_=>none
def xj(Φ:lU)(op:BinOp)(ty:TypeId):PV→PV→Option PV
 | .raw (.int .i64 a),.raw (.int .i64 b)=>xx op a b
 | .raw (.bool a),.raw (.bool b)=>match Φ.bk.get ty with
  |some _=>match op with
   | .eql=>some (.raw (.bool (a==b)))
   | .neq=>some (.raw (.bool (!(a==b))))
   |_=>none
  |none=>none
 | .ptr _ _,.raw (.pointer none)=>match Φ.pk.get ty with
  |some _=>match op with
   | .eql=>some (.raw (.bool false))
   | .neq=>some (.raw (.bool true))
   |_=>none
  |none=>none
 | .b6 _ _,.raw (.pointer none)=>match Φ.pk.get ty with
  |some _=>match op with
   | .eql=>some (.raw (.bool false))
   |_=>none
  |none=>none
 |_,_=>none
def dc(Φ:lU)(σ:bo)(t:a7):Op→Option PV
  | .move x=>ah t x
  | .assign x=>ah t x
  | .pick c a b=>match ah t c with
    |some (.raw (.bool true))=>ah t a
    |some (.raw (.bool false))=>ah t b
    |_=>none
  | .unOp .not _ x=>match ah t x with
    |some (.raw (.bool q))=>some (.raw (.bool (!q)))
    |_=>none
  | .binOp op ty x y _=>match ah t x with
    |some p=>match ah t y with
      |some q=>xj Φ op ty p q
      |none=>none
    |none=>none
  | .nilCheck x=>match ah t x with
    |some (.b6 xs k)=>some (.b6 xs k)
    |some (.ptr i k)=>some (.ptr i k)
    |some (.func f c)=>some (.func f c)
    |_=>none
  | .fieldAddr s x f=>bif Nat.blt f 100 then match Φ.fo.get (s*100+f)with
      |some off=>match ah t x with
        |some (.b6 xs k)=>some (.b6 xs (k+off))
        |some (.ptr i k)=>some (.ptr i (k+off))
        |_=>none
      |none=>none
    else none
  | .load ty x=>match Φ.tk.get ty with
    |some none=>match ah t x with
      |some (.b6 xs k)=>xs[k]?
      |some (.ptr i k)=>match σ[i]? with
        |some (some blk)=>blk.xs[k]?
        |_=>none
      |_=>none
    |some (some n)=>match ah t x with
      |some (.b6 xs k)=>part xs k n
      |some (.ptr i k)=>match σ[i]? with
        |some (some blk)=>part blk.xs k n
        |_=>none
      |_=>none
    |none=>none
  | .extract x k=>match ah t x with
    |some (.tuple xs)=>xs[k]?
    |_=>none
  | .makeFunc fn fs cs=>match fn with
    | .func f=>match fs.toList with
      | []=>match dR t cs.toList with
        |some xs=>some (.func f xs)
        |none=>none
      |_=>none
    |_=>none
  | .box _ x=>match ah t x with
    |some p=>match fW p with
      |some xs=>some (.b6 xs 0)
      |none=>none
    |none=>none
  | .build ty parts=>match Φ.st.get ty with
    |some (pl,z)=>match eM t parts.toList with
      |some ps=>match jX (pl[·]?) (z.map .raw) ps with
        |some xs=>match force xs with
          |some ys=>some (.agg ys)
          |none=>none
        |none=>none
      |none=>none
    |none=>none
  | .buildSlice ty n parts=>match Φ.sl.get ty with
    | some (_, s, z) => bif Nat.blt 0 n && Nat.ble (n * s) 16777216 then match eM t parts.toList with
        |some ps=>match jX (fun i=>some (i*s,s)) (db (z.map .raw) n) ps with
          |some xs=>match force xs with
            |some ys=>some (.slice n ys)
            |none=>none
          |none=>none
        |none=>none
      else bif Nat.beq n 0&&Nat.beq parts.size 0 then some (.slice 0 []) else none
    |none=>none
  | .call c=>match c.callee with
    | .builtin .len=>match c.args.toList,c.argTypes.toList with
      | [x],[ty]=>match Φ.el.get ty with
        |some _=>match ah t x with
          |some (.slice n _)=>some (.raw (.int .i64 n))
          |some (.raw (.slice none 0 0))=>some (.raw (.int .i64 0))
          |some (.own m)=>match σ[m]? with
            |some (some (.row _ _ n _))=>some (.raw (.int .i64 n))
            |_=>none
          |_=>none
        |none=>none
      |_,_=>none
    |_=>none
  |_=>none
section
variable {P:Program} {σ:bo} {t:a7} {o:Oper} {Φ:lU}
theorem nd{xs:List PV}{k n:Nat}{p:PV}(h:part xs k n=some p):∃ys,p= .agg ys∧(xs.drop k).take n=ys∧ys.length=n:=by
 unfold part at h
 rw[Bool.cond_eq_ite]at h
 split at h
 ·rename_i hc
  simp only[Bool.and_eq_true]at hc
  have h1:=Nat.eq_of_beq_eq_true hc.1
  have h2:=Nat.eq_of_beq_eq_true hc.2
  subst h1
  cases h
  exact⟨xs,rfl,by rw[List.drop_zero,←h2,List.take_length],h2⟩
 ·split at h
  ·rename_i ys hy
   cases h
   exact⟨ys,rfl,qH hy⟩
  ·cases h
theorem w4(hΦ:Φ.Ok P){op:BinOp}{x y:Operand}{ty tz:TypeId}{p q r:PV}(ho:o.op= .binOp op ty x y tz)(hx:ah t x=some p)(hy:ah t y=some q)(h:xj Φ op ty p q=some r):az P σ t o r:=by
 unfold xj at h
 split at h
 ·unfold xx at h
  split at h<;>first|(cases h;done)|skip
  ·cases h;exact xN ho hx hy rfl
  ·cases h;exact xB ho hx hy rfl
  ·cases h;exact x3 ho hx hy rfl
  ·cases h;exact xy ho hx hy rfl
  ·cases h;exact yd ho hx hy rfl
  ·cases h;exact xJ ho hx hy rfl
 ·split at h
  ·rename_i u hu
   have hb:=hΦ.bk.get hu
   split at h
   ·cases h;exact su ho hb hx hy rfl
   ·cases h;exact rN ho hb hx hy rfl
   ·cases h
  ·cases h
 ·split at h
  ·rename_i u hu
   have hb:=hΦ.pk.get hu
   split at h
   ·cases h;exact kR ho hb hx hy
   ·cases h;exact ua ho hb hx hy
   ·cases h
  ·cases h
 ·split at h
  ·rename_i u hu
   have hb:=hΦ.pk.get hu
   split at h
   ·cases h;exact uG ho hb hx hy
   ·cases h
  ·cases h
 ·cases h
theorem mQ{α:Type}{a:Array α}{l:List α}(h:a.toList=l):a=l.toArray:=by rw[←h]
theorem sR(s f:Nat):(s*100+f) / 100=s+f / 100∧(s*100+f) % 100=f % 100:=by omega
theorem gv(hΦ:Φ.Ok P){op:Op}{p:PV}(ho:o.op=op)(h:dc Φ σ t op=some p):az P σ t o p:=by
 unfold dc at h
 split at h
 ·exact cO ho h
 ·exact cf ho h
 ·split at h
  ·rename_i hc;exact vN ho hc h
  ·rename_i hc;exact u5 ho hc h
  ·cases h
 ·split at h
  ·rename_i hc;cases h;exact xH ho hc
  ·cases h
 ·split at h
  ·rename_i p' hp
   split at h
   ·rename_i q' hq;exact w4 hΦ ho hp hq h
   ·cases h
  ·cases h
 ·split at h
  ·rename_i hc;cases h;exact tD ho hc
  ·rename_i hc;cases h;exact ew ho hc
  ·rename_i hc;cases h;exact r9 ho hc
  ·cases h
 ·rename_i s x f
  rw[Bool.cond_eq_ite]at h
  split at h
  ·rename_i hf100
   have hf100:=Nat.blt_eq.mp hf100
   split at h
   ·rename_i off hof
    have hf:=hΦ.fo.get hof
    obtain⟨e1,e2⟩:=sR s f
    rw[e1,e2,Nat.div_eq_of_lt hf100,Nat.mod_eq_of_lt hf100,Nat.add_zero]at hf
    split at h
    ·rename_i hc;cases h;exact p9 ho hf hc
    ·rename_i hc;cases h;exact pv ho hf hc
    ·cases h
   ·cases h
  ·cases h
 ·split at h
  ·rename_i htk
   have hk:=hΦ.tk.get htk
   split at h
   ·rename_i hc;exact mi ho hk hc h
   ·rename_i hc
    split at h
    ·rename_i hi;exact dB ho hk hc hi h
    ·cases h
   ·cases h
  ·rename_i n htk
   have hk:=hΦ.tk.get htk
   split at h
   ·rename_i hc
    obtain⟨ys,rfl,h1,h2⟩:=nd h
    exact jf ho hk hc h1 h2
   ·rename_i hc
    split at h
    ·rename_i hi
     obtain⟨ys,rfl,h1,h2⟩:=nd h
     exact ei ho hk hc hi h1 h2
    ·cases h
   ·cases h
  ·cases h
 ·split at h
  ·rename_i hc;exact rj ho hc h
  ·cases h
 ·split at h
  ·split at h
   ·rename_i hfs
    split at h
    ·rename_i hc
     cases h
     rw[mQ hfs]at ho
     exact k8 ho hc
    ·cases h
   ·cases h
  ·cases h
 ·split at h
  ·rename_i hc
   split at h
   ·rename_i hx;cases h;exact uc ho hc hx
   ·cases h
  ·cases h
 ·split at h
  ·rename_i hst
   have hk:=hΦ.st.get hst
   split at h
   ·rename_i hps
    split at h
    ·rename_i hf
     split at h
     ·rename_i hfo
      cases h
      cases force_eq hfo
      exact eg ho hk hps hf
     ·cases h
    ·cases h
   ·cases h
  ·cases h
 ·split at h
  ·rename_i hsl
   have hk:=hΦ.sl.get hsl
   rw[Bool.cond_eq_ite]at h
   split at h
   ·rename_i hn
    simp only[Bool.and_eq_true,Nat.blt_eq,Nat.ble_eq]at hn
    split at h
    ·rename_i hps
     split at h
     ·rename_i hf
      split at h
      ·rename_i hfo
       cases h
       cases force_eq hfo
       exact mY ho hk hn hps hf
      ·cases h
     ·cases h
    ·cases h
   ·rw[Bool.cond_eq_ite]at h
    split at h
    ·rename_i hn
     simp only[Bool.and_eq_true]at hn
     have h1:=Nat.eq_of_beq_eq_true hn.1
     have h2:=Nat.eq_of_beq_eq_true hn.2
     subst h1
     have h3:=Array.eq_empty_of_size_eq_zero h2
     rw[h3]at ho
     cases h
     exact mW ho hk
    ·cases h
  ·cases h
 ·rename_i c
  split at h
  ·rename_i hcal
   split at h
   ·rename_i x ty hax hat
    split at h
    ·rename_i hel
     have hk:=hΦ.el.get hel
     have ho':o.op= .call {callee:=.builtin .len,args:= #[x],argTypes:= #[ty]}:=by
      rw[ho]
      obtain⟨c1,c2,c3⟩:=c
      simp only at hcal hax hat
      rw[hcal,mQ hax,mQ hat]
     split at h
     ·rename_i hc;cases h;exact oU ho' hk hc
     ·rename_i hc;cases h;exact lf ho' hk hc
     ·rename_i hc
      split at h
      ·rename_i hi;cases h;exact tR ho' hk hc hi
      ·cases h
     ·cases h
    ·cases h
   ·cases h
  ·cases h
 ·cases h
theorem j5{t':a7}:∀ {l:List Operand},(∀x∈l,ah t' x=ah t x)→dR t' l=dR t l
 | [],_=>rfl
 |x::l,h=>by simp only[dR,h x (List.mem_cons_self ..),j5 (fun y hy=>h y (List.mem_cons_of_mem _ hy))]
theorem gh{t':a7}:∀ {l:List (Nat×Operand)},(∀x∈l,ah t' x.2=ah t x.2)→eM t' l=eM t l
 | [],_=>rfl
 |(i,x)::l,h=>by simp only[eM,h (i,x) (List.mem_cons_self ..),gh (fun y hy=>h y (List.mem_cons_of_mem _ hy))]
theorem oE{t':a7}(op:Op)(h:∀x∈op.operands,ah t' x=ah t x):dc Φ σ t' op=dc Φ σ t op:=by
 cases op with
 |move x=>exact h x (by simp[Op.operands])
 |assign x=>exact h x (by simp[Op.operands])
 |pick c a b=>simp only[dc,h c (by simp[Op.operands]),h a (by simp[Op.operands]),h b (by simp[Op.operands])]
 |unOp u ty x=>cases u<;>simp only[dc,h x (by simp[Op.operands])]
 |binOp b ty x y tz=>simp only[dc,h x (by simp[Op.operands]),h y (by simp[Op.operands])]
 |nilCheck x=>simp only[dc,h x (by simp[Op.operands])]
 |fieldAddr s x f=>simp only[dc,h x (by simp[Op.operands])]
 |load ty x=>simp only[dc,h x (by simp[Op.operands])]
 |extract x k=>simp only[dc,h x (by simp[Op.operands])]
 |box ty x=>simp only[dc,h x (by simp[Op.operands])]
 |makeFunc fn fs cs=>
  have:dR t' cs.toList=dR t cs.toList:=j5 fun x hx=>h x (by simp only[Op.operands];exact Array.mem_append_right _ (by simpa using hx))
  simp only[dc,this]
 |build ty ps=>
  have:eM t' ps.toList=eM t ps.toList:=gh fun x hx=>h x.2 (by simp only[Op.operands,List.mem_toArray,List.mem_map];exact⟨x,hx,rfl⟩)
  simp only[dc,this]
 |buildSlice ty n ps=>
  have:eM t' ps.toList=eM t ps.toList:=gh fun x hx=>h x.2 (by simp only[Op.operands,List.mem_toArray,List.mem_map];exact⟨x,hx,rfl⟩)
  simp only[dc,this]
 |call c=>
  simp only[dc]
  split
  ·split
   ·rename_i x ty hax _
    rw[h x (by simp only[Op.operands,Call.operands];exact Array.mem_append_right _ (by rw[mQ hax];simp))]
   ·rfl
  ·rfl
 |_=>rfl
theorem oJ{ks:List Nat}{k:Nat}(h:k∈ks):look k (df t ks)=look k t:=by
 cases e:look k (df t ks)with
 |some p=>exact((eu ks k p e).2).symm
 |none=>
  induction ks with
  |nil=>cases h
  |cons j ks ih=>
   simp only[df]at e
   by_cases hjk:k=j
   ·subst hjk
    cases hl:look k t with
    |none=>rfl
    |some p=>rw[hl]at e;simp[look,Nat.beq_refl]at e
   ·have hm:k∈ks:=by cases h with|head=>exact absurd rfl hjk|tail _ hh=>exact hh
    split at e
    ·have hb:Nat.beq k j=false:=by rw[Bool.eq_false_iff];exact fun hh=>hjk (Nat.eq_of_beq_eq_true hh)
     simp only[look,hb,cond_false]at e
     exact ih hm e
    ·exact ih hm e
theorem mK{ks:List Nat}{x:Operand}(h:∀k,x= .tmp k→k∈ks):ah (df t ks) x=ah t x:=by
 cases x with
 |tmp k=>exact oJ (h k rfl)
 |_=>rfl
def tc(Φ:lU)(N:Nat)(ops:Array Oper)(σ:bo)(t:a7)(o:Oper):Option (Nat×PV):=
 match o.dst with
 |some d=>bif Nat.blt d N then match cz ops t o with
   |some true=>match dc Φ σ t o.op with
    |some p=>some (d,p)
    |none=>none
   |some false=>some (d,.raw undef)
   |none=>none
  else none
 |none=>none
def uD(Φ:lU)(N:Nat)(ops:Array Oper)(σ:bo):Nat→List Oper→a7→Option (List Oper×a7)
 |0,l,t=>some (l,t)
 |_+1,[],_=>none
 |n+1,o::l,t=>match tc Φ N ops σ t o with
  |some x=>uD Φ N ops σ n l (x::t)
  |none=>none
variable {N L:Nat} {ops:Array Oper}
theorem cD.a[hP:Has P Φ](n:Nat){l l':List Oper}{u t':a7}(h:uD Φ N ops σ n l t=some (l',u))(k:cD P N ops σ l' u t'):cD P N ops σ l t t':=by
 induction n generalizing l t with
 |zero=>cases h;exact k
 |succ n ih=>
  cases l with
  |nil=>cases h
  |cons o l=>
   simp only[uD]at h
   split at h
   ·rename_i x hx
    have kk:=ih h
    unfold tc at hx
    split at hx
    ·rename_i d hd
     rw[Bool.cond_eq_ite]at hx
     split at hx
     ·rename_i hN
      split at hx
      ·rename_i hw
       split at hx
       ·rename_i p hp
        cases hx
        exact .val (gv hP.ok rfl hp) hd hw hN kk
       ·cases hx
      ·rename_i hw
       cases hx
       exact .skip hd hw hN kk
      ·cases hx
     ·cases hx
    ·cases hx
   ·cases h
theorem cp.a[hP:Has P Φ](n:Nat){l l':List Oper}{u t':a7}(h:uD Φ N ops σ n l t=some (l',u))(k:cp P N ops σ l' u t'):cp P N ops σ l t t':=by
 induction n generalizing l t with
 |zero=>cases h;exact k
 |succ n ih=>
  cases l with
  |nil=>cases h
  |cons o l=>
   simp only[uD]at h
   split at h
   ·rename_i x hx
    have kk:=ih h
    unfold tc at hx
    split at hx
    ·rename_i d hd
     rw[Bool.cond_eq_ite]at hx
     split at hx
     ·rename_i hN
      split at hx
      ·rename_i hw
       split at hx
       ·rename_i p hp
        cases hx
        refine .val (o.looksAt ops) (by simp) (gv hP.ok rfl (op:=o.op) ?_) hd hw hN kk
        rw[oE,hp]
        intro x hx
        refine mK fun k hk=>?_
        subst hk
        exact List.mem_append_left _ (List.mem_filterMap.2 ⟨.tmp k,by simpa using hx,rfl⟩)
       ·cases hx
      ·rename_i hw
       cases hx
       exact .skip hd hw hN kk
      ·cases hx
     ·cases hx
    ·cases hx
   ·cases h
def dk(N:Nat)(ops:Array Oper)(t:a7)(o:Oper):Option Nat:=
 match o.dst with
 |some d=>bif Nat.blt d N then match cz ops t o with
   |some true=>some d
   |_=>none
  else none
 |none=>none
theorem cq{d:Nat}(h:dk N ops t o=some d):o.dst=some d∧cz ops t o=some true∧Nat.blt d N=true:=by
 unfold dk at h
 split at h
 ·rename_i d' hd
  rw[Bool.cond_eq_ite]at h
  split at h
  ·rename_i hN
   split at h
   ·rename_i hw;cases h;exact⟨hd,hw,hN⟩
   ·cases h
  ·cases h
 ·cases h
theorem cD.v{rest:List Oper}{t':a7}{d:Nat}{p:PV}(hy:az P σ t o p)(h:dk N ops t o=some d)(k:cD P N ops σ rest ((d,p)::t) t'):cD P N ops σ (o::rest) t t':=.val hy (cq h).1 (cq h).2.1 (cq h).2.2 k
theorem cp.v{rest:List Oper}{t':a7}{d:Nat}{p:PV}(ks:List Nat)(hy:az P σ (df t ks) o p)(hk:(ks.all fun k=>(o.looksAt ops).contains k)=true)(h:dk N ops t o=some d)(k:cp P N ops σ rest ((d,p)::t) t'):cp P N ops σ (o::rest) t t':=.val ks hk hy (cq h).1 (cq h).2.1 (cq h).2.2 k
theorem bZ{rest:List Oper}{K:St→Prop}{d:Nat}{p:PV}(hy:az P σ t o p)(h:dk N ops t o=some d)(k:WR P N L ops rest ⟨(d,p)::t,σ⟩ K):WR P N L ops (o::rest) ⟨t,σ⟩ K:=aE hy (cq h).1 (cq h).2.1 (cq h).2.2 k
theorem dJ{rest:List Oper}{σ':bo}{K:St→Prop}{d:Nat}{p:PV}(hy:eT P σ t o p σ')(h:dk N ops t o=some d)(k:WR P N L ops rest ⟨(d,p)::t,σ'⟩ K):WR P N L ops (o::rest) ⟨t,σ⟩ K:=bN hy (cq h).1 (cq h).2.1 (cq h).2.2 k
def jk(t:a7):List Nat→Option a7
 | []=>some []
 |k::ks=>match look k t with
  |some p=>match jk t ks with
   |some r=>some ((k,p)::r)
   |none=>none
  |none=>none
theorem bm:∀ {ks:List Nat} {u:a7},jk t ks=some u→Sub t u
 | [],u,h=>by cases h;exact Sub.nil _
 |k::ks,u,h=>by
  simp only[jk]at h
  split at h
  ·rename_i p hp
   split at h
   ·rename_i r hr
    cases h
    exact .cons hp (bm hr)
   ·cases h
  ·cases h
theorem cD.k(ks:List Nat){u:a7}(h:jk t ks=some u):cD P N ops σ [] t u:=.nil (bm h)
theorem cp.k(ks:List Nat){u:a7}(h:jk t ks=some u):cp P N ops σ [] t u:=.nil (bm h)
theorem iC{c:Code}{Q:Exit→St→Prop}(ks:List Nat){u:a7}(h:jk t ks=some u)(k:W P N L c ⟨u,σ⟩ Q):W P N L c ⟨t,σ⟩ Q:=lZ (bm h) k
theorem aQ{K:St→Prop}(ks:List Nat){u:a7}(h:jk t ks=some u)(k:K ⟨u,σ⟩):WR P N L ops [] ⟨t,σ⟩ K:=pA (bm h) (aH k)
def u6:bo→Option Nat
 | []=>some 0
 |_::l=>match u6 l with
  |some n=>some (n+1)
  |none=>none
theorem qx:∀ {s:bo} {n:Nat},u6 s=some n→s.length=n
 | [],n,h=>by cases h;rfl
 |_::l,n,h=>by
  simp only[u6]at h
  split at h
  ·rename_i m hm;cases h;simp[qx hm]
  ·cases h
def vx:PV→Bool
 | .raw (.int _ _)=>true
 | .raw (.bool _)=>true
 | .raw (.string _)=>true
 | .raw (.slice _ _ _)=>true
 | .raw (.pointer _)=>true
 | .slice _ _=>true
 | .b6 _ _=>true
 | .func _ _=>true
 | .ptr _ _=>true
 | .own _=>true
 |_=>false
theorem sT{p:PV}(h:vx p=true):cN p:=by
 unfold vx at h
 split at h<;>first|infer_instance|cases h
theorem s8{xs:List PV}(h:xs.all vx=true):ba xs:=⟨fun i u hu=>sT (List.all_eq_true.1 h u (List.mem_of_getElem? hu))⟩
def nL(Φ:lU)(t:a7)(σ:bo):Op→Option (PV×bo)
  | .alloc ty=>match Φ.zk.get ty with
    |some z=>match force (z.map PV.raw)with
      |some z'=>match u6 σ with
        |some n=>match force (σ++[some (.cells ty z')])with
          |some s=>some (.ptr n 0,s)
          |none=>none
        |none=>none
      |none=>none
    |none=>none
  | .store ty x y=>match Φ.tk.get ty with
    | some k => match ah t x with
      | some (.ptr i off) => match ah t y with
        | some p => match σ[i]? with
          | some (some blk) => match fW p with
            |some ys=>match force ys with
              |some ys=>bif Nat.beq ys.length (k.getD 1)&&(Nat.ble (off+ys.length) blk.xs.length&&ys.all vx) then match force (over blk.xs off ys)with
                  |some zs=>match force (σ.set i (some (blk.oC zs)))with
                    |some s=>some (.raw undef,s)
                    |none=>none
                  |none=>none
                else none
              |none=>none
            |none=>none
          |_=>none
        |none=>none
      |_=>none
    |none=>none
  |_=>none
theorem lb(hΦ : Φ.Ok P){op : Op}{p : PV}{σ' : bo}(ho : o.op = op)(h : nL Φ t σ op = some (p, σ')) : eT P σ t o p σ' := by
  unfold nL at h
  split at h
  · split at h
    · rename_i hz
      split at h
      · rename_i hz'
        cases force_eq hz'
        split at h
        · rename_i hl
          cases qx hl
          split at h
          · rename_i hs
            cases force_eq hs
            cases h
            exact uP ho (hΦ.zk.get hz)
          · cases h
        · cases h
      · cases h
    · cases h
  · split at h
    · rename_i hk
      split at h
      · rename_i hx
        split at h
        · rename_i hy
          split at h
          · rename_i hi
            split at h
            · rename_i hc
              split at h
              · rename_i hf
                cases force_eq hf
                rw[Bool.cond_eq_ite]at h
                split at h
                · rename_i hb
                  simp only[Bool.and_eq_true,Nat.ble_eq]at hb
                  have h1:=Nat.eq_of_beq_eq_true hb.1
                  haveI:=s8 hb.2.2
                  split at h
                  · rename_i hz
                    cases force_eq hz
                    split at h
                    · rename_i hs
                      cases force_eq hs
                      cases h
                      exact vu ho (hΦ.tk.get hk) hx hy hc h1 hi hb.2.1
                    · cases h
                  · cases h
                · cases h
              · cases h
            · cases h
          · cases h
        · cases h
      · cases h
    · cases h
  · cases h
def wq(Φ:lU)(N:Nat)(ops:Array Oper)(t:a7)(σ:bo)(o:Oper):Option (a7×bo):=
 match cz ops t o with
 |some true=>match o.dst with
  |some d=>bif Nat.blt d N then match dc Φ σ t o.op with
    |some p=>some ((d,p)::t,σ)
    |none=>match nL Φ t σ o.op with
     |some (p,s)=>some ((d,p)::t,s)
     |none=>none
   else none
  |none=>match nL Φ t σ o.op with
   |some (_,s)=>some (t,s)
   |none=>none
 |some false=>match o.dst with
  |some d=>bif Nat.blt d N then some ((d,.raw undef)::t,σ) else none
  |none=>none
 |none=>none
def wL(Φ:lU)(N:Nat)(ops:Array Oper):Nat→List Oper→a7→bo→Option (List Oper×a7×bo)
 |0,l,t,σ=>some (l,t,σ)
 |_+1,[],_,_=>none
 |n+1,o::l,t,σ=>match wq Φ N ops t σ o with
  |some (t',σ')=>wL Φ N ops n l t' σ'
  |none=>none
theorem av[hP:Has P Φ](n:Nat){l l':List Oper}{u:a7}{σ':bo}{K:St→Prop}(h:wL Φ N ops n l t σ=some (l',u,σ'))(k:WR P N L ops l' ⟨u,σ'⟩ K):WR P N L ops l ⟨t,σ⟩ K:=by
 induction n generalizing l t σ with
 |zero=>cases h;exact k
 |succ n ih=>
  cases l with
  |nil=>cases h
  |cons o l=>
   simp only[wL]at h
   split at h
   ·rename_i t' s' hx
    have kk:=ih h
    unfold wq at hx
    split at hx
    ·rename_i hw
     split at hx
     ·rename_i d hd
      rw[Bool.cond_eq_ite]at hx
      split at hx
      ·rename_i hN
       split at hx
       ·rename_i p hp
        cases hx
        exact aE (gv hP.ok rfl hp) hd hw hN kk
       ·split at hx
        ·rename_i hs
         cases hx
         exact bN (lb hP.ok rfl hs) hd hw hN kk
        ·cases hx
      ·cases hx
     ·rename_i hd
      split at hx
      ·rename_i hs
       cases hx
       exact bE (lb hP.ok rfl hs) hd hw kk
      ·cases hx
    ·rename_i hw
     split at hx
     ·rename_i d hd
      rw[Bool.cond_eq_ite]at hx
      split at hx
      ·rename_i hN
       cases hx
       exact qI hd hw hN kk
      ·cases hx
     ·cases hx
    ·cases hx
   ·cases h
def jV(Φ:lU)(t:a7):Op→Option (Nat×List PV)
  | .call c=>match c.callee with
    | .value x=>match ah t x with
      | some (.func f cap) => match Φ.en.get f with
        |some _=>match dR t c.args.toList with
          |some ps=>match cap with
            | []=>some (f,ps)
            |q::cap=>match force (ps++(q::cap))with
              |some qs=>some (f,qs)
              |none=>none
          |none=>none
        |none=>none
      |_=>none
    |_=>none
  |_=>none
theorem fL(hΦ:Φ.Ok P){op:Op}{f:Nat}{ps:List PV}(h:jV Φ t op=some (f,ps)):∃x args ats cap qs,op= .call {callee:=.value x,args:=args,argTypes:=ats}∧enters P f=true∧ah t x=some (.func f cap)∧dR t args.toList=some qs∧qs++cap=ps:=by
 unfold jV at h
 split at h
 ·rename_i c
  obtain⟨c1,c2,c3⟩:=c
  split at h
  ·rename_i x hx
   simp only at hx
   subst hx
   split at h
   ·rename_i hf
    split at h
    ·rename_i hen
     split at h
     ·rename_i qs hq
      split at h
      ·cases h;exact⟨_,_,_,_,_,rfl,hΦ.en.get hen,hf,hq,by simp⟩
      ·split at h
       ·rename_i hfo
        cases h;exact⟨_,_,_,_,_,rfl,hΦ.en.get hen,hf,hq,force_eq hfo⟩
       ·cases h
     ·cases h
    ·cases h
   ·cases h
  ·cases h
 ·cases h
theorem j8[hP:Has P Φ]{f:Nat}{ps:List PV}{r:PV}(h:jV Φ t o.op=some (f,ps))(hc:Can P f ps (· =r))[hp:ao ps]:az P σ t o r:=by
 obtain⟨x,args,ats,cap,qs,ho,hen,hx,hq,rfl⟩:=fL hP.ok h
 exact pP ho hen hx hq hc
theorem wC[hP:Has P Φ]{f:Nat}{ps qs:List PV}{r:PV}(h:jV Φ t o.op=some (f,ps))(hq:al σ ps qs)(hc:Can P f qs (· =r))[hp:gd r]:az P σ t o r:=by
 obtain⟨x,args,ats,cap,ps',ho,hen,hx,he,rfl⟩:=fL hP.ok h
 exact vM ho hen hx he hq hc
theorem w5[hP:Has P Φ]{f:Nat}{ps qs:List PV}{r:PV}(h:jV Φ t o.op=some (f,ps))(hq:al [] ps qs)(hc:Can P f qs (· =r)):az P σ t o r:=by
 obtain⟨x,args,ats,cap,ps',ho,hen,hx,he,rfl⟩:=fL hP.ok h
 exact uY ho hen hx he hq hc
theorem cD.c[Has P Φ]{rest:List Oper}{t':a7}{d f:Nat}{ps:List PV}{r:PV}(h:jV Φ t o.op=some (f,ps))(hc:Can P f ps (· =r))(hd:dk N ops t o=some d)(k:cD P N ops σ rest ((d,r)::t) t')[ao ps]:cD P N ops σ (o::rest) t t':=.v (j8 h hc) hd k
theorem fu[Has P Φ]{rest:List Oper}{K:St→Prop}{d f:Nat}{ps:List PV}{r:PV}(h:jV Φ t o.op=some (f,ps))(hc:Can P f ps (· =r))(hd:dk N ops t o=some d)(k:WR P N L ops rest ⟨(d,r)::t,σ⟩ K)[ao ps]:WR P N L ops (o::rest) ⟨t,σ⟩ K:=bZ (j8 h hc) hd k
theorem cG[hP:Has P Φ]{rest:List Oper}{K:St→Prop}{d f:Nat}{ps:List PV}(h:jV Φ t o.op=some (f,ps))(hd:dk N ops t o=some d)(hc:bQ P f ps σ (fun r σ'=>WR P N L ops rest ⟨(d,r)::t,σ'⟩ K)):WR P N L ops (o::rest) ⟨t,σ⟩ K:=by
 obtain⟨x,args,ats,cap,ps',ho,hen,hx,he,rfl⟩:=fL hP.ok h
 exact uI ho hen hx he (cq hd).1 (cq hd).2.1 (cq hd).2.2 hc
theorem bT[hP:Has P Φ]{b q:Bool}(h:dc Φ σ t o.op=some (.raw (.bool b)))(hq:b=q):az P σ t o (.raw (.bool q)):=by subst hq;exact gv hP.ok rfl h
def yL(t:a7):Op→Option Int
 | .binOp op _ x y _=>match ah t x with
  |some (.raw (.int .i64 a))=>match ah t y with
   |some (.raw (.int .i64 b))=>match op with
    | .add=>some (a+b)
    | .sub=>some (a - b)
    | .mul=>some (a*b)
    |_=>none
   |_=>none
  |_=>none
 |_=>none
theorem bf{a:Int}(h:yL t o.op=some a){c:Int}(hc:a=c:=by exact rfl)(hn:In64 c:=by unfold In64;omega):az P σ t o (.raw (.int .i64 c)):=by
 subst hc
 unfold yL at h
 split at h
 ·rename_i ho
  split at h
  ·rename_i hx
   split at h
   ·rename_i hy
    split at h
    ·cases h;exact xM ho hx hy rfl hn
    ·cases h;exact xL ho hx hy rfl hn
    ·cases h;exact x5 ho hx hy rfl hn
    ·cases h
   ·cases h
  ·cases h
 ·cases h
def yR(Φ:lU)(σ:bo)(t:a7):Op→Option (Int×Nat×Nat×(Nat→PV))
 | .indexAddr ty x ix=>match ah t ix with
  |some (.raw (.int _ i))=>match Φ.el.get ty with
   |some (_,s)=>match ah t x with
    |some (.slice n xs)=>some (i,n,s,fun j=>.b6 xs j)
    |some (.own m)=>match σ[m]? with
     |some (some (.row _ _ n _))=>some (i,n,s,fun j=>.ptr m j)
     |_=>none
    |_=>none
   |none=>match Φ.ar.get ty with
    |some (n,s)=>match ah t x with
     |some (.b6 xs off)=>some (i,n,s,fun j=>.b6 xs (off+j))
     |_=>none
    |none=>none
  |_=>none
 |_=>none
theorem aR[hP:Has P Φ]{i:Int}{n s:Nat}{g:Nat→PV}(j:Nat)(h:yR Φ σ t o.op=some (i,n,s,g))(h0:0≤i:=by omega)(h1:i<n:=by omega)(hj:i.toNat*s=j:=by omega):az P σ t o (g j):=by
 unfold yR at h
 split at h
 ·rename_i ho
  split at h
  ·rename_i hix
   split at h
   ·rename_i hel
    have hk:=hP.ok.el.get hel
    split at h
    ·rename_i hx;cases h;exact nm ho hk hx hix h0 h1 hj
    ·rename_i hx
     split at h
     ·rename_i hi;cases h;exact pO ho hk hx hi hix h0 h1 hj
     ·cases h
    ·cases h
   ·split at h
    ·rename_i har
     have hk:=hP.ok.ar.get har
     split at h
     ·rename_i hx;cases h;exact lP ho hk hx hix h0 h1 hj
     ·cases h
    ·cases h
  ·cases h
 ·cases h
def yh(Φ:lU)(σ:bo)(t:a7):Op→Option (List PV×Nat×Option Nat)
 | .load ty x=>match Φ.tk.get ty with
  |some k=>match ah t x with
   |some (.b6 xs o)=>some (xs,o,k)
   |some (.ptr i o)=>match σ[i]? with
    |some (some blk)=>some (blk.xs,o,k)
    |_=>none
   |_=>none
  |none=>none
 |_=>none
theorem aO[hP:Has P Φ]{xs:List PV}{k:Nat}{p:PV}(h:yh Φ σ t o.op=some (xs,k,none))(hp:xs[k]? =some p):az P σ t o p:=by
 unfold yh at h
 split at h
 ·rename_i ho
  split at h
  ·rename_i htk
   have hk:=hP.ok.tk.get htk
   split at h
   ·rename_i hx;cases h;exact mi ho hk hx hp
   ·rename_i hx
    split at h
    ·rename_i hi;cases h;exact dB ho hk hx hi hp
    ·cases h
   ·cases h
  ·cases h
 ·cases h
theorem eZ[hP:Has P Φ]{xs ys:List PV}{k n:Nat}(h:yh Φ σ t o.op=some (xs,k,some n))(hp:(xs.drop k).take n=ys)(hn:ys.length=n):az P σ t o (.agg ys):=by
 unfold yh at h
 split at h
 ·rename_i ho
  split at h
  ·rename_i htk
   have hk:=hP.ok.tk.get htk
   split at h
   ·rename_i hx;cases h;exact jf ho hk hx hp hn
   ·rename_i hx
    split at h
    ·rename_i hi;cases h;exact ei ho hk hx hi hp hn
    ·cases h
   ·cases h
  ·cases h
 ·cases h
def yb(Φ:lU)(st:St):ResultVar→Option PV
 | .tmp k=>look k st.t
 | .cell k ty=>match look k st.t with
  |some (.ptr i off)=>match st.σ[i]? with
   |some (some blk)=>match Φ.tk.get ty with
    |some none=>blk.xs[off]?
    |some (some n)=>part blk.xs off n
    |none=>none
   |_=>none
  |_=>none
def xi(Φ:lU)(st:St):List ResultVar→Option (List PV)
 | []=>some []
 |r::rs=>match yb Φ st r with
  |some p=>match xi Φ st rs with
   |some ps=>some (p::ps)
   |none=>none
  |none=>none
theorem ax.of[hP:Has P Φ]{st:St}:∀ {rs:List ResultVar} {ps:List PV},xi Φ st rs=some ps→ax P st rs ps
 | [],ps,h=>by cases h;exact .nil
 |r::rs,ps,h=>by
  simp only[xi]at h
  split at h
  ·rename_i p hp
   split at h
   ·rename_i ps' hps
    cases h
    refine .cons ?_ (ax.of hps)
    unfold yb at hp
    split at hp
    ·exact .tmp hp
    ·split at hp
     ·rename_i hl
      split at hp
      ·rename_i hi
       split at hp
       ·rename_i htk;exact .wv hl hi (hP.ok.tk.get htk) hp
       ·rename_i htk
        obtain⟨ys,rfl,h1,h2⟩:=nd hp
        exact .wa hl hi (hP.ok.tk.get htk) h1 h2
       ·cases hp
      ·cases hp
     ·cases hp
   ·cases h
  ·cases h
def uz:List Nat→Nat→Option Nat
 | [],_=>none
 |x::l,j=>bif Nat.beq x j then some 0 else match uz l j with
  |some n=>some (n+1)
  |none=>none
theorem nk:∀ {fs:List Nat} {j i:Nat},uz fs j=some i→fs[i]? =some j
 | [],_,_,h=>by cases h
 |x::l,j,i,h=>by
  simp only[uz,Bool.cond_eq_ite]at h
  split at h
  ·rename_i he;cases h;cases Nat.eq_of_beq_eq_true he;rfl
  ·split at h
   ·rename_i n hn;cases h;simpa using nk hn
   ·cases h
theorem Ren.xU{fs:List Nat}{i j:Nat}(h:uz fs j=some i):Ren fs (.own i) (.own j):=.own (nk h)
theorem Ren.xq{fs:List Nat}{i j k:Nat}(h:uz fs j=some i):Ren fs (.ptr i k) (.ptr j k):=.ptr (nk h)
theorem ij.c{fs:List Nat}{t t':a7}{p p':PV}(k:Nat)(rest:ij fs t t')(h:look k t=some p:=by exact rfl)(hr:Ren fs p' p:=by first|exact Ren.pure|exact Ren.xU rfl|exact Ren.xq rfl):ij fs t ((k,p')::t'):=.cons k h hr rest
theorem aL.c{fs:List Nat}{x y:PV}{xs ys:List PV}(rest:aL fs xs ys)(hr:Ren fs x y:=by first|exact Ren.pure|exact Ren.xU rfl|exact Ren.xq rfl):aL fs (x::xs) (y::ys):=aL.cons hr rest
theorem bp[hP:Has P Φ]{p:PV}(h:dc Φ σ t o.op=some p):az P σ t o p:=gv hP.ok rfl h
theorem yi[hP:Has P Φ]{p:PV}{σ':bo}(h:nL Φ t σ o.op=some (p,σ')):eT P σ t o p σ':=lb hP.ok rfl h
def kH(N:Nat)(l:List Oper):Bool:=Region.lexB .any l.toArray&&l.all fun o=>o.dst.all fun e=>decide (e<N)
theorem gz{l:List Oper}(h:kH N l=true):Region.lexB .any l.toArray=true∧(l.all fun o=>o.dst.all fun e=>decide (e<N)&&(l.filterMap (·.dst)).contains e)=true∧((l.filterMap (·.dst)).all fun e=>decide (e<N))=true:=by
 unfold kH at h
 simp only[Bool.and_eq_true,List.all_eq_true]at h
 refine⟨h.1,List.all_eq_true.2 fun o ho=>?_,List.all_eq_true.2 fun e he=>?_⟩
 ·have h2:=h.2 o ho
  cases hd:o.dst with
  |none=>rfl
  |some e=>
   rw[hd]at h2
   simp only[Option.all_some,Bool.and_eq_true,List.contains_iff_mem,List.mem_filterMap]at h2 ⊢
   exact⟨h2,o,ho,hd⟩
 ·obtain⟨o,ho,hd⟩:=List.mem_filterMap.1 he
  have h2:=h.2 o ho
  rw[hd]at h2
  exact h2
theorem x1{id:Nat}{l:List Oper}{t':a7}{Q:Exit→St→Prop}(hm:P.follows .mixedOrders=true)(hB:kH N l=true)(h:cp P N l.toArray σ l t t')(hq:Q .normal ⟨t',σ⟩):W P N L (.region id l.toArray true) ⟨t,σ⟩ Q:=wQ _ hm (gz hB).1 (gz hB).2.1 (gz hB).2.2 h hq
theorem gC{id:Nat}{l:List Oper}{y:Code}{t':a7}{Q:Exit→St→Prop}(hm:P.follows .mixedOrders=true)(hB:kH N l=true)(h:cp P N l.toArray σ l t t')(hq:W P N L y ⟨t',σ⟩ Q):W P N L (.seq (.region id l.toArray true) y) ⟨t,σ⟩ Q:=ak (x1 hm hB h hq)
theorem aY{id:Nat}{l:List Oper}{y:Code}{u:a7}{Q:Exit→St→Prop}(k:Nat)(p:PV)(ks:List Nat)(_:jk t ks=some u)(h:cD P N l.toArray σ l t ((k,p)::u))(hq:W P N L y ⟨(k,p)::u,σ⟩ Q):W P N L (.seq (.region id l.toArray false) y) ⟨t,σ⟩ Q:=af h hq
theorem kB{id:Nat}{l:List Oper}{y:Code}{u:a7}{Q:Exit→St→Prop}(hm:P.follows .mixedOrders=true)(hB:kH N l=true)(k:Nat)(p:PV)(ks:List Nat)(_:jk t ks=some u)(h:cp P N l.toArray σ l t ((k,p)::u))(hq:W P N L y ⟨(k,p)::u,σ⟩ Q):W P N L (.seq (.region id l.toArray true) y) ⟨t,σ⟩ Q:=gC hm hB h hq
def Tr.keys{α:Type}:Tr α→List Nat
 | .l=>[]
 | .n a k _ b=>a.keys++k::b.keys
def Tr.so{α:Type}:Tr α→List α
 | .l=>[]
 | .n a _ v b=>a.so++v::b.so
theorem Tr.lq{α:Type}:∀(t:Tr α),t.keys.length=t.so.length
 | .l=>rfl
 | .n a _ _ b=>by simp[Tr.keys,Tr.so,Tr.lq a,Tr.lq b]
theorem Tr.of{α:Type}(f:Nat→Option α):∀ {t:Tr α},t.keys.map f=t.so.map some→t.mT fun k v=>f k=some v
 | .l,_=>.l
 | .n a k v b,h=>by
  simp only[Tr.keys,Tr.so,List.map_append,List.map_cons]at h
  obtain⟨h1,h2⟩:=List.append_inj h (by simp[Tr.lq])
  simp only[List.cons.injEq]at h2
  exact .n (Tr.of f h1) h2.1 (Tr.of f h2.2)
theorem Tr.xQ{α:Type}(f:Nat→Bool):∀ {t:Tr α},t.keys.all f=true→t.mT fun k _=>f k=true
 | .l,_=>.l
 | .n a k v b,h=>by
  simp only[Tr.keys,List.all_append,List.all_cons,Bool.and_eq_true]at h
  exact .n (Tr.xQ f h.1) h.2.1 (Tr.xQ f h.2.2)
end
end PW
end Go.Proofs.YtnegbdpggideiaaDoor
namespace Go.Proofs.YtnegbdpggideiaaDoor
namespace PW
set_option maxRecDepth 100000
def yU:Tr (Option Nat):=.n (.n (.n (.n (.n (.n (.n (.n .l 0 none .l) 1 none .l) 2 none (.n (.n .l 3 none .l) 4 none .l)) 5 none (.n (.n (.n .l 7 (some 4) .l) 9 none .l) 12 none (.n .l 13 (some 2) .l))) 15 none (.n (.n (.n (.n .l 16 none .l) 17 none .l) 18 (some 1) (.n .l 20 none .l)) 21 none (.n (.n (.n .l 22 none .l) 23 none .l) 24 (some 3) (.n .l 25 (some 3) .l)))) 26 none (.n (.n (.n (.n (.n .l 27 none .l) 28 none .l) 29 (some 3) (.n .l 30 (some 3) .l)) 31 (some 2) (.n (.n (.n .l 32 (some 2) .l) 33 none .l) 34 none (.n .l 35 none .l))) 36 none (.n (.n (.n (.n .l 37 (some 3) .l) 38 (some 3) .l) 39 (some 2) (.n .l 40 none .l)) 41 none (.n (.n (.n .l 42 none .l) 43 none .l) 44 none (.n .l 45 none .l))))) 46 none (.n (.n (.n (.n (.n (.n .l 47 (some 3) .l) 48 (some 3) .l) 49 none (.n (.n .l 50 none .l) 51 (some 6) .l)) 52 (some 6) (.n (.n (.n .l 53 none .l) 54 none .l) 55 none (.n .l 56 none .l))) 57 (some 2) (.n (.n (.n (.n .l 58 (some 7) .l) 59 (some 7) .l) 60 none (.n .l 61 none .l)) 62 (some 5) (.n (.n (.n .l 63 none .l) 64 none .l) 65 none (.n .l 66 (some 2) .l)))) 67 (some 2) (.n (.n (.n (.n (.n .l 68 none .l) 69 none .l) 70 none (.n .l 71 none .l)) 72 none (.n (.n (.n .l 73 none .l) 74 none .l) 75 none (.n .l 76 none .l))) 77 none (.n (.n (.n (.n .l 78 none .l) 79 none .l) 80 none (.n .l 81 none .l)) 82 none (.n (.n (.n .l 83 none .l) 84 none .l) 85 none (.n .l 86 none .l)))))) 87 none (.n (.n (.n (.n (.n (.n (.n .l 88 none .l) 89 none .l) 90 none (.n (.n .l 91 none .l) 92 none .l)) 93 none (.n (.n (.n .l 94 none .l) 95 none .l) 96 none (.n .l 97 none .l))) 98 none (.n (.n (.n (.n .l 99 none .l) 100 none .l) 101 none (.n .l 102 none .l)) 103 none (.n (.n (.n .l 104 none .l) 105 none .l) 106 none (.n .l 107 none .l)))) 108 none (.n (.n (.n (.n (.n .l 109 none .l) 110 none .l) 111 none (.n .l 112 none .l)) 113 none (.n (.n (.n .l 114 none .l) 115 none .l) 116 none (.n .l 117 none .l))) 118 none (.n (.n (.n (.n .l 119 none .l) 120 none .l) 121 none (.n .l 122 none .l)) 123 none (.n (.n (.n .l 124 none .l) 125 none .l) 126 (some 24) (.n .l 127 none .l))))) 128 none (.n (.n (.n (.n (.n (.n .l 129 none .l) 130 none .l) 131 none (.n (.n .l 132 none .l) 133 none .l)) 134 none (.n (.n (.n .l 135 none .l) 136 none .l) 137 none (.n .l 138 none .l))) 139 (some 7) (.n (.n (.n (.n .l 140 (some 7) .l) 141 none .l) 142 none (.n .l 143 none .l)) 144 (some 20) (.n (.n (.n .l 145 none .l) 146 (some 65) .l) 147 none (.n .l 148 none .l)))) 149 none (.n (.n (.n (.n (.n .l 150 none .l) 151 none .l) 152 none (.n .l 153 none .l)) 154 none (.n (.n (.n .l 155 none .l) 156 none .l) 157 (some 3) (.n .l 158 (some 3) .l))) 159 (some 32) (.n (.n (.n (.n .l 160 (some 64) .l) 161 none .l) 162 none (.n .l 163 (some 4) .l)) 165 (some 0) (.n (.n (.n .l 166 (some 0) .l) 168 none .l) 171 none (.n .l 174 (some 11) .l))))))
def yZ:Tr (Nat):=.n (.n (.n (.n (.n (.n (.n .l 700 0 .l) 701 1 .l) 702 2 (.n (.n .l 703 3 .l) 1300 0 .l)) 1301 1 (.n (.n (.n .l 1800 0 .l) 2400 0 .l) 2401 1 (.n (.n .l 2402 2 .l) 2500 0 .l))) 2501 1 (.n (.n (.n (.n .l 2502 2 .l) 2900 0 .l) 2901 1 (.n (.n .l 2902 2 .l) 3000 0 .l)) 3001 1 (.n (.n (.n .l 3002 2 .l) 3100 0 .l) 3101 1 (.n (.n .l 3200 0 .l) 3201 1 .l)))) 3700 0 (.n (.n (.n (.n (.n .l 3701 1 .l) 3702 2 .l) 3800 0 (.n (.n .l 3801 1 .l) 3802 2 .l)) 4700 0 (.n (.n (.n .l 4701 1 .l) 4702 2 .l) 4800 0 (.n (.n .l 4801 1 .l) 4802 2 .l))) 5100 0 (.n (.n (.n (.n .l 5101 1 .l) 5102 2 .l) 5103 3 (.n (.n .l 5104 4 .l) 5105 5 .l)) 5200 0 (.n (.n (.n .l 5201 1 .l) 5202 2 .l) 5203 3 (.n (.n .l 5204 4 .l) 5205 5 .l))))) 5800 0 (.n (.n (.n (.n (.n (.n .l 5801 1 .l) 5802 2 .l) 5803 4 (.n (.n .l 5804 5 .l) 5805 6 .l)) 5900 0 (.n (.n (.n .l 5901 1 .l) 5902 2 .l) 5903 4 (.n (.n .l 5904 5 .l) 5905 6 .l))) 6600 0 (.n (.n (.n (.n .l 6601 1 .l) 6700 0 .l) 6701 1 (.n (.n .l 13900 0 .l) 13901 3 .l)) 13902 4 (.n (.n (.n .l 13903 5 .l) 13904 6 .l) 14000 0 (.n (.n .l 14001 3 .l) 14002 4 .l)))) 14003 5 (.n (.n (.n (.n (.n .l 14004 6 .l) 15700 0 .l) 15701 1 (.n (.n .l 15702 2 .l) 15800 0 .l)) 15801 1 (.n (.n (.n .l 15802 2 .l) 16300 0 .l) 16301 1 (.n (.n .l 16302 2 .l) 16303 3 .l))) 17400 0 (.n (.n (.n (.n .l 17401 1 .l) 17402 2 .l) 17403 3 (.n (.n .l 17404 4 .l) 17405 5 .l)) 17406 6 (.n (.n (.n .l 17407 7 .l) 17408 8 .l) 17409 9 (.n .l 17410 10 .l)))))
def y7:Tr (Nat×Nat):=.n (.n (.n (.n .l 22 (30,3) .l) 23 (3,1) .l) 28 (32,2) (.n (.n .l 35 (4,1) .l) 36 (59,7) .l)) 44 (25,3) (.n (.n (.n .l 65 (5,1) .l) 69 (9,1) .l) 132 (28,1) (.n .l 135 (23,1) .l))
def ze:Tr (List (Nat×Nat)×List Value):=.n (.n (.n (.n (.n .l 7 ([(0,1),(1,1),(2,1),(3,1)],[.int .i64 0,.int .i64 0,.bool false,.int .u8 0]) .l) 13 ([(0,1),(1,1)],[.string ⟨#[]⟩,.int .u64 0]) (.n .l 18 ([(0,1)],[.pointer none]) .l)) 24 ([(0,1),(1,1),(2,1)],[.int .i64 0,.slice none 0 0,.slice none 0 0]) (.n (.n .l 25 ([(0,1),(1,1),(2,1)],[.int .i64 0,.slice none 0 0,.slice none 0 0]) .l) 29 ([(0,1),(1,1),(2,1)],[.slice none 0 0,.bool false,.slice none 0 0]) .l)) 30 ([(0,1),(1,1),(2,1)],[.slice none 0 0,.bool false,.slice none 0 0]) (.n (.n (.n .l 31 ([(0,1),(1,1)],[.int .i64 0,.int .i64 0]) .l) 32 ([(0,1),(1,1)],[.int .i64 0,.int .i64 0]) (.n .l 37 ([(0,1),(1,1),(2,1)],[.int .i64 0,.slice none 0 0,.slice none 0 0]) .l)) 38 ([(0,1),(1,1),(2,1)],[.int .i64 0,.slice none 0 0,.slice none 0 0]) (.n (.n .l 47 ([(0,1),(1,1),(2,1)],[.int .i64 0,.int .i64 0,.slice none 0 0]) .l) 48 ([(0,1),(1,1),(2,1)],[.int .i64 0,.int .i64 0,.slice none 0 0]) .l))) 51 ([(0,1),(1,1),(2,1),(3,1),(4,1),(5,1)],[.int .i64 0,.int .i64 0,.int .i64 0,.int .i64 0,.slice none 0 0,.int .i64 0]) (.n (.n (.n (.n .l 52 ([(0,1),(1,1),(2,1),(3,1),(4,1),(5,1)],[.int .i64 0,.int .i64 0,.int .i64 0,.int .i64 0,.slice none 0 0,.int .i64 0]) .l) 58 ([(0,1),(1,1),(2,2),(4,1),(5,1),(6,1)],[.int .i64 0,.int .i64 0,.int .i64 0,.int .i64 0,.int .i64 0,.int .i64 0,.int .i64 0]) (.n .l 59 ([(0,1),(1,1),(2,2),(4,1),(5,1),(6,1)],[.int .i64 0,.int .i64 0,.int .i64 0,.int .i64 0,.int .i64 0,.int .i64 0,.int .i64 0]) .l)) 66 ([(0,1),(1,1)],[.pointer none,.slice none 0 0]) (.n (.n .l 67 ([(0,1),(1,1)],[.pointer none,.slice none 0 0]) .l) 139 ([(0,3),(3,1),(4,1),(5,1),(6,1)],[.int .i64 0,.slice none 0 0,.slice none 0 0,.slice none 0 0,.int .i64 0,.nilFunc,.nilFunc]) .l)) 140 ([(0,3),(3,1),(4,1),(5,1),(6,1)],[.int .i64 0,.slice none 0 0,.slice none 0 0,.slice none 0 0,.int .i64 0,.nilFunc,.nilFunc]) (.n (.n (.n .l 157 ([(0,1),(1,1),(2,1)],[.slice none 0 0,.slice none 0 0,.slice none 0 0]) .l) 158 ([(0,1),(1,1),(2,1)],[.slice none 0 0,.slice none 0 0,.slice none 0 0]) .l) 163 ([(0,1),(1,1),(2,1),(3,1)],[.pointer none,.pointer none,.pointer none,.string ⟨#[]⟩]) (.n (.n .l 166 ([(0,0)],[]) .l) 174 ([(0,1),(1,1),(2,1),(3,1),(4,1),(5,1),(6,1),(7,1),(8,1),(9,1),(10,1)],[.int .u64 0,.int .u64 0,.int .u32 0,.int .u8 0,.int .u8 0,.int .u8 0,.int .u8 0,.nilFunc,.pointer none,.int .i32 0,.int .i32 0]) .l)))
def yV:Tr (Nat×Nat×List Value):=.n (.n (.n (.n .l 22 (30,3,[.slice none 0 0,.bool false,.slice none 0 0]) .l) 23 (3,1,[.int .i64 0]) .l) 28 (32,2,[.int .i64 0,.int .i64 0]) (.n (.n .l 35 (4,1,[.bool false]) .l) 36 (59,7,[.int .i64 0,.int .i64 0,.int .i64 0,.int .i64 0,.int .i64 0,.int .i64 0,.int .i64 0]) .l)) 44 (25,3,[.int .i64 0,.slice none 0 0,.slice none 0 0]) (.n (.n (.n .l 65 (5,1,[.int .u8 0]) .l) 69 (9,1,[.string ⟨#[]⟩]) .l) 132 (28,1,[.slice none 0 0]) (.n .l 135 (23,1,[.slice none 0 0]) .l))
def yY:Tr (Nat×Nat×Nat×List Value):=.n (.n (.n (.n .l 22 (30,3,56,[.slice none 0 0,.bool false,.slice none 0 0]) .l) 23 (3,1,8,[.int .i64 0]) .l) 28 (32,2,16,[.int .i64 0,.int .i64 0]) (.n (.n .l 35 (4,1,1,[.bool false]) .l) 36 (59,7,56,[.int .i64 0,.int .i64 0,.int .i64 0,.int .i64 0,.int .i64 0,.int .i64 0,.int .i64 0]) .l)) 44 (25,3,56,[.int .i64 0,.slice none 0 0,.slice none 0 0]) (.n (.n (.n .l 65 (5,1,1,[.int .u8 0]) .l) 69 (9,1,16,[.string ⟨#[]⟩]) .l) 132 (28,1,24,[.slice none 0 0]) (.n .l 135 (23,1,24,[.slice none 0 0]) .l))
def yT:Tr (List Value):=.n (.n (.n (.n (.n (.n (.n .l 2 [.int .i64 0] .l) 3 [.int .i64 0] .l) 4 [.bool false] (.n .l 5 [.int .u8 0] .l)) 7 [.int .i64 0,.int .i64 0,.bool false,.int .u8 0] (.n (.n .l 9 [.string ⟨#[]⟩] .l) 12 [.int .u64 0] (.n .l 13 [.string ⟨#[]⟩,.int .u64 0] .l))) 15 [.pointer none] (.n (.n (.n .l 16 [.pointer none] .l) 17 [.pointer none] (.n .l 18 [.pointer none] .l)) 20 [.nilIface] (.n (.n .l 21 [.int .i32 0] .l) 22 [.slice none 0 0] (.n .l 23 [.slice none 0 0] .l)))) 24 [.int .i64 0,.slice none 0 0,.slice none 0 0] (.n (.n (.n (.n (.n .l 25 [.int .i64 0,.slice none 0 0,.slice none 0 0] .l) 28 [.slice none 0 0] .l) 29 [.slice none 0 0,.bool false,.slice none 0 0] (.n .l 30 [.slice none 0 0,.bool false,.slice none 0 0] .l)) 31 [.int .i64 0,.int .i64 0] (.n (.n .l 32 [.int .i64 0,.int .i64 0] .l) 35 [.slice none 0 0] (.n .l 36 [.slice none 0 0] .l))) 37 [.int .i64 0,.slice none 0 0,.slice none 0 0] (.n (.n (.n .l 38 [.int .i64 0,.slice none 0 0,.slice none 0 0] .l) 39 [.int .u8 0,.int .u8 0] (.n .l 41 [.int .i64 0] .l)) 44 [.slice none 0 0] (.n (.n .l 47 [.int .i64 0,.int .i64 0,.slice none 0 0] .l) 48 [.int .i64 0,.int .i64 0,.slice none 0 0] (.n .l 51 [.int .i64 0,.int .i64 0,.int .i64 0,.int .i64 0,.slice none 0 0,.int .i64 0] .l))))) 52 [.int .i64 0,.int .i64 0,.int .i64 0,.int .i64 0,.slice none 0 0,.int .i64 0] (.n (.n (.n (.n (.n (.n .l 57 [.int .i64 0,.int .i64 0] .l) 58 [.int .i64 0,.int .i64 0,.int .i64 0,.int .i64 0,.int .i64 0,.int .i64 0,.int .i64 0] .l) 59 [.int .i64 0,.int .i64 0,.int .i64 0,.int .i64 0,.int .i64 0,.int .i64 0,.int .i64 0] (.n .l 62 [.string ⟨#[]⟩,.string ⟨#[]⟩,.string ⟨#[]⟩,.string ⟨#[]⟩,.string ⟨#[]⟩] .l)) 64 [.pointer none] (.n (.n .l 65 [.slice none 0 0] .l) 66 [.pointer none,.slice none 0 0] (.n .l 67 [.pointer none,.slice none 0 0] .l))) 69 [.slice none 0 0] (.n (.n (.n .l 73 [.int .u64 0] .l) 79 [.map none] (.n .l 95 [.nilIface] .l)) 96 [.nilIface] (.n (.n .l 102 [.pointer none] .l) 103 [.int .u64 0] (.n .l 106 [.pointer none] .l)))) 124 [.pointer none] (.n (.n (.n (.n .l 126 [.int .u8 0,.int .u8 0,.int .u8 0,.int .u8 0,.int .u8 0,.int .u8 0,.int .u8 0,.int .u8 0,.int .u8 0,.int .u8 0,.int .u8 0,.int .u8 0,.int .u8 0,.int .u8 0,.int .u8 0,.int .u8 0,.int .u8 0,.int .u8 0,.int .u8 0,.int .u8 0,.int .u8 0,.int .u8 0,.int .u8 0,.int .u8 0] .l) 132 [.slice none 0 0] (.n .l 135 [.slice none 0 0] .l)) 139 [.int .i64 0,.slice none 0 0,.slice none 0 0,.slice none 0 0,.int .i64 0,.nilFunc,.nilFunc] (.n (.n .l 140 [.int .i64 0,.slice none 0 0,.slice none 0 0,.slice none 0 0,.int .i64 0,.nilFunc,.nilFunc] .l) 144 [.int .u64 0,.int .u64 0,.int .u64 0,.int .u64 0,.int .u64 0,.int .u64 0,.int .u64 0,.int .u64 0,.int .u64 0,.int .u64 0,.int .u64 0,.int .u64 0,.int .u64 0,.int .u64 0,.int .u64 0,.int .u64 0,.int .u64 0,.int .u64 0,.int .u64 0,.int .u64 0] (.n .l 145 [.int .u32 0] .l))) 148 [.pointer none] (.n (.n (.n .l 157 [.slice none 0 0,.slice none 0 0,.slice none 0 0] .l) 158 [.slice none 0 0,.slice none 0 0,.slice none 0 0] (.n .l 159 [.int .u8 0,.int .u8 0,.int .u8 0,.int .u8 0,.int .u8 0,.int .u8 0,.int .u8 0,.int .u8 0,.int .u8 0,.int .u8 0,.int .u8 0,.int .u8 0,.int .u8 0,.int .u8 0,.int .u8 0,.int .u8 0,.int .u8 0,.int .u8 0,.int .u8 0,.int .u8 0,.int .u8 0,.int .u8 0,.int .u8 0,.int .u8 0,.int .u8 0,.int .u8 0,.int .u8 0,.int .u8 0,.int .u8 0,.int .u8 0,.int .u8 0,.int .u8 0] .l)) 163 [.pointer none,.pointer none,.pointer none,.string ⟨#[]⟩] (.n (.n .l 165 [] .l) 166 [] (.n .l 174 [.int .u64 0,.int .u64 0,.int .u32 0,.int .u8 0,.int .u8 0,.int .u8 0,.int .u8 0,.nilFunc,.pointer none,.int .i32 0,.int .i32 0] .l)))))
def zh:Tr (Unit):=.n .l 4 () .l
def zc:Tr (Unit):=.n (.n (.n .l 15 () .l) 16 () (.n .l 17 () .l)) 64 () (.n (.n .l 102 () .l) 106 () (.n .l 148 () .l))
def zd:Tr (Nat×Nat):=.n (.n (.n (.n .l 39 (2,1) .l) 57 (2,1) .l) 62 (5,1) (.n .l 126 (24,1) .l)) 144 (20,1) (.n (.n (.n .l 146 (65,1) .l) 159 (32,1) .l) 160 (64,1) (.n .l 165 (0,1) .l))
def y9:Tr (Unit):=.n (.n (.n (.n (.n (.n (.n .l 2 () .l) 3 () (.n .l 4 () .l)) 5 () (.n (.n .l 6 () .l) 7 () (.n .l 8 () .l))) 9 () (.n (.n (.n .l 10 () .l) 11 () (.n .l 12 () .l)) 13 () (.n (.n .l 14 () .l) 15 () .l))) 16 () (.n (.n (.n (.n .l 17 () .l) 18 () (.n .l 19 () .l)) 20 () (.n (.n .l 21 () .l) 22 () .l)) 23 () (.n (.n (.n .l 24 () .l) 25 () (.n .l 26 () .l)) 27 () (.n (.n .l 28 () .l) 29 () .l)))) 30 () (.n (.n (.n (.n (.n .l 31 () .l) 32 () (.n .l 33 () .l)) 34 () (.n (.n .l 35 () .l) 36 () (.n .l 37 () .l))) 38 () (.n (.n (.n .l 39 () .l) 40 () (.n .l 41 () .l)) 42 () (.n (.n .l 43 () .l) 44 () .l))) 45 () (.n (.n (.n (.n .l 46 () .l) 47 () (.n .l 48 () .l)) 49 () (.n (.n .l 50 () .l) 51 () .l)) 52 () (.n (.n (.n .l 53 () .l) 54 () (.n .l 55 () .l)) 56 () (.n (.n .l 57 () .l) 58 () .l))))) 59 () (.n (.n (.n (.n (.n (.n .l 60 () .l) 61 () (.n .l 62 () .l)) 63 () (.n (.n .l 64 () .l) 65 () (.n .l 66 () .l))) 67 () (.n (.n (.n .l 68 () .l) 69 () (.n .l 70 () .l)) 71 () (.n (.n .l 72 () .l) 73 () .l))) 74 () (.n (.n (.n (.n .l 75 () .l) 76 () (.n .l 77 () .l)) 78 () (.n (.n .l 79 () .l) 80 () .l)) 81 () (.n (.n (.n .l 82 () .l) 83 () (.n .l 84 () .l)) 85 () (.n (.n .l 86 () .l) 87 () .l)))) 88 () (.n (.n (.n (.n (.n .l 90 () .l) 91 () (.n .l 92 () .l)) 93 () (.n (.n .l 94 () .l) 95 () (.n .l 96 () .l))) 97 () (.n (.n (.n .l 98 () .l) 99 () (.n .l 100 () .l)) 101 () (.n (.n .l 103 () .l) 104 () .l))) 105 () (.n (.n (.n (.n .l 106 () .l) 107 () (.n .l 108 () .l)) 109 () (.n (.n .l 110 () .l) 111 () .l)) 112 () (.n (.n (.n .l 113 () .l) 114 () (.n .l 115 () .l)) 116 () (.n (.n .l 117 () .l) 141 () .l)))))
def facts:lU:=⟨yU,yZ,y7,ze,yV,yY,yT,zh,zc,zd,y9⟩
theorem cb:lU.Ok Tryd.prog facts:=⟨Tr.of (nv Tryd.prog) (by kernel_rfl),Tr.of (fun k=>fv Tryd.prog (k / 100) (k % 100)) (by kernel_rfl),Tr.of (pE Tryd.prog) (by kernel_rfl),Tr.of (yk Tryd.prog) (by kernel_rfl),Tr.of (xg Tryd.prog) (by kernel_rfl),Tr.of (nY Tryd.prog) (by kernel_rfl),Tr.of (qL Tryd.prog) (by kernel_rfl),Tr.xQ (mC Tryd.prog) (by kernel_rfl),Tr.xQ (mV Tryd.prog) (by kernel_rfl),Tr.of (x4 Tryd.prog) (by kernel_rfl),Tr.xQ (enters Tryd.prog) (by kernel_rfl)⟩
instance:Has Tryd.prog facts:=⟨cb⟩
theorem mixed:Tryd.prog.follows .mixedOrders=true:=by kernel_rfl
end PW
end Go.Proofs.YtnegbdpggideiaaDoor
namespace Go.Proofs.YtnegbdpggideiaaDoor
namespace Net
open Go
structure la where
 a:Int
 b:Int
 c0:Int
 c1:Int
 cap:Int
 ld:Int
 we:Int
def la.zero:la:=⟨0,0,0,0,0,0,0⟩
structure ab where
 nodes:Int
 over:List Bool
 aa:List la
def dh(L:List la)(i:Nat):la:=L.getD i la.zero
def bb(T:ab)(a:Nat):Int:=if a % 2=0 then(dh T.aa (a / 2)).a else(dh T.aa (a / 2)).b
def flip(a:Nat):Nat:=if a % 2=0 then a+1 else a - 1
def aK(T:ab)(a:Nat):Int:=bb T (flip a)
def a8(T:ab)(a:Nat):Int:=if a % 2=0 then(dh T.aa (a / 2)).c0 else(dh T.aa (a / 2)).c1
def bI(T:ab)(n:Nat):Bool:=T.over.getD n false
def aS(T:ab)(n:Int):Bool:=decide (0≤n∧n<T.nodes)
def cX(T:ab)(a:Int):Bool:=decide (0≤a∧a<2*(T.aa.length:Int))
def bw(T:ab)(down:List Bool):Bool:=decide (down.length=0∨down.length=2*T.aa.length)
def bG(down:List Bool)(a:Nat):Bool:=down.getD a false
def aM(n lo hi:Int):Bool:=decide (lo≤n∧n≤hi)
def eA(T:ab)(l:la):Bool:=
 !(l.a==l.b)&&aS T l.a&&aS T l.b&&aM l.c0 1 65535&&aM l.c1 1 65535&&aM l.cap 0 1048576&&aM l.ld 1 65536&&aM l.we 0 64
def aj(T:ab):Bool:=
 aM T.nodes 1 64&&decide (T.aa.length≤256)&&(decide (T.over.length=0)||decide ((T.over.length:Int)=T.nodes))&&T.aa.all (eA T)
theorem nw(p:la→Bool)(L:List la)(k:Nat)(hk:k<L.length):(L.take (k+1)).all p=((L.take k).all p&&p (dh L k)):=by
 rw[List.take_succ_eq_append_getElem hk,List.all_append]
 simp[dh,hk]
theorem nZ(p:la→Bool)(L:List la)(k:Nat)(hk:k<L.length)(h:p (dh L k)=false):L.all p=false:=by
 rw[Bool.eq_false_iff]
 intro ha
 have:=List.all_eq_true.1 ha (dh L k) (by simp[dh,hk])
 rw[h]at this
 cases this
theorem dz(T:ab)(h:aM T.nodes 1 64=false∨256<T.aa.length∨(T.over.length≠0∧(T.over.length:Int)≠T.nodes)):false=aj T:=by
 unfold aj
 rcases h with h|h|⟨h1,h2⟩
 ·simp[h]
 ·have:decide (T.aa.length≤256)=false:=by simp;omega
  simp[this]
 ·simp[h1,h2]
theorem kx(T:ab)(h1:aM T.nodes 1 64=true)(h2:T.aa.length≤256)(h3:T.over.length=0∨(T.over.length:Int)=T.nodes):aj T=T.aa.all (eA T):=by
 unfold aj
 rcases h3 with h3|h3<;>simp[h1,h2,h3]
theorem lX{T:ab}{l:la}{q1 q2 q3 q4 q5 q6 q7 q8:Bool}(g1:(l.a==l.b)=q1)(g2:aS T l.a=q2)(g3:aS T l.b=q3)(g4:aM l.c0 1 65535=q4)(g5:aM l.c1 1 65535=q5)(g6:aM l.cap 0 1048576=q6)(g7:aM l.ld 1 65536=q7)(g8:aM l.we 0 64=q8):
  eA T l=(!q1 &&q2&&q3&&q4&&q5&&q6&&q7&&q8):=by subst g1 g2 g3 g4 g5 g6 g7 g8;rfl
theorem j3(T:ab)(n:Int):aM n 0 (T.nodes - 1)=aS T n:=by
 unfold aM aS
 exact decide_eq_decide.2 (by omega)
theorem iI{n lo hi:Int}(h:aM n lo hi=true):lo≤n∧n≤hi:=by simpa[aM]using h
theorem eP{T:ab}(h:aj T=true):1≤T.nodes∧T.nodes≤64∧T.aa.length≤256∧(T.over.length=0∨(T.over.length:Int)=T.nodes):=by
 unfold aj at h
 simp only[Bool.and_eq_true,Bool.or_eq_true,decide_eq_true_eq]at h
 obtain⟨⟨⟨h1,h2⟩,h3⟩,_⟩:=h
 have:=iI h1
 exact⟨this.1,this.2,h2,h3⟩
theorem pL{T:ab}(h:aj T=true)(i:Nat)(hi:i<T.aa.length):eA T (dh T.aa i)=true:=by
 unfold aj at h
 simp only[Bool.and_eq_true]at h
 exact List.all_eq_true.1 h.2 _ (by simp[dh,hi])
def nA(T:ab)(a:Int):Int:=if 0≤a∧a<2*(T.aa.length:Int) then bb T a.toNat else -1
def og(T:ab)(a:Int):Int:=if 0≤a∧a<2*(T.aa.length:Int) then aK T a.toNat else -1
def nI(T:ab)(a:Int):Int:=if 0≤a∧a<2*(T.aa.length:Int) then a8 T a.toNat else -1
def eU(T:ab)(n:Int)(k:Nat):List Int:=((List.range k).filter fun a=>bb T a==n).map Int.ofNat
def cU(T:ab)(n:Int):List Int:=eU T n (2*T.aa.length)
theorem rZ(T:ab)(n:Int)(k:Nat)(h:(bb T k==n)=true):eU T n (k+1)=eU T n k++[(k:Int)]:=by
 simp[eU,List.range_succ,List.filter_append,h]
theorem sS(T:ab)(n:Int)(k:Nat)(h:(bb T k==n)=false):eU T n (k+1)=eU T n k:=by
 simp[eU,List.range_succ,List.filter_append,h]
theorem gP(T:ab)(n:Int)(k:Nat):(eU T n k).length≤k:=by
 simp only[eU,List.length_map]
 exact Nat.le_trans (List.length_filter_le _ _) (by simp)
def wo(L M:List Int):Bool:=decide (L=M)
theorem l4(T:ab)(k:Nat)(hk:k<2*T.aa.length):nA T (k:Int)=bb T k:=by
 unfold nA;rw[if_pos ⟨by omega,by omega⟩];rfl
theorem si(T:ab)(k:Nat)(hk:k<2*T.aa.length):og T (k:Int)=aK T k:=by
 unfold og;rw[if_pos ⟨by omega,by omega⟩];rfl
theorem rG(T:ab)(k:Nat)(hk:k<2*T.aa.length):nI T (k:Int)=a8 T k:=by
 unfold nI;rw[if_pos ⟨by omega,by omega⟩];rfl
theorem vS(a:Nat)(ha:a<9223372036854775806):bits .xor .i64 (a:Int) 1=(flip a:Int):=by
 have h1:(a ^^^ 1) / 2=a / 2:=by rw[Nat.xor_div_two];simp
 have h2:((a ^^^ 1) % 2=1)↔¬((a % 2=1)↔(1 % 2=1)):=Nat.xor_mod_two_eq_one
 have h3:a ^^^ 1=flip a:=by unfold flip;split<;>omega
 have e1:(BitVec.ofInt 64 (a:Int)).toNat=a:=by rw[BitVec.ofInt_natCast,BitVec.toNat_ofNat];exact Nat.mod_eq_of_lt (by omega)
 have e2:(BitVec.ofInt 64 (1:Int)).toNat=1:=by decide
 show IntKind.i64.wrap ((BitVec.ofInt 64 (a:Int) ^^^ BitVec.ofInt 64 (1:Int)).toNat:Int)=_
 rw[BitVec.toNat_xor,e1,e2,h3]
 exact IntWalk.i64_in _ (by unfold flip;split<;>omega)
end Net
end Go.Proofs.YtnegbdpggideiaaDoor
namespace Go.Proofs.YtnegbdpggideiaaDoor
namespace PW
open Go.RowKit aN Mem Net
abbrev num(n:Int):PV:=.raw (.int .i64 n)
abbrev flag(b:Bool):PV:=.raw (.bool b)
theorem cS{α:Type}{L:List α}{i:Nat}{d:α}(h:i<L.length):L.getD i d∈L:=by
 have:L.getD i d=L[i]:=by simp[h]
 rw[this];exact List.getElem_mem h
theorem fk{α:Type}(L:List α)(i:Nat)(d:α)(h:i<L.length):L.take (i+1)=L.take i++[L.getD i d]:=by
 rw[List.take_add_one];simp[h]
def aG(L:List Int):List PV:=L.map fun n=>.raw (.int .i64 n)
def dX(L:List Bool):List PV:=L.map fun b=>.raw (.bool b)
def aJ(L:List Int):PV:=.slice L.length (aG L)
def bA(L:List Bool):PV:=.slice L.length (dX L)
def iy(l:la):List PV:=[.raw (.int .i64 l.a),.raw (.int .i64 l.b),.raw (.int .i64 l.c0),.raw (.int .i64 l.c1),.raw (.int .i64 l.cap),.raw (.int .i64 l.ld),.raw (.int .i64 l.we)]
def ia(L:List la):List PV:=L.flatMap iy
def b5(T:ab):List PV:=[.raw (.int .i64 T.nodes),bA T.over,.slice T.aa.length (ia T.aa)]
def a6(T:ab):PV:=.agg (b5 T)
instance (L:List Int):ao (aG L):=ao.map _ _ fun _=>inferInstance
instance (L:List Bool):ao (dX L):=ao.map _ _ fun _=>inferInstance
instance (L:List Int):ba (aG L):=ba.map _ _ fun _=>inferInstance
instance (L:List Bool):ba (dX L):=ba.map _ _ fun _=>inferInstance
instance (l:la):ao (iy l):=by unfold iy;infer_instance
instance (l:la):ba (iy l):=by unfold iy;infer_instance
instance (L:List la):ao (ia L):=ao.flatMap _ _ fun _=>inferInstance
instance (L:List la):ba (ia L):=ba.flatMap _ _ fun _=>inferInstance
instance (L:List Int):IsPure (aJ L):=by unfold aJ;infer_instance
instance (L:List Bool):IsPure (bA L):=by unfold bA;infer_instance
instance (T:ab):ao (b5 T):=by unfold b5;infer_instance
instance (T:ab):IsPure (a6 T):=by unfold a6;infer_instance
instance (L:List Int):cN (aJ L):=by unfold aJ;infer_instance
instance (L:List Bool):cN (bA L):=by unfold bA;infer_instance
theorem au(L:List Int)(i:Nat)(h:i<L.length):(aG L)[i]? =some (.raw (.int .i64 (L.getD i 0))):=by simp[aG,h]
theorem fD(L:List Bool)(i:Nat)(h:i<L.length):(dX L)[i]? =some (.raw (.bool (L.getD i false))):=by simp[dX,h]
theorem np(L M:List Int):aG L++aG M=aG (L++M):=by simp[aG]
theorem eF(L:List Int)(n:Int):aG L++[.raw (.int .i64 n)]=aG (L++[n]):=by simp[aG]
theorem qY(L:List Int)(i:Nat)(n:Int)(h:i<L.length):over (aG L) i [.raw (.int .i64 n)]=aG (L.set i n):=by
 unfold over aG
 rw[List.map_set,List.set_eq_take_append_cons_drop,if_pos (by simpa using h)]
 simp
theorem bQ.mono{P:Program}{f:FuncId}{ps:List PV}{σ:bo}{R R':PV→bo→Prop}(h:bQ P f ps σ R)(hr:∀r σ',R r σ'→R' r σ'):bQ P f ps σ R':=fun F base E w vs hS hR=>
 (h F base E w vs hS hR).mono fun _ _ ⟨v,r,σ',E',h1,h2,h3⟩=>⟨v,r,σ',E',h1,hr r σ' h2,h3⟩
theorem bh{P:Program}{σ:bo}{t:a7}{o:Oper}{ty e n:Nat}{x y:Operand}{i j:Nat}{c:Int}{L:List Int}(ho:o.op= .store ty x y)(hk:nv P ty=some none)(hx:ah t x=some (.ptr i j))(hy:ah t y=some (num c))(hi:σ[i]? =some (some (.row e 1 n (aG L))))(hj:j<L.length):
  eT P σ t o (.raw undef) (σ.set i (some (.row e 1 n (aG (L.set j c))))):=by
 have:=ll ho hk hx hy hi (by show j<(aG L).length;simpa[aG]using hj)
 have he:cB.oC (.row e 1 n (aG L)) (over (cB.xs (.row e 1 n (aG L))) j [num c])= .row e 1 n (aG (L.set j c)):=by
  show cB.row e 1 n (over (aG L) j [num c])=_
  rw[qY L j c hj]
 rw[he]at this
 exact this
theorem bB(n:Nat):db [.raw (.int .i64 0)] n=aG (List.replicate n 0):=by
 induction n with
 |zero=>rfl
 |succ n ih=>simp only[db,ih,List.replicate_succ,aG];rfl
theorem dF(L:List la)(i j:Nat)(hi:i<L.length)(hj:j<7):(ia L)[i*7+j]? =(iy (dh L i))[j]? :=by
 induction L generalizing i with
 |nil=>simp at hi
 |cons l L ih=>
  cases i with
  |zero=>
   simp only[ia,List.flatMap_cons,Nat.zero_mul,Nat.zero_add]
   rw[List.getElem?_append_left (by simp[iy];omega)]
   rfl
  |succ i=>
   have:=ih i (by simpa using hi)
   simp only[ia,List.flatMap_cons]at*
   rw[List.getElem?_append_right (by simp[iy];omega)]
   rw[show(i+1)*7+j - (iy l).length=i*7+j by simp[iy];omega]
   rw[this]
   rfl
theorem dI{E:Env}{w:World}{v u:Value}(h:bC E w v (.raw u)):v=u:=by cases h;rfl
theorem xS{E:Env}{w:World}{vs:Array Value}{p:PV}(h:aw E w vs.toList [p]):∃v,vs= #[v]∧bC E w v p:=by
 obtain⟨l⟩:=vs
 match l,h with
 | [v],h=>exact⟨v,rfl,h.ue.1⟩
 | [],h=>simp[aw]at h
 |_::_::_,h=>simp[aw]at h
theorem sD(L:List la)(i:Nat)(hi:i<L.length):((ia L).drop (i*7)).take 7=iy (dh L i):=by
 refine List.ext_getElem? fun j=>?_
 by_cases hj:j<7
 ·rw[List.getElem?_take,if_pos hj,List.getElem?_drop,dF L i j hi hj]
 ·rw[List.getElem?_eq_none (by simp;omega),List.getElem?_eq_none (by simp[iy];omega)]
end PW
end Go.Proofs.YtnegbdpggideiaaDoor
namespace Go.Proofs.YtnegbdpggideiaaDoor
namespace PW
open Go.RowKit aN Mem
open Go.Deep
section
variable {P:Program} {H:Type} {enc:TypeId×Value→H} {W:World}
abbrev EN:Env:=EF fun _=>False
theorem k9{α:Type}{f:α→List PV}{s:Nat}{t e:TypeId}{fuel:Nat}{v:Value}{x:DataW H×List MemPlace}(ht:P.underlying t=some (.slice e))(hc:P.cellsOf e=s)(hs0:0<s)
  (hel:∀n cs y,DataW.trod enc P W 0 (fun _=>true) true n e cs=some y→cs.length=s→∃a,aw EN W cs (f a))
  (h:DataW.trod enc P W 0 (fun _=>true) true fuel t [v]=some x):∃L:List α,bC EN W v (.slice L.length (L.flatMap f)):=by
 rcases open_slice ht h with⟨hcs,_⟩|⟨a,len,cap,m,n,D,Pl,hcs,_,hl,hm,hmm,_,hx⟩
 ·simp at hcs;subst hcs
  exact⟨[],.bY⟩
 ·simp at hcs;subst hcs
  rw[hc]at hx
  simp only[if_true]at hmm
  subst hmm
  have hall:∀k,k≤len→∃(L:List α) (cs:List Value),L.length=k∧cs.length=k*s∧aw EN W cs (L.flatMap f)∧∀(i:Nat) u,cs[i]? =some u→W.cell? (a.add i)=some u:=by
   intro k
   induction k with
   |zero=>intro _;exact⟨[],[],rfl,by simp,aw.nil _ _,fun i u h=>by simp at h⟩
   |succ k ih=>
    intro hk
    obtain⟨L,cs,h1,h2,h3,h4⟩:=ih (by omega)
    obtain⟨cs',h5,h6⟩:=hx k (by omega)
    obtain⟨_,hlen,hget⟩:=World.cells?_some h5
    obtain⟨b,hb⟩:=hel n cs' _ h6 hlen
    refine⟨L++[b],cs++cs',by simp[h1],by rw[List.length_append,h2,hlen,Nat.succ_mul],by rw[List.flatMap_append];simpa using h3.append hb,fun i u hu=>?_⟩
    by_cases hi:i<cs.length
    ·rw[List.getElem?_append_left hi]at hu;exact h4 i u hu
    ·rw[List.getElem?_append_right (by omega)]at hu
     have hj:i - cs.length<s:=by have:=(List.getElem?_eq_some_iff.1 hu).1;omega
     have:=hget (i - cs.length) hj
     rw[hu]at this
     rw[←this]
     rw[Addr.add_add]
     congr 2
     omega
  obtain⟨L,cs,h1,h2,h3,h4⟩:=hall len (Nat.le_refl _)
  by_cases h0:len=0
  ·subst h0
   have:L=[]:=List.eq_nil_of_length_eq_zero h1
   subst this
   exact⟨[],.empty _ _ hm⟩
  ·obtain⟨b,off,spot⟩:=a
   have hlt:0<cs.length:=by rw[h2];exact Nat.mul_pos (by omega) hs0
   have hc0:=h4 0 cs[0] (by simp[hlt])
   have hspot:spot=none:=by simpa[Addr.add]using World.cell?_spot hc0
   subst hspot
   have hbs:b<W.heap.size:=by
    unfold World.cell? at hc0
    split at hc0
    ·rename_i hh;exact(Array.getElem?_eq_some_iff.1 hh).1
    ·cases hc0
   refine⟨L,?_⟩
   rw[h1]
   exact .slice b off len _ cs _ (by omega) hl hm hbs (fun hf=>hf) (fun i u hu=>by have:=h4 i u hu;rw[Addr.add_lit]at this;exact this) h3.1 h3.2
end
end PW
end Go.Proofs.YtnegbdpggideiaaDoor
namespace Go.Proofs.YtnegbdpggideiaaDoor
namespace PW
open Go.RowKit aN Mem Net
section
variable {H:Type} {enc:TypeId×Value→H} {W:World}
theorem fA{n:Nat}{cs:List Value}{y:DataW H×List MemPlace}(h:DataW.trod enc Tryd.prog W 0 (fun _=>true) true n 3 cs=some y):∃a:Int,cs=[.int .i64 a]:=by
 obtain⟨a,h1,_⟩:=DataW.trod_int Tryd.underlying3 h
 exact⟨a,h1⟩
theorem j6{α:Type}(f:α→PV)(l:List α):l.flatMap (fun a=>[f a])=l.map f:=by induction l with
 |nil=>rfl
 |cons a l ih=>simp[ih]
theorem ym{n:Nat}{v:Value}{y:DataW H×List MemPlace}(h:DataW.trod enc Tryd.prog W 0 (fun _=>true) true n 23 [v]=some y):∃L,bC EN W v (aJ L):=by
 obtain⟨L,hL⟩:=k9 (f:=fun a:Int=>[PV.raw (.int .i64 a)]) (s:=1) Tryd.underlying23 (by kernel_rfl) (by omega) (fun n cs y hy _=>by
  obtain⟨a,rfl⟩:=fA hy
  exact⟨a,aw.one (.raw _)⟩) h
 refine⟨L,?_⟩
 rw[j6]at hL
 exact hL
theorem sG{n:Nat}{v:Value}{y:DataW H×List MemPlace}(h:DataW.trod enc Tryd.prog W 0 (fun _=>true) true n 35 [v]=some y):∃L,bC EN W v (bA L):=by
 obtain⟨L,hL⟩:=k9 (f:=fun a:Bool=>[PV.raw (.bool a)]) (s:=1) Tryd.underlying35 (by kernel_rfl) (by omega) (fun n cs y hy _=>by
  obtain⟨a,rfl,_⟩:=DataW.trod_bool Tryd.underlying4 hy
  exact⟨a,aw.one (.raw _)⟩) h
 refine⟨L,?_⟩
 rw[j6]at hL
 exact hL
theorem u7{n:Nat}{cs:List Value}{y:DataW H×List MemPlace}(h:DataW.trod enc Tryd.prog W 0 (fun _=>true) true n 59 cs=some y)(hl:cs.length=7):∃l:la,aw EN W cs (iy l):=by
 have c3:Tryd.prog.cellsOf 3=1:=by kernel_rfl
 have c54:Tryd.prog.cellsOf 57=2:=by kernel_rfl
 obtain⟨xs,m,_,_,_,hlen,hf⟩:=DataW.trod_struct Tryd.underlying59 h
 match cs,hl with
 | [c0,c1,c2,c3',c4,c5,c6],_=>
  match xs,hlen with
  | [y0,y1,y2,y3,y4,y5],_=>
   have f0:DataW.trod enc Tryd.prog W 0 (fun _=>true) true m 3 (([c0,c1,c2,c3',c4,c5,c6].drop 0).take (Tryd.prog.cellsOf 3))=some y0:=hf 0 _ rfl
   rw[c3]at f0
   have f1:DataW.trod enc Tryd.prog W 0 (fun _=>true) true m 3 (([c0,c1,c2,c3',c4,c5,c6].drop 1).take (Tryd.prog.cellsOf 3))=some y1:=hf 1 _ rfl
   rw[c3]at f1
   have f2:DataW.trod enc Tryd.prog W 0 (fun _=>true) true m 57 (([c0,c1,c2,c3',c4,c5,c6].drop 2).take (Tryd.prog.cellsOf 57))=some y2:=hf 2 _ rfl
   rw[c54]at f2
   have f3:DataW.trod enc Tryd.prog W 0 (fun _=>true) true m 3 (([c0,c1,c2,c3',c4,c5,c6].drop 4).take (Tryd.prog.cellsOf 3))=some y3:=hf 3 _ rfl
   rw[c3]at f3
   have f4:DataW.trod enc Tryd.prog W 0 (fun _=>true) true m 3 (([c0,c1,c2,c3',c4,c5,c6].drop 5).take (Tryd.prog.cellsOf 3))=some y4:=hf 4 _ rfl
   rw[c3]at f4
   have f5:DataW.trod enc Tryd.prog W 0 (fun _=>true) true m 3 (([c0,c1,c2,c3',c4,c5,c6].drop 6).take (Tryd.prog.cellsOf 3))=some y5:=hf 5 _ rfl
   rw[c3]at f5
   obtain⟨a0,h0⟩:=fA f0
   obtain⟨a1,h1⟩:=fA f1
   obtain⟨a3,h3⟩:=fA f3
   obtain⟨a4,h4⟩:=fA f4
   obtain⟨a5,h5⟩:=fA f5
   obtain⟨zs,m2,_,_,_,hz,hg⟩:=DataW.trod_array Tryd.underlying57 f2
   match zs,hz with
   | [z0,z1],_=>
    have g0:=hg 0 (by omega)
    have g1:=hg 1 (by omega)
    rw[c3]at g0 g1
    obtain⟨b0,k0⟩:=fA g0
    obtain⟨b1,k1⟩:=fA g1
    simp at h0 h1 h3 h4 h5 k0 k1
    subst h0 h1 h3 h4 h5 k0 k1
    exact⟨⟨a0,a1,b0,b1,a3,a4,a5⟩,aw.cons (.raw _)<|aw.cons (.raw _)<|aw.cons (.raw _)<|aw.cons (.raw _)<|aw.cons (.raw _)<|aw.cons (.raw _)<|aw.cons (.raw _) (aw.nil _ _)⟩
theorem vE{base:Nat}{v:Value}{d:DataW H}{p:List MemPlace}(hv:Value.okWide Tryd.prog W .any base 38 v)(h:DataW.Trod enc Tryd.prog W 0 (fun _=>true) true 38 v d p):∃T,bC EN W v (a6 T):=by
 obtain⟨v0,v1,v2,y0,y1,y2,n,rfl,_,_,h0,h1,h2⟩:=Joins.open_agg3 Tryd.underlying38 (by kernel_rfl) (by kernel_rfl) hv h
 obtain⟨a,ha⟩:=fA h0
 obtain⟨B,hB⟩:=sG h1
 obtain⟨L,hL⟩:=k9 (f:=iy) (s:=7) Tryd.underlying36 (by kernel_rfl) (by omega) (fun n cs y hy hl=>u7 hy hl) h2
 cases ha
 refine⟨⟨a,B,L⟩,.agg #[_,v1,v2] _ rfl (fun i x u k1 k2=>?_)⟩
 match i,k1,k2 with
 |0,k1,k2=>cases k1;cases k2;exact .raw _
 |1,k1,k2=>cases k1;cases k2;exact hB
 |2,k1,k2=>cases k1;cases k2;exact hL
 |_+3,_,k2=>simp[b5]at k2
end
end PW
end Go.Proofs.YtnegbdpggideiaaDoor
namespace Go.Proofs.YtnegbdpggideiaaDoor
namespace PW
open Go.ChangeShapes Go.WideShapes Go.ChangeAt Go.RowKit
open Go.Joins aN Mem
theorem own:ownKnob Tryd.prog.godebug=none:=by kernel_rfl
theorem laidOut:laidOutB Tryd.prog=true:=by kernel_rfl
theorem uH{H:Type}{enc:TypeId×Value→H}{W:World}{t:TypeId}{v:Value}{d:DataW H}{p:List MemPlace}(h:DataW.Trod enc Tryd.prog W 0 (fun _=>true) true t v d p):∀x∈p,x.block<W.heap.size:=by
 obtain⟨m,hm⟩:=h;exact DataW.trod_lt m _ _ _ hm
end PW
end Go.Proofs.YtnegbdpggideiaaDoor
namespace Go.Proofs.YtnegbdpggideiaaDoor
namespace PW
open Go.RowKit aN Mem
theorem ov{P:Program}{x:String×DataW Unit}{r:List (String×DataW Unit)}{W:World}(h:laidMet P (x::r) W):laidMet P r W:=by
 obtain⟨ps,⟨g,t,cs,fuel,p,q,_,_,_,_,hr,rfl⟩,hn,hc⟩:=h
 exact⟨q,hr,(List.nodup_append.1 hn).2.1,fun b off hm=>hc b off (List.mem_append.2 (.inr hm))⟩
theorem gu{P:Program}{W:World}{name:String}{k:IntKind}{zs:List Int}{g:Nat}(hg:P.globalNamed name=some g)(h:Lib.TabIs P W name k zs):∃t fz,W.heap[g]? =some (.cells (zs.map fun z=>Value.int k z).toArray t fz):=by
 unfold Lib.TabIs World.var? at h
 rw[hg]at h
 simp only[Option.bind_some]at h
 split at h
 ·rename_i cs t fz hh
  cases h
  exact⟨t,fz,hh⟩
 ·cases h
def t32:List Int:=[0,1,28,2,29,14,24,3,30,22,20,15,25,17,4,8,31,27,13,23,21,19,16,7,26,12,18,6,11,5,10,9]
def t64:List Int:=[0,1,56,2,57,49,28,3,61,58,42,50,38,29,17,4,62,47,59,36,45,43,51,22,53,39,33,30,24,18,12,5,63,55,48,27,60,41,37,16,46,35,44,21,52,32,23,11,54,26,40,15,34,20,31,10,25,14,19,9,13,8,7,6]
def t10:List Int:=[1,10,100,1000,10000,100000,1000000,10000000,100000000,1000000000,10000000000,100000000000,1000000000000,10000000000000,100000000000000,1000000000000000,10000000000000000,100000000000000000,1000000000000000000,10000000000000000000]
theorem rE{W:World}(h:laidMetH Tryd.prog Rows.flowhashArrivesRow.laid W):lB (fun _=>False) W:=by
 have h1:laidMet Tryd.prog [("math/bits.deBruijn32tab",Lib.tabData .u8 t32),("math/bits.deBruijn64tab",Lib.tabData .u8 t64),("internal/strconv.uint64pow10",Lib.tabData .u64 t10)] W:=h
 have h2:=ov h1
 have h3:=ov h2
 have a1:=gu (g:=2) (by kernel_rfl) (Lib.tabIs_of_head (g:=2) (t:=159) (e:=5) (n:=32) (by kernel_rfl) (by kernel_rfl) (by kernel_rfl) (by kernel_rfl) (by kernel_rfl) (by kernel_rfl) h1)
 have a2:=gu (g:=3) (by kernel_rfl) (Lib.tabIs_of_head (g:=3) (t:=160) (e:=5) (n:=64) (by kernel_rfl) (by kernel_rfl) (by kernel_rfl) (by kernel_rfl) (by kernel_rfl) (by kernel_rfl) h2)
 have a3:=gu (g:=0) (by kernel_rfl) (Lib.tabIs_of_head (g:=0) (t:=144) (e:=73) (n:=20) (by kernel_rfl) (by kernel_rfl) (by kernel_rfl) (by kernel_rfl) (by kernel_rfl) (by kernel_rfl) h3)
 intro g cs hm
 refine⟨fun hf=>hf,?_⟩
 have hG:GG=[(0,t10.map fun z=>Value.int .u64 z),(2,t32.map fun z=>Value.int .u8 z),(3,t64.map fun z=>Value.int .u8 z)]:=by kernel_rfl
 rw[hG]at hm
 rcases List.mem_cons.1 hm with e|hm
 ·cases e;exact a3
 ·rcases List.mem_cons.1 hm with e|hm
  ·cases e;exact a1
  ·rcases List.mem_cons.1 hm with e|hm
   ·cases e;exact a2
   ·cases hm
end PW
end Go.Proofs.YtnegbdpggideiaaDoor
