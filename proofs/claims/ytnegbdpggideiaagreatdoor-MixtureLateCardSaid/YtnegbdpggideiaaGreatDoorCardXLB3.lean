/- Texts of the proof, part 3. -/
import Derived.Test.YtnegbdpggideiaaGreatDoorProg
import Derived.WalkKit
import Derived.ProofKit
import Derived.Deep.Slices
import Derived.Lib.SmallJoins
import Derived.Test.YtnegbdpggideiaaGreatDoorCardXLB2
set_option linter.unusedVariables false
set_option linter.unusedSimpArgs false
set_option maxRecDepth 10000
set_option maxHeartbeats 1000000
namespace Go.Proofs.YtnegbdpggideiaaGreatDoor
namespace PW
section
open Go.RowKit cE Mem
class tj (p:PV):Prop where
 out:∀(E:Env) (w w':World) (v:Value),cK E w v p→cK E w' v p
 Lb:∀(E:Env) (w:World) (v v':Value),cK E w v p→cK E w v' p→v=v'
instance (v:Value):tj (.raw v):=⟨fun _ _ _ _ h=>by cases h;exact .raw _,fun _ _ _ _ h h'=>by cases h;cases h';rfl⟩
instance (i:Nat):tj (.own i):=⟨fun _ _ _ _ h=>by cases h with|own _ hi _ h hs=>exact .own i hi _ h hs,fun _ _ _ _ h h'=>by
 cases h with
 |own _ _ _ h _=>cases h' with
  |own _ _ _ h' _=>rw[←h,←h']⟩
instance (i k:Nat):tj (.ptr i k):=⟨fun _ _ _ _ h=>by cases h with|ptr _ _ b hi h=>exact .ptr i k b hi h,fun E w v v' h h'=>by
 cases h with
 |ptr _ _ b _ h=>cases h' with
  |ptr _ _ b' _ h'=>
   have:b=b':=by
    rcases h with h|⟨n,c,h⟩<;>rcases h' with h'|⟨n',c',h'⟩<;>rw[h]at h'<;>simp at h'<;>first|exact h'|exact h'.1
   rw[this]⟩
section
variable {P:Program} {ops:Array Oper} {N L:Nat}
def lQ(P:Program)(t:cg)(o:Oper)(p:PV):Prop:=∀E ρ w,kX ρ→eF E w ρ t→∃v,(∀w',(execOp ρ o).run P w'= .ok (.value v) w')∧cK E w v p
theorem jC{t:cg}{o:Oper}{x:Operand}{p:PV}(ho:o.op= .move x)(hx:aF t x=some p):lQ P t o p:=fun E ρ w hρ hT=>
 ⟨ρ x,fun w'=>by simp only[execOp,ho,Sem.run_pure],aA hρ hT hx⟩
theorem JG{t:cg}{o:Oper}{op:BinOp}{x y:Operand}{ty tz:TypeId}{k:IntKind}{a b:Int}{v:Value}(ho:o.op= .binOp op ty x y tz)(hx:aF t x=some (.raw (.int k a)))(hy:aF t y=some (.raw (.int k b)))
  (hv:∀w,(binOp op ty (.int k a) (.int k b)).run P w= .ok v w):lQ P t o (.raw v):=fun E ρ w hρ hT=>by
 have h1:=aA hρ hT hx
 have h2:=aA hρ hT hy
 generalize hz:ρ x=z at h1
 generalize hz':ρ y=z' at h2
 cases h1
 cases h2
 have hg:∀w,(eqGuard op ty x y (.int k a) (.int k b)).run P w= .ok () w:=by
  intro w;unfold eqGuard;split<;>rfl
 exact⟨v,fun w'=>by simp only[execOp,ho,hz,hz',Sem.run_bind,Sem.run_pure,Result.andThen_ok,hg,hv],.raw _⟩
theorem JP{t:cg}{o:Oper}{x y:Operand}{ty tz:TypeId}{a b c:Int}(ho:o.op= .binOp .sub ty x y tz)(hx:aF t x=some (.raw (.int .i64 a)))(hy:aF t y=some (.raw (.int .i64 b)))(hc:a - b=c)(hn:In64 c):lQ P t o (.raw (.int .i64 c)):=
 JG ho hx hy fun w=>by simp[binOp,Op.intArith,hc,jU hn]
theorem lQ.y{t:cg}{o:Oper}{p:PV}{σ:cc}(h:lQ P t o p):bA P σ t o p:=fun F base E ρ w hρ _ hT=>by
 obtain⟨v,h1,h2⟩:=h E ρ w hρ hT
 rw[h1];exact bz h2
def nh:List Oper→List PV→cg→cg
 |o::l,p::ps,t=>nh l ps (match o.dst with|some d=>(d,p)::t|none=>t)
 |_,_,t=>t
inductive jB (P:Program) (N:Nat) (ops:Array Oper) (σ:cc):List Oper→List PV→List Bool→cg→Prop
 |nil {t:cg}:jB P N ops σ [] [] [] t
 |val {o:Oper} {rest:List Oper} {t:cg} {d:Nat} {p:PV} {ps:List PV} {fs:List Bool} (ks:List Nat):(ks.all fun k=>(o.looksAt ops).contains k)=true→bA P σ (gN t ks) o p→o.dst=some d→Nat.blt d N=true→jB P N ops σ rest ps fs ((d,p)::t)→jB P N ops σ (o::rest) (p::ps) (false::fs) t
 |late {o:Oper} {rest:List Oper} {t:cg} {d:Nat} {p:PV} {ps:List PV} {fs:List Bool} (ks:List Nat):(ks.all fun k=>(o.looksAt ops).contains k)=true→lQ P (gN t ks) o p→tj p→o.dst=some d→Nat.blt d N=true→jB P N ops σ rest ps fs ((d,p)::t)→jB P N ops σ (o::rest) (p::ps) (true::fs) t
structure Datum (P:Program) (N:Nat) (ops:Array Oper) (σ:cc) (o:Oper) (p:PV) (fl:Bool) (t:cg):Prop where
 dst:∃d,o.dst=some d∧d<N
 y:∃ks,(∀k∈ks,k∈o.looksAt ops)∧bA P σ (gN t ks) o p
 r:fl=true→tj p∧∃ks,(∀k∈ks,k∈o.looksAt ops)∧lQ P (gN t ks) o p
theorem jB.data{σ:cc}{l:List Oper}{ps:List PV}{fs:List Bool}{t:cg}(h:jB P N ops σ l ps fs t):ps.length=l.length∧fs.length=l.length∧∀(i:Nat) o p f,l[i]? =some o→ps[i]? =some p→fs[i]? =some f→Datum P N ops σ o p f (nh (l.take i) (ps.take i) t):=by
 have mem:∀ {ks:List Nat} {o:Oper},(ks.all fun k=>(o.looksAt ops).contains k)=true→∀k∈ks,k∈o.looksAt ops:=fun h k hk=>by
  have:=List.all_eq_true.1 h k hk;simpa using this
 induction h with
 |nil=>exact⟨rfl,rfl,fun i o p f h=>by simp at h⟩
 | @val o rest t d p ps fs ks hks hy hd hN _ ih=>
  refine⟨by simp[ih.1],by simp[ih.2.1],fun i o' p' f h1 h2 h3=>?_⟩
  cases i with
  |zero=>
   simp at h1 h2 h3
   subst h1;subst h2;subst h3
   exact⟨⟨d,hd,Nat.blt_eq.mp hN⟩,⟨ks,mem hks,hy⟩,fun e=>by cases e⟩
  |succ i=>
   have:=ih.2.2 i o' p' f (by simpa using h1) (by simpa using h2) (by simpa using h3)
   simpa[nh,hd]using this
 | @late o rest t d p ps fs ks hks hy hfp hd hN _ ih=>
  refine⟨by simp[ih.1],by simp[ih.2.1],fun i o' p' f h1 h2 h3=>?_⟩
  cases i with
  |zero=>
   simp at h1 h2 h3
   subst h1;subst h2;subst h3
   exact⟨⟨d,hd,Nat.blt_eq.mp hN⟩,⟨ks,mem hks,hy.y⟩,fun _=>⟨hfp,ks,mem hks,hy⟩⟩
  |succ i=>
   have:=ih.2.2 i o' p' f (by simpa using h1) (by simpa using h2) (by simpa using h3)
   simpa[nh,hd]using this
def cz(ops:Array Oper)(i:Nat):Option Nat:=(ops[i]?).bind (·.dst)
def eB(ops:Array Oper)(i:Nat):List Nat:=match ops[i]? with|some o=>o.looksAt ops|none=>[]
def HS(ops:Array Oper)(f m:Nat)(fl:List Bool):Bool:=
 decide (m≤ops.size)&&Nat.beq fl.length m&&
 ((List.range ops.size).all fun i=>(lX ops i).all fun k=>decide (k<i))&&
 ((List.range ops.size).all fun i=>((ops[i]?).all fun o=>o.guard.isNone))&&
 ((List.range m).all fun i=>(List.range i).all fun j=>cz ops i !=cz ops j)&&
 ((List.range m).all fun j=>(eB ops j).all fun k=>(List.range m).all fun i=>cz ops i !=some k||(decide (i<j)&&(lX ops j).contains i))&&
 ((List.range ops.size).all fun i=>decide (i<m)||(List.range i).all fun j=>fl.getD j false||fu ops f i j)&&
 ((List.range ops.size).all fun i=>decide (i<m)||(List.range m).all fun j=> !fl.getD j false||((cz ops j).all fun d=> !(eB ops i).contains d||fu ops f i j))&&
 ((List.range ops.size).all fun i=>decide (i<m)||(List.range m).all fun j=> !fl.getD j false||((cz ops i).all fun d=>cz ops j !=some d&& !(eB ops j).contains d))
structure Form (ops:Array Oper) (f m:Nat) (fl:List Bool):Prop where
 le:m≤ops.size
 Kx:fl.length=m
 lX:∀i,i<ops.size→∀k∈lX ops i,k<i
 ng:∀(i:Nat) (o:Oper),ops[i]? =some o→o.guard=none
 ss:∀i j,i<m→j<i→cz ops i≠cz ops j
 rd:∀j,j<m→∀k∈eB ops j,∀i,i<m→cz ops i=some k→i<j∧i∈PW.lX ops j
 K6:∀i,i<ops.size→m≤i→∀j,j<i→fl.getD j false=false→fu ops f i j=true
 use:∀i,i<ops.size→m≤i→∀j,j<m→fl.getD j false=true→∀d,cz ops j=some d→d∈eB ops i→fu ops f i j=true
 wr:∀i,i<ops.size→m≤i→∀j,j<m→fl.getD j false=true→∀d,cz ops i=some d→cz ops j≠some d∧d∉eB ops j
theorem Bh{f m:Nat}{fl:List Bool}(h:HS ops f m fl=true):Form ops f m fl:=by
 unfold HS at h
 simp only[Bool.and_eq_true]at h
 obtain⟨⟨⟨⟨⟨⟨⟨⟨h1,h2⟩,h3⟩,h4⟩,h5⟩,h6⟩,h7⟩,h8⟩,h9⟩:=h
 have all:∀ {n:Nat} {p:Nat→Bool},(List.range n).all p=true→∀i,i<n→p i=true:=fun h i hi=>List.all_eq_true.1 h i (List.mem_range.2 hi)
 refine⟨by simpa using h1,Nat.eq_of_beq_eq_true h2,fun i hi k hk=>?_,fun i o ho=>?_,fun i j hi hj=>?_,fun j hj k hk i hi hd=>?_,fun i hi hm j hj hf=>?_,fun i hi hm j hj hf d hd hl=>?_,fun i hi hm j hj hf d hd=>?_⟩
 ·have:=List.all_eq_true.1 (all h3 i hi) k hk;simpa using this
 ·have hi:i<ops.size:=(Array.getElem?_eq_some_iff.1 ho).1
  have:=all h4 i hi
  rw[ho]at this
  simpa using this
 ·have:=all (all h5 i hi) j hj
  simpa using this
 ·have:=all (List.all_eq_true.1 (all h6 j hj) k hk) i hi
  rw[hd]at this
  simpa using this
 ·have:=all h7 i hi
  simp only[Bool.or_eq_true,decide_eq_true_eq]at this
  rcases this with h|h
  ·omega
  ·have:=all h j hj
   rw[hf]at this
   simpa using this
 ·have:=all h8 i hi
  simp only[Bool.or_eq_true,decide_eq_true_eq]at this
  rcases this with h|h
  ·omega
  ·have:=all h j hj
   rw[hf,hd]at this
   simpa[hl]using this
 ·have:=all h9 i hi
  simp only[Bool.or_eq_true,decide_eq_true_eq]at this
  rcases this with h|h
  ·omega
  ·have:=all h j hj
   rw[hf,hd]at this
   simpa using this
structure Fk (ops:Array Oper) (m:Nat) (fl:List Bool) (ls:Array Bool) (a a₁:Act):Prop where
 j9:a.defers=a₁.defers
 size:a.tmps.size=a₁.tmps.size
 tmp:∀k,(∀j,j<m→fl.getD j false=true→ls.getD j true=false→cz ops j≠some k)→a.eval (.tmp k)=a₁.eval (.tmp k)
def Iu(P:Program)(ops:Array Oper)(m:Nat)(fl:List Bool)(a₁:Act):Prop:=
 ∀j o d,j<m→fl.getD j false=true→ops[j]? =some o→o.dst=some d→∀w,(execOp a₁.eval o).run P w= .ok (.value (a₁.eval (.tmp d))) w
theorem Cz{i:Nat}{o:Oper}(ho:ops[i]? =some o){k:Nat}(hk:Operand.tmp k∈o.op.operands):k∈eB ops i:=by
 unfold eB
 rw[ho]
 exact List.mem_append_left _ (List.mem_filterMap.2 ⟨.tmp k,by simpa using hk,rfl⟩)
theorem nx{i:Nat}{o:Oper}{a a₁:Act}(ho:ops[i]? =some o)(hs:∀cs b,o.op≠ .select cs b)(h:∀k∈eB ops i,a.eval (.tmp k)=a₁.eval (.tmp k)):execOp a.eval o=execOp a₁.eval o:=by
 refine execOp_congr o hs fun x hx=>?_
 match x,hx with
 | .tmp k,hx=>exact h k (Cz ho hx)
 | .const v,_=>rfl
 | .global g,_=>rfl
 | .func g,_=>rfl
theorem IG{a a₁:Act}(hd:a.defers=a₁.defers)(hs:a.tmps.size=a₁.tmps.size)(h:∀k,a.eval (.tmp k)=a₁.eval (.tmp k)):a=a₁:=by
 obtain⟨t,d⟩:=a
 obtain⟨t',d'⟩:=a₁
 simp only at hd hs
 subst hd
 congr
 apply Array.ext hs
 intro i h1 h2
 have:=h i
 simpa[Act.eval,h1,h2]using this
theorem jw(a:Act){d:Nat}(hd:d<a.tmps.size)(v:Value)(k:Nat):(a.put (some d) v).eval (.tmp k)=if k=d then v else a.eval (.tmp k):=by
 split
 ·rename_i e;subst e;simp[Act.put,Act.eval,hd]
 ·rename_i e;exact Act.eval_put (fun d' hd' heq=>by cases hd';cases heq;exact e rfl)
def Dq(Qn:Act→World→Prop):Exit→Act→World→Prop
 | .normal,a,w=>Qn a w
 |_,_,_=>False
theorem Dv{o:Oper}{a a₁:Act}{w:World}{K K':Act→World→Prop}{Qn:Act→World→Prop}{Q:Exit→Act→World→Prop}(he:execOp a.eval o=execOp a₁.eval o)(hd:a.defers=a₁.defers)(hh:o.wp P a₁ w K (Dq Qn))(h:∀ds v w',K (({a₁ with defers:=ds}:Act).put o.dst v) w'→K' (({a with defers:=ds}:Act).put o.dst v) w'):o.wp P a w K' Q:=by
 have h1:∀v w',K (a₁.put o.dst v) w'→K' (a.put o.dst v) w':=fun v w' hk=>by
  have:=h a₁.defers v w' hk
  rw[←hd]at this
  exact this
 unfold Oper.wp at*
 rw[he]
 generalize (execOp a₁.eval o).run P w=x at*
 cases x with
 |ok n w'=>
  cases n<;>simp only[Oper.upon]at hh ⊢
  case value v=>exact h1 _ _ hh
  case skip=>exact h1 _ _ hh
  case defer d=>rw[hd];exact h _ _ _ hh
  case enter f args=>exact Calls.mono hh (fun e w'' he=>by cases e<;>first|exact h1 _ _ he|exact he.elim|exact(he.elim fun _ h=>h.elim fun _ h=>h.elim))
  case row r args=>exact Rows.mono hh (fun _ _ he=>h1 _ _ he)
  all_goals exact hh.elim
 |halt x w'=>cases x<;>simp only[Oper.upon]at hh ⊢ <;>exact hh.elim
theorem Dh{f m:Nat}{fl:List Bool}(hF:Form ops f m fl)(hsel:∀(i:Nat) (o:Oper),ops[i]? =some o→∀cs b,o.op≠ .select cs b)(hfd:∀j,j<m→∃d,cz ops j=some d){Qn:Act→World→Prop}{Q:Exit→Act→World→Prop}(hQ:∀a w,Qn a w→Q .normal a w):
  ∀(fuel k r:Nat) (ls:Array Bool) (a a₁:Act) (w:World),k+r=ops.size→m≤k→ls.size=ops.size→(∀i,k≤i→i<ops.size→ls.getD i true=false)→(∀i,m≤i→i<k→ls.getD i true=true)→(∀i,i<m→fl.getD i false=false→ls.getD i true=true)→Down ops ls→fuel=bM ls m+r→
   Fk ops m fl ls a a₁→Iu P ops m fl a₁→(∀j d,j<m→cz ops j=some d→d<a₁.tmps.size)→wpOps P ops (Dq Qn) (List.range' k r) a₁ w→wpAny P .any ops Q fuel ls a w:=by
 intro fuel
 induction fuel with
 |zero=>
  intro k r ls a a₁ w hk hm hsz hA hB hC hD hfu hag hfx hds h
  have hr:r=0:=by omega
  subst hr
  have hu:bM ls m=0:=by omega
  have hall:∀i,i<ops.size→ls.getD i true=true:=fun i hi=>by
   rcases Nat.lt_or_ge i m with h'|h'
   ·exact dp hu i h'
   ·exact hB i h' (by omega)
  have hr0:Region.ready .any ops ls=[]:=by
   apply List.eq_nil_iff_forall_not_mem.2
   intro i hi
   obtain⟨h1,h2,_⟩:=cF.1 hi
   rw[hall i h1]at h2;cases h2
  have:a=a₁:=IG hag.j9 hag.size fun k=>hag.tmp k fun j hj _ hl=>by
   rw[dp hu j hj]at hl;cases hl
  subst this
  exact⟨hr0,hQ a w h⟩
 |succ fuel ih=>
  intro k r ls a a₁ w hk hm hsz hA hB hC hD hfu hag hfx hds h
  have hf:∀b c (i:Nat),i<ops.size→ls.getD i b=ls.getD i c:=fun b c i hi=>by simp[show i<ls.size by omega]
  have hne:Region.ready .any ops ls≠[]:=by
   rcases Nat.eq_zero_or_pos (bM ls m)with hu|hu
   ·have hkr:k<ops.size:=by omega
    have:k∈Region.ready .any ops ls:=cF.2 ⟨hkr,hA k (Nat.le_refl _) hkr,fun j hj=>by
     have:=hF.lX k hkr j hj
     rw[hf false true j (by omega)]
     rcases Nat.lt_or_ge j m with h'|h'
     ·exact dp hu j h'
     ·exact hB j h' this⟩
    intro h0;rw[h0]at this;cases this
   ·obtain⟨i,h1,h2,h3⟩:=fO hu
    have hle:=hF.le
    have:i∈Region.ready .any ops ls:=cF.2 ⟨by omega,h2,fun j hj=>by
     have:=hF.lX i (by omega) j hj
     rw[hf false true j (by omega)];exact h3 j this⟩
    intro h0;rw[h0]at this;cases this
  refine⟨fun h0=>absurd h0 hne,fun i hi=>?_⟩
  obtain⟨hi1,hi2,hi3⟩:=cF.1 hi
  have ho:ops[i]? =some ops[i]:=by simp[hi1]
  have hwant:Region.wanted ops[i] (yielded ops a.tmps)=true:=by unfold Region.wanted;rw[hF.ng i _ ho]
  have hset:∀(j:Nat) b,(ls.setIfInBounds i true).getD j b=if j=i then true else ls.getD j b:=fun j b=>by
   by_cases e:i=j
   ·subst e;simp[show i<ls.size by omega]
   ·rw[if_neg (fun h=>e h.symm),Array.getD_eq_getD_getElem?,Array.getD_eq_getD_getElem?,Array.getElem?_setIfInBounds_ne e]
  have hdown:Down ops (ls.setIfInBounds i true):=fun j hj hj' q hq=>by
   rw[hset]
   split
   ·rfl
   ·rw[hset]at hj
    split at hj
    ·rename_i e;subst e;exact hi3 q hq
    ·exact hD j hj hj' q hq
  unfold wpOp
  rw[ho]
  simp only[hwant,if_true]
  rcases Nat.lt_or_ge i m with him|him
  ·
   have hfl:fl.getD i false=true:=by
    cases hb:fl.getD i false with
    |true=>rfl
    |false=>rw[hC i him hb]at hi2;cases hi2
   cases hd:(ops[i]).dst with
   |none=>
    obtain⟨d,hd'⟩:=hfd i him
    simp only[cz,ho,Option.bind_some]at hd'
    have:=hd.symm.trans hd'
    cases this
   |some d=>
    have hdo:cz ops i=some d:=by simp only[cz,ho,Option.bind_some];exact hd
    have hrun:=hfx i ops[i] d him hfl ho hd w
    have hex:execOp a.eval ops[i]=execOp a₁.eval ops[i]:=nx ho (hsel i _ ho) fun q hq=>hag.tmp q fun j hj _ hjl hjd=>by
     have:=(hF.rd i him q hq j hj hjd).2
     have:=hi3 j this
     rw[hf false true j (by omega),hjl]at this
     cases this
    left
    unfold Oper.wp
    rw[hex,hrun]
    simp only[Oper.upon]
    rw[hd]
    have hda:=hds i d him hdo
    refine ih k r _ _ a₁ w hk hm (by simpa using hsz) (fun j hj hj'=>by rw[hset,if_neg (by omega)];exact hA j hj hj') (fun j hj hj'=>by rw[hset,if_neg (by omega)];exact hB j hj hj') (fun j hj hj'=>?_) hdown ?_ ⟨by simpa[Act.put]using hag.j9,by simpa[Act.put]using hag.size,fun q hq=>?_⟩ hfx hds h
    ·rw[hset];split
     ·rfl
     ·exact hC j hj hj'
    ·have:=fR hi2 him (by have:=hF.le;omega);omega
    ·rw[jw a (by rw[hag.size];exact hda)]
     split
     ·rename_i e;rw[e]
     ·rename_i e
      refine hag.tmp q fun j hj hjf hjl hjd=>?_
      by_cases e2:j=i
      ·subst e2;rw[hdo]at hjd;cases hjd;exact e rfl
      ·exact hq j hj hjf (by rw[hset,if_neg e2];exact hjl) hjd
  ·
   have hik:i=k:=by
    rcases Nat.lt_or_ge i k with h'|h'
    ·rw[hB i him h']at hi2;cases hi2
    ·rcases Nat.lt_or_ge k i with h''|h''
     ·have hfk:fl.getD k false=false:=by
       have:=hF.Kx
       simp[List.getD_eq_getElem?_getD,List.getElem?_eq_none (show fl.length≤k by omega)]
      have:=eC hsz hD hF.lX f i k hi1 (hF.K6 i hi1 him k h'' hfk) hi3
      rw[hf false true k (by omega),hA k (Nat.le_refl _) (by omega)]at this
      cases this
     ·omega
   subst hik
   obtain⟨r',rfl⟩:∃r',r=r'+1:=⟨r - 1,by omega⟩
   rw[List.range'_succ,wpOps_cons]at h
   unfold wpOp at h
   rw[ho]at h
   have hwant':Region.wanted ops[i] (yielded ops a₁.tmps)=true:=by unfold Region.wanted;rw[hF.ng i _ ho]
   simp only[hwant',if_true]at h
   have hh:=h.resolve_right (fun⟨_,_,_,hq⟩=>hq)
   have hex:execOp a.eval ops[i]=execOp a₁.eval ops[i]:=nx ho (hsel i _ ho) fun q hq=>hag.tmp q fun j hj hjf hjl hjd=>by
    have:=eC hsz hD hF.lX f i j hi1 (hF.use i hi1 him j hj hjf q hjd hq) hi3
    rw[hf false true j (by have:=hF.le;omega),hjl]at this
    cases this
   left
   refine Dv hex hag.j9 hh fun ds v w' hK=>?_
   have hdd:∀d,(ops[i]).dst=some d→cz ops i=some d:=fun d hd=>by simp only[cz,ho,Option.bind_some];exact hd
   refine ih (i+1) r' _ _ _ w' (by omega) (by omega) (by simpa using hsz) (fun j hj hj'=>by rw[hset,if_neg (by omega)];exact hA j (by omega) hj') (fun j hj hj'=>?_) (fun j hj hj'=>by rw[hset,if_neg (by omega)];exact hC j hj hj') hdown ?_ ⟨?_,?_,fun q hq=>?_⟩ (fun j o d hj hjf hjo hjd w''=>?_) (fun j d hj hjd=>?_) hK
   ·rw[hset];split
    ·rfl
    ·exact hB j hj (by omega)
   ·have:bM (ls.setIfInBounds i true) m=bM ls m:=by
     have:∀q,q≤m→bM (ls.setIfInBounds i true) q=bM ls q:=by
      intro q
      induction q with
      |zero=>intro _;rfl
      |succ q ihq=>
       intro hq
       simp only[bM]
       rw[ihq (by omega),hset q true,if_neg (show ¬q=i by omega)]
     exact this m (Nat.le_refl _)
    omega
   ·cases(ops[i]).dst<;>rfl
   ·cases(ops[i]).dst<;>simpa[Act.put]using hag.size
   ·have hq':∀j,j<m→fl.getD j false=true→ls.getD j true=false→cz ops j≠some q:=fun j hj hjf hjl=>hq j hj hjf (by rw[hset,if_neg (by omega)];exact hjl)
    cases hd:(ops[i]).dst with
    |none=>exact hag.tmp q hq'
    |some d=>
     by_cases hsz2:d<a.tmps.size
     ·rw[jw _ (by simpa using hsz2),jw _ (by rw[←hag.size];exact hsz2)]
      split
      ·rfl
      ·exact hag.tmp q hq'
     ·have e1:({a with defers:=ds}:Act).put (some d) v= {a with defers:=ds}:=by simp[Act.put,Array.setIfInBounds,hsz2]
      have e2:({a₁ with defers:=ds}:Act).put (some d) v= {a₁ with defers:=ds}:=by simp[Act.put,Array.setIfInBounds,←hag.size,hsz2]
      rw[e1,e2]
      exact hag.tmp q hq'
   ·have hj1:=hfx j o d hj hjf hjo hjd w''
    have hjd':cz ops j=some d:=by simp only[cz,hjo,Option.bind_some];exact hjd
    have key:∀q,(q∈eB ops j∨q=d)→(({a₁ with defers:=ds}:Act).put (ops[i]).dst v).eval (.tmp q)=a₁.eval (.tmp q):=fun q hq=>by
     refine Act.eval_put (a:= {a₁ with defers:=ds}) fun e he heq=>?_
     cases heq
     have:=hF.wr i hi1 him j hj hjf q (hdd q he)
     rcases hq with hq|rfl
     ·exact this.2 hq
     ·exact this.1 hjd'
    have he2:execOp (({a₁ with defers:=ds}:Act).put (ops[i]).dst v).eval o=execOp a₁.eval o:=nx hjo (hsel j o hjo) fun q hq=>key q (.inl hq)
    rw[he2,hj1,key d (.inr rfl)]
   ·have:=hds j d hj hjd
    cases(ops[i]).dst<;>simpa[Act.put]using this
theorem lW:∀(l:List Oper) (ps:List PV) (t:cg) (k:Nat) (p:PV),look k (nh l ps t)=some p→(∃(j:Nat) (o:Oper),l[j]? =some o∧o.dst=some k∧ps[j]? =some p)∨look k t=some p
 | [],_,t,k,p,h=>.inr (by simpa[nh]using h)
 |_::_,[],t,k,p,h=>.inr (by simpa[nh]using h)
 |o::l,q::ps,t,k,p,h=>by
  simp only[nh]at h
  rcases lW l ps _ k p h with⟨j,o',h1,h2,h3⟩|h'
  ·exact .inl ⟨j+1,o',by simpa using h1,h2,by simpa using h3⟩
  ·cases hd:o.dst with
   |none=>rw[hd]at h';exact .inr h'
   |some d=>
    rw[hd]at h'
    simp only[look]at h'
    rw[Bool.cond_eq_ite]at h'
    split at h'
    ·rename_i he
     have:=Nat.eq_of_beq_eq_true he
     subst this
     cases h'
     exact .inl ⟨0,o,rfl,hd,rfl⟩
    ·exact .inr h'
section
variable {F:Nat→Prop} {base:Nat} {E:Env} {σ:cc} {t:cg} {l:List Oper} {ps:List PV} {fl:List Bool} {f m:Nat}
structure lA (N m:Nat) (l:List Oper) (ps:List PV) (E:Env) (t:cg) (w:World) (dn:Nat→Prop) (a:Act) (w':World):Prop where
 ext:Ext w w'
 j9:a.defers=[]
 size:a.tmps.size=N
 t0:eF E w' a.eval t
 lM:∀j,j<m→dn j→∀d p,cz l.toArray j=some d→ps[j]? =some p→cK E w' (a.eval (.tmp d)) p
theorem jk{i:Nat}{o:Oper}(h:(l.take m)[i]? =some o):i<m∧l.toArray[i]? =some o∧cz l.toArray i=o.dst:=by
 rw[List.getElem?_take]at h
 split at h
 ·rename_i hi
  refine⟨hi,by simpa using h,?_⟩
  simp only[cz]
  have:l.toArray[i]? =some o:=by simpa using h
  rw[this];rfl
 ·cases h
theorem pn{dn:Nat→Prop}{a:Act}{w w':World}(hg:lA N m l ps E t w dn a w'){i:Nat}(hi:i≤m){ks:List Nat}(hdn:∀j k,j<i→k∈ks→cz l.toArray j=some k→dn j):eF E w' a.eval (gN (nh ((l.take m).take i) (ps.take i) t) ks):=fun k p hk=>by
 obtain⟨h1,h2⟩:=ja ks k p hk
 rcases lW _ _ _ k p h2 with⟨j,o,h3,h4,h5⟩|h'
 ·rw[List.getElem?_take]at h3
  split at h3
  ·rename_i hj
   obtain⟨hjm,h6,h7⟩:=jk h3
   rw[List.getElem?_take,if_pos hj]at h5
   exact hg.lM j (by omega) (hdn j k hj h1 (by rw[h7];exact h4)) k p (by rw[h7];exact h4) h5
  ·cases h3
 ·exact hg.t0 k p h'
theorem tL{dn:Nat→Prop}{a:Act}{w w' w'':World}(hF:Form l.toArray f m fl)(hfr:∀i d,i<m→cz l.toArray i=some d→look d t=none)(hg:lA N m l ps E t w dn a w')(hE:Ext w' w''){i d:Nat}{p:PV}(hi:i<m)(hd:cz l.toArray i=some d)(hdN:d<N)(hp:ps[i]? =some p){v:Value}(hv:cK E w'' v p):
  lA N m l ps E t w (fun j=>dn j∨j=i) (a.put (some d) v) w'':=by
 refine⟨hg.ext.trans hE,by simpa[Act.put]using hg.j9,by simpa[Act.put]using hg.size,fun k q hk=>?_,fun j hj hdj d' q hd' hq=>?_⟩
 ·have hne:k≠d:=fun e=>by subst e;rw[hfr i k hi hd]at hk;cases hk
  rw[jw a (by rw[hg.size];exact hdN),if_neg hne]
  exact(hg.t0 k q hk).ext hE
 ·rw[jw a (by rw[hg.size];exact hdN)]
  by_cases e:j=i
  ·subst e
   rw[hd]at hd';cases hd'
   rw[hp]at hq;cases hq
   rw[if_pos rfl];exact hv
  ·have hne:d'≠d:=fun e'=>by
    subst e'
    rcases Nat.lt_or_ge i j with h'|h'
    ·exact hF.ss j i hj h' (by rw[hd,hd'])
    ·exact hF.ss i j hi (by omega) (by rw[hd,hd'])
   rw[if_neg hne]
   exact(hg.lM j hj (hdj.resolve_right e) d' q hd' hq).ext hE
theorem lA.mono{dn dn':Nat→Prop}{a:Act}{w w':World}(h:lA N m l ps E t w dn a w')(hd:∀j,j<m→dn' j→dn j):lA N m l ps E t w dn' a w':=⟨h.ext,h.j9,h.size,h.t0,fun j hj hj'=>h.lM j hj (hd j hj hj')⟩
theorem E0(hF:Form l.toArray f m fl)(hml:m≤l.length)(hfr:∀i d,i<m→cz l.toArray i=some d→look d t=none)(hc:jB P N l.toArray σ (l.take m) ps fl t){ls:Array Bool}{a:Act}{w w':World}(hg:lA N m l ps E t w (fun j=>ls.getD j true=true) a w')(hall:∀i,i<m→fl.getD i false=false→ls.getD i true=true):
  ∃a₁,Fk l.toArray m fl ls a a₁∧lA N m l ps E t w (fun _=>True) a₁ w':=by
 obtain⟨hl1,hl2,hdat⟩:=hc.data
 have hlen:(l.take m).length=m:=by simp;omega
 have key:∀q,q≤m→∃b,Fk l.toArray m fl ls a b∧lA N m l ps E t w (fun j=>ls.getD j true=true∨j<q) b w':=by
  intro q
  induction q with
  |zero=>intro _;exact⟨a,⟨rfl,rfl,fun _ _=>rfl⟩,hg.mono fun j _ h=>h.resolve_right (by omega)⟩
  |succ q ih=>
   intro hq
   obtain⟨b,hag,hgb⟩:=ih (by omega)
   cases hb:ls.getD q true with
   |true=>exact⟨b,hag,hgb.mono fun j _ h=>by
     rcases h with h|h
     ·exact .inl h
     ·by_cases e:j=q
      ·subst e;exact .inl hb
      ·exact .inr (by omega)⟩
   |false=>
    have hfq:fl.getD q false=true:=by
     cases hf:fl.getD q false with
     |true=>rfl
     |false=>rw[hall q (by omega) hf]at hb;cases hb
    have ho:(l.take m)[q]? =some ((l.take m)[q]'(by omega)):=List.getElem?_eq_getElem (by omega)
    obtain⟨_,hoq,hdq⟩:=jk ho
    have hpq:ps[q]? =some (ps[q]'(by omega)):=by simp
    have hff:fl[q]? =some true:=by
     have:q<fl.length:=by rw[hl2,hlen];omega
     simp[this]at hfq ⊢;exact hfq
    have D:=hdat q _ _ _ ho hpq hff
    obtain⟨d,hd,hdN⟩:=D.dst
    obtain⟨_,ks,hks,hR⟩:=D.r rfl
    have hrep:=pn hgb (i:=q) (by omega) (ks:=ks) (fun j k hj _ _=>.inr hj)
    obtain⟨v,_,hv⟩:=hR E b.eval w' (gF b) hrep
    have hdd:cz l.toArray q=some d:=by rw[hdq];exact hd
    refine⟨b.put (some d) v,⟨by simpa[Act.put]using hag.j9,by simpa[Act.put]using hag.size,fun k hk=>?_⟩,(tL hF hfr hgb (Ext.refl _) (by omega) hdd hdN hpq hv).mono fun j _ h=>?_⟩
    ·have hne:k≠d:=fun e=>hk q (by omega) hfq hb (by rw[hdd,e])
     rw[jw b (by rw[hgb.size];exact hdN),if_neg hne]
     exact hag.tmp k hk
    ·rcases h with h|h
     ·exact .inl (.inl h)
     ·by_cases e:j=q
      ·exact .inr e
      ·exact .inl (.inr (by omega))
 obtain⟨b,h1,h2⟩:=key m (Nat.le_refl _)
 exact⟨b,h1,h2.mono fun j hj _=>.inr hj⟩
theorem Ef(hml:m≤l.length)(hc:jB P N l.toArray σ (l.take m) ps fl t){a:Act}{w w':World}(hg:lA N m l ps E t w (fun _=>True) a w'):Iu P l.toArray m fl a:=fun j o d hj hf ho hd w''=>by
 obtain⟨hl1,hl2,hdat⟩:=hc.data
 have hlen:(l.take m).length=m:=by simp;omega
 have hoj:(l.take m)[j]? =some o:=by rw[List.getElem?_take,if_pos hj];simpa using ho
 have hpj:ps[j]? =some (ps[j]'(by omega)):=by simp
 have hff:fl[j]? =some true:=by
  have:j<fl.length:=by rw[hl2,hlen];omega
  simp[this]at hf ⊢;exact hf
 have D:=hdat j _ _ _ hoj hpj hff
 obtain⟨hfix,ks,hks,hR⟩:=D.r rfl
 have hrep:=pn hg (i:=j) (by omega) (ks:=ks) (fun _ _ _ _ _=>trivial)
 obtain⟨v,hrun,hv⟩:=hR E a.eval w' (gF a) hrep
 have hdd:cz l.toArray j=some d:=by rw[(jk hoj).2.2];exact hd
 have:=hfix.Lb E w' _ _ (hg.lM j hj trivial d _ hdd hpj) hv
 rw[this];exact hrun w''
end
theorem dL{id:Nat}{l:List Oper}{t t':cg}{σ:cc}{Q:Exit→St→Prop}(m f:Nat){fl:List Bool}{ps:List PV}(hm:P.follows .mixedOrders=true)(hc:jB P N l.toArray σ (l.take m) ps fl t)(hB:(HS l.toArray f m fl&&Region.noSelect l.toArray)=true)(hml:Nat.ble m l.length=true)
  (hfr:((l.take m).all fun o=>o.dst.all fun d=>(look d t).isNone)=true) (hsub:Sub (nh (l.take m) ps t) t') (hw:WR P N L l.toArray (l.drop m) ⟨t',σ⟩ (fun s=>Q .normal s)):W P N L (.region id l.toArray true) ⟨t,σ⟩ Q:=fun F base E₀ w₀ E a w hcm hs=>by
 simp only[Bool.and_eq_true]at hB
 have hF:=Bh hB.1
 have hmle:m≤l.length:=Nat.ble_eq.mp hml
 obtain⟨hl1,hl2,hdat⟩:=hc.data
 have hlen:(l.take m).length=m:=by simp;omega
 have hfr':∀i d,i<m→cz l.toArray i=some d→look d t=none:=fun i d hi hd=>by
  have ho:(l.take m)[i]? =some ((l.take m)[i]'(by omega)):=List.getElem?_eq_getElem (by omega)
  have:=List.all_eq_true.1 hfr _ (List.mem_of_getElem? ho)
  rw[(jk ho).2.2]at hd
  rw[hd]at this
  simpa using this
 have hdst:∀i,i<m→∃d,cz l.toArray i=some d∧d<N:=fun i hi=>by
  have ho:(l.take m)[i]? =some ((l.take m)[i]'(by omega)):=List.getElem?_eq_getElem (by omega)
  have hp:ps[i]? =some (ps[i]'(by omega)):=by simp
  have hf:fl[i]? =some (fl[i]'(by omega)):=by simp
  obtain⟨d,h1,h2⟩:=(hdat i _ _ _ ho hp hf).dst
  exact⟨d,by rw[(jk ho).2.2];exact h1,h2⟩
 have hsel:∀(i:Nat) (o:Oper),l.toArray[i]? =some o→∀cs b,o.op≠ .select cs b:=fun i o ho cs b=>Region.noSelect_spec hB.2 i o cs b ho
 have main:∀(fuel:Nat) (ls:Array Bool) (a:Act) (w':World),ls.size=l.toArray.size→(∀i,m≤i→i<l.toArray.size→ls.getD i true=false)→Down l.toArray ls→fuel=bM ls m+(l.toArray.size - m)→lA N m l ps E t w (fun j=>ls.getD j true=true) a w'→
   wpAny P .any l.toArray (fun e a' w'=>ni F base N E₀ w₀ (Q e) a' w') fuel ls a w':=by
  have tF:∀(fuel:Nat) (ls:Array Bool) (a:Act) (w':World),ls.size=l.toArray.size→(∀i,m≤i→i<l.toArray.size→ls.getD i true=false)→Down l.toArray ls→fuel=bM ls m+(l.toArray.size - m)→lA N m l ps E t w (fun j=>ls.getD j true=true) a w'→
    (∀i,i<m→fl.getD i false=false→ls.getD i true=true)→wpAny P .any l.toArray (fun e a' w'=>ni F base N E₀ w₀ (Q e) a' w') fuel ls a w':=by
   intro fuel ls a w' hsz hrest hdn hfu hg hall
   obtain⟨a₁,hag,hg1⟩:=E0 hF hmle hfr' hc hg hall
   have hsat:ee F base N ⟨t',σ⟩ E a₁ w':=by
    refine⟨hs.sat.ext hg1.ext,eF.sub (fun k p hk=>?_) hsub,hg1.j9,hg1.size⟩
    rcases lW _ _ _ k p hk with⟨j,o,h1,h2,h3⟩|h'
    ·obtain⟨hj,_,h4⟩:=jk h1
     exact hg1.lM j hj trivial k p (by rw[h4];exact h2) h3
    ·exact hg1.t0 k p h'
   have dD:=hw F base E₀ w₀ E a₁ w' (hcm.on (.ext hg1.ext) (Below.ik hg1.ext hs.sat.bl)) hsat (Dq fun a' w'=>ni F base N E₀ w₀ (Q .normal) a' w') m (fun a' w' hp=>hp) (fun j=>by simp)
   refine Dh hF hsel (fun j hj=>(hdst j hj).imp fun _ h=>h.1) (fun a w h=>h) fuel m (l.toArray.size - m) ls a a₁ w' (by have:=hF.le;omega) (Nat.le_refl _) hsz hrest (fun i h1 h2=>by omega) hall hdn hfu hag (Ef hmle hc hg1) (fun j d hj hd=>?_) (by simpa using dD)
   obtain⟨d',h1,h2⟩:=hdst j hj
   rw[hd]at h1;cases h1
   rw[hg1.size];exact h2
  intro fuel
  induction fuel with
  |zero=>
   intro ls a w' hsz hrest hdn hfu hg
   exact tF 0 ls a w' hsz hrest hdn hfu hg (fun i hi _=>dp (m:=m) (by omega) i hi)
  |succ fuel ih=>
   intro ls a w' hsz hrest hdn hfu hg
   by_cases hall:∀i,i<m→fl.getD i false=false→ls.getD i true=true
   ·exact tF (fuel+1) ls a w' hsz hrest hdn hfu hg hall
   ·have hle:=hF.le
    obtain⟨j0,hj0,hj1,hj2⟩:∃j0,j0<m∧fl.getD j0 false=false∧ls.getD j0 true=false:=by
     apply Classical.byContradiction
     intro hno
     refine hall fun i hi hf=>?_
     cases hb:ls.getD i true with
     |true=>rfl
     |false=>exact absurd ⟨i,hi,hf,hb⟩ hno
    have hf:∀b c (i:Nat),i<l.toArray.size→ls.getD i b=ls.getD i c:=fun b c i hi=>by simp only[Array.getD_eq_getD_getElem?];simp[show i<ls.size by omega]
    have hpos:0<bM ls m:=by
     rcases Nat.eq_zero_or_pos (bM ls m)with h|h
     ·rw[dp h j0 hj0]at hj2;cases hj2
     ·exact h
    obtain⟨i0,hi0,hi1,hi2⟩:=fO hpos
    have hne:i0∈Region.ready .any l.toArray ls:=cF.2 ⟨by omega,hi1,fun k hk=>by
     have:=hF.lX i0 (by omega) k hk
     rw[hf false true k (by omega)];exact hi2 k this⟩
    refine⟨fun h0=>absurd hne (by rw[h0];simp),fun i hi=>?_⟩
    obtain⟨h1,h2,h3⟩:=cF.1 hi
    have him:i<m:=by
     rcases Nat.lt_or_ge i m with h'|h'
     ·exact h'
     ·have:=eC hsz hdn hF.lX f i j0 h1 (hF.K6 i h1 h' j0 (by omega) hj1) h3
      rw[hf false true j0 (by omega),hj2]at this
      cases this
    have ho:(l.take m)[i]? =some ((l.take m)[i]'(by omega)):=List.getElem?_eq_getElem (by omega)
    obtain⟨_,hoi,hdi⟩:=jk ho
    have hp:ps[i]? =some (ps[i]'(by omega)):=by simp
    have hfi:fl[i]? =some (fl[i]'(by omega)):=by simp
    have D:=hdat i _ _ _ ho hp hfi
    obtain⟨d,hd,hdN⟩:=D.dst
    obtain⟨ks,hks,hY⟩:=D.y
    have hdd:cz l.toArray i=some d:=by rw[hdi];exact hd
    have hrep:=pn hg (i:=i) (by omega) (ks:=ks) (fun j k hj hk hjd=>by
     have hlk:k∈eB l.toArray i:=by
      unfold eB;rw[hoi];exact hks k hk
     have:=h3 j (hF.rd i him k hlk j (by omega) hjd).2
     rw[hf false true j (by omega)]at this
     exact this)
    unfold wpOp
    rw[hoi]
    have hwant:Region.wanted ((l.take m)[i]'(by omega)) (yielded l.toArray a.tmps)=true:=by unfold Region.wanted;rw[hF.ng i _ hoi]
    simp only[hwant,if_true]
    left
    refine qt (hY F base E a.eval w' (gF a) (hs.sat.ext hg.ext) hrep) fun v w'' hE hv=>?_
    rw[hd]
    have hset:∀(j:Nat) b,(ls.setIfInBounds i true).getD j b=if j=i then true else ls.getD j b:=fun j b=>by
     by_cases e:i=j
     ·subst e;simp[show i<ls.size by omega]
     ·rw[if_neg (fun h=>e h.symm),Array.getD_eq_getD_getElem?,Array.getD_eq_getD_getElem?,Array.getElem?_setIfInBounds_ne e]
    refine ih _ _ w'' (by simpa using hsz) (fun j hj hj'=>by rw[hset j true,if_neg (show ¬j=i by omega)];exact hrest j hj hj') (fun j hj hj' q hq=>?_) (by have:=fR h2 him (by omega);omega) ((tL hF hfr' hg hE him hdd hdN hp hv).mono fun j hj hjj=>?_)
    ·rw[hset]
     split
     ·rfl
     ·rw[hset]at hj
      split at hj
      ·rename_i e;subst e;exact h3 q hq
      ·exact hdn j hj hj' q hq
    ·rw[hset]at hjj
     split at hjj
     ·rename_i e;exact .inr e
     ·exact .inl hjj
 obtain⟨arr,ds⟩:=a
 refine wp_region_any hm ?_
 have hE:Ext w {w with drawn:=w.drawn+1}:=⟨rfl,rfl,rfl,Nat.le_refl _,fun _ _=>rfl⟩
 have hul:∀k,k≤l.length→bM (Array.replicate l.toArray.size false) k=k:=by
  intro k
  induction k with
  |zero=>intro _;rfl
  |succ k ih=>
   intro hk
   simp only[bM]
   rw[ih (by omega),dS _ _ (by simp;omega)]
   simp
 refine main l.toArray.size (Array.replicate l.toArray.size false) ⟨arr,ds⟩ _ (by simp) (fun i _ hi=>dS _ _ hi _) (fun i hi hi'=>?_) (by rw[hul m hmle];simp;omega) ⟨hE,hs.j9,hs.size,hs.tmp.goes (.ext hE),fun j hj hjl=>?_⟩
 ·rw[dS _ _ hi']at hi;cases hi
 ·rw[dS _ _ (by simp;omega)]at hjl;cases hjl
theorem iC{id:Nat}{l:List Oper}{y:Code}{t t':cg}{σ:cc}{Q:Exit→St→Prop}(m f:Nat){fl:List Bool}{ps:List PV}(hm:P.follows .mixedOrders=true)(hc:jB P N l.toArray σ (l.take m) ps fl t)(hB:(HS l.toArray f m fl&&Region.noSelect l.toArray)=true)(hml:Nat.ble m l.length=true)
  (hfr:((l.take m).all fun o=>o.dst.all fun d=>(look d t).isNone)=true) (hsub:Sub (nh (l.take m) ps t) t') (hw:WR P N L l.toArray (l.drop m) ⟨t',σ⟩ (fun s=>W P N L y s Q)):W P N L (.seq (.region id l.toArray true) y) ⟨t,σ⟩ Q:=aj (dL m f hm hc hB hml hfr hsub hw)
end
inductive Tr (α:Type) where
 |l
 |n (a:Tr α) (k:Nat) (v:α) (b:Tr α)
def Tr.get{α:Type}:Tr α→Nat→Option α
 | .l,_=>none
 | .n a k v b,j=>bif Nat.beq j k then some v else bif Nat.blt j k then a.get j else b.get j
inductive Tr.vw {α:Type} (R:Nat→α→Prop):Tr α→Prop
 |l:Tr.vw R .l
 |n {a b:Tr α} {k:Nat} {v:α}:Tr.vw R a→R k v→Tr.vw R b→Tr.vw R (.n a k v b)
theorem Tr.vw.get{α:Type}{R:Nat→α→Prop}{t:Tr α}(h:Tr.vw R t){j:Nat}{v:α}:t.get j=some v→R j v:=by
 induction h with
 |l=>intro h;cases h
 | @n a b k u _ hr _ iha ihb=>
  intro h
  simp only[Tr.get,Bool.cond_eq_ite]at h
  split at h
  ·rename_i he
   cases Nat.eq_of_beq_eq_true he
   cases h
   exact hr
  ·split at h
   ·exact iha h
   ·exact ihb h
structure sI where
 tk:Tr (Option Nat)
 fo:Tr Nat
 el:Tr (Nat×Nat)
 st:Tr (List (Nat×Nat)×List Value)
 sl:Tr (Nat×Nat×List Value)
 rk:Tr (Nat×Nat×Nat×List Value)
 zk:Tr (List Value)
 bk:Tr Unit
 pk:Tr Unit
 ar:Tr (Nat×Nat)
 en:Tr Unit
structure sI.Ok (P:Program) (Φ:sI):Prop where
 tk:Φ.tk.vw fun k v=>sM P k=some v
 fo:Φ.fo.vw fun k v=>kg P (k / 100) (k % 100)=some v
 el:Φ.el.vw fun k v=>xZ P k=some v
 st:Φ.st.vw fun k v=>Ks P k=some v
 sl:Φ.sl.vw fun k v=>H4 P k=some v
 rk:Φ.rk.vw fun k v=>xD P k=some v
 zk:Φ.zk.vw fun k v=>xE P k=some v
 bk:Φ.bk.vw fun k _=>tU P k=true
 pk:Φ.pk.vw fun k _=>pK P k=true
 ar:Φ.ar.vw fun k v=>J2 P k=some v
 en:Φ.en.vw fun k _=>enters P k=true
class Has (P:Program) (Φ:outParam sI):Prop where
 ok:sI.Ok P Φ
def force{α:Type}:List α→Option (List α)
 | []=>some []
 |x::l=>match force l with
  |some r=>some (x::r)
  |none=>none
theorem force_eq{α:Type}:∀ {l r:List α},force l=some r→l=r
 | [],r,h=>by cases h;rfl
 |x::l,r,h=>by
  simp only[force]at h
  split at h
  ·rename_i r' hr
   cases h
   rw[force_eq hr]
  ·cases h
def HJ(xs:List PV)(k:Nat):Nat→Option (List PV)
 |0=>some []
 |n+1=>match xs[k]? with
  |some p=>match HJ xs (k+1) n with
   |some r=>some (p::r)
   |none=>none
  |none=>none
theorem zX{xs:List PV}:∀ {n k:Nat} {ys:List PV},HJ xs k n=some ys→(xs.drop k).take n=ys∧ys.length=n
 |0,k,ys,h=>by cases h;simp
 |n+1,k,ys,h=>by
  simp only[HJ]at h
  split at h
  ·rename_i p hp
   split at h
   ·rename_i r hr
    cases h
    obtain⟨h1,h2⟩:=zX hr
    have hlt:=(List.getElem?_eq_some_iff.1 hp).1
    have hx:xs[k]=p:=by rw[List.getElem?_eq_getElem hlt]at hp;exact Option.some.inj hp
    refine⟨?_,by simp[h2]⟩
    rw[List.drop_eq_getElem_cons hlt,List.take_succ_cons,h1,hx]
   ·cases h
  ·cases h
def part(xs:List PV)(k n:Nat):Option PV:=bif Nat.beq k 0&&Nat.beq xs.length n then some (.agg xs) else match HJ xs k n with
 |some ys=>some (.agg ys)
 |none=>none
def JE(op:BinOp)(a b:Int):Option PV:=
 match op with
 | .lss=>some (.raw (.bool (decide (a<b))))
 | .leq=>some (.raw (.bool (decide (a≤b))))
 | .gtr=>some (.raw (.bool (decide (b<a))))
 | .geq=>some (.raw (.bool (decide (b≤a))))
 | .eql=>some (.raw (.bool (decide (a=b))))
 | .neq=>some (.raw (.bool (decide (a≠b))))
 |_=>none
def Jq(Φ:sI)(op:BinOp)(ty:TypeId):PV→PV→Option PV
 | .raw (.int .i64 a),.raw (.int .i64 b)=>JE op a b
 | .raw (.bool a),.raw (.bool b)=>match Φ.bk.get ty with
  |some _=>match op with
   | .eql=>some (.raw (.bool (a==b)))
   | .neq=>some (.raw (.bool (!(a==b))))
   |_=>none
  |none=>none
 | .ptr _ _,.raw (.pointer none)=>match Φ.pk.get ty with
  |some _=>match op with
   | .eql=>some (.raw (.bool false))
   | .neq=>some (.raw (.bool true))
   |_=>none
  |none=>none
 | .bc _ _,.raw (.pointer none)=>match Φ.pk.get ty with
  |some _=>match op with
   | .eql=>some (.raw (.bool false))
   |_=>none
  |none=>none
 |_,_=>none
def ga(Φ:sI)(σ:cc)(t:cg):Op→Option PV
  | .move x=>aF t x
  | .assign x=>aF t x
  | .pick c a b=>match aF t c with
    |some (.raw (.bool true))=>aF t a
    |some (.raw (.bool false))=>aF t b
    |_=>none
  | .unOp .not _ x=>match aF t x with
    |some (.raw (.bool q))=>some (.raw (.bool (!q)))
    |_=>none
  | .binOp op ty x y _=>match aF t x with
    |some p=>match aF t y with
      |some q=>Jq Φ op ty p q
      |none=>none
    |none=>none
  | .nilCheck x=>match aF t x with
    |some (.bc xs k)=>some (.bc xs k)
    |some (.ptr i k)=>some (.ptr i k)
    |some (.func f c)=>some (.func f c)
    |_=>none
  | .fieldAddr s x f=>bif Nat.blt f 100 then match Φ.fo.get (s*100+f)with
      |some off=>match aF t x with
        |some (.bc xs k)=>some (.bc xs (k+off))
        |some (.ptr i k)=>some (.ptr i (k+off))
        |_=>none
      |none=>none
    else none
  | .load ty x=>match Φ.tk.get ty with
    |some none=>match aF t x with
      |some (.bc xs k)=>xs[k]?
      |some (.ptr i k)=>match σ[i]? with
        |some (some blk)=>blk.xs[k]?
        |_=>none
      |_=>none
    |some (some n)=>match aF t x with
      |some (.bc xs k)=>part xs k n
      |some (.ptr i k)=>match σ[i]? with
        |some (some blk)=>part blk.xs k n
        |_=>none
      |_=>none
    |none=>none
  | .extract x k=>match aF t x with
    |some (.tuple xs)=>xs[k]?
    |_=>none
  | .makeFunc fn fs cs=>match fn with
    | .func f=>match fs.toList with
      | []=>match ir t cs.toList with
        |some xs=>some (.func f xs)
        |none=>none
      |_=>none
    |_=>none
  | .box _ x=>match aF t x with
    |some p=>match mr p with
      |some xs=>some (.bc xs 0)
      |none=>none
    |none=>none
  | .build ty parts=>match Φ.st.get ty with
    |some (pl,z)=>match iB t parts.toList with
      |some ps=>match kE (pl[·]?) (z.map .raw) ps with
        |some xs=>match force xs with
          |some ys=>some (.agg ys)
          |none=>none
        |none=>none
      |none=>none
    |none=>none
  | .buildSlice ty n parts=>match Φ.sl.get ty with
    | some (_, s, z) => bif Nat.blt 0 n && Nat.ble (n * s) 16777216 then match iB t parts.toList with
        |some ps=>match kE (fun i=>some (i*s,s)) (dP (z.map .raw) n) ps with
          |some xs=>match force xs with
            |some ys=>some (.slice n ys)
            |none=>none
          |none=>none
        |none=>none
      else bif Nat.beq n 0&&Nat.beq parts.size 0 then some (.slice 0 []) else none
    |none=>none
  | .call c=>match c.callee with
    | .builtin .len=>match c.args.toList,c.argTypes.toList with
      | [x],[ty]=>match Φ.el.get ty with
        |some _=>match aF t x with
          |some (.slice n _)=>some (.raw (.int .i64 n))
          |some (.raw (.slice none 0 0))=>some (.raw (.int .i64 0))
          |some (.own m)=>match σ[m]? with
            |some (some (.row _ _ n _))=>some (.raw (.int .i64 n))
            |_=>none
          |_=>none
        |none=>none
      |_,_=>none
    |_=>none
  |_=>none
section
variable {P:Program} {σ:cc} {t:cg} {o:Oper} {Φ:sI}
theorem uZ{xs:List PV}{k n:Nat}{p:PV}(h:part xs k n=some p):∃ys,p= .agg ys∧(xs.drop k).take n=ys∧ys.length=n:=by
 unfold part at h
 rw[Bool.cond_eq_ite]at h
 split at h
 ·rename_i hc
  simp only[Bool.and_eq_true]at hc
  have h1:=Nat.eq_of_beq_eq_true hc.1
  have h2:=Nat.eq_of_beq_eq_true hc.2
  subst h1
  cases h
  exact⟨xs,rfl,by rw[List.drop_zero,←h2,List.take_length],h2⟩
 ·split at h
  ·rename_i ys hy
   cases h
   exact⟨ys,rfl,zX hy⟩
  ·cases h
theorem Jp(hΦ:Φ.Ok P){op:BinOp}{x y:Operand}{ty tz:TypeId}{p q r:PV}(ho:o.op= .binOp op ty x y tz)(hx:aF t x=some p)(hy:aF t y=some q)(h:Jq Φ op ty p q=some r):bA P σ t o r:=by
 unfold Jq at h
 split at h
 ·unfold JE at h
  split at h<;>first|(cases h;done)|skip
  ·cases h;exact JW ho hx hy rfl
  ·cases h;exact JV ho hx hy rfl
  ·cases h;exact JX ho hx hy rfl
  ·cases h;exact Au ho hx hy rfl
  ·cases h;exact EU ho hx hy rfl
  ·cases h;exact JK ho hx hy rfl
 ·split at h
  ·rename_i u hu
   have hb:=hΦ.bk.get hu
   split at h
   ·cases h;exact B8 ho hb hx hy rfl
   ·cases h;exact CP ho hb hx hy rfl
   ·cases h
  ·cases h
 ·split at h
  ·rename_i u hu
   have hb:=hΦ.pk.get hu
   split at h
   ·cases h;exact rG ho hb hx hy
   ·cases h;exact DP ho hb hx hy
   ·cases h
  ·cases h
 ·split at h
  ·rename_i u hu
   have hb:=hΦ.pk.get hu
   split at h
   ·cases h;exact Dz ho hb hx hy
   ·cases h
  ·cases h
 ·cases h
theorem u4{α:Type}{a:Array α}{l:List α}(h:a.toList=l):a=l.toArray:=by rw[←h]
theorem ER(s f:Nat):(s*100+f) / 100=s+f / 100∧(s*100+f) % 100=f % 100:=by omega
theorem mv(hΦ:Φ.Ok P){op:Op}{p:PV}(ho:o.op=op)(h:ga Φ σ t op=some p):bA P σ t o p:=by
 unfold ga at h
 split at h
 ·exact fV ho h
 ·exact eO ho h
 ·split at h
  ·rename_i hc;exact Hk ho hc h
  ·rename_i hc;exact HK ho hc h
  ·cases h
 ·split at h
  ·rename_i hc;cases h;exact J9 ho hc
  ·cases h
 ·split at h
  ·rename_i p' hp
   split at h
   ·rename_i q' hq;exact Jp hΦ ho hp hq h
   ·cases h
  ·cases h
 ·split at h
  ·rename_i hc;cases h;exact Em ho hc
  ·rename_i hc;cases h;exact jF ho hc
  ·rename_i hc;cases h;exact AY ho hc
  ·cases h
 ·rename_i s x f
  rw[Bool.cond_eq_ite]at h
  split at h
  ·rename_i hf100
   have hf100:=Nat.blt_eq.mp hf100
   split at h
   ·rename_i off hof
    have hf:=hΦ.fo.get hof
    obtain⟨e1,e2⟩:=ER s f
    rw[e1,e2,Nat.div_eq_of_lt hf100,Nat.mod_eq_of_lt hf100,Nat.add_zero]at hf
    split at h
    ·rename_i hc;cases h;exact yW ho hf hc
    ·rename_i hc;cases h;exact ym ho hf hc
    ·cases h
   ·cases h
  ·cases h
 ·split at h
  ·rename_i htk
   have hk:=hΦ.tk.get htk
   split at h
   ·rename_i hc;exact tw ho hk hc h
   ·rename_i hc
    split at h
    ·rename_i hi;exact aR ho hk hc hi h
    ·cases h
   ·cases h
  ·rename_i n htk
   have hk:=hΦ.tk.get htk
   split at h
   ·rename_i hc
    obtain⟨ys,rfl,h1,h2⟩:=uZ h
    exact iY ho hk hc h1 h2
   ·rename_i hc
    split at h
    ·rename_i hi
     obtain⟨ys,rfl,h1,h2⟩:=uZ h
     exact fc ho hk hc hi h1 h2
    ·cases h
   ·cases h
  ·cases h
 ·split at h
  ·rename_i hc;exact Cs ho hc h
  ·cases h
 ·split at h
  ·split at h
   ·rename_i hfs
    split at h
    ·rename_i hc
     cases h
     rw[u4 hfs]at ho
     exact ed ho hc
    ·cases h
   ·cases h
  ·cases h
 ·split at h
  ·rename_i hc
   split at h
   ·rename_i hx;cases h;exact C9 ho hc hx
   ·cases h
  ·cases h
 ·split at h
  ·rename_i hst
   have hk:=hΦ.st.get hst
   split at h
   ·rename_i hps
    split at h
    ·rename_i hf
     split at h
     ·rename_i hfo
      cases h
      cases force_eq hfo
      exact iW ho hk hps hf
     ·cases h
    ·cases h
   ·cases h
  ·cases h
 ·split at h
  ·rename_i hsl
   have hk:=hΦ.sl.get hsl
   rw[Bool.cond_eq_ite]at h
   split at h
   ·rename_i hn
    simp only[Bool.and_eq_true,Nat.blt_eq,Nat.ble_eq]at hn
    split at h
    ·rename_i hps
     split at h
     ·rename_i hf
      split at h
      ·rename_i hfo
       cases h
       cases force_eq hfo
       exact aU ho hk hn hps hf
      ·cases h
     ·cases h
    ·cases h
   ·rw[Bool.cond_eq_ite]at h
    split at h
    ·rename_i hn
     simp only[Bool.and_eq_true]at hn
     have h1:=Nat.eq_of_beq_eq_true hn.1
     have h2:=Nat.eq_of_beq_eq_true hn.2
     subst h1
     have h3:=Array.eq_empty_of_size_eq_zero h2
     rw[h3]at ho
     cases h
     exact uI ho hk
    ·cases h
  ·cases h
 ·rename_i c
  split at h
  ·rename_i hcal
   split at h
   ·rename_i x ty hax hat
    split at h
    ·rename_i hel
     have hk:=hΦ.el.get hel
     have ho':o.op= .call {callee:=.builtin .len,args:= #[x],argTypes:= #[ty]}:=by
      rw[ho]
      obtain⟨c1,c2,c3⟩:=c
      simp only at hcal hax hat
      rw[hcal,u4 hax,u4 hat]
     split at h
     ·rename_i hc;cases h;exact yO ho' hk hc
     ·rename_i hc;cases h;exact rW ho' hk hc
     ·rename_i hc
      split at h
      ·rename_i hi;cases h;exact ov ho' hk hc hi
      ·cases h
     ·cases h
    ·cases h
   ·cases h
  ·cases h
 ·cases h
theorem qb{t':cg}:∀ {l:List Operand},(∀x∈l,aF t' x=aF t x)→ir t' l=ir t l
 | [],_=>rfl
 |x::l,h=>by simp only[ir,h x (List.mem_cons_self ..),qb (fun y hy=>h y (List.mem_cons_of_mem _ hy))]
theorem lV{t':cg}:∀ {l:List (Nat×Operand)},(∀x∈l,aF t' x.2=aF t x.2)→iB t' l=iB t l
 | [],_=>rfl
 |(i,x)::l,h=>by simp only[iB,h (i,x) (List.mem_cons_self ..),lV (fun y hy=>h y (List.mem_cons_of_mem _ hy))]
theorem xu{t':cg}(op:Op)(h:∀x∈op.operands,aF t' x=aF t x):ga Φ σ t' op=ga Φ σ t op:=by
 cases op with
 |move x=>exact h x (by simp[Op.operands])
 |assign x=>exact h x (by simp[Op.operands])
 |pick c a b=>simp only[ga,h c (by simp[Op.operands]),h a (by simp[Op.operands]),h b (by simp[Op.operands])]
 |unOp u ty x=>cases u<;>simp only[ga,h x (by simp[Op.operands])]
 |binOp b ty x y tz=>simp only[ga,h x (by simp[Op.operands]),h y (by simp[Op.operands])]
 |nilCheck x=>simp only[ga,h x (by simp[Op.operands])]
 |fieldAddr s x f=>simp only[ga,h x (by simp[Op.operands])]
 |load ty x=>simp only[ga,h x (by simp[Op.operands])]
 |extract x k=>simp only[ga,h x (by simp[Op.operands])]
 |box ty x=>simp only[ga,h x (by simp[Op.operands])]
 |makeFunc fn fs cs=>
  have:ir t' cs.toList=ir t cs.toList:=qb fun x hx=>h x (by simp only[Op.operands];exact Array.mem_append_right _ (by simpa using hx))
  simp only[ga,this]
 |build ty ps=>
  have:iB t' ps.toList=iB t ps.toList:=lV fun x hx=>h x.2 (by simp only[Op.operands,List.mem_toArray,List.mem_map];exact⟨x,hx,rfl⟩)
  simp only[ga,this]
 |buildSlice ty n ps=>
  have:iB t' ps.toList=iB t ps.toList:=lV fun x hx=>h x.2 (by simp only[Op.operands,List.mem_toArray,List.mem_map];exact⟨x,hx,rfl⟩)
  simp only[ga,this]
 |call c=>
  simp only[ga]
  split
  ·split
   ·rename_i x ty hax _
    rw[h x (by simp only[Op.operands,Call.operands];exact Array.mem_append_right _ (by rw[u4 hax];simp))]
   ·rfl
  ·rfl
 |_=>rfl
theorem xi{ks:List Nat}{k:Nat}(h:k∈ks):look k (gN t ks)=look k t:=by
 cases e:look k (gN t ks)with
 |some p=>exact((ja ks k p e).2).symm
 |none=>
  induction ks with
  |nil=>cases h
  |cons j ks ih=>
   simp only[gN]at e
   by_cases hjk:k=j
   ·subst hjk
    cases hl:look k t with
    |none=>rfl
    |some p=>rw[hl]at e;simp[look,Nat.beq_refl]at e
   ·have hm:k∈ks:=by cases h with|head=>exact absurd rfl hjk|tail _ hh=>exact hh
    split at e
    ·have hb:Nat.beq k j=false:=by rw[Bool.eq_false_iff];exact fun hh=>hjk (Nat.eq_of_beq_eq_true hh)
     simp only[look,hb,cond_false]at e
     exact ih hm e
    ·exact ih hm e
theorem vB{ks:List Nat}{x:Operand}(h:∀k,x= .tmp k→k∈ks):aF (gN t ks) x=aF t x:=by
 cases x with
 |tmp k=>exact xi (h k rfl)
 |_=>rfl
def Ff(Φ:sI)(N:Nat)(ops:Array Oper)(σ:cc)(t:cg)(o:Oper):Option (Nat×PV):=
 match o.dst with
 |some d=>bif Nat.blt d N then match fm ops t o with
   |some true=>match ga Φ σ t o.op with
    |some p=>some (d,p)
    |none=>none
   |some false=>some (d,.raw undef)
   |none=>none
  else none
 |none=>none
def Eg(Φ:sI)(N:Nat)(ops:Array Oper)(σ:cc):Nat→List Oper→cg→Option (List Oper×cg)
 |0,l,t=>some (l,t)
 |_+1,[],_=>none
 |n+1,o::l,t=>match Ff Φ N ops σ t o with
  |some x=>Eg Φ N ops σ n l (x::t)
  |none=>none
variable {N L:Nat} {ops:Array Oper}
theorem fA.a[hP:Has P Φ](n:Nat){l l':List Oper}{u t':cg}(h:Eg Φ N ops σ n l t=some (l',u))(k:fA P N ops σ l' u t'):fA P N ops σ l t t':=by
 induction n generalizing l t with
 |zero=>cases h;exact k
 |succ n ih=>
  cases l with
  |nil=>cases h
  |cons o l=>
   simp only[Eg]at h
   split at h
   ·rename_i x hx
    have kk:=ih h
    unfold Ff at hx
    split at hx
    ·rename_i d hd
     rw[Bool.cond_eq_ite]at hx
     split at hx
     ·rename_i hN
      split at hx
      ·rename_i hw
       split at hx
       ·rename_i p hp
        cases hx
        exact .val (mv hP.ok rfl hp) hd hw hN kk
       ·cases hx
      ·rename_i hw
       cases hx
       exact .skip hd hw hN kk
      ·cases hx
     ·cases hx
    ·cases hx
   ·cases h
theorem eh.a[hP:Has P Φ](n:Nat){l l':List Oper}{u t':cg}(h:Eg Φ N ops σ n l t=some (l',u))(k:eh P N ops σ l' u t'):eh P N ops σ l t t':=by
 induction n generalizing l t with
 |zero=>cases h;exact k
 |succ n ih=>
  cases l with
  |nil=>cases h
  |cons o l=>
   simp only[Eg]at h
   split at h
   ·rename_i x hx
    have kk:=ih h
    unfold Ff at hx
    split at hx
    ·rename_i d hd
     rw[Bool.cond_eq_ite]at hx
     split at hx
     ·rename_i hN
      split at hx
      ·rename_i hw
       split at hx
       ·rename_i p hp
        cases hx
        refine .val (o.looksAt ops) (by simp) (mv hP.ok rfl (op:=o.op) ?_) hd hw hN kk
        rw[xu,hp]
        intro x hx
        refine vB fun k hk=>?_
        subst hk
        exact List.mem_append_left _ (List.mem_filterMap.2 ⟨.tmp k,by simpa using hx,rfl⟩)
       ·cases hx
      ·rename_i hw
       cases hx
       exact .skip hd hw hN kk
      ·cases hx
     ·cases hx
    ·cases hx
   ·cases h
def dk(N:Nat)(ops:Array Oper)(t:cg)(o:Oper):Option Nat:=
 match o.dst with
 |some d=>bif Nat.blt d N then match fm ops t o with
   |some true=>some d
   |_=>none
  else none
 |none=>none
theorem fi{d:Nat}(h:dk N ops t o=some d):o.dst=some d∧fm ops t o=some true∧Nat.blt d N=true:=by
 unfold dk at h
 split at h
 ·rename_i d' hd
  rw[Bool.cond_eq_ite]at h
  split at h
  ·rename_i hN
   split at h
   ·rename_i hw;cases h;exact⟨hd,hw,hN⟩
   ·cases h
  ·cases h
 ·cases h
theorem fA.v{rest:List Oper}{t':cg}{d:Nat}{p:PV}(hy:bA P σ t o p)(h:dk N ops t o=some d)(k:fA P N ops σ rest ((d,p)::t) t'):fA P N ops σ (o::rest) t t':=.val hy (fi h).1 (fi h).2.1 (fi h).2.2 k
theorem eh.v{rest:List Oper}{t':cg}{d:Nat}{p:PV}(ks:List Nat)(hy:bA P σ (gN t ks) o p)(hk:(ks.all fun k=>(o.looksAt ops).contains k)=true)(h:dk N ops t o=some d)(k:eh P N ops σ rest ((d,p)::t) t'):eh P N ops σ (o::rest) t t':=.val ks hk hy (fi h).1 (fi h).2.1 (fi h).2.2 k
theorem bw{rest:List Oper}{K:St→Prop}{d:Nat}{p:PV}(hy:bA P σ t o p)(h:dk N ops t o=some d)(k:WR P N L ops rest ⟨(d,p)::t,σ⟩ K):WR P N L ops (o::rest) ⟨t,σ⟩ K:=bJ hy (fi h).1 (fi h).2.1 (fi h).2.2 k
theorem b7{rest:List Oper}{σ':cc}{K:St→Prop}{d:Nat}{p:PV}(hy:cj P σ t o p σ')(h:dk N ops t o=some d)(k:WR P N L ops rest ⟨(d,p)::t,σ'⟩ K):WR P N L ops (o::rest) ⟨t,σ⟩ K:=dH hy (fi h).1 (fi h).2.1 (fi h).2.2 k
def iQ(t:cg):List Nat→Option cg
 | []=>some []
 |k::ks=>match look k t with
  |some p=>match iQ t ks with
   |some r=>some ((k,p)::r)
   |none=>none
  |none=>none
theorem aY:∀ {ks:List Nat} {u:cg},iQ t ks=some u→Sub t u
 | [],u,h=>by cases h;exact Sub.nil _
 |k::ks,u,h=>by
  simp only[iQ]at h
  split at h
  ·rename_i p hp
   split at h
   ·rename_i r hr
    cases h
    exact .cons hp (aY hr)
   ·cases h
  ·cases h
theorem fA.k(ks:List Nat){u:cg}(h:iQ t ks=some u):fA P N ops σ [] t u:=.nil (aY h)
theorem eh.k(ks:List Nat){u:cg}(h:iQ t ks=some u):eh P N ops σ [] t u:=.nil (aY h)
theorem eS{c:Code}{Q:Exit→St→Prop}(ks:List Nat){u:cg}(h:iQ t ks=some u)(k:W P N L c ⟨u,σ⟩ Q):W P N L c ⟨t,σ⟩ Q:=lB (aY h) k
theorem aG{K:St→Prop}(ks:List Nat){u:cg}(h:iQ t ks=some u)(k:K ⟨u,σ⟩):WR P N L ops [] ⟨t,σ⟩ K:=yQ (aY h) (bn k)
def FN:cc→Option Nat
 | []=>some 0
 |_::l=>match FN l with
  |some n=>some (n+1)
  |none=>none
theorem zZ:∀ {s:cc} {n:Nat},FN s=some n→s.length=n
 | [],n,h=>by cases h;rfl
 |_::l,n,h=>by
  simp only[FN]at h
  split at h
  ·rename_i m hm;cases h;simp[zZ hm]
  ·cases h
def HF:PV→Bool
 | .raw (.int _ _)=>true
 | .raw (.bool _)=>true
 | .raw (.string _)=>true
 | .raw (.slice _ _ _)=>true
 | .raw (.pointer _)=>true
 | .slice _ _=>true
 | .bc _ _=>true
 | .func _ _=>true
 | .ptr _ _=>true
 | .own _=>true
 |_=>false
theorem Di{p:PV}(h:HF p=true):gu p:=by
 unfold HF at h
 split at h<;>first|infer_instance|cases h
theorem Dp{xs:List PV}(h:xs.all HF=true):dz xs:=⟨fun i u hu=>Di (List.all_eq_true.1 h u (List.mem_of_getElem? hu))⟩
def xL(Φ:sI)(t:cg)(σ:cc):Op→Option (PV×cc)
  | .alloc ty=>match Φ.zk.get ty with
    |some z=>match force (z.map PV.raw)with
      |some z'=>match FN σ with
        |some n=>match force (σ++[some (.cells ty z')])with
          |some s=>some (.ptr n 0,s)
          |none=>none
        |none=>none
      |none=>none
    |none=>none
  | .store ty x y=>match Φ.tk.get ty with
    | some k => match aF t x with
      | some (.ptr i off) => match aF t y with
        | some p => match σ[i]? with
          | some (some blk) => match mr p with
            |some ys=>match force ys with
              |some ys=>bif Nat.beq ys.length (k.getD 1)&&(Nat.ble (off+ys.length) blk.xs.length&&ys.all HF) then match force (over blk.xs off ys)with
                  |some zs=>match force (σ.set i (some (blk.p7 zs)))with
                    |some s=>some (.raw undef,s)
                    |none=>none
                  |none=>none
                else none
              |none=>none
            |none=>none
          |_=>none
        |none=>none
      |_=>none
    |none=>none
  |_=>none
theorem qY(hΦ : Φ.Ok P){op : Op}{p : PV}{σ' : cc}(ho : o.op = op)(h : xL Φ t σ op = some (p, σ')) : cj P σ t o p σ' := by
  unfold xL at h
  split at h
  · split at h
    · rename_i hz
      split at h
      · rename_i hz'
        cases force_eq hz'
        split at h
        · rename_i hl
          cases zZ hl
          split at h
          · rename_i hs
            cases force_eq hs
            cases h
            exact mV ho (hΦ.zk.get hz)
          · cases h
        · cases h
      · cases h
    · cases h
  · split at h
    · rename_i hk
      split at h
      · rename_i hx
        split at h
        · rename_i hy
          split at h
          · rename_i hi
            split at h
            · rename_i hc
              split at h
              · rename_i hf
                cases force_eq hf
                rw[Bool.cond_eq_ite]at h
                split at h
                · rename_i hb
                  simp only[Bool.and_eq_true,Nat.ble_eq]at hb
                  have h1:=Nat.eq_of_beq_eq_true hb.1
                  haveI:=Dp hb.2.2
                  split at h
                  · rename_i hz
                    cases force_eq hz
                    split at h
                    · rename_i hs
                      cases force_eq hs
                      cases h
                      exact mG ho (hΦ.tk.get hk) hx hy hc h1 hi hb.2.1
                    · cases h
                  · cases h
                · cases h
              · cases h
            · cases h
          · cases h
        · cases h
      · cases h
    · cases h
  · cases h
def Ia(Φ:sI)(N:Nat)(ops:Array Oper)(t:cg)(σ:cc)(o:Oper):Option (cg×cc):=
 match fm ops t o with
 |some true=>match o.dst with
  |some d=>bif Nat.blt d N then match ga Φ σ t o.op with
    |some p=>some ((d,p)::t,σ)
    |none=>match xL Φ t σ o.op with
     |some (p,s)=>some ((d,p)::t,s)
     |none=>none
   else none
  |none=>match xL Φ t σ o.op with
   |some (_,s)=>some (t,s)
   |none=>none
 |some false=>match o.dst with
  |some d=>bif Nat.blt d N then some ((d,.raw undef)::t,σ) else none
  |none=>none
 |none=>none
def Iy(Φ:sI)(N:Nat)(ops:Array Oper):Nat→List Oper→cg→cc→Option (List Oper×cg×cc)
 |0,l,t,σ=>some (l,t,σ)
 |_+1,[],_,_=>none
 |n+1,o::l,t,σ=>match Ia Φ N ops t σ o with
  |some (t',σ')=>Iy Φ N ops n l t' σ'
  |none=>none
theorem av[hP:Has P Φ](n:Nat){l l':List Oper}{u:cg}{σ':cc}{K:St→Prop}(h:Iy Φ N ops n l t σ=some (l',u,σ'))(k:WR P N L ops l' ⟨u,σ'⟩ K):WR P N L ops l ⟨t,σ⟩ K:=by
 induction n generalizing l t σ with
 |zero=>cases h;exact k
 |succ n ih=>
  cases l with
  |nil=>cases h
  |cons o l=>
   simp only[Iy]at h
   split at h
   ·rename_i t' s' hx
    have kk:=ih h
    unfold Ia at hx
    split at hx
    ·rename_i hw
     split at hx
     ·rename_i d hd
      rw[Bool.cond_eq_ite]at hx
      split at hx
      ·rename_i hN
       split at hx
       ·rename_i p hp
        cases hx
        exact bJ (mv hP.ok rfl hp) hd hw hN kk
       ·split at hx
        ·rename_i hs
         cases hx
         exact dH (qY hP.ok rfl hs) hd hw hN kk
        ·cases hx
      ·cases hx
     ·rename_i hd
      split at hx
      ·rename_i hs
       cases hx
       exact bb (qY hP.ok rfl hs) hd hw kk
      ·cases hx
    ·rename_i hw
     split at hx
     ·rename_i d hd
      rw[Bool.cond_eq_ite]at hx
      split at hx
      ·rename_i hN
       cases hx
       exact AF hd hw hN kk
      ·cases hx
     ·cases hx
    ·cases hx
   ·cases h
def oz(Φ:sI)(t:cg):Op→Option (Nat×List PV)
  | .call c=>match c.callee with
    | .value x=>match aF t x with
      | some (.func f cap) => match Φ.en.get f with
        |some _=>match ir t c.args.toList with
          |some ps=>match cap with
            | []=>some (f,ps)
            |q::cap=>match force (ps++(q::cap))with
              |some qs=>some (f,qs)
              |none=>none
          |none=>none
        |none=>none
      |_=>none
    |_=>none
  |_=>none
theorem ll(hΦ:Φ.Ok P){op:Op}{f:Nat}{ps:List PV}(h:oz Φ t op=some (f,ps)):∃x args ats cap qs,op= .call {callee:=.value x,args:=args,argTypes:=ats}∧enters P f=true∧aF t x=some (.func f cap)∧ir t args.toList=some qs∧qs++cap=ps:=by
 unfold oz at h
 split at h
 ·rename_i c
  obtain⟨c1,c2,c3⟩:=c
  split at h
  ·rename_i x hx
   simp only at hx
   subst hx
   split at h
   ·rename_i hf
    split at h
    ·rename_i hen
     split at h
     ·rename_i qs hq
      split at h
      ·cases h;exact⟨_,_,_,_,_,rfl,hΦ.en.get hen,hf,hq,by simp⟩
      ·split at h
       ·rename_i hfo
        cases h;exact⟨_,_,_,_,_,rfl,hΦ.en.get hen,hf,hq,force_eq hfo⟩
       ·cases h
     ·cases h
    ·cases h
   ·cases h
  ·cases h
 ·cases h
theorem dX[hP:Has P Φ]{f:Nat}{ps:List PV}{r:PV}(h:oz Φ t o.op=some (f,ps))(hc:Can P f ps (· =r))[hp:aL ps]:bA P σ t o r:=by
 obtain⟨x,args,ats,cap,qs,ho,hen,hx,hq,rfl⟩:=ll hP.ok h
 exact qJ ho hen hx hq hc
theorem Jb[hP:Has P Φ]{f:Nat}{ps qs:List PV}{r:PV}(h:oz Φ t o.op=some (f,ps))(hq:af σ ps qs)(hc:Can P f qs (· =r))[hp:oU r]:bA P σ t o r:=by
 obtain⟨x,args,ats,cap,ps',ho,hen,hx,he,rfl⟩:=ll hP.ok h
 exact GJ ho hen hx he hq hc
theorem xe[hP:Has P Φ]{f:Nat}{ps qs:List PV}{r:PV}(h:oz Φ t o.op=some (f,ps))(hq:af [] ps qs)(hc:Can P f qs (· =r)):bA P σ t o r:=by
 obtain⟨x,args,ats,cap,ps',ho,hen,hx,he,rfl⟩:=ll hP.ok h
 exact Ht ho hen hx he hq hc
theorem fA.c[Has P Φ]{rest:List Oper}{t':cg}{d f:Nat}{ps:List PV}{r:PV}(h:oz Φ t o.op=some (f,ps))(hc:Can P f ps (· =r))(hd:dk N ops t o=some d)(k:fA P N ops σ rest ((d,r)::t) t')[aL ps]:fA P N ops σ (o::rest) t t':=.v (dX h hc) hd k
theorem fe[Has P Φ]{rest:List Oper}{K:St→Prop}{d f:Nat}{ps:List PV}{r:PV}(h:oz Φ t o.op=some (f,ps))(hc:Can P f ps (· =r))(hd:dk N ops t o=some d)(k:WR P N L ops rest ⟨(d,r)::t,σ⟩ K)[aL ps]:WR P N L ops (o::rest) ⟨t,σ⟩ K:=bw (dX h hc) hd k
theorem cM[hP:Has P Φ]{rest:List Oper}{K:St→Prop}{d f:Nat}{ps:List PV}(h:oz Φ t o.op=some (f,ps))(hd:dk N ops t o=some d)(hc:bT P f ps σ (fun r σ'=>WR P N L ops rest ⟨(d,r)::t,σ'⟩ K)):WR P N L ops (o::rest) ⟨t,σ⟩ K:=by
 obtain⟨x,args,ats,cap,ps',ho,hen,hx,he,rfl⟩:=ll hP.ok h
 exact xR ho hen hx he (fi hd).1 (fi hd).2.1 (fi hd).2.2 hc
theorem cd[hP:Has P Φ]{b q:Bool}(h:ga Φ σ t o.op=some (.raw (.bool b)))(hq:b=q):bA P σ t o (.raw (.bool q)):=by subst hq;exact mv hP.ok rfl h
def KZ(t:cg):Op→Option Int
 | .binOp op _ x y _=>match aF t x with
  |some (.raw (.int .i64 a))=>match aF t y with
   |some (.raw (.int .i64 b))=>match op with
    | .add=>some (a+b)
    | .sub=>some (a - b)
    | .mul=>some (a*b)
    |_=>none
   |_=>none
  |_=>none
 |_=>none
theorem aV{a:Int}(h:KZ t o.op=some a){c:Int}(hc:a=c:=by exact rfl)(hn:In64 c:=by unfold In64;omega):bA P σ t o (.raw (.int .i64 c)):=by
 subst hc
 unfold KZ at h
 split at h
 ·rename_i ho
  split at h
  ·rename_i hx
   split at h
   ·rename_i hy
    split at h
    ·cases h;exact Kf ho hx hy rfl hn
    ·cases h;exact JM ho hx hy rfl hn
    ·cases h;exact JY ho hx hy rfl hn
    ·cases h
   ·cases h
  ·cases h
 ·cases h
def K8(Φ:sI)(σ:cc)(t:cg):Op→Option (Int×Nat×Nat×(Nat→PV))
 | .indexAddr ty x ix=>match aF t ix with
  |some (.raw (.int _ i))=>match Φ.el.get ty with
   |some (_,s)=>match aF t x with
    |some (.slice n xs)=>some (i,n,s,fun j=>.bc xs j)
    |some (.own m)=>match σ[m]? with
     |some (some (.row _ _ n _))=>some (i,n,s,fun j=>.ptr m j)
     |_=>none
    |_=>none
   |none=>match Φ.ar.get ty with
    |some (n,s)=>match aF t x with
     |some (.bc xs off)=>some (i,n,s,fun j=>.bc xs (off+j))
     |_=>none
    |none=>none
  |_=>none
 |_=>none
theorem aM[hP:Has P Φ]{i:Int}{n s:Nat}{g:Nat→PV}(j:Nat)(h:K8 Φ σ t o.op=some (i,n,s,g))(h0:0≤i:=by omega)(h1:i<n:=by omega)(hj:i.toNat*s=j:=by omega):bA P σ t o (g j):=by
 unfold K8 at h
 split at h
 ·rename_i ho
  split at h
  ·rename_i hix
   split at h
   ·rename_i hel
    have hk:=hP.ok.el.get hel
    split at h
    ·rename_i hx;cases h;exact vk ho hk hx hix h0 h1 hj
    ·rename_i hx
     split at h
     ·rename_i hi;cases h;exact b9 ho hk hx hi hix h0 h1 hj
     ·cases h
    ·cases h
   ·split at h
    ·rename_i har
     have hk:=hP.ok.ar.get har
     split at h
     ·rename_i hx;cases h;exact np ho hk hx hix h0 h1 hj
     ·cases h
    ·cases h
  ·cases h
 ·cases h
def Kq(Φ:sI)(σ:cc)(t:cg):Op→Option (List PV×Nat×Option Nat)
 | .load ty x=>match Φ.tk.get ty with
  |some k=>match aF t x with
   |some (.bc xs o)=>some (xs,o,k)
   |some (.ptr i o)=>match σ[i]? with
    |some (some blk)=>some (blk.xs,o,k)
    |_=>none
   |_=>none
  |none=>none
 |_=>none
theorem aJ[hP:Has P Φ]{xs:List PV}{k:Nat}{p:PV}(h:Kq Φ σ t o.op=some (xs,k,none))(hp:xs[k]? =some p):bA P σ t o p:=by
 unfold Kq at h
 split at h
 ·rename_i ho
  split at h
  ·rename_i htk
   have hk:=hP.ok.tk.get htk
   split at h
   ·rename_i hx;cases h;exact tw ho hk hx hp
   ·rename_i hx
    split at h
    ·rename_i hi;cases h;exact aR ho hk hx hi hp
    ·cases h
   ·cases h
  ·cases h
 ·cases h
theorem fG[hP:Has P Φ]{xs ys:List PV}{k n:Nat}(h:Kq Φ σ t o.op=some (xs,k,some n))(hp:(xs.drop k).take n=ys)(hn:ys.length=n):bA P σ t o (.agg ys):=by
 unfold Kq at h
 split at h
 ·rename_i ho
  split at h
  ·rename_i htk
   have hk:=hP.ok.tk.get htk
   split at h
   ·rename_i hx;cases h;exact iY ho hk hx hp hn
   ·rename_i hx
    split at h
    ·rename_i hi;cases h;exact fc ho hk hx hi hp hn
    ·cases h
   ·cases h
  ·cases h
 ·cases h
def JJ(Φ:sI)(st:St):ResultVar→Option PV
 | .tmp k=>look k st.t
 | .cell k ty=>match look k st.t with
  |some (.ptr i off)=>match st.σ[i]? with
   |some (some blk)=>match Φ.tk.get ty with
    |some none=>blk.xs[off]?
    |some (some n)=>part blk.xs off n
    |none=>none
   |_=>none
  |_=>none
def ID(Φ:sI)(st:St):List ResultVar→Option (List PV)
 | []=>some []
 |r::rs=>match JJ Φ st r with
  |some p=>match ID Φ st rs with
   |some ps=>some (p::ps)
   |none=>none
  |none=>none
theorem az.of[hP:Has P Φ]{st:St}:∀ {rs:List ResultVar} {ps:List PV},ID Φ st rs=some ps→az P st rs ps
 | [],ps,h=>by cases h;exact .nil
 |r::rs,ps,h=>by
  simp only[ID]at h
  split at h
  ·rename_i p hp
   split at h
   ·rename_i ps' hps
    cases h
    refine .cons ?_ (az.of hps)
    unfold JJ at hp
    split at hp
    ·exact .tmp hp
    ·split at hp
     ·rename_i hl
      split at hp
      ·rename_i hi
       split at hp
       ·rename_i htk;exact .Ih hl hi (hP.ok.tk.get htk) hp
       ·rename_i htk
        obtain⟨ys,rfl,h1,h2⟩:=uZ hp
        exact .Ip hl hi (hP.ok.tk.get htk) h1 h2
       ·cases hp
      ·cases hp
     ·cases hp
   ·cases h
  ·cases h
def Fx:List Nat→Nat→Option Nat
 | [],_=>none
 |x::l,j=>bif Nat.beq x j then some 0 else match Fx l j with
  |some n=>some (n+1)
  |none=>none
theorem uu:∀ {fs:List Nat} {j i:Nat},Fx fs j=some i→fs[i]? =some j
 | [],_,_,h=>by cases h
 |x::l,j,i,h=>by
  simp only[Fx,Bool.cond_eq_ite]at h
  split at h
  ·rename_i he;cases h;cases Nat.eq_of_beq_eq_true he;rfl
  ·split at h
   ·rename_i n hn;cases h;simpa using uu hn
   ·cases h
theorem Ren.J3{fs:List Nat}{i j:Nat}(h:Fx fs j=some i):Ren fs (.own i) (.own j):=.own (uu h)
theorem Ren.JC{fs:List Nat}{i j k:Nat}(h:Fx fs j=some i):Ren fs (.ptr i k) (.ptr j k):=.ptr (uu h)
theorem nv.c{fs:List Nat}{t t':cg}{p p':PV}(k:Nat)(rest:nv fs t t')(h:look k t=some p:=by exact rfl)(hr:Ren fs p' p:=by first|exact Ren.pure|exact Ren.J3 rfl|exact Ren.JC rfl):nv fs t ((k,p')::t'):=.cons k h hr rest
theorem aH.c{fs:List Nat}{x y:PV}{xs ys:List PV}(rest:aH fs xs ys)(hr:Ren fs x y:=by first|exact Ren.pure|exact Ren.J3 rfl|exact Ren.JC rfl):aH fs (x::xs) (y::ys):=aH.cons hr rest
theorem aZ[hP:Has P Φ]{p:PV}(h:ga Φ σ t o.op=some p):bA P σ t o p:=mv hP.ok rfl h
theorem eu[hP:Has P Φ]{p:PV}{σ':cc}(h:xL Φ t σ o.op=some (p,σ')):cj P σ t o p σ':=qY hP.ok rfl h
def rM(N:Nat)(l:List Oper):Bool:=Region.lexB .any l.toArray&&l.all fun o=>o.dst.all fun e=>decide (e<N)
theorem ml{l:List Oper}(h:rM N l=true):Region.lexB .any l.toArray=true∧(l.all fun o=>o.dst.all fun e=>decide (e<N)&&(l.filterMap (·.dst)).contains e)=true∧((l.filterMap (·.dst)).all fun e=>decide (e<N))=true:=by
 unfold rM at h
 simp only[Bool.and_eq_true,List.all_eq_true]at h
 refine⟨h.1,List.all_eq_true.2 fun o ho=>?_,List.all_eq_true.2 fun e he=>?_⟩
 ·have h2:=h.2 o ho
  cases hd:o.dst with
  |none=>rfl
  |some e=>
   rw[hd]at h2
   simp only[Option.all_some,Bool.and_eq_true,List.contains_iff_mem,List.mem_filterMap]at h2 ⊢
   exact⟨h2,o,ho,hd⟩
 ·obtain⟨o,ho,hd⟩:=List.mem_filterMap.1 he
  have h2:=h.2 o ho
  rw[hd]at h2
  exact h2
theorem Kj{id:Nat}{l:List Oper}{t':cg}{Q:Exit→St→Prop}(hm:P.follows .mixedOrders=true)(hB:rM N l=true)(h:eh P N l.toArray σ l t t')(hq:Q .normal ⟨t',σ⟩):W P N L (.region id l.toArray true) ⟨t,σ⟩ Q:=IC _ hm (ml hB).1 (ml hB).2.1 (ml hB).2.2 h hq
theorem ef{id:Nat}{l:List Oper}{y:Code}{t':cg}{Q:Exit→St→Prop}(hm:P.follows .mixedOrders=true)(hB:rM N l=true)(h:eh P N l.toArray σ l t t')(hq:W P N L y ⟨t',σ⟩ Q):W P N L (.seq (.region id l.toArray true) y) ⟨t,σ⟩ Q:=aj (Kj hm hB h hq)
theorem bE{id:Nat}{l:List Oper}{y:Code}{u:cg}{Q:Exit→St→Prop}(k:Nat)(p:PV)(ks:List Nat)(_:iQ t ks=some u)(h:fA P N l.toArray σ l t ((k,p)::u))(hq:W P N L y ⟨(k,p)::u,σ⟩ Q):W P N L (.seq (.region id l.toArray false) y) ⟨t,σ⟩ Q:=ab h hq
theorem rz{id:Nat}{l:List Oper}{u:cg}{Q:Exit→St→Prop}(k:Nat)(p:PV)(ks:List Nat)(_:iQ t ks=some u)(h:fA P N l.toArray σ l t ((k,p)::u))(hq:Q .normal ⟨(k,p)::u,σ⟩):W P N L (.region id l.toArray false) ⟨t,σ⟩ Q:=aC h hq
theorem iM{id:Nat}{l:List Oper}{y:Code}{u:cg}{Q:Exit→St→Prop}(hm:P.follows .mixedOrders=true)(hB:rM N l=true)(k:Nat)(p:PV)(ks:List Nat)(_:iQ t ks=some u)(h:eh P N l.toArray σ l t ((k,p)::u))(hq:W P N L y ⟨(k,p)::u,σ⟩ Q):W P N L (.seq (.region id l.toArray true) y) ⟨t,σ⟩ Q:=ef hm hB h hq
def Tr.keys{α:Type}:Tr α→List Nat
 | .l=>[]
 | .n a k _ b=>a.keys++k::b.keys
def Tr.A3{α:Type}:Tr α→List α
 | .l=>[]
 | .n a _ v b=>a.A3++v::b.A3
theorem Tr.q9{α:Type}:∀(t:Tr α),t.keys.length=t.A3.length
 | .l=>rfl
 | .n a _ _ b=>by simp[Tr.keys,Tr.A3,Tr.q9 a,Tr.q9 b]
theorem Tr.of{α:Type}(f:Nat→Option α):∀ {t:Tr α},t.keys.map f=t.A3.map some→t.vw fun k v=>f k=some v
 | .l,_=>.l
 | .n a k v b,h=>by
  simp only[Tr.keys,Tr.A3,List.map_append,List.map_cons]at h
  obtain⟨h1,h2⟩:=List.append_inj h (by simp[Tr.q9])
  simp only[List.cons.injEq]at h2
  exact .n (Tr.of f h1) h2.1 (Tr.of f h2.2)
theorem Tr.JA{α:Type}(f:Nat→Bool):∀ {t:Tr α},t.keys.all f=true→t.vw fun k _=>f k=true
 | .l,_=>.l
 | .n a k v b,h=>by
  simp only[Tr.keys,List.all_append,List.all_cons,Bool.and_eq_true]at h
  exact .n (Tr.JA f h.1) h.2.1 (Tr.JA f h.2.2)
end
end
section
set_option maxRecDepth 100000
abbrev tq{α:Type}(k:Nat)(v:α):Tr α:=.n .l k v .l
def Ln:Tr (Option Nat):=.n (.n (.n (.n (.n (.n (.n (tq 0 none) 1 none (tq 2 none)) 3 none (.n (tq 4 none) 5 none (tq 7 (some 4)))) 9 none (.n (.n (tq 12 none) 13 (some 2) (tq 15 none)) 16 none (.n (tq 17 none) 18 (some 1) (tq 20 none)))) 21 none (.n (.n (.n (tq 22 none) 23 none (tq 24 (some 3))) 25 (some 3) (.n (tq 26 none) 27 (some 3) (tq 28 none))) 29 none (.n (.n (tq 30 none) 31 none (tq 32 (some 2))) 33 (some 2) (.n (tq 34 none) 35 none (tq 36 none))))) 37 none (.n (.n (.n (.n (tq 38 none) 39 none (tq 40 none)) 41 none (.n (tq 42 none) 43 none (tq 44 none))) 45 none (.n (.n (tq 46 none) 47 none (tq 48 none)) 49 (some 8) (.n (tq 50 (some 8)) 51 none (tq 52 none)))) 53 none (.n (.n (.n (tq 54 none) 55 (some 3) (tq 56 (some 3))) 57 none (.n (tq 58 none) 59 none (tq 60 none))) 61 none (.n (.n (tq 62 none) 63 none (tq 64 none)) 65 (some 6) (.n (tq 66 (some 6)) 67 none .l))))) 68 none (.n (.n (.n (.n (.n (tq 69 (some 3)) 70 (some 3) (tq 71 none)) 72 none (.n (tq 73 none) 74 none (tq 75 (some 3)))) 76 (some 3) (.n (.n (tq 77 none) 78 none (tq 79 none)) 80 (some 2) (.n (tq 81 none) 82 none (tq 83 none)))) 84 none (.n (.n (.n (tq 85 none) 86 none (tq 87 none)) 88 none (.n (tq 89 none) 90 none (tq 91 none))) 92 none (.n (.n (tq 93 none) 94 none (tq 95 none)) 96 none (.n (tq 97 none) 98 none .l)))) 99 none (.n (.n (.n (.n (tq 100 (some 4)) 101 none (tq 102 none)) 103 (some 2) (.n (tq 104 none) 105 none (tq 106 none))) 107 (some 3) (.n (.n (tq 108 none) 109 none (tq 110 none)) 111 none (.n (tq 112 none) 113 none (tq 114 none)))) 115 none (.n (.n (.n (tq 116 none) 117 none (tq 118 (some 12))) 119 (some 12) (.n (tq 120 none) 121 (some 5) (tq 122 (some 5)))) 123 none (.n (.n (tq 124 none) 125 (some 2) (tq 126 (some 7))) 127 (some 7) (.n (tq 128 none) 129 none .l)))))) 130 none (.n (.n (.n (.n (.n (.n (tq 131 none) 132 none (tq 133 none)) 134 none (.n (tq 135 none) 136 none (tq 137 none))) 138 none (.n (.n (tq 139 none) 140 none (tq 141 none)) 142 none (.n (tq 143 none) 144 none (tq 145 (some 9))))) 146 (some 9) (.n (.n (.n (tq 147 none) 148 none (tq 149 none)) 150 none (.n (tq 151 (some 6)) 152 (some 6) (tq 153 none))) 154 none (.n (.n (tq 155 none) 156 none (tq 157 none)) 158 none (.n (tq 159 none) 160 none .l)))) 161 none (.n (.n (.n (.n (tq 162 none) 163 none (tq 164 none)) 165 none (.n (tq 166 none) 167 none (tq 168 none))) 169 none (.n (.n (tq 171 none) 172 none (tq 173 none)) 174 none (.n (tq 175 none) 176 none (tq 177 none)))) 178 none (.n (.n (.n (tq 179 none) 180 none (tq 181 none)) 182 none (.n (tq 183 none) 184 none (tq 185 none))) 186 none (.n (.n (tq 187 none) 188 none (tq 189 none)) 190 none (.n (tq 192 none) 193 none .l))))) 194 none (.n (.n (.n (.n (.n (tq 195 none) 197 none (tq 198 none)) 199 none (.n (tq 200 none) 201 none (tq 202 (some 7)))) 203 (some 7) (.n (.n (tq 204 none) 205 none (tq 206 none)) 207 none (.n (tq 208 none) 209 none (tq 210 none)))) 211 none (.n (.n (.n (tq 212 none) 213 (some 2) (tq 214 (some 2))) 215 none (.n (tq 216 none) 217 none (tq 218 none))) 219 none (.n (.n (tq 220 none) 222 none (tq 223 none)) 224 none (.n (tq 225 none) 226 none .l)))) 227 none (.n (.n (.n (.n (tq 228 none) 229 none (tq 230 none)) 231 none (.n (tq 232 none) 233 none (tq 234 none))) 235 (some 3) (.n (.n (tq 236 (some 3)) 237 none (tq 238 none)) 239 none (.n (tq 240 none) 241 none (tq 242 none)))) 243 none (.n (.n (.n (tq 244 none) 245 none (tq 247 none)) 248 (some 24) (.n (tq 249 none) 252 none (tq 253 none))) 255 none (.n (.n (tq 256 none) 262 none (tq 264 (some 20))) 265 (some 65) (.n (tq 275 (some 32)) 276 (some 64) .l))))))
def Ls:Tr (Nat):=.n (.n (.n (.n (.n (.n (.n (tq 700 0) 701 1 .l) 702 2 (tq 703 3)) 1300 0 (.n (tq 1301 1) 1800 0 (tq 2400 0))) 2401 1 (.n (.n (.n (tq 2402 2) 2500 0 .l) 2501 1 (tq 2502 2)) 3200 0 (.n (tq 3201 1) 3300 0 (tq 3301 1)))) 4900 0 (.n (.n (.n (.n (tq 4901 3) 4902 5 .l) 4903 6 (tq 4904 7)) 5000 0 (.n (tq 5001 3) 5002 5 (tq 5003 6))) 5004 7 (.n (.n (.n (tq 5500 0) 5501 1 .l) 5502 2 (tq 5600 0)) 5601 1 (.n (tq 5602 2) 6500 0 (tq 6501 1))))) 6502 2 (.n (.n (.n (.n (.n (tq 6503 3) 6504 4 .l) 6505 5 (tq 6600 0)) 6601 1 (.n (tq 6602 2) 6603 3 (tq 6604 4))) 6605 5 (.n (.n (.n (tq 6900 0) 6901 1 .l) 6902 2 (tq 7000 0)) 7001 1 (.n (tq 7002 2) 7500 0 (tq 7501 1)))) 7502 2 (.n (.n (.n (.n (tq 7600 0) 7601 1 .l) 7602 2 (tq 10300 0)) 10301 1 (.n (tq 10700 0) 10701 1 (tq 10702 2))) 11800 0 (.n (.n (tq 11801 1) 11802 7 (tq 11803 8)) 11804 9 (.n (tq 11805 10) 11806 11 (tq 11900 0)))))) 11901 1 (.n (.n (.n (.n (.n (.n (tq 11902 7) 11903 8 .l) 11904 9 (tq 11905 10)) 11906 11 (.n (tq 12100 0) 12101 3 (tq 12102 4))) 12200 0 (.n (.n (.n (tq 12201 3) 12202 4 .l) 12600 0 (tq 12601 1)) 12602 2 (.n (tq 12603 4) 12604 5 (tq 12605 6)))) 12700 0 (.n (.n (.n (.n (tq 12701 1) 12702 2 .l) 12703 4 (tq 12704 5)) 12705 6 (.n (tq 14500 0) 14501 3 (tq 14502 4))) 14503 5 (.n (.n (tq 14504 6) 14505 7 (tq 14506 8)) 14600 0 (.n (tq 14601 3) 14602 4 (tq 14603 5))))) 14604 6 (.n (.n (.n (.n (.n (tq 14605 7) 14606 8 .l) 15100 0 (tq 15101 1)) 15102 2 (.n (tq 15103 3) 15104 4 (tq 15105 5))) 15200 0 (.n (.n (.n (tq 15201 1) 15202 2 .l) 15203 3 (tq 15204 4)) 15205 5 (.n (tq 20200 0) 20201 3 (tq 20202 4)))) 20203 5 (.n (.n (.n (.n (tq 20204 6) 20300 0 .l) 20301 3 (tq 20302 4)) 20303 5 (.n (tq 20304 6) 21300 0 (tq 21301 1))) 21400 0 (.n (.n (tq 21401 1) 23500 0 (tq 23501 1)) 23502 2 (.n (tq 23600 0) 23601 1 (tq 23602 2))))))
def Lm:Tr (Nat×Nat):=.n (.n (.n (tq 22 (4,1)) 23 (127,7) (tq 26 (5,1))) 30 (33,2) (.n (tq 37 (3,1)) 39 (103,2) (tq 43 (56,3)))) 54 (76,3) (.n (.n (tq 62 (70,3)) 104 (107,3) (tq 120 (119,12))) 148 (147,1) (.n (tq 195 (39,1)) 198 (37,1) (tq 208 (207,1))))
def Lt:Tr (List (Nat×Nat)×List Value):=.n (.n (.n (.n (.n (tq 7 ([(0,1),(1,1),(2,1),(3,1)],[.int .i64 0,.int .i64 0,.bool false,.int .u8 0])) 13 ([(0,1),(1,1)],[.string ⟨#[]⟩,.int .u64 0]) .l) 18 ([(0,1)],[.pointer none]) (tq 24 ([(0,1),(1,1),(2,1)],[.int .i64 0,.slice none 0 0,.slice none 0 0]))) 25 ([(0,1),(1,1),(2,1)],[.int .i64 0,.slice none 0 0,.slice none 0 0]) (.n (tq 32 ([(0,1),(1,1)],[.int .i64 0,.int .i64 0])) 33 ([(0,1),(1,1)],[.int .i64 0,.int .i64 0]) (tq 49 ([(0,3),(3,2),(5,1),(6,1),(7,1)],[.int .i64 0,.slice none 0 0,.slice none 0 0,.int .i64 0,.int .i64 0,.slice none 0 0,.int .i64 0,.int .i64 0])))) 50 ([(0,3),(3,2),(5,1),(6,1),(7,1)],[.int .i64 0,.slice none 0 0,.slice none 0 0,.int .i64 0,.int .i64 0,.slice none 0 0,.int .i64 0,.int .i64 0]) (.n (.n (.n (tq 55 ([(0,1),(1,1),(2,1)],[.int .i64 0,.slice none 0 0,.slice none 0 0])) 56 ([(0,1),(1,1),(2,1)],[.int .i64 0,.slice none 0 0,.slice none 0 0]) .l) 65 ([(0,1),(1,1),(2,1),(3,1),(4,1),(5,1)],[.int .i64 0,.int .i64 0,.int .i64 0,.int .i64 0,.slice none 0 0,.int .i64 0]) (tq 66 ([(0,1),(1,1),(2,1),(3,1),(4,1),(5,1)],[.int .i64 0,.int .i64 0,.int .i64 0,.int .i64 0,.slice none 0 0,.int .i64 0]))) 69 ([(0,1),(1,1),(2,1)],[.int .i64 0,.int .i64 0,.slice none 0 0]) (.n (tq 70 ([(0,1),(1,1),(2,1)],[.int .i64 0,.int .i64 0,.slice none 0 0])) 75 ([(0,1),(1,1),(2,1)],[.slice none 0 0,.bool false,.slice none 0 0]) (tq 76 ([(0,1),(1,1),(2,1)],[.slice none 0 0,.bool false,.slice none 0 0]))))) 103 ([(0,1),(1,1)],[.int .i64 0,.int .i64 0]) (.n (.n (.n (.n (tq 107 ([(0,1),(1,1),(2,1)],[.int .i64 0,.int .i64 0,.slice none 0 0])) 118 ([(0,1),(1,6),(7,1),(8,1),(9,1),(10,1),(11,1)],[.int .i64 0,.int .i64 0,.int .i64 0,.int .i64 0,.int .i64 0,.slice none 0 0,.int .i64 0,.slice none 0 0,.slice none 0 0,.int .i64 0,.int .i64 0,.int .i64 0]) .l) 119 ([(0,1),(1,6),(7,1),(8,1),(9,1),(10,1),(11,1)],[.int .i64 0,.int .i64 0,.int .i64 0,.int .i64 0,.int .i64 0,.slice none 0 0,.int .i64 0,.slice none 0 0,.slice none 0 0,.int .i64 0,.int .i64 0,.int .i64 0]) (tq 121 ([(0,3),(3,1),(4,1)],[.int .i64 0,.slice none 0 0,.slice none 0 0,.slice none 0 0,.slice none 0 0]))) 122 ([(0,3),(3,1),(4,1)],[.int .i64 0,.slice none 0 0,.slice none 0 0,.slice none 0 0,.slice none 0 0]) (.n (tq 126 ([(0,1),(1,1),(2,2),(4,1),(5,1),(6,1)],[.int .i64 0,.int .i64 0,.int .i64 0,.int .i64 0,.int .i64 0,.int .i64 0,.int .i64 0])) 127 ([(0,1),(1,1),(2,2),(4,1),(5,1),(6,1)],[.int .i64 0,.int .i64 0,.int .i64 0,.int .i64 0,.int .i64 0,.int .i64 0,.int .i64 0]) (tq 145 ([(0,3),(3,1),(4,1),(5,1),(6,1),(7,1),(8,1)],[.int .i64 0,.slice none 0 0,.slice none 0 0,.slice none 0 0,.slice none 0 0,.slice none 0 0,.slice none 0 0,.map none,.map none])))) 146 ([(0,3),(3,1),(4,1),(5,1),(6,1),(7,1),(8,1)],[.int .i64 0,.slice none 0 0,.slice none 0 0,.slice none 0 0,.slice none 0 0,.slice none 0 0,.slice none 0 0,.map none,.map none]) (.n (.n (.n (tq 151 ([(0,1),(1,1),(2,1),(3,1),(4,1),(5,1)],[.int .i64 0,.int .i64 0,.slice none 0 0,.slice none 0 0,.bool false,.int .i64 0])) 152 ([(0,1),(1,1),(2,1),(3,1),(4,1),(5,1)],[.int .i64 0,.int .i64 0,.slice none 0 0,.slice none 0 0,.bool false,.int .i64 0]) .l) 202 ([(0,3),(3,1),(4,1),(5,1),(6,1)],[.int .i64 0,.slice none 0 0,.slice none 0 0,.slice none 0 0,.int .i64 0,.nilFunc,.nilFunc]) (tq 203 ([(0,3),(3,1),(4,1),(5,1),(6,1)],[.int .i64 0,.slice none 0 0,.slice none 0 0,.slice none 0 0,.int .i64 0,.nilFunc,.nilFunc]))) 213 ([(0,1),(1,1)],[.pointer none,.slice none 0 0]) (.n (tq 214 ([(0,1),(1,1)],[.pointer none,.slice none 0 0])) 235 ([(0,1),(1,1),(2,1)],[.slice none 0 0,.slice none 0 0,.slice none 0 0]) (tq 236 ([(0,1),(1,1),(2,1)],[.slice none 0 0,.slice none 0 0,.slice none 0 0])))))
def Lh:Tr (Nat×Nat×List Value):=.n (.n (.n (tq 22 (4,1,[.bool false])) 23 (127,7,[.int .i64 0,.int .i64 0,.int .i64 0,.int .i64 0,.int .i64 0,.int .i64 0,.int .i64 0]) (tq 26 (5,1,[.int .u8 0]))) 30 (33,2,[.int .i64 0,.int .i64 0]) (.n (tq 37 (3,1,[.int .i64 0])) 39 (103,2,[.int .i64 0,.int .i64 0]) (tq 43 (56,3,[.int .i64 0,.slice none 0 0,.slice none 0 0])))) 54 (76,3,[.slice none 0 0,.bool false,.slice none 0 0]) (.n (.n (tq 62 (70,3,[.int .i64 0,.int .i64 0,.slice none 0 0])) 104 (107,3,[.int .i64 0,.int .i64 0,.slice none 0 0]) (tq 120 (119,12,[.int .i64 0,.int .i64 0,.int .i64 0,.int .i64 0,.int .i64 0,.slice none 0 0,.int .i64 0,.slice none 0 0,.slice none 0 0,.int .i64 0,.int .i64 0,.int .i64 0]))) 148 (147,1,[.pointer none]) (.n (tq 195 (39,1,[.slice none 0 0])) 198 (37,1,[.slice none 0 0]) (tq 208 (207,1,[.nilFunc]))))
def Lo:Tr (Nat×Nat×Nat×List Value):=.n (.n (.n (tq 22 (4,1,1,[.bool false])) 23 (127,7,56,[.int .i64 0,.int .i64 0,.int .i64 0,.int .i64 0,.int .i64 0,.int .i64 0,.int .i64 0]) (tq 26 (5,1,1,[.int .u8 0]))) 30 (33,2,16,[.int .i64 0,.int .i64 0]) (.n (tq 37 (3,1,8,[.int .i64 0])) 39 (103,2,16,[.int .i64 0,.int .i64 0]) (tq 43 (56,3,56,[.int .i64 0,.slice none 0 0,.slice none 0 0])))) 54 (76,3,56,[.slice none 0 0,.bool false,.slice none 0 0]) (.n (.n (tq 62 (70,3,40,[.int .i64 0,.int .i64 0,.slice none 0 0])) 104 (107,3,40,[.int .i64 0,.int .i64 0,.slice none 0 0]) (tq 120 (119,12,144,[.int .i64 0,.int .i64 0,.int .i64 0,.int .i64 0,.int .i64 0,.slice none 0 0,.int .i64 0,.slice none 0 0,.slice none 0 0,.int .i64 0,.int .i64 0,.int .i64 0]))) 148 (147,1,8,[.pointer none]) (.n (tq 195 (39,1,24,[.slice none 0 0])) 198 (37,1,24,[.slice none 0 0]) (tq 208 (207,1,8,[.nilFunc]))))
def Li:Tr (List Value):=.n (.n (.n (.n (.n (.n (tq 2 [.int .i64 0]) 3 [.int .i64 0] .l) 4 [.bool false] (.n (tq 5 [.int .u8 0]) 7 [.int .i64 0,.int .i64 0,.bool false,.int .u8 0] .l)) 9 [.string ⟨#[]⟩] (.n (.n (tq 12 [.int .u64 0]) 13 [.string ⟨#[]⟩,.int .u64 0] .l) 15 [.pointer none] (tq 16 [.pointer none]))) 17 [.pointer none] (.n (.n (.n (tq 18 [.pointer none]) 20 [.nilIface] .l) 21 [.int .i32 0] (.n (tq 22 [.slice none 0 0]) 23 [.slice none 0 0] .l)) 24 [.int .i64 0,.slice none 0 0,.slice none 0 0] (.n (.n (tq 25 [.int .i64 0,.slice none 0 0,.slice none 0 0]) 26 [.slice none 0 0] .l) 27 [.slice none 0 0,.slice none 0 0,.slice none 0 0] (tq 30 [.slice none 0 0])))) 32 [.int .i64 0,.int .i64 0] (.n (.n (.n (.n (tq 33 [.int .i64 0,.int .i64 0]) 34 [.int .i64 0] .l) 37 [.slice none 0 0] (.n (tq 39 [.slice none 0 0]) 43 [.slice none 0 0] .l)) 49 [.int .i64 0,.slice none 0 0,.slice none 0 0,.int .i64 0,.int .i64 0,.slice none 0 0,.int .i64 0,.int .i64 0] (.n (.n (tq 50 [.int .i64 0,.slice none 0 0,.slice none 0 0,.int .i64 0,.int .i64 0,.slice none 0 0,.int .i64 0,.int .i64 0]) 54 [.slice none 0 0] .l) 55 [.int .i64 0,.slice none 0 0,.slice none 0 0] (tq 56 [.int .i64 0,.slice none 0 0,.slice none 0 0]))) 62 [.slice none 0 0] (.n (.n (.n (tq 65 [.int .i64 0,.int .i64 0,.int .i64 0,.int .i64 0,.slice none 0 0,.int .i64 0]) 66 [.int .i64 0,.int .i64 0,.int .i64 0,.int .i64 0,.slice none 0 0,.int .i64 0] .l) 69 [.int .i64 0,.int .i64 0,.slice none 0 0] (.n (tq 70 [.int .i64 0,.int .i64 0,.slice none 0 0]) 75 [.slice none 0 0,.bool false,.slice none 0 0] .l)) 76 [.slice none 0 0,.bool false,.slice none 0 0] (.n (.n (tq 80 [.slice none 0 0,.slice none 0 0]) 100 [.nilFunc,.nilFunc,.nilFunc,.nilFunc] .l) 103 [.int .i64 0,.int .i64 0] (tq 104 [.slice none 0 0]))))) 107 [.int .i64 0,.int .i64 0,.slice none 0 0] (.n (.n (.n (.n (.n (tq 115 [.pointer none]) 118 [.int .i64 0,.int .i64 0,.int .i64 0,.int .i64 0,.int .i64 0,.slice none 0 0,.int .i64 0,.slice none 0 0,.slice none 0 0,.int .i64 0,.int .i64 0,.int .i64 0] .l) 119 [.int .i64 0,.int .i64 0,.int .i64 0,.int .i64 0,.int .i64 0,.slice none 0 0,.int .i64 0,.slice none 0 0,.slice none 0 0,.int .i64 0,.int .i64 0,.int .i64 0] (.n (tq 120 [.slice none 0 0]) 121 [.int .i64 0,.slice none 0 0,.slice none 0 0,.slice none 0 0,.slice none 0 0] .l)) 122 [.int .i64 0,.slice none 0 0,.slice none 0 0,.slice none 0 0,.slice none 0 0] (.n (.n (tq 125 [.int .i64 0,.int .i64 0]) 126 [.int .i64 0,.int .i64 0,.int .i64 0,.int .i64 0,.int .i64 0,.int .i64 0,.int .i64 0] .l) 127 [.int .i64 0,.int .i64 0,.int .i64 0,.int .i64 0,.int .i64 0,.int .i64 0,.int .i64 0] (tq 139 [.pointer none]))) 143 [.map none] (.n (.n (.n (tq 144 [.map none]) 145 [.int .i64 0,.slice none 0 0,.slice none 0 0,.slice none 0 0,.slice none 0 0,.slice none 0 0,.slice none 0 0,.map none,.map none] .l) 146 [.int .i64 0,.slice none 0 0,.slice none 0 0,.slice none 0 0,.slice none 0 0,.slice none 0 0,.slice none 0 0,.map none,.map none] (.n (tq 147 [.pointer none]) 148 [.slice none 0 0] .l)) 151 [.int .i64 0,.int .i64 0,.slice none 0 0,.slice none 0 0,.bool false,.int .i64 0] (.n (.n (tq 152 [.int .i64 0,.int .i64 0,.slice none 0 0,.slice none 0 0,.bool false,.int .i64 0]) 181 [.pointer none] .l) 188 [.map none] (tq 195 [.slice none 0 0])))) 198 [.slice none 0 0] (.n (.n (.n (.n (tq 202 [.int .i64 0,.slice none 0 0,.slice none 0 0,.slice none 0 0,.int .i64 0,.nilFunc,.nilFunc]) 203 [.int .i64 0,.slice none 0 0,.slice none 0 0,.slice none 0 0,.int .i64 0,.nilFunc,.nilFunc] .l) 208 [.slice none 0 0] (.n (tq 212 [.pointer none]) 213 [.pointer none,.slice none 0 0] .l)) 214 [.pointer none,.slice none 0 0] (.n (.n (tq 215 [.nilIface]) 216 [.nilIface] .l) 225 [.pointer none] (tq 233 [.pointer none]))) 235 [.slice none 0 0,.slice none 0 0,.slice none 0 0] (.n (.n (.n (tq 236 [.slice none 0 0,.slice none 0 0,.slice none 0 0]) 241 [.pointer none] .l) 247 [.int .u64 0] (tq 248 [.int .u8 0,.int .u8 0,.int .u8 0,.int .u8 0,.int .u8 0,.int .u8 0,.int .u8 0,.int .u8 0,.int .u8 0,.int .u8 0,.int .u8 0,.int .u8 0,.int .u8 0,.int .u8 0,.int .u8 0,.int .u8 0,.int .u8 0,.int .u8 0,.int .u8 0,.int .u8 0,.int .u8 0,.int .u8 0,.int .u8 0,.int .u8 0])) 249 [.int .u64 0] (.n (.n (tq 255 [.int .i64 0]) 262 [.int .u32 0] .l) 264 [.int .u64 0,.int .u64 0,.int .u64 0,.int .u64 0,.int .u64 0,.int .u64 0,.int .u64 0,.int .u64 0,.int .u64 0,.int .u64 0,.int .u64 0,.int .u64 0,.int .u64 0,.int .u64 0,.int .u64 0,.int .u64 0,.int .u64 0,.int .u64 0,.int .u64 0,.int .u64 0] (tq 275 [.int .u8 0,.int .u8 0,.int .u8 0,.int .u8 0,.int .u8 0,.int .u8 0,.int .u8 0,.int .u8 0,.int .u8 0,.int .u8 0,.int .u8 0,.int .u8 0,.int .u8 0,.int .u8 0,.int .u8 0,.int .u8 0,.int .u8 0,.int .u8 0,.int .u8 0,.int .u8 0,.int .u8 0,.int .u8 0,.int .u8 0,.int .u8 0,.int .u8 0,.int .u8 0,.int .u8 0,.int .u8 0,.int .u8 0,.int .u8 0,.int .u8 0,.int .u8 0])))))
def Lk:Tr (Unit):=tq 4 ()
def Lx:Tr (Unit):=.n (.n (.n (tq 15 ()) 16 () .l) 17 () (.n (tq 115 ()) 139 () .l)) 147 () (.n (.n (tq 181 ()) 212 () .l) 225 () (tq 233 ()))
def Lr:Tr (Nat×Nat):=.n (.n (.n (tq 27 (3,1)) 80 (2,1) .l) 100 (4,1) (tq 125 (2,1))) 248 (24,1) (.n (.n (tq 264 (20,1)) 265 (65,1) .l) 275 (32,1) (tq 276 (64,1)))
def Lu:Tr (Unit):=.n (.n (.n (.n (.n (.n (.n (tq 2 ()) 3 () (tq 4 ())) 5 () (.n (tq 6 ()) 7 () (tq 8 ()))) 9 () (.n (.n (tq 10 ()) 11 () (tq 12 ())) 13 () (.n (tq 14 ()) 15 () (tq 16 ())))) 17 () (.n (.n (.n (tq 18 ()) 19 () (tq 20 ())) 21 () (.n (tq 22 ()) 23 () (tq 24 ()))) 25 () (.n (.n (tq 26 ()) 27 () (tq 28 ())) 29 () (.n (tq 30 ()) 31 () .l)))) 32 () (.n (.n (.n (.n (tq 33 ()) 34 () (tq 35 ())) 36 () (.n (tq 37 ()) 38 () (tq 39 ()))) 40 () (.n (.n (tq 41 ()) 42 () (tq 43 ())) 44 () (.n (tq 45 ()) 46 () (tq 47 ())))) 48 () (.n (.n (.n (tq 49 ()) 50 () (tq 51 ())) 52 () (.n (tq 53 ()) 54 () (tq 55 ()))) 56 () (.n (.n (tq 57 ()) 58 () (tq 59 ())) 60 () (.n (tq 61 ()) 62 () .l))))) 63 () (.n (.n (.n (.n (.n (tq 64 ()) 65 () (tq 66 ())) 67 () (.n (tq 68 ()) 69 () (tq 70 ()))) 71 () (.n (.n (tq 72 ()) 73 () (tq 74 ())) 75 () (.n (tq 76 ()) 77 () (tq 78 ())))) 79 () (.n (.n (.n (tq 80 ()) 81 () (tq 82 ())) 83 () (.n (tq 84 ()) 85 () (tq 86 ()))) 87 () (.n (.n (tq 88 ()) 89 () (tq 90 ())) 91 () (.n (tq 92 ()) 93 () .l)))) 94 () (.n (.n (.n (.n (tq 95 ()) 96 () (tq 97 ())) 98 () (.n (tq 99 ()) 100 () (tq 101 ()))) 102 () (.n (.n (tq 103 ()) 104 () (tq 105 ())) 106 () (.n (tq 107 ()) 108 () .l))) 109 () (.n (.n (.n (tq 110 ()) 111 () (tq 112 ())) 113 () (.n (tq 114 ()) 115 () (tq 116 ()))) 117 () (.n (.n (tq 118 ()) 119 () (tq 120 ())) 121 () (.n (tq 122 ()) 123 () .l)))))) 124 () (.n (.n (.n (.n (.n (.n (tq 125 ()) 126 () (tq 127 ())) 128 () (.n (tq 129 ()) 130 () (tq 131 ()))) 132 () (.n (.n (tq 133 ()) 134 () (tq 135 ())) 136 () (.n (tq 137 ()) 138 () (tq 139 ())))) 140 () (.n (.n (.n (tq 141 ()) 142 () (tq 143 ())) 144 () (.n (tq 145 ()) 146 () (tq 147 ()))) 148 () (.n (.n (tq 149 ()) 150 () (tq 151 ())) 152 () (.n (tq 153 ()) 154 () .l)))) 155 () (.n (.n (.n (.n (tq 156 ()) 157 () (tq 158 ())) 159 () (.n (tq 160 ()) 161 () (tq 162 ()))) 163 () (.n (.n (tq 164 ()) 165 () (tq 166 ())) 167 () (.n (tq 168 ()) 169 () .l))) 171 () (.n (.n (.n (tq 172 ()) 173 () (tq 174 ())) 175 () (.n (tq 176 ()) 177 () (tq 178 ()))) 179 () (.n (.n (tq 180 ()) 181 () (tq 182 ())) 183 () (.n (tq 184 ()) 185 () .l))))) 186 () (.n (.n (.n (.n (.n (tq 187 ()) 188 () (tq 189 ())) 190 () (.n (tq 192 ()) 193 () (tq 194 ()))) 195 () (.n (.n (tq 197 ()) 198 () (tq 199 ())) 200 () (.n (tq 201 ()) 202 () (tq 203 ())))) 204 () (.n (.n (.n (tq 205 ()) 206 () (tq 207 ())) 208 () (.n (tq 209 ()) 210 () (tq 211 ()))) 212 () (.n (.n (tq 213 ()) 214 () (tq 215 ())) 216 () (.n (tq 217 ()) 218 () .l)))) 220 () (.n (.n (.n (.n (tq 222 ()) 223 () (tq 224 ())) 225 () (.n (tq 226 ()) 227 () (tq 228 ()))) 229 () (.n (.n (tq 230 ()) 231 () (tq 232 ())) 233 () (.n (tq 234 ()) 235 () .l))) 236 () (.n (.n (.n (tq 237 ()) 238 () (tq 239 ())) 240 () (.n (tq 241 ()) 242 () (tq 243 ()))) 244 () (.n (.n (tq 245 ()) 247 () (tq 248 ())) 249 () (.n (tq 252 ()) 253 () .l))))))
def facts:sI:=⟨Ln,Ls,Lm,Lt,Lh,Lo,Li,Lk,Lx,Lr,Lu⟩
theorem ba:sI.Ok Tryz.prog facts:=⟨Tr.of (sM Tryz.prog) (by kernel_rfl),Tr.of (fun k=>kg Tryz.prog (k / 100) (k % 100)) (by kernel_rfl),Tr.of (xZ Tryz.prog) (by kernel_rfl),Tr.of (Ks Tryz.prog) (by kernel_rfl),Tr.of (H4 Tryz.prog) (by kernel_rfl),Tr.of (xD Tryz.prog) (by kernel_rfl),Tr.of (xE Tryz.prog) (by kernel_rfl),Tr.JA (tU Tryz.prog) (by kernel_rfl),Tr.JA (pK Tryz.prog) (by kernel_rfl),Tr.of (J2 Tryz.prog) (by kernel_rfl),Tr.JA (enters Tryz.prog) (by kernel_rfl)⟩
instance:Has Tryz.prog facts:=⟨ba⟩
theorem mixed:Tryz.prog.follows .mixedOrders=true:=by kernel_rfl
end
end PW
end Go.Proofs.YtnegbdpggideiaaGreatDoor
namespace Go.Proofs.YtnegbdpggideiaaGreatDoor
namespace Net
section
open Go
structure nM where
 a:Int
 b:Int
 c0:Int
 c1:Int
 cap:Int
 fK:Int
 vF:Int
def nM.zero:nM:=⟨0,0,0,0,0,0,0⟩
structure an where
 nodes:Int
 over:List Bool
 ag:List nM
def cC(L:List nM)(i:Nat):nM:=L.getD i nM.zero
def br(T:an)(a:Nat):Int:=if a % 2=0 then(cC T.ag (a / 2)).a else(cC T.ag (a / 2)).b
def flip(a:Nat):Nat:=if a % 2=0 then a+1 else a - 1
def aS(T:an)(a:Nat):Int:=br T (flip a)
def cn(T:an)(a:Nat):Int:=if a % 2=0 then(cC T.ag (a / 2)).c0 else(cC T.ag (a / 2)).c1
def dh(T:an)(n:Nat):Bool:=T.over.getD n false
def bm(T:an)(n:Int):Bool:=decide (0≤n∧n<T.nodes)
def ep(T:an)(a:Int):Bool:=decide (0≤a∧a<2*(T.ag.length:Int))
def bW(T:an)(down:List Bool):Bool:=decide (down.length=0∨down.length=2*T.ag.length)
def aQ(down:List Bool)(a:Nat):Bool:=down.getD a false
def bL(n lo hi:Int):Bool:=decide (lo≤n∧n≤hi)
def iJ(T:an)(l:nM):Bool:=
 !(l.a==l.b)&&bm T l.a&&bm T l.b&&bL l.c0 1 65535&&bL l.c1 1 65535&&bL l.cap 0 1048576&&bL l.fK 1 65536&&bL l.vF 0 64
def aq(T:an):Bool:=
 bL T.nodes 1 64&&decide (T.ag.length≤256)&&(decide (T.over.length=0)||decide ((T.over.length:Int)=T.nodes))&&T.ag.all (iJ T)
theorem wq(p:nM→Bool)(L:List nM)(k:Nat)(hk:k<L.length):(L.take (k+1)).all p=((L.take k).all p&&p (cC L k)):=by
 rw[List.take_succ_eq_append_getElem hk,List.all_append]
 simp[cC,hk]
theorem xp(p:nM→Bool)(L:List nM)(k:Nat)(hk:k<L.length)(h:p (cC L k)=false):L.all p=false:=by
 rw[Bool.eq_false_iff]
 intro ha
 have:=List.all_eq_true.1 ha (cC L k) (by simp[cC,hk])
 rw[h]at this
 cases this
theorem hJ(T:an)(h:bL T.nodes 1 64=false∨256<T.ag.length∨(T.over.length≠0∧(T.over.length:Int)≠T.nodes)):false=aq T:=by
 unfold aq
 rcases h with h|h|⟨h1,h2⟩
 ·simp[h]
 ·have:decide (T.ag.length≤256)=false:=by simp;omega
  simp[this]
 ·simp[h1,h2]
theorem rv(T:an)(h1:bL T.nodes 1 64=true)(h2:T.ag.length≤256)(h3:T.over.length=0∨(T.over.length:Int)=T.nodes):aq T=T.ag.all (iJ T):=by
 unfold aq
 rcases h3 with h3|h3<;>simp[h1,h2,h3]
theorem s8{T:an}{l:nM}{q1 q2 q3 q4 q5 q6 q7 q8:Bool}(g1:(l.a==l.b)=q1)(g2:bm T l.a=q2)(g3:bm T l.b=q3)(g4:bL l.c0 1 65535=q4)(g5:bL l.c1 1 65535=q5)(g6:bL l.cap 0 1048576=q6)(g7:bL l.fK 1 65536=q7)(g8:bL l.vF 0 64=q8):
  iJ T l=(!q1 &&q2&&q3&&q4&&q5&&q6&&q7&&q8):=by subst g1 g2 g3 g4 g5 g6 g7 g8;rfl
theorem pQ(T:an)(n:Int):bL n 0 (T.nodes - 1)=bm T n:=by
 unfold bL bm
 exact decide_eq_decide.2 (by omega)
theorem oA{n lo hi:Int}(h:bL n lo hi=true):lo≤n∧n≤hi:=by simpa[bL]using h
theorem fW{T:an}(h:aq T=true):1≤T.nodes∧T.nodes≤64∧T.ag.length≤256∧(T.over.length=0∨(T.over.length:Int)=T.nodes):=by
 unfold aq at h
 simp only[Bool.and_eq_true,Bool.or_eq_true,decide_eq_true_eq]at h
 obtain⟨⟨⟨h1,h2⟩,h3⟩,_⟩:=h
 have:=oA h1
 exact⟨this.1,this.2,h2,h3⟩
theorem sn{T:an}(h:aq T=true)(i:Nat)(hi:i<T.ag.length):iJ T (cC T.ag i)=true:=by
 unfold aq at h
 simp only[Bool.and_eq_true]at h
 exact List.all_eq_true.1 h.2 _ (by simp[cC,hi])
def nr(T:an)(a:Int):Int:=if 0≤a∧a<2*(T.ag.length:Int) then br T a.toNat else -1
def wR(T:an)(a:Int):Int:=if 0≤a∧a<2*(T.ag.length:Int) then aS T a.toNat else -1
def xk(T:an)(a:Int):Int:=if 0≤a∧a<2*(T.ag.length:Int) then cn T a.toNat else -1
def iP(T:an)(n:Int)(k:Nat):List Int:=((List.range k).filter fun a=>br T a==n).map Int.ofNat
def bN(T:an)(n:Int):List Int:=iP T n (2*T.ag.length)
theorem CE(T:an)(n:Int)(k:Nat)(h:(br T k==n)=true):iP T n (k+1)=iP T n k++[(k:Int)]:=by
 simp[iP,List.range_succ,List.filter_append,h]
theorem Fj(T:an)(n:Int)(k:Nat)(h:(br T k==n)=false):iP T n (k+1)=iP T n k:=by
 simp[iP,List.range_succ,List.filter_append,h]
theorem eM(T:an)(n:Int)(k:Nat):(iP T n k).length≤k:=by
 simp only[iP,List.length_map]
 exact Nat.le_trans (List.length_filter_le _ _) (by simp)
def nt(L M:List Int):Bool:=decide (L=M)
theorem CV(L M:List Int)(h:L.length≠M.length):false=nt L M:=by
 unfold nt;symm;exact decide_eq_false fun e=>h (by rw[e])
theorem HM(L M:List Int)(k:Nat)(h:L.getD k 0≠M.getD k 0):false=nt L M:=by
 unfold nt;symm;exact decide_eq_false fun e=>h (by rw[e])
theorem EV(L M:List Int)(hM:M.length=L.length)(h:∀i,i<L.length→L.getD i 0=M.getD i 0):true=nt L M:=by
 unfold nt;symm
 refine decide_eq_true (List.ext_getElem hM.symm fun i h1 h2=>?_)
 have:=h i h1
 simpa[h1,h2]using this
theorem tO(T:an)(k:Nat)(hk:k<2*T.ag.length):nr T (k:Int)=br T k:=by
 unfold nr;rw[if_pos ⟨by omega,by omega⟩];rfl
theorem BX(T:an)(k:Nat)(hk:k<2*T.ag.length):wR T (k:Int)=aS T k:=by
 unfold wR;rw[if_pos ⟨by omega,by omega⟩];rfl
theorem A7(T:an)(k:Nat)(hk:k<2*T.ag.length):xk T (k:Int)=cn T k:=by
 unfold xk;rw[if_pos ⟨by omega,by omega⟩];rfl
theorem Gt(a:Nat)(ha:a<9223372036854775806):bits .xor .i64 (a:Int) 1=(flip a:Int):=by
 have h1:(a ^^^ 1) / 2=a / 2:=by rw[Nat.xor_div_two];simp
 have h2:((a ^^^ 1) % 2=1)↔¬((a % 2=1)↔(1 % 2=1)):=Nat.xor_mod_two_eq_one
 have h3:a ^^^ 1=flip a:=by unfold flip;split<;>omega
 have e1:(BitVec.ofInt 64 (a:Int)).toNat=a:=by rw[BitVec.ofInt_natCast,BitVec.toNat_ofNat];exact Nat.mod_eq_of_lt (by omega)
 have e2:(BitVec.ofInt 64 (1:Int)).toNat=1:=by decide
 show IntKind.i64.wrap ((BitVec.ofInt 64 (a:Int) ^^^ BitVec.ofInt 64 (1:Int)).toNat:Int)=_
 rw[BitVec.toNat_xor,e1,e2,h3]
 exact IntWalk.i64_in _ (by unfold flip;split<;>omega)
end
end Net
end Go.Proofs.YtnegbdpggideiaaGreatDoor
namespace Go.Proofs.YtnegbdpggideiaaGreatDoor
namespace PW
section
open Go.RowKit cE Mem Net
abbrev num(n:Int):PV:=.raw (.int .i64 n)
abbrev flag(b:Bool):PV:=.raw (.bool b)
theorem cm{α:Type}{L:List α}{i:Nat}{d:α}(h:i<L.length):L.getD i d∈L:=by
 have:L.getD i d=L[i]:=by simp[h]
 rw[this];exact List.getElem_mem h
theorem dK{α:Type}(L:List α)(i:Nat)(d:α)(h:i<L.length):L.take (i+1)=L.take i++[L.getD i d]:=by
 rw[List.take_add_one];simp[h]
def aK(L:List Int):List PV:=L.map fun n=>.raw (.int .i64 n)
def bX(L:List Bool):List PV:=L.map fun b=>.raw (.bool b)
def au(L:List Int):PV:=.slice L.length (aK L)
def bq(L:List Bool):PV:=.slice L.length (bX L)
def la(l:nM):List PV:=[.raw (.int .i64 l.a),.raw (.int .i64 l.b),.raw (.int .i64 l.c0),.raw (.int .i64 l.c1),.raw (.int .i64 l.cap),.raw (.int .i64 l.fK),.raw (.int .i64 l.vF)]
def iA(L:List nM):List PV:=L.flatMap la
def bC(T:an):List PV:=[.raw (.int .i64 T.nodes),bq T.over,.slice T.ag.length (iA T.ag)]
def aN(T:an):PV:=.agg (bC T)
instance (L:List Int):aL (aK L):=aL.map _ _ fun _=>inferInstance
instance (L:List Bool):aL (bX L):=aL.map _ _ fun _=>inferInstance
instance (L:List Int):dz (aK L):=dz.map _ _ fun _=>inferInstance
instance (l:nM):aL (la l):=by unfold la;infer_instance
instance (L:List nM):aL (iA L):=aL.flatMap _ _ fun _=>inferInstance
instance (L:List Int):IsPure (au L):=by unfold au;infer_instance
instance (L:List Bool):IsPure (bq L):=by unfold bq;infer_instance
instance (T:an):aL (bC T):=by unfold bC;infer_instance
instance (T:an):IsPure (aN T):=by unfold aN;infer_instance
instance (L:List Int):gu (au L):=by unfold au;infer_instance
theorem aB(L:List Int)(i:Nat)(h:i<L.length):(aK L)[i]? =some (.raw (.int .i64 (L.getD i 0))):=by simp[aK,h]
theorem dy(L:List Bool)(i:Nat)(h:i<L.length):(bX L)[i]? =some (.raw (.bool (L.getD i false))):=by simp[bX,h]
theorem cY(L M:List Int):aK L++aK M=aK (L++M):=by simp[aK]
theorem dA(L:List Int)(n:Int):aK L++[.raw (.int .i64 n)]=aK (L++[n]):=by simp[aK]
theorem BA(L:List Int)(i:Nat)(n:Int)(h:i<L.length):over (aK L) i [.raw (.int .i64 n)]=aK (L.set i n):=by
 unfold over aK
 rw[List.map_set,List.set_eq_take_append_cons_drop,if_pos (by simpa using h)]
 simp
theorem zt(L:List Bool)(i:Nat)(n:Bool)(h:i<L.length):over (bX L) i [.raw (.bool n)]=bX (L.set i n):=by
 unfold over bX
 rw[List.map_set,List.set_eq_take_append_cons_drop,if_pos (by simpa using h)]
 simp
theorem bT.mono{P:Program}{f:FuncId}{ps:List PV}{σ:cc}{R R':PV→cc→Prop}(h:bT P f ps σ R)(hr:∀r σ',R r σ'→R' r σ'):bT P f ps σ R':=fun F base E w vs hS hR=>
 (h F base E w vs hS hR).mono fun _ _ ⟨v,r,σ',E',h1,h2,h3⟩=>⟨v,r,σ',E',h1,hr r σ' h2,h3⟩
theorem bO{P:Program}{σ:cc}{t:cg}{o:Oper}{ty e n:Nat}{x y:Operand}{i j:Nat}{c:Int}{L:List Int}(ho:o.op= .store ty x y)(hk:sM P ty=some none)(hx:aF t x=some (.ptr i j))(hy:aF t y=some (num c))(hi:σ[i]? =some (some (.row e 1 n (aK L))))(hj:j<L.length):
  cj P σ t o (.raw undef) (σ.set i (some (.row e 1 n (aK (L.set j c))))):=by
 have:=cb ho hk hx hy hi (by show j<(aK L).length;simpa[aK]using hj)
 have he:cJ.p7 (.row e 1 n (aK L)) (over (cJ.xs (.row e 1 n (aK L))) j [num c])= .row e 1 n (aK (L.set j c)):=by
  show cJ.row e 1 n (over (aK L) j [num c])=_
  rw[BA L j c hj]
 rw[he]at this
 exact this
theorem bf{P:Program}{σ:cc}{t:cg}{o:Oper}{ty e n:Nat}{x y:Operand}{i j:Nat}{c:Bool}{L:List Bool}(ho:o.op= .store ty x y)(hk:sM P ty=some none)(hx:aF t x=some (.ptr i j))(hy:aF t y=some (flag c))(hi:σ[i]? =some (some (.row e 1 n (bX L))))(hj:j<L.length):
  cj P σ t o (.raw undef) (σ.set i (some (.row e 1 n (bX (L.set j c))))):=by
 have:=cb ho hk hx hy hi (by show j<(bX L).length;simpa[bX]using hj)
 have he:cJ.p7 (.row e 1 n (bX L)) (over (cJ.xs (.row e 1 n (bX L))) j [flag c])= .row e 1 n (bX (L.set j c)):=by
  show cJ.row e 1 n (over (bX L) j [flag c])=_
  rw[zt L j c hj]
 rw[he]at this
 exact this
theorem dc(n:Nat):dP [.raw (.int .i64 0)] n=aK (List.replicate n 0):=by
 induction n with
 |zero=>rfl
 |succ n ih=>simp only[dP,ih,List.replicate_succ,aK];rfl
theorem iy(n:Nat):dP [.raw (.bool false)] n=bX (List.replicate n false):=by
 induction n with
 |zero=>rfl
 |succ n ih=>simp only[dP,ih,List.replicate_succ,bX];rfl
theorem fq(L:List nM)(i j:Nat)(hi:i<L.length)(hj:j<7):(iA L)[i*7+j]? =(la (cC L i))[j]? :=by
 induction L generalizing i with
 |nil=>simp at hi
 |cons l L ih=>
  cases i with
  |zero=>
   simp only[iA,List.flatMap_cons,Nat.zero_mul,Nat.zero_add]
   rw[List.getElem?_append_left (by simp[la];omega)]
   rfl
  |succ i=>
   have:=ih i (by simpa using hi)
   simp only[iA,List.flatMap_cons]at*
   rw[List.getElem?_append_right (by simp[la];omega)]
   rw[show(i+1)*7+j - (la l).length=i*7+j by simp[la];omega]
   rw[this]
   rfl
theorem eo{E:Env}{w:World}{v u:Value}(h:cK E w v (.raw u)):v=u:=by cases h;rfl
theorem JB{E:Env}{w:World}{vs:Array Value}{p:PV}(h:bd E w vs.toList [p]):∃v,vs= #[v]∧cK E w v p:=by
 obtain⟨l⟩:=vs
 match l,h with
 | [v],h=>exact⟨v,rfl,h.DN.1⟩
 | [],h=>simp[bd]at h
 |_::_::_,h=>simp[bd]at h
theorem DT(L:List nM)(i:Nat)(hi:i<L.length):((iA L).drop (i*7)).take 7=la (cC L i):=by
 refine List.ext_getElem? fun j=>?_
 by_cases hj:j<7
 ·rw[List.getElem?_take,if_pos hj,List.getElem?_drop,fq L i j hi hj]
 ·rw[List.getElem?_eq_none (by simp;omega),List.getElem?_eq_none (by simp[la];omega)]
end
end PW
end Go.Proofs.YtnegbdpggideiaaGreatDoor
namespace Go.Proofs.YtnegbdpggideiaaGreatDoor
namespace PW
open Go.RowKit cE Mem
open Go.Deep
section
variable {P:Program} {H:Type} {enc:TypeId×Value→H} {W:World}
abbrev EN:Env:=EF fun _=>False
theorem ru{α:Type}{f:α→List PV}{s:Nat}{t e:TypeId}{fuel:Nat}{v:Value}{x:DataW H×List MemPlace}(ht:P.underlying t=some (.slice e))(hc:P.cellsOf e=s)(hs0:0<s)
  (hel:∀n cs y,DataW.trod enc P W 0 (fun _=>true) true n e cs=some y→cs.length=s→∃a,bd EN W cs (f a))
  (h:DataW.trod enc P W 0 (fun _=>true) true fuel t [v]=some x):∃L:List α,cK EN W v (.slice L.length (L.flatMap f)):=by
 rcases open_slice ht h with⟨hcs,_⟩|⟨a,len,cap,m,n,D,Pl,hcs,_,hl,hm,hmm,_,hx⟩
 ·simp at hcs;subst hcs
  exact⟨[],.bQ⟩
 ·simp at hcs;subst hcs
  rw[hc]at hx
  simp only[if_true]at hmm
  subst hmm
  have hall:∀k,k≤len→∃(L:List α) (cs:List Value),L.length=k∧cs.length=k*s∧bd EN W cs (L.flatMap f)∧∀(i:Nat) u,cs[i]? =some u→W.cell? (a.add i)=some u:=by
   intro k
   induction k with
   |zero=>intro _;exact⟨[],[],rfl,by simp,bd.nil _ _,fun i u h=>by simp at h⟩
   |succ k ih=>
    intro hk
    obtain⟨L,cs,h1,h2,h3,h4⟩:=ih (by omega)
    obtain⟨cs',h5,h6⟩:=hx k (by omega)
    obtain⟨_,hlen,hget⟩:=World.cells?_some h5
    obtain⟨b,hb⟩:=hel n cs' _ h6 hlen
    refine⟨L++[b],cs++cs',by simp[h1],by rw[List.length_append,h2,hlen,Nat.succ_mul],by rw[List.flatMap_append];simpa using h3.append hb,fun i u hu=>?_⟩
    by_cases hi:i<cs.length
    ·rw[List.getElem?_append_left hi]at hu;exact h4 i u hu
    ·rw[List.getElem?_append_right (by omega)]at hu
     have hj:i - cs.length<s:=by have:=(List.getElem?_eq_some_iff.1 hu).1;omega
     have:=hget (i - cs.length) hj
     rw[hu]at this
     rw[←this]
     rw[Addr.add_add]
     congr 2
     omega
  obtain⟨L,cs,h1,h2,h3,h4⟩:=hall len (Nat.le_refl _)
  by_cases h0:len=0
  ·subst h0
   have:L=[]:=List.eq_nil_of_length_eq_zero h1
   subst this
   exact⟨[],.empty _ _ hm⟩
  ·obtain⟨b,off,spot⟩:=a
   have hlt:0<cs.length:=by rw[h2];exact Nat.mul_pos (by omega) hs0
   have hc0:=h4 0 cs[0] (by simp[hlt])
   have hspot:spot=none:=by simpa[Addr.add]using World.cell?_spot hc0
   subst hspot
   have hbs:b<W.heap.size:=by
    unfold World.cell? at hc0
    split at hc0
    ·rename_i hh;exact(Array.getElem?_eq_some_iff.1 hh).1
    ·cases hc0
   refine⟨L,?_⟩
   rw[h1]
   exact .slice b off len _ cs _ (by omega) hl hm hbs (fun hf=>hf) (fun i u hu=>by have:=h4 i u hu;rw[Addr.add_lit]at this;exact this) h3.1 h3.2
end
end PW
end Go.Proofs.YtnegbdpggideiaaGreatDoor
