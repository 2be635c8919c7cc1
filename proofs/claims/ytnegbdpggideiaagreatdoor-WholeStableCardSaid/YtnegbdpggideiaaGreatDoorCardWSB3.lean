/- Texts of the proof, part 3. -/
import Derived.Test.YtnegbdpggideiaaGreatDoorProg
import Derived.WalkKit
import Derived.ProofKit
import Derived.Test.YtnegbdpggideiaaGreatDoorCardWSB2
set_option linter.unusedVariables false
set_option linter.unusedSimpArgs false
set_option maxRecDepth 10000
set_option maxHeartbeats 1000000
namespace Go.Proofs.YtnegbdpggideiaaGreatDoor
namespace PW
open Go.RowKit cA Mem
class sh (p:PV):Prop where
 out:∀(E:Env) (w w':World) (v:Value),cz E w v p→cz E w' v p
 I6:∀(E:Env) (w:World) (v v':Value),cz E w v p→cz E w v' p→v=v'
instance (v:Value):sh (.raw v):=⟨fun _ _ _ _ h=>by cases h;exact .raw _,fun _ _ _ _ h h'=>by cases h;cases h';rfl⟩
instance (i:Nat):sh (.own i):=⟨fun _ _ _ _ h=>by cases h with|own _ hi _ h hs=>exact .own i hi _ h hs,fun _ _ _ _ h h'=>by
 cases h with
 |own _ _ _ h _=>cases h' with
  |own _ _ _ h' _=>rw[←h,←h']⟩
instance (i k:Nat):sh (.ptr i k):=⟨fun _ _ _ _ h=>by cases h with|ptr _ _ b hi h=>exact .ptr i k b hi h,fun E w v v' h h'=>by
 cases h with
 |ptr _ _ b _ h=>cases h' with
  |ptr _ _ b' _ h'=>
   have:b=b':=by
    rcases h with h|⟨n,c,h⟩<;>rcases h' with h'|⟨n',c',h'⟩<;>rw[h]at h'<;>simp at h'<;>first|exact h'|exact h'.1
   rw[this]⟩
section
variable {P:Program} {ops:Array Oper} {N L:Nat}
def kJ(P:Program)(t:bZ)(o:Oper)(p:PV):Prop:=∀E ρ w,jT ρ→dQ E w ρ t→∃v,(∀w',(execOp ρ o).run P w'= .ok (.value v) w')∧cz E w v p
theorem mo{t:bZ}{o:Oper}{x:Operand}{p:PV}(ho:o.op= .move x)(hx:aC t x=some p):kJ P t o p:=fun E ρ w hρ hT=>
 ⟨ρ x,fun w'=>by simp only[execOp,ho,Sem.run_pure],aw hρ hT hx⟩
theorem Ib{t:bZ}{o:Oper}{op:BinOp}{x y:Operand}{ty tz:TypeId}{k:IntKind}{a b:Int}{v:Value}(ho:o.op= .binOp op ty x y tz)(hx:aC t x=some (.raw (.int k a)))(hy:aC t y=some (.raw (.int k b)))
  (hv:∀w,(binOp op ty (.int k a) (.int k b)).run P w= .ok v w):kJ P t o (.raw v):=fun E ρ w hρ hT=>by
 have h1:=aw hρ hT hx
 have h2:=aw hρ hT hy
 generalize hz:ρ x=z at h1
 generalize hz':ρ y=z' at h2
 cases h1
 cases h2
 have hg:∀w,(eqGuard op ty x y (.int k a) (.int k b)).run P w= .ok () w:=by
  intro w;unfold eqGuard;split<;>rfl
 exact⟨v,fun w'=>by simp only[execOp,ho,hz,hz',Sem.run_bind,Sem.run_pure,Result.andThen_ok,hg,hv],.raw _⟩
theorem Im{t:bZ}{o:Oper}{x y:Operand}{ty tz:TypeId}{a b c:Int}(ho:o.op= .binOp .sub ty x y tz)(hx:aC t x=some (.raw (.int .i64 a)))(hy:aC t y=some (.raw (.int .i64 b)))(hc:a - b=c)(hn:In64 c):kJ P t o (.raw (.int .i64 c)):=
 Ib ho hx hy fun w=>by simp[binOp,Op.intArith,hc,jg hn]
theorem kJ.y{t:bZ}{o:Oper}{p:PV}{σ:cd}(h:kJ P t o p):bg P σ t o p:=fun F base E ρ w hρ _ hT=>by
 obtain⟨v,h1,h2⟩:=h E ρ w hρ hT
 rw[h1];exact bd h2
def mC:List Oper→List PV→bZ→bZ
 |o::l,p::ps,t=>mC l ps (match o.dst with|some d=>(d,p)::t|none=>t)
 |_,_,t=>t
inductive iQ (P:Program) (N:Nat) (ops:Array Oper) (σ:cd):List Oper→List PV→List Bool→bZ→Prop
 |nil {t:bZ}:iQ P N ops σ [] [] [] t
 |val {o:Oper} {rest:List Oper} {t:bZ} {d:Nat} {p:PV} {ps:List PV} {fs:List Bool} (ks:List Nat):(ks.all fun k=>(o.looksAt ops).contains k)=true→bg P σ (fS t ks) o p→o.dst=some d→Nat.blt d N=true→iQ P N ops σ rest ps fs ((d,p)::t)→iQ P N ops σ (o::rest) (p::ps) (false::fs) t
 |late {o:Oper} {rest:List Oper} {t:bZ} {d:Nat} {p:PV} {ps:List PV} {fs:List Bool} (ks:List Nat):(ks.all fun k=>(o.looksAt ops).contains k)=true→kJ P (fS t ks) o p→sh p→o.dst=some d→Nat.blt d N=true→iQ P N ops σ rest ps fs ((d,p)::t)→iQ P N ops σ (o::rest) (p::ps) (true::fs) t
structure Datum (P:Program) (N:Nat) (ops:Array Oper) (σ:cd) (o:Oper) (p:PV) (fl:Bool) (t:bZ):Prop where
 dst:∃d,o.dst=some d∧d<N
 y:∃ks,(∀k∈ks,k∈o.looksAt ops)∧bg P σ (fS t ks) o p
 r:fl=true→sh p∧∃ks,(∀k∈ks,k∈o.looksAt ops)∧kJ P (fS t ks) o p
theorem iQ.data{σ:cd}{l:List Oper}{ps:List PV}{fs:List Bool}{t:bZ}(h:iQ P N ops σ l ps fs t):ps.length=l.length∧fs.length=l.length∧∀(i:Nat) o p f,l[i]? =some o→ps[i]? =some p→fs[i]? =some f→Datum P N ops σ o p f (mC (l.take i) (ps.take i) t):=by
 have mem:∀ {ks:List Nat} {o:Oper},(ks.all fun k=>(o.looksAt ops).contains k)=true→∀k∈ks,k∈o.looksAt ops:=fun h k hk=>by
  have:=List.all_eq_true.1 h k hk;simpa using this
 induction h with
 |nil=>exact⟨rfl,rfl,fun i o p f h=>by simp at h⟩
 | @val o rest t d p ps fs ks hks hy hd hN _ ih=>
  refine⟨by simp[ih.1],by simp[ih.2.1],fun i o' p' f h1 h2 h3=>?_⟩
  cases i with
  |zero=>
   simp at h1 h2 h3
   subst h1;subst h2;subst h3
   exact⟨⟨d,hd,Nat.blt_eq.mp hN⟩,⟨ks,mem hks,hy⟩,fun e=>by cases e⟩
  |succ i=>
   have:=ih.2.2 i o' p' f (by simpa using h1) (by simpa using h2) (by simpa using h3)
   simpa[mC,hd]using this
 | @late o rest t d p ps fs ks hks hy hfp hd hN _ ih=>
  refine⟨by simp[ih.1],by simp[ih.2.1],fun i o' p' f h1 h2 h3=>?_⟩
  cases i with
  |zero=>
   simp at h1 h2 h3
   subst h1;subst h2;subst h3
   exact⟨⟨d,hd,Nat.blt_eq.mp hN⟩,⟨ks,mem hks,hy.y⟩,fun _=>⟨hfp,ks,mem hks,hy⟩⟩
  |succ i=>
   have:=ih.2.2 i o' p' f (by simpa using h1) (by simpa using h2) (by simpa using h3)
   simpa[mC,hd]using this
def cg(ops:Array Oper)(i:Nat):Option Nat:=(ops[i]?).bind (·.dst)
def dP(ops:Array Oper)(i:Nat):List Nat:=match ops[i]? with|some o=>o.looksAt ops|none=>[]
def FN(ops:Array Oper)(f m:Nat)(fl:List Bool):Bool:=
 decide (m≤ops.size)&&Nat.beq fl.length m&&
 ((List.range ops.size).all fun i=>(kT ops i).all fun k=>decide (k<i))&&
 ((List.range ops.size).all fun i=>((ops[i]?).all fun o=>o.guard.isNone))&&
 ((List.range m).all fun i=>(List.range i).all fun j=>cg ops i !=cg ops j)&&
 ((List.range m).all fun j=>(dP ops j).all fun k=>(List.range m).all fun i=>cg ops i !=some k||(decide (i<j)&&(kT ops j).contains i))&&
 ((List.range ops.size).all fun i=>decide (i<m)||(List.range i).all fun j=>fl.getD j false||eK ops f i j)&&
 ((List.range ops.size).all fun i=>decide (i<m)||(List.range m).all fun j=> !fl.getD j false||((cg ops j).all fun d=> !(dP ops i).contains d||eK ops f i j))&&
 ((List.range ops.size).all fun i=>decide (i<m)||(List.range m).all fun j=> !fl.getD j false||((cg ops i).all fun d=>cg ops j !=some d&& !(dP ops j).contains d))
structure Form (ops:Array Oper) (f m:Nat) (fl:List Bool):Prop where
 le:m≤ops.size
 IF:fl.length=m
 kT:∀i,i<ops.size→∀k∈kT ops i,k<i
 ng:∀(i:Nat) (o:Oper),ops[i]? =some o→o.guard=none
 ss:∀i j,i<m→j<i→cg ops i≠cg ops j
 rd:∀j,j<m→∀k∈dP ops j,∀i,i<m→cg ops i=some k→i<j∧i∈PW.kT ops j
 Ja:∀i,i<ops.size→m≤i→∀j,j<i→fl.getD j false=false→eK ops f i j=true
 use:∀i,i<ops.size→m≤i→∀j,j<m→fl.getD j false=true→∀d,cg ops j=some d→d∈dP ops i→eK ops f i j=true
 wr:∀i,i<ops.size→m≤i→∀j,j<m→fl.getD j false=true→∀d,cg ops i=some d→cg ops j≠some d∧d∉dP ops j
theorem Am{f m:Nat}{fl:List Bool}(h:FN ops f m fl=true):Form ops f m fl:=by
 unfold FN at h
 simp only[Bool.and_eq_true]at h
 obtain⟨⟨⟨⟨⟨⟨⟨⟨h1,h2⟩,h3⟩,h4⟩,h5⟩,h6⟩,h7⟩,h8⟩,h9⟩:=h
 have all:∀ {n:Nat} {p:Nat→Bool},(List.range n).all p=true→∀i,i<n→p i=true:=fun h i hi=>List.all_eq_true.1 h i (List.mem_range.2 hi)
 refine⟨by simpa using h1,Nat.eq_of_beq_eq_true h2,fun i hi k hk=>?_,fun i o ho=>?_,fun i j hi hj=>?_,fun j hj k hk i hi hd=>?_,fun i hi hm j hj hf=>?_,fun i hi hm j hj hf d hd hl=>?_,fun i hi hm j hj hf d hd=>?_⟩
 ·have:=List.all_eq_true.1 (all h3 i hi) k hk;simpa using this
 ·have hi:i<ops.size:=(Array.getElem?_eq_some_iff.1 ho).1
  have:=all h4 i hi
  rw[ho]at this
  simpa using this
 ·have:=all (all h5 i hi) j hj
  simpa using this
 ·have:=all (List.all_eq_true.1 (all h6 j hj) k hk) i hi
  rw[hd]at this
  simpa using this
 ·have:=all h7 i hi
  simp only[Bool.or_eq_true,decide_eq_true_eq]at this
  rcases this with h|h
  ·omega
  ·have:=all h j hj
   rw[hf]at this
   simpa using this
 ·have:=all h8 i hi
  simp only[Bool.or_eq_true,decide_eq_true_eq]at this
  rcases this with h|h
  ·omega
  ·have:=all h j hj
   rw[hf,hd]at this
   simpa[hl]using this
 ·have:=all h9 i hi
  simp only[Bool.or_eq_true,decide_eq_true_eq]at this
  rcases this with h|h
  ·omega
  ·have:=all h j hj
   rw[hf,hd]at this
   simpa using this
structure Dw (ops:Array Oper) (m:Nat) (fl:List Bool) (ls:Array Bool) (a a₁:Act):Prop where
 jQ:a.defers=a₁.defers
 size:a.tmps.size=a₁.tmps.size
 tmp:∀k,(∀j,j<m→fl.getD j false=true→ls.getD j true=false→cg ops j≠some k)→a.eval (.tmp k)=a₁.eval (.tmp k)
def Gf(P:Program)(ops:Array Oper)(m:Nat)(fl:List Bool)(a₁:Act):Prop:=
 ∀j o d,j<m→fl.getD j false=true→ops[j]? =some o→o.dst=some d→∀w,(execOp a₁.eval o).run P w= .ok (.value (a₁.eval (.tmp d))) w
theorem zv{i:Nat}{o:Oper}(ho:ops[i]? =some o){k:Nat}(hk:Operand.tmp k∈o.op.operands):k∈dP ops i:=by
 unfold dP
 rw[ho]
 exact List.mem_append_left _ (List.mem_filterMap.2 ⟨.tmp k,by simpa using hk,rfl⟩)
theorem my{i:Nat}{o:Oper}{a a₁:Act}(ho:ops[i]? =some o)(hs:∀cs b,o.op≠ .select cs b)(h:∀k∈dP ops i,a.eval (.tmp k)=a₁.eval (.tmp k)):execOp a.eval o=execOp a₁.eval o:=by
 refine execOp_congr o hs fun x hx=>?_
 match x,hx with
 | .tmp k,hx=>exact h k (zv ho hx)
 | .const v,_=>rfl
 | .global g,_=>rfl
 | .func g,_=>rfl
theorem Gt{a a₁:Act}(hd:a.defers=a₁.defers)(hs:a.tmps.size=a₁.tmps.size)(h:∀k,a.eval (.tmp k)=a₁.eval (.tmp k)):a=a₁:=by
 obtain⟨t,d⟩:=a
 obtain⟨t',d'⟩:=a₁
 simp only at hd hs
 subst hd
 congr
 apply Array.ext hs
 intro i h1 h2
 have:=h i
 simpa[Act.eval,h1,h2]using this
theorem iW(a:Act){d:Nat}(hd:d<a.tmps.size)(v:Value)(k:Nat):(a.put (some d) v).eval (.tmp k)=if k=d then v else a.eval (.tmp k):=by
 split
 ·rename_i e;subst e;simp[Act.put,Act.eval,hd]
 ·rename_i e;exact Act.eval_put (fun d' hd' heq=>by cases hd';cases heq;exact e rfl)
def B6(Qn:Act→World→Prop):Exit→Act→World→Prop
 | .normal,a,w=>Qn a w
 |_,_,_=>False
theorem Cw{o:Oper}{a a₁:Act}{w:World}{K K':Act→World→Prop}{Qn:Act→World→Prop}{Q:Exit→Act→World→Prop}(he:execOp a.eval o=execOp a₁.eval o)(hd:a.defers=a₁.defers)(hh:o.wp P a₁ w K (B6 Qn))(h:∀ds v w',K (({a₁ with defers:=ds}:Act).put o.dst v) w'→K' (({a with defers:=ds}:Act).put o.dst v) w'):o.wp P a w K' Q:=by
 have h1:∀v w',K (a₁.put o.dst v) w'→K' (a.put o.dst v) w':=fun v w' hk=>by
  have:=h a₁.defers v w' hk
  rw[←hd]at this
  exact this
 unfold Oper.wp at*
 rw[he]
 generalize (execOp a₁.eval o).run P w=x at*
 cases x with
 |ok n w'=>
  cases n<;>simp only[Oper.upon]at hh ⊢
  case value v=>exact h1 _ _ hh
  case skip=>exact h1 _ _ hh
  case defer d=>rw[hd];exact h _ _ _ hh
  case enter f args=>exact Calls.mono hh (fun e w'' he=>by cases e<;>first|exact h1 _ _ he|exact he.elim|exact(he.elim fun _ h=>h.elim fun _ h=>h.elim))
  case row r args=>exact Rows.mono hh (fun _ _ he=>h1 _ _ he)
  all_goals exact hh.elim
 |halt x w'=>cases x<;>simp only[Oper.upon]at hh ⊢ <;>exact hh.elim
theorem CI{f m:Nat}{fl:List Bool}(hF:Form ops f m fl)(hsel:∀(i:Nat) (o:Oper),ops[i]? =some o→∀cs b,o.op≠ .select cs b)(hfd:∀j,j<m→∃d,cg ops j=some d){Qn:Act→World→Prop}{Q:Exit→Act→World→Prop}(hQ:∀a w,Qn a w→Q .normal a w):
  ∀(fuel k r:Nat) (ls:Array Bool) (a a₁:Act) (w:World),k+r=ops.size→m≤k→ls.size=ops.size→(∀i,k≤i→i<ops.size→ls.getD i true=false)→(∀i,m≤i→i<k→ls.getD i true=true)→(∀i,i<m→fl.getD i false=false→ls.getD i true=true)→Down ops ls→fuel=bJ ls m+r→
   Dw ops m fl ls a a₁→Gf P ops m fl a₁→(∀j d,j<m→cg ops j=some d→d<a₁.tmps.size)→wpOps P ops (B6 Qn) (List.range' k r) a₁ w→wpAny P .any ops Q fuel ls a w:=by
 intro fuel
 induction fuel with
 |zero=>
  intro k r ls a a₁ w hk hm hsz hA hB hC hD hfu hag hfx hds h
  have hr:r=0:=by omega
  subst hr
  have hu:bJ ls m=0:=by omega
  have hall:∀i,i<ops.size→ls.getD i true=true:=fun i hi=>by
   rcases Nat.lt_or_ge i m with h'|h'
   ·exact cQ hu i h'
   ·exact hB i h' (by omega)
  have hr0:Region.ready .any ops ls=[]:=by
   apply List.eq_nil_iff_forall_not_mem.2
   intro i hi
   obtain⟨h1,h2,_⟩:=cw.1 hi
   rw[hall i h1]at h2;cases h2
  have:a=a₁:=Gt hag.jQ hag.size fun k=>hag.tmp k fun j hj _ hl=>by
   rw[cQ hu j hj]at hl;cases hl
  subst this
  exact⟨hr0,hQ a w h⟩
 |succ fuel ih=>
  intro k r ls a a₁ w hk hm hsz hA hB hC hD hfu hag hfx hds h
  have hf:∀b c (i:Nat),i<ops.size→ls.getD i b=ls.getD i c:=fun b c i hi=>by simp[show i<ls.size by omega]
  have hne:Region.ready .any ops ls≠[]:=by
   rcases Nat.eq_zero_or_pos (bJ ls m)with hu|hu
   ·have hkr:k<ops.size:=by omega
    have:k∈Region.ready .any ops ls:=cw.2 ⟨hkr,hA k (Nat.le_refl _) hkr,fun j hj=>by
     have:=hF.kT k hkr j hj
     rw[hf false true j (by omega)]
     rcases Nat.lt_or_ge j m with h'|h'
     ·exact cQ hu j h'
     ·exact hB j h' this⟩
    intro h0;rw[h0]at this;cases this
   ·obtain⟨i,h1,h2,h3⟩:=fc hu
    have hle:=hF.le
    have:i∈Region.ready .any ops ls:=cw.2 ⟨by omega,h2,fun j hj=>by
     have:=hF.kT i (by omega) j hj
     rw[hf false true j (by omega)];exact h3 j this⟩
    intro h0;rw[h0]at this;cases this
  refine⟨fun h0=>absurd h0 hne,fun i hi=>?_⟩
  obtain⟨hi1,hi2,hi3⟩:=cw.1 hi
  have ho:ops[i]? =some ops[i]:=by simp[hi1]
  have hwant:Region.wanted ops[i] (yielded ops a.tmps)=true:=by unfold Region.wanted;rw[hF.ng i _ ho]
  have hset:∀(j:Nat) b,(ls.setIfInBounds i true).getD j b=if j=i then true else ls.getD j b:=fun j b=>by
   by_cases e:i=j
   ·subst e;simp[show i<ls.size by omega]
   ·rw[if_neg (fun h=>e h.symm),Array.getD_eq_getD_getElem?,Array.getD_eq_getD_getElem?,Array.getElem?_setIfInBounds_ne e]
  have hdown:Down ops (ls.setIfInBounds i true):=fun j hj hj' q hq=>by
   rw[hset]
   split
   ·rfl
   ·rw[hset]at hj
    split at hj
    ·rename_i e;subst e;exact hi3 q hq
    ·exact hD j hj hj' q hq
  unfold wpOp
  rw[ho]
  simp only[hwant,if_true]
  rcases Nat.lt_or_ge i m with him|him
  ·
   have hfl:fl.getD i false=true:=by
    cases hb:fl.getD i false with
    |true=>rfl
    |false=>rw[hC i him hb]at hi2;cases hi2
   cases hd:(ops[i]).dst with
   |none=>
    obtain⟨d,hd'⟩:=hfd i him
    simp only[cg,ho,Option.bind_some]at hd'
    have:=hd.symm.trans hd'
    cases this
   |some d=>
    have hdo:cg ops i=some d:=by simp only[cg,ho,Option.bind_some];exact hd
    have hrun:=hfx i ops[i] d him hfl ho hd w
    have hex:execOp a.eval ops[i]=execOp a₁.eval ops[i]:=my ho (hsel i _ ho) fun q hq=>hag.tmp q fun j hj _ hjl hjd=>by
     have:=(hF.rd i him q hq j hj hjd).2
     have:=hi3 j this
     rw[hf false true j (by omega),hjl]at this
     cases this
    left
    unfold Oper.wp
    rw[hex,hrun]
    simp only[Oper.upon]
    rw[hd]
    have hda:=hds i d him hdo
    refine ih k r _ _ a₁ w hk hm (by simpa using hsz) (fun j hj hj'=>by rw[hset,if_neg (by omega)];exact hA j hj hj') (fun j hj hj'=>by rw[hset,if_neg (by omega)];exact hB j hj hj') (fun j hj hj'=>?_) hdown ?_ ⟨by simpa[Act.put]using hag.jQ,by simpa[Act.put]using hag.size,fun q hq=>?_⟩ hfx hds h
    ·rw[hset];split
     ·rfl
     ·exact hC j hj hj'
    ·have:=fe hi2 him (by have:=hF.le;omega);omega
    ·rw[iW a (by rw[hag.size];exact hda)]
     split
     ·rename_i e;rw[e]
     ·rename_i e
      refine hag.tmp q fun j hj hjf hjl hjd=>?_
      by_cases e2:j=i
      ·subst e2;rw[hdo]at hjd;cases hjd;exact e rfl
      ·exact hq j hj hjf (by rw[hset,if_neg e2];exact hjl) hjd
  ·
   have hik:i=k:=by
    rcases Nat.lt_or_ge i k with h'|h'
    ·rw[hB i him h']at hi2;cases hi2
    ·rcases Nat.lt_or_ge k i with h''|h''
     ·have hfk:fl.getD k false=false:=by
       have:=hF.IF
       simp[List.getD_eq_getElem?_getD,List.getElem?_eq_none (show fl.length≤k by omega)]
      have:=dO hsz hD hF.kT f i k hi1 (hF.Ja i hi1 him k h'' hfk) hi3
      rw[hf false true k (by omega),hA k (Nat.le_refl _) (by omega)]at this
      cases this
     ·omega
   subst hik
   obtain⟨r',rfl⟩:∃r',r=r'+1:=⟨r - 1,by omega⟩
   rw[List.range'_succ,wpOps_cons]at h
   unfold wpOp at h
   rw[ho]at h
   have hwant':Region.wanted ops[i] (yielded ops a₁.tmps)=true:=by unfold Region.wanted;rw[hF.ng i _ ho]
   simp only[hwant',if_true]at h
   have hh:=h.resolve_right (fun⟨_,_,_,hq⟩=>hq)
   have hex:execOp a.eval ops[i]=execOp a₁.eval ops[i]:=my ho (hsel i _ ho) fun q hq=>hag.tmp q fun j hj hjf hjl hjd=>by
    have:=dO hsz hD hF.kT f i j hi1 (hF.use i hi1 him j hj hjf q hjd hq) hi3
    rw[hf false true j (by have:=hF.le;omega),hjl]at this
    cases this
   left
   refine Cw hex hag.jQ hh fun ds v w' hK=>?_
   have hdd:∀d,(ops[i]).dst=some d→cg ops i=some d:=fun d hd=>by simp only[cg,ho,Option.bind_some];exact hd
   refine ih (i+1) r' _ _ _ w' (by omega) (by omega) (by simpa using hsz) (fun j hj hj'=>by rw[hset,if_neg (by omega)];exact hA j (by omega) hj') (fun j hj hj'=>?_) (fun j hj hj'=>by rw[hset,if_neg (by omega)];exact hC j hj hj') hdown ?_ ⟨?_,?_,fun q hq=>?_⟩ (fun j o d hj hjf hjo hjd w''=>?_) (fun j d hj hjd=>?_) hK
   ·rw[hset];split
    ·rfl
    ·exact hB j hj (by omega)
   ·have:bJ (ls.setIfInBounds i true) m=bJ ls m:=by
     have:∀q,q≤m→bJ (ls.setIfInBounds i true) q=bJ ls q:=by
      intro q
      induction q with
      |zero=>intro _;rfl
      |succ q ihq=>
       intro hq
       simp only[bJ]
       rw[ihq (by omega),hset q true,if_neg (show ¬q=i by omega)]
     exact this m (Nat.le_refl _)
    omega
   ·cases(ops[i]).dst<;>rfl
   ·cases(ops[i]).dst<;>simpa[Act.put]using hag.size
   ·have hq':∀j,j<m→fl.getD j false=true→ls.getD j true=false→cg ops j≠some q:=fun j hj hjf hjl=>hq j hj hjf (by rw[hset,if_neg (by omega)];exact hjl)
    cases hd:(ops[i]).dst with
    |none=>exact hag.tmp q hq'
    |some d=>
     by_cases hsz2:d<a.tmps.size
     ·rw[iW _ (by simpa using hsz2),iW _ (by rw[←hag.size];exact hsz2)]
      split
      ·rfl
      ·exact hag.tmp q hq'
     ·have e1:({a with defers:=ds}:Act).put (some d) v= {a with defers:=ds}:=by simp[Act.put,Array.setIfInBounds,hsz2]
      have e2:({a₁ with defers:=ds}:Act).put (some d) v= {a₁ with defers:=ds}:=by simp[Act.put,Array.setIfInBounds,←hag.size,hsz2]
      rw[e1,e2]
      exact hag.tmp q hq'
   ·have hj1:=hfx j o d hj hjf hjo hjd w''
    have hjd':cg ops j=some d:=by simp only[cg,hjo,Option.bind_some];exact hjd
    have key:∀q,(q∈dP ops j∨q=d)→(({a₁ with defers:=ds}:Act).put (ops[i]).dst v).eval (.tmp q)=a₁.eval (.tmp q):=fun q hq=>by
     refine Act.eval_put (a:= {a₁ with defers:=ds}) fun e he heq=>?_
     cases heq
     have:=hF.wr i hi1 him j hj hjf q (hdd q he)
     rcases hq with hq|rfl
     ·exact this.2 hq
     ·exact this.1 hjd'
    have he2:execOp (({a₁ with defers:=ds}:Act).put (ops[i]).dst v).eval o=execOp a₁.eval o:=my hjo (hsel j o hjo) fun q hq=>key q (.inl hq)
    rw[he2,hj1,key d (.inr rfl)]
   ·have:=hds j d hj hjd
    cases(ops[i]).dst<;>simpa[Act.put]using this
theorem kC:∀(l:List Oper) (ps:List PV) (t:bZ) (k:Nat) (p:PV),look k (mC l ps t)=some p→(∃(j:Nat) (o:Oper),l[j]? =some o∧o.dst=some k∧ps[j]? =some p)∨look k t=some p
 | [],_,t,k,p,h=>.inr (by simpa[mC]using h)
 |_::_,[],t,k,p,h=>.inr (by simpa[mC]using h)
 |o::l,q::ps,t,k,p,h=>by
  simp only[mC]at h
  rcases kC l ps _ k p h with⟨j,o',h1,h2,h3⟩|h'
  ·exact .inl ⟨j+1,o',by simpa using h1,h2,by simpa using h3⟩
  ·cases hd:o.dst with
   |none=>rw[hd]at h';exact .inr h'
   |some d=>
    rw[hd]at h'
    simp only[look]at h'
    rw[Bool.cond_eq_ite]at h'
    split at h'
    ·rename_i he
     have:=Nat.eq_of_beq_eq_true he
     subst this
     cases h'
     exact .inl ⟨0,o,rfl,hd,rfl⟩
    ·exact .inr h'
section
variable {F:Nat→Prop} {base:Nat} {E:Env} {σ:cd} {t:bZ} {l:List Oper} {ps:List PV} {fl:List Bool} {f m:Nat}
structure ki (N m:Nat) (l:List Oper) (ps:List PV) (E:Env) (t:bZ) (w:World) (dn:Nat→Prop) (a:Act) (w':World):Prop where
 ext:Ext w w'
 jQ:a.defers=[]
 size:a.tmps.size=N
 t0:dQ E w' a.eval t
 kz:∀j,j<m→dn j→∀d p,cg l.toArray j=some d→ps[j]? =some p→cz E w' (a.eval (.tmp d)) p
theorem iR{i:Nat}{o:Oper}(h:(l.take m)[i]? =some o):i<m∧l.toArray[i]? =some o∧cg l.toArray i=o.dst:=by
 rw[List.getElem?_take]at h
 split at h
 ·rename_i hi
  refine⟨hi,by simpa using h,?_⟩
  simp only[cg]
  have:l.toArray[i]? =some o:=by simpa using h
  rw[this];rfl
 ·cases h
theorem nO{dn:Nat→Prop}{a:Act}{w w':World}(hg:ki N m l ps E t w dn a w'){i:Nat}(hi:i≤m){ks:List Nat}(hdn:∀j k,j<i→k∈ks→cg l.toArray j=some k→dn j):dQ E w' a.eval (fS (mC ((l.take m).take i) (ps.take i) t) ks):=fun k p hk=>by
 obtain⟨h1,h2⟩:=iE ks k p hk
 rcases kC _ _ _ k p h2 with⟨j,o,h3,h4,h5⟩|h'
 ·rw[List.getElem?_take]at h3
  split at h3
  ·rename_i hj
   obtain⟨hjm,h6,h7⟩:=iR h3
   rw[List.getElem?_take,if_pos hj]at h5
   exact hg.kz j (by omega) (hdn j k hj h1 (by rw[h7];exact h4)) k p (by rw[h7];exact h4) h5
  ·cases h3
 ·exact hg.t0 k p h'
theorem rh{dn:Nat→Prop}{a:Act}{w w' w'':World}(hF:Form l.toArray f m fl)(hfr:∀i d,i<m→cg l.toArray i=some d→look d t=none)(hg:ki N m l ps E t w dn a w')(hE:Ext w' w''){i d:Nat}{p:PV}(hi:i<m)(hd:cg l.toArray i=some d)(hdN:d<N)(hp:ps[i]? =some p){v:Value}(hv:cz E w'' v p):
  ki N m l ps E t w (fun j=>dn j∨j=i) (a.put (some d) v) w'':=by
 refine⟨hg.ext.trans hE,by simpa[Act.put]using hg.jQ,by simpa[Act.put]using hg.size,fun k q hk=>?_,fun j hj hdj d' q hd' hq=>?_⟩
 ·have hne:k≠d:=fun e=>by subst e;rw[hfr i k hi hd]at hk;cases hk
  rw[iW a (by rw[hg.size];exact hdN),if_neg hne]
  exact(hg.t0 k q hk).ext hE
 ·rw[iW a (by rw[hg.size];exact hdN)]
  by_cases e:j=i
  ·subst e
   rw[hd]at hd';cases hd'
   rw[hp]at hq;cases hq
   rw[if_pos rfl];exact hv
  ·have hne:d'≠d:=fun e'=>by
    subst e'
    rcases Nat.lt_or_ge i j with h'|h'
    ·exact hF.ss j i hj h' (by rw[hd,hd'])
    ·exact hF.ss i j hi (by omega) (by rw[hd,hd'])
   rw[if_neg hne]
   exact(hg.kz j hj (hdj.resolve_right e) d' q hd' hq).ext hE
theorem ki.mono{dn dn':Nat→Prop}{a:Act}{w w':World}(h:ki N m l ps E t w dn a w')(hd:∀j,j<m→dn' j→dn j):ki N m l ps E t w dn' a w':=⟨h.ext,h.jQ,h.size,h.t0,fun j hj hj'=>h.kz j hj (hd j hj hj')⟩
theorem Dp(hF:Form l.toArray f m fl)(hml:m≤l.length)(hfr:∀i d,i<m→cg l.toArray i=some d→look d t=none)(hc:iQ P N l.toArray σ (l.take m) ps fl t){ls:Array Bool}{a:Act}{w w':World}(hg:ki N m l ps E t w (fun j=>ls.getD j true=true) a w')(hall:∀i,i<m→fl.getD i false=false→ls.getD i true=true):
  ∃a₁,Dw l.toArray m fl ls a a₁∧ki N m l ps E t w (fun _=>True) a₁ w':=by
 obtain⟨hl1,hl2,hdat⟩:=hc.data
 have hlen:(l.take m).length=m:=by simp;omega
 have key:∀q,q≤m→∃b,Dw l.toArray m fl ls a b∧ki N m l ps E t w (fun j=>ls.getD j true=true∨j<q) b w':=by
  intro q
  induction q with
  |zero=>intro _;exact⟨a,⟨rfl,rfl,fun _ _=>rfl⟩,hg.mono fun j _ h=>h.resolve_right (by omega)⟩
  |succ q ih=>
   intro hq
   obtain⟨b,hag,hgb⟩:=ih (by omega)
   cases hb:ls.getD q true with
   |true=>exact⟨b,hag,hgb.mono fun j _ h=>by
     rcases h with h|h
     ·exact .inl h
     ·by_cases e:j=q
      ·subst e;exact .inl hb
      ·exact .inr (by omega)⟩
   |false=>
    have hfq:fl.getD q false=true:=by
     cases hf:fl.getD q false with
     |true=>rfl
     |false=>rw[hall q (by omega) hf]at hb;cases hb
    have ho:(l.take m)[q]? =some ((l.take m)[q]'(by omega)):=List.getElem?_eq_getElem (by omega)
    obtain⟨_,hoq,hdq⟩:=iR ho
    have hpq:ps[q]? =some (ps[q]'(by omega)):=by simp
    have hff:fl[q]? =some true:=by
     have:q<fl.length:=by rw[hl2,hlen];omega
     simp[this]at hfq ⊢;exact hfq
    have D:=hdat q _ _ _ ho hpq hff
    obtain⟨d,hd,hdN⟩:=D.dst
    obtain⟨_,ks,hks,hR⟩:=D.r rfl
    have hrep:=nO hgb (i:=q) (by omega) (ks:=ks) (fun j k hj _ _=>.inr hj)
    obtain⟨v,_,hv⟩:=hR E b.eval w' (fZ b) hrep
    have hdd:cg l.toArray q=some d:=by rw[hdq];exact hd
    refine⟨b.put (some d) v,⟨by simpa[Act.put]using hag.jQ,by simpa[Act.put]using hag.size,fun k hk=>?_⟩,(rh hF hfr hgb (Ext.refl _) (by omega) hdd hdN hpq hv).mono fun j _ h=>?_⟩
    ·have hne:k≠d:=fun e=>hk q (by omega) hfq hb (by rw[hdd,e])
     rw[iW b (by rw[hgb.size];exact hdN),if_neg hne]
     exact hag.tmp k hk
    ·rcases h with h|h
     ·exact .inl (.inl h)
     ·by_cases e:j=q
      ·exact .inr e
      ·exact .inl (.inr (by omega))
 obtain⟨b,h1,h2⟩:=key m (Nat.le_refl _)
 exact⟨b,h1,h2.mono fun j hj _=>.inr hj⟩
theorem Bb(hml:m≤l.length)(hc:iQ P N l.toArray σ (l.take m) ps fl t){a:Act}{w w':World}(hg:ki N m l ps E t w (fun _=>True) a w'):Gf P l.toArray m fl a:=fun j o d hj hf ho hd w''=>by
 obtain⟨hl1,hl2,hdat⟩:=hc.data
 have hlen:(l.take m).length=m:=by simp;omega
 have hoj:(l.take m)[j]? =some o:=by rw[List.getElem?_take,if_pos hj];simpa using ho
 have hpj:ps[j]? =some (ps[j]'(by omega)):=by simp
 have hff:fl[j]? =some true:=by
  have:j<fl.length:=by rw[hl2,hlen];omega
  simp[this]at hf ⊢;exact hf
 have D:=hdat j _ _ _ hoj hpj hff
 obtain⟨hfix,ks,hks,hR⟩:=D.r rfl
 have hrep:=nO hg (i:=j) (by omega) (ks:=ks) (fun _ _ _ _ _=>trivial)
 obtain⟨v,hrun,hv⟩:=hR E a.eval w' (fZ a) hrep
 have hdd:cg l.toArray j=some d:=by rw[(iR hoj).2.2];exact hd
 have:=hfix.I6 E w' _ _ (hg.kz j hj trivial d _ hdd hpj) hv
 rw[this];exact hrun w''
end
theorem dI{id:Nat}{l:List Oper}{t t':bZ}{σ:cd}{Q:Exit→St→Prop}(m f:Nat){fl:List Bool}{ps:List PV}(hm:P.follows .mixedOrders=true)(hc:iQ P N l.toArray σ (l.take m) ps fl t)(hB:(FN l.toArray f m fl&&Region.noSelect l.toArray)=true)(hml:Nat.ble m l.length=true)
  (hfr:((l.take m).all fun o=>o.dst.all fun d=>(look d t).isNone)=true) (hsub:Sub (mC (l.take m) ps t) t') (hw:WR P N L l.toArray (l.drop m) ⟨t',σ⟩ (fun s=>Q .normal s)):W P N L (.region id l.toArray true) ⟨t,σ⟩ Q:=fun F base E₀ w₀ E a w hcm hs=>by
 simp only[Bool.and_eq_true]at hB
 have hF:=Am hB.1
 have hmle:m≤l.length:=Nat.ble_eq.mp hml
 obtain⟨hl1,hl2,hdat⟩:=hc.data
 have hlen:(l.take m).length=m:=by simp;omega
 have hfr':∀i d,i<m→cg l.toArray i=some d→look d t=none:=fun i d hi hd=>by
  have ho:(l.take m)[i]? =some ((l.take m)[i]'(by omega)):=List.getElem?_eq_getElem (by omega)
  have:=List.all_eq_true.1 hfr _ (List.mem_of_getElem? ho)
  rw[(iR ho).2.2]at hd
  rw[hd]at this
  simpa using this
 have hdst:∀i,i<m→∃d,cg l.toArray i=some d∧d<N:=fun i hi=>by
  have ho:(l.take m)[i]? =some ((l.take m)[i]'(by omega)):=List.getElem?_eq_getElem (by omega)
  have hp:ps[i]? =some (ps[i]'(by omega)):=by simp
  have hf:fl[i]? =some (fl[i]'(by omega)):=by simp
  obtain⟨d,h1,h2⟩:=(hdat i _ _ _ ho hp hf).dst
  exact⟨d,by rw[(iR ho).2.2];exact h1,h2⟩
 have hsel:∀(i:Nat) (o:Oper),l.toArray[i]? =some o→∀cs b,o.op≠ .select cs b:=fun i o ho cs b=>Region.noSelect_spec hB.2 i o cs b ho
 have main:∀(fuel:Nat) (ls:Array Bool) (a:Act) (w':World),ls.size=l.toArray.size→(∀i,m≤i→i<l.toArray.size→ls.getD i true=false)→Down l.toArray ls→fuel=bJ ls m+(l.toArray.size - m)→ki N m l ps E t w (fun j=>ls.getD j true=true) a w'→
   wpAny P .any l.toArray (fun e a' w'=>nG F base N E₀ w₀ (Q e) a' w') fuel ls a w':=by
  have rM:∀(fuel:Nat) (ls:Array Bool) (a:Act) (w':World),ls.size=l.toArray.size→(∀i,m≤i→i<l.toArray.size→ls.getD i true=false)→Down l.toArray ls→fuel=bJ ls m+(l.toArray.size - m)→ki N m l ps E t w (fun j=>ls.getD j true=true) a w'→
    (∀i,i<m→fl.getD i false=false→ls.getD i true=true)→wpAny P .any l.toArray (fun e a' w'=>nG F base N E₀ w₀ (Q e) a' w') fuel ls a w':=by
   intro fuel ls a w' hsz hrest hdn hfu hg hall
   obtain⟨a₁,hag,hg1⟩:=Dp hF hmle hfr' hc hg hall
   have hsat:dy F base N ⟨t',σ⟩ E a₁ w':=by
    refine⟨hs.sat.ext hg1.ext,dQ.sub (fun k p hk=>?_) hsub,hg1.jQ,hg1.size⟩
    rcases kC _ _ _ k p hk with⟨j,o,h1,h2,h3⟩|h'
    ·obtain⟨hj,_,h4⟩:=iR h1
     exact hg1.kz j hj trivial k p (by rw[h4];exact h2) h3
    ·exact hg1.t0 k p h'
   have gA:=hw F base E₀ w₀ E a₁ w' (hcm.on (.ext hg1.ext) (Below.ij hg1.ext hs.sat.bl)) hsat (B6 fun a' w'=>nG F base N E₀ w₀ (Q .normal) a' w') m (fun a' w' hp=>hp) (fun j=>by simp)
   refine CI hF hsel (fun j hj=>(hdst j hj).imp fun _ h=>h.1) (fun a w h=>h) fuel m (l.toArray.size - m) ls a a₁ w' (by have:=hF.le;omega) (Nat.le_refl _) hsz hrest (fun i h1 h2=>by omega) hall hdn hfu hag (Bb hmle hc hg1) (fun j d hj hd=>?_) (by simpa using gA)
   obtain⟨d',h1,h2⟩:=hdst j hj
   rw[hd]at h1;cases h1
   rw[hg1.size];exact h2
  intro fuel
  induction fuel with
  |zero=>
   intro ls a w' hsz hrest hdn hfu hg
   exact rM 0 ls a w' hsz hrest hdn hfu hg (fun i hi _=>cQ (m:=m) (by omega) i hi)
  |succ fuel ih=>
   intro ls a w' hsz hrest hdn hfu hg
   by_cases hall:∀i,i<m→fl.getD i false=false→ls.getD i true=true
   ·exact rM (fuel+1) ls a w' hsz hrest hdn hfu hg hall
   ·have hle:=hF.le
    obtain⟨j0,hj0,hj1,hj2⟩:∃j0,j0<m∧fl.getD j0 false=false∧ls.getD j0 true=false:=by
     apply Classical.byContradiction
     intro hno
     refine hall fun i hi hf=>?_
     cases hb:ls.getD i true with
     |true=>rfl
     |false=>exact absurd ⟨i,hi,hf,hb⟩ hno
    have hf:∀b c (i:Nat),i<l.toArray.size→ls.getD i b=ls.getD i c:=fun b c i hi=>by simp only[Array.getD_eq_getD_getElem?];simp[show i<ls.size by omega]
    have hpos:0<bJ ls m:=by
     rcases Nat.eq_zero_or_pos (bJ ls m)with h|h
     ·rw[cQ h j0 hj0]at hj2;cases hj2
     ·exact h
    obtain⟨i0,hi0,hi1,hi2⟩:=fc hpos
    have hne:i0∈Region.ready .any l.toArray ls:=cw.2 ⟨by omega,hi1,fun k hk=>by
     have:=hF.kT i0 (by omega) k hk
     rw[hf false true k (by omega)];exact hi2 k this⟩
    refine⟨fun h0=>absurd hne (by rw[h0];simp),fun i hi=>?_⟩
    obtain⟨h1,h2,h3⟩:=cw.1 hi
    have him:i<m:=by
     rcases Nat.lt_or_ge i m with h'|h'
     ·exact h'
     ·have:=dO hsz hdn hF.kT f i j0 h1 (hF.Ja i h1 h' j0 (by omega) hj1) h3
      rw[hf false true j0 (by omega),hj2]at this
      cases this
    have ho:(l.take m)[i]? =some ((l.take m)[i]'(by omega)):=List.getElem?_eq_getElem (by omega)
    obtain⟨_,hoi,hdi⟩:=iR ho
    have hp:ps[i]? =some (ps[i]'(by omega)):=by simp
    have hfi:fl[i]? =some (fl[i]'(by omega)):=by simp
    have D:=hdat i _ _ _ ho hp hfi
    obtain⟨d,hd,hdN⟩:=D.dst
    obtain⟨ks,hks,hY⟩:=D.y
    have hdd:cg l.toArray i=some d:=by rw[hdi];exact hd
    have hrep:=nO hg (i:=i) (by omega) (ks:=ks) (fun j k hj hk hjd=>by
     have hlk:k∈dP l.toArray i:=by
      unfold dP;rw[hoi];exact hks k hk
     have:=h3 j (hF.rd i him k hlk j (by omega) hjd).2
     rw[hf false true j (by omega)]at this
     exact this)
    unfold wpOp
    rw[hoi]
    have hwant:Region.wanted ((l.take m)[i]'(by omega)) (yielded l.toArray a.tmps)=true:=by unfold Region.wanted;rw[hF.ng i _ hoi]
    simp only[hwant,if_true]
    left
    refine oT (hY F base E a.eval w' (fZ a) (hs.sat.ext hg.ext) hrep) fun v w'' hE hv=>?_
    rw[hd]
    have hset:∀(j:Nat) b,(ls.setIfInBounds i true).getD j b=if j=i then true else ls.getD j b:=fun j b=>by
     by_cases e:i=j
     ·subst e;simp[show i<ls.size by omega]
     ·rw[if_neg (fun h=>e h.symm),Array.getD_eq_getD_getElem?,Array.getD_eq_getD_getElem?,Array.getElem?_setIfInBounds_ne e]
    refine ih _ _ w'' (by simpa using hsz) (fun j hj hj'=>by rw[hset j true,if_neg (show ¬j=i by omega)];exact hrest j hj hj') (fun j hj hj' q hq=>?_) (by have:=fe h2 him (by omega);omega) ((rh hF hfr' hg hE him hdd hdN hp hv).mono fun j hj hjj=>?_)
    ·rw[hset]
     split
     ·rfl
     ·rw[hset]at hj
      split at hj
      ·rename_i e;subst e;exact h3 q hq
      ·exact hdn j hj hj' q hq
    ·rw[hset]at hjj
     split at hjj
     ·rename_i e;exact .inr e
     ·exact .inl hjj
 obtain⟨arr,ds⟩:=a
 refine wp_region_any hm ?_
 have hE:Ext w {w with drawn:=w.drawn+1}:=⟨rfl,rfl,rfl,Nat.le_refl _,fun _ _=>rfl⟩
 have hul:∀k,k≤l.length→bJ (Array.replicate l.toArray.size false) k=k:=by
  intro k
  induction k with
  |zero=>intro _;rfl
  |succ k ih=>
   intro hk
   simp only[bJ]
   rw[ih (by omega),eP _ _ (by simp;omega)]
   simp
 refine main l.toArray.size (Array.replicate l.toArray.size false) ⟨arr,ds⟩ _ (by simp) (fun i _ hi=>eP _ _ hi _) (fun i hi hi'=>?_) (by rw[hul m hmle];simp;omega) ⟨hE,hs.jQ,hs.size,hs.tmp.goes (.ext hE),fun j hj hjl=>?_⟩
 ·rw[eP _ _ hi']at hi;cases hi
 ·rw[eP _ _ (by simp;omega)]at hjl;cases hjl
theorem kY{id:Nat}{l:List Oper}{y:Code}{t t':bZ}{σ:cd}{Q:Exit→St→Prop}(m f:Nat){fl:List Bool}{ps:List PV}(hm:P.follows .mixedOrders=true)(hc:iQ P N l.toArray σ (l.take m) ps fl t)(hB:(FN l.toArray f m fl&&Region.noSelect l.toArray)=true)(hml:Nat.ble m l.length=true)
  (hfr:((l.take m).all fun o=>o.dst.all fun d=>(look d t).isNone)=true) (hsub:Sub (mC (l.take m) ps t) t') (hw:WR P N L l.toArray (l.drop m) ⟨t',σ⟩ (fun s=>W P N L y s Q)):W P N L (.seq (.region id l.toArray true) y) ⟨t,σ⟩ Q:=aj (dI m f hm hc hB hml hfr hsub hw)
end
end PW
end Go.Proofs.YtnegbdpggideiaaGreatDoor
namespace Go.Proofs.YtnegbdpggideiaaGreatDoor
namespace PW
open Go.RowKit cA Mem
inductive Tr (α:Type) where
 |l
 |n (a:Tr α) (k:Nat) (v:α) (b:Tr α)
def Tr.get{α:Type}:Tr α→Nat→Option α
 | .l,_=>none
 | .n a k v b,j=>bif Nat.beq j k then some v else bif Nat.blt j k then a.get j else b.get j
inductive Tr.sZ {α:Type} (R:Nat→α→Prop):Tr α→Prop
 |l:Tr.sZ R .l
 |n {a b:Tr α} {k:Nat} {v:α}:Tr.sZ R a→R k v→Tr.sZ R b→Tr.sZ R (.n a k v b)
theorem Tr.sZ.get{α:Type}{R:Nat→α→Prop}{t:Tr α}(h:Tr.sZ R t){j:Nat}{v:α}:t.get j=some v→R j v:=by
 induction h with
 |l=>intro h;cases h
 | @n a b k u _ hr _ iha ihb=>
  intro h
  simp only[Tr.get,Bool.cond_eq_ite]at h
  split at h
  ·rename_i he
   cases Nat.eq_of_beq_eq_true he
   cases h
   exact hr
  ·split at h
   ·exact iha h
   ·exact ihb h
structure qP where
 tk:Tr (Option Nat)
 fo:Tr Nat
 el:Tr (Nat×Nat)
 st:Tr (List (Nat×Nat)×List Value)
 sl:Tr (Nat×Nat×List Value)
 rk:Tr (Nat×Nat×Nat×List Value)
 zk:Tr (List Value)
 bk:Tr Unit
 pk:Tr Unit
 ar:Tr (Nat×Nat)
 en:Tr Unit
structure qP.Ok (P:Program) (Φ:qP):Prop where
 tk:Φ.tk.sZ fun k v=>qV P k=some v
 fo:Φ.fo.sZ fun k v=>jP P (k / 100) (k % 100)=some v
 el:Φ.el.sZ fun k v=>wj P k=some v
 st:Φ.st.sZ fun k v=>Iw P k=some v
 sl:Φ.sl.sZ fun k v=>FW P k=some v
 rk:Φ.rk.sZ fun k v=>vI P k=some v
 zk:Φ.zk.sZ fun k v=>uU P k=some v
 bk:Φ.bk.sZ fun k _=>se P k=true
 pk:Φ.pk.sZ fun k _=>od P k=true
 ar:Φ.ar.sZ fun k v=>Ii P k=some v
 en:Φ.en.sZ fun k _=>enters P k=true
class Has (P:Program) (Φ:outParam qP):Prop where
 ok:qP.Ok P Φ
def force{α:Type}:List α→Option (List α)
 | []=>some []
 |x::l=>match force l with
  |some r=>some (x::r)
  |none=>none
theorem force_eq{α:Type}:∀ {l r:List α},force l=some r→l=r
 | [],r,h=>by cases h;rfl
 |x::l,r,h=>by
  simp only[force]at h
  split at h
  ·rename_i r' hr
   cases h
   rw[force_eq hr]
  ·cases h
def DR(xs:List PV)(k:Nat):Nat→Option (List PV)
 |0=>some []
 |n+1=>match xs[k]? with
  |some p=>match DR xs (k+1) n with
   |some r=>some (p::r)
   |none=>none
  |none=>none
theorem ye{xs:List PV}:∀ {n k:Nat} {ys:List PV},DR xs k n=some ys→(xs.drop k).take n=ys∧ys.length=n
 |0,k,ys,h=>by cases h;simp
 |n+1,k,ys,h=>by
  simp only[DR]at h
  split at h
  ·rename_i p hp
   split at h
   ·rename_i r hr
    cases h
    obtain⟨h1,h2⟩:=ye hr
    have hlt:=(List.getElem?_eq_some_iff.1 hp).1
    have hx:xs[k]=p:=by rw[List.getElem?_eq_getElem hlt]at hp;exact Option.some.inj hp
    refine⟨?_,by simp[h2]⟩
    rw[List.drop_eq_getElem_cons hlt,List.take_succ_cons,h1,hx]
   ·cases h
  ·cases h
def part(xs:List PV)(k n:Nat):Option PV:=bif Nat.beq k 0&&Nat.beq xs.length n then some (.agg xs) else match DR xs k n with
 |some ys=>some (.agg ys)
 |none=>none
def HV(op:BinOp)(a b:Int):Option PV:=
 match op with
 | .lss=>some (.raw (.bool (decide (a<b))))
 | .leq=>some (.raw (.bool (decide (a≤b))))
 | .gtr=>some (.raw (.bool (decide (b<a))))
 | .geq=>some (.raw (.bool (decide (b≤a))))
 | .eql=>some (.raw (.bool (decide (a=b))))
 | .neq=>some (.raw (.bool (decide (a≠b))))
 |_=>none
def Hj(Φ:qP)(op:BinOp)(ty:TypeId):PV→PV→Option PV
 | .raw (.int .i64 a),.raw (.int .i64 b)=>HV op a b
 | .raw (.bool a),.raw (.bool b)=>match Φ.bk.get ty with
  |some _=>match op with
   | .eql=>some (.raw (.bool (a==b)))
   | .neq=>some (.raw (.bool (!(a==b))))
   |_=>none
  |none=>none
 | .ptr _ _,.raw (.pointer none)=>match Φ.pk.get ty with
  |some _=>match op with
   | .eql=>some (.raw (.bool false))
   | .neq=>some (.raw (.bool true))
   |_=>none
  |none=>none
 | .aV _ _,.raw (.pointer none)=>match Φ.pk.get ty with
  |some _=>match op with
   | .eql=>some (.raw (.bool false))
   |_=>none
  |none=>none
 |_,_=>none
def fv(Φ:qP)(σ:cd)(t:bZ):Op→Option PV
  | .move x=>aC t x
  | .assign x=>aC t x
  | .pick c a b=>match aC t c with
    |some (.raw (.bool true))=>aC t a
    |some (.raw (.bool false))=>aC t b
    |_=>none
  | .unOp .not _ x=>match aC t x with
    |some (.raw (.bool q))=>some (.raw (.bool (!q)))
    |_=>none
  | .binOp op ty x y _=>match aC t x with
    |some p=>match aC t y with
      |some q=>Hj Φ op ty p q
      |none=>none
    |none=>none
  | .nilCheck x=>match aC t x with
    |some (.aV xs k)=>some (.aV xs k)
    |some (.ptr i k)=>some (.ptr i k)
    |some (.func f c)=>some (.func f c)
    |_=>none
  | .fieldAddr s x f=>bif Nat.blt f 100 then match Φ.fo.get (s*100+f)with
      |some off=>match aC t x with
        |some (.aV xs k)=>some (.aV xs (k+off))
        |some (.ptr i k)=>some (.ptr i (k+off))
        |_=>none
      |none=>none
    else none
  | .load ty x=>match Φ.tk.get ty with
    |some none=>match aC t x with
      |some (.aV xs k)=>xs[k]?
      |some (.ptr i k)=>match σ[i]? with
        |some (some blk)=>blk.xs[k]?
        |_=>none
      |_=>none
    |some (some n)=>match aC t x with
      |some (.aV xs k)=>part xs k n
      |some (.ptr i k)=>match σ[i]? with
        |some (some blk)=>part blk.xs k n
        |_=>none
      |_=>none
    |none=>none
  | .extract x k=>match aC t x with
    |some (.tuple xs)=>xs[k]?
    |_=>none
  | .makeFunc fn fs cs=>match fn with
    | .func f=>match fs.toList with
      | []=>match gM t cs.toList with
        |some xs=>some (.func f xs)
        |none=>none
      |_=>none
    |_=>none
  | .box _ x=>match aC t x with
    |some p=>match ll p with
      |some xs=>some (.aV xs 0)
      |none=>none
    |none=>none
  | .build ty parts=>match Φ.st.get ty with
    |some (pl,z)=>match gW t parts.toList with
      |some ps=>match jO (pl[·]?) (z.map .raw) ps with
        |some xs=>match force xs with
          |some ys=>some (.agg ys)
          |none=>none
        |none=>none
      |none=>none
    |none=>none
  | .buildSlice ty n parts=>match Φ.sl.get ty with
    | some (_, s, z) => bif Nat.blt 0 n && Nat.ble (n * s) 16777216 then match gW t parts.toList with
        |some ps=>match jO (fun i=>some (i*s,s)) (dp (z.map .raw) n) ps with
          |some xs=>match force xs with
            |some ys=>some (.slice n ys)
            |none=>none
          |none=>none
        |none=>none
      else bif Nat.beq n 0&&Nat.beq parts.size 0 then some (.slice 0 []) else none
    |none=>none
  | .call c=>match c.callee with
    | .builtin .len=>match c.args.toList,c.argTypes.toList with
      | [x],[ty]=>match Φ.el.get ty with
        |some _=>match aC t x with
          |some (.slice n _)=>some (.raw (.int .i64 n))
          |some (.raw (.slice none 0 0))=>some (.raw (.int .i64 0))
          |some (.own m)=>match σ[m]? with
            |some (some (.row _ _ n _))=>some (.raw (.int .i64 n))
            |_=>none
          |_=>none
        |none=>none
      |_,_=>none
    |_=>none
  |_=>none
section
variable {P:Program} {σ:cd} {t:bZ} {o:Oper} {Φ:qP}
theorem ti{xs:List PV}{k n:Nat}{p:PV}(h:part xs k n=some p):∃ys,p= .agg ys∧(xs.drop k).take n=ys∧ys.length=n:=by
 unfold part at h
 rw[Bool.cond_eq_ite]at h
 split at h
 ·rename_i hc
  simp only[Bool.and_eq_true]at hc
  have h1:=Nat.eq_of_beq_eq_true hc.1
  have h2:=Nat.eq_of_beq_eq_true hc.2
  subst h1
  cases h
  exact⟨xs,rfl,by rw[List.drop_zero,←h2,List.take_length],h2⟩
 ·split at h
  ·rename_i ys hy
   cases h
   exact⟨ys,rfl,ye hy⟩
  ·cases h
theorem Hl(hΦ:Φ.Ok P){op:BinOp}{x y:Operand}{ty tz:TypeId}{p q r:PV}(ho:o.op= .binOp op ty x y tz)(hx:aC t x=some p)(hy:aC t y=some q)(h:Hj Φ op ty p q=some r):bg P σ t o r:=by
 unfold Hj at h
 split at h
 ·unfold HV at h
  split at h<;>first|(cases h;done)|skip
  ·cases h;exact HO ho hx hy rfl
  ·cases h;exact HH ho hx hy rfl
  ·cases h;exact Il ho hx hy rfl
  ·cases h;exact yi ho hx hy rfl
  ·cases h;exact yg ho hx hy rfl
  ·cases h;exact HP ho hx hy rfl
 ·split at h
  ·rename_i u hu
   have hb:=hΦ.bk.get hu
   split at h
   ·cases h;exact zo ho hb hx hy rfl
   ·cases h;exact AK ho hb hx hy rfl
   ·cases h
  ·cases h
 ·split at h
  ·rename_i u hu
   have hb:=hΦ.pk.get hu
   split at h
   ·cases h;exact qf ho hb hx hy
   ·cases h;exact Bg ho hb hx hy
   ·cases h
  ·cases h
 ·split at h
  ·rename_i u hu
   have hb:=hΦ.pk.get hu
   split at h
   ·cases h;exact BM ho hb hx hy
   ·cases h
  ·cases h
 ·cases h
theorem sV{α:Type}{a:Array α}{l:List α}(h:a.toList=l):a=l.toArray:=by rw[←h]
theorem Cn(s f:Nat):(s*100+f) / 100=s+f / 100∧(s*100+f) % 100=f % 100:=by omega
theorem kZ(hΦ:Φ.Ok P){op:Op}{p:PV}(ho:o.op=op)(h:fv Φ σ t op=some p):bg P σ t o p:=by
 unfold fv at h
 split at h
 ·exact fk ho h
 ·exact dZ ho h
 ·split at h
  ·rename_i hc;exact EC ho hc h
  ·rename_i hc;exact E7 ho hc h
  ·cases h
 ·split at h
  ·rename_i hc;cases h;exact HX ho hc
  ·cases h
 ·split at h
  ·rename_i p' hp
   split at h
   ·rename_i q' hq;exact Hl hΦ ho hp hq h
   ·cases h
  ·cases h
 ·split at h
  ·rename_i hc;cases h;exact Bl ho hc
  ·rename_i hc;cases h;exact iJ ho hc
  ·rename_i hc;cases h;exact Az ho hc
  ·cases h
 ·rename_i s x f
  rw[Bool.cond_eq_ite]at h
  split at h
  ·rename_i hf100
   have hf100:=Nat.blt_eq.mp hf100
   split at h
   ·rename_i off hof
    have hf:=hΦ.fo.get hof
    obtain⟨e1,e2⟩:=Cn s f
    rw[e1,e2,Nat.div_eq_of_lt hf100,Nat.mod_eq_of_lt hf100,Nat.add_zero]at hf
    split at h
    ·rename_i hc;cases h;exact w7 ho hf hc
    ·rename_i hc;cases h;exact xT ho hf hc
    ·cases h
   ·cases h
  ·cases h
 ·split at h
  ·rename_i htk
   have hk:=hΦ.tk.get htk
   split at h
   ·rename_i hc;exact rp ho hk hc h
   ·rename_i hc
    split at h
    ·rename_i hi;exact cX ho hk hc hi h
    ·cases h
   ·cases h
  ·rename_i n htk
   have hk:=hΦ.tk.get htk
   split at h
   ·rename_i hc
    obtain⟨ys,rfl,h1,h2⟩:=ti h
    exact mX ho hk hc h1 h2
   ·rename_i hc
    split at h
    ·rename_i hi
     obtain⟨ys,rfl,h1,h2⟩:=ti h
     exact fi ho hk hc hi h1 h2
    ·cases h
   ·cases h
  ·cases h
 ·split at h
  ·rename_i hc;exact AS ho hc h
  ·cases h
 ·split at h
  ·split at h
   ·rename_i hfs
    split at h
    ·rename_i hc
     cases h
     rw[sV hfs]at ho
     exact dA ho hc
    ·cases h
   ·cases h
  ·cases h
 ·split at h
  ·rename_i hc
   split at h
   ·rename_i hx;cases h;exact C0 ho hc hx
   ·cases h
  ·cases h
 ·split at h
  ·rename_i hst
   have hk:=hΦ.st.get hst
   split at h
   ·rename_i hps
    split at h
    ·rename_i hf
     split at h
     ·rename_i hfo
      cases h
      cases force_eq hfo
      exact iu ho hk hps hf
     ·cases h
    ·cases h
   ·cases h
  ·cases h
 ·split at h
  ·rename_i hsl
   have hk:=hΦ.sl.get hsl
   rw[Bool.cond_eq_ite]at h
   split at h
   ·rename_i hn
    simp only[Bool.and_eq_true,Nat.blt_eq,Nat.ble_eq]at hn
    split at h
    ·rename_i hps
     split at h
     ·rename_i hf
      split at h
      ·rename_i hfo
       cases h
       cases force_eq hfo
       exact aM ho hk hn hps hf
      ·cases h
     ·cases h
    ·cases h
   ·rw[Bool.cond_eq_ite]at h
    split at h
    ·rename_i hn
     simp only[Bool.and_eq_true]at hn
     have h1:=Nat.eq_of_beq_eq_true hn.1
     have h2:=Nat.eq_of_beq_eq_true hn.2
     subst h1
     have h3:=Array.eq_empty_of_size_eq_zero h2
     rw[h3]at ho
     cases h
     exact tH ho hk
    ·cases h
  ·cases h
 ·rename_i c
  split at h
  ·rename_i hcal
   split at h
   ·rename_i x ty hax hat
    split at h
    ·rename_i hel
     have hk:=hΦ.el.get hel
     have ho':o.op= .call {callee:=.builtin .len,args:= #[x],argTypes:= #[ty]}:=by
      rw[ho]
      obtain⟨c1,c2,c3⟩:=c
      simp only at hcal hax hat
      rw[hcal,sV hax,sV hat]
     split at h
     ·rename_i hc;cases h;exact xj ho' hk hc
     ·rename_i hc;cases h;exact pw ho' hk hc
     ·rename_i hc
      split at h
      ·rename_i hi;cases h;exact CT ho' hk hc hi
      ·cases h
     ·cases h
    ·cases h
   ·cases h
  ·cases h
 ·cases h
theorem oO{t':bZ}:∀ {l:List Operand},(∀x∈l,aC t' x=aC t x)→gM t' l=gM t l
 | [],_=>rfl
 |x::l,h=>by simp only[gM,h x (List.mem_cons_self ..),oO (fun y hy=>h y (List.mem_cons_of_mem _ hy))]
theorem kN{t':bZ}:∀ {l:List (Nat×Operand)},(∀x∈l,aC t' x.2=aC t x.2)→gW t' l=gW t l
 | [],_=>rfl
 |(i,x)::l,h=>by simp only[gW,h (i,x) (List.mem_cons_self ..),kN (fun y hy=>h y (List.mem_cons_of_mem _ hy))]
theorem vo{t':bZ}(op:Op)(h:∀x∈op.operands,aC t' x=aC t x):fv Φ σ t' op=fv Φ σ t op:=by
 cases op with
 |move x=>exact h x (by simp[Op.operands])
 |assign x=>exact h x (by simp[Op.operands])
 |pick c a b=>simp only[fv,h c (by simp[Op.operands]),h a (by simp[Op.operands]),h b (by simp[Op.operands])]
 |unOp u ty x=>cases u<;>simp only[fv,h x (by simp[Op.operands])]
 |binOp b ty x y tz=>simp only[fv,h x (by simp[Op.operands]),h y (by simp[Op.operands])]
 |nilCheck x=>simp only[fv,h x (by simp[Op.operands])]
 |fieldAddr s x f=>simp only[fv,h x (by simp[Op.operands])]
 |load ty x=>simp only[fv,h x (by simp[Op.operands])]
 |extract x k=>simp only[fv,h x (by simp[Op.operands])]
 |box ty x=>simp only[fv,h x (by simp[Op.operands])]
 |makeFunc fn fs cs=>
  have:gM t' cs.toList=gM t cs.toList:=oO fun x hx=>h x (by simp only[Op.operands];exact Array.mem_append_right _ (by simpa using hx))
  simp only[fv,this]
 |build ty ps=>
  have:gW t' ps.toList=gW t ps.toList:=kN fun x hx=>h x.2 (by simp only[Op.operands,List.mem_toArray,List.mem_map];exact⟨x,hx,rfl⟩)
  simp only[fv,this]
 |buildSlice ty n ps=>
  have:gW t' ps.toList=gW t ps.toList:=kN fun x hx=>h x.2 (by simp only[Op.operands,List.mem_toArray,List.mem_map];exact⟨x,hx,rfl⟩)
  simp only[fv,this]
 |call c=>
  simp only[fv]
  split
  ·split
   ·rename_i x ty hax _
    rw[h x (by simp only[Op.operands,Call.operands];exact Array.mem_append_right _ (by rw[sV hax];simp))]
   ·rfl
  ·rfl
 |_=>rfl
theorem vB{ks:List Nat}{k:Nat}(h:k∈ks):look k (fS t ks)=look k t:=by
 cases e:look k (fS t ks)with
 |some p=>exact((iE ks k p e).2).symm
 |none=>
  induction ks with
  |nil=>cases h
  |cons j ks ih=>
   simp only[fS]at e
   by_cases hjk:k=j
   ·subst hjk
    cases hl:look k t with
    |none=>rfl
    |some p=>rw[hl]at e;simp[look,Nat.beq_refl]at e
   ·have hm:k∈ks:=by cases h with|head=>exact absurd rfl hjk|tail _ hh=>exact hh
    split at e
    ·have hb:Nat.beq k j=false:=by rw[Bool.eq_false_iff];exact fun hh=>hjk (Nat.eq_of_beq_eq_true hh)
     simp only[look,hb,cond_false]at e
     exact ih hm e
    ·exact ih hm e
theorem tC{ks:List Nat}{x:Operand}(h:∀k,x= .tmp k→k∈ks):aC (fS t ks) x=aC t x:=by
 cases x with
 |tmp k=>exact vB (h k rfl)
 |_=>rfl
def Bo(Φ:qP)(N:Nat)(ops:Array Oper)(σ:cd)(t:bZ)(o:Oper):Option (Nat×PV):=
 match o.dst with
 |some d=>bif Nat.blt d N then match eE ops t o with
   |some true=>match fv Φ σ t o.op with
    |some p=>some (d,p)
    |none=>none
   |some false=>some (d,.raw undef)
   |none=>none
  else none
 |none=>none
def A9(Φ:qP)(N:Nat)(ops:Array Oper)(σ:cd):Nat→List Oper→bZ→Option (List Oper×bZ)
 |0,l,t=>some (l,t)
 |_+1,[],_=>none
 |n+1,o::l,t=>match Bo Φ N ops σ t o with
  |some x=>A9 Φ N ops σ n l (x::t)
  |none=>none
variable {N L:Nat} {ops:Array Oper}
theorem eN.a[hP:Has P Φ](n:Nat){l l':List Oper}{u t':bZ}(h:A9 Φ N ops σ n l t=some (l',u))(k:eN P N ops σ l' u t'):eN P N ops σ l t t':=by
 induction n generalizing l t with
 |zero=>cases h;exact k
 |succ n ih=>
  cases l with
  |nil=>cases h
  |cons o l=>
   simp only[A9]at h
   split at h
   ·rename_i x hx
    have kk:=ih h
    unfold Bo at hx
    split at hx
    ·rename_i d hd
     rw[Bool.cond_eq_ite]at hx
     split at hx
     ·rename_i hN
      split at hx
      ·rename_i hw
       split at hx
       ·rename_i p hp
        cases hx
        exact .val (kZ hP.ok rfl hp) hd hw hN kk
       ·cases hx
      ·rename_i hw
       cases hx
       exact .skip hd hw hN kk
      ·cases hx
     ·cases hx
    ·cases hx
   ·cases h
theorem dt.a[hP:Has P Φ](n:Nat){l l':List Oper}{u t':bZ}(h:A9 Φ N ops σ n l t=some (l',u))(k:dt P N ops σ l' u t'):dt P N ops σ l t t':=by
 induction n generalizing l t with
 |zero=>cases h;exact k
 |succ n ih=>
  cases l with
  |nil=>cases h
  |cons o l=>
   simp only[A9]at h
   split at h
   ·rename_i x hx
    have kk:=ih h
    unfold Bo at hx
    split at hx
    ·rename_i d hd
     rw[Bool.cond_eq_ite]at hx
     split at hx
     ·rename_i hN
      split at hx
      ·rename_i hw
       split at hx
       ·rename_i p hp
        cases hx
        refine .val (o.looksAt ops) (by simp) (kZ hP.ok rfl (op:=o.op) ?_) hd hw hN kk
        rw[vo,hp]
        intro x hx
        refine tC fun k hk=>?_
        subst hk
        exact List.mem_append_left _ (List.mem_filterMap.2 ⟨.tmp k,by simpa using hx,rfl⟩)
       ·cases hx
      ·rename_i hw
       cases hx
       exact .skip hd hw hN kk
      ·cases hx
     ·cases hx
    ·cases hx
   ·cases h
def dk(N:Nat)(ops:Array Oper)(t:bZ)(o:Oper):Option Nat:=
 match o.dst with
 |some d=>bif Nat.blt d N then match eE ops t o with
   |some true=>some d
   |_=>none
  else none
 |none=>none
theorem eu{d:Nat}(h:dk N ops t o=some d):o.dst=some d∧eE ops t o=some true∧Nat.blt d N=true:=by
 unfold dk at h
 split at h
 ·rename_i d' hd
  rw[Bool.cond_eq_ite]at h
  split at h
  ·rename_i hN
   split at h
   ·rename_i hw;cases h;exact⟨hd,hw,hN⟩
   ·cases h
  ·cases h
 ·cases h
theorem eN.v{rest:List Oper}{t':bZ}{d:Nat}{p:PV}(hy:bg P σ t o p)(h:dk N ops t o=some d)(k:eN P N ops σ rest ((d,p)::t) t'):eN P N ops σ (o::rest) t t':=.val hy (eu h).1 (eu h).2.1 (eu h).2.2 k
theorem dt.v{rest:List Oper}{t':bZ}{d:Nat}{p:PV}(ks:List Nat)(hy:bg P σ (fS t ks) o p)(hk:(ks.all fun k=>(o.looksAt ops).contains k)=true)(h:dk N ops t o=some d)(k:dt P N ops σ rest ((d,p)::t) t'):dt P N ops σ (o::rest) t t':=.val ks hk hy (eu h).1 (eu h).2.1 (eu h).2.2 k
theorem bz{rest:List Oper}{K:St→Prop}{d:Nat}{p:PV}(hy:bg P σ t o p)(h:dk N ops t o=some d)(k:WR P N L ops rest ⟨(d,p)::t,σ⟩ K):WR P N L ops (o::rest) ⟨t,σ⟩ K:=bA hy (eu h).1 (eu h).2.1 (eu h).2.2 k
theorem ca{rest:List Oper}{σ':cd}{K:St→Prop}{d:Nat}{p:PV}(hy:cK P σ t o p σ')(h:dk N ops t o=some d)(k:WR P N L ops rest ⟨(d,p)::t,σ'⟩ K):WR P N L ops (o::rest) ⟨t,σ⟩ K:=dh hy (eu h).1 (eu h).2.1 (eu h).2.2 k
def gP(t:bZ):List Nat→Option bZ
 | []=>some []
 |k::ks=>match look k t with
  |some p=>match gP t ks with
   |some r=>some ((k,p)::r)
   |none=>none
  |none=>none
theorem bh:∀ {ks:List Nat} {u:bZ},gP t ks=some u→Sub t u
 | [],u,h=>by cases h;exact Sub.nil _
 |k::ks,u,h=>by
  simp only[gP]at h
  split at h
  ·rename_i p hp
   split at h
   ·rename_i r hr
    cases h
    exact .cons hp (bh hr)
   ·cases h
  ·cases h
theorem eN.k(ks:List Nat){u:bZ}(h:gP t ks=some u):eN P N ops σ [] t u:=.nil (bh h)
theorem dt.k(ks:List Nat){u:bZ}(h:gP t ks=some u):dt P N ops σ [] t u:=.nil (bh h)
theorem eZ{c:Code}{Q:Exit→St→Prop}(ks:List Nat){u:bZ}(h:gP t ks=some u)(k:W P N L c ⟨u,σ⟩ Q):W P N L c ⟨t,σ⟩ Q:=mg (bh h) k
theorem aH{K:St→Prop}(ks:List Nat){u:bZ}(h:gP t ks=some u)(k:K ⟨u,σ⟩):WR P N L ops [] ⟨t,σ⟩ K:=wJ (bh h) (aO k)
def FT:cd→Option Nat
 | []=>some 0
 |_::l=>match FT l with
  |some n=>some (n+1)
  |none=>none
theorem yh:∀ {s:cd} {n:Nat},FT s=some n→s.length=n
 | [],n,h=>by cases h;rfl
 |_::l,n,h=>by
  simp only[FT]at h
  split at h
  ·rename_i m hm;cases h;simp[yh hm]
  ·cases h
def FD:PV→Bool
 | .raw (.int _ _)=>true
 | .raw (.bool _)=>true
 | .raw (.string _)=>true
 | .raw (.slice _ _ _)=>true
 | .raw (.pointer _)=>true
 | .slice _ _=>true
 | .aV _ _=>true
 | .func _ _=>true
 | .ptr _ _=>true
 | .own _=>true
 |_=>false
theorem Da{p:PV}(h:FD p=true):eM p:=by
 unfold FD at h
 split at h<;>first|infer_instance|cases h
theorem BZ{xs:List PV}(h:xs.all FD=true):cq xs:=⟨fun i u hu=>Da (List.all_eq_true.1 h u (List.mem_of_getElem? hu))⟩
def vE(Φ:qP)(t:bZ)(σ:cd):Op→Option (PV×cd)
  | .alloc ty=>match Φ.zk.get ty with
    |some z=>match force (z.map PV.raw)with
      |some z'=>match FT σ with
        |some n=>match force (σ++[some (.cells ty z')])with
          |some s=>some (.ptr n 0,s)
          |none=>none
        |none=>none
      |none=>none
    |none=>none
  | .store ty x y=>match Φ.tk.get ty with
    | some k => match aC t x with
      | some (.ptr i off) => match aC t y with
        | some p => match σ[i]? with
          | some (some blk) => match ll p with
            |some ys=>match force ys with
              |some ys=>bif Nat.beq ys.length (k.getD 1)&&(Nat.ble (off+ys.length) blk.xs.length&&ys.all FD) then match force (over blk.xs off ys)with
                  |some zs=>match force (σ.set i (some (blk.rQ zs)))with
                    |some s=>some (.raw undef,s)
                    |none=>none
                  |none=>none
                else none
              |none=>none
            |none=>none
          |_=>none
        |none=>none
      |_=>none
    |none=>none
  |_=>none
theorem qJ(hΦ : Φ.Ok P){op : Op}{p : PV}{σ' : cd}(ho : o.op = op)(h : vE Φ t σ op = some (p, σ')) : cK P σ t o p σ' := by
  unfold vE at h
  split at h
  · split at h
    · rename_i hz
      split at h
      · rename_i hz'
        cases force_eq hz'
        split at h
        · rename_i hl
          cases yh hl
          split at h
          · rename_i hs
            cases force_eq hs
            cases h
            exact sJ ho (hΦ.zk.get hz)
          · cases h
        · cases h
      · cases h
    · cases h
  · split at h
    · rename_i hk
      split at h
      · rename_i hx
        split at h
        · rename_i hy
          split at h
          · rename_i hi
            split at h
            · rename_i hc
              split at h
              · rename_i hf
                cases force_eq hf
                rw[Bool.cond_eq_ite]at h
                split at h
                · rename_i hb
                  simp only[Bool.and_eq_true,Nat.ble_eq]at hb
                  have h1:=Nat.eq_of_beq_eq_true hb.1
                  haveI:=BZ hb.2.2
                  split at h
                  · rename_i hz
                    cases force_eq hz
                    split at h
                    · rename_i hs
                      cases force_eq hs
                      cases h
                      exact s4 ho (hΦ.tk.get hk) hx hy hc h1 hi hb.2.1
                    · cases h
                  · cases h
                · cases h
              · cases h
            · cases h
          · cases h
        · cases h
      · cases h
    · cases h
  · cases h
def Gp(Φ:qP)(N:Nat)(ops:Array Oper)(t:bZ)(σ:cd)(o:Oper):Option (bZ×cd):=
 match eE ops t o with
 |some true=>match o.dst with
  |some d=>bif Nat.blt d N then match fv Φ σ t o.op with
    |some p=>some ((d,p)::t,σ)
    |none=>match vE Φ t σ o.op with
     |some (p,s)=>some ((d,p)::t,s)
     |none=>none
   else none
  |none=>match vE Φ t σ o.op with
   |some (_,s)=>some (t,s)
   |none=>none
 |some false=>match o.dst with
  |some d=>bif Nat.blt d N then some ((d,.raw undef)::t,σ) else none
  |none=>none
 |none=>none
def Hc(Φ:qP)(N:Nat)(ops:Array Oper):Nat→List Oper→bZ→cd→Option (List Oper×bZ×cd)
 |0,l,t,σ=>some (l,t,σ)
 |_+1,[],_,_=>none
 |n+1,o::l,t,σ=>match Gp Φ N ops t σ o with
  |some (t',σ')=>Hc Φ N ops n l t' σ'
  |none=>none
theorem au[hP:Has P Φ](n:Nat){l l':List Oper}{u:bZ}{σ':cd}{K:St→Prop}(h:Hc Φ N ops n l t σ=some (l',u,σ'))(k:WR P N L ops l' ⟨u,σ'⟩ K):WR P N L ops l ⟨t,σ⟩ K:=by
 induction n generalizing l t σ with
 |zero=>cases h;exact k
 |succ n ih=>
  cases l with
  |nil=>cases h
  |cons o l=>
   simp only[Hc]at h
   split at h
   ·rename_i t' s' hx
    have kk:=ih h
    unfold Gp at hx
    split at hx
    ·rename_i hw
     split at hx
     ·rename_i d hd
      rw[Bool.cond_eq_ite]at hx
      split at hx
      ·rename_i hN
       split at hx
       ·rename_i p hp
        cases hx
        exact bA (kZ hP.ok rfl hp) hd hw hN kk
       ·split at hx
        ·rename_i hs
         cases hx
         exact dh (qJ hP.ok rfl hs) hd hw hN kk
        ·cases hx
      ·cases hx
     ·rename_i hd
      split at hx
      ·rename_i hs
       cases hx
       exact br (qJ hP.ok rfl hs) hd hw kk
      ·cases hx
    ·rename_i hw
     split at hx
     ·rename_i d hd
      rw[Bool.cond_eq_ite]at hx
      split at hx
      ·rename_i hN
       cases hx
       exact ya hd hw hN kk
      ·cases hx
     ·cases hx
    ·cases hx
   ·cases h
def mV(Φ:qP)(t:bZ):Op→Option (Nat×List PV)
  | .call c=>match c.callee with
    | .value x=>match aC t x with
      | some (.func f cap) => match Φ.en.get f with
        |some _=>match gM t c.args.toList with
          |some ps=>match cap with
            | []=>some (f,ps)
            |q::cap=>match force (ps++(q::cap))with
              |some qs=>some (f,qs)
              |none=>none
          |none=>none
        |none=>none
      |_=>none
    |_=>none
  |_=>none
theorem kg(hΦ:Φ.Ok P){op:Op}{f:Nat}{ps:List PV}(h:mV Φ t op=some (f,ps)):∃x args ats cap qs,op= .call {callee:=.value x,args:=args,argTypes:=ats}∧enters P f=true∧aC t x=some (.func f cap)∧gM t args.toList=some qs∧qs++cap=ps:=by
 unfold mV at h
 split at h
 ·rename_i c
  obtain⟨c1,c2,c3⟩:=c
  split at h
  ·rename_i x hx
   simp only at hx
   subst hx
   split at h
   ·rename_i hf
    split at h
    ·rename_i hen
     split at h
     ·rename_i qs hq
      split at h
      ·cases h;exact⟨_,_,_,_,_,rfl,hΦ.en.get hen,hf,hq,by simp⟩
      ·split at h
       ·rename_i hfo
        cases h;exact⟨_,_,_,_,_,rfl,hΦ.en.get hen,hf,hq,force_eq hfo⟩
       ·cases h
     ·cases h
    ·cases h
   ·cases h
  ·cases h
 ·cases h
theorem fm[hP:Has P Φ]{f:Nat}{ps:List PV}{r:PV}(h:mV Φ t o.op=some (f,ps))(hc:Can P f ps (· =r))[hp:aG ps]:bg P σ t o r:=by
 obtain⟨x,args,ats,cap,qs,ho,hen,hx,hq,rfl⟩:=kg hP.ok h
 exact qa ho hen hx hq hc
theorem G6[hP:Has P Φ]{f:Nat}{ps qs:List PV}{r:PV}(h:mV Φ t o.op=some (f,ps))(hq:an σ ps qs)(hc:Can P f qs (· =r))[hp:kW r]:bg P σ t o r:=by
 obtain⟨x,args,ats,cap,ps',ho,hen,hx,he,rfl⟩:=kg hP.ok h
 exact Eg ho hen hx he hq hc
theorem vd[hP:Has P Φ]{f:Nat}{ps qs:List PV}{r:PV}(h:mV Φ t o.op=some (f,ps))(hq:an [] ps qs)(hc:Can P f qs (· =r)):bg P σ t o r:=by
 obtain⟨x,args,ats,cap,ps',ho,hen,hx,he,rfl⟩:=kg hP.ok h
 exact EG ho hen hx he hq hc
theorem eN.c[Has P Φ]{rest:List Oper}{t':bZ}{d f:Nat}{ps:List PV}{r:PV}(h:mV Φ t o.op=some (f,ps))(hc:Can P f ps (· =r))(hd:dk N ops t o=some d)(k:eN P N ops σ rest ((d,r)::t) t')[aG ps]:eN P N ops σ (o::rest) t t':=.v (fm h hc) hd k
theorem ek[Has P Φ]{rest:List Oper}{K:St→Prop}{d f:Nat}{ps:List PV}{r:PV}(h:mV Φ t o.op=some (f,ps))(hc:Can P f ps (· =r))(hd:dk N ops t o=some d)(k:WR P N L ops rest ⟨(d,r)::t,σ⟩ K)[aG ps]:WR P N L ops (o::rest) ⟨t,σ⟩ K:=bz (fm h hc) hd k
theorem cM[hP:Has P Φ]{rest:List Oper}{K:St→Prop}{d f:Nat}{ps:List PV}(h:mV Φ t o.op=some (f,ps))(hd:dk N ops t o=some d)(hc:bS P f ps σ (fun r σ'=>WR P N L ops rest ⟨(d,r)::t,σ'⟩ K)):WR P N L ops (o::rest) ⟨t,σ⟩ K:=by
 obtain⟨x,args,ats,cap,ps',ho,hen,hx,he,rfl⟩:=kg hP.ok h
 exact v7 ho hen hx he (eu hd).1 (eu hd).2.1 (eu hd).2.2 hc
theorem cC[hP:Has P Φ]{b q:Bool}(h:fv Φ σ t o.op=some (.raw (.bool b)))(hq:b=q):bg P σ t o (.raw (.bool q)):=by subst hq;exact kZ hP.ok rfl h
def I2(t:bZ):Op→Option Int
 | .binOp op _ x y _=>match aC t x with
  |some (.raw (.int .i64 a))=>match aC t y with
   |some (.raw (.int .i64 b))=>match op with
    | .add=>some (a+b)
    | .sub=>some (a - b)
    | .mul=>some (a*b)
    |_=>none
   |_=>none
  |_=>none
 |_=>none
theorem aR{a:Int}(h:I2 t o.op=some a){c:Int}(hc:a=c:=by exact rfl)(hn:In64 c:=by unfold In64;omega):bg P σ t o (.raw (.int .i64 c)):=by
 subst hc
 unfold I2 at h
 split at h
 ·rename_i ho
  split at h
  ·rename_i hx
   split at h
   ·rename_i hy
    split at h
    ·cases h;exact HI ho hx hy rfl hn
    ·cases h;exact HR ho hx hy rfl hn
    ·cases h;exact HE ho hx hy rfl hn
    ·cases h
   ·cases h
  ·cases h
 ·cases h
def I3(Φ:qP)(σ:cd)(t:bZ):Op→Option (Int×Nat×Nat×(Nat→PV))
 | .indexAddr ty x ix=>match aC t ix with
  |some (.raw (.int _ i))=>match Φ.el.get ty with
   |some (_,s)=>match aC t x with
    |some (.slice n xs)=>some (i,n,s,fun j=>.aV xs j)
    |some (.own m)=>match σ[m]? with
     |some (some (.row _ _ n _))=>some (i,n,s,fun j=>.ptr m j)
     |_=>none
    |_=>none
   |none=>match Φ.ar.get ty with
    |some (n,s)=>match aC t x with
     |some (.aV xs off)=>some (i,n,s,fun j=>.aV xs (off+j))
     |_=>none
    |none=>none
  |_=>none
 |_=>none
theorem aI[hP:Has P Φ]{i:Int}{n s:Nat}{g:Nat→PV}(j:Nat)(h:I3 Φ σ t o.op=some (i,n,s,g))(h0:0≤i:=by omega)(h1:i<n:=by omega)(hj:i.toNat*s=j:=by omega):bg P σ t o (g j):=by
 unfold I3 at h
 split at h
 ·rename_i ho
  split at h
  ·rename_i hix
   split at h
   ·rename_i hel
    have hk:=hP.ok.el.get hel
    split at h
    ·rename_i hx;cases h;exact sO ho hk hx hix h0 h1 hj
    ·rename_i hx
     split at h
     ·rename_i hi;cases h;exact wE ho hk hx hi hix h0 h1 hj
     ·cases h
    ·cases h
   ·split at h
    ·rename_i har
     have hk:=hP.ok.ar.get har
     split at h
     ·rename_i hx;cases h;exact ml ho hk hx hix h0 h1 hj
     ·cases h
    ·cases h
  ·cases h
 ·cases h
def Is(Φ:qP)(σ:cd)(t:bZ):Op→Option (List PV×Nat×Option Nat)
 | .load ty x=>match Φ.tk.get ty with
  |some k=>match aC t x with
   |some (.aV xs o)=>some (xs,o,k)
   |some (.ptr i o)=>match σ[i]? with
    |some (some blk)=>some (blk.xs,o,k)
    |_=>none
   |_=>none
  |none=>none
 |_=>none
theorem aL[hP:Has P Φ]{xs:List PV}{k:Nat}{p:PV}(h:Is Φ σ t o.op=some (xs,k,none))(hp:xs[k]? =some p):bg P σ t o p:=by
 unfold Is at h
 split at h
 ·rename_i ho
  split at h
  ·rename_i htk
   have hk:=hP.ok.tk.get htk
   split at h
   ·rename_i hx;cases h;exact rp ho hk hx hp
   ·rename_i hx
    split at h
    ·rename_i hi;cases h;exact cX ho hk hx hi hp
    ·cases h
   ·cases h
  ·cases h
 ·cases h
theorem ed[hP:Has P Φ]{xs ys:List PV}{k n:Nat}(h:Is Φ σ t o.op=some (xs,k,some n))(hp:(xs.drop k).take n=ys)(hn:ys.length=n):bg P σ t o (.agg ys):=by
 unfold Is at h
 split at h
 ·rename_i ho
  split at h
  ·rename_i htk
   have hk:=hP.ok.tk.get htk
   split at h
   ·rename_i hx;cases h;exact mX ho hk hx hp hn
   ·rename_i hx
    split at h
    ·rename_i hi;cases h;exact fi ho hk hx hi hp hn
    ·cases h
   ·cases h
  ·cases h
 ·cases h
def Ih(Φ:qP)(st:St):ResultVar→Option PV
 | .tmp k=>look k st.t
 | .cell k ty=>match look k st.t with
  |some (.ptr i off)=>match st.σ[i]? with
   |some (some blk)=>match Φ.tk.get ty with
    |some none=>blk.xs[off]?
    |some (some n)=>part blk.xs off n
    |none=>none
   |_=>none
  |_=>none
def GI(Φ:qP)(st:St):List ResultVar→Option (List PV)
 | []=>some []
 |r::rs=>match Ih Φ st r with
  |some p=>match GI Φ st rs with
   |some ps=>some (p::ps)
   |none=>none
  |none=>none
theorem aA.of[hP:Has P Φ]{st:St}:∀ {rs:List ResultVar} {ps:List PV},GI Φ st rs=some ps→aA P st rs ps
 | [],ps,h=>by cases h;exact .nil
 |r::rs,ps,h=>by
  simp only[GI]at h
  split at h
  ·rename_i p hp
   split at h
   ·rename_i ps' hps
    cases h
    refine .cons ?_ (aA.of hps)
    unfold Ih at hp
    split at hp
    ·exact .tmp hp
    ·split at hp
     ·rename_i hl
      split at hp
      ·rename_i hi
       split at hp
       ·rename_i htk;exact .F8 hl hi (hP.ok.tk.get htk) hp
       ·rename_i htk
        obtain⟨ys,rfl,h1,h2⟩:=ti hp
        exact .Gb hl hi (hP.ok.tk.get htk) h1 h2
       ·cases hp
      ·cases hp
     ·cases hp
   ·cases h
  ·cases h
def Dm:List Nat→Nat→Option Nat
 | [],_=>none
 |x::l,j=>bif Nat.beq x j then some 0 else match Dm l j with
  |some n=>some (n+1)
  |none=>none
theorem sG:∀ {fs:List Nat} {j i:Nat},Dm fs j=some i→fs[i]? =some j
 | [],_,_,h=>by cases h
 |x::l,j,i,h=>by
  simp only[Dm,Bool.cond_eq_ite]at h
  split at h
  ·rename_i he;cases h;cases Nat.eq_of_beq_eq_true he;rfl
  ·split at h
   ·rename_i n hn;cases h;simpa using sG hn
   ·cases h
theorem Ren.Ic{fs:List Nat}{i j:Nat}(h:Dm fs j=some i):Ren fs (.own i) (.own j):=.own (sG h)
theorem Ren.HW{fs:List Nat}{i j k:Nat}(h:Dm fs j=some i):Ren fs (.ptr i k) (.ptr j k):=.ptr (sG h)
theorem mG.c{fs:List Nat}{t t':bZ}{p p':PV}(k:Nat)(rest:mG fs t t')(h:look k t=some p:=by exact rfl)(hr:Ren fs p' p:=by first|exact Ren.pure|exact Ren.Ic rfl|exact Ren.HW rfl):mG fs t ((k,p')::t'):=.cons k h hr rest
theorem az.c{fs:List Nat}{x y:PV}{xs ys:List PV}(rest:az fs xs ys)(hr:Ren fs x y:=by first|exact Ren.pure|exact Ren.Ic rfl|exact Ren.HW rfl):az fs (x::xs) (y::ys):=az.cons hr rest
theorem bF[hP:Has P Φ]{p:PV}(h:fv Φ σ t o.op=some p):bg P σ t o p:=kZ hP.ok rfl h
theorem dF[hP:Has P Φ]{p:PV}{σ':cd}(h:vE Φ t σ o.op=some (p,σ')):cK P σ t o p σ':=qJ hP.ok rfl h
def nW(N:Nat)(l:List Oper):Bool:=Region.lexB .any l.toArray&&l.all fun o=>o.dst.all fun e=>decide (e<N)
theorem lf{l:List Oper}(h:nW N l=true):Region.lexB .any l.toArray=true∧(l.all fun o=>o.dst.all fun e=>decide (e<N)&&(l.filterMap (·.dst)).contains e)=true∧((l.filterMap (·.dst)).all fun e=>decide (e<N))=true:=by
 unfold nW at h
 simp only[Bool.and_eq_true,List.all_eq_true]at h
 refine⟨h.1,List.all_eq_true.2 fun o ho=>?_,List.all_eq_true.2 fun e he=>?_⟩
 ·have h2:=h.2 o ho
  cases hd:o.dst with
  |none=>rfl
  |some e=>
   rw[hd]at h2
   simp only[Option.all_some,Bool.and_eq_true,List.contains_iff_mem,List.mem_filterMap]at h2 ⊢
   exact⟨h2,o,ho,hd⟩
 ·obtain⟨o,ho,hd⟩:=List.mem_filterMap.1 he
  have h2:=h.2 o ho
  rw[hd]at h2
  exact h2
theorem G0{id:Nat}{l:List Oper}{t':bZ}{Q:Exit→St→Prop}(hm:P.follows .mixedOrders=true)(hB:nW N l=true)(h:dt P N l.toArray σ l t t')(hq:Q .normal ⟨t',σ⟩):W P N L (.region id l.toArray true) ⟨t,σ⟩ Q:=GB _ hm (lf hB).1 (lf hB).2.1 (lf hB).2.2 h hq
theorem fp{id:Nat}{l:List Oper}{y:Code}{t':bZ}{Q:Exit→St→Prop}(hm:P.follows .mixedOrders=true)(hB:nW N l=true)(h:dt P N l.toArray σ l t t')(hq:W P N L y ⟨t',σ⟩ Q):W P N L (.seq (.region id l.toArray true) y) ⟨t,σ⟩ Q:=aj (G0 hm hB h hq)
theorem bC{id:Nat}{l:List Oper}{y:Code}{u:bZ}{Q:Exit→St→Prop}(k:Nat)(p:PV)(ks:List Nat)(_:gP t ks=some u)(h:eN P N l.toArray σ l t ((k,p)::u))(hq:W P N L y ⟨(k,p)::u,σ⟩ Q):W P N L (.seq (.region id l.toArray false) y) ⟨t,σ⟩ Q:=ab h hq
theorem vG{id:Nat}{l:List Oper}{u:bZ}{Q:Exit→St→Prop}(k:Nat)(p:PV)(ks:List Nat)(_:gP t ks=some u)(h:eN P N l.toArray σ l t ((k,p)::u))(hq:Q .normal ⟨(k,p)::u,σ⟩):W P N L (.region id l.toArray false) ⟨t,σ⟩ Q:=ay h hq
theorem nQ{id:Nat}{l:List Oper}{y:Code}{u:bZ}{Q:Exit→St→Prop}(hm:P.follows .mixedOrders=true)(hB:nW N l=true)(k:Nat)(p:PV)(ks:List Nat)(_:gP t ks=some u)(h:dt P N l.toArray σ l t ((k,p)::u))(hq:W P N L y ⟨(k,p)::u,σ⟩ Q):W P N L (.seq (.region id l.toArray true) y) ⟨t,σ⟩ Q:=fp hm hB h hq
theorem H2{id:Nat}{l:List Oper}{u:bZ}{Q:Exit→St→Prop}(hm:P.follows .mixedOrders=true)(hB:nW N l=true)(k:Nat)(p:PV)(ks:List Nat)(_:gP t ks=some u)(h:dt P N l.toArray σ l t ((k,p)::u))(hq:Q .normal ⟨(k,p)::u,σ⟩):W P N L (.region id l.toArray true) ⟨t,σ⟩ Q:=G0 hm hB h hq
def Tr.keys{α:Type}:Tr α→List Nat
 | .l=>[]
 | .n a k _ b=>a.keys++k::b.keys
def Tr.At{α:Type}:Tr α→List α
 | .l=>[]
 | .n a _ v b=>a.At++v::b.At
theorem Tr.pV{α:Type}:∀(t:Tr α),t.keys.length=t.At.length
 | .l=>rfl
 | .n a _ _ b=>by simp[Tr.keys,Tr.At,Tr.pV a,Tr.pV b]
theorem Tr.of{α:Type}(f:Nat→Option α):∀ {t:Tr α},t.keys.map f=t.At.map some→t.sZ fun k v=>f k=some v
 | .l,_=>.l
 | .n a k v b,h=>by
  simp only[Tr.keys,Tr.At,List.map_append,List.map_cons]at h
  obtain⟨h1,h2⟩:=List.append_inj h (by simp[Tr.pV])
  simp only[List.cons.injEq]at h2
  exact .n (Tr.of f h1) h2.1 (Tr.of f h2.2)
theorem Tr.HJ{α:Type}(f:Nat→Bool):∀ {t:Tr α},t.keys.all f=true→t.sZ fun k _=>f k=true
 | .l,_=>.l
 | .n a k v b,h=>by
  simp only[Tr.keys,List.all_append,List.all_cons,Bool.and_eq_true]at h
  exact .n (Tr.HJ f h.1) h.2.1 (Tr.HJ f h.2.2)
end
end PW
end Go.Proofs.YtnegbdpggideiaaGreatDoor
namespace Go.Proofs.YtnegbdpggideiaaGreatDoor
namespace PW
set_option maxRecDepth 100000
def Ju:Tr (Option Nat):=.n (.n (.n (.n (.n (.n (.n (.n (.n .l 0 none .l) 1 none .l) 2 none (.n .l 3 none .l)) 4 none (.n (.n .l 5 none .l) 7 (some 4) (.n .l 9 none .l))) 12 none (.n (.n (.n (.n .l 13 (some 2) .l) 15 none .l) 16 none (.n .l 17 none .l)) 18 (some 1) (.n (.n .l 20 none .l) 21 none (.n .l 22 none .l)))) 23 none (.n (.n (.n (.n (.n .l 24 (some 3) .l) 25 (some 3) .l) 26 none (.n .l 27 (some 3) .l)) 28 none (.n (.n .l 29 none .l) 30 none (.n .l 31 none .l))) 32 (some 2) (.n (.n (.n .l 33 (some 2) .l) 34 none (.n .l 35 none .l)) 36 none (.n (.n .l 37 none .l) 38 none (.n .l 39 none .l))))) 40 none (.n (.n (.n (.n (.n (.n .l 41 none .l) 42 none .l) 43 none (.n .l 44 none .l)) 45 none (.n (.n .l 46 none .l) 47 none (.n .l 48 none .l))) 49 (some 8) (.n (.n (.n (.n .l 50 (some 8) .l) 51 none .l) 52 none (.n .l 53 none .l)) 54 none (.n (.n .l 55 (some 3) .l) 56 (some 3) (.n .l 57 none .l)))) 58 none (.n (.n (.n (.n (.n .l 59 none .l) 60 none .l) 61 none (.n .l 62 none .l)) 63 none (.n (.n .l 64 none .l) 65 (some 6) (.n .l 66 (some 6) .l))) 67 none (.n (.n (.n .l 68 none .l) 69 (some 3) (.n .l 70 (some 3) .l)) 71 none (.n (.n .l 72 none .l) 73 none (.n .l 74 none .l)))))) 75 (some 3) (.n (.n (.n (.n (.n (.n (.n .l 76 (some 3) .l) 77 none .l) 78 none (.n .l 79 none .l)) 80 (some 2) (.n (.n .l 81 none .l) 82 none (.n .l 83 none .l))) 84 none (.n (.n (.n (.n .l 85 none .l) 86 none .l) 87 none (.n .l 88 none .l)) 89 none (.n (.n .l 90 none .l) 91 none (.n .l 92 none .l)))) 93 none (.n (.n (.n (.n (.n .l 94 none .l) 95 none .l) 96 none (.n .l 97 none .l)) 98 none (.n (.n .l 99 none .l) 100 (some 4) (.n .l 101 none .l))) 102 none (.n (.n (.n .l 103 (some 2) .l) 104 none (.n .l 105 none .l)) 106 none (.n (.n .l 107 (some 3) .l) 108 none (.n .l 109 none .l))))) 110 none (.n (.n (.n (.n (.n (.n .l 111 none .l) 112 none .l) 113 none (.n .l 114 none .l)) 115 none (.n (.n .l 116 none .l) 117 none (.n .l 118 (some 12) .l))) 119 (some 12) (.n (.n (.n .l 120 none .l) 121 (some 5) (.n .l 122 (some 5) .l)) 123 none (.n (.n .l 124 none .l) 125 (some 2) (.n .l 126 (some 7) .l)))) 127 (some 7) (.n (.n (.n (.n (.n .l 128 none .l) 129 none .l) 130 none (.n .l 131 none .l)) 132 none (.n (.n .l 133 none .l) 134 none (.n .l 135 none .l))) 136 none (.n (.n (.n .l 137 none .l) 138 none (.n .l 139 none .l)) 140 none (.n (.n .l 141 none .l) 142 none (.n .l 143 none .l))))))) 144 none (.n (.n (.n (.n (.n (.n (.n (.n .l 145 (some 9) .l) 146 (some 9) .l) 147 none (.n .l 148 none .l)) 149 none (.n (.n .l 150 none .l) 151 (some 6) (.n .l 152 (some 6) .l))) 153 none (.n (.n (.n (.n .l 154 none .l) 155 none .l) 156 none (.n .l 157 none .l)) 158 none (.n (.n .l 159 none .l) 160 none (.n .l 161 none .l)))) 162 none (.n (.n (.n (.n (.n .l 163 none .l) 164 none .l) 165 none (.n .l 166 none .l)) 167 none (.n (.n .l 168 none .l) 169 none (.n .l 170 none .l))) 171 none (.n (.n (.n .l 172 none .l) 173 none (.n .l 174 none .l)) 175 none (.n (.n .l 176 none .l) 177 none (.n .l 178 none .l))))) 179 none (.n (.n (.n (.n (.n (.n .l 180 none .l) 181 none .l) 182 none (.n .l 183 none .l)) 184 none (.n (.n .l 185 none .l) 186 none (.n .l 187 none .l))) 188 none (.n (.n (.n (.n .l 189 none .l) 190 none .l) 191 none (.n .l 192 none .l)) 193 none (.n (.n .l 194 none .l) 195 none (.n .l 196 none .l)))) 197 none (.n (.n (.n (.n (.n .l 198 none .l) 199 none .l) 200 none (.n .l 201 none .l)) 202 (some 7) (.n (.n .l 203 (some 7) .l) 204 none (.n .l 205 none .l))) 206 none (.n (.n (.n .l 207 none .l) 208 none (.n .l 209 none .l)) 210 none (.n (.n .l 211 none .l) 212 none (.n .l 213 (some 2) .l)))))) 214 (some 2) (.n (.n (.n (.n (.n (.n (.n .l 215 none .l) 216 none .l) 217 none (.n .l 218 none .l)) 219 none (.n (.n .l 220 none .l) 221 none (.n .l 222 none .l))) 223 none (.n (.n (.n (.n .l 224 none .l) 225 none .l) 226 none (.n .l 227 none .l)) 228 none (.n (.n .l 229 none .l) 230 none (.n .l 231 none .l)))) 232 none (.n (.n (.n (.n (.n .l 233 none .l) 234 none .l) 235 (some 3) (.n .l 236 (some 3) .l)) 237 none (.n (.n .l 238 none .l) 239 none (.n .l 240 none .l))) 241 none (.n (.n (.n .l 242 none .l) 243 none (.n .l 244 none .l)) 245 none (.n (.n .l 246 none .l) 247 none (.n .l 248 (some 24) .l))))) 249 none (.n (.n (.n (.n (.n (.n .l 250 none .l) 251 none .l) 252 none (.n .l 253 none .l)) 254 none (.n (.n .l 255 none .l) 256 none (.n .l 257 none .l))) 258 none (.n (.n (.n .l 259 none .l) 260 none (.n .l 261 none .l)) 262 none (.n (.n .l 263 none .l) 264 (some 20) (.n .l 265 (some 65) .l)))) 266 none (.n (.n (.n (.n (.n .l 267 none .l) 268 none .l) 269 none (.n .l 270 none .l)) 271 none (.n (.n .l 272 none .l) 273 none (.n .l 274 none .l))) 275 (some 32) (.n (.n (.n .l 276 (some 64) .l) 277 (some 4) (.n .l 279 (some 0) .l)) 280 (some 0) (.n (.n .l 282 none .l) 285 none (.n .l 288 (some 11) .l)))))))
def Jj:Tr (Nat):=.n (.n (.n (.n (.n (.n (.n (.n .l 700 0 .l) 701 1 .l) 702 2 (.n .l 703 3 .l)) 1300 0 (.n (.n (.n .l 1301 1 .l) 1800 0 .l) 2400 0 (.n .l 2401 1 .l))) 2402 2 (.n (.n (.n (.n .l 2500 0 .l) 2501 1 .l) 2502 2 (.n .l 3200 0 .l)) 3201 1 (.n (.n (.n .l 3300 0 .l) 3301 1 .l) 4900 0 (.n .l 4901 3 .l)))) 4902 5 (.n (.n (.n (.n (.n .l 4903 6 .l) 4904 7 .l) 5000 0 (.n .l 5001 3 .l)) 5002 5 (.n (.n (.n .l 5003 6 .l) 5004 7 .l) 5500 0 (.n .l 5501 1 .l))) 5502 2 (.n (.n (.n (.n .l 5600 0 .l) 5601 1 .l) 5602 2 (.n .l 6500 0 .l)) 6501 1 (.n (.n .l 6502 2 .l) 6503 3 (.n .l 6504 4 .l))))) 6505 5 (.n (.n (.n (.n (.n (.n .l 6600 0 .l) 6601 1 .l) 6602 2 (.n .l 6603 3 .l)) 6604 4 (.n (.n (.n .l 6605 5 .l) 6900 0 .l) 6901 1 (.n .l 6902 2 .l))) 7000 0 (.n (.n (.n (.n .l 7001 1 .l) 7002 2 .l) 7500 0 (.n .l 7501 1 .l)) 7502 2 (.n (.n (.n .l 7600 0 .l) 7601 1 .l) 7602 2 (.n .l 10300 0 .l)))) 10301 1 (.n (.n (.n (.n (.n .l 10700 0 .l) 10701 1 .l) 10702 2 (.n .l 11800 0 .l)) 11801 1 (.n (.n (.n .l 11802 7 .l) 11803 8 .l) 11804 9 (.n .l 11805 10 .l))) 11806 11 (.n (.n (.n (.n .l 11900 0 .l) 11901 1 .l) 11902 7 (.n .l 11903 8 .l)) 11904 9 (.n (.n .l 11905 10 .l) 11906 11 (.n .l 12100 0 .l)))))) 12101 3 (.n (.n (.n (.n (.n (.n (.n .l 12102 4 .l) 12200 0 .l) 12201 3 (.n .l 12202 4 .l)) 12600 0 (.n (.n (.n .l 12601 1 .l) 12602 2 .l) 12603 4 (.n .l 12604 5 .l))) 12605 6 (.n (.n (.n (.n .l 12700 0 .l) 12701 1 .l) 12702 2 (.n .l 12703 4 .l)) 12704 5 (.n (.n (.n .l 12705 6 .l) 14500 0 .l) 14501 3 (.n .l 14502 4 .l)))) 14503 5 (.n (.n (.n (.n (.n .l 14504 6 .l) 14505 7 .l) 14506 8 (.n .l 14600 0 .l)) 14601 3 (.n (.n (.n .l 14602 4 .l) 14603 5 .l) 14604 6 (.n .l 14605 7 .l))) 14606 8 (.n (.n (.n (.n .l 15100 0 .l) 15101 1 .l) 15102 2 (.n .l 15103 3 .l)) 15104 4 (.n (.n .l 15105 5 .l) 15200 0 (.n .l 15201 1 .l))))) 15202 2 (.n (.n (.n (.n (.n (.n .l 15203 3 .l) 15204 4 .l) 15205 5 (.n .l 20200 0 .l)) 20201 3 (.n (.n (.n .l 20202 4 .l) 20203 5 .l) 20204 6 (.n .l 20300 0 .l))) 20301 3 (.n (.n (.n (.n .l 20302 4 .l) 20303 5 .l) 20304 6 (.n .l 21300 0 .l)) 21301 1 (.n (.n (.n .l 21400 0 .l) 21401 1 .l) 23500 0 (.n .l 23501 1 .l)))) 23502 2 (.n (.n (.n (.n (.n .l 23600 0 .l) 23601 1 .l) 23602 2 (.n .l 27700 0 .l)) 27701 1 (.n (.n (.n .l 27702 2 .l) 27703 3 .l) 28800 0 (.n .l 28801 1 .l))) 28802 2 (.n (.n (.n (.n .l 28803 3 .l) 28804 4 .l) 28805 5 (.n .l 28806 6 .l)) 28807 7 (.n (.n .l 28808 8 .l) 28809 9 (.n .l 28810 10 .l))))))
def Jk:Tr (Nat×Nat):=.n (.n (.n (.n .l 22 (4,1) .l) 23 (127,7) (.n .l 26 (5,1) .l)) 30 (33,2) (.n (.n .l 37 (3,1) .l) 39 (103,2) (.n .l 43 (56,3) .l))) 54 (76,3) (.n (.n (.n .l 62 (70,3) .l) 104 (107,3) (.n .l 120 (119,12) .l)) 148 (147,1) (.n (.n .l 195 (39,1) .l) 198 (37,1) (.n .l 208 (207,1) .l)))
def Jw:Tr (List (Nat×Nat)×List Value):=.n (.n (.n (.n (.n (.n .l 7 ([(0,1),(1,1),(2,1),(3,1)],[.int .i64 0,.int .i64 0,.bool false,.int .u8 0]) .l) 13 ([(0,1),(1,1)],[.string ⟨#[]⟩,.int .u64 0]) .l) 18 ([(0,1)],[.pointer none]) (.n .l 24 ([(0,1),(1,1),(2,1)],[.int .i64 0,.slice none 0 0,.slice none 0 0]) .l)) 25 ([(0,1),(1,1),(2,1)],[.int .i64 0,.slice none 0 0,.slice none 0 0]) (.n (.n (.n .l 32 ([(0,1),(1,1)],[.int .i64 0,.int .i64 0]) .l) 33 ([(0,1),(1,1)],[.int .i64 0,.int .i64 0]) .l) 49 ([(0,3),(3,2),(5,1),(6,1),(7,1)],[.int .i64 0,.slice none 0 0,.slice none 0 0,.int .i64 0,.int .i64 0,.slice none 0 0,.int .i64 0,.int .i64 0]) (.n .l 50 ([(0,3),(3,2),(5,1),(6,1),(7,1)],[.int .i64 0,.slice none 0 0,.slice none 0 0,.int .i64 0,.int .i64 0,.slice none 0 0,.int .i64 0,.int .i64 0]) .l))) 55 ([(0,1),(1,1),(2,1)],[.int .i64 0,.slice none 0 0,.slice none 0 0]) (.n (.n (.n (.n .l 56 ([(0,1),(1,1),(2,1)],[.int .i64 0,.slice none 0 0,.slice none 0 0]) .l) 65 ([(0,1),(1,1),(2,1),(3,1),(4,1),(5,1)],[.int .i64 0,.int .i64 0,.int .i64 0,.int .i64 0,.slice none 0 0,.int .i64 0]) .l) 66 ([(0,1),(1,1),(2,1),(3,1),(4,1),(5,1)],[.int .i64 0,.int .i64 0,.int .i64 0,.int .i64 0,.slice none 0 0,.int .i64 0]) (.n .l 69 ([(0,1),(1,1),(2,1)],[.int .i64 0,.int .i64 0,.slice none 0 0]) .l)) 70 ([(0,1),(1,1),(2,1)],[.int .i64 0,.int .i64 0,.slice none 0 0]) (.n (.n (.n .l 75 ([(0,1),(1,1),(2,1)],[.slice none 0 0,.bool false,.slice none 0 0]) .l) 76 ([(0,1),(1,1),(2,1)],[.slice none 0 0,.bool false,.slice none 0 0]) .l) 103 ([(0,1),(1,1)],[.int .i64 0,.int .i64 0]) (.n .l 107 ([(0,1),(1,1),(2,1)],[.int .i64 0,.int .i64 0,.slice none 0 0]) .l)))) 118 ([(0,1),(1,6),(7,1),(8,1),(9,1),(10,1),(11,1)],[.int .i64 0,.int .i64 0,.int .i64 0,.int .i64 0,.int .i64 0,.slice none 0 0,.int .i64 0,.slice none 0 0,.slice none 0 0,.int .i64 0,.int .i64 0,.int .i64 0]) (.n (.n (.n (.n (.n .l 119 ([(0,1),(1,6),(7,1),(8,1),(9,1),(10,1),(11,1)],[.int .i64 0,.int .i64 0,.int .i64 0,.int .i64 0,.int .i64 0,.slice none 0 0,.int .i64 0,.slice none 0 0,.slice none 0 0,.int .i64 0,.int .i64 0,.int .i64 0]) .l) 121 ([(0,3),(3,1),(4,1)],[.int .i64 0,.slice none 0 0,.slice none 0 0,.slice none 0 0,.slice none 0 0]) .l) 122 ([(0,3),(3,1),(4,1)],[.int .i64 0,.slice none 0 0,.slice none 0 0,.slice none 0 0,.slice none 0 0]) (.n .l 126 ([(0,1),(1,1),(2,2),(4,1),(5,1),(6,1)],[.int .i64 0,.int .i64 0,.int .i64 0,.int .i64 0,.int .i64 0,.int .i64 0,.int .i64 0]) .l)) 127 ([(0,1),(1,1),(2,2),(4,1),(5,1),(6,1)],[.int .i64 0,.int .i64 0,.int .i64 0,.int .i64 0,.int .i64 0,.int .i64 0,.int .i64 0]) (.n (.n (.n .l 145 ([(0,3),(3,1),(4,1),(5,1),(6,1),(7,1),(8,1)],[.int .i64 0,.slice none 0 0,.slice none 0 0,.slice none 0 0,.slice none 0 0,.slice none 0 0,.slice none 0 0,.map none,.map none]) .l) 146 ([(0,3),(3,1),(4,1),(5,1),(6,1),(7,1),(8,1)],[.int .i64 0,.slice none 0 0,.slice none 0 0,.slice none 0 0,.slice none 0 0,.slice none 0 0,.slice none 0 0,.map none,.map none]) .l) 151 ([(0,1),(1,1),(2,1),(3,1),(4,1),(5,1)],[.int .i64 0,.int .i64 0,.slice none 0 0,.slice none 0 0,.bool false,.int .i64 0]) (.n .l 152 ([(0,1),(1,1),(2,1),(3,1),(4,1),(5,1)],[.int .i64 0,.int .i64 0,.slice none 0 0,.slice none 0 0,.bool false,.int .i64 0]) .l))) 202 ([(0,3),(3,1),(4,1),(5,1),(6,1)],[.int .i64 0,.slice none 0 0,.slice none 0 0,.slice none 0 0,.int .i64 0,.nilFunc,.nilFunc]) (.n (.n (.n (.n .l 203 ([(0,3),(3,1),(4,1),(5,1),(6,1)],[.int .i64 0,.slice none 0 0,.slice none 0 0,.slice none 0 0,.int .i64 0,.nilFunc,.nilFunc]) .l) 213 ([(0,1),(1,1)],[.pointer none,.slice none 0 0]) .l) 214 ([(0,1),(1,1)],[.pointer none,.slice none 0 0]) (.n .l 235 ([(0,1),(1,1),(2,1)],[.slice none 0 0,.slice none 0 0,.slice none 0 0]) .l)) 236 ([(0,1),(1,1),(2,1)],[.slice none 0 0,.slice none 0 0,.slice none 0 0]) (.n (.n .l 277 ([(0,1),(1,1),(2,1),(3,1)],[.pointer none,.pointer none,.pointer none,.string ⟨#[]⟩]) .l) 280 ([(0,0)],[]) (.n .l 288 ([(0,1),(1,1),(2,1),(3,1),(4,1),(5,1),(6,1),(7,1),(8,1),(9,1),(10,1)],[.int .u64 0,.int .u64 0,.int .u32 0,.int .u8 0,.int .u8 0,.int .u8 0,.int .u8 0,.nilFunc,.pointer none,.int .i32 0,.int .i32 0]) .l))))
def Js:Tr (Nat×Nat×List Value):=.n (.n (.n (.n .l 22 (4,1,[.bool false]) .l) 23 (127,7,[.int .i64 0,.int .i64 0,.int .i64 0,.int .i64 0,.int .i64 0,.int .i64 0,.int .i64 0]) (.n .l 26 (5,1,[.int .u8 0]) .l)) 30 (33,2,[.int .i64 0,.int .i64 0]) (.n (.n .l 37 (3,1,[.int .i64 0]) .l) 39 (103,2,[.int .i64 0,.int .i64 0]) (.n .l 43 (56,3,[.int .i64 0,.slice none 0 0,.slice none 0 0]) .l))) 54 (76,3,[.slice none 0 0,.bool false,.slice none 0 0]) (.n (.n (.n .l 62 (70,3,[.int .i64 0,.int .i64 0,.slice none 0 0]) .l) 104 (107,3,[.int .i64 0,.int .i64 0,.slice none 0 0]) (.n .l 120 (119,12,[.int .i64 0,.int .i64 0,.int .i64 0,.int .i64 0,.int .i64 0,.slice none 0 0,.int .i64 0,.slice none 0 0,.slice none 0 0,.int .i64 0,.int .i64 0,.int .i64 0]) .l)) 148 (147,1,[.pointer none]) (.n (.n .l 195 (39,1,[.slice none 0 0]) .l) 198 (37,1,[.slice none 0 0]) (.n .l 208 (207,1,[.nilFunc]) .l)))
def Jo:Tr (Nat×Nat×Nat×List Value):=.n (.n (.n (.n .l 22 (4,1,1,[.bool false]) .l) 23 (127,7,56,[.int .i64 0,.int .i64 0,.int .i64 0,.int .i64 0,.int .i64 0,.int .i64 0,.int .i64 0]) (.n .l 26 (5,1,1,[.int .u8 0]) .l)) 30 (33,2,16,[.int .i64 0,.int .i64 0]) (.n (.n .l 37 (3,1,8,[.int .i64 0]) .l) 39 (103,2,16,[.int .i64 0,.int .i64 0]) (.n .l 43 (56,3,56,[.int .i64 0,.slice none 0 0,.slice none 0 0]) .l))) 54 (76,3,56,[.slice none 0 0,.bool false,.slice none 0 0]) (.n (.n (.n .l 62 (70,3,40,[.int .i64 0,.int .i64 0,.slice none 0 0]) .l) 104 (107,3,40,[.int .i64 0,.int .i64 0,.slice none 0 0]) (.n .l 120 (119,12,144,[.int .i64 0,.int .i64 0,.int .i64 0,.int .i64 0,.int .i64 0,.slice none 0 0,.int .i64 0,.slice none 0 0,.slice none 0 0,.int .i64 0,.int .i64 0,.int .i64 0]) .l)) 148 (147,1,8,[.pointer none]) (.n (.n .l 195 (39,1,24,[.slice none 0 0]) .l) 198 (37,1,24,[.slice none 0 0]) (.n .l 208 (207,1,8,[.nilFunc]) .l)))
def Jq:Tr (List Value):=.n (.n (.n (.n (.n (.n (.n .l 2 [.int .i64 0] .l) 3 [.int .i64 0] .l) 4 [.bool false] (.n (.n .l 5 [.int .u8 0] .l) 7 [.int .i64 0,.int .i64 0,.bool false,.int .u8 0] .l)) 9 [.string ⟨#[]⟩] (.n (.n (.n .l 12 [.int .u64 0] .l) 13 [.string ⟨#[]⟩,.int .u64 0] .l) 15 [.pointer none] (.n (.n .l 16 [.pointer none] .l) 17 [.pointer none] .l))) 18 [.pointer none] (.n (.n (.n (.n .l 20 [.nilIface] .l) 21 [.int .i32 0] .l) 22 [.slice none 0 0] (.n (.n .l 23 [.slice none 0 0] .l) 24 [.int .i64 0,.slice none 0 0,.slice none 0 0] .l)) 25 [.int .i64 0,.slice none 0 0,.slice none 0 0] (.n (.n (.n .l 26 [.slice none 0 0] .l) 27 [.slice none 0 0,.slice none 0 0,.slice none 0 0] .l) 30 [.slice none 0 0] (.n (.n .l 32 [.int .i64 0,.int .i64 0] .l) 33 [.int .i64 0,.int .i64 0] .l)))) 34 [.int .i64 0] (.n (.n (.n (.n (.n .l 37 [.slice none 0 0] .l) 39 [.slice none 0 0] .l) 43 [.slice none 0 0] (.n (.n .l 49 [.int .i64 0,.slice none 0 0,.slice none 0 0,.int .i64 0,.int .i64 0,.slice none 0 0,.int .i64 0,.int .i64 0] .l) 50 [.int .i64 0,.slice none 0 0,.slice none 0 0,.int .i64 0,.int .i64 0,.slice none 0 0,.int .i64 0,.int .i64 0] .l)) 54 [.slice none 0 0] (.n (.n (.n .l 55 [.int .i64 0,.slice none 0 0,.slice none 0 0] .l) 56 [.int .i64 0,.slice none 0 0,.slice none 0 0] .l) 62 [.slice none 0 0] (.n (.n .l 65 [.int .i64 0,.int .i64 0,.int .i64 0,.int .i64 0,.slice none 0 0,.int .i64 0] .l) 66 [.int .i64 0,.int .i64 0,.int .i64 0,.int .i64 0,.slice none 0 0,.int .i64 0] .l))) 69 [.int .i64 0,.int .i64 0,.slice none 0 0] (.n (.n (.n (.n .l 70 [.int .i64 0,.int .i64 0,.slice none 0 0] .l) 75 [.slice none 0 0,.bool false,.slice none 0 0] .l) 76 [.slice none 0 0,.bool false,.slice none 0 0] (.n (.n .l 80 [.slice none 0 0,.slice none 0 0] .l) 100 [.nilFunc,.nilFunc,.nilFunc,.nilFunc] .l)) 103 [.int .i64 0,.int .i64 0] (.n (.n (.n .l 104 [.slice none 0 0] .l) 107 [.int .i64 0,.int .i64 0,.slice none 0 0] .l) 115 [.pointer none] (.n .l 118 [.int .i64 0,.int .i64 0,.int .i64 0,.int .i64 0,.int .i64 0,.slice none 0 0,.int .i64 0,.slice none 0 0,.slice none 0 0,.int .i64 0,.int .i64 0,.int .i64 0] .l))))) 119 [.int .i64 0,.int .i64 0,.int .i64 0,.int .i64 0,.int .i64 0,.slice none 0 0,.int .i64 0,.slice none 0 0,.slice none 0 0,.int .i64 0,.int .i64 0,.int .i64 0] (.n (.n (.n (.n (.n (.n .l 120 [.slice none 0 0] .l) 121 [.int .i64 0,.slice none 0 0,.slice none 0 0,.slice none 0 0,.slice none 0 0] .l) 122 [.int .i64 0,.slice none 0 0,.slice none 0 0,.slice none 0 0,.slice none 0 0] (.n (.n .l 125 [.int .i64 0,.int .i64 0] .l) 126 [.int .i64 0,.int .i64 0,.int .i64 0,.int .i64 0,.int .i64 0,.int .i64 0,.int .i64 0] .l)) 127 [.int .i64 0,.int .i64 0,.int .i64 0,.int .i64 0,.int .i64 0,.int .i64 0,.int .i64 0] (.n (.n (.n .l 139 [.pointer none] .l) 143 [.map none] .l) 144 [.map none] (.n (.n .l 145 [.int .i64 0,.slice none 0 0,.slice none 0 0,.slice none 0 0,.slice none 0 0,.slice none 0 0,.slice none 0 0,.map none,.map none] .l) 146 [.int .i64 0,.slice none 0 0,.slice none 0 0,.slice none 0 0,.slice none 0 0,.slice none 0 0,.slice none 0 0,.map none,.map none] .l))) 147 [.pointer none] (.n (.n (.n (.n .l 148 [.slice none 0 0] .l) 151 [.int .i64 0,.int .i64 0,.slice none 0 0,.slice none 0 0,.bool false,.int .i64 0] .l) 152 [.int .i64 0,.int .i64 0,.slice none 0 0,.slice none 0 0,.bool false,.int .i64 0] (.n (.n .l 181 [.pointer none] .l) 188 [.map none] .l)) 195 [.slice none 0 0] (.n (.n (.n .l 198 [.slice none 0 0] .l) 202 [.int .i64 0,.slice none 0 0,.slice none 0 0,.slice none 0 0,.int .i64 0,.nilFunc,.nilFunc] .l) 203 [.int .i64 0,.slice none 0 0,.slice none 0 0,.slice none 0 0,.int .i64 0,.nilFunc,.nilFunc] (.n (.n .l 208 [.slice none 0 0] .l) 212 [.pointer none] .l)))) 213 [.pointer none,.slice none 0 0] (.n (.n (.n (.n (.n .l 214 [.pointer none,.slice none 0 0] .l) 215 [.nilIface] .l) 216 [.nilIface] (.n (.n .l 225 [.pointer none] .l) 233 [.pointer none] .l)) 235 [.slice none 0 0,.slice none 0 0,.slice none 0 0] (.n (.n (.n .l 236 [.slice none 0 0,.slice none 0 0,.slice none 0 0] .l) 241 [.pointer none] .l) 247 [.int .u64 0] (.n (.n .l 248 [.int .u8 0,.int .u8 0,.int .u8 0,.int .u8 0,.int .u8 0,.int .u8 0,.int .u8 0,.int .u8 0,.int .u8 0,.int .u8 0,.int .u8 0,.int .u8 0,.int .u8 0,.int .u8 0,.int .u8 0,.int .u8 0,.int .u8 0,.int .u8 0,.int .u8 0,.int .u8 0,.int .u8 0,.int .u8 0,.int .u8 0,.int .u8 0] .l) 249 [.int .u64 0] .l))) 255 [.int .i64 0] (.n (.n (.n (.n .l 262 [.int .u32 0] .l) 264 [.int .u64 0,.int .u64 0,.int .u64 0,.int .u64 0,.int .u64 0,.int .u64 0,.int .u64 0,.int .u64 0,.int .u64 0,.int .u64 0,.int .u64 0,.int .u64 0,.int .u64 0,.int .u64 0,.int .u64 0,.int .u64 0,.int .u64 0,.int .u64 0,.int .u64 0,.int .u64 0] .l) 266 [.int .u64 0] (.n (.n .l 270 [.pointer none] .l) 272 [.pointer none] .l)) 275 [.int .u8 0,.int .u8 0,.int .u8 0,.int .u8 0,.int .u8 0,.int .u8 0,.int .u8 0,.int .u8 0,.int .u8 0,.int .u8 0,.int .u8 0,.int .u8 0,.int .u8 0,.int .u8 0,.int .u8 0,.int .u8 0,.int .u8 0,.int .u8 0,.int .u8 0,.int .u8 0,.int .u8 0,.int .u8 0,.int .u8 0,.int .u8 0,.int .u8 0,.int .u8 0,.int .u8 0,.int .u8 0,.int .u8 0,.int .u8 0,.int .u8 0,.int .u8 0] (.n (.n (.n .l 277 [.pointer none,.pointer none,.pointer none,.string ⟨#[]⟩] .l) 279 [] .l) 280 [] (.n .l 288 [.int .u64 0,.int .u64 0,.int .u32 0,.int .u8 0,.int .u8 0,.int .u8 0,.int .u8 0,.nilFunc,.pointer none,.int .i32 0,.int .i32 0] .l)))))
def Je:Tr (Unit):=.n .l 4 () .l
def Ji:Tr (Unit):=.n (.n (.n (.n .l 15 () .l) 16 () (.n .l 17 () .l)) 115 () (.n (.n .l 139 () .l) 147 () .l)) 181 () (.n (.n (.n .l 212 () .l) 225 () .l) 233 () (.n (.n .l 270 () .l) 272 () .l))
def Jn:Tr (Nat×Nat):=.n (.n (.n (.n .l 27 (3,1) .l) 80 (2,1) .l) 100 (4,1) (.n (.n .l 125 (2,1) .l) 248 (24,1) .l)) 264 (20,1) (.n (.n (.n .l 265 (65,1) .l) 275 (32,1) .l) 276 (64,1) (.n .l 279 (0,1) .l))
def Jh:Tr (Unit):=.n (.n (.n (.n (.n (.n (.n (.n .l 2 () .l) 3 () (.n .l 4 () .l)) 5 () (.n (.n .l 6 () .l) 7 () (.n .l 8 () .l))) 9 () (.n (.n (.n .l 10 () .l) 11 () (.n .l 12 () .l)) 13 () (.n (.n .l 14 () .l) 15 () (.n .l 16 () .l)))) 17 () (.n (.n (.n (.n .l 18 () .l) 19 () (.n .l 20 () .l)) 21 () (.n (.n .l 22 () .l) 23 () (.n .l 24 () .l))) 25 () (.n (.n (.n .l 26 () .l) 27 () (.n .l 28 () .l)) 29 () (.n (.n .l 30 () .l) 31 () (.n .l 32 () .l))))) 33 () (.n (.n (.n (.n (.n .l 34 () .l) 35 () (.n .l 36 () .l)) 37 () (.n (.n .l 38 () .l) 39 () (.n .l 40 () .l))) 41 () (.n (.n (.n .l 42 () .l) 43 () (.n .l 44 () .l)) 45 () (.n (.n .l 46 () .l) 47 () (.n .l 48 () .l)))) 49 () (.n (.n (.n (.n .l 50 () .l) 51 () (.n .l 52 () .l)) 53 () (.n (.n .l 54 () .l) 55 () (.n .l 56 () .l))) 57 () (.n (.n (.n .l 58 () .l) 59 () (.n .l 60 () .l)) 61 () (.n (.n .l 62 () .l) 63 () (.n .l 64 () .l)))))) 65 () (.n (.n (.n (.n (.n (.n .l 66 () .l) 67 () (.n .l 68 () .l)) 69 () (.n (.n .l 70 () .l) 71 () (.n .l 72 () .l))) 73 () (.n (.n (.n .l 74 () .l) 75 () (.n .l 76 () .l)) 77 () (.n (.n .l 78 () .l) 79 () (.n .l 80 () .l)))) 81 () (.n (.n (.n (.n .l 82 () .l) 83 () (.n .l 84 () .l)) 85 () (.n (.n .l 86 () .l) 87 () (.n .l 88 () .l))) 89 () (.n (.n (.n .l 90 () .l) 91 () (.n .l 92 () .l)) 93 () (.n (.n .l 94 () .l) 95 () (.n .l 96 () .l))))) 97 () (.n (.n (.n (.n (.n .l 98 () .l) 99 () (.n .l 100 () .l)) 101 () (.n (.n .l 102 () .l) 103 () (.n .l 104 () .l))) 105 () (.n (.n (.n .l 106 () .l) 107 () (.n .l 108 () .l)) 109 () (.n (.n .l 110 () .l) 111 () (.n .l 112 () .l)))) 113 () (.n (.n (.n (.n .l 114 () .l) 115 () (.n .l 116 () .l)) 117 () (.n (.n .l 118 () .l) 119 () (.n .l 120 () .l))) 121 () (.n (.n (.n .l 122 () .l) 123 () (.n .l 124 () .l)) 125 () (.n (.n .l 126 () .l) 127 () .l)))))) 128 () (.n (.n (.n (.n (.n (.n (.n .l 129 () .l) 130 () (.n .l 131 () .l)) 132 () (.n (.n .l 133 () .l) 134 () (.n .l 135 () .l))) 136 () (.n (.n (.n .l 137 () .l) 138 () (.n .l 139 () .l)) 140 () (.n (.n .l 141 () .l) 142 () (.n .l 143 () .l)))) 144 () (.n (.n (.n (.n .l 145 () .l) 146 () (.n .l 147 () .l)) 148 () (.n (.n .l 149 () .l) 150 () (.n .l 151 () .l))) 152 () (.n (.n (.n .l 153 () .l) 154 () (.n .l 155 () .l)) 156 () (.n (.n .l 157 () .l) 158 () (.n .l 159 () .l))))) 160 () (.n (.n (.n (.n (.n .l 161 () .l) 162 () (.n .l 163 () .l)) 164 () (.n (.n .l 165 () .l) 166 () (.n .l 167 () .l))) 168 () (.n (.n (.n .l 169 () .l) 170 () (.n .l 171 () .l)) 172 () (.n (.n .l 173 () .l) 174 () (.n .l 175 () .l)))) 176 () (.n (.n (.n (.n .l 177 () .l) 178 () (.n .l 179 () .l)) 180 () (.n (.n .l 181 () .l) 182 () (.n .l 183 () .l))) 184 () (.n (.n (.n .l 185 () .l) 186 () (.n .l 187 () .l)) 188 () (.n (.n .l 189 () .l) 190 () (.n .l 191 () .l)))))) 192 () (.n (.n (.n (.n (.n (.n .l 193 () .l) 194 () (.n .l 195 () .l)) 196 () (.n (.n .l 197 () .l) 198 () (.n .l 199 () .l))) 200 () (.n (.n (.n .l 201 () .l) 202 () (.n .l 203 () .l)) 204 () (.n (.n .l 205 () .l) 206 () (.n .l 207 () .l)))) 208 () (.n (.n (.n (.n .l 209 () .l) 210 () (.n .l 211 () .l)) 212 () (.n (.n .l 213 () .l) 214 () (.n .l 215 () .l))) 216 () (.n (.n (.n .l 217 () .l) 218 () (.n .l 220 () .l)) 221 () (.n (.n .l 222 () .l) 223 () (.n .l 224 () .l))))) 225 () (.n (.n (.n (.n (.n .l 226 () .l) 227 () (.n .l 228 () .l)) 229 () (.n (.n .l 230 () .l) 231 () (.n .l 232 () .l))) 233 () (.n (.n (.n .l 234 () .l) 235 () (.n .l 236 () .l)) 237 () (.n (.n .l 238 () .l) 239 () (.n .l 240 () .l)))) 241 () (.n (.n (.n (.n .l 242 () .l) 243 () (.n .l 244 () .l)) 245 () (.n (.n .l 246 () .l) 247 () (.n .l 248 () .l))) 249 () (.n (.n (.n .l 250 () .l) 251 () (.n .l 252 () .l)) 253 () (.n (.n .l 254 () .l) 278 () .l))))))
def facts:qP:=⟨Ju,Jj,Jk,Jw,Js,Jo,Jq,Je,Ji,Jn,Jh⟩
theorem bE:qP.Ok Tryz.prog facts:=⟨Tr.of (qV Tryz.prog) (by kernel_rfl),Tr.of (fun k=>jP Tryz.prog (k / 100) (k % 100)) (by kernel_rfl),Tr.of (wj Tryz.prog) (by kernel_rfl),Tr.of (Iw Tryz.prog) (by kernel_rfl),Tr.of (FW Tryz.prog) (by kernel_rfl),Tr.of (vI Tryz.prog) (by kernel_rfl),Tr.of (uU Tryz.prog) (by kernel_rfl),Tr.HJ (se Tryz.prog) (by kernel_rfl),Tr.HJ (od Tryz.prog) (by kernel_rfl),Tr.of (Ii Tryz.prog) (by kernel_rfl),Tr.HJ (enters Tryz.prog) (by kernel_rfl)⟩
instance:Has Tryz.prog facts:=⟨bE⟩
theorem mixed:Tryz.prog.follows .mixedOrders=true:=by kernel_rfl
end PW
end Go.Proofs.YtnegbdpggideiaaGreatDoor
namespace Go.Proofs.YtnegbdpggideiaaGreatDoor
namespace Net
open Go
structure mc where
 a:Int
 b:Int
 c0:Int
 c1:Int
 cap:Int
 eW:Int
 tX:Int
def mc.zero:mc:=⟨0,0,0,0,0,0,0⟩
structure ai where
 nodes:Int
 over:List Bool
 af:List mc
def cr(L:List mc)(i:Nat):mc:=L.getD i mc.zero
def bq(T:ai)(a:Nat):Int:=if a % 2=0 then(cr T.af (a / 2)).a else(cr T.af (a / 2)).b
def flip(a:Nat):Nat:=if a % 2=0 then a+1 else a - 1
def aS(T:ai)(a:Nat):Int:=bq T (flip a)
def cF(T:ai)(a:Nat):Int:=if a % 2=0 then(cr T.af (a / 2)).c0 else(cr T.af (a / 2)).c1
def dc(T:ai)(n:Nat):Bool:=T.over.getD n false
def bu(T:ai)(n:Int):Bool:=decide (0≤n∧n<T.nodes)
def eR(T:ai)(a:Int):Bool:=decide (0≤a∧a<2*(T.af.length:Int))
def bX(T:ai)(down:List Bool):Bool:=decide (down.length=0∨down.length=2*T.af.length)
def aX(down:List Bool)(a:Nat):Bool:=down.getD a false
def bO(n lo hi:Int):Bool:=decide (lo≤n∧n≤hi)
def ic(T:ai)(l:mc):Bool:=
 !(l.a==l.b)&&bu T l.a&&bu T l.b&&bO l.c0 1 65535&&bO l.c1 1 65535&&bO l.cap 0 1048576&&bO l.eW 1 65536&&bO l.tX 0 64
def ao(T:ai):Bool:=
 bO T.nodes 1 64&&decide (T.af.length≤256)&&(decide (T.over.length=0)||decide ((T.over.length:Int)=T.nodes))&&T.af.all (ic T)
theorem uM(p:mc→Bool)(L:List mc)(k:Nat)(hk:k<L.length):(L.take (k+1)).all p=((L.take k).all p&&p (cr L k)):=by
 rw[List.take_succ_eq_append_getElem hk,List.all_append]
 simp[cr,hk]
theorem vz(p:mc→Bool)(L:List mc)(k:Nat)(hk:k<L.length)(h:p (cr L k)=false):L.all p=false:=by
 rw[Bool.eq_false_iff]
 intro ha
 have:=List.all_eq_true.1 ha (cr L k) (by simp[cr,hk])
 rw[h]at this
 cases this
theorem gv(T:ai)(h:bO T.nodes 1 64=false∨256<T.af.length∨(T.over.length≠0∧(T.over.length:Int)≠T.nodes)):false=ao T:=by
 unfold ao
 rcases h with h|h|⟨h1,h2⟩
 ·simp[h]
 ·have:decide (T.af.length≤256)=false:=by simp;omega
  simp[this]
 ·simp[h1,h2]
theorem pC(T:ai)(h1:bO T.nodes 1 64=true)(h2:T.af.length≤256)(h3:T.over.length=0∨(T.over.length:Int)=T.nodes):ao T=T.af.all (ic T):=by
 unfold ao
 rcases h3 with h3|h3<;>simp[h1,h2,h3]
theorem sE{T:ai}{l:mc}{q1 q2 q3 q4 q5 q6 q7 q8:Bool}(g1:(l.a==l.b)=q1)(g2:bu T l.a=q2)(g3:bu T l.b=q3)(g4:bO l.c0 1 65535=q4)(g5:bO l.c1 1 65535=q5)(g6:bO l.cap 0 1048576=q6)(g7:bO l.eW 1 65536=q7)(g8:bO l.tX 0 64=q8):
  ic T l=(!q1 &&q2&&q3&&q4&&q5&&q6&&q7&&q8):=by subst g1 g2 g3 g4 g5 g6 g7 g8;rfl
theorem oL(T:ai)(n:Int):bO n 0 (T.nodes - 1)=bu T n:=by
 unfold bO bu
 exact decide_eq_decide.2 (by omega)
theorem ny{n lo hi:Int}(h:bO n lo hi=true):lo≤n∧n≤hi:=by simpa[bO]using h
theorem gQ{T:ai}(h:ao T=true):1≤T.nodes∧T.nodes≤64∧T.af.length≤256∧(T.over.length=0∨(T.over.length:Int)=T.nodes):=by
 unfold ao at h
 simp only[Bool.and_eq_true,Bool.or_eq_true,decide_eq_true_eq]at h
 obtain⟨⟨⟨h1,h2⟩,h3⟩,_⟩:=h
 have:=ny h1
 exact⟨this.1,this.2,h2,h3⟩
theorem ph{T:ai}(h:ao T=true)(i:Nat)(hi:i<T.af.length):ic T (cr T.af i)=true:=by
 unfold ao at h
 simp only[Bool.and_eq_true]at h
 exact List.all_eq_true.1 h.2 _ (by simp[cr,hi])
def vm(T:ai)(a:Int):Int:=if 0≤a∧a<2*(T.af.length:Int) then bq T a.toNat else -1
def v8(T:ai)(a:Int):Int:=if 0≤a∧a<2*(T.af.length:Int) then aS T a.toNat else -1
def fH(T:ai)(n:Int)(k:Nat):List Int:=((List.range k).filter fun a=>bq T a==n).map Int.ofNat
def bm(T:ai)(n:Int):List Int:=fH T n (2*T.af.length)
theorem sk(T:ai)(n:Int)(k:Nat)(h:(bq T k==n)=true):fH T n (k+1)=fH T n k++[(k:Int)]:=by
 simp[fH,List.range_succ,List.filter_append,h]
theorem uY(T:ai)(n:Int)(k:Nat)(h:(bq T k==n)=false):fH T n (k+1)=fH T n k:=by
 simp[fH,List.range_succ,List.filter_append,h]
theorem dH(T:ai)(n:Int)(k:Nat):(fH T n k).length≤k:=by
 simp only[fH,List.length_map]
 exact Nat.le_trans (List.length_filter_le _ _) (by simp)
def mh(L M:List Int):Bool:=decide (L=M)
theorem Dt(L M:List Int)(h:L.length≠M.length):false=mh L M:=by
 unfold mh;symm;exact decide_eq_false fun e=>h (by rw[e])
theorem Ev(L M:List Int)(k:Nat)(h:L.getD k 0≠M.getD k 0):false=mh L M:=by
 unfold mh;symm;exact decide_eq_false fun e=>h (by rw[e])
theorem CJ(L M:List Int)(hM:M.length=L.length)(h:∀i,i<L.length→L.getD i 0=M.getD i 0):true=mh L M:=by
 unfold mh;symm
 refine decide_eq_true (List.ext_getElem hM.symm fun i h1 h2=>?_)
 have:=h i h1
 simpa[h1,h2]using this
theorem rr(T:ai)(k:Nat)(hk:k<2*T.af.length):vm T (k:Int)=bq T k:=by
 unfold vm;rw[if_pos ⟨by omega,by omega⟩];rfl
theorem As(T:ai)(k:Nat)(hk:k<2*T.af.length):v8 T (k:Int)=aS T k:=by
 unfold v8;rw[if_pos ⟨by omega,by omega⟩];rfl
theorem DQ(a:Nat)(ha:a<9223372036854775806):bits .xor .i64 (a:Int) 1=(flip a:Int):=by
 have h1:(a ^^^ 1) / 2=a / 2:=by rw[Nat.xor_div_two];simp
 have h2:((a ^^^ 1) % 2=1)↔¬((a % 2=1)↔(1 % 2=1)):=Nat.xor_mod_two_eq_one
 have h3:a ^^^ 1=flip a:=by unfold flip;split<;>omega
 have e1:(BitVec.ofInt 64 (a:Int)).toNat=a:=by rw[BitVec.ofInt_natCast,BitVec.toNat_ofNat];exact Nat.mod_eq_of_lt (by omega)
 have e2:(BitVec.ofInt 64 (1:Int)).toNat=1:=by decide
 show IntKind.i64.wrap ((BitVec.ofInt 64 (a:Int) ^^^ BitVec.ofInt 64 (1:Int)).toNat:Int)=_
 rw[BitVec.toNat_xor,e1,e2,h3]
 exact IntWalk.i64_in _ (by unfold flip;split<;>omega)
end Net
end Go.Proofs.YtnegbdpggideiaaGreatDoor
namespace Go.Proofs.YtnegbdpggideiaaGreatDoor
namespace PW
open Go.RowKit cA Mem Net
abbrev num(n:Int):PV:=.raw (.int .i64 n)
abbrev flag(b:Bool):PV:=.raw (.bool b)
theorem bU{α:Type}{L:List α}{i:Nat}{d:α}(h:i<L.length):L.getD i d∈L:=by
 have:L.getD i d=L[i]:=by simp[h]
 rw[this];exact List.getElem_mem h
theorem df{α:Type}(L:List α)(i:Nat)(d:α)(h:i<L.length):L.take (i+1)=L.take i++[L.getD i d]:=by
 rw[List.take_add_one];simp[h]
def aN(L:List Int):List PV:=L.map fun n=>.raw (.int .i64 n)
def bP(L:List Bool):List PV:=L.map fun b=>.raw (.bool b)
def ax(L:List Int):PV:=.slice L.length (aN L)
def bf(L:List Bool):PV:=.slice L.length (bP L)
def jn(l:mc):List PV:=[.raw (.int .i64 l.a),.raw (.int .i64 l.b),.raw (.int .i64 l.c0),.raw (.int .i64 l.c1),.raw (.int .i64 l.cap),.raw (.int .i64 l.eW),.raw (.int .i64 l.tX)]
def gd(L:List mc):List PV:=L.flatMap jn
def bx(T:ai):List PV:=[.raw (.int .i64 T.nodes),bf T.over,.slice T.af.length (gd T.af)]
def aP(T:ai):PV:=.agg (bx T)
instance (L:List Int):aG (aN L):=aG.map _ _ fun _=>inferInstance
instance (L:List Bool):aG (bP L):=aG.map _ _ fun _=>inferInstance
instance (L:List Int):cq (aN L):=cq.map _ _ fun _=>inferInstance
instance (L:List Bool):cq (bP L):=cq.map _ _ fun _=>inferInstance
instance (l:mc):aG (jn l):=by unfold jn;infer_instance
instance (l:mc):cq (jn l):=by unfold jn;infer_instance
instance (L:List mc):aG (gd L):=aG.flatMap _ _ fun _=>inferInstance
instance (L:List mc):cq (gd L):=cq.flatMap _ _ fun _=>inferInstance
instance (L:List Int):IsPure (ax L):=by unfold ax;infer_instance
instance (L:List Bool):IsPure (bf L):=by unfold bf;infer_instance
instance (T:ai):aG (bx T):=by unfold bx;infer_instance
instance (T:ai):IsPure (aP T):=by unfold aP;infer_instance
instance (L:List Int):eM (ax L):=by unfold ax;infer_instance
instance (L:List Bool):eM (bf L):=by unfold bf;infer_instance
theorem aD(L:List Int)(i:Nat)(h:i<L.length):(aN L)[i]? =some (.raw (.int .i64 (L.getD i 0))):=by simp[aN,h]
theorem cW(L:List Bool)(i:Nat)(h:i<L.length):(bP L)[i]? =some (.raw (.bool (L.getD i false))):=by simp[bP,h]
theorem cJ(L M:List Int):aN L++aN M=aN (L++M):=by simp[aN]
theorem bT(L:List Int)(n:Int):aN L++[.raw (.int .i64 n)]=aN (L++[n]):=by simp[aN]
theorem zM(L:List Int)(i:Nat)(n:Int)(h:i<L.length):over (aN L) i [.raw (.int .i64 n)]=aN (L.set i n):=by
 unfold over aN
 rw[List.map_set,List.set_eq_take_append_cons_drop,if_pos (by simpa using h)]
 simp
theorem xF(L:List Bool)(i:Nat)(n:Bool)(h:i<L.length):over (bP L) i [.raw (.bool n)]=bP (L.set i n):=by
 unfold over bP
 rw[List.map_set,List.set_eq_take_append_cons_drop,if_pos (by simpa using h)]
 simp
theorem bS.mono{P:Program}{f:FuncId}{ps:List PV}{σ:cd}{R R':PV→cd→Prop}(h:bS P f ps σ R)(hr:∀r σ',R r σ'→R' r σ'):bS P f ps σ R':=fun F base E w vs hS hR=>
 (h F base E w vs hS hR).mono fun _ _ ⟨v,r,σ',E',h1,h2,h3⟩=>⟨v,r,σ',E',h1,hr r σ' h2,h3⟩
theorem bQ{P:Program}{σ:cd}{t:bZ}{o:Oper}{ty e n:Nat}{x y:Operand}{i j:Nat}{c:Int}{L:List Int}(ho:o.op= .store ty x y)(hk:qV P ty=some none)(hx:aC t x=some (.ptr i j))(hy:aC t y=some (num c))(hi:σ[i]? =some (some (.row e 1 n (aN L))))(hj:j<L.length):
  cK P σ t o (.raw undef) (σ.set i (some (.row e 1 n (aN (L.set j c))))):=by
 have:=cH ho hk hx hy hi (by show j<(aN L).length;simpa[aN]using hj)
 have he:cR.rQ (.row e 1 n (aN L)) (over (cR.xs (.row e 1 n (aN L))) j [num c])= .row e 1 n (aN (L.set j c)):=by
  show cR.row e 1 n (over (aN L) j [num c])=_
  rw[zM L j c hj]
 rw[he]at this
 exact this
theorem bb{P:Program}{σ:cd}{t:bZ}{o:Oper}{ty e n:Nat}{x y:Operand}{i j:Nat}{c:Bool}{L:List Bool}(ho:o.op= .store ty x y)(hk:qV P ty=some none)(hx:aC t x=some (.ptr i j))(hy:aC t y=some (flag c))(hi:σ[i]? =some (some (.row e 1 n (bP L))))(hj:j<L.length):
  cK P σ t o (.raw undef) (σ.set i (some (.row e 1 n (bP (L.set j c))))):=by
 have:=cH ho hk hx hy hi (by show j<(bP L).length;simpa[bP]using hj)
 have he:cR.rQ (.row e 1 n (bP L)) (over (cR.xs (.row e 1 n (bP L))) j [flag c])= .row e 1 n (bP (L.set j c)):=by
  show cR.row e 1 n (over (bP L) j [flag c])=_
  rw[xF L j c hj]
 rw[he]at this
 exact this
theorem cS(n:Nat):dp [.raw (.int .i64 0)] n=aN (List.replicate n 0):=by
 induction n with
 |zero=>rfl
 |succ n ih=>simp only[dp,ih,List.replicate_succ,aN];rfl
theorem gS(n:Nat):dp [.raw (.bool false)] n=bP (List.replicate n false):=by
 induction n with
 |zero=>rfl
 |succ n ih=>simp only[dp,ih,List.replicate_succ,bP];rfl
theorem eH(L:List mc)(i j:Nat)(hi:i<L.length)(hj:j<7):(gd L)[i*7+j]? =(jn (cr L i))[j]? :=by
 induction L generalizing i with
 |nil=>simp at hi
 |cons l L ih=>
  cases i with
  |zero=>
   simp only[gd,List.flatMap_cons,Nat.zero_mul,Nat.zero_add]
   rw[List.getElem?_append_left (by simp[jn];omega)]
   rfl
  |succ i=>
   have:=ih i (by simpa using hi)
   simp only[gd,List.flatMap_cons]at*
   rw[List.getElem?_append_right (by simp[jn];omega)]
   rw[show(i+1)*7+j - (jn l).length=i*7+j by simp[jn];omega]
   rw[this]
   rfl
theorem dE{E:Env}{w:World}{v u:Value}(h:cz E w v (.raw u)):v=u:=by cases h;rfl
theorem H8{E:Env}{w:World}{vs:Array Value}{p:PV}(h:aU E w vs.toList [p]):∃v,vs= #[v]∧cz E w v p:=by
 obtain⟨l⟩:=vs
 match l,h with
 | [v],h=>exact⟨v,rfl,h.BW.1⟩
 | [],h=>simp[aU]at h
 |_::_::_,h=>simp[aU]at h
theorem CA(L:List mc)(i:Nat)(hi:i<L.length):((gd L).drop (i*7)).take 7=jn (cr L i):=by
 refine List.ext_getElem? fun j=>?_
 by_cases hj:j<7
 ·rw[List.getElem?_take,if_pos hj,List.getElem?_drop,eH L i j hi hj]
 ·rw[List.getElem?_eq_none (by simp;omega),List.getElem?_eq_none (by simp[jn];omega)]
end PW
end Go.Proofs.YtnegbdpggideiaaGreatDoor
