/- Texts of the proof, part 3. -/
import Derived.Test.YteikppbedmmdnaaGreatDoorProg
import Derived.WalkKit
import Derived.ProofKit
import Derived.Deep.Slices
import Derived.Lib.SmallJoins
import Derived.Test.YteikppbedmmdnaaGreatDoorCardWIB2
set_option linter.unusedVariables false
set_option linter.unusedSimpArgs false
set_option maxRecDepth 10000
set_option maxHeartbeats 1000000
namespace Go.Proofs.YteikppbedmmdnaaGreatDoor
namespace PW
section
open Go.RowKit cj Mem
class sN (p:PV):Prop where
 out:∀(E:Env) (w w':World) (v:Value),cu E w v p→cu E w' v p
 Ly:∀(E:Env) (w:World) (v v':Value),cu E w v p→cu E w v' p→v=v'
instance (v:Value):sN (.raw v):=⟨fun _ _ _ _ h=>by cases h;exact .raw _,fun _ _ _ _ h h'=>by cases h;cases h';rfl⟩
instance (i:Nat):sN (.own i):=⟨fun _ _ _ _ h=>by cases h with|own _ hi _ h hs=>exact .own i hi _ h hs,fun _ _ _ _ h h'=>by
 cases h with
 |own _ _ _ h _=>cases h' with
  |own _ _ _ h' _=>rw[←h,←h']⟩
instance (i k:Nat):sN (.ptr i k):=⟨fun _ _ _ _ h=>by cases h with|ptr _ _ b hi h=>exact .ptr i k b hi h,fun E w v v' h h'=>by
 cases h with
 |ptr _ _ b _ h=>cases h' with
  |ptr _ _ b' _ h'=>
   have:b=b':=by
    rcases h with h|⟨n,c,h⟩<;>rcases h' with h'|⟨n',c',h'⟩<;>rw[h]at h'<;>simp at h'<;>first|exact h'|exact h'.1
   rw[this]⟩
section
variable {P:Program} {ops:Array Oper} {N L:Nat}
def lP(P:Program)(t:b9)(o:Oper)(p:PV):Prop:=∀E ρ w,kJ ρ→cG E w ρ t→∃v,(∀w',(execOp ρ o).run P w'= .ok (.value v) w')∧cu E w v p
theorem nz{t:b9}{o:Oper}{x:Operand}{p:PV}(ho:o.op= .move x)(hx:aA t x=some p):lP P t o p:=fun E ρ w hρ hT=>
 ⟨ρ x,fun w'=>by simp only[execOp,ho,Sem.run_pure],aq hρ hT hx⟩
theorem Kv{t:b9}{o:Oper}{op:BinOp}{x y:Operand}{ty tz:TypeId}{k:IntKind}{a b:Int}{v:Value}(ho:o.op= .binOp op ty x y tz)(hx:aA t x=some (.raw (.int k a)))(hy:aA t y=some (.raw (.int k b)))
  (hv:∀w,(binOp op ty (.int k a) (.int k b)).run P w= .ok v w):lP P t o (.raw v):=fun E ρ w hρ hT=>by
 have h1:=aq hρ hT hx
 have h2:=aq hρ hT hy
 generalize hz:ρ x=z at h1
 generalize hz':ρ y=z' at h2
 cases h1
 cases h2
 have hg:∀w,(eqGuard op ty x y (.int k a) (.int k b)).run P w= .ok () w:=by
  intro w;unfold eqGuard;split<;>rfl
 exact⟨v,fun w'=>by simp only[execOp,ho,hz,hz',Sem.run_bind,Sem.run_pure,Result.andThen_ok,hg,hv],.raw _⟩
theorem Kc{t:b9}{o:Oper}{x y:Operand}{ty tz:TypeId}{a b c:Int}(ho:o.op= .binOp .sub ty x y tz)(hx:aA t x=some (.raw (.int .i64 a)))(hy:aA t y=some (.raw (.int .i64 b)))(hc:a - b=c)(hn:In64 c):lP P t o (.raw (.int .i64 c)):=
 Kv ho hx hy fun w=>by simp[binOp,Op.intArith,hc,jF hn]
theorem lP.y{t:b9}{o:Oper}{p:PV}{σ:bN}(h:lP P t o p):bh P σ t o p:=fun F base E ρ w hρ _ hT=>by
 obtain⟨v,h1,h2⟩:=h E ρ w hρ hT
 rw[h1];exact bd h2
def jW:List Oper→List PV→b9→b9
 |o::l,p::ps,t=>jW l ps (match o.dst with|some d=>(d,p)::t|none=>t)
 |_,_,t=>t
inductive jq (P:Program) (N:Nat) (ops:Array Oper) (σ:bN):List Oper→List PV→List Bool→b9→Prop
 |nil {t:b9}:jq P N ops σ [] [] [] t
 |val {o:Oper} {rest:List Oper} {t:b9} {d:Nat} {p:PV} {ps:List PV} {fs:List Bool} (ks:List Nat):(ks.all fun k=>(o.looksAt ops).contains k)=true→bh P σ (fx t ks) o p→o.dst=some d→Nat.blt d N=true→jq P N ops σ rest ps fs ((d,p)::t)→jq P N ops σ (o::rest) (p::ps) (false::fs) t
 |late {o:Oper} {rest:List Oper} {t:b9} {d:Nat} {p:PV} {ps:List PV} {fs:List Bool} (ks:List Nat):(ks.all fun k=>(o.looksAt ops).contains k)=true→lP P (fx t ks) o p→sN p→o.dst=some d→Nat.blt d N=true→jq P N ops σ rest ps fs ((d,p)::t)→jq P N ops σ (o::rest) (p::ps) (true::fs) t
structure Datum (P:Program) (N:Nat) (ops:Array Oper) (σ:bN) (o:Oper) (p:PV) (fl:Bool) (t:b9):Prop where
 dst:∃d,o.dst=some d∧d<N
 y:∃ks,(∀k∈ks,k∈o.looksAt ops)∧bh P σ (fx t ks) o p
 r:fl=true→sN p∧∃ks,(∀k∈ks,k∈o.looksAt ops)∧lP P (fx t ks) o p
theorem jq.data{σ:bN}{l:List Oper}{ps:List PV}{fs:List Bool}{t:b9}(h:jq P N ops σ l ps fs t):ps.length=l.length∧fs.length=l.length∧∀(i:Nat) o p f,l[i]? =some o→ps[i]? =some p→fs[i]? =some f→Datum P N ops σ o p f (jW (l.take i) (ps.take i) t):=by
 have mem:∀ {ks:List Nat} {o:Oper},(ks.all fun k=>(o.looksAt ops).contains k)=true→∀k∈ks,k∈o.looksAt ops:=fun h k hk=>by
  have:=List.all_eq_true.1 h k hk;simpa using this
 induction h with
 |nil=>exact⟨rfl,rfl,fun i o p f h=>by simp at h⟩
 | @val o rest t d p ps fs ks hks hy hd hN _ ih=>
  refine⟨by simp[ih.1],by simp[ih.2.1],fun i o' p' f h1 h2 h3=>?_⟩
  cases i with
  |zero=>
   simp at h1 h2 h3
   subst h1;subst h2;subst h3
   exact⟨⟨d,hd,Nat.blt_eq.mp hN⟩,⟨ks,mem hks,hy⟩,fun e=>by cases e⟩
  |succ i=>
   have:=ih.2.2 i o' p' f (by simpa using h1) (by simpa using h2) (by simpa using h3)
   simpa[jW,hd]using this
 | @late o rest t d p ps fs ks hks hy hfp hd hN _ ih=>
  refine⟨by simp[ih.1],by simp[ih.2.1],fun i o' p' f h1 h2 h3=>?_⟩
  cases i with
  |zero=>
   simp at h1 h2 h3
   subst h1;subst h2;subst h3
   exact⟨⟨d,hd,Nat.blt_eq.mp hN⟩,⟨ks,mem hks,hy.y⟩,fun _=>⟨hfp,ks,mem hks,hy⟩⟩
  |succ i=>
   have:=ih.2.2 i o' p' f (by simpa using h1) (by simpa using h2) (by simpa using h3)
   simpa[jW,hd]using this
def bV(ops:Array Oper)(i:Nat):Option Nat:=(ops[i]?).bind (·.dst)
def cR(ops:Array Oper)(i:Nat):List Nat:=match ops[i]? with|some o=>o.looksAt ops|none=>[]
def HS(ops:Array Oper)(f m:Nat)(fl:List Bool):Bool:=
 decide (m≤ops.size)&&Nat.beq fl.length m&&
 ((List.range ops.size).all fun i=>(jD ops i).all fun k=>decide (k<i))&&
 ((List.range ops.size).all fun i=>((ops[i]?).all fun o=>o.guard.isNone))&&
 ((List.range m).all fun i=>(List.range i).all fun j=>bV ops i !=bV ops j)&&
 ((List.range m).all fun j=>(cR ops j).all fun k=>(List.range m).all fun i=>bV ops i !=some k||(decide (i<j)&&(jD ops j).contains i))&&
 ((List.range ops.size).all fun i=>decide (i<m)||(List.range i).all fun j=>fl.getD j false||de ops f i j)&&
 ((List.range ops.size).all fun i=>decide (i<m)||(List.range m).all fun j=> !fl.getD j false||((bV ops j).all fun d=> !(cR ops i).contains d||de ops f i j))&&
 ((List.range ops.size).all fun i=>decide (i<m)||(List.range m).all fun j=> !fl.getD j false||((bV ops i).all fun d=>bV ops j !=some d&& !(cR ops j).contains d))
structure Form (ops:Array Oper) (f m:Nat) (fl:List Bool):Prop where
 le:m≤ops.size
 Lc:fl.length=m
 jD:∀i,i<ops.size→∀k∈jD ops i,k<i
 ng:∀(i:Nat) (o:Oper),ops[i]? =some o→o.guard=none
 ss:∀i j,i<m→j<i→bV ops i≠bV ops j
 rd:∀j,j<m→∀k∈cR ops j,∀i,i<m→bV ops i=some k→i<j∧i∈PW.jD ops j
 LA:∀i,i<ops.size→m≤i→∀j,j<i→fl.getD j false=false→de ops f i j=true
 use:∀i,i<ops.size→m≤i→∀j,j<m→fl.getD j false=true→∀d,bV ops j=some d→d∈cR ops i→de ops f i j=true
 wr:∀i,i<ops.size→m≤i→∀j,j<m→fl.getD j false=true→∀d,bV ops i=some d→bV ops j≠some d∧d∉cR ops j
theorem Cq{f m:Nat}{fl:List Bool}(h:HS ops f m fl=true):Form ops f m fl:=by
 unfold HS at h
 simp only[Bool.and_eq_true]at h
 obtain⟨⟨⟨⟨⟨⟨⟨⟨h1,h2⟩,h3⟩,h4⟩,h5⟩,h6⟩,h7⟩,h8⟩,h9⟩:=h
 have all:∀ {n:Nat} {p:Nat→Bool},(List.range n).all p=true→∀i,i<n→p i=true:=fun h i hi=>List.all_eq_true.1 h i (List.mem_range.2 hi)
 refine⟨by simpa using h1,Nat.eq_of_beq_eq_true h2,fun i hi k hk=>?_,fun i o ho=>?_,fun i j hi hj=>?_,fun j hj k hk i hi hd=>?_,fun i hi hm j hj hf=>?_,fun i hi hm j hj hf d hd hl=>?_,fun i hi hm j hj hf d hd=>?_⟩
 ·have:=List.all_eq_true.1 (all h3 i hi) k hk;simpa using this
 ·have hi:i<ops.size:=(Array.getElem?_eq_some_iff.1 ho).1
  have:=all h4 i hi
  rw[ho]at this
  simpa using this
 ·have:=all (all h5 i hi) j hj
  simpa using this
 ·have:=all (List.all_eq_true.1 (all h6 j hj) k hk) i hi
  rw[hd]at this
  simpa using this
 ·have:=all h7 i hi
  simp only[Bool.or_eq_true,decide_eq_true_eq]at this
  rcases this with h|h
  ·omega
  ·have:=all h j hj
   rw[hf]at this
   simpa using this
 ·have:=all h8 i hi
  simp only[Bool.or_eq_true,decide_eq_true_eq]at this
  rcases this with h|h
  ·omega
  ·have:=all h j hj
   rw[hf,hd]at this
   simpa[hl]using this
 ·have:=all h9 i hi
  simp only[Bool.or_eq_true,decide_eq_true_eq]at this
  rcases this with h|h
  ·omega
  ·have:=all h j hj
   rw[hf,hd]at this
   simpa using this
structure EY (ops:Array Oper) (m:Nat) (fl:List Bool) (ls:Array Bool) (a a₁:Act):Prop where
 jL:a.defers=a₁.defers
 size:a.tmps.size=a₁.tmps.size
 tmp:∀k,(∀j,j<m→fl.getD j false=true→ls.getD j true=false→bV ops j≠some k)→a.eval (.tmp k)=a₁.eval (.tmp k)
def Ie(P:Program)(ops:Array Oper)(m:Nat)(fl:List Bool)(a₁:Act):Prop:=
 ∀j o d,j<m→fl.getD j false=true→ops[j]? =some o→o.dst=some d→∀w,(execOp a₁.eval o).run P w= .ok (.value (a₁.eval (.tmp d))) w
theorem Cl{i:Nat}{o:Oper}(ho:ops[i]? =some o){k:Nat}(hk:Operand.tmp k∈o.op.operands):k∈cR ops i:=by
 unfold cR
 rw[ho]
 exact List.mem_append_left _ (List.mem_filterMap.2 ⟨.tmp k,by simpa using hk,rfl⟩)
theorem nB{i:Nat}{o:Oper}{a a₁:Act}(ho:ops[i]? =some o)(hs:∀cs b,o.op≠ .select cs b)(h:∀k∈cR ops i,a.eval (.tmp k)=a₁.eval (.tmp k)):execOp a.eval o=execOp a₁.eval o:=by
 refine execOp_congr o hs fun x hx=>?_
 match x,hx with
 | .tmp k,hx=>exact h k (Cl ho hx)
 | .const v,_=>rfl
 | .global g,_=>rfl
 | .func g,_=>rfl
theorem IS{a a₁:Act}(hd:a.defers=a₁.defers)(hs:a.tmps.size=a₁.tmps.size)(h:∀k,a.eval (.tmp k)=a₁.eval (.tmp k)):a=a₁:=by
 obtain⟨t,d⟩:=a
 obtain⟨t',d'⟩:=a₁
 simp only at hd hs
 subst hd
 congr
 apply Array.ext hs
 intro i h1 h2
 have:=h i
 simpa[Act.eval,h1,h2]using this
theorem iB(a:Act){d:Nat}(hd:d<a.tmps.size)(v:Value)(k:Nat):(a.put (some d) v).eval (.tmp k)=if k=d then v else a.eval (.tmp k):=by
 split
 ·rename_i e;subst e;simp[Act.put,Act.eval,hd]
 ·rename_i e;exact Act.eval_put (fun d' hd' heq=>by cases hd';cases heq;exact e rfl)
def Dd(Qn:Act→World→Prop):Exit→Act→World→Prop
 | .normal,a,w=>Qn a w
 |_,_,_=>False
theorem E9{o:Oper}{a a₁:Act}{w:World}{K K':Act→World→Prop}{Qn:Act→World→Prop}{Q:Exit→Act→World→Prop}(he:execOp a.eval o=execOp a₁.eval o)(hd:a.defers=a₁.defers)(hh:o.wp P a₁ w K (Dd Qn))(h:∀ds v w',K (({a₁ with defers:=ds}:Act).put o.dst v) w'→K' (({a with defers:=ds}:Act).put o.dst v) w'):o.wp P a w K' Q:=by
 have h1:∀v w',K (a₁.put o.dst v) w'→K' (a.put o.dst v) w':=fun v w' hk=>by
  have:=h a₁.defers v w' hk
  rw[←hd]at this
  exact this
 unfold Oper.wp at*
 rw[he]
 generalize (execOp a₁.eval o).run P w=x at*
 cases x with
 |ok n w'=>
  cases n<;>simp only[Oper.upon]at hh ⊢
  case value v=>exact h1 _ _ hh
  case skip=>exact h1 _ _ hh
  case defer d=>rw[hd];exact h _ _ _ hh
  case enter f args=>exact Calls.mono hh (fun e w'' he=>by cases e<;>first|exact h1 _ _ he|exact he.elim|exact(he.elim fun _ h=>h.elim fun _ h=>h.elim))
  case row r args=>exact Rows.mono hh (fun _ _ he=>h1 _ _ he)
  all_goals exact hh.elim
 |halt x w'=>cases x<;>simp only[Oper.upon]at hh ⊢ <;>exact hh.elim
theorem D2{f m:Nat}{fl:List Bool}(hF:Form ops f m fl)(hsel:∀(i:Nat) (o:Oper),ops[i]? =some o→∀cs b,o.op≠ .select cs b)(hfd:∀j,j<m→∃d,bV ops j=some d){Qn:Act→World→Prop}{Q:Exit→Act→World→Prop}(hQ:∀a w,Qn a w→Q .normal a w):
  ∀(fuel k r:Nat) (ls:Array Bool) (a a₁:Act) (w:World),k+r=ops.size→m≤k→ls.size=ops.size→(∀i,k≤i→i<ops.size→ls.getD i true=false)→(∀i,m≤i→i<k→ls.getD i true=true)→(∀i,i<m→fl.getD i false=false→ls.getD i true=true)→Down ops ls→fuel=bE ls m+r→
   EY ops m fl ls a a₁→Ie P ops m fl a₁→(∀j d,j<m→bV ops j=some d→d<a₁.tmps.size)→wpOps P ops (Dd Qn) (List.range' k r) a₁ w→wpAny P .any ops Q fuel ls a w:=by
 intro fuel
 induction fuel with
 |zero=>
  intro k r ls a a₁ w hk hm hsz hA hB hC hD hfu hag hfx hds h
  have hr:r=0:=by omega
  subst hr
  have hu:bE ls m=0:=by omega
  have hall:∀i,i<ops.size→ls.getD i true=true:=fun i hi=>by
   rcases Nat.lt_or_ge i m with h'|h'
   ·exact cI hu i h'
   ·exact hB i h' (by omega)
  have hr0:Region.ready .any ops ls=[]:=by
   apply List.eq_nil_iff_forall_not_mem.2
   intro i hi
   obtain⟨h1,h2,_⟩:=cb.1 hi
   rw[hall i h1]at h2;cases h2
  have:a=a₁:=IS hag.jL hag.size fun k=>hag.tmp k fun j hj _ hl=>by
   rw[cI hu j hj]at hl;cases hl
  subst this
  exact⟨hr0,hQ a w h⟩
 |succ fuel ih=>
  intro k r ls a a₁ w hk hm hsz hA hB hC hD hfu hag hfx hds h
  have hf:∀b c (i:Nat),i<ops.size→ls.getD i b=ls.getD i c:=fun b c i hi=>by simp[show i<ls.size by omega]
  have hne:Region.ready .any ops ls≠[]:=by
   rcases Nat.eq_zero_or_pos (bE ls m)with hu|hu
   ·have hkr:k<ops.size:=by omega
    have:k∈Region.ready .any ops ls:=cb.2 ⟨hkr,hA k (Nat.le_refl _) hkr,fun j hj=>by
     have:=hF.jD k hkr j hj
     rw[hf false true j (by omega)]
     rcases Nat.lt_or_ge j m with h'|h'
     ·exact cI hu j h'
     ·exact hB j h' this⟩
    intro h0;rw[h0]at this;cases this
   ·obtain⟨i,h1,h2,h3⟩:=ec hu
    have hle:=hF.le
    have:i∈Region.ready .any ops ls:=cb.2 ⟨by omega,h2,fun j hj=>by
     have:=hF.jD i (by omega) j hj
     rw[hf false true j (by omega)];exact h3 j this⟩
    intro h0;rw[h0]at this;cases this
  refine⟨fun h0=>absurd h0 hne,fun i hi=>?_⟩
  obtain⟨hi1,hi2,hi3⟩:=cb.1 hi
  have ho:ops[i]? =some ops[i]:=by simp[hi1]
  have hwant:Region.wanted ops[i] (yielded ops a.tmps)=true:=by unfold Region.wanted;rw[hF.ng i _ ho]
  have hset:∀(j:Nat) b,(ls.setIfInBounds i true).getD j b=if j=i then true else ls.getD j b:=fun j b=>by
   by_cases e:i=j
   ·subst e;simp[show i<ls.size by omega]
   ·rw[if_neg (fun h=>e h.symm),Array.getD_eq_getD_getElem?,Array.getD_eq_getD_getElem?,Array.getElem?_setIfInBounds_ne e]
  have hdown:Down ops (ls.setIfInBounds i true):=fun j hj hj' q hq=>by
   rw[hset]
   split
   ·rfl
   ·rw[hset]at hj
    split at hj
    ·rename_i e;subst e;exact hi3 q hq
    ·exact hD j hj hj' q hq
  unfold wpOp
  rw[ho]
  simp only[hwant,if_true]
  rcases Nat.lt_or_ge i m with him|him
  ·
   have hfl:fl.getD i false=true:=by
    cases hb:fl.getD i false with
    |true=>rfl
    |false=>rw[hC i him hb]at hi2;cases hi2
   cases hd:(ops[i]).dst with
   |none=>
    obtain⟨d,hd'⟩:=hfd i him
    simp only[bV,ho,Option.bind_some]at hd'
    have:=hd.symm.trans hd'
    cases this
   |some d=>
    have hdo:bV ops i=some d:=by simp only[bV,ho,Option.bind_some];exact hd
    have hrun:=hfx i ops[i] d him hfl ho hd w
    have hex:execOp a.eval ops[i]=execOp a₁.eval ops[i]:=nB ho (hsel i _ ho) fun q hq=>hag.tmp q fun j hj _ hjl hjd=>by
     have:=(hF.rd i him q hq j hj hjd).2
     have:=hi3 j this
     rw[hf false true j (by omega),hjl]at this
     cases this
    left
    unfold Oper.wp
    rw[hex,hrun]
    simp only[Oper.upon]
    rw[hd]
    have hda:=hds i d him hdo
    refine ih k r _ _ a₁ w hk hm (by simpa using hsz) (fun j hj hj'=>by rw[hset,if_neg (by omega)];exact hA j hj hj') (fun j hj hj'=>by rw[hset,if_neg (by omega)];exact hB j hj hj') (fun j hj hj'=>?_) hdown ?_ ⟨by simpa[Act.put]using hag.jL,by simpa[Act.put]using hag.size,fun q hq=>?_⟩ hfx hds h
    ·rw[hset];split
     ·rfl
     ·exact hC j hj hj'
    ·have:=dV hi2 him (by have:=hF.le;omega);omega
    ·rw[iB a (by rw[hag.size];exact hda)]
     split
     ·rename_i e;rw[e]
     ·rename_i e
      refine hag.tmp q fun j hj hjf hjl hjd=>?_
      by_cases e2:j=i
      ·subst e2;rw[hdo]at hjd;cases hjd;exact e rfl
      ·exact hq j hj hjf (by rw[hset,if_neg e2];exact hjl) hjd
  ·
   have hik:i=k:=by
    rcases Nat.lt_or_ge i k with h'|h'
    ·rw[hB i him h']at hi2;cases hi2
    ·rcases Nat.lt_or_ge k i with h''|h''
     ·have hfk:fl.getD k false=false:=by
       have:=hF.Lc
       simp[List.getD_eq_getElem?_getD,List.getElem?_eq_none (show fl.length≤k by omega)]
      have:=dD hsz hD hF.jD f i k hi1 (hF.LA i hi1 him k h'' hfk) hi3
      rw[hf false true k (by omega),hA k (Nat.le_refl _) (by omega)]at this
      cases this
     ·omega
   subst hik
   obtain⟨r',rfl⟩:∃r',r=r'+1:=⟨r - 1,by omega⟩
   rw[List.range'_succ,wpOps_cons]at h
   unfold wpOp at h
   rw[ho]at h
   have hwant':Region.wanted ops[i] (yielded ops a₁.tmps)=true:=by unfold Region.wanted;rw[hF.ng i _ ho]
   simp only[hwant',if_true]at h
   have hh:=h.resolve_right (fun⟨_,_,_,hq⟩=>hq)
   have hex:execOp a.eval ops[i]=execOp a₁.eval ops[i]:=nB ho (hsel i _ ho) fun q hq=>hag.tmp q fun j hj hjf hjl hjd=>by
    have:=dD hsz hD hF.jD f i j hi1 (hF.use i hi1 him j hj hjf q hjd hq) hi3
    rw[hf false true j (by have:=hF.le;omega),hjl]at this
    cases this
   left
   refine E9 hex hag.jL hh fun ds v w' hK=>?_
   have hdd:∀d,(ops[i]).dst=some d→bV ops i=some d:=fun d hd=>by simp only[bV,ho,Option.bind_some];exact hd
   refine ih (i+1) r' _ _ _ w' (by omega) (by omega) (by simpa using hsz) (fun j hj hj'=>by rw[hset,if_neg (by omega)];exact hA j (by omega) hj') (fun j hj hj'=>?_) (fun j hj hj'=>by rw[hset,if_neg (by omega)];exact hC j hj hj') hdown ?_ ⟨?_,?_,fun q hq=>?_⟩ (fun j o d hj hjf hjo hjd w''=>?_) (fun j d hj hjd=>?_) hK
   ·rw[hset];split
    ·rfl
    ·exact hB j hj (by omega)
   ·have:bE (ls.setIfInBounds i true) m=bE ls m:=by
     have:∀q,q≤m→bE (ls.setIfInBounds i true) q=bE ls q:=by
      intro q
      induction q with
      |zero=>intro _;rfl
      |succ q ihq=>
       intro hq
       simp only[bE]
       rw[ihq (by omega),hset q true,if_neg (show ¬q=i by omega)]
     exact this m (Nat.le_refl _)
    omega
   ·cases(ops[i]).dst<;>rfl
   ·cases(ops[i]).dst<;>simpa[Act.put]using hag.size
   ·have hq':∀j,j<m→fl.getD j false=true→ls.getD j true=false→bV ops j≠some q:=fun j hj hjf hjl=>hq j hj hjf (by rw[hset,if_neg (by omega)];exact hjl)
    cases hd:(ops[i]).dst with
    |none=>exact hag.tmp q hq'
    |some d=>
     by_cases hsz2:d<a.tmps.size
     ·rw[iB _ (by simpa using hsz2),iB _ (by rw[←hag.size];exact hsz2)]
      split
      ·rfl
      ·exact hag.tmp q hq'
     ·have e1:({a with defers:=ds}:Act).put (some d) v= {a with defers:=ds}:=by simp[Act.put,Array.setIfInBounds,hsz2]
      have e2:({a₁ with defers:=ds}:Act).put (some d) v= {a₁ with defers:=ds}:=by simp[Act.put,Array.setIfInBounds,←hag.size,hsz2]
      rw[e1,e2]
      exact hag.tmp q hq'
   ·have hj1:=hfx j o d hj hjf hjo hjd w''
    have hjd':bV ops j=some d:=by simp only[bV,hjo,Option.bind_some];exact hjd
    have key:∀q,(q∈cR ops j∨q=d)→(({a₁ with defers:=ds}:Act).put (ops[i]).dst v).eval (.tmp q)=a₁.eval (.tmp q):=fun q hq=>by
     refine Act.eval_put (a:= {a₁ with defers:=ds}) fun e he heq=>?_
     cases heq
     have:=hF.wr i hi1 him j hj hjf q (hdd q he)
     rcases hq with hq|rfl
     ·exact this.2 hq
     ·exact this.1 hjd'
    have he2:execOp (({a₁ with defers:=ds}:Act).put (ops[i]).dst v).eval o=execOp a₁.eval o:=nB hjo (hsel j o hjo) fun q hq=>key q (.inl hq)
    rw[he2,hj1,key d (.inr rfl)]
   ·have:=hds j d hj hjd
    cases(ops[i]).dst<;>simpa[Act.put]using this
theorem i6:∀(l:List Oper) (ps:List PV) (t:b9) (k:Nat) (p:PV),look k (jW l ps t)=some p→(∃(j:Nat) (o:Oper),l[j]? =some o∧o.dst=some k∧ps[j]? =some p)∨look k t=some p
 | [],_,t,k,p,h=>.inr (by simpa[jW]using h)
 |_::_,[],t,k,p,h=>.inr (by simpa[jW]using h)
 |o::l,q::ps,t,k,p,h=>by
  simp only[jW]at h
  rcases i6 l ps _ k p h with⟨j,o',h1,h2,h3⟩|h'
  ·exact .inl ⟨j+1,o',by simpa using h1,h2,by simpa using h3⟩
  ·cases hd:o.dst with
   |none=>rw[hd]at h';exact .inr h'
   |some d=>
    rw[hd]at h'
    simp only[look]at h'
    rw[Bool.cond_eq_ite]at h'
    split at h'
    ·rename_i he
     have:=Nat.eq_of_beq_eq_true he
     subst this
     cases h'
     exact .inl ⟨0,o,rfl,hd,rfl⟩
    ·exact .inr h'
section
variable {F:Nat→Prop} {base:Nat} {E:Env} {σ:bN} {t:b9} {l:List Oper} {ps:List PV} {fl:List Bool} {f m:Nat}
structure ld (N m:Nat) (l:List Oper) (ps:List PV) (E:Env) (t:b9) (w:World) (dn:Nat→Prop) (a:Act) (w':World):Prop where
 ext:Ext w w'
 jL:a.defers=[]
 size:a.tmps.size=N
 t0:cG E w' a.eval t
 kG:∀j,j<m→dn j→∀d p,bV l.toArray j=some d→ps[j]? =some p→cu E w' (a.eval (.tmp d)) p
theorem iZ{i:Nat}{o:Oper}(h:(l.take m)[i]? =some o):i<m∧l.toArray[i]? =some o∧bV l.toArray i=o.dst:=by
 rw[List.getElem?_take]at h
 split at h
 ·rename_i hi
  refine⟨hi,by simpa using h,?_⟩
  simp only[bV]
  have:l.toArray[i]? =some o:=by simpa using h
  rw[this];rfl
 ·cases h
theorem pj{dn:Nat→Prop}{a:Act}{w w':World}(hg:ld N m l ps E t w dn a w'){i:Nat}(hi:i≤m){ks:List Nat}(hdn:∀j k,j<i→k∈ks→bV l.toArray j=some k→dn j):cG E w' a.eval (fx (jW ((l.take m).take i) (ps.take i) t) ks):=fun k p hk=>by
 obtain⟨h1,h2⟩:=fq ks k p hk
 rcases i6 _ _ _ k p h2 with⟨j,o,h3,h4,h5⟩|h'
 ·rw[List.getElem?_take]at h3
  split at h3
  ·rename_i hj
   obtain⟨hjm,h6,h7⟩:=iZ h3
   rw[List.getElem?_take,if_pos hj]at h5
   exact hg.kG j (by omega) (hdn j k hj h1 (by rw[h7];exact h4)) k p (by rw[h7];exact h4) h5
  ·cases h3
 ·exact hg.t0 k p h'
theorem tj{dn:Nat→Prop}{a:Act}{w w' w'':World}(hF:Form l.toArray f m fl)(hfr:∀i d,i<m→bV l.toArray i=some d→look d t=none)(hg:ld N m l ps E t w dn a w')(hE:Ext w' w''){i d:Nat}{p:PV}(hi:i<m)(hd:bV l.toArray i=some d)(hdN:d<N)(hp:ps[i]? =some p){v:Value}(hv:cu E w'' v p):
  ld N m l ps E t w (fun j=>dn j∨j=i) (a.put (some d) v) w'':=by
 refine⟨hg.ext.trans hE,by simpa[Act.put]using hg.jL,by simpa[Act.put]using hg.size,fun k q hk=>?_,fun j hj hdj d' q hd' hq=>?_⟩
 ·have hne:k≠d:=fun e=>by subst e;rw[hfr i k hi hd]at hk;cases hk
  rw[iB a (by rw[hg.size];exact hdN),if_neg hne]
  exact(hg.t0 k q hk).ext hE
 ·rw[iB a (by rw[hg.size];exact hdN)]
  by_cases e:j=i
  ·subst e
   rw[hd]at hd';cases hd'
   rw[hp]at hq;cases hq
   rw[if_pos rfl];exact hv
  ·have hne:d'≠d:=fun e'=>by
    subst e'
    rcases Nat.lt_or_ge i j with h'|h'
    ·exact hF.ss j i hj h' (by rw[hd,hd'])
    ·exact hF.ss i j hi (by omega) (by rw[hd,hd'])
   rw[if_neg hne]
   exact(hg.kG j hj (hdj.resolve_right e) d' q hd' hq).ext hE
theorem ld.mono{dn dn':Nat→Prop}{a:Act}{w w':World}(h:ld N m l ps E t w dn a w')(hd:∀j,j<m→dn' j→dn j):ld N m l ps E t w dn' a w':=⟨h.ext,h.jL,h.size,h.t0,fun j hj hj'=>h.kG j hj (hd j hj hj')⟩
theorem D6(hF:Form l.toArray f m fl)(hml:m≤l.length)(hfr:∀i d,i<m→bV l.toArray i=some d→look d t=none)(hc:jq P N l.toArray σ (l.take m) ps fl t){ls:Array Bool}{a:Act}{w w':World}(hg:ld N m l ps E t w (fun j=>ls.getD j true=true) a w')(hall:∀i,i<m→fl.getD i false=false→ls.getD i true=true):
  ∃a₁,EY l.toArray m fl ls a a₁∧ld N m l ps E t w (fun _=>True) a₁ w':=by
 obtain⟨hl1,hl2,hdat⟩:=hc.data
 have hlen:(l.take m).length=m:=by simp;omega
 have key:∀q,q≤m→∃b,EY l.toArray m fl ls a b∧ld N m l ps E t w (fun j=>ls.getD j true=true∨j<q) b w':=by
  intro q
  induction q with
  |zero=>intro _;exact⟨a,⟨rfl,rfl,fun _ _=>rfl⟩,hg.mono fun j _ h=>h.resolve_right (by omega)⟩
  |succ q ih=>
   intro hq
   obtain⟨b,hag,hgb⟩:=ih (by omega)
   cases hb:ls.getD q true with
   |true=>exact⟨b,hag,hgb.mono fun j _ h=>by
     rcases h with h|h
     ·exact .inl h
     ·by_cases e:j=q
      ·subst e;exact .inl hb
      ·exact .inr (by omega)⟩
   |false=>
    have hfq:fl.getD q false=true:=by
     cases hf:fl.getD q false with
     |true=>rfl
     |false=>rw[hall q (by omega) hf]at hb;cases hb
    have ho:(l.take m)[q]? =some ((l.take m)[q]'(by omega)):=List.getElem?_eq_getElem (by omega)
    obtain⟨_,hoq,hdq⟩:=iZ ho
    have hpq:ps[q]? =some (ps[q]'(by omega)):=by simp
    have hff:fl[q]? =some true:=by
     have:q<fl.length:=by rw[hl2,hlen];omega
     simp[this]at hfq ⊢;exact hfq
    have D:=hdat q _ _ _ ho hpq hff
    obtain⟨d,hd,hdN⟩:=D.dst
    obtain⟨_,ks,hks,hR⟩:=D.r rfl
    have hrep:=pj hgb (i:=q) (by omega) (ks:=ks) (fun j k hj _ _=>.inr hj)
    obtain⟨v,_,hv⟩:=hR E b.eval w' (dx b) hrep
    have hdd:bV l.toArray q=some d:=by rw[hdq];exact hd
    refine⟨b.put (some d) v,⟨by simpa[Act.put]using hag.jL,by simpa[Act.put]using hag.size,fun k hk=>?_⟩,(tj hF hfr hgb (Ext.refl _) (by omega) hdd hdN hpq hv).mono fun j _ h=>?_⟩
    ·have hne:k≠d:=fun e=>hk q (by omega) hfq hb (by rw[hdd,e])
     rw[iB b (by rw[hgb.size];exact hdN),if_neg hne]
     exact hag.tmp k hk
    ·rcases h with h|h
     ·exact .inl (.inl h)
     ·by_cases e:j=q
      ·exact .inr e
      ·exact .inl (.inr (by omega))
 obtain⟨b,h1,h2⟩:=key m (Nat.le_refl _)
 exact⟨b,h1,h2.mono fun j hj _=>.inr hj⟩
theorem Fa(hml:m≤l.length)(hc:jq P N l.toArray σ (l.take m) ps fl t){a:Act}{w w':World}(hg:ld N m l ps E t w (fun _=>True) a w'):Ie P l.toArray m fl a:=fun j o d hj hf ho hd w''=>by
 obtain⟨hl1,hl2,hdat⟩:=hc.data
 have hlen:(l.take m).length=m:=by simp;omega
 have hoj:(l.take m)[j]? =some o:=by rw[List.getElem?_take,if_pos hj];simpa using ho
 have hpj:ps[j]? =some (ps[j]'(by omega)):=by simp
 have hff:fl[j]? =some true:=by
  have:j<fl.length:=by rw[hl2,hlen];omega
  simp[this]at hf ⊢;exact hf
 have D:=hdat j _ _ _ hoj hpj hff
 obtain⟨hfix,ks,hks,hR⟩:=D.r rfl
 have hrep:=pj hg (i:=j) (by omega) (ks:=ks) (fun _ _ _ _ _=>trivial)
 obtain⟨v,hrun,hv⟩:=hR E a.eval w' (dx a) hrep
 have hdd:bV l.toArray j=some d:=by rw[(iZ hoj).2.2];exact hd
 have:=hfix.Ly E w' _ _ (hg.kG j hj trivial d _ hdd hpj) hv
 rw[this];exact hrun w''
end
theorem dR{id:Nat}{l:List Oper}{t t':b9}{σ:bN}{Q:Exit→St→Prop}(m f:Nat){fl:List Bool}{ps:List PV}(hm:P.follows .mixedOrders=true)(hc:jq P N l.toArray σ (l.take m) ps fl t)(hB:(HS l.toArray f m fl&&Region.noSelect l.toArray)=true)(hml:Nat.ble m l.length=true)
  (hfr:((l.take m).all fun o=>o.dst.all fun d=>(look d t).isNone)=true) (hsub:Sub (jW (l.take m) ps t) t') (hw:WR P N L l.toArray (l.drop m) ⟨t',σ⟩ (fun s=>Q .normal s)):W P N L (.region id l.toArray true) ⟨t,σ⟩ Q:=fun F base E₀ w₀ E a w hcm hs=>by
 simp only[Bool.and_eq_true]at hB
 have hF:=Cq hB.1
 have hmle:m≤l.length:=Nat.ble_eq.mp hml
 obtain⟨hl1,hl2,hdat⟩:=hc.data
 have hlen:(l.take m).length=m:=by simp;omega
 have hfr':∀i d,i<m→bV l.toArray i=some d→look d t=none:=fun i d hi hd=>by
  have ho:(l.take m)[i]? =some ((l.take m)[i]'(by omega)):=List.getElem?_eq_getElem (by omega)
  have:=List.all_eq_true.1 hfr _ (List.mem_of_getElem? ho)
  rw[(iZ ho).2.2]at hd
  rw[hd]at this
  simpa using this
 have hdst:∀i,i<m→∃d,bV l.toArray i=some d∧d<N:=fun i hi=>by
  have ho:(l.take m)[i]? =some ((l.take m)[i]'(by omega)):=List.getElem?_eq_getElem (by omega)
  have hp:ps[i]? =some (ps[i]'(by omega)):=by simp
  have hf:fl[i]? =some (fl[i]'(by omega)):=by simp
  obtain⟨d,h1,h2⟩:=(hdat i _ _ _ ho hp hf).dst
  exact⟨d,by rw[(iZ ho).2.2];exact h1,h2⟩
 have hsel:∀(i:Nat) (o:Oper),l.toArray[i]? =some o→∀cs b,o.op≠ .select cs b:=fun i o ho cs b=>Region.noSelect_spec hB.2 i o cs b ho
 have main:∀(fuel:Nat) (ls:Array Bool) (a:Act) (w':World),ls.size=l.toArray.size→(∀i,m≤i→i<l.toArray.size→ls.getD i true=false)→Down l.toArray ls→fuel=bE ls m+(l.toArray.size - m)→ld N m l ps E t w (fun j=>ls.getD j true=true) a w'→
   wpAny P .any l.toArray (fun e a' w'=>mQ F base N E₀ w₀ (Q e) a' w') fuel ls a w':=by
  have ts:∀(fuel:Nat) (ls:Array Bool) (a:Act) (w':World),ls.size=l.toArray.size→(∀i,m≤i→i<l.toArray.size→ls.getD i true=false)→Down l.toArray ls→fuel=bE ls m+(l.toArray.size - m)→ld N m l ps E t w (fun j=>ls.getD j true=true) a w'→
    (∀i,i<m→fl.getD i false=false→ls.getD i true=true)→wpAny P .any l.toArray (fun e a' w'=>mQ F base N E₀ w₀ (Q e) a' w') fuel ls a w':=by
   intro fuel ls a w' hsz hrest hdn hfu hg hall
   obtain⟨a₁,hag,hg1⟩:=D6 hF hmle hfr' hc hg hall
   have hsat:cY F base N ⟨t',σ⟩ E a₁ w':=by
    refine⟨hs.sat.ext hg1.ext,cG.sub (fun k p hk=>?_) hsub,hg1.jL,hg1.size⟩
    rcases i6 _ _ _ k p hk with⟨j,o,h1,h2,h3⟩|h'
    ·obtain⟨hj,_,h4⟩:=iZ h1
     exact hg1.kG j hj trivial k p (by rw[h4];exact h2) h3
    ·exact hg1.t0 k p h'
   have gS:=hw F base E₀ w₀ E a₁ w' (hcm.on (.ext hg1.ext) (Below.fB hg1.ext hs.sat.bl)) hsat (Dd fun a' w'=>mQ F base N E₀ w₀ (Q .normal) a' w') m (fun a' w' hp=>hp) (fun j=>by simp)
   refine D2 hF hsel (fun j hj=>(hdst j hj).imp fun _ h=>h.1) (fun a w h=>h) fuel m (l.toArray.size - m) ls a a₁ w' (by have:=hF.le;omega) (Nat.le_refl _) hsz hrest (fun i h1 h2=>by omega) hall hdn hfu hag (Fa hmle hc hg1) (fun j d hj hd=>?_) (by simpa using gS)
   obtain⟨d',h1,h2⟩:=hdst j hj
   rw[hd]at h1;cases h1
   rw[hg1.size];exact h2
  intro fuel
  induction fuel with
  |zero=>
   intro ls a w' hsz hrest hdn hfu hg
   exact ts 0 ls a w' hsz hrest hdn hfu hg (fun i hi _=>cI (m:=m) (by omega) i hi)
  |succ fuel ih=>
   intro ls a w' hsz hrest hdn hfu hg
   by_cases hall:∀i,i<m→fl.getD i false=false→ls.getD i true=true
   ·exact ts (fuel+1) ls a w' hsz hrest hdn hfu hg hall
   ·have hle:=hF.le
    obtain⟨j0,hj0,hj1,hj2⟩:∃j0,j0<m∧fl.getD j0 false=false∧ls.getD j0 true=false:=by
     apply Classical.byContradiction
     intro hno
     refine hall fun i hi hf=>?_
     cases hb:ls.getD i true with
     |true=>rfl
     |false=>exact absurd ⟨i,hi,hf,hb⟩ hno
    have hf:∀b c (i:Nat),i<l.toArray.size→ls.getD i b=ls.getD i c:=fun b c i hi=>by simp only[Array.getD_eq_getD_getElem?];simp[show i<ls.size by omega]
    have hpos:0<bE ls m:=by
     rcases Nat.eq_zero_or_pos (bE ls m)with h|h
     ·rw[cI h j0 hj0]at hj2;cases hj2
     ·exact h
    obtain⟨i0,hi0,hi1,hi2⟩:=ec hpos
    have hne:i0∈Region.ready .any l.toArray ls:=cb.2 ⟨by omega,hi1,fun k hk=>by
     have:=hF.jD i0 (by omega) k hk
     rw[hf false true k (by omega)];exact hi2 k this⟩
    refine⟨fun h0=>absurd hne (by rw[h0];simp),fun i hi=>?_⟩
    obtain⟨h1,h2,h3⟩:=cb.1 hi
    have him:i<m:=by
     rcases Nat.lt_or_ge i m with h'|h'
     ·exact h'
     ·have:=dD hsz hdn hF.jD f i j0 h1 (hF.LA i h1 h' j0 (by omega) hj1) h3
      rw[hf false true j0 (by omega),hj2]at this
      cases this
    have ho:(l.take m)[i]? =some ((l.take m)[i]'(by omega)):=List.getElem?_eq_getElem (by omega)
    obtain⟨_,hoi,hdi⟩:=iZ ho
    have hp:ps[i]? =some (ps[i]'(by omega)):=by simp
    have hfi:fl[i]? =some (fl[i]'(by omega)):=by simp
    have D:=hdat i _ _ _ ho hp hfi
    obtain⟨d,hd,hdN⟩:=D.dst
    obtain⟨ks,hks,hY⟩:=D.y
    have hdd:bV l.toArray i=some d:=by rw[hdi];exact hd
    have hrep:=pj hg (i:=i) (by omega) (ks:=ks) (fun j k hj hk hjd=>by
     have hlk:k∈cR l.toArray i:=by
      unfold cR;rw[hoi];exact hks k hk
     have:=h3 j (hF.rd i him k hlk j (by omega) hjd).2
     rw[hf false true j (by omega)]at this
     exact this)
    unfold wpOp
    rw[hoi]
    have hwant:Region.wanted ((l.take m)[i]'(by omega)) (yielded l.toArray a.tmps)=true:=by unfold Region.wanted;rw[hF.ng i _ hoi]
    simp only[hwant,if_true]
    left
    refine kY (hY F base E a.eval w' (dx a) (hs.sat.ext hg.ext) hrep) fun v w'' hE hv=>?_
    rw[hd]
    have hset:∀(j:Nat) b,(ls.setIfInBounds i true).getD j b=if j=i then true else ls.getD j b:=fun j b=>by
     by_cases e:i=j
     ·subst e;simp[show i<ls.size by omega]
     ·rw[if_neg (fun h=>e h.symm),Array.getD_eq_getD_getElem?,Array.getD_eq_getD_getElem?,Array.getElem?_setIfInBounds_ne e]
    refine ih _ _ w'' (by simpa using hsz) (fun j hj hj'=>by rw[hset j true,if_neg (show ¬j=i by omega)];exact hrest j hj hj') (fun j hj hj' q hq=>?_) (by have:=dV h2 him (by omega);omega) ((tj hF hfr' hg hE him hdd hdN hp hv).mono fun j hj hjj=>?_)
    ·rw[hset]
     split
     ·rfl
     ·rw[hset]at hj
      split at hj
      ·rename_i e;subst e;exact h3 q hq
      ·exact hdn j hj hj' q hq
    ·rw[hset]at hjj
     split at hjj
     ·rename_i e;exact .inr e
     ·exact .inl hjj
 obtain⟨arr,ds⟩:=a
 refine wp_region_any hm ?_
 have hE:Ext w {w with drawn:=w.drawn+1}:=⟨rfl,rfl,rfl,Nat.le_refl _,fun _ _=>rfl⟩
 have hul:∀k,k≤l.length→bE (Array.replicate l.toArray.size false) k=k:=by
  intro k
  induction k with
  |zero=>intro _;rfl
  |succ k ih=>
   intro hk
   simp only[bE]
   rw[ih (by omega),eT _ _ (by simp;omega)]
   simp
 refine main l.toArray.size (Array.replicate l.toArray.size false) ⟨arr,ds⟩ _ (by simp) (fun i _ hi=>eT _ _ hi _) (fun i hi hi'=>?_) (by rw[hul m hmle];simp;omega) ⟨hE,hs.jL,hs.size,hs.tmp.goes (.ext hE),fun j hj hjl=>?_⟩
 ·rw[eT _ _ hi']at hi;cases hi
 ·rw[eT _ _ (by simp;omega)]at hjl;cases hjl
theorem lT{id:Nat}{l:List Oper}{y:Code}{t t':b9}{σ:bN}{Q:Exit→St→Prop}(m f:Nat){fl:List Bool}{ps:List PV}(hm:P.follows .mixedOrders=true)(hc:jq P N l.toArray σ (l.take m) ps fl t)(hB:(HS l.toArray f m fl&&Region.noSelect l.toArray)=true)(hml:Nat.ble m l.length=true)
  (hfr:((l.take m).all fun o=>o.dst.all fun d=>(look d t).isNone)=true) (hsub:Sub (jW (l.take m) ps t) t') (hw:WR P N L l.toArray (l.drop m) ⟨t',σ⟩ (fun s=>W P N L y s Q)):W P N L (.seq (.region id l.toArray true) y) ⟨t,σ⟩ Q:=an (dR m f hm hc hB hml hfr hsub hw)
end
inductive Tr (α:Type) where
 |l
 |n (a:Tr α) (k:Nat) (v:α) (b:Tr α)
def Tr.get{α:Type}:Tr α→Nat→Option α
 | .l,_=>none
 | .n a k v b,j=>bif Nat.beq j k then some v else bif Nat.blt j k then a.get j else b.get j
inductive Tr.u5 {α:Type} (R:Nat→α→Prop):Tr α→Prop
 |l:Tr.u5 R .l
 |n {a b:Tr α} {k:Nat} {v:α}:Tr.u5 R a→R k v→Tr.u5 R b→Tr.u5 R (.n a k v b)
theorem Tr.u5.get{α:Type}{R:Nat→α→Prop}{t:Tr α}(h:Tr.u5 R t){j:Nat}{v:α}:t.get j=some v→R j v:=by
 induction h with
 |l=>intro h;cases h
 | @n a b k u _ hr _ iha ihb=>
  intro h
  simp only[Tr.get,Bool.cond_eq_ite]at h
  split at h
  ·rename_i he
   cases Nat.eq_of_beq_eq_true he
   cases h
   exact hr
  ·split at h
   ·exact iha h
   ·exact ihb h
structure si where
 tk:Tr (Option Nat)
 fo:Tr Nat
 el:Tr (Nat×Nat)
 st:Tr (List (Nat×Nat)×List Value)
 sl:Tr (Nat×Nat×List Value)
 rk:Tr (Nat×Nat×Nat×List Value)
 zk:Tr (List Value)
 bk:Tr Unit
 pk:Tr Unit
 ar:Tr (Nat×Nat)
 en:Tr Unit
structure si.Ok (P:Program) (Φ:si):Prop where
 tk:Φ.tk.u5 fun k v=>sa P k=some v
 fo:Φ.fo.u5 fun k v=>kj P (k / 100) (k % 100)=some v
 el:Φ.el.u5 fun k v=>yq P k=some v
 st:Φ.st.u5 fun k v=>KL P k=some v
 sl:Φ.sl.u5 fun k v=>H6 P k=some v
 rk:Φ.rk.u5 fun k v=>vY P k=some v
 zk:Φ.zk.u5 fun k v=>xo P k=some v
 bk:Φ.bk.u5 fun k _=>ug P k=true
 pk:Φ.pk.u5 fun k _=>ph P k=true
 ar:Φ.ar.u5 fun k v=>JG P k=some v
 en:Φ.en.u5 fun k _=>enters P k=true
class Has (P:Program) (Φ:outParam si):Prop where
 ok:si.Ok P Φ
def force{α:Type}:List α→Option (List α)
 | []=>some []
 |x::l=>match force l with
  |some r=>some (x::r)
  |none=>none
theorem force_eq{α:Type}:∀ {l r:List α},force l=some r→l=r
 | [],r,h=>by cases h;rfl
 |x::l,r,h=>by
  simp only[force]at h
  split at h
  ·rename_i r' hr
   cases h
   rw[force_eq hr]
  ·cases h
def Gs(xs:List PV)(k:Nat):Nat→Option (List PV)
 |0=>some []
 |n+1=>match xs[k]? with
  |some p=>match Gs xs (k+1) n with
   |some r=>some (p::r)
   |none=>none
  |none=>none
theorem AE{xs:List PV}:∀ {n k:Nat} {ys:List PV},Gs xs k n=some ys→(xs.drop k).take n=ys∧ys.length=n
 |0,k,ys,h=>by cases h;simp
 |n+1,k,ys,h=>by
  simp only[Gs]at h
  split at h
  ·rename_i p hp
   split at h
   ·rename_i r hr
    cases h
    obtain⟨h1,h2⟩:=AE hr
    have hlt:=(List.getElem?_eq_some_iff.1 hp).1
    have hx:xs[k]=p:=by rw[List.getElem?_eq_getElem hlt]at hp;exact Option.some.inj hp
    refine⟨?_,by simp[h2]⟩
    rw[List.drop_eq_getElem_cons hlt,List.take_succ_cons,h1,hx]
   ·cases h
  ·cases h
def part(xs:List PV)(k n:Nat):Option PV:=bif Nat.beq k 0&&Nat.beq xs.length n then some (.agg xs) else match Gs xs k n with
 |some ys=>some (.agg ys)
 |none=>none
def Ko(op:BinOp)(a b:Int):Option PV:=
 match op with
 | .lss=>some (.raw (.bool (decide (a<b))))
 | .leq=>some (.raw (.bool (decide (a≤b))))
 | .gtr=>some (.raw (.bool (decide (b<a))))
 | .geq=>some (.raw (.bool (decide (b≤a))))
 | .eql=>some (.raw (.bool (decide (a=b))))
 | .neq=>some (.raw (.bool (decide (a≠b))))
 |_=>none
def IZ(Φ:si)(op:BinOp)(ty:TypeId):PV→PV→Option PV
 | .raw (.int .i64 a),.raw (.int .i64 b)=>Ko op a b
 | .raw (.bool a),.raw (.bool b)=>match Φ.bk.get ty with
  |some _=>match op with
   | .eql=>some (.raw (.bool (a==b)))
   | .neq=>some (.raw (.bool (!(a==b))))
   |_=>none
  |none=>none
 | .ptr _ _,.raw (.pointer none)=>match Φ.pk.get ty with
  |some _=>match op with
   | .eql=>some (.raw (.bool false))
   | .neq=>some (.raw (.bool true))
   |_=>none
  |none=>none
 | .bg _ _,.raw (.pointer none)=>match Φ.pk.get ty with
  |some _=>match op with
   | .eql=>some (.raw (.bool false))
   |_=>none
  |none=>none
 |_,_=>none
def fK(Φ:si)(σ:bN)(t:b9):Op→Option PV
  | .move x=>aA t x
  | .assign x=>aA t x
  | .pick c a b=>match aA t c with
    |some (.raw (.bool true))=>aA t a
    |some (.raw (.bool false))=>aA t b
    |_=>none
  | .unOp .not _ x=>match aA t x with
    |some (.raw (.bool q))=>some (.raw (.bool (!q)))
    |_=>none
  | .binOp op ty x y _=>match aA t x with
    |some p=>match aA t y with
      |some q=>IZ Φ op ty p q
      |none=>none
    |none=>none
  | .nilCheck x=>match aA t x with
    |some (.bg xs k)=>some (.bg xs k)
    |some (.ptr i k)=>some (.ptr i k)
    |some (.func f c)=>some (.func f c)
    |_=>none
  | .fieldAddr s x f=>bif Nat.blt f 100 then match Φ.fo.get (s*100+f)with
      |some off=>match aA t x with
        |some (.bg xs k)=>some (.bg xs (k+off))
        |some (.ptr i k)=>some (.ptr i (k+off))
        |_=>none
      |none=>none
    else none
  | .load ty x=>match Φ.tk.get ty with
    |some none=>match aA t x with
      |some (.bg xs k)=>xs[k]?
      |some (.ptr i k)=>match σ[i]? with
        |some (some blk)=>blk.xs[k]?
        |_=>none
      |_=>none
    |some (some n)=>match aA t x with
      |some (.bg xs k)=>part xs k n
      |some (.ptr i k)=>match σ[i]? with
        |some (some blk)=>part blk.xs k n
        |_=>none
      |_=>none
    |none=>none
  | .extract x k=>match aA t x with
    |some (.tuple xs)=>xs[k]?
    |_=>none
  | .makeFunc fn fs cs=>match fn with
    | .func f=>match fs.toList with
      | []=>match gO t cs.toList with
        |some xs=>some (.func f xs)
        |none=>none
      |_=>none
    |_=>none
  | .box _ x=>match aA t x with
    |some p=>match lz p with
      |some xs=>some (.bg xs 0)
      |none=>none
    |none=>none
  | .build ty parts=>match Φ.st.get ty with
    |some (pl,z)=>match iM t parts.toList with
      |some ps=>match lj (pl[·]?) (z.map .raw) ps with
        |some xs=>match force xs with
          |some ys=>some (.agg ys)
          |none=>none
        |none=>none
      |none=>none
    |none=>none
  | .buildSlice ty n parts=>match Φ.sl.get ty with
    | some (_, s, z) => bif Nat.blt 0 n && Nat.ble (n * s) 16777216 then match iM t parts.toList with
        |some ps=>match lj (fun i=>some (i*s,s)) (dB (z.map .raw) n) ps with
          |some xs=>match force xs with
            |some ys=>some (.slice n ys)
            |none=>none
          |none=>none
        |none=>none
      else bif Nat.beq n 0&&Nat.beq parts.size 0 then some (.slice 0 []) else none
    |none=>none
  | .call c=>match c.callee with
    | .builtin .len=>match c.args.toList,c.argTypes.toList with
      | [x],[ty]=>match Φ.el.get ty with
        |some _=>match aA t x with
          |some (.slice n _)=>some (.raw (.int .i64 n))
          |some (.raw (.slice none 0 0))=>some (.raw (.int .i64 0))
          |some (.own m)=>match σ[m]? with
            |some (some (.row _ _ n _))=>some (.raw (.int .i64 n))
            |_=>none
          |_=>none
        |none=>none
      |_,_=>none
    |_=>none
  |_=>none
section
variable {P:Program} {σ:bN} {t:b9} {o:Oper} {Φ:si}
theorem ux{xs:List PV}{k n:Nat}{p:PV}(h:part xs k n=some p):∃ys,p= .agg ys∧(xs.drop k).take n=ys∧ys.length=n:=by
 unfold part at h
 rw[Bool.cond_eq_ite]at h
 split at h
 ·rename_i hc
  simp only[Bool.and_eq_true]at hc
  have h1:=Nat.eq_of_beq_eq_true hc.1
  have h2:=Nat.eq_of_beq_eq_true hc.2
  subst h1
  cases h
  exact⟨xs,rfl,by rw[List.drop_zero,←h2,List.take_length],h2⟩
 ·split at h
  ·rename_i ys hy
   cases h
   exact⟨ys,rfl,AE hy⟩
  ·cases h
theorem IK(hΦ:Φ.Ok P){op:BinOp}{x y:Operand}{ty tz:TypeId}{p q r:PV}(ho:o.op= .binOp op ty x y tz)(hx:aA t x=some p)(hy:aA t y=some q)(h:IZ Φ op ty p q=some r):bh P σ t o r:=by
 unfold IZ at h
 split at h
 ·unfold Ko at h
  split at h<;>first|(cases h;done)|skip
  ·cases h;exact Km ho hx hy rfl
  ·cases h;exact JT ho hx hy rfl
  ·cases h;exact Kj ho hx hy rfl
  ·cases h;exact A2 ho hx hy rfl
  ·cases h;exact pX ho hx hy rfl
  ·cases h;exact JN ho hx hy rfl
 ·split at h
  ·rename_i u hu
   have hb:=hΦ.bk.get hu
   split at h
   ·cases h;exact CQ ho hb hx hy rfl
   ·cases h;exact CH ho hb hx hy rfl
   ·cases h
  ·cases h
 ·split at h
  ·rename_i u hu
   have hb:=hΦ.pk.get hu
   split at h
   ·cases h;exact qV ho hb hx hy
   ·cases h;exact FT ho hb hx hy
   ·cases h
  ·cases h
 ·split at h
  ·rename_i u hu
   have hb:=hΦ.pk.get hu
   split at h
   ·cases h;exact EX ho hb hx hy
   ·cases h
  ·cases h
 ·cases h
theorem u4{α:Type}{a:Array α}{l:List α}(h:a.toList=l):a=l.toArray:=by rw[←h]
theorem FQ(s f:Nat):(s*100+f) / 100=s+f / 100∧(s*100+f) % 100=f % 100:=by omega
theorem lA(hΦ:Φ.Ok P){op:Op}{p:PV}(ho:o.op=op)(h:fK Φ σ t op=some p):bh P σ t o p:=by
 unfold fK at h
 split at h
 ·exact fE ho h
 ·exact eu ho h
 ·split at h
  ·rename_i hc;exact Gr ho hc h
  ·rename_i hc;exact GJ ho hc h
  ·cases h
 ·split at h
  ·rename_i hc;cases h;exact JW ho hc
  ·cases h
 ·split at h
  ·rename_i p' hp
   split at h
   ·rename_i q' hq;exact IK hΦ ho hp hq h
   ·cases h
  ·cases h
 ·split at h
  ·rename_i hc;cases h;exact Ev ho hc
  ·rename_i hc;cases h;exact jb ho hc
  ·rename_i hc;cases h;exact BJ ho hc
  ·cases h
 ·rename_i s x f
  rw[Bool.cond_eq_ite]at h
  split at h
  ·rename_i hf100
   have hf100:=Nat.blt_eq.mp hf100
   split at h
   ·rename_i off hof
    have hf:=hΦ.fo.get hof
    obtain⟨e1,e2⟩:=FQ s f
    rw[e1,e2,Nat.div_eq_of_lt hf100,Nat.mod_eq_of_lt hf100,Nat.add_zero]at hf
    split at h
    ·rename_i hc;cases h;exact yT ho hf hc
    ·rename_i hc;cases h;exact zp ho hf hc
    ·cases h
   ·cases h
  ·cases h
 ·split at h
  ·rename_i htk
   have hk:=hΦ.tk.get htk
   split at h
   ·rename_i hc;exact sT ho hk hc h
   ·rename_i hc
    split at h
    ·rename_i hi;exact dc ho hk hc hi h
    ·cases h
   ·cases h
  ·rename_i n htk
   have hk:=hΦ.tk.get htk
   split at h
   ·rename_i hc
    obtain⟨ys,rfl,h1,h2⟩:=ux h
    exact nZ ho hk hc h1 h2
   ·rename_i hc
    split at h
    ·rename_i hi
     obtain⟨ys,rfl,h1,h2⟩:=ux h
     exact gw ho hk hc hi h1 h2
    ·cases h
   ·cases h
  ·cases h
 ·split at h
  ·rename_i hc;exact Ci ho hc h
  ·cases h
 ·split at h
  ·split at h
   ·rename_i nd
    split at h
    ·rename_i hc
     cases h
     rw[u4 nd]at ho
     exact dw ho hc
    ·cases h
   ·cases h
  ·cases h
 ·split at h
  ·rename_i hc
   split at h
   ·rename_i hx;cases h;exact Dy ho hc hx
   ·cases h
  ·cases h
 ·split at h
  ·rename_i hst
   have hk:=hΦ.st.get hst
   split at h
   ·rename_i hps
    split at h
    ·rename_i hf
     split at h
     ·rename_i hfo
      cases h
      cases force_eq hfo
      exact iR ho hk hps hf
     ·cases h
    ·cases h
   ·cases h
  ·cases h
 ·split at h
  ·rename_i hsl
   have hk:=hΦ.sl.get hsl
   rw[Bool.cond_eq_ite]at h
   split at h
   ·rename_i hn
    simp only[Bool.and_eq_true,Nat.blt_eq,Nat.ble_eq]at hn
    split at h
    ·rename_i hps
     split at h
     ·rename_i hf
      split at h
      ·rename_i hfo
       cases h
       cases force_eq hfo
       exact aS ho hk hn hps hf
      ·cases h
     ·cases h
    ·cases h
   ·rw[Bool.cond_eq_ite]at h
    split at h
    ·rename_i hn
     simp only[Bool.and_eq_true]at hn
     have h1:=Nat.eq_of_beq_eq_true hn.1
     have h2:=Nat.eq_of_beq_eq_true hn.2
     subst h1
     have h3:=Array.eq_empty_of_size_eq_zero h2
     rw[h3]at ho
     cases h
     exact vk ho hk
    ·cases h
  ·cases h
 ·rename_i c
  split at h
  ·rename_i hcal
   split at h
   ·rename_i x ty hax hat
    split at h
    ·rename_i hel
     have hk:=hΦ.el.get hel
     have ho':o.op= .call {callee:=.builtin .len,args:= #[x],argTypes:= #[ty]}:=by
      rw[ho]
      obtain⟨c1,c2,c3⟩:=c
      simp only at hcal hax hat
      rw[hcal,u4 hax,u4 hat]
     split at h
     ·rename_i hc;cases h;exact yH ho' hk hc
     ·rename_i hc;cases h;exact rb ho' hk hc
     ·rename_i hc
      split at h
      ·rename_i hi;cases h;exact Fl ho' hk hc hi
      ·cases h
     ·cases h
    ·cases h
   ·cases h
  ·cases h
 ·cases h
theorem pM{t':b9}:∀ {l:List Operand},(∀x∈l,aA t' x=aA t x)→gO t' l=gO t l
 | [],_=>rfl
 |x::l,h=>by simp only[gO,h x (List.mem_cons_self ..),pM (fun y hy=>h y (List.mem_cons_of_mem _ hy))]
theorem lS{t':b9}:∀ {l:List (Nat×Operand)},(∀x∈l,aA t' x.2=aA t x.2)→iM t' l=iM t l
 | [],_=>rfl
 |(i,x)::l,h=>by simp only[iM,h (i,x) (List.mem_cons_self ..),lS (fun y hy=>h y (List.mem_cons_of_mem _ hy))]
theorem ye{t':b9}(op:Op)(h:∀x∈op.operands,aA t' x=aA t x):fK Φ σ t' op=fK Φ σ t op:=by
 cases op with
 |move x=>exact h x (by simp[Op.operands])
 |assign x=>exact h x (by simp[Op.operands])
 |pick c a b=>simp only[fK,h c (by simp[Op.operands]),h a (by simp[Op.operands]),h b (by simp[Op.operands])]
 |unOp u ty x=>cases u<;>simp only[fK,h x (by simp[Op.operands])]
 |binOp b ty x y tz=>simp only[fK,h x (by simp[Op.operands]),h y (by simp[Op.operands])]
 |nilCheck x=>simp only[fK,h x (by simp[Op.operands])]
 |fieldAddr s x f=>simp only[fK,h x (by simp[Op.operands])]
 |load ty x=>simp only[fK,h x (by simp[Op.operands])]
 |extract x k=>simp only[fK,h x (by simp[Op.operands])]
 |box ty x=>simp only[fK,h x (by simp[Op.operands])]
 |makeFunc fn fs cs=>
  have:gO t' cs.toList=gO t cs.toList:=pM fun x hx=>h x (by simp only[Op.operands];exact Array.mem_append_right _ (by simpa using hx))
  simp only[fK,this]
 |build ty ps=>
  have:iM t' ps.toList=iM t ps.toList:=lS fun x hx=>h x.2 (by simp only[Op.operands,List.mem_toArray,List.mem_map];exact⟨x,hx,rfl⟩)
  simp only[fK,this]
 |buildSlice ty n ps=>
  have:iM t' ps.toList=iM t ps.toList:=lS fun x hx=>h x.2 (by simp only[Op.operands,List.mem_toArray,List.mem_map];exact⟨x,hx,rfl⟩)
  simp only[fK,this]
 |call c=>
  simp only[fK]
  split
  ·split
   ·rename_i x ty hax _
    rw[h x (by simp only[Op.operands,Call.operands];exact Array.mem_append_right _ (by rw[u4 hax];simp))]
   ·rfl
  ·rfl
 |_=>rfl
theorem xm{ks:List Nat}{k:Nat}(h:k∈ks):look k (fx t ks)=look k t:=by
 cases e:look k (fx t ks)with
 |some p=>exact((fq ks k p e).2).symm
 |none=>
  induction ks with
  |nil=>cases h
  |cons j ks ih=>
   simp only[fx]at e
   by_cases hjk:k=j
   ·subst hjk
    cases hl:look k t with
    |none=>rfl
    |some p=>rw[hl]at e;simp[look,Nat.beq_refl]at e
   ·have hm:k∈ks:=by cases h with|head=>exact absurd rfl hjk|tail _ hh=>exact hh
    split at e
    ·have hb:Nat.beq k j=false:=by rw[Bool.eq_false_iff];exact fun hh=>hjk (Nat.eq_of_beq_eq_true hh)
     simp only[look,hb,cond_false]at e
     exact ih hm e
    ·exact ih hm e
theorem uE{ks:List Nat}{x:Operand}(h:∀k,x= .tmp k→k∈ks):aA (fx t ks) x=aA t x:=by
 cases x with
 |tmp k=>exact xm (h k rfl)
 |_=>rfl
def F8(Φ:si)(N:Nat)(ops:Array Oper)(σ:bN)(t:b9)(o:Oper):Option (Nat×PV):=
 match o.dst with
 |some d=>bif Nat.blt d N then match dP ops t o with
   |some true=>match fK Φ σ t o.op with
    |some p=>some (d,p)
    |none=>none
   |some false=>some (d,.raw undef)
   |none=>none
  else none
 |none=>none
def Ei(Φ:si)(N:Nat)(ops:Array Oper)(σ:bN):Nat→List Oper→b9→Option (List Oper×b9)
 |0,l,t=>some (l,t)
 |_+1,[],_=>none
 |n+1,o::l,t=>match F8 Φ N ops σ t o with
  |some x=>Ei Φ N ops σ n l (x::t)
  |none=>none
variable {N L:Nat} {ops:Array Oper}
theorem eU.a[hP:Has P Φ](n:Nat){l l':List Oper}{u t':b9}(h:Ei Φ N ops σ n l t=some (l',u))(k:eU P N ops σ l' u t'):eU P N ops σ l t t':=by
 induction n generalizing l t with
 |zero=>cases h;exact k
 |succ n ih=>
  cases l with
  |nil=>cases h
  |cons o l=>
   simp only[Ei]at h
   split at h
   ·rename_i x hx
    have kk:=ih h
    unfold F8 at hx
    split at hx
    ·rename_i d hd
     rw[Bool.cond_eq_ite]at hx
     split at hx
     ·rename_i hN
      split at hx
      ·rename_i hw
       split at hx
       ·rename_i p hp
        cases hx
        exact .val (lA hP.ok rfl hp) hd hw hN kk
       ·cases hx
      ·rename_i hw
       cases hx
       exact .skip hd hw hN kk
      ·cases hx
     ·cases hx
    ·cases hx
   ·cases h
theorem dM.a[hP:Has P Φ](n:Nat){l l':List Oper}{u t':b9}(h:Ei Φ N ops σ n l t=some (l',u))(k:dM P N ops σ l' u t'):dM P N ops σ l t t':=by
 induction n generalizing l t with
 |zero=>cases h;exact k
 |succ n ih=>
  cases l with
  |nil=>cases h
  |cons o l=>
   simp only[Ei]at h
   split at h
   ·rename_i x hx
    have kk:=ih h
    unfold F8 at hx
    split at hx
    ·rename_i d hd
     rw[Bool.cond_eq_ite]at hx
     split at hx
     ·rename_i hN
      split at hx
      ·rename_i hw
       split at hx
       ·rename_i p hp
        cases hx
        refine .val (o.looksAt ops) (by simp) (lA hP.ok rfl (op:=o.op) ?_) hd hw hN kk
        rw[ye,hp]
        intro x hx
        refine uE fun k hk=>?_
        subst hk
        exact List.mem_append_left _ (List.mem_filterMap.2 ⟨.tmp k,by simpa using hx,rfl⟩)
       ·cases hx
      ·rename_i hw
       cases hx
       exact .skip hd hw hN kk
      ·cases hx
     ·cases hx
    ·cases hx
   ·cases h
def dk(N:Nat)(ops:Array Oper)(t:b9)(o:Oper):Option Nat:=
 match o.dst with
 |some d=>bif Nat.blt d N then match dP ops t o with
   |some true=>some d
   |_=>none
  else none
 |none=>none
theorem eG{d:Nat}(h:dk N ops t o=some d):o.dst=some d∧dP ops t o=some true∧Nat.blt d N=true:=by
 unfold dk at h
 split at h
 ·rename_i d' hd
  rw[Bool.cond_eq_ite]at h
  split at h
  ·rename_i hN
   split at h
   ·rename_i hw;cases h;exact⟨hd,hw,hN⟩
   ·cases h
  ·cases h
 ·cases h
theorem eU.v{rest:List Oper}{t':b9}{d:Nat}{p:PV}(hy:bh P σ t o p)(h:dk N ops t o=some d)(k:eU P N ops σ rest ((d,p)::t) t'):eU P N ops σ (o::rest) t t':=.val hy (eG h).1 (eG h).2.1 (eG h).2.2 k
theorem dM.v{rest:List Oper}{t':b9}{d:Nat}{p:PV}(ks:List Nat)(hy:bh P σ (fx t ks) o p)(hk:(ks.all fun k=>(o.looksAt ops).contains k)=true)(h:dk N ops t o=some d)(k:dM P N ops σ rest ((d,p)::t) t'):dM P N ops σ (o::rest) t t':=.val ks hk hy (eG h).1 (eG h).2.1 (eG h).2.2 k
theorem bw{rest:List Oper}{K:St→Prop}{d:Nat}{p:PV}(hy:bh P σ t o p)(h:dk N ops t o=some d)(k:WR P N L ops rest ⟨(d,p)::t,σ⟩ K):WR P N L ops (o::rest) ⟨t,σ⟩ K:=bA hy (eG h).1 (eG h).2.1 (eG h).2.2 k
theorem cg{rest:List Oper}{σ':bN}{K:St→Prop}{d:Nat}{p:PV}(hy:cM P σ t o p σ')(h:dk N ops t o=some d)(k:WR P N L ops rest ⟨(d,p)::t,σ'⟩ K):WR P N L ops (o::rest) ⟨t,σ⟩ K:=du hy (eG h).1 (eG h).2.1 (eG h).2.2 k
def jc(t:b9):List Nat→Option b9
 | []=>some []
 |k::ks=>match look k t with
  |some p=>match jc t ks with
   |some r=>some ((k,p)::r)
   |none=>none
  |none=>none
theorem bm:∀ {ks:List Nat} {u:b9},jc t ks=some u→Sub t u
 | [],u,h=>by cases h;exact Sub.nil _
 |k::ks,u,h=>by
  simp only[jc]at h
  split at h
  ·rename_i p hp
   split at h
   ·rename_i r hr
    cases h
    exact .cons hp (bm hr)
   ·cases h
  ·cases h
theorem eU.k(ks:List Nat){u:b9}(h:jc t ks=some u):eU P N ops σ [] t u:=.nil (bm h)
theorem dM.k(ks:List Nat){u:b9}(h:jc t ks=some u):dM P N ops σ [] t u:=.nil (bm h)
theorem eY{c:Code}{Q:Exit→St→Prop}(ks:List Nat){u:b9}(h:jc t ks=some u)(k:W P N L c ⟨u,σ⟩ Q):W P N L c ⟨t,σ⟩ Q:=iJ (bm h) k
theorem aH{K:St→Prop}(ks:List Nat){u:b9}(h:jc t ks=some u)(k:K ⟨u,σ⟩):WR P N L ops [] ⟨t,σ⟩ K:=yO (bm h) (bf k)
def G1:bN→Option Nat
 | []=>some 0
 |_::l=>match G1 l with
  |some n=>some (n+1)
  |none=>none
theorem A0:∀ {s:bN} {n:Nat},G1 s=some n→s.length=n
 | [],n,h=>by cases h;rfl
 |_::l,n,h=>by
  simp only[G1]at h
  split at h
  ·rename_i m hm;cases h;simp[A0 hm]
  ·cases h
def Hv:PV→Bool
 | .raw (.int _ _)=>true
 | .raw (.bool _)=>true
 | .raw (.string _)=>true
 | .raw (.slice _ _ _)=>true
 | .raw (.pointer _)=>true
 | .slice _ _=>true
 | .bg _ _=>true
 | .func _ _=>true
 | .ptr _ _=>true
 | .own _=>true
 |_=>false
theorem E4{p:PV}(h:Hv p=true):fJ p:=by
 unfold Hv at h
 split at h<;>first|infer_instance|cases h
theorem Fp{xs:List PV}(h:xs.all Hv=true):cZ xs:=⟨fun i u hu=>E4 (List.all_eq_true.1 h u (List.mem_of_getElem? hu))⟩
def xS(Φ:si)(t:b9)(σ:bN):Op→Option (PV×bN)
  | .alloc ty=>match Φ.zk.get ty with
    |some z=>match force (z.map PV.raw)with
      |some z'=>match G1 σ with
        |some n=>match force (σ++[some (.cells ty z')])with
          |some s=>some (.ptr n 0,s)
          |none=>none
        |none=>none
      |none=>none
    |none=>none
  | .store ty x y=>match Φ.tk.get ty with
    | some k => match aA t x with
      | some (.ptr i off) => match aA t y with
        | some p => match σ[i]? with
          | some (some blk) => match lz p with
            |some ys=>match force ys with
              |some ys=>bif Nat.beq ys.length (k.getD 1)&&(Nat.ble (off+ys.length) blk.xs.length&&ys.all Hv) then match force (over blk.xs off ys)with
                  |some zs=>match force (σ.set i (some (blk.tE zs)))with
                    |some s=>some (.raw undef,s)
                    |none=>none
                  |none=>none
                else none
              |none=>none
            |none=>none
          |_=>none
        |none=>none
      |_=>none
    |none=>none
  |_=>none
theorem qN(hΦ : Φ.Ok P){op : Op}{p : PV}{σ' : bN}(ho : o.op = op)(h : xS Φ t σ op = some (p, σ')) : cM P σ t o p σ' := by
  unfold xS at h
  split at h
  · split at h
    · rename_i hz
      split at h
      · rename_i hz'
        cases force_eq hz'
        split at h
        · rename_i hl
          cases A0 hl
          split at h
          · rename_i hs
            cases force_eq hs
            cases h
            exact qx ho (hΦ.zk.get hz)
          · cases h
        · cases h
      · cases h
    · cases h
  · split at h
    · rename_i hk
      split at h
      · rename_i hx
        split at h
        · rename_i hy
          split at h
          · rename_i hi
            split at h
            · rename_i hc
              split at h
              · rename_i hf
                cases force_eq hf
                rw[Bool.cond_eq_ite]at h
                split at h
                · rename_i hb
                  simp only[Bool.and_eq_true,Nat.ble_eq]at hb
                  have h1:=Nat.eq_of_beq_eq_true hb.1
                  haveI:=Fp hb.2.2
                  split at h
                  · rename_i hz
                    cases force_eq hz
                    split at h
                    · rename_i hs
                      cases force_eq hs
                      cases h
                      exact uF ho (hΦ.tk.get hk) hx hy hc h1 hi hb.2.1
                    · cases h
                  · cases h
                · cases h
              · cases h
            · cases h
          · cases h
        · cases h
      · cases h
    · cases h
  · cases h
def Is(Φ:si)(N:Nat)(ops:Array Oper)(t:b9)(σ:bN)(o:Oper):Option (b9×bN):=
 match dP ops t o with
 |some true=>match o.dst with
  |some d=>bif Nat.blt d N then match fK Φ σ t o.op with
    |some p=>some ((d,p)::t,σ)
    |none=>match xS Φ t σ o.op with
     |some (p,s)=>some ((d,p)::t,s)
     |none=>none
   else none
  |none=>match xS Φ t σ o.op with
   |some (_,s)=>some (t,s)
   |none=>none
 |some false=>match o.dst with
  |some d=>bif Nat.blt d N then some ((d,.raw undef)::t,σ) else none
  |none=>none
 |none=>none
def Jq(Φ:si)(N:Nat)(ops:Array Oper):Nat→List Oper→b9→bN→Option (List Oper×b9×bN)
 |0,l,t,σ=>some (l,t,σ)
 |_+1,[],_,_=>none
 |n+1,o::l,t,σ=>match Is Φ N ops t σ o with
  |some (t',σ')=>Jq Φ N ops n l t' σ'
  |none=>none
theorem ax[hP:Has P Φ](n:Nat){l l':List Oper}{u:b9}{σ':bN}{K:St→Prop}(h:Jq Φ N ops n l t σ=some (l',u,σ'))(k:WR P N L ops l' ⟨u,σ'⟩ K):WR P N L ops l ⟨t,σ⟩ K:=by
 induction n generalizing l t σ with
 |zero=>cases h;exact k
 |succ n ih=>
  cases l with
  |nil=>cases h
  |cons o l=>
   simp only[Jq]at h
   split at h
   ·rename_i t' s' hx
    have kk:=ih h
    unfold Is at hx
    split at hx
    ·rename_i hw
     split at hx
     ·rename_i d hd
      rw[Bool.cond_eq_ite]at hx
      split at hx
      ·rename_i hN
       split at hx
       ·rename_i p hp
        cases hx
        exact bA (lA hP.ok rfl hp) hd hw hN kk
       ·split at hx
        ·rename_i hs
         cases hx
         exact du (qN hP.ok rfl hs) hd hw hN kk
        ·cases hx
      ·cases hx
     ·rename_i hd
      split at hx
      ·rename_i hs
       cases hx
       exact ba (qN hP.ok rfl hs) hd hw kk
      ·cases hx
    ·rename_i hw
     split at hx
     ·rename_i d hd
      rw[Bool.cond_eq_ite]at hx
      split at hx
      ·rename_i hN
       cases hx
       exact Ao hd hw hN kk
      ·cases hx
     ·cases hx
    ·cases hx
   ·cases h
def nj(Φ:si)(t:b9):Op→Option (Nat×List PV)
  | .call c=>match c.callee with
    | .value x=>match aA t x with
      | some (.func f cap) => match Φ.en.get f with
        |some _=>match gO t c.args.toList with
          |some ps=>match cap with
            | []=>some (f,ps)
            |q::cap=>match force (ps++(q::cap))with
              |some qs=>some (f,qs)
              |none=>none
          |none=>none
        |none=>none
      |_=>none
    |_=>none
  |_=>none
theorem ja(hΦ:Φ.Ok P){op:Op}{f:Nat}{ps:List PV}(h:nj Φ t op=some (f,ps)):∃x args ats cap qs,op= .call {callee:=.value x,args:=args,argTypes:=ats}∧enters P f=true∧aA t x=some (.func f cap)∧gO t args.toList=some qs∧qs++cap=ps:=by
 unfold nj at h
 split at h
 ·rename_i c
  obtain⟨c1,c2,c3⟩:=c
  split at h
  ·rename_i x hx
   simp only at hx
   subst hx
   split at h
   ·rename_i hf
    split at h
    ·rename_i hen
     split at h
     ·rename_i qs hq
      split at h
      ·cases h;exact⟨_,_,_,_,_,rfl,hΦ.en.get hen,hf,hq,by simp⟩
      ·split at h
       ·rename_i hfo
        cases h;exact⟨_,_,_,_,_,rfl,hΦ.en.get hen,hf,hq,force_eq hfo⟩
       ·cases h
     ·cases h
    ·cases h
   ·cases h
  ·cases h
 ·cases h
theorem eW[hP:Has P Φ]{f:Nat}{ps:List PV}{r:PV}(h:nj Φ t o.op=some (f,ps))(hc:Can P f ps (· =r))[hp:aI ps]:bh P σ t o r:=by
 obtain⟨x,args,ats,cap,qs,ho,hen,hx,hq,rfl⟩:=ja hP.ok h
 exact pq ho hen hx hq hc
theorem oM[hP:Has P Φ]{f:Nat}{ps qs:List PV}{r:PV}(h:nj Φ t o.op=some (f,ps))(hq:ai σ ps qs)(hc:Can P f qs (· =r))[hp:lV r]:bh P σ t o r:=by
 obtain⟨x,args,ats,cap,ps',ho,hen,hx,he,rfl⟩:=ja hP.ok h
 exact GU ho hen hx he hq hc
theorem Bg[hP:Has P Φ]{f:Nat}{ps qs:List PV}{r:PV}(h:nj Φ t o.op=some (f,ps))(hq:ai [] ps qs)(hc:Can P f qs (· =r)):bh P σ t o r:=by
 obtain⟨x,args,ats,cap,ps',ho,hen,hx,he,rfl⟩:=ja hP.ok h
 exact HH ho hen hx he hq hc
theorem eU.c[Has P Φ]{rest:List Oper}{t':b9}{d f:Nat}{ps:List PV}{r:PV}(h:nj Φ t o.op=some (f,ps))(hc:Can P f ps (· =r))(hd:dk N ops t o=some d)(k:eU P N ops σ rest ((d,r)::t) t')[aI ps]:eU P N ops σ (o::rest) t t':=.v (eW h hc) hd k
theorem fC[Has P Φ]{rest:List Oper}{K:St→Prop}{d f:Nat}{ps:List PV}{r:PV}(h:nj Φ t o.op=some (f,ps))(hc:Can P f ps (· =r))(hd:dk N ops t o=some d)(k:WR P N L ops rest ⟨(d,r)::t,σ⟩ K)[aI ps]:WR P N L ops (o::rest) ⟨t,σ⟩ K:=bw (eW h hc) hd k
theorem b7[hP:Has P Φ]{rest:List Oper}{K:St→Prop}{d f:Nat}{ps:List PV}(h:nj Φ t o.op=some (f,ps))(hd:dk N ops t o=some d)(hc:aW P f ps σ (fun r σ'=>WR P N L ops rest ⟨(d,r)::t,σ'⟩ K)):WR P N L ops (o::rest) ⟨t,σ⟩ K:=by
 obtain⟨x,args,ats,cap,ps',ho,hen,hx,he,rfl⟩:=ja hP.ok h
 exact FX ho hen hx he (eG hd).1 (eG hd).2.1 (eG hd).2.2 hc
theorem cD[hP:Has P Φ]{b q:Bool}(h:fK Φ σ t o.op=some (.raw (.bool b)))(hq:b=q):bh P σ t o (.raw (.bool q)):=by subst hq;exact lA hP.ok rfl h
def Lr(t:b9):Op→Option Int
 | .binOp op _ x y _=>match aA t x with
  |some (.raw (.int .i64 a))=>match aA t y with
   |some (.raw (.int .i64 b))=>match op with
    | .add=>some (a+b)
    | .sub=>some (a - b)
    | .mul=>some (a*b)
    |_=>none
   |_=>none
  |_=>none
 |_=>none
theorem aU{a:Int}(h:Lr t o.op=some a){c:Int}(hc:a=c:=by exact rfl)(hn:In64 c:=by unfold In64;omega):bh P σ t o (.raw (.int .i64 c)):=by
 subst hc
 unfold Lr at h
 split at h
 ·rename_i ho
  split at h
  ·rename_i hx
   split at h
   ·rename_i hy
    split at h
    ·cases h;exact Kt ho hx hy rfl hn
    ·cases h;exact JO ho hx hy rfl hn
    ·cases h;exact Ke ho hx hy rfl hn
    ·cases h
   ·cases h
  ·cases h
 ·cases h
def Lz(Φ:si)(σ:bN)(t:b9):Op→Option (Int×Nat×Nat×(Nat→PV))
 | .indexAddr ty x ix=>match aA t ix with
  |some (.raw (.int _ i))=>match Φ.el.get ty with
   |some (_,s)=>match aA t x with
    |some (.slice n xs)=>some (i,n,s,fun j=>.bg xs j)
    |some (.own m)=>match σ[m]? with
     |some (some (.row _ _ n _))=>some (i,n,s,fun j=>.ptr m j)
     |_=>none
    |_=>none
   |none=>match Φ.ar.get ty with
    |some (n,s)=>match aA t x with
     |some (.bg xs off)=>some (i,n,s,fun j=>.bg xs (off+j))
     |_=>none
    |none=>none
  |_=>none
 |_=>none
theorem aJ[hP:Has P Φ]{i:Int}{n s:Nat}{g:Nat→PV}(j:Nat)(h:Lz Φ σ t o.op=some (i,n,s,g))(h0:0≤i:=by omega)(h1:i<n:=by omega)(hj:i.toNat*s=j:=by omega):bh P σ t o (g j):=by
 unfold Lz at h
 split at h
 ·rename_i ho
  split at h
  ·rename_i hix
   split at h
   ·rename_i hel
    have hk:=hP.ok.el.get hel
    split at h
    ·rename_i hx;cases h;exact uy ho hk hx hix h0 h1 hj
    ·rename_i hx
     split at h
     ·rename_i hi;cases h;exact zb ho hk hx hi hix h0 h1 hj
     ·cases h
    ·cases h
   ·split at h
    ·rename_i har
     have hk:=hP.ok.ar.get har
     split at h
     ·rename_i hx;cases h;exact sr ho hk hx hix h0 h1 hj
     ·cases h
    ·cases h
  ·cases h
 ·cases h
def KK(Φ:si)(σ:bN)(t:b9):Op→Option (List PV×Nat×Option Nat)
 | .load ty x=>match Φ.tk.get ty with
  |some k=>match aA t x with
   |some (.bg xs o)=>some (xs,o,k)
   |some (.ptr i o)=>match σ[i]? with
    |some (some blk)=>some (blk.xs,o,k)
    |_=>none
   |_=>none
  |none=>none
 |_=>none
theorem aK[hP:Has P Φ]{xs:List PV}{k:Nat}{p:PV}(h:KK Φ σ t o.op=some (xs,k,none))(hp:xs[k]? =some p):bh P σ t o p:=by
 unfold KK at h
 split at h
 ·rename_i ho
  split at h
  ·rename_i htk
   have hk:=hP.ok.tk.get htk
   split at h
   ·rename_i hx;cases h;exact sT ho hk hx hp
   ·rename_i hx
    split at h
    ·rename_i hi;cases h;exact dc ho hk hx hi hp
    ·cases h
   ·cases h
  ·cases h
 ·cases h
theorem ju[hP:Has P Φ]{xs ys:List PV}{k n:Nat}(h:KK Φ σ t o.op=some (xs,k,some n))(hp:(xs.drop k).take n=ys)(hn:ys.length=n):bh P σ t o (.agg ys):=by
 unfold KK at h
 split at h
 ·rename_i ho
  split at h
  ·rename_i htk
   have hk:=hP.ok.tk.get htk
   split at h
   ·rename_i hx;cases h;exact nZ ho hk hx hp hn
   ·rename_i hx
    split at h
    ·rename_i hi;cases h;exact gw ho hk hx hi hp hn
    ·cases h
   ·cases h
  ·cases h
 ·cases h
def JU(Φ:si)(st:St):ResultVar→Option PV
 | .tmp k=>look k st.t
 | .cell k ty=>match look k st.t with
  |some (.ptr i off)=>match st.σ[i]? with
   |some (some blk)=>match Φ.tk.get ty with
    |some none=>blk.xs[off]?
    |some (some n)=>part blk.xs off n
    |none=>none
   |_=>none
  |_=>none
def IL(Φ:si)(st:St):List ResultVar→Option (List PV)
 | []=>some []
 |r::rs=>match JU Φ st r with
  |some p=>match IL Φ st rs with
   |some ps=>some (p::ps)
   |none=>none
  |none=>none
theorem aE.of[hP:Has P Φ]{st:St}:∀ {rs:List ResultVar} {ps:List PV},IL Φ st rs=some ps→aE P st rs ps
 | [],ps,h=>by cases h;exact .nil
 |r::rs,ps,h=>by
  simp only[IL]at h
  split at h
  ·rename_i p hp
   split at h
   ·rename_i ps' hps
    cases h
    refine .cons ?_ (aE.of hps)
    unfold JU at hp
    split at hp
    ·exact .tmp hp
    ·split at hp
     ·rename_i hl
      split at hp
      ·rename_i hi
       split at hp
       ·rename_i htk;exact .Iu hl hi (hP.ok.tk.get htk) hp
       ·rename_i htk
        obtain⟨ys,rfl,h1,h2⟩:=ux hp
        exact .Il hl hi (hP.ok.tk.get htk) h1 h2
       ·cases hp
      ·cases hp
     ·cases hp
   ·cases h
  ·cases h
def EC:List Nat→Nat→Option Nat
 | [],_=>none
 |x::l,j=>bif Nat.beq x j then some 0 else match EC l j with
  |some n=>some (n+1)
  |none=>none
theorem vb:∀ {fs:List Nat} {j i:Nat},EC fs j=some i→fs[i]? =some j
 | [],_,_,h=>by cases h
 |x::l,j,i,h=>by
  simp only[EC,Bool.cond_eq_ite]at h
  split at h
  ·rename_i he;cases h;cases Nat.eq_of_beq_eq_true he;rfl
  ·split at h
   ·rename_i n hn;cases h;simpa using vb hn
   ·cases h
theorem Ren.J4{fs:List Nat}{i j:Nat}(h:EC fs j=some i):Ren fs (.own i) (.own j):=.own (vb h)
theorem Ren.Ku{fs:List Nat}{i j k:Nat}(h:EC fs j=some i):Ren fs (.ptr i k) (.ptr j k):=.ptr (vb h)
theorem lZ.c{fs:List Nat}{t t':b9}{p p':PV}(k:Nat)(rest:lZ fs t t')(h:look k t=some p:=by exact rfl)(hr:Ren fs p' p:=by first|exact Ren.pure|exact Ren.J4 rfl|exact Ren.Ku rfl):lZ fs t ((k,p')::t'):=.cons k h hr rest
theorem ao.c{fs:List Nat}{x y:PV}{xs ys:List PV}(rest:ao fs xs ys)(hr:Ren fs x y:=by first|exact Ren.pure|exact Ren.J4 rfl|exact Ren.Ku rfl):ao fs (x::xs) (y::ys):=ao.cons hr rest
theorem bn[hP:Has P Φ]{p:PV}(h:fK Φ σ t o.op=some p):bh P σ t o p:=lA hP.ok rfl h
theorem cW[hP:Has P Φ]{p:PV}{σ':bN}(h:xS Φ t σ o.op=some (p,σ')):cM P σ t o p σ':=qN hP.ok rfl h
def rW(N:Nat)(l:List Oper):Bool:=Region.lexB .any l.toArray&&l.all fun o=>o.dst.all fun e=>decide (e<N)
theorem lG{l:List Oper}(h:rW N l=true):Region.lexB .any l.toArray=true∧(l.all fun o=>o.dst.all fun e=>decide (e<N)&&(l.filterMap (·.dst)).contains e)=true∧((l.filterMap (·.dst)).all fun e=>decide (e<N))=true:=by
 unfold rW at h
 simp only[Bool.and_eq_true,List.all_eq_true]at h
 refine⟨h.1,List.all_eq_true.2 fun o ho=>?_,List.all_eq_true.2 fun e he=>?_⟩
 ·have h2:=h.2 o ho
  cases hd:o.dst with
  |none=>rfl
  |some e=>
   rw[hd]at h2
   simp only[Option.all_some,Bool.and_eq_true,List.contains_iff_mem,List.mem_filterMap]at h2 ⊢
   exact⟨h2,o,ho,hd⟩
 ·obtain⟨o,ho,hd⟩:=List.mem_filterMap.1 he
  have h2:=h.2 o ho
  rw[hd]at h2
  exact h2
theorem J3{id:Nat}{l:List Oper}{t':b9}{Q:Exit→St→Prop}(hm:P.follows .mixedOrders=true)(hB:rW N l=true)(h:dM P N l.toArray σ l t t')(hq:Q .normal ⟨t',σ⟩):W P N L (.region id l.toArray true) ⟨t,σ⟩ Q:=Jb _ hm (lG hB).1 (lG hB).2.1 (lG hB).2.2 h hq
theorem fZ{id:Nat}{l:List Oper}{y:Code}{t':b9}{Q:Exit→St→Prop}(hm:P.follows .mixedOrders=true)(hB:rW N l=true)(h:dM P N l.toArray σ l t t')(hq:W P N L y ⟨t',σ⟩ Q):W P N L (.seq (.region id l.toArray true) y) ⟨t,σ⟩ Q:=an (J3 hm hB h hq)
theorem bP{id:Nat}{l:List Oper}{y:Code}{u:b9}{Q:Exit→St→Prop}(k:Nat)(p:PV)(ks:List Nat)(_:jc t ks=some u)(h:eU P N l.toArray σ l t ((k,p)::u))(hq:W P N L y ⟨(k,p)::u,σ⟩ Q):W P N L (.seq (.region id l.toArray false) y) ⟨t,σ⟩ Q:=af h hq
theorem nG{id:Nat}{l:List Oper}{y:Code}{u:b9}{Q:Exit→St→Prop}(hm:P.follows .mixedOrders=true)(hB:rW N l=true)(k:Nat)(p:PV)(ks:List Nat)(_:jc t ks=some u)(h:dM P N l.toArray σ l t ((k,p)::u))(hq:W P N L y ⟨(k,p)::u,σ⟩ Q):W P N L (.seq (.region id l.toArray true) y) ⟨t,σ⟩ Q:=fZ hm hB h hq
def Tr.keys{α:Type}:Tr α→List Nat
 | .l=>[]
 | .n a k _ b=>a.keys++k::b.keys
def Tr.Bw{α:Type}:Tr α→List α
 | .l=>[]
 | .n a _ v b=>a.Bw++v::b.Bw
theorem Tr.rI{α:Type}:∀(t:Tr α),t.keys.length=t.Bw.length
 | .l=>rfl
 | .n a _ _ b=>by simp[Tr.keys,Tr.Bw,Tr.rI a,Tr.rI b]
theorem Tr.of{α:Type}(f:Nat→Option α):∀ {t:Tr α},t.keys.map f=t.Bw.map some→t.u5 fun k v=>f k=some v
 | .l,_=>.l
 | .n a k v b,h=>by
  simp only[Tr.keys,Tr.Bw,List.map_append,List.map_cons]at h
  obtain⟨h1,h2⟩:=List.append_inj h (by simp[Tr.rI])
  simp only[List.cons.injEq]at h2
  exact .n (Tr.of f h1) h2.1 (Tr.of f h2.2)
theorem Tr.Kq{α:Type}(f:Nat→Bool):∀ {t:Tr α},t.keys.all f=true→t.u5 fun k _=>f k=true
 | .l,_=>.l
 | .n a k v b,h=>by
  simp only[Tr.keys,List.all_append,List.all_cons,Bool.and_eq_true]at h
  exact .n (Tr.Kq f h.1) h.2.1 (Tr.Kq f h.2.2)
end
end
section
set_option maxRecDepth 100000
abbrev tq{α:Type}(k:Nat)(v:α):Tr α:=.n .l k v .l
def LW:Tr (Option Nat):=.n (.n (.n (.n (.n (.n (.n (tq 0 none) 1 none (tq 2 none)) 3 none (.n (tq 4 none) 5 none (tq 7 (some 4)))) 9 none (.n (.n (tq 12 none) 13 (some 2) (tq 15 none)) 16 none (.n (tq 17 none) 18 (some 1) .l))) 20 none (.n (.n (.n (tq 21 none) 22 none (tq 23 none)) 24 (some 3) (.n (tq 25 (some 3)) 26 none (tq 27 none))) 28 none (.n (.n (tq 29 none) 30 none (tq 31 none)) 32 none (.n (tq 33 none) 34 (some 3) .l)))) 35 (some 3) (.n (.n (.n (.n (tq 36 none) 37 none (tq 38 none)) 39 none (.n (tq 40 none) 41 none (tq 42 none))) 43 none (.n (.n (tq 44 none) 45 none (tq 46 none)) 47 none (.n (tq 48 (some 3)) 49 (some 3) .l))) 50 none (.n (.n (.n (tq 51 (some 3)) 52 (some 3) (tq 53 none)) 54 none (.n (tq 55 none) 56 (some 6) .l)) 57 (some 6) (.n (.n (tq 58 (some 3)) 59 (some 3) (tq 60 none)) 61 none (.n (tq 62 none) 63 none .l))))) 64 none (.n (.n (.n (.n (.n (tq 65 none) 66 none (tq 67 none)) 68 (some 2) (.n (tq 69 (some 2)) 70 none (tq 71 none))) 72 none (.n (.n (tq 73 none) 74 none (tq 75 none)) 76 none (.n (tq 77 (some 7)) 78 (some 7) .l))) 79 none (.n (.n (.n (tq 80 (some 2)) 81 (some 7) (tq 82 (some 7))) 83 none (.n (tq 84 none) 85 none .l)) 86 none (.n (.n (tq 87 none) 88 none (tq 89 none)) 90 none (.n (tq 91 none) 92 none .l)))) 93 none (.n (.n (.n (.n (tq 94 none) 95 none (tq 96 (some 6))) 97 (some 6) (.n (tq 98 none) 99 none (tq 100 none))) 101 none (.n (.n (tq 102 none) 103 none (tq 104 none)) 105 none (.n (tq 106 none) 107 none .l))) 108 none (.n (.n (.n (tq 109 none) 110 (some 9) (tq 111 (some 9))) 112 (some 2) (.n (tq 113 none) 114 none .l)) 115 none (.n (.n (tq 116 none) 117 none (tq 118 none)) 119 (some 7) (.n (tq 120 (some 7)) 121 none .l)))))) 122 none (.n (.n (.n (.n (.n (.n (tq 123 (some 5)) 124 (some 5) (tq 125 (some 2))) 126 none (.n (tq 127 none) 128 none (tq 129 none))) 130 none (.n (.n (tq 131 none) 132 none (tq 133 none)) 134 none (.n (tq 135 none) 136 none .l))) 137 none (.n (.n (.n (tq 138 none) 139 none (tq 140 none)) 141 none (.n (tq 142 none) 143 none (tq 144 none))) 145 none (.n (.n (tq 146 none) 147 none (tq 148 none)) 149 none (.n (tq 150 none) 151 none .l)))) 152 none (.n (.n (.n (.n (tq 153 none) 154 none (tq 155 none)) 156 (some 2) (.n (tq 157 (some 2)) 158 none (tq 159 none))) 160 none (.n (.n (tq 161 none) 162 none (tq 163 none)) 164 none (.n (tq 165 none) 166 none .l))) 167 none (.n (.n (.n (tq 168 none) 169 none (tq 170 none)) 171 none (.n (tq 172 none) 173 none .l)) 174 none (.n (.n (tq 175 none) 176 none (tq 177 none)) 178 none (.n (tq 179 none) 180 none .l))))) 181 none (.n (.n (.n (.n (.n (tq 182 (some 3)) 183 (some 3) (tq 184 none)) 185 none (.n (tq 186 none) 187 none (tq 188 none))) 189 none (.n (.n (tq 190 none) 191 none (tq 192 none)) 193 none (.n (tq 194 none) 195 none .l))) 196 none (.n (.n (.n (tq 197 none) 198 none (tq 199 none)) 200 none (.n (tq 201 (some 24)) 202 none .l)) 203 none (.n (.n (tq 204 none) 205 none (tq 206 none)) 207 none (.n (tq 208 none) 209 none .l)))) 210 none (.n (.n (.n (.n (tq 211 (some 20)) 212 none (tq 213 (some 65))) 214 none (.n (tq 215 none) 216 none (tq 217 none))) 218 none (.n (.n (tq 219 none) 220 none (tq 221 none)) 222 none (.n (tq 223 none) 224 none .l))) 225 none (.n (.n (.n (tq 226 none) 227 none (tq 228 (some 32))) 229 (some 64) (.n (tq 230 none) 231 none .l)) 232 none (.n (.n (tq 233 (some 4)) 235 (some 0) (tq 236 (some 0))) 238 none (.n (tq 241 none) 244 (some 11) .l))))))
def LI:Tr (Nat):=.n (.n (.n (.n (.n (.n (.n (tq 700 0) 701 1 .l) 702 2 (tq 703 3)) 1300 0 (.n (.n (tq 1301 1) 1800 0 .l) 2400 0 (tq 2401 1))) 2402 2 (.n (.n (.n (tq 2500 0) 2501 1 .l) 2502 2 (tq 3400 0)) 3401 1 (.n (tq 3402 2) 3500 0 (tq 3501 1)))) 3502 2 (.n (.n (.n (.n (tq 4800 0) 4801 1 .l) 4802 2 (tq 4900 0)) 4901 1 (.n (.n (tq 4902 2) 5100 0 .l) 5101 1 (tq 5102 2))) 5200 0 (.n (.n (.n (tq 5201 1) 5202 2 .l) 5600 0 (tq 5601 1)) 5602 2 (.n (tq 5603 3) 5604 4 (tq 5605 5))))) 5700 0 (.n (.n (.n (.n (.n (tq 5701 1) 5702 2 .l) 5703 3 (tq 5704 4)) 5705 5 (.n (.n (tq 5800 0) 5801 1 .l) 5802 2 (tq 5900 0))) 5901 1 (.n (.n (.n (tq 5902 2) 6800 0 .l) 6801 1 (tq 6900 0)) 6901 1 (.n (tq 7700 0) 7701 3 (tq 7702 4)))) 7703 5 (.n (.n (.n (.n (tq 7704 6) 7800 0 .l) 7801 3 (tq 7802 4)) 7803 5 (.n (tq 7804 6) 8100 0 (tq 8101 1))) 8102 2 (.n (.n (.n (tq 8103 4) 8104 5 .l) 8105 6 (tq 8200 0)) 8201 1 (.n (tq 8202 2) 8203 4 (tq 8204 5)))))) 8205 6 (.n (.n (.n (.n (.n (.n (tq 9600 0) 9601 1 .l) 9602 2 (tq 9603 3)) 9604 4 (.n (.n (tq 9605 5) 9700 0 .l) 9701 1 (tq 9702 2))) 9703 3 (.n (.n (.n (tq 9704 4) 9705 5 .l) 11000 0 (tq 11001 3)) 11002 4 (.n (tq 11003 5) 11004 6 (tq 11005 7)))) 11006 8 (.n (.n (.n (.n (tq 11100 0) 11101 3 .l) 11102 4 (tq 11103 5)) 11104 6 (.n (tq 11105 7) 11106 8 (tq 11200 0))) 11201 1 (.n (.n (.n (tq 11900 0) 11901 3 .l) 11902 4 (tq 11903 5)) 11904 6 (.n (tq 12000 0) 12001 3 (tq 12002 4))))) 12003 5 (.n (.n (.n (.n (.n (tq 12004 6) 12300 0 .l) 12301 1 (tq 12302 2)) 12303 3 (.n (.n (tq 12304 4) 12400 0 .l) 12401 1 (tq 12402 2))) 12403 3 (.n (.n (.n (tq 12404 4) 15600 0 .l) 15601 1 (tq 15700 0)) 15701 1 (.n (tq 18200 0) 18201 1 (tq 18202 2)))) 18300 0 (.n (.n (.n (.n (tq 18301 1) 18302 2 .l) 23300 0 (tq 23301 1)) 23302 2 (.n (tq 23303 3) 24400 0 (tq 24401 1))) 24402 2 (.n (.n (.n (tq 24403 3) 24404 4 .l) 24405 5 (tq 24406 6)) 24407 7 (.n (tq 24408 8) 24409 9 (tq 24410 10))))))
def LP:Tr (Nat×Nat):=.n (.n (.n (tq 22 (4,1)) 23 (82,7) (tq 26 (35,3))) 29 (31,1) (.n (tq 40 (52,3)) 43 (3,1) (tq 47 (112,2)))) 50 (49,3) (.n (.n (tq 53 (59,3)) 84 (43,1) (tq 93 (92,1))) 139 (69,2) (.n (tq 155 (5,1)) 178 (177,1) (tq 195 (47,1))))
def L1:Tr (List (Nat×Nat)×List Value):=.n (.n (.n (.n (.n (tq 7 ([(0,1),(1,1),(2,1),(3,1)],[.int .i64 0,.int .i64 0,.bool false,.int .u8 0])) 13 ([(0,1),(1,1)],[.string ⟨#[]⟩,.int .u64 0]) .l) 18 ([(0,1)],[.pointer none]) (tq 24 ([(0,1),(1,1),(2,1)],[.int .i64 0,.slice none 0 0,.slice none 0 0]))) 25 ([(0,1),(1,1),(2,1)],[.int .i64 0,.slice none 0 0,.slice none 0 0]) (.n (.n (tq 34 ([(0,1),(1,1),(2,1)],[.int .u8 0,.int .u8 0,.int .u8 0])) 35 ([(0,1),(1,1),(2,1)],[.int .u8 0,.int .u8 0,.int .u8 0]) .l) 48 ([(0,1),(1,1),(2,1)],[.slice none 0 0,.bool false,.slice none 0 0]) (tq 49 ([(0,1),(1,1),(2,1)],[.slice none 0 0,.bool false,.slice none 0 0])))) 51 ([(0,1),(1,1),(2,1)],[.int .i64 0,.slice none 0 0,.slice none 0 0]) (.n (.n (.n (tq 52 ([(0,1),(1,1),(2,1)],[.int .i64 0,.slice none 0 0,.slice none 0 0])) 56 ([(0,1),(1,1),(2,1),(3,1),(4,1),(5,1)],[.int .i64 0,.int .i64 0,.int .i64 0,.int .i64 0,.slice none 0 0,.int .i64 0]) .l) 57 ([(0,1),(1,1),(2,1),(3,1),(4,1),(5,1)],[.int .i64 0,.int .i64 0,.int .i64 0,.int .i64 0,.slice none 0 0,.int .i64 0]) (tq 58 ([(0,1),(1,1),(2,1)],[.int .i64 0,.int .i64 0,.slice none 0 0]))) 59 ([(0,1),(1,1),(2,1)],[.int .i64 0,.int .i64 0,.slice none 0 0]) (.n (tq 68 ([(0,1),(1,1)],[.int .i64 0,.int .i64 0])) 69 ([(0,1),(1,1)],[.int .i64 0,.int .i64 0]) (tq 77 ([(0,3),(3,1),(4,1),(5,1),(6,1)],[.int .i64 0,.slice none 0 0,.slice none 0 0,.slice none 0 0,.int .i64 0,.slice none 0 0,.int .i64 0]))))) 78 ([(0,3),(3,1),(4,1),(5,1),(6,1)],[.int .i64 0,.slice none 0 0,.slice none 0 0,.slice none 0 0,.int .i64 0,.slice none 0 0,.int .i64 0]) (.n (.n (.n (.n (tq 81 ([(0,1),(1,1),(2,2),(4,1),(5,1),(6,1)],[.int .i64 0,.int .i64 0,.int .i64 0,.int .i64 0,.int .i64 0,.int .i64 0,.int .i64 0])) 82 ([(0,1),(1,1),(2,2),(4,1),(5,1),(6,1)],[.int .i64 0,.int .i64 0,.int .i64 0,.int .i64 0,.int .i64 0,.int .i64 0,.int .i64 0]) .l) 96 ([(0,1),(1,1),(2,1),(3,1),(4,1),(5,1)],[.int .i64 0,.int .i64 0,.slice none 0 0,.slice none 0 0,.bool false,.int .i64 0]) (tq 97 ([(0,1),(1,1),(2,1),(3,1),(4,1),(5,1)],[.int .i64 0,.int .i64 0,.slice none 0 0,.slice none 0 0,.bool false,.int .i64 0]))) 110 ([(0,3),(3,1),(4,1),(5,1),(6,1),(7,1),(8,1)],[.int .i64 0,.slice none 0 0,.slice none 0 0,.slice none 0 0,.slice none 0 0,.slice none 0 0,.slice none 0 0,.map none,.map none]) (.n (.n (tq 111 ([(0,3),(3,1),(4,1),(5,1),(6,1),(7,1),(8,1)],[.int .i64 0,.slice none 0 0,.slice none 0 0,.slice none 0 0,.slice none 0 0,.slice none 0 0,.slice none 0 0,.map none,.map none])) 112 ([(0,1),(1,1)],[.int .i64 0,.int .i64 0]) .l) 119 ([(0,3),(3,1),(4,1),(5,1),(6,1)],[.int .i64 0,.slice none 0 0,.slice none 0 0,.slice none 0 0,.int .i64 0,.nilFunc,.nilFunc]) (tq 120 ([(0,3),(3,1),(4,1),(5,1),(6,1)],[.int .i64 0,.slice none 0 0,.slice none 0 0,.slice none 0 0,.int .i64 0,.nilFunc,.nilFunc])))) 123 ([(0,1),(1,1),(2,1),(3,1),(4,1)],[.pointer none,.slice none 0 0,.slice none 0 0,.slice none 0 0,.map none]) (.n (.n (.n (tq 124 ([(0,1),(1,1),(2,1),(3,1),(4,1)],[.pointer none,.slice none 0 0,.slice none 0 0,.slice none 0 0,.map none])) 156 ([(0,1),(1,1)],[.pointer none,.slice none 0 0]) .l) 157 ([(0,1),(1,1)],[.pointer none,.slice none 0 0]) (tq 182 ([(0,1),(1,1),(2,1)],[.slice none 0 0,.slice none 0 0,.slice none 0 0]))) 183 ([(0,1),(1,1),(2,1)],[.slice none 0 0,.slice none 0 0,.slice none 0 0]) (.n (tq 233 ([(0,1),(1,1),(2,1),(3,1)],[.pointer none,.pointer none,.pointer none,.string ⟨#[]⟩])) 236 ([(0,0)],[]) (tq 244 ([(0,1),(1,1),(2,1),(3,1),(4,1),(5,1),(6,1),(7,1),(8,1),(9,1),(10,1)],[.int .u64 0,.int .u64 0,.int .u32 0,.int .u8 0,.int .u8 0,.int .u8 0,.int .u8 0,.nilFunc,.pointer none,.int .i32 0,.int .i32 0])))))
def LG:Tr (Nat×Nat×List Value):=.n (.n (.n (tq 22 (4,1,[.bool false])) 23 (82,7,[.int .i64 0,.int .i64 0,.int .i64 0,.int .i64 0,.int .i64 0,.int .i64 0,.int .i64 0]) (tq 26 (35,3,[.int .u8 0,.int .u8 0,.int .u8 0]))) 29 (31,1,[.pointer none]) (.n (tq 40 (52,3,[.int .i64 0,.slice none 0 0,.slice none 0 0])) 43 (3,1,[.int .i64 0]) (tq 47 (112,2,[.int .i64 0,.int .i64 0])))) 50 (49,3,[.slice none 0 0,.bool false,.slice none 0 0]) (.n (.n (tq 53 (59,3,[.int .i64 0,.int .i64 0,.slice none 0 0])) 84 (43,1,[.slice none 0 0]) (tq 93 (92,1,[.pointer none]))) 139 (69,2,[.int .i64 0,.int .i64 0]) (.n (tq 155 (5,1,[.int .u8 0])) 178 (177,1,[.nilFunc]) (tq 195 (47,1,[.slice none 0 0]))))
def LO:Tr (Nat×Nat×Nat×List Value):=.n (.n (.n (tq 22 (4,1,1,[.bool false])) 23 (82,7,56,[.int .i64 0,.int .i64 0,.int .i64 0,.int .i64 0,.int .i64 0,.int .i64 0,.int .i64 0]) (tq 26 (35,3,3,[.int .u8 0,.int .u8 0,.int .u8 0]))) 29 (31,1,8,[.pointer none]) (.n (tq 40 (52,3,56,[.int .i64 0,.slice none 0 0,.slice none 0 0])) 43 (3,1,8,[.int .i64 0]) (tq 47 (112,2,16,[.int .i64 0,.int .i64 0])))) 50 (49,3,56,[.slice none 0 0,.bool false,.slice none 0 0]) (.n (.n (tq 53 (59,3,40,[.int .i64 0,.int .i64 0,.slice none 0 0])) 84 (43,1,24,[.slice none 0 0]) (tq 93 (92,1,8,[.pointer none]))) 139 (69,2,16,[.int .i64 0,.int .i64 0]) (.n (tq 155 (5,1,1,[.int .u8 0])) 178 (177,1,8,[.nilFunc]) (tq 195 (47,1,24,[.slice none 0 0]))))
def LS:Tr (List Value):=.n (.n (.n (.n (.n (.n (tq 2 [.int .i64 0]) 3 [.int .i64 0] .l) 4 [.bool false] (.n (tq 5 [.int .u8 0]) 7 [.int .i64 0,.int .i64 0,.bool false,.int .u8 0] .l)) 9 [.string ⟨#[]⟩] (.n (.n (tq 12 [.int .u64 0]) 13 [.string ⟨#[]⟩,.int .u64 0] .l) 15 [.pointer none] (.n (tq 16 [.pointer none]) 17 [.pointer none] .l))) 18 [.pointer none] (.n (.n (.n (tq 20 [.nilIface]) 21 [.int .i32 0] .l) 22 [.slice none 0 0] (.n (tq 23 [.slice none 0 0]) 24 [.int .i64 0,.slice none 0 0,.slice none 0 0] .l)) 25 [.int .i64 0,.slice none 0 0,.slice none 0 0] (.n (.n (tq 26 [.slice none 0 0]) 29 [.slice none 0 0] .l) 30 [.int .i64 0] (tq 31 [.pointer none])))) 34 [.int .u8 0,.int .u8 0,.int .u8 0] (.n (.n (.n (.n (tq 35 [.int .u8 0,.int .u8 0,.int .u8 0]) 40 [.slice none 0 0] .l) 43 [.slice none 0 0] (.n (tq 47 [.slice none 0 0]) 48 [.slice none 0 0,.bool false,.slice none 0 0] .l)) 49 [.slice none 0 0,.bool false,.slice none 0 0] (.n (.n (tq 50 [.slice none 0 0]) 51 [.int .i64 0,.slice none 0 0,.slice none 0 0] .l) 52 [.int .i64 0,.slice none 0 0,.slice none 0 0] (.n (tq 53 [.slice none 0 0]) 56 [.int .i64 0,.int .i64 0,.int .i64 0,.int .i64 0,.slice none 0 0,.int .i64 0] .l))) 57 [.int .i64 0,.int .i64 0,.int .i64 0,.int .i64 0,.slice none 0 0,.int .i64 0] (.n (.n (.n (tq 58 [.int .i64 0,.int .i64 0,.slice none 0 0]) 59 [.int .i64 0,.int .i64 0,.slice none 0 0] .l) 68 [.int .i64 0,.int .i64 0] (.n (tq 69 [.int .i64 0,.int .i64 0]) 77 [.int .i64 0,.slice none 0 0,.slice none 0 0,.slice none 0 0,.int .i64 0,.slice none 0 0,.int .i64 0] .l)) 78 [.int .i64 0,.slice none 0 0,.slice none 0 0,.slice none 0 0,.int .i64 0,.slice none 0 0,.int .i64 0] (.n (.n (tq 80 [.int .i64 0,.int .i64 0]) 81 [.int .i64 0,.int .i64 0,.int .i64 0,.int .i64 0,.int .i64 0,.int .i64 0,.int .i64 0] .l) 82 [.int .i64 0,.int .i64 0,.int .i64 0,.int .i64 0,.int .i64 0,.int .i64 0,.int .i64 0] (tq 84 [.slice none 0 0]))))) 92 [.pointer none] (.n (.n (.n (.n (.n (tq 93 [.slice none 0 0]) 96 [.int .i64 0,.int .i64 0,.slice none 0 0,.slice none 0 0,.bool false,.int .i64 0] .l) 97 [.int .i64 0,.int .i64 0,.slice none 0 0,.slice none 0 0,.bool false,.int .i64 0] (.n (tq 104 [.pointer none]) 108 [.map none] .l)) 109 [.map none] (.n (.n (tq 110 [.int .i64 0,.slice none 0 0,.slice none 0 0,.slice none 0 0,.slice none 0 0,.slice none 0 0,.slice none 0 0,.map none,.map none]) 111 [.int .i64 0,.slice none 0 0,.slice none 0 0,.slice none 0 0,.slice none 0 0,.slice none 0 0,.slice none 0 0,.map none,.map none] .l) 112 [.int .i64 0,.int .i64 0] (.n (tq 119 [.int .i64 0,.slice none 0 0,.slice none 0 0,.slice none 0 0,.int .i64 0,.nilFunc,.nilFunc]) 120 [.int .i64 0,.slice none 0 0,.slice none 0 0,.slice none 0 0,.int .i64 0,.nilFunc,.nilFunc] .l))) 122 [.map none] (.n (.n (.n (tq 123 [.pointer none,.slice none 0 0,.slice none 0 0,.slice none 0 0,.map none]) 124 [.pointer none,.slice none 0 0,.slice none 0 0,.slice none 0 0,.map none] .l) 125 [.nilFunc,.nilFunc] (.n (tq 126 [.pointer none]) 128 [.map none] .l)) 139 [.slice none 0 0] (.n (.n (tq 145 [.pointer none]) 154 [.pointer none] .l) 155 [.slice none 0 0] (tq 156 [.pointer none,.slice none 0 0])))) 157 [.pointer none,.slice none 0 0] (.n (.n (.n (.n (tq 158 [.nilIface]) 159 [.nilIface] .l) 178 [.slice none 0 0] (.n (tq 182 [.slice none 0 0,.slice none 0 0,.slice none 0 0]) 183 [.slice none 0 0,.slice none 0 0,.slice none 0 0] .l)) 187 [.pointer none] (.n (.n (tq 192 [.pointer none]) 195 [.slice none 0 0] .l) 201 [.int .u8 0,.int .u8 0,.int .u8 0,.int .u8 0,.int .u8 0,.int .u8 0,.int .u8 0,.int .u8 0,.int .u8 0,.int .u8 0,.int .u8 0,.int .u8 0,.int .u8 0,.int .u8 0,.int .u8 0,.int .u8 0,.int .u8 0,.int .u8 0,.int .u8 0,.int .u8 0,.int .u8 0,.int .u8 0,.int .u8 0,.int .u8 0] (.n (tq 202 [.int .u64 0]) 209 [.int .u64 0] .l))) 211 [.int .u64 0,.int .u64 0,.int .u64 0,.int .u64 0,.int .u64 0,.int .u64 0,.int .u64 0,.int .u64 0,.int .u64 0,.int .u64 0,.int .u64 0,.int .u64 0,.int .u64 0,.int .u64 0,.int .u64 0,.int .u64 0,.int .u64 0,.int .u64 0,.int .u64 0,.int .u64 0] (.n (.n (.n (tq 212 [.int .u32 0]) 215 [.int .i64 0] .l) 222 [.int .u64 0] (.n (tq 226 [.pointer none]) 228 [.int .u8 0,.int .u8 0,.int .u8 0,.int .u8 0,.int .u8 0,.int .u8 0,.int .u8 0,.int .u8 0,.int .u8 0,.int .u8 0,.int .u8 0,.int .u8 0,.int .u8 0,.int .u8 0,.int .u8 0,.int .u8 0,.int .u8 0,.int .u8 0,.int .u8 0,.int .u8 0,.int .u8 0,.int .u8 0,.int .u8 0,.int .u8 0,.int .u8 0,.int .u8 0,.int .u8 0,.int .u8 0,.int .u8 0,.int .u8 0,.int .u8 0,.int .u8 0] .l)) 230 [.pointer none] (.n (.n (tq 233 [.pointer none,.pointer none,.pointer none,.string ⟨#[]⟩]) 235 [] .l) 236 [] (tq 244 [.int .u64 0,.int .u64 0,.int .u32 0,.int .u8 0,.int .u8 0,.int .u8 0,.int .u8 0,.nilFunc,.pointer none,.int .i32 0,.int .i32 0])))))
def LZ:Tr (Unit):=tq 4 ()
def LY:Tr (Unit):=.n (.n (.n (tq 15 ()) 16 () (tq 17 ())) 31 () (.n (tq 92 ()) 104 () .l)) 126 () (.n (.n (tq 145 ()) 154 () .l) 187 () (.n (tq 226 ()) 230 () .l))
def LF:Tr (Nat×Nat):=.n (.n (.n (tq 80 (2,1)) 125 (2,1) .l) 201 (24,1) (tq 211 (20,1))) 213 (65,1) (.n (tq 228 (32,1)) 229 (64,1) (tq 235 (0,1)))
def LU:Tr (Unit):=.n (.n (.n (.n (.n (.n (.n (tq 2 ()) 3 () .l) 4 () (.n (tq 5 ()) 6 () .l)) 7 () (.n (.n (tq 8 ()) 9 () .l) 10 () (tq 11 ()))) 12 () (.n (.n (.n (tq 13 ()) 14 () .l) 15 () (tq 16 ())) 17 () (.n (.n (tq 18 ()) 19 () .l) 20 () (tq 21 ())))) 22 () (.n (.n (.n (.n (tq 23 ()) 24 () .l) 25 () (.n (tq 26 ()) 27 () .l)) 28 () (.n (.n (tq 29 ()) 30 () .l) 31 () (tq 32 ()))) 33 () (.n (.n (.n (tq 34 ()) 35 () .l) 36 () (tq 37 ())) 38 () (.n (.n (tq 39 ()) 40 () .l) 41 () (tq 42 ()))))) 43 () (.n (.n (.n (.n (.n (tq 44 ()) 45 () .l) 46 () (.n (tq 47 ()) 48 () .l)) 49 () (.n (.n (tq 50 ()) 51 () .l) 52 () (tq 53 ()))) 54 () (.n (.n (.n (tq 55 ()) 56 () .l) 57 () (tq 58 ())) 59 () (.n (.n (tq 60 ()) 61 () .l) 62 () (tq 63 ())))) 64 () (.n (.n (.n (.n (tq 65 ()) 66 () .l) 67 () (tq 68 ())) 69 () (.n (.n (tq 70 ()) 71 () .l) 72 () (tq 73 ()))) 74 () (.n (.n (.n (tq 75 ()) 76 () .l) 77 () (tq 78 ())) 79 () (.n (.n (tq 80 ()) 81 () .l) 82 () (tq 83 ())))))) 84 () (.n (.n (.n (.n (.n (.n (tq 85 ()) 86 () .l) 87 () (.n (tq 88 ()) 89 () .l)) 90 () (.n (.n (tq 91 ()) 92 () .l) 93 () (tq 94 ()))) 95 () (.n (.n (.n (tq 96 ()) 97 () .l) 98 () (tq 99 ())) 100 () (.n (.n (tq 101 ()) 102 () .l) 103 () (tq 104 ())))) 105 () (.n (.n (.n (.n (tq 106 ()) 107 () .l) 108 () (.n (tq 109 ()) 110 () .l)) 111 () (.n (.n (tq 112 ()) 113 () .l) 114 () (tq 115 ()))) 116 () (.n (.n (.n (tq 117 ()) 118 () .l) 119 () (tq 120 ())) 121 () (.n (.n (tq 122 ()) 123 () .l) 124 () (tq 125 ()))))) 126 () (.n (.n (.n (.n (.n (tq 127 ()) 128 () .l) 129 () (.n (tq 131 ()) 132 () .l)) 133 () (.n (.n (tq 134 ()) 135 () .l) 136 () (tq 137 ()))) 138 () (.n (.n (.n (tq 139 ()) 140 () .l) 141 () (tq 142 ())) 143 () (.n (.n (tq 144 ()) 145 () .l) 146 () (tq 147 ())))) 148 () (.n (.n (.n (.n (tq 149 ()) 150 () .l) 151 () (tq 152 ())) 153 () (.n (.n (tq 154 ()) 155 () .l) 156 () (tq 157 ()))) 158 () (.n (.n (.n (tq 159 ()) 160 () .l) 161 () (tq 162 ())) 163 () (.n (.n (tq 164 ()) 165 () .l) 166 () (tq 191 ()))))))
def facts:si:=⟨LW,LI,LP,L1,LG,LO,LS,LZ,LY,LF,LU⟩
theorem bG:si.Ok Tryz.prog facts:=⟨Tr.of (sa Tryz.prog) (by kernel_rfl),Tr.of (fun k=>kj Tryz.prog (k / 100) (k % 100)) (by kernel_rfl),Tr.of (yq Tryz.prog) (by kernel_rfl),Tr.of (KL Tryz.prog) (by kernel_rfl),Tr.of (H6 Tryz.prog) (by kernel_rfl),Tr.of (vY Tryz.prog) (by kernel_rfl),Tr.of (xo Tryz.prog) (by kernel_rfl),Tr.Kq (ug Tryz.prog) (by kernel_rfl),Tr.Kq (ph Tryz.prog) (by kernel_rfl),Tr.of (JG Tryz.prog) (by kernel_rfl),Tr.Kq (enters Tryz.prog) (by kernel_rfl)⟩
instance:Has Tryz.prog facts:=⟨bG⟩
theorem mixed:Tryz.prog.follows .mixedOrders=true:=by kernel_rfl
end
end PW
end Go.Proofs.YteikppbedmmdnaaGreatDoor
namespace Go.Proofs.YteikppbedmmdnaaGreatDoor
namespace Net
section
open Go
structure jt where
 a:Int
 b:Int
 c0:Int
 c1:Int
 cap:Int
 fj:Int
 wE:Int
def jt.zero:jt:=⟨0,0,0,0,0,0,0⟩
structure ah where
 nodes:Int
 over:List Bool
 ae:List jt
def cw(L:List jt)(i:Nat):jt:=L.getD i jt.zero
def aN(T:ah)(a:Nat):Int:=if a % 2=0 then(cw T.ae (a / 2)).a else(cw T.ae (a / 2)).b
def flip(a:Nat):Nat:=if a % 2=0 then a+1 else a - 1
def aB(T:ah)(a:Nat):Int:=aN T (flip a)
def bS(T:ah)(a:Nat):Int:=if a % 2=0 then(cw T.ae (a / 2)).c0 else(cw T.ae (a / 2)).c1
def cL(T:ah)(n:Nat):Bool:=T.over.getD n false
def bH(T:ah)(n:Int):Bool:=decide (0≤n∧n<T.nodes)
def dS(T:ah)(a:Int):Bool:=decide (0≤a∧a<2*(T.ae.length:Int))
def bR(T:ah)(down:List Bool):Bool:=decide (down.length=0∨down.length=2*T.ae.length)
def bF(down:List Bool)(a:Nat):Bool:=down.getD a false
def bU(n lo hi:Int):Bool:=decide (lo≤n∧n≤hi)
def fU(T:ah)(l:jt):Bool:=
 !(l.a==l.b)&&bH T l.a&&bH T l.b&&bU l.c0 1 65535&&bU l.c1 1 65535&&bU l.cap 0 1048576&&bU l.fj 1 65536&&bU l.wE 0 64
def au(T:ah):Bool:=
 bU T.nodes 1 64&&decide (T.ae.length≤256)&&(decide (T.over.length=0)||decide ((T.over.length:Int)=T.nodes))&&T.ae.all (fU T)
theorem wC(p:jt→Bool)(L:List jt)(k:Nat)(hk:k<L.length):(L.take (k+1)).all p=((L.take k).all p&&p (cw L k)):=by
 rw[List.take_succ_eq_append_getElem hk,List.all_append]
 simp[cw,hk]
theorem xH(p:jt→Bool)(L:List jt)(k:Nat)(hk:k<L.length)(h:p (cw L k)=false):L.all p=false:=by
 rw[Bool.eq_false_iff]
 intro ha
 have:=List.all_eq_true.1 ha (cw L k) (by simp[cw,hk])
 rw[h]at this
 cases this
theorem gX(T:ah)(h:bU T.nodes 1 64=false∨256<T.ae.length∨(T.over.length≠0∧(T.over.length:Int)≠T.nodes)):false=au T:=by
 unfold au
 rcases h with h|h|⟨h1,h2⟩
 ·simp[h]
 ·have:decide (T.ae.length≤256)=false:=by simp;omega
  simp[this]
 ·simp[h1,h2]
theorem rY(T:ah)(h1:bU T.nodes 1 64=true)(h2:T.ae.length≤256)(h3:T.over.length=0∨(T.over.length:Int)=T.nodes):au T=T.ae.all (fU T):=by
 unfold au
 rcases h3 with h3|h3<;>simp[h1,h2,h3]
theorem tp{T:ah}{l:jt}{q1 q2 q3 q4 q5 q6 q7 q8:Bool}(g1:(l.a==l.b)=q1)(g2:bH T l.a=q2)(g3:bH T l.b=q3)(g4:bU l.c0 1 65535=q4)(g5:bU l.c1 1 65535=q5)(g6:bU l.cap 0 1048576=q6)(g7:bU l.fj 1 65536=q7)(g8:bU l.wE 0 64=q8):
  fU T l=(!q1 &&q2&&q3&&q4&&q5&&q6&&q7&&q8):=by subst g1 g2 g3 g4 g5 g6 g7 g8;rfl
theorem qd(T:ah)(n:Int):bU n 0 (T.nodes - 1)=bH T n:=by
 unfold bU bH
 exact decide_eq_decide.2 (by omega)
theorem nR{n lo hi:Int}(h:bU n lo hi=true):lo≤n∧n≤hi:=by simpa[bU]using h
theorem dz{T:ah}(h:au T=true):1≤T.nodes∧T.nodes≤64∧T.ae.length≤256∧(T.over.length=0∨(T.over.length:Int)=T.nodes):=by
 unfold au at h
 simp only[Bool.and_eq_true,Bool.or_eq_true,decide_eq_true_eq]at h
 obtain⟨⟨⟨h1,h2⟩,h3⟩,_⟩:=h
 have:=nR h1
 exact⟨this.1,this.2,h2,h3⟩
theorem rD{T:ah}(h:au T=true)(i:Nat)(hi:i<T.ae.length):fU T (cw T.ae i)=true:=by
 unfold au at h
 simp only[Bool.and_eq_true]at h
 exact List.all_eq_true.1 h.2 _ (by simp[cw,hi])
def vZ(T:ah)(a:Int):Int:=if 0≤a∧a<2*(T.ae.length:Int) then aN T a.toNat else -1
def wj(T:ah)(a:Int):Int:=if 0≤a∧a<2*(T.ae.length:Int) then aB T a.toNat else -1
def wW(T:ah)(a:Int):Int:=if 0≤a∧a<2*(T.ae.length:Int) then bS T a.toNat else -1
def iN(T:ah)(n:Int)(k:Nat):List Int:=((List.range k).filter fun a=>aN T a==n).map Int.ofNat
def bW(T:ah)(n:Int):List Int:=iN T n (2*T.ae.length)
theorem Cg(T:ah)(n:Int)(k:Nat)(h:(aN T k==n)=true):iN T n (k+1)=iN T n k++[(k:Int)]:=by
 simp[iN,List.range_succ,List.filter_append,h]
theorem Ee(T:ah)(n:Int)(k:Nat)(h:(aN T k==n)=false):iN T n (k+1)=iN T n k:=by
 simp[iN,List.range_succ,List.filter_append,h]
theorem eM(T:ah)(n:Int)(k:Nat):(iN T n k).length≤k:=by
 simp only[iN,List.length_map]
 exact Nat.le_trans (List.length_filter_le _ _) (by simp)
def lW(L M:List Int):Bool:=decide (L=M)
theorem Er(L M:List Int)(h:L.length≠M.length):false=lW L M:=by
 unfold lW;symm;exact decide_eq_false fun e=>h (by rw[e])
theorem Hr(L M:List Int)(k:Nat)(h:L.getD k 0≠M.getD k 0):false=lW L M:=by
 unfold lW;symm;exact decide_eq_false fun e=>h (by rw[e])
theorem Dk(L M:List Int)(hM:M.length=L.length)(h:∀i,i<L.length→L.getD i 0=M.getD i 0):true=lW L M:=by
 unfold lW;symm
 refine decide_eq_true (List.ext_getElem hM.symm fun i h1 h2=>?_)
 have:=h i h1
 simpa[h1,h2]using this
theorem uj(T:ah)(k:Nat)(hk:k<2*T.ae.length):vZ T (k:Int)=aN T k:=by
 unfold vZ;rw[if_pos ⟨by omega,by omega⟩];rfl
theorem Bb(T:ah)(k:Nat)(hk:k<2*T.ae.length):wj T (k:Int)=aB T k:=by
 unfold wj;rw[if_pos ⟨by omega,by omega⟩];rfl
theorem CD(T:ah)(k:Nat)(hk:k<2*T.ae.length):wW T (k:Int)=bS T k:=by
 unfold wW;rw[if_pos ⟨by omega,by omega⟩];rfl
theorem HY(a:Nat)(ha:a<9223372036854775806):bits .xor .i64 (a:Int) 1=(flip a:Int):=by
 have h1:(a ^^^ 1) / 2=a / 2:=by rw[Nat.xor_div_two];simp
 have h2:((a ^^^ 1) % 2=1)↔¬((a % 2=1)↔(1 % 2=1)):=Nat.xor_mod_two_eq_one
 have h3:a ^^^ 1=flip a:=by unfold flip;split<;>omega
 have e1:(BitVec.ofInt 64 (a:Int)).toNat=a:=by rw[BitVec.ofInt_natCast,BitVec.toNat_ofNat];exact Nat.mod_eq_of_lt (by omega)
 have e2:(BitVec.ofInt 64 (1:Int)).toNat=1:=by decide
 show IntKind.i64.wrap ((BitVec.ofInt 64 (a:Int) ^^^ BitVec.ofInt 64 (1:Int)).toNat:Int)=_
 rw[BitVec.toNat_xor,e1,e2,h3]
 exact IntWalk.i64_in _ (by unfold flip;split<;>omega)
end
end Net
end Go.Proofs.YteikppbedmmdnaaGreatDoor
namespace Go.Proofs.YteikppbedmmdnaaGreatDoor
namespace PW
section
open Go.RowKit cj Mem Net
abbrev num(n:Int):PV:=.raw (.int .i64 n)
abbrev flag(b:Bool):PV:=.raw (.bool b)
theorem cf{α:Type}{L:List α}{i:Nat}{d:α}(h:i<L.length):L.getD i d∈L:=by
 have:L.getD i d=L[i]:=by simp[h]
 rw[this];exact List.getElem_mem h
theorem dr{α:Type}(L:List α)(i:Nat)(d:α)(h:i<L.length):L.take (i+1)=L.take i++[L.getD i d]:=by
 rw[List.take_add_one];simp[h]
def aL(L:List Int):List PV:=L.map fun n=>.raw (.int .i64 n)
def bb(L:List Bool):List PV:=L.map fun b=>.raw (.bool b)
def aw(L:List Int):PV:=.slice L.length (aL L)
def bq(L:List Bool):PV:=.slice L.length (bb L)
def iQ(l:jt):List PV:=[.raw (.int .i64 l.a),.raw (.int .i64 l.b),.raw (.int .i64 l.c0),.raw (.int .i64 l.c1),.raw (.int .i64 l.cap),.raw (.int .i64 l.fj),.raw (.int .i64 l.wE)]
def ct(L:List jt):List PV:=L.flatMap iQ
def bI(T:ah):List PV:=[.raw (.int .i64 T.nodes),bq T.over,.slice T.ae.length (ct T.ae)]
def aZ(T:ah):PV:=.agg (bI T)
instance (L:List Int):aI (aL L):=aI.map _ _ fun _=>inferInstance
instance (L:List Bool):aI (bb L):=aI.map _ _ fun _=>inferInstance
instance (L:List Int):cZ (aL L):=cZ.map _ _ fun _=>inferInstance
instance (L:List Bool):cZ (bb L):=cZ.map _ _ fun _=>inferInstance
instance (l:jt):aI (iQ l):=by unfold iQ;infer_instance
instance (l:jt):cZ (iQ l):=by unfold iQ;infer_instance
instance (L:List jt):aI (ct L):=aI.flatMap _ _ fun _=>inferInstance
instance (L:List jt):cZ (ct L):=cZ.flatMap _ _ fun _=>inferInstance
instance (L:List Int):IsPure (aw L):=by unfold aw;infer_instance
instance (L:List Bool):IsPure (bq L):=by unfold bq;infer_instance
instance (T:ah):aI (bI T):=by unfold bI;infer_instance
instance (T:ah):IsPure (aZ T):=by unfold aZ;infer_instance
instance (L:List Int):fJ (aw L):=by unfold aw;infer_instance
theorem pC(L:List jt):(ct L).length=L.length*7:=by
 induction L with
 |nil=>rfl
 |cons l L ih=>simp only[ct,List.flatMap_cons,List.length_append,List.length_cons]at*;rw[ih];simp[iQ];omega
theorem aC(L:List Int)(i:Nat)(h:i<L.length):(aL L)[i]? =some (.raw (.int .i64 (L.getD i 0))):=by simp[aL,h]
theorem ee(L:List Bool)(i:Nat)(h:i<L.length):(bb L)[i]? =some (.raw (.bool (L.getD i false))):=by simp[bb,h]
theorem cO(L M:List Int):aL L++aL M=aL (L++M):=by simp[aL]
theorem dJ(L:List Int)(n:Int):aL L++[.raw (.int .i64 n)]=aL (L++[n]):=by simp[aL]
theorem BC(L:List Int)(i:Nat)(n:Int)(h:i<L.length):over (aL L) i [.raw (.int .i64 n)]=aL (L.set i n):=by
 unfold over aL
 rw[List.map_set,List.set_eq_take_append_cons_drop,if_pos (by simpa using h)]
 simp
theorem zK(L:List Bool)(i:Nat)(n:Bool)(h:i<L.length):over (bb L) i [.raw (.bool n)]=bb (L.set i n):=by
 unfold over bb
 rw[List.map_set,List.set_eq_take_append_cons_drop,if_pos (by simpa using h)]
 simp
theorem aW.mono{P:Program}{f:FuncId}{ps:List PV}{σ:bN}{R R':PV→bN→Prop}(h:aW P f ps σ R)(hr:∀r σ',R r σ'→R' r σ'):aW P f ps σ R':=fun F base E w vs hS hR=>
 (h F base E w vs hS hR).mono fun _ _ ⟨v,r,σ',E',h1,h2,h3⟩=>⟨v,r,σ',E',h1,hr r σ' h2,h3⟩
theorem bM{P:Program}{σ:bN}{t:b9}{o:Oper}{ty e n:Nat}{x y:Operand}{i j:Nat}{c:Int}{L:List Int}(ho:o.op= .store ty x y)(hk:sa P ty=some none)(hx:aA t x=some (.ptr i j))(hy:aA t y=some (num c))(hi:σ[i]? =some (some (.row e 1 n (aL L))))(hj:j<L.length):
  cM P σ t o (.raw undef) (σ.set i (some (.row e 1 n (aL (L.set j c))))):=by
 have:=cm ho hk hx hy hi (by show j<(aL L).length;simpa[aL]using hj)
 have he:cK.tE (.row e 1 n (aL L)) (over (cK.xs (.row e 1 n (aL L))) j [num c])= .row e 1 n (aL (L.set j c)):=by
  show cK.row e 1 n (over (aL L) j [num c])=_
  rw[BC L j c hj]
 rw[he]at this
 exact this
theorem aX{P:Program}{σ:bN}{t:b9}{o:Oper}{ty e n:Nat}{x y:Operand}{i j:Nat}{c:Bool}{L:List Bool}(ho:o.op= .store ty x y)(hk:sa P ty=some none)(hx:aA t x=some (.ptr i j))(hy:aA t y=some (flag c))(hi:σ[i]? =some (some (.row e 1 n (bb L))))(hj:j<L.length):
  cM P σ t o (.raw undef) (σ.set i (some (.row e 1 n (bb (L.set j c))))):=by
 have:=cm ho hk hx hy hi (by show j<(bb L).length;simpa[bb]using hj)
 have he:cK.tE (.row e 1 n (bb L)) (over (cK.xs (.row e 1 n (bb L))) j [flag c])= .row e 1 n (bb (L.set j c)):=by
  show cK.row e 1 n (over (bb L) j [flag c])=_
  rw[zK L j c hj]
 rw[he]at this
 exact this
theorem cU(n:Nat):dB [.raw (.int .i64 0)] n=aL (List.replicate n 0):=by
 induction n with
 |zero=>rfl
 |succ n ih=>simp only[dB,ih,List.replicate_succ,aL];rfl
theorem jN(n:Nat):dB [.raw (.bool false)] n=bb (List.replicate n false):=by
 induction n with
 |zero=>rfl
 |succ n ih=>simp only[dB,ih,List.replicate_succ,bb];rfl
theorem fr(L:List jt)(i j:Nat)(hi:i<L.length)(hj:j<7):(ct L)[i*7+j]? =(iQ (cw L i))[j]? :=by
 induction L generalizing i with
 |nil=>simp at hi
 |cons l L ih=>
  cases i with
  |zero=>
   simp only[ct,List.flatMap_cons,Nat.zero_mul,Nat.zero_add]
   rw[List.getElem?_append_left (by simp[iQ];omega)]
   rfl
  |succ i=>
   have:=ih i (by simpa using hi)
   simp only[ct,List.flatMap_cons]at*
   rw[List.getElem?_append_right (by simp[iQ];omega)]
   rw[show(i+1)*7+j - (iQ l).length=i*7+j by simp[iQ];omega]
   rw[this]
   rfl
theorem eF{E:Env}{w:World}{v u:Value}(h:cu E w v (.raw u)):v=u:=by cases h;rfl
theorem JJ{E:Env}{w:World}{vs:Array Value}{p:PV}(h:aV E w vs.toList [p]):∃v,vs= #[v]∧cu E w v p:=by
 obtain⟨l⟩:=vs
 match l,h with
 | [v],h=>exact⟨v,rfl,h.Ez.1⟩
 | [],h=>simp[aV]at h
 |_::_::_,h=>simp[aV]at h
theorem Ec(L:List jt)(i:Nat)(hi:i<L.length):((ct L).drop (i*7)).take 7=iQ (cw L i):=by
 refine List.ext_getElem? fun j=>?_
 by_cases hj:j<7
 ·rw[List.getElem?_take,if_pos hj,List.getElem?_drop,fr L i j hi hj]
 ·rw[List.getElem?_eq_none (by simp;omega),List.getElem?_eq_none (by simp[iQ];omega)]
end
end PW
end Go.Proofs.YteikppbedmmdnaaGreatDoor
namespace Go.Proofs.YteikppbedmmdnaaGreatDoor
namespace PW
open Go.RowKit cj Mem
open Go.Deep
section
variable {P:Program} {H:Type} {enc:TypeId×Value→H} {W:World}
abbrev EN:Env:=EF fun _=>False
theorem oA{α:Type}{f:α→List PV}{s:Nat}{t e:TypeId}{fuel:Nat}{v:Value}{x:DataW H×List MemPlace}(ht:P.underlying t=some (.slice e))(hc:P.cellsOf e=s)(hs0:0<s)
  (hel:∀n cs y,DataW.trod enc P W 0 (fun _=>true) true n e cs=some y→cs.length=s→∃a,aV EN W cs (f a))
  (h:DataW.trod enc P W 0 (fun _=>true) true fuel t [v]=some x):∃L:List α,cu EN W v (.slice L.length (L.flatMap f)):=by
 rcases open_slice ht h with⟨hcs,_⟩|⟨a,len,cap,m,n,D,Pl,hcs,_,hl,hm,hmm,_,hx⟩
 ·simp at hcs;subst hcs
  exact⟨[],.cc⟩
 ·simp at hcs;subst hcs
  rw[hc]at hx
  simp only[if_true]at hmm
  subst hmm
  have hall:∀k,k≤len→∃(L:List α) (cs:List Value),L.length=k∧cs.length=k*s∧aV EN W cs (L.flatMap f)∧∀(i:Nat) u,cs[i]? =some u→W.cell? (a.add i)=some u:=by
   intro k
   induction k with
   |zero=>intro _;exact⟨[],[],rfl,by simp,aV.nil _ _,fun i u h=>by simp at h⟩
   |succ k ih=>
    intro hk
    obtain⟨L,cs,h1,h2,h3,h4⟩:=ih (by omega)
    obtain⟨cs',h5,h6⟩:=hx k (by omega)
    obtain⟨_,hlen,hget⟩:=World.cells?_some h5
    obtain⟨b,hb⟩:=hel n cs' _ h6 hlen
    refine⟨L++[b],cs++cs',by simp[h1],by rw[List.length_append,h2,hlen,Nat.succ_mul],by rw[List.flatMap_append];simpa using h3.append hb,fun i u hu=>?_⟩
    by_cases hi:i<cs.length
    ·rw[List.getElem?_append_left hi]at hu;exact h4 i u hu
    ·rw[List.getElem?_append_right (by omega)]at hu
     have hj:i - cs.length<s:=by have:=(List.getElem?_eq_some_iff.1 hu).1;omega
     have:=hget (i - cs.length) hj
     rw[hu]at this
     rw[←this]
     rw[Addr.add_add]
     congr 2
     omega
  obtain⟨L,cs,h1,h2,h3,h4⟩:=hall len (Nat.le_refl _)
  by_cases h0:len=0
  ·subst h0
   have:L=[]:=List.eq_nil_of_length_eq_zero h1
   subst this
   exact⟨[],.empty _ _ hm⟩
  ·obtain⟨b,off,spot⟩:=a
   have hlt:0<cs.length:=by rw[h2];exact Nat.mul_pos (by omega) hs0
   have hc0:=h4 0 cs[0] (by simp[hlt])
   have hspot:spot=none:=by simpa[Addr.add]using World.cell?_spot hc0
   subst hspot
   have hbs:b<W.heap.size:=by
    unfold World.cell? at hc0
    split at hc0
    ·rename_i hh;exact(Array.getElem?_eq_some_iff.1 hh).1
    ·cases hc0
   refine⟨L,?_⟩
   rw[h1]
   exact .slice b off len _ cs _ (by omega) hl hm hbs (fun hf=>hf) (fun i u hu=>by have:=h4 i u hu;rw[Addr.add_lit]at this;exact this) h3.1 h3.2
end
end PW
end Go.Proofs.YteikppbedmmdnaaGreatDoor
