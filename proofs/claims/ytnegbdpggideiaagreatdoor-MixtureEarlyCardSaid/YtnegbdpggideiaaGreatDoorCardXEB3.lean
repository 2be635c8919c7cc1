/- Texts of the proof, part 3. -/
import Derived.Test.YtnegbdpggideiaaGreatDoorProg
import Derived.WalkKit
import Derived.ProofKit
import Derived.Deep.Slices
import Derived.Lib.SmallJoins
import Derived.Test.YtnegbdpggideiaaGreatDoorCardXEB2
set_option linter.unusedVariables false
set_option linter.unusedSimpArgs false
set_option maxRecDepth 10000
set_option maxHeartbeats 1000000
namespace Go.Proofs.YtnegbdpggideiaaGreatDoor
namespace PW
section
open Go.RowKit cG Mem
class ua (p:PV):Prop where
 out:∀(E:Env) (w w':World) (v:Value),cM E w v p→cM E w' v p
 Lw:∀(E:Env) (w:World) (v v':Value),cM E w v p→cM E w v' p→v=v'
instance (v:Value):ua (.raw v):=⟨fun _ _ _ _ h=>by cases h;exact .raw _,fun _ _ _ _ h h'=>by cases h;cases h';rfl⟩
instance (i:Nat):ua (.own i):=⟨fun _ _ _ _ h=>by cases h with|own _ hi _ h hs=>exact .own i hi _ h hs,fun _ _ _ _ h h'=>by
 cases h with
 |own _ _ _ h _=>cases h' with
  |own _ _ _ h' _=>rw[←h,←h']⟩
instance (i k:Nat):ua (.ptr i k):=⟨fun _ _ _ _ h=>by cases h with|ptr _ _ b hi h=>exact .ptr i k b hi h,fun E w v v' h h'=>by
 cases h with
 |ptr _ _ b _ h=>cases h' with
  |ptr _ _ b' _ h'=>
   have:b=b':=by
    rcases h with h|⟨n,c,h⟩<;>rcases h' with h'|⟨n',c',h'⟩<;>rw[h]at h'<;>simp at h'<;>first|exact h'|exact h'.1
   rw[this]⟩
section
variable {P:Program} {ops:Array Oper} {N L:Nat}
def mj(P:Program)(t:cn)(o:Oper)(p:PV):Prop:=∀E ρ w,kP ρ→eB E w ρ t→∃v,(∀w',(execOp ρ o).run P w'= .ok (.value v) w')∧cM E w v p
theorem ju{t:cn}{o:Oper}{x:Operand}{p:PV}(ho:o.op= .move x)(hx:aG t x=some p):mj P t o p:=fun E ρ w hρ hT=>
 ⟨ρ x,fun w'=>by simp only[execOp,ho,Sem.run_pure],aA hρ hT hx⟩
theorem JU{t:cn}{o:Oper}{op:BinOp}{x y:Operand}{ty tz:TypeId}{k:IntKind}{a b:Int}{v:Value}(ho:o.op= .binOp op ty x y tz)(hx:aG t x=some (.raw (.int k a)))(hy:aG t y=some (.raw (.int k b)))
  (hv:∀w,(binOp op ty (.int k a) (.int k b)).run P w= .ok v w):mj P t o (.raw v):=fun E ρ w hρ hT=>by
 have h1:=aA hρ hT hx
 have h2:=aA hρ hT hy
 generalize hz:ρ x=z at h1
 generalize hz':ρ y=z' at h2
 cases h1
 cases h2
 have hg:∀w,(eqGuard op ty x y (.int k a) (.int k b)).run P w= .ok () w:=by
  intro w;unfold eqGuard;split<;>rfl
 exact⟨v,fun w'=>by simp only[execOp,ho,hz,hz',Sem.run_bind,Sem.run_pure,Result.andThen_ok,hg,hv],.raw _⟩
theorem Kk{t:cn}{o:Oper}{x y:Operand}{ty tz:TypeId}{a b c:Int}(ho:o.op= .binOp .sub ty x y tz)(hx:aG t x=some (.raw (.int .i64 a)))(hy:aG t y=some (.raw (.int .i64 b)))(hc:a - b=c)(hn:In64 c):mj P t o (.raw (.int .i64 c)):=
 JU ho hx hy fun w=>by simp[binOp,Op.intArith,hc,jR hn]
theorem mj.y{t:cn}{o:Oper}{p:PV}{σ:cg}(h:mj P t o p):bE P σ t o p:=fun F base E ρ w hρ _ hT=>by
 obtain⟨v,h1,h2⟩:=h E ρ w hρ hT
 rw[h1];exact bA h2
def nk:List Oper→List PV→cn→cn
 |o::l,p::ps,t=>nk l ps (match o.dst with|some d=>(d,p)::t|none=>t)
 |_,_,t=>t
inductive jH (P:Program) (N:Nat) (ops:Array Oper) (σ:cg):List Oper→List PV→List Bool→cn→Prop
 |nil {t:cn}:jH P N ops σ [] [] [] t
 |val {o:Oper} {rest:List Oper} {t:cn} {d:Nat} {p:PV} {ps:List PV} {fs:List Bool} (ks:List Nat):(ks.all fun k=>(o.looksAt ops).contains k)=true→bE P σ (gT t ks) o p→o.dst=some d→Nat.blt d N=true→jH P N ops σ rest ps fs ((d,p)::t)→jH P N ops σ (o::rest) (p::ps) (false::fs) t
 |late {o:Oper} {rest:List Oper} {t:cn} {d:Nat} {p:PV} {ps:List PV} {fs:List Bool} (ks:List Nat):(ks.all fun k=>(o.looksAt ops).contains k)=true→mj P (gT t ks) o p→ua p→o.dst=some d→Nat.blt d N=true→jH P N ops σ rest ps fs ((d,p)::t)→jH P N ops σ (o::rest) (p::ps) (true::fs) t
structure Datum (P:Program) (N:Nat) (ops:Array Oper) (σ:cg) (o:Oper) (p:PV) (fl:Bool) (t:cn):Prop where
 dst:∃d,o.dst=some d∧d<N
 y:∃ks,(∀k∈ks,k∈o.looksAt ops)∧bE P σ (gT t ks) o p
 r:fl=true→ua p∧∃ks,(∀k∈ks,k∈o.looksAt ops)∧mj P (gT t ks) o p
theorem jH.data{σ:cg}{l:List Oper}{ps:List PV}{fs:List Bool}{t:cn}(h:jH P N ops σ l ps fs t):ps.length=l.length∧fs.length=l.length∧∀(i:Nat) o p f,l[i]? =some o→ps[i]? =some p→fs[i]? =some f→Datum P N ops σ o p f (nk (l.take i) (ps.take i) t):=by
 have mem:∀ {ks:List Nat} {o:Oper},(ks.all fun k=>(o.looksAt ops).contains k)=true→∀k∈ks,k∈o.looksAt ops:=fun h k hk=>by
  have:=List.all_eq_true.1 h k hk;simpa using this
 induction h with
 |nil=>exact⟨rfl,rfl,fun i o p f h=>by simp at h⟩
 | @val o rest t d p ps fs ks hks hy hd hN _ ih=>
  refine⟨by simp[ih.1],by simp[ih.2.1],fun i o' p' f h1 h2 h3=>?_⟩
  cases i with
  |zero=>
   simp at h1 h2 h3
   subst h1;subst h2;subst h3
   exact⟨⟨d,hd,Nat.blt_eq.mp hN⟩,⟨ks,mem hks,hy⟩,fun e=>by cases e⟩
  |succ i=>
   have:=ih.2.2 i o' p' f (by simpa using h1) (by simpa using h2) (by simpa using h3)
   simpa[nk,hd]using this
 | @late o rest t d p ps fs ks hks hy hfp hd hN _ ih=>
  refine⟨by simp[ih.1],by simp[ih.2.1],fun i o' p' f h1 h2 h3=>?_⟩
  cases i with
  |zero=>
   simp at h1 h2 h3
   subst h1;subst h2;subst h3
   exact⟨⟨d,hd,Nat.blt_eq.mp hN⟩,⟨ks,mem hks,hy.y⟩,fun _=>⟨hfp,ks,mem hks,hy⟩⟩
  |succ i=>
   have:=ih.2.2 i o' p' f (by simpa using h1) (by simpa using h2) (by simpa using h3)
   simpa[nk,hd]using this
def cw(ops:Array Oper)(i:Nat):Option Nat:=(ops[i]?).bind (·.dst)
def ew(ops:Array Oper)(i:Nat):List Nat:=match ops[i]? with|some o=>o.looksAt ops|none=>[]
def HD(ops:Array Oper)(f m:Nat)(fl:List Bool):Bool:=
 decide (m≤ops.size)&&Nat.beq fl.length m&&
 ((List.range ops.size).all fun i=>(lT ops i).all fun k=>decide (k<i))&&
 ((List.range ops.size).all fun i=>((ops[i]?).all fun o=>o.guard.isNone))&&
 ((List.range m).all fun i=>(List.range i).all fun j=>cw ops i !=cw ops j)&&
 ((List.range m).all fun j=>(ew ops j).all fun k=>(List.range m).all fun i=>cw ops i !=some k||(decide (i<j)&&(lT ops j).contains i))&&
 ((List.range ops.size).all fun i=>decide (i<m)||(List.range i).all fun j=>fl.getD j false||fx ops f i j)&&
 ((List.range ops.size).all fun i=>decide (i<m)||(List.range m).all fun j=> !fl.getD j false||((cw ops j).all fun d=> !(ew ops i).contains d||fx ops f i j))&&
 ((List.range ops.size).all fun i=>decide (i<m)||(List.range m).all fun j=> !fl.getD j false||((cw ops i).all fun d=>cw ops j !=some d&& !(ew ops j).contains d))
structure Form (ops:Array Oper) (f m:Nat) (fl:List Bool):Prop where
 le:m≤ops.size
 KV:fl.length=m
 lT:∀i,i<ops.size→∀k∈lT ops i,k<i
 ng:∀(i:Nat) (o:Oper),ops[i]? =some o→o.guard=none
 ss:∀i j,i<m→j<i→cw ops i≠cw ops j
 rd:∀j,j<m→∀k∈ew ops j,∀i,i<m→cw ops i=some k→i<j∧i∈PW.lT ops j
 Lo:∀i,i<ops.size→m≤i→∀j,j<i→fl.getD j false=false→fx ops f i j=true
 use:∀i,i<ops.size→m≤i→∀j,j<m→fl.getD j false=true→∀d,cw ops j=some d→d∈ew ops i→fx ops f i j=true
 wr:∀i,i<ops.size→m≤i→∀j,j<m→fl.getD j false=true→∀d,cw ops i=some d→cw ops j≠some d∧d∉ew ops j
theorem B6{f m:Nat}{fl:List Bool}(h:HD ops f m fl=true):Form ops f m fl:=by
 unfold HD at h
 simp only[Bool.and_eq_true]at h
 obtain⟨⟨⟨⟨⟨⟨⟨⟨h1,h2⟩,h3⟩,h4⟩,h5⟩,h6⟩,h7⟩,h8⟩,h9⟩:=h
 have all:∀ {n:Nat} {p:Nat→Bool},(List.range n).all p=true→∀i,i<n→p i=true:=fun h i hi=>List.all_eq_true.1 h i (List.mem_range.2 hi)
 refine⟨by simpa using h1,Nat.eq_of_beq_eq_true h2,fun i hi k hk=>?_,fun i o ho=>?_,fun i j hi hj=>?_,fun j hj k hk i hi hd=>?_,fun i hi hm j hj hf=>?_,fun i hi hm j hj hf d hd hl=>?_,fun i hi hm j hj hf d hd=>?_⟩
 ·have:=List.all_eq_true.1 (all h3 i hi) k hk;simpa using this
 ·have hi:i<ops.size:=(Array.getElem?_eq_some_iff.1 ho).1
  have:=all h4 i hi
  rw[ho]at this
  simpa using this
 ·have:=all (all h5 i hi) j hj
  simpa using this
 ·have:=all (List.all_eq_true.1 (all h6 j hj) k hk) i hi
  rw[hd]at this
  simpa using this
 ·have:=all h7 i hi
  simp only[Bool.or_eq_true,decide_eq_true_eq]at this
  rcases this with h|h
  ·omega
  ·have:=all h j hj
   rw[hf]at this
   simpa using this
 ·have:=all h8 i hi
  simp only[Bool.or_eq_true,decide_eq_true_eq]at this
  rcases this with h|h
  ·omega
  ·have:=all h j hj
   rw[hf,hd]at this
   simpa[hl]using this
 ·have:=all h9 i hi
  simp only[Bool.or_eq_true,decide_eq_true_eq]at this
  rcases this with h|h
  ·omega
  ·have:=all h j hj
   rw[hf,hd]at this
   simpa using this
structure Ep (ops:Array Oper) (m:Nat) (fl:List Bool) (ls:Array Bool) (a a₁:Act):Prop where
 j9:a.defers=a₁.defers
 size:a.tmps.size=a₁.tmps.size
 tmp:∀k,(∀j,j<m→fl.getD j false=true→ls.getD j true=false→cw ops j≠some k)→a.eval (.tmp k)=a₁.eval (.tmp k)
def Is(P:Program)(ops:Array Oper)(m:Nat)(fl:List Bool)(a₁:Act):Prop:=
 ∀j o d,j<m→fl.getD j false=true→ops[j]? =some o→o.dst=some d→∀w,(execOp a₁.eval o).run P w= .ok (.value (a₁.eval (.tmp d))) w
theorem Ba{i:Nat}{o:Oper}(ho:ops[i]? =some o){k:Nat}(hk:Operand.tmp k∈o.op.operands):k∈ew ops i:=by
 unfold ew
 rw[ho]
 exact List.mem_append_left _ (List.mem_filterMap.2 ⟨.tmp k,by simpa using hk,rfl⟩)
theorem nD{i:Nat}{o:Oper}{a a₁:Act}(ho:ops[i]? =some o)(hs:∀cs b,o.op≠ .select cs b)(h:∀k∈ew ops i,a.eval (.tmp k)=a₁.eval (.tmp k)):execOp a.eval o=execOp a₁.eval o:=by
 refine execOp_congr o hs fun x hx=>?_
 match x,hx with
 | .tmp k,hx=>exact h k (Ba ho hx)
 | .const v,_=>rfl
 | .global g,_=>rfl
 | .func g,_=>rfl
theorem Jh{a a₁:Act}(hd:a.defers=a₁.defers)(hs:a.tmps.size=a₁.tmps.size)(h:∀k,a.eval (.tmp k)=a₁.eval (.tmp k)):a=a₁:=by
 obtain⟨t,d⟩:=a
 obtain⟨t',d'⟩:=a₁
 simp only at hd hs
 subst hd
 congr
 apply Array.ext hs
 intro i h1 h2
 have:=h i
 simpa[Act.eval,h1,h2]using this
theorem jG(a:Act){d:Nat}(hd:d<a.tmps.size)(v:Value)(k:Nat):(a.put (some d) v).eval (.tmp k)=if k=d then v else a.eval (.tmp k):=by
 split
 ·rename_i e;subst e;simp[Act.put,Act.eval,hd]
 ·rename_i e;exact Act.eval_put (fun d' hd' heq=>by cases hd';cases heq;exact e rfl)
def DV(Qn:Act→World→Prop):Exit→Act→World→Prop
 | .normal,a,w=>Qn a w
 |_,_,_=>False
theorem EP{o:Oper}{a a₁:Act}{w:World}{K K':Act→World→Prop}{Qn:Act→World→Prop}{Q:Exit→Act→World→Prop}(he:execOp a.eval o=execOp a₁.eval o)(hd:a.defers=a₁.defers)(hh:o.wp P a₁ w K (DV Qn))(h:∀ds v w',K (({a₁ with defers:=ds}:Act).put o.dst v) w'→K' (({a with defers:=ds}:Act).put o.dst v) w'):o.wp P a w K' Q:=by
 have h1:∀v w',K (a₁.put o.dst v) w'→K' (a.put o.dst v) w':=fun v w' hk=>by
  have:=h a₁.defers v w' hk
  rw[←hd]at this
  exact this
 unfold Oper.wp at*
 rw[he]
 generalize (execOp a₁.eval o).run P w=x at*
 cases x with
 |ok n w'=>
  cases n<;>simp only[Oper.upon]at hh ⊢
  case value v=>exact h1 _ _ hh
  case skip=>exact h1 _ _ hh
  case defer d=>rw[hd];exact h _ _ _ hh
  case enter f args=>exact Calls.mono hh (fun e w'' he=>by cases e<;>first|exact h1 _ _ he|exact he.elim|exact(he.elim fun _ h=>h.elim fun _ h=>h.elim))
  case row r args=>exact Rows.mono hh (fun _ _ he=>h1 _ _ he)
  all_goals exact hh.elim
 |halt x w'=>cases x<;>simp only[Oper.upon]at hh ⊢ <;>exact hh.elim
theorem FX{f m:Nat}{fl:List Bool}(hF:Form ops f m fl)(hsel:∀(i:Nat) (o:Oper),ops[i]? =some o→∀cs b,o.op≠ .select cs b)(hfd:∀j,j<m→∃d,cw ops j=some d){Qn:Act→World→Prop}{Q:Exit→Act→World→Prop}(hQ:∀a w,Qn a w→Q .normal a w):
  ∀(fuel k r:Nat) (ls:Array Bool) (a a₁:Act) (w:World),k+r=ops.size→m≤k→ls.size=ops.size→(∀i,k≤i→i<ops.size→ls.getD i true=false)→(∀i,m≤i→i<k→ls.getD i true=true)→(∀i,i<m→fl.getD i false=false→ls.getD i true=true)→Down ops ls→fuel=bO ls m+r→
   Ep ops m fl ls a a₁→Is P ops m fl a₁→(∀j d,j<m→cw ops j=some d→d<a₁.tmps.size)→wpOps P ops (DV Qn) (List.range' k r) a₁ w→wpAny P .any ops Q fuel ls a w:=by
 intro fuel
 induction fuel with
 |zero=>
  intro k r ls a a₁ w hk hm hsz hA hB hC hD hfu hag hfx hds h
  have hr:r=0:=by omega
  subst hr
  have hu:bO ls m=0:=by omega
  have hall:∀i,i<ops.size→ls.getD i true=true:=fun i hi=>by
   rcases Nat.lt_or_ge i m with h'|h'
   ·exact dq hu i h'
   ·exact hB i h' (by omega)
  have hr0:Region.ready .any ops ls=[]:=by
   apply List.eq_nil_iff_forall_not_mem.2
   intro i hi
   obtain⟨h1,h2,_⟩:=cH.1 hi
   rw[hall i h1]at h2;cases h2
  have:a=a₁:=Jh hag.j9 hag.size fun k=>hag.tmp k fun j hj _ hl=>by
   rw[dq hu j hj]at hl;cases hl
  subst this
  exact⟨hr0,hQ a w h⟩
 |succ fuel ih=>
  intro k r ls a a₁ w hk hm hsz hA hB hC hD hfu hag hfx hds h
  have hf:∀b c (i:Nat),i<ops.size→ls.getD i b=ls.getD i c:=fun b c i hi=>by simp[show i<ls.size by omega]
  have hne:Region.ready .any ops ls≠[]:=by
   rcases Nat.eq_zero_or_pos (bO ls m)with hu|hu
   ·have hkr:k<ops.size:=by omega
    have:k∈Region.ready .any ops ls:=cH.2 ⟨hkr,hA k (Nat.le_refl _) hkr,fun j hj=>by
     have:=hF.lT k hkr j hj
     rw[hf false true j (by omega)]
     rcases Nat.lt_or_ge j m with h'|h'
     ·exact dq hu j h'
     ·exact hB j h' this⟩
    intro h0;rw[h0]at this;cases this
   ·obtain⟨i,h1,h2,h3⟩:=fQ hu
    have hle:=hF.le
    have:i∈Region.ready .any ops ls:=cH.2 ⟨by omega,h2,fun j hj=>by
     have:=hF.lT i (by omega) j hj
     rw[hf false true j (by omega)];exact h3 j this⟩
    intro h0;rw[h0]at this;cases this
  refine⟨fun h0=>absurd h0 hne,fun i hi=>?_⟩
  obtain⟨hi1,hi2,hi3⟩:=cH.1 hi
  have ho:ops[i]? =some ops[i]:=by simp[hi1]
  have hwant:Region.wanted ops[i] (yielded ops a.tmps)=true:=by unfold Region.wanted;rw[hF.ng i _ ho]
  have hset:∀(j:Nat) b,(ls.setIfInBounds i true).getD j b=if j=i then true else ls.getD j b:=fun j b=>by
   by_cases e:i=j
   ·subst e;simp[show i<ls.size by omega]
   ·rw[if_neg (fun h=>e h.symm),Array.getD_eq_getD_getElem?,Array.getD_eq_getD_getElem?,Array.getElem?_setIfInBounds_ne e]
  have hdown:Down ops (ls.setIfInBounds i true):=fun j hj hj' q hq=>by
   rw[hset]
   split
   ·rfl
   ·rw[hset]at hj
    split at hj
    ·rename_i e;subst e;exact hi3 q hq
    ·exact hD j hj hj' q hq
  unfold wpOp
  rw[ho]
  simp only[hwant,if_true]
  rcases Nat.lt_or_ge i m with him|him
  ·
   have hfl:fl.getD i false=true:=by
    cases hb:fl.getD i false with
    |true=>rfl
    |false=>rw[hC i him hb]at hi2;cases hi2
   cases hd:(ops[i]).dst with
   |none=>
    obtain⟨d,hd'⟩:=hfd i him
    simp only[cw,ho,Option.bind_some]at hd'
    have:=hd.symm.trans hd'
    cases this
   |some d=>
    have hdo:cw ops i=some d:=by simp only[cw,ho,Option.bind_some];exact hd
    have hrun:=hfx i ops[i] d him hfl ho hd w
    have hex:execOp a.eval ops[i]=execOp a₁.eval ops[i]:=nD ho (hsel i _ ho) fun q hq=>hag.tmp q fun j hj _ hjl hjd=>by
     have:=(hF.rd i him q hq j hj hjd).2
     have:=hi3 j this
     rw[hf false true j (by omega),hjl]at this
     cases this
    left
    unfold Oper.wp
    rw[hex,hrun]
    simp only[Oper.upon]
    rw[hd]
    have hda:=hds i d him hdo
    refine ih k r _ _ a₁ w hk hm (by simpa using hsz) (fun j hj hj'=>by rw[hset,if_neg (by omega)];exact hA j hj hj') (fun j hj hj'=>by rw[hset,if_neg (by omega)];exact hB j hj hj') (fun j hj hj'=>?_) hdown ?_ ⟨by simpa[Act.put]using hag.j9,by simpa[Act.put]using hag.size,fun q hq=>?_⟩ hfx hds h
    ·rw[hset];split
     ·rfl
     ·exact hC j hj hj'
    ·have:=fO hi2 him (by have:=hF.le;omega);omega
    ·rw[jG a (by rw[hag.size];exact hda)]
     split
     ·rename_i e;rw[e]
     ·rename_i e
      refine hag.tmp q fun j hj hjf hjl hjd=>?_
      by_cases e2:j=i
      ·subst e2;rw[hdo]at hjd;cases hjd;exact e rfl
      ·exact hq j hj hjf (by rw[hset,if_neg e2];exact hjl) hjd
  ·
   have hik:i=k:=by
    rcases Nat.lt_or_ge i k with h'|h'
    ·rw[hB i him h']at hi2;cases hi2
    ·rcases Nat.lt_or_ge k i with h''|h''
     ·have hfk:fl.getD k false=false:=by
       have:=hF.KV
       simp[List.getD_eq_getElem?_getD,List.getElem?_eq_none (show fl.length≤k by omega)]
      have:=ez hsz hD hF.lT f i k hi1 (hF.Lo i hi1 him k h'' hfk) hi3
      rw[hf false true k (by omega),hA k (Nat.le_refl _) (by omega)]at this
      cases this
     ·omega
   subst hik
   obtain⟨r',rfl⟩:∃r',r=r'+1:=⟨r - 1,by omega⟩
   rw[List.range'_succ,wpOps_cons]at h
   unfold wpOp at h
   rw[ho]at h
   have hwant':Region.wanted ops[i] (yielded ops a₁.tmps)=true:=by unfold Region.wanted;rw[hF.ng i _ ho]
   simp only[hwant',if_true]at h
   have hh:=h.resolve_right (fun⟨_,_,_,hq⟩=>hq)
   have hex:execOp a.eval ops[i]=execOp a₁.eval ops[i]:=nD ho (hsel i _ ho) fun q hq=>hag.tmp q fun j hj hjf hjl hjd=>by
    have:=ez hsz hD hF.lT f i j hi1 (hF.use i hi1 him j hj hjf q hjd hq) hi3
    rw[hf false true j (by have:=hF.le;omega),hjl]at this
    cases this
   left
   refine EP hex hag.j9 hh fun ds v w' hK=>?_
   have hdd:∀d,(ops[i]).dst=some d→cw ops i=some d:=fun d hd=>by simp only[cw,ho,Option.bind_some];exact hd
   refine ih (i+1) r' _ _ _ w' (by omega) (by omega) (by simpa using hsz) (fun j hj hj'=>by rw[hset,if_neg (by omega)];exact hA j (by omega) hj') (fun j hj hj'=>?_) (fun j hj hj'=>by rw[hset,if_neg (by omega)];exact hC j hj hj') hdown ?_ ⟨?_,?_,fun q hq=>?_⟩ (fun j o d hj hjf hjo hjd w''=>?_) (fun j d hj hjd=>?_) hK
   ·rw[hset];split
    ·rfl
    ·exact hB j hj (by omega)
   ·have:bO (ls.setIfInBounds i true) m=bO ls m:=by
     have:∀q,q≤m→bO (ls.setIfInBounds i true) q=bO ls q:=by
      intro q
      induction q with
      |zero=>intro _;rfl
      |succ q ihq=>
       intro hq
       simp only[bO]
       rw[ihq (by omega),hset q true,if_neg (show ¬q=i by omega)]
     exact this m (Nat.le_refl _)
    omega
   ·cases(ops[i]).dst<;>rfl
   ·cases(ops[i]).dst<;>simpa[Act.put]using hag.size
   ·have hq':∀j,j<m→fl.getD j false=true→ls.getD j true=false→cw ops j≠some q:=fun j hj hjf hjl=>hq j hj hjf (by rw[hset,if_neg (by omega)];exact hjl)
    cases hd:(ops[i]).dst with
    |none=>exact hag.tmp q hq'
    |some d=>
     by_cases hsz2:d<a.tmps.size
     ·rw[jG _ (by simpa using hsz2),jG _ (by rw[←hag.size];exact hsz2)]
      split
      ·rfl
      ·exact hag.tmp q hq'
     ·have e1:({a with defers:=ds}:Act).put (some d) v= {a with defers:=ds}:=by simp[Act.put,Array.setIfInBounds,hsz2]
      have e2:({a₁ with defers:=ds}:Act).put (some d) v= {a₁ with defers:=ds}:=by simp[Act.put,Array.setIfInBounds,←hag.size,hsz2]
      rw[e1,e2]
      exact hag.tmp q hq'
   ·have hj1:=hfx j o d hj hjf hjo hjd w''
    have hjd':cw ops j=some d:=by simp only[cw,hjo,Option.bind_some];exact hjd
    have key:∀q,(q∈ew ops j∨q=d)→(({a₁ with defers:=ds}:Act).put (ops[i]).dst v).eval (.tmp q)=a₁.eval (.tmp q):=fun q hq=>by
     refine Act.eval_put (a:= {a₁ with defers:=ds}) fun e he heq=>?_
     cases heq
     have:=hF.wr i hi1 him j hj hjf q (hdd q he)
     rcases hq with hq|rfl
     ·exact this.2 hq
     ·exact this.1 hjd'
    have he2:execOp (({a₁ with defers:=ds}:Act).put (ops[i]).dst v).eval o=execOp a₁.eval o:=nD hjo (hsel j o hjo) fun q hq=>key q (.inl hq)
    rw[he2,hj1,key d (.inr rfl)]
   ·have:=hds j d hj hjd
    cases(ops[i]).dst<;>simpa[Act.put]using this
theorem lN:∀(l:List Oper) (ps:List PV) (t:cn) (k:Nat) (p:PV),look k (nk l ps t)=some p→(∃(j:Nat) (o:Oper),l[j]? =some o∧o.dst=some k∧ps[j]? =some p)∨look k t=some p
 | [],_,t,k,p,h=>.inr (by simpa[nk]using h)
 |_::_,[],t,k,p,h=>.inr (by simpa[nk]using h)
 |o::l,q::ps,t,k,p,h=>by
  simp only[nk]at h
  rcases lN l ps _ k p h with⟨j,o',h1,h2,h3⟩|h'
  ·exact .inl ⟨j+1,o',by simpa using h1,h2,by simpa using h3⟩
  ·cases hd:o.dst with
   |none=>rw[hd]at h';exact .inr h'
   |some d=>
    rw[hd]at h'
    simp only[look]at h'
    rw[Bool.cond_eq_ite]at h'
    split at h'
    ·rename_i he
     have:=Nat.eq_of_beq_eq_true he
     subst this
     cases h'
     exact .inl ⟨0,o,rfl,hd,rfl⟩
    ·exact .inr h'
section
variable {F:Nat→Prop} {base:Nat} {E:Env} {σ:cg} {t:cn} {l:List Oper} {ps:List PV} {fl:List Bool} {f m:Nat}
structure lA (N m:Nat) (l:List Oper) (ps:List PV) (E:Env) (t:cn) (w:World) (dn:Nat→Prop) (a:Act) (w':World):Prop where
 ext:Ext w w'
 j9:a.defers=[]
 size:a.tmps.size=N
 t0:eB E w' a.eval t
 lK:∀j,j<m→dn j→∀d p,cw l.toArray j=some d→ps[j]? =some p→cM E w' (a.eval (.tmp d)) p
theorem jq{i:Nat}{o:Oper}(h:(l.take m)[i]? =some o):i<m∧l.toArray[i]? =some o∧cw l.toArray i=o.dst:=by
 rw[List.getElem?_take]at h
 split at h
 ·rename_i hi
  refine⟨hi,by simpa using h,?_⟩
  simp only[cw]
  have:l.toArray[i]? =some o:=by simpa using h
  rw[this];rfl
 ·cases h
theorem pL{dn:Nat→Prop}{a:Act}{w w':World}(hg:lA N m l ps E t w dn a w'){i:Nat}(hi:i≤m){ks:List Nat}(hdn:∀j k,j<i→k∈ks→cw l.toArray j=some k→dn j):eB E w' a.eval (gT (nk ((l.take m).take i) (ps.take i) t) ks):=fun k p hk=>by
 obtain⟨h1,h2⟩:=jf ks k p hk
 rcases lN _ _ _ k p h2 with⟨j,o,h3,h4,h5⟩|h'
 ·rw[List.getElem?_take]at h3
  split at h3
  ·rename_i hj
   obtain⟨hjm,h6,h7⟩:=jq h3
   rw[List.getElem?_take,if_pos hj]at h5
   exact hg.lK j (by omega) (hdn j k hj h1 (by rw[h7];exact h4)) k p (by rw[h7];exact h4) h5
  ·cases h3
 ·exact hg.t0 k p h'
theorem tZ{dn:Nat→Prop}{a:Act}{w w' w'':World}(hF:Form l.toArray f m fl)(hfr:∀i d,i<m→cw l.toArray i=some d→look d t=none)(hg:lA N m l ps E t w dn a w')(hE:Ext w' w''){i d:Nat}{p:PV}(hi:i<m)(hd:cw l.toArray i=some d)(hdN:d<N)(hp:ps[i]? =some p){v:Value}(hv:cM E w'' v p):
  lA N m l ps E t w (fun j=>dn j∨j=i) (a.put (some d) v) w'':=by
 refine⟨hg.ext.trans hE,by simpa[Act.put]using hg.j9,by simpa[Act.put]using hg.size,fun k q hk=>?_,fun j hj hdj d' q hd' hq=>?_⟩
 ·have hne:k≠d:=fun e=>by subst e;rw[hfr i k hi hd]at hk;cases hk
  rw[jG a (by rw[hg.size];exact hdN),if_neg hne]
  exact(hg.t0 k q hk).ext hE
 ·rw[jG a (by rw[hg.size];exact hdN)]
  by_cases e:j=i
  ·subst e
   rw[hd]at hd';cases hd'
   rw[hp]at hq;cases hq
   rw[if_pos rfl];exact hv
  ·have hne:d'≠d:=fun e'=>by
    subst e'
    rcases Nat.lt_or_ge i j with h'|h'
    ·exact hF.ss j i hj h' (by rw[hd,hd'])
    ·exact hF.ss i j hi (by omega) (by rw[hd,hd'])
   rw[if_neg hne]
   exact(hg.lK j hj (hdj.resolve_right e) d' q hd' hq).ext hE
theorem lA.mono{dn dn':Nat→Prop}{a:Act}{w w':World}(h:lA N m l ps E t w dn a w')(hd:∀j,j<m→dn' j→dn j):lA N m l ps E t w dn' a w':=⟨h.ext,h.j9,h.size,h.t0,fun j hj hj'=>h.lK j hj (hd j hj hj')⟩
theorem DC(hF:Form l.toArray f m fl)(hml:m≤l.length)(hfr:∀i d,i<m→cw l.toArray i=some d→look d t=none)(hc:jH P N l.toArray σ (l.take m) ps fl t){ls:Array Bool}{a:Act}{w w':World}(hg:lA N m l ps E t w (fun j=>ls.getD j true=true) a w')(hall:∀i,i<m→fl.getD i false=false→ls.getD i true=true):
  ∃a₁,Ep l.toArray m fl ls a a₁∧lA N m l ps E t w (fun _=>True) a₁ w':=by
 obtain⟨hl1,hl2,hdat⟩:=hc.data
 have hlen:(l.take m).length=m:=by simp;omega
 have key:∀q,q≤m→∃b,Ep l.toArray m fl ls a b∧lA N m l ps E t w (fun j=>ls.getD j true=true∨j<q) b w':=by
  intro q
  induction q with
  |zero=>intro _;exact⟨a,⟨rfl,rfl,fun _ _=>rfl⟩,hg.mono fun j _ h=>h.resolve_right (by omega)⟩
  |succ q ih=>
   intro hq
   obtain⟨b,hag,hgb⟩:=ih (by omega)
   cases hb:ls.getD q true with
   |true=>exact⟨b,hag,hgb.mono fun j _ h=>by
     rcases h with h|h
     ·exact .inl h
     ·by_cases e:j=q
      ·subst e;exact .inl hb
      ·exact .inr (by omega)⟩
   |false=>
    have hfq:fl.getD q false=true:=by
     cases hf:fl.getD q false with
     |true=>rfl
     |false=>rw[hall q (by omega) hf]at hb;cases hb
    have ho:(l.take m)[q]? =some ((l.take m)[q]'(by omega)):=List.getElem?_eq_getElem (by omega)
    obtain⟨_,hoq,hdq⟩:=jq ho
    have hpq:ps[q]? =some (ps[q]'(by omega)):=by simp
    have hff:fl[q]? =some true:=by
     have:q<fl.length:=by rw[hl2,hlen];omega
     simp[this]at hfq ⊢;exact hfq
    have D:=hdat q _ _ _ ho hpq hff
    obtain⟨d,hd,hdN⟩:=D.dst
    obtain⟨_,ks,hks,hR⟩:=D.r rfl
    have hrep:=pL hgb (i:=q) (by omega) (ks:=ks) (fun j k hj _ _=>.inr hj)
    obtain⟨v,_,hv⟩:=hR E b.eval w' (gN b) hrep
    have hdd:cw l.toArray q=some d:=by rw[hdq];exact hd
    refine⟨b.put (some d) v,⟨by simpa[Act.put]using hag.j9,by simpa[Act.put]using hag.size,fun k hk=>?_⟩,(tZ hF hfr hgb (Ext.refl _) (by omega) hdd hdN hpq hv).mono fun j _ h=>?_⟩
    ·have hne:k≠d:=fun e=>hk q (by omega) hfq hb (by rw[hdd,e])
     rw[jG b (by rw[hgb.size];exact hdN),if_neg hne]
     exact hag.tmp k hk
    ·rcases h with h|h
     ·exact .inl (.inl h)
     ·by_cases e:j=q
      ·exact .inr e
      ·exact .inl (.inr (by omega))
 obtain⟨b,h1,h2⟩:=key m (Nat.le_refl _)
 exact⟨b,h1,h2.mono fun j hj _=>.inr hj⟩
theorem DX(hml:m≤l.length)(hc:jH P N l.toArray σ (l.take m) ps fl t){a:Act}{w w':World}(hg:lA N m l ps E t w (fun _=>True) a w'):Is P l.toArray m fl a:=fun j o d hj hf ho hd w''=>by
 obtain⟨hl1,hl2,hdat⟩:=hc.data
 have hlen:(l.take m).length=m:=by simp;omega
 have hoj:(l.take m)[j]? =some o:=by rw[List.getElem?_take,if_pos hj];simpa using ho
 have hpj:ps[j]? =some (ps[j]'(by omega)):=by simp
 have hff:fl[j]? =some true:=by
  have:j<fl.length:=by rw[hl2,hlen];omega
  simp[this]at hf ⊢;exact hf
 have D:=hdat j _ _ _ hoj hpj hff
 obtain⟨hfix,ks,hks,hR⟩:=D.r rfl
 have hrep:=pL hg (i:=j) (by omega) (ks:=ks) (fun _ _ _ _ _=>trivial)
 obtain⟨v,hrun,hv⟩:=hR E a.eval w' (gN a) hrep
 have hdd:cw l.toArray j=some d:=by rw[(jq hoj).2.2];exact hd
 have:=hfix.Lw E w' _ _ (hg.lK j hj trivial d _ hdd hpj) hv
 rw[this];exact hrun w''
end
theorem dL{id:Nat}{l:List Oper}{t t':cn}{σ:cg}{Q:Exit→St→Prop}(m f:Nat){fl:List Bool}{ps:List PV}(hm:P.follows .mixedOrders=true)(hc:jH P N l.toArray σ (l.take m) ps fl t)(hB:(HD l.toArray f m fl&&Region.noSelect l.toArray)=true)(hml:Nat.ble m l.length=true)
  (hfr:((l.take m).all fun o=>o.dst.all fun d=>(look d t).isNone)=true) (hsub:Sub (nk (l.take m) ps t) t') (hw:WR P N L l.toArray (l.drop m) ⟨t',σ⟩ (fun s=>Q .normal s)):W P N L (.region id l.toArray true) ⟨t,σ⟩ Q:=fun F base E₀ w₀ E a w hcm hs=>by
 simp only[Bool.and_eq_true]at hB
 have hF:=B6 hB.1
 have hmle:m≤l.length:=Nat.ble_eq.mp hml
 obtain⟨hl1,hl2,hdat⟩:=hc.data
 have hlen:(l.take m).length=m:=by simp;omega
 have hfr':∀i d,i<m→cw l.toArray i=some d→look d t=none:=fun i d hi hd=>by
  have ho:(l.take m)[i]? =some ((l.take m)[i]'(by omega)):=List.getElem?_eq_getElem (by omega)
  have:=List.all_eq_true.1 hfr _ (List.mem_of_getElem? ho)
  rw[(jq ho).2.2]at hd
  rw[hd]at this
  simpa using this
 have hdst:∀i,i<m→∃d,cw l.toArray i=some d∧d<N:=fun i hi=>by
  have ho:(l.take m)[i]? =some ((l.take m)[i]'(by omega)):=List.getElem?_eq_getElem (by omega)
  have hp:ps[i]? =some (ps[i]'(by omega)):=by simp
  have hf:fl[i]? =some (fl[i]'(by omega)):=by simp
  obtain⟨d,h1,h2⟩:=(hdat i _ _ _ ho hp hf).dst
  exact⟨d,by rw[(jq ho).2.2];exact h1,h2⟩
 have hsel:∀(i:Nat) (o:Oper),l.toArray[i]? =some o→∀cs b,o.op≠ .select cs b:=fun i o ho cs b=>Region.noSelect_spec hB.2 i o cs b ho
 have main:∀(fuel:Nat) (ls:Array Bool) (a:Act) (w':World),ls.size=l.toArray.size→(∀i,m≤i→i<l.toArray.size→ls.getD i true=false)→Down l.toArray ls→fuel=bO ls m+(l.toArray.size - m)→lA N m l ps E t w (fun j=>ls.getD j true=true) a w'→
   wpAny P .any l.toArray (fun e a' w'=>nh F base N E₀ w₀ (Q e) a' w') fuel ls a w':=by
  have tJ:∀(fuel:Nat) (ls:Array Bool) (a:Act) (w':World),ls.size=l.toArray.size→(∀i,m≤i→i<l.toArray.size→ls.getD i true=false)→Down l.toArray ls→fuel=bO ls m+(l.toArray.size - m)→lA N m l ps E t w (fun j=>ls.getD j true=true) a w'→
    (∀i,i<m→fl.getD i false=false→ls.getD i true=true)→wpAny P .any l.toArray (fun e a' w'=>nh F base N E₀ w₀ (Q e) a' w') fuel ls a w':=by
   intro fuel ls a w' hsz hrest hdn hfu hg hall
   obtain⟨a₁,hag,hg1⟩:=DC hF hmle hfr' hc hg hall
   have hsat:eh F base N ⟨t',σ⟩ E a₁ w':=by
    refine⟨hs.sat.ext hg1.ext,eB.sub (fun k p hk=>?_) hsub,hg1.j9,hg1.size⟩
    rcases lN _ _ _ k p hk with⟨j,o,h1,h2,h3⟩|h'
    ·obtain⟨hj,_,h4⟩:=jq h1
     exact hg1.lK j hj trivial k p (by rw[h4];exact h2) h3
    ·exact hg1.t0 k p h'
   have dG:=hw F base E₀ w₀ E a₁ w' (hcm.on (.ext hg1.ext) (Below.iy hg1.ext hs.sat.bl)) hsat (DV fun a' w'=>nh F base N E₀ w₀ (Q .normal) a' w') m (fun a' w' hp=>hp) (fun j=>by simp)
   refine FX hF hsel (fun j hj=>(hdst j hj).imp fun _ h=>h.1) (fun a w h=>h) fuel m (l.toArray.size - m) ls a a₁ w' (by have:=hF.le;omega) (Nat.le_refl _) hsz hrest (fun i h1 h2=>by omega) hall hdn hfu hag (DX hmle hc hg1) (fun j d hj hd=>?_) (by simpa using dG)
   obtain⟨d',h1,h2⟩:=hdst j hj
   rw[hd]at h1;cases h1
   rw[hg1.size];exact h2
  intro fuel
  induction fuel with
  |zero=>
   intro ls a w' hsz hrest hdn hfu hg
   exact tJ 0 ls a w' hsz hrest hdn hfu hg (fun i hi _=>dq (m:=m) (by omega) i hi)
  |succ fuel ih=>
   intro ls a w' hsz hrest hdn hfu hg
   by_cases hall:∀i,i<m→fl.getD i false=false→ls.getD i true=true
   ·exact tJ (fuel+1) ls a w' hsz hrest hdn hfu hg hall
   ·have hle:=hF.le
    obtain⟨j0,hj0,hj1,hj2⟩:∃j0,j0<m∧fl.getD j0 false=false∧ls.getD j0 true=false:=by
     apply Classical.byContradiction
     intro hno
     refine hall fun i hi hf=>?_
     cases hb:ls.getD i true with
     |true=>rfl
     |false=>exact absurd ⟨i,hi,hf,hb⟩ hno
    have hf:∀b c (i:Nat),i<l.toArray.size→ls.getD i b=ls.getD i c:=fun b c i hi=>by simp only[Array.getD_eq_getD_getElem?];simp[show i<ls.size by omega]
    have hpos:0<bO ls m:=by
     rcases Nat.eq_zero_or_pos (bO ls m)with h|h
     ·rw[dq h j0 hj0]at hj2;cases hj2
     ·exact h
    obtain⟨i0,hi0,hi1,hi2⟩:=fQ hpos
    have hne:i0∈Region.ready .any l.toArray ls:=cH.2 ⟨by omega,hi1,fun k hk=>by
     have:=hF.lT i0 (by omega) k hk
     rw[hf false true k (by omega)];exact hi2 k this⟩
    refine⟨fun h0=>absurd hne (by rw[h0];simp),fun i hi=>?_⟩
    obtain⟨h1,h2,h3⟩:=cH.1 hi
    have him:i<m:=by
     rcases Nat.lt_or_ge i m with h'|h'
     ·exact h'
     ·have:=ez hsz hdn hF.lT f i j0 h1 (hF.Lo i h1 h' j0 (by omega) hj1) h3
      rw[hf false true j0 (by omega),hj2]at this
      cases this
    have ho:(l.take m)[i]? =some ((l.take m)[i]'(by omega)):=List.getElem?_eq_getElem (by omega)
    obtain⟨_,hoi,hdi⟩:=jq ho
    have hp:ps[i]? =some (ps[i]'(by omega)):=by simp
    have hfi:fl[i]? =some (fl[i]'(by omega)):=by simp
    have D:=hdat i _ _ _ ho hp hfi
    obtain⟨d,hd,hdN⟩:=D.dst
    obtain⟨ks,hks,hY⟩:=D.y
    have hdd:cw l.toArray i=some d:=by rw[hdi];exact hd
    have hrep:=pL hg (i:=i) (by omega) (ks:=ks) (fun j k hj hk hjd=>by
     have hlk:k∈ew l.toArray i:=by
      unfold ew;rw[hoi];exact hks k hk
     have:=h3 j (hF.rd i him k hlk j (by omega) hjd).2
     rw[hf false true j (by omega)]at this
     exact this)
    unfold wpOp
    rw[hoi]
    have hwant:Region.wanted ((l.take m)[i]'(by omega)) (yielded l.toArray a.tmps)=true:=by unfold Region.wanted;rw[hF.ng i _ hoi]
    simp only[hwant,if_true]
    left
    refine qE (hY F base E a.eval w' (gN a) (hs.sat.ext hg.ext) hrep) fun v w'' hE hv=>?_
    rw[hd]
    have hset:∀(j:Nat) b,(ls.setIfInBounds i true).getD j b=if j=i then true else ls.getD j b:=fun j b=>by
     by_cases e:i=j
     ·subst e;simp[show i<ls.size by omega]
     ·rw[if_neg (fun h=>e h.symm),Array.getD_eq_getD_getElem?,Array.getD_eq_getD_getElem?,Array.getElem?_setIfInBounds_ne e]
    refine ih _ _ w'' (by simpa using hsz) (fun j hj hj'=>by rw[hset j true,if_neg (show ¬j=i by omega)];exact hrest j hj hj') (fun j hj hj' q hq=>?_) (by have:=fO h2 him (by omega);omega) ((tZ hF hfr' hg hE him hdd hdN hp hv).mono fun j hj hjj=>?_)
    ·rw[hset]
     split
     ·rfl
     ·rw[hset]at hj
      split at hj
      ·rename_i e;subst e;exact h3 q hq
      ·exact hdn j hj hj' q hq
    ·rw[hset]at hjj
     split at hjj
     ·rename_i e;exact .inr e
     ·exact .inl hjj
 obtain⟨arr,ds⟩:=a
 refine wp_region_any hm ?_
 have hE:Ext w {w with drawn:=w.drawn+1}:=⟨rfl,rfl,rfl,Nat.le_refl _,fun _ _=>rfl⟩
 have hul:∀k,k≤l.length→bO (Array.replicate l.toArray.size false) k=k:=by
  intro k
  induction k with
  |zero=>intro _;rfl
  |succ k ih=>
   intro hk
   simp only[bO]
   rw[ih (by omega),dV _ _ (by simp;omega)]
   simp
 refine main l.toArray.size (Array.replicate l.toArray.size false) ⟨arr,ds⟩ _ (by simp) (fun i _ hi=>dV _ _ hi _) (fun i hi hi'=>?_) (by rw[hul m hmle];simp;omega) ⟨hE,hs.j9,hs.size,hs.tmp.goes (.ext hE),fun j hj hjl=>?_⟩
 ·rw[dV _ _ hi']at hi;cases hi
 ·rw[dV _ _ (by simp;omega)]at hjl;cases hjl
theorem iw{id:Nat}{l:List Oper}{y:Code}{t t':cn}{σ:cg}{Q:Exit→St→Prop}(m f:Nat){fl:List Bool}{ps:List PV}(hm:P.follows .mixedOrders=true)(hc:jH P N l.toArray σ (l.take m) ps fl t)(hB:(HD l.toArray f m fl&&Region.noSelect l.toArray)=true)(hml:Nat.ble m l.length=true)
  (hfr:((l.take m).all fun o=>o.dst.all fun d=>(look d t).isNone)=true) (hsub:Sub (nk (l.take m) ps t) t') (hw:WR P N L l.toArray (l.drop m) ⟨t',σ⟩ (fun s=>W P N L y s Q)):W P N L (.seq (.region id l.toArray true) y) ⟨t,σ⟩ Q:=aj (dL m f hm hc hB hml hfr hsub hw)
end
inductive Tr (α:Type) where
 |l
 |n (a:Tr α) (k:Nat) (v:α) (b:Tr α)
def Tr.get{α:Type}:Tr α→Nat→Option α
 | .l,_=>none
 | .n a k v b,j=>bif Nat.beq j k then some v else bif Nat.blt j k then a.get j else b.get j
inductive Tr.vI {α:Type} (R:Nat→α→Prop):Tr α→Prop
 |l:Tr.vI R .l
 |n {a b:Tr α} {k:Nat} {v:α}:Tr.vI R a→R k v→Tr.vI R b→Tr.vI R (.n a k v b)
theorem Tr.vI.get{α:Type}{R:Nat→α→Prop}{t:Tr α}(h:Tr.vI R t){j:Nat}{v:α}:t.get j=some v→R j v:=by
 induction h with
 |l=>intro h;cases h
 | @n a b k u _ hr _ iha ihb=>
  intro h
  simp only[Tr.get,Bool.cond_eq_ite]at h
  split at h
  ·rename_i he
   cases Nat.eq_of_beq_eq_true he
   cases h
   exact hr
  ·split at h
   ·exact iha h
   ·exact ihb h
structure sX where
 tk:Tr (Option Nat)
 fo:Tr Nat
 el:Tr (Nat×Nat)
 st:Tr (List (Nat×Nat)×List Value)
 sl:Tr (Nat×Nat×List Value)
 rk:Tr (Nat×Nat×Nat×List Value)
 zk:Tr (List Value)
 bk:Tr Unit
 pk:Tr Unit
 ar:Tr (Nat×Nat)
 en:Tr Unit
structure sX.Ok (P:Program) (Φ:sX):Prop where
 tk:Φ.tk.vI fun k v=>s5 P k=some v
 fo:Φ.fo.vI fun k v=>kf P (k / 100) (k % 100)=some v
 el:Φ.el.vI fun k v=>yw P k=some v
 st:Φ.st.vI fun k v=>KN P k=some v
 sl:Φ.sl.vI fun k v=>IQ P k=some v
 rk:Φ.rk.vI fun k v=>wC P k=some v
 zk:Φ.zk.vI fun k v=>xV P k=some v
 bk:Φ.bk.vI fun k _=>tc P k=true
 pk:Φ.pk.vI fun k _=>pr P k=true
 ar:Φ.ar.vI fun k v=>KC P k=some v
 en:Φ.en.vI fun k _=>enters P k=true
class Has (P:Program) (Φ:outParam sX):Prop where
 ok:sX.Ok P Φ
def force{α:Type}:List α→Option (List α)
 | []=>some []
 |x::l=>match force l with
  |some r=>some (x::r)
  |none=>none
theorem force_eq{α:Type}:∀ {l r:List α},force l=some r→l=r
 | [],r,h=>by cases h;rfl
 |x::l,r,h=>by
  simp only[force]at h
  split at h
  ·rename_i r' hr
   cases h
   rw[force_eq hr]
  ·cases h
def G8(xs:List PV)(k:Nat):Nat→Option (List PV)
 |0=>some []
 |n+1=>match xs[k]? with
  |some p=>match G8 xs (k+1) n with
   |some r=>some (p::r)
   |none=>none
  |none=>none
theorem Ak{xs:List PV}:∀ {n k:Nat} {ys:List PV},G8 xs k n=some ys→(xs.drop k).take n=ys∧ys.length=n
 |0,k,ys,h=>by cases h;simp
 |n+1,k,ys,h=>by
  simp only[G8]at h
  split at h
  ·rename_i p hp
   split at h
   ·rename_i r hr
    cases h
    obtain⟨h1,h2⟩:=Ak hr
    have hlt:=(List.getElem?_eq_some_iff.1 hp).1
    have hx:xs[k]=p:=by rw[List.getElem?_eq_getElem hlt]at hp;exact Option.some.inj hp
    refine⟨?_,by simp[h2]⟩
    rw[List.drop_eq_getElem_cons hlt,List.take_succ_cons,h1,hx]
   ·cases h
  ·cases h
def part(xs:List PV)(k n:Nat):Option PV:=bif Nat.beq k 0&&Nat.beq xs.length n then some (.agg xs) else match G8 xs k n with
 |some ys=>some (.agg ys)
 |none=>none
def Kv(op:BinOp)(a b:Int):Option PV:=
 match op with
 | .lss=>some (.raw (.bool (decide (a<b))))
 | .leq=>some (.raw (.bool (decide (a≤b))))
 | .gtr=>some (.raw (.bool (decide (b<a))))
 | .geq=>some (.raw (.bool (decide (b≤a))))
 | .eql=>some (.raw (.bool (decide (a=b))))
 | .neq=>some (.raw (.bool (decide (a≠b))))
 |_=>none
def JE(Φ:sX)(op:BinOp)(ty:TypeId):PV→PV→Option PV
 | .raw (.int .i64 a),.raw (.int .i64 b)=>Kv op a b
 | .raw (.bool a),.raw (.bool b)=>match Φ.bk.get ty with
  |some _=>match op with
   | .eql=>some (.raw (.bool (a==b)))
   | .neq=>some (.raw (.bool (!(a==b))))
   |_=>none
  |none=>none
 | .ptr _ _,.raw (.pointer none)=>match Φ.pk.get ty with
  |some _=>match op with
   | .eql=>some (.raw (.bool false))
   | .neq=>some (.raw (.bool true))
   |_=>none
  |none=>none
 | .bb _ _,.raw (.pointer none)=>match Φ.pk.get ty with
  |some _=>match op with
   | .eql=>some (.raw (.bool false))
   |_=>none
  |none=>none
 |_,_=>none
def ga(Φ:sX)(σ:cg)(t:cn):Op→Option PV
  | .move x=>aG t x
  | .assign x=>aG t x
  | .pick c a b=>match aG t c with
    |some (.raw (.bool true))=>aG t a
    |some (.raw (.bool false))=>aG t b
    |_=>none
  | .unOp .not _ x=>match aG t x with
    |some (.raw (.bool q))=>some (.raw (.bool (!q)))
    |_=>none
  | .binOp op ty x y _=>match aG t x with
    |some p=>match aG t y with
      |some q=>JE Φ op ty p q
      |none=>none
    |none=>none
  | .nilCheck x=>match aG t x with
    |some (.bb xs k)=>some (.bb xs k)
    |some (.ptr i k)=>some (.ptr i k)
    |some (.func f c)=>some (.func f c)
    |_=>none
  | .fieldAddr s x f=>bif Nat.blt f 100 then match Φ.fo.get (s*100+f)with
      |some off=>match aG t x with
        |some (.bb xs k)=>some (.bb xs (k+off))
        |some (.ptr i k)=>some (.ptr i (k+off))
        |_=>none
      |none=>none
    else none
  | .load ty x=>match Φ.tk.get ty with
    |some none=>match aG t x with
      |some (.bb xs k)=>xs[k]?
      |some (.ptr i k)=>match σ[i]? with
        |some (some blk)=>blk.xs[k]?
        |_=>none
      |_=>none
    |some (some n)=>match aG t x with
      |some (.bb xs k)=>part xs k n
      |some (.ptr i k)=>match σ[i]? with
        |some (some blk)=>part blk.xs k n
        |_=>none
      |_=>none
    |none=>none
  | .extract x k=>match aG t x with
    |some (.tuple xs)=>xs[k]?
    |_=>none
  | .makeFunc fn fs cs=>match fn with
    | .func f=>match fs.toList with
      | []=>match iC t cs.toList with
        |some xs=>some (.func f xs)
        |none=>none
      |_=>none
    |_=>none
  | .box _ x=>match aG t x with
    |some p=>match ma p with
      |some xs=>some (.bb xs 0)
      |none=>none
    |none=>none
  | .build ty parts=>match Φ.st.get ty with
    |some (pl,z)=>match iz t parts.toList with
      |some ps=>match kA (pl[·]?) (z.map .raw) ps with
        |some xs=>match force xs with
          |some ys=>some (.agg ys)
          |none=>none
        |none=>none
      |none=>none
    |none=>none
  | .buildSlice ty n parts=>match Φ.sl.get ty with
    | some (_, s, z) => bif Nat.blt 0 n && Nat.ble (n * s) 16777216 then match iz t parts.toList with
        |some ps=>match kA (fun i=>some (i*s,s)) (dS (z.map .raw) n) ps with
          |some xs=>match force xs with
            |some ys=>some (.slice n ys)
            |none=>none
          |none=>none
        |none=>none
      else bif Nat.beq n 0&&Nat.beq parts.size 0 then some (.slice 0 []) else none
    |none=>none
  | .call c=>match c.callee with
    | .builtin .len=>match c.args.toList,c.argTypes.toList with
      | [x],[ty]=>match Φ.el.get ty with
        |some _=>match aG t x with
          |some (.slice n _)=>some (.raw (.int .i64 n))
          |some (.raw (.slice none 0 0))=>some (.raw (.int .i64 0))
          |some (.own m)=>match σ[m]? with
            |some (some (.row _ _ n _))=>some (.raw (.int .i64 n))
            |_=>none
          |_=>none
        |none=>none
      |_,_=>none
    |_=>none
  |_=>none
section
variable {P:Program} {σ:cg} {t:cn} {o:Oper} {Φ:sX}
theorem vM{xs:List PV}{k n:Nat}{p:PV}(h:part xs k n=some p):∃ys,p= .agg ys∧(xs.drop k).take n=ys∧ys.length=n:=by
 unfold part at h
 rw[Bool.cond_eq_ite]at h
 split at h
 ·rename_i hc
  simp only[Bool.and_eq_true]at hc
  have h1:=Nat.eq_of_beq_eq_true hc.1
  have h2:=Nat.eq_of_beq_eq_true hc.2
  subst h1
  cases h
  exact⟨xs,rfl,by rw[List.drop_zero,←h2,List.take_length],h2⟩
 ·split at h
  ·rename_i ys hy
   cases h
   exact⟨ys,rfl,Ak hy⟩
  ·cases h
theorem JG(hΦ:Φ.Ok P){op:BinOp}{x y:Operand}{ty tz:TypeId}{p q r:PV}(ho:o.op= .binOp op ty x y tz)(hx:aG t x=some p)(hy:aG t y=some q)(h:JE Φ op ty p q=some r):bE P σ t o r:=by
 unfold JE at h
 split at h
 ·unfold Kv at h
  split at h<;>first|(cases h;done)|skip
  ·cases h;exact Kc ho hx hy rfl
  ·cases h;exact JT ho hx hy rfl
  ·cases h;exact Ky ho hx hy rfl
  ·cases h;exact AT ho hx hy rfl
  ·cases h;exact D8 ho hx hy rfl
  ·cases h;exact Kh ho hx hy rfl
 ·split at h
  ·rename_i u hu
   have hb:=hΦ.bk.get hu
   split at h
   ·cases h;exact Cj ho hb hx hy rfl
   ·cases h;exact Bo ho hb hx hy rfl
   ·cases h
  ·cases h
 ·split at h
  ·rename_i u hu
   have hb:=hΦ.pk.get hu
   split at h
   ·cases h;exact sI ho hb hx hy
   ·cases h;exact FQ ho hb hx hy
   ·cases h
  ·cases h
 ·split at h
  ·rename_i u hu
   have hb:=hΦ.pk.get hu
   split at h
   ·cases h;exact DI ho hb hx hy
   ·cases h
  ·cases h
 ·cases h
theorem vz{α:Type}{a:Array α}{l:List α}(h:a.toList=l):a=l.toArray:=by rw[←h]
theorem FR(s f:Nat):(s*100+f) / 100=s+f / 100∧(s*100+f) % 100=f % 100:=by omega
theorem mb(hΦ:Φ.Ok P){op:Op}{p:PV}(ho:o.op=op)(h:ga Φ σ t op=some p):bE P σ t o p:=by
 unfold ga at h
 split at h
 ·exact fV ho h
 ·exact eS ho h
 ·split at h
  ·rename_i hc;exact GB ho hc h
  ·rename_i hc;exact HT ho hc h
  ·cases h
 ·split at h
  ·rename_i hc;cases h;exact KB ho hc
  ·cases h
 ·split at h
  ·rename_i p' hp
   split at h
   ·rename_i q' hq;exact JG hΦ ho hp hq h
   ·cases h
  ·cases h
 ·split at h
  ·rename_i hc;cases h;exact DF ho hc
  ·rename_i hc;cases h;exact jD ho hc
  ·rename_i hc;cases h;exact BI ho hc
  ·cases h
 ·rename_i s x f
  rw[Bool.cond_eq_ite]at h
  split at h
  ·rename_i hf100
   have hf100:=Nat.blt_eq.mp hf100
   split at h
   ·rename_i off hof
    have hf:=hΦ.fo.get hof
    obtain⟨e1,e2⟩:=FR s f
    rw[e1,e2,Nat.div_eq_of_lt hf100,Nat.mod_eq_of_lt hf100,Nat.add_zero]at hf
    split at h
    ·rename_i hc;cases h;exact yN ho hf hc
    ·rename_i hc;cases h;exact Ac ho hf hc
    ·cases h
   ·cases h
  ·cases h
 ·split at h
  ·rename_i htk
   have hk:=hΦ.tk.get htk
   split at h
   ·rename_i hc;exact tT ho hk hc h
   ·rename_i hc
    split at h
    ·rename_i hi;exact aR ho hk hc hi h
    ·cases h
   ·cases h
  ·rename_i n htk
   have hk:=hΦ.tk.get htk
   split at h
   ·rename_i hc
    obtain⟨ys,rfl,h1,h2⟩:=vM h
    exact ja ho hk hc h1 h2
   ·rename_i hc
    split at h
    ·rename_i hi
     obtain⟨ys,rfl,h1,h2⟩:=vM h
     exact fh ho hk hc hi h1 h2
    ·cases h
   ·cases h
  ·cases h
 ·split at h
  ·rename_i hc;exact CI ho hc h
  ·cases h
 ·split at h
  ·split at h
   ·rename_i hfs
    split at h
    ·rename_i hc
     cases h
     rw[vz hfs]at ho
     exact ef ho hc
    ·cases h
   ·cases h
  ·cases h
 ·split at h
  ·rename_i hc
   split at h
   ·rename_i hx;cases h;exact EB ho hc hx
   ·cases h
  ·cases h
 ·split at h
  ·rename_i hst
   have hk:=hΦ.st.get hst
   split at h
   ·rename_i hps
    split at h
    ·rename_i hf
     split at h
     ·rename_i hfo
      cases h
      cases force_eq hfo
      exact iZ ho hk hps hf
     ·cases h
    ·cases h
   ·cases h
  ·cases h
 ·split at h
  ·rename_i hsl
   have hk:=hΦ.sl.get hsl
   rw[Bool.cond_eq_ite]at h
   split at h
   ·rename_i hn
    simp only[Bool.and_eq_true,Nat.blt_eq,Nat.ble_eq]at hn
    split at h
    ·rename_i hps
     split at h
     ·rename_i hf
      split at h
      ·rename_i hfo
       cases h
       cases force_eq hfo
       exact aV ho hk hn hps hf
      ·cases h
     ·cases h
    ·cases h
   ·rw[Bool.cond_eq_ite]at h
    split at h
    ·rename_i hn
     simp only[Bool.and_eq_true]at hn
     have h1:=Nat.eq_of_beq_eq_true hn.1
     have h2:=Nat.eq_of_beq_eq_true hn.2
     subst h1
     have h3:=Array.eq_empty_of_size_eq_zero h2
     rw[h3]at ho
     cases h
     exact vH ho hk
    ·cases h
  ·cases h
 ·rename_i c
  split at h
  ·rename_i hcal
   split at h
   ·rename_i x ty hax hat
    split at h
    ·rename_i hel
     have hk:=hΦ.el.get hel
     have ho':o.op= .call {callee:=.builtin .len,args:= #[x],argTypes:= #[ty]}:=by
      rw[ho]
      obtain⟨c1,c2,c3⟩:=c
      simp only at hcal hax hat
      rw[hcal,vz hax,vz hat]
     split at h
     ·rename_i hc;cases h;exact zM ho' hk hc
     ·rename_i hc;cases h;exact qX ho' hk hc
     ·rename_i hc
      split at h
      ·rename_i hi;cases h;exact nQ ho' hk hc hi
      ·cases h
     ·cases h
    ·cases h
   ·cases h
  ·cases h
 ·cases h
theorem qb{t':cn}:∀ {l:List Operand},(∀x∈l,aG t' x=aG t x)→iC t' l=iC t l
 | [],_=>rfl
 |x::l,h=>by simp only[iC,h x (List.mem_cons_self ..),qb (fun y hy=>h y (List.mem_cons_of_mem _ hy))]
theorem lU{t':cn}:∀ {l:List (Nat×Operand)},(∀x∈l,aG t' x.2=aG t x.2)→iz t' l=iz t l
 | [],_=>rfl
 |(i,x)::l,h=>by simp only[iz,h (i,x) (List.mem_cons_self ..),lU (fun y hy=>h y (List.mem_cons_of_mem _ hy))]
theorem yp{t':cn}(op:Op)(h:∀x∈op.operands,aG t' x=aG t x):ga Φ σ t' op=ga Φ σ t op:=by
 cases op with
 |move x=>exact h x (by simp[Op.operands])
 |assign x=>exact h x (by simp[Op.operands])
 |pick c a b=>simp only[ga,h c (by simp[Op.operands]),h a (by simp[Op.operands]),h b (by simp[Op.operands])]
 |unOp u ty x=>cases u<;>simp only[ga,h x (by simp[Op.operands])]
 |binOp b ty x y tz=>simp only[ga,h x (by simp[Op.operands]),h y (by simp[Op.operands])]
 |nilCheck x=>simp only[ga,h x (by simp[Op.operands])]
 |fieldAddr s x f=>simp only[ga,h x (by simp[Op.operands])]
 |load ty x=>simp only[ga,h x (by simp[Op.operands])]
 |extract x k=>simp only[ga,h x (by simp[Op.operands])]
 |box ty x=>simp only[ga,h x (by simp[Op.operands])]
 |makeFunc fn fs cs=>
  have:iC t' cs.toList=iC t cs.toList:=qb fun x hx=>h x (by simp only[Op.operands];exact Array.mem_append_right _ (by simpa using hx))
  simp only[ga,this]
 |build ty ps=>
  have:iz t' ps.toList=iz t ps.toList:=lU fun x hx=>h x.2 (by simp only[Op.operands,List.mem_toArray,List.mem_map];exact⟨x,hx,rfl⟩)
  simp only[ga,this]
 |buildSlice ty n ps=>
  have:iz t' ps.toList=iz t ps.toList:=lU fun x hx=>h x.2 (by simp only[Op.operands,List.mem_toArray,List.mem_map];exact⟨x,hx,rfl⟩)
  simp only[ga,this]
 |call c=>
  simp only[ga]
  split
  ·split
   ·rename_i x ty hax _
    rw[h x (by simp only[Op.operands,Call.operands];exact Array.mem_append_right _ (by rw[vz hax];simp))]
   ·rfl
  ·rfl
 |_=>rfl
theorem yj{ks:List Nat}{k:Nat}(h:k∈ks):look k (gT t ks)=look k t:=by
 cases e:look k (gT t ks)with
 |some p=>exact((jf ks k p e).2).symm
 |none=>
  induction ks with
  |nil=>cases h
  |cons j ks ih=>
   simp only[gT]at e
   by_cases hjk:k=j
   ·subst hjk
    cases hl:look k t with
    |none=>rfl
    |some p=>rw[hl]at e;simp[look,Nat.beq_refl]at e
   ·have hm:k∈ks:=by cases h with|head=>exact absurd rfl hjk|tail _ hh=>exact hh
    split at e
    ·have hb:Nat.beq k j=false:=by rw[Bool.eq_false_iff];exact fun hh=>hjk (Nat.eq_of_beq_eq_true hh)
     simp only[look,hb,cond_false]at e
     exact ih hm e
    ·exact ih hm e
theorem vT{ks:List Nat}{x:Operand}(h:∀k,x= .tmp k→k∈ks):aG (gT t ks) x=aG t x:=by
 cases x with
 |tmp k=>exact yj (h k rfl)
 |_=>rfl
def Ec(Φ:sX)(N:Nat)(ops:Array Oper)(σ:cg)(t:cn)(o:Oper):Option (Nat×PV):=
 match o.dst with
 |some d=>bif Nat.blt d N then match fk ops t o with
   |some true=>match ga Φ σ t o.op with
    |some p=>some (d,p)
    |none=>none
   |some false=>some (d,.raw undef)
   |none=>none
  else none
 |none=>none
def EZ(Φ:sX)(N:Nat)(ops:Array Oper)(σ:cg):Nat→List Oper→cn→Option (List Oper×cn)
 |0,l,t=>some (l,t)
 |_+1,[],_=>none
 |n+1,o::l,t=>match Ec Φ N ops σ t o with
  |some x=>EZ Φ N ops σ n l (x::t)
  |none=>none
variable {N L:Nat} {ops:Array Oper}
theorem fB.a[hP:Has P Φ](n:Nat){l l':List Oper}{u t':cn}(h:EZ Φ N ops σ n l t=some (l',u))(k:fB P N ops σ l' u t'):fB P N ops σ l t t':=by
 induction n generalizing l t with
 |zero=>cases h;exact k
 |succ n ih=>
  cases l with
  |nil=>cases h
  |cons o l=>
   simp only[EZ]at h
   split at h
   ·rename_i x hx
    have kk:=ih h
    unfold Ec at hx
    split at hx
    ·rename_i d hd
     rw[Bool.cond_eq_ite]at hx
     split at hx
     ·rename_i hN
      split at hx
      ·rename_i hw
       split at hx
       ·rename_i p hp
        cases hx
        exact .val (mb hP.ok rfl hp) hd hw hN kk
       ·cases hx
      ·rename_i hw
       cases hx
       exact .skip hd hw hN kk
      ·cases hx
     ·cases hx
    ·cases hx
   ·cases h
theorem ee.a[hP:Has P Φ](n:Nat){l l':List Oper}{u t':cn}(h:EZ Φ N ops σ n l t=some (l',u))(k:ee P N ops σ l' u t'):ee P N ops σ l t t':=by
 induction n generalizing l t with
 |zero=>cases h;exact k
 |succ n ih=>
  cases l with
  |nil=>cases h
  |cons o l=>
   simp only[EZ]at h
   split at h
   ·rename_i x hx
    have kk:=ih h
    unfold Ec at hx
    split at hx
    ·rename_i d hd
     rw[Bool.cond_eq_ite]at hx
     split at hx
     ·rename_i hN
      split at hx
      ·rename_i hw
       split at hx
       ·rename_i p hp
        cases hx
        refine .val (o.looksAt ops) (by simp) (mb hP.ok rfl (op:=o.op) ?_) hd hw hN kk
        rw[yp,hp]
        intro x hx
        refine vT fun k hk=>?_
        subst hk
        exact List.mem_append_left _ (List.mem_filterMap.2 ⟨.tmp k,by simpa using hx,rfl⟩)
       ·cases hx
      ·rename_i hw
       cases hx
       exact .skip hd hw hN kk
      ·cases hx
     ·cases hx
    ·cases hx
   ·cases h
def dk(N:Nat)(ops:Array Oper)(t:cn)(o:Oper):Option Nat:=
 match o.dst with
 |some d=>bif Nat.blt d N then match fk ops t o with
   |some true=>some d
   |_=>none
  else none
 |none=>none
theorem fj{d:Nat}(h:dk N ops t o=some d):o.dst=some d∧fk ops t o=some true∧Nat.blt d N=true:=by
 unfold dk at h
 split at h
 ·rename_i d' hd
  rw[Bool.cond_eq_ite]at h
  split at h
  ·rename_i hN
   split at h
   ·rename_i hw;cases h;exact⟨hd,hw,hN⟩
   ·cases h
  ·cases h
 ·cases h
theorem fB.v{rest:List Oper}{t':cn}{d:Nat}{p:PV}(hy:bE P σ t o p)(h:dk N ops t o=some d)(k:fB P N ops σ rest ((d,p)::t) t'):fB P N ops σ (o::rest) t t':=.val hy (fj h).1 (fj h).2.1 (fj h).2.2 k
theorem ee.v{rest:List Oper}{t':cn}{d:Nat}{p:PV}(ks:List Nat)(hy:bE P σ (gT t ks) o p)(hk:(ks.all fun k=>(o.looksAt ops).contains k)=true)(h:dk N ops t o=some d)(k:ee P N ops σ rest ((d,p)::t) t'):ee P N ops σ (o::rest) t t':=.val ks hk hy (fj h).1 (fj h).2.1 (fj h).2.2 k
theorem bw{rest:List Oper}{K:St→Prop}{d:Nat}{p:PV}(hy:bE P σ t o p)(h:dk N ops t o=some d)(k:WR P N L ops rest ⟨(d,p)::t,σ⟩ K):WR P N L ops (o::rest) ⟨t,σ⟩ K:=bJ hy (fj h).1 (fj h).2.1 (fj h).2.2 k
theorem b7{rest:List Oper}{σ':cg}{K:St→Prop}{d:Nat}{p:PV}(hy:cq P σ t o p σ')(h:dk N ops t o=some d)(k:WR P N L ops rest ⟨(d,p)::t,σ'⟩ K):WR P N L ops (o::rest) ⟨t,σ⟩ K:=dM hy (fj h).1 (fj h).2.1 (fj h).2.2 k
def iX(t:cn):List Nat→Option cn
 | []=>some []
 |k::ks=>match look k t with
  |some p=>match iX t ks with
   |some r=>some ((k,p)::r)
   |none=>none
  |none=>none
theorem aY:∀ {ks:List Nat} {u:cn},iX t ks=some u→Sub t u
 | [],u,h=>by cases h;exact Sub.nil _
 |k::ks,u,h=>by
  simp only[iX]at h
  split at h
  ·rename_i p hp
   split at h
   ·rename_i r hr
    cases h
    exact .cons hp (aY hr)
   ·cases h
  ·cases h
theorem fB.k(ks:List Nat){u:cn}(h:iX t ks=some u):fB P N ops σ [] t u:=.nil (aY h)
theorem ee.k(ks:List Nat){u:cn}(h:iX t ks=some u):ee P N ops σ [] t u:=.nil (aY h)
theorem eH{c:Code}{Q:Exit→St→Prop}(ks:List Nat){u:cn}(h:iX t ks=some u)(k:W P N L c ⟨u,σ⟩ Q):W P N L c ⟨t,σ⟩ Q:=ln (aY h) k
theorem aE{K:St→Prop}(ks:List Nat){u:cn}(h:iX t ks=some u)(k:K ⟨u,σ⟩):WR P N L ops [] ⟨t,σ⟩ K:=yV (aY h) (bp k)
def Ia:cg→Option Nat
 | []=>some 0
 |_::l=>match Ia l with
  |some n=>some (n+1)
  |none=>none
theorem A9:∀ {s:cg} {n:Nat},Ia s=some n→s.length=n
 | [],n,h=>by cases h;rfl
 |_::l,n,h=>by
  simp only[Ia]at h
  split at h
  ·rename_i m hm;cases h;simp[A9 hm]
  ·cases h
def Gd:PV→Bool
 | .raw (.int _ _)=>true
 | .raw (.bool _)=>true
 | .raw (.string _)=>true
 | .raw (.slice _ _ _)=>true
 | .raw (.pointer _)=>true
 | .slice _ _=>true
 | .bb _ _=>true
 | .func _ _=>true
 | .ptr _ _=>true
 | .own _=>true
 |_=>false
theorem Eg{p:PV}(h:Gd p=true):gm p:=by
 unfold Gd at h
 split at h<;>first|infer_instance|cases h
theorem Fg{xs:List PV}(h:xs.all Gd=true):dD xs:=⟨fun i u hu=>Eg (List.all_eq_true.1 h u (List.mem_of_getElem? hu))⟩
def ym(Φ:sX)(t:cn)(σ:cg):Op→Option (PV×cg)
  | .alloc ty=>match Φ.zk.get ty with
    |some z=>match force (z.map PV.raw)with
      |some z'=>match Ia σ with
        |some n=>match force (σ++[some (.cells ty z')])with
          |some s=>some (.ptr n 0,s)
          |none=>none
        |none=>none
      |none=>none
    |none=>none
  | .store ty x y=>match Φ.tk.get ty with
    | some k => match aG t x with
      | some (.ptr i off) => match aG t y with
        | some p => match σ[i]? with
          | some (some blk) => match ma p with
            |some ys=>match force ys with
              |some ys=>bif Nat.beq ys.length (k.getD 1)&&(Nat.ble (off+ys.length) blk.xs.length&&ys.all Gd) then match force (over blk.xs off ys)with
                  |some zs=>match force (σ.set i (some (blk.qa zs)))with
                    |some s=>some (.raw undef,s)
                    |none=>none
                  |none=>none
                else none
              |none=>none
            |none=>none
          |_=>none
        |none=>none
      |_=>none
    |none=>none
  |_=>none
theorem sx(hΦ : Φ.Ok P){op : Op}{p : PV}{σ' : cg}(ho : o.op = op)(h : ym Φ t σ op = some (p, σ')) : cq P σ t o p σ' := by
  unfold ym at h
  split at h
  · split at h
    · rename_i hz
      split at h
      · rename_i hz'
        cases force_eq hz'
        split at h
        · rename_i hl
          cases A9 hl
          split at h
          · rename_i hs
            cases force_eq hs
            cases h
            exact nd ho (hΦ.zk.get hz)
          · cases h
        · cases h
      · cases h
    · cases h
  · split at h
    · rename_i hk
      split at h
      · rename_i hx
        split at h
        · rename_i hy
          split at h
          · rename_i hi
            split at h
            · rename_i hc
              split at h
              · rename_i hf
                cases force_eq hf
                rw[Bool.cond_eq_ite]at h
                split at h
                · rename_i hb
                  simp only[Bool.and_eq_true,Nat.ble_eq]at hb
                  have h1:=Nat.eq_of_beq_eq_true hb.1
                  haveI:=Fg hb.2.2
                  split at h
                  · rename_i hz
                    cases force_eq hz
                    split at h
                    · rename_i hs
                      cases force_eq hs
                      cases h
                      exact mQ ho (hΦ.tk.get hk) hx hy hc h1 hi hb.2.1
                    · cases h
                  · cases h
                · cases h
              · cases h
            · cases h
          · cases h
        · cases h
      · cases h
    · cases h
  · cases h
def Ir(Φ:sX)(N:Nat)(ops:Array Oper)(t:cn)(σ:cg)(o:Oper):Option (cn×cg):=
 match fk ops t o with
 |some true=>match o.dst with
  |some d=>bif Nat.blt d N then match ga Φ σ t o.op with
    |some p=>some ((d,p)::t,σ)
    |none=>match ym Φ t σ o.op with
     |some (p,s)=>some ((d,p)::t,s)
     |none=>none
   else none
  |none=>match ym Φ t σ o.op with
   |some (_,s)=>some (t,s)
   |none=>none
 |some false=>match o.dst with
  |some d=>bif Nat.blt d N then some ((d,.raw undef)::t,σ) else none
  |none=>none
 |none=>none
def Jt(Φ:sX)(N:Nat)(ops:Array Oper):Nat→List Oper→cn→cg→Option (List Oper×cn×cg)
 |0,l,t,σ=>some (l,t,σ)
 |_+1,[],_,_=>none
 |n+1,o::l,t,σ=>match Ir Φ N ops t σ o with
  |some (t',σ')=>Jt Φ N ops n l t' σ'
  |none=>none
theorem aw[hP:Has P Φ](n:Nat){l l':List Oper}{u:cn}{σ':cg}{K:St→Prop}(h:Jt Φ N ops n l t σ=some (l',u,σ'))(k:WR P N L ops l' ⟨u,σ'⟩ K):WR P N L ops l ⟨t,σ⟩ K:=by
 induction n generalizing l t σ with
 |zero=>cases h;exact k
 |succ n ih=>
  cases l with
  |nil=>cases h
  |cons o l=>
   simp only[Jt]at h
   split at h
   ·rename_i t' s' hx
    have kk:=ih h
    unfold Ir at hx
    split at hx
    ·rename_i hw
     split at hx
     ·rename_i d hd
      rw[Bool.cond_eq_ite]at hx
      split at hx
      ·rename_i hN
       split at hx
       ·rename_i p hp
        cases hx
        exact bJ (mb hP.ok rfl hp) hd hw hN kk
       ·split at hx
        ·rename_i hs
         cases hx
         exact dM (sx hP.ok rfl hs) hd hw hN kk
        ·cases hx
      ·cases hx
     ·rename_i hd
      split at hx
      ·rename_i hs
       cases hx
       exact bc (sx hP.ok rfl hs) hd hw kk
      ·cases hx
    ·rename_i hw
     split at hx
     ·rename_i d hd
      rw[Bool.cond_eq_ite]at hx
      split at hx
      ·rename_i hN
       cases hx
       exact Aj hd hw hN kk
      ·cases hx
     ·cases hx
    ·cases hx
   ·cases h
def nY(Φ:sX)(t:cn):Op→Option (Nat×List PV)
  | .call c=>match c.callee with
    | .value x=>match aG t x with
      | some (.func f cap) => match Φ.en.get f with
        |some _=>match iC t c.args.toList with
          |some ps=>match cap with
            | []=>some (f,ps)
            |q::cap=>match force (ps++(q::cap))with
              |some qs=>some (f,qs)
              |none=>none
          |none=>none
        |none=>none
      |_=>none
    |_=>none
  |_=>none
theorem kZ(hΦ:Φ.Ok P){op:Op}{f:Nat}{ps:List PV}(h:nY Φ t op=some (f,ps)):∃x args ats cap qs,op= .call {callee:=.value x,args:=args,argTypes:=ats}∧enters P f=true∧aG t x=some (.func f cap)∧iC t args.toList=some qs∧qs++cap=ps:=by
 unfold nY at h
 split at h
 ·rename_i c
  obtain⟨c1,c2,c3⟩:=c
  split at h
  ·rename_i x hx
   simp only at hx
   subst hx
   split at h
   ·rename_i hf
    split at h
    ·rename_i hen
     split at h
     ·rename_i qs hq
      split at h
      ·cases h;exact⟨_,_,_,_,_,rfl,hΦ.en.get hen,hf,hq,by simp⟩
      ·split at h
       ·rename_i hfo
        cases h;exact⟨_,_,_,_,_,rfl,hΦ.en.get hen,hf,hq,force_eq hfo⟩
       ·cases h
     ·cases h
    ·cases h
   ·cases h
  ·cases h
 ·cases h
theorem dU[hP:Has P Φ]{f:Nat}{ps:List PV}{r:PV}(h:nY Φ t o.op=some (f,ps))(hc:Can P f ps (· =r))[hp:aL ps]:bE P σ t o r:=by
 obtain⟨x,args,ats,cap,qs,ho,hen,hx,hq,rfl⟩:=kZ hP.ok h
 exact sh ho hen hx hq hc
theorem I2[hP:Has P Φ]{f:Nat}{ps qs:List PV}{r:PV}(h:nY Φ t o.op=some (f,ps))(hq:ah σ ps qs)(hc:Can P f qs (· =r))[hp:o4 r]:bE P σ t o r:=by
 obtain⟨x,args,ats,cap,ps',ho,hen,hx,he,rfl⟩:=kZ hP.ok h
 exact GJ ho hen hx he hq hc
theorem s4[hP:Has P Φ]{f:Nat}{ps qs:List PV}{r:PV}(h:nY Φ t o.op=some (f,ps))(hq:ah [] ps qs)(hc:Can P f qs (· =r)):bE P σ t o r:=by
 obtain⟨x,args,ats,cap,ps',ho,hen,hx,he,rfl⟩:=kZ hP.ok h
 exact HL ho hen hx he hq hc
theorem fB.c[Has P Φ]{rest:List Oper}{t':cn}{d f:Nat}{ps:List PV}{r:PV}(h:nY Φ t o.op=some (f,ps))(hc:Can P f ps (· =r))(hd:dk N ops t o=some d)(k:fB P N ops σ rest ((d,r)::t) t')[aL ps]:fB P N ops σ (o::rest) t t':=.v (dU h hc) hd k
theorem eW[Has P Φ]{rest:List Oper}{K:St→Prop}{d f:Nat}{ps:List PV}{r:PV}(h:nY Φ t o.op=some (f,ps))(hc:Can P f ps (· =r))(hd:dk N ops t o=some d)(k:WR P N L ops rest ⟨(d,r)::t,σ⟩ K)[aL ps]:WR P N L ops (o::rest) ⟨t,σ⟩ K:=bw (dU h hc) hd k
theorem cN[hP:Has P Φ]{rest:List Oper}{K:St→Prop}{d f:Nat}{ps:List PV}(h:nY Φ t o.op=some (f,ps))(hd:dk N ops t o=some d)(hc:bU P f ps σ (fun r σ'=>WR P N L ops rest ⟨(d,r)::t,σ'⟩ K)):WR P N L ops (o::rest) ⟨t,σ⟩ K:=by
 obtain⟨x,args,ats,cap,ps',ho,hen,hx,he,rfl⟩:=kZ hP.ok h
 exact wg ho hen hx he (fj hd).1 (fj hd).2.1 (fj hd).2.2 hc
theorem cf[hP:Has P Φ]{b q:Bool}(h:ga Φ σ t o.op=some (.raw (.bool b)))(hq:b=q):bE P σ t o (.raw (.bool q)):=by subst hq;exact mb hP.ok rfl h
def Lr(t:cn):Op→Option Int
 | .binOp op _ x y _=>match aG t x with
  |some (.raw (.int .i64 a))=>match aG t y with
   |some (.raw (.int .i64 b))=>match op with
    | .add=>some (a+b)
    | .sub=>some (a - b)
    | .mul=>some (a*b)
    |_=>none
   |_=>none
  |_=>none
 |_=>none
theorem aU{a:Int}(h:Lr t o.op=some a){c:Int}(hc:a=c:=by exact rfl)(hn:In64 c:=by unfold In64;omega):bE P σ t o (.raw (.int .i64 c)):=by
 subst hc
 unfold Lr at h
 split at h
 ·rename_i ho
  split at h
  ·rename_i hx
   split at h
   ·rename_i hy
    split at h
    ·cases h;exact Ko ho hx hy rfl hn
    ·cases h;exact Km ho hx hy rfl hn
    ·cases h;exact J2 ho hx hy rfl hn
    ·cases h
   ·cases h
  ·cases h
 ·cases h
def Ls(Φ:sX)(σ:cg)(t:cn):Op→Option (Int×Nat×Nat×(Nat→PV))
 | .indexAddr ty x ix=>match aG t ix with
  |some (.raw (.int _ i))=>match Φ.el.get ty with
   |some (_,s)=>match aG t x with
    |some (.slice n xs)=>some (i,n,s,fun j=>.bb xs j)
    |some (.own m)=>match σ[m]? with
     |some (some (.row _ _ n _))=>some (i,n,s,fun j=>.ptr m j)
     |_=>none
    |_=>none
   |none=>match Φ.ar.get ty with
    |some (n,s)=>match aG t x with
     |some (.bb xs off)=>some (i,n,s,fun j=>.bb xs (off+j))
     |_=>none
    |none=>none
  |_=>none
 |_=>none
theorem aN[hP:Has P Φ]{i:Int}{n s:Nat}{g:Nat→PV}(j:Nat)(h:Ls Φ σ t o.op=some (i,n,s,g))(h0:0≤i:=by omega)(h1:i<n:=by omega)(hj:i.toNat*s=j:=by omega):bE P σ t o (g j):=by
 unfold Ls at h
 split at h
 ·rename_i ho
  split at h
  ·rename_i hix
   split at h
   ·rename_i hel
    have hk:=hP.ok.el.get hel
    split at h
    ·rename_i hx;cases h;exact vA ho hk hx hix h0 h1 hj
    ·rename_i hx
     split at h
     ·rename_i hi;cases h;exact b9 ho hk hx hi hix h0 h1 hj
     ·cases h
    ·cases h
   ·split at h
    ·rename_i har
     have hk:=hP.ok.ar.get har
     split at h
     ·rename_i hx;cases h;exact nn ho hk hx hix h0 h1 hj
     ·cases h
    ·cases h
  ·cases h
 ·cases h
def KL(Φ:sX)(σ:cg)(t:cn):Op→Option (List PV×Nat×Option Nat)
 | .load ty x=>match Φ.tk.get ty with
  |some k=>match aG t x with
   |some (.bb xs o)=>some (xs,o,k)
   |some (.ptr i o)=>match σ[i]? with
    |some (some blk)=>some (blk.xs,o,k)
    |_=>none
   |_=>none
  |none=>none
 |_=>none
theorem aJ[hP:Has P Φ]{xs:List PV}{k:Nat}{p:PV}(h:KL Φ σ t o.op=some (xs,k,none))(hp:xs[k]? =some p):bE P σ t o p:=by
 unfold KL at h
 split at h
 ·rename_i ho
  split at h
  ·rename_i htk
   have hk:=hP.ok.tk.get htk
   split at h
   ·rename_i hx;cases h;exact tT ho hk hx hp
   ·rename_i hx
    split at h
    ·rename_i hi;cases h;exact aR ho hk hx hi hp
    ·cases h
   ·cases h
  ·cases h
 ·cases h
theorem eU[hP:Has P Φ]{xs ys:List PV}{k n:Nat}(h:KL Φ σ t o.op=some (xs,k,some n))(hp:(xs.drop k).take n=ys)(hn:ys.length=n):bE P σ t o (.agg ys):=by
 unfold KL at h
 split at h
 ·rename_i ho
  split at h
  ·rename_i htk
   have hk:=hP.ok.tk.get htk
   split at h
   ·rename_i hx;cases h;exact ja ho hk hx hp hn
   ·rename_i hx
    split at h
    ·rename_i hi;cases h;exact fh ho hk hx hi hp hn
    ·cases h
   ·cases h
  ·cases h
 ·cases h
def Kr(Φ:sX)(st:St):ResultVar→Option PV
 | .tmp k=>look k st.t
 | .cell k ty=>match look k st.t with
  |some (.ptr i off)=>match st.σ[i]? with
   |some (some blk)=>match Φ.tk.get ty with
    |some none=>blk.xs[off]?
    |some (some n)=>part blk.xs off n
    |none=>none
   |_=>none
  |_=>none
def Jw(Φ:sX)(st:St):List ResultVar→Option (List PV)
 | []=>some []
 |r::rs=>match Kr Φ st r with
  |some p=>match Jw Φ st rs with
   |some ps=>some (p::ps)
   |none=>none
  |none=>none
theorem az.of[hP:Has P Φ]{st:St}:∀ {rs:List ResultVar} {ps:List PV},Jw Φ st rs=some ps→az P st rs ps
 | [],ps,h=>by cases h;exact .nil
 |r::rs,ps,h=>by
  simp only[Jw]at h
  split at h
  ·rename_i p hp
   split at h
   ·rename_i ps' hps
    cases h
    refine .cons ?_ (az.of hps)
    unfold Kr at hp
    split at hp
    ·exact .tmp hp
    ·split at hp
     ·rename_i hl
      split at hp
      ·rename_i hi
       split at hp
       ·rename_i htk;exact .Iv hl hi (hP.ok.tk.get htk) hp
       ·rename_i htk
        obtain⟨ys,rfl,h1,h2⟩:=vM hp
        exact .Iq hl hi (hP.ok.tk.get htk) h1 h2
       ·cases hp
      ·cases hp
     ·cases hp
   ·cases h
  ·cases h
def EV:List Nat→Nat→Option Nat
 | [],_=>none
 |x::l,j=>bif Nat.beq x j then some 0 else match EV l j with
  |some n=>some (n+1)
  |none=>none
theorem uS:∀ {fs:List Nat} {j i:Nat},EV fs j=some i→fs[i]? =some j
 | [],_,_,h=>by cases h
 |x::l,j,i,h=>by
  simp only[EV,Bool.cond_eq_ite]at h
  split at h
  ·rename_i he;cases h;cases Nat.eq_of_beq_eq_true he;rfl
  ·split at h
   ·rename_i n hn;cases h;simpa using uS hn
   ·cases h
theorem Ren.Kj{fs:List Nat}{i j:Nat}(h:EV fs j=some i):Ren fs (.own i) (.own j):=.own (uS h)
theorem Ren.JZ{fs:List Nat}{i j k:Nat}(h:EV fs j=some i):Ren fs (.ptr i k) (.ptr j k):=.ptr (uS h)
theorem nA.c{fs:List Nat}{t t':cn}{p p':PV}(k:Nat)(rest:nA fs t t')(h:look k t=some p:=by exact rfl)(hr:Ren fs p' p:=by first|exact Ren.pure|exact Ren.Kj rfl|exact Ren.JZ rfl):nA fs t ((k,p')::t'):=.cons k h hr rest
theorem aI.c{fs:List Nat}{x y:PV}{xs ys:List PV}(rest:aI fs xs ys)(hr:Ren fs x y:=by first|exact Ren.pure|exact Ren.Kj rfl|exact Ren.JZ rfl):aI fs (x::xs) (y::ys):=aI.cons hr rest
theorem aZ[hP:Has P Φ]{p:PV}(h:ga Φ σ t o.op=some p):bE P σ t o p:=mb hP.ok rfl h
theorem er[hP:Has P Φ]{p:PV}{σ':cg}(h:ym Φ t σ o.op=some (p,σ')):cq P σ t o p σ':=sx hP.ok rfl h
def rp(N:Nat)(l:List Oper):Bool:=Region.lexB .any l.toArray&&l.all fun o=>o.dst.all fun e=>decide (e<N)
theorem mf{l:List Oper}(h:rp N l=true):Region.lexB .any l.toArray=true∧(l.all fun o=>o.dst.all fun e=>decide (e<N)&&(l.filterMap (·.dst)).contains e)=true∧((l.filterMap (·.dst)).all fun e=>decide (e<N))=true:=by
 unfold rp at h
 simp only[Bool.and_eq_true,List.all_eq_true]at h
 refine⟨h.1,List.all_eq_true.2 fun o ho=>?_,List.all_eq_true.2 fun e he=>?_⟩
 ·have h2:=h.2 o ho
  cases hd:o.dst with
  |none=>rfl
  |some e=>
   rw[hd]at h2
   simp only[Option.all_some,Bool.and_eq_true,List.contains_iff_mem,List.mem_filterMap]at h2 ⊢
   exact⟨h2,o,ho,hd⟩
 ·obtain⟨o,ho,hd⟩:=List.mem_filterMap.1 he
  have h2:=h.2 o ho
  rw[hd]at h2
  exact h2
theorem KZ{id:Nat}{l:List Oper}{t':cn}{Q:Exit→St→Prop}(hm:P.follows .mixedOrders=true)(hB:rp N l=true)(h:ee P N l.toArray σ l t t')(hq:Q .normal ⟨t',σ⟩):W P N L (.region id l.toArray true) ⟨t,σ⟩ Q:=I5 _ hm (mf hB).1 (mf hB).2.1 (mf hB).2.2 h hq
theorem ep{id:Nat}{l:List Oper}{y:Code}{t':cn}{Q:Exit→St→Prop}(hm:P.follows .mixedOrders=true)(hB:rp N l=true)(h:ee P N l.toArray σ l t t')(hq:W P N L y ⟨t',σ⟩ Q):W P N L (.seq (.region id l.toArray true) y) ⟨t,σ⟩ Q:=aj (KZ hm hB h hq)
theorem bz{id:Nat}{l:List Oper}{y:Code}{u:cn}{Q:Exit→St→Prop}(k:Nat)(p:PV)(ks:List Nat)(_:iX t ks=some u)(h:fB P N l.toArray σ l t ((k,p)::u))(hq:W P N L y ⟨(k,p)::u,σ⟩ Q):W P N L (.seq (.region id l.toArray false) y) ⟨t,σ⟩ Q:=ab h hq
theorem sd{id:Nat}{l:List Oper}{u:cn}{Q:Exit→St→Prop}(k:Nat)(p:PV)(ks:List Nat)(_:iX t ks=some u)(h:fB P N l.toArray σ l t ((k,p)::u))(hq:Q .normal ⟨(k,p)::u,σ⟩):W P N L (.region id l.toArray false) ⟨t,σ⟩ Q:=aC h hq
theorem iJ{id:Nat}{l:List Oper}{y:Code}{u:cn}{Q:Exit→St→Prop}(hm:P.follows .mixedOrders=true)(hB:rp N l=true)(k:Nat)(p:PV)(ks:List Nat)(_:iX t ks=some u)(h:ee P N l.toArray σ l t ((k,p)::u))(hq:W P N L y ⟨(k,p)::u,σ⟩ Q):W P N L (.seq (.region id l.toArray true) y) ⟨t,σ⟩ Q:=ep hm hB h hq
def Tr.keys{α:Type}:Tr α→List Nat
 | .l=>[]
 | .n a k _ b=>a.keys++k::b.keys
def Tr.CL{α:Type}:Tr α→List α
 | .l=>[]
 | .n a _ v b=>a.CL++v::b.CL
theorem Tr.sH{α:Type}:∀(t:Tr α),t.keys.length=t.CL.length
 | .l=>rfl
 | .n a _ _ b=>by simp[Tr.keys,Tr.CL,Tr.sH a,Tr.sH b]
theorem Tr.of{α:Type}(f:Nat→Option α):∀ {t:Tr α},t.keys.map f=t.CL.map some→t.vI fun k v=>f k=some v
 | .l,_=>.l
 | .n a k v b,h=>by
  simp only[Tr.keys,Tr.CL,List.map_append,List.map_cons]at h
  obtain⟨h1,h2⟩:=List.append_inj h (by simp[Tr.sH])
  simp only[List.cons.injEq]at h2
  exact .n (Tr.of f h1) h2.1 (Tr.of f h2.2)
theorem Tr.JX{α:Type}(f:Nat→Bool):∀ {t:Tr α},t.keys.all f=true→t.vI fun k _=>f k=true
 | .l,_=>.l
 | .n a k v b,h=>by
  simp only[Tr.keys,List.all_append,List.all_cons,Bool.and_eq_true]at h
  exact .n (Tr.JX f h.1) h.2.1 (Tr.JX f h.2.2)
end
end
section
set_option maxRecDepth 100000
abbrev tq{α:Type}(k:Nat)(v:α):Tr α:=.n .l k v .l
def LA:Tr (Option Nat):=.n (.n (.n (.n (.n (.n (.n (tq 0 none) 1 none (tq 2 none)) 3 none (.n (tq 4 none) 5 none (tq 7 (some 4)))) 9 none (.n (.n (tq 12 none) 13 (some 2) (tq 15 none)) 16 none (.n (tq 17 none) 18 (some 1) (tq 20 none)))) 21 none (.n (.n (.n (tq 22 none) 23 none (tq 24 (some 3))) 25 (some 3) (.n (tq 26 none) 27 (some 3) (tq 28 none))) 29 none (.n (.n (tq 30 none) 31 none (tq 32 (some 2))) 33 (some 2) (.n (tq 34 none) 35 none (tq 36 none))))) 37 none (.n (.n (.n (.n (tq 38 none) 39 none (tq 40 none)) 41 none (.n (tq 42 none) 43 none (tq 44 none))) 45 none (.n (.n (tq 46 none) 47 none (tq 48 none)) 49 (some 8) (.n (tq 50 (some 8)) 51 none (tq 52 none)))) 53 none (.n (.n (.n (tq 54 none) 55 (some 3) (tq 56 (some 3))) 57 none (.n (tq 58 none) 59 none (tq 60 none))) 61 none (.n (.n (tq 62 none) 63 none (tq 64 none)) 65 (some 6) (.n (tq 66 (some 6)) 67 none .l))))) 68 none (.n (.n (.n (.n (.n (tq 69 (some 3)) 70 (some 3) (tq 71 none)) 72 none (.n (tq 73 none) 74 none (tq 75 (some 3)))) 76 (some 3) (.n (.n (tq 77 none) 78 none (tq 79 none)) 80 (some 2) (.n (tq 81 none) 82 none (tq 83 none)))) 84 none (.n (.n (.n (tq 85 none) 86 none (tq 87 none)) 88 none (.n (tq 89 none) 90 none (tq 91 none))) 92 none (.n (.n (tq 93 none) 94 none (tq 95 none)) 96 none (.n (tq 97 none) 98 none .l)))) 99 none (.n (.n (.n (.n (tq 100 (some 4)) 101 none (tq 102 none)) 103 (some 2) (.n (tq 104 none) 105 none (tq 106 none))) 107 (some 3) (.n (.n (tq 108 none) 109 none (tq 110 none)) 111 none (.n (tq 112 none) 113 none (tq 114 none)))) 115 none (.n (.n (.n (tq 116 none) 117 none (tq 118 (some 12))) 119 (some 12) (.n (tq 120 none) 121 (some 5) (tq 122 (some 5)))) 123 none (.n (.n (tq 124 none) 125 (some 2) (tq 126 (some 7))) 127 (some 7) (.n (tq 128 none) 129 none .l)))))) 130 none (.n (.n (.n (.n (.n (.n (tq 131 none) 132 none (tq 133 none)) 134 none (.n (tq 135 none) 136 none (tq 137 none))) 138 none (.n (.n (tq 139 none) 140 none (tq 141 none)) 142 none (.n (tq 143 none) 144 none (tq 145 (some 9))))) 146 (some 9) (.n (.n (.n (tq 147 none) 148 none (tq 149 none)) 150 none (.n (tq 151 (some 6)) 152 (some 6) (tq 153 none))) 154 none (.n (.n (tq 155 none) 156 none (tq 157 none)) 158 none (.n (tq 159 none) 160 none .l)))) 161 none (.n (.n (.n (.n (tq 162 none) 163 none (tq 164 none)) 165 none (.n (tq 166 none) 167 none (tq 168 none))) 169 none (.n (.n (tq 171 none) 172 none (tq 173 none)) 174 none (.n (tq 175 none) 176 none (tq 177 none)))) 178 none (.n (.n (.n (tq 179 none) 180 none (tq 181 none)) 182 none (.n (tq 183 none) 184 none (tq 185 none))) 186 none (.n (.n (tq 187 none) 188 none (tq 189 none)) 190 none (.n (tq 192 none) 193 none .l))))) 194 none (.n (.n (.n (.n (.n (tq 195 none) 197 none (tq 198 none)) 199 none (.n (tq 200 none) 201 none (tq 202 (some 7)))) 203 (some 7) (.n (.n (tq 204 none) 205 none (tq 206 none)) 207 none (.n (tq 208 none) 209 none (tq 210 none)))) 211 none (.n (.n (.n (tq 212 none) 213 (some 2) (tq 214 (some 2))) 215 none (.n (tq 216 none) 217 none (tq 218 none))) 219 none (.n (.n (tq 220 none) 222 none (tq 223 none)) 224 none (.n (tq 225 none) 226 none .l)))) 227 none (.n (.n (.n (.n (tq 228 none) 229 none (tq 230 none)) 231 none (.n (tq 232 none) 233 none (tq 234 none))) 235 (some 3) (.n (.n (tq 236 (some 3)) 237 none (tq 238 none)) 239 none (.n (tq 240 none) 241 none (tq 242 none)))) 243 none (.n (.n (.n (tq 244 none) 245 none (tq 247 none)) 248 (some 24) (.n (tq 249 none) 252 none (tq 253 none))) 255 none (.n (.n (tq 256 none) 262 none (tq 264 (some 20))) 265 (some 65) (.n (tq 275 (some 32)) 276 (some 64) .l))))))
def LF:Tr (Nat):=.n (.n (.n (.n (.n (.n (.n (tq 700 0) 701 1 .l) 702 2 (tq 703 3)) 1300 0 (.n (tq 1301 1) 1800 0 (tq 2400 0))) 2401 1 (.n (.n (.n (tq 2402 2) 2500 0 .l) 2501 1 (tq 2502 2)) 3200 0 (.n (tq 3201 1) 3300 0 (tq 3301 1)))) 4900 0 (.n (.n (.n (.n (tq 4901 3) 4902 5 .l) 4903 6 (tq 4904 7)) 5000 0 (.n (tq 5001 3) 5002 5 (tq 5003 6))) 5004 7 (.n (.n (.n (tq 5500 0) 5501 1 .l) 5502 2 (tq 5600 0)) 5601 1 (.n (tq 5602 2) 6500 0 (tq 6501 1))))) 6502 2 (.n (.n (.n (.n (.n (tq 6503 3) 6504 4 .l) 6505 5 (tq 6600 0)) 6601 1 (.n (tq 6602 2) 6603 3 (tq 6604 4))) 6605 5 (.n (.n (.n (tq 6900 0) 6901 1 .l) 6902 2 (tq 7000 0)) 7001 1 (.n (tq 7002 2) 7500 0 (tq 7501 1)))) 7502 2 (.n (.n (.n (.n (tq 7600 0) 7601 1 .l) 7602 2 (tq 10300 0)) 10301 1 (.n (tq 10700 0) 10701 1 (tq 10702 2))) 11800 0 (.n (.n (tq 11801 1) 11802 7 (tq 11803 8)) 11804 9 (.n (tq 11805 10) 11806 11 (tq 11900 0)))))) 11901 1 (.n (.n (.n (.n (.n (.n (tq 11902 7) 11903 8 .l) 11904 9 (tq 11905 10)) 11906 11 (.n (tq 12100 0) 12101 3 (tq 12102 4))) 12200 0 (.n (.n (.n (tq 12201 3) 12202 4 .l) 12600 0 (tq 12601 1)) 12602 2 (.n (tq 12603 4) 12604 5 (tq 12605 6)))) 12700 0 (.n (.n (.n (.n (tq 12701 1) 12702 2 .l) 12703 4 (tq 12704 5)) 12705 6 (.n (tq 14500 0) 14501 3 (tq 14502 4))) 14503 5 (.n (.n (tq 14504 6) 14505 7 (tq 14506 8)) 14600 0 (.n (tq 14601 3) 14602 4 (tq 14603 5))))) 14604 6 (.n (.n (.n (.n (.n (tq 14605 7) 14606 8 .l) 15100 0 (tq 15101 1)) 15102 2 (.n (tq 15103 3) 15104 4 (tq 15105 5))) 15200 0 (.n (.n (.n (tq 15201 1) 15202 2 .l) 15203 3 (tq 15204 4)) 15205 5 (.n (tq 20200 0) 20201 3 (tq 20202 4)))) 20203 5 (.n (.n (.n (.n (tq 20204 6) 20300 0 .l) 20301 3 (tq 20302 4)) 20303 5 (.n (tq 20304 6) 21300 0 (tq 21301 1))) 21400 0 (.n (.n (tq 21401 1) 23500 0 (tq 23501 1)) 23502 2 (.n (tq 23600 0) 23601 1 (tq 23602 2))))))
def LD:Tr (Nat×Nat):=.n (.n (.n (tq 22 (4,1)) 23 (127,7) (tq 26 (5,1))) 30 (33,2) (.n (tq 37 (3,1)) 39 (103,2) (tq 43 (56,3)))) 54 (76,3) (.n (.n (tq 62 (70,3)) 104 (107,3) (tq 120 (119,12))) 148 (147,1) (.n (tq 195 (39,1)) 198 (37,1) (tq 208 (207,1))))
def LL:Tr (List (Nat×Nat)×List Value):=.n (.n (.n (.n (.n (tq 7 ([(0,1),(1,1),(2,1),(3,1)],[.int .i64 0,.int .i64 0,.bool false,.int .u8 0])) 13 ([(0,1),(1,1)],[.string ⟨#[]⟩,.int .u64 0]) .l) 18 ([(0,1)],[.pointer none]) (tq 24 ([(0,1),(1,1),(2,1)],[.int .i64 0,.slice none 0 0,.slice none 0 0]))) 25 ([(0,1),(1,1),(2,1)],[.int .i64 0,.slice none 0 0,.slice none 0 0]) (.n (tq 32 ([(0,1),(1,1)],[.int .i64 0,.int .i64 0])) 33 ([(0,1),(1,1)],[.int .i64 0,.int .i64 0]) (tq 49 ([(0,3),(3,2),(5,1),(6,1),(7,1)],[.int .i64 0,.slice none 0 0,.slice none 0 0,.int .i64 0,.int .i64 0,.slice none 0 0,.int .i64 0,.int .i64 0])))) 50 ([(0,3),(3,2),(5,1),(6,1),(7,1)],[.int .i64 0,.slice none 0 0,.slice none 0 0,.int .i64 0,.int .i64 0,.slice none 0 0,.int .i64 0,.int .i64 0]) (.n (.n (.n (tq 55 ([(0,1),(1,1),(2,1)],[.int .i64 0,.slice none 0 0,.slice none 0 0])) 56 ([(0,1),(1,1),(2,1)],[.int .i64 0,.slice none 0 0,.slice none 0 0]) .l) 65 ([(0,1),(1,1),(2,1),(3,1),(4,1),(5,1)],[.int .i64 0,.int .i64 0,.int .i64 0,.int .i64 0,.slice none 0 0,.int .i64 0]) (tq 66 ([(0,1),(1,1),(2,1),(3,1),(4,1),(5,1)],[.int .i64 0,.int .i64 0,.int .i64 0,.int .i64 0,.slice none 0 0,.int .i64 0]))) 69 ([(0,1),(1,1),(2,1)],[.int .i64 0,.int .i64 0,.slice none 0 0]) (.n (tq 70 ([(0,1),(1,1),(2,1)],[.int .i64 0,.int .i64 0,.slice none 0 0])) 75 ([(0,1),(1,1),(2,1)],[.slice none 0 0,.bool false,.slice none 0 0]) (tq 76 ([(0,1),(1,1),(2,1)],[.slice none 0 0,.bool false,.slice none 0 0]))))) 103 ([(0,1),(1,1)],[.int .i64 0,.int .i64 0]) (.n (.n (.n (.n (tq 107 ([(0,1),(1,1),(2,1)],[.int .i64 0,.int .i64 0,.slice none 0 0])) 118 ([(0,1),(1,6),(7,1),(8,1),(9,1),(10,1),(11,1)],[.int .i64 0,.int .i64 0,.int .i64 0,.int .i64 0,.int .i64 0,.slice none 0 0,.int .i64 0,.slice none 0 0,.slice none 0 0,.int .i64 0,.int .i64 0,.int .i64 0]) .l) 119 ([(0,1),(1,6),(7,1),(8,1),(9,1),(10,1),(11,1)],[.int .i64 0,.int .i64 0,.int .i64 0,.int .i64 0,.int .i64 0,.slice none 0 0,.int .i64 0,.slice none 0 0,.slice none 0 0,.int .i64 0,.int .i64 0,.int .i64 0]) (tq 121 ([(0,3),(3,1),(4,1)],[.int .i64 0,.slice none 0 0,.slice none 0 0,.slice none 0 0,.slice none 0 0]))) 122 ([(0,3),(3,1),(4,1)],[.int .i64 0,.slice none 0 0,.slice none 0 0,.slice none 0 0,.slice none 0 0]) (.n (tq 126 ([(0,1),(1,1),(2,2),(4,1),(5,1),(6,1)],[.int .i64 0,.int .i64 0,.int .i64 0,.int .i64 0,.int .i64 0,.int .i64 0,.int .i64 0])) 127 ([(0,1),(1,1),(2,2),(4,1),(5,1),(6,1)],[.int .i64 0,.int .i64 0,.int .i64 0,.int .i64 0,.int .i64 0,.int .i64 0,.int .i64 0]) (tq 145 ([(0,3),(3,1),(4,1),(5,1),(6,1),(7,1),(8,1)],[.int .i64 0,.slice none 0 0,.slice none 0 0,.slice none 0 0,.slice none 0 0,.slice none 0 0,.slice none 0 0,.map none,.map none])))) 146 ([(0,3),(3,1),(4,1),(5,1),(6,1),(7,1),(8,1)],[.int .i64 0,.slice none 0 0,.slice none 0 0,.slice none 0 0,.slice none 0 0,.slice none 0 0,.slice none 0 0,.map none,.map none]) (.n (.n (.n (tq 151 ([(0,1),(1,1),(2,1),(3,1),(4,1),(5,1)],[.int .i64 0,.int .i64 0,.slice none 0 0,.slice none 0 0,.bool false,.int .i64 0])) 152 ([(0,1),(1,1),(2,1),(3,1),(4,1),(5,1)],[.int .i64 0,.int .i64 0,.slice none 0 0,.slice none 0 0,.bool false,.int .i64 0]) .l) 202 ([(0,3),(3,1),(4,1),(5,1),(6,1)],[.int .i64 0,.slice none 0 0,.slice none 0 0,.slice none 0 0,.int .i64 0,.nilFunc,.nilFunc]) (tq 203 ([(0,3),(3,1),(4,1),(5,1),(6,1)],[.int .i64 0,.slice none 0 0,.slice none 0 0,.slice none 0 0,.int .i64 0,.nilFunc,.nilFunc]))) 213 ([(0,1),(1,1)],[.pointer none,.slice none 0 0]) (.n (tq 214 ([(0,1),(1,1)],[.pointer none,.slice none 0 0])) 235 ([(0,1),(1,1),(2,1)],[.slice none 0 0,.slice none 0 0,.slice none 0 0]) (tq 236 ([(0,1),(1,1),(2,1)],[.slice none 0 0,.slice none 0 0,.slice none 0 0])))))
def LS:Tr (Nat×Nat×List Value):=.n (.n (.n (tq 22 (4,1,[.bool false])) 23 (127,7,[.int .i64 0,.int .i64 0,.int .i64 0,.int .i64 0,.int .i64 0,.int .i64 0,.int .i64 0]) (tq 26 (5,1,[.int .u8 0]))) 30 (33,2,[.int .i64 0,.int .i64 0]) (.n (tq 37 (3,1,[.int .i64 0])) 39 (103,2,[.int .i64 0,.int .i64 0]) (tq 43 (56,3,[.int .i64 0,.slice none 0 0,.slice none 0 0])))) 54 (76,3,[.slice none 0 0,.bool false,.slice none 0 0]) (.n (.n (tq 62 (70,3,[.int .i64 0,.int .i64 0,.slice none 0 0])) 104 (107,3,[.int .i64 0,.int .i64 0,.slice none 0 0]) (tq 120 (119,12,[.int .i64 0,.int .i64 0,.int .i64 0,.int .i64 0,.int .i64 0,.slice none 0 0,.int .i64 0,.slice none 0 0,.slice none 0 0,.int .i64 0,.int .i64 0,.int .i64 0]))) 148 (147,1,[.pointer none]) (.n (tq 195 (39,1,[.slice none 0 0])) 198 (37,1,[.slice none 0 0]) (tq 208 (207,1,[.nilFunc]))))
def Lz:Tr (Nat×Nat×Nat×List Value):=.n (.n (.n (tq 22 (4,1,1,[.bool false])) 23 (127,7,56,[.int .i64 0,.int .i64 0,.int .i64 0,.int .i64 0,.int .i64 0,.int .i64 0,.int .i64 0]) (tq 26 (5,1,1,[.int .u8 0]))) 30 (33,2,16,[.int .i64 0,.int .i64 0]) (.n (tq 37 (3,1,8,[.int .i64 0])) 39 (103,2,16,[.int .i64 0,.int .i64 0]) (tq 43 (56,3,56,[.int .i64 0,.slice none 0 0,.slice none 0 0])))) 54 (76,3,56,[.slice none 0 0,.bool false,.slice none 0 0]) (.n (.n (tq 62 (70,3,40,[.int .i64 0,.int .i64 0,.slice none 0 0])) 104 (107,3,40,[.int .i64 0,.int .i64 0,.slice none 0 0]) (tq 120 (119,12,144,[.int .i64 0,.int .i64 0,.int .i64 0,.int .i64 0,.int .i64 0,.slice none 0 0,.int .i64 0,.slice none 0 0,.slice none 0 0,.int .i64 0,.int .i64 0,.int .i64 0]))) 148 (147,1,8,[.pointer none]) (.n (tq 195 (39,1,24,[.slice none 0 0])) 198 (37,1,24,[.slice none 0 0]) (tq 208 (207,1,8,[.nilFunc]))))
def Ly:Tr (List Value):=.n (.n (.n (.n (.n (.n (tq 2 [.int .i64 0]) 3 [.int .i64 0] .l) 4 [.bool false] (.n (tq 5 [.int .u8 0]) 7 [.int .i64 0,.int .i64 0,.bool false,.int .u8 0] .l)) 9 [.string ⟨#[]⟩] (.n (.n (tq 12 [.int .u64 0]) 13 [.string ⟨#[]⟩,.int .u64 0] .l) 15 [.pointer none] (tq 16 [.pointer none]))) 17 [.pointer none] (.n (.n (.n (tq 18 [.pointer none]) 20 [.nilIface] .l) 21 [.int .i32 0] (.n (tq 22 [.slice none 0 0]) 23 [.slice none 0 0] .l)) 24 [.int .i64 0,.slice none 0 0,.slice none 0 0] (.n (.n (tq 25 [.int .i64 0,.slice none 0 0,.slice none 0 0]) 26 [.slice none 0 0] .l) 27 [.slice none 0 0,.slice none 0 0,.slice none 0 0] (tq 30 [.slice none 0 0])))) 32 [.int .i64 0,.int .i64 0] (.n (.n (.n (.n (tq 33 [.int .i64 0,.int .i64 0]) 34 [.int .i64 0] .l) 37 [.slice none 0 0] (.n (tq 39 [.slice none 0 0]) 43 [.slice none 0 0] .l)) 49 [.int .i64 0,.slice none 0 0,.slice none 0 0,.int .i64 0,.int .i64 0,.slice none 0 0,.int .i64 0,.int .i64 0] (.n (.n (tq 50 [.int .i64 0,.slice none 0 0,.slice none 0 0,.int .i64 0,.int .i64 0,.slice none 0 0,.int .i64 0,.int .i64 0]) 54 [.slice none 0 0] .l) 55 [.int .i64 0,.slice none 0 0,.slice none 0 0] (tq 56 [.int .i64 0,.slice none 0 0,.slice none 0 0]))) 62 [.slice none 0 0] (.n (.n (.n (tq 65 [.int .i64 0,.int .i64 0,.int .i64 0,.int .i64 0,.slice none 0 0,.int .i64 0]) 66 [.int .i64 0,.int .i64 0,.int .i64 0,.int .i64 0,.slice none 0 0,.int .i64 0] .l) 69 [.int .i64 0,.int .i64 0,.slice none 0 0] (.n (tq 70 [.int .i64 0,.int .i64 0,.slice none 0 0]) 75 [.slice none 0 0,.bool false,.slice none 0 0] .l)) 76 [.slice none 0 0,.bool false,.slice none 0 0] (.n (.n (tq 80 [.slice none 0 0,.slice none 0 0]) 100 [.nilFunc,.nilFunc,.nilFunc,.nilFunc] .l) 103 [.int .i64 0,.int .i64 0] (tq 104 [.slice none 0 0]))))) 107 [.int .i64 0,.int .i64 0,.slice none 0 0] (.n (.n (.n (.n (.n (tq 115 [.pointer none]) 118 [.int .i64 0,.int .i64 0,.int .i64 0,.int .i64 0,.int .i64 0,.slice none 0 0,.int .i64 0,.slice none 0 0,.slice none 0 0,.int .i64 0,.int .i64 0,.int .i64 0] .l) 119 [.int .i64 0,.int .i64 0,.int .i64 0,.int .i64 0,.int .i64 0,.slice none 0 0,.int .i64 0,.slice none 0 0,.slice none 0 0,.int .i64 0,.int .i64 0,.int .i64 0] (.n (tq 120 [.slice none 0 0]) 121 [.int .i64 0,.slice none 0 0,.slice none 0 0,.slice none 0 0,.slice none 0 0] .l)) 122 [.int .i64 0,.slice none 0 0,.slice none 0 0,.slice none 0 0,.slice none 0 0] (.n (.n (tq 125 [.int .i64 0,.int .i64 0]) 126 [.int .i64 0,.int .i64 0,.int .i64 0,.int .i64 0,.int .i64 0,.int .i64 0,.int .i64 0] .l) 127 [.int .i64 0,.int .i64 0,.int .i64 0,.int .i64 0,.int .i64 0,.int .i64 0,.int .i64 0] (tq 139 [.pointer none]))) 143 [.map none] (.n (.n (.n (tq 144 [.map none]) 145 [.int .i64 0,.slice none 0 0,.slice none 0 0,.slice none 0 0,.slice none 0 0,.slice none 0 0,.slice none 0 0,.map none,.map none] .l) 146 [.int .i64 0,.slice none 0 0,.slice none 0 0,.slice none 0 0,.slice none 0 0,.slice none 0 0,.slice none 0 0,.map none,.map none] (.n (tq 147 [.pointer none]) 148 [.slice none 0 0] .l)) 151 [.int .i64 0,.int .i64 0,.slice none 0 0,.slice none 0 0,.bool false,.int .i64 0] (.n (.n (tq 152 [.int .i64 0,.int .i64 0,.slice none 0 0,.slice none 0 0,.bool false,.int .i64 0]) 181 [.pointer none] .l) 188 [.map none] (tq 195 [.slice none 0 0])))) 198 [.slice none 0 0] (.n (.n (.n (.n (tq 202 [.int .i64 0,.slice none 0 0,.slice none 0 0,.slice none 0 0,.int .i64 0,.nilFunc,.nilFunc]) 203 [.int .i64 0,.slice none 0 0,.slice none 0 0,.slice none 0 0,.int .i64 0,.nilFunc,.nilFunc] .l) 208 [.slice none 0 0] (.n (tq 212 [.pointer none]) 213 [.pointer none,.slice none 0 0] .l)) 214 [.pointer none,.slice none 0 0] (.n (.n (tq 215 [.nilIface]) 216 [.nilIface] .l) 225 [.pointer none] (tq 233 [.pointer none]))) 235 [.slice none 0 0,.slice none 0 0,.slice none 0 0] (.n (.n (.n (tq 236 [.slice none 0 0,.slice none 0 0,.slice none 0 0]) 241 [.pointer none] .l) 247 [.int .u64 0] (tq 248 [.int .u8 0,.int .u8 0,.int .u8 0,.int .u8 0,.int .u8 0,.int .u8 0,.int .u8 0,.int .u8 0,.int .u8 0,.int .u8 0,.int .u8 0,.int .u8 0,.int .u8 0,.int .u8 0,.int .u8 0,.int .u8 0,.int .u8 0,.int .u8 0,.int .u8 0,.int .u8 0,.int .u8 0,.int .u8 0,.int .u8 0,.int .u8 0])) 249 [.int .u64 0] (.n (.n (tq 255 [.int .i64 0]) 262 [.int .u32 0] .l) 264 [.int .u64 0,.int .u64 0,.int .u64 0,.int .u64 0,.int .u64 0,.int .u64 0,.int .u64 0,.int .u64 0,.int .u64 0,.int .u64 0,.int .u64 0,.int .u64 0,.int .u64 0,.int .u64 0,.int .u64 0,.int .u64 0,.int .u64 0,.int .u64 0,.int .u64 0,.int .u64 0] (tq 275 [.int .u8 0,.int .u8 0,.int .u8 0,.int .u8 0,.int .u8 0,.int .u8 0,.int .u8 0,.int .u8 0,.int .u8 0,.int .u8 0,.int .u8 0,.int .u8 0,.int .u8 0,.int .u8 0,.int .u8 0,.int .u8 0,.int .u8 0,.int .u8 0,.int .u8 0,.int .u8 0,.int .u8 0,.int .u8 0,.int .u8 0,.int .u8 0,.int .u8 0,.int .u8 0,.int .u8 0,.int .u8 0,.int .u8 0,.int .u8 0,.int .u8 0,.int .u8 0])))))
def LN:Tr (Unit):=tq 4 ()
def LO:Tr (Unit):=.n (.n (.n (tq 15 ()) 16 () .l) 17 () (.n (tq 115 ()) 139 () .l)) 147 () (.n (.n (tq 181 ()) 212 () .l) 225 () (tq 233 ()))
def LK:Tr (Nat×Nat):=.n (.n (.n (tq 27 (3,1)) 80 (2,1) .l) 100 (4,1) (tq 125 (2,1))) 248 (24,1) (.n (.n (tq 264 (20,1)) 265 (65,1) .l) 275 (32,1) (tq 276 (64,1)))
def LI:Tr (Unit):=.n (.n (.n (.n (.n (.n (.n (tq 2 ()) 3 () (tq 4 ())) 5 () (.n (tq 6 ()) 7 () (tq 8 ()))) 9 () (.n (.n (tq 10 ()) 11 () (tq 12 ())) 13 () (.n (tq 14 ()) 15 () (tq 16 ())))) 17 () (.n (.n (.n (tq 18 ()) 19 () (tq 20 ())) 21 () (.n (tq 22 ()) 23 () (tq 24 ()))) 25 () (.n (.n (tq 26 ()) 27 () (tq 28 ())) 29 () (.n (tq 30 ()) 31 () .l)))) 32 () (.n (.n (.n (.n (tq 33 ()) 34 () (tq 35 ())) 36 () (.n (tq 37 ()) 38 () (tq 39 ()))) 40 () (.n (.n (tq 41 ()) 42 () (tq 43 ())) 44 () (.n (tq 45 ()) 46 () (tq 47 ())))) 48 () (.n (.n (.n (tq 49 ()) 50 () (tq 51 ())) 52 () (.n (tq 53 ()) 54 () (tq 55 ()))) 56 () (.n (.n (tq 57 ()) 58 () (tq 59 ())) 60 () (.n (tq 61 ()) 62 () .l))))) 63 () (.n (.n (.n (.n (.n (tq 64 ()) 65 () (tq 66 ())) 67 () (.n (tq 68 ()) 69 () (tq 70 ()))) 71 () (.n (.n (tq 72 ()) 73 () (tq 74 ())) 75 () (.n (tq 76 ()) 77 () (tq 78 ())))) 79 () (.n (.n (.n (tq 80 ()) 81 () (tq 82 ())) 83 () (.n (tq 84 ()) 85 () (tq 86 ()))) 87 () (.n (.n (tq 88 ()) 89 () (tq 90 ())) 91 () (.n (tq 92 ()) 93 () .l)))) 94 () (.n (.n (.n (.n (tq 95 ()) 96 () (tq 97 ())) 98 () (.n (tq 99 ()) 100 () (tq 101 ()))) 102 () (.n (.n (tq 103 ()) 104 () (tq 105 ())) 106 () (.n (tq 107 ()) 108 () .l))) 109 () (.n (.n (.n (tq 110 ()) 111 () (tq 112 ())) 113 () (.n (tq 114 ()) 115 () (tq 116 ()))) 117 () (.n (.n (tq 118 ()) 119 () (tq 120 ())) 121 () (.n (tq 122 ()) 123 () .l)))))) 124 () (.n (.n (.n (.n (.n (.n (tq 125 ()) 126 () (tq 127 ())) 128 () (.n (tq 129 ()) 130 () (tq 131 ()))) 132 () (.n (.n (tq 133 ()) 134 () (tq 135 ())) 136 () (.n (tq 137 ()) 138 () (tq 139 ())))) 140 () (.n (.n (.n (tq 141 ()) 142 () (tq 143 ())) 144 () (.n (tq 145 ()) 146 () (tq 147 ()))) 148 () (.n (.n (tq 149 ()) 150 () (tq 151 ())) 152 () (.n (tq 153 ()) 154 () .l)))) 155 () (.n (.n (.n (.n (tq 156 ()) 157 () (tq 158 ())) 159 () (.n (tq 160 ()) 161 () (tq 162 ()))) 163 () (.n (.n (tq 164 ()) 165 () (tq 166 ())) 167 () (.n (tq 168 ()) 169 () .l))) 171 () (.n (.n (.n (tq 172 ()) 173 () (tq 174 ())) 175 () (.n (tq 176 ()) 177 () (tq 178 ()))) 179 () (.n (.n (tq 180 ()) 181 () (tq 182 ())) 183 () (.n (tq 184 ()) 185 () .l))))) 186 () (.n (.n (.n (.n (.n (tq 187 ()) 188 () (tq 189 ())) 190 () (.n (tq 192 ()) 193 () (tq 194 ()))) 195 () (.n (.n (tq 197 ()) 198 () (tq 199 ())) 200 () (.n (tq 201 ()) 202 () (tq 203 ())))) 204 () (.n (.n (.n (tq 205 ()) 206 () (tq 207 ())) 208 () (.n (tq 209 ()) 210 () (tq 211 ()))) 212 () (.n (.n (tq 213 ()) 214 () (tq 215 ())) 216 () (.n (tq 217 ()) 218 () .l)))) 220 () (.n (.n (.n (.n (tq 222 ()) 223 () (tq 224 ())) 225 () (.n (tq 226 ()) 227 () (tq 228 ()))) 229 () (.n (.n (tq 230 ()) 231 () (tq 232 ())) 233 () (.n (tq 234 ()) 235 () .l))) 236 () (.n (.n (.n (tq 237 ()) 238 () (tq 239 ())) 240 () (.n (tq 241 ()) 242 () (tq 243 ()))) 244 () (.n (.n (tq 245 ()) 247 () (tq 248 ())) 249 () (.n (tq 252 ()) 253 () .l))))))
def facts:sX:=⟨LA,LF,LD,LL,LS,Lz,Ly,LN,LO,LK,LI⟩
theorem ba:sX.Ok Tryz.prog facts:=⟨Tr.of (s5 Tryz.prog) (by kernel_rfl),Tr.of (fun k=>kf Tryz.prog (k / 100) (k % 100)) (by kernel_rfl),Tr.of (yw Tryz.prog) (by kernel_rfl),Tr.of (KN Tryz.prog) (by kernel_rfl),Tr.of (IQ Tryz.prog) (by kernel_rfl),Tr.of (wC Tryz.prog) (by kernel_rfl),Tr.of (xV Tryz.prog) (by kernel_rfl),Tr.JX (tc Tryz.prog) (by kernel_rfl),Tr.JX (pr Tryz.prog) (by kernel_rfl),Tr.of (KC Tryz.prog) (by kernel_rfl),Tr.JX (enters Tryz.prog) (by kernel_rfl)⟩
instance:Has Tryz.prog facts:=⟨ba⟩
theorem mixed:Tryz.prog.follows .mixedOrders=true:=by kernel_rfl
end
end PW
end Go.Proofs.YtnegbdpggideiaaGreatDoor
namespace Go.Proofs.YtnegbdpggideiaaGreatDoor
namespace Net
section
open Go
structure nM where
 a:Int
 b:Int
 c0:Int
 c1:Int
 cap:Int
 fK:Int
 vg:Int
def nM.zero:nM:=⟨0,0,0,0,0,0,0⟩
structure ak where
 nodes:Int
 over:List Bool
 ae:List nM
def cF(L:List nM)(i:Nat):nM:=L.getD i nM.zero
def bm(T:ak)(a:Nat):Int:=if a % 2=0 then(cF T.ae (a / 2)).a else(cF T.ae (a / 2)).b
def flip(a:Nat):Nat:=if a % 2=0 then a+1 else a - 1
def aS(T:ak)(a:Nat):Int:=bm T (flip a)
def cp(T:ak)(a:Nat):Int:=if a % 2=0 then(cF T.ae (a / 2)).c0 else(cF T.ae (a / 2)).c1
def dp(T:ak)(n:Nat):Bool:=T.over.getD n false
def bu(T:ak)(n:Int):Bool:=decide (0≤n∧n<T.nodes)
def eQ(T:ak)(a:Int):Bool:=decide (0≤a∧a<2*(T.ae.length:Int))
def bW(T:ak)(down:List Bool):Bool:=decide (down.length=0∨down.length=2*T.ae.length)
def aQ(down:List Bool)(a:Nat):Bool:=down.getD a false
def bK(n lo hi:Int):Bool:=decide (lo≤n∧n≤hi)
def iU(T:ak)(l:nM):Bool:=
 !(l.a==l.b)&&bu T l.a&&bu T l.b&&bK l.c0 1 65535&&bK l.c1 1 65535&&bK l.cap 0 1048576&&bK l.fK 1 65536&&bK l.vg 0 64
def aq(T:ak):Bool:=
 bK T.nodes 1 64&&decide (T.ae.length≤256)&&(decide (T.over.length=0)||decide ((T.over.length:Int)=T.nodes))&&T.ae.all (iU T)
theorem wE(p:nM→Bool)(L:List nM)(k:Nat)(hk:k<L.length):(L.take (k+1)).all p=((L.take k).all p&&p (cF L k)):=by
 rw[List.take_succ_eq_append_getElem hk,List.all_append]
 simp[cF,hk]
theorem yt(p:nM→Bool)(L:List nM)(k:Nat)(hk:k<L.length)(h:p (cF L k)=false):L.all p=false:=by
 rw[Bool.eq_false_iff]
 intro ha
 have:=List.all_eq_true.1 ha (cF L k) (by simp[cF,hk])
 rw[h]at this
 cases this
theorem ia(T:ak)(h:bK T.nodes 1 64=false∨256<T.ae.length∨(T.over.length≠0∧(T.over.length:Int)≠T.nodes)):false=aq T:=by
 unfold aq
 rcases h with h|h|⟨h1,h2⟩
 ·simp[h]
 ·have:decide (T.ae.length≤256)=false:=by simp;omega
  simp[this]
 ·simp[h1,h2]
theorem rm(T:ak)(h1:bK T.nodes 1 64=true)(h2:T.ae.length≤256)(h3:T.over.length=0∨(T.over.length:Int)=T.nodes):aq T=T.ae.all (iU T):=by
 unfold aq
 rcases h3 with h3|h3<;>simp[h1,h2,h3]
theorem uB{T:ak}{l:nM}{q1 q2 q3 q4 q5 q6 q7 q8:Bool}(g1:(l.a==l.b)=q1)(g2:bu T l.a=q2)(g3:bu T l.b=q3)(g4:bK l.c0 1 65535=q4)(g5:bK l.c1 1 65535=q5)(g6:bK l.cap 0 1048576=q6)(g7:bK l.fK 1 65536=q7)(g8:bK l.vg 0 64=q8):
  iU T l=(!q1 &&q2&&q3&&q4&&q5&&q6&&q7&&q8):=by subst g1 g2 g3 g4 g5 g6 g7 g8;rfl
theorem pR(T:ak)(n:Int):bK n 0 (T.nodes - 1)=bu T n:=by
 unfold bK bu
 exact decide_eq_decide.2 (by omega)
theorem om{n lo hi:Int}(h:bK n lo hi=true):lo≤n∧n≤hi:=by simpa[bK]using h
theorem fY{T:ak}(h:aq T=true):1≤T.nodes∧T.nodes≤64∧T.ae.length≤256∧(T.over.length=0∨(T.over.length:Int)=T.nodes):=by
 unfold aq at h
 simp only[Bool.and_eq_true,Bool.or_eq_true,decide_eq_true_eq]at h
 obtain⟨⟨⟨h1,h2⟩,h3⟩,_⟩:=h
 have:=om h1
 exact⟨this.1,this.2,h2,h3⟩
theorem rf{T:ak}(h:aq T=true)(i:Nat)(hi:i<T.ae.length):iU T (cF T.ae i)=true:=by
 unfold aq at h
 simp only[Bool.and_eq_true]at h
 exact List.all_eq_true.1 h.2 _ (by simp[cF,hi])
def nr(T:ak)(a:Int):Int:=if 0≤a∧a<2*(T.ae.length:Int) then bm T a.toNat else -1
def xZ(T:ak)(a:Int):Int:=if 0≤a∧a<2*(T.ae.length:Int) then aS T a.toNat else -1
def yu(T:ak)(a:Int):Int:=if 0≤a∧a<2*(T.ae.length:Int) then cp T a.toNat else -1
def iW(T:ak)(n:Int)(k:Nat):List Int:=((List.range k).filter fun a=>bm T a==n).map Int.ofNat
def bP(T:ak)(n:Int):List Int:=iW T n (2*T.ae.length)
theorem Ce(T:ak)(n:Int)(k:Nat)(h:(bm T k==n)=true):iW T n (k+1)=iW T n k++[(k:Int)]:=by
 simp[iW,List.range_succ,List.filter_append,h]
theorem Dr(T:ak)(n:Int)(k:Nat)(h:(bm T k==n)=false):iW T n (k+1)=iW T n k:=by
 simp[iW,List.range_succ,List.filter_append,h]
theorem eT(T:ak)(n:Int)(k:Nat):(iW T n k).length≤k:=by
 simp only[iW,List.length_map]
 exact Nat.le_trans (List.length_filter_le _ _) (by simp)
def np(L M:List Int):Bool:=decide (L=M)
theorem Fa(L M:List Int)(h:L.length≠M.length):false=np L M:=by
 unfold np;symm;exact decide_eq_false fun e=>h (by rw[e])
theorem H4(L M:List Int)(k:Nat)(h:L.getD k 0≠M.getD k 0):false=np L M:=by
 unfold np;symm;exact decide_eq_false fun e=>h (by rw[e])
theorem EG(L M:List Int)(hM:M.length=L.length)(h:∀i,i<L.length→L.getD i 0=M.getD i 0):true=np L M:=by
 unfold np;symm
 refine decide_eq_true (List.ext_getElem hM.symm fun i h1 h2=>?_)
 have:=h i h1
 simpa[h1,h2]using this
theorem tf(T:ak)(k:Nat)(hk:k<2*T.ae.length):nr T (k:Int)=bm T k:=by
 unfold nr;rw[if_pos ⟨by omega,by omega⟩];rfl
theorem Cd(T:ak)(k:Nat)(hk:k<2*T.ae.length):xZ T (k:Int)=aS T k:=by
 unfold xZ;rw[if_pos ⟨by omega,by omega⟩];rfl
theorem Cu(T:ak)(k:Nat)(hk:k<2*T.ae.length):yu T (k:Int)=cp T k:=by
 unfold yu;rw[if_pos ⟨by omega,by omega⟩];rfl
theorem HS(a:Nat)(ha:a<9223372036854775806):bits .xor .i64 (a:Int) 1=(flip a:Int):=by
 have h1:(a ^^^ 1) / 2=a / 2:=by rw[Nat.xor_div_two];simp
 have h2:((a ^^^ 1) % 2=1)↔¬((a % 2=1)↔(1 % 2=1)):=Nat.xor_mod_two_eq_one
 have h3:a ^^^ 1=flip a:=by unfold flip;split<;>omega
 have e1:(BitVec.ofInt 64 (a:Int)).toNat=a:=by rw[BitVec.ofInt_natCast,BitVec.toNat_ofNat];exact Nat.mod_eq_of_lt (by omega)
 have e2:(BitVec.ofInt 64 (1:Int)).toNat=1:=by decide
 show IntKind.i64.wrap ((BitVec.ofInt 64 (a:Int) ^^^ BitVec.ofInt 64 (1:Int)).toNat:Int)=_
 rw[BitVec.toNat_xor,e1,e2,h3]
 exact IntWalk.i64_in _ (by unfold flip;split<;>omega)
end
end Net
end Go.Proofs.YtnegbdpggideiaaGreatDoor
namespace Go.Proofs.YtnegbdpggideiaaGreatDoor
namespace PW
section
open Go.RowKit cG Mem Net
abbrev num(n:Int):PV:=.raw (.int .i64 n)
abbrev flag(b:Bool):PV:=.raw (.bool b)
theorem cr{α:Type}{L:List α}{i:Nat}{d:α}(h:i<L.length):L.getD i d∈L:=by
 have:L.getD i d=L[i]:=by simp[h]
 rw[this];exact List.getElem_mem h
theorem dK{α:Type}(L:List α)(i:Nat)(d:α)(h:i<L.length):L.take (i+1)=L.take i++[L.getD i d]:=by
 rw[List.take_add_one];simp[h]
def aK(L:List Int):List PV:=L.map fun n=>.raw (.int .i64 n)
def bX(L:List Bool):List PV:=L.map fun b=>.raw (.bool b)
def av(L:List Int):PV:=.slice L.length (aK L)
def bn(L:List Bool):PV:=.slice L.length (bX L)
def kh(l:nM):List PV:=[.raw (.int .i64 l.a),.raw (.int .i64 l.b),.raw (.int .i64 l.c0),.raw (.int .i64 l.c1),.raw (.int .i64 l.cap),.raw (.int .i64 l.fK),.raw (.int .i64 l.vg)]
def iH(L:List nM):List PV:=L.flatMap kh
def bC(T:ak):List PV:=[.raw (.int .i64 T.nodes),bn T.over,.slice T.ae.length (iH T.ae)]
def aP(T:ak):PV:=.agg (bC T)
instance (L:List Int):aL (aK L):=aL.map _ _ fun _=>inferInstance
instance (L:List Bool):aL (bX L):=aL.map _ _ fun _=>inferInstance
instance (L:List Int):dD (aK L):=dD.map _ _ fun _=>inferInstance
instance (l:nM):aL (kh l):=by unfold kh;infer_instance
instance (L:List nM):aL (iH L):=aL.flatMap _ _ fun _=>inferInstance
instance (L:List Int):IsPure (av L):=by unfold av;infer_instance
instance (L:List Bool):IsPure (bn L):=by unfold bn;infer_instance
instance (T:ak):aL (bC T):=by unfold bC;infer_instance
instance (T:ak):IsPure (aP T):=by unfold aP;infer_instance
instance (L:List Int):gm (av L):=by unfold av;infer_instance
theorem aB(L:List Int)(i:Nat)(h:i<L.length):(aK L)[i]? =some (.raw (.int .i64 (L.getD i 0))):=by simp[aK,h]
theorem dt(L:List Bool)(i:Nat)(h:i<L.length):(bX L)[i]? =some (.raw (.bool (L.getD i false))):=by simp[bX,h]
theorem cZ(L M:List Int):aK L++aK M=aK (L++M):=by simp[aK]
theorem dE(L:List Int)(n:Int):aK L++[.raw (.int .i64 n)]=aK (L++[n]):=by simp[aK]
theorem CZ(L:List Int)(i:Nat)(n:Int)(h:i<L.length):over (aK L) i [.raw (.int .i64 n)]=aK (L.set i n):=by
 unfold over aK
 rw[List.map_set,List.set_eq_take_append_cons_drop,if_pos (by simpa using h)]
 simp
theorem Ad(L:List Bool)(i:Nat)(n:Bool)(h:i<L.length):over (bX L) i [.raw (.bool n)]=bX (L.set i n):=by
 unfold over bX
 rw[List.map_set,List.set_eq_take_append_cons_drop,if_pos (by simpa using h)]
 simp
theorem bU.mono{P:Program}{f:FuncId}{ps:List PV}{σ:cg}{R R':PV→cg→Prop}(h:bU P f ps σ R)(hr:∀r σ',R r σ'→R' r σ'):bU P f ps σ R':=fun F base E w vs hS hR=>
 (h F base E w vs hS hR).mono fun _ _ ⟨v,r,σ',E',h1,h2,h3⟩=>⟨v,r,σ',E',h1,hr r σ' h2,h3⟩
theorem bN{P:Program}{σ:cg}{t:cn}{o:Oper}{ty e n:Nat}{x y:Operand}{i j:Nat}{c:Int}{L:List Int}(ho:o.op= .store ty x y)(hk:s5 P ty=some none)(hx:aG t x=some (.ptr i j))(hy:aG t y=some (num c))(hi:σ[i]? =some (some (.row e 1 n (aK L))))(hj:j<L.length):
  cq P σ t o (.raw undef) (σ.set i (some (.row e 1 n (aK (L.set j c))))):=by
 have:=cd ho hk hx hy hi (by show j<(aK L).length;simpa[aK]using hj)
 have he:cK.qa (.row e 1 n (aK L)) (over (cK.xs (.row e 1 n (aK L))) j [num c])= .row e 1 n (aK (L.set j c)):=by
  show cK.row e 1 n (over (aK L) j [num c])=_
  rw[CZ L j c hj]
 rw[he]at this
 exact this
theorem bg{P:Program}{σ:cg}{t:cn}{o:Oper}{ty e n:Nat}{x y:Operand}{i j:Nat}{c:Bool}{L:List Bool}(ho:o.op= .store ty x y)(hk:s5 P ty=some none)(hx:aG t x=some (.ptr i j))(hy:aG t y=some (flag c))(hi:σ[i]? =some (some (.row e 1 n (bX L))))(hj:j<L.length):
  cq P σ t o (.raw undef) (σ.set i (some (.row e 1 n (bX (L.set j c))))):=by
 have:=cd ho hk hx hy hi (by show j<(bX L).length;simpa[bX]using hj)
 have he:cK.qa (.row e 1 n (bX L)) (over (cK.xs (.row e 1 n (bX L))) j [flag c])= .row e 1 n (bX (L.set j c)):=by
  show cK.row e 1 n (over (bX L) j [flag c])=_
  rw[Ad L j c hj]
 rw[he]at this
 exact this
theorem db(n:Nat):dS [.raw (.int .i64 0)] n=aK (List.replicate n 0):=by
 induction n with
 |zero=>rfl
 |succ n ih=>simp only[dS,ih,List.replicate_succ,aK];rfl
theorem iD(n:Nat):dS [.raw (.bool false)] n=bX (List.replicate n false):=by
 induction n with
 |zero=>rfl
 |succ n ih=>simp only[dS,ih,List.replicate_succ,bX];rfl
theorem eP(L:List nM)(i j:Nat)(hi:i<L.length)(hj:j<7):(iH L)[i*7+j]? =(kh (cF L i))[j]? :=by
 induction L generalizing i with
 |nil=>simp at hi
 |cons l L ih=>
  cases i with
  |zero=>
   simp only[iH,List.flatMap_cons,Nat.zero_mul,Nat.zero_add]
   rw[List.getElem?_append_left (by simp[kh];omega)]
   rfl
  |succ i=>
   have:=ih i (by simpa using hi)
   simp only[iH,List.flatMap_cons]at*
   rw[List.getElem?_append_right (by simp[kh];omega)]
   rw[show(i+1)*7+j - (kh l).length=i*7+j by simp[kh];omega]
   rw[this]
   rfl
theorem ek{E:Env}{w:World}{v u:Value}(h:cM E w v (.raw u)):v=u:=by cases h;rfl
theorem JV{E:Env}{w:World}{vs:Array Value}{p:PV}(h:bf E w vs.toList [p]):∃v,vs= #[v]∧cM E w v p:=by
 obtain⟨l⟩:=vs
 match l,h with
 | [v],h=>exact⟨v,rfl,h.EC.1⟩
 | [],h=>simp[bf]at h
 |_::_::_,h=>simp[bf]at h
theorem Dw(L:List nM)(i:Nat)(hi:i<L.length):((iH L).drop (i*7)).take 7=kh (cF L i):=by
 refine List.ext_getElem? fun j=>?_
 by_cases hj:j<7
 ·rw[List.getElem?_take,if_pos hj,List.getElem?_drop,eP L i j hi hj]
 ·rw[List.getElem?_eq_none (by simp;omega),List.getElem?_eq_none (by simp[kh];omega)]
end
end PW
end Go.Proofs.YtnegbdpggideiaaGreatDoor
namespace Go.Proofs.YtnegbdpggideiaaGreatDoor
namespace PW
open Go.RowKit cG Mem
open Go.Deep
section
variable {P:Program} {H:Type} {enc:TypeId×Value→H} {W:World}
abbrev EN:Env:=EF fun _=>False
theorem sb{α:Type}{f:α→List PV}{s:Nat}{t e:TypeId}{fuel:Nat}{v:Value}{x:DataW H×List MemPlace}(ht:P.underlying t=some (.slice e))(hc:P.cellsOf e=s)(hs0:0<s)
  (hel:∀n cs y,DataW.trod enc P W 0 (fun _=>true) true n e cs=some y→cs.length=s→∃a,bf EN W cs (f a))
  (h:DataW.trod enc P W 0 (fun _=>true) true fuel t [v]=some x):∃L:List α,cM EN W v (.slice L.length (L.flatMap f)):=by
 rcases open_slice ht h with⟨hcs,_⟩|⟨a,len,cap,m,n,D,Pl,hcs,_,hl,hm,hmm,_,hx⟩
 ·simp at hcs;subst hcs
  exact⟨[],.bM⟩
 ·simp at hcs;subst hcs
  rw[hc]at hx
  simp only[if_true]at hmm
  subst hmm
  have hall:∀k,k≤len→∃(L:List α) (cs:List Value),L.length=k∧cs.length=k*s∧bf EN W cs (L.flatMap f)∧∀(i:Nat) u,cs[i]? =some u→W.cell? (a.add i)=some u:=by
   intro k
   induction k with
   |zero=>intro _;exact⟨[],[],rfl,by simp,bf.nil _ _,fun i u h=>by simp at h⟩
   |succ k ih=>
    intro hk
    obtain⟨L,cs,h1,h2,h3,h4⟩:=ih (by omega)
    obtain⟨cs',h5,h6⟩:=hx k (by omega)
    obtain⟨_,hlen,hget⟩:=World.cells?_some h5
    obtain⟨b,hb⟩:=hel n cs' _ h6 hlen
    refine⟨L++[b],cs++cs',by simp[h1],by rw[List.length_append,h2,hlen,Nat.succ_mul],by rw[List.flatMap_append];simpa using h3.append hb,fun i u hu=>?_⟩
    by_cases hi:i<cs.length
    ·rw[List.getElem?_append_left hi]at hu;exact h4 i u hu
    ·rw[List.getElem?_append_right (by omega)]at hu
     have hj:i - cs.length<s:=by have:=(List.getElem?_eq_some_iff.1 hu).1;omega
     have:=hget (i - cs.length) hj
     rw[hu]at this
     rw[←this]
     rw[Addr.add_add]
     congr 2
     omega
  obtain⟨L,cs,h1,h2,h3,h4⟩:=hall len (Nat.le_refl _)
  by_cases h0:len=0
  ·subst h0
   have:L=[]:=List.eq_nil_of_length_eq_zero h1
   subst this
   exact⟨[],.empty _ _ hm⟩
  ·obtain⟨b,off,spot⟩:=a
   have hlt:0<cs.length:=by rw[h2];exact Nat.mul_pos (by omega) hs0
   have hc0:=h4 0 cs[0] (by simp[hlt])
   have hspot:spot=none:=by simpa[Addr.add]using World.cell?_spot hc0
   subst hspot
   have hbs:b<W.heap.size:=by
    unfold World.cell? at hc0
    split at hc0
    ·rename_i hh;exact(Array.getElem?_eq_some_iff.1 hh).1
    ·cases hc0
   refine⟨L,?_⟩
   rw[h1]
   exact .slice b off len _ cs _ (by omega) hl hm hbs (fun hf=>hf) (fun i u hu=>by have:=h4 i u hu;rw[Addr.add_lit]at this;exact this) h3.1 h3.2
end
end PW
end Go.Proofs.YtnegbdpggideiaaGreatDoor
