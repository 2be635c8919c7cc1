/- Part 1. -/
import Derived.Deep.Quiet
import Derived.Below
import Derived.OwnWalk
import Derived.Laws.Slices
import Derived.Laws.AppendOwnNone
import Derived.WalkKit
import Derived.ProofKit
import Derived.Laws.Tables
import Derived.Great.BuildSlice
import Derived.Deep.LoopGhost
import Derived.Laws.OwnMore
set_option maxRecDepth 100000
set_option maxHeartbeats 4000000
namespace Go.Proofs.YtoopjinigmhpcaaGreatDoor
theorem QQ.{u} {α:Sort u}(a:α):∃b,a=b:=⟨a,rfl⟩
abbrev QS:=@Int.toNat_natCast
abbrev QT:=@List.getElem?_eq_some_iff
abbrev QU:=@List.getD_eq_getElem?_getD
abbrev QW:=@Int.eq_ofNat_of_zero_le
abbrev QX:=@List.getElem?_eq_getElem
abbrev QY:=@if_pos
abbrev QZ:=@if_neg
abbrev Q0:=@List.length_append
abbrev Q3:=@Bool.and_eq_true_iff
abbrev Q4:=@Classical.byContradiction
abbrev Q5:=@of_decide_eq_true
abbrev Q7:=@Bool.and_eq_true
abbrev Q8:=@List.length_cons
abbrev Q9:=@List.getElem?_append_left
abbrev Ra:=@decide_eq_true_eq
abbrev Rb:=@decide_eq_true
abbrev Rc:=@Nat.le_refl
abbrev Rd:=@List.eq_nil_of_length_eq_zero
abbrev Re:=@Nat.le_of_ble_eq_true
abbrev Rf:=@of_decide_eq_false
abbrev Rg:=@decide_eq_false
abbrev Rh:=@List.getElem?_set
abbrev Ri:=@List.mem_range
abbrev Rj:=@List.mem_singleton
abbrev Rk:=@List.length_singleton
abbrev Rm:=@Array.getD_eq_getD_getElem?
abbrev Ro:=@List.mem_of_getElem?
abbrev Rp:=@Nat.eq_of_beq_eq_true
abbrev Rq:=@List.all_eq_true
abbrev Rr:=@Nat.le_trans
abbrev Rt:=@Bool.or_eq_false_iff
abbrev Rv:=@List.getElem?_of_mem
abbrev Rw:=@Array.getElem?_eq_some_iff
abbrev Rx:=@Array.getElem?_setIfInBounds_ne
abbrev Ry:=@List.length_set
abbrev RA:=@List.mem_cons
abbrev RB:=@List.mem_map
abbrev RC:=@List.take_length
abbrev RD:=@List.getElem?_append_right
abbrev RE:=@List.getElem?_map
abbrev RF:=@List.cons_append
abbrev RG:=@List.length_filter_le
abbrev RH:=@Nat.lt_of_lt_of_le
abbrev RI:=@Bool.cond_eq_ite
abbrev RJ:=@List.getElem?_eq_none
abbrev RK:=@List.mem_filter
abbrev RL:=@List.flatMap_cons
abbrev RM:=@Bool.true_and
abbrev RN:=@List.length_map
abbrev RO:=@List.append_assoc
abbrev RQ:=@Nat.zero_le
abbrev RR:=@List.mem_append
abbrev RS:=@Array.length_toList
abbrev RU:=@List.mem_cons_of_mem
abbrev RV:=@List.getElem?_take
abbrev RX:=@Bool.or_eq_true
abbrev R1:=@List.mem_cons_self
abbrev R2:=@List.range_succ
abbrev R3:=@decide_eq_true_iff
abbrev R4:=@Bool.not_eq_true'
abbrev R5:=@Option.bind_some
abbrev R6:=@List.length_replicate
abbrev R7:=@List.map_cons
abbrev R8:=@Option.map_eq_some_iff
abbrev R9:=@List.append_nil
abbrev Sa:=@List.getD_cons_zero
abbrev Sb:=@decide_eq_false_iff_not
abbrev Sc:=@congrArg
abbrev Sd:=@List.filter_append
abbrev Se:=@List.map_congr_left
abbrev Sf:=@Nat.lt_or_ge
abbrev Sg:=@List.length_take
abbrev Sh:=@Bool.or_eq_true_iff
abbrev Si:=@Nat.zero_add
abbrev Sk:=@Nat.mul_le_mul_right
abbrev Sl:=@List.ext_getElem
abbrev Sm:=@List.map_append
abbrev Sn:=@List.getElem?_replicate
abbrev So:=@List.map_nil
abbrev Sp:=@List.ext_getElem?
abbrev Su:=@List.getElem?_drop
abbrev Sv:=@Int.tdiv_eq_ediv_of_nonneg
abbrev Sw:=@if_true
abbrev Sx:=@List.nil_append
abbrev Sz:=@List.length_range
abbrev SA:=@List.foldl_cons
abbrev SB:=@Nat.succ_mul
abbrev SC:=@List.replicate_succ
abbrev SD:=@List.nodup_cons
abbrev SE:=@Bool.and_eq_false_iff
abbrev SF:=@Option.some.injEq
abbrev SG:=@List.cons.inj
abbrev SH:=@List.mem_append_left
abbrev SI:=@Int.le_refl
abbrev SJ:=@List.take_of_length_le
abbrev SK:=@Nat.not_lt_zero
abbrev SM:=@Option.getD_some
abbrev SN:=@List.take_add_one
abbrev SO:=@List.getElem?_toArray
abbrev SQ:=@List.take_append_drop
abbrev SR:=@Bool.eq_iff_iff
abbrev SS:=@Nat.eq_zero_or_pos
abbrev SU:=@Option.map_some
abbrev SV:=@List.set_eq_take_append_cons_drop
abbrev SW:=@List.set_cons_zero
abbrev SX:=@Bool.false_eq_true
abbrev SY:=@List.filter_cons_of_pos
abbrev SZ:=@List.map_toArray
abbrev S0:=@List.any_eq_true
abbrev S1:=@List.filter_cons
abbrev S4:=@List.length_eq_one_iff
abbrev S5:=@List.length_pos_iff
abbrev S6:=@Nat.add_assoc
abbrev S7:=@List.length_nil
abbrev S8:=@Bool.decide_and
abbrev S9:=@List.mem_flatMap
abbrev Ta:=@Array.toList_map
abbrev Td:=@Bool.false_or
abbrev Te:=@List.filter_cons_of_neg
abbrev Tf:=@List.size_toArray
abbrev Tg:=@List.filter_nil
abbrev Th:=@List.getElem?_range
abbrev Tk:=@List.set_append_right
abbrev Tl:=@Nat.add_zero
abbrev Tm:=@Bool.false_and
abbrev Tn:=@Array.replicate_succ
abbrev To:=@Array.replicate_zero
abbrev Tp:=@List.mem_of_mem_drop
abbrev Tq:=@List.mem_of_mem_take
abbrev Tt:=@Nat.min_eq_left
abbrev Tu:=@Nat.ble_eq
abbrev Tw:=@Bool.eq_false_iff
abbrev Tx:=@List.cons.injEq
abbrev Ty:=@List.pairwise_map
abbrev Tz:=@List.Pairwise.imp_of_mem
abbrev TA:=@List.length_erase_of_mem
abbrev TB:=@List.eq_nil_iff_forall_not_mem
abbrev TC:=@Array.toList_append
abbrev TD:=@List.append_toArray
abbrev TE:=@List.range'_succ
abbrev TF:=@List.getElem_mem
abbrev TG:=@List.getElem_set
abbrev TH:=@List.take_take
abbrev TJ:=@Array.mem_of_getElem?
abbrev TK:=@List.set_set
abbrev TL:=@List.length_filter_lt_length_iff_exists
abbrev TM:=@List.push_toArray
abbrev TN:=@List.foldl_append
abbrev TO:=@List.pairwise_append
abbrev TP:=@List.mem_erase_of_ne
abbrev TR:=@List.drop_eq_getElem_cons
abbrev TS:=@Bool.decide_or
abbrev TU:=@Bool.not_false
abbrev TV:=@List.pairwise_iff_getElem
abbrev TW:=@if_false
abbrev TX:=@List.drop_length
abbrev TY:=@List.mem_reverse
abbrev TZ:=@List.flatMap_append
abbrev T0:=@Nat.mul_le_mul_left
abbrev T2:=@List.mem_filterMap
abbrev T3:=@List.all_append
abbrev T4:=@List.getElem?_cons_zero
abbrev T5:=@List.set_cons_succ
abbrev T6:=@List.getElem_range
abbrev T7:=@List.filter_filter
abbrev T8:=@List.pairwise_cons
abbrev Ua:=@UInt8.toNat_ofNat'
abbrev Ub:=@Array.getElem?_eq_none
abbrev Uc:=@Array.getElem?_extract
abbrev Ud:=@List.length_pos_of_mem
abbrev Ue:=@Nat.blt_eq
abbrev Uf:=@Nat.mul_one
abbrev Ug:=@List.filter_congr
abbrev Uh:=@List.take_zero
abbrev Ui:=@Array.eq_empty_of_size_eq_zero
abbrev Uj:=@Nat.zero_mul
abbrev Uk:=@Array.getElem?_toList
abbrev Ul:=@Array.getElem?_modify
abbrev Um:=@List.mem_append_right
abbrev Un:=@List.getElem_map
abbrev Uo:=@List.exists_mem_of_length_pos
abbrev Uq:=@List.range_eq_range'
abbrev Ur:=@List.replicate_succ'
abbrev Us:=@List.getElem?_set_ne
abbrev Ut:=@Bool.and_true
abbrev Uu:=@List.getD_cons_succ
abbrev Uv:=@List.getElem_of_mem
abbrev Ux:=@List.nodup_iff_pairwise_ne
abbrev Uy:=@Nat.mod_two_eq_zero_or_one
abbrev Uz:=@Nat.sub_zero
abbrev UA:=@Array.all_eq_true'
abbrev UC:=@List.drop_zero
abbrev UE:=@List.nodup_nil
abbrev UG:=@List.nodup_append
abbrev UH:=@Function.comp_def
abbrev UI:=@List.any_eq_false
abbrev UJ:=@List.getElem?_inj
abbrev UK:=@Bool.not_true
abbrev UL:=@List.all_cons
abbrev UM:=@Nat.lt_succ_self
abbrev UN:=@Nat.mod_eq_of_lt
abbrev UO:=@List.length_drop
abbrev UP:=@List.nodup_range
abbrev UQ:=@Nat.add_comm
abbrev UR:=@Option.map_none
abbrev US:=@Nat.beq_refl
abbrev UT:=@Option.some.inj
abbrev UU:=@List.map_map
abbrev UW:=@Nat.succ_pos
abbrev UX:=@Nat.add_mul
abbrev U1:=@Array.ext
section
theorem I.{u} {α : Sort u} {a : α} : a = a := rfl
end
namespace cG
section
open Go.RowKit
def Ext(w w':World):Prop:=Below w.heap.size w w'
theorem Ext.refl(w:World):Ext w w:=Below.refl _ _
abbrev Tc:=@Ext.refl
theorem Ext.trans{a b c}(h:Ext a b)(k:Ext b c):Ext a c:=Below.trans h (Below.mono k h.size)
theorem Ext.alloc{a b:World}(h:Ext a b)(o:Obj):Ext a (b.alloc o):=Below.alloc h h.size o
theorem Ext.below{a b:World}(h:Ext a b):Below a.heap.size a b:=h
theorem Ext.of{a b:World}(h:Below a.heap.size a b):Ext a b:=h
theorem Ext.lt{w:World}{p:Addr}{v}(h:w.cell? p=some v):p.block<w.heap.size:=by
 rcases Sf p.block w.heap.size with a|a
 ·exact a
 ·simp[World.cell?,Ub a]at h
theorem Ext.cell{w w':World}(h:Ext w w'){p v}(hc:w.cell? p=some v):w'.cell? p=some v:=by
 rw[Below.cell h (Ext.lt hc)];exact hc
theorem Ext.size{a b:World}(h:Ext a b):a.heap.size<=b.heap.size:=Below.size h
def Py(Φ:Value->World->Prop)(w:World)(e:Ending)(w':World):Prop:=∃v,e= .returned v/\Ext w w'/\Φ v w'
abbrev dV:=Value->World->Prop
def xV(Φ:dV):Prop:=∀v w w',Ext w w'->Φ v w->Φ v w'
theorem AF(c:Value):xV (λv _=>v=c):=λ_ _ _ _ h=>h
def zw(α:Tmp->dV)(d:Option Tmp)(Φ:dV):Tmp->dV:=λt=>
 match d with
 |some d=>bif Nat.beq t d then Φ else α t
 |none=>α t
theorem kZ(α:Tmp->dV)(d:Tmp)(Φ:dV):zw α (some d) Φ d=Φ:=by simp[zw]
theorem jS(α:Tmp->dV)(d:Option Tmp)(Φ:dV)(t:Tmp)(h:∀e,d=some e->t≠e):zw α d Φ t=α t:=by
 cases d with
 |none=>rfl
 |some e=>
  have:Nat.beq t e=false:=by
   cases hb:Nat.beq t e with
   |false=>rfl
   |true=>exact absurd (Rp hb) (h e rfl)
  simp[zw,this]
theorem JI(α:Tmp->dV)(x y:Option Tmp)(Φ Ψ:dV)(h:∀d,x=some d->y≠some d):zw (zw α x Φ) y Ψ=zw (zw α y Ψ) x Φ:=by
 funext t
 cases x with
 |none=>rfl
 |some d=>
  cases y with
  |none=>rfl
  |some e=>
   have b:d≠e:=λhe=>h d rfl (he▸rfl);by_cases h1:t=d
   ·subst h1;rw[kZ,jS _ _ _ _ (λa he=>by cases he;exact b),kZ]
   ·by_cases h2:t=e
    ·subst h2;rw[kZ,jS _ _ _ _ (λa he=>by cases he;exact h1),kZ]
    ·rw[jS _ _ _ _ (λa he=>by cases he;exact h2),jS _ _ _ _ (λa he=>by cases he;exact h1),jS _ _ _ _ (λa he=>by cases he;exact h1),jS _ _ _ _ (λa he=>by cases he;exact h2)]
structure mq (ρ:Operand->Value):Prop where
 const:∀v,ρ (.const v)=v
 PL:∀g,ρ (.global g)= .pointer (some ⟨g,0,none⟩)
 func:∀f,ρ (.func f)= .func (.func f) #[] #[]
theorem iI(a:Act):mq a.eval:=⟨λ_=>rfl,λ_=>rfl,λ_=>rfl⟩
def HB:Value->Option Bool
 | .bool b=>some b
 |_=>none
def mP(ops:Array Oper)(o:Oper)(ρ:Operand->Value):Bool:=
 match o.guard with
 |none=>true
 |some (j,want)=>(match(ops[j]?).bind (·.dst)with|some t=>HB (ρ (.tmp t))|none=>none)==some want
theorem ke(ops:Array Oper)(o:Oper)(a:Act):Region.wanted o (yielded ops a.tmps)=mP ops o a.eval:=by
 unfold Region.wanted mP;cases o.guard with
 |none=>rfl
 |some g=>
  obtain⟨j,want⟩:=g;simp only[yielded];cases(ops[j]?).bind (·.dst)with
  |none=>rfl
  |some t=>
   simp only[R5,Act.eval,Rm];cases a.tmps[t]? with
   |none=>rfl
   |some v=>cases v<;>rfl
def iA(P:Program)(w:World)(Φ:dV):Result Next->Prop
 | .ok (.value v) w'=>Ext w w'/\Φ v w'
 | .ok .skip w'=>Ext w w'/\Φ undef w'
 | .ok (.enter f args) w'=>Ext w w'/\Calls P f args w' (Py Φ w')
 |_=>False
section
variable (P:Program) (w:World) (Φ:dV)
end
def xY(P:Program)(ops:Array Oper)(o:Oper)(ρ:Operand->Value)(w:World)(Φ:dV):Prop:=
 if mP ops o ρ then iA P w Φ ((execOp ρ o).run P w) else Φ undef w
section
variable {P:Program} {ops:Array Oper} {md:Region.Mode} {C:World->Prop}
def Yields(P:Program)(ops:Array Oper)(C:World->Prop)(o:Oper)(Φ:dV)(α:Tmp->dV):Prop:=
 xV Φ/\∀ρ w,mq ρ->C w->(∀t∈o.looksAt ops,α t (ρ (.tmp t)) w)->xY P ops o ρ w Φ
def sJ(P:Program)(ops:Array Oper)(C:World->Prop)(F:(Tmp->dV)->Prop):List Oper->(Tmp->dV)->Prop
 | [],α=>F α
 |o::rest,α=>∃Φ,Yields P ops C o Φ α/\sJ P ops C F rest (zw α o.dst Φ)
def Hj(P:Program)(ops:Array Oper)(C:World->Prop)(i:Nat)(K:(Tmp->dV)->Prop)(α:Tmp->dV):Prop:=
 match ops[i]? with
 |none=>K α
 |some o=>∃Φ,Yields P ops C o Φ α/\K (zw α o.dst Φ)
def vz(P:Program)(md:Region.Mode)(ops:Array Oper)(C:World->Prop)(F:(Tmp->dV)->Prop):Nat->Array Bool->(Tmp->dV)->Prop
 |0,listed,α=>Region.ready md ops listed=[]/\F α
 |fuel+1,listed,α=>
  (Region.ready md ops listed=[]->F α)/\
  ∀i∈Region.ready md ops listed,Hj P ops C i (vz P md ops C F fuel (listed.setIfInBounds i true)) α
theorem Yields.of_same{o:Oper}{Φ}{α β:Tmp->dV}(h:Yields P ops C o Φ α)(he:∀t∈o.looksAt ops,β t=α t):Yields P ops C o Φ β:=
 ⟨h.1,λρ w a hw hs=>h.2 ρ w a hw (λt b=>by rw[<-he t b];exact hs t b)⟩
theorem Hk{i:Nat}{α:Tmp->dV}{K b:(Tmp->dV)->Prop}(h:∀α,K α->b α)(a:Hj P ops C i K α):Hj P ops C i b α:=by
 unfold Hj at*;split
 ·exact h _ (by simpa[*]using a)
 ·rename_i o c;simp only[c]at a;obtain⟨Φ,h1,h2⟩:=a;exact⟨Φ,h1,h _ h2⟩
theorem Ka{j:Nat}{a f:Oper}{Φ}(hj:ops[j]? =some f)(b:a.apart ops f=true){K:(Tmp->dV)->Prop}{α:Tmp->dV}
  (hy:Yields P ops C a Φ α) (h:Hj P ops C j K (zw α a.dst Φ)):
  Hj P ops C j (λβ=>Yields P ops C a Φ β/\K (zw β a.dst Φ)) α:=by
 obtain⟨h1,h2,g⟩:=Oper.apart_spec b;unfold Hj at*;simp only[hj]at*;obtain⟨Ψ,d,hn⟩:=h;refine⟨Ψ,d.of_same λt c=>?_,hy.of_same λt c=>?_,?_⟩
 ·exact(jS _ _ _ _ λe he heq=>h1 e he (heq▸c)).symm
 ·exact jS _ _ _ _ λe he heq=>g e he (heq▸c)
 ·rw[<-JI α a.dst f.dst Φ Ψ h2];exact hn
theorem zn{F:(Tmp->dV)->Prop}{i:Nat}{f:Oper}{Φ}(hi:ops[i]? =some f):
  ∀(fuel:Nat) (listed:Array Bool) (α:Tmp->dV),(∀j g,ops[j]? =some g->j≠i->listed.getD j true=false->(∀e∈g.after,Region.binds md e=true->e.on≠i)->f.apart ops g=true)->
   i∈Region.ready md ops listed->Yields P ops C f Φ α->
   vz P md ops C F fuel (listed.setIfInBounds i true) (zw α f.dst Φ)->vz P md ops C F (fuel+1) listed α:=by
 intro fuel;have own:∀ {α:Tmp->dV} {K:(Tmp->dV)->Prop},Yields P ops C f Φ α->K (zw α f.dst Φ)->Hj P ops C i K α:=λhy hk=>by
  unfold Hj;simp only[hi];exact⟨Φ,hy,hk⟩
 induction fuel with
 |zero=>
  intro listed α _ hr hy H;refine⟨λh=>(by rw[h]at hr;cases hr),λj q=>?_⟩;by_cases a:j=i
  ·subst a;exact own hy H
  ·have:=ready_mono q a;rw[H.1]at this;cases this
 |succ fuel v=>
  intro listed α b hr hy H;refine⟨λh=>(by rw[h]at hr;cases hr),λj q=>?_⟩;by_cases a:j=i
  ·subst a;exact own hy H
  ·have h1:=H.2 j (ready_mono q a);obtain⟨d,g,o,l⟩:=mem_ready.1 q;have n:∀e∈g.after,Region.binds md e=true->e.on≠i:=λe he hb heq=>by
    have h1:=l e he hb;have h0:=(mem_ready.1 hr).1;rw[heq]at h1;rcases Sf i listed.size with r|r
    ·simp[r]at h0 h1;rw[h0]at h1;cases h1
    ·simp[Ub r]at h1
   have h2:=Ka o (b j g o a d n) hy h1;have c:∀k ok,ops[k]? =some ok->k≠i->(listed.setIfInBounds j true).getD k true=false->
     (∀e∈ok.after,Region.binds md e=true->e.on≠i)->f.apart ops ok=true:=λk ok hk s p t=>by
    refine b k ok hk s ?_ t;by_cases m:j=k
    ·subst m;exact d
    ·rw[getD_set_ne true m]at p;exact p
   refine Hk (λβ u=>v (listed.setIfInBounds j true) β c (ready_mono hr (Ne.symm a)) u.1 ?_) h2;rw[Array.setIfInBounds_comm _ _ a];exact u.2
theorem pL{F:(Tmp->dV)->Prop}:∀(l:List Oper) (k:Nat) (listed:Array Bool) (α:Tmp->dV),(∀j,l[j]? =ops[k+j]?)->
  Region.lexFrom md ops l.length k listed=true->sJ P ops C F l α->vz P md ops C F l.length listed α
 | [],_,_,_,_,a,h=>⟨by simpa[Region.lexFrom]using a,h⟩
 |o::l,k,listed,α,hl,a,h=>by
  have h0:ops[k]? =some o:=by simpa using(hl 0).symm
  simp only[Q8,Region.lexFrom,Q7]at a;obtain⟨⟨hr,d⟩,b⟩:=a;obtain⟨Φ,hy,c⟩:=h;exact zn h0 l.length listed α (Region.free_spec h0 d) (by simpa using hr) hy
   (pL l (k+1) _ _ (λj=>by have:=hl (j+1);simpa[S6,UQ 1 j]using this) b c)
def Sat(α:Tmp->dV)(n:Nat)(d:List Deferred)(a:Act)(w:World):Prop:=
 (∀t,α t (a.eval (.tmp t)) w)/\a.defers=d/\a.tmps.size=n
theorem Sat.put{α:Tmp->dV}{n:Nat}{d}{a:Act}{w w'}{o:Oper}{Φ v}(c:∀t,xV (α t))(h:Sat α n d a w)(j:Ext w w')
  (hd:∀e,o.dst=some e->e<n) (hv:Φ v w'):Sat (zw α o.dst Φ) n d (a.put o.dst v) w':=by
 obtain⟨h1,h2,f⟩:=h;cases k:o.dst with
 |none=>exact⟨λt=>c t _ _ _ j (h1 t),h2,f⟩
 |some e=>
  have i:=hd e k;refine⟨λt=>?_,by simpa[Act.put]using h2,by simpa[Act.put]using f⟩;by_cases b:t=e
  ·subst b;rw[kZ];have:(a.put (some t) v).eval (.tmp t)=v:=by simp[Act.put,Act.eval,f,i]
   rw[this];exact hv
  ·rw[jS _ _ _ _ (λm he=>by cases he;exact b),Act.eval_put (λl g heq=>by cases g;cases heq;exact b rfl)];exact c t _ _ _ j (h1 t)
theorem Iw{α:Tmp->dV}(a:∀t,xV (α t))(d:Option Tmp){Φ}(b:xV Φ):∀t,xV (zw α d Φ t):=by
 intro t;cases d with
 |none=>exact a t
 |some e=>
  by_cases h:t=e
  ·subst h;rw[kZ];exact b
  ·rw[jS _ _ _ _ (λc he=>by cases he;exact h)];exact a t
theorem Bw{n:Nat}{d}(hC:∀w w',C w->Ext w w'->C w')(hn:∀(i:Nat) (o:Oper),ops[i]? =some o->∀e,o.dst=some e->e<n)
  {i:Nat} {α:Tmp->dV} {a w} {K:(Tmp->dV)->Prop} {p:Act->World->Prop} {Q:Exit->Act->World->Prop} (c:∀t,xV (α t)) (hw:C w) (hs:Sat α n d a w)
  (h:∀β a w,(∀t,xV (β t))->C w->Sat β n d a w->K β->p a w) (m:Hj P ops C i K α):wpOp P ops Q i p a w:=by
 unfold Hj at m;unfold wpOp;split
 ·rename_i j;simp only[j]at m;exact h _ _ _ c hw hs m
 ·rename_i o j;simp only[j]at m;obtain⟨Φ,hy,hk⟩:=m;have b:=hy.2 a.eval w (iI a) hw (λt _=>hs.1 t);unfold xY at b;have g:=Iw c o.dst hy.1;rw[ke];split
  ·rename_i k;simp only[k,Sw]at b;left;unfold Oper.wp;generalize (execOp a.eval o).run P w=r at*;cases r with
   |ok x w'=>
    cases x<;>simp only[iA]at b<;>simp only[Oper.upon]
    case value v=>exact h _ _ _ g (hC _ _ hw b.1) (hs.put c b.1 (hn i o j) b.2) hk
    case skip=>exact h _ _ _ g (hC _ _ hw b.1) (hs.put c b.1 (hn i o j) b.2) hk
    case enter f q=>
     obtain⟨s,hc⟩:=b;refine hc.mono λe u ⟨v,he,l,hv⟩=>?_;subst he;exact h _ _ _ g (hC _ _ hw (s.trans l)) (hs.put c (s.trans l) (hn i o j) hv) hk
   |halt x w'=>simp only[iA]at b
  ·rename_i k;simp only[k]at b;exact h _ _ _ g hw (hs.put c (Tc _) (hn i o j) b) hk
theorem mQ{n:Nat}{d}(hC:∀w w',C w->Ext w w'->C w')(hn:∀(i:Nat) (o:Oper),ops[i]? =some o->∀e,o.dst=some e->e<n)
  {F:(Tmp->dV)->Prop} {Q:Exit->Act->World->Prop} (b:∀β a w,C w->Sat β n d a w->F β->Q .normal a w):∀(fuel:Nat) (listed:Array Bool) (α:Tmp->dV) (a:Act) (w:World),(∀t,xV (α t))->C w->Sat α n d a w->vz P md ops C F fuel listed α->wpAny P md ops Q fuel listed a w
 |0,_,_,_,_,_,hw,hs,h=>⟨h.1,b _ _ _ hw hs h.2⟩
 |fuel+1,_,_,_,_,g,hw,hs,h=>⟨λh0=>b _ _ _ hw hs (h.1 h0),λi hi=>Bw hC hn g hw hs (λβ k w' j f c hk=>mQ hC hn b fuel _ β k w' j f c hk) (h.2 i hi)⟩
theorem oZ{F:(Tmp->dV)->Prop}{D:List Tmp}:∀(l:List Oper) (α a:Tmp->dV),(∀t,t∉D->α t=a t)->(∀o∈l,∀e,o.dst=some e->e∈D)->sJ P ops C F l α->
  sJ P ops C (λβ=>F β/\∀t,t∉D->β t=a t) l α
 | [],_,_,h0,_,h=>⟨h,h0⟩
 |o::l,α,a,h0,c,⟨Φ,hy,hk⟩=>by
  refine⟨Φ,hy,oZ l (zw α o.dst Φ) a (λt d=>?_) (λo' b=>c o' (RU _ b)) hk⟩;rw[jS α o.dst Φ t (λe he heq=>d (by rw[heq];exact c o (R1 ..) e he))];exact h0 t d
def El(α:Tmp->dV)(w:World)(k:Array Value->Prop):List Tmp->Array Value->Prop
 | [],a=>k a
 |t::D,a=>∀x,α t x w->El α w k D (a.setIfInBounds t x)
theorem xI{α:Tmp->dV}{w}{k:Array Value->Prop}(b:Array Value):∀(D:List Tmp) (a:Array Value),a.size=b.size->(∀t,t∉D->b.getD t undef=a.getD t undef)->(∀t,α t (b.getD t undef) w)->
  El α w k D a->k b
 | [],a,d,he,_,h=>by
  have:b=a:=by
   apply U1 d.symm;intro i h1 h2;have:=he i (by simp);simpa[h1,h2]using this
  rw[this];exact h
 |t::D,a,d,he,e,h=>by
  refine xI b D (a.setIfInBounds t (b.getD t undef)) (by simpa using d) (λs hs=>?_) e (h _ (e t));by_cases c:s=t
  ·subst c;rcases Sf s b.size with f|f
   ·simp[d,f]
   ·simp[Ub f,d]
  ·rw[he s (by simp[c,hs])];simp[Rx (Ne.symm c)]
theorem wa{id:Nat}{Q:Exit->Act->World->Prop}{l:List Oper}{c:Array Value}{ds w}(S:World->Prop)(D:List Tmp)(y:∀w w',Ext w w'->S w->S w')(h0:S w)
  (hm:P.follows .mixedOrders=true) (u:Region.lexB .any l.toArray=true) (hn:(l.all λo=>o.dst.all λe=>decide (e<c.size)&&D.contains e)=true)
  (h:sJ P l.toArray (λw'=>Ext w w'/\S w') (λα=>∀w',Ext w w'->S w'->El α w' (λb=>Q .normal ⟨b,ds⟩ w') D c) l (λt v _=>v=c.getD t undef)):
  (Code.region id l.toArray true).wp P Q ⟨c,ds⟩ w:=by
 simp only[Region.lexB,Q7]at u;have g:∀o∈l,∀e,o.dst=some e->e<c.size/\e∈D:=λo j e he=>by
  have:=Rq.1 hn o j;rw[he]at this;simpa using this
 have h1:=oZ (D:=D) l _ (λt v _=>v=c.getD t undef) (λ_ _=>rfl) (λo j e he=>(g o j e he).2) h;have h2:=pL (md:=.any) (ops:=l.toArray) l 0 (Array.replicate l.toArray.size false) _ (by simp) (by simpa using u.2) h1;have x:Ext w {w with drawn:=w.drawn+1}:=⟨rfl,rfl,rfl,Rc _,λ_ _=>rfl⟩;refine wp_region_any hm ?_;have B:=mQ (P:=P) (ops:=l.toArray) (md:=.any) (n:=c.size) (d:=ds) (Q:=Q) (λz A cS f=>⟨cS.1.trans f,y _ _ f cS.2⟩)
  (λi o j e he=>(g o (by simpa using TJ j) e he).1) (λβ a w' r hs s=>?_) l.length _ _ ⟨c,ds⟩ {w with drawn:=w.drawn+1} (λt=>AF _) ⟨x,y _ _ x h0⟩ ⟨λt=>rfl,rfl,rfl⟩ h2
 ·simpa using B
 ·obtain⟨s,k⟩:=s;obtain⟨m,p,q⟩:=hs;obtain⟨b,F⟩:=a;simp only at p q;subst p;refine xI b D c q.symm (λt E=>?_) (λt=>by simpa[Act.eval]using m t) (s w' r.1 r.2);have:=m t;rw[k t E]at this;simpa[Act.eval]using this
end
end
end cG
namespace Mem
section
open Go.RowKit
def Row(w:World)(v:Value)(n:Nat)(xs:List Value):Prop:=
 (n=0/\xs=[]/\(v= .slice none 0 0\/∃a c,v= .slice (some a) 0 c/\c<=maxLen))\/
 (0<n/\∃b off c,v= .slice (some ⟨b,off,none⟩) n c/\n<=c/\c<=maxLen/\∀i u,xs[i]? =some u->w.cell? ⟨b,off+i,none⟩=some u)
theorem Row.nil(w:World):Row w (.slice none 0 0) 0 []:=.inl ⟨rfl,rfl,.inl rfl⟩
theorem Row.owns{w:World}{base:Nat}{e}{size:Nat}{v}{n:Nat}{xs}(h:w.ownsRow base e size v n xs):Row w v n xs:=by
 have hc:=λg c=>h.cells (g:=g) c;obtain⟨hl,h⟩:=h;rcases h with⟨rfl,rfl⟩|⟨g,cap,cur,rfl,h1,h2,b,a,d,f⟩
 ·exact .inl ⟨rfl,Rd (by simpa using hl),.inl rfl⟩
 ·by_cases hn:n=0
  ·subst hn;exact .inl ⟨rfl,Rd (by simpa using hl),.inr ⟨_,_,rfl,a⟩⟩
  ·refine .inr ⟨by omega,g,0,cap,rfl,b,a,λi u hu=>?_⟩;have:=hc g rfl i u hu;rw[Addr.add_lit]at this;exact this
def ints(L:List Int):List Value:=L.map (Value.int .i64)
def Mw(w:World)(v:Value)(L:List Int):Prop:=Row w v L.length (ints L)
theorem Mw.owns{w:World}{base:Nat}{e v}{n:Nat}{L:List Int}(h:w.ownsRow base e 1 v n (ints L))(hn:n=L.length):Mw w v L:=by
 subst hn;exact Row.owns h
theorem qc{w w':World}(h:w.grownBy w' none):cG.Ext w w':=⟨h.os,h.tape,h.output,h.size,λk hk=>h.block k hk (by simp)⟩
end
end Mem
namespace PW
section
def GG:List (Nat×List Value):=[(0,[.int .u64 1,.int .u64 10,.int .u64 100,.int .u64 1000,.int .u64 10000,.int .u64 100000,.int .u64 1000000,.int .u64 10000000,.int .u64 100000000,.int .u64 1000000000,.int .u64 10000000000,.int .u64 100000000000,.int .u64 1000000000000,.int .u64 10000000000000,.int .u64 100000000000000,.int .u64 1000000000000000,.int .u64 10000000000000000,.int .u64 100000000000000000,.int .u64 1000000000000000000,.int .u64 10000000000000000000]),(1,[.int .u8 0,.int .u8 1,.int .u8 28,.int .u8 2,.int .u8 29,.int .u8 14,.int .u8 24,.int .u8 3,.int .u8 30,.int .u8 22,.int .u8 20,.int .u8 15,.int .u8 25,.int .u8 17,.int .u8 4,.int .u8 8,.int .u8 31,.int .u8 27,.int .u8 13,.int .u8 23,.int .u8 21,.int .u8 19,.int .u8 16,.int .u8 7,.int .u8 26,.int .u8 12,.int .u8 18,.int .u8 6,.int .u8 11,.int .u8 5,.int .u8 10,.int .u8 9]),(2,[.int .u8 0,.int .u8 1,.int .u8 56,.int .u8 2,.int .u8 57,.int .u8 49,.int .u8 28,.int .u8 3,.int .u8 61,.int .u8 58,.int .u8 42,.int .u8 50,.int .u8 38,.int .u8 29,.int .u8 17,.int .u8 4,.int .u8 62,.int .u8 47,.int .u8 59,.int .u8 36,.int .u8 45,.int .u8 43,.int .u8 51,.int .u8 22,.int .u8 53,.int .u8 39,.int .u8 33,.int .u8 30,.int .u8 24,.int .u8 18,.int .u8 12,.int .u8 5,.int .u8 63,.int .u8 55,.int .u8 48,.int .u8 27,.int .u8 60,.int .u8 41,.int .u8 37,.int .u8 16,.int .u8 46,.int .u8 35,.int .u8 44,.int .u8 21,.int .u8 52,.int .u8 32,.int .u8 23,.int .u8 11,.int .u8 54,.int .u8 26,.int .u8 40,.int .u8 15,.int .u8 34,.int .u8 20,.int .u8 31,.int .u8 10,.int .u8 25,.int .u8 14,.int .u8 19,.int .u8 9,.int .u8 13,.int .u8 8,.int .u8 7,.int .u8 6])]
open Go.RowKit cG Mem
inductive PV where
 |any
 |raw (v:Value)
 |slice (n:Nat) (xs:List PV)
 |bq (xs:List PV) (off:Nat)
 |agg (xs:List PV)
 |tuple (xs:List PV)
 |func (f:FuncId) (cap:List PV)
 |ptr (i off:Nat)
 |own (i:Nat)
 |bound (f:FuncId) (xs:List PV)
structure Env where
 L:Nat
 at_:Nat->Value
 M:Nat->Prop
def bL:Value->Option Nat
 | .slice (some a) _ _=>some a.block
 | .pointer (some a)=>some a.block
 | .map (some r)=>some r
 |_=>none
inductive cZ (E:Env) (w:World):Value->PV->Prop
 |any (v:Value):cZ E w v .any
 |raw (v:Value):cZ E w v (.raw v)
 |bH:cZ E w (.slice none 0 0) (.slice 0 [])
 |empty (a:Addr) (c:Nat) (h:c<=maxLen):cZ E w (.slice (some a) 0 c) (.slice 0 [])
 |slice (b off n c:Nat) (cs:List Value) (xs:List PV) (h0:0<n) (h1:n<=c) (h2:c<=maxLen) (hb:b<w.heap.size) (hM:¬E.M b)
   (hc:∀(i:Nat) x,cs[i]? =some x->w.cell? ⟨b,off+i,none⟩=some x) (hl:cs.length=xs.length) (hr:∀(i:Nat) x u,cs[i]? =some x->xs[i]? =some u->cZ E w x u):cZ E w (.slice (some ⟨b,off,none⟩) n c) (.slice n xs)
 |bq (b o off:Nat) (cs:List Value) (xs:List PV) (hb:b<w.heap.size) (hM:¬E.M b)
   (hc:∀(i:Nat) x,cs[i]? =some x->w.cell? ⟨b,o+i,none⟩=some x) (hl:cs.length=xs.length) (hr:∀(i:Nat) x u,cs[i]? =some x->xs[i]? =some u->cZ E w x u):cZ E w (.pointer (some ⟨b,o+off,none⟩)) (.bq xs off)
 |agg (cs:Array Value) (xs:List PV) (hl:cs.size=xs.length) (hr:∀(i:Nat) x u,cs[i]? =some x->xs[i]? =some u->cZ E w x u):cZ E w (.agg cs) (.agg xs)
 |tuple (cs:Array Value) (xs:List PV) (hl:cs.size=xs.length) (hr:∀(i:Nat) x u,cs[i]? =some x->xs[i]? =some u->cZ E w x u):cZ E w (.tuple cs) (.tuple xs)
 |func (f:FuncId) (cs:Array Value) (xs:List PV) (hl:cs.size=xs.length) (hr:∀(i:Nat) x u,cs[i]? =some x->xs[i]? =some u->cZ E w x u):cZ E w (.func (.func f) #[] cs) (.func f xs)
 |ptr (i off b:Nat) (hi:i<E.L) (h:E.at_ i= .pointer (some ⟨b,0,none⟩)\/∃n c,E.at_ i= .slice (some ⟨b,0,none⟩) n c):cZ E w (.pointer (some ⟨b,off,none⟩)) (.ptr i off)
 |own (i:Nat) (hi:i<E.L) (v:Value) (h:E.at_ i=v) (hs:v.oneCell'=true):cZ E w v (.own i)
 |bound (f:FuncId) (cs:Array Value) (xs:List PV) (hl:cs.size=xs.length) (hr:∀(i:Nat) x u,cs[i]? =some x->xs[i]? =some u->cZ E w x u):cZ E w (.func (.func f) cs #[]) (.bound f xs)
structure de (E:Env) (w:World) (E':Env) (w':World):Prop where
 L:E.L<=E'.L
 at_:∀i,i<E.L->E'.at_ i=E.at_ i
 M:∀b,b<w.heap.size->¬E.M b->¬E'.M b
 size:w.heap.size<=w'.heap.size
 heap:∀b,b<w.heap.size->¬E.M b->w'.heap[b]? =w.heap[b]?
theorem de.refl(E:Env)(w:World):de E w E w:=⟨Rc _,λ_ _=>rfl,λ_ _ h=>h,Rc _,λ_ _ _=>rfl⟩
abbrev UD:=@de.refl
theorem de.trans{E E' a w w' c}(h:de E w E' w')(k:de E' w' a c):de E w a c:=
 ⟨Rr h.L k.L,λi hi=>(k.at_ i (RH hi h.L)).trans (h.at_ i hi),λb hb hM=>k.M b (RH hb h.size) (h.M b hb hM),Rr h.size k.size,λb hb hM=>(k.heap b (RH hb h.size) (h.M b hb hM)).trans (h.heap b hb hM)⟩
theorem de.ext{E w w'}(h:Ext w w'):de E w E w':=⟨Rc _,λ_ _=>rfl,λ_ _ h=>h,h.size,λb hb _=>h.block b hb⟩
theorem oq{w w':World}{a:Addr}(h:w'.heap[a.block]? =w.heap[a.block]?):w'.cell? a=w.cell? a:=World.cell?_of_block h
theorem cZ.goes{E E' w w'}(g:de E w E' w'){v p}(h:cZ E w v p):cZ E' w' v p:=by
 induction h with
 |any v=>exact .any v
 |raw v=>exact .raw v
 |bH=>exact .bH
 |empty a c h=>exact .empty a c h
 |slice b off n c cs xs h0 h1 h2 hb hM hc hl _ d=>
  exact .slice b off n c cs xs h0 h1 h2 (RH hb g.size) (g.M b hb hM) (λi x hx=>by rw[oq (g.heap b hb hM)];exact hc i x hx) hl d
 |bq b o off cs xs hb hM hc hl _ d=>
  exact .bq b o off cs xs (RH hb g.size) (g.M b hb hM) (λi x hx=>by rw[oq (g.heap b hb hM)];exact hc i x hx) hl d
 |agg cs xs hl _ d=>exact .agg cs xs hl d
 |tuple cs xs hl _ d=>exact .tuple cs xs hl d
 |func f cs xs hl _ d=>exact .func f cs xs hl d
 |ptr i off b hi h=>exact .ptr i off b (RH hi g.L) (by rw[g.at_ i hi];exact h)
 |own i hi v h hs=>exact .own i (RH hi g.L) v (by rw[g.at_ i hi];exact h) hs
 |bound f cs xs hl _ d=>exact .bound f cs xs hl d
theorem cZ.ext{E w w'}(g:Ext w w'){v p}(h:cZ E w v p):cZ E w' v p:=h.goes (.ext g)
def bp(E:Env)(w:World)(cs:List Value)(xs:List PV):Prop:=cs.length=xs.length/\∀(i:Nat) x u,cs[i]? =some x->xs[i]? =some u->cZ E w x u
theorem bp.goes{E E' w w'}(g:de E w E' w'){cs xs}(h:bp E w cs xs):bp E' w' cs xs:=⟨h.1,λi x u h1 h2=>(h.2 i x u h1 h2).goes g⟩
theorem bp.nil(E:Env)(w:World):bp E w [] []:=⟨rfl,λi x u h=>by simp at h⟩
abbrev TQ:=@bp.nil
theorem bp.cons{E w c x cs xs}(h:cZ E w c x)(hs:bp E w cs xs):bp E w (c::cs) (x::xs):=by
 refine⟨by simp[hs.1],λi a u h1 h2=>?_⟩;cases i with
 |zero=>simp at h1 h2;subst h1;subst h2;exact h
 |succ i=>exact hs.2 i a u (by simpa using h1) (by simpa using h2)
abbrev SL:=@bp.cons
theorem bp.JH{E w c x cs xs}(h:bp E w (c::cs) (x::xs)):cZ E w c x/\bp E w cs xs:=
 ⟨h.2 0 c x rfl rfl,by simpa using h.1,λi a u h1 h2=>h.2 (i+1) a u (by simpa using h1) (by simpa using h2)⟩
theorem bp.append{E w cs ds xs ys}(h:bp E w cs xs)(k:bp E w ds ys):bp E w (cs++ds) (xs++ys):=by
 refine⟨by simp[h.1,k.1],λi a u h1 h2=>?_⟩;by_cases hi:i<cs.length
 ·rw[Q9 hi]at h1;rw[Q9 (by rw[<-h.1];exact hi)]at h2;exact h.2 i a u h1 h2
 ·rw[RD (by omega)]at h1;rw[RD (by rw[<-h.1];omega),<-h.1]at h2;exact k.2 _ a u h1 h2
theorem bp.set{E w}{cs:List Value}{xs:List PV}(h:bp E w cs xs)(j:Nat){c x}(hx:cZ E w c x):bp E w (cs.set j c) (xs.set j x):=by
 refine⟨by simp[h.1],λi a u h1 h2=>?_⟩;rw[Rh]at h1 h2;by_cases b:j=i
 ·rw[QY b]at h1 h2;split at h1
  ·split at h2
   ·cases h1;cases h2;exact hx
   ·cases h2
  ·cases h1
 ·rw[QZ b]at h1 h2;exact h.2 i a u h1 h2
theorem bp.take{E w}{cs:List Value}{xs:List PV}(h:bp E w cs xs)(n:Nat):bp E w (cs.take n) (xs.take n):=by
 refine⟨by simp[h.1],λi a u h1 h2=>?_⟩;rw[RV]at h1 h2;split at h1
 ·rename_i hi;rw[QY hi]at h2;exact h.2 i a u h1 h2
 ·cases h1
theorem bp.drop{E w}{cs:List Value}{xs:List PV}(h:bp E w cs xs)(n:Nat):bp E w (cs.drop n) (xs.drop n):=by
 refine⟨by simp[h.1],λi a u h1 h2=>?_⟩;rw[Su]at h1 h2;exact h.2 _ a u h1 h2
theorem bp.get{E w cs xs}(h:bp E w cs xs){i:Nat}{u}(hu:xs[i]? =some u):∃c,cs[i]? =some c/\cZ E w c u:=by
 have hi:i<cs.length:=by
  have:=(QT.1 hu).1;rw[h.1];exact this
 exact⟨cs[i],by simp[hi],h.2 i _ u (by simp[hi]) hu⟩
inductive cX where
 |cells (t:TypeId) (xs:List PV)
 |row (e:TypeId) (size n:Nat) (xs:List PV)
 |mp (kv:List (Value×PV))
def iz(base:Nat)(E:Env)(w:World)(v:Value):cX->Prop
 | .cells t xs=>∃b cs,v= .pointer (some ⟨b,0,none⟩)/\base<=b/\w.heap[b]? =some (.cells cs t (0,0))/\bp E w cs.toList xs
 | .row e size n xs=>∃cs,w.ownsRow base e size v n cs/\bp E w cs xs
 | .mp kv=>∃r a clock,v= .map (some r)/\base<=r/\w.heap[r]? =some (.map a clock)/\a.toList.map (·.key)=kv.map (·.1)/\bp E w (a.toList.map (·.val)) (kv.map (·.2))
abbrev ca:=List (Option cX)
def jq(M:Nat->Prop)(w:World):Prop:=∀g cs,(g,cs)∈GG->¬M g/\∃t a,w.heap[g]? =some (.cells cs.toArray t a)
theorem jq.goes{E E':Env}{w w'}(h:jq E.M w)(g:de E w E' w'):jq E'.M w':=λk cs hk=>by
 obtain⟨h2,t,b,a⟩:=h k cs hk;have h1:=(Rw.1 a).1;exact⟨g.M k h1 h2,t,b,by rw[g.heap k h1 h2];exact a⟩
theorem jq.sub{M M':Nat->Prop}{w}(h:jq M w)(hM:∀b,M' b->M b):jq M' w:=λk cs hk=>⟨λhm=>(h k cs hk).1 (hM k hm),(h k cs hk).2⟩
structure Sat (F:Nat->Prop) (base:Nat) (σ:ca) (E:Env) (w:World):Prop where
 bl:base<=w.heap.size
 fb:∀b,F b->b<w.heap.size/\∀i blk,σ[i]? =some (some blk)->bL (E.at_ i)≠some b
 len:E.L=σ.length
 mm:∀b,E.M b↔F b\/∃i blk,σ[i]? =some (some blk)/\bL (E.at_ i)=some b
 blk:∀i blk,σ[i]? =some (some blk)->iz base E w (E.at_ i) blk
 inj:∀i j bi bj b,σ[i]? =some (some bi)->σ[j]? =some (some bj)->bL (E.at_ i)=some b->bL (E.at_ j)=some b->i=j
 gl:jq E.M w
theorem ig{v:Value}{w:World}{base:Nat}{e}{size n:Nat}{xs}(h:w.ownsRow base e size v n xs):bL v=v.ownBlock:=by
 rcases h.2 with⟨rfl,_⟩|⟨g,cap,cur,rfl,_⟩<;>rfl
theorem iz.lt{base:Nat}{E}{w:World}{v blk}(h:iz base E w v blk){b:Nat}(hb:bL v=some b):base<=b/\b<w.heap.size:=by
 cases blk with
 |cells t xs=>
  obtain⟨b',cs,rfl,h1,h2,_⟩:=h;simp[bL]at hb;subst hb;exact⟨h1,(Rw.1 h2).1⟩
 |row e size n xs=>
  obtain⟨cs,h1,_⟩:=h;rw[ig h1]at hb;exact h1.lt b hb
 |mp kv=>
  obtain⟨r,a,ck,rfl,h1,h2,_⟩:=h;simp[bL]at hb;subst hb;exact⟨h1,(Rw.1 h2).1⟩
theorem iz.goes{base:Nat}{E E'}{w w':World}(g:de E w E' w'){v blk}(h:iz base E w v blk)(hb:∀b,bL v=some b->w'.heap[b]? =w.heap[b]?):iz base E' w' v blk:=by
 cases blk with
 |cells t xs=>
  obtain⟨b',cs,rfl,h1,h2,a⟩:=h;exact⟨b',cs,rfl,h1,by rw[hb b' rfl];exact h2,a.goes g⟩
 |row e size n xs=>
  obtain⟨cs,h1,h2⟩:=h;refine⟨cs,⟨h1.1,?_⟩,h2.goes g⟩;rcases h1.2 with h|⟨c,cap,cur,rfl,i,j,k⟩
  ·exact .inl h
  ·exact .inr ⟨c,cap,cur,rfl,i,by rw[hb c rfl];exact j,k⟩
 |mp kv=>
  obtain⟨r,d,ck,rfl,h1,h2,a,f⟩:=h;exact⟨r,d,ck,rfl,h1,by rw[hb r rfl];exact h2,a,f.goes g⟩
theorem Sat.ext{F:Nat->Prop}{base:Nat}{σ E w w'}(h:Sat F base σ E w)(a:Ext w w'):Sat F base σ E w':=
 ⟨Rr h.bl a.size,λb hb=>⟨RH (h.fb b hb).1 a.size,(h.fb b hb).2⟩,h.len,h.mm,λi blk hi=>(h.blk i blk hi).goes (.ext a) (λb hb=>a.block b ((h.blk i blk hi).lt hb).2),h.inj,h.gl.goes (.ext a)⟩
theorem Sat.lt{F:Nat->Prop}{base:Nat}{σ}{E:Env}{w:World}(h:Sat F base σ E w){b:Nat}(hb:E.M b):b<w.heap.size:=by
 rcases(h.mm b).1 hb with c|⟨i,blk,hi,a⟩
 ·exact(h.fb b c).1
 ·exact((h.blk i blk hi).lt a).2
def EF(F:Nat->Prop):Env:=⟨0,λ_=>undef,F⟩
theorem Sat.start(F:Nat->Prop)(w:World)(a:∀b,F b->b<w.heap.size)(c:jq F w):Sat F w.heap.size [] (EF F) w:=
 ⟨Rc _,λb hb=>⟨a b hb,λi blk h=>by simp at h⟩,rfl,λb=>by simp[EF],λi blk h=>by simp at h,λi j bi bj b h=>by simp at h,c⟩
abbrev T1:=@Sat.start
theorem cZ.back{E:Env}{w v p}(h:cZ (EF E.M) w v p):cZ E w v p:=
 h.goes (E:=EF E.M) (E':=E) (w:=w) (w':=w) ⟨RQ _,λi hi=>absurd hi (SK i),λ_ _ h=>h,Rc _,λ_ _ _=>rfl⟩
abbrev cq:=List (Nat×PV)
def look(k:Nat):cq->Option PV
 | []=>none
 |(j,p)::t=>bif Nat.beq k j then some p else look k t
def dt(E:Env)(w:World)(ρ:Operand->Value)(t:cq):Prop:=∀k p,look k t=some p->cZ E w (ρ (.tmp k)) p
theorem dt.goes{E E' w w'}(g:de E w E' w'){ρ:Operand->Value}{t}(h:dt E w ρ t):dt E' w' ρ t:=λk p hk=>(h k p hk).goes g
def aH(t:cq):Operand->Option PV
 | .tmp k=>look k t
 | .const v=>some (.raw v)
 | .global g=>some (.raw (.pointer (some ⟨g,0,none⟩)))
 | .func f=>some (.func f [])
theorem aD{E w}{ρ:Operand->Value}{t}(a:mq ρ)(h:dt E w ρ t){x p}(hx:aH t x=some p):cZ E w (ρ x) p:=by
 match x,hx with
 | .tmp k,hx=>exact h k p hx
 | .const v,hx=>simp[aH]at hx;subst hx;rw[a.const];exact .raw v
 | .global g,hx=>simp[aH]at hx;subst hx;rw[a.PL];exact .raw _
 | .func f,hx=>simp[aH]at hx;subst hx;rw[a.func];exact .func f #[] [] I (λi x u h=>by simp at h)
def gZ(p q:PV):Prop:=∀E w v,cZ E w v p->cZ E w v q
theorem gZ.refl(p:PV):gZ p p:=λ_ _ _ h=>h
abbrev Tv:=@gZ.refl
theorem gZ.any(p:PV):gZ p .any:=λ_ _ v _=>.any v
theorem gZ.bH:gZ (.raw (.slice none 0 0)) (.slice 0 []):=λ_ _ _ h=>by cases h;exact .bH
class IsPure (p:PV):Prop where
 out:∀(E:Env) (F:Nat->Prop) (w:World) (v:Value),(∀b,F b->E.M b)->cZ E w v p->cZ (EF F) w v p
class aP (xs:List PV):Prop where
 out:∀(i:Nat) u,xs[i]? =some u->IsPure u
instance (v:Value):IsPure (.raw v):=⟨λ_ _ _ _ _ h=>by cases h;exact .raw v⟩
instance:aP []:=⟨λi u h=>by simp at h⟩
instance (x:PV) (xs:List PV) [h:IsPure x] [hs:aP xs]:aP (x::xs):=⟨λi u hu=>by
 cases i with
 |zero=>simp at hu;subst hu;exact h
 |succ i=>exact hs.out i u (by simpa using hu)⟩
instance (xs ys:List PV) [h:aP xs] [hs:aP ys]:aP (xs++ys):=⟨λi u hu=>by
 by_cases hi:i<xs.length
 ·rw[Q9 hi]at hu;exact h.out i u hu
 ·rw[RD (by omega)]at hu;exact hs.out _ u hu⟩
theorem aP.map{α:Type}(f:α->PV)(l:List α)(h:∀a,IsPure (f a)):aP (l.map f):=⟨λi u hu=>by
 simp only[RE,R8]at hu;obtain⟨a,_,rfl⟩:=hu;exact h a⟩
theorem aP.flatMap{α:Type}(f:α->List PV)(l:List α)(h:∀a,aP (f a)):aP (l.flatMap f):=⟨λi u hu=>by
 have hm:u∈l.flatMap f:=Ro hu;obtain⟨a,_,b⟩:=S9.1 hm;obtain⟨j,c⟩:=Rv b;exact(h a).out j u c⟩
abbrev UF:=@aP.flatMap
instance (n:Nat) (xs:List PV) [h:aP xs]:IsPure (.slice n xs):=⟨λE F w v hF hv=>by
 cases hv with
 |bH=>exact .bH
 |empty a c hc=>exact .empty a c hc
 |slice b off _ c cs _ h0 h1 h2 hb hM hc hl hr=>exact .slice b off n c cs xs h0 h1 h2 hb (λhf=>hM (hF b hf)) hc hl (λi x u k1 k2=>(h.out i u k2).out E F w x hF (hr i x u k1 k2))⟩
instance (xs:List PV) (k:Nat) [h:aP xs]:IsPure (.bq xs k):=⟨λE F w v hF hv=>by
 cases hv with
 |bq b o' _ cs _ hb hM hc hl hr=>exact .bq b o' k cs xs hb (λhf=>hM (hF b hf)) hc hl (λi x u k1 k2=>(h.out i u k2).out E F w x hF (hr i x u k1 k2))⟩
instance (xs:List PV) [h:aP xs]:IsPure (.agg xs):=⟨λE F w v hF hv=>by
 cases hv with
 |agg cs _ hl hr=>exact .agg cs xs hl (λi x u k1 k2=>(h.out i u k2).out E F w x hF (hr i x u k1 k2))⟩
instance (xs:List PV) [h:aP xs]:IsPure (.tuple xs):=⟨λE F w v hF hv=>by
 cases hv with
 |tuple cs _ hl hr=>exact .tuple cs xs hl (λi x u k1 k2=>(h.out i u k2).out E F w x hF (hr i x u k1 k2))⟩
instance (f:FuncId) (xs:List PV) [h:aP xs]:IsPure (.func f xs):=⟨λE F w v hF hv=>by
 cases hv with
 |func _ cs _ hl hr=>exact .func f cs xs hl (λi x u k1 k2=>(h.out i u k2).out E F w x hF (hr i x u k1 k2))⟩
theorem bp.pure{E:Env}{F:Nat->Prop}{w cs xs}[h:aP xs](c:∀b,F b->E.M b)(hs:bp E w cs xs):bp (EF F) w cs xs:=
 ⟨hs.1,λi x u d a=>(h.out i u a).out E F w x c (hs.2 i x u d a)⟩
class ra (p:PV):Prop where
 out:∀(E E':Env) (w w':World) (v:Value),cZ E w v p->cZ E' w' v p
class sV (xs:List PV):Prop where
 out:∀(i:Nat) u,xs[i]? =some u->ra u
instance (v:Value):ra (.raw v):=⟨λ_ _ _ _ _ h=>by cases h;exact .raw v⟩
instance:sV []:=⟨λi u h=>by simp at h⟩
instance (x:PV) (xs:List PV) [h:ra x] [hs:sV xs]:sV (x::xs):=⟨λi u hu=>by
 cases i with
 |zero=>simp at hu;subst hu;exact h
 |succ i=>exact hs.out i u (by simpa using hu)⟩
instance (xs:List PV) [h:sV xs]:ra (.tuple xs):=⟨λE E' w w' v hv=>by
 cases hv with
 |tuple cs _ hl hr=>exact .tuple cs xs hl (λi x u k1 k2=>(h.out i u k2).out E E' w w' x (hr i x u k1 k2))⟩
class gH (p:PV):Prop where
 out:∀(E:Env) (w:World) (v:Value),cZ E w v p->v.oneCell'=true
class dY (xs:List PV):Prop where
 out:∀(i:Nat) u,xs[i]? =some u->gH u
instance (k:IntKind) (n:Int):gH (.raw (.int k n)):=⟨λ_ _ _ h=>by cases h;rfl⟩
instance (b:Bool):gH (.raw (.bool b)):=⟨λ_ _ _ h=>by cases h;rfl⟩
instance (b:ByteArray):gH (.raw (.string b)):=⟨λ_ _ _ h=>by cases h;rfl⟩
instance (a:Option Addr) (n c:Nat):gH (.raw (.slice a n c)):=⟨λ_ _ _ h=>by cases h;rfl⟩
instance (a:Option Addr):gH (.raw (.pointer a)):=⟨λ_ _ _ h=>by cases h;rfl⟩
instance (n:Nat) (xs:List PV):gH (.slice n xs):=⟨λ_ _ _ h=>by cases h<;>rfl⟩
instance (xs:List PV) (k:Nat):gH (.bq xs k):=⟨λ_ _ _ h=>by cases h;rfl⟩
instance (f:FuncId) (xs:List PV):gH (.func f xs):=⟨λ_ _ _ h=>by cases h;rfl⟩
instance (i k:Nat):gH (.ptr i k):=⟨λ_ _ _ h=>by cases h;rfl⟩
instance (i:Nat):gH (.own i):=⟨λ_ _ _ h=>by cases h with|own _ _ _ _ hs=>exact hs⟩
instance:dY []:=⟨λi u h=>by simp at h⟩
instance (x:PV) (xs:List PV) [h:gH x] [hs:dY xs]:dY (x::xs):=⟨λi u hu=>by
 cases i with
 |zero=>simp at hu;subst hu;exact h
 |succ i=>exact hs.out i u (by simpa using hu)⟩
theorem dY.map{α:Type}(f:α->PV)(l:List α)(h:∀a,gH (f a)):dY (l.map f):=⟨λi u hu=>by
 simp only[RE,R8]at hu;obtain⟨a,_,rfl⟩:=hu;exact h a⟩
theorem dY.flatMap{α:Type}(f:α->List PV)(l:List α)(h:∀a,dY (f a)):dY (l.flatMap f):=⟨λi u hu=>by
 have hm:u∈l.flatMap f:=Ro hu;obtain⟨a,_,b⟩:=S9.1 hm;obtain⟨j,c⟩:=Rv b;exact(h a).out j u c⟩
theorem bp.DX{E w cs xs}[h:dY xs](hs:bp E w cs xs):∀c∈cs,c.oneCell'=true:=by
 intro c hc;obtain⟨i,hi⟩:=Rv hc;have a:=(QT.1 hi).1;rw[hs.1]at a;exact(h.out i xs[i] (by simp[a])).out E w c (hs.2 i c _ hi (by simp[a]))
def jx(t:cq):List Operand->Option (List PV)
 | []=>some []
 |x::l=>match aH t x,jx t l with
  |some p,some q=>some (p::q)
  |_,_=>none
theorem kp{E w}{ρ:Operand->Value}{t}(a:mq ρ)(h:dt E w ρ t):∀ {l:List Operand} {ps},jx t l=some ps->bp E w (l.map ρ) ps
 | [],ps,hx=>by simp[jx]at hx;subst hx;exact TQ E w
 |x::l,ps,hx=>by
  simp only[jx]at hx;split at hx
  ·rename_i p q hp b;cases hx;exact SL (aD a h hp) (kp a h b)
  ·cases hx
def bE(P:Program)(σ:ca)(t:cq)(o:Oper)(p:PV):Prop:=
 ∀F base E ρ w,mq ρ->Sat F base σ E w->dt E w ρ t->iA P w (λv w'=>cZ E w' v p) ((execOp ρ o).run P w)
section
variable {P:Program} {σ:ca} {t:cq} {o:Oper}
theorem bI{w Φ v}(h:Φ v w):iA P w Φ (.ok (.value v) w):=⟨Tc _,h⟩
theorem gF{x p}(c:o.op= .move x)(hx:aH t x=some p):bE P σ t o p:=by
 intro F base E ρ w a _ b;have h:=aD a b hx;simp only[execOp,c,Sem.run_pure];exact bI h
theorem fw{x p}(c:o.op= .assign x)(hx:aH t x=some p):bE P σ t o p:=by
 intro F base E ρ w a _ b;have h:=aD a b hx;simp only[execOp,c,Sem.run_pure];exact bI h
theorem Mn{c a b p}(f:o.op= .pick c a b)(hc:aH t c=some (.raw (.bool true)))(hx:aH t a=some p):bE P σ t o p:=by
 intro F base E ρ w d _ e;have h:=aD d e hx;have h1:=aD d e hc;generalize g:ρ c=z at h1;cases h1;simp only[execOp,f,g,asBool,Sem.run_bind,Sem.run_pure,Result.andThen_ok,Sw];exact bI h
theorem Ml{c a b p}(f:o.op= .pick c a b)(hc:aH t c=some (.raw (.bool false)))(hx:aH t b=some p):bE P σ t o p:=by
 intro F base E ρ w d _ e;have h:=aD d e hx;have h1:=aD d e hc;generalize g:ρ c=z at h1;cases h1;simp only[execOp,f,g,asBool,Sem.run_bind,Sem.run_pure,Result.andThen_ok];exact bI h
theorem Pa{x ty q}(c:o.op= .unOp .not ty x)(hx:aH t x=some (.raw (.bool q))):bE P σ t o (.raw (.bool (!q))):=by
 intro F base E ρ w a _ b;have h1:=aD a b hx;generalize d:ρ x=z at h1;cases h1;simp only[execOp,c,d,Op.unary,Sem.run_bind,Sem.run_pure,Result.andThen_ok];exact bI (.raw _)
theorem mX{op x y ty i k}{a b:Int}{v}(g:o.op= .binOp op ty x y i)(hx:aH t x=some (.raw (.int k a)))(hy:aH t y=some (.raw (.int k b)))
  (hv:∀w,(binOp op ty (.int k a) (.int k b)).run P w= .ok v w):bE P σ t o (.raw v):=by
 intro F base E ρ w c _ e;have h1:=aD c e hx;have h2:=aD c e hy;generalize h:ρ x=z at h1;generalize d:ρ y=j at h2;cases h1;cases h2;have f:∀w,(eqGuard op ty x y (.int k a) (.int k b)).run P w= .ok () w:=by
  intro w;unfold eqGuard;split<;>rfl
 simp only[execOp,g,h,d,Sem.run_bind,Sem.run_pure,Result.andThen_ok,f,hv];exact bI (.raw _)
theorem O7{x y ty e k}{a b:Int}{q}(c:o.op= .binOp .lss ty x y e)(hx:aH t x=some (.raw (.int k a)))(hy:aH t y=some (.raw (.int k b)))(d:decide (a<b)=q):bE P σ t o (.raw (.bool q)):=
 mX c hx hy λw=>by simp[binOp,Op.intCmp,d]
theorem O5{x y ty e k}{a b:Int}{q}(c:o.op= .binOp .leq ty x y e)(hx:aH t x=some (.raw (.int k a)))(hy:aH t y=some (.raw (.int k b)))(d:decide (a<=b)=q):bE P σ t o (.raw (.bool q)):=
 mX c hx hy λw=>by simp[binOp,Op.intCmp,d]
theorem O4{x y ty e k}{a b:Int}{q}(c:o.op= .binOp .gtr ty x y e)(hx:aH t x=some (.raw (.int k a)))(hy:aH t y=some (.raw (.int k b)))(d:decide (b<a)=q):bE P σ t o (.raw (.bool q)):=
 mX c hx hy λw=>by simp[binOp,Op.intCmp,d]
theorem Em{x y ty e k}{a b:Int}{q}(c:o.op= .binOp .geq ty x y e)(hx:aH t x=some (.raw (.int k a)))(hy:aH t y=some (.raw (.int k b)))(d:decide (b<=a)=q):bE P σ t o (.raw (.bool q)):=
 mX c hx hy λw=>by simp[binOp,Op.intCmp,d]
theorem JP{x y ty e k}{a b:Int}{q}(c:o.op= .binOp .eql ty x y e)(hx:aH t x=some (.raw (.int k a)))(hy:aH t y=some (.raw (.int k b)))(d:decide (a=b)=q):bE P σ t o (.raw (.bool q)):=
 mX c hx hy λw=>by subst d;simp[binOp,Op.intCmp];exact SR.2 (by simp)
theorem O9{x y ty e k}{a b:Int}{q}(c:o.op= .binOp .neq ty x y e)(hx:aH t x=some (.raw (.int k a)))(hy:aH t y=some (.raw (.int k b)))(d:decide (a≠b)=q):bE P σ t o (.raw (.bool q)):=
 mX c hx hy λw=>by subst d;simp[binOp,Op.intCmp];exact SR.2 (by simp)
def In64(n:Int):Prop:= -9223372036854775808<=n/\n<=9223372036854775807
theorem lA{n:Int}(h:In64 n):IntKind.i64.wrap n=n:=IntWalk.i64_in n (by unfold In64 at h;omega)
theorem O0{x y ty e}{a b c:Int}(d:o.op= .binOp .add ty x y e)(hx:aH t x=some (.raw (.int .i64 a)))(hy:aH t y=some (.raw (.int .i64 b)))(hc:a+b=c)(hn:In64 c):bE P σ t o (.raw (.int .i64 c)):=
 mX d hx hy λw=>by simp[binOp,Op.intArith,hc,lA hn]
theorem Pe{x y ty e}{a b c:Int}(d:o.op= .binOp .sub ty x y e)(hx:aH t x=some (.raw (.int .i64 a)))(hy:aH t y=some (.raw (.int .i64 b)))(hc:a - b=c)(hn:In64 c):bE P σ t o (.raw (.int .i64 c)):=
 mX d hx hy λw=>by simp[binOp,Op.intArith,hc,lA hn]
theorem O8{x y ty e}{a b c:Int}(d:o.op= .binOp .mul ty x y e)(hx:aH t x=some (.raw (.int .i64 a)))(hy:aH t y=some (.raw (.int .i64 b)))(hc:a*b=c)(hn:In64 c):bE P σ t o (.raw (.int .i64 c)):=
 mX d hx hy λw=>by simp[binOp,Op.intArith,hc,lA hn]
theorem jV{x y ty e}{a b c:Int}(d:o.op= .binOp .quo ty x y e)(hx:aH t x=some (.raw (.int .i64 a)))(hy:aH t y=some (.raw (.int .i64 b)))(hb:b≠0)(hc:a.tdiv b=c)(hn:In64 c):bE P σ t o (.raw (.int .i64 c)):=
 mX d hx hy λw=>by simp[binOp,Op.intDiv,hb,hc,lA hn]
theorem xK{x y ty e}{a b c:Int}(d:o.op= .binOp .rem ty x y e)(hx:aH t x=some (.raw (.int .i64 a)))(hy:aH t y=some (.raw (.int .i64 b)))(hb:b≠0)(hc:a.tmod b=c):bE P σ t o (.raw (.int .i64 c)):=
 mX d hx hy λw=>by simp[binOp,Op.intDiv,hb,hc]
theorem By{op x y ty i a b v}(g:o.op= .binOp op ty x y i)(hx:aH t x=some (.raw a))(hy:aH t y=some (.raw b))
  (hv:∀w,(do eqGuard op ty x y a b;binOp op ty a b:Sem Value).run P w= .ok v w):bE P σ t o (.raw v):=by
 intro F base E ρ w d _ f;have h1:=aD d f hx;have h2:=aD d f hy;generalize h:ρ x=z at h1;generalize e:ρ y=j at h2;cases h1;cases h2;have c:=hv w;simp only[execOp,g,h,e,Sem.run_bind]at c ⊢;rw[c];exact bI (.raw _)
theorem BB{x xs}{off:Nat}(c:o.op= .nilCheck x)(hx:aH t x=some (.bq xs off)):bE P σ t o (.bq xs off):=by
 intro F base E ρ w a _ b;have h1:=aD a b hx;have h2:=h1;generalize d:ρ x=z at h1 h2;cases h1;simp only[execOp,c,d,Sem.run_pure];exact bI h2
theorem jG{x}{i off:Nat}(c:o.op= .nilCheck x)(hx:aH t x=some (.ptr i off)):bE P σ t o (.ptr i off):=by
 intro F base E ρ w a _ b;have h1:=aD a b hx;have h2:=h1;generalize d:ρ x=z at h1 h2;cases h1;simp only[execOp,c,d,Sem.run_pure];exact bI h2
theorem GX{x f cap}(c:o.op= .nilCheck x)(hx:aH t x=some (.func f cap)):bE P σ t o (.func f cap):=by
 intro F base E ρ w a _ b;have h1:=aD a b hx;have h2:=h1;generalize d:ρ x=z at h1 h2;cases h1;simp only[execOp,c,d,Sem.run_pure];exact bI h2
def kM(P:Program)(s f:Nat):Option Nat:=
 match P.underlying s with
 |some (.struct fs)=>match(fs[f]? :Option Field)with
  |some fl=>match P.info? fl.type with
   |some i=>if i.size=0 then none else some fl.offset
   |none=>none
  |none=>none
 |_=>none
theorem sx{s f off:Nat}(h:kM P s f=some off)(b o:Nat)(w:World):(Instr.fieldAt s (.pointer (some ⟨b,o,none⟩)) f).run P w= .ok (.pointer (some ⟨b,o+off,none⟩)) w:=by
 unfold kM at h;split at h
 ·rename_i fs hu;split at h
  ·rename_i fl a;split at h
   ·rename_i i hi;split at h
    ·cases h
    ·rename_i hs;cases h;simp[Instr.fieldAt,run_underlying hu,a,Instr.sureAddr,fieldPlace,sizeOf,typeInfo,hi,hs,Addr.add_lit,program,Sem.run]
   ·cases h
  ·cases h
 ·cases h
theorem vC{s f off:Nat}{x xs}{k:Nat}(e:o.op= .fieldAddr s x f)(d:kM P s f=some off)(hx:aH t x=some (.bq xs k)):bE P σ t o (.bq xs (k+off)):=by
 intro F base E ρ w a _ c;have h1:=aD a c hx;generalize g:ρ x=z at h1;cases h1 with
 |bq b o' _ cs _ hb hM hc hl hr=>
  simp only[execOp,e,g,Sem.run_bind,sx d,Result.andThen_ok,Sem.run_pure];refine bI ?_;rw[S6];exact .bq b o' _ cs xs hb hM hc hl hr
theorem vD{s f off:Nat}{x}{i k:Nat}(e:o.op= .fieldAddr s x f)(d:kM P s f=some off)(hx:aH t x=some (.ptr i k)):bE P σ t o (.ptr i (k+off)):=by
 intro F base E ρ w a _ c;have h1:=aD a c hx;generalize g:ρ x=z at h1;cases h1 with
 |ptr _ _ b hi h=>
  simp only[execOp,e,g,Sem.run_bind,sx d,Result.andThen_ok,Sem.run_pure];exact bI (.ptr i _ b hi h)
def vL(P:Program)(ty:TypeId):Option (Option Nat):=
 match P.underlying ty,P.info? ty with
 |some d,some i=>match d with
  | .struct _| .array _ _=>some (some i.size)
  |_=>if i.size=1 then some none else none
 |_,_=>none
theorem run_loadCellsFrom(a:Addr)(b:a.spot=none):∀(cs:List Value) (i:Nat) (acc:Array Value) (w:World),(∀j x,cs[j]? =some x->w.cell? ⟨a.block,a.off+(i+j),none⟩=some x)->
  (loadCellsFrom a i cs.length acc).run P w= .ok (acc++cs.toArray) w
 | [],i,acc,w,_=>by simp[loadCellsFrom]
 |c::cs,i,acc,w,h=>by
  have h0:=h 0 c rfl;have d:a.add i=⟨a.block,a.off+i,none⟩:=by
   unfold Addr.add;split
   ·rename_i hi;subst hi;cases a;simp at b;subst b;rfl
   ·rfl
  have e:=run_loadCellsFrom a b cs (i+1) (acc.push c) w (λj x hx=>by
   have:=h (j+1) x (by simpa using hx);rw[show i+1+j=i+(j+1) by omega];exact this)
  simp only[Q8,loadCellsFrom,Sem.run_bind,load,Sem.run,d];rw[show a.off+(i+0)=a.off+i by omega]at h0;rw[h0];simp only[Result.andThen_ok,e];simp
theorem nZ{ty n b off:Nat}{cs:List Value}{w:World}(hk:vL P ty=some (some n))(hl:cs.length=n)(hc:∀(j:Nat) x,cs[j]? =some x->w.cell? ⟨b,off+j,none⟩=some x):
  (Instr.loadAt ty (.pointer (some ⟨b,off,none⟩))).run P w= .ok (.agg cs.toArray) w:=by
 have a:=run_loadCellsFrom (P:=P) ⟨b,off,none⟩ rfl cs 0 #[] w (λj x hx=>by rw[Si];exact hc j x hx);rw[hl]at a;unfold vL at hk;split at hk
 ·rename_i d i hu hi;split at hk
  ·cases hk;simp[Instr.loadAt,Instr.sureAddr,loadVar,isAgg,run_underlying hu,sizeOf,typeInfo,hi,program,Sem.run,loadCells,a]
  ·cases hk;simp[Instr.loadAt,Instr.sureAddr,loadVar,isAgg,run_underlying hu,sizeOf,typeInfo,hi,program,Sem.run,loadCells,a]
  ·split at hk<;>cases hk
 ·cases hk
theorem lr{ty b off:Nat}{c}{w:World}(hk:vL P ty=some none)(hc:w.cell? ⟨b,off,none⟩=some c):
  (Instr.loadAt ty (.pointer (some ⟨b,off,none⟩))).run P w= .ok c w:=by
 unfold vL at hk;split at hk
 ·rename_i d i hu hi;split at hk
  ·cases hk
  ·cases hk
  ·rename_i h1 h2;have a:∀w,(isAgg ty).run P w= .ok false w:=by
    intro w;unfold isAgg;simp only[Sem.run_bind,run_underlying hu,Result.andThen_ok]
    rfl
   simp only[Instr.loadAt,Instr.sureAddr,loadVar,Sem.run_bind,Sem.run_pure,Result.andThen_ok,a];simp[load,Sem.run,hc]
 ·cases hk
theorem rY{ty x xs}{k:Nat}{p}(g:o.op= .load ty x)(hk:vL P ty=some none)(hx:aH t x=some (.bq xs k))(hp:xs[k]? =some p):bE P σ t o p:=by
 intro F base E ρ w e _ f;have h1:=aD e f hx;generalize h:ρ x=z at h1;cases h1 with
 |bq b o' _ cs _ hb hM hc hl hr=>
  obtain⟨c,a,d⟩:=bp.get (E:=E) (w:=w) ⟨hl,hr⟩ hp;simp only[execOp,g,h,Sem.run_bind,lr hk (hc k c a),Result.andThen_ok,Sem.run_pure];exact bI d
theorem kf{ty n:Nat}{x}{xs ys:List PV}{k:Nat}(e:o.op= .load ty x)(hk:vL P ty=some (some n))(hx:aH t x=some (.bq xs k))(hp:(xs.drop k).take n=ys)(hn:ys.length=n):bE P σ t o (.agg ys):=by
 intro F base E ρ w c _ d;have h1:=aD c d hx;generalize f:ρ x=z at h1;cases h1 with
 |bq b o' _ cs _ hb hM hc hl hr=>
  have a:bp E w ((cs.drop k).take n) ys:=by rw[<-hp];exact(bp.drop (E:=E) (w:=w) ⟨hl,hr⟩ k).take n
  have:=nZ (P:=P) (w:=w) (b:=b) (off:=o'+k) (cs:=(cs.drop k).take n) hk (by rw[a.1,hn]) (λj x hx=>by
   rw[RV]at hx;split at hx
   ·rw[Su]at hx;rw[S6];exact hc _ x hx
   ·cases hx)
  simp only[execOp,e,f,Sem.run_bind,this,Result.andThen_ok,Sem.run_pure];exact bI (.agg _ ys (by simpa using a.1) (λi x u h1 h2=>a.2 i x u (by simpa using h1) h2))
def cX.xs:cX->List PV
 | .cells _ xs=>xs
 | .row _ _ _ xs=>xs
 | .mp _=>[]
theorem Sat.cells{F:Nat->Prop}{base:Nat}{E:Env}{w:World}(h:Sat F base σ E w){i b:Nat}{blk:cX}(hi:σ[i]? =some (some blk))(hb:E.at_ i= .pointer (some ⟨b,0,none⟩)\/∃n c,E.at_ i= .slice (some ⟨b,0,none⟩) n c):
  ∃cs,bp E w cs blk.xs/\∀(j:Nat) x,cs[j]? =some x->w.cell? ⟨b,j,none⟩=some x:=by
 have a:=h.blk i blk hi;cases blk with
 |cells ty xs=>
  obtain⟨b',cs,he,h1,h2,d⟩:=a;have:b=b':=by
   rcases hb with hb|⟨n,c,hb⟩
   ·rw[hb]at he;simpa using he
   ·rw[hb]at he;cases he
  subst this;exact⟨cs.toList,d,λj x hx=>by simp only[World.cell?,h2];simpa using hx⟩
 |row e size n xs=>
  obtain⟨cs,h1,h2⟩:=a;refine⟨cs,h2,λj x hx=>?_⟩;have:=h1.cells (g:=b) (by
   rcases hb with hb|⟨n,c,hb⟩
   ·have:=ig h1;rw[hb]at this ⊢;simp[bL]at this;rw[<-this]
   ·rw[hb];rfl) j x hx
  rw[Addr.add_lit]at this;simpa using this
 |mp kv=>exact⟨[],TQ _ _,λj x hx=>by simp at hx⟩
theorem aY{ty x}{i k:Nat}{blk:cX}{p}(m:o.op= .load ty x)(hk:vL P ty=some none)(hx:aH t x=some (.ptr i k))(hi:σ[i]? =some (some blk))(hp:blk.xs[k]? =some p):bE P σ t o p:=by
 intro F base E ρ w e g j;have h1:=aD e j hx;generalize n:ρ x=z at h1;cases h1 with
 |ptr _ _ b l h=>
  obtain⟨cs,f,hc⟩:=g.cells hi h;obtain⟨c,a,d⟩:=f.get hp;simp only[execOp,m,n,Sem.run_bind,lr hk (hc k c a),Result.andThen_ok,Sem.run_pure];exact bI d
theorem ee{ty n:Nat}{x}{i k:Nat}{blk:cX}{ys:List PV}(l:o.op= .load ty x)(hk:vL P ty=some (some n))(hx:aH t x=some (.ptr i k))(hi:σ[i]? =some (some blk))(hp:(blk.xs.drop k).take n=ys)(hn:ys.length=n):bE P σ t o (.agg ys):=by
 intro F base E ρ w d e f;have h1:=aD d f hx;generalize m:ρ x=z at h1;cases h1 with
 |ptr _ _ b g h=>
  obtain⟨cs,c,hc⟩:=e.cells hi h;have a:bp E w ((cs.drop k).take n) ys:=by rw[<-hp];exact(c.drop k).take n
  have:=nZ (P:=P) (w:=w) (b:=b) (off:=k) (cs:=(cs.drop k).take n) hk (by rw[a.1,hn]) (λj x hx=>by
   rw[RV]at hx;split at hx
   ·rw[Su]at hx;exact hc _ x hx
   ·cases hx)
  simp only[execOp,l,m,Sem.run_bind,this,Result.andThen_ok,Sem.run_pure];exact bI (.agg _ ys (by simpa using a.1) (λi x u h1 h2=>a.2 i x u (by simpa using h1) h2))
theorem cC{ty n:Nat}{x}{i:Nat}{blk:cX}(a:o.op= .load ty x)(hk:vL P ty=some (some n))(hx:aH t x=some (.ptr i 0))(hi:σ[i]? =some (some blk))(hn:blk.xs.length=n):bE P σ t o (.agg blk.xs):=
 ee a hk hx hi (by rw[UC,<-hn,RC]) hn
def vS(P:Program)(ty:TypeId):Option (TypeId×Nat):=
 match P.underlying ty with
 |some (.slice e)=>match P.info? e with
  |some i=>some (e,i.size)
  |none=>none
 |_=>none
theorem gJ{ty e s:Nat}(h:vS P ty=some (e,s)):P.underlying ty=some (.slice e)/\∃i,P.info? e=some i/\i.size=s:=by
 unfold vS at h;split at h
 ·rename_i a hu;split at h
  ·rename_i i hi;cases h;exact⟨hu,i,hi,rfl⟩
  ·cases h
 ·cases h
theorem sz{ty e s b off n c:Nat}{k}{i:Int}{w}(h:vS P ty=some (e,s))(hi:0<=i)(hn:i<n):
  (Instr.indexAt ty (.slice (some ⟨b,off,none⟩) n c) (.int k i)).run P w= .ok (.pointer (some ⟨b,off+i.toNat*s,none⟩)) w:=by
 obtain⟨hu,inf,a,hs⟩:=gJ h;simp[Instr.indexAt,asIntOf,run_underlying hu,hi,hn,sizeOf,typeInfo,a,hs,Addr.add_lit,program,Sem.run]
theorem zq{ty e s n:Nat}{x l xs k}{i:Int}{j:Nat}(p:o.op= .indexAddr ty x l)(he:vS P ty=some (e,s))(hx:aH t x=some (.slice n xs))(f:aH t l=some (.raw (.int k i)))(hi:0<=i)(hn:i<n)(hj:i.toNat*s=j):bE P σ t o (.bq xs j):=by
 intro F base E ρ w d _ m;have h1:=aD d m hx;have h2:=aD d m f;generalize q:ρ x=z at h1;generalize g:ρ l=r at h2;cases h2;cases h1 with
 |bH=>omega
 |empty a c h=>omega
 |slice b off _ c cs _ h0 h1 h2 hb hM hc hl hr=>
  simp only[execOp,p,q,g,Sem.run_bind,sz he hi hn,Result.andThen_ok,Sem.run_pure,hj];exact bI (.bq b off j cs xs hb hM hc hl hr)
theorem cj{ty e s n p s':Nat}{x f xs k}{i:Int}{m j:Nat}(r:o.op= .indexAddr ty x f)(he:vS P ty=some (e,s))(hx:aH t x=some (.own m))(hm:σ[m]? =some (some (.row p s' n xs)))(b:aH t f=some (.raw (.int k i)))(hi:0<=i)(hn:i<n)(hj:i.toNat*s=j):bE P σ t o (.ptr m j):=by
 intro F base E ρ w a q l;have h1:=aD a l hx;have h2:=aD a l b;generalize u:ρ x=z at h1;generalize d:ρ f=A at h2;cases h2;cases h1 with
 |own _ c _ h _=>
  obtain⟨cs,v,y⟩:=q.blk m _ hm;rcases v.2 with⟨_,h0⟩|⟨g,cap,cur,hv,_⟩
  ·omega
  ·rw[hv]at h;subst h;simp only[execOp,r,u,d,Sem.run_bind,sz he hi hn,Result.andThen_ok,Sem.run_pure,hj,Si];exact bI (.ptr m j g c (.inr ⟨_,_,hv⟩))
def Ol(P:Program)(ty:TypeId):Option (Nat×Nat):=
 match P.underlying ty with
 |some (.array n e)=>match P.info? e with
  |some i=>some (n,i.size)
  |none=>none
 |_=>none
theorem zg{ty n s b off:Nat}{k}{i:Int}{w}(h:Ol P ty=some (n,s))(hi:0<=i)(hn:i<n):
  (Instr.indexAt ty (.pointer (some ⟨b,off,none⟩)) (.int k i)).run P w= .ok (.pointer (some ⟨b,off+i.toNat*s,none⟩)) w:=by
 unfold Ol at h;split at h
 ·rename_i n' e hu;split at h
  ·rename_i inf a;cases h;simp[Instr.indexAt,asIntOf,run_underlying hu,hi,hn,sizeOf,typeInfo,a,Addr.add_lit,program,Sem.run,Instr.sureAddr]
  ·cases h
 ·cases h
theorem pf{ty s n:Nat}{x e xs k}{i:Int}{off j:Nat}(g:o.op= .indexAddr ty x e)(he:Ol P ty=some (n,s))(hx:aH t x=some (.bq xs off))(c:aH t e=some (.raw (.int k i)))(hi:0<=i)(hn:i<n)(hj:i.toNat*s=j):bE P σ t o (.bq xs (off+j)):=by
 intro F base E ρ w a _ f;have h1:=aD a f hx;have h2:=aD a f c;generalize h:ρ x=z at h1;generalize d:ρ e=l at h2;cases h2;cases h1 with
 |bq b o' _ cs _ hb hM hc hl hr=>
  simp only[execOp,g,h,d,Sem.run_bind,zg he hi hn,Result.andThen_ok,Sem.run_pure,hj];refine bI ?_;rw[S6];exact .bq b o' _ cs xs hb hM hc hl hr
theorem GU{x}{k:Nat}{xs p}(g:o.op= .extract x k)(hx:aH t x=some (.tuple xs))(hp:xs[k]? =some p):bE P σ t o p:=by
 intro F base E ρ w e _ f;have h1:=aD e f hx;generalize h:ρ x=z at h1;cases h1 with
 |tuple cs _ hl hr=>
  obtain⟨c,b,d⟩:=bp.get (E:=E) (w:=w) (cs:=cs.toList) ⟨by simpa using hl,λi x u h1 h2=>hr i x u (by simpa using h1) h2⟩ hp;have a:cs[k]? =some c:=by simpa using b
  simp only[execOp,g,h,Instr.extract,a,Sem.run_bind,Sem.run_pure,Result.andThen_ok];exact bI d
theorem gm{f}{cs:Array Operand}{xs}(c:o.op= .makeFunc (.func f) #[] cs)(hx:jx t cs.toList=some xs):bE P σ t o (.func f xs):=by
 intro F base E ρ w a _ b;simp only[execOp,c,Instr.makeFunc,Sem.run_bind,Sem.run_pure,Result.andThen_ok];refine bI ?_;have:(Array.map ρ #[]:Array Value)= #[]:=by simp
 rw[this];have h:=kp a b hx;exact .func f _ xs (by simpa using h.1) (λi x u h1 h2=>h.2 i x u (by simpa using h1) h2)
def Can(P:Program)(f:FuncId)(ps:List PV)(R:PV->Prop):Prop:=
 ∀F w (vs:Array Value),(∀b,F b->b<w.heap.size)->jq F w->bp (EF F) w vs.toList ps->Calls P f vs w (Py (λv w'=>∃r,R r/\cZ (EF F) w' v r) w)
def enters(P:Program)(f:FuncId):Bool:=
 match P.funcs[f]? with
 |some fn=>fn.name != "runtime.NumGoroutine" &&fn.body.isSome
 |none=>false
theorem zf{f}(h:enters P f=true)(args:Array Value)(w:World):(callFunc f args).run P w= .ok (.enter f args) w:=by
 unfold enters at h;split at h
 ·rename_i fn b;simp only[Q7,bne_iff_ne,ne_eq]at h;obtain⟨h1,h2⟩:=h;have a:¬fn.body=none:=by intro hb;rw[hb]at h2;cases h2
  simp[callFunc,program,Sem.run,b,h1,a]
 ·cases h
theorem jo{f:FuncId}{x:Operand}{args:Array Operand}{a:Array TypeId}{ρ:Operand->Value}{cap:Array Value}(h:enters P f=true)(b:o.op= .call {callee:=.value x,args,argTypes:=a})(hx:ρ x= .func (.func f) #[] cap)(w:World):
  (execOp ρ o).run P w= .ok (.enter f (args.map ρ++cap)) w:=by
 have:=zf h (args.map ρ++cap) w;simp[execOp,b,resolve,hx,Deferred.ofValue,invoke,this]
theorem vB{f:FuncId}{x:Operand}{args:Array Operand}{c:Array TypeId}{cap ps:List PV}{r:PV}(n:o.op= .call {callee:=.value x,args,argTypes:=c})(m:enters P f=true)(hx:aH t x=some (.func f cap))(l:jx t args.toList=some ps)
  (hc:Can P f (ps++cap) (· =r)) [aP (ps++cap)]:bE P σ t o r:=by
 intro F base E ρ w a d g;have h1:=aD a g hx;have h2:=kp a g l;generalize p:ρ x=z at h1;cases h1 with
 |func _ cs _ hl hr=>
  rw[jo m n p w];refine⟨Tc _,?_⟩;have j:bp E w (args.map ρ++cs).toList (ps++cap):=by
   rw[TC,Ta];exact h2.append ⟨by simpa using hl,λi x u q s=>hr i x u (by simpa using q) s⟩
  refine(hc E.M w _ (λb hb=>d.lt hb) d.gl (j.pure (λ_ h=>h))).mono ?_;rintro e w' ⟨v,rfl,k,r',rfl,hv⟩;exact⟨v,rfl,k,hv.back⟩
theorem bp.le{E w cs}{xs ys:List PV}(h:bp E w cs xs)(hl:xs.length=ys.length)(hle:∀(i:Nat) x y,xs[i]? =some x->ys[i]? =some y->gZ x y):bp E w cs ys:=by
 refine⟨h.1.trans hl,λi c u h1 h2=>?_⟩;have hi:i<xs.length:=by rw[hl];exact(QT.1 h2).1
 exact hle i xs[i] u (by simp[hi]) h2 E w c (h.2 i c _ h1 (by simp[hi]))
inductive ax (σ:ca):PV->PV->Prop
 |pure {p:PV} [IsPure p]:ax σ p p
 |bH:ax σ (.raw (.slice none 0 0)) (.slice 0 [])
 |own {i e s n:Nat} {xs ys:List PV} (h:σ[i]? =some (some (.row e s n xs))) (hl:xs.length=ys.length) (hs:∀(j:Nat) x y,xs[j]? =some x->ys[j]? =some y->ax σ x y):ax σ (.own i) (.slice n ys)
 |ptr {i k:Nat} {blk:cX} {ys:List PV} (h:σ[i]? =some (some blk)) (hl:blk.xs.length=ys.length) (hs:∀(j:Nat) x y,blk.xs[j]? =some x->ys[j]? =some y->ax σ x y):ax σ (.ptr i k) (.bq ys k)
 |agg {xs ys:List PV} (hl:xs.length=ys.length) (hs:∀(j:Nat) x y,xs[j]? =some x->ys[j]? =some y->ax σ x y):ax σ (.agg xs) (.agg ys)
 |tuple {xs ys:List PV} (hl:xs.length=ys.length) (hs:∀(j:Nat) x y,xs[j]? =some x->ys[j]? =some y->ax σ x y):ax σ (.tuple xs) (.tuple ys)
 |func {f:FuncId} {xs ys:List PV} (hl:xs.length=ys.length) (hs:∀(j:Nat) x y,xs[j]? =some x->ys[j]? =some y->ax σ x y):ax σ (.func f xs) (.func f ys)
def af(σ:ca)(xs ys:List PV):Prop:=xs.length=ys.length/\∀(j:Nat) x y,xs[j]? =some x->ys[j]? =some y->ax σ x y
theorem af.nil:af σ [] []:=⟨rfl,λj x y h=>by simp at h⟩
abbrev Rl:=@af.nil
theorem af.cons{x y xs ys}(h:ax σ x y)(hs:af σ xs ys):af σ (x::xs) (y::ys):=⟨by simp[hs.1],λj a b h1 h2=>by
 cases j with
 |zero=>simp at h1 h2;subst h1;subst h2;exact h
 |succ j=>exact hs.2 j a b (by simpa using h1) (by simpa using h2)⟩
abbrev QV:=@af.cons
theorem af.pure{xs}[h:aP xs]:af σ xs xs:=⟨rfl,λj x y h1 h2=>by
 rw[h1]at h2;cases h2;haveI:=h.out j x h1;exact ax.pure⟩
abbrev Sj:=@af.pure
theorem af.append{xs ys d us}(h:af σ xs ys)(k:af σ d us):af σ (xs++d) (ys++us):=⟨by simp[h.1,k.1],λj a b h1 h2=>by
 by_cases c:j<xs.length
 ·rw[Q9 c]at h1;rw[Q9 (by rw[<-h.1];exact c)]at h2;exact h.2 j a b h1 h2
 ·rw[RD (by omega)]at h1;rw[RD (by rw[<-h.1];omega),<-h.1]at h2;exact k.2 _ a b h1 h2⟩
theorem ax.eQ{xs ys}(h:af σ xs ys):ax σ (.agg xs) (.agg ys):=.agg h.1 h.2
abbrev TI:=@ax.eQ
theorem ax.aO{xs ys}(h:af σ xs ys):ax σ (.tuple xs) (.tuple ys):=.tuple h.1 h.2
abbrev RW:=@ax.aO
theorem ax.uk{f xs ys}(h:af σ xs ys):ax σ (.func f xs) (.func f ys):=.func h.1 h.2
theorem ax.eN{i e s n:Nat}{xs ys}(h:σ[i]? =some (some (.row e s n xs)))(hs:af σ xs ys):ax σ (.own i) (.slice n ys):=.own h hs.1 hs.2
abbrev Tj:=@ax.eN
theorem ax.qw{i k:Nat}{blk:cX}{ys}(h:σ[i]? =some (some blk))(hs:af σ blk.xs ys):ax σ (.ptr i k) (.bq ys k):=.ptr h hs.1 hs.2
abbrev U4:=@ax.qw
theorem ax.rep{F:Nat->Prop}{base:Nat}{E:Env}{w}(D:Sat F base σ E w){G:Nat->Prop}(J:∀b,G b->E.M b)(A:∀b,G b->∀i blk,σ[i]? =some (some blk)->bL (E.at_ i)≠some b){p q}(hp:ax σ p q):∀v,cZ E w v p->cZ (EF G) w v q:=by
 induction hp with
 |pure=>intro v h;exact IsPure.out E G w v J h
 |bH=>intro v h;cases h;exact .bH
 | @own i e s n xs ys hs hl _ m=>
  intro v h;cases h with
  |own _ hi _ h _=>
   obtain⟨cs,H,C⟩:=D.blk i _ hs;have y:bp (EF G) w cs ys:=⟨C.1.trans hl,λj c u h1 h2=>by
    have a:j<xs.length:=by rw[hl];exact(QT.1 h2).1
    exact m j xs[j] u (by simp[a]) h2 c (C.2 j c _ h1 (by simp[a]))⟩
   have z:=H;rcases H.2 with⟨l,h0⟩|⟨g,cap,cur,l,hb,K,hn,hc,L,M⟩
   ·rw[l]at h;subst h;subst h0;have:ys=[]:=by
     have:=z.1;simp at this;subst this;exact Rd y.1.symm
    subst this;exact .bH
   ·rw[l]at h;subst h;by_cases h0:n=0
    ·subst h0;have:ys=[]:=by
      have:=z.1;simp at this;subst this;exact Rd y.1.symm
     subst this;exact .empty _ _ hc
    ·refine .slice g 0 n cap cs ys (by omega) hn hc (Rw.1 K).1 (λr=>A g r i _ hs (by rw[l];rfl)) (λj x hx=>?_) y.1 y.2;have:=z.cells (g:=g) (by rw[l];rfl) j x hx;rw[Addr.add_lit]at this;exact this
 | @ptr i k blk ys hs hl _ m=>
  intro v h;cases h with
  |ptr _ _ b hi h=>
   obtain⟨cs,C,y⟩:=D.cells hs h;have z:bp (EF G) w cs ys:=⟨C.1.trans hl,λj c u h1 h2=>by
    have a:j<blk.xs.length:=by rw[hl];exact(QT.1 h2).1
    exact m j blk.xs[j] u (by simp[a]) h2 c (C.2 j c _ h1 (by simp[a]))⟩
   have B:bL (E.at_ i)=some b:=by
    rcases h with h|⟨n,c,h⟩<;>rw[h]<;>rfl
   have:=cZ.bq (E:=EF G) (w:=w) b 0 k cs ys ((D.blk i blk hs).lt B).2 (λr=>A b r i _ hs B) (λj x hx=>by rw[Si];exact y j x hx) z.1 z.2;rw[Si]at this;exact this
 | @agg xs ys hl _ m=>
  intro v h;cases h with
  |agg cs _ d hr=>exact .agg cs ys (d.trans hl) (λj c u h1 h2=>by
    have a:j<xs.length:=by rw[hl];exact(QT.1 h2).1
    exact m j xs[j] u (by simp[a]) h2 c (hr j c _ h1 (by simp[a])))
 | @tuple xs ys hl _ m=>
  intro v h;cases h with
  |tuple cs _ d hr=>exact .tuple cs ys (d.trans hl) (λj c u h1 h2=>by
    have a:j<xs.length:=by rw[hl];exact(QT.1 h2).1
    exact m j xs[j] u (by simp[a]) h2 c (hr j c _ h1 (by simp[a])))
 | @func f xs ys hl _ m=>
  intro v h;cases h with
  |func _ cs _ d hr=>exact .func f cs ys (d.trans hl) (λj c u h1 h2=>by
    have a:j<xs.length:=by rw[hl];exact(QT.1 h2).1
    exact m j xs[j] u (by simp[a]) h2 c (hr j c _ h1 (by simp[a])))
theorem af.rep{F:Nat->Prop}{base:Nat}{E:Env}{w}(g:Sat F base σ E w){G:Nat->Prop}(f:∀b,G b->E.M b)(a:∀b,G b->∀i blk,σ[i]? =some (some blk)->bL (E.at_ i)≠some b){cs ps e}(hp:af σ ps e)(h:bp E w cs ps):bp (EF G) w cs e:=
 ⟨h.1.trans hp.1,λj c u h1 h2=>by
  have d:j<ps.length:=by rw[hp.1];exact(QT.1 h2).1
  exact(hp.2 j ps[j] u (by simp[d]) h2).rep g f a c (h.2 j c _ h1 (by simp[d]))⟩
theorem ax.plain{E:Env}{w p q}(hp:ax [] p q):∀v,cZ E w v p->cZ (EF E.M) w v q:=by
 induction hp with
 |pure=>intro v h;exact IsPure.out E E.M w v (λ_ h=>h) h
 |bH=>intro v h;cases h;exact .bH
 |own h=>simp at h
 |ptr h=>simp at h
 | @agg xs ys hl _ d=>
  intro v h;cases h with
  |agg cs _ a hr=>exact .agg cs ys (a.trans hl) (λj c u h1 h2=>by
    have b:j<xs.length:=by rw[hl];exact(QT.1 h2).1
    exact d j xs[j] u (by simp[b]) h2 c (hr j c _ h1 (by simp[b])))
 | @tuple xs ys hl _ d=>
  intro v h;cases h with
  |tuple cs _ a hr=>exact .tuple cs ys (a.trans hl) (λj c u h1 h2=>by
    have b:j<xs.length:=by rw[hl];exact(QT.1 h2).1
    exact d j xs[j] u (by simp[b]) h2 c (hr j c _ h1 (by simp[b])))
 | @func f xs ys hl _ d=>
  intro v h;cases h with
  |func _ cs _ a hr=>exact .func f cs ys (a.trans hl) (λj c u h1 h2=>by
    have b:j<xs.length:=by rw[hl];exact(QT.1 h2).1
    exact d j xs[j] u (by simp[b]) h2 c (hr j c _ h1 (by simp[b])))
theorem Mi{f:FuncId}{x:Operand}{args:Array Operand}{c:Array TypeId}{cap ps k:List PV}{r:PV}(q:o.op= .call {callee:=.value x,args,argTypes:=c})(p:enters P f=true)(hx:aH t x=some (.func f cap))(n:jx t args.toList=some ps)
  (s:af σ (ps++cap) k) (hc:Can P f k (· =r)) [d:ra r]:bE P σ t o r:=by
 intro F base E ρ w a g j;have h1:=aD a j hx;have h2:=kp a j n;generalize v:ρ x=z at h1;cases h1 with
 |func _ cs _ hl hr=>
  rw[jo p q v w];refine⟨Tc _,?_⟩;have l:bp E w (args.map ρ++cs).toList (ps++cap):=by
   rw[TC,Ta];exact h2.append ⟨by simpa using hl,λi x u y A=>hr i x u (by simpa using y) A⟩
  refine(hc (λ_=>False) w _ (λb hb=>hb.elim) (g.gl.sub λ_ h=>h.elim) (s.rep g (λ_ h=>h.elim) (λ_ h=>h.elim) l)).mono ?_;rintro e w' ⟨v',rfl,m,r',rfl,hv⟩;exact⟨_,rfl,m,d.out _ _ _ _ _ hv⟩
theorem Mh{f:FuncId}{x:Operand}{args:Array Operand}{g:Array TypeId}{cap ps l:List PV}{r:PV}(B:o.op= .call {callee:=.value x,args,argTypes:=g})(A:enters P f=true)(hx:aH t x=some (.func f cap))(y:jx t args.toList=some ps)
  (h:af [] (ps++cap) l) (hc:Can P f l (· =r)):bE P σ t o r:=by
 intro F base E ρ w a n p;have h1:=aD a p hx;have h2:=kp a p y;generalize C:ρ x=z at h1;cases h1 with
 |func _ cs _ hl hr=>
  rw[jo A B C w];refine⟨Tc _,?_⟩;have m:bp E w (args.map ρ++cs).toList (ps++cap):=by
   rw[TC,Ta];exact h2.append ⟨by simpa using hl,λi x u k d=>hr i x u (by simpa using k) d⟩
  have q:bp (EF E.M) w (args.map ρ++cs).toList l:=⟨m.1.trans h.1,λj c u k d=>by
   have D:j<(ps++cap).length:=by rw[h.1];exact(QT.1 d).1
   exact(h.2 j (ps++cap)[j] u (by simp) d).plain c (m.2 j c _ k (by simp))⟩
  refine(hc E.M w _ (λb hb=>n.lt hb) n.gl q).mono ?_;rintro e w' ⟨v,rfl,s,r',rfl,hv⟩;exact⟨v,rfl,s,hv.back⟩
theorem vF{ty e s n:Nat}{x:Operand}{xs:List PV}(f:o.op= .call {callee:=.builtin .len,args:= #[x],argTypes:= #[ty]})(he:vS P ty=some (e,s))(hx:aH t x=some (.slice n xs)):bE P σ t o (.raw (.int .i64 n)):=by
 intro F base E ρ w b _ d;have h1:=aD b d hx;obtain⟨hu,_⟩:=gJ he;generalize g:ρ x=z at h1;have:∃a c,z= .slice a n c:=by
  cases h1
  ·exact⟨_,_,rfl⟩
  ·exact⟨_,_,rfl⟩
  ·exact⟨_,_,rfl⟩
 obtain⟨a,c,rfl⟩:=this;simp[execOp,f,resolve,invoke,builtin,Builtin.len_,g,run_underlying hu,goInt];exact bI (.raw _)
theorem qU{ty e s:Nat}{x:Operand}(c:o.op= .call {callee:=.builtin .len,args:= #[x],argTypes:= #[ty]})(he:vS P ty=some (e,s))(hx:aH t x=some (.raw (.slice none 0 0))):bE P σ t o (.raw (.int .i64 0)):=by
 intro F base E ρ w a _ b;have h1:=aD a b hx;obtain⟨hu,_⟩:=gJ he;generalize d:ρ x=z at h1;cases h1;simp[execOp,c,resolve,invoke,builtin,Builtin.len_,d,run_underlying hu,goInt];exact bI (.raw _)
theorem qW{ty e s n d s':Nat}{x:Operand}{m:Nat}{xs:List PV}(k:o.op= .call {callee:=.builtin .len,args:= #[x],argTypes:= #[ty]})(he:vS P ty=some (e,s))(hx:aH t x=some (.own m))(hm:σ[m]? =some (some (.row d s' n xs))):bE P σ t o (.raw (.int .i64 n)):=by
 intro F base E ρ w b f i;have h1:=aD b i hx;obtain⟨hu,_⟩:=gJ he;generalize l:ρ x=z at h1;have:∃a c,z= .slice a n c:=by
  cases h1 with
  |own _ j _ h _=>
   obtain⟨cs,p,q⟩:=f.blk m _ hm;rcases p.2 with⟨hv,h0⟩|⟨g,cap,cur,hv,_⟩
   ·rw[hv]at h;subst h;subst h0;exact⟨_,_,rfl⟩
   ·rw[hv]at h;subst h;exact⟨_,_,rfl⟩
 obtain⟨a,c,rfl⟩:=this;simp[execOp,k,resolve,invoke,builtin,Builtin.len_,l,run_underlying hu,goInt];exact bI (.raw _)
end
section
variable {P:Program} {σ:ca} {t:cq} {o:Oper}
def lD:PV->Option (List PV)
 | .agg xs=>some xs
 | .raw v=>some (v.cells.toList.map .raw)
 | .any=>none
 | .tuple _=>none
 |p=>some [p]
theorem bp.one{E w v p}(h:cZ E w v p):bp E w [v] [p]:=SL h (TQ E w)
abbrev U2:=@bp.one
theorem mB{E w}{v:Value}{p xs}(h:cZ E w v p)(hx:lD p=some xs):bp E w v.cells.toList xs:=by
 cases h with
 |any=>cases hx
 |raw=>
  simp only[lD,SF]at hx;subst hx;refine⟨by simp,λi x u h1 h2=>?_⟩;rw[RE,h1]at h2;cases h2;exact .raw x
 |bH=>cases hx;exact U2 .bH
 |empty a c h=>cases hx;exact U2 (.empty a c h)
 |slice b off n c cs xs h0 h1 h2 hb hM hc hl hr=>cases hx;exact U2 (.slice b off n c cs _ h0 h1 h2 hb hM hc hl hr)
 |bq b o' off cs xs hb hM hc hl hr=>cases hx;exact U2 (.bq b o' off cs _ hb hM hc hl hr)
 |agg cs xs hl hr=>cases hx;exact⟨by simpa[Value.cells]using hl,λi x u h1 h2=>hr i x u (by simpa[Value.cells]using h1) h2⟩
 |tuple cs xs hl hr=>cases hx
 |func f cs xs hl hr=>cases hx;exact U2 (.func f cs _ hl hr)
 |bound f cs xs hl hr=>cases hx;exact U2 (.bound f cs _ hl hr)
 |ptr i off b hi h=>cases hx;exact U2 (.ptr i off b hi h)
 |own i hi v h hs=>
  cases hx;have:v.cells= #[v]:=by cases v<;>first|rfl|cases hs
  rw[this];exact U2 (.own i hi v h hs)
def over(cells:List PV)(off:Nat)(ys:List PV):List PV:=cells.take off++(ys++cells.drop (off+ys.length))
def lO(place:Nat->Option (Nat×Nat))(cells:List PV):List (Nat×List PV)->Option (List PV)
 | []=>some cells
 |(i,ys)::rest=>match place i with
  |none=>none
  |some (off,size)=>bif Nat.beq ys.length size&&Nat.ble (off+size) cells.length then lO place (over cells off ys) rest else none
theorem ui:∀(l:List Value) (j off:Nat) (cs:Array Value),off+j+l.length<=cs.size->
  (((l.zipIdx j).foldl (λcs (c,j)=>cs.setIfInBounds (off+j) c) cs).toList=cs.toList.take (off+j)++(l++cs.toList.drop (off+j+l.length)))
 | [],j,off,cs,_=>by simp
 |c::l,j,off,cs,h=>by
  simp only[Q8]at h;have b:off+j<cs.toList.length:=by rw[RS];omega
  rw[List.zipIdx_cons,SA,ui l (j+1) off _ (by simp;omega)];simp only[Array.toList_setIfInBounds];rw[show off+(j+1)=off+j+1 by omega,List.take_set,List.drop_set,QY (by omega),SN];have a:cs.toList[off+j]?.toList=[cs.toList[off+j]]:=by simp
  rw[a,Tk _ _ (by rw[Sg];omega),Sg,Tt (by omega)];simp[S6,UQ 1 l.length,Nat.add_left_comm]
theorem IU{E w}{cs:Array Value}{vs:List Value}{xs ys}(h:bp E w cs.toList xs)(k:bp E w vs ys)(off:Nat)(hl:off+vs.length<=cs.size):
  bp E w ((vs.zipIdx).foldl (λcs (c,j)=>cs.setIfInBounds (off+j) c) cs).toList (over xs off ys):=by
 have:=ui vs 0 off cs (by omega);simp only[Tl]at this;rw[this];unfold over;rw[<-k.1];exact(h.take off).append (k.append (h.drop _))
theorem nG{E w}(place:Nat->Option (Nat×Nat)):∀(vs:List (Nat×Value)) (ps:List (Nat×List PV)) (cs:Array Value) (xs ys:List PV),bp E w cs.toList xs->vs.length=ps.length->
  (∀(i:Nat) (v:Nat×Value) (p:Nat×List PV),vs[i]? =some v->ps[i]? =some p->v.1=p.1/\bp E w v.2.cells.toList p.2)->lO place xs ps=some ys->∃d,Instr.fill place cs vs=some d/\bp E w d.toList ys
 | [],[],cs,xs,ys,h,_,_,c=>by simp only[lO,SF]at c;subst c;exact⟨cs,rfl,h⟩
 | [],_::_,_,_,_,_,hl,_,_=>by simp at hl
 |_::_,[],_,_,_,_,hl,_,_=>by simp at hl
 |(i,v)::vs,(j,p)::ps,cs,xs,ys,h,hl,hp,c=>by
  obtain⟨he,hv⟩:=hp 0 (i,v) (j,p) I I;simp only at he hv;subst he;simp only[lO]at c;split at c
  ·cases c
  ·rename_i off size f;rw[RI]at c;split at c
   ·rename_i hc;simp only[Q7,Nat.beq_eq,Tu]at hc;have m:v.cells.size=size:=by have:=hv.1;rw[RS]at this;omega
    have l:cs.size=xs.length:=by have:=h.1;rw[RS]at this;exact this
    have g:=IU h hv off (by rw[RS];omega);obtain⟨d,h1,h2⟩:=nG place vs ps _ _ ys g (by simpa using hl) (λk a b h1 h2=>hp (k+1) a b (by simpa using h1) (by simpa using h2)) c;refine⟨d,?_,h2⟩;have e:(v.cells.size≠size||decide (off+v.cells.size>cs.size))=false:=by simp;omega
    simp only[Instr.fill,f];rw[QZ (by simp;omega)];have:(Array.zipIdx v.cells).foldl (λcs (x:Value×Nat)=>cs.setIfInBounds (off+x.2) x.1) cs=(v.cells.toList.zipIdx).foldl (λcs (x:Value×Nat)=>cs.setIfInBounds (off+x.2) x.1) cs:=by
     rw[<-Array.foldl_toList,Array.toList_zipIdx]
    rw[this];exact h1
   ·cases c
def ib(t:cq):List (Nat×Operand)->Option (List (Nat×List PV))
 | []=>some []
 |(i,x)::l=>match aH t x with
  |none=>none
  |some p=>match lD p,ib t l with
   |some q,some r=>some ((i,q)::r)
   |_,_=>none
theorem lN{E w}{ρ:Operand->Value}(a:mq ρ)(h:dt E w ρ t):∀(l:List (Nat×Operand)) (ps:List (Nat×List PV)),ib t l=some ps->
  (l.map λx=>(x.1,ρ x.2)).length=ps.length/\∀(i:Nat) (v:Nat×Value) (p:Nat×List PV),(l.map λx=>(x.1,ρ x.2))[i]? =some v->ps[i]? =some p->v.1=p.1/\bp E w v.2.cells.toList p.2
 | [],ps,hx=>by simp only[ib,SF]at hx;subst hx;exact⟨rfl,λi v p h=>by simp at h⟩
 |(i,x)::l,ps,hx=>by
  simp only[ib]at hx;split at hx
  ·cases hx
  ·rename_i p hp;split at hx
   ·rename_i q r d hr;cases hx;obtain⟨h1,h2⟩:=lN a h l r hr;refine⟨by simpa using h1,λk v p' b c=>?_⟩;cases k with
    |zero=>
     simp at b c;subst b;subst c;exact⟨rfl,mB (aD a h hp) d⟩
    |succ k=>exact h2 k v p' (by simpa using b) (by simpa using c)
   ·cases hx
def Pu(P:Program)(ty:TypeId):Option (List (Nat×Nat)×List Value):=
 match P.info? ty,P.underlying ty with
 |some it,some (.struct fields)=>
  match it.zero,fields.toList.mapM (λf=>(P.info? f.type).map λi=>(f.offset,i.size))with
  |some z,some places=>some (places,z.cells.toList)
  |_,_=>none
 |_,_=>none
theorem gT{ty}{parts:Array (Nat×Operand)}{places:List (Nat×Nat)}{zero:List Value}{ps:List (Nat×List PV)}{xs}(k:o.op= .build ty parts)(hk:Pu P ty=some (places,zero))(hp:ib t parts.toList=some ps)
  (j:lO (places[·]?) (zero.map .raw) ps=some xs):bE P σ t o (.agg xs):=by
 intro F base E ρ w f m h;obtain⟨h1,h2⟩:=lN f h parts.toList ps hp;have l:bp E w zero.toArray.toList (zero.map .raw):=⟨by simp,λi x u b c=>by
  simp only[RE,R8]at c;obtain⟨y,hy,rfl⟩:=c;simp only at b;rw[hy]at b;cases b;exact .raw _⟩
 obtain⟨cs,hc,g⟩:=nG (places[·]?) _ ps zero.toArray _ xs l h1 h2 j;have hb:P.built ty ((parts.map fun(i,x)=>(i,ρ x)).toList)=some cs:=by
  unfold Pu at hk;split at hk
  ·rename_i it fields Ao hu;split at hk
   ·rename_i z pl e d;cases hk;simp only[Program.built,Ao,hu,e,d,Ta];simpa using hc
   ·cases hk
  ·cases hk
 have a:=run_build (P:=P) w ty (parts.map fun(i,x)=>(i,ρ x)) cs hb;simp only[execOp,k,Sem.run_bind,a,Result.andThen_ok,Sem.run_pure];exact bI (.agg cs xs (by have:=g.1;rw[RS]at this;exact this) (λi x u b c=>g.2 i x u (by simpa using b) c))
theorem wD{F:Nat->Prop}{base:Nat}{E:Env}{w:World}(a:Sat F base σ E w):¬E.M w.heap.size:=λh=>Nat.lt_irrefl _ (a.lt h)
theorem size_alloc(w:World)(o:Obj):(w.alloc o).heap.size=w.heap.size+1:=by simp
theorem LG{F:Nat->Prop}{base:Nat}{E}{w:World}(b:Sat F base σ E w)(cs:Array Value)(e:TypeId){xs}(h:bp E w cs.toList xs):cZ E (w.alloc (.cells cs e)) (.pointer (some ⟨w.heap.size,0,none⟩)) (.bq xs 0):=by
 have a:Ext w (w.alloc (.cells cs e)):=(Tc w).alloc _;have:=cZ.bq (E:=E) (w:=w.alloc (.cells cs e)) w.heap.size 0 0 cs.toList xs (by rw[size_alloc];exact UM _) (wD b) (λi x hx=>by simp only[World.cell?,heap_alloc_new];simpa using hx) h.1 (λi x u c d=>(h.2 i x u c d).ext a);exact this
theorem Gv{F:Nat->Prop}{base:Nat}{E}{w:World}(b:Sat F base σ E w)(cs:Array Value)(e:TypeId){n:Nat}(hn:n<=maxLen){xs}(h0:0<n)(h:bp E w cs.toList xs):cZ E (w.alloc (.cells cs e)) (.slice (some ⟨w.heap.size,0,none⟩) n n) (.slice n xs):=by
 have a:Ext w (w.alloc (.cells cs e)):=(Tc w).alloc _;exact cZ.slice (E:=E) (w:=w.alloc (.cells cs e)) w.heap.size 0 n n cs.toList xs h0 (Rc _) hn (by rw[size_alloc];exact UM _) (wD b) (λi x hx=>by simp only[World.cell?,heap_alloc_new];simpa using hx) h.1 (λi x u c d=>(h.2 i x u c d).ext a)
theorem JN{ty x p xs}(d:o.op= .box ty x)(hx:aH t x=some p)(hc:lD p=some xs):bE P σ t o (.bq xs 0):=by
 intro F base E ρ w a b c;have h:=mB (aD a c hx) hc;have hr:(Instr.box ty (ρ x)).run P w= .ok (.pointer (some ⟨w.heap.size,0,none⟩)) (w.alloc (.cells (ρ x).cells ty)):=by
  simp[Instr.box,newVar,newRow]
 simp only[execOp,d,Sem.run_bind,hr,Result.andThen_ok,Sem.run_pure];exact⟨(Tc w).alloc _,LG b _ _ h⟩
def MW(P:Program)(ty:TypeId):Option (TypeId×Nat×List Value):=
 match P.underlying ty with
 |some (.slice e)=>match P.info? e with
  |some i=>match i.zero with
   |some z=>if z.cells.size=i.size/\0<i.size then some (e,i.size,z.cells.toList) else none
   |none=>none
  |none=>none
 |_=>none
theorem qM{ty e s:Nat}{z:List Value}(h:MW P ty=some (e,s,z)):P.underlying ty=some (.slice e)/\∃i a,P.info? e=some i/\i.size=s/\i.zero=some a/\a.cells.toList=z/\z.length=s/\0<s:=by
 unfold MW at h;split at h
 ·rename_i c hu;split at h
  ·rename_i i hi;split at h
   ·rename_i a b;split at h
    ·rename_i hc;cases h;exact⟨hu,i,a,hi,rfl,b,rfl,by simpa using hc.1,hc.2⟩
    ·cases h
   ·cases h
  ·cases h
 ·cases h
def dQ(z:List PV):Nat->List PV
 |0=>[]
 |n+1=>z++dQ z n
theorem xP(z:List PV)(n:Nat):(dQ z n).length=n*z.length:=by
 induction n with
 |zero=>simp[dQ]
 |succ n a=>simp[dQ,a,SB];omega
theorem xO(z:List PV):∀(n i:Nat),i<n*z.length->(dQ z n)[i]? =z[i % z.length]?
 |0,i,h=>by simp at h
 |n+1,i,h=>by
  simp only[dQ];by_cases hi:i<z.length
  ·rw[Q9 hi,UN hi]
  ·rw[RD (by omega),xO z n (i - z.length) (by rw[SB]at h;omega)];rw[Nat.mod_eq_sub_mod (by omega:i>=z.length)]
theorem o3{E w}(z:Array Value)(n m:Nat)(hm:m=n*z.size):bp E w ((Array.range m).map (z[· % z.size]!)).toList (dQ (z.toList.map .raw) n):=by
 refine⟨by simp[xP,hm],λi x u h1 h2=>?_⟩;have hi:i<m:=by have:=(QT.1 h1).1;simpa using this
 rw[xO _ _ _ (by simp;omega)]at h2;have b:0<z.size:=by
  rcases SS z.size with h|h
  ·rw[h]at hm;simp at hm;omega
  ·exact h
 have a:=Nat.mod_lt i b;simp[hi]at h1;simp[a]at h2;subst h1;subst h2;have:z[i % z.size]! =z[i % z.size]:=by simp[a]
 rw[this];exact .raw _
theorem iT{ty e s n:Nat}{parts:Array (Nat×Operand)}{z:List Value}{ps:List (Nat×List PV)}{xs}(r:o.op= .buildSlice ty n parts)(hk:MW P ty=some (e,s,z))(hn:0<n/\n*s<=16777216)(hp:ib t parts.toList=some ps)
  (p:lO (λi=>some (i*s,s)) (dQ (z.map .raw) n) ps=some xs):bE P σ t o (.slice n xs):=by
 intro F base E ρ w j l m;obtain⟨h1,h2⟩:=lN j m parts.toList ps hp;obtain⟨hu,i,d,hi,hs,u,c,g,a⟩:=qM hk;have h:d.cells.size=s:=by rw[<-g,<-c];simp
 have f:bp E w ((Array.range (n*s)).map (d.cells[· % d.cells.size]!)).toList (dQ (z.map .raw) n):=by
  rw[<-c];exact o3 d.cells n (n*s) (by rw[h])
 obtain⟨cs,hc,k⟩:=nG (λi=>some (i*s,s)) _ ps _ _ xs f h1 h2 p;have q:0<n*s:=Nat.mul_pos hn.1 a;have b:=run_buildSlice (P:=P) w ty e n (parts.map fun(i,x)=>(i,ρ x)) cs i d hu hi u (by rw[hs];omega) (by rw[hs];omega) (by rw[hs,Ta];simpa using hc);simp only[execOp,r,Sem.run_bind,b,Result.andThen_ok,Sem.run_pure];have hle:n<=n*s:=Nat.le_mul_of_pos_right n a;exact⟨(Tc w).alloc _,Gv l _ _ (by unfold maxLen;omega) hn.1 k⟩
theorem zo{ty e s:Nat}{z}(c:o.op= .buildSlice ty 0 #[])(hk:MW P ty=some (e,s,z)):bE P σ t o (.slice 0 []):=by
 intro F base E ρ w g h j;obtain⟨hu,i,l,hi,hs,k,f,d,b⟩:=qM hk;have a:(Instr.buildSlice ty 0 #[]).run P w= .ok (.slice (some ⟨w.heap.size,0,none⟩) 0 0) (w.alloc (.cells #[] e)):=by
  have:Array.map (λ_:Nat=>(default:Value)) (Array.range 0)= #[]:=by simp[Array.range]
  simp[Instr.buildSlice,run_underlying hu,sizeOf,typeInfo,hi,Instr.fill,newRow,this]
 simp only[execOp,c,Sem.run_bind,SZ,So,a,Result.andThen_ok,Sem.run_pure];exact⟨(Tc w).alloc _,.empty _ _ (RQ _)⟩
theorem pA{E w}{a:Option Addr}{n c l h m s:Nat}{xs:List PV}(hv:cZ E w (.slice a n c) (.slice n xs))(hx:xs.length=n*s)(hl:l<=h)(q:h<=n)(hm:h<=m)(k:m<=c):
  cZ E w (.slice (if m=l then a else a.map (·.add (l*s))) (h - l) (m - l)) (.slice (h - l) ((xs.drop (l*s)).take ((h - l)*s))):=by
 by_cases h0:h - l=0
 ·rw[h0];have:(xs.drop (l*s)).take (0*s)=[]:=by simp
  rw[this];have e:m - l<=maxLen\/a=none:=by
   cases hv with
   |bH=>exact .inr rfl
   |empty _ _ j=>exact .inl (by omega)
   |slice b off _ _ cs _ h0 h1 h2 hb hM hc hl hr=>exact .inl (by omega)
  cases a with
  |none=>
   cases hv;have:m - l=0:=by omega
   rw[this];split<;>exact .bH
  |some p=>
   have d:=e.resolve_right (by simp);split
   ·exact .empty _ _ d
   ·exact .empty _ _ d
 ·cases hv with
  |bH=>omega
  |empty _ _ j=>omega
  |slice b off _ _ cs _ h0 h1 h2 hb hM hc f hr=>
   rw[QZ (by omega)];have g:=((show bp E w cs xs from⟨f,hr⟩).drop (l*s)).take ((h - l)*s);have:=cZ.slice (E:=E) (w:=w) b (off+l*s) (h - l) (m - l) _ _ (by omega) (by omega) (by omega) hb hM (λi x hx=>by
    rw[RV]at hx;split at hx
    ·rw[Su]at hx;rw[S6];exact hc _ x hx
    ·cases hx) g.1 g.2
   simpa[Addr.add_lit]using this
theorem qA{E w v}{n:Nat}{xs}(h:cZ E w v (.slice n xs)):∃a c,v= .slice a n c/\n<=c/\c<=maxLen:=by
 cases h with
 |bH=>exact⟨_,_,rfl,Rc _,RQ _⟩
 |empty a c h=>exact⟨_,_,rfl,RQ _,h⟩
 |slice b off _ c cs _ h0 h1 h2=>exact⟨_,_,rfl,h1,h2⟩
theorem xM{ty e s n l:Nat}{x lo}{xs:List PV}{k}{li:Int}(y:o.op= .slice ty x (some lo) none none)(he:vS P ty=some (e,s))(hx:aH t x=some (.slice n xs))(h:aH t lo=some (.raw (.int k li)))(j:xs.length=n*s)(g:li=(l:Int))(hl:l<=n):
  bE P σ t o (.slice (n - l) ((xs.drop (l*s)).take ((n - l)*s))):=by
 intro F base E ρ w d A p;have h1:=aD d p hx;have h2:=aD d p h;obtain⟨hu,i,hi,hs⟩:=gJ he;generalize z:ρ x=v at h1;generalize m:ρ lo=u at h2;cases h2;subst g;obtain⟨a,c,rfl,f,r⟩:=qA h1;have q:=pA (s:=s) h1 j hl (Rc _) f (Rc c);have b:(Instr.sliceAt ty (.slice a n c) (some (.int k (l:Int))) none none).run P w= .ok (.slice (if c=l then a else a.map (·.add (l*s))) (n - l) (c - l)) w:=by
  simp[Instr.sliceAt,run_underlying hu,Instr.slice,Instr.sliceBounds,Instr.sliceBound,asIntOf,hl,sizeOf,typeInfo,hi,hs]
 simp only[execOp,y,z,m,SU,UR,Sem.run_bind,b,Result.andThen_ok,Sem.run_pure];exact bI q
theorem xL{ty e s n h:Nat}{x b}{xs:List PV}{k}{f:Int}(B:o.op= .slice ty x none (some b) none)(he:vS P ty=some (e,s))(hx:aH t x=some (.slice n xs))(m:aH t b=some (.raw (.int k f)))(q:xs.length=n*s)(p:f=(h:Int))(hl:h<=n):
  bE P σ t o (.slice h (xs.take (h*s))):=by
 intro F base E ρ w j D y;have h1:=aD j y hx;have h2:=aD j y m;obtain⟨hu,i,hi,hs⟩:=gJ he;generalize C:ρ x=v at h1;generalize r:ρ b=u at h2;cases h2;subst p;obtain⟨a,c,rfl,d,A⟩:=qA h1;have z:=pA (s:=s) (l:=0) h1 q (RQ _) hl (Rr hl d) (Rc c);have g:(Instr.sliceAt ty (.slice a n c) none (some (.int k (h:Int))) none).run P w= .ok (.slice (if c=0 then a else a.map (·.add (0*s))) (h - 0) (c - 0)) w:=by
  have:h<=c:=Rr hl d;simp[Instr.sliceAt,run_underlying hu,Instr.slice,Instr.sliceBounds,Instr.sliceBound,asIntOf,this,sizeOf,typeInfo,hi]
 simp only[execOp,B,C,r,SU,UR,Sem.run_bind,g,Result.andThen_ok,Sem.run_pure];refine bI ?_;simpa using z
end
structure St where
 t:cq
 σ:ca
structure dR (F:Nat->Prop) (base N:Nat) (st:St) (E:Env) (a:Act) (w:World):Prop where
 sat:Sat F base st.σ E w
 tmp:dt E w a.eval st.t
 lE:a.defers=[]
 size:a.tmps.size=N
def mY(F:Nat->Prop)(base N:Nat)(E:Env)(w:World)(K:St->Prop)(b:Act)(w':World):Prop:=
 ∃a E',K a/\dR F base N a E' b w'/\de E w E' w'/\Below base w w'
theorem Below.iK{base:Nat}{w w':World}(h:Ext w w')(hb:base<=w.heap.size):Below base w w':=Below.mono h hb
abbrev Ti:=@Below.iK
structure qY (base L:Nat) (E₀:Env) (w₀:World) (E:Env) (w:World):Prop where
 L:E₀.L=L
 g:de E₀ w₀ E w
 b:Below base w₀ w
theorem qY.on{base L:Nat}{E₀ E E' w₀ w w'}(h:qY base L E₀ w₀ E w)(g:de E w E' w')(b:Below base w w'):qY base L E₀ w₀ E' w':=⟨h.L,h.g.trans g,h.b.trans b⟩
def Sub(t t':cq):Prop:=∀k p',look k t'=some p'->∃p,look k t=some p/\gZ p p'
theorem Sub.nil(t:cq):Sub t []:=λk p h=>by cases h
theorem Sub.cons{t t'}{k:Nat}{p}(h:look k t=some p)(hs:Sub t t'):Sub t ((k,p)::t'):=λj q a=>by
 simp only[look]at a;rw[RI]at a;split at a
 ·rename_i he;have:=Rp he;subst this;cases a;exact⟨p,h,Tv p⟩
 ·exact hs j q a
theorem Sub.Nn{t t'}{k:Nat}{p q}(h:look k t=some p)(hl:gZ p q)(hs:Sub t t'):Sub t ((k,q)::t'):=λj b a=>by
 simp only[look]at a;rw[RI]at a;split at a
 ·rename_i he;have:=Rp he;subst this;cases a;exact⟨p,h,hl⟩
 ·exact hs j b a
theorem Sub.skip{t t'}{k:Nat}{p}(h:look k t'=none)(hs:Sub t t'):Sub ((k,p)::t) t':=λj q a=>by
 have b:j≠k:=λe=>by subst e;rw[h]at a;cases a
 obtain⟨p',h1,h2⟩:=hs j q a;refine⟨p',?_,h2⟩;simp only[look];rw[RI,QZ (λe=>b (Rp e))];exact h1
theorem dt.sub{E w}{ρ:Operand->Value}{t t'}(h:dt E w ρ t)(hs:Sub t t'):dt E w ρ t':=λk p hk=>by
 obtain⟨q,h1,h2⟩:=hs k p hk;exact h2 E w _ (h k q h1)
theorem dt.put{E w}{a:Act}{t}(h:dt E w a.eval t){d:Nat}{v p}(hv:cZ E w v p)(hd:d<a.tmps.size):dt E w (a.put (some d) v).eval ((d,p)::t):=λk q hk=>by
 simp only[look]at hk;rw[RI]at hk;split at hk
 ·rename_i he;have:=Rp he;subst this;cases hk;have:(a.put (some k) v).eval (.tmp k)=v:=by simp[Act.put,Act.eval,hd]
  rw[this];exact hv
 ·rename_i he;have c:k≠d:=λe=>he (by rw[e];exact US d);rw[Act.eval_put (λf b heq=>by cases b;cases heq;exact c rfl)];exact h k q hk
theorem dR.put{F:Nat->Prop}{base N:Nat}{t σ σ' E E'}{a:Act}{w w'}(h:dR F base N ⟨t,σ⟩ E a w)(hs:Sat F base σ' E' w')(g:de E w E' w'){d:Nat}(hd:Nat.blt d N=true){v p}(hv:cZ E' w' v p):dR F base N ⟨(d,p)::t,σ'⟩ E' (a.put (some d) v) w':=
 ⟨hs,dt.put (h.tmp.goes g) hv (by rw[h.size];exact Nat.blt_eq.mp hd),by simpa[Act.put]using h.lE,by simpa[Act.put]using h.size⟩
theorem dR.PX{F:Nat->Prop}{base N:Nat}{t σ σ' E E'}{a:Act}{w w'}(h:dR F base N ⟨t,σ⟩ E a w)(hs:Sat F base σ' E' w')(g:de E w E' w')(v:Value):dR F base N ⟨t,σ'⟩ E' (a.put none v) w':=
 ⟨hs,h.tmp.goes g,h.lE,h.size⟩
section
variable {P:Program} {N L:Nat} {ops:Array Oper}
def WR(P:Program)(N L:Nat)(ops:Array Oper)(l:List Oper)(st:St)(K:St->Prop):Prop:=
 ∀F base E₀ w₀ E a w,qY base L E₀ w₀ E w->dR F base N st E a w->∀(Q:Exit->Act->World->Prop) (k:Nat),(∀b w',mY F base N E₀ w₀ K b w'->Q .normal b w')->(∀j,l[j]? =ops[k+j]?)->wpOps P ops Q (List.range' k l.length) a w
theorem bg{st}{K:St->Prop}(h:K st):WR P N L ops [] st K:=by
 intro F base E₀ w₀ E a w hc hs Q k b _;exact b a w ⟨st,E,h,hs,hc.g,hc.b⟩
theorem WR.mono{l st}{K b:St->Prop}(h:WR P N L ops l st K)(hk:∀s,K s->b s):WR P N L ops l st b:=by
 intro F base E₀ w₀ E a w hc hs Q k d hl;exact h F base E₀ w₀ E a w hc hs Q k (λc w' ⟨s,E',h1,h2⟩=>d c w' ⟨s,E',hk s h1,h2⟩) hl
theorem BK{l t t' σ}{K:St->Prop}(hs:Sub t t')(h:WR P N L ops l ⟨t',σ⟩ K):WR P N L ops l ⟨t,σ⟩ K:=by
 intro F base E₀ w₀ E a w hc b;exact h F base E₀ w₀ E a w hc ⟨b.sat,b.tmp.sub hs,b.lE,b.size⟩
def fO(ops:Array Oper)(t:cq)(o:Oper):Option Bool:=
 match o.guard with
 |none=>some true
 |some (j,want)=>match(ops[j]?).bind (·.dst)with
  |some k=>match look k t with
   |some (.raw v)=>match HB v with
    |some b=>some (b==want)
    |none=>some false
   |_=>none
  |none=>none
theorem vv{E w}{a:Act}{t o b}(f:dt E w a.eval t)(h:fO ops t o=some b):mP ops o a.eval=b:=by
 unfold fO at h;unfold mP;split at h
 ·rename_i d;(try rw[d]);cases h;rfl
 ·rename_i j want d
  (try rw[d])
  (try simp only)
  split at h
  ·rename_i k hk
   (try simp only[hk])
   split at h
   ·rename_i b' hb;have:=f k _ hb;generalize a.eval (.tmp k)=z at this;cases this;split at h
    ·rename_i e c;cases h;simp[c]
    ·rename_i c;cases h;simp[c]
   ·cases h
  ·cases h
theorem pT{o:Oper}{rest t σ}{K:St->Prop}(hw:fO ops t o=some true)
  (h:∀F base E a w,dR F base N ⟨t,σ⟩ E a w->∀(next:Act->World->Prop) (Q:Exit->Act->World->Prop),(∀b w' s E',WR P N L ops rest s K->dR F base N s E' b w'->de E w E' w'->Below base w w'->next b w')->o.wp P a w next Q):
  WR P N L ops (o::rest) ⟨t,σ⟩ K:=by
 intro F base E₀ w₀ E a w hc hs Q k e hl;have h0:ops[k]? =some o:=by simpa using(hl 0).symm
 rw[Q8,TE,wpOps_cons];unfold wpOp;simp only[h0];rw[ke,vv hs.tmp hw,QY rfl];left;refine h F base E a w hs _ Q (λb w' s E' h1 h2 c d=>?_);exact h1 F base E₀ w₀ E' b w' (hc.on c d) h2 Q (k+1) e (λj=>by have:=hl (j+1);simpa[S6,UQ 1 j]using this)
theorem tv{a:Act}{w}{o:Oper}{Φ}{next:Act->World->Prop}{Q:Exit->Act->World->Prop}(h:iA P w Φ ((execOp a.eval o).run P w))(hn:∀v w',Ext w w'->Φ v w'->next (a.put o.dst v) w'):o.wp P a w next Q:=by
 unfold Oper.wp;generalize (execOp a.eval o).run P w=r at*;cases r with
 |ok x w'=>
  cases x<;>simp only[iA]at h<;>simp only[Oper.upon]
  case value v=>exact hn _ _ h.1 h.2
  case skip=>exact hn _ _ h.1 h.2
  case enter f c=>
   refine h.2.mono λe d ⟨v,he,b,hv⟩=>?_;subst he;exact hn _ _ (h.1.trans b) hv
 |halt x w'=>simp only[iA]at h
theorem bP{o:Oper}{rest t σ}{K:St->Prop}{d:Nat}{p}(hy:bE P σ t o p)(hd:o.dst=some d)(hw:fO ops t o=some true)(hN:Nat.blt d N=true)(h:WR P N L ops rest ⟨(d,p)::t,σ⟩ K):WR P N L ops (o::rest) ⟨t,σ⟩ K:=by
 refine pT hw λF base E a w hs next Q hn=>tv (hy F base E a.eval w (iI a) hs.sat hs.tmp) λv w' b hv=>hn _ _ _ E h ?_ (.ext b) (Ti b hs.sat.bl)
 rw[hd];exact hs.put (hs.sat.ext b) (.ext b) hN hv
theorem Di{o:Oper}{rest t σ}{K:St->Prop}{d:Nat}(hd:o.dst=some d)(hw:fO ops t o=some false)(hN:Nat.blt d N=true)(h:WR P N L ops rest ⟨(d,.raw undef)::t,σ⟩ K):WR P N L ops (o::rest) ⟨t,σ⟩ K:=by
 intro F base E₀ w₀ E a w hc hs Q k b hl;have h0:ops[k]? =some o:=by simpa using(hl 0).symm
 rw[Q8,TE,wpOps_cons];unfold wpOp;simp only[h0];rw[ke,vv hs.tmp hw,QZ Bool.false_ne_true];refine h F base E₀ w₀ E _ w hc ?_ Q (k+1) b (λj=>by have:=hl (j+1);simpa[S6,UQ 1 j]using this);rw[hd];exact hs.put hs.sat (UD _ _) hN (.raw _)
def cK(P:Program)(σ:ca)(t:cq)(o:Oper)(p:PV)(σ':ca):Prop:=
 ∀F base E ρ w,mq ρ->Sat F base σ E w->dt E w ρ t->∃v w' E',((execOp ρ o).run P w= .ok (.value v) w'\/(v=undef/\(execOp ρ o).run P w= .ok .skip w'))/\Sat F base σ' E' w'/\de E w E' w'/\Below base w w'/\cZ E' w' v p
theorem ep{o:Oper}{rest t σ σ'}{K:St->Prop}{d:Nat}{p}(hy:cK P σ t o p σ')(hd:o.dst=some d)(hw:fO ops t o=some true)(hN:Nat.blt d N=true)(h:WR P N L ops rest ⟨(d,p)::t,σ'⟩ K):WR P N L ops (o::rest) ⟨t,σ⟩ K:=by
 refine pT hw λF base E a w hs next Q hn=>?_
 obtain⟨v,w',E',hr,h1,h2,c,e⟩:=hy F base E a.eval w (iI a) hs.sat hs.tmp;have b:=hn (a.put o.dst v) w' _ E' h (by rw[hd];exact hs.put h1 h2 hN e) h2 c;unfold Oper.wp;rcases hr with hr|⟨rfl,hr⟩
 ·rw[hr];exact b
 ·rw[hr];exact b
theorem bc{o:Oper}{rest t σ σ'}{K:St->Prop}{p}(hy:cK P σ t o p σ')(hd:o.dst=none)(hw:fO ops t o=some true)(h:WR P N L ops rest ⟨t,σ'⟩ K):WR P N L ops (o::rest) ⟨t,σ⟩ K:=by
 refine pT hw λF base E a w hs next Q hn=>?_
 obtain⟨v,w',E',hr,h1,h2,c,d⟩:=hy F base E a.eval w (iI a) hs.sat hs.tmp;have b:=hn (a.put o.dst v) w' _ E' h (by rw[hd];exact hs.PX h1 h2 v) h2 c;unfold Oper.wp;rcases hr with hr|⟨rfl,hr⟩
 ·rw[hr];exact b
 ·rw[hr];exact b
def bM(P:Program)(f:FuncId)(ps:List PV)(σ:ca)(R:PV->ca->Prop):Prop:=
 ∀F base E w (vs:Array Value),Sat F base σ E w->bp E w vs.toList ps->Calls P f vs w λe w'=>∃v r σ' E',e= .returned v/\R r σ'/\Sat F base σ' E' w'/\de E w E' w'/\Below base w w'/\cZ E' w' v r
theorem zz{o:Oper}{rest:List Oper}{t:cq}{σ:ca}{K:St->Prop}{d:Nat}{f:FuncId}{x:Operand}{args:Array Operand}{b:Array TypeId}{cap ps:List PV}(n:o.op= .call {callee:=.value x,args,argTypes:=b})(m:enters P f=true)(hx:aH t x=some (.func f cap))(l:jx t args.toList=some ps)
  (hd:o.dst=some d) (hw:fO ops t o=some true) (hN:Nat.blt d N=true) (hc:bM P f (ps++cap) σ (λr σ'=>WR P N L ops rest ⟨(d,r)::t,σ'⟩ K)):WR P N L ops (o::rest) ⟨t,σ⟩ K:=by
 refine pT hw λF base E a w hs next Q hn=>?_
 have h1:=aD (iI a) hs.tmp hx;have h2:=kp (iI a) hs.tmp l;generalize p:a.eval x=z at h1;cases h1 with
 |func _ cs _ hl hr=>
  unfold Oper.wp;rw[jo m n p w];simp only[Oper.upon];have h:bp E w (args.map a.eval++cs).toList (ps++cap):=by
   rw[TC,Ta];exact h2.append ⟨by simpa using hl,λi x u q s=>hr i x u (by simpa using q) s⟩
  refine(hc F base E w _ hs.sat h).mono ?_;rintro e w' ⟨v,r,σ',E',rfl,k,c,g,j,hv⟩;exact hn _ _ _ E' k (by rw[hd];exact hs.put c g hN hv) g j
inductive fJ (P:Program) (N:Nat) (ops:Array Oper) (σ:ca):List Oper->cq->cq->Prop
 |nil {t t':cq}:Sub t t'->fJ P N ops σ [] t t'
 |val {o:Oper} {rest:List Oper} {t t':cq} {d:Nat} {p:PV}:bE P σ t o p->o.dst=some d->fO ops t o=some true->Nat.blt d N=true->fJ P N ops σ rest ((d,p)::t) t'->fJ P N ops σ (o::rest) t t'
 |skip {o:Oper} {rest:List Oper} {t t':cq} {d:Nat}:o.dst=some d->fO ops t o=some false->Nat.blt d N=true->fJ P N ops σ rest ((d,.raw undef)::t) t'->fJ P N ops σ (o::rest) t t'
 |le {l:List Oper} {t u t':cq}:Sub t u->fJ P N ops σ l u t'->fJ P N ops σ l t t'
theorem fJ.wr{σ l t t'}(h:fJ P N ops σ l t t'){K:St->Prop}(hk:K ⟨t',σ⟩):WR P N L ops l ⟨t,σ⟩ K:=by
 induction h with
 |nil hs=>exact BK hs (bg hk)
 |val hy hd hw hN _ a=>exact bP hy hd hw hN (a hk)
 |skip hd hw hN _ a=>exact Di hd hw hN (a hk)
 |le hs _ a=>exact BK hs (a hk)
def W(P:Program)(N L:Nat)(c:Code)(st:St)(Q:Exit->St->Prop):Prop:=
 ∀F base E₀ w₀ E a w,qY base L E₀ w₀ E w->dR F base N st E a w->c.wp P (λe b w'=>mY F base N E₀ w₀ (Q e) b w') a w
theorem W.mono{c st}{Q Q':Exit->St->Prop}(h:W P N L c st Q)(b:∀e s,Q e s->Q' e s):W P N L c st Q':=λF base E₀ w₀ E a w hc hs=>
 wp_mono (h F base E₀ w₀ E a w hc hs) λe _ _ ⟨s,E',h1,h2⟩=>⟨s,E',b e s h1,h2⟩
theorem iB{c t t' σ}{Q:Exit->St->Prop}(hs:Sub t t')(h:W P N L c ⟨t',σ⟩ Q):W P N L c ⟨t,σ⟩ Q:=λF base E₀ w₀ E a w hc b=>
 h F base E₀ w₀ E a w hc ⟨b.sat,b.tmp.sub hs,b.lE,b.size⟩
theorem aj{st}{Q:Exit->St->Prop}(h:Q .normal st):W P N L .skip st Q:=λ_ _ _ _ E _ _ hc hs=>wp_skip ⟨st,E,h,hs,hc.g,hc.b⟩
theorem ao{st}{Q:Exit->St->Prop}(h:Q .ret st):W P N L .ret st Q:=λ_ _ _ _ E _ _ hc hs=>wp_ret ⟨st,E,h,hs,hc.g,hc.b⟩
theorem ba{id:Nat}{st}{Q:Exit->St->Prop}(h:Q (.exit id) st):W P N L (.exit id) st Q:=λ_ _ _ _ E _ _ hc hs=>wp_exit ⟨st,E,h,hs,hc.g,hc.b⟩
def Ej(K:St->Prop)(Q:Exit->St->Prop):Exit->St->Prop
 | .normal,s=>K s
 |e,s=>Q e s
theorem ai{x y st}{Q:Exit->St->Prop}(h:W P N L x st (Ej (λs=>W P N L y s Q) Q)):W P N L (.seq x y) st Q:=λF base E₀ w₀ E a w hc hs=>by
 refine wp_seq (wp_mono (h F base E₀ w₀ E a w hc hs) λe d w' ⟨s,E',h1,h2,b,c⟩=>?_);cases e
 case normal=>exact h1 F base E₀ w₀ E' d w' ⟨hc.L,b,c⟩ h2
 all_goals exact⟨s,E',h1,h2,b,c⟩
theorem ae{k:Nat}{x y}{st:St}{Q:Exit->St->Prop}{b}(hc:look k st.t=some (.raw (.bool b)))(e:b=true->W P N L x st Q)(d:b=false->W P N L y st Q):W P N L (.cond (.tmp k) x y) st Q:=λF base E₀ w₀ E a w c hs=>by
 have h1:=hs.tmp k _ hc;generalize f:a.eval (.tmp k)=z at h1;cases h1;exact wp_cond_split f (λh=>e h F base E₀ w₀ E a w c hs) (λh=>d h F base E₀ w₀ E a w c hs)
theorem J9{k:Nat}{x y}{st:St}{Q:Exit->St->Prop}(hc:look k st.t=some (.raw (.bool true)))(a:W P N L x st Q):W P N L (.cond (.tmp k) x y) st Q:=ae hc (λ_=>a) (λh=>by cases h)
theorem sZ{k:Nat}{x y}{st:St}{Q:Exit->St->Prop}(hc:look k st.t=some (.raw (.bool false)))(a:W P N L y st Q):W P N L (.cond (.tmp k) x y) st Q:=ae hc (λh=>by cases h) (λ_=>a)
def HA(id:Nat)(Q:Exit->St->Prop):Exit->St->Prop
 | .exit j,s=>bif Nat.beq j id then Q .normal s else Q (.exit j) s
 |e,s=>Q e s
theorem aw{id:Nat}{c st}{Q:Exit->St->Prop}(h:W P N L c st (HA id Q)):W P N L (.block id c) st Q:=λF base E₀ w₀ E a w hc hs=>by
 refine wp_block (wp_mono (h F base E₀ w₀ E a w hc hs) λe d w' ⟨s,E',h1,h2⟩=>?_);cases e with
 |exit j=>
  simp only[HA]at h1;rw[RI]at h1;simp only[Exit.inBlock];split at h1
  ·rename_i b;rw[QY (Rp b)];exact⟨s,E',h1,h2⟩
  ·rename_i b;rw[QZ (λe=>b (by rw[e];exact US id))];exact⟨s,E',h1,h2⟩
 |normal=>exact⟨s,E',h1,h2⟩
 |goto _=>exact⟨s,E',h1,h2⟩
 |ret=>exact⟨s,E',h1,h2⟩
 |panic _=>exact⟨s,E',h1,h2⟩
 |outgrown=>exact⟨s,E',h1,h2⟩
theorem bd{c st}{Q:Exit->St->Prop}(I:Nat->St->Prop)(b:Nat)(f:I b st)(round:∀n s,I n s->W P N L c s (Ej (λs'=>∃m,m<n/\I m s') Q)):W P N L (.loop c) st Q:=λF base E₀ w₀ E a w hc hs=>by
 refine wp_loop_ghost (λn g w'=>mY F base N E₀ w₀ (I n) g w') b ⟨st,E,f,hs,hc.g,hc.b⟩ ?_;rintro n g w' ⟨s,E',h1,h2,k,l⟩;refine wp_mono (round n s h1 F base E₀ w₀ E' g w' ⟨hc.L,k,l⟩ h2) ?_;rintro e j p ⟨s',d,h,i⟩;cases e
 case normal=>
  obtain⟨m,hm,o⟩:=h;exact⟨m,hm,s',d,o,i⟩
 all_goals exact⟨s',d,h,i⟩
theorem bx{id:Nat}{l:List Oper}{st}{Q:Exit->St->Prop}(h:WR P N L l.toArray l st (λs=>Q .normal s)):W P N L (.region id l.toArray false) st Q:=λF base E₀ w₀ E a w hc hs=>by
 refine wp_region ?_;have:=h F base E₀ w₀ E a w hc hs (λe b w'=>mY F base N E₀ w₀ (Q e) b w') 0 (λb w' hp=>hp) (λj=>by simp);rw[<-Uq]at this;simpa using this
theorem aK{id:Nat}{l:List Oper}{y st}{Q:Exit->St->Prop}(h:WR P N L l.toArray l st (λs=>W P N L y s Q)):W P N L (.seq (.region id l.toArray false) y) st Q:=ai (bx h)
theorem ab{id:Nat}{l:List Oper}{y t t' σ}{Q:Exit->St->Prop}(h:fJ P N l.toArray σ l t t')(a:W P N L y ⟨t',σ⟩ Q):W P N L (.seq (.region id l.toArray false) y) ⟨t,σ⟩ Q:=aK (h.wr a)
theorem aC{id:Nat}{l:List Oper}{t t' σ}{Q:Exit->St->Prop}(h:fJ P N l.toArray σ l t t')(a:Q .normal ⟨t',σ⟩):W P N L (.region id l.toArray false) ⟨t,σ⟩ Q:=bx (h.wr a)
inductive Ren (fs:List Nat):PV->PV->Prop
 |pure {p:PV} [IsPure p]:Ren fs p p
 |any {p:PV}:Ren fs .any p
 |own {i j:Nat}:fs[i]? =some j->Ren fs (.own i) (.own j)
 |ptr {i j k:Nat}:fs[i]? =some j->Ren fs (.ptr i k) (.ptr j k)
 |agg {xs ys:List PV} (hl:ys.length=xs.length) (hs:∀(j:Nat) x y,xs[j]? =some x->ys[j]? =some y->Ren fs x y):Ren fs (.agg xs) (.agg ys)
 |tuple {xs ys:List PV} (hl:ys.length=xs.length) (hs:∀(j:Nat) x y,xs[j]? =some x->ys[j]? =some y->Ren fs x y):Ren fs (.tuple xs) (.tuple ys)
 |func {f:FuncId} {xs ys:List PV} (hl:ys.length=xs.length) (hs:∀(j:Nat) x y,xs[j]? =some x->ys[j]? =some y->Ren fs x y):Ren fs (.func f xs) (.func f ys)
 |bound {f:FuncId} {xs ys:List PV} (hl:ys.length=xs.length) (hs:∀(j:Nat) x y,xs[j]? =some x->ys[j]? =some y->Ren fs x y):Ren fs (.bound f xs) (.bound f ys)
def aG(fs:List Nat)(xs ys:List PV):Prop:=ys.length=xs.length/\∀(j:Nat) x y,xs[j]? =some x->ys[j]? =some y->Ren fs x y
theorem aG.nil{fs:List Nat}:aG fs [] []:=⟨rfl,λj x y h=>by simp at h⟩
abbrev Sy:=@aG.nil
theorem aG.cons{fs:List Nat}{x y xs ys}(h:Ren fs x y)(hs:aG fs xs ys):aG fs (x::xs) (y::ys):=⟨by simp[hs.1],λj a b h1 h2=>by
 cases j with
 |zero=>simp at h1 h2;subst h1;subst h2;exact h
 |succ j=>exact hs.2 j a b (by simpa using h1) (by simpa using h2)⟩
abbrev S2:=@aG.cons
theorem aG.pure{fs:List Nat}{xs}[h:aP xs]:aG fs xs xs:=⟨rfl,λj x y h1 h2=>by
 rw[h1]at h2;cases h2;haveI:=h.out j x h1;exact Ren.pure⟩
abbrev RZ:=@aG.pure
def Env.CU(E:Env)(fs:List Nat)(M:Nat->Prop):Env:=⟨fs.length,λi=>E.at_ (fs.getD i 0),M⟩
theorem Ren.rep{E:Env}{w}{fs:List Nat}{M:Nat->Prop}(hM:∀b,M b->E.M b){p q}(h:Ren fs p q):∀v,cZ E w v q->cZ (E.CU fs M) w v p:=by
 induction h with
 | @pure p hp=>
  intro v h;have:=hp.out E M w v hM h;exact this.goes (E:=EF M) (E':=E.CU fs M) (w:=w) (w':=w) ⟨RQ _,λi hi=>absurd hi (SK i),λ_ _ h=>h,Rc _,λ_ _ _=>rfl⟩
 |any=>intro v _;exact .any v
 | @own i j d=>
  intro v h;cases h with
  |own _ hi _ h hs=>exact .own i (QT.1 d).1 v (by simp[Env.CU,QU,d,h]) hs
 | @ptr i j k d=>
  intro v h;cases h with
  |ptr _ _ b hi h=>exact .ptr i k b (QT.1 d).1 (by simpa[Env.CU,QU,d]using h)
 | @agg xs ys hl _ g=>
  intro v h;cases h with
  |agg cs _ a hr=>exact .agg cs xs (a.trans hl) (λj c u h1 h2=>by
    have e:j<ys.length:=by rw[hl];exact(QT.1 h2).1
    exact g j u ys[j] h2 (by simp[e]) c (hr j c _ h1 (by simp[e])))
 | @tuple xs ys hl _ g=>
  intro v h;cases h with
  |tuple cs _ a hr=>exact .tuple cs xs (a.trans hl) (λj c u h1 h2=>by
    have e:j<ys.length:=by rw[hl];exact(QT.1 h2).1
    exact g j u ys[j] h2 (by simp[e]) c (hr j c _ h1 (by simp[e])))
 | @func f xs ys hl _ g=>
  intro v h;cases h with
  |func _ cs _ a hr=>exact .func f cs xs (a.trans hl) (λj c u h1 h2=>by
    have e:j<ys.length:=by rw[hl];exact(QT.1 h2).1
    exact g j u ys[j] h2 (by simp[e]) c (hr j c _ h1 (by simp[e])))
 | @bound f xs ys hl _ g=>
  intro v h;cases h with
  |bound _ cs _ a hr=>exact .bound f cs xs (a.trans hl) (λj c u h1 h2=>by
    have e:j<ys.length:=by rw[hl];exact(QT.1 h2).1
    exact g j u ys[j] h2 (by simp[e]) c (hr j c _ h1 (by simp[e])))
inductive BH (fs:List Nat):cX->cX->Prop
 |cells {ty:TypeId} {xs ys:List PV}:aG fs xs ys->BH fs (.cells ty xs) (.cells ty ys)
 |row {e s n:Nat} {xs ys:List PV}:aG fs xs ys->BH fs (.row e s n xs) (.row e s n ys)
 |eY {e s n n':Nat} {xs ys:List PV} (hn:n'=n) (h:ys=xs) [aP xs]:BH fs (.row e s n xs) (.row e s n' ys)
 |mp {kv:List (Value×PV)} [aP (kv.map (·.2))]:BH fs (.mp kv) (.mp kv)
inductive lI (fs:List Nat) (σ:ca):ca->List Nat->Prop
 |nil:lI fs σ [] []
 |gone {σ':ca} {js:List Nat} {j:Nat}:lI fs σ σ' js->lI fs σ (none::σ') (j::js)
 |kept {σ':ca} {js:List Nat} {j:Nat} {b b':cX}:σ[j]? =some (some b)->BH fs b' b->lI fs σ σ' js->lI fs σ (some b'::σ') (j::js)
theorem lI.get{fs:List Nat}{σ σ':ca}{js:List Nat}(h:lI fs σ σ' js):σ'.length=js.length/\∀(i:Nat) b',σ'[i]? =some (some b')->∃j b,js[i]? =some j/\σ[j]? =some (some b)/\BH fs b' b:=by
 induction h with
 |nil=>exact⟨rfl,λi b' h=>by simp at h⟩
 |gone _ a=>exact⟨by simp[a.1],λi b' h=>by
   cases i with
   |zero=>simp at h
   |succ i=>simpa using a.2 i b' (by simpa using h)⟩
 | @kept σ' js j b b' h1 h2 _ a=>exact⟨by simp[a.1],λi c h=>by
   cases i with
   |zero=>simp at h;subst h;exact⟨j,b,rfl,h1,h2⟩
   |succ i=>simpa using a.2 i c (by simpa using h)⟩
theorem aG.rep{E:Env}{w}{fs:List Nat}{M:Nat->Prop}(hM:∀b,M b->E.M b){xs ys}(h:aG fs xs ys){cs}(hs:bp E w cs ys):bp (E.CU fs M) w cs xs:=
 ⟨hs.1.trans h.1,λj c u h1 h2=>by
  have a:j<ys.length:=by rw[h.1];exact(QT.1 h2).1
  exact(h.2 j u ys[j] h2 (by simp[a])).rep hM c (hs.2 j c _ h1 (by simp[a]))⟩
def lF:List Nat->Bool
 | []=>true
 |x::l=> !(l.contains x)&&lF l
theorem uL:∀ {l:List Nat},lF l=true->∀(i j:Nat) x,l[i]? =some x->l[j]? =some x->i=j
 | [],_,i,j,x,h1,_=>by simp at h1
 |y::l,h,i,j,x,h1,h2=>by
  simp only[lF,Q7,R4,List.contains_eq_mem,Sb]at h;cases i with
  |zero=>
   cases j with
   |zero=>rfl
   |succ j=>simp at h1 h2;subst h1;exact absurd (Ro h2) h.1
  |succ i=>
   cases j with
   |zero=>simp at h1 h2;subst h2;exact absurd (Ro h1) h.1
   |succ j=>rw[uL h.2 i j x (by simpa using h1) (by simpa using h2)]
theorem Sat.CU{F:Nat->Prop}{base:Nat}{E:Env}{w σ σ'}{fs:List Nat}(d:Sat F base σ E w)(h:lI fs σ σ' fs)(hn:lF fs=true):
  ∃M,(∀b,M b->E.M b)/\Sat F base σ' (E.CU fs M) w:=by
 obtain⟨hl,k⟩:=h.get;have a:∀i j,fs[i]? =some j->fs.getD i 0=j:=λi j p=>by simp[QU,p]
 refine⟨λb=>F b\/∃i blk,σ'[i]? =some (some blk)/\bL (E.at_ (fs.getD i 0))=some b,λb hb=>?_,?_⟩
 ·rcases hb with hb|⟨i,blk,h1,h2⟩
  ·exact(d.mm b).2 (.inl hb)
  ·obtain⟨j,b',c,e,_⟩:=k i blk h1;rw[a i j c]at h2;exact(d.mm b).2 (.inr ⟨j,b',e,h2⟩)
 ·have hM:∀b,(F b\/∃i blk,σ'[i]? =some (some blk)/\bL (E.at_ (fs.getD i 0))=some b)->E.M b:=λb hb=>by
   rcases hb with hb|⟨i,blk,h1,h2⟩
   ·exact(d.mm b).2 (.inl hb)
   ·obtain⟨j,b',c,e,_⟩:=k i blk h1;rw[a i j c]at h2;exact(d.mm b).2 (.inr ⟨j,b',e,h2⟩)
  refine⟨d.bl,λb hb=>⟨(d.fb b hb).1,λi blk hi=>?_⟩,by simp[Env.CU,hl],λb=>Iff.rfl,λi blk hi=>?_,λi j bi bj b hi y h1 h2=>?_,d.gl.sub hM⟩
  ·obtain⟨j,b',c,e,_⟩:=k i blk hi;simp only[Env.CU,a i j c];exact(d.fb b hb).2 j b' e
  ·obtain⟨j,b',c,e,l⟩:=k i blk hi;have m:=d.blk j b' e;simp only[Env.CU,a i j c];cases l with
   |cells hr=>
    obtain⟨b,cs,f,g,s,t⟩:=m;exact⟨b,cs,f,g,s,hr.rep hM t⟩
   |row hr=>
    obtain⟨cs,f,g⟩:=m;exact⟨cs,f,hr.rep hM g⟩
   |eY q hx=>
    subst q;subst hx;obtain⟨cs,f,g⟩:=m;exact⟨cs,f,(RZ (fs:=fs)).rep hM g⟩
   |mp=>
    obtain⟨r,v,ck,f,g,s,t,z⟩:=m;exact⟨r,v,ck,f,g,s,t,(RZ (fs:=fs)).rep hM z⟩
  ·obtain⟨i',n,c,e,_⟩:=k i bi hi;obtain⟨u,o,l,x,_⟩:=k j bj y;simp only[Env.CU,a i i' c]at h1;simp only[Env.CU,a j u l]at h2;have:=d.inj i' u n o b e x h1 h2;subst this;exact uL hn i j i' c l
inductive pj (fs:List Nat) (t:cq):cq->Prop
 |nil:pj fs t []
 |cons {t':cq} {p p':PV} (k:Nat):look k t=some p->Ren fs p' p->pj fs t t'->pj fs t ((k,p')::t')
theorem pj.get{fs:List Nat}{t t'}(h:pj fs t t'):∀k p',look k t'=some p'->∃p,look k t=some p/\Ren fs p' p:=by
 induction h with
 |nil=>intro k p' h;cases h
 | @cons t' p p' k h1 h2 _ b=>
  intro j q a;simp only[look]at a;rw[RI]at a;split at a
  ·rename_i he;have:=Rp he;subst this;cases a;exact⟨p,h1,h2⟩
  ·exact b j q a
def N5(fs:List Nat):Nat->Bool
 |0=>true
 |k+1=>(match fs[k]? with|some j=>Nat.beq j k|none=>false)&&N5 fs k
theorem uu{fs:List Nat}:∀ {k:Nat},N5 fs k=true->∀i,i<k->fs[i]? =some i
 |0,_,i,hi=>by omega
 |k+1,h,i,hi=>by
  simp only[N5,Q7]at h;by_cases e:i=k
  ·subst e;obtain⟨h1,_⟩:=h;split at h1
   ·rename_i j a;rw[a,Rp h1]
   ·cases h1
  ·exact uu h.2 i (by omega)
theorem D7{F:Nat->Prop}{base:Nat}{E₀ E w₀ w a t t' σ σ'}(fs:List Nat)(g:pj fs t t')(f:lI fs σ σ' fs)(hn:lF fs=true)(hi:N5 fs L=true)(hc:qY base L E₀ w₀ E w)(hs:dR F base N ⟨t,σ⟩ E a w):
  ∃E',qY base L E₀ w₀ E' w/\dR F base N ⟨t',σ'⟩ E' a w:=by
 obtain⟨M,hM,d⟩:=hs.sat.CU f hn;refine⟨_,⟨hc.L,⟨?_,λi c=>?_,λb hb h e=>hc.g.M b hb h (hM b e),hc.g.size,hc.g.heap⟩,hc.b⟩,d,λk p hk=>?_,hs.lE,hs.size⟩
 ·rw[hc.L];have:L<=fs.length:=by
   rcases SS L with h|h
   ·omega
   ·have:=uu hi (L - 1) (by omega);have:=(QT.1 this).1;omega
  exact this
 ·have:=uu hi i (by rw[<-hc.L];exact c);have h2:fs.getD i 0=i:=by simp[QU,this]
  simp only[Env.CU,h2];exact hc.g.at_ i c
 ·obtain⟨q,h1,h2⟩:=g.get k p hk;exact h2.rep hM _ (hs.tmp k q h1)
theorem dS{c t t' σ σ'}{Q:Exit->St->Prop}(fs:List Nat)(d:pj fs t t')(b:lI fs σ σ' fs)(hn:lF fs=true)(hi:N5 fs L=true)(h:W P N L c ⟨t',σ'⟩ Q):W P N L c ⟨t,σ⟩ Q:=λF base E₀ w₀ E a w hc hs=>by
 obtain⟨E',h1,h2⟩:=D7 fs d b hn hi hc hs;exact h F base E₀ w₀ E' a w h1 h2
theorem dL{l t t' σ σ'}{K:St->Prop}(fs:List Nat)(c:pj fs t t')(b:lI fs σ σ' fs)(hn:lF fs=true)(hi:N5 fs L=true)(h:WR P N L ops l ⟨t',σ'⟩ K):WR P N L ops l ⟨t,σ⟩ K:=λF base E₀ w₀ E a w hc hs=>by
 obtain⟨E',h1,h2⟩:=D7 fs c b hn hi hc hs;exact h F base E₀ w₀ E' a w h1 h2
end
def Env.push(E:Env)(v:Value):Env:=⟨E.L+1,λi=>if i=E.L then v else E.at_ i,λb=>E.M b\/bL v=some b⟩
def Env.kill(E:Env)(i:Nat):Env:=⟨E.L,E.at_,λb=>E.M b/\bL (E.at_ i)≠some b⟩
section
variable {F:Nat->Prop} {base:Nat} {σ:ca} {E:Env} {w w':World}
theorem rM(hw:∀b,b<w.heap.size->¬E.M b->w'.heap[b]? =w.heap[b]?)(hs:w.heap.size<=w'.heap.size){v}(hv:∀b,bL v=some b->w.heap.size<=b\/E.M b):de E w (E.push v) w':=
 ⟨Nat.le_succ _,λi hi=>by simp[Env.push,Nat.ne_of_lt hi],λb hb hM h=>by
  rcases h with h|h
  ·exact hM h
  ·rcases hv b h with a|a
   ·omega
   ·exact hM a,hs,hw⟩
theorem Sat.push(d:Sat F base σ E w)(l:Ext w w'){v blk}(hv:∀b,bL v=some b->w.heap.size<=b)(hb:iz base (E.push v) w' v blk):Sat F base (σ++[some blk]) (E.push v) w'/\de E w (E.push v) w':=by
 have g:de E w (E.push v) w':=rM (λb h _=>l.block b h) l.size (λb h=>.inl (hv b h));have c:∀i,i<σ.length->(E.push v).at_ i=E.at_ i:=λi hi=>g.at_ i (by rw[d.len];exact hi);have a:(E.push v).at_ σ.length=v:=by simp[Env.push,d.len]
 have split:∀i (b:cX),(σ++[some blk])[i]? =some (some b)->(i<σ.length/\σ[i]? =some (some b))\/(i=σ.length/\b=blk):=λi b h=>by
  by_cases hi:i<σ.length
  ·rw[Q9 hi]at h;exact .inl ⟨hi,h⟩
  ·rw[RD (by omega)]at h;have:i - σ.length=0:=by
    rcases SS (i - σ.length)with o|o
    ·exact o
    ·rw[RJ (by simp;omega)]at h;cases h
   rw[this]at h;simp at h;exact .inr ⟨by omega,h.symm⟩
 refine⟨⟨Rr d.bl l.size,λb k=>⟨RH (d.fb b k).1 l.size,λi bl hi=>?_⟩,by simp[Env.push,d.len],λb=>?_,λi bl hi=>?_,λi j bi bj b hi p e f=>?_,d.gl.goes g⟩,g⟩
 ·rcases split i bl hi with⟨h1,h2⟩|⟨rfl,_⟩
  ·rw[c i h1];exact(d.fb b k).2 i bl h2
  ·rw[a];intro h;have:=hv b h;have:=(d.fb b k).1;omega
 ·constructor
  ·rintro(h|h)
   ·rcases(d.mm b).1 h with h|⟨i,bl,h1,h2⟩
    ·exact .inl h
    ·have hi:i<σ.length:=(QT.1 h1).1;exact .inr ⟨i,bl,by rw[Q9 hi];exact h1,by rw[c i hi];exact h2⟩
   ·exact .inr ⟨σ.length,blk,by simp,by rw[a];exact h⟩
  ·rintro(h|⟨i,bl,h1,h2⟩)
   ·exact .inl ((d.mm b).2 (.inl h))
   ·rcases split i bl h1 with⟨m,n⟩|⟨rfl,_⟩
    ·rw[c i m]at h2;exact .inl ((d.mm b).2 (.inr ⟨i,bl,n,h2⟩))
    ·rw[a]at h2;exact .inr h2
 ·rcases split i bl hi with⟨h1,h2⟩|⟨rfl,rfl⟩
  ·rw[c i h1];exact(d.blk i bl h2).goes g (λb hb=>l.block b ((d.blk i bl h2).lt hb).2)
  ·rw[a];exact hb
 ·rcases split i bi hi with⟨h1,h2⟩|⟨rfl,rfl⟩<;>rcases split j bj p with⟨m,n⟩|⟨rfl,rfl⟩
  ·rw[c i h1]at e;rw[c j m]at f;exact d.inj i j bi bj b h2 n e f
  ·rw[c i h1]at e;rw[a]at f;have:=((d.blk i bi h2).lt e).2;have:=hv b f;omega
  ·rw[a]at e;rw[c j m]at f;have:=((d.blk j bj n).lt f).2;have:=hv b e;omega
  ·rfl
theorem jF{i j:Nat}{bl}(h:(σ.set i none)[j]? =some (some bl)):j≠i/\σ[j]? =some (some bl):=by
 rw[Rh]at h;split at h
 ·rename_i he;subst he;split at h<;>simp at h
 ·rename_i he;exact⟨Ne.symm he,h⟩
theorem Sat.kill(a:Sat F base σ E w)(i:Nat){bi}(hi:σ[i]? =some (some bi)):Sat F base (σ.set i none) (E.kill i) w/\de E w (E.kill i) w:=by
 have g:de E w (E.kill i) w:=⟨Rc _,λ_ _=>rfl,λb _ hM h=>hM h.1,Rc _,λ_ _ _=>rfl⟩;refine⟨⟨a.bl,λb hb=>⟨(a.fb b hb).1,λj bl f=>(a.fb b hb).2 j bl (jF f).2⟩,by simp[Env.kill,a.len],λb=>?_,λj bl f=>?_,λj k bj bk b f hk h1 h2=>a.inj j k bj bk b (jF f).2 (jF hk).2 h1 h2,a.gl.goes g⟩,g⟩
 ·constructor
  ·rintro⟨h1,h2⟩;rcases(a.mm b).1 h1 with h|⟨j,bl,l,d⟩
   ·exact .inl h
   ·refine .inr ⟨j,bl,?_,d⟩;have c:i≠j:=λe=>by rw[<-e]at d;exact h2 d
    rw[Rh,QZ c];exact l
  ·rintro(h|⟨j,bl,h1,h2⟩)
   ·exact⟨(a.mm b).2 (.inl h),(a.fb b h).2 i bi hi⟩
   ·obtain⟨c,l⟩:=jF h1;refine⟨(a.mm b).2 (.inr ⟨j,bl,l,h2⟩),λd=>c (a.inj j i bl bi b l hi h2 d)⟩
 ·exact(a.blk j bl (jF f).2).goes g (λ_ _=>rfl)
theorem Sat.JF(d:Sat F base σ E w){i b:Nat}{bi bi'}(hi:σ[i]? =some (some bi))(hb:bL (E.at_ i)=some b)(hs:w.heap.size<=w'.heap.size)(s:∀k,k<w.heap.size->k≠b->w'.heap[k]? =w.heap[k]?)(hn:iz base E w' (E.at_ i) bi'):
  Sat F base (σ.set i (some bi')) E w'/\de E w E w':=by
 have o:E.M b:=(d.mm b).2 (.inr ⟨i,bi,hi,hb⟩);have p:i<σ.length:=(QT.1 hi).1;have g:de E w E w':=⟨Rc _,λ_ _=>rfl,λ_ _ h=>h,hs,λk hk hM=>s k hk (λe=>hM (by rw[e];exact o))⟩;have split:∀j (bl:cX),(σ.set i (some bi'))[j]? =some (some bl)->(j≠i/\σ[j]? =some (some bl))\/(j=i/\bl=bi'):=λj bl h=>by
  rw[Rh]at h;split at h
  ·rename_i he;subst he;simp at h;exact .inr ⟨rfl,h.symm⟩
  ·rename_i he;exact .inl ⟨Ne.symm he,h⟩
 have back:∀j (bl:cX),σ[j]? =some (some bl)->∃a,(σ.set i (some bi'))[j]? =some (some a):=λj bl h=>by
  by_cases he:i=j
  ·subst he;exact⟨bi',by rw[Rh,QY rfl,QY p]⟩
  ·exact⟨bl,by rw[Rh,QZ he];exact h⟩
 have fwd:∀j (bl:cX),(σ.set i (some bi'))[j]? =some (some bl)->∃a,σ[j]? =some (some a):=λj bl h=>by
  rcases split j bl h with⟨_,h2⟩|⟨rfl,_⟩
  ·exact⟨bl,h2⟩
  ·exact⟨bi,hi⟩
 refine⟨⟨Rr d.bl hs,λk hk=>⟨RH (d.fb k hk).1 hs,λj bl l=>?_⟩,by simp[d.len],λk=>?_,λj bl l=>?_,λj k bj bk c l hk h1 h2=>?_,d.gl.goes g⟩,g⟩
 ·obtain⟨a,f⟩:=fwd j bl l;exact(d.fb k hk).2 j a f
 ·rw[d.mm k];constructor
  ·rintro(h|⟨j,bl,h1,h2⟩)
   ·exact .inl h
   ·obtain⟨a,f⟩:=back j bl h1;exact .inr ⟨j,a,f,h2⟩
  ·rintro(h|⟨j,bl,h1,h2⟩)
   ·exact .inl h
   ·obtain⟨a,f⟩:=fwd j bl h1;exact .inr ⟨j,a,f,h2⟩
 ·rcases split j bl l with⟨h1,h2⟩|⟨rfl,rfl⟩
  ·exact(d.blk j bl h2).goes g (λk hk=>s k ((d.blk j bl h2).lt hk).2 (λe=>h1 (d.inj j i bl bi b h2 hi (by rw[<-e];exact hk) hb)))
  ·exact hn
 ·obtain⟨m,q⟩:=fwd j bj l;obtain⟨n,r⟩:=fwd k bk hk;exact d.inj j k m n c q r h1 h2
end
section
variable {P:Program} {σ:ca} {t:cq} {o:Oper}
theorem JG{ty}{k:Option Nat}(h:vL P ty=some k)(w:World):(sizeOf ty).run P w= .ok (k.getD 1) w:=by
 unfold vL at h;split at h
 ·rename_i d i hu hi;have hr:(sizeOf ty).run P w= .ok i.size w:=by simp[sizeOf,typeInfo,hi]
  rw[hr];split at h
  ·cases h;rfl
  ·cases h;rfl
  ·split at h
   ·rename_i h1;cases h;simp[h1]
   ·cases h
 ·cases h
def cX.sC:cX->List PV->cX
 | .cells t _,xs=>.cells t xs
 | .row e s n _,xs=>.row e s n xs
 | .mp kv,_=>.mp kv
theorem xd{E w}{cs vs:List Value}{xs ys}(h:bp E w cs xs)(k:bp E w vs ys)(off:Nat):bp E w (cs.take off++vs++cs.drop (off+vs.length)) (over xs off ys):=by
 unfold over;rw[RO,<-k.1];exact(h.take off).append (k.append (h.drop _))
theorem vk{ty}{k:Option Nat}{x y}{i off:Nat}{blk:cX}{ys:List PV}{F:Nat->Prop}{base:Nat}{E}{ρ:Operand->Value}{w}(ho:o.op= .store ty x y)(hk:vL P ty=some k)(hx:aH t x=some (.ptr i off))(h2:bp E w (ρ y).cells.toList ys)(hl:ys.length=k.getD 1)
  (hi:σ[i]? =some (some blk)) (u:off+ys.length<=blk.xs.length) [dY ys] (Z:mq ρ) (Q:Sat F base σ E w) (hT:dt E w ρ t):
  ∃v w' E',((execOp ρ o).run P w= .ok (.value v) w'\/(v=undef/\(execOp ρ o).run P w= .ok .skip w'))/\Sat F base (σ.set i (some (blk.sC (over blk.xs off ys)))) E' w'/\de E w E' w'/\Below base w w'/\cZ E' w' v (.raw undef):=by
 have h1:=aD Z hT hx;generalize hz:ρ x=z at h1;cases h1 with
 |ptr _ _ b ab l=>
  have a:bL (E.at_ i)=some b:=by rcases l with l|⟨n,c,l⟩<;>rw[l]<;>rfl
  have D:E.M b:=(Q.mm b).2 (.inr ⟨i,blk,hi,a⟩);have O:=Q.blk i blk hi;have S:=O.lt a;have L:=h2.DX;have W:(ρ y).cells.size=k.getD 1:=by rw[<-RS,h2.1,hl]
  have go:∀(cur:Array Value) (e:TypeId),w.heap[b]? =some (.cells cur e (0,0))->off+ys.length<=cur.size->
    (execOp ρ o).run P w= .ok .skip (w.setRow b (cur.toList.take off++(ρ y).cells.toList++cur.toList.drop (off+(ρ y).cells.toList.length)).toArray):=λcur e H hle=>by
   have M:=run_storeCells_at P b off e (ρ y).cells.toList 0 cur w H (by rw[Tl,h2.1];exact hle) L;simp only[Tl]at M;have m:(Instr.storeAt ty (.pointer (some ⟨b,off,none⟩)) (ρ y)).run P w= .ok () (w.setRow b (cur.toList.take off++(ρ y).cells.toList++cur.toList.drop (off+(ρ y).cells.toList.length)).toArray):=by
    simp only[Instr.storeAt,Instr.sureAddr,storeVar,Sem.run_bind,Sem.run_pure,Result.andThen_ok,JG hk,W,ne_eq,not_true_eq_false,TW];exact M
   simp only[execOp,ho,hz,Sem.run_bind,m,Result.andThen_ok,Sem.run_pure]
  have q:∀(cs:Array Value) j,j<w.heap.size->j≠b->(w.setRow b cs).heap[j]? =w.heap[j]? :=λcs j _ C=>setRow_other w b j cs C;have d:∀cs:Array Value,w.heap.size<=(w.setRow b cs).heap.size:=λcs=>by simp
  have p:∀cs:Array Value,Below base w (w.setRow b cs):=λcs=>⟨rfl,rfl,rfl,d cs,λj C=>setRow_other w b j cs (by omega)⟩;cases blk with
  |cells B xs=>
   obtain⟨b',cs,he,k1,N,k3⟩:=O;have:b=b':=by rw[he]at a;simp[bL]at a;exact a.symm
   subst this;have J:cs.size=xs.length:=by have:=k3.1;rw[RS]at this;exact this
   have m:=go cs B N (by rw[J];exact u);have hn:=Q.JF (w':=w.setRow b (cs.toList.take off++(ρ y).cells.toList++cs.toList.drop (off+(ρ y).cells.toList.length)).toArray) (bi':=.cells B (over xs off ys)) hi a (d _) (q _) ⟨b,_,he,k1,setRow_heap w b cs _ B _ N,by
    have:=xd k3 h2 off;have g:de E w E (w.setRow b (cs.toList.take off++(ρ y).cells.toList++cs.toList.drop (off+(ρ y).cells.toList.length)).toArray):=⟨Rc _,λ_ _=>rfl,λ_ _ h=>h,d _,λj C hM=>q _ j C (λe=>hM (by rw[e];exact D))⟩;exact this.goes g⟩
   exact⟨undef,_,E,.inr ⟨rfl,m⟩,hn.1,hn.2,p _,.raw _⟩
  |row e s n xs=>
   obtain⟨cs,k1,N⟩:=O;obtain⟨G,aa⟩:=k1;rcases aa with⟨hv,_⟩|⟨g,cap,cur,hv,R,hg,K,T,U,A⟩
   ·rw[hv]at a;cases a
   ·have:b=g:=by rw[hv]at a;simp[bL]at a;exact a.symm
    subst this;have hle:n*s<=cur.size:=by rw[U];exact Sk _ K
    have Y:xs.length=n*s:=by rw[<-N.1,G]
    have V:off+ys.length<=n*s:=by rw[<-Y];exact u
    have m:=go cur e hg (by omega);have f:(ρ y).cells.toList.length=ys.length:=h2.1;have X:(cur.toList.take off++(ρ y).cells.toList++cur.toList.drop (off+(ρ y).cells.toList.length)).take (n*s)=cs.take off++(ρ y).cells.toList++cs.drop (off+(ρ y).cells.toList.length):=by
     rw[<-A,RO,List.take_append,List.take_append,TH,Sg,RS];rw[RO,TH,List.drop_take];congr 1
     ·congr 1;omega
     ·congr 1
      ·rw[SJ (by rw[f];omega)]
      ·congr 1;rw[f];omega
    have hn:=Q.JF (w':=w.setRow b (cur.toList.take off++(ρ y).cells.toList++cur.toList.drop (off+(ρ y).cells.toList.length)).toArray) (bi':=.row e s n (over xs off ys)) hi a (d _) (q _) ⟨cs.take off++(ρ y).cells.toList++cs.drop (off+(ρ y).cells.toList.length),⟨by
      simp only[Q0,Sg,UO,f,G];omega,.inr ⟨b,cap,_,hv,R,setRow_heap w b cur _ e _ hg,K,T,by
      simp only[Tf,Q0,Sg,UO,RS,f];omega,X⟩⟩,by
     have:=xd N h2 off;have g:de E w E (w.setRow b (cur.toList.take off++(ρ y).cells.toList++cur.toList.drop (off+(ρ y).cells.toList.length)).toArray):=⟨Rc _,λ_ _=>rfl,λ_ _ h=>h,d _,λj C hM=>q _ j C (λe=>hM (by rw[e];exact D))⟩;exact this.goes g⟩
    exact⟨undef,_,E,.inr ⟨rfl,m⟩,hn.1,hn.2,p _,.raw _⟩
  |mp kv=>
   obtain⟨r,es,ck,he,_⟩:=O;rcases l with l|⟨n,c,l⟩<;>(rw[l]at he;cases he)
theorem oD{ty}{k:Option Nat}{x y}{i off:Nat}{p}{blk:cX}{ys:List PV}(e:o.op= .store ty x y)(hk:vL P ty=some k)(hx:aH t x=some (.ptr i off))(hy:aH t y=some p)(hc:lD p=some ys)(hl:ys.length=k.getD 1)
  (hi:σ[i]? =some (some blk)) (a:off+ys.length<=blk.xs.length) [dY ys]:cK P σ t o (.raw undef) (σ.set i (some (blk.sC (over blk.xs off ys)))):=by
 intro F base E ρ w b d c;exact vk e hk hx (mB (aD b c hy) hc) hl hi a b d c
theorem b9{ty x y}{i off:Nat}{p}{blk:cX}(g:o.op= .store ty x y)(hk:vL P ty=some none)(hx:aH t x=some (.ptr i off))(hy:aH t y=some p)(hi:σ[i]? =some (some blk))(e:off<blk.xs.length)[b:gH p]:cK P σ t o (.raw undef) (σ.set i (some (blk.sC (over blk.xs off [p])))):=by
 intro F base E ρ w c f d;have hv:=aD c d hy;have h1:=b.out E w _ hv;have a:(ρ y).cells= #[ρ y]:=by
  generalize ρ y=v at h1;cases v<;>first|rfl|cases h1
 have h2:bp E w (ρ y).cells.toList [p]:=by rw[a];exact SL hv (TQ E w)
 exact vk g hk hx (ys:=[p]) h2 rfl hi (by simp;omega) c f d
theorem sd{F:Nat->Prop}{base:Nat}{E:Env}{w:World}(a:Sat F base σ E w)(ty:TypeId)(cs:Array Value){xs}(h:bp E w cs.toList xs):Sat F base (σ++[some (.cells ty xs)]) (E.push (.pointer (some ⟨w.heap.size,0,none⟩))) (w.alloc (.cells cs ty))/\de E w (E.push (.pointer (some ⟨w.heap.size,0,none⟩))) (w.alloc (.cells cs ty))/\Below base w (w.alloc (.cells cs ty))/\
  cZ (E.push (.pointer (some ⟨w.heap.size,0,none⟩))) (w.alloc (.cells cs ty)) (.pointer (some ⟨w.heap.size,0,none⟩)) (.ptr σ.length 0):=by
 have c:Ext w (w.alloc (.cells cs ty)):=(Tc w).alloc _;have g:=rM (E:=E) (w:=w) (w':=w.alloc (.cells cs ty)) (λb h _=>c.block b h) c.size (v:=.pointer (some ⟨w.heap.size,0,none⟩)) (λb h=>by simp[bL]at h;exact .inl (by omega));have hp:=a.push c (v:=.pointer (some ⟨w.heap.size,0,none⟩)) (blk:=.cells ty xs) (λb h=>by simp[bL]at h;omega) ⟨w.heap.size,cs,rfl,a.bl,heap_alloc_new w _,h.goes g⟩;refine⟨hp.1,hp.2,Ti c a.bl,.ptr σ.length 0 w.heap.size (by simp[Env.push,a.len]) (.inl ?_)⟩;simp[Env.push,a.len]
theorem fV{ty x p xs}(e:o.op= .box ty x)(hx:aH t x=some p)(hc:lD p=some xs):cK P σ t o (.ptr σ.length 0) (σ++[some (.cells ty xs)]):=by
 intro F base E ρ w a c d;have h:=mB (aD a d hx) hc;have hr:(execOp ρ o).run P w= .ok (.value (.pointer (some ⟨w.heap.size,0,none⟩))) (w.alloc (.cells (ρ x).cells ty)):=by
  simp[execOp,e,Instr.box,newVar,newRow]
 obtain⟨b,a2,a3,a4⟩:=sd c ty _ h;exact⟨_,_,_,.inl hr,b,a2,a3,a4⟩
def BF(P:Program)(ty:TypeId):Option (List Value):=
 match P.info? ty with
 |some i=>match i.zero with
  |some z=>some z.cells.toList
  |none=>none
 |none=>none
theorem I2{E w}(cs:List Value):bp E w cs (cs.map .raw):=⟨by simp,λi x u a b=>by
 simp only[RE,R8]at b;obtain⟨y,hy,rfl⟩:=b;rw[hy]at a;cases a;exact .raw _⟩
theorem oC{ty}{z:List Value}(f:o.op= .alloc ty)(a:BF P ty=some z):cK P σ t o (.ptr σ.length 0) (σ++[some (.cells ty (z.map .raw))]):=by
 intro F base E ρ w g e h;unfold BF at a;split at a
 ·rename_i i hi;split at a
  ·rename_i c b;cases a;have hr:(execOp ρ o).run P w= .ok (.value (.pointer (some ⟨w.heap.size,0,none⟩))) (w.alloc (.cells c.cells ty)):=by
    simp[execOp,f,Instr.alloc,zeroValue,typeInfo,hi,b,newVar,newRow]
   obtain⟨d,a2,a3,a4⟩:=sd e ty c.cells (I2 (E:=E) (w:=w) c.cells.toList);exact⟨_,_,_,.inl hr,d,a2,a3,a4⟩
  ·cases a
 ·cases a
theorem qm{F:Nat->Prop}{base:Nat}{E:Env}{w w':World}(c:Sat F base σ E w)(a:Ext w w'){e s n:Nat}{v cs xs}(hv:∀b,bL v=some b->w.heap.size<=b)(d:w'.ownsRow base e s v n cs)(f:bp E w cs xs):
  Sat F base (σ++[some (.row e s n xs)]) (E.push v) w'/\de E w (E.push v) w'/\Below base w w'/\cZ (E.push v) w' v (.own σ.length):=by
 have g:=rM (E:=E) (w:=w) (w':=w') (λb h _=>a.block b h) a.size (v:=v) (λb h=>.inl (hv b h));have hp:=c.push a (v:=v) (blk:=.row e s n xs) hv ⟨cs,d,f.goes g⟩;refine⟨hp.1,hp.2,Ti a c.bl,.own σ.length (by simp[Env.push,c.len]) v (by simp[Env.push,c.len]) ?_⟩;rcases d.2 with⟨rfl,_⟩|⟨i,cap,cur,rfl,_⟩<;>rfl
def A5(P:Program)(ty:TypeId):Option (TypeId×Nat×Nat×List Value):=
 match P.underlying ty with
 |some (.slice e)=>match P.info? e with
  |some i=>match i.zero with
   |some z=>if z.cells.size=i.size/\0<i.size then some (e,i.size,i.bytes,z.cells.toList) else none
   |none=>none
  |none=>none
 |_=>none
theorem rP{ty e s by':Nat}{z}(h:A5 P ty=some (e,s,by',z)):P.underlying ty=some (.slice e)/\∃i a,P.info? e=some i/\i.size=s/\i.bytes=by'/\i.zero=some a/\a.cells.toList=z/\a.cells.size=s/\0<s:=by
 unfold A5 at h;split at h
 ·rename_i c hu;split at h
  ·rename_i i hi;split at h
   ·rename_i a b;split at h
    ·rename_i hc;cases h;exact⟨hu,i,a,hi,rfl,rfl,b,rfl,hc.1,hc.2⟩
    ·cases h
   ·cases h
  ·cases h
 ·cases h
theorem dc{ty e s by':Nat}{z:List Value}{l c}{n:Nat}{li ci:Int}{k k'}(G:o.op= .makeSlice ty l c)(hk:A5 P ty=some (e,s,by',z))(hl:aH t l=some (.raw (.int k li)))(hc:aH t c=some (.raw (.int k' ci)))(m:li=(n:Int))(j:ci=(n:Int))(hn:n<=maxLen/\by'*n<=281474976710656):
  cK P σ t o (.own σ.length) (σ++[some (.row e s n (dQ (z.map .raw) n))]):=by
 intro F base E ρ w f x y;have h1:=aD f y hl;have h2:=aD f y hc;generalize p:ρ l=v1 at h1;generalize q:ρ c=v2 at h2;cases h1;cases h2;subst m;subst j;obtain⟨hu,i,v,hi,hs,g,H,u,r,A⟩:=rP hk;obtain⟨w',d,a,D⟩:=run_make_full (P:=P) w base ty e i v s hu hi H hs k k' n (by rw[g];exact hn.2) hn.1 x.bl;have hr:(execOp ρ o).run P w= .ok (.value (.slice (some ⟨w.heap.size,0,none⟩) n n)) w':=by
  simp only[execOp,G,p,q,Sem.run_bind,d,Result.andThen_ok,Sem.run_pure]
 have C:bp E w (madeCells v.cells (n*s)).toList (dQ (z.map .raw) n):=by
  rw[<-u];exact o3 v.cells n (n*s) (by rw[r])
 obtain⟨B,a2,a3,a4⟩:=qm x (qc D) (λb h=>by simp[bL]at h;omega) a C;exact⟨_,_,_,.inl hr,B,a2,a3,a4⟩
theorem IS(xs:List PV)(off:Nat)(ys:List PV)(h:off+ys.length<=xs.length):(over xs off ys).length=xs.length:=by
 simp[over];omega
theorem wB{place:Nat->Option (Nat×Nat)}:∀ {ps:List (Nat×List PV)} {xs ys:List PV},lO place xs ps=some ys->ys.length=xs.length
 | [],xs,ys,h=>by simp only[lO,SF]at h;rw[h]
 |(i,q)::ps,xs,ys,h=>by
  simp only[lO]at h;split at h
  ·cases h
  ·rename_i off size a;rw[RI]at h;split at h
   ·rename_i hc;simp only[Q7,Nat.beq_eq,Tu]at hc;rw[wB h,IS _ _ _ (by omega)]
   ·cases h
theorem jZ{ty e s n:Nat}{parts:Array (Nat×Operand)}{z:List Value}{ps:List (Nat×List PV)}{xs}(C:o.op= .buildSlice ty n parts)(hk:MW P ty=some (e,s,z))(hn:0<n/\n*s<=16777216)(hp:ib t parts.toList=some ps)
  (u:lO (λi=>some (i*s,s)) (dQ (z.map .raw) n) ps=some xs):cK P σ t o (.own σ.length) (σ++[some (.row e s n xs)]):=by
 intro F base E ρ w m r A;obtain⟨h1,h2⟩:=lN m A parts.toList ps hp;obtain⟨hu,i,j,hi,hs,D,g,f,a⟩:=qM hk;have l:j.cells.size=s:=by rw[<-f,<-g];simp
 have k:bp E w ((Array.range (n*s)).map (j.cells[· % j.cells.size]!)).toList (dQ (z.map .raw) n):=by
  rw[<-g];exact o3 j.cells n (n*s) (by rw[l])
 obtain⟨cs,hc,q⟩:=nG (λi=>some (i*s,s)) _ ps _ _ xs k h1 h2 u;have B:0<n*s:=Nat.mul_pos hn.1 a;have d:=run_buildSlice (P:=P) w ty e n (parts.map fun(i,x)=>(i,ρ x)) cs i j hu hi D (by rw[hs];omega) (by rw[hs];omega) (by rw[hs,Ta];simpa using hc);have hr:(execOp ρ o).run P w= .ok (.value (.slice (some ⟨w.heap.size,0,none⟩) n n)) (w.alloc (.cells cs e)):=by
  simp only[execOp,C,Sem.run_bind,d,Result.andThen_ok,Sem.run_pure]
 have hle:n<=n*s:=Nat.le_mul_of_pos_right n a;have c:cs.size=n*s:=by
  have p:=q.1;have y:=wB u;rw[RS]at p;rw[p,y,xP];simp[f]
 obtain⟨v,a2,a3,a4⟩:=qm r ((Tc w).alloc (.cells cs e)) (λb h=>by simp[bL]at h;omega) (World.ownsRow_lit (base:=base) (e:=e) (size:=s) w cs n r.bl (by unfold maxLen;omega) c) q;exact⟨_,_,_,.inl hr,v,a2,a3,a4⟩
end
section
variable {P:Program} {σ:ca} {t:cq} {o:Oper}
theorem rQ{w:World}(base:Nat)(t ty e:TypeId)(i:TypeInfo)(z:Value)(size bytes:Nat)(x:P.underlying t=some (.slice e))(hi:P.info? e=some i)(D:i.zero=some z)
  (l:i.size=size) (r:i.bytes=bytes) (E:z.cells.size=size) (B:0<size)
  (v:Value) (n:Nat) (xs:List Value) (h:w.ownsRow base e size v n xs)
  (a:Addr) (m c:Nat) (news:List Value) (hl:news.length=m*size) (d:∀(j:Nat) u,news[j]? =some u->w.cell? (a.add j)=some u) (h1:∀u∈news,u.oneCell'=true)
  (q:n+m<=maxLen) (b:(n+m)*bytes<=140737488355328) (p:base<=w.heap.size):
  ∃v' w',(Builtin.append_ #[t,t] ty #[v,.slice (some a) m c]).run P w= .ok v' w'/\w'.ownsRow base e size v' (n+m) (xs++news)/\w.grownBy w' v.ownBlock/\(v'.ownBlock=v.ownBlock\/v'.ownBlock=some w.heap.size):=by
 obtain⟨v',w',hr,h2,H,_⟩:=run_append_own (P:=P) w base t ty e i z size bytes x hi D l r E B v n xs h a m c news hl d h1 q b p;refine⟨v',w',hr,h2,H,?_⟩;subst l;subst r;have y:n+m<=9223372036854775807:=by simp only[maxLen]at q;omega
 rcases h.2 with⟨rfl,rfl⟩|⟨g,cap,cur,rfl,J,L,M,K,A,C⟩
 ·by_cases hm:m=0
  ·subst hm;rcases h2.2 with⟨rfl,_⟩|⟨N,F,G,rfl,O,Q,_⟩
   ·exact .inl rfl
   ·have hn:news=[]:=Rd (by simpa using hl);subst hn;have f:(Builtin.append_ #[t,t] ty #[.slice none 0 0,.slice (some a) 0 c]).run P w= .ok (.slice none 0 0) w:=by
     simp[Builtin.append_,run_underlying x,sizeOf,typeInfo,hi,Builtin.lenOf,Builtin.firstCells,loadCells,loadCellsFrom]
    rw[f]at hr;cases hr
  ·have f:=run_append_nil (P:=P) w t ty e i z x hi D a m c news hl d (by omega) (by omega) (by have hb:=b;simp only[Si]at hb;omega);rw[f]at hr;cases hr;exact .inr rfl
 ·by_cases k:n+m<=cap
  ·have s:n*i.size+news.length<=cur.size:=by rw[hl,A,<-UX];exact Sk _ k
   have f:=run_append_room (P:=P) w t ty e i x hi g n cap cur L a m c news hl d h1 k s;rw[f]at hr;cases hr;exact .inl rfl
  ·have holds:∀(j:Nat) u,xs[j]? =some u->w.cell? ((⟨g,0,none⟩:Addr).add j)=some u:=h.cells (g:=g) I;have f:=run_append_grow (P:=P) w t ty e i z x hi D ⟨g,0,none⟩ n cap xs h.1 holds a m c news hl d (by omega) (by omega) (growslice_fits (by omega) b);rw[f]at hr;cases hr;exact .inr rfl
theorem Sat.swap{F:Nat->Prop}{base:Nat}{E:Env}{w w':World}(a:Sat F base σ E w){i:Nat}{bi blk}(hi:σ[i]? =some (some bi)){v}(hs:w.heap.size<=w'.heap.size)(B:∀k,k<w.heap.size->bL (E.at_ i)≠some k->w'.heap[k]? =w.heap[k]?)
  (hv:∀b,bL v=some b->bL (E.at_ i)=some b\/w.heap.size<=b) (hb:∀E',de E w E' w'->iz base E' w' v blk):
  Sat F base (σ.set i none++[some blk]) ((E.kill i).push v) w'/\de E w ((E.kill i).push v) w':=by
 have u:∀b,bL (E.at_ i)=some b->E.M b:=λb h=>(a.mm b).2 (.inr ⟨i,bi,hi,h⟩);obtain⟨G,D⟩:=a.kill i hi;have g:de E w ((E.kill i).push v) w':=by
  refine⟨Nat.le_succ _,λj l=>by simp[Env.push,Env.kill,Nat.ne_of_lt l],λb hb hM h=>?_,hs,λb hb hM=>B b hb (λe=>hM (u b e))⟩;rcases h with h|h
  ·exact hM h.1
  ·rcases hv b h with n|n
   ·exact hM (u b n)
   ·omega
 have f:(σ.set i none).length=σ.length:=by simp
 have d:∀j,j<σ.length->((E.kill i).push v).at_ j=E.at_ j:=λj l=>g.at_ j (by rw[a.len];exact l);have c:((E.kill i).push v).at_ σ.length=v:=by simp[Env.push,Env.kill,a.len]
 have split:∀j (b:cX),(σ.set i none++[some blk])[j]? =some (some b)->(j<σ.length/\j≠i/\σ[j]? =some (some b))\/(j=σ.length/\b=blk):=λj b h=>by
  by_cases l:j<σ.length
  ·rw[Q9 (by rw[f];exact l)]at h;obtain⟨h1,h2⟩:=jF h;exact .inl ⟨l,h1,h2⟩
  ·rw[RD (by rw[f];omega),f]at h;have:j - σ.length=0:=by
    rcases SS (j - σ.length)with n|n
    ·exact n
    ·rw[RJ (by simp;omega)]at h;cases h
   rw[this]at h;simp at h;exact .inr ⟨by omega,h.symm⟩
 have r:∀j (b:cX) k,σ[j]? =some (some b)->j≠i->bL (E.at_ j)=some k->bL (E.at_ i)≠some k:=λj b k h1 h2 p s=>h2 (a.inj j i b bi k h1 hi p s);have m:∀j (b:cX) k,σ[j]? =some (some b)->j≠i->bL (E.at_ j)=some k->bL v≠some k:=λj b k h1 h2 p s=>by
  rcases hv k s with n|n
  ·exact r j b k h1 h2 p n
  ·have:=((a.blk j b h1).lt p).2;omega
 refine⟨⟨Rr a.bl hs,λb q=>⟨RH (a.fb b q).1 hs,λj bl l=>?_⟩,by simp[Env.push,Env.kill,a.len],λb=>?_,λj bl l=>?_,λj k bj bk b l hk h1 h2=>?_,a.gl.goes g⟩,g⟩
 ·rcases split j bl l with⟨h1,h2,p⟩|⟨rfl,_⟩
  ·rw[d j h1];exact(a.fb b q).2 j bl p
  ·rw[c];intro h;rcases hv b h with n|n
   ·exact(a.fb b q).2 i bi hi n
   ·have:=(a.fb b q).1;omega
 ·constructor
  ·rintro(h|h)
   ·rcases(a.mm b).1 h.1 with n|⟨j,bl,h1,h2⟩
    ·exact .inl n
    ·have l:j<σ.length:=(QT.1 h1).1;have x:i≠j:=λe=>by rw[<-e]at h2;exact h.2 h2
     exact .inr ⟨j,bl,by rw[Q9 (by rw[f];exact l),Rh,QZ x];exact h1,by rw[d j l];exact h2⟩
   ·exact .inr ⟨σ.length,blk,by rw[RD (by rw[f];exact Rc _)];simp,by rw[c];exact h⟩
  ·rintro(h|⟨j,bl,h1,h2⟩)
   ·exact .inl ⟨(a.mm b).2 (.inl h),(a.fb b h).2 i bi hi⟩
   ·rcases split j bl h1 with⟨p,s,A⟩|⟨rfl,_⟩
    ·rw[d j p]at h2;exact .inl ⟨(a.mm b).2 (.inr ⟨j,bl,A,h2⟩),r j bl b A s h2⟩
    ·rw[c]at h2;exact .inr h2
 ·rcases split j bl l with⟨h1,h2,p⟩|⟨rfl,rfl⟩
  ·rw[d j h1];exact(a.blk j bl p).goes g (λb hb=>B b ((a.blk j bl p).lt hb).2 (r j bl b p h2 hb))
  ·rw[c];exact hb _ g
 ·rcases split j bj l with⟨y,a2,a3⟩|⟨rfl,rfl⟩<;>rcases split k bk hk with⟨c1,C,z⟩|⟨rfl,rfl⟩
  ·rw[d j y]at h1;rw[d k c1]at h2;exact a.inj j k bj bk b a3 z h1 h2
  ·rw[d j y]at h1;rw[c]at h2;exact absurd h2 (m j bj b a3 a2 h1)
  ·rw[c]at h1;rw[d k c1]at h2;exact absurd h1 (m k bk b z C h2)
  ·rfl
theorem Bl{E}{w:World}{v}{m:Nat}{ys}(h:cZ E w v (.slice m ys)):(v= .slice none 0 0/\m=0/\ys=[])\/∃(a:Addr) (c:Nat) (news:List Value),v= .slice (some a) m c/\(∀(j:Nat) u,news[j]? =some u->w.cell? (a.add j)=some u)/\bp E w news ys:=by
 cases h with
 |bH=>exact .inl ⟨rfl,rfl,rfl⟩
 |empty a c h=>exact .inr ⟨a,c,[],rfl,λj u hu=>by simp at hu,TQ E w⟩
 |slice b off _ c cs _ h0 h1 h2 hb hM hc hl hr=>exact .inr ⟨_,_,cs,rfl,λj u hu=>by rw[Addr.add_lit];exact hc j u hu,hl,hr⟩
theorem zF{ty e s by' n m i:Nat}{z:List Value}{xs ys:List PV}{x y:Operand}{p:PV}(T:o.op= .call {callee:=.builtin .append,args:= #[x,y],argTypes:= #[ty,ty]})(hk:A5 P ty=some (e,s,by',z))(hx:aH t x=some (.own i))(hi:σ[i]? =some (some (.row e s n xs)))
  (hy:aH t y=some p) (Q:∀F base E w v,Sat F base σ E w->cZ E w v p->(v= .slice none 0 0/\m=0/\ys=[])\/∃(a:Addr) (c:Nat) (news:List Value),v= .slice (some a) m c/\(∀(j:Nat) u,news[j]? =some u->w.cell? (a.add j)=some u)/\bp E w news ys) (hl:ys.length=m*s) (hn:n+m<=maxLen/\(n+m)*by'<=140737488355328) [dY ys]:
  cK P σ t o (.own σ.length) (σ.set i none++[some (.row e s (n+m) (xs++ys))]):=by
 intro F base E ρ w J q S;have h1:=aD J S hx;have h2:=Q F base E w (ρ y) q (aD J S hy);generalize G:ρ x=v at h1;generalize H:ρ y=u at h2;obtain⟨hu,inf,z',l,hs,L,X,Y,R,D⟩:=rP hk;cases h1 with
 |own _ W _ B U=>
  obtain⟨cs,A,Z⟩:=q.blk i _ hi;rw[B]at A;have C:bL (E.at_ i)=v.ownBlock:=by rw[B];exact ig A
  have key:∀v' w',(execOp ρ o).run P w= .ok (.value v') w'->∀news,bp E w news ys->w'.ownsRow base e s v' (n+m) (cs++news)->w.grownBy w' v.ownBlock->(v'.ownBlock=v.ownBlock\/v'.ownBlock=some w.heap.size)->
    ∃v w' E',((execOp ρ o).run P w= .ok (.value v) w'\/(v=undef/\(execOp ρ o).run P w= .ok .skip w'))/\Sat F base (σ.set i none++[some (.row e s (n+m) (xs++ys))]) E' w'/\de E w E' w'/\Below base w w'/\cZ E' w' v (.own σ.length):=by
   intro v' w' hr news N d r hw;have O:∀b,bL v'=some b->bL (E.at_ i)=some b\/w.heap.size<=b:=λb hb=>by
    rw[ig d]at hb;rcases hw with h|h
    ·rw[C,<-h];exact .inl hb
    ·rw[h]at hb;cases hb;exact .inr (Rc _)
   obtain⟨V,a2⟩:=q.swap (w':=w') (blk:=.row e s (n+m) (xs++ys)) hi r.size (λk hk M=>r.block k hk (by rw[<-C];exact Ne.symm M)) O (λE' g=>⟨cs++news,d,(Z.append N).goes g⟩);refine⟨v',w',_,.inl hr,V,a2,⟨r.os,r.tape,r.output,r.size,λk hk=>r.block k (RH hk q.bl) (λe=>?_)⟩,.own σ.length (by simp[Env.push,Env.kill,q.len]) v' (by simp[Env.push,Env.kill,q.len]) ?_⟩
   ·have:=(A.lt k e.symm).1;omega
   ·rcases d.2 with⟨rfl,_⟩|⟨g',cap,cur,rfl,_⟩<;>rfl
  rcases h2 with⟨rfl,rfl,rfl⟩|⟨a,c,news,rfl,hc,K⟩
  ·have f:=run_append_owned_none (P:=P) (w:=w) base ty o.type e inf s hu l v n cs A;have hr:(execOp ρ o).run P w= .ok (.value v) w:=by
    simp[execOp,T,resolve,invoke,builtin,G,H,f]
   exact key v w hr [] (TQ _ _) (by simpa using A) ⟨rfl,rfl,rfl,Rc _,λ_ _ _=>rfl⟩ (.inl rfl)
  ·obtain⟨v',w',f,r1,r2,r3⟩:=rQ (P:=P) (w:=w) base ty o.type e inf z' s by' hu l X hs L R D v n cs A a m c news (by rw[K.1,hl]) hc K.DX hn.1 hn.2 q.bl;have hr:(execOp ρ o).run P w= .ok (.value v') w':=by
    simp only[execOp,T,resolve,invoke,builtin,Sem.run_bind,Sem.run_pure,Result.andThen_ok,SZ,R7,So,G,H,f]
   exact key v' w' hr news K r1 r2 r3
theorem bF{ty e s by' n m i:Nat}{z:List Value}{xs ys:List PV}{x y:Operand}(a:o.op= .call {callee:=.builtin .append,args:= #[x,y],argTypes:= #[ty,ty]})(hk:A5 P ty=some (e,s,by',z))(hx:aH t x=some (.own i))(hi:σ[i]? =some (some (.row e s n xs)))
  (hy:aH t y=some (.slice m ys)) (hl:ys.length=m*s) (hn:n+m<=maxLen/\(n+m)*by'<=140737488355328) [dY ys]:
  cK P σ t o (.own σ.length) (σ.set i none++[some (.row e s (n+m) (xs++ys))]):=by
 exact zF a hk hx hi hy (λF base E w v _ hv=>Bl hv) hl hn
section
variable {N L:Nat} {ops:Array Oper}
theorem Ho{F:Nat->Prop}{base:Nat}{E:Env}{w}(c:Sat F base σ E w)(e s:Nat):Sat F base (σ++[some (.row e s 0 [])]) (E.push (.slice none 0 0)) w/\de E w (E.push (.slice none 0 0)) w/\cZ (E.push (.slice none 0 0)) w (.slice none 0 0) (.own σ.length):=by
 obtain⟨a,a2,_,a4⟩:=qm c (Tc w) (e:=e) (s:=s) (n:=0) (v:=.slice none 0 0) (cs:=[]) (xs:=[]) (λb h=>by cases h) (World.ownsRow_nil w base e s) (TQ E w);exact⟨a,a2,a4⟩
theorem dt.LJ{E w}{ρ:Operand->Value}{t}(h:dt E w ρ t){k:Nat}{p}(hv:cZ E w (ρ (.tmp k)) p):dt E w ρ ((k,p)::t):=λj q a=>by
 simp only[look]at a;rw[RI]at a;split at a
 ·rename_i he;have:=Rp he;subst this;cases a;exact hv
 ·exact h j q a
theorem eU{c}{Q:Exit->St->Prop}(k e s:Nat)(hk:look k t=some (.raw (.slice none 0 0)))(h:W P N L c ⟨(k,.own σ.length)::t,σ++[some (.row e s 0 [])]⟩ Q):W P N L c ⟨t,σ⟩ Q:=λF base E₀ w₀ E a w hc hs=>by
 obtain⟨b,a2,a3⟩:=Ho hs.sat e s;have h1:=hs.tmp k _ hk;generalize d:a.eval (.tmp k)=z at h1;cases h1;exact h F base E₀ w₀ _ a w (hc.on a2 (Below.refl _ _)) ⟨b,(hs.tmp.goes a2).LJ (by rw[d];exact a3),hs.lE,hs.size⟩
def iN(t:cq):List Nat->cq
 | []=>[]
 |k::ks=>match look k t with
  |some p=>(k,p)::iN t ks
  |none=>iN t ks
theorem kr:∀(ks:List Nat) (k:Nat) (p:PV),look k (iN t ks)=some p->k∈ks/\look k t=some p
 | [],k,p,h=>by cases h
 |j::ks,k,p,h=>by
  simp only[iN]at h;split at h
  ·rename_i q a;simp only[look]at h;rw[RI]at h;split at h
   ·rename_i he;have:=Rp he;subst this;cases h;exact⟨R1 ..,a⟩
   ·obtain⟨h1,h2⟩:=kr ks k p h;exact⟨RU _ h1,h2⟩
  ·obtain⟨h1,h2⟩:=kr ks k p h;exact⟨RU _ h1,h2⟩
inductive eH (P:Program) (N:Nat) (ops:Array Oper) (σ:ca):List Oper->cq->cq->Prop
 |nil {t t':cq}:Sub t t'->eH P N ops σ [] t t'
 |val {o:Oper} {rest:List Oper} {t t':cq} {d:Nat} {p:PV} (ks:List Nat):(ks.all λk=>(o.looksAt ops).contains k)=true->bE P σ (iN t ks) o p->o.dst=some d->fO ops t o=some true->Nat.blt d N=true->eH P N ops σ rest ((d,p)::t) t'->eH P N ops σ (o::rest) t t'
 |skip {o:Oper} {rest:List Oper} {t t':cq} {d:Nat}:o.dst=some d->fO ops t o=some false->Nat.blt d N=true->eH P N ops σ rest ((d,.raw undef)::t) t'->eH P N ops σ (o::rest) t t'
theorem oe{E w}{ρ:Operand->Value}{b}(e:∀k∈o.looksAt ops,∀p,look k t=some p->cZ E w (ρ (.tmp k)) p)(h:fO ops t o=some b):mP ops o ρ=b:=by
 unfold fO at h;unfold mP;split at h
 ·rename_i c;(try rw[c]);cases h;rfl
 ·rename_i j want c
  (try rw[c])
  (try simp only)
  split at h
  ·rename_i k hk
   (try simp only[hk])
   split at h
   ·rename_i b' hb;have:=e k (by simp[Oper.looksAt,c,hk]) _ hb;generalize ρ (.tmp k)=z at this;cases this;split at h
    ·rename_i d a;cases h;simp[a]
    ·rename_i a;cases h;simp[a]
   ·cases h
  ·cases h
def tC(E:Env)(w:World)(α:Tmp->dV)(t:cq):Prop:=∀k p,look k t=some p->∀v w',Ext w w'->α k v w'->cZ E w' v p
theorem tC.put{E w}{α:Tmp->dV}{d:Nat}{p}(h:tC E w α t):tC E w (zw α (some d) (λv w'=>cZ E w' v p)) ((d,p)::t):=by
 intro k q hk v w' c hv;simp only[look]at hk;rw[RI]at hk;split at hk
 ·rename_i he;have:=Rp he;subst this;cases hk;rw[kZ]at hv;exact hv
 ·rename_i he;have a:k≠d:=λe=>he (by rw[e];exact US d);rw[jS _ _ _ _ (λe b=>by cases b;exact a)]at hv;exact h k q hk v w' c hv
theorem eH.abs{F:Nat->Prop}{base:Nat}{E w}{C:World->Prop}(hC:∀w',C w'->Ext w w'/\Sat F base σ E w'){l t t'}(h:eH P N ops σ l t t'){G:(Tmp->dV)->Prop}(j:∀β,tC E w β t'->G β):
  ∀α,tC E w α t->sJ P ops C G l α:=by
 induction h with
 |nil hs=>
  intro α b;refine j α λk p hk v w' f hv=>?_;obtain⟨q,h1,h2⟩:=hs k p hk;exact h2 E w' v (b k q h1 v w' f hv)
 | @val o rest t t' d p ks hks hy hd hw hN _ m=>
  intro α b;refine⟨λv w'=>cZ E w' v p,⟨λv a i f hv=>hv.ext f,λρ a g e hs=>?_⟩,by rw[hd];exact m j _ b.put⟩;obtain⟨f,n⟩:=hC a e;have c:=oe (ρ:=ρ) (E:=E) (w:=a) (λk hk p hp=>b k p hp _ a f (hs k hk)) hw;unfold xY;rw[c,QY rfl];refine hy F base E ρ a g n λk q hk=>?_;obtain⟨h1,h2⟩:=kr ks k q hk;refine b k q h2 _ a f (hs k ?_);have:=Rq.1 hks k h1;simpa using this
 | @skip o rest t t' d hd hw hN _ m=>
  intro α b;refine⟨λv w'=>cZ E w' v (.raw undef),⟨λv a i f hv=>hv.ext f,λρ a g e hs=>?_⟩,by rw[hd];exact m j _ b.put⟩;obtain⟨f,n⟩:=hC a e;have c:=oe (ρ:=ρ) (E:=E) (w:=a) (λk hk p hp=>b k p hp _ a f (hs k hk)) hw;unfold xY;rw[c,QZ Bool.false_ne_true];exact .raw _
theorem xH{α:Tmp->dV}{w}{k:Array Value->Prop}:∀(D:List Tmp) (a:Array Value),(∀t∈D,t<a.size)->
  (∀b:Array Value,b.size=a.size->(∀t,t∉D->b.getD t undef=a.getD t undef)->(∀t∈D,α t (b.getD t undef) w)->k b)->El α w k D a
 | [],a,_,h=>h a rfl (λ_ _=>rfl) (λt g=>by cases g)
 |t::D,a,i,h=>by
  intro x hx;have g:t<a.size:=i t (R1 ..);refine xH D (a.setIfInBounds t x) (λs hs=>by simpa using i s (RU _ hs)) (λb hb h1 h2=>h b (by simpa using hb) (λs hs=>?_) (λs hs=>?_))
  ·have f:s≠t:=λe=>hs (by rw[e];exact R1 ..);rw[h1 s (λd=>hs (RU _ d))];simp[Rx (Ne.symm f)]
  ·by_cases c:s∈D
   ·exact h2 s c
   ·have:s=t:=by
     rcases RA.1 hs with d|d
     ·exact d
     ·exact absurd d c
    subst this;rw[h1 s c];simpa[g]using hx
theorem vy{C:World->Prop}{G a:(Tmp->dV)->Prop}(h:∀β,G β->a β):∀(l:List Oper) (α:Tmp->dV),sJ P ops C G l α->sJ P ops C a l α
 | [],_,b=>h _ b
 |_::l,_,⟨Φ,hy,hk⟩=>⟨Φ,hy,vy h l _ hk⟩
theorem Nb{id:Nat}{l:List Oper}{t t' σ}{Q:Exit->St->Prop}(D:List Nat)(hm:P.follows .mixedOrders=true)(x:Region.lexB .any l.toArray=true)(hn:(l.all λo=>o.dst.all λe=>decide (e<N)&&D.contains e)=true)(y:(D.all λe=>decide (e<N))=true)
  (h:eH P N l.toArray σ l t t') (B:Q .normal ⟨t',σ⟩):W P N L (.region id l.toArray true) ⟨t,σ⟩ Q:=λF base E₀ w₀ E a w hc hs=>by
 obtain⟨c,u⟩:=a;have g:c.size=N:=hs.size;refine wa (λw'=>Sat F base σ E w') D (λr s d h=>h.ext d) hs.sat hm x (by rw[g];exact hn) ?_;have n:∀o∈l,∀e,o.dst=some e->e∈D:=λo A e he=>by
  have:=Rq.1 hn o A;rw[he]at this;simp at this;exact this.2
 have h1:=h.abs (E:=E) (w:=w) (F:=F) (base:=base) (C:=λw'=>Ext w w'/\Sat F base σ E w') (λw' q=>q) (G:=λβ=>tC E w β t') (λβ i=>i) (λt v _=>v=c.getD t undef) (λk p hk v w' d hv=>by
  subst hv;have:=hs.tmp k p hk;simpa[Act.eval]using this.ext d)
 have h2:=oZ (D:=D) l _ (λt v _=>v=c.getD t undef) (λ_ _=>rfl) n h1;refine vy (λβ i=>?_) l _ h2;obtain⟨z,j⟩:=i;intro w' d m;refine xH D c (λk hk=>by have:=Rq.1 y k hk;rw[g];simpa using this) (λb hb H J=>?_);refine⟨⟨t',σ⟩,E,B,⟨m,λk p hk=>z k p hk _ w' d ?_,hs.lE,by rw[<-g];exact hb⟩,(hc.on (.ext d) (Ti d hs.sat.bl)).g,(hc.on (.ext d) (Ti d hs.sat.bl)).b⟩;have he:(Act.eval ⟨b,u⟩ (.tmp k))=b.getD k undef:=rfl;rw[he];by_cases f:k∈D
 ·exact J k f
 ·rw[j k f];exact H k f
inductive Ev (P:Program) (st:St):ResultVar->PV->Prop
 |tmp {k:Nat} {p:PV}:look k st.t=some p->Ev P st (.tmp k) p
 |MC {k i off:Nat} {ty:TypeId} {blk:cX} {p:PV}:look k st.t=some (.ptr i off)->st.σ[i]? =some (some blk)->vL P ty=some none->blk.xs[off]? =some p->Ev P st (.cell k ty) p
 |MD {k i off n:Nat} {ty:TypeId} {blk:cX} {ys:List PV}:look k st.t=some (.ptr i off)->st.σ[i]? =some (some blk)->vL P ty=some (some n)->(blk.xs.drop off).take n=ys->ys.length=n->Ev P st (.cell k ty) (.agg ys)
inductive ay (P:Program) (st:St):List ResultVar->List PV->Prop
 |nil:ay P st [] []
 |cons {r:ResultVar} {rs:List ResultVar} {p:PV} {ps:List PV}:Ev P st r p->ay P st rs ps->ay P st (r::rs) (p::ps)
def I7(tmps:Array Value):ResultVar->Sem Value
 | .tmp t=>pure (tmps.getD t undef)
 | .cell x ty=>do loadVar ty (<-asAddr (tmps.getD x undef))
theorem CV(fn:Func)(tmps:Array Value):results fn tmps=(do let vs <-fn.results.mapM (I7 tmps);pure (if h:vs.size=1 then vs[0] else .tuple vs)):=by
 unfold results;congr 1
theorem Ev.run{F:Nat->Prop}{base:Nat}{st E}{a:Act}{w}(hs:dR F base N st E a w){r p}(h:Ev P st r p):
  ∃v,(I7 a.tmps r).run P w= .ok v w/\cZ E w v p:=by
 cases h with
 |tmp hk=>exact⟨_,rfl,hs.tmp _ _ hk⟩
 | @MC k i off ty blk p hk hi e hp=>
  have h1:=hs.tmp _ _ hk;have he:a.eval (.tmp k)=a.tmps.getD k undef:=rfl;rw[he]at h1;simp only[I7];generalize a.tmps.getD k undef=z at h1 ⊢;cases h1 with
  |ptr _ _ b q d=>
   obtain⟨cs,f,hc⟩:=hs.sat.cells hi d;obtain⟨c,l,m⟩:=f.get hp;have:=lr (P:=P) (w:=w) e (hc off c l);simp only[Instr.loadAt,Instr.sureAddr,Sem.run_bind,Sem.run_pure,Result.andThen_ok]at this;exact⟨c,by simp only[asAddr,Sem.run_bind,Sem.run_pure,Result.andThen_ok,this],m⟩
 | @MD k i off n ty blk ys hk hi e hp hn=>
  have h1:=hs.tmp _ _ hk;have he:a.eval (.tmp k)=a.tmps.getD k undef:=rfl;rw[he]at h1;simp only[I7];generalize a.tmps.getD k undef=z at h1 ⊢;cases h1 with
  |ptr _ _ b q d=>
   obtain⟨cs,g,hc⟩:=hs.sat.cells hi d;have f:bp E w ((cs.drop off).take n) ys:=by rw[<-hp];exact(g.drop off).take n
   have:=nZ (P:=P) (w:=w) (b:=b) (off:=off) (cs:=(cs.drop off).take n) e (by rw[f.1,hn]) (λj x hx=>by
    rw[RV]at hx;split at hx
    ·rw[Su]at hx;exact hc _ x hx
    ·cases hx)
   simp only[Instr.loadAt,Instr.sureAddr,Sem.run_bind,Sem.run_pure,Result.andThen_ok]at this;exact⟨.agg ((cs.drop off).take n).toArray,by simp only[asAddr,Sem.run_bind,Sem.run_pure,Result.andThen_ok,this],.agg _ ys (by simpa using f.1) (λi x u h1 h2=>f.2 i x u (by simpa using h1) h2)⟩
theorem ay.run{F:Nat->Prop}{base:Nat}{st E}{a:Act}{w}(hs:dR F base N st E a w):∀ {rs:List ResultVar} {ps},ay P st rs ps->
  ∃vs,(rs.mapM (I7 a.tmps)).run P w= .ok vs w/\bp E w vs ps
 |_,_,.nil=>⟨[],by simp,TQ E w⟩
 |_,_,.cons (r:=r) h hl=>by
  obtain⟨v,h1,h2⟩:=h.run hs;obtain⟨vs,b,c⟩:=ay.run hs hl;refine⟨v::vs,?_,SL h2 c⟩;rw[List.mapM_cons];simp only[Sem.run_bind,h1,Result.andThen_ok,b,Sem.run_pure]
def Mb:List PV->PV
 | [p]=>p
 |ps=>.tuple ps
instance (p:PV) [h:IsPure p]:IsPure (Mb [p]):=h
instance:IsPure (Mb []):=inferInstanceAs (IsPure (.tuple []))
instance (p q:PV) (ps:List PV) [h:aP (p::q::ps)]:IsPure (Mb (p::q::ps)):=inferInstanceAs (IsPure (.tuple (p::q::ps)))
def Ez:Nat->List PV->cq
 |_,[]=>[]
 |i,p::ps=>(i,p)::Ez (i+1) ps
theorem wi:∀(ps:List PV) (i k:Nat) (p:PV),look k (Ez i ps)=some p->i<=k/\ps[k - i]? =some p
 | [],i,k,p,h=>by cases h
 |q::ps,i,k,p,h=>by
  simp only[Ez,look]at h;rw[RI]at h;split at h
  ·rename_i he;have:=Rp he;subst this;cases h;exact⟨Rc _,by simp⟩
  ·obtain⟨h1,h2⟩:=wi ps (i+1) k p h;exact⟨by omega,by rw[show k - i=(k - (i+1))+1 by omega];simpa using h2⟩
theorem ko{F:Nat->Prop}{base:Nat}{σ E w}{vs:Array Value}{ps}(g:Sat F base σ E w)(f:bp E w vs.toList ps)(hN:vs.size<=N):dR F base N ⟨Ez 0 ps,σ⟩ E {tmps:=vs++Array.replicate (N - vs.size) undef,defers:=[]} w:=by
 refine⟨g,λk p hk=>?_,rfl,by simp;omega⟩;obtain⟨_,h2⟩:=wi ps 0 k p hk;rw[Uz]at h2;obtain⟨c,d,e⟩:=f.get h2;have b:k<vs.size:=by have:=(QT.1 d).1;simpa using this
 have a:vs[k]? =some c:=by simpa using d
 have:Act.eval {tmps:=vs++Array.replicate (N - vs.size) undef,defers:=[]} (.tmp k)=c:=by
  simp only[Act.eval,Rm];rw[Array.getElem?_append_left b,a]
  rfl
 rw[this];exact e
theorem so{F:Nat->Prop}{base:Nat}{st E}{a:Act}{w}{fn:Func}{ps}(hs:dR F base N st E a w)(h:ay P st fn.results.toList ps):∃v,(results fn a.tmps).run P w= .ok v w/\cZ E w v (Mb ps):=by
 obtain⟨vs,h1,h2⟩:=ay.run hs h;have hm:(results fn a.tmps).run P w= .ok (if h:vs.toArray.size=1 then vs.toArray[0] else .tuple vs.toArray) w:=by
  rw[CV,Array.mapM_eq_mapM_toList];simp only[Sem.run_bind,Sem.run_map,h1,Result.andThen_ok,Sem.run_pure]
 refine⟨_,hm,?_⟩;cases vs with
 |nil=>
  have:ps=[]:=Rd h2.1.symm;subst this;exact .tuple _ _ rfl (λi x u d c=>by simp at c)
 |cons v vs=>
  cases ps with
  |nil=>have:=h2.1;simp at this
  |cons p ps=>
   cases vs with
   |nil=>
    have:ps=[]:=Rd (by have:=h2.1;simpa using this.symm);subst this;exact h2.JH.1
   |cons v' vs=>
    cases ps with
    |nil=>have:=h2.1;simp at this
    |cons p' ps=>
     have b:¬(v::v'::vs).toArray.size=1:=by simp
     rw[dif_neg b];exact .tuple _ _ (by simpa using h2.1) (λi x u d c=>h2.2 i x u (by simpa using d) c)
def Pz(P:Program)(fn:Func)(R:PV->Prop):Exit->St->Prop
 | .normal,st| .ret,st=>∃ps q,ay P st fn.results.toList ps/\ax st.σ (Mb ps) q/\R q
 |_,_=>False
theorem aF{f}{fn:Func}{c}{ps:List PV}{R:PV->Prop}(n:P.funcs[f]? =some fn)(hb:fn.body=some c)(hN:fn.ntmps=N)(hp:Nat.ble ps.length N=true)(h:W P N 0 c ⟨Ez 0 ps,[]⟩ (Pz P fn R)):Can P f ps R:=by
 intro F w vs l m j;have g:vs.size<=N:=by have:=j.1;rw[RS]at this;rw[this];exact Nat.ble_eq.mp hp
 refine calls_of_wp n hb ?_;rw[hN];refine wp_mono (h F w.heap.size (EF F) w (EF F) _ w ⟨rfl,UD _ _,Below.refl _ _⟩ (ko (T1 F w l m) j g)) ?_;rintro e i w' ⟨st,E',a,hs,p,d⟩;have fin:(∃ps q,ay P st fn.results.toList ps/\ax st.σ (Mb ps) q/\R q)->i.defers=[]/\∃v,(results fn i.tmps).run P w'= .ok v w'/\Py (λv w'=>∃r,R r/\cZ (EF F) w' v r) w (.returned v) w':=by
  rintro⟨ps,q,h1,h2,k⟩;obtain⟨v,hr,hv⟩:=so hs h1;exact⟨hs.lE,v,hr,v,rfl,d,q,k,h2.rep hs.sat (λb hb=>(hs.sat.mm b).2 (.inl hb)) (λb hb=>(hs.sat.fb b hb).2) v hv⟩
 cases e with
 |normal=>exact fin a
 |ret=>exact fin a
 |exit _=>exact a.elim
 |goto _=>exact a.elim
 |panic _=>exact a.elim
 |outgrown=>exact a.elim
def Oe(P:Program)(fn:Func)(R:PV->ca->Prop):Exit->St->Prop
 | .normal,st| .ret,st=>∃ps,ay P st fn.results.toList ps/\R (Mb ps) st.σ
 |_,_=>False
theorem cF{f}{fn:Func}{c}{ps:List PV}{σ:ca}{R:PV->ca->Prop}(k:P.funcs[f]? =some fn)(hb:fn.body=some c)(hN:fn.ntmps=N)(hp:Nat.ble ps.length N=true)(h:W P N σ.length c ⟨Ez 0 ps,σ⟩ (Oe P fn R)):bM P f ps σ R:=by
 intro F base E w vs j i;have d:vs.size<=N:=by have:=i.1;rw[RS]at this;rw[this];exact Nat.ble_eq.mp hp
 refine calls_of_wp k hb ?_;rw[hN];refine wp_mono (h F base E w E _ w ⟨j.len,UD _ _,Below.refl _ _⟩ (ko j i d)) ?_;rintro e g w' ⟨st,E',a,hs,l,b⟩;have fin:(∃ps,ay P st fn.results.toList ps/\R (Mb ps) st.σ)->g.defers=[]/\∃v,(results fn g.tmps).run P w'= .ok v w'/\∃v' r σ' E',Ending.returned v= .returned v'/\R r σ'/\Sat F base σ' E' w'/\de E w E' w'/\Below base w w'/\cZ E' w' v' r:=by
  rintro⟨ps,h1,h2⟩;obtain⟨v,hr,hv⟩:=so hs h1;exact⟨hs.lE,v,hr,v,Mb ps,st.σ,E',rfl,h2,hs.sat,l,b,hv⟩
 cases e with
 |normal=>exact fin a
 |ret=>exact fin a
 |exit _=>exact a.elim
 |goto _=>exact a.elim
 |panic _=>exact a.elim
 |outgrown=>exact a.elim
end
end
def nq(ops:Array Oper)(i:Nat):List Nat:=
 match ops[i]? with
 |some o=>(o.after.toList.filter (Region.binds .any)).map (·.on)
 |none=>[]
def fT(ops:Array Oper):Nat->Nat->Nat->Bool
 |0,_,_=>false
 |f+1,i,j=>(nq ops i).contains j||(nq ops i).any λk=>fT ops f k j
def zM(ops:Array Oper)(f m:Nat):Bool:=
 (List.range ops.size).all λi=>((nq ops i).all λk=>decide (k<i))&&(((ops[i]?).all λo=>o.guard.all λg=>decide (g.1<i))&&(decide (i<m)||(List.range i).all λj=>fT ops f i j))
section
variable {P:Program} {ops:Array Oper}
def Down(ops:Array Oper)(ls:Array Bool):Prop:=∀i,ls.getD i true=true->i<ops.size->∀k∈nq ops i,ls.getD k false=true
theorem eX{ls:Array Bool}(hs:ls.size=ops.size)(hd:Down ops ls)(c:∀i,i<ops.size->∀k∈nq ops i,k<i):∀(f i j:Nat),i<ops.size->fT ops f i j=true->(∀k∈nq ops i,ls.getD k false=true)->ls.getD j false=true
 |0,_,_,_,h,_=>by cases h
 |f+1,i,j,hi,h,hk=>by
  simp only[fT,RX]at h;rcases h with h|h
  ·exact hk j (by simpa using h)
  ·obtain⟨k,h1,h2⟩:=S0.1 h;have d:=c i hi k h1;have a:=hk k h1;have b:k<ls.size:=by rw[hs];omega
   refine eX hs hd c f k j (by omega) h2 (hd k ?_ (by omega));simp only[Rm]at a ⊢;simp[b]at a ⊢;exact a
theorem cT{ls:Array Bool}{i:Nat}:i∈Region.ready .any ops ls↔i<ops.size/\ls.getD i true=false/\∀k∈nq ops i,ls.getD k false=true:=by
 unfold Region.ready;rw[RK,Ri];constructor
 ·rintro⟨h1,h2⟩;simp only[Q7,R4]at h2;refine⟨h1,h2.1,λk hk=>?_⟩;have a:=h2.2;unfold nq at hk;cases b:ops[i]? with
  |none=>rw[b]at hk;simp at hk
  |some o=>
   rw[b]at a hk;simp only[SU,SM]at a;obtain⟨e,he,rfl⟩:=RB.1 hk;obtain⟨c,d⟩:=RK.1 he;have:=UA.1 a e (by simpa using c);simpa[d]using this
 ·rintro⟨h1,h2,a⟩;refine⟨h1,?_⟩;simp only[Q7,R4];refine⟨h2,?_⟩;have b:ops[i]? =some ops[i]:=by simp[h1]
  rw[b];simp only[SU,SM];apply UA.2;intro e he;cases hb:Region.binds .any e with
  |false=>rfl
  |true=>
   simp only[UK,Td];refine a e.on ?_;unfold nq;rw[b];exact RB.2 ⟨e,RK.2 ⟨by simpa using he,hb⟩,rfl⟩
def upto(n k:Nat):Array Bool:=((List.range n).map λi=>decide (i<k)).toArray
theorem iS(n k i:Nat)(hi:i<n)(b:Bool):(upto n k).getD i b=decide (i<k):=by simp[upto,hi]
theorem Bu(n k:Nat):(upto n k).setIfInBounds k true=upto n (k+1):=by
 apply U1
 ·simp[upto]
 ·intro i h1 h2;simp[upto]at h2;by_cases e:k=i
  ·subst e;simp[upto]
  ·rw[Array.getElem_setIfInBounds (by simpa[upto]using h2),QZ e];simp[upto];omega
section
variable {f m:Nat} (hB:zM ops f m=true)
include hB
theorem iC:∀i,i<ops.size->∀k∈nq ops i,k<i:=λi hi k hk=>by
 have:=Rq.1 hB i (Ri.2 hi);simp only[Q7]at this;have:=Rq.1 this.1 k hk;simpa using this
theorem rh:∀i,i<ops.size->m<=i->∀j,j<i->fT ops f i j=true:=λi hi hm j a=>by
 have:=Rq.1 hB i (Ri.2 hi);simp only[Q7,RX,Ra]at this;rcases this.2.2 with h|h
 ·omega
 ·exact Rq.1 h j (Ri.2 a)
theorem wj:∀(i:Nat) (o:Oper) (j:Nat) (b:Bool),ops[i]? =some o->o.guard=some (j,b)->j<i:=λi o j b a c=>by
 have hi:i<ops.size:=(Rw.1 a).1;have:=Rq.1 hB i (Ri.2 hi);simp only[Q7]at this;have h1:=this.2.1;rw[a]at h1;simp only[Option.all_some,c,Ra]at h1;exact h1
theorem uR(k:Nat)(hk:k<ops.size)(hm:m<=k):Region.ready .any ops (upto ops.size k)=[k]:=by
 have hd:Down ops (upto ops.size k):=λi hi b j c=>by
  have:=iC hB i b j c;rw[iS _ _ _ b]at hi;rw[iS _ _ _ (by omega)];simp at hi ⊢;omega
 have key:∀i,i∈Region.ready .any ops (upto ops.size k)↔i=k:=λi=>by
  rw[cT];constructor
  ·rintro⟨h1,h2,d⟩;rw[iS _ _ _ h1]at h2;simp at h2;rcases Sf k i with h|h
   ·have:=eX (by simp[upto]) hd (iC hB) f i k h1 (rh hB i h1 (by omega) k h) d;rw[iS _ _ _ hk]at this;simp at this
   ·omega
  ·rintro rfl;exact⟨hk,by rw[iS _ _ _ hk];simp,λj c=>by
    have:=iC hB i hk j c;rw[iS _ _ _ (by omega)];simpa using this⟩
 have a:(Region.ready .any ops (upto ops.size k)).Nodup:=List.Pairwise.filter _ UP;generalize Region.ready .any ops (upto ops.size k)=l at*
 match l,key,a with
 | [],key,_=>exact absurd ((key k).2 rfl) (by simp)
 | [x],key,_=>rw[(key x).1 (by simp)]
 |x::y::l,key,a=>
  have h1:=(key x).1 (by simp);have h2:=(key y).1 (by simp);subst h1;subst h2;simp at a
omit hB in
theorem xk:Region.ready .any ops (upto ops.size ops.size)=[]:=by
 apply TB.2;intro i hi;obtain⟨h1,h2,_⟩:=cT.1 hi;rw[iS _ _ _ h1]at h2;simp at h2;omega
theorem vA{Q:Exit->Act->World->Prop}:∀(r k:Nat) (a:Act) (w:World),k+r=ops.size->m<=k->wpOps P ops Q (List.range' k r) a w->wpAny P .any ops Q r (upto ops.size k) a w
 |0,k,a,w,hk,_,h=>by
  obtain rfl:k=ops.size:=by omega
  exact⟨xk,h⟩
 |r+1,k,a,w,hk,hm,h=>by
  have hr:=uR hB k (by omega) hm;refine⟨λh0=>absurd (hr.symm.trans h0) (by simp),λi hi=>?_⟩;rw[hr]at hi;simp at hi;subst hi;rw[TE,wpOps_cons]at h;rw[Bu];exact wpOp_mono (λa w h=>vA r (i+1) a w (by omega) (by omega) h) h
end
def tD(P:Program)(ops:Array Oper)(Q:Exit->Act->World->Prop)(m r:Nat):Exit->Act->World->Prop
 | .normal,a,w=>wpOps P ops Q (List.range' m r) a w
 |e,a,w=>Q e a w
theorem yS{o:Oper}{a w}{K c:Act->World->Prop}{Q:Exit->Act->World->Prop}{m r:Nat}(h:∀a w,K a w->c a w)(b:o.wp P a w K (tD P ops Q m r)):o.wp P a w c Q:=by
 unfold Oper.wp at*;generalize (execOp a.eval o).run P w=x at*;cases x with
 |ok n w'=>
  cases n<;>simp only[Oper.upon]at b ⊢ <;>
   first
    |exact h _ _ b
    |exact Calls.mono b (λe d he=>by cases e<;>first|exact h _ _ he|exact he)
    |exact Rows.mono b (λ_ _ he=>h _ _ he)
 |halt x w'=>cases x<;>simp only[Oper.upon]at b ⊢ <;>exact b
def bS(ls:Array Bool):Nat->Nat
 |0=>0
 |m+1=>bS ls m+if ls.getD m true then 0 else 1
theorem dK{ls:Array Bool}:∀ {m:Nat},bS ls m=0->∀i,i<m->ls.getD i true=true
 |0,_,i,hi=>by omega
 |m+1,h,i,hi=>by
  simp only[bS]at h;by_cases e:i=m
  ·subst e;cases hb:ls.getD i true with
   |true=>rfl
   |false=>rw[hb]at h;simp at h
  ·exact dK (m:=m) (by omega) i (by omega)
theorem gA{ls:Array Bool}:∀ {m:Nat},0<bS ls m->∃i,i<m/\ls.getD i true=false/\∀j,j<i->ls.getD j true=true
 |0,h=>by simp[bS]at h
 |m+1,h=>by
  simp only[bS]at h;by_cases hp:0<bS ls m
  ·obtain⟨i,h1,h2,a⟩:=gA hp;exact⟨i,by omega,h2,a⟩
  ·refine⟨m,by omega,?_,dK (m:=m) (by omega)⟩;cases hb:ls.getD m true with
   |true=>rw[hb]at h;simp at h;omega
   |false=>rfl
theorem gC{ls:Array Bool}{i:Nat}(hi:ls.getD i true=false):∀ {m:Nat},i<m->m<=ls.size->bS (ls.setIfInBounds i true) m+1=bS ls m
 |0,h,_=>by omega
 |m+1,h,hs=>by
  simp only[bS];by_cases e:i=m
  ·subst e;have h1:(ls.setIfInBounds i true).getD i true=true:=by simp[show i<ls.size by omega]
   have h2:bS (ls.setIfInBounds i true) i=bS ls i:=by
    have:∀k,k<=i->bS (ls.setIfInBounds i true) k=bS ls k:=by
     intro k;induction k with
     |zero=>intro _;rfl
     |succ k a=>
      intro hk;simp only[bS];rw[a (by omega),Rm,Rm,Rx (by omega)]
    exact this i (Rc _)
   rw[h1,hi,h2];simp
  ·have h1:(ls.setIfInBounds i true).getD m true=ls.getD m true:=by
    rw[Rm,Rm,Rx e]
   rw[h1];have:=gC hi (m:=m) (by omega) (by omega);omega
theorem sK{f m:Nat}(s:zM ops f m=true)(hm:m<=ops.size){Q:Exit->Act->World->Prop}:∀(fuel:Nat) (l ls:Array Bool) (a:Act) (w:World),l.size=m->ls.size=ops.size->(∀i,i<m->ls.getD i true=l.getD i true)->(∀i,m<=i->i<ops.size->ls.getD i true=false)->Down ops ls->bS ls m=fuel->
  wpAny P .any (ops.extract 0 m) (tD P ops Q m (ops.size - m)) fuel l a w->wpAny P .any ops Q (fuel+(ops.size - m)) ls a w:=by
 have R:(ops.extract 0 m).size=m:=by simp;omega
 have q:∀i,i<m->(ops.extract 0 m)[i]? =ops[i]? :=λi hi=>by rw[Uc];simp;omega
 have x:∀i,i<m->nq (ops.extract 0 m) i=nq ops i:=λi hi=>by unfold nq;rw[q i hi]
 intro fuel;induction fuel with
 |zero=>
  intro l ls a w C r o p hd hu h;have:ls=upto ops.size m:=by
   apply U1
   ·simp[upto,r]
   ·intro i h1 h2;have hi:i<ops.size:=by omega
    have e:ls.getD i true=(upto ops.size m).getD i true:=by
     rw[iS _ _ _ hi];by_cases n:i<m
     ·rw[dK hu i n];simp[n]
     ·rw[p i (by omega) hi];simp[n]
    simpa[h1,h2]using e
  rw[this];simpa using vA s (ops.size - m) m a w (by omega) (Rc _) h.2
 |succ fuel S=>
  intro l ls a w C r o p hd hu h;have E:∀b c (i:Nat),i<ops.size->ls.getD i b=ls.getD i c:=λb c i hi=>by simp[show i<ls.size by omega]
  obtain⟨i0,N,A,F⟩:=gA (ls:=ls) (m:=m) (by omega);have B:∀i,i∈Region.ready .any ops ls->i<m:=λi hi=>by
   obtain⟨h1,h2,v⟩:=cT.1 hi;rcases Sf i m with D|D
   ·exact D
   ·have:=eX r hd (iC s) f i i0 h1 (rh s i h1 D i0 (by omega)) v;rw[E false true i0 (by omega),A]at this;cases this
  have G:∀i,i∈Region.ready .any ops ls->i∈Region.ready .any (ops.extract 0 m) l:=λi hi=>by
   have n:=B i hi;obtain⟨h1,h2,v⟩:=cT.1 hi;refine cT.2 ⟨by omega,by rw[<-o i n];exact h2,λk hk=>?_⟩;rw[x i n]at hk;have J:=iC s i h1 k hk;have:=v k hk;rw[E false true k (by omega),o k (by omega)]at this;simpa[show k<l.size by omega]using this
  have z:i0∈Region.ready .any ops ls:=cT.2 ⟨by omega,A,λk hk=>by
   have:=iC s i0 (by omega) k hk;rw[E false true k (by omega)];exact F k this⟩
  rw[show fuel+1+(ops.size - m)=(fuel+(ops.size - m))+1 by omega];refine⟨λh0=>absurd z (by rw[h0];simp),λi hi=>?_⟩;have n:=B i hi;obtain⟨h1,h2,v⟩:=cT.1 hi;have d:=h.2 i (G i hi);have next:∀a w,wpAny P .any (ops.extract 0 m) (tD P ops Q m (ops.size - m)) fuel (l.setIfInBounds i true) a w->wpAny P .any ops Q (fuel+(ops.size - m)) (ls.setIfInBounds i true) a w:=λa w y=>by
   refine S _ _ a w (by simpa using C) (by simpa using r) (λj u=>?_) (λj u t=>?_) (λj u t k hk=>?_) (by have:=gC h2 n (by omega);omega) y
   ·by_cases e:i=j
    ·subst e;simp[show i<ls.size by omega,show i<l.size by omega]
    ·have:=o j u;simp only[Rm,Rx e]at this ⊢;exact this
   ·have:=p j u t;simp only[Rm,Rx (show i≠j by omega)]at this ⊢;exact this
   ·by_cases e:i=j
    ·subst e;have J:=iC s i h1 k hk;have:=v k hk;simp only[Rm,Rx (show i≠k by omega)]at this ⊢;exact this
    ·have H:ls.getD j true=true:=by
      simp only[Rm,Rx e]at u ⊢;exact u
     have:=hd j H t k hk;by_cases K:i=k
     ·subst K;simp[show i<ls.size by omega]
     ·simp only[Rm,Rx K]at this ⊢;exact this
  unfold wpOp at d ⊢;rw[q i n]at d;have L:ops[i]? =some ops[i]:=by simp[h1]
  rw[L]at d ⊢;simp only at d ⊢;have hy:Region.wanted ops[i] (yielded (ops.extract 0 m) a.tmps)=Region.wanted ops[i] (yielded ops a.tmps):=by
   unfold Region.wanted;cases M:(ops[i]).guard with
   |none=>rfl
   |some g=>
    obtain⟨j,wt⟩:=g;have:=wj s i ops[i] j wt L M;simp only[yielded];rw[q j (by omega)]
  rw[hy]at d;split
  ·rename_i hw;rw[QY hw]at d;rcases d with y|⟨y,a0,T,O⟩
   ·exact .inl (yS next y)
   ·exact .inr ⟨y,a0,T,O⟩
  ·rename_i hw;rw[QZ hw]at d;exact next _ _ d
theorem eC(n i:Nat)(h:i<n)(b:Bool):(Array.replicate n false).getD i b=false:=by simp[h]
theorem wq{N:Nat}{l:List Oper}{t t' σ}{F:Nat->Prop}{base:Nat}{E c ds}{w:World}{Q:Exit->Act->World->Prop}(hs:dR F base N ⟨t,σ⟩ E ⟨c,ds⟩ w)(D:List Nat)(A:Region.lexB .any l.toArray=true)
  (hn:(l.all λo=>o.dst.all λe=>decide (e<N)&&D.contains e)=true) (h:eH P N l.toArray σ l t t') (R:∀b w',Ext w w'->dR F base N ⟨t',σ⟩ E ⟨b,ds⟩ w'->Q .normal ⟨b,ds⟩ w'):
  wpAny P .any l.toArray Q l.length (Array.replicate l.length false) ⟨c,ds⟩ {w with drawn:=w.drawn+1}:=by
 have s:c.size=N:=hs.size;have j:∀o∈l,∀e,o.dst=some e->e<c.size/\e∈D:=λo m e he=>by
  have:=Rq.1 hn o m;rw[he]at this;simp at this;rw[s];exact this
 have h1:=h.abs (E:=E) (w:=w) (F:=F) (base:=base) (C:=λw'=>Ext w w'/\Sat F base σ E w') (λw' f=>f) (G:=λβ=>tC E w β t') (λβ z=>z) (λt v _=>v=c.getD t undef) (λk p hk v w' u hv=>by
  subst hv;have:=hs.tmp k p hk;simpa[Act.eval]using this.ext u)
 have h2:=oZ (D:=D) l _ (λt v _=>v=c.getD t undef) (λ_ _=>rfl) (λo m e he=>(j o m e he).2) h1;simp only[Region.lexB,Q7]at A;have K:=pL (md:=.any) (ops:=l.toArray) l 0 (Array.replicate l.toArray.size false) _ (by simp) (by simpa using A.2) h2;have u:Ext w {w with drawn:=w.drawn+1}:=⟨rfl,rfl,rfl,Rc _,λ_ _=>rfl⟩;have L:=mQ (P:=P) (ops:=l.toArray) (md:=.any) (n:=c.size) (d:=ds) (Q:=Q) (C:=λw'=>Ext w w'/\Sat F base σ E w') (λH J cS g=>⟨cS.1.trans g,cS.2.ext g⟩)
  (λi o m e he=>(j o (by simpa using TJ m) e he).1) (λβ a w' f x M=>?_) l.length _ _ ⟨c,ds⟩ {w with drawn:=w.drawn+1} (λt=>AF _) ⟨u,hs.sat.ext u⟩ ⟨λt=>rfl,rfl,rfl⟩ K
 ·simpa using L
 ·obtain⟨O,B⟩:=M;obtain⟨y,q,r⟩:=x;obtain⟨b,S⟩:=a;simp only at q r;subst q;exact R b w' f.1 ⟨f.2,λk p hk=>O k p hk _ w' f.1 (y k),hs.lE,by rw[<-s];exact r⟩
theorem Ex{N L:Nat}{id:Nat}{l:List Oper}{t t' σ}{Q:Exit->St->Prop}(m f:Nat)(D:List Nat)(hm:P.follows .mixedOrders=true)(z:Region.lexB .any (l.take m).toArray=true)
    (hn:((l.take m).all λo=>o.dst.all λe=>decide (e<N)&&D.contains e)=true) (g:zM l.toArray f m=true) (u:Nat.ble m l.length=true)
    (h:eH P N (l.take m).toArray σ (l.take m) t t') (hw:WR P N L l.toArray (l.drop m) ⟨t',σ⟩ (λs=>Q .normal s)):W P N L (.region id l.toArray true) ⟨t,σ⟩ Q:=λF base E₀ w₀ E a w hc hs=>by
  obtain⟨p,x⟩:=a;have c:m<=l.length:=Nat.ble_eq.mp u;have r:(l.take m).length=m:=by simp;omega
  refine wp_region_any hm ?_;have n:=wq (Q:=tD P l.toArray (λe d w'=>mY F base N E₀ w₀ (Q e) d w') m (l.toArray.size - m)) hs D z hn h (λb w' y v=>by
    have:=hw F base E₀ w₀ E ⟨b,x⟩ w' (hc.on (.ext y) (Ti y hs.sat.bl)) v (λe d w'=>mY F base N E₀ w₀ (Q e) d w') m (λd w' hp=>hp) (λj=>by simp);simpa[tD]using this)
  have he:l.toArray.extract 0 m=(l.take m).toArray:=by simp
  have := sK (P := P) g (by simpa using c) (Q := λe d w' => mY F base N E₀ w₀ (Q e) d w') m (Array.replicate m false) (Array.replicate l.toArray.size false) ⟨p, x⟩ { w with drawn := w.drawn + 1 } (by simp) (by simp) (λi hi => by rw [eC _ _ hi, eC _ _ (by simp; omega)]) (λi _ hi => eC _ _ hi _) (λi hi q => by
      have:(Array.replicate l.toArray.size false).getD i true=false:=eC _ _ q _;rw[this]at hi;cases hi) (by
      have:∀k,k<=l.length->bS (Array.replicate l.toArray.size false) k=k:=by
        intro k;induction k with
        |zero=>intro _;rfl
        |succ k A=>
          intro hk;simp only[bS];rw[A (by omega)];have:(Array.replicate l.toArray.size false).getD k true=false:=eC _ _ (by simp;omega) _;rw[this];simp
      exact this m c) (by rw[he];rw[r]at n;exact n)
  rw[show m+(l.toArray.size - m)=l.toArray.size by simp;omega]at this;exact this
theorem MB{N L:Nat}{id:Nat}{l:List Oper}{y t t' σ}{Q:Exit->St->Prop}(m f:Nat)(D:List Nat)(hm:P.follows .mixedOrders=true)(c:Region.lexB .any (l.take m).toArray=true)
  (hn:((l.take m).all λo=>o.dst.all λe=>decide (e<N)&&D.contains e)=true) (a:zM l.toArray f m=true) (b:Nat.ble m l.length=true)
  (h:eH P N (l.take m).toArray σ (l.take m) t t') (hw:WR P N L l.toArray (l.drop m) ⟨t',σ⟩ (λs=>W P N L y s Q)):W P N L (.seq (.region id l.toArray true) y) ⟨t,σ⟩ Q:=ai (Ex m f D hm c hn a b h hw)
end
end
end PW
end Go.Proofs.YtoopjinigmhpcaaGreatDoor
