/- Part 1. -/
import Derived.Deep.Quiet
import Derived.Below
import Derived.OwnWalk
import Derived.Laws.Slices
import Derived.Laws.AppendOwnNone
import Derived.MapKept
import Derived.WalkKit
import Derived.ProofKit
import Derived.Laws.Tables
import Derived.Great.BuildSlice
import Derived.Deep.LoopGhost
import Derived.Laws.OwnMore
set_option maxRecDepth 100000
set_option maxHeartbeats 4000000
namespace Go.Proofs.YtfcadpknnbgibaaGreatDoor
theorem dw.{u} {α:Sort u}(a:α):∃b,a=b:=⟨a,rfl⟩
abbrev Qo:=@List.getD_eq_getElem?_getD
abbrev Vf:=@List.getElem?_eq_some_iff
abbrev Vg:=@of_decide_eq_true
abbrev Vh:=@Nat.le_refl
abbrev Vi:=@Int.toNat_natCast
abbrev Vj:=@of_decide_eq_false
abbrev Vk:=@if_neg
abbrev Vl:=@List.getElem?_append_left
abbrev Vm:=@List.getElem?_eq_getElem
abbrev Vn:=@if_pos
abbrev Vo:=@Int.eq_ofNat_of_zero_le
abbrev Vq:=@List.getElem?_append_right
abbrev Vr:=@Option.map_eq_some_iff
abbrev Vs:=@Array.getElem?_eq_some_iff
abbrev Vt:=@List.getElem?_map
abbrev Vu:=@List.length_append
abbrev Vv:=@List.mem_map
abbrev Vx:=@Bool.and_eq_true
abbrev Vy:=@List.eq_nil_of_length_eq_zero
abbrev Vz:=@Array.getD_eq_getD_getElem?
abbrev VA:=@decide_eq_false
abbrev VB:=@List.mem_cons_of_mem
abbrev VC:=@List.mem_cons_self
abbrev VD:=@Array.getElem?_setIfInBounds_ne
abbrev VE:=@List.mem_of_getElem?
abbrev VF:=@Nat.eq_of_beq_eq_true
abbrev VG:=@List.all_eq_true
abbrev VH:=@decide_eq_true_eq
abbrev VI:=@List.length_cons
abbrev VK:=@List.length_set
abbrev VL:=@Nat.le_trans
abbrev VM:=@decide_eq_true
abbrev VN:=@List.take_length
abbrev VP:=@List.mem_range
abbrev VQ:=@Classical.byContradiction
abbrev VR:=@List.length_singleton
abbrev VS:=@Nat.lt_of_lt_of_le
abbrev VU:=@List.append_assoc
abbrev VV:=@List.getElem?_set
abbrev VX:=@List.map_cons
abbrev VY:=@List.getElem?_set_ne
abbrev VZ:=@Bool.cond_eq_ite
abbrev V1:=@congrArg
abbrev V2:=@List.take_of_length_le
abbrev V3:=@Array.length_toList
abbrev V4:=@List.getElem?_eq_none
abbrev V6:=@List.append_nil
abbrev V7:=@List.map_map
abbrev V8:=@List.length_take
abbrev V9:=@List.mem_cons
abbrev Wd:=@Bool.and_eq_true_iff
abbrev We:=@Nat.zero_le
abbrev Wf:=@List.length_map
abbrev Wh:=@List.map_congr_left
abbrev Wi:=@List.drop_of_length_le
abbrev Wj:=@Option.map_some
abbrev Wk:=@List.mem_filter
abbrev Wl:=@List.length_filter_le
abbrev Wm:=@List.flatMap_cons
abbrev Wn:=@List.getElem?_take
abbrev Wo:=@Bool.or_eq_false_iff
abbrev Wq:=@Option.bind_some
abbrev Wr:=@List.mem_append_left
abbrev Ws:=@Nat.zero_add
abbrev Wt:=@List.cons_append
abbrev Wu:=@List.map_append
abbrev Wv:=@List.nodup_cons
abbrev Ww:=@Nat.lt_or_ge
abbrev Wx:=@List.getElem?_replicate
abbrev Wy:=@Nat.le_of_ble_eq_true
abbrev Wz:=@List.ext_getElem?
abbrev WB:=@Bool.true_and
abbrev WC:=@List.getElem?_set_self
abbrev WD:=@Int.tmod_eq_emod_of_nonneg
abbrev WE:=@Option.some.injEq
abbrev WG:=@Bool.not_eq_true'
abbrev WH:=@Option.getD_some
abbrev WI:=@List.filter_append
abbrev WJ:=@List.nil_append
abbrev WL:=@Nat.not_lt_zero
abbrev WM:=@List.range_succ
abbrev WO:=@List.pairwise_map
abbrev WQ:=@List.eraseIdx_eq_take_drop_succ
abbrev WT:=@List.getElem?_concat_length
abbrev WV:=@List.getElem?_drop
abbrev WW:=@List.mem_singleton
abbrev WX:=@List.length_replicate
abbrev WY:=@List.nodup_iff_pairwise_ne
abbrev W4:=@List.cons.inj
abbrev W5:=@List.mem_append
abbrev W6:=@List.filter_cons
abbrev W7:=@List.pairwise_iff_getElem
abbrev W8:=@List.getElem?_of_mem
abbrev Xb:=@Bool.false_eq_true
abbrev Xc:=@List.set_eq_take_append_cons_drop
abbrev Xd:=@List.set_append_right
abbrev Xe:=@Nat.min_eq_left
abbrev Xf:=@Bool.or_eq_true
abbrev Xg:=@Int.le_refl
abbrev Xh:=@Bool.or_eq_true_iff
abbrev Xi:=@List.getElem_of_mem
abbrev Xj:=@Array.getElem?_toList
abbrev Xk:=@Nat.add_assoc
abbrev Xl:=@List.size_toArray
abbrev Xm:=@decide_eq_false_iff_not
abbrev Xn:=@List.foldl_cons
abbrev Xo:=@List.any_eq_true
abbrev Xp:=@Prod.mk.injEq
abbrev Xq:=@List.take_append_of_le_length
abbrev Xr:=@if_true
abbrev Xs:=@List.replicate_succ
abbrev Xt:=@Nat.mul_one
abbrev Xu:=@Nat.ble_eq
abbrev Xw:=@List.map_nil
abbrev Xx:=@List.getElem?_toArray
abbrev Xy:=@Bool.and_eq_false_iff
abbrev Xz:=@Nat.eq_zero_or_pos
abbrev XA:=@Option.some.inj
abbrev XB:=@List.set_cons_zero
abbrev XC:=@Nat.blt_eq
abbrev XD:=@Nat.mul_le_mul_right
abbrev XE:=@Array.toList_map
abbrev XF:=@List.map_toArray
abbrev XG:=@List.ext_getElem
abbrev XI:=@Int.tdiv_eq_ediv_of_nonneg
abbrev XJ:=@List.take_add_one
abbrev XK:=@Array.getElem?_eq_getElem
abbrev XL:=@Nat.succ_mul
abbrev XM:=@List.eq_nil_iff_forall_not_mem
abbrev XO:=@Int.natCast_nonneg
abbrev XQ:=@List.range'_succ
abbrev XR:=@List.nodup_range
abbrev XS:=@List.drop_append_of_le_length
abbrev XT:=@Nat.add_sub_cancel_left
abbrev XU:=@List.take_take
abbrev XV:=@Bool.eq_iff_iff
abbrev XW:=@Array.toList_append
abbrev XX:=@Nat.le_succ
abbrev XY:=@List.length_drop
abbrev XZ:=@List.mem_filterMap
abbrev X0:=@List.set_cons_succ
abbrev X1:=@List.take_append_drop
abbrev X2:=@Array.getElem?_modify
abbrev X3:=@List.zip_cons_cons
abbrev X4:=@List.drop_drop
abbrev X5:=@Array.replicate_succ
abbrev X6:=@Array.replicate_zero
abbrev X7:=@List.nodup_append
abbrev X9:=@List.Pairwise.imp_of_mem
abbrev Ya:=@List.filter_nil
abbrev Yb:=@List.drop_left'
abbrev Yc:=@List.filter_congr
abbrev Yd:=@List.length_range
abbrev Yf:=@Nat.add_zero
abbrev Yg:=@Nat.beq_refl
abbrev Yj:=@List.append_toArray
abbrev Yk:=@Nat.mod_eq_of_lt
abbrev Yl:=@List.getElem_mem
abbrev Yo:=@if_false
abbrev Yp:=@Array.mem_of_getElem?
abbrev Yq:=@Nat.sub_zero
abbrev Yr:=@List.contains_iff_mem
abbrev Ys:=@List.cons.injEq
abbrev Yt:=@List.map_set
abbrev Yu:=@List.length_filter_lt_length_iff_exists
abbrev Yv:=@List.mem_append_right
abbrev Yx:=@Function.comp_def
abbrev Yy:=@List.push_toArray
abbrev Yz:=@List.range_eq_range'
abbrev YA:=@Nat.pow_le_pow_right
abbrev YB:=@List.drop_eq_getElem_cons
abbrev YE:=@List.take_append
abbrev YF:=@List.drop_append
abbrev YG:=@List.getD_cons_succ
abbrev YH:=@List.getElem?_range
abbrev YI:=@Nat.mul_le_mul_left
abbrev YJ:=@Nat.add_comm
abbrev YK:=@Nat.sub_self
abbrev YL:=@List.length_filterMap_le
abbrev YM:=@Option.map_none
abbrev YO:=@List.getElem?_cons_zero
abbrev YP:=@List.map_take
abbrev YQ:=@List.length_nil
abbrev YR:=@UInt8.toNat_ofNat'
abbrev YS:=@Array.getElem?_eq_none
abbrev YT:=@Array.getElem?_extract
abbrev YU:=@List.pairwise_lt_range
abbrev YV:=@List.sublist_cons_self
abbrev YW:=@Nat.mod_lt
abbrev YX:=@Bool.eq_false_iff
abbrev YY:=@List.drop_take
abbrev YZ:=@List.nodup_nil
abbrev Y0:=@List.Perm.swap
abbrev Y1:=@List.set_getElem_self
abbrev Y2:=@List.mem_flatMap
abbrev Y3:=@Nat.lt_succ_self
abbrev Y4:=@List.mem_reverse
abbrev Y6:=@Nat.succ_le_succ
abbrev Y7:=@List.replicate_succ'
abbrev Y8:=@List.mem_of_mem_take
abbrev Za:=@List.map_drop
abbrev Zb:=@Bool.decide_and
abbrev Zc:=@List.getD_cons_zero
abbrev Zd:=@List.filter_sublist
abbrev Ze:=@Array.all_eq_true'
abbrev Zf:=@Nat.zero_mul
abbrev Zg:=@Nat.succ_pos
abbrev Zh:=@List.find?_eq_none
abbrev Zi:=@Bool.not_false
abbrev Zj:=@List.foldl_nil
abbrev Zk:=@Option.map_map
abbrev Zm:=@List.foldl_append
abbrev Zn:=@Nat.lt_trichotomy
abbrev Zo:=@Decidable.not_not
abbrev Zp:=@Nat.lt_irrefl
abbrev Zq:=@Nat.add_mul
abbrev Zs:=@List.drop_length
abbrev Zt:=@Option.bind_none
abbrev Zv:=@List.all_append
abbrev Zx:=@List.set_set
abbrev ZE:=@Array.ext
section
theorem I.{u} {α : Sort u} {a : α} : a = a := rfl
end
namespace cm
section
open Go.RowKit
def Ext(w w':World):Prop:=Below w.heap.size w w'
theorem Ext.refl(w:World):Ext w w:=Below.refl _ _
abbrev XH:=@Ext.refl
theorem Ext.trans{a b c}(h:Ext a b)(k:Ext b c):Ext a c:=Below.trans h (Below.mono k h.size)
theorem Ext.alloc{a b:World}(h:Ext a b)(o:Obj):Ext a (b.alloc o):=Below.alloc h h.size o
theorem Ext.of{a b:World}(h:Below a.heap.size a b):Ext a b:=h
theorem Ext.lt{w:World}{p:Addr}{v}(h:w.cell? p=some v):p.block<w.heap.size:=by
 rcases Ww p.block w.heap.size with a|a
 ·exact a
 ·simp[World.cell?,YS a]at h
theorem Ext.cell{w w':World}(h:Ext w w'){p v}(hc:w.cell? p=some v):w'.cell? p=some v:=by
 rw[Below.cell h (Ext.lt hc)];exact hc
theorem Ext.size{a b:World}(h:Ext a b):a.heap.size<=b.heap.size:=Below.size h
def Te(Φ:Value->World->Prop)(w:World)(e:Ending)(w':World):Prop:=∃v,e= .returned v/\Ext w w'/\Φ v w'
abbrev dX:=Value->World->Prop
def yO(Φ:dX):Prop:=∀v w w',Ext w w'->Φ v w->Φ v w'
theorem BZ(c:Value):yO (λv _=>v=c):=λ_ _ _ _ h=>h
def jh(α:Tmp->dX)(d:Option Tmp)(Φ:dX):Tmp->dX:=λt=>
 match d with
 |some d=>bif Nat.beq t d then Φ else α t
 |none=>α t
theorem lG(α:Tmp->dX)(d:Tmp)(Φ:dX):jh α (some d) Φ d=Φ:=by simp[jh]
theorem kA(α:Tmp->dX)(d:Option Tmp)(Φ:dX)(t:Tmp)(h:∀e,d=some e->t≠e):jh α d Φ t=α t:=by
 cases d with
 |none=>rfl
 |some e=>
  have:Nat.beq t e=false:=by
   cases hb:Nat.beq t e with
   |false=>rfl
   |true=>exact absurd (VF hb) (h e rfl)
  simp[jh,this]
theorem Mp(α:Tmp->dX)(x y:Option Tmp)(Φ Ψ:dX)(h:∀d,x=some d->y≠some d):jh (jh α x Φ) y Ψ=jh (jh α y Ψ) x Φ:=by
 funext t
 cases x with
 |none=>rfl
 |some d=>
  cases y with
  |none=>rfl
  |some e=>
   have b:d≠e:=λhe=>h d rfl (he▸rfl);by_cases h1:t=d
   ·subst h1;rw[lG,kA _ _ _ _ (λa he=>by cases he;exact b),lG]
   ·by_cases h2:t=e
    ·subst h2;rw[lG,kA _ _ _ _ (λa he=>by cases he;exact h1),lG]
    ·rw[kA _ _ _ _ (λa he=>by cases he;exact h2),kA _ _ _ _ (λa he=>by cases he;exact h1),kA _ _ _ _ (λa he=>by cases he;exact h1),kA _ _ _ _ (λa he=>by cases he;exact h2)]
structure nj (ρ:Operand->Value):Prop where
 const:∀v,ρ (.const v)=v
 Tq:∀g,ρ (.global g)= .pointer (some ⟨g,0,none⟩)
 func:∀f,ρ (.func f)= .func (.func f) #[] #[]
theorem fZ(a:Act):nj a.eval:=⟨λ_=>rfl,λ_=>rfl,λ_=>rfl⟩
def JA:Value->Option Bool
 | .bool b=>some b
 |_=>none
def nV(ops:Array Oper)(o:Oper)(ρ:Operand->Value):Bool:=
 match o.guard with
 |none=>true
 |some (j,want)=>(match(ops[j]?).bind (·.dst)with|some t=>JA (ρ (.tmp t))|none=>none)==some want
theorem iz(ops:Array Oper)(o:Oper)(a:Act):Region.wanted o (yielded ops a.tmps)=nV ops o a.eval:=by
 unfold Region.wanted nV;cases o.guard with
 |none=>rfl
 |some g=>
  obtain⟨j,want⟩:=g;simp only[yielded];cases(ops[j]?).bind (·.dst)with
  |none=>rfl
  |some t=>
   simp only[Wq,Act.eval,Vz];cases a.tmps[t]? with
   |none=>rfl
   |some v=>cases v<;>rfl
def iL(P:Program)(w:World)(Φ:dX):Result Next->Prop
 | .ok (.value v) w'=>Ext w w'/\Φ v w'
 | .ok .skip w'=>Ext w w'/\Φ undef w'
 | .ok (.enter f args) w'=>Ext w w'/\Calls P f args w' (Te Φ w')
 |_=>False
section
variable (P:Program) (w:World) (Φ:dX)
end
def yQ(P:Program)(ops:Array Oper)(o:Oper)(ρ:Operand->Value)(w:World)(Φ:dX):Prop:=
 if nV ops o ρ then iL P w Φ ((execOp ρ o).run P w) else Φ undef w
section
variable {P:Program} {ops:Array Oper} {md:Region.Mode} {C:World->Prop}
def Yields(P:Program)(ops:Array Oper)(C:World->Prop)(o:Oper)(Φ:dX)(α:Tmp->dX):Prop:=
 yO Φ/\∀ρ w,nj ρ->C w->(∀t∈o.looksAt ops,α t (ρ (.tmp t)) w)->yQ P ops o ρ w Φ
def tP(P:Program)(ops:Array Oper)(C:World->Prop)(F:(Tmp->dX)->Prop):List Oper->(Tmp->dX)->Prop
 | [],α=>F α
 |o::rest,α=>∃Φ,Yields P ops C o Φ α/\tP P ops C F rest (jh α o.dst Φ)
def Jj(P:Program)(ops:Array Oper)(C:World->Prop)(i:Nat)(K:(Tmp->dX)->Prop)(α:Tmp->dX):Prop:=
 match ops[i]? with
 |none=>K α
 |some o=>∃Φ,Yields P ops C o Φ α/\K (jh α o.dst Φ)
def wa(P:Program)(md:Region.Mode)(ops:Array Oper)(C:World->Prop)(F:(Tmp->dX)->Prop):Nat->Array Bool->(Tmp->dX)->Prop
 |0,listed,α=>Region.ready md ops listed=[]/\F α
 |fuel+1,listed,α=>
  (Region.ready md ops listed=[]->F α)/\
  ∀i∈Region.ready md ops listed,Jj P ops C i (wa P md ops C F fuel (listed.setIfInBounds i true)) α
theorem Yields.of_same{o:Oper}{Φ}{α β:Tmp->dX}(h:Yields P ops C o Φ α)(he:∀t∈o.looksAt ops,β t=α t):Yields P ops C o Φ β:=
 ⟨h.1,λρ w a hw hs=>h.2 ρ w a hw (λt b=>by rw[<-he t b];exact hs t b)⟩
theorem Jk{i:Nat}{α:Tmp->dX}{K b:(Tmp->dX)->Prop}(h:∀α,K α->b α)(a:Jj P ops C i K α):Jj P ops C i b α:=by
 unfold Jj at*;split
 ·exact h _ (by simpa[*]using a)
 ·rename_i o ho;simp only[ho]at a;obtain⟨Φ,h1,h2⟩:=a;exact⟨Φ,h1,h _ h2⟩
theorem Nf{j:Nat}{a f:Oper}{Φ}(hj:ops[j]? =some f)(b:a.apart ops f=true){K:(Tmp->dX)->Prop}{α:Tmp->dX}
  (hy:Yields P ops C a Φ α) (h:Jj P ops C j K (jh α a.dst Φ)):
  Jj P ops C j (λβ=>Yields P ops C a Φ β/\K (jh β a.dst Φ)) α:=by
 obtain⟨h1,h2,g⟩:=Oper.apart_spec b;unfold Jj at*;simp only[hj]at*;obtain⟨Ψ,d,hn⟩:=h;refine⟨Ψ,d.of_same λt c=>?_,hy.of_same λt c=>?_,?_⟩
 ·exact(kA _ _ _ _ λe he heq=>h1 e he (heq▸c)).symm
 ·exact kA _ _ _ _ λe he heq=>g e he (heq▸c)
 ·rw[<-Mp α a.dst f.dst Φ Ψ h2];exact hn
theorem As{F:(Tmp->dX)->Prop}{i:Nat}{f:Oper}{Φ}(hi:ops[i]? =some f):
  ∀(fuel:Nat) (listed:Array Bool) (α:Tmp->dX),(∀j g,ops[j]? =some g->j≠i->listed.getD j true=false->(∀e∈g.after,Region.binds md e=true->e.on≠i)->f.apart ops g=true)->
   i∈Region.ready md ops listed->Yields P ops C f Φ α->
   wa P md ops C F fuel (listed.setIfInBounds i true) (jh α f.dst Φ)->wa P md ops C F (fuel+1) listed α:=by
 intro fuel;have own:∀ {α:Tmp->dX} {K:(Tmp->dX)->Prop},Yields P ops C f Φ α->K (jh α f.dst Φ)->Jj P ops C i K α:=λhy hk=>by
  unfold Jj;simp only[hi];exact⟨Φ,hy,hk⟩
 induction fuel with
 |zero=>
  intro listed α _ hr hy H;refine⟨λh=>(by rw[h]at hr;cases hr),λj hj=>?_⟩;by_cases a:j=i
  ·subst a;exact own hy H
  ·have:=ready_mono hj a;rw[H.1]at this;cases this
 |succ fuel ih=>
  intro listed α b hr hy H;refine⟨λh=>(by rw[h]at hr;cases hr),λj hj=>?_⟩;by_cases a:j=i
  ·subst a;exact own hy H
  ·have h1:=H.2 j (ready_mono hj a);obtain⟨d,g,o,l⟩:=mem_ready.1 hj;have n:∀e∈g.after,Region.binds md e=true->e.on≠i:=λe he hb heq=>by
    have h1:=l e he hb;have h0:=(mem_ready.1 hr).1;rw[heq]at h1;rcases Ww i listed.size with q|q
    ·simp[q]at h0 h1;rw[h0]at h1;cases h1
    ·simp[YS q]at h1
   have h2:=Nf o (b j g o a d n) hy h1;have c:∀k ok,ops[k]? =some ok->k≠i->(listed.setIfInBounds j true).getD k true=false->
     (∀e∈ok.after,Region.binds md e=true->e.on≠i)->f.apart ops ok=true:=λk ok hk r p s=>by
    refine b k ok hk r ?_ s;by_cases m:j=k
    ·subst m;exact d
    ·rw[getD_set_ne true m]at p;exact p
   refine Jk (λβ t=>ih (listed.setIfInBounds j true) β c (ready_mono hr (Ne.symm a)) t.1 ?_) h2;rw[Array.setIfInBounds_comm _ _ a];exact t.2
theorem qQ{F:(Tmp->dX)->Prop}:∀(l:List Oper) (k:Nat) (listed:Array Bool) (α:Tmp->dX),(∀j,l[j]? =ops[k+j]?)->
  Region.lexFrom md ops l.length k listed=true->tP P ops C F l α->wa P md ops C F l.length listed α
 | [],_,_,_,_,a,h=>⟨by simpa[Region.lexFrom]using a,h⟩
 |o::l,k,listed,α,hl,a,h=>by
  have h0:ops[k]? =some o:=by simpa using(hl 0).symm
  simp only[VI,Region.lexFrom,Vx]at a;obtain⟨⟨hr,d⟩,b⟩:=a;obtain⟨Φ,hy,c⟩:=h;exact As h0 l.length listed α (Region.free_spec h0 d) (by simpa using hr) hy
   (qQ l (k+1) _ _ (λj=>by have:=hl (j+1);simpa[Xk,YJ 1 j]using this) b c)
def Sat(α:Tmp->dX)(n:Nat)(d:List Deferred)(a:Act)(w:World):Prop:=
 (∀t,α t (a.eval (.tmp t)) w)/\a.defers=d/\a.tmps.size=n
theorem Sat.put{α:Tmp->dX}{n:Nat}{d}{a:Act}{w w'}{o:Oper}{Φ v}(c:∀t,yO (α t))(h:Sat α n d a w)(i:Ext w w')
  (hd:∀e,o.dst=some e->e<n) (hv:Φ v w'):Sat (jh α o.dst Φ) n d (a.put o.dst v) w':=by
 obtain⟨h1,h2,f⟩:=h;cases ho:o.dst with
 |none=>exact⟨λt=>c t _ _ _ i (h1 t),h2,f⟩
 |some e=>
  have hlt:=hd e ho;refine⟨λt=>?_,by simpa[Act.put]using h2,by simpa[Act.put]using f⟩;by_cases b:t=e
  ·subst b;rw[lG];have:(a.put (some t) v).eval (.tmp t)=v:=by simp[Act.put,Act.eval,f,hlt]
   rw[this];exact hv
  ·rw[kA _ _ _ _ (λk he=>by cases he;exact b),Act.eval_put (λj g heq=>by cases g;cases heq;exact b rfl)];exact c t _ _ _ i (h1 t)
theorem KY{α:Tmp->dX}(a:∀t,yO (α t))(d:Option Tmp){Φ}(b:yO Φ):∀t,yO (jh α d Φ t):=by
 intro t;cases d with
 |none=>exact a t
 |some e=>
  by_cases h:t=e
  ·subst h;rw[lG];exact b
  ·rw[kA _ _ _ _ (λc he=>by cases he;exact h)];exact a t
theorem C5{n:Nat}{d}(hC:∀w w',C w->Ext w w'->C w')(hn:∀(i:Nat) (o:Oper),ops[i]? =some o->∀e,o.dst=some e->e<n)
  {i:Nat} {α:Tmp->dX} {a w} {K:(Tmp->dX)->Prop} {m:Act->World->Prop} {Q:Exit->Act->World->Prop} (c:∀t,yO (α t)) (hw:C w) (hs:Sat α n d a w)
  (h:∀β a w,(∀t,yO (β t))->C w->Sat β n d a w->K β->m a w) (l:Jj P ops C i K α):wpOp P ops Q i m a w:=by
 unfold Jj at l;unfold wpOp;split
 ·rename_i ho;simp only[ho]at l;exact h _ _ _ c hw hs l
 ·rename_i o ho;simp only[ho]at l;obtain⟨Φ,hy,hk⟩:=l;have b:=hy.2 a.eval w (fZ a) hw (λt _=>hs.1 t);unfold yQ at b;have g:=KY c o.dst hy.1;rw[iz];split
  ·rename_i j;simp only[j,Xr]at b;left;unfold Oper.wp;generalize (execOp a.eval o).run P w=r at*;cases r with
   |ok x w'=>
    cases x<;>simp only[iL]at b<;>simp only[Oper.upon]
    case value v=>exact h _ _ _ g (hC _ _ hw b.1) (hs.put c b.1 (hn i o ho) b.2) hk
    case skip=>exact h _ _ _ g (hC _ _ hw b.1) (hs.put c b.1 (hn i o ho) b.2) hk
    case enter f p=>
     obtain⟨q,hc⟩:=b;refine hc.mono λe s ⟨v,he,k,hv⟩=>?_;subst he;exact h _ _ _ g (hC _ _ hw (q.trans k)) (hs.put c (q.trans k) (hn i o ho) hv) hk
   |halt x w'=>simp only[iL]at b
  ·rename_i j;simp only[j]at b;exact h _ _ _ g hw (hs.put c (XH _) (hn i o ho) b) hk
theorem nW{n:Nat}{d}(hC:∀w w',C w->Ext w w'->C w')(hn:∀(i:Nat) (o:Oper),ops[i]? =some o->∀e,o.dst=some e->e<n)
  {F:(Tmp->dX)->Prop} {Q:Exit->Act->World->Prop} (b:∀β a w,C w->Sat β n d a w->F β->Q .normal a w):∀(fuel:Nat) (listed:Array Bool) (α:Tmp->dX) (a:Act) (w:World),(∀t,yO (α t))->C w->Sat α n d a w->wa P md ops C F fuel listed α->wpAny P md ops Q fuel listed a w
 |0,_,_,_,_,_,hw,hs,h=>⟨h.1,b _ _ _ hw hs h.2⟩
 |fuel+1,_,_,_,_,g,hw,hs,h=>⟨λh0=>b _ _ _ hw hs (h.1 h0),λi hi=>C5 hC hn g hw hs (λβ k w' j f c hk=>nW hC hn b fuel _ β k w' j f c hk) (h.2 i hi)⟩
theorem pZ{F:(Tmp->dX)->Prop}{D:List Tmp}:∀(l:List Oper) (α a:Tmp->dX),(∀t,t∉D->α t=a t)->(∀o∈l,∀e,o.dst=some e->e∈D)->tP P ops C F l α->
  tP P ops C (λβ=>F β/\∀t,t∉D->β t=a t) l α
 | [],_,_,h0,_,h=>⟨h,h0⟩
 |o::l,α,a,h0,c,⟨Φ,hy,hk⟩=>by
  refine⟨Φ,hy,pZ l (jh α o.dst Φ) a (λt d=>?_) (λf b=>c f (VB _ b)) hk⟩;rw[kA α o.dst Φ t (λe he heq=>d (by rw[heq];exact c o (VC ..) e he))];exact h0 t d
def Gg(α:Tmp->dX)(w:World)(k:Array Value->Prop):List Tmp->Array Value->Prop
 | [],a=>k a
 |t::D,a=>∀x,α t x w->Gg α w k D (a.setIfInBounds t x)
theorem yA{α:Tmp->dX}{w}{k:Array Value->Prop}(b:Array Value):∀(D:List Tmp) (a:Array Value),a.size=b.size->(∀t,t∉D->b.getD t undef=a.getD t undef)->(∀t,α t (b.getD t undef) w)->
  Gg α w k D a->k b
 | [],a,d,he,_,h=>by
  have:b=a:=by
   apply ZE d.symm;intro i h1 h2;have:=he i (by simp);simpa[h1,h2]using this
  rw[this];exact h
 |t::D,a,d,he,e,h=>by
  refine yA b D (a.setIfInBounds t (b.getD t undef)) (by simpa using d) (λs hs=>?_) e (h _ (e t));by_cases c:s=t
  ·subst c;rcases Ww s b.size with f|f
   ·simp[d,f]
   ·simp[YS f,d]
  ·rw[he s (by simp[c,hs])];simp[VD (Ne.symm c)]
theorem wO{id:Nat}{Q:Exit->Act->World->Prop}{l:List Oper}{c:Array Value}{ds w}(S:World->Prop)(D:List Tmp)(y:∀w w',Ext w w'->S w->S w')(h0:S w)
  (hm:P.follows .mixedOrders=true) (u:Region.lexB .any l.toArray=true) (hn:(l.all λo=>o.dst.all λe=>decide (e<c.size)&&D.contains e)=true)
  (h:tP P l.toArray (λw'=>Ext w w'/\S w') (λα=>∀w',Ext w w'->S w'->Gg α w' (λb=>Q .normal ⟨b,ds⟩ w') D c) l (λt v _=>v=c.getD t undef)):
  (Code.region id l.toArray true).wp P Q ⟨c,ds⟩ w:=by
 simp only[Region.lexB,Vx]at u;have j:∀o∈l,∀e,o.dst=some e->e<c.size/\e∈D:=λo ho e he=>by
  have:=VG.1 hn o ho;rw[he]at this;simpa using this
 have h1:=pZ (D:=D) l _ (λt v _=>v=c.getD t undef) (λ_ _=>rfl) (λo ho e he=>(j o ho e he).2) h;have h2:=qQ (md:=.any) (ops:=l.toArray) l 0 (Array.replicate l.toArray.size false) _ (by simp) (by simpa using u.2) h1;have x:Ext w {w with drawn:=w.drawn+1}:=⟨rfl,rfl,rfl,Vh _,λ_ _=>rfl⟩;refine wp_region_any hm ?_;have B:=nW (P:=P) (ops:=l.toArray) (md:=.any) (n:=c.size) (d:=ds) (Q:=Q) (λz A f g=>⟨f.1.trans g,y _ _ g f.2⟩)
  (λi o ho e he=>(j o (by simpa using Yp ho) e he).1) (λβ a w' r hs s=>?_) l.length _ _ ⟨c,ds⟩ {w with drawn:=w.drawn+1} (λt=>BZ _) ⟨x,y _ _ x h0⟩ ⟨λt=>rfl,rfl,rfl⟩ h2
 ·simpa using B
 ·obtain⟨s,k⟩:=s;obtain⟨m,p,q⟩:=hs;obtain⟨b,dd⟩:=a;simp only at p q;subst p;refine yA b D c q.symm (λt E=>?_) (λt=>by simpa[Act.eval]using m t) (s w' r.1 r.2);have:=m t;rw[k t E]at this;simpa[Act.eval]using this
end
end
end cm
namespace Mem
section
open Go.RowKit
def Row(w:World)(v:Value)(n:Nat)(xs:List Value):Prop:=
 (n=0/\xs=[]/\(v= .slice none 0 0\/∃a c,v= .slice (some a) 0 c/\c<=maxLen))\/
 (0<n/\∃b off c,v= .slice (some ⟨b,off,none⟩) n c/\n<=c/\c<=maxLen/\∀i u,xs[i]? =some u->w.cell? ⟨b,off+i,none⟩=some u)
theorem Row.nil(w:World):Row w (.slice none 0 0) 0 []:=.inl ⟨rfl,rfl,.inl rfl⟩
theorem Row.owns{w:World}{base:Nat}{e}{size:Nat}{v}{n:Nat}{xs}(h:w.ownsRow base e size v n xs):Row w v n xs:=by
 have hc:=λg hg=>h.cells (g:=g) hg;obtain⟨hl,h⟩:=h;rcases h with⟨rfl,rfl⟩|⟨g,cap,cur,rfl,h1,h2,b,a,c,d⟩
 ·exact .inl ⟨rfl,Vy (by simpa using hl),.inl rfl⟩
 ·by_cases hn:n=0
  ·subst hn;exact .inl ⟨rfl,Vy (by simpa using hl),.inr ⟨_,_,rfl,a⟩⟩
  ·refine .inr ⟨by omega,g,0,cap,rfl,b,a,λi u hu=>?_⟩;have:=hc g rfl i u hu;rw[Addr.add_lit]at this;exact this
def ints(L:List Int):List Value:=L.map (Value.int .i64)
def PM(w:World)(v:Value)(L:List Int):Prop:=Row w v L.length (ints L)
theorem PM.owns{w:World}{base:Nat}{e v}{n:Nat}{L:List Int}(h:w.ownsRow base e 1 v n (ints L))(hn:n=L.length):PM w v L:=by
 subst hn;exact Row.owns h
theorem zj{w w':World}(h:w.grownBy w' none):cm.Ext w w':=⟨h.os,h.tape,h.output,h.size,λk hk=>h.block k hk (by simp)⟩
end
end Mem
namespace PW
section
def GG:List (Nat×List Value):=[(1,[.int .u64 1,.int .u64 10,.int .u64 100,.int .u64 1000,.int .u64 10000,.int .u64 100000,.int .u64 1000000,.int .u64 10000000,.int .u64 100000000,.int .u64 1000000000,.int .u64 10000000000,.int .u64 100000000000,.int .u64 1000000000000,.int .u64 10000000000000,.int .u64 100000000000000,.int .u64 1000000000000000,.int .u64 10000000000000000,.int .u64 100000000000000000,.int .u64 1000000000000000000,.int .u64 10000000000000000000]),(2,[.int .u8 0,.int .u8 1,.int .u8 28,.int .u8 2,.int .u8 29,.int .u8 14,.int .u8 24,.int .u8 3,.int .u8 30,.int .u8 22,.int .u8 20,.int .u8 15,.int .u8 25,.int .u8 17,.int .u8 4,.int .u8 8,.int .u8 31,.int .u8 27,.int .u8 13,.int .u8 23,.int .u8 21,.int .u8 19,.int .u8 16,.int .u8 7,.int .u8 26,.int .u8 12,.int .u8 18,.int .u8 6,.int .u8 11,.int .u8 5,.int .u8 10,.int .u8 9]),(3,[.int .u8 0,.int .u8 1,.int .u8 56,.int .u8 2,.int .u8 57,.int .u8 49,.int .u8 28,.int .u8 3,.int .u8 61,.int .u8 58,.int .u8 42,.int .u8 50,.int .u8 38,.int .u8 29,.int .u8 17,.int .u8 4,.int .u8 62,.int .u8 47,.int .u8 59,.int .u8 36,.int .u8 45,.int .u8 43,.int .u8 51,.int .u8 22,.int .u8 53,.int .u8 39,.int .u8 33,.int .u8 30,.int .u8 24,.int .u8 18,.int .u8 12,.int .u8 5,.int .u8 63,.int .u8 55,.int .u8 48,.int .u8 27,.int .u8 60,.int .u8 41,.int .u8 37,.int .u8 16,.int .u8 46,.int .u8 35,.int .u8 44,.int .u8 21,.int .u8 52,.int .u8 32,.int .u8 23,.int .u8 11,.int .u8 54,.int .u8 26,.int .u8 40,.int .u8 15,.int .u8 34,.int .u8 20,.int .u8 31,.int .u8 10,.int .u8 25,.int .u8 14,.int .u8 19,.int .u8 9,.int .u8 13,.int .u8 8,.int .u8 7,.int .u8 6])]
open Go.RowKit cm Mem
inductive PV where
 |any
 |raw (v:Value)
 |slice (n:Nat) (xs:List PV)
 |cH (xs:List PV) (off:Nat)
 |agg (xs:List PV)
 |tuple (xs:List PV)
 |func (f:FuncId) (cap:List PV)
 |ptr (i off:Nat)
 |own (i:Nat)
 |bound (f:FuncId) (xs:List PV)
structure Env where
 L:Nat
 at_:Nat->Value
 M:Nat->Prop
def bg:Value->Option Nat
 | .slice (some a) _ _=>some a.block
 | .pointer (some a)=>some a.block
 | .map (some r)=>some r
 |_=>none
inductive dj (E:Env) (w:World):Value->PV->Prop
 |any (v:Value):dj E w v .any
 |raw (v:Value):dj E w v (.raw v)
 |cg:dj E w (.slice none 0 0) (.slice 0 [])
 |empty (a:Addr) (c:Nat) (h:c<=maxLen):dj E w (.slice (some a) 0 c) (.slice 0 [])
 |slice (b off n c:Nat) (cs:List Value) (xs:List PV) (h0:0<n) (h1:n<=c) (h2:c<=maxLen) (hb:b<w.heap.size) (hM:¬E.M b)
   (hc:∀(i:Nat) x,cs[i]? =some x->w.cell? ⟨b,off+i,none⟩=some x) (hl:cs.length=xs.length) (hr:∀(i:Nat) x u,cs[i]? =some x->xs[i]? =some u->dj E w x u):dj E w (.slice (some ⟨b,off,none⟩) n c) (.slice n xs)
 |cH (b o off:Nat) (cs:List Value) (xs:List PV) (hb:b<w.heap.size) (hM:¬E.M b)
   (hc:∀(i:Nat) x,cs[i]? =some x->w.cell? ⟨b,o+i,none⟩=some x) (hl:cs.length=xs.length) (hr:∀(i:Nat) x u,cs[i]? =some x->xs[i]? =some u->dj E w x u):dj E w (.pointer (some ⟨b,o+off,none⟩)) (.cH xs off)
 |agg (cs:Array Value) (xs:List PV) (hl:cs.size=xs.length) (hr:∀(i:Nat) x u,cs[i]? =some x->xs[i]? =some u->dj E w x u):dj E w (.agg cs) (.agg xs)
 |tuple (cs:Array Value) (xs:List PV) (hl:cs.size=xs.length) (hr:∀(i:Nat) x u,cs[i]? =some x->xs[i]? =some u->dj E w x u):dj E w (.tuple cs) (.tuple xs)
 |func (f:FuncId) (cs:Array Value) (xs:List PV) (hl:cs.size=xs.length) (hr:∀(i:Nat) x u,cs[i]? =some x->xs[i]? =some u->dj E w x u):dj E w (.func (.func f) #[] cs) (.func f xs)
 |ptr (i off b:Nat) (hi:i<E.L) (h:E.at_ i= .pointer (some ⟨b,0,none⟩)\/∃n c,E.at_ i= .slice (some ⟨b,0,none⟩) n c):dj E w (.pointer (some ⟨b,off,none⟩)) (.ptr i off)
 |own (i:Nat) (hi:i<E.L) (v:Value) (h:E.at_ i=v) (hs:v.oneCell'=true):dj E w v (.own i)
 |bound (f:FuncId) (cs:Array Value) (xs:List PV) (hl:cs.size=xs.length) (hr:∀(i:Nat) x u,cs[i]? =some x->xs[i]? =some u->dj E w x u):dj E w (.func (.func f) cs #[]) (.bound f xs)
structure c8 (E:Env) (w:World) (E':Env) (w':World):Prop where
 L:E.L<=E'.L
 at_:∀i,i<E.L->E'.at_ i=E.at_ i
 M:∀b,b<w.heap.size->¬E.M b->¬E'.M b
 size:w.heap.size<=w'.heap.size
 heap:∀b,b<w.heap.size->¬E.M b->w'.heap[b]? =w.heap[b]?
theorem c8.refl(E:Env)(w:World):c8 E w E w:=⟨Vh _,λ_ _=>rfl,λ_ _ h=>h,Vh _,λ_ _ _=>rfl⟩
abbrev YN:=@c8.refl
theorem c8.trans{E E' a w w' c}(h:c8 E w E' w')(k:c8 E' w' a c):c8 E w a c:=
 ⟨VL h.L k.L,λi hi=>(k.at_ i (VS hi h.L)).trans (h.at_ i hi),λb hb hM=>k.M b (VS hb h.size) (h.M b hb hM),VL h.size k.size,λb hb hM=>(k.heap b (VS hb h.size) (h.M b hb hM)).trans (h.heap b hb hM)⟩
theorem c8.ext{E w w'}(h:Ext w w'):c8 E w E w':=⟨Vh _,λ_ _=>rfl,λ_ _ h=>h,h.size,λb hb _=>h.block b hb⟩
theorem mq{w w':World}{a:Addr}(h:w'.heap[a.block]? =w.heap[a.block]?):w'.cell? a=w.cell? a:=World.cell?_of_block h
theorem dj.goes{E E' w w'}(g:c8 E w E' w'){v p}(h:dj E w v p):dj E' w' v p:=by
 induction h with
 |any v=>exact .any v
 |raw v=>exact .raw v
 |cg=>exact .cg
 |empty a c h=>exact .empty a c h
 |slice b off n c cs xs h0 h1 h2 hb hM hc hl _ ih=>
  exact .slice b off n c cs xs h0 h1 h2 (VS hb g.size) (g.M b hb hM) (λi x hx=>by rw[mq (g.heap b hb hM)];exact hc i x hx) hl ih
 |cH b o off cs xs hb hM hc hl _ ih=>
  exact .cH b o off cs xs (VS hb g.size) (g.M b hb hM) (λi x hx=>by rw[mq (g.heap b hb hM)];exact hc i x hx) hl ih
 |agg cs xs hl _ ih=>exact .agg cs xs hl ih
 |tuple cs xs hl _ ih=>exact .tuple cs xs hl ih
 |func f cs xs hl _ ih=>exact .func f cs xs hl ih
 |ptr i off b hi h=>exact .ptr i off b (VS hi g.L) (by rw[g.at_ i hi];exact h)
 |own i hi v h hs=>exact .own i (VS hi g.L) v (by rw[g.at_ i hi];exact h) hs
 |bound f cs xs hl _ ih=>exact .bound f cs xs hl ih
theorem dj.ext{E w w'}(g:Ext w w'){v p}(h:dj E w v p):dj E w' v p:=h.goes (.ext g)
def bn(E:Env)(w:World)(cs:List Value)(xs:List PV):Prop:=cs.length=xs.length/\∀(i:Nat) x u,cs[i]? =some x->xs[i]? =some u->dj E w x u
theorem bn.goes{E E' w w'}(g:c8 E w E' w'){cs xs}(h:bn E w cs xs):bn E' w' cs xs:=⟨h.1,λi x u h1 h2=>(h.2 i x u h1 h2).goes g⟩
theorem bn.nil(E:Env)(w:World):bn E w [] []:=⟨rfl,λi x u h=>by simp at h⟩
abbrev Yn:=@bn.nil
theorem bn.cons{E w c x cs xs}(h:dj E w c x)(hs:bn E w cs xs):bn E w (c::cs) (x::xs):=by
 refine⟨by simp[hs.1],λi a u h1 h2=>?_⟩;cases i with
 |zero=>simp at h1 h2;subst h1;subst h2;exact h
 |succ i=>exact hs.2 i a u (by simpa using h1) (by simpa using h2)
abbrev XP:=@bn.cons
theorem bn.Mn{E w c x cs xs}(h:bn E w (c::cs) (x::xs)):dj E w c x/\bn E w cs xs:=
 ⟨h.2 0 c x rfl rfl,by simpa using h.1,λi a u h1 h2=>h.2 (i+1) a u (by simpa using h1) (by simpa using h2)⟩
theorem bn.append{E w cs ds xs ys}(h:bn E w cs xs)(k:bn E w ds ys):bn E w (cs++ds) (xs++ys):=by
 refine⟨by simp[h.1,k.1],λi a u h1 h2=>?_⟩;by_cases hi:i<cs.length
 ·rw[Vl hi]at h1;rw[Vl (by rw[<-h.1];exact hi)]at h2;exact h.2 i a u h1 h2
 ·rw[Vq (by omega)]at h1;rw[Vq (by rw[<-h.1];omega),<-h.1]at h2;exact k.2 _ a u h1 h2
theorem bn.set{E w}{cs:List Value}{xs:List PV}(h:bn E w cs xs)(j:Nat){c x}(hx:dj E w c x):bn E w (cs.set j c) (xs.set j x):=by
 refine⟨by simp[h.1],λi a u h1 h2=>?_⟩;rw[VV]at h1 h2;by_cases hj:j=i
 ·rw[Vn hj]at h1 h2;split at h1
  ·split at h2
   ·cases h1;cases h2;exact hx
   ·cases h2
  ·cases h1
 ·rw[Vk hj]at h1 h2;exact h.2 i a u h1 h2
theorem bn.take{E w}{cs:List Value}{xs:List PV}(h:bn E w cs xs)(n:Nat):bn E w (cs.take n) (xs.take n):=by
 refine⟨by simp[h.1],λi a u h1 h2=>?_⟩;rw[Wn]at h1 h2;split at h1
 ·rename_i hi;rw[Vn hi]at h2;exact h.2 i a u h1 h2
 ·cases h1
theorem bn.drop{E w}{cs:List Value}{xs:List PV}(h:bn E w cs xs)(n:Nat):bn E w (cs.drop n) (xs.drop n):=by
 refine⟨by simp[h.1],λi a u h1 h2=>?_⟩;rw[WV]at h1 h2;exact h.2 _ a u h1 h2
theorem bn.get{E w cs xs}(h:bn E w cs xs){i:Nat}{u}(hu:xs[i]? =some u):∃c,cs[i]? =some c/\dj E w c u:=by
 have hi:i<cs.length:=by
  have:=(Vf.1 hu).1;rw[h.1];exact this
 exact⟨cs[i],by simp[hi],h.2 i _ u (by simp[hi]) hu⟩
inductive cj where
 |cells (t:TypeId) (xs:List PV)
 |row (e:TypeId) (size n:Nat) (xs:List PV)
 |mp (kv:List (Value×PV))
 |win (e:TypeId) (size n:Nat) (xs:List PV)
 |mK (kv:List (Value×PV)) (bs:List Nat) (clock:Nat)
 |oB (m since:Nat) (seen:Array Nat) (c:Nat)
def QL(w:World)(base:Nat)(e:TypeId)(size:Nat)(v:Value)(n:Nat)(xs:List Value):Prop:=
  xs.length=n*size/\
  ((v = .slice none 0 0 /\ n = 0) \/
   ∃g off cap cur,v= .slice (some ⟨g,off,none⟩) n cap/\base<=g/\w.heap[g]? =some (.cells cur e (0,0))/\n<=cap/\cap<=maxLen/\off+cap*size<=cur.size/\(cur.toList.drop off).take (n*size)=xs)
def TF(a:Array MapEntry)(clock:Nat)(kv:List (Value×PV)):Prop:=a.toList.map (·.key)=kv.map (·.1)/\MapKept.Stamped a clock
def fV(base:Nat)(E:Env)(w:World)(v:Value):cj->Prop
 | .cells t xs=>∃b cs,v= .pointer (some ⟨b,0,none⟩)/\base<=b/\w.heap[b]? =some (.cells cs t (0,0))/\bn E w cs.toList xs
 | .row e size n xs=>∃cs,w.ownsRow base e size v n cs/\bn E w cs xs
 | .mp kv=>∃r a clock,v= .map (some r)/\base<=r/\w.heap[r]? =some (.map a clock)/\TF a clock kv/\bn E w (a.toList.map (·.val)) (kv.map (·.2))
 | .win e size n xs=>∃cs,QL w base e size v n cs/\bn E w cs xs
 | .mK kv bs clock=>∃r a,v= .map (some r)/\base<=r/\w.heap[r]? =some (.map a clock)/\TF a clock kv/\a.toList.map (·.born)=bs/\bn E w (a.toList.map (·.val)) (kv.map (·.2))
 | .oB m since seen c=>∃r b,v= .pointer (some ⟨r,0,none⟩)/\base<=r/\w.heap[r]? =some (.mapIter (some b) since seen c)/\m<E.L/\E.at_ m= .map (some b)
abbrev bH:=List (Option cj)
def ou(M:Nat->Prop)(w:World):Prop:=∀g cs,(g,cs)∈GG->¬M g/\∃t fz,w.heap[g]? =some (.cells cs.toArray t fz)
theorem ou.goes{E E':Env}{w w'}(h:ou E.M w)(g:c8 E w E' w'):ou E'.M w':=λk cs hk=>by
 obtain⟨h2,t,fz,a⟩:=h k cs hk;have h1:=(Vs.1 a).1;exact⟨g.M k h1 h2,t,fz,by rw[g.heap k h1 h2];exact a⟩
theorem ou.sub{M M':Nat->Prop}{w}(h:ou M w)(hM:∀b,M' b->M b):ou M' w:=λk cs hk=>⟨λhm=>(h k cs hk).1 (hM k hm),(h k cs hk).2⟩
structure Sat (F:Nat->Prop) (base:Nat) (σ:bH) (E:Env) (w:World):Prop where
 bl:base<=w.heap.size
 fb:∀b,F b->b<w.heap.size/\∀i blk,σ[i]? =some (some blk)->bg (E.at_ i)≠some b
 len:E.L=σ.length
 mm:∀b,E.M b↔F b\/∃i blk,σ[i]? =some (some blk)/\bg (E.at_ i)=some b
 blk:∀i blk,σ[i]? =some (some blk)->fV base E w (E.at_ i) blk
 inj:∀i j bi bj b,σ[i]? =some (some bi)->σ[j]? =some (some bj)->bg (E.at_ i)=some b->bg (E.at_ j)=some b->i=j
 gl:ou E.M w
theorem _root_.Go.World.ownsRow.win{w:World}{base:Nat}{e}{size n:Nat}{v xs}(h:w.ownsRow base e size v n xs):QL w base e size v n xs:=by
 refine⟨h.1,?_⟩;rcases h.2 with h|⟨g,cap,cur,h1,h2,a,b,c,d,f⟩
 ·exact .inl h
 ·exact .inr ⟨g,0,cap,cur,h1,h2,a,b,c,by rw[d,Ws];exact Vh _,by simpa using f⟩
theorem kN{v:Value}{w:World}{base:Nat}{e}{size n:Nat}{xs}(h:w.ownsRow base e size v n xs):bg v=v.ownBlock:=by
 rcases h.2 with⟨rfl,_⟩|⟨g,cap,cur,rfl,_⟩<;>rfl
theorem fV.lt{base:Nat}{E}{w:World}{v blk}(h:fV base E w v blk){b:Nat}(hb:bg v=some b):base<=b/\b<w.heap.size:=by
 cases blk with
 |cells t xs=>
  obtain⟨b',cs,rfl,h1,h2,_⟩:=h;simp[bg]at hb;subst hb;exact⟨h1,(Vs.1 h2).1⟩
 |row e size n xs=>
  obtain⟨cs,h1,_⟩:=h;rw[kN h1]at hb;exact h1.lt b hb
 |mp kv=>
  obtain⟨r,a,ck,rfl,h1,h2,_⟩:=h;simp[bg]at hb;subst hb;exact⟨h1,(Vs.1 h2).1⟩
 |win e size n xs=>
  obtain⟨cs,h1,h2⟩:=h;rcases h1.2 with⟨rfl,_⟩|⟨f,off,cap,cur,rfl,k1,d,_⟩
  ·simp[bg]at hb
  ·simp[bg]at hb;subst hb;exact⟨k1,(Vs.1 d).1⟩
 |mK kv bs ck=>
  obtain⟨r,a,rfl,h1,h2,_⟩:=h;simp[bg]at hb;subst hb;exact⟨h1,(Vs.1 h2).1⟩
 |oB m s seen c=>
  obtain⟨r,b',rfl,h1,h2,_⟩:=h;simp[bg]at hb;subst hb;exact⟨h1,(Vs.1 h2).1⟩
theorem fV.goes{base:Nat}{E E'}{w w':World}(g:c8 E w E' w'){v blk}(h:fV base E w v blk)(hb:∀b,bg v=some b->w'.heap[b]? =w.heap[b]?):fV base E' w' v blk:=by
 cases blk with
 |cells t xs=>
  obtain⟨b',cs,rfl,h1,h2,a⟩:=h;exact⟨b',cs,rfl,h1,by rw[hb b' rfl];exact h2,a.goes g⟩
 |row e size n xs=>
  obtain⟨cs,h1,h2⟩:=h;refine⟨cs,⟨h1.1,?_⟩,h2.goes g⟩;rcases h1.2 with h|⟨d,cap,cur,rfl,k1,j,k⟩
  ·exact .inl h
  ·exact .inr ⟨d,cap,cur,rfl,k1,by rw[hb d rfl];exact j,k⟩
 |mp kv=>
  obtain⟨r,i,ck,rfl,h1,h2,a,f⟩:=h;exact⟨r,i,ck,rfl,h1,by rw[hb r rfl];exact h2,a,f.goes g⟩
 |win e size n xs=>
  obtain⟨cs,h1,h2⟩:=h;refine⟨cs,⟨h1.1,?_⟩,h2.goes g⟩;rcases h1.2 with h|⟨d,off,cap,cur,rfl,k1,j,k⟩
  ·exact .inl h
  ·exact .inr ⟨d,off,cap,cur,rfl,k1,by rw[hb d rfl];exact j,k⟩
 |mK kv bs ck=>
  obtain⟨r,i,rfl,h1,h2,a,f,l⟩:=h;exact⟨r,i,rfl,h1,by rw[hb r rfl];exact h2,a,f,l.goes g⟩
 |oB m s seen c=>
  obtain⟨r,b',rfl,h1,h2,a,f⟩:=h;exact⟨r,b',rfl,h1,by rw[hb r rfl];exact h2,VS a g.L,(g.at_ m a).trans f⟩
theorem Sat.ext{F:Nat->Prop}{base:Nat}{σ E w w'}(h:Sat F base σ E w)(a:Ext w w'):Sat F base σ E w':=
 ⟨VL h.bl a.size,λb hb=>⟨VS (h.fb b hb).1 a.size,(h.fb b hb).2⟩,h.len,h.mm,λi blk hi=>(h.blk i blk hi).goes (.ext a) (λb hb=>a.block b ((h.blk i blk hi).lt hb).2),h.inj,h.gl.goes (.ext a)⟩
theorem Sat.lt{F:Nat->Prop}{base:Nat}{σ}{E:Env}{w:World}(h:Sat F base σ E w){b:Nat}(hb:E.M b):b<w.heap.size:=by
 rcases(h.mm b).1 hb with c|⟨i,blk,hi,a⟩
 ·exact(h.fb b c).1
 ·exact((h.blk i blk hi).lt a).2
def EF(F:Nat->Prop):Env:=⟨0,λ_=>undef,F⟩
theorem Sat.start(F:Nat->Prop)(w:World)(a:∀b,F b->b<w.heap.size)(c:ou F w):Sat F w.heap.size [] (EF F) w:=
 ⟨Vh _,λb hb=>⟨a b hb,λi blk h=>by simp at h⟩,rfl,λb=>by simp[EF],λi blk h=>by simp at h,λi j bi bj b h=>by simp at h,c⟩
abbrev Zl:=@Sat.start
theorem dj.back{E:Env}{w v p}(h:dj (EF E.M) w v p):dj E w v p:=
 h.goes (E:=EF E.M) (E':=E) (w:=w) (w':=w) ⟨We _,λi hi=>absurd hi (WL i),λ_ _ h=>h,Vh _,λ_ _ _=>rfl⟩
abbrev cd:=List (Nat×PV)
def look(k:Nat):cd->Option PV
 | []=>none
 |(j,p)::t=>bif Nat.beq k j then some p else look k t
def eF(E:Env)(w:World)(ρ:Operand->Value)(t:cd):Prop:=∀k p,look k t=some p->dj E w (ρ (.tmp k)) p
theorem eF.goes{E E' w w'}(g:c8 E w E' w'){ρ:Operand->Value}{t}(h:eF E w ρ t):eF E' w' ρ t:=λk p hk=>(h k p hk).goes g
def aI(t:cd):Operand->Option PV
 | .tmp k=>look k t
 | .const v=>some (.raw v)
 | .global g=>some (.raw (.pointer (some ⟨g,0,none⟩)))
 | .func f=>some (.func f [])
theorem aB{E w}{ρ:Operand->Value}{t}(a:nj ρ)(h:eF E w ρ t){x p}(hx:aI t x=some p):dj E w (ρ x) p:=by
 match x,hx with
 | .tmp k,hx=>exact h k p hx
 | .const v,hx=>simp[aI]at hx;subst hx;rw[a.const];exact .raw v
 | .global g,hx=>simp[aI]at hx;subst hx;rw[a.Tq];exact .raw _
 | .func f,hx=>simp[aI]at hx;subst hx;rw[a.func];exact .func f #[] [] I (λi x u h=>by simp at h)
def fv(p q:PV):Prop:=∀E w v,dj E w v p->dj E w v q
theorem fv.refl(p:PV):fv p p:=λ_ _ _ h=>h
abbrev WK:=@fv.refl
theorem fv.any(p:PV):fv p .any:=λ_ _ v _=>.any v
theorem fv.cg:fv (.raw (.slice none 0 0)) (.slice 0 []):=λ_ _ _ h=>by cases h;exact .cg
abbrev Zw:=@fv.cg
class IsPure (p:PV):Prop where
 out:∀(E:Env) (F:Nat->Prop) (w:World) (v:Value),(∀b,F b->E.M b)->dj E w v p->dj (EF F) w v p
class aM (xs:List PV):Prop where
 out:∀(i:Nat) u,xs[i]? =some u->IsPure u
instance:IsPure .any:=⟨λ_ _ _ v _ _=>.any v⟩
instance (v:Value):IsPure (.raw v):=⟨λ_ _ _ _ _ h=>by cases h;exact .raw v⟩
instance:aM []:=⟨λi u h=>by simp at h⟩
instance (x:PV) (xs:List PV) [h:IsPure x] [hs:aM xs]:aM (x::xs):=⟨λi u hu=>by
 cases i with
 |zero=>simp at hu;subst hu;exact h
 |succ i=>exact hs.out i u (by simpa using hu)⟩
instance (xs ys:List PV) [h:aM xs] [hs:aM ys]:aM (xs++ys):=⟨λi u hu=>by
 by_cases hi:i<xs.length
 ·rw[Vl hi]at hu;exact h.out i u hu
 ·rw[Vq (by omega)]at hu;exact hs.out _ u hu⟩
theorem aM.map{α:Type}(f:α->PV)(l:List α)(h:∀a,IsPure (f a)):aM (l.map f):=⟨λi u hu=>by
 simp only[Vt,Vr]at hu;obtain⟨a,_,rfl⟩:=hu;exact h a⟩
theorem aM.flatMap{α:Type}(f:α->List PV)(l:List α)(h:∀a,aM (f a)):aM (l.flatMap f):=⟨λi u hu=>by
 have hm:u∈l.flatMap f:=VE hu;obtain⟨a,_,ha⟩:=Y2.1 hm;obtain⟨j,hj⟩:=W8 ha;exact(h a).out j u hj⟩
abbrev Ym:=@aM.flatMap
instance (n:Nat) (xs:List PV) [h:aM xs]:IsPure (.slice n xs):=⟨λE F w v hF hv=>by
 cases hv with
 |cg=>exact .cg
 |empty a c hc=>exact .empty a c hc
 |slice b off _ c cs _ h0 h1 h2 hb hM hc hl hr=>exact .slice b off n c cs xs h0 h1 h2 hb (λhf=>hM (hF b hf)) hc hl (λi x u k1 k2=>(h.out i u k2).out E F w x hF (hr i x u k1 k2))⟩
instance (xs:List PV) (k:Nat) [h:aM xs]:IsPure (.cH xs k):=⟨λE F w v hF hv=>by
 cases hv with
 |cH b o' _ cs _ hb hM hc hl hr=>exact .cH b o' k cs xs hb (λhf=>hM (hF b hf)) hc hl (λi x u k1 k2=>(h.out i u k2).out E F w x hF (hr i x u k1 k2))⟩
instance (xs:List PV) [h:aM xs]:IsPure (.agg xs):=⟨λE F w v hF hv=>by
 cases hv with
 |agg cs _ hl hr=>exact .agg cs xs hl (λi x u k1 k2=>(h.out i u k2).out E F w x hF (hr i x u k1 k2))⟩
instance (xs:List PV) [h:aM xs]:IsPure (.tuple xs):=⟨λE F w v hF hv=>by
 cases hv with
 |tuple cs _ hl hr=>exact .tuple cs xs hl (λi x u k1 k2=>(h.out i u k2).out E F w x hF (hr i x u k1 k2))⟩
instance (f:FuncId) (xs:List PV) [h:aM xs]:IsPure (.func f xs):=⟨λE F w v hF hv=>by
 cases hv with
 |func _ cs _ hl hr=>exact .func f cs xs hl (λi x u k1 k2=>(h.out i u k2).out E F w x hF (hr i x u k1 k2))⟩
theorem bn.pure{E:Env}{F:Nat->Prop}{w cs xs}[h:aM xs](c:∀b,F b->E.M b)(hs:bn E w cs xs):bn (EF F) w cs xs:=
 ⟨hs.1,λi x u k1 a=>(h.out i u a).out E F w x c (hs.2 i x u k1 a)⟩
class nm (p:PV):Prop where
 out:∀(E E':Env) (w w':World) (v:Value),dj E w v p->dj E' w' v p
class pz (xs:List PV):Prop where
 out:∀(i:Nat) u,xs[i]? =some u->nm u
instance (v:Value):nm (.raw v):=⟨λ_ _ _ _ _ h=>by cases h;exact .raw v⟩
instance:pz []:=⟨λi u h=>by simp at h⟩
instance (x:PV) (xs:List PV) [h:nm x] [hs:pz xs]:pz (x::xs):=⟨λi u hu=>by
 cases i with
 |zero=>simp at hu;subst hu;exact h
 |succ i=>exact hs.out i u (by simpa using hu)⟩
instance (xs:List PV) [h:pz xs]:nm (.tuple xs):=⟨λE E' w w' v hv=>by
 cases hv with
 |tuple cs _ hl hr=>exact .tuple cs xs hl (λi x u k1 k2=>(h.out i u k2).out E E' w w' x (hr i x u k1 k2))⟩
class gN (p:PV):Prop where
 out:∀(E:Env) (w:World) (v:Value),dj E w v p->v.oneCell'=true
class di (xs:List PV):Prop where
 out:∀(i:Nat) u,xs[i]? =some u->gN u
instance (k:IntKind) (n:Int):gN (.raw (.int k n)):=⟨λ_ _ _ h=>by cases h;rfl⟩
instance (b:Bool):gN (.raw (.bool b)):=⟨λ_ _ _ h=>by cases h;rfl⟩
instance (b:ByteArray):gN (.raw (.string b)):=⟨λ_ _ _ h=>by cases h;rfl⟩
instance (a:Option Addr) (n c:Nat):gN (.raw (.slice a n c)):=⟨λ_ _ _ h=>by cases h;rfl⟩
instance (a:Option Addr):gN (.raw (.pointer a)):=⟨λ_ _ _ h=>by cases h;rfl⟩
instance (n:Nat) (xs:List PV):gN (.slice n xs):=⟨λ_ _ _ h=>by cases h<;>rfl⟩
instance (xs:List PV) (k:Nat):gN (.cH xs k):=⟨λ_ _ _ h=>by cases h;rfl⟩
instance (f:FuncId) (xs:List PV):gN (.func f xs):=⟨λ_ _ _ h=>by cases h;rfl⟩
instance (i k:Nat):gN (.ptr i k):=⟨λ_ _ _ h=>by cases h;rfl⟩
instance (i:Nat):gN (.own i):=⟨λ_ _ _ h=>by cases h with|own _ _ _ _ hs=>exact hs⟩
instance:di []:=⟨λi u h=>by simp at h⟩
instance (x:PV) (xs:List PV) [h:gN x] [hs:di xs]:di (x::xs):=⟨λi u hu=>by
 cases i with
 |zero=>simp at hu;subst hu;exact h
 |succ i=>exact hs.out i u (by simpa using hu)⟩
theorem di.map{α:Type}(f:α->PV)(l:List α)(h:∀a,gN (f a)):di (l.map f):=⟨λi u hu=>by
 simp only[Vt,Vr]at hu;obtain⟨a,_,rfl⟩:=hu;exact h a⟩
theorem di.flatMap{α:Type}(f:α->List PV)(l:List α)(h:∀a,di (f a)):di (l.flatMap f):=⟨λi u hu=>by
 have hm:u∈l.flatMap f:=VE hu;obtain⟨a,_,ha⟩:=Y2.1 hm;obtain⟨j,hj⟩:=W8 ha;exact(h a).out j u hj⟩
theorem bn.rN{E w cs xs}[h:di xs](hs:bn E w cs xs):∀c∈cs,c.oneCell'=true:=by
 intro c hc;obtain⟨i,hi⟩:=W8 hc;have hlt:=(Vf.1 hi).1;rw[hs.1]at hlt;exact(h.out i xs[i] (by simp[hlt])).out E w c (hs.2 i c _ hi (by simp[hlt]))
def j6(t:cd):List Operand->Option (List PV)
 | []=>some []
 |x::l=>match aI t x,j6 t l with
  |some p,some q=>some (p::q)
  |_,_=>none
theorem jO{E w}{ρ:Operand->Value}{t}(a:nj ρ)(h:eF E w ρ t):∀ {l:List Operand} {ps},j6 t l=some ps->bn E w (l.map ρ) ps
 | [],ps,hx=>by simp[j6]at hx;subst hx;exact Yn E w
 |x::l,ps,hx=>by
  simp only[j6]at hx;split at hx
  ·rename_i p q hp b;cases hx;exact XP (aB a h hp) (jO a h b)
  ·cases hx
def bE(P:Program)(σ:bH)(t:cd)(o:Oper)(p:PV):Prop:=
 ∀F base E ρ w,nj ρ->Sat F base σ E w->eF E w ρ t->iL P w (λv w'=>dj E w' v p) ((execOp ρ o).run P w)
section
variable {P:Program} {σ:bH} {t:cd} {o:Oper}
theorem bA{w Φ v}(h:Φ v w):iL P w Φ (.ok (.value v) w):=⟨XH _,h⟩
theorem qS{x p}(ho:o.op= .move x)(hx:aI t x=some p):bE P σ t o p:=by
 intro F base E ρ w a _ hT;have h:=aB a hT hx;simp only[execOp,ho,Sem.run_pure];exact bA h
theorem fM{x p}(ho:o.op= .assign x)(hx:aI t x=some p):bE P σ t o p:=by
 intro F base E ρ w a _ hT;have h:=aB a hT hx;simp only[execOp,ho,Sem.run_pure];exact bA h
theorem PG{c a b p}(ho:o.op= .pick c a b)(hc:aI t c=some (.raw (.bool true)))(hx:aI t a=some p):bE P σ t o p:=by
 intro F base E ρ w d _ hT;have h:=aB d hT hx;have h1:=aB d hT hc;generalize e:ρ c=z at h1;cases h1;simp only[execOp,ho,e,asBool,Sem.run_bind,Sem.run_pure,Result.andThen_ok,Xr];exact bA h
theorem PF{c a b p}(ho:o.op= .pick c a b)(hc:aI t c=some (.raw (.bool false)))(hx:aI t b=some p):bE P σ t o p:=by
 intro F base E ρ w d _ hT;have h:=aB d hT hx;have h1:=aB d hT hc;generalize e:ρ c=z at h1;cases h1;simp only[execOp,ho,e,asBool,Sem.run_bind,Sem.run_pure,Result.andThen_ok];exact bA h
theorem SW{x ty q}(ho:o.op= .unOp .not ty x)(hx:aI t x=some (.raw (.bool q))):bE P σ t o (.raw (.bool (!q))):=by
 intro F base E ρ w a _ hT;have h1:=aB a hT hx;generalize b:ρ x=z at h1;cases h1;simp only[execOp,ho,b,Op.unary,Sem.run_bind,Sem.run_pure,Result.andThen_ok];exact bA (.raw _)
theorem jJ{op x y ty f k}{a b:Int}{v}(ho:o.op= .binOp op ty x y f)(hx:aI t x=some (.raw (.int k a)))(hy:aI t y=some (.raw (.int k b)))
  (hv:∀w,(binOp op ty (.int k a) (.int k b)).run P w= .ok v w):bE P σ t o (.raw v):=by
 intro F base E ρ w c _ hT;have h1:=aB c hT hx;have h2:=aB c hT hy;generalize e:ρ x=z at h1;generalize d:ρ y=g at h2;cases h1;cases h2;have hg:∀w,(eqGuard op ty x y (.int k a) (.int k b)).run P w= .ok () w:=by
  intro w;unfold eqGuard;split<;>rfl
 simp only[execOp,ho,e,d,Sem.run_bind,Sem.run_pure,Result.andThen_ok,hg,hv];exact bA (.raw _)
theorem MD{x y ty d k}{a b:Int}{q}(ho:o.op= .binOp .lss ty x y d)(hx:aI t x=some (.raw (.int k a)))(hy:aI t y=some (.raw (.int k b)))(c:decide (a<b)=q):bE P σ t o (.raw (.bool q)):=
 jJ ho hx hy λw=>by simp[binOp,Op.intCmp,c]
theorem SS{x y ty d k}{a b:Int}{q}(ho:o.op= .binOp .leq ty x y d)(hx:aI t x=some (.raw (.int k a)))(hy:aI t y=some (.raw (.int k b)))(c:decide (a<=b)=q):bE P σ t o (.raw (.bool q)):=
 jJ ho hx hy λw=>by simp[binOp,Op.intCmp,c]
theorem Qu{x y ty d k}{a b:Int}{q}(ho:o.op= .binOp .gtr ty x y d)(hx:aI t x=some (.raw (.int k a)))(hy:aI t y=some (.raw (.int k b)))(c:decide (b<a)=q):bE P σ t o (.raw (.bool q)):=
 jJ ho hx hy λw=>by simp[binOp,Op.intCmp,c]
theorem Gh{x y ty d k}{a b:Int}{q}(ho:o.op= .binOp .geq ty x y d)(hx:aI t x=some (.raw (.int k a)))(hy:aI t y=some (.raw (.int k b)))(c:decide (b<=a)=q):bE P σ t o (.raw (.bool q)):=
 jJ ho hx hy λw=>by simp[binOp,Op.intCmp,c]
theorem yD{x y ty d k}{a b:Int}{q}(ho:o.op= .binOp .eql ty x y d)(hx:aI t x=some (.raw (.int k a)))(hy:aI t y=some (.raw (.int k b)))(c:decide (a=b)=q):bE P σ t o (.raw (.bool q)):=
 jJ ho hx hy λw=>by subst c;simp[binOp,Op.intCmp];exact XV.2 (by simp)
theorem Qv{x y ty d k}{a b:Int}{q}(ho:o.op= .binOp .neq ty x y d)(hx:aI t x=some (.raw (.int k a)))(hy:aI t y=some (.raw (.int k b)))(c:decide (a≠b)=q):bE P σ t o (.raw (.bool q)):=
 jJ ho hx hy λw=>by subst c;simp[binOp,Op.intCmp];exact XV.2 (by simp)
def In64(n:Int):Prop:= -9223372036854775808<=n/\n<=9223372036854775807
theorem l3{n:Int}(h:In64 n):IntKind.i64.wrap n=n:=IntWalk.i64_in n (by unfold In64 at h;omega)
theorem SO{x y ty d}{a b c:Int}(ho:o.op= .binOp .add ty x y d)(hx:aI t x=some (.raw (.int .i64 a)))(hy:aI t y=some (.raw (.int .i64 b)))(hc:a+b=c)(hn:In64 c):bE P σ t o (.raw (.int .i64 c)):=
 jJ ho hx hy λw=>by simp[binOp,Op.intArith,hc,l3 hn]
theorem SY{x y ty d}{a b c:Int}(ho:o.op= .binOp .sub ty x y d)(hx:aI t x=some (.raw (.int .i64 a)))(hy:aI t y=some (.raw (.int .i64 b)))(hc:a - b=c)(hn:In64 c):bE P σ t o (.raw (.int .i64 c)):=
 jJ ho hx hy λw=>by simp[binOp,Op.intArith,hc,l3 hn]
theorem SU{x y ty d}{a b c:Int}(ho:o.op= .binOp .mul ty x y d)(hx:aI t x=some (.raw (.int .i64 a)))(hy:aI t y=some (.raw (.int .i64 b)))(hc:a*b=c)(hn:In64 c):bE P σ t o (.raw (.int .i64 c)):=
 jJ ho hx hy λw=>by simp[binOp,Op.intArith,hc,l3 hn]
theorem lI{x y ty d}{a b c:Int}(ho:o.op= .binOp .quo ty x y d)(hx:aI t x=some (.raw (.int .i64 a)))(hy:aI t y=some (.raw (.int .i64 b)))(hb:b≠0)(hc:a.tdiv b=c)(hn:In64 c):bE P σ t o (.raw (.int .i64 c)):=
 jJ ho hx hy λw=>by simp[binOp,Op.intDiv,hb,hc,l3 hn]
theorem l4{x y ty d}{a b c:Int}(ho:o.op= .binOp .rem ty x y d)(hx:aI t x=some (.raw (.int .i64 a)))(hy:aI t y=some (.raw (.int .i64 b)))(hb:b≠0)(hc:a.tmod b=c):bE P σ t o (.raw (.int .i64 c)):=
 jJ ho hx hy λw=>by simp[binOp,Op.intDiv,hb,hc]
theorem yB{op x y ty g a b v}(ho:o.op= .binOp op ty x y g)(hx:aI t x=some (.raw a))(hy:aI t y=some (.raw b))
  (hv:∀w,(do eqGuard op ty x y a b;binOp op ty a b:Sem Value).run P w= .ok v w):bE P σ t o (.raw v):=by
 intro F base E ρ w d _ hT;have h1:=aB d hT hx;have h2:=aB d hT hy;generalize f:ρ x=z at h1;generalize e:ρ y=h at h2;cases h1;cases h2;have c:=hv w;simp only[execOp,ho,f,e,Sem.run_bind]at c ⊢;rw[c];exact bA (.raw _)
theorem MF{x xs}{off:Nat}(ho:o.op= .nilCheck x)(hx:aI t x=some (.cH xs off)):bE P σ t o (.cH xs off):=by
 intro F base E ρ w a _ hT;have h1:=aB a hT hx;have h2:=h1;generalize b:ρ x=z at h1 h2;cases h1;simp only[execOp,ho,b,Sem.run_pure];exact bA h2
theorem MG{x}{i off:Nat}(ho:o.op= .nilCheck x)(hx:aI t x=some (.ptr i off)):bE P σ t o (.ptr i off):=by
 intro F base E ρ w a _ hT;have h1:=aB a hT hx;have h2:=h1;generalize b:ρ x=z at h1 h2;cases h1;simp only[execOp,ho,b,Sem.run_pure];exact bA h2
theorem IW{x f cap}(ho:o.op= .nilCheck x)(hx:aI t x=some (.func f cap)):bE P σ t o (.func f cap):=by
 intro F base E ρ w a _ hT;have h1:=aB a hT hx;have h2:=h1;generalize b:ρ x=z at h1 h2;cases h1;simp only[execOp,ho,b,Sem.run_pure];exact bA h2
def mB(P:Program)(s f:Nat):Option Nat:=
 match P.underlying s with
 |some (.struct fs)=>match(fs[f]? :Option Field)with
  |some fl=>match P.info? fl.type with
   |some i=>if i.size=0 then none else some fl.offset
   |none=>none
  |none=>none
 |_=>none
theorem tF{s f off:Nat}(h:mB P s f=some off)(b o:Nat)(w:World):(Instr.fieldAt s (.pointer (some ⟨b,o,none⟩)) f).run P w= .ok (.pointer (some ⟨b,o+off,none⟩)) w:=by
 unfold mB at h;split at h
 ·rename_i fs hu;split at h
  ·rename_i fl a;split at h
   ·rename_i i hi;split at h
    ·cases h
    ·rename_i hs;cases h;simp[Instr.fieldAt,run_underlying hu,a,Instr.sureAddr,fieldPlace,sizeOf,typeInfo,hi,hs,Addr.add_lit,program,Sem.run]
   ·cases h
  ·cases h
 ·cases h
theorem EY{s f off:Nat}{x xs}{k:Nat}(ho:o.op= .fieldAddr s x f)(c:mB P s f=some off)(hx:aI t x=some (.cH xs k)):bE P σ t o (.cH xs (k+off)):=by
 intro F base E ρ w a _ hT;have h1:=aB a hT hx;generalize d:ρ x=z at h1;cases h1 with
 |cH b e _ cs _ hb hM hc hl hr=>
  simp only[execOp,ho,d,Sem.run_bind,tF c,Result.andThen_ok,Sem.run_pure];refine bA ?_;rw[Xk];exact .cH b e _ cs xs hb hM hc hl hr
theorem EZ{s f off:Nat}{x}{i k:Nat}(ho:o.op= .fieldAddr s x f)(c:mB P s f=some off)(hx:aI t x=some (.ptr i k)):bE P σ t o (.ptr i (k+off)):=by
 intro F base E ρ w a _ hT;have h1:=aB a hT hx;generalize d:ρ x=z at h1;cases h1 with
 |ptr _ _ b hi h=>
  simp only[execOp,ho,d,Sem.run_bind,tF c,Result.andThen_ok,Sem.run_pure];exact bA (.ptr i _ b hi h)
def qU(P:Program)(ty:TypeId):Option (Option Nat):=
 match P.underlying ty,P.info? ty with
 |some d,some i=>match d with
  | .struct _| .array _ _=>some (some i.size)
  |_=>if i.size=1 then some none else none
 |_,_=>none
theorem run_loadCellsFrom(a:Addr)(ha:a.spot=none):∀(cs:List Value) (i:Nat) (acc:Array Value) (w:World),(∀j x,cs[j]? =some x->w.cell? ⟨a.block,a.off+(i+j),none⟩=some x)->
  (loadCellsFrom a i cs.length acc).run P w= .ok (acc++cs.toArray) w
 | [],i,acc,w,_=>by simp[loadCellsFrom]
 |c::cs,i,acc,w,h=>by
  have h0:=h 0 c rfl;have ea:a.add i=⟨a.block,a.off+i,none⟩:=by
   unfold Addr.add;split
   ·rename_i hi;subst hi;cases a;simp at ha;subst ha;rfl
   ·rfl
  have ih:=run_loadCellsFrom a ha cs (i+1) (acc.push c) w (λj x hx=>by
   have:=h (j+1) x (by simpa using hx);rw[show i+1+j=i+(j+1) by omega];exact this)
  simp only[VI,loadCellsFrom,Sem.run_bind,load,Sem.run,ea];rw[show a.off+(i+0)=a.off+i by omega]at h0;rw[h0];simp only[Result.andThen_ok,ih];simp
theorem lV{ty n b off:Nat}{cs:List Value}{w:World}(hk:qU P ty=some (some n))(hl:cs.length=n)(hc:∀(j:Nat) x,cs[j]? =some x->w.cell? ⟨b,off+j,none⟩=some x):
  (Instr.loadAt ty (.pointer (some ⟨b,off,none⟩))).run P w= .ok (.agg cs.toArray) w:=by
 have a:=run_loadCellsFrom (P:=P) ⟨b,off,none⟩ rfl cs 0 #[] w (λj x hx=>by rw[Ws];exact hc j x hx);rw[hl]at a;unfold qU at hk;split at hk
 ·rename_i d i hu hi;split at hk
  ·cases hk;simp[Instr.loadAt,Instr.sureAddr,loadVar,isAgg,run_underlying hu,sizeOf,typeInfo,hi,program,Sem.run,loadCells,a]
  ·cases hk;simp[Instr.loadAt,Instr.sureAddr,loadVar,isAgg,run_underlying hu,sizeOf,typeInfo,hi,program,Sem.run,loadCells,a]
  ·split at hk<;>cases hk
 ·cases hk
theorem lW{ty b off:Nat}{c}{w:World}(hk:qU P ty=some none)(hc:w.cell? ⟨b,off,none⟩=some c):
  (Instr.loadAt ty (.pointer (some ⟨b,off,none⟩))).run P w= .ok c w:=by
 unfold qU at hk;split at hk
 ·rename_i d i hu hi;split at hk
  ·cases hk
  ·cases hk
  ·rename_i h1 h2;have ha:∀w,(isAgg ty).run P w= .ok false w:=by
    intro w;unfold isAgg;simp only[Sem.run_bind,run_underlying hu,Result.andThen_ok]
    rfl
   simp only[Instr.loadAt,Instr.sureAddr,loadVar,Sem.run_bind,Sem.run_pure,Result.andThen_ok,ha];simp[load,Sem.run,hc]
 ·cases hk
theorem yF{ty x xs}{k:Nat}{p}(ho:o.op= .load ty x)(hk:qU P ty=some none)(hx:aI t x=some (.cH xs k))(hp:xs[k]? =some p):bE P σ t o p:=by
 intro F base E ρ w e _ hT;have h1:=aB e hT hx;generalize f:ρ x=z at h1;cases h1 with
 |cH b g _ cs _ hb hM hc hl hr=>
  obtain⟨c,a,d⟩:=bn.get (E:=E) (w:=w) ⟨hl,hr⟩ hp;simp only[execOp,ho,f,Sem.run_bind,lW hk (hc k c a),Result.andThen_ok,Sem.run_pure];exact bA d
theorem iA{ty n:Nat}{x}{xs ys:List PV}{k:Nat}(ho:o.op= .load ty x)(hk:qU P ty=some (some n))(hx:aI t x=some (.cH xs k))(hp:(xs.drop k).take n=ys)(hn:ys.length=n):bE P σ t o (.agg ys):=by
 intro F base E ρ w c _ hT;have h1:=aB c hT hx;generalize d:ρ x=z at h1;cases h1 with
 |cH b e _ cs _ hb hM hc hl hr=>
  have a:bn E w ((cs.drop k).take n) ys:=by rw[<-hp];exact(bn.drop (E:=E) (w:=w) ⟨hl,hr⟩ k).take n
  have:=lV (P:=P) (w:=w) (b:=b) (off:=e+k) (cs:=(cs.drop k).take n) hk (by rw[a.1,hn]) (λj x hx=>by
   rw[Wn]at hx;split at hx
   ·rw[WV]at hx;rw[Xk];exact hc _ x hx
   ·cases hx)
  simp only[execOp,ho,d,Sem.run_bind,this,Result.andThen_ok,Sem.run_pure];exact bA (.agg _ ys (by simpa using a.1) (λi x u h1 h2=>a.2 i x u (by simpa using h1) h2))
def cj.xs:cj->List PV
 | .cells _ xs=>xs
 | .row _ _ _ xs=>xs
 | .mp _=>[]
 | .win _ _ _ _=>[]
 | .mK _ _ _=>[]
 | .oB _ _ _ _=>[]
theorem Sat.cells{F:Nat->Prop}{base:Nat}{E:Env}{w:World}(h:Sat F base σ E w){i b:Nat}{blk:cj}(hi:σ[i]? =some (some blk))(hb:E.at_ i= .pointer (some ⟨b,0,none⟩)\/∃n c,E.at_ i= .slice (some ⟨b,0,none⟩) n c):
  ∃cs,bn E w cs blk.xs/\∀(j:Nat) x,cs[j]? =some x->w.cell? ⟨b,j,none⟩=some x:=by
 have a:=h.blk i blk hi;cases blk with
 |cells ty xs=>
  obtain⟨b',cs,he,h1,h2,d⟩:=a;have:b=b':=by
   rcases hb with hb|⟨n,c,hb⟩
   ·rw[hb]at he;simpa using he
   ·rw[hb]at he;cases he
  subst this;exact⟨cs.toList,d,λj x hx=>by simp only[World.cell?,h2];simpa using hx⟩
 |row e size n xs=>
  obtain⟨cs,h1,h2⟩:=a;refine⟨cs,h2,λj x hx=>?_⟩;have:=h1.cells (g:=b) (by
   rcases hb with hb|⟨n,c,hb⟩
   ·have:=kN h1;rw[hb]at this ⊢;simp[bg]at this;rw[<-this]
   ·rw[hb];rfl) j x hx
  rw[Addr.add_lit]at this;simpa using this
 |mp kv=>exact⟨[],Yn _ _,λj x hx=>by simp at hx⟩
 |win e size n xs=>exact⟨[],Yn _ _,λj x hx=>by simp at hx⟩
 |mK kv bs ck=>exact⟨[],Yn _ _,λj x hx=>by simp at hx⟩
 |oB m s seen c=>exact⟨[],Yn _ _,λj x hx=>by simp at hx⟩
theorem aq{ty x}{i k:Nat}{blk:cj}{p}(ho:o.op= .load ty x)(hk:qU P ty=some none)(hx:aI t x=some (.ptr i k))(hi:σ[i]? =some (some blk))(hp:blk.xs[k]? =some p):bE P σ t o p:=by
 intro F base E ρ w e g hT;have h1:=aB e hT hx;generalize l:ρ x=z at h1;cases h1 with
 |ptr _ _ b j h=>
  obtain⟨cs,f,hc⟩:=g.cells hi h;obtain⟨c,a,d⟩:=f.get hp;simp only[execOp,ho,l,Sem.run_bind,lW hk (hc k c a),Result.andThen_ok,Sem.run_pure];exact bA d
theorem jD{ty n:Nat}{x}{i k:Nat}{blk:cj}{ys:List PV}(ho:o.op= .load ty x)(hk:qU P ty=some (some n))(hx:aI t x=some (.ptr i k))(hi:σ[i]? =some (some blk))(hp:(blk.xs.drop k).take n=ys)(hn:ys.length=n):bE P σ t o (.agg ys):=by
 intro F base E ρ w d e hT;have h1:=aB d hT hx;generalize g:ρ x=z at h1;cases h1 with
 |ptr _ _ b f h=>
  obtain⟨cs,c,hc⟩:=e.cells hi h;have a:bn E w ((cs.drop k).take n) ys:=by rw[<-hp];exact(c.drop k).take n
  have:=lV (P:=P) (w:=w) (b:=b) (off:=k) (cs:=(cs.drop k).take n) hk (by rw[a.1,hn]) (λj x hx=>by
   rw[Wn]at hx;split at hx
   ·rw[WV]at hx;exact hc _ x hx
   ·cases hx)
  simp only[execOp,ho,g,Sem.run_bind,this,Result.andThen_ok,Sem.run_pure];exact bA (.agg _ ys (by simpa using a.1) (λi x u h1 h2=>a.2 i x u (by simpa using h1) h2))
def uX(P:Program)(ty:TypeId):Option (TypeId×Nat):=
 match P.underlying ty with
 |some (.slice e)=>match P.info? e with
  |some i=>some (e,i.size)
  |none=>none
 |_=>none
theorem gj{ty e s:Nat}(h:uX P ty=some (e,s)):P.underlying ty=some (.slice e)/\∃i,P.info? e=some i/\i.size=s:=by
 unfold uX at h;split at h
 ·rename_i a hu;split at h
  ·rename_i i hi;cases h;exact⟨hu,i,hi,rfl⟩
  ·cases h
 ·cases h
theorem pg{ty e s b off n c:Nat}{k}{i:Int}{w}(h:uX P ty=some (e,s))(hi:0<=i)(hn:i<n):
  (Instr.indexAt ty (.slice (some ⟨b,off,none⟩) n c) (.int k i)).run P w= .ok (.pointer (some ⟨b,off+i.toNat*s,none⟩)) w:=by
 obtain⟨hu,inf,a,hs⟩:=gj h;simp[Instr.indexAt,asIntOf,run_underlying hu,hi,hn,sizeOf,typeInfo,a,hs,Addr.add_lit,program,Sem.run]
theorem Ax{ty e s n:Nat}{x l xs k}{i:Int}{j:Nat}(ho:o.op= .indexAddr ty x l)(he:uX P ty=some (e,s))(hx:aI t x=some (.slice n xs))(f:aI t l=some (.raw (.int k i)))(hi:0<=i)(hn:i<n)(hj:i.toNat*s=j):bE P σ t o (.cH xs j):=by
 intro F base E ρ w d _ hT;have h1:=aB d hT hx;have h2:=aB d hT f;generalize m:ρ x=z at h1;generalize g:ρ l=p at h2;cases h2;cases h1 with
 |cg=>omega
 |empty a c h=>omega
 |slice b off _ c cs _ h0 h1 h2 hb hM hc hl hr=>
  simp only[execOp,ho,m,g,Sem.run_bind,pg he hi hn,Result.andThen_ok,Sem.run_pure,hj];exact bA (.cH b off j cs xs hb hM hc hl hr)
theorem dc{ty e s n l s':Nat}{x f xs k}{i:Int}{m j:Nat}(ho:o.op= .indexAddr ty x f)(he:uX P ty=some (e,s))(hx:aI t x=some (.own m))(hm:σ[m]? =some (some (.row l s' n xs)))(b:aI t f=some (.raw (.int k i)))(hi:0<=i)(hn:i<n)(hj:i.toNat*s=j):bE P σ t o (.ptr m j):=by
 intro F base E ρ w a p hT;have h1:=aB a hT hx;have h2:=aB a hT b;generalize q:ρ x=z at h1;generalize d:ρ f=u at h2;cases h2;cases h1 with
 |own _ c _ h _=>
  obtain⟨cs,k1,r⟩:=p.blk m _ hm;rcases k1.2 with⟨_,h0⟩|⟨g,cap,cur,hv,_⟩
  ·omega
  ·rw[hv]at h;subst h;simp only[execOp,ho,q,d,Sem.run_bind,pg he hi hn,Result.andThen_ok,Sem.run_pure,hj,Ws];exact bA (.ptr m j g c (.inr ⟨_,_,hv⟩))
def RL(P:Program)(ty:TypeId):Option (Nat×Nat):=
 match P.underlying ty with
 |some (.array n e)=>match P.info? e with
  |some i=>some (n,i.size)
  |none=>none
 |_=>none
theorem r4{ty n s b off:Nat}{k}{i:Int}{w}(h:RL P ty=some (n,s))(hi:0<=i)(hn:i<n):
  (Instr.indexAt ty (.pointer (some ⟨b,off,none⟩)) (.int k i)).run P w= .ok (.pointer (some ⟨b,off+i.toNat*s,none⟩)) w:=by
 unfold RL at h;split at h
 ·rename_i n' e hu;split at h
  ·rename_i inf a;cases h;simp[Instr.indexAt,asIntOf,run_underlying hu,hi,hn,sizeOf,typeInfo,a,Addr.add_lit,program,Sem.run,Instr.sureAddr]
  ·cases h
 ·cases h
theorem wP{ty s n:Nat}{x e xs k}{i:Int}{off j:Nat}(ho:o.op= .indexAddr ty x e)(he:RL P ty=some (n,s))(hx:aI t x=some (.cH xs off))(c:aI t e=some (.raw (.int k i)))(hi:0<=i)(hn:i<n)(hj:i.toNat*s=j):bE P σ t o (.cH xs (off+j)):=by
 intro F base E ρ w a _ hT;have h1:=aB a hT hx;have h2:=aB a hT c;generalize f:ρ x=z at h1;generalize d:ρ e=h at h2;cases h2;cases h1 with
 |cH b g _ cs _ hb hM hc hl hr=>
  simp only[execOp,ho,f,d,Sem.run_bind,r4 he hi hn,Result.andThen_ok,Sem.run_pure,hj];refine bA ?_;rw[Xk];exact .cH b g _ cs xs hb hM hc hl hr
theorem PB{s f off:Nat}{x xs p}(ho:o.op= .field s x f)(m:∃fs fl,P.underlying s=some (.struct fs)/\fs[f]? =some fl/\fl.offset=off/\qU P fl.type=some none)(hx:aI t x=some (.agg xs))(hp:xs[off]? =some p):bE P σ t o p:=by
 intro F base E ρ w l _ hT;have h1:=aB l hT hx;generalize q:ρ x=z at h1;cases h1 with
 |agg cs _ hl hr=>
  obtain⟨fs,fl,hu,j,b,hk⟩:=m;obtain⟨c,g,h⟩:=bn.get (E:=E) (w:=w) (cs:=cs.toList) ⟨by simpa using hl,λi x u h1 h2=>hr i x u (by simpa using h1) h2⟩ hp;have e:∀w,(isAgg fl.type).run P w= .ok false w:=by
   intro w;unfold qU at hk;split at hk
   ·rename_i d i k n;split at hk
    ·cases hk
    ·cases hk
    ·rename_i h1 h2;unfold isAgg;simp only[Sem.run_bind,run_underlying k,Result.andThen_ok]
     rfl
   ·cases hk
  have a:cs[fl.offset]? =some c:=by rw[b];simpa using g
  simp only[execOp,ho,q,Instr.field,Sem.run_bind,run_underlying hu,Result.andThen_ok,j,asAgg,Sem.run_pure,part,e,a];simp only[Xb,Yo,Sem.run_pure];exact bA h
theorem yE{x}{k:Nat}{xs p}(ho:o.op= .extract x k)(hx:aI t x=some (.tuple xs))(hp:xs[k]? =some p):bE P σ t o p:=by
 intro F base E ρ w e _ hT;have h1:=aB e hT hx;generalize f:ρ x=z at h1;cases h1 with
 |tuple cs _ hl hr=>
  obtain⟨c,b,d⟩:=bn.get (E:=E) (w:=w) (cs:=cs.toList) ⟨by simpa using hl,λi x u h1 h2=>hr i x u (by simpa using h1) h2⟩ hp;have a:cs[k]? =some c:=by simpa using b
  simp only[execOp,ho,f,Instr.extract,a,Sem.run_bind,Sem.run_pure,Result.andThen_ok];exact bA d
theorem ia{f}{cs:Array Operand}{xs}(ho:o.op= .makeFunc (.func f) #[] cs)(hx:j6 t cs.toList=some xs):bE P σ t o (.func f xs):=by
 intro F base E ρ w a _ hT;simp only[execOp,ho,Instr.makeFunc,Sem.run_bind,Sem.run_pure,Result.andThen_ok];refine bA ?_;have:(Array.map ρ #[]:Array Value)= #[]:=by simp
 rw[this];have h:=jO a hT hx;exact .func f _ xs (by simpa using h.1) (λi x u h1 h2=>h.2 i x u (by simpa using h1) h2)
def Can(P:Program)(f:FuncId)(ps:List PV)(R:PV->Prop):Prop:=
 ∀F w (vs:Array Value),(∀b,F b->b<w.heap.size)->ou F w->bn (EF F) w vs.toList ps->Calls P f vs w (Te (λv w'=>∃r,R r/\dj (EF F) w' v r) w)
def enters(P:Program)(f:FuncId):Bool:=
 match P.funcs[f]? with
 |some fn=>fn.name != "runtime.NumGoroutine" &&fn.body.isSome
 |none=>false
theorem rY{f}(h:enters P f=true)(args:Array Value)(w:World):(callFunc f args).run P w= .ok (.enter f args) w:=by
 unfold enters at h;split at h
 ·rename_i fn b;simp only[Vx,bne_iff_ne,ne_eq]at h;obtain⟨h1,h2⟩:=h;have a:¬fn.body=none:=by intro hb;rw[hb]at h2;cases h2
  simp[callFunc,program,Sem.run,b,h1,a]
 ·cases h
theorem iS{f:FuncId}{x:Operand}{args:Array Operand}{a:Array TypeId}{ρ:Operand->Value}{cap:Array Value}(h:enters P f=true)(ho:o.op= .call {callee:=.value x,args,argTypes:=a})(hx:ρ x= .func (.func f) #[] cap)(w:World):
  (execOp ρ o).run P w= .ok (.enter f (args.map ρ++cap)) w:=by
 have:=rY h (args.map ρ++cap) w;simp[execOp,ho,resolve,hx,Deferred.ofValue,invoke,this]
theorem Av{f:FuncId}{x:Operand}{args:Array Operand}{c:Array TypeId}{cap ps:List PV}{r:PV}(ho:o.op= .call {callee:=.value x,args,argTypes:=c})(k:enters P f=true)(hx:aI t x=some (.func f cap))(ha:j6 t args.toList=some ps)
  (hc:Can P f (ps++cap) (· =r)) [aM (ps++cap)]:bE P σ t o r:=by
 intro F base E ρ w a d hT;have h1:=aB a hT hx;have h2:=jO a hT ha;generalize l:ρ x=z at h1;cases h1 with
 |func _ cs _ hl hr=>
  rw[iS k ho l w];refine⟨XH _,?_⟩;have g:bn E w (args.map ρ++cs).toList (ps++cap):=by
   rw[XW,XE];exact h2.append ⟨by simpa using hl,λi x u k1 m=>hr i x u (by simpa using k1) m⟩
  refine(hc E.M w _ (λb hb=>d.lt hb) d.gl (g.pure (λ_ h=>h))).mono ?_;rintro e w' ⟨v,rfl,j,n,rfl,hv⟩;exact⟨v,rfl,j,hv.back⟩
theorem bn.le{E w cs}{xs ys:List PV}(h:bn E w cs xs)(hl:xs.length=ys.length)(hle:∀(i:Nat) x y,xs[i]? =some x->ys[i]? =some y->fv x y):bn E w cs ys:=by
 refine⟨h.1.trans hl,λi c u h1 h2=>?_⟩;have hi:i<xs.length:=by rw[hl];exact(Vf.1 h2).1
 exact hle i xs[i] u (by simp[hi]) h2 E w c (h.2 i c _ h1 (by simp[hi]))
inductive aQ (σ:bH):PV->PV->Prop
 |pure {p:PV} [IsPure p]:aQ σ p p
 |cg:aQ σ (.raw (.slice none 0 0)) (.slice 0 [])
 |own {i e s n:Nat} {xs ys:List PV} (h:σ[i]? =some (some (.row e s n xs))) (hl:xs.length=ys.length) (hs:∀(j:Nat) x y,xs[j]? =some x->ys[j]? =some y->aQ σ x y):aQ σ (.own i) (.slice n ys)
 |ptr {i k:Nat} {blk:cj} {ys:List PV} (h:σ[i]? =some (some blk)) (hl:blk.xs.length=ys.length) (hs:∀(j:Nat) x y,blk.xs[j]? =some x->ys[j]? =some y->aQ σ x y):aQ σ (.ptr i k) (.cH ys k)
 |agg {xs ys:List PV} (hl:xs.length=ys.length) (hs:∀(j:Nat) x y,xs[j]? =some x->ys[j]? =some y->aQ σ x y):aQ σ (.agg xs) (.agg ys)
 |tuple {xs ys:List PV} (hl:xs.length=ys.length) (hs:∀(j:Nat) x y,xs[j]? =some x->ys[j]? =some y->aQ σ x y):aQ σ (.tuple xs) (.tuple ys)
 |func {f:FuncId} {xs ys:List PV} (hl:xs.length=ys.length) (hs:∀(j:Nat) x y,xs[j]? =some x->ys[j]? =some y->aQ σ x y):aQ σ (.func f xs) (.func f ys)
def aE(σ:bH)(xs ys:List PV):Prop:=xs.length=ys.length/\∀(j:Nat) x y,xs[j]? =some x->ys[j]? =some y->aQ σ x y
theorem aE.nil:aE σ [] []:=⟨rfl,λj x y h=>by simp at h⟩
abbrev Wg:=@aE.nil
theorem aE.cons{x y xs ys}(h:aQ σ x y)(hs:aE σ xs ys):aE σ (x::xs) (y::ys):=⟨by simp[hs.1],λj a b h1 h2=>by
 cases j with
 |zero=>simp at h1 h2;subst h1;subst h2;exact h
 |succ j=>exact hs.2 j a b (by simpa using h1) (by simpa using h2)⟩
abbrev Vp:=@aE.cons
theorem aE.pure{xs}[h:aM xs]:aE σ xs xs:=⟨rfl,λj x y h1 h2=>by
 rw[h1]at h2;cases h2;haveI:=h.out j x h1;exact aQ.pure⟩
abbrev W9:=@aE.pure
theorem aE.append{xs ys c us}(h:aE σ xs ys)(k:aE σ c us):aE σ (xs++c) (ys++us):=⟨by simp[h.1,k.1],λj a b h1 h2=>by
 by_cases hj:j<xs.length
 ·rw[Vl hj]at h1;rw[Vl (by rw[<-h.1];exact hj)]at h2;exact h.2 j a b h1 h2
 ·rw[Vq (by omega)]at h1;rw[Vq (by rw[<-h.1];omega),<-h.1]at h2;exact k.2 _ a b h1 h2⟩
theorem aQ.iV{xs ys}(h:aE σ xs ys):aQ σ (.agg xs) (.agg ys):=.agg h.1 h.2
abbrev Zr:=@aQ.iV
theorem aQ.cM{xs ys}(h:aE σ xs ys):aQ σ (.tuple xs) (.tuple ys):=.tuple h.1 h.2
abbrev Yi:=@aQ.cM
theorem aQ.mD{f xs ys}(h:aE σ xs ys):aQ σ (.func f xs) (.func f ys):=.func h.1 h.2
theorem aQ.gX{i e s n:Nat}{xs ys}(h:σ[i]? =some (some (.row e s n xs)))(hs:aE σ xs ys):aQ σ (.own i) (.slice n ys):=.own h hs.1 hs.2
abbrev Yw:=@aQ.gX
theorem aQ.qe{i k:Nat}{blk:cj}{ys}(h:σ[i]? =some (some blk))(hs:aE σ blk.xs ys):aQ σ (.ptr i k) (.cH ys k):=.ptr h hs.1 hs.2
abbrev ZA:=@aQ.qe
theorem aQ.rep{F:Nat->Prop}{base:Nat}{E:Env}{w}(B:Sat F base σ E w){G:Nat->Prop}(C:∀b,G b->E.M b)(y:∀b,G b->∀i blk,σ[i]? =some (some blk)->bg (E.at_ i)≠some b){p q}(hp:aQ σ p q):∀v,dj E w v p->dj (EF G) w v q:=by
 induction hp with
 |pure=>intro v h;exact IsPure.out E G w v C h
 |cg=>intro v h;cases h;exact .cg
 | @own i e s n xs ys hs hl _ ih=>
  intro v h;cases h with
  |own _ hi _ h _=>
   obtain⟨cs,k1,A⟩:=B.blk i _ hs;have m:bn (EF G) w cs ys:=⟨A.1.trans hl,λj c u h1 h2=>by
    have hj:j<xs.length:=by rw[hl];exact(Vf.1 h2).1
    exact ih j xs[j] u (by simp[hj]) h2 c (A.2 j c _ h1 (by simp[hj]))⟩
   have r:=k1;rcases k1.2 with⟨d,h0⟩|⟨g,cap,cur,d,hb,hg,hn,hc,D,H⟩
   ·rw[d]at h;subst h;subst h0;have:ys=[]:=by
     have:=r.1;simp at this;subst this;exact Vy m.1.symm
    subst this;exact .cg
   ·rw[d]at h;subst h;by_cases h0:n=0
    ·subst h0;have:ys=[]:=by
      have:=r.1;simp at this;subst this;exact Vy m.1.symm
     subst this;exact .empty _ _ hc
    ·refine .slice g 0 n cap cs ys (by omega) hn hc (Vs.1 hg).1 (λl=>y g l i _ hs (by rw[d];rfl)) (λj x hx=>?_) m.1 m.2;have:=r.cells (g:=g) (by rw[d];rfl) j x hx;rw[Addr.add_lit]at this;exact this
 | @ptr i k blk ys hs hl _ ih=>
  intro v h;cases h with
  |ptr _ _ b hi h=>
   obtain⟨cs,A,m⟩:=B.cells hs h;have r:bn (EF G) w cs ys:=⟨A.1.trans hl,λj c u h1 h2=>by
    have hj:j<blk.xs.length:=by rw[hl];exact(Vf.1 h2).1
    exact ih j blk.xs[j] u (by simp[hj]) h2 c (A.2 j c _ h1 (by simp[hj]))⟩
   have z:bg (E.at_ i)=some b:=by
    rcases h with h|⟨n,c,h⟩<;>rw[h]<;>rfl
   have:=dj.cH (E:=EF G) (w:=w) b 0 k cs ys ((B.blk i blk hs).lt z).2 (λl=>y b l i _ hs z) (λj x hx=>by rw[Ws];exact m j x hx) r.1 r.2;rw[Ws]at this;exact this
 | @agg xs ys hl _ ih=>
  intro v h;cases h with
  |agg cs _ a hr=>exact .agg cs ys (a.trans hl) (λj c u h1 h2=>by
    have hj:j<xs.length:=by rw[hl];exact(Vf.1 h2).1
    exact ih j xs[j] u (by simp[hj]) h2 c (hr j c _ h1 (by simp[hj])))
 | @tuple xs ys hl _ ih=>
  intro v h;cases h with
  |tuple cs _ a hr=>exact .tuple cs ys (a.trans hl) (λj c u h1 h2=>by
    have hj:j<xs.length:=by rw[hl];exact(Vf.1 h2).1
    exact ih j xs[j] u (by simp[hj]) h2 c (hr j c _ h1 (by simp[hj])))
 | @func f xs ys hl _ ih=>
  intro v h;cases h with
  |func _ cs _ a hr=>exact .func f cs ys (a.trans hl) (λj c u h1 h2=>by
    have hj:j<xs.length:=by rw[hl];exact(Vf.1 h2).1
    exact ih j xs[j] u (by simp[hj]) h2 c (hr j c _ h1 (by simp[hj])))
theorem aE.rep{F:Nat->Prop}{base:Nat}{E:Env}{w}(f:Sat F base σ E w){G:Nat->Prop}(e:∀b,G b->E.M b)(a:∀b,G b->∀i blk,σ[i]? =some (some blk)->bg (E.at_ i)≠some b){cs ps d}(hp:aE σ ps d)(h:bn E w cs ps):bn (EF G) w cs d:=
 ⟨h.1.trans hp.1,λj c u h1 h2=>by
  have hj:j<ps.length:=by rw[hp.1];exact(Vf.1 h2).1
  exact(hp.2 j ps[j] u (by simp[hj]) h2).rep f e a c (h.2 j c _ h1 (by simp[hj]))⟩
theorem aQ.plain{E:Env}{w p q}(hp:aQ [] p q):∀v,dj E w v p->dj (EF E.M) w v q:=by
 induction hp with
 |pure=>intro v h;exact IsPure.out E E.M w v (λ_ h=>h) h
 |cg=>intro v h;cases h;exact .cg
 |own h=>simp at h
 |ptr h=>simp at h
 | @agg xs ys hl _ ih=>
  intro v h;cases h with
  |agg cs _ a hr=>exact .agg cs ys (a.trans hl) (λj c u h1 h2=>by
    have hj:j<xs.length:=by rw[hl];exact(Vf.1 h2).1
    exact ih j xs[j] u (by simp[hj]) h2 c (hr j c _ h1 (by simp[hj])))
 | @tuple xs ys hl _ ih=>
  intro v h;cases h with
  |tuple cs _ a hr=>exact .tuple cs ys (a.trans hl) (λj c u h1 h2=>by
    have hj:j<xs.length:=by rw[hl];exact(Vf.1 h2).1
    exact ih j xs[j] u (by simp[hj]) h2 c (hr j c _ h1 (by simp[hj])))
 | @func f xs ys hl _ ih=>
  intro v h;cases h with
  |func _ cs _ a hr=>exact .func f cs ys (a.trans hl) (λj c u h1 h2=>by
    have hj:j<xs.length:=by rw[hl];exact(Vf.1 h2).1
    exact ih j xs[j] u (by simp[hj]) h2 c (hr j c _ h1 (by simp[hj])))
theorem Pz{f:FuncId}{x:Operand}{args:Array Operand}{c:Array TypeId}{cap ps j:List PV}{r:PV}(ho:o.op= .call {callee:=.value x,args,argTypes:=c})(m:enters P f=true)(hx:aI t x=some (.func f cap))(ha:j6 t args.toList=some ps)
  (n:aE σ (ps++cap) j) (hc:Can P f j (· =r)) [d:nm r]:bE P σ t o r:=by
 intro F base E ρ w a g hT;have h1:=aB a hT hx;have h2:=jO a hT ha;generalize p:ρ x=z at h1;cases h1 with
 |func _ cs _ hl hr=>
  rw[iS m ho p w];refine⟨XH _,?_⟩;have k:bn E w (args.map ρ++cs).toList (ps++cap):=by
   rw[XW,XE];exact h2.append ⟨by simpa using hl,λi x u k1 q=>hr i x u (by simpa using k1) q⟩
  refine(hc (λ_=>False) w _ (λb hb=>hb.elim) (g.gl.sub λ_ h=>h.elim) (n.rep g (λ_ h=>h.elim) (λ_ h=>h.elim) k)).mono ?_;rintro e w' ⟨v',rfl,l,s,rfl,hv⟩;exact⟨_,rfl,l,d.out _ _ _ _ _ hv⟩
theorem Py{f:FuncId}{x:Operand}{args:Array Operand}{g:Array TypeId}{cap ps k:List PV}{r:PV}(ho:o.op= .call {callee:=.value x,args,argTypes:=g})(q:enters P f=true)(hx:aI t x=some (.func f cap))(ha:j6 t args.toList=some ps)
  (h:aE [] (ps++cap) k) (hc:Can P f k (· =r)):bE P σ t o r:=by
 intro F base E ρ w a m hT;have h1:=aB a hT hx;have h2:=jO a hT ha;generalize s:ρ x=z at h1;cases h1 with
 |func _ cs _ hl hr=>
  rw[iS q ho s w];refine⟨XH _,?_⟩;have l:bn E w (args.map ρ++cs).toList (ps++cap):=by
   rw[XW,XE];exact h2.append ⟨by simpa using hl,λi x u k1 d=>hr i x u (by simpa using k1) d⟩
  have n:bn (EF E.M) w (args.map ρ++cs).toList k:=⟨l.1.trans h.1,λj c u k1 d=>by
   have hj:j<(ps++cap).length:=by rw[h.1];exact(Vf.1 d).1
   exact(h.2 j (ps++cap)[j] u (by simp) d).plain c (l.2 j c _ k1 (by simp))⟩
  refine(hc E.M w _ (λb hb=>m.lt hb) m.gl n).mono ?_;rintro e w' ⟨v,rfl,p,y,rfl,hv⟩;exact⟨v,rfl,p,hv.back⟩
theorem E0{ty e s n:Nat}{x:Operand}{xs:List PV}(ho:o.op= .call {callee:=.builtin .len,args:= #[x],argTypes:= #[ty]})(he:uX P ty=some (e,s))(hx:aI t x=some (.slice n xs)):bE P σ t o (.raw (.int .i64 n)):=by
 intro F base E ρ w b _ hT;have h1:=aB b hT hx;obtain⟨hu,_⟩:=gj he;generalize d:ρ x=z at h1;have:∃a c,z= .slice a n c:=by
  cases h1
  ·exact⟨_,_,rfl⟩
  ·exact⟨_,_,rfl⟩
  ·exact⟨_,_,rfl⟩
 obtain⟨a,c,rfl⟩:=this;simp[execOp,ho,resolve,invoke,builtin,Builtin.len_,d,run_underlying hu,goInt];exact bA (.raw _)
theorem MB{ty e s:Nat}{x:Operand}(ho:o.op= .call {callee:=.builtin .len,args:= #[x],argTypes:= #[ty]})(he:uX P ty=some (e,s))(hx:aI t x=some (.raw (.slice none 0 0))):bE P σ t o (.raw (.int .i64 0)):=by
 intro F base E ρ w a _ hT;have h1:=aB a hT hx;obtain⟨hu,_⟩:=gj he;generalize b:ρ x=z at h1;cases h1;simp[execOp,ho,resolve,invoke,builtin,Builtin.len_,b,run_underlying hu,goInt];exact bA (.raw _)
theorem we{ty e s n d s':Nat}{x:Operand}{m:Nat}{xs:List PV}(ho:o.op= .call {callee:=.builtin .len,args:= #[x],argTypes:= #[ty]})(he:uX P ty=some (e,s))(hx:aI t x=some (.own m))(hm:σ[m]? =some (some (.row d s' n xs))):bE P σ t o (.raw (.int .i64 n)):=by
 intro F base E ρ w b f hT;have h1:=aB b hT hx;obtain⟨hu,_⟩:=gj he;generalize j:ρ x=z at h1;have:∃a c,z= .slice a n c:=by
  cases h1 with
  |own _ i _ h _=>
   obtain⟨cs,k1,k⟩:=f.blk m _ hm;rcases k1.2 with⟨hv,h0⟩|⟨g,cap,cur,hv,_⟩
   ·rw[hv]at h;subst h;subst h0;exact⟨_,_,rfl⟩
   ·rw[hv]at h;subst h;exact⟨_,_,rfl⟩
 obtain⟨a,c,rfl⟩:=this;simp[execOp,ho,resolve,invoke,builtin,Builtin.len_,j,run_underlying hu,goInt];exact bA (.raw _)
end
section
variable {P:Program} {σ:bH} {t:cd} {o:Oper}
def nx:PV->Option (List PV)
 | .agg xs=>some xs
 | .raw v=>some (v.cells.toList.map .raw)
 | .any=>none
 | .tuple _=>none
 |p=>some [p]
theorem bn.one{E w v p}(h:dj E w v p):bn E w [v] [p]:=XP h (Yn E w)
abbrev ZF:=@bn.one
theorem ny{E w}{v:Value}{p xs}(h:dj E w v p)(hx:nx p=some xs):bn E w v.cells.toList xs:=by
 cases h with
 |any=>cases hx
 |raw=>
  simp only[nx,WE]at hx;subst hx;refine⟨by simp,λi x u h1 h2=>?_⟩;rw[Vt,h1]at h2;cases h2;exact .raw x
 |cg=>cases hx;exact ZF .cg
 |empty a c h=>cases hx;exact ZF (.empty a c h)
 |slice b off n c cs xs h0 h1 h2 hb hM hc hl hr=>cases hx;exact ZF (.slice b off n c cs _ h0 h1 h2 hb hM hc hl hr)
 |cH b d off cs xs hb hM hc hl hr=>cases hx;exact ZF (.cH b d off cs _ hb hM hc hl hr)
 |agg cs xs hl hr=>cases hx;exact⟨by simpa[Value.cells]using hl,λi x u h1 h2=>hr i x u (by simpa[Value.cells]using h1) h2⟩
 |tuple cs xs hl hr=>cases hx
 |func f cs xs hl hr=>cases hx;exact ZF (.func f cs _ hl hr)
 |bound f cs xs hl hr=>cases hx;exact ZF (.bound f cs _ hl hr)
 |ptr i off b hi h=>cases hx;exact ZF (.ptr i off b hi h)
 |own i hi v h hs=>
  cases hx;have:v.cells= #[v]:=by cases v<;>first|rfl|cases hs
  rw[this];exact ZF (.own i hi v h hs)
def over(cells:List PV)(off:Nat)(ys:List PV):List PV:=cells.take off++(ys++cells.drop (off+ys.length))
def mC(place:Nat->Option (Nat×Nat))(cells:List PV):List (Nat×List PV)->Option (List PV)
 | []=>some cells
 |(i,ys)::rest=>match place i with
  |none=>none
  |some (off,size)=>bif Nat.beq ys.length size&&Nat.ble (off+size) cells.length then mC place (over cells off ys) rest else none
theorem vd:∀(l:List Value) (j off:Nat) (cs:Array Value),off+j+l.length<=cs.size->
  (((l.zipIdx j).foldl (λcs (c,j)=>cs.setIfInBounds (off+j) c) cs).toList=cs.toList.take (off+j)++(l++cs.toList.drop (off+j+l.length)))
 | [],j,off,cs,_=>by simp
 |c::l,j,off,cs,h=>by
  simp only[VI]at h;have hlt:off+j<cs.toList.length:=by rw[V3];omega
  rw[List.zipIdx_cons,Xn,vd l (j+1) off _ (by simp;omega)];simp only[Array.toList_setIfInBounds];rw[show off+(j+1)=off+j+1 by omega,List.take_set,List.drop_set,Vn (by omega),XJ];have a:cs.toList[off+j]?.toList=[cs.toList[off+j]]:=by simp
  rw[a,Xd _ _ (by rw[V8];omega),V8,Xe (by omega)];simp[Xk,YJ 1 l.length,Nat.add_left_comm]
theorem Ln{E w}{cs:Array Value}{vs:List Value}{xs ys}(h:bn E w cs.toList xs)(k:bn E w vs ys)(off:Nat)(hl:off+vs.length<=cs.size):
  bn E w ((vs.zipIdx).foldl (λcs (c,j)=>cs.setIfInBounds (off+j) c) cs).toList (over xs off ys):=by
 have:=vd vs 0 off cs (by omega);simp only[Yf]at this;rw[this];unfold over;rw[<-k.1];exact(h.take off).append (k.append (h.drop _))
theorem oV{E w}(place:Nat->Option (Nat×Nat)):∀(vs:List (Nat×Value)) (ps:List (Nat×List PV)) (cs:Array Value) (xs ys:List PV),bn E w cs.toList xs->vs.length=ps.length->
  (∀(i:Nat) (v:Nat×Value) (p:Nat×List PV),vs[i]? =some v->ps[i]? =some p->v.1=p.1/\bn E w v.2.cells.toList p.2)->mC place xs ps=some ys->∃d,Instr.fill place cs vs=some d/\bn E w d.toList ys
 | [],[],cs,xs,ys,h,_,_,c=>by simp only[mC,WE]at c;subst c;exact⟨cs,rfl,h⟩
 | [],_::_,_,_,_,_,hl,_,_=>by simp at hl
 |_::_,[],_,_,_,_,hl,_,_=>by simp at hl
 |(i,v)::vs,(j,p)::ps,cs,xs,ys,h,hl,hp,c=>by
  obtain⟨he,hv⟩:=hp 0 (i,v) (j,p) I I;simp only at he hv;subst he;simp only[mC]at c;split at c
  ·cases c
  ·rename_i off size f;rw[VZ]at c;split at c
   ·rename_i hc;simp only[Vx,Nat.beq_eq,Xu]at hc;have m:v.cells.size=size:=by have:=hv.1;rw[V3]at this;omega
    have l:cs.size=xs.length:=by have:=h.1;rw[V3]at this;exact this
    have g:=Ln h hv off (by rw[V3];omega);obtain⟨d,h1,h2⟩:=oV place vs ps _ _ ys g (by simpa using hl) (λk a b h1 h2=>hp (k+1) a b (by simpa using h1) (by simpa using h2)) c;refine⟨d,?_,h2⟩;have e:(v.cells.size≠size||decide (off+v.cells.size>cs.size))=false:=by simp;omega
    simp only[Instr.fill,f];rw[Vk (by simp;omega)];have:(Array.zipIdx v.cells).foldl (λcs (x:Value×Nat)=>cs.setIfInBounds (off+x.2) x.1) cs=(v.cells.toList.zipIdx).foldl (λcs (x:Value×Nat)=>cs.setIfInBounds (off+x.2) x.1) cs:=by
     rw[<-Array.foldl_toList,Array.toList_zipIdx]
    rw[this];exact h1
   ·cases c
def j7(t:cd):List (Nat×Operand)->Option (List (Nat×List PV))
 | []=>some []
 |(i,x)::l=>match aI t x with
  |none=>none
  |some p=>match nx p,j7 t l with
   |some q,some r=>some ((i,q)::r)
   |_,_=>none
theorem mA{E w}{ρ:Operand->Value}(a:nj ρ)(h:eF E w ρ t):∀(l:List (Nat×Operand)) (ps:List (Nat×List PV)),j7 t l=some ps->
  (l.map λx=>(x.1,ρ x.2)).length=ps.length/\∀(i:Nat) (v:Nat×Value) (p:Nat×List PV),(l.map λx=>(x.1,ρ x.2))[i]? =some v->ps[i]? =some p->v.1=p.1/\bn E w v.2.cells.toList p.2
 | [],ps,hx=>by simp only[j7,WE]at hx;subst hx;exact⟨rfl,λi v p h=>by simp at h⟩
 |(i,x)::l,ps,hx=>by
  simp only[j7]at hx;split at hx
  ·cases hx
  ·rename_i p hp;split at hx
   ·rename_i q r c hr;cases hx;obtain⟨h1,h2⟩:=mA a h l r hr;refine⟨by simpa using h1,λk v p' k1 b=>?_⟩;cases k with
    |zero=>
     simp at k1 b;subst k1;subst b;exact⟨rfl,ny (aB a h hp) c⟩
    |succ k=>exact h2 k v p' (by simpa using k1) (by simpa using b)
   ·cases hx
def Tb(P:Program)(ty:TypeId):Option (List (Nat×Nat)×List Value):=
 match P.info? ty,P.underlying ty with
 |some it,some (.struct fields)=>
  match it.zero,fields.toList.mapM (λf=>(P.info? f.type).map λi=>(f.offset,i.size))with
  |some z,some places=>some (places,z.cells.toList)
  |_,_=>none
 |_,_=>none
theorem gg{ty}{parts:Array (Nat×Operand)}{places:List (Nat×Nat)}{zero:List Value}{ps:List (Nat×List PV)}{xs}(ho:o.op= .build ty parts)(hk:Tb P ty=some (places,zero))(hp:j7 t parts.toList=some ps)
  (g:mC (places[·]?) (zero.map .raw) ps=some xs):bE P σ t o (.agg xs):=by
 intro F base E ρ w e j hT;obtain⟨h1,h2⟩:=mA e hT parts.toList ps hp;have h:bn E w zero.toArray.toList (zero.map .raw):=⟨by simp,λi x u k1 b=>by
  simp only[Vt,Vr]at b;obtain⟨y,hy,rfl⟩:=b;simp only at k1;rw[hy]at k1;cases k1;exact .raw _⟩
 obtain⟨cs,hc,f⟩:=oV (places[·]?) _ ps zero.toArray _ xs h h1 h2 g;have hb:P.built ty ((parts.map fun(i,x)=>(i,ρ x)).toList)=some cs:=by
  unfold Tb at hk;split at hk
  ·rename_i it fields Q8 hu;split at hk
   ·rename_i z pl d c;cases hk;simp only[Program.built,Q8,hu,d,c,XE];simpa using hc
   ·cases hk
  ·cases hk
 have a:=run_build (P:=P) w ty (parts.map fun(i,x)=>(i,ρ x)) cs hb;simp only[execOp,ho,Sem.run_bind,a,Result.andThen_ok,Sem.run_pure];exact bA (.agg cs xs (by have:=f.1;rw[V3]at this;exact this) (λi x u k1 b=>f.2 i x u (by simpa using k1) b))
theorem xm{F:Nat->Prop}{base:Nat}{E:Env}{w:World}(a:Sat F base σ E w):¬E.M w.heap.size:=λh=>Zp _ (a.lt h)
theorem size_alloc(w:World)(o:Obj):(w.alloc o).heap.size=w.heap.size+1:=by simp
theorem OP{F:Nat->Prop}{base:Nat}{E}{w:World}(b:Sat F base σ E w)(cs:Array Value)(e:TypeId){xs}(h:bn E w cs.toList xs):dj E (w.alloc (.cells cs e)) (.pointer (some ⟨w.heap.size,0,none⟩)) (.cH xs 0):=by
 have a:Ext w (w.alloc (.cells cs e)):=(XH w).alloc _;have:=dj.cH (E:=E) (w:=w.alloc (.cells cs e)) w.heap.size 0 0 cs.toList xs (by rw[size_alloc];exact Y3 _) (xm b) (λi x hx=>by simp only[World.cell?,heap_alloc_new];simpa using hx) h.1 (λi x u k1 c=>(h.2 i x u k1 c).ext a);exact this
theorem Iw{F:Nat->Prop}{base:Nat}{E}{w:World}(b:Sat F base σ E w)(cs:Array Value)(e:TypeId){n:Nat}(hn:n<=maxLen){xs}(h0:0<n)(h:bn E w cs.toList xs):dj E (w.alloc (.cells cs e)) (.slice (some ⟨w.heap.size,0,none⟩) n n) (.slice n xs):=by
 have a:Ext w (w.alloc (.cells cs e)):=(XH w).alloc _;exact dj.slice (E:=E) (w:=w.alloc (.cells cs e)) w.heap.size 0 n n cs.toList xs h0 (Vh _) hn (by rw[size_alloc];exact Y3 _) (xm b) (λi x hx=>by simp only[World.cell?,heap_alloc_new];simpa using hx) h.1 (λi x u k1 c=>(h.2 i x u k1 c).ext a)
theorem Mz{ty x p xs}(ho:o.op= .box ty x)(hx:aI t x=some p)(hc:nx p=some xs):bE P σ t o (.cH xs 0):=by
 intro F base E ρ w a b hT;have h:=ny (aB a hT hx) hc;have hr:(Instr.box ty (ρ x)).run P w= .ok (.pointer (some ⟨w.heap.size,0,none⟩)) (w.alloc (.cells (ρ x).cells ty)):=by
  simp[Instr.box,newVar,newRow]
 simp only[execOp,ho,Sem.run_bind,hr,Result.andThen_ok,Sem.run_pure];exact⟨(XH w).alloc _,OP b _ _ h⟩
def Qf(P:Program)(ty:TypeId):Option (TypeId×Nat×List Value):=
 match P.underlying ty with
 |some (.slice e)=>match P.info? e with
  |some i=>match i.zero with
   |some z=>if z.cells.size=i.size/\0<i.size then some (e,i.size,z.cells.toList) else none
   |none=>none
  |none=>none
 |_=>none
theorem r9{ty e s:Nat}{z:List Value}(h:Qf P ty=some (e,s,z)):P.underlying ty=some (.slice e)/\∃i a,P.info? e=some i/\i.size=s/\i.zero=some a/\a.cells.toList=z/\z.length=s/\0<s:=by
 unfold Qf at h;split at h
 ·rename_i c hu;split at h
  ·rename_i i hi;split at h
   ·rename_i a b;split at h
    ·rename_i hc;cases h;exact⟨hu,i,a,hi,rfl,b,rfl,by simpa using hc.1,hc.2⟩
    ·cases h
   ·cases h
  ·cases h
 ·cases h
def fN(z:List PV):Nat->List PV
 |0=>[]
 |n+1=>z++fN z n
theorem tg(z:List PV)(n:Nat):(fN z n).length=n*z.length:=by
 induction n with
 |zero=>simp[fN]
 |succ n ih=>simp[fN,ih,XL];omega
theorem yJ(z:List PV):∀(n i:Nat),i<n*z.length->(fN z n)[i]? =z[i % z.length]?
 |0,i,h=>by simp at h
 |n+1,i,h=>by
  simp only[fN];by_cases hi:i<z.length
  ·rw[Vl hi,Yk hi]
  ·rw[Vq (by omega),yJ z n (i - z.length) (by rw[XL]at h;omega)];rw[Nat.mod_eq_sub_mod (by omega:i>=z.length)]
theorem p6{E w}(z:Array Value)(n m:Nat)(hm:m=n*z.size):bn E w ((Array.range m).map (z[· % z.size]!)).toList (fN (z.toList.map .raw) n):=by
 refine⟨by simp[tg,hm],λi x u h1 h2=>?_⟩;have hi:i<m:=by have:=(Vf.1 h1).1;simpa using this
 rw[yJ _ _ _ (by simp;omega)]at h2;have a:0<z.size:=by
  rcases Xz z.size with h|h
  ·rw[h]at hm;simp at hm;omega
  ·exact h
 have hlt:=YW i a;simp[hi]at h1;simp[hlt]at h2;subst h1;subst h2;have:z[i % z.size]! =z[i % z.size]:=by simp[hlt]
 rw[this];exact .raw _
theorem so{ty e s n:Nat}{parts:Array (Nat×Operand)}{z:List Value}{ps:List (Nat×List PV)}{xs}(ho:o.op= .buildSlice ty n parts)(hk:Qf P ty=some (e,s,z))(hn:0<n/\n*s<=16777216)(hp:j7 t parts.toList=some ps)
  (m:mC (λi=>some (i*s,s)) (fN (z.map .raw) n) ps=some xs):bE P σ t o (.slice n xs):=by
 intro F base E ρ w j l hT;obtain⟨h1,h2⟩:=mA j hT parts.toList ps hp;obtain⟨hu,i,d,hi,hs,q,c,g,a⟩:=r9 hk;have h:d.cells.size=s:=by rw[<-g,<-c];simp
 have f:bn E w ((Array.range (n*s)).map (d.cells[· % d.cells.size]!)).toList (fN (z.map .raw) n):=by
  rw[<-c];exact p6 d.cells n (n*s) (by rw[h])
 obtain⟨cs,hc,k⟩:=oV (λi=>some (i*s,s)) _ ps _ _ xs f h1 h2 m;have p:0<n*s:=Nat.mul_pos hn.1 a;have b:=run_buildSlice (P:=P) w ty e n (parts.map fun(i,x)=>(i,ρ x)) cs i d hu hi q (by rw[hs];omega) (by rw[hs];omega) (by rw[hs,XE];simpa using hc);simp only[execOp,ho,Sem.run_bind,b,Result.andThen_ok,Sem.run_pure];have hle:n<=n*s:=Nat.le_mul_of_pos_right n a;exact⟨(XH w).alloc _,Iw l _ _ (by unfold maxLen;omega) hn.1 k⟩
theorem Aw{ty e s:Nat}{z}(ho:o.op= .buildSlice ty 0 #[])(hk:Qf P ty=some (e,s,z)):bE P σ t o (.slice 0 []):=by
 intro F base E ρ w f g hT;obtain⟨hu,i,j,hi,hs,h,d,c,b⟩:=r9 hk;have a:(Instr.buildSlice ty 0 #[]).run P w= .ok (.slice (some ⟨w.heap.size,0,none⟩) 0 0) (w.alloc (.cells #[] e)):=by
  have:Array.map (λ_:Nat=>(default:Value)) (Array.range 0)= #[]:=by simp[Array.range]
  simp[Instr.buildSlice,run_underlying hu,sizeOf,typeInfo,hi,Instr.fill,newRow,this]
 simp only[execOp,ho,Sem.run_bind,XF,Xw,a,Result.andThen_ok,Sem.run_pure];exact⟨(XH w).alloc _,.empty _ _ (We _)⟩
theorem lB{E w}{a:Option Addr}{n c l h m s:Nat}{xs:List PV}(hv:dj E w (.slice a n c) (.slice n xs))(hx:xs.length=n*s)(hl:l<=h)(q:h<=n)(hm:h<=m)(k:m<=c):
  dj E w (.slice (if m=l then a else a.map (·.add (l*s))) (h - l) (m - l)) (.slice (h - l) ((xs.drop (l*s)).take ((h - l)*s))):=by
 by_cases h0:h - l=0
 ·rw[h0];have:(xs.drop (l*s)).take (0*s)=[]:=by simp
  rw[this];have e:m - l<=maxLen\/a=none:=by
   cases hv with
   |cg=>exact .inr rfl
   |empty _ _ j=>exact .inl (by omega)
   |slice b off _ _ cs _ h0 h1 h2 hb hM hc hl hr=>exact .inl (by omega)
  cases a with
  |none=>
   cases hv;have:m - l=0:=by omega
   rw[this];split<;>exact .cg
  |some p=>
   have d:=e.resolve_right (by simp);split
   ·exact .empty _ _ d
   ·exact .empty _ _ d
 ·cases hv with
  |cg=>omega
  |empty _ _ j=>omega
  |slice b off _ _ cs _ h0 h1 h2 hb hM hc f hr=>
   rw[Vk (by omega)];have g:=((show bn E w cs xs from⟨f,hr⟩).drop (l*s)).take ((h - l)*s);have:=dj.slice (E:=E) (w:=w) b (off+l*s) (h - l) (m - l) _ _ (by omega) (by omega) (by omega) hb hM (λi x hx=>by
    rw[Wn]at hx;split at hx
    ·rw[WV]at hx;rw[Xk];exact hc _ x hx
    ·cases hx) g.1 g.2
   simpa[Addr.add_lit]using this
theorem jy{E w v}{n:Nat}{xs}(h:dj E w v (.slice n xs)):∃a c,v= .slice a n c/\n<=c/\c<=maxLen:=by
 cases h with
 |cg=>exact⟨_,_,rfl,Vh _,We _⟩
 |empty a c h=>exact⟨_,_,rfl,We _,h⟩
 |slice b off _ c cs _ h0 h1 h2=>exact⟨_,_,rfl,h1,h2⟩
theorem yH{ty e s n l:Nat}{x lo}{xs:List PV}{k}{li:Int}(ho:o.op= .slice ty x (some lo) none none)(he:uX P ty=some (e,s))(hx:aI t x=some (.slice n xs))(h:aI t lo=some (.raw (.int k li)))(j:xs.length=n*s)(g:li=(l:Int))(hl:l<=n):
  bE P σ t o (.slice (n - l) ((xs.drop (l*s)).take ((n - l)*s))):=by
 intro F base E ρ w d y hT;have h1:=aB d hT hx;have h2:=aB d hT h;obtain⟨hu,i,hi,hs⟩:=gj he;generalize r:ρ x=v at h1;generalize m:ρ lo=u at h2;cases h2;subst g;obtain⟨a,c,rfl,f,q⟩:=jy h1;have p:=lB (s:=s) h1 j hl (Vh _) f (Vh c);have b:(Instr.sliceAt ty (.slice a n c) (some (.int k (l:Int))) none none).run P w= .ok (.slice (if c=l then a else a.map (·.add (l*s))) (n - l) (c - l)) w:=by
  simp[Instr.sliceAt,run_underlying hu,Instr.slice,Instr.sliceBounds,Instr.sliceBound,asIntOf,hl,sizeOf,typeInfo,hi,hs]
 simp only[execOp,ho,r,m,Wj,YM,Sem.run_bind,b,Result.andThen_ok,Sem.run_pure];exact bA p
theorem IY{ty e s n h:Nat}{x b}{xs:List PV}{k}{f:Int}(ho:o.op= .slice ty x none (some b) none)(he:uX P ty=some (e,s))(hx:aI t x=some (.slice n xs))(m:aI t b=some (.raw (.int k f)))(q:xs.length=n*s)(p:f=(h:Int))(hl:h<=n):
  bE P σ t o (.slice h (xs.take (h*s))):=by
 intro F base E ρ w j B hT;have h1:=aB j hT hx;have h2:=aB j hT m;obtain⟨hu,i,hi,hs⟩:=gj he;generalize A:ρ x=v at h1;generalize r:ρ b=u at h2;cases h2;subst p;obtain⟨a,c,rfl,d,z⟩:=jy h1;have y:=lB (s:=s) (l:=0) h1 q (We _) hl (VL hl d) (Vh c);have g:(Instr.sliceAt ty (.slice a n c) none (some (.int k (h:Int))) none).run P w= .ok (.slice (if c=0 then a else a.map (·.add (0*s))) (h - 0) (c - 0)) w:=by
  have:h<=c:=VL hl d;simp[Instr.sliceAt,run_underlying hu,Instr.slice,Instr.sliceBounds,Instr.sliceBound,asIntOf,this,sizeOf,typeInfo,hi]
 simp only[execOp,ho,A,r,Wj,YM,Sem.run_bind,g,Result.andThen_ok,Sem.run_pure];refine bA ?_;simpa using y
theorem C7{ty e s n l h:Nat}{x lo b}{xs:List PV}{k D}{li j:Int}(ho:o.op= .slice ty x (some lo) (some b) none)(he:uX P ty=some (e,s))(hx:aI t x=some (.slice n xs))(z:aI t lo=some (.raw (.int k li)))(r:aI t b=some (.raw (.int D j)))(A:xs.length=n*s)(y:li=(l:Int))(g:j=(h:Int))(m:l<=h)(hl:h<=n):
  bE P σ t o (.slice (h - l) ((xs.drop (l*s)).take ((h - l)*s))):=by
 intro F base E ρ w d K hT;have h1:=aB d hT hx;have h2:=aB d hT z;have C:=aB d hT r;obtain⟨hu,i,hi,hs⟩:=gj he;generalize J:ρ x=v at h1;generalize B:ρ lo=u at h2;generalize q:ρ b=u' at C;cases h2;cases C;subst y;subst g;obtain⟨a,c,rfl,f,H⟩:=jy h1;have G:=lB (s:=s) h1 A m hl (VL hl f) (Vh c);have p:(Instr.sliceAt ty (.slice a n c) (some (.int k (l:Int))) (some (.int D (h:Int))) none).run P w= .ok (.slice (if c=l then a else a.map (·.add (l*s))) (h - l) (c - l)) w:=by
  have:h<=c:=VL hl f;simp[Instr.sliceAt,run_underlying hu,Instr.slice,Instr.sliceBounds,Instr.sliceBound,asIntOf,this,m,sizeOf,typeInfo,hi,hs]
 simp only[execOp,ho,J,B,q,Wj,YM,Sem.run_bind,p,Result.andThen_ok,Sem.run_pure];exact bA G
end
structure St where
 t:cd
 σ:bH
structure dT (F:Nat->Prop) (base N:Nat) (st:St) (E:Env) (a:Act) (w:World):Prop where
 sat:Sat F base st.σ E w
 tmp:eF E w a.eval st.t
 lO:a.defers=[]
 size:a.tmps.size=N
theorem Below.iB{base:Nat}{w w':World}(h:Ext w w')(hb:base<=w.heap.size):Below base w w':=Below.mono h hb
structure iE (F:Nat->Prop) (base:Nat) (w w':World):Prop extends Below base w w' where
 fz:∀b,F b->w'.heap[b]? =w.heap[b]?
theorem iE.refl(F:Nat->Prop)(base:Nat)(w:World):iE F base w w:=⟨Below.refl _ _,λ_ _=>rfl⟩
abbrev Yh:=@iE.refl
theorem iE.trans{F:Nat->Prop}{base:Nat}{w w' a}(h:iE F base w w')(k:iE F base w' a):iE F base w a:=⟨h.toBelow.trans k.toBelow,λb hb=>(k.fz b hb).trans (h.fz b hb)⟩
theorem iE.iB{F:Nat->Prop}{base:Nat}{σ E w w'}(h:Ext w w')(a:Sat F base σ E w):iE F base w w':=⟨Below.mono h a.bl,λb hb=>h.block b (a.fb b hb).1⟩
abbrev Zz:=@iE.iB
def qo(F:Nat->Prop)(base N:Nat)(E:Env)(w:World)(K:St->Prop)(b:Act)(w':World):Prop:=
 ∃a E',K a/\dT F base N a E' b w'/\c8 E w E' w'/\iE F base w w'
structure uw (F:Nat->Prop) (base L:Nat) (E₀:Env) (w₀:World) (E:Env) (w:World):Prop where
 L:E₀.L=L
 g:c8 E₀ w₀ E w
 b:iE F base w₀ w
theorem uw.on{F:Nat->Prop}{base L:Nat}{E₀ E E' w₀ w w'}(h:uw F base L E₀ w₀ E w)(g:c8 E w E' w')(b:iE F base w w'):uw F base L E₀ w₀ E' w':=⟨h.L,h.g.trans g,h.b.trans b⟩
def Sub(t t':cd):Prop:=∀k p',look k t'=some p'->∃p,look k t=some p/\fv p p'
theorem Sub.nil(t:cd):Sub t []:=λk p h=>by cases h
theorem Sub.cons{t t'}{k:Nat}{p}(h:look k t=some p)(hs:Sub t t'):Sub t ((k,p)::t'):=λj q hj=>by
 simp only[look]at hj;rw[VZ]at hj;split at hj
 ·rename_i he;have:=VF he;subst this;cases hj;exact⟨p,h,WK p⟩
 ·exact hs j q hj
theorem eF.sub{E w}{ρ:Operand->Value}{t t'}(h:eF E w ρ t)(hs:Sub t t'):eF E w ρ t':=λk p hk=>by
 obtain⟨q,h1,h2⟩:=hs k p hk;exact h2 E w _ (h k q h1)
theorem eF.put{E w}{a:Act}{t}(h:eF E w a.eval t){d:Nat}{v p}(hv:dj E w v p)(hd:d<a.tmps.size):eF E w (a.put (some d) v).eval ((d,p)::t):=λk q hk=>by
 simp only[look]at hk;rw[VZ]at hk;split at hk
 ·rename_i he;have:=VF he;subst this;cases hk;have:(a.put (some k) v).eval (.tmp k)=v:=by simp[Act.put,Act.eval,hd]
  rw[this];exact hv
 ·rename_i he;have c:k≠d:=λe=>he (by rw[e];exact Yg d);rw[Act.eval_put (λf b heq=>by cases b;cases heq;exact c rfl)];exact h k q hk
theorem dT.put{F:Nat->Prop}{base N:Nat}{t σ σ' E E'}{a:Act}{w w'}(h:dT F base N ⟨t,σ⟩ E a w)(hs:Sat F base σ' E' w')(g:c8 E w E' w'){d:Nat}(hd:Nat.blt d N=true){v p}(hv:dj E' w' v p):dT F base N ⟨(d,p)::t,σ'⟩ E' (a.put (some d) v) w':=
 ⟨hs,eF.put (h.tmp.goes g) hv (by rw[h.size];exact Nat.blt_eq.mp hd),by simpa[Act.put]using h.lO,by simpa[Act.put]using h.size⟩
theorem dT.Tz{F:Nat->Prop}{base N:Nat}{t σ σ' E E'}{a:Act}{w w'}(h:dT F base N ⟨t,σ⟩ E a w)(hs:Sat F base σ' E' w')(g:c8 E w E' w')(v:Value):dT F base N ⟨t,σ'⟩ E' (a.put none v) w':=
 ⟨hs,h.tmp.goes g,h.lO,h.size⟩
section
variable {P:Program} {N L:Nat} {ops:Array Oper}
def WR(P:Program)(N L:Nat)(ops:Array Oper)(l:List Oper)(st:St)(K:St->Prop):Prop:=
 ∀F base E₀ w₀ E a w,uw F base L E₀ w₀ E w->dT F base N st E a w->∀(Q:Exit->Act->World->Prop) (k:Nat),(∀b w',qo F base N E₀ w₀ K b w'->Q .normal b w')->(∀j,l[j]? =ops[k+j]?)->wpOps P ops Q (List.range' k l.length) a w
theorem bM{st}{K:St->Prop}(h:K st):WR P N L ops [] st K:=by
 intro F base E₀ w₀ E a w hc hs Q k b _;exact b a w ⟨st,E,h,hs,hc.g,hc.b⟩
theorem WR.mono{l st}{K b:St->Prop}(h:WR P N L ops l st K)(hk:∀s,K s->b s):WR P N L ops l st b:=by
 intro F base E₀ w₀ E a w hc hs Q k d hl;exact h F base E₀ w₀ E a w hc hs Q k (λc w' ⟨s,E',h1,h2⟩=>d c w' ⟨s,E',hk s h1,h2⟩) hl
abbrev ZI:=@WR.mono
theorem Dj{l t t' σ}{K:St->Prop}(hs:Sub t t')(h:WR P N L ops l ⟨t',σ⟩ K):WR P N L ops l ⟨t,σ⟩ K:=by
 intro F base E₀ w₀ E a w hc b;exact h F base E₀ w₀ E a w hc ⟨b.sat,b.tmp.sub hs,b.lO,b.size⟩
def eL(ops:Array Oper)(t:cd)(o:Oper):Option Bool:=
 match o.guard with
 |none=>some true
 |some (j,want)=>match(ops[j]?).bind (·.dst)with
  |some k=>match look k t with
   |some (.raw v)=>match JA v with
    |some b=>some (b==want)
    |none=>some false
   |_=>none
  |none=>none
theorem nU{E w}{a:Act}{t o b}(hT:eF E w a.eval t)(h:eL ops t o=some b):nV ops o a.eval=b:=by
 unfold eL at h;unfold nV;split at h
 ·rename_i hg;(try rw[hg]);cases h;rfl
 ·rename_i j want hg
  (try rw[hg])
  (try simp only)
  split at h
  ·rename_i k hk
   (try simp only[hk])
   split at h
   ·rename_i b' hb;have:=hT k _ hb;generalize a.eval (.tmp k)=z at this;cases this;split at h
    ·rename_i d c;cases h;simp[c]
    ·rename_i c;cases h;simp[c]
   ·cases h
  ·cases h
theorem nt{o:Oper}{rest t σ}{K:St->Prop}(hw:eL ops t o=some true)
  (h:∀F base E a w,dT F base N ⟨t,σ⟩ E a w->∀(next:Act->World->Prop) (Q:Exit->Act->World->Prop),(∀b w' s E',WR P N L ops rest s K->dT F base N s E' b w'->c8 E w E' w'->iE F base w w'->next b w')->o.wp P a w next Q):
  WR P N L ops (o::rest) ⟨t,σ⟩ K:=by
 intro F base E₀ w₀ E a w hc hs Q k e hl;have h0:ops[k]? =some o:=by simpa using(hl 0).symm
 rw[VI,XQ,wpOps_cons];unfold wpOp;simp only[h0];rw[iz,nU hs.tmp hw,Vn rfl];left;refine h F base E a w hs _ Q (λb w' s E' h1 h2 c d=>?_);exact h1 F base E₀ w₀ E' b w' (hc.on c d) h2 Q (k+1) e (λj=>by have:=hl (j+1);simpa[Xk,YJ 1 j]using this)
theorem sj{a:Act}{w}{o:Oper}{Φ}{next:Act->World->Prop}{Q:Exit->Act->World->Prop}(h:iL P w Φ ((execOp a.eval o).run P w))(hn:∀v w',Ext w w'->Φ v w'->next (a.put o.dst v) w'):o.wp P a w next Q:=by
 unfold Oper.wp;generalize (execOp a.eval o).run P w=r at*;cases r with
 |ok x w'=>
  cases x<;>simp only[iL]at h<;>simp only[Oper.upon]
  case value v=>exact hn _ _ h.1 h.2
  case skip=>exact hn _ _ h.1 h.2
  case enter f c=>
   refine h.2.mono λe d ⟨v,he,b,hv⟩=>?_;subst he;exact hn _ _ (h.1.trans b) hv
 |halt x w'=>simp only[iL]at h
theorem dA{o:Oper}{rest t σ}{K:St->Prop}{d:Nat}{p}(hy:bE P σ t o p)(hd:o.dst=some d)(hw:eL ops t o=some true)(hN:Nat.blt d N=true)(h:WR P N L ops rest ⟨(d,p)::t,σ⟩ K):WR P N L ops (o::rest) ⟨t,σ⟩ K:=by
 refine nt hw λF base E a w hs next Q hn=>sj (hy F base E a.eval w (fZ a) hs.sat hs.tmp) λv w' b hv=>hn _ _ _ E h ?_ (.ext b) (Zz b hs.sat)
 rw[hd];exact hs.put (hs.sat.ext b) (.ext b) hN hv
theorem E9{o:Oper}{rest t σ}{K:St->Prop}{d:Nat}(hd:o.dst=some d)(hw:eL ops t o=some false)(hN:Nat.blt d N=true)(h:WR P N L ops rest ⟨(d,.raw undef)::t,σ⟩ K):WR P N L ops (o::rest) ⟨t,σ⟩ K:=by
 intro F base E₀ w₀ E a w hc hs Q k b hl;have h0:ops[k]? =some o:=by simpa using(hl 0).symm
 rw[VI,XQ,wpOps_cons];unfold wpOp;simp only[h0];rw[iz,nU hs.tmp hw,Vk Bool.false_ne_true];refine h F base E₀ w₀ E _ w hc ?_ Q (k+1) b (λj=>by have:=hl (j+1);simpa[Xk,YJ 1 j]using this);rw[hd];exact hs.put hs.sat (YN _ _) hN (.raw _)
def de(P:Program)(σ:bH)(t:cd)(o:Oper)(p:PV)(σ':bH):Prop:=
 ∀F base E ρ w,nj ρ->Sat F base σ E w->eF E w ρ t->∃v w' E',((execOp ρ o).run P w= .ok (.value v) w'\/(v=undef/\(execOp ρ o).run P w= .ok .skip w'))/\Sat F base σ' E' w'/\c8 E w E' w'/\iE F base w w'/\dj E' w' v p
theorem eu{o:Oper}{rest t σ σ'}{K:St->Prop}{d:Nat}{p}(hy:de P σ t o p σ')(hd:o.dst=some d)(hw:eL ops t o=some true)(hN:Nat.blt d N=true)(h:WR P N L ops rest ⟨(d,p)::t,σ'⟩ K):WR P N L ops (o::rest) ⟨t,σ⟩ K:=by
 refine nt hw λF base E a w hs next Q hn=>?_
 obtain⟨v,w',E',hr,h1,h2,c,e⟩:=hy F base E a.eval w (fZ a) hs.sat hs.tmp;have b:=hn (a.put o.dst v) w' _ E' h (by rw[hd];exact hs.put h1 h2 hN e) h2 c;unfold Oper.wp;rcases hr with hr|⟨rfl,hr⟩
 ·rw[hr];exact b
 ·rw[hr];exact b
theorem bw{o:Oper}{rest t σ σ'}{K:St->Prop}{p}(hy:de P σ t o p σ')(hd:o.dst=none)(hw:eL ops t o=some true)(h:WR P N L ops rest ⟨t,σ'⟩ K):WR P N L ops (o::rest) ⟨t,σ⟩ K:=by
 refine nt hw λF base E a w hs next Q hn=>?_
 obtain⟨v,w',E',hr,h1,h2,c,d⟩:=hy F base E a.eval w (fZ a) hs.sat hs.tmp;have b:=hn (a.put o.dst v) w' _ E' h (by rw[hd];exact hs.Tz h1 h2 v) h2 c;unfold Oper.wp;rcases hr with hr|⟨rfl,hr⟩
 ·rw[hr];exact b
 ·rw[hr];exact b
def aD(P:Program)(f:FuncId)(ps:List PV)(σ:bH)(R:PV->bH->Prop):Prop:=
 ∀F base E w (vs:Array Value),Sat F base σ E w->bn E w vs.toList ps->Calls P f vs w λe w'=>∃v r σ' E',e= .returned v/\R r σ'/\Sat F base σ' E' w'/\c8 E w E' w'/\iE F base w w'/\dj E' w' v r
theorem Jg{o:Oper}{rest:List Oper}{t:cd}{σ:bH}{K:St->Prop}{d:Nat}{f:FuncId}{x:Operand}{args:Array Operand}{b:Array TypeId}{cap ps:List PV}(ho:o.op= .call {callee:=.value x,args,argTypes:=b})(l:enters P f=true)(hx:aI t x=some (.func f cap))(ha:j6 t args.toList=some ps)
  (hd:o.dst=some d) (hw:eL ops t o=some true) (hN:Nat.blt d N=true) (hc:aD P f (ps++cap) σ (λr σ'=>WR P N L ops rest ⟨(d,r)::t,σ'⟩ K)):WR P N L ops (o::rest) ⟨t,σ⟩ K:=by
 refine nt hw λF base E a w hs next Q hn=>?_
 have h1:=aB (fZ a) hs.tmp hx;have h2:=jO (fZ a) hs.tmp ha;generalize m:a.eval x=z at h1;cases h1 with
 |func _ cs _ hl hr=>
  unfold Oper.wp;rw[iS l ho m w];simp only[Oper.upon];have h:bn E w (args.map a.eval++cs).toList (ps++cap):=by
   rw[XW,XE];exact h2.append ⟨by simpa using hl,λi x u k1 n=>hr i x u (by simpa using k1) n⟩
  refine(hc F base E w _ hs.sat h).mono ?_;rintro e w' ⟨v,r,σ',E',rfl,k,c,g,j,hv⟩;exact hn _ _ _ E' k (by rw[hd];exact hs.put c g hN hv) g j
inductive fQ (P:Program) (N:Nat) (ops:Array Oper) (σ:bH):List Oper->cd->cd->Prop
 |nil {t t':cd}:Sub t t'->fQ P N ops σ [] t t'
 |val {o:Oper} {rest:List Oper} {t t':cd} {d:Nat} {p:PV}:bE P σ t o p->o.dst=some d->eL ops t o=some true->Nat.blt d N=true->fQ P N ops σ rest ((d,p)::t) t'->fQ P N ops σ (o::rest) t t'
 |skip {o:Oper} {rest:List Oper} {t t':cd} {d:Nat}:o.dst=some d->eL ops t o=some false->Nat.blt d N=true->fQ P N ops σ rest ((d,.raw undef)::t) t'->fQ P N ops σ (o::rest) t t'
 |le {l:List Oper} {t u t':cd}:Sub t u->fQ P N ops σ l u t'->fQ P N ops σ l t t'
theorem fQ.wr{σ l t t'}(h:fQ P N ops σ l t t'){K:St->Prop}(hk:K ⟨t',σ⟩):WR P N L ops l ⟨t,σ⟩ K:=by
 induction h with
 |nil hs=>exact Dj hs (bM hk)
 |val hy hd hw hN _ ih=>exact dA hy hd hw hN (ih hk)
 |skip hd hw hN _ ih=>exact E9 hd hw hN (ih hk)
 |le hs _ ih=>exact Dj hs (ih hk)
def W(P:Program)(N L:Nat)(c:Code)(st:St)(Q:Exit->St->Prop):Prop:=
 ∀F base E₀ w₀ E a w,uw F base L E₀ w₀ E w->dT F base N st E a w->c.wp P (λe b w'=>qo F base N E₀ w₀ (Q e) b w') a w
theorem W.mono{c st}{Q Q':Exit->St->Prop}(h:W P N L c st Q)(b:∀e s,Q e s->Q' e s):W P N L c st Q':=λF base E₀ w₀ E a w hc hs=>
 wp_mono (h F base E₀ w₀ E a w hc hs) λe _ _ ⟨s,E',h1,h2⟩=>⟨s,E',b e s h1,h2⟩
theorem gQ{c t t' σ}{Q:Exit->St->Prop}(hs:Sub t t')(h:W P N L c ⟨t',σ⟩ Q):W P N L c ⟨t,σ⟩ Q:=λF base E₀ w₀ E a w hc b=>
 h F base E₀ w₀ E a w hc ⟨b.sat,b.tmp.sub hs,b.lO,b.size⟩
theorem ao{st}{Q:Exit->St->Prop}(h:Q .normal st):W P N L .skip st Q:=λ_ _ _ _ E _ _ hc hs=>wp_skip ⟨st,E,h,hs,hc.g,hc.b⟩
theorem aA{st}{Q:Exit->St->Prop}(h:Q .ret st):W P N L .ret st Q:=λ_ _ _ _ E _ _ hc hs=>wp_ret ⟨st,E,h,hs,hc.g,hc.b⟩
theorem bh{id:Nat}{st}{Q:Exit->St->Prop}(h:Q (.exit id) st):W P N L (.exit id) st Q:=λ_ _ _ _ E _ _ hc hs=>wp_exit ⟨st,E,h,hs,hc.g,hc.b⟩
def F7(K:St->Prop)(Q:Exit->St->Prop):Exit->St->Prop
 | .normal,s=>K s
 |e,s=>Q e s
theorem an{x y st}{Q:Exit->St->Prop}(h:W P N L x st (F7 (λs=>W P N L y s Q) Q)):W P N L (.seq x y) st Q:=λF base E₀ w₀ E a w hc hs=>by
 refine wp_seq (wp_mono (h F base E₀ w₀ E a w hc hs) λe d w' ⟨s,E',h1,h2,b,c⟩=>?_);cases e
 case normal=>exact h1 F base E₀ w₀ E' d w' ⟨hc.L,b,c⟩ h2
 all_goals exact⟨s,E',h1,h2,b,c⟩
theorem ak{k:Nat}{x y}{st:St}{Q:Exit->St->Prop}{b}(hc:look k st.t=some (.raw (.bool b)))(e:b=true->W P N L x st Q)(d:b=false->W P N L y st Q):W P N L (.cond (.tmp k) x y) st Q:=λF base E₀ w₀ E a w c hs=>by
 have h1:=hs.tmp k _ hc;generalize f:a.eval (.tmp k)=z at h1;cases h1;exact wp_cond_split f (λh=>e h F base E₀ w₀ E a w c hs) (λh=>d h F base E₀ w₀ E a w c hs)
def Jz(id:Nat)(Q:Exit->St->Prop):Exit->St->Prop
 | .exit j,s=>bif Nat.beq j id then Q .normal s else Q (.exit j) s
 |e,s=>Q e s
theorem ay{id:Nat}{c st}{Q:Exit->St->Prop}(h:W P N L c st (Jz id Q)):W P N L (.block id c) st Q:=λF base E₀ w₀ E a w hc hs=>by
 refine wp_block (wp_mono (h F base E₀ w₀ E a w hc hs) λe b w' ⟨s,E',h1,h2⟩=>?_);cases e with
 |exit j=>
  simp only[Jz]at h1;rw[VZ]at h1;simp only[Exit.inBlock];split at h1
  ·rename_i hj;rw[Vn (VF hj)];exact⟨s,E',h1,h2⟩
  ·rename_i hj;rw[Vk (λe=>hj (by rw[e];exact Yg id))];exact⟨s,E',h1,h2⟩
 |normal=>exact⟨s,E',h1,h2⟩
 |goto _=>exact⟨s,E',h1,h2⟩
 |ret=>exact⟨s,E',h1,h2⟩
 |panic _=>exact⟨s,E',h1,h2⟩
 |outgrown=>exact⟨s,E',h1,h2⟩
theorem bq{c st}{Q:Exit->St->Prop}(I:Nat->St->Prop)(b:Nat)(f:I b st)(round:∀n s,I n s->W P N L c s (F7 (λs'=>∃m,m<n/\I m s') Q)):W P N L (.loop c) st Q:=λF base E₀ w₀ E a w hc hs=>by
 refine wp_loop_ghost (λn g w'=>qo F base N E₀ w₀ (I n) g w') b ⟨st,E,f,hs,hc.g,hc.b⟩ ?_;rintro n g w' ⟨s,E',h1,h2,j,k⟩;refine wp_mono (round n s h1 F base E₀ w₀ E' g w' ⟨hc.L,j,k⟩ h2) ?_;rintro e i o ⟨s',d,k1,h⟩;cases e
 case normal=>
  obtain⟨m,hm,l⟩:=k1;exact⟨m,hm,s',d,l,h⟩
 all_goals exact⟨s',d,k1,h⟩
theorem bp{id:Nat}{l:List Oper}{st}{Q:Exit->St->Prop}(h:WR P N L l.toArray l st (λs=>Q .normal s)):W P N L (.region id l.toArray false) st Q:=λF base E₀ w₀ E a w hc hs=>by
 refine wp_region ?_;have:=h F base E₀ w₀ E a w hc hs (λe b w'=>qo F base N E₀ w₀ (Q e) b w') 0 (λb w' hp=>hp) (λj=>by simp);rw[<-Yz]at this;simpa using this
theorem aK{id:Nat}{l:List Oper}{y st}{Q:Exit->St->Prop}(h:WR P N L l.toArray l st (λs=>W P N L y s Q)):W P N L (.seq (.region id l.toArray false) y) st Q:=an (bp h)
theorem aj{id:Nat}{l:List Oper}{y t t' σ}{Q:Exit->St->Prop}(h:fQ P N l.toArray σ l t t')(a:W P N L y ⟨t',σ⟩ Q):W P N L (.seq (.region id l.toArray false) y) ⟨t,σ⟩ Q:=aK (h.wr a)
theorem aL{id:Nat}{l:List Oper}{t t' σ}{Q:Exit->St->Prop}(h:fQ P N l.toArray σ l t t')(a:Q .normal ⟨t',σ⟩):W P N L (.region id l.toArray false) ⟨t,σ⟩ Q:=bp (h.wr a)
inductive Ren (fs:List Nat):PV->PV->Prop
 |pure {p:PV} [IsPure p]:Ren fs p p
 |any {p:PV}:Ren fs .any p
 |own {i j:Nat}:fs[i]? =some j->Ren fs (.own i) (.own j)
 |ptr {i j k:Nat}:fs[i]? =some j->Ren fs (.ptr i k) (.ptr j k)
 |agg {xs ys:List PV} (hl:ys.length=xs.length) (hs:∀(j:Nat) x y,xs[j]? =some x->ys[j]? =some y->Ren fs x y):Ren fs (.agg xs) (.agg ys)
 |tuple {xs ys:List PV} (hl:ys.length=xs.length) (hs:∀(j:Nat) x y,xs[j]? =some x->ys[j]? =some y->Ren fs x y):Ren fs (.tuple xs) (.tuple ys)
 |func {f:FuncId} {xs ys:List PV} (hl:ys.length=xs.length) (hs:∀(j:Nat) x y,xs[j]? =some x->ys[j]? =some y->Ren fs x y):Ren fs (.func f xs) (.func f ys)
 |bound {f:FuncId} {xs ys:List PV} (hl:ys.length=xs.length) (hs:∀(j:Nat) x y,xs[j]? =some x->ys[j]? =some y->Ren fs x y):Ren fs (.bound f xs) (.bound f ys)
def ax(fs:List Nat)(xs ys:List PV):Prop:=ys.length=xs.length/\∀(j:Nat) x y,xs[j]? =some x->ys[j]? =some y->Ren fs x y
theorem ax.nil{fs:List Nat}:ax fs [] []:=⟨rfl,λj x y h=>by simp at h⟩
abbrev Wp:=@ax.nil
theorem ax.cons{fs:List Nat}{x y xs ys}(h:Ren fs x y)(hs:ax fs xs ys):ax fs (x::xs) (y::ys):=⟨by simp[hs.1],λj a b h1 h2=>by
 cases j with
 |zero=>simp at h1 h2;subst h1;subst h2;exact h
 |succ j=>exact hs.2 j a b (by simpa using h1) (by simpa using h2)⟩
abbrev V0:=@ax.cons
theorem ax.pure{fs:List Nat}{xs}[h:aM xs]:ax fs xs xs:=⟨rfl,λj x y h1 h2=>by
 rw[h1]at h2;cases h2;haveI:=h.out j x h1;exact Ren.pure⟩
abbrev VT:=@ax.pure
theorem Ren.mD{fs:List Nat}{f xs ys}(h:ax fs xs ys):Ren fs (.func f xs) (.func f ys):=.func h.1 h.2
def Env.oI(E:Env)(fs:List Nat)(M:Nat->Prop):Env:=⟨fs.length,λi=>E.at_ (fs.getD i 0),M⟩
theorem Ren.rep{E:Env}{w}{fs:List Nat}{M:Nat->Prop}(hM:∀b,M b->E.M b){p q}(h:Ren fs p q):∀v,dj E w v q->dj (E.oI fs M) w v p:=by
 induction h with
 | @pure p hp=>
  intro v h;have:=hp.out E M w v hM h;exact this.goes (E:=EF M) (E':=E.oI fs M) (w:=w) (w':=w) ⟨We _,λi hi=>absurd hi (WL i),λ_ _ h=>h,Vh _,λ_ _ _=>rfl⟩
 |any=>intro v _;exact .any v
 | @own i j d=>
  intro v h;cases h with
  |own _ hi _ h hs=>exact .own i (Vf.1 d).1 v (by simp[Env.oI,Qo,d,h]) hs
 | @ptr i j k d=>
  intro v h;cases h with
  |ptr _ _ b hi h=>exact .ptr i k b (Vf.1 d).1 (by simpa[Env.oI,Qo,d]using h)
 | @agg xs ys hl _ ih=>
  intro v h;cases h with
  |agg cs _ a hr=>exact .agg cs xs (a.trans hl) (λj c u h1 h2=>by
    have hj:j<ys.length:=by rw[hl];exact(Vf.1 h2).1
    exact ih j u ys[j] h2 (by simp[hj]) c (hr j c _ h1 (by simp[hj])))
 | @tuple xs ys hl _ ih=>
  intro v h;cases h with
  |tuple cs _ a hr=>exact .tuple cs xs (a.trans hl) (λj c u h1 h2=>by
    have hj:j<ys.length:=by rw[hl];exact(Vf.1 h2).1
    exact ih j u ys[j] h2 (by simp[hj]) c (hr j c _ h1 (by simp[hj])))
 | @func f xs ys hl _ ih=>
  intro v h;cases h with
  |func _ cs _ a hr=>exact .func f cs xs (a.trans hl) (λj c u h1 h2=>by
    have hj:j<ys.length:=by rw[hl];exact(Vf.1 h2).1
    exact ih j u ys[j] h2 (by simp[hj]) c (hr j c _ h1 (by simp[hj])))
 | @bound f xs ys hl _ ih=>
  intro v h;cases h with
  |bound _ cs _ a hr=>exact .bound f cs xs (a.trans hl) (λj c u h1 h2=>by
    have hj:j<ys.length:=by rw[hl];exact(Vf.1 h2).1
    exact ih j u ys[j] h2 (by simp[hj]) c (hr j c _ h1 (by simp[hj])))
inductive ji (fs:List Nat):cj->cj->Prop
 |cells {ty:TypeId} {xs ys:List PV}:ax fs xs ys->ji fs (.cells ty xs) (.cells ty ys)
 |row {e s n:Nat} {xs ys:List PV}:ax fs xs ys->ji fs (.row e s n xs) (.row e s n ys)
 |eZ {e s n n':Nat} {xs ys:List PV} (hn:n'=n) (h:ys=xs) [aM xs]:ji fs (.row e s n xs) (.row e s n' ys)
 |mp {kv:List (Value×PV)} [aM (kv.map (·.2))]:ji fs (.mp kv) (.mp kv)
 |De {kv kv':List (Value×PV)}:kv'.map (·.1)=kv.map (·.1)->ax fs (kv'.map (·.2)) (kv.map (·.2))->ji fs (.mp kv') (.mp kv)
 |win {e s n n':Nat} {xs ys:List PV} (hn:n'=n):ax fs xs ys->ji fs (.win e s n xs) (.win e s n' ys)
 |Af {e s n n':Nat} {xs ys:List PV} (hn:n'=n):ax fs xs ys->ji fs (.win e s n xs) (.row e s n' ys)
 |mK {kv:List (Value×PV)} {bs:List Nat} {ck:Nat} [aM (kv.map (·.2))]:ji fs (.mK kv bs ck) (.mK kv bs ck)
 |oB {m m' s c:Nat} {seen:Array Nat}:fs[m]? =some m'->ji fs (.oB m s seen c) (.oB m' s seen c)
inductive eV (fs:List Nat) (σ:bH):bH->List Nat->Prop
 |nil:eV fs σ [] []
 |gone {σ':bH} {js:List Nat} {j:Nat}:eV fs σ σ' js->eV fs σ (none::σ') (j::js)
 |kept {σ':bH} {js:List Nat} {j:Nat} {b b':cj}:σ[j]? =some (some b)->ji fs b' b->eV fs σ σ' js->eV fs σ (some b'::σ') (j::js)
theorem eV.get{fs:List Nat}{σ σ':bH}{js:List Nat}(h:eV fs σ σ' js):σ'.length=js.length/\∀(i:Nat) b',σ'[i]? =some (some b')->∃j b,js[i]? =some j/\σ[j]? =some (some b)/\ji fs b' b:=by
 induction h with
 |nil=>exact⟨rfl,λi b' h=>by simp at h⟩
 |gone _ ih=>exact⟨by simp[ih.1],λi b' h=>by
   cases i with
   |zero=>simp at h
   |succ i=>simpa using ih.2 i b' (by simpa using h)⟩
 | @kept σ' js j b b' h1 h2 _ ih=>exact⟨by simp[ih.1],λi a h=>by
   cases i with
   |zero=>simp at h;subst h;exact⟨j,b,rfl,h1,h2⟩
   |succ i=>simpa using ih.2 i a (by simpa using h)⟩
theorem ax.rep{E:Env}{w}{fs:List Nat}{M:Nat->Prop}(hM:∀b,M b->E.M b){xs ys}(h:ax fs xs ys){cs}(hs:bn E w cs ys):bn (E.oI fs M) w cs xs:=
 ⟨hs.1.trans h.1,λj c u h1 h2=>by
  have hj:j<ys.length:=by rw[h.1];exact(Vf.1 h2).1
  exact(h.2 j u ys[j] h2 (by simp[hj])).rep hM c (hs.2 j c _ h1 (by simp[hj]))⟩
def gd:List Nat->Bool
 | []=>true
 |x::l=> !(l.contains x)&&gd l
theorem nK:∀ {l:List Nat},gd l=true->∀(i j:Nat) x,l[i]? =some x->l[j]? =some x->i=j
 | [],_,i,j,x,h1,_=>by simp at h1
 |y::l,h,i,j,x,h1,h2=>by
  simp only[gd,Vx,WG,List.contains_eq_mem,Xm]at h;cases i with
  |zero=>
   cases j with
   |zero=>rfl
   |succ j=>simp at h1 h2;subst h1;exact absurd (VE h2) h.1
  |succ i=>
   cases j with
   |zero=>simp at h1 h2;subst h2;exact absurd (VE h1) h.1
   |succ j=>rw[nK h.2 i j x (by simpa using h1) (by simpa using h2)]
theorem Sat.oI{F:Nat->Prop}{base:Nat}{E:Env}{w σ σ'}{fs:List Nat}(f:Sat F base σ E w)(h:eV fs σ σ' fs)(hn:gd fs=true):
  ∃M,(∀b,M b->E.M b)/\Sat F base σ' (E.oI fs M) w:=by
 obtain⟨hl,hg⟩:=h.get;have c:∀i j,fs[i]? =some j->fs.getD i 0=j:=λi j t=>by simp[Qo,t]
 refine⟨λb=>F b\/∃i blk,σ'[i]? =some (some blk)/\bg (E.at_ (fs.getD i 0))=some b,λb hb=>?_,?_⟩
 ·rcases hb with hb|⟨i,blk,h1,h2⟩
  ·exact(f.mm b).2 (.inl hb)
  ·obtain⟨j,b',e,g,_⟩:=hg i blk h1;rw[c i j e]at h2;exact(f.mm b).2 (.inr ⟨j,b',g,h2⟩)
 ·have hM:∀b,(F b\/∃i blk,σ'[i]? =some (some blk)/\bg (E.at_ (fs.getD i 0))=some b)->E.M b:=λb hb=>by
   rcases hb with hb|⟨i,blk,h1,h2⟩
   ·exact(f.mm b).2 (.inl hb)
   ·obtain⟨j,b',e,g,_⟩:=hg i blk h1;rw[c i j e]at h2;exact(f.mm b).2 (.inr ⟨j,b',g,h2⟩)
  refine⟨f.bl,λb hb=>⟨(f.fb b hb).1,λi blk hi=>?_⟩,by simp[Env.oI,hl],λb=>Iff.rfl,λi blk hi=>?_,λi j bi bj b hi hj h1 h2=>?_,f.gl.sub hM⟩
  ·obtain⟨j,b',e,g,_⟩:=hg i blk hi;simp only[Env.oI,c i j e];exact(f.fb b hb).2 j b' g
  ·obtain⟨j,b',e,g,p⟩:=hg i blk hi;have k:=f.blk j b' g;simp only[Env.oI,c i j e];cases p with
   |cells hr=>
    obtain⟨b,cs,k1,a,l,m⟩:=k;exact⟨b,cs,k1,a,l,hr.rep hM m⟩
   |row hr=>
    obtain⟨cs,k1,a⟩:=k;exact⟨cs,k1,hr.rep hM a⟩
   |eZ d hx=>
    subst d;subst hx;obtain⟨cs,k1,a⟩:=k;exact⟨cs,k1,(VT (fs:=fs)).rep hM a⟩
   |mp=>
    obtain⟨r,o,ck,k1,a,l,m,n⟩:=k;exact⟨r,o,ck,k1,a,l,m,(VT (fs:=fs)).rep hM n⟩
   |De hk hr=>
    obtain⟨r,o,ck,k1,a,l,m,n⟩:=k;exact⟨r,o,ck,k1,a,l,⟨m.1.trans hk.symm,m.2⟩,hr.rep hM n⟩
   |win d hr=>
    subst d;obtain⟨cs,k1,a⟩:=k;exact⟨cs,k1,hr.rep hM a⟩
   |Af d hr=>
    subst d;obtain⟨cs,k1,a⟩:=k;exact⟨cs,k1.win,hr.rep hM a⟩
   |mK=>
    obtain⟨r,o,k1,a,l,m,n,y⟩:=k;exact⟨r,o,k1,a,l,m,n,(VT (fs:=fs)).rep hM y⟩
   |oB hm=>
    obtain⟨r,b',k1,a,l,m,n⟩:=k;exact⟨r,b',k1,a,l,(Vf.1 hm).1,by
     show E.at_ (fs.getD _ 0)=_;rw[Qo,hm];exact n⟩
  ·obtain⟨u,q,e,g,_⟩:=hg i bi hi;obtain⟨v,s,p,x,_⟩:=hg j bj hj;simp only[Env.oI,c i u e]at h1;simp only[Env.oI,c j v p]at h2;have:=f.inj u v q s b g x h1 h2;subst this;exact nK hn i j u e p
inductive oy (fs:List Nat) (t:cd):cd->Prop
 |nil:oy fs t []
 |cons {t':cd} {p p':PV} (k:Nat):look k t=some p->Ren fs p' p->oy fs t t'->oy fs t ((k,p')::t')
theorem oy.get{fs:List Nat}{t t'}(h:oy fs t t'):∀k p',look k t'=some p'->∃p,look k t=some p/\Ren fs p' p:=by
 induction h with
 |nil=>intro k p' h;cases h
 | @cons t' p p' k h1 h2 _ ih=>
  intro j q hj;simp only[look]at hj;rw[VZ]at hj;split at hj
  ·rename_i he;have:=VF he;subst this;cases hj;exact⟨p,h1,h2⟩
  ·exact ih j q hj
def Dd(fs:List Nat):Nat->Bool
 |0=>true
 |k+1=>(match fs[k]? with|some j=>Nat.beq j k|none=>false)&&Dd fs k
theorem rA{fs:List Nat}:∀ {k:Nat},Dd fs k=true->∀i,i<k->fs[i]? =some i
 |0,_,i,hi=>by omega
 |k+1,h,i,hi=>by
  simp only[Dd,Vx]at h;by_cases e:i=k
  ·subst e;obtain⟨h1,_⟩:=h;split at h1
   ·rename_i j hj;rw[hj,VF h1]
   ·cases h1
  ·exact rA h.2 i (by omega)
theorem Aa{F:Nat->Prop}{base:Nat}{E₀ E w₀ w a t t' σ σ'}(fs:List Nat)(hT:oy fs t t')(f:eV fs σ σ' fs)(hn:gd fs=true)(hi:Dd fs L=true)(hc:uw F base L E₀ w₀ E w)(hs:dT F base N ⟨t,σ⟩ E a w):
  ∃E',uw F base L E₀ w₀ E' w/\dT F base N ⟨t',σ'⟩ E' a w:=by
 obtain⟨M,hM,d⟩:=hs.sat.oI f hn;refine⟨_,⟨hc.L,⟨?_,λi c=>?_,λb hb h e=>hc.g.M b hb h (hM b e),hc.g.size,hc.g.heap⟩,hc.b⟩,d,λk p hk=>?_,hs.lO,hs.size⟩
 ·rw[hc.L];have:L<=fs.length:=by
   rcases Xz L with h|h
   ·omega
   ·have:=rA hi (L - 1) (by omega);have:=(Vf.1 this).1;omega
  exact this
 ·have:=rA hi i (by rw[<-hc.L];exact c);have h2:fs.getD i 0=i:=by simp[Qo,this]
  simp only[Env.oI,h2];exact hc.g.at_ i c
 ·obtain⟨q,h1,h2⟩:=hT.get k p hk;exact h2.rep hM _ (hs.tmp k q h1)
theorem dM{c t t' σ σ'}{Q:Exit->St->Prop}(fs:List Nat)(hT:oy fs t t')(b:eV fs σ σ' fs)(hn:gd fs=true)(hi:Dd fs L=true)(h:W P N L c ⟨t',σ'⟩ Q):W P N L c ⟨t,σ⟩ Q:=λF base E₀ w₀ E a w hc hs=>by
 obtain⟨E',h1,h2⟩:=Aa fs hT b hn hi hc hs;exact h F base E₀ w₀ E' a w h1 h2
theorem ft{l t t' σ σ'}{K:St->Prop}(fs:List Nat)(hT:oy fs t t')(b:eV fs σ σ' fs)(hn:gd fs=true)(hi:Dd fs L=true)(h:WR P N L ops l ⟨t',σ'⟩ K):WR P N L ops l ⟨t,σ⟩ K:=λF base E₀ w₀ E a w hc hs=>by
 obtain⟨E',h1,h2⟩:=Aa fs hT b hn hi hc hs;exact h F base E₀ w₀ E' a w h1 h2
end
def Env.push(E:Env)(v:Value):Env:=⟨E.L+1,λi=>if i=E.L then v else E.at_ i,λb=>E.M b\/bg v=some b⟩
def Env.kill(E:Env)(i:Nat):Env:=⟨E.L,E.at_,λb=>E.M b/\bg (E.at_ i)≠some b⟩
section
variable {F:Nat->Prop} {base:Nat} {σ:bH} {E:Env} {w w':World}
theorem sS(hw:∀b,b<w.heap.size->¬E.M b->w'.heap[b]? =w.heap[b]?)(hs:w.heap.size<=w'.heap.size){v}(hv:∀b,bg v=some b->w.heap.size<=b\/E.M b):c8 E w (E.push v) w':=
 ⟨XX _,λi hi=>by simp[Env.push,Nat.ne_of_lt hi],λb hb hM h=>by
  rcases h with h|h
  ·exact hM h
  ·rcases hv b h with a|a
   ·omega
   ·exact hM a,hs,hw⟩
theorem Sat.push(d:Sat F base σ E w)(l:Ext w w'){v blk}(hv:∀b,bg v=some b->w.heap.size<=b)(hb:fV base (E.push v) w' v blk):Sat F base (σ++[some blk]) (E.push v) w'/\c8 E w (E.push v) w':=by
 have g:c8 E w (E.push v) w':=sS (λb h _=>l.block b h) l.size (λb h=>.inl (hv b h));have c:∀i,i<σ.length->(E.push v).at_ i=E.at_ i:=λi hi=>g.at_ i (by rw[d.len];exact hi);have a:(E.push v).at_ σ.length=v:=by simp[Env.push,d.len]
 have split:∀i (b:cj),(σ++[some blk])[i]? =some (some b)->(i<σ.length/\σ[i]? =some (some b))\/(i=σ.length/\b=blk):=λi b h=>by
  by_cases hi:i<σ.length
  ·rw[Vl hi]at h;exact .inl ⟨hi,h⟩
  ·rw[Vq (by omega)]at h;have:i - σ.length=0:=by
    rcases Xz (i - σ.length)with o|o
    ·exact o
    ·rw[V4 (by simp;omega)]at h;cases h
   rw[this]at h;simp at h;exact .inr ⟨by omega,h.symm⟩
 refine⟨⟨VL d.bl l.size,λb k=>⟨VS (d.fb b k).1 l.size,λi bl hi=>?_⟩,by simp[Env.push,d.len],λb=>?_,λi bl hi=>?_,λi j bi bj b hi hj e f=>?_,d.gl.goes g⟩,g⟩
 ·rcases split i bl hi with⟨h1,h2⟩|⟨rfl,_⟩
  ·rw[c i h1];exact(d.fb b k).2 i bl h2
  ·rw[a];intro h;have:=hv b h;have:=(d.fb b k).1;omega
 ·constructor
  ·rintro(h|h)
   ·rcases(d.mm b).1 h with h|⟨i,bl,h1,h2⟩
    ·exact .inl h
    ·have hi:i<σ.length:=(Vf.1 h1).1;exact .inr ⟨i,bl,by rw[Vl hi];exact h1,by rw[c i hi];exact h2⟩
   ·exact .inr ⟨σ.length,blk,by simp,by rw[a];exact h⟩
  ·rintro(h|⟨i,bl,h1,h2⟩)
   ·exact .inl ((d.mm b).2 (.inl h))
   ·rcases split i bl h1 with⟨m,n⟩|⟨rfl,_⟩
    ·rw[c i m]at h2;exact .inl ((d.mm b).2 (.inr ⟨i,bl,n,h2⟩))
    ·rw[a]at h2;exact .inr h2
 ·rcases split i bl hi with⟨h1,h2⟩|⟨rfl,rfl⟩
  ·rw[c i h1];exact(d.blk i bl h2).goes g (λb hb=>l.block b ((d.blk i bl h2).lt hb).2)
  ·rw[a];exact hb
 ·rcases split i bi hi with⟨h1,h2⟩|⟨rfl,rfl⟩<;>rcases split j bj hj with⟨m,n⟩|⟨rfl,rfl⟩
  ·rw[c i h1]at e;rw[c j m]at f;exact d.inj i j bi bj b h2 n e f
  ·rw[c i h1]at e;rw[a]at f;have:=((d.blk i bi h2).lt e).2;have:=hv b f;omega
  ·rw[a]at e;rw[c j m]at f;have:=((d.blk j bj n).lt f).2;have:=hv b e;omega
  ·rfl
theorem kh{i j:Nat}{bl}(h:(σ.set i none)[j]? =some (some bl)):j≠i/\σ[j]? =some (some bl):=by
 rw[VV]at h;split at h
 ·rename_i he;subst he;split at h<;>simp at h
 ·rename_i he;exact⟨Ne.symm he,h⟩
theorem Sat.kill(a:Sat F base σ E w)(i:Nat){bi}(hi:σ[i]? =some (some bi)):Sat F base (σ.set i none) (E.kill i) w/\c8 E w (E.kill i) w:=by
 have g:c8 E w (E.kill i) w:=⟨Vh _,λ_ _=>rfl,λb _ hM h=>hM h.1,Vh _,λ_ _ _=>rfl⟩;refine⟨⟨a.bl,λb hb=>⟨(a.fb b hb).1,λj bl hj=>(a.fb b hb).2 j bl (kh hj).2⟩,by simp[Env.kill,a.len],λb=>?_,λj bl hj=>?_,λj k bj bk b hj hk h1 h2=>a.inj j k bj bk b (kh hj).2 (kh hk).2 h1 h2,a.gl.goes g⟩,g⟩
 ·constructor
  ·rintro⟨h1,h2⟩;rcases(a.mm b).1 h1 with h|⟨j,bl,f,d⟩
   ·exact .inl h
   ·refine .inr ⟨j,bl,?_,d⟩;have c:i≠j:=λe=>by rw[<-e]at d;exact h2 d
    rw[VV,Vk c];exact f
  ·rintro(h|⟨j,bl,h1,h2⟩)
   ·exact⟨(a.mm b).2 (.inl h),(a.fb b h).2 i bi hi⟩
   ·obtain⟨c,f⟩:=kh h1;refine⟨(a.mm b).2 (.inr ⟨j,bl,f,h2⟩),λd=>c (a.inj j i bl bi b f hi h2 d)⟩
 ·exact(a.blk j bl (kh hj).2).goes g (λ_ _=>rfl)
theorem Sat.ta(d:Sat F base σ E w){i b:Nat}{bi bi'}(hi:σ[i]? =some (some bi))(hb:bg (E.at_ i)=some b)(hs:w.heap.size<=w'.heap.size)(ho:∀k,k<w.heap.size->k≠b->w'.heap[k]? =w.heap[k]?)(hn:fV base E w' (E.at_ i) bi'):
  Sat F base (σ.set i (some bi')) E w'/\c8 E w E w':=by
 have n:E.M b:=(d.mm b).2 (.inr ⟨i,bi,hi,hb⟩);have o:i<σ.length:=(Vf.1 hi).1;have g:c8 E w E w':=⟨Vh _,λ_ _=>rfl,λ_ _ h=>h,hs,λk hk hM=>ho k hk (λe=>hM (by rw[e];exact n))⟩;have split:∀j (bl:cj),(σ.set i (some bi'))[j]? =some (some bl)->(j≠i/\σ[j]? =some (some bl))\/(j=i/\bl=bi'):=λj bl h=>by
  rw[VV]at h;split at h
  ·rename_i he;subst he;simp at h;exact .inr ⟨rfl,h.symm⟩
  ·rename_i he;exact .inl ⟨Ne.symm he,h⟩
 have back:∀j (bl:cj),σ[j]? =some (some bl)->∃a,(σ.set i (some bi'))[j]? =some (some a):=λj bl h=>by
  by_cases he:i=j
  ·subst he;exact⟨bi',by rw[VV,Vn rfl,Vn o]⟩
  ·exact⟨bl,by rw[VV,Vk he];exact h⟩
 have fwd:∀j (bl:cj),(σ.set i (some bi'))[j]? =some (some bl)->∃a,σ[j]? =some (some a):=λj bl h=>by
  rcases split j bl h with⟨_,h2⟩|⟨rfl,_⟩
  ·exact⟨bl,h2⟩
  ·exact⟨bi,hi⟩
 refine⟨⟨VL d.bl hs,λk hk=>⟨VS (d.fb k hk).1 hs,λj bl hj=>?_⟩,by simp[d.len],λk=>?_,λj bl hj=>?_,λj k bj bk c hj hk h1 h2=>?_,d.gl.goes g⟩,g⟩
 ·obtain⟨a,f⟩:=fwd j bl hj;exact(d.fb k hk).2 j a f
 ·rw[d.mm k];constructor
  ·rintro(h|⟨j,bl,h1,h2⟩)
   ·exact .inl h
   ·obtain⟨a,f⟩:=back j bl h1;exact .inr ⟨j,a,f,h2⟩
  ·rintro(h|⟨j,bl,h1,h2⟩)
   ·exact .inl h
   ·obtain⟨a,f⟩:=fwd j bl h1;exact .inr ⟨j,a,f,h2⟩
 ·rcases split j bl hj with⟨h1,h2⟩|⟨rfl,rfl⟩
  ·exact(d.blk j bl h2).goes g (λk hk=>ho k ((d.blk j bl h2).lt hk).2 (λe=>h1 (d.inj j i bl bi b h2 hi (by rw[<-e];exact hk) hb)))
  ·exact hn
 ·obtain⟨l,p⟩:=fwd j bj hj;obtain⟨m,q⟩:=fwd k bk hk;exact d.inj j k l m c p q h1 h2
end
section
variable {P:Program} {σ:bH} {t:cd} {o:Oper}
theorem pv{ty}{k:Option Nat}(h:qU P ty=some k)(w:World):(sizeOf ty).run P w= .ok (k.getD 1) w:=by
 unfold qU at h;split at h
 ·rename_i d i hu hi;have hr:(sizeOf ty).run P w= .ok i.size w:=by simp[sizeOf,typeInfo,hi]
  rw[hr];split at h
  ·cases h;rfl
  ·cases h;rfl
  ·split at h
   ·rename_i h1;cases h;simp[h1]
   ·cases h
 ·cases h
def cj.tG:cj->List PV->cj
 | .cells t _,xs=>.cells t xs
 | .row e s n _,xs=>.row e s n xs
 | .mp kv,_=>.mp kv
 | .win e s n xs,_=>.win e s n xs
 | .mK kv bs ck,_=>.mK kv bs ck
 | .oB m s seen c,_=>.oB m s seen c
theorem xP{E w}{cs vs:List Value}{xs ys}(h:bn E w cs xs)(k:bn E w vs ys)(off:Nat):bn E w (cs.take off++vs++cs.drop (off+vs.length)) (over xs off ys):=by
 unfold over;rw[VU,<-k.1];exact(h.take off).append (k.append (h.drop _))
theorem vV{ty}{k:Option Nat}{x y}{i off:Nat}{blk:cj}{ys:List PV}{F:Nat->Prop}{base:Nat}{E}{ρ:Operand->Value}{w}(ho:o.op= .store ty x y)(hk:qU P ty=some k)(hx:aI t x=some (.ptr i off))(h2:bn E w (ρ y).cells.toList ys)(hl:ys.length=k.getD 1)
  (hi:σ[i]? =some (some blk)) (A:off+ys.length<=blk.xs.length) [di ys] (ag:nj ρ) (G:Sat F base σ E w) (hT:eF E w ρ t):
  ∃v w' E',((execOp ρ o).run P w= .ok (.value v) w'\/(v=undef/\(execOp ρ o).run P w= .ok .skip w'))/\Sat F base (σ.set i (some (blk.tG (over blk.xs off ys)))) E' w'/\c8 E w E' w'/\iE F base w w'/\dj E' w' v (.raw undef):=by
 have h1:=aB ag hT hx;generalize hz:ρ x=z at h1;cases h1 with
 |ptr _ _ b ah l=>
  have a:bg (E.at_ i)=some b:=by rcases l with l|⟨n,c,l⟩<;>rw[l]<;>rfl
  have J:E.M b:=(G.mm b).2 (.inr ⟨i,blk,hi,a⟩);have D:=G.blk i blk hi;have Y:=D.lt a;have U:=h2.rN;have ab:(ρ y).cells.size=k.getD 1:=by rw[<-V3,h2.1,hl]
  have go:∀(cur:Array Value) (e:TypeId),w.heap[b]? =some (.cells cur e (0,0))->off+ys.length<=cur.size->
    (execOp ρ o).run P w= .ok .skip (w.setRow b (cur.toList.take off++(ρ y).cells.toList++cur.toList.drop (off+(ρ y).cells.toList.length)).toArray):=λcur e S hle=>by
   have V:=run_storeCells_at P b off e (ρ y).cells.toList 0 cur w S (by rw[Yf,h2.1];exact hle) U;simp only[Yf]at V;have d:(Instr.storeAt ty (.pointer (some ⟨b,off,none⟩)) (ρ y)).run P w= .ok () (w.setRow b (cur.toList.take off++(ρ y).cells.toList++cur.toList.drop (off+(ρ y).cells.toList.length)).toArray):=by
    simp only[Instr.storeAt,Instr.sureAddr,storeVar,Sem.run_bind,Sem.run_pure,Result.andThen_ok,pv hk,ab,ne_eq,not_true_eq_false,Yo];exact V
   simp only[execOp,ho,hz,Sem.run_bind,d,Result.andThen_ok,Sem.run_pure]
  have oq:∀(cs:Array Value) j,j<w.heap.size->j≠b->(w.setRow b cs).heap[j]? =w.heap[j]? :=λcs j _ hj=>setRow_other w b j cs hj;have f:∀cs:Array Value,w.heap.size<=(w.setRow b cs).heap.size:=λcs=>by simp
  have p:∀cs:Array Value,iE F base w (w.setRow b cs):=λcs=>⟨⟨rfl,rfl,rfl,f cs,λj hj=>setRow_other w b j cs (by omega)⟩,λj hj=>setRow_other w b j cs (λe=>(G.fb j hj).2 i blk hi (by rw[e];exact a))⟩;cases blk with
  |cells R xs=>
   obtain⟨b',cs,he,k1,Q,k3⟩:=D;have:b=b':=by rw[he]at a;simp[bg]at a;exact a.symm
   subst this;have T:cs.size=xs.length:=by have:=k3.1;rw[V3]at this;exact this
   have d:=go cs R Q (by rw[T];exact A);have hn:=G.ta (w':=w.setRow b (cs.toList.take off++(ρ y).cells.toList++cs.toList.drop (off+(ρ y).cells.toList.length)).toArray) (bi':=.cells R (over xs off ys)) hi a (f _) (oq _) ⟨b,_,he,k1,setRow_heap w b cs _ R _ Q,by
    have:=xP k3 h2 off;have g:c8 E w E (w.setRow b (cs.toList.take off++(ρ y).cells.toList++cs.toList.drop (off+(ρ y).cells.toList.length)).toArray):=⟨Vh _,λ_ _=>rfl,λ_ _ h=>h,f _,λj hj hM=>oq _ j hj (λe=>hM (by rw[e];exact J))⟩;exact this.goes g⟩
   exact⟨undef,_,E,.inr ⟨rfl,d⟩,hn.1,hn.2,p _,.raw _⟩
  |row e s n xs=>
   obtain⟨cs,k1,Q⟩:=D;obtain⟨B,O⟩:=k1;rcases O with⟨hv,_⟩|⟨g,cap,cur,hv,H,hg,C,K,L,u⟩
   ·rw[hv]at a;cases a
   ·have:b=g:=by rw[hv]at a;simp[bg]at a;exact a.symm
    subst this;have hle:n*s<=cur.size:=by rw[L];exact XD _ C
    have af:xs.length=n*s:=by rw[<-Q.1,B]
    have aa:off+ys.length<=n*s:=by rw[<-af];exact A
    have d:=go cur e hg (by omega);have q:(ρ y).cells.toList.length=ys.length:=h2.1;have ad:(cur.toList.take off++(ρ y).cells.toList++cur.toList.drop (off+(ρ y).cells.toList.length)).take (n*s)=cs.take off++(ρ y).cells.toList++cs.drop (off+(ρ y).cells.toList.length):=by
     rw[<-u,VU,YE,YE,XU,V8,V3];rw[VU,XU,YY];congr 1
     ·congr 1;omega
     ·congr 1
      ·rw[V2 (by rw[q];omega)]
      ·congr 1;rw[q];omega
    have hn:=G.ta (w':=w.setRow b (cur.toList.take off++(ρ y).cells.toList++cur.toList.drop (off+(ρ y).cells.toList.length)).toArray) (bi':=.row e s n (over xs off ys)) hi a (f _) (oq _) ⟨cs.take off++(ρ y).cells.toList++cs.drop (off+(ρ y).cells.toList.length),⟨by
      simp only[Vu,V8,XY,q,B];omega,.inr ⟨b,cap,_,hv,H,setRow_heap w b cur _ e _ hg,C,K,by
      simp only[Xl,Vu,V8,XY,V3,q];omega,ad⟩⟩,by
     have:=xP Q h2 off;have g:c8 E w E (w.setRow b (cur.toList.take off++(ρ y).cells.toList++cur.toList.drop (off+(ρ y).cells.toList.length)).toArray):=⟨Vh _,λ_ _=>rfl,λ_ _ h=>h,f _,λj hj hM=>oq _ j hj (λe=>hM (by rw[e];exact J))⟩;exact this.goes g⟩
    exact⟨undef,_,E,.inr ⟨rfl,d⟩,hn.1,hn.2,p _,.raw _⟩
  |mp kv=>
   obtain⟨r,es,ck,he,_⟩:=D;rcases l with l|⟨n,c,l⟩<;>(rw[l]at he;cases he)
  |win e s n xs=>
   obtain⟨cs,⟨B,O⟩,Q⟩:=D;have X:off+ys.length<=0:=A;have N:(ρ y).cells.toList=[]:=Vy (by rw[h2.1];omega);rcases O with⟨hv,_⟩|⟨g,W,cap,cur,hv,H,hg,C,K,L,u⟩
   ·rw[hv]at a;cases a
   ·have:b=g:=by rw[hv]at a;simp[bg]at a;exact a.symm
    subst this;have d:=go cur e hg (by omega);have M:(cur.toList.take off++(ρ y).cells.toList++cur.toList.drop (off+(ρ y).cells.toList.length)).toArray=cur:=by rw[N];simp
    rw[M]at d;have g':c8 E w E (w.setRow b cur):=⟨Vh _,λ_ _=>rfl,λ_ _ h=>h,f _,λj hj hM=>oq _ j hj (λe=>hM (by rw[e];exact J))⟩;have hn:=G.ta (w':=w.setRow b cur) (bi':=.win e s n xs) hi a (f _) (oq _) ⟨cs,⟨B,.inr ⟨b,W,cap,cur,hv,H,setRow_heap w b cur _ e _ hg,C,K,L,u⟩⟩,Q.goes g'⟩;exact⟨undef,_,E,.inr ⟨rfl,d⟩,hn.1,hn.2,p _,.raw _⟩
  |mK kv bs ck=>
   obtain⟨r,es,he,_⟩:=D;rcases l with l|⟨n,c,l⟩<;>(rw[l]at he;cases he)
  |oB m s seen c=>
   have X:off+ys.length<=0:=A;have N:(ρ y).cells.toList=[]:=Vy (by rw[h2.1];omega);have ae:(ρ y).cells= #[]:=by apply Array.toList_inj.1;exact N
   have Z:k.getD 1=0:=by rw[<-hl];omega
   have d:(execOp ρ o).run P w= .ok .skip w:=by
    simp[execOp,ho,hz,Instr.storeAt,Instr.sureAddr,storeVar,pv hk,Z,ae,storeCells]
   have hn:=G.ta (w':=w) (bi':=.oB m s seen c) hi a (Vh _) (λ_ _ _=>rfl) D;exact⟨undef,w,E,.inr ⟨rfl,d⟩,hn.1,hn.2,Yh _ _ _,.raw _⟩
theorem jr{ty}{k:Option Nat}{x y}{i off:Nat}{p}{blk:cj}{ys:List PV}(ho:o.op= .store ty x y)(hk:qU P ty=some k)(hx:aI t x=some (.ptr i off))(hy:aI t y=some p)(hc:nx p=some ys)(hl:ys.length=k.getD 1)
  (hi:σ[i]? =some (some blk)) (a:off+ys.length<=blk.xs.length) [di ys]:de P σ t o (.raw undef) (σ.set i (some (blk.tG (over blk.xs off ys)))):=by
 intro F base E ρ w b c hT;exact vV ho hk hx (ny (aB b hT hy) hc) hl hi a b c hT
theorem eh{ty x y}{i off:Nat}{p}{blk:cj}(ho:o.op= .store ty x y)(hk:qU P ty=some none)(hx:aI t x=some (.ptr i off))(hy:aI t y=some p)(hi:σ[i]? =some (some blk))(d:off<blk.xs.length)[b:gN p]:de P σ t o (.raw undef) (σ.set i (some (blk.tG (over blk.xs off [p])))):=by
 intro F base E ρ w c e hT;have hv:=aB c hT hy;have h1:=b.out E w _ hv;have a:(ρ y).cells= #[ρ y]:=by
  generalize ρ y=v at h1;cases v<;>first|rfl|cases h1
 have h2:bn E w (ρ y).cells.toList [p]:=by rw[a];exact XP hv (Yn E w)
 exact vV ho hk hx (ys:=[p]) h2 rfl hi (by simp;omega) c e hT
theorem tj{F:Nat->Prop}{base:Nat}{E:Env}{w:World}(a:Sat F base σ E w)(ty:TypeId)(cs:Array Value){xs}(h:bn E w cs.toList xs):Sat F base (σ++[some (.cells ty xs)]) (E.push (.pointer (some ⟨w.heap.size,0,none⟩))) (w.alloc (.cells cs ty))/\c8 E w (E.push (.pointer (some ⟨w.heap.size,0,none⟩))) (w.alloc (.cells cs ty))/\iE F base w (w.alloc (.cells cs ty))/\
  dj (E.push (.pointer (some ⟨w.heap.size,0,none⟩))) (w.alloc (.cells cs ty)) (.pointer (some ⟨w.heap.size,0,none⟩)) (.ptr σ.length 0):=by
 have c:Ext w (w.alloc (.cells cs ty)):=(XH w).alloc _;have g:=sS (E:=E) (w:=w) (w':=w.alloc (.cells cs ty)) (λb h _=>c.block b h) c.size (v:=.pointer (some ⟨w.heap.size,0,none⟩)) (λb h=>by simp[bg]at h;exact .inl (by omega));have hp:=a.push c (v:=.pointer (some ⟨w.heap.size,0,none⟩)) (blk:=.cells ty xs) (λb h=>by simp[bg]at h;omega) ⟨w.heap.size,cs,rfl,a.bl,heap_alloc_new w _,h.goes g⟩;refine⟨hp.1,hp.2,Zz c a,.ptr σ.length 0 w.heap.size (by simp[Env.push,a.len]) (.inl ?_)⟩;simp[Env.push,a.len]
theorem dv{ty x p xs}(ho:o.op= .box ty x)(hx:aI t x=some p)(hc:nx p=some xs):de P σ t o (.ptr σ.length 0) (σ++[some (.cells ty xs)]):=by
 intro F base E ρ w a c hT;have h:=ny (aB a hT hx) hc;have hr:(execOp ρ o).run P w= .ok (.value (.pointer (some ⟨w.heap.size,0,none⟩))) (w.alloc (.cells (ρ x).cells ty)):=by
  simp[execOp,ho,Instr.box,newVar,newRow]
 obtain⟨b,a2,a3,a4⟩:=tj c ty _ h;exact⟨_,_,_,.inl hr,b,a2,a3,a4⟩
def Gi(P:Program)(ty:TypeId):Option (List Value):=
 match P.info? ty with
 |some i=>match i.zero with
  |some z=>some z.cells.toList
  |none=>none
 |none=>none
theorem LC{E w}(cs:List Value):bn E w cs (cs.map .raw):=⟨by simp,λi x u k1 a=>by
 simp only[Vt,Vr]at a;obtain⟨y,hy,rfl⟩:=a;rw[hy]at k1;cases k1;exact .raw _⟩
theorem nE{ty}{z:List Value}(ho:o.op= .alloc ty)(a:Gi P ty=some z):de P σ t o (.ptr σ.length 0) (σ++[some (.cells ty (z.map .raw))]):=by
 intro F base E ρ w f e hT;unfold Gi at a;split at a
 ·rename_i i hi;split at a
  ·rename_i c b;cases a;have hr:(execOp ρ o).run P w= .ok (.value (.pointer (some ⟨w.heap.size,0,none⟩))) (w.alloc (.cells c.cells ty)):=by
    simp[execOp,ho,Instr.alloc,zeroValue,typeInfo,hi,b,newVar,newRow]
   obtain⟨d,a2,a3,a4⟩:=tj e ty c.cells (LC (E:=E) (w:=w) c.cells.toList);exact⟨_,_,_,.inl hr,d,a2,a3,a4⟩
  ·cases a
 ·cases a
theorem rD{F:Nat->Prop}{base:Nat}{E:Env}{w w':World}(c:Sat F base σ E w)(a:Ext w w'){e s n:Nat}{v cs xs}(hv:∀b,bg v=some b->w.heap.size<=b)(ho:w'.ownsRow base e s v n cs)(d:bn E w cs xs):
  Sat F base (σ++[some (.row e s n xs)]) (E.push v) w'/\c8 E w (E.push v) w'/\iE F base w w'/\dj (E.push v) w' v (.own σ.length):=by
 have g:=sS (E:=E) (w:=w) (w':=w') (λb h _=>a.block b h) a.size (v:=v) (λb h=>.inl (hv b h));have hp:=c.push a (v:=v) (blk:=.row e s n xs) hv ⟨cs,ho,d.goes g⟩;refine⟨hp.1,hp.2,Zz a c,.own σ.length (by simp[Env.push,c.len]) v (by simp[Env.push,c.len]) ?_⟩;rcases ho.2 with⟨rfl,_⟩|⟨f,cap,cur,rfl,_⟩<;>rfl
def Ae(P:Program)(ty:TypeId):Option (TypeId×Nat×Nat×List Value):=
 match P.underlying ty with
 |some (.slice e)=>match P.info? e with
  |some i=>match i.zero with
   |some z=>if z.cells.size=i.size/\0<i.size then some (e,i.size,i.bytes,z.cells.toList) else none
   |none=>none
  |none=>none
 |_=>none
theorem pU{ty e s a:Nat}{z}(h:Ae P ty=some (e,s,a,z)):P.underlying ty=some (.slice e)/\∃i b,P.info? e=some i/\i.size=s/\i.bytes=a/\i.zero=some b/\b.cells.toList=z/\b.cells.size=s/\0<s:=by
 unfold Ae at h;split at h
 ·rename_i d hu;split at h
  ·rename_i i hi;split at h
   ·rename_i b c;split at h
    ·rename_i hc;cases h;exact⟨hu,i,b,hi,rfl,rfl,c,rfl,hc.1,hc.2⟩
    ·cases h
   ·cases h
  ·cases h
 ·cases h
theorem eJ{ty e s a:Nat}{z:List Value}{l c}{n:Nat}{li ci:Int}{k B}(ho:o.op= .makeSlice ty l c)(hk:Ae P ty=some (e,s,a,z))(hl:aI t l=some (.raw (.int k li)))(hc:aI t c=some (.raw (.int B ci)))(p:li=(n:Int))(m:ci=(n:Int))(hn:n<=maxLen/\a*n<=281474976710656):
  de P σ t o (.own σ.length) (σ++[some (.row e s n (fN (z.map .raw) n))]):=by
 intro F base E ρ w g y hT;have h1:=aB g hT hl;have h2:=aB g hT hc;generalize q:ρ l=v1 at h1;generalize r:ρ c=v2 at h2;cases h1;cases h2;subst p;subst m;obtain⟨hu,i,x,hi,hs,j,G,v,u,A⟩:=pU hk;obtain⟨w',f,d,hg⟩:=run_make_full (P:=P) w base ty e i x s hu hi G hs k B n (by rw[j];exact hn.2) hn.1 y.bl;have hr:(execOp ρ o).run P w= .ok (.value (.slice (some ⟨w.heap.size,0,none⟩) n n)) w':=by
  simp only[execOp,ho,q,r,Sem.run_bind,f,Result.andThen_ok,Sem.run_pure]
 have D:bn E w (madeCells x.cells (n*s)).toList (fN (z.map .raw) n):=by
  rw[<-v];exact p6 x.cells n (n*s) (by rw[u])
 obtain⟨C,a2,a3,a4⟩:=rD y (zj hg) (λb h=>by simp[bg]at h;omega) d D;exact⟨_,_,_,.inl hr,C,a2,a3,a4⟩
theorem Lm(xs:List PV)(off:Nat)(ys:List PV)(h:off+ys.length<=xs.length):(over xs off ys).length=xs.length:=by
 simp[over];omega
theorem xi{place:Nat->Option (Nat×Nat)}:∀ {ps:List (Nat×List PV)} {xs ys:List PV},mC place xs ps=some ys->ys.length=xs.length
 | [],xs,ys,h=>by simp only[mC,WE]at h;rw[h]
 |(i,q)::ps,xs,ys,h=>by
  simp only[mC]at h;split at h
  ·cases h
  ·rename_i off size a;rw[VZ]at h;split at h
   ·rename_i hc;simp only[Vx,Nat.beq_eq,Xu]at hc;rw[xi h,Lm _ _ _ (by omega)]
   ·cases h
theorem nG{ty e s n:Nat}{parts:Array (Nat×Operand)}{z:List Value}{ps:List (Nat×List PV)}{xs}(ho:o.op= .buildSlice ty n parts)(hk:Qf P ty=some (e,s,z))(hn:0<n/\n*s<=16777216)(hp:j7 t parts.toList=some ps)
  (u:mC (λi=>some (i*s,s)) (fN (z.map .raw) n) ps=some xs):de P σ t o (.own σ.length) (σ++[some (.row e s n xs)]):=by
 intro F base E ρ w m r hT;obtain⟨h1,h2⟩:=mA m hT parts.toList ps hp;obtain⟨hu,i,j,hi,hs,B,g,f,a⟩:=r9 hk;have l:j.cells.size=s:=by rw[<-f,<-g];simp
 have k:bn E w ((Array.range (n*s)).map (j.cells[· % j.cells.size]!)).toList (fN (z.map .raw) n):=by
  rw[<-g];exact p6 j.cells n (n*s) (by rw[l])
 obtain⟨cs,hc,q⟩:=oV (λi=>some (i*s,s)) _ ps _ _ xs k h1 h2 u;have A:0<n*s:=Nat.mul_pos hn.1 a;have d:=run_buildSlice (P:=P) w ty e n (parts.map fun(i,x)=>(i,ρ x)) cs i j hu hi B (by rw[hs];omega) (by rw[hs];omega) (by rw[hs,XE];simpa using hc);have hr:(execOp ρ o).run P w= .ok (.value (.slice (some ⟨w.heap.size,0,none⟩) n n)) (w.alloc (.cells cs e)):=by
  simp only[execOp,ho,Sem.run_bind,d,Result.andThen_ok,Sem.run_pure]
 have hle:n<=n*s:=Nat.le_mul_of_pos_right n a;have c:cs.size=n*s:=by
  have p:=q.1;have y:=xi u;rw[V3]at p;rw[p,y,tg];simp[f]
 obtain⟨v,a2,a3,a4⟩:=rD r ((XH w).alloc (.cells cs e)) (λb h=>by simp[bg]at h;omega) (World.ownsRow_lit (base:=base) (e:=e) (size:=s) w cs n r.bl (by unfold maxLen;omega) c) q;exact⟨_,_,_,.inl hr,v,a2,a3,a4⟩
end
section
variable {P:Program} {σ:bH} {t:cd} {o:Oper}
theorem mT{w:World}(base:Nat)(t ty e:TypeId)(i:TypeInfo)(z:Value)(size bytes:Nat)(x:P.underlying t=some (.slice e))(hi:P.info? e=some i)(D:i.zero=some z)
  (l:i.size=size) (r:i.bytes=bytes) (E:z.cells.size=size) (B:0<size)
  (v:Value) (n:Nat) (xs:List Value) (h:w.ownsRow base e size v n xs)
  (a:Addr) (m c:Nat) (news:List Value) (hl:news.length=m*size) (d:∀(j:Nat) u,news[j]? =some u->w.cell? (a.add j)=some u) (h1:∀u∈news,u.oneCell'=true)
  (q:n+m<=maxLen) (b:(n+m)*bytes<=140737488355328) (p:base<=w.heap.size):
  ∃v' w',(Builtin.append_ #[t,t] ty #[v,.slice (some a) m c]).run P w= .ok v' w'/\w'.ownsRow base e size v' (n+m) (xs++news)/\w.grownBy w' v.ownBlock/\(v'.ownBlock=v.ownBlock\/v'.ownBlock=some w.heap.size):=by
 obtain⟨v',w',hr,h2,H,_⟩:=run_append_own (P:=P) w base t ty e i z size bytes x hi D l r E B v n xs h a m c news hl d h1 q b p;refine⟨v',w',hr,h2,H,?_⟩;subst l;subst r;have y:n+m<=9223372036854775807:=by simp only[maxLen]at q;omega
 rcases h.2 with⟨rfl,rfl⟩|⟨g,cap,cur,rfl,J,hg,L,K,A,C⟩
 ·by_cases hm:m=0
  ·subst hm;rcases h2.2 with⟨rfl,_⟩|⟨M,F,G,rfl,k1,N,_⟩
   ·exact .inl rfl
   ·have hn:news=[]:=Vy (by simpa using hl);subst hn;have f:(Builtin.append_ #[t,t] ty #[.slice none 0 0,.slice (some a) 0 c]).run P w= .ok (.slice none 0 0) w:=by
     simp[Builtin.append_,run_underlying x,sizeOf,typeInfo,hi,Builtin.lenOf,Builtin.firstCells,loadCells,loadCellsFrom]
    rw[f]at hr;cases hr
  ·have f:=run_append_nil (P:=P) w t ty e i z x hi D a m c news hl d (by omega) (by omega) (by have hb:=b;simp only[Ws]at hb;omega);rw[f]at hr;cases hr;exact .inr rfl
 ·by_cases k:n+m<=cap
  ·have s:n*i.size+news.length<=cur.size:=by rw[hl,A,<-Zq];exact XD _ k
   have f:=run_append_room (P:=P) w t ty e i x hi g n cap cur hg a m c news hl d h1 k s;rw[f]at hr;cases hr;exact .inl rfl
  ·have holds:∀(j:Nat) u,xs[j]? =some u->w.cell? ((⟨g,0,none⟩:Addr).add j)=some u:=h.cells (g:=g) I;have f:=run_append_grow (P:=P) w t ty e i z x hi D ⟨g,0,none⟩ n cap xs h.1 holds a m c news hl d (by omega) (by omega) (growslice_fits (by omega) b);rw[f]at hr;cases hr;exact .inr rfl
theorem Sat.swap{F:Nat->Prop}{base:Nat}{E:Env}{w w':World}(a:Sat F base σ E w){i:Nat}{bi blk}(hi:σ[i]? =some (some bi)){v}(hs:w.heap.size<=w'.heap.size)(ho:∀k,k<w.heap.size->bg (E.at_ i)≠some k->w'.heap[k]? =w.heap[k]?)
  (hv:∀b,bg v=some b->bg (E.at_ i)=some b\/w.heap.size<=b) (hb:∀E',c8 E w E' w'->fV base E' w' v blk):
  Sat F base (σ.set i none++[some blk]) ((E.kill i).push v) w'/\c8 E w ((E.kill i).push v) w':=by
 have s:∀b,bg (E.at_ i)=some b->E.M b:=λb h=>(a.mm b).2 (.inr ⟨i,bi,hi,h⟩);obtain⟨C,B⟩:=a.kill i hi;have g:c8 E w ((E.kill i).push v) w':=by
  refine⟨XX _,λj hj=>by simp[Env.push,Env.kill,Nat.ne_of_lt hj],λb hb hM h=>?_,hs,λb hb hM=>ho b hb (λe=>hM (s b e))⟩;rcases h with h|h
  ·exact hM h.1
  ·rcases hv b h with m|m
   ·exact hM (s b m)
   ·omega
 have f:(σ.set i none).length=σ.length:=by simp
 have d:∀j,j<σ.length->((E.kill i).push v).at_ j=E.at_ j:=λj hj=>g.at_ j (by rw[a.len];exact hj);have c:((E.kill i).push v).at_ σ.length=v:=by simp[Env.push,Env.kill,a.len]
 have split:∀j (b:cj),(σ.set i none++[some blk])[j]? =some (some b)->(j<σ.length/\j≠i/\σ[j]? =some (some b))\/(j=σ.length/\b=blk):=λj b h=>by
  by_cases hj:j<σ.length
  ·rw[Vl (by rw[f];exact hj)]at h;obtain⟨h1,h2⟩:=kh h;exact .inl ⟨hj,h1,h2⟩
  ·rw[Vq (by rw[f];omega),f]at h;have:j - σ.length=0:=by
    rcases Xz (j - σ.length)with m|m
    ·exact m
    ·rw[V4 (by simp;omega)]at h;cases h
   rw[this]at h;simp at h;exact .inr ⟨by omega,h.symm⟩
 have q:∀j (b:cj) k,σ[j]? =some (some b)->j≠i->bg (E.at_ j)=some k->bg (E.at_ i)≠some k:=λj b k h1 h2 n r=>h2 (a.inj j i b bi k h1 hi n r);have l:∀j (b:cj) k,σ[j]? =some (some b)->j≠i->bg (E.at_ j)=some k->bg v≠some k:=λj b k h1 h2 n r=>by
  rcases hv k r with m|m
  ·exact q j b k h1 h2 n m
  ·have:=((a.blk j b h1).lt n).2;omega
 refine⟨⟨VL a.bl hs,λb p=>⟨VS (a.fb b p).1 hs,λj bl hj=>?_⟩,by simp[Env.push,Env.kill,a.len],λb=>?_,λj bl hj=>?_,λj k bj bk b hj hk h1 h2=>?_,a.gl.goes g⟩,g⟩
 ·rcases split j bl hj with⟨h1,h2,n⟩|⟨rfl,_⟩
  ·rw[d j h1];exact(a.fb b p).2 j bl n
  ·rw[c];intro h;rcases hv b h with m|m
   ·exact(a.fb b p).2 i bi hi m
   ·have:=(a.fb b p).1;omega
 ·constructor
  ·rintro(h|h)
   ·rcases(a.mm b).1 h.1 with m|⟨j,bl,h1,h2⟩
    ·exact .inl m
    ·have hj:j<σ.length:=(Vf.1 h1).1;have u:i≠j:=λe=>by rw[<-e]at h2;exact h.2 h2
     exact .inr ⟨j,bl,by rw[Vl (by rw[f];exact hj),VV,Vk u];exact h1,by rw[d j hj];exact h2⟩
   ·exact .inr ⟨σ.length,blk,by rw[Vq (by rw[f];exact Vh _)];simp,by rw[c];exact h⟩
  ·rintro(h|⟨j,bl,h1,h2⟩)
   ·exact .inl ⟨(a.mm b).2 (.inl h),(a.fb b h).2 i bi hi⟩
   ·rcases split j bl h1 with⟨n,r,z⟩|⟨rfl,_⟩
    ·rw[d j n]at h2;exact .inl ⟨(a.mm b).2 (.inr ⟨j,bl,z,h2⟩),q j bl b z r h2⟩
    ·rw[c]at h2;exact .inr h2
 ·rcases split j bl hj with⟨h1,h2,n⟩|⟨rfl,rfl⟩
  ·rw[d j h1];exact(a.blk j bl n).goes g (λb hb=>ho b ((a.blk j bl n).lt hb).2 (q j bl b n h2 hb))
  ·rw[c];exact hb _ g
 ·rcases split j bj hj with⟨x,a2,a3⟩|⟨rfl,rfl⟩<;>rcases split k bk hk with⟨c1,A,y⟩|⟨rfl,rfl⟩
  ·rw[d j x]at h1;rw[d k c1]at h2;exact a.inj j k bj bk b a3 y h1 h2
  ·rw[d j x]at h1;rw[c]at h2;exact absurd h2 (l j bj b a3 a2 h1)
  ·rw[c]at h1;rw[d k c1]at h2;exact absurd h1 (l k bk b y A h2)
  ·rfl
theorem pj{E}{w:World}{v}{m:Nat}{ys}(h:dj E w v (.slice m ys)):(v= .slice none 0 0/\m=0/\ys=[])\/∃(a:Addr) (c:Nat) (news:List Value),v= .slice (some a) m c/\(∀(j:Nat) u,news[j]? =some u->w.cell? (a.add j)=some u)/\bn E w news ys:=by
 cases h with
 |cg=>exact .inl ⟨rfl,rfl,rfl⟩
 |empty a c h=>exact .inr ⟨a,c,[],rfl,λj u hu=>by simp at hu,Yn E w⟩
 |slice b off _ c cs _ h0 h1 h2 hb hM hc hl hr=>exact .inr ⟨_,_,cs,rfl,λj u hu=>by rw[Addr.add_lit];exact hc j u hu,hl,hr⟩
theorem AO{ty e s r n m i:Nat}{z:List Value}{xs ys:List PV}{x y:Operand}{p:PV}(ho:o.op= .call {callee:=.builtin .append,args:= #[x,y],argTypes:= #[ty,ty]})(hk:Ae P ty=some (e,s,r,z))(hx:aI t x=some (.own i))(hi:σ[i]? =some (some (.row e s n xs)))
  (hy:aI t y=some p) (O:∀F base E w v,Sat F base σ E w->dj E w v p->(v= .slice none 0 0/\m=0/\ys=[])\/∃(a:Addr) (c:Nat) (news:List Value),v= .slice (some a) m c/\(∀(j:Nat) u,news[j]? =some u->w.cell? (a.add j)=some u)/\bn E w news ys) (hl:ys.length=m*s) (hn:n+m<=maxLen/\(n+m)*r<=140737488355328) [di ys]:
  de P σ t o (.own σ.length) (σ.set i none++[some (.row e s (n+m) (xs++ys))]):=by
 intro F base E ρ w H l hT;have h1:=aB H hT hx;have h2:=O F base E w (ρ y) l (aB H hT hy);generalize D:ρ x=v at h1;generalize G:ρ y=u at h2;obtain⟨hu,inf,z',q,hs,K,U,V,Q,C⟩:=pU hk;cases h1 with
 |own _ T _ B R=>
  obtain⟨cs,k1,W⟩:=l.blk i _ hi;rw[B]at k1;have A:bg (E.at_ i)=v.ownBlock:=by rw[B];exact kN k1
  have key:∀v' w',(execOp ρ o).run P w= .ok (.value v') w'->∀news,bn E w news ys->w'.ownsRow base e s v' (n+m) (cs++news)->w.grownBy w' v.ownBlock->(v'.ownBlock=v.ownBlock\/v'.ownBlock=some w.heap.size)->
    ∃v w' E',((execOp ρ o).run P w= .ok (.value v) w'\/(v=undef/\(execOp ρ o).run P w= .ok .skip w'))/\Sat F base (σ.set i none++[some (.row e s (n+m) (xs++ys))]) E' w'/\c8 E w E' w'/\iE F base w w'/\dj E' w' v (.own σ.length):=by
   intro v' w' hr news M d hg hw;have N:∀b,bg v'=some b->bg (E.at_ i)=some b\/w.heap.size<=b:=λb hb=>by
    rw[kN d]at hb;rcases hw with h|h
    ·rw[A,<-h];exact .inl hb
    ·rw[h]at hb;cases hb;exact .inr (Vh _)
   obtain⟨S,a2⟩:=l.swap (w':=w') (blk:=.row e s (n+m) (xs++ys)) hi hg.size (λk hk L=>hg.block k hk (by rw[<-A];exact Ne.symm L)) N (λE' g=>⟨cs++news,d,(W.append M).goes g⟩);refine⟨v',w',_,.inl hr,S,a2,⟨⟨hg.os,hg.tape,hg.output,hg.size,λk hk=>hg.block k (VS hk l.bl) (λe=>?_)⟩,λk hk=>hg.block k (l.fb k hk).1 (λe=>(l.fb k hk).2 i _ hi (A.trans e.symm))⟩,.own σ.length (by simp[Env.push,Env.kill,l.len]) v' (by simp[Env.push,Env.kill,l.len]) ?_⟩
   ·have:=(k1.lt k e.symm).1;omega
   ·rcases d.2 with⟨rfl,_⟩|⟨g',cap,cur,rfl,_⟩<;>rfl
  rcases h2 with⟨rfl,rfl,rfl⟩|⟨a,c,news,rfl,hc,J⟩
  ·have f:=run_append_owned_none (P:=P) (w:=w) base ty o.type e inf s hu q v n cs k1;have hr:(execOp ρ o).run P w= .ok (.value v) w:=by
    simp[execOp,ho,resolve,invoke,builtin,D,G,f]
   exact key v w hr [] (Yn _ _) (by simpa using k1) ⟨rfl,rfl,rfl,Vh _,λ_ _ _=>rfl⟩ (.inl rfl)
  ·obtain⟨v',w',f,X,Y,Z⟩:=mT (P:=P) (w:=w) base ty o.type e inf z' s r hu q U hs K Q C v n cs k1 a m c news (by rw[J.1,hl]) hc J.rN hn.1 hn.2 l.bl;have hr:(execOp ρ o).run P w= .ok (.value v') w':=by
    simp only[execOp,ho,resolve,invoke,builtin,Sem.run_bind,Sem.run_pure,Result.andThen_ok,XF,VX,Xw,D,G,f]
   exact key v' w' hr news J X Y Z
theorem bP{ty e s a n m i:Nat}{z:List Value}{xs ys:List PV}{x y:Operand}(ho:o.op= .call {callee:=.builtin .append,args:= #[x,y],argTypes:= #[ty,ty]})(hk:Ae P ty=some (e,s,a,z))(hx:aI t x=some (.own i))(hi:σ[i]? =some (some (.row e s n xs)))
  (hy:aI t y=some (.slice m ys)) (hl:ys.length=m*s) (hn:n+m<=maxLen/\(n+m)*a<=140737488355328) [di ys]:
  de P σ t o (.own σ.length) (σ.set i none++[some (.row e s (n+m) (xs++ys))]):=by
 exact AO ho hk hx hi hy (λF base E w v _ hv=>pj hv) hl hn
section
variable {N L:Nat} {ops:Array Oper}
theorem Jn{F:Nat->Prop}{base:Nat}{E:Env}{w}(c:Sat F base σ E w)(e s:Nat):Sat F base (σ++[some (.row e s 0 [])]) (E.push (.slice none 0 0)) w/\c8 E w (E.push (.slice none 0 0)) w/\dj (E.push (.slice none 0 0)) w (.slice none 0 0) (.own σ.length):=by
 obtain⟨a,a2,_,a4⟩:=rD c (XH w) (e:=e) (s:=s) (n:=0) (v:=.slice none 0 0) (cs:=[]) (xs:=[]) (λb h=>by cases h) (World.ownsRow_nil w base e s) (Yn E w);exact⟨a,a2,a4⟩
theorem eF.OX{E w}{ρ:Operand->Value}{t}(h:eF E w ρ t){k:Nat}{p}(hv:dj E w (ρ (.tmp k)) p):eF E w ρ ((k,p)::t):=λj q hj=>by
 simp only[look]at hj;rw[VZ]at hj;split at hj
 ·rename_i he;have:=VF he;subst this;cases hj;exact hv
 ·exact h j q hj
theorem fe{c}{Q:Exit->St->Prop}(k e s:Nat)(hk:look k t=some (.raw (.slice none 0 0)))(h:W P N L c ⟨(k,.own σ.length)::t,σ++[some (.row e s 0 [])]⟩ Q):W P N L c ⟨t,σ⟩ Q:=λF base E₀ w₀ E a w hc hs=>by
 obtain⟨b,a2,a3⟩:=Jn hs.sat e s;have h1:=hs.tmp k _ hk;generalize d:a.eval (.tmp k)=z at h1;cases h1;exact h F base E₀ w₀ _ a w (hc.on a2 (Yh _ _ _)) ⟨b,(hs.tmp.goes a2).OX (by rw[d];exact a3),hs.lO,hs.size⟩
def jx(t:cd):List Nat->cd
 | []=>[]
 |k::ks=>match look k t with
  |some p=>(k,p)::jx t ks
  |none=>jx t ks
theorem kM:∀(ks:List Nat) (k:Nat) (p:PV),look k (jx t ks)=some p->k∈ks/\look k t=some p
 | [],k,p,h=>by cases h
 |j::ks,k,p,h=>by
  simp only[jx]at h;split at h
  ·rename_i q a;simp only[look]at h;rw[VZ]at h;split at h
   ·rename_i he;have:=VF he;subst this;cases h;exact⟨VC ..,a⟩
   ·obtain⟨h1,h2⟩:=kM ks k p h;exact⟨VB _ h1,h2⟩
  ·obtain⟨h1,h2⟩:=kM ks k p h;exact⟨VB _ h1,h2⟩
inductive eP (P:Program) (N:Nat) (ops:Array Oper) (σ:bH):List Oper->cd->cd->Prop
 |nil {t t':cd}:Sub t t'->eP P N ops σ [] t t'
 |val {o:Oper} {rest:List Oper} {t t':cd} {d:Nat} {p:PV} (ks:List Nat):(ks.all λk=>(o.looksAt ops).contains k)=true->bE P σ (jx t ks) o p->o.dst=some d->eL ops t o=some true->Nat.blt d N=true->eP P N ops σ rest ((d,p)::t) t'->eP P N ops σ (o::rest) t t'
 |skip {o:Oper} {rest:List Oper} {t t':cd} {d:Nat}:o.dst=some d->eL ops t o=some false->Nat.blt d N=true->eP P N ops σ rest ((d,.raw undef)::t) t'->eP P N ops σ (o::rest) t t'
theorem py{E w}{ρ:Operand->Value}{b}(hT:∀k∈o.looksAt ops,∀p,look k t=some p->dj E w (ρ (.tmp k)) p)(h:eL ops t o=some b):nV ops o ρ=b:=by
 unfold eL at h;unfold nV;split at h
 ·rename_i hg;(try rw[hg]);cases h;rfl
 ·rename_i j want hg
  (try rw[hg])
  (try simp only)
  split at h
  ·rename_i k hk
   (try simp only[hk])
   split at h
   ·rename_i b' hb;have:=hT k (by simp[Oper.looksAt,hg,hk]) _ hb;generalize ρ (.tmp k)=z at this;cases this;split at h
    ·rename_i c a;cases h;simp[a]
    ·rename_i a;cases h;simp[a]
   ·cases h
  ·cases h
def uD(E:Env)(w:World)(α:Tmp->dX)(t:cd):Prop:=∀k p,look k t=some p->∀v w',Ext w w'->α k v w'->dj E w' v p
theorem uD.put{E w}{α:Tmp->dX}{d:Nat}{p}(h:uD E w α t):uD E w (jh α (some d) (λv w'=>dj E w' v p)) ((d,p)::t):=by
 intro k q hk v w' c hv;simp only[look]at hk;rw[VZ]at hk;split at hk
 ·rename_i he;have:=VF he;subst this;cases hk;rw[lG]at hv;exact hv
 ·rename_i he;have a:k≠d:=λe=>he (by rw[e];exact Yg d);rw[kA _ _ _ _ (λe b=>by cases b;exact a)]at hv;exact h k q hk v w' c hv
theorem eP.abs{F:Nat->Prop}{base:Nat}{E w}{C:World->Prop}(hC:∀w',C w'->Ext w w'/\Sat F base σ E w'){l t t'}(h:eP P N ops σ l t t'){G:(Tmp->dX)->Prop}(j:∀β,uD E w β t'->G β):
  ∀α,uD E w α t->tP P ops C G l α:=by
 induction h with
 |nil hs=>
  intro α b;refine j α λk p hk v w' f hv=>?_;obtain⟨q,h1,h2⟩:=hs k p hk;exact h2 E w' v (b k q h1 v w' f hv)
 | @val o rest t t' d p ks hks hy hd hw hN _ ih=>
  intro α b;refine⟨λv w'=>dj E w' v p,⟨λv a i f hv=>hv.ext f,λρ a g e hs=>?_⟩,by rw[hd];exact ih j _ b.put⟩;obtain⟨f,m⟩:=hC a e;have c:=py (ρ:=ρ) (E:=E) (w:=a) (λk hk p hp=>b k p hp _ a f (hs k hk)) hw;unfold yQ;rw[c,Vn rfl];refine hy F base E ρ a g m λk q hk=>?_;obtain⟨h1,h2⟩:=kM ks k q hk;refine b k q h2 _ a f (hs k ?_);have:=VG.1 hks k h1;simpa using this
 | @skip o rest t t' d hd hw hN _ ih=>
  intro α b;refine⟨λv w'=>dj E w' v (.raw undef),⟨λv a i f hv=>hv.ext f,λρ a g e hs=>?_⟩,by rw[hd];exact ih j _ b.put⟩;obtain⟨f,m⟩:=hC a e;have c:=py (ρ:=ρ) (E:=E) (w:=a) (λk hk p hp=>b k p hp _ a f (hs k hk)) hw;unfold yQ;rw[c,Vk Bool.false_ne_true];exact .raw _
theorem yy{α:Tmp->dX}{w}{k:Array Value->Prop}:∀(D:List Tmp) (a:Array Value),(∀t∈D,t<a.size)->
  (∀b:Array Value,b.size=a.size->(∀t,t∉D->b.getD t undef=a.getD t undef)->(∀t∈D,α t (b.getD t undef) w)->k b)->Gg α w k D a
 | [],a,_,h=>h a rfl (λ_ _=>rfl) (λt g=>by cases g)
 |t::D,a,i,h=>by
  intro x hx;have g:t<a.size:=i t (VC ..);refine yy D (a.setIfInBounds t x) (λs hs=>by simpa using i s (VB _ hs)) (λb hb h1 h2=>h b (by simpa using hb) (λs hs=>?_) (λs hs=>?_))
  ·have f:s≠t:=λe=>hs (by rw[e];exact VC ..);rw[h1 s (λd=>hs (VB _ d))];simp[VD (Ne.symm f)]
  ·by_cases c:s∈D
   ·exact h2 s c
   ·have:s=t:=by
     rcases V9.1 hs with d|d
     ·exact d
     ·exact absurd d c
    subst this;rw[h1 s c];simpa[g]using hx
theorem v8{C:World->Prop}{G a:(Tmp->dX)->Prop}(h:∀β,G β->a β):∀(l:List Oper) (α:Tmp->dX),tP P ops C G l α->tP P ops C a l α
 | [],_,b=>h _ b
 |_::l,_,⟨Φ,hy,hk⟩=>⟨Φ,hy,v8 h l _ hk⟩
theorem QF{id:Nat}{l:List Oper}{t t' σ}{Q:Exit->St->Prop}(D:List Nat)(hm:P.follows .mixedOrders=true)(x:Region.lexB .any l.toArray=true)(hn:(l.all λo=>o.dst.all λe=>decide (e<N)&&D.contains e)=true)(y:(D.all λe=>decide (e<N))=true)
  (h:eP P N l.toArray σ l t t') (A:Q .normal ⟨t',σ⟩):W P N L (.region id l.toArray true) ⟨t,σ⟩ Q:=λF base E₀ w₀ E a w hc hs=>by
 obtain⟨c,u⟩:=a;have g:c.size=N:=hs.size;refine wO (λw'=>Sat F base σ E w') D (λr s d h=>h.ext d) hs.sat hm x (by rw[g];exact hn) ?_;have n:∀o∈l,∀e,o.dst=some e->e∈D:=λo ho e he=>by
  have:=VG.1 hn o ho;rw[he]at this;simp at this;exact this.2
 have h1:=h.abs (E:=E) (w:=w) (F:=F) (base:=base) (C:=λw'=>Ext w w'/\Sat F base σ E w') (λw' q=>q) (G:=λβ=>uD E w β t') (λβ i=>i) (λt v _=>v=c.getD t undef) (λk p hk v w' d hv=>by
  subst hv;have:=hs.tmp k p hk;simpa[Act.eval]using this.ext d)
 have h2:=pZ (D:=D) l _ (λt v _=>v=c.getD t undef) (λ_ _=>rfl) n h1;refine v8 (λβ i=>?_) l _ h2;obtain⟨z,j⟩:=i;intro w' d m;refine yy D c (λk hk=>by have:=VG.1 y k hk;rw[g];simpa using this) (λb hb k1 B=>?_);refine⟨⟨t',σ⟩,E,A,⟨m,λk p hk=>z k p hk _ w' d ?_,hs.lO,by rw[<-g];exact hb⟩,(hc.on (.ext d) (Zz d hs.sat)).g,(hc.on (.ext d) (Zz d hs.sat)).b⟩;have he:(Act.eval ⟨b,u⟩ (.tmp k))=b.getD k undef:=rfl;rw[he];by_cases f:k∈D
 ·exact B k f
 ·rw[j k f];exact k1 k f
inductive Gm (P:Program) (st:St):ResultVar->PV->Prop
 |tmp {k:Nat} {p:PV}:look k st.t=some p->Gm P st (.tmp k) p
 |PX {k i off:Nat} {ty:TypeId} {blk:cj} {p:PV}:look k st.t=some (.ptr i off)->st.σ[i]? =some (some blk)->qU P ty=some none->blk.xs[off]? =some p->Gm P st (.cell k ty) p
 |PY {k i off n:Nat} {ty:TypeId} {blk:cj} {ys:List PV}:look k st.t=some (.ptr i off)->st.σ[i]? =some (some blk)->qU P ty=some (some n)->(blk.xs.drop off).take n=ys->ys.length=n->Gm P st (.cell k ty) (.agg ys)
inductive aG (P:Program) (st:St):List ResultVar->List PV->Prop
 |nil:aG P st [] []
 |cons {r:ResultVar} {rs:List ResultVar} {p:PV} {ps:List PV}:Gm P st r p->aG P st rs ps->aG P st (r::rs) (p::ps)
def LK(tmps:Array Value):ResultVar->Sem Value
 | .tmp t=>pure (tmps.getD t undef)
 | .cell x ty=>do loadVar ty (<-asAddr (tmps.getD x undef))
theorem EB(fn:Func)(tmps:Array Value):results fn tmps=(do let vs <-fn.results.mapM (LK tmps);pure (if h:vs.size=1 then vs[0] else .tuple vs)):=by
 unfold results;congr 1
theorem Gm.run{F:Nat->Prop}{base:Nat}{st E}{a:Act}{w}(hs:dT F base N st E a w){r p}(h:Gm P st r p):
  ∃v,(LK a.tmps r).run P w= .ok v w/\dj E w v p:=by
 cases h with
 |tmp hk=>exact⟨_,rfl,hs.tmp _ _ hk⟩
 | @PX k i off ty blk p hk hi e hp=>
  have h1:=hs.tmp _ _ hk;have he:a.eval (.tmp k)=a.tmps.getD k undef:=rfl;rw[he]at h1;simp only[LK];generalize a.tmps.getD k undef=z at h1 ⊢;cases h1 with
  |ptr _ _ b q d=>
   obtain⟨cs,f,hc⟩:=hs.sat.cells hi d;obtain⟨c,l,m⟩:=f.get hp;have:=lW (P:=P) (w:=w) e (hc off c l);simp only[Instr.loadAt,Instr.sureAddr,Sem.run_bind,Sem.run_pure,Result.andThen_ok]at this;exact⟨c,by simp only[asAddr,Sem.run_bind,Sem.run_pure,Result.andThen_ok,this],m⟩
 | @PY k i off n ty blk ys hk hi e hp hn=>
  have h1:=hs.tmp _ _ hk;have he:a.eval (.tmp k)=a.tmps.getD k undef:=rfl;rw[he]at h1;simp only[LK];generalize a.tmps.getD k undef=z at h1 ⊢;cases h1 with
  |ptr _ _ b q d=>
   obtain⟨cs,g,hc⟩:=hs.sat.cells hi d;have f:bn E w ((cs.drop off).take n) ys:=by rw[<-hp];exact(g.drop off).take n
   have:=lV (P:=P) (w:=w) (b:=b) (off:=off) (cs:=(cs.drop off).take n) e (by rw[f.1,hn]) (λj x hx=>by
    rw[Wn]at hx;split at hx
    ·rw[WV]at hx;exact hc _ x hx
    ·cases hx)
   simp only[Instr.loadAt,Instr.sureAddr,Sem.run_bind,Sem.run_pure,Result.andThen_ok]at this;exact⟨.agg ((cs.drop off).take n).toArray,by simp only[asAddr,Sem.run_bind,Sem.run_pure,Result.andThen_ok,this],.agg _ ys (by simpa using f.1) (λi x u h1 h2=>f.2 i x u (by simpa using h1) h2)⟩
theorem aG.run{F:Nat->Prop}{base:Nat}{st E}{a:Act}{w}(hs:dT F base N st E a w):∀ {rs:List ResultVar} {ps},aG P st rs ps->
  ∃vs,(rs.mapM (LK a.tmps)).run P w= .ok vs w/\bn E w vs ps
 |_,_,.nil=>⟨[],by simp,Yn E w⟩
 |_,_,.cons (r:=r) h hl=>by
  obtain⟨v,h1,h2⟩:=h.run hs;obtain⟨vs,b,c⟩:=aG.run hs hl;refine⟨v::vs,?_,XP h2 c⟩;rw[List.mapM_cons];simp only[Sem.run_bind,h1,Result.andThen_ok,b,Sem.run_pure]
def IN:List PV->PV
 | [p]=>p
 |ps=>.tuple ps
instance (p:PV) [h:IsPure p]:IsPure (IN [p]):=h
instance:IsPure (IN []):=inferInstanceAs (IsPure (.tuple []))
instance (p q:PV) (ps:List PV) [h:aM (p::q::ps)]:IsPure (IN (p::q::ps)):=inferInstanceAs (IsPure (.tuple (p::q::ps)))
def Gv:Nat->List PV->cd
 |_,[]=>[]
 |i,p::ps=>(i,p)::Gv (i+1) ps
theorem wS:∀(ps:List PV) (i k:Nat) (p:PV),look k (Gv i ps)=some p->i<=k/\ps[k - i]? =some p
 | [],i,k,p,h=>by cases h
 |q::ps,i,k,p,h=>by
  simp only[Gv,look]at h;rw[VZ]at h;split at h
  ·rename_i he;have:=VF he;subst this;cases h;exact⟨Vh _,by simp⟩
  ·obtain⟨h1,h2⟩:=wS ps (i+1) k p h;exact⟨by omega,by rw[show k - i=(k - (i+1))+1 by omega];simpa using h2⟩
theorem mz{F:Nat->Prop}{base:Nat}{σ E w}{vs:Array Value}{ps}(f:Sat F base σ E w)(e:bn E w vs.toList ps)(hN:vs.size<=N):dT F base N ⟨Gv 0 ps,σ⟩ E {tmps:=vs++Array.replicate (N - vs.size) undef,defers:=[]} w:=by
 refine⟨f,λk p hk=>?_,rfl,by simp;omega⟩;obtain⟨_,h2⟩:=wS ps 0 k p hk;rw[Yq]at h2;obtain⟨c,b,d⟩:=e.get h2;have hlt:k<vs.size:=by have:=(Vf.1 b).1;simpa using this
 have a:vs[k]? =some c:=by simpa using b
 have:Act.eval {tmps:=vs++Array.replicate (N - vs.size) undef,defers:=[]} (.tmp k)=c:=by
  simp only[Act.eval,Vz];rw[Array.getElem?_append_left hlt,a]
  rfl
 rw[this];exact d
theorem pc{F:Nat->Prop}{base:Nat}{st E}{a:Act}{w}{fn:Func}{ps}(hs:dT F base N st E a w)(h:aG P st fn.results.toList ps):∃v,(results fn a.tmps).run P w= .ok v w/\dj E w v (IN ps):=by
 obtain⟨vs,h1,h2⟩:=aG.run hs h;have hm:(results fn a.tmps).run P w= .ok (if h:vs.toArray.size=1 then vs.toArray[0] else .tuple vs.toArray) w:=by
  rw[EB,Array.mapM_eq_mapM_toList];simp only[Sem.run_bind,Sem.run_map,h1,Result.andThen_ok,Sem.run_pure]
 refine⟨_,hm,?_⟩;cases vs with
 |nil=>
  have:ps=[]:=Vy h2.1.symm;subst this;exact .tuple _ _ rfl (λi x u k1 c=>by simp at c)
 |cons v vs=>
  cases ps with
  |nil=>have:=h2.1;simp at this
  |cons p ps=>
   cases vs with
   |nil=>
    have:ps=[]:=Vy (by have:=h2.1;simpa using this.symm);subst this;exact h2.Mn.1
   |cons v' vs=>
    cases ps with
    |nil=>have:=h2.1;simp at this
    |cons p' ps=>
     have b:¬(v::v'::vs).toArray.size=1:=by simp
     rw[dif_neg b];exact .tuple _ _ (by simpa using h2.1) (λi x u k1 c=>h2.2 i x u (by simpa using k1) c)
def Tf(P:Program)(fn:Func)(R:PV->Prop):Exit->St->Prop
 | .normal,st| .ret,st=>∃ps q,aG P st fn.results.toList ps/\aQ st.σ (IN ps) q/\R q
 |_,_=>False
theorem aR{f}{fn:Func}{c}{ps:List PV}{R:PV->Prop}(n:P.funcs[f]? =some fn)(hb:fn.body=some c)(hN:fn.ntmps=N)(hp:Nat.ble ps.length N=true)(h:W P N 0 c ⟨Gv 0 ps,[]⟩ (Tf P fn R)):Can P f ps R:=by
 intro F w vs l m j;have g:vs.size<=N:=by have:=j.1;rw[V3]at this;rw[this];exact Nat.ble_eq.mp hp
 refine calls_of_wp n hb ?_;rw[hN];refine wp_mono (h F w.heap.size (EF F) w (EF F) _ w ⟨rfl,YN _ _,Yh _ _ _⟩ (mz (Zl F w l m) j g)) ?_;rintro e i w' ⟨st,E',a,hs,hg,d⟩;have fin:(∃ps q,aG P st fn.results.toList ps/\aQ st.σ (IN ps) q/\R q)->i.defers=[]/\∃v,(results fn i.tmps).run P w'= .ok v w'/\Te (λv w'=>∃r,R r/\dj (EF F) w' v r) w (.returned v) w':=by
  rintro⟨ps,q,h1,h2,k⟩;obtain⟨v,hr,hv⟩:=pc hs h1;exact⟨hs.lO,v,hr,v,rfl,d.toBelow,q,k,h2.rep hs.sat (λb hb=>(hs.sat.mm b).2 (.inl hb)) (λb hb=>(hs.sat.fb b hb).2) v hv⟩
 cases e with
 |normal=>exact fin a
 |ret=>exact fin a
 |exit _=>exact a.elim
 |goto _=>exact a.elim
 |panic _=>exact a.elim
 |outgrown=>exact a.elim
def R4(P:Program)(fn:Func)(R:PV->bH->Prop):Exit->St->Prop
 | .normal,st| .ret,st=>∃ps,aG P st fn.results.toList ps/\R (IN ps) st.σ
 |_,_=>False
theorem aV{f}{fn:Func}{c}{ps:List PV}{σ:bH}{R:PV->bH->Prop}(k:P.funcs[f]? =some fn)(hb:fn.body=some c)(hN:fn.ntmps=N)(hp:Nat.ble ps.length N=true)(h:W P N σ.length c ⟨Gv 0 ps,σ⟩ (R4 P fn R)):aD P f ps σ R:=by
 intro F base E w vs j i;have d:vs.size<=N:=by have:=i.1;rw[V3]at this;rw[this];exact Nat.ble_eq.mp hp
 refine calls_of_wp k hb ?_;rw[hN];refine wp_mono (h F base E w E _ w ⟨j.len,YN _ _,Yh _ _ _⟩ (mz j i d)) ?_;rintro e g w' ⟨st,E',a,hs,hg,b⟩;have fin:(∃ps,aG P st fn.results.toList ps/\R (IN ps) st.σ)->g.defers=[]/\∃v,(results fn g.tmps).run P w'= .ok v w'/\∃v' r σ' E',Ending.returned v= .returned v'/\R r σ'/\Sat F base σ' E' w'/\c8 E w E' w'/\iE F base w w'/\dj E' w' v' r:=by
  rintro⟨ps,h1,h2⟩;obtain⟨v,hr,hv⟩:=pc hs h1;exact⟨hs.lO,v,hr,v,IN ps,st.σ,E',rfl,h2,hs.sat,hg,b,hv⟩
 cases e with
 |normal=>exact fin a
 |ret=>exact fin a
 |exit _=>exact a.elim
 |goto _=>exact a.elim
 |panic _=>exact a.elim
 |outgrown=>exact a.elim
end
end
end
end PW
end Go.Proofs.YtfcadpknnbgibaaGreatDoor
