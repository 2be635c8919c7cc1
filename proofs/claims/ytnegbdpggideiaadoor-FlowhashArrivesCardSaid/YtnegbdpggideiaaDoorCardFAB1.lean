/- Texts of the proof, part 1. -/
import Derived.Deep.Quiet
import Derived.Below
import Derived.OwnWalk
import Derived.Laws.Slices
import Derived.Laws.AppendOwnNone
import Derived.WalkKit
import Derived.ProofKit
import Derived.Laws.Tables
import Derived.Great.BuildSlice
set_option linter.unusedVariables false
set_option linter.unusedSimpArgs false
set_option maxRecDepth 10000
set_option maxHeartbeats 1000000
namespace Go.Proofs.YtnegbdpggideiaaDoor
namespace aN
open Go.RowKit
def Ext(w w':World):Prop:=Below w.heap.size w w'
theorem Ext.refl(w:World):Ext w w:=Below.refl _ _
theorem Ext.trans{a b c:World}(h:Ext a b)(k:Ext b c):Ext a c:=Below.trans h (Below.mono k h.size)
theorem Ext.alloc{a b:World}(h:Ext a b)(o:Obj):Ext a (b.alloc o):=Below.alloc h h.size o
theorem Ext.of{a b:World}(h:Below a.heap.size a b):Ext a b:=h
theorem Ext.lt{w:World}{p:Addr}{v:Value}(h:w.cell? p=some v):p.block<w.heap.size:=by
 rcases Nat.lt_or_ge p.block w.heap.size with h'|h'
 ·exact h'
 ·simp[World.cell?,Array.getElem?_eq_none h']at h
theorem Ext.cell{w w':World}(h:Ext w w'){p:Addr}{v:Value}(hc:w.cell? p=some v):w'.cell? p=some v:=by
 rw[Below.cell h (Ext.lt hc)];exact hc
theorem Ext.size{a b:World}(h:Ext a b):a.heap.size≤b.heap.size:=Below.size h
def wR(Φ:Value→World→Prop)(w:World)(e:Ending)(w':World):Prop:=∃v,e= .returned v∧Ext w w'∧Φ v w'
theorem gj{P:Program}{f:FuncId}{args:Array Value}{w:World}{v:Value}(h:Calls P f args w fun e w'=>e= .returned v∧w=w'):Calls P f args w (wR (fun x _=>x=v) w):=
 h.mono fun _ _ ⟨he,hw⟩=>⟨v,he,hw▸Ext.refl _,rfl⟩
abbrev bd:=Value→World→Prop
def lO(Φ:bd):Prop:=∀v w w',Ext w w'→Φ v w→Φ v w'
theorem nJ(c:Value):lO (fun v _=>v=c):=fun _ _ _ _ h=>h
def lN(α:Tmp→bd)(d:Option Tmp)(Φ:bd):Tmp→bd:=fun t=>
 match d with
 |some d=>bif Nat.beq t d then Φ else α t
 |none=>α t
theorem eK(α:Tmp→bd)(d:Tmp)(Φ:bd):lN α (some d) Φ d=Φ:=by simp[lN]
theorem ed(α:Tmp→bd)(d:Option Tmp)(Φ:bd)(t:Tmp)(h:∀e,d=some e→t≠e):lN α d Φ t=α t:=by
 cases d with
 |none=>rfl
 |some e=>
  have:Nat.beq t e=false:=by
   cases hb:Nat.beq t e with
   |false=>rfl
   |true=>exact absurd (Nat.eq_of_beq_eq_true hb) (h e rfl)
  simp[lN,this]
theorem tV(α:Tmp→bd)(x y:Option Tmp)(Φ Ψ:bd)(h:∀d,x=some d→y≠some d):lN (lN α x Φ) y Ψ=lN (lN α y Ψ) x Φ:=by
 funext t
 cases x with
 |none=>rfl
 |some d=>
  cases y with
  |none=>rfl
  |some e=>
   have hne:d≠e:=fun he=>h d rfl (he▸rfl)
   by_cases h1:t=d
   ·subst h1
    rw[eK,ed _ _ _ _ (fun e' he=>by cases he;exact hne),eK]
   ·by_cases h2:t=e
    ·subst h2
     rw[eK,ed _ _ _ _ (fun e' he=>by cases he;exact h1),eK]
    ·rw[ed _ _ _ _ (fun e' he=>by cases he;exact h2),ed _ _ _ _ (fun e' he=>by cases he;exact h1),ed _ _ _ _ (fun e' he=>by cases he;exact h1),ed _ _ _ _ (fun e' he=>by cases he;exact h2)]
structure ec (ρ:Operand→Value):Prop where
 const:∀v,ρ (.const v)=v
 gY:∀g,ρ (.global g)= .pointer (some ⟨g,0,none⟩)
 func:∀f,ρ (.func f)= .func (.func f) #[] #[]
theorem di(a:Act):ec a.eval:=⟨fun _=>rfl,fun _=>rfl,fun _=>rfl⟩
theorem du{ρ:Operand→Value}(hf:∀f,ρ (.func f)= .func (.func f) #[] #[])(dst:Option Tmp)(f:FuncId)(xs:Array Operand)(ats:Array TypeId)(ty:TypeId)(pos:String)(after:Array Edge)(guard:Option (Nat×Bool)):
  execOp ρ {dst,op:=.call {callee:=.value (.func f),args:=xs,argTypes:=ats},type:=ty,pos,after,guard}=callFunc f (#[]++xs.map ρ++ #[]):=by
 simp only[execOp,resolve,hf]
 rfl
def th:Value→Option Bool
 | .bool b=>some b
 |_=>none
def eW(ops:Array Oper)(o:Oper)(ρ:Operand→Value):Bool:=
 match o.guard with
 |none=>true
 |some (j,want)=>(match(ops[j]?).bind (·.dst)with|some t=>th (ρ (.tmp t))|none=>none)==some want
theorem ek(ops:Array Oper)(o:Oper)(a:Act):Region.wanted o (yielded ops a.tmps)=eW ops o a.eval:=by
 unfold Region.wanted eW
 cases o.guard with
 |none=>rfl
 |some g=>
  obtain⟨j,want⟩:=g
  simp only[yielded]
  cases(ops[j]?).bind (·.dst)with
  |none=>rfl
  |some t=>
   simp only[Option.bind_some,Act.eval,Array.getD_eq_getD_getElem?]
   cases a.tmps[t]? with
   |none=>rfl
   |some v=>cases v<;>rfl
def cQ(P:Program)(w:World)(Φ:bd):Result Next→Prop
 | .ok (.value v) w'=>Ext w w'∧Φ v w'
 | .ok .skip w'=>Ext w w'∧Φ undef w'
 | .ok (.enter f args) w'=>Ext w w'∧Calls P f args w' (wR Φ w')
 |_=>False
section
variable (P:Program) (w:World) (Φ:bd)
end
def fF(P:Program)(ops:Array Oper)(o:Oper)(ρ:Operand→Value)(w:World)(Φ:bd):Prop:=
 if eW ops o ρ then cQ P w Φ ((execOp ρ o).run P w) else Φ undef w
section
variable {P:Program} {ops:Array Oper} {md:Region.Mode} {C:World→Prop}
def Yields(P:Program)(ops:Array Oper)(C:World→Prop)(o:Oper)(Φ:bd)(α:Tmp→bd):Prop:=
 lO Φ∧∀ρ w,ec ρ→C w→(∀t∈o.looksAt ops,α t (ρ (.tmp t)) w)→fF P ops o ρ w Φ
def eI(P:Program)(ops:Array Oper)(C:World→Prop)(F:(Tmp→bd)→Prop):List Oper→(Tmp→bd)→Prop
 | [],α=>F α
 |o::rest,α=>∃Φ,Yields P ops C o Φ α∧eI P ops C F rest (lN α o.dst Φ)
def tK(P:Program)(ops:Array Oper)(C:World→Prop)(i:Nat)(K:(Tmp→bd)→Prop)(α:Tmp→bd):Prop:=
 match ops[i]? with
 |none=>K α
 |some o=>∃Φ,Yields P ops C o Φ α∧K (lN α o.dst Φ)
def lE(P:Program)(md:Region.Mode)(ops:Array Oper)(C:World→Prop)(F:(Tmp→bd)→Prop):Nat→Array Bool→(Tmp→bd)→Prop
 |0,listed,α=>Region.ready md ops listed=[]∧F α
 |fuel+1,listed,α=>
  (Region.ready md ops listed=[]→F α)∧
  ∀i∈Region.ready md ops listed,tK P ops C i (lE P md ops C F fuel (listed.setIfInBounds i true)) α
theorem Yields.of_same{o:Oper}{Φ:bd}{α β:Tmp→bd}(h:Yields P ops C o Φ α)(he:∀t∈o.looksAt ops,β t=α t):Yields P ops C o Φ β:=
 ⟨h.1,fun ρ w hρ hw hs=>h.2 ρ w hρ hw (fun t ht=>by rw[←he t ht];exact hs t ht)⟩
theorem ux{i:Nat}{α:Tmp→bd}{K K':(Tmp→bd)→Prop}(h:∀α,K α→K' α)(hh:tK P ops C i K α):tK P ops C i K' α:=by
 unfold tK at*
 split
 ·exact h _ (by simpa[*]using hh)
 ·rename_i o ho
  simp only[ho]at hh
  obtain⟨Φ,h1,h2⟩:=hh
  exact⟨Φ,h1,h _ h2⟩
theorem vl{j:Nat}{oi oj:Oper}{Φ:bd}(hj:ops[j]? =some oj)(hap:oi.apart ops oj=true){K:(Tmp→bd)→Prop}{α:Tmp→bd}
  (hy:Yields P ops C oi Φ α) (h:tK P ops C j K (lN α oi.dst Φ)):
  tK P ops C j (fun β=>Yields P ops C oi Φ β∧K (lN β oi.dst Φ)) α:=by
 obtain⟨h1,h2,h3⟩:=Oper.apart_spec hap
 unfold tK at*
 simp only[hj]at*
 obtain⟨Ψ,hy',hn⟩:=h
 refine⟨Ψ,hy'.of_same fun t ht=>?_,hy.of_same fun t ht=>?_,?_⟩
 ·exact(ed _ _ _ _ fun e he heq=>h1 e he (heq▸ht)).symm
 ·exact ed _ _ _ _ fun e he heq=>h3 e he (heq▸ht)
 ·rw[←tV α oi.dst oj.dst Φ Ψ h2];exact hn
theorem nf{F:(Tmp→bd)→Prop}{i:Nat}{oi:Oper}{Φ:bd}(hi:ops[i]? =some oi):
  ∀(fuel:Nat) (listed:Array Bool) (α:Tmp→bd),
   (∀j oj,ops[j]? =some oj→j≠i→listed.getD j true=false→(∀e∈oj.after,Region.binds md e=true→e.on≠i)→oi.apart ops oj=true)→
   i∈Region.ready md ops listed→Yields P ops C oi Φ α→
   lE P md ops C F fuel (listed.setIfInBounds i true) (lN α oi.dst Φ)→lE P md ops C F (fuel+1) listed α:=by
 intro fuel
 have own:∀ {α:Tmp→bd} {K:(Tmp→bd)→Prop},Yields P ops C oi Φ α→K (lN α oi.dst Φ)→tK P ops C i K α:=fun hy hk=>by
  unfold tK;simp only[hi];exact⟨Φ,hy,hk⟩
 induction fuel with
 |zero=>
  intro listed α _ hr hy H
  refine⟨fun h=>(by rw[h]at hr;cases hr),fun j hj=>?_⟩
  by_cases hji:j=i
  ·subst hji;exact own hy H
  ·have:=ready_mono hj hji
   rw[H.1]at this
   cases this
 |succ fuel ih=>
  intro listed α hfree hr hy H
  refine⟨fun h=>(by rw[h]at hr;cases hr),fun j hj=>?_⟩
  by_cases hji:j=i
  ·subst hji;exact own hy H
  ·have h1:=H.2 j (ready_mono hj hji)
   obtain⟨hjun,oj,hoj,hall⟩:=mem_ready.1 hj
   have hnot:∀e∈oj.after,Region.binds md e=true→e.on≠i:=fun e he hb heq=>by
    have h1:=hall e he hb
    have h0:=(mem_ready.1 hr).1
    rw[heq]at h1
    rcases Nat.lt_or_ge i listed.size with h'|h'
    ·simp[h']at h0 h1;rw[h0]at h1;cases h1
    ·simp[Array.getElem?_eq_none h']at h1
   have h2:=vl hoj (hfree j oj hoj hji hjun hnot) hy h1
   have hfree':∀k ok,ops[k]? =some ok→k≠i→(listed.setIfInBounds j true).getD k true=false→
     (∀e∈ok.after,Region.binds md e=true→e.on≠i)→oi.apart ops ok=true:=fun k ok hk hki hun hno=>by
    refine hfree k ok hk hki ?_ hno
    by_cases hjk:j=k
    ·subst hjk;exact hjun
    ·rw[getD_set_ne true hjk]at hun;exact hun
   refine ux (fun β h3=>ih (listed.setIfInBounds j true) β hfree' (ready_mono hr (Ne.symm hji)) h3.1 ?_) h2
   rw[Array.setIfInBounds_comm _ _ hji]
   exact h3.2
theorem k7{F:(Tmp→bd)→Prop}:∀(l:List Oper) (k:Nat) (listed:Array Bool) (α:Tmp→bd),(∀j,l[j]? =ops[k+j]?)→
  Region.lexFrom md ops l.length k listed=true→eI P ops C F l α→lE P md ops C F l.length listed α
 | [],_,_,_,_,hB,h=>⟨by simpa[Region.lexFrom]using hB,h⟩
 |o::l,k,listed,α,hl,hB,h=>by
  have h0:ops[k]? =some o:=by simpa using(hl 0).symm
  simp only[List.length_cons,Region.lexFrom,Bool.and_eq_true]at hB
  obtain⟨⟨hr,hf⟩,hB'⟩:=hB
  obtain⟨Φ,hy,hK⟩:=h
  exact nf h0 l.length listed α (Region.free_spec h0 hf) (by simpa using hr) hy
   (k7 l (k+1) _ _ (fun j=>by have:=hl (j+1);simpa[Nat.add_assoc,Nat.add_comm 1 j]using this) hB' hK)
def Sat(α:Tmp→bd)(n:Nat)(d:List Deferred)(a:Act)(w:World):Prop:=
 (∀t,α t (a.eval (.tmp t)) w)∧a.defers=d∧a.tmps.size=n
theorem Sat.put{α:Tmp→bd}{n:Nat}{d:List Deferred}{a:Act}{w w':World}{o:Oper}{Φ:bd}{v:Value}(hα:∀t,lO (α t))(h:Sat α n d a w)(hE:Ext w w')
  (hd:∀e,o.dst=some e→e<n) (hv:Φ v w'):Sat (lN α o.dst Φ) n d (a.put o.dst v) w':=by
 obtain⟨h1,h2,h3⟩:=h
 cases ho:o.dst with
 |none=>exact⟨fun t=>hα t _ _ _ hE (h1 t),h2,h3⟩
 |some e=>
  have hlt:=hd e ho
  refine⟨fun t=>?_,by simpa[Act.put]using h2,by simpa[Act.put]using h3⟩
  by_cases hte:t=e
  ·subst hte
   rw[eK]
   have:(a.put (some t) v).eval (.tmp t)=v:=by simp[Act.put,Act.eval,h3,hlt]
   rw[this];exact hv
  ·rw[ed _ _ _ _ (fun e' he=>by cases he;exact hte),Act.eval_put (fun d' hd' heq=>by cases hd';cases heq;exact hte rfl)]
   exact hα t _ _ _ hE (h1 t)
theorem tT{α:Tmp→bd}(hα:∀t,lO (α t))(d:Option Tmp){Φ:bd}(hΦ:lO Φ):∀t,lO (lN α d Φ t):=by
 intro t
 cases d with
 |none=>exact hα t
 |some e=>
  by_cases h:t=e
  ·subst h;rw[eK];exact hΦ
  ·rw[ed _ _ _ _ (fun e' he=>by cases he;exact h)];exact hα t
theorem ou{n:Nat}{d:List Deferred}(hC:∀w w',C w→Ext w w'→C w')(hn:∀(i:Nat) (o:Oper),ops[i]? =some o→∀e,o.dst=some e→e<n)
  {i:Nat} {α:Tmp→bd} {a:Act} {w:World} {K:(Tmp→bd)→Prop} {K':Act→World→Prop} {Q:Exit→Act→World→Prop} (hα:∀t,lO (α t)) (hw:C w) (hs:Sat α n d a w)
  (h:∀β a w,(∀t,lO (β t))→C w→Sat β n d a w→K β→K' a w) (hh:tK P ops C i K α):wpOp P ops Q i K' a w:=by
 unfold tK at hh
 unfold wpOp
 split
 ·rename_i ho;simp only[ho]at hh;exact h _ _ _ hα hw hs hh
 ·rename_i o ho
  simp only[ho]at hh
  obtain⟨Φ,hy,hk⟩:=hh
  have hst:=hy.2 a.eval w (di a) hw (fun t _=>hs.1 t)
  unfold fF at hst
  have hm':=tT hα o.dst hy.1
  rw[ek]
  split
  ·rename_i hwt
   simp only[hwt,if_true]at hst
   left
   unfold Oper.wp
   generalize (execOp a.eval o).run P w=r at*
   cases r with
   |ok x w'=>
    cases x<;>simp only[cQ]at hst<;>simp only[Oper.upon]
    case value v=>exact h _ _ _ hm' (hC _ _ hw hst.1) (hs.put hα hst.1 (hn i o ho) hst.2) hk
    case skip=>exact h _ _ _ hm' (hC _ _ hw hst.1) (hs.put hα hst.1 (hn i o ho) hst.2) hk
    case enter f args=>
     obtain⟨hE,hc⟩:=hst
     refine hc.mono fun e w'' ⟨v,he,hE',hv⟩=>?_
     subst he
     exact h _ _ _ hm' (hC _ _ hw (hE.trans hE')) (hs.put hα (hE.trans hE') (hn i o ho) hv) hk
   |halt x w'=>simp only[cQ]at hst
  ·rename_i hwt
   simp only[hwt]at hst
   exact h _ _ _ hm' hw (hs.put hα (Ext.refl _) (hn i o ho) hst) hk
theorem i6{n:Nat}{d:List Deferred}(hC:∀w w',C w→Ext w w'→C w')(hn:∀(i:Nat) (o:Oper),ops[i]? =some o→∀e,o.dst=some e→e<n)
  {F:(Tmp→bd)→Prop} {Q:Exit→Act→World→Prop} (hF:∀β a w,C w→Sat β n d a w→F β→Q .normal a w):∀(fuel:Nat) (listed:Array Bool) (α:Tmp→bd) (a:Act) (w:World),
  (∀t,lO (α t))→C w→Sat α n d a w→lE P md ops C F fuel listed α→wpAny P md ops Q fuel listed a w
 |0,_,_,_,_,_,hw,hs,h=>⟨h.1,hF _ _ _ hw hs h.2⟩
 |fuel+1,_,_,_,_,hα,hw,hs,h=>⟨fun h0=>hF _ _ _ hw hs (h.1 h0),fun i hi=>ou hC hn hα hw hs (fun β a' w' hβ hw' hs' hk=>i6 hC hn hF fuel _ β a' w' hβ hw' hs' hk) (h.2 i hi)⟩
theorem jM{F:(Tmp→bd)→Prop}{D:List Tmp}:∀(l:List Oper) (α α₀:Tmp→bd),(∀t,t∉D→α t=α₀ t)→(∀o∈l,∀e,o.dst=some e→e∈D)→eI P ops C F l α→
  eI P ops C (fun β=>F β∧∀t,t∉D→β t=α₀ t) l α
 | [],_,_,h0,_,h=>⟨h,h0⟩
 |o::l,α,α₀,h0,hD,⟨Φ,hy,hk⟩=>by
  refine⟨Φ,hy,jM l (lN α o.dst Φ) α₀ (fun t ht=>?_) (fun o' ho'=>hD o' (List.mem_cons_of_mem _ ho')) hk⟩
  rw[ed α o.dst Φ t (fun e he heq=>ht (by rw[heq];exact hD o (List.mem_cons_self ..) e he))]
  exact h0 t ht
def jo(α:Tmp→bd)(w:World)(k:Array Value→Prop):List Tmp→Array Value→Prop
 | [],arr=>k arr
 |t::D,arr=>∀x,α t x w→jo α w k D (arr.setIfInBounds t x)
theorem lY{α:Tmp→bd}{w:World}{k:Array Value→Prop}(b:Array Value):∀(D:List Tmp) (arr:Array Value),arr.size=b.size→(∀t,t∉D→b.getD t undef=arr.getD t undef)→(∀t,α t (b.getD t undef) w)→
  jo α w k D arr→k b
 | [],arr,hz,he,_,h=>by
  have:b=arr:=by
   apply Array.ext hz.symm
   intro i h1 h2
   have:=he i (by simp)
   simpa[h1,h2]using this
  rw[this];exact h
 |t::D,arr,hz,he,hα,h=>by
  refine lY b D (arr.setIfInBounds t (b.getD t undef)) (by simpa using hz) (fun s hs=>?_) hα (h _ (hα t))
  by_cases hst:s=t
  ·subst hst
   rcases Nat.lt_or_ge s b.size with h'|h'
   ·simp[hz,h']
   ·simp[Array.getElem?_eq_none h',hz]
  ·rw[he s (by simp[hst,hs])]
   simp[Array.getElem?_setIfInBounds_ne (Ne.symm hst)]
theorem ic{id:Nat}{Q:Exit→Act→World→Prop}{l:List Oper}{arr:Array Value}{ds:List Deferred}{w:World}(S:World→Prop)(D:List Tmp)(hS:∀w w',Ext w w'→S w→S w')(h0:S w)
  (hm:P.follows .mixedOrders=true) (hB:Region.lexB .any l.toArray=true) (hn:(l.all fun o=>o.dst.all fun e=>decide (e<arr.size)&&D.contains e)=true)
  (h:eI P l.toArray (fun w'=>Ext w w'∧S w') (fun α=>∀w',Ext w w'→S w'→jo α w' (fun b=>Q .normal ⟨b,ds⟩ w') D arr) l (fun t v _=>v=arr.getD t undef)):
  (Code.region id l.toArray true).wp P Q ⟨arr,ds⟩ w:=by
 simp only[Region.lexB,Bool.and_eq_true]at hB
 have hn':∀o∈l,∀e,o.dst=some e→e<arr.size∧e∈D:=fun o ho e he=>by
  have:=List.all_eq_true.1 hn o ho
  rw[he]at this
  simpa using this
 have h1:=jM (D:=D) l _ (fun t v _=>v=arr.getD t undef) (fun _ _=>rfl) (fun o ho e he=>(hn' o ho e he).2) h
 have h2:=k7 (md:=.any) (ops:=l.toArray) l 0 (Array.replicate l.toArray.size false) _ (by simp) (by simpa using hB.2) h1
 have hE:Ext w {w with drawn:=w.drawn+1}:=⟨rfl,rfl,rfl,Nat.le_refl _,fun _ _=>rfl⟩
 refine wp_region_any hm ?_
 have h3:=i6 (P:=P) (ops:=l.toArray) (md:=.any) (n:=arr.size) (d:=ds) (Q:=Q) (fun w₁ w₂ h12 h13=>⟨h12.1.trans h13,hS _ _ h13 h12.2⟩)
  (fun i o ho e he=>(hn' o (by simpa using Array.mem_of_getElem? ho) e he).1) (fun β a w' hw' hs hF=>?_) l.length _ _ ⟨arr,ds⟩ {w with drawn:=w.drawn+1} (fun t=>nJ _) ⟨hE,hS _ _ hE h0⟩ ⟨fun t=>rfl,rfl,rfl⟩ h2
 ·simpa using h3
 ·obtain⟨hF,hoff⟩:=hF
  obtain⟨hs1,hs2,hs3⟩:=hs
  obtain⟨b,dd⟩:=a
  simp only at hs2 hs3
  subst hs2
  refine lY b D arr hs3.symm (fun t ht=>?_) (fun t=>by simpa[Act.eval]using hs1 t) (hF w' hw'.1 hw'.2)
  have:=hs1 t
  rw[hoff t ht]at this
  simpa[Act.eval]using this
theorem q9{F:(Tmp→bd)→Prop}{α:Tmp→bd}(h:F α):eI P ops C F [] α:=h
theorem sj{F:(Tmp→bd)→Prop}{o:Oper}{rest:List Oper}{α:Tmp→bd}(Φ:bd)(hm:lO Φ)(h:∀ρ w,ec ρ→C w→(∀t∈o.looksAt ops,α t (ρ (.tmp t)) w)→fF P ops o ρ w Φ)
  (hr:eI P ops C F rest (lN α o.dst Φ)):eI P ops C F (o::rest) α:=⟨Φ,⟨hm,h⟩,hr⟩
theorem sz{F:(Tmp→bd)→Prop}{o:Oper}{rest:List Oper}{α:Tmp→bd}(c:Value)(h:∀ρ w,ec ρ→C w→(∀t∈o.looksAt ops,α t (ρ (.tmp t)) w)→fF P ops o ρ w (fun v _=>v=c))
  (hr:eI P ops C F rest (lN α o.dst (fun v _=>v=c))):eI P ops C F (o::rest) α:=⟨_,⟨nJ c,h⟩,hr⟩
theorem ca{F:(Tmp→bd)→Prop}{o:Oper}{rest:List Oper}{α:Tmp→bd}(h:∃c:Value,(∀ρ w,ec ρ→C w→(∀t∈o.looksAt ops,α t (ρ (.tmp t)) w)→fF P ops o ρ w (fun v _=>v=c))∧
  eI P ops C F rest (lN α o.dst (fun v _=>v=c))):eI P ops C F (o::rest) α:=by
 obtain⟨c,h1,h2⟩:=h
 exact sz c h1 h2
theorem bO{α:Tmp→bd}{w:World}{k:Array Value→Prop}{t:Tmp}{D:List Tmp}{arr:Array Value}(c:Value)(he:α t=fun v _=>v=c)(h:jo α w k D (arr.setIfInBounds t c)):jo α w k (t::D) arr:=by
 intro x hx
 rw[he]at hx
 subst hx
 exact h
theorem sx{α:Tmp→bd}{w:World}{k:Array Value→Prop}{t:Tmp}{D:List Tmp}{arr:Array Value}(h:∀x,α t x w→jo α w k D (arr.setIfInBounds t x)):jo α w k (t::D) arr:=h
theorem bt{o:Oper}{ρ:Operand→Value}{w:World}{Φ:bd}(hg:o.guard=none)(h:cQ P w Φ ((execOp ρ o).run P w)):fF P ops o ρ w Φ:=by
 unfold fF eW;rw[hg];exact h
end
end aN
end Go.Proofs.YtnegbdpggideiaaDoor
namespace Go.Proofs.YtnegbdpggideiaaDoor
namespace Mem
open Go.RowKit
def Row(w:World)(v:Value)(n:Nat)(xs:List Value):Prop:=
 (n=0∧xs=[]∧(v= .slice none 0 0∨∃a c,v= .slice (some a) 0 c∧c≤maxLen))∨
 (0<n∧∃b off c,v= .slice (some ⟨b,off,none⟩) n c∧n≤c∧c≤maxLen∧∀i u,xs[i]? =some u→w.cell? ⟨b,off+i,none⟩=some u)
theorem Row.nil(w:World):Row w (.slice none 0 0) 0 []:=.inl ⟨rfl,rfl,.inl rfl⟩
theorem Row.owns{w:World}{base:Nat}{e:TypeId}{size:Nat}{v:Value}{n:Nat}{xs:List Value}(h:w.ownsRow base e size v n xs):Row w v n xs:=by
 have hc:=fun g hg=>h.cells (g:=g) hg
 obtain⟨hl,h⟩:=h
 rcases h with⟨rfl,rfl⟩|⟨g,cap,cur,rfl,h1,h2,h3,h4,h5,h6⟩
 ·exact .inl ⟨rfl,List.eq_nil_of_length_eq_zero (by simpa using hl),.inl rfl⟩
 ·by_cases hn:n=0
  ·subst hn
   exact .inl ⟨rfl,List.eq_nil_of_length_eq_zero (by simpa using hl),.inr ⟨_,_,rfl,h4⟩⟩
  ·refine .inr ⟨by omega,g,0,cap,rfl,h3,h4,fun i u hu=>?_⟩
   have:=hc g rfl i u hu
   rw[Addr.add_lit]at this
   exact this
def ints(L:List Int):List Value:=L.map (Value.int .i64)
def wk(w:World)(v:Value)(L:List Int):Prop:=Row w v L.length (ints L)
theorem wk.owns{w:World}{base:Nat}{e:TypeId}{v:Value}{n:Nat}{L:List Int}(h:w.ownsRow base e 1 v n (ints L))(hn:n=L.length):wk w v L:=by
 subst hn;exact Row.owns h
theorem i7{w w':World}(h:w.grownBy w' none):aN.Ext w w':=⟨h.os,h.tape,h.output,h.size,fun k hk=>h.block k hk (by simp)⟩
end Mem
end Go.Proofs.YtnegbdpggideiaaDoor
namespace Go.Proofs.YtnegbdpggideiaaDoor
namespace PW
def GG:List (Nat×List Value):=[(0,[.int .u64 1,.int .u64 10,.int .u64 100,.int .u64 1000,.int .u64 10000,.int .u64 100000,.int .u64 1000000,.int .u64 10000000,.int .u64 100000000,.int .u64 1000000000,.int .u64 10000000000,.int .u64 100000000000,.int .u64 1000000000000,.int .u64 10000000000000,.int .u64 100000000000000,.int .u64 1000000000000000,.int .u64 10000000000000000,.int .u64 100000000000000000,.int .u64 1000000000000000000,.int .u64 10000000000000000000]),(2,[.int .u8 0,.int .u8 1,.int .u8 28,.int .u8 2,.int .u8 29,.int .u8 14,.int .u8 24,.int .u8 3,.int .u8 30,.int .u8 22,.int .u8 20,.int .u8 15,.int .u8 25,.int .u8 17,.int .u8 4,.int .u8 8,.int .u8 31,.int .u8 27,.int .u8 13,.int .u8 23,.int .u8 21,.int .u8 19,.int .u8 16,.int .u8 7,.int .u8 26,.int .u8 12,.int .u8 18,.int .u8 6,.int .u8 11,.int .u8 5,.int .u8 10,.int .u8 9]),(3,[.int .u8 0,.int .u8 1,.int .u8 56,.int .u8 2,.int .u8 57,.int .u8 49,.int .u8 28,.int .u8 3,.int .u8 61,.int .u8 58,.int .u8 42,.int .u8 50,.int .u8 38,.int .u8 29,.int .u8 17,.int .u8 4,.int .u8 62,.int .u8 47,.int .u8 59,.int .u8 36,.int .u8 45,.int .u8 43,.int .u8 51,.int .u8 22,.int .u8 53,.int .u8 39,.int .u8 33,.int .u8 30,.int .u8 24,.int .u8 18,.int .u8 12,.int .u8 5,.int .u8 63,.int .u8 55,.int .u8 48,.int .u8 27,.int .u8 60,.int .u8 41,.int .u8 37,.int .u8 16,.int .u8 46,.int .u8 35,.int .u8 44,.int .u8 21,.int .u8 52,.int .u8 32,.int .u8 23,.int .u8 11,.int .u8 54,.int .u8 26,.int .u8 40,.int .u8 15,.int .u8 34,.int .u8 20,.int .u8 31,.int .u8 10,.int .u8 25,.int .u8 14,.int .u8 19,.int .u8 9,.int .u8 13,.int .u8 8,.int .u8 7,.int .u8 6])]
end PW
end Go.Proofs.YtnegbdpggideiaaDoor
namespace Go.Proofs.YtnegbdpggideiaaDoor
namespace PW
open Go.RowKit aN Mem
inductive PV where
 |any
 |raw (v:Value)
 |slice (n:Nat) (xs:List PV)
 |b6 (xs:List PV) (off:Nat)
 |agg (xs:List PV)
 |tuple (xs:List PV)
 |func (f:FuncId) (cap:List PV)
 |ptr (i off:Nat)
 |own (i:Nat)
structure Env where
 L:Nat
 at_:Nat→Value
 M:Nat→Prop
def aB:Value→Option Nat
 | .slice (some a) _ _=>some a.block
 | .pointer (some a)=>some a.block
 | .map (some r)=>some r
 |_=>none
inductive bC (E:Env) (w:World):Value→PV→Prop
 |any (v:Value):bC E w v .any
 |raw (v:Value):bC E w v (.raw v)
 |bY:bC E w (.slice none 0 0) (.slice 0 [])
 |empty (a:Addr) (c:Nat) (h:c≤maxLen):bC E w (.slice (some a) 0 c) (.slice 0 [])
 |slice (b off n c:Nat) (cs:List Value) (xs:List PV) (h0:0<n) (h1:n≤c) (h2:c≤maxLen) (hb:b<w.heap.size) (hM:¬E.M b)
   (hc:∀(i:Nat) x,cs[i]? =some x→w.cell? ⟨b,off+i,none⟩=some x) (hl:cs.length=xs.length) (hr:∀(i:Nat) x u,cs[i]? =some x→xs[i]? =some u→bC E w x u):
   bC E w (.slice (some ⟨b,off,none⟩) n c) (.slice n xs)
 |b6 (b o off:Nat) (cs:List Value) (xs:List PV) (hb:b<w.heap.size) (hM:¬E.M b)
   (hc:∀(i:Nat) x,cs[i]? =some x→w.cell? ⟨b,o+i,none⟩=some x) (hl:cs.length=xs.length) (hr:∀(i:Nat) x u,cs[i]? =some x→xs[i]? =some u→bC E w x u):
   bC E w (.pointer (some ⟨b,o+off,none⟩)) (.b6 xs off)
 |agg (cs:Array Value) (xs:List PV) (hl:cs.size=xs.length) (hr:∀(i:Nat) x u,cs[i]? =some x→xs[i]? =some u→bC E w x u):bC E w (.agg cs) (.agg xs)
 |tuple (cs:Array Value) (xs:List PV) (hl:cs.size=xs.length) (hr:∀(i:Nat) x u,cs[i]? =some x→xs[i]? =some u→bC E w x u):bC E w (.tuple cs) (.tuple xs)
 |func (f:FuncId) (cs:Array Value) (xs:List PV) (hl:cs.size=xs.length) (hr:∀(i:Nat) x u,cs[i]? =some x→xs[i]? =some u→bC E w x u):bC E w (.func (.func f) #[] cs) (.func f xs)
 |ptr (i off b:Nat) (hi:i<E.L) (h:E.at_ i= .pointer (some ⟨b,0,none⟩)∨∃n c,E.at_ i= .slice (some ⟨b,0,none⟩) n c):bC E w (.pointer (some ⟨b,off,none⟩)) (.ptr i off)
 |own (i:Nat) (hi:i<E.L) (v:Value) (h:E.at_ i=v) (hs:v.oneCell'=true):bC E w v (.own i)
structure bM (E:Env) (w:World) (E':Env) (w':World):Prop where
 L:E.L≤E'.L
 at_:∀i,i<E.L→E'.at_ i=E.at_ i
 M:∀b,b<w.heap.size→¬E.M b→¬E'.M b
 size:w.heap.size≤w'.heap.size
 heap:∀b,b<w.heap.size→¬E.M b→w'.heap[b]? =w.heap[b]?
theorem bM.refl(E:Env)(w:World):bM E w E w:=⟨Nat.le_refl _,fun _ _=>rfl,fun _ _ h=>h,Nat.le_refl _,fun _ _ _=>rfl⟩
theorem bM.trans{E E' E'':Env}{w w' w'':World}(h:bM E w E' w')(k:bM E' w' E'' w''):bM E w E'' w'':=
 ⟨Nat.le_trans h.L k.L,fun i hi=>(k.at_ i (Nat.lt_of_lt_of_le hi h.L)).trans (h.at_ i hi),fun b hb hM=>k.M b (Nat.lt_of_lt_of_le hb h.size) (h.M b hb hM),Nat.le_trans h.size k.size,
  fun b hb hM=>(k.heap b (Nat.lt_of_lt_of_le hb h.size) (h.M b hb hM)).trans (h.heap b hb hM)⟩
theorem bM.ext{E:Env}{w w':World}(h:Ext w w'):bM E w E w':=⟨Nat.le_refl _,fun _ _=>rfl,fun _ _ h=>h,h.size,fun b hb _=>h.block b hb⟩
theorem mg{w w':World}{a:Addr}(h:w'.heap[a.block]? =w.heap[a.block]?):w'.cell? a=w.cell? a:=World.cell?_of_block h
theorem bC.goes{E E':Env}{w w':World}(g:bM E w E' w'){v:Value}{p:PV}(h:bC E w v p):bC E' w' v p:=by
 induction h with
 |any v=>exact .any v
 |raw v=>exact .raw v
 |bY=>exact .bY
 |empty a c h=>exact .empty a c h
 |slice b off n c cs xs h0 h1 h2 hb hM hc hl _ ih=>
  exact .slice b off n c cs xs h0 h1 h2 (Nat.lt_of_lt_of_le hb g.size) (g.M b hb hM) (fun i x hx=>by rw[mg (g.heap b hb hM)];exact hc i x hx) hl ih
 |b6 b o off cs xs hb hM hc hl _ ih=>
  exact .b6 b o off cs xs (Nat.lt_of_lt_of_le hb g.size) (g.M b hb hM) (fun i x hx=>by rw[mg (g.heap b hb hM)];exact hc i x hx) hl ih
 |agg cs xs hl _ ih=>exact .agg cs xs hl ih
 |tuple cs xs hl _ ih=>exact .tuple cs xs hl ih
 |func f cs xs hl _ ih=>exact .func f cs xs hl ih
 |ptr i off b hi h=>exact .ptr i off b (Nat.lt_of_lt_of_le hi g.L) (by rw[g.at_ i hi];exact h)
 |own i hi v h hs=>exact .own i (Nat.lt_of_lt_of_le hi g.L) v (by rw[g.at_ i hi];exact h) hs
theorem bC.ext{E:Env}{w w':World}(g:Ext w w'){v:Value}{p:PV}(h:bC E w v p):bC E w' v p:=h.goes (.ext g)
def aw(E:Env)(w:World)(cs:List Value)(xs:List PV):Prop:=cs.length=xs.length∧∀(i:Nat) x u,cs[i]? =some x→xs[i]? =some u→bC E w x u
theorem aw.goes{E E':Env}{w w':World}(g:bM E w E' w'){cs:List Value}{xs:List PV}(h:aw E w cs xs):aw E' w' cs xs:=⟨h.1,fun i x u h1 h2=>(h.2 i x u h1 h2).goes g⟩
theorem aw.nil(E:Env)(w:World):aw E w [] []:=⟨rfl,fun i x u h=>by simp at h⟩
theorem aw.cons{E:Env}{w:World}{c:Value}{x:PV}{cs:List Value}{xs:List PV}(h:bC E w c x)(hs:aw E w cs xs):aw E w (c::cs) (x::xs):=by
 refine⟨by simp[hs.1],fun i a u h1 h2=>?_⟩
 cases i with
 |zero=>simp at h1 h2;subst h1;subst h2;exact h
 |succ i=>exact hs.2 i a u (by simpa using h1) (by simpa using h2)
theorem aw.ue{E:Env}{w:World}{c:Value}{x:PV}{cs:List Value}{xs:List PV}(h:aw E w (c::cs) (x::xs)):bC E w c x∧aw E w cs xs:=
 ⟨h.2 0 c x rfl rfl,by simpa using h.1,fun i a u h1 h2=>h.2 (i+1) a u (by simpa using h1) (by simpa using h2)⟩
theorem aw.append{E:Env}{w:World}{cs ds:List Value}{xs ys:List PV}(h:aw E w cs xs)(k:aw E w ds ys):aw E w (cs++ds) (xs++ys):=by
 refine⟨by simp[h.1,k.1],fun i a u h1 h2=>?_⟩
 by_cases hi:i<cs.length
 ·rw[List.getElem?_append_left hi]at h1
  rw[List.getElem?_append_left (by rw[←h.1];exact hi)]at h2
  exact h.2 i a u h1 h2
 ·rw[List.getElem?_append_right (by omega)]at h1
  rw[List.getElem?_append_right (by rw[←h.1];omega),←h.1]at h2
  exact k.2 _ a u h1 h2
theorem aw.set{E:Env}{w:World}{cs:List Value}{xs:List PV}(h:aw E w cs xs)(j:Nat){c:Value}{x:PV}(hx:bC E w c x):aw E w (cs.set j c) (xs.set j x):=by
 refine⟨by simp[h.1],fun i a u h1 h2=>?_⟩
 rw[List.getElem?_set]at h1 h2
 by_cases hj:j=i
 ·rw[if_pos hj]at h1 h2
  split at h1
  ·split at h2
   ·cases h1;cases h2;exact hx
   ·cases h2
  ·cases h1
 ·rw[if_neg hj]at h1 h2
  exact h.2 i a u h1 h2
theorem aw.take{E:Env}{w:World}{cs:List Value}{xs:List PV}(h:aw E w cs xs)(n:Nat):aw E w (cs.take n) (xs.take n):=by
 refine⟨by simp[h.1],fun i a u h1 h2=>?_⟩
 rw[List.getElem?_take]at h1 h2
 split at h1
 ·rename_i hi;rw[if_pos hi]at h2;exact h.2 i a u h1 h2
 ·cases h1
theorem aw.drop{E:Env}{w:World}{cs:List Value}{xs:List PV}(h:aw E w cs xs)(n:Nat):aw E w (cs.drop n) (xs.drop n):=by
 refine⟨by simp[h.1],fun i a u h1 h2=>?_⟩
 rw[List.getElem?_drop]at h1 h2
 exact h.2 _ a u h1 h2
theorem aw.get{E:Env}{w:World}{cs:List Value}{xs:List PV}(h:aw E w cs xs){i:Nat}{u:PV}(hu:xs[i]? =some u):∃c,cs[i]? =some c∧bC E w c u:=by
 have hi:i<cs.length:=by
  have:=(List.getElem?_eq_some_iff.1 hu).1
  rw[h.1];exact this
 exact⟨cs[i],by simp[hi],h.2 i _ u (by simp[hi]) hu⟩
inductive cB where
 |cells (t:TypeId) (xs:List PV)
 |row (e:TypeId) (size n:Nat) (xs:List PV)
 |mp (kv:List (Value×PV))
def dT(base:Nat)(E:Env)(w:World)(v:Value):cB→Prop
 | .cells t xs=>∃b cs,v= .pointer (some ⟨b,0,none⟩)∧base≤b∧w.heap[b]? =some (.cells cs t (0,0))∧aw E w cs.toList xs
 | .row e size n xs=>∃cs,w.ownsRow base e size v n cs∧aw E w cs xs
 | .mp kv=>∃r es clock,v= .map (some r)∧base≤r∧w.heap[r]? =some (.map es clock)∧es.toList.map (·.key)=kv.map (·.1)∧aw E w (es.toList.map (·.val)) (kv.map (·.2))
abbrev bo:=List (Option cB)
def lB(M:Nat→Prop)(w:World):Prop:=∀g cs,(g,cs)∈GG→¬M g∧∃t fz,w.heap[g]? =some (.cells cs.toArray t fz)
theorem lB.goes{E E':Env}{w w':World}(h:lB E.M w)(g:bM E w E' w'):lB E'.M w':=fun k cs hk=>by
 obtain⟨h2,t,fz,h3⟩:=h k cs hk
 have h1:=(Array.getElem?_eq_some_iff.1 h3).1
 exact⟨g.M k h1 h2,t,fz,by rw[g.heap k h1 h2];exact h3⟩
theorem lB.sub{M M':Nat→Prop}{w:World}(h:lB M w)(hM:∀b,M' b→M b):lB M' w:=fun k cs hk=>⟨fun hm=>(h k cs hk).1 (hM k hm),(h k cs hk).2⟩
structure Sat (F:Nat→Prop) (base:Nat) (σ:bo) (E:Env) (w:World):Prop where
 bl:base≤w.heap.size
 fb:∀b,F b→b<w.heap.size∧∀i blk,σ[i]? =some (some blk)→aB (E.at_ i)≠some b
 len:E.L=σ.length
 mm:∀b,E.M b↔F b∨∃i blk,σ[i]? =some (some blk)∧aB (E.at_ i)=some b
 blk:∀i blk,σ[i]? =some (some blk)→dT base E w (E.at_ i) blk
 inj:∀i j bi bj b,σ[i]? =some (some bi)→σ[j]? =some (some bj)→aB (E.at_ i)=some b→aB (E.at_ j)=some b→i=j
 gl:lB E.M w
theorem cZ{v:Value}{w:World}{base:Nat}{e:TypeId}{size n:Nat}{xs:List Value}(h:w.ownsRow base e size v n xs):aB v=v.ownBlock:=by
 rcases h.2 with⟨rfl,_⟩|⟨g,cap,cur,rfl,_⟩<;>rfl
theorem dT.lt{base:Nat}{E:Env}{w:World}{v:Value}{blk:cB}(h:dT base E w v blk){b:Nat}(hb:aB v=some b):base≤b∧b<w.heap.size:=by
 cases blk with
 |cells t xs=>
  obtain⟨b',cs,rfl,h1,h2,_⟩:=h
  simp[aB]at hb
  subst hb
  exact⟨h1,(Array.getElem?_eq_some_iff.1 h2).1⟩
 |row e size n xs=>
  obtain⟨cs,h1,_⟩:=h
  rw[cZ h1]at hb
  exact h1.lt b hb
 |mp kv=>
  obtain⟨r,es,ck,rfl,h1,h2,_⟩:=h
  simp[aB]at hb
  subst hb
  exact⟨h1,(Array.getElem?_eq_some_iff.1 h2).1⟩
theorem dT.goes{base:Nat}{E E':Env}{w w':World}(g:bM E w E' w'){v:Value}{blk:cB}(h:dT base E w v blk)(hb:∀b,aB v=some b→w'.heap[b]? =w.heap[b]?):dT base E' w' v blk:=by
 cases blk with
 |cells t xs=>
  obtain⟨b',cs,rfl,h1,h2,h3⟩:=h
  exact⟨b',cs,rfl,h1,by rw[hb b' rfl];exact h2,h3.goes g⟩
 |row e size n xs=>
  obtain⟨cs,h1,h2⟩:=h
  refine⟨cs,⟨h1.1,?_⟩,h2.goes g⟩
  rcases h1.2 with h|⟨g',cap,cur,rfl,k1,k2,k3⟩
  ·exact .inl h
  ·exact .inr ⟨g',cap,cur,rfl,k1,by rw[hb g' rfl];exact k2,k3⟩
 |mp kv=>
  obtain⟨r,es,ck,rfl,h1,h2,h3,h4⟩:=h
  exact⟨r,es,ck,rfl,h1,by rw[hb r rfl];exact h2,h3,h4.goes g⟩
theorem Sat.ext{F:Nat→Prop}{base:Nat}{σ:bo}{E:Env}{w w':World}(h:Sat F base σ E w)(hE:Ext w w'):Sat F base σ E w':=
 ⟨Nat.le_trans h.bl hE.size,fun b hb=>⟨Nat.lt_of_lt_of_le (h.fb b hb).1 hE.size,(h.fb b hb).2⟩,h.len,h.mm,fun i blk hi=>(h.blk i blk hi).goes (.ext hE) (fun b hb=>hE.block b ((h.blk i blk hi).lt hb).2),h.inj,h.gl.goes (.ext hE)⟩
theorem Sat.lt{F:Nat→Prop}{base:Nat}{σ:bo}{E:Env}{w:World}(h:Sat F base σ E w){b:Nat}(hb:E.M b):b<w.heap.size:=by
 rcases(h.mm b).1 hb with hf|⟨i,blk,hi,hb'⟩
 ·exact(h.fb b hf).1
 ·exact((h.blk i blk hi).lt hb').2
def EF(F:Nat→Prop):Env:=⟨0,fun _=>undef,F⟩
theorem Sat.start(F:Nat→Prop)(w:World)(hF:∀b,F b→b<w.heap.size)(hG:lB F w):Sat F w.heap.size [] (EF F) w:=
 ⟨Nat.le_refl _,fun b hb=>⟨hF b hb,fun i blk h=>by simp at h⟩,rfl,fun b=>by simp[EF],fun i blk h=>by simp at h,fun i j bi bj b h=>by simp at h,hG⟩
theorem bC.back{E:Env}{w:World}{v:Value}{p:PV}(h:bC (EF E.M) w v p):bC E w v p:=
 h.goes (E:=EF E.M) (E':=E) (w:=w) (w':=w) ⟨Nat.zero_le _,fun i hi=>absurd hi (Nat.not_lt_zero i),fun _ _ h=>h,Nat.le_refl _,fun _ _ _=>rfl⟩
abbrev a7:=List (Nat×PV)
def look(k:Nat):a7→Option PV
 | []=>none
 |(j,p)::t=>bif Nat.beq k j then some p else look k t
def dy(E:Env)(w:World)(ρ:Operand→Value)(t:a7):Prop:=∀k p,look k t=some p→bC E w (ρ (.tmp k)) p
theorem dy.goes{E E':Env}{w w':World}(g:bM E w E' w'){ρ:Operand→Value}{t:a7}(h:dy E w ρ t):dy E' w' ρ t:=fun k p hk=>(h k p hk).goes g
def ah(t:a7):Operand→Option PV
 | .tmp k=>look k t
 | .const v=>some (.raw v)
 | .global g=>some (.raw (.pointer (some ⟨g,0,none⟩)))
 | .func f=>some (.func f [])
theorem ae{E:Env}{w:World}{ρ:Operand→Value}{t:a7}(hρ:ec ρ)(h:dy E w ρ t){x:Operand}{p:PV}(hx:ah t x=some p):bC E w (ρ x) p:=by
 match x,hx with
 | .tmp k,hx=>exact h k p hx
 | .const v,hx=>simp[ah]at hx;subst hx;rw[hρ.const];exact .raw v
 | .global g,hx=>simp[ah]at hx;subst hx;rw[hρ.gY];exact .raw _
 | .func f,hx=>simp[ah]at hx;subst hx;rw[hρ.func];exact .func f #[] [] rfl (fun i x u h=>by simp at h)
def je(p q:PV):Prop:=∀E w v,bC E w v p→bC E w v q
theorem je.refl(p:PV):je p p:=fun _ _ _ h=>h
theorem je.bY:je (.raw (.slice none 0 0)) (.slice 0 []):=fun _ _ _ h=>by cases h;exact .bY
class IsPure (p:PV):Prop where
 out:∀(E:Env) (F:Nat→Prop) (w:World) (v:Value),(∀b,F b→E.M b)→bC E w v p→bC (EF F) w v p
class ao (xs:List PV):Prop where
 out:∀(i:Nat) u,xs[i]? =some u→IsPure u
instance:IsPure .any:=⟨fun _ _ _ v _ _=>.any v⟩
instance (v:Value):IsPure (.raw v):=⟨fun _ _ _ _ _ h=>by cases h;exact .raw v⟩
instance:ao []:=⟨fun i u h=>by simp at h⟩
instance (x:PV) (xs:List PV) [h:IsPure x] [hs:ao xs]:ao (x::xs):=⟨fun i u hu=>by
 cases i with
 |zero=>simp at hu;subst hu;exact h
 |succ i=>exact hs.out i u (by simpa using hu)⟩
instance (xs ys:List PV) [h:ao xs] [hs:ao ys]:ao (xs++ys):=⟨fun i u hu=>by
 by_cases hi:i<xs.length
 ·rw[List.getElem?_append_left hi]at hu;exact h.out i u hu
 ·rw[List.getElem?_append_right (by omega)]at hu;exact hs.out _ u hu⟩
theorem ao.map{α:Type}(f:α→PV)(l:List α)(h:∀a,IsPure (f a)):ao (l.map f):=⟨fun i u hu=>by
 simp only[List.getElem?_map,Option.map_eq_some_iff]at hu
 obtain⟨a,_,rfl⟩:=hu
 exact h a⟩
theorem ao.flatMap{α:Type}(f:α→List PV)(l:List α)(h:∀a,ao (f a)):ao (l.flatMap f):=⟨fun i u hu=>by
 have hm:u∈l.flatMap f:=List.mem_of_getElem? hu
 obtain⟨a,_,ha⟩:=List.mem_flatMap.1 hm
 obtain⟨j,hj⟩:=List.getElem?_of_mem ha
 exact(h a).out j u hj⟩
instance (n:Nat) (xs:List PV) [h:ao xs]:IsPure (.slice n xs):=⟨fun E F w v hF hv=>by
 cases hv with
 |bY=>exact .bY
 |empty a c hc=>exact .empty a c hc
 |slice b off _ c cs _ h0 h1 h2 hb hM hc hl hr=>exact .slice b off n c cs xs h0 h1 h2 hb (fun hf=>hM (hF b hf)) hc hl (fun i x u k1 k2=>(h.out i u k2).out E F w x hF (hr i x u k1 k2))⟩
instance (xs:List PV) (k:Nat) [h:ao xs]:IsPure (.b6 xs k):=⟨fun E F w v hF hv=>by
 cases hv with
 |b6 b o' _ cs _ hb hM hc hl hr=>exact .b6 b o' k cs xs hb (fun hf=>hM (hF b hf)) hc hl (fun i x u k1 k2=>(h.out i u k2).out E F w x hF (hr i x u k1 k2))⟩
instance (xs:List PV) [h:ao xs]:IsPure (.agg xs):=⟨fun E F w v hF hv=>by
 cases hv with
 |agg cs _ hl hr=>exact .agg cs xs hl (fun i x u k1 k2=>(h.out i u k2).out E F w x hF (hr i x u k1 k2))⟩
instance (xs:List PV) [h:ao xs]:IsPure (.tuple xs):=⟨fun E F w v hF hv=>by
 cases hv with
 |tuple cs _ hl hr=>exact .tuple cs xs hl (fun i x u k1 k2=>(h.out i u k2).out E F w x hF (hr i x u k1 k2))⟩
instance (f:FuncId) (xs:List PV) [h:ao xs]:IsPure (.func f xs):=⟨fun E F w v hF hv=>by
 cases hv with
 |func _ cs _ hl hr=>exact .func f cs xs hl (fun i x u k1 k2=>(h.out i u k2).out E F w x hF (hr i x u k1 k2))⟩
theorem aw.pure{E:Env}{F:Nat→Prop}{w:World}{cs:List Value}{xs:List PV}[h:ao xs](hF:∀b,F b→E.M b)(hs:aw E w cs xs):aw (EF F) w cs xs:=
 ⟨hs.1,fun i x u k1 k2=>(h.out i u k2).out E F w x hF (hs.2 i x u k1 k2)⟩
class gd (p:PV):Prop where
 out:∀(E E':Env) (w w':World) (v:Value),bC E w v p→bC E' w' v p
class gQ (xs:List PV):Prop where
 out:∀(i:Nat) u,xs[i]? =some u→gd u
instance (v:Value):gd (.raw v):=⟨fun _ _ _ _ _ h=>by cases h;exact .raw v⟩
instance:gQ []:=⟨fun i u h=>by simp at h⟩
instance (x:PV) (xs:List PV) [h:gd x] [hs:gQ xs]:gQ (x::xs):=⟨fun i u hu=>by
 cases i with
 |zero=>simp at hu;subst hu;exact h
 |succ i=>exact hs.out i u (by simpa using hu)⟩
instance (xs:List PV) [h:gQ xs]:gd (.agg xs):=⟨fun E E' w w' v hv=>by
 cases hv with
 |agg cs _ hl hr=>exact .agg cs xs hl (fun i x u k1 k2=>(h.out i u k2).out E E' w w' x (hr i x u k1 k2))⟩
instance (xs:List PV) [h:gQ xs]:gd (.tuple xs):=⟨fun E E' w w' v hv=>by
 cases hv with
 |tuple cs _ hl hr=>exact .tuple cs xs hl (fun i x u k1 k2=>(h.out i u k2).out E E' w w' x (hr i x u k1 k2))⟩
class cN (p:PV):Prop where
 out:∀(E:Env) (w:World) (v:Value),bC E w v p→v.oneCell'=true
class ba (xs:List PV):Prop where
 out:∀(i:Nat) u,xs[i]? =some u→cN u
instance (k:IntKind) (n:Int):cN (.raw (.int k n)):=⟨fun _ _ _ h=>by cases h;rfl⟩
instance (b:Bool):cN (.raw (.bool b)):=⟨fun _ _ _ h=>by cases h;rfl⟩
instance (b:ByteArray):cN (.raw (.string b)):=⟨fun _ _ _ h=>by cases h;rfl⟩
instance (a:Option Addr) (n c:Nat):cN (.raw (.slice a n c)):=⟨fun _ _ _ h=>by cases h;rfl⟩
instance (a:Option Addr):cN (.raw (.pointer a)):=⟨fun _ _ _ h=>by cases h;rfl⟩
instance (n:Nat) (xs:List PV):cN (.slice n xs):=⟨fun _ _ _ h=>by cases h<;>rfl⟩
instance (xs:List PV) (k:Nat):cN (.b6 xs k):=⟨fun _ _ _ h=>by cases h;rfl⟩
instance (f:FuncId) (xs:List PV):cN (.func f xs):=⟨fun _ _ _ h=>by cases h;rfl⟩
instance (i k:Nat):cN (.ptr i k):=⟨fun _ _ _ h=>by cases h;rfl⟩
instance (i:Nat):cN (.own i):=⟨fun _ _ _ h=>by cases h with|own _ _ _ _ hs=>exact hs⟩
instance:ba []:=⟨fun i u h=>by simp at h⟩
instance (x:PV) (xs:List PV) [h:cN x] [hs:ba xs]:ba (x::xs):=⟨fun i u hu=>by
 cases i with
 |zero=>simp at hu;subst hu;exact h
 |succ i=>exact hs.out i u (by simpa using hu)⟩
theorem ba.map{α:Type}(f:α→PV)(l:List α)(h:∀a,cN (f a)):ba (l.map f):=⟨fun i u hu=>by
 simp only[List.getElem?_map,Option.map_eq_some_iff]at hu
 obtain⟨a,_,rfl⟩:=hu
 exact h a⟩
theorem ba.flatMap{α:Type}(f:α→List PV)(l:List α)(h:∀a,ba (f a)):ba (l.flatMap f):=⟨fun i u hu=>by
 have hm:u∈l.flatMap f:=List.mem_of_getElem? hu
 obtain⟨a,_,ha⟩:=List.mem_flatMap.1 hm
 obtain⟨j,hj⟩:=List.getElem?_of_mem ha
 exact(h a).out j u hj⟩
instance (xs:List PV) (n:Nat) [h:ba xs]:ba (xs.take n):=⟨fun i u hu=>by
 rw[List.getElem?_take]at hu
 split at hu
 ·exact h.out i u hu
 ·cases hu⟩
instance (xs:List PV) (n:Nat) [h:ba xs]:ba (xs.drop n):=⟨fun i u hu=>by
 rw[List.getElem?_drop]at hu;exact h.out _ u hu⟩
instance (xs:List PV) (n:Nat) [h:ao xs]:ao (xs.take n):=⟨fun i u hu=>by
 rw[List.getElem?_take]at hu
 split at hu
 ·exact h.out i u hu
 ·cases hu⟩
instance (xs:List PV) (n:Nat) [h:ao xs]:ao (xs.drop n):=⟨fun i u hu=>by
 rw[List.getElem?_drop]at hu;exact h.out _ u hu⟩
theorem aw.qo{E:Env}{w:World}{cs:List Value}{xs:List PV}[h:ba xs](hs:aw E w cs xs):∀c∈cs,c.oneCell'=true:=by
 intro c hc
 obtain⟨i,hi⟩:=List.getElem?_of_mem hc
 have hlt:=(List.getElem?_eq_some_iff.1 hi).1
 rw[hs.1]at hlt
 exact(h.out i xs[i] (by simp[hlt])).out E w c (hs.2 i c _ hi (by simp[hlt]))
def dR(t:a7):List Operand→Option (List PV)
 | []=>some []
 |x::l=>match ah t x,dR t l with
  |some p,some q=>some (p::q)
  |_,_=>none
theorem er{E:Env}{w:World}{ρ:Operand→Value}{t:a7}(hρ:ec ρ)(h:dy E w ρ t):∀ {l:List Operand} {ps:List PV},dR t l=some ps→aw E w (l.map ρ) ps
 | [],ps,hx=>by simp[dR]at hx;subst hx;exact aw.nil E w
 |x::l,ps,hx=>by
  simp only[dR]at hx
  split at hx
  ·rename_i p q hp hq
   cases hx
   exact aw.cons (ae hρ h hp) (er hρ h hq)
  ·cases hx
def az(P:Program)(σ:bo)(t:a7)(o:Oper)(p:PV):Prop:=
 ∀F base E ρ w,ec ρ→Sat F base σ E w→dy E w ρ t→cQ P w (fun v w'=>bC E w' v p) ((execOp ρ o).run P w)
end PW
end Go.Proofs.YtnegbdpggideiaaDoor
namespace Go.Proofs.YtnegbdpggideiaaDoor
namespace PW
open Go.RowKit aN Mem
section
variable {P:Program} {σ:bo} {t:a7} {o:Oper}
theorem aA{w:World}{Φ:bd}{v:Value}(h:Φ v w):cQ P w Φ (.ok (.value v) w):=⟨Ext.refl _,h⟩
theorem cO{x:Operand}{p:PV}(ho:o.op= .move x)(hx:ah t x=some p):az P σ t o p:=by
 intro F base E ρ w hρ _ hT
 have h:=ae hρ hT hx
 simp only[execOp,ho,Sem.run_pure]
 exact aA h
theorem cf{x:Operand}{p:PV}(ho:o.op= .assign x)(hx:ah t x=some p):az P σ t o p:=by
 intro F base E ρ w hρ _ hT
 have h:=ae hρ hT hx
 simp only[execOp,ho,Sem.run_pure]
 exact aA h
theorem vN{c a b:Operand}{p:PV}(ho:o.op= .pick c a b)(hc:ah t c=some (.raw (.bool true)))(hx:ah t a=some p):az P σ t o p:=by
 intro F base E ρ w hρ _ hT
 have h:=ae hρ hT hx
 have h1:=ae hρ hT hc
 generalize hz:ρ c=z at h1
 cases h1
 simp only[execOp,ho,hz,asBool,Sem.run_bind,Sem.run_pure,Result.andThen_ok,if_true]
 exact aA h
theorem u5{c a b:Operand}{p:PV}(ho:o.op= .pick c a b)(hc:ah t c=some (.raw (.bool false)))(hx:ah t b=some p):az P σ t o p:=by
 intro F base E ρ w hρ _ hT
 have h:=ae hρ hT hx
 have h1:=ae hρ hT hc
 generalize hz:ρ c=z at h1
 cases h1
 simp only[execOp,ho,hz,asBool,Sem.run_bind,Sem.run_pure,Result.andThen_ok]
 exact aA h
theorem xH{x:Operand}{ty:TypeId}{q:Bool}(ho:o.op= .unOp .not ty x)(hx:ah t x=some (.raw (.bool q))):az P σ t o (.raw (.bool (!q))):=by
 intro F base E ρ w hρ _ hT
 have h1:=ae hρ hT hx
 generalize hz:ρ x=z at h1
 cases h1
 simp only[execOp,ho,hz,Op.unary,Sem.run_bind,Sem.run_pure,Result.andThen_ok]
 exact aA (.raw _)
theorem fN{op:BinOp}{x y:Operand}{ty tz:TypeId}{k:IntKind}{a b:Int}{v:Value}(ho:o.op= .binOp op ty x y tz)(hx:ah t x=some (.raw (.int k a)))(hy:ah t y=some (.raw (.int k b)))
  (hv:∀w,(binOp op ty (.int k a) (.int k b)).run P w= .ok v w):az P σ t o (.raw v):=by
 intro F base E ρ w hρ _ hT
 have h1:=ae hρ hT hx
 have h2:=ae hρ hT hy
 generalize hz:ρ x=z at h1
 generalize hz':ρ y=z' at h2
 cases h1
 cases h2
 have hg:∀w,(eqGuard op ty x y (.int k a) (.int k b)).run P w= .ok () w:=by
  intro w;unfold eqGuard;split<;>rfl
 simp only[execOp,ho,hz,hz',Sem.run_bind,Sem.run_pure,Result.andThen_ok,hg,hv]
 exact aA (.raw _)
theorem xN{x y:Operand}{ty tz:TypeId}{k:IntKind}{a b:Int}{q:Bool}(ho:o.op= .binOp .lss ty x y tz)(hx:ah t x=some (.raw (.int k a)))(hy:ah t y=some (.raw (.int k b)))(hq:decide (a<b)=q):az P σ t o (.raw (.bool q)):=
 fN ho hx hy fun w=>by simp[binOp,Op.intCmp,hq]
theorem xB{x y:Operand}{ty tz:TypeId}{k:IntKind}{a b:Int}{q:Bool}(ho:o.op= .binOp .leq ty x y tz)(hx:ah t x=some (.raw (.int k a)))(hy:ah t y=some (.raw (.int k b)))(hq:decide (a≤b)=q):az P σ t o (.raw (.bool q)):=
 fN ho hx hy fun w=>by simp[binOp,Op.intCmp,hq]
theorem x3{x y:Operand}{ty tz:TypeId}{k:IntKind}{a b:Int}{q:Bool}(ho:o.op= .binOp .gtr ty x y tz)(hx:ah t x=some (.raw (.int k a)))(hy:ah t y=some (.raw (.int k b)))(hq:decide (b<a)=q):az P σ t o (.raw (.bool q)):=
 fN ho hx hy fun w=>by simp[binOp,Op.intCmp,hq]
theorem xy{x y:Operand}{ty tz:TypeId}{k:IntKind}{a b:Int}{q:Bool}(ho:o.op= .binOp .geq ty x y tz)(hx:ah t x=some (.raw (.int k a)))(hy:ah t y=some (.raw (.int k b)))(hq:decide (b≤a)=q):az P σ t o (.raw (.bool q)):=
 fN ho hx hy fun w=>by simp[binOp,Op.intCmp,hq]
theorem yd{x y:Operand}{ty tz:TypeId}{k:IntKind}{a b:Int}{q:Bool}(ho:o.op= .binOp .eql ty x y tz)(hx:ah t x=some (.raw (.int k a)))(hy:ah t y=some (.raw (.int k b)))(hq:decide (a=b)=q):az P σ t o (.raw (.bool q)):=
 fN ho hx hy fun w=>by subst hq;simp[binOp,Op.intCmp];exact Bool.eq_iff_iff.2 (by simp)
theorem xJ{x y:Operand}{ty tz:TypeId}{k:IntKind}{a b:Int}{q:Bool}(ho:o.op= .binOp .neq ty x y tz)(hx:ah t x=some (.raw (.int k a)))(hy:ah t y=some (.raw (.int k b)))(hq:decide (a≠b)=q):az P σ t o (.raw (.bool q)):=
 fN ho hx hy fun w=>by subst hq;simp[binOp,Op.intCmp];exact Bool.eq_iff_iff.2 (by simp)
def In64(n:Int):Prop:= -9223372036854775808≤n∧n≤9223372036854775807
theorem jg{n:Int}(h:In64 n):IntKind.i64.wrap n=n:=IntWalk.i64_in n (by unfold In64 at h;omega)
theorem xM{x y:Operand}{ty tz:TypeId}{a b c:Int}(ho:o.op= .binOp .add ty x y tz)(hx:ah t x=some (.raw (.int .i64 a)))(hy:ah t y=some (.raw (.int .i64 b)))(hc:a+b=c)(hn:In64 c):az P σ t o (.raw (.int .i64 c)):=
 fN ho hx hy fun w=>by simp[binOp,Op.intArith,hc,jg hn]
theorem xL{x y:Operand}{ty tz:TypeId}{a b c:Int}(ho:o.op= .binOp .sub ty x y tz)(hx:ah t x=some (.raw (.int .i64 a)))(hy:ah t y=some (.raw (.int .i64 b)))(hc:a - b=c)(hn:In64 c):az P σ t o (.raw (.int .i64 c)):=
 fN ho hx hy fun w=>by simp[binOp,Op.intArith,hc,jg hn]
theorem x5{x y:Operand}{ty tz:TypeId}{a b c:Int}(ho:o.op= .binOp .mul ty x y tz)(hx:ah t x=some (.raw (.int .i64 a)))(hy:ah t y=some (.raw (.int .i64 b)))(hc:a*b=c)(hn:In64 c):az P σ t o (.raw (.int .i64 c)):=
 fN ho hx hy fun w=>by simp[binOp,Op.intArith,hc,jg hn]
theorem ig{x y:Operand}{ty tz:TypeId}{a b c:Int}(ho:o.op= .binOp .quo ty x y tz)(hx:ah t x=some (.raw (.int .i64 a)))(hy:ah t y=some (.raw (.int .i64 b)))(hb:b≠0)(hc:a.tdiv b=c)(hn:In64 c):az P σ t o (.raw (.int .i64 c)):=
 fN ho hx hy fun w=>by simp[binOp,Op.intDiv,hb,hc,jg hn]
theorem kM{x y:Operand}{ty tz:TypeId}{a b c:Int}(ho:o.op= .binOp .rem ty x y tz)(hx:ah t x=some (.raw (.int .i64 a)))(hy:ah t y=some (.raw (.int .i64 b)))(hb:b≠0)(hc:a.tmod b=c):az P σ t o (.raw (.int .i64 c)):=
 fN ho hx hy fun w=>by simp[binOp,Op.intDiv,hb,hc]
theorem tF{op:BinOp}{x y:Operand}{ty tz:TypeId}{a b v:Value}(ho:o.op= .binOp op ty x y tz)(hx:ah t x=some (.raw a))(hy:ah t y=some (.raw b))
  (hv:∀w,(do eqGuard op ty x y a b;binOp op ty a b:Sem Value).run P w= .ok v w):az P σ t o (.raw v):=by
 intro F base E ρ w hρ _ hT
 have h1:=ae hρ hT hx
 have h2:=ae hρ hT hy
 generalize hz:ρ x=z at h1
 generalize hz':ρ y=z' at h2
 cases h1
 cases h2
 have hv':=hv w
 simp only[execOp,ho,hz,hz',Sem.run_bind]at hv' ⊢
 rw[hv']
 exact aA (.raw _)
theorem tD{x:Operand}{xs:List PV}{off:Nat}(ho:o.op= .nilCheck x)(hx:ah t x=some (.b6 xs off)):az P σ t o (.b6 xs off):=by
 intro F base E ρ w hρ _ hT
 have h1:=ae hρ hT hx
 have h2:=h1
 generalize hz:ρ x=z at h1 h2
 cases h1
 simp only[execOp,ho,hz,Sem.run_pure]
 exact aA h2
theorem ew{x:Operand}{i off:Nat}(ho:o.op= .nilCheck x)(hx:ah t x=some (.ptr i off)):az P σ t o (.ptr i off):=by
 intro F base E ρ w hρ _ hT
 have h1:=ae hρ hT hx
 have h2:=h1
 generalize hz:ρ x=z at h1 h2
 cases h1
 simp only[execOp,ho,hz,Sem.run_pure]
 exact aA h2
theorem r9{x:Operand}{f:FuncId}{cap:List PV}(ho:o.op= .nilCheck x)(hx:ah t x=some (.func f cap)):az P σ t o (.func f cap):=by
 intro F base E ρ w hρ _ hT
 have h1:=ae hρ hT hx
 have h2:=h1
 generalize hz:ρ x=z at h1 h2
 cases h1
 simp only[execOp,ho,hz,Sem.run_pure]
 exact aA h2
def fv(P:Program)(s f:Nat):Option Nat:=
 match P.underlying s with
 |some (.struct fs)=>match(fs[f]? :Option Field)with
  |some fl=>match P.info? fl.type with
   |some i=>if i.size=0 then none else some fl.offset
   |none=>none
  |none=>none
 |_=>none
theorem j4{s f off:Nat}(h:fv P s f=some off)(b o:Nat)(w:World):(Instr.fieldAt s (.pointer (some ⟨b,o,none⟩)) f).run P w= .ok (.pointer (some ⟨b,o+off,none⟩)) w:=by
 unfold fv at h
 split at h
 ·rename_i fs hu
  split at h
  ·rename_i fl hf
   split at h
   ·rename_i i hi
    split at h
    ·cases h
    ·rename_i hs
     cases h
     simp[Instr.fieldAt,run_underlying hu,hf,Instr.sureAddr,fieldPlace,sizeOf,typeInfo,hi,hs,Addr.add_lit,program,Sem.run]
   ·cases h
  ·cases h
 ·cases h
theorem p9{s f off:Nat}{x:Operand}{xs:List PV}{k:Nat}(ho:o.op= .fieldAddr s x f)(hf:fv P s f=some off)(hx:ah t x=some (.b6 xs k)):az P σ t o (.b6 xs (k+off)):=by
 intro F base E ρ w hρ _ hT
 have h1:=ae hρ hT hx
 generalize hz:ρ x=z at h1
 cases h1 with
 |b6 b o' _ cs _ hb hM hc hl hr=>
  simp only[execOp,ho,hz,Sem.run_bind,j4 hf,Result.andThen_ok,Sem.run_pure]
  refine aA ?_
  rw[Nat.add_assoc]
  exact .b6 b o' _ cs xs hb hM hc hl hr
theorem pv{s f off:Nat}{x:Operand}{i k:Nat}(ho:o.op= .fieldAddr s x f)(hf:fv P s f=some off)(hx:ah t x=some (.ptr i k)):az P σ t o (.ptr i (k+off)):=by
 intro F base E ρ w hρ _ hT
 have h1:=ae hρ hT hx
 generalize hz:ρ x=z at h1
 cases h1 with
 |ptr _ _ b hi h=>
  simp only[execOp,ho,hz,Sem.run_bind,j4 hf,Result.andThen_ok,Sem.run_pure]
  exact aA (.ptr i _ b hi h)
def nv(P:Program)(ty:TypeId):Option (Option Nat):=
 match P.underlying ty,P.info? ty with
 |some d,some i=>match d with
  | .struct _| .array _ _=>some (some i.size)
  |_=>if i.size=1 then some none else none
 |_,_=>none
theorem run_loadCellsFrom(a:Addr)(ha:a.spot=none):∀(cs:List Value) (i:Nat) (acc:Array Value) (w:World),(∀j x,cs[j]? =some x→w.cell? ⟨a.block,a.off+(i+j),none⟩=some x)→
  (loadCellsFrom a i cs.length acc).run P w= .ok (acc++cs.toArray) w
 | [],i,acc,w,_=>by simp[loadCellsFrom]
 |c::cs,i,acc,w,h=>by
  have h0:=h 0 c rfl
  have ea:a.add i=⟨a.block,a.off+i,none⟩:=by
   unfold Addr.add;split
   ·rename_i hi;subst hi;cases a;simp at ha;subst ha;rfl
   ·rfl
  have ih:=run_loadCellsFrom a ha cs (i+1) (acc.push c) w (fun j x hx=>by
   have:=h (j+1) x (by simpa using hx)
   rw[show i+1+j=i+(j+1) by omega];exact this)
  simp only[List.length_cons,loadCellsFrom,Sem.run_bind,load,Sem.run,ea]
  rw[show a.off+(i+0)=a.off+i by omega]at h0
  rw[h0]
  simp only[Result.andThen_ok,ih]
  simp
theorem fT{ty n b off:Nat}{cs:List Value}{w:World}(hk:nv P ty=some (some n))(hl:cs.length=n)(hc:∀(j:Nat) x,cs[j]? =some x→w.cell? ⟨b,off+j,none⟩=some x):
  (Instr.loadAt ty (.pointer (some ⟨b,off,none⟩))).run P w= .ok (.agg cs.toArray) w:=by
 have hlc:=run_loadCellsFrom (P:=P) ⟨b,off,none⟩ rfl cs 0 #[] w (fun j x hx=>by rw[Nat.zero_add];exact hc j x hx)
 rw[hl]at hlc
 unfold nv at hk
 split at hk
 ·rename_i d i hu hi
  split at hk
  ·cases hk
   simp[Instr.loadAt,Instr.sureAddr,loadVar,isAgg,run_underlying hu,sizeOf,typeInfo,hi,program,Sem.run,loadCells,hlc]
  ·cases hk
   simp[Instr.loadAt,Instr.sureAddr,loadVar,isAgg,run_underlying hu,sizeOf,typeInfo,hi,program,Sem.run,loadCells,hlc]
  ·split at hk<;>cases hk
 ·cases hk
theorem gA{ty b off:Nat}{c:Value}{w:World}(hk:nv P ty=some none)(hc:w.cell? ⟨b,off,none⟩=some c):
  (Instr.loadAt ty (.pointer (some ⟨b,off,none⟩))).run P w= .ok c w:=by
 unfold nv at hk
 split at hk
 ·rename_i d i hu hi
  split at hk
  ·cases hk
  ·cases hk
  ·rename_i h1 h2
   have ha:∀w,(isAgg ty).run P w= .ok false w:=by
    intro w
    unfold isAgg
    simp only[Sem.run_bind,run_underlying hu,Result.andThen_ok]
    rfl
   simp only[Instr.loadAt,Instr.sureAddr,loadVar,Sem.run_bind,Sem.run_pure,Result.andThen_ok,ha]
   simp[load,Sem.run,hc]
 ·cases hk
theorem mi{ty:TypeId}{x:Operand}{xs:List PV}{k:Nat}{p:PV}(ho:o.op= .load ty x)(hk:nv P ty=some none)(hx:ah t x=some (.b6 xs k))(hp:xs[k]? =some p):az P σ t o p:=by
 intro F base E ρ w hρ _ hT
 have h1:=ae hρ hT hx
 generalize hz:ρ x=z at h1
 cases h1 with
 |b6 b o' _ cs _ hb hM hc hl hr=>
  obtain⟨c,hcc,hcr⟩:=aw.get (E:=E) (w:=w) ⟨hl,hr⟩ hp
  simp only[execOp,ho,hz,Sem.run_bind,gA hk (hc k c hcc),Result.andThen_ok,Sem.run_pure]
  exact aA hcr
theorem jf{ty n:Nat}{x:Operand}{xs ys:List PV}{k:Nat}(ho:o.op= .load ty x)(hk:nv P ty=some (some n))(hx:ah t x=some (.b6 xs k))(hp:(xs.drop k).take n=ys)(hn:ys.length=n):az P σ t o (.agg ys):=by
 intro F base E ρ w hρ _ hT
 have h1:=ae hρ hT hx
 generalize hz:ρ x=z at h1
 cases h1 with
 |b6 b o' _ cs _ hb hM hc hl hr=>
  have hR:aw E w ((cs.drop k).take n) ys:=by rw[←hp];exact(aw.drop (E:=E) (w:=w) ⟨hl,hr⟩ k).take n
  have:=fT (P:=P) (w:=w) (b:=b) (off:=o'+k) (cs:=(cs.drop k).take n) hk (by rw[hR.1,hn]) (fun j x hx=>by
   rw[List.getElem?_take]at hx
   split at hx
   ·rw[List.getElem?_drop]at hx;rw[Nat.add_assoc];exact hc _ x hx
   ·cases hx)
  simp only[execOp,ho,hz,Sem.run_bind,this,Result.andThen_ok,Sem.run_pure]
  exact aA (.agg _ ys (by simpa using hR.1) (fun i x u h1 h2=>hR.2 i x u (by simpa using h1) h2))
def cB.xs:cB→List PV
 | .cells _ xs=>xs
 | .row _ _ _ xs=>xs
 | .mp _=>[]
theorem Sat.cells{F:Nat→Prop}{base:Nat}{E:Env}{w:World}(h:Sat F base σ E w){i b:Nat}{blk:cB}(hi:σ[i]? =some (some blk))(hb:E.at_ i= .pointer (some ⟨b,0,none⟩)∨∃n c,E.at_ i= .slice (some ⟨b,0,none⟩) n c):
  ∃cs,aw E w cs blk.xs∧∀(j:Nat) x,cs[j]? =some x→w.cell? ⟨b,j,none⟩=some x:=by
 have hB:=h.blk i blk hi
 cases blk with
 |cells ty xs=>
  obtain⟨b',cs,he,h1,h2,h3⟩:=hB
  have:b=b':=by
   rcases hb with hb|⟨n,c,hb⟩
   ·rw[hb]at he;simpa using he
   ·rw[hb]at he;cases he
  subst this
  exact⟨cs.toList,h3,fun j x hx=>by simp only[World.cell?,h2];simpa using hx⟩
 |row e size n xs=>
  obtain⟨cs,h1,h2⟩:=hB
  refine⟨cs,h2,fun j x hx=>?_⟩
  have:=h1.cells (g:=b) (by
   rcases hb with hb|⟨n,c,hb⟩
   ·have:=cZ h1;rw[hb]at this ⊢;simp[aB]at this;rw[←this]
   ·rw[hb];rfl) j x hx
  rw[Addr.add_lit]at this
  simpa using this
 |mp kv=>exact⟨[],aw.nil _ _,fun j x hx=>by simp at hx⟩
theorem dB{ty:TypeId}{x:Operand}{i k:Nat}{blk:cB}{p:PV}(ho:o.op= .load ty x)(hk:nv P ty=some none)(hx:ah t x=some (.ptr i k))(hi:σ[i]? =some (some blk))(hp:blk.xs[k]? =some p):az P σ t o p:=by
 intro F base E ρ w hρ hS hT
 have h1:=ae hρ hT hx
 generalize hz:ρ x=z at h1
 cases h1 with
 |ptr _ _ b hiL h=>
  obtain⟨cs,hR,hc⟩:=hS.cells hi h
  obtain⟨c,hcc,hcr⟩:=hR.get hp
  simp only[execOp,ho,hz,Sem.run_bind,gA hk (hc k c hcc),Result.andThen_ok,Sem.run_pure]
  exact aA hcr
theorem ei{ty n:Nat}{x:Operand}{i k:Nat}{blk:cB}{ys:List PV}(ho:o.op= .load ty x)(hk:nv P ty=some (some n))(hx:ah t x=some (.ptr i k))(hi:σ[i]? =some (some blk))(hp:(blk.xs.drop k).take n=ys)(hn:ys.length=n):az P σ t o (.agg ys):=by
 intro F base E ρ w hρ hS hT
 have h1:=ae hρ hT hx
 generalize hz:ρ x=z at h1
 cases h1 with
 |ptr _ _ b hiL h=>
  obtain⟨cs,hR',hc⟩:=hS.cells hi h
  have hR:aw E w ((cs.drop k).take n) ys:=by rw[←hp];exact(hR'.drop k).take n
  have:=fT (P:=P) (w:=w) (b:=b) (off:=k) (cs:=(cs.drop k).take n) hk (by rw[hR.1,hn]) (fun j x hx=>by
   rw[List.getElem?_take]at hx
   split at hx
   ·rw[List.getElem?_drop]at hx;exact hc _ x hx
   ·cases hx)
  simp only[execOp,ho,hz,Sem.run_bind,this,Result.andThen_ok,Sem.run_pure]
  exact aA (.agg _ ys (by simpa using hR.1) (fun i x u h1 h2=>hR.2 i x u (by simpa using h1) h2))
def pE(P:Program)(ty:TypeId):Option (TypeId×Nat):=
 match P.underlying ty with
 |some (.slice e)=>match P.info? e with
  |some i=>some (e,i.size)
  |none=>none
 |_=>none
theorem dS{ty e s:Nat}(h:pE P ty=some (e,s)):P.underlying ty=some (.slice e)∧∃i,P.info? e=some i∧i.size=s:=by
 unfold pE at h
 split at h
 ·rename_i e' hu
  split at h
  ·rename_i i hi;cases h;exact⟨hu,i,hi,rfl⟩
  ·cases h
 ·cases h
theorem jS{ty e s b off n c:Nat}{k:IntKind}{i:Int}{w:World}(h:pE P ty=some (e,s))(hi:0≤i)(hn:i<n):
  (Instr.indexAt ty (.slice (some ⟨b,off,none⟩) n c) (.int k i)).run P w= .ok (.pointer (some ⟨b,off+i.toNat*s,none⟩)) w:=by
 obtain⟨hu,inf,hinf,hs⟩:=dS h
 simp[Instr.indexAt,asIntOf,run_underlying hu,hi,hn,sizeOf,typeInfo,hinf,hs,Addr.add_lit,program,Sem.run]
theorem nm{ty e s n:Nat}{x ix:Operand}{xs:List PV}{k:IntKind}{i:Int}{j:Nat}(ho:o.op= .indexAddr ty x ix)(he:pE P ty=some (e,s))(hx:ah t x=some (.slice n xs))(hix:ah t ix=some (.raw (.int k i)))(hi:0≤i)(hn:i<n)(hj:i.toNat*s=j):az P σ t o (.b6 xs j):=by
 intro F base E ρ w hρ _ hT
 have h1:=ae hρ hT hx
 have h2:=ae hρ hT hix
 generalize hz:ρ x=z at h1
 generalize hz':ρ ix=z' at h2
 cases h2
 cases h1 with
 |bY=>omega
 |empty a c h=>omega
 |slice b off _ c cs _ h0 h1 h2 hb hM hc hl hr=>
  simp only[execOp,ho,hz,hz',Sem.run_bind,jS he hi hn,Result.andThen_ok,Sem.run_pure,hj]
  exact aA (.b6 b off j cs xs hb hM hc hl hr)
theorem pO{ty e s n e' s':Nat}{x ix:Operand}{xs:List PV}{k:IntKind}{i:Int}{m j:Nat}(ho:o.op= .indexAddr ty x ix)(he:pE P ty=some (e,s))(hx:ah t x=some (.own m))(hm:σ[m]? =some (some (.row e' s' n xs)))(hix:ah t ix=some (.raw (.int k i)))(hi:0≤i)(hn:i<n)(hj:i.toNat*s=j):az P σ t o (.ptr m j):=by
 intro F base E ρ w hρ hS hT
 have h1:=ae hρ hT hx
 have h2:=ae hρ hT hix
 generalize hz:ρ x=z at h1
 generalize hz':ρ ix=z' at h2
 cases h2
 cases h1 with
 |own _ hmL _ h _=>
  obtain⟨cs,k1,k2⟩:=hS.blk m _ hm
  rcases k1.2 with⟨_,h0⟩|⟨g,cap,cur,hv,_⟩
  ·omega
  ·rw[hv]at h
   subst h
   simp only[execOp,ho,hz,hz',Sem.run_bind,jS he hi hn,Result.andThen_ok,Sem.run_pure,hj,Nat.zero_add]
   exact aA (.ptr m j g hmL (.inr ⟨_,_,hv⟩))
def x4(P:Program)(ty:TypeId):Option (Nat×Nat):=
 match P.underlying ty with
 |some (.array n e)=>match P.info? e with
  |some i=>some (n,i.size)
  |none=>none
 |_=>none
theorem nh{ty n s b off:Nat}{k:IntKind}{i:Int}{w:World}(h:x4 P ty=some (n,s))(hi:0≤i)(hn:i<n):
  (Instr.indexAt ty (.pointer (some ⟨b,off,none⟩)) (.int k i)).run P w= .ok (.pointer (some ⟨b,off+i.toNat*s,none⟩)) w:=by
 unfold x4 at h
 split at h
 ·rename_i n' e hu
  split at h
  ·rename_i inf hinf;cases h
   simp[Instr.indexAt,asIntOf,run_underlying hu,hi,hn,sizeOf,typeInfo,hinf,Addr.add_lit,program,Sem.run,Instr.sureAddr]
  ·cases h
 ·cases h
theorem lP{ty s n:Nat}{x ix:Operand}{xs:List PV}{k:IntKind}{i:Int}{off j:Nat}(ho:o.op= .indexAddr ty x ix)(he:x4 P ty=some (n,s))(hx:ah t x=some (.b6 xs off))(hix:ah t ix=some (.raw (.int k i)))(hi:0≤i)(hn:i<n)(hj:i.toNat*s=j):az P σ t o (.b6 xs (off+j)):=by
 intro F base E ρ w hρ _ hT
 have h1:=ae hρ hT hx
 have h2:=ae hρ hT hix
 generalize hz:ρ x=z at h1
 generalize hz':ρ ix=z' at h2
 cases h2
 cases h1 with
 |b6 b o' _ cs _ hb hM hc hl hr=>
  simp only[execOp,ho,hz,hz',Sem.run_bind,nh he hi hn,Result.andThen_ok,Sem.run_pure,hj]
  refine aA ?_
  rw[Nat.add_assoc]
  exact .b6 b o' _ cs xs hb hM hc hl hr
theorem rj{x:Operand}{k:Nat}{xs:List PV}{p:PV}(ho:o.op= .extract x k)(hx:ah t x=some (.tuple xs))(hp:xs[k]? =some p):az P σ t o p:=by
 intro F base E ρ w hρ _ hT
 have h1:=ae hρ hT hx
 generalize hz:ρ x=z at h1
 cases h1 with
 |tuple cs _ hl hr=>
  obtain⟨c,hcc,hcr⟩:=aw.get (E:=E) (w:=w) (cs:=cs.toList) ⟨by simpa using hl,fun i x u h1 h2=>hr i x u (by simpa using h1) h2⟩ hp
  have hcc':cs[k]? =some c:=by simpa using hcc
  simp only[execOp,ho,hz,Instr.extract,hcc',Sem.run_bind,Sem.run_pure,Result.andThen_ok]
  exact aA hcr
theorem k8{f:FuncId}{cs:Array Operand}{xs:List PV}(ho:o.op= .makeFunc (.func f) #[] cs)(hx:dR t cs.toList=some xs):az P σ t o (.func f xs):=by
 intro F base E ρ w hρ _ hT
 simp only[execOp,ho,Instr.makeFunc,Sem.run_bind,Sem.run_pure,Result.andThen_ok]
 refine aA ?_
 have:(Array.map ρ #[]:Array Value)= #[]:=by simp
 rw[this]
 have h:=er hρ hT hx
 exact .func f _ xs (by simpa using h.1) (fun i x u h1 h2=>h.2 i x u (by simpa using h1) h2)
def Can(P:Program)(f:FuncId)(ps:List PV)(R:PV→Prop):Prop:=
 ∀F w (vs:Array Value),(∀b,F b→b<w.heap.size)→lB F w→aw (EF F) w vs.toList ps→Calls P f vs w (wR (fun v w'=>∃r,R r∧bC (EF F) w' v r) w)
def enters(P:Program)(f:FuncId):Bool:=
 match P.funcs[f]? with
 |some fn=>fn.name != "runtime.NumGoroutine" &&fn.body.isSome
 |none=>false
theorem nr{f:FuncId}(h:enters P f=true)(args:Array Value)(w:World):(callFunc f args).run P w= .ok (.enter f args) w:=by
 unfold enters at h
 split at h
 ·rename_i fn hf
  simp only[Bool.and_eq_true,bne_iff_ne,ne_eq]at h
  obtain⟨h1,h2⟩:=h
  have h3:¬fn.body=none:=by intro hb;rw[hb]at h2;cases h2
  simp[callFunc,program,Sem.run,hf,h1,h3]
 ·cases h
theorem dH{f:FuncId}{x:Operand}{args:Array Operand}{ats:Array TypeId}{ρ:Operand→Value}{cap:Array Value}(h:enters P f=true)(ho:o.op= .call {callee:=.value x,args,argTypes:=ats})(hx:ρ x= .func (.func f) #[] cap)(w:World):
  (execOp ρ o).run P w= .ok (.enter f (args.map ρ++cap)) w:=by
 have:=nr h (args.map ρ++cap) w
 simp[execOp,ho,resolve,hx,Deferred.ofValue,invoke,this]
theorem pP{f:FuncId}{x:Operand}{args:Array Operand}{ats:Array TypeId}{cap ps:List PV}{r:PV}(ho:o.op= .call {callee:=.value x,args,argTypes:=ats})(hf:enters P f=true)(hx:ah t x=some (.func f cap))(ha:dR t args.toList=some ps)
  (hc:Can P f (ps++cap) (· =r)) [ao (ps++cap)]:az P σ t o r:=by
 intro F base E ρ w hρ hS hT
 have h1:=ae hρ hT hx
 have h2:=er hρ hT ha
 generalize hz:ρ x=z at h1
 cases h1 with
 |func _ cs _ hl hr=>
  rw[dH hf ho hz w]
  refine⟨Ext.refl _,?_⟩
  have h3:aw E w (args.map ρ++cs).toList (ps++cap):=by
   rw[Array.toList_append,Array.toList_map]
   exact h2.append ⟨by simpa using hl,fun i x u k1 k2=>hr i x u (by simpa using k1) k2⟩
  refine(hc E.M w _ (fun b hb=>hS.lt hb) hS.gl (h3.pure (fun _ h=>h))).mono ?_
  rintro e w' ⟨v,rfl,hE,r',rfl,hv⟩
  exact⟨v,rfl,hE,hv.back⟩
theorem aw.le{E:Env}{w:World}{cs:List Value}{xs ys:List PV}(h:aw E w cs xs)(hl:xs.length=ys.length)(hle:∀(i:Nat) x y,xs[i]? =some x→ys[i]? =some y→je x y):aw E w cs ys:=by
 refine⟨h.1.trans hl,fun i c u h1 h2=>?_⟩
 have hi:i<xs.length:=by rw[hl];exact(List.getElem?_eq_some_iff.1 h2).1
 exact hle i xs[i] u (by simp[hi]) h2 E w c (h.2 i c _ h1 (by simp[hi]))
inductive ay (σ:bo):PV→PV→Prop
 |pure {p:PV} [IsPure p]:ay σ p p
 |bY:ay σ (.raw (.slice none 0 0)) (.slice 0 [])
 |own {i e s n:Nat} {xs ys:List PV} (h:σ[i]? =some (some (.row e s n xs))) (hl:xs.length=ys.length) (hs:∀(j:Nat) x y,xs[j]? =some x→ys[j]? =some y→ay σ x y):ay σ (.own i) (.slice n ys)
 |ptr {i k:Nat} {blk:cB} {ys:List PV} (h:σ[i]? =some (some blk)) (hl:blk.xs.length=ys.length) (hs:∀(j:Nat) x y,blk.xs[j]? =some x→ys[j]? =some y→ay σ x y):ay σ (.ptr i k) (.b6 ys k)
 |agg {xs ys:List PV} (hl:xs.length=ys.length) (hs:∀(j:Nat) x y,xs[j]? =some x→ys[j]? =some y→ay σ x y):ay σ (.agg xs) (.agg ys)
 |tuple {xs ys:List PV} (hl:xs.length=ys.length) (hs:∀(j:Nat) x y,xs[j]? =some x→ys[j]? =some y→ay σ x y):ay σ (.tuple xs) (.tuple ys)
 |func {f:FuncId} {xs ys:List PV} (hl:xs.length=ys.length) (hs:∀(j:Nat) x y,xs[j]? =some x→ys[j]? =some y→ay σ x y):ay σ (.func f xs) (.func f ys)
def al(σ:bo)(xs ys:List PV):Prop:=xs.length=ys.length∧∀(j:Nat) x y,xs[j]? =some x→ys[j]? =some y→ay σ x y
theorem al.nil:al σ [] []:=⟨rfl,fun j x y h=>by simp at h⟩
theorem al.cons{x y:PV}{xs ys:List PV}(h:ay σ x y)(hs:al σ xs ys):al σ (x::xs) (y::ys):=⟨by simp[hs.1],fun j a b h1 h2=>by
 cases j with
 |zero=>simp at h1 h2;subst h1;subst h2;exact h
 |succ j=>exact hs.2 j a b (by simpa using h1) (by simpa using h2)⟩
theorem al.pure{xs:List PV}[h:ao xs]:al σ xs xs:=⟨rfl,fun j x y h1 h2=>by
 rw[h1]at h2;cases h2
 haveI:=h.out j x h1
 exact ay.pure⟩
theorem al.append{xs ys zs us:List PV}(h:al σ xs ys)(k:al σ zs us):al σ (xs++zs) (ys++us):=⟨by simp[h.1,k.1],fun j a b h1 h2=>by
 by_cases hj:j<xs.length
 ·rw[List.getElem?_append_left hj]at h1
  rw[List.getElem?_append_left (by rw[←h.1];exact hj)]at h2
  exact h.2 j a b h1 h2
 ·rw[List.getElem?_append_right (by omega)]at h1
  rw[List.getElem?_append_right (by rw[←h.1];omega),←h.1]at h2
  exact k.2 _ a b h1 h2⟩
theorem ay.pe{xs ys:List PV}(h:al σ xs ys):ay σ (.agg xs) (.agg ys):=.agg h.1 h.2
theorem ay.bq{xs ys:List PV}(h:al σ xs ys):ay σ (.tuple xs) (.tuple ys):=.tuple h.1 h.2
theorem ay.xO{f:FuncId}{xs ys:List PV}(h:al σ xs ys):ay σ (.func f xs) (.func f ys):=.func h.1 h.2
theorem ay.gZ{i e s n:Nat}{xs ys:List PV}(h:σ[i]? =some (some (.row e s n xs)))(hs:al σ xs ys):ay σ (.own i) (.slice n ys):=.own h hs.1 hs.2
theorem ay.wF{i k:Nat}{blk:cB}{ys:List PV}(h:σ[i]? =some (some blk))(hs:al σ blk.xs ys):ay σ (.ptr i k) (.b6 ys k):=.ptr h hs.1 hs.2
theorem ay.rep{F:Nat→Prop}{base:Nat}{E:Env}{w:World}(hS:Sat F base σ E w){G:Nat→Prop}(hG:∀b,G b→E.M b)(hG':∀b,G b→∀i blk,σ[i]? =some (some blk)→aB (E.at_ i)≠some b){p q:PV}(hp:ay σ p q):∀v,bC E w v p→bC (EF G) w v q:=by
 induction hp with
 |pure=>intro v h;exact IsPure.out E G w v hG h
 |bY=>intro v h;cases h;exact .bY
 | @own i e s n xs ys hs hl _ ih=>
  intro v h
  cases h with
  |own _ hi _ h _=>
   obtain⟨cs,k1,k2⟩:=hS.blk i _ hs
   have k3:aw (EF G) w cs ys:=⟨k2.1.trans hl,fun j c u h1 h2=>by
    have hj:j<xs.length:=by rw[hl];exact(List.getElem?_eq_some_iff.1 h2).1
    exact ih j xs[j] u (by simp[hj]) h2 c (k2.2 j c _ h1 (by simp[hj]))⟩
   have k4:=k1
   rcases k1.2 with⟨hv',h0⟩|⟨g,cap,cur,hv',hb,hg,hn,hc,hs',ht⟩
   ·rw[hv']at h;subst h;subst h0
    have:ys=[]:=by
     have:=k4.1;simp at this;subst this
     exact List.eq_nil_of_length_eq_zero k3.1.symm
    subst this
    exact .bY
   ·rw[hv']at h;subst h
    by_cases h0:n=0
    ·subst h0
     have:ys=[]:=by
      have:=k4.1;simp at this;subst this
      exact List.eq_nil_of_length_eq_zero k3.1.symm
     subst this
     exact .empty _ _ hc
    ·refine .slice g 0 n cap cs ys (by omega) hn hc (Array.getElem?_eq_some_iff.1 hg).1 (fun hGg=>hG' g hGg i _ hs (by rw[hv'];rfl)) (fun j x hx=>?_) k3.1 k3.2
     have:=k4.cells (g:=g) (by rw[hv'];rfl) j x hx
     rw[Addr.add_lit]at this
     exact this
 | @ptr i k blk ys hs hl _ ih=>
  intro v h
  cases h with
  |ptr _ _ b hi h=>
   obtain⟨cs,k2,k3⟩:=hS.cells hs h
   have k4:aw (EF G) w cs ys:=⟨k2.1.trans hl,fun j c u h1 h2=>by
    have hj:j<blk.xs.length:=by rw[hl];exact(List.getElem?_eq_some_iff.1 h2).1
    exact ih j blk.xs[j] u (by simp[hj]) h2 c (k2.2 j c _ h1 (by simp[hj]))⟩
   have hbk:aB (E.at_ i)=some b:=by
    rcases h with h|⟨n,c,h⟩<;>rw[h]<;>rfl
   have:=bC.b6 (E:=EF G) (w:=w) b 0 k cs ys ((hS.blk i blk hs).lt hbk).2 (fun hGg=>hG' b hGg i _ hs hbk) (fun j x hx=>by rw[Nat.zero_add];exact k3 j x hx) k4.1 k4.2
   rw[Nat.zero_add]at this
   exact this
 | @agg xs ys hl _ ih=>
  intro v h
  cases h with
  |agg cs _ hl' hr=>exact .agg cs ys (hl'.trans hl) (fun j c u h1 h2=>by
    have hj:j<xs.length:=by rw[hl];exact(List.getElem?_eq_some_iff.1 h2).1
    exact ih j xs[j] u (by simp[hj]) h2 c (hr j c _ h1 (by simp[hj])))
 | @tuple xs ys hl _ ih=>
  intro v h
  cases h with
  |tuple cs _ hl' hr=>exact .tuple cs ys (hl'.trans hl) (fun j c u h1 h2=>by
    have hj:j<xs.length:=by rw[hl];exact(List.getElem?_eq_some_iff.1 h2).1
    exact ih j xs[j] u (by simp[hj]) h2 c (hr j c _ h1 (by simp[hj])))
 | @func f xs ys hl _ ih=>
  intro v h
  cases h with
  |func _ cs _ hl' hr=>exact .func f cs ys (hl'.trans hl) (fun j c u h1 h2=>by
    have hj:j<xs.length:=by rw[hl];exact(List.getElem?_eq_some_iff.1 h2).1
    exact ih j xs[j] u (by simp[hj]) h2 c (hr j c _ h1 (by simp[hj])))
theorem al.rep{F:Nat→Prop}{base:Nat}{E:Env}{w:World}(hS:Sat F base σ E w){G:Nat→Prop}(hG:∀b,G b→E.M b)(hG':∀b,G b→∀i blk,σ[i]? =some (some blk)→aB (E.at_ i)≠some b){cs:List Value}{ps qs:List PV}(hp:al σ ps qs)(h:aw E w cs ps):aw (EF G) w cs qs:=
 ⟨h.1.trans hp.1,fun j c u h1 h2=>by
  have hj:j<ps.length:=by rw[hp.1];exact(List.getElem?_eq_some_iff.1 h2).1
  exact(hp.2 j ps[j] u (by simp[hj]) h2).rep hS hG hG' c (h.2 j c _ h1 (by simp[hj]))⟩
theorem ay.plain{E:Env}{w:World}{p q:PV}(hp:ay [] p q):∀v,bC E w v p→bC (EF E.M) w v q:=by
 induction hp with
 |pure=>intro v h;exact IsPure.out E E.M w v (fun _ h=>h) h
 |bY=>intro v h;cases h;exact .bY
 |own h=>simp at h
 |ptr h=>simp at h
 | @agg xs ys hl _ ih=>
  intro v h
  cases h with
  |agg cs _ hl' hr=>exact .agg cs ys (hl'.trans hl) (fun j c u h1 h2=>by
    have hj:j<xs.length:=by rw[hl];exact(List.getElem?_eq_some_iff.1 h2).1
    exact ih j xs[j] u (by simp[hj]) h2 c (hr j c _ h1 (by simp[hj])))
 | @tuple xs ys hl _ ih=>
  intro v h
  cases h with
  |tuple cs _ hl' hr=>exact .tuple cs ys (hl'.trans hl) (fun j c u h1 h2=>by
    have hj:j<xs.length:=by rw[hl];exact(List.getElem?_eq_some_iff.1 h2).1
    exact ih j xs[j] u (by simp[hj]) h2 c (hr j c _ h1 (by simp[hj])))
 | @func f xs ys hl _ ih=>
  intro v h
  cases h with
  |func _ cs _ hl' hr=>exact .func f cs ys (hl'.trans hl) (fun j c u h1 h2=>by
    have hj:j<xs.length:=by rw[hl];exact(List.getElem?_eq_some_iff.1 h2).1
    exact ih j xs[j] u (by simp[hj]) h2 c (hr j c _ h1 (by simp[hj])))
theorem vM{f:FuncId}{x:Operand}{args:Array Operand}{ats:Array TypeId}{cap ps qs:List PV}{r:PV}(ho:o.op= .call {callee:=.value x,args,argTypes:=ats})(hf:enters P f=true)(hx:ah t x=some (.func f cap))(ha:dR t args.toList=some ps)
  (hq:al σ (ps++cap) qs) (hc:Can P f qs (· =r)) [hfl:gd r]:az P σ t o r:=by
 intro F base E ρ w hρ hS hT
 have h1:=ae hρ hT hx
 have h2:=er hρ hT ha
 generalize hz:ρ x=z at h1
 cases h1 with
 |func _ cs _ hl hr=>
  rw[dH hf ho hz w]
  refine⟨Ext.refl _,?_⟩
  have h3:aw E w (args.map ρ++cs).toList (ps++cap):=by
   rw[Array.toList_append,Array.toList_map]
   exact h2.append ⟨by simpa using hl,fun i x u k1 k2=>hr i x u (by simpa using k1) k2⟩
  refine(hc (fun _=>False) w _ (fun b hb=>hb.elim) (hS.gl.sub fun _ h=>h.elim) (hq.rep hS (fun _ h=>h.elim) (fun _ h=>h.elim) h3)).mono ?_
  rintro e w' ⟨v',rfl,hE,r',rfl,hv⟩
  exact⟨_,rfl,hE,hfl.out _ _ _ _ _ hv⟩
theorem uY{f:FuncId}{x:Operand}{args:Array Operand}{ats:Array TypeId}{cap ps qs:List PV}{r:PV}(ho:o.op= .call {callee:=.value x,args,argTypes:=ats})(hf:enters P f=true)(hx:ah t x=some (.func f cap))(ha:dR t args.toList=some ps)
  (hq:al [] (ps++cap) qs) (hc:Can P f qs (· =r)):az P σ t o r:=by
 intro F base E ρ w hρ hS hT
 have h1:=ae hρ hT hx
 have h2:=er hρ hT ha
 generalize hz:ρ x=z at h1
 cases h1 with
 |func _ cs _ hl hr=>
  rw[dH hf ho hz w]
  refine⟨Ext.refl _,?_⟩
  have h3:aw E w (args.map ρ++cs).toList (ps++cap):=by
   rw[Array.toList_append,Array.toList_map]
   exact h2.append ⟨by simpa using hl,fun i x u k1 k2=>hr i x u (by simpa using k1) k2⟩
  have h4:aw (EF E.M) w (args.map ρ++cs).toList qs:=⟨h3.1.trans hq.1,fun j c u k1 k2=>by
   have hj:j<(ps++cap).length:=by rw[hq.1];exact(List.getElem?_eq_some_iff.1 k2).1
   exact(hq.2 j (ps++cap)[j] u (by simp) k2).plain c (h3.2 j c _ k1 (by simp))⟩
  refine(hc E.M w _ (fun b hb=>hS.lt hb) hS.gl h4).mono ?_
  rintro e w' ⟨v,rfl,hE,r',rfl,hv⟩
  exact⟨v,rfl,hE,hv.back⟩
theorem oU{ty e s n:Nat}{x:Operand}{xs:List PV}(ho:o.op= .call {callee:=.builtin .len,args:= #[x],argTypes:= #[ty]})(he:pE P ty=some (e,s))(hx:ah t x=some (.slice n xs)):az P σ t o (.raw (.int .i64 n)):=by
 intro F base E ρ w hρ _ hT
 have h1:=ae hρ hT hx
 obtain⟨hu,_⟩:=dS he
 generalize hz:ρ x=z at h1
 have:∃a c,z= .slice a n c:=by
  cases h1
  ·exact⟨_,_,rfl⟩
  ·exact⟨_,_,rfl⟩
  ·exact⟨_,_,rfl⟩
 obtain⟨a,c,rfl⟩:=this
 simp[execOp,ho,resolve,invoke,builtin,Builtin.len_,hz,run_underlying hu,goInt]
 exact aA (.raw _)
theorem lf{ty e s:Nat}{x:Operand}(ho:o.op= .call {callee:=.builtin .len,args:= #[x],argTypes:= #[ty]})(he:pE P ty=some (e,s))(hx:ah t x=some (.raw (.slice none 0 0))):az P σ t o (.raw (.int .i64 0)):=by
 intro F base E ρ w hρ _ hT
 have h1:=ae hρ hT hx
 obtain⟨hu,_⟩:=dS he
 generalize hz:ρ x=z at h1
 cases h1
 simp[execOp,ho,resolve,invoke,builtin,Builtin.len_,hz,run_underlying hu,goInt]
 exact aA (.raw _)
theorem tR{ty e s n e' s':Nat}{x:Operand}{m:Nat}{xs:List PV}(ho:o.op= .call {callee:=.builtin .len,args:= #[x],argTypes:= #[ty]})(he:pE P ty=some (e,s))(hx:ah t x=some (.own m))(hm:σ[m]? =some (some (.row e' s' n xs))):az P σ t o (.raw (.int .i64 n)):=by
 intro F base E ρ w hρ hS hT
 have h1:=ae hρ hT hx
 obtain⟨hu,_⟩:=dS he
 generalize hz:ρ x=z at h1
 have:∃a c,z= .slice a n c:=by
  cases h1 with
  |own _ hmL _ h _=>
   obtain⟨cs,k1,k2⟩:=hS.blk m _ hm
   rcases k1.2 with⟨hv,h0⟩|⟨g,cap,cur,hv,_⟩
   ·rw[hv]at h;subst h;subst h0;exact⟨_,_,rfl⟩
   ·rw[hv]at h;subst h;exact⟨_,_,rfl⟩
 obtain⟨a,c,rfl⟩:=this
 simp[execOp,ho,resolve,invoke,builtin,Builtin.len_,hz,run_underlying hu,goInt]
 exact aA (.raw _)
end
end PW
end Go.Proofs.YtnegbdpggideiaaDoor
namespace Go.Proofs.YtnegbdpggideiaaDoor
namespace PW
open Go.RowKit aN Mem
section
variable {P:Program} {σ:bo} {t:a7} {o:Oper}
def fW:PV→Option (List PV)
 | .agg xs=>some xs
 | .raw v=>some (v.cells.toList.map .raw)
 | .any=>none
 | .tuple _=>none
 |p=>some [p]
theorem aw.one{E:Env}{w:World}{v:Value}{p:PV}(h:bC E w v p):aw E w [v] [p]:=aw.cons h (aw.nil E w)
theorem fE{E:Env}{w:World}{v:Value}{p:PV}{xs:List PV}(h:bC E w v p)(hx:fW p=some xs):aw E w v.cells.toList xs:=by
 cases h with
 |any=>cases hx
 |raw=>
  simp only[fW,Option.some.injEq]at hx
  subst hx
  refine⟨by simp,fun i x u h1 h2=>?_⟩
  rw[List.getElem?_map,h1]at h2
  cases h2
  exact .raw x
 |bY=>cases hx;exact aw.one .bY
 |empty a c h=>cases hx;exact aw.one (.empty a c h)
 |slice b off n c cs xs h0 h1 h2 hb hM hc hl hr=>cases hx;exact aw.one (.slice b off n c cs _ h0 h1 h2 hb hM hc hl hr)
 |b6 b o' off cs xs hb hM hc hl hr=>cases hx;exact aw.one (.b6 b o' off cs _ hb hM hc hl hr)
 |agg cs xs hl hr=>cases hx;exact⟨by simpa[Value.cells]using hl,fun i x u h1 h2=>hr i x u (by simpa[Value.cells]using h1) h2⟩
 |tuple cs xs hl hr=>cases hx
 |func f cs xs hl hr=>cases hx;exact aw.one (.func f cs _ hl hr)
 |ptr i off b hi h=>cases hx;exact aw.one (.ptr i off b hi h)
 |own i hi v h hs=>
  cases hx
  have:v.cells= #[v]:=by cases v<;>first|rfl|cases hs
  rw[this]
  exact aw.one (.own i hi v h hs)
def over(cells:List PV)(off:Nat)(ys:List PV):List PV:=cells.take off++(ys++cells.drop (off+ys.length))
def jX(place:Nat→Option (Nat×Nat))(cells:List PV):List (Nat×List PV)→Option (List PV)
 | []=>some cells
 |(i,ys)::rest=>match place i with
  |none=>none
  |some (off,size)=>bif Nat.beq ys.length size&&Nat.ble (off+size) cells.length then jX place (over cells off ys) rest else none
theorem lD:∀(l:List Value) (j off:Nat) (cs:Array Value),off+j+l.length≤cs.size→
  (((l.zipIdx j).foldl (fun cs (c,j)=>cs.setIfInBounds (off+j) c) cs).toList=cs.toList.take (off+j)++(l++cs.toList.drop (off+j+l.length)))
 | [],j,off,cs,_=>by simp
 |c::l,j,off,cs,h=>by
  simp only[List.length_cons]at h
  have hlt:off+j<cs.toList.length:=by rw[Array.length_toList];omega
  rw[List.zipIdx_cons,List.foldl_cons,lD l (j+1) off _ (by simp;omega)]
  simp only[Array.toList_setIfInBounds]
  rw[show off+(j+1)=off+j+1 by omega,List.take_set,List.drop_set,if_pos (by omega),List.take_add_one]
  have e1:cs.toList[off+j]?.toList=[cs.toList[off+j]]:=by simp
  rw[e1,List.set_append_right _ _ (by rw[List.length_take];omega),List.length_take,Nat.min_eq_left (by omega)]
  simp[Nat.add_assoc,Nat.add_comm 1 l.length,Nat.add_left_comm]
theorem uC{E:Env}{w:World}{cs:Array Value}{vs:List Value}{xs ys:List PV}(h:aw E w cs.toList xs)(k:aw E w vs ys)(off:Nat)(hl:off+vs.length≤cs.size):
  aw E w ((vs.zipIdx).foldl (fun cs (c,j)=>cs.setIfInBounds (off+j) c) cs).toList (over xs off ys):=by
 have:=lD vs 0 off cs (by omega)
 simp only[Nat.add_zero]at this
 rw[this]
 unfold over
 rw[←k.1]
 exact(h.take off).append (k.append (h.drop _))
theorem lg{E:Env}{w:World}(place:Nat→Option (Nat×Nat)):∀(vs:List (Nat×Value)) (ps:List (Nat×List PV)) (cs:Array Value) (xs ys:List PV),aw E w cs.toList xs→vs.length=ps.length→
  (∀(i:Nat) (v:Nat×Value) (p:Nat×List PV),vs[i]? =some v→ps[i]? =some p→v.1=p.1∧aw E w v.2.cells.toList p.2)→jX place xs ps=some ys→∃cs',Instr.fill place cs vs=some cs'∧aw E w cs'.toList ys
 | [],[],cs,xs,ys,h,_,_,hf=>by simp only[jX,Option.some.injEq]at hf;subst hf;exact⟨cs,rfl,h⟩
 | [],_::_,_,_,_,_,hl,_,_=>by simp at hl
 |_::_,[],_,_,_,_,hl,_,_=>by simp at hl
 |(i,v)::vs,(j,p)::ps,cs,xs,ys,h,hl,hp,hf=>by
  obtain⟨he,hv⟩:=hp 0 (i,v) (j,p) rfl rfl
  simp only at he hv
  subst he
  simp only[jX]at hf
  split at hf
  ·cases hf
  ·rename_i off size hpl
   rw[Bool.cond_eq_ite]at hf
   split at hf
   ·rename_i hc
    simp only[Bool.and_eq_true,Nat.beq_eq,Nat.ble_eq]at hc
    have hsz:v.cells.size=size:=by have:=hv.1;rw[Array.length_toList]at this;omega
    have hcs:cs.size=xs.length:=by have:=h.1;rw[Array.length_toList]at this;exact this
    have hO:=uC h hv off (by rw[Array.length_toList];omega)
    obtain⟨cs',h1,h2⟩:=lg place vs ps _ _ ys hO (by simpa using hl) (fun k a b h1 h2=>hp (k+1) a b (by simpa using h1) (by simpa using h2)) hf
    refine⟨cs',?_,h2⟩
    have hcond:(v.cells.size≠size||decide (off+v.cells.size>cs.size))=false:=by simp;omega
    simp only[Instr.fill,hpl]
    rw[if_neg (by simp;omega)]
    have:(Array.zipIdx v.cells).foldl (fun cs (x:Value×Nat)=>cs.setIfInBounds (off+x.2) x.1) cs=(v.cells.toList.zipIdx).foldl (fun cs (x:Value×Nat)=>cs.setIfInBounds (off+x.2) x.1) cs:=by
     rw[←Array.foldl_toList,Array.toList_zipIdx]
    rw[this]
    exact h1
   ·cases hf
def eM(t:a7):List (Nat×Operand)→Option (List (Nat×List PV))
 | []=>some []
 |(i,x)::l=>match ah t x with
  |none=>none
  |some p=>match fW p,eM t l with
   |some q,some r=>some ((i,q)::r)
   |_,_=>none
theorem jx{E:Env}{w:World}{ρ:Operand→Value}(hρ:ec ρ)(h:dy E w ρ t):∀(l:List (Nat×Operand)) (ps:List (Nat×List PV)),eM t l=some ps→
  (l.map fun x=>(x.1,ρ x.2)).length=ps.length∧∀(i:Nat) (v:Nat×Value) (p:Nat×List PV),(l.map fun x=>(x.1,ρ x.2))[i]? =some v→ps[i]? =some p→v.1=p.1∧aw E w v.2.cells.toList p.2
 | [],ps,hx=>by simp only[eM,Option.some.injEq]at hx;subst hx;exact⟨rfl,fun i v p h=>by simp at h⟩
 |(i,x)::l,ps,hx=>by
  simp only[eM]at hx
  split at hx
  ·cases hx
  ·rename_i p hp
   split at hx
   ·rename_i q r hq hr
    cases hx
    obtain⟨h1,h2⟩:=jx hρ h l r hr
    refine⟨by simpa using h1,fun k v p' k1 k2=>?_⟩
    cases k with
    |zero=>
     simp at k1 k2
     subst k1;subst k2
     exact⟨rfl,fE (ae hρ h hp) hq⟩
    |succ k=>exact h2 k v p' (by simpa using k1) (by simpa using k2)
   ·cases hx
def yk(P:Program)(ty:TypeId):Option (List (Nat×Nat)×List Value):=
 match P.info? ty,P.underlying ty with
 |some it,some (.struct fields)=>
  match it.zero,fields.toList.mapM (fun f=>(P.info? f.type).map fun i=>(f.offset,i.size))with
  |some z,some places=>some (places,z.cells.toList)
  |_,_=>none
 |_,_=>none
theorem eg{ty:TypeId}{parts:Array (Nat×Operand)}{places:List (Nat×Nat)}{zero:List Value}{ps:List (Nat×List PV)}{xs:List PV}(ho:o.op= .build ty parts)(hk:yk P ty=some (places,zero))(hp:eM t parts.toList=some ps)
  (hf:jX (places[·]?) (zero.map .raw) ps=some xs):az P σ t o (.agg xs):=by
 intro F base E ρ w hρ hS hT
 obtain⟨h1,h2⟩:=jx hρ hT parts.toList ps hp
 have hz:aw E w zero.toArray.toList (zero.map .raw):=⟨by simp,fun i x u k1 k2=>by
  simp only[List.getElem?_map,Option.map_eq_some_iff]at k2
  obtain⟨y,hy,rfl⟩:=k2
  simp only at k1
  rw[hy]at k1
  cases k1
  exact .raw _⟩
 obtain⟨cs,hc,hR⟩:=lg (places[·]?) _ ps zero.toArray _ xs hz h1 h2 hf
 have hb:P.built ty ((parts.map fun(i,x)=>(i,ρ x)).toList)=some cs:=by
  unfold yk at hk
  split at hk
  ·rename_i it fields zg hu
   split at hk
   ·rename_i z pl hz' hpl
    cases hk
    simp only[Program.built,zg,hu,hz',hpl,Array.toList_map]
    simpa using hc
   ·cases hk
  ·cases hk
 have hrun:=run_build (P:=P) w ty (parts.map fun(i,x)=>(i,ρ x)) cs hb
 simp only[execOp,ho,Sem.run_bind,hrun,Result.andThen_ok,Sem.run_pure]
 exact aA (.agg cs xs (by have:=hR.1;rw[Array.length_toList]at this;exact this) (fun i x u k1 k2=>hR.2 i x u (by simpa using k1) k2))
theorem lS{F:Nat→Prop}{base:Nat}{E:Env}{w:World}(hS:Sat F base σ E w):¬E.M w.heap.size:=fun h=>Nat.lt_irrefl _ (hS.lt h)
theorem size_alloc(w:World)(o:Obj):(w.alloc o).heap.size=w.heap.size+1:=by simp
theorem vi{F:Nat→Prop}{base:Nat}{E:Env}{w:World}(hS:Sat F base σ E w)(cs:Array Value)(e:TypeId){xs:List PV}(h:aw E w cs.toList xs):bC E (w.alloc (.cells cs e)) (.pointer (some ⟨w.heap.size,0,none⟩)) (.b6 xs 0):=by
 have hE:Ext w (w.alloc (.cells cs e)):=(Ext.refl w).alloc _
 have:=bC.b6 (E:=E) (w:=w.alloc (.cells cs e)) w.heap.size 0 0 cs.toList xs (by rw[size_alloc];exact Nat.lt_succ_self _) (lS hS) (fun i x hx=>by simp only[World.cell?,heap_alloc_new];simpa using hx) h.1 (fun i x u k1 k2=>(h.2 i x u k1 k2).ext hE)
 exact this
theorem rf{F:Nat→Prop}{base:Nat}{E:Env}{w:World}(hS:Sat F base σ E w)(cs:Array Value)(e:TypeId){n:Nat}(hn:n≤maxLen){xs:List PV}(h0:0<n)(h:aw E w cs.toList xs):bC E (w.alloc (.cells cs e)) (.slice (some ⟨w.heap.size,0,none⟩) n n) (.slice n xs):=by
 have hE:Ext w (w.alloc (.cells cs e)):=(Ext.refl w).alloc _
 exact bC.slice (E:=E) (w:=w.alloc (.cells cs e)) w.heap.size 0 n n cs.toList xs h0 (Nat.le_refl _) hn (by rw[size_alloc];exact Nat.lt_succ_self _) (lS hS) (fun i x hx=>by simp only[World.cell?,heap_alloc_new];simpa using hx) h.1 (fun i x u k1 k2=>(h.2 i x u k1 k2).ext hE)
theorem uc{ty:TypeId}{x:Operand}{p:PV}{xs:List PV}(ho:o.op= .box ty x)(hx:ah t x=some p)(hc:fW p=some xs):az P σ t o (.b6 xs 0):=by
 intro F base E ρ w hρ hS hT
 have h:=fE (ae hρ hT hx) hc
 have hr:(Instr.box ty (ρ x)).run P w= .ok (.pointer (some ⟨w.heap.size,0,none⟩)) (w.alloc (.cells (ρ x).cells ty)):=by
  simp[Instr.box,newVar,newRow]
 simp only[execOp,ho,Sem.run_bind,hr,Result.andThen_ok,Sem.run_pure]
 exact⟨(Ext.refl w).alloc _,vi hS _ _ h⟩
def xg(P:Program)(ty:TypeId):Option (TypeId×Nat×List Value):=
 match P.underlying ty with
 |some (.slice e)=>match P.info? e with
  |some i=>match i.zero with
   |some z=>if z.cells.size=i.size∧0<i.size then some (e,i.size,z.cells.toList) else none
   |none=>none
  |none=>none
 |_=>none
theorem kl{ty e s:Nat}{z:List Value}(h:xg P ty=some (e,s,z)):P.underlying ty=some (.slice e)∧∃i z',P.info? e=some i∧i.size=s∧i.zero=some z'∧z'.cells.toList=z∧z.length=s∧0<s:=by
 unfold xg at h
 split at h
 ·rename_i e' hu
  split at h
  ·rename_i i hi
   split at h
   ·rename_i z' hz
    split at h
    ·rename_i hc;cases h;exact⟨hu,i,z',hi,rfl,hz,rfl,by simpa using hc.1,hc.2⟩
    ·cases h
   ·cases h
  ·cases h
 ·cases h
def db(z:List PV):Nat→List PV
 |0=>[]
 |n+1=>z++db z n
theorem r4(z:List PV)(n:Nat):(db z n).length=n*z.length:=by
 induction n with
 |zero=>simp[db]
 |succ n ih=>simp[db,ih,Nat.succ_mul];omega
theorem lT(z:List PV):∀(n i:Nat),i<n*z.length→(db z n)[i]? =z[i % z.length]?
 |0,i,h=>by simp at h
 |n+1,i,h=>by
  simp only[db]
  by_cases hi:i<z.length
  ·rw[List.getElem?_append_left hi,Nat.mod_eq_of_lt hi]
  ·rw[List.getElem?_append_right (by omega),lT z n (i - z.length) (by rw[Nat.succ_mul]at h;omega)]
   rw[Nat.mod_eq_sub_mod (by omega:i≥z.length)]
theorem jG{E:Env}{w:World}(z:Array Value)(n m:Nat)(hm:m=n*z.size):aw E w ((Array.range m).map (z[· % z.size]!)).toList (db (z.toList.map .raw) n):=by
 refine⟨by simp[r4,hm],fun i x u h1 h2=>?_⟩
 have hi:i<m:=by have:=(List.getElem?_eq_some_iff.1 h1).1;simpa using this
 rw[lT _ _ _ (by simp;omega)]at h2
 have hpos:0<z.size:=by
  rcases Nat.eq_zero_or_pos z.size with h|h
  ·rw[h]at hm;simp at hm;omega
  ·exact h
 have hlt:=Nat.mod_lt i hpos
 simp[hi]at h1
 simp[hlt]at h2
 subst h1;subst h2
 have:z[i % z.size]! =z[i % z.size]:=by simp[hlt]
 rw[this]
 exact .raw _
theorem mY{ty e s n:Nat}{parts:Array (Nat×Operand)}{z:List Value}{ps:List (Nat×List PV)}{xs:List PV}(ho:o.op= .buildSlice ty n parts)(hk:xg P ty=some (e,s,z))(hn:0<n∧n*s≤16777216)(hp:eM t parts.toList=some ps)
  (hf:jX (fun i=>some (i*s,s)) (db (z.map .raw) n) ps=some xs):az P σ t o (.slice n xs):=by
 intro F base E ρ w hρ hS hT
 obtain⟨h1,h2⟩:=jx hρ hT parts.toList ps hp
 obtain⟨hu,i,z',hi,hs,hz,hzz,hzl,hpos⟩:=kl hk
 have hzs:z'.cells.size=s:=by rw[←hzl,←hzz];simp
 have hR0:aw E w ((Array.range (n*s)).map (z'.cells[· % z'.cells.size]!)).toList (db (z.map .raw) n):=by
  rw[←hzz];exact jG z'.cells n (n*s) (by rw[hzs])
 obtain⟨cs,hc,hR⟩:=lg (fun i=>some (i*s,s)) _ ps _ _ xs hR0 h1 h2 hf
 have hns:0<n*s:=Nat.mul_pos hn.1 hpos
 have hrun:=run_buildSlice (P:=P) w ty e n (parts.map fun(i,x)=>(i,ρ x)) cs i z' hu hi hz (by rw[hs];omega) (by rw[hs];omega) (by rw[hs,Array.toList_map];simpa using hc)
 simp only[execOp,ho,Sem.run_bind,hrun,Result.andThen_ok,Sem.run_pure]
 have hle:n≤n*s:=Nat.le_mul_of_pos_right n hpos
 exact⟨(Ext.refl w).alloc _,rf hS _ _ (by unfold maxLen;omega) hn.1 hR⟩
theorem mW{ty e s:Nat}{z:List Value}(ho:o.op= .buildSlice ty 0 #[])(hk:xg P ty=some (e,s,z)):az P σ t o (.slice 0 []):=by
 intro F base E ρ w hρ hS hT
 obtain⟨hu,i,z',hi,hs,hz,hzz,hzl,hpos⟩:=kl hk
 have hrun:(Instr.buildSlice ty 0 #[]).run P w= .ok (.slice (some ⟨w.heap.size,0,none⟩) 0 0) (w.alloc (.cells #[] e)):=by
  have:Array.map (fun _:Nat=>(default:Value)) (Array.range 0)= #[]:=by simp[Array.range]
  simp[Instr.buildSlice,run_underlying hu,sizeOf,typeInfo,hi,Instr.fill,newRow,this]
 simp only[execOp,ho,Sem.run_bind,List.map_toArray,List.map_nil,hrun,Result.andThen_ok,Sem.run_pure]
 exact⟨(Ext.refl w).alloc _,.empty _ _ (Nat.zero_le _)⟩
theorem pX{E:Env}{w:World}{a:Option Addr}{n c l h m s:Nat}{xs:List PV}(hv:bC E w (.slice a n c) (.slice n xs))(hx:xs.length=n*s)(hl:l≤h)(hh:h≤n)(hm:h≤m)(hmc:m≤c):
  bC E w (.slice (if m=l then a else a.map (·.add (l*s))) (h - l) (m - l)) (.slice (h - l) ((xs.drop (l*s)).take ((h - l)*s))):=by
 by_cases h0:h - l=0
 ·rw[h0]
  have:(xs.drop (l*s)).take (0*s)=[]:=by simp
  rw[this]
  have hcm:m - l≤maxLen∨a=none:=by
   cases hv with
   |bY=>exact .inr rfl
   |empty _ _ h'=>exact .inl (by omega)
   |slice b off _ _ cs _ h0 h1 h2 hb hM hc hl hr=>exact .inl (by omega)
  cases a with
  |none=>
   cases hv
   have:m - l=0:=by omega
   rw[this]
   split<;>exact .bY
  |some ad=>
   have hcm':=hcm.resolve_right (by simp)
   split
   ·exact .empty _ _ hcm'
   ·exact .empty _ _ hcm'
 ·cases hv with
  |bY=>omega
  |empty _ _ h'=>omega
  |slice b off _ _ cs _ h0 h1 h2 hb hM hc hll hr=>
   rw[if_neg (by omega)]
   have hR:=((show aw E w cs xs from⟨hll,hr⟩).drop (l*s)).take ((h - l)*s)
   have:=bC.slice (E:=E) (w:=w) b (off+l*s) (h - l) (m - l) _ _ (by omega) (by omega) (by omega) hb hM (fun i x hx=>by
    rw[List.getElem?_take]at hx
    split at hx
    ·rw[List.getElem?_drop]at hx;rw[Nat.add_assoc];exact hc _ x hx
    ·cases hx) hR.1 hR.2
   simpa[Addr.add_lit]using this
theorem nq{E:Env}{w:World}{v:Value}{n:Nat}{xs:List PV}(h:bC E w v (.slice n xs)):∃a c,v= .slice a n c∧n≤c∧c≤maxLen:=by
 cases h with
 |bY=>exact⟨_,_,rfl,Nat.le_refl _,Nat.zero_le _⟩
 |empty a c h=>exact⟨_,_,rfl,Nat.zero_le _,h⟩
 |slice b off _ c cs _ h0 h1 h2=>exact⟨_,_,rfl,h1,h2⟩
theorem rO{ty e s n l:Nat}{x lo:Operand}{xs:List PV}{k:IntKind}{li:Int}(ho:o.op= .slice ty x (some lo) none none)(he:pE P ty=some (e,s))(hx:ah t x=some (.slice n xs))(hlo:ah t lo=some (.raw (.int k li)))(hxl:xs.length=n*s)(hli:li=(l:Int))(hl:l≤n):
  az P σ t o (.slice (n - l) ((xs.drop (l*s)).take ((n - l)*s))):=by
 intro F base E ρ w hρ hS hT
 have h1:=ae hρ hT hx
 have h2:=ae hρ hT hlo
 obtain⟨hu,i,hi,hs⟩:=dS he
 generalize hz:ρ x=v at h1
 generalize hz':ρ lo=u at h2
 cases h2
 subst hli
 obtain⟨a,c,rfl,hc1,hc2⟩:=nq h1
 have hR:=pX (s:=s) h1 hxl hl (Nat.le_refl _) hc1 (Nat.le_refl c)
 have hrun:(Instr.sliceAt ty (.slice a n c) (some (.int k (l:Int))) none none).run P w= .ok (.slice (if c=l then a else a.map (·.add (l*s))) (n - l) (c - l)) w:=by
  simp[Instr.sliceAt,run_underlying hu,Instr.slice,Instr.sliceBounds,Instr.sliceBound,asIntOf,hl,sizeOf,typeInfo,hi,hs]
 simp only[execOp,ho,hz,hz',Option.map_some,Option.map_none,Sem.run_bind,hrun,Result.andThen_ok,Sem.run_pure]
 exact aA hR
end
end PW
end Go.Proofs.YtnegbdpggideiaaDoor
