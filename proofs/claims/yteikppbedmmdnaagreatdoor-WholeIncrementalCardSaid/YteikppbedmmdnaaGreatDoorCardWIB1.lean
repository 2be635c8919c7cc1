/- Texts of the proof, part 1. -/
import Derived.Deep.Quiet
import Derived.Below
import Derived.OwnWalk
import Derived.Laws.Slices
import Derived.Laws.AppendOwnNone
import Derived.WalkKit
import Derived.ProofKit
import Derived.Laws.Tables
import Derived.Great.BuildSlice
set_option linter.unusedVariables false
set_option linter.unusedSimpArgs false
set_option maxRecDepth 10000
set_option maxHeartbeats 1000000
namespace Go.Proofs.YteikppbedmmdnaaGreatDoor
section
theorem I.{u} {α : Sort u} {a : α} : a = a := rfl
end
end Go.Proofs.YteikppbedmmdnaaGreatDoor
namespace Go.Proofs.YteikppbedmmdnaaGreatDoor
namespace cj
section
open Go.RowKit
def Ext(w w':World):Prop:=Below w.heap.size w w'
theorem Ext.refl(w:World):Ext w w:=Below.refl _ _
theorem Ext.trans{a b c:World}(h:Ext a b)(k:Ext b c):Ext a c:=Below.trans h (Below.mono k h.size)
theorem Ext.alloc{a b:World}(h:Ext a b)(o:Obj):Ext a (b.alloc o):=Below.alloc h h.size o
theorem Ext.of{a b:World}(h:Below a.heap.size a b):Ext a b:=h
theorem Ext.lt{w:World}{p:Addr}{v:Value}(h:w.cell? p=some v):p.block<w.heap.size:=by
 rcases Nat.lt_or_ge p.block w.heap.size with h'|h'
 ·exact h'
 ·simp[World.cell?,Array.getElem?_eq_none h']at h
theorem Ext.cell{w w':World}(h:Ext w w'){p:Addr}{v:Value}(hc:w.cell? p=some v):w'.cell? p=some v:=by
 rw[Below.cell h (Ext.lt hc)];exact hc
theorem Ext.size{a b:World}(h:Ext a b):a.heap.size≤b.heap.size:=Below.size h
def K6(Φ:Value→World→Prop)(w:World)(e:Ending)(w':World):Prop:=∃v,e= .returned v∧Ext w w'∧Φ v w'
abbrev db:=Value→World→Prop
def vm(Φ:db):Prop:=∀v w w',Ext w w'→Φ v w→Φ v w'
theorem xV(c:Value):vm (fun v _=>v=c):=fun _ _ _ _ h=>h
def vQ(α:Tmp→db)(d:Option Tmp)(Φ:db):Tmp→db:=fun t=>
 match d with
 |some d=>bif Nat.beq t d then Φ else α t
 |none=>α t
theorem jg(α:Tmp→db)(d:Tmp)(Φ:db):vQ α (some d) Φ d=Φ:=by simp[vQ]
theorem iH(α:Tmp→db)(d:Option Tmp)(Φ:db)(t:Tmp)(h:∀e,d=some e→t≠e):vQ α d Φ t=α t:=by
 cases d with
 |none=>rfl
 |some e=>
  have:Nat.beq t e=false:=by
   cases hb:Nat.beq t e with
   |false=>rfl
   |true=>exact absurd (Nat.eq_of_beq_eq_true hb) (h e rfl)
  simp[vQ,this]
theorem EP(α:Tmp→db)(x y:Option Tmp)(Φ Ψ:db)(h:∀d,x=some d→y≠some d):vQ (vQ α x Φ) y Ψ=vQ (vQ α y Ψ) x Φ:=by
 funext t
 cases x with
 |none=>rfl
 |some d=>
  cases y with
  |none=>rfl
  |some e=>
   have hne:d≠e:=fun he=>h d rfl (he▸rfl)
   by_cases h1:t=d
   ·subst h1
    rw[jg,iH _ _ _ _ (fun e' he=>by cases he;exact hne),jg]
   ·by_cases h2:t=e
    ·subst h2
     rw[jg,iH _ _ _ _ (fun e' he=>by cases he;exact h1),jg]
    ·rw[iH _ _ _ _ (fun e' he=>by cases he;exact h2),iH _ _ _ _ (fun e' he=>by cases he;exact h1),iH _ _ _ _ (fun e' he=>by cases he;exact h1),iH _ _ _ _ (fun e' he=>by cases he;exact h2)]
structure kJ (ρ:Operand→Value):Prop where
 const:∀v,ρ (.const v)=v
 Ld:∀g,ρ (.global g)= .pointer (some ⟨g,0,none⟩)
 func:∀f,ρ (.func f)= .func (.func f) #[] #[]
theorem dx(a:Act):kJ a.eval:=⟨fun _=>rfl,fun _=>rfl,fun _=>rfl⟩
def Db:Value→Option Bool
 | .bool b=>some b
 |_=>none
def kr(ops:Array Oper)(o:Oper)(ρ:Operand→Value):Bool:=
 match o.guard with
 |none=>true
 |some (j,want)=>(match(ops[j]?).bind (·.dst)with|some t=>Db (ρ (.tmp t))|none=>none)==some want
theorem eI(ops:Array Oper)(o:Oper)(a:Act):Region.wanted o (yielded ops a.tmps)=kr ops o a.eval:=by
 unfold Region.wanted kr
 cases o.guard with
 |none=>rfl
 |some g=>
  obtain⟨j,want⟩:=g
  simp only[yielded]
  cases(ops[j]?).bind (·.dst)with
  |none=>rfl
  |some t=>
   simp only[Option.bind_some,Act.eval,Array.getD_eq_getD_getElem?]
   cases a.tmps[t]? with
   |none=>rfl
   |some v=>cases v<;>rfl
def fH(P:Program)(w:World)(Φ:db):Result Next→Prop
 | .ok (.value v) w'=>Ext w w'∧Φ v w'
 | .ok .skip w'=>Ext w w'∧Φ undef w'
 | .ok (.enter f args) w'=>Ext w w'∧Calls P f args w' (K6 Φ w')
 |_=>False
section
variable (P:Program) (w:World) (Φ:db)
end
def uA(P:Program)(ops:Array Oper)(o:Oper)(ρ:Operand→Value)(w:World)(Φ:db):Prop:=
 if kr ops o ρ then fH P w Φ ((execOp ρ o).run P w) else Φ undef w
section
variable {P:Program} {ops:Array Oper} {md:Region.Mode} {C:World→Prop}
def Yields(P:Program)(ops:Array Oper)(C:World→Prop)(o:Oper)(Φ:db)(α:Tmp→db):Prop:=
 vm Φ∧∀ρ w,kJ ρ→C w→(∀t∈o.looksAt ops,α t (ρ (.tmp t)) w)→uA P ops o ρ w Φ
def pP(P:Program)(ops:Array Oper)(C:World→Prop)(F:(Tmp→db)→Prop):List Oper→(Tmp→db)→Prop
 | [],α=>F α
 |o::rest,α=>∃Φ,Yields P ops C o Φ α∧pP P ops C F rest (vQ α o.dst Φ)
def Fo(P:Program)(ops:Array Oper)(C:World→Prop)(i:Nat)(K:(Tmp→db)→Prop)(α:Tmp→db):Prop:=
 match ops[i]? with
 |none=>K α
 |some o=>∃Φ,Yields P ops C o Φ α∧K (vQ α o.dst Φ)
def q9(P:Program)(md:Region.Mode)(ops:Array Oper)(C:World→Prop)(F:(Tmp→db)→Prop):Nat→Array Bool→(Tmp→db)→Prop
 |0,listed,α=>Region.ready md ops listed=[]∧F α
 |fuel+1,listed,α=>
  (Region.ready md ops listed=[]→F α)∧
  ∀i∈Region.ready md ops listed,Fo P ops C i (q9 P md ops C F fuel (listed.setIfInBounds i true)) α
theorem Yields.of_same{o:Oper}{Φ:db}{α β:Tmp→db}(h:Yields P ops C o Φ α)(he:∀t∈o.looksAt ops,β t=α t):Yields P ops C o Φ β:=
 ⟨h.1,fun ρ w hρ hw hs=>h.2 ρ w hρ hw (fun t ht=>by rw[←he t ht];exact hs t ht)⟩
theorem FP{i:Nat}{α:Tmp→db}{K K':(Tmp→db)→Prop}(h:∀α,K α→K' α)(hh:Fo P ops C i K α):Fo P ops C i K' α:=by
 unfold Fo at*
 split
 ·exact h _ (by simpa[*]using hh)
 ·rename_i o ho
  simp only[ho]at hh
  obtain⟨Φ,h1,h2⟩:=hh
  exact⟨Φ,h1,h _ h2⟩
theorem Hc{j:Nat}{oi oj:Oper}{Φ:db}(hj:ops[j]? =some oj)(hap:oi.apart ops oj=true){K:(Tmp→db)→Prop}{α:Tmp→db}
  (hy:Yields P ops C oi Φ α) (h:Fo P ops C j K (vQ α oi.dst Φ)):
  Fo P ops C j (fun β=>Yields P ops C oi Φ β∧K (vQ β oi.dst Φ)) α:=by
 obtain⟨h1,h2,h3⟩:=Oper.apart_spec hap
 unfold Fo at*
 simp only[hj]at*
 obtain⟨Ψ,hy',hn⟩:=h
 refine⟨Ψ,hy'.of_same fun t ht=>?_,hy.of_same fun t ht=>?_,?_⟩
 ·exact(iH _ _ _ _ fun e he heq=>h1 e he (heq▸ht)).symm
 ·exact iH _ _ _ _ fun e he heq=>h3 e he (heq▸ht)
 ·rw[←EP α oi.dst oj.dst Φ Ψ h2];exact hn
theorem vB{F:(Tmp→db)→Prop}{i:Nat}{oi:Oper}{Φ:db}(hi:ops[i]? =some oi):
  ∀(fuel:Nat) (listed:Array Bool) (α:Tmp→db),
   (∀j oj,ops[j]? =some oj→j≠i→listed.getD j true=false→(∀e∈oj.after,Region.binds md e=true→e.on≠i)→oi.apart ops oj=true)→
   i∈Region.ready md ops listed→Yields P ops C oi Φ α→
   q9 P md ops C F fuel (listed.setIfInBounds i true) (vQ α oi.dst Φ)→q9 P md ops C F (fuel+1) listed α:=by
 intro fuel
 have own:∀ {α:Tmp→db} {K:(Tmp→db)→Prop},Yields P ops C oi Φ α→K (vQ α oi.dst Φ)→Fo P ops C i K α:=fun hy hk=>by
  unfold Fo;simp only[hi];exact⟨Φ,hy,hk⟩
 induction fuel with
 |zero=>
  intro listed α _ hr hy H
  refine⟨fun h=>(by rw[h]at hr;cases hr),fun j hj=>?_⟩
  by_cases hji:j=i
  ·subst hji;exact own hy H
  ·have:=ready_mono hj hji
   rw[H.1]at this
   cases this
 |succ fuel ih=>
  intro listed α hfree hr hy H
  refine⟨fun h=>(by rw[h]at hr;cases hr),fun j hj=>?_⟩
  by_cases hji:j=i
  ·subst hji;exact own hy H
  ·have h1:=H.2 j (ready_mono hj hji)
   obtain⟨hjun,oj,hoj,hall⟩:=mem_ready.1 hj
   have hnot:∀e∈oj.after,Region.binds md e=true→e.on≠i:=fun e he hb heq=>by
    have h1:=hall e he hb
    have h0:=(mem_ready.1 hr).1
    rw[heq]at h1
    rcases Nat.lt_or_ge i listed.size with h'|h'
    ·simp[h']at h0 h1;rw[h0]at h1;cases h1
    ·simp[Array.getElem?_eq_none h']at h1
   have h2:=Hc hoj (hfree j oj hoj hji hjun hnot) hy h1
   have hfree':∀k ok,ops[k]? =some ok→k≠i→(listed.setIfInBounds j true).getD k true=false→
     (∀e∈ok.after,Region.binds md e=true→e.on≠i)→oi.apart ops ok=true:=fun k ok hk hki hun hno=>by
    refine hfree k ok hk hki ?_ hno
    by_cases hjk:j=k
    ·subst hjk;exact hjun
    ·rw[getD_set_ne true hjk]at hun;exact hun
   refine FP (fun β h3=>ih (listed.setIfInBounds j true) β hfree' (ready_mono hr (Ne.symm hji)) h3.1 ?_) h2
   rw[Array.setIfInBounds_comm _ _ hji]
   exact h3.2
theorem ny{F:(Tmp→db)→Prop}:∀(l:List Oper) (k:Nat) (listed:Array Bool) (α:Tmp→db),(∀j,l[j]? =ops[k+j]?)→
  Region.lexFrom md ops l.length k listed=true→pP P ops C F l α→q9 P md ops C F l.length listed α
 | [],_,_,_,_,hB,h=>⟨by simpa[Region.lexFrom]using hB,h⟩
 |o::l,k,listed,α,hl,hB,h=>by
  have h0:ops[k]? =some o:=by simpa using(hl 0).symm
  simp only[List.length_cons,Region.lexFrom,Bool.and_eq_true]at hB
  obtain⟨⟨hr,hf⟩,hB'⟩:=hB
  obtain⟨Φ,hy,hK⟩:=h
  exact vB h0 l.length listed α (Region.free_spec h0 hf) (by simpa using hr) hy
   (ny l (k+1) _ _ (fun j=>by have:=hl (j+1);simpa[Nat.add_assoc,Nat.add_comm 1 j]using this) hB' hK)
def Sat(α:Tmp→db)(n:Nat)(d:List Deferred)(a:Act)(w:World):Prop:=
 (∀t,α t (a.eval (.tmp t)) w)∧a.defers=d∧a.tmps.size=n
theorem Sat.put{α:Tmp→db}{n:Nat}{d:List Deferred}{a:Act}{w w':World}{o:Oper}{Φ:db}{v:Value}(hα:∀t,vm (α t))(h:Sat α n d a w)(hE:Ext w w')
  (hd:∀e,o.dst=some e→e<n) (hv:Φ v w'):Sat (vQ α o.dst Φ) n d (a.put o.dst v) w':=by
 obtain⟨h1,h2,h3⟩:=h
 cases ho:o.dst with
 |none=>exact⟨fun t=>hα t _ _ _ hE (h1 t),h2,h3⟩
 |some e=>
  have hlt:=hd e ho
  refine⟨fun t=>?_,by simpa[Act.put]using h2,by simpa[Act.put]using h3⟩
  by_cases hte:t=e
  ·subst hte
   rw[jg]
   have:(a.put (some t) v).eval (.tmp t)=v:=by simp[Act.put,Act.eval,h3,hlt]
   rw[this];exact hv
  ·rw[iH _ _ _ _ (fun e' he=>by cases he;exact hte),Act.eval_put (fun d' hd' heq=>by cases hd';cases heq;exact hte rfl)]
   exact hα t _ _ _ hE (h1 t)
theorem E7{α:Tmp→db}(hα:∀t,vm (α t))(d:Option Tmp){Φ:db}(hΦ:vm Φ):∀t,vm (vQ α d Φ t):=by
 intro t
 cases d with
 |none=>exact hα t
 |some e=>
  by_cases h:t=e
  ·subst h;rw[jg];exact hΦ
  ·rw[iH _ _ _ _ (fun e' he=>by cases he;exact h)];exact hα t
theorem wI{n:Nat}{d:List Deferred}(hC:∀w w',C w→Ext w w'→C w')(hn:∀(i:Nat) (o:Oper),ops[i]? =some o→∀e,o.dst=some e→e<n)
  {i:Nat} {α:Tmp→db} {a:Act} {w:World} {K:(Tmp→db)→Prop} {K':Act→World→Prop} {Q:Exit→Act→World→Prop} (hα:∀t,vm (α t)) (hw:C w) (hs:Sat α n d a w)
  (h:∀β a w,(∀t,vm (β t))→C w→Sat β n d a w→K β→K' a w) (hh:Fo P ops C i K α):wpOp P ops Q i K' a w:=by
 unfold Fo at hh
 unfold wpOp
 split
 ·rename_i ho;simp only[ho]at hh;exact h _ _ _ hα hw hs hh
 ·rename_i o ho
  simp only[ho]at hh
  obtain⟨Φ,hy,hk⟩:=hh
  have hst:=hy.2 a.eval w (dx a) hw (fun t _=>hs.1 t)
  unfold uA at hst
  have hm':=E7 hα o.dst hy.1
  rw[eI]
  split
  ·rename_i hwt
   simp only[hwt,if_true]at hst
   left
   unfold Oper.wp
   generalize (execOp a.eval o).run P w=r at*
   cases r with
   |ok x w'=>
    cases x<;>simp only[fH]at hst<;>simp only[Oper.upon]
    case value v=>exact h _ _ _ hm' (hC _ _ hw hst.1) (hs.put hα hst.1 (hn i o ho) hst.2) hk
    case skip=>exact h _ _ _ hm' (hC _ _ hw hst.1) (hs.put hα hst.1 (hn i o ho) hst.2) hk
    case enter f args=>
     obtain⟨hE,hc⟩:=hst
     refine hc.mono fun e w'' ⟨v,he,hE',hv⟩=>?_
     subst he
     exact h _ _ _ hm' (hC _ _ hw (hE.trans hE')) (hs.put hα (hE.trans hE') (hn i o ho) hv) hk
   |halt x w'=>simp only[fH]at hst
  ·rename_i hwt
   simp only[hwt]at hst
   exact h _ _ _ hm' hw (hs.put hα (Ext.refl _) (hn i o ho) hst) hk
theorem kT{n:Nat}{d:List Deferred}(hC:∀w w',C w→Ext w w'→C w')(hn:∀(i:Nat) (o:Oper),ops[i]? =some o→∀e,o.dst=some e→e<n)
  {F:(Tmp→db)→Prop} {Q:Exit→Act→World→Prop} (hF:∀β a w,C w→Sat β n d a w→F β→Q .normal a w):∀(fuel:Nat) (listed:Array Bool) (α:Tmp→db) (a:Act) (w:World),
  (∀t,vm (α t))→C w→Sat α n d a w→q9 P md ops C F fuel listed α→wpAny P md ops Q fuel listed a w
 |0,_,_,_,_,_,hw,hs,h=>⟨h.1,hF _ _ _ hw hs h.2⟩
 |fuel+1,_,_,_,_,hα,hw,hs,h=>⟨fun h0=>hF _ _ _ hw hs (h.1 h0),fun i hi=>wI hC hn hα hw hs (fun β a' w' hβ hw' hs' hk=>kT hC hn hF fuel _ β a' w' hβ hw' hs' hk) (h.2 i hi)⟩
theorem mn{F:(Tmp→db)→Prop}{D:List Tmp}:∀(l:List Oper) (α α₀:Tmp→db),(∀t,t∉D→α t=α₀ t)→(∀o∈l,∀e,o.dst=some e→e∈D)→pP P ops C F l α→
  pP P ops C (fun β=>F β∧∀t,t∉D→β t=α₀ t) l α
 | [],_,_,h0,_,h=>⟨h,h0⟩
 |o::l,α,α₀,h0,hD,⟨Φ,hy,hk⟩=>by
  refine⟨Φ,hy,mn l (vQ α o.dst Φ) α₀ (fun t ht=>?_) (fun o' ho'=>hD o' (List.mem_cons_of_mem _ ho')) hk⟩
  rw[iH α o.dst Φ t (fun e he heq=>ht (by rw[heq];exact hD o (List.mem_cons_self ..) e he))]
  exact h0 t ht
def AO(α:Tmp→db)(w:World)(k:Array Value→Prop):List Tmp→Array Value→Prop
 | [],arr=>k arr
 |t::D,arr=>∀x,α t x w→AO α w k D (arr.setIfInBounds t x)
theorem uc{α:Tmp→db}{w:World}{k:Array Value→Prop}(b:Array Value):∀(D:List Tmp) (arr:Array Value),arr.size=b.size→(∀t,t∉D→b.getD t undef=arr.getD t undef)→(∀t,α t (b.getD t undef) w)→
  AO α w k D arr→k b
 | [],arr,hz,he,_,h=>by
  have:b=arr:=by
   apply Array.ext hz.symm
   intro i h1 h2
   have:=he i (by simp)
   simpa[h1,h2]using this
  rw[this];exact h
 |t::D,arr,hz,he,hα,h=>by
  refine uc b D (arr.setIfInBounds t (b.getD t undef)) (by simpa using hz) (fun s hs=>?_) hα (h _ (hα t))
  by_cases hst:s=t
  ·subst hst
   rcases Nat.lt_or_ge s b.size with h'|h'
   ·simp[hz,h']
   ·simp[Array.getElem?_eq_none h',hz]
  ·rw[he s (by simp[hst,hs])]
   simp[Array.getElem?_setIfInBounds_ne (Ne.symm hst)]
theorem sk{id:Nat}{Q:Exit→Act→World→Prop}{l:List Oper}{arr:Array Value}{ds:List Deferred}{w:World}(S:World→Prop)(D:List Tmp)(hS:∀w w',Ext w w'→S w→S w')(h0:S w)
  (hm:P.follows .mixedOrders=true) (hB:Region.lexB .any l.toArray=true) (hn:(l.all fun o=>o.dst.all fun e=>decide (e<arr.size)&&D.contains e)=true)
  (h:pP P l.toArray (fun w'=>Ext w w'∧S w') (fun α=>∀w',Ext w w'→S w'→AO α w' (fun b=>Q .normal ⟨b,ds⟩ w') D arr) l (fun t v _=>v=arr.getD t undef)):
  (Code.region id l.toArray true).wp P Q ⟨arr,ds⟩ w:=by
 simp only[Region.lexB,Bool.and_eq_true]at hB
 have hn':∀o∈l,∀e,o.dst=some e→e<arr.size∧e∈D:=fun o ho e he=>by
  have:=List.all_eq_true.1 hn o ho
  rw[he]at this
  simpa using this
 have h1:=mn (D:=D) l _ (fun t v _=>v=arr.getD t undef) (fun _ _=>rfl) (fun o ho e he=>(hn' o ho e he).2) h
 have h2:=ny (md:=.any) (ops:=l.toArray) l 0 (Array.replicate l.toArray.size false) _ (by simp) (by simpa using hB.2) h1
 have hE:Ext w {w with drawn:=w.drawn+1}:=⟨rfl,rfl,rfl,Nat.le_refl _,fun _ _=>rfl⟩
 refine wp_region_any hm ?_
 have h3:=kT (P:=P) (ops:=l.toArray) (md:=.any) (n:=arr.size) (d:=ds) (Q:=Q) (fun w₁ w₂ h12 h13=>⟨h12.1.trans h13,hS _ _ h13 h12.2⟩)
  (fun i o ho e he=>(hn' o (by simpa using Array.mem_of_getElem? ho) e he).1) (fun β a w' hw' hs hF=>?_) l.length _ _ ⟨arr,ds⟩ {w with drawn:=w.drawn+1} (fun t=>xV _) ⟨hE,hS _ _ hE h0⟩ ⟨fun t=>rfl,rfl,rfl⟩ h2
 ·simpa using h3
 ·obtain⟨hF,hoff⟩:=hF
  obtain⟨hs1,hs2,hs3⟩:=hs
  obtain⟨b,dd⟩:=a
  simp only at hs2 hs3
  subst hs2
  refine uc b D arr hs3.symm (fun t ht=>?_) (fun t=>by simpa[Act.eval]using hs1 t) (hF w' hw'.1 hw'.2)
  have:=hs1 t
  rw[hoff t ht]at this
  simpa[Act.eval]using this
end
end
end cj
end Go.Proofs.YteikppbedmmdnaaGreatDoor
namespace Go.Proofs.YteikppbedmmdnaaGreatDoor
namespace Mem
section
open Go.RowKit
def Row(w:World)(v:Value)(n:Nat)(xs:List Value):Prop:=
 (n=0∧xs=[]∧(v= .slice none 0 0∨∃a c,v= .slice (some a) 0 c∧c≤maxLen))∨
 (0<n∧∃b off c,v= .slice (some ⟨b,off,none⟩) n c∧n≤c∧c≤maxLen∧∀i u,xs[i]? =some u→w.cell? ⟨b,off+i,none⟩=some u)
theorem Row.nil(w:World):Row w (.slice none 0 0) 0 []:=.inl ⟨rfl,rfl,.inl rfl⟩
theorem Row.owns{w:World}{base:Nat}{e:TypeId}{size:Nat}{v:Value}{n:Nat}{xs:List Value}(h:w.ownsRow base e size v n xs):Row w v n xs:=by
 have hc:=fun g hg=>h.cells (g:=g) hg
 obtain⟨hl,h⟩:=h
 rcases h with⟨rfl,rfl⟩|⟨g,cap,cur,rfl,h1,h2,h3,h4,h5,h6⟩
 ·exact .inl ⟨rfl,List.eq_nil_of_length_eq_zero (by simpa using hl),.inl rfl⟩
 ·by_cases hn:n=0
  ·subst hn
   exact .inl ⟨rfl,List.eq_nil_of_length_eq_zero (by simpa using hl),.inr ⟨_,_,rfl,h4⟩⟩
  ·refine .inr ⟨by omega,g,0,cap,rfl,h3,h4,fun i u hu=>?_⟩
   have:=hc g rfl i u hu
   rw[Addr.add_lit]at this
   exact this
def ints(L:List Int):List Value:=L.map (Value.int .i64)
def Ih(w:World)(v:Value)(L:List Int):Prop:=Row w v L.length (ints L)
theorem Ih.owns{w:World}{base:Nat}{e:TypeId}{v:Value}{n:Nat}{L:List Int}(h:w.ownsRow base e 1 v n (ints L))(hn:n=L.length):Ih w v L:=by
 subst hn;exact Row.owns h
theorem ox{w w':World}(h:w.grownBy w' none):cj.Ext w w':=⟨h.os,h.tape,h.output,h.size,fun k hk=>h.block k hk (by simp)⟩
end
end Mem
end Go.Proofs.YteikppbedmmdnaaGreatDoor
namespace Go.Proofs.YteikppbedmmdnaaGreatDoor
namespace PW
section
def GG:List (Nat×List Value):=[(0,[.int .u64 1,.int .u64 10,.int .u64 100,.int .u64 1000,.int .u64 10000,.int .u64 100000,.int .u64 1000000,.int .u64 10000000,.int .u64 100000000,.int .u64 1000000000,.int .u64 10000000000,.int .u64 100000000000,.int .u64 1000000000000,.int .u64 10000000000000,.int .u64 100000000000000,.int .u64 1000000000000000,.int .u64 10000000000000000,.int .u64 100000000000000000,.int .u64 1000000000000000000,.int .u64 10000000000000000000]),(1,[.int .u8 0,.int .u8 1,.int .u8 28,.int .u8 2,.int .u8 29,.int .u8 14,.int .u8 24,.int .u8 3,.int .u8 30,.int .u8 22,.int .u8 20,.int .u8 15,.int .u8 25,.int .u8 17,.int .u8 4,.int .u8 8,.int .u8 31,.int .u8 27,.int .u8 13,.int .u8 23,.int .u8 21,.int .u8 19,.int .u8 16,.int .u8 7,.int .u8 26,.int .u8 12,.int .u8 18,.int .u8 6,.int .u8 11,.int .u8 5,.int .u8 10,.int .u8 9]),(2,[.int .u8 0,.int .u8 1,.int .u8 56,.int .u8 2,.int .u8 57,.int .u8 49,.int .u8 28,.int .u8 3,.int .u8 61,.int .u8 58,.int .u8 42,.int .u8 50,.int .u8 38,.int .u8 29,.int .u8 17,.int .u8 4,.int .u8 62,.int .u8 47,.int .u8 59,.int .u8 36,.int .u8 45,.int .u8 43,.int .u8 51,.int .u8 22,.int .u8 53,.int .u8 39,.int .u8 33,.int .u8 30,.int .u8 24,.int .u8 18,.int .u8 12,.int .u8 5,.int .u8 63,.int .u8 55,.int .u8 48,.int .u8 27,.int .u8 60,.int .u8 41,.int .u8 37,.int .u8 16,.int .u8 46,.int .u8 35,.int .u8 44,.int .u8 21,.int .u8 52,.int .u8 32,.int .u8 23,.int .u8 11,.int .u8 54,.int .u8 26,.int .u8 40,.int .u8 15,.int .u8 34,.int .u8 20,.int .u8 31,.int .u8 10,.int .u8 25,.int .u8 14,.int .u8 19,.int .u8 9,.int .u8 13,.int .u8 8,.int .u8 7,.int .u8 6])]
open Go.RowKit cj Mem
inductive PV where
 |any
 |raw (v:Value)
 |slice (n:Nat) (xs:List PV)
 |bg (xs:List PV) (off:Nat)
 |agg (xs:List PV)
 |tuple (xs:List PV)
 |func (f:FuncId) (cap:List PV)
 |ptr (i off:Nat)
 |own (i:Nat)
 |bound (f:FuncId) (xs:List PV)
structure Env where
 L:Nat
 at_:Nat→Value
 M:Nat→Prop
def aY:Value→Option Nat
 | .slice (some a) _ _=>some a.block
 | .pointer (some a)=>some a.block
 | .map (some r)=>some r
 |_=>none
inductive cu (E:Env) (w:World):Value→PV→Prop
 |any (v:Value):cu E w v .any
 |raw (v:Value):cu E w v (.raw v)
 |cc:cu E w (.slice none 0 0) (.slice 0 [])
 |empty (a:Addr) (c:Nat) (h:c≤maxLen):cu E w (.slice (some a) 0 c) (.slice 0 [])
 |slice (b off n c:Nat) (cs:List Value) (xs:List PV) (h0:0<n) (h1:n≤c) (h2:c≤maxLen) (hb:b<w.heap.size) (hM:¬E.M b)
   (hc:∀(i:Nat) x,cs[i]? =some x→w.cell? ⟨b,off+i,none⟩=some x) (hl:cs.length=xs.length) (hr:∀(i:Nat) x u,cs[i]? =some x→xs[i]? =some u→cu E w x u):
   cu E w (.slice (some ⟨b,off,none⟩) n c) (.slice n xs)
 |bg (b o off:Nat) (cs:List Value) (xs:List PV) (hb:b<w.heap.size) (hM:¬E.M b)
   (hc:∀(i:Nat) x,cs[i]? =some x→w.cell? ⟨b,o+i,none⟩=some x) (hl:cs.length=xs.length) (hr:∀(i:Nat) x u,cs[i]? =some x→xs[i]? =some u→cu E w x u):
   cu E w (.pointer (some ⟨b,o+off,none⟩)) (.bg xs off)
 |agg (cs:Array Value) (xs:List PV) (hl:cs.size=xs.length) (hr:∀(i:Nat) x u,cs[i]? =some x→xs[i]? =some u→cu E w x u):cu E w (.agg cs) (.agg xs)
 |tuple (cs:Array Value) (xs:List PV) (hl:cs.size=xs.length) (hr:∀(i:Nat) x u,cs[i]? =some x→xs[i]? =some u→cu E w x u):cu E w (.tuple cs) (.tuple xs)
 |func (f:FuncId) (cs:Array Value) (xs:List PV) (hl:cs.size=xs.length) (hr:∀(i:Nat) x u,cs[i]? =some x→xs[i]? =some u→cu E w x u):cu E w (.func (.func f) #[] cs) (.func f xs)
 |ptr (i off b:Nat) (hi:i<E.L) (h:E.at_ i= .pointer (some ⟨b,0,none⟩)∨∃n c,E.at_ i= .slice (some ⟨b,0,none⟩) n c):cu E w (.pointer (some ⟨b,off,none⟩)) (.ptr i off)
 |own (i:Nat) (hi:i<E.L) (v:Value) (h:E.at_ i=v) (hs:v.oneCell'=true):cu E w v (.own i)
 |bound (f:FuncId) (cs:Array Value) (xs:List PV) (hl:cs.size=xs.length) (hr:∀(i:Nat) x u,cs[i]? =some x→xs[i]? =some u→cu E w x u):cu E w (.func (.func f) cs #[]) (.bound f xs)
structure cp (E:Env) (w:World) (E':Env) (w':World):Prop where
 L:E.L≤E'.L
 at_:∀i,i<E.L→E'.at_ i=E.at_ i
 M:∀b,b<w.heap.size→¬E.M b→¬E'.M b
 size:w.heap.size≤w'.heap.size
 heap:∀b,b<w.heap.size→¬E.M b→w'.heap[b]? =w.heap[b]?
theorem cp.refl(E:Env)(w:World):cp E w E w:=⟨Nat.le_refl _,fun _ _=>rfl,fun _ _ h=>h,Nat.le_refl _,fun _ _ _=>rfl⟩
theorem cp.trans{E E' E'':Env}{w w' w'':World}(h:cp E w E' w')(k:cp E' w' E'' w''):cp E w E'' w'':=
 ⟨Nat.le_trans h.L k.L,fun i hi=>(k.at_ i (Nat.lt_of_lt_of_le hi h.L)).trans (h.at_ i hi),fun b hb hM=>k.M b (Nat.lt_of_lt_of_le hb h.size) (h.M b hb hM),Nat.le_trans h.size k.size,
  fun b hb hM=>(k.heap b (Nat.lt_of_lt_of_le hb h.size) (h.M b hb hM)).trans (h.heap b hb hM)⟩
theorem cp.ext{E:Env}{w w':World}(h:Ext w w'):cp E w E w':=⟨Nat.le_refl _,fun _ _=>rfl,fun _ _ h=>h,h.size,fun b hb _=>h.block b hb⟩
theorem mF{w w':World}{a:Addr}(h:w'.heap[a.block]? =w.heap[a.block]?):w'.cell? a=w.cell? a:=World.cell?_of_block h
theorem cu.goes{E E':Env}{w w':World}(g:cp E w E' w'){v:Value}{p:PV}(h:cu E w v p):cu E' w' v p:=by
 induction h with
 |any v=>exact .any v
 |raw v=>exact .raw v
 |cc=>exact .cc
 |empty a c h=>exact .empty a c h
 |slice b off n c cs xs h0 h1 h2 hb hM hc hl _ ih=>
  exact .slice b off n c cs xs h0 h1 h2 (Nat.lt_of_lt_of_le hb g.size) (g.M b hb hM) (fun i x hx=>by rw[mF (g.heap b hb hM)];exact hc i x hx) hl ih
 |bg b o off cs xs hb hM hc hl _ ih=>
  exact .bg b o off cs xs (Nat.lt_of_lt_of_le hb g.size) (g.M b hb hM) (fun i x hx=>by rw[mF (g.heap b hb hM)];exact hc i x hx) hl ih
 |agg cs xs hl _ ih=>exact .agg cs xs hl ih
 |tuple cs xs hl _ ih=>exact .tuple cs xs hl ih
 |func f cs xs hl _ ih=>exact .func f cs xs hl ih
 |ptr i off b hi h=>exact .ptr i off b (Nat.lt_of_lt_of_le hi g.L) (by rw[g.at_ i hi];exact h)
 |own i hi v h hs=>exact .own i (Nat.lt_of_lt_of_le hi g.L) v (by rw[g.at_ i hi];exact h) hs
 |bound f cs xs hl _ ih=>exact .bound f cs xs hl ih
theorem cu.ext{E:Env}{w w':World}(g:Ext w w'){v:Value}{p:PV}(h:cu E w v p):cu E w' v p:=h.goes (.ext g)
def aV(E:Env)(w:World)(cs:List Value)(xs:List PV):Prop:=cs.length=xs.length∧∀(i:Nat) x u,cs[i]? =some x→xs[i]? =some u→cu E w x u
theorem aV.goes{E E':Env}{w w':World}(g:cp E w E' w'){cs:List Value}{xs:List PV}(h:aV E w cs xs):aV E' w' cs xs:=⟨h.1,fun i x u h1 h2=>(h.2 i x u h1 h2).goes g⟩
theorem aV.nil(E:Env)(w:World):aV E w [] []:=⟨rfl,fun i x u h=>by simp at h⟩
theorem aV.cons{E:Env}{w:World}{c:Value}{x:PV}{cs:List Value}{xs:List PV}(h:cu E w c x)(hs:aV E w cs xs):aV E w (c::cs) (x::xs):=by
 refine⟨by simp[hs.1],fun i a u h1 h2=>?_⟩
 cases i with
 |zero=>simp at h1 h2;subst h1;subst h2;exact h
 |succ i=>exact hs.2 i a u (by simpa using h1) (by simpa using h2)
theorem aV.Ez{E:Env}{w:World}{c:Value}{x:PV}{cs:List Value}{xs:List PV}(h:aV E w (c::cs) (x::xs)):cu E w c x∧aV E w cs xs:=
 ⟨h.2 0 c x rfl rfl,by simpa using h.1,fun i a u h1 h2=>h.2 (i+1) a u (by simpa using h1) (by simpa using h2)⟩
theorem aV.append{E:Env}{w:World}{cs ds:List Value}{xs ys:List PV}(h:aV E w cs xs)(k:aV E w ds ys):aV E w (cs++ds) (xs++ys):=by
 refine⟨by simp[h.1,k.1],fun i a u h1 h2=>?_⟩
 by_cases hi:i<cs.length
 ·rw[List.getElem?_append_left hi]at h1
  rw[List.getElem?_append_left (by rw[←h.1];exact hi)]at h2
  exact h.2 i a u h1 h2
 ·rw[List.getElem?_append_right (by omega)]at h1
  rw[List.getElem?_append_right (by rw[←h.1];omega),←h.1]at h2
  exact k.2 _ a u h1 h2
theorem aV.set{E:Env}{w:World}{cs:List Value}{xs:List PV}(h:aV E w cs xs)(j:Nat){c:Value}{x:PV}(hx:cu E w c x):aV E w (cs.set j c) (xs.set j x):=by
 refine⟨by simp[h.1],fun i a u h1 h2=>?_⟩
 rw[List.getElem?_set]at h1 h2
 by_cases hj:j=i
 ·rw[if_pos hj]at h1 h2
  split at h1
  ·split at h2
   ·cases h1;cases h2;exact hx
   ·cases h2
  ·cases h1
 ·rw[if_neg hj]at h1 h2
  exact h.2 i a u h1 h2
theorem aV.take{E:Env}{w:World}{cs:List Value}{xs:List PV}(h:aV E w cs xs)(n:Nat):aV E w (cs.take n) (xs.take n):=by
 refine⟨by simp[h.1],fun i a u h1 h2=>?_⟩
 rw[List.getElem?_take]at h1 h2
 split at h1
 ·rename_i hi;rw[if_pos hi]at h2;exact h.2 i a u h1 h2
 ·cases h1
theorem aV.drop{E:Env}{w:World}{cs:List Value}{xs:List PV}(h:aV E w cs xs)(n:Nat):aV E w (cs.drop n) (xs.drop n):=by
 refine⟨by simp[h.1],fun i a u h1 h2=>?_⟩
 rw[List.getElem?_drop]at h1 h2
 exact h.2 _ a u h1 h2
theorem aV.get{E:Env}{w:World}{cs:List Value}{xs:List PV}(h:aV E w cs xs){i:Nat}{u:PV}(hu:xs[i]? =some u):∃c,cs[i]? =some c∧cu E w c u:=by
 have hi:i<cs.length:=by
  have:=(List.getElem?_eq_some_iff.1 hu).1
  rw[h.1];exact this
 exact⟨cs[i],by simp[hi],h.2 i _ u (by simp[hi]) hu⟩
inductive cK where
 |cells (t:TypeId) (xs:List PV)
 |row (e:TypeId) (size n:Nat) (xs:List PV)
 |mp (kv:List (Value×PV))
def fF(base:Nat)(E:Env)(w:World)(v:Value):cK→Prop
 | .cells t xs=>∃b cs,v= .pointer (some ⟨b,0,none⟩)∧base≤b∧w.heap[b]? =some (.cells cs t (0,0))∧aV E w cs.toList xs
 | .row e size n xs=>∃cs,w.ownsRow base e size v n cs∧aV E w cs xs
 | .mp kv=>∃r es clock,v= .map (some r)∧base≤r∧w.heap[r]? =some (.map es clock)∧es.toList.map (·.key)=kv.map (·.1)∧aV E w (es.toList.map (·.val)) (kv.map (·.2))
abbrev bN:=List (Option cK)
def iC(M:Nat→Prop)(w:World):Prop:=∀g cs,(g,cs)∈GG→¬M g∧∃t fz,w.heap[g]? =some (.cells cs.toArray t fz)
theorem iC.goes{E E':Env}{w w':World}(h:iC E.M w)(g:cp E w E' w'):iC E'.M w':=fun k cs hk=>by
 obtain⟨h2,t,fz,h3⟩:=h k cs hk
 have h1:=(Array.getElem?_eq_some_iff.1 h3).1
 exact⟨g.M k h1 h2,t,fz,by rw[g.heap k h1 h2];exact h3⟩
theorem iC.sub{M M':Nat→Prop}{w:World}(h:iC M w)(hM:∀b,M' b→M b):iC M' w:=fun k cs hk=>⟨fun hm=>(h k cs hk).1 (hM k hm),(h k cs hk).2⟩
structure Sat (F:Nat→Prop) (base:Nat) (σ:bN) (E:Env) (w:World):Prop where
 bl:base≤w.heap.size
 fb:∀b,F b→b<w.heap.size∧∀i blk,σ[i]? =some (some blk)→aY (E.at_ i)≠some b
 len:E.L=σ.length
 mm:∀b,E.M b↔F b∨∃i blk,σ[i]? =some (some blk)∧aY (E.at_ i)=some b
 blk:∀i blk,σ[i]? =some (some blk)→fF base E w (E.at_ i) blk
 inj:∀i j bi bj b,σ[i]? =some (some bi)→σ[j]? =some (some bj)→aY (E.at_ i)=some b→aY (E.at_ j)=some b→i=j
 gl:iC E.M w
theorem fW{v:Value}{w:World}{base:Nat}{e:TypeId}{size n:Nat}{xs:List Value}(h:w.ownsRow base e size v n xs):aY v=v.ownBlock:=by
 rcases h.2 with⟨rfl,_⟩|⟨g,cap,cur,rfl,_⟩<;>rfl
theorem fF.lt{base:Nat}{E:Env}{w:World}{v:Value}{blk:cK}(h:fF base E w v blk){b:Nat}(hb:aY v=some b):base≤b∧b<w.heap.size:=by
 cases blk with
 |cells t xs=>
  obtain⟨b',cs,rfl,h1,h2,_⟩:=h
  simp[aY]at hb
  subst hb
  exact⟨h1,(Array.getElem?_eq_some_iff.1 h2).1⟩
 |row e size n xs=>
  obtain⟨cs,h1,_⟩:=h
  rw[fW h1]at hb
  exact h1.lt b hb
 |mp kv=>
  obtain⟨r,es,ck,rfl,h1,h2,_⟩:=h
  simp[aY]at hb
  subst hb
  exact⟨h1,(Array.getElem?_eq_some_iff.1 h2).1⟩
theorem fF.goes{base:Nat}{E E':Env}{w w':World}(g:cp E w E' w'){v:Value}{blk:cK}(h:fF base E w v blk)(hb:∀b,aY v=some b→w'.heap[b]? =w.heap[b]?):fF base E' w' v blk:=by
 cases blk with
 |cells t xs=>
  obtain⟨b',cs,rfl,h1,h2,h3⟩:=h
  exact⟨b',cs,rfl,h1,by rw[hb b' rfl];exact h2,h3.goes g⟩
 |row e size n xs=>
  obtain⟨cs,h1,h2⟩:=h
  refine⟨cs,⟨h1.1,?_⟩,h2.goes g⟩
  rcases h1.2 with h|⟨g',cap,cur,rfl,k1,k2,k3⟩
  ·exact .inl h
  ·exact .inr ⟨g',cap,cur,rfl,k1,by rw[hb g' rfl];exact k2,k3⟩
 |mp kv=>
  obtain⟨r,es,ck,rfl,h1,h2,h3,h4⟩:=h
  exact⟨r,es,ck,rfl,h1,by rw[hb r rfl];exact h2,h3,h4.goes g⟩
theorem Sat.ext{F:Nat→Prop}{base:Nat}{σ:bN}{E:Env}{w w':World}(h:Sat F base σ E w)(hE:Ext w w'):Sat F base σ E w':=
 ⟨Nat.le_trans h.bl hE.size,fun b hb=>⟨Nat.lt_of_lt_of_le (h.fb b hb).1 hE.size,(h.fb b hb).2⟩,h.len,h.mm,fun i blk hi=>(h.blk i blk hi).goes (.ext hE) (fun b hb=>hE.block b ((h.blk i blk hi).lt hb).2),h.inj,h.gl.goes (.ext hE)⟩
theorem Sat.lt{F:Nat→Prop}{base:Nat}{σ:bN}{E:Env}{w:World}(h:Sat F base σ E w){b:Nat}(hb:E.M b):b<w.heap.size:=by
 rcases(h.mm b).1 hb with hf|⟨i,blk,hi,hb'⟩
 ·exact(h.fb b hf).1
 ·exact((h.blk i blk hi).lt hb').2
def EF(F:Nat→Prop):Env:=⟨0,fun _=>undef,F⟩
theorem Sat.start(F:Nat→Prop)(w:World)(hF:∀b,F b→b<w.heap.size)(hG:iC F w):Sat F w.heap.size [] (EF F) w:=
 ⟨Nat.le_refl _,fun b hb=>⟨hF b hb,fun i blk h=>by simp at h⟩,rfl,fun b=>by simp[EF],fun i blk h=>by simp at h,fun i j bi bj b h=>by simp at h,hG⟩
theorem cu.back{E:Env}{w:World}{v:Value}{p:PV}(h:cu (EF E.M) w v p):cu E w v p:=
 h.goes (E:=EF E.M) (E':=E) (w:=w) (w':=w) ⟨Nat.zero_le _,fun i hi=>absurd hi (Nat.not_lt_zero i),fun _ _ h=>h,Nat.le_refl _,fun _ _ _=>rfl⟩
abbrev b9:=List (Nat×PV)
def look(k:Nat):b9→Option PV
 | []=>none
 |(j,p)::t=>bif Nat.beq k j then some p else look k t
def cG(E:Env)(w:World)(ρ:Operand→Value)(t:b9):Prop:=∀k p,look k t=some p→cu E w (ρ (.tmp k)) p
theorem cG.goes{E E':Env}{w w':World}(g:cp E w E' w'){ρ:Operand→Value}{t:b9}(h:cG E w ρ t):cG E' w' ρ t:=fun k p hk=>(h k p hk).goes g
def aA(t:b9):Operand→Option PV
 | .tmp k=>look k t
 | .const v=>some (.raw v)
 | .global g=>some (.raw (.pointer (some ⟨g,0,none⟩)))
 | .func f=>some (.func f [])
theorem aq{E:Env}{w:World}{ρ:Operand→Value}{t:b9}(hρ:kJ ρ)(h:cG E w ρ t){x:Operand}{p:PV}(hx:aA t x=some p):cu E w (ρ x) p:=by
 match x,hx with
 | .tmp k,hx=>exact h k p hx
 | .const v,hx=>simp[aA]at hx;subst hx;rw[hρ.const];exact .raw v
 | .global g,hx=>simp[aA]at hx;subst hx;rw[hρ.Ld];exact .raw _
 | .func f,hx=>simp[aA]at hx;subst hx;rw[hρ.func];exact .func f #[] [] I (fun i x u h=>by simp at h)
def lr(p q:PV):Prop:=∀E w v,cu E w v p→cu E w v q
theorem lr.refl(p:PV):lr p p:=fun _ _ _ h=>h
theorem lr.any(p:PV):lr p .any:=fun _ _ v _=>.any v
theorem lr.cc:lr (.raw (.slice none 0 0)) (.slice 0 []):=fun _ _ _ h=>by cases h;exact .cc
class IsPure (p:PV):Prop where
 out:∀(E:Env) (F:Nat→Prop) (w:World) (v:Value),(∀b,F b→E.M b)→cu E w v p→cu (EF F) w v p
class aI (xs:List PV):Prop where
 out:∀(i:Nat) u,xs[i]? =some u→IsPure u
instance (v:Value):IsPure (.raw v):=⟨fun _ _ _ _ _ h=>by cases h;exact .raw v⟩
instance:aI []:=⟨fun i u h=>by simp at h⟩
instance (x:PV) (xs:List PV) [h:IsPure x] [hs:aI xs]:aI (x::xs):=⟨fun i u hu=>by
 cases i with
 |zero=>simp at hu;subst hu;exact h
 |succ i=>exact hs.out i u (by simpa using hu)⟩
instance (xs ys:List PV) [h:aI xs] [hs:aI ys]:aI (xs++ys):=⟨fun i u hu=>by
 by_cases hi:i<xs.length
 ·rw[List.getElem?_append_left hi]at hu;exact h.out i u hu
 ·rw[List.getElem?_append_right (by omega)]at hu;exact hs.out _ u hu⟩
theorem aI.map{α:Type}(f:α→PV)(l:List α)(h:∀a,IsPure (f a)):aI (l.map f):=⟨fun i u hu=>by
 simp only[List.getElem?_map,Option.map_eq_some_iff]at hu
 obtain⟨a,_,rfl⟩:=hu
 exact h a⟩
theorem aI.flatMap{α:Type}(f:α→List PV)(l:List α)(h:∀a,aI (f a)):aI (l.flatMap f):=⟨fun i u hu=>by
 have hm:u∈l.flatMap f:=List.mem_of_getElem? hu
 obtain⟨a,_,ha⟩:=List.mem_flatMap.1 hm
 obtain⟨j,hj⟩:=List.getElem?_of_mem ha
 exact(h a).out j u hj⟩
instance (n:Nat) (xs:List PV) [h:aI xs]:IsPure (.slice n xs):=⟨fun E F w v hF hv=>by
 cases hv with
 |cc=>exact .cc
 |empty a c hc=>exact .empty a c hc
 |slice b off _ c cs _ h0 h1 h2 hb hM hc hl hr=>exact .slice b off n c cs xs h0 h1 h2 hb (fun hf=>hM (hF b hf)) hc hl (fun i x u k1 k2=>(h.out i u k2).out E F w x hF (hr i x u k1 k2))⟩
instance (xs:List PV) (k:Nat) [h:aI xs]:IsPure (.bg xs k):=⟨fun E F w v hF hv=>by
 cases hv with
 |bg b o' _ cs _ hb hM hc hl hr=>exact .bg b o' k cs xs hb (fun hf=>hM (hF b hf)) hc hl (fun i x u k1 k2=>(h.out i u k2).out E F w x hF (hr i x u k1 k2))⟩
instance (xs:List PV) [h:aI xs]:IsPure (.agg xs):=⟨fun E F w v hF hv=>by
 cases hv with
 |agg cs _ hl hr=>exact .agg cs xs hl (fun i x u k1 k2=>(h.out i u k2).out E F w x hF (hr i x u k1 k2))⟩
instance (xs:List PV) [h:aI xs]:IsPure (.tuple xs):=⟨fun E F w v hF hv=>by
 cases hv with
 |tuple cs _ hl hr=>exact .tuple cs xs hl (fun i x u k1 k2=>(h.out i u k2).out E F w x hF (hr i x u k1 k2))⟩
instance (f:FuncId) (xs:List PV) [h:aI xs]:IsPure (.func f xs):=⟨fun E F w v hF hv=>by
 cases hv with
 |func _ cs _ hl hr=>exact .func f cs xs hl (fun i x u k1 k2=>(h.out i u k2).out E F w x hF (hr i x u k1 k2))⟩
theorem aV.pure{E:Env}{F:Nat→Prop}{w:World}{cs:List Value}{xs:List PV}[h:aI xs](hF:∀b,F b→E.M b)(hs:aV E w cs xs):aV (EF F) w cs xs:=
 ⟨hs.1,fun i x u k1 k2=>(h.out i u k2).out E F w x hF (hs.2 i x u k1 k2)⟩
class lV (p:PV):Prop where
 out:∀(E E':Env) (w w':World) (v:Value),cu E w v p→cu E' w' v p
class gF (xs:List PV):Prop where
 out:∀(i:Nat) u,xs[i]? =some u→lV u
instance (v:Value):lV (.raw v):=⟨fun _ _ _ _ _ h=>by cases h;exact .raw v⟩
instance:gF []:=⟨fun i u h=>by simp at h⟩
instance (x:PV) (xs:List PV) [h:lV x] [hs:gF xs]:gF (x::xs):=⟨fun i u hu=>by
 cases i with
 |zero=>simp at hu;subst hu;exact h
 |succ i=>exact hs.out i u (by simpa using hu)⟩
instance (xs:List PV) [h:gF xs]:lV (.tuple xs):=⟨fun E E' w w' v hv=>by
 cases hv with
 |tuple cs _ hl hr=>exact .tuple cs xs hl (fun i x u k1 k2=>(h.out i u k2).out E E' w w' x (hr i x u k1 k2))⟩
class fJ (p:PV):Prop where
 out:∀(E:Env) (w:World) (v:Value),cu E w v p→v.oneCell'=true
class cZ (xs:List PV):Prop where
 out:∀(i:Nat) u,xs[i]? =some u→fJ u
instance (k:IntKind) (n:Int):fJ (.raw (.int k n)):=⟨fun _ _ _ h=>by cases h;rfl⟩
instance (b:Bool):fJ (.raw (.bool b)):=⟨fun _ _ _ h=>by cases h;rfl⟩
instance (b:ByteArray):fJ (.raw (.string b)):=⟨fun _ _ _ h=>by cases h;rfl⟩
instance (a:Option Addr) (n c:Nat):fJ (.raw (.slice a n c)):=⟨fun _ _ _ h=>by cases h;rfl⟩
instance (a:Option Addr):fJ (.raw (.pointer a)):=⟨fun _ _ _ h=>by cases h;rfl⟩
instance (n:Nat) (xs:List PV):fJ (.slice n xs):=⟨fun _ _ _ h=>by cases h<;>rfl⟩
instance (xs:List PV) (k:Nat):fJ (.bg xs k):=⟨fun _ _ _ h=>by cases h;rfl⟩
instance (f:FuncId) (xs:List PV):fJ (.func f xs):=⟨fun _ _ _ h=>by cases h;rfl⟩
instance (i k:Nat):fJ (.ptr i k):=⟨fun _ _ _ h=>by cases h;rfl⟩
instance (i:Nat):fJ (.own i):=⟨fun _ _ _ h=>by cases h with|own _ _ _ _ hs=>exact hs⟩
instance:cZ []:=⟨fun i u h=>by simp at h⟩
instance (x:PV) (xs:List PV) [h:fJ x] [hs:cZ xs]:cZ (x::xs):=⟨fun i u hu=>by
 cases i with
 |zero=>simp at hu;subst hu;exact h
 |succ i=>exact hs.out i u (by simpa using hu)⟩
theorem cZ.map{α:Type}(f:α→PV)(l:List α)(h:∀a,fJ (f a)):cZ (l.map f):=⟨fun i u hu=>by
 simp only[List.getElem?_map,Option.map_eq_some_iff]at hu
 obtain⟨a,_,rfl⟩:=hu
 exact h a⟩
theorem cZ.flatMap{α:Type}(f:α→List PV)(l:List α)(h:∀a,cZ (f a)):cZ (l.flatMap f):=⟨fun i u hu=>by
 have hm:u∈l.flatMap f:=List.mem_of_getElem? hu
 obtain⟨a,_,ha⟩:=List.mem_flatMap.1 hm
 obtain⟨j,hj⟩:=List.getElem?_of_mem ha
 exact(h a).out j u hj⟩
theorem aV.uD{E:Env}{w:World}{cs:List Value}{xs:List PV}[h:cZ xs](hs:aV E w cs xs):∀c∈cs,c.oneCell'=true:=by
 intro c hc
 obtain⟨i,hi⟩:=List.getElem?_of_mem hc
 have hlt:=(List.getElem?_eq_some_iff.1 hi).1
 rw[hs.1]at hlt
 exact(h.out i xs[i] (by simp[hlt])).out E w c (hs.2 i c _ hi (by simp[hlt]))
def gO(t:b9):List Operand→Option (List PV)
 | []=>some []
 |x::l=>match aA t x,gO t l with
  |some p,some q=>some (p::q)
  |_,_=>none
theorem ga{E:Env}{w:World}{ρ:Operand→Value}{t:b9}(hρ:kJ ρ)(h:cG E w ρ t):∀ {l:List Operand} {ps:List PV},gO t l=some ps→aV E w (l.map ρ) ps
 | [],ps,hx=>by simp[gO]at hx;subst hx;exact aV.nil E w
 |x::l,ps,hx=>by
  simp only[gO]at hx
  split at hx
  ·rename_i p q hp hq
   cases hx
   exact aV.cons (aq hρ h hp) (ga hρ h hq)
  ·cases hx
def bh(P:Program)(σ:bN)(t:b9)(o:Oper)(p:PV):Prop:=
 ∀F base E ρ w,kJ ρ→Sat F base σ E w→cG E w ρ t→fH P w (fun v w'=>cu E w' v p) ((execOp ρ o).run P w)
section
variable {P:Program} {σ:bN} {t:b9} {o:Oper}
theorem bd{w:World}{Φ:db}{v:Value}(h:Φ v w):fH P w Φ (.ok (.value v) w):=⟨Ext.refl _,h⟩
theorem fE{x:Operand}{p:PV}(ho:o.op= .move x)(hx:aA t x=some p):bh P σ t o p:=by
 intro F base E ρ w hρ _ hT
 have h:=aq hρ hT hx
 simp only[execOp,ho,Sem.run_pure]
 exact bd h
theorem eu{x:Operand}{p:PV}(ho:o.op= .assign x)(hx:aA t x=some p):bh P σ t o p:=by
 intro F base E ρ w hρ _ hT
 have h:=aq hρ hT hx
 simp only[execOp,ho,Sem.run_pure]
 exact bd h
theorem Gr{c a b:Operand}{p:PV}(ho:o.op= .pick c a b)(hc:aA t c=some (.raw (.bool true)))(hx:aA t a=some p):bh P σ t o p:=by
 intro F base E ρ w hρ _ hT
 have h:=aq hρ hT hx
 have h1:=aq hρ hT hc
 generalize hz:ρ c=z at h1
 cases h1
 simp only[execOp,ho,hz,asBool,Sem.run_bind,Sem.run_pure,Result.andThen_ok,if_true]
 exact bd h
theorem GJ{c a b:Operand}{p:PV}(ho:o.op= .pick c a b)(hc:aA t c=some (.raw (.bool false)))(hx:aA t b=some p):bh P σ t o p:=by
 intro F base E ρ w hρ _ hT
 have h:=aq hρ hT hx
 have h1:=aq hρ hT hc
 generalize hz:ρ c=z at h1
 cases h1
 simp only[execOp,ho,hz,asBool,Sem.run_bind,Sem.run_pure,Result.andThen_ok]
 exact bd h
theorem JW{x:Operand}{ty:TypeId}{q:Bool}(ho:o.op= .unOp .not ty x)(hx:aA t x=some (.raw (.bool q))):bh P σ t o (.raw (.bool (!q))):=by
 intro F base E ρ w hρ _ hT
 have h1:=aq hρ hT hx
 generalize hz:ρ x=z at h1
 cases h1
 simp only[execOp,ho,hz,Op.unary,Sem.run_bind,Sem.run_pure,Result.andThen_ok]
 exact bd (.raw _)
theorem gP{op:BinOp}{x y:Operand}{ty tz:TypeId}{k:IntKind}{a b:Int}{v:Value}(ho:o.op= .binOp op ty x y tz)(hx:aA t x=some (.raw (.int k a)))(hy:aA t y=some (.raw (.int k b)))
  (hv:∀w,(binOp op ty (.int k a) (.int k b)).run P w= .ok v w):bh P σ t o (.raw v):=by
 intro F base E ρ w hρ _ hT
 have h1:=aq hρ hT hx
 have h2:=aq hρ hT hy
 generalize hz:ρ x=z at h1
 generalize hz':ρ y=z' at h2
 cases h1
 cases h2
 have hg:∀w,(eqGuard op ty x y (.int k a) (.int k b)).run P w= .ok () w:=by
  intro w;unfold eqGuard;split<;>rfl
 simp only[execOp,ho,hz,hz',Sem.run_bind,Sem.run_pure,Result.andThen_ok,hg,hv]
 exact bd (.raw _)
theorem Km{x y:Operand}{ty tz:TypeId}{k:IntKind}{a b:Int}{q:Bool}(ho:o.op= .binOp .lss ty x y tz)(hx:aA t x=some (.raw (.int k a)))(hy:aA t y=some (.raw (.int k b)))(hq:decide (a<b)=q):bh P σ t o (.raw (.bool q)):=
 gP ho hx hy fun w=>by simp[binOp,Op.intCmp,hq]
theorem JT{x y:Operand}{ty tz:TypeId}{k:IntKind}{a b:Int}{q:Bool}(ho:o.op= .binOp .leq ty x y tz)(hx:aA t x=some (.raw (.int k a)))(hy:aA t y=some (.raw (.int k b)))(hq:decide (a≤b)=q):bh P σ t o (.raw (.bool q)):=
 gP ho hx hy fun w=>by simp[binOp,Op.intCmp,hq]
theorem Kj{x y:Operand}{ty tz:TypeId}{k:IntKind}{a b:Int}{q:Bool}(ho:o.op= .binOp .gtr ty x y tz)(hx:aA t x=some (.raw (.int k a)))(hy:aA t y=some (.raw (.int k b)))(hq:decide (b<a)=q):bh P σ t o (.raw (.bool q)):=
 gP ho hx hy fun w=>by simp[binOp,Op.intCmp,hq]
theorem A2{x y:Operand}{ty tz:TypeId}{k:IntKind}{a b:Int}{q:Bool}(ho:o.op= .binOp .geq ty x y tz)(hx:aA t x=some (.raw (.int k a)))(hy:aA t y=some (.raw (.int k b)))(hq:decide (b≤a)=q):bh P σ t o (.raw (.bool q)):=
 gP ho hx hy fun w=>by simp[binOp,Op.intCmp,hq]
theorem pX{x y:Operand}{ty tz:TypeId}{k:IntKind}{a b:Int}{q:Bool}(ho:o.op= .binOp .eql ty x y tz)(hx:aA t x=some (.raw (.int k a)))(hy:aA t y=some (.raw (.int k b)))(hq:decide (a=b)=q):bh P σ t o (.raw (.bool q)):=
 gP ho hx hy fun w=>by subst hq;simp[binOp,Op.intCmp];exact Bool.eq_iff_iff.2 (by simp)
theorem JN{x y:Operand}{ty tz:TypeId}{k:IntKind}{a b:Int}{q:Bool}(ho:o.op= .binOp .neq ty x y tz)(hx:aA t x=some (.raw (.int k a)))(hy:aA t y=some (.raw (.int k b)))(hq:decide (a≠b)=q):bh P σ t o (.raw (.bool q)):=
 gP ho hx hy fun w=>by subst hq;simp[binOp,Op.intCmp];exact Bool.eq_iff_iff.2 (by simp)
def In64(n:Int):Prop:= -9223372036854775808≤n∧n≤9223372036854775807
theorem jF{n:Int}(h:In64 n):IntKind.i64.wrap n=n:=IntWalk.i64_in n (by unfold In64 at h;omega)
theorem Kt{x y:Operand}{ty tz:TypeId}{a b c:Int}(ho:o.op= .binOp .add ty x y tz)(hx:aA t x=some (.raw (.int .i64 a)))(hy:aA t y=some (.raw (.int .i64 b)))(hc:a+b=c)(hn:In64 c):bh P σ t o (.raw (.int .i64 c)):=
 gP ho hx hy fun w=>by simp[binOp,Op.intArith,hc,jF hn]
theorem JO{x y:Operand}{ty tz:TypeId}{a b c:Int}(ho:o.op= .binOp .sub ty x y tz)(hx:aA t x=some (.raw (.int .i64 a)))(hy:aA t y=some (.raw (.int .i64 b)))(hc:a - b=c)(hn:In64 c):bh P σ t o (.raw (.int .i64 c)):=
 gP ho hx hy fun w=>by simp[binOp,Op.intArith,hc,jF hn]
theorem Ke{x y:Operand}{ty tz:TypeId}{a b c:Int}(ho:o.op= .binOp .mul ty x y tz)(hx:aA t x=some (.raw (.int .i64 a)))(hy:aA t y=some (.raw (.int .i64 b)))(hc:a*b=c)(hn:In64 c):bh P σ t o (.raw (.int .i64 c)):=
 gP ho hx hy fun w=>by simp[binOp,Op.intArith,hc,jF hn]
theorem kf{x y:Operand}{ty tz:TypeId}{a b c:Int}(ho:o.op= .binOp .quo ty x y tz)(hx:aA t x=some (.raw (.int .i64 a)))(hy:aA t y=some (.raw (.int .i64 b)))(hb:b≠0)(hc:a.tdiv b=c)(hn:In64 c):bh P σ t o (.raw (.int .i64 c)):=
 gP ho hx hy fun w=>by simp[binOp,Op.intDiv,hb,hc,jF hn]
theorem ni{x y:Operand}{ty tz:TypeId}{a b c:Int}(ho:o.op= .binOp .rem ty x y tz)(hx:aA t x=some (.raw (.int .i64 a)))(hy:aA t y=some (.raw (.int .i64 b)))(hb:b≠0)(hc:a.tmod b=c):bh P σ t o (.raw (.int .i64 c)):=
 gP ho hx hy fun w=>by simp[binOp,Op.intDiv,hb,hc]
theorem wR{op:BinOp}{x y:Operand}{ty tz:TypeId}{a b v:Value}(ho:o.op= .binOp op ty x y tz)(hx:aA t x=some (.raw a))(hy:aA t y=some (.raw b))
  (hv:∀w,(do eqGuard op ty x y a b;binOp op ty a b:Sem Value).run P w= .ok v w):bh P σ t o (.raw v):=by
 intro F base E ρ w hρ _ hT
 have h1:=aq hρ hT hx
 have h2:=aq hρ hT hy
 generalize hz:ρ x=z at h1
 generalize hz':ρ y=z' at h2
 cases h1
 cases h2
 have hv':=hv w
 simp only[execOp,ho,hz,hz',Sem.run_bind]at hv' ⊢
 rw[hv']
 exact bd (.raw _)
theorem Ev{x:Operand}{xs:List PV}{off:Nat}(ho:o.op= .nilCheck x)(hx:aA t x=some (.bg xs off)):bh P σ t o (.bg xs off):=by
 intro F base E ρ w hρ _ hT
 have h1:=aq hρ hT hx
 have h2:=h1
 generalize hz:ρ x=z at h1 h2
 cases h1
 simp only[execOp,ho,hz,Sem.run_pure]
 exact bd h2
theorem jb{x:Operand}{i off:Nat}(ho:o.op= .nilCheck x)(hx:aA t x=some (.ptr i off)):bh P σ t o (.ptr i off):=by
 intro F base E ρ w hρ _ hT
 have h1:=aq hρ hT hx
 have h2:=h1
 generalize hz:ρ x=z at h1 h2
 cases h1
 simp only[execOp,ho,hz,Sem.run_pure]
 exact bd h2
theorem BJ{x:Operand}{f:FuncId}{cap:List PV}(ho:o.op= .nilCheck x)(hx:aA t x=some (.func f cap)):bh P σ t o (.func f cap):=by
 intro F base E ρ w hρ _ hT
 have h1:=aq hρ hT hx
 have h2:=h1
 generalize hz:ρ x=z at h1 h2
 cases h1
 simp only[execOp,ho,hz,Sem.run_pure]
 exact bd h2
def kj(P:Program)(s f:Nat):Option Nat:=
 match P.underlying s with
 |some (.struct fs)=>match(fs[f]? :Option Field)with
  |some fl=>match P.info? fl.type with
   |some i=>if i.size=0 then none else some fl.offset
   |none=>none
  |none=>none
 |_=>none
theorem pV{s f off:Nat}(h:kj P s f=some off)(b o:Nat)(w:World):(Instr.fieldAt s (.pointer (some ⟨b,o,none⟩)) f).run P w= .ok (.pointer (some ⟨b,o+off,none⟩)) w:=by
 unfold kj at h
 split at h
 ·rename_i fs hu
  split at h
  ·rename_i fl hf
   split at h
   ·rename_i i hi
    split at h
    ·cases h
    ·rename_i hs
     cases h
     simp[Instr.fieldAt,run_underlying hu,hf,Instr.sureAddr,fieldPlace,sizeOf,typeInfo,hi,hs,Addr.add_lit,program,Sem.run]
   ·cases h
  ·cases h
 ·cases h
theorem yT{s f off:Nat}{x:Operand}{xs:List PV}{k:Nat}(ho:o.op= .fieldAddr s x f)(hf:kj P s f=some off)(hx:aA t x=some (.bg xs k)):bh P σ t o (.bg xs (k+off)):=by
 intro F base E ρ w hρ _ hT
 have h1:=aq hρ hT hx
 generalize hz:ρ x=z at h1
 cases h1 with
 |bg b o' _ cs _ hb hM hc hl hr=>
  simp only[execOp,ho,hz,Sem.run_bind,pV hf,Result.andThen_ok,Sem.run_pure]
  refine bd ?_
  rw[Nat.add_assoc]
  exact .bg b o' _ cs xs hb hM hc hl hr
theorem zp{s f off:Nat}{x:Operand}{i k:Nat}(ho:o.op= .fieldAddr s x f)(hf:kj P s f=some off)(hx:aA t x=some (.ptr i k)):bh P σ t o (.ptr i (k+off)):=by
 intro F base E ρ w hρ _ hT
 have h1:=aq hρ hT hx
 generalize hz:ρ x=z at h1
 cases h1 with
 |ptr _ _ b hi h=>
  simp only[execOp,ho,hz,Sem.run_bind,pV hf,Result.andThen_ok,Sem.run_pure]
  exact bd (.ptr i _ b hi h)
def sa(P:Program)(ty:TypeId):Option (Option Nat):=
 match P.underlying ty,P.info? ty with
 |some d,some i=>match d with
  | .struct _| .array _ _=>some (some i.size)
  |_=>if i.size=1 then some none else none
 |_,_=>none
theorem run_loadCellsFrom(a:Addr)(ha:a.spot=none):∀(cs:List Value) (i:Nat) (acc:Array Value) (w:World),(∀j x,cs[j]? =some x→w.cell? ⟨a.block,a.off+(i+j),none⟩=some x)→
  (loadCellsFrom a i cs.length acc).run P w= .ok (acc++cs.toArray) w
 | [],i,acc,w,_=>by simp[loadCellsFrom]
 |c::cs,i,acc,w,h=>by
  have h0:=h 0 c rfl
  have ea:a.add i=⟨a.block,a.off+i,none⟩:=by
   unfold Addr.add;split
   ·rename_i hi;subst hi;cases a;simp at ha;subst ha;rfl
   ·rfl
  have ih:=run_loadCellsFrom a ha cs (i+1) (acc.push c) w (fun j x hx=>by
   have:=h (j+1) x (by simpa using hx)
   rw[show i+1+j=i+(j+1) by omega];exact this)
  simp only[List.length_cons,loadCellsFrom,Sem.run_bind,load,Sem.run,ea]
  rw[show a.off+(i+0)=a.off+i by omega]at h0
  rw[h0]
  simp only[Result.andThen_ok,ih]
  simp
theorem lE{ty n b off:Nat}{cs:List Value}{w:World}(hk:sa P ty=some (some n))(hl:cs.length=n)(hc:∀(j:Nat) x,cs[j]? =some x→w.cell? ⟨b,off+j,none⟩=some x):
  (Instr.loadAt ty (.pointer (some ⟨b,off,none⟩))).run P w= .ok (.agg cs.toArray) w:=by
 have hlc:=run_loadCellsFrom (P:=P) ⟨b,off,none⟩ rfl cs 0 #[] w (fun j x hx=>by rw[Nat.zero_add];exact hc j x hx)
 rw[hl]at hlc
 unfold sa at hk
 split at hk
 ·rename_i d i hu hi
  split at hk
  ·cases hk
   simp[Instr.loadAt,Instr.sureAddr,loadVar,isAgg,run_underlying hu,sizeOf,typeInfo,hi,program,Sem.run,loadCells,hlc]
  ·cases hk
   simp[Instr.loadAt,Instr.sureAddr,loadVar,isAgg,run_underlying hu,sizeOf,typeInfo,hi,program,Sem.run,loadCells,hlc]
  ·split at hk<;>cases hk
 ·cases hk
theorem jH{ty b off:Nat}{c:Value}{w:World}(hk:sa P ty=some none)(hc:w.cell? ⟨b,off,none⟩=some c):
  (Instr.loadAt ty (.pointer (some ⟨b,off,none⟩))).run P w= .ok c w:=by
 unfold sa at hk
 split at hk
 ·rename_i d i hu hi
  split at hk
  ·cases hk
  ·cases hk
  ·rename_i h1 h2
   have ha:∀w,(isAgg ty).run P w= .ok false w:=by
    intro w
    unfold isAgg
    simp only[Sem.run_bind,run_underlying hu,Result.andThen_ok]
    rfl
   simp only[Instr.loadAt,Instr.sureAddr,loadVar,Sem.run_bind,Sem.run_pure,Result.andThen_ok,ha]
   simp[load,Sem.run,hc]
 ·cases hk
theorem sT{ty:TypeId}{x:Operand}{xs:List PV}{k:Nat}{p:PV}(ho:o.op= .load ty x)(hk:sa P ty=some none)(hx:aA t x=some (.bg xs k))(hp:xs[k]? =some p):bh P σ t o p:=by
 intro F base E ρ w hρ _ hT
 have h1:=aq hρ hT hx
 generalize hz:ρ x=z at h1
 cases h1 with
 |bg b o' _ cs _ hb hM hc hl hr=>
  obtain⟨c,hcc,hcr⟩:=aV.get (E:=E) (w:=w) ⟨hl,hr⟩ hp
  simp only[execOp,ho,hz,Sem.run_bind,jH hk (hc k c hcc),Result.andThen_ok,Sem.run_pure]
  exact bd hcr
theorem nZ{ty n:Nat}{x:Operand}{xs ys:List PV}{k:Nat}(ho:o.op= .load ty x)(hk:sa P ty=some (some n))(hx:aA t x=some (.bg xs k))(hp:(xs.drop k).take n=ys)(hn:ys.length=n):bh P σ t o (.agg ys):=by
 intro F base E ρ w hρ _ hT
 have h1:=aq hρ hT hx
 generalize hz:ρ x=z at h1
 cases h1 with
 |bg b o' _ cs _ hb hM hc hl hr=>
  have hR:aV E w ((cs.drop k).take n) ys:=by rw[←hp];exact(aV.drop (E:=E) (w:=w) ⟨hl,hr⟩ k).take n
  have:=lE (P:=P) (w:=w) (b:=b) (off:=o'+k) (cs:=(cs.drop k).take n) hk (by rw[hR.1,hn]) (fun j x hx=>by
   rw[List.getElem?_take]at hx
   split at hx
   ·rw[List.getElem?_drop]at hx;rw[Nat.add_assoc];exact hc _ x hx
   ·cases hx)
  simp only[execOp,ho,hz,Sem.run_bind,this,Result.andThen_ok,Sem.run_pure]
  exact bd (.agg _ ys (by simpa using hR.1) (fun i x u h1 h2=>hR.2 i x u (by simpa using h1) h2))
def cK.xs:cK→List PV
 | .cells _ xs=>xs
 | .row _ _ _ xs=>xs
 | .mp _=>[]
theorem Sat.cells{F:Nat→Prop}{base:Nat}{E:Env}{w:World}(h:Sat F base σ E w){i b:Nat}{blk:cK}(hi:σ[i]? =some (some blk))(hb:E.at_ i= .pointer (some ⟨b,0,none⟩)∨∃n c,E.at_ i= .slice (some ⟨b,0,none⟩) n c):
  ∃cs,aV E w cs blk.xs∧∀(j:Nat) x,cs[j]? =some x→w.cell? ⟨b,j,none⟩=some x:=by
 have hB:=h.blk i blk hi
 cases blk with
 |cells ty xs=>
  obtain⟨b',cs,he,h1,h2,h3⟩:=hB
  have:b=b':=by
   rcases hb with hb|⟨n,c,hb⟩
   ·rw[hb]at he;simpa using he
   ·rw[hb]at he;cases he
  subst this
  exact⟨cs.toList,h3,fun j x hx=>by simp only[World.cell?,h2];simpa using hx⟩
 |row e size n xs=>
  obtain⟨cs,h1,h2⟩:=hB
  refine⟨cs,h2,fun j x hx=>?_⟩
  have:=h1.cells (g:=b) (by
   rcases hb with hb|⟨n,c,hb⟩
   ·have:=fW h1;rw[hb]at this ⊢;simp[aY]at this;rw[←this]
   ·rw[hb];rfl) j x hx
  rw[Addr.add_lit]at this
  simpa using this
 |mp kv=>exact⟨[],aV.nil _ _,fun j x hx=>by simp at hx⟩
theorem dc{ty:TypeId}{x:Operand}{i k:Nat}{blk:cK}{p:PV}(ho:o.op= .load ty x)(hk:sa P ty=some none)(hx:aA t x=some (.ptr i k))(hi:σ[i]? =some (some blk))(hp:blk.xs[k]? =some p):bh P σ t o p:=by
 intro F base E ρ w hρ hS hT
 have h1:=aq hρ hT hx
 generalize hz:ρ x=z at h1
 cases h1 with
 |ptr _ _ b hiL h=>
  obtain⟨cs,hR,hc⟩:=hS.cells hi h
  obtain⟨c,hcc,hcr⟩:=hR.get hp
  simp only[execOp,ho,hz,Sem.run_bind,jH hk (hc k c hcc),Result.andThen_ok,Sem.run_pure]
  exact bd hcr
theorem gw{ty n:Nat}{x:Operand}{i k:Nat}{blk:cK}{ys:List PV}(ho:o.op= .load ty x)(hk:sa P ty=some (some n))(hx:aA t x=some (.ptr i k))(hi:σ[i]? =some (some blk))(hp:(blk.xs.drop k).take n=ys)(hn:ys.length=n):bh P σ t o (.agg ys):=by
 intro F base E ρ w hρ hS hT
 have h1:=aq hρ hT hx
 generalize hz:ρ x=z at h1
 cases h1 with
 |ptr _ _ b hiL h=>
  obtain⟨cs,hR',hc⟩:=hS.cells hi h
  have hR:aV E w ((cs.drop k).take n) ys:=by rw[←hp];exact(hR'.drop k).take n
  have:=lE (P:=P) (w:=w) (b:=b) (off:=k) (cs:=(cs.drop k).take n) hk (by rw[hR.1,hn]) (fun j x hx=>by
   rw[List.getElem?_take]at hx
   split at hx
   ·rw[List.getElem?_drop]at hx;exact hc _ x hx
   ·cases hx)
  simp only[execOp,ho,hz,Sem.run_bind,this,Result.andThen_ok,Sem.run_pure]
  exact bd (.agg _ ys (by simpa using hR.1) (fun i x u h1 h2=>hR.2 i x u (by simpa using h1) h2))
theorem kN{ty n:Nat}{x:Operand}{i:Nat}{blk:cK}(ho:o.op= .load ty x)(hk:sa P ty=some (some n))(hx:aA t x=some (.ptr i 0))(hi:σ[i]? =some (some blk))(hn:blk.xs.length=n):bh P σ t o (.agg blk.xs):=
 gw ho hk hx hi (by rw[List.drop_zero,←hn,List.take_length]) hn
def yq(P:Program)(ty:TypeId):Option (TypeId×Nat):=
 match P.underlying ty with
 |some (.slice e)=>match P.info? e with
  |some i=>some (e,i.size)
  |none=>none
 |_=>none
theorem gE{ty e s:Nat}(h:yq P ty=some (e,s)):P.underlying ty=some (.slice e)∧∃i,P.info? e=some i∧i.size=s:=by
 unfold yq at h
 split at h
 ·rename_i e' hu
  split at h
  ·rename_i i hi;cases h;exact⟨hu,i,hi,rfl⟩
  ·cases h
 ·cases h
theorem pT{ty e s b off n c:Nat}{k:IntKind}{i:Int}{w:World}(h:yq P ty=some (e,s))(hi:0≤i)(hn:i<n):
  (Instr.indexAt ty (.slice (some ⟨b,off,none⟩) n c) (.int k i)).run P w= .ok (.pointer (some ⟨b,off+i.toNat*s,none⟩)) w:=by
 obtain⟨hu,inf,hinf,hs⟩:=gE h
 simp[Instr.indexAt,asIntOf,run_underlying hu,hi,hn,sizeOf,typeInfo,hinf,hs,Addr.add_lit,program,Sem.run]
theorem uy{ty e s n:Nat}{x ix:Operand}{xs:List PV}{k:IntKind}{i:Int}{j:Nat}(ho:o.op= .indexAddr ty x ix)(he:yq P ty=some (e,s))(hx:aA t x=some (.slice n xs))(hix:aA t ix=some (.raw (.int k i)))(hi:0≤i)(hn:i<n)(hj:i.toNat*s=j):bh P σ t o (.bg xs j):=by
 intro F base E ρ w hρ _ hT
 have h1:=aq hρ hT hx
 have h2:=aq hρ hT hix
 generalize hz:ρ x=z at h1
 generalize hz':ρ ix=z' at h2
 cases h2
 cases h1 with
 |cc=>omega
 |empty a c h=>omega
 |slice b off _ c cs _ h0 h1 h2 hb hM hc hl hr=>
  simp only[execOp,ho,hz,hz',Sem.run_bind,pT he hi hn,Result.andThen_ok,Sem.run_pure,hj]
  exact bd (.bg b off j cs xs hb hM hc hl hr)
theorem zb{ty e s n e' s':Nat}{x ix:Operand}{xs:List PV}{k:IntKind}{i:Int}{m j:Nat}(ho:o.op= .indexAddr ty x ix)(he:yq P ty=some (e,s))(hx:aA t x=some (.own m))(hm:σ[m]? =some (some (.row e' s' n xs)))(hix:aA t ix=some (.raw (.int k i)))(hi:0≤i)(hn:i<n)(hj:i.toNat*s=j):bh P σ t o (.ptr m j):=by
 intro F base E ρ w hρ hS hT
 have h1:=aq hρ hT hx
 have h2:=aq hρ hT hix
 generalize hz:ρ x=z at h1
 generalize hz':ρ ix=z' at h2
 cases h2
 cases h1 with
 |own _ hmL _ h _=>
  obtain⟨cs,k1,k2⟩:=hS.blk m _ hm
  rcases k1.2 with⟨_,h0⟩|⟨g,cap,cur,hv,_⟩
  ·omega
  ·rw[hv]at h
   subst h
   simp only[execOp,ho,hz,hz',Sem.run_bind,pT he hi hn,Result.andThen_ok,Sem.run_pure,hj,Nat.zero_add]
   exact bd (.ptr m j g hmL (.inr ⟨_,_,hv⟩))
def JG(P:Program)(ty:TypeId):Option (Nat×Nat):=
 match P.underlying ty with
 |some (.array n e)=>match P.info? e with
  |some i=>some (n,i.size)
  |none=>none
 |_=>none
theorem om{ty n s b off:Nat}{k:IntKind}{i:Int}{w:World}(h:JG P ty=some (n,s))(hi:0≤i)(hn:i<n):
  (Instr.indexAt ty (.pointer (some ⟨b,off,none⟩)) (.int k i)).run P w= .ok (.pointer (some ⟨b,off+i.toNat*s,none⟩)) w:=by
 unfold JG at h
 split at h
 ·rename_i n' e hu
  split at h
  ·rename_i inf hinf;cases h
   simp[Instr.indexAt,asIntOf,run_underlying hu,hi,hn,sizeOf,typeInfo,hinf,Addr.add_lit,program,Sem.run,Instr.sureAddr]
  ·cases h
 ·cases h
theorem sr{ty s n:Nat}{x ix:Operand}{xs:List PV}{k:IntKind}{i:Int}{off j:Nat}(ho:o.op= .indexAddr ty x ix)(he:JG P ty=some (n,s))(hx:aA t x=some (.bg xs off))(hix:aA t ix=some (.raw (.int k i)))(hi:0≤i)(hn:i<n)(hj:i.toNat*s=j):bh P σ t o (.bg xs (off+j)):=by
 intro F base E ρ w hρ _ hT
 have h1:=aq hρ hT hx
 have h2:=aq hρ hT hix
 generalize hz:ρ x=z at h1
 generalize hz':ρ ix=z' at h2
 cases h2
 cases h1 with
 |bg b o' _ cs _ hb hM hc hl hr=>
  simp only[execOp,ho,hz,hz',Sem.run_bind,om he hi hn,Result.andThen_ok,Sem.run_pure,hj]
  refine bd ?_
  rw[Nat.add_assoc]
  exact .bg b o' _ cs xs hb hM hc hl hr
theorem Ci{x:Operand}{k:Nat}{xs:List PV}{p:PV}(ho:o.op= .extract x k)(hx:aA t x=some (.tuple xs))(hp:xs[k]? =some p):bh P σ t o p:=by
 intro F base E ρ w hρ _ hT
 have h1:=aq hρ hT hx
 generalize hz:ρ x=z at h1
 cases h1 with
 |tuple cs _ hl hr=>
  obtain⟨c,hcc,hcr⟩:=aV.get (E:=E) (w:=w) (cs:=cs.toList) ⟨by simpa using hl,fun i x u h1 h2=>hr i x u (by simpa using h1) h2⟩ hp
  have hcc':cs[k]? =some c:=by simpa using hcc
  simp only[execOp,ho,hz,Instr.extract,hcc',Sem.run_bind,Sem.run_pure,Result.andThen_ok]
  exact bd hcr
theorem dw{f:FuncId}{cs:Array Operand}{xs:List PV}(ho:o.op= .makeFunc (.func f) #[] cs)(hx:gO t cs.toList=some xs):bh P σ t o (.func f xs):=by
 intro F base E ρ w hρ _ hT
 simp only[execOp,ho,Instr.makeFunc,Sem.run_bind,Sem.run_pure,Result.andThen_ok]
 refine bd ?_
 have:(Array.map ρ #[]:Array Value)= #[]:=by simp
 rw[this]
 have h:=ga hρ hT hx
 exact .func f _ xs (by simpa using h.1) (fun i x u h1 h2=>h.2 i x u (by simpa using h1) h2)
def Can(P:Program)(f:FuncId)(ps:List PV)(R:PV→Prop):Prop:=
 ∀F w (vs:Array Value),(∀b,F b→b<w.heap.size)→iC F w→aV (EF F) w vs.toList ps→Calls P f vs w (K6 (fun v w'=>∃r,R r∧cu (EF F) w' v r) w)
def enters(P:Program)(f:FuncId):Bool:=
 match P.funcs[f]? with
 |some fn=>fn.name != "runtime.NumGoroutine" &&fn.body.isSome
 |none=>false
theorem n0{f:FuncId}(h:enters P f=true)(args:Array Value)(w:World):(callFunc f args).run P w= .ok (.enter f args) w:=by
 unfold enters at h
 split at h
 ·rename_i fn hf
  simp only[Bool.and_eq_true,bne_iff_ne,ne_eq]at h
  obtain⟨h1,h2⟩:=h
  have h3:¬fn.body=none:=by intro hb;rw[hb]at h2;cases h2
  simp[callFunc,program,Sem.run,hf,h1,h3]
 ·cases h
theorem fG{f:FuncId}{x:Operand}{args:Array Operand}{ats:Array TypeId}{ρ:Operand→Value}{cap:Array Value}(h:enters P f=true)(ho:o.op= .call {callee:=.value x,args,argTypes:=ats})(hx:ρ x= .func (.func f) #[] cap)(w:World):
  (execOp ρ o).run P w= .ok (.enter f (args.map ρ++cap)) w:=by
 have:=n0 h (args.map ρ++cap) w
 simp[execOp,ho,resolve,hx,Deferred.ofValue,invoke,this]
theorem pq{f:FuncId}{x:Operand}{args:Array Operand}{ats:Array TypeId}{cap ps:List PV}{r:PV}(ho:o.op= .call {callee:=.value x,args,argTypes:=ats})(hf:enters P f=true)(hx:aA t x=some (.func f cap))(ha:gO t args.toList=some ps)
  (hc:Can P f (ps++cap) (· =r)) [aI (ps++cap)]:bh P σ t o r:=by
 intro F base E ρ w hρ hS hT
 have h1:=aq hρ hT hx
 have h2:=ga hρ hT ha
 generalize hz:ρ x=z at h1
 cases h1 with
 |func _ cs _ hl hr=>
  rw[fG hf ho hz w]
  refine⟨Ext.refl _,?_⟩
  have h3:aV E w (args.map ρ++cs).toList (ps++cap):=by
   rw[Array.toList_append,Array.toList_map]
   exact h2.append ⟨by simpa using hl,fun i x u k1 k2=>hr i x u (by simpa using k1) k2⟩
  refine(hc E.M w _ (fun b hb=>hS.lt hb) hS.gl (h3.pure (fun _ h=>h))).mono ?_
  rintro e w' ⟨v,rfl,hE,r',rfl,hv⟩
  exact⟨v,rfl,hE,hv.back⟩
theorem aV.le{E:Env}{w:World}{cs:List Value}{xs ys:List PV}(h:aV E w cs xs)(hl:xs.length=ys.length)(hle:∀(i:Nat) x y,xs[i]? =some x→ys[i]? =some y→lr x y):aV E w cs ys:=by
 refine⟨h.1.trans hl,fun i c u h1 h2=>?_⟩
 have hi:i<xs.length:=by rw[hl];exact(List.getElem?_eq_some_iff.1 h2).1
 exact hle i xs[i] u (by simp[hi]) h2 E w c (h.2 i c _ h1 (by simp[hi]))
inductive aD (σ:bN):PV→PV→Prop
 |pure {p:PV} [IsPure p]:aD σ p p
 |cc:aD σ (.raw (.slice none 0 0)) (.slice 0 [])
 |own {i e s n:Nat} {xs ys:List PV} (h:σ[i]? =some (some (.row e s n xs))) (hl:xs.length=ys.length) (hs:∀(j:Nat) x y,xs[j]? =some x→ys[j]? =some y→aD σ x y):aD σ (.own i) (.slice n ys)
 |ptr {i k:Nat} {blk:cK} {ys:List PV} (h:σ[i]? =some (some blk)) (hl:blk.xs.length=ys.length) (hs:∀(j:Nat) x y,blk.xs[j]? =some x→ys[j]? =some y→aD σ x y):aD σ (.ptr i k) (.bg ys k)
 |agg {xs ys:List PV} (hl:xs.length=ys.length) (hs:∀(j:Nat) x y,xs[j]? =some x→ys[j]? =some y→aD σ x y):aD σ (.agg xs) (.agg ys)
 |tuple {xs ys:List PV} (hl:xs.length=ys.length) (hs:∀(j:Nat) x y,xs[j]? =some x→ys[j]? =some y→aD σ x y):aD σ (.tuple xs) (.tuple ys)
 |func {f:FuncId} {xs ys:List PV} (hl:xs.length=ys.length) (hs:∀(j:Nat) x y,xs[j]? =some x→ys[j]? =some y→aD σ x y):aD σ (.func f xs) (.func f ys)
def ai(σ:bN)(xs ys:List PV):Prop:=xs.length=ys.length∧∀(j:Nat) x y,xs[j]? =some x→ys[j]? =some y→aD σ x y
theorem ai.nil:ai σ [] []:=⟨rfl,fun j x y h=>by simp at h⟩
theorem ai.cons{x y:PV}{xs ys:List PV}(h:aD σ x y)(hs:ai σ xs ys):ai σ (x::xs) (y::ys):=⟨by simp[hs.1],fun j a b h1 h2=>by
 cases j with
 |zero=>simp at h1 h2;subst h1;subst h2;exact h
 |succ j=>exact hs.2 j a b (by simpa using h1) (by simpa using h2)⟩
theorem ai.pure{xs:List PV}[h:aI xs]:ai σ xs xs:=⟨rfl,fun j x y h1 h2=>by
 rw[h1]at h2;cases h2
 haveI:=h.out j x h1
 exact aD.pure⟩
theorem ai.append{xs ys zs us:List PV}(h:ai σ xs ys)(k:ai σ zs us):ai σ (xs++zs) (ys++us):=⟨by simp[h.1,k.1],fun j a b h1 h2=>by
 by_cases hj:j<xs.length
 ·rw[List.getElem?_append_left hj]at h1
  rw[List.getElem?_append_left (by rw[←h.1];exact hj)]at h2
  exact h.2 j a b h1 h2
 ·rw[List.getElem?_append_right (by omega)]at h1
  rw[List.getElem?_append_right (by rw[←h.1];omega),←h.1]at h2
  exact k.2 _ a b h1 h2⟩
theorem aD.gM{xs ys:List PV}(h:ai σ xs ys):aD σ (.agg xs) (.agg ys):=.agg h.1 h.2
theorem aD.bY{xs ys:List PV}(h:ai σ xs ys):aD σ (.tuple xs) (.tuple ys):=.tuple h.1 h.2
theorem aD.fy{f:FuncId}{xs ys:List PV}(h:ai σ xs ys):aD σ (.func f xs) (.func f ys):=.func h.1 h.2
theorem aD.dA{i e s n:Nat}{xs ys:List PV}(h:σ[i]? =some (some (.row e s n xs)))(hs:ai σ xs ys):aD σ (.own i) (.slice n ys):=.own h hs.1 hs.2
theorem aD.gC{i k:Nat}{blk:cK}{ys:List PV}(h:σ[i]? =some (some blk))(hs:ai σ blk.xs ys):aD σ (.ptr i k) (.bg ys k):=.ptr h hs.1 hs.2
theorem aD.rep{F:Nat→Prop}{base:Nat}{E:Env}{w:World}(hS:Sat F base σ E w){G:Nat→Prop}(hG:∀b,G b→E.M b)(hG':∀b,G b→∀i blk,σ[i]? =some (some blk)→aY (E.at_ i)≠some b){p q:PV}(hp:aD σ p q):∀v,cu E w v p→cu (EF G) w v q:=by
 induction hp with
 |pure=>intro v h;exact IsPure.out E G w v hG h
 |cc=>intro v h;cases h;exact .cc
 | @own i e s n xs ys hs hl _ ih=>
  intro v h
  cases h with
  |own _ hi _ h _=>
   obtain⟨cs,k1,k2⟩:=hS.blk i _ hs
   have k3:aV (EF G) w cs ys:=⟨k2.1.trans hl,fun j c u h1 h2=>by
    have hj:j<xs.length:=by rw[hl];exact(List.getElem?_eq_some_iff.1 h2).1
    exact ih j xs[j] u (by simp[hj]) h2 c (k2.2 j c _ h1 (by simp[hj]))⟩
   have k4:=k1
   rcases k1.2 with⟨hv',h0⟩|⟨g,cap,cur,hv',hb,hg,hn,hc,hs',ht⟩
   ·rw[hv']at h;subst h;subst h0
    have:ys=[]:=by
     have:=k4.1;simp at this;subst this
     exact List.eq_nil_of_length_eq_zero k3.1.symm
    subst this
    exact .cc
   ·rw[hv']at h;subst h
    by_cases h0:n=0
    ·subst h0
     have:ys=[]:=by
      have:=k4.1;simp at this;subst this
      exact List.eq_nil_of_length_eq_zero k3.1.symm
     subst this
     exact .empty _ _ hc
    ·refine .slice g 0 n cap cs ys (by omega) hn hc (Array.getElem?_eq_some_iff.1 hg).1 (fun hGg=>hG' g hGg i _ hs (by rw[hv'];rfl)) (fun j x hx=>?_) k3.1 k3.2
     have:=k4.cells (g:=g) (by rw[hv'];rfl) j x hx
     rw[Addr.add_lit]at this
     exact this
 | @ptr i k blk ys hs hl _ ih=>
  intro v h
  cases h with
  |ptr _ _ b hi h=>
   obtain⟨cs,k2,k3⟩:=hS.cells hs h
   have k4:aV (EF G) w cs ys:=⟨k2.1.trans hl,fun j c u h1 h2=>by
    have hj:j<blk.xs.length:=by rw[hl];exact(List.getElem?_eq_some_iff.1 h2).1
    exact ih j blk.xs[j] u (by simp[hj]) h2 c (k2.2 j c _ h1 (by simp[hj]))⟩
   have hbk:aY (E.at_ i)=some b:=by
    rcases h with h|⟨n,c,h⟩<;>rw[h]<;>rfl
   have:=cu.bg (E:=EF G) (w:=w) b 0 k cs ys ((hS.blk i blk hs).lt hbk).2 (fun hGg=>hG' b hGg i _ hs hbk) (fun j x hx=>by rw[Nat.zero_add];exact k3 j x hx) k4.1 k4.2
   rw[Nat.zero_add]at this
   exact this
 | @agg xs ys hl _ ih=>
  intro v h
  cases h with
  |agg cs _ hl' hr=>exact .agg cs ys (hl'.trans hl) (fun j c u h1 h2=>by
    have hj:j<xs.length:=by rw[hl];exact(List.getElem?_eq_some_iff.1 h2).1
    exact ih j xs[j] u (by simp[hj]) h2 c (hr j c _ h1 (by simp[hj])))
 | @tuple xs ys hl _ ih=>
  intro v h
  cases h with
  |tuple cs _ hl' hr=>exact .tuple cs ys (hl'.trans hl) (fun j c u h1 h2=>by
    have hj:j<xs.length:=by rw[hl];exact(List.getElem?_eq_some_iff.1 h2).1
    exact ih j xs[j] u (by simp[hj]) h2 c (hr j c _ h1 (by simp[hj])))
 | @func f xs ys hl _ ih=>
  intro v h
  cases h with
  |func _ cs _ hl' hr=>exact .func f cs ys (hl'.trans hl) (fun j c u h1 h2=>by
    have hj:j<xs.length:=by rw[hl];exact(List.getElem?_eq_some_iff.1 h2).1
    exact ih j xs[j] u (by simp[hj]) h2 c (hr j c _ h1 (by simp[hj])))
theorem ai.rep{F:Nat→Prop}{base:Nat}{E:Env}{w:World}(hS:Sat F base σ E w){G:Nat→Prop}(hG:∀b,G b→E.M b)(hG':∀b,G b→∀i blk,σ[i]? =some (some blk)→aY (E.at_ i)≠some b){cs:List Value}{ps qs:List PV}(hp:ai σ ps qs)(h:aV E w cs ps):aV (EF G) w cs qs:=
 ⟨h.1.trans hp.1,fun j c u h1 h2=>by
  have hj:j<ps.length:=by rw[hp.1];exact(List.getElem?_eq_some_iff.1 h2).1
  exact(hp.2 j ps[j] u (by simp[hj]) h2).rep hS hG hG' c (h.2 j c _ h1 (by simp[hj]))⟩
theorem aD.plain{E:Env}{w:World}{p q:PV}(hp:aD [] p q):∀v,cu E w v p→cu (EF E.M) w v q:=by
 induction hp with
 |pure=>intro v h;exact IsPure.out E E.M w v (fun _ h=>h) h
 |cc=>intro v h;cases h;exact .cc
 |own h=>simp at h
 |ptr h=>simp at h
 | @agg xs ys hl _ ih=>
  intro v h
  cases h with
  |agg cs _ hl' hr=>exact .agg cs ys (hl'.trans hl) (fun j c u h1 h2=>by
    have hj:j<xs.length:=by rw[hl];exact(List.getElem?_eq_some_iff.1 h2).1
    exact ih j xs[j] u (by simp[hj]) h2 c (hr j c _ h1 (by simp[hj])))
 | @tuple xs ys hl _ ih=>
  intro v h
  cases h with
  |tuple cs _ hl' hr=>exact .tuple cs ys (hl'.trans hl) (fun j c u h1 h2=>by
    have hj:j<xs.length:=by rw[hl];exact(List.getElem?_eq_some_iff.1 h2).1
    exact ih j xs[j] u (by simp[hj]) h2 c (hr j c _ h1 (by simp[hj])))
 | @func f xs ys hl _ ih=>
  intro v h
  cases h with
  |func _ cs _ hl' hr=>exact .func f cs ys (hl'.trans hl) (fun j c u h1 h2=>by
    have hj:j<xs.length:=by rw[hl];exact(List.getElem?_eq_some_iff.1 h2).1
    exact ih j xs[j] u (by simp[hj]) h2 c (hr j c _ h1 (by simp[hj])))
theorem GU{f:FuncId}{x:Operand}{args:Array Operand}{ats:Array TypeId}{cap ps qs:List PV}{r:PV}(ho:o.op= .call {callee:=.value x,args,argTypes:=ats})(hf:enters P f=true)(hx:aA t x=some (.func f cap))(ha:gO t args.toList=some ps)
  (hq:ai σ (ps++cap) qs) (hc:Can P f qs (· =r)) [hfl:lV r]:bh P σ t o r:=by
 intro F base E ρ w hρ hS hT
 have h1:=aq hρ hT hx
 have h2:=ga hρ hT ha
 generalize hz:ρ x=z at h1
 cases h1 with
 |func _ cs _ hl hr=>
  rw[fG hf ho hz w]
  refine⟨Ext.refl _,?_⟩
  have h3:aV E w (args.map ρ++cs).toList (ps++cap):=by
   rw[Array.toList_append,Array.toList_map]
   exact h2.append ⟨by simpa using hl,fun i x u k1 k2=>hr i x u (by simpa using k1) k2⟩
  refine(hc (fun _=>False) w _ (fun b hb=>hb.elim) (hS.gl.sub fun _ h=>h.elim) (hq.rep hS (fun _ h=>h.elim) (fun _ h=>h.elim) h3)).mono ?_
  rintro e w' ⟨v',rfl,hE,r',rfl,hv⟩
  exact⟨_,rfl,hE,hfl.out _ _ _ _ _ hv⟩
theorem HH{f:FuncId}{x:Operand}{args:Array Operand}{ats:Array TypeId}{cap ps qs:List PV}{r:PV}(ho:o.op= .call {callee:=.value x,args,argTypes:=ats})(hf:enters P f=true)(hx:aA t x=some (.func f cap))(ha:gO t args.toList=some ps)
  (hq:ai [] (ps++cap) qs) (hc:Can P f qs (· =r)):bh P σ t o r:=by
 intro F base E ρ w hρ hS hT
 have h1:=aq hρ hT hx
 have h2:=ga hρ hT ha
 generalize hz:ρ x=z at h1
 cases h1 with
 |func _ cs _ hl hr=>
  rw[fG hf ho hz w]
  refine⟨Ext.refl _,?_⟩
  have h3:aV E w (args.map ρ++cs).toList (ps++cap):=by
   rw[Array.toList_append,Array.toList_map]
   exact h2.append ⟨by simpa using hl,fun i x u k1 k2=>hr i x u (by simpa using k1) k2⟩
  have h4:aV (EF E.M) w (args.map ρ++cs).toList qs:=⟨h3.1.trans hq.1,fun j c u k1 k2=>by
   have hj:j<(ps++cap).length:=by rw[hq.1];exact(List.getElem?_eq_some_iff.1 k2).1
   exact(hq.2 j (ps++cap)[j] u (by simp) k2).plain c (h3.2 j c _ k1 (by simp))⟩
  refine(hc E.M w _ (fun b hb=>hS.lt hb) hS.gl h4).mono ?_
  rintro e w' ⟨v,rfl,hE,r',rfl,hv⟩
  exact⟨v,rfl,hE,hv.back⟩
theorem yH{ty e s n:Nat}{x:Operand}{xs:List PV}(ho:o.op= .call {callee:=.builtin .len,args:= #[x],argTypes:= #[ty]})(he:yq P ty=some (e,s))(hx:aA t x=some (.slice n xs)):bh P σ t o (.raw (.int .i64 n)):=by
 intro F base E ρ w hρ _ hT
 have h1:=aq hρ hT hx
 obtain⟨hu,_⟩:=gE he
 generalize hz:ρ x=z at h1
 have:∃a c,z= .slice a n c:=by
  cases h1
  ·exact⟨_,_,rfl⟩
  ·exact⟨_,_,rfl⟩
  ·exact⟨_,_,rfl⟩
 obtain⟨a,c,rfl⟩:=this
 simp[execOp,ho,resolve,invoke,builtin,Builtin.len_,hz,run_underlying hu,goInt]
 exact bd (.raw _)
theorem rb{ty e s:Nat}{x:Operand}(ho:o.op= .call {callee:=.builtin .len,args:= #[x],argTypes:= #[ty]})(he:yq P ty=some (e,s))(hx:aA t x=some (.raw (.slice none 0 0))):bh P σ t o (.raw (.int .i64 0)):=by
 intro F base E ρ w hρ _ hT
 have h1:=aq hρ hT hx
 obtain⟨hu,_⟩:=gE he
 generalize hz:ρ x=z at h1
 cases h1
 simp[execOp,ho,resolve,invoke,builtin,Builtin.len_,hz,run_underlying hu,goInt]
 exact bd (.raw _)
theorem Fl{ty e s n e' s':Nat}{x:Operand}{m:Nat}{xs:List PV}(ho:o.op= .call {callee:=.builtin .len,args:= #[x],argTypes:= #[ty]})(he:yq P ty=some (e,s))(hx:aA t x=some (.own m))(hm:σ[m]? =some (some (.row e' s' n xs))):bh P σ t o (.raw (.int .i64 n)):=by
 intro F base E ρ w hρ hS hT
 have h1:=aq hρ hT hx
 obtain⟨hu,_⟩:=gE he
 generalize hz:ρ x=z at h1
 have:∃a c,z= .slice a n c:=by
  cases h1 with
  |own _ hmL _ h _=>
   obtain⟨cs,k1,k2⟩:=hS.blk m _ hm
   rcases k1.2 with⟨hv,h0⟩|⟨g,cap,cur,hv,_⟩
   ·rw[hv]at h;subst h;subst h0;exact⟨_,_,rfl⟩
   ·rw[hv]at h;subst h;exact⟨_,_,rfl⟩
 obtain⟨a,c,rfl⟩:=this
 simp[execOp,ho,resolve,invoke,builtin,Builtin.len_,hz,run_underlying hu,goInt]
 exact bd (.raw _)
end
section
variable {P:Program} {σ:bN} {t:b9} {o:Oper}
def lz:PV→Option (List PV)
 | .agg xs=>some xs
 | .raw v=>some (v.cells.toList.map .raw)
 | .any=>none
 | .tuple _=>none
 |p=>some [p]
theorem aV.one{E:Env}{w:World}{v:Value}{p:PV}(h:cu E w v p):aV E w [v] [p]:=aV.cons h (aV.nil E w)
theorem kH{E:Env}{w:World}{v:Value}{p:PV}{xs:List PV}(h:cu E w v p)(hx:lz p=some xs):aV E w v.cells.toList xs:=by
 cases h with
 |any=>cases hx
 |raw=>
  simp only[lz,Option.some.injEq]at hx
  subst hx
  refine⟨by simp,fun i x u h1 h2=>?_⟩
  rw[List.getElem?_map,h1]at h2
  cases h2
  exact .raw x
 |cc=>cases hx;exact aV.one .cc
 |empty a c h=>cases hx;exact aV.one (.empty a c h)
 |slice b off n c cs xs h0 h1 h2 hb hM hc hl hr=>cases hx;exact aV.one (.slice b off n c cs _ h0 h1 h2 hb hM hc hl hr)
 |bg b o' off cs xs hb hM hc hl hr=>cases hx;exact aV.one (.bg b o' off cs _ hb hM hc hl hr)
 |agg cs xs hl hr=>cases hx;exact⟨by simpa[Value.cells]using hl,fun i x u h1 h2=>hr i x u (by simpa[Value.cells]using h1) h2⟩
 |tuple cs xs hl hr=>cases hx
 |func f cs xs hl hr=>cases hx;exact aV.one (.func f cs _ hl hr)
 |bound f cs xs hl hr=>cases hx;exact aV.one (.bound f cs _ hl hr)
 |ptr i off b hi h=>cases hx;exact aV.one (.ptr i off b hi h)
 |own i hi v h hs=>
  cases hx
  have:v.cells= #[v]:=by cases v<;>first|rfl|cases hs
  rw[this]
  exact aV.one (.own i hi v h hs)
def over(cells:List PV)(off:Nat)(ys:List PV):List PV:=cells.take off++(ys++cells.drop (off+ys.length))
def lj(place:Nat→Option (Nat×Nat))(cells:List PV):List (Nat×List PV)→Option (List PV)
 | []=>some cells
 |(i,ys)::rest=>match place i with
  |none=>none
  |some (off,size)=>bif Nat.beq ys.length size&&Nat.ble (off+size) cells.length then lj place (over cells off ys) rest else none
theorem qS:∀(l:List Value) (j off:Nat) (cs:Array Value),off+j+l.length≤cs.size→
  (((l.zipIdx j).foldl (fun cs (c,j)=>cs.setIfInBounds (off+j) c) cs).toList=cs.toList.take (off+j)++(l++cs.toList.drop (off+j+l.length)))
 | [],j,off,cs,_=>by simp
 |c::l,j,off,cs,h=>by
  simp only[List.length_cons]at h
  have hlt:off+j<cs.toList.length:=by rw[Array.length_toList];omega
  rw[List.zipIdx_cons,List.foldl_cons,qS l (j+1) off _ (by simp;omega)]
  simp only[Array.toList_setIfInBounds]
  rw[show off+(j+1)=off+j+1 by omega,List.take_set,List.drop_set,if_pos (by omega),List.take_add_one]
  have e1:cs.toList[off+j]?.toList=[cs.toList[off+j]]:=by simp
  rw[e1,List.set_append_right _ _ (by rw[List.length_take];omega),List.length_take,Nat.min_eq_left (by omega)]
  simp[Nat.add_assoc,Nat.add_comm 1 l.length,Nat.add_left_comm]
theorem FO{E:Env}{w:World}{cs:Array Value}{vs:List Value}{xs ys:List PV}(h:aV E w cs.toList xs)(k:aV E w vs ys)(off:Nat)(hl:off+vs.length≤cs.size):
  aV E w ((vs.zipIdx).foldl (fun cs (c,j)=>cs.setIfInBounds (off+j) c) cs).toList (over xs off ys):=by
 have:=qS vs 0 off cs (by omega)
 simp only[Nat.add_zero]at this
 rw[this]
 unfold over
 rw[←k.1]
 exact(h.take off).append (k.append (h.drop _))
theorem oD{E:Env}{w:World}(place:Nat→Option (Nat×Nat)):∀(vs:List (Nat×Value)) (ps:List (Nat×List PV)) (cs:Array Value) (xs ys:List PV),aV E w cs.toList xs→vs.length=ps.length→
  (∀(i:Nat) (v:Nat×Value) (p:Nat×List PV),vs[i]? =some v→ps[i]? =some p→v.1=p.1∧aV E w v.2.cells.toList p.2)→lj place xs ps=some ys→∃cs',Instr.fill place cs vs=some cs'∧aV E w cs'.toList ys
 | [],[],cs,xs,ys,h,_,_,hf=>by simp only[lj,Option.some.injEq]at hf;subst hf;exact⟨cs,rfl,h⟩
 | [],_::_,_,_,_,_,hl,_,_=>by simp at hl
 |_::_,[],_,_,_,_,hl,_,_=>by simp at hl
 |(i,v)::vs,(j,p)::ps,cs,xs,ys,h,hl,hp,hf=>by
  obtain⟨he,hv⟩:=hp 0 (i,v) (j,p) I I
  simp only at he hv
  subst he
  simp only[lj]at hf
  split at hf
  ·cases hf
  ·rename_i off size hpl
   rw[Bool.cond_eq_ite]at hf
   split at hf
   ·rename_i hc
    simp only[Bool.and_eq_true,Nat.beq_eq,Nat.ble_eq]at hc
    have hsz:v.cells.size=size:=by have:=hv.1;rw[Array.length_toList]at this;omega
    have hcs:cs.size=xs.length:=by have:=h.1;rw[Array.length_toList]at this;exact this
    have hO:=FO h hv off (by rw[Array.length_toList];omega)
    obtain⟨cs',h1,h2⟩:=oD place vs ps _ _ ys hO (by simpa using hl) (fun k a b h1 h2=>hp (k+1) a b (by simpa using h1) (by simpa using h2)) hf
    refine⟨cs',?_,h2⟩
    have hcond:(v.cells.size≠size||decide (off+v.cells.size>cs.size))=false:=by simp;omega
    simp only[Instr.fill,hpl]
    rw[if_neg (by simp;omega)]
    have:(Array.zipIdx v.cells).foldl (fun cs (x:Value×Nat)=>cs.setIfInBounds (off+x.2) x.1) cs=(v.cells.toList.zipIdx).foldl (fun cs (x:Value×Nat)=>cs.setIfInBounds (off+x.2) x.1) cs:=by
     rw[←Array.foldl_toList,Array.toList_zipIdx]
    rw[this]
    exact h1
   ·cases hf
def iM(t:b9):List (Nat×Operand)→Option (List (Nat×List PV))
 | []=>some []
 |(i,x)::l=>match aA t x with
  |none=>none
  |some p=>match lz p,iM t l with
   |some q,some r=>some ((i,q)::r)
   |_,_=>none
theorem l7{E:Env}{w:World}{ρ:Operand→Value}(hρ:kJ ρ)(h:cG E w ρ t):∀(l:List (Nat×Operand)) (ps:List (Nat×List PV)),iM t l=some ps→
  (l.map fun x=>(x.1,ρ x.2)).length=ps.length∧∀(i:Nat) (v:Nat×Value) (p:Nat×List PV),(l.map fun x=>(x.1,ρ x.2))[i]? =some v→ps[i]? =some p→v.1=p.1∧aV E w v.2.cells.toList p.2
 | [],ps,hx=>by simp only[iM,Option.some.injEq]at hx;subst hx;exact⟨rfl,fun i v p h=>by simp at h⟩
 |(i,x)::l,ps,hx=>by
  simp only[iM]at hx
  split at hx
  ·cases hx
  ·rename_i p hp
   split at hx
   ·rename_i q r hq hr
    cases hx
    obtain⟨h1,h2⟩:=l7 hρ h l r hr
    refine⟨by simpa using h1,fun k v p' k1 k2=>?_⟩
    cases k with
    |zero=>
     simp at k1 k2
     subst k1;subst k2
     exact⟨rfl,kH (aq hρ h hp) hq⟩
    |succ k=>exact h2 k v p' (by simpa using k1) (by simpa using k2)
   ·cases hx
def KL(P:Program)(ty:TypeId):Option (List (Nat×Nat)×List Value):=
 match P.info? ty,P.underlying ty with
 |some it,some (.struct fields)=>
  match it.zero,fields.toList.mapM (fun f=>(P.info? f.type).map fun i=>(f.offset,i.size))with
  |some z,some places=>some (places,z.cells.toList)
  |_,_=>none
 |_,_=>none
theorem iR{ty:TypeId}{parts:Array (Nat×Operand)}{places:List (Nat×Nat)}{zero:List Value}{ps:List (Nat×List PV)}{xs:List PV}(ho:o.op= .build ty parts)(hk:KL P ty=some (places,zero))(hp:iM t parts.toList=some ps)
  (hf:lj (places[·]?) (zero.map .raw) ps=some xs):bh P σ t o (.agg xs):=by
 intro F base E ρ w hρ hS hT
 obtain⟨h1,h2⟩:=l7 hρ hT parts.toList ps hp
 have hz:aV E w zero.toArray.toList (zero.map .raw):=⟨by simp,fun i x u k1 k2=>by
  simp only[List.getElem?_map,Option.map_eq_some_iff]at k2
  obtain⟨y,hy,rfl⟩:=k2
  simp only at k1
  rw[hy]at k1
  cases k1
  exact .raw _⟩
 obtain⟨cs,hc,hR⟩:=oD (places[·]?) _ ps zero.toArray _ xs hz h1 h2 hf
 have hb:P.built ty ((parts.map fun(i,x)=>(i,ρ x)).toList)=some cs:=by
  unfold KL at hk
  split at hk
  ·rename_i it fields Kf hu
   split at hk
   ·rename_i z pl hz' hpl
    cases hk
    simp only[Program.built,Kf,hu,hz',hpl,Array.toList_map]
    simpa using hc
   ·cases hk
  ·cases hk
 have hrun:=run_build (P:=P) w ty (parts.map fun(i,x)=>(i,ρ x)) cs hb
 simp only[execOp,ho,Sem.run_bind,hrun,Result.andThen_ok,Sem.run_pure]
 exact bd (.agg cs xs (by have:=hR.1;rw[Array.length_toList]at this;exact this) (fun i x u k1 k2=>hR.2 i x u (by simpa using k1) k2))
theorem sI{F:Nat→Prop}{base:Nat}{E:Env}{w:World}(hS:Sat F base σ E w):¬E.M w.heap.size:=fun h=>Nat.lt_irrefl _ (hS.lt h)
theorem size_alloc(w:World)(o:Obj):(w.alloc o).heap.size=w.heap.size+1:=by simp
theorem Hu{F:Nat→Prop}{base:Nat}{E:Env}{w:World}(hS:Sat F base σ E w)(cs:Array Value)(e:TypeId){xs:List PV}(h:aV E w cs.toList xs):cu E (w.alloc (.cells cs e)) (.pointer (some ⟨w.heap.size,0,none⟩)) (.bg xs 0):=by
 have hE:Ext w (w.alloc (.cells cs e)):=(Ext.refl w).alloc _
 have:=cu.bg (E:=E) (w:=w.alloc (.cells cs e)) w.heap.size 0 0 cs.toList xs (by rw[size_alloc];exact Nat.lt_succ_self _) (sI hS) (fun i x hx=>by simp only[World.cell?,heap_alloc_new];simpa using hx) h.1 (fun i x u k1 k2=>(h.2 i x u k1 k2).ext hE)
 exact this
theorem CM{F:Nat→Prop}{base:Nat}{E:Env}{w:World}(hS:Sat F base σ E w)(cs:Array Value)(e:TypeId){n:Nat}(hn:n≤maxLen){xs:List PV}(h0:0<n)(h:aV E w cs.toList xs):cu E (w.alloc (.cells cs e)) (.slice (some ⟨w.heap.size,0,none⟩) n n) (.slice n xs):=by
 have hE:Ext w (w.alloc (.cells cs e)):=(Ext.refl w).alloc _
 exact cu.slice (E:=E) (w:=w.alloc (.cells cs e)) w.heap.size 0 n n cs.toList xs h0 (Nat.le_refl _) hn (by rw[size_alloc];exact Nat.lt_succ_self _) (sI hS) (fun i x hx=>by simp only[World.cell?,heap_alloc_new];simpa using hx) h.1 (fun i x u k1 k2=>(h.2 i x u k1 k2).ext hE)
theorem Dy{ty:TypeId}{x:Operand}{p:PV}{xs:List PV}(ho:o.op= .box ty x)(hx:aA t x=some p)(hc:lz p=some xs):bh P σ t o (.bg xs 0):=by
 intro F base E ρ w hρ hS hT
 have h:=kH (aq hρ hT hx) hc
 have hr:(Instr.box ty (ρ x)).run P w= .ok (.pointer (some ⟨w.heap.size,0,none⟩)) (w.alloc (.cells (ρ x).cells ty)):=by
  simp[Instr.box,newVar,newRow]
 simp only[execOp,ho,Sem.run_bind,hr,Result.andThen_ok,Sem.run_pure]
 exact⟨(Ext.refl w).alloc _,Hu hS _ _ h⟩
def H6(P:Program)(ty:TypeId):Option (TypeId×Nat×List Value):=
 match P.underlying ty with
 |some (.slice e)=>match P.info? e with
  |some i=>match i.zero with
   |some z=>if z.cells.size=i.size∧0<i.size then some (e,i.size,z.cells.toList) else none
   |none=>none
  |none=>none
 |_=>none
theorem og{ty e s:Nat}{z:List Value}(h:H6 P ty=some (e,s,z)):P.underlying ty=some (.slice e)∧∃i z',P.info? e=some i∧i.size=s∧i.zero=some z'∧z'.cells.toList=z∧z.length=s∧0<s:=by
 unfold H6 at h
 split at h
 ·rename_i e' hu
  split at h
  ·rename_i i hi
   split at h
   ·rename_i z' hz
    split at h
    ·rename_i hc;cases h;exact⟨hu,i,z',hi,rfl,hz,rfl,by simpa using hc.1,hc.2⟩
    ·cases h
   ·cases h
  ·cases h
 ·cases h
def dB(z:List PV):Nat→List PV
 |0=>[]
 |n+1=>z++dB z n
theorem tm(z:List PV)(n:Nat):(dB z n).length=n*z.length:=by
 induction n with
 |zero=>simp[dB]
 |succ n ih=>simp[dB,ih,Nat.succ_mul];omega
theorem tF(z:List PV):∀(n i:Nat),i<n*z.length→(dB z n)[i]? =z[i % z.length]?
 |0,i,h=>by simp at h
 |n+1,i,h=>by
  simp only[dB]
  by_cases hi:i<z.length
  ·rw[List.getElem?_append_left hi,Nat.mod_eq_of_lt hi]
  ·rw[List.getElem?_append_right (by omega),tF z n (i - z.length) (by rw[Nat.succ_mul]at h;omega)]
   rw[Nat.mod_eq_sub_mod (by omega:i≥z.length)]
theorem mO{E:Env}{w:World}(z:Array Value)(n m:Nat)(hm:m=n*z.size):aV E w ((Array.range m).map (z[· % z.size]!)).toList (dB (z.toList.map .raw) n):=by
 refine⟨by simp[tm,hm],fun i x u h1 h2=>?_⟩
 have hi:i<m:=by have:=(List.getElem?_eq_some_iff.1 h1).1;simpa using this
 rw[tF _ _ _ (by simp;omega)]at h2
 have hpos:0<z.size:=by
  rcases Nat.eq_zero_or_pos z.size with h|h
  ·rw[h]at hm;simp at hm;omega
  ·exact h
 have hlt:=Nat.mod_lt i hpos
 simp[hi]at h1
 simp[hlt]at h2
 subst h1;subst h2
 have:z[i % z.size]! =z[i % z.size]:=by simp[hlt]
 rw[this]
 exact .raw _
theorem aS{ty e s n:Nat}{parts:Array (Nat×Operand)}{z:List Value}{ps:List (Nat×List PV)}{xs:List PV}(ho:o.op= .buildSlice ty n parts)(hk:H6 P ty=some (e,s,z))(hn:0<n∧n*s≤16777216)(hp:iM t parts.toList=some ps)
  (hf:lj (fun i=>some (i*s,s)) (dB (z.map .raw) n) ps=some xs):bh P σ t o (.slice n xs):=by
 intro F base E ρ w hρ hS hT
 obtain⟨h1,h2⟩:=l7 hρ hT parts.toList ps hp
 obtain⟨hu,i,z',hi,hs,hz,hzz,hzl,hpos⟩:=og hk
 have hzs:z'.cells.size=s:=by rw[←hzl,←hzz];simp
 have hR0:aV E w ((Array.range (n*s)).map (z'.cells[· % z'.cells.size]!)).toList (dB (z.map .raw) n):=by
  rw[←hzz];exact mO z'.cells n (n*s) (by rw[hzs])
 obtain⟨cs,hc,hR⟩:=oD (fun i=>some (i*s,s)) _ ps _ _ xs hR0 h1 h2 hf
 have hns:0<n*s:=Nat.mul_pos hn.1 hpos
 have hrun:=run_buildSlice (P:=P) w ty e n (parts.map fun(i,x)=>(i,ρ x)) cs i z' hu hi hz (by rw[hs];omega) (by rw[hs];omega) (by rw[hs,Array.toList_map];simpa using hc)
 simp only[execOp,ho,Sem.run_bind,hrun,Result.andThen_ok,Sem.run_pure]
 have hle:n≤n*s:=Nat.le_mul_of_pos_right n hpos
 exact⟨(Ext.refl w).alloc _,CM hS _ _ (by unfold maxLen;omega) hn.1 hR⟩
theorem vk{ty e s:Nat}{z:List Value}(ho:o.op= .buildSlice ty 0 #[])(hk:H6 P ty=some (e,s,z)):bh P σ t o (.slice 0 []):=by
 intro F base E ρ w hρ hS hT
 obtain⟨hu,i,z',hi,hs,hz,hzz,hzl,hpos⟩:=og hk
 have hrun:(Instr.buildSlice ty 0 #[]).run P w= .ok (.slice (some ⟨w.heap.size,0,none⟩) 0 0) (w.alloc (.cells #[] e)):=by
  have:Array.map (fun _:Nat=>(default:Value)) (Array.range 0)= #[]:=by simp[Array.range]
  simp[Instr.buildSlice,run_underlying hu,sizeOf,typeInfo,hi,Instr.fill,newRow,this]
 simp only[execOp,ho,Sem.run_bind,List.map_toArray,List.map_nil,hrun,Result.andThen_ok,Sem.run_pure]
 exact⟨(Ext.refl w).alloc _,.empty _ _ (Nat.zero_le _)⟩
theorem qF{E:Env}{w:World}{a:Option Addr}{n c l h m s:Nat}{xs:List PV}(hv:cu E w (.slice a n c) (.slice n xs))(hx:xs.length=n*s)(hl:l≤h)(hh:h≤n)(hm:h≤m)(hmc:m≤c):
  cu E w (.slice (if m=l then a else a.map (·.add (l*s))) (h - l) (m - l)) (.slice (h - l) ((xs.drop (l*s)).take ((h - l)*s))):=by
 by_cases h0:h - l=0
 ·rw[h0]
  have:(xs.drop (l*s)).take (0*s)=[]:=by simp
  rw[this]
  have hcm:m - l≤maxLen∨a=none:=by
   cases hv with
   |cc=>exact .inr rfl
   |empty _ _ h'=>exact .inl (by omega)
   |slice b off _ _ cs _ h0 h1 h2 hb hM hc hl hr=>exact .inl (by omega)
  cases a with
  |none=>
   cases hv
   have:m - l=0:=by omega
   rw[this]
   split<;>exact .cc
  |some ad=>
   have hcm':=hcm.resolve_right (by simp)
   split
   ·exact .empty _ _ hcm'
   ·exact .empty _ _ hcm'
 ·cases hv with
  |cc=>omega
  |empty _ _ h'=>omega
  |slice b off _ _ cs _ h0 h1 h2 hb hM hc hll hr=>
   rw[if_neg (by omega)]
   have hR:=((show aV E w cs xs from⟨hll,hr⟩).drop (l*s)).take ((h - l)*s)
   have:=cu.slice (E:=E) (w:=w) b (off+l*s) (h - l) (m - l) _ _ (by omega) (by omega) (by omega) hb hM (fun i x hx=>by
    rw[List.getElem?_take]at hx
    split at hx
    ·rw[List.getElem?_drop]at hx;rw[Nat.add_assoc];exact hc _ x hx
    ·cases hx) hR.1 hR.2
   simpa[Addr.add_lit]using this
theorem nT{E:Env}{w:World}{v:Value}{n:Nat}{xs:List PV}(h:cu E w v (.slice n xs)):∃a c,v= .slice a n c∧n≤c∧c≤maxLen:=by
 cases h with
 |cc=>exact⟨_,_,rfl,Nat.le_refl _,Nat.zero_le _⟩
 |empty a c h=>exact⟨_,_,rfl,Nat.zero_le _,h⟩
 |slice b off _ c cs _ h0 h1 h2=>exact⟨_,_,rfl,h1,h2⟩
theorem A8{ty e s n l:Nat}{x lo:Operand}{xs:List PV}{k:IntKind}{li:Int}(ho:o.op= .slice ty x (some lo) none none)(he:yq P ty=some (e,s))(hx:aA t x=some (.slice n xs))(hlo:aA t lo=some (.raw (.int k li)))(hxl:xs.length=n*s)(hli:li=(l:Int))(hl:l≤n):
  bh P σ t o (.slice (n - l) ((xs.drop (l*s)).take ((n - l)*s))):=by
 intro F base E ρ w hρ hS hT
 have h1:=aq hρ hT hx
 have h2:=aq hρ hT hlo
 obtain⟨hu,i,hi,hs⟩:=gE he
 generalize hz:ρ x=v at h1
 generalize hz':ρ lo=u at h2
 cases h2
 subst hli
 obtain⟨a,c,rfl,hc1,hc2⟩:=nT h1
 have hR:=qF (s:=s) h1 hxl hl (Nat.le_refl _) hc1 (Nat.le_refl c)
 have hrun:(Instr.sliceAt ty (.slice a n c) (some (.int k (l:Int))) none none).run P w= .ok (.slice (if c=l then a else a.map (·.add (l*s))) (n - l) (c - l)) w:=by
  simp[Instr.sliceAt,run_underlying hu,Instr.slice,Instr.sliceBounds,Instr.sliceBound,asIntOf,hl,sizeOf,typeInfo,hi,hs]
 simp only[execOp,ho,hz,hz',Option.map_some,Option.map_none,Sem.run_bind,hrun,Result.andThen_ok,Sem.run_pure]
 exact bd hR
end
end
end PW
end Go.Proofs.YteikppbedmmdnaaGreatDoor
