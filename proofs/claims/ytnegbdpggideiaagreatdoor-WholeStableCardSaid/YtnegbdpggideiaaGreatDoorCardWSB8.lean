/- Texts of the proof, part 8. -/
import Derived.MapKept
import Derived.Scope
import Derived.Lib.SliceRun
import Derived.ChangeKeysEq
import Derived.Test.YtnegbdpggideiaaGreatDoorCardWSB7
set_option linter.unusedVariables false
set_option linter.unusedSimpArgs false
set_option maxRecDepth 10000
set_option maxHeartbeats 1000000
namespace Go.Proofs.YtnegbdpggideiaaGreatDoor
namespace PW
open Go.RowKit cA Mem
structure ig (P:Program) (kt:TypeId) {κ:Type} [DecidableEq κ] (enc:κ→Value):Prop where
 ni:∀e a w,(Instr.checkKey e 10000 kt (enc a)).run P w= .ok () w
 eql:∀a b w,(Op.equal kt (enc a) (enc b)).run P w= .ok (decide (a=b)) w
 now:∃d,P.underlying kt=some d∧((∀a b,Instr.sameNow d (enc a) (enc b)=some (decide (a=b)))∨∀a b,Instr.sameNow d (enc a) (enc b)=none)
 bits:∀a,Instr.sameBits 10000 (enc a) (enc a)=true
section
variable {P:Program} {kt:TypeId} {κ:Type} [DecidableEq κ] {enc:κ→Value}
def fJ(k:κ):List κ→Nat→Option Nat
 | [],_=>none
 |a::l,i=>if k=a then some i else fJ k l (i+1)
theorem iZ{k:κ}:∀ {l:List κ} {i j:Nat},fJ k l i=some j→i≤j∧l[j - i]? =some k
 | [],i,j,h=>by cases h
 |a::l,i,j,h=>by
  simp only[fJ]at h
  split at h
  ·rename_i he;cases h;subst he;simp
  ·obtain⟨h1,h2⟩:=iZ h
   refine⟨by omega,?_⟩
   rw[show j - i=(j - (i+1))+1 by omega]
   simpa using h2
theorem wi{d:TypeDesc}(hn:∀a b,Instr.sameNow d (enc a) (enc b)=some (decide (a=b)))(k:κ):∀(ks:List κ) (es:List MapEntry) (i:Nat),es.map (·.key)=ks.map enc→
  Instr.findNow d (enc k) es i=some ((fJ k ks i).bind fun j=>(es[j - i]?).map fun e=>(j,e.val))
 | [],[],i,_=>rfl
 | [],_::_,i,h=>by simp at h
 |_::_,[],i,h=>by simp at h
 |a::ks,e::es,i,h=>by
  simp only[List.map_cons,List.cons.injEq]at h
  simp only[Instr.findNow,h.1,hn,fJ]
  by_cases hk:k=a
  ·rw[decide_eq_true hk,if_pos hk];simp
  ·rw[decide_eq_false hk,if_neg hk]
   simp only[wi hn k ks es (i+1) h.2]
   congr 1
   cases hf:fJ k ks (i+1)with
   |none=>rfl
   |some j=>
    obtain⟨h1,_⟩:=iZ hf
    simp only[Option.bind_some]
    rw[show j - i=(j - (i+1))+1 by omega]
    simp
theorem uE(hk:ig P kt enc)(k:κ)(w:World):∀(ks:List κ) (es:List MapEntry) (i:Nat),es.map (·.key)=ks.map enc→
  (Instr.findAsking kt (enc k) es i).run P w= .ok ((fJ k ks i).bind fun j=>(es[j - i]?).map fun e=>(j,e.val)) w
 | [],[],i,_=>rfl
 | [],_::_,i,h=>by simp at h
 |_::_,[],i,h=>by simp at h
 |a::ks,e::es,i,h=>by
  simp only[List.map_cons,List.cons.injEq]at h
  simp only[Instr.findAsking,Sem.run_bind,h.1,hk.eql,Result.andThen_ok,fJ]
  by_cases hka:k=a
  ·rw[if_pos (by simpa using hka),if_pos hka];simp
  ·rw[if_neg (by simpa using hka),if_neg hka,uE hk k w ks es (i+1) h.2]
   congr 1
   cases hf:fJ k ks (i+1)with
   |none=>rfl
   |some j=>
    obtain⟨h1,_⟩:=iZ hf
    simp only[Option.bind_some]
    rw[show j - i=(j - (i+1))+1 by omega]
    simp
theorem vL(hk:ig P kt enc)(k:κ)(w:World)(ks:List κ)(es:List MapEntry)(h:es.map (·.key)=ks.map enc):(Instr.findKey kt (enc k) es).run P w= .ok ((fJ k ks 0).bind fun j=>(es[j]?).map fun e=>(j,e.val)) w:=by
 obtain⟨d,hd,hn|hn⟩:=hk.now
 ·have:=wi hn k ks es 0 h
  simp only[Instr.findKey,Sem.run_bind,run_underlying hd,Result.andThen_ok,this]
  simp
 ·have ha:=uE hk k w ks es 0 h
  simp only[Instr.findKey,Sem.run_bind,run_underlying hd,Result.andThen_ok]
  cases es with
  |nil=>
   have:ks=[]:=by cases ks with|nil=>rfl|cons=>simp at h
   subst this
   rfl
  |cons e es=>
   cases ks with
   |nil=>simp at h
   |cons a ks=>
    simp only[List.map_cons,List.cons.injEq]at h
    have h0:Instr.findNow d (enc k) (e::es) 0=none:=by simp only[Instr.findNow,h.1,hn]
    rw[h0]
    simpa using ha
def fD(enc:κ→Value)(l:List (κ×PV)):List (Value×PV):=l.map fun x=>(enc x.1,x.2)
def cY(k:κ):List (κ×PV)→Option PV
 | []=>none
 |(a,p)::l=>if k=a then some p else cY k l
def hZ(k:κ)(p:PV):List (κ×PV)→List (κ×PV)
 | []=>[(k,p)]
 |(a,q)::l=>if k=a then(a,p)::l else(a,q)::hZ k p l
theorem xD{k:κ}{l:List (κ×PV)}:cY k l=(fJ k (l.map (·.1)) 0).bind fun j=>(l[j]?).map (·.2):=by
 suffices h:∀(i:Nat),cY k l=(fJ k (l.map (·.1)) i).bind fun j=>(l[j - i]?).map (·.2) by simpa using h 0
 induction l with
 |nil=>intro i;rfl
 |cons x l ih=>
  intro i
  obtain⟨a,p⟩:=x
  simp only[cY,List.map_cons,fJ]
  split
  ·simp
  ·rw[ih (i+1)]
   cases hf:fJ k (l.map (·.1)) (i+1)with
   |none=>rfl
   |some j=>
    obtain⟨h1,_⟩:=iZ hf
    simp only[Option.bind_some]
    rw[show j - i=(j - (i+1))+1 by omega]
    simp
theorem zl{k:κ}{p:PV}{l:List (κ×PV)}:hZ k p l=match fJ k (l.map (·.1)) 0 with|some j=>l.set j (k,p)|none=>l++[(k,p)]:=by
 suffices h:∀(i:Nat),hZ k p l=match fJ k (l.map (·.1)) i with|some j=>l.set (j - i) (k,p)|none=>l++[(k,p)] by simpa using h 0
 induction l with
 |nil=>intro i;rfl
 |cons x l ih=>
  intro i
  obtain⟨a,q⟩:=x
  simp only[hZ,List.map_cons,fJ]
  split
  ·rename_i he;subst he;simp
  ·rw[ih (i+1)]
   cases hf:fJ k (l.map (·.1)) (i+1)with
   |none=>rfl
   |some j=>
    obtain⟨h1,_⟩:=iZ hf
    simp only
    rw[show j - i=(j - (i+1))+1 by omega]
    simp
theorem pZ{k:κ}{p:PV}{l:List (κ×PV)}{x:κ×PV}(h:x∈hZ k p l):x=(k,p)∨x∈l:=by
 induction l with
 |nil=>simpa[hZ]using h
 |cons y l ih=>
  obtain⟨a,q⟩:=y
  simp only[hZ]at h
  split at h
  ·rename_i he
   subst he
   cases h with
   |head=>exact .inl rfl
   |tail _ h=>exact .inr (List.mem_cons_of_mem _ h)
  ·cases h with
   |head=>exact .inr (List.mem_cons_self ..)
   |tail _ h=>
    rcases ih h with h|h
    ·exact .inl h
    ·exact .inr (List.mem_cons_of_mem _ h)
theorem iB{k:κ}{p:PV}{l:List (κ×PV)}(h:cY k l=some p):(k,p)∈l:=by
 induction l with
 |nil=>cases h
 |cons y l ih=>
  obtain⟨a,q⟩:=y
  simp only[cY]at h
  split at h
  ·rename_i he;subst he;cases h;exact List.mem_cons_self ..
  ·exact List.mem_cons_of_mem _ (ih h)
def vf(p:PV)(v:Value):Prop:=∀E w u,cz E w u p→u=v
theorem nU(v:Value):vf (.raw v) v:=fun _ _ _ h=>by cases h;rfl
theorem o3(a b:Value):vf (.agg [.raw a,.raw b]) (.agg #[a,b]):=fun E w u h=>by
 cases h with
 |agg cs _ hl hr=>
  obtain⟨l⟩:=cs
  match l,hl,hr with
  | [x,y],_,hr=>
   have h0:=hr 0 x _ rfl rfl
   have h1:=hr 1 y _ rfl rfl
   cases h0;cases h1;rfl
  | [],hl,_=>simp at hl
  | [_],hl,_=>simp at hl
  |_::_::_::_,hl,_=>simp at hl
def tp(P:Program)(mt:TypeId):Option (TypeId×TypeId):=match P.underlying mt with|some (.map k e)=>some (k,e)|_=>none
theorem lQ{mt kt et:TypeId}(h:tp P mt=some (kt,et)):P.underlying mt=some (.map kt et):=by
 unfold tp at h
 split at h
 ·rename_i hu;cases h;exact hu
 ·cases h
def Gg(P:Program)(t:TypeId):Option Value:=match P.info? t with|some i=>i.zero|none=>none
theorem B3{et:TypeId}{z:Value}(h:Gg P et=some z)(w:World):(zeroValue et).run P w= .ok z w:=by
 unfold Gg at h
 split at h
 ·rename_i i hi;simp[zeroValue,typeInfo,hi,h]
 ·cases h
variable {σ:cd} {t:bZ} {o:Oper}
theorem sD(hK:ig P kt enc){F:Nat→Prop}{base:Nat}{E:Env}{w:World}{i mt et:Nat}{l:List (κ×PV)}{v z:Value}(hS:Sat F base σ E w)(hm:tp P mt=some (kt,et))(hz:Gg P et=some z)(hv:cz E w v (.own i))(hi:σ[i]? =some (some (.mp (fD enc l))))(k:κ)(ok:Bool):
  ∃u,(Instr.lookup mt v (enc k) ok).run P w= .ok (if ok then .tuple #[u,.bool (cY k l).isSome] else u) w∧cz E w u ((cY k l).getD (.raw z)):=by
 cases hv with
 |own _ hiL _ hat _=>
  obtain⟨r,es,ck,hr,hb,hheap,hkey,hval⟩:=hS.blk i _ hi
  rw[hat]at hr
  subst hr
  have hkey':es.toList.map (·.key)=(l.map (·.1)).map enc:=by rw[hkey];simp[fD]
  have hf:=vL hK k w (l.map (·.1)) es.toList hkey'
  have hvl:(fD enc l).map (·.2)=l.map (·.2):=by simp[fD]
  rw[hvl]at hval
  have hlk:=xD (k:=k) (l:=l)
  cases hfi:fJ k (l.map (·.1)) 0 with
  |none=>
   rw[hfi]at hf hlk
   simp only[Option.bind_none]at hf hlk
   refine⟨z,?_,by rw[hlk];exact .raw z⟩
   simp only[Instr.lookup,Sem.run_bind,run_underlying (lQ hm),Result.andThen_ok,MapKept.run_getObj_map hheap,Sem.run_pure,hK.ni,hf,B3 hz,hlk]
   rfl
  |some j=>
   obtain⟨_,hj⟩:=iZ hfi
   simp only[Nat.sub_zero]at hj
   have hjl:j<l.length:=by have:=(List.getElem?_eq_some_iff.1 hj).1;simpa using this
   have hje:j<es.toList.length:=by have:=congrArg List.length hkey';simp at this;rw[Array.length_toList];omega
   rw[hfi]at hf hlk
   simp only[Option.bind_some,List.getElem?_eq_getElem hje,List.getElem?_eq_getElem hjl,Option.map_some]at hf hlk
   refine⟨es.toList[j].val,?_,?_⟩
   ·simp only[Instr.lookup,Sem.run_bind,run_underlying (lQ hm),Result.andThen_ok,MapKept.run_getObj_map hheap,Sem.run_pure,hK.ni,hf,hlk]
    rfl
   ·rw[hlk]
    exact hval.2 j _ _ (by rw[List.getElem?_map,List.getElem?_eq_getElem hje];rfl) (by simp[hjl])
theorem tA(hK:ig P kt enc){i mt et:Nat}{x ix:Operand}{l:List (κ×PV)}{z:Value}{k:κ}{pk r:PV}(ho:o.op= .lookup mt x ix false)(hm:tp P mt=some (kt,et))(hz:Gg P et=some z)(hx:aC t x=some (.own i))(hi:σ[i]? =some (some (.mp (fD enc l))))(hp:aC t ix=some pk)(hk:vf pk (enc k))(hr:(cY k l).getD (.raw z)=r):bg P σ t o r:=by
 intro F base E ρ w hρ hS hT
 have h1:=aw hρ hT hx
 have h2:=hk _ _ _ (aw hρ hT hp)
 obtain⟨u,hu,hR⟩:=sD hK hS hm hz h1 hi k false
 simp only[execOp,ho,h2,Sem.run_bind,hu,Result.andThen_ok,Sem.run_pure,Bool.false_eq_true,if_false]
 exact bd (by rw[←hr];exact hR)
theorem yK(hK:ig P kt enc){i mt et:Nat}{x ix:Operand}{l:List (κ×PV)}{z:Value}{k:κ}{pk r:PV}{q:Bool}(ho:o.op= .lookup mt x ix true)(hm:tp P mt=some (kt,et))(hz:Gg P et=some z)(hx:aC t x=some (.own i))(hi:σ[i]? =some (some (.mp (fD enc l))))(hp:aC t ix=some pk)(hk:vf pk (enc k))(hr:(cY k l).getD (.raw z)=r)(hq:(cY k l).isSome=q):bg P σ t o (.tuple [r,.raw (.bool q)]):=by
 intro F base E ρ w hρ hS hT
 have h1:=aw hρ hT hx
 have h2:=hk _ _ _ (aw hρ hT hp)
 obtain⟨u,hu,hR⟩:=sD hK hS hm hz h1 hi k true
 simp only[execOp,ho,h2,Sem.run_bind,hu,Result.andThen_ok,Sem.run_pure,if_true]
 refine bd (.tuple #[u,.bool (cY k l).isSome] _ rfl fun i x p k1 k2=>?_)
 match i,k1,k2 with
 |0,k1,k2=>cases k1;cases k2;rw[←hr];exact hR
 |1,k1,k2=>cases k1;cases k2;rw[hq];exact .raw _
 |_+2,_,k2=>simp at k2
theorem mR{α:Type}(a:Array α)(i j:Nat)(v:α):(a.setIfInBounds i v)[j]? =if i=j∧i<a.size then some v else a[j]? :=by
 rw[Array.getElem?_setIfInBounds]
 by_cases h:i=j
 ·subst h
  by_cases h2:i<a.size
  ·simp[h2]
  ·simp[h2]
 ·simp[h]
theorem nq(hK:ig P kt enc){i mt et:Nat}{x ix y:Operand}{l:List (κ×PV)}{k:κ}{pk p:PV}(ho:o.op= .mapUpdate mt x ix y)(hm:tp P mt=some (kt,et))(hx:aC t x=some (.own i))(hi:σ[i]? =some (some (.mp (fD enc l))))(hp:aC t ix=some pk)(hk:vf pk (enc k))(hy:aC t y=some p):
  cK P σ t o (.raw undef) (σ.set i (some (.mp (fD enc (hZ k p l))))):=by
 intro F base E ρ w hρ hS hT
 have h1:=aw hρ hT hx
 have h2:=hk _ _ _ (aw hρ hT hp)
 have h3:=aw hρ hT hy
 generalize hz:ρ x=v at h1
 cases h1 with
 |own _ hiL _ hat _=>
  obtain⟨r,es,ck,hr,hb,hheap,hkey,hval⟩:=hS.blk i _ hi
  have hbk:bp (E.at_ i)=some r:=by rw[hr];rfl
  have hsz:r<w.heap.size:=(Array.getElem?_eq_some_iff.1 hheap).1
  rw[hat]at hr
  subst hr
  have hkey':es.toList.map (·.key)=(l.map (·.1)).map enc:=by rw[hkey];simp[fD]
  have hf:=vL hK k w (l.map (·.1)) es.toList hkey'
  have hvl:(fD enc l).map (·.2)=l.map (·.2):=by simp[fD]
  rw[hvl]at hval
  have fin:∀(es':Array MapEntry) (ck':Nat),(Instr.mapUpdate mt (.map (some r)) (enc k) (ρ y)).run P w= .ok () {w with heap:=w.heap.setIfInBounds r (.map es' ck')}→
    es'.toList.map (·.key)=(hZ k p l).map (fun a=>enc a.1)→aU E w (es'.toList.map (·.val)) ((hZ k p l).map (·.2))→
    ∃v w' E',((execOp ρ o).run P w= .ok (.value v) w'∨(v=undef∧(execOp ρ o).run P w= .ok .skip w'))∧Sat F base (σ.set i (some (.mp (fD enc (hZ k p l))))) E' w'∧cP E w E' w'∧Below base w w'∧cz E' w' v (.raw undef):=fun es' ck' hrun hk' hv'=>by
   have oth:∀j,j<w.heap.size→j≠r→({w with heap:=w.heap.setIfInBounds r (.map es' ck')}:World).heap[j]? =w.heap[j]? :=fun j _ hj=>by
    show(w.heap.setIfInBounds r (.map es' ck'))[j]? =_
    rw[mR,if_neg (by rintro⟨rfl,_⟩;exact hj rfl)]
   have hs':w.heap.size≤({w with heap:=w.heap.setIfInBounds r (.map es' ck')}:World).heap.size:=by simp
   have hrM:E.M r:=(hS.mm r).2 (.inr ⟨i,_,hi,hbk⟩)
   have g:cP E w E {w with heap:=w.heap.setIfInBounds r (.map es' ck')}:=⟨Nat.le_refl _,fun _ _=>rfl,fun _ _ h=>h,hs',fun j hj hM=>oth j hj (fun e=>hM (by rw[e];exact hrM))⟩
   have hn:=hS.Bx (bi':=.mp (fD enc (hZ k p l))) hi hbk hs' oth ⟨r,es',ck',hat,hb,by
     show(w.heap.setIfInBounds r (.map es' ck'))[r]? =_
     rw[mR,if_pos ⟨rfl,hsz⟩],by rw[hk'];simp[fD],by
     have:(fD enc (hZ k p l)).map (·.2)=(hZ k p l).map (·.2):=by simp[fD]
     rw[this];exact hv'.goes g⟩
   refine⟨undef,_,E,.inr ⟨rfl,?_⟩,hn.1,hn.2,⟨rfl,rfl,rfl,hs',fun j hj=>oth j (Nat.lt_of_lt_of_le hj hS.bl) (by omega)⟩,.raw _⟩
   simp only[execOp,ho,hz,h2,Sem.run_bind,hrun,Result.andThen_ok,Sem.run_pure]
  have hsm:=zl (k:=k) (p:=p) (l:=l)
  cases hfi:fJ k (l.map (·.1)) 0 with
  |none=>
   rw[hfi]at hf hsm
   simp only[Option.bind_none]at hf hsm
   refine fin (es.push {key:=enc k,val:=ρ y,born:=ck}) (ck+1) ?_ ?_ ?_
   ·simp only[Instr.mapUpdate,Sem.run_bind,run_underlying (lQ hm),Result.andThen_ok,MapKept.run_getObj_map hheap,hK.ni,hf,MapKept.run_setObj_map _ hheap]
   ·rw[hsm];simp[hkey',List.map_map,Function.comp_def]
   ·rw[hsm]
    simp only[Array.toList_push,List.map_append,List.map_cons,List.map_nil]
    exact hval.append (aU.cons h3 (aU.nil _ _))
  |some j=>
   obtain⟨_,hj⟩:=iZ hfi
   simp only[Nat.sub_zero]at hj
   have hjl:j<l.length:=by have:=(List.getElem?_eq_some_iff.1 hj).1;simpa using this
   have hje:j<es.toList.length:=by have:=congrArg List.length hkey';simp at this;rw[Array.length_toList];omega
   have hje':j<es.size:=by simpa using hje
   have hlj:l[j].1=k:=by have:=List.getElem?_eq_some_iff.1 hj;obtain⟨h,e⟩:=this;simpa using e
   have hkj:es[j].key=enc k:=by
    have:=congrArg (·[j]?) hkey'
    simp only[List.getElem?_map,List.getElem?_eq_getElem hje,List.getElem?_eq_getElem hjl,Option.map_some,Option.some.injEq,hlj]at this
    simpa using this
   rw[hfi]at hf hsm
   simp only[Option.bind_some,List.getElem?_eq_getElem hje,Option.map_some]at hf hsm
   refine fin (es.modify j fun e=> {e with key:=enc k,val:=ρ y}) ck ?_ ?_ ?_
   ·have hks:(Instr.keyThatStays ((Option.map (fun x=>x.key) es[j]?).getD (enc k)) (enc k)).run P w= .ok (enc k) w:=by
     rw[Array.getElem?_eq_getElem hje',Option.map_some,Option.getD_some,hkj]
     simp only[Instr.keyThatStays,hK.bits,if_true,Sem.run_pure]
    simp only[Instr.mapUpdate,Sem.run_bind,run_underlying (lQ hm),Result.andThen_ok,MapKept.run_getObj_map hheap,hK.ni,hf,hks,MapKept.run_setObj_map _ hheap]
   ·rw[hsm]
    refine List.ext_getElem? fun n=>?_
    simp only[List.getElem?_map,Array.getElem?_toList,Array.getElem?_modify,List.getElem?_set]
    by_cases hn:j=n
    ·subst hn
     simp[hje',hjl]
    ·have:=congrArg (·[n]?) hkey'
     simp only[List.getElem?_map,Array.getElem?_toList]at this
     simp only[if_neg hn,this,Option.map_map,Function.comp_def]
   ·rw[hsm]
    have hR:=hval.set j h3
    have e1:(es.modify j fun e=> {e with key:=enc k,val:=ρ y}).toList.map (·.val)=(es.toList.map (·.val)).set j (ρ y):=by
     refine List.ext_getElem? fun n=>?_
     simp only[List.getElem?_map,Array.getElem?_toList,Array.getElem?_modify,List.getElem?_set]
     by_cases hn:j=n
     ·subst hn
      simp[hje']
     ·simp only[if_neg hn]
    have e2:(l.set j (k,p)).map (·.2)=(l.map (·.2)).set j p:=by rw[List.map_set]
    rw[e1,e2]
    exact hR
omit [DecidableEq κ] in
theorem nX{mt:TypeId}(enc:κ→Value)(ho:o.op= .makeMap mt none):cK P σ t o (.own σ.length) (σ++[some (.mp (fD enc ([]:List (κ×PV))))]):=by
 intro F base E ρ w hρ hS hT
 have hr:(execOp ρ o).run P w= .ok (.value (.map (some w.heap.size))) (w.alloc (.map #[] 0)):=by
  simp[execOp,ho,Instr.makeMap]
 have hE:Ext w (w.alloc (.map #[] 0)):=(Ext.refl w).alloc _
 have hp:=hS.push hE (v:=.map (some w.heap.size)) (blk:=.mp (fD enc ([]:List (κ×PV)))) (fun b h=>by simp[bp]at h;omega) ⟨w.heap.size,#[],0,rfl,hS.bl,heap_alloc_new _ _,rfl,aU.nil _ _⟩
 exact⟨_,_,_,.inl hr,hp.1,hp.2,Below.ij hE hS.bl,.own σ.length (by simp[Env.push,hS.len]) _ (by simp[Env.push,hS.len]) rfl⟩
end
section
variable {P:Program} {σ:cd} {t:bZ} {o:Oper} {N L:Nat}
def IC(Q:Exit→St→Prop):Exit→St→Prop
 | .goto _,_=>False
 |e,s=>Q e s
theorem yG{c:Code}{st:St}{Q:Exit→St→Prop}(h:W P N L c st (IC Q)):W P N L (.scope c) st Q:=fun F base E₀ w₀ E a w hc hs=>by
 refine wp_scope_straight (wp_mono (h F base E₀ w₀ E a w hc hs) ?_)
 rintro e a' w' ⟨s,E',h1,h2⟩
 cases e with
 |goto l=>exact h1.elim
 |normal=>exact⟨s,E',h1,h2⟩
 |exit _=>exact⟨s,E',h1,h2⟩
 |ret=>exact⟨s,E',h1,h2⟩
 |panic _=>exact⟨s,E',h1,h2⟩
 |outgrown=>exact⟨s,E',h1,h2⟩
theorem yC{l:Nat}{st:St}{Q:Exit→St→Prop}(h:Q .normal st):W P N L (.label l) st Q:=fun _ _ _ _ E _ _ hc hs=>wp_label ⟨st,E,h,hs,hc.g,hc.b⟩
theorem rB{x:Operand}{k:Nat}{xs:List PV}{p:PV}(ho:o.op= .extract x k)(hx:aC t x=some (.tuple xs))(hp:xs[k]? =some p):kJ P t o p:=fun E ρ w hρ hT=>by
 have h1:=aw hρ hT hx
 generalize hz:ρ x=z at h1
 cases h1 with
 |tuple cs _ hl hr=>
  obtain⟨c,hcc,hcr⟩:=aU.get (E:=E) (w:=w) (cs:=cs.toList) ⟨by simpa using hl,fun i x u h1 h2=>hr i x u (by simpa using h1) h2⟩ hp
  have hcc':cs[k]? =some c:=by simpa using hcc
  exact⟨c,fun w'=>by simp only[execOp,ho,hz,Instr.extract,hcc',Sem.run_bind,Sem.run_pure,Result.andThen_ok],hcr⟩
theorem yY{x y:Operand}{ats:Array TypeId}{a b c:Int}(ho:o.op= .call {callee:=.builtin .min,args:= #[x,y],argTypes:=ats})(hx:aC t x=some (.raw (.int .i64 a)))(hy:aC t y=some (.raw (.int .i64 b)))(hc:min a b=c):bg P σ t o (.raw (.int .i64 c)):=by
 intro F base E ρ w hρ _ hT
 have h1:=aw hρ hT hx
 have h2:=aw hρ hT hy
 generalize hz:ρ x=z at h1
 generalize hz':ρ y=z' at h2
 cases h1
 cases h2
 have he:(if b<a then b else a)=c:=by rw[←hc];by_cases h:b<a<;>simp[h]<;>omega
 simp[execOp,ho,resolve,invoke,builtin,Builtin.min_,Builtin.min2,hz,hz',he]
 exact bd (.raw _)
def uX(P:Program)(ty:TypeId):Bool:=match P.underlying ty with|some (.slice _)=>true|_=>false
theorem ou{ty:TypeId}(h:uX P ty=true):∃e,P.underlying ty=some (.slice e):=by
 unfold uX at h
 split at h
 ·rename_i e hu;exact⟨e,hu⟩
 ·cases h
theorem E9{x y:Operand}{ty tz:TypeId}(ho:o.op= .binOp .eql ty x y tz)(hk:uX P ty=true)(hx:aC t x=some (.raw (.slice none 0 0)))(hy:aC t y=some (.raw (.slice none 0 0))):bg P σ t o (.raw (.bool true)):=by
 obtain⟨e,hu⟩:=ou hk
 refine vX ho hx hy fun w=>?_
 have:=Lib.run_eql_slice_nil w ty e none 0 0 0 0 hu
 have hg:∀a n c b m d,(eqGuard .eql ty x y (.slice a n c) (.slice b m d)).run P w= .ok () w:=fun _ _ _ _ _ _=>rfl
 simp only[Sem.run_bind,hg,Result.andThen_ok,this]
 rfl
theorem mU{x y:Operand}{ty tz:TypeId}{n:Nat}{xs:List PV}(ho:o.op= .binOp .eql ty x y tz)(hk:uX P ty=true)(hx:aC t x=some (.slice n xs))(hy:aC t y=some (.raw (.slice none 0 0)))(hn:0<n):bg P σ t o (.raw (.bool false)):=by
 obtain⟨e,hu⟩:=ou hk
 intro F base E ρ w hρ _ hT
 have h1:=aw hρ hT hx
 have h2:=aw hρ hT hy
 generalize hz:ρ x=z at h1
 generalize hz':ρ y=z' at h2
 cases h2
 have hv:∃a c,z= .slice (some a) n c:=by
  cases h1 with
  |b9=>omega
  |empty=>omega
  |slice b off _ c cs _ h0=>exact⟨_,_,rfl⟩
 obtain⟨a,c,rfl⟩:=hv
 have:=Lib.run_eql_slice_nil w ty e (some a) n c 0 0 hu
 have hg:∀a n c b m d,(eqGuard .eql ty x y (.slice a n c) (.slice b m d)).run P w= .ok () w:=fun _ _ _ _ _ _=>rfl
 simp only[execOp,ho,hz,hz',Sem.run_bind,Sem.run_pure,Result.andThen_ok,hg,this]
 exact bd (.raw _)
end
end PW
end Go.Proofs.YtnegbdpggideiaaGreatDoor
namespace Go.Proofs.YtnegbdpggideiaaGreatDoor
namespace PW
open Go.RowKit cA Mem Net
theorem bS.F4{P:Program}{f:FuncId}{ps:List PV}{σ:cd}{R:PV→Prop}(h:Can P f ps R)[aG ps]:bS P f ps σ (fun r σ'=>R r∧σ'=σ):=fun F base E w vs hS hR=>by
 refine(h E.M w vs (fun b hb=>hS.lt hb) hS.gl (hR.pure (fun _ h=>h))).mono ?_
 rintro e w' ⟨v,rfl,hE,r,hr,hv⟩
 exact⟨v,r,σ,E,rfl,⟨hr,rfl⟩,hS.ext hE,.ext hE,Below.ij hE hS.bl,hv.back⟩
section
variable {T:ai} {D:List Bool} {d:Nat}
structure xm (T:ai) (D:List Bool) (d:Nat) (O:List Int):Prop where
 nodup:O.Nodup
 mem:∀x,x∈O↔∃k:Nat,x=(k:Int)∧(k:Int)<T.nodes∧0≤dN T D d k
 pair:O.Pairwise fun x y=>dN T D d y.toNat≤dN T D d x.toNat
theorem xm.of(hv:ao T=true)(hd:(d:Int)<T.nodes){O:List Int}(h1:O.Perm (nT (bK T D d false) (bK T D d false).length))(h2:O.Pairwise (rI (bK T D d false))):xm T D d O:=by
 obtain⟨hb1,_⟩:=eo (D:=D) hv (dir:=false) hd
 refine⟨h1.nodup_iff.2 (xa _ _),fun x=>?_,h2.imp fun {x y} h=>?_⟩
 ·rw[h1.mem_iff,uV]
  constructor
  ·rintro⟨k,e,h3,h4⟩;exact⟨k,e,by omega,h4⟩
  ·rintro⟨k,e,h3,h4⟩;exact⟨k,e,by omega,h4⟩
 ·unfold rI at h
  show(bK T D d false).getD _ 0≤(bK T D d false).getD _ 0
  omega
noncomputable def ko(T:ai)(D:List Bool)(d:Nat)(c:Int)(l:List Int):Int:=l.foldl (fun c a=>min 2 (c+dz T D d (aS T a.toNat).toNat)) c
structure ot (T:ai) (D:List Bool) (d:Nat) (R cs:List Int) (i:Nat):Prop where
 len:(cs.length:Int)=T.nodes
 val:∀m:Nat,(m:Int)<T.nodes→cs.getD m 0=if m=d then 1 else if(m:Int)∈R.take i then dz T D d m else 0
theorem ot.start(hd:(d:Int)<T.nodes)(R:List Int):ot T D d R ((List.replicate T.nodes.toNat 0).set d 1) 0:=by
 refine⟨by simp;omega,fun m hm=>?_⟩
 rw[List.getD_eq_getElem?_getD,List.getElem?_set]
 by_cases h:d=m
 ·subst h;rw[if_pos rfl,if_pos (by simp;omega),if_pos rfl];rfl
 ·rw[if_neg h,if_neg (fun e=>h e.symm),List.getElem?_replicate,if_pos (by omega)];rfl
theorem ot.next(hv:ao T=true)(hd:(d:Int)<T.nodes){O cs:List Int}{i m a y:Nat}(hO:xm T D d O)(h:ot T D d O.reverse cs i)(hi:i<O.reverse.length)(hm:O.reverse.getD i 0=(m:Int))(ha:(a:Int)∈bL T D m d)(hy:aS T a=(y:Int)):cs.getD y 0=dz T D d y∧y≠m∧(y:Int)<T.nodes:=by
 obtain⟨b,hb,hn⟩:=ec ha
 have hba:b=a:=by omega
 subst hba
 obtain⟨y',hy',hyN⟩:=dM hv hn.gH
 have:y'=y:=by omega
 subst this
 have hdy:=hn.dN hy
 have hc:=(aJ hv).cost b hn.gH
 refine⟨?_,fun e=>by subst e;omega,hyN⟩
 rw[h.val y' hyN]
 by_cases hyd:y'=d
 ·subst hyd;rw[if_pos rfl,nc]
 ·rw[if_neg hyd,if_pos ?_]
  have hyO:(y':Int)∈O.reverse:=List.mem_reverse.2 ((hO.mem _).2 ⟨y',rfl,hyN,hdy.1⟩)
  have hs:O.reverse=O.reverse.take i++(m:Int)::O.reverse.drop (i+1):=by rw[←hm,←drop_cons _ _ hi,List.take_append_drop]
  have hp:O.reverse.Pairwise fun x y=>dN T D d x.toNat≤dN T D d y.toNat:=List.pairwise_reverse.2 hO.pair
  rw[hs]at hp hyO
  rcases List.mem_append.1 hyO with h1|h1
  ·exact h1
  ·exfalso
   have hp2:=(List.pairwise_append.1 hp).2.1
   rcases List.mem_cons.1 h1 with h2|h2
   ·have:y'=m:=by omega
    subst this;omega
   ·have:=(List.pairwise_cons.1 hp2).1 _ h2
    simp only[Int.toNat_natCast]at this
    omega
theorem ot.fresh{O cs:List Int}{i m:Nat}(hO:xm T D d O)(h:ot T D d O.reverse cs i)(hi:i<O.reverse.length)(hm:O.reverse.getD i 0=(m:Int)):(m:Int)<T.nodes∧0≤dN T D d m∧cs.getD m 0=if m=d then 1 else 0:=by
 have hmO:(m:Int)∈O.reverse:=by rw[←hm];exact bU hi
 obtain⟨k,hk,hkN,hk0⟩:=(hO.mem _).1 (List.mem_reverse.1 hmO)
 have:k=m:=by omega
 subst this
 refine⟨hkN,hk0,?_⟩
 rw[h.val k hkN]
 have hs:O.reverse=O.reverse.take i++(k:Int)::O.reverse.drop (i+1):=by rw[←hm,←drop_cons _ _ hi,List.take_append_drop]
 have hn:O.reverse.Nodup:=List.pairwise_reverse.2 (hO.nodup.imp fun h=>fun e=>h e.symm)
 rw[hs]at hn
 have hnot:¬(k:Int)∈O.reverse.take i:=fun h1=>(List.pairwise_append.1 hn).2.2 _ h1 (k:Int) (by simp) rfl
 rw[if_neg hnot]
theorem ot.step(hv:ao T=true)(hd:(d:Int)<T.nodes){O cs:List Int}{i m:Nat}(hO:xm T D d O)(h:ot T D d O.reverse cs i)(hi:i<O.reverse.length)(hm:O.reverse.getD i 0=(m:Int)):ot T D d O.reverse (cs.set m (ko T D d (cs.getD m 0) (bL T D m d))) (i+1):=by
 obtain⟨hmN,_,hf⟩:=h.fresh hO hi hm
 have hml:m<cs.length:=by have:=h.len;omega
 refine⟨by simpa using h.len,fun x hx=>?_⟩
 rw[List.getD_eq_getElem?_getD,List.getElem?_set,df _ _ 0 hi,hm]
 by_cases hxm:m=x
 ·subst hxm
  rw[if_pos rfl,if_pos hml,Option.getD_some,hf]
  by_cases hmd:m=d
  ·subst hmd;rw[if_pos rfl,if_pos rfl,jE];rfl
  ·rw[if_neg hmd,if_neg hmd,if_pos (by simp),qk hv hd hmN hmd];rfl
 ·rw[if_neg hxm,←List.getD_eq_getElem?_getD,h.val x hx]
  by_cases hxd:x=d
  ·rw[if_pos hxd,if_pos hxd]
  ·rw[if_neg hxd,if_neg hxd]
   have:(x:Int)∈O.reverse.take i++[(m:Int)]↔(x:Int)∈O.reverse.take i:=by
    simp only[List.mem_append,List.mem_singleton]
    exact⟨fun h=>h.elim id (fun e=>absurd e (by omega)),.inl⟩
   by_cases h1:(x:Int)∈O.reverse.take i
   ·rw[if_pos h1,if_pos (this.2 h1)]
   ·rw[if_neg h1,if_neg (fun h2=>h1 (this.1 h2))]
theorem ot.done(hv:ao T=true)(hd:(d:Int)<T.nodes){O cs:List Int}{n:Nat}(hO:xm T D d O)(h:ot T D d O.reverse cs O.reverse.length)(hn:(n:Int)<T.nodes):cs.getD n 0=dz T D d n:=by
 rw[h.val n hn,List.take_length]
 by_cases hnd:n=d
 ·subst hnd;rw[if_pos rfl,nc]
 ·rw[if_neg hnd]
  by_cases h1:(n:Int)∈O.reverse
  ·rw[if_pos h1]
  ·rw[if_neg h1]
   refine(yt hv hd hn (Int.not_le.1 fun h0=>h1 (List.mem_reverse.2 ((hO.mem _).2 ⟨n,rfl,hn,h0⟩)))).symm
theorem xY(c:Int):ko T D d c []=c:=rfl
theorem xU(c:Int)(l:List Int)(k a:Nat)(hk:k<l.length)(ha:l.getD k 0=(a:Int)):ko T D d c (l.take (k+1))=min 2 (ko T D d c (l.take k)+dz T D d (aS T a).toNat):=by
 unfold ko
 rw[df _ _ 0 hk,List.foldl_append,ha]
 rfl
theorem u7(hv:ao T=true)(hd:(d:Int)<T.nodes)(c:Int)(h0:0≤c)(h2:c≤2)(l:List Int):0≤ko T D d c l∧ko T D d c l≤2:=nC _ (fun a=>(jZ hv hd _).1) l c h0 h2
theorem Cs(cs:List Int)(m:Nat)(hm:m<cs.length):cs.set m (cs.getD m 0)=cs:=by
 rw[List.getD_eq_getElem?_getD,List.getElem?_eq_getElem hm,Option.getD_some,List.set_getElem_self]
end
def Hg(T:ai)(D:List Bool)(n d:Int)(c:Int):PV:=.tuple [num (if cB T D n d=0 then c else 0),num (cB T D n d)]
set_option maxHeartbeats 2000000 in
theorem zz(T:ai)(D:List Bool)(n d:Int)(h12:T.nodes≤12):Can Tryz.prog 178 [aP T,bf D,num n,num d,num 2] (· =Hg T D n d (dz T D d.toNat n.toNat)):=by
 refine aF Tryz.func178 rfl Tryz.ntmps178 rfl<|ab (.a 3 rfl<|.k [1,2,3,4,5] rfl)<|ab (.a 4 rfl<|.c rfl (sf T D n d) rfl<|.a 5 rfl<|.k [1,2,3,4,5,12,13] rfl)<|aj<|ab (.a 2 rfl<|.k [1,2,3,4,5,12,13,31] rfl)<|ah rfl (fun hc=>?_) (fun hc=>?_)
 ·have he:cB T D n d≠0:=tt hc
  exact ab (.a 3 rfl<|.k [10,11] rfl)<|aq<|⟨_,_,aA.of rfl,aB.pure,by unfold Hg;rw[if_neg he];rfl⟩
 ·have he:cB T D n d=0:=Classical.byContradiction (ff hc)
  rw[he]
  obtain⟨hv,hf,hn,hd⟩:=fB he
  rw[aW]at hn hd
  obtain⟨n,rfl⟩:=Int.eq_ofNat_of_zero_le hn.1
  obtain⟨d,rfl⟩:=Int.eq_ofNat_of_zero_le hd.1
  have hn:=hn.2
  have hd:=hd.2
  have hll:=bN hv
  have hS:=aJ hv
  obtain⟨hb1,hb2⟩:=eo (D:=D) hv (dir:=false) hd
  obtain⟨N,hN⟩:∃N:Nat,T.nodes=(N:Int):=⟨T.nodes.toNat,by omega⟩
  have hNt:T.nodes.toNat=N:=by omega
  refine ak<|aj<|ab (.a 2 rfl<|.k [1,2,3,4,5,12,34] rfl)<|ah rfl (fun hc=>?_) (fun hc=>?_)
  ·cases hc
  ·refine ak<|ab (.a 1 rfl<|.c rfl (kU T hv) rfl<|.a 1 rfl<|.k [1,2,3,4,5,12,14] rfl)<|aQ<|au 2 rfl<|ca (dB rfl (bE.rk.get rfl) rfl rfl hN hN ⟨by unfold maxLen;omega,by omega⟩) rfl<|au 1 rfl<|aH [1,2,3,4,5,12,14,15] rfl ?_
   refine eh (σ':=[ew (List.replicate N 0)]) (by unfold ew;rw[List.length_replicate,←cS];rfl) ?_
   refine aQ<|au 3 rfl<|bz (yY (c:=1) rfl rfl rfl rfl) rfl<|bz (aI (d) rfl (by omega) (by rw[List.length_replicate];omega)) rfl<|br ((by first|exact bQ rfl (bE.tk.get rfl) rfl rfl rfl (by first|omega|(simp;omega))|exact bb rfl (bE.tk.get rfl) rfl rfl rfl (by first|omega|(simp;omega)))) rfl rfl<|aH [1,2,3,4,5,12,14,15] rfl ?_
   refine eh (σ':=[ew ((List.replicate T.nodes.toNat 0).set d 1)]) ?_ ?_
   ·rw[hNt];unfold ew;simp only[List.length_set,List.length_replicate];rfl
   have hI0:=ot.start (D:=D) hd
   generalize (List.replicate T.nodes.toNat (0:Int)).set d 1=cs0 at hI0
   refine aQ<|au 1 rfl<|cM rfl rfl (bS.mono (wG (bK T D d false) cs0 (by omega)) (fun _ σ' h=>?_))
   obtain⟨O,hO1,hO2,rfl,rfl⟩:=h
   refine au 1 rfl<|aH [1,2,3,4,5,12,14,15,16] rfl ?_
   have hO:=xm.of hv hd hO1 hO2
   have hOl:O.length≤12:=by have:=hO1.length_eq;have:=vv (bK T D d false) (bK T D d false).length;omega
   refine aQ<|au 1 rfl<|cM rfl rfl (bS.mono (vU O (ew cs0) hOl) (fun _ σ' h=>?_))
   subst h
   refine aH [1,2,3,4,5,12,14,15,16] rfl ?_
   refine aj<|ab (.a 3 rfl<|.k [1,2,3,4,5,12,14,15,49,50,51] rfl)<|av<|eZ [1,2,3,4,5,12,14,15,49,50,51] rfl<|bw (fun r st=>∃(cs:List Int) (i:Nat),i≤O.reverse.length∧r=O.reverse.length - i∧ot T D d O.reverse cs i∧st=⟨[(1,bf D),(2,num n),(3,num d),(4,num 2),(5,.aV (bx T) 0),(12,ax (bK T D d false)),(14,iX (cZ (bq T) T.nodes.toNat (2*T.af.length))),(15,.own 0),(49,.own 1),(50,num O.reverse.length),(51,num i)],[ew cs,ew O.reverse]⟩) O.reverse.length ⟨cs0,0,by omega,by omega,hI0 _,rfl⟩ ?_
   rintro r st ⟨cs,i,hi,rfl,hI,rfl⟩
   have hRl:O.reverse.length≤12:=by simpa using hOl
   refine ab (.a 1 rfl<|.k [1,2,3,4,5,12,14,15,49,50,51,52] rfl)<|aj<|ah rfl (fun hx=>?_) (fun hx=>?_)
   ·have hlt:i<O.reverse.length:=by have:=tt hx;omega
    obtain⟨m,hm⟩:∃m:Nat,O.reverse.getD i 0=(m:Int):=by
     obtain⟨k,hk,_⟩:=(hO.mem _).1 (List.mem_reverse.1 (bU (d:=0) hlt))
     exact⟨k,hk⟩
    obtain⟨hmN,hm0,hf0⟩:=hI.fresh hO hlt hm
    have hcl:=hI.len
    have hrow:=uy T m (by omega)
    have hnx:=re T D (bK T D d false) (bm T m) m d hv hf hb1 hb2 hmN hd (fun a ha=>jM ha) (Nat.le_trans (dH T m _) (by omega))
    have hnx:Can Tryz.prog 148 [aP T,bf D,ax (bK T D d false),ax (bm T m),num m,num d] (· =ax (bL T D m d)):=hnx
    have hnl:(bL T D m d).length≤512:=by
     have h1:(bL T D m d).length≤(bm T m).length:=by unfold bL kj;split;simp;exact List.length_filter_le _ _
     exact Nat.le_trans h1 (Nat.le_trans (dH T m _) (by omega))
    have hset:=Cs cs m (by omega)
    have hcr:0≤cs.getD m 0∧cs.getD m 0≤2:=by rw[hf0];split<;>omega
    refine ak<|aj<|av<|ab (.v (aI (i) rfl) rfl<|.v (aL rfl ((aD _ i hlt).trans (by rw[hm]))) rfl<|.a 1 rfl<|.k [1,2,3,4,5,12,14,15,18,49,50,51] rfl)<|fp mixed (by kernel_rfl) (.a 5 rfl<|.v [58,59] (aI (m) rfl (by omega) (by rw[eG];omega)) rfl rfl<|.v [60] (aL rfl ((sc _ m (by rw[eG];omega)).trans (by rw[hrow]))) rfl rfl<|.a 2 rfl<|.v [55,56,57,61,62,63] (fm rfl (hnx)) rfl rfl<|.a 2 rfl<|.k [1,2,3,4,5,12,14,15,18,49,50,51,64,65,66] rfl) ?_
    refine av<|eZ [1,2,3,4,5,12,14,15,18,49,50,51,64,65,66] rfl<|bw (fun r st=>∃k:Nat,k≤(bL T D m d).length∧r=(bL T D m d).length - k∧st=⟨[(1,bf D),(2,num n),(3,num d),(4,num 2),(5,.aV (bx T) 0),(12,ax (bK T D d false)),(14,iX (cZ (bq T) T.nodes.toNat (2*T.af.length))),(15,.own 0),(18,num m),(49,.own 1),(50,num O.reverse.length),(51,num i),(64,ax (bL T D m d)),(65,num (bL T D m d).length),(66,num k)],[ew (cs.set m (ko T D d (cs.getD m 0) ((bL T D m d).take k))),ew O.reverse]⟩) (bL T D m d).length ⟨0,by omega,by omega,by rw[List.take_zero,xY,hset];rfl⟩ ?_
    rintro r st ⟨k,hk,rfl,rfl⟩
    have hfr:=u7 (D:=D) hv hd (cs.getD m 0) hcr.1 hcr.2 ((bL T D m d).take k)
    have hfst:=xU (T:=T) (D:=D) (d:=d) (cs.getD m 0) (bL T D m d) k
    generalize hd12:ko T D d (cs.getD m 0) ((bL T D m d).take k)=c at hfr hfst
    refine ab (.a 1 rfl<|.k [1,2,3,4,5,12,14,15,18,49,50,51,64,65,66,67] rfl)<|aj<|ah rfl (fun hy=>?_) (fun hy=>?_)
    ·have hkl:k<(bL T D m d).length:=by have:=tt hy;omega
     obtain⟨a,ha,han⟩:=ec (bU (d:=0) hkl)
     have hmem:(a:Int)∈bL T D m d:=by rw[←ha];exact bU hkl
     obtain⟨y,hyh,hyN⟩:=dM hv han.gH
     obtain⟨hcy,hym,_⟩:=hI.next hv hd hO hlt hm hmem hyh
     have hh:=fu T a han.gH (by omega)
     rw[hyh]at hh
     have hcyr:=jZ (D:=D) hv hd y
     have hg1:(cs.set m c).getD y 0=dz T D d y:=by rw[←hcy,List.getD_eq_getElem?_getD,List.getElem?_set,if_neg (fun e=>hym e.symm),←List.getD_eq_getElem?_getD]
     have hg2:(cs.set m c).getD m 0=c:=by rw[List.getD_eq_getElem?_getD,List.getElem?_set,if_pos rfl,if_pos (by omega)];rfl
     have hfst:=hfst a hkl ha
     rw[hyh,Int.toNat_natCast]at hfst
     refine ak<|aj<|av<|ab (.v (aI (k) rfl) rfl<|.v (aL rfl ((aD _ k hkl).trans (by rw[ha]))) rfl<|.a 1 rfl<|.k [1,2,3,4,5,12,14,15,18,20,49,50,51,64,65,66] rfl)<|ab (.a 3 rfl<|.c rfl (hh) rfl<|.v (aI (y) rfl (by omega) (by simp only[List.length_set];omega)) rfl<|.v (aL rfl ((aD _ y (by simp only[List.length_set];omega)).trans (by rw[hg1]))) rfl<|.a 1 rfl<|.k [1,2,3,4,5,12,14,15,18,21,49,50,51,64,65,66] rfl)<|ab (.a 4 rfl<|.v (aI (m) rfl (by omega) (by simp only[List.length_set];omega)) rfl<|.v (aL rfl ((aD _ m (by simp only[List.length_set];omega)).trans (by rw[hg2]))) rfl<|.v (aR rfl) rfl<|.a 1 rfl<|.k [1,2,3,4,5,12,14,15,18,21,49,50,51,64,65,66,83] rfl)<|ah rfl (fun hz=>?_) (fun hz=>?_)
     ·have hv2:ko T D d (cs.getD m 0) ((bL T D m d).take (k+1))=2:=by have:=tt hz;omega
      refine ba<|au 3 rfl<|bz (aI (m) rfl (by omega) (by simp only[List.length_set];omega)) rfl<|br ((by first|exact bQ rfl (bE.tk.get rfl) rfl rfl rfl (by first|omega|(simp;omega))|exact bb rfl (bE.tk.get rfl) rfl rfl rfl (by first|omega|(simp;omega)))) rfl rfl<|aH [1,2,3,4,5,12,14,15,18,49,50,51,64,65,66] rfl ?_
      refine ay (.v (aR rfl) rfl<|.a 1 rfl<|.k [1,2,3,4,5,12,14,15,18,49,50,51,64,65,66] rfl) ?_
      refine⟨(bL T D m d).length - (k+1),by omega,k+1,by omega,rfl,?_⟩
      rw[hv2]
      unfold ew
      simp only[List.length_set,List.set_set]
      rfl
     ·have hv2:ko T D d (cs.getD m 0) ((bL T D m d).take (k+1))=c+dz T D d y:=by have:=ff hz;omega
      refine ba<|au 2 rfl<|bz (aI (m) rfl (by omega) (by simp only[List.length_set];omega)) rfl<|bz (aL rfl ((aD _ m (by simp only[List.length_set];omega)).trans (by rw[hg2]))) rfl<|au 1 rfl<|bz (aR rfl) rfl<|bz (aI (m) rfl (by omega) (by simp only[List.length_set];omega)) rfl<|br ((by first|exact bQ rfl (bE.tk.get rfl) rfl rfl rfl (by first|omega|(simp;omega))|exact bb rfl (bE.tk.get rfl) rfl rfl rfl (by first|omega|(simp;omega)))) rfl rfl<|aH [1,2,3,4,5,12,14,15,18,49,50,51,64,65,66] rfl ?_
      refine ay (.v (aR rfl) rfl<|.a 1 rfl<|.k [1,2,3,4,5,12,14,15,18,49,50,51,64,65,66] rfl) ?_
      refine⟨(bL T D m d).length - (k+1),by omega,k+1,by omega,rfl,?_⟩
      rw[hv2]
      unfold ew
      simp only[List.length_set,List.set_set]
      rfl
    ·have hke:k=(bL T D m d).length:=by have:=ff hy;omega
     refine bn<|ay (.v (aR rfl) rfl<|.a 1 rfl<|.k [1,2,3,4,5,12,14,15,49,50,51] rfl) ?_
     have hI2:=hI.step hv hd hO hlt hm
     rw[hke,List.take_length]at hd12
     exact⟨O.reverse.length - (i+1),by omega,cs.set m (ko T D d (cs.getD m 0) (bL T D m d)),i+1,by omega,rfl,hI2,by rw[hd12];rfl⟩
   ·have hie:i=O.reverse.length:=by have:=ff hx;omega
    subst hie
    have hres:=hI.done hv hd hO hn
    have hcl:=hI.len
    exact bn<|ab (.a 2 rfl<|.v (aI (n) rfl) rfl<|.v (aL rfl ((aD cs n (by omega)).trans (by rw[hres]))) rfl<|.a 2 rfl<|.k [10,11] rfl)<|aq<|⟨_,_,aA.of rfl,aB.pure,by unfold Hg;rw[he,if_pos rfl];rfl⟩
theorem Ay(T:ai)(D:List Bool)(n d:Int):eL T D n d=(decide (cB T D n d=0)&&decide ((if cB T D n d=0 then dz T D d.toNat n.toNat else 0)=1)):=by
 unfold eL
 by_cases h:cB T D n d=0
 ·rw[if_pos h]
 ·simp[h]
set_option maxHeartbeats 2000000 in
theorem pg(T:ai)(D:List Bool)(n d:Int)(h12:T.nodes≤12):Can Tryz.prog 152 [aP T,bf D,num n,num d] (· =flag (eL T D n d)):=by
 rw[Ay]
 obtain⟨q1,hq1⟩:∃q,decide (cB T D n d=0)=q:=⟨_,rfl⟩
 obtain⟨q2,hq2⟩:∃q,decide ((if cB T D n d=0 then dz T D d.toNat n.toNat else 0)=1)=q:=⟨_,rfl⟩
 rw[hq1,hq2]
 refine aF Tryz.func152 rfl Tryz.ntmps152 rfl<|ab (.a 2 rfl<|.k [1,2,3,4] rfl)<|ab (.a 4 rfl<|.c rfl (zz T D n d h12) rfl<|.a 5 rfl<|.k [9,10] rfl)<|bC 8 (.raw (.bool (q1&&q2))) [] rfl ?_ ?_
 ·refine .a 1 rfl<|.v (cC rfl (hq1)) rfl<|.a 1 rfl<|?_
  cases q1
  ·exact .a 4 rfl<|.k [8] rfl
  ·exact .a 1 rfl<|.v (cC rfl (hq2)) rfl<|.a 2 rfl<|.k [8] rfl
 exact aq<|⟨_,_,aA.of rfl,aB.pure,rfl⟩
structure GP (L out:List Int) (i:Nat) (b:Int):Prop where
 none:b<0→∀k:Nat,k<i→0≤L.getD k 0→(k:Int)∈out
 some:∀n:Nat,b=(n:Int)→n<i∧0≤L.getD n 0∧¬(n:Int)∈out∧∀k:Nat,k<i→0≤L.getD k 0→¬(k:Int)∈out→L.getD k 0≤L.getD n 0
theorem GP.no{L out:List Int}{i:Nat}{b:Int}(h:GP L out i b)(h1:¬(0≤L.getD i 0∧¬(i:Int)∈out∧(b<0∨∃n:Nat,b=(n:Int)∧L.getD n 0<L.getD i 0))):GP L out (i+1) b:=by
 refine⟨fun hb k hk hk0=>?_,fun n hn=>?_⟩
 ·by_cases hki:k=i
  ·subst hki;exact Classical.byContradiction fun ho=>h1 ⟨hk0,ho,.inl hb⟩
  ·exact h.none hb k (by omega) hk0
 ·obtain⟨a1,a2,a3,a4⟩:=h.some n hn
  refine⟨by omega,a2,a3,fun k hk hk0 hko=>?_⟩
  by_cases hki:k=i
  ·subst hki;exact Int.not_lt.1 fun hl=>h1 ⟨hk0,hko,.inr ⟨n,hn,hl⟩⟩
  ·exact a4 k (by omega) hk0 hko
structure Part (L out:List Int):Prop where
 nodup:out.Nodup
 mem:∀x∈out,∃k:Nat,x=(k:Int)∧k<L.length∧0≤L.getD k 0
 pair:out.Pairwise fun x y=>L.getD y.toNat 0≤L.getD x.toNat 0
 rest:∀x∈out,∀k:Nat,k<L.length→0≤L.getD k 0→¬(k:Int)∈out→L.getD k 0≤L.getD x.toNat 0
theorem Part.len{L out:List Int}(h:Part L out):out.length≤L.length:=by
 have h1:=pa L.length (out.map Int.toNat) (by
  unfold List.Nodup
  rw[List.pairwise_map]
  refine List.Pairwise.imp_of_mem ?_ h.nodup
  intro a b ha hb hne e
  obtain⟨k,rfl,_⟩:=h.mem a ha
  obtain⟨k',rfl,_⟩:=h.mem b hb
  simp only[Int.toNat_natCast]at e
  exact hne (by rw[e])) (fun x hx=>by
  obtain⟨y,hy,rfl⟩:=List.mem_map.1 hx
  obtain⟨k,rfl,hk,_⟩:=h.mem y hy
  simpa using hk)
 simpa using h1
end PW
end Go.Proofs.YtnegbdpggideiaaGreatDoor
namespace Go.Proofs.YtnegbdpggideiaaGreatDoor
namespace PW
open Go.RowKit cA Mem
section
variable {P:Program} {kt e:TypeId}
theorem yp(a b:Int):(a==b)=decide (a=b):=Bool.eq_iff_iff.2 (by simp)
theorem yf(b:Bool)(n:Nat)(hu:P.underlying kt=some (.int .i64))(a:Int)(w:World):(Instr.checkKey b (n+1) kt (.int .i64 a)).run P w= .ok () w:=by
 simp only[Instr.checkKey,Sem.run_bind,run_underlying hu,Result.andThen_ok,Sem.run_pure]
theorem eq_int(n:Nat)(hu:P.underlying kt=some (.int .i64))(a b:Int)(w:World):(Op.equalIn (n+1) kt (.int .i64 a) (.int .i64 b)).run P w= .ok (decide (a=b)) w:=by
 simp only[Op.equalIn,Sem.run_bind,run_underlying hu,Result.andThen_ok,if_true,Sem.run_pure,yp]
theorem GM(hu:P.underlying kt=some (.int .i64)):ig P kt (fun n:Int=>Value.int .i64 n) where
 ni:=fun b a w=>yf b 9999 hu a w
 eql:=fun a b w=>eq_int _ hu a b w
 now:=⟨_,hu,.inl fun a b=>by simp only[Instr.sameNow,if_true,yp]⟩
 bits:=fun a=>by unfold Instr.sameBits;simp
theorem mY(he:P.underlying e=some (.int .i64)){xs:Array Value}{off:Nat}{v:Value}(hx:xs[off]? =some v)(w:World):(Go.part e xs off).run P w= .ok v w:=by
 simp[Go.part,isAgg,run_underlying he,hx]
abbrev oz(p:Int×Int):Array Value:= #[.int .i64 p.1,.int .i64 p.2]
theorem F1(he:P.underlying e=some (.int .i64))(a:Int×Int)(w:World):(Go.part e (oz a) 0).run P w= .ok (.int .i64 a.1) w:=mY he rfl w
theorem rM(he:P.underlying e=some (.int .i64))(a:Int×Int)(w:World):(Go.part e (oz a) 1).run P w= .ok (.int .i64 a.2) w:=mY he rfl w
theorem Bj{i:TypeInfo}(hu:P.underlying kt=some (.array 2 e))(he:P.underlying e=some (.int .i64))(hi:P.info? e=some i)(hs:i.size=1)(b:Bool)(n:Nat)(a:Int×Int)(w:World):(Instr.checkKey b (n+1+1) kt (.agg (oz a))).run P w= .ok () w:=by
 have hz:(sizeOf e).run P w= .ok 1 w:=by simp[sizeOf,typeInfo,program,Sem.run,hi,hs]
 have hr:List.range' 0 2=[0,1]:=rfl
 rw[Instr.checkKey]
 simp only[Sem.run_bind,run_underlying hu,Result.andThen_ok]
 simp only[Std.Legacy.Range.forIn_eq_forIn_range',Std.Legacy.Range.size,Nat.sub_zero,Nat.add_one_sub_one,Nat.div_one]
 rw[hr]
 simp only[List.forIn_cons,List.forIn_nil,Sem.run_bind,hz,Result.andThen_ok,Sem.run_pure,Nat.mul_one,F1 he,rM he,yf b n he]
theorem DW{i:TypeInfo}(hu:P.underlying kt=some (.array 2 e))(he:P.underlying e=some (.int .i64))(hi:P.info? e=some i)(hs:i.size=1)(n:Nat)(a b:Int×Int)(w:World):(Op.equalIn (n+1+1) kt (.agg (oz a)) (.agg (oz b))).run P w= .ok (decide (a=b)) w:=by
 have hsz:P.cellsOf e=1:=by simp[Program.cellsOf,hi,hs]
 rw[run_equalIn_array w (n+1) _ _ hu hi,hsz]
 show(Op.eqItems (n+1) e 1 _ _ [0,1]).run P w=_
 simp only[Op.eqItems,Sem.run_bind,Nat.mul_one,F1 he,rM he,Result.andThen_ok,eq_int n he,Sem.run_pure]
 obtain⟨a1,a2⟩:=a
 obtain⟨b1,b2⟩:=b
 by_cases h1:a1=b1<;>by_cases h2:a2=b2<;>simp[h1,h2,Sem.run_bind,rM he,eq_int n he,Op.eqItems]
theorem EI{i:TypeInfo}(hu:P.underlying kt=some (.array 2 e))(he:P.underlying e=some (.int .i64))(hi:P.info? e=some i)(hs:i.size=1):ig P kt (fun p:Int×Int=>Value.agg (oz p)) where
 ni:=fun b a w=>Bj hu he hi hs b 9998 a w
 eql:=fun a b w=>DW hu he hi hs 9998 a b w
 now:=⟨_,hu,.inr fun a b=>by simp only[Instr.sameNow]⟩
 bits:=fun a=>by
  have h:=fun(n:Nat) (x:Int)=>show Instr.sameBits n (.int .i64 x) (.int .i64 x)=true by unfold Instr.sameBits;simp
  show Instr.sameBits (9999+1) _ _=true
  rw[Instr.sameBits]
  simp only[List.zip_cons_cons,List.all_cons,h]
  rfl
end
end PW
end Go.Proofs.YtnegbdpggideiaaGreatDoor
namespace Go.Proofs.YtnegbdpggideiaaGreatDoor
namespace PW
open Go.RowKit cA Mem Net
theorem Fq:tp Tryz.prog 143=some (3,37):=by kernel_rfl
theorem Ep:tp Tryz.prog 144=some (125,4):=by kernel_rfl
theorem IL:Gg Tryz.prog 37=some (.slice none 0 0):=by kernel_rfl
theorem I5:Gg Tryz.prog 4=some (.bool false):=by kernel_rfl
theorem HL:uX Tryz.prog 37=true:=by kernel_rfl
abbrev Fj(n:Int):Value:=.int .i64 n
abbrev DJ(p:Int×Int):Value:=.agg (oz p)
theorem DD:ig Tryz.prog 3 Fj:=GM Tryz.underlying3
theorem Fg:ig Tryz.prog 125 DJ:=by
 have h:(Tryz.prog.info? 3).map (·.size)=some 1:=by kernel_rfl
 obtain⟨i,h1,h2⟩:=Option.map_eq_some_iff.1 h
 exact EI Tryz.underlying125 Tryz.underlying3 h1 h2
theorem Du(a b:Int):Tryz.prog.built 125 [(0,.int .i64 a),(1,.int .i64 b)]=some #[.int .i64 a,.int .i64 b]:=by kernel_rfl
theorem BQ{P:Program}{σ:cd}{t:bZ}{o:Oper}{ty:TypeId}{x y:Operand}{a b:Int}(ho:o.op= .build ty #[(0,x),(1,y)])(hx:aC t x=some (num a))(hy:aC t y=some (num b))(hb:P.built ty [(0,.int .i64 a),(1,.int .i64 b)]=some #[.int .i64 a,.int .i64 b]):bg P σ t o (.agg [num a,num b]):=by
 intro F base E ρ w hρ hS hT
 have hrun:=run_build (P:=P) w ty #[(0,.int .i64 a),(1,.int .i64 b)] #[.int .i64 a,.int .i64 b] hb
 have h0:ρ x= .int .i64 a:=dE (aw hρ hT hx)
 have h1:ρ y= .int .i64 b:=dE (aw hρ hT hy)
 have hr:(execOp ρ o).run P w= .ok (.value (.agg #[.int .i64 a,.int .i64 b])) w:=by
  simp only[execOp,ho,Sem.run_bind,List.map_toArray,List.map_cons,List.map_nil,h0,h1,hrun,Result.andThen_ok,Sem.run_pure]
 rw[hr]
 refine bd (.agg #[.int .i64 a,.int .i64 b] _ rfl (fun i x u k1 k2=>?_))
 match i,k1,k2 with
 |0,k1,k2=>simp at k1 k2;subst k1;subst k2;exact .raw _
 |1,k1,k2=>simp at k1 k2;subst k1;subst k2;exact .raw _
 |_+2,k1,k2=>simp at k2
section
variable {κ:Type} [DecidableEq κ]
theorem rJ(k:κ)(p:PV):∀l:List (κ×PV),cY k (hZ k p l)=some p
 | []=>by simp[hZ,cY]
 |(a,q)::l=>by
  unfold hZ
  split
  ·rename_i h;simp[cY,h]
  ·rename_i h;simp only[cY,if_neg h];exact rJ k p l
theorem Dj{P:Program}{σ:cd}{t:bZ}{o:Oper}{x y:Operand}{ty tz:TypeId}{m:Option PV}(ho:o.op= .binOp .eql ty x y tz)(hk:uX P ty=true)(hx:aC t x=some (m.getD (.raw (.slice none 0 0))))(hy:aC t y=some (.raw (.slice none 0 0)))(hm:∀v,m=some v→∃n xs,v= .slice n xs∧0<n):bg P σ t o (.raw (.bool m.isNone)):=by
 cases m with
 |none=>exact E9 ho hk hx hy
 |some v=>
  obtain⟨n,xs,rfl,hn⟩:=hm v rfl
  exact mU ho hk hx hy hn
end
def iz(T:ai)(D:List Bool)(dm:List (Int×PV)):Prop:=∀k v,(k,v)∈dm→∃d:Nat,k=(d:Int)∧(d:Int)<T.nodes∧v=ax (bK T D d false)
def iT(T:ai)(D:List Bool)(um:List ((Int×Int)×PV)):Prop:=∀k v,(k,v)∈um→v=flag (eL T D k.1 k.2)
theorem iz.pure{T:ai}{D:List Bool}{dm:List (Int×PV)}(h:iz T D dm):jy (some (.mp (fD Fj dm))):=fun b hb=>by
 cases hb
 refine⟨fun i u hu=>?_⟩
 have hm:=List.mem_of_getElem? hu
 simp only[fD,List.map_map,List.mem_map,Function.comp]at hm
 obtain⟨⟨k,v⟩,hkv,rfl⟩:=hm
 obtain⟨d,_,_,hv⟩:=h k v hkv
 show IsPure v
 rw[hv]
 infer_instance
theorem iT.pure{T:ai}{D:List Bool}{um:List ((Int×Int)×PV)}(h:iT T D um):jy (some (.mp (fD DJ um))):=fun b hb=>by
 cases hb
 refine⟨fun i u hu=>?_⟩
 have hm:=List.mem_of_getElem? hu
 simp only[fD,List.map_map,List.mem_map,Function.comp]at hm
 obtain⟨⟨k,v⟩,hkv,rfl⟩:=hm
 show IsPure v
 rw[h k v hkv]
 infer_instance
theorem iz.set{T:ai}{D:List Bool}{dm:List (Int×PV)}(h:iz T D dm){d:Nat}(hd:(d:Int)<T.nodes):iz T D (hZ (d:Int) (ax (bK T D d false)) dm):=fun k v hk=>by
 rcases pZ hk with e|e
 ·cases e;exact⟨d,rfl,hd,rfl⟩
 ·exact h k v e
theorem iT.set{T:ai}{D:List Bool}{um:List ((Int×Int)×PV)}(h:iT T D um)(a b:Int):iT T D (hZ (a,b) (flag (eL T D a b)) um):=fun k v hk=>by
 rcases pZ hk with e|e
 ·cases e;rfl
 ·exact h k v e
theorem iz.look{T:ai}{D:List Bool}{dm:List (Int×PV)}(h:iz T D dm){d:Nat}{v:PV}(hl:cY (d:Int) dm=some v):v=ax (bK T D d false):=by
 obtain⟨d',h1,_,h2⟩:=h _ _ (iB hl)
 have:d'=d:=by omega
 subst this
 exact h2
def qd(T:ai)(n:Int)(p:List Int):List Int:=n::p.map fun a=>aS T a.toNat
def qH(T:ai)(p:List Int):List Int:=(List.range (p.length+1)).map fun i=>cT T (p.take i)
theorem oS(T:ai)(n:Int)(p:List Int):(qd T n p).length=p.length+1:=by simp[qd]
theorem yS(T:ai)(p:List Int):(qH T p).length=p.length+1:=by simp[qH]
theorem Dl(T:ai)(n:Int)(p:List Int)(k:Nat)(h:k<p.length):qd T n (p.take (k+1))=qd T n (p.take k)++[aS T (p.getD k 0).toNat]:=by
 rw[df p k 0 h];simp[qd]
theorem CY(T:ai)(p:List Int)(k:Nat)(h:k<p.length):qH T (p.take (k+1))=qH T (p.take k)++[cT T (p.take (k+1))]:=by
 unfold qH
 rw[show(p.take (k+1)).length+1=(p.take k).length+1+1 by simp;omega,List.range_succ,List.map_append]
 congr 1
 ·refine List.map_congr_left fun i hi=>?_
  have:=List.mem_range.1 hi
  rw[List.take_take,List.take_take,Nat.min_eq_left (by simp at this;omega),Nat.min_eq_left (by simp at this;omega)]
 ·simp only[List.map_cons,List.map_nil,List.take_take]
  rw[Nat.min_eq_left (by simp;omega),show(p.take k).length+1=k+1 by simp;omega]
theorem o4(T:ai)(n:Int)(p:List Int)(i:Nat)(h:i≤p.length):(qd T n p).getD i 0=b7 T n (p.take i):=by
 cases i with
 |zero=>rfl
 |succ i=>
  rw[fF T n p i (by omega)]
  simp only[qd,List.getD_cons_succ]
  rw[List.getD_eq_getElem?_getD,List.getElem?_map,List.getElem?_eq_getElem (by omega),List.getD_eq_getElem?_getD,List.getElem?_eq_getElem (by omega)]
  rfl
theorem yZ(T:ai)(p:List Int)(i:Nat)(h:i≤p.length):(qH T p).getD i 0=cT T (p.take i):=by
 unfold qH
 rw[List.getD_eq_getElem?_getD,List.getElem?_map,List.getElem?_range (by omega)]
 rfl
def ei(T:ai)(D:List Bool)(n:Int)(p:List Int):Int:=if(ao T&&bX T D)=true then(if eT T n p=0 then(if p.any (fun a=>aX D a.toNat) then 7 else 0) else eT T n p) else 1
abbrev II(T:ai)(D:List Bool)(p:List Int)(i:Nat):Option cR:=some (.cells 146 (bx T++[bf D,ax p,.own i,.own (i+1),.own (i+2),.own (i+3)]))
def uC(T:ai)(D:List Bool)(p ns cs:List Int)(dm:List (Int×PV))(um:List ((Int×Int)×PV)):cd:=
 [ew ns,ew cs,some (.mp (fD Fj dm)),some (.mp (fD DJ um)),II T D p 0]
theorem lu{T:ai}:∀ {f:Bool} {n:Int} {l:List Int},db T f n l=0→∀a∈l,eR T a=true
 |f,n,[],_,a,ha=>by cases ha
 |f,n,b::l,h,a,ha=>by
  simp only[db]at h
  split at h
  ·omega
  ·split at h
   ·omega
   ·rename_i h1 _
    rcases List.mem_cons.1 ha with rfl|ha
    ·simpa using h1
    ·exact lu h a ha
theorem mE{T:ai}{n:Int}{p:List Int}(h:eT T n p=0):ao T=true∧bu T n=true∧db T true n p=0:=by
 unfold eT at h
 split at h
 ·rename_i h1
  split at h
  ·rename_i h2;exact⟨h1,h2,h⟩
  ·omega
 ·omega
theorem gE{T:ai}(hv:ao T=true){p:List Int}(ha:∀a∈p,eR T a=true):∀k,k≤p.length→0≤cT T (p.take k)∧cT T (p.take k)≤65535*k
 |0,_=>by simp[jz]
 |k+1,h=>by
  have:=gE hv ha k (by omega)
  rw[mK T p k (by omega)]
  have:=(ju hv (ha _ (bU (d:=0) (show k<p.length by omega)))).1
  omega
set_option maxHeartbeats 2000000 in
theorem xL(T:ai)(D:List Bool)(p:List Int)(n:Int)(hp:p.length≤1000)(hlk:T.af.length≤256):bS Tryz.prog 111 [aP T,bf D,ax p,num n] [] (fun r σ'=>(ei T D n p≠0∧r= .tuple [.raw (.pointer none),num (ei T D n p)])∨(ei T D n p=0∧r= .tuple [.ptr 4 0,num 0]∧σ'=uC T D p (qd T n p) (qH T p) [] [])):=by
 obtain⟨q1,hq1⟩:∃q,ao T=q:=⟨_,rfl⟩
 obtain⟨q2,hq2⟩:∃q,bX T D=q:=⟨_,rfl⟩
 refine cp Tryz.func111 rfl Tryz.ntmps111 rfl<|ab (.a 3 rfl<|.k [1,2,3,4] rfl)<|aj<|bC 25 (.raw (.bool ((!q1)|| !q2))) [1,2,3,4] rfl ?_ ?_
 ·refine .a 1 rfl<|.c rfl (hq1▸de T) rfl<|.a 2 rfl<|?_
  cases q1
  ·exact .a 5 rfl<|.k [25,1,2,3,4] rfl
  ·exact .a 2 rfl<|.c rfl (hq2▸kX T D (by omega)) rfl<|.a 2 rfl<|.k [25,1,2,3,4] rfl
 refine ah rfl (fun hc=>?_) (fun hc=>?_)
 ·have he:ei T D n p=1:=by unfold ei;rw[hq1,hq2];cases q1<;>cases q2<;>first|rfl|cases hc
  exact ab (.a 2 rfl<|.k [8,9] rfl)<|aq<|⟨_,aA.of rfl,.inl ⟨by rw[he];decide,by rw[he];rfl⟩⟩
 ·have hv:ao T=true:=by rw[hq1];cases q1;cases hc;rfl
  have hf:bX T D=true:=by rw[hq2];cases q2;cases q1<;>cases hc;rfl
  have hvf:(ao T&&bX T D)=true:=by rw[hv,hf];rfl
  refine ak<|aj<|ab (.a 3 rfl<|.c rfl (u9 T n p (by omega)) rfl<|.a 7 rfl<|.k [1,2,3,4,12] rfl)<|ab (.a 2 rfl<|.k [1,2,3,4,12,35] rfl)<|ah rfl (fun hx=>?_) (fun hx=>?_)
  ·have hx1:eT T n p≠0:=tt hx
   have he:ei T D n p=eT T n p:=by unfold ei;rw[if_pos hvf,if_neg hx1]
   exact ab (.a 3 rfl<|.k [8,9] rfl)<|aq<|⟨_,aA.of rfl,.inl ⟨by rw[he];exact hx1,by rw[he];rfl⟩⟩
  ·have hx1:eT T n p=0:=Classical.byContradiction (ff hx)
   obtain⟨_,hn,hw⟩:=mE hx1
   have ha:=lu hw
   have hcb:=gE hv ha
   refine ak<|aQ<|au 4 rfl<|ca (iv (xs:=[_]) rfl (bE.sl.get rfl) ⟨Nat.le_of_ble_eq_true rfl,Nat.le_of_ble_eq_true rfl⟩ rfl rfl) rfl<|ca (iv (xs:=[_]) rfl (bE.sl.get rfl) ⟨Nat.le_of_ble_eq_true rfl,Nat.le_of_ble_eq_true rfl⟩ rfl rfl) rfl<|ca (nX Fj rfl) rfl<|ca (nX DJ rfl) rfl<|au 1 rfl<|ca (fw rfl rfl rfl) rfl<|au 1 rfl<|aH [1,2,4,13] rfl ?_
   refine ab (.a 1 rfl<|.k [1,2,4,13,14] rfl)<|aj<|ab (.a 3 rfl<|.k [1,4,13,14,47,48,49] rfl)<|av<|eZ [1,4,13,14,47,48,49] rfl<|bw (fun r st=>∃k:Nat,k≤p.length∧r=p.length - k∧(∀a∈p.take k,aX D a.toNat=false)∧st=⟨[(1,bf D),(4,.aV (bx T) 0),(13,.ptr 4 0),(14,num (cT T (p.take k))),(47,ax p),(48,num p.length),(49,num k)],uC T D p (qd T n (p.take k)) (qH T (p.take k)) [] []⟩) p.length ⟨0,by omega,by omega,by simp,rfl⟩ ?_
   rintro r st ⟨k,hk,rfl,hdn,rfl⟩
   have hck:=hcb k hk
   have hl1:=oS T n (p.take k)
   have hl2:=yS T (p.take k)
   have hl3:(p.take k).length=k:=by simp;omega
   refine ab (.a 1 rfl<|.k [1,4,13,14,47,48,49,50] rfl)<|aj<|ah rfl (fun hy=>?_) (fun hy=>?_)
   ·have hlt:k<p.length:=by have:=tt hy;omega
    have hmem:=bU (d:=0) hlt
    have hab:=ha _ hmem
    obtain⟨hac,m,hm,hmN⟩:=ju hv hab
    have hst1:=Dl T n p k hlt
    have hst2:=CY T p k hlt
    have hst3:=mK T p k hlt
    have hab2:=hab
    simp only[eR,decide_eq_true_eq]at hab2
    obtain⟨a,hae⟩:∃a:Nat,p.getD k 0=(a:Int):=⟨(p.getD k 0).toNat,by omega⟩
    have ham:a<2*T.af.length:=by omega
    have hD:D.length=0∨a<D.length:=by simp only[bX,decide_eq_true_eq]at hf;omega
    rw[hae,Int.toNat_natCast]at hm hac hst1 hst3
    have hh:=fu T a ham (by omega)
    rw[hm]at hh
    refine ak<|aj<|av<|ab (.v (aI (k) rfl) rfl<|.v (aL rfl ((aD p k hlt).trans (by rw[hae]))) rfl<|.a 1 rfl<|.k [1,4,13,14,16,47,48,49] rfl)<|aj<|ab (.a 2 rfl<|.c rfl (iG D a hD) rfl<|.k [1,4,13,14,16,47,48,49,55] rfl)<|ah rfl (fun hz=>?_) (fun hz=>?_)
    ·have he:ei T D n p=7:=by
      unfold ei
      rw[if_pos hvf,if_pos hx1,if_pos]
      exact List.any_eq_true.2 ⟨_,hmem,by rw[hae];exact hz⟩
     exact ab (.a 2 rfl<|.k [8,9] rfl)<|aq<|⟨_,aA.of rfl,.inl ⟨by rw[he];decide,by rw[he];rfl⟩⟩
    ·have hdn2:∀a∈p.take (k+1),aX D a.toNat=false:=fun x hx=>by
      rw[df p k 0 hlt]at hx
      rcases List.mem_append.1 hx with h|h
      ·exact hdn x h
      ·simp only[List.mem_singleton]at h;rw[h,hae];exact hz
     refine ak<|ab (.a 3 rfl<|.c rfl (kD T a ham) rfl<|.v (aR rfl (hn:=by unfold In64;omega)) rfl<|.a 1 rfl<|.k [1,4,13,14,16,47,48,49] rfl)<|kY 9 20 mixed (
      .late [13] rfl (mo rfl rfl) inferInstance rfl rfl<|
      .val [13] rfl (bF rfl) rfl rfl<|
      .val [62] rfl (bF rfl) rfl rfl<|
      .val [63] rfl (bF rfl) rfl rfl<|
      .val [64] rfl (bF rfl) rfl rfl<|
      .val [4] rfl (bF rfl) rfl rfl<|
      .val [16] rfl (bF rfl) rfl rfl<|
      .val [66,67] rfl (fm rfl (hh)) rfl rfl<|
      .val [68] rfl (bF rfl) rfl rfl<|
      .nil) (by kernel_rfl) rfl rfl (bh (ks:=[1,4,13,14,47,48,49,61,65,69]) rfl) ?_
     refine ca (aY rfl (bE.rk.get rfl) rfl rfl rfl rfl (by unfold maxLen;omega)) rfl<|au 3 rfl ?_
     refine cE [5,1,2,3,4] (.c 1<|.c 4<|.c 13<|.c 14<|.c 47<|.c 48<|.c 49<|.nil) (.kept rfl (.dr rfl (bT _ _))<|.kept rfl (.row az.pure)<|.same (iz.pure (T:=T) (D:=D) (dm:=[]) (fun _ _ h=>by cases h)) rfl<|.same (iT.pure (T:=T) (D:=D) (um:=[]) (fun _ _ h=>by cases h)) rfl<|.kept rfl (.cells (az.c<|az.c<|az.c<|az.c<|az.c<|az.c<|az.c<|az.c<|az.c<|az.nil))<|.nil) rfl rfl (aO ?_)
     refine ba<|au 7 rfl<|ca (aY rfl (bE.rk.get rfl) rfl rfl rfl rfl (by unfold maxLen;omega)) rfl<|au 3 rfl ?_
     refine cE [0,5,2,3,4] (.c 1<|.c 4<|.c 13<|.c 14<|.c 47<|.c 48<|.c 49<|.nil) (.kept rfl (.row az.pure)<|.kept rfl (.dr rfl (bT _ _))<|.same (iz.pure (T:=T) (D:=D) (dm:=[]) (fun _ _ h=>by cases h)) rfl<|.same (iT.pure (T:=T) (D:=D) (um:=[]) (fun _ _ h=>by cases h)) rfl<|.kept rfl (.cells (az.c<|az.c<|az.c<|az.c<|az.c<|az.c<|az.c<|az.c<|az.c<|az.nil))<|.nil) rfl rfl (aO ?_)
     refine ay (.v (aR rfl) rfl<|.a 1 rfl<|.k [1,4,13,14,47,48,49] rfl) ?_
     refine⟨p.length - (k+1),by omega,k+1,by omega,rfl,hdn2,?_⟩
     rw[hst1,hst2,hst3,hm]
     unfold uC ew
     simp only[List.length_append,List.length_singleton]
     rfl
   ·have hke:k=p.length:=by have:=ff hy;omega
    subst hke
    rw[List.take_length]at hdn
    refine bn<|ab (.a 3 rfl<|.k [8,9] rfl)<|aq<|⟨_,aA.of rfl,.inr ⟨?_,rfl,by rw[List.take_length]⟩⟩
    unfold ei
    rw[if_pos hvf,if_pos hx1,if_neg]
    intro h
    obtain⟨x,hx,hx2⟩:=List.any_eq_true.1 h
    rw[hdn x hx]at hx2
    cases hx2
noncomputable def eB(T:ai)(D:List Bool)(n:Int)(p:List Int)(i j:Nat):Bool:=
 decide (dN T D (b7 T n (p.take j)).toNat (b7 T n (p.take i)).toNat=cT T (p.take j) - cT T (p.take i))&&eL T D (b7 T n (p.take i)) (b7 T n (p.take j))
theorem cc{T:ai}(hv:ao T=true){n:Int}(hn:bu T n=true){p:List Int}(ha:∀a∈p,eR T a=true)(i:Nat)(hi:i≤p.length):∃u:Nat,b7 T n (p.take i)=(u:Int)∧(u:Int)<T.nodes:=by
 cases i with
 |zero=>
  obtain⟨h0,h1⟩:=aW.1 hn
  obtain⟨u,hu⟩:=Int.eq_ofNat_of_zero_le h0
  exact⟨u,hu,by rw[←hu];exact h1⟩
 |succ i=>
  rw[fF T n p i (by omega)]
  exact(ju hv (ha _ (bU (d:=0) (show i<p.length by omega)))).2
theorem tf{T:ai}{D:List Bool}(hv:ao T=true)(hf:bX T D=true){d:Nat}(hd:(d:Int)<T.nodes):cO T D [(d:Int)]=0:=by
 unfold cO
 rw[hv,hf]
 have:bu T (d:Int)=true:=aW.2 ⟨by omega,hd⟩
 simp[this]
set_option maxHeartbeats 2000000 in
theorem oA(T:ai)(D:List Bool)(p:List Int)(n:Int)(dm:List (Int×PV))(um:List ((Int×Int)×PV))(x:Option cR)(hx:jy x)(hv:ao T=true)(hf:bX T D=true)(h12:T.nodes≤12)(hn:bu T n=true)(ha:∀a∈p,eR T a=true)(hp:p.length≤1000)(i j:Nat)(hi:i≤p.length)(hj:j≤p.length)(hdm:iz T D dm)(hum:iT T D um):
    bS Tryz.prog 112 [.ptr 4 0,num i,num j] (uC T D p (qd T n p) (qH T p) dm um++[x]) (fun r σ'=>r=flag (eB T D n p i j)∧∃dm' um',iz T D dm'∧iT T D um'∧σ'=uC T D p (qd T n p) (qH T p) dm' um'++[x]):=by
  obtain⟨u,hu,huN⟩:=cc hv hn ha i hi
  obtain⟨y,hy,hyN⟩:=cc hv hn ha j hj
  have hcv:eB T D n p i j=(decide (dN T D y u=cT T (p.take j) - cT T (p.take i))&&eL T D u y):=by unfold eB;rw[hu,hy,Int.toNat_natCast,Int.toNat_natCast]
  rw[hcv]
  obtain⟨hb1,hb2⟩:=eo (D:=D) hv (dir:=false) hyN
  have hS:=aJ hv
  have hNp:=hS.nodes
  have hdi:Can Tryz.prog 151 [aP T,bf D,num y] (· = .tuple [ax (bK T D y false),num 0]):=by
    have h:=qp T D (y:Int)
    rw[tf hv hf hyN]at h
    exact h
  have hci:=gE hv ha i hi
  have hcj:=gE hv ha j hj
  have hl1:=oS T n p
  have hl2:=yS T p
  have hgi:=o4 T n p i hi
  have hgj:=o4 T n p j hj
  have hki:=yZ T p i hi
  have hkj:=yZ T p j hj
  rw[hu]at hgi
  rw[hy]at hgj
  have hmn:∀v,cY (y:Int) dm=some v→∃n xs,v= .slice n xs∧0<n:=fun v h=>⟨_,_,hdm.look h,by omega⟩
  refine cp Tryz.func112 rfl Tryz.ntmps112 rfl<|ab (.a 1 rfl<|.k [0,1,2] rfl)<|fp mixed (by kernel_rfl) (.a 5 rfl<|.v [15,16] (aI (i) rfl) rfl rfl<|.v [17] (aL rfl ((aD _ i (by omega)).trans (by rw[hgi]))) rfl rfl<|.a 5 rfl<|.v [22,23] (aI (j) rfl) rfl rfl<|.v [24] (aL rfl ((aD _ j (by omega)).trans (by rw[hgj]))) rfl rfl<|.a 2 rfl<|.k [0,1,2,7,8] rfl) ?_
  refine aj<|ab (.a 5 rfl<|.v (tA DD rfl Fq IL rfl rfl rfl (nU _) rfl) rfl<|.v (Dj rfl HL rfl rfl hmn) rfl<|.k [0,1,2,7,8,32] rfl)<|ah rfl (fun h1=>?_) (fun h1=>?_)
  · obtain ⟨dm1, hdm1⟩ : ∃ z, hZ (y : Int) (ax (bK T D y false)) dm = z := ⟨_, rfl⟩
    have hdm2:iz T D dm1:=by rw[←hdm1];exact hdm.set hyN
    have hlk:cY (y:Int) dm1=some (ax (bK T D y false)):=by rw[←hdm1];exact rJ _ _ _
    refine dI 18 20 mixed (
      .val [0] rfl (bF rfl) rfl rfl<|
      .val [34] rfl (bF rfl) rfl rfl<|
      .val [35] rfl (bF rfl) rfl rfl<|
      .val [36] rfl (bF rfl) rfl rfl<|
      .val [8] rfl (bF rfl) rfl rfl<|
      .val [0] rfl (bF rfl) rfl rfl<|
      .val [39] rfl (bF rfl) rfl rfl<|
      .val [40] rfl (bF rfl) rfl rfl<|
      .val [41] rfl (bF rfl) rfl rfl<|
      .val [0] rfl (bF rfl) rfl rfl<|
      .val [43] rfl (bF rfl) rfl rfl<|
      .val [44] rfl (bF rfl) rfl rfl<|
      .val [45] rfl (bF rfl) rfl rfl<|
      .val [8] rfl (bF rfl) rfl rfl<|
      .val [42,46,47] rfl (fm rfl (hdi)) rfl rfl<|
      .val [48] rfl (bF rfl) rfl rfl<|
      .val [33] rfl (bF rfl) rfl rfl<|
      .late [33] rfl (rB rfl rfl rfl) inferInstance rfl rfl<|
      .nil) (by kernel_rfl) rfl rfl (bh (ks:=[0,1,2,7,8,37,38,49]) rfl) ?_
    refine br (nq DD rfl Fq rfl rfl rfl (nU _) rfl) rfl rfl<|aH [0,1,2,7,8] rfl ?_
    refine eh (σ':=uC T D p (qd T n p) (qH T p) dm1 um++[x]) (by rw[←hdm1];rfl) ?_
    refine aj<|fp mixed (by kernel_rfl) (.a 5 rfl<|.v [54,55] (tA DD rfl Fq IL rfl rfl rfl (nU _) (by rw[hlk])) rfl rfl<|.a 1 rfl<|.v [56,57] (aI (u) rfl) rfl rfl<|.v [58] (aL rfl (aD _ u (by omega))) rfl rfl<|.a 5 rfl<|.v [63,64] (aI (j) rfl) rfl rfl<|.v [65] (aL rfl ((aD _ j (by omega)).trans (by rw[hkj]))) rfl rfl<|.a 5 rfl<|.v [70,71] (aI (i) rfl) rfl rfl<|.v [72] (aL rfl ((aD _ i (by omega)).trans (by rw[hki]))) rfl rfl<|.v [66,73] (aR rfl) rfl rfl<|.a 1 rfl<|.k [0,7,8,75] rfl) ?_
    refine ah rfl (fun h2=>?_) (fun h2=>?_)
    · have h3:dN T D y u≠cT T (p.take j) - cT T (p.take i):=tt h2
      refine ab (.a 1 rfl<|.k [6] rfl)<|aq<|⟨_,aA.of rfl,?_,_,_,hdm2,hum,rfl⟩
      rw[decide_eq_false h3]
      rfl
    · have h3:dN T D y u=cT T (p.take j) - cT T (p.take i):=Classical.byContradiction (ff h2)
      obtain⟨b,hb⟩:∃b:Bool,(cY ((u:Int),(y:Int)) um).getD (.raw (.bool false))=flag b:=by
        cases h:cY ((u:Int),(y:Int)) um with
        |none=>exact⟨false,rfl⟩
        |some v=>exact⟨_,hum _ _ (iB h)⟩
      refine ak<|aQ<|au 2 rfl<|bz (BQ rfl rfl rfl (Du _ _)) rfl<|au 2 rfl<|aH [0,7,8,9] rfl ?_
      refine eh (σ':=uC T D p (qd T n p) (qH T p) dm1 um++[x,some (.cells 125 [num u,num y])]) rfl ?_
      refine fp mixed (by kernel_rfl) (.a 5 rfl<|.v [83,84] (yK Fg rfl Ep I5 rfl rfl rfl (o3 _ _) hb rfl) rfl rfl<|.a 5 rfl<|.k [0,7,8,9,10,11] rfl) ?_
      refine aj<|ab (.a 2 rfl<|.k [0,7,8,9,10,89] rfl)<|ah rfl (fun h4=>?_) (fun h4=>?_)
      · obtain⟨um1,hum1⟩:∃z,hZ ((u:Int),(y:Int)) (flag (eL T D u y)) um=z:=⟨_,rfl⟩
        have hum2:iT T D um1:=by rw[←hum1];exact hum.set u y
        refine fp mixed (by kernel_rfl) (.a 10 rfl<|.v [93,97,98,99] (fm rfl (pg T D u y h12)) rfl rfl<|.a 1 rfl<|.k [0,9,10] rfl) ?_
        refine dI 6 20 mixed (
          .val [0] rfl (bF rfl) rfl rfl<|
          .val [101] rfl (bF rfl) rfl rfl<|
          .val [102] rfl (bF rfl) rfl rfl<|
          .val [103] rfl (bF rfl) rfl rfl<|
          .val [9] rfl (bF rfl) rfl rfl<|
          .val [10] rfl (bF rfl) rfl rfl<|
          .nil) (by kernel_rfl) rfl rfl (bh (ks:=[10,104,105,106]) rfl) ?_
        refine br (nq Fg (k:=((u:Int),(y:Int))) rfl Ep rfl rfl rfl (o3 (.int .i64 (u:Int)) (.int .i64 (y:Int))) rfl) rfl rfl<|aH [10] rfl ?_
        refine eh (σ':=uC T D p (qd T n p) (qH T p) dm1 um1++[x,some (.cells 125 [num u,num y])]) (by rw[←hum1];rfl) ?_
        obtain⟨b,hbu⟩:∃b,b=eL T D u y:=⟨_,rfl⟩
        refine ab (.a 2 rfl<|.k [6] rfl)<|cU [0,1,2,3,4,5] (.c 6<|.nil) (.kept rfl (.row az.pure)<|.kept rfl (.row az.pure)<|.same (iz.pure hdm2) rfl<|.same (iT.pure hum2) rfl<|.kept rfl (.cells (az.c<|az.c<|az.c<|az.c<|az.c<|az.c<|az.c<|az.c<|az.c<|az.nil))<|.same hx rfl<|.nil) rfl rfl ?_
        refine aq<|⟨_,aA.of rfl,?_,_,_,hdm2,hum2,rfl⟩
        rw[decide_eq_true h3,Bool.true_and]
        first
          |rfl
          |(rw[hbu];rfl)
      · have hbu:b=eL T D u y:=by
          cases h:cY ((u:Int),(y:Int)) um with
          |none=>rw[h]at h4;cases h4
          |some v=>
            rw[h,hum _ _ (iB h)]at hb
            have:=hb
            simp only[Option.getD_some]at this
            cases this
            rfl
        have hum2:=hum
        obtain⟨um1,hum1⟩:∃z,z=um:=⟨_,rfl⟩
        subst hum1
        refine ak<|ab (.a 2 rfl<|.k [6] rfl)<|cU [0,1,2,3,4,5] (.c 6<|.nil) (.kept rfl (.row az.pure)<|.kept rfl (.row az.pure)<|.same (iz.pure hdm2) rfl<|.same (iT.pure hum2) rfl<|.kept rfl (.cells (az.c<|az.c<|az.c<|az.c<|az.c<|az.c<|az.c<|az.c<|az.c<|az.nil))<|.same hx rfl<|.nil) rfl rfl ?_
        refine aq<|⟨_,aA.of rfl,?_,_,_,hdm2,hum2,rfl⟩
        rw[decide_eq_true h3,Bool.true_and]
        first
          |rfl
          |(rw[hbu];rfl)
  · obtain ⟨v, hv1⟩ : ∃ v, cY (y : Int) dm = some v := by
      cases h:cY (y:Int) dm with
      |none=>rw[h]at h1;cases h1
      |some v=>exact⟨v,rfl⟩
    have hlk:cY (y:Int) dm=some (ax (bK T D y false)):=by rw[hv1,hdm.look hv1]
    have hdm2:=hdm
    obtain⟨dm1,hdm1⟩:∃z,z=dm:=⟨_,rfl⟩
    subst hdm1
    refine ak<|aj<|fp mixed (by kernel_rfl) (.a 5 rfl<|.v [54,55] (tA DD rfl Fq IL rfl rfl rfl (nU _) (by rw[hlk])) rfl rfl<|.a 1 rfl<|.v [56,57] (aI (u) rfl) rfl rfl<|.v [58] (aL rfl (aD _ u (by omega))) rfl rfl<|.a 5 rfl<|.v [63,64] (aI (j) rfl) rfl rfl<|.v [65] (aL rfl ((aD _ j (by omega)).trans (by rw[hkj]))) rfl rfl<|.a 5 rfl<|.v [70,71] (aI (i) rfl) rfl rfl<|.v [72] (aL rfl ((aD _ i (by omega)).trans (by rw[hki]))) rfl rfl<|.v [66,73] (aR rfl) rfl rfl<|.a 1 rfl<|.k [0,7,8,75] rfl) ?_
    refine ah rfl (fun h2=>?_) (fun h2=>?_)
    · have h3:dN T D y u≠cT T (p.take j) - cT T (p.take i):=tt h2
      refine ab (.a 1 rfl<|.k [6] rfl)<|aq<|⟨_,aA.of rfl,?_,_,_,hdm2,hum,rfl⟩
      rw[decide_eq_false h3]
      rfl
    · have h3:dN T D y u=cT T (p.take j) - cT T (p.take i):=Classical.byContradiction (ff h2)
      obtain⟨b,hb⟩:∃b:Bool,(cY ((u:Int),(y:Int)) um).getD (.raw (.bool false))=flag b:=by
        cases h:cY ((u:Int),(y:Int)) um with
        |none=>exact⟨false,rfl⟩
        |some v=>exact⟨_,hum _ _ (iB h)⟩
      refine ak<|aQ<|au 2 rfl<|bz (BQ rfl rfl rfl (Du _ _)) rfl<|au 2 rfl<|aH [0,7,8,9] rfl ?_
      refine eh (σ':=uC T D p (qd T n p) (qH T p) dm1 um++[x,some (.cells 125 [num u,num y])]) rfl ?_
      refine fp mixed (by kernel_rfl) (.a 5 rfl<|.v [83,84] (yK Fg rfl Ep I5 rfl rfl rfl (o3 _ _) hb rfl) rfl rfl<|.a 5 rfl<|.k [0,7,8,9,10,11] rfl) ?_
      refine aj<|ab (.a 2 rfl<|.k [0,7,8,9,10,89] rfl)<|ah rfl (fun h4=>?_) (fun h4=>?_)
      · obtain⟨um1,hum1⟩:∃z,hZ ((u:Int),(y:Int)) (flag (eL T D u y)) um=z:=⟨_,rfl⟩
        have hum2:iT T D um1:=by rw[←hum1];exact hum.set u y
        refine fp mixed (by kernel_rfl) (.a 10 rfl<|.v [93,97,98,99] (fm rfl (pg T D u y h12)) rfl rfl<|.a 1 rfl<|.k [0,9,10] rfl) ?_
        refine dI 6 20 mixed (
          .val [0] rfl (bF rfl) rfl rfl<|
          .val [101] rfl (bF rfl) rfl rfl<|
          .val [102] rfl (bF rfl) rfl rfl<|
          .val [103] rfl (bF rfl) rfl rfl<|
          .val [9] rfl (bF rfl) rfl rfl<|
          .val [10] rfl (bF rfl) rfl rfl<|
          .nil) (by kernel_rfl) rfl rfl (bh (ks:=[10,104,105,106]) rfl) ?_
        refine br (nq Fg (k:=((u:Int),(y:Int))) rfl Ep rfl rfl rfl (o3 (.int .i64 (u:Int)) (.int .i64 (y:Int))) rfl) rfl rfl<|aH [10] rfl ?_
        refine eh (σ':=uC T D p (qd T n p) (qH T p) dm1 um1++[x,some (.cells 125 [num u,num y])]) (by rw[←hum1];rfl) ?_
        obtain⟨b,hbu⟩:∃b,b=eL T D u y:=⟨_,rfl⟩
        refine ab (.a 2 rfl<|.k [6] rfl)<|cU [0,1,2,3,4,5] (.c 6<|.nil) (.kept rfl (.row az.pure)<|.kept rfl (.row az.pure)<|.same (iz.pure hdm2) rfl<|.same (iT.pure hum2) rfl<|.kept rfl (.cells (az.c<|az.c<|az.c<|az.c<|az.c<|az.c<|az.c<|az.c<|az.c<|az.nil))<|.same hx rfl<|.nil) rfl rfl ?_
        refine aq<|⟨_,aA.of rfl,?_,_,_,hdm2,hum2,rfl⟩
        rw[decide_eq_true h3,Bool.true_and]
        first
          |rfl
          |(rw[hbu];rfl)
      · have hbu:b=eL T D u y:=by
          cases h:cY ((u:Int),(y:Int)) um with
          |none=>rw[h]at h4;cases h4
          |some v=>
            rw[h,hum _ _ (iB h)]at hb
            have:=hb
            simp only[Option.getD_some]at this
            cases this
            rfl
        have hum2:=hum
        obtain⟨um1,hum1⟩:∃z,z=um:=⟨_,rfl⟩
        subst hum1
        refine ak<|ab (.a 2 rfl<|.k [6] rfl)<|cU [0,1,2,3,4,5] (.c 6<|.nil) (.kept rfl (.row az.pure)<|.kept rfl (.row az.pure)<|.same (iz.pure hdm2) rfl<|.same (iT.pure hum2) rfl<|.kept rfl (.cells (az.c<|az.c<|az.c<|az.c<|az.c<|az.c<|az.c<|az.c<|az.c<|az.nil))<|.same hx rfl<|.nil) rfl rfl ?_
        refine aq<|⟨_,aA.of rfl,?_,_,_,hdm2,hum2,rfl⟩
        rw[decide_eq_true h3,Bool.true_and]
        first
          |rfl
          |(rw[hbu];rfl)
end PW
end Go.Proofs.YtnegbdpggideiaaGreatDoor
namespace Go.Proofs.YtnegbdpggideiaaGreatDoor
namespace PW
open Go.RowKit cA Mem Net
theorem qu(l:List bW)(e:bW):eC l++ja e=eC (l++[e]):=by simp[eC]
theorem lU(l:List bW):(eC l).length=l.length*2:=by
 induction l with
 |nil=>rfl
 |cons a l ih=>simp only[eC,List.flatMap_cons,List.length_append,List.length_cons]at*;rw[ih];simp[ja];omega
def ky(c:Nat→Bool)(i:Nat):Nat→Option Nat
 |0=>none
 |m+1=>if m+1≤i then none else if c (m+1) then some (m+1) else ky c i m
theorem rA{c:Nat→Bool}{i j:Nat}(hij:i<j)(hc:c j=true):∀m,j≤m→(∀k,j<k→k≤m→c k=false)→ky c i m=some j
 |0,h,_=>by omega
 |m+1,h,hn=>by
  unfold ky
  rw[if_neg (by omega)]
  by_cases e:j=m+1
  ·subst e;rw[if_pos hc]
  ·rw[if_neg (by rw[hn (m+1) (by omega) (by omega)];simp)]
   exact rA hij hc m (by omega) (fun k h1 h2=>hn k h1 (by omega))
theorem rZ{c:Nat→Bool}{i:Nat}:∀m,(∀k,i<k→k≤m→c k=false)→ky c i m=none
 |0,_=>rfl
 |m+1,hn=>by
  unfold ky
  by_cases e:m+1≤i
  ·rw[if_pos e]
  ·rw[if_neg e,if_neg (by rw[hn (m+1) (by omega) (by omega)];simp)]
   exact rZ m (fun k h1 h2=>hn k h1 (by omega))
theorem nd{c:Nat→Bool}{i:Nat}:∀m j,ky c i m=some j→i<j∧j≤m∧c j=true∧∀k,j<k→k≤m→c k=false
 |0,j,h=>by cases h
 |m+1,j,h=>by
  unfold ky at h
  split at h
  ·cases h
  ·split at h
   ·cases h;rename_i h1 h2;exact⟨by omega,by omega,h2,fun k h3 h4=>by omega⟩
   ·rename_i h1 h2
    obtain⟨a,b,c1,d⟩:=nd m j h
    refine⟨a,by omega,c1,fun k h3 h4=>?_⟩
    by_cases e:k=m+1
    ·subst e;simpa using h2
    ·exact d k h3 (by omega)
theorem jf{c:Nat→Bool}{i:Nat}:∀m,ky c i m=none→∀k,i<k→k≤m→c k=false
 |0,_,k,h1,h2=>by omega
 |m+1,h,k,h1,h2=>by
  unfold ky at h
  split at h
  ·omega
  ·split at h
   ·cases h
   ·rename_i h3 h4
    by_cases e:k=m+1
    ·subst e;simpa using h4
    ·exact jf m h k h1 (by omega)
noncomputable def gU(T:ai)(D:List Bool)(n:Int)(p:List Int):Nat→Nat→List bW
 |0,_=>[]
 |f+1,i=>if i<p.length then(match ky (eB T D n p i) i p.length with
  |some j=>⟨1,b7 T n (p.take j)⟩::gU T D n p f j
  |none=>⟨2,p.getD i 0⟩::gU T D n p f (i+1)) else []
noncomputable def eD(T:ai)(D:List Bool)(n:Int)(p:List Int):List bW:=gU T D n p p.length 0
section
variable {T:ai} {D:List Bool} {n:Int} {p:List Int}
theorem nE(f i:Nat)(h:p.length≤i):gU T D n p f i=[]:=by
 cases f with
 |zero=>rfl
 |succ f=>simp only[gU];rw[if_neg (by omega)]
theorem jJ{f i j:Nat}(hi:i<p.length)(hij:i<j)(hj:j≤p.length)(hc:eB T D n p i j=true)(hno:∀k,j<k→k≤p.length→eB T D n p i k=false):gU T D n p (f+1) i=⟨1,b7 T n (p.take j)⟩::gU T D n p f j:=by
 simp only[gU]
 rw[if_pos hi,rA hij hc p.length hj hno]
theorem kG{f i:Nat}(hi:i<p.length)(hno:∀k,i<k→k≤p.length→eB T D n p i k=false):gU T D n p (f+1) i=⟨2,p.getD i 0⟩::gU T D n p f (i+1):=by
 simp only[gU]
 rw[if_pos hi,rZ p.length hno]
theorem nV:∀ {f:Bool} {x:Int} {l m:List Int},db T f x (l++m)=0→db T f x l=0∧∃g,db T g (b7 T x l) m=0
 |f,x,[],m,h=>⟨rfl,f,h⟩
 |f,x,a::l,m,h=>by
  simp only[List.cons_append,db]at h ⊢
  split at h
  ·omega
  ·rename_i h1
   rw[if_neg h1]
   split at h
   ·omega
   ·rename_i h2
    rw[if_neg h2]
    exact nV h
theorem yM(hv:ao T=true):∀ {f:Bool} {x:Nat} {l:List Int} {y:Nat},db T f x l=0→(∀a∈l,aX D a.toNat=false)→b7 T x l=(y:Int)→Ch T D y x l
 |f,x,[],y,_,_,he=>by
  have:y=x:=by simp only[b7]at he;omega
  subst this
  exact .nil
 |f,x,a::l,y,h,hd,he=>by
  simp only[db]at h
  split at h
  ·omega
  ·rename_i h1
   split at h
   ·omega
   ·rename_i h2
    have hab:eR T a=true:=by simpa using h1
    obtain⟨_,m,hm,hmN⟩:=ju hv hab
    simp only[eR,decide_eq_true_eq]at hab
    obtain⟨b,rfl⟩:=Int.eq_ofNat_of_zero_le hab.1
    rw[Int.toNat_natCast]at hm
    simp only[b7,Int.toNat_natCast]at he h2 h
    rw[hm]at he h
    have hch:=yM hv h (fun c hc=>hd c (by simp[hc])) he
    refine .cons (by omega) (Classical.byContradiction fun hn=>h2 (.inl hn)) (hd b (by simp)) hm ?_ hch
    cases l with
    |nil=>exact .inl rfl
    |cons c l=>
     right
     simp only[db]at h
     split at h
     ·omega
     ·split at h
      ·omega
      ·rename_i h4
       simp only[Int.toNat_natCast]at h4
       cases ho:dc T m with
       |false=>rfl
       |true=>exact absurd (.inr ⟨trivial,ho⟩) h4
structure mI (T:ai) (D:List Bool) (n:Int) (p:List Int):Prop where
 valid:ao T=true
 fits:bX T D=true
 node:bu T n=true
 walk:db T true n p=0
 up:∀a∈p,aX D a.toNat=false
theorem px(h:ei T D n p=0):mI T D n p:=by
 unfold ei at h
 split at h
 ·rename_i h1
  obtain⟨hv,hf⟩:=Bool.and_eq_true_iff.1 h1
  split at h
  ·rename_i h2
   obtain⟨_,hn,hw⟩:=mE h2
   split at h
   ·omega
   ·rename_i h3
    exact⟨hv,hf,hn,hw,fun a ha=>by
     cases hd:aX D a.toNat with
     |false=>rfl
     |true=>exact absurd (List.any_eq_true.2 ⟨a,ha,hd⟩) h3⟩
  ·omega
 ·omega
theorem mI.aK(h:mI T D n p):∀a∈p,eR T a=true:=lu h.walk
def dX(p:List Int)(i j:Nat):List Int:=(p.drop i).take (j - i)
theorem gi(p:List Int){i j:Nat}(hij:i≤j):p.take j=p.take i++dX p i j:=by
 unfold dX
 have h:(p.take j)=(p.take j).take i++(p.take j).drop i:=(List.take_append_drop i _).symm
 rw[h,List.take_take,Nat.min_eq_left hij,List.drop_take]
theorem kR(p:List Int){i j:Nat}(hij:i≤j)(hj:j≤p.length):(dX p i j).length=j - i:=by unfold dX;simp;omega
theorem mI.ch(h:mI T D n p){i j u y:Nat}(hij:i≤j)(hj:j≤p.length)(hu:b7 T n (p.take i)=(u:Int))(hy:b7 T n (p.take j)=(y:Int)):Ch T D y u (dX p i j):=by
 have h1:db T true n (p.take j)=0:=(nV (l:=p.take j) (m:=p.drop j) (by rw[List.take_append_drop];exact h.walk)).1
 rw[gi p hij]at h1
 obtain⟨_,g,hg⟩:=nV h1
 rw[hu]at hg
 refine yM h.valid hg (fun a ha=>h.up a ?_) ?_
 ·exact List.mem_of_mem_drop (List.mem_of_mem_take ha)
 ·rw[←hu,←gR,←gi p hij];exact hy
theorem zx(T:ai)(p:List Int){i j:Nat}(hij:i≤j):cT T (p.take j) - cT T (p.take i)=cT T (dX p i j):=by
 rw[gi p hij,fU];omega
theorem lz(h:mI T D n p){i j u y:Nat}(hij:i≤j)(hj:j≤p.length)(hu:b7 T n (p.take i)=(u:Int))(hy:b7 T n (p.take j)=(y:Int)):eB T D n p i j=true↔SP T D y u (dX p i j)∧dz T D y u=1:=by
 have hch:=h.ch hij hj hu hy
 have ha:=h.aK
 obtain⟨u',hu',huN⟩:=cc h.valid h.node ha i (by omega)
 obtain⟨y',hy',hyN⟩:=cc h.valid h.node ha j hj
 have e1:u'=u:=by omega
 have e2:y'=y:=by omega
 subst e1
 subst e2
 have hne:cB T D (u':Int) (y':Int)=0:=by
  unfold cB
  rw[if_pos (tf h.valid h.fits hyN),aW.2 ⟨by omega,huN⟩]
  rfl
 unfold eB eL
 rw[hu,hy,Int.toNat_natCast,Int.toNat_natCast,zx T p hij,hne]
 simp only[decide_true,Bool.true_and,Bool.and_eq_true,decide_eq_true_eq]
 constructor
 ·rintro⟨h1,h2⟩;exact⟨hch.sp h.valid hyN h1,h2⟩
 ·rintro⟨h1,h2⟩;exact⟨(h1.cost h.valid hyN).1,h2⟩
theorem D7(h:mI T D n p){i j:Nat}(hij:i≤j)(hj:j≤p.length)(hc:eB T D n p i j=true):(j:Int) - i<T.nodes:=by
 have ha:=h.aK
 obtain⟨u,hu,huN⟩:=cc h.valid h.node ha i (by omega)
 obtain⟨y,hy,hyN⟩:=cc h.valid h.node ha j hj
 have:=((lz h hij hj hu hy).1 hc).1.Cr h.valid hyN
 rw[kR p hij hj]at this
 omega
end
def qb(e:Int)(l:List bW):PV:=.tuple [cn (if e=0 then l else []),num e]
def uR(l:List bW):Option cR:=some (.row 103 2 l.length (eC l))
theorem Au(l:List bW):jy (uR l):=fun b hb=>by cases hb;exact(inferInstance:aG (eC l))
theorem qE(T:ai)(D:List Bool)(p:List Int)(n:Int)(hp:p.length≤1000)(hlk:T.af.length≤256):bS Tryz.prog 111 [aP T,bf D,ax p,num n] [] (fun r σ'=>∃x,r= .tuple [x,num (ei T D n p)]∧(ei T D n p=0→x= .ptr 4 0∧σ'=uC T D p (qd T n p) (qH T p) [] [])):=
 bS.mono (xL T D p n hp hlk) fun r σ' h=>by
  rcases h with⟨he,rfl⟩|⟨he,rfl,rfl⟩
  ·exact⟨_,rfl,fun h=>absurd h he⟩
  ·exact⟨_,by rw[he],fun _=>⟨rfl,rfl⟩⟩
set_option maxHeartbeats 2000000 in
theorem sz(T:ai)(D:List Bool)(p:List Int)(n:Int)(hp:p.length≤1000)(hlk:T.af.length≤256)(h12:T.nodes≤12):Can Tryz.prog 54 [aP T,bf D,ax p,num n] (· =qb (ei T D n p) (eD T D n p)):=by
  refine aF Tryz.func54 rfl Tryz.ntmps54 rfl<|ab (.a 3 rfl<|.k [1,2,3,4] rfl)<|yG ?_
  refine aQ<|au 4 rfl<|cM rfl rfl (bS.mono (qE T D p n hp hlk) (fun r σ' h=>?_))
  obtain⟨x,rfl,hx⟩:=h
  refine au 5 rfl<|aH [2,4,10,11] rfl ?_
  refine aj<|ab (.a 2 rfl<|.k [2,4,10,11,24] rfl)<|ah rfl (fun hc=>?_) (fun hc=>?_)
  · have he:ei T D n p≠0:=tt hc
    exact ab (.a 3 rfl<|.k [8,9] rfl)<|aq<|⟨_,_,aA.of rfl,aB.bG (an.cons aB.b9 (an.cons aB.pure an.nil)),by unfold qb;rw[if_neg he];rfl⟩
  · have he:ei T D n p=0:=Classical.byContradiction (ff hc)
    obtain⟨rfl,rfl⟩:=hx he
    have hF:=px he
    have hv:=hF.valid
    have hS:=aJ hv
    have hN:=hS.nodes
    have ha:=hF.aK
    obtain⟨N,hNN⟩:∃N:Nat,T.nodes=(N:Int):=⟨T.nodes.toNat,by omega⟩
    rw[he]
    clear hc
    refine ak<|ab (.a 1 rfl<|.k [2,4,10,12] rfl)<|dW 12 103 2 rfl ?_
    refine ab (.a 1 rfl<|.k [2,4,10,12,13] rfl)<|aj<|yC ?_
    refine aj<|av<|eZ [2,4,10,12,13] rfl<|bw (fun r st=>∃(l:List bW) (i f:Nat) (dm:List (Int×PV)) (um:List ((Int×Int)×PV)),i≤p.length∧p.length - i≤f∧l.length≤i∧r=p.length - i∧eD T D n p=l++gU T D n p f i∧iz T D dm∧iT T D um∧st=⟨[(2,ax p),(4,.aV (bx T) 0),(10,.ptr 4 0),(12,.own 5),(13,num i)],uC T D p (qd T n p) (qH T p) dm um++[uR l]⟩) p.length ⟨[],0,p.length,[],[],by omega,by omega,by simp,by omega,rfl,(fun _ _ h=>by cases h),(fun _ _ h=>by cases h),rfl⟩ ?_
    rintro r st ⟨l,i,f,dm,um,hi,hif,hli,rfl,hl,hdm,hum,rfl⟩
    refine aj<|ab (.a 4 rfl<|.k [2,4,10,12,13,29] rfl)<|ah rfl (fun h1=>?_) (fun h1=>?_)
    · have hlt:i<p.length:=by have:=tt h1;omega
      refine ak<|av<|aj ?_
      obtain⟨m,hm⟩:∃m:Nat,min (p.length:Int) ((i:Int)+(N:Int) - 1)=(m:Int):=⟨(min (p.length:Int) ((i:Int)+(N:Int) - 1)).toNat,by omega⟩
      have hfar:∀k,m<k→k≤p.length→eB T D n p i k=false:=fun k h2 h3=>by
        cases hcv:eB T D n p i k with
        |false=>rfl
        |true=>
          have:=D7 hF (i:=i) (j:=k) (by omega) h3 hcv
          omega
      refine ab (.a 4 rfl<|.v (aL rfl ((show some (num T.nodes)=some (num (N:Int)) by rw[hNN]))) rfl<|.v (aR rfl) rfl<|.v (aR rfl) rfl<|.v (yY rfl rfl rfl (hm)) rfl<|.a 1 rfl<|.k [2,4,10,12,13,14] rfl)<|av<|eZ [2,4,10,12,13,14] rfl<|bw (fun r st=>∃(j:Nat) (dm:List (Int×PV)) (um:List ((Int×Int)×PV)),i≤j∧j≤p.length∧r=j∧(∀k,j<k→k≤p.length→eB T D n p i k=false)∧iz T D dm∧iT T D um∧st=⟨[(2,ax p),(4,.aV (bx T) 0),(10,.ptr 4 0),(12,.own 5),(13,num i),(14,num j)],uC T D p (qd T n p) (qH T p) dm um++[uR l]⟩) m ⟨m,dm,um,by omega,by omega,rfl,hfar,hdm,hum,rfl⟩ ?_
      clear hdm hum
      rintro r st ⟨j,dm,um,hij,hj,rfl,hno,hdm,hum,rfl⟩
      refine aj<|ab (.a 3 rfl<|.k [2,4,10,12,13,14,40] rfl)<|ah rfl (fun h2=>?_) (fun h2=>?_)
      · have hlt2:i<r:=by have:=tt h2;omega
        refine ak<|aj<|av<|aQ<|au 3 rfl<|cM rfl rfl (bS.mono (oA T D p n dm um (uR l) (Au l) hv hF.fits h12 hF.node ha hp i r (by omega) hj hdm hum) (fun _ σ' h=>?_))
        obtain⟨rfl,dm1,um1,hdm1,hum1,rfl⟩:=h
        refine aH [2,4,10,12,13,14,46] rfl ?_
        refine ah rfl (fun h3=>?_) (fun h3=>?_)
        · have hgj:=o4 T n p r hj
          have hl1:=oS T n p
          refine aQ<|au 6 rfl<|bz (aI (r) rfl) rfl<|bz (aL rfl ((aD _ r (by omega)).trans (by rw[hgj]))) rfl<|au 2 rfl<|ca (aY rfl (bE.rk.get rfl) rfl rfl rfl rfl (by unfold maxLen;omega)) rfl<|au 1 rfl ?_
          refine cE [0,1,2,3,4,6] (.c 2<|.c 4<|.c 10<|.c 12<|.c 14<|.nil) (.kept rfl (.row az.pure)<|.kept rfl (.row az.pure)<|.same (iz.pure hdm1) rfl<|.same (iT.pure hum1) rfl<|.kept rfl (.cells (az.c<|az.c<|az.c<|az.c<|az.c<|az.c<|az.c<|az.c<|az.c<|az.nil))<|.kept rfl (.dr rfl (qu _ ⟨1,b7 T n (p.take r)⟩))<|.nil) rfl rfl (aO ?_)
          refine ab (.a 2 rfl<|.k [2,4,10,12,13] rfl)<|bn ?_
          cases f with
          |zero=>omega
          |succ f=>
            first
              | (refine ⟨p.length - r, by omega, l ++ [⟨1, b7 T n (p.take r)⟩], r, f, dm1, um1, by omega, by omega, by simp; omega, rfl, ?_, hdm1, hum1, ?_⟩
                 · rw[hl,jJ hlt hlt2 hj h3 hno,List.append_assoc];rfl
                 · unfold uR;simp only[List.length_append,List.length_singleton];rfl)
              | (refine ⟨p.length - (i + 1), by omega, l ++ [⟨2, p.getD i 0⟩], i + 1, f, dm, um, by omega, by omega, by simp; omega, rfl, ?_, hdm, hum, ?_⟩
                 · rw[hl,kG hlt hno2,List.append_assoc];rfl
                 · unfold uR;simp only[List.length_append,List.length_singleton];rfl)
        · skip
          refine ak<|ay (.a 1 rfl<|.v (aR rfl) rfl<|.a 1 rfl<|.k [2,4,10,12,13,14] rfl) ?_
          refine⟨r - 1,by omega,r - 1,dm1,um1,by omega,by omega,rfl,fun k h4 h5=>?_,hdm1,hum1,?_⟩
          · by_cases e:k=r
            · rw[e];exact h3
            · exact hno k (by omega) h5
          · rw[show((r - 1:Nat):Int)=(r:Int) - 1 by omega]
      · have hno2:∀k,i<k→k≤p.length→eB T D n p i k=false:=fun k h3 h4=>hno k (by have:=ff h2;omega) h4
        refine bn<|aQ<|au 3 rfl<|bz (aI (i) rfl) rfl<|bz (aL rfl (aD _ i hlt)) rfl<|au 2 rfl<|ca (aY rfl (bE.rk.get rfl) rfl rfl rfl rfl (by unfold maxLen;omega)) rfl<|au 1 rfl ?_
        refine cE [0,1,2,3,4,6] (.c 2<|.c 4<|.c 10<|.c 12<|.c 13<|.nil) (.kept rfl (.row az.pure)<|.kept rfl (.row az.pure)<|.same (iz.pure hdm) rfl<|.same (iT.pure hum) rfl<|.kept rfl (.cells (az.c<|az.c<|az.c<|az.c<|az.c<|az.c<|az.c<|az.c<|az.c<|az.nil))<|.kept rfl (.dr rfl (qu _ ⟨2,p.getD i 0⟩))<|.nil) rfl rfl (aO ?_)
        refine ay (.a 1 rfl<|.v (aR rfl) rfl<|.a 1 rfl<|.k [2,4,10,12,13] rfl) ?_
        cases f with
        |zero=>omega
        |succ f=>
          first
            | (refine ⟨p.length - r, by omega, l ++ [⟨1, b7 T n (p.take r)⟩], r, f, dm1, um1, by omega, by omega, by simp; omega, rfl, ?_, hdm1, hum1, ?_⟩
               · rw[hl,jJ hlt hlt2 hj h3 hno,List.append_assoc];rfl
               · unfold uR;simp only[List.length_append,List.length_singleton];rfl)
            | (refine ⟨p.length - (i + 1), by omega, l ++ [⟨2, p.getD i 0⟩], i + 1, f, dm, um, by omega, by omega, by simp; omega, rfl, ?_, hdm, hum, ?_⟩
               · rw[hl,kG hlt hno2,List.append_assoc];rfl
               · unfold uR;simp only[List.length_append,List.length_singleton];rfl)
    · have hie:i=p.length:=by have:=ff h1;omega
      rw[nE f i (by omega),List.append_nil]at hl
      exact bn<|ab (.a 3 rfl<|.k [8,9] rfl)<|aq<|⟨_,_,aA.of rfl,aB.bG (an.cons (aB.ey rfl an.pure) (an.cons aB.pure an.nil)),by unfold qb;rw[if_pos rfl,hl];rfl⟩
end PW
end Go.Proofs.YtnegbdpggideiaaGreatDoor
namespace Go.Proofs.YtnegbdpggideiaaGreatDoor
namespace PW
open Go.RowKit cA Mem Net
section
variable {T:ai} {D:List Bool} {d:Nat}
theorem yd(hv:ao T=true)(hd:(d:Int)<T.nodes):∀(K m:Nat),(m:Int)<T.nodes→0≤dN T D d m→dN T D d m≤K→dz T D d m≠1→∃p q,SP T D d m p∧SP T D d m q∧p≠q
 |K,m,hmN,h0,hK,hc=>by
  by_cases hmd:m=d
  ·subst hmd;exact absurd (nc m) hc
  ·obtain⟨k,hk⟩:=lx (D:=D) hv hmN hd hmd h0
   have hmem:=fW hk ((aJ hv).cost k hk.gH).1
   cases hx:bL T D m d with
   |nil=>rw[hx]at hmem;cases hmem
   |cons a l=>
    obtain⟨b,rfl,hb⟩:=ec (T:=T) (D:=D) (n:=m) (d:=d) (a:=a) (by rw[hx];simp)
    obtain⟨x,hxh,hxN⟩:=dM hv hb.gH
    have gx:=hb.dN hxh
    have cx:=(aJ hv).cost b hb.gH
    cases l with
    |nil=>
     cases K with
     |zero=>omega
     |succ K=>
      have hcx:dz T D d x≠1:=fun h=>hc (wq hv hd hmN hmd hx hxh h)
      obtain⟨p,q,h1,h2,h3⟩:=yd hv hd K x hxN gx.1 (by omega) hcx
      exact⟨b::p,b::q,.cons hb hxh h1,.cons hb hxh h2,fun e=>h3 (List.cons.inj e).2⟩
    |cons a2 l=>
     obtain⟨b2,rfl,hb2⟩:=ec (T:=T) (D:=D) (n:=m) (d:=d) (a:=a2) (by rw[hx];simp)
     obtain⟨x2,hxh2,hxN2⟩:=dM hv hb2.gH
     have gx2:=hb2.dN hxh2
     refine⟨b::ct T D x d,b2::ct T D x2 d,.cons hb hxh (ee hv hd hxN gx.1),.cons hb2 hxh2 (ee hv hd hxN2 gx2.1),fun e=>?_⟩
     have he:=(List.cons.inj e).1
     have hlt:=oJ T D m d
     rw[hx]at hlt
     have:=(List.pairwise_cons.1 hlt).1 (b2:Int) (by simp)
     omega
theorem Ch.append{e n:Nat}{p q:List Int}(h:Ch T D e n p)(hq:Ch T D d e q)(ho:q=[]∨dc T e=false):Ch T D d n (p++q):=by
 induction h with
 |nil=>exact hq
 | @cons n a m p ha ht hu hm hov hp ih=>
  refine .cons ha ht hu hm ?_ ih
  rcases hov with h|h
  ·subst h
   have:=hp.to rfl
   subst this
   rcases ho with h|h
   ·subst h;exact .inl rfl
   ·exact .inr h
  ·exact .inr h
theorem SP.suffix(hv:ao T=true)(hd:(d:Int)<T.nodes){e:Nat}:∀ {n:Nat} {p q:List Int},SP T D d n (p++q)→dz T D d n=1→Ch T D e n p→SP T D d e q∧dz T D d e=1
 |n,[],q,h,hc,hch=>by
  have:=hch.to rfl
  subst this
  exact⟨h,hc⟩
 |n,a::p,q,h,hc,hch=>by
  cases h with
  | @cons _ b m _ h1 hm hp=>
   cases hch with
   | @cons _ b2 m2 _ _ _ _ hm2 _ hch2=>
    have:m2=m:=by rw[hm]at hm2;omega
    subst this
    obtain⟨b3,h3,_,h4⟩:=tQ hv hd (h1.node hv) h1.ne hc
    have e1:=fW h1 ((aJ hv).cost b h1.gH).1
    rw[h3]at e1
    simp only[List.mem_singleton]at e1
    have:b3=b:=by omega
    subst this
    exact SP.suffix hv hd hp (h4 m2 hm) hch2
theorem SP.pre(hv:ao T=true)(hd:(d:Int)<T.nodes){e n:Nat}{p q:List Int}(he:(e:Int)<T.nodes)(h:SP T D d n (p++q))(hc:dz T D d n=1)(hp:Ch T D e n p)(hq:Ch T D d e q)(ho:q=[]∨dc T e=false):SP T D e n p∧dz T D e n=1:=by
 have hcost:=(h.cost hv hd).1
 rw[fU]at hcost
 have hle:=hp.le hv he
 have hn:=hp.node hv he
 have hspe:SP T D e n p:=by
  refine hp.sp hv he ?_
  have hs:=ee hv he hn hle.1
  have hc2:=(hs.cost hv he).1
  have:=((hs.ch).append hq ho).le hv hd
  rw[fU]at this
  omega
 refine⟨hspe,Classical.byContradiction fun h1=>?_⟩
 obtain⟨p1,p2,g1,g2,g3⟩:=yd hv he (dN T D e n).toNat n hn hle.1 (by omega) h1
 have key:∀r,SP T D e n r→SP T D d n (r++q):=fun r hr=>by
  refine((hr.ch).append hq ho).sp hv hd ?_
  rw[fU,hcost,←(hr.cost hv he).1,(hspe.cost hv he).1]
 have:=(key p1 g1).unique hv hd (key p2 g2) hc
 exact g3 (List.append_cancel_right this)
theorem Ch.I1{e:Nat}:∀ {n:Nat} {p q:List Int},Ch T D d n (p++q)→p≠[]→Ch T D e n p→q=[]∨dc T e=false
 |n,[],q,_,h,_=>absurd rfl h
 |n,a::p,q,h,_,hch=>by
  cases h with
  | @cons _ b m _ _ _ _ hm hov hp=>
   cases hch with
   | @cons _ b2 m2 _ _ _ _ hm2 _ hch2=>
    have:m2=m:=by rw[hm]at hm2;omega
    subst this
    cases p with
    |nil=>
     have:=hch2.to rfl
     subst this
     exact hov
    |cons c p=>exact Ch.I1 hp (by simp) hch2
variable {n:Int} {p:List Int}
theorem kb(p:List Int){i j k:Nat}(h1:i≤j)(h2:j≤k):dX p i k=dX p i j++dX p j k:=by
 have e1:=gi p (show i≤k by omega)
 have e2:=gi p h2
 rw[gi p h1,List.append_assoc]at e2
 rw[e1]at e2
 exact List.append_cancel_left e2
theorem DH(h:mI T D n p){i j i' j':Nat}(h1:i≤i')(h2:i'<j')(h3:j'≤j)(hj:j≤p.length)(hc:eB T D n p i j=true):eB T D n p i' j'=true:=by
 have ha:=h.aK
 have hv:=h.valid
 obtain⟨u,hu,huN⟩:=cc hv h.node ha i (by omega)
 obtain⟨y,hy,hyN⟩:=cc hv h.node ha j hj
 obtain⟨u',hu',huN'⟩:=cc hv h.node ha i' (by omega)
 obtain⟨y',hy',hyN'⟩:=cc hv h.node ha j' (by omega)
 obtain⟨c1,c2⟩:=(lz h (by omega) hj hu hy).1 hc
 rw[kb p h1 (show i'≤j by omega)]at c1
 obtain⟨c3,c4⟩:=c1.suffix hv hyN c2 (h.ch h1 (by omega) hu hu')
 rw[kb p (show i'≤j' by omega) h3]at c3
 have hp:=h.ch (show i'≤j' by omega) (by omega) hu' hy'
 have hq:=h.ch h3 hj hy' hy
 have ho:=c3.ch.I1 (e:=y') (by
  intro e
  have:=kR p (show i'≤j' by omega) (by omega)
  rw[e]at this
  simp at this
  omega) hp
 exact(lz h (by omega) (by omega) hu' hy').2 (c3.pre hv hyN hyN' c4 hp hq ho)
end
end PW
end Go.Proofs.YtnegbdpggideiaaGreatDoor
namespace Go.Proofs.YtnegbdpggideiaaGreatDoor
namespace PW
open Go.RowKit cA Mem Net
section
variable {T:ai} {D:List Bool} {n:Int} {p:List Int}
theorem Bw{i k:Nat}{a:Int}(h:a∈dX p i k):a∈p:=List.mem_of_mem_drop (List.mem_of_mem_take h)
theorem lM(h:mI T D n p){i:Nat}(hi:i<p.length){x:Nat}(hx:b7 T n (p.take i)=(x:Int)):bq T (p.getD i 0).toNat=(x:Int):=by
 have ha:=h.aK
 obtain⟨y,hy,hyN⟩:=cc h.valid h.node ha (i+1) hi
 have hch:=h.ch (i:=i) (j:=i+1) (by omega) hi hx hy
 have hp:dX p i (i+1)=[p.getD i 0]:=by
  unfold dX
  rw[drop_cons p i hi,show i+1 - i=1 by omega]
  rfl
 rw[hp]at hch
 generalize p.getD i 0=a at hch
 cases hch with
 |cons _ h2 _ _ _ _=>exact h2
end
section
variable {T:ai} {D:List Bool} {n:Int} {p:List Int}
end
end PW
end Go.Proofs.YtnegbdpggideiaaGreatDoor
namespace Go.Proofs.YtnegbdpggideiaaGreatDoor
namespace PW
open Go.RowKit cA Mem Net
def dw(T:ai)(s:bW)(n:Int):Int×Int:=if gX T s=false then(0,1) else if bu T n=false then(0,2) else if s.kind=1 then(s.num,0) else if s.kind=2 then(if bq T s.num.toNat≠n then(0,4) else(aS T s.num.toNat,0)) else(0,7)
def IE(x:Int×Int):PV:=.tuple [num x.1,num x.2]
theorem xd(T:ai)(hv:ao T=true)(s:bW):Can Tryz.prog 163 [aP T,tB s] (· =flag (gX T s)):=by
 obtain⟨p1,hp1⟩:∃q,ao T=q:=⟨_,rfl⟩
 obtain⟨p2,hp2⟩:∃q,gX T s=q:=⟨_,rfl⟩
 have hll:=bN hv
 rw[hp2]
 have e1:p1=true:=by rw[←hp1];exact hv
 refine aF Tryz.func163 rfl Tryz.ntmps163 rfl<|ab (.a 3 rfl<|.k [2,3] rfl)<|bC 4 (.raw (.bool (p1&&p2))) [] rfl ?_ ?_
 ·refine .a 1 rfl<|.c rfl (hp1▸de T) rfl<|.a 1 rfl<|?_
  cases p1
  ·exact .a 5 rfl<|.k [4] rfl
  ·exact .a 2 rfl<|.c rfl (hp2▸uW T (by omega) s) rfl<|.a 2 rfl<|.k [4] rfl
 exact aq<|⟨_,_,aA.of rfl,aB.pure,by rw[e1];rfl⟩
theorem Be(T:ai)(hv:ao T=true)(s:bW)(n:Int):Can Tryz.prog 126 [aP T,tB s,num n] (· =IE (dw T s n)):=by
 have hll:=bN hv
 refine aF Tryz.func126 rfl Tryz.ntmps126 rfl<|ab (.a 4 rfl<|.k [2,3,4] rfl)<|aj<|ab (.a 2 rfl<|.c rfl (xd T hv s) rfl<|.a 1 rfl<|.k [2,3,4,11] rfl)<|ah rfl (fun h1=>?_) (fun h1=>?_)
 ·have hs:gX T s=false:=by simpa using h1
  exact ab (.a 2 rfl<|.k [6,7] rfl)<|aq<|⟨_,_,aA.of rfl,aB.pure,by unfold dw;rw[if_pos hs];rfl⟩
 ·have hs:¬gX T s=false:=by simpa using h1
  have hst:gX T s=true:=by simpa using h1
  refine ak<|aj<|ab (.a 2 rfl<|.c rfl (da T n) rfl<|.a 1 rfl<|.k [2,3,4,15] rfl)<|ah rfl (fun h2=>?_) (fun h2=>?_)
  ·have hn:bu T n=false:=by simpa using h2
   exact ab (.a 2 rfl<|.k [6,7] rfl)<|aq<|⟨_,_,aA.of rfl,aB.pure,by unfold dw;rw[if_neg hs,if_pos hn];rfl⟩
  ·have hn:¬bu T n=false:=by simpa using h2
   refine ak<|aj<|ab (.a 2 rfl<|.k [2,3,4,17] rfl)<|av<|ab (.a 2 rfl<|.k [2,3,4,17,18] rfl)<|ah rfl (fun h3=>?_) (fun h3=>?_)
   ·have hk:s.kind=1:=tt h3
    exact ab (.a 4 rfl<|.k [6,7] rfl)<|aq<|⟨_,_,aA.of rfl,aB.pure,by unfold dw;rw[if_neg hs,if_neg hn,if_pos hk];rfl⟩
   ·have hk:¬s.kind=1:=ff h3
    refine ab (.a 2 rfl<|.k [2,3,4,22] rfl)<|ah rfl (fun h4=>?_) (fun h4=>?_)
    ·have hk2:s.kind=2:=tt h4
     have hab:eR T s.num=true:=by unfold gX at hst;rw[if_neg hk,if_pos hk2]at hst;exact hst
     refine aj<|ab (.a 3 rfl<|.c rfl (lF T s.num hab) rfl<|.a 2 rfl<|.k [3,4,29] rfl)<|ah rfl (fun h5=>?_) (fun h5=>?_)
     ·have ht:bq T s.num.toNat≠n:=tt h5
      exact ab (.a 2 rfl<|.k [6,7] rfl)<|aq<|⟨_,_,aA.of rfl,aB.pure,by unfold dw;rw[if_neg hs,if_neg hn,if_neg hk,if_pos hk2,if_pos ht];rfl⟩
     ·have ht:¬bq T s.num.toNat≠n:=ff h5
      exact ak<|ab (.a 3 rfl<|.c rfl (sn T (by omega) s.num hab) rfl<|.a 2 rfl<|.k [6,7] rfl)<|aq<|⟨_,_,aA.of rfl,aB.pure,by unfold dw;rw[if_neg hs,if_neg hn,if_neg hk,if_pos hk2,if_neg ht];rfl⟩
    ·have hk2:¬s.kind=2:=ff h4
     exact ak<|ab (.a 2 rfl<|.k [6,7] rfl)<|aq<|⟨_,_,aA.of rfl,aB.pure,by unfold dw;rw[if_neg hs,if_neg hn,if_neg hk,if_neg hk2];rfl⟩
def dD(T:ai):Int→List bW→List Int×Int
 |_,[]=>([],0)
 |n,s::l=>if(dw T s n).2≠0 then([],(dw T s n).2) else((dw T s n).1::(dD T (dw T s n).1 l).1,(dD T (dw T s n).1 l).2)
def o9(T:ai)(l:List bW)(n:Int):Int:=if ao T=false then 1 else if bu T n=false then 2 else(dD T n l).2
theorem lO(l:List bW)(k:Nat)(h:k<l.length):∃s,l[k]? =some s∧l.drop k=s::l.drop (k+1):=⟨l[k],List.getElem?_eq_getElem h,List.drop_eq_getElem_cons h⟩
theorem Av(T:ai)(l:List bW)(n:Int)(hl:l.length≤1000):Can Tryz.prog 76 [aP T,cn l,num n] (· =ep (o9 T l n) (dD T n l).1):=by
 refine aF Tryz.func76 rfl Tryz.ntmps76 rfl<|ab (.a 3 rfl<|.k [1,2,3] rfl)<|aj<|ab (.a 1 rfl<|.c rfl (de T) rfl<|.a 1 rfl<|.k [1,2,3,15] rfl)<|ah rfl (fun h1=>?_) (fun h1=>?_)
 ·have hv:ao T=false:=by simpa using h1
  exact ab (.a 2 rfl<|.k [6,7] rfl)<|aq<|⟨_,_,aA.of rfl,aB.bG (an.cons aB.b9 (an.cons aB.pure an.nil)),by unfold ep o9;rw[if_pos hv];rfl⟩
 ·have hv:ao T=true:=by simpa using h1
  have hv':¬ao T=false:=by simpa using h1
  refine ak<|aj<|ab (.a 2 rfl<|.c rfl (da T n) rfl<|.a 1 rfl<|.k [1,2,3,19] rfl)<|ah rfl (fun h2=>?_) (fun h2=>?_)
  ·have hn:bu T n=false:=by simpa using h2
   exact ab (.a 2 rfl<|.k [6,7] rfl)<|aq<|⟨_,_,aA.of rfl,aB.bG (an.cons aB.b9 (an.cons aB.pure an.nil)),by unfold ep o9;rw[if_neg hv',if_pos hn];rfl⟩
  ·have hn:¬bu T n=false:=by simpa using h2
   have hE:o9 T l n=(dD T n l).2:=by unfold o9;rw[if_neg hv',if_neg hn]
   rw[hE]
   refine ak<|ab (.a 1 rfl<|.k [1,2,3,8] rfl)<|dW 8 3 1 rfl ?_
   refine aj<|ab (.a 3 rfl<|.k [2,3,8,20,21,22] rfl)<|av<|eZ [2,3,8,20,21,22] rfl<|bw (fun r st=>∃(k:Nat) (m:Int) (es:List Int),k≤l.length∧r=l.length - k∧es.length=k∧(dD T n l).2=(dD T m (l.drop k)).2∧((dD T n l).2=0→(dD T n l).1=es++(dD T m (l.drop k)).1)∧st=⟨[(2,num m),(3,.aV (bx T) 0),(8,.own 0),(20,cn l),(21,num l.length),(22,num k)],[ew es]⟩) l.length ⟨0,n,[],by omega,by omega,rfl,rfl,fun _=>rfl,rfl⟩ ?_
   rintro r st ⟨k,m,es,hk,rfl,hel,he1,he2,rfl⟩
   refine ab (.a 1 rfl<|.k [2,3,8,20,21,22,23] rfl)<|aj<|ah rfl (fun h3=>?_) (fun h3=>?_)
   ·have hlt:k<l.length:=by have:=tt h3;omega
    obtain⟨s,hs,hdr⟩:=lO l k hlt
    rw[hdr]at he1 he2
    simp only[dD]at he1 he2
    refine ak<|aj<|av<|aQ<|bz (aI ((k*2)) rfl) rfl<|bz (ed rfl (iC l k s hs) rfl) rfl<|au 2 rfl<|aH [2,3,8,10,20,21,22] rfl ?_
    refine eh (σ':=[ew es,some (.cells 103 (ja s))]) rfl ?_
    refine ab (.a 3 rfl<|.c rfl (Be T hv s m) rfl<|.a 5 rfl<|.k [3,8,11,12,20,21,22] rfl)<|aj<|ab (.a 2 rfl<|.k [3,8,11,12,20,21,22,34] rfl)<|ah rfl (fun h4=>?_) (fun h4=>?_)
    ·have hx:(dw T s m).2≠0:=tt h4
     rw[if_pos hx]at he1
     exact ab (.a 3 rfl<|.k [6,7] rfl)<|aq<|⟨_,_,aA.of rfl,aB.bG (an.cons aB.b9 (an.cons aB.pure an.nil)),by unfold ep;rw[he1,if_neg hx];rfl⟩
    ·have hx:¬(dw T s m).2≠0:=ff h4
     rw[if_neg hx]at he1 he2
     refine ak<|aQ<|au 3 rfl<|ca (aY rfl (bE.rk.get rfl) rfl rfl rfl rfl (by unfold maxLen;omega)) rfl<|au 1 rfl ?_
     refine cE [2] (.c 3<|.c 8<|.c 11<|.c 20<|.c 21<|.c 22<|.nil) (.kept rfl (.dr rfl (bT _ _))<|.nil) rfl rfl (aO ?_)
     refine ay (.a 2 rfl<|.k [2,3,8,20,21,22] rfl) ?_
     refine ay (.v (aR rfl) rfl<|.a 1 rfl<|.k [2,3,8,20,21,22] rfl) ?_
     refine⟨l.length - (k+1),by omega,k+1,(dw T s m).1,es++[(dw T s m).1],by omega,rfl,by simp[hel],he1,fun h=>by rw[he2 h,List.append_assoc];rfl,?_⟩
     unfold ew
     simp only[List.length_append,List.length_singleton]
     rfl
   ·have hke:k=l.length:=by have:=ff h3;omega
    subst hke
    rw[List.drop_length]at he1 he2
    simp only[dD,List.append_nil]at he1 he2
    have he3:=he2 he1
    exact bn<|ab (.a 3 rfl<|.k [6,7] rfl)<|aq<|⟨_,_,aA.of rfl,aB.bG (an.cons (aB.ey rfl an.pure) (an.cons aB.pure an.nil)),by unfold ep;rw[he1,if_pos rfl,he3];rfl⟩
end PW
end Go.Proofs.YtnegbdpggideiaaGreatDoor
