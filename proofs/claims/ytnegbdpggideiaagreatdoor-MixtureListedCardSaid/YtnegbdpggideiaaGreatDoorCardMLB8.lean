/- Texts of the proof, part 8. -/
import Derived.MapKept
import Derived.Scope
import Derived.Lib.SliceRun
import Derived.ChangeKeysEq
import Derived.Test.YtnegbdpggideiaaGreatDoorCardMLB7
set_option linter.unusedVariables false
set_option linter.unusedSimpArgs false
set_option maxRecDepth 10000
set_option maxHeartbeats 1000000
namespace Go.Proofs.YtnegbdpggideiaaGreatDoor
namespace PW
open Go.RowKit cE Mem
structure ir (P:Program) (kt:TypeId) {κ:Type} [DecidableEq κ] (enc:κ→Value):Prop where
 nh:∀e a w,(Instr.checkKey e 10000 kt (enc a)).run P w= .ok () w
 eql:∀a b w,(Op.equal kt (enc a) (enc b)).run P w= .ok (decide (a=b)) w
 now:∃d,P.underlying kt=some d∧((∀a b,Instr.sameNow d (enc a) (enc b)=some (decide (a=b)))∨∀a b,Instr.sameNow d (enc a) (enc b)=none)
 bits:∀a,Instr.sameBits 10000 (enc a) (enc a)=true
section
variable {P:Program} {kt:TypeId} {κ:Type} [DecidableEq κ] {enc:κ→Value}
def fP(k:κ):List κ→Nat→Option Nat
 | [],_=>none
 |a::l,i=>if k=a then some i else fP k l (i+1)
theorem jb{k:κ}:∀ {l:List κ} {i j:Nat},fP k l i=some j→i≤j∧l[j - i]? =some k
 | [],i,j,h=>by cases h
 |a::l,i,j,h=>by
  simp only[fP]at h
  split at h
  ·rename_i he;cases h;subst he;simp
  ·obtain⟨h1,h2⟩:=jb h
   refine⟨by omega,?_⟩
   rw[show j - i=(j - (i+1))+1 by omega]
   simpa using h2
theorem wF{d:TypeDesc}(hn:∀a b,Instr.sameNow d (enc a) (enc b)=some (decide (a=b)))(k:κ):∀(ks:List κ) (es:List MapEntry) (i:Nat),es.map (·.key)=ks.map enc→
  Instr.findNow d (enc k) es i=some ((fP k ks i).bind fun j=>(es[j - i]?).map fun e=>(j,e.val))
 | [],[],i,_=>rfl
 | [],_::_,i,h=>by simp at h
 |_::_,[],i,h=>by simp at h
 |a::ks,e::es,i,h=>by
  simp only[List.map_cons,List.cons.injEq]at h
  simp only[Instr.findNow,h.1,hn,fP]
  by_cases hk:k=a
  ·rw[decide_eq_true hk,if_pos hk];simp
  ·rw[decide_eq_false hk,if_neg hk]
   simp only[wF hn k ks es (i+1) h.2]
   congr 1
   cases hf:fP k ks (i+1)with
   |none=>rfl
   |some j=>
    obtain⟨h1,_⟩:=jb hf
    simp only[Option.bind_some]
    rw[show j - i=(j - (i+1))+1 by omega]
    simp
theorem vE(hk:ir P kt enc)(k:κ)(w:World):∀(ks:List κ) (es:List MapEntry) (i:Nat),es.map (·.key)=ks.map enc→
  (Instr.findAsking kt (enc k) es i).run P w= .ok ((fP k ks i).bind fun j=>(es[j - i]?).map fun e=>(j,e.val)) w
 | [],[],i,_=>rfl
 | [],_::_,i,h=>by simp at h
 |_::_,[],i,h=>by simp at h
 |a::ks,e::es,i,h=>by
  simp only[List.map_cons,List.cons.injEq]at h
  simp only[Instr.findAsking,Sem.run_bind,h.1,hk.eql,Result.andThen_ok,fP]
  by_cases hka:k=a
  ·rw[if_pos (by simpa using hka),if_pos hka];simp
  ·rw[if_neg (by simpa using hka),if_neg hka,vE hk k w ks es (i+1) h.2]
   congr 1
   cases hf:fP k ks (i+1)with
   |none=>rfl
   |some j=>
    obtain⟨h1,_⟩:=jb hf
    simp only[Option.bind_some]
    rw[show j - i=(j - (i+1))+1 by omega]
    simp
theorem w7(hk:ir P kt enc)(k:κ)(w:World)(ks:List κ)(es:List MapEntry)(h:es.map (·.key)=ks.map enc):(Instr.findKey kt (enc k) es).run P w= .ok ((fP k ks 0).bind fun j=>(es[j]?).map fun e=>(j,e.val)) w:=by
 obtain⟨d,hd,hn|hn⟩:=hk.now
 ·have:=wF hn k ks es 0 h
  simp only[Instr.findKey,Sem.run_bind,run_underlying hd,Result.andThen_ok,this]
  simp
 ·have ha:=vE hk k w ks es 0 h
  simp only[Instr.findKey,Sem.run_bind,run_underlying hd,Result.andThen_ok]
  cases es with
  |nil=>
   have:ks=[]:=by cases ks with|nil=>rfl|cons=>simp at h
   subst this
   rfl
  |cons e es=>
   cases ks with
   |nil=>simp at h
   |cons a ks=>
    simp only[List.map_cons,List.cons.injEq]at h
    have h0:Instr.findNow d (enc k) (e::es) 0=none:=by simp only[Instr.findNow,h.1,hn]
    rw[h0]
    simpa using ha
def fN(enc:κ→Value)(l:List (κ×PV)):List (Value×PV):=l.map fun x=>(enc x.1,x.2)
def de(k:κ):List (κ×PV)→Option PV
 | []=>none
 |(a,p)::l=>if k=a then some p else de k l
def ij(k:κ)(p:PV):List (κ×PV)→List (κ×PV)
 | []=>[(k,p)]
 |(a,q)::l=>if k=a then(a,p)::l else(a,q)::ij k p l
theorem xI{k:κ}{l:List (κ×PV)}:de k l=(fP k (l.map (·.1)) 0).bind fun j=>(l[j]?).map (·.2):=by
 suffices h:∀(i:Nat),de k l=(fP k (l.map (·.1)) i).bind fun j=>(l[j - i]?).map (·.2) by simpa using h 0
 induction l with
 |nil=>intro i;rfl
 |cons x l ih=>
  intro i
  obtain⟨a,p⟩:=x
  simp only[de,List.map_cons,fP]
  split
  ·simp
  ·rw[ih (i+1)]
   cases hf:fP k (l.map (·.1)) (i+1)with
   |none=>rfl
   |some j=>
    obtain⟨h1,_⟩:=jb hf
    simp only[Option.bind_some]
    rw[show j - i=(j - (i+1))+1 by omega]
    simp
theorem AY{k:κ}{p:PV}{l:List (κ×PV)}:ij k p l=match fP k (l.map (·.1)) 0 with|some j=>l.set j (k,p)|none=>l++[(k,p)]:=by
 suffices h:∀(i:Nat),ij k p l=match fP k (l.map (·.1)) i with|some j=>l.set (j - i) (k,p)|none=>l++[(k,p)] by simpa using h 0
 induction l with
 |nil=>intro i;rfl
 |cons x l ih=>
  intro i
  obtain⟨a,q⟩:=x
  simp only[ij,List.map_cons,fP]
  split
  ·rename_i he;subst he;simp
  ·rw[ih (i+1)]
   cases hf:fP k (l.map (·.1)) (i+1)with
   |none=>rfl
   |some j=>
    obtain⟨h1,_⟩:=jb hf
    simp only
    rw[show j - i=(j - (i+1))+1 by omega]
    simp
theorem qq{k:κ}{p:PV}{l:List (κ×PV)}{x:κ×PV}(h:x∈ij k p l):x=(k,p)∨x∈l:=by
 induction l with
 |nil=>simpa[ij]using h
 |cons y l ih=>
  obtain⟨a,q⟩:=y
  simp only[ij]at h
  split at h
  ·rename_i he
   subst he
   cases h with
   |head=>exact .inl rfl
   |tail _ h=>exact .inr (List.mem_cons_of_mem _ h)
  ·cases h with
   |head=>exact .inr (List.mem_cons_self ..)
   |tail _ h=>
    rcases ih h with h|h
    ·exact .inl h
    ·exact .inr (List.mem_cons_of_mem _ h)
theorem iP{k:κ}{p:PV}{l:List (κ×PV)}(h:de k l=some p):(k,p)∈l:=by
 induction l with
 |nil=>cases h
 |cons y l ih=>
  obtain⟨a,q⟩:=y
  simp only[de]at h
  split at h
  ·rename_i he;subst he;cases h;exact List.mem_cons_self ..
  ·exact List.mem_cons_of_mem _ (ih h)
def wY(p:PV)(v:Value):Prop:=∀E w u,cC E w u p→u=v
theorem oR(v:Value):wY (.raw v) v:=fun _ _ _ h=>by cases h;rfl
theorem pD(a b:Value):wY (.agg [.raw a,.raw b]) (.agg #[a,b]):=fun E w u h=>by
 cases h with
 |agg cs _ hl hr=>
  obtain⟨l⟩:=cs
  match l,hl,hr with
  | [x,y],_,hr=>
   have h0:=hr 0 x _ rfl rfl
   have h1:=hr 1 y _ rfl rfl
   cases h0;cases h1;rfl
  | [],hl,_=>simp at hl
  | [_],hl,_=>simp at hl
  |_::_::_::_,hl,_=>simp at hl
def ts(P:Program)(mt:TypeId):Option (TypeId×TypeId):=match P.underlying mt with|some (.map k e)=>some (k,e)|_=>none
theorem l7{mt kt et:TypeId}(h:ts P mt=some (kt,et)):P.underlying mt=some (.map kt et):=by
 unfold ts at h
 split at h
 ·rename_i hu;cases h;exact hu
 ·cases h
def Hb(P:Program)(t:TypeId):Option Value:=match P.info? t with|some i=>i.zero|none=>none
theorem DW{et:TypeId}{z:Value}(h:Hb P et=some z)(w:World):(zeroValue et).run P w= .ok z w:=by
 unfold Hb at h
 split at h
 ·rename_i i hi;simp[zeroValue,typeInfo,hi,h]
 ·cases h
variable {σ:cf} {t:bZ} {o:Oper}
theorem sH(hK:ir P kt enc){F:Nat→Prop}{base:Nat}{E:Env}{w:World}{i mt et:Nat}{l:List (κ×PV)}{v z:Value}(hS:Sat F base σ E w)(hm:ts P mt=some (kt,et))(hz:Hb P et=some z)(hv:cC E w v (.own i))(hi:σ[i]? =some (some (.mp (fN enc l))))(k:κ)(ok:Bool):
  ∃u,(Instr.lookup mt v (enc k) ok).run P w= .ok (if ok then .tuple #[u,.bool (de k l).isSome] else u) w∧cC E w u ((de k l).getD (.raw z)):=by
 cases hv with
 |own _ hiL _ hat _=>
  obtain⟨r,es,ck,hr,hb,hheap,hkey,hval⟩:=hS.blk i _ hi
  rw[hat]at hr
  subst hr
  have hkey':es.toList.map (·.key)=(l.map (·.1)).map enc:=by rw[hkey];simp[fN]
  have hf:=w7 hK k w (l.map (·.1)) es.toList hkey'
  have hvl:(fN enc l).map (·.2)=l.map (·.2):=by simp[fN]
  rw[hvl]at hval
  have hlk:=xI (k:=k) (l:=l)
  cases hfi:fP k (l.map (·.1)) 0 with
  |none=>
   rw[hfi]at hf hlk
   simp only[Option.bind_none]at hf hlk
   refine⟨z,?_,by rw[hlk];exact .raw z⟩
   simp only[Instr.lookup,Sem.run_bind,run_underlying (l7 hm),Result.andThen_ok,MapKept.run_getObj_map hheap,Sem.run_pure,hK.nh,hf,DW hz,hlk]
   rfl
  |some j=>
   obtain⟨_,hj⟩:=jb hfi
   simp only[Nat.sub_zero]at hj
   have hjl:j<l.length:=by have:=(List.getElem?_eq_some_iff.1 hj).1;simpa using this
   have hje:j<es.toList.length:=by have:=congrArg List.length hkey';simp at this;rw[Array.length_toList];omega
   rw[hfi]at hf hlk
   simp only[Option.bind_some,List.getElem?_eq_getElem hje,List.getElem?_eq_getElem hjl,Option.map_some]at hf hlk
   refine⟨es.toList[j].val,?_,?_⟩
   ·simp only[Instr.lookup,Sem.run_bind,run_underlying (l7 hm),Result.andThen_ok,MapKept.run_getObj_map hheap,Sem.run_pure,hK.nh,hf,hlk]
    rfl
   ·rw[hlk]
    exact hval.2 j _ _ (by rw[List.getElem?_map,List.getElem?_eq_getElem hje];rfl) (by simp[hjl])
theorem tK(hK:ir P kt enc){i mt et:Nat}{x ix:Operand}{l:List (κ×PV)}{z:Value}{k:κ}{pk r:PV}(ho:o.op= .lookup mt x ix false)(hm:ts P mt=some (kt,et))(hz:Hb P et=some z)(hx:aD t x=some (.own i))(hi:σ[i]? =some (some (.mp (fN enc l))))(hp:aD t ix=some pk)(hk:wY pk (enc k))(hr:(de k l).getD (.raw z)=r):bh P σ t o r:=by
 intro F base E ρ w hρ hS hT
 have h1:=ax hρ hT hx
 have h2:=hk _ _ _ (ax hρ hT hp)
 obtain⟨u,hu,hR⟩:=sH hK hS hm hz h1 hi k false
 simp only[execOp,ho,h2,Sem.run_bind,hu,Result.andThen_ok,Sem.run_pure,Bool.false_eq_true,if_false]
 exact bg (by rw[←hr];exact hR)
theorem ze(hK:ir P kt enc){i mt et:Nat}{x ix:Operand}{l:List (κ×PV)}{z:Value}{k:κ}{pk r:PV}{q:Bool}(ho:o.op= .lookup mt x ix true)(hm:ts P mt=some (kt,et))(hz:Hb P et=some z)(hx:aD t x=some (.own i))(hi:σ[i]? =some (some (.mp (fN enc l))))(hp:aD t ix=some pk)(hk:wY pk (enc k))(hr:(de k l).getD (.raw z)=r)(hq:(de k l).isSome=q):bh P σ t o (.tuple [r,.raw (.bool q)]):=by
 intro F base E ρ w hρ hS hT
 have h1:=ax hρ hT hx
 have h2:=hk _ _ _ (ax hρ hT hp)
 obtain⟨u,hu,hR⟩:=sH hK hS hm hz h1 hi k true
 simp only[execOp,ho,h2,Sem.run_bind,hu,Result.andThen_ok,Sem.run_pure,if_true]
 refine bg (.tuple #[u,.bool (de k l).isSome] _ rfl fun i x p k1 k2=>?_)
 match i,k1,k2 with
 |0,k1,k2=>cases k1;cases k2;rw[←hr];exact hR
 |1,k1,k2=>cases k1;cases k2;rw[hq];exact .raw _
 |_+2,_,k2=>simp at k2
theorem nB{α:Type}(a:Array α)(i j:Nat)(v:α):(a.setIfInBounds i v)[j]? =if i=j∧i<a.size then some v else a[j]? :=by
 rw[Array.getElem?_setIfInBounds]
 by_cases h:i=j
 ·subst h
  by_cases h2:i<a.size
  ·simp[h2]
  ·simp[h2]
 ·simp[h]
theorem nj(hK:ir P kt enc){i mt et:Nat}{x ix y:Operand}{l:List (κ×PV)}{k:κ}{pk p:PV}(ho:o.op= .mapUpdate mt x ix y)(hm:ts P mt=some (kt,et))(hx:aD t x=some (.own i))(hi:σ[i]? =some (some (.mp (fN enc l))))(hp:aD t ix=some pk)(hk:wY pk (enc k))(hy:aD t y=some p):
  cI P σ t o (.raw undef) (σ.set i (some (.mp (fN enc (ij k p l))))):=by
 intro F base E ρ w hρ hS hT
 have h1:=ax hρ hT hx
 have h2:=hk _ _ _ (ax hρ hT hp)
 have h3:=ax hρ hT hy
 generalize hz:ρ x=v at h1
 cases h1 with
 |own _ hiL _ hat _=>
  obtain⟨r,es,ck,hr,hb,hheap,hkey,hval⟩:=hS.blk i _ hi
  have hbk:bp (E.at_ i)=some r:=by rw[hr];rfl
  have hsz:r<w.heap.size:=(Array.getElem?_eq_some_iff.1 hheap).1
  rw[hat]at hr
  subst hr
  have hkey':es.toList.map (·.key)=(l.map (·.1)).map enc:=by rw[hkey];simp[fN]
  have hf:=w7 hK k w (l.map (·.1)) es.toList hkey'
  have hvl:(fN enc l).map (·.2)=l.map (·.2):=by simp[fN]
  rw[hvl]at hval
  have fin:∀(es':Array MapEntry) (ck':Nat),(Instr.mapUpdate mt (.map (some r)) (enc k) (ρ y)).run P w= .ok () {w with heap:=w.heap.setIfInBounds r (.map es' ck')}→
    es'.toList.map (·.key)=(ij k p l).map (fun a=>enc a.1)→aW E w (es'.toList.map (·.val)) ((ij k p l).map (·.2))→
    ∃v w' E',((execOp ρ o).run P w= .ok (.value v) w'∨(v=undef∧(execOp ρ o).run P w= .ok .skip w'))∧Sat F base (σ.set i (some (.mp (fN enc (ij k p l))))) E' w'∧cP E w E' w'∧Below base w w'∧cC E' w' v (.raw undef):=fun es' ck' hrun hk' hv'=>by
   have oth:∀j,j<w.heap.size→j≠r→({w with heap:=w.heap.setIfInBounds r (.map es' ck')}:World).heap[j]? =w.heap[j]? :=fun j _ hj=>by
    show(w.heap.setIfInBounds r (.map es' ck'))[j]? =_
    rw[nB,if_neg (by rintro⟨rfl,_⟩;exact hj rfl)]
   have hs':w.heap.size≤({w with heap:=w.heap.setIfInBounds r (.map es' ck')}:World).heap.size:=by simp
   have hrM:E.M r:=(hS.mm r).2 (.inr ⟨i,_,hi,hbk⟩)
   have g:cP E w E {w with heap:=w.heap.setIfInBounds r (.map es' ck')}:=⟨Nat.le_refl _,fun _ _=>rfl,fun _ _ h=>h,hs',fun j hj hM=>oth j hj (fun e=>hM (by rw[e];exact hrM))⟩
   have hn:=hS.Ep (bi':=.mp (fN enc (ij k p l))) hi hbk hs' oth ⟨r,es',ck',hat,hb,by
     show(w.heap.setIfInBounds r (.map es' ck'))[r]? =_
     rw[nB,if_pos ⟨rfl,hsz⟩],by rw[hk'];simp[fN],by
     have:(fN enc (ij k p l)).map (·.2)=(ij k p l).map (·.2):=by simp[fN]
     rw[this];exact hv'.goes g⟩
   refine⟨undef,_,E,.inr ⟨rfl,?_⟩,hn.1,hn.2,⟨rfl,rfl,rfl,hs',fun j hj=>oth j (Nat.lt_of_lt_of_le hj hS.bl) (by omega)⟩,.raw _⟩
   simp only[execOp,ho,hz,h2,Sem.run_bind,hrun,Result.andThen_ok,Sem.run_pure]
  have hsm:=AY (k:=k) (p:=p) (l:=l)
  cases hfi:fP k (l.map (·.1)) 0 with
  |none=>
   rw[hfi]at hf hsm
   simp only[Option.bind_none]at hf hsm
   refine fin (es.push {key:=enc k,val:=ρ y,born:=ck}) (ck+1) ?_ ?_ ?_
   ·simp only[Instr.mapUpdate,Sem.run_bind,run_underlying (l7 hm),Result.andThen_ok,MapKept.run_getObj_map hheap,hK.nh,hf,MapKept.run_setObj_map _ hheap]
   ·rw[hsm];simp[hkey',List.map_map,Function.comp_def]
   ·rw[hsm]
    simp only[Array.toList_push,List.map_append,List.map_cons,List.map_nil]
    exact hval.append (aW.cons h3 (aW.nil _ _))
  |some j=>
   obtain⟨_,hj⟩:=jb hfi
   simp only[Nat.sub_zero]at hj
   have hjl:j<l.length:=by have:=(List.getElem?_eq_some_iff.1 hj).1;simpa using this
   have hje:j<es.toList.length:=by have:=congrArg List.length hkey';simp at this;rw[Array.length_toList];omega
   have hje':j<es.size:=by simpa using hje
   have hlj:l[j].1=k:=by have:=List.getElem?_eq_some_iff.1 hj;obtain⟨h,e⟩:=this;simpa using e
   have hkj:es[j].key=enc k:=by
    have:=congrArg (·[j]?) hkey'
    simp only[List.getElem?_map,List.getElem?_eq_getElem hje,List.getElem?_eq_getElem hjl,Option.map_some,Option.some.injEq,hlj]at this
    simpa using this
   rw[hfi]at hf hsm
   simp only[Option.bind_some,List.getElem?_eq_getElem hje,Option.map_some]at hf hsm
   refine fin (es.modify j fun e=> {e with key:=enc k,val:=ρ y}) ck ?_ ?_ ?_
   ·have hks:(Instr.keyThatStays ((Option.map (fun x=>x.key) es[j]?).getD (enc k)) (enc k)).run P w= .ok (enc k) w:=by
     rw[Array.getElem?_eq_getElem hje',Option.map_some,Option.getD_some,hkj]
     simp only[Instr.keyThatStays,hK.bits,if_true,Sem.run_pure]
    simp only[Instr.mapUpdate,Sem.run_bind,run_underlying (l7 hm),Result.andThen_ok,MapKept.run_getObj_map hheap,hK.nh,hf,hks,MapKept.run_setObj_map _ hheap]
   ·rw[hsm]
    refine List.ext_getElem? fun n=>?_
    simp only[List.getElem?_map,Array.getElem?_toList,Array.getElem?_modify,List.getElem?_set]
    by_cases hn:j=n
    ·subst hn
     simp[hje',hjl]
    ·have:=congrArg (·[n]?) hkey'
     simp only[List.getElem?_map,Array.getElem?_toList]at this
     simp only[if_neg hn,this,Option.map_map,Function.comp_def]
   ·rw[hsm]
    have hR:=hval.set j h3
    have e1:(es.modify j fun e=> {e with key:=enc k,val:=ρ y}).toList.map (·.val)=(es.toList.map (·.val)).set j (ρ y):=by
     refine List.ext_getElem? fun n=>?_
     simp only[List.getElem?_map,Array.getElem?_toList,Array.getElem?_modify,List.getElem?_set]
     by_cases hn:j=n
     ·subst hn
      simp[hje']
     ·simp only[if_neg hn]
    have e2:(l.set j (k,p)).map (·.2)=(l.map (·.2)).set j p:=by rw[List.map_set]
    rw[e1,e2]
    exact hR
omit [DecidableEq κ] in
theorem ot{mt:TypeId}(enc:κ→Value)(ho:o.op= .makeMap mt none):cI P σ t o (.own σ.length) (σ++[some (.mp (fN enc ([]:List (κ×PV))))]):=by
 intro F base E ρ w hρ hS hT
 have hr:(execOp ρ o).run P w= .ok (.value (.map (some w.heap.size))) (w.alloc (.map #[] 0)):=by
  simp[execOp,ho,Instr.makeMap]
 have hE:Ext w (w.alloc (.map #[] 0)):=(Ext.refl w).alloc _
 have hp:=hS.push hE (v:=.map (some w.heap.size)) (blk:=.mp (fN enc ([]:List (κ×PV)))) (fun b h=>by simp[bp]at h;omega) ⟨w.heap.size,#[],0,rfl,hS.bl,heap_alloc_new _ _,rfl,aW.nil _ _⟩
 exact⟨_,_,_,.inl hr,hp.1,hp.2,Below.iy hE hS.bl,.own σ.length (by simp[Env.push,hS.len]) _ (by simp[Env.push,hS.len]) rfl⟩
end
section
variable {P:Program} {σ:cf} {t:bZ} {o:Oper} {N L:Nat}
def Jm(Q:Exit→St→Prop):Exit→St→Prop
 | .goto _,_=>False
 |e,s=>Q e s
theorem zH{c:Code}{st:St}{Q:Exit→St→Prop}(h:W P N L c st (Jm Q)):W P N L (.scope c) st Q:=fun F base E₀ w₀ E a w hc hs=>by
 refine wp_scope_straight (wp_mono (h F base E₀ w₀ E a w hc hs) ?_)
 rintro e a' w' ⟨s,E',h1,h2⟩
 cases e with
 |goto l=>exact h1.elim
 |normal=>exact⟨s,E',h1,h2⟩
 |exit _=>exact⟨s,E',h1,h2⟩
 |ret=>exact⟨s,E',h1,h2⟩
 |panic _=>exact⟨s,E',h1,h2⟩
 |outgrown=>exact⟨s,E',h1,h2⟩
theorem zq{l:Nat}{st:St}{Q:Exit→St→Prop}(h:Q .normal st):W P N L (.label l) st Q:=fun _ _ _ _ E _ _ hc hs=>wp_label ⟨st,E,h,hs,hc.g,hc.b⟩
theorem si{x:Operand}{k:Nat}{xs:List PV}{p:PV}(ho:o.op= .extract x k)(hx:aD t x=some (.tuple xs))(hp:xs[k]? =some p):ld P t o p:=fun E ρ w hρ hT=>by
 have h1:=ax hρ hT hx
 generalize hz:ρ x=z at h1
 cases h1 with
 |tuple cs _ hl hr=>
  obtain⟨c,hcc,hcr⟩:=aW.get (E:=E) (w:=w) (cs:=cs.toList) ⟨by simpa using hl,fun i x u h1 h2=>hr i x u (by simpa using h1) h2⟩ hp
  have hcc':cs[k]? =some c:=by simpa using hcc
  exact⟨c,fun w'=>by simp only[execOp,ho,hz,Instr.extract,hcc',Sem.run_bind,Sem.run_pure,Result.andThen_ok],hcr⟩
theorem zN{x y:Operand}{ats:Array TypeId}{a b c:Int}(ho:o.op= .call {callee:=.builtin .min,args:= #[x,y],argTypes:=ats})(hx:aD t x=some (.raw (.int .i64 a)))(hy:aD t y=some (.raw (.int .i64 b)))(hc:min a b=c):bh P σ t o (.raw (.int .i64 c)):=by
 intro F base E ρ w hρ _ hT
 have h1:=ax hρ hT hx
 have h2:=ax hρ hT hy
 generalize hz:ρ x=z at h1
 generalize hz':ρ y=z' at h2
 cases h1
 cases h2
 have he:(if b<a then b else a)=c:=by rw[←hc];by_cases h:b<a<;>simp[h]<;>omega
 simp[execOp,ho,resolve,invoke,builtin,Builtin.min_,Builtin.min2,hz,hz',he]
 exact bg (.raw _)
def wz(P:Program)(ty:TypeId):Bool:=match P.underlying ty with|some (.slice _)=>true|_=>false
theorem oC{ty:TypeId}(h:wz P ty=true):∃e,P.underlying ty=some (.slice e):=by
 unfold wz at h
 split at h
 ·rename_i e hu;exact⟨e,hu⟩
 ·cases h
theorem Fx{x y:Operand}{ty tz:TypeId}(ho:o.op= .binOp .eql ty x y tz)(hk:wz P ty=true)(hx:aD t x=some (.raw (.slice none 0 0)))(hy:aD t y=some (.raw (.slice none 0 0))):bh P σ t o (.raw (.bool true)):=by
 obtain⟨e,hu⟩:=oC hk
 refine u6 ho hx hy fun w=>?_
 have:=Lib.run_eql_slice_nil w ty e none 0 0 0 0 hu
 have hg:∀a n c b m d,(eqGuard .eql ty x y (.slice a n c) (.slice b m d)).run P w= .ok () w:=fun _ _ _ _ _ _=>rfl
 simp only[Sem.run_bind,hg,Result.andThen_ok,this]
 rfl
theorem nu{x y:Operand}{ty tz:TypeId}{n:Nat}{xs:List PV}(ho:o.op= .binOp .eql ty x y tz)(hk:wz P ty=true)(hx:aD t x=some (.slice n xs))(hy:aD t y=some (.raw (.slice none 0 0)))(hn:0<n):bh P σ t o (.raw (.bool false)):=by
 obtain⟨e,hu⟩:=oC hk
 intro F base E ρ w hρ _ hT
 have h1:=ax hρ hT hx
 have h2:=ax hρ hT hy
 generalize hz:ρ x=z at h1
 generalize hz':ρ y=z' at h2
 cases h2
 have hv:∃a c,z= .slice (some a) n c:=by
  cases h1 with
  |b7=>omega
  |empty=>omega
  |slice b off _ c cs _ h0=>exact⟨_,_,rfl⟩
 obtain⟨a,c,rfl⟩:=hv
 have:=Lib.run_eql_slice_nil w ty e (some a) n c 0 0 hu
 have hg:∀a n c b m d,(eqGuard .eql ty x y (.slice a n c) (.slice b m d)).run P w= .ok () w:=fun _ _ _ _ _ _=>rfl
 simp only[execOp,ho,hz,hz',Sem.run_bind,Sem.run_pure,Result.andThen_ok,hg,this]
 exact bg (.raw _)
end
end PW
end Go.Proofs.YtnegbdpggideiaaGreatDoor
namespace Go.Proofs.YtnegbdpggideiaaGreatDoor
namespace PW
open Go.RowKit cE Mem Net
theorem bU.Co{P:Program}{f:FuncId}{ps:List PV}{σ:cf}{R:PV→Prop}(h:Can P f ps R)[aJ ps]:bU P f ps σ (fun r σ'=>R r∧σ'=σ):=fun F base E w vs hS hR=>by
 refine(h E.M w vs (fun b hb=>hS.lt hb) hS.gl (hR.pure (fun _ h=>h))).mono ?_
 rintro e w' ⟨v,rfl,hE,r,hr,hv⟩
 exact⟨v,r,σ,E,rfl,⟨hr,rfl⟩,hS.ext hE,.ext hE,Below.iy hE hS.bl,hv.back⟩
section
variable {T:ai} {D:List Bool} {d:Nat}
structure yT (T:ai) (D:List Bool) (d:Nat) (O:List Int):Prop where
 nodup:O.Nodup
 mem:∀x,x∈O↔∃k:Nat,x=(k:Int)∧(k:Int)<T.nodes∧0≤dN T D d k
 pair:O.Pairwise fun x y=>dN T D d y.toNat≤dN T D d x.toNat
theorem yT.of(hv:ao T=true)(hd:(d:Int)<T.nodes){O:List Int}(h1:O.Perm (oE (br T D d false) (br T D d false).length))(h2:O.Pairwise (sv (br T D d false))):yT T D d O:=by
 obtain⟨hb1,_⟩:=di (D:=D) hv (dir:=false) hd
 refine⟨h1.nodup_iff.2 (xr _ _),fun x=>?_,h2.imp fun {x y} h=>?_⟩
 ·rw[h1.mem_iff,wX]
  constructor
  ·rintro⟨k,e,h3,h4⟩;exact⟨k,e,by omega,h4⟩
  ·rintro⟨k,e,h3,h4⟩;exact⟨k,e,by omega,h4⟩
 ·unfold sv at h
  show(br T D d false).getD _ 0≤(br T D d false).getD _ 0
  omega
noncomputable def kA(T:ai)(D:List Bool)(d:Nat)(c:Int)(l:List Int):Int:=l.foldl (fun c a=>min 2 (c+dJ T D d (aS T a.toNat).toNat)) c
structure oF (T:ai) (D:List Bool) (d:Nat) (R cs:List Int) (i:Nat):Prop where
 len:(cs.length:Int)=T.nodes
 val:∀m:Nat,(m:Int)<T.nodes→cs.getD m 0=if m=d then 1 else if(m:Int)∈R.take i then dJ T D d m else 0
theorem oF.start(hd:(d:Int)<T.nodes)(R:List Int):oF T D d R ((List.replicate T.nodes.toNat 0).set d 1) 0:=by
 refine⟨by simp;omega,fun m hm=>?_⟩
 rw[List.getD_eq_getElem?_getD,List.getElem?_set]
 by_cases h:d=m
 ·subst h;rw[if_pos rfl,if_pos (by simp;omega),if_pos rfl];rfl
 ·rw[if_neg h,if_neg (fun e=>h e.symm),List.getElem?_replicate,if_pos (by omega)];rfl
theorem oF.next(hv:ao T=true)(hd:(d:Int)<T.nodes){O cs:List Int}{i m a y:Nat}(hO:yT T D d O)(h:oF T D d O.reverse cs i)(hi:i<O.reverse.length)(hm:O.reverse.getD i 0=(m:Int))(ha:(a:Int)∈bx T D m d)(hy:aS T a=(y:Int)):cs.getD y 0=dJ T D d y∧y≠m∧(y:Int)<T.nodes:=by
 obtain⟨b,hb,hn⟩:=cO ha
 have hba:b=a:=by omega
 subst hba
 obtain⟨y',hy',hyN⟩:=dx hv hn.eM
 have:y'=y:=by omega
 subst this
 have hdy:=hn.dN hy
 have hc:=(aK hv).cost b hn.eM
 refine⟨?_,fun e=>by subst e;omega,hyN⟩
 rw[h.val y' hyN]
 by_cases hyd:y'=d
 ·subst hyd;rw[if_pos rfl,nR]
 ·rw[if_neg hyd,if_pos ?_]
  have hyO:(y':Int)∈O.reverse:=List.mem_reverse.2 ((hO.mem _).2 ⟨y',rfl,hyN,hdy.1⟩)
  have hs:O.reverse=O.reverse.take i++(m:Int)::O.reverse.drop (i+1):=by rw[←hm,←drop_cons _ _ hi,List.take_append_drop]
  have hp:O.reverse.Pairwise fun x y=>dN T D d x.toNat≤dN T D d y.toNat:=List.pairwise_reverse.2 hO.pair
  rw[hs]at hp hyO
  rcases List.mem_append.1 hyO with h1|h1
  ·exact h1
  ·exfalso
   have hp2:=(List.pairwise_append.1 hp).2.1
   rcases List.mem_cons.1 h1 with h2|h2
   ·have:y'=m:=by omega
    subst this;omega
   ·have:=(List.pairwise_cons.1 hp2).1 _ h2
    simp only[Int.toNat_natCast]at this
    omega
theorem oF.fresh{O cs:List Int}{i m:Nat}(hO:yT T D d O)(h:oF T D d O.reverse cs i)(hi:i<O.reverse.length)(hm:O.reverse.getD i 0=(m:Int)):(m:Int)<T.nodes∧0≤dN T D d m∧cs.getD m 0=if m=d then 1 else 0:=by
 have hmO:(m:Int)∈O.reverse:=by rw[←hm];exact ca hi
 obtain⟨k,hk,hkN,hk0⟩:=(hO.mem _).1 (List.mem_reverse.1 hmO)
 have:k=m:=by omega
 subst this
 refine⟨hkN,hk0,?_⟩
 rw[h.val k hkN]
 have hs:O.reverse=O.reverse.take i++(k:Int)::O.reverse.drop (i+1):=by rw[←hm,←drop_cons _ _ hi,List.take_append_drop]
 have hn:O.reverse.Nodup:=List.pairwise_reverse.2 (hO.nodup.imp fun h=>fun e=>h e.symm)
 rw[hs]at hn
 have hnot:¬(k:Int)∈O.reverse.take i:=fun h1=>(List.pairwise_append.1 hn).2.2 _ h1 (k:Int) (by simp) rfl
 rw[if_neg hnot]
theorem oF.step(hv:ao T=true)(hd:(d:Int)<T.nodes){O cs:List Int}{i m:Nat}(hO:yT T D d O)(h:oF T D d O.reverse cs i)(hi:i<O.reverse.length)(hm:O.reverse.getD i 0=(m:Int)):oF T D d O.reverse (cs.set m (kA T D d (cs.getD m 0) (bx T D m d))) (i+1):=by
 obtain⟨hmN,_,hf⟩:=h.fresh hO hi hm
 have hml:m<cs.length:=by have:=h.len;omega
 refine⟨by simpa using h.len,fun x hx=>?_⟩
 rw[List.getD_eq_getElem?_getD,List.getElem?_set,dF _ _ 0 hi,hm]
 by_cases hxm:m=x
 ·subst hxm
  rw[if_pos rfl,if_pos hml,Option.getD_some,hf]
  by_cases hmd:m=d
  ·subst hmd;rw[if_pos rfl,if_pos rfl,iM];rfl
  ·rw[if_neg hmd,if_neg hmd,if_pos (by simp),qp hv hd hmN hmd];rfl
 ·rw[if_neg hxm,←List.getD_eq_getElem?_getD,h.val x hx]
  by_cases hxd:x=d
  ·rw[if_pos hxd,if_pos hxd]
  ·rw[if_neg hxd,if_neg hxd]
   have:(x:Int)∈O.reverse.take i++[(m:Int)]↔(x:Int)∈O.reverse.take i:=by
    simp only[List.mem_append,List.mem_singleton]
    exact⟨fun h=>h.elim id (fun e=>absurd e (by omega)),.inl⟩
   by_cases h1:(x:Int)∈O.reverse.take i
   ·rw[if_pos h1,if_pos (this.2 h1)]
   ·rw[if_neg h1,if_neg (fun h2=>h1 (this.1 h2))]
theorem oF.done(hv:ao T=true)(hd:(d:Int)<T.nodes){O cs:List Int}{n:Nat}(hO:yT T D d O)(h:oF T D d O.reverse cs O.reverse.length)(hn:(n:Int)<T.nodes):cs.getD n 0=dJ T D d n:=by
 rw[h.val n hn,List.take_length]
 by_cases hnd:n=d
 ·subst hnd;rw[if_pos rfl,nR]
 ·rw[if_neg hnd]
  by_cases h1:(n:Int)∈O.reverse
  ·rw[if_pos h1]
  ·rw[if_neg h1]
   refine(zd hv hd hn (Int.not_le.1 fun h0=>h1 (List.mem_reverse.2 ((hO.mem _).2 ⟨n,rfl,hn,h0⟩)))).symm
theorem xZ(c:Int):kA T D d c []=c:=rfl
theorem xT(c:Int)(l:List Int)(k a:Nat)(hk:k<l.length)(ha:l.getD k 0=(a:Int)):kA T D d c (l.take (k+1))=min 2 (kA T D d c (l.take k)+dJ T D d (aS T a).toNat):=by
 unfold kA
 rw[dF _ _ 0 hk,List.foldl_append,ha]
 rfl
theorem vI(hv:ao T=true)(hd:(d:Int)<T.nodes)(c:Int)(h0:0≤c)(h2:c≤2)(l:List Int):0≤kA T D d c l∧kA T D d c l≤2:=nk _ (fun a=>(kj hv hd _).1) l c h0 h2
theorem CW(cs:List Int)(m:Nat)(hm:m<cs.length):cs.set m (cs.getD m 0)=cs:=by
 rw[List.getD_eq_getElem?_getD,List.getElem?_eq_getElem hm,Option.getD_some,List.set_getElem_self]
end
def HY(T:ai)(D:List Bool)(n d:Int)(c:Int):PV:=.tuple [num (if cc T D n d=0 then c else 0),num (cc T D n d)]
set_option maxHeartbeats 2000000 in
theorem Af(T:ai)(D:List Bool)(n d:Int)(h12:T.nodes≤12):Can Tryz.prog 178 [aN T,aY D,num n,num d,num 2] (· =HY T D n d (dJ T D d.toNat n.toNat)):=by
 refine aG Tryz.func178 rfl Tryz.ntmps178 rfl<|ab (.a 3 rfl<|.k [1,2,3,4,5] rfl)<|ab (.a 4 rfl<|.c rfl (sB T D n d) rfl<|.a 5 rfl<|.k [1,2,3,4,5,12,13] rfl)<|ak<|ab (.a 2 rfl<|.k [1,2,3,4,5,12,13,31] rfl)<|ah rfl (fun hc=>?_) (fun hc=>?_)
 ·have he:cc T D n d≠0:=tt hc
  exact ab (.a 3 rfl<|.k [10,11] rfl)<|aq<|⟨_,_,az.of rfl,aC.pure,by unfold HY;rw[if_neg he];rfl⟩
 ·have he:cc T D n d=0:=Classical.byContradiction (ff hc)
  rw[he]
  obtain⟨hv,hf,hn,hd⟩:=fc he
  rw[aU]at hn hd
  obtain⟨n,rfl⟩:=Int.eq_ofNat_of_zero_le hn.1
  obtain⟨d,rfl⟩:=Int.eq_ofNat_of_zero_le hd.1
  have hn:=hn.2
  have hd:=hd.2
  have hll:=bO hv
  have hS:=aK hv
  obtain⟨hb1,hb2⟩:=di (D:=D) hv (dir:=false) hd
  obtain⟨N,hN⟩:∃N:Nat,T.nodes=(N:Int):=⟨T.nodes.toNat,by omega⟩
  have hNt:T.nodes.toNat=N:=by omega
  refine aj<|ak<|ab (.a 2 rfl<|.k [1,2,3,4,5,12,34] rfl)<|ah rfl (fun hc=>?_) (fun hc=>?_)
  ·cases hc
  ·refine aj<|ab (.a 1 rfl<|.c rfl (lu T hv) rfl<|.a 1 rfl<|.k [1,2,3,4,5,12,14] rfl)<|aR<|au 2 rfl<|cz (dz rfl (bL.rk.get rfl) rfl rfl hN hN ⟨by unfold maxLen;omega,by omega⟩) rfl<|au 1 rfl<|aH [1,2,3,4,5,12,14,15] rfl ?_
   refine eD (σ':=[eT (List.replicate N 0)]) (by unfold eT;rw[List.length_replicate,←cN];rfl) ?_
   refine aR<|au 3 rfl<|bE (zN (c:=1) rfl rfl rfl rfl) rfl<|bE (aM (d) rfl (by omega) (by rw[List.length_replicate];omega)) rfl<|bd ((by first|exact bG rfl (bL.tk.get rfl) rfl rfl rfl (by first|omega|(simp;omega))|exact aV rfl (bL.tk.get rfl) rfl rfl rfl (by first|omega|(simp;omega)))) rfl rfl<|aH [1,2,3,4,5,12,14,15] rfl ?_
   refine eD (σ':=[eT ((List.replicate T.nodes.toNat 0).set d 1)]) ?_ ?_
   ·rw[hNt];unfold eT;simp only[List.length_set,List.length_replicate];rfl
   have hI0:=oF.start (D:=D) hd
   generalize (List.replicate T.nodes.toNat (0:Int)).set d 1=cs0 at hI0
   refine aR<|au 1 rfl<|cQ rfl rfl (bU.mono (yu (br T D d false) cs0 (by omega)) (fun _ σ' h=>?_))
   obtain⟨O,hO1,hO2,rfl,rfl⟩:=h
   refine au 1 rfl<|aH [1,2,3,4,5,12,14,15,16] rfl ?_
   have hO:=yT.of hv hd hO1 hO2
   have hOl:O.length≤12:=by have:=hO1.length_eq;have:=wW (br T D d false) (br T D d false).length;omega
   refine aR<|au 1 rfl<|cQ rfl rfl (bU.mono (uS O (eT cs0) hOl) (fun _ σ' h=>?_))
   subst h
   refine aH [1,2,3,4,5,12,14,15,16] rfl ?_
   refine ak<|ab (.a 3 rfl<|.k [1,2,3,4,5,12,14,15,49,50,51] rfl)<|av<|fp [1,2,3,4,5,12,14,15,49,50,51] rfl<|bq (fun r st=>∃(cs:List Int) (i:Nat),i≤O.reverse.length∧r=O.reverse.length - i∧oF T D d O.reverse cs i∧st=⟨[(1,aY D),(2,num n),(3,num d),(4,num 2),(5,.aX (bw T) 0),(12,aw (br T D d false)),(14,je (dh (bb T) T.nodes.toNat (2*T.ae.length))),(15,.own 0),(49,.own 1),(50,num O.reverse.length),(51,num i)],[eT cs,eT O.reverse]⟩) O.reverse.length ⟨cs0,0,by omega,by omega,hI0 _,rfl⟩ ?_
   rintro r st ⟨cs,i,hi,rfl,hI,rfl⟩
   have hRl:O.reverse.length≤12:=by simpa using hOl
   refine ab (.a 1 rfl<|.k [1,2,3,4,5,12,14,15,49,50,51,52] rfl)<|ak<|ah rfl (fun hx=>?_) (fun hx=>?_)
   ·have hlt:i<O.reverse.length:=by have:=tt hx;omega
    obtain⟨m,hm⟩:∃m:Nat,O.reverse.getD i 0=(m:Int):=by
     obtain⟨k,hk,_⟩:=(hO.mem _).1 (List.mem_reverse.1 (ca (d:=0) hlt))
     exact⟨k,hk⟩
    obtain⟨hmN,hm0,hf0⟩:=hI.fresh hO hlt hm
    have hcl:=hI.len
    have hrow:=wa T m (by omega)
    have hnx:=sN T D (br T D d false) (bH T m) m d hv hf hb1 hb2 hmN hd (fun a ha=>jV ha) (Nat.le_trans (eh T m _) (by omega))
    have hnx:Can Tryz.prog 148 [aN T,aY D,aw (br T D d false),aw (bH T m),num m,num d] (· =aw (bx T D m d)):=hnx
    have hnl:(bx T D m d).length≤512:=by
     have h1:(bx T D m d).length≤(bH T m).length:=by unfold bx kF;split;simp;exact List.length_filter_le _ _
     exact Nat.le_trans h1 (Nat.le_trans (eh T m _) (by omega))
    have hset:=CW cs m (by omega)
    have hcr:0≤cs.getD m 0∧cs.getD m 0≤2:=by rw[hf0];split<;>omega
    refine aj<|ak<|av<|ab (.v (aM (i) rfl) rfl<|.v (aO rfl ((aA _ i hlt).trans (by rw[hm]))) rfl<|.a 1 rfl<|.k [1,2,3,4,5,12,14,15,18,49,50,51] rfl)<|ez mixed (by kernel_rfl) (.a 5 rfl<|.v [58,59] (aM (m) rfl (by omega) (by rw[eH];omega)) rfl rfl<|.v [60] (aO rfl ((tf _ m (by rw[eH];omega)).trans (by rw[hrow]))) rfl rfl<|.a 2 rfl<|.v [55,56,57,61,62,63] (dX rfl (hnx)) rfl rfl<|.a 2 rfl<|.k [1,2,3,4,5,12,14,15,18,49,50,51,64,65,66] rfl) ?_
    refine av<|fp [1,2,3,4,5,12,14,15,18,49,50,51,64,65,66] rfl<|bq (fun r st=>∃k:Nat,k≤(bx T D m d).length∧r=(bx T D m d).length - k∧st=⟨[(1,aY D),(2,num n),(3,num d),(4,num 2),(5,.aX (bw T) 0),(12,aw (br T D d false)),(14,je (dh (bb T) T.nodes.toNat (2*T.ae.length))),(15,.own 0),(18,num m),(49,.own 1),(50,num O.reverse.length),(51,num i),(64,aw (bx T D m d)),(65,num (bx T D m d).length),(66,num k)],[eT (cs.set m (kA T D d (cs.getD m 0) ((bx T D m d).take k))),eT O.reverse]⟩) (bx T D m d).length ⟨0,by omega,by omega,by rw[List.take_zero,xZ,hset];rfl⟩ ?_
    rintro r st ⟨k,hk,rfl,rfl⟩
    have hfr:=vI (D:=D) hv hd (cs.getD m 0) hcr.1 hcr.2 ((bx T D m d).take k)
    have hfst:=xT (T:=T) (D:=D) (d:=d) (cs.getD m 0) (bx T D m d) k
    generalize hd12:kA T D d (cs.getD m 0) ((bx T D m d).take k)=c at hfr hfst
    refine ab (.a 1 rfl<|.k [1,2,3,4,5,12,14,15,18,49,50,51,64,65,66,67] rfl)<|ak<|ah rfl (fun hy=>?_) (fun hy=>?_)
    ·have hkl:k<(bx T D m d).length:=by have:=tt hy;omega
     obtain⟨a,ha,han⟩:=cO (ca (d:=0) hkl)
     have hmem:(a:Int)∈bx T D m d:=by rw[←ha];exact ca hkl
     obtain⟨y,hyh,hyN⟩:=dx hv han.eM
     obtain⟨hcy,hym,_⟩:=hI.next hv hd hO hlt hm hmem hyh
     have hh:=fI T a han.eM (by omega)
     rw[hyh]at hh
     have hcyr:=kj (D:=D) hv hd y
     have hg1:(cs.set m c).getD y 0=dJ T D d y:=by rw[←hcy,List.getD_eq_getElem?_getD,List.getElem?_set,if_neg (fun e=>hym e.symm),←List.getD_eq_getElem?_getD]
     have hg2:(cs.set m c).getD m 0=c:=by rw[List.getD_eq_getElem?_getD,List.getElem?_set,if_pos rfl,if_pos (by omega)];rfl
     have hfst:=hfst a hkl ha
     rw[hyh,Int.toNat_natCast]at hfst
     refine aj<|ak<|av<|ab (.v (aM (k) rfl) rfl<|.v (aO rfl ((aA _ k hkl).trans (by rw[ha]))) rfl<|.a 1 rfl<|.k [1,2,3,4,5,12,14,15,18,20,49,50,51,64,65,66] rfl)<|ab (.a 3 rfl<|.c rfl (hh) rfl<|.v (aM (y) rfl (by omega) (by simp only[List.length_set];omega)) rfl<|.v (aO rfl ((aA _ y (by simp only[List.length_set];omega)).trans (by rw[hg1]))) rfl<|.a 1 rfl<|.k [1,2,3,4,5,12,14,15,18,21,49,50,51,64,65,66] rfl)<|ab (.a 4 rfl<|.v (aM (m) rfl (by omega) (by simp only[List.length_set];omega)) rfl<|.v (aO rfl ((aA _ m (by simp only[List.length_set];omega)).trans (by rw[hg2]))) rfl<|.v (aT rfl) rfl<|.a 1 rfl<|.k [1,2,3,4,5,12,14,15,18,21,49,50,51,64,65,66,83] rfl)<|ah rfl (fun hz=>?_) (fun hz=>?_)
     ·have hv2:kA T D d (cs.getD m 0) ((bx T D m d).take (k+1))=2:=by have:=tt hz;omega
      refine bI<|au 3 rfl<|bE (aM (m) rfl (by omega) (by simp only[List.length_set];omega)) rfl<|bd ((by first|exact bG rfl (bL.tk.get rfl) rfl rfl rfl (by first|omega|(simp;omega))|exact aV rfl (bL.tk.get rfl) rfl rfl rfl (by first|omega|(simp;omega)))) rfl rfl<|aH [1,2,3,4,5,12,14,15,18,49,50,51,64,65,66] rfl ?_
      refine aB (.v (aT rfl) rfl<|.a 1 rfl<|.k [1,2,3,4,5,12,14,15,18,49,50,51,64,65,66] rfl) ?_
      refine⟨(bx T D m d).length - (k+1),by omega,k+1,by omega,rfl,?_⟩
      rw[hv2]
      unfold eT
      simp only[List.length_set,List.set_set]
      rfl
     ·have hv2:kA T D d (cs.getD m 0) ((bx T D m d).take (k+1))=c+dJ T D d y:=by have:=ff hz;omega
      refine bI<|au 2 rfl<|bE (aM (m) rfl (by omega) (by simp only[List.length_set];omega)) rfl<|bE (aO rfl ((aA _ m (by simp only[List.length_set];omega)).trans (by rw[hg2]))) rfl<|au 1 rfl<|bE (aT rfl) rfl<|bE (aM (m) rfl (by omega) (by simp only[List.length_set];omega)) rfl<|bd ((by first|exact bG rfl (bL.tk.get rfl) rfl rfl rfl (by first|omega|(simp;omega))|exact aV rfl (bL.tk.get rfl) rfl rfl rfl (by first|omega|(simp;omega)))) rfl rfl<|aH [1,2,3,4,5,12,14,15,18,49,50,51,64,65,66] rfl ?_
      refine aB (.v (aT rfl) rfl<|.a 1 rfl<|.k [1,2,3,4,5,12,14,15,18,49,50,51,64,65,66] rfl) ?_
      refine⟨(bx T D m d).length - (k+1),by omega,k+1,by omega,rfl,?_⟩
      rw[hv2]
      unfold eT
      simp only[List.length_set,List.set_set]
      rfl
    ·have hke:k=(bx T D m d).length:=by have:=ff hy;omega
     refine bf<|aB (.v (aT rfl) rfl<|.a 1 rfl<|.k [1,2,3,4,5,12,14,15,49,50,51] rfl) ?_
     have hI2:=hI.step hv hd hO hlt hm
     rw[hke,List.take_length]at hd12
     exact⟨O.reverse.length - (i+1),by omega,cs.set m (kA T D d (cs.getD m 0) (bx T D m d)),i+1,by omega,rfl,hI2,by rw[hd12];rfl⟩
   ·have hie:i=O.reverse.length:=by have:=ff hx;omega
    subst hie
    have hres:=hI.done hv hd hO hn
    have hcl:=hI.len
    exact bf<|ab (.a 2 rfl<|.v (aM (n) rfl) rfl<|.v (aO rfl ((aA cs n (by omega)).trans (by rw[hres]))) rfl<|.a 2 rfl<|.k [10,11] rfl)<|aq<|⟨_,_,az.of rfl,aC.pure,by unfold HY;rw[he,if_pos rfl];rfl⟩
theorem Bj(T:ai)(D:List Bool)(n d:Int):fx T D n d=(decide (cc T D n d=0)&&decide ((if cc T D n d=0 then dJ T D d.toNat n.toNat else 0)=1)):=by
 unfold fx
 by_cases h:cc T D n d=0
 ·rw[if_pos h]
 ·simp[h]
set_option maxHeartbeats 2000000 in
theorem qT(T:ai)(D:List Bool)(n d:Int)(h12:T.nodes≤12):Can Tryz.prog 152 [aN T,aY D,num n,num d] (· =flag (fx T D n d)):=by
 rw[Bj]
 obtain⟨q1,hq1⟩:∃q,decide (cc T D n d=0)=q:=⟨_,rfl⟩
 obtain⟨q2,hq2⟩:∃q,decide ((if cc T D n d=0 then dJ T D d.toNat n.toNat else 0)=1)=q:=⟨_,rfl⟩
 rw[hq1,hq2]
 refine aG Tryz.func152 rfl Tryz.ntmps152 rfl<|ab (.a 2 rfl<|.k [1,2,3,4] rfl)<|ab (.a 4 rfl<|.c rfl (Af T D n d h12) rfl<|.a 5 rfl<|.k [9,10] rfl)<|bu 8 (.raw (.bool (q1&&q2))) [] rfl ?_ ?_
 ·refine .a 1 rfl<|.v (cg rfl (hq1)) rfl<|.a 1 rfl<|?_
  cases q1
  ·exact .a 4 rfl<|.k [8] rfl
  ·exact .a 1 rfl<|.v (cg rfl (hq2)) rfl<|.a 2 rfl<|.k [8] rfl
 exact aq<|⟨_,_,az.of rfl,aC.pure,rfl⟩
structure HC (L out:List Int) (i:Nat) (b:Int):Prop where
 none:b<0→∀k:Nat,k<i→0≤L.getD k 0→(k:Int)∈out
 some:∀n:Nat,b=(n:Int)→n<i∧0≤L.getD n 0∧¬(n:Int)∈out∧∀k:Nat,k<i→0≤L.getD k 0→¬(k:Int)∈out→L.getD k 0≤L.getD n 0
theorem HC.no{L out:List Int}{i:Nat}{b:Int}(h:HC L out i b)(h1:¬(0≤L.getD i 0∧¬(i:Int)∈out∧(b<0∨∃n:Nat,b=(n:Int)∧L.getD n 0<L.getD i 0))):HC L out (i+1) b:=by
 refine⟨fun hb k hk hk0=>?_,fun n hn=>?_⟩
 ·by_cases hki:k=i
  ·subst hki;exact Classical.byContradiction fun ho=>h1 ⟨hk0,ho,.inl hb⟩
  ·exact h.none hb k (by omega) hk0
 ·obtain⟨a1,a2,a3,a4⟩:=h.some n hn
  refine⟨by omega,a2,a3,fun k hk hk0 hko=>?_⟩
  by_cases hki:k=i
  ·subst hki;exact Int.not_lt.1 fun hl=>h1 ⟨hk0,hko,.inr ⟨n,hn,hl⟩⟩
  ·exact a4 k (by omega) hk0 hko
structure Part (L out:List Int):Prop where
 nodup:out.Nodup
 mem:∀x∈out,∃k:Nat,x=(k:Int)∧k<L.length∧0≤L.getD k 0
 pair:out.Pairwise fun x y=>L.getD y.toNat 0≤L.getD x.toNat 0
 rest:∀x∈out,∀k:Nat,k<L.length→0≤L.getD k 0→¬(k:Int)∈out→L.getD k 0≤L.getD x.toNat 0
theorem Part.len{L out:List Int}(h:Part L out):out.length≤L.length:=by
 have h1:=qn L.length (out.map Int.toNat) (by
  unfold List.Nodup
  rw[List.pairwise_map]
  refine List.Pairwise.imp_of_mem ?_ h.nodup
  intro a b ha hb hne e
  obtain⟨k,rfl,_⟩:=h.mem a ha
  obtain⟨k',rfl,_⟩:=h.mem b hb
  simp only[Int.toNat_natCast]at e
  exact hne (by rw[e])) (fun x hx=>by
  obtain⟨y,hy,rfl⟩:=List.mem_map.1 hx
  obtain⟨k,rfl,hk,_⟩:=h.mem y hy
  simpa using hk)
 simpa using h1
end PW
end Go.Proofs.YtnegbdpggideiaaGreatDoor
namespace Go.Proofs.YtnegbdpggideiaaGreatDoor
namespace PW
open Go.RowKit cE Mem
section
variable {P:Program} {kt e:TypeId}
theorem zM(a b:Int):(a==b)=decide (a=b):=Bool.eq_iff_iff.2 (by simp)
theorem zz(b:Bool)(n:Nat)(hu:P.underlying kt=some (.int .i64))(a:Int)(w:World):(Instr.checkKey b (n+1) kt (.int .i64 a)).run P w= .ok () w:=by
 simp only[Instr.checkKey,Sem.run_bind,run_underlying hu,Result.andThen_ok,Sem.run_pure]
theorem eq_int(n:Nat)(hu:P.underlying kt=some (.int .i64))(a b:Int)(w:World):(Op.equalIn (n+1) kt (.int .i64 a) (.int .i64 b)).run P w= .ok (decide (a=b)) w:=by
 simp only[Op.equalIn,Sem.run_bind,run_underlying hu,Result.andThen_ok,if_true,Sem.run_pure,zM]
theorem Hw(hu:P.underlying kt=some (.int .i64)):ir P kt (fun n:Int=>Value.int .i64 n) where
 nh:=fun b a w=>zz b 9999 hu a w
 eql:=fun a b w=>eq_int _ hu a b w
 now:=⟨_,hu,.inl fun a b=>by simp only[Instr.sameNow,if_true,zM]⟩
 bits:=fun a=>by unfold Instr.sameBits;simp
theorem nN(he:P.underlying e=some (.int .i64)){xs:Array Value}{off:Nat}{v:Value}(hx:xs[off]? =some v)(w:World):(Go.part e xs off).run P w= .ok v w:=by
 simp[Go.part,isAgg,run_underlying he,hx]
abbrev oZ(p:Int×Int):Array Value:= #[.int .i64 p.1,.int .i64 p.2]
theorem Ho(he:P.underlying e=some (.int .i64))(a:Int×Int)(w:World):(Go.part e (oZ a) 0).run P w= .ok (.int .i64 a.1) w:=nN he rfl w
theorem rV(he:P.underlying e=some (.int .i64))(a:Int×Int)(w:World):(Go.part e (oZ a) 1).run P w= .ok (.int .i64 a.2) w:=nN he rfl w
theorem DK{i:TypeInfo}(hu:P.underlying kt=some (.array 2 e))(he:P.underlying e=some (.int .i64))(hi:P.info? e=some i)(hs:i.size=1)(b:Bool)(n:Nat)(a:Int×Int)(w:World):(Instr.checkKey b (n+1+1) kt (.agg (oZ a))).run P w= .ok () w:=by
 have hz:(sizeOf e).run P w= .ok 1 w:=by simp[sizeOf,typeInfo,program,Sem.run,hi,hs]
 have hr:List.range' 0 2=[0,1]:=rfl
 rw[Instr.checkKey]
 simp only[Sem.run_bind,run_underlying hu,Result.andThen_ok]
 simp only[Std.Legacy.Range.forIn_eq_forIn_range',Std.Legacy.Range.size,Nat.sub_zero,Nat.add_one_sub_one,Nat.div_one]
 rw[hr]
 simp only[List.forIn_cons,List.forIn_nil,Sem.run_bind,hz,Result.andThen_ok,Sem.run_pure,Nat.mul_one,Ho he,rV he,zz b n he]
theorem Gj{i:TypeInfo}(hu:P.underlying kt=some (.array 2 e))(he:P.underlying e=some (.int .i64))(hi:P.info? e=some i)(hs:i.size=1)(n:Nat)(a b:Int×Int)(w:World):(Op.equalIn (n+1+1) kt (.agg (oZ a)) (.agg (oZ b))).run P w= .ok (decide (a=b)) w:=by
 have hsz:P.cellsOf e=1:=by simp[Program.cellsOf,hi,hs]
 rw[run_equalIn_array w (n+1) _ _ hu hi,hsz]
 show(Op.eqItems (n+1) e 1 _ _ [0,1]).run P w=_
 simp only[Op.eqItems,Sem.run_bind,Nat.mul_one,Ho he,rV he,Result.andThen_ok,eq_int n he,Sem.run_pure]
 obtain⟨a1,a2⟩:=a
 obtain⟨b1,b2⟩:=b
 by_cases h1:a1=b1<;>by_cases h2:a2=b2<;>simp[h1,h2,Sem.run_bind,rV he,eq_int n he,Op.eqItems]
theorem GB{i:TypeInfo}(hu:P.underlying kt=some (.array 2 e))(he:P.underlying e=some (.int .i64))(hi:P.info? e=some i)(hs:i.size=1):ir P kt (fun p:Int×Int=>Value.agg (oZ p)) where
 nh:=fun b a w=>DK hu he hi hs b 9998 a w
 eql:=fun a b w=>Gj hu he hi hs 9998 a b w
 now:=⟨_,hu,.inr fun a b=>by simp only[Instr.sameNow]⟩
 bits:=fun a=>by
  have h:=fun(n:Nat) (x:Int)=>show Instr.sameBits n (.int .i64 x) (.int .i64 x)=true by unfold Instr.sameBits;simp
  show Instr.sameBits (9999+1) _ _=true
  rw[Instr.sameBits]
  simp only[List.zip_cons_cons,List.all_cons,h]
  rfl
end
end PW
end Go.Proofs.YtnegbdpggideiaaGreatDoor
namespace Go.Proofs.YtnegbdpggideiaaGreatDoor
namespace PW
open Go.RowKit cE Mem Net
theorem FT:ts Tryz.prog 143=some (3,37):=by kernel_rfl
theorem Gr:ts Tryz.prog 144=some (125,4):=by kernel_rfl
theorem Js:Hb Tryz.prog 37=some (.slice none 0 0):=by kernel_rfl
theorem JV:Hb Tryz.prog 4=some (.bool false):=by kernel_rfl
theorem Iz:wz Tryz.prog 37=true:=by kernel_rfl
abbrev Gv(n:Int):Value:=.int .i64 n
abbrev F8(p:Int×Int):Value:=.agg (oZ p)
theorem EE:ir Tryz.prog 3 Gv:=Hw Tryz.underlying3
theorem FJ:ir Tryz.prog 125 F8:=by
 have h:(Tryz.prog.info? 3).map (·.size)=some 1:=by kernel_rfl
 obtain⟨i,h1,h2⟩:=Option.map_eq_some_iff.1 h
 exact GB Tryz.underlying125 Tryz.underlying3 h1 h2
theorem CE(a b:Int):Tryz.prog.built 125 [(0,.int .i64 a),(1,.int .i64 b)]=some #[.int .i64 a,.int .i64 b]:=by kernel_rfl
theorem B6{P:Program}{σ:cf}{t:bZ}{o:Oper}{ty:TypeId}{x y:Operand}{a b:Int}(ho:o.op= .build ty #[(0,x),(1,y)])(hx:aD t x=some (num a))(hy:aD t y=some (num b))(hb:P.built ty [(0,.int .i64 a),(1,.int .i64 b)]=some #[.int .i64 a,.int .i64 b]):bh P σ t o (.agg [num a,num b]):=by
 intro F base E ρ w hρ hS hT
 have hrun:=run_build (P:=P) w ty #[(0,.int .i64 a),(1,.int .i64 b)] #[.int .i64 a,.int .i64 b] hb
 have h0:ρ x= .int .i64 a:=dO (ax hρ hT hx)
 have h1:ρ y= .int .i64 b:=dO (ax hρ hT hy)
 have hr:(execOp ρ o).run P w= .ok (.value (.agg #[.int .i64 a,.int .i64 b])) w:=by
  simp only[execOp,ho,Sem.run_bind,List.map_toArray,List.map_cons,List.map_nil,h0,h1,hrun,Result.andThen_ok,Sem.run_pure]
 rw[hr]
 refine bg (.agg #[.int .i64 a,.int .i64 b] _ rfl (fun i x u k1 k2=>?_))
 match i,k1,k2 with
 |0,k1,k2=>simp at k1 k2;subst k1;subst k2;exact .raw _
 |1,k1,k2=>simp at k1 k2;subst k1;subst k2;exact .raw _
 |_+2,k1,k2=>simp at k2
section
variable {κ:Type} [DecidableEq κ]
theorem tc(k:κ)(p:PV):∀l:List (κ×PV),de k (ij k p l)=some p
 | []=>by simp[ij,de]
 |(a,q)::l=>by
  unfold ij
  split
  ·rename_i h;simp[de,h]
  ·rename_i h;simp only[de,if_neg h];exact tc k p l
theorem Er{P:Program}{σ:cf}{t:bZ}{o:Oper}{x y:Operand}{ty tz:TypeId}{m:Option PV}(ho:o.op= .binOp .eql ty x y tz)(hk:wz P ty=true)(hx:aD t x=some (m.getD (.raw (.slice none 0 0))))(hy:aD t y=some (.raw (.slice none 0 0)))(hm:∀v,m=some v→∃n xs,v= .slice n xs∧0<n):bh P σ t o (.raw (.bool m.isNone)):=by
 cases m with
 |none=>exact Fx ho hk hx hy
 |some v=>
  obtain⟨n,xs,rfl,hn⟩:=hm v rfl
  exact nu ho hk hx hy hn
end
def jE(T:ai)(D:List Bool)(dm:List (Int×PV)):Prop:=∀k v,(k,v)∈dm→∃d:Nat,k=(d:Int)∧(d:Int)<T.nodes∧v=aw (br T D d false)
def kg(T:ai)(D:List Bool)(um:List ((Int×Int)×PV)):Prop:=∀k v,(k,v)∈um→v=flag (fx T D k.1 k.2)
theorem jE.pure{T:ai}{D:List Bool}{dm:List (Int×PV)}(h:jE T D dm):kD (some (.mp (fN Gv dm))):=fun b hb=>by
 cases hb
 refine⟨fun i u hu=>?_⟩
 have hm:=List.mem_of_getElem? hu
 simp only[fN,List.map_map,List.mem_map,Function.comp]at hm
 obtain⟨⟨k,v⟩,hkv,rfl⟩:=hm
 obtain⟨d,_,_,hv⟩:=h k v hkv
 show IsPure v
 rw[hv]
 infer_instance
theorem kg.pure{T:ai}{D:List Bool}{um:List ((Int×Int)×PV)}(h:kg T D um):kD (some (.mp (fN F8 um))):=fun b hb=>by
 cases hb
 refine⟨fun i u hu=>?_⟩
 have hm:=List.mem_of_getElem? hu
 simp only[fN,List.map_map,List.mem_map,Function.comp]at hm
 obtain⟨⟨k,v⟩,hkv,rfl⟩:=hm
 show IsPure v
 rw[h k v hkv]
 infer_instance
theorem jE.set{T:ai}{D:List Bool}{dm:List (Int×PV)}(h:jE T D dm){d:Nat}(hd:(d:Int)<T.nodes):jE T D (ij (d:Int) (aw (br T D d false)) dm):=fun k v hk=>by
 rcases qq hk with e|e
 ·cases e;exact⟨d,rfl,hd,rfl⟩
 ·exact h k v e
theorem kg.set{T:ai}{D:List Bool}{um:List ((Int×Int)×PV)}(h:kg T D um)(a b:Int):kg T D (ij (a,b) (flag (fx T D a b)) um):=fun k v hk=>by
 rcases qq hk with e|e
 ·cases e;rfl
 ·exact h k v e
theorem jE.look{T:ai}{D:List Bool}{dm:List (Int×PV)}(h:jE T D dm){d:Nat}{v:PV}(hl:de (d:Int) dm=some v):v=aw (br T D d false):=by
 obtain⟨d',h1,_,h2⟩:=h _ _ (iP hl)
 have:d'=d:=by omega
 subst this
 exact h2
def tO(T:ai)(n:Int)(p:List Int):List Int:=n::p.map fun a=>aS T a.toNat
def tZ(T:ai)(p:List Int):List Int:=(List.range (p.length+1)).map fun i=>cW T (p.take i)
theorem uk(T:ai)(n:Int)(p:List Int):(tO T n p).length=p.length+1:=by simp[tO]
theorem zD(T:ai)(p:List Int):(tZ T p).length=p.length+1:=by simp[tZ]
theorem B4(T:ai)(n:Int)(p:List Int)(k:Nat)(h:k<p.length):tO T n (p.take (k+1))=tO T n (p.take k)++[aS T (p.getD k 0).toNat]:=by
 rw[dF p k 0 h];simp[tO]
theorem DH(T:ai)(p:List Int)(k:Nat)(h:k<p.length):tZ T (p.take (k+1))=tZ T (p.take k)++[cW T (p.take (k+1))]:=by
 unfold tZ
 rw[show(p.take (k+1)).length+1=(p.take k).length+1+1 by simp;omega,List.range_succ,List.map_append]
 congr 1
 ·refine List.map_congr_left fun i hi=>?_
  have:=List.mem_range.1 hi
  rw[List.take_take,List.take_take,Nat.min_eq_left (by simp at this;omega),Nat.min_eq_left (by simp at this;omega)]
 ·simp only[List.map_cons,List.map_nil,List.take_take]
  rw[Nat.min_eq_left (by simp;omega),show(p.take k).length+1=k+1 by simp;omega]
theorem ug(T:ai)(n:Int)(p:List Int)(i:Nat)(h:i≤p.length):(tO T n p).getD i 0=cD T n (p.take i):=by
 cases i with
 |zero=>rfl
 |succ i=>
  rw[gH T n p i (by omega)]
  simp only[tO,List.getD_cons_succ]
  rw[List.getD_eq_getElem?_getD,List.getElem?_map,List.getElem?_eq_getElem (by omega),List.getD_eq_getElem?_getD,List.getElem?_eq_getElem (by omega)]
  rfl
theorem zP(T:ai)(p:List Int)(i:Nat)(h:i≤p.length):(tZ T p).getD i 0=cW T (p.take i):=by
 unfold tZ
 rw[List.getD_eq_getElem?_getD,List.getElem?_map,List.getElem?_range (by omega)]
 rfl
def fA(T:ai)(D:List Bool)(n:Int)(p:List Int):Int:=if(ao T&&bP T D)=true then(if eZ T n p=0 then(if p.any (fun a=>aL D a.toNat) then 7 else 0) else eZ T n p) else 1
abbrev Ju(T:ai)(D:List Bool)(p:List Int)(i:Nat):Option cU:=some (.cells 146 (bw T++[aY D,aw p,.own i,.own (i+1),.own (i+2),.own (i+3)]))
def Bh(T:ai)(D:List Bool)(p ns cs:List Int)(dm:List (Int×PV))(um:List ((Int×Int)×PV)):cf:=
 [eT ns,eT cs,some (.mp (fN Gv dm)),some (.mp (fN F8 um)),Ju T D p 0]
theorem lR{T:ai}:∀ {f:Bool} {n:Int} {l:List Int},ec T f n l=0→∀a∈l,fy T a=true
 |f,n,[],_,a,ha=>by cases ha
 |f,n,b::l,h,a,ha=>by
  simp only[ec]at h
  split at h
  ·omega
  ·split at h
   ·omega
   ·rename_i h1 _
    rcases List.mem_cons.1 ha with rfl|ha
    ·simpa using h1
    ·exact lR h a ha
theorem mH{T:ai}{n:Int}{p:List Int}(h:eZ T n p=0):ao T=true∧bn T n=true∧ec T true n p=0:=by
 unfold eZ at h
 split at h
 ·rename_i h1
  split at h
  ·rename_i h2;exact⟨h1,h2,h⟩
  ·omega
 ·omega
theorem gP{T:ai}(hv:ao T=true){p:List Int}(ha:∀a∈p,fy T a=true):∀k,k≤p.length→0≤cW T (p.take k)∧cW T (p.take k)≤65535*k
 |0,_=>by simp[jK]
 |k+1,h=>by
  have:=gP hv ha k (by omega)
  rw[mI T p k (by omega)]
  have:=(jX hv (ha _ (ca (d:=0) (show k<p.length by omega)))).1
  omega
set_option maxHeartbeats 2000000 in
theorem yG(T:ai)(D:List Bool)(p:List Int)(n:Int)(hp:p.length≤1000)(hlk:T.ae.length≤256):bU Tryz.prog 111 [aN T,aY D,aw p,num n] [] (fun r σ'=>(fA T D n p≠0∧r= .tuple [.raw (.pointer none),num (fA T D n p)])∨(fA T D n p=0∧r= .tuple [.ptr 4 0,num 0]∧σ'=Bh T D p (tO T n p) (tZ T p) [] [])):=by
 obtain⟨q1,hq1⟩:∃q,ao T=q:=⟨_,rfl⟩
 obtain⟨q2,hq2⟩:∃q,bP T D=q:=⟨_,rfl⟩
 refine cr Tryz.func111 rfl Tryz.ntmps111 rfl<|ab (.a 3 rfl<|.k [1,2,3,4] rfl)<|ak<|bu 25 (.raw (.bool ((!q1)|| !q2))) [1,2,3,4] rfl ?_ ?_
 ·refine .a 1 rfl<|.c rfl (hq1▸ej T) rfl<|.a 2 rfl<|?_
  cases q1
  ·exact .a 5 rfl<|.k [25,1,2,3,4] rfl
  ·exact .a 2 rfl<|.c rfl (hq2▸la T D (by omega)) rfl<|.a 2 rfl<|.k [25,1,2,3,4] rfl
 refine ah rfl (fun hc=>?_) (fun hc=>?_)
 ·have he:fA T D n p=1:=by unfold fA;rw[hq1,hq2];cases q1<;>cases q2<;>first|rfl|cases hc
  exact ab (.a 2 rfl<|.k [8,9] rfl)<|aq<|⟨_,az.of rfl,.inl ⟨by rw[he];decide,by rw[he];rfl⟩⟩
 ·have hv:ao T=true:=by rw[hq1];cases q1;cases hc;rfl
  have hf:bP T D=true:=by rw[hq2];cases q2;cases q1<;>cases hc;rfl
  have hvf:(ao T&&bP T D)=true:=by rw[hv,hf];rfl
  refine aj<|ak<|ab (.a 3 rfl<|.c rfl (wK T n p (by omega)) rfl<|.a 7 rfl<|.k [1,2,3,4,12] rfl)<|ab (.a 2 rfl<|.k [1,2,3,4,12,35] rfl)<|ah rfl (fun hx=>?_) (fun hx=>?_)
  ·have hx1:eZ T n p≠0:=tt hx
   have he:fA T D n p=eZ T n p:=by unfold fA;rw[if_pos hvf,if_neg hx1]
   exact ab (.a 3 rfl<|.k [8,9] rfl)<|aq<|⟨_,az.of rfl,.inl ⟨by rw[he];exact hx1,by rw[he];rfl⟩⟩
  ·have hx1:eZ T n p=0:=Classical.byContradiction (ff hx)
   obtain⟨_,hn,hw⟩:=mH hx1
   have ha:=lR hw
   have hcb:=gP hv ha
   refine aj<|aR<|au 4 rfl<|cz (iD (xs:=[_]) rfl (bL.sl.get rfl) ⟨Nat.le_of_ble_eq_true rfl,Nat.le_of_ble_eq_true rfl⟩ rfl rfl) rfl<|cz (iD (xs:=[_]) rfl (bL.sl.get rfl) ⟨Nat.le_of_ble_eq_true rfl,Nat.le_of_ble_eq_true rfl⟩ rfl rfl) rfl<|cz (ot Gv rfl) rfl<|cz (ot F8 rfl) rfl<|au 1 rfl<|cz (fJ rfl rfl rfl) rfl<|au 1 rfl<|aH [1,2,4,13] rfl ?_
   refine ab (.a 1 rfl<|.k [1,2,4,13,14] rfl)<|ak<|ab (.a 3 rfl<|.k [1,4,13,14,47,48,49] rfl)<|av<|fp [1,4,13,14,47,48,49] rfl<|bq (fun r st=>∃k:Nat,k≤p.length∧r=p.length - k∧(∀a∈p.take k,aL D a.toNat=false)∧st=⟨[(1,aY D),(4,.aX (bw T) 0),(13,.ptr 4 0),(14,num (cW T (p.take k))),(47,aw p),(48,num p.length),(49,num k)],Bh T D p (tO T n (p.take k)) (tZ T (p.take k)) [] []⟩) p.length ⟨0,by omega,by omega,by simp,rfl⟩ ?_
   rintro r st ⟨k,hk,rfl,hdn,rfl⟩
   have hck:=hcb k hk
   have hl1:=uk T n (p.take k)
   have hl2:=zD T (p.take k)
   have hl3:(p.take k).length=k:=by simp;omega
   refine ab (.a 1 rfl<|.k [1,4,13,14,47,48,49,50] rfl)<|ak<|ah rfl (fun hy=>?_) (fun hy=>?_)
   ·have hlt:k<p.length:=by have:=tt hy;omega
    have hmem:=ca (d:=0) hlt
    have hab:=ha _ hmem
    obtain⟨hac,m,hm,hmN⟩:=jX hv hab
    have hst1:=B4 T n p k hlt
    have hst2:=DH T p k hlt
    have hst3:=mI T p k hlt
    have hab2:=hab
    simp only[fy,decide_eq_true_eq]at hab2
    obtain⟨a,hae⟩:∃a:Nat,p.getD k 0=(a:Int):=⟨(p.getD k 0).toNat,by omega⟩
    have ham:a<2*T.ae.length:=by omega
    have hD:D.length=0∨a<D.length:=by simp only[bP,decide_eq_true_eq]at hf;omega
    rw[hae,Int.toNat_natCast]at hm hac hst1 hst3
    have hh:=fI T a ham (by omega)
    rw[hm]at hh
    refine aj<|ak<|av<|ab (.v (aM (k) rfl) rfl<|.v (aO rfl ((aA p k hlt).trans (by rw[hae]))) rfl<|.a 1 rfl<|.k [1,4,13,14,16,47,48,49] rfl)<|ak<|ab (.a 2 rfl<|.c rfl (i7 D a hD) rfl<|.k [1,4,13,14,16,47,48,49,55] rfl)<|ah rfl (fun hz=>?_) (fun hz=>?_)
    ·have he:fA T D n p=7:=by
      unfold fA
      rw[if_pos hvf,if_pos hx1,if_pos]
      exact List.any_eq_true.2 ⟨_,hmem,by rw[hae];exact hz⟩
     exact ab (.a 2 rfl<|.k [8,9] rfl)<|aq<|⟨_,az.of rfl,.inl ⟨by rw[he];decide,by rw[he];rfl⟩⟩
    ·have hdn2:∀a∈p.take (k+1),aL D a.toNat=false:=fun x hx=>by
      rw[dF p k 0 hlt]at hx
      rcases List.mem_append.1 hx with h|h
      ·exact hdn x h
      ·simp only[List.mem_singleton]at h;rw[h,hae];exact hz
     refine aj<|ab (.a 3 rfl<|.c rfl (kP T a ham) rfl<|.v (aT rfl (hn:=by unfold In64;omega)) rfl<|.a 1 rfl<|.k [1,4,13,14,16,47,48,49] rfl)<|lj 9 20 mixed (
      .late [13] rfl (nc rfl rfl) inferInstance rfl rfl<|
      .val [13] rfl (bF rfl) rfl rfl<|
      .val [62] rfl (bF rfl) rfl rfl<|
      .val [63] rfl (bF rfl) rfl rfl<|
      .val [64] rfl (bF rfl) rfl rfl<|
      .val [4] rfl (bF rfl) rfl rfl<|
      .val [16] rfl (bF rfl) rfl rfl<|
      .val [66,67] rfl (dX rfl (hh)) rfl rfl<|
      .val [68] rfl (bF rfl) rfl rfl<|
      .nil) (by kernel_rfl) rfl rfl (bm (ks:=[1,4,13,14,47,48,49,61,65,69]) rfl) ?_
     refine cz (bA rfl (bL.rk.get rfl) rfl rfl rfl rfl (by unfold maxLen;omega)) rfl<|au 3 rfl ?_
     refine ee [5,1,2,3,4] (.c 1<|.c 4<|.c 13<|.c 14<|.c 47<|.c 48<|.c 49<|.nil) (.kept rfl (.fm rfl (dc _ _))<|.kept rfl (.row aE.pure)<|.same (jE.pure (T:=T) (D:=D) (dm:=[]) (fun _ _ h=>by cases h)) rfl<|.same (kg.pure (T:=T) (D:=D) (um:=[]) (fun _ _ h=>by cases h)) rfl<|.kept rfl (.cells (aE.c<|aE.c<|aE.c<|aE.c<|aE.c<|aE.c<|aE.c<|aE.c<|aE.c<|aE.nil))<|.nil) rfl rfl (aZ ?_)
     refine bI<|au 7 rfl<|cz (bA rfl (bL.rk.get rfl) rfl rfl rfl rfl (by unfold maxLen;omega)) rfl<|au 3 rfl ?_
     refine ee [0,5,2,3,4] (.c 1<|.c 4<|.c 13<|.c 14<|.c 47<|.c 48<|.c 49<|.nil) (.kept rfl (.row aE.pure)<|.kept rfl (.fm rfl (dc _ _))<|.same (jE.pure (T:=T) (D:=D) (dm:=[]) (fun _ _ h=>by cases h)) rfl<|.same (kg.pure (T:=T) (D:=D) (um:=[]) (fun _ _ h=>by cases h)) rfl<|.kept rfl (.cells (aE.c<|aE.c<|aE.c<|aE.c<|aE.c<|aE.c<|aE.c<|aE.c<|aE.c<|aE.nil))<|.nil) rfl rfl (aZ ?_)
     refine aB (.v (aT rfl) rfl<|.a 1 rfl<|.k [1,4,13,14,47,48,49] rfl) ?_
     refine⟨p.length - (k+1),by omega,k+1,by omega,rfl,hdn2,?_⟩
     rw[hst1,hst2,hst3,hm]
     unfold Bh eT
     simp only[List.length_append,List.length_singleton]
     rfl
   ·have hke:k=p.length:=by have:=ff hy;omega
    subst hke
    rw[List.take_length]at hdn
    refine bf<|ab (.a 3 rfl<|.k [8,9] rfl)<|aq<|⟨_,az.of rfl,.inr ⟨?_,rfl,by rw[List.take_length]⟩⟩
    unfold fA
    rw[if_pos hvf,if_pos hx1,if_neg]
    intro h
    obtain⟨x,hx,hx2⟩:=List.any_eq_true.1 h
    rw[hdn x hx]at hx2
    cases hx2
noncomputable def eV(T:ai)(D:List Bool)(n:Int)(p:List Int)(i j:Nat):Bool:=
 decide (dN T D (cD T n (p.take j)).toNat (cD T n (p.take i)).toNat=cW T (p.take j) - cW T (p.take i))&&fx T D (cD T n (p.take i)) (cD T n (p.take j))
theorem cp{T:ai}(hv:ao T=true){n:Int}(hn:bn T n=true){p:List Int}(ha:∀a∈p,fy T a=true)(i:Nat)(hi:i≤p.length):∃u:Nat,cD T n (p.take i)=(u:Int)∧(u:Int)<T.nodes:=by
 cases i with
 |zero=>
  obtain⟨h0,h1⟩:=aU.1 hn
  obtain⟨u,hu⟩:=Int.eq_ofNat_of_zero_le h0
  exact⟨u,hu,by rw[←hu];exact h1⟩
 |succ i=>
  rw[gH T n p i (by omega)]
  exact(jX hv (ha _ (ca (d:=0) (show i<p.length by omega)))).2
theorem tP{T:ai}{D:List Bool}(hv:ao T=true)(hf:bP T D=true){d:Nat}(hd:(d:Int)<T.nodes):cw T D [(d:Int)]=0:=by
 unfold cw
 rw[hv,hf]
 have:bn T (d:Int)=true:=aU.2 ⟨by omega,hd⟩
 simp[this]
set_option maxHeartbeats 2000000 in
theorem vp(T:ai)(D:List Bool)(p:List Int)(n:Int)(dm:List (Int×PV))(um:List ((Int×Int)×PV))(x:Option cU)(hx:kD x)(hv:ao T=true)(hf:bP T D=true)(h12:T.nodes≤12)(hn:bn T n=true)(ha:∀a∈p,fy T a=true)(hp:p.length≤1000)(i j:Nat)(hi:i≤p.length)(hj:j≤p.length)(hdm:jE T D dm)(hum:kg T D um):
    bU Tryz.prog 112 [.ptr 4 0,num i,num j] (Bh T D p (tO T n p) (tZ T p) dm um++[x]) (fun r σ'=>r=flag (eV T D n p i j)∧∃dm' um',jE T D dm'∧kg T D um'∧σ'=Bh T D p (tO T n p) (tZ T p) dm' um'++[x]):=by
  obtain⟨u,hu,huN⟩:=cp hv hn ha i hi
  obtain⟨y,hy,hyN⟩:=cp hv hn ha j hj
  have hcv:eV T D n p i j=(decide (dN T D y u=cW T (p.take j) - cW T (p.take i))&&fx T D u y):=by unfold eV;rw[hu,hy,Int.toNat_natCast,Int.toNat_natCast]
  rw[hcv]
  obtain⟨hb1,hb2⟩:=di (D:=D) hv (dir:=false) hyN
  have hS:=aK hv
  have hNp:=hS.nodes
  have hdi:Can Tryz.prog 151 [aN T,aY D,num y] (· = .tuple [aw (br T D y false),num 0]):=by
    have h:=rC T D (y:Int)
    rw[tP hv hf hyN]at h
    exact h
  have hci:=gP hv ha i hi
  have hcj:=gP hv ha j hj
  have hl1:=uk T n p
  have hl2:=zD T p
  have hgi:=ug T n p i hi
  have hgj:=ug T n p j hj
  have hki:=zP T p i hi
  have hkj:=zP T p j hj
  rw[hu]at hgi
  rw[hy]at hgj
  have hmn:∀v,de (y:Int) dm=some v→∃n xs,v= .slice n xs∧0<n:=fun v h=>⟨_,_,hdm.look h,by omega⟩
  refine cr Tryz.func112 rfl Tryz.ntmps112 rfl<|ab (.a 1 rfl<|.k [0,1,2] rfl)<|ez mixed (by kernel_rfl) (.a 5 rfl<|.v [15,16] (aM (i) rfl) rfl rfl<|.v [17] (aO rfl ((aA _ i (by omega)).trans (by rw[hgi]))) rfl rfl<|.a 5 rfl<|.v [22,23] (aM (j) rfl) rfl rfl<|.v [24] (aO rfl ((aA _ j (by omega)).trans (by rw[hgj]))) rfl rfl<|.a 2 rfl<|.k [0,1,2,7,8] rfl) ?_
  refine ak<|ab (.a 5 rfl<|.v (tK EE rfl FT Js rfl rfl rfl (oR _) rfl) rfl<|.v (Er rfl Iz rfl rfl hmn) rfl<|.k [0,1,2,7,8,32] rfl)<|ah rfl (fun h1=>?_) (fun h1=>?_)
  · obtain ⟨dm1, hdm1⟩ : ∃ z, ij (y : Int) (aw (br T D y false)) dm = z := ⟨_, rfl⟩
    have hdm2:jE T D dm1:=by rw[←hdm1];exact hdm.set hyN
    have hlk:de (y:Int) dm1=some (aw (br T D y false)):=by rw[←hdm1];exact tc _ _ _
    refine dS 18 20 mixed (
      .val [0] rfl (bF rfl) rfl rfl<|
      .val [34] rfl (bF rfl) rfl rfl<|
      .val [35] rfl (bF rfl) rfl rfl<|
      .val [36] rfl (bF rfl) rfl rfl<|
      .val [8] rfl (bF rfl) rfl rfl<|
      .val [0] rfl (bF rfl) rfl rfl<|
      .val [39] rfl (bF rfl) rfl rfl<|
      .val [40] rfl (bF rfl) rfl rfl<|
      .val [41] rfl (bF rfl) rfl rfl<|
      .val [0] rfl (bF rfl) rfl rfl<|
      .val [43] rfl (bF rfl) rfl rfl<|
      .val [44] rfl (bF rfl) rfl rfl<|
      .val [45] rfl (bF rfl) rfl rfl<|
      .val [8] rfl (bF rfl) rfl rfl<|
      .val [42,46,47] rfl (dX rfl (hdi)) rfl rfl<|
      .val [48] rfl (bF rfl) rfl rfl<|
      .val [33] rfl (bF rfl) rfl rfl<|
      .late [33] rfl (si rfl rfl rfl) inferInstance rfl rfl<|
      .nil) (by kernel_rfl) rfl rfl (bm (ks:=[0,1,2,7,8,37,38,49]) rfl) ?_
    refine bd (nj EE rfl FT rfl rfl rfl (oR _) rfl) rfl rfl<|aH [0,1,2,7,8] rfl ?_
    refine eD (σ':=Bh T D p (tO T n p) (tZ T p) dm1 um++[x]) (by rw[←hdm1];rfl) ?_
    refine ak<|ez mixed (by kernel_rfl) (.a 5 rfl<|.v [54,55] (tK EE rfl FT Js rfl rfl rfl (oR _) (by rw[hlk])) rfl rfl<|.a 1 rfl<|.v [56,57] (aM (u) rfl) rfl rfl<|.v [58] (aO rfl (aA _ u (by omega))) rfl rfl<|.a 5 rfl<|.v [63,64] (aM (j) rfl) rfl rfl<|.v [65] (aO rfl ((aA _ j (by omega)).trans (by rw[hkj]))) rfl rfl<|.a 5 rfl<|.v [70,71] (aM (i) rfl) rfl rfl<|.v [72] (aO rfl ((aA _ i (by omega)).trans (by rw[hki]))) rfl rfl<|.v [66,73] (aT rfl) rfl rfl<|.a 1 rfl<|.k [0,7,8,75] rfl) ?_
    refine ah rfl (fun h2=>?_) (fun h2=>?_)
    · have h3:dN T D y u≠cW T (p.take j) - cW T (p.take i):=tt h2
      refine ab (.a 1 rfl<|.k [6] rfl)<|aq<|⟨_,az.of rfl,?_,_,_,hdm2,hum,rfl⟩
      rw[decide_eq_false h3]
      rfl
    · have h3:dN T D y u=cW T (p.take j) - cW T (p.take i):=Classical.byContradiction (ff h2)
      obtain⟨b,hb⟩:∃b:Bool,(de ((u:Int),(y:Int)) um).getD (.raw (.bool false))=flag b:=by
        cases h:de ((u:Int),(y:Int)) um with
        |none=>exact⟨false,rfl⟩
        |some v=>exact⟨_,hum _ _ (iP h)⟩
      refine aj<|aR<|au 2 rfl<|bE (B6 rfl rfl rfl (CE _ _)) rfl<|au 2 rfl<|aH [0,7,8,9] rfl ?_
      refine eD (σ':=Bh T D p (tO T n p) (tZ T p) dm1 um++[x,some (.cells 125 [num u,num y])]) rfl ?_
      refine ez mixed (by kernel_rfl) (.a 5 rfl<|.v [83,84] (ze FJ rfl Gr JV rfl rfl rfl (pD _ _) hb rfl) rfl rfl<|.a 5 rfl<|.k [0,7,8,9,10,11] rfl) ?_
      refine ak<|ab (.a 2 rfl<|.k [0,7,8,9,10,89] rfl)<|ah rfl (fun h4=>?_) (fun h4=>?_)
      · obtain⟨um1,hum1⟩:∃z,ij ((u:Int),(y:Int)) (flag (fx T D u y)) um=z:=⟨_,rfl⟩
        have hum2:kg T D um1:=by rw[←hum1];exact hum.set u y
        refine ez mixed (by kernel_rfl) (.a 10 rfl<|.v [93,97,98,99] (dX rfl (qT T D u y h12)) rfl rfl<|.a 1 rfl<|.k [0,9,10] rfl) ?_
        refine dS 6 20 mixed (
          .val [0] rfl (bF rfl) rfl rfl<|
          .val [101] rfl (bF rfl) rfl rfl<|
          .val [102] rfl (bF rfl) rfl rfl<|
          .val [103] rfl (bF rfl) rfl rfl<|
          .val [9] rfl (bF rfl) rfl rfl<|
          .val [10] rfl (bF rfl) rfl rfl<|
          .nil) (by kernel_rfl) rfl rfl (bm (ks:=[10,104,105,106]) rfl) ?_
        refine bd (nj FJ (k:=((u:Int),(y:Int))) rfl Gr rfl rfl rfl (pD (.int .i64 (u:Int)) (.int .i64 (y:Int))) rfl) rfl rfl<|aH [10] rfl ?_
        refine eD (σ':=Bh T D p (tO T n p) (tZ T p) dm1 um1++[x,some (.cells 125 [num u,num y])]) (by rw[←hum1];rfl) ?_
        obtain⟨b,hbu⟩:∃b,b=fx T D u y:=⟨_,rfl⟩
        refine ab (.a 2 rfl<|.k [6] rfl)<|dp [0,1,2,3,4,5] (.c 6<|.nil) (.kept rfl (.row aE.pure)<|.kept rfl (.row aE.pure)<|.same (jE.pure hdm2) rfl<|.same (kg.pure hum2) rfl<|.kept rfl (.cells (aE.c<|aE.c<|aE.c<|aE.c<|aE.c<|aE.c<|aE.c<|aE.c<|aE.c<|aE.nil))<|.same hx rfl<|.nil) rfl rfl ?_
        refine aq<|⟨_,az.of rfl,?_,_,_,hdm2,hum2,rfl⟩
        rw[decide_eq_true h3,Bool.true_and]
        first
          |rfl
          |(rw[hbu];rfl)
      · have hbu:b=fx T D u y:=by
          cases h:de ((u:Int),(y:Int)) um with
          |none=>rw[h]at h4;cases h4
          |some v=>
            rw[h,hum _ _ (iP h)]at hb
            have:=hb
            simp only[Option.getD_some]at this
            cases this
            rfl
        have hum2:=hum
        obtain⟨um1,hum1⟩:∃z,z=um:=⟨_,rfl⟩
        subst hum1
        refine aj<|ab (.a 2 rfl<|.k [6] rfl)<|dp [0,1,2,3,4,5] (.c 6<|.nil) (.kept rfl (.row aE.pure)<|.kept rfl (.row aE.pure)<|.same (jE.pure hdm2) rfl<|.same (kg.pure hum2) rfl<|.kept rfl (.cells (aE.c<|aE.c<|aE.c<|aE.c<|aE.c<|aE.c<|aE.c<|aE.c<|aE.c<|aE.nil))<|.same hx rfl<|.nil) rfl rfl ?_
        refine aq<|⟨_,az.of rfl,?_,_,_,hdm2,hum2,rfl⟩
        rw[decide_eq_true h3,Bool.true_and]
        first
          |rfl
          |(rw[hbu];rfl)
  · obtain ⟨v, hv1⟩ : ∃ v, de (y : Int) dm = some v := by
      cases h:de (y:Int) dm with
      |none=>rw[h]at h1;cases h1
      |some v=>exact⟨v,rfl⟩
    have hlk:de (y:Int) dm=some (aw (br T D y false)):=by rw[hv1,hdm.look hv1]
    have hdm2:=hdm
    obtain⟨dm1,hdm1⟩:∃z,z=dm:=⟨_,rfl⟩
    subst hdm1
    refine aj<|ak<|ez mixed (by kernel_rfl) (.a 5 rfl<|.v [54,55] (tK EE rfl FT Js rfl rfl rfl (oR _) (by rw[hlk])) rfl rfl<|.a 1 rfl<|.v [56,57] (aM (u) rfl) rfl rfl<|.v [58] (aO rfl (aA _ u (by omega))) rfl rfl<|.a 5 rfl<|.v [63,64] (aM (j) rfl) rfl rfl<|.v [65] (aO rfl ((aA _ j (by omega)).trans (by rw[hkj]))) rfl rfl<|.a 5 rfl<|.v [70,71] (aM (i) rfl) rfl rfl<|.v [72] (aO rfl ((aA _ i (by omega)).trans (by rw[hki]))) rfl rfl<|.v [66,73] (aT rfl) rfl rfl<|.a 1 rfl<|.k [0,7,8,75] rfl) ?_
    refine ah rfl (fun h2=>?_) (fun h2=>?_)
    · have h3:dN T D y u≠cW T (p.take j) - cW T (p.take i):=tt h2
      refine ab (.a 1 rfl<|.k [6] rfl)<|aq<|⟨_,az.of rfl,?_,_,_,hdm2,hum,rfl⟩
      rw[decide_eq_false h3]
      rfl
    · have h3:dN T D y u=cW T (p.take j) - cW T (p.take i):=Classical.byContradiction (ff h2)
      obtain⟨b,hb⟩:∃b:Bool,(de ((u:Int),(y:Int)) um).getD (.raw (.bool false))=flag b:=by
        cases h:de ((u:Int),(y:Int)) um with
        |none=>exact⟨false,rfl⟩
        |some v=>exact⟨_,hum _ _ (iP h)⟩
      refine aj<|aR<|au 2 rfl<|bE (B6 rfl rfl rfl (CE _ _)) rfl<|au 2 rfl<|aH [0,7,8,9] rfl ?_
      refine eD (σ':=Bh T D p (tO T n p) (tZ T p) dm1 um++[x,some (.cells 125 [num u,num y])]) rfl ?_
      refine ez mixed (by kernel_rfl) (.a 5 rfl<|.v [83,84] (ze FJ rfl Gr JV rfl rfl rfl (pD _ _) hb rfl) rfl rfl<|.a 5 rfl<|.k [0,7,8,9,10,11] rfl) ?_
      refine ak<|ab (.a 2 rfl<|.k [0,7,8,9,10,89] rfl)<|ah rfl (fun h4=>?_) (fun h4=>?_)
      · obtain⟨um1,hum1⟩:∃z,ij ((u:Int),(y:Int)) (flag (fx T D u y)) um=z:=⟨_,rfl⟩
        have hum2:kg T D um1:=by rw[←hum1];exact hum.set u y
        refine ez mixed (by kernel_rfl) (.a 10 rfl<|.v [93,97,98,99] (dX rfl (qT T D u y h12)) rfl rfl<|.a 1 rfl<|.k [0,9,10] rfl) ?_
        refine dS 6 20 mixed (
          .val [0] rfl (bF rfl) rfl rfl<|
          .val [101] rfl (bF rfl) rfl rfl<|
          .val [102] rfl (bF rfl) rfl rfl<|
          .val [103] rfl (bF rfl) rfl rfl<|
          .val [9] rfl (bF rfl) rfl rfl<|
          .val [10] rfl (bF rfl) rfl rfl<|
          .nil) (by kernel_rfl) rfl rfl (bm (ks:=[10,104,105,106]) rfl) ?_
        refine bd (nj FJ (k:=((u:Int),(y:Int))) rfl Gr rfl rfl rfl (pD (.int .i64 (u:Int)) (.int .i64 (y:Int))) rfl) rfl rfl<|aH [10] rfl ?_
        refine eD (σ':=Bh T D p (tO T n p) (tZ T p) dm1 um1++[x,some (.cells 125 [num u,num y])]) (by rw[←hum1];rfl) ?_
        obtain⟨b,hbu⟩:∃b,b=fx T D u y:=⟨_,rfl⟩
        refine ab (.a 2 rfl<|.k [6] rfl)<|dp [0,1,2,3,4,5] (.c 6<|.nil) (.kept rfl (.row aE.pure)<|.kept rfl (.row aE.pure)<|.same (jE.pure hdm2) rfl<|.same (kg.pure hum2) rfl<|.kept rfl (.cells (aE.c<|aE.c<|aE.c<|aE.c<|aE.c<|aE.c<|aE.c<|aE.c<|aE.c<|aE.nil))<|.same hx rfl<|.nil) rfl rfl ?_
        refine aq<|⟨_,az.of rfl,?_,_,_,hdm2,hum2,rfl⟩
        rw[decide_eq_true h3,Bool.true_and]
        first
          |rfl
          |(rw[hbu];rfl)
      · have hbu:b=fx T D u y:=by
          cases h:de ((u:Int),(y:Int)) um with
          |none=>rw[h]at h4;cases h4
          |some v=>
            rw[h,hum _ _ (iP h)]at hb
            have:=hb
            simp only[Option.getD_some]at this
            cases this
            rfl
        have hum2:=hum
        obtain⟨um1,hum1⟩:∃z,z=um:=⟨_,rfl⟩
        subst hum1
        refine aj<|ab (.a 2 rfl<|.k [6] rfl)<|dp [0,1,2,3,4,5] (.c 6<|.nil) (.kept rfl (.row aE.pure)<|.kept rfl (.row aE.pure)<|.same (jE.pure hdm2) rfl<|.same (kg.pure hum2) rfl<|.kept rfl (.cells (aE.c<|aE.c<|aE.c<|aE.c<|aE.c<|aE.c<|aE.c<|aE.c<|aE.c<|aE.nil))<|.same hx rfl<|.nil) rfl rfl ?_
        refine aq<|⟨_,az.of rfl,?_,_,_,hdm2,hum2,rfl⟩
        rw[decide_eq_true h3,Bool.true_and]
        first
          |rfl
          |(rw[hbu];rfl)
end PW
end Go.Proofs.YtnegbdpggideiaaGreatDoor
namespace Go.Proofs.YtnegbdpggideiaaGreatDoor
namespace PW
open Go.RowKit cE Mem Net
theorem qE(l:List bY)(e:bY):eB l++mU e=eB (l++[e]):=by simp[eB]
theorem lQ(l:List bY):(eB l).length=l.length*2:=by
 induction l with
 |nil=>rfl
 |cons a l ih=>simp only[eB,List.flatMap_cons,List.length_append,List.length_cons]at*;rw[ih];simp[mU];omega
def kJ(c:Nat→Bool)(i:Nat):Nat→Option Nat
 |0=>none
 |m+1=>if m+1≤i then none else if c (m+1) then some (m+1) else kJ c i m
theorem sx{c:Nat→Bool}{i j:Nat}(hij:i<j)(hc:c j=true):∀m,j≤m→(∀k,j<k→k≤m→c k=false)→kJ c i m=some j
 |0,h,_=>by omega
 |m+1,h,hn=>by
  unfold kJ
  rw[if_neg (by omega)]
  by_cases e:j=m+1
  ·subst e;rw[if_pos hc]
  ·rw[if_neg (by rw[hn (m+1) (by omega) (by omega)];simp)]
   exact sx hij hc m (by omega) (fun k h1 h2=>hn k h1 (by omega))
theorem sf{c:Nat→Bool}{i:Nat}:∀m,(∀k,i<k→k≤m→c k=false)→kJ c i m=none
 |0,_=>rfl
 |m+1,hn=>by
  unfold kJ
  by_cases e:m+1≤i
  ·rw[if_pos e]
  ·rw[if_neg e,if_neg (by rw[hn (m+1) (by omega) (by omega)];simp)]
   exact sf m (fun k h1 h2=>hn k h1 (by omega))
theorem nT{c:Nat→Bool}{i:Nat}:∀m j,kJ c i m=some j→i<j∧j≤m∧c j=true∧∀k,j<k→k≤m→c k=false
 |0,j,h=>by cases h
 |m+1,j,h=>by
  unfold kJ at h
  split at h
  ·cases h
  ·split at h
   ·cases h;rename_i h1 h2;exact⟨by omega,by omega,h2,fun k h3 h4=>by omega⟩
   ·rename_i h1 h2
    obtain⟨a,b,c1,d⟩:=nT m j h
    refine⟨a,by omega,c1,fun k h3 h4=>?_⟩
    by_cases e:k=m+1
    ·subst e;simpa using h2
    ·exact d k h3 (by omega)
theorem jm{c:Nat→Bool}{i:Nat}:∀m,kJ c i m=none→∀k,i<k→k≤m→c k=false
 |0,_,k,h1,h2=>by omega
 |m+1,h,k,h1,h2=>by
  unfold kJ at h
  split at h
  ·omega
  ·split at h
   ·cases h
   ·rename_i h3 h4
    by_cases e:k=m+1
    ·subst e;simpa using h4
    ·exact jm m h k h1 (by omega)
noncomputable def hJ(T:ai)(D:List Bool)(n:Int)(p:List Int):Nat→Nat→List bY
 |0,_=>[]
 |f+1,i=>if i<p.length then(match kJ (eV T D n p i) i p.length with
  |some j=>⟨1,cD T n (p.take j)⟩::hJ T D n p f j
  |none=>⟨2,p.getD i 0⟩::hJ T D n p f (i+1)) else []
noncomputable def iJ(T:ai)(D:List Bool)(n:Int)(p:List Int):List bY:=hJ T D n p p.length 0
section
variable {T:ai} {D:List Bool} {n:Int} {p:List Int}
theorem nv(f i:Nat)(h:p.length≤i):hJ T D n p f i=[]:=by
 cases f with
 |zero=>rfl
 |succ f=>simp only[hJ];rw[if_neg (by omega)]
theorem jS{f i j:Nat}(hi:i<p.length)(hij:i<j)(hj:j≤p.length)(hc:eV T D n p i j=true)(hno:∀k,j<k→k≤p.length→eV T D n p i k=false):hJ T D n p (f+1) i=⟨1,cD T n (p.take j)⟩::hJ T D n p f j:=by
 simp only[hJ]
 rw[if_pos hi,sx hij hc p.length hj hno]
theorem lH{f i:Nat}(hi:i<p.length)(hno:∀k,i<k→k≤p.length→eV T D n p i k=false):hJ T D n p (f+1) i=⟨2,p.getD i 0⟩::hJ T D n p f (i+1):=by
 simp only[hJ]
 rw[if_pos hi,sf p.length hno]
theorem oq:∀ {f:Bool} {x:Int} {l m:List Int},ec T f x (l++m)=0→ec T f x l=0∧∃g,ec T g (cD T x l) m=0
 |f,x,[],m,h=>⟨rfl,f,h⟩
 |f,x,a::l,m,h=>by
  simp only[List.cons_append,ec]at h ⊢
  split at h
  ·omega
  ·rename_i h1
   rw[if_neg h1]
   split at h
   ·omega
   ·rename_i h2
    rw[if_neg h2]
    exact oq h
theorem zx(hv:ao T=true):∀ {f:Bool} {x:Nat} {l:List Int} {y:Nat},ec T f x l=0→(∀a∈l,aL D a.toNat=false)→cD T x l=(y:Int)→Ch T D y x l
 |f,x,[],y,_,_,he=>by
  have:y=x:=by simp only[cD]at he;omega
  subst this
  exact .nil
 |f,x,a::l,y,h,hd,he=>by
  simp only[ec]at h
  split at h
  ·omega
  ·rename_i h1
   split at h
   ·omega
   ·rename_i h2
    have hab:fy T a=true:=by simpa using h1
    obtain⟨_,m,hm,hmN⟩:=jX hv hab
    simp only[fy,decide_eq_true_eq]at hab
    obtain⟨b,rfl⟩:=Int.eq_ofNat_of_zero_le hab.1
    rw[Int.toNat_natCast]at hm
    simp only[cD,Int.toNat_natCast]at he h2 h
    rw[hm]at he h
    have hch:=zx hv h (fun c hc=>hd c (by simp[hc])) he
    refine .cons (by omega) (Classical.byContradiction fun hn=>h2 (.inl hn)) (hd b (by simp)) hm ?_ hch
    cases l with
    |nil=>exact .inl rfl
    |cons c l=>
     right
     simp only[ec]at h
     split at h
     ·omega
     ·split at h
      ·omega
      ·rename_i h4
       simp only[Int.toNat_natCast]at h4
       cases ho:cR T m with
       |false=>rfl
       |true=>exact absurd (.inr ⟨trivial,ho⟩) h4
structure pz (T:ai) (D:List Bool) (n:Int) (p:List Int):Prop where
 valid:ao T=true
 fits:bP T D=true
 node:bn T n=true
 walk:ec T true n p=0
 up:∀a∈p,aL D a.toNat=false
theorem Dt(h:fA T D n p=0):pz T D n p:=by
 unfold fA at h
 split at h
 ·rename_i h1
  obtain⟨hv,hf⟩:=Bool.and_eq_true_iff.1 h1
  split at h
  ·rename_i h2
   obtain⟨_,hn,hw⟩:=mH h2
   split at h
   ·omega
   ·rename_i h3
    exact⟨hv,hf,hn,hw,fun a ha=>by
     cases hd:aL D a.toNat with
     |false=>rfl
     |true=>exact absurd (List.any_eq_true.2 ⟨a,ha,hd⟩) h3⟩
  ·omega
 ·omega
theorem pz.aI(h:pz T D n p):∀a∈p,fy T a=true:=lR h.walk
def eA(p:List Int)(i j:Nat):List Int:=(p.drop i).take (j - i)
theorem iQ(p:List Int){i j:Nat}(hij:i≤j):p.take j=p.take i++eA p i j:=by
 unfold eA
 have h:(p.take j)=(p.take j).take i++(p.take j).drop i:=(List.take_append_drop i _).symm
 rw[h,List.take_take,Nat.min_eq_left hij,List.drop_take]
theorem nm(p:List Int){i j:Nat}(hij:i≤j)(hj:j≤p.length):(eA p i j).length=j - i:=by unfold eA;simp;omega
theorem pz.ch(h:pz T D n p){i j u y:Nat}(hij:i≤j)(hj:j≤p.length)(hu:cD T n (p.take i)=(u:Int))(hy:cD T n (p.take j)=(y:Int)):Ch T D y u (eA p i j):=by
 have h1:ec T true n (p.take j)=0:=(oq (l:=p.take j) (m:=p.drop j) (by rw[List.take_append_drop];exact h.walk)).1
 rw[iQ p hij]at h1
 obtain⟨_,g,hg⟩:=oq h1
 rw[hu]at hg
 refine zx h.valid hg (fun a ha=>h.up a ?_) ?_
 ·exact List.mem_of_mem_drop (List.mem_of_mem_take ha)
 ·rw[←hu,←lx,←iQ p hij];exact hy
theorem BH(T:ai)(p:List Int){i j:Nat}(hij:i≤j):cW T (p.take j) - cW T (p.take i)=cW T (eA p i j):=by
 rw[iQ p hij,gr];omega
theorem lJ(h:pz T D n p){i j u y:Nat}(hij:i≤j)(hj:j≤p.length)(hu:cD T n (p.take i)=(u:Int))(hy:cD T n (p.take j)=(y:Int)):eV T D n p i j=true↔SP T D y u (eA p i j)∧dJ T D y u=1:=by
 have hch:=h.ch hij hj hu hy
 have ha:=h.aI
 obtain⟨u',hu',huN⟩:=cp h.valid h.node ha i (by omega)
 obtain⟨y',hy',hyN⟩:=cp h.valid h.node ha j hj
 have e1:u'=u:=by omega
 have e2:y'=y:=by omega
 subst e1
 subst e2
 have hne:cc T D (u':Int) (y':Int)=0:=by
  unfold cc
  rw[if_pos (tP h.valid h.fits hyN),aU.2 ⟨by omega,huN⟩]
  rfl
 unfold eV fx
 rw[hu,hy,Int.toNat_natCast,Int.toNat_natCast,BH T p hij,hne]
 simp only[decide_true,Bool.true_and,Bool.and_eq_true,decide_eq_true_eq]
 constructor
 ·rintro⟨h1,h2⟩;exact⟨hch.sp h.valid hyN h1,h2⟩
 ·rintro⟨h1,h2⟩;exact⟨(h1.cost h.valid hyN).1,h2⟩
theorem FG(h:pz T D n p){i j:Nat}(hij:i≤j)(hj:j≤p.length)(hc:eV T D n p i j=true):(j:Int) - i<T.nodes:=by
 have ha:=h.aI
 obtain⟨u,hu,huN⟩:=cp h.valid h.node ha i (by omega)
 obtain⟨y,hy,hyN⟩:=cp h.valid h.node ha j hj
 have:=((lJ h hij hj hu hy).1 hc).1.DQ h.valid hyN
 rw[nm p hij hj]at this
 omega
end
def so(e:Int)(l:List bY):PV:=.tuple [cH (if e=0 then l else []),num e]
def wP(l:List bY):Option cU:=some (.row 103 2 l.length (eB l))
theorem AD(l:List bY):kD (wP l):=fun b hb=>by cases hb;exact(inferInstance:aJ (eB l))
theorem yF(T:ai)(D:List Bool)(p:List Int)(n:Int)(hp:p.length≤1000)(hlk:T.ae.length≤256):bU Tryz.prog 111 [aN T,aY D,aw p,num n] [] (fun r σ'=>∃x,r= .tuple [x,num (fA T D n p)]∧(fA T D n p=0→x= .ptr 4 0∧σ'=Bh T D p (tO T n p) (tZ T p) [] [])):=
 bU.mono (yG T D p n hp hlk) fun r σ' h=>by
  rcases h with⟨he,rfl⟩|⟨he,rfl,rfl⟩
  ·exact⟨_,rfl,fun h=>absurd h he⟩
  ·exact⟨_,by rw[he],fun _=>⟨rfl,rfl⟩⟩
set_option maxHeartbeats 2000000 in
theorem A6(T:ai)(D:List Bool)(p:List Int)(n:Int)(hp:p.length≤1000)(hlk:T.ae.length≤256)(h12:T.nodes≤12):Can Tryz.prog 54 [aN T,aY D,aw p,num n] (· =so (fA T D n p) (iJ T D n p)):=by
  refine aG Tryz.func54 rfl Tryz.ntmps54 rfl<|ab (.a 3 rfl<|.k [1,2,3,4] rfl)<|zH ?_
  refine aR<|au 4 rfl<|cQ rfl rfl (bU.mono (yF T D p n hp hlk) (fun r σ' h=>?_))
  obtain⟨x,rfl,hx⟩:=h
  refine au 5 rfl<|aH [2,4,10,11] rfl ?_
  refine ak<|ab (.a 2 rfl<|.k [2,4,10,11,24] rfl)<|ah rfl (fun hc=>?_) (fun hc=>?_)
  · have he:fA T D n p≠0:=tt hc
    exact ab (.a 3 rfl<|.k [8,9] rfl)<|aq<|⟨_,_,az.of rfl,aC.bz (an.cons aC.b7 (an.cons aC.pure an.nil)),by unfold so;rw[if_neg he];rfl⟩
  · have he:fA T D n p=0:=Classical.byContradiction (ff hc)
    obtain⟨rfl,rfl⟩:=hx he
    have hF:=Dt he
    have hv:=hF.valid
    have hS:=aK hv
    have hN:=hS.nodes
    have ha:=hF.aI
    obtain⟨N,hNN⟩:∃N:Nat,T.nodes=(N:Int):=⟨T.nodes.toNat,by omega⟩
    rw[he]
    clear hc
    refine aj<|ab (.a 1 rfl<|.k [2,4,10,12] rfl)<|gM 12 103 2 rfl ?_
    refine ab (.a 1 rfl<|.k [2,4,10,12,13] rfl)<|ak<|zq ?_
    refine ak<|av<|fp [2,4,10,12,13] rfl<|bq (fun r st=>∃(l:List bY) (i f:Nat) (dm:List (Int×PV)) (um:List ((Int×Int)×PV)),i≤p.length∧p.length - i≤f∧l.length≤i∧r=p.length - i∧iJ T D n p=l++hJ T D n p f i∧jE T D dm∧kg T D um∧st=⟨[(2,aw p),(4,.aX (bw T) 0),(10,.ptr 4 0),(12,.own 5),(13,num i)],Bh T D p (tO T n p) (tZ T p) dm um++[wP l]⟩) p.length ⟨[],0,p.length,[],[],by omega,by omega,by simp,by omega,rfl,(fun _ _ h=>by cases h),(fun _ _ h=>by cases h),rfl⟩ ?_
    rintro r st ⟨l,i,f,dm,um,hi,hif,hli,rfl,hl,hdm,hum,rfl⟩
    refine ak<|ab (.a 4 rfl<|.k [2,4,10,12,13,29] rfl)<|ah rfl (fun h1=>?_) (fun h1=>?_)
    · have hlt:i<p.length:=by have:=tt h1;omega
      refine aj<|av<|ak ?_
      obtain⟨m,hm⟩:∃m:Nat,min (p.length:Int) ((i:Int)+(N:Int) - 1)=(m:Int):=⟨(min (p.length:Int) ((i:Int)+(N:Int) - 1)).toNat,by omega⟩
      have hfar:∀k,m<k→k≤p.length→eV T D n p i k=false:=fun k h2 h3=>by
        cases hcv:eV T D n p i k with
        |false=>rfl
        |true=>
          have:=FG hF (i:=i) (j:=k) (by omega) h3 hcv
          omega
      refine ab (.a 4 rfl<|.v (aO rfl ((show some (num T.nodes)=some (num (N:Int)) by rw[hNN]))) rfl<|.v (aT rfl) rfl<|.v (aT rfl) rfl<|.v (zN rfl rfl rfl (hm)) rfl<|.a 1 rfl<|.k [2,4,10,12,13,14] rfl)<|av<|fp [2,4,10,12,13,14] rfl<|bq (fun r st=>∃(j:Nat) (dm:List (Int×PV)) (um:List ((Int×Int)×PV)),i≤j∧j≤p.length∧r=j∧(∀k,j<k→k≤p.length→eV T D n p i k=false)∧jE T D dm∧kg T D um∧st=⟨[(2,aw p),(4,.aX (bw T) 0),(10,.ptr 4 0),(12,.own 5),(13,num i),(14,num j)],Bh T D p (tO T n p) (tZ T p) dm um++[wP l]⟩) m ⟨m,dm,um,by omega,by omega,rfl,hfar,hdm,hum,rfl⟩ ?_
      clear hdm hum
      rintro r st ⟨j,dm,um,hij,hj,rfl,hno,hdm,hum,rfl⟩
      refine ak<|ab (.a 3 rfl<|.k [2,4,10,12,13,14,40] rfl)<|ah rfl (fun h2=>?_) (fun h2=>?_)
      · have hlt2:i<r:=by have:=tt h2;omega
        refine aj<|ak<|av<|aR<|au 3 rfl<|cQ rfl rfl (bU.mono (vp T D p n dm um (wP l) (AD l) hv hF.fits h12 hF.node ha hp i r (by omega) hj hdm hum) (fun _ σ' h=>?_))
        obtain⟨rfl,dm1,um1,hdm1,hum1,rfl⟩:=h
        refine aH [2,4,10,12,13,14,46] rfl ?_
        refine ah rfl (fun h3=>?_) (fun h3=>?_)
        · have hgj:=ug T n p r hj
          have hl1:=uk T n p
          refine aR<|au 6 rfl<|bE (aM (r) rfl) rfl<|bE (aO rfl ((aA _ r (by omega)).trans (by rw[hgj]))) rfl<|au 2 rfl<|cz (bA rfl (bL.rk.get rfl) rfl rfl rfl rfl (by unfold maxLen;omega)) rfl<|au 1 rfl ?_
          refine ee [0,1,2,3,4,6] (.c 2<|.c 4<|.c 10<|.c 12<|.c 14<|.nil) (.kept rfl (.row aE.pure)<|.kept rfl (.row aE.pure)<|.same (jE.pure hdm1) rfl<|.same (kg.pure hum1) rfl<|.kept rfl (.cells (aE.c<|aE.c<|aE.c<|aE.c<|aE.c<|aE.c<|aE.c<|aE.c<|aE.c<|aE.nil))<|.kept rfl (.fm rfl (qE _ ⟨1,cD T n (p.take r)⟩))<|.nil) rfl rfl (aZ ?_)
          refine ab (.a 2 rfl<|.k [2,4,10,12,13] rfl)<|bf ?_
          cases f with
          |zero=>omega
          |succ f=>
            first
              | (refine ⟨p.length - r, by omega, l ++ [⟨1, cD T n (p.take r)⟩], r, f, dm1, um1, by omega, by omega, by simp; omega, rfl, ?_, hdm1, hum1, ?_⟩
                 · rw[hl,jS hlt hlt2 hj h3 hno,List.append_assoc];rfl
                 · unfold wP;simp only[List.length_append,List.length_singleton];rfl)
              | (refine ⟨p.length - (i + 1), by omega, l ++ [⟨2, p.getD i 0⟩], i + 1, f, dm, um, by omega, by omega, by simp; omega, rfl, ?_, hdm, hum, ?_⟩
                 · rw[hl,lH hlt hno2,List.append_assoc];rfl
                 · unfold wP;simp only[List.length_append,List.length_singleton];rfl)
        · skip
          refine aj<|aB (.a 1 rfl<|.v (aT rfl) rfl<|.a 1 rfl<|.k [2,4,10,12,13,14] rfl) ?_
          refine⟨r - 1,by omega,r - 1,dm1,um1,by omega,by omega,rfl,fun k h4 h5=>?_,hdm1,hum1,?_⟩
          · by_cases e:k=r
            · rw[e];exact h3
            · exact hno k (by omega) h5
          · rw[show((r - 1:Nat):Int)=(r:Int) - 1 by omega]
      · have hno2:∀k,i<k→k≤p.length→eV T D n p i k=false:=fun k h3 h4=>hno k (by have:=ff h2;omega) h4
        refine bf<|aR<|au 3 rfl<|bE (aM (i) rfl) rfl<|bE (aO rfl (aA _ i hlt)) rfl<|au 2 rfl<|cz (bA rfl (bL.rk.get rfl) rfl rfl rfl rfl (by unfold maxLen;omega)) rfl<|au 1 rfl ?_
        refine ee [0,1,2,3,4,6] (.c 2<|.c 4<|.c 10<|.c 12<|.c 13<|.nil) (.kept rfl (.row aE.pure)<|.kept rfl (.row aE.pure)<|.same (jE.pure hdm) rfl<|.same (kg.pure hum) rfl<|.kept rfl (.cells (aE.c<|aE.c<|aE.c<|aE.c<|aE.c<|aE.c<|aE.c<|aE.c<|aE.c<|aE.nil))<|.kept rfl (.fm rfl (qE _ ⟨2,p.getD i 0⟩))<|.nil) rfl rfl (aZ ?_)
        refine aB (.a 1 rfl<|.v (aT rfl) rfl<|.a 1 rfl<|.k [2,4,10,12,13] rfl) ?_
        cases f with
        |zero=>omega
        |succ f=>
          first
            | (refine ⟨p.length - r, by omega, l ++ [⟨1, cD T n (p.take r)⟩], r, f, dm1, um1, by omega, by omega, by simp; omega, rfl, ?_, hdm1, hum1, ?_⟩
               · rw[hl,jS hlt hlt2 hj h3 hno,List.append_assoc];rfl
               · unfold wP;simp only[List.length_append,List.length_singleton];rfl)
            | (refine ⟨p.length - (i + 1), by omega, l ++ [⟨2, p.getD i 0⟩], i + 1, f, dm, um, by omega, by omega, by simp; omega, rfl, ?_, hdm, hum, ?_⟩
               · rw[hl,lH hlt hno2,List.append_assoc];rfl
               · unfold wP;simp only[List.length_append,List.length_singleton];rfl)
    · have hie:i=p.length:=by have:=ff h1;omega
      rw[nv f i (by omega),List.append_nil]at hl
      exact bf<|ab (.a 3 rfl<|.k [8,9] rfl)<|aq<|⟨_,_,az.of rfl,aC.bz (an.cons (aC.fu rfl an.pure) (an.cons aC.pure an.nil)),by unfold so;rw[if_pos rfl,hl];rfl⟩
end PW
end Go.Proofs.YtnegbdpggideiaaGreatDoor
namespace Go.Proofs.YtnegbdpggideiaaGreatDoor
namespace PW
open Go.RowKit cE Mem Net
section
variable {T:ai} {D:List Bool} {d:Nat}
theorem zw(hv:ao T=true)(hd:(d:Int)<T.nodes):∀(K m:Nat),(m:Int)<T.nodes→0≤dN T D d m→dN T D d m≤K→dJ T D d m≠1→∃p q,SP T D d m p∧SP T D d m q∧p≠q
 |K,m,hmN,h0,hK,hc=>by
  by_cases hmd:m=d
  ·subst hmd;exact absurd (nR m) hc
  ·obtain⟨k,hk⟩:=jt (D:=D) hv hmN hd hmd h0
   have hmem:=eR hk ((aK hv).cost k hk.eM).1
   cases hx:bx T D m d with
   |nil=>rw[hx]at hmem;cases hmem
   |cons a l=>
    obtain⟨b,rfl,hb⟩:=cO (T:=T) (D:=D) (n:=m) (d:=d) (a:=a) (by rw[hx];simp)
    obtain⟨x,hxh,hxN⟩:=dx hv hb.eM
    have gx:=hb.dN hxh
    have cx:=(aK hv).cost b hb.eM
    cases l with
    |nil=>
     cases K with
     |zero=>omega
     |succ K=>
      have hcx:dJ T D d x≠1:=fun h=>hc (xH hv hd hmN hmd hx hxh h)
      obtain⟨p,q,h1,h2,h3⟩:=zw hv hd K x hxN gx.1 (by omega) hcx
      exact⟨b::p,b::q,.cons hb hxh h1,.cons hb hxh h2,fun e=>h3 (List.cons.inj e).2⟩
    |cons a2 l=>
     obtain⟨b2,rfl,hb2⟩:=cO (T:=T) (D:=D) (n:=m) (d:=d) (a:=a2) (by rw[hx];simp)
     obtain⟨x2,hxh2,hxN2⟩:=dx hv hb2.eM
     have gx2:=hb2.dN hxh2
     refine⟨b::b9 T D x d,b2::b9 T D x2 d,.cons hb hxh (dU hv hd hxN gx.1),.cons hb2 hxh2 (dU hv hd hxN2 gx2.1),fun e=>?_⟩
     have he:=(List.cons.inj e).1
     have hlt:=lz T D m d
     rw[hx]at hlt
     have:=(List.pairwise_cons.1 hlt).1 (b2:Int) (by simp)
     omega
theorem Ch.append{e n:Nat}{p q:List Int}(h:Ch T D e n p)(hq:Ch T D d e q)(ho:q=[]∨cR T e=false):Ch T D d n (p++q):=by
 induction h with
 |nil=>exact hq
 | @cons n a m p ha ht hu hm hov hp ih=>
  refine .cons ha ht hu hm ?_ ih
  rcases hov with h|h
  ·subst h
   have:=hp.to rfl
   subst this
   rcases ho with h|h
   ·subst h;exact .inl rfl
   ·exact .inr h
  ·exact .inr h
theorem SP.suffix(hv:ao T=true)(hd:(d:Int)<T.nodes){e:Nat}:∀ {n:Nat} {p q:List Int},SP T D d n (p++q)→dJ T D d n=1→Ch T D e n p→SP T D d e q∧dJ T D d e=1
 |n,[],q,h,hc,hch=>by
  have:=hch.to rfl
  subst this
  exact⟨h,hc⟩
 |n,a::p,q,h,hc,hch=>by
  cases h with
  | @cons _ b m _ h1 hm hp=>
   cases hch with
   | @cons _ b2 m2 _ _ _ _ hm2 _ hch2=>
    have:m2=m:=by rw[hm]at hm2;omega
    subst this
    obtain⟨b3,h3,_,h4⟩:=tN hv hd (h1.node hv) h1.ne hc
    have e1:=eR h1 ((aK hv).cost b h1.eM).1
    rw[h3]at e1
    simp only[List.mem_singleton]at e1
    have:b3=b:=by omega
    subst this
    exact SP.suffix hv hd hp (h4 m2 hm) hch2
theorem SP.pre(hv:ao T=true)(hd:(d:Int)<T.nodes){e n:Nat}{p q:List Int}(he:(e:Int)<T.nodes)(h:SP T D d n (p++q))(hc:dJ T D d n=1)(hp:Ch T D e n p)(hq:Ch T D d e q)(ho:q=[]∨cR T e=false):SP T D e n p∧dJ T D e n=1:=by
 have hcost:=(h.cost hv hd).1
 rw[gr]at hcost
 have hle:=hp.le hv he
 have hn:=hp.node hv he
 have hspe:SP T D e n p:=by
  refine hp.sp hv he ?_
  have hs:=dU hv he hn hle.1
  have hc2:=(hs.cost hv he).1
  have:=((hs.ch).append hq ho).le hv hd
  rw[gr]at this
  omega
 refine⟨hspe,Classical.byContradiction fun h1=>?_⟩
 obtain⟨p1,p2,g1,g2,g3⟩:=zw hv he (dN T D e n).toNat n hn hle.1 (by omega) h1
 have key:∀r,SP T D e n r→SP T D d n (r++q):=fun r hr=>by
  refine((hr.ch).append hq ho).sp hv hd ?_
  rw[gr,hcost,←(hr.cost hv he).1,(hspe.cost hv he).1]
 have:=(key p1 g1).unique hv hd (key p2 g2) hc
 exact g3 (List.append_cancel_right this)
theorem Ch.JY{e:Nat}:∀ {n:Nat} {p q:List Int},Ch T D d n (p++q)→p≠[]→Ch T D e n p→q=[]∨cR T e=false
 |n,[],q,_,h,_=>absurd rfl h
 |n,a::p,q,h,_,hch=>by
  cases h with
  | @cons _ b m _ _ _ _ hm hov hp=>
   cases hch with
   | @cons _ b2 m2 _ _ _ _ hm2 _ hch2=>
    have:m2=m:=by rw[hm]at hm2;omega
    subst this
    cases p with
    |nil=>
     have:=hch2.to rfl
     subst this
     exact hov
    |cons c p=>exact Ch.JY hp (by simp) hch2
variable {n:Int} {p:List Int}
theorem kz(p:List Int){i j k:Nat}(h1:i≤j)(h2:j≤k):eA p i k=eA p i j++eA p j k:=by
 have e1:=iQ p (show i≤k by omega)
 have e2:=iQ p h2
 rw[iQ p h1,List.append_assoc]at e2
 rw[e1]at e2
 exact List.append_cancel_left e2
theorem ES(h:pz T D n p){i j i' j':Nat}(h1:i≤i')(h2:i'<j')(h3:j'≤j)(hj:j≤p.length)(hc:eV T D n p i j=true):eV T D n p i' j'=true:=by
 have ha:=h.aI
 have hv:=h.valid
 obtain⟨u,hu,huN⟩:=cp hv h.node ha i (by omega)
 obtain⟨y,hy,hyN⟩:=cp hv h.node ha j hj
 obtain⟨u',hu',huN'⟩:=cp hv h.node ha i' (by omega)
 obtain⟨y',hy',hyN'⟩:=cp hv h.node ha j' (by omega)
 obtain⟨c1,c2⟩:=(lJ h (by omega) hj hu hy).1 hc
 rw[kz p h1 (show i'≤j by omega)]at c1
 obtain⟨c3,c4⟩:=c1.suffix hv hyN c2 (h.ch h1 (by omega) hu hu')
 rw[kz p (show i'≤j' by omega) h3]at c3
 have hp:=h.ch (show i'≤j' by omega) (by omega) hu' hy'
 have hq:=h.ch h3 hj hy' hy
 have ho:=c3.ch.JY (e:=y') (by
  intro e
  have:=nm p (show i'≤j' by omega) (by omega)
  rw[e]at this
  simp at this
  omega) hp
 exact(lJ h (by omega) (by omega) hu' hy').2 (c3.pre hv hyN hyN' c4 hp hq ho)
end
end PW
end Go.Proofs.YtnegbdpggideiaaGreatDoor
namespace Go.Proofs.YtnegbdpggideiaaGreatDoor
namespace PW
open Go.RowKit cE Mem Net
section
variable {T:ai} {D:List Bool} {n:Int} {p:List Int}
theorem DT{i k:Nat}{a:Int}(h:a∈eA p i k):a∈p:=List.mem_of_mem_drop (List.mem_of_mem_take h)
theorem oM(h:pz T D n p){i:Nat}(hi:i<p.length){x:Nat}(hx:cD T n (p.take i)=(x:Int)):bb T (p.getD i 0).toNat=(x:Int):=by
 have ha:=h.aI
 obtain⟨y,hy,hyN⟩:=cp h.valid h.node ha (i+1) hi
 have hch:=h.ch (i:=i) (j:=i+1) (by omega) hi hx hy
 have hp:eA p i (i+1)=[p.getD i 0]:=by
  unfold eA
  rw[drop_cons p i hi,show i+1 - i=1 by omega]
  rfl
 rw[hp]at hch
 generalize p.getD i 0=a at hch
 cases hch with
 |cons _ h2 _ _ _ _=>exact h2
end
section
variable {T:ai} {D:List Bool} {n:Int} {p:List Int}
end
end PW
end Go.Proofs.YtnegbdpggideiaaGreatDoor
namespace Go.Proofs.YtnegbdpggideiaaGreatDoor
namespace PW
open Go.RowKit cE Mem Net
def yQ(T:ai)(s:bY)(n:Int):Int×Int:=if nx T s=false then(0,1) else if bn T n=false then(0,2) else if s.kind=1 then(s.num,0) else if s.kind=2 then(if bb T s.num.toNat≠n then(0,4) else(aS T s.num.toNat,0)) else(0,7)
theorem AP(l:List bY)(k:Nat)(h:k<l.length):∃s,l[k]? =some s∧l.drop k=s::l.drop (k+1):=⟨l[k],List.getElem?_eq_getElem h,List.drop_eq_getElem_cons h⟩
end PW
end Go.Proofs.YtnegbdpggideiaaGreatDoor
namespace Go.Proofs.YtnegbdpggideiaaGreatDoor
namespace PW
open Go.RowKit cE Mem Net
def mS(T:ai)(n:Int)(p:List Int)(x:Int):Nat→Nat→Nat
 |0,i=>i
 |f+1,i=>if cD T n (p.take i)=x then i else mS T n p x f (i+1)
noncomputable def jv(T:ai)(D:List Bool)(n:Int)(p:List Int)(i:Nat)(s:bY):Option Nat:=
 if s.kind=2∧i<p.length∧p.getD i 0=s.num then some (i+1)
 else if s.kind=1 then(if cD T n (p.take (mS T n p s.num (p.length - i) i))=s.num∧eV T D n p i (mS T n p s.num (p.length - i) i)=true then some (mS T n p s.num (p.length - i) i) else none)
 else none
noncomputable def G7(T:ai)(D:List Bool)(n:Int)(p:List Int):Nat→List bY→Bool
 |i,[]=>decide (i=p.length)
 |i,s::l=>match jv T D n p i s with
  |some j=>G7 T D n p j l
  |none=>false
section
variable {T:ai} {D:List Bool} {n:Int} {p:List Int}
theorem xp(x:Int):∀f i,i≤mS T n p x f i∧mS T n p x f i≤i+f
 |0,i=>by simp[mS]
 |f+1,i=>by
  simp only[mS]
  split
  ·omega
  ·have:=xp x f (i+1);omega
theorem Dp(x:Int):∀f i k,i≤k→k<mS T n p x f i→cD T n (p.take k)≠x
 |0,i,k,h1,h2=>by simp only[mS]at h2;omega
 |f+1,i,k,h1,h2=>by
  simp only[mS]at h2
  split at h2
  ·omega
  ·rename_i h3
   by_cases e:k=i
   ·subst e;exact h3
   ·exact Dp x f (i+1) k (by omega) h2
theorem tB(x:Int):∀f i j,i≤j→j≤i+f→cD T n (p.take j)=x→(∀k,i≤k→k<j→cD T n (p.take k)≠x)→mS T n p x f i=j
 |0,i,j,h1,h2,_,_=>by simp only[mS];omega
 |f+1,i,j,h1,h2,h3,h4=>by
  simp only[mS]
  by_cases e:i=j
  ·subst e;rw[if_pos h3]
  ·rw[if_neg (h4 i (Nat.le_refl _) (by omega))]
   exact tB x f (i+1) j (by omega) (by omega) h3 (fun k h5 h6=>h4 k (by omega) h6)
theorem Ch.fin{d:Nat}{m:Nat}{q:List Int}(h:Ch T D d m q):cD T (m:Int) q=(d:Int):=by
 induction h with
 |nil=>rfl
 | @cons n a m p ha ht hu hm ho hp ih=>simp only[cD,Int.toNat_natCast,hm];exact ih
theorem oH(h:pz T D n p){i j:Nat}(hij:i≤j)(hj:j≤p.length)(hc:eV T D n p i j=true):mS T n p (cD T n (p.take j)) (p.length - i) i=j:=by
 have ha:=h.aI
 have hv:=h.valid
 refine tB _ _ _ _ hij (by omega) rfl fun k h1 h2 he=>?_
 obtain⟨u,hu,huN⟩:=cp hv h.node ha i (by omega)
 obtain⟨y,hy,hyN⟩:=cp hv h.node ha j hj
 obtain⟨z,hz,hzN⟩:=cp hv h.node ha k (by omega)
 have hzy:z=y:=by omega
 subst hzy
 obtain⟨c1,c2⟩:=(lJ h hij hj hu hy).1 hc
 rw[kz p h1 (show k≤j by omega)]at c1
 obtain⟨c3,c4⟩:=c1.suffix hv hyN c2 (h.ch h1 (by omega) hu hz)
 have:=c3.self
 have hl:=nm p (show k≤j by omega) hj
 rw[this]at hl
 simp at hl
 omega
theorem jQ{x y:Nat}(hv:ao T=true)(hf:bP T D=true)(hx:(x:Int)<T.nodes)(hy:(y:Int)<T.nodes):gu T D x y=if dN T D y x<0 then 11 else 0:=by
 have hne:cc T D (x:Int) (y:Int)=0:=by
  unfold cc
  rw[if_pos (tP hv hf hy),aU.2 ⟨by omega,hx⟩]
  rfl
 unfold gu;rw[if_pos hne];simp only[Int.toNat_natCast]
theorem wM{x y:Nat}(hv:ao T=true)(hf:bP T D=true)(hx:(x:Int)<T.nodes)(hy:(y:Int)<T.nodes):fx T D x y=true↔dJ T D y x=1:=by
 have hne:cc T D (x:Int) (y:Int)=0:=by
  unfold cc
  rw[if_pos (tP hv hf hy),aU.2 ⟨by omega,hx⟩]
  rfl
 unfold fx
 rw[hne]
 simp
theorem Ik(h:pz T D n p){i j x y:Nat}(hij:i≤j)(hj:j≤p.length)(hx:cD T n (p.take i)=(x:Int))(hy:cD T n (p.take j)=(y:Int)):eV T D n p i j=true↔gu T D x y=0∧fx T D x y=true∧b9 T D x y=eA p i j:=by
 have ha:=h.aI
 have hv:=h.valid
 obtain⟨x',hx',hxN⟩:=cp hv h.node ha i (by omega)
 obtain⟨y',hy',hyN⟩:=cp hv h.node ha j hj
 have e1:x'=x:=by omega
 have e2:y'=y:=by omega
 subst e1
 subst e2
 rw[lJ h hij hj hx hy,jQ hv h.fits hxN hyN,wM hv h.fits hxN hyN]
 constructor
 ·rintro⟨h1,h2⟩
  have h0:=(h1.cost hv hyN).2
  exact⟨by rw[if_neg (by omega)],h2,(dU hv hyN hxN h0).unique hv hyN h1 h2⟩
 ·rintro⟨h1,h2,h3⟩
  have h0:0≤dN T D y' x':=by
   split at h1
   ·omega
   ·omega
  exact⟨by rw[←h3];exact dU hv hyN hxN h0,h2⟩
theorem xQ(h:pz T D n p):∀(f i:Nat),i≤p.length→p.length - i≤f→G7 T D n p i (hJ T D n p f i)=true
 |f,i,hi,hf=>by
  by_cases hlt:i<p.length
  ·cases f with
   |zero=>omega
   |succ f=>
    cases ht:kJ (eV T D n p i) i p.length with
    |none=>
     rw[lH hlt (fun k h1 h2=>jm _ ht k h1 h2)]
     simp only[G7]
     have hst:jv T D n p i ⟨2,p.getD i 0⟩=some (i+1):=by unfold jv;rw[if_pos ⟨rfl,hlt,rfl⟩]
     rw[hst]
     exact xQ h f (i+1) (by omega) (by omega)
    |some j=>
     obtain⟨t1,t2,t3,t4⟩:=nT _ _ ht
     rw[jS hlt t1 t2 t3 t4]
     simp only[G7]
     have hst:jv T D n p i ⟨1,cD T n (p.take j)⟩=some j:=by
      unfold jv
      simp only
      rw[if_neg (by omega),if_pos trivial,oH h (by omega) t2 t3,if_pos ⟨rfl,t3⟩]
     rw[hst]
     exact xQ h f j t2 (by omega)
  ·rw[nv f i (by omega)]
   simp only[G7,decide_eq_true_eq]
   omega
theorem EH:∀f i,(hJ T D n p f i).length≤f:=fun f=>by
 induction f with
 |zero=>intro i;simp[hJ]
 |succ f ih=>
  intro i
  simp only[hJ]
  split
  ·split
   ·have:=ih ‹Nat›;simp only[List.length_cons];omega
   ·have:=ih (i+1);simp only[List.length_cons];omega
  ·simp
theorem wQ(h:pz T D n p):fA T D n p=0:=by
 unfold fA
 have h2:eZ T n p=0:=by unfold eZ;rw[if_pos h.valid,if_pos h.node];exact h.walk
 rw[if_pos (by rw[h.valid,h.fits];rfl),if_pos h2,if_neg]
 intro e
 obtain⟨x,h3,h4⟩:=List.any_eq_true.1 e
 rw[h.up x h3]at h4
 cases h4
end
end PW
end Go.Proofs.YtnegbdpggideiaaGreatDoor
namespace Go.Proofs.YtnegbdpggideiaaGreatDoor
namespace PW
open Go.RowKit cE Mem Net
def jw(D:List Bool)(q:List Int):Bool:= !q.any fun a=>aL D a.toNat
theorem oG{D:List Bool}{q:List Int}:jw D q=true↔∀a∈q,aL D a.toNat=false:=by
 unfold jw
 rw[Bool.not_eq_true',List.any_eq_false]
 constructor
 ·intro h a ha
  have:=h a ha
  simpa using this
 ·intro h a ha
  rw[h a ha]
  simp
theorem Ci{D:List Bool}{q:List Int}{a:Int}(ha:a∈q)(h:aL D a.toNat=true):jw D q=false:=by
 unfold jw
 rw[Bool.not_eq_false',List.any_eq_true]
 exact⟨a,ha,h⟩
theorem HM(T:ai)(D:List Bool)(q:List Int)(hf:bP T D=true)(ha:∀a∈q,fy T a=true)(hq:q.length≤1000):Can Tryz.prog 121 [aY D,aw q] (· =flag (jw D q)):=by
 refine aG Tryz.func121 rfl Tryz.ntmps121 rfl<|ab (.a 1 rfl<|.k [0,1] rfl)<|ak<|ab (.a 3 rfl<|.k [0,7,8,9] rfl)<|av<|fp [0,7,8,9] rfl<|bq (fun r st=>∃k:Nat,k≤q.length∧r=q.length - k∧(∀a∈q.take k,aL D a.toNat=false)∧st=⟨[(0,aY D),(7,aw q),(8,num q.length),(9,num k)],[]⟩) q.length ⟨0,by omega,by omega,by simp,rfl⟩ ?_
 rintro r st ⟨k,hk,rfl,hdn,rfl⟩
 refine ab (.a 1 rfl<|.k [0,7,8,9,10] rfl)<|ak<|ah rfl (fun hy=>?_) (fun hy=>?_)
 ·have hlt:k<q.length:=by have:=tt hy;omega
  have hmem:=ca (d:=0) hlt
  have hab:=ha _ hmem
  simp only[fy,decide_eq_true_eq]at hab
  obtain⟨a,hae⟩:∃a:Nat,q.getD k 0=(a:Int):=⟨(q.getD k 0).toNat,by omega⟩
  have hD:D.length=0∨a<D.length:=by simp only[bP,decide_eq_true_eq]at hf;omega
  refine aj<|ak<|av<|ab (.v (aM (k) rfl) rfl<|.v (aO rfl ((aA q k hlt).trans (by rw[hae]))) rfl<|.a 1 rfl<|.k [0,6,7,8,9] rfl)<|ab (.a 2 rfl<|.c rfl (i7 D a hD) rfl<|.k [0,7,8,9,15] rfl)<|ah rfl (fun hz=>?_) (fun hz=>?_)
  ·have he:=Ci (D:=D) hmem (by rw[hae];exact hz)
   exact ab (.a 1 rfl<|.k [4] rfl)<|aq<|⟨_,_,az.of rfl,aC.pure,by rw[he];rfl⟩
  ·skip
   refine aj<|aB (.v (aT rfl) rfl<|.a 1 rfl<|.k [0,7,8,9] rfl) ?_
   refine⟨q.length - (k+1),by omega,k+1,by omega,rfl,fun x hx=>?_,rfl⟩
   rw[dF q k 0 hlt]at hx
   rcases List.mem_append.1 hx with h|h
   ·exact hdn x h
   ·simp only[List.mem_singleton]at h;rw[h,hae];exact hz
 ·have hke:k=q.length:=by have:=ff hy;omega
  subst hke
  rw[List.take_length]at hdn
  exact bf<|ab (.a 1 rfl<|.k [4] rfl)<|aq<|⟨_,_,az.of rfl,aC.pure,by rw[oG.2 hdn];rfl⟩
theorem C3{T:ai}{D:List Bool}{n:Int}{p:List Int}(hvf:(ao T&&bP T D)=true)(h:eZ T n p≠0):fA T D n p=eZ T n p:=by unfold fA;rw[if_pos hvf,if_neg h]
theorem Az{T:ai}{D:List Bool}{n:Int}{p:List Int}(hvf:(ao T&&bP T D)=true)(h:eZ T n p=0):fA T D n p=if jw D p=true then 0 else 7:=by
 unfold fA jw
 rw[if_pos hvf,if_pos h]
 cases p.any fun a=>aL D a.toNat<;>rfl
theorem xY(T:ai)(D:List Bool)(p:List Int)(n:Int)(hp:p.length≤1000)(hlk:T.ae.length≤256):Can Tryz.prog 63 [aN T,aY D,aw p,num n] (· =num (fA T D n p)):=by
 obtain⟨q1,hq1⟩:∃q,ao T=q:=⟨_,rfl⟩
 obtain⟨q2,hq2⟩:∃q,bP T D=q:=⟨_,rfl⟩
 refine aG Tryz.func63 rfl Tryz.ntmps63 rfl<|ab (.a 2 rfl<|.k [1,2,3,4] rfl)<|ak<|bu 20 (.raw (.bool ((!q1)|| !q2))) [1,2,3,4] rfl ?_ ?_
 ·refine .a 1 rfl<|.c rfl (hq1▸ej T) rfl<|.a 2 rfl<|?_
  cases q1
  ·exact .a 5 rfl<|.k [20,1,2,3,4] rfl
  ·exact .a 2 rfl<|.c rfl (hq2▸la T D (by omega)) rfl<|.a 2 rfl<|.k [20,1,2,3,4] rfl
 refine ah rfl (fun hc=>?_) (fun hc=>?_)
 ·have he:fA T D n p=1:=by unfold fA;rw[hq1,hq2];cases q1<;>cases q2<;>first|rfl|cases hc
  exact ab (.a 1 rfl<|.k [8] rfl)<|aq<|⟨_,_,az.of rfl,aC.pure,by rw[he];rfl⟩
 ·have hv:ao T=true:=by rw[hq1];cases q1;cases hc;rfl
  have hf:bP T D=true:=by rw[hq2];cases q2;cases q1<;>cases hc;rfl
  have hvf:(ao T&&bP T D)=true:=by rw[hv,hf];rfl
  refine aj<|ak<|ab (.a 3 rfl<|.c rfl (wK T n p (by omega)) rfl<|.a 7 rfl<|.k [1,2,11] rfl)<|ab (.a 2 rfl<|.k [1,2,11,30] rfl)<|ah rfl (fun hx=>?_) (fun hx=>?_)
  ·have hx1:eZ T n p≠0:=tt hx
   exact ab (.a 2 rfl<|.k [8] rfl)<|aq<|⟨_,_,az.of rfl,aC.pure,by rw[C3 hvf hx1];rfl⟩
  ·have hx1:eZ T n p=0:=Classical.byContradiction (ff hx)
   obtain⟨_,hn,hw⟩:=mH hx1
   have ha:=lR hw
   rw[Az hvf hx1]
   refine aj<|ak<|ab (.a 2 rfl<|.c rfl (HM T D p hf ha hp) rfl<|.a 1 rfl<|.k [35] rfl)<|ah rfl (fun hy=>?_) (fun hy=>?_)
   ·have hy1:jw D p=false:=by simpa using hy
    exact ab (.a 1 rfl<|.k [8] rfl)<|aq<|⟨_,_,az.of rfl,aC.pure,by rw[hy1];rfl⟩
   ·have hy1:jw D p=true:=by simpa using hy
    exact aj<|ab (.a 1 rfl<|.k [8] rfl)<|aq<|⟨_,_,az.of rfl,aC.pure,by rw[hy1];rfl⟩
section
variable {T:ai} {D:List Bool} {n:Int} {p:List Int}
theorem jI(T:ai):bP T []=true:=by simp[bP]
theorem pz.bare(h:pz T D n p):pz T [] n p:=⟨h.valid,jI T,h.node,h.walk,fun a _=>by simp[aL]⟩
theorem JH{n:Int}{p:List Int}(h:fA T D n p=0):fA T [] n p=0:=wQ (Dt h).bare
end
theorem BJ(T:ai)(D:List Bool)(p:List Int)(n:Int)(hp:p.length≤1000)(hlk:T.ae.length≤256)(h12:T.nodes≤12):Can Tryz.prog 18 [aN T,aY D,aw p,num n] (· =so (fA T D n p) (iJ T [] n p)):=by
 refine aG Tryz.func18 rfl Tryz.ntmps18 rfl<|ab (.a 3 rfl<|.k [1,2,3,4] rfl)<|ak<|ab (.a 4 rfl<|.c rfl (xY T D p n hp hlk) rfl<|.a 1 rfl<|.k [2,3,4,10] rfl)<|ab (.a 2 rfl<|.k [2,3,4,10,17] rfl)<|ah rfl (fun hc=>?_) (fun hc=>?_)
 ·have he:fA T D n p≠0:=tt hc
  exact ab (.a 3 rfl<|.k [8,9] rfl)<|aq<|⟨_,_,az.of rfl,aC.bz (an.cons aC.b7 (an.cons aC.pure an.nil)),by unfold so;rw[if_neg he];rfl⟩
 ·have he:fA T D n p=0:=Classical.byContradiction (ff hc)
  have hl:=A6 T [] p n hp hlk h12
  rw[JH he]at hl
  rw[he]
  exact aj<|ab (.a 3 rfl<|.v (Ef rfl (an.cons aC.pure<|an.cons aC.b7<|an.cons aC.pure<|an.cons aC.pure an.nil) (hl)) rfl<|.a 4 rfl<|.k [8,9] rfl)<|aq<|⟨_,_,az.of rfl,aC.pure,rfl⟩
end PW
end Go.Proofs.YtnegbdpggideiaaGreatDoor
namespace Go.Proofs.YtnegbdpggideiaaGreatDoor
namespace PW
open Go.RowKit cE Mem Net
def Hl(K:St→Prop):Exit→St→Prop
 | .normal,s=>K s
 |_,_=>False
theorem uD{P:Program}{N L:Nat}{x y:Code}{st:St}{Q:Exit→St→Prop}{Q1:St→Prop}(h:W P N L x st (Hl Q1))(k:∀s,Q1 s→W P N L y s Q):W P N L (.seq x y) st Q:=
 ak (h.mono fun e s hq=>by
  cases e<;>first|exact k s hq|exact hq.elim)
section
variable {T:ai} {D:List Bool} {n:Int} {p:List Int}
end
end PW
end Go.Proofs.YtnegbdpggideiaaGreatDoor
namespace Go.Proofs.YtnegbdpggideiaaGreatDoor
namespace PW
open Go.RowKit cE Mem Net
section
variable {T:ai} {D:List Bool}
theorem Ch.aI{d m:Nat}{q:List Int}(h:Ch T D d m q):∀a∈q,fy T a=true:=by
 induction h with
 |nil=>intro a ha;cases ha
 | @cons n a m p ha ht hu hm ho hp ih=>
  intro b hb
  rcases List.mem_cons.1 hb with rfl|hb
  ·exact cY.2 ⟨by omega,by omega⟩
  ·exact ih b hb
theorem ma{x y:Int}(h:gu T D x y=0):∃a b:Nat,x=(a:Int)∧y=(b:Int)∧(a:Int)<T.nodes∧(b:Int)<T.nodes∧ao T=true∧SP T D b a (b9 T D x.toNat y.toNat):=by
 unfold gu at h
 split at h
 ·rename_i he
  obtain⟨hv,hf,hn,hd⟩:=fc he
  rw[aU]at hn hd
  obtain⟨a,rfl⟩:=Int.eq_ofNat_of_zero_le hn.1
  obtain⟨b,rfl⟩:=Int.eq_ofNat_of_zero_le hd.1
  refine⟨a,b,rfl,rfl,hn.2,hd.2,hv,?_⟩
  simp only[Int.toNat_natCast]at h ⊢
  exact dU hv hd.2 hn.2 (by split at h<;>omega)
 ·rename_i he
  exact absurd h he
end
theorem H5(l:List bY)(k:Nat)(s:bY)(h:l[k]? =some s):(eB l)[k*2+0]? =some (num s.kind):=vu l k 0 s h (by omega)
theorem HV(l:List bY)(k:Nat)(s:bY)(h:l[k]? =some s):(eB l)[k*2+1]? =some (num s.num):=vu l k 1 s h (by omega)
instance (T:ai) (n:Int) (l:List Int):lg (pg T n l):=by unfold pg;infer_instance
end PW
end Go.Proofs.YtnegbdpggideiaaGreatDoor
