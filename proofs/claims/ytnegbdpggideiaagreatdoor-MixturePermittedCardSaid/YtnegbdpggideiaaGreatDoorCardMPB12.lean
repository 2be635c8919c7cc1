/- Texts of the proof, part 12. -/
import Derived.Lib.AppendStr
import Derived.Lib.UnsafeStr
import Derived.Lib.Builder
import Derived.Shelf.Strings.Builder1
import Derived.Shelf.Strings.BuilderF
import Derived.Shelf.Strings.BuilderK
import Derived.Shelf.Strconv.Itoa0
import Derived.Shelf.Strconv.Itoa1
import Derived.Shelf.LaysM
import Derived.Shelf.Strconv.Itoa2
import Derived.Shelf.Strconv.Itoa3
import Derived.Test.YtnegbdpggideiaaGreatDoorProg
import Derived.Test.YtnegbdpggideiaaGreatDoorCardMPB11
namespace Go.Proofs.YtnegbdpggideiaaGreatDoor
set_option linter.unusedVariables false
set_option linter.unusedSimpArgs false
namespace PW
open Go.RowKit Reg Mem Net Rng
abbrev Opn:=List (Nat×Nat×List Seg)
section
variable (T:Topo) (tb:Nat→Tab) (p0:Pkt) (Φ:Nat→Nat→List Seg→Prop)
def EntOK (op:Opn) (n:Nat) (s:List Seg) (v:PV):Prop:=(∃c,Good T tb p0 Φ v n s c)∨∃i,(i,n,s)∈op∧v= .ptr (i+8) 0
structure KvOK (op:Opn) (kv:List (List UInt8×PV)) (L:List PV):Prop where
 ent:∀e∈kv,∃u n s,Φ u n s∧e.1=nameL n s∧EntOK T tb p0 Φ op n s e.2
 nodup:(kv.map (·.1)).Nodup
 all:∀v∈L,∃n s,EntOK T tb p0 Φ op n s v
 len:L.length=kv.length
end
section
variable {T:Topo} {tb:Nat→Tab} {p0:Pkt} {Φ:Nat→Nat→List Seg→Prop}
theorem EntOK.more {op:Opn} {x:Nat×Nat×List Seg} {n:Nat} {s:List Seg} {v:PV} (h:EntOK T tb p0 Φ op n s v):EntOK T tb p0 Φ (x::op) n s v:=by
 rcases h with h|⟨i,h,e⟩
 ·exact .inl h
 ·exact .inr ⟨i,List.mem_cons_of_mem _ h,e⟩
theorem KvOK.push {op:Opn} {kv:List (List UInt8×PV)} {L:List PV} (h:KvOK T tb p0 Φ op kv L) {u n i:Nat} {s:List Seg} (hΦ:Φ u n s) (hno:nameL n s∉kv.map (·.1)):
  KvOK T tb p0 Φ ((i,n,s)::op) (kv++[(nameL n s,.ptr (i+8) 0)]) (L++[.ptr (i+8) 0]) where
 ent:=fun e he=>by
  rcases List.mem_append.1 he with he|he
  ·obtain⟨u,n,s,h1,h2,h3⟩:=h.ent e he
   exact⟨u,n,s,h1,h2,h3.more⟩
  ·rw[List.mem_singleton]at he
   subst he
   exact⟨u,n,s,hΦ,rfl,.inr ⟨i,List.mem_cons_self,rfl⟩⟩
 nodup:=by
  rw[List.map_append,List.nodup_append]
  refine⟨h.nodup,by simp,fun a ha b hb e=>?_⟩
  subst e
  simp only[List.map_cons,List.map_nil,List.mem_singleton]at hb
  subst hb
  exact hno ha
 all:=fun v hv=>by
  rcases List.mem_append.1 hv with hv|hv
  ·obtain⟨n,s,h1⟩:=h.all v hv
   exact⟨n,s,h1.more⟩
  ·rw[List.mem_singleton]at hv
   subst hv
   exact⟨n,s,.inr ⟨i,List.mem_cons_self,rfl⟩⟩
 len:=by simp[h.len]
theorem frz_list {i:Nat} {blk:Blk} {Q Q':PV→Prop} (h:∀v,Q v→∃v',Frz i blk v v'∧Q' v'):∀L:List PV,(∀v∈L,Q v)→∃L',FrzL i blk L L'∧∀v∈L',Q' v
 | [],_=>⟨[],.nil,fun v hv=>by cases hv⟩
 |v::L,hL=>by
  obtain⟨v',h1,h2⟩:=h v (hL v (by simp))
  obtain⟨L',h3,h4⟩:=frz_list h L (fun w hw=>hL w (by simp[hw]))
  exact⟨v'::L',.cons h1 h3,fun w hw=>by
   rcases List.mem_cons.1 hw with rfl|hw
   ·exact h2
   ·exact h4 w hw⟩
theorem frz_kv {i:Nat} {blk:Blk} {Q Q':List UInt8→PV→Prop} (h:∀k v,Q k v→∃v',Frz i blk v v'∧Q' k v'):∀kv:List (List UInt8×PV),(∀e∈kv,Q e.1 e.2)→∃kv':List (List UInt8×PV),kv'.map (·.1)=kv.map (·.1)∧FrzL i blk (kv.map (·.2)) (kv'.map (·.2))∧∀e∈kv',Q' e.1 e.2
 | [],_=>⟨[],rfl,.nil,fun v hv=>by cases hv⟩
 |e::L,hL=>by
  obtain⟨v',h1,h2⟩:=h e.1 e.2 (hL e (by simp))
  obtain⟨L',h3,h4,h5⟩:=frz_kv h L (fun w hw=>hL w (by simp[hw]))
  exact⟨(e.1,v')::L',by simp[h3],.cons h1 h4,fun w hw=>by
   rcases List.mem_cons.1 hw with rfl|hw
   ·exact h2
   ·exact h5 w hw⟩
theorem KvOK.close {op:Opn} {i n:Nat} {s:List Seg} {kv:List (List UInt8×PV)} {L:List PV} (h:KvOK T tb p0 Φ ((i,n,s)::op) kv L) {ty:TypeId} {xs:List PV} {c:Int} (hg:Good T tb p0 Φ (.pin xs 0) n s c):
  ∃kv' L',KvOK T tb p0 Φ op kv' L'∧kv'.map (·.1)=kv.map (·.1)∧FrzL (i+8) (.cells ty xs) (kv.map (·.2)) (kv'.map (·.2))∧FrzL (i+8) (.cells ty xs) L L':=by
 have key:∀n1 s1 v,EntOK T tb p0 Φ ((i,n,s)::op) n1 s1 v→∃v',Frz (i+8) (.cells ty xs) v v'∧EntOK T tb p0 Φ op n1 s1 v':=fun n1 s1 v hv=>by
  rcases hv with hv|⟨i1,h1,rfl⟩
  ·exact⟨v,.same _,.inl hv⟩
  ·rcases List.mem_cons.1 h1 with h1|h1
   ·cases h1
    exact⟨_,.ptr 0,.inl ⟨c,hg⟩⟩
   ·exact⟨_,.same _,.inr ⟨i1,h1,rfl⟩⟩
 obtain⟨kv',k1,k2,k3⟩:=frz_kv (i:=i+8) (blk:=.cells ty xs) (Q:=fun k v=>∃u n1 s1,Φ u n1 s1∧k=nameL n1 s1∧EntOK T tb p0 Φ ((i,n,s)::op) n1 s1 v) (Q':=fun k v=>∃u n1 s1,Φ u n1 s1∧k=nameL n1 s1∧EntOK T tb p0 Φ op n1 s1 v) (fun k v ⟨u,n1,s1,h1,h2,h3⟩=>by
  obtain⟨v',h4,h5⟩:=key n1 s1 v h3
  exact⟨v',h4,u,n1,s1,h1,h2,h5⟩) kv h.ent
 obtain⟨L',l1,l2⟩:=frz_list (i:=i+8) (blk:=.cells ty xs) (Q:=fun v=>∃n1 s1,EntOK T tb p0 Φ ((i,n,s)::op) n1 s1 v) (Q':=fun v=>∃n1 s1,EntOK T tb p0 Φ op n1 s1 v) (fun v ⟨n1,s1,h3⟩=>by
  obtain⟨v',h4,h5⟩:=key n1 s1 v h3
  exact⟨v',h4,n1,s1,h5⟩) L h.all
 refine⟨kv',L',⟨k3,by rw[k1];exact h.nodup,l2,?_⟩,k1,k2,l1⟩
 have:=congrArg List.length k1
 simp only[List.length_map]at this
 rw[l1.1,h.len,this]
theorem KvOK.few (R:Runs T tb p0 Φ) (h12:T.nodes≤12) {U:List (Nat×List Seg)} (hU:∀ {u n s},Φ u n s→(n,s)∈U) {op:Opn} {kv:List (List UInt8×PV)} {L:List PV} (h:KvOK T tb p0 Φ op kv L):kv.length≤U.length:=by
 have key:∀kv:List (List UInt8×PV),(∀e∈kv,∃u n s,Φ u n s∧e.1=nameL n s)→∃sts:List (Nat×List Seg),sts.map (fun x=>nameL x.1 x.2)=kv.map (·.1)∧∀x∈sts,x∈U:=fun kv=>by
  induction kv with
  |nil=>intro _;exact⟨[],rfl,fun x hx=>by cases hx⟩
  |cons e kv ih=>
   intro he
   obtain⟨u,n,s,h1,h2⟩:=he e (by simp)
   obtain⟨sts,h3,h4⟩:=ih (fun e h=>he e (by simp[h]))
   exact⟨(n,s)::sts,by simp[h3,h2],fun x hx=>by
    rcases List.mem_cons.1 hx with rfl|hx
    ·exact hU h1
    ·exact h4 x hx⟩
 obtain⟨sts,h1,h2⟩:=key kv (fun e he=>by
  obtain⟨u,n,s,h1,h2,_⟩:=h.ent e he
  exact⟨u,n,s,h1,h2⟩)
 have hn:=h.nodup
 rw[←h1]at hn
 have hnd:sts.Nodup:=by
  unfold List.Nodup at hn ⊢
  rw[List.pairwise_map]at hn
  exact hn.imp fun hab e=>hab (by rw[e])
 have:=nodup_sub sts U hnd h2
 have h3:=congrArg List.length h1
 simp only[List.length_map]at h3
 omega
theorem KvOK.hit (R:Runs T tb p0 Φ) (h12:T.nodes≤12) {op:Opn} {kv:List (List UInt8×PV)} {L:List PV} (h:KvOK T tb p0 Φ op kv L) {u n:Nat} {s:List Seg} (hΦ:Φ u n s) (hop:∀x∈op,Beh T tb p0 x.2.1 x.2.2 n s) {v:PV} (hv:lookM (nameL n s) kv=some v):∃c,Good T tb p0 Φ v n s c:=by
 obtain⟨u1,n1,s1,h1,h2,h3⟩:=h.ent _ (lookM_mem hv)
 have a1:=R.node h1
 have a2:=R.node hΦ
 obtain⟨rfl,rfl⟩:=name_inj (by omega) (by omega) (R.small hΦ).1 (R.small h1).1 h2
 rcases h3 with h3|⟨i,h4,_⟩
 ·exact h3
 ·exact(R.not_self (hop _ h4) h1).elim
theorem look_none {κ:Type} [DecidableEq κ] {k:κ}:∀ {l:List (κ×PV)},lookM k l=none→k∉l.map (·.1)
 | [],_=>by simp
 |(a,q)::l,h=>by
  simp only[lookM]at h
  split at h
  ·cases h
  ·rename_i hne
   rw[List.map_cons,List.mem_cons]
   rintro(e|e)
   ·exact hne e
   ·exact look_none h e
theorem set_none_new {κ:Type} [DecidableEq κ] {k:κ} {p:PV}:∀ {l:List (κ×PV)},lookM k l=none→setM k p l=l++[(k,p)]
 | [],_=>rfl
 |(a,q)::l,h=>by
  simp only[lookM]at h
  split at h
  ·cases h
  ·rename_i hne
   simp only[setM]
   rw[if_neg hne,set_none_new h]
   rfl
end
end PW
end Go.Proofs.YtnegbdpggideiaaGreatDoor

namespace Go.Proofs.YtnegbdpggideiaaGreatDoor
set_option linter.unusedVariables false
set_option linter.unusedSimpArgs false
namespace PW
open Go.RowKit Reg Mem Net Rng
def akK (P:Program) (ty:TypeId):Option (Nat×List Value):=match P.info? ty,P.underlying ty with
 |some it,some (.array _ e)=>match it.zero,P.info? e with
  |some z,some ie=>some (ie.size,z.cells.toList)
  |_,_=>none
 |_,_=>none
theorem y_buildArr {P:Program} {σ:Sto} {t:Tms} {o:Oper} {ty s:TypeId} {parts:Array (Nat×Operand)} {zero:List Value} {ps:List (Nat×List PV)} {xs:List PV} (ho:o.op= .build ty parts) (hk:akK P ty=some (s,zero)) (hp:evalP t parts.toList=some ps)
  (hf:fillP (fun i=>some (i*s,s)) (zero.map .raw) ps=some xs):Yield P σ t o (.agg xs):=by
 intro F base E ρ w hρ hS hT
 obtain⟨h1,h2⟩:=evalP_rep hρ hT parts.toList ps hp
 have hz:RepL E w zero.toArray.toList (zero.map .raw):=⟨by simp,fun i x u k1 k2=>by
  simp only[List.getElem?_map,Option.map_eq_some_iff]at k2
  obtain⟨y,hy,rfl⟩:=k2
  simp only at k1
  rw[hy]at k1
  cases k1
  exact .raw _⟩
 obtain⟨cs,hc,hR⟩:=fill_rep (fun i=>some (i*s,s)) _ ps zero.toArray _ xs hz h1 h2 hf
 have hb:P.built ty ((parts.map fun(i,x)=>(i,ρ x)).toList)=some cs:=by
  unfold akK at hk
  split at hk
  ·rename_i it n e hit hu
   split at hk
   ·rename_i z ie hz' hie
    cases hk
    simp only[Program.built,hit,hu,hz',hie,Array.toList_map]
    simpa using hc
   ·cases hk
  ·cases hk
 have hrun:=run_build (P:=P) w ty (parts.map fun(i,x)=>(i,ρ x)) cs hb
 simp only[execOp,ho,Sem.run_bind,hrun,Result.andThen_ok,Sem.run_pure]
 exact upon_val (.agg cs xs (by have:=hR.1;rw[Array.length_toList]at this;exact this) (fun i x u k1 k2=>hR.2 i x u (by simpa using k1) k2))
theorem PLe.sliceL {n:Nat} {xs ys:List PV} (hl:ys.length=xs.length) (h:∀(i:Nat) x y,xs[i]? =some x→ys[i]? =some y→PLe x y):PLe (.slice n xs) (.slice n ys):=fun E w v hv=>by
 cases hv with
 |nils=>
  have:ys=[]:=List.eq_nil_of_length_eq_zero hl
  subst this
  exact .nils
 |empty a c hc=>
  have:ys=[]:=List.eq_nil_of_length_eq_zero hl
  subst this
  exact .empty a c hc
 |slice b off _ c cs _ h0 h1 h2 hb hM hc hl2 hr=>
  exact .slice b off n c cs ys h0 h1 h2 hb hM hc (hl2.trans hl.symm) (fun i x u k1 k2=>by
   have hi:i<xs.length:=by rw[←hl];exact(List.getElem?_eq_some_iff.1 k2).1
   exact h i xs[i] u (by simp[hi]) k2 E w x (hr i x _ k1 (by simp[hi])))
def goneT (T:Topo) (n:Nat):Tab:=⟨n,List.replicate T.nodes.toNat ⟨[],false,[]⟩,outL T n⟩
noncomputable def mtX (T:Topo) (k x:Int) (n:Nat) (s:Int):Tab:=if gnB k x n=true then goneT T n else tabM T (maskL T k x) s n
noncomputable def mtL (T:Topo) (k x:Int) (l:List Int) (m:Nat):List Tab:=(List.range m).map fun n=>mtX T k x n (stA l n)
def mtE (T:Topo) (k x:Int) (l:List Int):Int:=if((validB T&&compB T k x)&&decide ((l.length:Int)=T.nodes))=true then(if permB T k x l=true then 0 else 7) else 1
noncomputable def tabsE (e:Int) (L:List Tab):PV:=.tuple [tabsV (if e=0 then L else []),num e]
theorem mtL_succ {T:Topo} {k x:Int} {l:List Int} {m:Nat}:mtL T k x l (m+1)=mtL T k x l m++[mtX T k x m (stA l m)]:=by simp[mtL,List.range_succ]
theorem zeros_ent (n:Nat):(zeros [.raw (.slice none 0 0),.raw (.bool false),.raw (.slice none 0 0)] n).length=(entsP (List.replicate n ⟨[],false,[]⟩)).length∧∀(i:Nat) x y,(zeros [.raw (.slice none 0 0),.raw (.bool false),.raw (.slice none 0 0)] n)[i]? =some x→(entsP (List.replicate n ⟨[],false,[]⟩))[i]? =some y→PLe x y:=by
 induction n with
 |zero=>exact⟨rfl,fun i x y h=>by simp[zeros]at h⟩
 |succ n ih=>
  refine⟨by simp only[zeros,List.replicate_succ,entsP,List.flatMap_cons,List.length_append]at ih ⊢;rw[ih.1];rfl,fun i x y h1 h2=>?_⟩
  simp only[zeros,List.replicate_succ,entsP,List.flatMap_cons]at h1 h2
  match i,h1,h2 with
  |0,h1,h2=>simp[entP]at h1 h2;subst h1 h2;exact .nils
  |1,h1,h2=>simp[entP]at h1 h2;subst h1 h2;exact PLe.refl _
  |2,h1,h2=>simp[entP]at h1 h2;subst h1 h2;exact .nils
  |i+3,h1,h2=>exact ih.2 i x y (by simpa using h1) (by simpa[entsP,entP]using h2)
set_option maxRecDepth 10000 in
set_option maxHeartbeats 1000000 in
theorem mt1_can (T:Topo) (n:Int) (X:Tab) (h:Can Tryz.prog 67 [topoV T,num n] (· = .tuple [tabV X,num 0])):Can Tryz.prog 66 [num n,.pin (topoP T) 0] (· = .tuple [tabV X,num 0]):=by
 refine can_of Tryz.func66 rfl Tryz.ntmps66 rfl ?_
 refine W_rs ?_
 refine WR_a 2 rfl<|WR_k [0,1,3] rfl ?_
 refine W_rs ?_
 refine WR_a 2 rfl<|WR_c rfl (h) rfl<|WR_a 4 rfl<|WR_k [3,4] rfl ?_
 refine W_ret ?_
 exact⟨_,_,ResL.of rfl,Pur.pure (p:=.tuple [tabV X,num 0]),rfl⟩
set_option maxRecDepth 10000 in
set_option maxHeartbeats 1000000 in
theorem mt2_can (T:Topo) (k x n:Int) (X:Tab) (h:Can Tryz.prog 55 [topoV T,compV k x,num n] (· = .tuple [tabV X,num 0])):Can Tryz.prog 68 [num n,.pin (topoP T) 0,.pin (compP k x) 0] (· = .tuple [tabV X,num 0]):=by
 refine can_of Tryz.func68 rfl Tryz.ntmps68 rfl ?_
 refine W_rs ?_
 refine WR_a 2 rfl<|WR_k [0,1,2,4] rfl ?_
 refine W_rs ?_
 refine WR_a 3 rfl<|WR_c rfl (h) rfl<|WR_a 4 rfl<|WR_k [4,5] rfl ?_
 refine W_ret ?_
 exact⟨_,_,ResL.of rfl,Pur.pure (p:=.tuple [tabV X,num 0]),rfl⟩
set_option maxRecDepth 10000 in
set_option maxHeartbeats 1000000 in
theorem mt3_can (T:Topo) (k x n:Int) (X:Tab) (h:Can Tryz.prog 70 [topoV T,compV k x,num n] (· = .tuple [tabV X,num 0])):Can Tryz.prog 69 [num n,.pin (topoP T) 0,.pin (compP k x) 0] (· = .tuple [tabV X,num 0]):=by
 refine can_of Tryz.func69 rfl Tryz.ntmps69 rfl ?_
 refine W_rs ?_
 refine WR_a 2 rfl<|WR_k [0,1,2,4] rfl ?_
 refine W_rs ?_
 refine WR_a 3 rfl<|WR_c rfl (h) rfl<|WR_a 4 rfl<|WR_k [4,5] rfl ?_
 refine W_ret ?_
 exact⟨_,_,ResL.of rfl,Pur.pure (p:=.tuple [tabV X,num 0]),rfl⟩
set_option maxRecDepth 10000 in
set_option maxHeartbeats 1000000 in
theorem mt4_can (T:Topo) (k x n:Int) (X:Tab) (h:Can Tryz.prog 72 [topoV T,compV k x,num n] (· = .tuple [tabV X,num 0])):Can Tryz.prog 71 [num n,.pin (topoP T) 0,.pin (compP k x) 0] (· = .tuple [tabV X,num 0]):=by
 refine can_of Tryz.func71 rfl Tryz.ntmps71 rfl ?_
 refine W_rs ?_
 refine WR_a 2 rfl<|WR_k [0,1,2,4] rfl ?_
 refine W_rs ?_
 refine WR_a 3 rfl<|WR_c rfl (h) rfl<|WR_a 4 rfl<|WR_k [4,5] rfl ?_
 refine W_ret ?_
 exact⟨_,_,ResL.of rfl,Pur.pure (p:=.tuple [tabV X,num 0]),rfl⟩
theorem tabE_zero (x:Tab):tabE 0 x= .tuple [tabV x,num 0]:=rfl
theorem mt_row (T:Topo) (k x:Int) (h12:T.nodes≤12) (hvc:(validB T&&compB T k x)=true) {i:Nat} (hi:(i:Int)<T.nodes) {s:Int} (hs:okS s=true) {FS:List PV} (hFS:[.func 66 [.pin (topoP T) 0],.func 68 [.pin (topoP T) 0,.pin (compP k x) 0],.func 69 [.pin (topoP T) 0,.pin (compP k x) 0],.func 71 [.pin (topoP T) 0,.pin (compP k x) 0]]=FS):
  ∃f cap,FS[s.toNat]? =some (.func f cap)∧enters Tryz.prog f=true∧Can Tryz.prog f ([num i]++cap) (· = .tuple [tabV (tabM T (maskL T k x) s i),num 0])∧IsPureL ([num i]++cap):=by
 have hv:=(Bool.and_eq_true_iff.1 hvc).1
 have hme:maskE T k x=0:=by unfold maskE;rw[if_pos hvc]
 have hn:nodeB T i=true:=by rw[nodeB_iff];omega
 have htr:trnE T k x i=0:=by unfold trnE;rw[if_pos hme,if_pos hn]
 have hch:chkE T [] [(i:Int)]=0:=by
  unfold chkE
  rw[hv]
  simp[fitsB,hn]
 subst hFS
 obtain⟨h0,h3⟩:=Bool.and_eq_true_iff.1 hs
 have h0:=of_decide_eq_true h0
 have h3:=of_decide_eq_true h3
 have h1:=told_can T i
 rw[hch,tabE_zero,Int.toNat_natCast]at h1
 have h2:=prtab_can T k x i h12
 rw[if_pos hme,if_pos hn,tabE_zero,Int.toNat_natCast]at h2
 have h4:=ttab_can T k x i h12
 rw[htr,tabE_zero,Int.toNat_natCast]at h4
 have h5:=tfin_can T k x i
 rw[htr,tabE_zero,Int.toNat_natCast]at h5
 rcases(by omega:s=0∨s=1∨s=2∨s=3)with e|e|e|e
 ·subst e
  exact⟨_,_,rfl,by kernel_rfl,mt1_can T i _ h1,by infer_instance⟩
 ·subst e
  exact⟨_,_,rfl,by kernel_rfl,mt2_can T k x i _ h2,by infer_instance⟩
 ·subst e
  exact⟨_,_,rfl,by kernel_rfl,mt3_can T k x i _ h4,by infer_instance⟩
 ·subst e
  exact⟨_,_,rfl,by kernel_rfl,mt4_can T k x i _ h5,by infer_instance⟩
theorem akT:akK Tryz.prog 100=some (1,[.nilFunc,.nilFunc,.nilFunc,.nilFunc]):=by kernel_rfl
theorem mtL_len {T:Topo} {k x:Int} {l:List Int} {m:Nat}:(mtL T k x l m).length=m:=by simp[mtL]
set_option maxRecDepth 10000 in
set_option maxHeartbeats 4000000 in
theorem mtabs_can (T : Topo) (k x : Int) (l : List Int) (hl : l.length ≤ 1000) (h12 : T.nodes ≤ 12) : Can Tryz.prog 20 [topoV T, compV k x, intsV l] (· = tabsE (mtE T k x l) (mtL T k x l l.length)) := by
  obtain ⟨q1, hq1⟩ : ∃ q, (validB T && compB T k x) = q := ⟨_, rfl⟩
  obtain ⟨q2, hq2⟩ : ∃ q, decide ((l.length : Int) ≠ T.nodes) = q := ⟨_, rfl⟩
  obtain ⟨q3, hq3⟩ : ∃ q, permB T k x l = q := ⟨_, rfl⟩
  have hE : mtE T k x l = if (q1 && !q2) = true then (if q3 = true then 0 else 7) else 1 := by
    unfold mtE
    rw [hq1, hq3, ← hq2]
    simp
  rw [hE]
  refine can_of Tryz.func20 rfl Tryz.ntmps20 rfl ?_
  refine W_cs (.a 4 rfl <| .k [2, 3, 4] rfl) ?_
  refine W_seq ?_
  refine W_csK 23 (.raw (.bool (!q1 || q2))) [2, 3, 4] rfl ?_ ?_
  · refine .a 2 rfl <| .c rfl (hq1 ▸ cvalid_can T k x) rfl <| .a 2 rfl <| ?_
    cases q1
    · exact .a 6 rfl <| .k [23, 2, 3, 4] rfl
    · exact .a 4 rfl <| .v (y_q rfl (hq2)) rfl <| .a 1 rfl <| .k [23, 2, 3, 4] rfl
  refine W_cond rfl (fun hc => ?_) (fun hc => ?_)
  · have hno : (q1 && !q2) = false := by cases q1 <;> cases q2 <;> simp_all
    refine W_cs (.a 2 rfl <| .k [6, 7] rfl) ?_
    refine W_ret ?_
    exact ⟨_, _, ResL.of rfl, Pur.tupleL (PurL.cons Pur.nils (PurL.cons Pur.pure PurL.nil)), by rw [hno]; rfl⟩
  · obtain ⟨h1, rfl⟩ := Bool.or_eq_false_iff.1 hc
    have h1 : q1 = true := by simpa using h1
    subst h1
    have hln : (l.length : Int) = T.nodes := by have := ff hq2; simpa using this
    refine W_skip ?_
    refine W_seq ?_
    refine W_cs (.a 3 rfl <| .c rfl (hq3 ▸ mperm_can T k x l hl) rfl <| .a 1 rfl <| .k [2, 3, 4, 28] rfl) ?_
    refine W_cond rfl (fun hc => ?_) (fun hc => ?_)
    · have h3 : q3 = false := by simpa using hc
      subst h3
      refine W_cs (.a 2 rfl <| .k [6, 7] rfl) ?_
      refine W_ret ?_
      exact ⟨_, _, ResL.of rfl, Pur.tupleL (PurL.cons Pur.nils (PurL.cons Pur.pure PurL.nil)), rfl⟩
    · have h3 : q3 = true := by simpa using hc
      subst h3
      have hv := (Bool.and_eq_true_iff.1 hq1).1
      have hll := links_le hv
      have hP1 : allS k x (fun n => okS (stA l n)) l.length = true := by
        have h := hq3
        unfold permB at h
        split at h
        · exact (Bool.and_eq_true_iff.1 h).1
        · cases h
      refine W_skip ?_
      refine W_rs ?_
      refine WR_a 4 rfl <| WR_v (y_buildArr rfl akT rfl rfl) rfl <| WR_a 2 rfl <| WR_k [2, 3, 4, 8] rfl ?_
      refine W_sealPtr 8 0 0 rfl rfl ?_
      refine W_ren [] (.c 2 <| .c 3 <| .c 4 <| .c 8 <| .nil) .nil rfl rfl ?_
      obtain ⟨FS, hFS⟩ : ∃ z : List PV, [.func 66 [.pin (topoP T) 0], .func 68 [.pin (topoP T) 0, .pin (compP k x) 0], .func 69 [.pin (topoP T) 0, .pin (compP k x) 0], .func 71 [.pin (topoP T) 0, .pin (compP k x) 0]] = z := ⟨_, rfl⟩
      have hFp : IsPureL FS := by rw [← hFS]; infer_instance
      rw [hFS]
      refine W_cs (.a 1 rfl <| .k [2, 3, 4, 8, 9] rfl) ?_
      refine W_adopt 9 56 3 rfl ?_
      refine W_seq ?_
      refine W_cs (.a 3 rfl <| .k [3, 4, 8, 9, 34, 35, 36] rfl) ?_
      refine W_block ?_
      refine W_k [3, 4, 8, 9, 34, 35, 36] rfl ?_
      refine W_loop (fun r s => ∃ i, i ≤ l.length ∧ r = l.length - i ∧ s = ⟨[(3, .pin (topoP T) 0), (4, .pin (compP k x) 0), (8, .pin FS 0), (9, .own 0), (34, intsV l), (35, num l.length), (36, num i)], [some (.row 56 3 i (tabsP (mtL T k x l i)))]⟩) l.length ⟨0, by omega, by omega, rfl⟩ ?_
      rintro r s ⟨i, hi, rfl, rfl⟩
      refine W_cs (.a 1 rfl <| .k [3, 4, 8, 9, 34, 35, 36, 37] rfl) ?_
      refine W_seq ?_
      refine W_cond rfl (fun hc => ?_) (fun hc => ?_)
      · have hlt : i < l.length := by have := tt hc; omega
        have hil : (i : Int) < T.nodes := by omega
        obtain ⟨N, hN⟩ : ∃ N : Nat, T.nodes = (N : Int) := ⟨T.nodes.toNat, by omega⟩
        obtain ⟨s, hs⟩ : ∃ s, stA l i = s := ⟨_, rfl⟩
        have hsl : l.getD i 0 = s := hs
        obtain ⟨g, hg⟩ : ∃ g, gnB k x i = g := ⟨_, rfl⟩
        have hX : mtL T k x l (i + 1) = mtL T k x l i ++ [mtX T k x i s] := by rw [mtL_succ, hs]
        have hXg : mtX T k x i s = if g = true then goneT T i else tabM T (maskL T k x) s i := by unfold mtX; rw [hg]
        have hmL : (mtL T k x l i).length = i := mtL_len
        obtain ⟨L, hL⟩ : ∃ L, mtL T k x l i = L := ⟨_, rfl⟩
        obtain ⟨X, hXX⟩ : ∃ X, mtX T k x i s = X := ⟨_, rfl⟩
        rw [hL, hXX] at hX
        rw [hL] at hmL ⊢
        rw [hXX] at hXg
        refine W_skip ?_
        refine W_seq ?_
        refine W_block ?_
        refine W_cs (.a 1 rfl <| .v (y_ix (i) rfl) rfl <| .v (y_ld rfl ((ints_get l i hlt).trans (by rw [hsl]))) rfl <| .a 2 rfl <| .k [3, 4, 8, 9, 10, 11, 34, 35, 36] rfl) ?_
        refine W_rs ?_
        refine WR_a 2 rfl <| WR_v (y_ld rfl ((show some (num T.nodes) = some (num (N : Int)) by rw [hN]))) rfl <| WR_l (l_make rfl (fok.rk.get rfl) rfl rfl (rfl : (N : Int) = (N : Int)) (rfl : (N : Int) = (N : Int)) ⟨by unfold maxLen; omega, by omega⟩) rfl <| WR_a 3 rfl <| WR_k [3, 4, 8, 9, 10, 11, 12, 34, 35, 36] rfl ?_
        refine W_frz 1 (σ' := [some (.row 56 3 i (tabsP L)), none, some (.cells 56 [num i, .slice N (zeros [.raw (.slice none 0 0), .raw (.bool false), .raw (.slice none 0 0)] N), .raw (.slice none 0 0)])]) (t' := [(3, .pin (topoP T) 0), (4, .pin (compP k x) 0), (8, .pin FS 0), (9, .own 0), (10, num i), (11, num s), (12, .ptr 2 0), (34, intsV l), (35, num l.length), (36, num i)]) (blk := .row 76 3 N (zeros [.raw (.slice none 0 0), .raw (.bool false), .raw (.slice none 0 0)] N)) rfl ⟨rfl, rfl, fun j hj => by
          match j, hj with
          | 0, _ => exact .inl rfl
          | 1, h => exact absurd rfl h
          | 2, _ => exact .inr ⟨_, _, rfl, rfl, .cells (.cons (.same _) <| .cons .own <| .cons (.same _) .nil)⟩
          | _ + 3, _ => exact .inl rfl⟩ (.cons 3 rfl (.same _) <| .cons 4 rfl (.same _) <| .cons 8 rfl (.same _) <| .cons 9 rfl (.same _) <| .cons 10 rfl (.same _) <| .cons 11 rfl (.same _) <| .cons 12 rfl (.same _) <| .cons 34 rfl (.same _) <| .cons 35 rfl (.same _) <| .cons 36 rfl (.same _) .nil) ?_
        refine W_seq ?_
        refine W_cs (.a 2 rfl <| .c rfl (hg ▸ mgone_can k x i) rfl <| .k [3, 4, 8, 9, 10, 11, 12, 34, 35, 36, 48] rfl) ?_
        refine W_cond rfl (fun hc => ?_) (fun hc => ?_)
        · subst hc
          rw [if_pos rfl] at hXg
          have hle : PLe (.agg [num i, .slice N (zeros [.raw (.slice none 0 0), .raw (.bool false), .raw (.slice none 0 0)] N), intsV (outL T i)]) (tabV X) := by
            rw [hXg]
            have hz := zeros_ent N
            have hTN : T.nodes.toNat = N := by omega
            refine PLe.aggL ⟨rfl, fun j a b h1 h2 => ?_⟩
            match j, h1, h2 with
            | 0, h1, h2 => cases h1; cases h2; exact PLe.refl _
            | 1, h1, h2 =>
              cases h1; cases h2
              show PLe (.slice N _) (.slice (List.replicate T.nodes.toNat (⟨[], false, []⟩ : Ent)).length (entsP (List.replicate T.nodes.toNat ⟨[], false, []⟩)))
              rw [List.length_replicate, hTN]
              exact PLe.sliceL hz.1.symm hz.2
            | 2, h1, h2 => cases h1; cases h2; exact PLe.refl _
            | j + 3, h1, h2 => exact absurd h1 (by simp)
          refine W_region ?_
          refine WR_a 2 rfl <| WR_c rfl (out_can T hll _) rfl <| WR_a 2 rfl <| WR_k [3, 4, 8, 9, 12, 34, 35, 36] rfl ?_
          refine W_region ?_
          refine WR_a 1 rfl <| WR_v (y_le (y_loadPtrAll rfl (fok.tk.get rfl) rfl rfl rfl) hle) rfl <| WR_a 1 rfl <| WR_l (l_append rfl (fok.rk.get rfl) rfl rfl rfl rfl (by unfold maxLen; omega)) rfl <| WR_a 1 rfl <| WR_k [3, 4, 8, 9, 34, 35, 36] rfl ?_
          refine W_ren [3] (.c 3 <| .c 4 <| .c 8 <| .cons 9 rfl (.own (i := 0) (j := 3) rfl) <| .c 34 <| .c 35 <| .c 36 <| .nil) (.kept rfl (.row RenL.pure) .nil) rfl rfl ?_
          refine W_chain (.v (y_ar rfl) rfl <| .a 1 rfl <| .k [3, 4, 8, 9, 34, 35, 36] rfl) ?_
          exact ⟨l.length - (i + 1), by omega, i + 1, by omega, rfl, by rw [hX, ← tabsP_snoc]; rfl⟩
        · subst hc
          have hle : PLe (tabV X) (tabV X) := PLe.refl _
          rw [if_neg (by decide)] at hXg
          have hos : okS s = true := by
            rw [← hs]
            exact allS_iff.1 hP1 i hlt hg
          obtain ⟨f, cap, r1, r2, r3, r4⟩ := mt_row T k x h12 hq1 hil hos hFS
          rw [← hXg] at r3
          obtain ⟨hs0, hs3⟩ : 0 ≤ s ∧ s < 4 := by
            obtain ⟨h0, h3⟩ := Bool.and_eq_true_iff.1 hos
            have h0 := of_decide_eq_true h0
            have h3 := of_decide_eq_true h3
            omega
          refine W_region ?_
          refine WR_a 1 rfl <| WR_v (y_indexArrPin rfl (fok.ar.get rfl) rfl rfl hs0 hs3 (j := s.toNat) (Nat.mul_one _)) rfl <| WR_v (y_ld rfl ((show FS[0 + s.toNat]? = _ by rw [Nat.zero_add]; exact r1))) rfl <| WR_a 1 rfl <| WR_v (y_call rfl r2 rfl rfl r3) rfl <| WR_a 4 rfl <| WR_k [3, 4, 8, 9, 12, 34, 35, 36] rfl ?_
          refine W_region ?_
          refine WR_a 1 rfl <| WR_v (y_le (y_loadPtrAll rfl (fok.tk.get rfl) rfl rfl rfl) hle) rfl <| WR_a 1 rfl <| WR_l (l_append rfl (fok.rk.get rfl) rfl rfl rfl rfl (by unfold maxLen; omega)) rfl <| WR_a 1 rfl <| WR_k [3, 4, 8, 9, 34, 35, 36] rfl ?_
          refine W_ren [3] (.c 3 <| .c 4 <| .c 8 <| .cons 9 rfl (.own (i := 0) (j := 3) rfl) <| .c 34 <| .c 35 <| .c 36 <| .nil) (.kept rfl (.row RenL.pure) .nil) rfl rfl ?_
          refine W_chain (.v (y_ar rfl) rfl <| .a 1 rfl <| .k [3, 4, 8, 9, 34, 35, 36] rfl) ?_
          exact ⟨l.length - (i + 1), by omega, i + 1, by omega, rfl, by rw [hX, ← tabsP_snoc]; rfl⟩
      · have hie : i = l.length := by have := ff hc; omega
        subst hie
        refine W_exit ?_
        refine W_cs (.a 3 rfl <| .k [6, 7] rfl) ?_
        refine W_ret ?_
        exact ⟨_, _, ResL.of rfl, Pur.tupleL (PurL.cons (Pur.ownL rfl PurL.pure) (PurL.cons Pur.pure PurL.nil)), by show PV.tuple [.slice l.length (tabsP (mtL T k x l l.length)), num 0] = .tuple [tabsV (mtL T k x l l.length), num 0]; unfold tabsV; rw [mtL_len]⟩
end PW
end Go.Proofs.YtnegbdpggideiaaGreatDoor

namespace Go.Proofs.YtnegbdpggideiaaGreatDoor
set_option linter.unusedVariables false
set_option linter.unusedSimpArgs false
namespace PW
open Go.RowKit Reg Mem
section
variable {P:Program} {σ:Sto} {t:Tms} {o:Oper}
def bytesP (l:List UInt8):List PV:=l.map fun b=>.raw (.int .u8 b.toNat)
instance (l:List UInt8):IsPureL (bytesP l):=IsPureL.map _ _ fun _=>inferInstance
instance (l:List UInt8):IsOneL (bytesP l):=IsOneL.map _ _ fun _=>inferInstance
theorem bytesP_append (a b:List UInt8):bytesP a++bytesP b=bytesP (a++b):=by simp[bytesP]
theorem run_append_whereS {w:World} (base:Nat) (t u ty e:TypeId) (i:TypeInfo) (ht:P.underlying t=some (.slice e)) (hu:P.underlying u=some .string) (hi:P.info? e=some i) (hz:i.zero=some (.int .u8 0))
  (hsize:i.size=1) (hby:i.bytes=1) (v:Value) (n:Nat) (xs:List Value) (hown:w.ownsRow base e 1 v n xs) (s:ByteArray)
  (h63:n+s.size≤maxLen) (hbytes:n+s.size≤140737488355328) (hbase:base≤w.heap.size):
  ∃v' w',(Builtin.append_ #[t,u] ty #[v,.string s]).run P w= .ok v' w'∧w'.ownsRow base e 1 v' (n+s.size) (xs++Lib.strCells s)∧w.grownBy w' v.ownBlock∧(v'.ownBlock=v.ownBlock∨v'.ownBlock=some w.heap.size):=by
 obtain⟨v',w',hr,h2,h3,h4⟩:=Lib.run_append_own_string (P:=P) w base t u ty e i ht hu hi hz hsize hby v n xs hown s h63 hbytes hbase
 refine⟨v',w',hr,h2,h3,?_⟩
 have hsmall:n+s.size≤9223372036854775807:=by simp only[maxLen]at h63;omega
 rcases hown.2 with⟨rfl,rfl⟩|⟨g,cap,cur,rfl,hbg,hg,hnc,hcm,hcs,htake⟩
 ·by_cases hm:s.size=0
  ·rw[h4.2 ⟨rfl,hm⟩];exact .inl rfl
  ·have hr':=run_append_nil_string (P:=P) w t u ty e i (.int .u8 0) ht hu hi hz s (by omega) (by omega) (by rw[hby];omega)
   rw[hr']at hr
   cases hr
   exact .inr rfl
 ·by_cases hroom:n+s.size≤cap
  ·have hr':=Lib.run_append_room_string (P:=P) w t u ty e i ht hu hi hsize g n cap cur hg s hroom (by rw[hcs];omega)
   rw[hr']at hr
   cases hr
   exact .inl rfl
  ·have holds:∀(j:Nat) u,xs[j]? =some u→w.cell? ((⟨g,0,none⟩:Addr).add j)=some u:=hown.cells (g:=g) rfl
   have hr':=Lib.run_append_grow_string (P:=P) w t u ty e i (.int .u8 0) ht hu hi hz ⟨g,0,none⟩ n cap xs (by rw[hsize];exact hown.1) holds s (by omega) (by omega) (growslice_fits (by omega) (by rw[hby];omega))
   rw[hr']at hr
   cases hr
   exact .inr rfl
def byteK (P:Program) (ty sy:TypeId):Option TypeId:=
 match P.underlying ty,P.underlying sy with
 |some (.slice e),some .string=>match P.info? e with
  |some i=>match i.zero with
   |some (.int .u8 0)=>bif Nat.beq i.size 1&&Nat.beq i.bytes 1 then some e else none
   |_=>none
  |none=>none
 |_,_=>none
theorem byteK_spec {ty sy e:TypeId} (h:byteK P ty sy=some e):P.underlying ty=some (.slice e)∧P.underlying sy=some .string∧∃i,P.info? e=some i∧i.zero=some (.int .u8 0)∧i.size=1∧i.bytes=1:=by
 unfold byteK at h
 split at h
 ·rename_i e' h1 h2
  split at h
  ·rename_i i hi
   split at h
   ·rename_i hz
    rw[Bool.cond_eq_ite]at h
    split at h
    ·rename_i hb
     cases h
     obtain⟨b1,b2⟩:=Bool.and_eq_true_iff.1 hb
     exact⟨h1,h2,i,hi,hz,Nat.eq_of_beq_eq_true b1,Nat.eq_of_beq_eq_true b2⟩
    ·cases h
   ·cases h
  ·cases h
 ·cases h
theorem l_appendStr {ty sy e n i:Nat} {xs:List PV} {x y:Operand} {s:ByteArray} (ho:o.op= .call {callee:=.builtin .append,args:= #[x,y],argTypes:= #[ty,sy]}) (hk:byteK P ty sy=some e) (hx:evalO t x=some (.own i)) (hi:σ[i]? =some (some (.row e 1 n xs)))
  (hy:evalO t y=some (.raw (.string s))) (hn:n+s.size≤140737488355328):
  Loud P σ t o (.own σ.length) (σ.set i none++[some (.row e 1 (n+s.size) (xs++bytesP s.data.toList))]):=by
 intro F base E ρ w hρ hS hT
 have h1:=evalO_rep hρ hT hx
 have h2:=evalO_rep hρ hT hy
 generalize hz1:ρ x=v at h1
 generalize hz2:ρ y=u at h2
 cases h2
 obtain⟨hu,hu2,inf,hinf,hz,hs,hby⟩:=byteK_spec hk
 cases h1 with
 |own _ hiL _ hat hone=>
  obtain⟨cs,k1,k2⟩:=hS.blk i _ hi
  rw[hat]at k1
  have hob:blockOf (E.at_ i)=v.ownBlock:=by rw[hat];exact own_block k1
  obtain⟨v',w',hrun,hown,hg,hw⟩:=run_append_whereS (P:=P) (w:=w) base ty sy o.type e inf hu hu2 hinf hz hs hby v n cs k1 s (by unfold maxLen;omega) hn hS.bl
  have hr:(execOp ρ o).run P w= .ok (.value v') w':=by
   simp only[execOp,ho,resolve,invoke,builtin,Sem.run_bind,Sem.run_pure,Result.andThen_ok,List.map_toArray,List.map_cons,List.map_nil,hz1,hz2,hrun]
  have hnw:RepL E w (Lib.strCells s) (bytesP s.data.toList):=by
   refine⟨by simp[Lib.strCells,bytesP],fun j c u h1 h2=>?_⟩
   simp only[Lib.strCells,bytesP,List.getElem?_map,Option.map_eq_some_iff]at h1 h2
   obtain⟨b,hb,rfl⟩:=h1
   obtain⟨b',hb',rfl⟩:=h2
   rw[hb]at hb'
   cases hb'
   exact .raw _
  have hv':∀b,blockOf v'=some b→blockOf (E.at_ i)=some b∨w.heap.size≤b:=fun b hb=>by
   rw[own_block hown]at hb
   rcases hw with h|h
   ·rw[hob,←h];exact .inl hb
   ·rw[h]at hb;cases hb;exact .inr (Nat.le_refl _)
  obtain⟨a1,a2⟩:=hS.swap (w':=w') (blk:=.row e 1 (n+s.size) (xs++bytesP s.data.toList)) hi hg.size (fun k hk hne=>hg.block k hk (by rw[←hob];exact Ne.symm hne)) hv' (fun E' g=>⟨cs++Lib.strCells s,hown,(k2.append hnw).goes g⟩)
  refine⟨v',w',_,.inl hr,a1,a2,⟨hg.os,hg.tape,hg.output,hg.size,fun k hk=>hg.block k (Nat.lt_of_lt_of_le hk hS.bl) (fun e=>?_)⟩,.own σ.length (by simp[Env.push,Env.kill,hS.len]) v' (by simp[Env.push,Env.kill,hS.len]) ?_⟩
  ·have:=(k1.lt k e.symm).1;omega
  ·rcases hown.2 with⟨rfl,_⟩|⟨g',cap,cur,rfl,_⟩<;>rfl
theorem Sat.drop {F:Nat→Prop} {base:Nat} {E:Env} {w w':World} (hS:Sat F base σ E w) {j g:Nat} {bj:Blk} (hj:σ[j]? =some (some bj)) (hb:blockOf (E.at_ j)=some g) (hs:w.heap.size≤w'.heap.size) (ho:∀k,k<w.heap.size→k≠g→w'.heap[k]? =w.heap[k]?):
  Sat F base (σ.set j none) (E.kill j) w'∧Goes E w (E.kill j) w':=by
 have hgM:E.M g:=(hS.mm g).2 (.inr ⟨j,bj,hj,hb⟩)
 obtain⟨k1,_⟩:=hS.kill j hj
 have g':Goes E w (E.kill j) w':=⟨Nat.le_refl _,fun _ _=>rfl,fun b _ hM h=>hM h.1,hs,fun k hk hM=>ho k hk (fun e=>hM (by rw[e];exact hgM))⟩
 refine⟨⟨Nat.le_trans hS.bl hs,fun b hb'=>⟨Nat.lt_of_lt_of_le (k1.fb b hb').1 hs,(k1.fb b hb').2⟩,k1.len,k1.mm,fun i bl hi=>?_,k1.inj,hS.gl.goes g'⟩,g'⟩
 obtain⟨hne,h3⟩:=set_none hi
 exact(hS.blk i bl h3).goes g' (fun k hk=>ho k ((hS.blk i bl h3).lt hk).2 (fun e=>hne (hS.inj i j bl bj g h3 hj (by rw[←e];exact hk) hb)))
theorem y_lenStr {ty:TypeId} {x:Operand} {s:ByteArray} (ho:o.op= .call {callee:=.builtin .len,args:= #[x],argTypes:= #[ty]}) (hu:P.underlying ty=some .string) (hx:evalO t x=some (.raw (.string s))):Yield P σ t o (.raw (.int .i64 s.size)):=by
 intro F base E ρ w hρ _ hT
 have h1:=evalO_rep hρ hT hx
 generalize hz:ρ x=z at h1
 cases h1
 simp[execOp,ho,resolve,invoke,builtin,Builtin.len_,hz,run_underlying hu,goInt]
 exact upon_val (.raw _)
theorem y_sliceData {ty:TypeId} {x:Operand} {j e s n:Nat} {xs:List PV} (ho:o.op= .call {callee:=.builtin .unsafeSliceData,args:= #[x],argTypes:= #[ty]}) (hx:evalO t x=some (.own j)) (hj:σ[j]? =some (some (.row e s n xs))) (hn:0<n):Yield P σ t o (.ptr j 0):=by
 intro F base E ρ w hρ hS hT
 have h1:=evalO_rep hρ hT hx
 generalize hz:ρ x=z at h1
 cases h1 with
 |own _ hi _ h hone=>
  obtain⟨cs,k1,_⟩:=hS.blk j _ hj
  rw[h]at k1
  rcases k1.2 with⟨_,h0⟩|⟨g,cap,cur,hv,_,_,hnc,_⟩
  ·omega
  ·subst hv
   have:=Lib.run_unsafeSliceData_row (P:=P) w #[ty] o.type ⟨g,0,none⟩ n cap (by omega)
   simp only[execOp,ho,resolve,invoke,builtin,Sem.run_bind,Sem.run_pure,Result.andThen_ok,List.map_toArray,List.map_cons,List.map_nil,hz,this]
   exact upon_val (.ptr j 0 g hi (.inr ⟨n,cap,h⟩))
theorem l_unsafeStr {pt it:TypeId} {x y:Operand} {j e:Nat} {l:List UInt8} (ho:o.op= .call {callee:=.builtin .unsafeString,args:= #[x,y],argTypes:= #[pt,it]}) (hp:P.underlying pt=some (.pointer e)) (hc:P.cellsOf e=1) (hx:evalO t x=some (.ptr j 0)) (hy:evalO t y=some (.raw (.int .i64 l.length))) (hj:σ[j]? =some (some (.row e 1 l.length (bytesP l)))) (hl:0<l.length):
  Loud P σ t o (.raw (.string ⟨l.toArray⟩)) (σ.set j none):=by
 intro F base E ρ w hρ hS hT
 have h1:=evalO_rep hρ hT hx
 have h2:=evalO_rep hρ hT hy
 generalize hz:ρ x=z at h1
 generalize hz':ρ y=z' at h2
 cases h2
 cases h1 with
 |ptr _ _ b hi h=>
  obtain⟨cs,k1,k2⟩:=hS.blk j _ hj
  have hcs:cs=Lib.byteCells l:=by
   apply List.ext_getElem?
   intro i
   by_cases hi':i<l.length
   ·have h3:=k2.2 i (cs[i]'(by rw[k2.1];simpa[bytesP]using hi')) (.raw (.int .u8 (l[i]).toNat)) (by simp) (by simp[bytesP,hi'])
    have h4:cs[i]'(by rw[k2.1];simpa[bytesP]using hi')= .int .u8 (l[i]).toNat:=by
     generalize cs[i]'(by rw[k2.1];simpa[bytesP]using hi')=q at h3
     cases h3;rfl
    rw[List.getElem?_eq_getElem (by rw[k2.1];simpa[bytesP]using hi'),h4]
    simp[Lib.byteCells,hi']
   ·rw[List.getElem?_eq_none (by rw[k2.1];simp[bytesP];omega),List.getElem?_eq_none (by simp[Lib.byteCells];omega)]
  subst hcs
  have k3:=k1
  rcases k1.2 with⟨hv,h0⟩|⟨g,cap,cur,hv,hbg,hg,hnc,hcm,hsz,htk⟩
  ·omega
  ·have hbeq:b=g:=by
    rcases h with h|⟨n,c,h⟩
    ·rw[hv]at h;cases h
    ·rw[hv]at h;cases h;rfl
   subst hbeq
   have hblk:blockOf (E.at_ j)=some b:=by rw[hv];rfl
   have hrun:=Lib.run_unsafeString_row (P:=P) w pt it o.type e hp hc b cur.size (by simp[World.shape?,hg]) l (by intro e';rw[e']at hl;simp at hl) (by omega) (by unfold maxLen at hcm;omega) (fun i x hx'=>k3.cells (g:=b) (by rw[hv];rfl) i (.int .u8 x.toNat) (by simp[Lib.byteCells,hx']))
   have hr:(execOp ρ o).run P w= .ok (.value (.string ⟨l.toArray⟩)) (w.freeze ⟨b,0,none⟩ l.length):=by
    simp only[execOp,ho,resolve,invoke,builtin,Sem.run_bind,Sem.run_pure,Result.andThen_ok,List.map_toArray,List.map_cons,List.map_nil,hz,hz',hrun]
   have hfz:∀k,k≠b→(w.freeze ⟨b,0,none⟩ l.length).heap[k]? =w.heap[k]? :=fun k hk=>by
    unfold World.freeze
    split
    ·rfl
    ·simp only[Array.getElem?_modify]
     rw[if_neg (Ne.symm hk)]
   have hsz':w.heap.size≤(w.freeze ⟨b,0,none⟩ l.length).heap.size:=by
    unfold World.freeze
    split<;>simp
   obtain⟨a1,a2⟩:=Sat.drop (w':=w.freeze ⟨b,0,none⟩ l.length) hS hj hblk hsz' (fun k _ hk=>hfz k hk)
   exact⟨_,_,_,.inl hr,a1,a2,Lib.below_freeze (Below.refl base w) (p:=⟨b,0,none⟩) hbg _,.raw _⟩
theorem y_nilEql {x y:Operand} {ty tz:TypeId} (ho:o.op= .binOp .eql ty x y tz) (hk:ptrK P ty=true) (hx:evalO t x=some (.raw (.pointer none))) (hy:evalO t y=some (.raw (.pointer none))):Yield P σ t o (.raw (.bool true)):=by
 refine y_bin ho hx hy fun w=>?_
 unfold ptrK at hk
 split at hk
 ·rename_i e hu
  have key:∀d,(Op.equalIn (d+1) ty (.pointer none) (.pointer none)).run P w= .ok true w:=fun d=>by
   simp only[Op.equalIn,Sem.run_bind,run_underlying hu,Result.andThen_ok,Sem.run_pure,Option.isNone_none]
  have:=key 9999
  simp only[Nat.reduceAdd]at this
  simp[eqGuard,binOp,Op.equal,Op.maxDepth,this]
 ·cases hk
theorem y_ptrSame {x y:Operand} {ty te tz:TypeId} {i k:Nat} {ji:TypeInfo} (ho:o.op= .binOp .neq ty x y tz) (hp:P.underlying ty=some (.pointer te)) (hte:P.info? te=some ji) (hx:evalO t x=some (.ptr i k)) (hy:evalO t y=some (.ptr i k)):Yield P σ t o (.raw (.bool false)):=by
 intro F base E ρ w hρ hS hT
 have h1:=evalO_rep hρ hT hx
 have h2:=evalO_rep hρ hT hy
 have he:ρ x=ρ y:=IsFix.det E w _ _ h1 h2
 generalize hz:ρ x=z at h1
 have hz':ρ y=z:=by rw[←he,hz]
 cases h1 with
 |ptr _ _ b hi h=>
  have hb:=Lib.run_neq_ptr_same (P:=P) w ⟨b,k,none⟩ hp hte
  have hr:(execOp ρ o).run P w= .ok (.value (.bool false)) w:=by
   simp only[execOp,ho,hz,hz',Sem.run_bind,Sem.run_pure]
   have hg:(eqGuard .neq ty x y (.pointer (some ⟨b,k,none⟩)) (.pointer (some ⟨b,k,none⟩))).run P w= .ok () w:=rfl
   rw[hg]
   simp only[Result.andThen_ok,hb]
  rw[hr]
  exact upon_val (.raw _)
theorem y_toUnsafe {src dst te ty:TypeId} {x:Operand} {i:Nat} {ji:TypeInfo} {xs:List PV} (ho:o.op= .convert src dst x) (hs:P.underlying src=some (.pointer te)) (hd:P.underlying dst=some .unsafePointer) (ht:P.info? te=some ji) (hj:ji.size≠0) (hx:evalO t x=some (.ptr i 0)) (hi:σ[i]? =some (some (.cells ty xs))) (hl:0<xs.length):Yield P σ t o (.ptr i 0):=by
 intro F base E ρ w hρ hS hT
 have h1:=evalO_rep hρ hT hx
 have h1':=h1
 generalize hz:ρ x=z at h1 h1'
 obtain⟨b,cs,k1,k2,k3,k4⟩:=hS.blk i _ hi
 cases h1 with
 |ptr _ _ b' hi' h=>
  have hb:b'=b:=by
   rcases h with h|⟨n,c,h⟩<;>rw[k1]at h<;>cases h
   rfl
  subst hb
  have:=Lib.run_to_unsafe (P:=P) w ⟨b',0,none⟩ hs hd ht hj (e:=ty) (cells:=cs.size) (by simp[World.shape?,k3]) (by have:=k4.1;simp at this ⊢;omega)
  simp only[execOp,ho,hz,Sem.run_bind,this,Result.andThen_ok,Sem.run_pure]
  exact upon_val h1'
theorem y_fromUnsafe {src dst u ty:TypeId} {x:Operand} {i:Nat} {ji:TypeInfo} {xs:List PV} (ho:o.op= .convert src dst x) (hs:P.underlying src=some .unsafePointer) (hd:P.underlying dst=some (.pointer u)) (ht:P.info? u=some ji) (hx:evalO t x=some (.ptr i 0)) (hi:σ[i]? =some (some (.cells ty xs))) (hl:liesAt P P.depth ty (xs.length / P.cellsOf ty) 0 u 1=true):Yield P σ t o (.ptr i 0):=by
 intro F base E ρ w hρ hS hT
 have h1:=evalO_rep hρ hT hx
 have h1':=h1
 generalize hz:ρ x=z at h1 h1'
 obtain⟨b,cs,k1,k2,k3,k4⟩:=hS.blk i _ hi
 cases h1 with
 |ptr _ _ b' hi' h=>
  have hb:b'=b:=by
   rcases h with h|⟨n,c,h⟩<;>rw[k1]at h<;>cases h
   rfl
  subst hb
  have hsz:cs.size=xs.length:=by have:=k4.1;simpa using this
  have:=Lib.run_from_unsafe (P:=P) w ⟨b',0,none⟩ hs hd ht (e:=ty) (cells:=cs.size) (by simp[World.shape?,k3]) (by rw[hsz];exact hl)
  simp only[execOp,ho,hz,Sem.run_bind,this,Result.andThen_ok,Sem.run_pure]
  exact upon_val h1'
theorem y_callSame {f:FuncId} {x a:Operand} {ats:Array TypeId} {p:PV} (ho:o.op= .call {callee:=.value x,args:= #[a],argTypes:=ats}) (hx:evalO t x=some (.func f [])) (ha:evalO t a=some p) (hr:∀v w,(callFunc f #[v]).run P w= .ok (.value v) w):Yield P σ t o p:=by
 intro F base E ρ w hρ hS hT
 have h1:=evalO_rep hρ hT hx
 have h2:=evalO_rep hρ hT ha
 generalize hz:ρ x=z at h1
 cases h1 with
 |func _ cs _ hl hr'=>
  have hcs:cs= #[]:=Array.eq_empty_of_size_eq_zero (by simpa using hl)
  subst hcs
  have h3:(execOp ρ o).run P w= .ok (.value (ρ a)) w:=by
   have:=hr (ρ a) w
   simp[execOp,ho,resolve,hz,Deferred.ofValue,invoke,this]
  rw[h3]
  exact upon_val h2
end
end PW
end Go.Proofs.YtnegbdpggideiaaGreatDoor

namespace Go.Proofs
open Go.Shelf
open Go.RowKit in
open Go.RowKit in
open Go.RowKit in
open Go.RowKit in
open Go.RowKit in
open Go.RowKit in
open Go.RowKit in
open Go.RowKit in
open Go.RowKit in
open Go.Lib in
open Go.Lib in
open Go.Lib in
open Go.Lib in
open Go.RowKit Go.Sort Go.Lib in
def Tryz.laysM246_ren:Go.Shelf.Ren:=⟨fun|246=>220|283=>227|284=>228|285=>229|286=>230|129=>241|317=>242|318=>243|319=>244|320=>245|337=>252|338=>253|n=>n,fun|2=>2|3=>3|9=>9|4=>4|171=>248|0=>0|53=>249|37=>26|5=>5|173=>252|212=>264|51=>262|20=>20|213=>265|46=>247|232=>275|233=>276|n=>n,fun|17=>0|18=>1|19=>2|n=>n⟩
open Go.RowKit Go.Sort Go.Lib in
open Go.RowKit Go.Sort Go.Lib in
def Tryz.laysM243_ren:Go.Shelf.Ren:=⟨fun|243=>208|246=>220|283=>227|284=>228|285=>229|286=>230|129=>241|317=>242|318=>243|319=>244|320=>245|337=>252|338=>253|n=>n,fun|3=>3|9=>9|2=>2|4=>4|171=>248|0=>0|53=>249|37=>26|5=>5|173=>252|212=>264|51=>262|20=>20|213=>265|46=>247|232=>275|233=>276|n=>n,fun|17=>0|18=>1|19=>2|n=>n⟩
open Go.RowKit Go.Sort Go.Lib in
open Go.RowKit Go.Sort Go.Lib in
def Tryz.laysM171_ren:Go.Shelf.Ren:=⟨fun|171=>187|243=>208|246=>220|283=>227|284=>228|285=>229|286=>230|129=>241|317=>242|318=>243|319=>244|320=>245|337=>252|338=>253|n=>n,fun|3=>3|9=>9|2=>2|4=>4|171=>248|0=>0|53=>249|37=>26|5=>5|173=>252|212=>264|51=>262|20=>20|213=>265|46=>247|232=>275|233=>276|n=>n,fun|17=>0|18=>1|19=>2|n=>n⟩
open Go.RowKit Go.Sort Go.Lib in
def Tryz.lays171_ren:Go.Shelf.Ren:=⟨fun|171=>187|243=>208|246=>220|283=>227|284=>228|285=>229|286=>230|129=>241|317=>242|318=>243|319=>244|320=>245|337=>252|338=>253|n=>n,fun|3=>3|9=>9|2=>2|4=>4|171=>248|0=>0|53=>249|37=>26|5=>5|173=>252|212=>264|51=>262|20=>20|213=>265|46=>247|232=>275|233=>276|n=>n,fun|17=>0|18=>1|19=>2|n=>n⟩
theorem Tryz.lays171:Go.Proofs.Lays.n171 Tryz.prog Tryz.lays171_ren:= {
 mixed:=by kernel_rfl
 f129:=Tryz.func241.trans (congrArg some (by kernel_rfl))
 f171:=Tryz.func187.trans (congrArg some (by kernel_rfl))
 f243:=Tryz.func208.trans (congrArg some (by kernel_rfl))
 f246:=Tryz.func220.trans (congrArg some (by kernel_rfl))
 f283:=Tryz.func227.trans (congrArg some (by kernel_rfl))
 f284:=Tryz.func228.trans (congrArg some (by kernel_rfl))
 f285:=Tryz.func229.trans (congrArg some (by kernel_rfl))
 f286:=Tryz.func230.trans (congrArg some (by kernel_rfl))
 f317:=Tryz.func242.trans (congrArg some (by kernel_rfl))
 f318:=Tryz.func243.trans (congrArg some (by kernel_rfl))
 f319:=Tryz.func244.trans (congrArg some (by kernel_rfl))
 f320:=Tryz.func245.trans (congrArg some (by kernel_rfl))
 f337:=Tryz.func252.trans (congrArg some (by kernel_rfl))
 f338:=Tryz.func253.trans (congrArg some (by kernel_rfl))
 t0:=Tryz.underlying0
 a0:=Tryz.isAgg0
 z0:=Tryz.sizeOf0
 v0:=Tryz.zeroValue0
 t2:=Tryz.underlying2
 a2:=Tryz.isAgg2
 z2:=Tryz.sizeOf2
 v2:=Tryz.zeroValue2
 t3:=Tryz.underlying3
 a3:=Tryz.isAgg3
 z3:=Tryz.sizeOf3
 v3:=Tryz.zeroValue3
 t4:=Tryz.underlying4
 a4:=Tryz.isAgg4
 z4:=Tryz.sizeOf4
 v4:=Tryz.zeroValue4
 t5:=Tryz.underlying5
 a5:=Tryz.isAgg5
 z5:=Tryz.sizeOf5
 v5:=Tryz.zeroValue5
 t9:=Tryz.underlying9
 a9:=Tryz.isAgg9
 z9:=Tryz.sizeOf9
 v9:=Tryz.zeroValue9
 t20:=Tryz.underlying20
 a20:=Tryz.isAgg20
 z20:=Tryz.sizeOf20
 v20:=Tryz.zeroValue20
 t37:=Tryz.underlying26
 a37:=Tryz.isAgg26
 z37:=Tryz.sizeOf26
 v37:=Tryz.zeroValue26
 t46:=Tryz.underlying247
 a46:=Tryz.isAgg247
 z46:=Tryz.sizeOf247
 v46:=Tryz.zeroValue247
 t51:=Tryz.underlying262
 a51:=Tryz.isAgg262
 z51:=Tryz.sizeOf262
 v51:=Tryz.zeroValue262
 t53:=Tryz.underlying249
 a53:=Tryz.isAgg249
 z53:=Tryz.sizeOf249
 v53:=Tryz.zeroValue249
 t171:=Tryz.underlying248
 a171:=Tryz.isAgg248
 z171:=Tryz.sizeOf248
 v171:=Tryz.zeroValue248
 t173:=Tryz.underlying252
 a173:=Tryz.isAgg252
 z173:=Tryz.sizeOf252
 v173:=Tryz.zeroValue252
 t212:=Tryz.underlying264
 a212:=Tryz.isAgg264
 z212:=Tryz.sizeOf264
 v212:=Tryz.zeroValue264
 t213:=Tryz.underlying265
 a213:=Tryz.isAgg265
 z213:=Tryz.sizeOf265
 t232:=Tryz.underlying275
 a232:=Tryz.isAgg275
 z232:=Tryz.sizeOf275
 v232:=Tryz.zeroValue275
 t233:=Tryz.underlying276
 a233:=Tryz.isAgg276
 z233:=Tryz.sizeOf276
 v233:=Tryz.zeroValue276
 g17:=by kernel_rfl
 g18:=by kernel_rfl
 g19:=by kernel_rfl}
open Go.RowKit Go.Sort Go.Lib in
theorem Tryz.strconv_Itoa_small (i:Nat) (hi:i<100) (w:World):
  Calls Tryz.prog 187 #[.int .i64 i] w fun e w'=>e= .returned (.string ⟨(Lib.decDigits i).toArray⟩)∧w'=w:=Any.strconv_Itoa_small Tryz.lays171 i hi w
end Go.Proofs

namespace Go.Proofs.YtnegbdpggideiaaGreatDoor
set_option linter.unusedVariables false
set_option linter.unusedSimpArgs false
namespace PW
open Go.RowKit Reg Mem
def bst (j:Nat) (u:Bool) (l:List UInt8):Sto:=some (.cells 214 [if u then .ptr 0 0 else .raw (.pointer none),.own j])::(List.replicate (j - 1) none++[some (.row 5 1 l.length (bytesP l))])
theorem info_bld:∃i,Tryz.prog.info? 214=some i∧i.size=2:=by
 have h:(Tryz.prog.info? 214).map (·.size)=some 2:=by kernel_rfl
 obtain⟨i,h1,h2⟩:=Option.map_eq_some_iff.1 h
 exact⟨i,h1,h2⟩
theorem noEscape_run (v:Value) (w:World):(callFunc 219 #[v]).run Tryz.prog w= .ok (.value v) w:=by
 rw[run_callFunc_extern Tryz.func219 (by kernel_rfl) (by kernel_rfl) (by kernel_rfl) (e:=Extern.AbiNoEscape.same) (by kernel_rfl),Lib.run_noEscape]
 rfl
theorem byteK_here:byteK Tryz.prog 26 9=some 5:=by kernel_rfl
set_option maxRecDepth 10000 in
set_option maxHeartbeats 1000000 in
theorem ccheck1 (u:Bool) (l:List UInt8):CanS Tryz.prog 207 [.ptr 0 0] (bst 1 u l) (fun _ σ'=>σ'=bst 1 true l):=by
 obtain⟨ji,hji,hjs⟩:=info_bld
 refine canS_of Tryz.func207 rfl Tryz.ntmps207 rfl ?_
 cases u
 ·refine W_rs ?_
  refine WR_val (y_move rfl rfl) rfl rfl rfl ?_
  refine WR_val (y_nilPtr rfl rfl) rfl rfl rfl ?_
  refine WR_val (y_a rfl) rfl rfl rfl ?_
  refine WR_val (y_loadPtr rfl (fok.tk.get rfl) rfl rfl rfl) rfl rfl rfl ?_
  refine WR_val (y_nilEql rfl (fok.pk.get rfl) rfl rfl) rfl rfl rfl (WR_nil ?_)
  refine W_condT rfl ?_
  refine W_region ?_
  refine WR_val (y_move rfl rfl) rfl rfl rfl ?_
  refine WR_val (y_move rfl rfl) rfl rfl rfl ?_
  refine WR_val (y_toUnsafe rfl Tryz.underlying212 Tryz.underlying241 hji (by rw[hjs];decide) rfl rfl (by decide)) rfl rfl rfl ?_
  refine WR_val (y_callSame rfl rfl rfl noEscape_run) rfl rfl rfl ?_
  refine WR_val (y_fromUnsafe rfl Tryz.underlying241 Tryz.underlying212 hji rfl rfl (by kernel_rfl)) rfl rfl rfl ?_
  refine WR_val (y_nilPtr rfl rfl) rfl rfl rfl ?_
  refine WR_val (y_a rfl) rfl rfl rfl ?_
  refine WR_loud0 (l_store1 rfl (fok.tk.get rfl) rfl rfl rfl (Nat.le_of_ble_eq_true rfl)) rfl rfl (WR_nil ?_)
  exact⟨_,.nil,rfl⟩
 ·refine W_rs ?_
  refine WR_val (y_move rfl rfl) rfl rfl rfl ?_
  refine WR_val (y_nilPtr rfl rfl) rfl rfl rfl ?_
  refine WR_val (y_a rfl) rfl rfl rfl ?_
  refine WR_val (y_loadPtr rfl (fok.tk.get rfl) rfl rfl rfl) rfl rfl rfl ?_
  refine WR_val (y_ptrEql rfl (fok.pk.get rfl) rfl rfl) rfl rfl rfl (WR_nil ?_)
  refine W_condF rfl ?_
  refine W_rs ?_
  refine WR_val (y_move rfl rfl) rfl rfl rfl ?_
  refine WR_val (y_nilPtr rfl rfl) rfl rfl rfl ?_
  refine WR_val (y_a rfl) rfl rfl rfl ?_
  refine WR_val (y_loadPtr rfl (fok.tk.get rfl) rfl rfl rfl) rfl rfl rfl ?_
  refine WR_val (y_move rfl rfl) rfl rfl rfl ?_
  refine WR_val (y_ptrSame rfl Tryz.underlying212 hji rfl rfl) rfl rfl rfl (WR_nil ?_)
  refine W_condF rfl ?_
  exact W_skip ⟨_,.nil,rfl⟩
set_option maxRecDepth 10000 in
set_option maxHeartbeats 1000000 in
theorem wstr1 (u:Bool) (l:List UInt8) (s:ByteArray) (hn:l.length+s.size≤1000000000):CanS Tryz.prog 186 [.ptr 0 0,.raw (.string s)] (bst 1 u l) (fun _ σ'=>σ'=bst 2 true (l++s.data.toList)):=by
 refine canS_of Tryz.func186 rfl Tryz.ntmps186 rfl ?_
 refine W_cs (.a 2 rfl<|.k [0,1] rfl) ?_
 refine W_rs ?_
 refine WR_a 1 rfl<|WR_cS rfl rfl (CanS.mono (ccheck1 u l) (fun _ σ' h=>?_))
 subst h
 refine WR_k [0,1] rfl ?_
 refine W_rs ?_
 refine WR_a 6 rfl<|WR_l (l_appendStr rfl byteK_here rfl rfl rfl (by omega)) rfl<|WR_a 3 rfl<|WR_k [1] rfl ?_
 refine W_cs (.a 1 rfl<|.v (y_lenStr rfl Tryz.underlying9 rfl) rfl<|.a 2 rfl<|.k [4,5] rfl) ?_
 refine W_ret ?_
 refine⟨_,ResL.of rfl,?_⟩
 have hl:(l++s.data.toList).length=l.length+s.size:=by simp
 unfold bst
 rw[hl,←bytesP_append]
 rfl
set_option maxRecDepth 10000 in
set_option maxHeartbeats 1000000 in
theorem bstring (u:Bool) (l:List UInt8) (hl:0<l.length):CanS Tryz.prog 189 [.ptr 0 0] (bst 1 u l) (fun r _=>r= .raw (.string ⟨l.toArray⟩)):=by
 refine canS_of Tryz.func189 rfl Tryz.ntmps189 rfl ?_
 cases u
 all_goals
  refine W_cs (.a 1 rfl<|.k [0] rfl) ?_
  refine W_dfs 10 20 mixed (
   .val [0] rfl (y_a rfl) rfl rfl<|
   .val [3] rfl (y_a rfl) rfl rfl<|
   .val [4] rfl (y_a rfl) rfl rfl<|
   .val [5] rfl (y_a rfl) rfl rfl<|
   .val [6] rfl (y_sliceData rfl rfl rfl hl) rfl rfl<|
   .val [0] rfl (y_a rfl) rfl rfl<|
   .val [8] rfl (y_a rfl) rfl rfl<|
   .val [9] rfl (y_a rfl) rfl rfl<|
   .val [10] rfl (y_a rfl) rfl rfl<|
   .val [11] rfl (y_a rfl) rfl rfl<|
   .nil) (by kernel_rfl) rfl rfl (keepT_sub (ks:=[7,12]) rfl) ?_
  refine WR_l (l_unsafeStr rfl Tryz.underlying233 (by kernel_rfl) rfl rfl rfl hl) rfl<|WR_a 1 rfl<|WR_k [2] rfl ?_
  refine W_ret ?_
  exact⟨_,ResL.of rfl,rfl⟩
def strV (l:List UInt8):PV:=.raw (.string ⟨l.toArray⟩)
theorem itoa_small (i:Nat) (hi:i<100):Can Tryz.prog 187 [num i] (· =strV (Lib.decDigits i)):=fun F w vs _ _ hR=>by
 obtain⟨v,rfl,h1⟩:=args1 hR
 cases rep_raw h1
 refine(Tryz.strconv_Itoa_small i hi w).mono ?_
 rintro e w' ⟨rfl,rfl⟩
 exact⟨_,rfl,Ext.refl _,_,rfl,.raw _⟩
def strsP (L:List (List UInt8)):List PV:=L.map strV
def strsV (L:List (List UInt8)):PV:=.slice L.length (strsP L)
instance (l:List UInt8):IsPure (strV l):=by unfold strV;infer_instance
instance (l:List UInt8):IsOne (strV l):=by unfold strV;infer_instance
instance (L:List (List UInt8)):IsPureL (strsP L):=IsPureL.map _ _ fun _=>inferInstance
instance (L:List (List UInt8)):IsOneL (strsP L):=IsOneL.map _ _ fun _=>inferInstance
instance (L:List (List UInt8)):IsPure (strsV L):=by unfold strsV;infer_instance
end PW
end Go.Proofs.YtnegbdpggideiaaGreatDoor

namespace Go.Proofs.YtnegbdpggideiaaGreatDoor
set_option linter.unusedVariables false
set_option linter.unusedSimpArgs false
namespace PW
open Go.RowKit Reg Mem Net
def bstX (l:List UInt8) (x:Option Blk):Sto:=[some (.cells 214 [.ptr 0 0,.own 1]),some (.row 5 1 l.length (bytesP l)),x]
def bstY (l:List UInt8) (x:Option Blk):Sto:=[some (.cells 214 [.ptr 0 0,.own 3]),none,x,some (.row 5 1 l.length (bytesP l))]
set_option maxRecDepth 10000 in
set_option maxHeartbeats 1000000 in
theorem ccheckX (l:List UInt8) (x:Option Blk):CanS Tryz.prog 207 [.ptr 0 0] (bstX l x) (fun _ σ'=>σ'=bstX l x):=by
 obtain⟨ji,hji,hjs⟩:=info_bld
 refine canS_of Tryz.func207 rfl Tryz.ntmps207 rfl ?_
 refine W_rs ?_
 refine WR_val (y_move rfl rfl) rfl rfl rfl ?_
 refine WR_val (y_nilPtr rfl rfl) rfl rfl rfl ?_
 refine WR_val (y_a rfl) rfl rfl rfl ?_
 refine WR_val (y_loadPtr rfl (fok.tk.get rfl) rfl rfl rfl) rfl rfl rfl ?_
 refine WR_val (y_ptrEql rfl (fok.pk.get rfl) rfl rfl) rfl rfl rfl (WR_nil ?_)
 refine W_condF rfl ?_
 refine W_rs ?_
 refine WR_val (y_move rfl rfl) rfl rfl rfl ?_
 refine WR_val (y_nilPtr rfl rfl) rfl rfl rfl ?_
 refine WR_val (y_a rfl) rfl rfl rfl ?_
 refine WR_val (y_loadPtr rfl (fok.tk.get rfl) rfl rfl rfl) rfl rfl rfl ?_
 refine WR_val (y_move rfl rfl) rfl rfl rfl ?_
 refine WR_val (y_ptrSame rfl Tryz.underlying212 hji rfl rfl) rfl rfl rfl (WR_nil ?_)
 refine W_condF rfl ?_
 exact W_skip ⟨_,.nil,rfl⟩
set_option maxRecDepth 10000 in
set_option maxHeartbeats 1000000 in
theorem wstrX (l:List UInt8) (x:Option Blk) (s:ByteArray) (hn:l.length+s.size≤1000000000):CanS Tryz.prog 186 [.ptr 0 0,.raw (.string s)] (bstX l x) (fun _ σ'=>σ'=bstY (l++s.data.toList) x):=by
 refine canS_of Tryz.func186 rfl Tryz.ntmps186 rfl ?_
 refine W_cs (.a 2 rfl<|.k [0,1] rfl) ?_
 refine W_rs ?_
 refine WR_a 1 rfl<|WR_cS rfl rfl (CanS.mono (ccheckX l x) (fun _ σ' h=>?_))
 subst h
 refine WR_k [0,1] rfl ?_
 refine W_rs ?_
 refine WR_a 6 rfl<|WR_l (l_appendStr rfl byteK_here rfl rfl rfl (by omega)) rfl<|WR_a 3 rfl<|WR_k [1] rfl ?_
 refine W_cs (.a 1 rfl<|.v (y_lenStr rfl Tryz.underlying9 rfl) rfl<|.a 2 rfl<|.k [4,5] rfl) ?_
 refine W_ret ?_
 refine⟨_,ResL.of rfl,?_⟩
 have hl:(l++s.data.toList).length=l.length+s.size:=by simp
 unfold bstY
 rw[hl,←bytesP_append]
 rfl
set_option maxRecDepth 10000 in
set_option maxHeartbeats 1000000 in
theorem wbyteX (l:List UInt8) (x:Option Blk) (c:UInt8) (hn:l.length≤1000000000):CanS Tryz.prog 188 [.ptr 0 0,.raw (.int .u8 c.toNat)] (bstX l x) (fun _ σ'=>σ'=bstY (l++[c]) x):=by
 refine canS_of Tryz.func188 rfl Tryz.ntmps188 rfl ?_
 refine W_cs (.a 1 rfl<|.k [0,1] rfl) ?_
 refine W_rs ?_
 refine WR_a 1 rfl<|WR_cS rfl rfl (CanS.mono (ccheckX l x) (fun _ σ' h=>?_))
 subst h
 refine WR_k [0,1] rfl ?_
 refine W_rs ?_
 refine WR_a 7 rfl<|WR_l (l_append rfl (fok.rk.get rfl) rfl rfl rfl rfl (by unfold maxLen;omega)) rfl<|WR_a 3 rfl<|WR_k [] rfl ?_
 refine W_cs (.a 1 rfl<|.k [4] rfl) ?_
 refine W_ret ?_
 refine⟨_,ResL.of rfl,?_⟩
 unfold bstY
 rw[←bytesP_append]
 simp only[List.length_append,List.length_singleton]
 rfl
theorem W_bx {P:Program} {M:Nat} {c:Code} {t:Tms} {Q:Exit→St→Prop} {l:List UInt8} {ty:TypeId} {xs:List PV} [IsPureL xs] (hT:TRen [0,3,2] t t) (h:W P M 0 c ⟨t,bstX l (some (.cells ty xs))⟩ Q):W P M 0 c ⟨t,bstY l (some (.cells ty xs))⟩ Q:=
 W_ren [0,3,2] hT (.kept rfl (.cells (RenL.cons (Ren.ptr (i:=0) rfl)<|RenL.cons (Ren.own (i:=1) rfl) RenL.nil))<|.kept rfl (.row RenL.pure)<|.kept rfl (.cells RenL.pure)<|.nil) rfl rfl h
theorem W_bz {P:Program} {M:Nat} {c:Code} {t:Tms} {Q:Exit→St→Prop} {l:List UInt8} {x:Option Blk} (hT:TRen [0,3] t t) (h:W P M 0 c ⟨t,bst 1 true l⟩ Q):W P M 0 c ⟨t,bstY l x⟩ Q:=
 W_ren [0,3] hT (.kept rfl (.cells (RenL.cons (Ren.ptr (i:=0) rfl)<|RenL.cons (Ren.own (i:=1) rfl) RenL.nil))<|.kept rfl (.row RenL.pure)<|.nil) rfl rfl h
theorem W_bn {P:Program} {M:Nat} {c:Code} {t:Tms} {Q:Exit→St→Prop} {l:List UInt8} (hT:TRen [0,2] t t) (h:W P M 0 c ⟨t,bst 1 true l⟩ Q):W P M 0 c ⟨t,bst 2 true l⟩ Q:=
 W_ren [0,2] hT (.kept rfl (.cells (RenL.cons (Ren.ptr (i:=0) rfl)<|RenL.cons (Ren.own (i:=1) rfl) RenL.nil))<|.kept rfl (.row RenL.pure)<|.nil) rfl rfl h
theorem name_take (s:List Seg) (i:Nat) (g:Seg) (h:s[i]? =some g) (n:Nat):nameL n (s.take (i+1))=(((nameL n (s.take i)++[32])++Lib.decDigits g.kind.toNat)++[58])++Lib.decDigits g.num.toNat:=by
 unfold nameL
 rw[List.take_add_one,h]
 simp[nmB]
theorem small_take {s:List Seg} (h:SmallS s) (i:Nat):SmallS (s.take i):=fun g hg=>h g (List.mem_of_mem_take hg)
theorem nameL_len {n:Nat} {s:List Seg} (hn:n<100) (h:SmallS s):(nameL n s).length≤2+s.length*6:=by
 have h1:=dec_len hn
 have h2:=name_len h
 unfold nameL
 rw[List.length_append]
 omega
set_option maxRecDepth 10000 in
set_option maxHeartbeats 1000000 in
theorem name_can (n:Nat) (s:List Seg) (hn:n<100) (hs:SmallS s) (hl:s.length≤1000):Can Tryz.prog 159 [num n,segsV s] (· =strV (nameL n s)):=by
 refine can_of Tryz.func159 rfl Tryz.ntmps159 rfl ?_
 refine W_cs (.a 1 rfl<|.k [0,1] rfl) ?_
 refine W_rs ?_
 refine WR_a 1 rfl<|WR_k [0,1,5] rfl ?_
 refine W_adoptCell 0 1 5 1 rfl rfl ?_
 refine W_sto (σ':=bst 1 false []) rfl ?_
 refine W_rs ?_
 refine WR_a 1 rfl<|WR_c rfl (itoa_small n hn) rfl<|WR_cS rfl rfl (CanS.mono (wstr1 false [] ⟨(Lib.decDigits n).toArray⟩ (show([]:List UInt8).length+(Lib.decDigits n).toArray.size≤1000000000 by have:=dec_len hn;simp;omega)) (fun _ σ' h=>?_))
 subst h
 refine WR_k [1,5] rfl ?_
 refine W_bn (.cons 1 rfl Ren.pure<|.cons 5 rfl (Ren.ptr (i:=0) rfl)<|.nil) ?_
 refine W_seq ?_
 refine W_cs (.a 3 rfl<|.k [5,11,12,13] rfl) ?_
 refine W_block ?_
 refine W_k [5,11,12,13] rfl ?_
 refine W_loop (fun r st=>∃i,i≤s.length∧r=s.length - i∧st=⟨[(5,.ptr 0 0),(11,segsV s),(12,num s.length),(13,num i)],bst 1 true (nameL n (s.take i))⟩) s.length ⟨0,by omega,by omega,by simp[nameL]⟩ ?_
 rintro r st ⟨i,hi,rfl,rfl⟩
 refine W_cs (.a 1 rfl<|.k [5,11,12,13,14] rfl) ?_
 refine W_seq ?_
 refine W_cond rfl (fun hc=>?_) (fun hc=>?_)
 ·have hlt:i<s.length:=by have:=of_decide_eq_true hc;omega
  obtain⟨g,hg,_⟩:=segs_cons s i hlt
  obtain⟨a1,a2,a3,a4⟩:=hs g (List.mem_of_getElem? hg)
  have hst:=name_take s i g hg n
  have hln:=nameL_len hn (small_take hs i)
  rw[List.length_take]at hln
  obtain⟨gk,gn⟩:=g
  simp only at a1 a2 a3 a4 hst
  obtain⟨ka,rfl⟩:=Int.eq_ofNat_of_zero_le a1
  obtain⟨na,rfl⟩:=Int.eq_ofNat_of_zero_le a3
  have hk2:=dec_len (n:=ka) (by omega)
  have hn2:=dec_len (n:=na) (by omega)
  rw[Int.toNat_natCast,Int.toNat_natCast]at hst
  have hmin:min i s.length=i:=by omega
  rw[hmin]at hln
  generalize hl0:nameL n (s.take i)=l0 at*
  refine W_skip ?_
  refine W_seq ?_
  refine W_block ?_
  refine W_rs ?_
  refine WR_v (y_ix ((i*2)) rfl) rfl<|WR_v (y_la rfl (segs_drop s i _ hg) rfl) rfl<|WR_a 2 rfl<|WR_k [5,7,11,12,13] rfl ?_
  refine W_sto (σ':=bstX l0 (some (.cells 103 (segP ⟨(ka:Int),(na:Int)⟩)))) rfl ?_
  refine W_rs ?_
  refine WR_cS rfl rfl (CanS.mono (wbyteX l0 _ 32 (by omega)) (fun _ σ' h=>?_))
  subst h
  refine WR_k [5,7,11,12,13] rfl ?_
  refine W_bx (.cons 5 rfl (Ren.ptr (i:=0) rfl)<|.cons 7 rfl (Ren.ptr (i:=2) rfl)<|.cons 11 rfl Ren.pure<|.cons 12 rfl Ren.pure<|.cons 13 rfl Ren.pure<|.nil) ?_
  refine W_rs ?_
  refine WR_a 1 rfl<|WR_v (y_ld rfl (rfl)) rfl<|WR_c rfl (itoa_small ka (by omega)) rfl<|WR_cS rfl rfl (CanS.mono (wstrX (l0++[32]) _ ⟨(Lib.decDigits ka).toArray⟩ (show(l0++[32]).length+(Lib.decDigits ka).toArray.size≤1000000000 by simp;omega)) (fun _ σ' h=>?_))
  subst h
  refine WR_k [5,7,11,12,13] rfl ?_
  refine W_bx (.cons 5 rfl (Ren.ptr (i:=0) rfl)<|.cons 7 rfl (Ren.ptr (i:=2) rfl)<|.cons 11 rfl Ren.pure<|.cons 12 rfl Ren.pure<|.cons 13 rfl Ren.pure<|.nil) ?_
  refine W_rs ?_
  refine WR_cS rfl rfl (CanS.mono (wbyteX ((l0++[32])++Lib.decDigits ka) _ 58 (by simp;omega)) (fun _ σ' h=>?_))
  subst h
  refine WR_k [5,7,11,12,13] rfl ?_
  refine W_bx (.cons 5 rfl (Ren.ptr (i:=0) rfl)<|.cons 7 rfl (Ren.ptr (i:=2) rfl)<|.cons 11 rfl Ren.pure<|.cons 12 rfl Ren.pure<|.cons 13 rfl Ren.pure<|.nil) ?_
  refine W_region ?_
  refine WR_a 1 rfl<|WR_v (y_ld rfl (rfl)) rfl<|WR_c rfl (itoa_small na (by omega)) rfl<|WR_cS rfl rfl (CanS.mono (wstrX (((l0++[32])++Lib.decDigits ka)++[58]) _ ⟨(Lib.decDigits na).toArray⟩ (show(((l0++[32])++Lib.decDigits ka)++[58]).length+(Lib.decDigits na).toArray.size≤1000000000 by simp;omega)) (fun _ σ' h=>?_))
  subst h
  refine WR_k [5,11,12,13] rfl ?_
  refine W_bz (.cons 5 rfl (Ren.ptr (i:=0) rfl)<|.cons 11 rfl Ren.pure<|.cons 12 rfl Ren.pure<|.cons 13 rfl Ren.pure<|.nil) ?_
  refine W_chain (.v (y_ar rfl) rfl<|.a 1 rfl<|.k [5,11,12,13] rfl) ?_
  exact⟨s.length - (i+1),by omega,i+1,by omega,rfl,by rw[hst];rfl⟩
 ·have hie:i=s.length:=by have:=of_decide_eq_false hc;omega
  subst hie
  rw[List.take_length]
  refine W_exit ?_
  refine W_rs ?_
  refine WR_cS rfl rfl (CanS.mono (bstring true (nameL n s) (by have:=dec_len hn;unfold nameL;simp;omega)) (fun _ σ' h=>?_))
  subst h
  refine WR_a 1 rfl<|WR_k [4] rfl ?_
  refine W_ret ?_
  exact⟨_,_,ResL.of rfl,Pur.pure,rfl⟩
set_option maxRecDepth 10000 in
set_option maxHeartbeats 1000000 in
theorem wcheck_can (T:Topo) (L:List Tab) (n:Int) (hv:validB T=true) (hL:(L.length:Int)=T.nodes) (hok:∀(i:Nat) x,L[i]? =some x→x.node=(i:Int)∧tabOK T x=true) (hn:nodeB T n=true):Can Tryz.prog 157 [topoV T,tabsV L,num n] (· =num 0):=by
 have hN:=valid_bd hv
 obtain⟨q1,hq1⟩:∃q,validB T=q:=⟨_,rfl⟩
 obtain⟨q2,hq2⟩:∃q,decide ((L.length:Int)≠T.nodes)=q:=⟨_,rfl⟩
 refine can_of Tryz.func157 rfl Tryz.ntmps157 rfl ?_
 refine W_cs (.a 2 rfl<|.k [1,2,3] rfl) ?_
 refine W_seq ?_
 refine W_csK 18 (.raw (.bool (!q1 ||q2))) [1,2,3] rfl ?_ ?_
 ·refine .a 1 rfl<|.c rfl (hq1▸valid_can T) rfl<|.a 2 rfl<|?_
  cases q1
  ·exact .a 6 rfl<|.k [18,1,2,3] rfl
  ·exact .a 3 rfl<|.v (y_ld rfl (rfl)) rfl<|.v (y_q rfl (hq2)) rfl<|.a 1 rfl<|.k [18,1,2,3] rfl
 refine W_cond rfl (fun hc=>?_) (fun hc=>?_)
 ·rw[←hq1,hv,←hq2,decide_eq_false (by rw[hL];simp)]at hc
  cases hc
 ·refine W_skip ?_
  refine W_seq ?_
  refine W_cs (.a 3 rfl<|.k [2,3,19,20,21] rfl) ?_
  refine W_block ?_
  refine W_k [2,3,19,20,21] rfl ?_
  refine W_loop (fun r st=>∃i,i≤L.length∧r=L.length - i∧st=⟨[(2,num n),(3,.pin (topoP T) 0),(19,tabsV L),(20,num L.length),(21,num i)],[]⟩) L.length ⟨0,by omega,by omega,rfl⟩ ?_
  rintro r st ⟨i,hi,rfl,rfl⟩
  refine W_cs (.a 1 rfl<|.k [2,3,19,20,21,22] rfl) ?_
  refine W_seq ?_
  refine W_cond rfl (fun hc=>?_) (fun hc=>?_)
  ·have hlt:i<L.length:=by have:=of_decide_eq_true hc;omega
   obtain⟨x,hx⟩:∃x,L[i]? =some x:=⟨_,List.getElem?_eq_getElem hlt⟩
   obtain⟨h1,h2⟩:=hok i x hx
   obtain⟨q3,hq3⟩:∃q,decide (x.node≠(i:Int))=q:=⟨_,rfl⟩
   obtain⟨q4,hq4⟩:∃q,tabOK T x=q:=⟨_,rfl⟩
   refine W_skip ?_
   refine W_seq ?_
   refine W_block ?_
   refine W_rs ?_
   refine WR_a 1 rfl<|WR_v (y_ix ((i*3)) rfl) rfl<|WR_v (y_la rfl (tabs_drop L i x hx) rfl) rfl<|WR_a 3 rfl<|WR_k [2,3,7,8,19,20,21] rfl ?_
   refine W_csK 35 (.raw (.bool (q3|| !q4))) [2,3,19,20,21] rfl ?_ ?_
   ·refine .a 1 rfl<|.v (y_ld rfl ((rfl:(tabP x)[0]? =some (num x.node)))) rfl<|.a 1 rfl<|.v (y_q rfl (hq3)) rfl<|.a 1 rfl<|?_
    cases q3
    ·exact .a 1 rfl<|.v (y_la rfl ((rfl:(tabP x).take 3=tabP x)) rfl) rfl<|.c rfl (hq4▸tvalid_can T x) rfl<|.a 2 rfl<|.k [35,2,3,19,20,21] rfl
    ·exact .a 5 rfl<|.k [35,2,3,19,20,21] rfl
   refine W_cond rfl (fun hc=>?_) (fun hc=>?_)
   ·rw[←hq3,←hq4,h2,decide_eq_false (by rw[h1];simp)]at hc
    cases hc
   ·refine W_skip ?_
    refine W_ren [] (.c 2<|.c 3<|.c 19<|.c 20<|.c 21<|.nil) .nil rfl rfl ?_
    refine W_chain (.v (y_ar rfl) rfl<|.a 1 rfl<|.k [2,3,19,20,21] rfl) ?_
    exact⟨L.length - (i+1),by omega,i+1,by omega,rfl,rfl⟩
  ·have hie:i=L.length:=by have:=of_decide_eq_false hc;omega
   refine W_exit ?_
   refine W_seq ?_
   refine W_cs (.a 2 rfl<|.c rfl (hn▸node_can T n) rfl<|.a 1 rfl<|.k [40] rfl) ?_
   refine W_cond rfl (fun hc=>?_) (fun hc=>?_)
   ·cases hc
   ·refine W_skip ?_
    refine W_cs (.a 1 rfl<|.k [6] rfl) ?_
    refine W_ret ?_
    exact⟨_,_,ResL.of rfl,Pur.pure,rfl⟩
end PW
end Go.Proofs.YtnegbdpggideiaaGreatDoor

namespace Go.Proofs.YtnegbdpggideiaaGreatDoor
set_option linter.unusedVariables false
set_option linter.unusedSimpArgs false
namespace PW
open Go.RowKit Reg Mem Net Rng
theorem Loud.to {P:Program} {σ σ' σ'':Sto} {t:Tms} {o:Oper} {p p':PV} (h:Loud P σ t o p σ') (hp:p=p') (hs:σ'=σ''):Loud P σ t o p' σ'':=by subst hp;subst hs;exact h
theorem y_pqNe {P:Program} {σ:Sto} {t:Tms} {o:Oper} {x y:Operand} {ty tz:TypeId} {p:PV} {q:Bool} (ho:o.op= .binOp .neq ty x y tz) (hk:ptrK P ty=true) (hx:evalO t x=some p) (hy:evalO t y=some (.raw (.pointer none))) (h:(p= .raw (.pointer none)∧q=false)∨∃xs k,p= .pin xs k∧q=true):Yield P σ t o (.raw (.bool q)):=by
 rcases h with⟨rfl,rfl⟩|⟨xs,k,rfl,rfl⟩
 ·exact y_nilNe ho hk hx hy
 ·exact y_pinNe ho hk hx hy
def visV:PV:=.func 158 [.ptr 5 0,.ptr 6 0,.ptr 3 0,.ptr 0 0,.ptr 1 0,.ptr 7 0]
def P8 (T:Topo) (tbs:List Tab) (p1:Pkt) (j:Nat) (kv:List (List UInt8×PV)) (rest:Sto):Sto:=
 some (.cells 25 (topoP T))::some (.cells 43 [tabsV tbs])::some (.cells 66 (pktP p1))::some (.cells 148 [.own (j+8)])::some (.mp (encM strE kv))::
 some (.cells 188 [.own 4])::some (.cells 4 [flag false])::some (.cells 189 [visV])::rest
abbrev rowW (L:List PV):Option Blk:=some (.row 147 1 L.length L)
structure Keep (j:Nat) (rest rest':Sto):Prop where
 len:rest.length≤rest'.length
 same:∀i,i<rest.length→i≠j→rest'[i]? =rest[i]?
theorem Keep.trans {j j':Nat} {a b c:Sto} (h:Keep j a b) (k:Keep j' b c) (hj:j'=j∨a.length≤j'):Keep j a c:=
 ⟨Nat.le_trans h.len k.len,fun i h1 h2=>(k.same i (Nat.lt_of_lt_of_le h1 h.len) (by omega)).trans (h.same i h1 h2)⟩
section
variable {T:Topo} {tb:Nat→Tab} {p0:Pkt} {Φ:Nat→Nat→List Seg→Prop}
def VisR (T:Topo) (tb:Nat→Tab) (p0:Pkt) (Φ:Nat→Nat→List Seg→Prop) (tbs:List Tab) (p1:Pkt) (op:Opn) (j:Nat) (rest:Sto) (n:Nat) (s:List Seg) (r:PV) (σ':Sto):Prop:=
 ∃c kv' L' j' rest',Good T tb p0 Φ r n s c∧σ'=P8 T tbs p1 j' kv' rest'∧rest'[j']? =some (rowW L')∧Keep j rest rest'∧(j'=j∨rest.length≤j')∧KvOK T tb p0 Φ op kv' L'
structure Vis (T:Topo) (tb:Nat→Tab) (p0:Pkt) (Φ:Nat→Nat→List Seg→Prop) (op:Opn) (j0:Nat) (rest0:Sto) (n:Nat) (s:List Seg) (kv:List (List UInt8×PV)) (L:List PV) (j jr:Nat) (rest:Sto) (k:Nat) (vs:List PV) (cs:List Int):Prop where
 keep:Keep j0 rest0 rest
 len:rest0.length+5≤rest.length
 x:rest[rest0.length+1]? =some (some (.cells 152 [num n,num (outS T tb p0 n s).why,intsV (outS T tb p0 n s).arcs,.own (jr+8),flag true,num (brT (outS T tb p0 n s).arcs cs)]))
 nb:rest[rest0.length+3]? =some (some (.cells 66 (pktP (outS T tb p0 n s).pkt)))
 row:rest[jr]? =some (rowW vs)
 al:rest[j]? =some (rowW L)
 jr1:rest0.length+4≤jr
 j1:j=rest0.length+2∨rest0.length+5≤j
 ne:j≠jr
 ok:KvOK T tb p0 Φ ((rest0.length+1,n,s)::op) kv L
 lv:vs.length=k
 lc:cs.length=k
 ch:∀i,i<k→Good T tb p0 Φ (vs.getD i .any) (headN T ((outS T tb p0 n s).arcs.getD i 0).toNat).toNat (outS T tb p0 n s).pkt.stack (cs.getD i 0)
instance (l:List Seg):IsOne (segsV l):=by unfold segsV;infer_instance
instance (p:Pkt):IsOneL (pktP p):=by unfold pktP;infer_instance
theorem mapW:mapK Tryz.prog 188=some (9,147):=by kernel_rfl
theorem zvW:zvK Tryz.prog 147=some (.pointer none):=by kernel_rfl
theorem keyW:MapKey Tryz.prog 9 strE:=strKey Tryz.underlying9
theorem get_app {α:Type} {l:List α} {a:α} {i:Nat} (h:l.length=i):(l++[a])[i]? =some a:=by subst h;simp
theorem get_app_lt {α:Type} {l:List α} {a b:α} {i:Nat} (h:l[i]? =some b):(l++[a])[i]? =some b:=by
 rw[List.getElem?_append_left (List.getElem?_eq_some_iff.1 h).1];exact h
theorem get_set_ne {α:Type} {l:List α} {a:α} {b:Option α} {i j:Nat} (h:l[i]? =b) (hne:j≠i):(l.set j a)[i]? =b:=by
 rw[List.getElem?_set,if_neg hne];exact h
theorem get_set_eq {α:Type} {l:List α} {a b:α} {i:Nat} (h:l[i]? =some b):(l.set i a)[i]? =some a:=by
 rw[List.getElem?_set,if_pos rfl,if_pos (List.getElem?_eq_some_iff.1 h).1]
theorem Keep.refl (j:Nat) (a:Sto):Keep j a a:=⟨Nat.le_refl _,fun _ _ _=>rfl⟩
theorem Keep.app {j:Nat} {a b:Sto} (h:Keep j a b) (x:Option Blk):Keep j a (b++[x]):=
 ⟨by rw[List.length_append];have:=h.len;omega,fun i h1 h2=>by rw[List.getElem?_append_left (Nat.lt_of_lt_of_le h1 h.len)];exact h.same i h1 h2⟩
theorem Keep.put {j:Nat} {a b:Sto} (h:Keep j a b) {k:Nat} (hk:k=j∨a.length≤k) (x:Option Blk):Keep j a (b.set k x):=
 ⟨by rw[List.length_set];exact h.len,fun i h1 h2=>by rw[List.getElem?_set,if_neg (by omega)];exact h.same i h1 h2⟩
theorem P8_frz {tbs:List Tab} {p1:Pkt} {j i:Nat} {blk:Blk} {kv kv':List (List UInt8×PV)} {rest rest':Sto} (hl:rest'.length=rest.length) (h0:rest'[i]? =some none)
  (h:∀k,k≠i→(rest'[k]? =rest[k]? ∨∃b b',rest[k]? =some (some b)∧rest'[k]? =some (some b')∧BFrz (i+8) blk b b')) (hk:kv'.map (·.1)=kv.map (·.1)) (hf:FrzL (i+8) blk (kv.map (·.2)) (kv'.map (·.2))):
  SFrz (i+8) blk (P8 T tbs p1 j kv rest) (P8 T tbs p1 j kv' rest'):=by
 refine⟨by simp[P8,hl],h0,fun m hm=>?_⟩
 match m,hm with
 |0,_=>exact .inl rfl
 |1,_=>exact .inl rfl
 |2,_=>exact .inl rfl
 |3,_=>exact .inl rfl
 |4,_=>
  refine .inr ⟨_,_,rfl,rfl,.mp ?_ ?_⟩
  ·have:∀l:List (List UInt8×PV),(encM strE l).map (·.1)=(l.map (·.1)).map strE:=fun l=>by simp[encM]
   rw[this,this,hk]
  ·have:∀l:List (List UInt8×PV),(encM strE l).map (·.2)=l.map (·.2):=fun l=>by simp[encM]
   rw[this,this]
   exact hf
 |5,_=>exact .inl rfl
 |6,_=>exact .inl rfl
 |7,_=>exact .inl rfl
 |k+8,hm=>exact h k (by omega)
theorem Vis.pkt (R:Runs T tb p0 Φ) {u n:Nat} {s:List Seg} (h:Φ u n s) (hne:(outS T tb p0 n s).arcs≠[]):pkt0 (outS T tb p0 n s).pkt (outS T tb p0 n s).pkt.stack=pkt0 p0 (outS T tb p0 n s).pkt.stack:=by
 rcases R.step h with h|⟨_,h,_⟩
 ·exact absurd h hne
 ·generalize outS T tb p0 n s=O at*
  obtain⟨arcs,pkt,why⟩:=O
  simp only at h ⊢
  unfold leaveO at h
  injection h with _ h2 _
  rw[h2]
  rfl
set_option maxRecDepth 10000 in
set_option maxHeartbeats 4000000 in
theorem visit_can (R:Runs T tb p0 Φ) (hv:validB T=true) (h12:T.nodes≤12) {U:List (Nat×List Seg)} (hU:∀ {u n s},Φ u n s→(n,s)∈U) (hUl:U.length≤1000000) (tbs:List Tab) (htb:∀n:Nat,(n:Int)<T.nodes→tbs[n]? =some (tb n)) (p1:Pkt):
  ∀(u n:Nat) (p:Pkt),Φ u n p.stack→pkt0 p p.stack=pkt0 p0 p.stack→∀(op:Opn) (kv:List (List UInt8×PV)) (L:List PV) (j:Nat) (rest:Sto),rest[j]? =some (rowW L)→KvOK T tb p0 Φ op kv L→(∀x∈op,Beh T tb p0 x.2.1 x.2.2 n p.stack)→
   CanS Tryz.prog 158 [num n,pktV p,.ptr 5 0,.ptr 6 0,.ptr 3 0,.ptr 0 0,.ptr 1 0,.ptr 7 0] (P8 T tbs p1 j kv rest) (VisR T tb p0 Φ tbs p1 op j rest n p.stack):=by
 intro u
 induction u using Nat.strongRecOn with
 |_ u ih=>
 intro n p hΦ hp op kv L j rest hj hok hop
 have hnn:=R.node hΦ
 obtain⟨hsm,hsl⟩:=R.small hΦ
 obtain⟨pv,hpv⟩:∃pv,(lookM (nameL n p.stack) kv).getD (.raw (.pointer none))=pv:=⟨_,rfl⟩
 obtain⟨q,hq1,hq2,hq3⟩:∃q,((pv= .raw (.pointer none)∧q=false)∨∃xs k,pv= .pin xs k∧q=true)∧(q=false→lookM (nameL n p.stack) kv=none)∧(q=true→∃vs c,pv= .pin (plcP n (outS T tb p0 n p.stack) vs c) 0∧Good T tb p0 Φ pv n p.stack c):=by
  cases hl:lookM (nameL n p.stack) kv with
  |none=>exact⟨false,.inl ⟨by rw[←hpv,hl];rfl,rfl⟩,fun _=>rfl,fun h=>(by cases h)⟩
  |some v=>
   obtain⟨c,hg⟩:=hok.hit R h12 hΦ hop hl
   have hvv:pv=v:=by rw[←hpv,hl];rfl
   obtain⟨vs,cs,e1,_⟩:=hg.parts
   exact⟨true,.inr ⟨_,_,hvv.trans e1,rfl⟩,fun h=>(by cases h),fun _=>⟨vs,c,hvv.trans e1,hvv▸hg⟩⟩
 have hjl:=(List.getElem?_eq_some_iff.1 hj).1
 refine canS_of Tryz.func158 rfl Tryz.ntmps158 rfl ?_
 refine W_rs ?_
 refine WR_l (Loud.to (l_box rfl rfl rfl) (p':=.ptr (rest.length+8) 0) (σ'':=P8 T tbs p1 j kv (rest++[some (.cells 66 (pktP p))])) rfl rfl) rfl<|WR_a 1 rfl<|WR_k [0,2,3,4,5,6,7,9] rfl ?_
 obtain⟨r1,hr1⟩:∃r1,rest++[some (.cells 66 (pktP p))]=r1:=⟨_,rfl⟩
 have l1:r1.length=rest.length+1:=by rw[←hr1];simp
 have k1:Keep j rest r1:=hr1▸(Keep.refl j rest).app _
 have b1:r1[rest.length]? =some (some (.cells 66 (pktP p))):=hr1▸get_app rfl
 have j1:r1[j]? =some (rowW L):=hr1▸get_app_lt hj
 rw[hr1]
 refine W_cs (.a 2 rfl<|.v (y_loadPtr rfl (fok.tk.get rfl) rfl b1 rfl) rfl<|.c rfl (name_can n p.stack (by omega) hsm hsl) rfl<|.a 1 rfl<|.k [0,2,3,4,5,6,7,9,11] rfl) ?_
 refine W_seq ?_
 refine W_cs (.a 2 rfl<|.v (y_look keyW rfl mapW zvW rfl rfl rfl (keyRaw _) hpv) rfl<|.a 1 rfl<|.k [0,2,3,4,5,6,7,9,11,12] rfl) ?_
 refine W_cs (.a 1 rfl<|.v (y_pqNe rfl (fok.pk.get rfl) rfl rfl hq1) rfl<|.k [0,2,3,4,5,6,7,9,11,12,26] rfl) ?_
 refine W_cond rfl (fun hc=>?_) (fun hc=>?_)
 ·obtain⟨vs0,c0,e0,hg0⟩:=hq3 hc
  subst e0
  refine W_rs ?_
  refine WR_a 7 rfl<|WR_loud0 (Loud.to (l_store1 rfl (fok.tk.get rfl) rfl rfl rfl (Nat.le_of_ble_eq_true rfl)) (σ'':=P8 T tbs p1 j kv r1) rfl rfl) rfl rfl<|WR_k [12] rfl ?_
  refine W_cs (.a 2 rfl<|.k [10] rfl) ?_
  refine W_ret ?_
  exact⟨_,ResL.of rfl,c0,kv,L,j,r1,hg0,rfl,j1,k1,.inl rfl,hok⟩
 ·have hno:=look_none (hq2 hc)
  have hno2:=set_none_new (p:=PV.ptr (rest.length+1+8) 0) (hq2 hc)
  refine W_skip ?_
  refine W_rs ?_
  refine WR_a 2 rfl<|WR_l (Loud.to (l_box rfl rfl rfl) (p':=.ptr (rest.length+1+8) 0) (σ'':=P8 T tbs p1 j kv (r1++[some (.cells 152 [num n,num 0,.raw (.slice none 0 0),.raw (.slice none 0 0),flag true,num 0])])) (by rw[←l1];rfl) rfl) rfl<|WR_a 1 rfl<|WR_k [0,2,3,4,5,6,7,9,11,13] rfl ?_
  obtain⟨r2,hr2⟩:∃r2,r1++[some (.cells 152 [num n,num 0,.raw (.slice none 0 0),.raw (.slice none 0 0),flag true,num 0])]=r2:=⟨_,rfl⟩
  have l2:r2.length=rest.length+2:=by rw[←hr2];simp[l1]
  have k2:Keep j rest r2:=hr2▸k1.app _
  have b2:r2[rest.length]? =some (some (.cells 66 (pktP p))):=hr2▸get_app_lt b1
  have x2:r2[rest.length+1]? =some (some (.cells 152 [num n,num 0,.raw (.slice none 0 0),.raw (.slice none 0 0),flag true,num 0])):=hr2▸get_app l1
  have j2:r2[j]? =some (rowW L):=hr2▸get_app_lt j1
  rw[hr2]
  refine W_rs ?_
  refine WR_a 3 rfl<|WR_loud0 (Loud.to (l_mapSet keyW rfl mapW rfl rfl rfl (keyRaw _) rfl) (σ'':=P8 T tbs p1 j (kv++[(nameL n p.stack,PV.ptr (rest.length+1+8) 0)]) r2) rfl (by rw[←hno2];rfl)) rfl rfl<|WR_k [0,3,4,5,6,7,9,13] rfl ?_
  have hfew:=hok.few R h12 hU
  have hlen:=hok.len
  refine W_rs ?_
  refine WR_a 3 rfl<|WR_l (Loud.to (σ:=P8 T tbs p1 j (kv++[(nameL n p.stack,PV.ptr (rest.length+1+8) 0)]) r2) (l_append (m:=1) (n:=L.length) (xs:=L) rfl (fok.rk.get rfl) rfl j2 rfl rfl ⟨by unfold maxLen;omega,by omega⟩) (p':=.own (rest.length+2+8)) (σ'':=P8 T tbs p1 j (kv++[(nameL n p.stack,PV.ptr (rest.length+1+8) 0)]) (r2.set j none++[rowW (L++[PV.ptr (rest.length+1+8) 0])])) (by rw[←l2];rfl) (by unfold rowW;rw[List.length_append];rfl)) rfl<|WR_loud0 (Loud.to (l_store1 rfl (fok.tk.get rfl) rfl rfl rfl (Nat.le_of_ble_eq_true rfl)) (σ'':=P8 T tbs p1 (rest.length+2) (kv++[(nameL n p.stack,PV.ptr (rest.length+1+8) 0)]) (r2.set j none++[rowW (L++[PV.ptr (rest.length+1+8) 0])])) rfl rfl) rfl rfl<|WR_k [0,3,5,6,7,9,13] rfl ?_
  obtain⟨r3,hr3⟩:∃r3,r2.set j none++[rowW (L++[PV.ptr (rest.length+1+8) 0])]=r3:=⟨_,rfl⟩
  have l3:r3.length=rest.length+3:=by rw[←hr3];simp[l2]
  have k3:Keep j rest r3:=hr3▸(k2.put (.inl rfl) _).app _
  have b3:r3[rest.length]? =some (some (.cells 66 (pktP p))):=hr3▸get_app_lt (get_set_ne b2 (by omega))
  have x3:r3[rest.length+1]? =some (some (.cells 152 [num n,num 0,.raw (.slice none 0 0),.raw (.slice none 0 0),flag true,num 0])):=hr3▸get_app_lt (get_set_ne x2 (by omega))
  have j3:r3[rest.length+2]? =some (rowW (L++[PV.ptr (rest.length+1+8) 0])):=hr3▸get_app (by simp[l2])
  rw[hr3]
  have hok3:=hok.push (i:=rest.length+1) hΦ hno
  obtain⟨kv3,hkv3⟩:∃k,kv++[(nameL n p.stack,PV.ptr (rest.length+1+8) 0)]=k:=⟨_,rfl⟩
  obtain⟨L3,hL3⟩:∃k,L++[PV.ptr (rest.length+1+8) 0]=k:=⟨_,rfl⟩
  rw[hkv3,hL3]at hok3
  rw[hL3]at j3
  rw[hkv3]
  refine W_rs ?_
  refine WR_a 1 rfl<|WR_loud0 (Loud.to (σ:=P8 T tbs p1 (rest.length+2) kv3 r3) (l_store1 rfl (fok.tk.get rfl) rfl rfl b3 (Nat.le_of_ble_eq_true rfl)) (σ'':=P8 T tbs p1 (rest.length+2) kv3 (r3.set rest.length (some (.cells 66 (pktP (pkt0 p p.stack)))))) rfl rfl) rfl rfl<|WR_k [0,3,5,6,7,9,13] rfl ?_
  obtain⟨r4,hr4⟩:∃r4,r3.set rest.length (some (.cells 66 (pktP (pkt0 p p.stack))))=r4:=⟨_,rfl⟩
  have l4:r4.length=rest.length+3:=by rw[←hr4];simp[l3]
  have k4:Keep j rest r4:=hr4▸k3.put (.inr (Nat.le_refl _)) _
  have b4:r4[rest.length]? =some (some (.cells 66 (pktP (pkt0 p p.stack)))):=hr4▸get_set_eq b3
  have x4:r4[rest.length+1]? =some (some (.cells 152 [num n,num 0,.raw (.slice none 0 0),.raw (.slice none 0 0),flag true,num 0])):=hr4▸get_set_ne x3 (by omega)
  have j4:r4[rest.length+2]? =some (rowW L3):=hr4▸get_set_ne j3 (by omega)
  rw[hr4]
  refine W_rs ?_
  refine WR_l (Loud.to (l_alloc rfl (fok.zk.get rfl)) (p':=.ptr (rest.length+3+8) 0) (σ'':=P8 T tbs p1 (rest.length+2) kv3 (r4++[some (.cells 66 [num 0,num 0,num 0,num 0,.raw (.slice none 0 0),num 0])])) (by rw[←l4];rfl) rfl) rfl<|WR_k [0,3,5,6,7,9,13,14] rfl ?_
  obtain⟨r5,hr5⟩:∃r5,r4++[some (.cells 66 [num 0,num 0,num 0,num 0,.raw (.slice none 0 0),num 0])]=r5:=⟨_,rfl⟩
  have l5:r5.length=rest.length+4:=by rw[←hr5];simp[l4]
  have k5:Keep j rest r5:=hr5▸k4.app _
  have b5:r5[rest.length]? =some (some (.cells 66 (pktP (pkt0 p p.stack)))):=hr5▸get_app_lt b4
  have x5:r5[rest.length+1]? =some (some (.cells 152 [num n,num 0,.raw (.slice none 0 0),.raw (.slice none 0 0),flag true,num 0])):=hr5▸get_app_lt x4
  have j5:r5[rest.length+2]? =some (rowW L3):=hr5▸get_app_lt j4
  have n5:r5[rest.length+3]? =some (some (.cells 66 [num 0,num 0,num 0,num 0,.raw (.slice none 0 0),num 0])):=hr5▸get_app l4
  rw[hr5]
  have hO:stepO T (tb n) (pkt0 p p.stack)=outS T tb p0 n p.stack:=by rw[hp];rfl
  have hbr:=R.step hΦ
  have hpk:=fun h=>Vis.pkt R hΦ h
  obtain⟨O,hOO⟩:∃O,outS T tb p0 n p.stack=O:=⟨_,rfl⟩
  rw[hOO]at hO hbr hpk
  have htn:=htb n hnn
  have htl:=(List.getElem?_eq_some_iff.1 htn).1
  have hal:O.arcs.length≤1000:=by
   rcases hbr with h|⟨h,_⟩
   ·rw[h];simp
   ·exact h
  refine W_grds 20 3 (P8 T tbs p1 (rest.length+2) kv3 r5::P8 T tbs p1 (rest.length+2) kv3 (r5.set (rest.length+1) (some (.cells 152 [num n,num 0,intsV O.arcs,.raw (.slice none 0 0),flag true,num 0])))::P8 T tbs p1 (rest.length+2) kv3 ((r5.set (rest.length+1) (some (.cells 152 [num n,num 0,intsV O.arcs,.raw (.slice none 0 0),flag true,num 0]))).set (rest.length+3) (some (.cells 66 (pktP O.pkt))))::P8 T tbs p1 (rest.length+2) kv3 (((r5.set (rest.length+1) (some (.cells 152 [num n,num 0,intsV O.arcs,.raw (.slice none 0 0),flag true,num 0]))).set (rest.length+3) (some (.cells 66 (pktP O.pkt)))).set (rest.length+1) (some (.cells 152 [num n,num O.why,intsV O.arcs,.raw (.slice none 0 0),flag true,num 0])))::[]) (⟨_,none,0,0⟩::⟨_,none,0,2⟩::⟨topoV T,none,0,0⟩::⟨_,none,0,0⟩::⟨_,none,0,0⟩::⟨_,none,0,0⟩::⟨tabV (tb n),none,0,0⟩::⟨pktV (pkt0 p p.stack),none,0,0⟩::⟨outV O,none,0,0⟩::⟨outV O,none,0,0⟩::⟨intsV O.arcs,none,0,0⟩::⟨pktV O.pkt,none,0,1⟩::⟨num O.why,none,0,2⟩::⟨_,none,0,0⟩::⟨_,none,0,0⟩::⟨_,some 0,0,0⟩::⟨_,some 1,0,0⟩::⟨_,none,2,2⟩::⟨_,none,2,2⟩::⟨_,some 2,0,0⟩::[]) _ mixed ?grd1 rfl rfl rfl rfl (.cons (.val [13] rfl rfl (yz (ya1 (y_a rfl) ya0)) rfl rfl)<|.cons (.val [13] rfl rfl (yz (ya1 (y_a rfl) (ya1 (y_a rfl) (ya1 (y_a rfl) ya0)))) rfl rfl)<|.cons (.val [5] rfl rfl (yz (ya1 (y_a rfl) ya0)) rfl rfl)<|.cons (.val [6] rfl rfl (yz (ya1 (y_a rfl) ya0)) rfl rfl)<|.cons (.val [0] rfl rfl (yz (ya1 (y_a rfl) ya0)) rfl rfl)<|.cons (.val [50,51] rfl rfl (yz (ya1 (y_ix ((n*3)) rfl) ya0)) rfl rfl)<|.cons (.val [52] rfl rfl (yz (ya1 (y_la rfl (tabs_drop tbs n (tb n) htn) rfl) ya0)) rfl rfl)<|.cons (.val [9] rfl rfl (yz (ya1 (y_loadPtrAll (σ:=P8 T tbs p1 (rest.length+2) kv3 r5) (blk:=.cells 66 (pktP (pkt0 p p.stack))) rfl (fok.tk.get rfl) rfl b5 rfl) ya0)) rfl rfl)<|.cons (.val [49,53,54] rfl rfl (yz (ya1 (y_c rfl (hO▸step_can T (tb n) (pkt0 p p.stack) hsl)) ya0)) rfl rfl)<|.cons (.val [55] rfl rfl (yz (ya1 (y_a rfl) ya0)) rfl rfl)<|.cons (.val [46] rfl rfl (yz (ya1 (y_a rfl) ya0)) rfl rfl)<|.cons (.val [46] rfl rfl (yz (ya1 (y_a rfl) (ya1 (y_a rfl) ya0))) rfl rfl)<|.cons (.val [46] rfl rfl (yz (ya1 (y_a rfl) (ya1 (y_a rfl) (ya1 (y_a rfl) ya0)))) rfl rfl)<|.cons (.val [47] rfl rfl (yz (ya1 (y_a rfl) ya0)) rfl rfl)<|.cons (.val [59] rfl rfl (yz (ya1 (y_a rfl) ya0)) rfl rfl)<|.cons (.loud0 [56,60] rfl rfl rfl rfl (Loud.to (σ:=P8 T tbs p1 (rest.length+2) kv3 r5) (σ'':=P8 T tbs p1 (rest.length+2) kv3 (r5.set (rest.length+1) (some (.cells 152 [num n,num 0,intsV O.arcs,.raw (.slice none 0 0),flag true,num 0])))) (l_store1 rfl (fok.tk.get rfl) rfl rfl x5 (Nat.le_of_ble_eq_true rfl)) rfl rfl) rfl)<|.cons (.loud0 [14,57] rfl rfl rfl rfl (Loud.to (σ:=P8 T tbs p1 (rest.length+2) kv3 (r5.set (rest.length+1) (some (.cells 152 [num n,num 0,intsV O.arcs,.raw (.slice none 0 0),flag true,num 0])))) (σ'':=P8 T tbs p1 (rest.length+2) kv3 ((r5.set (rest.length+1) (some (.cells 152 [num n,num 0,intsV O.arcs,.raw (.slice none 0 0),flag true,num 0]))).set (rest.length+3) (some (.cells 66 (pktP O.pkt))))) (l_store (ys:=pktP O.pkt) rfl (fok.tk.get rfl) rfl rfl rfl rfl (get_set_ne n5 (by omega)) (Nat.le_of_ble_eq_true rfl)) rfl rfl) rfl)<|.cons (.val [48] rfl rfl (yz (ya1 (y_a rfl) ya0)) rfl rfl)<|.cons (.val [61] rfl rfl (yz (ya1 (y_a rfl) ya0)) rfl rfl)<|.cons (.loud0 [58,62] rfl rfl rfl rfl (Loud.to (σ:=P8 T tbs p1 (rest.length+2) kv3 ((r5.set (rest.length+1) (some (.cells 152 [num n,num 0,intsV O.arcs,.raw (.slice none 0 0),flag true,num 0]))).set (rest.length+3) (some (.cells 66 (pktP O.pkt))))) (σ'':=P8 T tbs p1 (rest.length+2) kv3 (((r5.set (rest.length+1) (some (.cells 152 [num n,num 0,intsV O.arcs,.raw (.slice none 0 0),flag true,num 0]))).set (rest.length+3) (some (.cells 66 (pktP O.pkt)))).set (rest.length+1) (some (.cells 152 [num n,num O.why,intsV O.arcs,.raw (.slice none 0 0),flag true,num 0])))) (l_store1 rfl (fok.tk.get rfl) rfl rfl (get_set_ne (get_set_eq x5) (by omega)) (Nat.le_of_ble_eq_true rfl)) rfl rfl) rfl) .nil) (keepT_sub (ks:=[3,5,7,13,14]) rfl) ?_
  case grd1=>kernel_rfl
  obtain⟨r6,hr6⟩:∃r6,((r5.set (rest.length+1) (some (.cells 152 [num n,num 0,intsV O.arcs,.raw (.slice none 0 0),flag true,num 0]))).set (rest.length+3) (some (.cells 66 (pktP O.pkt)))).set (rest.length+1) (some (.cells 152 [num n,num O.why,intsV O.arcs,.raw (.slice none 0 0),flag true,num 0]))=r6:=⟨_,rfl⟩
  have l6:r6.length=rest.length+4:=by rw[←hr6];simp[l5]
  have k6:Keep j rest r6:=hr6▸((k5.put (.inr (by omega)) _).put (.inr (by omega)) _).put (.inr (by omega)) _
  have x6:r6[rest.length+1]? =some (some (.cells 152 [num n,num O.why,intsV O.arcs,.raw (.slice none 0 0),flag true,num 0])):=hr6▸get_set_eq (get_set_ne (get_set_eq x5) (by omega))
  have j6:r6[rest.length+2]? =some (rowW L3):=hr6▸get_set_ne (get_set_ne (get_set_ne j5 (by omega)) (by omega)) (by omega)
  have n6:r6[rest.length+3]? =some (some (.cells 66 (pktP O.pkt))):=hr6▸get_set_ne (get_set_eq (get_set_ne n5 (by omega))) (by omega)
  rw[hr6]
  refine W_seq ?_
  refine W_cs (.a 3 rfl<|.v (y_loadPtr rfl (fok.tk.get rfl) rfl x6 rfl) rfl<|.a 2 rfl<|.k [3,5,7,13,14,68] rfl) ?_
  refine W_cond rfl (fun hc=>?_) (fun hc=>?_)
  ·have harc:O.arcs=[]:=List.eq_nil_of_length_eq_zero (by have:=tt hc;omega)
   refine W_region ?_
   refine WR_a 3 rfl<|WR_loud0 (Loud.to (σ:=P8 T tbs p1 (rest.length+2) kv3 r6) (l_store1 rfl (fok.tk.get rfl) rfl rfl x6 (Nat.le_of_ble_eq_true rfl)) (σ'':=P8 T tbs p1 (rest.length+2) kv3 (r6.set (rest.length+1) (some (.cells 152 [num n,num O.why,intsV O.arcs,.raw (.slice none 0 0),flag true,num 1])))) rfl rfl) rfl rfl<|WR_k [3,5,7,13,14] rfl ?_
   obtain⟨r7,hr7⟩:∃r7,r6.set (rest.length+1) (some (.cells 152 [num n,num O.why,intsV O.arcs,.raw (.slice none 0 0),flag true,num 1]))=r7:=⟨_,rfl⟩
   have x7:r7[rest.length+1]? =some (some (.cells 152 [num n,num O.why,intsV O.arcs,.raw (.slice none 0 0),flag true,num (brT O.arcs [])])):=by
    rw[←hr7,get_set_eq x6];unfold brT;rw[if_pos harc]
   replace l6:r7.length=rest.length+4:=by rw[←hr7];simp[l6]
   replace k6:Keep j rest r7:=hr7▸k6.put (.inr (by omega)) _
   replace j6:r7[rest.length+2]? =some (rowW L3):=hr7▸get_set_ne j6 (by omega)
   replace n6:r7[rest.length+3]? =some (some (.cells 66 (pktP O.pkt))):=hr7▸get_set_ne n6 (by omega)
   rw[hr7]
   refine W_seq ?_
   refine W_cs (.a 3 rfl<|.v (y_loadPtr rfl (fok.tk.get rfl) rfl x7 rfl) rfl<|.a 2 rfl<|.k [3,5,7,13,14,75,76,77] rfl) ?_
   refine W_block ?_
   refine W_k [3,5,7,13,14,75,76,77] rfl ?_
   refine W_adoptCell (rest.length+1+8) 3 147 1 x7 rfl ?_
   have hz:(P8 T tbs p1 (rest.length+2) kv3 r7).length=rest.length+4+8:=by rw[←l6];rfl
   rw[hz]
   refine W_sto (σ':=P8 T tbs p1 (rest.length+2) kv3 ((r7++[rowW []]).set (rest.length+1) (some (.cells 152 [num n,num O.why,intsV O.arcs,.own (rest.length+4+8),flag true,num (brT O.arcs [])])))) rfl ?_
   refine W_loop (fun r st=>∃(k:Nat) (kv':List (List UInt8×PV)) (L':List PV) (j' jr:Nat) (rest':Sto) (vs:List PV) (cs:List Int),k≤O.arcs.length∧r=O.arcs.length - k∧Vis T tb p0 Φ op j rest n p.stack kv' L' j' jr rest' k vs cs∧st=⟨[(3,.ptr 6 0),(5,.ptr 0 0),(7,.ptr 7 0),(13,.ptr (rest.length+1+8) 0),(14,.ptr (rest.length+3+8) 0),(75,intsV O.arcs),(76,num O.arcs.length),(77,num k)],P8 T tbs p1 j' kv' rest'⟩) O.arcs.length ⟨0,kv3,L3,rest.length+2,rest.length+4,_,[],[],Nat.zero_le _,rfl,⟨(k6.app _).put (.inr (by omega)) _,by simp[l6],by rw[hOO];exact get_set_eq (get_app_lt x7),by rw[hOO];exact get_set_ne (get_app_lt n6) (by omega),get_set_ne (get_app l6) (by omega),get_set_ne (get_app_lt j6) (by omega),by omega,.inl rfl,by omega,hok3,rfl,rfl,fun i hi=>absurd hi (Nat.not_lt_zero i)⟩,rfl⟩ ?_
   rintro r st ⟨k,kv',L',j',jr,rest',vs,cs,hk,rfl,V,rfl⟩
   have vx:=V.x
   have vn:=V.nb
   have vr:=V.row
   have va:=V.al
   have vlen:=V.len
   have vj:=V.j1
   have vjr:=V.jr1
   have vne:=V.ne
   have vrl:=(List.getElem?_eq_some_iff.1 vr).1
   rw[hOO]at vx vn
   refine W_cs (.a 1 rfl<|.k [3,5,7,13,14,75,76,77,78] rfl) ?_
   refine W_seq ?_
   refine W_cond rfl (fun hc=>?_) (fun hc=>?_)
   ·have hlt:k<O.arcs.length:=by have:=tt hc;omega
    have hne:O.arcs≠[]:=fun h=>by rw[h]at hlt;simp at hlt
    have hst:∀a∈O.arcs,∃b m:Nat,a=(b:Int)∧b<2*T.links.length∧headN T b=(m:Int)∧∃u',u'<u∧Φ u' m O.pkt.stack:=by
     rcases hbr with h|⟨_,_,h⟩
     ·exact absurd h hne
     ·exact h
    have hmem:O.arcs.getD k 0∈O.arcs:=getD_mem hlt
    obtain⟨b,m,hab,hb,hm,u',hu',hΦ'⟩:=hst _ hmem
    have hop':∀x∈(rest.length+1,n,p.stack)::op,Beh T tb p0 x.2.1 x.2.2 m O.pkt.stack:=fun x hx=>by
     have ha:O.arcs.getD k 0∈(outS T tb p0 n p.stack).arcs:=by rw[hOO];exact hmem
     have hm':headN T (O.arcs.getD k 0).toNat=(m:Int):=by rw[hab,Int.toNat_natCast];exact hm
     rw[←hOO]
     rcases List.mem_cons.1 hx with rfl|hx
     ·exact .one ha hm'
     ·exact .more (hop x hx) ha hm'
    have hll:=links_le hv
    refine W_skip ?_
    refine W_seq ?_
    refine W_block ?_
    refine W_cs (.v (y_ix (k) rfl) rfl<|.v (y_ld rfl ((ints_get _ k hlt).trans (by rw[hab]))) rfl<|.a 1 rfl<|.k [3,5,7,13,14,16,75,76,77] rfl) ?_
    refine W_seq ?_
    refine W_cs (.a 1 rfl<|.k [3,5,7,13,14,16,75,76,77,81] rfl) ?_
    refine W_cond rfl (fun hc=>?_) (fun hc=>?_)
    ·cases hc
    ·refine W_skip ?_
     refine W_dss 5 20 [82,83,84,85,86] mixed (by kernel_rfl) (by kernel_rfl) (by kernel_rfl) rfl (.a 3 rfl<|.v [83,84] (y_c rfl ((show Can Tryz.prog 150 [topoV T,num b] (· =num m) by have h:=head_can T b hb (by omega);rw[hm]at h;exact h))) rfl rfl<|.v [14] (y_loadPtrAll (σ:=P8 T tbs p1 j' kv' rest') (blk:=.cells 66 (pktP O.pkt)) rfl (fok.tk.get rfl) rfl vn rfl) rfl rfl<|.k [3,5,7,13,14,75,76,77,82,85,86] rfl) ?_
     refine WR_cS rfl rfl (CanS.mono (ih u' hu' m O.pkt hΦ' (hpk hne) ((rest.length+1,n,p.stack)::op) kv' L' j' rest' va V.ok hop') (fun y σ' h=>?_))
     obtain⟨c,kv4,L4,j4',r8,hg,rfl,a8,k8,hj8,hok8⟩:=h
     refine WR_a 1 rfl<|WR_k [3,5,7,13,14,17,75,76,77] rfl ?_
     obtain⟨vs1,cs1,hgv,_,_,_,_⟩:=hg.parts
     subst hgv
     have l8:=k8.len
     have x8:r8[rest.length+1]? =some (some (.cells 152 [num n,num O.why,intsV O.arcs,.own (jr+8),flag true,num (brT O.arcs cs)])):=(k8.same _ (by omega) (by omega)).trans vx
     have n8:r8[rest.length+3]? =some (some (.cells 66 (pktP O.pkt))):=(k8.same _ (by omega) (by omega)).trans vn
     have w8:r8[jr]? =some (rowW vs):=(k8.same _ vrl (by omega)).trans vr
     have kk8:Keep j rest r8:=V.keep.trans k8 (by omega)
     have hgb:=hg.bound
     have hlv:=V.lv
     have hlc:=V.lc
     have e8:j4'≠jr:=by omega
     have x8b:(r8.set jr none++[rowW (vs++[PV.pin (plcP m (outS T tb p0 m O.pkt.stack) vs1 c) 0])])[rest.length+1]? =some (some (.cells 152 [num n,num O.why,intsV O.arcs,.own (jr+8),flag true,num (brT O.arcs cs)])):=get_app_lt (get_set_ne x8 (by omega))
     refine W_rs ?_
     refine WR_a 4 rfl ?_
     refine WR_v (y_loadPtr rfl (fok.tk.get rfl) rfl x8 rfl) rfl ?_
     refine WR_a 1 rfl ?_
     refine WR_v (y_buildSlice (xs:=[PV.pin (plcP m (outS T tb p0 m O.pkt.stack) vs1 c) 0]) rfl (fok.sl.get rfl) ⟨Nat.le_of_ble_eq_true rfl,Nat.le_of_ble_eq_true rfl⟩ rfl rfl) rfl ?_
     refine WR_l (Loud.to (σ:=P8 T tbs p1 j4' kv4 r8) (l_append (e:=147) (s:=1) (by':=8) (i:=jr+8) (m:=1) (n:=vs.length) (xs:=vs) (ys:=[PV.pin (plcP m (outS T tb p0 m O.pkt.stack) vs1 c) 0]) rfl (fok.rk.get rfl) rfl w8 rfl rfl ⟨by unfold maxLen;omega,by omega⟩) (p':=.own (r8.length+8)) (σ'':=P8 T tbs p1 j4' kv4 (r8.set jr none++[rowW (vs++[PV.pin (plcP m (outS T tb p0 m O.pkt.stack) vs1 c) 0])])) rfl (by unfold rowW;rw[List.length_append];rfl)) rfl ?_
     refine WR_a 2 rfl ?_
     refine WR_loud0 (Loud.to (σ:=P8 T tbs p1 j4' kv4 (r8.set jr none++[rowW (vs++[PV.pin (plcP m (outS T tb p0 m O.pkt.stack) vs1 c) 0])])) (l_store1 rfl (fok.tk.get rfl) rfl rfl x8b (Nat.le_of_ble_eq_true rfl)) (σ'':=P8 T tbs p1 j4' kv4 ((r8.set jr none++[rowW (vs++[PV.pin (plcP m (outS T tb p0 m O.pkt.stack) vs1 c) 0])]).set (rest.length+1) (some (.cells 152 [num n,num O.why,intsV O.arcs,.own (r8.length+8),flag true,num (brT O.arcs cs)])))) rfl rfl) rfl rfl ?_
     refine WR_k [3,5,7,13,14,17,75,76,77] rfl ?_
     obtain⟨r9,hr9⟩:∃r9,(r8.set jr none++[rowW (vs++[PV.pin (plcP m (outS T tb p0 m O.pkt.stack) vs1 c) 0])]).set (rest.length+1) (some (.cells 152 [num n,num O.why,intsV O.arcs,.own (r8.length+8),flag true,num (brT O.arcs cs)]))=r9:=⟨_,rfl⟩
     have l9:r9.length=r8.length+1:=by rw[←hr9];simp
     have kk9:Keep j rest r9:=hr9▸((kk8.put (.inr (by omega)) _).app _).put (.inr (by omega)) _
     have x9:r9[rest.length+1]? =some (some (.cells 152 [num n,num O.why,intsV O.arcs,.own (r8.length+8),flag true,num (brT O.arcs cs)])):=hr9▸get_set_eq x8b
     have n9:r9[rest.length+3]? =some (some (.cells 66 (pktP O.pkt))):=hr9▸get_set_ne (get_app_lt (get_set_ne n8 (by omega))) (by omega)
     have w9:r9[r8.length]? =some (rowW (vs++[PV.pin (plcP m (outS T tb p0 m O.pkt.stack) vs1 c) 0])):=hr9▸get_set_ne (get_app (by simp)) (by omega)
     have a9:r9[j4']? =some (rowW L4):=hr9▸get_set_ne (get_app_lt (get_set_ne a8 (by omega))) (by omega)
     rw[hr9]
     have hcb:0≤brT O.arcs cs∧brT O.arcs cs≤1001:=by
      unfold brT
      rw[if_neg hne]
      refine brF_bound cs 0 (by omega) (by omega) fun z hz=>?_
      obtain⟨i,hi⟩:=List.getElem?_of_mem hz
      have hil:=(List.getElem?_eq_some_iff.1 hi).1
      have:=(V.ch i (by omega)).bound.1
      rwa [List.getD_eq_getElem?_getD,hi]at this
     have hbs:brT O.arcs (cs++[c])=min (brT O.arcs cs+c) 1001:=by unfold brT;rw[if_neg hne,if_neg hne,brF_snoc]
     refine W_drawFlt 13 20 mixed (
      .val [13] rfl (y_a rfl) rfl rfl<|
      .val [13] rfl (y_a rfl) rfl rfl<|
      .val [99] rfl (y_a rfl) rfl rfl<|
      .val [100] rfl (y_a rfl) rfl rfl<|
      .val [101] rfl (y_loadPtr rfl (fok.tk.get rfl) rfl x9 rfl) rfl rfl<|
      .val [17] rfl (y_a rfl) rfl rfl<|
      .val [103] rfl (y_a rfl) rfl rfl<|
      .val [104] rfl (y_a rfl) rfl rfl<|
      .val [105] rfl (y_ld rfl (rfl)) rfl rfl<|
      .val [102,106] rfl (y_ar rfl) rfl rfl<|
      .val [107] rfl (y_min rfl rfl rfl (hbs.symm)) rfl rfl<|
      .val [98] rfl (y_a rfl) rfl rfl<|
      .val [109] rfl (y_a rfl) rfl rfl<|
      .nil) (by kernel_rfl) rfl rfl (keepT_sub (ks:=[3,5,7,13,14,75,76,77,108,110]) rfl) ?_
     refine WR_loud0 (Loud.to (σ:=P8 T tbs p1 j4' kv4 r9) (l_store1 rfl (fok.tk.get rfl) rfl rfl x9 (Nat.le_of_ble_eq_true rfl)) (σ'':=P8 T tbs p1 j4' kv4 (r9.set (rest.length+1) (some (.cells 152 [num n,num O.why,intsV O.arcs,.own (r8.length+8),flag true,num (brT O.arcs (cs++[c]))])))) rfl rfl) rfl rfl<|WR_k [3,5,7,13,14,75,76,77] rfl ?_
     refine W_chain (.v (y_ar rfl) rfl<|.a 1 rfl<|.k [3,5,7,13,14,75,76,77] rfl) ?_
     refine⟨O.arcs.length - (k+1),by omega,k+1,kv4,L4,j4',r8.length,_,vs++[PV.pin (plcP m (outS T tb p0 m O.pkt.stack) vs1 c) 0],cs++[c],by omega,rfl,⟨kk9.put (.inr (by omega)) _,by simp[l9];omega,by rw[hOO];exact get_set_eq x9,by rw[hOO];exact get_set_ne n9 (by omega),get_set_ne w9 (by omega),get_set_ne a9 (by omega),by omega,by omega,?_,hok8,by simp[hlv],by simp[hlc],fun i hi=>?_⟩,rfl⟩
     ·have:=(List.getElem?_eq_some_iff.1 a8).1;omega
     ·by_cases hik:i<k
      ·have h1:(vs++[PV.pin (plcP m (outS T tb p0 m O.pkt.stack) vs1 c) 0]).getD i .any=vs.getD i .any:=by rw[List.getD_eq_getElem?_getD,List.getD_eq_getElem?_getD,List.getElem?_append_left (by omega)]
       have h2:(cs++[c]).getD i 0=cs.getD i 0:=by rw[List.getD_eq_getElem?_getD,List.getD_eq_getElem?_getD,List.getElem?_append_left (by omega)]
       rw[h1,h2]
       exact V.ch i hik
      ·obtain rfl:i=k:=by omega
       have h1:(vs++[PV.pin (plcP m (outS T tb p0 m O.pkt.stack) vs1 c) 0]).getD i .any=PV.pin (plcP m (outS T tb p0 m O.pkt.stack) vs1 c) 0:=by rw[List.getD_eq_getElem?_getD,get_app hlv];rfl
       have h2:(cs++[c]).getD i 0=c:=by rw[List.getD_eq_getElem?_getD,get_app hlc];rfl
       rw[h1,h2,hOO,hab,Int.toNat_natCast,hm,Int.toNat_natCast]
       exact hg
   ·have hke:k=O.arcs.length:=by have:=ff hc;omega
    refine W_exit ?_
    refine W_rs ?_
    refine WR_a 3 rfl<|WR_loud0 (Loud.to (σ:=P8 T tbs p1 j' kv' rest') (l_store1 rfl (fok.tk.get rfl) rfl rfl vx (Nat.le_of_ble_eq_true rfl)) (σ'':=P8 T tbs p1 j' kv' (rest'.set (rest.length+1) (some (.cells 152 [num n,num O.why,intsV O.arcs,.own (jr+8),flag false,num (brT O.arcs cs)])))) rfl rfl) rfl rfl<|WR_k [13] rfl ?_
    subst hke
    have hlv:=V.lv
    have hlc:=V.lc
    have hgood:Good T tb p0 Φ (.pin (plcP n O vs (brT O.arcs cs)) 0) n p.stack (brT O.arcs cs):=by
     have:=Good.mk (T:=T) (tb:=tb) (p0:=p0) (Φ:=Φ) (vs:=vs) (cs:=cs) hΦ (by rw[hOO];exact hlv) (by rw[hOO];exact hlc) (fun i hi=>by rw[hOO]at hi;exact V.ch i hi)
     rwa [hOO]at this
    obtain⟨kv9,L9,hok9,hk9,hf9,hL9⟩:=KvOK.close (ty:=152) V.ok hgood
    refine W_frz (jr+8) (σ':=P8 T tbs p1 j' kv' ((rest'.set jr none).set (rest.length+1) (some (.cells 152 (plcP n O vs (brT O.arcs cs)))))) (get_set_ne vr (by omega)) (P8_frz (by simp) (get_set_ne (get_set_eq vr) (by omega)) (fun z hz=>?_) rfl (FrzL.refl _)) (.cons 13 rfl (.same _) .nil) ?_
    ·by_cases h1:z=rest.length+1
     ·subst h1
      exact .inr ⟨_,_,get_set_eq vx,get_set_eq (get_set_ne vx (by omega)),.cells (.cons (.same _)<|.cons (.same _)<|.cons (.same _)<|.cons .own<|.cons (.same _)<|.cons (.same _) .nil)⟩
     ·refine .inl ?_
      rw[List.getElem?_set,if_neg (by omega),List.getElem?_set,if_neg (by omega),List.getElem?_set,if_neg (by omega)]
    refine W_frz (rest.length+1+8) (σ':=P8 T tbs p1 j' kv9 ((((rest'.set jr none).set (rest.length+1) (some (.cells 152 (plcP n O vs (brT O.arcs cs))))).set (rest.length+1) none).set j' (rowW L9))) (get_set_eq (get_set_ne vx (by omega))) (P8_frz (by simp) (get_set_ne (get_set_eq (get_set_eq (get_set_ne vx (by omega)))) (by omega)) (fun z hz=>?_) hk9 hf9) (.cons 13 rfl (.ptr 0) .nil) ?_
    ·by_cases h1:z=j'
     ·subst h1
      refine .inr ⟨_,_,get_set_ne (get_set_ne va (by omega)) (by omega),get_set_eq (get_set_ne (get_set_ne (get_set_ne va (by omega)) (by omega)) (by omega)),?_⟩
      have:=hL9.1
      rw[this]
      exact .row hL9
     ·refine .inl ?_
      rw[List.getElem?_set,if_neg (by omega),List.getElem?_set,if_neg (by omega)]
    refine W_cs (.a 2 rfl<|.k [10] rfl) ?_
    refine W_ret ?_
    refine⟨_,ResL.of rfl,brT O.arcs cs,kv9,L9,j',_,hgood,rfl,?_,?_,by omega,hok9⟩
    ·exact get_set_eq (get_set_ne (get_set_ne (get_set_ne va (by omega)) (by omega)) (by omega))
    ·exact(((V.keep.put (.inr (by omega)) _).put (.inr (by omega)) _).put (.inr (by omega)) _).put (by omega) _
  ·have harc:O.arcs≠[]:=fun h=>by have:=ff hc;rw[h]at this;simp at this
   have x7:r6[rest.length+1]? =some (some (.cells 152 [num n,num O.why,intsV O.arcs,.raw (.slice none 0 0),flag true,num (brT O.arcs [])])):=by rw[x6];unfold brT;rw[if_neg harc];rfl
   obtain⟨r7,hr7⟩:∃r7,r6=r7:=⟨_,rfl⟩
   rw[hr7]at l6 k6 x7 j6 n6 ⊢
   refine W_skip ?_
   refine W_seq ?_
   refine W_cs (.a 3 rfl<|.v (y_loadPtr rfl (fok.tk.get rfl) rfl x7 rfl) rfl<|.a 2 rfl<|.k [3,5,7,13,14,75,76,77] rfl) ?_
   refine W_block ?_
   refine W_k [3,5,7,13,14,75,76,77] rfl ?_
   refine W_adoptCell (rest.length+1+8) 3 147 1 x7 rfl ?_
   have hz:(P8 T tbs p1 (rest.length+2) kv3 r7).length=rest.length+4+8:=by rw[←l6];rfl
   rw[hz]
   refine W_sto (σ':=P8 T tbs p1 (rest.length+2) kv3 ((r7++[rowW []]).set (rest.length+1) (some (.cells 152 [num n,num O.why,intsV O.arcs,.own (rest.length+4+8),flag true,num (brT O.arcs [])])))) rfl ?_
   refine W_loop (fun r st=>∃(k:Nat) (kv':List (List UInt8×PV)) (L':List PV) (j' jr:Nat) (rest':Sto) (vs:List PV) (cs:List Int),k≤O.arcs.length∧r=O.arcs.length - k∧Vis T tb p0 Φ op j rest n p.stack kv' L' j' jr rest' k vs cs∧st=⟨[(3,.ptr 6 0),(5,.ptr 0 0),(7,.ptr 7 0),(13,.ptr (rest.length+1+8) 0),(14,.ptr (rest.length+3+8) 0),(75,intsV O.arcs),(76,num O.arcs.length),(77,num k)],P8 T tbs p1 j' kv' rest'⟩) O.arcs.length ⟨0,kv3,L3,rest.length+2,rest.length+4,_,[],[],Nat.zero_le _,rfl,⟨(k6.app _).put (.inr (by omega)) _,by simp[l6],by rw[hOO];exact get_set_eq (get_app_lt x7),by rw[hOO];exact get_set_ne (get_app_lt n6) (by omega),get_set_ne (get_app l6) (by omega),get_set_ne (get_app_lt j6) (by omega),by omega,.inl rfl,by omega,hok3,rfl,rfl,fun i hi=>absurd hi (Nat.not_lt_zero i)⟩,rfl⟩ ?_
   rintro r st ⟨k,kv',L',j',jr,rest',vs,cs,hk,rfl,V,rfl⟩
   have vx:=V.x
   have vn:=V.nb
   have vr:=V.row
   have va:=V.al
   have vlen:=V.len
   have vj:=V.j1
   have vjr:=V.jr1
   have vne:=V.ne
   have vrl:=(List.getElem?_eq_some_iff.1 vr).1
   rw[hOO]at vx vn
   refine W_cs (.a 1 rfl<|.k [3,5,7,13,14,75,76,77,78] rfl) ?_
   refine W_seq ?_
   refine W_cond rfl (fun hc=>?_) (fun hc=>?_)
   ·have hlt:k<O.arcs.length:=by have:=tt hc;omega
    have hne:O.arcs≠[]:=fun h=>by rw[h]at hlt;simp at hlt
    have hst:∀a∈O.arcs,∃b m:Nat,a=(b:Int)∧b<2*T.links.length∧headN T b=(m:Int)∧∃u',u'<u∧Φ u' m O.pkt.stack:=by
     rcases hbr with h|⟨_,_,h⟩
     ·exact absurd h hne
     ·exact h
    have hmem:O.arcs.getD k 0∈O.arcs:=getD_mem hlt
    obtain⟨b,m,hab,hb,hm,u',hu',hΦ'⟩:=hst _ hmem
    have hop':∀x∈(rest.length+1,n,p.stack)::op,Beh T tb p0 x.2.1 x.2.2 m O.pkt.stack:=fun x hx=>by
     have ha:O.arcs.getD k 0∈(outS T tb p0 n p.stack).arcs:=by rw[hOO];exact hmem
     have hm':headN T (O.arcs.getD k 0).toNat=(m:Int):=by rw[hab,Int.toNat_natCast];exact hm
     rw[←hOO]
     rcases List.mem_cons.1 hx with rfl|hx
     ·exact .one ha hm'
     ·exact .more (hop x hx) ha hm'
    have hll:=links_le hv
    refine W_skip ?_
    refine W_seq ?_
    refine W_block ?_
    refine W_cs (.v (y_ix (k) rfl) rfl<|.v (y_ld rfl ((ints_get _ k hlt).trans (by rw[hab]))) rfl<|.a 1 rfl<|.k [3,5,7,13,14,16,75,76,77] rfl) ?_
    refine W_seq ?_
    refine W_cs (.a 1 rfl<|.k [3,5,7,13,14,16,75,76,77,81] rfl) ?_
    refine W_cond rfl (fun hc=>?_) (fun hc=>?_)
    ·cases hc
    ·refine W_skip ?_
     refine W_dss 5 20 [82,83,84,85,86] mixed (by kernel_rfl) (by kernel_rfl) (by kernel_rfl) rfl (.a 3 rfl<|.v [83,84] (y_c rfl ((show Can Tryz.prog 150 [topoV T,num b] (· =num m) by have h:=head_can T b hb (by omega);rw[hm]at h;exact h))) rfl rfl<|.v [14] (y_loadPtrAll (σ:=P8 T tbs p1 j' kv' rest') (blk:=.cells 66 (pktP O.pkt)) rfl (fok.tk.get rfl) rfl vn rfl) rfl rfl<|.k [3,5,7,13,14,75,76,77,82,85,86] rfl) ?_
     refine WR_cS rfl rfl (CanS.mono (ih u' hu' m O.pkt hΦ' (hpk hne) ((rest.length+1,n,p.stack)::op) kv' L' j' rest' va V.ok hop') (fun y σ' h=>?_))
     obtain⟨c,kv4,L4,j4',r8,hg,rfl,a8,k8,hj8,hok8⟩:=h
     refine WR_a 1 rfl<|WR_k [3,5,7,13,14,17,75,76,77] rfl ?_
     obtain⟨vs1,cs1,hgv,_,_,_,_⟩:=hg.parts
     subst hgv
     have l8:=k8.len
     have x8:r8[rest.length+1]? =some (some (.cells 152 [num n,num O.why,intsV O.arcs,.own (jr+8),flag true,num (brT O.arcs cs)])):=(k8.same _ (by omega) (by omega)).trans vx
     have n8:r8[rest.length+3]? =some (some (.cells 66 (pktP O.pkt))):=(k8.same _ (by omega) (by omega)).trans vn
     have w8:r8[jr]? =some (rowW vs):=(k8.same _ vrl (by omega)).trans vr
     have kk8:Keep j rest r8:=V.keep.trans k8 (by omega)
     have hgb:=hg.bound
     have hlv:=V.lv
     have hlc:=V.lc
     have e8:j4'≠jr:=by omega
     have x8b:(r8.set jr none++[rowW (vs++[PV.pin (plcP m (outS T tb p0 m O.pkt.stack) vs1 c) 0])])[rest.length+1]? =some (some (.cells 152 [num n,num O.why,intsV O.arcs,.own (jr+8),flag true,num (brT O.arcs cs)])):=get_app_lt (get_set_ne x8 (by omega))
     refine W_rs ?_
     refine WR_a 4 rfl ?_
     refine WR_v (y_loadPtr rfl (fok.tk.get rfl) rfl x8 rfl) rfl ?_
     refine WR_a 1 rfl ?_
     refine WR_v (y_buildSlice (xs:=[PV.pin (plcP m (outS T tb p0 m O.pkt.stack) vs1 c) 0]) rfl (fok.sl.get rfl) ⟨Nat.le_of_ble_eq_true rfl,Nat.le_of_ble_eq_true rfl⟩ rfl rfl) rfl ?_
     refine WR_l (Loud.to (σ:=P8 T tbs p1 j4' kv4 r8) (l_append (e:=147) (s:=1) (by':=8) (i:=jr+8) (m:=1) (n:=vs.length) (xs:=vs) (ys:=[PV.pin (plcP m (outS T tb p0 m O.pkt.stack) vs1 c) 0]) rfl (fok.rk.get rfl) rfl w8 rfl rfl ⟨by unfold maxLen;omega,by omega⟩) (p':=.own (r8.length+8)) (σ'':=P8 T tbs p1 j4' kv4 (r8.set jr none++[rowW (vs++[PV.pin (plcP m (outS T tb p0 m O.pkt.stack) vs1 c) 0])])) rfl (by unfold rowW;rw[List.length_append];rfl)) rfl ?_
     refine WR_a 2 rfl ?_
     refine WR_loud0 (Loud.to (σ:=P8 T tbs p1 j4' kv4 (r8.set jr none++[rowW (vs++[PV.pin (plcP m (outS T tb p0 m O.pkt.stack) vs1 c) 0])])) (l_store1 rfl (fok.tk.get rfl) rfl rfl x8b (Nat.le_of_ble_eq_true rfl)) (σ'':=P8 T tbs p1 j4' kv4 ((r8.set jr none++[rowW (vs++[PV.pin (plcP m (outS T tb p0 m O.pkt.stack) vs1 c) 0])]).set (rest.length+1) (some (.cells 152 [num n,num O.why,intsV O.arcs,.own (r8.length+8),flag true,num (brT O.arcs cs)])))) rfl rfl) rfl rfl ?_
     refine WR_k [3,5,7,13,14,17,75,76,77] rfl ?_
     obtain⟨r9,hr9⟩:∃r9,(r8.set jr none++[rowW (vs++[PV.pin (plcP m (outS T tb p0 m O.pkt.stack) vs1 c) 0])]).set (rest.length+1) (some (.cells 152 [num n,num O.why,intsV O.arcs,.own (r8.length+8),flag true,num (brT O.arcs cs)]))=r9:=⟨_,rfl⟩
     have l9:r9.length=r8.length+1:=by rw[←hr9];simp
     have kk9:Keep j rest r9:=hr9▸((kk8.put (.inr (by omega)) _).app _).put (.inr (by omega)) _
     have x9:r9[rest.length+1]? =some (some (.cells 152 [num n,num O.why,intsV O.arcs,.own (r8.length+8),flag true,num (brT O.arcs cs)])):=hr9▸get_set_eq x8b
     have n9:r9[rest.length+3]? =some (some (.cells 66 (pktP O.pkt))):=hr9▸get_set_ne (get_app_lt (get_set_ne n8 (by omega))) (by omega)
     have w9:r9[r8.length]? =some (rowW (vs++[PV.pin (plcP m (outS T tb p0 m O.pkt.stack) vs1 c) 0])):=hr9▸get_set_ne (get_app (by simp)) (by omega)
     have a9:r9[j4']? =some (rowW L4):=hr9▸get_set_ne (get_app_lt (get_set_ne a8 (by omega))) (by omega)
     rw[hr9]
     have hcb:0≤brT O.arcs cs∧brT O.arcs cs≤1001:=by
      unfold brT
      rw[if_neg hne]
      refine brF_bound cs 0 (by omega) (by omega) fun z hz=>?_
      obtain⟨i,hi⟩:=List.getElem?_of_mem hz
      have hil:=(List.getElem?_eq_some_iff.1 hi).1
      have:=(V.ch i (by omega)).bound.1
      rwa [List.getD_eq_getElem?_getD,hi]at this
     have hbs:brT O.arcs (cs++[c])=min (brT O.arcs cs+c) 1001:=by unfold brT;rw[if_neg hne,if_neg hne,brF_snoc]
     refine W_drawFlt 13 20 mixed (
      .val [13] rfl (y_a rfl) rfl rfl<|
      .val [13] rfl (y_a rfl) rfl rfl<|
      .val [99] rfl (y_a rfl) rfl rfl<|
      .val [100] rfl (y_a rfl) rfl rfl<|
      .val [101] rfl (y_loadPtr rfl (fok.tk.get rfl) rfl x9 rfl) rfl rfl<|
      .val [17] rfl (y_a rfl) rfl rfl<|
      .val [103] rfl (y_a rfl) rfl rfl<|
      .val [104] rfl (y_a rfl) rfl rfl<|
      .val [105] rfl (y_ld rfl (rfl)) rfl rfl<|
      .val [102,106] rfl (y_ar rfl) rfl rfl<|
      .val [107] rfl (y_min rfl rfl rfl (hbs.symm)) rfl rfl<|
      .val [98] rfl (y_a rfl) rfl rfl<|
      .val [109] rfl (y_a rfl) rfl rfl<|
      .nil) (by kernel_rfl) rfl rfl (keepT_sub (ks:=[3,5,7,13,14,75,76,77,108,110]) rfl) ?_
     refine WR_loud0 (Loud.to (σ:=P8 T tbs p1 j4' kv4 r9) (l_store1 rfl (fok.tk.get rfl) rfl rfl x9 (Nat.le_of_ble_eq_true rfl)) (σ'':=P8 T tbs p1 j4' kv4 (r9.set (rest.length+1) (some (.cells 152 [num n,num O.why,intsV O.arcs,.own (r8.length+8),flag true,num (brT O.arcs (cs++[c]))])))) rfl rfl) rfl rfl<|WR_k [3,5,7,13,14,75,76,77] rfl ?_
     refine W_chain (.v (y_ar rfl) rfl<|.a 1 rfl<|.k [3,5,7,13,14,75,76,77] rfl) ?_
     refine⟨O.arcs.length - (k+1),by omega,k+1,kv4,L4,j4',r8.length,_,vs++[PV.pin (plcP m (outS T tb p0 m O.pkt.stack) vs1 c) 0],cs++[c],by omega,rfl,⟨kk9.put (.inr (by omega)) _,by simp[l9];omega,by rw[hOO];exact get_set_eq x9,by rw[hOO];exact get_set_ne n9 (by omega),get_set_ne w9 (by omega),get_set_ne a9 (by omega),by omega,by omega,?_,hok8,by simp[hlv],by simp[hlc],fun i hi=>?_⟩,rfl⟩
     ·have:=(List.getElem?_eq_some_iff.1 a8).1;omega
     ·by_cases hik:i<k
      ·have h1:(vs++[PV.pin (plcP m (outS T tb p0 m O.pkt.stack) vs1 c) 0]).getD i .any=vs.getD i .any:=by rw[List.getD_eq_getElem?_getD,List.getD_eq_getElem?_getD,List.getElem?_append_left (by omega)]
       have h2:(cs++[c]).getD i 0=cs.getD i 0:=by rw[List.getD_eq_getElem?_getD,List.getD_eq_getElem?_getD,List.getElem?_append_left (by omega)]
       rw[h1,h2]
       exact V.ch i hik
      ·obtain rfl:i=k:=by omega
       have h1:(vs++[PV.pin (plcP m (outS T tb p0 m O.pkt.stack) vs1 c) 0]).getD i .any=PV.pin (plcP m (outS T tb p0 m O.pkt.stack) vs1 c) 0:=by rw[List.getD_eq_getElem?_getD,get_app hlv];rfl
       have h2:(cs++[c]).getD i 0=c:=by rw[List.getD_eq_getElem?_getD,get_app hlc];rfl
       rw[h1,h2,hOO,hab,Int.toNat_natCast,hm,Int.toNat_natCast]
       exact hg
   ·have hke:k=O.arcs.length:=by have:=ff hc;omega
    refine W_exit ?_
    refine W_rs ?_
    refine WR_a 3 rfl<|WR_loud0 (Loud.to (σ:=P8 T tbs p1 j' kv' rest') (l_store1 rfl (fok.tk.get rfl) rfl rfl vx (Nat.le_of_ble_eq_true rfl)) (σ'':=P8 T tbs p1 j' kv' (rest'.set (rest.length+1) (some (.cells 152 [num n,num O.why,intsV O.arcs,.own (jr+8),flag false,num (brT O.arcs cs)])))) rfl rfl) rfl rfl<|WR_k [13] rfl ?_
    subst hke
    have hlv:=V.lv
    have hlc:=V.lc
    have hgood:Good T tb p0 Φ (.pin (plcP n O vs (brT O.arcs cs)) 0) n p.stack (brT O.arcs cs):=by
     have:=Good.mk (T:=T) (tb:=tb) (p0:=p0) (Φ:=Φ) (vs:=vs) (cs:=cs) hΦ (by rw[hOO];exact hlv) (by rw[hOO];exact hlc) (fun i hi=>by rw[hOO]at hi;exact V.ch i hi)
     rwa [hOO]at this
    obtain⟨kv9,L9,hok9,hk9,hf9,hL9⟩:=KvOK.close (ty:=152) V.ok hgood
    refine W_frz (jr+8) (σ':=P8 T tbs p1 j' kv' ((rest'.set jr none).set (rest.length+1) (some (.cells 152 (plcP n O vs (brT O.arcs cs)))))) (get_set_ne vr (by omega)) (P8_frz (by simp) (get_set_ne (get_set_eq vr) (by omega)) (fun z hz=>?_) rfl (FrzL.refl _)) (.cons 13 rfl (.same _) .nil) ?_
    ·by_cases h1:z=rest.length+1
     ·subst h1
      exact .inr ⟨_,_,get_set_eq vx,get_set_eq (get_set_ne vx (by omega)),.cells (.cons (.same _)<|.cons (.same _)<|.cons (.same _)<|.cons .own<|.cons (.same _)<|.cons (.same _) .nil)⟩
     ·refine .inl ?_
      rw[List.getElem?_set,if_neg (by omega),List.getElem?_set,if_neg (by omega),List.getElem?_set,if_neg (by omega)]
    refine W_frz (rest.length+1+8) (σ':=P8 T tbs p1 j' kv9 ((((rest'.set jr none).set (rest.length+1) (some (.cells 152 (plcP n O vs (brT O.arcs cs))))).set (rest.length+1) none).set j' (rowW L9))) (get_set_eq (get_set_ne vx (by omega))) (P8_frz (by simp) (get_set_ne (get_set_eq (get_set_eq (get_set_ne vx (by omega)))) (by omega)) (fun z hz=>?_) hk9 hf9) (.cons 13 rfl (.ptr 0) .nil) ?_
    ·by_cases h1:z=j'
     ·subst h1
      refine .inr ⟨_,_,get_set_ne (get_set_ne va (by omega)) (by omega),get_set_eq (get_set_ne (get_set_ne (get_set_ne va (by omega)) (by omega)) (by omega)),?_⟩
      have:=hL9.1
      rw[this]
      exact .row hL9
     ·refine .inl ?_
      rw[List.getElem?_set,if_neg (by omega),List.getElem?_set,if_neg (by omega)]
    refine W_cs (.a 2 rfl<|.k [10] rfl) ?_
    refine W_ret ?_
    refine⟨_,ResL.of rfl,brT O.arcs cs,kv9,L9,j',_,hgood,rfl,?_,?_,by omega,hok9⟩
    ·exact get_set_eq (get_set_ne (get_set_ne (get_set_ne va (by omega)) (by omega)) (by omega))
    ·exact(((V.keep.put (.inr (by omega)) _).put (.inr (by omega)) _).put (.inr (by omega)) _).put (by omega) _
end
end PW
end Go.Proofs.YtnegbdpggideiaaGreatDoor
