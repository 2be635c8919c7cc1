/- Texts of the proof, part 11. -/
import Derived.Laws.StructEq
import Derived.Lib.AppendStr
import Derived.Lib.UnsafeStr
import Derived.Lib.Builder
import Derived.Shelf.Strings.Builder1
import Derived.Shelf.Small.Bits
import Derived.Shelf.Strings.BuilderF
import Derived.Shelf.Strings.BuilderK
import Derived.Shelf.Strconv.Itoa0
import Derived.Shelf.Strconv.Itoa1
import Derived.Shelf.LaysM
import Derived.Shelf.Strconv.Itoa2
import Derived.Shelf.Strconv.Itoa3
import Derived.Shelf.Strings.BuilderCap
import Derived.Shelf.Slices.Reverse
import Derived.Ground.Names2Prog
import Derived.Shelf.Slices.Clone
import Derived.Shelf.Slices.SearchI
import Derived.Shelf.Slices.Cells
import Derived.Ground.SlgnProg
import Derived.Shelf.SlicesE.Clone
import Derived.Test.YteikppbedmmdnaaGreatDoorProg
import Derived.RangeFuncNested
import Derived.RangeFuncBound
import Derived.RangeFuncCalls
import Derived.RangeFuncLeaves
import Derived.Shelf.Abstract
import Derived.Shelf.RegionOpen
import Derived.WalkKit
import Derived.OwnWalkIn
import Derived.TacticsInMore
import Derived.LoopNIn
import Derived.LoopIn
import Derived.Test.YteikppbedmmdnaaGreatDoorCardWIB10
set_option linter.unusedVariables false
set_option linter.unusedSimpArgs false
set_option maxRecDepth 10000
set_option maxHeartbeats 1000000
namespace Go.Proofs.YteikppbedmmdnaaGreatDoor
namespace PW
section
open Go.RowKit cj Mem
def qi(l:List UInt8):Value:=.string ⟨l.toArray⟩
theorem bytes_beq(a b:List UInt8):((⟨a.toArray⟩:ByteArray)==⟨b.toArray⟩)=decide (a=b):=Bool.eq_iff_iff.2 (by
 rw[beq_toListBytes,beq_iff_eq,decide_eq_true_eq,ByteArray.toList_eq,ByteArray.toList_eq])
section
variable {P:Program} {kt:TypeId}
theorem Gx(b:Bool)(n:Nat)(hu:P.underlying kt=some .string)(a:List UInt8)(w:World):(Instr.checkKey b (n+1) kt (qi a)).run P w= .ok () w:=by
 simp only[Instr.checkKey,Sem.run_bind,run_underlying hu,Result.andThen_ok,Sem.run_pure,qi]
theorem IN(n:Nat)(hu:P.underlying kt=some .string)(a b:List UInt8)(w:World):(Op.equalIn (n+1) kt (qi a) (qi b)).run P w= .ok (decide (a=b)) w:=by
 have h:=run_equalIn_string w n kt ⟨a.toArray⟩ ⟨b.toArray⟩ hu
 rw[←beq_toListBytes,bytes_beq]at h
 exact h
theorem Jj(hu:P.underlying kt=some .string):gm P kt qi where
 nI:=fun b a w=>Gx b 9999 hu a w
 eql:=fun a b w=>IN _ hu a b w
 now:=⟨_,hu,.inl fun a b=>by simp only[Instr.sameNow,qi,bytes_beq]⟩
 bits:=fun a=>by
  show Instr.sameBits 10000 (.string ⟨a.toArray⟩) (.string ⟨a.toArray⟩)=true
  unfold Instr.sameBits
  show((⟨a.toArray⟩:ByteArray)==⟨a.toArray⟩)=true
  rw[bytes_beq]
  exact decide_eq_true rfl
variable {t:b9} {σ:bN} {o:Oper}
theorem HA{x y:Operand}{ty tz:TypeId}(ho:o.op= .binOp .neq ty x y tz)(hk:ph P ty=true)(hx:aA t x=some (.raw (.pointer none)))(hy:aA t y=some (.raw (.pointer none))):bh P σ t o (.raw (.bool false)):=by
 refine wR ho hx hy fun w=>?_
 unfold ph at hk
 split at hk
 ·rename_i e hu
  have key:∀d,(Op.equalIn (d+1) ty (.pointer none) (.pointer none)).run P w= .ok true w:=fun d=>by
   simp only[Op.equalIn,Sem.run_bind,run_underlying hu,Result.andThen_ok,Sem.run_pure,Option.isNone_none]
  have:=key 9999
  simp only[Nat.reduceAdd]at this
  simp[eqGuard,binOp,Op.equal,Op.maxDepth,this]
 ·cases hk
theorem HI{x y:Operand}{ty tz:TypeId}{xs:List PV}{k:Nat}(ho:o.op= .binOp .neq ty x y tz)(hk:ph P ty=true)(hx:aA t x=some (.bg xs k))(hy:aA t y=some (.raw (.pointer none))):bh P σ t o (.raw (.bool true)):=by
 intro F base E ρ w hρ _ hT
 have h1:=aq hρ hT hx
 have h2:=aq hρ hT hy
 generalize hz:ρ x=z at h1
 generalize hz':ρ y=z' at h2
 cases h2
 cases h1 with
 |bg b o' _ cs _ hb hM hc hl hr=>
  simp only[execOp,ho,hz,hz',Sem.run_bind,eqGuard,binOp,mc hk,Result.andThen_ok,Sem.run_pure]
  exact bd (.raw _)
end
open Net eX
section
variable {T:ah} {k x:Int} {d:Nat} {st:Nat→Int} {p0:gg}
theorem yC{p:gg}{s:List cr}{e:kD}(h:e.av.length≤1000):(jo p s e).av.length≤1000:=by
 unfold jo
 split
 ·split
  ·exact Nat.zero_le _
  ·exact h
 ·exact h
theorem Ap{x:eN}{p:gg}{s:List cr}{v:Int}{K:Out}(hx:fA T x=true)(hK:K.av.length≤1000):(Jt T x p s v K).av.length≤1000:=by
 unfold Jt
 split
 ·rename_i h
  obtain⟨_,_,_,_,h3⟩:=oV hx (Bool.and_eq_true _ _▸h).1
  exact yC h3
 ·exact hK
theorem rA{x:eN}{p:gg}{s:List cr}{K:Out}(hx:fA T x=true)(hK:K.av.length≤1000):(ic T x p s K).av.length≤1000:=by
 unfold ic
 split
 ·exact Nat.zero_le _
 ·split
  ·exact Nat.zero_le _
  ·split
   ·exact Ap hx (Nat.zero_le _)
   ·split
    ·exact Ap hx hK
    ·split
     ·split
      ·exact Nat.zero_le _
      ·split
       ·exact hK
       ·show([_]:List Int).length≤1000;simp
     ·exact Nat.zero_le _
theorem BI(T:ah)(x:eN)(p:gg):(gG T x p).av.length≤1000:=by
 unfold gG
 split
 ·exact Nat.zero_le _
 ·rename_i h
  have hx:fA T x=true:=by
   cases h2:fA T x with
   |true=>rfl
   |false=>rw[h2]at h;simp at h
  split
  ·exact Nat.zero_le _
  ·exact rA hx (rA hx (Nat.zero_le _))
end
theorem mJ{α:Type}[DecidableEq α]:∀(l m:List α),l.Nodup→(∀a∈l,a∈m)→l.length≤m.length
 | [],m,_,_=>Nat.zero_le _
 |a::l,m,hn,h=>by
  have ha:=h a (by simp)
  rw[List.nodup_cons]at hn
  have h2:=mJ l (m.erase a) hn.2 (fun b hb=>(List.mem_erase_of_ne (fun e=>hn.1 (by rw[←e];exact hb))).2 (h b (by simp[hb])))
  rw[List.length_erase_of_mem ha]at h2
  have:=List.length_pos_of_mem ha
  simp only[List.length_cons]
  omega
section
variable {T:ah} {k x:Int} {d:Nat} {st:Nat→Int} {p0:gg}
noncomputable def Ky(T:ah)(tb:Nat→eN)(p0:gg)(m a:Nat):Nat→Nat×List cr
 |0=>((aB T a).toNat,(bT T tb p0 m []).fe.stack)
 |j+1=>((aB T ((bT T tb p0 (Ky T tb p0 m a j).1 (Ky T tb p0 m a j).2).av.getD 0 0).toNat).toNat,(bT T tb p0 (Ky T tb p0 m a j).1 (Ky T tb p0 m a j).2).fe.stack)
def J8(T:ah)(k x:Int)(d:Nat)(st:Nat→Int)(p0:gg)(late:Bool)(u n:Nat)(s:List cr):Prop:=
 (Open T k x d n s∧u=if late then T.nodes.toNat+jv T (cA T k x) d n else 2*T.nodes.toNat+jv T [] d n)∨
  ∃(q:List Int) (m a j:Nat),Et T k x d n s q∧u=q.length∧q.length<T.nodes.toNat∧(m:Int)<T.nodes∧a<2*T.ae.length∧j+q.length≤T.nodes.toNat∧Ky T (LV T (cA T k x) st) p0 m a j=(n,s)
theorem J8.KT{late:Bool}{u n:Nat}{s:List cr}(h:J8 T k x d st p0 late u n s):Way T k x d late n s u:=by
 rcases h with h|⟨q,_,_,_,h1,h2,h3,_⟩
 ·exact .inl h
 ·exact .inr ⟨q,h1,h2,h3⟩
end
abbrev Gb:=List (Nat×Nat×List cr)
section
variable (T:ah) (tb:Nat→eN) (p0:gg) (Φ:Nat→Nat→List cr→Prop)
def lN(op:Gb)(n:Nat)(s:List cr)(v:PV):Prop:=(∃c,Good T tb p0 Φ v n s c)∨∃i,(i,n,s)∈op∧v= .ptr (i+8) 0
structure nt (op:Gb) (kv:List (List UInt8×PV)) (L:List PV):Prop where
 GM:∀e∈kv,∃u n s,Φ u n s∧e.1=dQ n s∧lN T tb p0 Φ op n s e.2
 nodup:(kv.map (·.1)).Nodup
 all:∀v∈L,∃n s,lN T tb p0 Φ op n s v
 len:L.length=kv.length
end
section
variable {T:ah} {tb:Nat→eN} {p0:gg} {Φ:Nat→Nat→List cr→Prop}
theorem lN.more{op:Gb}{x:Nat×Nat×List cr}{n:Nat}{s:List cr}{v:PV}(h:lN T tb p0 Φ op n s v):lN T tb p0 Φ (x::op) n s v:=by
 rcases h with h|⟨i,h,e⟩
 ·exact .inl h
 ·exact .inr ⟨i,List.mem_cons_of_mem _ h,e⟩
theorem nt.push{op:Gb}{kv:List (List UInt8×PV)}{L:List PV}(h:nt T tb p0 Φ op kv L){u n i:Nat}{s:List cr}(hΦ:Φ u n s)(hno:dQ n s∉kv.map (·.1)):
  nt T tb p0 Φ ((i,n,s)::op) (kv++[(dQ n s,.ptr (i+8) 0)]) (L++[.ptr (i+8) 0]) where
 GM:=fun e he=>by
  rcases List.mem_append.1 he with he|he
  ·obtain⟨u,n,s,h1,h2,h3⟩:=h.GM e he
   exact⟨u,n,s,h1,h2,h3.more⟩
  ·rw[List.mem_singleton]at he
   subst he
   exact⟨u,n,s,hΦ,rfl,.inr ⟨i,List.mem_cons_self,rfl⟩⟩
 nodup:=by
  rw[List.map_append,List.nodup_append]
  refine⟨h.nodup,by simp,fun a ha b hb e=>?_⟩
  subst e
  simp only[List.map_cons,List.map_nil,List.mem_singleton]at hb
  subst hb
  exact hno ha
 all:=fun v hv=>by
  rcases List.mem_append.1 hv with hv|hv
  ·obtain⟨n,s,h1⟩:=h.all v hv
   exact⟨n,s,h1.more⟩
  ·rw[List.mem_singleton]at hv
   subst hv
   exact⟨n,s,.inr ⟨i,List.mem_cons_self,rfl⟩⟩
 len:=by simp[h.len]
theorem we{i:Nat}{blk:cK}{Q Q':PV→Prop}(h:∀v,Q v→∃v',C7 i blk v v'∧Q' v'):∀L:List PV,(∀v∈L,Q v)→∃L',kU i blk L L'∧∀v∈L',Q' v
 | [],_=>⟨[],.nil,fun v hv=>by cases hv⟩
 |v::L,hL=>by
  obtain⟨v',h1,h2⟩:=h v (hL v (by simp))
  obtain⟨L',h3,h4⟩:=we h L (fun w hw=>hL w (by simp[hw]))
  exact⟨v'::L',.cons h1 h3,fun w hw=>by
   rcases List.mem_cons.1 hw with rfl|hw
   ·exact h2
   ·exact h4 w hw⟩
theorem DW{i:Nat}{blk:cK}{Q Q':List UInt8→PV→Prop}(h:∀k v,Q k v→∃v',C7 i blk v v'∧Q' k v'):∀kv:List (List UInt8×PV),(∀e∈kv,Q e.1 e.2)→∃kv':List (List UInt8×PV),kv'.map (·.1)=kv.map (·.1)∧kU i blk (kv.map (·.2)) (kv'.map (·.2))∧∀e∈kv',Q' e.1 e.2
 | [],_=>⟨[],rfl,.nil,fun v hv=>by cases hv⟩
 |e::L,hL=>by
  obtain⟨v',h1,h2⟩:=h e.1 e.2 (hL e (by simp))
  obtain⟨L',h3,h4,h5⟩:=DW h L (fun w hw=>hL w (by simp[hw]))
  exact⟨(e.1,v')::L',by simp[h3],.cons h1 h4,fun w hw=>by
   rcases List.mem_cons.1 hw with rfl|hw
   ·exact h2
   ·exact h5 w hw⟩
theorem nt.close{op:Gb}{i n:Nat}{s:List cr}{kv:List (List UInt8×PV)}{L:List PV}(h:nt T tb p0 Φ ((i,n,s)::op) kv L){ty:TypeId}{xs:List PV}{c:Int}(hg:Good T tb p0 Φ (.bg xs 0) n s c):
  ∃kv' L',nt T tb p0 Φ op kv' L'∧kv'.map (·.1)=kv.map (·.1)∧kU (i+8) (.cells ty xs) (kv.map (·.2)) (kv'.map (·.2))∧kU (i+8) (.cells ty xs) L L':=by
 have key:∀n1 s1 v,lN T tb p0 Φ ((i,n,s)::op) n1 s1 v→∃v',C7 (i+8) (.cells ty xs) v v'∧lN T tb p0 Φ op n1 s1 v':=fun n1 s1 v hv=>by
  rcases hv with hv|⟨i1,h1,rfl⟩
  ·exact⟨v,.same _,.inl hv⟩
  ·rcases List.mem_cons.1 h1 with h1|h1
   ·cases h1
    exact⟨_,.ptr 0,.inl ⟨c,hg⟩⟩
   ·exact⟨_,.same _,.inr ⟨i1,h1,rfl⟩⟩
 obtain⟨kv',k1,k2,k3⟩:=DW (i:=i+8) (blk:=.cells ty xs) (Q:=fun k v=>∃u n1 s1,Φ u n1 s1∧k=dQ n1 s1∧lN T tb p0 Φ ((i,n,s)::op) n1 s1 v) (Q':=fun k v=>∃u n1 s1,Φ u n1 s1∧k=dQ n1 s1∧lN T tb p0 Φ op n1 s1 v) (fun k v ⟨u,n1,s1,h1,h2,h3⟩=>by
  obtain⟨v',h4,h5⟩:=key n1 s1 v h3
  exact⟨v',h4,u,n1,s1,h1,h2,h5⟩) kv h.GM
 obtain⟨L',l1,l2⟩:=we (i:=i+8) (blk:=.cells ty xs) (Q:=fun v=>∃n1 s1,lN T tb p0 Φ ((i,n,s)::op) n1 s1 v) (Q':=fun v=>∃n1 s1,lN T tb p0 Φ op n1 s1 v) (fun v ⟨n1,s1,h3⟩=>by
  obtain⟨v',h4,h5⟩:=key n1 s1 v h3
  exact⟨v',h4,n1,s1,h5⟩) L h.all
 refine⟨kv',L',⟨k3,by rw[k1];exact h.nodup,l2,?_⟩,k1,k2,l1⟩
 have:=congrArg List.length k1
 simp only[List.length_map]at this
 rw[l1.1,h.len,this]
theorem nt.Lu(R:nU T tb p0 Φ)(h12:T.nodes≤12){U:List (Nat×List cr)}(hU:∀ {u n s},Φ u n s→(n,s)∈U){op:Gb}{kv:List (List UInt8×PV)}{L:List PV}(h:nt T tb p0 Φ op kv L):kv.length≤U.length:=by
 have key:∀kv:List (List UInt8×PV),(∀e∈kv,∃u n s,Φ u n s∧e.1=dQ n s)→∃sts:List (Nat×List cr),sts.map (fun x=>dQ x.1 x.2)=kv.map (·.1)∧∀x∈sts,x∈U:=fun kv=>by
  induction kv with
  |nil=>intro _;exact⟨[],rfl,fun x hx=>by cases hx⟩
  |cons e kv ih=>
   intro he
   obtain⟨u,n,s,h1,h2⟩:=he e (by simp)
   obtain⟨sts,h3,h4⟩:=ih (fun e h=>he e (by simp[h]))
   exact⟨(n,s)::sts,by simp[h3,h2],fun x hx=>by
    rcases List.mem_cons.1 hx with rfl|hx
    ·exact hU h1
    ·exact h4 x hx⟩
 obtain⟨sts,h1,h2⟩:=key kv (fun e he=>by
  obtain⟨u,n,s,h1,h2,_⟩:=h.GM e he
  exact⟨u,n,s,h1,h2⟩)
 have hn:=h.nodup
 rw[←h1]at hn
 have hnd:sts.Nodup:=by
  unfold List.Nodup at hn ⊢
  rw[List.pairwise_map]at hn
  exact hn.imp fun hab e=>hab (by rw[e])
 have:=mJ sts U hnd h2
 have h3:=congrArg List.length h1
 simp only[List.length_map]at h3
 omega
theorem nt.Kf(R:nU T tb p0 Φ)(h12:T.nodes≤12){op:Gb}{kv:List (List UInt8×PV)}{L:List PV}(h:nt T tb p0 Φ op kv L){u n:Nat}{s:List cr}(hΦ:Φ u n s)(hop:∀x∈op,G5 T tb p0 x.2.1 x.2.2 n s){v:PV}(hv:cV (dQ n s) kv=some v):∃c,Good T tb p0 Φ v n s c:=by
 obtain⟨u1,n1,s1,h1,h2,h3⟩:=h.GM _ (iX hv)
 have a1:=R.node h1
 have a2:=R.node hΦ
 obtain⟨rfl,rfl⟩:=Dt (by omega) (by omega) (R.small hΦ).1 (R.small h1).1 h2
 rcases h3 with h3|⟨i,h4,_⟩
 ·exact h3
 ·exact(R.E0 (hop _ h4) h1).elim
theorem tG{κ:Type}[DecidableEq κ]{k:κ}:∀ {l:List (κ×PV)},cV k l=none→k∉l.map (·.1)
 | [],_=>by simp
 |(a,q)::l,h=>by
  simp only[cV]at h
  split at h
  ·cases h
  ·rename_i hne
   rw[List.map_cons,List.mem_cons]
   rintro(e|e)
   ·exact hne e
   ·exact tG h e
theorem nQ{κ:Type}[DecidableEq κ]{k:κ}{p:PV}:∀ {l:List (κ×PV)},cV k l=none→gJ k p l=l++[(k,p)]
 | [],_=>rfl
 |(a,q)::l,h=>by
  simp only[cV]at h
  split at h
  ·cases h
  ·rename_i hne
   simp only[gJ]
   rw[if_neg hne,nQ h]
   rfl
end
end
section
open Go.RowKit cj Mem
section
variable {P:Program} {σ:bN} {t:b9} {o:Oper}
def ep(l:List UInt8):List PV:=l.map fun b=>.raw (.int .u8 b.toNat)
instance (l:List UInt8):aI (ep l):=aI.map _ _ fun _=>inferInstance
theorem jT(a b:List UInt8):ep a++ep b=ep (a++b):=by simp[ep]
theorem oN{w:World}(base:Nat)(t u ty e:TypeId)(i:TypeInfo)(ht:P.underlying t=some (.slice e))(hu:P.underlying u=some .string)(hi:P.info? e=some i)(hz:i.zero=some (.int .u8 0))
  (hsize:i.size=1) (hby:i.bytes=1) (v:Value) (n:Nat) (xs:List Value) (hown:w.ownsRow base e 1 v n xs) (s:ByteArray)
  (h63:n+s.size≤maxLen) (hbytes:n+s.size≤140737488355328) (hbase:base≤w.heap.size):
  ∃v' w',(Builtin.append_ #[t,u] ty #[v,.string s]).run P w= .ok v' w'∧w'.ownsRow base e 1 v' (n+s.size) (xs++Lib.strCells s)∧w.grownBy w' v.ownBlock∧(v'.ownBlock=v.ownBlock∨v'.ownBlock=some w.heap.size):=by
 obtain⟨v',w',hr,h2,h3,h4⟩:=Lib.run_append_own_string (P:=P) w base t u ty e i ht hu hi hz hsize hby v n xs hown s h63 hbytes hbase
 refine⟨v',w',hr,h2,h3,?_⟩
 have hsmall:n+s.size≤9223372036854775807:=by simp only[maxLen]at h63;omega
 rcases hown.2 with⟨rfl,rfl⟩|⟨g,cap,cur,rfl,hbg,hg,hnc,hcm,hcs,htake⟩
 ·by_cases hm:s.size=0
  ·rw[h4.2 ⟨rfl,hm⟩];exact .inl rfl
  ·have hr':=run_append_nil_string (P:=P) w t u ty e i (.int .u8 0) ht hu hi hz s (by omega) (by omega) (by rw[hby];omega)
   rw[hr']at hr
   cases hr
   exact .inr rfl
 ·by_cases hroom:n+s.size≤cap
  ·have hr':=Lib.run_append_room_string (P:=P) w t u ty e i ht hu hi hsize g n cap cur hg s hroom (by rw[hcs];omega)
   rw[hr']at hr
   cases hr
   exact .inl rfl
  ·have holds:∀(j:Nat) u,xs[j]? =some u→w.cell? ((⟨g,0,none⟩:Addr).add j)=some u:=hown.cells (g:=g) I
   have hr':=Lib.run_append_grow_string (P:=P) w t u ty e i (.int .u8 0) ht hu hi hz ⟨g,0,none⟩ n cap xs (by rw[hsize];exact hown.1) holds s (by omega) (by omega) (growslice_fits (by omega) (by rw[hby];omega))
   rw[hr']at hr
   cases hr
   exact .inr rfl
def AD(P:Program)(ty sy:TypeId):Option TypeId:=
 match P.underlying ty,P.underlying sy with
 |some (.slice e),some .string=>match P.info? e with
  |some i=>match i.zero with
   |some (.int .u8 0)=>bif Nat.beq i.size 1&&Nat.beq i.bytes 1 then some e else none
   |_=>none
  |none=>none
 |_,_=>none
theorem zW{ty sy e:TypeId}(h:AD P ty sy=some e):P.underlying ty=some (.slice e)∧P.underlying sy=some .string∧∃i,P.info? e=some i∧i.zero=some (.int .u8 0)∧i.size=1∧i.bytes=1:=by
 unfold AD at h
 split at h
 ·rename_i e' h1 h2
  split at h
  ·rename_i i hi
   split at h
   ·rename_i hz
    rw[Bool.cond_eq_ite]at h
    split at h
    ·rename_i hb
     cases h
     obtain⟨b1,b2⟩:=Bool.and_eq_true_iff.1 hb
     exact⟨h1,h2,i,hi,hz,Nat.eq_of_beq_eq_true b1,Nat.eq_of_beq_eq_true b2⟩
    ·cases h
   ·cases h
  ·cases h
 ·cases h
theorem pY{ty sy e n i:Nat}{xs:List PV}{x y:Operand}{s:ByteArray}(ho:o.op= .call {callee:=.builtin .append,args:= #[x,y],argTypes:= #[ty,sy]})(hk:AD P ty sy=some e)(hx:aA t x=some (.own i))(hi:σ[i]? =some (some (.row e 1 n xs)))
  (hy:aA t y=some (.raw (.string s))) (hn:n+s.size≤140737488355328):
  cM P σ t o (.own σ.length) (σ.set i none++[some (.row e 1 (n+s.size) (xs++ep s.data.toList))]):=by
 intro F base E ρ w hρ hS hT
 have h1:=aq hρ hT hx
 have h2:=aq hρ hT hy
 generalize hz1:ρ x=v at h1
 generalize hz2:ρ y=u at h2
 cases h2
 obtain⟨hu,hu2,inf,hinf,hz,hs,hby⟩:=zW hk
 cases h1 with
 |own _ hiL _ hat hone=>
  obtain⟨cs,k1,k2⟩:=hS.blk i _ hi
  rw[hat]at k1
  have hob:aY (E.at_ i)=v.ownBlock:=by rw[hat];exact fW k1
  obtain⟨v',w',hrun,hown,hg,hw⟩:=oN (P:=P) (w:=w) base ty sy o.type e inf hu hu2 hinf hz hs hby v n cs k1 s (by unfold maxLen;omega) hn hS.bl
  have hr:(execOp ρ o).run P w= .ok (.value v') w':=by
   simp only[execOp,ho,resolve,invoke,builtin,Sem.run_bind,Sem.run_pure,Result.andThen_ok,List.map_toArray,List.map_cons,List.map_nil,hz1,hz2,hrun]
  have hnw:aV E w (Lib.strCells s) (ep s.data.toList):=by
   refine⟨by simp[Lib.strCells,ep],fun j c u h1 h2=>?_⟩
   simp only[Lib.strCells,ep,List.getElem?_map,Option.map_eq_some_iff]at h1 h2
   obtain⟨b,hb,rfl⟩:=h1
   obtain⟨b',hb',rfl⟩:=h2
   rw[hb]at hb'
   cases hb'
   exact .raw _
  have hv':∀b,aY v'=some b→aY (E.at_ i)=some b∨w.heap.size≤b:=fun b hb=>by
   rw[fW hown]at hb
   rcases hw with h|h
   ·rw[hob,←h];exact .inl hb
   ·rw[h]at hb;cases hb;exact .inr (Nat.le_refl _)
  obtain⟨a1,a2⟩:=hS.swap (w':=w') (blk:=.row e 1 (n+s.size) (xs++ep s.data.toList)) hi hg.size (fun k hk hne=>hg.block k hk (by rw[←hob];exact Ne.symm hne)) hv' (fun E' g=>⟨cs++Lib.strCells s,hown,(k2.append hnw).goes g⟩)
  refine⟨v',w',_,.inl hr,a1,a2,⟨hg.os,hg.tape,hg.output,hg.size,fun k hk=>hg.block k (Nat.lt_of_lt_of_le hk hS.bl) (fun e=>?_)⟩,.own σ.length (by simp[Env.push,Env.kill,hS.len]) v' (by simp[Env.push,Env.kill,hS.len]) ?_⟩
  ·have:=(k1.lt k e.symm).1;omega
  ·rcases hown.2 with⟨rfl,_⟩|⟨g',cap,cur,rfl,_⟩<;>rfl
theorem Sat.drop{F:Nat→Prop}{base:Nat}{E:Env}{w w':World}(hS:Sat F base σ E w){j g:Nat}{bj:cK}(hj:σ[j]? =some (some bj))(hb:aY (E.at_ j)=some g)(hs:w.heap.size≤w'.heap.size)(ho:∀k,k<w.heap.size→k≠g→w'.heap[k]? =w.heap[k]?):
  Sat F base (σ.set j none) (E.kill j) w'∧cp E w (E.kill j) w':=by
 have hgM:E.M g:=(hS.mm g).2 (.inr ⟨j,bj,hj,hb⟩)
 obtain⟨k1,_⟩:=hS.kill j hj
 have g':cp E w (E.kill j) w':=⟨Nat.le_refl _,fun _ _=>rfl,fun b _ hM h=>hM h.1,hs,fun k hk hM=>ho k hk (fun e=>hM (by rw[e];exact hgM))⟩
 refine⟨⟨Nat.le_trans hS.bl hs,fun b hb'=>⟨Nat.lt_of_lt_of_le (k1.fb b hb').1 hs,(k1.fb b hb').2⟩,k1.len,k1.mm,fun i bl hi=>?_,k1.inj,hS.gl.goes g'⟩,g'⟩
 obtain⟨hne,h3⟩:=ir hi
 exact(hS.blk i bl h3).goes g' (fun k hk=>ho k ((hS.blk i bl h3).lt hk).2 (fun e=>hne (hS.inj i j bl bj g h3 hj (by rw[←e];exact hk) hb)))
theorem yj{ty:TypeId}{x:Operand}{s:ByteArray}(ho:o.op= .call {callee:=.builtin .len,args:= #[x],argTypes:= #[ty]})(hu:P.underlying ty=some .string)(hx:aA t x=some (.raw (.string s))):bh P σ t o (.raw (.int .i64 s.size)):=by
 intro F base E ρ w hρ _ hT
 have h1:=aq hρ hT hx
 generalize hz:ρ x=z at h1
 cases h1
 simp[execOp,ho,resolve,invoke,builtin,Builtin.len_,hz,run_underlying hu,goInt]
 exact bd (.raw _)
theorem yp{ty:TypeId}{x:Operand}{j e s n:Nat}{xs:List PV}(ho:o.op= .call {callee:=.builtin .unsafeSliceData,args:= #[x],argTypes:= #[ty]})(hx:aA t x=some (.own j))(hj:σ[j]? =some (some (.row e s n xs)))(hn:0<n):bh P σ t o (.ptr j 0):=by
 intro F base E ρ w hρ hS hT
 have h1:=aq hρ hT hx
 generalize hz:ρ x=z at h1
 cases h1 with
 |own _ hi _ h hone=>
  obtain⟨cs,k1,_⟩:=hS.blk j _ hj
  rw[h]at k1
  rcases k1.2 with⟨_,h0⟩|⟨g,cap,cur,hv,_,_,hnc,_⟩
  ·omega
  ·subst hv
   have:=Lib.run_unsafeSliceData_row (P:=P) w #[ty] o.type ⟨g,0,none⟩ n cap (by omega)
   simp only[execOp,ho,resolve,invoke,builtin,Sem.run_bind,Sem.run_pure,Result.andThen_ok,List.map_toArray,List.map_cons,List.map_nil,hz,this]
   exact bd (.ptr j 0 g hi (.inr ⟨n,cap,h⟩))
theorem xN{pt it:TypeId}{x y:Operand}{j e:Nat}{l:List UInt8}(ho:o.op= .call {callee:=.builtin .unsafeString,args:= #[x,y],argTypes:= #[pt,it]})(hp:P.underlying pt=some (.pointer e))(hc:P.cellsOf e=1)(hx:aA t x=some (.ptr j 0))(hy:aA t y=some (.raw (.int .i64 l.length)))(hj:σ[j]? =some (some (.row e 1 l.length (ep l))))(hl:0<l.length):
  cM P σ t o (.raw (.string ⟨l.toArray⟩)) (σ.set j none):=by
 intro F base E ρ w hρ hS hT
 have h1:=aq hρ hT hx
 have h2:=aq hρ hT hy
 generalize hz:ρ x=z at h1
 generalize hz':ρ y=z' at h2
 cases h2
 cases h1 with
 |ptr _ _ b hi h=>
  obtain⟨cs,k1,k2⟩:=hS.blk j _ hj
  have hcs:cs=Lib.byteCells l:=by
   apply List.ext_getElem?
   intro i
   by_cases hi':i<l.length
   ·have h3:=k2.2 i (cs[i]'(by rw[k2.1];simpa[ep]using hi')) (.raw (.int .u8 (l[i]).toNat)) (by simp) (by simp[ep,hi'])
    have h4:cs[i]'(by rw[k2.1];simpa[ep]using hi')= .int .u8 (l[i]).toNat:=by
     generalize cs[i]'(by rw[k2.1];simpa[ep]using hi')=q at h3
     cases h3;rfl
    rw[List.getElem?_eq_getElem (by rw[k2.1];simpa[ep]using hi'),h4]
    simp[Lib.byteCells,hi']
   ·rw[List.getElem?_eq_none (by rw[k2.1];simp[ep];omega),List.getElem?_eq_none (by simp[Lib.byteCells];omega)]
  subst hcs
  have k3:=k1
  rcases k1.2 with⟨hv,h0⟩|⟨g,cap,cur,hv,hbg,hg,hnc,hcm,hsz,htk⟩
  ·omega
  ·have hbeq:b=g:=by
    rcases h with h|⟨n,c,h⟩
    ·rw[hv]at h;cases h
    ·rw[hv]at h;cases h;rfl
   subst hbeq
   have dZ:aY (E.at_ j)=some b:=by rw[hv];rfl
   have hrun:=Lib.run_unsafeString_row (P:=P) w pt it o.type e hp hc b cur.size (by simp[World.shape?,hg]) l (by intro e';rw[e']at hl;simp at hl) (by omega) (by unfold maxLen at hcm;omega) (fun i x hx'=>k3.cells (g:=b) (by rw[hv];rfl) i (.int .u8 x.toNat) (by simp[Lib.byteCells,hx']))
   have hr:(execOp ρ o).run P w= .ok (.value (.string ⟨l.toArray⟩)) (w.freeze ⟨b,0,none⟩ l.length):=by
    simp only[execOp,ho,resolve,invoke,builtin,Sem.run_bind,Sem.run_pure,Result.andThen_ok,List.map_toArray,List.map_cons,List.map_nil,hz,hz',hrun]
   have hfz:∀k,k≠b→(w.freeze ⟨b,0,none⟩ l.length).heap[k]? =w.heap[k]? :=fun k hk=>by
    unfold World.freeze
    split
    ·rfl
    ·simp only[Array.getElem?_modify]
     rw[if_neg (Ne.symm hk)]
   have hsz':w.heap.size≤(w.freeze ⟨b,0,none⟩ l.length).heap.size:=by
    unfold World.freeze
    split<;>simp
   obtain⟨a1,a2⟩:=Sat.drop (w':=w.freeze ⟨b,0,none⟩ l.length) hS hj dZ hsz' (fun k _ hk=>hfz k hk)
   exact⟨_,_,_,.inl hr,a1,a2,Lib.below_freeze (Below.refl base w) (p:=⟨b,0,none⟩) hbg _,.raw _⟩
theorem F7{x y:Operand}{ty tz:TypeId}(ho:o.op= .binOp .eql ty x y tz)(hk:ph P ty=true)(hx:aA t x=some (.raw (.pointer none)))(hy:aA t y=some (.raw (.pointer none))):bh P σ t o (.raw (.bool true)):=by
 refine wR ho hx hy fun w=>?_
 unfold ph at hk
 split at hk
 ·rename_i e hu
  have key:∀d,(Op.equalIn (d+1) ty (.pointer none) (.pointer none)).run P w= .ok true w:=fun d=>by
   simp only[Op.equalIn,Sem.run_bind,run_underlying hu,Result.andThen_ok,Sem.run_pure,Option.isNone_none]
  have:=key 9999
  simp only[Nat.reduceAdd]at this
  simp[eqGuard,binOp,Op.equal,Op.maxDepth,this]
 ·cases hk
theorem tI{x y:Operand}{ty te tz:TypeId}{i k:Nat}{ji:TypeInfo}(ho:o.op= .binOp .neq ty x y tz)(hp:P.underlying ty=some (.pointer te))(hte:P.info? te=some ji)(hx:aA t x=some (.ptr i k))(hy:aA t y=some (.ptr i k)):bh P σ t o (.raw (.bool false)):=by
 intro F base E ρ w hρ hS hT
 have h1:=aq hρ hT hx
 have h2:=aq hρ hT hy
 have he:ρ x=ρ y:=sN.Ly E w _ _ h1 h2
 generalize hz:ρ x=z at h1
 have hz':ρ y=z:=by rw[←he,hz]
 cases h1 with
 |ptr _ _ b hi h=>
  have hb:=Lib.run_neq_ptr_same (P:=P) w ⟨b,k,none⟩ hp hte
  have hr:(execOp ρ o).run P w= .ok (.value (.bool false)) w:=by
   simp only[execOp,ho,hz,hz',Sem.run_bind,Sem.run_pure]
   have hg:(eqGuard .neq ty x y (.pointer (some ⟨b,k,none⟩)) (.pointer (some ⟨b,k,none⟩))).run P w= .ok () w:=rfl
   rw[hg]
   simp only[Result.andThen_ok,hb]
  rw[hr]
  exact bd (.raw _)
theorem zX{src dst te ty:TypeId}{x:Operand}{i:Nat}{ji:TypeInfo}{xs:List PV}(ho:o.op= .convert src dst x)(hs:P.underlying src=some (.pointer te))(hd:P.underlying dst=some .unsafePointer)(ht:P.info? te=some ji)(hj:ji.size≠0)(hx:aA t x=some (.ptr i 0))(hi:σ[i]? =some (some (.cells ty xs)))(hl:0<xs.length):bh P σ t o (.ptr i 0):=by
 intro F base E ρ w hρ hS hT
 have h1:=aq hρ hT hx
 have h1':=h1
 generalize hz:ρ x=z at h1 h1'
 obtain⟨b,cs,k1,k2,k3,k4⟩:=hS.blk i _ hi
 cases h1 with
 |ptr _ _ b' hi' h=>
  have hb:b'=b:=by
   rcases h with h|⟨n,c,h⟩<;>rw[k1]at h<;>cases h
   rfl
  subst hb
  have:=Lib.run_to_unsafe (P:=P) w ⟨b',0,none⟩ hs hd ht hj (e:=ty) (cells:=cs.size) (by simp[World.shape?,k3]) (by have:=k4.1;simp at this ⊢;omega)
  simp only[execOp,ho,hz,Sem.run_bind,this,Result.andThen_ok,Sem.run_pure]
  exact bd h1'
theorem uM{src dst u ty:TypeId}{x:Operand}{i:Nat}{ji:TypeInfo}{xs:List PV}(ho:o.op= .convert src dst x)(hs:P.underlying src=some .unsafePointer)(hd:P.underlying dst=some (.pointer u))(ht:P.info? u=some ji)(hx:aA t x=some (.ptr i 0))(hi:σ[i]? =some (some (.cells ty xs)))(hl:liesAt P P.depth ty (xs.length / P.cellsOf ty) 0 u 1=true):bh P σ t o (.ptr i 0):=by
 intro F base E ρ w hρ hS hT
 have h1:=aq hρ hT hx
 have h1':=h1
 generalize hz:ρ x=z at h1 h1'
 obtain⟨b,cs,k1,k2,k3,k4⟩:=hS.blk i _ hi
 cases h1 with
 |ptr _ _ b' hi' h=>
  have hb:b'=b:=by
   rcases h with h|⟨n,c,h⟩<;>rw[k1]at h<;>cases h
   rfl
  subst hb
  have hsz:cs.size=xs.length:=by have:=k4.1;simpa using this
  have:=Lib.run_from_unsafe (P:=P) w ⟨b',0,none⟩ hs hd ht (e:=ty) (cells:=cs.size) (by simp[World.shape?,k3]) (by rw[hsz];exact hl)
  simp only[execOp,ho,hz,Sem.run_bind,this,Result.andThen_ok,Sem.run_pure]
  exact bd h1'
theorem yW{f:FuncId}{x a:Operand}{ats:Array TypeId}{p:PV}(ho:o.op= .call {callee:=.value x,args:= #[a],argTypes:=ats})(hx:aA t x=some (.func f []))(ha:aA t a=some p)(hr:∀v w,(callFunc f #[v]).run P w= .ok (.value v) w):bh P σ t o p:=by
 intro F base E ρ w hρ hS hT
 have h1:=aq hρ hT hx
 have h2:=aq hρ hT ha
 generalize hz:ρ x=z at h1
 cases h1 with
 |func _ cs _ hl hr'=>
  have hcs:cs= #[]:=Array.eq_empty_of_size_eq_zero (by simpa using hl)
  subst hcs
  have h3:(execOp ρ o).run P w= .ok (.value (ρ a)) w:=by
   have:=hr (ρ a) w
   simp[execOp,ho,resolve,hz,Deferred.ofValue,invoke,this]
  rw[h3]
  exact bd h2
end
end
end PW
end Go.Proofs.YteikppbedmmdnaaGreatDoor
namespace Go.Proofs
open Go.Shelf
def Tryz.Gw:Go.Shelf.Ren:=⟨fun|246=>131|283=>138|284=>139|285=>140|286=>141|129=>146|317=>145|318=>147|319=>148|320=>149|337=>159|338=>160|n=>n,fun|2=>2|3=>3|9=>9|4=>4|171=>201|0=>0|53=>202|37=>155|5=>5|173=>205|212=>211|51=>212|20=>20|213=>213|46=>209|232=>228|233=>229|n=>n,fun|17=>0|18=>1|19=>2|n=>n⟩
def Tryz.H3:Go.Shelf.Ren:=⟨fun|243=>116|246=>131|283=>138|284=>139|285=>140|286=>141|129=>146|317=>145|318=>147|319=>148|320=>149|337=>159|338=>160|n=>n,fun|3=>3|9=>9|2=>2|4=>4|171=>201|0=>0|53=>202|37=>155|5=>5|173=>205|212=>211|51=>212|20=>20|213=>213|46=>209|232=>228|233=>229|n=>n,fun|17=>0|18=>1|19=>2|n=>n⟩
def Tryz.Hx:Go.Shelf.Ren:=⟨fun|171=>90|243=>116|246=>131|283=>138|284=>139|285=>140|286=>141|129=>146|317=>145|318=>147|319=>148|320=>149|337=>159|338=>160|n=>n,fun|3=>3|9=>9|2=>2|4=>4|171=>201|0=>0|53=>202|37=>155|5=>5|173=>205|212=>211|51=>212|20=>20|213=>213|46=>209|232=>228|233=>229|n=>n,fun|17=>0|18=>1|19=>2|n=>n⟩
def Tryz.xL:Go.Shelf.Ren:=⟨fun|171=>90|243=>116|246=>131|283=>138|284=>139|285=>140|286=>141|129=>146|317=>145|318=>147|319=>148|320=>149|337=>159|338=>160|n=>n,fun|3=>3|9=>9|2=>2|4=>4|171=>201|0=>0|53=>202|37=>155|5=>5|173=>205|212=>211|51=>212|20=>20|213=>213|46=>209|232=>228|233=>229|n=>n,fun|17=>0|18=>1|19=>2|n=>n⟩
theorem Tryz.G0:Go.Proofs.Lays.n171 Tryz.prog Tryz.xL:= {
 mixed:=by kernel_rfl
 f129:=Tryz.func146.trans (congrArg some (by kernel_rfl))
 f171:=Tryz.func90.trans (congrArg some (by kernel_rfl))
 f243:=Tryz.func116.trans (congrArg some (by kernel_rfl))
 f246:=Tryz.func131.trans (congrArg some (by kernel_rfl))
 f283:=Tryz.func138.trans (congrArg some (by kernel_rfl))
 f284:=Tryz.func139.trans (congrArg some (by kernel_rfl))
 f285:=Tryz.func140.trans (congrArg some (by kernel_rfl))
 f286:=Tryz.func141.trans (congrArg some (by kernel_rfl))
 f317:=Tryz.func145.trans (congrArg some (by kernel_rfl))
 f318:=Tryz.func147.trans (congrArg some (by kernel_rfl))
 f319:=Tryz.func148.trans (congrArg some (by kernel_rfl))
 f320:=Tryz.func149.trans (congrArg some (by kernel_rfl))
 f337:=Tryz.func159.trans (congrArg some (by kernel_rfl))
 f338:=Tryz.func160.trans (congrArg some (by kernel_rfl))
 t0:=Tryz.underlying0
 a0:=Tryz.isAgg0
 z0:=Tryz.sizeOf0
 v0:=Tryz.zeroValue0
 t2:=Tryz.underlying2
 a2:=Tryz.isAgg2
 z2:=Tryz.sizeOf2
 v2:=Tryz.zeroValue2
 t3:=Tryz.underlying3
 a3:=Tryz.isAgg3
 z3:=Tryz.sizeOf3
 v3:=Tryz.zeroValue3
 t4:=Tryz.underlying4
 a4:=Tryz.isAgg4
 z4:=Tryz.sizeOf4
 v4:=Tryz.zeroValue4
 t5:=Tryz.underlying5
 a5:=Tryz.isAgg5
 z5:=Tryz.sizeOf5
 v5:=Tryz.zeroValue5
 t9:=Tryz.underlying9
 a9:=Tryz.isAgg9
 z9:=Tryz.sizeOf9
 v9:=Tryz.zeroValue9
 t20:=Tryz.underlying20
 a20:=Tryz.isAgg20
 z20:=Tryz.sizeOf20
 v20:=Tryz.zeroValue20
 t37:=Tryz.underlying155
 a37:=Tryz.isAgg155
 z37:=Tryz.sizeOf155
 v37:=Tryz.zeroValue155
 t46:=Tryz.underlying209
 a46:=Tryz.isAgg209
 z46:=Tryz.sizeOf209
 v46:=Tryz.zeroValue209
 t51:=Tryz.underlying212
 a51:=Tryz.isAgg212
 z51:=Tryz.sizeOf212
 v51:=Tryz.zeroValue212
 t53:=Tryz.underlying202
 a53:=Tryz.isAgg202
 z53:=Tryz.sizeOf202
 v53:=Tryz.zeroValue202
 t171:=Tryz.underlying201
 a171:=Tryz.isAgg201
 z171:=Tryz.sizeOf201
 v171:=Tryz.zeroValue201
 t173:=Tryz.underlying205
 a173:=Tryz.isAgg205
 z173:=Tryz.sizeOf205
 v173:=Tryz.zeroValue205
 t212:=Tryz.underlying211
 a212:=Tryz.isAgg211
 z212:=Tryz.sizeOf211
 v212:=Tryz.zeroValue211
 t213:=Tryz.underlying213
 a213:=Tryz.isAgg213
 z213:=Tryz.sizeOf213
 t232:=Tryz.underlying228
 a232:=Tryz.isAgg228
 z232:=Tryz.sizeOf228
 v232:=Tryz.zeroValue228
 t233:=Tryz.underlying229
 a233:=Tryz.isAgg229
 z233:=Tryz.sizeOf229
 v233:=Tryz.zeroValue229
 g17:=by kernel_rfl
 g18:=by kernel_rfl
 g19:=by kernel_rfl}
open Go.RowKit Go.Sort Go.Lib in
theorem Tryz.strconv_Itoa_small(i:Nat)(hi:i<100)(w:World):
  Calls Tryz.prog 90 #[.int .i64 i] w fun e w'=>e= .returned (.string ⟨(Lib.decDigits i).toArray⟩)∧w'=w:=Any.strconv_Itoa_small Tryz.G0 i hi w
end Go.Proofs
namespace Go.Proofs.YteikppbedmmdnaaGreatDoor
namespace PW
section
open Go.RowKit cj Mem
def DH(j:Nat)(u:Bool)(l:List UInt8):bN:=some (.cells 157 [if u then .ptr 0 0 else .raw (.pointer none),.own j])::(List.replicate (j - 1) none++[some (.row 5 1 l.length (ep l))])
theorem xp:∃i,Tryz.prog.info? 157=some i∧i.size=2:=by
 have h:(Tryz.prog.info? 157).map (·.size)=some 2:=by kernel_rfl
 obtain⟨i,h1,h2⟩:=Option.map_eq_some_iff.1 h
 exact⟨i,h1,h2⟩
theorem vl(v:Value)(w:World):(callFunc 130 #[v]).run Tryz.prog w= .ok (.value v) w:=by
 rw[run_callFunc_extern Tryz.func130 (by kernel_rfl) (by kernel_rfl) (by kernel_rfl) (e:=Extern.AbiNoEscape.same) (by kernel_rfl),Lib.run_noEscape]
 rfl
theorem rC:AD Tryz.prog 155 9=some 5:=by kernel_rfl
theorem Gt(u:Bool)(l:List UInt8):aW Tryz.prog 115 [.ptr 0 0] (DH 1 u l) (fun _ σ'=>σ'=DH 1 true l):=by
 obtain⟨ji,hji,hjs⟩:=xp
 refine bO Tryz.func115 I Tryz.ntmps115 I ?_
 cases u
 ·refine aR<|bA (fE I I) I I I ?_
  refine bA (jb I I) I I I ?_
  refine bA (bn I) I I I ?_
  refine bA (dc I (bG.tk.get I) I I I) I I I ?_
  refine bA (F7 I (bG.pk.get I) I I) I I I (bf ?_)
  refine Hi I ?_
  refine bx<|bA (fE I I) I I I ?_
  refine bA (fE I I) I I I ?_
  refine bA (zX I Tryz.underlying154 Tryz.underlying192 hji (by rw[hjs];decide) I I (by decide)) I I I ?_
  refine bA (yW I I I vl) I I I ?_
  refine bA (uM I Tryz.underlying192 Tryz.underlying154 hji rfl rfl (by kernel_rfl)) I I I ?_
  refine bA (jb I I) I I I ?_
  refine bA (bn I) I I I ?_
  refine ba (cm I (bG.tk.get I) I I I (Nat.le_of_ble_eq_true rfl)) I I (bf ?_)
  exact⟨_,.nil,rfl⟩
 ·refine aR<|bA (fE I I) I I I ?_
  refine bA (jb I I) I I I ?_
  refine bA (bn I) I I I ?_
  refine bA (dc I (bG.tk.get I) I I I) I I I ?_
  refine bA (qV I (bG.pk.get I) I I) I I I (bf ?_)
  refine qC I ?_
  refine aR<|bA (fE I I) I I I ?_
  refine bA (jb I I) I I I ?_
  refine bA (bn I) I I I ?_
  refine bA (dc I (bG.tk.get I) I I I) I I I ?_
  refine bA (fE I I) I I I ?_
  refine bA (tI I Tryz.underlying154 hji rfl rfl) I I I (bf ?_)
  refine qC I ?_
  exact ak ⟨_,.nil,rfl⟩
theorem Ka(u:Bool)(l:List UInt8)(s:ByteArray)(hn:l.length+s.size≤1000000000):aW Tryz.prog 89 [.ptr 0 0,.raw (.string s)] (DH 1 u l) (fun _ σ'=>σ'=DH 2 true (l++s.data.toList)):=by
 refine bO Tryz.func89 I Tryz.ntmps89 I<|af (.a 2 I<|.k [0,1] I)<|aR<|ax 1 I<|b7 I I (aW.mono (Gt u l) (fun _ σ' h=>?_))
 subst h
 refine aH [0,1] I ?_
 refine aR<|ax 6 I<|cg (pY I rC rfl rfl rfl (by omega)) I<|ax 3 I<|aH [1] I ?_
 refine af (.a 1 I<|.v (yj I Tryz.underlying9 rfl) I<|.a 2 I<|.k [4,5] I)<|az<|⟨_,aE.of I,?_⟩
 have hl:(l++s.data.toList).length=l.length+s.size:=by simp
 unfold DH
 rw[hl,←jT]
 rfl
theorem GX(u:Bool)(l:List UInt8)(hl:0<l.length):aW Tryz.prog 92 [.ptr 0 0] (DH 1 u l) (fun r _=>r= .raw (.string ⟨l.toArray⟩)):=by
 refine bO Tryz.func92 I Tryz.ntmps92 I ?_
 cases u
 all_goals
  refine af (.a 1 I<|.k [0] I)<|lT 10 20 mixed (
   .val [0] I (bn I) I I<|
   .val [3] I (bn I) I I<|
   .val [4] I (bn I) I I<|
   .val [5] I (bn I) I I<|
   .val [6] I (yp I I I hl) I I<|
   .val [0] I (bn I) I I<|
   .val [8] I (bn I) I I<|
   .val [9] I (bn I) I I<|
   .val [10] I (bn I) I I<|
   .val [11] I (bn I) I I<|
   .nil) (by kernel_rfl) I I (bm (ks:=[7,12]) I) ?_
  refine cg (xN I Tryz.underlying187 (by kernel_rfl) I I I hl) I<|ax 1 I<|aH [2] I ?_
  exact az<|⟨_,aE.of I,rfl⟩
def Kn(l:List UInt8):PV:=.raw (.string ⟨l.toArray⟩)
theorem nA(i:Nat)(hi:i<100):Can Tryz.prog 90 [num i] (· =Kn (Lib.decDigits i)):=fun F w vs _ _ hR=>by
 obtain⟨v,rfl,h1⟩:=JJ hR
 cases eF h1
 refine(Tryz.strconv_Itoa_small i hi w).mono ?_
 rintro e w' ⟨rfl,rfl⟩
 exact⟨_,rfl,Ext.refl _,_,rfl,.raw _⟩
open Net
def Cj(l:List UInt8)(x:Option cK):bN:=[some (.cells 157 [.ptr 0 0,.own 1]),some (.row 5 1 l.length (ep l)),x]
def Cn(l:List UInt8)(x:Option cK):bN:=[some (.cells 157 [.ptr 0 0,.own 3]),none,x,some (.row 5 1 l.length (ep l))]
theorem Aj(l:List UInt8)(x:Option cK):aW Tryz.prog 115 [.ptr 0 0] (Cj l x) (fun _ σ'=>σ'=Cj l x):=by
 obtain⟨ji,hji,hjs⟩:=xp
 refine bO Tryz.func115 I Tryz.ntmps115 I<|aR<|bA (fE I I) I I I ?_
 refine bA (jb I I) I I I ?_
 refine bA (bn I) I I I ?_
 refine bA (dc I (bG.tk.get I) I I I) I I I ?_
 refine bA (qV I (bG.pk.get I) I I) I I I (bf ?_)
 refine qC I ?_
 refine aR<|bA (fE I I) I I I ?_
 refine bA (jb I I) I I I ?_
 refine bA (bn I) I I I ?_
 refine bA (dc I (bG.tk.get I) I I I) I I I ?_
 refine bA (fE I I) I I I ?_
 refine bA (tI I Tryz.underlying154 hji rfl rfl) I I I (bf ?_)
 refine qC I ?_
 exact ak ⟨_,.nil,rfl⟩
theorem IB(l:List UInt8)(x:Option cK)(s:ByteArray)(hn:l.length+s.size≤1000000000):aW Tryz.prog 89 [.ptr 0 0,.raw (.string s)] (Cj l x) (fun _ σ'=>σ'=Cn (l++s.data.toList) x):=by
 refine bO Tryz.func89 I Tryz.ntmps89 I<|af (.a 2 I<|.k [0,1] I)<|aR<|ax 1 I<|b7 I I (aW.mono (Aj l x) (fun _ σ' h=>?_))
 subst h
 refine aH [0,1] I ?_
 refine aR<|ax 6 I<|cg (pY I rC rfl rfl rfl (by omega)) I<|ax 3 I<|aH [1] I ?_
 refine af (.a 1 I<|.v (yj I Tryz.underlying9 rfl) I<|.a 2 I<|.k [4,5] I)<|az<|⟨_,aE.of I,?_⟩
 have hl:(l++s.data.toList).length=l.length+s.size:=by simp
 unfold Cn
 rw[hl,←jT]
 rfl
theorem Dw(l:List UInt8)(x:Option cK)(c:UInt8)(hn:l.length≤1000000000):aW Tryz.prog 91 [.ptr 0 0,.raw (.int .u8 c.toNat)] (Cj l x) (fun _ σ'=>σ'=Cn (l++[c]) x):=by
 refine bO Tryz.func91 I Tryz.ntmps91 I<|af (.a 1 I<|.k [0,1] I)<|aR<|ax 1 I<|b7 I I (aW.mono (Aj l x) (fun _ σ' h=>?_))
 subst h
 refine aH [0,1] I ?_
 refine aR<|ax 7 I<|cg (bC I (bG.rk.get I) I I I I (by unfold maxLen;omega)) I<|ax 3 I<|aH [] I ?_
 refine af (.a 1 I<|.k [4] I)<|az<|⟨_,aE.of I,?_⟩
 unfold Cn
 rw[←jT]
 simp only[List.length_append,List.length_singleton]
 rfl
theorem Jo{P:Program}{M:Nat}{c:Code}{t:b9}{Q:Exit→St→Prop}{l:List UInt8}{ty:TypeId}{xs:List PV}[aI xs](hT:lZ [0,3,2] t t)(h:W P M 0 c ⟨t,Cj l (some (.cells ty xs))⟩ Q):W P M 0 c ⟨t,Cn l (some (.cells ty xs))⟩ Q:=
 cJ [0,3,2] hT (.kept rfl (.cells (ao.cons (Ren.ptr (i:=0) I)<|ao.cons (Ren.own (i:=1) I) ao.nil))<|.kept rfl (.row ao.pure)<|.kept rfl (.cells ao.pure)<|.nil) I I h
theorem KU{P:Program}{M:Nat}{c:Code}{t:b9}{Q:Exit→St→Prop}{l:List UInt8}{x:Option cK}(hT:lZ [0,3] t t)(h:W P M 0 c ⟨t,DH 1 true l⟩ Q):W P M 0 c ⟨t,Cn l x⟩ Q:=
 cJ [0,3] hT (.kept rfl (.cells (ao.cons (Ren.ptr (i:=0) I)<|ao.cons (Ren.own (i:=1) I) ao.nil))<|.kept rfl (.row ao.pure)<|.nil) I I h
theorem K5{P:Program}{M:Nat}{c:Code}{t:b9}{Q:Exit→St→Prop}{l:List UInt8}(hT:lZ [0,2] t t)(h:W P M 0 c ⟨t,DH 1 true l⟩ Q):W P M 0 c ⟨t,DH 2 true l⟩ Q:=
 cJ [0,2] hT (.kept rfl (.cells (ao.cons (Ren.ptr (i:=0) I)<|ao.cons (Ren.own (i:=1) I) ao.nil))<|.kept rfl (.row ao.pure)<|.nil) I I h
theorem CA(s:List cr)(i:Nat)(g:cr)(h:s[i]? =some g)(n:Nat):dQ n (s.take (i+1))=(((dQ n (s.take i)++[32])++Lib.decDigits g.kind.toNat)++[58])++Lib.decDigits g.num.toNat:=by
 unfold dQ
 rw[List.take_add_one,h]
 simp[Hg]
theorem yD{s:List cr}(h:jX s)(i:Nat):jX (s.take i):=fun g hg=>h g (List.mem_of_mem_take hg)
theorem Bn{n:Nat}{s:List cr}(hn:n<100)(h:jX s):(dQ n s).length≤2+s.length*6:=by
 have h1:=kR hn
 have h2:=Dq h
 unfold dQ
 rw[List.length_append]
 omega
theorem DV(n:Nat)(s:List cr)(hn:n<100)(hs:jX s)(hl:s.length≤1000):Can Tryz.prog 67 [num n,cN s] (· =Kn (dQ n s)):=by
 refine aT Tryz.func67 I Tryz.ntmps67 I<|af (.a 1 I<|.k [0,1] I)<|aR<|ax 1 I<|aH [0,1,5] I ?_
 refine cB 0 1 5 1 I I ?_
 refine dF (σ':=DH 1 false []) I ?_
 refine aR<|ax 1 I<|fC I (nA n hn) I<|b7 I I (aW.mono (Ka false [] ⟨(Lib.decDigits n).toArray⟩ (show([]:List UInt8).length+(Lib.decDigits n).toArray.size≤1000000000 by have:=kR hn;simp;omega)) (fun _ σ' h=>?_))
 subst h
 refine aH [1,5] I ?_
 refine K5 (.cons 1 I Ren.pure<|.cons 5 I (Ren.ptr (i:=0) I)<|.nil) ?_
 refine an<|af (.a 3 I<|.k [5,11,12,13] I)<|ay<|eY [5,11,12,13] I<|br (fun r st=>∃i,i≤s.length∧r=s.length - i∧st=⟨[(5,.ptr 0 0),(11,cN s),(12,num s.length),(13,num i)],DH 1 true (dQ n (s.take i))⟩) s.length ⟨0,by omega,by omega,by simp[dQ]⟩ ?_
 rintro r st ⟨i,hi,rfl,rfl⟩
 refine af (.a 1 I<|.k [5,11,12,13,14] I)<|an<|aj I (fun hc=>?_) (fun hc=>?_)
 ·have hlt:i<s.length:=by have:=of_decide_eq_true hc;omega
  obtain⟨g,hg,_⟩:=Cv s i hlt
  obtain⟨a1,a2,a3,a4⟩:=hs g (List.mem_of_getElem? hg)
  have hst:=CA s i g hg n
  have hln:=Bn hn (yD hs i)
  rw[List.length_take]at hln
  obtain⟨gk,gn⟩:=g
  simp only at a1 a2 a3 a4 hst
  obtain⟨ka,rfl⟩:=Int.eq_ofNat_of_zero_le a1
  obtain⟨na,rfl⟩:=Int.eq_ofNat_of_zero_le a3
  have hk2:=kR (n:=ka) (by omega)
  have hn2:=kR (n:=na) (by omega)
  rw[Int.toNat_natCast,Int.toNat_natCast]at hst
  have hmin:min i s.length=i:=by omega
  rw[hmin]at hln
  generalize hl0:dQ n (s.take i)=l0 at*
  refine ak<|an<|ay<|aR<|bw (aJ ((i*2)) I) I<|bw (ju I (pn s i _ hg) I) I<|ax 2 I<|aH [5,7,11,12,13] I ?_
  refine dF (σ':=Cj l0 (some (.cells 112 (oE ⟨(ka:Int),(na:Int)⟩)))) I ?_
  refine aR<|b7 I I (aW.mono (Dw l0 _ 32 (by omega)) (fun _ σ' h=>?_))
  subst h
  refine aH [5,7,11,12,13] I ?_
  refine Jo (.cons 5 I (Ren.ptr (i:=0) I)<|.cons 7 I (Ren.ptr (i:=2) I)<|.cons 11 I Ren.pure<|.cons 12 I Ren.pure<|.cons 13 I Ren.pure<|.nil) ?_
  refine aR<|ax 1 I<|bw (aK I (rfl)) I<|fC I (nA ka (by omega)) I<|b7 I I (aW.mono (IB (l0++[32]) _ ⟨(Lib.decDigits ka).toArray⟩ (show(l0++[32]).length+(Lib.decDigits ka).toArray.size≤1000000000 by simp;omega)) (fun _ σ' h=>?_))
  subst h
  refine aH [5,7,11,12,13] I ?_
  refine Jo (.cons 5 I (Ren.ptr (i:=0) I)<|.cons 7 I (Ren.ptr (i:=2) I)<|.cons 11 I Ren.pure<|.cons 12 I Ren.pure<|.cons 13 I Ren.pure<|.nil) ?_
  refine aR<|b7 I I (aW.mono (Dw ((l0++[32])++Lib.decDigits ka) _ 58 (by simp;omega)) (fun _ σ' h=>?_))
  subst h
  refine aH [5,7,11,12,13] I ?_
  refine Jo (.cons 5 I (Ren.ptr (i:=0) I)<|.cons 7 I (Ren.ptr (i:=2) I)<|.cons 11 I Ren.pure<|.cons 12 I Ren.pure<|.cons 13 I Ren.pure<|.nil) ?_
  refine bx<|ax 1 I<|bw (aK I (rfl)) I<|fC I (nA na (by omega)) I<|b7 I I (aW.mono (IB (((l0++[32])++Lib.decDigits ka)++[58]) _ ⟨(Lib.decDigits na).toArray⟩ (show(((l0++[32])++Lib.decDigits ka)++[58]).length+(Lib.decDigits na).toArray.size≤1000000000 by simp;omega)) (fun _ σ' h=>?_))
  subst h
  refine aH [5,11,12,13] I ?_
  refine KU (.cons 5 I (Ren.ptr (i:=0) I)<|.cons 11 I Ren.pure<|.cons 12 I Ren.pure<|.cons 13 I Ren.pure<|.nil) ?_
  refine aF (.v (aU I) I<|.a 1 I<|.k [5,11,12,13] I) ?_
  exact⟨s.length - (i+1),by omega,i+1,by omega,rfl,by rw[hst];rfl⟩
 ·have hie:i=s.length:=by have:=of_decide_eq_false hc;omega
  subst hie
  rw[List.take_length]
  refine bp<|aR<|b7 I I (aW.mono (GX true (dQ n s) (by have:=kR hn;unfold dQ;simp;omega)) (fun _ σ' h=>?_))
  subst h
  refine ax 1 I<|aH [4] I ?_
  exact az<|⟨_,_,aE.of I,aD.pure,rfl⟩
theorem y6(T:ah)(L:List eN)(n:Int)(hv:au T=true)(hL:(L.length:Int)=T.nodes)(hok:∀(i:Nat) x,L[i]? =some x→x.node=(i:Int)∧fA T x=true)(hn:bH T n=true):Can Tryz.prog 65 [aZ T,gN L,num n] (· =num 0):=by
 have hN:=dz hv
 obtain⟨q1,hq1⟩:∃q,au T=q:=⟨_,rfl⟩
 obtain⟨q2,hq2⟩:∃q,decide ((L.length:Int)≠T.nodes)=q:=⟨_,rfl⟩
 refine aT Tryz.func65 I Tryz.ntmps65 I<|af (.a 2 I<|.k [1,2,3] I)<|an<|bP 18 (.raw (.bool (!q1 ||q2))) [1,2,3] I ?_ ?_
 ·refine .a 1 I<|.c rfl (hq1▸eo T) I<|.a 2 I<|?_
  cases q1
  ·exact .a 6 I<|.k [18,1,2,3] I
  ·exact .a 3 I<|.v (aK I (rfl)) I<|.v (cD I (hq2)) I<|.a 1 I<|.k [18,1,2,3] I
 refine aj I (fun hc=>?_) (fun hc=>?_)
 ·rw[←hq1,hv,←hq2,decide_eq_false (by rw[hL];simp)]at hc
  cases hc
 ·refine ak<|an<|af (.a 3 I<|.k [2,3,19,20,21] I)<|ay<|eY [2,3,19,20,21] I<|br (fun r st=>∃i,i≤L.length∧r=L.length - i∧st=⟨[(2,num n),(3,.bg (bI T) 0),(19,gN L),(20,num L.length),(21,num i)],[]⟩) L.length ⟨0,by omega,by omega,rfl⟩ ?_
  rintro r st ⟨i,hi,rfl,rfl⟩
  refine af (.a 1 I<|.k [2,3,19,20,21,22] I)<|an<|aj I (fun hc=>?_) (fun hc=>?_)
  ·have hlt:i<L.length:=by have:=of_decide_eq_true hc;omega
   obtain⟨x,hx⟩:∃x,L[i]? =some x:=⟨_,List.getElem?_eq_getElem hlt⟩
   obtain⟨h1,h2⟩:=hok i x hx
   obtain⟨q3,hq3⟩:∃q,decide (x.node≠(i:Int))=q:=⟨_,rfl⟩
   obtain⟨q4,hq4⟩:∃q,fA T x=q:=⟨_,rfl⟩
   refine ak<|an<|ay<|aR<|ax 1 I<|bw (aJ ((i*3)) I) I<|bw (ju I (tS L i x hx) I) I<|ax 3 I<|aH [2,3,7,8,19,20,21] I ?_
   refine bP 35 (.raw (.bool (q3|| !q4))) [2,3,19,20,21] I ?_ ?_
   ·refine .a 1 I<|.v (aK I ((rfl:(gA x)[0]? =some (num x.node)))) I<|.a 1 I<|.v (cD I (hq3)) I<|.a 1 I<|?_
    cases q3
    ·exact .a 1 I<|.v (ju I ((rfl:(gA x).take 3=gA x)) I) I<|.c rfl (hq4▸rm T x) I<|.a 2 I<|.k [35,2,3,19,20,21] I
    ·exact .a 5 I<|.k [35,2,3,19,20,21] I
   refine aj I (fun hc=>?_) (fun hc=>?_)
   ·rw[←hq3,←hq4,h2,decide_eq_false (by rw[h1];simp)]at hc
    cases hc
   ·refine ak<|cJ [] (.c 2<|.c 3<|.c 19<|.c 20<|.c 21<|.nil) .nil rfl rfl ?_
    refine aF (.v (aU I) I<|.a 1 I<|.k [2,3,19,20,21] I) ?_
    exact⟨L.length - (i+1),by omega,i+1,by omega,rfl,rfl⟩
  ·have hie:i=L.length:=by have:=of_decide_eq_false hc;omega
   refine bp<|an<|af (.a 2 I<|.c rfl (hn▸dy T n) I<|.a 1 I<|.k [40] I)<|aj I (fun hc=>?_) (fun hc=>?_)
   ·cases hc
   ·exact ak<|af (.a 1 I<|.k [6] I)<|az<|⟨_,_,aE.of I,aD.pure,rfl⟩
open eX
theorem cM.to{P:Program}{σ σ' σ'':bN}{t:b9}{o:Oper}{p p':PV}(h:cM P σ t o p σ')(hp:p=p')(hs:σ'=σ''):cM P σ t o p' σ'':=by subst hp;subst hs;exact h
theorem II{P:Program}{σ:bN}{t:b9}{o:Oper}{x y:Operand}{ty tz:TypeId}{p:PV}{q:Bool}(ho:o.op= .binOp .neq ty x y tz)(hk:ph P ty=true)(hx:aA t x=some p)(hy:aA t y=some (.raw (.pointer none)))(h:(p= .raw (.pointer none)∧q=false)∨∃xs k,p= .bg xs k∧q=true):bh P σ t o (.raw (.bool q)):=by
 rcases h with⟨rfl,rfl⟩|⟨xs,k,rfl,rfl⟩
 ·exact HA ho hk hx hy
 ·exact HI ho hk hx hy
def HX:PV:=.func 66 [.ptr 5 0,.ptr 6 0,.ptr 3 0,.ptr 0 0,.ptr 1 0,.ptr 7 0]
def P8(T:ah)(tbs:List eN)(p1:gg)(j:Nat)(kv:List (List UInt8×PV))(rest:bN):bN:=
 some (.cells 25 (bI T))::some (.cells 40 [gN tbs])::some (.cells 57 (dU p1))::some (.cells 93 [.own (j+8)])::some (.mp (eA qi kv))::
 some (.cells 128 [.own 4])::some (.cells 4 [flag false])::some (.cells 129 [HX])::rest
abbrev eH(L:List PV):Option cK:=some (.row 92 1 L.length L)
structure iy (j:Nat) (rest rest':bN):Prop where
 len:rest.length≤rest'.length
 same:∀i,i<rest.length→i≠j→rest'[i]? =rest[i]?
theorem iy.trans{j j':Nat}{a b c:bN}(h:iy j a b)(k:iy j' b c)(hj:j'=j∨a.length≤j'):iy j a c:=
 ⟨Nat.le_trans h.len k.len,fun i h1 h2=>(k.same i (Nat.lt_of_lt_of_le h1 h.len) (by omega)).trans (h.same i h1 h2)⟩
section
variable {T:ah} {tb:Nat→eN} {p0:gg} {Φ:Nat→Nat→List cr→Prop}
def K4(T:ah)(tb:Nat→eN)(p0:gg)(Φ:Nat→Nat→List cr→Prop)(tbs:List eN)(p1:gg)(op:Gb)(j:Nat)(rest:bN)(n:Nat)(s:List cr)(r:PV)(σ':bN):Prop:=
 ∃c kv' L' j' rest',Good T tb p0 Φ r n s c∧σ'=P8 T tbs p1 j' kv' rest'∧rest'[j']? =some (eH L')∧iy j rest rest'∧(j'=j∨rest.length≤j')∧nt T tb p0 Φ op kv' L'
structure KH (T:ah) (tb:Nat→eN) (p0:gg) (Φ:Nat→Nat→List cr→Prop) (op:Gb) (j0:Nat) (rest0:bN) (n:Nat) (s:List cr) (kv:List (List UInt8×PV)) (L:List PV) (j jr:Nat) (rest:bN) (k:Nat) (vs:List PV) (cs:List Int):Prop where
 keep:iy j0 rest0 rest
 len:rest0.length+5≤rest.length
 x:rest[rest0.length+1]? =some (some (.cells 97 [num n,num (bT T tb p0 n s).jZ,aw (bT T tb p0 n s).av,.own (jr+8),flag true,num (iY (bT T tb p0 n s).av cs)]))
 nb:rest[rest0.length+3]? =some (some (.cells 57 (dU (bT T tb p0 n s).fe)))
 row:rest[jr]? =some (eH vs)
 al:rest[j]? =some (eH L)
 Lt:rest0.length+4≤jr
 j1:j=rest0.length+2∨rest0.length+5≤j
 ne:j≠jr
 ok:nt T tb p0 Φ ((rest0.length+1,n,s)::op) kv L
 lv:vs.length=k
 lc:cs.length=k
 ch:∀i,i<k→Good T tb p0 Φ (vs.getD i .any) (aB T ((bT T tb p0 n s).av.getD i 0).toNat).toNat (bT T tb p0 n s).fe.stack (cs.getD i 0)
instance (l:List cr):fJ (cN l):=by unfold cN;infer_instance
instance (p:gg):cZ (dU p):=by unfold dU;infer_instance
theorem Ks:qM Tryz.prog 128=some (9,92):=by kernel_rfl
theorem LR:Gc Tryz.prog 92=some (.pointer none):=by kernel_rfl
theorem Kh:gm Tryz.prog 9 qi:=Jj Tryz.underlying9
theorem fO{α:Type}{l:List α}{a:α}{i:Nat}(h:l.length=i):(l++[a])[i]? =some a:=by subst h;simp
theorem cn{α:Type}{l:List α}{a b:α}{i:Nat}(h:l[i]? =some b):(l++[a])[i]? =some b:=by
 rw[List.getElem?_append_left (List.getElem?_eq_some_iff.1 h).1];exact h
theorem aG{α:Type}{l:List α}{a:α}{b:Option α}{i j:Nat}(h:l[i]? =b)(hne:j≠i):(l.set j a)[i]? =b:=by
 rw[List.getElem?_set,if_neg hne];exact h
theorem bQ{α:Type}{l:List α}{a b:α}{i:Nat}(h:l[i]? =some b):(l.set i a)[i]? =some a:=by
 rw[List.getElem?_set,if_pos rfl,if_pos (List.getElem?_eq_some_iff.1 h).1]
theorem iy.refl(j:Nat)(a:bN):iy j a a:=⟨Nat.le_refl _,fun _ _ _=>rfl⟩
theorem iy.app{j:Nat}{a b:bN}(h:iy j a b)(x:Option cK):iy j a (b++[x]):=
 ⟨by rw[List.length_append];have:=h.len;omega,fun i h1 h2=>by rw[List.getElem?_append_left (Nat.lt_of_lt_of_le h1 h.len)];exact h.same i h1 h2⟩
theorem iy.put{j:Nat}{a b:bN}(h:iy j a b){k:Nat}(hk:k=j∨a.length≤k)(x:Option cK):iy j a (b.set k x):=
 ⟨by rw[List.length_set];exact h.len,fun i h1 h2=>by rw[List.getElem?_set,if_neg (by omega)];exact h.same i h1 h2⟩
theorem uR{tbs:List eN}{p1:gg}{j i:Nat}{blk:cK}{kv kv':List (List UInt8×PV)}{rest rest':bN}(hl:rest'.length=rest.length)(h0:rest'[i]? =some none)
  (h:∀k,k≠i→(rest'[k]? =rest[k]? ∨∃b b',rest[k]? =some (some b)∧rest'[k]? =some (some b')∧vh (i+8) blk b b')) (hk:kv'.map (·.1)=kv.map (·.1)) (hf:kU (i+8) blk (kv.map (·.2)) (kv'.map (·.2))):
  Cz (i+8) blk (P8 T tbs p1 j kv rest) (P8 T tbs p1 j kv' rest'):=by
 refine⟨by simp[P8,hl],h0,fun m hm=>?_⟩
 match m,hm with
 |0,_=>exact .inl rfl
 |1,_=>exact .inl rfl
 |2,_=>exact .inl rfl
 |3,_=>exact .inl rfl
 |4,_=>
  refine .inr ⟨_,_,rfl,rfl,.mp ?_ ?_⟩
  ·have:∀l:List (List UInt8×PV),(eA qi l).map (·.1)=(l.map (·.1)).map qi:=fun l=>by simp[eA]
   rw[this,this,hk]
  ·have:∀l:List (List UInt8×PV),(eA qi l).map (·.2)=l.map (·.2):=fun l=>by simp[eA]
   rw[this,this]
   exact hf
 |5,_=>exact .inl rfl
 |6,_=>exact .inl rfl
 |7,_=>exact .inl rfl
 |k+8,hm=>exact h k (by omega)
theorem KH.fe(R:nU T tb p0 Φ){u n:Nat}{s:List cr}(h:Φ u n s)(hne:(bT T tb p0 n s).av≠[]):gL (bT T tb p0 n s).fe (bT T tb p0 n s).fe.stack=gL p0 (bT T tb p0 n s).fe.stack:=by
 rcases R.step h with h|⟨_,h,_⟩
 ·exact absurd h hne
 ·generalize bT T tb p0 n s=O at*
  obtain⟨av,fe,jZ⟩:=O
  simp only at h ⊢
  unfold gV at h
  injection h with _ h2 _
  rw[h2]
  rfl
set_option maxHeartbeats 4000000 in
theorem Cf(R:nU T tb p0 Φ)(hv:au T=true)(h12:T.nodes≤12){U:List (Nat×List cr)}(hU:∀ {u n s},Φ u n s→(n,s)∈U)(hUl:U.length≤1000000)(tbs:List eN)(htb:∀n:Nat,(n:Int)<T.nodes→tbs[n]? =some (tb n))(p1:gg):
  ∀(u n:Nat) (p:gg),Φ u n p.stack→gL p p.stack=gL p0 p.stack→∀(op:Gb) (kv:List (List UInt8×PV)) (L:List PV) (j:Nat) (rest:bN),rest[j]? =some (eH L)→nt T tb p0 Φ op kv L→(∀x∈op,G5 T tb p0 x.2.1 x.2.2 n p.stack)→
   aW Tryz.prog 66 [num n,fc p,.ptr 5 0,.ptr 6 0,.ptr 3 0,.ptr 0 0,.ptr 1 0,.ptr 7 0] (P8 T tbs p1 j kv rest) (K4 T tb p0 Φ tbs p1 op j rest n p.stack):=by
 intro u
 induction u using Nat.strongRecOn with
 |_ u ih=>
 intro n p hΦ hp op kv L j rest hj hok hop
 have hnn:=R.node hΦ
 obtain⟨hsm,hsl⟩:=R.small hΦ
 obtain⟨pv,hpv⟩:∃pv,(cV (dQ n p.stack) kv).getD (.raw (.pointer none))=pv:=⟨_,rfl⟩
 obtain⟨q,hq1,hq2,hq3⟩:∃q,((pv= .raw (.pointer none)∧q=false)∨∃xs k,pv= .bg xs k∧q=true)∧(q=false→cV (dQ n p.stack) kv=none)∧(q=true→∃vs c,pv= .bg (dq n (bT T tb p0 n p.stack) vs c) 0∧Good T tb p0 Φ pv n p.stack c):=by
  cases hl:cV (dQ n p.stack) kv with
  |none=>exact⟨false,.inl ⟨by rw[←hpv,hl];rfl,rfl⟩,fun _=>rfl,fun h=>(by cases h)⟩
  |some v=>
   obtain⟨c,hg⟩:=hok.Kf R h12 hΦ hop hl
   have hvv:pv=v:=by rw[←hpv,hl];rfl
   obtain⟨vs,cs,e1,_⟩:=hg.parts
   exact⟨true,.inr ⟨_,_,hvv.trans e1,rfl⟩,fun h=>(by cases h),fun _=>⟨vs,c,hvv.trans e1,hvv▸hg⟩⟩
 have hjl:=(List.getElem?_eq_some_iff.1 hj).1
 refine bO Tryz.func66 I Tryz.ntmps66 I<|aR<|cg (cM.to (eV I I I) (p':=.ptr (rest.length+8) 0) (σ'':=P8 T tbs p1 j kv (rest++[some (.cells 57 (dU p))])) I I) I<|ax 1 I<|aH [0,2,3,4,5,6,7,9] I ?_
 obtain⟨r1,hr1⟩:∃r1,rest++[some (.cells 57 (dU p))]=r1:=⟨_,rfl⟩
 have l1:r1.length=rest.length+1:=by rw[←hr1];simp
 have k1:iy j rest r1:=hr1▸(iy.refl j rest).app _
 have b1:r1[rest.length]? =some (some (.cells 57 (dU p))):=hr1▸fO rfl
 have j1:r1[j]? =some (eH L):=hr1▸cn hj
 rw[hr1]
 refine af (.a 2 I<|.v (dc I (bG.tk.get I) I b1 rfl) I<|.c rfl (DV n p.stack (by omega) hsm hsl) I<|.a 1 I<|.k [0,2,3,4,5,6,7,9,11] I)<|an<|af (.a 2 I<|.v (o3 Kh rfl Ks LR rfl rfl rfl (jS _) hpv) I<|.a 1 I<|.k [0,2,3,4,5,6,7,9,11,12] I)<|af (.a 1 I<|.v (II I (bG.pk.get I) I I hq1) I<|.k [0,2,3,4,5,6,7,9,11,12,26] I)<|aj I (fun hc=>?_) (fun hc=>?_)
 ·obtain⟨vs0,c0,e0,hg0⟩:=hq3 hc
  subst e0
  refine aR<|ax 7 I<|ba (cM.to (cm I (bG.tk.get I) I I I (Nat.le_of_ble_eq_true rfl)) (σ'':=P8 T tbs p1 j kv r1) I I) I I<|aH [12] I ?_
  exact af (.a 2 I<|.k [10] I)<|az<|⟨_,aE.of I,c0,kv,L,j,r1,hg0,rfl,j1,k1,.inl rfl,hok⟩
 ·have hno:=tG (hq2 hc)
  have hno2:=nQ (p:=PV.ptr (rest.length+1+8) 0) (hq2 hc)
  refine ak<|aR<|ax 2 I<|cg (cM.to (eV I I I) (p':=.ptr (rest.length+1+8) 0) (σ'':=P8 T tbs p1 j kv (r1++[some (.cells 97 [num n,num 0,.raw (.slice none 0 0),.raw (.slice none 0 0),flag true,num 0])])) (by rw[←l1];rfl) I) I<|ax 1 I<|aH [0,2,3,4,5,6,7,9,11,13] I ?_
  obtain⟨r2,hr2⟩:∃r2,r1++[some (.cells 97 [num n,num 0,.raw (.slice none 0 0),.raw (.slice none 0 0),flag true,num 0])]=r2:=⟨_,rfl⟩
  have l2:r2.length=rest.length+2:=by rw[←hr2];simp[l1]
  have k2:iy j rest r2:=hr2▸k1.app _
  have b2:r2[rest.length]? =some (some (.cells 57 (dU p))):=hr2▸cn b1
  have x2:r2[rest.length+1]? =some (some (.cells 97 [num n,num 0,.raw (.slice none 0 0),.raw (.slice none 0 0),flag true,num 0])):=hr2▸fO l1
  have j2:r2[j]? =some (eH L):=hr2▸cn j1
  rw[hr2]
  refine aR<|ax 3 I<|ba (cM.to (lF Kh rfl Ks rfl rfl rfl (jS _) I) (σ'':=P8 T tbs p1 j (kv++[(dQ n p.stack,PV.ptr (rest.length+1+8) 0)]) r2) I (by rw[←hno2];rfl)) I I<|aH [0,3,4,5,6,7,9,13] I ?_
  have hfew:=hok.Lu R h12 hU
  have hlen:=hok.len
  refine aR<|ax 3 I<|cg (cM.to (σ:=P8 T tbs p1 j (kv++[(dQ n p.stack,PV.ptr (rest.length+1+8) 0)]) r2) (bC (m:=1) (n:=L.length) (xs:=L) I (bG.rk.get I) I j2 rfl rfl ⟨by unfold maxLen;omega,by omega⟩) (p':=.own (rest.length+2+8)) (σ'':=P8 T tbs p1 j (kv++[(dQ n p.stack,PV.ptr (rest.length+1+8) 0)]) (r2.set j none++[eH (L++[PV.ptr (rest.length+1+8) 0])])) (by rw[←l2];rfl) (by unfold eH;rw[List.length_append];rfl)) I<|ba (cM.to (cm I (bG.tk.get I) I I I (Nat.le_of_ble_eq_true rfl)) (σ'':=P8 T tbs p1 (rest.length+2) (kv++[(dQ n p.stack,PV.ptr (rest.length+1+8) 0)]) (r2.set j none++[eH (L++[PV.ptr (rest.length+1+8) 0])])) I I) I I<|aH [0,3,5,6,7,9,13] I ?_
  obtain⟨r3,hr3⟩:∃r3,r2.set j none++[eH (L++[PV.ptr (rest.length+1+8) 0])]=r3:=⟨_,rfl⟩
  have l3:r3.length=rest.length+3:=by rw[←hr3];simp[l2]
  have k3:iy j rest r3:=hr3▸(k2.put (.inl rfl) _).app _
  have b3:r3[rest.length]? =some (some (.cells 57 (dU p))):=hr3▸cn (aG b2 (by omega))
  have x3:r3[rest.length+1]? =some (some (.cells 97 [num n,num 0,.raw (.slice none 0 0),.raw (.slice none 0 0),flag true,num 0])):=hr3▸cn (aG x2 (by omega))
  have j3:r3[rest.length+2]? =some (eH (L++[PV.ptr (rest.length+1+8) 0])):=hr3▸fO (by simp[l2])
  rw[hr3]
  have hok3:=hok.push (i:=rest.length+1) hΦ hno
  obtain⟨kv3,hkv3⟩:∃k,kv++[(dQ n p.stack,PV.ptr (rest.length+1+8) 0)]=k:=⟨_,rfl⟩
  obtain⟨L3,hL3⟩:∃k,L++[PV.ptr (rest.length+1+8) 0]=k:=⟨_,rfl⟩
  rw[hkv3,hL3]at hok3
  rw[hL3]at j3
  rw[hkv3]
  refine aR<|ax 1 I<|ba (cM.to (σ:=P8 T tbs p1 (rest.length+2) kv3 r3) (cm I (bG.tk.get I) I I b3 (Nat.le_of_ble_eq_true rfl)) (σ'':=P8 T tbs p1 (rest.length+2) kv3 (r3.set rest.length (some (.cells 57 (dU (gL p p.stack)))))) I I) I I<|aH [0,3,5,6,7,9,13] I ?_
  obtain⟨r4,hr4⟩:∃r4,r3.set rest.length (some (.cells 57 (dU (gL p p.stack))))=r4:=⟨_,rfl⟩
  have l4:r4.length=rest.length+3:=by rw[←hr4];simp[l3]
  have k4:iy j rest r4:=hr4▸k3.put (.inr (Nat.le_refl _)) _
  have b4:r4[rest.length]? =some (some (.cells 57 (dU (gL p p.stack)))):=hr4▸bQ b3
  have x4:r4[rest.length+1]? =some (some (.cells 97 [num n,num 0,.raw (.slice none 0 0),.raw (.slice none 0 0),flag true,num 0])):=hr4▸aG x3 (by omega)
  have j4:r4[rest.length+2]? =some (eH L3):=hr4▸aG j3 (by omega)
  rw[hr4]
  refine aR<|cg (cM.to (qx I (bG.zk.get I)) (p':=.ptr (rest.length+3+8) 0) (σ'':=P8 T tbs p1 (rest.length+2) kv3 (r4++[some (.cells 57 [num 0,num 0,num 0,num 0,.raw (.slice none 0 0),num 0])])) (by rw[←l4];rfl) I) I<|aH [0,3,5,6,7,9,13,14] I ?_
  obtain⟨r5,hr5⟩:∃r5,r4++[some (.cells 57 [num 0,num 0,num 0,num 0,.raw (.slice none 0 0),num 0])]=r5:=⟨_,rfl⟩
  have l5:r5.length=rest.length+4:=by rw[←hr5];simp[l4]
  have k5:iy j rest r5:=hr5▸k4.app _
  have b5:r5[rest.length]? =some (some (.cells 57 (dU (gL p p.stack)))):=hr5▸cn b4
  have x5:r5[rest.length+1]? =some (some (.cells 97 [num n,num 0,.raw (.slice none 0 0),.raw (.slice none 0 0),flag true,num 0])):=hr5▸cn x4
  have j5:r5[rest.length+2]? =some (eH L3):=hr5▸cn j4
  have n5:r5[rest.length+3]? =some (some (.cells 57 [num 0,num 0,num 0,num 0,.raw (.slice none 0 0),num 0])):=hr5▸fO l4
  rw[hr5]
  have hO:gG T (tb n) (gL p p.stack)=bT T tb p0 n p.stack:=by rw[hp];rfl
  have hbr:=R.step hΦ
  have hpk:=fun h=>KH.fe R hΦ h
  obtain⟨O,hOO⟩:∃O,bT T tb p0 n p.stack=O:=⟨_,rfl⟩
  rw[hOO]at hO hbr hpk
  have htn:=htb n hnn
  have htl:=(List.getElem?_eq_some_iff.1 htn).1
  have hal:O.av.length≤1000:=by
   rcases hbr with h|⟨h,_⟩
   ·rw[h];simp
   ·exact h
  refine Jg 20 3 (P8 T tbs p1 (rest.length+2) kv3 r5::P8 T tbs p1 (rest.length+2) kv3 (r5.set (rest.length+1) (some (.cells 97 [num n,num 0,aw O.av,.raw (.slice none 0 0),flag true,num 0])))::P8 T tbs p1 (rest.length+2) kv3 ((r5.set (rest.length+1) (some (.cells 97 [num n,num 0,aw O.av,.raw (.slice none 0 0),flag true,num 0]))).set (rest.length+3) (some (.cells 57 (dU O.fe))))::P8 T tbs p1 (rest.length+2) kv3 (((r5.set (rest.length+1) (some (.cells 97 [num n,num 0,aw O.av,.raw (.slice none 0 0),flag true,num 0]))).set (rest.length+3) (some (.cells 57 (dU O.fe)))).set (rest.length+1) (some (.cells 97 [num n,num O.jZ,aw O.av,.raw (.slice none 0 0),flag true,num 0])))::[]) (⟨_,none,0,0⟩::⟨_,none,0,2⟩::⟨aZ T,none,0,0⟩::⟨_,none,0,0⟩::⟨_,none,0,0⟩::⟨_,none,0,0⟩::⟨qk (tb n),none,0,0⟩::⟨fc (gL p p.stack),none,0,0⟩::⟨A9 O,none,0,0⟩::⟨A9 O,none,0,0⟩::⟨aw O.av,none,0,0⟩::⟨fc O.fe,none,0,1⟩::⟨num O.jZ,none,0,2⟩::⟨_,none,0,0⟩::⟨_,none,0,0⟩::⟨_,some 0,0,0⟩::⟨_,some 1,0,0⟩::⟨_,none,2,2⟩::⟨_,none,2,2⟩::⟨_,some 2,0,0⟩::[]) _ mixed ?grd5 rfl rfl rfl rfl (.cons (.val [13] I I (yz (cC (bn I) ez)) I I)<|.cons (.val [13] I I (yz (cC (bn I) (cC (bn I) (cC (bn I) ez)))) I I)<|.cons (.val [5] I I (yz (cC (bn I) ez)) I I)<|.cons (.val [6] I I (yz (cC (bn I) ez)) I I)<|.cons (.val [0] I I (yz (cC (bn I) ez)) I I)<|.cons (.val [50,51] I I (yz (cC (aJ ((n*3)) I) ez)) I I)<|.cons (.val [52] I I (yz (cC (ju I (tS tbs n (tb n) htn) I) ez)) I I)<|.cons (.val [9] I I (yz (cC (kN (σ:=P8 T tbs p1 (rest.length+2) kv3 r5) (blk:=.cells 57 (dU (gL p p.stack))) I (bG.tk.get I) I b5 rfl) ez)) I I)<|.cons (.val [49,53,54] I I (yz (cC (eW I (hO▸DA T (tb n) (gL p p.stack) hsl)) ez)) I I)<|.cons (.val [55] I I (yz (cC (bn I) ez)) I I)<|.cons (.val [46] I I (yz (cC (bn I) ez)) I I)<|.cons (.val [46] I I (yz (cC (bn I) (cC (bn I) ez))) I I)<|.cons (.val [46] I I (yz (cC (bn I) (cC (bn I) (cC (bn I) ez)))) I I)<|.cons (.val [47] I I (yz (cC (bn I) ez)) I I)<|.cons (.val [59] I I (yz (cC (bn I) ez)) I I)<|.cons (.jM [56,60] I I I I (cM.to (σ:=P8 T tbs p1 (rest.length+2) kv3 r5) (σ'':=P8 T tbs p1 (rest.length+2) kv3 (r5.set (rest.length+1) (some (.cells 97 [num n,num 0,aw O.av,.raw (.slice none 0 0),flag true,num 0])))) (cm I (bG.tk.get I) I I x5 (Nat.le_of_ble_eq_true rfl)) I I) I)<|.cons (.jM [14,57] I I I I (cM.to (σ:=P8 T tbs p1 (rest.length+2) kv3 (r5.set (rest.length+1) (some (.cells 97 [num n,num 0,aw O.av,.raw (.slice none 0 0),flag true,num 0])))) (σ'':=P8 T tbs p1 (rest.length+2) kv3 ((r5.set (rest.length+1) (some (.cells 97 [num n,num 0,aw O.av,.raw (.slice none 0 0),flag true,num 0]))).set (rest.length+3) (some (.cells 57 (dU O.fe))))) (uF (ys:=dU O.fe) I (bG.tk.get I) I I I I (aG n5 (by omega)) (Nat.le_of_ble_eq_true rfl)) I I) I)<|.cons (.val [48] I I (yz (cC (bn I) ez)) I I)<|.cons (.val [61] I I (yz (cC (bn I) ez)) I I)<|.cons (.jM [58,62] I I I I (cM.to (σ:=P8 T tbs p1 (rest.length+2) kv3 ((r5.set (rest.length+1) (some (.cells 97 [num n,num 0,aw O.av,.raw (.slice none 0 0),flag true,num 0]))).set (rest.length+3) (some (.cells 57 (dU O.fe))))) (σ'':=P8 T tbs p1 (rest.length+2) kv3 (((r5.set (rest.length+1) (some (.cells 97 [num n,num 0,aw O.av,.raw (.slice none 0 0),flag true,num 0]))).set (rest.length+3) (some (.cells 57 (dU O.fe)))).set (rest.length+1) (some (.cells 97 [num n,num O.jZ,aw O.av,.raw (.slice none 0 0),flag true,num 0])))) (cm I (bG.tk.get I) I I (aG (bQ x5) (by omega)) (Nat.le_of_ble_eq_true rfl)) I I) I) .nil) (bm (ks:=[3,5,7,13,14]) I) ?_
  case grd5=>kernel_rfl
  obtain⟨r6,hr6⟩:∃r6,((r5.set (rest.length+1) (some (.cells 97 [num n,num 0,aw O.av,.raw (.slice none 0 0),flag true,num 0]))).set (rest.length+3) (some (.cells 57 (dU O.fe)))).set (rest.length+1) (some (.cells 97 [num n,num O.jZ,aw O.av,.raw (.slice none 0 0),flag true,num 0]))=r6:=⟨_,rfl⟩
  have l6:r6.length=rest.length+4:=by rw[←hr6];simp[l5]
  have k6:iy j rest r6:=hr6▸((k5.put (.inr (by omega)) _).put (.inr (by omega)) _).put (.inr (by omega)) _
  have x6:r6[rest.length+1]? =some (some (.cells 97 [num n,num O.jZ,aw O.av,.raw (.slice none 0 0),flag true,num 0])):=hr6▸bQ (aG (bQ x5) (by omega))
  have j6:r6[rest.length+2]? =some (eH L3):=hr6▸aG (aG (aG j5 (by omega)) (by omega)) (by omega)
  have n6:r6[rest.length+3]? =some (some (.cells 57 (dU O.fe))):=hr6▸aG (bQ (aG n5 (by omega))) (by omega)
  rw[hr6]
  refine an<|af (.a 3 I<|.v (dc I (bG.tk.get I) I x6 rfl) I<|.a 2 I<|.k [3,5,7,13,14,68] I)<|aj I (fun hc=>?_) (fun hc=>?_)
  ·have harc:O.av=[]:=List.eq_nil_of_length_eq_zero (by have:=tt hc;omega)
   refine bx<|ax 3 I<|ba (cM.to (σ:=P8 T tbs p1 (rest.length+2) kv3 r6) (cm I (bG.tk.get I) I I x6 (Nat.le_of_ble_eq_true rfl)) (σ'':=P8 T tbs p1 (rest.length+2) kv3 (r6.set (rest.length+1) (some (.cells 97 [num n,num O.jZ,aw O.av,.raw (.slice none 0 0),flag true,num 1])))) I I) I I<|aH [3,5,7,13,14] I ?_
   obtain⟨r7,hr7⟩:∃r7,r6.set (rest.length+1) (some (.cells 97 [num n,num O.jZ,aw O.av,.raw (.slice none 0 0),flag true,num 1]))=r7:=⟨_,rfl⟩
   have x7:r7[rest.length+1]? =some (some (.cells 97 [num n,num O.jZ,aw O.av,.raw (.slice none 0 0),flag true,num (iY O.av [])])):=by
    rw[←hr7,bQ x6];unfold iY;rw[if_pos harc]
   replace l6:r7.length=rest.length+4:=by rw[←hr7];simp[l6]
   replace k6:iy j rest r7:=hr7▸k6.put (.inr (by omega)) _
   replace j6:r7[rest.length+2]? =some (eH L3):=hr7▸aG j6 (by omega)
   replace n6:r7[rest.length+3]? =some (some (.cells 57 (dU O.fe))):=hr7▸aG n6 (by omega)
   rw[hr7]
   refine an<|af (.a 3 I<|.v (dc I (bG.tk.get I) I x7 rfl) I<|.a 2 I<|.k [3,5,7,13,14,75,76,77] I)<|ay<|eY [3,5,7,13,14,75,76,77] I<|cB (rest.length+1+8) 3 92 1 x7 rfl ?_
   have hz:(P8 T tbs p1 (rest.length+2) kv3 r7).length=rest.length+4+8:=by rw[←l6];rfl
   rw[hz]
   refine dF (σ':=P8 T tbs p1 (rest.length+2) kv3 ((r7++[eH []]).set (rest.length+1) (some (.cells 97 [num n,num O.jZ,aw O.av,.own (rest.length+4+8),flag true,num (iY O.av [])])))) I ?_
   refine br (fun r st=>∃(k:Nat) (kv':List (List UInt8×PV)) (L':List PV) (j' jr:Nat) (rest':bN) (vs:List PV) (cs:List Int),k≤O.av.length∧r=O.av.length - k∧KH T tb p0 Φ op j rest n p.stack kv' L' j' jr rest' k vs cs∧st=⟨[(3,.ptr 6 0),(5,.ptr 0 0),(7,.ptr 7 0),(13,.ptr (rest.length+1+8) 0),(14,.ptr (rest.length+3+8) 0),(75,aw O.av),(76,num O.av.length),(77,num k)],P8 T tbs p1 j' kv' rest'⟩) O.av.length ⟨0,kv3,L3,rest.length+2,rest.length+4,_,[],[],Nat.zero_le _,rfl,⟨(k6.app _).put (.inr (by omega)) _,by simp[l6],by rw[hOO];exact bQ (cn x7),by rw[hOO];exact aG (cn n6) (by omega),aG (fO l6) (by omega),aG (cn j6) (by omega),by omega,.inl rfl,by omega,hok3,rfl,rfl,fun i hi=>absurd hi (Nat.not_lt_zero i)⟩,rfl⟩ ?_
   rintro r st ⟨k,kv',L',j',jr,rest',vs,cs,hk,rfl,V,rfl⟩
   have vx:=V.x
   have vn:=V.nb
   have vr:=V.row
   have va:=V.al
   have vlen:=V.len
   have vj:=V.j1
   have vjr:=V.Lt
   have vne:=V.ne
   have vrl:=(List.getElem?_eq_some_iff.1 vr).1
   rw[hOO]at vx vn
   refine af (.a 1 I<|.k [3,5,7,13,14,75,76,77,78] I)<|an<|aj I (fun hc=>?_) (fun hc=>?_)
   ·have hlt:k<O.av.length:=by have:=tt hc;omega
    have hne:O.av≠[]:=fun h=>by rw[h]at hlt;simp at hlt
    have hst:∀a∈O.av,∃b m:Nat,a=(b:Int)∧b<2*T.ae.length∧aB T b=(m:Int)∧∃u',u'<u∧Φ u' m O.fe.stack:=by
     rcases hbr with h|⟨_,_,h⟩
     ·exact absurd h hne
     ·exact h
    have hmem:O.av.getD k 0∈O.av:=cf hlt
    obtain⟨b,m,hab,hb,hm,u',hu',hΦ'⟩:=hst _ hmem
    have hop':∀x∈(rest.length+1,n,p.stack)::op,G5 T tb p0 x.2.1 x.2.2 m O.fe.stack:=fun x hx=>by
     have ha:O.av.getD k 0∈(bT T tb p0 n p.stack).av:=by rw[hOO];exact hmem
     have hm':aB T (O.av.getD k 0).toNat=(m:Int):=by rw[hab,Int.toNat_natCast];exact hm
     rw[←hOO]
     rcases List.mem_cons.1 hx with rfl|hx
     ·exact .one ha hm'
     ·exact .more (hop x hx) ha hm'
    have hll:=bX hv
    refine ak<|an<|ay<|af (.v (aJ (k) I) I<|.v (aK I ((aC _ k hlt).trans (by rw[hab]))) I<|.a 1 I<|.k [3,5,7,13,14,16,75,76,77] I)<|an<|af (.a 1 I<|.k [3,5,7,13,14,16,75,76,77,81] I)<|aj I (fun hc=>?_) (fun hc=>?_)
    ·cases hc
    ·refine ak<|Ib 5 20 [82,83,84,85,86] mixed (by kernel_rfl) (by kernel_rfl) (by kernel_rfl) I (.a 3 I<|.v [83,84] (eW I ((show Can Tryz.prog 37 [aZ T,num b] (· =num m) by have h:=ed T b hb (by omega);rw[hm]at h;exact h))) I I<|.v [14] (kN (σ:=P8 T tbs p1 j' kv' rest') (blk:=.cells 57 (dU O.fe)) I (bG.tk.get I) I vn rfl) I I<|.k [3,5,7,13,14,75,76,77,82,85,86] I) ?_
     refine b7 I I (aW.mono (ih u' hu' m O.fe hΦ' (hpk hne) ((rest.length+1,n,p.stack)::op) kv' L' j' rest' va V.ok hop') (fun y σ' h=>?_))
     obtain⟨c,kv4,L4,j4',r8,hg,rfl,a8,k8,hj8,hok8⟩:=h
     refine ax 1 I<|aH [3,5,7,13,14,17,75,76,77] I ?_
     obtain⟨vs1,cs1,hgv,_,_,_,_⟩:=hg.parts
     subst hgv
     have l8:=k8.len
     have x8:r8[rest.length+1]? =some (some (.cells 97 [num n,num O.jZ,aw O.av,.own (jr+8),flag true,num (iY O.av cs)])):=(k8.same _ (by omega) (by omega)).trans vx
     have n8:r8[rest.length+3]? =some (some (.cells 57 (dU O.fe))):=(k8.same _ (by omega) (by omega)).trans vn
     have w8:r8[jr]? =some (eH vs):=(k8.same _ vrl (by omega)).trans vr
     have kk8:iy j rest r8:=V.keep.trans k8 (by omega)
     have hgb:=hg.bound
     have hlv:=V.lv
     have hlc:=V.lc
     have e8:j4'≠jr:=by omega
     have x8b:(r8.set jr none++[eH (vs++[PV.bg (dq m (bT T tb p0 m O.fe.stack) vs1 c) 0])])[rest.length+1]? =some (some (.cells 97 [num n,num O.jZ,aw O.av,.own (jr+8),flag true,num (iY O.av cs)])):=cn (aG x8 (by omega))
     refine aR<|ax 4 I ?_
     refine bw (dc I (bG.tk.get I) I x8 rfl) I ?_
     refine ax 1 I ?_
     refine bw (aS (xs:=[PV.bg (dq m (bT T tb p0 m O.fe.stack) vs1 c) 0]) I (bG.sl.get I) ⟨Nat.le_of_ble_eq_true rfl,Nat.le_of_ble_eq_true rfl⟩ rfl rfl) I ?_
     refine cg (cM.to (σ:=P8 T tbs p1 j4' kv4 r8) (bC (e:=92) (s:=1) (by':=8) (i:=jr+8) (m:=1) (n:=vs.length) (xs:=vs) (ys:=[PV.bg (dq m (bT T tb p0 m O.fe.stack) vs1 c) 0]) I (bG.rk.get I) I w8 rfl rfl ⟨by unfold maxLen;omega,by omega⟩) (p':=.own (r8.length+8)) (σ'':=P8 T tbs p1 j4' kv4 (r8.set jr none++[eH (vs++[PV.bg (dq m (bT T tb p0 m O.fe.stack) vs1 c) 0])])) I (by unfold eH;rw[List.length_append];rfl)) I ?_
     refine ax 2 I ?_
     refine ba (cM.to (σ:=P8 T tbs p1 j4' kv4 (r8.set jr none++[eH (vs++[PV.bg (dq m (bT T tb p0 m O.fe.stack) vs1 c) 0])])) (cm I (bG.tk.get I) I I x8b (Nat.le_of_ble_eq_true rfl)) (σ'':=P8 T tbs p1 j4' kv4 ((r8.set jr none++[eH (vs++[PV.bg (dq m (bT T tb p0 m O.fe.stack) vs1 c) 0])]).set (rest.length+1) (some (.cells 97 [num n,num O.jZ,aw O.av,.own (r8.length+8),flag true,num (iY O.av cs)])))) I I) I I ?_
     refine aH [3,5,7,13,14,17,75,76,77] I ?_
     obtain⟨r9,hr9⟩:∃r9,(r8.set jr none++[eH (vs++[PV.bg (dq m (bT T tb p0 m O.fe.stack) vs1 c) 0])]).set (rest.length+1) (some (.cells 97 [num n,num O.jZ,aw O.av,.own (r8.length+8),flag true,num (iY O.av cs)]))=r9:=⟨_,rfl⟩
     have l9:r9.length=r8.length+1:=by rw[←hr9];simp
     have kk9:iy j rest r9:=hr9▸((kk8.put (.inr (by omega)) _).app _).put (.inr (by omega)) _
     have x9:r9[rest.length+1]? =some (some (.cells 97 [num n,num O.jZ,aw O.av,.own (r8.length+8),flag true,num (iY O.av cs)])):=hr9▸bQ x8b
     have n9:r9[rest.length+3]? =some (some (.cells 57 (dU O.fe))):=hr9▸aG (cn (aG n8 (by omega))) (by omega)
     have w9:r9[r8.length]? =some (eH (vs++[PV.bg (dq m (bT T tb p0 m O.fe.stack) vs1 c) 0])):=hr9▸aG (fO (by simp)) (by omega)
     have a9:r9[j4']? =some (eH L4):=hr9▸aG (cn (aG a8 (by omega))) (by omega)
     rw[hr9]
     have hcb:0≤iY O.av cs∧iY O.av cs≤1001:=by
      unfold iY
      rw[if_neg hne]
      refine mj cs 0 (by omega) (by omega) fun z hz=>?_
      obtain⟨i,hi⟩:=List.getElem?_of_mem hz
      have hil:=(List.getElem?_eq_some_iff.1 hi).1
      have:=(V.ch i (by omega)).bound.1
      rwa [List.getD_eq_getElem?_getD,hi]at this
     have hbs:iY O.av (cs++[c])=min (iY O.av cs+c) 1001:=by unfold iY;rw[if_neg hne,if_neg hne,rR]
     refine dR 13 20 mixed (
      .val [13] I (bn I) I I<|
      .val [13] I (bn I) I I<|
      .val [99] I (bn I) I I<|
      .val [100] I (bn I) I I<|
      .val [101] I (dc I (bG.tk.get I) I x9 rfl) I I<|
      .val [17] I (bn I) I I<|
      .val [103] I (bn I) I I<|
      .val [104] I (bn I) I I<|
      .val [105] I (aK I (rfl)) I I<|
      .val [102,106] I (aU I) I I<|
      .val [107] I (AI I I I (hbs.symm)) I I<|
      .val [98] I (bn I) I I<|
      .val [109] I (bn I) I I<|
      .nil) (by kernel_rfl) I I (bm (ks:=[3,5,7,13,14,75,76,77,108,110]) I) ?_
     refine ba (cM.to (σ:=P8 T tbs p1 j4' kv4 r9) (cm I (bG.tk.get I) I I x9 (Nat.le_of_ble_eq_true rfl)) (σ'':=P8 T tbs p1 j4' kv4 (r9.set (rest.length+1) (some (.cells 97 [num n,num O.jZ,aw O.av,.own (r8.length+8),flag true,num (iY O.av (cs++[c]))])))) I I) I I<|aH [3,5,7,13,14,75,76,77] I ?_
     refine aF (.v (aU I) I<|.a 1 I<|.k [3,5,7,13,14,75,76,77] I) ?_
     refine⟨O.av.length - (k+1),by omega,k+1,kv4,L4,j4',r8.length,_,vs++[PV.bg (dq m (bT T tb p0 m O.fe.stack) vs1 c) 0],cs++[c],by omega,rfl,⟨kk9.put (.inr (by omega)) _,by simp[l9];omega,by rw[hOO];exact bQ x9,by rw[hOO];exact aG n9 (by omega),aG w9 (by omega),aG a9 (by omega),by omega,by omega,?_,hok8,by simp[hlv],by simp[hlc],fun i hi=>?_⟩,rfl⟩
     ·have:=(List.getElem?_eq_some_iff.1 a8).1;omega
     ·by_cases hik:i<k
      ·have h1:(vs++[PV.bg (dq m (bT T tb p0 m O.fe.stack) vs1 c) 0]).getD i .any=vs.getD i .any:=by rw[List.getD_eq_getElem?_getD,List.getD_eq_getElem?_getD,List.getElem?_append_left (by omega)]
       have h2:(cs++[c]).getD i 0=cs.getD i 0:=by rw[List.getD_eq_getElem?_getD,List.getD_eq_getElem?_getD,List.getElem?_append_left (by omega)]
       rw[h1,h2]
       exact V.ch i hik
      ·obtain rfl:i=k:=by omega
       have h1:(vs++[PV.bg (dq m (bT T tb p0 m O.fe.stack) vs1 c) 0]).getD i .any=PV.bg (dq m (bT T tb p0 m O.fe.stack) vs1 c) 0:=by rw[List.getD_eq_getElem?_getD,fO hlv];rfl
       have h2:(cs++[c]).getD i 0=c:=by rw[List.getD_eq_getElem?_getD,fO hlc];rfl
       rw[h1,h2,hOO,hab,Int.toNat_natCast,hm,Int.toNat_natCast]
       exact hg
   ·have hke:k=O.av.length:=by have:=ff hc;omega
    refine bp<|aR<|ax 3 I<|ba (cM.to (σ:=P8 T tbs p1 j' kv' rest') (cm I (bG.tk.get I) I I vx (Nat.le_of_ble_eq_true rfl)) (σ'':=P8 T tbs p1 j' kv' (rest'.set (rest.length+1) (some (.cells 97 [num n,num O.jZ,aw O.av,.own (jr+8),flag false,num (iY O.av cs)])))) I I) I I<|aH [13] I ?_
    subst hke
    have hlv:=V.lv
    have hlc:=V.lc
    have hgood:Good T tb p0 Φ (.bg (dq n O vs (iY O.av cs)) 0) n p.stack (iY O.av cs):=by
     have:=Good.mk (T:=T) (tb:=tb) (p0:=p0) (Φ:=Φ) (vs:=vs) (cs:=cs) hΦ (by rw[hOO];exact hlv) (by rw[hOO];exact hlc) (fun i hi=>by rw[hOO]at hi;exact V.ch i hi)
     rwa [hOO]at this
    obtain⟨kv9,L9,hok9,hk9,hf9,hL9⟩:=nt.close (ty:=97) V.ok hgood
    refine xD (jr+8) (σ':=P8 T tbs p1 j' kv' ((rest'.set jr none).set (rest.length+1) (some (.cells 97 (dq n O vs (iY O.av cs)))))) (aG vr (by omega)) (uR (by simp) (aG (bQ vr) (by omega)) (fun z hz=>?_) I (kU.refl _)) (.cons 13 I (.same _) .nil) ?_
    ·by_cases h1:z=rest.length+1
     ·subst h1
      exact .inr ⟨_,_,bQ vx,bQ (aG vx (by omega)),.cells (.cons (.same _)<|.cons (.same _)<|.cons (.same _)<|.cons .own<|.cons (.same _)<|.cons (.same _) .nil)⟩
     ·refine .inl ?_
      rw[List.getElem?_set,if_neg (by omega),List.getElem?_set,if_neg (by omega),List.getElem?_set,if_neg (by omega)]
    refine xD (rest.length+1+8) (σ':=P8 T tbs p1 j' kv9 ((((rest'.set jr none).set (rest.length+1) (some (.cells 97 (dq n O vs (iY O.av cs))))).set (rest.length+1) none).set j' (eH L9))) (bQ (aG vx (by omega))) (uR (by simp) (aG (bQ (bQ (aG vx (by omega)))) (by omega)) (fun z hz=>?_) hk9 hf9) (.cons 13 I (.ptr 0) .nil) ?_
    ·by_cases h1:z=j'
     ·subst h1
      refine .inr ⟨_,_,aG (aG va (by omega)) (by omega),bQ (aG (aG (aG va (by omega)) (by omega)) (by omega)),?_⟩
      have:=hL9.1
      rw[this]
      exact .row hL9
     ·refine .inl ?_
      rw[List.getElem?_set,if_neg (by omega),List.getElem?_set,if_neg (by omega)]
    refine af (.a 2 I<|.k [10] I)<|az<|⟨_,aE.of I,iY O.av cs,kv9,L9,j',_,hgood,rfl,?_,?_,by omega,hok9⟩
    ·exact bQ (aG (aG (aG va (by omega)) (by omega)) (by omega))
    ·exact(((V.keep.put (.inr (by omega)) _).put (.inr (by omega)) _).put (.inr (by omega)) _).put (by omega) _
  ·have harc:O.av≠[]:=fun h=>by have:=ff hc;rw[h]at this;simp at this
   have x7:r6[rest.length+1]? =some (some (.cells 97 [num n,num O.jZ,aw O.av,.raw (.slice none 0 0),flag true,num (iY O.av [])])):=by rw[x6];unfold iY;rw[if_neg harc];rfl
   obtain⟨r7,hr7⟩:∃r7,r6=r7:=⟨_,rfl⟩
   rw[hr7]at l6 k6 x7 j6 n6 ⊢
   refine ak<|an<|af (.a 3 I<|.v (dc I (bG.tk.get I) I x7 rfl) I<|.a 2 I<|.k [3,5,7,13,14,75,76,77] I)<|ay<|eY [3,5,7,13,14,75,76,77] I<|cB (rest.length+1+8) 3 92 1 x7 rfl ?_
   have hz:(P8 T tbs p1 (rest.length+2) kv3 r7).length=rest.length+4+8:=by rw[←l6];rfl
   rw[hz]
   refine dF (σ':=P8 T tbs p1 (rest.length+2) kv3 ((r7++[eH []]).set (rest.length+1) (some (.cells 97 [num n,num O.jZ,aw O.av,.own (rest.length+4+8),flag true,num (iY O.av [])])))) I ?_
   refine br (fun r st=>∃(k:Nat) (kv':List (List UInt8×PV)) (L':List PV) (j' jr:Nat) (rest':bN) (vs:List PV) (cs:List Int),k≤O.av.length∧r=O.av.length - k∧KH T tb p0 Φ op j rest n p.stack kv' L' j' jr rest' k vs cs∧st=⟨[(3,.ptr 6 0),(5,.ptr 0 0),(7,.ptr 7 0),(13,.ptr (rest.length+1+8) 0),(14,.ptr (rest.length+3+8) 0),(75,aw O.av),(76,num O.av.length),(77,num k)],P8 T tbs p1 j' kv' rest'⟩) O.av.length ⟨0,kv3,L3,rest.length+2,rest.length+4,_,[],[],Nat.zero_le _,rfl,⟨(k6.app _).put (.inr (by omega)) _,by simp[l6],by rw[hOO];exact bQ (cn x7),by rw[hOO];exact aG (cn n6) (by omega),aG (fO l6) (by omega),aG (cn j6) (by omega),by omega,.inl rfl,by omega,hok3,rfl,rfl,fun i hi=>absurd hi (Nat.not_lt_zero i)⟩,rfl⟩ ?_
   rintro r st ⟨k,kv',L',j',jr,rest',vs,cs,hk,rfl,V,rfl⟩
   have vx:=V.x
   have vn:=V.nb
   have vr:=V.row
   have va:=V.al
   have vlen:=V.len
   have vj:=V.j1
   have vjr:=V.Lt
   have vne:=V.ne
   have vrl:=(List.getElem?_eq_some_iff.1 vr).1
   rw[hOO]at vx vn
   refine af (.a 1 I<|.k [3,5,7,13,14,75,76,77,78] I)<|an<|aj I (fun hc=>?_) (fun hc=>?_)
   ·have hlt:k<O.av.length:=by have:=tt hc;omega
    have hne:O.av≠[]:=fun h=>by rw[h]at hlt;simp at hlt
    have hst:∀a∈O.av,∃b m:Nat,a=(b:Int)∧b<2*T.ae.length∧aB T b=(m:Int)∧∃u',u'<u∧Φ u' m O.fe.stack:=by
     rcases hbr with h|⟨_,_,h⟩
     ·exact absurd h hne
     ·exact h
    have hmem:O.av.getD k 0∈O.av:=cf hlt
    obtain⟨b,m,hab,hb,hm,u',hu',hΦ'⟩:=hst _ hmem
    have hop':∀x∈(rest.length+1,n,p.stack)::op,G5 T tb p0 x.2.1 x.2.2 m O.fe.stack:=fun x hx=>by
     have ha:O.av.getD k 0∈(bT T tb p0 n p.stack).av:=by rw[hOO];exact hmem
     have hm':aB T (O.av.getD k 0).toNat=(m:Int):=by rw[hab,Int.toNat_natCast];exact hm
     rw[←hOO]
     rcases List.mem_cons.1 hx with rfl|hx
     ·exact .one ha hm'
     ·exact .more (hop x hx) ha hm'
    have hll:=bX hv
    refine ak<|an<|ay<|af (.v (aJ (k) I) I<|.v (aK I ((aC _ k hlt).trans (by rw[hab]))) I<|.a 1 I<|.k [3,5,7,13,14,16,75,76,77] I)<|an<|af (.a 1 I<|.k [3,5,7,13,14,16,75,76,77,81] I)<|aj I (fun hc=>?_) (fun hc=>?_)
    ·cases hc
    ·refine ak<|Ib 5 20 [82,83,84,85,86] mixed (by kernel_rfl) (by kernel_rfl) (by kernel_rfl) I (.a 3 I<|.v [83,84] (eW I ((show Can Tryz.prog 37 [aZ T,num b] (· =num m) by have h:=ed T b hb (by omega);rw[hm]at h;exact h))) I I<|.v [14] (kN (σ:=P8 T tbs p1 j' kv' rest') (blk:=.cells 57 (dU O.fe)) I (bG.tk.get I) I vn rfl) I I<|.k [3,5,7,13,14,75,76,77,82,85,86] I) ?_
     refine b7 I I (aW.mono (ih u' hu' m O.fe hΦ' (hpk hne) ((rest.length+1,n,p.stack)::op) kv' L' j' rest' va V.ok hop') (fun y σ' h=>?_))
     obtain⟨c,kv4,L4,j4',r8,hg,rfl,a8,k8,hj8,hok8⟩:=h
     refine ax 1 I<|aH [3,5,7,13,14,17,75,76,77] I ?_
     obtain⟨vs1,cs1,hgv,_,_,_,_⟩:=hg.parts
     subst hgv
     have l8:=k8.len
     have x8:r8[rest.length+1]? =some (some (.cells 97 [num n,num O.jZ,aw O.av,.own (jr+8),flag true,num (iY O.av cs)])):=(k8.same _ (by omega) (by omega)).trans vx
     have n8:r8[rest.length+3]? =some (some (.cells 57 (dU O.fe))):=(k8.same _ (by omega) (by omega)).trans vn
     have w8:r8[jr]? =some (eH vs):=(k8.same _ vrl (by omega)).trans vr
     have kk8:iy j rest r8:=V.keep.trans k8 (by omega)
     have hgb:=hg.bound
     have hlv:=V.lv
     have hlc:=V.lc
     have e8:j4'≠jr:=by omega
     have x8b:(r8.set jr none++[eH (vs++[PV.bg (dq m (bT T tb p0 m O.fe.stack) vs1 c) 0])])[rest.length+1]? =some (some (.cells 97 [num n,num O.jZ,aw O.av,.own (jr+8),flag true,num (iY O.av cs)])):=cn (aG x8 (by omega))
     refine aR<|ax 4 I ?_
     refine bw (dc I (bG.tk.get I) I x8 rfl) I ?_
     refine ax 1 I ?_
     refine bw (aS (xs:=[PV.bg (dq m (bT T tb p0 m O.fe.stack) vs1 c) 0]) I (bG.sl.get I) ⟨Nat.le_of_ble_eq_true rfl,Nat.le_of_ble_eq_true rfl⟩ rfl rfl) I ?_
     refine cg (cM.to (σ:=P8 T tbs p1 j4' kv4 r8) (bC (e:=92) (s:=1) (by':=8) (i:=jr+8) (m:=1) (n:=vs.length) (xs:=vs) (ys:=[PV.bg (dq m (bT T tb p0 m O.fe.stack) vs1 c) 0]) I (bG.rk.get I) I w8 rfl rfl ⟨by unfold maxLen;omega,by omega⟩) (p':=.own (r8.length+8)) (σ'':=P8 T tbs p1 j4' kv4 (r8.set jr none++[eH (vs++[PV.bg (dq m (bT T tb p0 m O.fe.stack) vs1 c) 0])])) I (by unfold eH;rw[List.length_append];rfl)) I ?_
     refine ax 2 I ?_
     refine ba (cM.to (σ:=P8 T tbs p1 j4' kv4 (r8.set jr none++[eH (vs++[PV.bg (dq m (bT T tb p0 m O.fe.stack) vs1 c) 0])])) (cm I (bG.tk.get I) I I x8b (Nat.le_of_ble_eq_true rfl)) (σ'':=P8 T tbs p1 j4' kv4 ((r8.set jr none++[eH (vs++[PV.bg (dq m (bT T tb p0 m O.fe.stack) vs1 c) 0])]).set (rest.length+1) (some (.cells 97 [num n,num O.jZ,aw O.av,.own (r8.length+8),flag true,num (iY O.av cs)])))) I I) I I ?_
     refine aH [3,5,7,13,14,17,75,76,77] I ?_
     obtain⟨r9,hr9⟩:∃r9,(r8.set jr none++[eH (vs++[PV.bg (dq m (bT T tb p0 m O.fe.stack) vs1 c) 0])]).set (rest.length+1) (some (.cells 97 [num n,num O.jZ,aw O.av,.own (r8.length+8),flag true,num (iY O.av cs)]))=r9:=⟨_,rfl⟩
     have l9:r9.length=r8.length+1:=by rw[←hr9];simp
     have kk9:iy j rest r9:=hr9▸((kk8.put (.inr (by omega)) _).app _).put (.inr (by omega)) _
     have x9:r9[rest.length+1]? =some (some (.cells 97 [num n,num O.jZ,aw O.av,.own (r8.length+8),flag true,num (iY O.av cs)])):=hr9▸bQ x8b
     have n9:r9[rest.length+3]? =some (some (.cells 57 (dU O.fe))):=hr9▸aG (cn (aG n8 (by omega))) (by omega)
     have w9:r9[r8.length]? =some (eH (vs++[PV.bg (dq m (bT T tb p0 m O.fe.stack) vs1 c) 0])):=hr9▸aG (fO (by simp)) (by omega)
     have a9:r9[j4']? =some (eH L4):=hr9▸aG (cn (aG a8 (by omega))) (by omega)
     rw[hr9]
     have hcb:0≤iY O.av cs∧iY O.av cs≤1001:=by
      unfold iY
      rw[if_neg hne]
      refine mj cs 0 (by omega) (by omega) fun z hz=>?_
      obtain⟨i,hi⟩:=List.getElem?_of_mem hz
      have hil:=(List.getElem?_eq_some_iff.1 hi).1
      have:=(V.ch i (by omega)).bound.1
      rwa [List.getD_eq_getElem?_getD,hi]at this
     have hbs:iY O.av (cs++[c])=min (iY O.av cs+c) 1001:=by unfold iY;rw[if_neg hne,if_neg hne,rR]
     refine dR 13 20 mixed (
      .val [13] I (bn I) I I<|
      .val [13] I (bn I) I I<|
      .val [99] I (bn I) I I<|
      .val [100] I (bn I) I I<|
      .val [101] I (dc I (bG.tk.get I) I x9 rfl) I I<|
      .val [17] I (bn I) I I<|
      .val [103] I (bn I) I I<|
      .val [104] I (bn I) I I<|
      .val [105] I (aK I (rfl)) I I<|
      .val [102,106] I (aU I) I I<|
      .val [107] I (AI I I I (hbs.symm)) I I<|
      .val [98] I (bn I) I I<|
      .val [109] I (bn I) I I<|
      .nil) (by kernel_rfl) I I (bm (ks:=[3,5,7,13,14,75,76,77,108,110]) I) ?_
     refine ba (cM.to (σ:=P8 T tbs p1 j4' kv4 r9) (cm I (bG.tk.get I) I I x9 (Nat.le_of_ble_eq_true rfl)) (σ'':=P8 T tbs p1 j4' kv4 (r9.set (rest.length+1) (some (.cells 97 [num n,num O.jZ,aw O.av,.own (r8.length+8),flag true,num (iY O.av (cs++[c]))])))) I I) I I<|aH [3,5,7,13,14,75,76,77] I ?_
     refine aF (.v (aU I) I<|.a 1 I<|.k [3,5,7,13,14,75,76,77] I) ?_
     refine⟨O.av.length - (k+1),by omega,k+1,kv4,L4,j4',r8.length,_,vs++[PV.bg (dq m (bT T tb p0 m O.fe.stack) vs1 c) 0],cs++[c],by omega,rfl,⟨kk9.put (.inr (by omega)) _,by simp[l9];omega,by rw[hOO];exact bQ x9,by rw[hOO];exact aG n9 (by omega),aG w9 (by omega),aG a9 (by omega),by omega,by omega,?_,hok8,by simp[hlv],by simp[hlc],fun i hi=>?_⟩,rfl⟩
     ·have:=(List.getElem?_eq_some_iff.1 a8).1;omega
     ·by_cases hik:i<k
      ·have h1:(vs++[PV.bg (dq m (bT T tb p0 m O.fe.stack) vs1 c) 0]).getD i .any=vs.getD i .any:=by rw[List.getD_eq_getElem?_getD,List.getD_eq_getElem?_getD,List.getElem?_append_left (by omega)]
       have h2:(cs++[c]).getD i 0=cs.getD i 0:=by rw[List.getD_eq_getElem?_getD,List.getD_eq_getElem?_getD,List.getElem?_append_left (by omega)]
       rw[h1,h2]
       exact V.ch i hik
      ·obtain rfl:i=k:=by omega
       have h1:(vs++[PV.bg (dq m (bT T tb p0 m O.fe.stack) vs1 c) 0]).getD i .any=PV.bg (dq m (bT T tb p0 m O.fe.stack) vs1 c) 0:=by rw[List.getD_eq_getElem?_getD,fO hlv];rfl
       have h2:(cs++[c]).getD i 0=c:=by rw[List.getD_eq_getElem?_getD,fO hlc];rfl
       rw[h1,h2,hOO,hab,Int.toNat_natCast,hm,Int.toNat_natCast]
       exact hg
   ·have hke:k=O.av.length:=by have:=ff hc;omega
    refine bp<|aR<|ax 3 I<|ba (cM.to (σ:=P8 T tbs p1 j' kv' rest') (cm I (bG.tk.get I) I I vx (Nat.le_of_ble_eq_true rfl)) (σ'':=P8 T tbs p1 j' kv' (rest'.set (rest.length+1) (some (.cells 97 [num n,num O.jZ,aw O.av,.own (jr+8),flag false,num (iY O.av cs)])))) I I) I I<|aH [13] I ?_
    subst hke
    have hlv:=V.lv
    have hlc:=V.lc
    have hgood:Good T tb p0 Φ (.bg (dq n O vs (iY O.av cs)) 0) n p.stack (iY O.av cs):=by
     have:=Good.mk (T:=T) (tb:=tb) (p0:=p0) (Φ:=Φ) (vs:=vs) (cs:=cs) hΦ (by rw[hOO];exact hlv) (by rw[hOO];exact hlc) (fun i hi=>by rw[hOO]at hi;exact V.ch i hi)
     rwa [hOO]at this
    obtain⟨kv9,L9,hok9,hk9,hf9,hL9⟩:=nt.close (ty:=97) V.ok hgood
    refine xD (jr+8) (σ':=P8 T tbs p1 j' kv' ((rest'.set jr none).set (rest.length+1) (some (.cells 97 (dq n O vs (iY O.av cs)))))) (aG vr (by omega)) (uR (by simp) (aG (bQ vr) (by omega)) (fun z hz=>?_) I (kU.refl _)) (.cons 13 I (.same _) .nil) ?_
    ·by_cases h1:z=rest.length+1
     ·subst h1
      exact .inr ⟨_,_,bQ vx,bQ (aG vx (by omega)),.cells (.cons (.same _)<|.cons (.same _)<|.cons (.same _)<|.cons .own<|.cons (.same _)<|.cons (.same _) .nil)⟩
     ·refine .inl ?_
      rw[List.getElem?_set,if_neg (by omega),List.getElem?_set,if_neg (by omega),List.getElem?_set,if_neg (by omega)]
    refine xD (rest.length+1+8) (σ':=P8 T tbs p1 j' kv9 ((((rest'.set jr none).set (rest.length+1) (some (.cells 97 (dq n O vs (iY O.av cs))))).set (rest.length+1) none).set j' (eH L9))) (bQ (aG vx (by omega))) (uR (by simp) (aG (bQ (bQ (aG vx (by omega)))) (by omega)) (fun z hz=>?_) hk9 hf9) (.cons 13 I (.ptr 0) .nil) ?_
    ·by_cases h1:z=j'
     ·subst h1
      refine .inr ⟨_,_,aG (aG va (by omega)) (by omega),bQ (aG (aG (aG va (by omega)) (by omega)) (by omega)),?_⟩
      have:=hL9.1
      rw[this]
      exact .row hL9
     ·refine .inl ?_
      rw[List.getElem?_set,if_neg (by omega),List.getElem?_set,if_neg (by omega)]
    refine af (.a 2 I<|.k [10] I)<|az<|⟨_,aE.of I,iY O.av cs,kv9,L9,j',_,hgood,rfl,?_,?_,by omega,hok9⟩
    ·exact bQ (aG (aG (aG va (by omega)) (by omega)) (by omega))
    ·exact(((V.keep.put (.inr (by omega)) _).put (.inr (by omega)) _).put (.inr (by omega)) _).put (by omega) _
end
section
variable {T:ah} {tb:Nat→eN} {p0:gg} {Φ:Nat→Nat→List cr→Prop}
def KX(T:ah)(tb:Nat→eN)(p0:gg)(Φ:Nat→Nat→List cr→Prop)(n:Nat)(s:List cr)(r:PV):Prop:=
 ∃v c L,r= .tuple [v,.slice L.length L,num 0]∧Good T tb p0 Φ v n s c∧L.length≤1000000∧∀x∈L,∃n s c,Good T tb p0 Φ x n s c
instance:fJ HX:=by unfold HX;infer_instance
theorem JZ:xo Tryz.prog 129=some [.nilFunc]:=by kernel_rfl
set_option maxHeartbeats 4000000 in
theorem zv(R:nU T tb p0 Φ)(hv:au T=true)(h12:T.nodes≤12){U:List (Nat×List cr)}(hU:∀ {u n s},Φ u n s→(n,s)∈U)(hUl:U.length≤1000000)(tbs:List eN)(htl:(tbs.length:Int)=T.nodes)(htb:∀n:Nat,(n:Int)<T.nodes→tbs[n]? =some (tb n))
  (hok:∀n:Nat,(n:Int)<T.nodes→(tb n).node=(n:Int)∧fA T (tb n)=true) {u n:Nat} {p:gg} (hΦ:Φ u n p.stack) (hp:gL p p.stack=gL p0 p.stack):
  Can Tryz.prog 40 [aZ T,gN tbs,fc p,num n] (KX T tb p0 Φ n p.stack):=by
 have hn:=R.node hΦ
 have hck:=y6 T tbs n hv htl (fun i x hx=>by
  have hil:=(List.getElem?_eq_some_iff.1 hx).1
  have:=htb i (by omega)
  rw[this]at hx
  cases hx
  exact hok i (by omega)) (bu.2 ⟨by omega,hn⟩)
 refine aT Tryz.func40 I Tryz.ntmps40 I<|aR<|cg (eV I I I) I<|cg (eV (xs:=[_]) I I I) I<|cg (eV I I I) I<|ax 3 I<|aH [3,4,5,6,9] I ?_
 refine an<|af (.a 3 I<|.c rfl (hck) I<|.a 1 I<|.k [3,4,5,6,9,11] I)<|af (.a 2 I<|.k [3,4,5,6,9,11,20] I)<|aj I (fun hc=>?_) (fun hc=>?_)
 ·cases hc
 ·refine ak<|aR<|cg (kl qi rfl) I<|ax 2 I<|aH [3,4,5,6,9,12] I ?_
  refine aR<|ax 2 I<|aH [3,4,5,6,9,12,13] I ?_
  refine aR<|cg (qx (z:=[.nilFunc]) I JZ) I<|aH [3,4,5,6,9,12,13,14] I ?_
  refine aR<|ax 1 I ?_
  refine ba (cm (p:=HX) I (bG.tk.get I) I I I (Nat.le_of_ble_eq_true rfl)) I I ?_
  refine aH [3,6,9,13,14] I ?_
  refine cB 3 0 92 1 I I ?_
  refine dF (σ':=P8 T tbs p 0 [] [eH []]) I ?_
  refine aR<|ax 3 I<|b7 I I (aW.mono (Cf R hv h12 hU hUl tbs htb p u n p hΦ hp [] [] [] 0 [eH []] I ⟨fun e he=>(by cases he),List.nodup_nil,fun e he=>(by cases he),rfl⟩ (fun x hx=>(by cases hx))) (fun y σ' h=>?_))
  obtain⟨c,kv,L,j,rest,hg,rfl,hj,_,_,hkv⟩:=h
  refine ax 1 I<|aH [8,9,13] I ?_
  haveI:=hg.pure
  refine an<|af (.a 1 I<|.k [8,9,28] I)<|aj I (fun hc=>?_) (fun hc=>?_)
  ·cases hc
  ·refine ak<|kV ([(8,y),(9,.ptr 3 0),(10,num 0)]) (P8 T tbs p j kv rest) mixed ?_ ?_
   ·refine bK 0 [1] (by kernel_rfl) ?_
    refine bc I I (bw (bn I) I (bf ?_)) ?_
    ·refine bK 1 [2] (by kernel_rfl) ?_
     refine bc I I (bw (bn I) I (bf ?_)) ?_
     ·refine bK 2 [] (by kernel_rfl) ?_
      refine bc I I (bw (bn I) I (bf ?_)) bJ
      refine bK 3 [] (by kernel_rfl) ?_
      refine bc I I (ba (cM.to (σ:=P8 T tbs p j kv rest) (cm I (bG.tk.get I) I I I (Nat.le_of_ble_eq_true rfl)) (σ'':=P8 T tbs p j kv rest) I I) I I (bf ?_)) bJ
      refine bK 4 [] (by kernel_rfl) ?_
      refine bc I I (bw (bn I) I (bf ?_)) bJ
      exact jP (by kernel_rfl) ⟨rfl,bm (ks:=[8,9,10]) I⟩
     refine bc I I (bw (bn I) I (bf ?_)) bJ
     refine bK 1 [] (by kernel_rfl) ?_
     refine bc I I (bw (bn I) I (bf ?_)) bJ
     refine bK 3 [] (by kernel_rfl) ?_
     refine bc I I (ba (cM.to (σ:=P8 T tbs p j kv rest) (cm I (bG.tk.get I) I I I (Nat.le_of_ble_eq_true rfl)) (σ'':=P8 T tbs p j kv rest) I I) I I (bf ?_)) bJ
     refine bK 4 [] (by kernel_rfl) ?_
     refine bc I I (bw (bn I) I (bf ?_)) bJ
     exact jP (by kernel_rfl) ⟨rfl,bm (ks:=[8,9,10]) I⟩
    refine bc I I (bw (bn I) I (bf ?_)) bJ
    refine bK 0 [] (by kernel_rfl) ?_
    refine bc I I (bw (bn I) I (bf ?_)) bJ
    refine bK 2 [] (by kernel_rfl) ?_
    refine bc I I (bw (bn I) I (bf ?_)) bJ
    refine bK 3 [] (by kernel_rfl) ?_
    refine bc I I (ba (cM.to (σ:=P8 T tbs p j kv rest) (cm I (bG.tk.get I) I I I (Nat.le_of_ble_eq_true rfl)) (σ'':=P8 T tbs p j kv rest) I I) I I (bf ?_)) bJ
    refine bK 4 [] (by kernel_rfl) ?_
    refine bc I I (bw (bn I) I (bf ?_)) bJ
    exact jP (by kernel_rfl) ⟨rfl,bm (ks:=[8,9,10]) I⟩
   refine az ?_
   have hall:∀x∈L,∃n s c,Good T tb p0 Φ x n s c:=fun x hx=>by
    obtain⟨n1,s1,h1⟩:=hkv.all x hx
    rcases h1 with⟨c1,h1⟩|⟨_,h1,_⟩
    ·exact⟨n1,s1,c1,h1⟩
    ·cases h1
   haveI:aI L:=⟨fun i x hx=>by
    obtain⟨_,_,_,h⟩:=hall x (List.mem_of_getElem? hx)
    exact h.pure⟩
   have hfew:=hkv.Lu R h12 hU
   have hlen:=hkv.len
   exact⟨_,_,aE.of I,aD.bY (ai.cons aD.pure<|ai.cons (aD.dA (i:=j+8) (show(P8 T tbs p j kv rest)[j+8]? =_ from hj) ai.pure)<|ai.cons aD.pure ai.nil),y,c,L,rfl,hg,by omega,hall⟩
end
section
variable {T:ah} {k x:Int} {d:Nat} {st:Nat→Int} {p0:gg}
end
end
end PW
end Go.Proofs.YteikppbedmmdnaaGreatDoor
namespace Go.Proofs.YteikppbedmmdnaaGreatDoor
namespace eX
section
open Go.RowKit Go.Shelf cj
structure Rest (a b:Nat) (w w':World):Prop where
 os:w'.os=w.os
 tape:w'.tape=w.tape
 output:w'.output=w.output
 size:w.heap.size≤w'.heap.size
 block:∀k,k<w.heap.size→(k<a∨b≤k)→w'.heap[k]? =w.heap[k]?
 cells:∀(k:Nat) (o:Obj),w.heap[k]? =some o→o.isCells=true→w'.heap[k]? =some o
theorem Rest.trans{a b:Nat}{w w' w'':World}(h:Rest a b w w')(k:Rest a b w' w''):Rest a b w w'':=
 ⟨k.os.trans h.os,k.tape.trans h.tape,k.output.trans h.output,Nat.le_trans h.size k.size,fun j h1 h2=>(k.block j (Nat.lt_of_lt_of_le h1 h.size) h2).trans (h.block j h1 h2),fun j o h1 h2=>k.cells j o (h.cells j o h1 h2) h2⟩
theorem Rest.wide{a b a' b':Nat}{w w':World}(h:Rest a b w w')(h1:a'≤a)(h2:b≤b'):Rest a' b' w w':=
 ⟨h.os,h.tape,h.output,h.size,fun k k1 k2=>h.block k k1 (by omega),h.cells⟩
theorem Rest.put{a b l:Nat}{w:World}{o o0:Obj}(h0:w.heap[l]? =some o0)(hc:o0.isCells=false)(h1:a≤l)(h2:l<b):Rest a b w (w.putObj l o):=
 ⟨rfl,rfl,rfl,by simp,fun k _ k2=>World.putObj_heap_other (by omega),fun k o1 k1 k2=>(World.putObj_heap_other (fun e=>by subst e;rw[h0]at k1;cases k1;rw[hc]at k2;cases k2)).trans k1⟩
end
end eX
end Go.Proofs.YteikppbedmmdnaaGreatDoor
namespace Go.Proofs.YteikppbedmmdnaaGreatDoor
namespace PW
section
open Go.RowKit cj Mem
section
variable {P:Program} {ops:Array Oper} {n:Nat}
theorem H4{o:Oper}{a:Act}{w:World}{K K':Act→World→Prop}{Q Q':Exit→Act→World→Prop}(hK:∀a w,K a w→K' a w)(hp:∀c a w,Q (.panic c) a w→Q' (.panic c) a w)(hL:¬LetsOut Q)(h:o.wp P a w K Q):o.wpIn Fence.wide n P a w K' Q':=by
 refine⟨fun _ _=>trivial,?_⟩
 rw[show Fence.wide.round=none from rfl,Oper.semAt_none]
 unfold Oper.wp at h
 generalize (execOp a.eval o).run P w=x at*
 cases x with
 |ok x w'=>
  cases x<;>simp only[Oper.uponIn,Oper.upon]at h ⊢
  case value v=>exact hK _ _ h
  case skip=>exact hK _ _ h
  case defer d=>exact hK _ _ h
  case enter f args=>exact⟨fun h=>by simp[Fence.wide]at h,callsIn_wide.2 (h.mono fun e w'' he=>by cases e<;>first|exact hK _ _ he|exact hp _ _ _ he|exact(hL he).elim)⟩
  case row r args=>exact⟨fun h=>by simp[Fence.wide]at h,fun c cs _=>by
   obtain⟨v,w',r,s⟩:=h c cs
   exact⟨v,w',hK _ _ r,stepsIn_wide.2 s⟩⟩
  all_goals exact h.elim
 |halt x w'=>cases x<;>simp only[Oper.uponIn,Oper.upon]at h ⊢ <;>first|exact hp _ _ _ h|exact h
section
variable {f m:Nat} (hB:yE ops f m=true)
include hB
theorem ou{Q:Exit→Act→World→Prop}:∀(r k:Nat) (a:Act) (w:World),k+r=ops.size→m≤k→wpOpsIn Fence.wide n P ops Q (List.range' k r) a w→wpAnyIn Fence.wide n P .any ops Q r (upto ops.size k) a w
 |0,k,a,w,hk,_,h=>by
  obtain rfl:k=ops.size:=by omega
  exact⟨sY,h⟩
 |r+1,k,a,w,hk,hm,h=>by
  have hr:=rB hB k (by omega) hm
  refine⟨fun h0=>absurd (hr.symm.trans h0) (by simp),fun i hi=>?_⟩
  rw[hr]at hi
  simp at hi
  subst hi
  rw[List.range'_succ,wpOpsIn_cons]at h
  rw[xe]
  exact wpOpIn_mono (fun a w h=>ou r (i+1) a w (by omega) (by omega) h) h
end
def ql(n:Nat)(P:Program)(ops:Array Oper)(Q:Exit→Act→World→Prop)(m r:Nat):Exit→Act→World→Prop
 | .normal,a,w=>wpOpsIn Fence.wide n P ops Q (List.range' m r) a w
 |_,_,_=>False
theorem tX{Q:Exit→Act→World→Prop}{m r:Nat}:¬LetsOut (ql n P ops Q m r):=fun⟨_,_,h⟩=>h
theorem sG{f m:Nat}(hB:yE ops f m=true)(hm:m≤ops.size){Q:Exit→Act→World→Prop}:∀(fuel:Nat) (l₁ ls:Array Bool) (a:Act) (w:World),l₁.size=m→ls.size=ops.size→(∀i,i<m→ls.getD i true=l₁.getD i true)→(∀i,m≤i→i<ops.size→ls.getD i true=false)→Down ops ls→bE ls m=fuel→
  wpAny P .any (ops.extract 0 m) (ql n P ops Q m (ops.size - m)) fuel l₁ a w→wpAnyIn Fence.wide n P .any ops Q (fuel+(ops.size - m)) ls a w:=by
 have hsz:(ops.extract 0 m).size=m:=by simp;omega
 have hget:∀i,i<m→(ops.extract 0 m)[i]? =ops[i]? :=fun i hi=>by rw[Array.getElem?_extract];simp;omega
 have haft:∀i,i<m→jD (ops.extract 0 m) i=jD ops i:=fun i hi=>by unfold jD;rw[hget i hi]
 intro fuel
 induction fuel with
 |zero=>
  intro l₁ ls a w hs1 hs2 hsame hrest hd hu h
  have:ls=upto ops.size m:=by
   apply Array.ext
   ·simp[upto,hs2]
   ·intro i h1 h2
    have hi:i<ops.size:=by omega
    have e:ls.getD i true=(upto ops.size m).getD i true:=by
     rw[gy _ _ _ hi]
     by_cases him:i<m
     ·rw[cI hu i him];simp[him]
     ·rw[hrest i (by omega) hi];simp[him]
    simpa[h1,h2]using e
  rw[this]
  simpa using ou hB (ops.size - m) m a w (by omega) (Nat.le_refl _) h.2
 |succ fuel ih=>
  intro l₁ ls a w hs1 hs2 hsame hrest hd hu h
  have hf:∀b c (i:Nat),i<ops.size→ls.getD i b=ls.getD i c:=fun b c i hi=>by simp[show i<ls.size by omega]
  obtain⟨i0,hi0,hi1,hi2⟩:=ec (ls:=ls) (m:=m) (by omega)
  have hrd:∀i,i∈Region.ready .any ops ls→i<m:=fun i hi=>by
   obtain⟨h1,h2,h3⟩:=cb.1 hi
   rcases Nat.lt_or_ge i m with h'|h'
   ·exact h'
   ·have:=dD hs2 hd (gz hB) f i i0 h1 (pA hB i h1 h' i0 (by omega)) h3
    rw[hf false true i0 (by omega),hi1]at this
    cases this
  have hin:∀i,i∈Region.ready .any ops ls→i∈Region.ready .any (ops.extract 0 m) l₁:=fun i hi=>by
   have him:=hrd i hi
   obtain⟨h1,h2,h3⟩:=cb.1 hi
   refine cb.2 ⟨by omega,by rw[←hsame i him];exact h2,fun k hk=>?_⟩
   rw[haft i him]at hk
   have hki:=gz hB i h1 k hk
   have:=h3 k hk
   rw[hf false true k (by omega),hsame k (by omega)]at this
   simpa[show k<l₁.size by omega]using this
  have hi0r:i0∈Region.ready .any ops ls:=cb.2 ⟨by omega,hi1,fun k hk=>by
   have:=gz hB i0 (by omega) k hk
   rw[hf false true k (by omega)];exact hi2 k this⟩
  rw[show fuel+1+(ops.size - m)=(fuel+(ops.size - m))+1 by omega]
  refine⟨fun h0=>absurd hi0r (by rw[h0];simp),fun i hi=>?_⟩
  have him:=hrd i hi
  obtain⟨h1,h2,h3⟩:=cb.1 hi
  have hstep:=h.2 i (hin i hi)
  have next:∀a w,wpAny P .any (ops.extract 0 m) (ql n P ops Q m (ops.size - m)) fuel (l₁.setIfInBounds i true) a w→wpAnyIn Fence.wide n P .any ops Q (fuel+(ops.size - m)) (ls.setIfInBounds i true) a w:=fun a w hh=>by
   refine ih _ _ a w (by simpa using hs1) (by simpa using hs2) (fun j hj=>?_) (fun j hj hj'=>?_) (fun j hj hj' k hk=>?_) (by have:=dV h2 him (by omega);omega) hh
   ·by_cases e:i=j
    ·subst e;simp[show i<ls.size by omega,show i<l₁.size by omega]
    ·have:=hsame j hj
     simp only[Array.getD_eq_getD_getElem?,Array.getElem?_setIfInBounds_ne e]at this ⊢
     exact this
   ·have:=hrest j hj hj'
    simp only[Array.getD_eq_getD_getElem?,Array.getElem?_setIfInBounds_ne (show i≠j by omega)]at this ⊢
    exact this
   ·by_cases e:i=j
    ·subst e
     have hki:=gz hB i h1 k hk
     have:=h3 k hk
     simp only[Array.getD_eq_getD_getElem?,Array.getElem?_setIfInBounds_ne (show i≠k by omega)]at this ⊢
     exact this
    ·have hj2:ls.getD j true=true:=by
      simp only[Array.getD_eq_getD_getElem?,Array.getElem?_setIfInBounds_ne e]at hj ⊢
      exact hj
     have:=hd j hj2 hj' k hk
     by_cases e2:i=k
     ·subst e2;simp[show i<ls.size by omega]
     ·simp only[Array.getD_eq_getD_getElem?,Array.getElem?_setIfInBounds_ne e2]at this ⊢
      exact this
  unfold wpOp at hstep
  unfold wpOpIn
  rw[hget i him]at hstep
  have ho:ops[i]? =some ops[i]:=by simp[h1]
  rw[ho]at hstep ⊢
  simp only at hstep ⊢
  have hy:Region.wanted ops[i] (yielded (ops.extract 0 m) a.tmps)=Region.wanted ops[i] (yielded ops a.tmps):=by
   unfold Region.wanted
   cases hg:(ops[i]).guard with
   |none=>rfl
   |some g=>
    obtain⟨j,wt⟩:=g
    have:=tw hB i ops[i] j wt ho hg
    simp only[yielded]
    rw[hget j (by omega)]
  rw[hy]at hstep
  split
  ·rename_i hw
   rw[if_pos hw]at hstep
   rcases hstep with hh|⟨hh,hl⟩
   ·exact H4 next (fun _ _ _ h=>h.elim) tX hh
   ·exact absurd hl tX
  ·rename_i hw
   rw[if_neg hw]at hstep
   exact⟨fun _ _=>trivial,next _ _ hstep⟩
theorem sj{N:Nat}{id:Nat}{l:List Oper}{t t':b9}{σ:bN}{F:Nat→Prop}{base:Nat}{E:Env}{a:Act}{w:World}{Q:Exit→Act→World→Prop}(m f:Nat)(D:List Nat)(hm:P.follows .mixedOrders=true)(hB:Region.lexB .any (l.take m).toArray=true)
    (hn:((l.take m).all fun o=>o.dst.all fun e=>decide (e<N)&&D.contains e)=true) (hbar:yE l.toArray f m=true) (hml:Nat.ble m l.length=true) (hs:cY F base N ⟨t,σ⟩ E a w)
    (h:dM P N (l.take m).toArray σ (l.take m) t t') (hw:∀a' w',Ext w w'→cY F base N ⟨t',σ⟩ E a' w'→wpOpsIn Fence.wide n P l.toArray Q (List.range' m (l.toArray.size - m)) a' w'):(Code.region id l.toArray true).wpIn Fence.wide n P Q a w:=by
  obtain⟨arr,ds⟩:=a
  have hds:ds=[]:=hs.jL
  have hmle:m≤l.length:=Nat.ble_eq.mp hml
  have hlt:(l.take m).length=m:=by simp;omega
  refine wpIn_region_any hm ?_
  have hfr:=tT (Q:=ql n P l.toArray Q m (l.toArray.size - m)) hs D hB hn h (fun b w' hE hs'=>hw _ _ hE hs')
  have he:l.toArray.extract 0 m=(l.take m).toArray:=by simp
  have := sG (P := P) (n := n) hbar (by simpa using hmle) (Q := Q) m (Array.replicate m false) (Array.replicate l.toArray.size false) ⟨arr, ds⟩ { w with drawn := w.drawn + 1 } (by simp) (by simp) (fun i hi => by rw [eT _ _ hi, eT _ _ (by simp; omega)]) (fun i _ hi => eT _ _ hi _) (fun i hi hi' => by
      have:(Array.replicate l.toArray.size false).getD i true=false:=eT _ _ hi' _
      rw[this]at hi;cases hi) (by
      have:∀k,k≤l.length→bE (Array.replicate l.toArray.size false) k=k:=by
        intro k
        induction k with
        |zero=>intro _;rfl
        |succ k ih=>
          intro hk
          simp only[bE]
          rw[ih (by omega)]
          have:(Array.replicate l.toArray.size false).getD k true=false:=eT _ _ (by simp;omega) _
          rw[this];simp
      exact this m hmle) (by rw[he];rw[hlt]at hfr;exact hfr)
  rw[show m+(l.toArray.size - m)=l.toArray.size by simp;omega]at this
  exact this
end
end
end PW
end Go.Proofs.YteikppbedmmdnaaGreatDoor
