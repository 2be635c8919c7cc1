/- Texts of the proof, part 14. -/
import Derived.RangeFuncNested
import Derived.RangeFuncBound
import Derived.RangeFuncCalls
import Derived.RangeFuncLeaves
import Derived.Shelf.Abstract
import Derived.Shelf.RegionOpen
import Derived.WalkKit
import Derived.OwnWalkIn
import Derived.TacticsInMore
import Derived.LoopNIn
import Derived.LoopIn
import Derived.Test.YtnegbdpggideiaaGreatDoorCardMRB13
set_option linter.unusedVariables false
set_option linter.unusedSimpArgs false
set_option maxRecDepth 10000
set_option maxHeartbeats 1000000
namespace Go.Proofs.YtnegbdpggideiaaGreatDoor
namespace PW
open Go.RowKit cH Mem Net fw
theorem cS.to{P:Program}{σ σ' σ'':cm}{t:cd}{o:Oper}{p p':PV}(h:cS P σ t o p σ')(hp:p=p')(hs:σ'=σ''):cS P σ t o p' σ'':=by subst hp;subst hs;exact h
theorem I9{P:Program}{σ:cm}{t:cd}{o:Oper}{x y:Operand}{ty tz:TypeId}{p:PV}{q:Bool}(ho:o.op= .binOp .neq ty x y tz)(hk:pw P ty=true)(hx:aD t x=some p)(hy:aD t y=some (.raw (.pointer none)))(h:(p= .raw (.pointer none)∧q=false)∨∃xs k,p= .aY xs k∧q=true):br P σ t o (.raw (.bool q)):=by
 rcases h with⟨rfl,rfl⟩|⟨xs,k,rfl,rfl⟩
 ·exact GQ ho hk hx hy
 ·exact Hl ho hk hx hy
def HK:PV:=.func 158 [.ptr 5 0,.ptr 6 0,.ptr 3 0,.ptr 0 0,.ptr 1 0,.ptr 7 0]
def P8(T:an)(tbs:List ef)(p1:fu)(j:Nat)(kv:List (List UInt8×PV))(rest:cm):cm:=
 some (.cells 25 (bq T))::some (.cells 43 [iS tbs])::some (.cells 66 (eh p1))::some (.cells 148 [.own (j+8)])::some (.mp (gb qe kv))::
 some (.cells 188 [.own 4])::some (.cells 4 [flag false])::some (.cells 189 [HK])::rest
abbrev eT(L:List PV):Option cZ:=some (.row 147 1 L.length L)
structure iu (j:Nat) (rest rest':cm):Prop where
 len:rest.length≤rest'.length
 same:∀i,i<rest.length→i≠j→rest'[i]? =rest[i]?
theorem iu.trans{j j':Nat}{a b c:cm}(h:iu j a b)(k:iu j' b c)(hj:j'=j∨a.length≤j'):iu j a c:=
 ⟨Nat.le_trans h.len k.len,fun i h1 h2=>(k.same i (Nat.lt_of_lt_of_le h1 h.len) (by omega)).trans (h.same i h1 h2)⟩
section
variable {T:an} {tb:Nat→ef} {p0:fu} {Φ:Nat→Nat→List ca→Prop}
def Ky(T:an)(tb:Nat→ef)(p0:fu)(Φ:Nat→Nat→List ca→Prop)(tbs:List ef)(p1:fu)(op:FC)(j:Nat)(rest:cm)(n:Nat)(s:List ca)(r:PV)(σ':cm):Prop:=
 ∃c kv' L' j' rest',Good T tb p0 Φ r n s c∧σ'=P8 T tbs p1 j' kv' rest'∧rest'[j']? =some (eT L')∧iu j rest rest'∧(j'=j∨rest.length≤j')∧nv T tb p0 Φ op kv' L'
structure J4 (T:an) (tb:Nat→ef) (p0:fu) (Φ:Nat→Nat→List ca→Prop) (op:FC) (j0:Nat) (rest0:cm) (n:Nat) (s:List ca) (kv:List (List UInt8×PV)) (L:List PV) (j jr:Nat) (rest:cm) (k:Nat) (vs:List PV) (cs:List Int):Prop where
 Hr:iu j0 rest0 rest
 len:rest0.length+5≤rest.length
 x:rest[rest0.length+1]? =some (some (.cells 152 [num n,num (b7 T tb p0 n s).dT,aw (b7 T tb p0 n s).aK,.own (jr+8),flag true,num (jv (b7 T tb p0 n s).aK cs)]))
 nb:rest[rest0.length+3]? =some (some (.cells 66 (eh (b7 T tb p0 n s).fH)))
 row:rest[jr]? =some (eT vs)
 al:rest[j]? =some (eT L)
 KJ:rest0.length+4≤jr
 j1:j=rest0.length+2∨rest0.length+5≤j
 ne:j≠jr
 ok:nv T tb p0 Φ ((rest0.length+1,n,s)::op) kv L
 lv:vs.length=k
 lc:cs.length=k
 ch:∀i,i<k→Good T tb p0 Φ (vs.getD i .any) (aW T ((b7 T tb p0 n s).aK.getD i 0).toNat).toNat (b7 T tb p0 n s).fH.stack (cs.getD i 0)
instance (l:List ca):fj (cM l):=by unfold cM;infer_instance
instance (p:fu):cz (eh p):=by unfold eh;infer_instance
theorem JY:uv Tryz.prog 188=some (9,147):=by kernel_rfl
theorem KR:Ic Tryz.prog 147=some (.pointer none):=by kernel_rfl
theorem Ju:iI Tryz.prog 9 qe:=Iz Tryz.underlying9
theorem fW{α:Type}{l:List α}{a:α}{i:Nat}(h:l.length=i):(l++[a])[i]? =some a:=by subst h;simp
theorem cq{α:Type}{l:List α}{a b:α}{i:Nat}(h:l[i]? =some b):(l++[a])[i]? =some b:=by
 rw[List.getElem?_append_left (List.getElem?_eq_some_iff.1 h).1];exact h
theorem aH{α:Type}{l:List α}{a:α}{b:Option α}{i j:Nat}(h:l[i]? =b)(hne:j≠i):(l.set j a)[i]? =b:=by
 rw[List.getElem?_set,if_neg hne];exact h
theorem bR{α:Type}{l:List α}{a b:α}{i:Nat}(h:l[i]? =some b):(l.set i a)[i]? =some a:=by
 rw[List.getElem?_set,if_pos rfl,if_pos (List.getElem?_eq_some_iff.1 h).1]
theorem iu.refl(j:Nat)(a:cm):iu j a a:=⟨Nat.le_refl _,fun _ _ _=>rfl⟩
theorem iu.app{j:Nat}{a b:cm}(h:iu j a b)(x:Option cZ):iu j a (b++[x]):=
 ⟨by rw[List.length_append];have:=h.len;omega,fun i h1 h2=>by rw[List.getElem?_append_left (Nat.lt_of_lt_of_le h1 h.len)];exact h.same i h1 h2⟩
theorem iu.put{j:Nat}{a b:cm}(h:iu j a b){k:Nat}(hk:k=j∨a.length≤k)(x:Option cZ):iu j a (b.set k x):=
 ⟨by rw[List.length_set];exact h.len,fun i h1 h2=>by rw[List.getElem?_set,if_neg (by omega)];exact h.same i h1 h2⟩
theorem uw{tbs:List ef}{p1:fu}{j i:Nat}{blk:cZ}{kv kv':List (List UInt8×PV)}{rest rest':cm}(hl:rest'.length=rest.length)(h0:rest'[i]? =some none)
  (h:∀k,k≠i→(rest'[k]? =rest[k]? ∨∃b b',rest[k]? =some (some b)∧rest'[k]? =some (some b')∧uF (i+8) blk b b')) (hk:kv'.map (·.1)=kv.map (·.1)) (hf:kK (i+8) blk (kv.map (·.2)) (kv'.map (·.2))):
  DO (i+8) blk (P8 T tbs p1 j kv rest) (P8 T tbs p1 j kv' rest'):=by
 refine⟨by simp[P8,hl],h0,fun m hm=>?_⟩
 match m,hm with
 |0,_=>exact .inl rfl
 |1,_=>exact .inl rfl
 |2,_=>exact .inl rfl
 |3,_=>exact .inl rfl
 |4,_=>
  refine .inr ⟨_,_,rfl,rfl,.mp ?_ ?_⟩
  ·have:∀l:List (List UInt8×PV),(gb qe l).map (·.1)=(l.map (·.1)).map qe:=fun l=>by simp[gb]
   rw[this,this,hk]
  ·have:∀l:List (List UInt8×PV),(gb qe l).map (·.2)=l.map (·.2):=fun l=>by simp[gb]
   rw[this,this]
   exact hf
 |5,_=>exact .inl rfl
 |6,_=>exact .inl rfl
 |7,_=>exact .inl rfl
 |k+8,hm=>exact h k (by omega)
theorem J4.fH(R:iJ T tb p0 Φ){u n:Nat}{s:List ca}(h:Φ u n s)(hne:(b7 T tb p0 n s).aK≠[]):de (b7 T tb p0 n s).fH (b7 T tb p0 n s).fH.stack=de p0 (b7 T tb p0 n s).fH.stack:=by
 rcases R.step h with h|⟨_,h,_⟩
 ·exact absurd h hne
 ·generalize b7 T tb p0 n s=O at*
  obtain⟨aK,fH,dT⟩:=O
  simp only at h ⊢
  unfold cj at h
  injection h with _ h2 _
  rw[h2]
  rfl
set_option maxHeartbeats 4000000 in
theorem B4(R:iJ T tb p0 Φ)(hv:ao T=true)(h12:T.nodes≤12){U:List (Nat×List ca)}(hU:∀ {u n s},Φ u n s→(n,s)∈U)(hUl:U.length≤1000000)(tbs:List ef)(htb:∀n:Nat,(n:Int)<T.nodes→tbs[n]? =some (tb n))(p1:fu):
  ∀(u n:Nat) (p:fu),Φ u n p.stack→de p p.stack=de p0 p.stack→∀(op:FC) (kv:List (List UInt8×PV)) (L:List PV) (j:Nat) (rest:cm),rest[j]? =some (eT L)→nv T tb p0 Φ op kv L→(∀x∈op,FJ T tb p0 x.2.1 x.2.2 n p.stack)→
   bS Tryz.prog 158 [num n,fr p,.ptr 5 0,.ptr 6 0,.ptr 3 0,.ptr 0 0,.ptr 1 0,.ptr 7 0] (P8 T tbs p1 j kv rest) (Ky T tb p0 Φ tbs p1 op j rest n p.stack):=by
 intro u
 induction u using Nat.strongRecOn with
 |_ u ih=>
 intro n p hΦ hp op kv L j rest hj hok hop
 have hnn:=R.node hΦ
 obtain⟨hsm,hsl⟩:=R.small hΦ
 obtain⟨pv,hpv⟩:∃pv,(dq (dZ n p.stack) kv).getD (.raw (.pointer none))=pv:=⟨_,rfl⟩
 obtain⟨q,hq1,hq2,hq3⟩:∃q,((pv= .raw (.pointer none)∧q=false)∨∃xs k,pv= .aY xs k∧q=true)∧(q=false→dq (dZ n p.stack) kv=none)∧(q=true→∃vs c,pv= .aY (dE n (b7 T tb p0 n p.stack) vs c) 0∧Good T tb p0 Φ pv n p.stack c):=by
  cases hl:dq (dZ n p.stack) kv with
  |none=>exact⟨false,.inl ⟨by rw[←hpv,hl];rfl,rfl⟩,fun _=>rfl,fun h=>(by cases h)⟩
  |some v=>
   obtain⟨c,hg⟩:=hok.xY R h12 hΦ hop hl
   have hvv:pv=v:=by rw[←hpv,hl];rfl
   obtain⟨vs,cs,e1,_⟩:=hg.parts
   exact⟨true,.inr ⟨_,_,hvv.trans e1,rfl⟩,fun h=>(by cases h),fun _=>⟨vs,c,hvv.trans e1,hvv▸hg⟩⟩
 have hjl:=(List.getElem?_eq_some_iff.1 hj).1
 refine cw Tryz.func158 rfl Tryz.ntmps158 rfl<|aP<|cp (cS.to (fS rfl rfl rfl) (p':=.ptr (rest.length+8) 0) (σ'':=P8 T tbs p1 j kv (rest++[some (.cells 66 (eh p))])) rfl rfl) rfl<|av 1 rfl<|aG [0,2,3,4,5,6,7,9] rfl ?_
 obtain⟨r1,hr1⟩:∃r1,rest++[some (.cells 66 (eh p))]=r1:=⟨_,rfl⟩
 have l1:r1.length=rest.length+1:=by rw[←hr1];simp
 have k1:iu j rest r1:=hr1▸(iu.refl j rest).app _
 have b1:r1[rest.length]? =some (some (.cells 66 (eh p))):=hr1▸fW rfl
 have j1:r1[j]? =some (eT L):=hr1▸cq hj
 rw[hr1]
 refine ab (.a 2 rfl<|.v (dj rfl (bI.tk.get rfl) rfl b1 rfl) rfl<|.c rfl (Fh n p.stack (by omega) hsm hsl) rfl<|.a 1 rfl<|.k [0,2,3,4,5,6,7,9,11] rfl)<|ah<|ab (.a 2 rfl<|.v (uX Ju rfl JY KR rfl rfl rfl (o4 _) hpv) rfl<|.a 1 rfl<|.k [0,2,3,4,5,6,7,9,11,12] rfl)<|ab (.a 1 rfl<|.v (I9 rfl (bI.pk.get rfl) rfl rfl hq1) rfl<|.k [0,2,3,4,5,6,7,9,11,12,26] rfl)<|ag rfl (fun hc=>?_) (fun hc=>?_)
 ·obtain⟨vs0,c0,e0,hg0⟩:=hq3 hc
  subst e0
  refine aP<|av 7 rfl<|bg (cS.to (cK rfl (bI.tk.get rfl) rfl rfl rfl (Nat.le_of_ble_eq_true rfl)) (σ'':=P8 T tbs p1 j kv r1) rfl rfl) rfl rfl<|aG [12] rfl ?_
  exact ab (.a 2 rfl<|.k [10] rfl)<|aq<|⟨_,aA.of rfl,c0,kv,L,j,r1,hg0,rfl,j1,k1,.inl rfl,hok⟩
 ·have hno:=tC (hq2 hc)
  have hno2:=oN (p:=PV.ptr (rest.length+1+8) 0) (hq2 hc)
  refine ai<|aP<|av 2 rfl<|cp (cS.to (fS rfl rfl rfl) (p':=.ptr (rest.length+1+8) 0) (σ'':=P8 T tbs p1 j kv (r1++[some (.cells 152 [num n,num 0,.raw (.slice none 0 0),.raw (.slice none 0 0),flag true,num 0])])) (by rw[←l1];rfl) rfl) rfl<|av 1 rfl<|aG [0,2,3,4,5,6,7,9,11,13] rfl ?_
  obtain⟨r2,hr2⟩:∃r2,r1++[some (.cells 152 [num n,num 0,.raw (.slice none 0 0),.raw (.slice none 0 0),flag true,num 0])]=r2:=⟨_,rfl⟩
  have l2:r2.length=rest.length+2:=by rw[←hr2];simp[l1]
  have k2:iu j rest r2:=hr2▸k1.app _
  have b2:r2[rest.length]? =some (some (.cells 66 (eh p))):=hr2▸cq b1
  have x2:r2[rest.length+1]? =some (some (.cells 152 [num n,num 0,.raw (.slice none 0 0),.raw (.slice none 0 0),flag true,num 0])):=hr2▸fW l1
  have j2:r2[j]? =some (eT L):=hr2▸cq j1
  rw[hr2]
  refine aP<|av 3 rfl<|bg (cS.to (oO Ju rfl JY rfl rfl rfl (o4 _) rfl) (σ'':=P8 T tbs p1 j (kv++[(dZ n p.stack,PV.ptr (rest.length+1+8) 0)]) r2) rfl (by rw[←hno2];rfl)) rfl rfl<|aG [0,3,4,5,6,7,9,13] rfl ?_
  have hfew:=hok.KE R h12 hU
  have hlen:=hok.len
  refine aP<|av 3 rfl<|cp (cS.to (σ:=P8 T tbs p1 j (kv++[(dZ n p.stack,PV.ptr (rest.length+1+8) 0)]) r2) (bA (m:=1) (n:=L.length) (xs:=L) rfl (bI.rk.get rfl) rfl j2 rfl rfl ⟨by unfold maxLen;omega,by omega⟩) (p':=.own (rest.length+2+8)) (σ'':=P8 T tbs p1 j (kv++[(dZ n p.stack,PV.ptr (rest.length+1+8) 0)]) (r2.set j none++[eT (L++[PV.ptr (rest.length+1+8) 0])])) (by rw[←l2];rfl) (by unfold eT;rw[List.length_append];rfl)) rfl<|bg (cS.to (cK rfl (bI.tk.get rfl) rfl rfl rfl (Nat.le_of_ble_eq_true rfl)) (σ'':=P8 T tbs p1 (rest.length+2) (kv++[(dZ n p.stack,PV.ptr (rest.length+1+8) 0)]) (r2.set j none++[eT (L++[PV.ptr (rest.length+1+8) 0])])) rfl rfl) rfl rfl<|aG [0,3,5,6,7,9,13] rfl ?_
  obtain⟨r3,hr3⟩:∃r3,r2.set j none++[eT (L++[PV.ptr (rest.length+1+8) 0])]=r3:=⟨_,rfl⟩
  have l3:r3.length=rest.length+3:=by rw[←hr3];simp[l2]
  have k3:iu j rest r3:=hr3▸(k2.put (.inl rfl) _).app _
  have b3:r3[rest.length]? =some (some (.cells 66 (eh p))):=hr3▸cq (aH b2 (by omega))
  have x3:r3[rest.length+1]? =some (some (.cells 152 [num n,num 0,.raw (.slice none 0 0),.raw (.slice none 0 0),flag true,num 0])):=hr3▸cq (aH x2 (by omega))
  have j3:r3[rest.length+2]? =some (eT (L++[PV.ptr (rest.length+1+8) 0])):=hr3▸fW (by simp[l2])
  rw[hr3]
  have hok3:=hok.push (i:=rest.length+1) hΦ hno
  obtain⟨kv3,hkv3⟩:∃k,kv++[(dZ n p.stack,PV.ptr (rest.length+1+8) 0)]=k:=⟨_,rfl⟩
  obtain⟨L3,hL3⟩:∃k,L++[PV.ptr (rest.length+1+8) 0]=k:=⟨_,rfl⟩
  rw[hkv3,hL3]at hok3
  rw[hL3]at j3
  rw[hkv3]
  refine aP<|av 1 rfl<|bg (cS.to (σ:=P8 T tbs p1 (rest.length+2) kv3 r3) (cK rfl (bI.tk.get rfl) rfl rfl b3 (Nat.le_of_ble_eq_true rfl)) (σ'':=P8 T tbs p1 (rest.length+2) kv3 (r3.set rest.length (some (.cells 66 (eh (de p p.stack)))))) rfl rfl) rfl rfl<|aG [0,3,5,6,7,9,13] rfl ?_
  obtain⟨r4,hr4⟩:∃r4,r3.set rest.length (some (.cells 66 (eh (de p p.stack))))=r4:=⟨_,rfl⟩
  have l4:r4.length=rest.length+3:=by rw[←hr4];simp[l3]
  have k4:iu j rest r4:=hr4▸k3.put (.inr (Nat.le_refl _)) _
  have b4:r4[rest.length]? =some (some (.cells 66 (eh (de p p.stack)))):=hr4▸bR b3
  have x4:r4[rest.length+1]? =some (some (.cells 152 [num n,num 0,.raw (.slice none 0 0),.raw (.slice none 0 0),flag true,num 0])):=hr4▸aH x3 (by omega)
  have j4:r4[rest.length+2]? =some (eT L3):=hr4▸aH j3 (by omega)
  rw[hr4]
  refine aP<|cp (cS.to (uA rfl (bI.zk.get rfl)) (p':=.ptr (rest.length+3+8) 0) (σ'':=P8 T tbs p1 (rest.length+2) kv3 (r4++[some (.cells 66 [num 0,num 0,num 0,num 0,.raw (.slice none 0 0),num 0])])) (by rw[←l4];rfl) rfl) rfl<|aG [0,3,5,6,7,9,13,14] rfl ?_
  obtain⟨r5,hr5⟩:∃r5,r4++[some (.cells 66 [num 0,num 0,num 0,num 0,.raw (.slice none 0 0),num 0])]=r5:=⟨_,rfl⟩
  have l5:r5.length=rest.length+4:=by rw[←hr5];simp[l4]
  have k5:iu j rest r5:=hr5▸k4.app _
  have b5:r5[rest.length]? =some (some (.cells 66 (eh (de p p.stack)))):=hr5▸cq b4
  have x5:r5[rest.length+1]? =some (some (.cells 152 [num n,num 0,.raw (.slice none 0 0),.raw (.slice none 0 0),flag true,num 0])):=hr5▸cq x4
  have j5:r5[rest.length+2]? =some (eT L3):=hr5▸cq j4
  have n5:r5[rest.length+3]? =some (some (.cells 66 [num 0,num 0,num 0,num 0,.raw (.slice none 0 0),num 0])):=hr5▸fW l4
  rw[hr5]
  have hO:dy T (tb n) (de p p.stack)=b7 T tb p0 n p.stack:=by rw[hp];rfl
  have hbr:=R.step hΦ
  have hpk:=fun h=>J4.fH R hΦ h
  obtain⟨O,hOO⟩:∃O,b7 T tb p0 n p.stack=O:=⟨_,rfl⟩
  rw[hOO]at hO hbr hpk
  have htn:=htb n hnn
  have htl:=(List.getElem?_eq_some_iff.1 htn).1
  have hal:O.aK.length≤1000:=by
   rcases hbr with h|⟨h,_⟩
   ·rw[h];simp
   ·exact h
  refine ID 20 3 (P8 T tbs p1 (rest.length+2) kv3 r5::P8 T tbs p1 (rest.length+2) kv3 (r5.set (rest.length+1) (some (.cells 152 [num n,num 0,aw O.aK,.raw (.slice none 0 0),flag true,num 0])))::P8 T tbs p1 (rest.length+2) kv3 ((r5.set (rest.length+1) (some (.cells 152 [num n,num 0,aw O.aK,.raw (.slice none 0 0),flag true,num 0]))).set (rest.length+3) (some (.cells 66 (eh O.fH))))::P8 T tbs p1 (rest.length+2) kv3 (((r5.set (rest.length+1) (some (.cells 152 [num n,num 0,aw O.aK,.raw (.slice none 0 0),flag true,num 0]))).set (rest.length+3) (some (.cells 66 (eh O.fH)))).set (rest.length+1) (some (.cells 152 [num n,num O.dT,aw O.aK,.raw (.slice none 0 0),flag true,num 0])))::[]) (⟨_,none,0,0⟩::⟨_,none,0,2⟩::⟨aN T,none,0,0⟩::⟨_,none,0,0⟩::⟨_,none,0,0⟩::⟨_,none,0,0⟩::⟨fZ (tb n),none,0,0⟩::⟨fr (de p p.stack),none,0,0⟩::⟨Cm O,none,0,0⟩::⟨Cm O,none,0,0⟩::⟨aw O.aK,none,0,0⟩::⟨fr O.fH,none,0,1⟩::⟨num O.dT,none,0,2⟩::⟨_,none,0,0⟩::⟨_,none,0,0⟩::⟨_,some 0,0,0⟩::⟨_,some 1,0,0⟩::⟨_,none,2,2⟩::⟨_,none,2,2⟩::⟨_,some 2,0,0⟩::[]) _ mixed ?grd1 rfl rfl rfl rfl (.cons (.val [13] rfl rfl (yz (fq (bH rfl) gY)) rfl rfl)<|.cons (.val [13] rfl rfl (yz (fq (bH rfl) (fq (bH rfl) (fq (bH rfl) gY)))) rfl rfl)<|.cons (.val [5] rfl rfl (yz (fq (bH rfl) gY)) rfl rfl)<|.cons (.val [6] rfl rfl (yz (fq (bH rfl) gY)) rfl rfl)<|.cons (.val [0] rfl rfl (yz (fq (bH rfl) gY)) rfl rfl)<|.cons (.val [50,51] rfl rfl (yz (fq (aJ ((n*3)) rfl) gY)) rfl rfl)<|.cons (.val [52] rfl rfl (yz (fq (gO rfl (ui tbs n (tb n) htn) rfl) gY)) rfl rfl)<|.cons (.val [9] rfl rfl (yz (fq (gI (σ:=P8 T tbs p1 (rest.length+2) kv3 r5) (blk:=.cells 66 (eh (de p p.stack))) rfl (bI.tk.get rfl) rfl b5 rfl) gY)) rfl rfl)<|.cons (.val [49,53,54] rfl rfl (yz (fq (dJ rfl (hO▸Eh T (tb n) (de p p.stack) hsl)) gY)) rfl rfl)<|.cons (.val [55] rfl rfl (yz (fq (bH rfl) gY)) rfl rfl)<|.cons (.val [46] rfl rfl (yz (fq (bH rfl) gY)) rfl rfl)<|.cons (.val [46] rfl rfl (yz (fq (bH rfl) (fq (bH rfl) gY))) rfl rfl)<|.cons (.val [46] rfl rfl (yz (fq (bH rfl) (fq (bH rfl) (fq (bH rfl) gY)))) rfl rfl)<|.cons (.val [47] rfl rfl (yz (fq (bH rfl) gY)) rfl rfl)<|.cons (.val [59] rfl rfl (yz (fq (bH rfl) gY)) rfl rfl)<|.cons (.p9 [56,60] rfl rfl rfl rfl (cS.to (σ:=P8 T tbs p1 (rest.length+2) kv3 r5) (σ'':=P8 T tbs p1 (rest.length+2) kv3 (r5.set (rest.length+1) (some (.cells 152 [num n,num 0,aw O.aK,.raw (.slice none 0 0),flag true,num 0])))) (cK rfl (bI.tk.get rfl) rfl rfl x5 (Nat.le_of_ble_eq_true rfl)) rfl rfl) rfl)<|.cons (.p9 [14,57] rfl rfl rfl rfl (cS.to (σ:=P8 T tbs p1 (rest.length+2) kv3 (r5.set (rest.length+1) (some (.cells 152 [num n,num 0,aw O.aK,.raw (.slice none 0 0),flag true,num 0])))) (σ'':=P8 T tbs p1 (rest.length+2) kv3 ((r5.set (rest.length+1) (some (.cells 152 [num n,num 0,aw O.aK,.raw (.slice none 0 0),flag true,num 0]))).set (rest.length+3) (some (.cells 66 (eh O.fH))))) (vE (ys:=eh O.fH) rfl (bI.tk.get rfl) rfl rfl rfl rfl (aH n5 (by omega)) (Nat.le_of_ble_eq_true rfl)) rfl rfl) rfl)<|.cons (.val [48] rfl rfl (yz (fq (bH rfl) gY)) rfl rfl)<|.cons (.val [61] rfl rfl (yz (fq (bH rfl) gY)) rfl rfl)<|.cons (.p9 [58,62] rfl rfl rfl rfl (cS.to (σ:=P8 T tbs p1 (rest.length+2) kv3 ((r5.set (rest.length+1) (some (.cells 152 [num n,num 0,aw O.aK,.raw (.slice none 0 0),flag true,num 0]))).set (rest.length+3) (some (.cells 66 (eh O.fH))))) (σ'':=P8 T tbs p1 (rest.length+2) kv3 (((r5.set (rest.length+1) (some (.cells 152 [num n,num 0,aw O.aK,.raw (.slice none 0 0),flag true,num 0]))).set (rest.length+3) (some (.cells 66 (eh O.fH)))).set (rest.length+1) (some (.cells 152 [num n,num O.dT,aw O.aK,.raw (.slice none 0 0),flag true,num 0])))) (cK rfl (bI.tk.get rfl) rfl rfl (aH (bR x5) (by omega)) (Nat.le_of_ble_eq_true rfl)) rfl rfl) rfl) .nil) (bm (ks:=[3,5,7,13,14]) rfl) ?_
  case grd1=>kernel_rfl
  obtain⟨r6,hr6⟩:∃r6,((r5.set (rest.length+1) (some (.cells 152 [num n,num 0,aw O.aK,.raw (.slice none 0 0),flag true,num 0]))).set (rest.length+3) (some (.cells 66 (eh O.fH)))).set (rest.length+1) (some (.cells 152 [num n,num O.dT,aw O.aK,.raw (.slice none 0 0),flag true,num 0]))=r6:=⟨_,rfl⟩
  have l6:r6.length=rest.length+4:=by rw[←hr6];simp[l5]
  have k6:iu j rest r6:=hr6▸((k5.put (.inr (by omega)) _).put (.inr (by omega)) _).put (.inr (by omega)) _
  have x6:r6[rest.length+1]? =some (some (.cells 152 [num n,num O.dT,aw O.aK,.raw (.slice none 0 0),flag true,num 0])):=hr6▸bR (aH (bR x5) (by omega))
  have j6:r6[rest.length+2]? =some (eT L3):=hr6▸aH (aH (aH j5 (by omega)) (by omega)) (by omega)
  have n6:r6[rest.length+3]? =some (some (.cells 66 (eh O.fH))):=hr6▸aH (bR (aH n5 (by omega))) (by omega)
  rw[hr6]
  refine ah<|ab (.a 3 rfl<|.v (dj rfl (bI.tk.get rfl) rfl x6 rfl) rfl<|.a 2 rfl<|.k [3,5,7,13,14,68] rfl)<|ag rfl (fun hc=>?_) (fun hc=>?_)
  ·have harc:O.aK=[]:=List.eq_nil_of_length_eq_zero (by have:=tt hc;omega)
   refine bF<|av 3 rfl<|bg (cS.to (σ:=P8 T tbs p1 (rest.length+2) kv3 r6) (cK rfl (bI.tk.get rfl) rfl rfl x6 (Nat.le_of_ble_eq_true rfl)) (σ'':=P8 T tbs p1 (rest.length+2) kv3 (r6.set (rest.length+1) (some (.cells 152 [num n,num O.dT,aw O.aK,.raw (.slice none 0 0),flag true,num 1])))) rfl rfl) rfl rfl<|aG [3,5,7,13,14] rfl ?_
   obtain⟨r7,hr7⟩:∃r7,r6.set (rest.length+1) (some (.cells 152 [num n,num O.dT,aw O.aK,.raw (.slice none 0 0),flag true,num 1]))=r7:=⟨_,rfl⟩
   have x7:r7[rest.length+1]? =some (some (.cells 152 [num n,num O.dT,aw O.aK,.raw (.slice none 0 0),flag true,num (jv O.aK [])])):=by
    rw[←hr7,bR x6];unfold jv;rw[if_pos harc]
   replace l6:r7.length=rest.length+4:=by rw[←hr7];simp[l6]
   replace k6:iu j rest r7:=hr7▸k6.put (.inr (by omega)) _
   replace j6:r7[rest.length+2]? =some (eT L3):=hr7▸aH j6 (by omega)
   replace n6:r7[rest.length+3]? =some (some (.cells 66 (eh O.fH))):=hr7▸aH n6 (by omega)
   rw[hr7]
   refine ah<|ab (.a 3 rfl<|.v (dj rfl (bI.tk.get rfl) rfl x7 rfl) rfl<|.a 2 rfl<|.k [3,5,7,13,14,75,76,77] rfl)<|au<|eu [3,5,7,13,14,75,76,77] rfl<|cn (rest.length+1+8) 3 147 1 x7 rfl ?_
   have hz:(P8 T tbs p1 (rest.length+2) kv3 r7).length=rest.length+4+8:=by rw[←l6];rfl
   rw[hz]
   refine er (σ':=P8 T tbs p1 (rest.length+2) kv3 ((r7++[eT []]).set (rest.length+1) (some (.cells 152 [num n,num O.dT,aw O.aK,.own (rest.length+4+8),flag true,num (jv O.aK [])])))) rfl ?_
   refine bf (fun r st=>∃(k:Nat) (kv':List (List UInt8×PV)) (L':List PV) (j' jr:Nat) (rest':cm) (vs:List PV) (cs:List Int),k≤O.aK.length∧r=O.aK.length - k∧J4 T tb p0 Φ op j rest n p.stack kv' L' j' jr rest' k vs cs∧st=⟨[(3,.ptr 6 0),(5,.ptr 0 0),(7,.ptr 7 0),(13,.ptr (rest.length+1+8) 0),(14,.ptr (rest.length+3+8) 0),(75,aw O.aK),(76,num O.aK.length),(77,num k)],P8 T tbs p1 j' kv' rest'⟩) O.aK.length ⟨0,kv3,L3,rest.length+2,rest.length+4,_,[],[],Nat.zero_le _,rfl,⟨(k6.app _).put (.inr (by omega)) _,by simp[l6],by rw[hOO];exact bR (cq x7),by rw[hOO];exact aH (cq n6) (by omega),aH (fW l6) (by omega),aH (cq j6) (by omega),by omega,.inl rfl,by omega,hok3,rfl,rfl,fun i hi=>absurd hi (Nat.not_lt_zero i)⟩,rfl⟩ ?_
   rintro r st ⟨k,kv',L',j',jr,rest',vs,cs,hk,rfl,V,rfl⟩
   have vx:=V.x
   have vn:=V.nb
   have vr:=V.row
   have va:=V.al
   have vlen:=V.len
   have vj:=V.j1
   have vjr:=V.KJ
   have vne:=V.ne
   have vrl:=(List.getElem?_eq_some_iff.1 vr).1
   rw[hOO]at vx vn
   refine ab (.a 1 rfl<|.k [3,5,7,13,14,75,76,77,78] rfl)<|ah<|ag rfl (fun hc=>?_) (fun hc=>?_)
   ·have hlt:k<O.aK.length:=by have:=tt hc;omega
    have hne:O.aK≠[]:=fun h=>by rw[h]at hlt;simp at hlt
    have hst:∀a∈O.aK,∃b m:Nat,a=(b:Int)∧b<2*T.ae.length∧aW T b=(m:Int)∧∃u',u'<u∧Φ u' m O.fH.stack:=by
     rcases hbr with h|⟨_,_,h⟩
     ·exact absurd h hne
     ·exact h
    have hmem:O.aK.getD k 0∈O.aK:=bO hlt
    obtain⟨b,m,hab,hb,hm,u',hu',hΦ'⟩:=hst _ hmem
    have hop':∀x∈(rest.length+1,n,p.stack)::op,FJ T tb p0 x.2.1 x.2.2 m O.fH.stack:=fun x hx=>by
     have ha:O.aK.getD k 0∈(b7 T tb p0 n p.stack).aK:=by rw[hOO];exact hmem
     have hm':aW T (O.aK.getD k 0).toNat=(m:Int):=by rw[hab,Int.toNat_natCast];exact hm
     rw[←hOO]
     rcases List.mem_cons.1 hx with rfl|hx
     ·exact .one ha hm'
     ·exact .more (hop x hx) ha hm'
    have hll:=bJ hv
    refine ai<|ah<|au<|ab (.v (aJ (k) rfl) rfl<|.v (aL rfl ((ax _ k hlt).trans (by rw[hab]))) rfl<|.a 1 rfl<|.k [3,5,7,13,14,16,75,76,77] rfl)<|ah<|ab (.a 1 rfl<|.k [3,5,7,13,14,16,75,76,77,81] rfl)<|ag rfl (fun hc=>?_) (fun hc=>?_)
    ·cases hc
    ·refine ai<|Ib 5 20 [82,83,84,85,86] mixed (by kernel_rfl) (by kernel_rfl) (by kernel_rfl) rfl (.a 3 rfl<|.v [83,84] (dJ rfl ((show Can Tryz.prog 150 [aN T,num b] (· =num m) by have h:=fQ T b hb (by omega);rw[hm]at h;exact h))) rfl rfl<|.v [14] (gI (σ:=P8 T tbs p1 j' kv' rest') (blk:=.cells 66 (eh O.fH)) rfl (bI.tk.get rfl) rfl vn rfl) rfl rfl<|.k [3,5,7,13,14,75,76,77,82,85,86] rfl) ?_
     refine cP rfl rfl (bS.mono (ih u' hu' m O.fH hΦ' (hpk hne) ((rest.length+1,n,p.stack)::op) kv' L' j' rest' va V.ok hop') (fun y σ' h=>?_))
     obtain⟨c,kv4,L4,j4',r8,hg,rfl,a8,k8,hj8,hok8⟩:=h
     refine av 1 rfl<|aG [3,5,7,13,14,17,75,76,77] rfl ?_
     obtain⟨vs1,cs1,hgv,_,_,_,_⟩:=hg.parts
     subst hgv
     have l8:=k8.len
     have x8:r8[rest.length+1]? =some (some (.cells 152 [num n,num O.dT,aw O.aK,.own (jr+8),flag true,num (jv O.aK cs)])):=(k8.same _ (by omega) (by omega)).trans vx
     have n8:r8[rest.length+3]? =some (some (.cells 66 (eh O.fH))):=(k8.same _ (by omega) (by omega)).trans vn
     have w8:r8[jr]? =some (eT vs):=(k8.same _ vrl (by omega)).trans vr
     have kk8:iu j rest r8:=V.Hr.trans k8 (by omega)
     have hgb:=hg.bound
     have hlv:=V.lv
     have hlc:=V.lc
     have e8:j4'≠jr:=by omega
     have x8b:(r8.set jr none++[eT (vs++[PV.aY (dE m (b7 T tb p0 m O.fH.stack) vs1 c) 0])])[rest.length+1]? =some (some (.cells 152 [num n,num O.dT,aw O.aK,.own (jr+8),flag true,num (jv O.aK cs)])):=cq (aH x8 (by omega))
     refine aP<|av 4 rfl ?_
     refine bC (dj rfl (bI.tk.get rfl) rfl x8 rfl) rfl ?_
     refine av 1 rfl ?_
     refine bC (aU (xs:=[PV.aY (dE m (b7 T tb p0 m O.fH.stack) vs1 c) 0]) rfl (bI.sl.get rfl) ⟨Nat.le_of_ble_eq_true rfl,Nat.le_of_ble_eq_true rfl⟩ rfl rfl) rfl ?_
     refine cp (cS.to (σ:=P8 T tbs p1 j4' kv4 r8) (bA (e:=147) (s:=1) (by':=8) (i:=jr+8) (m:=1) (n:=vs.length) (xs:=vs) (ys:=[PV.aY (dE m (b7 T tb p0 m O.fH.stack) vs1 c) 0]) rfl (bI.rk.get rfl) rfl w8 rfl rfl ⟨by unfold maxLen;omega,by omega⟩) (p':=.own (r8.length+8)) (σ'':=P8 T tbs p1 j4' kv4 (r8.set jr none++[eT (vs++[PV.aY (dE m (b7 T tb p0 m O.fH.stack) vs1 c) 0])])) rfl (by unfold eT;rw[List.length_append];rfl)) rfl ?_
     refine av 2 rfl ?_
     refine bg (cS.to (σ:=P8 T tbs p1 j4' kv4 (r8.set jr none++[eT (vs++[PV.aY (dE m (b7 T tb p0 m O.fH.stack) vs1 c) 0])])) (cK rfl (bI.tk.get rfl) rfl rfl x8b (Nat.le_of_ble_eq_true rfl)) (σ'':=P8 T tbs p1 j4' kv4 ((r8.set jr none++[eT (vs++[PV.aY (dE m (b7 T tb p0 m O.fH.stack) vs1 c) 0])]).set (rest.length+1) (some (.cells 152 [num n,num O.dT,aw O.aK,.own (r8.length+8),flag true,num (jv O.aK cs)])))) rfl rfl) rfl rfl ?_
     refine aG [3,5,7,13,14,17,75,76,77] rfl ?_
     obtain⟨r9,hr9⟩:∃r9,(r8.set jr none++[eT (vs++[PV.aY (dE m (b7 T tb p0 m O.fH.stack) vs1 c) 0])]).set (rest.length+1) (some (.cells 152 [num n,num O.dT,aw O.aK,.own (r8.length+8),flag true,num (jv O.aK cs)]))=r9:=⟨_,rfl⟩
     have l9:r9.length=r8.length+1:=by rw[←hr9];simp
     have kk9:iu j rest r9:=hr9▸((kk8.put (.inr (by omega)) _).app _).put (.inr (by omega)) _
     have x9:r9[rest.length+1]? =some (some (.cells 152 [num n,num O.dT,aw O.aK,.own (r8.length+8),flag true,num (jv O.aK cs)])):=hr9▸bR x8b
     have n9:r9[rest.length+3]? =some (some (.cells 66 (eh O.fH))):=hr9▸aH (cq (aH n8 (by omega))) (by omega)
     have w9:r9[r8.length]? =some (eT (vs++[PV.aY (dE m (b7 T tb p0 m O.fH.stack) vs1 c) 0])):=hr9▸aH (fW (by simp)) (by omega)
     have a9:r9[j4']? =some (eT L4):=hr9▸aH (cq (aH a8 (by omega))) (by omega)
     rw[hr9]
     have hcb:0≤jv O.aK cs∧jv O.aK cs≤1001:=by
      unfold jv
      rw[if_neg hne]
      refine mF cs 0 (by omega) (by omega) fun z hz=>?_
      obtain⟨i,hi⟩:=List.getElem?_of_mem hz
      have hil:=(List.getElem?_eq_some_iff.1 hi).1
      have:=(V.ch i (by omega)).bound.1
      rwa [List.getD_eq_getElem?_getD,hi]at this
     have hbs:jv O.aK (cs++[c])=min (jv O.aK cs+c) 1001:=by unfold jv;rw[if_neg hne,if_neg hne,xf]
     refine dp 13 20 mixed (
      .val [13] rfl (bH rfl) rfl rfl<|
      .val [13] rfl (bH rfl) rfl rfl<|
      .val [99] rfl (bH rfl) rfl rfl<|
      .val [100] rfl (bH rfl) rfl rfl<|
      .val [101] rfl (dj rfl (bI.tk.get rfl) rfl x9 rfl) rfl rfl<|
      .val [17] rfl (bH rfl) rfl rfl<|
      .val [103] rfl (bH rfl) rfl rfl<|
      .val [104] rfl (bH rfl) rfl rfl<|
      .val [105] rfl (aL rfl (rfl)) rfl rfl<|
      .val [102,106] rfl (aS rfl) rfl rfl<|
      .val [107] rfl (sS rfl rfl rfl (hbs.symm)) rfl rfl<|
      .val [98] rfl (bH rfl) rfl rfl<|
      .val [109] rfl (bH rfl) rfl rfl<|
      .nil) (by kernel_rfl) rfl rfl (bm (ks:=[3,5,7,13,14,75,76,77,108,110]) rfl) ?_
     refine bg (cS.to (σ:=P8 T tbs p1 j4' kv4 r9) (cK rfl (bI.tk.get rfl) rfl rfl x9 (Nat.le_of_ble_eq_true rfl)) (σ'':=P8 T tbs p1 j4' kv4 (r9.set (rest.length+1) (some (.cells 152 [num n,num O.dT,aw O.aK,.own (r8.length+8),flag true,num (jv O.aK (cs++[c]))])))) rfl rfl) rfl rfl<|aG [3,5,7,13,14,75,76,77] rfl ?_
     refine az (.v (aS rfl) rfl<|.a 1 rfl<|.k [3,5,7,13,14,75,76,77] rfl) ?_
     refine⟨O.aK.length - (k+1),by omega,k+1,kv4,L4,j4',r8.length,_,vs++[PV.aY (dE m (b7 T tb p0 m O.fH.stack) vs1 c) 0],cs++[c],by omega,rfl,⟨kk9.put (.inr (by omega)) _,by simp[l9];omega,by rw[hOO];exact bR x9,by rw[hOO];exact aH n9 (by omega),aH w9 (by omega),aH a9 (by omega),by omega,by omega,?_,hok8,by simp[hlv],by simp[hlc],fun i hi=>?_⟩,rfl⟩
     ·have:=(List.getElem?_eq_some_iff.1 a8).1;omega
     ·by_cases hik:i<k
      ·have h1:(vs++[PV.aY (dE m (b7 T tb p0 m O.fH.stack) vs1 c) 0]).getD i .any=vs.getD i .any:=by rw[List.getD_eq_getElem?_getD,List.getD_eq_getElem?_getD,List.getElem?_append_left (by omega)]
       have h2:(cs++[c]).getD i 0=cs.getD i 0:=by rw[List.getD_eq_getElem?_getD,List.getD_eq_getElem?_getD,List.getElem?_append_left (by omega)]
       rw[h1,h2]
       exact V.ch i hik
      ·obtain rfl:i=k:=by omega
       have h1:(vs++[PV.aY (dE m (b7 T tb p0 m O.fH.stack) vs1 c) 0]).getD i .any=PV.aY (dE m (b7 T tb p0 m O.fH.stack) vs1 c) 0:=by rw[List.getD_eq_getElem?_getD,fW hlv];rfl
       have h2:(cs++[c]).getD i 0=c:=by rw[List.getD_eq_getElem?_getD,fW hlc];rfl
       rw[h1,h2,hOO,hab,Int.toNat_natCast,hm,Int.toNat_natCast]
       exact hg
   ·have hke:k=O.aK.length:=by have:=ff hc;omega
    refine ba<|aP<|av 3 rfl<|bg (cS.to (σ:=P8 T tbs p1 j' kv' rest') (cK rfl (bI.tk.get rfl) rfl rfl vx (Nat.le_of_ble_eq_true rfl)) (σ'':=P8 T tbs p1 j' kv' (rest'.set (rest.length+1) (some (.cells 152 [num n,num O.dT,aw O.aK,.own (jr+8),flag false,num (jv O.aK cs)])))) rfl rfl) rfl rfl<|aG [13] rfl ?_
    subst hke
    have hlv:=V.lv
    have hlc:=V.lc
    have hgood:Good T tb p0 Φ (.aY (dE n O vs (jv O.aK cs)) 0) n p.stack (jv O.aK cs):=by
     have:=Good.mk (T:=T) (tb:=tb) (p0:=p0) (Φ:=Φ) (vs:=vs) (cs:=cs) hΦ (by rw[hOO];exact hlv) (by rw[hOO];exact hlc) (fun i hi=>by rw[hOO]at hi;exact V.ch i hi)
     rwa [hOO]at this
    obtain⟨kv9,L9,hok9,hk9,hf9,hL9⟩:=nv.close (ty:=152) V.ok hgood
    refine wE (jr+8) (σ':=P8 T tbs p1 j' kv' ((rest'.set jr none).set (rest.length+1) (some (.cells 152 (dE n O vs (jv O.aK cs)))))) (aH vr (by omega)) (uw (by simp) (aH (bR vr) (by omega)) (fun z hz=>?_) rfl (kK.refl _)) (.cons 13 rfl (.same _) .nil) ?_
    ·by_cases h1:z=rest.length+1
     ·subst h1
      exact .inr ⟨_,_,bR vx,bR (aH vx (by omega)),.cells (.cons (.same _)<|.cons (.same _)<|.cons (.same _)<|.cons .own<|.cons (.same _)<|.cons (.same _) .nil)⟩
     ·refine .inl ?_
      rw[List.getElem?_set,if_neg (by omega),List.getElem?_set,if_neg (by omega),List.getElem?_set,if_neg (by omega)]
    refine wE (rest.length+1+8) (σ':=P8 T tbs p1 j' kv9 ((((rest'.set jr none).set (rest.length+1) (some (.cells 152 (dE n O vs (jv O.aK cs))))).set (rest.length+1) none).set j' (eT L9))) (bR (aH vx (by omega))) (uw (by simp) (aH (bR (bR (aH vx (by omega)))) (by omega)) (fun z hz=>?_) hk9 hf9) (.cons 13 rfl (.ptr 0) .nil) ?_
    ·by_cases h1:z=j'
     ·subst h1
      refine .inr ⟨_,_,aH (aH va (by omega)) (by omega),bR (aH (aH (aH va (by omega)) (by omega)) (by omega)),?_⟩
      have:=hL9.1
      rw[this]
      exact .row hL9
     ·refine .inl ?_
      rw[List.getElem?_set,if_neg (by omega),List.getElem?_set,if_neg (by omega)]
    refine ab (.a 2 rfl<|.k [10] rfl)<|aq<|⟨_,aA.of rfl,jv O.aK cs,kv9,L9,j',_,hgood,rfl,?_,?_,by omega,hok9⟩
    ·exact bR (aH (aH (aH va (by omega)) (by omega)) (by omega))
    ·exact(((V.Hr.put (.inr (by omega)) _).put (.inr (by omega)) _).put (.inr (by omega)) _).put (by omega) _
  ·have harc:O.aK≠[]:=fun h=>by have:=ff hc;rw[h]at this;simp at this
   have x7:r6[rest.length+1]? =some (some (.cells 152 [num n,num O.dT,aw O.aK,.raw (.slice none 0 0),flag true,num (jv O.aK [])])):=by rw[x6];unfold jv;rw[if_neg harc];rfl
   obtain⟨r7,hr7⟩:∃r7,r6=r7:=⟨_,rfl⟩
   rw[hr7]at l6 k6 x7 j6 n6 ⊢
   refine ai<|ah<|ab (.a 3 rfl<|.v (dj rfl (bI.tk.get rfl) rfl x7 rfl) rfl<|.a 2 rfl<|.k [3,5,7,13,14,75,76,77] rfl)<|au<|eu [3,5,7,13,14,75,76,77] rfl<|cn (rest.length+1+8) 3 147 1 x7 rfl ?_
   have hz:(P8 T tbs p1 (rest.length+2) kv3 r7).length=rest.length+4+8:=by rw[←l6];rfl
   rw[hz]
   refine er (σ':=P8 T tbs p1 (rest.length+2) kv3 ((r7++[eT []]).set (rest.length+1) (some (.cells 152 [num n,num O.dT,aw O.aK,.own (rest.length+4+8),flag true,num (jv O.aK [])])))) rfl ?_
   refine bf (fun r st=>∃(k:Nat) (kv':List (List UInt8×PV)) (L':List PV) (j' jr:Nat) (rest':cm) (vs:List PV) (cs:List Int),k≤O.aK.length∧r=O.aK.length - k∧J4 T tb p0 Φ op j rest n p.stack kv' L' j' jr rest' k vs cs∧st=⟨[(3,.ptr 6 0),(5,.ptr 0 0),(7,.ptr 7 0),(13,.ptr (rest.length+1+8) 0),(14,.ptr (rest.length+3+8) 0),(75,aw O.aK),(76,num O.aK.length),(77,num k)],P8 T tbs p1 j' kv' rest'⟩) O.aK.length ⟨0,kv3,L3,rest.length+2,rest.length+4,_,[],[],Nat.zero_le _,rfl,⟨(k6.app _).put (.inr (by omega)) _,by simp[l6],by rw[hOO];exact bR (cq x7),by rw[hOO];exact aH (cq n6) (by omega),aH (fW l6) (by omega),aH (cq j6) (by omega),by omega,.inl rfl,by omega,hok3,rfl,rfl,fun i hi=>absurd hi (Nat.not_lt_zero i)⟩,rfl⟩ ?_
   rintro r st ⟨k,kv',L',j',jr,rest',vs,cs,hk,rfl,V,rfl⟩
   have vx:=V.x
   have vn:=V.nb
   have vr:=V.row
   have va:=V.al
   have vlen:=V.len
   have vj:=V.j1
   have vjr:=V.KJ
   have vne:=V.ne
   have vrl:=(List.getElem?_eq_some_iff.1 vr).1
   rw[hOO]at vx vn
   refine ab (.a 1 rfl<|.k [3,5,7,13,14,75,76,77,78] rfl)<|ah<|ag rfl (fun hc=>?_) (fun hc=>?_)
   ·have hlt:k<O.aK.length:=by have:=tt hc;omega
    have hne:O.aK≠[]:=fun h=>by rw[h]at hlt;simp at hlt
    have hst:∀a∈O.aK,∃b m:Nat,a=(b:Int)∧b<2*T.ae.length∧aW T b=(m:Int)∧∃u',u'<u∧Φ u' m O.fH.stack:=by
     rcases hbr with h|⟨_,_,h⟩
     ·exact absurd h hne
     ·exact h
    have hmem:O.aK.getD k 0∈O.aK:=bO hlt
    obtain⟨b,m,hab,hb,hm,u',hu',hΦ'⟩:=hst _ hmem
    have hop':∀x∈(rest.length+1,n,p.stack)::op,FJ T tb p0 x.2.1 x.2.2 m O.fH.stack:=fun x hx=>by
     have ha:O.aK.getD k 0∈(b7 T tb p0 n p.stack).aK:=by rw[hOO];exact hmem
     have hm':aW T (O.aK.getD k 0).toNat=(m:Int):=by rw[hab,Int.toNat_natCast];exact hm
     rw[←hOO]
     rcases List.mem_cons.1 hx with rfl|hx
     ·exact .one ha hm'
     ·exact .more (hop x hx) ha hm'
    have hll:=bJ hv
    refine ai<|ah<|au<|ab (.v (aJ (k) rfl) rfl<|.v (aL rfl ((ax _ k hlt).trans (by rw[hab]))) rfl<|.a 1 rfl<|.k [3,5,7,13,14,16,75,76,77] rfl)<|ah<|ab (.a 1 rfl<|.k [3,5,7,13,14,16,75,76,77,81] rfl)<|ag rfl (fun hc=>?_) (fun hc=>?_)
    ·cases hc
    ·refine ai<|Ib 5 20 [82,83,84,85,86] mixed (by kernel_rfl) (by kernel_rfl) (by kernel_rfl) rfl (.a 3 rfl<|.v [83,84] (dJ rfl ((show Can Tryz.prog 150 [aN T,num b] (· =num m) by have h:=fQ T b hb (by omega);rw[hm]at h;exact h))) rfl rfl<|.v [14] (gI (σ:=P8 T tbs p1 j' kv' rest') (blk:=.cells 66 (eh O.fH)) rfl (bI.tk.get rfl) rfl vn rfl) rfl rfl<|.k [3,5,7,13,14,75,76,77,82,85,86] rfl) ?_
     refine cP rfl rfl (bS.mono (ih u' hu' m O.fH hΦ' (hpk hne) ((rest.length+1,n,p.stack)::op) kv' L' j' rest' va V.ok hop') (fun y σ' h=>?_))
     obtain⟨c,kv4,L4,j4',r8,hg,rfl,a8,k8,hj8,hok8⟩:=h
     refine av 1 rfl<|aG [3,5,7,13,14,17,75,76,77] rfl ?_
     obtain⟨vs1,cs1,hgv,_,_,_,_⟩:=hg.parts
     subst hgv
     have l8:=k8.len
     have x8:r8[rest.length+1]? =some (some (.cells 152 [num n,num O.dT,aw O.aK,.own (jr+8),flag true,num (jv O.aK cs)])):=(k8.same _ (by omega) (by omega)).trans vx
     have n8:r8[rest.length+3]? =some (some (.cells 66 (eh O.fH))):=(k8.same _ (by omega) (by omega)).trans vn
     have w8:r8[jr]? =some (eT vs):=(k8.same _ vrl (by omega)).trans vr
     have kk8:iu j rest r8:=V.Hr.trans k8 (by omega)
     have hgb:=hg.bound
     have hlv:=V.lv
     have hlc:=V.lc
     have e8:j4'≠jr:=by omega
     have x8b:(r8.set jr none++[eT (vs++[PV.aY (dE m (b7 T tb p0 m O.fH.stack) vs1 c) 0])])[rest.length+1]? =some (some (.cells 152 [num n,num O.dT,aw O.aK,.own (jr+8),flag true,num (jv O.aK cs)])):=cq (aH x8 (by omega))
     refine aP<|av 4 rfl ?_
     refine bC (dj rfl (bI.tk.get rfl) rfl x8 rfl) rfl ?_
     refine av 1 rfl ?_
     refine bC (aU (xs:=[PV.aY (dE m (b7 T tb p0 m O.fH.stack) vs1 c) 0]) rfl (bI.sl.get rfl) ⟨Nat.le_of_ble_eq_true rfl,Nat.le_of_ble_eq_true rfl⟩ rfl rfl) rfl ?_
     refine cp (cS.to (σ:=P8 T tbs p1 j4' kv4 r8) (bA (e:=147) (s:=1) (by':=8) (i:=jr+8) (m:=1) (n:=vs.length) (xs:=vs) (ys:=[PV.aY (dE m (b7 T tb p0 m O.fH.stack) vs1 c) 0]) rfl (bI.rk.get rfl) rfl w8 rfl rfl ⟨by unfold maxLen;omega,by omega⟩) (p':=.own (r8.length+8)) (σ'':=P8 T tbs p1 j4' kv4 (r8.set jr none++[eT (vs++[PV.aY (dE m (b7 T tb p0 m O.fH.stack) vs1 c) 0])])) rfl (by unfold eT;rw[List.length_append];rfl)) rfl ?_
     refine av 2 rfl ?_
     refine bg (cS.to (σ:=P8 T tbs p1 j4' kv4 (r8.set jr none++[eT (vs++[PV.aY (dE m (b7 T tb p0 m O.fH.stack) vs1 c) 0])])) (cK rfl (bI.tk.get rfl) rfl rfl x8b (Nat.le_of_ble_eq_true rfl)) (σ'':=P8 T tbs p1 j4' kv4 ((r8.set jr none++[eT (vs++[PV.aY (dE m (b7 T tb p0 m O.fH.stack) vs1 c) 0])]).set (rest.length+1) (some (.cells 152 [num n,num O.dT,aw O.aK,.own (r8.length+8),flag true,num (jv O.aK cs)])))) rfl rfl) rfl rfl ?_
     refine aG [3,5,7,13,14,17,75,76,77] rfl ?_
     obtain⟨r9,hr9⟩:∃r9,(r8.set jr none++[eT (vs++[PV.aY (dE m (b7 T tb p0 m O.fH.stack) vs1 c) 0])]).set (rest.length+1) (some (.cells 152 [num n,num O.dT,aw O.aK,.own (r8.length+8),flag true,num (jv O.aK cs)]))=r9:=⟨_,rfl⟩
     have l9:r9.length=r8.length+1:=by rw[←hr9];simp
     have kk9:iu j rest r9:=hr9▸((kk8.put (.inr (by omega)) _).app _).put (.inr (by omega)) _
     have x9:r9[rest.length+1]? =some (some (.cells 152 [num n,num O.dT,aw O.aK,.own (r8.length+8),flag true,num (jv O.aK cs)])):=hr9▸bR x8b
     have n9:r9[rest.length+3]? =some (some (.cells 66 (eh O.fH))):=hr9▸aH (cq (aH n8 (by omega))) (by omega)
     have w9:r9[r8.length]? =some (eT (vs++[PV.aY (dE m (b7 T tb p0 m O.fH.stack) vs1 c) 0])):=hr9▸aH (fW (by simp)) (by omega)
     have a9:r9[j4']? =some (eT L4):=hr9▸aH (cq (aH a8 (by omega))) (by omega)
     rw[hr9]
     have hcb:0≤jv O.aK cs∧jv O.aK cs≤1001:=by
      unfold jv
      rw[if_neg hne]
      refine mF cs 0 (by omega) (by omega) fun z hz=>?_
      obtain⟨i,hi⟩:=List.getElem?_of_mem hz
      have hil:=(List.getElem?_eq_some_iff.1 hi).1
      have:=(V.ch i (by omega)).bound.1
      rwa [List.getD_eq_getElem?_getD,hi]at this
     have hbs:jv O.aK (cs++[c])=min (jv O.aK cs+c) 1001:=by unfold jv;rw[if_neg hne,if_neg hne,xf]
     refine dp 13 20 mixed (
      .val [13] rfl (bH rfl) rfl rfl<|
      .val [13] rfl (bH rfl) rfl rfl<|
      .val [99] rfl (bH rfl) rfl rfl<|
      .val [100] rfl (bH rfl) rfl rfl<|
      .val [101] rfl (dj rfl (bI.tk.get rfl) rfl x9 rfl) rfl rfl<|
      .val [17] rfl (bH rfl) rfl rfl<|
      .val [103] rfl (bH rfl) rfl rfl<|
      .val [104] rfl (bH rfl) rfl rfl<|
      .val [105] rfl (aL rfl (rfl)) rfl rfl<|
      .val [102,106] rfl (aS rfl) rfl rfl<|
      .val [107] rfl (sS rfl rfl rfl (hbs.symm)) rfl rfl<|
      .val [98] rfl (bH rfl) rfl rfl<|
      .val [109] rfl (bH rfl) rfl rfl<|
      .nil) (by kernel_rfl) rfl rfl (bm (ks:=[3,5,7,13,14,75,76,77,108,110]) rfl) ?_
     refine bg (cS.to (σ:=P8 T tbs p1 j4' kv4 r9) (cK rfl (bI.tk.get rfl) rfl rfl x9 (Nat.le_of_ble_eq_true rfl)) (σ'':=P8 T tbs p1 j4' kv4 (r9.set (rest.length+1) (some (.cells 152 [num n,num O.dT,aw O.aK,.own (r8.length+8),flag true,num (jv O.aK (cs++[c]))])))) rfl rfl) rfl rfl<|aG [3,5,7,13,14,75,76,77] rfl ?_
     refine az (.v (aS rfl) rfl<|.a 1 rfl<|.k [3,5,7,13,14,75,76,77] rfl) ?_
     refine⟨O.aK.length - (k+1),by omega,k+1,kv4,L4,j4',r8.length,_,vs++[PV.aY (dE m (b7 T tb p0 m O.fH.stack) vs1 c) 0],cs++[c],by omega,rfl,⟨kk9.put (.inr (by omega)) _,by simp[l9];omega,by rw[hOO];exact bR x9,by rw[hOO];exact aH n9 (by omega),aH w9 (by omega),aH a9 (by omega),by omega,by omega,?_,hok8,by simp[hlv],by simp[hlc],fun i hi=>?_⟩,rfl⟩
     ·have:=(List.getElem?_eq_some_iff.1 a8).1;omega
     ·by_cases hik:i<k
      ·have h1:(vs++[PV.aY (dE m (b7 T tb p0 m O.fH.stack) vs1 c) 0]).getD i .any=vs.getD i .any:=by rw[List.getD_eq_getElem?_getD,List.getD_eq_getElem?_getD,List.getElem?_append_left (by omega)]
       have h2:(cs++[c]).getD i 0=cs.getD i 0:=by rw[List.getD_eq_getElem?_getD,List.getD_eq_getElem?_getD,List.getElem?_append_left (by omega)]
       rw[h1,h2]
       exact V.ch i hik
      ·obtain rfl:i=k:=by omega
       have h1:(vs++[PV.aY (dE m (b7 T tb p0 m O.fH.stack) vs1 c) 0]).getD i .any=PV.aY (dE m (b7 T tb p0 m O.fH.stack) vs1 c) 0:=by rw[List.getD_eq_getElem?_getD,fW hlv];rfl
       have h2:(cs++[c]).getD i 0=c:=by rw[List.getD_eq_getElem?_getD,fW hlc];rfl
       rw[h1,h2,hOO,hab,Int.toNat_natCast,hm,Int.toNat_natCast]
       exact hg
   ·have hke:k=O.aK.length:=by have:=ff hc;omega
    refine ba<|aP<|av 3 rfl<|bg (cS.to (σ:=P8 T tbs p1 j' kv' rest') (cK rfl (bI.tk.get rfl) rfl rfl vx (Nat.le_of_ble_eq_true rfl)) (σ'':=P8 T tbs p1 j' kv' (rest'.set (rest.length+1) (some (.cells 152 [num n,num O.dT,aw O.aK,.own (jr+8),flag false,num (jv O.aK cs)])))) rfl rfl) rfl rfl<|aG [13] rfl ?_
    subst hke
    have hlv:=V.lv
    have hlc:=V.lc
    have hgood:Good T tb p0 Φ (.aY (dE n O vs (jv O.aK cs)) 0) n p.stack (jv O.aK cs):=by
     have:=Good.mk (T:=T) (tb:=tb) (p0:=p0) (Φ:=Φ) (vs:=vs) (cs:=cs) hΦ (by rw[hOO];exact hlv) (by rw[hOO];exact hlc) (fun i hi=>by rw[hOO]at hi;exact V.ch i hi)
     rwa [hOO]at this
    obtain⟨kv9,L9,hok9,hk9,hf9,hL9⟩:=nv.close (ty:=152) V.ok hgood
    refine wE (jr+8) (σ':=P8 T tbs p1 j' kv' ((rest'.set jr none).set (rest.length+1) (some (.cells 152 (dE n O vs (jv O.aK cs)))))) (aH vr (by omega)) (uw (by simp) (aH (bR vr) (by omega)) (fun z hz=>?_) rfl (kK.refl _)) (.cons 13 rfl (.same _) .nil) ?_
    ·by_cases h1:z=rest.length+1
     ·subst h1
      exact .inr ⟨_,_,bR vx,bR (aH vx (by omega)),.cells (.cons (.same _)<|.cons (.same _)<|.cons (.same _)<|.cons .own<|.cons (.same _)<|.cons (.same _) .nil)⟩
     ·refine .inl ?_
      rw[List.getElem?_set,if_neg (by omega),List.getElem?_set,if_neg (by omega),List.getElem?_set,if_neg (by omega)]
    refine wE (rest.length+1+8) (σ':=P8 T tbs p1 j' kv9 ((((rest'.set jr none).set (rest.length+1) (some (.cells 152 (dE n O vs (jv O.aK cs))))).set (rest.length+1) none).set j' (eT L9))) (bR (aH vx (by omega))) (uw (by simp) (aH (bR (bR (aH vx (by omega)))) (by omega)) (fun z hz=>?_) hk9 hf9) (.cons 13 rfl (.ptr 0) .nil) ?_
    ·by_cases h1:z=j'
     ·subst h1
      refine .inr ⟨_,_,aH (aH va (by omega)) (by omega),bR (aH (aH (aH va (by omega)) (by omega)) (by omega)),?_⟩
      have:=hL9.1
      rw[this]
      exact .row hL9
     ·refine .inl ?_
      rw[List.getElem?_set,if_neg (by omega),List.getElem?_set,if_neg (by omega)]
    refine ab (.a 2 rfl<|.k [10] rfl)<|aq<|⟨_,aA.of rfl,jv O.aK cs,kv9,L9,j',_,hgood,rfl,?_,?_,by omega,hok9⟩
    ·exact bR (aH (aH (aH va (by omega)) (by omega)) (by omega))
    ·exact(((V.Hr.put (.inr (by omega)) _).put (.inr (by omega)) _).put (.inr (by omega)) _).put (by omega) _
end
end PW
end Go.Proofs.YtnegbdpggideiaaGreatDoor
namespace Go.Proofs.YtnegbdpggideiaaGreatDoor
namespace PW
open Go.RowKit cH Mem Net fw
section
variable {T:an} {tb:Nat→ef} {p0:fu} {Φ:Nat→Nat→List ca→Prop}
def Kb(T:an)(tb:Nat→ef)(p0:fu)(Φ:Nat→Nat→List ca→Prop)(n:Nat)(s:List ca)(r:PV):Prop:=
 ∃v c L,r= .tuple [v,.slice L.length L,num 0]∧Good T tb p0 Φ v n s c∧L.length≤1000000∧∀x∈L,∃n s c,Good T tb p0 Φ x n s c
instance:fj HK:=by unfold HK;infer_instance
theorem JD:xj Tryz.prog 189=some [.nilFunc]:=by kernel_rfl
set_option maxHeartbeats 4000000 in
theorem rf(R:iJ T tb p0 Φ)(hv:ao T=true)(h12:T.nodes≤12){U:List (Nat×List ca)}(hU:∀ {u n s},Φ u n s→(n,s)∈U)(hUl:U.length≤1000000)(tbs:List ef)(htl:(tbs.length:Int)=T.nodes)(htb:∀n:Nat,(n:Int)<T.nodes→tbs[n]? =some (tb n))
  (hok:∀n:Nat,(n:Int)<T.nodes→(tb n).node=(n:Int)∧dM T (tb n)=true) {u n:Nat} {p:fu} (hΦ:Φ u n p.stack) (hp:de p p.stack=de p0 p.stack):
  Can Tryz.prog 115 [aN T,iS tbs,fr p,num n] (Kb T tb p0 Φ n p.stack):=by
 have hn:=R.node hΦ
 have hck:=ym T tbs n hv htl (fun i x hx=>by
  have hil:=(List.getElem?_eq_some_iff.1 hx).1
  have:=htb i (by omega)
  rw[this]at hx
  cases hx
  exact hok i (by omega)) (aT.2 ⟨by omega,hn⟩)
 refine aE Tryz.func115 rfl Tryz.ntmps115 rfl<|aP<|cp (fS rfl rfl rfl) rfl<|cp (fS (xs:=[_]) rfl rfl rfl) rfl<|cp (fS rfl rfl rfl) rfl<|av 3 rfl<|aG [3,4,5,6,9] rfl ?_
 refine ah<|ab (.a 3 rfl<|.c rfl (hck) rfl<|.a 1 rfl<|.k [3,4,5,6,9,11] rfl)<|ab (.a 2 rfl<|.k [3,4,5,6,9,11,20] rfl)<|ag rfl (fun hc=>?_) (fun hc=>?_)
 ·cases hc
 ·refine ai<|aP<|cp (pH qe rfl) rfl<|av 2 rfl<|aG [3,4,5,6,9,12] rfl ?_
  refine aP<|av 2 rfl<|aG [3,4,5,6,9,12,13] rfl ?_
  refine aP<|cp (uA (z:=[.nilFunc]) rfl JD) rfl<|aG [3,4,5,6,9,12,13,14] rfl ?_
  refine aP<|av 1 rfl ?_
  refine bg (cK (p:=HK) rfl (bI.tk.get rfl) rfl rfl rfl (Nat.le_of_ble_eq_true rfl)) rfl rfl ?_
  refine aG [3,6,9,13,14] rfl ?_
  refine cn 3 0 147 1 rfl rfl ?_
  refine er (σ':=P8 T tbs p 0 [] [eT []]) rfl ?_
  refine aP<|av 3 rfl<|cP rfl rfl (bS.mono (B4 R hv h12 hU hUl tbs htb p u n p hΦ hp [] [] [] 0 [eT []] rfl ⟨fun e he=>(by cases he),List.nodup_nil,fun e he=>(by cases he),rfl⟩ (fun x hx=>(by cases hx))) (fun y σ' h=>?_))
  obtain⟨c,kv,L,j,rest,hg,rfl,hj,_,_,hkv⟩:=h
  refine av 1 rfl<|aG [8,9,13] rfl ?_
  haveI:=hg.pure
  refine ah<|ab (.a 1 rfl<|.k [8,9,28] rfl)<|ag rfl (fun hc=>?_) (fun hc=>?_)
  ·cases hc
  ·refine ai<|rQ ([(8,y),(9,.ptr 3 0),(10,num 0)]) (P8 T tbs p j kv rest) mixed ?_ ?_
   ·refine bL 0 [1] (by kernel_rfl) ?_
    refine bh rfl rfl (bC (bH rfl) rfl (bc ?_)) ?_
    ·refine bL 1 [2] (by kernel_rfl) ?_
     refine bh rfl rfl (bC (bH rfl) rfl (bc ?_)) ?_
     ·refine bL 2 [] (by kernel_rfl) ?_
      refine bh rfl rfl (bC (bH rfl) rfl (bc ?_)) bM
      refine bL 3 [] (by kernel_rfl) ?_
      refine bh rfl rfl (bg (cS.to (σ:=P8 T tbs p j kv rest) (cK rfl (bI.tk.get rfl) rfl rfl rfl (Nat.le_of_ble_eq_true rfl)) (σ'':=P8 T tbs p j kv rest) rfl rfl) rfl rfl (bc ?_)) bM
      refine bL 4 [] (by kernel_rfl) ?_
      refine bh rfl rfl (bC (bH rfl) rfl (bc ?_)) bM
      exact jX (by kernel_rfl) ⟨rfl,bm (ks:=[8,9,10]) rfl⟩
     refine bh rfl rfl (bC (bH rfl) rfl (bc ?_)) bM
     refine bL 1 [] (by kernel_rfl) ?_
     refine bh rfl rfl (bC (bH rfl) rfl (bc ?_)) bM
     refine bL 3 [] (by kernel_rfl) ?_
     refine bh rfl rfl (bg (cS.to (σ:=P8 T tbs p j kv rest) (cK rfl (bI.tk.get rfl) rfl rfl rfl (Nat.le_of_ble_eq_true rfl)) (σ'':=P8 T tbs p j kv rest) rfl rfl) rfl rfl (bc ?_)) bM
     refine bL 4 [] (by kernel_rfl) ?_
     refine bh rfl rfl (bC (bH rfl) rfl (bc ?_)) bM
     exact jX (by kernel_rfl) ⟨rfl,bm (ks:=[8,9,10]) rfl⟩
    refine bh rfl rfl (bC (bH rfl) rfl (bc ?_)) bM
    refine bL 0 [] (by kernel_rfl) ?_
    refine bh rfl rfl (bC (bH rfl) rfl (bc ?_)) bM
    refine bL 2 [] (by kernel_rfl) ?_
    refine bh rfl rfl (bC (bH rfl) rfl (bc ?_)) bM
    refine bL 3 [] (by kernel_rfl) ?_
    refine bh rfl rfl (bg (cS.to (σ:=P8 T tbs p j kv rest) (cK rfl (bI.tk.get rfl) rfl rfl rfl (Nat.le_of_ble_eq_true rfl)) (σ'':=P8 T tbs p j kv rest) rfl rfl) rfl rfl (bc ?_)) bM
    refine bL 4 [] (by kernel_rfl) ?_
    refine bh rfl rfl (bC (bH rfl) rfl (bc ?_)) bM
    exact jX (by kernel_rfl) ⟨rfl,bm (ks:=[8,9,10]) rfl⟩
   refine aq ?_
   have hall:∀x∈L,∃n s c,Good T tb p0 Φ x n s c:=fun x hx=>by
    obtain⟨n1,s1,h1⟩:=hkv.all x hx
    rcases h1 with⟨c1,h1⟩|⟨_,h1,_⟩
    ·exact⟨n1,s1,c1,h1⟩
    ·cases h1
   haveI:aO L:=⟨fun i x hx=>by
    obtain⟨_,_,_,h⟩:=hall x (List.mem_of_getElem? hx)
    exact h.pure⟩
   have hfew:=hkv.KE R h12 hU
   have hlen:=hkv.len
   exact⟨_,_,aA.of rfl,aB.bx (aj.cons aB.pure<|aj.cons (aB.eH (i:=j+8) (show(P8 T tbs p j kv rest)[j+8]? =_ from hj) aj.pure)<|aj.cons aB.pure aj.nil),y,c,L,rfl,hg,by omega,hall⟩
set_option maxHeartbeats 4000000 in
theorem uW(R:iJ T tb p0 Φ)(hdel:∀ {u n s},Φ u n s→(b7 T tb p0 n s).aK=[]→(b7 T tb p0 n s).dT= -1)(hv:ao T=true)(h12:T.nodes≤12){U:List (Nat×List ca)}(hU:∀ {u n s},Φ u n s→(n,s)∈U)(hUl:U.length≤1000000)(tbs:List ef)(htl:(tbs.length:Int)=T.nodes)(htb:∀n:Nat,(n:Int)<T.nodes→tbs[n]? =some (tb n))
  (hok:∀n:Nat,(n:Int)<T.nodes→(tb n).node=(n:Int)∧dM T (tb n)=true) {u n:Nat} {p:fu} (hΦ:Φ u n p.stack) (hp:de p p.stack=de p0 p.stack):
  Can Tryz.prog 56 [aN T,iS tbs,fr p,num n] (· = .tuple [flag true,num 0]):=by
 refine aE Tryz.func56 rfl Tryz.ntmps56 rfl<|ab (.a 4 rfl<|.k [1,3,4,6] rfl)<|aP<|av 4 rfl<|cP rfl rfl (bS.mono (bS.xg (rf R hv h12 hU hUl tbs htl htb hok hΦ hp)) (fun y σ' h=>?_))
 obtain⟨⟨v,c,L,rfl,hg,hL,hall⟩,rfl⟩:=h
 refine av 7 rfl<|aG [11,12] rfl ?_
 haveI:aO L:=⟨fun i x hx=>by
  obtain⟨_,_,_,h⟩:=hall x (List.mem_of_getElem? hx)
  exact h.pure⟩
 refine ah<|ab (.a 2 rfl<|.k [11,12,25] rfl)<|ag rfl (fun hc=>?_) (fun hc=>?_)
 ·cases hc
 ·refine ai<|ah<|ab (.a 3 rfl<|.k [27,28,29] rfl)<|au<|eu [27,28,29] rfl<|bf (fun r st=>∃k,k≤L.length∧r=L.length - k∧st=⟨[(27,.slice L.length L),(28,num L.length),(29,num k)],[]⟩) L.length ⟨0,by omega,by omega,rfl⟩ ?_
  rintro r st ⟨k,hk,rfl,rfl⟩
  refine ab (.a 1 rfl<|.k [27,28,29,30] rfl)<|ah<|ag rfl (fun hc=>?_) (fun hc=>?_)
  ·have hlt:k<L.length:=by have:=tt hc;omega
   obtain⟨x,hx⟩:∃x,L[k]? =some x:=⟨_,List.getElem?_eq_getElem hlt⟩
   obtain⟨n1,s1,c1,hg1⟩:=hall x (List.mem_of_getElem? hx)
   obtain⟨vs,cs,rfl,_⟩:=hg1.parts
   obtain⟨u1,h1⟩:=hg1.state
   have hd1:=hdel h1
   obtain⟨O,hO⟩:∃O,b7 T tb p0 n1 s1=O:=⟨_,rfl⟩
   rw[hO]at hx hd1
   obtain⟨q1,hq1⟩:∃q,decide ((O.aK.length:Int)=0)=q:=⟨_,rfl⟩
   obtain⟨q2,hq2⟩:∃q,decide (O.dT≠ -1)=q:=⟨_,rfl⟩
   refine ai<|ah<|au<|ab (.v (aJ (k) rfl) rfl<|.v (aL rfl (hx)) rfl<|.a 1 rfl<|.k [14,27,28,29] rfl)<|bu 45 (.raw (.bool (q1&&q2))) [27,28,29] rfl ?_ ?_
   ·refine .a 5 rfl<|.v (b9 rfl (hq1)) rfl<|.a 1 rfl<|?_
    cases q1
    ·exact .a 6 rfl<|.k [45,27,28,29] rfl
    ·exact .a 3 rfl<|.v (aL rfl (rfl)) rfl<|.v (b9 rfl (hq2)) rfl<|.a 1 rfl<|.k [45,27,28,29] rfl
   refine ag rfl (fun hc=>?_) (fun hc=>?_)
   ·have hz:(q1&&q2)=false:=by
     cases q1 with
     |false=>rfl
     |true=>
      cases q2 with
      |false=>rfl
      |true=>exact absurd (hd1 (List.eq_nil_of_length_eq_zero (by have:=tt hq1;omega))) (tt hq2)
    rw[hz]at hc
    cases hc
   ·refine ai<|az (.v (aS rfl) rfl<|.a 1 rfl<|.k [27,28,29] rfl) ?_
    exact⟨L.length - (k+1),by omega,k+1,by omega,rfl,rfl⟩
  ·have hke:k=L.length:=by have:=ff hc;omega
   exact ba<|ab (.a 2 rfl<|.k [8,9] rfl)<|aq<|⟨_,_,aA.of rfl,aB.pure,rfl⟩
end
end PW
end Go.Proofs.YtnegbdpggideiaaGreatDoor
namespace Go.Proofs.YtnegbdpggideiaaGreatDoor
namespace PW
open Go.RowKit cH Mem Net fw
structure Lone (T:an) (tb:Nat→ef) (p0:fu) (Φ:Nat→Nat→List ca→Prop):Prop where
 runs:iJ T tb p0 Φ
 one:∀ {u n s},Φ u n s→(b7 T tb p0 n s).aK.length≤1
 del:∀ {u n s},Φ u n s→(b7 T tb p0 n s).aK=[]→(b7 T tb p0 n s).dT= -1
section
variable {T:an} {k x:Int} {d:Nat} {st:Nat→Int} {p0:fu}
theorem xn(hv:ao T=true)(h12:T.nodes≤12)(h16:T.ae.length≤16)(hd:(d:Int)<T.nodes)(hp0:p0.dst=(d:Int)):Lone T (nm T (aC T k x) st) p0 (fun u n s=>∃q,fL T k x d n s q∧u=q.length) where
 runs:=yf hv h12 h16 hd hp0
 one:=fun {u n s} ⟨q,h,hu⟩=>by
  cases q with
  |nil=>
   obtain⟨_,e2,_⟩:=gd hv h12 hd h (st n) (p:=de p0 s) hp0 rfl
   have e2':(b7 T (nm T (aC T k x) st) p0 n s).aK=[]:=e2
   rw[e2'];simp
  |cons a q=>
   obtain⟨b,m,s',g,e1,e2⟩:=fC hv h12 hd h (st n) (p:=de p0 s) hp0 rfl rfl
   have e1':b7 T (nm T (aC T k x) st) p0 n s=cj (de p0 s) s' [a]:=e1
   rw[e1'];simp[cj]
 del:=fun {u n s} ⟨q,h,hu⟩ ha=>by
  cases q with
  |nil=>
   obtain⟨_,_,e3⟩:=gd hv h12 hd h (st n) (p:=de p0 s) hp0 rfl
   exact e3
  |cons a q=>
   obtain⟨b,m,s',g,e1,e2⟩:=fC hv h12 hd h (st n) (p:=de p0 s) hp0 rfl rfl
   have e1':b7 T (nm T (aC T k x) st) p0 n s=cj (de p0 s) s' [a]:=e1
   rw[e1']at ha
   cases ha
theorem zO(hv:ao T=true)(h12:T.nodes≤12)(h16:T.ae.length≤16)(hd:(d:Int)<T.nodes)(hp0:p0.dst=(d:Int)){n0 b m:Nat}{s':List ca}{q:List Int}(hn0:(n0:Int)<T.nodes)
  (h0:dy T (nm T (aC T k x) st n0) (de p0 [])=cj (de p0 []) s' [(b:Int)]) (hb:b<2*T.ae.length) (hm:aW T b=(m:Int)) (hl:fL T k x d m s' q):
  Lone T (nm T (aC T k x) st) p0 (fun u n s=>(n=n0∧s=[]∧u=q.length+1)∨∃q,fL T k x d n s q∧u=q.length):=by
 have hL:=xn (T:=T) (k:=k) (x:=x) (d:=d) (st:=st) hv h12 h16 hd hp0
 have e0:b7 T (nm T (aC T k x) st) p0 n0 []=cj (de p0 []) s' [(b:Int)]:=h0
 refine⟨⟨?_,?_,?_⟩,?_,?_⟩
 ·rintro u n s (⟨rfl,rfl,_⟩|h)
  ·exact hn0
  ·exact hL.runs.node h
 ·rintro u n s (⟨rfl,rfl,_⟩|h)
  ·exact⟨fun g hg=>(by cases hg),by simp⟩
  ·exact hL.runs.small h
 ·rintro u n s (⟨rfl,rfl,rfl⟩|h)
  ·refine .inr ⟨jY _ _ _,by rw[e0];rfl,fun a ha=>?_⟩
   rw[e0]at ha ⊢
   have ha:a∈[(b:Int)]:=ha
   rw[List.mem_singleton]at ha
   subst ha
   exact⟨b,m,rfl,hb,hm,q.length,Nat.lt_succ_self _,.inr ⟨q,hl,rfl⟩⟩
  ·rcases hL.runs.step h with h1|⟨h1,h2,h3⟩
   ·exact .inl h1
   ·refine .inr ⟨h1,h2,fun a ha=>?_⟩
    obtain⟨b',m',g1,g2,g3,u',g4,g5⟩:=h3 a ha
    exact⟨b',m',g1,g2,g3,u',g4,.inr g5⟩
 ·rintro u n s (⟨rfl,rfl,_⟩|h)
  ·rw[e0];simp[cj]
  ·exact hL.one h
 ·rintro u n s (⟨rfl,rfl,_⟩|h) ha
  ·rw[e0]at ha;cases ha
  ·exact hL.del h ha
end
end PW
end Go.Proofs.YtnegbdpggideiaaGreatDoor
namespace Go.Proofs.YtnegbdpggideiaaGreatDoor
namespace fw
open Go.RowKit Go.Shelf cH
structure Rest (a b:Nat) (w w':World):Prop where
 os:w'.os=w.os
 tape:w'.tape=w.tape
 output:w'.output=w.output
 size:w.heap.size≤w'.heap.size
 block:∀k,k<w.heap.size→(k<a∨b≤k)→w'.heap[k]? =w.heap[k]?
 cells:∀(k:Nat) (o:Obj),w.heap[k]? =some o→o.isCells=true→w'.heap[k]? =some o
theorem Rest.refl(a b:Nat)(w:World):Rest a b w w:=⟨rfl,rfl,rfl,Nat.le_refl _,fun _ _ _=>rfl,fun _ _ h _=>h⟩
theorem Rest.trans{a b:Nat}{w w' w'':World}(h:Rest a b w w')(k:Rest a b w' w''):Rest a b w w'':=
 ⟨k.os.trans h.os,k.tape.trans h.tape,k.output.trans h.output,Nat.le_trans h.size k.size,fun j h1 h2=>(k.block j (Nat.lt_of_lt_of_le h1 h.size) h2).trans (h.block j h1 h2),fun j o h1 h2=>k.cells j o (h.cells j o h1 h2) h2⟩
theorem Rest.wide{a b a' b':Nat}{w w':World}(h:Rest a b w w')(h1:a'≤a)(h2:b≤b'):Rest a' b' w w':=
 ⟨h.os,h.tape,h.output,h.size,fun k k1 k2=>h.block k k1 (by omega),h.cells⟩
theorem Rest.put{a b l:Nat}{w:World}{o o0:Obj}(h0:w.heap[l]? =some o0)(hc:o0.isCells=false)(h1:a≤l)(h2:l<b):Rest a b w (w.putObj l o):=
 ⟨rfl,rfl,rfl,by simp,fun k _ k2=>World.putObj_heap_other (by omega),fun k o1 k1 k2=>(World.putObj_heap_other (fun e=>by subst e;rw[h0]at k1;cases k1;rw[hc]at k2;cases k2)).trans k1⟩
theorem Hv{w w':World}(h:Ext w w'){l:Nat}{o:Obj}(hl:w.heap.size≤l):Ext w (w'.putObj l o):=
 ⟨h.os,h.tape,h.output,by simp;exact h.size,fun k hk=>(World.putObj_heap_other (by omega)).trans (h.block k hk)⟩
def Calm(G:Value→World→Prop):Prop:=∀v w l r o,G v w→w.heap[l]? =some (Obj.loop r)→G v (w.putObj l o)
def yR(P:Program)(g:Nat)(lb:Array Value)(G:Value→World→Prop)(W₀:World):Prop:=
 ∀(n l:Nat) (W:World) (R:World→World→Prop),Below W₀.heap.size W₀ W→
  (∀W1 W2,R W1 W2→W1.heap.size≤W2.heap.size∧∀k,W.heap.size≤k→k<W1.heap.size→W2.heap[k]? =W1.heap[k]?)→
  (∀m v W1,Ext W W1→G v W1→YieldAt Fence.wide m P l #[v] W1 fun e W2=>e= .returned (.bool true)∧R W1 W2)→
  CallsIn Fence.wide n P g (#[.func (.yield l) #[] #[]]++lb) W fun e W'=>(∃v,e= .returned v)∧∃W1 W2,Ext W W1∧R W1 W2∧Rest W.heap.size W1.heap.size W2 W'
structure Left (s:Nat) (W1 W3:World):Prop where
 size:W1.heap.size≤W3.heap.size
 block:∀k,s≤k→k<W1.heap.size→W3.heap[k]? =W1.heap[k]?
theorem lO{P:Program}{n:Nat}{g:Operand}{ps:Array Tmp}{assign body:Code}{Q:Exit→Act→World→Prop}{a:Act}{w:World}
    {gf:Nat} {lb:Array Value} (hg:a.eval g= .func (.func gf) #[] lb) (eg:∀args w,(callFunc gf args).run P w= .ok (.enter gf args) w)
    {G:Value→World→Prop} (hG:Calm G) (hGx:∀v W W',G v W→Ext W W'→G v W') {W₀:World} (xY:yR P gf lb G W₀) (hb0:Below W₀.heap.size W₀ w) (hps:ps.size=1) (Rx:World→World→Prop)
    (hround:∀m l v (W1:World),l=w.heap.size+1→(∃r,W1.heap[l]? =some (.loop r))→Ext w W1→G v W1→
      assign.wpIn (Fence.wide.inRound l) m P (Exit.then (fun a₁ Wa=>Ext W1 Wa∧∀Wb,(∃r,Wb.heap[l]? =some (.loop r))→Ext w Wb→Wb.heap.size=Wa.heap.size→(∀k,k≠l→Wb.heap[k]? =Wa.heap[k]?)→G v Wb→
        body.wpIn (Fence.wide.inRound l) m P (Exit.then (fun _ W3=>Left w.heap.size Wb W3∧Rx Wb W3) (fun _ _ _=>False)) a₁ Wb) (fun _ _ _=>False))
        {tmps:=(ps.zip #[v]).foldl (fun t (p,v)=>t.setIfInBounds p v) a.tmps,defers:=[]} W1)
    (hdone:∀(Wb W3 W':World),Ext w Wb→w.heap.size<Wb.heap.size→Wb.heap.size≤W3.heap.size→Rx Wb W3→Rest w.heap.size Wb.heap.size W3 W'→W'.heap[w.heap.size]? =some (.deferred (some []))→Q .normal {a with defers:= {target:=.collected w.heap.size,args:= #[]}::a.defers} W'):
    (Code.rangeFunc g ps assign body).wpIn Fence.wide n P Q a w:=by
  refine wpIn_rangeFunc ?_
  intro fn hfn
  obtain⟨rec,hrec⟩:∃rec:LoopState→Option Code→Loop,rec=fun st pe=> {state:=st,pending:=pe,fn,tmps:=a.tmps,params:=ps,assign,body,defers:=w.heap.size}:=⟨_,rfl⟩
  obtain⟨W1,hW1⟩:∃W1,(w.alloc (.deferred (some []))).alloc (.loop (rec .ready none))=W1:=⟨_,rfl⟩
  have hL1:W1.heap[w.heap.size+1]? =some (.loop (rec .ready none)):=by
    rw[←hW1];have:=World.alloc_heap_new (w.alloc (.deferred (some []))) (.loop (rec .ready none));rwa [World.size_alloc]at this
  have hK1:W1.heap[w.heap.size]? =some (.deferred (some [])):=by
    rw[←hW1];exact(Below.heap_alloc _ _ _ (by simp)).trans (World.alloc_heap_new w _)
  have hz1:W1.heap.size=w.heap.size+2:=by rw[←hW1];simp
  have hE1:Ext w W1:=by rw[←hW1];exact((Ext.refl w).alloc _).alloc _
  have hb1:Below W₀.heap.size W₀ W1:=hb0.trans (Below.mono hE1 hb0.size)
  refine⟨w.heap.size+1,[{target:=.collected w.heap.size,args:= #[]}],W1,{target:=.fn (.func gf) lb,args:= #[.func (.yield (w.heap.size+1)) #[] #[]]},W1,gf,
    #[.func (.yield (w.heap.size+1)) #[] #[]]++lb,W1,?_,?_,?_,?_,fun h=>by simp[Fence.wide]at h,?_⟩
  · rw[←hW1,hrec];exact run_enterLoop_outer _ _ _ _ _
  · simp only[resolve,hg]
    simp[go_sem]
  · intro f' _;trivial
  · simp[invoke,go_sem,eg]
  · refine (xY (n - 1) (w.heap.size + 1) W1 (fun A B => A.heap.size ≤ B.heap.size ∧ (∀ k, W1.heap.size ≤ k → k < A.heap.size → B.heap[k]? = A.heap[k]?) ∧
        ∃Wb W3,Ext w Wb∧A.heap.size≤Wb.heap.size∧Wb.heap.size≤W3.heap.size∧Rx Wb W3∧Rest w.heap.size W1.heap.size W3 B∧B.heap[w.heap.size+1]? =some (.loop (rec .ready none))∧B.heap[w.heap.size]? =some (.deferred (some []))) hb1 (fun A B h=>⟨h.1,h.2.1⟩) ?_).mono ?_
    ·
      intro m v W2 hE2 hv
      have hl:W2.heap[w.heap.size+1]? =some (.loop (rec .ready none)):=(hE2.block _ (by omega)).trans hL1
      have hk:W2.heap[w.heap.size]? =some (.deferred (some [])):=(hE2.block _ (by omega)).trans hK1
      have hlt:w.heap.size+1<W2.heap.size:=(Array.getElem?_eq_some_iff.1 hl).1
      have hy:=run_yield (P:=P) (args:= #[v]) hl (by rw[hrec];exact hps.symm)
      rw[hrec]at hy
      refine⟨fn,_,assign,body,hy,roundIn_of_wpIn hfn (wpIn_mono (hround m _ v W2 rfl ⟨_,hl⟩ (hE1.trans hE2) hv) ?_)⟩
      rintro e a1 Wa he
      cases e with
      |normal=>
        obtain⟨hEa,hb⟩:=he
        have hla:Wa.heap[w.heap.size+1]? =some (.loop (rec .ready none)):=(hEa.block _ hlt).trans hl
        have hlta:w.heap.size+1<Wa.heap.size:=(Array.getElem?_eq_some_iff.1 hla).1
        have hza:=hEa.size
        refine⟨_,run_beginRound hla (by rw[hrec]),?_⟩
        obtain⟨Wb,hWb⟩:∃Wb,Wb=Wa.putObj (w.heap.size+1) (.loop {rec .ready none with state:=.busy}):=⟨_,rfl⟩
        have hl2:Wb.heap[w.heap.size+1]? =some (.loop {rec .ready none with state:=.busy}):=by rw[hWb];exact World.putObj_heap_same hlta
        have hk2:Wb.heap[w.heap.size]? =some (.deferred (some [])):=by rw[hWb];exact(World.putObj_heap_other (by omega)).trans ((hEa.block _ (by omega)).trans hk)
        have hzb:Wb.heap.size=Wa.heap.size:=by rw[hWb];simp
        have hEb:Ext w Wb:=by rw[hWb];exact Hv ((hE1.trans hE2).trans hEa) (by omega)
        have hother:∀k,k≠w.heap.size+1→Wb.heap[k]? =Wa.heap[k]? :=fun k hk=>by rw[hWb];exact World.putObj_heap_other hk
        rw[←hWb]
        refine wpIn_mono (hb Wb ⟨_,hl2⟩ hEb hzb hother (by rw[hWb];exact hG _ _ _ _ _ (hGx _ _ _ hv hEa) hla)) ?_
        rintro e2 a3 W3 hp
        cases e2 with
        |normal=>
          obtain⟨hleft,hrx⟩:=hp
          have hl3:W3.heap[w.heap.size+1]? =some (.loop {rec .ready none with state:=.busy}):=(hleft.block _ (by omega) (by omega)).trans hl2
          have hk3:W3.heap[w.heap.size]? =some (.deferred (some [])):=(hleft.block _ (by omega) (by omega)).trans hk2
          have he:=run_endRound (P:=P) none hl3
          rw[hrec]at he
          have hs3:=hleft.size
          refine⟨_,_,he,rfl,?_,?_,Wb,W3,hEb,by omega,hs3,hrx,?_,?_,?_⟩
          · simp only[World.putObj_size];omega
          · intro k h1 h2
            rw[World.putObj_heap_other (by omega),hleft.block k (by omega) (by omega),hother k (by omega),hEa.block k h2]
          · exact Rest.put hl3 rfl (by omega) (by omega)
          · have:=World.putObj_heap_same (w:=W3) (r:=w.heap.size+1) (o:=.loop (rec .ready none)) (by omega)
            rw[hrec]at this ⊢
            exact this
          · rw[World.putObj_heap_other (by omega)];exact hk3
        |_=>exact hp.elim
      |_=>exact he.elim
    ·
      rintro e W' ⟨⟨v,rfl⟩,A,B,hEA,⟨h1,h2,Wb,W3,k1,k2,k3,k4,k5,k6,k7⟩,hrest⟩
      have hzB:w.heap.size+1<B.heap.size:=(Array.getElem?_eq_some_iff.1 k6).1
      have hzA:=hEA.size
      have hl4:W'.heap[w.heap.size+1]? =some (.loop (rec .ready none)):=(hrest.block _ hzB (by omega)).trans k6
      have hk4:W'.heap[w.heap.size]? =some (.deferred (some [])):=(hrest.block _ (by omega) (by omega)).trans k7
      have he:=run_endLoop (P:=P) hl4 (by rw[hrec];simp)
      rw[hrec]at he
      refine⟨none,_,he,hdone Wb W3 _ k1 (by omega) k3 k4 ?_ ?_⟩
      · refine Rest.trans (k5.wide (Nat.le_refl _) (by omega)) (Rest.trans (hrest.wide (by omega) (by omega)) (Rest.put hl4 rfl (by omega) (by omega)))
      · rw[World.putObj_heap_other (by omega)];exact hk4
end fw
end Go.Proofs.YtnegbdpggideiaaGreatDoor
namespace Go.Proofs.YtnegbdpggideiaaGreatDoor
namespace PW
open Go.RowKit cH Mem
section
variable {P:Program} {ops:Array Oper} {n:Nat}
theorem HN{o:Oper}{a:Act}{w:World}{K K':Act→World→Prop}{Q Q':Exit→Act→World→Prop}(hK:∀a w,K a w→K' a w)(hp:∀c a w,Q (.panic c) a w→Q' (.panic c) a w)(hL:¬LetsOut Q)(h:o.wp P a w K Q):o.wpIn Fence.wide n P a w K' Q':=by
 refine⟨fun _ _=>trivial,?_⟩
 rw[show Fence.wide.round=none from rfl,Oper.semAt_none]
 unfold Oper.wp at h
 generalize (execOp a.eval o).run P w=x at*
 cases x with
 |ok x w'=>
  cases x<;>simp only[Oper.uponIn,Oper.upon]at h ⊢
  case value v=>exact hK _ _ h
  case skip=>exact hK _ _ h
  case defer d=>exact hK _ _ h
  case enter f args=>exact⟨fun h=>by simp[Fence.wide]at h,callsIn_wide.2 (h.mono fun e w'' he=>by cases e<;>first|exact hK _ _ he|exact hp _ _ _ he|exact(hL he).elim)⟩
  case row r args=>exact⟨fun h=>by simp[Fence.wide]at h,fun c cs _=>by
   obtain⟨v,w',r,s⟩:=h c cs
   exact⟨v,w',hK _ _ r,stepsIn_wide.2 s⟩⟩
  all_goals exact h.elim
 |halt x w'=>cases x<;>simp only[Oper.uponIn,Oper.upon]at h ⊢ <;>first|exact hp _ _ _ h|exact h
section
variable {f m:Nat} (hB:zw ops f m=true)
include hB
theorem oo{Q:Exit→Act→World→Prop}:∀(r k:Nat) (a:Act) (w:World),k+r=ops.size→m≤k→wpOpsIn Fence.wide n P ops Q (List.range' k r) a w→wpAnyIn Fence.wide n P .any ops Q r (upto ops.size k) a w
 |0,k,a,w,hk,_,h=>by
  obtain rfl:k=ops.size:=by omega
  exact⟨uk,h⟩
 |r+1,k,a,w,hk,hm,h=>by
  have hr:=rN hB k (by omega) hm
  refine⟨fun h0=>absurd (hr.symm.trans h0) (by simp),fun i hi=>?_⟩
  rw[hr]at hi
  simp at hi
  subst hi
  rw[List.range'_succ,wpOpsIn_cons]at h
  rw[xk]
  exact wpOpIn_mono (fun a w h=>oo r (i+1) a w (by omega) (by omega) h) h
end
def qp(n:Nat)(P:Program)(ops:Array Oper)(Q:Exit→Act→World→Prop)(m r:Nat):Exit→Act→World→Prop
 | .normal,a,w=>wpOpsIn Fence.wide n P ops Q (List.range' m r) a w
 |_,_,_=>False
theorem tw{Q:Exit→Act→World→Prop}{m r:Nat}:¬LetsOut (qp n P ops Q m r):=fun⟨_,_,h⟩=>h
theorem sB{f m:Nat}(hB:zw ops f m=true)(hm:m≤ops.size){Q:Exit→Act→World→Prop}:∀(fuel:Nat) (l₁ ls:Array Bool) (a:Act) (w:World),l₁.size=m→ls.size=ops.size→(∀i,i<m→ls.getD i true=l₁.getD i true)→(∀i,m≤i→i<ops.size→ls.getD i true=false)→Down ops ls→bP ls m=fuel→
  wpAny P .any (ops.extract 0 m) (qp n P ops Q m (ops.size - m)) fuel l₁ a w→wpAnyIn Fence.wide n P .any ops Q (fuel+(ops.size - m)) ls a w:=by
 have hsz:(ops.extract 0 m).size=m:=by simp;omega
 have hget:∀i,i<m→(ops.extract 0 m)[i]? =ops[i]? :=fun i hi=>by rw[Array.getElem?_extract];simp;omega
 have haft:∀i,i<m→lK (ops.extract 0 m) i=lK ops i:=fun i hi=>by unfold lK;rw[hget i hi]
 intro fuel
 induction fuel with
 |zero=>
  intro l₁ ls a w hs1 hs2 hsame hrest hd hu h
  have:ls=upto ops.size m:=by
   apply Array.ext
   ·simp[upto,hs2]
   ·intro i h1 h2
    have hi:i<ops.size:=by omega
    have e:ls.getD i true=(upto ops.size m).getD i true:=by
     rw[gE _ _ _ hi]
     by_cases him:i<m
     ·rw[cY hu i him];simp[him]
     ·rw[hrest i (by omega) hi];simp[him]
    simpa[h1,h2]using e
  rw[this]
  simpa using oo hB (ops.size - m) m a w (by omega) (Nat.le_refl _) h.2
 |succ fuel ih=>
  intro l₁ ls a w hs1 hs2 hsame hrest hd hu h
  have hf:∀b c (i:Nat),i<ops.size→ls.getD i b=ls.getD i c:=fun b c i hi=>by simp[show i<ls.size by omega]
  obtain⟨i0,hi0,hi1,hi2⟩:=fF (ls:=ls) (m:=m) (by omega)
  have hrd:∀i,i∈Region.ready .any ops ls→i<m:=fun i hi=>by
   obtain⟨h1,h2,h3⟩:=cC.1 hi
   rcases Nat.lt_or_ge i m with h'|h'
   ·exact h'
   ·have:=ei hs2 hd (gL hB) f i i0 h1 (o7 hB i h1 h' i0 (by omega)) h3
    rw[hf false true i0 (by omega),hi1]at this
    cases this
  have hin:∀i,i∈Region.ready .any ops ls→i∈Region.ready .any (ops.extract 0 m) l₁:=fun i hi=>by
   have him:=hrd i hi
   obtain⟨h1,h2,h3⟩:=cC.1 hi
   refine cC.2 ⟨by omega,by rw[←hsame i him];exact h2,fun k hk=>?_⟩
   rw[haft i him]at hk
   have hki:=gL hB i h1 k hk
   have:=h3 k hk
   rw[hf false true k (by omega),hsame k (by omega)]at this
   simpa[show k<l₁.size by omega]using this
  have hi0r:i0∈Region.ready .any ops ls:=cC.2 ⟨by omega,hi1,fun k hk=>by
   have:=gL hB i0 (by omega) k hk
   rw[hf false true k (by omega)];exact hi2 k this⟩
  rw[show fuel+1+(ops.size - m)=(fuel+(ops.size - m))+1 by omega]
  refine⟨fun h0=>absurd hi0r (by rw[h0];simp),fun i hi=>?_⟩
  have him:=hrd i hi
  obtain⟨h1,h2,h3⟩:=cC.1 hi
  have hstep:=h.2 i (hin i hi)
  have next:∀a w,wpAny P .any (ops.extract 0 m) (qp n P ops Q m (ops.size - m)) fuel (l₁.setIfInBounds i true) a w→wpAnyIn Fence.wide n P .any ops Q (fuel+(ops.size - m)) (ls.setIfInBounds i true) a w:=fun a w hh=>by
   refine ih _ _ a w (by simpa using hs1) (by simpa using hs2) (fun j hj=>?_) (fun j hj hj'=>?_) (fun j hj hj' k hk=>?_) (by have:=fG h2 him (by omega);omega) hh
   ·by_cases e:i=j
    ·subst e;simp[show i<ls.size by omega,show i<l₁.size by omega]
    ·have:=hsame j hj
     simp only[Array.getD_eq_getD_getElem?,Array.getElem?_setIfInBounds_ne e]at this ⊢
     exact this
   ·have:=hrest j hj hj'
    simp only[Array.getD_eq_getD_getElem?,Array.getElem?_setIfInBounds_ne (show i≠j by omega)]at this ⊢
    exact this
   ·by_cases e:i=j
    ·subst e
     have hki:=gL hB i h1 k hk
     have:=h3 k hk
     simp only[Array.getD_eq_getD_getElem?,Array.getElem?_setIfInBounds_ne (show i≠k by omega)]at this ⊢
     exact this
    ·have hj2:ls.getD j true=true:=by
      simp only[Array.getD_eq_getD_getElem?,Array.getElem?_setIfInBounds_ne e]at hj ⊢
      exact hj
     have:=hd j hj2 hj' k hk
     by_cases e2:i=k
     ·subst e2;simp[show i<ls.size by omega]
     ·simp only[Array.getD_eq_getD_getElem?,Array.getElem?_setIfInBounds_ne e2]at this ⊢
      exact this
  unfold wpOp at hstep
  unfold wpOpIn
  rw[hget i him]at hstep
  have ho:ops[i]? =some ops[i]:=by simp[h1]
  rw[ho]at hstep ⊢
  simp only at hstep ⊢
  have hy:Region.wanted ops[i] (yielded (ops.extract 0 m) a.tmps)=Region.wanted ops[i] (yielded ops a.tmps):=by
   unfold Region.wanted
   cases hg:(ops[i]).guard with
   |none=>rfl
   |some g=>
    obtain⟨j,wt⟩:=g
    have:=tX hB i ops[i] j wt ho hg
    simp only[yielded]
    rw[hget j (by omega)]
  rw[hy]at hstep
  split
  ·rename_i hw
   rw[if_pos hw]at hstep
   rcases hstep with hh|⟨hh,hl⟩
   ·exact HN next (fun _ _ _ h=>h.elim) tw hh
   ·exact absurd hl tw
  ·rename_i hw
   rw[if_neg hw]at hstep
   exact⟨fun _ _=>trivial,next _ _ hstep⟩
theorem sz{N:Nat}{id:Nat}{l:List Oper}{t t':cd}{σ:cm}{F:Nat→Prop}{base:Nat}{E:Env}{a:Act}{w:World}{Q:Exit→Act→World→Prop}(m f:Nat)(D:List Nat)(hm:P.follows .mixedOrders=true)(hB:Region.lexB .any (l.take m).toArray=true)
    (hn:((l.take m).all fun o=>o.dst.all fun e=>decide (e<N)&&D.contains e)=true) (hbar:zw l.toArray f m=true) (hml:Nat.ble m l.length=true) (hs:dR F base N ⟨t,σ⟩ E a w)
    (h:dP P N (l.take m).toArray σ (l.take m) t t') (hw:∀a' w',Ext w w'→dR F base N ⟨t',σ⟩ E a' w'→wpOpsIn Fence.wide n P l.toArray Q (List.range' m (l.toArray.size - m)) a' w'):(Code.region id l.toArray true).wpIn Fence.wide n P Q a w:=by
  obtain⟨arr,ds⟩:=a
  have hds:ds=[]:=hs.kD
  have hmle:m≤l.length:=Nat.ble_eq.mp hml
  have hlt:(l.take m).length=m:=by simp;omega
  refine wpIn_region_any hm ?_
  have hfr:=tg (Q:=qp n P l.toArray Q m (l.toArray.size - m)) hs D hB hn h (fun b w' hE hs'=>hw _ _ hE hs')
  have he:l.toArray.extract 0 m=(l.take m).toArray:=by simp
  have := sB (P := P) (n := n) hbar (by simpa using hmle) (Q := Q) m (Array.replicate m false) (Array.replicate l.toArray.size false) ⟨arr, ds⟩ { w with drawn := w.drawn + 1 } (by simp) (by simp) (fun i hi => by rw [fm _ _ hi, fm _ _ (by simp; omega)]) (fun i _ hi => fm _ _ hi _) (fun i hi hi' => by
      have:(Array.replicate l.toArray.size false).getD i true=false:=fm _ _ hi' _
      rw[this]at hi;cases hi) (by
      have:∀k,k≤l.length→bP (Array.replicate l.toArray.size false) k=k:=by
        intro k
        induction k with
        |zero=>intro _;rfl
        |succ k ih=>
          intro hk
          simp only[bP]
          rw[ih (by omega)]
          have:(Array.replicate l.toArray.size false).getD k true=false:=fm _ _ (by simp;omega) _
          rw[this];simp
      exact this m hmle) (by rw[he];rw[hlt]at hfr;exact hfr)
  rw[show m+(l.toArray.size - m)=l.toArray.size by simp;omega]at this
  exact this
end
end PW
end Go.Proofs.YtnegbdpggideiaaGreatDoor
namespace Go.Proofs.YtnegbdpggideiaaGreatDoor
namespace PW
open Go.RowKit cH Mem
theorem pJ{w w':World}{l:Nat}{r:Loop}(hl:w.heap[l]? =some (.loop r))(ho:∀k,k≠l→w'.heap[k]? =w.heap[k]?){a:Addr}{x:Value}(h:w.cell? a=some x):w'.cell? a=some x:=by
 have hne:a.block≠l:=fun e=>by
  unfold World.cell? at h
  rw[e,hl]at h
  simp at h
 rw[km (ho _ hne)]
 exact h
theorem cG.other{E:Env}{w w':World}{l:Nat}{r:Loop}(hl:w.heap[l]? =some (.loop r))(hz:w'.heap.size=w.heap.size)(ho:∀k,k≠l→w'.heap[k]? =w.heap[k]?){v:Value}{p:PV}(h:cG E w v p):cG E w' v p:=by
 induction h with
 |any v=>exact .any v
 |raw v=>exact .raw v
 |bT=>exact .bT
 |empty a c h=>exact .empty a c h
 |slice b off n c cs xs h0 h1 h2 hb hM hc hl2 _ ih=>exact .slice b off n c cs xs h0 h1 h2 (by omega) hM (fun i x hx=>pJ hl ho (hc i x hx)) hl2 ih
 |aY b o' off cs xs hb hM hc hl2 _ ih=>exact .aY b o' off cs xs (by omega) hM (fun i x hx=>pJ hl ho (hc i x hx)) hl2 ih
 |agg cs xs hl2 _ ih=>exact .agg cs xs hl2 ih
 |tuple cs xs hl2 _ ih=>exact .tuple cs xs hl2 ih
 |func f cs xs hl2 _ ih=>exact .func f cs xs hl2 ih
 |ptr i off b hi h=>exact .ptr i off b hi h
 |own i hi v h hs=>exact .own i hi v h hs
theorem ir.other{F:Nat→Prop}{w w':World}{l:Nat}{r:Loop}(hl:w.heap[l]? =some (.loop r))(ho:∀k,k≠l→w'.heap[k]? =w.heap[k]?)(h:ir F w):ir F w':=fun g cs hg=>by
 obtain⟨h1,t,fz,h2⟩:=h g cs hg
 have hne:g≠l:=fun e=>by rw[e,hl]at h2;cases h2
 exact⟨h1,t,fz,by rw[ho g hne];exact h2⟩
section
variable {P:Program} {ops:Array Oper} {n:Nat}
theorem Da{lp:Nat}{o:Oper}{a:Act}{w:World}{K K':Act→World→Prop}{Q Q':Exit→Act→World→Prop}(hnd:∀c,o.op≠ .defer c)(hK:∀a w,K a w→K' a w)(hp:∀c a w,Q (.panic c) a w→Q' (.panic c) a w)(hL:¬LetsOut Q)(h:o.wp P a w K Q):o.wpIn (Fence.wide.inRound lp) n P a w K' Q':=by
 refine⟨fun _ _=>trivial,?_⟩
 rw[Fence.inRound_round,Oper.semAt_eq _ _ _ hnd]
 unfold Oper.wp at h
 generalize (execOp a.eval o).run P w=x at*
 cases x with
 |ok x w'=>
  cases x<;>simp only[Oper.uponIn,Oper.upon]at h ⊢
  case value v=>exact hK _ _ h
  case skip=>exact hK _ _ h
  case defer d=>exact hK _ _ h
  case enter f args=>exact⟨fun h=>by simp[Fence.wide]at h,CallsIn.inRound lp (callsIn_wide.2 (h.mono fun e w'' he=>by cases e<;>first|exact hK _ _ he|exact hp _ _ _ he|exact(hL he).elim))⟩
  case row r args=>exact⟨fun h=>by simp[Fence.wide]at h,fun c cs _=>by
   obtain⟨v,w',r,s⟩:=h c cs
   exact⟨v,w',hK _ _ r,stepsIn_wide.2 s⟩⟩
  all_goals exact h.elim
 |halt x w'=>cases x<;>simp only[Oper.uponIn,Oper.upon]at h ⊢ <;>first|exact hp _ _ _ h|exact h
def C1(lp n:Nat)(P:Program)(ops:Array Oper)(Q:Exit→Act→World→Prop)(js:List Nat):Exit→Act→World→Prop
 | .normal,a,w=>wpOpsIn (Fence.wide.inRound lp) n P ops Q js a w
 |_,_,_=>False
theorem tL{lp:Nat}{Q:Exit→Act→World→Prop}{js:List Nat}:¬LetsOut (C1 lp n P ops Q js):=fun⟨_,_,h⟩=>h
theorem AU{lp m:Nat}{Q:Exit→Act→World→Prop}{js:List Nat}(hm:m≤ops.size)(hg:∀(i:Nat) o,i<m→ops[i]? =some o→o.guard=none∧∀c,o.op≠ .defer c):∀(is:List Nat) (a:Act) (w:World),(∀i∈is,i<m)→wpOps P (ops.extract 0 m) (C1 lp n P ops Q js) is a w→wpOpsIn (Fence.wide.inRound lp) n P ops Q (is++js) a w
 | [],a,w,_,h=>h
 |i::is,a,w,hi,h=>by
  have him:=hi i (by simp)
  have hget:(ops.extract 0 m)[i]? =ops[i]? :=by rw[Array.getElem?_extract];simp;omega
  rw[wpOps_cons]at h
  rw[List.cons_append,wpOpsIn_cons]
  unfold wpOp at h
  unfold wpOpIn
  rw[hget]at h
  have ho:ops[i]? =some ops[i]:=Array.getElem?_eq_getElem (by omega)
  rw[ho]at h ⊢
  simp only at h ⊢
  obtain⟨h1,h2⟩:=hg i _ him ho
  have hw:∀x,Region.wanted ops[i] x=true:=fun x=>by unfold Region.wanted;rw[h1]
  rw[if_pos (hw _)]at h ⊢
  rcases h with h|⟨_,h⟩
  ·exact Da h2 (fun a' w' h=>AU hm hg is a' w' (fun j hj=>hi j (by simp[hj])) h) (fun _ _ _ h=>h.elim) tL h
  ·exact absurd h tL
theorem mT{lp m id N L:Nat}{l:List Oper}{st:St}{F:Nat→Prop}{base:Nat}{E:Env}{a:Act}{w:World}{Q:Exit→Act→World→Prop}(hm:Nat.ble m l.length=true)(hg:((l.take m).all fun o=>o.guard.isNone&& !vk o.op)=true){K:St→Prop}(hs:dR F base N st E a w)(hL:E.L=L)
  (h:WR P N L (l.take m).toArray (l.take m) st K) (hk:∀s E' a' w',K s→dR F base N s E' a' w'→cX E w E' w'→Below base w w'→wpOpsIn (Fence.wide.inRound lp) n P l.toArray Q (List.range' m (l.length - m)) a' w'):(Code.region id l.toArray false).wpIn (Fence.wide.inRound lp) n P Q a w:=by
 have hmle:m≤l.length:=Nat.ble_eq.mp hm
 have hlt:(l.take m).length=m:=by simp;omega
 refine wpIn_region ?_
 have hr:List.range l.toArray.size=List.range' 0 m++List.range' m (l.length - m):=by
  have h:= @List.range'_append_1 0 m (l.length - m)
  rw[Nat.zero_add,show m+(l.length - m)=l.length by omega]at h
  rw[List.range_eq_range',List.size_toArray]
  exact h.symm
 rw[hr]
 refine AU (m:=m) (by simpa using hmle) (fun i o hi ho=>?_) _ a w (fun i hi=>by simp at hi;omega) ?_
 ·have hmem:o∈l.take m:=by
   have:(l.take m)[i]? =some o:=by rw[List.getElem?_take,if_pos hi];simpa using ho
   exact List.mem_of_getElem? this
  have:=List.all_eq_true.1 hg o hmem
  simp only[Bool.and_eq_true,Option.isNone_iff_eq_none,Bool.not_eq_true']at this
  exact⟨this.1,fun c e=>by rw[e]at this;exact absurd this.2 (by simp[vk])⟩
 ·have he:l.toArray.extract 0 m=(l.take m).toArray:=by simp
  rw[he]
  have:=h F base E w E a w ⟨hL,cX.refl _ _,Below.refl _ _⟩ hs (C1 lp n P l.toArray Q (List.range' m (l.length - m))) 0 (fun a' w' ⟨s,E',h1,h2,h3,h4⟩=>hk s E' a' w' h1 h2 h3 h4) (fun j=>by simp)
  rw[hlt]at this
  exact this
theorem mW{F:Fence}(hF:F=Fence.wide∨∃lp,F=Fence.wide.inRound lp){i:Nat}{is:List Nat}{o:Oper}{a:Act}{w:World}{v:Value}{Q:Exit→Act→World→Prop}(ho:ops[i]? =some o)(hg:o.guard=none)(hnd:∀c,o.op≠ .defer c)(hr:(execOp a.eval o).run P w= .ok (.value v) w)(h:wpOpsIn F n P ops Q is (a.put o.dst v) w):wpOpsIn F n P ops Q (i::is) a w:=by
 rw[wpOpsIn_cons]
 unfold wpOpIn
 rw[ho]
 simp only
 rw[if_pos (by unfold Region.wanted;rw[hg])]
 have hsem:o.semAt F.round a.eval=execOp a.eval o:=by
  rcases hF with rfl|⟨lp,rfl⟩
  ·exact Oper.semAt_none _ _
  ·rw[Fence.inRound_round,Oper.semAt_eq _ _ _ hnd]
 refine⟨fun _ _=>?_,?_⟩
 ·rcases hF with rfl|⟨lp,rfl⟩<;>trivial
 ·rw[hsem,hr]
  exact h
theorem By{lp:Nat}{i l:Nat}{is:List Nat}{o:Oper}{a:Act}{w:World}{Q:Exit→Act→World→Prop}{x y:Operand}{ats:Array TypeId}{R:Ending→World→Prop}(ho:ops[i]? =some o)(hg:o.guard=none)(hop:o.op= .call {callee:=.value x,args:= #[y],argTypes:=ats})
  (hx:a.eval x= .func (.yield l) #[] #[]) (hy:YieldAt Fence.wide (n - 1) P l #[a.eval y] w R) (hR:∀e w',R e w'→∃v,e= .returned v∧wpOpsIn (Fence.wide.inRound lp) n P ops Q is (a.put o.dst v) w'):wpOpsIn (Fence.wide.inRound lp) n P ops Q (i::is) a w:=by
 obtain⟨fn,tmps,assign,body,h1,h2⟩:=hy
 rw[wpOpsIn_cons]
 unfold wpOpIn
 rw[ho]
 simp only
 rw[if_pos (by unfold Region.wanted;rw[hg])]
 refine⟨fun _ _=>trivial,?_⟩
 rw[Fence.inRound_round,Oper.semAt_eq _ _ _ (fun c e=>by rw[hop]at e;cases e)]
 have hr:(execOp a.eval o).run P w= .ok (.round l fn tmps assign body) w:=by
  simp[execOp,hop,resolve,hx,Deferred.ofValue,invoke,h1]
 rw[hr]
 refine⟨fun h=>by simp[Fence.wide]at h,RoundIn.mono h2 fun e w' he=>?_⟩
 obtain⟨v,rfl,hq⟩:=hR e w' he
 exact hq
theorem D2{o:Oper}{a:Act}{w:World}{x:Operand}{ty:TypeId}{q:Bool}(ho:o.op= .unOp .not ty x)(hx:a.eval x= .bool q):(execOp a.eval o).run P w= .ok (.value (.bool (!q))) w:=by
 simp only[execOp,ho,hx,Op.unary,Sem.run_bind,Sem.run_pure,Result.andThen_ok]
theorem A6{o:Oper}{a:Act}{w:World}{x:Operand}{ty:TypeId}{b:Nat}{c:Value}(ho:o.op= .load ty x)(hk:sE P ty=some none)(hx:a.eval x= .pointer (some ⟨b,0,none⟩))(hc:w.cell? ⟨b,0,none⟩=some c):(execOp a.eval o).run P w= .ok (.value c) w:=by
 have h:=jU (P:=P) hk hc
 simp only[execOp,ho,hx,Sem.run_bind,h,Result.andThen_ok,Sem.run_pure]
theorem vV{o:Oper}{a:Act}{w:World}{x:Operand}(ho:o.op= .assign x):(execOp a.eval o).run P w= .ok (.value (a.eval x)) w:=by
 simp only[execOp,ho,Sem.run_pure]
theorem Sat.other{F:Nat→Prop}{base:Nat}{σ:cm}{E:Env}{w w':World}{l:Nat}{r:Loop}(hl:w.heap[l]? =some (.loop r))(hz:w'.heap.size=w.heap.size)(ho:∀k,k≠l→w'.heap[k]? =w.heap[k]?)(h:Sat F base σ E w):Sat F base σ E w':=by
 have hne:∀ {k:Nat} {o:Obj},w.heap[k]? =some o→(∀r,o≠ .loop r)→k≠l:=fun {k o} hk hr e=>by subst e;rw[hl]at hk;cases hk;exact hr _ rfl
 have hL:∀ {cs:List Value} {xs:List PV},bb E w cs xs→bb E w' cs xs:=fun hr=>⟨hr.1,fun i x u k1 k2=>(hr.2 i x u k1 k2).other hl hz ho⟩
 refine⟨by rw[hz];exact h.bl,fun b hb=>⟨by rw[hz];exact(h.fb b hb).1,(h.fb b hb).2⟩,h.len,h.mm,fun i blk hi=>?_,h.inj,h.gl.other hl ho⟩
 have hb:=h.blk i blk hi
 generalize E.at_ i=v at hb
 cases blk with
 |cells t xs=>
  obtain⟨b',cs,rfl,h1,h2,h3⟩:=hb
  exact⟨b',cs,rfl,h1,(ho b' (hne h2 (fun r e=>by cases e))).trans h2,hL h3⟩
 |row e size n xs=>
  obtain⟨cs,h1,h2⟩:=hb
  refine⟨cs,⟨h1.1,?_⟩,hL h2⟩
  rcases h1.2 with h|⟨g',cap,cur,rfl,k1,k2,k3⟩
  ·exact .inl h
  ·exact .inr ⟨g',cap,cur,rfl,k1,(ho g' (hne k2 (fun r e=>by cases e))).trans k2,k3⟩
 |mp kv=>
  obtain⟨r',es,ck,rfl,h1,h2,h3,h4⟩:=hb
  exact⟨r',es,ck,rfl,h1,(ho r' (hne h2 (fun r e=>by cases e))).trans h2,h3,hL h4⟩
theorem ek.other{E:Env}{w w':World}{l:Nat}{r:Loop}(hl:w.heap[l]? =some (.loop r))(hz:w'.heap.size=w.heap.size)(ho:∀k,k≠l→w'.heap[k]? =w.heap[k]?){ρ:Operand→Value}{t:cd}(h:ek E w ρ t):ek E w' ρ t:=fun k p hk=>(h k p hk).other hl hz ho
theorem Cp{o:Oper}{a:Act}{w:World}{x:Operand}(ho:o.op= .move x):(execOp a.eval o).run P w= .ok (.value (a.eval x)) w:=by
 simp only[execOp,ho,Sem.run_pure]
theorem we{o:Oper}{a:Act}{w:World}{op:BinOp}{x y:Operand}{ty tz:TypeId}{c b:Int}{v:Value}(ho:o.op= .binOp op ty x y tz)(hx:a.eval x= .int .i64 c)(hy:a.eval y= .int .i64 b)(hv:(binOp op ty (.int .i64 c) (.int .i64 b)).run P w= .ok v w):(execOp a.eval o).run P w= .ok (.value v) w:=by
 have hg:(eqGuard op ty x y (.int .i64 c) (.int .i64 b)).run P w= .ok () w:=by unfold eqGuard;split<;>rfl
 simp only[execOp,ho,hx,hy,Sem.run_bind,Sem.run_pure,Result.andThen_ok,hg,hv]
end
end PW
end Go.Proofs.YtnegbdpggideiaaGreatDoor
