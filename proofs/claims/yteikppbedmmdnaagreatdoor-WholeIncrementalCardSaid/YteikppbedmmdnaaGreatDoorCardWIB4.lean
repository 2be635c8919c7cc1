/- Texts of the proof, part 4. -/
import Derived.OpenShut
import Derived.Test.YteikppbedmmdnaaGreatDoorRows
import Derived.Test.YteikppbedmmdnaaGreatDoorCards
import Derived.Test.YteikppbedmmdnaaGreatDoorTie
import Derived.WalkKit
import Derived.ProofKit
import Derived.ShutString
import Derived.ChangeOld
import Derived.Below
import Derived.LaidMore
import Derived.Stop.Joined
import Derived.SevenTiedAt
import Derived.Lib.SmallJoins
import Derived.Lib.LaidTab
import Derived.Test.YteikppbedmmdnaaGreatDoorCardWIB3
set_option linter.unusedVariables false
set_option linter.unusedSimpArgs false
set_option maxRecDepth 10000
set_option maxHeartbeats 1000000
namespace Go.Proofs.YteikppbedmmdnaaGreatDoor
namespace PW
section
open Go.RowKit cj Mem Net
section
variable {H:Type} {enc:TypeId×Value→H} {W:World}
theorem kQ{n:Nat}{cs:List Value}{y:DataW H×List MemPlace}(h:DataW.trod enc Tryz.prog W 0 (fun _=>true) true n 3 cs=some y):∃a:Int,cs=[.int .i64 a]:=by
 obtain⟨a,h1,_⟩:=DataW.trod_int Tryz.underlying3 h
 exact⟨a,h1⟩
theorem pJ{α:Type}(f:α→PV)(l:List α):l.flatMap (fun a=>[f a])=l.map f:=by induction l with
 |nil=>rfl
 |cons a l ih=>simp[ih]
theorem KF{n:Nat}{v:Value}{y:DataW H×List MemPlace}(h:DataW.trod enc Tryz.prog W 0 (fun _=>true) true n 43 [v]=some y):∃L,cu EN W v (aw L):=by
 obtain⟨L,hL⟩:=oA (f:=fun a:Int=>[PV.raw (.int .i64 a)]) (s:=1) Tryz.underlying43 (by kernel_rfl) (by omega) (fun n cs y hy _=>by
  obtain⟨a,rfl⟩:=kQ hy
  exact⟨a,aV.one (.raw _)⟩) h
 refine⟨L,?_⟩
 rw[pJ]at hL
 exact hL
theorem DM{n:Nat}{v:Value}{y:DataW H×List MemPlace}(h:DataW.trod enc Tryz.prog W 0 (fun _=>true) true n 22 [v]=some y):∃L,cu EN W v (bq L):=by
 obtain⟨L,hL⟩:=oA (f:=fun a:Bool=>[PV.raw (.bool a)]) (s:=1) Tryz.underlying22 (by kernel_rfl) (by omega) (fun n cs y hy _=>by
  obtain⟨a,rfl,_⟩:=DataW.trod_bool Tryz.underlying4 hy
  exact⟨a,aV.one (.raw _)⟩) h
 refine⟨L,?_⟩
 rw[pJ]at hL
 exact hL
theorem HK{n:Nat}{cs:List Value}{y:DataW H×List MemPlace}(h:DataW.trod enc Tryz.prog W 0 (fun _=>true) true n 82 cs=some y)(hl:cs.length=7):∃l:jt,aV EN W cs (iQ l):=by
 have c3:Tryz.prog.cellsOf 3=1:=by kernel_rfl
 have c54:Tryz.prog.cellsOf 80=2:=by kernel_rfl
 obtain⟨xs,m,_,_,_,hlen,hf⟩:=DataW.trod_struct Tryz.underlying82 h
 match cs,hl with
 | [c0,c1,c2,c3',c4,c5,c6],_=>
  match xs,hlen with
  | [y0,y1,y2,y3,y4,y5],_=>
   have f0:DataW.trod enc Tryz.prog W 0 (fun _=>true) true m 3 (([c0,c1,c2,c3',c4,c5,c6].drop 0).take (Tryz.prog.cellsOf 3))=some y0:=hf 0 _ rfl
   rw[c3]at f0
   have f1:DataW.trod enc Tryz.prog W 0 (fun _=>true) true m 3 (([c0,c1,c2,c3',c4,c5,c6].drop 1).take (Tryz.prog.cellsOf 3))=some y1:=hf 1 _ rfl
   rw[c3]at f1
   have f2:DataW.trod enc Tryz.prog W 0 (fun _=>true) true m 80 (([c0,c1,c2,c3',c4,c5,c6].drop 2).take (Tryz.prog.cellsOf 80))=some y2:=hf 2 _ rfl
   rw[c54]at f2
   have f3:DataW.trod enc Tryz.prog W 0 (fun _=>true) true m 3 (([c0,c1,c2,c3',c4,c5,c6].drop 4).take (Tryz.prog.cellsOf 3))=some y3:=hf 3 _ rfl
   rw[c3]at f3
   have f4:DataW.trod enc Tryz.prog W 0 (fun _=>true) true m 3 (([c0,c1,c2,c3',c4,c5,c6].drop 5).take (Tryz.prog.cellsOf 3))=some y4:=hf 4 _ rfl
   rw[c3]at f4
   have f5:DataW.trod enc Tryz.prog W 0 (fun _=>true) true m 3 (([c0,c1,c2,c3',c4,c5,c6].drop 6).take (Tryz.prog.cellsOf 3))=some y5:=hf 5 _ rfl
   rw[c3]at f5
   obtain⟨a0,h0⟩:=kQ f0
   obtain⟨a1,h1⟩:=kQ f1
   obtain⟨a3,h3⟩:=kQ f3
   obtain⟨a4,h4⟩:=kQ f4
   obtain⟨a5,h5⟩:=kQ f5
   obtain⟨zs,m2,_,_,_,hz,hg⟩:=DataW.trod_array Tryz.underlying80 f2
   match zs,hz with
   | [z0,z1],_=>
    have g0:=hg 0 (by omega)
    have g1:=hg 1 (by omega)
    rw[c3]at g0 g1
    obtain⟨b0,k0⟩:=kQ g0
    obtain⟨b1,k1⟩:=kQ g1
    simp at h0 h1 h3 h4 h5 k0 k1
    subst h0 h1 h3 h4 h5 k0 k1
    exact⟨⟨a0,a1,b0,b1,a3,a4,a5⟩,aV.cons (.raw _)<|aV.cons (.raw _)<|aV.cons (.raw _)<|aV.cons (.raw _)<|aV.cons (.raw _)<|aV.cons (.raw _)<|aV.cons (.raw _) (aV.nil _ _)⟩
theorem Gg{base:Nat}{v:Value}{d:DataW H}{p:List MemPlace}(hv:Value.okWide Tryz.prog W .any base 25 v)(h:DataW.Trod enc Tryz.prog W 0 (fun _=>true) true 25 v d p):∃T,cu EN W v (aZ T):=by
 obtain⟨v0,v1,v2,y0,y1,y2,n,rfl,_,_,h0,h1,h2⟩:=Joins.open_agg3 Tryz.underlying25 (by kernel_rfl) (by kernel_rfl) hv h
 obtain⟨a,ha⟩:=kQ h0
 obtain⟨B,hB⟩:=DM h1
 obtain⟨L,hL⟩:=oA (f:=iQ) (s:=7) Tryz.underlying23 (by kernel_rfl) (by omega) (fun n cs y hy hl=>HK hy hl) h2
 cases ha
 refine⟨⟨a,B,L⟩,.agg #[_,v1,v2] _ rfl (fun i x u k1 k2=>?_)⟩
 match i,k1,k2 with
 |0,k1,k2=>cases k1;cases k2;exact .raw _
 |1,k1,k2=>cases k1;cases k2;exact hB
 |2,k1,k2=>cases k1;cases k2;exact hL
 |_+3,_,k2=>simp[bI]at k2
end
end
end PW
end Go.Proofs.YteikppbedmmdnaaGreatDoor
namespace Go.Proofs.YteikppbedmmdnaaGreatDoor
namespace PW
open Go.ChangeShapes Go.WideShapes Go.ChangeAt Go.RowKit
open Go.Joins cj Mem
theorem own:ownKnob Tryz.prog.godebug=none:=by kernel_rfl
theorem laidOut:laidOutB Tryz.prog=true:=by kernel_rfl
theorem IA{H:Type}{enc:TypeId×Value→H}{W:World}{t:TypeId}{v:Value}{d:DataW H}{p:List MemPlace}(h:DataW.Trod enc Tryz.prog W 0 (fun _=>true) true t v d p):∀x∈p,x.block<W.heap.size:=by
 obtain⟨m,hm⟩:=h;exact DataW.trod_lt m _ _ _ hm
end PW
end Go.Proofs.YteikppbedmmdnaaGreatDoor
namespace Go.Proofs.YteikppbedmmdnaaGreatDoor
namespace PW
section
open Go.RowKit cj Mem
theorem wP{P:Program}{x:String×DataW Unit}{r:List (String×DataW Unit)}{W:World}(h:laidMet P (x::r) W):laidMet P r W:=by
 obtain⟨ps,⟨g,t,cs,fuel,p,q,_,_,_,_,hr,rfl⟩,hn,hc⟩:=h
 exact⟨q,hr,(List.nodup_append.1 hn).2.1,fun b off hm=>hc b off (List.mem_append.2 (.inr hm))⟩
theorem lH{P:Program}{W:World}{name:String}{k:IntKind}{zs:List Int}{g:Nat}(hg:P.globalNamed name=some g)(h:Lib.TabIs P W name k zs):∃t fz,W.heap[g]? =some (.cells (zs.map fun z=>Value.int k z).toArray t fz):=by
 unfold Lib.TabIs World.var? at h
 rw[hg]at h
 simp only[Option.bind_some]at h
 split at h
 ·rename_i cs t fz hh
  cases h
  exact⟨t,fz,hh⟩
 ·cases h
def t32:List Int:=[0,1,28,2,29,14,24,3,30,22,20,15,25,17,4,8,31,27,13,23,21,19,16,7,26,12,18,6,11,5,10,9]
def t64:List Int:=[0,1,56,2,57,49,28,3,61,58,42,50,38,29,17,4,62,47,59,36,45,43,51,22,53,39,33,30,24,18,12,5,63,55,48,27,60,41,37,16,46,35,44,21,52,32,23,11,54,26,40,15,34,20,31,10,25,14,19,9,13,8,7,6]
def t10:List Int:=[1,10,100,1000,10000,100000,1000000,10000000,100000000,1000000000,10000000000,100000000000,1000000000000,10000000000000,100000000000000,1000000000000000,10000000000000000,100000000000000000,1000000000000000000,10000000000000000000]
theorem Bv{W:World}(h:laidMetH Tryz.prog Rows.wholeIncrementalRow.laid W):iC (fun _=>False) W:=by
 have h1:laidMet Tryz.prog [("math/bits.deBruijn32tab",Lib.tabData .u8 t32),("math/bits.deBruijn64tab",Lib.tabData .u8 t64),("internal/strconv.uint64pow10",Lib.tabData .u64 t10)] W:=h
 have h2:=wP h1
 have h3:=wP h2
 have a1:=lH (g:=1) (by kernel_rfl) (Lib.tabIs_of_head (g:=1) (t:=228) (e:=5) (n:=32) (by kernel_rfl) (by kernel_rfl) (by kernel_rfl) (by kernel_rfl) (by kernel_rfl) (by kernel_rfl) h1)
 have a2:=lH (g:=2) (by kernel_rfl) (Lib.tabIs_of_head (g:=2) (t:=229) (e:=5) (n:=64) (by kernel_rfl) (by kernel_rfl) (by kernel_rfl) (by kernel_rfl) (by kernel_rfl) (by kernel_rfl) h2)
 have a3:=lH (g:=0) (by kernel_rfl) (Lib.tabIs_of_head (g:=0) (t:=211) (e:=202) (n:=20) (by kernel_rfl) (by kernel_rfl) (by kernel_rfl) (by kernel_rfl) (by kernel_rfl) (by kernel_rfl) h3)
 intro g cs hm
 refine⟨fun hf=>hf,?_⟩
 have hG:GG=[(0,t10.map fun z=>Value.int .u64 z),(1,t32.map fun z=>Value.int .u8 z),(2,t64.map fun z=>Value.int .u8 z)]:=by kernel_rfl
 rw[hG]at hm
 rcases List.mem_cons.1 hm with e|hm
 ·cases e;exact a3
 ·rcases List.mem_cons.1 hm with e|hm
  ·cases e;exact a1
  ·rcases List.mem_cons.1 hm with e|hm
   ·cases e;exact a2
   ·cases hm
section
variable {P:Program} {N L:Nat} {ops:Array Oper}
def WA(P:Program)(N L:Nat)(ops:Array Oper):Nat→Array Bool→St→(St→Prop)→Prop
 |0,ls,st,K=>Region.ready .any ops ls=[]∧K st
 |n+1,ls,st,K=>Region.ready .any ops ls≠[]∧∀i∈Region.ready .any ops ls,∃o,ops[i]? =some o∧o.guard=none∧WR P N L [o].toArray [o] st (fun s=>WA P N L ops n (ls.setIfInBounds i true) s K)
def KE(P:Program)(N L:Nat)(ops:Array Oper)(n:Nat)(ls:Array Bool)(st:St)(K:St→Prop)(is:List Nat):Prop:=
 ∀i∈is,∃o,ops[i]? =some o∧o.guard=none∧WR P N L [o].toArray [o] st (fun s=>WA P N L ops n (ls.setIfInBounds i true) s K)
theorem jP{ls:Array Bool}{st:St}{K:St→Prop}(h:Region.ready .any ops ls=[])(hk:K st):WA P N L ops 0 ls st K:=⟨h,hk⟩
theorem bK{n:Nat}{ls:Array Bool}{st:St}{K:St→Prop}(i:Nat)(is:List Nat)(h:Region.ready .any ops ls=i::is)(hk:KE P N L ops n ls st K (i::is)):WA P N L ops (n+1) ls st K:=
 ⟨by rw[h];simp,fun j hj=>hk j (by rw[←h];exact hj)⟩
theorem bJ{n:Nat}{ls:Array Bool}{st:St}{K:St→Prop}:KE P N L ops n ls st K []:=fun i hi=>by simp at hi
theorem bc{n:Nat}{ls:Array Bool}{st:St}{K:St→Prop}{i:Nat}{is:List Nat}{o:Oper}(ho:ops[i]? =some o)(hg:o.guard=none)(h:WR P N L [o].toArray [o] st (fun s=>WA P N L ops n (ls.setIfInBounds i true) s K))(hs:KE P N L ops n ls st K is):KE P N L ops n ls st K (i::is):=fun j hj=>by
 rcases List.mem_cons.1 hj with rfl|hj
 ·exact⟨o,ho,hg,h⟩
 ·exact hs j hj
def Ic(K:Act→World→Prop)(Q:Exit→Act→World→Prop):Exit→Act→World→Prop
 | .normal,a,w=>K a w
 |e,a,w=>Q e a w
theorem u9{o:Oper}{a:Act}{w:World}{K K' K'':Act→World→Prop}{Q:Exit→Act→World→Prop}(h:∀a w,K a w→K' a w)(hh:o.wp P a w K (Ic K'' Q)):o.wp P a w K' Q:=by
 unfold Oper.wp at*
 generalize (execOp a.eval o).run P w=x at*
 cases x with
 |ok n w'=>
  cases n<;>simp only[Oper.upon]at hh ⊢ <;>
   first
    |exact h _ _ hh
    |exact Calls.mono hh (fun e w'' he=>by cases e<;>first|exact h _ _ he|exact he)
    |exact Rows.mono hh (fun _ _ he=>h _ _ he)
 |halt x w'=>cases x<;>simp only[Oper.upon]at hh ⊢ <;>exact hh
theorem WA.any:∀ {n:Nat} {ls:Array Bool} {st:St} {K:St→Prop},WA P N L ops n ls st K→∀F base E₀ w₀ E a w,px base L E₀ w₀ E w→cY F base N st E a w→∀(Q:Exit→Act→World→Prop),(∀a' w',mQ F base N E₀ w₀ K a' w'→Q .normal a' w')→wpAny P .any ops Q n ls a w
 |0,ls,st,K,h,F,base,E₀,w₀,E,a,w,hc,hs,Q,hQ=>⟨h.1,hQ a w ⟨st,E,h.2,hs,hc.g,hc.b⟩⟩
 |n+1,ls,st,K,h,F,base,E₀,w₀,E,a,w,hc,hs,Q,hQ=>by
  refine⟨fun h0=>absurd h0 h.1,fun i hi=>?_⟩
  obtain⟨o,ho,hg,hw⟩:=h.2 i hi
  have h1:=hw F base E₀ w₀ E a w hc hs (Ic (wpAny P .any ops Q n (ls.setIfInBounds i true)) Q) 0 (fun a' w' ⟨s,E',k1,k2,k3,k4⟩=>by
   show wpAny P .any ops Q n (ls.setIfInBounds i true) a' w'
   exact WA.any k1 F base E₀ w₀ E' a' w' ⟨hc.L,k3,k4⟩ k2 Q hQ) (fun j=>by simp)
  simp only[List.length_singleton]at h1
  rw[List.range'_succ,wpOps_cons]at h1
  unfold wpOp at h1 ⊢
  have hw1:∀y,Region.wanted o y=true:=fun y=>by unfold Region.wanted;rw[hg]
  simp only[List.getElem?_toArray,List.getElem?_cons_zero,hw1,if_true]at h1
  simp only[ho,hw1,if_true]
  rcases h1 with h1|⟨h1,h2⟩
  ·exact .inl (u9 (fun a w h=>h) h1)
  ·exact .inr ⟨h1,h2⟩
theorem rJ{id:Nat}{l:List Oper}{st:St}{Q:Exit→St→Prop}(hm:P.follows .mixedOrders=true)(h:WA P N L l.toArray l.length (Array.replicate l.length false) st (fun s=>Q .normal s)):W P N L (.region id l.toArray true) st Q:=fun F base E₀ w₀ E a w hc hs=>by
 refine wp_region_any hm ?_
 have hE:Ext w {w with drawn:=w.drawn+1}:=⟨rfl,rfl,rfl,Nat.le_refl _,fun _ _=>rfl⟩
 have:=h.any F base E₀ w₀ E a {w with drawn:=w.drawn+1} (hc.on (.ext hE) (Below.fB hE hs.sat.bl)) ⟨hs.sat.ext hE,hs.tmp.goes (.ext hE),hs.jL,hs.size⟩ (fun e a' w'=>mQ F base N E₀ w₀ (Q e) a' w') (fun a' w' h=>h)
 simpa using this
theorem pa{id:Nat}{l:List Oper}{y:Code}{st:St}{Q:Exit→St→Prop}(hm:P.follows .mixedOrders=true)(h:WA P N L l.toArray l.length (Array.replicate l.length false) st (fun s=>W P N L y s Q)):W P N L (.seq (.region id l.toArray true) y) st Q:=an (rJ hm h)
theorem sP{α:Type}{l:List α}{k:Nat}{x:α}(h:l[k]? =some x):l.set k x=l:=by
 obtain⟨hk,rfl⟩:=List.getElem?_eq_some_iff.1 h
 simp
theorem cB{c:Code}{t:b9}{σ:bN}{Q:Exit→St→Prop}(i k e s:Nat){ty:TypeId}{xs:List PV}(hi:σ[i]? =some (some (.cells ty xs)))(hk:xs[k]? =some (.raw (.slice none 0 0)))
  (h:W P N L c ⟨t,(σ++[some (cK.row e s 0 [])]).set i (some (.cells ty (xs.set k (.own σ.length))))⟩ Q):W P N L c ⟨t,σ⟩ Q:=fun F base E₀ w₀ E a w hc hs=>by
 obtain⟨a1,a2,a3⟩:=DN hs.sat e s
 have hil:=(List.getElem?_eq_some_iff.1 hi).1
 have hi':(σ++[some (cK.row e s 0 [])])[i]? =some (some (.cells ty xs)):=by rw[List.getElem?_append_left hil];exact hi
 obtain⟨b,cs,hb,h1,h2,h3⟩:=a1.blk i _ hi'
 obtain⟨cv,hcv,hrep⟩:=h3.get hk
 cases hrep
 obtain⟨b1,b2⟩:=a1.BA hi' (b:=b) (by rw[hb];rfl) (Nat.le_refl _) (fun _ _ _=>rfl) (bi':=.cells ty (xs.set k (.own σ.length))) ⟨b,cs,hb,h1,h2,by
  have:=h3.set k a3
  rw[sP hcv]at this
  exact this⟩
 exact h F base E₀ w₀ _ a w (hc.on (a2.trans b2) (Below.refl _ _)) ⟨b1,(hs.tmp.goes a2).goes b2,hs.jL,hs.size⟩
inductive C1 (σ:bN) (t:b9):b9→Prop
 |nil:C1 σ t []
 |cons {t':b9} (k:Nat) {p q:PV}:look k t=some p→aD σ p q→C1 σ t t'→C1 σ t ((k,q)::t')
theorem C1.get{σ:bN}{t t':b9}(h:C1 σ t t'):∀k q,look k t'=some q→∃p,look k t=some p∧aD σ p q:=by
 induction h with
 |nil=>intro k q h;cases h
 |cons k h1 h2 _ ih=>
  intro j q hj
  simp only[look]at hj
  rw[Bool.cond_eq_ite]at hj
  split at hj
  ·rename_i he
   have:=Nat.eq_of_beq_eq_true he
   subst this
   cases hj
   exact⟨_,h1,h2⟩
  ·exact ih j q hj
theorem km{c:Code}{t t':b9}{σ:bN}{Q:Exit→St→Prop}(hT:C1 σ t t')(h:W P N 0 c ⟨t',[]⟩ Q):W P N 0 c ⟨t,σ⟩ Q:=fun F base E₀ w₀ E a w hc hs=>by
 have hF:∀b,F b→E.M b:=fun b hb=>(hs.sat.mm b).2 (.inl hb)
 refine h F base E₀ w₀ (EF F) a w ⟨hc.L,⟨by rw[hc.L];exact Nat.zero_le _,fun i hi=>by rw[hc.L]at hi;omega,fun b h1 h2 hf=>hc.g.M b h1 h2 (hF b hf),hc.g.size,hc.g.heap⟩,hc.b⟩
  ⟨⟨hs.sat.bl,fun b hb=>⟨(hs.sat.fb b hb).1,fun i blk h=>by simp at h⟩,rfl,fun b=>by simp[EF],fun i blk h=>by simp at h,fun i j bi bj b h=>by simp at h,hs.sat.gl.sub hF⟩,fun k q hq=>?_,hs.jL,hs.size⟩
 obtain⟨p,h1,h2⟩:=hT.get k q hq
 exact h2.rep hs.sat hF (fun b hb=>(hs.sat.fb b hb).2) _ (hs.tmp k p h1)
end
end
end PW
end Go.Proofs.YteikppbedmmdnaaGreatDoor
namespace Go.Proofs.YteikppbedmmdnaaGreatDoor
namespace Heap
section
def par(q:Nat):Nat:=(q - 1) / 2
theorem fh{q:Nat}(h:0<q):par q<q:=by unfold par;omega
theorem GW{p c:Nat}(h:0<c)(hc:par c=p):c=2*p+1∨c=2*p+2:=by unfold par at hc;omega
def qH(f:Nat→Int)(len:Nat):Prop:=∀q,0<q→q<len→f (par q)≤f q
def Iq(f:Nat→Int)(len p:Nat):Prop:=0<p→∀c,0<c→c<len→par c=p→f (par p)≤f c
def oc(f:Nat→Int)(len p:Nat):Prop:=(∀q,0<q→q<len→q≠p→par q≠p→f (par q)≤f q)∧Iq f len p
def sS(f:Nat→Int)(len p:Nat):Prop:=(∀q,0<q→q<len→par q≠p→f (par q)≤f q)∧Iq f len p
def Gd(f:Nat→Int)(p q x:Nat):Int:=if x=p then f q else if x=q then f p else f x
theorem wh(f:Nat→Int)(p q:Nat):Gd f p q p=f q:=by simp[Gd]
theorem Kz(f:Nat→Int)(p q:Nat):Gd f p q q=f p:=by
 unfold Gd;split
 ·rename_i h;rw[h]
 ·simp
theorem ky(f:Nat→Int){p q x:Nat}(h1:x≠p)(h2:x≠q):Gd f p q x=f x:=by simp[Gd,h1,h2]
theorem EH{f:Nat→Int}{len p:Nat}(h:oc f len p)(hp:0<p)(hl:p<len)(_:f p<f (par p)):oc (Gd f p (par p)) len (par p):=by
 have hpp:=fh hp
 refine⟨fun q h0 hq h1 h2=>?_,fun hg c h0 hc hpc=>?_⟩
 ·by_cases e:par q=p
  ·have hqp:=fh h0
   rw[e,wh,ky f (by omega) h1]
   exact h.2 hp q h0 hq e
  ·have hqp:q≠p:=fun e'=>h2 (by rw[e'])
   rw[ky f e h2,ky f hqp h1]
   exact h.1 q h0 hq hqp e
 ·have hgg:=fh hg
  rw[ky f (by omega) (by omega)]
  have h3:=h.1 (par p) hg (by omega) (by omega) (by omega)
  by_cases e:c=p
  ·rw[e,wh];exact h3
  ·have:=fh h0
   rw[ky f e (by omega)]
   have:=h.1 c h0 hc e (by omega)
   rw[hpc]at this
   omega
theorem zo{f:Nat→Int}{len p:Nat}(h:oc f len p)(hp:p=0∨f (par p)≤f p):sS f len p:=
 ⟨fun q h0 hq h2=>by
  by_cases e:q=p
  ·subst e
   rcases hp with h'|h'
   ·omega
   ·exact h'
  ·exact h.1 q h0 hq e h2,h.2⟩
theorem yu{f:Nat→Int}{len p:Nat}(h:sS f len p)(hk:∀c,0<c→c<len→par c=p→f p≤f c):qH f len:=fun q h0 hq=>by
 by_cases e:par q=p
 ·rw[e];exact hk q h0 hq e
 ·exact h.1 q h0 hq e
theorem zn{f:Nat→Int}{len p c:Nat}(h:sS f len p)(hc0:0<c)(hcl:c<len)(hcp:par c=p)(hlt:f c<f p)(hk:∀c',0<c'→c'<len→par c'=p→f c≤f c'):sS (Gd f p c) len c:=by
 have hpc:=fh hc0
 refine⟨fun q h0 hq h2=>?_,fun _ d h0 hd hdc=>?_⟩
 ·have hqq:=fh h0
  by_cases e:par q=p
  ·rw[e,wh]
   by_cases e':q=c
   ·rw[e',Kz];omega
   ·rw[ky f (by omega) e'];exact hk q h0 hq e
  ·rw[ky f e h2]
   by_cases e':q=p
   ·rw[e',wh]
    exact h.2 (by omega) c hc0 hcl hcp
   ·rw[ky f e' (fun e2=>e (by rw[e2];exact hcp))]
    exact h.1 q h0 hq e
 ·have hdd:=fh h0
  rw[hcp,wh,ky f (by omega) (by omega)]
  have:=h.1 d h0 hd (by omega)
  rw[hdc]at this
  exact this
theorem Bo{f:Nat→Int}{len:Nat}(h:qH f len):∀q,q<len→f 0≤f q:=by
 intro q
 induction q using Nat.strongRecOn with
 |_ q ih=>
  intro hq
  by_cases e:q=0
  ·rw[e];exact Int.le_refl _
  ·have:=fh (q:=q) (by omega)
   exact Int.le_trans (ih (par q) this (by omega)) (h q (by omega) hq)
theorem xK{f g:Nat→Int}{len p:Nat}(h:qH f len)(he:∀q,q<len→q≠p→g q=f q)(hp:p<len):oc g len p:=by
 refine⟨fun q h0 hq h1 h2=>?_,fun hp0 c h0 hc hcp=>?_⟩
 ·have:=fh h0
  rw[he q hq h1,he (par q) (by omega) h2];exact h q h0 hq
 ·have:=fh h0
  have:=fh hp0
  rw[he (par p) (by omega) (by omega),he c hc (by omega)]
  have h1:=h c h0 hc
  rw[hcp]at h1
  exact Int.le_trans (h p hp0 hp) h1
theorem yQ{f g:Nat→Int}{len:Nat}(h:qH f len)(he:∀q,q<len→g q=f q):oc g (len+1) len:=by
 refine⟨fun q h0 hq h1 _=>?_,fun hp0 c h0 hc hcp=>?_⟩
 ·have:=fh h0
  rw[he q (by omega),he (par q) (by omega)];exact h q h0 (by omega)
 ·have:=fh h0;omega
theorem yF{f g:Nat→Int}{len:Nat}(h:qH f (len+1))(he:∀q,q<len→q≠0→g q=f q):oc g len 0:=by
 refine⟨fun q h0 hq h1 h2=>?_,fun hp0=>by omega⟩
 have:=fh h0
 rw[he q hq h1,he (par q) (by omega) h2];exact h q h0 (by omega)
def jv(K:List Int)(i:Int):Int:=K.getD i.toNat 0*65536+i
def rk(K O:List Int)(p:Nat):Int:=jv K (O.getD p 0)
theorem qA{K:List Int}{i j:Int}(hi:0≤i)(hi':i<65536)(hj:0≤j)(hj':j<65536):
  decide (jv K i<jv K j)=(if K.getD i.toNat 0=K.getD j.toNat 0 then decide (i<j) else decide (K.getD i.toNat 0<K.getD j.toNat 0)):=by
 unfold jv
 generalize K.getD i.toNat 0=a
 generalize K.getD j.toNat 0=b
 split
 ·simp only[decide_eq_decide];omega
 ·simp only[decide_eq_decide];omega
theorem Dg{K:List Int}{i j:Int}(hi:0≤i)(hj':j<65536)(h:jv K i≤jv K j):K.getD i.toNat 0≤K.getD j.toNat 0:=by
 unfold jv at h;omega
def dI(O:List Int)(p q:Nat):List Int:=(O.set p (O.getD q 0)).set q (O.getD p 0)
theorem gd(O:List Int)(p q:Nat):(dI O p q).length=O.length:=by simp[dI]
theorem er(L:List Int)(i j:Nat)(c:Int)(hi:i<L.length):(L.set i c).getD j 0=if j=i then c else L.getD j 0:=by
 simp only[List.getD_eq_getElem?_getD,List.getElem?_set]
 by_cases h:i=j
 ·subst h;simp[hi]
 ·rw[if_neg h,if_neg (Ne.symm h)]
theorem dG(O:List Int)(p q x:Nat)(hp:p<O.length)(hq:q<O.length):(dI O p q).getD x 0=if x=q then O.getD p 0 else if x=p then O.getD q 0 else O.getD x 0:=by
 unfold dI
 rw[er _ _ _ _ (by simpa using hq),er _ _ _ _ hp]
theorem Ay(K O:List Int)(p q:Nat)(hp:p<O.length)(hq:q<O.length):rk K (dI O p q)=Gd (rk K O) p q:=by
 funext x
 unfold rk Gd
 rw[dG O p q x hp hq]
 by_cases h1:x=q
 ·subst h1
  rw[if_pos rfl]
  by_cases h2:x=p
  ·rw[if_pos h2,h2]
  ·rw[if_neg h2,if_pos rfl]
 ·rw[if_neg h1]
  by_cases h2:x=p
  ·rw[if_pos h2,if_pos h2]
  ·rw[if_neg h2,if_neg h2,if_neg h1]
def cd(O:List Int)(i:Int):Prop:=∃p,p<O.length∧O.getD p 0=i
theorem mI(O:List Int)(p q:Nat)(hp:p<O.length)(hq:q<O.length)(i:Int):cd (dI O p q) i↔cd O i:=by
 unfold cd
 rw[gd]
 constructor
 ·rintro⟨x,hx,rfl⟩
  rw[dG O p q x hp hq]
  split
  ·exact⟨p,hp,rfl⟩
  ·split
   ·exact⟨q,hq,rfl⟩
   ·exact⟨x,hx,rfl⟩
 ·rintro⟨x,hx,rfl⟩
  by_cases h1:x=p
  ·exact⟨q,hq,by rw[dG O p q q hp hq,if_pos rfl,h1]⟩
  ·by_cases h2:x=q
   ·exact⟨p,hp,by
     rw[dG O p q p hp hq]
     by_cases h3:p=q
     ·omega
     ·rw[if_neg h3,if_pos rfl,h2]⟩
   ·exact⟨x,hx,by rw[dG O p q x hp hq,if_neg h2,if_neg h1]⟩
structure dv (N:Nat) (P O:List Int):Prop where
 len:P.length=N
 item:∀p,p<O.length→0≤O.getD p 0∧O.getD p 0<N∧P.getD (O.getD p 0).toNat 0=(p:Int)+1
 place:∀i,i<N→P.getD i 0=0∨∃p,p<O.length∧O.getD p 0=(i:Int)
theorem dv.inj{N:Nat}{P O:List Int}(h:dv N P O){p q:Nat}(hp:p<O.length)(hq:q<O.length)(he:O.getD p 0=O.getD q 0):p=q:=by
 have h1:=(h.item p hp).2.2
 have h2:=(h.item q hq).2.2
 rw[he]at h1
 omega
def hZ(P O:List Int)(p q:Nat):List Int:=(P.set (O.getD q 0).toNat ((p:Int)+1)).set (O.getD p 0).toNat ((q:Int)+1)
theorem dv.swap{N:Nat}{P O:List Int}(h:dv N P O){p q:Nat}(hp:p<O.length)(hq:q<O.length):dv N (hZ P O p q) (dI O p q):=by
 have ip:=h.item p hp
 have iq:=h.item q hq
 have hl:=h.len
 refine⟨by simp[hZ,h.len],fun x hx=>?_,fun i hi=>?_⟩
 ·rw[gd]at hx
  have ix:=h.item x hx
  have e:∀j:Int,0≤j→j<N→(hZ P O p q).getD j.toNat 0=if j=O.getD p 0 then(q:Int)+1 else if j=O.getD q 0 then(p:Int)+1 else P.getD j.toNat 0:=fun j h0 h1=>by
   unfold hZ
   rw[er _ _ _ _ (by rw[List.length_set];omega),er _ _ _ _ (by omega)]
   have e1:(j.toNat=(O.getD p 0).toNat)=(j=O.getD p 0):=by apply propext;omega
   have e2:(j.toNat=(O.getD q 0).toNat)=(j=O.getD q 0):=by apply propext;omega
   simp only[e1,e2]
  rw[dG O p q x hp hq]
  by_cases h1:x=q
  ·rw[if_pos h1,e _ ip.1 ip.2.1,if_pos rfl]
   exact⟨ip.1,ip.2.1,by rw[h1]⟩
  ·rw[if_neg h1]
   by_cases h2:x=p
   ·rw[if_pos h2,e _ iq.1 iq.2.1,if_neg (fun e=>by have:=h.inj hq hp e;omega),if_pos rfl]
    exact⟨iq.1,iq.2.1,by rw[h2]⟩
   ·rw[if_neg h2,e _ ix.1 ix.2.1,if_neg (fun e=>h2 (h.inj hx hp e)),if_neg (fun e=>h1 (h.inj hx hq e))]
    exact ix
 ·by_cases hH:cd O (i:Int)
  ·exact .inr ((mI O p q hp hq (i:Int)).2 hH)
  ·rcases h.place i hi with h0|h0
   ·refine .inl ?_
    unfold hZ
    rw[er _ _ _ _ (by rw[List.length_set];omega),er _ _ _ _ (by omega),if_neg (fun e=>hH ⟨p,hp,by omega⟩),if_neg (fun e=>hH ⟨q,hq,by omega⟩)]
    exact h0
   ·exact absurd h0 hH
theorem dv.zero{N:Nat}{P O:List Int}(h:dv N P O){i:Nat}(hi:i<N):P.getD i 0=0↔¬cd O (i:Int):=by
 constructor
 ·rintro h0 ⟨p,hp,he⟩
  have:=(h.item p hp).2.2
  rw[he,Int.toNat_natCast,h0]at this
  omega
 ·intro hn
  rcases h.place i hi with h0|h0
  ·exact h0
  ·exact absurd h0 hn
theorem dv.push{N:Nat}{P O:List Int}(h:dv N P O){i:Nat}(hi:i<N)(hn:¬cd O (i:Int)):dv N (P.set i ((O.length:Int)+1)) (O++[(i:Int)]):=by
 have hl:=h.len
 refine⟨by simp[h.len],fun x hx=>?_,fun j hj=>?_⟩
 ·rw[er _ _ _ _ (by omega)]
  by_cases h1:x<O.length
  ·have ix:=h.item x h1
   have e:(O++[(i:Int)]).getD x 0=O.getD x 0:=by simp[List.getD_eq_getElem?_getD,List.getElem?_append_left h1]
   rw[e,if_neg (fun e=>hn ⟨x,h1,by omega⟩)]
   exact ix
  ·have:x=O.length:=by simp at hx;omega
   subst this
   have e:(O++[(i:Int)]).getD O.length 0=i:=by simp
   rw[e,Int.toNat_natCast,if_pos rfl]
   exact⟨by omega,by omega,rfl⟩
 ·rw[er _ _ _ _ (by omega)]
  by_cases hji:j=i
  ·exact .inr ⟨O.length,by simp,by simp[hji]⟩
  ·rw[if_neg hji]
   rcases h.place j hj with h0|⟨p,hp,he⟩
   ·exact .inl h0
   ·exact .inr ⟨p,by simp;omega,by simp[List.getD_eq_getElem?_getD,List.getElem?_append_left hp]at he ⊢;exact he⟩
theorem B3(O:List Int)(i j:Int):cd (O++[i]) j↔j=i∨cd O j:=by
 constructor
 ·rintro⟨p,hp,rfl⟩
  by_cases h1:p<O.length
  ·exact .inr ⟨p,h1,by simp[List.getD_eq_getElem?_getD,List.getElem?_append_left h1]⟩
  ·have:p=O.length:=by simp at hp;omega
   subst this
   exact .inl (by simp)
 ·rintro(rfl|⟨p,hp,rfl⟩)
  ·exact⟨O.length,by simp,by simp⟩
  ·exact⟨p,by simp;omega,by simp[List.getD_eq_getElem?_getD,List.getElem?_append_left hp]⟩
theorem lJ(O:List Int)(m x:Nat)(h:x<m):(O.take m).getD x 0=O.getD x 0:=by
 simp[List.getD_eq_getElem?_getD,h]
theorem dv.pop{N:Nat}{P O:List Int}{m:Nat}(h:dv N P O)(hm:O.length=m+1):dv N (P.set (O.getD m 0).toNat 0) (O.take m):=by
 have hl:=h.len
 have im:=h.item m (by omega)
 refine⟨by simp[h.len],fun x hx=>?_,fun j hj=>?_⟩
 ·have hx':x<m:=by simp at hx;omega
  rw[lJ O m x hx',er _ _ _ _ (by omega)]
  have ix:=h.item x (by omega)
  rw[if_neg (fun e=>by have:=h.inj (p:=x) (q:=m) (by omega) (by omega) (by omega);omega)]
  exact ix
 ·rw[er _ _ _ _ (by omega)]
  by_cases hjm:j=(O.getD m 0).toNat
  ·exact .inl (if_pos hjm)
  ·rw[if_neg hjm]
   rcases h.place j hj with h0|⟨p,hp,he⟩
   ·exact .inl h0
   ·have:p≠m:=fun e=>hjm (by rw[←e,he];rfl)
    exact .inr ⟨p,by simp;omega,by rw[lJ O m p (by omega)];exact he⟩
theorem D7{N:Nat}{P O:List Int}{m:Nat}(h:dv N P O)(hm:O.length=m+1)(j:Int):cd (O.take m) j↔cd O j∧j≠O.getD m 0:=by
 constructor
 ·rintro⟨p,hp,rfl⟩
  have hp':p<m:=by simp at hp;omega
  rw[lJ O m p hp']
  exact⟨⟨p,by omega,rfl⟩,fun e=>by have:=h.inj (p:=p) (q:=m) (by omega) (by omega) e;omega⟩
 ·rintro⟨⟨p,hp,rfl⟩,hne⟩
  have:p≠m:=fun e=>hne (by rw[e])
  exact⟨p,by simp;omega,lJ O m p (by omega)⟩
theorem yJ:∀(N m:Nat) (f:Nat→Nat),(∀p,p<m→f p<N)→(∀p q,p<m→q<m→f p=f q→p=q)→m≤N
 |0,m,f,h,_=>by
  rcases Nat.eq_zero_or_pos m with h0|h0
  ·omega
  ·have:=h 0 h0;omega
 |N+1,m,f,h,hi=>by
  by_cases hx:∃p,p<m∧f p=N
  ·obtain⟨p0,hp0,he⟩:=hx
   have:=yJ N (m - 1) (fun p=>if p=p0 then f (m - 1) else f p) (fun p hp=>by
    by_cases e:p=p0
    ·simp only[e,if_true]
     have h1:=h (m - 1) (by omega)
     have h2:f (m - 1)≠N:=fun e'=>by have:=hi (m - 1) p0 (by omega) hp0 (by omega);omega
     omega
    ·simp only[e,if_false]
     have h1:=h p (by omega)
     have h2:f p≠N:=fun e'=>e (hi p p0 (by omega) hp0 (by omega))
     omega) (fun p q hp hq hpq=>by
    by_cases e:p=p0<;>by_cases e':q=p0
    ·omega
    ·simp only[e,e',if_true,if_false]at hpq
     have:=hi (m - 1) q (by omega) (by omega) hpq
     omega
    ·simp only[e,e',if_true,if_false]at hpq
     have:=hi p (m - 1) (by omega) (by omega) hpq
     omega
    ·simp only[e,e',if_false]at hpq
     exact hi p q (by omega) (by omega) hpq)
   omega
  ·have:=yJ N m f (fun p hp=>by
    have h1:=h p hp
    have h2:f p≠N:=fun e=>hx ⟨p,hp,e⟩
    omega) hi
   omega
theorem jf{N:Nat}{P O:List Int}(h:dv N P O):O.length≤N:=
 yJ N O.length (fun p=>(O.getD p 0).toNat) (fun p hp=>by have:=h.item p hp;omega) (fun p q hp hq e=>by
  have h1:=h.item p hp
  have h2:=h.item q hq
  exact h.inj hp hq (by omega))
end
end Heap
end Go.Proofs.YteikppbedmmdnaaGreatDoor
namespace Go.Proofs.YteikppbedmmdnaaGreatDoor
namespace PW
section
open Go.RowKit cj Mem Net Heap
def eP(b:Bool)(d:Option cK)(N n:Nat)(K P O:List Int):bN:=
 match b with
 |false=>[d,some (.cells 183 [.own 2,.own 3,.own 4]),some (.row 3 1 N (aL K)),some (.row 3 1 N (aL P)),some (.row 3 1 n (aL O))]
 |true=>[d,some (.cells 183 [.own 2,.own 3,.own 5]),some (.row 3 1 N (aL K)),some (.row 3 1 N (aL P)),none,some (.row 3 1 n (aL O))]
def J5:cK→Prop
 | .cells _ xs=>aI xs
 | .row _ _ _ xs=>aI xs
 | .mp kv=>aI (kv.map (·.2))
def jO(d:Option cK):Prop:=∀b,d=some b→J5 b
theorem kq.same{fs:List Nat}{σ σ':bN}{js:List Nat}{j:Nat}{d:Option cK}(hd:jO d)(h:σ[j]? =some d)(hs:kq fs σ σ' js):kq fs σ (d::σ') (j::js):=by
 cases d with
 |none=>exact .gone hs
 |some b=>
  have hb:=hd b rfl
  cases b with
  |cells ty xs=>haveI:aI xs:=hd _ rfl;exact .kept h (.cells ao.pure) hs
  |row e s n xs=>haveI:aI xs:=hd _ rfl;exact .kept h (.row ao.pure) hs
  |mp kv=>haveI:aI (kv.map (·.2)):=hd _ rfl;exact .kept h .mp hs
def oP(K P O:List Int):PV:=.bg [aw K,aw P,aw O] 0
theorem nS(b:Bool)(d:Option cK){N n:Nat}{K P O:List Int}(hK:K.length=N)(hP:P.length=N)(hO:O.length=n):aD (eP b d N n K P O) (.ptr 1 0) (oP K P O):=by
 subst hK;subst hO
 unfold oP aw
 rw[hP]
 cases b<;>exact aD.gC rfl (ai.cons (aD.dA rfl ai.pure) (ai.cons (aD.dA rfl ai.pure) (ai.cons (aD.dA rfl ai.pure) ai.nil)))
theorem ki{N:Nat}{P O:List Int}(h:dv N P O){p:Nat}(hp:p<O.length):∃i:Nat,O.getD p 0=(i:Int)∧i<N:=by
 obtain⟨h1,h2,_⟩:=h.item p hp
 exact⟨(O.getD p 0).toNat,by omega,by omega⟩
theorem rL{N:Nat}(K P O:List Int)(hP:dv N P O)(hK:K.length=N)(hN:N≤65536)(p q:Nat)(hp:p<O.length)(hq:q<O.length):
  Can Tryz.prog 127 [oP K P O,num p,num q] (· =flag (decide (rk K O p<rk K O q))):=by
 obtain⟨i,hi,hi'⟩:=ki hP hp
 obtain⟨j,hj,hj'⟩:=ki hP hq
 have hr:decide (rk K O p<rk K O q)=if K.getD i 0=K.getD j 0 then decide ((i:Int)<(j:Int)) else decide (K.getD i 0<K.getD j 0):=by
  unfold rk
  rw[hi,hj,qA (by omega) (by omega) (by omega) (by omega),Int.toNat_natCast,Int.toNat_natCast]
 refine aT Tryz.func127 I Tryz.ntmps127 I<|af (.a 1 I<|.k [0,1,2] I)<|fZ mixed (by kernel_rfl) (.a 5 I<|.v [12,13] (aJ (p) I) I I<|.v [14] (aK I ((aC O p hp).trans (by rw[hi]))) I I<|.a 5 I<|.v [19,20] (aJ (q) I) I I<|.v [21] (aK I ((aC O q hq).trans (by rw[hj]))) I I<|.a 2 I<|.k [0,7,8] I) ?_
 refine an<|fZ mixed (by kernel_rfl) (.a 5 I<|.v [26,27] (aJ (i) I) I I<|.v [28] (aK I (aC K i (by omega))) I I<|.a 5 I<|.v [33,34] (aJ (j) I) I I<|.v [35] (aK I (aC K j (by omega))) I I<|.a 1 I<|.k [0,7,8,37] I) ?_
 refine aj I (fun hc=>?_) (fun hc=>?_)
 ·have:=of_decide_eq_true hc
  rw[if_neg this]at hr
  refine fZ mixed (by kernel_rfl) (.a 5 I<|.v [41,42] (aJ (i) I) I I<|.v [43] (aK I (aC K i (by omega))) I I<|.a 5 I<|.v [48,49] (aJ (j) I) I I<|.v [50] (aK I (aC K j (by omega))) I I<|.a 2 I<|.k [6] I) ?_
  exact az<|⟨_,_,aE.of I,aD.pure,by rw[hr];rfl⟩
 ·have:=of_decide_eq_false hc
  rw[if_pos (by simpa using this)]at hr
  exact ak<|af (.a 4 I<|.k [6] I)<|az<|⟨_,_,aE.of I,aD.pure,by rw[hr];rfl⟩
theorem rn{N n:Nat}(b:Bool)(d:Option cK)(K P O:List Int)(hP:dv N P O)(hO:O.length=n)(hN:N≤65536)(p q:Nat)(hp:p<O.length)(hq:q<O.length):
  aW Tryz.prog 128 [.ptr 1 0,num p,num q] (eP b d N n K P O) (fun _ σ'=>σ'=eP b d N n K (hZ P O p q) (dI O p q)):=by
 obtain⟨i,hi,hi'⟩:=ki hP hp
 obtain⟨j,hj,hj'⟩:=ki hP hq
 have hlen:=jf hP
 have hPl:=hP.len
 have gp:(dI O p q).getD p 0=j:=by
  rw[dG O p q p hp hq]
  by_cases h:p=q
  ·rw[if_pos h];subst h;omega
  ·rw[if_neg h,if_pos rfl,hj]
 have gq:(dI O p q).getD q 0=i:=by rw[dG O p q q hp hq,if_pos rfl,hi]
 have hsw:dI O p q=(O.set p (j:Int)).set q (i:Int):=by unfold dI;rw[hi,hj]
 rw[hsw]at gp gq
 refine bO Tryz.func128 I Tryz.ntmps128 I ?_
 cases b
 all_goals
  refine lT 25 20 mixed (
   .val [0] I (bn I) I I<|
   .val [6] I (bn I) I I<|
   .val [7] I (bn I) I I<|
   .val [8] I (bn I) I I<|
   .val [1] I (bn I) I I<|
   .val [0] I (bn I) I I<|
   .val [11] I (bn I) I I<|
   .val [12] I (bn I) I I<|
   .val [13] I (bn I) I I<|
   .late [2] I (nz rfl rfl) inferInstance rfl rfl<|
   .val [0] I (bn I) I I<|
   .val [16] I (bn I) I I<|
   .val [17] I (bn I) I I<|
   .val [18] I (bn I) I I<|
   .val [2] I (bn I) I I<|
   .val [19,20] I (aJ (q) I) I I<|
   .val [21] I (aK I ((aC O q hq).trans (by rw[hj]))) I I<|
   .val [0] I (bn I) I I<|
   .val [23] I (bn I) I I<|
   .val [24] I (bn I) I I<|
   .val [25] I (bn I) I I<|
   .val [1] I (bn I) I I<|
   .val [26,27] I (aJ (p) I) I I<|
   .val [28] I (aK I ((aC O p hp).trans (by rw[hi]))) I I<|
   .val [9,10] I (aJ (p) I) I I<|
   .nil) (by kernel_rfl) I I (bm (ks:=[0,1,2,14,15,22,29,30]) I) ?_
  refine ba ((by first|exact bM I (bG.tk.get I) I I I (by first|omega|(simp;omega))|exact aX I (bG.tk.get I) I I I (by first|omega|(simp;omega)))) I I<|bw (aJ (q) I) I<|ba ((by first|exact bM I (bG.tk.get I) I I I (by first|omega|(simp;omega))|exact aX I (bG.tk.get I) I I I (by first|omega|(simp;omega)))) I I<|aH [0,1,2] I ?_
  refine lT 14 20 mixed (
   .val [0] I (bn I) I I<|
   .val [32] I (bn I) I I<|
   .val [33] I (bn I) I I<|
   .val [34] I (bn I) I I<|
   .val [0] I (bn I) I I<|
   .val [36] I (bn I) I I<|
   .val [37] I (bn I) I I<|
   .val [38] I (bn I) I I<|
   .val [1] I (bn I) I I<|
   .val [39,40] I (aJ (p) I) I I<|
   .val [41] I (aK I ((aC ((O.set p (j:Int)).set q (i:Int)) p (by simpa using hp)).trans (by rw[gp]))) I I<|
   .val [1] I (bn I) I I<|
   .val [43] I (aU I) I I<|
   .val [35,42] I (aJ (j) I) I I<|
   .nil) (by kernel_rfl) I I (bm (ks:=[0,2,44,45]) I) ?_
  refine ba ((by first|exact bM I (bG.tk.get I) I I I (by first|omega|(simp;omega))|exact aX I (bG.tk.get I) I I I (by first|omega|(simp;omega)))) I I<|aH [0,2] I ?_
  refine dR 14 20 mixed (
   .val [0] I (bn I) I I<|
   .val [46] I (bn I) I I<|
   .val [47] I (bn I) I I<|
   .val [48] I (bn I) I I<|
   .val [0] I (bn I) I I<|
   .val [50] I (bn I) I I<|
   .val [51] I (bn I) I I<|
   .val [52] I (bn I) I I<|
   .val [2] I (bn I) I I<|
   .val [53,54] I (aJ (q) I) I I<|
   .val [55] I (aK I ((aC ((O.set p (j:Int)).set q (i:Int)) q (by simpa using hq)).trans (by rw[gq]))) I I<|
   .val [2] I (bn I) I I<|
   .val [57] I (aU I) I I<|
   .val [49,56] I (aJ (i) I) I I<|
   .nil) (by kernel_rfl) I I (bm (ks:=[58,59]) I) ?_
  refine ba ((by first|exact bM I (bG.tk.get I) I I I (by first|omega|(simp;omega))|exact aX I (bG.tk.get I) I I I (by first|omega|(simp;omega)))) I I<|aH [] I ?_
  refine⟨_,aE.of I,?_⟩
  unfold hZ
  rw[hi,hj,hsw]
  rfl
theorem FJ(p:Nat)(h:0<p):((p:Int) - 1).tdiv 2=((par p:Nat):Int):=by
 rw[Int.tdiv_eq_ediv_of_nonneg (by omega)];unfold par;omega
theorem At{σ:bN}{K P O:List Int}(h:aD σ (.ptr 1 0) (oP K P O))(p q:Int):ai σ ([.ptr 1 0,num p,num q]++[]) [oP K P O,num p,num q]:=ai.cons h (ai.cons aD.pure (ai.cons aD.pure ai.nil))
theorem nH{N n:Nat}(b:Bool)(d:Option cK)(K P O:List Int)(hP:dv N P O)(hO:O.length=n)(hK:K.length=N)(hN:N≤65536)(p:Nat)(hp:p<n)(hL:oc (rk K O) n p):
  aW Tryz.prog 111 [.ptr 1 0,num p] (eP b d N n K P O) (fun _ σ'=>∃P' O',σ'=eP b d N n K P' O'∧dv N P' O'∧O'.length=n∧qH (rk K O') n∧∀i,cd O' i↔cd O i):=by
 have hlen:=jf hP
 refine bO Tryz.func111 I Tryz.ntmps111 I ?_
 cases b
 all_goals
  refine an<|ay<|eY [0,1] I<|br (fun r s=>∃P' O' p',dv N P' O'∧O'.length=n∧oc (rk K O') n p'∧p'<n∧(∀i,cd O' i↔cd O i)∧r=p'∧s=⟨[(0,.ptr 1 0),(1,num p')],eP _ d N n K P' O'⟩) p ⟨P,O,p,hP,hO,hL,hp,fun _=>Iff.rfl,rfl,rfl⟩ ?_
  rintro r s ⟨P',O',p',hP',hO',hL',hp',hH',rfl,rfl⟩
  refine an ?_
  obtain⟨q1,hq1⟩:∃q,decide ((0:Int)<(r:Int))=q:=⟨_,rfl⟩
  obtain⟨q2,hq2⟩:∃q,decide (rk K O' r<rk K O' (par r))=q:=⟨_,rfl⟩
  refine bP 15 (.raw (.bool (q1&&q2))) [0,1] I ?_ ?_
  ·refine .a 1 I<|.v (cD I (hq1)) I<|.a 1 I<|?_
   cases q1
   ·exact .a 7 I<|.k [15,0,1] I
   ·exact .a 3 I<|.v (aU I) I<|.v (kf I I I (by decide) (FJ r (by have:=of_decide_eq_true hq1;omega)) (by unfold In64 par;omega)) I<|.v (oM I (At (nS _ d hK hP'.len hO') _ _) (hq2▸rL K P' O' hP' hK hN r (par r) (by omega) (by have:=of_decide_eq_true hq1;have:=fh (q:=r) (by omega);omega))) I<|.a 1 I<|.k [15,0,1] I
  refine aj I (fun hc=>?_) (fun hc=>?_)
  ·obtain⟨c1,c2⟩:=Bool.and_eq_true_iff.1 hc
   rw[c1]at hq1
   rw[c2]at hq2
   have hr0:0<r:=by have:=of_decide_eq_true hq1;omega
   have hlt:=of_decide_eq_true hq2
   have hpl:=fh hr0
   refine ak<|ay<|aR<|ax 3 I<|bw (aU I) I<|bw (kf I I I (by decide) (FJ r hr0) (by unfold In64;omega)) I<|b7 I I (aW.mono (rn _ d K P' O' hP' hO' hN r (par r) (by omega) (by omega)) (fun _ σ' h=>?_))
   subst h
   refine aH [0,1] I ?_
   refine aF (.a 1 I<|.v (aU I) I<|.v (kf I I I (by decide) (FJ r hr0) (by unfold In64;omega)) I<|.a 1 I<|.k [0,1] I) ?_
   refine⟨par r,hpl,hZ P' O' r (par r),dI O' r (par r),par r,hP'.swap (by omega) (by omega),by rw[gd];exact hO',?_,by omega,fun i=>(mI O' r (par r) (by omega) (by omega) i).trans (hH' i),rfl,rfl⟩
   rw[Ay K O' r (par r) (by omega) (by omega)]
   exact EH hL' hr0 hp' hlt
  ·have hdn:sS (rk K O') n r:=zo hL' (by
    by_cases h0:r=0
    ·exact .inl h0
    ·refine .inr ?_
     have h1:q1=true:=by rw[←hq1];simp;omega
     rw[h1]at hc
     simp only[Bool.true_and]at hc
     rw[hc]at hq2
     have:=of_decide_eq_false hq2
     omega)
   clear hL' hq1 hq2 hc
   refine bp<|ay<|eY [0,1] I<|br (fun r s=>∃P' O' p',dv N P' O'∧O'.length=n∧sS (rk K O') n p'∧p'<n∧(∀i,cd O' i↔cd O i)∧r=n - p'∧s=⟨[(0,.ptr 1 0),(1,num p')],eP _ d N n K P' O'⟩) (n - r) ⟨P',O',r,hP',hO',hdn,hp',hH',rfl,rfl⟩ ?_
   clear hP' hO' hdn hH' P' O' hp' r
   rintro r s ⟨P',O',p',hP',hO',hdn,hp',hH',rfl,rfl⟩
   refine ay<|af (.a 2 I<|.k [0,1,4] I)<|an<|af (.a 1 I<|.v (aU I) I<|.v (aU I) I<|.a 1 I<|.k [0,1,4,5] I)<|ay<|eY [0,1,4,5] I<|br (fun r s=>∃c l,2*p'+1≤c∧c≤2*p'+3∧r=2*p'+3 - c∧l<n∧(l=p'∨(par l=p'∧0<l∧rk K O' l<rk K O' p'))∧(∀x,2*p'+1≤x→x<c→x<n→rk K O' l≤rk K O' x)∧s=⟨[(0,.ptr 1 0),(1,num p'),(4,num l),(5,num c)],eP _ d N n K P' O'⟩) 2 ⟨2*p'+1,p',by omega,by omega,by omega,hp',.inl rfl,fun x h1 h2=>by omega,rfl⟩ ?_
   rintro r s ⟨c,l,hc1,hc2,rfl,hl,hl2,hl3,rfl⟩
   refine an ?_
   obtain⟨q1,hq1⟩:∃q,decide ((c:Int)≤2*(p':Int)+2)=q:=⟨_,rfl⟩
   obtain⟨q2,hq2⟩:∃q,decide ((c:Int)<(n:Int))=q:=⟨_,rfl⟩
   refine bP 42 (.raw (.bool (q1&&q2))) [0,1,4,5] I ?_ ?_
   ·refine .a 2 I<|.v (aU I) I<|.v (aU I) I<|.v (cD I (hq1)) I<|.a 1 I<|?_
    cases q1
    ·exact .a 8 I<|.k [42,0,1,4,5] I
    ·exact .a 6 I<|.v (cD I (hq2)) I<|.a 1 I<|.k [42,0,1,4,5] I
   refine aj I (fun hc=>?_) (fun hc=>?_)
   ·obtain⟨c1,c2⟩:=Bool.and_eq_true_iff.1 hc
    rw[c1]at hq1
    rw[c2]at hq2
    have hcn:c<n:=by have:=of_decide_eq_true hq2;omega
    have hc4:c≤2*p'+2:=by have:=of_decide_eq_true hq1;omega
    have hpc:par c=p':=by unfold par;omega
    refine ak<|an<|ay<|af (.a 3 I<|.v (oM I (At (nS _ d hK hP'.len hO') _ _) (rL K P' O' hP' hK hN c l (by omega) (by omega))) I<|.k [0,1,4,5,48] I)<|aj I (fun hb=>?_) (fun hb=>?_)
    ·have hb':=of_decide_eq_true hb
     refine aF (.a 2 I<|.k [0,1,4,5] I) ?_
     refine aF (.a 1 I<|.v (aU I) I<|.a 1 I<|.k [0,1,4,5] I) ?_
     first
      |exact⟨2*p'+3 - (c+1),by omega,c+1,c,by omega,by omega,rfl,hcn,.inr ⟨hpc,by omega,by rcases hl2 with h|h;(rw[h]at hb';exact hb');omega⟩,fun x h1 h2 h3=>by by_cases e:x=c;(rw[e];exact Int.le_refl _);(have:=hl3 x h1 (by omega) h3;omega),rfl⟩
      |exact⟨2*p'+3 - (c+1),by omega,c+1,l,by omega,by omega,rfl,hl,hl2,fun x h1 h2 h3=>by by_cases e:x=c;(rw[e];omega);exact hl3 x h1 (by omega) h3,rfl⟩
    ·have hb':=of_decide_eq_false hb
     refine ak<|aF (.a 1 I<|.v (aU I) I<|.a 1 I<|.k [0,1,4,5] I) ?_
     first
      |exact⟨2*p'+3 - (c+1),by omega,c+1,c,by omega,by omega,rfl,hcn,.inr ⟨hpc,by omega,by rcases hl2 with h|h;(rw[h]at hb';exact hb');omega⟩,fun x h1 h2 h3=>by by_cases e:x=c;(rw[e];exact Int.le_refl _);(have:=hl3 x h1 (by omega) h3;omega),rfl⟩
      |exact⟨2*p'+3 - (c+1),by omega,c+1,l,by omega,by omega,rfl,hl,hl2,fun x h1 h2 h3=>by by_cases e:x=c;(rw[e];omega);exact hl3 x h1 (by omega) h3,rfl⟩
   ·have hmin:∀x,0<x→x<n→par x=p'→rk K O' l≤rk K O' x:=fun x h0 hx hpx=>by
     refine hl3 x (by unfold par at hpx;omega) ?_ hx
     rcases Nat.lt_or_ge x c with h|h
     ·exact h
     ·exfalso
      have hx2:=GW h0 hpx
      have h1:q1=true:=by rw[←hq1];simp;omega
      rw[h1]at hc
      simp only[Bool.true_and]at hc
      rw[hc]at hq2
      have:=of_decide_eq_false hq2
      omega
    clear hc hq1 hq2 hl3
    refine bp<|an<|af (.a 3 I<|.k [0,1,4,52] I)<|aj I (fun hc=>?_) (fun hc=>?_)
    ·have hlp:l=p':=by have:=of_decide_eq_true hc;omega
     refine az<|⟨_,aE.of I,P',O',rfl,hP',hO',?_,hH'⟩
     refine yu hdn fun x h0 hx hpx=>?_
     have:=hmin x h0 hx hpx
     rw[hlp]at this
     exact this
    ·have hlp:l≠p':=by have:=of_decide_eq_false hc;omega
     obtain⟨hlp1,hl0,hllt⟩:=hl2.resolve_left hlp
     refine ak<|aR<|ax 3 I<|b7 I I (aW.mono (rn _ d K P' O' hP' hO' hN p' l (by omega) (by omega)) (fun _ σ' h=>?_))
     subst h
     refine aH [0,4] I ?_
     refine aF (.a 2 I<|.k [0,1] I) ?_
     have hpl:=fh hl0
     refine⟨n - l,by omega,hZ P' O' p' l,dI O' p' l,l,hP'.swap (by omega) (by omega),by rw[gd];exact hO',?_,hl,fun i=>(mI O' p' l (by omega) (by omega) i).trans (hH' i),rfl,rfl⟩
     rw[Ay K O' p' l (by omega) (by omega)]
     exact zn hdn hl0 hl hlp1 hllt hmin
def oS(N n:Nat)(K P O:List Int):Prop:=dv N P O∧O.length=n∧K.length=N∧qH (rk K O) n
theorem El{N n:Nat}(d:Option cK)(hd:jO d)(K P O:List Int)(h:oS N (n+1) K P O)(hN:N≤65536)(i:Nat)(hi:O.getD 0 0=(i:Int)):
  aW Tryz.prog 112 [.ptr 1 0,num 0] (eP false d N (n+1) K P O) (fun _ σ'=>∃P' O',σ'=eP true d N n (K.set i 0) P' O'∧oS N n (K.set i 0) P' O'∧∀j,cd O' j↔cd O j∧j≠(i:Int)):=by
 obtain⟨hP,hO,hK,hH⟩:=h
 have hlen:=jf hP
 have hiN:i<N:=by have:=(hP.item 0 (by omega)).2.1;rw[hi]at this;omega
 have hPs:=hP.swap (p:=0) (q:=n) (by omega) (by omega)
 have hg:(dI O 0 n).getD n 0=(i:Int):=by rw[dG O 0 n n (by omega) (by omega),if_pos rfl,hi]
 have hPp:=hPs.pop (m:=n) (by rw[gd];exact hO)
 rw[hg,Int.toNat_natCast]at hPp
 have hheld:∀j,cd ((dI O 0 n).take n) j↔cd O j∧j≠(i:Int):=fun j=>by
  rw[D7 hPs (by rw[gd];exact hO) j,hg,mI O 0 n (by omega) (by omega)]
 have hOt:((dI O 0 n).take n).length=n:=by rw[List.length_take,gd];omega
 have hPll:(hZ P O 0 n).length=N:=hPs.len
 have hrk:∀x,x<n→x≠0→rk (K.set i 0) ((dI O 0 n).take n) x=rk K O x:=fun x hx hx0=>by
  unfold rk
  rw[lJ _ _ _ hx,dG O 0 n x (by omega) (by omega),if_neg (by omega),if_neg hx0]
  unfold jv
  have hne:(O.getD x 0).toNat≠i:=fun e=>by
   have h1:=hP.item x (by omega)
   have:=hP.inj (p:=x) (q:=0) (by omega) (by omega) (by rw[hi];omega)
   omega
  rw[er _ _ _ _ (by omega),if_neg hne]
 have hloose:oc (rk (K.set i 0) ((dI O 0 n).take n)) n 0:=yF hH hrk
 refine bO Tryz.func112 I Tryz.ntmps112 I<|af (.a 5 I<|.v (aU I (hc:=(show(((n+1:Nat):Int)) - 1=(n:Int) by omega))) I<|.a 1 I<|.k [0,1,4] I)<|af (.a 5 I<|.v (aJ (0) I) I<|.v (aK I ((aC O 0 (by omega)).trans (by rw[hi]))) I<|.a 1 I<|.k [0,1,4,5] I)<|aR<|ax 3 I<|b7 I I (aW.mono (rn false d K P O hP hO hN 0 n (by omega) (by omega)) (fun _ σ' h=>?_))
 subst h
 refine aH [0,1,4,5] I ?_
 refine aR<|ax 6 I<|cg (oL I (bG.el.get I) I I I I (by omega)) I<|ax 3 I ?_
 refine eQ [0,1,2,3,4,5] (.c 0<|.c 1<|.c 4<|.c 5<|.nil) (.same hd rfl<|.kept rfl (.cells (ao.c<|ao.c<|ao.c<|ao.nil))<|.kept rfl (.row ao.pure)<|.kept rfl (.row ao.pure)<|.gone<|.kept rfl (.fk rfl (show(aL (dI O 0 n)).take (n*1)=aL ((dI O 0 n).take n) by rw[Nat.mul_one];unfold aL;rw[List.map_take]))<|.nil) I I (bf ?_)
 refine lT 11 20 mixed (
  .val [0] I (bn I) I I<|
  .val [32] I (bn I) I I<|
  .val [33] I (bn I) I I<|
  .val [34] I (bn I) I I<|
  .val [5] I (bn I) I I<|
  .val [0] I (bn I) I I<|
  .val [37] I (bn I) I I<|
  .val [38] I (bn I) I I<|
  .val [39] I (bn I) I I<|
  .late [5] I (nz rfl rfl) inferInstance rfl rfl<|
  .val [35,36] I (aJ (i) I) I I<|
  .nil) (by kernel_rfl) I I (bm (ks:=[0,1,4,40,41,42]) I) ?_
 refine ba ((by first|exact bM I (bG.tk.get I) I I I (by first|omega|(simp;omega))|exact aX I (bG.tk.get I) I I I (by first|omega|(simp;omega)))) I I<|bw (aJ (i) I) I<|ba ((by first|exact bM I (bG.tk.get I) I I I (by first|omega|(simp;omega))|exact aX I (bG.tk.get I) I I I (by first|omega|(simp;omega)))) I I<|aH [0,1,4] I ?_
 refine af (.a 3 I<|.k [0,1,46] I)<|aj I (fun hc=>?_) (fun hc=>?_)
 ·have hn0:0<n:=by have:=of_decide_eq_true hc;omega
  refine bx<|ax 2 I<|b7 I I (aW.mono (nH true d (K.set i 0) ((hZ P O 0 n).set i 0) ((dI O 0 n).take n) hPp hOt (by simpa using hK) hN 0 hn0 hloose) (fun _ σ' h=>?_))
  obtain⟨P',O',rfl,h1,h2,h3,h4⟩:=h
  refine aH [] I ?_
  first
   |exact⟨_,aE.of rfl,P',O',rfl,⟨h1,h2,by simpa using hK,h3⟩,fun j=>(h4 j).trans (hheld j)⟩
   |exact⟨_,aE.of rfl,(hZ P O 0 n).set i 0,(dI O 0 n).take n,rfl,⟨hPp,hOt,by simpa using hK,fun q h0 hq=>by omega⟩,hheld⟩
 ·have hn0:n=0:=by have:=of_decide_eq_false hc;omega
  refine ak ?_
  first
   |exact⟨_,aE.of rfl,P',O',rfl,⟨h1,h2,by simpa using hK,h3⟩,fun j=>(h4 j).trans (hheld j)⟩
   |exact⟨_,aE.of rfl,(hZ P O 0 n).set i 0,(dI O 0 n).take n,rfl,⟨hPp,hOt,by simpa using hK,fun q h0 hq=>by omega⟩,hheld⟩
theorem vM{N:Nat}(K P O:List Int)(hP:P.length=N)(hK:K.length=N)(hN:N≤65536)(i:Nat)(hi:i<N):
  Can Tryz.prog 85 [oP K P O,num i] (· = .tuple [num (if P.getD i 0=0 then 0 else K.getD i 0),flag (!decide (P.getD i 0=0))]):=by
 refine aT Tryz.func85 I Tryz.ntmps85 I<|af (.a 2 I<|.k [0,1] I)<|an ?_
 obtain⟨q1,hq1⟩:∃q,decide ((i:Int)<0)=q:=⟨_,rfl⟩
 obtain⟨q2,hq2⟩:∃q,decide ((K.length:Int)≤(i:Int))=q:=⟨_,rfl⟩
 obtain⟨q3,hq3⟩:∃q,decide (P.getD i 0=0)=q:=⟨_,rfl⟩
 refine bP 30 (.raw (.bool (q1||q2||q3))) [0,1] I ?_ ?_
 ·refine .a 4 I<|.v (cD I (hq1)) I<|.a 2 I<|?_
  cases q1
  ·refine .a 6 I<|.v (cD I (hq2)) I<|.a 2 I<|?_
   cases q2
   ·exact .a 5 I<|.v (aJ (i) I) I<|.v (aK I (aC P i (by omega))) I<|.v (cD I (hq3)) I<|.a 1 I<|.k [30,0,1] I
   ·exact .a 9 I<|.k [30,0,1] I
  ·exact .a 18 I<|.k [30,0,1] I
 refine aj I (fun hc=>?_) (fun hc=>?_)
 ·have h1:q1=false:=by rw[←hq1];simp
  have h2:q2=false:=by rw[←hq2];simp;omega
  rw[h1,h2]at hc
  simp only[Bool.false_or]at hc
  rw[hc]at hq3
  refine af (.a 2 I<|.k [4,5] I)<|az<|⟨_,_,aE.of I,aD.pure,?_⟩
  rw[hq3]
  first
   |(rw[if_pos (of_decide_eq_true hq3)];rfl)
   |(rw[if_neg (of_decide_eq_false hq3)];rfl)
 ·have hc3:q3=false:=by revert hc;cases q3<;>simp
  rw[hc3]at hq3
  refine ak<|af (.a 5 I<|.v (aJ (i) I) I<|.v (aK I (aC K i (by omega))) I<|.a 2 I<|.k [4,5] I)<|az<|⟨_,_,aE.of I,aD.pure,?_⟩
  rw[hq3]
  first
   |(rw[if_pos (of_decide_eq_true hq3)];rfl)
   |(rw[if_neg (of_decide_eq_false hq3)];rfl)
theorem GI{N n:Nat}(d:Option cK)(hd:jO d)(K P O:List Int)(h:oS N n K P O)(hN:N≤65536):
  aW Tryz.prog 83 [.ptr 1 0] (eP false d N n K P O) (fun r σ'=>(n=0∧r= .tuple [num 0,num 0,flag false]∧σ'=eP false d N n K P O)∨
   ∃(n' i:Nat) (P' O':List Int),n=n'+1∧i<N∧O.getD 0 0=(i:Int)∧r= .tuple [num i,num (K.getD i 0),flag true]∧σ'=eP true d N n' (K.set i 0) P' O'∧oS N n' (K.set i 0) P' O'∧∀j,cd O' j↔cd O j∧j≠(i:Int)):=by
 have h':=h
 obtain⟨hP,hO,hK,hH⟩:=h'
 refine bO Tryz.func83 I Tryz.ntmps83 I<|af (.a 3 I<|.k [0] I)<|an ?_
 obtain⟨q1,hq1⟩:∃q,decide ((n:Int)=0)=q:=⟨_,rfl⟩
 refine bP 14 (.raw (.bool (q1))) [0] I ?_ ?_
 ·exact .a 8 I<|.v (cD I (hq1)) I<|.a 1 I<|.k [14,0] I
 refine aj I (fun hc=>?_) (fun hc=>?_)
 ·have hn0:n=0:=by rw[hc]at hq1;have:=of_decide_eq_true hq1;omega
  refine af (.a 3 I<|.k [2,3,4] I)<|az ?_
  first
   |exact⟨_,aE.of rfl,.inl ⟨hn0,rfl,rfl⟩⟩
   |exact⟨_,aE.of rfl,.inr ⟨n',i,P',O',rfl,hiN,hi,rfl,rfl,h1,h2⟩⟩
 ·have hn0:n≠0:=by rw[hc]at hq1;have:=of_decide_eq_false hq1;omega
  obtain⟨n',rfl⟩:∃n',n=n'+1:=⟨n - 1,by omega⟩
  obtain⟨i,hi,hiN⟩:=ki hP (p:=0) (by omega)
  refine ak<|af (.a 4 I<|.v (aJ (0) I) I<|.v (aK I ((aC O 0 (by omega)).trans (by rw[hi]))) I<|.a 1 I<|.k [0,2] I)<|af (.a 5 I<|.v (aJ (i) I) I<|.v (aK I (aC K i (by omega))) I<|.a 1 I<|.k [0,2,3] I)<|aR<|ax 1 I<|b7 I I (aW.mono (El d hd K P O h hN i hi) (fun _ σ' h=>?_))
  obtain⟨P',O',rfl,h1,h2⟩:=h
  refine aH [2,3] I ?_
  refine af (.a 5 I<|.k [2,3,4] I)<|az ?_
  first
   |exact⟨_,aE.of rfl,.inl ⟨hn0,rfl,rfl⟩⟩
   |exact⟨_,aE.of rfl,.inr ⟨n',i,P',O',rfl,hiN,hi,rfl,rfl,h1,h2⟩⟩
theorem Ef{N:Nat}{P O:List Int}(hP:dv N P O){i:Nat}(hi:i<N)(h:P.getD i 0≠0):∃p,p<O.length∧O.getD p 0=(i:Int)∧P.getD i 0=(p:Int)+1:=by
 rcases hP.place i hi with h0|⟨p,hp,he⟩
 ·exact absurd h0 h
 ·have:=(hP.item p hp).2.2
  rw[he,Int.toNat_natCast]at this
  exact⟨p,hp,he,this⟩
theorem FU{N:Nat}{K P O:List Int}(hP:dv N P O)(hK:K.length=N){i:Nat}(hi:i<N)(c:Int){x:Nat}(hx:x<O.length)(hne:O.getD x 0≠(i:Int)):rk (K.set i c) O x=rk K O x:=by
 unfold rk jv
 have h1:=hP.item x hx
 rw[er _ _ _ _ (by omega),if_neg (by omega)]
theorem oe{N n:Nat}(d:Option cK)(hd:jO d)(K P O:List Int)(h:oS N n K P O)(hN:N≤65536)(i:Nat)(hi:i<N)(key:Int):
  aW Tryz.prog 82 [.ptr 1 0,num i,num key] (eP false d N n K P O) (fun r σ'=>∃(b:Bool) (n':Nat) (P' O':List Int),σ'=eP b d N n' (K.set i key) P' O'∧oS N n' (K.set i key) P' O'∧∀j,cd O' j↔cd O j∨j=(i:Int)):=by
 obtain⟨hP,hO,hK,hH⟩:=h
 have hlen:=jf hP
 have hPl:=hP.len
 refine bO Tryz.func82 I Tryz.ntmps82 I<|af (.a 1 I<|.k [0,1,2] I)<|an<|af (.a 2 I<|.k [0,1,2,8] I)<|aj I (fun hc=>?_) (fun hc=>?_)
 ·cases hc
 ·refine ak<|an ?_
  obtain⟨q1,hq1⟩:∃q,decide ((i:Int)<0)=q:=⟨_,rfl⟩
  obtain⟨q2,hq2⟩:∃q,decide ((N:Int)≤(i:Int))=q:=⟨_,rfl⟩
  refine bP 19 (.raw (.bool (q1||q2))) [0,1,2] I ?_ ?_
  ·refine .a 1 I<|.v (cD I (hq1)) I<|.a 1 I<|?_
   cases q1
   ·exact .a 6 I<|.v (cD I (hq2)) I<|.a 1 I<|.k [19,0,1,2] I
   ·exact .a 8 I<|.k [19,0,1,2] I
  refine aj I (fun hc=>?_) (fun hc=>?_)
  ·have h1:q1=false:=by rw[←hq1];simp
   have h2:q2=false:=by rw[←hq2];simp;omega
   rw[h1,h2]at hc
   cases hc
  ·refine ak<|aR<|ax 6 I<|bw (aJ (i) I) I<|ba ((by first|exact bM I (bG.tk.get I) I I I (by first|omega|(simp;omega))|exact aX I (bG.tk.get I) I I I (by first|omega|(simp;omega)))) I I<|aH [0,1] I ?_
   refine an<|af (.a 5 I<|.v (aJ (i) I) I<|.v (aK I (aC P i (by omega))) I<|.a 1 I<|.k [0,1,34] I)<|aj I (fun hc=>?_) (fun hc=>?_)
   ·have hp0:P.getD i 0=0:=of_decide_eq_true hc
    have hnh:=(hP.zero hi).1 hp0
    have hPp:=hP.push hi hnh
    have hOl:(O++[(i:Int)]).length=n+1:=by simp[hO]
    rw[hO]at hPp
    have hPi2:(P.set i ((n:Int)+1)).getD i 0=(n:Int)+1:=by rw[er _ _ _ _ (by omega),if_pos rfl]
    have hlt2:i<(P.set i ((n:Int)+1)).length:=by simp;omega
    have hsb:((n:Int)+1) - 1=(n:Int):=by omega
    have hnb:n<N:=by have:=jf hPp;simp at this;omega
    have hset:=nH true d (K.set i key) (P.set i ((n:Int)+1)) (O++[(i:Int)]) hPp hOl (by simpa using hK) hN n (by omega) (yQ hH fun q hq=>by
     have e:(O++[(i:Int)]).getD q 0=O.getD q 0:=by simp[List.getD_eq_getElem?_getD,List.getElem?_append_left (show q<O.length by omega)]
     have:=FU hP hK hi key (x:=q) (by omega) (fun e=>hnh ⟨q,by omega,e⟩)
     unfold rk at this ⊢
     rw[e];exact this)
    have hfin:∀j,cd (O++[(i:Int)]) j↔cd O j∨j=(i:Int):=fun j=>(B3 O i j).trans Or.comm
    refine aR<|ax 7 I<|cg (bC I (bG.rk.get I) I I I I (by unfold maxLen;omega)) I<|ax 3 I ?_
    refine eQ [0,1,2,3,4,5] (.c 0<|.c 1<|.nil) (.same hd rfl<|.kept rfl (.cells (ao.c<|ao.c<|ao.c<|ao.nil))<|.kept rfl (.row ao.pure)<|.kept rfl (.row ao.pure)<|.gone<|.kept rfl (.fk rfl (dJ _ _))<|.nil) I I (bf ?_)
    refine dR 11 20 mixed (
     .val [0] I (bn I) I I<|
     .val [45] I (bn I) I I<|
     .val [46] I (bn I) I I<|
     .val [47] I (bn I) I I<|
     .val [1] I (bn I) I I<|
     .val [0] I (bn I) I I<|
     .val [50] I (bn I) I I<|
     .val [51] I (bn I) I I<|
     .val [52] I (bn I) I I<|
     .val [53] I (bn I) I I<|
     .val [48,49] I (aJ (i) I) I I<|
     .nil) (by kernel_rfl) I I (bm (ks:=[0,1,54,55]) I) ?_
    refine ba ((by first|exact bM I (bG.tk.get I) I I I (by first|omega|(simp;omega))|exact aX I (bG.tk.get I) I I I (by first|omega|(simp;omega)))) I I<|aH [0,1] I ?_
    refine aR<|ax 6 I<|bw (aJ (i) I) I<|bw (aK I ((aC _ i hlt2).trans (congrArg (fun z=>some (PV.raw (.int .i64 z))) hPi2))) I<|bw (aU I (hc:=hsb)) I<|b7 I I (aW.mono hset (fun _ σ' h=>?_))
    obtain⟨P',O',rfl,h1,h2,h3,h4⟩:=h
    refine aH [] I ?_
    refine af (.a 1 I<|.k [6] I)<|az ?_
    first
     |exact⟨_,aE.of rfl,true,_,P',O',rfl,⟨h1,h2,by simpa using hK,h3⟩,fun j=>(h4 j).trans (hfin j)⟩
     |exact⟨_,aE.of rfl,false,_,P',O',rfl,⟨h1,h2,by simpa using hK,h3⟩,fun j=>(h4 j).trans (hfin j)⟩
   ·have hp0:P.getD i 0≠0:=of_decide_eq_false hc
    obtain⟨p,hp,hpi,hPi2⟩:=Ef hP hi hp0
    have hlt2:i<P.length:=by omega
    have hsb:((p:Int)+1) - 1=(p:Int):=by omega
    have hset:=nH false d (K.set i key) P O hP hO (by simpa using hK) hN p (by omega) (xK hH (fun q hq hqp=>FU hP hK hi key (x:=q) (by omega) (fun e=>hqp (hP.inj (by omega) hp (by rw[e,hpi])))) (by omega))
    have hfin:∀j,cd O j↔cd O j∨j=(i:Int):=fun j=>⟨.inl,fun h=>h.elim id fun e=>⟨p,hp,by rw[hpi,e]⟩⟩
    refine ak<|aR<|ax 6 I<|bw (aJ (i) I) I<|bw (aK I ((aC _ i hlt2).trans (congrArg (fun z=>some (PV.raw (.int .i64 z))) hPi2))) I<|bw (aU I (hc:=hsb)) I<|b7 I I (aW.mono hset (fun _ σ' h=>?_))
    obtain⟨P',O',rfl,h1,h2,h3,h4⟩:=h
    refine aH [] I ?_
    refine af (.a 1 I<|.k [6] I)<|az ?_
    first
     |exact⟨_,aE.of rfl,true,_,P',O',rfl,⟨h1,h2,by simpa using hK,h3⟩,fun j=>(h4 j).trans (hfin j)⟩
     |exact⟨_,aE.of rfl,false,_,P',O',rfl,⟨h1,h2,by simpa using hK,h3⟩,fun j=>(h4 j).trans (hfin j)⟩
theorem uC(N:Nat)(d:Option cK)(hd:jO d)(hN:N≤65536):
  aW Tryz.prog 81 [num N] [d] (fun r σ'=>r= .tuple [.ptr 1 0,num 0]∧σ'=eP false d N 0 (List.replicate N 0) (List.replicate N 0) []):=by
 refine bO Tryz.func81 I Tryz.ntmps81 I<|af (.a 2 I<|.k [0] I) ?_
 obtain⟨q1,hq1⟩:∃q,decide ((N:Int)<0)=q:=⟨_,rfl⟩
 obtain⟨q2,hq2⟩:∃q,decide ((65536:Int)<(N:Int))=q:=⟨_,rfl⟩
 refine an<|bP 9 (.raw (.bool (q1||q2))) [0] I ?_ ?_
 ·refine .a 1 I<|.v (cD I (hq1)) I<|.a 1 I<|?_
  cases q1
  ·exact .a 1 I<|.v (cD I (hq2)) I<|.a 1 I<|.k [9,0] I
  ·exact .a 3 I<|.k [9,0] I
 have h1:q1=false:=by rw[←hq1];simp
 have h2:q2=false:=by rw[←hq2];simp;omega
 refine aj (b:=q1||q2) I (fun hc=>?_) (fun hc=>?_)
 ·rw[h1,h2]at hc
  cases hc
 ·clear hc hq1 hq2 h1 h2
  refine ak<|pa mixed ?_
  have hfin:W Tryz.prog 16 1 .ret ⟨[(2,.ptr 1 0),(3,num 0)],eP false d N 0 (List.replicate N 0) (List.replicate N 0) []⟩ (KA Tryz.prog Tryz.f81 (fun r σ'=>r= .tuple [.ptr 1 0,num 0]∧σ'=eP false d N 0 (List.replicate N 0) (List.replicate N 0) [])):=
   az ⟨_,.cons (.tmp rfl) (.cons (.tmp rfl) .nil),rfl,rfl⟩
  refine bK 0 [2] (by kernel_rfl) ?_
  refine bc I I (bA (fE I I) I I I (bf ?_)) ?_
  ·refine bK 1 [2] (by kernel_rfl) ?_
   refine bc I I (du (da I (bG.rk.get I) I I I I ⟨by unfold maxLen;omega,by omega⟩) I I I (bf ?_)) ?_
   ·refine bK 2 [] (by kernel_rfl) ?_
    refine bc I I (bA (fE I I) I I I (bf ?_)) bJ
    refine bK 3 [] (by kernel_rfl) ?_
    refine bc I I (du (da I (bG.rk.get I) I I I I ⟨by unfold maxLen;omega,by omega⟩) I I I (bf ?_)) bJ
    refine bK 4 [] (by kernel_rfl) ?_
    refine bc I I (bA (iR (xs:=[_,_,_]) I (bG.st.get I) I I) I I I (bf ?_)) bJ
    refine bK 5 [] (by kernel_rfl) ?_
    refine bc I I (du (eV I I I) I I I (bf ?_)) bJ
    refine bK 6 [] (by kernel_rfl) ?_
    refine bc I I (bA (eu I I) I I I (bf ?_)) bJ
    refine bK 7 [] (by kernel_rfl) ?_
    refine bc I I (bA (eu I I) I I I (bf ?_)) bJ
    refine jP (by kernel_rfl) ?_
    refine cB 3 2 3 1 I I ?_
    exact cJ [0,3,1,2,4] (.cons 2 I (Ren.ptr (i:=1) I)<|.cons 3 I Ren.pure<|.nil) (.same hd rfl<|.kept rfl (.cells (ao.cons (Ren.own (i:=2) I)<|ao.cons (Ren.own (i:=3) I)<|ao.cons (Ren.own (i:=4) I) ao.nil))<|.kept rfl (.fk rfl (cU N))<|.kept rfl (.fk rfl (cU N))<|.kept rfl (.row ao.pure)<|.nil) I I hfin
   refine bc I I (bA (fE I I) I I I (bf ?_)) bJ
   refine bK 1 [3] (by kernel_rfl) ?_
   refine bc I I (du (da I (bG.rk.get I) I I I I ⟨by unfold maxLen;omega,by omega⟩) I I I (bf ?_)) ?_
   ·refine bK 3 [] (by kernel_rfl) ?_
    refine bc I I (du (da I (bG.rk.get I) I I I I ⟨by unfold maxLen;omega,by omega⟩) I I I (bf ?_)) bJ
    refine bK 4 [] (by kernel_rfl) ?_
    refine bc I I (bA (iR (xs:=[_,_,_]) I (bG.st.get I) I I) I I I (bf ?_)) bJ
    refine bK 5 [] (by kernel_rfl) ?_
    refine bc I I (du (eV I I I) I I I (bf ?_)) bJ
    refine bK 6 [] (by kernel_rfl) ?_
    refine bc I I (bA (eu I I) I I I (bf ?_)) bJ
    refine bK 7 [] (by kernel_rfl) ?_
    refine bc I I (bA (eu I I) I I I (bf ?_)) bJ
    refine jP (by kernel_rfl) ?_
    refine cB 3 2 3 1 I I ?_
    exact cJ [0,3,1,2,4] (.cons 2 I (Ren.ptr (i:=1) I)<|.cons 3 I Ren.pure<|.nil) (.same hd rfl<|.kept rfl (.cells (ao.cons (Ren.own (i:=2) I)<|ao.cons (Ren.own (i:=3) I)<|ao.cons (Ren.own (i:=4) I) ao.nil))<|.kept rfl (.fk rfl (cU N))<|.kept rfl (.fk rfl (cU N))<|.kept rfl (.row ao.pure)<|.nil) I I hfin
   refine bc I I (du (da I (bG.rk.get I) I I I I ⟨by unfold maxLen;omega,by omega⟩) I I I (bf ?_)) bJ
   refine bK 1 [] (by kernel_rfl) ?_
   refine bc I I (du (da I (bG.rk.get I) I I I I ⟨by unfold maxLen;omega,by omega⟩) I I I (bf ?_)) bJ
   refine bK 4 [] (by kernel_rfl) ?_
   refine bc I I (bA (iR (xs:=[_,_,_]) I (bG.st.get I) I I) I I I (bf ?_)) bJ
   refine bK 5 [] (by kernel_rfl) ?_
   refine bc I I (du (eV I I I) I I I (bf ?_)) bJ
   refine bK 6 [] (by kernel_rfl) ?_
   refine bc I I (bA (eu I I) I I I (bf ?_)) bJ
   refine bK 7 [] (by kernel_rfl) ?_
   refine bc I I (bA (eu I I) I I I (bf ?_)) bJ
   refine jP (by kernel_rfl) ?_
   refine cB 3 2 3 1 I I ?_
   exact cJ [0,3,2,1,4] (.cons 2 I (Ren.ptr (i:=1) I)<|.cons 3 I Ren.pure<|.nil) (.same hd rfl<|.kept rfl (.cells (ao.cons (Ren.own (i:=2) I)<|ao.cons (Ren.own (i:=3) I)<|ao.cons (Ren.own (i:=4) I) ao.nil))<|.kept rfl (.fk rfl (cU N))<|.kept rfl (.fk rfl (cU N))<|.kept rfl (.row ao.pure)<|.nil) I I hfin
  refine bc I I (bA (fE I I) I I I (bf ?_)) bJ
  refine bK 0 [3] (by kernel_rfl) ?_
  refine bc I I (bA (fE I I) I I I (bf ?_)) ?_
  ·refine bK 1 [3] (by kernel_rfl) ?_
   refine bc I I (du (da I (bG.rk.get I) I I I I ⟨by unfold maxLen;omega,by omega⟩) I I I (bf ?_)) ?_
   ·refine bK 3 [] (by kernel_rfl) ?_
    refine bc I I (du (da I (bG.rk.get I) I I I I ⟨by unfold maxLen;omega,by omega⟩) I I I (bf ?_)) bJ
    refine bK 4 [] (by kernel_rfl) ?_
    refine bc I I (bA (iR (xs:=[_,_,_]) I (bG.st.get I) I I) I I I (bf ?_)) bJ
    refine bK 5 [] (by kernel_rfl) ?_
    refine bc I I (du (eV I I I) I I I (bf ?_)) bJ
    refine bK 6 [] (by kernel_rfl) ?_
    refine bc I I (bA (eu I I) I I I (bf ?_)) bJ
    refine bK 7 [] (by kernel_rfl) ?_
    refine bc I I (bA (eu I I) I I I (bf ?_)) bJ
    refine jP (by kernel_rfl) ?_
    refine cB 3 2 3 1 I I ?_
    exact cJ [0,3,1,2,4] (.cons 2 I (Ren.ptr (i:=1) I)<|.cons 3 I Ren.pure<|.nil) (.same hd rfl<|.kept rfl (.cells (ao.cons (Ren.own (i:=2) I)<|ao.cons (Ren.own (i:=3) I)<|ao.cons (Ren.own (i:=4) I) ao.nil))<|.kept rfl (.fk rfl (cU N))<|.kept rfl (.fk rfl (cU N))<|.kept rfl (.row ao.pure)<|.nil) I I hfin
   refine bc I I (du (da I (bG.rk.get I) I I I I ⟨by unfold maxLen;omega,by omega⟩) I I I (bf ?_)) bJ
   refine bK 1 [] (by kernel_rfl) ?_
   refine bc I I (du (da I (bG.rk.get I) I I I I ⟨by unfold maxLen;omega,by omega⟩) I I I (bf ?_)) bJ
   refine bK 4 [] (by kernel_rfl) ?_
   refine bc I I (bA (iR (xs:=[_,_,_]) I (bG.st.get I) I I) I I I (bf ?_)) bJ
   refine bK 5 [] (by kernel_rfl) ?_
   refine bc I I (du (eV I I I) I I I (bf ?_)) bJ
   refine bK 6 [] (by kernel_rfl) ?_
   refine bc I I (bA (eu I I) I I I (bf ?_)) bJ
   refine bK 7 [] (by kernel_rfl) ?_
   refine bc I I (bA (eu I I) I I I (bf ?_)) bJ
   refine jP (by kernel_rfl) ?_
   refine cB 3 2 3 1 I I ?_
   exact cJ [0,3,2,1,4] (.cons 2 I (Ren.ptr (i:=1) I)<|.cons 3 I Ren.pure<|.nil) (.same hd rfl<|.kept rfl (.cells (ao.cons (Ren.own (i:=2) I)<|ao.cons (Ren.own (i:=3) I)<|ao.cons (Ren.own (i:=4) I) ao.nil))<|.kept rfl (.fk rfl (cU N))<|.kept rfl (.fk rfl (cU N))<|.kept rfl (.row ao.pure)<|.nil) I I hfin
  refine bc I I (du (da I (bG.rk.get I) I I I I ⟨by unfold maxLen;omega,by omega⟩) I I I (bf ?_)) bJ
  refine bK 0 [] (by kernel_rfl) ?_
  refine bc I I (bA (fE I I) I I I (bf ?_)) bJ
  refine bK 1 [] (by kernel_rfl) ?_
  refine bc I I (du (da I (bG.rk.get I) I I I I ⟨by unfold maxLen;omega,by omega⟩) I I I (bf ?_)) bJ
  refine bK 4 [] (by kernel_rfl) ?_
  refine bc I I (bA (iR (xs:=[_,_,_]) I (bG.st.get I) I I) I I I (bf ?_)) bJ
  refine bK 5 [] (by kernel_rfl) ?_
  refine bc I I (du (eV I I I) I I I (bf ?_)) bJ
  refine bK 6 [] (by kernel_rfl) ?_
  refine bc I I (bA (eu I I) I I I (bf ?_)) bJ
  refine bK 7 [] (by kernel_rfl) ?_
  refine bc I I (bA (eu I I) I I I (bf ?_)) bJ
  refine jP (by kernel_rfl) ?_
  refine cB 3 2 3 1 I I ?_
  exact cJ [0,3,2,1,4] (.cons 2 I (Ren.ptr (i:=1) I)<|.cons 3 I Ren.pure<|.nil) (.same hd rfl<|.kept rfl (.cells (ao.cons (Ren.own (i:=2) I)<|ao.cons (Ren.own (i:=3) I)<|ao.cons (Ren.own (i:=4) I) ao.nil))<|.kept rfl (.fk rfl (cU N))<|.kept rfl (.fk rfl (cU N))<|.kept rfl (.row ao.pure)<|.nil) I I hfin
end
section
open Go.RowKit cj Mem
section
variable {P:Program} {N L:Nat}
theorem Cc(p:PV)(n:Nat):dB [p] n=List.replicate n p:=by
 induction n with
 |zero=>rfl
 |succ n ih=>simp only[dB,ih,List.replicate_succ];rfl
theorem kq.of{fs:List Nat}{σ:bN}:∀(σ':bN) (js:List Nat),σ'.length=js.length→(∀(i:Nat) b' j,σ'[i]? =some (some b')→js[i]? =some j→∃b,σ[j]? =some (some b)∧yA fs b' b)→kq fs σ σ' js
 | [],[],_,_=>.nil
 |none::σ',j::js,hl,h=>.gone (kq.of σ' js (by simpa using hl) (fun i b' k h1 h2=>h (i+1) b' k (by simpa using h1) (by simpa using h2)))
 |some b'::σ',j::js,hl,h=>by
  obtain⟨b,h1,h2⟩:=h 0 b' j rfl rfl
  exact .kept h1 h2 (kq.of σ' js (by simpa using hl) (fun i b' k h1 h2=>h (i+1) b' k (by simpa using h1) (by simpa using h2)))
 | [],_::_,hl,_=>by simp at hl
 |_::_,[],hl,_=>by simp at hl
theorem uq:∀(l:List Nat),l.Nodup→fT l=true
 | [],_=>rfl
 |x::l,h=>by
  rw[List.nodup_cons]at h
  simp[fT,h.1,uq l h.2]
theorem zU{c:Code}{t:b9}{σ:bN}{Q:Exit→St→Prop}(i k e s:Nat){e1 s1 n:Nat}{xs:List PV}(hi:σ[i]? =some (some (.row e1 s1 n xs)))(hk:xs[k]? =some (.raw (.slice none 0 0)))
  (h:W P N L c ⟨t,(σ++[some (cK.row e s 0 [])]).set i (some (.row e1 s1 n (xs.set k (.own σ.length))))⟩ Q):W P N L c ⟨t,σ⟩ Q:=fun F base E₀ w₀ E a w hc hs=>by
 obtain⟨a1,a2,a3⟩:=DN hs.sat e s
 have hil:=(List.getElem?_eq_some_iff.1 hi).1
 have hi':(σ++[some (cK.row e s 0 [])])[i]? =some (some (.row e1 s1 n xs)):=by rw[List.getElem?_append_left hil];exact hi
 obtain⟨cs,h2,h3⟩:=a1.blk i _ hi'
 obtain⟨cv,hcv,hrep⟩:=h3.get hk
 cases hrep
 have hb:∃b,aY ((E.push (.slice none 0 0)).at_ i)=some b:=by
  rcases h2.2 with hz|⟨g,cap,cur,hv,_⟩
  ·have h4:=h2.1
   rw[hz.2,Nat.zero_mul]at h4
   rw[List.eq_nil_of_length_eq_zero h4]at hcv
   simp at hcv
  ·exact⟨g,by rw[hv];rfl⟩
 obtain⟨b,hb⟩:=hb
 obtain⟨b1,b2⟩:=a1.BA hi' (b:=b) hb (Nat.le_refl _) (fun _ _ _=>rfl) (bi':=.row e1 s1 n (xs.set k (.own σ.length))) ⟨cs,h2,by
  have:=h3.set k a3
  rw[sP hcv]at this
  exact this⟩
 exact h F base E₀ w₀ _ a w (hc.on (a2.trans b2) (Below.refl _ _)) ⟨b1,(hs.tmp.goes a2).goes b2,hs.jL,hs.size⟩
def eC(n:Nat):List PV:=(List.range n).map fun i=>.own (i+1)
def jR(e1 e:TypeId)(rs:List (List Int)):bN:=some (.row e1 1 rs.length (eC rs.length))::rs.map fun r=>some (.row e 1 r.length (aL r))
def nY(e1 e n k:Nat):bN:=some (.row e1 1 n (eC k++List.replicate (n - k) (PV.raw (.slice none 0 0))))::List.replicate k (some (.row e 1 0 []))
theorem Ac{c:Code}{t:b9}{Q:Exit→St→Prop}(e1 e n:Nat)(h:W P N L c ⟨t,nY e1 e n n⟩ Q):∀m k,k+m=n→W P N L c ⟨t,nY e1 e n k⟩ Q
  | 0, k, hk => by obtain rfl : k = n := by omega
                   exact h
  |m+1,k,hk=>by
    have ih:=Ac e1 e n h m (k+1) (by omega)
    have hol:(eC k).length=k:=by simp[eC]
    refine zU 0 k e 1 (e1:=e1) (s1:=1) (n:=n) (xs:=eC k++List.replicate (n - k) (PV.raw (.slice none 0 0))) I ?_ ?_
    · rw[List.getElem?_append_right (by omega),hol,List.getElem?_replicate,if_pos (by omega)]
    · have e2:(nY e1 e n k++[some (cK.row e 1 0 [])]).set 0 (some (.row e1 1 n ((eC k++List.replicate (n - k) (PV.raw (.slice none 0 0))).set k (.own (nY e1 e n k).length))))=nY e1 e n (k+1):=by
        unfold nY
        simp only[List.cons_append,List.set_cons_zero,List.length_cons,List.length_replicate]
        congr 3
        · rw[List.set_append_right _ _ (by omega),hol,Nat.sub_self,show n - k=(n - (k+1))+1 by omega,List.replicate_succ,List.set_cons_zero]
          unfold eC
          rw[List.range_succ,List.map_append]
          simp
        · rw[List.replicate_succ']
      rw[e2];exact ih
theorem jK{c:Code}{t:b9}{Q:Exit→St→Prop}(e1 e n:Nat)(h:W P N L c ⟨t,jR e1 e (List.replicate n [])⟩ Q):W P N L c ⟨t,[some (.row e1 1 n (dB [.raw (.slice none 0 0)] n))]⟩ Q:=by
 have:=Ac (P:=P) (N:=N) (L:=L) (c:=c) (t:=t) (Q:=Q) e1 e n (by
  have e2:nY e1 e n n=jR e1 e (List.replicate n []):=by
   unfold nY jR
   simp[aL]
  rw[e2];exact h) n 0 (by omega)
 rw[Cc]
 simpa[nY,eC]using this
def C6(n k:Nat):List Nat:=0::(List.range n).map fun i=>if i=k then n+1 else i+1
theorem mM(n k:Nat):fT (C6 n k)=true:=by
 apply uq
 unfold C6
 rw[List.nodup_cons]
 constructor
 ·simp only[List.mem_map,not_exists,not_and]
  intro i _ h
  split at h<;>omega
 ·rw[List.nodup_iff_pairwise_ne,List.pairwise_map]
  refine List.Pairwise.imp_of_mem ?_ (List.nodup_iff_pairwise_ne.1 List.nodup_range)
  intro i j hi hj hij h
  have:=List.mem_range.1 hi
  have:=List.mem_range.1 hj
  split at h<;>split at h<;>omega
theorem vo(n k i:Nat)(hi:i<n):(C6 n k)[i+1]? =some (if i=k then n+1 else i+1):=by
 unfold C6
 simp[hi]
theorem iz(n i:Nat)(hi:i<n):(eC n)[i]? =some (.own (i+1)):=by simp[eC,hi]
theorem iv(e1 e:TypeId)(rs:List (List Int))(k:Nat)(hk:k<rs.length):(jR e1 e rs)[k+1]? =some (some (.row e 1 (rs.getD k []).length (aL (rs.getD k [])))):=by
 unfold jR
 simp[hk]
theorem ow(e1 e:TypeId)(rs:List (List Int))(k:Nat)(hk:k<rs.length)(x:Int):
  kq (C6 rs.length k) (((jR e1 e rs).set (k+1) none++[some (cK.row e 1 ((rs.getD k []).length+1) (aL (rs.getD k [])++[.raw (.int .i64 x)]))]).set 0 (some (.row e1 1 rs.length (over (eC rs.length) k [.own (jR e1 e rs).length])))) (jR e1 e (rs.set k (rs.getD k []++[x]))) (C6 rs.length k):=by
 have hol:(eC rs.length).length=rs.length:=by simp[eC]
 have hlen:(jR e1 e rs).length=rs.length+1:=by simp[jR]
 have hov:over (eC rs.length) k [.own (jR e1 e rs).length]=(eC rs.length).set k (.own (rs.length+1)):=by
  unfold over
  rw[hlen,List.set_eq_take_append_cons_drop,if_pos (by omega)]
  simp
 rw[hov]
 apply kq.of
 ·simp[jR,C6]
 ·intro i b' j h1 h2
  cases i with
  |zero=>
   simp only[jR,List.getElem?_cons_zero,Option.some.injEq,List.length_set]at h1
   simp only[C6,List.getElem?_cons_zero,Option.some.injEq]at h2
   subst h1;subst h2
   refine⟨.row e1 1 rs.length ((eC rs.length).set k (.own (rs.length+1))),by simp[jR],.row ⟨by simp,fun i a b k1 k2=>?_⟩⟩
   have hi:i<rs.length:=by have:=(List.getElem?_eq_some_iff.1 k1).1;omega
   rw[iz _ _ hi]at k1
   cases k1
   rw[List.getElem?_set]at k2
   split at k2
   ·rename_i e';subst e'
    rw[if_pos (by omega)]at k2
    cases k2
    exact .own (by rw[vo _ _ _ hi,if_pos rfl])
   ·rename_i e'
    rw[iz _ _ hi]at k2
    cases k2
    exact .own (by rw[vo _ _ _ hi,if_neg (Ne.symm e')])
  |succ i=>
   have hi:i<rs.length:=by
    have:=(List.getElem?_eq_some_iff.1 h1).1
    simp[jR]at this
    exact this
   rw[iv _ _ _ _ (by simpa using hi)]at h1
   rw[vo _ _ _ hi]at h2
   cases h1
   by_cases e':i=k
   ·rw[if_pos e']at h2
    cases h2
    subst e'
    refine⟨.row e 1 ((rs.getD i []).length+1) (aL (rs.getD i [])++[.raw (.int .i64 x)]),?_,?_⟩
    ·rw[List.getElem?_set_ne (by omega),List.getElem?_append_right (by simp[hlen])]
     simp[hlen]
    ·have hg:(rs.set i (rs.getD i []++[x])).getD i []=rs.getD i []++[x]:=by simp[List.getD_eq_getElem?_getD,hi]
     rw[hg,dJ]
     exact .fk (by simp) I
   ·rw[if_neg e']at h2
    cases h2
    refine⟨.row e 1 (rs.getD i []).length (aL (rs.getD i [])),?_,?_⟩
    ·rw[List.getElem?_set_ne (by omega),List.getElem?_append_left (by simp[hlen];omega),List.getElem?_set_ne (by omega),iv _ _ _ _ hi]
    ·have hg:(rs.set k (rs.getD k []++[x])).getD i []=rs.getD i []:=by simp[List.getD_eq_getElem?_getD,List.getElem?_set,Ne.symm e']
     rw[hg]
     exact .row ao.pure
def ew(rs:List (List Int)):PV:=.slice rs.length (rs.map aw)
instance (rs:List (List Int)):aI (rs.map aw):=aI.map _ _ fun _=>inferInstance
instance (rs:List (List Int)):IsPure (ew rs):=by unfold ew;infer_instance
theorem v8(e1 e:TypeId)(rs:List (List Int)):aD (jR e1 e rs) (.own 0) (ew rs):=by
 refine aD.dA rfl ⟨by simp[eC],fun i a b h1 h2=>?_⟩
 have hi:i<rs.length:=by have:=(List.getElem?_eq_some_iff.1 h2).1;simpa using this
 rw[iz _ _ hi]at h1
 cases h1
 have:b=aw (rs.getD i []):=by simpa[hi]using h2.symm
 subst this
 exact aD.dA (iv e1 e rs i hi) ai.pure
def ca(f:Nat→Int)(n k:Nat):List (List Int):=(List.range n).map fun(m:Nat)=>((List.range k).filter fun a=>decide (f a=(m:Int))).map Int.ofNat
theorem cQ(f:Nat→Int)(n k:Nat):(ca f n k).length=n:=by simp[ca]
theorem dH(f:Nat→Int)(n k m:Nat)(hm:m<n):(ca f n k).getD m []=((List.range k).filter fun a=>decide (f a=(m:Int))).map Int.ofNat:=by simp[ca,hm]
theorem kL(f:Nat→Int)(n:Nat):ca f n 0=List.replicate n []:=by
 apply List.ext_getElem?
 intro i
 simp only[ca,List.range_zero,List.filter_nil,List.map_nil,List.getElem?_map,List.getElem?_replicate]
 by_cases h:i<n<;>simp[h]
theorem kX(f:Nat→Int)(n k m:Nat)(hm:f k=(m:Int))(hmn:m<n):ca f n (k+1)=(ca f n k).set m ((ca f n k).getD m []++[(k:Int)]):=by
 apply List.ext_getElem?
 intro i
 rw[List.getElem?_set]
 by_cases h:i<n
 ·have hl:i<(ca f n k).length:=by rw[cQ];exact h
  by_cases e:m=i
  ·subst e
   rw[if_pos rfl,if_pos hl,dH _ _ _ _ h]
   simp[ca,h,List.range_succ,List.filter_append,hm]
  ·rw[if_neg e]
   simp[ca,h,List.range_succ,List.filter_append,hm]
   omega
 ·have hl:¬i<(ca f n k).length:=by rw[cQ];exact h
  have:(ca f n (k+1))[i]? =none:=by simp[ca,h]
  rw[this]
  split
  ·rw[if_neg (by omega)]
  ·simp[ca,h]
end
open Net
theorem JA{P:Program}{σ:bN}{t:b9}{o:Oper}{x y:Operand}{ty tz:TypeId}{a:Nat}(ho:o.op= .binOp .xor ty x y tz)(hx:aA t x=some (num a))(hy:aA t y=some (num 1))(ha:a<9223372036854775806):bh P σ t o (num (flip a:Int)):=
 gP ho hx hy fun w=>by
  have h:IntKind.i64.wrap ((BitVec.ofInt IntKind.i64.bits (a:Int) ^^^ BitVec.ofInt IntKind.i64.bits 1).toNat:Int)=(flip a:Int):=HY a ha
  simp only[binOp,Op.intBits,h]
  rfl
theorem ya(a:Nat):((a:Int)).tdiv 2=((a / 2:Nat):Int):=rfl
theorem Bs(a:Nat):((a:Int)).tmod 2=((a % 2:Nat):Int):=rfl
theorem bu{T:ah}{n:Int}:bH T n=true↔0≤n∧n<T.nodes:=by simp[bH]
theorem bX{T:ah}(h:au T=true):T.ae.length≤256:=(dz h).2.2.1
theorem tt{b:Prop}[Decidable b](h:decide b=true):b:=of_decide_eq_true h
theorem ff{b:Prop}[Decidable b](h:decide b=false):¬b:=of_decide_eq_false h
theorem mC{E:Env}{w:World}{v:Value}{n:Nat}{xs:List PV}(h:cu E w v (.slice n xs)):n≤maxLen:=by
 obtain⟨a,c,_,h1,h2⟩:=nT h
 omega
theorem qo{P:Program}{f:FuncId}{ps:List PV}{R:PV→Prop}(h:(∃E w vs,aV E w vs ps)→Can P f ps R):Can P f ps R:=fun F w vs hF hG hR=>h ⟨_,_,_,hR⟩ F w vs hF hG hR
theorem wB{P:Program}{f:FuncId}{T:ah}{ps:List PV}{R:PV→Prop}(h:T.ae.length≤maxLen→T.over.length≤maxLen→Can P f (aZ T::ps) R):Can P f (aZ T::ps) R:=by
 refine qo fun⟨E,w,vs,hR⟩=>?_
 obtain⟨v,_,hv⟩:=hR.get (i:=0) I
 unfold aZ bI at hv
 cases hv with
 |agg cs _ hl hr=>
  have hr:aV E w cs.toList _:=⟨by simpa using hl,fun i x u h1 h2=>hr i x u (by simpa using h1) h2⟩
  obtain⟨v1,_,h1⟩:=hr.get (i:=1) I
  obtain⟨v2,_,h2⟩:=hr.get (i:=2) I
  exact h (mC h2) (mC h1)
theorem dY(T:ah)(hl:T.ae.length≤4611686018427387903):Can Tryz.prog 27 [aZ T] (· =num (2*(T.ae.length:Int))):=by
 exact aT Tryz.func27 I Tryz.ntmps27 I<|af (.a 2 I<|.k [1] I)<|af (.a 3 I<|.v (aU I) I<|.a 1 I<|.k [2] I)<|az<|⟨_,_,aE.of I,aD.pure,rfl⟩
theorem fp(T:ah)(a:Nat)(ha:a<2*T.ae.length):Can Tryz.prog 58 [aZ T,num a] (· =num (aN T a)):=by
 have hi:a / 2<T.ae.length:=by omega
 refine wB fun hm _=>?_
 unfold maxLen at hm
 refine aT Tryz.func58 I Tryz.ntmps58 I<|af (.a 2 I<|.k [1,2] I)<|an<|af (.a 1 I<|.v (ni I I I (by decide) (Bs a)) I<|.a 1 I<|.k [1,2,7] I)<|aj I (fun hc=>?_) (fun hc=>?_)
 ·have h2:a % 2=0:=by have:=tt hc;omega
  unfold aN
  rw[if_pos h2]
  exact af (.a 3 I<|.v (kf I I I (by decide) (ya a) (by unfold In64;omega)) I<|.v (aJ (a / 2*7) I) I<|.a 1 I<|.v (aK I (fr T.ae (a / 2) 0 hi (by omega))) I<|.a 1 I<|.k [4] I)<|az<|⟨_,_,aE.of I,aD.pure,rfl⟩
 ·have h2:¬a % 2=0:=by have:=ff hc;omega
  unfold aN
  rw[if_neg h2]
  exact ak<|af (.a 3 I<|.v (kf I I I (by decide) (ya a) (by unfold In64;omega)) I<|.v (aJ (a / 2*7) I) I<|.a 1 I<|.v (aK I (fr T.ae (a / 2) 1 hi (by omega))) I<|.a 1 I<|.k [4] I)<|az<|⟨_,_,aE.of I,aD.pure,rfl⟩
theorem ed(T:ah)(a:Nat)(ha:a<2*T.ae.length)(hl:T.ae.length≤4611686018427387902):Can Tryz.prog 37 [aZ T,num a] (· =num (aB T a)):=by
 exact aT Tryz.func37 I Tryz.ntmps37 I<|af (.a 2 I<|.k [1,2] I)<|af (.a 2 I<|.v (JA I I I (by omega)) I<|.c rfl (fp T (Net.flip a) (by unfold Net.flip;split<;>omega)) I<|.a 1 I<|.k [4] I)<|az<|⟨_,_,aE.of I,aD.pure,rfl⟩
theorem xz(T:ah)(a:Nat)(hi:a / 2<T.ae.length):(ct T.ae)[a / 2*7+2+a % 2]? =some (num (bS T a)):=by
 rw[Nat.add_assoc,fr T.ae (a / 2) (2+a % 2) hi (by omega)]
 unfold bS
 rcases Nat.mod_two_eq_zero_or_one a with h|h<;>rw[h]
 ·rfl
 ·rfl
theorem gi(T:ah)(a:Nat)(ha:a<2*T.ae.length):Can Tryz.prog 39 [aZ T,num a] (· =num (bS T a)):=by
 have hi:a / 2<T.ae.length:=by omega
 refine wB fun hm _=>?_
 unfold maxLen at hm
 exact aT Tryz.func39 I Tryz.ntmps39 I<|af (.a 2 I<|.k [1,2] I)<|af (.a 3 I<|.v (kf I I I (by decide) (ya a) (by unfold In64;omega)) I<|.a 1 I<|.v (ni I I I (by decide) (Bs a)) I<|.v (aJ (a / 2*7) I) I<|.a 1 I<|.v (aJ (a % 2) I) I<|.v (aK I (xz T a hi)) I<|.a 1 I<|.k [4] I)<|az<|⟨_,_,aE.of I,aD.pure,rfl⟩
theorem lK(T:ah)(n:Nat)(hn:T.over.length=0∨n<T.over.length):Can Tryz.prog 84 [aZ T,num n] (· =flag (cL T n)):=by
 obtain⟨p1,hp1⟩:∃q,decide (0<(T.over.length:Int))=q:=⟨_,rfl⟩
 obtain⟨p2,hp2⟩:∃q,T.over.getD n false=q:=⟨_,rfl⟩
 have he:cL T n=(p1&&p2):=by
  unfold cL
  cases p1
  ·have:=ff hp1
   rw[List.getD_eq_getElem?_getD,List.getElem?_eq_none (by omega)];rfl
  ·exact hp2
 rw[he]
 refine aT Tryz.func84 I Tryz.ntmps84 I<|af (.a 2 I<|.k [1,2] I)<|bP 4 (.raw (.bool (p1&&p2))) [] I ?_ ?_
 ·refine .a 3 I<|.v (cD I (hp1)) I<|.a 1 I<|?_
  cases p1
  ·exact .a 7 I<|.k [4] I
  ·exact .a 3 I<|.v (aJ (n) I (by omega) (by have:=tt hp1;omega)) I<|.v (aK I (show _=some (flag p2) by rw[ee _ n (by have:=tt hp1;omega),hp2])) I<|.a 2 I<|.k [4] I
 exact az<|⟨_,_,aE.of I,aD.pure,rfl⟩
theorem dy(T:ah)(n:Int):Can Tryz.prog 30 [aZ T,num n] (· =flag (bH T n)):=by
 obtain⟨p1,hp1⟩:∃q,decide (0≤n)=q:=⟨_,rfl⟩
 obtain⟨p2,hp2⟩:∃q,decide (n<T.nodes)=q:=⟨_,rfl⟩
 have he:bH T n=(p1&&p2):=by rw[←hp1,←hp2];unfold bH;exact Bool.decide_and _ _
 rw[he]
 refine aT Tryz.func30 I Tryz.ntmps30 I<|af (.a 2 I<|.k [1,2] I)<|bP 4 (.raw (.bool (p1&&p2))) [] I ?_ ?_
 ·refine .a 1 I<|.v (cD I (hp1)) I<|.a 1 I<|?_
  cases p1
  ·exact .a 6 I<|.k [4] I
  ·exact .a 3 I<|.v (cD I (hp2)) I<|.a 2 I<|.k [4] I
 exact az<|⟨_,_,aE.of I,aD.pure,rfl⟩
theorem mN(T:ah)(hl:T.ae.length≤4611686018427387903)(a:Int):Can Tryz.prog 28 [aZ T,num a] (· =flag (dS T a)):=by
 obtain⟨p1,hp1⟩:∃q,decide (0≤a)=q:=⟨_,rfl⟩
 obtain⟨p2,hp2⟩:∃q,decide (a<2*(T.ae.length:Int))=q:=⟨_,rfl⟩
 have he:dS T a=(p1&&p2):=by rw[←hp1,←hp2];unfold dS;exact Bool.decide_and _ _
 rw[he]
 refine aT Tryz.func28 I Tryz.ntmps28 I<|af (.a 2 I<|.k [1,2] I)<|bP 4 (.raw (.bool (p1&&p2))) [] I ?_ ?_
 ·refine .a 1 I<|.v (cD I (hp1)) I<|.a 1 I<|?_
  cases p1
  ·exact .a 6 I<|.k [4] I
  ·exact .a 2 I<|.c rfl (dY T hl) I<|.v (cD I (hp2)) I<|.a 2 I<|.k [4] I
 exact az<|⟨_,_,aE.of I,aD.pure,rfl⟩
theorem lD(T:ah)(D:List Bool)(hl:T.ae.length≤4611686018427387903):Can Tryz.prog 34 [aZ T,bq D] (· =flag (bR T D)):=by
 obtain⟨p1,hp1⟩:∃q,decide ((D.length:Int)=0)=q:=⟨_,rfl⟩
 obtain⟨p2,hp2⟩:∃q,decide ((D.length:Int)=2*(T.ae.length:Int))=q:=⟨_,rfl⟩
 have he:bR T D=(p1||p2):=by rw[←hp1,←hp2];unfold bR;rw[←Bool.decide_or];exact decide_eq_decide.2 (by omega)
 rw[he]
 refine aT Tryz.func34 I Tryz.ntmps34 I<|af (.a 2 I<|.k [1,2] I)<|bP 4 (.raw (.bool (p1||p2))) [] I ?_ ?_
 ·refine .a 2 I<|.v (cD I (hp1)) I<|.a 1 I<|?_
  cases p1
  ·exact .a 3 I<|.c rfl (dY T hl) I<|.v (cD I (hp2)) I<|.a 2 I<|.k [4] I
  ·exact .a 7 I<|.k [4] I
 exact az<|⟨_,_,aE.of I,aD.pure,rfl⟩
theorem HR{D:List Bool}{a:Nat}{p1 p2:Bool}(hp1:decide (0<(D.length:Int))=p1)(hp2:D.getD a false=p2):bF D a=(p1&&p2):=by
 unfold bF
 cases p1
 ·have:=ff hp1
  rw[List.getD_eq_getElem?_getD,List.getElem?_eq_none (by omega)];rfl
 ·exact hp2
theorem jl(D:List Bool)(a:Nat)(ha:D.length=0∨a<D.length):Can Tryz.prog 49 [bq D,num a] (· =flag (bF D a)):=by
 obtain⟨p1,hp1⟩:∃q,decide (0<(D.length:Int))=q:=⟨_,rfl⟩
 obtain⟨p2,hp2⟩:∃q,D.getD a false=q:=⟨_,rfl⟩
 rw[HR hp1 hp2]
 refine aT Tryz.func49 I Tryz.ntmps49 I<|af (.a 1 I<|.k [0,1] I)<|bP 4 (.raw (.bool (p1&&p2))) [] I ?_ ?_
 ·refine .a 2 I<|.v (cD I (hp1)) I<|.a 1 I<|?_
  cases p1
  ·exact .a 6 I<|.k [4] I
  ·exact .a 2 I<|.v (aJ (a) I (by omega) (by have:=tt hp1;omega)) I<|.v (aK I (show _=some (flag p2) by rw[ee _ a (by have:=tt hp1;omega),hp2])) I<|.a 2 I<|.k [4] I
 exact az<|⟨_,_,aE.of I,aD.pure,rfl⟩
theorem gY(n lo hi:Int):Can Tryz.prog 64 [num n,num lo,num hi] (· =flag (bU n lo hi)):=by
 obtain⟨p1,hp1⟩:∃q,decide (lo≤n)=q:=⟨_,rfl⟩
 obtain⟨p2,hp2⟩:∃q,decide (n≤hi)=q:=⟨_,rfl⟩
 have he:bU n lo hi=(p1&&p2):=by rw[←hp1,←hp2];unfold bU;exact Bool.decide_and _ _
 rw[he]
 refine aT Tryz.func64 I Tryz.ntmps64 I<|af (.a 1 I<|.k [0,1,2] I)<|bP 6 (.raw (.bool (p1&&p2))) [] I ?_ ?_
 ·refine .a 2 I<|.v (cD I (hp1)) I<|.a 1 I<|?_
  cases p1
  ·exact .a 5 I<|.k [6] I
  ·exact .a 2 I<|.v (cD I (hp2)) I<|.a 2 I<|.k [6] I
 exact az<|⟨_,_,aE.of I,aD.pure,rfl⟩
set_option maxHeartbeats 2000000 in
theorem eo(T:ah):Can Tryz.prog 33 [aZ T] (· =flag (au T)):=by
  obtain⟨p0,hp0⟩:∃q,bU T.nodes 1 64=q:=⟨_,rfl⟩
  obtain⟨p1,hp1⟩:∃q,decide ((T.over.length:Int)≠0)=q:=⟨_,rfl⟩
  obtain⟨p2,hp2⟩:∃q,decide ((T.over.length:Int)≠T.nodes)=q:=⟨_,rfl⟩
  obtain⟨p3,hp3⟩:∃q,decide (256<(T.ae.length:Int))=q:=⟨_,rfl⟩
  have hw:Can Tryz.prog 64 [num T.nodes,num 1,num 64] (· =flag p0):=by rw[←hp0];exact gY _ _ _
  refine aT Tryz.func33 I Tryz.ntmps33 I<|af (.a 2 I<|.k [1] I)<|an<|bP 14 (.raw (.bool ((!p0)||p3))) [1] I ?_ ?_
  · refine .a 2 I<|.c rfl (hw) I<|.a 2 I<|?_
    cases p0
    · exact .a 5 I<|.k [14,1] I
    · exact .a 3 I<|.v (cD I (hp3)) I<|.a 1 I<|.k [14,1] I
  refine aj I (fun hc=>?_) (fun hc=>?_)
  · have hv:au T=false:=by
      rcases Bool.or_eq_true_iff.1 hc with h|h
      · exact(gX T (.inl (by rw[hp0];simpa using h))).symm
      · rw[h]at hp3;exact(gX T (.inr (.inl (by have:=tt hp3;omega)))).symm
    rw[hv]
    exact af (.a 1 I<|.k [2] I)<|az<|⟨_,_,aE.of I,aD.pure,rfl⟩
  · obtain ⟨c1, c2⟩ := Bool.or_eq_false_iff.1 hc
    have h0:p0=true:=by simpa using c1
    rw[h0]at hp0
    rw[c2]at hp3
    have hle:T.ae.length≤256:=by have:=ff hp3;omega
    clear hw hc c1
    refine ak<|an<|bP 26 (.raw (.bool (p1&&p2))) [1] I ?_ ?_
    · refine .a 3 I<|.v (cD I (hp1)) I<|.a 1 I<|?_
      cases p1
      · exact .a 7 I<|.k [26,1] I
      · exact .a 5 I<|.v (cD I (hp2)) I<|.a 1 I<|.k [26,1] I
    refine aj I (fun hc=>?_) (fun hc=>?_)
    · have hv:au T=false:=by
        obtain⟨a1,a2⟩:=Bool.and_eq_true_iff.1 hc
        rw[a1]at hp1
        rw[a2]at hp2
        exact(gX T (.inr (.inr ⟨by have:=tt hp1;omega,tt hp2⟩))).symm
      rw[hv]
      exact af (.a 1 I<|.k [2] I)<|az<|⟨_,_,aE.of I,aD.pure,rfl⟩
    · have hov:T.over.length=0∨(T.over.length:Int)=T.nodes:=by
        rcases Bool.and_eq_false_iff.1 hc with h|h
        · rw[h]at hp1;exact .inl (by have:=ff hp1;omega)
        · rw[h]at hp2;exact .inr (by have:=ff hp2;omega)
      rw[rY T hp0 hle hov]
      clear hc hp1 hp2
      refine ak<|an<|af (.a 4 I<|.k [1,29,30] I)<|ay<|eY [1,29,30] I<|br (fun r s=>∃k,k≤T.ae.length∧r=T.ae.length - k∧(T.ae.take k).all (fU T)=true∧s=⟨[(1,.bg (bI T) 0),(29,num T.ae.length),(30,num k)],[]⟩) T.ae.length ⟨0,by omega,by omega,by simp,rfl⟩ ?_
      rintro r s ⟨k,hk,rfl,hall,rfl⟩
      refine af (.a 1 I<|.k [1,29,30,31] I)<|an<|aj I (fun hc=>?_) (fun hc=>?_)
      · have hlt:k<T.ae.length:=by have:=tt hc;omega
        have g:∀j,j<7→(ct T.ae)[k*7+j]? =(iQ (cw T.ae k))[j]? :=fun j hj=>fr T.ae k j hlt hj
        obtain⟨q1,g1⟩:∃q,decide ((cw T.ae k).a=(cw T.ae k).b)=q:=⟨_,rfl⟩
        obtain⟨q2,g2⟩:∃q,bH T (cw T.ae k).a=q:=⟨_,rfl⟩
        obtain⟨q3,g3⟩:∃q,bH T (cw T.ae k).b=q:=⟨_,rfl⟩
        obtain⟨q4,g4⟩:∃q,bU (cw T.ae k).c0 1 65535=q:=⟨_,rfl⟩
        obtain⟨q5,g5⟩:∃q,bU (cw T.ae k).c1 1 65535=q:=⟨_,rfl⟩
        obtain⟨q6,g6⟩:∃q,bU (cw T.ae k).cap 0 1048576=q:=⟨_,rfl⟩
        obtain⟨q7,g7⟩:∃q,bU (cw T.ae k).fj 1 65536=q:=⟨_,rfl⟩
        obtain⟨q8,g8⟩:∃q,bU (cw T.ae k).wE 0 64=q:=⟨_,rfl⟩
        have hOK:=tp (T:=T) (l:=cw T.ae k) (q1:=q1) (by rw[←g1];exact Bool.eq_iff_iff.2 (by simp)) g2 g3 g4 g5 g6 g7 g8
        have hall':=wC (fU T) T.ae k hlt
        have hno:=xH (fU T) T.ae k hlt
        rw[hOK]at hall' hno
        have n2:=dy T (cw T.ae k).a
        rw[g2]at n2
        have n3:=dy T (cw T.ae k).b
        rw[g3]at n3
        have n4:=gY (cw T.ae k).c0 1 65535
        rw[g4]at n4
        have n5:=gY (cw T.ae k).c1 1 65535
        rw[g5]at n5
        have n6:=gY (cw T.ae k).cap 0 1048576
        rw[g6]at n6
        have n7:=gY (cw T.ae k).fj 1 65536
        rw[g7]at n7
        have n8:=gY (cw T.ae k).wE 0 64
        rw[g8]at n8
        clear hOK g2 g3 g4 g5 g6 g7 g8
        refine ak<|an<|ay<|af (.a 2 I<|.k [1,3,29,30] I)<|af (.a 3 I<|.v (aJ (k*7) I) I<|.a 1 I<|.k [1,4,29,30] I)<|an<|nG mixed (by kernel_rfl) 63 (.raw (.bool ((q1|| !q2)|| !q3))) [1,4,29,30] I ?_ ?_
        · refine .a 3 I<|.v [39] (aK I (g 0 (by omega))) I I<|.a 3 I<|.v [43] (aK I (g 1 (by omega))) I I<|.v [40,44] (cD I (g1)) I I<|.a 1 I<|?_
          cases q1
          · refine .a 4 I<|.v [50] (aK I (g 0 (by omega))) I I<|.v [47,51] (eW I (n2)) I I<|.a 3 I<|?_
            cases q2
            · exact .a 8 I<|.k [63,1,4,29,30] I
            · exact .a 4 I<|.v [59] (aK I (g 1 (by omega))) I I<|.v [56,60] (eW I (n3)) I I<|.a 2 I<|.k [63,1,4,29,30] I
          · exact .a 17 I<|.k [63,1,4,29,30] I
        refine aj I (fun hx=>?_) (fun hx=>?_)
        · have hno':=hno (by cases q1<;>cases q2<;>cases q3<;>simp_all)
          rw[hno']
          exact af (.a 1 I<|.k [2] I)<|az<|⟨_,_,aE.of I,aD.pure,rfl⟩
        · have e1:q1=false:=by cases q1<;>simp_all
          have e2:q2=true:=by cases q2<;>simp_all
          have e3:q3=true:=by cases q3<;>simp_all
          subst e1 e2 e3
          clear n2 n3 hx
          refine ak<|an<|bP 79 (.raw (.bool ((!q4)|| !q5))) [1,4,29,30] I ?_ ?_
          · refine .a 3 I<|.v (aJ (0) I) I<|.v (aK I (g 2 (by omega))) I<|.c rfl (n4) I<|.a 2 I<|?_
            cases q4
            · exact .a 8 I<|.k [79,1,4,29,30] I
            · exact .a 3 I<|.v (aJ (1) I) I<|.v (aK I (g 3 (by omega))) I<|.c rfl (n5) I<|.a 2 I<|.k [79,1,4,29,30] I
          refine aj I (fun hx=>?_) (fun hx=>?_)
          · have hno':=hno (by cases q4<;>cases q5<;>simp_all)
            rw[hno']
            exact af (.a 1 I<|.k [2] I)<|az<|⟨_,_,aE.of I,aD.pure,rfl⟩
          · have e1:q4=true:=by cases q4<;>simp_all
            have e2:q5=true:=by cases q5<;>simp_all
            subst e1 e2
            clear n4 n5 hx
            refine ak<|bP 101 (.raw (.bool (((!q6)|| !q7)|| !q8))) [1,29,30] I ?_ ?_
            · refine .a 3 I<|.v (aK I (g 4 (by omega))) I<|.c rfl (n6) I<|.a 2 I<|?_
              cases q6
              · exact .a 15 I<|.k [101,1,29,30] I
              · refine .a 3 I<|.v (aK I (g 5 (by omega))) I<|.c rfl (n7) I<|.a 3 I<|?_
                cases q7
                · exact .a 7 I<|.k [101,1,29,30] I
                · exact .a 3 I<|.v (aK I (g 6 (by omega))) I<|.c rfl (n8) I<|.a 2 I<|.k [101,1,29,30] I
            refine aj I (fun hx=>?_) (fun hx=>?_)
            · have hno':=hno (by cases q6<;>cases q7<;>cases q8<;>simp_all)
              rw[hno']
              exact af (.a 1 I<|.k [2] I)<|az<|⟨_,_,aE.of I,aD.pure,rfl⟩
            · have e1:q6=true:=by cases q6<;>simp_all
              have e2:q7=true:=by cases q7<;>simp_all
              have e3:q8=true:=by cases q8<;>simp_all
              subst e1 e2 e3
              clear n6 n7 n8 hx
              refine ak<|aF (.v (aU I) I<|.a 1 I<|.k [1,29,30] I) ?_
              exact⟨T.ae.length - (k+1),by omega,k+1,by omega,rfl,by rw[hall',hall];rfl,rfl⟩
      · have hke:k=T.ae.length:=by have:=ff hc;omega
        subst hke
        rw[List.take_length]at hall
        rw[hall]
        exact bp<|af (.a 1 I<|.k [2] I)<|az<|⟨_,_,aE.of I,aD.pure,rfl⟩
end
section
open Go.RowKit cj Mem
section
variable {P:Program} {N L:Nat} {ops:Array Oper}
theorem WA.mono:∀ {n:Nat} {ls:Array Bool} {st:St} {K K':St→Prop},WA P N L ops n ls st K→(∀s,K s→K' s)→WA P N L ops n ls st K'
 |0,_,_,_,_,h,hk=>⟨h.1,hk _ h.2⟩
 |_+1,_,_,_,_,h,hk=>⟨h.1,fun i hi=>by
   obtain⟨o,h1,h2,h3⟩:=h.2 i hi
   exact⟨o,h1,h2,h3.mono fun s hs=>WA.mono hs hk⟩⟩
theorem kV{id:Nat}{l:List Oper}{y:Code}{st:St}{Q:Exit→St→Prop}(t':b9)(σ':bN)(hm:P.follows .mixedOrders=true)(h:WA P N L l.toArray l.length (Array.replicate l.length false) st (fun s=>s.σ=σ'∧Sub s.t t'))(hq:W P N L y ⟨t',σ'⟩ Q):W P N L (.seq (.region id l.toArray true) y) st Q:=
 pa hm (h.mono fun s hs=>by
  obtain⟨t,σ⟩:=s
  obtain⟨h1,h2⟩:=hs
  subst h1
  exact iJ h2 hq)
theorem Sat.seal{F:Nat→Prop}{base:Nat}{σ:bN}{E:Env}{w:World}(hS:Sat F base σ E w){i e s n:Nat}{xs:List PV}(hi:σ[i]? =some (some (.row e s n xs))){v:Value}(hv:cu E w v (.own i)):cu (E.kill i) w v (.slice n xs):=by
 obtain⟨_,g⟩:=hS.kill i hi
 cases hv with
 |own _ hiL _ h _=>
  obtain⟨cs,k1,k2⟩:=hS.blk i _ hi
  rw[h]at k1
  have k3:=k1
  rcases k1.2 with⟨rfl,h0⟩|⟨b,cap,cur,rfl,hb,hg,hn,hc,hs',ht⟩
  ·subst h0
   have:xs=[]:=by
    have:=k3.1;simp at this;subst this
    exact List.eq_nil_of_length_eq_zero k2.1.symm
   subst this
   exact .cc
  ·by_cases h0:n=0
   ·subst h0
    have:xs=[]:=by
     have:=k3.1;simp at this;subst this
     exact List.eq_nil_of_length_eq_zero k2.1.symm
    subst this
    exact .empty _ _ hc
   ·refine .slice b 0 n cap cs xs (by omega) hn hc (Array.getElem?_eq_some_iff.1 hg).1 (fun hM=>hM.2 (by rw[h];rfl)) (fun j x hx=>?_) k2.1 (fun j x u h1 h2=>(k2.2 j x u h1 h2).goes g)
    have:=k3.cells (g:=b) I j x hx
    rw[Addr.add_lit]at this
    exact this
theorem Ff{c:Code}{t:b9}{σ:bN}{Q:Exit→St→Prop}(k i:Nat){e s n:Nat}{xs:List PV}(hk:look k t=some (.own i))(hi:σ[i]? =some (some (.row e s n xs)))(h:W P N L c ⟨(k,.slice n xs)::t,σ.set i none⟩ Q):W P N L c ⟨t,σ⟩ Q:=fun F base E₀ w₀ E a w hc hs=>by
 obtain⟨a1,a2⟩:=hs.sat.kill i hi
 exact h F base E₀ w₀ _ a w (hc.on a2 (Below.refl _ _)) ⟨a1,(hs.tmp.goes a2).G2 (hs.sat.seal hi (hs.tmp k _ hk)),hs.jL,hs.size⟩
theorem iV{c:Code}{t:b9}{σ:bN}{Q:Exit→St→Prop}(k i off:Nat){ty:TypeId}{xs:List PV}(hk:look k t=some (.ptr i off))(hi:σ[i]? =some (some (.cells ty xs)))(h:W P N L c ⟨(k,.bg xs off)::t,σ.set i none⟩ Q):W P N L c ⟨t,σ⟩ Q:=fun F base E₀ w₀ E a w hc hs=>by
 obtain⟨a1,a2⟩:=hs.sat.kill i hi
 have hv:=hs.tmp k _ hk
 obtain⟨b,cs,h1,h2,h3,h4⟩:=hs.sat.blk i _ hi
 have hp:cu (E.kill i) w (a.eval (.tmp k)) (.bg xs off):=by
  generalize a.eval (.tmp k)=z at hv
  cases hv with
  |ptr _ _ b' hi' h=>
   have hb:b'=b:=by
    rcases h with h|⟨n,c,h⟩<;>rw[h1]at h<;>cases h
    rfl
   subst hb
   have:=cu.bg (E:=E.kill i) (w:=w) b' 0 off cs.toList xs (Array.getElem?_eq_some_iff.1 h3).1 (fun hM=>hM.2 (by rw[h1];rfl)) (fun j x hx=>by rw[Nat.zero_add];unfold World.cell?;simp only[h3];simpa using hx) h4.1 (fun j x u k1 k2=>(h4.2 j x u k1 k2).goes a2)
   rw[Nat.zero_add]at this
   exact this
 exact h F base E₀ w₀ _ a w (hc.on a2 (Below.refl _ _)) ⟨a1,(hs.tmp.goes a2).G2 hp,hs.jL,hs.size⟩
end
end
end PW
end Go.Proofs.YteikppbedmmdnaaGreatDoor
