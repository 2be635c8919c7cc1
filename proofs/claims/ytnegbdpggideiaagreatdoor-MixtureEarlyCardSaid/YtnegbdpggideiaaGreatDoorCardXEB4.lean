/- Texts of the proof, part 4. -/
import Derived.OpenShut
import Derived.Test.YtnegbdpggideiaaGreatDoorRows
import Derived.Test.YtnegbdpggideiaaGreatDoorCards
import Derived.Test.YtnegbdpggideiaaGreatDoorTie
import Derived.WalkKit
import Derived.ProofKit
import Derived.ShutString
import Derived.ChangeOld
import Derived.Below
import Derived.LaidMore
import Derived.Stop.Joined
import Derived.SevenTiedAt
import Derived.Lib.SmallJoins
import Derived.Lib.LaidTab
import Derived.RangeFuncNested
import Derived.RangeFuncBound
import Derived.RangeFuncCalls
import Derived.RangeFuncLeaves
import Derived.Shelf.Abstract
import Derived.Shelf.RegionOpen
import Derived.OwnWalkIn
import Derived.TacticsInMore
import Derived.LoopNIn
import Derived.LoopIn
import Derived.RangeFuncFrom
import Derived.Test.YtnegbdpggideiaaGreatDoorCardXEB3
set_option linter.unusedVariables false
set_option linter.unusedSimpArgs false
set_option maxRecDepth 10000
set_option maxHeartbeats 1000000
namespace Go.Proofs.YtnegbdpggideiaaGreatDoor
namespace PW
section
open Go.RowKit cG Mem Net
section
variable {H:Type} {enc:TypeId×Value→H} {W:World}
theorem ig{n:Nat}{cs:List Value}{y:DataW H×List MemPlace}(h:DataW.trod enc Tryz.prog W 0 (fun _=>true) true n 3 cs=some y):∃a:Int,cs=[.int .i64 a]:=by
 obtain⟨a,h1,_⟩:=DataW.trod_int Tryz.underlying3 h
 exact⟨a,h1⟩
theorem pZ{α:Type}(f:α→PV)(l:List α):l.flatMap (fun a=>[f a])=l.map f:=by induction l with
 |nil=>rfl
 |cons a l ih=>simp[ih]
theorem HV{n:Nat}{v:Value}{y:DataW H×List MemPlace}(h:DataW.trod enc Tryz.prog W 0 (fun _=>true) true n 37 [v]=some y):∃L,cM EN W v (av L):=by
 obtain⟨L,hL⟩:=sb (f:=fun a:Int=>[PV.raw (.int .i64 a)]) (s:=1) Tryz.underlying37 (by kernel_rfl) (by omega) (fun n cs y hy _=>by
  obtain⟨a,rfl⟩:=ig hy
  exact⟨a,bf.one (.raw _)⟩) h
 refine⟨L,?_⟩
 rw[pZ]at hL
 exact hL
theorem D3{n:Nat}{v:Value}{y:DataW H×List MemPlace}(h:DataW.trod enc Tryz.prog W 0 (fun _=>true) true n 22 [v]=some y):∃L,cM EN W v (bn L):=by
 obtain⟨L,hL⟩:=sb (f:=fun a:Bool=>[PV.raw (.bool a)]) (s:=1) Tryz.underlying22 (by kernel_rfl) (by omega) (fun n cs y hy _=>by
  obtain⟨a,rfl,_⟩:=DataW.trod_bool Tryz.underlying4 hy
  exact⟨a,bf.one (.raw _)⟩) h
 refine⟨L,?_⟩
 rw[pZ]at hL
 exact hL
theorem HQ{n:Nat}{cs:List Value}{y:DataW H×List MemPlace}(h:DataW.trod enc Tryz.prog W 0 (fun _=>true) true n 127 cs=some y)(hl:cs.length=7):∃l:nM,bf EN W cs (kh l):=by
 have c3:Tryz.prog.cellsOf 3=1:=by kernel_rfl
 have c54:Tryz.prog.cellsOf 125=2:=by kernel_rfl
 obtain⟨xs,m,_,_,_,hlen,hf⟩:=DataW.trod_struct Tryz.underlying127 h
 match cs,hl with
 | [c0,c1,c2,c3',c4,c5,c6],_=>
  match xs,hlen with
  | [y0,y1,y2,y3,y4,y5],_=>
   have f0:DataW.trod enc Tryz.prog W 0 (fun _=>true) true m 3 (([c0,c1,c2,c3',c4,c5,c6].drop 0).take (Tryz.prog.cellsOf 3))=some y0:=hf 0 _ rfl
   rw[c3]at f0
   have f1:DataW.trod enc Tryz.prog W 0 (fun _=>true) true m 3 (([c0,c1,c2,c3',c4,c5,c6].drop 1).take (Tryz.prog.cellsOf 3))=some y1:=hf 1 _ rfl
   rw[c3]at f1
   have f2:DataW.trod enc Tryz.prog W 0 (fun _=>true) true m 125 (([c0,c1,c2,c3',c4,c5,c6].drop 2).take (Tryz.prog.cellsOf 125))=some y2:=hf 2 _ rfl
   rw[c54]at f2
   have f3:DataW.trod enc Tryz.prog W 0 (fun _=>true) true m 3 (([c0,c1,c2,c3',c4,c5,c6].drop 4).take (Tryz.prog.cellsOf 3))=some y3:=hf 3 _ rfl
   rw[c3]at f3
   have f4:DataW.trod enc Tryz.prog W 0 (fun _=>true) true m 3 (([c0,c1,c2,c3',c4,c5,c6].drop 5).take (Tryz.prog.cellsOf 3))=some y4:=hf 4 _ rfl
   rw[c3]at f4
   have f5:DataW.trod enc Tryz.prog W 0 (fun _=>true) true m 3 (([c0,c1,c2,c3',c4,c5,c6].drop 6).take (Tryz.prog.cellsOf 3))=some y5:=hf 5 _ rfl
   rw[c3]at f5
   obtain⟨a0,h0⟩:=ig f0
   obtain⟨a1,h1⟩:=ig f1
   obtain⟨a3,h3⟩:=ig f3
   obtain⟨a4,h4⟩:=ig f4
   obtain⟨a5,h5⟩:=ig f5
   obtain⟨zs,m2,_,_,_,hz,hg⟩:=DataW.trod_array Tryz.underlying125 f2
   match zs,hz with
   | [z0,z1],_=>
    have g0:=hg 0 (by omega)
    have g1:=hg 1 (by omega)
    rw[c3]at g0 g1
    obtain⟨b0,k0⟩:=ig g0
    obtain⟨b1,k1⟩:=ig g1
    simp at h0 h1 h3 h4 h5 k0 k1
    subst h0 h1 h3 h4 h5 k0 k1
    exact⟨⟨a0,a1,b0,b1,a3,a4,a5⟩,bf.cons (.raw _)<|bf.cons (.raw _)<|bf.cons (.raw _)<|bf.cons (.raw _)<|bf.cons (.raw _)<|bf.cons (.raw _)<|bf.cons (.raw _) (bf.nil _ _)⟩
end
end
end PW
end Go.Proofs.YtnegbdpggideiaaGreatDoor
namespace Go.Proofs.YtnegbdpggideiaaGreatDoor
namespace PW
open Go.ChangeShapes Go.WideShapes Go.ChangeAt Go.RowKit
open Go.Joins cG Mem
theorem own:ownKnob Tryz.prog.godebug=none:=by kernel_rfl
theorem laidOut:laidOutB Tryz.prog=true:=by kernel_rfl
theorem JY{H:Type}{enc:TypeId×Value→H}{W:World}{t:TypeId}{v:Value}{d:DataW H}{p:List MemPlace}(h:DataW.Trod enc Tryz.prog W 0 (fun _=>true) true t v d p):∀x∈p,x.block<W.heap.size:=by
 obtain⟨m,hm⟩:=h;exact DataW.trod_lt m _ _ _ hm
end PW
end Go.Proofs.YtnegbdpggideiaaGreatDoor
namespace Go.Proofs.YtnegbdpggideiaaGreatDoor
namespace PW
section
open Go.RowKit cG Mem
theorem wK{P:Program}{x:String×DataW Unit}{r:List (String×DataW Unit)}{W:World}(h:laidMet P (x::r) W):laidMet P r W:=by
 obtain⟨ps,⟨g,t,cs,fuel,p,q,_,_,_,_,hr,rfl⟩,hn,hc⟩:=h
 exact⟨q,hr,(List.nodup_append.1 hn).2.1,fun b off hm=>hc b off (List.mem_append.2 (.inr hm))⟩
theorem lM{P:Program}{W:World}{name:String}{k:IntKind}{zs:List Int}{g:Nat}(hg:P.globalNamed name=some g)(h:Lib.TabIs P W name k zs):∃t fz,W.heap[g]? =some (.cells (zs.map fun z=>Value.int k z).toArray t fz):=by
 unfold Lib.TabIs World.var? at h
 rw[hg]at h
 simp only[Option.bind_some]at h
 split at h
 ·rename_i cs t fz hh
  cases h
  exact⟨t,fz,hh⟩
 ·cases h
def t32:List Int:=[0,1,28,2,29,14,24,3,30,22,20,15,25,17,4,8,31,27,13,23,21,19,16,7,26,12,18,6,11,5,10,9]
def t64:List Int:=[0,1,56,2,57,49,28,3,61,58,42,50,38,29,17,4,62,47,59,36,45,43,51,22,53,39,33,30,24,18,12,5,63,55,48,27,60,41,37,16,46,35,44,21,52,32,23,11,54,26,40,15,34,20,31,10,25,14,19,9,13,8,7,6]
def t10:List Int:=[1,10,100,1000,10000,100000,1000000,10000000,100000000,1000000000,10000000000,100000000000,1000000000000,10000000000000,100000000000000,1000000000000000,10000000000000000,100000000000000000,1000000000000000000,10000000000000000000]
theorem Cs{W:World}(h:laidMetH Tryz.prog Rows.mixturePermittedRow.laid W):iA (fun _=>False) W:=by
 have h1:laidMet Tryz.prog [("math/bits.deBruijn32tab",Lib.tabData .u8 t32),("math/bits.deBruijn64tab",Lib.tabData .u8 t64),("internal/strconv.uint64pow10",Lib.tabData .u64 t10)] W:=h
 have h2:=wK h1
 have h3:=wK h2
 have a1:=lM (g:=1) (by kernel_rfl) (Lib.tabIs_of_head (g:=1) (t:=275) (e:=5) (n:=32) (by kernel_rfl) (by kernel_rfl) (by kernel_rfl) (by kernel_rfl) (by kernel_rfl) (by kernel_rfl) h1)
 have a2:=lM (g:=2) (by kernel_rfl) (Lib.tabIs_of_head (g:=2) (t:=276) (e:=5) (n:=64) (by kernel_rfl) (by kernel_rfl) (by kernel_rfl) (by kernel_rfl) (by kernel_rfl) (by kernel_rfl) h2)
 have a3:=lM (g:=0) (by kernel_rfl) (Lib.tabIs_of_head (g:=0) (t:=264) (e:=249) (n:=20) (by kernel_rfl) (by kernel_rfl) (by kernel_rfl) (by kernel_rfl) (by kernel_rfl) (by kernel_rfl) h3)
 intro g cs hm
 refine⟨fun hf=>hf,?_⟩
 have hG:GG=[(0,t10.map fun z=>Value.int .u64 z),(1,t32.map fun z=>Value.int .u8 z),(2,t64.map fun z=>Value.int .u8 z)]:=by kernel_rfl
 rw[hG]at hm
 rcases List.mem_cons.1 hm with e|hm
 ·cases e;exact a3
 ·rcases List.mem_cons.1 hm with e|hm
  ·cases e;exact a1
  ·rcases List.mem_cons.1 hm with e|hm
   ·cases e;exact a2
   ·cases hm
section
variable {P:Program} {N L:Nat} {ops:Array Oper}
def WA(P:Program)(N L:Nat)(ops:Array Oper):Nat→Array Bool→St→(St→Prop)→Prop
 |0,ls,st,K=>Region.ready .any ops ls=[]∧K st
 |n+1,ls,st,K=>Region.ready .any ops ls≠[]∧∀i∈Region.ready .any ops ls,∃o,ops[i]? =some o∧o.guard=none∧WR P N L [o].toArray [o] st (fun s=>WA P N L ops n (ls.setIfInBounds i true) s K)
def KG(P:Program)(N L:Nat)(ops:Array Oper)(n:Nat)(ls:Array Bool)(st:St)(K:St→Prop)(is:List Nat):Prop:=
 ∀i∈is,∃o,ops[i]? =some o∧o.guard=none∧WR P N L [o].toArray [o] st (fun s=>WA P N L ops n (ls.setIfInBounds i true) s K)
theorem jW{ls:Array Bool}{st:St}{K:St→Prop}(h:Region.ready .any ops ls=[])(hk:K st):WA P N L ops 0 ls st K:=⟨h,hk⟩
theorem bR{n:Nat}{ls:Array Bool}{st:St}{K:St→Prop}(i:Nat)(is:List Nat)(h:Region.ready .any ops ls=i::is)(hk:KG P N L ops n ls st K (i::is)):WA P N L ops (n+1) ls st K:=
 ⟨by rw[h];simp,fun j hj=>hk j (by rw[←h];exact hj)⟩
theorem bQ{n:Nat}{ls:Array Bool}{st:St}{K:St→Prop}:KG P N L ops n ls st K []:=fun i hi=>by simp at hi
theorem br{n:Nat}{ls:Array Bool}{st:St}{K:St→Prop}{i:Nat}{is:List Nat}{o:Oper}(ho:ops[i]? =some o)(hg:o.guard=none)(h:WR P N L [o].toArray [o] st (fun s=>WA P N L ops n (ls.setIfInBounds i true) s K))(hs:KG P N L ops n ls st K is):KG P N L ops n ls st K (i::is):=fun j hj=>by
 rcases List.mem_cons.1 hj with rfl|hj
 ·exact⟨o,ho,hg,h⟩
 ·exact hs j hj
def IJ(K:Act→World→Prop)(Q:Exit→Act→World→Prop):Exit→Act→World→Prop
 | .normal,a,w=>K a w
 |e,a,w=>Q e a w
theorem vw{o:Oper}{a:Act}{w:World}{K K' K'':Act→World→Prop}{Q:Exit→Act→World→Prop}(h:∀a w,K a w→K' a w)(hh:o.wp P a w K (IJ K'' Q)):o.wp P a w K' Q:=by
 unfold Oper.wp at*
 generalize (execOp a.eval o).run P w=x at*
 cases x with
 |ok n w'=>
  cases n<;>simp only[Oper.upon]at hh ⊢ <;>
   first
    |exact h _ _ hh
    |exact Calls.mono hh (fun e w'' he=>by cases e<;>first|exact h _ _ he|exact he)
    |exact Rows.mono hh (fun _ _ he=>h _ _ he)
 |halt x w'=>cases x<;>simp only[Oper.upon]at hh ⊢ <;>exact hh
theorem WA.any:∀ {n:Nat} {ls:Array Bool} {st:St} {K:St→Prop},WA P N L ops n ls st K→∀F base E₀ w₀ E a w,pa base L E₀ w₀ E w→eh F base N st E a w→∀(Q:Exit→Act→World→Prop),(∀a' w',nh F base N E₀ w₀ K a' w'→Q .normal a' w')→wpAny P .any ops Q n ls a w
 |0,ls,st,K,h,F,base,E₀,w₀,E,a,w,hc,hs,Q,hQ=>⟨h.1,hQ a w ⟨st,E,h.2,hs,hc.g,hc.b⟩⟩
 |n+1,ls,st,K,h,F,base,E₀,w₀,E,a,w,hc,hs,Q,hQ=>by
  refine⟨fun h0=>absurd h0 h.1,fun i hi=>?_⟩
  obtain⟨o,ho,hg,hw⟩:=h.2 i hi
  have h1:=hw F base E₀ w₀ E a w hc hs (IJ (wpAny P .any ops Q n (ls.setIfInBounds i true)) Q) 0 (fun a' w' ⟨s,E',k1,k2,k3,k4⟩=>by
   show wpAny P .any ops Q n (ls.setIfInBounds i true) a' w'
   exact WA.any k1 F base E₀ w₀ E' a' w' ⟨hc.L,k3,k4⟩ k2 Q hQ) (fun j=>by simp)
  simp only[List.length_singleton]at h1
  rw[List.range'_succ,wpOps_cons]at h1
  unfold wpOp at h1 ⊢
  have hw1:∀y,Region.wanted o y=true:=fun y=>by unfold Region.wanted;rw[hg]
  simp only[List.getElem?_toArray,List.getElem?_cons_zero,hw1,if_true]at h1
  simp only[ho,hw1,if_true]
  rcases h1 with h1|⟨h1,h2⟩
  ·exact .inl (vw (fun a w h=>h) h1)
  ·exact .inr ⟨h1,h2⟩
theorem yg{id:Nat}{l:List Oper}{st:St}{Q:Exit→St→Prop}(hm:P.follows .mixedOrders=true)(h:WA P N L l.toArray l.length (Array.replicate l.length false) st (fun s=>Q .normal s)):W P N L (.region id l.toArray true) st Q:=fun F base E₀ w₀ E a w hc hs=>by
 refine wp_region_any hm ?_
 have hE:Ext w {w with drawn:=w.drawn+1}:=⟨rfl,rfl,rfl,Nat.le_refl _,fun _ _=>rfl⟩
 have:=h.any F base E₀ w₀ E a {w with drawn:=w.drawn+1} (hc.on (.ext hE) (Below.iy hE hs.sat.bl)) ⟨hs.sat.ext hE,hs.tmp.goes (.ext hE),hs.j9,hs.size⟩ (fun e a' w'=>nh F base N E₀ w₀ (Q e) a' w') (fun a' w' h=>h)
 simpa using this
theorem oX{id:Nat}{l:List Oper}{y:Code}{st:St}{Q:Exit→St→Prop}(hm:P.follows .mixedOrders=true)(h:WA P N L l.toArray l.length (Array.replicate l.length false) st (fun s=>W P N L y s Q)):W P N L (.seq (.region id l.toArray true) y) st Q:=aj (yg hm h)
theorem tK{α:Type}{l:List α}{k:Nat}{x:α}(h:l[k]? =some x):l.set k x=l:=by
 obtain⟨hk,rfl⟩:=List.getElem?_eq_some_iff.1 h
 simp
theorem cz{c:Code}{t:cn}{σ:cg}{Q:Exit→St→Prop}(i k e s:Nat){ty:TypeId}{xs:List PV}(hi:σ[i]? =some (some (.cells ty xs)))(hk:xs[k]? =some (.raw (.slice none 0 0)))
  (h:W P N L c ⟨t,(σ++[some (cK.row e s 0 [])]).set i (some (.cells ty (xs.set k (.own σ.length))))⟩ Q):W P N L c ⟨t,σ⟩ Q:=fun F base E₀ w₀ E a w hc hs=>by
 obtain⟨a1,a2,a3⟩:=AR hs.sat e s
 have hil:=(List.getElem?_eq_some_iff.1 hi).1
 have hi':(σ++[some (cK.row e s 0 [])])[i]? =some (some (.cells ty xs)):=by rw[List.getElem?_append_left hil];exact hi
 obtain⟨b,cs,hb,h1,h2,h3⟩:=a1.blk i _ hi'
 obtain⟨cv,hcv,hrep⟩:=h3.get hk
 cases hrep
 obtain⟨b1,b2⟩:=a1.D9 hi' (b:=b) (by rw[hb];rfl) (Nat.le_refl _) (fun _ _ _=>rfl) (bi':=.cells ty (xs.set k (.own σ.length))) ⟨b,cs,hb,h1,h2,by
  have:=h3.set k a3
  rw[tK hcv]at this
  exact this⟩
 exact h F base E₀ w₀ _ a w (hc.on (a2.trans b2) (Below.refl _ _)) ⟨b1,(hs.tmp.goes a2).goes b2,hs.j9,hs.size⟩
inductive Bq (σ:cg) (t:cn):cn→Prop
 |nil:Bq σ t []
 |cons {t':cn} (k:Nat) {p q:PV}:look k t=some p→ay σ p q→Bq σ t t'→Bq σ t ((k,q)::t')
theorem Bq.get{σ:cg}{t t':cn}(h:Bq σ t t'):∀k q,look k t'=some q→∃p,look k t=some p∧ay σ p q:=by
 induction h with
 |nil=>intro k q h;cases h
 |cons k h1 h2 _ ih=>
  intro j q hj
  simp only[look]at hj
  rw[Bool.cond_eq_ite]at hj
  split at hj
  ·rename_i he
   have:=Nat.eq_of_beq_eq_true he
   subst this
   cases hj
   exact⟨_,h1,h2⟩
  ·exact ih j q hj
theorem xp{c:Code}{t t':cn}{σ:cg}{Q:Exit→St→Prop}(hT:Bq σ t t')(h:W P N 0 c ⟨t',[]⟩ Q):W P N 0 c ⟨t,σ⟩ Q:=fun F base E₀ w₀ E a w hc hs=>by
 have hF:∀b,F b→E.M b:=fun b hb=>(hs.sat.mm b).2 (.inl hb)
 refine h F base E₀ w₀ (EF F) a w ⟨hc.L,⟨by rw[hc.L];exact Nat.zero_le _,fun i hi=>by rw[hc.L]at hi;omega,fun b h1 h2 hf=>hc.g.M b h1 h2 (hF b hf),hc.g.size,hc.g.heap⟩,hc.b⟩
  ⟨⟨hs.sat.bl,fun b hb=>⟨(hs.sat.fb b hb).1,fun i blk h=>by simp at h⟩,rfl,fun b=>by simp[EF],fun i blk h=>by simp at h,fun i j bi bj b h=>by simp at h,hs.sat.gl.sub hF⟩,fun k q hq=>?_,hs.j9,hs.size⟩
 obtain⟨p,h1,h2⟩:=hT.get k q hq
 exact h2.rep hs.sat hF (fun b hb=>(hs.sat.fb b hb).2) _ (hs.tmp k p h1)
end
section
variable {P:Program} {N L:Nat} {ops:Array Oper} {Φ:sX} {Ts:List cn} {Ss:List cg} {K:St→Prop}
def A3:Nat→Nat→List Bool
 |0,_=>[]
 |n+1,z=>Nat.beq (z % 2) 1::A3 n (z / 2)
def ot(n z:Nat):Array Bool:=(A3 n z).toArray
def IK(ops:Array Oper)(z:Nat)(l:List (Nat×Nat)):Bool:=
 !l.isEmpty &&(Region.ready .any ops (ot ops.size z)==l.map (·.1))&&l.all fun p=>(A3 ops.size z).set p.1 true==A3 ops.size p.2
def vC(Ts:List cn)(Ss:List cg)(j:Nat)(ks:List Nat)(k:Nat):Option St:=
 match Ts[j]? with
 |some T=>match iX T ks with
  |some t=>match Ss[k]? with
   |some σ=>some ⟨t,σ⟩
   |none=>none
  |none=>none
 |none=>none
def WZ(P:Program)(N L:Nat)(ops:Array Oper)(Ts:List cn)(Ss:List cg)(K:St→Prop)(n z j:Nat)(ks:List Nat)(k:Nat):Prop:=
 ∀st,vC Ts Ss j ks k=some st→WA P N L ops n (ot ops.size z) st K
def AW(P:Program)(N L:Nat)(ops:Array Oper)(K:St→Prop)(n:Nat)(st:St)(l:List (Nat×Nat)):Prop:=
 ∀p∈l,∃o,ops[p.1]? =some o∧o.guard=none∧WR P N L [o].toArray [o] st (fun s=>WA P N L ops n (ot ops.size p.2) s K)
theorem vV{n:Nat}{ls:Array Bool}{st:St}(Ts:List cn)(Ss:List cg)(ks:List Nat)(hr:vC Ts Ss 0 ks 0=some st)(hl:ls=ot ops.size 0)(h:∀M:Nat→Nat→Nat→List Nat→Nat→Prop,(∀ {n z j ks k},WZ P N L ops Ts Ss K n z j ks k→M n z j ks k)→(∀ {n z j ks k},M n z j ks k→WZ P N L ops Ts Ss K n z j ks k)→M n 0 0 ks 0):WA P N L ops n ls st K:=by
 have:=h (WZ P N L ops Ts Ss K) id id st hr
 rwa [←hl]at this
theorem se{z j k:Nat}{ks:List Nat}{st:St}(hr:vC Ts Ss j ks k=some st)(hz:Region.ready .any ops (ot ops.size z)=[])(hk:K st):WZ P N L ops Ts Ss K 0 z j ks k:=fun s hs=>by
 rw[hr]at hs
 cases hs
 exact jW hz hk
theorem aa{n z j k:Nat}{ks:List Nat}{st:St}(l:List (Nat×Nat))(hr:vC Ts Ss j ks k=some st)(h:AW P N L ops K n st l)(hl:IK ops z l=true:=by kernel_rfl):WZ P N L ops Ts Ss K (n+1) z j ks k:=fun s hs=>by
 rw[hr]at hs
 cases hs
 unfold IK at hl
 simp only[Bool.and_eq_true,List.all_eq_true]at hl
 obtain⟨⟨h0,h1⟩,h2⟩:=hl
 have h1:=eq_of_beq h1
 refine⟨?_,fun i hi=>?_⟩
 ·rw[h1]
  intro e
  cases l with
  |nil=>simp at h0
  |cons a l=>simp at e
 ·rw[h1]at hi
  obtain⟨p,hp,rfl⟩:=List.mem_map.1 hi
  obtain⟨o,e1,e2,e3⟩:=h p hp
  refine⟨o,e1,e2,?_⟩
  have e:(ot ops.size z).setIfInBounds p.1 true=ot ops.size p.2:=by
   unfold ot
   rw[←eq_of_beq (h2 p hp)]
   simp
  rw[e]
  exact e3
theorem af{n:Nat}{st:St}:AW P N L ops K n st []:=fun p hp=>by simp at hp
theorem qF{n i z:Nat}{st:St}{o:Oper}{l:List (Nat×Nat)}(ho:ops[i]? =some o)(hg:o.guard=none)(h:WR P N L [o].toArray [o] st (fun s=>WA P N L ops n (ot ops.size z) s K))(hs:AW P N L ops K n st l):AW P N L ops K n st ((i,z)::l):=fun p hp=>by
 rcases List.mem_cons.1 hp with rfl|hp
 ·exact⟨o,ho,hg,h⟩
 ·exact hs p hp
variable {n i z j k:Nat} {ks:List Nat} {o:Oper} {t t':cn} {σ σ':cg} {l:List (Nat×Nat)} {p:PV} {d:Nat}
theorem bx(ho:ops[i]? =some o)(hg:o.guard=none)(hy:bE P σ t o p)(hd:dk N [o].toArray t o=some d)(ha:WZ P N L ops Ts Ss K n z j ks k)(hr:vC Ts Ss j ks k=some ⟨t',σ⟩)(hk:iX ((d,p)::t) ks=some t')(hs:AW P N L ops K n ⟨t,σ⟩ l):AW P N L ops K n ⟨t,σ⟩ ((i,z)::l):=
 qF ho hg (bw hy hd (aE ks hk (ha _ hr))) hs
theorem cm(ho:ops[i]? =some o)(hg:o.guard=none)(hy:cq P σ t o p σ')(hd:dk N [o].toArray t o=some d)(ha:WZ P N L ops Ts Ss K n z j ks k)(hr:vC Ts Ss j ks k=some ⟨t',σ'⟩)(hk:iX ((d,p)::t) ks=some t')(hs:AW P N L ops K n ⟨t,σ⟩ l):AW P N L ops K n ⟨t,σ⟩ ((i,z)::l):=
 qF ho hg (b7 hy hd (aE ks hk (ha _ hr))) hs
theorem pj(ho:ops[i]? =some o)(hg:o.guard=none)(hy:cq P σ t o p σ')(hd:o.dst=none)(hw:fk [o].toArray t o=some true)(ha:WZ P N L ops Ts Ss K n z j ks k)(hr:vC Ts Ss j ks k=some ⟨t',σ'⟩)(hk:iX t ks=some t')(hs:AW P N L ops K n ⟨t,σ⟩ l):AW P N L ops K n ⟨t,σ⟩ ((i,z)::l):=
 qF ho hg (bc hy hd hw (aE ks hk (ha _ hr))) hs
theorem fp[Has P Φ]{f:Nat}{ps:List PV}(ho:ops[i]? =some o)(hg:o.guard=none)(hf:nY Φ t o.op=some (f,ps))(hd:dk N [o].toArray t o=some d)(hc:bU P f ps σ (fun r s=>r=p∧s=σ'))(ha:WZ P N L ops Ts Ss K n z j ks k)(hr:vC Ts Ss j ks k=some ⟨t',σ'⟩)(hk:iX ((d,p)::t) ks=some t')(hs:AW P N L ops K n ⟨t,σ⟩ l):AW P N L ops K n ⟨t,σ⟩ ((i,z)::l):=
 qF ho hg (cN hf hd (bU.mono hc (fun r s h=>by obtain⟨rfl,rfl⟩:=h;exact aE ks hk (ha _ hr)))) hs
def IP(Φ:sX)(ops:Array Oper)(N:Nat)(t:cn)(σ:cg)(i:Nat)(ks:List Nat):Option cn:=
 match ops[i]? with
 |some o=>match o.guard with
  |none=>match ga Φ σ t o.op with
   |some p=>match dk N [o].toArray t o with
    |some d=>iX ((d,p)::t) ks
    |none=>none
   |none=>none
  |some _=>none
 |none=>none
theorem an[hP:Has P Φ](ha:WZ P N L ops Ts Ss K n z j ks k)(hr:vC Ts Ss j ks k=some ⟨t',σ⟩)(h:IP Φ ops N t σ i ks=some t')(hs:AW P N L ops K n ⟨t,σ⟩ l):AW P N L ops K n ⟨t,σ⟩ ((i,z)::l):=by
 unfold IP at h
 split at h
 ·rename_i o ho
  split at h
  ·rename_i hg
   split at h
   ·rename_i p hp
    split at h
    ·rename_i d hd
     exact bx ho hg (aZ hp) hd ha hr h hs
    ·cases h
   ·cases h
  ·cases h
 ·cases h
end
end
end PW
end Go.Proofs.YtnegbdpggideiaaGreatDoor
namespace Go.Proofs.YtnegbdpggideiaaGreatDoor
namespace eY
section
open Go.RowKit Go.Shelf Net
attribute [local go_sem] Oper.semAt_some
structure Kp (G n:Nat) (W W':World):Prop where
 size:W.heap.size≤W'.heap.size
 block:∀b,b<n→b≠G→W'.heap[b]? =W.heap[b]?
theorem Kp.refl(G n:Nat)(W:World):Kp G n W W:=⟨Nat.le_refl _,fun _ _ _=>rfl⟩
theorem Kp.trans{G n:Nat}{A B C:World}(h:Kp G n A B)(k:Kp G n B C):Kp G n A C:=⟨Nat.le_trans h.size k.size,fun b h1 h2=>(k.block b h1 h2).trans (h.block b h1 h2)⟩
theorem Kp.cell{G n:Nat}{W W':World}(h:Kp G n W W'){p:Addr}(hb:p.block<n)(hG:p.block≠G):W'.cell? p=W.cell? p:=World.cell?_of_block (h.block _ hb hG)
theorem ir{W:World}{a:Addr}{v:Value}(o:Obj)(h:W.cell? a=some v):(W.alloc o).cell? a=some v:=cell_kept h (World.grownBy_alloc W o none) (fun r e=>by cases e)
theorem Kp.alloc{G n:Nat}{W:World}(h:n≤W.heap.size)(o:Obj):Kp G n W (W.alloc o):=⟨by simp,fun b h1 _=>Below.heap_alloc _ _ _ (by omega)⟩
def cI(k x:Int)(L:List nM)(i:Nat):Bool:=if k=1 then decide ((i:Int)=x) else if k=2 then decide ((cF L i).a=x)||decide ((cF L i).b=x) else decide ((cF L i).vg=x)
abbrev Ix(N:Nat):= {i:Nat // i<N}
def lK(p:Nat→Bool)(N:Nat):Nat→List (Ix N)
 |0=>[]
 |k+1=>if h:p k=true∧k<N then lK p N k++[⟨k,h.2⟩] else lK p N k
theorem oQ(p:Nat→Bool)(N:Nat):∀k,(lK p N k).length≤k
 |0=>Nat.le_refl _
 |k+1=>by
  simp only[lK]
  have:=oQ p N k
  split
  ·simp;omega
  ·omega
theorem nO{p:Nat→Bool}{N k:Nat}(h:p k=true)(hk:k<N):lK p N (k+1)=lK p N k++[⟨k,hk⟩]:=by simp only[lK];rw[dif_pos ⟨h,hk⟩]
theorem vS{p:Nat→Bool}{N k:Nat}(h:p k=false):lK p N (k+1)=lK p N k:=by simp only[lK];rw[dif_neg (by rw[h];simp)]
set_option maxRecDepth 100000 in
set_option maxHeartbeats 4000000 in
theorem Be(F:Fence)(n:Nat)(hf:F.fn 160)(hro:F.round=none)(hn:1≤n)(l Bt Bc G n₁ b off cap:Nat)(L:List nM)(x:Int)(hreach:L.length≤1000)(hb:b<n₁)(hbG:b≠G)(hc1:Bc<n₁)(hcG:Bc≠G)(J Jx:List (Ix L.length)→World→Prop)
  (hY:∀pre (i:Ix L.length) W,J pre W→pre.length<L.length→YieldAt F (n - 1) Tryz.prog l #[.int .i64 (i.1:Int)] W fun e W'=>
   (e= .returned (.bool true)∧J (pre++[i]) W'∧Kp G n₁ W W')∨(e= .returned (.bool false)∧Jx (pre++[i]) W'))
  (W:World) (hBt:W.cell? ⟨Bt,2,none⟩=some (.slice (some ⟨b,off,none⟩) L.length cap)) (hBk:W.cell? ⟨Bc,0,none⟩=some (.int .i64 1)) (hBx:W.cell? ⟨Bc,1,none⟩=some (.int .i64 x))
  (hcs:∀i,i<L.length→W.cell? ⟨b,off+i*7,none⟩=some (.int .i64 (cF L i).a)∧W.cell? ⟨b,off+i*7+1,none⟩=some (.int .i64 (cF L i).b)∧W.cell? ⟨b,off+i*7+2,none⟩=some (.int .i64 (cF L i).c0)∧W.cell? ⟨b,off+i*7+3,none⟩=some (.int .i64 (cF L i).c1)∧W.cell? ⟨b,off+i*7+4,none⟩=some (.int .i64 (cF L i).cap)∧W.cell? ⟨b,off+i*7+5,none⟩=some (.int .i64 (cF L i).fK)∧W.cell? ⟨b,off+i*7+6,none⟩=some (.int .i64 (cF L i).vg))
  (hsz:n₁≤W.heap.size) (hA:AbidesFrom W.heap.size J) (h0:J [] W):
  CallsIn F n Tryz.prog 160 #[.func (.yield l) #[] #[],.pointer (some ⟨Bt,0,none⟩),.pointer (some ⟨Bc,0,none⟩)] W fun e W'=>(∃v,e= .returned v)∧
   ((∃ys,ys=lK (cI 1 x L) L.length L.length∧J ys W')∨(∃pre,Jx pre W')):=by
 refine callsIn_of_wp Tryz.func160 I hf ?_ hro
 simp only[Tryz.ntmps160,List.size_toArray,List.length_cons,List.length_nil,Nat.reduceAdd,Nat.reduceSub,Array.replicate_succ,Array.replicate_zero,List.push_toArray,List.append_toArray,List.nil_append,List.cons_append]
 gi_wp2
 gi_loopw [10] (fun i wr=>∃k:Nat,k≤L.length∧i= .int .i64 k∧J (lK (cI 1 x L) L.length k) wr∧Kp G n₁ W wr)
  (fun i _=>L.length - (intOf i).toNat)
 case atStart=>exact⟨0,Nat.zero_le _,rfl,h0,Kp.refl _ _ _⟩
 case round=>
  obtain⟨k,hk,rfl,hJs,hnx⟩:=hrel
  by_cases hlt:k<L.length
  ·obtain⟨a0,a1,a2,a3,a4,a5,a6⟩:=hcs k hlt
   have b0:=(hnx.cell (p:=⟨b,off+k*7,none⟩) hb hbG).trans a0
   have b1:=(hnx.cell (p:=⟨b,off+k*7+1,none⟩) hb hbG).trans a1
   have b2:=(hnx.cell (p:=⟨b,off+k*7+2,none⟩) hb hbG).trans a2
   have b3:=(hnx.cell (p:=⟨b,off+k*7+3,none⟩) hb hbG).trans a3
   have b4:=(hnx.cell (p:=⟨b,off+k*7+4,none⟩) hb hbG).trans a4
   have b5:=(hnx.cell (p:=⟨b,off+k*7+5,none⟩) hb hbG).trans a5
   have b6:=(hnx.cell (p:=⟨b,off+k*7+6,none⟩) hb hbG).trans a6
   have c0:=(hnx.cell (p:=⟨Bc,0,none⟩) hc1 hcG).trans hBk
   have c1:=(hnx.cell (p:=⟨Bc,1,none⟩) hc1 hcG).trans hBx
   clear a0 a1 a2 a3 a4 a5 a6
   obtain⟨fa,hfa⟩:∃v,(cF L k).a=v:=⟨_,rfl⟩
   obtain⟨fb,hfb⟩:∃v,(cF L k).b=v:=⟨_,rfl⟩
   obtain⟨fg,hfg⟩:∃v,(cF L k).vg=v:=⟨_,rfl⟩
   rw[hfa]at b0
   rw[hfb]at b1
   rw[hfg]at b6
   have d0:=ir (.cells #[.int .i64 fa,.int .i64 fb,.int .i64 (cF L k).c0,.int .i64 (cF L k).c1,.int .i64 (cF L k).cap,.int .i64 (cF L k).fK,.int .i64 fg] 127) c0
   have d1:=ir (.cells #[.int .i64 fa,.int .i64 fb,.int .i64 (cF L k).c0,.int .i64 (cF L k).c1,.int .i64 (cF L k).cap,.int .i64 (cF L k).fK,.int .i64 fg] 127) c1
   have hJ2:J (lK (cI 1 x L) L.length k) (wr.alloc (.cells #[.int .i64 fa,.int .i64 fb,.int .i64 (cF L k).c0,.int .i64 (cF L k).c1,.int .i64 (cF L k).cap,.int .i64 (cF L k).fK,.int .i64 fg] 127)):=hA _ _ _ none hJs (World.grownBy_alloc _ _ none) (fun r e=>by cases e)
   have hK2:Kp G n₁ W (wr.alloc (.cells #[.int .i64 fa,.int .i64 fb,.int .i64 (cF L k).c0,.int .i64 (cF L k).c1,.int .i64 (cF L k).cap,.int .i64 (cF L k).fK,.int .i64 fg] 127)):=hnx.trans (Kp.alloc (by have:=hnx.size;omega) _)
   by_cases hp:(k:Int)=x
   ·subst hp
    obtain⟨fn,tmps,assign,body,hy,hR⟩:=hY _ ⟨k,hlt⟩ _ hJ2 (by have:=oQ (cI 1 (k:Int) L) L.length k;omega)
    dsimp only at hy
    have hpk:cI 1 (k:Int) L k=true:=by unfold cI;simp
    gi_wp2
    refine hR.mono ?_
    rintro e W3 (⟨rfl,hJ3,hk3⟩|⟨rfl,hJx3⟩)
    ·gi_wp2
     go_roundw
     case rel=>exact⟨k+1,by omega,by simp,by rw[nO hpk hlt];exact hJ3,hK2.trans hk3⟩
     case measure=>simp[intOf];omega
    ·gi_wp2
     refine bodyPost_ret (results_none rfl _ _ _) I ?_
     exact⟨⟨_,rfl⟩,.inr ⟨_,hJx3⟩⟩
   ·have hpk:cI 1 x L k=false:=by unfold cI;simp[hfa,hfb,hfg,hp]
    gi_wp2
    refine⟨fun _ h=>(by cases h),?_⟩
    gi_wp2
    go_roundw
    case rel=>exact⟨k+1,by omega,by simp,by rw[vS hpk];exact hJ2,hK2⟩
    case measure=>simp[intOf];omega
  ·obtain rfl:k=L.length:=by omega
   gi_wp2
   go_end0
   exact⟨⟨_,rfl⟩,.inl ⟨_,rfl,hJs⟩⟩
set_option maxRecDepth 100000 in
set_option maxHeartbeats 4000000 in
theorem Co(F:Fence)(n:Nat)(hf:F.fn 160)(hro:F.round=none)(hn:1≤n)(l Bt Bc G n₁ b off cap:Nat)(L:List nM)(x:Int)(hreach:L.length≤1000)(hb:b<n₁)(hbG:b≠G)(hc1:Bc<n₁)(hcG:Bc≠G)(J Jx:List (Ix L.length)→World→Prop)
  (hY:∀pre (i:Ix L.length) W,J pre W→pre.length<L.length→YieldAt F (n - 1) Tryz.prog l #[.int .i64 (i.1:Int)] W fun e W'=>
   (e= .returned (.bool true)∧J (pre++[i]) W'∧Kp G n₁ W W')∨(e= .returned (.bool false)∧Jx (pre++[i]) W'))
  (W:World) (hBt:W.cell? ⟨Bt,2,none⟩=some (.slice (some ⟨b,off,none⟩) L.length cap)) (hBk:W.cell? ⟨Bc,0,none⟩=some (.int .i64 2)) (hBx:W.cell? ⟨Bc,1,none⟩=some (.int .i64 x))
  (hcs:∀i,i<L.length→W.cell? ⟨b,off+i*7,none⟩=some (.int .i64 (cF L i).a)∧W.cell? ⟨b,off+i*7+1,none⟩=some (.int .i64 (cF L i).b)∧W.cell? ⟨b,off+i*7+2,none⟩=some (.int .i64 (cF L i).c0)∧W.cell? ⟨b,off+i*7+3,none⟩=some (.int .i64 (cF L i).c1)∧W.cell? ⟨b,off+i*7+4,none⟩=some (.int .i64 (cF L i).cap)∧W.cell? ⟨b,off+i*7+5,none⟩=some (.int .i64 (cF L i).fK)∧W.cell? ⟨b,off+i*7+6,none⟩=some (.int .i64 (cF L i).vg))
  (hsz:n₁≤W.heap.size) (hA:AbidesFrom W.heap.size J) (h0:J [] W):
  CallsIn F n Tryz.prog 160 #[.func (.yield l) #[] #[],.pointer (some ⟨Bt,0,none⟩),.pointer (some ⟨Bc,0,none⟩)] W fun e W'=>(∃v,e= .returned v)∧
   ((∃ys,ys=lK (cI 2 x L) L.length L.length∧J ys W')∨(∃pre,Jx pre W')):=by
 refine callsIn_of_wp Tryz.func160 I hf ?_ hro
 simp only[Tryz.ntmps160,List.size_toArray,List.length_cons,List.length_nil,Nat.reduceAdd,Nat.reduceSub,Array.replicate_succ,Array.replicate_zero,List.push_toArray,List.append_toArray,List.nil_append,List.cons_append]
 gi_wp2
 gi_loopw [10] (fun i wr=>∃k:Nat,k≤L.length∧i= .int .i64 k∧J (lK (cI 2 x L) L.length k) wr∧Kp G n₁ W wr)
  (fun i _=>L.length - (intOf i).toNat)
 case atStart=>exact⟨0,Nat.zero_le _,rfl,h0,Kp.refl _ _ _⟩
 case round=>
  obtain⟨k,hk,rfl,hJs,hnx⟩:=hrel
  by_cases hlt:k<L.length
  ·obtain⟨a0,a1,a2,a3,a4,a5,a6⟩:=hcs k hlt
   have b0:=(hnx.cell (p:=⟨b,off+k*7,none⟩) hb hbG).trans a0
   have b1:=(hnx.cell (p:=⟨b,off+k*7+1,none⟩) hb hbG).trans a1
   have b2:=(hnx.cell (p:=⟨b,off+k*7+2,none⟩) hb hbG).trans a2
   have b3:=(hnx.cell (p:=⟨b,off+k*7+3,none⟩) hb hbG).trans a3
   have b4:=(hnx.cell (p:=⟨b,off+k*7+4,none⟩) hb hbG).trans a4
   have b5:=(hnx.cell (p:=⟨b,off+k*7+5,none⟩) hb hbG).trans a5
   have b6:=(hnx.cell (p:=⟨b,off+k*7+6,none⟩) hb hbG).trans a6
   have c0:=(hnx.cell (p:=⟨Bc,0,none⟩) hc1 hcG).trans hBk
   have c1:=(hnx.cell (p:=⟨Bc,1,none⟩) hc1 hcG).trans hBx
   clear a0 a1 a2 a3 a4 a5 a6
   obtain⟨fa,hfa⟩:∃v,(cF L k).a=v:=⟨_,rfl⟩
   obtain⟨fb,hfb⟩:∃v,(cF L k).b=v:=⟨_,rfl⟩
   obtain⟨fg,hfg⟩:∃v,(cF L k).vg=v:=⟨_,rfl⟩
   rw[hfa]at b0
   rw[hfb]at b1
   rw[hfg]at b6
   have d0:=ir (.cells #[.int .i64 fa,.int .i64 fb,.int .i64 (cF L k).c0,.int .i64 (cF L k).c1,.int .i64 (cF L k).cap,.int .i64 (cF L k).fK,.int .i64 fg] 127) c0
   have d1:=ir (.cells #[.int .i64 fa,.int .i64 fb,.int .i64 (cF L k).c0,.int .i64 (cF L k).c1,.int .i64 (cF L k).cap,.int .i64 (cF L k).fK,.int .i64 fg] 127) c1
   have hJ2:J (lK (cI 2 x L) L.length k) (wr.alloc (.cells #[.int .i64 fa,.int .i64 fb,.int .i64 (cF L k).c0,.int .i64 (cF L k).c1,.int .i64 (cF L k).cap,.int .i64 (cF L k).fK,.int .i64 fg] 127)):=hA _ _ _ none hJs (World.grownBy_alloc _ _ none) (fun r e=>by cases e)
   have hK2:Kp G n₁ W (wr.alloc (.cells #[.int .i64 fa,.int .i64 fb,.int .i64 (cF L k).c0,.int .i64 (cF L k).c1,.int .i64 (cF L k).cap,.int .i64 (cF L k).fK,.int .i64 fg] 127)):=hnx.trans (Kp.alloc (by have:=hnx.size;omega) _)
   by_cases hp:fa=x
   ·subst hp
    obtain⟨fn,tmps,assign,body,hy,hR⟩:=hY _ ⟨k,hlt⟩ _ hJ2 (by have:=oQ (cI 2 fa L) L.length k;omega)
    dsimp only at hy
    have hpk:cI 2 fa L k=true:=by unfold cI;simp[hfa,hfb,hfg]
    gi_wp2
    refine hR.mono ?_
    rintro e W3 (⟨rfl,hJ3,hk3⟩|⟨rfl,hJx3⟩)
    ·gi_wp2
     go_roundw
     case rel=>exact⟨k+1,by omega,by simp,by rw[nO hpk hlt];exact hJ3,hK2.trans hk3⟩
     case measure=>simp[intOf];omega
    ·gi_wp2
     refine bodyPost_ret (results_none rfl _ _ _) I ?_
     exact⟨⟨_,rfl⟩,.inr ⟨_,hJx3⟩⟩
   ·by_cases hq:fb=x
    ·subst hq
     obtain⟨fn,tmps,assign,body,hy,hR⟩:=hY _ ⟨k,hlt⟩ _ hJ2 (by have:=oQ (cI 2 fb L) L.length k;omega)
     dsimp only at hy
     have hpk:cI 2 fb L k=true:=by unfold cI;simp[hfa,hfb,hfg]
     gi_wp2
     refine hR.mono ?_
     rintro e W3 (⟨rfl,hJ3,hk3⟩|⟨rfl,hJx3⟩)
     ·gi_wp2
      go_roundw
      case rel=>exact⟨k+1,by omega,by simp,by rw[nO hpk hlt];exact hJ3,hK2.trans hk3⟩
      case measure=>simp[intOf];omega
     ·gi_wp2
      refine bodyPost_ret (results_none rfl _ _ _) I ?_
      exact⟨⟨_,rfl⟩,.inr ⟨_,hJx3⟩⟩
    ·have hpk:cI 2 x L k=false:=by unfold cI;simp[hfa,hfb,hfg,hp,hq]
     gi_wp2
     refine⟨fun _ h=>(by cases h),?_⟩
     gi_wp2
     go_roundw
     case rel=>exact⟨k+1,by omega,by simp,by rw[vS hpk];exact hJ2,hK2⟩
     case measure=>simp[intOf];omega
  ·obtain rfl:k=L.length:=by omega
   gi_wp2
   go_end0
   exact⟨⟨_,rfl⟩,.inl ⟨_,rfl,hJs⟩⟩
set_option maxRecDepth 100000 in
set_option maxHeartbeats 4000000 in
theorem Bh(F:Fence)(n:Nat)(hf:F.fn 160)(hro:F.round=none)(hn:1≤n)(l Bt Bc G n₁ b off cap:Nat)(L:List nM)(x:Int)(hreach:L.length≤1000)(hb:b<n₁)(hbG:b≠G)(hc1:Bc<n₁)(hcG:Bc≠G)(J Jx:List (Ix L.length)→World→Prop)
  (hY:∀pre (i:Ix L.length) W,J pre W→pre.length<L.length→YieldAt F (n - 1) Tryz.prog l #[.int .i64 (i.1:Int)] W fun e W'=>
   (e= .returned (.bool true)∧J (pre++[i]) W'∧Kp G n₁ W W')∨(e= .returned (.bool false)∧Jx (pre++[i]) W'))
  (W:World) (hBt:W.cell? ⟨Bt,2,none⟩=some (.slice (some ⟨b,off,none⟩) L.length cap)) (hBk:W.cell? ⟨Bc,0,none⟩=some (.int .i64 3)) (hBx:W.cell? ⟨Bc,1,none⟩=some (.int .i64 x))
  (hcs:∀i,i<L.length→W.cell? ⟨b,off+i*7,none⟩=some (.int .i64 (cF L i).a)∧W.cell? ⟨b,off+i*7+1,none⟩=some (.int .i64 (cF L i).b)∧W.cell? ⟨b,off+i*7+2,none⟩=some (.int .i64 (cF L i).c0)∧W.cell? ⟨b,off+i*7+3,none⟩=some (.int .i64 (cF L i).c1)∧W.cell? ⟨b,off+i*7+4,none⟩=some (.int .i64 (cF L i).cap)∧W.cell? ⟨b,off+i*7+5,none⟩=some (.int .i64 (cF L i).fK)∧W.cell? ⟨b,off+i*7+6,none⟩=some (.int .i64 (cF L i).vg))
  (hsz:n₁≤W.heap.size) (hA:AbidesFrom W.heap.size J) (h0:J [] W):
  CallsIn F n Tryz.prog 160 #[.func (.yield l) #[] #[],.pointer (some ⟨Bt,0,none⟩),.pointer (some ⟨Bc,0,none⟩)] W fun e W'=>(∃v,e= .returned v)∧
   ((∃ys,ys=lK (cI 3 x L) L.length L.length∧J ys W')∨(∃pre,Jx pre W')):=by
 refine callsIn_of_wp Tryz.func160 I hf ?_ hro
 simp only[Tryz.ntmps160,List.size_toArray,List.length_cons,List.length_nil,Nat.reduceAdd,Nat.reduceSub,Array.replicate_succ,Array.replicate_zero,List.push_toArray,List.append_toArray,List.nil_append,List.cons_append]
 gi_wp2
 gi_loopw [10] (fun i wr=>∃k:Nat,k≤L.length∧i= .int .i64 k∧J (lK (cI 3 x L) L.length k) wr∧Kp G n₁ W wr)
  (fun i _=>L.length - (intOf i).toNat)
 case atStart=>exact⟨0,Nat.zero_le _,rfl,h0,Kp.refl _ _ _⟩
 case round=>
  obtain⟨k,hk,rfl,hJs,hnx⟩:=hrel
  by_cases hlt:k<L.length
  ·obtain⟨a0,a1,a2,a3,a4,a5,a6⟩:=hcs k hlt
   have b0:=(hnx.cell (p:=⟨b,off+k*7,none⟩) hb hbG).trans a0
   have b1:=(hnx.cell (p:=⟨b,off+k*7+1,none⟩) hb hbG).trans a1
   have b2:=(hnx.cell (p:=⟨b,off+k*7+2,none⟩) hb hbG).trans a2
   have b3:=(hnx.cell (p:=⟨b,off+k*7+3,none⟩) hb hbG).trans a3
   have b4:=(hnx.cell (p:=⟨b,off+k*7+4,none⟩) hb hbG).trans a4
   have b5:=(hnx.cell (p:=⟨b,off+k*7+5,none⟩) hb hbG).trans a5
   have b6:=(hnx.cell (p:=⟨b,off+k*7+6,none⟩) hb hbG).trans a6
   have c0:=(hnx.cell (p:=⟨Bc,0,none⟩) hc1 hcG).trans hBk
   have c1:=(hnx.cell (p:=⟨Bc,1,none⟩) hc1 hcG).trans hBx
   clear a0 a1 a2 a3 a4 a5 a6
   obtain⟨fa,hfa⟩:∃v,(cF L k).a=v:=⟨_,rfl⟩
   obtain⟨fb,hfb⟩:∃v,(cF L k).b=v:=⟨_,rfl⟩
   obtain⟨fg,hfg⟩:∃v,(cF L k).vg=v:=⟨_,rfl⟩
   rw[hfa]at b0
   rw[hfb]at b1
   rw[hfg]at b6
   have d0:=ir (.cells #[.int .i64 fa,.int .i64 fb,.int .i64 (cF L k).c0,.int .i64 (cF L k).c1,.int .i64 (cF L k).cap,.int .i64 (cF L k).fK,.int .i64 fg] 127) c0
   have d1:=ir (.cells #[.int .i64 fa,.int .i64 fb,.int .i64 (cF L k).c0,.int .i64 (cF L k).c1,.int .i64 (cF L k).cap,.int .i64 (cF L k).fK,.int .i64 fg] 127) c1
   have hJ2:J (lK (cI 3 x L) L.length k) (wr.alloc (.cells #[.int .i64 fa,.int .i64 fb,.int .i64 (cF L k).c0,.int .i64 (cF L k).c1,.int .i64 (cF L k).cap,.int .i64 (cF L k).fK,.int .i64 fg] 127)):=hA _ _ _ none hJs (World.grownBy_alloc _ _ none) (fun r e=>by cases e)
   have hK2:Kp G n₁ W (wr.alloc (.cells #[.int .i64 fa,.int .i64 fb,.int .i64 (cF L k).c0,.int .i64 (cF L k).c1,.int .i64 (cF L k).cap,.int .i64 (cF L k).fK,.int .i64 fg] 127)):=hnx.trans (Kp.alloc (by have:=hnx.size;omega) _)
   by_cases hp:fg=x
   ·subst hp
    obtain⟨fn,tmps,assign,body,hy,hR⟩:=hY _ ⟨k,hlt⟩ _ hJ2 (by have:=oQ (cI 3 fg L) L.length k;omega)
    dsimp only at hy
    have hpk:cI 3 fg L k=true:=by unfold cI;simp[hfa,hfb,hfg]
    gi_wp2
    refine hR.mono ?_
    rintro e W3 (⟨rfl,hJ3,hk3⟩|⟨rfl,hJx3⟩)
    ·gi_wp2
     go_roundw
     case rel=>exact⟨k+1,by omega,by simp,by rw[nO hpk hlt];exact hJ3,hK2.trans hk3⟩
     case measure=>simp[intOf];omega
    ·gi_wp2
     refine bodyPost_ret (results_none rfl _ _ _) I ?_
     exact⟨⟨_,rfl⟩,.inr ⟨_,hJx3⟩⟩
   ·have hpk:cI 3 x L k=false:=by unfold cI;simp[hfa,hfb,hfg,hp]
    gi_wp2
    refine⟨fun _ h=>(by cases h),?_⟩
    gi_wp2
    go_roundw
    case rel=>exact⟨k+1,by omega,by simp,by rw[vS hpk];exact hJ2,hK2⟩
    case measure=>simp[intOf];omega
  ·obtain rfl:k=L.length:=by omega
   gi_wp2
   go_end0
   exact⟨⟨_,rfl⟩,.inl ⟨_,rfl,hJs⟩⟩
end
end eY
end Go.Proofs.YtnegbdpggideiaaGreatDoor
namespace Go.Proofs.YtnegbdpggideiaaGreatDoor
namespace PW
section
open Go.RowKit cG Mem
section
variable {P:Program} {N L:Nat}
theorem Cp(p:PV)(n:Nat):dS [p] n=List.replicate n p:=by
 induction n with
 |zero=>rfl
 |succ n ih=>simp only[dS,ih,List.replicate_succ];rfl
theorem kl.of{fs:List Nat}{σ:cg}:∀(σ':cg) (js:List Nat),σ'.length=js.length→(∀(i:Nat) b' j,σ'[i]? =some (some b')→js[i]? =some j→∃b,σ[j]? =some (some b)∧Ag fs b' b)→kl fs σ σ' js
 | [],[],_,_=>.nil
 |none::σ',j::js,hl,h=>.gone (kl.of σ' js (by simpa using hl) (fun i b' k h1 h2=>h (i+1) b' k (by simpa using h1) (by simpa using h2)))
 |some b'::σ',j::js,hl,h=>by
  obtain⟨b,h1,h2⟩:=h 0 b' j rfl rfl
  exact .kept h1 h2 (kl.of σ' js (by simpa using hl) (fun i b' k h1 h2=>h (i+1) b' k (by simpa using h1) (by simpa using h2)))
 | [],_::_,hl,_=>by simp at hl
 |_::_,[],hl,_=>by simp at hl
theorem ue:∀(l:List Nat),l.Nodup→j7 l=true
 | [],_=>rfl
 |x::l,h=>by
  rw[List.nodup_cons]at h
  simp[j7,h.1,ue l h.2]
theorem rZ{c:Code}{t:cn}{σ:cg}{Q:Exit→St→Prop}(i k e s:Nat){e1 s1 n:Nat}{xs:List PV}(hi:σ[i]? =some (some (.row e1 s1 n xs)))(hk:xs[k]? =some (.raw (.slice none 0 0)))
  (h:W P N L c ⟨t,(σ++[some (cK.row e s 0 [])]).set i (some (.row e1 s1 n (xs.set k (.own σ.length))))⟩ Q):W P N L c ⟨t,σ⟩ Q:=fun F base E₀ w₀ E a w hc hs=>by
 obtain⟨a1,a2,a3⟩:=AR hs.sat e s
 have hil:=(List.getElem?_eq_some_iff.1 hi).1
 have hi':(σ++[some (cK.row e s 0 [])])[i]? =some (some (.row e1 s1 n xs)):=by rw[List.getElem?_append_left hil];exact hi
 obtain⟨cs,h2,h3⟩:=a1.blk i _ hi'
 obtain⟨cv,hcv,hrep⟩:=h3.get hk
 cases hrep
 have hb:∃b,bF ((E.push (.slice none 0 0)).at_ i)=some b:=by
  rcases h2.2 with hz|⟨g,cap,cur,hv,_⟩
  ·have h4:=h2.1
   rw[hz.2,Nat.zero_mul]at h4
   rw[List.eq_nil_of_length_eq_zero h4]at hcv
   simp at hcv
  ·exact⟨g,by rw[hv];rfl⟩
 obtain⟨b,hb⟩:=hb
 obtain⟨b1,b2⟩:=a1.D9 hi' (b:=b) hb (Nat.le_refl _) (fun _ _ _=>rfl) (bi':=.row e1 s1 n (xs.set k (.own σ.length))) ⟨cs,h2,by
  have:=h3.set k a3
  rw[tK hcv]at this
  exact this⟩
 exact h F base E₀ w₀ _ a w (hc.on (a2.trans b2) (Below.refl _ _)) ⟨b1,(hs.tmp.goes a2).goes b2,hs.j9,hs.size⟩
def gb(n:Nat):List PV:=(List.range n).map fun i=>.own (i+1)
def lF(e1 e:TypeId)(rs:List (List Int)):cg:=some (.row e1 1 rs.length (gb rs.length))::rs.map fun r=>some (.row e 1 r.length (aK r))
def nV(e1 e n k:Nat):cg:=some (.row e1 1 n (gb k++List.replicate (n - k) (PV.raw (.slice none 0 0))))::List.replicate k (some (.row e 1 0 []))
theorem Al{c:Code}{t:cn}{Q:Exit→St→Prop}(e1 e n:Nat)(h:W P N L c ⟨t,nV e1 e n n⟩ Q):∀m k,k+m=n→W P N L c ⟨t,nV e1 e n k⟩ Q
  | 0, k, hk => by obtain rfl : k = n := by omega
                   exact h
  |m+1,k,hk=>by
    have ih:=Al e1 e n h m (k+1) (by omega)
    have hol:(gb k).length=k:=by simp[gb]
    refine rZ 0 k e 1 (e1:=e1) (s1:=1) (n:=n) (xs:=gb k++List.replicate (n - k) (PV.raw (.slice none 0 0))) I ?_ ?_
    · rw[List.getElem?_append_right (by omega),hol,List.getElem?_replicate,if_pos (by omega)]
    · have e2:(nV e1 e n k++[some (cK.row e 1 0 [])]).set 0 (some (.row e1 1 n ((gb k++List.replicate (n - k) (PV.raw (.slice none 0 0))).set k (.own (nV e1 e n k).length))))=nV e1 e n (k+1):=by
        unfold nV
        simp only[List.cons_append,List.set_cons_zero,List.length_cons,List.length_replicate]
        congr 3
        · rw[List.set_append_right _ _ (by omega),hol,Nat.sub_self,show n - k=(n - (k+1))+1 by omega,List.replicate_succ,List.set_cons_zero]
          unfold gb
          rw[List.range_succ,List.map_append]
          simp
        · rw[List.replicate_succ']
      rw[e2];exact ih
theorem pW{c:Code}{t:cn}{Q:Exit→St→Prop}(e1 e n:Nat)(h:W P N L c ⟨t,lF e1 e (List.replicate n [])⟩ Q):W P N L c ⟨t,[some (.row e1 1 n (dS [.raw (.slice none 0 0)] n))]⟩ Q:=by
 have:=Al (P:=P) (N:=N) (L:=L) (c:=c) (t:=t) (Q:=Q) e1 e n (by
  have e2:nV e1 e n n=lF e1 e (List.replicate n []):=by
   unfold nV lF
   simp[aK]
  rw[e2];exact h) n 0 (by omega)
 rw[Cp]
 simpa[nV,gb]using this
def FZ(n k:Nat):List Nat:=0::(List.range n).map fun i=>if i=k then n+1 else i+1
theorem tC(n k:Nat):j7 (FZ n k)=true:=by
 apply ue
 unfold FZ
 rw[List.nodup_cons]
 constructor
 ·simp only[List.mem_map,not_exists,not_and]
  intro i _ h
  split at h<;>omega
 ·rw[List.nodup_iff_pairwise_ne,List.pairwise_map]
  refine List.Pairwise.imp_of_mem ?_ (List.nodup_iff_pairwise_ne.1 List.nodup_range)
  intro i j hi hj hij h
  have:=List.mem_range.1 hi
  have:=List.mem_range.1 hj
  split at h<;>split at h<;>omega
theorem vG(n k i:Nat)(hi:i<n):(FZ n k)[i+1]? =some (if i=k then n+1 else i+1):=by
 unfold FZ
 simp[hi]
theorem ml(n i:Nat)(hi:i<n):(gb n)[i]? =some (.own (i+1)):=by simp[gb,hi]
theorem mg(e1 e:TypeId)(rs:List (List Int))(k:Nat)(hk:k<rs.length):(lF e1 e rs)[k+1]? =some (some (.row e 1 (rs.getD k []).length (aK (rs.getD k [])))):=by
 unfold lF
 simp[hk]
theorem wx(e1 e:TypeId)(rs:List (List Int))(k:Nat)(hk:k<rs.length)(x:Int):
  kl (FZ rs.length k) (((lF e1 e rs).set (k+1) none++[some (cK.row e 1 ((rs.getD k []).length+1) (aK (rs.getD k [])++[.raw (.int .i64 x)]))]).set 0 (some (.row e1 1 rs.length (over (gb rs.length) k [.own (lF e1 e rs).length])))) (lF e1 e (rs.set k (rs.getD k []++[x]))) (FZ rs.length k):=by
 have hol:(gb rs.length).length=rs.length:=by simp[gb]
 have hlen:(lF e1 e rs).length=rs.length+1:=by simp[lF]
 have hov:over (gb rs.length) k [.own (lF e1 e rs).length]=(gb rs.length).set k (.own (rs.length+1)):=by
  unfold over
  rw[hlen,List.set_eq_take_append_cons_drop,if_pos (by omega)]
  simp
 rw[hov]
 apply kl.of
 ·simp[lF,FZ]
 ·intro i b' j h1 h2
  cases i with
  |zero=>
   simp only[lF,List.getElem?_cons_zero,Option.some.injEq,List.length_set]at h1
   simp only[FZ,List.getElem?_cons_zero,Option.some.injEq]at h2
   subst h1;subst h2
   refine⟨.row e1 1 rs.length ((gb rs.length).set k (.own (rs.length+1))),by simp[lF],.row ⟨by simp,fun i a b k1 k2=>?_⟩⟩
   have hi:i<rs.length:=by have:=(List.getElem?_eq_some_iff.1 k1).1;omega
   rw[ml _ _ hi]at k1
   cases k1
   rw[List.getElem?_set]at k2
   split at k2
   ·rename_i e';subst e'
    rw[if_pos (by omega)]at k2
    cases k2
    exact .own (by rw[vG _ _ _ hi,if_pos rfl])
   ·rename_i e'
    rw[ml _ _ hi]at k2
    cases k2
    exact .own (by rw[vG _ _ _ hi,if_neg (Ne.symm e')])
  |succ i=>
   have hi:i<rs.length:=by
    have:=(List.getElem?_eq_some_iff.1 h1).1
    simp[lF]at this
    exact this
   rw[mg _ _ _ _ (by simpa using hi)]at h1
   rw[vG _ _ _ hi]at h2
   cases h1
   by_cases e':i=k
   ·rw[if_pos e']at h2
    cases h2
    subst e'
    refine⟨.row e 1 ((rs.getD i []).length+1) (aK (rs.getD i [])++[.raw (.int .i64 x)]),?_,?_⟩
    ·rw[List.getElem?_set_ne (by omega),List.getElem?_append_right (by simp[hlen])]
     simp[hlen]
    ·have hg:(rs.set i (rs.getD i []++[x])).getD i []=rs.getD i []++[x]:=by simp[List.getD_eq_getElem?_getD,hi]
     rw[hg,dE]
     exact .fF (by simp) I
   ·rw[if_neg e']at h2
    cases h2
    refine⟨.row e 1 (rs.getD i []).length (aK (rs.getD i [])),?_,?_⟩
    ·rw[List.getElem?_set_ne (by omega),List.getElem?_append_left (by simp[hlen];omega),List.getElem?_set_ne (by omega),mg _ _ _ _ hi]
    ·have hg:(rs.set k (rs.getD k []++[x])).getD i []=rs.getD i []:=by simp[List.getD_eq_getElem?_getD,List.getElem?_set,Ne.symm e']
     rw[hg]
     exact .row aI.pure
def kC(rs:List (List Int)):PV:=.slice rs.length (rs.map av)
instance (rs:List (List Int)):aL (rs.map av):=aL.map _ _ fun _=>inferInstance
instance (rs:List (List Int)):IsPure (kC rs):=by unfold kC;infer_instance
theorem wG(e1 e:TypeId)(rs:List (List Int)):ay (lF e1 e rs) (.own 0) (kC rs):=by
 refine ay.fy rfl ⟨by simp[gb],fun i a b h1 h2=>?_⟩
 have hi:i<rs.length:=by have:=(List.getElem?_eq_some_iff.1 h2).1;simpa using this
 rw[ml _ _ hi]at h1
 cases h1
 have:b=av (rs.getD i []):=by simpa[hi]using h2.symm
 subst this
 exact ay.fy (mg e1 e rs i hi) ah.pure
def dH(f:Nat→Int)(n k:Nat):List (List Int):=(List.range n).map fun(m:Nat)=>((List.range k).filter fun a=>decide (f a=(m:Int))).map Int.ofNat
theorem fv(f:Nat→Int)(n k:Nat):(dH f n k).length=n:=by simp[dH]
theorem jn(f:Nat→Int)(n k m:Nat)(hm:m<n):(dH f n k).getD m []=((List.range k).filter fun a=>decide (f a=(m:Int))).map Int.ofNat:=by simp[dH,hm]
theorem rr(f:Nat→Int)(n:Nat):dH f n 0=List.replicate n []:=by
 apply List.ext_getElem?
 intro i
 simp only[dH,List.range_zero,List.filter_nil,List.map_nil,List.getElem?_map,List.getElem?_replicate]
 by_cases h:i<n<;>simp[h]
theorem sE(f:Nat→Int)(n k m:Nat)(hm:f k=(m:Int))(hmn:m<n):dH f n (k+1)=(dH f n k).set m ((dH f n k).getD m []++[(k:Int)]):=by
 apply List.ext_getElem?
 intro i
 rw[List.getElem?_set]
 by_cases h:i<n
 ·have hl:i<(dH f n k).length:=by rw[fv];exact h
  by_cases e:m=i
  ·subst e
   rw[if_pos rfl,if_pos hl,jn _ _ _ _ h]
   simp[dH,h,List.range_succ,List.filter_append,hm]
  ·rw[if_neg e]
   simp[dH,h,List.range_succ,List.filter_append,hm]
   omega
 ·have hl:¬i<(dH f n k).length:=by rw[fv];exact h
  have:(dH f n (k+1))[i]? =none:=by simp[dH,h]
  rw[this]
  split
  ·rw[if_neg (by omega)]
  ·simp[dH,h]
end
open Net
theorem JJ{P:Program}{σ:cg}{t:cn}{o:Oper}{x y:Operand}{ty tz:TypeId}{a:Nat}(ho:o.op= .binOp .xor ty x y tz)(hx:aG t x=some (num a))(hy:aG t y=some (num 1))(ha:a<9223372036854775806):bE P σ t o (num (flip a:Int)):=
 lz ho hx hy fun w=>by
  have h:IntKind.i64.wrap ((BitVec.ofInt IntKind.i64.bits (a:Int) ^^^ BitVec.ofInt IntKind.i64.bits 1).toNat:Int)=(flip a:Int):=HS a ha
  simp only[binOp,Op.intBits,h]
  rfl
theorem zp(a:Nat):((a:Int)).tdiv 2=((a / 2:Nat):Int):=rfl
theorem El(a:Nat):((a:Int)).tmod 2=((a % 2:Nat):Int):=rfl
theorem aT{T:ak}{n:Int}:bu T n=true↔0≤n∧n<T.nodes:=by simp[bu]
theorem bT{T:ak}(h:aq T=true):T.ae.length≤256:=(fY h).2.2.1
theorem tt{b:Prop}[Decidable b](h:decide b=true):b:=of_decide_eq_true h
theorem ff{b:Prop}[Decidable b](h:decide b=false):¬b:=of_decide_eq_false h
theorem jM{E:Env}{w:World}{v:Value}{n:Nat}{xs:List PV}(h:cM E w v (.slice n xs)):n≤maxLen:=by
 obtain⟨a,c,_,h1,h2⟩:=qz h
 omega
theorem kW{P:Program}{f:FuncId}{ps:List PV}{R:PV→Prop}(h:(∃E w vs,bf E w vs ps)→Can P f ps R):Can P f ps R:=fun F w vs hF hG hR=>h ⟨_,_,_,hR⟩ F w vs hF hG hR
theorem xz{P:Program}{f:FuncId}{T:ak}{ps:List PV}{R:PV→Prop}(h:T.ae.length≤maxLen→T.over.length≤maxLen→Can P f (aP T::ps) R):Can P f (aP T::ps) R:=by
 refine kW fun⟨E,w,vs,hR⟩=>?_
 obtain⟨v,_,hv⟩:=hR.get (i:=0) I
 unfold aP bC at hv
 cases hv with
 |agg cs _ hl hr=>
  have hr:bf E w cs.toList _:=⟨by simpa using hl,fun i x u h1 h2=>hr i x u (by simpa using h1) h2⟩
  obtain⟨v1,_,h1⟩:=hr.get (i:=1) I
  obtain⟨v2,_,h2⟩:=hr.get (i:=2) I
  exact h (jM h2) (jM h1)
theorem iG(T:ak)(hl:T.ae.length≤4611686018427387903):Can Tryz.prog 113 [aP T] (· =num (2*(T.ae.length:Int))):=by
 exact aH Tryz.func113 I Tryz.ntmps113 I<|ab (.a 2 I<|.k [1] I)<|ab (.a 3 I<|.v (aU I) I<|.a 1 I<|.k [2] I)<|ao<|⟨_,_,az.of I,ay.pure,rfl⟩
theorem jt(T:ak)(a:Nat)(ha:a<2*T.ae.length):Can Tryz.prog 79 [aP T,num a] (· =num (bm T a)):=by
 have hi:a / 2<T.ae.length:=by omega
 refine xz fun hm _=>?_
 unfold maxLen at hm
 refine aH Tryz.func79 I Tryz.ntmps79 I<|ab (.a 2 I<|.k [1,2] I)<|aj<|ab (.a 1 I<|.v (uH I I I (by decide) (El a)) I<|.a 1 I<|.k [1,2,7] I)<|ag I (fun hc=>?_) (fun hc=>?_)
 ·have h2:a % 2=0:=by have:=tt hc;omega
  unfold bm
  rw[if_pos h2]
  exact ab (.a 3 I<|.v (iV I I I (by decide) (zp a) (by unfold In64;omega)) I<|.v (aN (a / 2*7) I) I<|.a 1 I<|.v (aJ I (eP T.ae (a / 2) 0 hi (by omega))) I<|.a 1 I<|.k [4] I)<|ao<|⟨_,_,az.of I,ay.pure,rfl⟩
 ·have h2:¬a % 2=0:=by have:=ff hc;omega
  unfold bm
  rw[if_neg h2]
  exact ai<|ab (.a 3 I<|.v (iV I I I (by decide) (zp a) (by unfold In64;omega)) I<|.v (aN (a / 2*7) I) I<|.a 1 I<|.v (aJ I (eP T.ae (a / 2) 1 hi (by omega))) I<|.a 1 I<|.k [4] I)<|ao<|⟨_,_,az.of I,ay.pure,rfl⟩
theorem fZ(T:ak)(a:Nat)(ha:a<2*T.ae.length)(hl:T.ae.length≤4611686018427387902):Can Tryz.prog 150 [aP T,num a] (· =num (aS T a)):=by
 exact aH Tryz.func150 I Tryz.ntmps150 I<|ab (.a 2 I<|.k [1,2] I)<|ab (.a 2 I<|.v (JJ I I I (by omega)) I<|.c rfl (jt T (Net.flip a) (by unfold Net.flip;split<;>omega)) I<|.a 1 I<|.k [4] I)<|ao<|⟨_,_,az.of I,ay.pure,rfl⟩
theorem we(T:ak)(a:Nat)(hi:a / 2<T.ae.length):(iH T.ae)[a / 2*7+2+a % 2]? =some (num (cp T a)):=by
 rw[Nat.add_assoc,eP T.ae (a / 2) (2+a % 2) hi (by omega)]
 unfold cp
 rcases Nat.mod_two_eq_zero_or_one a with h|h<;>rw[h]
 ·rfl
 ·rfl
theorem mn(T:ak)(a:Nat)(ha:a<2*T.ae.length):Can Tryz.prog 149 [aP T,num a] (· =num (cp T a)):=by
 have hi:a / 2<T.ae.length:=by omega
 refine xz fun hm _=>?_
 unfold maxLen at hm
 exact aH Tryz.func149 I Tryz.ntmps149 I<|ab (.a 2 I<|.k [1,2] I)<|ab (.a 3 I<|.v (iV I I I (by decide) (zp a) (by unfold In64;omega)) I<|.a 1 I<|.v (uH I I I (by decide) (El a)) I<|.v (aN (a / 2*7) I) I<|.a 1 I<|.v (aN (a % 2) I) I<|.v (aJ I (we T a hi)) I<|.a 1 I<|.k [4] I)<|ao<|⟨_,_,az.of I,ay.pure,rfl⟩
theorem ox(T:ak)(n:Nat)(hn:T.over.length=0∨n<T.over.length):Can Tryz.prog 161 [aP T,num n] (· =flag (dp T n)):=by
 obtain⟨p1,hp1⟩:∃q,decide (0<(T.over.length:Int))=q:=⟨_,rfl⟩
 obtain⟨p2,hp2⟩:∃q,T.over.getD n false=q:=⟨_,rfl⟩
 have he:dp T n=(p1&&p2):=by
  unfold dp
  cases p1
  ·have:=ff hp1
   rw[List.getD_eq_getElem?_getD,List.getElem?_eq_none (by omega)];rfl
  ·exact hp2
 rw[he]
 refine aH Tryz.func161 I Tryz.ntmps161 I<|ab (.a 2 I<|.k [1,2] I)<|bz 4 (.raw (.bool (p1&&p2))) [] I ?_ ?_
 ·refine .a 3 I<|.v (cf I (hp1)) I<|.a 1 I<|?_
  cases p1
  ·exact .a 7 I<|.k [4] I
  ·exact .a 3 I<|.v (aN (n) I (by omega) (by have:=tt hp1;omega)) I<|.v (aJ I (show _=some (flag p2) by rw[dt _ n (by have:=tt hp1;omega),hp2])) I<|.a 2 I<|.k [4] I
 exact ao<|⟨_,_,az.of I,ay.pure,rfl⟩
theorem dJ(T:ak)(n:Int):Can Tryz.prog 100 [aP T,num n] (· =flag (bu T n)):=by
 obtain⟨p1,hp1⟩:∃q,decide (0≤n)=q:=⟨_,rfl⟩
 obtain⟨p2,hp2⟩:∃q,decide (n<T.nodes)=q:=⟨_,rfl⟩
 have he:bu T n=(p1&&p2):=by rw[←hp1,←hp2];unfold bu;exact Bool.decide_and _ _
 rw[he]
 refine aH Tryz.func100 I Tryz.ntmps100 I<|ab (.a 2 I<|.k [1,2] I)<|bz 4 (.raw (.bool (p1&&p2))) [] I ?_ ?_
 ·refine .a 1 I<|.v (cf I (hp1)) I<|.a 1 I<|?_
  cases p1
  ·exact .a 6 I<|.k [4] I
  ·exact .a 3 I<|.v (cf I (hp2)) I<|.a 2 I<|.k [4] I
 exact ao<|⟨_,_,az.of I,ay.pure,rfl⟩
theorem qw(T:ak)(hl:T.ae.length≤4611686018427387903)(a:Int):Can Tryz.prog 103 [aP T,num a] (· =flag (eQ T a)):=by
 obtain⟨p1,hp1⟩:∃q,decide (0≤a)=q:=⟨_,rfl⟩
 obtain⟨p2,hp2⟩:∃q,decide (a<2*(T.ae.length:Int))=q:=⟨_,rfl⟩
 have he:eQ T a=(p1&&p2):=by rw[←hp1,←hp2];unfold eQ;exact Bool.decide_and _ _
 rw[he]
 refine aH Tryz.func103 I Tryz.ntmps103 I<|ab (.a 2 I<|.k [1,2] I)<|bz 4 (.raw (.bool (p1&&p2))) [] I ?_ ?_
 ·refine .a 1 I<|.v (cf I (hp1)) I<|.a 1 I<|?_
  cases p1
  ·exact .a 6 I<|.k [4] I
  ·exact .a 2 I<|.c rfl (iG T hl) I<|.v (cf I (hp2)) I<|.a 2 I<|.k [4] I
 exact ao<|⟨_,_,az.of I,ay.pure,rfl⟩
theorem me(T:ak)(D:List Bool)(hl:T.ae.length≤4611686018427387903):Can Tryz.prog 108 [aP T,bn D] (· =flag (bW T D)):=by
 obtain⟨p1,hp1⟩:∃q,decide ((D.length:Int)=0)=q:=⟨_,rfl⟩
 obtain⟨p2,hp2⟩:∃q,decide ((D.length:Int)=2*(T.ae.length:Int))=q:=⟨_,rfl⟩
 have he:bW T D=(p1||p2):=by rw[←hp1,←hp2];unfold bW;rw[←Bool.decide_or];exact decide_eq_decide.2 (by omega)
 rw[he]
 refine aH Tryz.func108 I Tryz.ntmps108 I<|ab (.a 2 I<|.k [1,2] I)<|bz 4 (.raw (.bool (p1||p2))) [] I ?_ ?_
 ·refine .a 2 I<|.v (cf I (hp1)) I<|.a 1 I<|?_
  cases p1
  ·exact .a 3 I<|.c rfl (iG T hl) I<|.v (cf I (hp2)) I<|.a 2 I<|.k [4] I
  ·exact .a 7 I<|.k [4] I
 exact ao<|⟨_,_,az.of I,ay.pure,rfl⟩
theorem AF{D:List Bool}{a:Nat}{p1 p2:Bool}(hp1:decide (0<(D.length:Int))=p1)(hp2:D.getD a false=p2):aQ D a=(p1&&p2):=by
 unfold aQ
 cases p1
 ·have:=ff hp1
  rw[List.getD_eq_getElem?_getD,List.getElem?_eq_none (by omega)];rfl
 ·exact hp2
theorem jy(D:List Bool)(a:Nat)(ha:D.length=0∨a<D.length):Can Tryz.prog 110 [bn D,num a] (· =flag (aQ D a)):=by
 obtain⟨p1,hp1⟩:∃q,decide (0<(D.length:Int))=q:=⟨_,rfl⟩
 obtain⟨p2,hp2⟩:∃q,D.getD a false=q:=⟨_,rfl⟩
 rw[AF hp1 hp2]
 refine aH Tryz.func110 I Tryz.ntmps110 I<|ab (.a 1 I<|.k [0,1] I)<|bz 4 (.raw (.bool (p1&&p2))) [] I ?_ ?_
 ·refine .a 2 I<|.v (cf I (hp1)) I<|.a 1 I<|?_
  cases p1
  ·exact .a 6 I<|.k [4] I
  ·exact .a 2 I<|.v (aN (a) I (by omega) (by have:=tt hp1;omega)) I<|.v (aJ I (show _=some (flag p2) by rw[dt _ a (by have:=tt hp1;omega),hp2])) I<|.a 2 I<|.k [4] I
 exact ao<|⟨_,_,az.of I,ay.pure,rfl⟩
theorem hZ(n lo hi:Int):Can Tryz.prog 146 [num n,num lo,num hi] (· =flag (bK n lo hi)):=by
 obtain⟨p1,hp1⟩:∃q,decide (lo≤n)=q:=⟨_,rfl⟩
 obtain⟨p2,hp2⟩:∃q,decide (n≤hi)=q:=⟨_,rfl⟩
 have he:bK n lo hi=(p1&&p2):=by rw[←hp1,←hp2];unfold bK;exact Bool.decide_and _ _
 rw[he]
 refine aH Tryz.func146 I Tryz.ntmps146 I<|ab (.a 1 I<|.k [0,1,2] I)<|bz 6 (.raw (.bool (p1&&p2))) [] I ?_ ?_
 ·refine .a 2 I<|.v (cf I (hp1)) I<|.a 1 I<|?_
  cases p1
  ·exact .a 5 I<|.k [6] I
  ·exact .a 2 I<|.v (cf I (hp2)) I<|.a 2 I<|.k [6] I
 exact ao<|⟨_,_,az.of I,ay.pure,rfl⟩
set_option maxHeartbeats 2000000 in
theorem eJ(T:ak):Can Tryz.prog 107 [aP T] (· =flag (aq T)):=by
  obtain⟨p0,hp0⟩:∃q,bK T.nodes 1 64=q:=⟨_,rfl⟩
  obtain⟨p1,hp1⟩:∃q,decide ((T.over.length:Int)≠0)=q:=⟨_,rfl⟩
  obtain⟨p2,hp2⟩:∃q,decide ((T.over.length:Int)≠T.nodes)=q:=⟨_,rfl⟩
  obtain⟨p3,hp3⟩:∃q,decide (256<(T.ae.length:Int))=q:=⟨_,rfl⟩
  have hw:Can Tryz.prog 146 [num T.nodes,num 1,num 64] (· =flag p0):=by rw[←hp0];exact hZ _ _ _
  refine aH Tryz.func107 I Tryz.ntmps107 I<|ab (.a 2 I<|.k [1] I)<|aj<|bz 14 (.raw (.bool ((!p0)||p3))) [1] I ?_ ?_
  · refine .a 2 I<|.c rfl (hw) I<|.a 2 I<|?_
    cases p0
    · exact .a 5 I<|.k [14,1] I
    · exact .a 3 I<|.v (cf I (hp3)) I<|.a 1 I<|.k [14,1] I
  refine ag I (fun hc=>?_) (fun hc=>?_)
  · have hv:aq T=false:=by
      rcases Bool.or_eq_true_iff.1 hc with h|h
      · exact(ia T (.inl (by rw[hp0];simpa using h))).symm
      · rw[h]at hp3;exact(ia T (.inr (.inl (by have:=tt hp3;omega)))).symm
    rw[hv]
    exact ab (.a 1 I<|.k [2] I)<|ao<|⟨_,_,az.of I,ay.pure,rfl⟩
  · obtain ⟨c1, c2⟩ := Bool.or_eq_false_iff.1 hc
    have h0:p0=true:=by simpa using c1
    rw[h0]at hp0
    rw[c2]at hp3
    have hle:T.ae.length≤256:=by have:=ff hp3;omega
    clear hw hc c1
    refine ai<|aj<|bz 26 (.raw (.bool (p1&&p2))) [1] I ?_ ?_
    · refine .a 3 I<|.v (cf I (hp1)) I<|.a 1 I<|?_
      cases p1
      · exact .a 7 I<|.k [26,1] I
      · exact .a 5 I<|.v (cf I (hp2)) I<|.a 1 I<|.k [26,1] I
    refine ag I (fun hc=>?_) (fun hc=>?_)
    · have hv:aq T=false:=by
        obtain⟨a1,a2⟩:=Bool.and_eq_true_iff.1 hc
        rw[a1]at hp1
        rw[a2]at hp2
        exact(ia T (.inr (.inr ⟨by have:=tt hp1;omega,tt hp2⟩))).symm
      rw[hv]
      exact ab (.a 1 I<|.k [2] I)<|ao<|⟨_,_,az.of I,ay.pure,rfl⟩
    · have hov:T.over.length=0∨(T.over.length:Int)=T.nodes:=by
        rcases Bool.and_eq_false_iff.1 hc with h|h
        · rw[h]at hp1;exact .inl (by have:=ff hp1;omega)
        · rw[h]at hp2;exact .inr (by have:=ff hp2;omega)
      rw[rm T hp0 hle hov]
      clear hc hp1 hp2
      refine ai<|aj<|ab (.a 4 I<|.k [1,29,30] I)<|au<|eH [1,29,30] I<|bq (fun r s=>∃k,k≤T.ae.length∧r=T.ae.length - k∧(T.ae.take k).all (iU T)=true∧s=⟨[(1,.bb (bC T) 0),(29,num T.ae.length),(30,num k)],[]⟩) T.ae.length ⟨0,by omega,by omega,by simp,rfl⟩ ?_
      rintro r s ⟨k,hk,rfl,hall,rfl⟩
      refine ab (.a 1 I<|.k [1,29,30,31] I)<|aj<|ag I (fun hc=>?_) (fun hc=>?_)
      · have hlt:k<T.ae.length:=by have:=tt hc;omega
        have g:∀j,j<7→(iH T.ae)[k*7+j]? =(kh (cF T.ae k))[j]? :=fun j hj=>eP T.ae k j hlt hj
        obtain⟨q1,g1⟩:∃q,decide ((cF T.ae k).a=(cF T.ae k).b)=q:=⟨_,rfl⟩
        obtain⟨q2,g2⟩:∃q,bu T (cF T.ae k).a=q:=⟨_,rfl⟩
        obtain⟨q3,g3⟩:∃q,bu T (cF T.ae k).b=q:=⟨_,rfl⟩
        obtain⟨q4,g4⟩:∃q,bK (cF T.ae k).c0 1 65535=q:=⟨_,rfl⟩
        obtain⟨q5,g5⟩:∃q,bK (cF T.ae k).c1 1 65535=q:=⟨_,rfl⟩
        obtain⟨q6,g6⟩:∃q,bK (cF T.ae k).cap 0 1048576=q:=⟨_,rfl⟩
        obtain⟨q7,g7⟩:∃q,bK (cF T.ae k).fK 1 65536=q:=⟨_,rfl⟩
        obtain⟨q8,g8⟩:∃q,bK (cF T.ae k).vg 0 64=q:=⟨_,rfl⟩
        have hOK:=uB (T:=T) (l:=cF T.ae k) (q1:=q1) (by rw[←g1];exact Bool.eq_iff_iff.2 (by simp)) g2 g3 g4 g5 g6 g7 g8
        have hall':=wE (iU T) T.ae k hlt
        have hno:=yt (iU T) T.ae k hlt
        rw[hOK]at hall' hno
        have n2:=dJ T (cF T.ae k).a
        rw[g2]at n2
        have n3:=dJ T (cF T.ae k).b
        rw[g3]at n3
        have n4:=hZ (cF T.ae k).c0 1 65535
        rw[g4]at n4
        have n5:=hZ (cF T.ae k).c1 1 65535
        rw[g5]at n5
        have n6:=hZ (cF T.ae k).cap 0 1048576
        rw[g6]at n6
        have n7:=hZ (cF T.ae k).fK 1 65536
        rw[g7]at n7
        have n8:=hZ (cF T.ae k).vg 0 64
        rw[g8]at n8
        clear hOK g2 g3 g4 g5 g6 g7 g8
        refine ai<|aj<|au<|ab (.a 2 I<|.k [1,3,29,30] I)<|ab (.a 3 I<|.v (aN (k*7) I) I<|.a 1 I<|.k [1,4,29,30] I)<|aj<|iJ mixed (by kernel_rfl) 63 (.raw (.bool ((q1|| !q2)|| !q3))) [1,4,29,30] I ?_ ?_
        · refine .a 3 I<|.v [39] (aJ I (g 0 (by omega))) I I<|.a 3 I<|.v [43] (aJ I (g 1 (by omega))) I I<|.v [40,44] (cf I (g1)) I I<|.a 1 I<|?_
          cases q1
          · refine .a 4 I<|.v [50] (aJ I (g 0 (by omega))) I I<|.v [47,51] (dU I (n2)) I I<|.a 3 I<|?_
            cases q2
            · exact .a 8 I<|.k [63,1,4,29,30] I
            · exact .a 4 I<|.v [59] (aJ I (g 1 (by omega))) I I<|.v [56,60] (dU I (n3)) I I<|.a 2 I<|.k [63,1,4,29,30] I
          · exact .a 17 I<|.k [63,1,4,29,30] I
        refine ag I (fun hx=>?_) (fun hx=>?_)
        · have hno':=hno (by cases q1<;>cases q2<;>cases q3<;>simp_all)
          rw[hno']
          exact ab (.a 1 I<|.k [2] I)<|ao<|⟨_,_,az.of I,ay.pure,rfl⟩
        · have e1:q1=false:=by cases q1<;>simp_all
          have e2:q2=true:=by cases q2<;>simp_all
          have e3:q3=true:=by cases q3<;>simp_all
          subst e1 e2 e3
          clear n2 n3 hx
          refine ai<|aj<|bz 79 (.raw (.bool ((!q4)|| !q5))) [1,4,29,30] I ?_ ?_
          · refine .a 3 I<|.v (aN (0) I) I<|.v (aJ I (g 2 (by omega))) I<|.c rfl (n4) I<|.a 2 I<|?_
            cases q4
            · exact .a 8 I<|.k [79,1,4,29,30] I
            · exact .a 3 I<|.v (aN (1) I) I<|.v (aJ I (g 3 (by omega))) I<|.c rfl (n5) I<|.a 2 I<|.k [79,1,4,29,30] I
          refine ag I (fun hx=>?_) (fun hx=>?_)
          · have hno':=hno (by cases q4<;>cases q5<;>simp_all)
            rw[hno']
            exact ab (.a 1 I<|.k [2] I)<|ao<|⟨_,_,az.of I,ay.pure,rfl⟩
          · have e1:q4=true:=by cases q4<;>simp_all
            have e2:q5=true:=by cases q5<;>simp_all
            subst e1 e2
            clear n4 n5 hx
            refine ai<|bz 101 (.raw (.bool (((!q6)|| !q7)|| !q8))) [1,29,30] I ?_ ?_
            · refine .a 3 I<|.v (aJ I (g 4 (by omega))) I<|.c rfl (n6) I<|.a 2 I<|?_
              cases q6
              · exact .a 15 I<|.k [101,1,29,30] I
              · refine .a 3 I<|.v (aJ I (g 5 (by omega))) I<|.c rfl (n7) I<|.a 3 I<|?_
                cases q7
                · exact .a 7 I<|.k [101,1,29,30] I
                · exact .a 3 I<|.v (aJ I (g 6 (by omega))) I<|.c rfl (n8) I<|.a 2 I<|.k [101,1,29,30] I
            refine ag I (fun hx=>?_) (fun hx=>?_)
            · have hno':=hno (by cases q6<;>cases q7<;>cases q8<;>simp_all)
              rw[hno']
              exact ab (.a 1 I<|.k [2] I)<|ao<|⟨_,_,az.of I,ay.pure,rfl⟩
            · have e1:q6=true:=by cases q6<;>simp_all
              have e2:q7=true:=by cases q7<;>simp_all
              have e3:q8=true:=by cases q8<;>simp_all
              subst e1 e2 e3
              clear n6 n7 n8 hx
              refine ai<|aC (.v (aU I) I<|.a 1 I<|.k [1,29,30] I) ?_
              exact⟨T.ae.length - (k+1),by omega,k+1,by omega,rfl,by rw[hall',hall];rfl,rfl⟩
      · have hke:k=T.ae.length:=by have:=ff hc;omega
        subst hke
        rw[List.take_length]at hall
        rw[hall]
        exact bd<|ab (.a 1 I<|.k [2] I)<|ao<|⟨_,_,az.of I,ay.pure,rfl⟩
section
variable {P:Program} {ops:Array Oper} {Q:Exit→Act→World→Prop}
theorem yH{l n:Nat}{o:Oper}{a:Act}{w:World}{K K':Act→World→Prop}(hnd:∀c,o.op≠ .defer c)(hL:¬LetsOut Q)(hK:∀a w,K a w→K' a w)(h:o.wp P a w K Q):o.wpIn (Fence.wide.inRound l) n P a w K' Q:=by
 refine⟨fun _ _=>trivial,?_⟩
 rw[Fence.inRound_round,Oper.semAt_eq _ _ _ hnd]
 unfold Oper.wp at h
 generalize (execOp a.eval o).run P w=x at*
 cases x with
 |ok x w'=>
  cases x<;>simp only[Oper.uponIn,Oper.upon]at h ⊢
  case value v=>exact hK _ _ h
  case skip=>exact hK _ _ h
  case defer d=>exact hK _ _ h
  case enter f args=>exact⟨fun h=>by simp[Fence.wide]at h,CallsIn.inRound l (callsIn_wide.2 (h.mono fun e w'' he=>by cases e<;>first|exact hK _ _ he|exact he))⟩
  case row r args=>exact⟨fun h=>by simp[Fence.wide]at h,fun c cs _=>by
   obtain⟨v,w',r,s⟩:=h c cs
   exact⟨v,w',hK _ _ r,stepsIn_wide.2 s⟩⟩
  all_goals exact h.elim
 |halt x w'=>cases x<;>simp only[Oper.uponIn,Oper.upon]at h ⊢ <;>exact h
theorem jS{l n:Nat}(hnd:∀(i:Nat) (o:Oper),ops[i]? =some o→∀c,o.op≠ .defer c)(hL:¬LetsOut Q):∀(fuel:Nat) (ls:Array Bool) (a:Act) (w:World),wpAny P .any ops Q fuel ls a w→wpAnyIn (Fence.wide.inRound l) n P .any ops Q fuel ls a w
 |0,ls,a,w,h=>h
 |fuel+1,ls,a,w,h=>by
  refine⟨h.1,fun i hi=>?_⟩
  have h2:=h.2 i hi
  unfold wpOp at h2
  unfold wpOpIn
  cases ho:ops[i]? with
  |none=>rw[ho]at h2;exact jS hnd hL fuel _ a w h2
  |some o=>
   rw[ho]at h2
   simp only at h2 ⊢
   split
   ·rename_i hw
    rw[if_pos hw]at h2
    rcases h2 with h2|h2
    ·exact yH (hnd i o ho) hL (fun a w h=>jS hnd hL fuel _ a w h) h2
    ·exact absurd h2.2 hL
   ·rename_i hw
    rw[if_neg hw]at h2
    exact⟨fun _ _=>trivial,jS hnd hL fuel _ _ w h2⟩
end
def IY:Code→Option (Array Oper)
 | .block _ (.region _ ops _)=>some ops
 |_=>none
def qR:Code→Option (Operand×Array Tmp×Code×Code)
 | .rangeFunc g ps a b=>some (g,ps,a,b)
 | .seq x y=>(qR x).orElse fun _=>qR y
 | .cond _ x y=>(qR x).orElse fun _=>qR y
 | .block _ x=>qR x
 | .loop x=>qR x
 |_=>none
def opsOf(f:Func):Array Oper:=(((f.body.bind qR).bind fun x=>IY x.2.2.2).getD #[])
set_option maxHeartbeats 4000000 in
theorem Ja(M:List Bool)(i:Nat)(hi:2*i+1<M.length)(hM:M.length≤1000):WA Tryz.prog 41 2 (opsOf Tryz.f60) 11 #[false,false,false,false,false,false,false,false,false,false,false] ⟨[(6,.ptr 1 0),(9,num i)],[some (.row 4 1 M.length (bX M)),some (.cells 22 [.own 0])]⟩ (fun s=>s.σ=[some (.row 4 1 M.length (bX ((M.set (2*i) true).set (2*i+1) true))),some (.cells 22 [.own 0])]):=by
 have hl1:(M.set (2*i) true).length=M.length:=by simp
 refine vV [[(6,.ptr 1 0),(9,num i),(30,.own 0),(31,num i),(32,num ((2*i:Nat):Int)),(33,.own 0),(34,num i),(35,num ((2*i:Nat):Int)),(36,num ((2*i+1:Nat):Int)),(37,.ptr 0 (2*i)),(38,.ptr 0 (2*i+1))]] [[some (.row 4 1 M.length (bX M)),some (.cells 22 [.own 0])],[some (.row 4 1 M.length (bX (M.set (2*i) true))),some (.cells 22 [.own 0])],[some (.row 4 1 M.length (bX ((M.set (2*i) true).set (2*i+1) true))),some (.cells 22 [.own 0])]] [6,9] I (by kernel_rfl) (fun M hi ho=>?_)
 have μ0:M 0 2047 0 [] 2:=hi<|se I (by kernel_rfl) (rfl)
 have μ1:M 1 1023 0 [38] 1:=hi<|aa [(10,2047)] I<|pj I I (bg I (ba.tk.get I) I I I (by simp;omega)) I I (ho μ0) I I af
 have μ2:M 2 511 0 [33,36] 1:=hi<|aa [(9,1023)] I<|bx I I (aN (2*i+1) I) I (ho μ1) I I af
 have μ3:M 3 255 0 [33,36,37] 0:=hi<|aa [(8,511)] I<|pj I I (bg I (ba.tk.get I) I I I (by omega)) I I (ho μ2) I I af
 have μ4:M 4 127 0 [30,32,33,36] 0:=hi<|aa [(7,255)] I<|bx I I (aN (2*i) I) I (ho μ3) I I af
 have μ5:M 3 447 0 [33,35] 1:=hi<|aa [(6,511)] I<|bx I I (aU I (hc:=show((2*i:Nat):Int)+1=((2*i+1:Nat):Int) by omega) (hn:=by unfold In64;omega)) I (ho μ2) I I af
 have μ6:M 4 191 0 [33,35,37] 0:=hi<|aa [(6,255),(8,447)] I<|bx I I (aU I (hc:=show((2*i:Nat):Int)+1=((2*i+1:Nat):Int) by omega) (hn:=by unfold In64;omega)) I (ho μ3) I I<|pj I I (bg I (ba.tk.get I) I I I (by omega)) I I (ho μ5) I I af
 have μ7:M 5 63 0 [30,32,33,35] 0:=hi<|aa [(6,127),(7,191)] I<|bx I I (aU I (hc:=show((2*i:Nat):Int)+1=((2*i+1:Nat):Int) by omega) (hn:=by unfold In64;omega)) I (ho μ4) I I<|bx I I (aN (2*i) I) I (ho μ6) I I af
 have μ8:M 4 415 0 [33,34] 1:=hi<|aa [(5,447)] I<|bx I I (aU I (hc:=show(2:Int)*(i:Int)=((2*i:Nat):Int) by omega) (hn:=by unfold In64;omega)) I (ho μ5) I I af
 have μ9:M 5 159 0 [33,34,37] 0:=hi<|aa [(5,191),(8,415)] I<|bx I I (aU I (hc:=show(2:Int)*(i:Int)=((2*i:Nat):Int) by omega) (hn:=by unfold In64;omega)) I (ho μ6) I I<|pj I I (bg I (ba.tk.get I) I I I (by omega)) I I (ho μ8) I I af
 have μ10:M 6 31 0 [30,32,33,34] 0:=hi<|aa [(5,63),(7,159)] I<|bx I I (aU I (hc:=show(2:Int)*(i:Int)=((2*i:Nat):Int) by omega) (hn:=by unfold In64;omega)) I (ho μ7) I I<|bx I I (aN (2*i) I) I (ho μ9) I I af
 have μ11:M 5 399 0 [9,33] 1:=hi<|aa [(4,415)] I<|an (ho μ8) I I af
 have μ12:M 6 143 0 [9,33,37] 0:=hi<|aa [(4,159),(8,399)] I<|an (ho μ9) I I<|pj I I (bg I (ba.tk.get I) I I I (by omega)) I I (ho μ11) I I af
 have μ13:M 7 15 0 [9,30,32,33] 0:=hi<|aa [(4,31),(7,143)] I<|an (ho μ10) I I<|bx I I (aN (2*i) I) I (ho μ12) I I af
 have μ14:M 3 503 0 [6,36] 1:=hi<|aa [(3,511)] I<|an (ho μ2) I I af
 have μ15:M 4 247 0 [6,36,37] 0:=hi<|aa [(3,255),(8,503)] I<|an (ho μ3) I I<|pj I I (bg I (ba.tk.get I) I I I (by omega)) I I (ho μ14) I I af
 have μ16:M 5 119 0 [6,30,32,36] 0:=hi<|aa [(3,127),(7,247)] I<|an (ho μ4) I I<|bx I I (aN (2*i) I) I (ho μ15) I I af
 have μ17:M 4 439 0 [6,35] 1:=hi<|aa [(3,447),(6,503)] I<|an (ho μ5) I I<|bx I I (aU I (hc:=show((2*i:Nat):Int)+1=((2*i+1:Nat):Int) by omega) (hn:=by unfold In64;omega)) I (ho μ14) I I af
 have μ18:M 5 183 0 [6,35,37] 0:=hi<|aa [(3,191),(6,247),(8,439)] I<|an (ho μ6) I I<|bx I I (aU I (hc:=show((2*i:Nat):Int)+1=((2*i+1:Nat):Int) by omega) (hn:=by unfold In64;omega)) I (ho μ15) I I<|pj I I (bg I (ba.tk.get I) I I I (by omega)) I I (ho μ17) I I af
 have μ19:M 6 55 0 [6,30,32,35] 0:=hi<|aa [(3,63),(6,119),(7,183)] I<|an (ho μ7) I I<|bx I I (aU I (hc:=show((2*i:Nat):Int)+1=((2*i+1:Nat):Int) by omega) (hn:=by unfold In64;omega)) I (ho μ16) I I<|bx I I (aN (2*i) I) I (ho μ18) I I af
 have μ20:M 5 407 0 [6,34] 1:=hi<|aa [(3,415),(5,439)] I<|an (ho μ8) I I<|bx I I (aU I (hc:=show(2:Int)*(i:Int)=((2*i:Nat):Int) by omega) (hn:=by unfold In64;omega)) I (ho μ17) I I af
 have μ21:M 6 151 0 [6,34,37] 0:=hi<|aa [(3,159),(5,183),(8,407)] I<|an (ho μ9) I I<|bx I I (aU I (hc:=show(2:Int)*(i:Int)=((2*i:Nat):Int) by omega) (hn:=by unfold In64;omega)) I (ho μ18) I I<|pj I I (bg I (ba.tk.get I) I I I (by omega)) I I (ho μ20) I I af
 have μ22:M 7 23 0 [6,30,32,34] 0:=hi<|aa [(3,31),(5,55),(7,151)] I<|an (ho μ10) I I<|bx I I (aU I (hc:=show(2:Int)*(i:Int)=((2*i:Nat):Int) by omega) (hn:=by unfold In64;omega)) I (ho μ19) I I<|bx I I (aN (2*i) I) I (ho μ21) I I af
 have μ23:M 6 391 0 [6,9] 1:=hi<|aa [(3,399),(4,407)] I<|an (ho μ11) I I<|an (ho μ20) I I af
 have μ24:M 7 135 0 [6,9,37] 0:=hi<|aa [(3,143),(4,151),(8,391)] I<|an (ho μ12) I I<|an (ho μ21) I I<|pj I I (bg I (ba.tk.get I) I I I (by omega)) I I (ho μ23) I I af
 have μ25:M 8 7 0 [6,9,30,32] 0:=hi<|aa [(3,15),(4,23),(7,135)] I<|an (ho μ13) I I<|an (ho μ22) I I<|bx I I (aN (2*i) I) I (ho μ24) I I af
 have μ26:M 5 123 0 [30,31,33,36] 0:=hi<|aa [(2,127)] I<|bx I I (aU I (hc:=show(2:Int)*(i:Int)=((2*i:Nat):Int) by omega) (hn:=by unfold In64;omega)) I (ho μ4) I I af
 have μ27:M 6 59 0 [30,31,33,35] 0:=hi<|aa [(2,63),(6,123)] I<|bx I I (aU I (hc:=show(2:Int)*(i:Int)=((2*i:Nat):Int) by omega) (hn:=by unfold In64;omega)) I (ho μ7) I I<|bx I I (aU I (hc:=show((2*i:Nat):Int)+1=((2*i+1:Nat):Int) by omega) (hn:=by unfold In64;omega)) I (ho μ26) I I af
 have μ28:M 7 27 0 [30,31,33,34] 0:=hi<|aa [(2,31),(5,59)] I<|bx I I (aU I (hc:=show(2:Int)*(i:Int)=((2*i:Nat):Int) by omega) (hn:=by unfold In64;omega)) I (ho μ10) I I<|bx I I (aU I (hc:=show(2:Int)*(i:Int)=((2*i:Nat):Int) by omega) (hn:=by unfold In64;omega)) I (ho μ27) I I af
 have μ29:M 8 11 0 [9,30,31,33] 0:=hi<|aa [(2,15),(4,27)] I<|bx I I (aU I (hc:=show(2:Int)*(i:Int)=((2*i:Nat):Int) by omega) (hn:=by unfold In64;omega)) I (ho μ13) I I<|an (ho μ28) I I af
 have μ30:M 6 115 0 [6,30,31,36] 0:=hi<|aa [(2,119),(3,123)] I<|bx I I (aU I (hc:=show(2:Int)*(i:Int)=((2*i:Nat):Int) by omega) (hn:=by unfold In64;omega)) I (ho μ16) I I<|an (ho μ26) I I af
 have μ31:M 7 51 0 [6,30,31,35] 0:=hi<|aa [(2,55),(3,59),(6,115)] I<|bx I I (aU I (hc:=show(2:Int)*(i:Int)=((2*i:Nat):Int) by omega) (hn:=by unfold In64;omega)) I (ho μ19) I I<|an (ho μ27) I I<|bx I I (aU I (hc:=show((2*i:Nat):Int)+1=((2*i+1:Nat):Int) by omega) (hn:=by unfold In64;omega)) I (ho μ30) I I af
 have μ32:M 8 19 0 [6,30,31,34] 0:=hi<|aa [(2,23),(3,27),(5,51)] I<|bx I I (aU I (hc:=show(2:Int)*(i:Int)=((2*i:Nat):Int) by omega) (hn:=by unfold In64;omega)) I (ho μ22) I I<|an (ho μ28) I I<|bx I I (aU I (hc:=show(2:Int)*(i:Int)=((2*i:Nat):Int) by omega) (hn:=by unfold In64;omega)) I (ho μ31) I I af
 have μ33:M 9 3 0 [6,9,30,31] 0:=hi<|aa [(2,7),(3,11),(4,19)] I<|bx I I (aU I (hc:=show(2:Int)*(i:Int)=((2*i:Nat):Int) by omega) (hn:=by unfold In64;omega)) I (ho μ25) I I<|an (ho μ29) I I<|an (ho μ32) I I af
 have μ34:M 6 121 0 [9,30,33,36] 0:=hi<|aa [(1,123)] I<|an (ho μ26) I I af
 have μ35:M 7 57 0 [9,30,33,35] 0:=hi<|aa [(1,59),(6,121)] I<|an (ho μ27) I I<|bx I I (aU I (hc:=show((2*i:Nat):Int)+1=((2*i+1:Nat):Int) by omega) (hn:=by unfold In64;omega)) I (ho μ34) I I af
 have μ36:M 8 25 0 [9,30,33,34] 0:=hi<|aa [(1,27),(5,57)] I<|an (ho μ28) I I<|bx I I (aU I (hc:=show(2:Int)*(i:Int)=((2*i:Nat):Int) by omega) (hn:=by unfold In64;omega)) I (ho μ35) I I af
 have μ37:M 9 9 0 [9,30,33] 0:=hi<|aa [(1,11),(4,25)] I<|an (ho μ29) I I<|an (ho μ36) I I af
 have μ38:M 7 113 0 [6,9,30,36] 0:=hi<|aa [(1,115),(3,121)] I<|an (ho μ30) I I<|an (ho μ34) I I af
 have μ39:M 8 49 0 [6,9,30,35] 0:=hi<|aa [(1,51),(3,57),(6,113)] I<|an (ho μ31) I I<|an (ho μ35) I I<|bx I I (aU I (hc:=show((2*i:Nat):Int)+1=((2*i+1:Nat):Int) by omega) (hn:=by unfold In64;omega)) I (ho μ38) I I af
 have μ40:M 9 17 0 [6,9,30,34] 0:=hi<|aa [(1,19),(3,25),(5,49)] I<|an (ho μ32) I I<|an (ho μ36) I I<|bx I I (aU I (hc:=show(2:Int)*(i:Int)=((2*i:Nat):Int) by omega) (hn:=by unfold In64;omega)) I (ho μ39) I I af
 have μ41:M 10 1 0 [6,9,30] 0:=hi<|aa [(1,3),(3,9),(4,17)] I<|an (ho μ33) I I<|an (ho μ37) I I<|an (ho μ40) I I af
 have μ42:M 5 126 0 [6,32,33,36] 0:=hi<|aa [(0,127)] I<|an (ho μ4) I I af
 have μ43:M 6 62 0 [6,32,33,35] 0:=hi<|aa [(0,63),(6,126)] I<|an (ho μ7) I I<|bx I I (aU I (hc:=show((2*i:Nat):Int)+1=((2*i+1:Nat):Int) by omega) (hn:=by unfold In64;omega)) I (ho μ42) I I af
 have μ44:M 7 30 0 [6,32,33,34] 0:=hi<|aa [(0,31),(5,62)] I<|an (ho μ10) I I<|bx I I (aU I (hc:=show(2:Int)*(i:Int)=((2*i:Nat):Int) by omega) (hn:=by unfold In64;omega)) I (ho μ43) I I af
 have μ45:M 8 14 0 [6,9,32,33] 0:=hi<|aa [(0,15),(4,30)] I<|an (ho μ13) I I<|an (ho μ44) I I af
 have μ46:M 6 118 0 [6,32,36] 0:=hi<|aa [(0,119),(3,126)] I<|an (ho μ16) I I<|an (ho μ42) I I af
 have μ47:M 7 54 0 [6,32,35] 0:=hi<|aa [(0,55),(3,62),(6,118)] I<|an (ho μ19) I I<|an (ho μ43) I I<|bx I I (aU I (hc:=show((2*i:Nat):Int)+1=((2*i+1:Nat):Int) by omega) (hn:=by unfold In64;omega)) I (ho μ46) I I af
 have μ48:M 8 22 0 [6,32,34] 0:=hi<|aa [(0,23),(3,30),(5,54)] I<|an (ho μ22) I I<|an (ho μ44) I I<|bx I I (aU I (hc:=show(2:Int)*(i:Int)=((2*i:Nat):Int) by omega) (hn:=by unfold In64;omega)) I (ho μ47) I I af
 have μ49:M 9 6 0 [6,9,32] 0:=hi<|aa [(0,7),(3,14),(4,22)] I<|an (ho μ25) I I<|an (ho μ45) I I<|an (ho μ48) I I af
 have μ50:M 6 122 0 [6,31,33,36] 0:=hi<|aa [(0,123),(2,126)] I<|an (ho μ26) I I<|bx I I (aU I (hc:=show(2:Int)*(i:Int)=((2*i:Nat):Int) by omega) (hn:=by unfold In64;omega)) I (ho μ42) I I af
 have μ51:M 7 58 0 [6,31,33,35] 0:=hi<|aa [(0,59),(2,62),(6,122)] I<|an (ho μ27) I I<|bx I I (aU I (hc:=show(2:Int)*(i:Int)=((2*i:Nat):Int) by omega) (hn:=by unfold In64;omega)) I (ho μ43) I I<|bx I I (aU I (hc:=show((2*i:Nat):Int)+1=((2*i+1:Nat):Int) by omega) (hn:=by unfold In64;omega)) I (ho μ50) I I af
 have μ52:M 8 26 0 [6,31,33,34] 0:=hi<|aa [(0,27),(2,30),(5,58)] I<|an (ho μ28) I I<|bx I I (aU I (hc:=show(2:Int)*(i:Int)=((2*i:Nat):Int) by omega) (hn:=by unfold In64;omega)) I (ho μ44) I I<|bx I I (aU I (hc:=show(2:Int)*(i:Int)=((2*i:Nat):Int) by omega) (hn:=by unfold In64;omega)) I (ho μ51) I I af
 have μ53:M 9 10 0 [6,9,31,33] 0:=hi<|aa [(0,11),(2,14),(4,26)] I<|an (ho μ29) I I<|bx I I (aU I (hc:=show(2:Int)*(i:Int)=((2*i:Nat):Int) by omega) (hn:=by unfold In64;omega)) I (ho μ45) I I<|an (ho μ52) I I af
 have μ54:M 7 114 0 [6,31,36] 0:=hi<|aa [(0,115),(2,118),(3,122)] I<|an (ho μ30) I I<|bx I I (aU I (hc:=show(2:Int)*(i:Int)=((2*i:Nat):Int) by omega) (hn:=by unfold In64;omega)) I (ho μ46) I I<|an (ho μ50) I I af
 have μ55:M 8 50 0 [6,31,35] 0:=hi<|aa [(0,51),(2,54),(3,58),(6,114)] I<|an (ho μ31) I I<|bx I I (aU I (hc:=show(2:Int)*(i:Int)=((2*i:Nat):Int) by omega) (hn:=by unfold In64;omega)) I (ho μ47) I I<|an (ho μ51) I I<|bx I I (aU I (hc:=show((2*i:Nat):Int)+1=((2*i+1:Nat):Int) by omega) (hn:=by unfold In64;omega)) I (ho μ54) I I af
 have μ56:M 9 18 0 [6,31,34] 0:=hi<|aa [(0,19),(2,22),(3,26),(5,50)] I<|an (ho μ32) I I<|bx I I (aU I (hc:=show(2:Int)*(i:Int)=((2*i:Nat):Int) by omega) (hn:=by unfold In64;omega)) I (ho μ48) I I<|an (ho μ52) I I<|bx I I (aU I (hc:=show(2:Int)*(i:Int)=((2*i:Nat):Int) by omega) (hn:=by unfold In64;omega)) I (ho μ55) I I af
 have μ57:M 10 2 0 [6,9,31] 0:=hi<|aa [(0,3),(2,6),(3,10),(4,18)] I<|an (ho μ33) I I<|bx I I (aU I (hc:=show(2:Int)*(i:Int)=((2*i:Nat):Int) by omega) (hn:=by unfold In64;omega)) I (ho μ49) I I<|an (ho μ53) I I<|an (ho μ56) I I af
 have μ58:M 7 120 0 [6,9,33,36] 0:=hi<|aa [(0,121),(1,122)] I<|an (ho μ34) I I<|an (ho μ50) I I af
 have μ59:M 8 56 0 [6,9,33,35] 0:=hi<|aa [(0,57),(1,58),(6,120)] I<|an (ho μ35) I I<|an (ho μ51) I I<|bx I I (aU I (hc:=show((2*i:Nat):Int)+1=((2*i+1:Nat):Int) by omega) (hn:=by unfold In64;omega)) I (ho μ58) I I af
 have μ60:M 9 24 0 [6,9,33,34] 0:=hi<|aa [(0,25),(1,26),(5,56)] I<|an (ho μ36) I I<|an (ho μ52) I I<|bx I I (aU I (hc:=show(2:Int)*(i:Int)=((2*i:Nat):Int) by omega) (hn:=by unfold In64;omega)) I (ho μ59) I I af
 have μ61:M 10 8 0 [6,9,33] 0:=hi<|aa [(0,9),(1,10),(4,24)] I<|an (ho μ37) I I<|an (ho μ53) I I<|an (ho μ60) I I af
 have μ62:M 8 112 0 [6,9,36] 0:=hi<|aa [(0,113),(1,114),(3,120)] I<|an (ho μ38) I I<|an (ho μ54) I I<|an (ho μ58) I I af
 have μ63:M 9 48 0 [6,9,35] 0:=hi<|aa [(0,49),(1,50),(3,56),(6,112)] I<|an (ho μ39) I I<|an (ho μ55) I I<|an (ho μ59) I I<|bx I I (aU I (hc:=show((2*i:Nat):Int)+1=((2*i+1:Nat):Int) by omega) (hn:=by unfold In64;omega)) I (ho μ62) I I af
 have μ64:M 10 16 0 [6,9,34] 0:=hi<|aa [(0,17),(1,18),(3,24),(5,48)] I<|an (ho μ40) I I<|an (ho μ56) I I<|an (ho μ60) I I<|bx I I (aU I (hc:=show(2:Int)*(i:Int)=((2*i:Nat):Int) by omega) (hn:=by unfold In64;omega)) I (ho μ63) I I af
 have μ65:M 11 0 0 [6,9] 0:=hi<|aa [(0,1),(1,2),(3,8),(4,16)] I<|an (ho μ41) I I<|an (ho μ57) I I<|an (ho μ61) I I<|an (ho μ64) I I af
 exact μ65
open Go.Shelf eY
attribute [local go_sem] Oper.semAt_some
def cC(k x:Int):List PV:=[num k,num x]
def ca(k x:Int):PV:=.agg (cC k x)
instance (k x:Int):aL (cC k x):=by unfold cC;infer_instance
instance (k x:Int):IsPure (ca k x):=by unfold ca;infer_instance
def cj(T:ak)(k x:Int):Bool:=if k=1 then decide (0≤x)&&decide (x<(T.ae.length:Int)) else if k=2 then bu T x else if k=3 then decide (1≤x)&&decide (x≤64) else false
theorem lV(T:ak)(k x:Int):Can Tryz.prog 118 [aP T,ca k x] (· =flag (cj T k x)):=by
 obtain⟨q1,h1⟩:∃q,decide (0≤x)=q:=⟨_,rfl⟩
 obtain⟨q2,h2⟩:∃q,decide (x<(T.ae.length:Int))=q:=⟨_,rfl⟩
 obtain⟨q3,h3⟩:∃q,decide (1≤x)=q:=⟨_,rfl⟩
 obtain⟨q4,h4⟩:∃q,decide (x≤64)=q:=⟨_,rfl⟩
 have hB:cj T k x=if k=1 then(q1&&q2) else if k=2 then bu T x else if k=3 then(q3&&q4) else false:=by unfold cj;rw[h1,h2,h3,h4]
 rw[hB]
 refine aH Tryz.func118 I Tryz.ntmps118 I<|ab (.a 3 I<|.k [2,3] I)<|aj<|ab (.a 2 I<|.k [2,3,6] I)<|au<|ab (.a 2 I<|.k [2,3,6,7] I)<|ag I (fun hk1=>?_) (fun hk1=>?_)
 ·have k1:k=1:=tt hk1
  refine bz 4 (.raw (.bool (q1&&q2))) [] I ?_ ?_
  ·refine .a 2 I<|.v (cf I (h1)) I<|.a 1 I<|?_
   cases q1
   ·exact .a 8 I<|.k [4] I
   ·exact .a 5 I<|.v (cf I (h2)) I<|.a 2 I<|.k [4] I
  exact ao<|⟨_,_,az.of I,ay.pure,by rw[if_pos k1];rfl⟩
 ·have k1:¬k=1:=ff hk1
  refine ab (.a 2 I<|.k [2,3,6,20] I)<|ag I (fun hk2=>?_) (fun hk2=>?_)
  ·have k2:k=2:=tt hk2
   exact ab (.a 3 I<|.c rfl (dJ T x) I<|.a 1 I<|.k [4] I)<|ao<|⟨_,_,az.of I,ay.pure,by rw[if_neg k1,if_pos k2];rfl⟩
  ·have k2:¬k=2:=ff hk2
   refine ab (.a 2 I<|.k [3,26] I)<|ag I (fun hk3=>?_) (fun hk3=>?_)
   ·have k3:k=3:=tt hk3
    refine bz 4 (.raw (.bool (q3&&q4))) [] I ?_ ?_
    ·refine .a 2 I<|.v (cf I (h3)) I<|.a 1 I<|?_
     cases q3
     ·exact .a 5 I<|.k [4] I
     ·exact .a 2 I<|.v (cf I (h4)) I<|.a 2 I<|.k [4] I
    exact ao<|⟨_,_,az.of I,ay.pure,by rw[if_neg k1,if_neg k2,if_pos k3];rfl⟩
   ·have k3:¬k=3:=ff hk3
    exact ai<|ab (.a 1 I<|.k [4] I)<|ao<|⟨_,_,az.of I,ay.pure,by rw[if_neg k1,if_neg k2,if_neg k3];rfl⟩
set_option maxRecDepth 100000 in
theorem FN(c0 c1 c2:Value)(k x:Int)(n:Nat)(w:World):CallsIn Fence.wide n Tryz.prog 119 #[.agg #[c0,c1,c2],.agg #[.int .i64 k,.int .i64 x]] w fun e w'=>
  e= .returned (.func (.func 160) #[] #[.pointer (some ⟨w.heap.size,0,none⟩),.pointer (some ⟨w.heap.size+1,0,none⟩)])∧w'=(w.alloc (.cells #[c0,c1,c2] 25)).alloc (.cells #[.int .i64 k,.int .i64 x] 33):=by
 refine callsIn_of_wp Tryz.func119 I trivial ?_ rfl
 simp only[Tryz.ntmps119,List.size_toArray,List.length_cons,List.length_nil,Nat.reduceAdd,Nat.reduceSub,Array.replicate_succ,Array.replicate_zero,List.push_toArray,List.append_toArray,List.nil_append,List.cons_append]
 gi_wp2
 go_ret
 exact⟨rfl,rfl⟩
def IG(W:World)(b off:Nat)(L:List nM):Prop:=∀i,i<L.length→W.cell? ⟨b,off+i*7,none⟩=some (.int .i64 (cF L i).a)∧W.cell? ⟨b,off+i*7+1,none⟩=some (.int .i64 (cF L i).b)∧W.cell? ⟨b,off+i*7+2,none⟩=some (.int .i64 (cF L i).c0)∧W.cell? ⟨b,off+i*7+3,none⟩=some (.int .i64 (cF L i).c1)∧W.cell? ⟨b,off+i*7+4,none⟩=some (.int .i64 (cF L i).cap)∧W.cell? ⟨b,off+i*7+5,none⟩=some (.int .i64 (cF L i).fK)∧W.cell? ⟨b,off+i*7+6,none⟩=some (.int .i64 (cF L i).vg)
set_option maxRecDepth 100000 in
theorem CE(n l Bt Bc cap:Nat)(ad:Option Addr)(J:List (eY.Ix 0)→World→Prop)(W:World)(hBt:W.cell? ⟨Bt,2,none⟩=some (.slice ad 0 cap))(h0:J [] W):
  CallsIn Fence.wide n Tryz.prog 160 #[.func (.yield l) #[] #[],.pointer (some ⟨Bt,0,none⟩),.pointer (some ⟨Bc,0,none⟩)] W fun e W'=>(∃v,e= .returned v)∧J [] W':=by
 refine callsIn_of_wp Tryz.func160 I trivial ?_ rfl
 simp only[Tryz.ntmps160,List.size_toArray,List.length_cons,List.length_nil,Nat.reduceAdd,Nat.reduceSub,Array.replicate_succ,Array.replicate_zero,List.push_toArray,List.append_toArray,List.nil_append,List.cons_append]
 gi_wp2
 gi_loopw [10] (fun i wr=>i= .int .i64 0∧J [] wr) (fun _ _=>0)
 case atStart=>exact⟨rfl,h0⟩
 case round=>
  obtain⟨rfl,hJs⟩:=hrel
  gi_wp2
  go_end0
  exact⟨⟨_,rfl⟩,hJs⟩
def J4(n₁ G:Nat)(W:World)(v:Value)(L:List nM):Prop:=(∃ad cap,v= .slice ad 0 cap∧L=[])∨∃b off cap,v= .slice (some ⟨b,off,none⟩) L.length cap∧b<n₁∧b≠G∧IG W b off L
theorem yq(T:ak)(k x:Int)(hk:k=1∨k=2∨k=3)(hl:T.ae.length≤1000)(n Bt Bc G:Nat)(hn:1≤n)(v:Value)(w:World)(hBtl:Bt<w.heap.size)(hBcl:Bc<w.heap.size)(hBcG:Bc≠G)
  (hBt:w.cell? ⟨Bt,2,none⟩=some v) (hBk:w.cell? ⟨Bc,0,none⟩=some (.int .i64 k)) (hBx:w.cell? ⟨Bc,1,none⟩=some (.int .i64 x)) (hv:J4 w.heap.size G w v T.ae):
  SeqStopsK Fence.wide n Tryz.prog 160 #[.pointer (some ⟨Bt,0,none⟩),.pointer (some ⟨Bc,0,none⟩)] (fun i:eY.Ix T.ae.length=> #[Value.int .i64 (i.1:Int)]) (Kp G w.heap.size) (fun ys=>ys=lK (cI k x T.ae) T.ae.length T.ae.length) (fun _=>True) T.ae.length w:=fun l J Jx W hW hA _ hY h0=>by
 have kt:=(hW.cell (p:=⟨Bt,2,none⟩) hBtl).trans hBt
 have kk:=(hW.cell (p:=⟨Bc,0,none⟩) hBcl).trans hBk
 have kx:=(hW.cell (p:=⟨Bc,1,none⟩) hBcl).trans hBx
 rcases hv with⟨ad,cap,rfl,hL⟩|⟨b,off,cap,rfl,hb,hbG,hc⟩
 ·generalize T.ae=L at*
  subst hL
  exact(CE n l Bt Bc cap ad J W kt h0).mono fun e W' h=>⟨h.1,.inl ⟨_,rfl,h.2⟩⟩
 ·have hc2:IG W b off T.ae:=fun i hi=>by
   obtain⟨a0,a1,a2,a3,a4,a5,a6⟩:=hc i hi
   exact⟨(hW.cell (p:=⟨b,_,none⟩) hb).trans a0,(hW.cell (p:=⟨b,_,none⟩) hb).trans a1,(hW.cell (p:=⟨b,_,none⟩) hb).trans a2,(hW.cell (p:=⟨b,_,none⟩) hb).trans a3,(hW.cell (p:=⟨b,_,none⟩) hb).trans a4,(hW.cell (p:=⟨b,_,none⟩) hb).trans a5,(hW.cell (p:=⟨b,_,none⟩) hb).trans a6⟩
  have fin:∀ {e:Ending} {W':World},(∃v,e= .returned v)∧((∃ys,ys=lK (cI k x T.ae) T.ae.length T.ae.length∧J ys W')∨(∃pre,Jx pre W'))→(∃v,e= .returned v)∧((∃xs,xs=lK (cI k x T.ae) T.ae.length T.ae.length∧J xs W')∨(∃pre,True∧Jx pre W')):=fun h=>⟨h.1,h.2.imp id fun⟨pre,h⟩=>⟨pre,trivial,h⟩⟩
  rcases hk with rfl|rfl|rfl
  ·exact(Be Fence.wide n trivial rfl hn l Bt Bc G w.heap.size b off cap T.ae x hl hb hbG hBcl hBcG J Jx hY W kt kk kx hc2 hW.size hA h0).mono fun e W' h=>fin h
  ·exact(Co Fence.wide n trivial rfl hn l Bt Bc G w.heap.size b off cap T.ae x hl hb hbG hBcl hBcG J Jx hY W kt kk kx hc2 hW.size hA h0).mono fun e W' h=>fin h
  ·exact(Bh Fence.wide n trivial rfl hn l Bt Bc G w.heap.size b off cap T.ae x hl hb hbG hBcl hBcG J Jx hY W kt kk kx hc2 hW.size hA h0).mono fun e W' h=>fin h
theorem ux{E:Env}{w:World}:∀ {cs:List Value} {M:List Bool},bf E w cs (bX M)→cs=M.map Value.bool
 | [],[],_=>rfl
 | [],b::M,h=>by have:=h.1;simp[bX]at this
 |c::cs,[],h=>by have:=h.1;simp[bX]at this
 |c::cs,b::M,h=>by
  have h0:=ek (h.2 0 c (flag b) I I)
  have h1:bf E w cs (bX M):=⟨by have:=h.1;simpa[bX]using this,fun i x u k1 k2=>h.2 (i+1) x u (by simpa using k1) (by simpa[bX]using k2)⟩
  rw[ux h1,h0]
  rfl
theorem pG{E:Env}{w:World}:∀(M:List Bool),bf E w (M.map Value.bool) (bX M)
 | []=>bf.nil _ _
 |b::M=>bf.cons (.raw _) (pG M)
def C9{N:Nat}(n:Nat)(l:List (eY.Ix N)):List Bool:=l.foldl (fun M i=>(M.set (2*i.1) true).set (2*i.1+1) true) (List.replicate n false)
theorem xW{N n:Nat}(l:List (eY.Ix N))(i:eY.Ix N):C9 n (l++[i])=((C9 n l).set (2*i.1) true).set (2*i.1+1) true:=by unfold C9;rw[List.foldl_append];rfl
theorem uP{N n:Nat}(l:List (eY.Ix N)):(C9 n l).length=n:=by
 unfold C9
 suffices h:∀M:List Bool,(l.foldl (fun M (i:eY.Ix N)=>(M.set (2*i.1) true).set (2*i.1+1) true) M).length=M.length by rw[h];simp
 induction l with
 |nil=>intro M;rfl
 |cons a l ih=>intro M;rw[List.foldl_cons,ih];simp
def aF(T:ak)(k x:Int):List Bool:=(List.range (2*T.ae.length)).map fun a=>cI k x T.ae (a / 2)
theorem yh(p:Nat→Bool)(N:Nat):∀k,k≤N→∀a,a<2*N→(C9 (2*N) (lK p N k))[a]? =some (decide (a / 2<k)&&p (a / 2))
 |0,_,a,ha=>by
  show(List.replicate (2*N) false)[a]? =_
  rw[List.getElem?_replicate,if_pos ha]
  simp
 |k+1,hk,a,ha=>by
  have ih:=yh p N k (by omega) a ha
  have hl:=uP (n:=2*N) (lK p N k)
  cases hp:p k with
  |false=>
   rw[vS hp,ih]
   by_cases e:a / 2=k
   ·rw[e,hp];simp
   ·rw[show decide (a / 2<k+1)=decide (a / 2<k) from decide_eq_decide.2 (by omega)]
  |true=>
   rw[nO hp (by omega),xW]
   simp only
   rw[List.getElem?_set]
   by_cases e1:2*k+1=a
   ·rw[if_pos e1,if_pos (by simp;omega),show a / 2=k by omega,hp]
    simp
   ·rw[if_neg e1,List.getElem?_set]
    by_cases e2:2*k=a
    ·rw[if_pos e2,if_pos (by omega),show a / 2=k by omega,hp]
     simp
    ·rw[if_neg e2,ih,show decide (a / 2<k+1)=decide (a / 2<k) from decide_eq_decide.2 (by omega)]
theorem GC(T:ak)(k x:Int):C9 (2*T.ae.length) (lK (cI k x T.ae) T.ae.length T.ae.length)=aF T k x:=by
 apply List.ext_getElem?
 intro a
 by_cases ha:a<2*T.ae.length
 ·rw[yh _ _ _ (Nat.le_refl _) a ha]
  unfold aF
  rw[List.getElem?_map,List.getElem?_range ha]
  have:a / 2<T.ae.length:=by omega
  simp[this]
 ·rw[List.getElem?_eq_none (by rw[uP];omega),List.getElem?_eq_none (by unfold aF;simp;omega)]
structure l7 (base n B:Nat) (v:Value) (Mm:Nat→Prop) (M:List Bool) (W:World):Prop where
 bl:base≤W.heap.size
 row:W.ownsRow base 4 1 v n (M.map Value.bool)
 box:W.heap[B]? =some (.cells #[v] 22 (0,0))
 gl:iA Mm W
theorem xD{W W':World}{base e n:Nat}{v:Value}{xs:List Value}(h:W.ownsRow base e 1 v n xs)(hs:∀(g:Nat) (o:Array Value),W.heap[g]? =some (Obj.cells o e (0,0))→W'.heap[g]? =W.heap[g]?):W'.ownsRow base e 1 v n xs:=by
 refine⟨h.1,h.2.imp id ?_⟩
 rintro⟨g,cap,cur,h1,h2,h3,h4⟩
 exact⟨g,cap,cur,h1,h2,(hs g cur h3).trans h3,h4⟩
theorem l7.same{base n B:Nat}{v:Value}{Mm:Nat→Prop}{M:List Bool}{W W':World}(h:l7 base n B v Mm M W)(hz:W.heap.size≤W'.heap.size)(hs:∀(b:Nat) (cs:Array Value) (t:TypeId) (fz:Nat×Nat),W.heap[b]? =some (Obj.cells cs t fz)→W'.heap[b]? =W.heap[b]?):l7 base n B v Mm M W':=
 ⟨Nat.le_trans h.bl hz,xD h.row (fun g o hg=>hs g o _ _ hg),(hs B _ _ _ h.box).trans h.box,fun g cs hg=>by
  obtain⟨h1,t,fz,h2⟩:=h.gl g cs hg
  exact⟨h1,t,fz,(hs g _ _ _ h2).trans h2⟩⟩
theorem l7.grown{base n B:Nat}{v:Value}{Mm:Nat→Prop}{M:List Bool}{W W':World}{row:Option Nat}(h:l7 base n B v Mm M W)(hg:W.grownBy W' row)(hr:∀r,row=some r→∃o:Obj,W.heap[r]? =some o∧o.isCells=false):l7 base n B v Mm M W':=
 h.same hg.size fun b cs t fz hb=>hg.block b (Array.getElem?_eq_some_iff.1 hb).1 fun e=>by
  obtain⟨o,h1,h2⟩:=hr b e.symm
  rw[hb]at h1
  cases h1
  cases h2
theorem l7.sat{base n B:Nat}{E:Env}{M:List Bool}{W W0:World}{bi:cK}{s0:Option cK}(hS:Sat (fun _=>False) base [some bi,s0] E W0)(hs0:s0=some (.cells 22 [.own 0]))(hbi:∃e s m ys,bi= .row e s m ys)(hB:E.at_ 1= .pointer (some ⟨B,0,none⟩))(hBb:base≤B)(hone:(E.at_ 0).oneCell'=true)(h:l7 base n B (E.at_ 0) E.M M W):Sat (fun _=>False) base [some (.row 4 1 n (bX M)),some (.cells 22 [.own 0])] E W:=by
 subst hs0
 have hL:E.L=2:=hS.len
 have old:∀(i:Nat) blk,[some (cK.row 4 1 n (bX M)),some (.cells 22 [.own 0])][i]? =some (some blk)→∃blk',[some bi,some (cK.cells 22 [.own 0])][i]? =some (some blk'):=fun i blk h=>by
  match i,h with
  |0,_=>exact⟨_,rfl⟩
  |1,_=>exact⟨_,rfl⟩
  |_+2,h=>simp at h
 have new:∀(i:Nat) blk,[some bi,some (cK.cells 22 [.own 0])][i]? =some (some blk)→∃blk',[some (cK.row 4 1 n (bX M)),some (.cells 22 [.own 0])][i]? =some (some blk'):=fun i blk h=>by
  match i,h with
  |0,_=>exact⟨_,rfl⟩
  |1,_=>exact⟨_,rfl⟩
  |_+2,h=>simp at h
 refine⟨h.bl,fun b hb=>hb.elim,hL,fun b=>?_,fun i blk hi=>?_,fun i j bi' bj b h1 h2 h3 h4=>?_,h.gl⟩
 ·rw[hS.mm b]
  constructor
  ·rintro(h|⟨i,blk,h1,h2⟩)
   ·exact .inl h
   ·obtain⟨blk',h3⟩:=new i blk h1;exact .inr ⟨i,blk',h3,h2⟩
  ·rintro(h|⟨i,blk,h1,h2⟩)
   ·exact .inl h
   ·obtain⟨blk',h3⟩:=old i blk h1;exact .inr ⟨i,blk',h3,h2⟩
 ·match i,hi with
  |0,hi=>cases hi;exact⟨_,h.row,pG M⟩
  |1,hi=>cases hi;exact⟨B,_,hB,hBb,h.box,bf.cons (.own 0 (by omega) _ rfl hone) (bf.nil _ _)⟩
  |_+2,hi=>simp at hi
 ·obtain⟨b1,e1⟩:=old i bi' h1
  obtain⟨b2,e2⟩:=old j bj h2
  exact hS.inj i j b1 b2 b e1 e2 h3 h4
theorem l7.of{base n B:Nat}{E:Env}{M:List Bool}{W:World}(hS:Sat (fun _=>False) base [some (.row 4 1 n (bX M)),some (.cells 22 [.own 0])] E W)(hB:E.at_ 1= .pointer (some ⟨B,0,none⟩)):l7 base n B (E.at_ 0) E.M M W∧(E.at_ 0).oneCell'=true:=by
 obtain⟨cs,h1,h2⟩:=hS.blk 0 _ rfl
 rw[ux h2]at h1
 obtain⟨b,cs1,k1,k2,k3,k4⟩:=hS.blk 1 _ rfl
 have hbB:b=B:=by rw[hB]at k1;cases k1;rfl
 subst hbB
 obtain⟨cl⟩:=cs1
 match cl,k4 with
 | [],k4=>have:=k4.1;simp at this
 |_::_::_,k4=>have:=k4.1;simp at this
 | [u],k4=>
  have hu:=k4.2 0 u _ rfl rfl
  cases hu with
  |own _ _ _ hu ho=>
   subst hu
   exact⟨⟨hS.bl,h1,k3,hS.gl⟩,ho⟩
theorem HF(w:World)(a b:Value)(t:TypeId):(w.alloc (.cells #[a,b] t)).cell? ⟨w.heap.size,0,none⟩=some a∧(w.alloc (.cells #[a,b] t)).cell? ⟨w.heap.size,1,none⟩=some b:=by
 unfold World.cell?
 simp only[World.alloc_heap_new]
 exact⟨rfl,rfl⟩
theorem La(w:World)(a b c:Value)(t:TypeId):(w.alloc (.cells #[a,b,c] t)).cell? ⟨w.heap.size,2,none⟩=some c:=by
 unfold World.cell?
 simp only[World.alloc_heap_new]
 rfl
end
end PW
end Go.Proofs.YtnegbdpggideiaaGreatDoor
