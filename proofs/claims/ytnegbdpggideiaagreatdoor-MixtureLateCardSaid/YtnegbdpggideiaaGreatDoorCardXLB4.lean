/- Texts of the proof, part 4. -/
import Derived.OpenShut
import Derived.Test.YtnegbdpggideiaaGreatDoorRows
import Derived.Test.YtnegbdpggideiaaGreatDoorCards
import Derived.Test.YtnegbdpggideiaaGreatDoorTie
import Derived.WalkKit
import Derived.ProofKit
import Derived.ShutString
import Derived.ChangeOld
import Derived.Below
import Derived.LaidMore
import Derived.Stop.Joined
import Derived.SevenTiedAt
import Derived.Lib.SmallJoins
import Derived.Lib.LaidTab
import Derived.RangeFuncNested
import Derived.RangeFuncBound
import Derived.RangeFuncCalls
import Derived.RangeFuncLeaves
import Derived.Shelf.Abstract
import Derived.Shelf.RegionOpen
import Derived.OwnWalkIn
import Derived.TacticsInMore
import Derived.LoopNIn
import Derived.LoopIn
import Derived.RangeFuncFrom
import Derived.Test.YtnegbdpggideiaaGreatDoorCardXLB3
set_option linter.unusedVariables false
set_option linter.unusedSimpArgs false
set_option maxRecDepth 10000
set_option maxHeartbeats 1000000
namespace Go.Proofs.YtnegbdpggideiaaGreatDoor
namespace PW
section
open Go.RowKit cE Mem Net
section
variable {H:Type} {enc:TypeId×Value→H} {W:World}
theorem gV{n:Nat}{cs:List Value}{y:DataW H×List MemPlace}(h:DataW.trod enc Tryz.prog W 0 (fun _=>true) true n 3 cs=some y):∃a:Int,cs=[.int .i64 a]:=by
 obtain⟨a,h1,_⟩:=DataW.trod_int Tryz.underlying3 h
 exact⟨a,h1⟩
theorem qd{α:Type}(f:α→PV)(l:List α):l.flatMap (fun a=>[f a])=l.map f:=by induction l with
 |nil=>rfl
 |cons a l ih=>simp[ih]
theorem HA{n:Nat}{v:Value}{y:DataW H×List MemPlace}(h:DataW.trod enc Tryz.prog W 0 (fun _=>true) true n 37 [v]=some y):∃L,cK EN W v (au L):=by
 obtain⟨L,hL⟩:=ru (f:=fun a:Int=>[PV.raw (.int .i64 a)]) (s:=1) Tryz.underlying37 (by kernel_rfl) (by omega) (fun n cs y hy _=>by
  obtain⟨a,rfl⟩:=gV hy
  exact⟨a,bd.one (.raw _)⟩) h
 refine⟨L,?_⟩
 rw[qd]at hL
 exact hL
theorem D9{n:Nat}{v:Value}{y:DataW H×List MemPlace}(h:DataW.trod enc Tryz.prog W 0 (fun _=>true) true n 22 [v]=some y):∃L,cK EN W v (bq L):=by
 obtain⟨L,hL⟩:=ru (f:=fun a:Bool=>[PV.raw (.bool a)]) (s:=1) Tryz.underlying22 (by kernel_rfl) (by omega) (fun n cs y hy _=>by
  obtain⟨a,rfl,_⟩:=DataW.trod_bool Tryz.underlying4 hy
  exact⟨a,bd.one (.raw _)⟩) h
 refine⟨L,?_⟩
 rw[qd]at hL
 exact hL
theorem GY{n:Nat}{cs:List Value}{y:DataW H×List MemPlace}(h:DataW.trod enc Tryz.prog W 0 (fun _=>true) true n 127 cs=some y)(hl:cs.length=7):∃l:nM,bd EN W cs (la l):=by
 have c3:Tryz.prog.cellsOf 3=1:=by kernel_rfl
 have c54:Tryz.prog.cellsOf 125=2:=by kernel_rfl
 obtain⟨xs,m,_,_,_,hlen,hf⟩:=DataW.trod_struct Tryz.underlying127 h
 match cs,hl with
 | [c0,c1,c2,c3',c4,c5,c6],_=>
  match xs,hlen with
  | [y0,y1,y2,y3,y4,y5],_=>
   have f0:DataW.trod enc Tryz.prog W 0 (fun _=>true) true m 3 (([c0,c1,c2,c3',c4,c5,c6].drop 0).take (Tryz.prog.cellsOf 3))=some y0:=hf 0 _ rfl
   rw[c3]at f0
   have f1:DataW.trod enc Tryz.prog W 0 (fun _=>true) true m 3 (([c0,c1,c2,c3',c4,c5,c6].drop 1).take (Tryz.prog.cellsOf 3))=some y1:=hf 1 _ rfl
   rw[c3]at f1
   have f2:DataW.trod enc Tryz.prog W 0 (fun _=>true) true m 125 (([c0,c1,c2,c3',c4,c5,c6].drop 2).take (Tryz.prog.cellsOf 125))=some y2:=hf 2 _ rfl
   rw[c54]at f2
   have f3:DataW.trod enc Tryz.prog W 0 (fun _=>true) true m 3 (([c0,c1,c2,c3',c4,c5,c6].drop 4).take (Tryz.prog.cellsOf 3))=some y3:=hf 3 _ rfl
   rw[c3]at f3
   have f4:DataW.trod enc Tryz.prog W 0 (fun _=>true) true m 3 (([c0,c1,c2,c3',c4,c5,c6].drop 5).take (Tryz.prog.cellsOf 3))=some y4:=hf 4 _ rfl
   rw[c3]at f4
   have f5:DataW.trod enc Tryz.prog W 0 (fun _=>true) true m 3 (([c0,c1,c2,c3',c4,c5,c6].drop 6).take (Tryz.prog.cellsOf 3))=some y5:=hf 5 _ rfl
   rw[c3]at f5
   obtain⟨a0,h0⟩:=gV f0
   obtain⟨a1,h1⟩:=gV f1
   obtain⟨a3,h3⟩:=gV f3
   obtain⟨a4,h4⟩:=gV f4
   obtain⟨a5,h5⟩:=gV f5
   obtain⟨zs,m2,_,_,_,hz,hg⟩:=DataW.trod_array Tryz.underlying125 f2
   match zs,hz with
   | [z0,z1],_=>
    have g0:=hg 0 (by omega)
    have g1:=hg 1 (by omega)
    rw[c3]at g0 g1
    obtain⟨b0,k0⟩:=gV g0
    obtain⟨b1,k1⟩:=gV g1
    simp at h0 h1 h3 h4 h5 k0 k1
    subst h0 h1 h3 h4 h5 k0 k1
    exact⟨⟨a0,a1,b0,b1,a3,a4,a5⟩,bd.cons (.raw _)<|bd.cons (.raw _)<|bd.cons (.raw _)<|bd.cons (.raw _)<|bd.cons (.raw _)<|bd.cons (.raw _)<|bd.cons (.raw _) (bd.nil _ _)⟩
end
end
end PW
end Go.Proofs.YtnegbdpggideiaaGreatDoor
namespace Go.Proofs.YtnegbdpggideiaaGreatDoor
namespace PW
open Go.ChangeShapes Go.WideShapes Go.ChangeAt Go.RowKit
open Go.Joins cE Mem
theorem own:ownKnob Tryz.prog.godebug=none:=by kernel_rfl
theorem laidOut:laidOutB Tryz.prog=true:=by kernel_rfl
theorem J0{H:Type}{enc:TypeId×Value→H}{W:World}{t:TypeId}{v:Value}{d:DataW H}{p:List MemPlace}(h:DataW.Trod enc Tryz.prog W 0 (fun _=>true) true t v d p):∀x∈p,x.block<W.heap.size:=by
 obtain⟨m,hm⟩:=h;exact DataW.trod_lt m _ _ _ hm
end PW
end Go.Proofs.YtnegbdpggideiaaGreatDoor
namespace Go.Proofs.YtnegbdpggideiaaGreatDoor
namespace PW
section
open Go.RowKit cE Mem
theorem vX{P:Program}{x:String×DataW Unit}{r:List (String×DataW Unit)}{W:World}(h:laidMet P (x::r) W):laidMet P r W:=by
 obtain⟨ps,⟨g,t,cs,fuel,p,q,_,_,_,_,hr,rfl⟩,hn,hc⟩:=h
 exact⟨q,hr,(List.nodup_append.1 hn).2.1,fun b off hm=>hc b off (List.mem_append.2 (.inr hm))⟩
theorem mb{P:Program}{W:World}{name:String}{k:IntKind}{zs:List Int}{g:Nat}(hg:P.globalNamed name=some g)(h:Lib.TabIs P W name k zs):∃t fz,W.heap[g]? =some (.cells (zs.map fun z=>Value.int k z).toArray t fz):=by
 unfold Lib.TabIs World.var? at h
 rw[hg]at h
 simp only[Option.bind_some]at h
 split at h
 ·rename_i cs t fz hh
  cases h
  exact⟨t,fz,hh⟩
 ·cases h
def t32:List Int:=[0,1,28,2,29,14,24,3,30,22,20,15,25,17,4,8,31,27,13,23,21,19,16,7,26,12,18,6,11,5,10,9]
def t64:List Int:=[0,1,56,2,57,49,28,3,61,58,42,50,38,29,17,4,62,47,59,36,45,43,51,22,53,39,33,30,24,18,12,5,63,55,48,27,60,41,37,16,46,35,44,21,52,32,23,11,54,26,40,15,34,20,31,10,25,14,19,9,13,8,7,6]
def t10:List Int:=[1,10,100,1000,10000,100000,1000000,10000000,100000000,1000000000,10000000000,100000000000,1000000000000,10000000000000,100000000000000,1000000000000000,10000000000000000,100000000000000000,1000000000000000000,10000000000000000000]
theorem BC{W:World}(h:laidMetH Tryz.prog Rows.mixturePermittedRow.laid W):iw (fun _=>False) W:=by
 have h1:laidMet Tryz.prog [("math/bits.deBruijn32tab",Lib.tabData .u8 t32),("math/bits.deBruijn64tab",Lib.tabData .u8 t64),("internal/strconv.uint64pow10",Lib.tabData .u64 t10)] W:=h
 have h2:=vX h1
 have h3:=vX h2
 have a1:=mb (g:=1) (by kernel_rfl) (Lib.tabIs_of_head (g:=1) (t:=275) (e:=5) (n:=32) (by kernel_rfl) (by kernel_rfl) (by kernel_rfl) (by kernel_rfl) (by kernel_rfl) (by kernel_rfl) h1)
 have a2:=mb (g:=2) (by kernel_rfl) (Lib.tabIs_of_head (g:=2) (t:=276) (e:=5) (n:=64) (by kernel_rfl) (by kernel_rfl) (by kernel_rfl) (by kernel_rfl) (by kernel_rfl) (by kernel_rfl) h2)
 have a3:=mb (g:=0) (by kernel_rfl) (Lib.tabIs_of_head (g:=0) (t:=264) (e:=249) (n:=20) (by kernel_rfl) (by kernel_rfl) (by kernel_rfl) (by kernel_rfl) (by kernel_rfl) (by kernel_rfl) h3)
 intro g cs hm
 refine⟨fun hf=>hf,?_⟩
 have hG:GG=[(0,t10.map fun z=>Value.int .u64 z),(1,t32.map fun z=>Value.int .u8 z),(2,t64.map fun z=>Value.int .u8 z)]:=by kernel_rfl
 rw[hG]at hm
 rcases List.mem_cons.1 hm with e|hm
 ·cases e;exact a3
 ·rcases List.mem_cons.1 hm with e|hm
  ·cases e;exact a1
  ·rcases List.mem_cons.1 hm with e|hm
   ·cases e;exact a2
   ·cases hm
section
variable {P:Program} {N L:Nat} {ops:Array Oper}
def WA(P:Program)(N L:Nat)(ops:Array Oper):Nat→Array Bool→St→(St→Prop)→Prop
 |0,ls,st,K=>Region.ready .any ops ls=[]∧K st
 |n+1,ls,st,K=>Region.ready .any ops ls≠[]∧∀i∈Region.ready .any ops ls,∃o,ops[i]? =some o∧o.guard=none∧WR P N L [o].toArray [o] st (fun s=>WA P N L ops n (ls.setIfInBounds i true) s K)
def Ku(P:Program)(N L:Nat)(ops:Array Oper)(n:Nat)(ls:Array Bool)(st:St)(K:St→Prop)(is:List Nat):Prop:=
 ∀i∈is,∃o,ops[i]? =some o∧o.guard=none∧WR P N L [o].toArray [o] st (fun s=>WA P N L ops n (ls.setIfInBounds i true) s K)
theorem j7{ls:Array Bool}{st:St}{K:St→Prop}(h:Region.ready .any ops ls=[])(hk:K st):WA P N L ops 0 ls st K:=⟨h,hk⟩
theorem bR{n:Nat}{ls:Array Bool}{st:St}{K:St→Prop}(i:Nat)(is:List Nat)(h:Region.ready .any ops ls=i::is)(hk:Ku P N L ops n ls st K (i::is)):WA P N L ops (n+1) ls st K:=
 ⟨by rw[h];simp,fun j hj=>hk j (by rw[←h];exact hj)⟩
theorem bP{n:Nat}{ls:Array Bool}{st:St}{K:St→Prop}:Ku P N L ops n ls st K []:=fun i hi=>by simp at hi
theorem bp{n:Nat}{ls:Array Bool}{st:St}{K:St→Prop}{i:Nat}{is:List Nat}{o:Oper}(ho:ops[i]? =some o)(hg:o.guard=none)(h:WR P N L [o].toArray [o] st (fun s=>WA P N L ops n (ls.setIfInBounds i true) s K))(hs:Ku P N L ops n ls st K is):Ku P N L ops n ls st K (i::is):=fun j hj=>by
 rcases List.mem_cons.1 hj with rfl|hj
 ·exact⟨o,ho,hg,h⟩
 ·exact hs j hj
def H6(K:Act→World→Prop)(Q:Exit→Act→World→Prop):Exit→Act→World→Prop
 | .normal,a,w=>K a w
 |e,a,w=>Q e a w
theorem uW{o:Oper}{a:Act}{w:World}{K K' K'':Act→World→Prop}{Q:Exit→Act→World→Prop}(h:∀a w,K a w→K' a w)(hh:o.wp P a w K (H6 K'' Q)):o.wp P a w K' Q:=by
 unfold Oper.wp at*
 generalize (execOp a.eval o).run P w=x at*
 cases x with
 |ok n w'=>
  cases n<;>simp only[Oper.upon]at hh ⊢ <;>
   first
    |exact h _ _ hh
    |exact Calls.mono hh (fun e w'' he=>by cases e<;>first|exact h _ _ he|exact he)
    |exact Rows.mono hh (fun _ _ he=>h _ _ he)
 |halt x w'=>cases x<;>simp only[Oper.upon]at hh ⊢ <;>exact hh
theorem WA.any:∀ {n:Nat} {ls:Array Bool} {st:St} {K:St→Prop},WA P N L ops n ls st K→∀F base E₀ w₀ E a w,po base L E₀ w₀ E w→ee F base N st E a w→∀(Q:Exit→Act→World→Prop),(∀a' w',ni F base N E₀ w₀ K a' w'→Q .normal a' w')→wpAny P .any ops Q n ls a w
 |0,ls,st,K,h,F,base,E₀,w₀,E,a,w,hc,hs,Q,hQ=>⟨h.1,hQ a w ⟨st,E,h.2,hs,hc.g,hc.b⟩⟩
 |n+1,ls,st,K,h,F,base,E₀,w₀,E,a,w,hc,hs,Q,hQ=>by
  refine⟨fun h0=>absurd h0 h.1,fun i hi=>?_⟩
  obtain⟨o,ho,hg,hw⟩:=h.2 i hi
  have h1:=hw F base E₀ w₀ E a w hc hs (H6 (wpAny P .any ops Q n (ls.setIfInBounds i true)) Q) 0 (fun a' w' ⟨s,E',k1,k2,k3,k4⟩=>by
   show wpAny P .any ops Q n (ls.setIfInBounds i true) a' w'
   exact WA.any k1 F base E₀ w₀ E' a' w' ⟨hc.L,k3,k4⟩ k2 Q hQ) (fun j=>by simp)
  simp only[List.length_singleton]at h1
  rw[List.range'_succ,wpOps_cons]at h1
  unfold wpOp at h1 ⊢
  have hw1:∀y,Region.wanted o y=true:=fun y=>by unfold Region.wanted;rw[hg]
  simp only[List.getElem?_toArray,List.getElem?_cons_zero,hw1,if_true]at h1
  simp only[ho,hw1,if_true]
  rcases h1 with h1|⟨h1,h2⟩
  ·exact .inl (uW (fun a w h=>h) h1)
  ·exact .inr ⟨h1,h2⟩
theorem wI{id:Nat}{l:List Oper}{st:St}{Q:Exit→St→Prop}(hm:P.follows .mixedOrders=true)(h:WA P N L l.toArray l.length (Array.replicate l.length false) st (fun s=>Q .normal s)):W P N L (.region id l.toArray true) st Q:=fun F base E₀ w₀ E a w hc hs=>by
 refine wp_region_any hm ?_
 have hE:Ext w {w with drawn:=w.drawn+1}:=⟨rfl,rfl,rfl,Nat.le_refl _,fun _ _=>rfl⟩
 have:=h.any F base E₀ w₀ E a {w with drawn:=w.drawn+1} (hc.on (.ext hE) (Below.ik hE hs.sat.bl)) ⟨hs.sat.ext hE,hs.tmp.goes (.ext hE),hs.j9,hs.size⟩ (fun e a' w'=>ni F base N E₀ w₀ (Q e) a' w') (fun a' w' h=>h)
 simpa using this
theorem oZ{id:Nat}{l:List Oper}{y:Code}{st:St}{Q:Exit→St→Prop}(hm:P.follows .mixedOrders=true)(h:WA P N L l.toArray l.length (Array.replicate l.length false) st (fun s=>W P N L y s Q)):W P N L (.seq (.region id l.toArray true) y) st Q:=aj (wI hm h)
theorem sX{α:Type}{l:List α}{k:Nat}{x:α}(h:l[k]? =some x):l.set k x=l:=by
 obtain⟨hk,rfl⟩:=List.getElem?_eq_some_iff.1 h
 simp
theorem cw{c:Code}{t:cg}{σ:cc}{Q:Exit→St→Prop}(i k e s:Nat){ty:TypeId}{xs:List PV}(hi:σ[i]? =some (some (.cells ty xs)))(hk:xs[k]? =some (.raw (.slice none 0 0)))
  (h:W P N L c ⟨t,(σ++[some (cJ.row e s 0 [])]).set i (some (.cells ty (xs.set k (.own σ.length))))⟩ Q):W P N L c ⟨t,σ⟩ Q:=fun F base E₀ w₀ E a w hc hs=>by
 obtain⟨a1,a2,a3⟩:=Am hs.sat e s
 have hil:=(List.getElem?_eq_some_iff.1 hi).1
 have hi':(σ++[some (cJ.row e s 0 [])])[i]? =some (some (.cells ty xs)):=by rw[List.getElem?_append_left hil];exact hi
 obtain⟨b,cs,hb,h1,h2,h3⟩:=a1.blk i _ hi'
 obtain⟨cv,hcv,hrep⟩:=h3.get hk
 cases hrep
 obtain⟨b1,b2⟩:=a1.D3 hi' (b:=b) (by rw[hb];rfl) (Nat.le_refl _) (fun _ _ _=>rfl) (bi':=.cells ty (xs.set k (.own σ.length))) ⟨b,cs,hb,h1,h2,by
  have:=h3.set k a3
  rw[sX hcv]at this
  exact this⟩
 exact h F base E₀ w₀ _ a w (hc.on (a2.trans b2) (Below.refl _ _)) ⟨b1,(hs.tmp.goes a2).goes b2,hs.j9,hs.size⟩
inductive Bp (σ:cc) (t:cg):cg→Prop
 |nil:Bp σ t []
 |cons {t':cg} (k:Nat) {p q:PV}:look k t=some p→ay σ p q→Bp σ t t'→Bp σ t ((k,q)::t')
theorem Bp.get{σ:cc}{t t':cg}(h:Bp σ t t'):∀k q,look k t'=some q→∃p,look k t=some p∧ay σ p q:=by
 induction h with
 |nil=>intro k q h;cases h
 |cons k h1 h2 _ ih=>
  intro j q hj
  simp only[look]at hj
  rw[Bool.cond_eq_ite]at hj
  split at hj
  ·rename_i he
   have:=Nat.eq_of_beq_eq_true he
   subst this
   cases hj
   exact⟨_,h1,h2⟩
  ·exact ih j q hj
theorem xj{c:Code}{t t':cg}{σ:cc}{Q:Exit→St→Prop}(hT:Bp σ t t')(h:W P N 0 c ⟨t',[]⟩ Q):W P N 0 c ⟨t,σ⟩ Q:=fun F base E₀ w₀ E a w hc hs=>by
 have hF:∀b,F b→E.M b:=fun b hb=>(hs.sat.mm b).2 (.inl hb)
 refine h F base E₀ w₀ (EF F) a w ⟨hc.L,⟨by rw[hc.L];exact Nat.zero_le _,fun i hi=>by rw[hc.L]at hi;omega,fun b h1 h2 hf=>hc.g.M b h1 h2 (hF b hf),hc.g.size,hc.g.heap⟩,hc.b⟩
  ⟨⟨hs.sat.bl,fun b hb=>⟨(hs.sat.fb b hb).1,fun i blk h=>by simp at h⟩,rfl,fun b=>by simp[EF],fun i blk h=>by simp at h,fun i j bi bj b h=>by simp at h,hs.sat.gl.sub hF⟩,fun k q hq=>?_,hs.j9,hs.size⟩
 obtain⟨p,h1,h2⟩:=hT.get k q hq
 exact h2.rep hs.sat hF (fun b hb=>(hs.sat.fb b hb).2) _ (hs.tmp k p h1)
end
section
variable {P:Program} {N L:Nat} {ops:Array Oper} {Φ:sI} {Ts:List cg} {Ss:List cc} {K:St→Prop}
def Ad:Nat→Nat→List Bool
 |0,_=>[]
 |n+1,z=>Nat.beq (z % 2) 1::Ad n (z / 2)
def oK(n z:Nat):Array Bool:=(Ad n z).toArray
def H2(ops:Array Oper)(z:Nat)(l:List (Nat×Nat)):Bool:=
 !l.isEmpty &&(Region.ready .any ops (oK ops.size z)==l.map (·.1))&&l.all fun p=>(Ad ops.size z).set p.1 true==Ad ops.size p.2
def vi(Ts:List cg)(Ss:List cc)(j:Nat)(ks:List Nat)(k:Nat):Option St:=
 match Ts[j]? with
 |some T=>match iQ T ks with
  |some t=>match Ss[k]? with
   |some σ=>some ⟨t,σ⟩
   |none=>none
  |none=>none
 |none=>none
def WZ(P:Program)(N L:Nat)(ops:Array Oper)(Ts:List cg)(Ss:List cc)(K:St→Prop)(n z j:Nat)(ks:List Nat)(k:Nat):Prop:=
 ∀st,vi Ts Ss j ks k=some st→WA P N L ops n (oK ops.size z) st K
def Az(P:Program)(N L:Nat)(ops:Array Oper)(K:St→Prop)(n:Nat)(st:St)(l:List (Nat×Nat)):Prop:=
 ∀p∈l,∃o,ops[p.1]? =some o∧o.guard=none∧WR P N L [o].toArray [o] st (fun s=>WA P N L ops n (oK ops.size p.2) s K)
theorem uF{n:Nat}{ls:Array Bool}{st:St}(Ts:List cg)(Ss:List cc)(ks:List Nat)(hr:vi Ts Ss 0 ks 0=some st)(hl:ls=oK ops.size 0)(h:∀M:Nat→Nat→Nat→List Nat→Nat→Prop,(∀ {n z j ks k},WZ P N L ops Ts Ss K n z j ks k→M n z j ks k)→(∀ {n z j ks k},M n z j ks k→WZ P N L ops Ts Ss K n z j ks k)→M n 0 0 ks 0):WA P N L ops n ls st K:=by
 have:=h (WZ P N L ops Ts Ss K) id id st hr
 rwa [←hl]at this
theorem rY{z j k:Nat}{ks:List Nat}{st:St}(hr:vi Ts Ss j ks k=some st)(hz:Region.ready .any ops (oK ops.size z)=[])(hk:K st):WZ P N L ops Ts Ss K 0 z j ks k:=fun s hs=>by
 rw[hr]at hs
 cases hs
 exact j7 hz hk
theorem aa{n z j k:Nat}{ks:List Nat}{st:St}(l:List (Nat×Nat))(hr:vi Ts Ss j ks k=some st)(h:Az P N L ops K n st l)(hl:H2 ops z l=true:=by kernel_rfl):WZ P N L ops Ts Ss K (n+1) z j ks k:=fun s hs=>by
 rw[hr]at hs
 cases hs
 unfold H2 at hl
 simp only[Bool.and_eq_true,List.all_eq_true]at hl
 obtain⟨⟨h0,h1⟩,h2⟩:=hl
 have h1:=eq_of_beq h1
 refine⟨?_,fun i hi=>?_⟩
 ·rw[h1]
  intro e
  cases l with
  |nil=>simp at h0
  |cons a l=>simp at e
 ·rw[h1]at hi
  obtain⟨p,hp,rfl⟩:=List.mem_map.1 hi
  obtain⟨o,e1,e2,e3⟩:=h p hp
  refine⟨o,e1,e2,?_⟩
  have e:(oK ops.size z).setIfInBounds p.1 true=oK ops.size p.2:=by
   unfold oK
   rw[←eq_of_beq (h2 p hp)]
   simp
  rw[e]
  exact e3
theorem ae{n:Nat}{st:St}:Az P N L ops K n st []:=fun p hp=>by simp at hp
theorem qC{n i z:Nat}{st:St}{o:Oper}{l:List (Nat×Nat)}(ho:ops[i]? =some o)(hg:o.guard=none)(h:WR P N L [o].toArray [o] st (fun s=>WA P N L ops n (oK ops.size z) s K))(hs:Az P N L ops K n st l):Az P N L ops K n st ((i,z)::l):=fun p hp=>by
 rcases List.mem_cons.1 hp with rfl|hp
 ·exact⟨o,ho,hg,h⟩
 ·exact hs p hp
variable {n i z j k:Nat} {ks:List Nat} {o:Oper} {t t':cg} {σ σ':cc} {l:List (Nat×Nat)} {p:PV} {d:Nat}
theorem bx(ho:ops[i]? =some o)(hg:o.guard=none)(hy:bA P σ t o p)(hd:dk N [o].toArray t o=some d)(ha:WZ P N L ops Ts Ss K n z j ks k)(hr:vi Ts Ss j ks k=some ⟨t',σ⟩)(hk:iQ ((d,p)::t) ks=some t')(hs:Az P N L ops K n ⟨t,σ⟩ l):Az P N L ops K n ⟨t,σ⟩ ((i,z)::l):=
 qC ho hg (bw hy hd (aG ks hk (ha _ hr))) hs
theorem cf(ho:ops[i]? =some o)(hg:o.guard=none)(hy:cj P σ t o p σ')(hd:dk N [o].toArray t o=some d)(ha:WZ P N L ops Ts Ss K n z j ks k)(hr:vi Ts Ss j ks k=some ⟨t',σ'⟩)(hk:iQ ((d,p)::t) ks=some t')(hs:Az P N L ops K n ⟨t,σ⟩ l):Az P N L ops K n ⟨t,σ⟩ ((i,z)::l):=
 qC ho hg (b7 hy hd (aG ks hk (ha _ hr))) hs
theorem o5(ho:ops[i]? =some o)(hg:o.guard=none)(hy:cj P σ t o p σ')(hd:o.dst=none)(hw:fm [o].toArray t o=some true)(ha:WZ P N L ops Ts Ss K n z j ks k)(hr:vi Ts Ss j ks k=some ⟨t',σ'⟩)(hk:iQ t ks=some t')(hs:Az P N L ops K n ⟨t,σ⟩ l):Az P N L ops K n ⟨t,σ⟩ ((i,z)::l):=
 qC ho hg (bb hy hd hw (aG ks hk (ha _ hr))) hs
theorem fk[Has P Φ]{f:Nat}{ps:List PV}(ho:ops[i]? =some o)(hg:o.guard=none)(hf:oz Φ t o.op=some (f,ps))(hd:dk N [o].toArray t o=some d)(hc:bT P f ps σ (fun r s=>r=p∧s=σ'))(ha:WZ P N L ops Ts Ss K n z j ks k)(hr:vi Ts Ss j ks k=some ⟨t',σ'⟩)(hk:iQ ((d,p)::t) ks=some t')(hs:Az P N L ops K n ⟨t,σ⟩ l):Az P N L ops K n ⟨t,σ⟩ ((i,z)::l):=
 qC ho hg (cM hf hd (bT.mono hc (fun r s h=>by obtain⟨rfl,rfl⟩:=h;exact aG ks hk (ha _ hr)))) hs
def Ic(Φ:sI)(ops:Array Oper)(N:Nat)(t:cg)(σ:cc)(i:Nat)(ks:List Nat):Option cg:=
 match ops[i]? with
 |some o=>match o.guard with
  |none=>match ga Φ σ t o.op with
   |some p=>match dk N [o].toArray t o with
    |some d=>iQ ((d,p)::t) ks
    |none=>none
   |none=>none
  |some _=>none
 |none=>none
theorem ak[hP:Has P Φ](ha:WZ P N L ops Ts Ss K n z j ks k)(hr:vi Ts Ss j ks k=some ⟨t',σ⟩)(h:Ic Φ ops N t σ i ks=some t')(hs:Az P N L ops K n ⟨t,σ⟩ l):Az P N L ops K n ⟨t,σ⟩ ((i,z)::l):=by
 unfold Ic at h
 split at h
 ·rename_i o ho
  split at h
  ·rename_i hg
   split at h
   ·rename_i p hp
    split at h
    ·rename_i d hd
     exact bx ho hg (aZ hp) hd ha hr h hs
    ·cases h
   ·cases h
  ·cases h
 ·cases h
end
end
end PW
end Go.Proofs.YtnegbdpggideiaaGreatDoor
namespace Go.Proofs.YtnegbdpggideiaaGreatDoor
namespace eY
section
open Go.RowKit Go.Shelf Net
attribute [local go_sem] Oper.semAt_some
structure Kp (G n:Nat) (W W':World):Prop where
 size:W.heap.size≤W'.heap.size
 block:∀b,b<n→b≠G→W'.heap[b]? =W.heap[b]?
theorem Kp.refl(G n:Nat)(W:World):Kp G n W W:=⟨Nat.le_refl _,fun _ _ _=>rfl⟩
theorem Kp.trans{G n:Nat}{A B C:World}(h:Kp G n A B)(k:Kp G n B C):Kp G n A C:=⟨Nat.le_trans h.size k.size,fun b h1 h2=>(k.block b h1 h2).trans (h.block b h1 h2)⟩
theorem Kp.cell{G n:Nat}{W W':World}(h:Kp G n W W'){p:Addr}(hb:p.block<n)(hG:p.block≠G):W'.cell? p=W.cell? p:=World.cell?_of_block (h.block _ hb hG)
theorem ib{W:World}{a:Addr}{v:Value}(o:Obj)(h:W.cell? a=some v):(W.alloc o).cell? a=some v:=cell_kept h (World.grownBy_alloc W o none) (fun r e=>by cases e)
theorem Kp.alloc{G n:Nat}{W:World}(h:n≤W.heap.size)(o:Obj):Kp G n W (W.alloc o):=⟨by simp,fun b h1 _=>Below.heap_alloc _ _ _ (by omega)⟩
def cR(k x:Int)(L:List nM)(i:Nat):Bool:=if k=1 then decide ((i:Int)=x) else if k=2 then decide ((cC L i).a=x)||decide ((cC L i).b=x) else decide ((cC L i).vF=x)
abbrev Ix(N:Nat):= {i:Nat // i<N}
def lM(p:Nat→Bool)(N:Nat):Nat→List (Ix N)
 |0=>[]
 |k+1=>if h:p k=true∧k<N then lM p N k++[⟨k,h.2⟩] else lM p N k
theorem oI(p:Nat→Bool)(N:Nat):∀k,(lM p N k).length≤k
 |0=>Nat.le_refl _
 |k+1=>by
  simp only[lM]
  have:=oI p N k
  split
  ·simp;omega
  ·omega
theorem nR{p:Nat→Bool}{N k:Nat}(h:p k=true)(hk:k<N):lM p N (k+1)=lM p N k++[⟨k,hk⟩]:=by simp only[lM];rw[dif_pos ⟨h,hk⟩]
theorem vq{p:Nat→Bool}{N k:Nat}(h:p k=false):lM p N (k+1)=lM p N k:=by simp only[lM];rw[dif_neg (by rw[h];simp)]
set_option maxRecDepth 100000 in
set_option maxHeartbeats 4000000 in
theorem BF(F:Fence)(n:Nat)(hf:F.fn 160)(hro:F.round=none)(hn:1≤n)(l Bt Bc G n₁ b off cap:Nat)(L:List nM)(x:Int)(hreach:L.length≤1000)(hb:b<n₁)(hbG:b≠G)(hc1:Bc<n₁)(hcG:Bc≠G)(J Jx:List (Ix L.length)→World→Prop)
  (hY:∀pre (i:Ix L.length) W,J pre W→pre.length<L.length→YieldAt F (n - 1) Tryz.prog l #[.int .i64 (i.1:Int)] W fun e W'=>
   (e= .returned (.bool true)∧J (pre++[i]) W'∧Kp G n₁ W W')∨(e= .returned (.bool false)∧Jx (pre++[i]) W'))
  (W:World) (hBt:W.cell? ⟨Bt,2,none⟩=some (.slice (some ⟨b,off,none⟩) L.length cap)) (hBk:W.cell? ⟨Bc,0,none⟩=some (.int .i64 1)) (hBx:W.cell? ⟨Bc,1,none⟩=some (.int .i64 x))
  (hcs:∀i,i<L.length→W.cell? ⟨b,off+i*7,none⟩=some (.int .i64 (cC L i).a)∧W.cell? ⟨b,off+i*7+1,none⟩=some (.int .i64 (cC L i).b)∧W.cell? ⟨b,off+i*7+2,none⟩=some (.int .i64 (cC L i).c0)∧W.cell? ⟨b,off+i*7+3,none⟩=some (.int .i64 (cC L i).c1)∧W.cell? ⟨b,off+i*7+4,none⟩=some (.int .i64 (cC L i).cap)∧W.cell? ⟨b,off+i*7+5,none⟩=some (.int .i64 (cC L i).fK)∧W.cell? ⟨b,off+i*7+6,none⟩=some (.int .i64 (cC L i).vF))
  (hsz:n₁≤W.heap.size) (hA:AbidesFrom W.heap.size J) (h0:J [] W):
  CallsIn F n Tryz.prog 160 #[.func (.yield l) #[] #[],.pointer (some ⟨Bt,0,none⟩),.pointer (some ⟨Bc,0,none⟩)] W fun e W'=>(∃v,e= .returned v)∧
   ((∃ys,ys=lM (cR 1 x L) L.length L.length∧J ys W')∨(∃pre,Jx pre W')):=by
 refine callsIn_of_wp Tryz.func160 I hf ?_ hro
 simp only[Tryz.ntmps160,List.size_toArray,List.length_cons,List.length_nil,Nat.reduceAdd,Nat.reduceSub,Array.replicate_succ,Array.replicate_zero,List.push_toArray,List.append_toArray,List.nil_append,List.cons_append]
 gi_wp2
 gi_loopw [10] (fun i wr=>∃k:Nat,k≤L.length∧i= .int .i64 k∧J (lM (cR 1 x L) L.length k) wr∧Kp G n₁ W wr)
  (fun i _=>L.length - (intOf i).toNat)
 case atStart=>exact⟨0,Nat.zero_le _,rfl,h0,Kp.refl _ _ _⟩
 case round=>
  obtain⟨k,hk,rfl,hJs,hnx⟩:=hrel
  by_cases hlt:k<L.length
  ·obtain⟨a0,a1,a2,a3,a4,a5,a6⟩:=hcs k hlt
   have b0:=(hnx.cell (p:=⟨b,off+k*7,none⟩) hb hbG).trans a0
   have b1:=(hnx.cell (p:=⟨b,off+k*7+1,none⟩) hb hbG).trans a1
   have b2:=(hnx.cell (p:=⟨b,off+k*7+2,none⟩) hb hbG).trans a2
   have b3:=(hnx.cell (p:=⟨b,off+k*7+3,none⟩) hb hbG).trans a3
   have b4:=(hnx.cell (p:=⟨b,off+k*7+4,none⟩) hb hbG).trans a4
   have b5:=(hnx.cell (p:=⟨b,off+k*7+5,none⟩) hb hbG).trans a5
   have b6:=(hnx.cell (p:=⟨b,off+k*7+6,none⟩) hb hbG).trans a6
   have c0:=(hnx.cell (p:=⟨Bc,0,none⟩) hc1 hcG).trans hBk
   have c1:=(hnx.cell (p:=⟨Bc,1,none⟩) hc1 hcG).trans hBx
   clear a0 a1 a2 a3 a4 a5 a6
   obtain⟨fa,hfa⟩:∃v,(cC L k).a=v:=⟨_,rfl⟩
   obtain⟨fb,hfb⟩:∃v,(cC L k).b=v:=⟨_,rfl⟩
   obtain⟨fg,hfg⟩:∃v,(cC L k).vF=v:=⟨_,rfl⟩
   rw[hfa]at b0
   rw[hfb]at b1
   rw[hfg]at b6
   have d0:=ib (.cells #[.int .i64 fa,.int .i64 fb,.int .i64 (cC L k).c0,.int .i64 (cC L k).c1,.int .i64 (cC L k).cap,.int .i64 (cC L k).fK,.int .i64 fg] 127) c0
   have d1:=ib (.cells #[.int .i64 fa,.int .i64 fb,.int .i64 (cC L k).c0,.int .i64 (cC L k).c1,.int .i64 (cC L k).cap,.int .i64 (cC L k).fK,.int .i64 fg] 127) c1
   have hJ2:J (lM (cR 1 x L) L.length k) (wr.alloc (.cells #[.int .i64 fa,.int .i64 fb,.int .i64 (cC L k).c0,.int .i64 (cC L k).c1,.int .i64 (cC L k).cap,.int .i64 (cC L k).fK,.int .i64 fg] 127)):=hA _ _ _ none hJs (World.grownBy_alloc _ _ none) (fun r e=>by cases e)
   have hK2:Kp G n₁ W (wr.alloc (.cells #[.int .i64 fa,.int .i64 fb,.int .i64 (cC L k).c0,.int .i64 (cC L k).c1,.int .i64 (cC L k).cap,.int .i64 (cC L k).fK,.int .i64 fg] 127)):=hnx.trans (Kp.alloc (by have:=hnx.size;omega) _)
   by_cases hp:(k:Int)=x
   ·subst hp
    obtain⟨fn,tmps,assign,body,hy,hR⟩:=hY _ ⟨k,hlt⟩ _ hJ2 (by have:=oI (cR 1 (k:Int) L) L.length k;omega)
    dsimp only at hy
    have hpk:cR 1 (k:Int) L k=true:=by unfold cR;simp
    gi_wp2
    refine hR.mono ?_
    rintro e W3 (⟨rfl,hJ3,hk3⟩|⟨rfl,hJx3⟩)
    ·gi_wp2
     go_roundw
     case rel=>exact⟨k+1,by omega,by simp,by rw[nR hpk hlt];exact hJ3,hK2.trans hk3⟩
     case measure=>simp[intOf];omega
    ·gi_wp2
     refine bodyPost_ret (results_none rfl _ _ _) I ?_
     exact⟨⟨_,rfl⟩,.inr ⟨_,hJx3⟩⟩
   ·have hpk:cR 1 x L k=false:=by unfold cR;simp[hfa,hfb,hfg,hp]
    gi_wp2
    refine⟨fun _ h=>(by cases h),?_⟩
    gi_wp2
    go_roundw
    case rel=>exact⟨k+1,by omega,by simp,by rw[vq hpk];exact hJ2,hK2⟩
    case measure=>simp[intOf];omega
  ·obtain rfl:k=L.length:=by omega
   gi_wp2
   go_end0
   exact⟨⟨_,rfl⟩,.inl ⟨_,rfl,hJs⟩⟩
set_option maxRecDepth 100000 in
set_option maxHeartbeats 4000000 in
theorem Bj(F:Fence)(n:Nat)(hf:F.fn 160)(hro:F.round=none)(hn:1≤n)(l Bt Bc G n₁ b off cap:Nat)(L:List nM)(x:Int)(hreach:L.length≤1000)(hb:b<n₁)(hbG:b≠G)(hc1:Bc<n₁)(hcG:Bc≠G)(J Jx:List (Ix L.length)→World→Prop)
  (hY:∀pre (i:Ix L.length) W,J pre W→pre.length<L.length→YieldAt F (n - 1) Tryz.prog l #[.int .i64 (i.1:Int)] W fun e W'=>
   (e= .returned (.bool true)∧J (pre++[i]) W'∧Kp G n₁ W W')∨(e= .returned (.bool false)∧Jx (pre++[i]) W'))
  (W:World) (hBt:W.cell? ⟨Bt,2,none⟩=some (.slice (some ⟨b,off,none⟩) L.length cap)) (hBk:W.cell? ⟨Bc,0,none⟩=some (.int .i64 2)) (hBx:W.cell? ⟨Bc,1,none⟩=some (.int .i64 x))
  (hcs:∀i,i<L.length→W.cell? ⟨b,off+i*7,none⟩=some (.int .i64 (cC L i).a)∧W.cell? ⟨b,off+i*7+1,none⟩=some (.int .i64 (cC L i).b)∧W.cell? ⟨b,off+i*7+2,none⟩=some (.int .i64 (cC L i).c0)∧W.cell? ⟨b,off+i*7+3,none⟩=some (.int .i64 (cC L i).c1)∧W.cell? ⟨b,off+i*7+4,none⟩=some (.int .i64 (cC L i).cap)∧W.cell? ⟨b,off+i*7+5,none⟩=some (.int .i64 (cC L i).fK)∧W.cell? ⟨b,off+i*7+6,none⟩=some (.int .i64 (cC L i).vF))
  (hsz:n₁≤W.heap.size) (hA:AbidesFrom W.heap.size J) (h0:J [] W):
  CallsIn F n Tryz.prog 160 #[.func (.yield l) #[] #[],.pointer (some ⟨Bt,0,none⟩),.pointer (some ⟨Bc,0,none⟩)] W fun e W'=>(∃v,e= .returned v)∧
   ((∃ys,ys=lM (cR 2 x L) L.length L.length∧J ys W')∨(∃pre,Jx pre W')):=by
 refine callsIn_of_wp Tryz.func160 I hf ?_ hro
 simp only[Tryz.ntmps160,List.size_toArray,List.length_cons,List.length_nil,Nat.reduceAdd,Nat.reduceSub,Array.replicate_succ,Array.replicate_zero,List.push_toArray,List.append_toArray,List.nil_append,List.cons_append]
 gi_wp2
 gi_loopw [10] (fun i wr=>∃k:Nat,k≤L.length∧i= .int .i64 k∧J (lM (cR 2 x L) L.length k) wr∧Kp G n₁ W wr)
  (fun i _=>L.length - (intOf i).toNat)
 case atStart=>exact⟨0,Nat.zero_le _,rfl,h0,Kp.refl _ _ _⟩
 case round=>
  obtain⟨k,hk,rfl,hJs,hnx⟩:=hrel
  by_cases hlt:k<L.length
  ·obtain⟨a0,a1,a2,a3,a4,a5,a6⟩:=hcs k hlt
   have b0:=(hnx.cell (p:=⟨b,off+k*7,none⟩) hb hbG).trans a0
   have b1:=(hnx.cell (p:=⟨b,off+k*7+1,none⟩) hb hbG).trans a1
   have b2:=(hnx.cell (p:=⟨b,off+k*7+2,none⟩) hb hbG).trans a2
   have b3:=(hnx.cell (p:=⟨b,off+k*7+3,none⟩) hb hbG).trans a3
   have b4:=(hnx.cell (p:=⟨b,off+k*7+4,none⟩) hb hbG).trans a4
   have b5:=(hnx.cell (p:=⟨b,off+k*7+5,none⟩) hb hbG).trans a5
   have b6:=(hnx.cell (p:=⟨b,off+k*7+6,none⟩) hb hbG).trans a6
   have c0:=(hnx.cell (p:=⟨Bc,0,none⟩) hc1 hcG).trans hBk
   have c1:=(hnx.cell (p:=⟨Bc,1,none⟩) hc1 hcG).trans hBx
   clear a0 a1 a2 a3 a4 a5 a6
   obtain⟨fa,hfa⟩:∃v,(cC L k).a=v:=⟨_,rfl⟩
   obtain⟨fb,hfb⟩:∃v,(cC L k).b=v:=⟨_,rfl⟩
   obtain⟨fg,hfg⟩:∃v,(cC L k).vF=v:=⟨_,rfl⟩
   rw[hfa]at b0
   rw[hfb]at b1
   rw[hfg]at b6
   have d0:=ib (.cells #[.int .i64 fa,.int .i64 fb,.int .i64 (cC L k).c0,.int .i64 (cC L k).c1,.int .i64 (cC L k).cap,.int .i64 (cC L k).fK,.int .i64 fg] 127) c0
   have d1:=ib (.cells #[.int .i64 fa,.int .i64 fb,.int .i64 (cC L k).c0,.int .i64 (cC L k).c1,.int .i64 (cC L k).cap,.int .i64 (cC L k).fK,.int .i64 fg] 127) c1
   have hJ2:J (lM (cR 2 x L) L.length k) (wr.alloc (.cells #[.int .i64 fa,.int .i64 fb,.int .i64 (cC L k).c0,.int .i64 (cC L k).c1,.int .i64 (cC L k).cap,.int .i64 (cC L k).fK,.int .i64 fg] 127)):=hA _ _ _ none hJs (World.grownBy_alloc _ _ none) (fun r e=>by cases e)
   have hK2:Kp G n₁ W (wr.alloc (.cells #[.int .i64 fa,.int .i64 fb,.int .i64 (cC L k).c0,.int .i64 (cC L k).c1,.int .i64 (cC L k).cap,.int .i64 (cC L k).fK,.int .i64 fg] 127)):=hnx.trans (Kp.alloc (by have:=hnx.size;omega) _)
   by_cases hp:fa=x
   ·subst hp
    obtain⟨fn,tmps,assign,body,hy,hR⟩:=hY _ ⟨k,hlt⟩ _ hJ2 (by have:=oI (cR 2 fa L) L.length k;omega)
    dsimp only at hy
    have hpk:cR 2 fa L k=true:=by unfold cR;simp[hfa,hfb,hfg]
    gi_wp2
    refine hR.mono ?_
    rintro e W3 (⟨rfl,hJ3,hk3⟩|⟨rfl,hJx3⟩)
    ·gi_wp2
     go_roundw
     case rel=>exact⟨k+1,by omega,by simp,by rw[nR hpk hlt];exact hJ3,hK2.trans hk3⟩
     case measure=>simp[intOf];omega
    ·gi_wp2
     refine bodyPost_ret (results_none rfl _ _ _) I ?_
     exact⟨⟨_,rfl⟩,.inr ⟨_,hJx3⟩⟩
   ·by_cases hq:fb=x
    ·subst hq
     obtain⟨fn,tmps,assign,body,hy,hR⟩:=hY _ ⟨k,hlt⟩ _ hJ2 (by have:=oI (cR 2 fb L) L.length k;omega)
     dsimp only at hy
     have hpk:cR 2 fb L k=true:=by unfold cR;simp[hfa,hfb,hfg]
     gi_wp2
     refine hR.mono ?_
     rintro e W3 (⟨rfl,hJ3,hk3⟩|⟨rfl,hJx3⟩)
     ·gi_wp2
      go_roundw
      case rel=>exact⟨k+1,by omega,by simp,by rw[nR hpk hlt];exact hJ3,hK2.trans hk3⟩
      case measure=>simp[intOf];omega
     ·gi_wp2
      refine bodyPost_ret (results_none rfl _ _ _) I ?_
      exact⟨⟨_,rfl⟩,.inr ⟨_,hJx3⟩⟩
    ·have hpk:cR 2 x L k=false:=by unfold cR;simp[hfa,hfb,hfg,hp,hq]
     gi_wp2
     refine⟨fun _ h=>(by cases h),?_⟩
     gi_wp2
     go_roundw
     case rel=>exact⟨k+1,by omega,by simp,by rw[vq hpk];exact hJ2,hK2⟩
     case measure=>simp[intOf];omega
  ·obtain rfl:k=L.length:=by omega
   gi_wp2
   go_end0
   exact⟨⟨_,rfl⟩,.inl ⟨_,rfl,hJs⟩⟩
set_option maxRecDepth 100000 in
set_option maxHeartbeats 4000000 in
theorem Bd(F:Fence)(n:Nat)(hf:F.fn 160)(hro:F.round=none)(hn:1≤n)(l Bt Bc G n₁ b off cap:Nat)(L:List nM)(x:Int)(hreach:L.length≤1000)(hb:b<n₁)(hbG:b≠G)(hc1:Bc<n₁)(hcG:Bc≠G)(J Jx:List (Ix L.length)→World→Prop)
  (hY:∀pre (i:Ix L.length) W,J pre W→pre.length<L.length→YieldAt F (n - 1) Tryz.prog l #[.int .i64 (i.1:Int)] W fun e W'=>
   (e= .returned (.bool true)∧J (pre++[i]) W'∧Kp G n₁ W W')∨(e= .returned (.bool false)∧Jx (pre++[i]) W'))
  (W:World) (hBt:W.cell? ⟨Bt,2,none⟩=some (.slice (some ⟨b,off,none⟩) L.length cap)) (hBk:W.cell? ⟨Bc,0,none⟩=some (.int .i64 3)) (hBx:W.cell? ⟨Bc,1,none⟩=some (.int .i64 x))
  (hcs:∀i,i<L.length→W.cell? ⟨b,off+i*7,none⟩=some (.int .i64 (cC L i).a)∧W.cell? ⟨b,off+i*7+1,none⟩=some (.int .i64 (cC L i).b)∧W.cell? ⟨b,off+i*7+2,none⟩=some (.int .i64 (cC L i).c0)∧W.cell? ⟨b,off+i*7+3,none⟩=some (.int .i64 (cC L i).c1)∧W.cell? ⟨b,off+i*7+4,none⟩=some (.int .i64 (cC L i).cap)∧W.cell? ⟨b,off+i*7+5,none⟩=some (.int .i64 (cC L i).fK)∧W.cell? ⟨b,off+i*7+6,none⟩=some (.int .i64 (cC L i).vF))
  (hsz:n₁≤W.heap.size) (hA:AbidesFrom W.heap.size J) (h0:J [] W):
  CallsIn F n Tryz.prog 160 #[.func (.yield l) #[] #[],.pointer (some ⟨Bt,0,none⟩),.pointer (some ⟨Bc,0,none⟩)] W fun e W'=>(∃v,e= .returned v)∧
   ((∃ys,ys=lM (cR 3 x L) L.length L.length∧J ys W')∨(∃pre,Jx pre W')):=by
 refine callsIn_of_wp Tryz.func160 I hf ?_ hro
 simp only[Tryz.ntmps160,List.size_toArray,List.length_cons,List.length_nil,Nat.reduceAdd,Nat.reduceSub,Array.replicate_succ,Array.replicate_zero,List.push_toArray,List.append_toArray,List.nil_append,List.cons_append]
 gi_wp2
 gi_loopw [10] (fun i wr=>∃k:Nat,k≤L.length∧i= .int .i64 k∧J (lM (cR 3 x L) L.length k) wr∧Kp G n₁ W wr)
  (fun i _=>L.length - (intOf i).toNat)
 case atStart=>exact⟨0,Nat.zero_le _,rfl,h0,Kp.refl _ _ _⟩
 case round=>
  obtain⟨k,hk,rfl,hJs,hnx⟩:=hrel
  by_cases hlt:k<L.length
  ·obtain⟨a0,a1,a2,a3,a4,a5,a6⟩:=hcs k hlt
   have b0:=(hnx.cell (p:=⟨b,off+k*7,none⟩) hb hbG).trans a0
   have b1:=(hnx.cell (p:=⟨b,off+k*7+1,none⟩) hb hbG).trans a1
   have b2:=(hnx.cell (p:=⟨b,off+k*7+2,none⟩) hb hbG).trans a2
   have b3:=(hnx.cell (p:=⟨b,off+k*7+3,none⟩) hb hbG).trans a3
   have b4:=(hnx.cell (p:=⟨b,off+k*7+4,none⟩) hb hbG).trans a4
   have b5:=(hnx.cell (p:=⟨b,off+k*7+5,none⟩) hb hbG).trans a5
   have b6:=(hnx.cell (p:=⟨b,off+k*7+6,none⟩) hb hbG).trans a6
   have c0:=(hnx.cell (p:=⟨Bc,0,none⟩) hc1 hcG).trans hBk
   have c1:=(hnx.cell (p:=⟨Bc,1,none⟩) hc1 hcG).trans hBx
   clear a0 a1 a2 a3 a4 a5 a6
   obtain⟨fa,hfa⟩:∃v,(cC L k).a=v:=⟨_,rfl⟩
   obtain⟨fb,hfb⟩:∃v,(cC L k).b=v:=⟨_,rfl⟩
   obtain⟨fg,hfg⟩:∃v,(cC L k).vF=v:=⟨_,rfl⟩
   rw[hfa]at b0
   rw[hfb]at b1
   rw[hfg]at b6
   have d0:=ib (.cells #[.int .i64 fa,.int .i64 fb,.int .i64 (cC L k).c0,.int .i64 (cC L k).c1,.int .i64 (cC L k).cap,.int .i64 (cC L k).fK,.int .i64 fg] 127) c0
   have d1:=ib (.cells #[.int .i64 fa,.int .i64 fb,.int .i64 (cC L k).c0,.int .i64 (cC L k).c1,.int .i64 (cC L k).cap,.int .i64 (cC L k).fK,.int .i64 fg] 127) c1
   have hJ2:J (lM (cR 3 x L) L.length k) (wr.alloc (.cells #[.int .i64 fa,.int .i64 fb,.int .i64 (cC L k).c0,.int .i64 (cC L k).c1,.int .i64 (cC L k).cap,.int .i64 (cC L k).fK,.int .i64 fg] 127)):=hA _ _ _ none hJs (World.grownBy_alloc _ _ none) (fun r e=>by cases e)
   have hK2:Kp G n₁ W (wr.alloc (.cells #[.int .i64 fa,.int .i64 fb,.int .i64 (cC L k).c0,.int .i64 (cC L k).c1,.int .i64 (cC L k).cap,.int .i64 (cC L k).fK,.int .i64 fg] 127)):=hnx.trans (Kp.alloc (by have:=hnx.size;omega) _)
   by_cases hp:fg=x
   ·subst hp
    obtain⟨fn,tmps,assign,body,hy,hR⟩:=hY _ ⟨k,hlt⟩ _ hJ2 (by have:=oI (cR 3 fg L) L.length k;omega)
    dsimp only at hy
    have hpk:cR 3 fg L k=true:=by unfold cR;simp[hfa,hfb,hfg]
    gi_wp2
    refine hR.mono ?_
    rintro e W3 (⟨rfl,hJ3,hk3⟩|⟨rfl,hJx3⟩)
    ·gi_wp2
     go_roundw
     case rel=>exact⟨k+1,by omega,by simp,by rw[nR hpk hlt];exact hJ3,hK2.trans hk3⟩
     case measure=>simp[intOf];omega
    ·gi_wp2
     refine bodyPost_ret (results_none rfl _ _ _) I ?_
     exact⟨⟨_,rfl⟩,.inr ⟨_,hJx3⟩⟩
   ·have hpk:cR 3 x L k=false:=by unfold cR;simp[hfa,hfb,hfg,hp]
    gi_wp2
    refine⟨fun _ h=>(by cases h),?_⟩
    gi_wp2
    go_roundw
    case rel=>exact⟨k+1,by omega,by simp,by rw[vq hpk];exact hJ2,hK2⟩
    case measure=>simp[intOf];omega
  ·obtain rfl:k=L.length:=by omega
   gi_wp2
   go_end0
   exact⟨⟨_,rfl⟩,.inl ⟨_,rfl,hJs⟩⟩
end
end eY
end Go.Proofs.YtnegbdpggideiaaGreatDoor
namespace Go.Proofs.YtnegbdpggideiaaGreatDoor
namespace PW
section
open Go.RowKit cE Mem
section
variable {P:Program} {N L:Nat}
theorem Cc(p:PV)(n:Nat):dP [p] n=List.replicate n p:=by
 induction n with
 |zero=>rfl
 |succ n ih=>simp only[dP,ih,List.replicate_succ];rfl
theorem km.of{fs:List Nat}{σ:cc}:∀(σ':cc) (js:List Nat),σ'.length=js.length→(∀(i:Nat) b' j,σ'[i]? =some (some b')→js[i]? =some j→∃b,σ[j]? =some (some b)∧yZ fs b' b)→km fs σ σ' js
 | [],[],_,_=>.nil
 |none::σ',j::js,hl,h=>.gone (km.of σ' js (by simpa using hl) (fun i b' k h1 h2=>h (i+1) b' k (by simpa using h1) (by simpa using h2)))
 |some b'::σ',j::js,hl,h=>by
  obtain⟨b,h1,h2⟩:=h 0 b' j rfl rfl
  exact .kept h1 h2 (km.of σ' js (by simpa using hl) (fun i b' k h1 h2=>h (i+1) b' k (by simpa using h1) (by simpa using h2)))
 | [],_::_,hl,_=>by simp at hl
 |_::_,[],hl,_=>by simp at hl
theorem ue:∀(l:List Nat),l.Nodup→jX l=true
 | [],_=>rfl
 |x::l,h=>by
  rw[List.nodup_cons]at h
  simp[jX,h.1,ue l h.2]
theorem si{c:Code}{t:cg}{σ:cc}{Q:Exit→St→Prop}(i k e s:Nat){e1 s1 n:Nat}{xs:List PV}(hi:σ[i]? =some (some (.row e1 s1 n xs)))(hk:xs[k]? =some (.raw (.slice none 0 0)))
  (h:W P N L c ⟨t,(σ++[some (cJ.row e s 0 [])]).set i (some (.row e1 s1 n (xs.set k (.own σ.length))))⟩ Q):W P N L c ⟨t,σ⟩ Q:=fun F base E₀ w₀ E a w hc hs=>by
 obtain⟨a1,a2,a3⟩:=Am hs.sat e s
 have hil:=(List.getElem?_eq_some_iff.1 hi).1
 have hi':(σ++[some (cJ.row e s 0 [])])[i]? =some (some (.row e1 s1 n xs)):=by rw[List.getElem?_append_left hil];exact hi
 obtain⟨cs,h2,h3⟩:=a1.blk i _ hi'
 obtain⟨cv,hcv,hrep⟩:=h3.get hk
 cases hrep
 have hb:∃b,bF ((E.push (.slice none 0 0)).at_ i)=some b:=by
  rcases h2.2 with hz|⟨g,cap,cur,hv,_⟩
  ·have h4:=h2.1
   rw[hz.2,Nat.zero_mul]at h4
   rw[List.eq_nil_of_length_eq_zero h4]at hcv
   simp at hcv
  ·exact⟨g,by rw[hv];rfl⟩
 obtain⟨b,hb⟩:=hb
 obtain⟨b1,b2⟩:=a1.D3 hi' (b:=b) hb (Nat.le_refl _) (fun _ _ _=>rfl) (bi':=.row e1 s1 n (xs.set k (.own σ.length))) ⟨cs,h2,by
  have:=h3.set k a3
  rw[sX hcv]at this
  exact this⟩
 exact h F base E₀ w₀ _ a w (hc.on (a2.trans b2) (Below.refl _ _)) ⟨b1,(hs.tmp.goes a2).goes b2,hs.j9,hs.size⟩
def fY(n:Nat):List PV:=(List.range n).map fun i=>.own (i+1)
def lH(e1 e:TypeId)(rs:List (List Int)):cc:=some (.row e1 1 rs.length (fY rs.length))::rs.map fun r=>some (.row e 1 r.length (aK r))
def nW(e1 e n k:Nat):cc:=some (.row e1 1 n (fY k++List.replicate (n - k) (PV.raw (.slice none 0 0))))::List.replicate k (some (.row e 1 0 []))
theorem Aq{c:Code}{t:cg}{Q:Exit→St→Prop}(e1 e n:Nat)(h:W P N L c ⟨t,nW e1 e n n⟩ Q):∀m k,k+m=n→W P N L c ⟨t,nW e1 e n k⟩ Q
  | 0, k, hk => by obtain rfl : k = n := by omega
                   exact h
  |m+1,k,hk=>by
    have ih:=Aq e1 e n h m (k+1) (by omega)
    have hol:(fY k).length=k:=by simp[fY]
    refine si 0 k e 1 (e1:=e1) (s1:=1) (n:=n) (xs:=fY k++List.replicate (n - k) (PV.raw (.slice none 0 0))) I ?_ ?_
    · rw[List.getElem?_append_right (by omega),hol,List.getElem?_replicate,if_pos (by omega)]
    · have e2:(nW e1 e n k++[some (cJ.row e 1 0 [])]).set 0 (some (.row e1 1 n ((fY k++List.replicate (n - k) (PV.raw (.slice none 0 0))).set k (.own (nW e1 e n k).length))))=nW e1 e n (k+1):=by
        unfold nW
        simp only[List.cons_append,List.set_cons_zero,List.length_cons,List.length_replicate]
        congr 3
        · rw[List.set_append_right _ _ (by omega),hol,Nat.sub_self,show n - k=(n - (k+1))+1 by omega,List.replicate_succ,List.set_cons_zero]
          unfold fY
          rw[List.range_succ,List.map_append]
          simp
        · rw[List.replicate_succ']
      rw[e2];exact ih
theorem p9{c:Code}{t:cg}{Q:Exit→St→Prop}(e1 e n:Nat)(h:W P N L c ⟨t,lH e1 e (List.replicate n [])⟩ Q):W P N L c ⟨t,[some (.row e1 1 n (dP [.raw (.slice none 0 0)] n))]⟩ Q:=by
 have:=Aq (P:=P) (N:=N) (L:=L) (c:=c) (t:=t) (Q:=Q) e1 e n (by
  have e2:nW e1 e n n=lH e1 e (List.replicate n []):=by
   unfold nW lH
   simp[aK]
  rw[e2];exact h) n 0 (by omega)
 rw[Cc]
 simpa[nW,fY]using this
def FI(n k:Nat):List Nat:=0::(List.range n).map fun i=>if i=k then n+1 else i+1
theorem tp(n k:Nat):jX (FI n k)=true:=by
 apply ue
 unfold FI
 rw[List.nodup_cons]
 constructor
 ·simp only[List.mem_map,not_exists,not_and]
  intro i _ h
  split at h<;>omega
 ·rw[List.nodup_iff_pairwise_ne,List.pairwise_map]
  refine List.Pairwise.imp_of_mem ?_ (List.nodup_iff_pairwise_ne.1 List.nodup_range)
  intro i j hi hj hij h
  have:=List.mem_range.1 hi
  have:=List.mem_range.1 hj
  split at h<;>split at h<;>omega
theorem vo(n k i:Nat)(hi:i<n):(FI n k)[i+1]? =some (if i=k then n+1 else i+1):=by
 unfold FI
 simp[hi]
theorem ma(n i:Nat)(hi:i<n):(fY n)[i]? =some (.own (i+1)):=by simp[fY,hi]
theorem lP(e1 e:TypeId)(rs:List (List Int))(k:Nat)(hk:k<rs.length):(lH e1 e rs)[k+1]? =some (some (.row e 1 (rs.getD k []).length (aK (rs.getD k [])))):=by
 unfold lH
 simp[hk]
theorem wz(e1 e:TypeId)(rs:List (List Int))(k:Nat)(hk:k<rs.length)(x:Int):
  km (FI rs.length k) (((lH e1 e rs).set (k+1) none++[some (cJ.row e 1 ((rs.getD k []).length+1) (aK (rs.getD k [])++[.raw (.int .i64 x)]))]).set 0 (some (.row e1 1 rs.length (over (fY rs.length) k [.own (lH e1 e rs).length])))) (lH e1 e (rs.set k (rs.getD k []++[x]))) (FI rs.length k):=by
 have hol:(fY rs.length).length=rs.length:=by simp[fY]
 have hlen:(lH e1 e rs).length=rs.length+1:=by simp[lH]
 have hov:over (fY rs.length) k [.own (lH e1 e rs).length]=(fY rs.length).set k (.own (rs.length+1)):=by
  unfold over
  rw[hlen,List.set_eq_take_append_cons_drop,if_pos (by omega)]
  simp
 rw[hov]
 apply km.of
 ·simp[lH,FI]
 ·intro i b' j h1 h2
  cases i with
  |zero=>
   simp only[lH,List.getElem?_cons_zero,Option.some.injEq,List.length_set]at h1
   simp only[FI,List.getElem?_cons_zero,Option.some.injEq]at h2
   subst h1;subst h2
   refine⟨.row e1 1 rs.length ((fY rs.length).set k (.own (rs.length+1))),by simp[lH],.row ⟨by simp,fun i a b k1 k2=>?_⟩⟩
   have hi:i<rs.length:=by have:=(List.getElem?_eq_some_iff.1 k1).1;omega
   rw[ma _ _ hi]at k1
   cases k1
   rw[List.getElem?_set]at k2
   split at k2
   ·rename_i e';subst e'
    rw[if_pos (by omega)]at k2
    cases k2
    exact .own (by rw[vo _ _ _ hi,if_pos rfl])
   ·rename_i e'
    rw[ma _ _ hi]at k2
    cases k2
    exact .own (by rw[vo _ _ _ hi,if_neg (Ne.symm e')])
  |succ i=>
   have hi:i<rs.length:=by
    have:=(List.getElem?_eq_some_iff.1 h1).1
    simp[lH]at this
    exact this
   rw[lP _ _ _ _ (by simpa using hi)]at h1
   rw[vo _ _ _ hi]at h2
   cases h1
   by_cases e':i=k
   ·rw[if_pos e']at h2
    cases h2
    subst e'
    refine⟨.row e 1 ((rs.getD i []).length+1) (aK (rs.getD i [])++[.raw (.int .i64 x)]),?_,?_⟩
    ·rw[List.getElem?_set_ne (by omega),List.getElem?_append_right (by simp[hlen])]
     simp[hlen]
    ·have hg:(rs.set i (rs.getD i []++[x])).getD i []=rs.getD i []++[x]:=by simp[List.getD_eq_getElem?_getD,hi]
     rw[hg,dA]
     exact .fF (by simp) I
   ·rw[if_neg e']at h2
    cases h2
    refine⟨.row e 1 (rs.getD i []).length (aK (rs.getD i [])),?_,?_⟩
    ·rw[List.getElem?_set_ne (by omega),List.getElem?_append_left (by simp[hlen];omega),List.getElem?_set_ne (by omega),lP _ _ _ _ hi]
    ·have hg:(rs.set k (rs.getD k []++[x])).getD i []=rs.getD i []:=by simp[List.getD_eq_getElem?_getD,List.getElem?_set,Ne.symm e']
     rw[hg]
     exact .row aH.pure
def ko(rs:List (List Int)):PV:=.slice rs.length (rs.map au)
instance (rs:List (List Int)):aL (rs.map au):=aL.map _ _ fun _=>inferInstance
instance (rs:List (List Int)):IsPure (ko rs):=by unfold ko;infer_instance
theorem vR(e1 e:TypeId)(rs:List (List Int)):ay (lH e1 e rs) (.own 0) (ko rs):=by
 refine ay.fr rfl ⟨by simp[fY],fun i a b h1 h2=>?_⟩
 have hi:i<rs.length:=by have:=(List.getElem?_eq_some_iff.1 h2).1;simpa using this
 rw[ma _ _ hi]at h1
 cases h1
 have:b=au (rs.getD i []):=by simpa[hi]using h2.symm
 subst this
 exact ay.fr (lP e1 e rs i hi) af.pure
def dE(f:Nat→Int)(n k:Nat):List (List Int):=(List.range n).map fun(m:Nat)=>((List.range k).filter fun a=>decide (f a=(m:Int))).map Int.ofNat
theorem fp(f:Nat→Int)(n k:Nat):(dE f n k).length=n:=by simp[dE]
theorem jd(f:Nat→Int)(n k m:Nat)(hm:m<n):(dE f n k).getD m []=((List.range k).filter fun a=>decide (f a=(m:Int))).map Int.ofNat:=by simp[dE,hm]
theorem qI(f:Nat→Int)(n:Nat):dE f n 0=List.replicate n []:=by
 apply List.ext_getElem?
 intro i
 simp only[dE,List.range_zero,List.filter_nil,List.map_nil,List.getElem?_map,List.getElem?_replicate]
 by_cases h:i<n<;>simp[h]
theorem rb(f:Nat→Int)(n k m:Nat)(hm:f k=(m:Int))(hmn:m<n):dE f n (k+1)=(dE f n k).set m ((dE f n k).getD m []++[(k:Int)]):=by
 apply List.ext_getElem?
 intro i
 rw[List.getElem?_set]
 by_cases h:i<n
 ·have hl:i<(dE f n k).length:=by rw[fp];exact h
  by_cases e:m=i
  ·subst e
   rw[if_pos rfl,if_pos hl,jd _ _ _ _ h]
   simp[dE,h,List.range_succ,List.filter_append,hm]
  ·rw[if_neg e]
   simp[dE,h,List.range_succ,List.filter_append,hm]
   omega
 ·have hl:¬i<(dE f n k).length:=by rw[fp];exact h
  have:(dE f n (k+1))[i]? =none:=by simp[dE,h]
  rw[this]
  split
  ·rw[if_neg (by omega)]
  ·simp[dE,h]
end
open Net
theorem Jg{P:Program}{σ:cc}{t:cg}{o:Oper}{x y:Operand}{ty tz:TypeId}{a:Nat}(ho:o.op= .binOp .xor ty x y tz)(hx:aF t x=some (num a))(hy:aF t y=some (num 1))(ha:a<9223372036854775806):bA P σ t o (num (flip a:Int)):=
 lD ho hx hy fun w=>by
  have h:IntKind.i64.wrap ((BitVec.ofInt IntKind.i64.bits (a:Int) ^^^ BitVec.ofInt IntKind.i64.bits 1).toNat:Int)=(flip a:Int):=Gt a ha
  simp only[binOp,Op.intBits,h]
  rfl
theorem yb(a:Nat):((a:Int)).tdiv 2=((a / 2:Nat):Int):=rfl
theorem Et(a:Nat):((a:Int)).tmod 2=((a % 2:Nat):Int):=rfl
theorem aT{T:an}{n:Int}:bm T n=true↔0≤n∧n<T.nodes:=by simp[bm]
theorem bV{T:an}(h:aq T=true):T.ag.length≤256:=(fW h).2.2.1
theorem tt{b:Prop}[Decidable b](h:decide b=true):b:=of_decide_eq_true h
theorem ff{b:Prop}[Decidable b](h:decide b=false):¬b:=of_decide_eq_false h
theorem jJ{E:Env}{w:World}{v:Value}{n:Nat}{xs:List PV}(h:cK E w v (.slice n xs)):n≤maxLen:=by
 obtain⟨a,c,_,h1,h2⟩:=qE h
 omega
theorem lq{P:Program}{f:FuncId}{ps:List PV}{R:PV→Prop}(h:(∃E w vs,bd E w vs ps)→Can P f ps R):Can P f ps R:=fun F w vs hF hG hR=>h ⟨_,_,_,hR⟩ F w vs hF hG hR
theorem wK{P:Program}{f:FuncId}{T:an}{ps:List PV}{R:PV→Prop}(h:T.ag.length≤maxLen→T.over.length≤maxLen→Can P f (aN T::ps) R):Can P f (aN T::ps) R:=by
 refine lq fun⟨E,w,vs,hR⟩=>?_
 obtain⟨v,_,hv⟩:=hR.get (i:=0) I
 unfold aN bC at hv
 cases hv with
 |agg cs _ hl hr=>
  have hr:bd E w cs.toList _:=⟨by simpa using hl,fun i x u h1 h2=>hr i x u (by simpa using h1) h2⟩
  obtain⟨v1,_,h1⟩:=hr.get (i:=1) I
  obtain⟨v2,_,h2⟩:=hr.get (i:=2) I
  exact h (jJ h2) (jJ h1)
theorem iu(T:an)(hl:T.ag.length≤4611686018427387903):Can Tryz.prog 113 [aN T] (· =num (2*(T.ag.length:Int))):=by
 exact aI Tryz.func113 I Tryz.ntmps113 I<|ab (.a 2 I<|.k [1] I)<|ab (.a 3 I<|.v (aV I) I<|.a 1 I<|.k [2] I)<|ao<|⟨_,_,az.of I,ay.pure,rfl⟩
theorem jq(T:an)(a:Nat)(ha:a<2*T.ag.length):Can Tryz.prog 79 [aN T,num a] (· =num (br T a)):=by
 have hi:a / 2<T.ag.length:=by omega
 refine wK fun hm _=>?_
 unfold maxLen at hm
 refine aI Tryz.func79 I Tryz.ntmps79 I<|ab (.a 2 I<|.k [1,2] I)<|aj<|ab (.a 1 I<|.v (tP I I I (by decide) (Et a)) I<|.a 1 I<|.k [1,2,7] I)<|ah I (fun hc=>?_) (fun hc=>?_)
 ·have h2:a % 2=0:=by have:=tt hc;omega
  unfold br
  rw[if_pos h2]
  exact ab (.a 3 I<|.v (jP I I I (by decide) (yb a) (by unfold In64;omega)) I<|.v (aM (a / 2*7) I) I<|.a 1 I<|.v (aJ I (fq T.ag (a / 2) 0 hi (by omega))) I<|.a 1 I<|.k [4] I)<|ao<|⟨_,_,az.of I,ay.pure,rfl⟩
 ·have h2:¬a % 2=0:=by have:=ff hc;omega
  unfold br
  rw[if_neg h2]
  exact ai<|ab (.a 3 I<|.v (jP I I I (by decide) (yb a) (by unfold In64;omega)) I<|.v (aM (a / 2*7) I) I<|.a 1 I<|.v (aJ I (fq T.ag (a / 2) 1 hi (by omega))) I<|.a 1 I<|.k [4] I)<|ao<|⟨_,_,az.of I,ay.pure,rfl⟩
theorem fZ(T:an)(a:Nat)(ha:a<2*T.ag.length)(hl:T.ag.length≤4611686018427387902):Can Tryz.prog 150 [aN T,num a] (· =num (aS T a)):=by
 exact aI Tryz.func150 I Tryz.ntmps150 I<|ab (.a 2 I<|.k [1,2] I)<|ab (.a 2 I<|.v (Jg I I I (by omega)) I<|.c rfl (jq T (Net.flip a) (by unfold Net.flip;split<;>omega)) I<|.a 1 I<|.k [4] I)<|ao<|⟨_,_,az.of I,ay.pure,rfl⟩
theorem wx(T:an)(a:Nat)(hi:a / 2<T.ag.length):(iA T.ag)[a / 2*7+2+a % 2]? =some (num (cn T a)):=by
 rw[Nat.add_assoc,fq T.ag (a / 2) (2+a % 2) hi (by omega)]
 unfold cn
 rcases Nat.mod_two_eq_zero_or_one a with h|h<;>rw[h]
 ·rfl
 ·rfl
theorem mg(T:an)(a:Nat)(ha:a<2*T.ag.length):Can Tryz.prog 149 [aN T,num a] (· =num (cn T a)):=by
 have hi:a / 2<T.ag.length:=by omega
 refine wK fun hm _=>?_
 unfold maxLen at hm
 exact aI Tryz.func149 I Tryz.ntmps149 I<|ab (.a 2 I<|.k [1,2] I)<|ab (.a 3 I<|.v (jP I I I (by decide) (yb a) (by unfold In64;omega)) I<|.a 1 I<|.v (tP I I I (by decide) (Et a)) I<|.v (aM (a / 2*7) I) I<|.a 1 I<|.v (aM (a % 2) I) I<|.v (aJ I (wx T a hi)) I<|.a 1 I<|.k [4] I)<|ao<|⟨_,_,az.of I,ay.pure,rfl⟩
theorem nS(T:an)(n:Nat)(hn:T.over.length=0∨n<T.over.length):Can Tryz.prog 161 [aN T,num n] (· =flag (dh T n)):=by
 obtain⟨p1,hp1⟩:∃q,decide (0<(T.over.length:Int))=q:=⟨_,rfl⟩
 obtain⟨p2,hp2⟩:∃q,T.over.getD n false=q:=⟨_,rfl⟩
 have he:dh T n=(p1&&p2):=by
  unfold dh
  cases p1
  ·have:=ff hp1
   rw[List.getD_eq_getElem?_getD,List.getElem?_eq_none (by omega)];rfl
  ·exact hp2
 rw[he]
 refine aI Tryz.func161 I Tryz.ntmps161 I<|ab (.a 2 I<|.k [1,2] I)<|bE 4 (.raw (.bool (p1&&p2))) [] I ?_ ?_
 ·refine .a 3 I<|.v (cd I (hp1)) I<|.a 1 I<|?_
  cases p1
  ·exact .a 7 I<|.k [4] I
  ·exact .a 3 I<|.v (aM (n) I (by omega) (by have:=tt hp1;omega)) I<|.v (aJ I (show _=some (flag p2) by rw[dy _ n (by have:=tt hp1;omega),hp2])) I<|.a 2 I<|.k [4] I
 exact ao<|⟨_,_,az.of I,ay.pure,rfl⟩
theorem dF(T:an)(n:Int):Can Tryz.prog 100 [aN T,num n] (· =flag (bm T n)):=by
 obtain⟨p1,hp1⟩:∃q,decide (0≤n)=q:=⟨_,rfl⟩
 obtain⟨p2,hp2⟩:∃q,decide (n<T.nodes)=q:=⟨_,rfl⟩
 have he:bm T n=(p1&&p2):=by rw[←hp1,←hp2];unfold bm;exact Bool.decide_and _ _
 rw[he]
 refine aI Tryz.func100 I Tryz.ntmps100 I<|ab (.a 2 I<|.k [1,2] I)<|bE 4 (.raw (.bool (p1&&p2))) [] I ?_ ?_
 ·refine .a 1 I<|.v (cd I (hp1)) I<|.a 1 I<|?_
  cases p1
  ·exact .a 6 I<|.k [4] I
  ·exact .a 3 I<|.v (cd I (hp2)) I<|.a 2 I<|.k [4] I
 exact ao<|⟨_,_,az.of I,ay.pure,rfl⟩
theorem qw(T:an)(hl:T.ag.length≤4611686018427387903)(a:Int):Can Tryz.prog 103 [aN T,num a] (· =flag (ep T a)):=by
 obtain⟨p1,hp1⟩:∃q,decide (0≤a)=q:=⟨_,rfl⟩
 obtain⟨p2,hp2⟩:∃q,decide (a<2*(T.ag.length:Int))=q:=⟨_,rfl⟩
 have he:ep T a=(p1&&p2):=by rw[←hp1,←hp2];unfold ep;exact Bool.decide_and _ _
 rw[he]
 refine aI Tryz.func103 I Tryz.ntmps103 I<|ab (.a 2 I<|.k [1,2] I)<|bE 4 (.raw (.bool (p1&&p2))) [] I ?_ ?_
 ·refine .a 1 I<|.v (cd I (hp1)) I<|.a 1 I<|?_
  cases p1
  ·exact .a 6 I<|.k [4] I
  ·exact .a 2 I<|.c rfl (iu T hl) I<|.v (cd I (hp2)) I<|.a 2 I<|.k [4] I
 exact ao<|⟨_,_,az.of I,ay.pure,rfl⟩
theorem my(T:an)(D:List Bool)(hl:T.ag.length≤4611686018427387903):Can Tryz.prog 108 [aN T,bq D] (· =flag (bW T D)):=by
 obtain⟨p1,hp1⟩:∃q,decide ((D.length:Int)=0)=q:=⟨_,rfl⟩
 obtain⟨p2,hp2⟩:∃q,decide ((D.length:Int)=2*(T.ag.length:Int))=q:=⟨_,rfl⟩
 have he:bW T D=(p1||p2):=by rw[←hp1,←hp2];unfold bW;rw[←Bool.decide_or];exact decide_eq_decide.2 (by omega)
 rw[he]
 refine aI Tryz.func108 I Tryz.ntmps108 I<|ab (.a 2 I<|.k [1,2] I)<|bE 4 (.raw (.bool (p1||p2))) [] I ?_ ?_
 ·refine .a 2 I<|.v (cd I (hp1)) I<|.a 1 I<|?_
  cases p1
  ·exact .a 3 I<|.c rfl (iu T hl) I<|.v (cd I (hp2)) I<|.a 2 I<|.k [4] I
  ·exact .a 7 I<|.k [4] I
 exact ao<|⟨_,_,az.of I,ay.pure,rfl⟩
theorem Al{D:List Bool}{a:Nat}{p1 p2:Bool}(hp1:decide (0<(D.length:Int))=p1)(hp2:D.getD a false=p2):aQ D a=(p1&&p2):=by
 unfold aQ
 cases p1
 ·have:=ff hp1
  rw[List.getD_eq_getElem?_getD,List.getElem?_eq_none (by omega)];rfl
 ·exact hp2
theorem jl(D:List Bool)(a:Nat)(ha:D.length=0∨a<D.length):Can Tryz.prog 110 [bq D,num a] (· =flag (aQ D a)):=by
 obtain⟨p1,hp1⟩:∃q,decide (0<(D.length:Int))=q:=⟨_,rfl⟩
 obtain⟨p2,hp2⟩:∃q,D.getD a false=q:=⟨_,rfl⟩
 rw[Al hp1 hp2]
 refine aI Tryz.func110 I Tryz.ntmps110 I<|ab (.a 1 I<|.k [0,1] I)<|bE 4 (.raw (.bool (p1&&p2))) [] I ?_ ?_
 ·refine .a 2 I<|.v (cd I (hp1)) I<|.a 1 I<|?_
  cases p1
  ·exact .a 6 I<|.k [4] I
  ·exact .a 2 I<|.v (aM (a) I (by omega) (by have:=tt hp1;omega)) I<|.v (aJ I (show _=some (flag p2) by rw[dy _ a (by have:=tt hp1;omega),hp2])) I<|.a 2 I<|.k [4] I
 exact ao<|⟨_,_,az.of I,ay.pure,rfl⟩
theorem gX(n lo hi:Int):Can Tryz.prog 146 [num n,num lo,num hi] (· =flag (bL n lo hi)):=by
 obtain⟨p1,hp1⟩:∃q,decide (lo≤n)=q:=⟨_,rfl⟩
 obtain⟨p2,hp2⟩:∃q,decide (n≤hi)=q:=⟨_,rfl⟩
 have he:bL n lo hi=(p1&&p2):=by rw[←hp1,←hp2];unfold bL;exact Bool.decide_and _ _
 rw[he]
 refine aI Tryz.func146 I Tryz.ntmps146 I<|ab (.a 1 I<|.k [0,1,2] I)<|bE 6 (.raw (.bool (p1&&p2))) [] I ?_ ?_
 ·refine .a 2 I<|.v (cd I (hp1)) I<|.a 1 I<|?_
  cases p1
  ·exact .a 5 I<|.k [6] I
  ·exact .a 2 I<|.v (cd I (hp2)) I<|.a 2 I<|.k [6] I
 exact ao<|⟨_,_,az.of I,ay.pure,rfl⟩
set_option maxHeartbeats 2000000 in
theorem eN(T:an):Can Tryz.prog 107 [aN T] (· =flag (aq T)):=by
  obtain⟨p0,hp0⟩:∃q,bL T.nodes 1 64=q:=⟨_,rfl⟩
  obtain⟨p1,hp1⟩:∃q,decide ((T.over.length:Int)≠0)=q:=⟨_,rfl⟩
  obtain⟨p2,hp2⟩:∃q,decide ((T.over.length:Int)≠T.nodes)=q:=⟨_,rfl⟩
  obtain⟨p3,hp3⟩:∃q,decide (256<(T.ag.length:Int))=q:=⟨_,rfl⟩
  have hw:Can Tryz.prog 146 [num T.nodes,num 1,num 64] (· =flag p0):=by rw[←hp0];exact gX _ _ _
  refine aI Tryz.func107 I Tryz.ntmps107 I<|ab (.a 2 I<|.k [1] I)<|aj<|bE 14 (.raw (.bool ((!p0)||p3))) [1] I ?_ ?_
  · refine .a 2 I<|.c rfl (hw) I<|.a 2 I<|?_
    cases p0
    · exact .a 5 I<|.k [14,1] I
    · exact .a 3 I<|.v (cd I (hp3)) I<|.a 1 I<|.k [14,1] I
  refine ah I (fun hc=>?_) (fun hc=>?_)
  · have hv:aq T=false:=by
      rcases Bool.or_eq_true_iff.1 hc with h|h
      · exact(hJ T (.inl (by rw[hp0];simpa using h))).symm
      · rw[h]at hp3;exact(hJ T (.inr (.inl (by have:=tt hp3;omega)))).symm
    rw[hv]
    exact ab (.a 1 I<|.k [2] I)<|ao<|⟨_,_,az.of I,ay.pure,rfl⟩
  · obtain ⟨c1, c2⟩ := Bool.or_eq_false_iff.1 hc
    have h0:p0=true:=by simpa using c1
    rw[h0]at hp0
    rw[c2]at hp3
    have hle:T.ag.length≤256:=by have:=ff hp3;omega
    clear hw hc c1
    refine ai<|aj<|bE 26 (.raw (.bool (p1&&p2))) [1] I ?_ ?_
    · refine .a 3 I<|.v (cd I (hp1)) I<|.a 1 I<|?_
      cases p1
      · exact .a 7 I<|.k [26,1] I
      · exact .a 5 I<|.v (cd I (hp2)) I<|.a 1 I<|.k [26,1] I
    refine ah I (fun hc=>?_) (fun hc=>?_)
    · have hv:aq T=false:=by
        obtain⟨a1,a2⟩:=Bool.and_eq_true_iff.1 hc
        rw[a1]at hp1
        rw[a2]at hp2
        exact(hJ T (.inr (.inr ⟨by have:=tt hp1;omega,tt hp2⟩))).symm
      rw[hv]
      exact ab (.a 1 I<|.k [2] I)<|ao<|⟨_,_,az.of I,ay.pure,rfl⟩
    · have hov:T.over.length=0∨(T.over.length:Int)=T.nodes:=by
        rcases Bool.and_eq_false_iff.1 hc with h|h
        · rw[h]at hp1;exact .inl (by have:=ff hp1;omega)
        · rw[h]at hp2;exact .inr (by have:=ff hp2;omega)
      rw[rv T hp0 hle hov]
      clear hc hp1 hp2
      refine ai<|aj<|ab (.a 4 I<|.k [1,29,30] I)<|aw<|eS [1,29,30] I<|bu (fun r s=>∃k,k≤T.ag.length∧r=T.ag.length - k∧(T.ag.take k).all (iJ T)=true∧s=⟨[(1,.bc (bC T) 0),(29,num T.ag.length),(30,num k)],[]⟩) T.ag.length ⟨0,by omega,by omega,by simp,rfl⟩ ?_
      rintro r s ⟨k,hk,rfl,hall,rfl⟩
      refine ab (.a 1 I<|.k [1,29,30,31] I)<|aj<|ah I (fun hc=>?_) (fun hc=>?_)
      · have hlt:k<T.ag.length:=by have:=tt hc;omega
        have g:∀j,j<7→(iA T.ag)[k*7+j]? =(la (cC T.ag k))[j]? :=fun j hj=>fq T.ag k j hlt hj
        obtain⟨q1,g1⟩:∃q,decide ((cC T.ag k).a=(cC T.ag k).b)=q:=⟨_,rfl⟩
        obtain⟨q2,g2⟩:∃q,bm T (cC T.ag k).a=q:=⟨_,rfl⟩
        obtain⟨q3,g3⟩:∃q,bm T (cC T.ag k).b=q:=⟨_,rfl⟩
        obtain⟨q4,g4⟩:∃q,bL (cC T.ag k).c0 1 65535=q:=⟨_,rfl⟩
        obtain⟨q5,g5⟩:∃q,bL (cC T.ag k).c1 1 65535=q:=⟨_,rfl⟩
        obtain⟨q6,g6⟩:∃q,bL (cC T.ag k).cap 0 1048576=q:=⟨_,rfl⟩
        obtain⟨q7,g7⟩:∃q,bL (cC T.ag k).fK 1 65536=q:=⟨_,rfl⟩
        obtain⟨q8,g8⟩:∃q,bL (cC T.ag k).vF 0 64=q:=⟨_,rfl⟩
        have hOK:=s8 (T:=T) (l:=cC T.ag k) (q1:=q1) (by rw[←g1];exact Bool.eq_iff_iff.2 (by simp)) g2 g3 g4 g5 g6 g7 g8
        have hall':=wq (iJ T) T.ag k hlt
        have hno:=xp (iJ T) T.ag k hlt
        rw[hOK]at hall' hno
        have n2:=dF T (cC T.ag k).a
        rw[g2]at n2
        have n3:=dF T (cC T.ag k).b
        rw[g3]at n3
        have n4:=gX (cC T.ag k).c0 1 65535
        rw[g4]at n4
        have n5:=gX (cC T.ag k).c1 1 65535
        rw[g5]at n5
        have n6:=gX (cC T.ag k).cap 0 1048576
        rw[g6]at n6
        have n7:=gX (cC T.ag k).fK 1 65536
        rw[g7]at n7
        have n8:=gX (cC T.ag k).vF 0 64
        rw[g8]at n8
        clear hOK g2 g3 g4 g5 g6 g7 g8
        refine ai<|aj<|aw<|ab (.a 2 I<|.k [1,3,29,30] I)<|ab (.a 3 I<|.v (aM (k*7) I) I<|.a 1 I<|.k [1,4,29,30] I)<|aj<|iM mixed (by kernel_rfl) 63 (.raw (.bool ((q1|| !q2)|| !q3))) [1,4,29,30] I ?_ ?_
        · refine .a 3 I<|.v [39] (aJ I (g 0 (by omega))) I I<|.a 3 I<|.v [43] (aJ I (g 1 (by omega))) I I<|.v [40,44] (cd I (g1)) I I<|.a 1 I<|?_
          cases q1
          · refine .a 4 I<|.v [50] (aJ I (g 0 (by omega))) I I<|.v [47,51] (dX I (n2)) I I<|.a 3 I<|?_
            cases q2
            · exact .a 8 I<|.k [63,1,4,29,30] I
            · exact .a 4 I<|.v [59] (aJ I (g 1 (by omega))) I I<|.v [56,60] (dX I (n3)) I I<|.a 2 I<|.k [63,1,4,29,30] I
          · exact .a 17 I<|.k [63,1,4,29,30] I
        refine ah I (fun hx=>?_) (fun hx=>?_)
        · have hno':=hno (by cases q1<;>cases q2<;>cases q3<;>simp_all)
          rw[hno']
          exact ab (.a 1 I<|.k [2] I)<|ao<|⟨_,_,az.of I,ay.pure,rfl⟩
        · have e1:q1=false:=by cases q1<;>simp_all
          have e2:q2=true:=by cases q2<;>simp_all
          have e3:q3=true:=by cases q3<;>simp_all
          subst e1 e2 e3
          clear n2 n3 hx
          refine ai<|aj<|bE 79 (.raw (.bool ((!q4)|| !q5))) [1,4,29,30] I ?_ ?_
          · refine .a 3 I<|.v (aM (0) I) I<|.v (aJ I (g 2 (by omega))) I<|.c rfl (n4) I<|.a 2 I<|?_
            cases q4
            · exact .a 8 I<|.k [79,1,4,29,30] I
            · exact .a 3 I<|.v (aM (1) I) I<|.v (aJ I (g 3 (by omega))) I<|.c rfl (n5) I<|.a 2 I<|.k [79,1,4,29,30] I
          refine ah I (fun hx=>?_) (fun hx=>?_)
          · have hno':=hno (by cases q4<;>cases q5<;>simp_all)
            rw[hno']
            exact ab (.a 1 I<|.k [2] I)<|ao<|⟨_,_,az.of I,ay.pure,rfl⟩
          · have e1:q4=true:=by cases q4<;>simp_all
            have e2:q5=true:=by cases q5<;>simp_all
            subst e1 e2
            clear n4 n5 hx
            refine ai<|bE 101 (.raw (.bool (((!q6)|| !q7)|| !q8))) [1,29,30] I ?_ ?_
            · refine .a 3 I<|.v (aJ I (g 4 (by omega))) I<|.c rfl (n6) I<|.a 2 I<|?_
              cases q6
              · exact .a 15 I<|.k [101,1,29,30] I
              · refine .a 3 I<|.v (aJ I (g 5 (by omega))) I<|.c rfl (n7) I<|.a 3 I<|?_
                cases q7
                · exact .a 7 I<|.k [101,1,29,30] I
                · exact .a 3 I<|.v (aJ I (g 6 (by omega))) I<|.c rfl (n8) I<|.a 2 I<|.k [101,1,29,30] I
            refine ah I (fun hx=>?_) (fun hx=>?_)
            · have hno':=hno (by cases q6<;>cases q7<;>cases q8<;>simp_all)
              rw[hno']
              exact ab (.a 1 I<|.k [2] I)<|ao<|⟨_,_,az.of I,ay.pure,rfl⟩
            · have e1:q6=true:=by cases q6<;>simp_all
              have e2:q7=true:=by cases q7<;>simp_all
              have e3:q8=true:=by cases q8<;>simp_all
              subst e1 e2 e3
              clear n6 n7 n8 hx
              refine ai<|aC (.v (aV I) I<|.a 1 I<|.k [1,29,30] I) ?_
              exact⟨T.ag.length - (k+1),by omega,k+1,by omega,rfl,by rw[hall',hall];rfl,rfl⟩
      · have hke:k=T.ag.length:=by have:=ff hc;omega
        subst hke
        rw[List.take_length]at hall
        rw[hall]
        exact bh<|ab (.a 1 I<|.k [2] I)<|ao<|⟨_,_,az.of I,ay.pure,rfl⟩
section
variable {P:Program} {ops:Array Oper} {Q:Exit→Act→World→Prop}
theorem yS{l n:Nat}{o:Oper}{a:Act}{w:World}{K K':Act→World→Prop}(hnd:∀c,o.op≠ .defer c)(hL:¬LetsOut Q)(hK:∀a w,K a w→K' a w)(h:o.wp P a w K Q):o.wpIn (Fence.wide.inRound l) n P a w K' Q:=by
 refine⟨fun _ _=>trivial,?_⟩
 rw[Fence.inRound_round,Oper.semAt_eq _ _ _ hnd]
 unfold Oper.wp at h
 generalize (execOp a.eval o).run P w=x at*
 cases x with
 |ok x w'=>
  cases x<;>simp only[Oper.uponIn,Oper.upon]at h ⊢
  case value v=>exact hK _ _ h
  case skip=>exact hK _ _ h
  case defer d=>exact hK _ _ h
  case enter f args=>exact⟨fun h=>by simp[Fence.wide]at h,CallsIn.inRound l (callsIn_wide.2 (h.mono fun e w'' he=>by cases e<;>first|exact hK _ _ he|exact he))⟩
  case row r args=>exact⟨fun h=>by simp[Fence.wide]at h,fun c cs _=>by
   obtain⟨v,w',r,s⟩:=h c cs
   exact⟨v,w',hK _ _ r,stepsIn_wide.2 s⟩⟩
  all_goals exact h.elim
 |halt x w'=>cases x<;>simp only[Oper.uponIn,Oper.upon]at h ⊢ <;>exact h
theorem jS{l n:Nat}(hnd:∀(i:Nat) (o:Oper),ops[i]? =some o→∀c,o.op≠ .defer c)(hL:¬LetsOut Q):∀(fuel:Nat) (ls:Array Bool) (a:Act) (w:World),wpAny P .any ops Q fuel ls a w→wpAnyIn (Fence.wide.inRound l) n P .any ops Q fuel ls a w
 |0,ls,a,w,h=>h
 |fuel+1,ls,a,w,h=>by
  refine⟨h.1,fun i hi=>?_⟩
  have h2:=h.2 i hi
  unfold wpOp at h2
  unfold wpOpIn
  cases ho:ops[i]? with
  |none=>rw[ho]at h2;exact jS hnd hL fuel _ a w h2
  |some o=>
   rw[ho]at h2
   simp only at h2 ⊢
   split
   ·rename_i hw
    rw[if_pos hw]at h2
    rcases h2 with h2|h2
    ·exact yS (hnd i o ho) hL (fun a w h=>jS hnd hL fuel _ a w h) h2
    ·exact absurd h2.2 hL
   ·rename_i hw
    rw[if_neg hw]at h2
    exact⟨fun _ _=>trivial,jS hnd hL fuel _ _ w h2⟩
end
def Jc:Code→Option (Array Oper)
 | .block _ (.region _ ops _)=>some ops
 |_=>none
def rI:Code→Option (Operand×Array Tmp×Code×Code)
 | .rangeFunc g ps a b=>some (g,ps,a,b)
 | .seq x y=>(rI x).orElse fun _=>rI y
 | .cond _ x y=>(rI x).orElse fun _=>rI y
 | .block _ x=>rI x
 | .loop x=>rI x
 |_=>none
def opsOf(f:Func):Array Oper:=(((f.body.bind rI).bind fun x=>Jc x.2.2.2).getD #[])
set_option maxHeartbeats 4000000 in
theorem II(M:List Bool)(i:Nat)(hi:2*i+1<M.length)(hM:M.length≤1000):WA Tryz.prog 41 2 (opsOf Tryz.f60) 11 #[false,false,false,false,false,false,false,false,false,false,false] ⟨[(6,.ptr 1 0),(9,num i)],[some (.row 4 1 M.length (bX M)),some (.cells 22 [.own 0])]⟩ (fun s=>s.σ=[some (.row 4 1 M.length (bX ((M.set (2*i) true).set (2*i+1) true))),some (.cells 22 [.own 0])]):=by
 have hl1:(M.set (2*i) true).length=M.length:=by simp
 refine uF [[(6,.ptr 1 0),(9,num i),(30,.own 0),(31,num i),(32,num ((2*i:Nat):Int)),(33,.own 0),(34,num i),(35,num ((2*i:Nat):Int)),(36,num ((2*i+1:Nat):Int)),(37,.ptr 0 (2*i)),(38,.ptr 0 (2*i+1))]] [[some (.row 4 1 M.length (bX M)),some (.cells 22 [.own 0])],[some (.row 4 1 M.length (bX (M.set (2*i) true))),some (.cells 22 [.own 0])],[some (.row 4 1 M.length (bX ((M.set (2*i) true).set (2*i+1) true))),some (.cells 22 [.own 0])]] [6,9] I (by kernel_rfl) (fun M hi ho=>?_)
 have μ0:M 0 2047 0 [] 2:=hi<|rY I (by kernel_rfl) (rfl)
 have μ1:M 1 1023 0 [38] 1:=hi<|aa [(10,2047)] I<|o5 I I (bf I (ba.tk.get I) I I I (by simp;omega)) I I (ho μ0) I I ae
 have μ2:M 2 511 0 [33,36] 1:=hi<|aa [(9,1023)] I<|bx I I (aM (2*i+1) I) I (ho μ1) I I ae
 have μ3:M 3 255 0 [33,36,37] 0:=hi<|aa [(8,511)] I<|o5 I I (bf I (ba.tk.get I) I I I (by omega)) I I (ho μ2) I I ae
 have μ4:M 4 127 0 [30,32,33,36] 0:=hi<|aa [(7,255)] I<|bx I I (aM (2*i) I) I (ho μ3) I I ae
 have μ5:M 3 447 0 [33,35] 1:=hi<|aa [(6,511)] I<|bx I I (aV I (hc:=show((2*i:Nat):Int)+1=((2*i+1:Nat):Int) by omega) (hn:=by unfold In64;omega)) I (ho μ2) I I ae
 have μ6:M 4 191 0 [33,35,37] 0:=hi<|aa [(6,255),(8,447)] I<|bx I I (aV I (hc:=show((2*i:Nat):Int)+1=((2*i+1:Nat):Int) by omega) (hn:=by unfold In64;omega)) I (ho μ3) I I<|o5 I I (bf I (ba.tk.get I) I I I (by omega)) I I (ho μ5) I I ae
 have μ7:M 5 63 0 [30,32,33,35] 0:=hi<|aa [(6,127),(7,191)] I<|bx I I (aV I (hc:=show((2*i:Nat):Int)+1=((2*i+1:Nat):Int) by omega) (hn:=by unfold In64;omega)) I (ho μ4) I I<|bx I I (aM (2*i) I) I (ho μ6) I I ae
 have μ8:M 4 415 0 [33,34] 1:=hi<|aa [(5,447)] I<|bx I I (aV I (hc:=show(2:Int)*(i:Int)=((2*i:Nat):Int) by omega) (hn:=by unfold In64;omega)) I (ho μ5) I I ae
 have μ9:M 5 159 0 [33,34,37] 0:=hi<|aa [(5,191),(8,415)] I<|bx I I (aV I (hc:=show(2:Int)*(i:Int)=((2*i:Nat):Int) by omega) (hn:=by unfold In64;omega)) I (ho μ6) I I<|o5 I I (bf I (ba.tk.get I) I I I (by omega)) I I (ho μ8) I I ae
 have μ10:M 6 31 0 [30,32,33,34] 0:=hi<|aa [(5,63),(7,159)] I<|bx I I (aV I (hc:=show(2:Int)*(i:Int)=((2*i:Nat):Int) by omega) (hn:=by unfold In64;omega)) I (ho μ7) I I<|bx I I (aM (2*i) I) I (ho μ9) I I ae
 have μ11:M 5 399 0 [9,33] 1:=hi<|aa [(4,415)] I<|ak (ho μ8) I I ae
 have μ12:M 6 143 0 [9,33,37] 0:=hi<|aa [(4,159),(8,399)] I<|ak (ho μ9) I I<|o5 I I (bf I (ba.tk.get I) I I I (by omega)) I I (ho μ11) I I ae
 have μ13:M 7 15 0 [9,30,32,33] 0:=hi<|aa [(4,31),(7,143)] I<|ak (ho μ10) I I<|bx I I (aM (2*i) I) I (ho μ12) I I ae
 have μ14:M 3 503 0 [6,36] 1:=hi<|aa [(3,511)] I<|ak (ho μ2) I I ae
 have μ15:M 4 247 0 [6,36,37] 0:=hi<|aa [(3,255),(8,503)] I<|ak (ho μ3) I I<|o5 I I (bf I (ba.tk.get I) I I I (by omega)) I I (ho μ14) I I ae
 have μ16:M 5 119 0 [6,30,32,36] 0:=hi<|aa [(3,127),(7,247)] I<|ak (ho μ4) I I<|bx I I (aM (2*i) I) I (ho μ15) I I ae
 have μ17:M 4 439 0 [6,35] 1:=hi<|aa [(3,447),(6,503)] I<|ak (ho μ5) I I<|bx I I (aV I (hc:=show((2*i:Nat):Int)+1=((2*i+1:Nat):Int) by omega) (hn:=by unfold In64;omega)) I (ho μ14) I I ae
 have μ18:M 5 183 0 [6,35,37] 0:=hi<|aa [(3,191),(6,247),(8,439)] I<|ak (ho μ6) I I<|bx I I (aV I (hc:=show((2*i:Nat):Int)+1=((2*i+1:Nat):Int) by omega) (hn:=by unfold In64;omega)) I (ho μ15) I I<|o5 I I (bf I (ba.tk.get I) I I I (by omega)) I I (ho μ17) I I ae
 have μ19:M 6 55 0 [6,30,32,35] 0:=hi<|aa [(3,63),(6,119),(7,183)] I<|ak (ho μ7) I I<|bx I I (aV I (hc:=show((2*i:Nat):Int)+1=((2*i+1:Nat):Int) by omega) (hn:=by unfold In64;omega)) I (ho μ16) I I<|bx I I (aM (2*i) I) I (ho μ18) I I ae
 have μ20:M 5 407 0 [6,34] 1:=hi<|aa [(3,415),(5,439)] I<|ak (ho μ8) I I<|bx I I (aV I (hc:=show(2:Int)*(i:Int)=((2*i:Nat):Int) by omega) (hn:=by unfold In64;omega)) I (ho μ17) I I ae
 have μ21:M 6 151 0 [6,34,37] 0:=hi<|aa [(3,159),(5,183),(8,407)] I<|ak (ho μ9) I I<|bx I I (aV I (hc:=show(2:Int)*(i:Int)=((2*i:Nat):Int) by omega) (hn:=by unfold In64;omega)) I (ho μ18) I I<|o5 I I (bf I (ba.tk.get I) I I I (by omega)) I I (ho μ20) I I ae
 have μ22:M 7 23 0 [6,30,32,34] 0:=hi<|aa [(3,31),(5,55),(7,151)] I<|ak (ho μ10) I I<|bx I I (aV I (hc:=show(2:Int)*(i:Int)=((2*i:Nat):Int) by omega) (hn:=by unfold In64;omega)) I (ho μ19) I I<|bx I I (aM (2*i) I) I (ho μ21) I I ae
 have μ23:M 6 391 0 [6,9] 1:=hi<|aa [(3,399),(4,407)] I<|ak (ho μ11) I I<|ak (ho μ20) I I ae
 have μ24:M 7 135 0 [6,9,37] 0:=hi<|aa [(3,143),(4,151),(8,391)] I<|ak (ho μ12) I I<|ak (ho μ21) I I<|o5 I I (bf I (ba.tk.get I) I I I (by omega)) I I (ho μ23) I I ae
 have μ25:M 8 7 0 [6,9,30,32] 0:=hi<|aa [(3,15),(4,23),(7,135)] I<|ak (ho μ13) I I<|ak (ho μ22) I I<|bx I I (aM (2*i) I) I (ho μ24) I I ae
 have μ26:M 5 123 0 [30,31,33,36] 0:=hi<|aa [(2,127)] I<|bx I I (aV I (hc:=show(2:Int)*(i:Int)=((2*i:Nat):Int) by omega) (hn:=by unfold In64;omega)) I (ho μ4) I I ae
 have μ27:M 6 59 0 [30,31,33,35] 0:=hi<|aa [(2,63),(6,123)] I<|bx I I (aV I (hc:=show(2:Int)*(i:Int)=((2*i:Nat):Int) by omega) (hn:=by unfold In64;omega)) I (ho μ7) I I<|bx I I (aV I (hc:=show((2*i:Nat):Int)+1=((2*i+1:Nat):Int) by omega) (hn:=by unfold In64;omega)) I (ho μ26) I I ae
 have μ28:M 7 27 0 [30,31,33,34] 0:=hi<|aa [(2,31),(5,59)] I<|bx I I (aV I (hc:=show(2:Int)*(i:Int)=((2*i:Nat):Int) by omega) (hn:=by unfold In64;omega)) I (ho μ10) I I<|bx I I (aV I (hc:=show(2:Int)*(i:Int)=((2*i:Nat):Int) by omega) (hn:=by unfold In64;omega)) I (ho μ27) I I ae
 have μ29:M 8 11 0 [9,30,31,33] 0:=hi<|aa [(2,15),(4,27)] I<|bx I I (aV I (hc:=show(2:Int)*(i:Int)=((2*i:Nat):Int) by omega) (hn:=by unfold In64;omega)) I (ho μ13) I I<|ak (ho μ28) I I ae
 have μ30:M 6 115 0 [6,30,31,36] 0:=hi<|aa [(2,119),(3,123)] I<|bx I I (aV I (hc:=show(2:Int)*(i:Int)=((2*i:Nat):Int) by omega) (hn:=by unfold In64;omega)) I (ho μ16) I I<|ak (ho μ26) I I ae
 have μ31:M 7 51 0 [6,30,31,35] 0:=hi<|aa [(2,55),(3,59),(6,115)] I<|bx I I (aV I (hc:=show(2:Int)*(i:Int)=((2*i:Nat):Int) by omega) (hn:=by unfold In64;omega)) I (ho μ19) I I<|ak (ho μ27) I I<|bx I I (aV I (hc:=show((2*i:Nat):Int)+1=((2*i+1:Nat):Int) by omega) (hn:=by unfold In64;omega)) I (ho μ30) I I ae
 have μ32:M 8 19 0 [6,30,31,34] 0:=hi<|aa [(2,23),(3,27),(5,51)] I<|bx I I (aV I (hc:=show(2:Int)*(i:Int)=((2*i:Nat):Int) by omega) (hn:=by unfold In64;omega)) I (ho μ22) I I<|ak (ho μ28) I I<|bx I I (aV I (hc:=show(2:Int)*(i:Int)=((2*i:Nat):Int) by omega) (hn:=by unfold In64;omega)) I (ho μ31) I I ae
 have μ33:M 9 3 0 [6,9,30,31] 0:=hi<|aa [(2,7),(3,11),(4,19)] I<|bx I I (aV I (hc:=show(2:Int)*(i:Int)=((2*i:Nat):Int) by omega) (hn:=by unfold In64;omega)) I (ho μ25) I I<|ak (ho μ29) I I<|ak (ho μ32) I I ae
 have μ34:M 6 121 0 [9,30,33,36] 0:=hi<|aa [(1,123)] I<|ak (ho μ26) I I ae
 have μ35:M 7 57 0 [9,30,33,35] 0:=hi<|aa [(1,59),(6,121)] I<|ak (ho μ27) I I<|bx I I (aV I (hc:=show((2*i:Nat):Int)+1=((2*i+1:Nat):Int) by omega) (hn:=by unfold In64;omega)) I (ho μ34) I I ae
 have μ36:M 8 25 0 [9,30,33,34] 0:=hi<|aa [(1,27),(5,57)] I<|ak (ho μ28) I I<|bx I I (aV I (hc:=show(2:Int)*(i:Int)=((2*i:Nat):Int) by omega) (hn:=by unfold In64;omega)) I (ho μ35) I I ae
 have μ37:M 9 9 0 [9,30,33] 0:=hi<|aa [(1,11),(4,25)] I<|ak (ho μ29) I I<|ak (ho μ36) I I ae
 have μ38:M 7 113 0 [6,9,30,36] 0:=hi<|aa [(1,115),(3,121)] I<|ak (ho μ30) I I<|ak (ho μ34) I I ae
 have μ39:M 8 49 0 [6,9,30,35] 0:=hi<|aa [(1,51),(3,57),(6,113)] I<|ak (ho μ31) I I<|ak (ho μ35) I I<|bx I I (aV I (hc:=show((2*i:Nat):Int)+1=((2*i+1:Nat):Int) by omega) (hn:=by unfold In64;omega)) I (ho μ38) I I ae
 have μ40:M 9 17 0 [6,9,30,34] 0:=hi<|aa [(1,19),(3,25),(5,49)] I<|ak (ho μ32) I I<|ak (ho μ36) I I<|bx I I (aV I (hc:=show(2:Int)*(i:Int)=((2*i:Nat):Int) by omega) (hn:=by unfold In64;omega)) I (ho μ39) I I ae
 have μ41:M 10 1 0 [6,9,30] 0:=hi<|aa [(1,3),(3,9),(4,17)] I<|ak (ho μ33) I I<|ak (ho μ37) I I<|ak (ho μ40) I I ae
 have μ42:M 5 126 0 [6,32,33,36] 0:=hi<|aa [(0,127)] I<|ak (ho μ4) I I ae
 have μ43:M 6 62 0 [6,32,33,35] 0:=hi<|aa [(0,63),(6,126)] I<|ak (ho μ7) I I<|bx I I (aV I (hc:=show((2*i:Nat):Int)+1=((2*i+1:Nat):Int) by omega) (hn:=by unfold In64;omega)) I (ho μ42) I I ae
 have μ44:M 7 30 0 [6,32,33,34] 0:=hi<|aa [(0,31),(5,62)] I<|ak (ho μ10) I I<|bx I I (aV I (hc:=show(2:Int)*(i:Int)=((2*i:Nat):Int) by omega) (hn:=by unfold In64;omega)) I (ho μ43) I I ae
 have μ45:M 8 14 0 [6,9,32,33] 0:=hi<|aa [(0,15),(4,30)] I<|ak (ho μ13) I I<|ak (ho μ44) I I ae
 have μ46:M 6 118 0 [6,32,36] 0:=hi<|aa [(0,119),(3,126)] I<|ak (ho μ16) I I<|ak (ho μ42) I I ae
 have μ47:M 7 54 0 [6,32,35] 0:=hi<|aa [(0,55),(3,62),(6,118)] I<|ak (ho μ19) I I<|ak (ho μ43) I I<|bx I I (aV I (hc:=show((2*i:Nat):Int)+1=((2*i+1:Nat):Int) by omega) (hn:=by unfold In64;omega)) I (ho μ46) I I ae
 have μ48:M 8 22 0 [6,32,34] 0:=hi<|aa [(0,23),(3,30),(5,54)] I<|ak (ho μ22) I I<|ak (ho μ44) I I<|bx I I (aV I (hc:=show(2:Int)*(i:Int)=((2*i:Nat):Int) by omega) (hn:=by unfold In64;omega)) I (ho μ47) I I ae
 have μ49:M 9 6 0 [6,9,32] 0:=hi<|aa [(0,7),(3,14),(4,22)] I<|ak (ho μ25) I I<|ak (ho μ45) I I<|ak (ho μ48) I I ae
 have μ50:M 6 122 0 [6,31,33,36] 0:=hi<|aa [(0,123),(2,126)] I<|ak (ho μ26) I I<|bx I I (aV I (hc:=show(2:Int)*(i:Int)=((2*i:Nat):Int) by omega) (hn:=by unfold In64;omega)) I (ho μ42) I I ae
 have μ51:M 7 58 0 [6,31,33,35] 0:=hi<|aa [(0,59),(2,62),(6,122)] I<|ak (ho μ27) I I<|bx I I (aV I (hc:=show(2:Int)*(i:Int)=((2*i:Nat):Int) by omega) (hn:=by unfold In64;omega)) I (ho μ43) I I<|bx I I (aV I (hc:=show((2*i:Nat):Int)+1=((2*i+1:Nat):Int) by omega) (hn:=by unfold In64;omega)) I (ho μ50) I I ae
 have μ52:M 8 26 0 [6,31,33,34] 0:=hi<|aa [(0,27),(2,30),(5,58)] I<|ak (ho μ28) I I<|bx I I (aV I (hc:=show(2:Int)*(i:Int)=((2*i:Nat):Int) by omega) (hn:=by unfold In64;omega)) I (ho μ44) I I<|bx I I (aV I (hc:=show(2:Int)*(i:Int)=((2*i:Nat):Int) by omega) (hn:=by unfold In64;omega)) I (ho μ51) I I ae
 have μ53:M 9 10 0 [6,9,31,33] 0:=hi<|aa [(0,11),(2,14),(4,26)] I<|ak (ho μ29) I I<|bx I I (aV I (hc:=show(2:Int)*(i:Int)=((2*i:Nat):Int) by omega) (hn:=by unfold In64;omega)) I (ho μ45) I I<|ak (ho μ52) I I ae
 have μ54:M 7 114 0 [6,31,36] 0:=hi<|aa [(0,115),(2,118),(3,122)] I<|ak (ho μ30) I I<|bx I I (aV I (hc:=show(2:Int)*(i:Int)=((2*i:Nat):Int) by omega) (hn:=by unfold In64;omega)) I (ho μ46) I I<|ak (ho μ50) I I ae
 have μ55:M 8 50 0 [6,31,35] 0:=hi<|aa [(0,51),(2,54),(3,58),(6,114)] I<|ak (ho μ31) I I<|bx I I (aV I (hc:=show(2:Int)*(i:Int)=((2*i:Nat):Int) by omega) (hn:=by unfold In64;omega)) I (ho μ47) I I<|ak (ho μ51) I I<|bx I I (aV I (hc:=show((2*i:Nat):Int)+1=((2*i+1:Nat):Int) by omega) (hn:=by unfold In64;omega)) I (ho μ54) I I ae
 have μ56:M 9 18 0 [6,31,34] 0:=hi<|aa [(0,19),(2,22),(3,26),(5,50)] I<|ak (ho μ32) I I<|bx I I (aV I (hc:=show(2:Int)*(i:Int)=((2*i:Nat):Int) by omega) (hn:=by unfold In64;omega)) I (ho μ48) I I<|ak (ho μ52) I I<|bx I I (aV I (hc:=show(2:Int)*(i:Int)=((2*i:Nat):Int) by omega) (hn:=by unfold In64;omega)) I (ho μ55) I I ae
 have μ57:M 10 2 0 [6,9,31] 0:=hi<|aa [(0,3),(2,6),(3,10),(4,18)] I<|ak (ho μ33) I I<|bx I I (aV I (hc:=show(2:Int)*(i:Int)=((2*i:Nat):Int) by omega) (hn:=by unfold In64;omega)) I (ho μ49) I I<|ak (ho μ53) I I<|ak (ho μ56) I I ae
 have μ58:M 7 120 0 [6,9,33,36] 0:=hi<|aa [(0,121),(1,122)] I<|ak (ho μ34) I I<|ak (ho μ50) I I ae
 have μ59:M 8 56 0 [6,9,33,35] 0:=hi<|aa [(0,57),(1,58),(6,120)] I<|ak (ho μ35) I I<|ak (ho μ51) I I<|bx I I (aV I (hc:=show((2*i:Nat):Int)+1=((2*i+1:Nat):Int) by omega) (hn:=by unfold In64;omega)) I (ho μ58) I I ae
 have μ60:M 9 24 0 [6,9,33,34] 0:=hi<|aa [(0,25),(1,26),(5,56)] I<|ak (ho μ36) I I<|ak (ho μ52) I I<|bx I I (aV I (hc:=show(2:Int)*(i:Int)=((2*i:Nat):Int) by omega) (hn:=by unfold In64;omega)) I (ho μ59) I I ae
 have μ61:M 10 8 0 [6,9,33] 0:=hi<|aa [(0,9),(1,10),(4,24)] I<|ak (ho μ37) I I<|ak (ho μ53) I I<|ak (ho μ60) I I ae
 have μ62:M 8 112 0 [6,9,36] 0:=hi<|aa [(0,113),(1,114),(3,120)] I<|ak (ho μ38) I I<|ak (ho μ54) I I<|ak (ho μ58) I I ae
 have μ63:M 9 48 0 [6,9,35] 0:=hi<|aa [(0,49),(1,50),(3,56),(6,112)] I<|ak (ho μ39) I I<|ak (ho μ55) I I<|ak (ho μ59) I I<|bx I I (aV I (hc:=show((2*i:Nat):Int)+1=((2*i+1:Nat):Int) by omega) (hn:=by unfold In64;omega)) I (ho μ62) I I ae
 have μ64:M 10 16 0 [6,9,34] 0:=hi<|aa [(0,17),(1,18),(3,24),(5,48)] I<|ak (ho μ40) I I<|ak (ho μ56) I I<|ak (ho μ60) I I<|bx I I (aV I (hc:=show(2:Int)*(i:Int)=((2*i:Nat):Int) by omega) (hn:=by unfold In64;omega)) I (ho μ63) I I ae
 have μ65:M 11 0 0 [6,9] 0:=hi<|aa [(0,1),(1,2),(3,8),(4,16)] I<|ak (ho μ41) I I<|ak (ho μ57) I I<|ak (ho μ61) I I<|ak (ho μ64) I I ae
 exact μ65
open Go.Shelf eY
attribute [local go_sem] Oper.semAt_some
def cG(k x:Int):List PV:=[num k,num x]
def cq(k x:Int):PV:=.agg (cG k x)
instance (k x:Int):aL (cG k x):=by unfold cG;infer_instance
instance (k x:Int):IsPure (cq k x):=by unfold cq;infer_instance
def cp(T:an)(k x:Int):Bool:=if k=1 then decide (0≤x)&&decide (x<(T.ag.length:Int)) else if k=2 then bm T x else if k=3 then decide (1≤x)&&decide (x≤64) else false
theorem mw(T:an)(k x:Int):Can Tryz.prog 118 [aN T,cq k x] (· =flag (cp T k x)):=by
 obtain⟨q1,h1⟩:∃q,decide (0≤x)=q:=⟨_,rfl⟩
 obtain⟨q2,h2⟩:∃q,decide (x<(T.ag.length:Int))=q:=⟨_,rfl⟩
 obtain⟨q3,h3⟩:∃q,decide (1≤x)=q:=⟨_,rfl⟩
 obtain⟨q4,h4⟩:∃q,decide (x≤64)=q:=⟨_,rfl⟩
 have hB:cp T k x=if k=1 then(q1&&q2) else if k=2 then bm T x else if k=3 then(q3&&q4) else false:=by unfold cp;rw[h1,h2,h3,h4]
 rw[hB]
 refine aI Tryz.func118 I Tryz.ntmps118 I<|ab (.a 3 I<|.k [2,3] I)<|aj<|ab (.a 2 I<|.k [2,3,6] I)<|aw<|ab (.a 2 I<|.k [2,3,6,7] I)<|ah I (fun hk1=>?_) (fun hk1=>?_)
 ·have k1:k=1:=tt hk1
  refine bE 4 (.raw (.bool (q1&&q2))) [] I ?_ ?_
  ·refine .a 2 I<|.v (cd I (h1)) I<|.a 1 I<|?_
   cases q1
   ·exact .a 8 I<|.k [4] I
   ·exact .a 5 I<|.v (cd I (h2)) I<|.a 2 I<|.k [4] I
  exact ao<|⟨_,_,az.of I,ay.pure,by rw[if_pos k1];rfl⟩
 ·have k1:¬k=1:=ff hk1
  refine ab (.a 2 I<|.k [2,3,6,20] I)<|ah I (fun hk2=>?_) (fun hk2=>?_)
  ·have k2:k=2:=tt hk2
   exact ab (.a 3 I<|.c rfl (dF T x) I<|.a 1 I<|.k [4] I)<|ao<|⟨_,_,az.of I,ay.pure,by rw[if_neg k1,if_pos k2];rfl⟩
  ·have k2:¬k=2:=ff hk2
   refine ab (.a 2 I<|.k [3,26] I)<|ah I (fun hk3=>?_) (fun hk3=>?_)
   ·have k3:k=3:=tt hk3
    refine bE 4 (.raw (.bool (q3&&q4))) [] I ?_ ?_
    ·refine .a 2 I<|.v (cd I (h3)) I<|.a 1 I<|?_
     cases q3
     ·exact .a 5 I<|.k [4] I
     ·exact .a 2 I<|.v (cd I (h4)) I<|.a 2 I<|.k [4] I
    exact ao<|⟨_,_,az.of I,ay.pure,by rw[if_neg k1,if_neg k2,if_pos k3];rfl⟩
   ·have k3:¬k=3:=ff hk3
    exact ai<|ab (.a 1 I<|.k [4] I)<|ao<|⟨_,_,az.of I,ay.pure,by rw[if_neg k1,if_neg k2,if_neg k3];rfl⟩
set_option maxRecDepth 100000 in
theorem EO(c0 c1 c2:Value)(k x:Int)(n:Nat)(w:World):CallsIn Fence.wide n Tryz.prog 119 #[.agg #[c0,c1,c2],.agg #[.int .i64 k,.int .i64 x]] w fun e w'=>
  e= .returned (.func (.func 160) #[] #[.pointer (some ⟨w.heap.size,0,none⟩),.pointer (some ⟨w.heap.size+1,0,none⟩)])∧w'=(w.alloc (.cells #[c0,c1,c2] 25)).alloc (.cells #[.int .i64 k,.int .i64 x] 33):=by
 refine callsIn_of_wp Tryz.func119 I trivial ?_ rfl
 simp only[Tryz.ntmps119,List.size_toArray,List.length_cons,List.length_nil,Nat.reduceAdd,Nat.reduceSub,Array.replicate_succ,Array.replicate_zero,List.push_toArray,List.append_toArray,List.nil_append,List.cons_append]
 gi_wp2
 go_ret
 exact⟨rfl,rfl⟩
def H9(W:World)(b off:Nat)(L:List nM):Prop:=∀i,i<L.length→W.cell? ⟨b,off+i*7,none⟩=some (.int .i64 (cC L i).a)∧W.cell? ⟨b,off+i*7+1,none⟩=some (.int .i64 (cC L i).b)∧W.cell? ⟨b,off+i*7+2,none⟩=some (.int .i64 (cC L i).c0)∧W.cell? ⟨b,off+i*7+3,none⟩=some (.int .i64 (cC L i).c1)∧W.cell? ⟨b,off+i*7+4,none⟩=some (.int .i64 (cC L i).cap)∧W.cell? ⟨b,off+i*7+5,none⟩=some (.int .i64 (cC L i).fK)∧W.cell? ⟨b,off+i*7+6,none⟩=some (.int .i64 (cC L i).vF)
set_option maxRecDepth 100000 in
theorem CI(n l Bt Bc cap:Nat)(ad:Option Addr)(J:List (eY.Ix 0)→World→Prop)(W:World)(hBt:W.cell? ⟨Bt,2,none⟩=some (.slice ad 0 cap))(h0:J [] W):
  CallsIn Fence.wide n Tryz.prog 160 #[.func (.yield l) #[] #[],.pointer (some ⟨Bt,0,none⟩),.pointer (some ⟨Bc,0,none⟩)] W fun e W'=>(∃v,e= .returned v)∧J [] W':=by
 refine callsIn_of_wp Tryz.func160 I trivial ?_ rfl
 simp only[Tryz.ntmps160,List.size_toArray,List.length_cons,List.length_nil,Nat.reduceAdd,Nat.reduceSub,Array.replicate_succ,Array.replicate_zero,List.push_toArray,List.append_toArray,List.nil_append,List.cons_append]
 gi_wp2
 gi_loopw [10] (fun i wr=>i= .int .i64 0∧J [] wr) (fun _ _=>0)
 case atStart=>exact⟨rfl,h0⟩
 case round=>
  obtain⟨rfl,hJs⟩:=hrel
  gi_wp2
  go_end0
  exact⟨⟨_,rfl⟩,hJs⟩
def Kg(n₁ G:Nat)(W:World)(v:Value)(L:List nM):Prop:=(∃ad cap,v= .slice ad 0 cap∧L=[])∨∃b off cap,v= .slice (some ⟨b,off,none⟩) L.length cap∧b<n₁∧b≠G∧H9 W b off L
theorem xK(T:an)(k x:Int)(hk:k=1∨k=2∨k=3)(hl:T.ag.length≤1000)(n Bt Bc G:Nat)(hn:1≤n)(v:Value)(w:World)(hBtl:Bt<w.heap.size)(hBcl:Bc<w.heap.size)(hBcG:Bc≠G)
  (hBt:w.cell? ⟨Bt,2,none⟩=some v) (hBk:w.cell? ⟨Bc,0,none⟩=some (.int .i64 k)) (hBx:w.cell? ⟨Bc,1,none⟩=some (.int .i64 x)) (hv:Kg w.heap.size G w v T.ag):
  SeqStopsK Fence.wide n Tryz.prog 160 #[.pointer (some ⟨Bt,0,none⟩),.pointer (some ⟨Bc,0,none⟩)] (fun i:eY.Ix T.ag.length=> #[Value.int .i64 (i.1:Int)]) (Kp G w.heap.size) (fun ys=>ys=lM (cR k x T.ag) T.ag.length T.ag.length) (fun _=>True) T.ag.length w:=fun l J Jx W hW hA _ hY h0=>by
 have kt:=(hW.cell (p:=⟨Bt,2,none⟩) hBtl).trans hBt
 have kk:=(hW.cell (p:=⟨Bc,0,none⟩) hBcl).trans hBk
 have kx:=(hW.cell (p:=⟨Bc,1,none⟩) hBcl).trans hBx
 rcases hv with⟨ad,cap,rfl,hL⟩|⟨b,off,cap,rfl,hb,hbG,hc⟩
 ·generalize T.ag=L at*
  subst hL
  exact(CI n l Bt Bc cap ad J W kt h0).mono fun e W' h=>⟨h.1,.inl ⟨_,rfl,h.2⟩⟩
 ·have hc2:H9 W b off T.ag:=fun i hi=>by
   obtain⟨a0,a1,a2,a3,a4,a5,a6⟩:=hc i hi
   exact⟨(hW.cell (p:=⟨b,_,none⟩) hb).trans a0,(hW.cell (p:=⟨b,_,none⟩) hb).trans a1,(hW.cell (p:=⟨b,_,none⟩) hb).trans a2,(hW.cell (p:=⟨b,_,none⟩) hb).trans a3,(hW.cell (p:=⟨b,_,none⟩) hb).trans a4,(hW.cell (p:=⟨b,_,none⟩) hb).trans a5,(hW.cell (p:=⟨b,_,none⟩) hb).trans a6⟩
  have fin:∀ {e:Ending} {W':World},(∃v,e= .returned v)∧((∃ys,ys=lM (cR k x T.ag) T.ag.length T.ag.length∧J ys W')∨(∃pre,Jx pre W'))→(∃v,e= .returned v)∧((∃xs,xs=lM (cR k x T.ag) T.ag.length T.ag.length∧J xs W')∨(∃pre,True∧Jx pre W')):=fun h=>⟨h.1,h.2.imp id fun⟨pre,h⟩=>⟨pre,trivial,h⟩⟩
  rcases hk with rfl|rfl|rfl
  ·exact(BF Fence.wide n trivial rfl hn l Bt Bc G w.heap.size b off cap T.ag x hl hb hbG hBcl hBcG J Jx hY W kt kk kx hc2 hW.size hA h0).mono fun e W' h=>fin h
  ·exact(Bj Fence.wide n trivial rfl hn l Bt Bc G w.heap.size b off cap T.ag x hl hb hbG hBcl hBcG J Jx hY W kt kk kx hc2 hW.size hA h0).mono fun e W' h=>fin h
  ·exact(Bd Fence.wide n trivial rfl hn l Bt Bc G w.heap.size b off cap T.ag x hl hb hbG hBcl hBcG J Jx hY W kt kk kx hc2 hW.size hA h0).mono fun e W' h=>fin h
theorem ti{E:Env}{w:World}:∀ {cs:List Value} {M:List Bool},bd E w cs (bX M)→cs=M.map Value.bool
 | [],[],_=>rfl
 | [],b::M,h=>by have:=h.1;simp[bX]at this
 |c::cs,[],h=>by have:=h.1;simp[bX]at this
 |c::cs,b::M,h=>by
  have h0:=eo (h.2 0 c (flag b) I I)
  have h1:bd E w cs (bX M):=⟨by have:=h.1;simpa[bX]using this,fun i x u k1 k2=>h.2 (i+1) x u (by simpa using k1) (by simpa[bX]using k2)⟩
  rw[ti h1,h0]
  rfl
theorem o9{E:Env}{w:World}:∀(M:List Bool),bd E w (M.map Value.bool) (bX M)
 | []=>bd.nil _ _
 |b::M=>bd.cons (.raw _) (o9 M)
def CR{N:Nat}(n:Nat)(l:List (eY.Ix N)):List Bool:=l.foldl (fun M i=>(M.set (2*i.1) true).set (2*i.1+1) true) (List.replicate n false)
theorem xo{N n:Nat}(l:List (eY.Ix N))(i:eY.Ix N):CR n (l++[i])=((CR n l).set (2*i.1) true).set (2*i.1+1) true:=by unfold CR;rw[List.foldl_append];rfl
theorem vg{N n:Nat}(l:List (eY.Ix N)):(CR n l).length=n:=by
 unfold CR
 suffices h:∀M:List Bool,(l.foldl (fun M (i:eY.Ix N)=>(M.set (2*i.1) true).set (2*i.1+1) true) M).length=M.length by rw[h];simp
 induction l with
 |nil=>intro M;rfl
 |cons a l ih=>intro M;rw[List.foldl_cons,ih];simp
def aE(T:an)(k x:Int):List Bool:=(List.range (2*T.ag.length)).map fun a=>cR k x T.ag (a / 2)
theorem xQ(p:Nat→Bool)(N:Nat):∀k,k≤N→∀a,a<2*N→(CR (2*N) (lM p N k))[a]? =some (decide (a / 2<k)&&p (a / 2))
 |0,_,a,ha=>by
  show(List.replicate (2*N) false)[a]? =_
  rw[List.getElem?_replicate,if_pos ha]
  simp
 |k+1,hk,a,ha=>by
  have ih:=xQ p N k (by omega) a ha
  have hl:=vg (n:=2*N) (lM p N k)
  cases hp:p k with
  |false=>
   rw[vq hp,ih]
   by_cases e:a / 2=k
   ·rw[e,hp];simp
   ·rw[show decide (a / 2<k+1)=decide (a / 2<k) from decide_eq_decide.2 (by omega)]
  |true=>
   rw[nR hp (by omega),xo]
   simp only
   rw[List.getElem?_set]
   by_cases e1:2*k+1=a
   ·rw[if_pos e1,if_pos (by simp;omega),show a / 2=k by omega,hp]
    simp
   ·rw[if_neg e1,List.getElem?_set]
    by_cases e2:2*k=a
    ·rw[if_pos e2,if_pos (by omega),show a / 2=k by omega,hp]
     simp
    ·rw[if_neg e2,ih,show decide (a / 2<k+1)=decide (a / 2<k) from decide_eq_decide.2 (by omega)]
theorem HB(T:an)(k x:Int):CR (2*T.ag.length) (lM (cR k x T.ag) T.ag.length T.ag.length)=aE T k x:=by
 apply List.ext_getElem?
 intro a
 by_cases ha:a<2*T.ag.length
 ·rw[xQ _ _ _ (Nat.le_refl _) a ha]
  unfold aE
  rw[List.getElem?_map,List.getElem?_range ha]
  have:a / 2<T.ag.length:=by omega
  simp[this]
 ·rw[List.getElem?_eq_none (by rw[vg];omega),List.getElem?_eq_none (by unfold aE;simp;omega)]
structure mo (base n B:Nat) (v:Value) (Mm:Nat→Prop) (M:List Bool) (W:World):Prop where
 bl:base≤W.heap.size
 row:W.ownsRow base 4 1 v n (M.map Value.bool)
 box:W.heap[B]? =some (.cells #[v] 22 (0,0))
 gl:iw Mm W
theorem xm{W W':World}{base e n:Nat}{v:Value}{xs:List Value}(h:W.ownsRow base e 1 v n xs)(hs:∀(g:Nat) (o:Array Value),W.heap[g]? =some (Obj.cells o e (0,0))→W'.heap[g]? =W.heap[g]?):W'.ownsRow base e 1 v n xs:=by
 refine⟨h.1,h.2.imp id ?_⟩
 rintro⟨g,cap,cur,h1,h2,h3,h4⟩
 exact⟨g,cap,cur,h1,h2,(hs g cur h3).trans h3,h4⟩
theorem mo.same{base n B:Nat}{v:Value}{Mm:Nat→Prop}{M:List Bool}{W W':World}(h:mo base n B v Mm M W)(hz:W.heap.size≤W'.heap.size)(hs:∀(b:Nat) (cs:Array Value) (t:TypeId) (fz:Nat×Nat),W.heap[b]? =some (Obj.cells cs t fz)→W'.heap[b]? =W.heap[b]?):mo base n B v Mm M W':=
 ⟨Nat.le_trans h.bl hz,xm h.row (fun g o hg=>hs g o _ _ hg),(hs B _ _ _ h.box).trans h.box,fun g cs hg=>by
  obtain⟨h1,t,fz,h2⟩:=h.gl g cs hg
  exact⟨h1,t,fz,(hs g _ _ _ h2).trans h2⟩⟩
theorem mo.grown{base n B:Nat}{v:Value}{Mm:Nat→Prop}{M:List Bool}{W W':World}{row:Option Nat}(h:mo base n B v Mm M W)(hg:W.grownBy W' row)(hr:∀r,row=some r→∃o:Obj,W.heap[r]? =some o∧o.isCells=false):mo base n B v Mm M W':=
 h.same hg.size fun b cs t fz hb=>hg.block b (Array.getElem?_eq_some_iff.1 hb).1 fun e=>by
  obtain⟨o,h1,h2⟩:=hr b e.symm
  rw[hb]at h1
  cases h1
  cases h2
theorem mo.sat{base n B:Nat}{E:Env}{M:List Bool}{W W0:World}{bi:cJ}{s0:Option cJ}(hS:Sat (fun _=>False) base [some bi,s0] E W0)(hs0:s0=some (.cells 22 [.own 0]))(hbi:∃e s m ys,bi= .row e s m ys)(hB:E.at_ 1= .pointer (some ⟨B,0,none⟩))(hBb:base≤B)(hone:(E.at_ 0).oneCell'=true)(h:mo base n B (E.at_ 0) E.M M W):Sat (fun _=>False) base [some (.row 4 1 n (bX M)),some (.cells 22 [.own 0])] E W:=by
 subst hs0
 have hL:E.L=2:=hS.len
 have old:∀(i:Nat) blk,[some (cJ.row 4 1 n (bX M)),some (.cells 22 [.own 0])][i]? =some (some blk)→∃blk',[some bi,some (cJ.cells 22 [.own 0])][i]? =some (some blk'):=fun i blk h=>by
  match i,h with
  |0,_=>exact⟨_,rfl⟩
  |1,_=>exact⟨_,rfl⟩
  |_+2,h=>simp at h
 have new:∀(i:Nat) blk,[some bi,some (cJ.cells 22 [.own 0])][i]? =some (some blk)→∃blk',[some (cJ.row 4 1 n (bX M)),some (.cells 22 [.own 0])][i]? =some (some blk'):=fun i blk h=>by
  match i,h with
  |0,_=>exact⟨_,rfl⟩
  |1,_=>exact⟨_,rfl⟩
  |_+2,h=>simp at h
 refine⟨h.bl,fun b hb=>hb.elim,hL,fun b=>?_,fun i blk hi=>?_,fun i j bi' bj b h1 h2 h3 h4=>?_,h.gl⟩
 ·rw[hS.mm b]
  constructor
  ·rintro(h|⟨i,blk,h1,h2⟩)
   ·exact .inl h
   ·obtain⟨blk',h3⟩:=new i blk h1;exact .inr ⟨i,blk',h3,h2⟩
  ·rintro(h|⟨i,blk,h1,h2⟩)
   ·exact .inl h
   ·obtain⟨blk',h3⟩:=old i blk h1;exact .inr ⟨i,blk',h3,h2⟩
 ·match i,hi with
  |0,hi=>cases hi;exact⟨_,h.row,o9 M⟩
  |1,hi=>cases hi;exact⟨B,_,hB,hBb,h.box,bd.cons (.own 0 (by omega) _ rfl hone) (bd.nil _ _)⟩
  |_+2,hi=>simp at hi
 ·obtain⟨b1,e1⟩:=old i bi' h1
  obtain⟨b2,e2⟩:=old j bj h2
  exact hS.inj i j b1 b2 b e1 e2 h3 h4
theorem mo.of{base n B:Nat}{E:Env}{M:List Bool}{W:World}(hS:Sat (fun _=>False) base [some (.row 4 1 n (bX M)),some (.cells 22 [.own 0])] E W)(hB:E.at_ 1= .pointer (some ⟨B,0,none⟩)):mo base n B (E.at_ 0) E.M M W∧(E.at_ 0).oneCell'=true:=by
 obtain⟨cs,h1,h2⟩:=hS.blk 0 _ rfl
 rw[ti h2]at h1
 obtain⟨b,cs1,k1,k2,k3,k4⟩:=hS.blk 1 _ rfl
 have hbB:b=B:=by rw[hB]at k1;cases k1;rfl
 subst hbB
 obtain⟨cl⟩:=cs1
 match cl,k4 with
 | [],k4=>have:=k4.1;simp at this
 |_::_::_,k4=>have:=k4.1;simp at this
 | [u],k4=>
  have hu:=k4.2 0 u _ rfl rfl
  cases hu with
  |own _ _ _ hu ho=>
   subst hu
   exact⟨⟨hS.bl,h1,k3,hS.gl⟩,ho⟩
theorem G9(w:World)(a b:Value)(t:TypeId):(w.alloc (.cells #[a,b] t)).cell? ⟨w.heap.size,0,none⟩=some a∧(w.alloc (.cells #[a,b] t)).cell? ⟨w.heap.size,1,none⟩=some b:=by
 unfold World.cell?
 simp only[World.alloc_heap_new]
 exact⟨rfl,rfl⟩
theorem Ky(w:World)(a b c:Value)(t:TypeId):(w.alloc (.cells #[a,b,c] t)).cell? ⟨w.heap.size,2,none⟩=some c:=by
 unfold World.cell?
 simp only[World.alloc_heap_new]
 rfl
end
end PW
end Go.Proofs.YtnegbdpggideiaaGreatDoor
