/- Texts of the proof, part 4. -/
import Derived.Deep.Slices
import Derived.Lib.SmallJoins
import Derived.OpenShut
import Derived.Test.YtnegbdpggideiaaGreatDoorRows
import Derived.Test.YtnegbdpggideiaaGreatDoorCards
import Derived.Test.YtnegbdpggideiaaGreatDoorTie
import Derived.WalkKit
import Derived.ProofKit
import Derived.ShutString
import Derived.ChangeOld
import Derived.Below
import Derived.LaidMore
import Derived.Stop.Joined
import Derived.SevenTiedAt
import Derived.Lib.LaidTab
import Derived.Test.YtnegbdpggideiaaGreatDoorCardWSB3
set_option linter.unusedVariables false
set_option linter.unusedSimpArgs false
set_option maxRecDepth 10000
set_option maxHeartbeats 1000000
namespace Go.Proofs.YtnegbdpggideiaaGreatDoor
namespace PW
open Go.RowKit cA Mem
open Go.Deep
section
variable {P:Program} {H:Type} {enc:TypeId×Value→H} {W:World}
abbrev EN:Env:=EF fun _=>False
theorem nj{α:Type}{f:α→List PV}{s:Nat}{t e:TypeId}{fuel:Nat}{v:Value}{x:DataW H×List MemPlace}(ht:P.underlying t=some (.slice e))(hc:P.cellsOf e=s)(hs0:0<s)
  (hel:∀n cs y,DataW.trod enc P W 0 (fun _=>true) true n e cs=some y→cs.length=s→∃a,aU EN W cs (f a))
  (h:DataW.trod enc P W 0 (fun _=>true) true fuel t [v]=some x):∃L:List α,cz EN W v (.slice L.length (L.flatMap f)):=by
 rcases open_slice ht h with⟨hcs,_⟩|⟨a,len,cap,m,n,D,Pl,hcs,_,hl,hm,hmm,_,hx⟩
 ·simp at hcs;subst hcs
  exact⟨[],.b9⟩
 ·simp at hcs;subst hcs
  rw[hc]at hx
  simp only[if_true]at hmm
  subst hmm
  have hall:∀k,k≤len→∃(L:List α) (cs:List Value),L.length=k∧cs.length=k*s∧aU EN W cs (L.flatMap f)∧∀(i:Nat) u,cs[i]? =some u→W.cell? (a.add i)=some u:=by
   intro k
   induction k with
   |zero=>intro _;exact⟨[],[],rfl,by simp,aU.nil _ _,fun i u h=>by simp at h⟩
   |succ k ih=>
    intro hk
    obtain⟨L,cs,h1,h2,h3,h4⟩:=ih (by omega)
    obtain⟨cs',h5,h6⟩:=hx k (by omega)
    obtain⟨_,hlen,hget⟩:=World.cells?_some h5
    obtain⟨b,hb⟩:=hel n cs' _ h6 hlen
    refine⟨L++[b],cs++cs',by simp[h1],by rw[List.length_append,h2,hlen,Nat.succ_mul],by rw[List.flatMap_append];simpa using h3.append hb,fun i u hu=>?_⟩
    by_cases hi:i<cs.length
    ·rw[List.getElem?_append_left hi]at hu;exact h4 i u hu
    ·rw[List.getElem?_append_right (by omega)]at hu
     have hj:i - cs.length<s:=by have:=(List.getElem?_eq_some_iff.1 hu).1;omega
     have:=hget (i - cs.length) hj
     rw[hu]at this
     rw[←this]
     rw[Addr.add_add]
     congr 2
     omega
  obtain⟨L,cs,h1,h2,h3,h4⟩:=hall len (Nat.le_refl _)
  by_cases h0:len=0
  ·subst h0
   have:L=[]:=List.eq_nil_of_length_eq_zero h1
   subst this
   exact⟨[],.empty _ _ hm⟩
  ·obtain⟨b,off,spot⟩:=a
   have hlt:0<cs.length:=by rw[h2];exact Nat.mul_pos (by omega) hs0
   have hc0:=h4 0 cs[0] (by simp[hlt])
   have hspot:spot=none:=by simpa[Addr.add]using World.cell?_spot hc0
   subst hspot
   have hbs:b<W.heap.size:=by
    unfold World.cell? at hc0
    split at hc0
    ·rename_i hh;exact(Array.getElem?_eq_some_iff.1 hh).1
    ·cases hc0
   refine⟨L,?_⟩
   rw[h1]
   exact .slice b off len _ cs _ (by omega) hl hm hbs (fun hf=>hf) (fun i u hu=>by have:=h4 i u hu;rw[Addr.add_lit]at this;exact this) h3.1 h3.2
end
end PW
end Go.Proofs.YtnegbdpggideiaaGreatDoor
namespace Go.Proofs.YtnegbdpggideiaaGreatDoor
namespace PW
open Go.RowKit cA Mem Net
section
variable {H:Type} {enc:TypeId×Value→H} {W:World}
theorem ke{n:Nat}{cs:List Value}{y:DataW H×List MemPlace}(h:DataW.trod enc Tryz.prog W 0 (fun _=>true) true n 3 cs=some y):∃a:Int,cs=[.int .i64 a]:=by
 obtain⟨a,h1,_⟩:=DataW.trod_int Tryz.underlying3 h
 exact⟨a,h1⟩
theorem kV{α:Type}(f:α→PV)(l:List α):l.flatMap (fun a=>[f a])=l.map f:=by induction l with
 |nil=>rfl
 |cons a l ih=>simp[ih]
theorem Ir{n:Nat}{v:Value}{y:DataW H×List MemPlace}(h:DataW.trod enc Tryz.prog W 0 (fun _=>true) true n 37 [v]=some y):∃L,cz EN W v (ax L):=by
 obtain⟨L,hL⟩:=nj (f:=fun a:Int=>[PV.raw (.int .i64 a)]) (s:=1) Tryz.underlying37 (by kernel_rfl) (by omega) (fun n cs y hy _=>by
  obtain⟨a,rfl⟩:=ke hy
  exact⟨a,aU.one (.raw _)⟩) h
 refine⟨L,?_⟩
 rw[kV]at hL
 exact hL
theorem Bp{n:Nat}{v:Value}{y:DataW H×List MemPlace}(h:DataW.trod enc Tryz.prog W 0 (fun _=>true) true n 22 [v]=some y):∃L,cz EN W v (bf L):=by
 obtain⟨L,hL⟩:=nj (f:=fun a:Bool=>[PV.raw (.bool a)]) (s:=1) Tryz.underlying22 (by kernel_rfl) (by omega) (fun n cs y hy _=>by
  obtain⟨a,rfl,_⟩:=DataW.trod_bool Tryz.underlying4 hy
  exact⟨a,aU.one (.raw _)⟩) h
 refine⟨L,?_⟩
 rw[kV]at hL
 exact hL
theorem E0{n:Nat}{cs:List Value}{y:DataW H×List MemPlace}(h:DataW.trod enc Tryz.prog W 0 (fun _=>true) true n 127 cs=some y)(hl:cs.length=7):∃l:mc,aU EN W cs (jn l):=by
 have c3:Tryz.prog.cellsOf 3=1:=by kernel_rfl
 have c54:Tryz.prog.cellsOf 125=2:=by kernel_rfl
 obtain⟨xs,m,_,_,_,hlen,hf⟩:=DataW.trod_struct Tryz.underlying127 h
 match cs,hl with
 | [c0,c1,c2,c3',c4,c5,c6],_=>
  match xs,hlen with
  | [y0,y1,y2,y3,y4,y5],_=>
   have f0:DataW.trod enc Tryz.prog W 0 (fun _=>true) true m 3 (([c0,c1,c2,c3',c4,c5,c6].drop 0).take (Tryz.prog.cellsOf 3))=some y0:=hf 0 _ rfl
   rw[c3]at f0
   have f1:DataW.trod enc Tryz.prog W 0 (fun _=>true) true m 3 (([c0,c1,c2,c3',c4,c5,c6].drop 1).take (Tryz.prog.cellsOf 3))=some y1:=hf 1 _ rfl
   rw[c3]at f1
   have f2:DataW.trod enc Tryz.prog W 0 (fun _=>true) true m 125 (([c0,c1,c2,c3',c4,c5,c6].drop 2).take (Tryz.prog.cellsOf 125))=some y2:=hf 2 _ rfl
   rw[c54]at f2
   have f3:DataW.trod enc Tryz.prog W 0 (fun _=>true) true m 3 (([c0,c1,c2,c3',c4,c5,c6].drop 4).take (Tryz.prog.cellsOf 3))=some y3:=hf 3 _ rfl
   rw[c3]at f3
   have f4:DataW.trod enc Tryz.prog W 0 (fun _=>true) true m 3 (([c0,c1,c2,c3',c4,c5,c6].drop 5).take (Tryz.prog.cellsOf 3))=some y4:=hf 4 _ rfl
   rw[c3]at f4
   have f5:DataW.trod enc Tryz.prog W 0 (fun _=>true) true m 3 (([c0,c1,c2,c3',c4,c5,c6].drop 6).take (Tryz.prog.cellsOf 3))=some y5:=hf 5 _ rfl
   rw[c3]at f5
   obtain⟨a0,h0⟩:=ke f0
   obtain⟨a1,h1⟩:=ke f1
   obtain⟨a3,h3⟩:=ke f3
   obtain⟨a4,h4⟩:=ke f4
   obtain⟨a5,h5⟩:=ke f5
   obtain⟨zs,m2,_,_,_,hz,hg⟩:=DataW.trod_array Tryz.underlying125 f2
   match zs,hz with
   | [z0,z1],_=>
    have g0:=hg 0 (by omega)
    have g1:=hg 1 (by omega)
    rw[c3]at g0 g1
    obtain⟨b0,k0⟩:=ke g0
    obtain⟨b1,k1⟩:=ke g1
    simp at h0 h1 h3 h4 h5 k0 k1
    subst h0 h1 h3 h4 h5 k0 k1
    exact⟨⟨a0,a1,b0,b1,a3,a4,a5⟩,aU.cons (.raw _)<|aU.cons (.raw _)<|aU.cons (.raw _)<|aU.cons (.raw _)<|aU.cons (.raw _)<|aU.cons (.raw _)<|aU.cons (.raw _) (aU.nil _ _)⟩
theorem Fc{base:Nat}{v:Value}{d:DataW H}{p:List MemPlace}(hv:Value.okWide Tryz.prog W .any base 25 v)(h:DataW.Trod enc Tryz.prog W 0 (fun _=>true) true 25 v d p):∃T,cz EN W v (aP T):=by
 obtain⟨v0,v1,v2,y0,y1,y2,n,rfl,_,_,h0,h1,h2⟩:=Joins.open_agg3 Tryz.underlying25 (by kernel_rfl) (by kernel_rfl) hv h
 obtain⟨a,ha⟩:=ke h0
 obtain⟨B,hB⟩:=Bp h1
 obtain⟨L,hL⟩:=nj (f:=jn) (s:=7) Tryz.underlying23 (by kernel_rfl) (by omega) (fun n cs y hy hl=>E0 hy hl) h2
 cases ha
 refine⟨⟨a,B,L⟩,.agg #[_,v1,v2] _ rfl (fun i x u k1 k2=>?_)⟩
 match i,k1,k2 with
 |0,k1,k2=>cases k1;cases k2;exact .raw _
 |1,k1,k2=>cases k1;cases k2;exact hB
 |2,k1,k2=>cases k1;cases k2;exact hL
 |_+3,_,k2=>simp[bx]at k2
end
end PW
end Go.Proofs.YtnegbdpggideiaaGreatDoor
namespace Go.Proofs.YtnegbdpggideiaaGreatDoor
namespace PW
open Go.ChangeShapes Go.WideShapes Go.ChangeAt Go.RowKit
open Go.Joins cA Mem
theorem own:ownKnob Tryz.prog.godebug=none:=by kernel_rfl
theorem laidOut:laidOutB Tryz.prog=true:=by kernel_rfl
theorem Dx{H:Type}{enc:TypeId×Value→H}{W:World}{t:TypeId}{v:Value}{d:DataW H}{p:List MemPlace}(h:DataW.Trod enc Tryz.prog W 0 (fun _=>true) true t v d p):∀x∈p,x.block<W.heap.size:=by
 obtain⟨m,hm⟩:=h;exact DataW.trod_lt m _ _ _ hm
end PW
end Go.Proofs.YtnegbdpggideiaaGreatDoor
namespace Go.Proofs.YtnegbdpggideiaaGreatDoor
namespace PW
open Go.RowKit cA Mem
theorem ue{P:Program}{x:String×DataW Unit}{r:List (String×DataW Unit)}{W:World}(h:laidMet P (x::r) W):laidMet P r W:=by
 obtain⟨ps,⟨g,t,cs,fuel,p,q,_,_,_,_,hr,rfl⟩,hn,hc⟩:=h
 exact⟨q,hr,(List.nodup_append.1 hn).2.1,fun b off hm=>hc b off (List.mem_append.2 (.inr hm))⟩
theorem kK{P:Program}{W:World}{name:String}{k:IntKind}{zs:List Int}{g:Nat}(hg:P.globalNamed name=some g)(h:Lib.TabIs P W name k zs):∃t fz,W.heap[g]? =some (.cells (zs.map fun z=>Value.int k z).toArray t fz):=by
 unfold Lib.TabIs World.var? at h
 rw[hg]at h
 simp only[Option.bind_some]at h
 split at h
 ·rename_i cs t fz hh
  cases h
  exact⟨t,fz,hh⟩
 ·cases h
def t32:List Int:=[0,1,28,2,29,14,24,3,30,22,20,15,25,17,4,8,31,27,13,23,21,19,16,7,26,12,18,6,11,5,10,9]
def t64:List Int:=[0,1,56,2,57,49,28,3,61,58,42,50,38,29,17,4,62,47,59,36,45,43,51,22,53,39,33,30,24,18,12,5,63,55,48,27,60,41,37,16,46,35,44,21,52,32,23,11,54,26,40,15,34,20,31,10,25,14,19,9,13,8,7,6]
def t10:List Int:=[1,10,100,1000,10000,100000,1000000,10000000,100000000,1000000000,10000000000,100000000000,1000000000000,10000000000000,100000000000000,1000000000000000,10000000000000000,100000000000000000,1000000000000000000,10000000000000000000]
theorem zp{W:World}(h:laidMetH Tryz.prog Rows.mixturePermittedRow.laid W):gI (fun _=>False) W:=by
 have h1:laidMet Tryz.prog [("math/bits.deBruijn32tab",Lib.tabData .u8 t32),("math/bits.deBruijn64tab",Lib.tabData .u8 t64),("internal/strconv.uint64pow10",Lib.tabData .u64 t10)] W:=h
 have h2:=ue h1
 have h3:=ue h2
 have a1:=kK (g:=1) (by kernel_rfl) (Lib.tabIs_of_head (g:=1) (t:=275) (e:=5) (n:=32) (by kernel_rfl) (by kernel_rfl) (by kernel_rfl) (by kernel_rfl) (by kernel_rfl) (by kernel_rfl) h1)
 have a2:=kK (g:=2) (by kernel_rfl) (Lib.tabIs_of_head (g:=2) (t:=276) (e:=5) (n:=64) (by kernel_rfl) (by kernel_rfl) (by kernel_rfl) (by kernel_rfl) (by kernel_rfl) (by kernel_rfl) h2)
 have a3:=kK (g:=0) (by kernel_rfl) (Lib.tabIs_of_head (g:=0) (t:=264) (e:=249) (n:=20) (by kernel_rfl) (by kernel_rfl) (by kernel_rfl) (by kernel_rfl) (by kernel_rfl) (by kernel_rfl) h3)
 intro g cs hm
 refine⟨fun hf=>hf,?_⟩
 have hG:GG=[(0,t10.map fun z=>Value.int .u64 z),(1,t32.map fun z=>Value.int .u8 z),(2,t64.map fun z=>Value.int .u8 z)]:=by kernel_rfl
 rw[hG]at hm
 rcases List.mem_cons.1 hm with e|hm
 ·cases e;exact a3
 ·rcases List.mem_cons.1 hm with e|hm
  ·cases e;exact a1
  ·rcases List.mem_cons.1 hm with e|hm
   ·cases e;exact a2
   ·cases hm
end PW
end Go.Proofs.YtnegbdpggideiaaGreatDoor
namespace Go.Proofs.YtnegbdpggideiaaGreatDoor
namespace PW
open Go.RowKit cA Mem
section
variable {P:Program} {N L:Nat} {ops:Array Oper}
def WA(P:Program)(N L:Nat)(ops:Array Oper):Nat→Array Bool→St→(St→Prop)→Prop
 |0,ls,st,K=>Region.ready .any ops ls=[]∧K st
 |n+1,ls,st,K=>Region.ready .any ops ls≠[]∧∀i∈Region.ready .any ops ls,∃o,ops[i]? =some o∧o.guard=none∧WR P N L [o].toArray [o] st (fun s=>WA P N L ops n (ls.setIfInBounds i true) s K)
def Iv(P:Program)(N L:Nat)(ops:Array Oper)(n:Nat)(ls:Array Bool)(st:St)(K:St→Prop)(is:List Nat):Prop:=
 ∀i∈is,∃o,ops[i]? =some o∧o.guard=none∧WR P N L [o].toArray [o] st (fun s=>WA P N L ops n (ls.setIfInBounds i true) s K)
theorem jj{ls:Array Bool}{st:St}{K:St→Prop}(h:Region.ready .any ops ls=[])(hk:K st):WA P N L ops 0 ls st K:=⟨h,hk⟩
theorem bI{n:Nat}{ls:Array Bool}{st:St}{K:St→Prop}(i:Nat)(is:List Nat)(h:Region.ready .any ops ls=i::is)(hk:Iv P N L ops n ls st K (i::is)):WA P N L ops (n+1) ls st K:=
 ⟨by rw[h];simp,fun j hj=>hk j (by rw[←h];exact hj)⟩
theorem bH{n:Nat}{ls:Array Bool}{st:St}{K:St→Prop}:Iv P N L ops n ls st K []:=fun i hi=>by simp at hi
theorem aZ{n:Nat}{ls:Array Bool}{st:St}{K:St→Prop}{i:Nat}{is:List Nat}{o:Oper}(ho:ops[i]? =some o)(hg:o.guard=none)(h:WR P N L [o].toArray [o] st (fun s=>WA P N L ops n (ls.setIfInBounds i true) s K))(hs:Iv P N L ops n ls st K is):Iv P N L ops n ls st K (i::is):=fun j hj=>by
 rcases List.mem_cons.1 hj with rfl|hj
 ·exact⟨o,ho,hg,h⟩
 ·exact hs j hj
def F7(K:Act→World→Prop)(Q:Exit→Act→World→Prop):Exit→Act→World→Prop
 | .normal,a,w=>K a w
 |e,a,w=>Q e a w
theorem sQ{o:Oper}{a:Act}{w:World}{K K' K'':Act→World→Prop}{Q:Exit→Act→World→Prop}(h:∀a w,K a w→K' a w)(hh:o.wp P a w K (F7 K'' Q)):o.wp P a w K' Q:=by
 unfold Oper.wp at*
 generalize (execOp a.eval o).run P w=x at*
 cases x with
 |ok n w'=>
  cases n<;>simp only[Oper.upon]at hh ⊢ <;>
   first
    |exact h _ _ hh
    |exact Calls.mono hh (fun e w'' he=>by cases e<;>first|exact h _ _ he|exact he)
    |exact Rows.mono hh (fun _ _ he=>h _ _ he)
 |halt x w'=>cases x<;>simp only[Oper.upon]at hh ⊢ <;>exact hh
theorem WA.any:∀ {n:Nat} {ls:Array Bool} {st:St} {K:St→Prop},WA P N L ops n ls st K→∀F base E₀ w₀ E a w,nK base L E₀ w₀ E w→dy F base N st E a w→∀(Q:Exit→Act→World→Prop),(∀a' w',nG F base N E₀ w₀ K a' w'→Q .normal a' w')→wpAny P .any ops Q n ls a w
 |0,ls,st,K,h,F,base,E₀,w₀,E,a,w,hc,hs,Q,hQ=>⟨h.1,hQ a w ⟨st,E,h.2,hs,hc.g,hc.b⟩⟩
 |n+1,ls,st,K,h,F,base,E₀,w₀,E,a,w,hc,hs,Q,hQ=>by
  refine⟨fun h0=>absurd h0 h.1,fun i hi=>?_⟩
  obtain⟨o,ho,hg,hw⟩:=h.2 i hi
  have h1:=hw F base E₀ w₀ E a w hc hs (F7 (wpAny P .any ops Q n (ls.setIfInBounds i true)) Q) 0 (fun a' w' ⟨s,E',k1,k2,k3,k4⟩=>by
   show wpAny P .any ops Q n (ls.setIfInBounds i true) a' w'
   exact WA.any k1 F base E₀ w₀ E' a' w' ⟨hc.L,k3,k4⟩ k2 Q hQ) (fun j=>by simp)
  simp only[List.length_singleton]at h1
  rw[List.range'_succ,wpOps_cons]at h1
  unfold wpOp at h1 ⊢
  have hw1:∀y,Region.wanted o y=true:=fun y=>by unfold Region.wanted;rw[hg]
  simp only[List.getElem?_toArray,List.getElem?_cons_zero,hw1,if_true]at h1
  simp only[ho,hw1,if_true]
  rcases h1 with h1|⟨h1,h2⟩
  ·exact .inl (sQ (fun a w h=>h) h1)
  ·exact .inr ⟨h1,h2⟩
theorem vV{id:Nat}{l:List Oper}{st:St}{Q:Exit→St→Prop}(hm:P.follows .mixedOrders=true)(h:WA P N L l.toArray l.length (Array.replicate l.length false) st (fun s=>Q .normal s)):W P N L (.region id l.toArray true) st Q:=fun F base E₀ w₀ E a w hc hs=>by
 refine wp_region_any hm ?_
 have hE:Ext w {w with drawn:=w.drawn+1}:=⟨rfl,rfl,rfl,Nat.le_refl _,fun _ _=>rfl⟩
 have:=h.any F base E₀ w₀ E a {w with drawn:=w.drawn+1} (hc.on (.ext hE) (Below.ij hE hs.sat.bl)) ⟨hs.sat.ext hE,hs.tmp.goes (.ext hE),hs.jQ,hs.size⟩ (fun e a' w'=>nG F base N E₀ w₀ (Q e) a' w') (fun a' w' h=>h)
 simpa using this
theorem nL{id:Nat}{l:List Oper}{y:Code}{st:St}{Q:Exit→St→Prop}(hm:P.follows .mixedOrders=true)(h:WA P N L l.toArray l.length (Array.replicate l.length false) st (fun s=>W P N L y s Q)):W P N L (.seq (.region id l.toArray true) y) st Q:=aj (vV hm h)
theorem sv{α:Type}{l:List α}{k:Nat}{x:α}(h:l[k]? =some x):l.set k x=l:=by
 obtain⟨hk,rfl⟩:=List.getElem?_eq_some_iff.1 h
 simp
theorem cm{c:Code}{t:bZ}{σ:cd}{Q:Exit→St→Prop}(i k e s:Nat){ty:TypeId}{xs:List PV}(hi:σ[i]? =some (some (.cells ty xs)))(hk:xs[k]? =some (.raw (.slice none 0 0)))
  (h:W P N L c ⟨t,(σ++[some (cR.row e s 0 [])]).set i (some (.cells ty (xs.set k (.own σ.length))))⟩ Q):W P N L c ⟨t,σ⟩ Q:=fun F base E₀ w₀ E a w hc hs=>by
 obtain⟨a1,a2,a3⟩:=yo hs.sat e s
 have hil:=(List.getElem?_eq_some_iff.1 hi).1
 have hi':(σ++[some (cR.row e s 0 [])])[i]? =some (some (.cells ty xs)):=by rw[List.getElem?_append_left hil];exact hi
 obtain⟨b,cs,hb,h1,h2,h3⟩:=a1.blk i _ hi'
 obtain⟨cv,hcv,hrep⟩:=h3.get hk
 cases hrep
 obtain⟨b1,b2⟩:=a1.Bx hi' (b:=b) (by rw[hb];rfl) (Nat.le_refl _) (fun _ _ _=>rfl) (bi':=.cells ty (xs.set k (.own σ.length))) ⟨b,cs,hb,h1,h2,by
  have:=h3.set k a3
  rw[sv hcv]at this
  exact this⟩
 exact h F base E₀ w₀ _ a w (hc.on (a2.trans b2) (Below.refl _ _)) ⟨b1,(hs.tmp.goes a2).goes b2,hs.jQ,hs.size⟩
inductive zK (σ:cd) (t:bZ):bZ→Prop
 |nil:zK σ t []
 |cons {t':bZ} (k:Nat) {p q:PV}:look k t=some p→aB σ p q→zK σ t t'→zK σ t ((k,q)::t')
theorem zK.get{σ:cd}{t t':bZ}(h:zK σ t t'):∀k q,look k t'=some q→∃p,look k t=some p∧aB σ p q:=by
 induction h with
 |nil=>intro k q h;cases h
 |cons k h1 h2 _ ih=>
  intro j q hj
  simp only[look]at hj
  rw[Bool.cond_eq_ite]at hj
  split at hj
  ·rename_i he
   have:=Nat.eq_of_beq_eq_true he
   subst this
   cases hj
   exact⟨_,h1,h2⟩
  ·exact ih j q hj
theorem ud{c:Code}{t t':bZ}{σ:cd}{Q:Exit→St→Prop}(hT:zK σ t t')(h:W P N 0 c ⟨t',[]⟩ Q):W P N 0 c ⟨t,σ⟩ Q:=fun F base E₀ w₀ E a w hc hs=>by
 have hF:∀b,F b→E.M b:=fun b hb=>(hs.sat.mm b).2 (.inl hb)
 refine h F base E₀ w₀ (EF F) a w ⟨hc.L,⟨by rw[hc.L];exact Nat.zero_le _,fun i hi=>by rw[hc.L]at hi;omega,fun b h1 h2 hf=>hc.g.M b h1 h2 (hF b hf),hc.g.size,hc.g.heap⟩,hc.b⟩
  ⟨⟨hs.sat.bl,fun b hb=>⟨(hs.sat.fb b hb).1,fun i blk h=>by simp at h⟩,rfl,fun b=>by simp[EF],fun i blk h=>by simp at h,fun i j bi bj b h=>by simp at h,hs.sat.gl.sub hF⟩,fun k q hq=>?_,hs.jQ,hs.size⟩
 obtain⟨p,h1,h2⟩:=hT.get k q hq
 exact h2.rep hs.sat hF (fun b hb=>(hs.sat.fb b hb).2) _ (hs.tmp k p h1)
end
end PW
end Go.Proofs.YtnegbdpggideiaaGreatDoor
namespace Go.Proofs.YtnegbdpggideiaaGreatDoor
namespace Heap
def par(q:Nat):Nat:=(q - 1) / 2
theorem eX{q:Nat}(h:0<q):par q<q:=by unfold par;omega
theorem Et{p c:Nat}(h:0<c)(hc:par c=p):c=2*p+1∨c=2*p+2:=by unfold par at hc;omega
def qy(f:Nat→Int)(len:Nat):Prop:=∀q,0<q→q<len→f (par q)≤f q
def Gh(f:Nat→Int)(len p:Nat):Prop:=0<p→∀c,0<c→c<len→par c=p→f (par p)≤f c
def nf(f:Nat→Int)(len p:Nat):Prop:=(∀q,0<q→q<len→q≠p→par q≠p→f (par q)≤f q)∧Gh f len p
def rv(f:Nat→Int)(len p:Nat):Prop:=(∀q,0<q→q<len→par q≠p→f (par q)≤f q)∧Gh f len p
def DA(f:Nat→Int)(p q x:Nat):Int:=if x=p then f q else if x=q then f p else f x
theorem vu(f:Nat→Int)(p q:Nat):DA f p q p=f q:=by simp[DA]
theorem HB(f:Nat→Int)(p q:Nat):DA f p q q=f p:=by
 unfold DA;split
 ·rename_i h;rw[h]
 ·simp
theorem kc(f:Nat→Int){p q x:Nat}(h1:x≠p)(h2:x≠q):DA f p q x=f x:=by simp[DA,h1,h2]
theorem BF{f:Nat→Int}{len p:Nat}(h:nf f len p)(hp:0<p)(hl:p<len)(_:f p<f (par p)):nf (DA f p (par p)) len (par p):=by
 have hpp:=eX hp
 refine⟨fun q h0 hq h1 h2=>?_,fun hg c h0 hc hpc=>?_⟩
 ·by_cases e:par q=p
  ·have hqp:=eX h0
   rw[e,vu,kc f (by omega) h1]
   exact h.2 hp q h0 hq e
  ·have hqp:q≠p:=fun e'=>h2 (by rw[e'])
   rw[kc f e h2,kc f hqp h1]
   exact h.1 q h0 hq hqp e
 ·have hgg:=eX hg
  rw[kc f (by omega) (by omega)]
  have h3:=h.1 (par p) hg (by omega) (by omega) (by omega)
  by_cases e:c=p
  ·rw[e,vu];exact h3
  ·have:=eX h0
   rw[kc f e (by omega)]
   have:=h.1 c h0 hc e (by omega)
   rw[hpc]at this
   omega
theorem wH{f:Nat→Int}{len p:Nat}(h:nf f len p)(hp:p=0∨f (par p)≤f p):rv f len p:=
 ⟨fun q h0 hq h2=>by
  by_cases e:q=p
  ·subst e
   rcases hp with h'|h'
   ·omega
   ·exact h'
  ·exact h.1 q h0 hq e h2,h.2⟩
theorem xM{f:Nat→Int}{len p:Nat}(h:rv f len p)(hk:∀c,0<c→c<len→par c=p→f p≤f c):qy f len:=fun q h0 hq=>by
 by_cases e:par q=p
 ·rw[e];exact hk q h0 hq e
 ·exact h.1 q h0 hq e
theorem wD{f:Nat→Int}{len p c:Nat}(h:rv f len p)(hc0:0<c)(hcl:c<len)(hcp:par c=p)(hlt:f c<f p)(hk:∀c',0<c'→c'<len→par c'=p→f c≤f c'):rv (DA f p c) len c:=by
 have hpc:=eX hc0
 refine⟨fun q h0 hq h2=>?_,fun _ d h0 hd hdc=>?_⟩
 ·have hqq:=eX h0
  by_cases e:par q=p
  ·rw[e,vu]
   by_cases e':q=c
   ·rw[e',HB];omega
   ·rw[kc f (by omega) e'];exact hk q h0 hq e
  ·rw[kc f e h2]
   by_cases e':q=p
   ·rw[e',vu]
    exact h.2 (by omega) c hc0 hcl hcp
   ·rw[kc f e' (fun e2=>e (by rw[e2];exact hcp))]
    exact h.1 q h0 hq e
 ·have hdd:=eX h0
  rw[hcp,vu,kc f (by omega) (by omega)]
  have:=h.1 d h0 hd (by omega)
  rw[hdc]at this
  exact this
theorem zO{f:Nat→Int}{len:Nat}(h:qy f len):∀q,q<len→f 0≤f q:=by
 intro q
 induction q using Nat.strongRecOn with
 |_ q ih=>
  intro hq
  by_cases e:q=0
  ·rw[e];exact Int.le_refl _
  ·have:=eX (q:=q) (by omega)
   exact Int.le_trans (ih (par q) this (by omega)) (h q (by omega) hq)
theorem uw{f g:Nat→Int}{len p:Nat}(h:qy f len)(he:∀q,q<len→q≠p→g q=f q)(hp:p<len):nf g len p:=by
 refine⟨fun q h0 hq h1 h2=>?_,fun hp0 c h0 hc hcp=>?_⟩
 ·have:=eX h0
  rw[he q hq h1,he (par q) (by omega) h2];exact h q h0 hq
 ·have:=eX h0
  have:=eX hp0
  rw[he (par p) (by omega) (by omega),he c hc (by omega)]
  have h1:=h c h0 hc
  rw[hcp]at h1
  exact Int.le_trans (h p hp0 hp) h1
theorem xz{f g:Nat→Int}{len:Nat}(h:qy f len)(he:∀q,q<len→g q=f q):nf g (len+1) len:=by
 refine⟨fun q h0 hq h1 _=>?_,fun hp0 c h0 hc hcp=>?_⟩
 ·have:=eX h0
  rw[he q (by omega),he (par q) (by omega)];exact h q h0 (by omega)
 ·have:=eX h0;omega
theorem xi{f g:Nat→Int}{len:Nat}(h:qy f (len+1))(he:∀q,q<len→q≠0→g q=f q):nf g len 0:=by
 refine⟨fun q h0 hq h1 h2=>?_,fun hp0=>by omega⟩
 have:=eX h0
 rw[he q hq h1,he (par q) (by omega) h2];exact h q h0 (by omega)
def kS(K:List Int)(i:Int):Int:=K.getD i.toNat 0*65536+i
def rk(K O:List Int)(p:Nat):Int:=kS K (O.getD p 0)
theorem tF{K:List Int}{i j:Int}(hi:0≤i)(hi':i<65536)(hj:0≤j)(hj':j<65536):
  decide (kS K i<kS K j)=(if K.getD i.toNat 0=K.getD j.toNat 0 then decide (i<j) else decide (K.getD i.toNat 0<K.getD j.toNat 0)):=by
 unfold kS
 generalize K.getD i.toNat 0=a
 generalize K.getD j.toNat 0=b
 split
 ·simp only[decide_eq_decide];omega
 ·simp only[decide_eq_decide];omega
theorem CK{K:List Int}{i j:Int}(hi:0≤i)(hj':j<65536)(h:kS K i≤kS K j):K.getD i.toNat 0≤K.getD j.toNat 0:=by
 unfold kS at h;omega
def dx(O:List Int)(p q:Nat):List Int:=(O.set p (O.getD q 0)).set q (O.getD p 0)
theorem fE(O:List Int)(p q:Nat):(dx O p q).length=O.length:=by simp[dx]
theorem dY(L:List Int)(i j:Nat)(c:Int)(hi:i<L.length):(L.set i c).getD j 0=if j=i then c else L.getD j 0:=by
 simp only[List.getD_eq_getElem?_getD,List.getElem?_set]
 by_cases h:i=j
 ·subst h;simp[hi]
 ·rw[if_neg h,if_neg (Ne.symm h)]
theorem dv(O:List Int)(p q x:Nat)(hp:p<O.length)(hq:q<O.length):(dx O p q).getD x 0=if x=q then O.getD p 0 else if x=p then O.getD q 0 else O.getD x 0:=by
 unfold dx
 rw[dY _ _ _ _ (by simpa using hq),dY _ _ _ _ hp]
theorem yq(K O:List Int)(p q:Nat)(hp:p<O.length)(hq:q<O.length):rk K (dx O p q)=DA (rk K O) p q:=by
 funext x
 unfold rk DA
 rw[dv O p q x hp hq]
 by_cases h1:x=q
 ·subst h1
  rw[if_pos rfl]
  by_cases h2:x=p
  ·rw[if_pos h2,h2]
  ·rw[if_neg h2,if_pos rfl]
 ·rw[if_neg h1]
  by_cases h2:x=p
  ·rw[if_pos h2,if_pos h2]
  ·rw[if_neg h2,if_neg h2,if_neg h1]
def ej(O:List Int)(i:Int):Prop:=∃p,p<O.length∧O.getD p 0=i
theorem ly(O:List Int)(p q:Nat)(hp:p<O.length)(hq:q<O.length)(i:Int):ej (dx O p q) i↔ej O i:=by
 unfold ej
 rw[fE]
 constructor
 ·rintro⟨x,hx,rfl⟩
  rw[dv O p q x hp hq]
  split
  ·exact⟨p,hp,rfl⟩
  ·split
   ·exact⟨q,hq,rfl⟩
   ·exact⟨x,hx,rfl⟩
 ·rintro⟨x,hx,rfl⟩
  by_cases h1:x=p
  ·exact⟨q,hq,by rw[dv O p q q hp hq,if_pos rfl,h1]⟩
  ·by_cases h2:x=q
   ·exact⟨p,hp,by
     rw[dv O p q p hp hq]
     by_cases h3:p=q
     ·omega
     ·rw[if_neg h3,if_pos rfl,h2]⟩
   ·exact⟨x,hx,by rw[dv O p q x hp hq,if_neg h2,if_neg h1]⟩
structure dj (N:Nat) (P O:List Int):Prop where
 len:P.length=N
 item:∀p,p<O.length→0≤O.getD p 0∧O.getD p 0<N∧P.getD (O.getD p 0).toNat 0=(p:Int)+1
 place:∀i,i<N→P.getD i 0=0∨∃p,p<O.length∧O.getD p 0=(i:Int)
theorem dj.inj{N:Nat}{P O:List Int}(h:dj N P O){p q:Nat}(hp:p<O.length)(hq:q<O.length)(he:O.getD p 0=O.getD q 0):p=q:=by
 have h1:=(h.item p hp).2.2
 have h2:=(h.item q hq).2.2
 rw[he]at h1
 omega
def gr(P O:List Int)(p q:Nat):List Int:=(P.set (O.getD q 0).toNat ((p:Int)+1)).set (O.getD p 0).toNat ((q:Int)+1)
theorem dj.swap{N:Nat}{P O:List Int}(h:dj N P O){p q:Nat}(hp:p<O.length)(hq:q<O.length):dj N (gr P O p q) (dx O p q):=by
 have ip:=h.item p hp
 have iq:=h.item q hq
 have hl:=h.len
 refine⟨by simp[gr,h.len],fun x hx=>?_,fun i hi=>?_⟩
 ·rw[fE]at hx
  have ix:=h.item x hx
  have e:∀j:Int,0≤j→j<N→(gr P O p q).getD j.toNat 0=if j=O.getD p 0 then(q:Int)+1 else if j=O.getD q 0 then(p:Int)+1 else P.getD j.toNat 0:=fun j h0 h1=>by
   unfold gr
   rw[dY _ _ _ _ (by rw[List.length_set];omega),dY _ _ _ _ (by omega)]
   have e1:(j.toNat=(O.getD p 0).toNat)=(j=O.getD p 0):=by apply propext;omega
   have e2:(j.toNat=(O.getD q 0).toNat)=(j=O.getD q 0):=by apply propext;omega
   simp only[e1,e2]
  rw[dv O p q x hp hq]
  by_cases h1:x=q
  ·rw[if_pos h1,e _ ip.1 ip.2.1,if_pos rfl]
   exact⟨ip.1,ip.2.1,by rw[h1]⟩
  ·rw[if_neg h1]
   by_cases h2:x=p
   ·rw[if_pos h2,e _ iq.1 iq.2.1,if_neg (fun e=>by have:=h.inj hq hp e;omega),if_pos rfl]
    exact⟨iq.1,iq.2.1,by rw[h2]⟩
   ·rw[if_neg h2,e _ ix.1 ix.2.1,if_neg (fun e=>h2 (h.inj hx hp e)),if_neg (fun e=>h1 (h.inj hx hq e))]
    exact ix
 ·by_cases hH:ej O (i:Int)
  ·exact .inr ((ly O p q hp hq (i:Int)).2 hH)
  ·rcases h.place i hi with h0|h0
   ·refine .inl ?_
    unfold gr
    rw[dY _ _ _ _ (by rw[List.length_set];omega),dY _ _ _ _ (by omega),if_neg (fun e=>hH ⟨p,hp,by omega⟩),if_neg (fun e=>hH ⟨q,hq,by omega⟩)]
    exact h0
   ·exact absurd h0 hH
theorem dj.zero{N:Nat}{P O:List Int}(h:dj N P O){i:Nat}(hi:i<N):P.getD i 0=0↔¬ej O (i:Int):=by
 constructor
 ·rintro h0 ⟨p,hp,he⟩
  have:=(h.item p hp).2.2
  rw[he,Int.toNat_natCast,h0]at this
  omega
 ·intro hn
  rcases h.place i hi with h0|h0
  ·exact h0
  ·exact absurd h0 hn
theorem dj.push{N:Nat}{P O:List Int}(h:dj N P O){i:Nat}(hi:i<N)(hn:¬ej O (i:Int)):dj N (P.set i ((O.length:Int)+1)) (O++[(i:Int)]):=by
 have hl:=h.len
 refine⟨by simp[h.len],fun x hx=>?_,fun j hj=>?_⟩
 ·rw[dY _ _ _ _ (by omega)]
  by_cases h1:x<O.length
  ·have ix:=h.item x h1
   have e:(O++[(i:Int)]).getD x 0=O.getD x 0:=by simp[List.getD_eq_getElem?_getD,List.getElem?_append_left h1]
   rw[e,if_neg (fun e=>hn ⟨x,h1,by omega⟩)]
   exact ix
  ·have:x=O.length:=by simp at hx;omega
   subst this
   have e:(O++[(i:Int)]).getD O.length 0=i:=by simp
   rw[e,Int.toNat_natCast,if_pos rfl]
   exact⟨by omega,by omega,rfl⟩
 ·rw[dY _ _ _ _ (by omega)]
  by_cases hji:j=i
  ·exact .inr ⟨O.length,by simp,by simp[hji]⟩
  ·rw[if_neg hji]
   rcases h.place j hj with h0|⟨p,hp,he⟩
   ·exact .inl h0
   ·exact .inr ⟨p,by simp;omega,by simp[List.getD_eq_getElem?_getD,List.getElem?_append_left hp]at he ⊢;exact he⟩
theorem y6(O:List Int)(i j:Int):ej (O++[i]) j↔j=i∨ej O j:=by
 constructor
 ·rintro⟨p,hp,rfl⟩
  by_cases h1:p<O.length
  ·exact .inr ⟨p,h1,by simp[List.getD_eq_getElem?_getD,List.getElem?_append_left h1]⟩
  ·have:p=O.length:=by simp at hp;omega
   subst this
   exact .inl (by simp)
 ·rintro(rfl|⟨p,hp,rfl⟩)
  ·exact⟨O.length,by simp,by simp⟩
  ·exact⟨p,by simp;omega,by simp[List.getD_eq_getElem?_getD,List.getElem?_append_left hp]⟩
theorem lr(O:List Int)(m x:Nat)(h:x<m):(O.take m).getD x 0=O.getD x 0:=by
 simp[List.getD_eq_getElem?_getD,h]
theorem dj.pop{N:Nat}{P O:List Int}{m:Nat}(h:dj N P O)(hm:O.length=m+1):dj N (P.set (O.getD m 0).toNat 0) (O.take m):=by
 have hl:=h.len
 have im:=h.item m (by omega)
 refine⟨by simp[h.len],fun x hx=>?_,fun j hj=>?_⟩
 ·have hx':x<m:=by simp at hx;omega
  rw[lr O m x hx',dY _ _ _ _ (by omega)]
  have ix:=h.item x (by omega)
  rw[if_neg (fun e=>by have:=h.inj (p:=x) (q:=m) (by omega) (by omega) (by omega);omega)]
  exact ix
 ·rw[dY _ _ _ _ (by omega)]
  by_cases hjm:j=(O.getD m 0).toNat
  ·exact .inl (if_pos hjm)
  ·rw[if_neg hjm]
   rcases h.place j hj with h0|⟨p,hp,he⟩
   ·exact .inl h0
   ·have:p≠m:=fun e=>hjm (by rw[←e,he];rfl)
    exact .inr ⟨p,by simp;omega,by rw[lr O m p (by omega)];exact he⟩
theorem BX{N:Nat}{P O:List Int}{m:Nat}(h:dj N P O)(hm:O.length=m+1)(j:Int):ej (O.take m) j↔ej O j∧j≠O.getD m 0:=by
 constructor
 ·rintro⟨p,hp,rfl⟩
  have hp':p<m:=by simp at hp;omega
  rw[lr O m p hp']
  exact⟨⟨p,by omega,rfl⟩,fun e=>by have:=h.inj (p:=p) (q:=m) (by omega) (by omega) e;omega⟩
 ·rintro⟨⟨p,hp,rfl⟩,hne⟩
  have:p≠m:=fun e=>hne (by rw[e])
  exact⟨p,by simp;omega,lr O m p (by omega)⟩
theorem xt:∀(N m:Nat) (f:Nat→Nat),(∀p,p<m→f p<N)→(∀p q,p<m→q<m→f p=f q→p=q)→m≤N
 |0,m,f,h,_=>by
  rcases Nat.eq_zero_or_pos m with h0|h0
  ·omega
  ·have:=h 0 h0;omega
 |N+1,m,f,h,hi=>by
  by_cases hx:∃p,p<m∧f p=N
  ·obtain⟨p0,hp0,he⟩:=hx
   have:=xt N (m - 1) (fun p=>if p=p0 then f (m - 1) else f p) (fun p hp=>by
    by_cases e:p=p0
    ·simp only[e,if_true]
     have h1:=h (m - 1) (by omega)
     have h2:f (m - 1)≠N:=fun e'=>by have:=hi (m - 1) p0 (by omega) hp0 (by omega);omega
     omega
    ·simp only[e,if_false]
     have h1:=h p (by omega)
     have h2:f p≠N:=fun e'=>e (hi p p0 (by omega) hp0 (by omega))
     omega) (fun p q hp hq hpq=>by
    by_cases e:p=p0<;>by_cases e':q=p0
    ·omega
    ·simp only[e,e',if_true,if_false]at hpq
     have:=hi (m - 1) q (by omega) (by omega) hpq
     omega
    ·simp only[e,e',if_true,if_false]at hpq
     have:=hi p (m - 1) (by omega) (by omega) hpq
     omega
    ·simp only[e,e',if_false]at hpq
     exact hi p q (by omega) (by omega) hpq)
   omega
  ·have:=xt N m f (fun p hp=>by
    have h1:=h p hp
    have h2:f p≠N:=fun e=>hx ⟨p,hp,e⟩
    omega) hi
   omega
theorem i6{N:Nat}{P O:List Int}(h:dj N P O):O.length≤N:=
 xt N O.length (fun p=>(O.getD p 0).toNat) (fun p hp=>by have:=h.item p hp;omega) (fun p q hp hq e=>by
  have h1:=h.item p hp
  have h2:=h.item q hq
  exact h.inj hp hq (by omega))
end Heap
end Go.Proofs.YtnegbdpggideiaaGreatDoor
namespace Go.Proofs.YtnegbdpggideiaaGreatDoor
namespace PW
open Go.RowKit cA Mem Net Heap
def gZ(b:Bool)(d:Option cR)(N n:Nat)(K P O:List Int):cd:=
 match b with
 |false=>[d,some (.cells 236 [.own 2,.own 3,.own 4]),some (.row 3 1 N (aN K)),some (.row 3 1 N (aN P)),some (.row 3 1 n (aN O))]
 |true=>[d,some (.cells 236 [.own 2,.own 3,.own 5]),some (.row 3 1 N (aN K)),some (.row 3 1 N (aN P)),none,some (.row 3 1 n (aN O))]
def HC:cR→Prop
 | .cells _ xs=>aG xs
 | .row _ _ _ xs=>aG xs
 | .mp kv=>aG (kv.map (·.2))
def jy(d:Option cR):Prop:=∀b,d=some b→HC b
theorem jN.same{fs:List Nat}{σ σ':cd}{js:List Nat}{j:Nat}{d:Option cR}(hd:jy d)(h:σ[j]? =some d)(hs:jN fs σ σ' js):jN fs σ (d::σ') (j::js):=by
 cases d with
 |none=>exact .gone hs
 |some b=>
  have hb:=hd b rfl
  cases b with
  |cells ty xs=>haveI:aG xs:=hd _ rfl;exact .kept h (.cells az.pure) hs
  |row e s n xs=>haveI:aG xs:=hd _ rfl;exact .kept h (.row az.pure) hs
  |mp kv=>haveI:aG (kv.map (·.2)):=hd _ rfl;exact .kept h .mp hs
def tY(K P O:List Int):PV:=.aV [ax K,ax P,ax O] 0
theorem pU(b:Bool)(d:Option cR){N n:Nat}{K P O:List Int}(hK:K.length=N)(hP:P.length=N)(hO:O.length=n):aB (gZ b d N n K P O) (.ptr 1 0) (tY K P O):=by
 subst hK;subst hO
 unfold tY ax
 rw[hP]
 cases b<;>exact aB.jc rfl (an.cons (aB.ey rfl an.pure) (an.cons (aB.ey rfl an.pure) (an.cons (aB.ey rfl an.pure) an.nil)))
theorem jG{N:Nat}{P O:List Int}(h:dj N P O){p:Nat}(hp:p<O.length):∃i:Nat,O.getD p 0=(i:Int)∧i<N:=by
 obtain⟨h1,h2,_⟩:=h.item p hp
 exact⟨(O.getD p 0).toNat,by omega,by omega⟩
theorem p7{N:Nat}(K P O:List Int)(hP:dj N P O)(hK:K.length=N)(hN:N≤65536)(p q:Nat)(hp:p<O.length)(hq:q<O.length):
  Can Tryz.prog 222 [tY K P O,num p,num q] (· =flag (decide (rk K O p<rk K O q))):=by
 obtain⟨i,hi,hi'⟩:=jG hP hp
 obtain⟨j,hj,hj'⟩:=jG hP hq
 have hr:decide (rk K O p<rk K O q)=if K.getD i 0=K.getD j 0 then decide ((i:Int)<(j:Int)) else decide (K.getD i 0<K.getD j 0):=by
  unfold rk
  rw[hi,hj,tF (by omega) (by omega) (by omega) (by omega),Int.toNat_natCast,Int.toNat_natCast]
 refine aF Tryz.func222 rfl Tryz.ntmps222 rfl<|ab (.a 1 rfl<|.k [0,1,2] rfl)<|fp mixed (by kernel_rfl) (.a 5 rfl<|.v [12,13] (aI (p) rfl) rfl rfl<|.v [14] (aL rfl ((aD O p hp).trans (by rw[hi]))) rfl rfl<|.a 5 rfl<|.v [19,20] (aI (q) rfl) rfl rfl<|.v [21] (aL rfl ((aD O q hq).trans (by rw[hj]))) rfl rfl<|.a 2 rfl<|.k [0,7,8] rfl) ?_
 refine aj<|fp mixed (by kernel_rfl) (.a 5 rfl<|.v [26,27] (aI (i) rfl) rfl rfl<|.v [28] (aL rfl (aD K i (by omega))) rfl rfl<|.a 5 rfl<|.v [33,34] (aI (j) rfl) rfl rfl<|.v [35] (aL rfl (aD K j (by omega))) rfl rfl<|.a 1 rfl<|.k [0,7,8,37] rfl) ?_
 refine ah rfl (fun hc=>?_) (fun hc=>?_)
 ·have:=of_decide_eq_true hc
  rw[if_neg this]at hr
  refine fp mixed (by kernel_rfl) (.a 5 rfl<|.v [41,42] (aI (i) rfl) rfl rfl<|.v [43] (aL rfl (aD K i (by omega))) rfl rfl<|.a 5 rfl<|.v [48,49] (aI (j) rfl) rfl rfl<|.v [50] (aL rfl (aD K j (by omega))) rfl rfl<|.a 2 rfl<|.k [6] rfl) ?_
  exact aq<|⟨_,_,aA.of rfl,aB.pure,by rw[hr];rfl⟩
 ·have:=of_decide_eq_false hc
  rw[if_pos (by simpa using this)]at hr
  exact ak<|ab (.a 4 rfl<|.k [6] rfl)<|aq<|⟨_,_,aA.of rfl,aB.pure,by rw[hr];rfl⟩
theorem qI{N n:Nat}(b:Bool)(d:Option cR)(K P O:List Int)(hP:dj N P O)(hO:O.length=n)(hN:N≤65536)(p q:Nat)(hp:p<O.length)(hq:q<O.length):
  bS Tryz.prog 223 [.ptr 1 0,num p,num q] (gZ b d N n K P O) (fun _ σ'=>σ'=gZ b d N n K (gr P O p q) (dx O p q)):=by
 obtain⟨i,hi,hi'⟩:=jG hP hp
 obtain⟨j,hj,hj'⟩:=jG hP hq
 have hlen:=i6 hP
 have hPl:=hP.len
 have gp:(dx O p q).getD p 0=j:=by
  rw[dv O p q p hp hq]
  by_cases h:p=q
  ·rw[if_pos h];subst h;omega
  ·rw[if_neg h,if_pos rfl,hj]
 have gq:(dx O p q).getD q 0=i:=by rw[dv O p q q hp hq,if_pos rfl,hi]
 have hsw:dx O p q=(O.set p (j:Int)).set q (i:Int):=by unfold dx;rw[hi,hj]
 rw[hsw]at gp gq
 refine cp Tryz.func223 rfl Tryz.ntmps223 rfl ?_
 cases b
 all_goals
  refine kY 25 20 mixed (
   .val [0] rfl (bF rfl) rfl rfl<|
   .val [6] rfl (bF rfl) rfl rfl<|
   .val [7] rfl (bF rfl) rfl rfl<|
   .val [8] rfl (bF rfl) rfl rfl<|
   .val [1] rfl (bF rfl) rfl rfl<|
   .val [0] rfl (bF rfl) rfl rfl<|
   .val [11] rfl (bF rfl) rfl rfl<|
   .val [12] rfl (bF rfl) rfl rfl<|
   .val [13] rfl (bF rfl) rfl rfl<|
   .late [2] rfl (mo rfl rfl) inferInstance rfl rfl<|
   .val [0] rfl (bF rfl) rfl rfl<|
   .val [16] rfl (bF rfl) rfl rfl<|
   .val [17] rfl (bF rfl) rfl rfl<|
   .val [18] rfl (bF rfl) rfl rfl<|
   .val [2] rfl (bF rfl) rfl rfl<|
   .val [19,20] rfl (aI (q) rfl) rfl rfl<|
   .val [21] rfl (aL rfl ((aD O q hq).trans (by rw[hj]))) rfl rfl<|
   .val [0] rfl (bF rfl) rfl rfl<|
   .val [23] rfl (bF rfl) rfl rfl<|
   .val [24] rfl (bF rfl) rfl rfl<|
   .val [25] rfl (bF rfl) rfl rfl<|
   .val [1] rfl (bF rfl) rfl rfl<|
   .val [26,27] rfl (aI (p) rfl) rfl rfl<|
   .val [28] rfl (aL rfl ((aD O p hp).trans (by rw[hi]))) rfl rfl<|
   .val [9,10] rfl (aI (p) rfl) rfl rfl<|
   .nil) (by kernel_rfl) rfl rfl (bh (ks:=[0,1,2,14,15,22,29,30]) rfl) ?_
  refine br ((by first|exact bQ rfl (bE.tk.get rfl) rfl rfl rfl (by first|omega|(simp;omega))|exact bb rfl (bE.tk.get rfl) rfl rfl rfl (by first|omega|(simp;omega)))) rfl rfl<|bz (aI (q) rfl) rfl<|br ((by first|exact bQ rfl (bE.tk.get rfl) rfl rfl rfl (by first|omega|(simp;omega))|exact bb rfl (bE.tk.get rfl) rfl rfl rfl (by first|omega|(simp;omega)))) rfl rfl<|aH [0,1,2] rfl ?_
  refine kY 14 20 mixed (
   .val [0] rfl (bF rfl) rfl rfl<|
   .val [32] rfl (bF rfl) rfl rfl<|
   .val [33] rfl (bF rfl) rfl rfl<|
   .val [34] rfl (bF rfl) rfl rfl<|
   .val [0] rfl (bF rfl) rfl rfl<|
   .val [36] rfl (bF rfl) rfl rfl<|
   .val [37] rfl (bF rfl) rfl rfl<|
   .val [38] rfl (bF rfl) rfl rfl<|
   .val [1] rfl (bF rfl) rfl rfl<|
   .val [39,40] rfl (aI (p) rfl) rfl rfl<|
   .val [41] rfl (aL rfl ((aD ((O.set p (j:Int)).set q (i:Int)) p (by simpa using hp)).trans (by rw[gp]))) rfl rfl<|
   .val [1] rfl (bF rfl) rfl rfl<|
   .val [43] rfl (aR rfl) rfl rfl<|
   .val [35,42] rfl (aI (j) rfl) rfl rfl<|
   .nil) (by kernel_rfl) rfl rfl (bh (ks:=[0,2,44,45]) rfl) ?_
  refine br ((by first|exact bQ rfl (bE.tk.get rfl) rfl rfl rfl (by first|omega|(simp;omega))|exact bb rfl (bE.tk.get rfl) rfl rfl rfl (by first|omega|(simp;omega)))) rfl rfl<|aH [0,2] rfl ?_
  refine dI 14 20 mixed (
   .val [0] rfl (bF rfl) rfl rfl<|
   .val [46] rfl (bF rfl) rfl rfl<|
   .val [47] rfl (bF rfl) rfl rfl<|
   .val [48] rfl (bF rfl) rfl rfl<|
   .val [0] rfl (bF rfl) rfl rfl<|
   .val [50] rfl (bF rfl) rfl rfl<|
   .val [51] rfl (bF rfl) rfl rfl<|
   .val [52] rfl (bF rfl) rfl rfl<|
   .val [2] rfl (bF rfl) rfl rfl<|
   .val [53,54] rfl (aI (q) rfl) rfl rfl<|
   .val [55] rfl (aL rfl ((aD ((O.set p (j:Int)).set q (i:Int)) q (by simpa using hq)).trans (by rw[gq]))) rfl rfl<|
   .val [2] rfl (bF rfl) rfl rfl<|
   .val [57] rfl (aR rfl) rfl rfl<|
   .val [49,56] rfl (aI (i) rfl) rfl rfl<|
   .nil) (by kernel_rfl) rfl rfl (bh (ks:=[58,59]) rfl) ?_
  refine br ((by first|exact bQ rfl (bE.tk.get rfl) rfl rfl rfl (by first|omega|(simp;omega))|exact bb rfl (bE.tk.get rfl) rfl rfl rfl (by first|omega|(simp;omega)))) rfl rfl<|aH [] rfl ?_
  refine⟨_,aA.of rfl,?_⟩
  unfold gr
  rw[hi,hj,hsw]
  rfl
theorem Bs(p:Nat)(h:0<p):((p:Int) - 1).tdiv 2=((par p:Nat):Int):=by
 rw[Int.tdiv_eq_ediv_of_nonneg (by omega)];unfold par;omega
theorem xZ{σ:cd}{K P O:List Int}(h:aB σ (.ptr 1 0) (tY K P O))(p q:Int):an σ ([.ptr 1 0,num p,num q]++[]) [tY K P O,num p,num q]:=an.cons h (an.cons aB.pure (an.cons aB.pure an.nil))
theorem mz{N n:Nat}(b:Bool)(d:Option cR)(K P O:List Int)(hP:dj N P O)(hO:O.length=n)(hK:K.length=N)(hN:N≤65536)(p:Nat)(hp:p<n)(hL:nf (rk K O) n p):
  bS Tryz.prog 213 [.ptr 1 0,num p] (gZ b d N n K P O) (fun _ σ'=>∃P' O',σ'=gZ b d N n K P' O'∧dj N P' O'∧O'.length=n∧qy (rk K O') n∧∀i,ej O' i↔ej O i):=by
 have hlen:=i6 hP
 refine cp Tryz.func213 rfl Tryz.ntmps213 rfl ?_
 cases b
 all_goals
  refine aj<|av<|eZ [0,1] rfl<|bw (fun r s=>∃P' O' p',dj N P' O'∧O'.length=n∧nf (rk K O') n p'∧p'<n∧(∀i,ej O' i↔ej O i)∧r=p'∧s=⟨[(0,.ptr 1 0),(1,num p')],gZ _ d N n K P' O'⟩) p ⟨P,O,p,hP,hO,hL,hp,fun _=>Iff.rfl,rfl,rfl⟩ ?_
  rintro r s ⟨P',O',p',hP',hO',hL',hp',hH',rfl,rfl⟩
  refine aj ?_
  obtain⟨q1,hq1⟩:∃q,decide ((0:Int)<(r:Int))=q:=⟨_,rfl⟩
  obtain⟨q2,hq2⟩:∃q,decide (rk K O' r<rk K O' (par r))=q:=⟨_,rfl⟩
  refine bC 15 (.raw (.bool (q1&&q2))) [0,1] rfl ?_ ?_
  ·refine .a 1 rfl<|.v (cC rfl (hq1)) rfl<|.a 1 rfl<|?_
   cases q1
   ·exact .a 7 rfl<|.k [15,0,1] rfl
   ·exact .a 3 rfl<|.v (aR rfl) rfl<|.v (jF rfl rfl rfl (by decide) (Bs r (by have:=of_decide_eq_true hq1;omega)) (by unfold In64 par;omega)) rfl<|.v (G6 rfl (xZ (pU _ d hK hP'.len hO') _ _) (hq2▸p7 K P' O' hP' hK hN r (par r) (by omega) (by have:=of_decide_eq_true hq1;have:=eX (q:=r) (by omega);omega))) rfl<|.a 1 rfl<|.k [15,0,1] rfl
  refine ah rfl (fun hc=>?_) (fun hc=>?_)
  ·obtain⟨c1,c2⟩:=Bool.and_eq_true_iff.1 hc
   rw[c1]at hq1
   rw[c2]at hq2
   have hr0:0<r:=by have:=of_decide_eq_true hq1;omega
   have hlt:=of_decide_eq_true hq2
   have hpl:=eX hr0
   refine ak<|av<|aQ<|au 3 rfl<|bz (aR rfl) rfl<|bz (jF rfl rfl rfl (by decide) (Bs r hr0) (by unfold In64;omega)) rfl<|cM rfl rfl (bS.mono (qI _ d K P' O' hP' hO' hN r (par r) (by omega) (by omega)) (fun _ σ' h=>?_))
   subst h
   refine aH [0,1] rfl ?_
   refine ay (.a 1 rfl<|.v (aR rfl) rfl<|.v (jF rfl rfl rfl (by decide) (Bs r hr0) (by unfold In64;omega)) rfl<|.a 1 rfl<|.k [0,1] rfl) ?_
   refine⟨par r,hpl,gr P' O' r (par r),dx O' r (par r),par r,hP'.swap (by omega) (by omega),by rw[fE];exact hO',?_,by omega,fun i=>(ly O' r (par r) (by omega) (by omega) i).trans (hH' i),rfl,rfl⟩
   rw[yq K O' r (par r) (by omega) (by omega)]
   exact BF hL' hr0 hp' hlt
  ·have hdn:rv (rk K O') n r:=wH hL' (by
    by_cases h0:r=0
    ·exact .inl h0
    ·refine .inr ?_
     have h1:q1=true:=by rw[←hq1];simp;omega
     rw[h1]at hc
     simp only[Bool.true_and]at hc
     rw[hc]at hq2
     have:=of_decide_eq_false hq2
     omega)
   clear hL' hq1 hq2 hc
   refine bn<|av<|eZ [0,1] rfl<|bw (fun r s=>∃P' O' p',dj N P' O'∧O'.length=n∧rv (rk K O') n p'∧p'<n∧(∀i,ej O' i↔ej O i)∧r=n - p'∧s=⟨[(0,.ptr 1 0),(1,num p')],gZ _ d N n K P' O'⟩) (n - r) ⟨P',O',r,hP',hO',hdn,hp',hH',rfl,rfl⟩ ?_
   clear hP' hO' hdn hH' P' O' hp' r
   rintro r s ⟨P',O',p',hP',hO',hdn,hp',hH',rfl,rfl⟩
   refine av<|ab (.a 2 rfl<|.k [0,1,4] rfl)<|aj<|ab (.a 1 rfl<|.v (aR rfl) rfl<|.v (aR rfl) rfl<|.a 1 rfl<|.k [0,1,4,5] rfl)<|av<|eZ [0,1,4,5] rfl<|bw (fun r s=>∃c l,2*p'+1≤c∧c≤2*p'+3∧r=2*p'+3 - c∧l<n∧(l=p'∨(par l=p'∧0<l∧rk K O' l<rk K O' p'))∧(∀x,2*p'+1≤x→x<c→x<n→rk K O' l≤rk K O' x)∧s=⟨[(0,.ptr 1 0),(1,num p'),(4,num l),(5,num c)],gZ _ d N n K P' O'⟩) 2 ⟨2*p'+1,p',by omega,by omega,by omega,hp',.inl rfl,fun x h1 h2=>by omega,rfl⟩ ?_
   rintro r s ⟨c,l,hc1,hc2,rfl,hl,hl2,hl3,rfl⟩
   refine aj ?_
   obtain⟨q1,hq1⟩:∃q,decide ((c:Int)≤2*(p':Int)+2)=q:=⟨_,rfl⟩
   obtain⟨q2,hq2⟩:∃q,decide ((c:Int)<(n:Int))=q:=⟨_,rfl⟩
   refine bC 42 (.raw (.bool (q1&&q2))) [0,1,4,5] rfl ?_ ?_
   ·refine .a 2 rfl<|.v (aR rfl) rfl<|.v (aR rfl) rfl<|.v (cC rfl (hq1)) rfl<|.a 1 rfl<|?_
    cases q1
    ·exact .a 8 rfl<|.k [42,0,1,4,5] rfl
    ·exact .a 6 rfl<|.v (cC rfl (hq2)) rfl<|.a 1 rfl<|.k [42,0,1,4,5] rfl
   refine ah rfl (fun hc=>?_) (fun hc=>?_)
   ·obtain⟨c1,c2⟩:=Bool.and_eq_true_iff.1 hc
    rw[c1]at hq1
    rw[c2]at hq2
    have hcn:c<n:=by have:=of_decide_eq_true hq2;omega
    have hc4:c≤2*p'+2:=by have:=of_decide_eq_true hq1;omega
    have hpc:par c=p':=by unfold par;omega
    refine ak<|aj<|av<|ab (.a 3 rfl<|.v (G6 rfl (xZ (pU _ d hK hP'.len hO') _ _) (p7 K P' O' hP' hK hN c l (by omega) (by omega))) rfl<|.k [0,1,4,5,48] rfl)<|ah rfl (fun hb=>?_) (fun hb=>?_)
    ·have hb':=of_decide_eq_true hb
     refine ay (.a 2 rfl<|.k [0,1,4,5] rfl) ?_
     refine ay (.a 1 rfl<|.v (aR rfl) rfl<|.a 1 rfl<|.k [0,1,4,5] rfl) ?_
     first
      |exact⟨2*p'+3 - (c+1),by omega,c+1,c,by omega,by omega,rfl,hcn,.inr ⟨hpc,by omega,by rcases hl2 with h|h;(rw[h]at hb';exact hb');omega⟩,fun x h1 h2 h3=>by by_cases e:x=c;(rw[e];exact Int.le_refl _);(have:=hl3 x h1 (by omega) h3;omega),rfl⟩
      |exact⟨2*p'+3 - (c+1),by omega,c+1,l,by omega,by omega,rfl,hl,hl2,fun x h1 h2 h3=>by by_cases e:x=c;(rw[e];omega);exact hl3 x h1 (by omega) h3,rfl⟩
    ·have hb':=of_decide_eq_false hb
     refine ak<|ay (.a 1 rfl<|.v (aR rfl) rfl<|.a 1 rfl<|.k [0,1,4,5] rfl) ?_
     first
      |exact⟨2*p'+3 - (c+1),by omega,c+1,c,by omega,by omega,rfl,hcn,.inr ⟨hpc,by omega,by rcases hl2 with h|h;(rw[h]at hb';exact hb');omega⟩,fun x h1 h2 h3=>by by_cases e:x=c;(rw[e];exact Int.le_refl _);(have:=hl3 x h1 (by omega) h3;omega),rfl⟩
      |exact⟨2*p'+3 - (c+1),by omega,c+1,l,by omega,by omega,rfl,hl,hl2,fun x h1 h2 h3=>by by_cases e:x=c;(rw[e];omega);exact hl3 x h1 (by omega) h3,rfl⟩
   ·have hmin:∀x,0<x→x<n→par x=p'→rk K O' l≤rk K O' x:=fun x h0 hx hpx=>by
     refine hl3 x (by unfold par at hpx;omega) ?_ hx
     rcases Nat.lt_or_ge x c with h|h
     ·exact h
     ·exfalso
      have hx2:=Et h0 hpx
      have h1:q1=true:=by rw[←hq1];simp;omega
      rw[h1]at hc
      simp only[Bool.true_and]at hc
      rw[hc]at hq2
      have:=of_decide_eq_false hq2
      omega
    clear hc hq1 hq2 hl3
    refine bn<|aj<|ab (.a 3 rfl<|.k [0,1,4,52] rfl)<|ah rfl (fun hc=>?_) (fun hc=>?_)
    ·have hlp:l=p':=by have:=of_decide_eq_true hc;omega
     refine aq<|⟨_,aA.of rfl,P',O',rfl,hP',hO',?_,hH'⟩
     refine xM hdn fun x h0 hx hpx=>?_
     have:=hmin x h0 hx hpx
     rw[hlp]at this
     exact this
    ·have hlp:l≠p':=by have:=of_decide_eq_false hc;omega
     obtain⟨hlp1,hl0,hllt⟩:=hl2.resolve_left hlp
     refine ak<|aQ<|au 3 rfl<|cM rfl rfl (bS.mono (qI _ d K P' O' hP' hO' hN p' l (by omega) (by omega)) (fun _ σ' h=>?_))
     subst h
     refine aH [0,4] rfl ?_
     refine ay (.a 2 rfl<|.k [0,1] rfl) ?_
     have hpl:=eX hl0
     refine⟨n - l,by omega,gr P' O' p' l,dx O' p' l,l,hP'.swap (by omega) (by omega),by rw[fE];exact hO',?_,hl,fun i=>(ly O' p' l (by omega) (by omega) i).trans (hH' i),rfl,rfl⟩
     rw[yq K O' p' l (by omega) (by omega)]
     exact wD hdn hl0 hl hlp1 hllt hmin
def A5(N n:Nat)(K P O:List Int):Prop:=dj N P O∧O.length=n∧K.length=N∧qy (rk K O) n
theorem Dn{N n:Nat}(d:Option cR)(hd:jy d)(K P O:List Int)(h:A5 N (n+1) K P O)(hN:N≤65536)(i:Nat)(hi:O.getD 0 0=(i:Int)):
  bS Tryz.prog 214 [.ptr 1 0,num 0] (gZ false d N (n+1) K P O) (fun _ σ'=>∃P' O',σ'=gZ true d N n (K.set i 0) P' O'∧A5 N n (K.set i 0) P' O'∧∀j,ej O' j↔ej O j∧j≠(i:Int)):=by
 obtain⟨hP,hO,hK,hH⟩:=h
 have hlen:=i6 hP
 have hiN:i<N:=by have:=(hP.item 0 (by omega)).2.1;rw[hi]at this;omega
 have hPs:=hP.swap (p:=0) (q:=n) (by omega) (by omega)
 have hg:(dx O 0 n).getD n 0=(i:Int):=by rw[dv O 0 n n (by omega) (by omega),if_pos rfl,hi]
 have hPp:=hPs.pop (m:=n) (by rw[fE];exact hO)
 rw[hg,Int.toNat_natCast]at hPp
 have hheld:∀j,ej ((dx O 0 n).take n) j↔ej O j∧j≠(i:Int):=fun j=>by
  rw[BX hPs (by rw[fE];exact hO) j,hg,ly O 0 n (by omega) (by omega)]
 have hOt:((dx O 0 n).take n).length=n:=by rw[List.length_take,fE];omega
 have hPll:(gr P O 0 n).length=N:=hPs.len
 have hrk:∀x,x<n→x≠0→rk (K.set i 0) ((dx O 0 n).take n) x=rk K O x:=fun x hx hx0=>by
  unfold rk
  rw[lr _ _ _ hx,dv O 0 n x (by omega) (by omega),if_neg (by omega),if_neg hx0]
  unfold kS
  have hne:(O.getD x 0).toNat≠i:=fun e=>by
   have h1:=hP.item x (by omega)
   have:=hP.inj (p:=x) (q:=0) (by omega) (by omega) (by rw[hi];omega)
   omega
  rw[dY _ _ _ _ (by omega),if_neg hne]
 have hloose:nf (rk (K.set i 0) ((dx O 0 n).take n)) n 0:=xi hH hrk
 refine cp Tryz.func214 rfl Tryz.ntmps214 rfl<|ab (.a 5 rfl<|.v (aR rfl (hc:=(show(((n+1:Nat):Int)) - 1=(n:Int) by omega))) rfl<|.a 1 rfl<|.k [0,1,4] rfl)<|ab (.a 5 rfl<|.v (aI (0) rfl) rfl<|.v (aL rfl ((aD O 0 (by omega)).trans (by rw[hi]))) rfl<|.a 1 rfl<|.k [0,1,4,5] rfl)<|aQ<|au 3 rfl<|cM rfl rfl (bS.mono (qI false d K P O hP hO hN 0 n (by omega) (by omega)) (fun _ σ' h=>?_))
 subst h
 refine aH [0,1,4,5] rfl ?_
 refine aQ<|au 6 rfl<|ca (mW rfl (bE.el.get rfl) rfl rfl rfl rfl (by omega)) rfl<|au 3 rfl ?_
 refine cE [0,1,2,3,4,5] (.c 0<|.c 1<|.c 4<|.c 5<|.nil) (.same hd rfl<|.kept rfl (.cells (az.c<|az.c<|az.c<|az.nil))<|.kept rfl (.row az.pure)<|.kept rfl (.row az.pure)<|.gone<|.kept rfl (.dr rfl (show(aN (dx O 0 n)).take (n*1)=aN ((dx O 0 n).take n) by rw[Nat.mul_one];unfold aN;rw[List.map_take]))<|.nil) rfl rfl (aO ?_)
 refine kY 11 20 mixed (
  .val [0] rfl (bF rfl) rfl rfl<|
  .val [32] rfl (bF rfl) rfl rfl<|
  .val [33] rfl (bF rfl) rfl rfl<|
  .val [34] rfl (bF rfl) rfl rfl<|
  .val [5] rfl (bF rfl) rfl rfl<|
  .val [0] rfl (bF rfl) rfl rfl<|
  .val [37] rfl (bF rfl) rfl rfl<|
  .val [38] rfl (bF rfl) rfl rfl<|
  .val [39] rfl (bF rfl) rfl rfl<|
  .late [5] rfl (mo rfl rfl) inferInstance rfl rfl<|
  .val [35,36] rfl (aI (i) rfl) rfl rfl<|
  .nil) (by kernel_rfl) rfl rfl (bh (ks:=[0,1,4,40,41,42]) rfl) ?_
 refine br ((by first|exact bQ rfl (bE.tk.get rfl) rfl rfl rfl (by first|omega|(simp;omega))|exact bb rfl (bE.tk.get rfl) rfl rfl rfl (by first|omega|(simp;omega)))) rfl rfl<|bz (aI (i) rfl) rfl<|br ((by first|exact bQ rfl (bE.tk.get rfl) rfl rfl rfl (by first|omega|(simp;omega))|exact bb rfl (bE.tk.get rfl) rfl rfl rfl (by first|omega|(simp;omega)))) rfl rfl<|aH [0,1,4] rfl ?_
 refine ab (.a 3 rfl<|.k [0,1,46] rfl)<|ah rfl (fun hc=>?_) (fun hc=>?_)
 ·have hn0:0<n:=by have:=of_decide_eq_true hc;omega
  refine ba<|au 2 rfl<|cM rfl rfl (bS.mono (mz true d (K.set i 0) ((gr P O 0 n).set i 0) ((dx O 0 n).take n) hPp hOt (by simpa using hK) hN 0 hn0 hloose) (fun _ σ' h=>?_))
  obtain⟨P',O',rfl,h1,h2,h3,h4⟩:=h
  refine aH [] rfl ?_
  first
   |exact⟨_,aA.of rfl,P',O',rfl,⟨h1,h2,by simpa using hK,h3⟩,fun j=>(h4 j).trans (hheld j)⟩
   |exact⟨_,aA.of rfl,(gr P O 0 n).set i 0,(dx O 0 n).take n,rfl,⟨hPp,hOt,by simpa using hK,fun q h0 hq=>by omega⟩,hheld⟩
 ·have hn0:n=0:=by have:=of_decide_eq_false hc;omega
  refine ak ?_
  first
   |exact⟨_,aA.of rfl,P',O',rfl,⟨h1,h2,by simpa using hK,h3⟩,fun j=>(h4 j).trans (hheld j)⟩
   |exact⟨_,aA.of rfl,(gr P O 0 n).set i 0,(dx O 0 n).take n,rfl,⟨hPp,hOt,by simpa using hK,fun q h0 hq=>by omega⟩,hheld⟩
theorem FM{N:Nat}(K P O:List Int)(hP:P.length=N)(hK:K.length=N)(hN:N≤65536)(i:Nat)(hi:i<N):
  Can Tryz.prog 200 [tY K P O,num i] (· = .tuple [num (if P.getD i 0=0 then 0 else K.getD i 0),flag (!decide (P.getD i 0=0))]):=by
 refine aF Tryz.func200 rfl Tryz.ntmps200 rfl<|ab (.a 2 rfl<|.k [0,1] rfl)<|aj ?_
 obtain⟨q1,hq1⟩:∃q,decide ((i:Int)<0)=q:=⟨_,rfl⟩
 obtain⟨q2,hq2⟩:∃q,decide ((K.length:Int)≤(i:Int))=q:=⟨_,rfl⟩
 obtain⟨q3,hq3⟩:∃q,decide (P.getD i 0=0)=q:=⟨_,rfl⟩
 refine bC 30 (.raw (.bool (q1||q2||q3))) [0,1] rfl ?_ ?_
 ·refine .a 4 rfl<|.v (cC rfl (hq1)) rfl<|.a 2 rfl<|?_
  cases q1
  ·refine .a 6 rfl<|.v (cC rfl (hq2)) rfl<|.a 2 rfl<|?_
   cases q2
   ·exact .a 5 rfl<|.v (aI (i) rfl) rfl<|.v (aL rfl (aD P i (by omega))) rfl<|.v (cC rfl (hq3)) rfl<|.a 1 rfl<|.k [30,0,1] rfl
   ·exact .a 9 rfl<|.k [30,0,1] rfl
  ·exact .a 18 rfl<|.k [30,0,1] rfl
 refine ah rfl (fun hc=>?_) (fun hc=>?_)
 ·have h1:q1=false:=by rw[←hq1];simp
  have h2:q2=false:=by rw[←hq2];simp;omega
  rw[h1,h2]at hc
  simp only[Bool.false_or]at hc
  rw[hc]at hq3
  refine ab (.a 2 rfl<|.k [4,5] rfl)<|aq<|⟨_,_,aA.of rfl,aB.pure,?_⟩
  rw[hq3]
  first
   |(rw[if_pos (of_decide_eq_true hq3)];rfl)
   |(rw[if_neg (of_decide_eq_false hq3)];rfl)
 ·have hc3:q3=false:=by revert hc;cases q3<;>simp
  rw[hc3]at hq3
  refine ak<|ab (.a 5 rfl<|.v (aI (i) rfl) rfl<|.v (aL rfl (aD K i (by omega))) rfl<|.a 2 rfl<|.k [4,5] rfl)<|aq<|⟨_,_,aA.of rfl,aB.pure,?_⟩
  rw[hq3]
  first
   |(rw[if_pos (of_decide_eq_true hq3)];rfl)
   |(rw[if_neg (of_decide_eq_false hq3)];rfl)
theorem Ft{N n:Nat}(d:Option cR)(hd:jy d)(K P O:List Int)(h:A5 N n K P O)(hN:N≤65536):
  bS Tryz.prog 199 [.ptr 1 0] (gZ false d N n K P O) (fun r σ'=>(n=0∧r= .tuple [num 0,num 0,flag false]∧σ'=gZ false d N n K P O)∨
   ∃(n' i:Nat) (P' O':List Int),n=n'+1∧i<N∧O.getD 0 0=(i:Int)∧r= .tuple [num i,num (K.getD i 0),flag true]∧σ'=gZ true d N n' (K.set i 0) P' O'∧A5 N n' (K.set i 0) P' O'∧∀j,ej O' j↔ej O j∧j≠(i:Int)):=by
 have h':=h
 obtain⟨hP,hO,hK,hH⟩:=h'
 refine cp Tryz.func199 rfl Tryz.ntmps199 rfl<|ab (.a 3 rfl<|.k [0] rfl)<|aj ?_
 obtain⟨q1,hq1⟩:∃q,decide ((n:Int)=0)=q:=⟨_,rfl⟩
 refine bC 14 (.raw (.bool (q1))) [0] rfl ?_ ?_
 ·exact .a 8 rfl<|.v (cC rfl (hq1)) rfl<|.a 1 rfl<|.k [14,0] rfl
 refine ah rfl (fun hc=>?_) (fun hc=>?_)
 ·have hn0:n=0:=by rw[hc]at hq1;have:=of_decide_eq_true hq1;omega
  refine ab (.a 3 rfl<|.k [2,3,4] rfl)<|aq ?_
  first
   |exact⟨_,aA.of rfl,.inl ⟨hn0,rfl,rfl⟩⟩
   |exact⟨_,aA.of rfl,.inr ⟨n',i,P',O',rfl,hiN,hi,rfl,rfl,h1,h2⟩⟩
 ·have hn0:n≠0:=by rw[hc]at hq1;have:=of_decide_eq_false hq1;omega
  obtain⟨n',rfl⟩:∃n',n=n'+1:=⟨n - 1,by omega⟩
  obtain⟨i,hi,hiN⟩:=jG hP (p:=0) (by omega)
  refine ak<|ab (.a 4 rfl<|.v (aI (0) rfl) rfl<|.v (aL rfl ((aD O 0 (by omega)).trans (by rw[hi]))) rfl<|.a 1 rfl<|.k [0,2] rfl)<|ab (.a 5 rfl<|.v (aI (i) rfl) rfl<|.v (aL rfl (aD K i (by omega))) rfl<|.a 1 rfl<|.k [0,2,3] rfl)<|aQ<|au 1 rfl<|cM rfl rfl (bS.mono (Dn d hd K P O h hN i hi) (fun _ σ' h=>?_))
  obtain⟨P',O',rfl,h1,h2⟩:=h
  refine aH [2,3] rfl ?_
  refine ab (.a 5 rfl<|.k [2,3,4] rfl)<|aq ?_
  first
   |exact⟨_,aA.of rfl,.inl ⟨hn0,rfl,rfl⟩⟩
   |exact⟨_,aA.of rfl,.inr ⟨n',i,P',O',rfl,hiN,hi,rfl,rfl,h1,h2⟩⟩
theorem Cz{N:Nat}{P O:List Int}(hP:dj N P O){i:Nat}(hi:i<N)(h:P.getD i 0≠0):∃p,p<O.length∧O.getD p 0=(i:Int)∧P.getD i 0=(p:Int)+1:=by
 rcases hP.place i hi with h0|⟨p,hp,he⟩
 ·exact absurd h0 h
 ·have:=(hP.item p hp).2.2
  rw[he,Int.toNat_natCast]at this
  exact⟨p,hp,he,this⟩
theorem Dg{N:Nat}{K P O:List Int}(hP:dj N P O)(hK:K.length=N){i:Nat}(hi:i<N)(c:Int){x:Nat}(hx:x<O.length)(hne:O.getD x 0≠(i:Int)):rk (K.set i c) O x=rk K O x:=by
 unfold rk kS
 have h1:=hP.item x hx
 rw[dY _ _ _ _ (by omega),if_neg (by omega)]
theorem yN{N n:Nat}(d:Option cR)(hd:jy d)(K P O:List Int)(h:A5 N n K P O)(hN:N≤65536)(i:Nat)(hi:i<N)(key:Int):
  bS Tryz.prog 198 [.ptr 1 0,num i,num key] (gZ false d N n K P O) (fun r σ'=>∃(b:Bool) (n':Nat) (P' O':List Int),σ'=gZ b d N n' (K.set i key) P' O'∧A5 N n' (K.set i key) P' O'∧∀j,ej O' j↔ej O j∨j=(i:Int)):=by
 obtain⟨hP,hO,hK,hH⟩:=h
 have hlen:=i6 hP
 have hPl:=hP.len
 refine cp Tryz.func198 rfl Tryz.ntmps198 rfl<|ab (.a 1 rfl<|.k [0,1,2] rfl)<|aj<|ab (.a 2 rfl<|.k [0,1,2,8] rfl)<|ah rfl (fun hc=>?_) (fun hc=>?_)
 ·cases hc
 ·refine ak<|aj ?_
  obtain⟨q1,hq1⟩:∃q,decide ((i:Int)<0)=q:=⟨_,rfl⟩
  obtain⟨q2,hq2⟩:∃q,decide ((N:Int)≤(i:Int))=q:=⟨_,rfl⟩
  refine bC 19 (.raw (.bool (q1||q2))) [0,1,2] rfl ?_ ?_
  ·refine .a 1 rfl<|.v (cC rfl (hq1)) rfl<|.a 1 rfl<|?_
   cases q1
   ·exact .a 6 rfl<|.v (cC rfl (hq2)) rfl<|.a 1 rfl<|.k [19,0,1,2] rfl
   ·exact .a 8 rfl<|.k [19,0,1,2] rfl
  refine ah rfl (fun hc=>?_) (fun hc=>?_)
  ·have h1:q1=false:=by rw[←hq1];simp
   have h2:q2=false:=by rw[←hq2];simp;omega
   rw[h1,h2]at hc
   cases hc
  ·refine ak<|aQ<|au 6 rfl<|bz (aI (i) rfl) rfl<|br ((by first|exact bQ rfl (bE.tk.get rfl) rfl rfl rfl (by first|omega|(simp;omega))|exact bb rfl (bE.tk.get rfl) rfl rfl rfl (by first|omega|(simp;omega)))) rfl rfl<|aH [0,1] rfl ?_
   refine aj<|ab (.a 5 rfl<|.v (aI (i) rfl) rfl<|.v (aL rfl (aD P i (by omega))) rfl<|.a 1 rfl<|.k [0,1,34] rfl)<|ah rfl (fun hc=>?_) (fun hc=>?_)
   ·have hp0:P.getD i 0=0:=of_decide_eq_true hc
    have hnh:=(hP.zero hi).1 hp0
    have hPp:=hP.push hi hnh
    have hOl:(O++[(i:Int)]).length=n+1:=by simp[hO]
    rw[hO]at hPp
    have hPi2:(P.set i ((n:Int)+1)).getD i 0=(n:Int)+1:=by rw[dY _ _ _ _ (by omega),if_pos rfl]
    have hlt2:i<(P.set i ((n:Int)+1)).length:=by simp;omega
    have hsb:((n:Int)+1) - 1=(n:Int):=by omega
    have hnb:n<N:=by have:=i6 hPp;simp at this;omega
    have hset:=mz true d (K.set i key) (P.set i ((n:Int)+1)) (O++[(i:Int)]) hPp hOl (by simpa using hK) hN n (by omega) (xz hH fun q hq=>by
     have e:(O++[(i:Int)]).getD q 0=O.getD q 0:=by simp[List.getD_eq_getElem?_getD,List.getElem?_append_left (show q<O.length by omega)]
     have:=Dg hP hK hi key (x:=q) (by omega) (fun e=>hnh ⟨q,by omega,e⟩)
     unfold rk at this ⊢
     rw[e];exact this)
    have hfin:∀j,ej (O++[(i:Int)]) j↔ej O j∨j=(i:Int):=fun j=>(y6 O i j).trans Or.comm
    refine aQ<|au 7 rfl<|ca (aY rfl (bE.rk.get rfl) rfl rfl rfl rfl (by unfold maxLen;omega)) rfl<|au 3 rfl ?_
    refine cE [0,1,2,3,4,5] (.c 0<|.c 1<|.nil) (.same hd rfl<|.kept rfl (.cells (az.c<|az.c<|az.c<|az.nil))<|.kept rfl (.row az.pure)<|.kept rfl (.row az.pure)<|.gone<|.kept rfl (.dr rfl (bT _ _))<|.nil) rfl rfl (aO ?_)
    refine dI 11 20 mixed (
     .val [0] rfl (bF rfl) rfl rfl<|
     .val [45] rfl (bF rfl) rfl rfl<|
     .val [46] rfl (bF rfl) rfl rfl<|
     .val [47] rfl (bF rfl) rfl rfl<|
     .val [1] rfl (bF rfl) rfl rfl<|
     .val [0] rfl (bF rfl) rfl rfl<|
     .val [50] rfl (bF rfl) rfl rfl<|
     .val [51] rfl (bF rfl) rfl rfl<|
     .val [52] rfl (bF rfl) rfl rfl<|
     .val [53] rfl (bF rfl) rfl rfl<|
     .val [48,49] rfl (aI (i) rfl) rfl rfl<|
     .nil) (by kernel_rfl) rfl rfl (bh (ks:=[0,1,54,55]) rfl) ?_
    refine br ((by first|exact bQ rfl (bE.tk.get rfl) rfl rfl rfl (by first|omega|(simp;omega))|exact bb rfl (bE.tk.get rfl) rfl rfl rfl (by first|omega|(simp;omega)))) rfl rfl<|aH [0,1] rfl ?_
    refine aQ<|au 6 rfl<|bz (aI (i) rfl) rfl<|bz (aL rfl ((aD _ i hlt2).trans (congrArg (fun z=>some (PV.raw (.int .i64 z))) hPi2))) rfl<|bz (aR rfl (hc:=hsb)) rfl<|cM rfl rfl (bS.mono hset (fun _ σ' h=>?_))
    obtain⟨P',O',rfl,h1,h2,h3,h4⟩:=h
    refine aH [] rfl ?_
    refine ab (.a 1 rfl<|.k [6] rfl)<|aq ?_
    first
     |exact⟨_,aA.of rfl,true,_,P',O',rfl,⟨h1,h2,by simpa using hK,h3⟩,fun j=>(h4 j).trans (hfin j)⟩
     |exact⟨_,aA.of rfl,false,_,P',O',rfl,⟨h1,h2,by simpa using hK,h3⟩,fun j=>(h4 j).trans (hfin j)⟩
   ·have hp0:P.getD i 0≠0:=of_decide_eq_false hc
    obtain⟨p,hp,hpi,hPi2⟩:=Cz hP hi hp0
    have hlt2:i<P.length:=by omega
    have hsb:((p:Int)+1) - 1=(p:Int):=by omega
    have hset:=mz false d (K.set i key) P O hP hO (by simpa using hK) hN p (by omega) (uw hH (fun q hq hqp=>Dg hP hK hi key (x:=q) (by omega) (fun e=>hqp (hP.inj (by omega) hp (by rw[e,hpi])))) (by omega))
    have hfin:∀j,ej O j↔ej O j∨j=(i:Int):=fun j=>⟨.inl,fun h=>h.elim id fun e=>⟨p,hp,by rw[hpi,e]⟩⟩
    refine ak<|aQ<|au 6 rfl<|bz (aI (i) rfl) rfl<|bz (aL rfl ((aD _ i hlt2).trans (congrArg (fun z=>some (PV.raw (.int .i64 z))) hPi2))) rfl<|bz (aR rfl (hc:=hsb)) rfl<|cM rfl rfl (bS.mono hset (fun _ σ' h=>?_))
    obtain⟨P',O',rfl,h1,h2,h3,h4⟩:=h
    refine aH [] rfl ?_
    refine ab (.a 1 rfl<|.k [6] rfl)<|aq ?_
    first
     |exact⟨_,aA.of rfl,true,_,P',O',rfl,⟨h1,h2,by simpa using hK,h3⟩,fun j=>(h4 j).trans (hfin j)⟩
     |exact⟨_,aA.of rfl,false,_,P',O',rfl,⟨h1,h2,by simpa using hK,h3⟩,fun j=>(h4 j).trans (hfin j)⟩
end PW
end Go.Proofs.YtnegbdpggideiaaGreatDoor
namespace Go.Proofs.YtnegbdpggideiaaGreatDoor
namespace PW
open Go.RowKit cA Mem Net Heap
theorem El(N:Nat)(d:Option cR)(hd:jy d)(hN:N≤65536):
  bS Tryz.prog 197 [num N] [d] (fun r σ'=>r= .tuple [.ptr 1 0,num 0]∧σ'=gZ false d N 0 (List.replicate N 0) (List.replicate N 0) []):=by
 refine cp Tryz.func197 rfl Tryz.ntmps197 rfl<|ab (.a 2 rfl<|.k [0] rfl) ?_
 obtain⟨q1,hq1⟩:∃q,decide ((N:Int)<0)=q:=⟨_,rfl⟩
 obtain⟨q2,hq2⟩:∃q,decide ((65536:Int)<(N:Int))=q:=⟨_,rfl⟩
 refine aj<|bC 9 (.raw (.bool (q1||q2))) [0] rfl ?_ ?_
 ·refine .a 1 rfl<|.v (cC rfl (hq1)) rfl<|.a 1 rfl<|?_
  cases q1
  ·exact .a 1 rfl<|.v (cC rfl (hq2)) rfl<|.a 1 rfl<|.k [9,0] rfl
  ·exact .a 3 rfl<|.k [9,0] rfl
 have h1:q1=false:=by rw[←hq1];simp
 have h2:q2=false:=by rw[←hq2];simp;omega
 refine ah (b:=q1||q2) rfl (fun hc=>?_) (fun hc=>?_)
 ·rw[h1,h2]at hc
  cases hc
 ·clear hc hq1 hq2 h1 h2
  refine ak<|nL mixed ?_
  have hfin:W Tryz.prog 16 1 .ret ⟨[(2,.ptr 1 0),(3,num 0)],gZ false d N 0 (List.replicate N 0) (List.replicate N 0) []⟩ (H9 Tryz.prog Tryz.f197 (fun r σ'=>r= .tuple [.ptr 1 0,num 0]∧σ'=gZ false d N 0 (List.replicate N 0) (List.replicate N 0) [])):=
   aq ⟨_,.cons (.tmp rfl) (.cons (.tmp rfl) .nil),rfl,rfl⟩
  refine bI 0 [2] (by kernel_rfl) ?_
  refine aZ rfl rfl (bA (fk rfl rfl) rfl rfl rfl (aO ?_)) ?_
  ·refine bI 1 [2] (by kernel_rfl) ?_
   refine aZ rfl rfl (dh (dB rfl (bE.rk.get rfl) rfl rfl rfl rfl ⟨by unfold maxLen;omega,by omega⟩) rfl rfl rfl (aO ?_)) ?_
   ·refine bI 2 [] (by kernel_rfl) ?_
    refine aZ rfl rfl (bA (fk rfl rfl) rfl rfl rfl (aO ?_)) bH
    refine bI 3 [] (by kernel_rfl) ?_
    refine aZ rfl rfl (dh (dB rfl (bE.rk.get rfl) rfl rfl rfl rfl ⟨by unfold maxLen;omega,by omega⟩) rfl rfl rfl (aO ?_)) bH
    refine bI 4 [] (by kernel_rfl) ?_
    refine aZ rfl rfl (bA (iu (xs:=[_,_,_]) rfl (bE.st.get rfl) rfl rfl) rfl rfl rfl (aO ?_)) bH
    refine bI 5 [] (by kernel_rfl) ?_
    refine aZ rfl rfl (dh (fw rfl rfl rfl) rfl rfl rfl (aO ?_)) bH
    refine bI 6 [] (by kernel_rfl) ?_
    refine aZ rfl rfl (bA (dZ rfl rfl) rfl rfl rfl (aO ?_)) bH
    refine bI 7 [] (by kernel_rfl) ?_
    refine aZ rfl rfl (bA (dZ rfl rfl) rfl rfl rfl (aO ?_)) bH
    refine jj (by kernel_rfl) ?_
    refine cm 3 2 3 1 rfl rfl ?_
    exact cU [0,3,1,2,4] (.cons 2 rfl (Ren.ptr (i:=1) rfl)<|.cons 3 rfl Ren.pure<|.nil) (.same hd rfl<|.kept rfl (.cells (az.cons (Ren.own (i:=2) rfl)<|az.cons (Ren.own (i:=3) rfl)<|az.cons (Ren.own (i:=4) rfl) az.nil))<|.kept rfl (.dr rfl (cS N))<|.kept rfl (.dr rfl (cS N))<|.kept rfl (.row az.pure)<|.nil) rfl rfl hfin
   refine aZ rfl rfl (bA (fk rfl rfl) rfl rfl rfl (aO ?_)) bH
   refine bI 1 [3] (by kernel_rfl) ?_
   refine aZ rfl rfl (dh (dB rfl (bE.rk.get rfl) rfl rfl rfl rfl ⟨by unfold maxLen;omega,by omega⟩) rfl rfl rfl (aO ?_)) ?_
   ·refine bI 3 [] (by kernel_rfl) ?_
    refine aZ rfl rfl (dh (dB rfl (bE.rk.get rfl) rfl rfl rfl rfl ⟨by unfold maxLen;omega,by omega⟩) rfl rfl rfl (aO ?_)) bH
    refine bI 4 [] (by kernel_rfl) ?_
    refine aZ rfl rfl (bA (iu (xs:=[_,_,_]) rfl (bE.st.get rfl) rfl rfl) rfl rfl rfl (aO ?_)) bH
    refine bI 5 [] (by kernel_rfl) ?_
    refine aZ rfl rfl (dh (fw rfl rfl rfl) rfl rfl rfl (aO ?_)) bH
    refine bI 6 [] (by kernel_rfl) ?_
    refine aZ rfl rfl (bA (dZ rfl rfl) rfl rfl rfl (aO ?_)) bH
    refine bI 7 [] (by kernel_rfl) ?_
    refine aZ rfl rfl (bA (dZ rfl rfl) rfl rfl rfl (aO ?_)) bH
    refine jj (by kernel_rfl) ?_
    refine cm 3 2 3 1 rfl rfl ?_
    exact cU [0,3,1,2,4] (.cons 2 rfl (Ren.ptr (i:=1) rfl)<|.cons 3 rfl Ren.pure<|.nil) (.same hd rfl<|.kept rfl (.cells (az.cons (Ren.own (i:=2) rfl)<|az.cons (Ren.own (i:=3) rfl)<|az.cons (Ren.own (i:=4) rfl) az.nil))<|.kept rfl (.dr rfl (cS N))<|.kept rfl (.dr rfl (cS N))<|.kept rfl (.row az.pure)<|.nil) rfl rfl hfin
   refine aZ rfl rfl (dh (dB rfl (bE.rk.get rfl) rfl rfl rfl rfl ⟨by unfold maxLen;omega,by omega⟩) rfl rfl rfl (aO ?_)) bH
   refine bI 1 [] (by kernel_rfl) ?_
   refine aZ rfl rfl (dh (dB rfl (bE.rk.get rfl) rfl rfl rfl rfl ⟨by unfold maxLen;omega,by omega⟩) rfl rfl rfl (aO ?_)) bH
   refine bI 4 [] (by kernel_rfl) ?_
   refine aZ rfl rfl (bA (iu (xs:=[_,_,_]) rfl (bE.st.get rfl) rfl rfl) rfl rfl rfl (aO ?_)) bH
   refine bI 5 [] (by kernel_rfl) ?_
   refine aZ rfl rfl (dh (fw rfl rfl rfl) rfl rfl rfl (aO ?_)) bH
   refine bI 6 [] (by kernel_rfl) ?_
   refine aZ rfl rfl (bA (dZ rfl rfl) rfl rfl rfl (aO ?_)) bH
   refine bI 7 [] (by kernel_rfl) ?_
   refine aZ rfl rfl (bA (dZ rfl rfl) rfl rfl rfl (aO ?_)) bH
   refine jj (by kernel_rfl) ?_
   refine cm 3 2 3 1 rfl rfl ?_
   exact cU [0,3,2,1,4] (.cons 2 rfl (Ren.ptr (i:=1) rfl)<|.cons 3 rfl Ren.pure<|.nil) (.same hd rfl<|.kept rfl (.cells (az.cons (Ren.own (i:=2) rfl)<|az.cons (Ren.own (i:=3) rfl)<|az.cons (Ren.own (i:=4) rfl) az.nil))<|.kept rfl (.dr rfl (cS N))<|.kept rfl (.dr rfl (cS N))<|.kept rfl (.row az.pure)<|.nil) rfl rfl hfin
  refine aZ rfl rfl (bA (fk rfl rfl) rfl rfl rfl (aO ?_)) bH
  refine bI 0 [3] (by kernel_rfl) ?_
  refine aZ rfl rfl (bA (fk rfl rfl) rfl rfl rfl (aO ?_)) ?_
  ·refine bI 1 [3] (by kernel_rfl) ?_
   refine aZ rfl rfl (dh (dB rfl (bE.rk.get rfl) rfl rfl rfl rfl ⟨by unfold maxLen;omega,by omega⟩) rfl rfl rfl (aO ?_)) ?_
   ·refine bI 3 [] (by kernel_rfl) ?_
    refine aZ rfl rfl (dh (dB rfl (bE.rk.get rfl) rfl rfl rfl rfl ⟨by unfold maxLen;omega,by omega⟩) rfl rfl rfl (aO ?_)) bH
    refine bI 4 [] (by kernel_rfl) ?_
    refine aZ rfl rfl (bA (iu (xs:=[_,_,_]) rfl (bE.st.get rfl) rfl rfl) rfl rfl rfl (aO ?_)) bH
    refine bI 5 [] (by kernel_rfl) ?_
    refine aZ rfl rfl (dh (fw rfl rfl rfl) rfl rfl rfl (aO ?_)) bH
    refine bI 6 [] (by kernel_rfl) ?_
    refine aZ rfl rfl (bA (dZ rfl rfl) rfl rfl rfl (aO ?_)) bH
    refine bI 7 [] (by kernel_rfl) ?_
    refine aZ rfl rfl (bA (dZ rfl rfl) rfl rfl rfl (aO ?_)) bH
    refine jj (by kernel_rfl) ?_
    refine cm 3 2 3 1 rfl rfl ?_
    exact cU [0,3,1,2,4] (.cons 2 rfl (Ren.ptr (i:=1) rfl)<|.cons 3 rfl Ren.pure<|.nil) (.same hd rfl<|.kept rfl (.cells (az.cons (Ren.own (i:=2) rfl)<|az.cons (Ren.own (i:=3) rfl)<|az.cons (Ren.own (i:=4) rfl) az.nil))<|.kept rfl (.dr rfl (cS N))<|.kept rfl (.dr rfl (cS N))<|.kept rfl (.row az.pure)<|.nil) rfl rfl hfin
   refine aZ rfl rfl (dh (dB rfl (bE.rk.get rfl) rfl rfl rfl rfl ⟨by unfold maxLen;omega,by omega⟩) rfl rfl rfl (aO ?_)) bH
   refine bI 1 [] (by kernel_rfl) ?_
   refine aZ rfl rfl (dh (dB rfl (bE.rk.get rfl) rfl rfl rfl rfl ⟨by unfold maxLen;omega,by omega⟩) rfl rfl rfl (aO ?_)) bH
   refine bI 4 [] (by kernel_rfl) ?_
   refine aZ rfl rfl (bA (iu (xs:=[_,_,_]) rfl (bE.st.get rfl) rfl rfl) rfl rfl rfl (aO ?_)) bH
   refine bI 5 [] (by kernel_rfl) ?_
   refine aZ rfl rfl (dh (fw rfl rfl rfl) rfl rfl rfl (aO ?_)) bH
   refine bI 6 [] (by kernel_rfl) ?_
   refine aZ rfl rfl (bA (dZ rfl rfl) rfl rfl rfl (aO ?_)) bH
   refine bI 7 [] (by kernel_rfl) ?_
   refine aZ rfl rfl (bA (dZ rfl rfl) rfl rfl rfl (aO ?_)) bH
   refine jj (by kernel_rfl) ?_
   refine cm 3 2 3 1 rfl rfl ?_
   exact cU [0,3,2,1,4] (.cons 2 rfl (Ren.ptr (i:=1) rfl)<|.cons 3 rfl Ren.pure<|.nil) (.same hd rfl<|.kept rfl (.cells (az.cons (Ren.own (i:=2) rfl)<|az.cons (Ren.own (i:=3) rfl)<|az.cons (Ren.own (i:=4) rfl) az.nil))<|.kept rfl (.dr rfl (cS N))<|.kept rfl (.dr rfl (cS N))<|.kept rfl (.row az.pure)<|.nil) rfl rfl hfin
  refine aZ rfl rfl (dh (dB rfl (bE.rk.get rfl) rfl rfl rfl rfl ⟨by unfold maxLen;omega,by omega⟩) rfl rfl rfl (aO ?_)) bH
  refine bI 0 [] (by kernel_rfl) ?_
  refine aZ rfl rfl (bA (fk rfl rfl) rfl rfl rfl (aO ?_)) bH
  refine bI 1 [] (by kernel_rfl) ?_
  refine aZ rfl rfl (dh (dB rfl (bE.rk.get rfl) rfl rfl rfl rfl ⟨by unfold maxLen;omega,by omega⟩) rfl rfl rfl (aO ?_)) bH
  refine bI 4 [] (by kernel_rfl) ?_
  refine aZ rfl rfl (bA (iu (xs:=[_,_,_]) rfl (bE.st.get rfl) rfl rfl) rfl rfl rfl (aO ?_)) bH
  refine bI 5 [] (by kernel_rfl) ?_
  refine aZ rfl rfl (dh (fw rfl rfl rfl) rfl rfl rfl (aO ?_)) bH
  refine bI 6 [] (by kernel_rfl) ?_
  refine aZ rfl rfl (bA (dZ rfl rfl) rfl rfl rfl (aO ?_)) bH
  refine bI 7 [] (by kernel_rfl) ?_
  refine aZ rfl rfl (bA (dZ rfl rfl) rfl rfl rfl (aO ?_)) bH
  refine jj (by kernel_rfl) ?_
  refine cm 3 2 3 1 rfl rfl ?_
  exact cU [0,3,2,1,4] (.cons 2 rfl (Ren.ptr (i:=1) rfl)<|.cons 3 rfl Ren.pure<|.nil) (.same hd rfl<|.kept rfl (.cells (az.cons (Ren.own (i:=2) rfl)<|az.cons (Ren.own (i:=3) rfl)<|az.cons (Ren.own (i:=4) rfl) az.nil))<|.kept rfl (.dr rfl (cS N))<|.kept rfl (.dr rfl (cS N))<|.kept rfl (.row az.pure)<|.nil) rfl rfl hfin
end PW
end Go.Proofs.YtnegbdpggideiaaGreatDoor
namespace Go.Proofs.YtnegbdpggideiaaGreatDoor
namespace PW
open Go.RowKit cA Mem
section
variable {P:Program} {N L:Nat}
theorem Ag(p:PV)(n:Nat):dp [p] n=List.replicate n p:=by
 induction n with
 |zero=>rfl
 |succ n ih=>simp only[dp,ih,List.replicate_succ];rfl
theorem jN.of{fs:List Nat}{σ:cd}:∀(σ':cd) (js:List Nat),σ'.length=js.length→(∀(i:Nat) b' j,σ'[i]? =some (some b')→js[i]? =some j→∃b,σ[j]? =some (some b)∧xx fs b' b)→jN fs σ σ' js
 | [],[],_,_=>.nil
 |none::σ',j::js,hl,h=>.gone (jN.of σ' js (by simpa using hl) (fun i b' k h1 h2=>h (i+1) b' k (by simpa using h1) (by simpa using h2)))
 |some b'::σ',j::js,hl,h=>by
  obtain⟨b,h1,h2⟩:=h 0 b' j rfl rfl
  exact .kept h1 h2 (jN.of σ' js (by simpa using hl) (fun i b' k h1 h2=>h (i+1) b' k (by simpa using h1) (by simpa using h2)))
 | [],_::_,hl,_=>by simp at hl
 |_::_,[],hl,_=>by simp at hl
theorem ra:∀(l:List Nat),l.Nodup→jk l=true
 | [],_=>rfl
 |x::l,h=>by
  rw[List.nodup_cons]at h
  simp[jk,h.1,ra l h.2]
theorem wR{c:Code}{t:bZ}{σ:cd}{Q:Exit→St→Prop}(i k e s:Nat){e1 s1 n:Nat}{xs:List PV}(hi:σ[i]? =some (some (.row e1 s1 n xs)))(hk:xs[k]? =some (.raw (.slice none 0 0)))
  (h:W P N L c ⟨t,(σ++[some (cR.row e s 0 [])]).set i (some (.row e1 s1 n (xs.set k (.own σ.length))))⟩ Q):W P N L c ⟨t,σ⟩ Q:=fun F base E₀ w₀ E a w hc hs=>by
 obtain⟨a1,a2,a3⟩:=yo hs.sat e s
 have hil:=(List.getElem?_eq_some_iff.1 hi).1
 have hi':(σ++[some (cR.row e s 0 [])])[i]? =some (some (.row e1 s1 n xs)):=by rw[List.getElem?_append_left hil];exact hi
 obtain⟨cs,h2,h3⟩:=a1.blk i _ hi'
 obtain⟨cv,hcv,hrep⟩:=h3.get hk
 cases hrep
 have hb:∃b,bp ((E.push (.slice none 0 0)).at_ i)=some b:=by
  rcases h2.2 with hz|⟨g,cap,cur,hv,_⟩
  ·have h4:=h2.1
   rw[hz.2,Nat.zero_mul]at h4
   rw[List.eq_nil_of_length_eq_zero h4]at hcv
   simp at hcv
  ·exact⟨g,by rw[hv];rfl⟩
 obtain⟨b,hb⟩:=hb
 obtain⟨b1,b2⟩:=a1.Bx hi' (b:=b) hb (Nat.le_refl _) (fun _ _ _=>rfl) (bi':=.row e1 s1 n (xs.set k (.own σ.length))) ⟨cs,h2,by
  have:=h3.set k a3
  rw[sv hcv]at this
  exact this⟩
 exact h F base E₀ w₀ _ a w (hc.on (a2.trans b2) (Below.refl _ _)) ⟨b1,(hs.tmp.goes a2).goes b2,hs.jQ,hs.size⟩
def fr(n:Nat):List PV:=(List.range n).map fun i=>.own (i+1)
def kr(e1 e:TypeId)(rs:List (List Int)):cd:=some (.row e1 1 rs.length (fr rs.length))::rs.map fun r=>some (.row e 1 r.length (aN r))
def nB(e1 e n k:Nat):cd:=some (.row e1 1 n (fr k++List.replicate (n - k) (PV.raw (.slice none 0 0))))::List.replicate k (some (.row e 1 0 []))
theorem yW{c:Code}{t:bZ}{Q:Exit→St→Prop}(e1 e n:Nat)(h:W P N L c ⟨t,nB e1 e n n⟩ Q):∀m k,k+m=n→W P N L c ⟨t,nB e1 e n k⟩ Q
  | 0, k, hk => by obtain rfl : k = n := by omega
                   exact h
  |m+1,k,hk=>by
    have ih:=yW e1 e n h m (k+1) (by omega)
    have hol:(fr k).length=k:=by simp[fr]
    refine wR 0 k e 1 (e1:=e1) (s1:=1) (n:=n) (xs:=fr k++List.replicate (n - k) (PV.raw (.slice none 0 0))) rfl ?_ ?_
    · rw[List.getElem?_append_right (by omega),hol,List.getElem?_replicate,if_pos (by omega)]
    · have e2:(nB e1 e n k++[some (cR.row e 1 0 [])]).set 0 (some (.row e1 1 n ((fr k++List.replicate (n - k) (PV.raw (.slice none 0 0))).set k (.own (nB e1 e n k).length))))=nB e1 e n (k+1):=by
        unfold nB
        simp only[List.cons_append,List.set_cons_zero,List.length_cons,List.length_replicate]
        congr 3
        · rw[List.set_append_right _ _ (by omega),hol,Nat.sub_self,show n - k=(n - (k+1))+1 by omega,List.replicate_succ,List.set_cons_zero]
          unfold fr
          rw[List.range_succ,List.map_append]
          simp
        · rw[List.replicate_succ']
      rw[e2];exact ih
theorem oI{c:Code}{t:bZ}{Q:Exit→St→Prop}(e1 e n:Nat)(h:W P N L c ⟨t,kr e1 e (List.replicate n [])⟩ Q):W P N L c ⟨t,[some (.row e1 1 n (dp [.raw (.slice none 0 0)] n))]⟩ Q:=by
 have:=yW (P:=P) (N:=N) (L:=L) (c:=c) (t:=t) (Q:=Q) e1 e n (by
  have e2:nB e1 e n n=kr e1 e (List.replicate n []):=by
   unfold nB kr
   simp[aN]
  rw[e2];exact h) n 0 (by omega)
 rw[Ag]
 simpa[nB,fr]using this
def DB(n k:Nat):List Nat:=0::(List.range n).map fun i=>if i=k then n+1 else i+1
theorem rz(n k:Nat):jk (DB n k)=true:=by
 apply ra
 unfold DB
 rw[List.nodup_cons]
 constructor
 ·simp only[List.mem_map,not_exists,not_and]
  intro i _ h
  split at h<;>omega
 ·rw[List.nodup_iff_pairwise_ne,List.pairwise_map]
  refine List.Pairwise.imp_of_mem ?_ (List.nodup_iff_pairwise_ne.1 List.nodup_range)
  intro i j hi hj hij h
  have:=List.mem_range.1 hi
  have:=List.mem_range.1 hj
  split at h<;>split at h<;>omega
theorem tK(n k i:Nat)(hi:i<n):(DB n k)[i+1]? =some (if i=k then n+1 else i+1):=by
 unfold DB
 simp[hi]
theorem kE(n i:Nat)(hi:i<n):(fr n)[i]? =some (.own (i+1)):=by simp[fr,hi]
theorem ld(e1 e:TypeId)(rs:List (List Int))(k:Nat)(hk:k<rs.length):(kr e1 e rs)[k+1]? =some (some (.row e 1 (rs.getD k []).length (aN (rs.getD k [])))):=by
 unfold kr
 simp[hk]
theorem uu(e1 e:TypeId)(rs:List (List Int))(k:Nat)(hk:k<rs.length)(x:Int):
  jN (DB rs.length k) (((kr e1 e rs).set (k+1) none++[some (cR.row e 1 ((rs.getD k []).length+1) (aN (rs.getD k [])++[.raw (.int .i64 x)]))]).set 0 (some (.row e1 1 rs.length (over (fr rs.length) k [.own (kr e1 e rs).length])))) (kr e1 e (rs.set k (rs.getD k []++[x]))) (DB rs.length k):=by
 have hol:(fr rs.length).length=rs.length:=by simp[fr]
 have hlen:(kr e1 e rs).length=rs.length+1:=by simp[kr]
 have hov:over (fr rs.length) k [.own (kr e1 e rs).length]=(fr rs.length).set k (.own (rs.length+1)):=by
  unfold over
  rw[hlen,List.set_eq_take_append_cons_drop,if_pos (by omega)]
  simp
 rw[hov]
 apply jN.of
 ·simp[kr,DB]
 ·intro i b' j h1 h2
  cases i with
  |zero=>
   simp only[kr,List.getElem?_cons_zero,Option.some.injEq,List.length_set]at h1
   simp only[DB,List.getElem?_cons_zero,Option.some.injEq]at h2
   subst h1;subst h2
   refine⟨.row e1 1 rs.length ((fr rs.length).set k (.own (rs.length+1))),by simp[kr],.row ⟨by simp,fun i a b k1 k2=>?_⟩⟩
   have hi:i<rs.length:=by have:=(List.getElem?_eq_some_iff.1 k1).1;omega
   rw[kE _ _ hi]at k1
   cases k1
   rw[List.getElem?_set]at k2
   split at k2
   ·rename_i e';subst e'
    rw[if_pos (by omega)]at k2
    cases k2
    exact .own (by rw[tK _ _ _ hi,if_pos rfl])
   ·rename_i e'
    rw[kE _ _ hi]at k2
    cases k2
    exact .own (by rw[tK _ _ _ hi,if_neg (Ne.symm e')])
  |succ i=>
   have hi:i<rs.length:=by
    have:=(List.getElem?_eq_some_iff.1 h1).1
    simp[kr]at this
    exact this
   rw[ld _ _ _ _ (by simpa using hi)]at h1
   rw[tK _ _ _ hi]at h2
   cases h1
   by_cases e':i=k
   ·rw[if_pos e']at h2
    cases h2
    subst e'
    refine⟨.row e 1 ((rs.getD i []).length+1) (aN (rs.getD i [])++[.raw (.int .i64 x)]),?_,?_⟩
    ·rw[List.getElem?_set_ne (by omega),List.getElem?_append_right (by simp[hlen])]
     simp[hlen]
    ·have hg:(rs.set i (rs.getD i []++[x])).getD i []=rs.getD i []++[x]:=by simp[List.getD_eq_getElem?_getD,hi]
     rw[hg,bT]
     exact .dr (by simp) rfl
   ·rw[if_neg e']at h2
    cases h2
    refine⟨.row e 1 (rs.getD i []).length (aN (rs.getD i [])),?_,?_⟩
    ·rw[List.getElem?_set_ne (by omega),List.getElem?_append_left (by simp[hlen];omega),List.getElem?_set_ne (by omega),ld _ _ _ _ hi]
    ·have hg:(rs.set k (rs.getD k []++[x])).getD i []=rs.getD i []:=by simp[List.getD_eq_getElem?_getD,List.getElem?_set,Ne.symm e']
     rw[hg]
     exact .row az.pure
def iX(rs:List (List Int)):PV:=.slice rs.length (rs.map ax)
instance (rs:List (List Int)):aG (rs.map ax):=aG.map _ _ fun _=>inferInstance
instance (rs:List (List Int)):IsPure (iX rs):=by unfold iX;infer_instance
theorem uJ(e1 e:TypeId)(rs:List (List Int)):aB (kr e1 e rs) (.own 0) (iX rs):=by
 refine aB.ey rfl ⟨by simp[fr],fun i a b h1 h2=>?_⟩
 have hi:i<rs.length:=by have:=(List.getElem?_eq_some_iff.1 h2).1;simpa using this
 rw[kE _ _ hi]at h1
 cases h1
 have:b=ax (rs.getD i []):=by simpa[hi]using h2.symm
 subst this
 exact aB.ey (ld e1 e rs i hi) an.pure
def cZ(f:Nat→Int)(n k:Nat):List (List Int):=(List.range n).map fun(m:Nat)=>((List.range k).filter fun a=>decide (f a=(m:Int))).map Int.ofNat
theorem eG(f:Nat→Int)(n k:Nat):(cZ f n k).length=n:=by simp[cZ]
theorem iD(f:Nat→Int)(n k m:Nat)(hm:m<n):(cZ f n k).getD m []=((List.range k).filter fun a=>decide (f a=(m:Int))).map Int.ofNat:=by simp[cZ,hm]
theorem pY(f:Nat→Int)(n:Nat):cZ f n 0=List.replicate n []:=by
 apply List.ext_getElem?
 intro i
 simp only[cZ,List.range_zero,List.filter_nil,List.map_nil,List.getElem?_map,List.getElem?_replicate]
 by_cases h:i<n<;>simp[h]
theorem qB(f:Nat→Int)(n k m:Nat)(hm:f k=(m:Int))(hmn:m<n):cZ f n (k+1)=(cZ f n k).set m ((cZ f n k).getD m []++[(k:Int)]):=by
 apply List.ext_getElem?
 intro i
 rw[List.getElem?_set]
 by_cases h:i<n
 ·have hl:i<(cZ f n k).length:=by rw[eG];exact h
  by_cases e:m=i
  ·subst e
   rw[if_pos rfl,if_pos hl,iD _ _ _ _ h]
   simp[cZ,h,List.range_succ,List.filter_append,hm]
  ·rw[if_neg e]
   simp[cZ,h,List.range_succ,List.filter_append,hm]
   omega
 ·have hl:¬i<(cZ f n k).length:=by rw[eG];exact h
  have:(cZ f n (k+1))[i]? =none:=by simp[cZ,h]
  rw[this]
  split
  ·rw[if_neg (by omega)]
  ·simp[cZ,h]
end
end PW
end Go.Proofs.YtnegbdpggideiaaGreatDoor
namespace Go.Proofs.YtnegbdpggideiaaGreatDoor
namespace PW
open Go.RowKit cA Mem Net
theorem G7{P:Program}{σ:cd}{t:bZ}{o:Oper}{x y:Operand}{ty tz:TypeId}{a:Nat}(ho:o.op= .binOp .xor ty x y tz)(hx:aC t x=some (num a))(hy:aC t y=some (num 1))(ha:a<9223372036854775806):bg P σ t o (num (flip a:Int)):=
 jB ho hx hy fun w=>by
  have h:IntKind.i64.wrap ((BitVec.ofInt IntKind.i64.bits (a:Int) ^^^ BitVec.ofInt IntKind.i64.bits 1).toNat:Int)=(flip a:Int):=DQ a ha
  simp only[binOp,Op.intBits,h]
  rfl
theorem AU(a:Nat):((a:Int)).tdiv 2=((a / 2:Nat):Int):=rfl
theorem FA(a:Nat):((a:Int)).tmod 2=((a % 2:Nat):Int):=rfl
theorem aW{T:ai}{n:Int}:bu T n=true↔0≤n∧n<T.nodes:=by simp[bu]
theorem bN{T:ai}(h:ao T=true):T.af.length≤256:=(gQ h).2.2.1
theorem tt{b:Prop}[Decidable b](h:decide b=true):b:=of_decide_eq_true h
theorem ff{b:Prop}[Decidable b](h:decide b=false):¬b:=of_decide_eq_false h
theorem lP{E:Env}{w:World}{v:Value}{n:Nat}{xs:List PV}(h:cz E w v (.slice n xs)):n≤maxLen:=by
 obtain⟨a,c,_,h1,h2⟩:=oX h
 omega
theorem oY{P:Program}{f:FuncId}{ps:List PV}{R:PV→Prop}(h:(∃E w vs,aU E w vs ps)→Can P f ps R):Can P f ps R:=fun F w vs hF hG hR=>h ⟨_,_,_,hR⟩ F w vs hF hG hR
theorem uF{P:Program}{f:FuncId}{T:ai}{ps:List PV}{R:PV→Prop}(h:T.af.length≤maxLen→T.over.length≤maxLen→Can P f (aP T::ps) R):Can P f (aP T::ps) R:=by
 refine oY fun⟨E,w,vs,hR⟩=>?_
 obtain⟨v,_,hv⟩:=hR.get (i:=0) rfl
 unfold aP bx at hv
 cases hv with
 |agg cs _ hl hr=>
  have hr:aU E w cs.toList _:=⟨by simpa using hl,fun i x u h1 h2=>hr i x u (by simpa using h1) h2⟩
  obtain⟨v1,_,h1⟩:=hr.get (i:=1) rfl
  obtain⟨v2,_,h2⟩:=hr.get (i:=2) rfl
  exact h (lP h2) (lP h1)
theorem gO(T:ai)(hl:T.af.length≤4611686018427387903):Can Tryz.prog 113 [aP T] (· =num (2*(T.af.length:Int))):=by
 exact aF Tryz.func113 rfl Tryz.ntmps113 rfl<|ab (.a 2 rfl<|.k [1] rfl)<|ab (.a 3 rfl<|.v (aR rfl) rfl<|.a 1 rfl<|.k [2] rfl)<|aq<|⟨_,_,aA.of rfl,aB.pure,rfl⟩
theorem iK(T:ai)(a:Nat)(ha:a<2*T.af.length):Can Tryz.prog 79 [aP T,num a] (· =num (bq T a)):=by
 have hi:a / 2<T.af.length:=by omega
 refine uF fun hm _=>?_
 unfold maxLen at hm
 refine aF Tryz.func79 rfl Tryz.ntmps79 rfl<|ab (.a 2 rfl<|.k [1,2] rfl)<|aj<|ab (.a 1 rfl<|.v (mS rfl rfl rfl (by decide) (FA a)) rfl<|.a 1 rfl<|.k [1,2,7] rfl)<|ah rfl (fun hc=>?_) (fun hc=>?_)
 ·have h2:a % 2=0:=by have:=tt hc;omega
  unfold bq
  rw[if_pos h2]
  exact ab (.a 3 rfl<|.v (jF rfl rfl rfl (by decide) (AU a) (by unfold In64;omega)) rfl<|.v (aI (a / 2*7) rfl) rfl<|.a 1 rfl<|.v (aL rfl (eH T.af (a / 2) 0 hi (by omega))) rfl<|.a 1 rfl<|.k [4] rfl)<|aq<|⟨_,_,aA.of rfl,aB.pure,rfl⟩
 ·have h2:¬a % 2=0:=by have:=ff hc;omega
  unfold bq
  rw[if_neg h2]
  exact ak<|ab (.a 3 rfl<|.v (jF rfl rfl rfl (by decide) (AU a) (by unfold In64;omega)) rfl<|.v (aI (a / 2*7) rfl) rfl<|.a 1 rfl<|.v (aL rfl (eH T.af (a / 2) 1 hi (by omega))) rfl<|.a 1 rfl<|.k [4] rfl)<|aq<|⟨_,_,aA.of rfl,aB.pure,rfl⟩
theorem fu(T:ai)(a:Nat)(ha:a<2*T.af.length)(hl:T.af.length≤4611686018427387902):Can Tryz.prog 150 [aP T,num a] (· =num (aS T a)):=by
 exact aF Tryz.func150 rfl Tryz.ntmps150 rfl<|ab (.a 2 rfl<|.k [1,2] rfl)<|ab (.a 2 rfl<|.v (G7 rfl rfl rfl (by omega)) rfl<|.c rfl (iK T (Net.flip a) (by unfold Net.flip;split<;>omega)) rfl<|.a 1 rfl<|.k [4] rfl)<|aq<|⟨_,_,aA.of rfl,aB.pure,rfl⟩
theorem Dk(T:ai)(a:Nat)(hi:a / 2<T.af.length):(gd T.af)[a / 2*7+2+a % 2]? =some (num (cF T a)):=by
 rw[Nat.add_assoc,eH T.af (a / 2) (2+a % 2) hi (by omega)]
 unfold cF
 rcases Nat.mod_two_eq_zero_or_one a with h|h<;>rw[h]
 ·rfl
 ·rfl
theorem kD(T:ai)(a:Nat)(ha:a<2*T.af.length):Can Tryz.prog 149 [aP T,num a] (· =num (cF T a)):=by
 have hi:a / 2<T.af.length:=by omega
 refine uF fun hm _=>?_
 unfold maxLen at hm
 exact aF Tryz.func149 rfl Tryz.ntmps149 rfl<|ab (.a 2 rfl<|.k [1,2] rfl)<|ab (.a 3 rfl<|.v (jF rfl rfl rfl (by decide) (AU a) (by unfold In64;omega)) rfl<|.a 1 rfl<|.v (mS rfl rfl rfl (by decide) (FA a)) rfl<|.v (aI (a / 2*7) rfl) rfl<|.a 1 rfl<|.v (aI (a % 2) rfl) rfl<|.v (aL rfl (Dk T a hi)) rfl<|.a 1 rfl<|.k [4] rfl)<|aq<|⟨_,_,aA.of rfl,aB.pure,rfl⟩
theorem nv(T:ai)(n:Nat)(hn:T.over.length=0∨n<T.over.length):Can Tryz.prog 161 [aP T,num n] (· =flag (dc T n)):=by
 obtain⟨p1,hp1⟩:∃q,decide (0<(T.over.length:Int))=q:=⟨_,rfl⟩
 obtain⟨p2,hp2⟩:∃q,T.over.getD n false=q:=⟨_,rfl⟩
 have he:dc T n=(p1&&p2):=by
  unfold dc
  cases p1
  ·have:=ff hp1
   rw[List.getD_eq_getElem?_getD,List.getElem?_eq_none (by omega)];rfl
  ·exact hp2
 rw[he]
 refine aF Tryz.func161 rfl Tryz.ntmps161 rfl<|ab (.a 2 rfl<|.k [1,2] rfl)<|bC 4 (.raw (.bool (p1&&p2))) [] rfl ?_ ?_
 ·refine .a 3 rfl<|.v (cC rfl (hp1)) rfl<|.a 1 rfl<|?_
  cases p1
  ·exact .a 7 rfl<|.k [4] rfl
  ·exact .a 3 rfl<|.v (aI (n) rfl (by omega) (by have:=tt hp1;omega)) rfl<|.v (aL rfl (show _=some (flag p2) by rw[cW _ n (by have:=tt hp1;omega),hp2])) rfl<|.a 2 rfl<|.k [4] rfl
 exact aq<|⟨_,_,aA.of rfl,aB.pure,rfl⟩
theorem da(T:ai)(n:Int):Can Tryz.prog 100 [aP T,num n] (· =flag (bu T n)):=by
 obtain⟨p1,hp1⟩:∃q,decide (0≤n)=q:=⟨_,rfl⟩
 obtain⟨p2,hp2⟩:∃q,decide (n<T.nodes)=q:=⟨_,rfl⟩
 have he:bu T n=(p1&&p2):=by rw[←hp1,←hp2];unfold bu;exact Bool.decide_and _ _
 rw[he]
 refine aF Tryz.func100 rfl Tryz.ntmps100 rfl<|ab (.a 2 rfl<|.k [1,2] rfl)<|bC 4 (.raw (.bool (p1&&p2))) [] rfl ?_ ?_
 ·refine .a 1 rfl<|.v (cC rfl (hp1)) rfl<|.a 1 rfl<|?_
  cases p1
  ·exact .a 6 rfl<|.k [4] rfl
  ·exact .a 3 rfl<|.v (cC rfl (hp2)) rfl<|.a 2 rfl<|.k [4] rfl
 exact aq<|⟨_,_,aA.of rfl,aB.pure,rfl⟩
theorem o7(T:ai)(hl:T.af.length≤4611686018427387903)(a:Int):Can Tryz.prog 103 [aP T,num a] (· =flag (eR T a)):=by
 obtain⟨p1,hp1⟩:∃q,decide (0≤a)=q:=⟨_,rfl⟩
 obtain⟨p2,hp2⟩:∃q,decide (a<2*(T.af.length:Int))=q:=⟨_,rfl⟩
 have he:eR T a=(p1&&p2):=by rw[←hp1,←hp2];unfold eR;exact Bool.decide_and _ _
 rw[he]
 refine aF Tryz.func103 rfl Tryz.ntmps103 rfl<|ab (.a 2 rfl<|.k [1,2] rfl)<|bC 4 (.raw (.bool (p1&&p2))) [] rfl ?_ ?_
 ·refine .a 1 rfl<|.v (cC rfl (hp1)) rfl<|.a 1 rfl<|?_
  cases p1
  ·exact .a 6 rfl<|.k [4] rfl
  ·exact .a 2 rfl<|.c rfl (gO T hl) rfl<|.v (cC rfl (hp2)) rfl<|.a 2 rfl<|.k [4] rfl
 exact aq<|⟨_,_,aA.of rfl,aB.pure,rfl⟩
theorem kX(T:ai)(D:List Bool)(hl:T.af.length≤4611686018427387903):Can Tryz.prog 108 [aP T,bf D] (· =flag (bX T D)):=by
 obtain⟨p1,hp1⟩:∃q,decide ((D.length:Int)=0)=q:=⟨_,rfl⟩
 obtain⟨p2,hp2⟩:∃q,decide ((D.length:Int)=2*(T.af.length:Int))=q:=⟨_,rfl⟩
 have he:bX T D=(p1||p2):=by rw[←hp1,←hp2];unfold bX;rw[←Bool.decide_or];exact decide_eq_decide.2 (by omega)
 rw[he]
 refine aF Tryz.func108 rfl Tryz.ntmps108 rfl<|ab (.a 2 rfl<|.k [1,2] rfl)<|bC 4 (.raw (.bool (p1||p2))) [] rfl ?_ ?_
 ·refine .a 2 rfl<|.v (cC rfl (hp1)) rfl<|.a 1 rfl<|?_
  cases p1
  ·exact .a 3 rfl<|.c rfl (gO T hl) rfl<|.v (cC rfl (hp2)) rfl<|.a 2 rfl<|.k [4] rfl
  ·exact .a 7 rfl<|.k [4] rfl
 exact aq<|⟨_,_,aA.of rfl,aB.pure,rfl⟩
theorem EB{D:List Bool}{a:Nat}{p1 p2:Bool}(hp1:decide (0<(D.length:Int))=p1)(hp2:D.getD a false=p2):aX D a=(p1&&p2):=by
 unfold aX
 cases p1
 ·have:=ff hp1
  rw[List.getD_eq_getElem?_getD,List.getElem?_eq_none (by omega)];rfl
 ·exact hp2
theorem iG(D:List Bool)(a:Nat)(ha:D.length=0∨a<D.length):Can Tryz.prog 110 [bf D,num a] (· =flag (aX D a)):=by
 obtain⟨p1,hp1⟩:∃q,decide (0<(D.length:Int))=q:=⟨_,rfl⟩
 obtain⟨p2,hp2⟩:∃q,D.getD a false=q:=⟨_,rfl⟩
 rw[EB hp1 hp2]
 refine aF Tryz.func110 rfl Tryz.ntmps110 rfl<|ab (.a 1 rfl<|.k [0,1] rfl)<|bC 4 (.raw (.bool (p1&&p2))) [] rfl ?_ ?_
 ·refine .a 2 rfl<|.v (cC rfl (hp1)) rfl<|.a 1 rfl<|?_
  cases p1
  ·exact .a 6 rfl<|.k [4] rfl
  ·exact .a 2 rfl<|.v (aI (a) rfl (by omega) (by have:=tt hp1;omega)) rfl<|.v (aL rfl (show _=some (flag p2) by rw[cW _ a (by have:=tt hp1;omega),hp2])) rfl<|.a 2 rfl<|.k [4] rfl
 exact aq<|⟨_,_,aA.of rfl,aB.pure,rfl⟩
theorem gy(n lo hi:Int):Can Tryz.prog 146 [num n,num lo,num hi] (· =flag (bO n lo hi)):=by
 obtain⟨p1,hp1⟩:∃q,decide (lo≤n)=q:=⟨_,rfl⟩
 obtain⟨p2,hp2⟩:∃q,decide (n≤hi)=q:=⟨_,rfl⟩
 have he:bO n lo hi=(p1&&p2):=by rw[←hp1,←hp2];unfold bO;exact Bool.decide_and _ _
 rw[he]
 refine aF Tryz.func146 rfl Tryz.ntmps146 rfl<|ab (.a 1 rfl<|.k [0,1,2] rfl)<|bC 6 (.raw (.bool (p1&&p2))) [] rfl ?_ ?_
 ·refine .a 2 rfl<|.v (cC rfl (hp1)) rfl<|.a 1 rfl<|?_
  cases p1
  ·exact .a 5 rfl<|.k [6] rfl
  ·exact .a 2 rfl<|.v (cC rfl (hp2)) rfl<|.a 2 rfl<|.k [6] rfl
 exact aq<|⟨_,_,aA.of rfl,aB.pure,rfl⟩
set_option maxHeartbeats 2000000 in
theorem de(T:ai):Can Tryz.prog 107 [aP T] (· =flag (ao T)):=by
  obtain⟨p0,hp0⟩:∃q,bO T.nodes 1 64=q:=⟨_,rfl⟩
  obtain⟨p1,hp1⟩:∃q,decide ((T.over.length:Int)≠0)=q:=⟨_,rfl⟩
  obtain⟨p2,hp2⟩:∃q,decide ((T.over.length:Int)≠T.nodes)=q:=⟨_,rfl⟩
  obtain⟨p3,hp3⟩:∃q,decide (256<(T.af.length:Int))=q:=⟨_,rfl⟩
  have hw:Can Tryz.prog 146 [num T.nodes,num 1,num 64] (· =flag p0):=by rw[←hp0];exact gy _ _ _
  refine aF Tryz.func107 rfl Tryz.ntmps107 rfl<|ab (.a 2 rfl<|.k [1] rfl)<|aj<|bC 14 (.raw (.bool ((!p0)||p3))) [1] rfl ?_ ?_
  · refine .a 2 rfl<|.c rfl (hw) rfl<|.a 2 rfl<|?_
    cases p0
    · exact .a 5 rfl<|.k [14,1] rfl
    · exact .a 3 rfl<|.v (cC rfl (hp3)) rfl<|.a 1 rfl<|.k [14,1] rfl
  refine ah rfl (fun hc=>?_) (fun hc=>?_)
  · have hv:ao T=false:=by
      rcases Bool.or_eq_true_iff.1 hc with h|h
      · exact(gv T (.inl (by rw[hp0];simpa using h))).symm
      · rw[h]at hp3;exact(gv T (.inr (.inl (by have:=tt hp3;omega)))).symm
    rw[hv]
    exact ab (.a 1 rfl<|.k [2] rfl)<|aq<|⟨_,_,aA.of rfl,aB.pure,rfl⟩
  · obtain ⟨c1, c2⟩ := Bool.or_eq_false_iff.1 hc
    have h0:p0=true:=by simpa using c1
    rw[h0]at hp0
    rw[c2]at hp3
    have hle:T.af.length≤256:=by have:=ff hp3;omega
    clear hw hc c1
    refine ak<|aj<|bC 26 (.raw (.bool (p1&&p2))) [1] rfl ?_ ?_
    · refine .a 3 rfl<|.v (cC rfl (hp1)) rfl<|.a 1 rfl<|?_
      cases p1
      · exact .a 7 rfl<|.k [26,1] rfl
      · exact .a 5 rfl<|.v (cC rfl (hp2)) rfl<|.a 1 rfl<|.k [26,1] rfl
    refine ah rfl (fun hc=>?_) (fun hc=>?_)
    · have hv:ao T=false:=by
        obtain⟨a1,a2⟩:=Bool.and_eq_true_iff.1 hc
        rw[a1]at hp1
        rw[a2]at hp2
        exact(gv T (.inr (.inr ⟨by have:=tt hp1;omega,tt hp2⟩))).symm
      rw[hv]
      exact ab (.a 1 rfl<|.k [2] rfl)<|aq<|⟨_,_,aA.of rfl,aB.pure,rfl⟩
    · have hov:T.over.length=0∨(T.over.length:Int)=T.nodes:=by
        rcases Bool.and_eq_false_iff.1 hc with h|h
        · rw[h]at hp1;exact .inl (by have:=ff hp1;omega)
        · rw[h]at hp2;exact .inr (by have:=ff hp2;omega)
      rw[pC T hp0 hle hov]
      clear hc hp1 hp2
      refine ak<|aj<|ab (.a 4 rfl<|.k [1,29,30] rfl)<|av<|eZ [1,29,30] rfl<|bw (fun r s=>∃k,k≤T.af.length∧r=T.af.length - k∧(T.af.take k).all (ic T)=true∧s=⟨[(1,.aV (bx T) 0),(29,num T.af.length),(30,num k)],[]⟩) T.af.length ⟨0,by omega,by omega,by simp,rfl⟩ ?_
      rintro r s ⟨k,hk,rfl,hall,rfl⟩
      refine ab (.a 1 rfl<|.k [1,29,30,31] rfl)<|aj<|ah rfl (fun hc=>?_) (fun hc=>?_)
      · have hlt:k<T.af.length:=by have:=tt hc;omega
        have g:∀j,j<7→(gd T.af)[k*7+j]? =(jn (cr T.af k))[j]? :=fun j hj=>eH T.af k j hlt hj
        obtain⟨q1,g1⟩:∃q,decide ((cr T.af k).a=(cr T.af k).b)=q:=⟨_,rfl⟩
        obtain⟨q2,g2⟩:∃q,bu T (cr T.af k).a=q:=⟨_,rfl⟩
        obtain⟨q3,g3⟩:∃q,bu T (cr T.af k).b=q:=⟨_,rfl⟩
        obtain⟨q4,g4⟩:∃q,bO (cr T.af k).c0 1 65535=q:=⟨_,rfl⟩
        obtain⟨q5,g5⟩:∃q,bO (cr T.af k).c1 1 65535=q:=⟨_,rfl⟩
        obtain⟨q6,g6⟩:∃q,bO (cr T.af k).cap 0 1048576=q:=⟨_,rfl⟩
        obtain⟨q7,g7⟩:∃q,bO (cr T.af k).eW 1 65536=q:=⟨_,rfl⟩
        obtain⟨q8,g8⟩:∃q,bO (cr T.af k).tX 0 64=q:=⟨_,rfl⟩
        have hOK:=sE (T:=T) (l:=cr T.af k) (q1:=q1) (by rw[←g1];exact Bool.eq_iff_iff.2 (by simp)) g2 g3 g4 g5 g6 g7 g8
        have hall':=uM (ic T) T.af k hlt
        have hno:=vz (ic T) T.af k hlt
        rw[hOK]at hall' hno
        have n2:=da T (cr T.af k).a
        rw[g2]at n2
        have n3:=da T (cr T.af k).b
        rw[g3]at n3
        have n4:=gy (cr T.af k).c0 1 65535
        rw[g4]at n4
        have n5:=gy (cr T.af k).c1 1 65535
        rw[g5]at n5
        have n6:=gy (cr T.af k).cap 0 1048576
        rw[g6]at n6
        have n7:=gy (cr T.af k).eW 1 65536
        rw[g7]at n7
        have n8:=gy (cr T.af k).tX 0 64
        rw[g8]at n8
        clear hOK g2 g3 g4 g5 g6 g7 g8
        refine ak<|aj<|av<|ab (.a 2 rfl<|.k [1,3,29,30] rfl)<|ab (.a 3 rfl<|.v (aI (k*7) rfl) rfl<|.a 1 rfl<|.k [1,4,29,30] rfl)<|aj<|nQ mixed (by kernel_rfl) 63 (.raw (.bool ((q1|| !q2)|| !q3))) [1,4,29,30] rfl ?_ ?_
        · refine .a 3 rfl<|.v [39] (aL rfl (g 0 (by omega))) rfl rfl<|.a 3 rfl<|.v [43] (aL rfl (g 1 (by omega))) rfl rfl<|.v [40,44] (cC rfl (g1)) rfl rfl<|.a 1 rfl<|?_
          cases q1
          · refine .a 4 rfl<|.v [50] (aL rfl (g 0 (by omega))) rfl rfl<|.v [47,51] (fm rfl (n2)) rfl rfl<|.a 3 rfl<|?_
            cases q2
            · exact .a 8 rfl<|.k [63,1,4,29,30] rfl
            · exact .a 4 rfl<|.v [59] (aL rfl (g 1 (by omega))) rfl rfl<|.v [56,60] (fm rfl (n3)) rfl rfl<|.a 2 rfl<|.k [63,1,4,29,30] rfl
          · exact .a 17 rfl<|.k [63,1,4,29,30] rfl
        refine ah rfl (fun hx=>?_) (fun hx=>?_)
        · have hno':=hno (by cases q1<;>cases q2<;>cases q3<;>simp_all)
          rw[hno']
          exact ab (.a 1 rfl<|.k [2] rfl)<|aq<|⟨_,_,aA.of rfl,aB.pure,rfl⟩
        · have e1:q1=false:=by cases q1<;>simp_all
          have e2:q2=true:=by cases q2<;>simp_all
          have e3:q3=true:=by cases q3<;>simp_all
          subst e1 e2 e3
          clear n2 n3 hx
          refine ak<|aj<|bC 79 (.raw (.bool ((!q4)|| !q5))) [1,4,29,30] rfl ?_ ?_
          · refine .a 3 rfl<|.v (aI (0) rfl) rfl<|.v (aL rfl (g 2 (by omega))) rfl<|.c rfl (n4) rfl<|.a 2 rfl<|?_
            cases q4
            · exact .a 8 rfl<|.k [79,1,4,29,30] rfl
            · exact .a 3 rfl<|.v (aI (1) rfl) rfl<|.v (aL rfl (g 3 (by omega))) rfl<|.c rfl (n5) rfl<|.a 2 rfl<|.k [79,1,4,29,30] rfl
          refine ah rfl (fun hx=>?_) (fun hx=>?_)
          · have hno':=hno (by cases q4<;>cases q5<;>simp_all)
            rw[hno']
            exact ab (.a 1 rfl<|.k [2] rfl)<|aq<|⟨_,_,aA.of rfl,aB.pure,rfl⟩
          · have e1:q4=true:=by cases q4<;>simp_all
            have e2:q5=true:=by cases q5<;>simp_all
            subst e1 e2
            clear n4 n5 hx
            refine ak<|bC 101 (.raw (.bool (((!q6)|| !q7)|| !q8))) [1,29,30] rfl ?_ ?_
            · refine .a 3 rfl<|.v (aL rfl (g 4 (by omega))) rfl<|.c rfl (n6) rfl<|.a 2 rfl<|?_
              cases q6
              · exact .a 15 rfl<|.k [101,1,29,30] rfl
              · refine .a 3 rfl<|.v (aL rfl (g 5 (by omega))) rfl<|.c rfl (n7) rfl<|.a 3 rfl<|?_
                cases q7
                · exact .a 7 rfl<|.k [101,1,29,30] rfl
                · exact .a 3 rfl<|.v (aL rfl (g 6 (by omega))) rfl<|.c rfl (n8) rfl<|.a 2 rfl<|.k [101,1,29,30] rfl
            refine ah rfl (fun hx=>?_) (fun hx=>?_)
            · have hno':=hno (by cases q6<;>cases q7<;>cases q8<;>simp_all)
              rw[hno']
              exact ab (.a 1 rfl<|.k [2] rfl)<|aq<|⟨_,_,aA.of rfl,aB.pure,rfl⟩
            · have e1:q6=true:=by cases q6<;>simp_all
              have e2:q7=true:=by cases q7<;>simp_all
              have e3:q8=true:=by cases q8<;>simp_all
              subst e1 e2 e3
              clear n6 n7 n8 hx
              refine ak<|ay (.v (aR rfl) rfl<|.a 1 rfl<|.k [1,29,30] rfl) ?_
              exact⟨T.af.length - (k+1),by omega,k+1,by omega,rfl,by rw[hall',hall];rfl,rfl⟩
      · have hke:k=T.af.length:=by have:=ff hc;omega
        subst hke
        rw[List.take_length]at hall
        rw[hall]
        exact bn<|ab (.a 1 rfl<|.k [2] rfl)<|aq<|⟨_,_,aA.of rfl,aB.pure,rfl⟩
end PW
end Go.Proofs.YtnegbdpggideiaaGreatDoor
namespace Go.Proofs.YtnegbdpggideiaaGreatDoor
namespace PW
open Go.RowKit cA Mem
section
variable {P:Program} {N L:Nat} {ops:Array Oper}
theorem WA.mono:∀ {n:Nat} {ls:Array Bool} {st:St} {K K':St→Prop},WA P N L ops n ls st K→(∀s,K s→K' s)→WA P N L ops n ls st K'
 |0,_,_,_,_,h,hk=>⟨h.1,hk _ h.2⟩
 |_+1,_,_,_,_,h,hk=>⟨h.1,fun i hi=>by
   obtain⟨o,h1,h2,h3⟩:=h.2 i hi
   exact⟨o,h1,h2,h3.mono fun s hs=>WA.mono hs hk⟩⟩
theorem pA{id:Nat}{l:List Oper}{y:Code}{st:St}{Q:Exit→St→Prop}(t':bZ)(σ':cd)(hm:P.follows .mixedOrders=true)(h:WA P N L l.toArray l.length (Array.replicate l.length false) st (fun s=>s.σ=σ'∧Sub s.t t'))(hq:W P N L y ⟨t',σ'⟩ Q):W P N L (.seq (.region id l.toArray true) y) st Q:=
 nL hm (h.mono fun s hs=>by
  obtain⟨t,σ⟩:=s
  obtain⟨h1,h2⟩:=hs
  subst h1
  exact mg h2 hq)
theorem Sat.seal{F:Nat→Prop}{base:Nat}{σ:cd}{E:Env}{w:World}(hS:Sat F base σ E w){i e s n:Nat}{xs:List PV}(hi:σ[i]? =some (some (.row e s n xs))){v:Value}(hv:cz E w v (.own i)):cz (E.kill i) w v (.slice n xs):=by
 obtain⟨_,g⟩:=hS.kill i hi
 cases hv with
 |own _ hiL _ h _=>
  obtain⟨cs,k1,k2⟩:=hS.blk i _ hi
  rw[h]at k1
  have k3:=k1
  rcases k1.2 with⟨rfl,h0⟩|⟨b,cap,cur,rfl,hb,hg,hn,hc,hs',ht⟩
  ·subst h0
   have:xs=[]:=by
    have:=k3.1;simp at this;subst this
    exact List.eq_nil_of_length_eq_zero k2.1.symm
   subst this
   exact .b9
  ·by_cases h0:n=0
   ·subst h0
    have:xs=[]:=by
     have:=k3.1;simp at this;subst this
     exact List.eq_nil_of_length_eq_zero k2.1.symm
    subst this
    exact .empty _ _ hc
   ·refine .slice b 0 n cap cs xs (by omega) hn hc (Array.getElem?_eq_some_iff.1 hg).1 (fun hM=>hM.2 (by rw[h];rfl)) (fun j x hx=>?_) k2.1 (fun j x u h1 h2=>(k2.2 j x u h1 h2).goes g)
    have:=k3.cells (g:=b) rfl j x hx
    rw[Addr.add_lit]at this
    exact this
theorem CE{c:Code}{t:bZ}{σ:cd}{Q:Exit→St→Prop}(k i:Nat){e s n:Nat}{xs:List PV}(hk:look k t=some (.own i))(hi:σ[i]? =some (some (.row e s n xs)))(h:W P N L c ⟨(k,.slice n xs)::t,σ.set i none⟩ Q):W P N L c ⟨t,σ⟩ Q:=fun F base E₀ w₀ E a w hc hs=>by
 obtain⟨a1,a2⟩:=hs.sat.kill i hi
 exact h F base E₀ w₀ _ a w (hc.on a2 (Below.refl _ _)) ⟨a1,(hs.tmp.goes a2).C7 (hs.sat.seal hi (hs.tmp k _ hk)),hs.jQ,hs.size⟩
theorem gj{c:Code}{t:bZ}{σ:cd}{Q:Exit→St→Prop}(k i off:Nat){ty:TypeId}{xs:List PV}(hk:look k t=some (.ptr i off))(hi:σ[i]? =some (some (.cells ty xs)))(h:W P N L c ⟨(k,.aV xs off)::t,σ.set i none⟩ Q):W P N L c ⟨t,σ⟩ Q:=fun F base E₀ w₀ E a w hc hs=>by
 obtain⟨a1,a2⟩:=hs.sat.kill i hi
 have hv:=hs.tmp k _ hk
 obtain⟨b,cs,h1,h2,h3,h4⟩:=hs.sat.blk i _ hi
 have hp:cz (E.kill i) w (a.eval (.tmp k)) (.aV xs off):=by
  generalize a.eval (.tmp k)=z at hv
  cases hv with
  |ptr _ _ b' hi' h=>
   have hb:b'=b:=by
    rcases h with h|⟨n,c,h⟩<;>rw[h1]at h<;>cases h
    rfl
   subst hb
   have:=cz.aV (E:=E.kill i) (w:=w) b' 0 off cs.toList xs (Array.getElem?_eq_some_iff.1 h3).1 (fun hM=>hM.2 (by rw[h1];rfl)) (fun j x hx=>by rw[Nat.zero_add];unfold World.cell?;simp only[h3];simpa using hx) h4.1 (fun j x u k1 k2=>(h4.2 j x u k1 k2).goes a2)
   rw[Nat.zero_add]at this
   exact this
 exact h F base E₀ w₀ _ a w (hc.on a2 (Below.refl _ _)) ⟨a1,(hs.tmp.goes a2).C7 hp,hs.jQ,hs.size⟩
end
end PW
end Go.Proofs.YtnegbdpggideiaaGreatDoor
