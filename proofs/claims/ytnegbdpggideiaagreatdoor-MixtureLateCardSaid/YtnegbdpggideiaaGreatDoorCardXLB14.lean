/- Texts of the proof, part 14. -/
import Derived.Test.YtnegbdpggideiaaGreatDoorCardXLB13
set_option linter.unusedVariables false
set_option linter.unusedSimpArgs false
set_option maxRecDepth 10000
set_option maxHeartbeats 1000000
namespace Go.Proofs.YtnegbdpggideiaaGreatDoor
namespace PW
section
open Go.RowKit cE Mem
theorem pW{w w':World}{l:Nat}{r:Loop}(hl:w.heap[l]? =some (.loop r))(ho:∀k,k≠l→w'.heap[k]? =w.heap[k]?){a:Addr}{x:Value}(h:w.cell? a=some x):w'.cell? a=some x:=by
 have hne:a.block≠l:=fun e=>by
  unfold World.cell? at h
  rw[e,hl]at h
  simp at h
 rw[ku (ho _ hne)]
 exact h
theorem cK.other{E:Env}{w w':World}{l:Nat}{r:Loop}(hl:w.heap[l]? =some (.loop r))(hz:w'.heap.size=w.heap.size)(ho:∀k,k≠l→w'.heap[k]? =w.heap[k]?){v:Value}{p:PV}(h:cK E w v p):cK E w' v p:=by
 induction h with
 |any v=>exact .any v
 |raw v=>exact .raw v
 |bQ=>exact .bQ
 |empty a c h=>exact .empty a c h
 |slice b off n c cs xs h0 h1 h2 hb hM hc hl2 _ ih=>exact .slice b off n c cs xs h0 h1 h2 (by omega) hM (fun i x hx=>pW hl ho (hc i x hx)) hl2 ih
 |bc b o' off cs xs hb hM hc hl2 _ ih=>exact .bc b o' off cs xs (by omega) hM (fun i x hx=>pW hl ho (hc i x hx)) hl2 ih
 |agg cs xs hl2 _ ih=>exact .agg cs xs hl2 ih
 |tuple cs xs hl2 _ ih=>exact .tuple cs xs hl2 ih
 |func f cs xs hl2 _ ih=>exact .func f cs xs hl2 ih
 |ptr i off b hi h=>exact .ptr i off b hi h
 |own i hi v h hs=>exact .own i hi v h hs
theorem iw.other{F:Nat→Prop}{w w':World}{l:Nat}{r:Loop}(hl:w.heap[l]? =some (.loop r))(ho:∀k,k≠l→w'.heap[k]? =w.heap[k]?)(h:iw F w):iw F w':=fun g cs hg=>by
 obtain⟨h1,t,fz,h2⟩:=h g cs hg
 have hne:g≠l:=fun e=>by rw[e,hl]at h2;cases h2
 exact⟨h1,t,fz,by rw[ho g hne];exact h2⟩
section
variable {P:Program} {ops:Array Oper} {n:Nat}
theorem Ew{lp:Nat}{o:Oper}{a:Act}{w:World}{K K':Act→World→Prop}{Q Q':Exit→Act→World→Prop}(hnd:∀c,o.op≠ .defer c)(hK:∀a w,K a w→K' a w)(hp:∀c a w,Q (.panic c) a w→Q' (.panic c) a w)(hL:¬LetsOut Q)(h:o.wp P a w K Q):o.wpIn (Fence.wide.inRound lp) n P a w K' Q':=by
 refine⟨fun _ _=>trivial,?_⟩
 rw[Fence.inRound_round,Oper.semAt_eq _ _ _ hnd]
 unfold Oper.wp at h
 generalize (execOp a.eval o).run P w=x at*
 cases x with
 |ok x w'=>
  cases x<;>simp only[Oper.uponIn,Oper.upon]at h ⊢
  case value v=>exact hK _ _ h
  case skip=>exact hK _ _ h
  case defer d=>exact hK _ _ h
  case enter f args=>exact⟨fun h=>by simp[Fence.wide]at h,CallsIn.inRound lp (callsIn_wide.2 (h.mono fun e w'' he=>by cases e<;>first|exact hK _ _ he|exact hp _ _ _ he|exact(hL he).elim))⟩
  case row r args=>exact⟨fun h=>by simp[Fence.wide]at h,fun c cs _=>by
   obtain⟨v,w',r,s⟩:=h c cs
   exact⟨v,w',hK _ _ r,stepsIn_wide.2 s⟩⟩
  all_goals exact h.elim
 |halt x w'=>cases x<;>simp only[Oper.uponIn,Oper.upon]at h ⊢ <;>first|exact hp _ _ _ h|exact h
def FD(lp n:Nat)(P:Program)(ops:Array Oper)(Q:Exit→Act→World→Prop)(js:List Nat):Exit→Act→World→Prop
 | .normal,a,w=>wpOpsIn (Fence.wide.inRound lp) n P ops Q js a w
 |_,_,_=>False
theorem uq{lp:Nat}{Q:Exit→Act→World→Prop}{js:List Nat}:¬LetsOut (FD lp n P ops Q js):=fun⟨_,_,h⟩=>h
theorem Ay{lp m:Nat}{Q:Exit→Act→World→Prop}{js:List Nat}(hm:m≤ops.size)(hg:∀(i:Nat) o,i<m→ops[i]? =some o→o.guard=none∧∀c,o.op≠ .defer c):∀(is:List Nat) (a:Act) (w:World),(∀i∈is,i<m)→wpOps P (ops.extract 0 m) (FD lp n P ops Q js) is a w→wpOpsIn (Fence.wide.inRound lp) n P ops Q (is++js) a w
 | [],a,w,_,h=>h
 |i::is,a,w,hi,h=>by
  have him:=hi i (by simp)
  have hget:(ops.extract 0 m)[i]? =ops[i]? :=by rw[Array.getElem?_extract];simp;omega
  rw[wpOps_cons]at h
  rw[List.cons_append,wpOpsIn_cons]
  unfold wpOp at h
  unfold wpOpIn
  rw[hget]at h
  have ho:ops[i]? =some ops[i]:=Array.getElem?_eq_getElem (by omega)
  rw[ho]at h ⊢
  simp only at h ⊢
  obtain⟨h1,h2⟩:=hg i _ him ho
  have hw:∀x,Region.wanted ops[i] x=true:=fun x=>by unfold Region.wanted;rw[h1]
  rw[if_pos (hw _)]at h ⊢
  rcases h with h|⟨_,h⟩
  ·exact Ew h2 (fun a' w' h=>Ay hm hg is a' w' (fun j hj=>hi j (by simp[hj])) h) (fun _ _ _ h=>h.elim) uq h
  ·exact absurd h uq
theorem mY{lp m id N L:Nat}{l:List Oper}{st:St}{F:Nat→Prop}{base:Nat}{E:Env}{a:Act}{w:World}{Q:Exit→Act→World→Prop}(hm:Nat.ble m l.length=true)(hg:((l.take m).all fun o=>o.guard.isNone&& !uG o.op)=true){K:St→Prop}(hs:ee F base N st E a w)(hL:E.L=L)
  (h:WR P N L (l.take m).toArray (l.take m) st K) (hk:∀s E' a' w',K s→ee F base N s E' a' w'→dj E w E' w'→Below base w w'→wpOpsIn (Fence.wide.inRound lp) n P l.toArray Q (List.range' m (l.length - m)) a' w'):(Code.region id l.toArray false).wpIn (Fence.wide.inRound lp) n P Q a w:=by
 have hmle:m≤l.length:=Nat.ble_eq.mp hm
 have hlt:(l.take m).length=m:=by simp;omega
 refine wpIn_region ?_
 have hr:List.range l.toArray.size=List.range' 0 m++List.range' m (l.length - m):=by
  have h:= @List.range'_append_1 0 m (l.length - m)
  rw[Nat.zero_add,show m+(l.length - m)=l.length by omega]at h
  rw[List.range_eq_range',List.size_toArray]
  exact h.symm
 rw[hr]
 refine Ay (m:=m) (by simpa using hmle) (fun i o hi ho=>?_) _ a w (fun i hi=>by simp at hi;omega) ?_
 ·have hmem:o∈l.take m:=by
   have:(l.take m)[i]? =some o:=by rw[List.getElem?_take,if_pos hi];simpa using ho
   exact List.mem_of_getElem? this
  have:=List.all_eq_true.1 hg o hmem
  simp only[Bool.and_eq_true,Option.isNone_iff_eq_none,Bool.not_eq_true']at this
  exact⟨this.1,fun c e=>by rw[e]at this;exact absurd this.2 (by simp[uG])⟩
 ·have he:l.toArray.extract 0 m=(l.take m).toArray:=by simp
  rw[he]
  have:=h F base E w E a w ⟨hL,dj.refl _ _,Below.refl _ _⟩ hs (FD lp n P l.toArray Q (List.range' m (l.length - m))) 0 (fun a' w' ⟨s,E',h1,h2,h3,h4⟩=>hk s E' a' w' h1 h2 h3 h4) (fun j=>by simp)
  rw[hlt]at this
  exact this
theorem nd{F:Fence}(hF:F=Fence.wide∨∃lp,F=Fence.wide.inRound lp){i:Nat}{is:List Nat}{o:Oper}{a:Act}{w:World}{v:Value}{Q:Exit→Act→World→Prop}(ho:ops[i]? =some o)(hg:o.guard=none)(hnd:∀c,o.op≠ .defer c)(hr:(execOp a.eval o).run P w= .ok (.value v) w)(h:wpOpsIn F n P ops Q is (a.put o.dst v) w):wpOpsIn F n P ops Q (i::is) a w:=by
 rw[wpOpsIn_cons]
 unfold wpOpIn
 rw[ho]
 simp only
 rw[if_pos (by unfold Region.wanted;rw[hg])]
 have hsem:o.semAt F.round a.eval=execOp a.eval o:=by
  rcases hF with rfl|⟨lp,rfl⟩
  ·exact Oper.semAt_none _ _
  ·rw[Fence.inRound_round,Oper.semAt_eq _ _ _ hnd]
 refine⟨fun _ _=>?_,?_⟩
 ·rcases hF with rfl|⟨lp,rfl⟩<;>trivial
 ·rw[hsem,hr]
  exact h
theorem A0{lp:Nat}{i l:Nat}{is:List Nat}{o:Oper}{a:Act}{w:World}{Q:Exit→Act→World→Prop}{x y:Operand}{ats:Array TypeId}{R:Ending→World→Prop}(ho:ops[i]? =some o)(hg:o.guard=none)(hop:o.op= .call {callee:=.value x,args:= #[y],argTypes:=ats})
  (hx:a.eval x= .func (.yield l) #[] #[]) (hy:YieldAt Fence.wide (n - 1) P l #[a.eval y] w R) (hR:∀e w',R e w'→∃v,e= .returned v∧wpOpsIn (Fence.wide.inRound lp) n P ops Q is (a.put o.dst v) w'):wpOpsIn (Fence.wide.inRound lp) n P ops Q (i::is) a w:=by
 obtain⟨fn,tmps,assign,body,h1,h2⟩:=hy
 rw[wpOpsIn_cons]
 unfold wpOpIn
 rw[ho]
 simp only
 rw[if_pos (by unfold Region.wanted;rw[hg])]
 refine⟨fun _ _=>trivial,?_⟩
 rw[Fence.inRound_round,Oper.semAt_eq _ _ _ (fun c e=>by rw[hop]at e;cases e)]
 have hr:(execOp a.eval o).run P w= .ok (.round l fn tmps assign body) w:=by
  simp[execOp,hop,resolve,hx,Deferred.ofValue,invoke,h1]
 rw[hr]
 refine⟨fun h=>by simp[Fence.wide]at h,RoundIn.mono h2 fun e w' he=>?_⟩
 obtain⟨v,rfl,hq⟩:=hR e w' he
 exact hq
theorem FC{o:Oper}{a:Act}{w:World}{x:Operand}{ty:TypeId}{q:Bool}(ho:o.op= .unOp .not ty x)(hx:a.eval x= .bool q):(execOp a.eval o).run P w= .ok (.value (.bool (!q))) w:=by
 simp only[execOp,ho,hx,Op.unary,Sem.run_bind,Sem.run_pure,Result.andThen_ok]
theorem A9{o:Oper}{a:Act}{w:World}{x:Operand}{ty:TypeId}{b:Nat}{c:Value}(ho:o.op= .load ty x)(hk:sM P ty=some none)(hx:a.eval x= .pointer (some ⟨b,0,none⟩))(hc:w.cell? ⟨b,0,none⟩=some c):(execOp a.eval o).run P w= .ok (.value c) w:=by
 have h:=jM (P:=P) hk hc
 simp only[execOp,ho,hx,Sem.run_bind,h,Result.andThen_ok,Sem.run_pure]
theorem vN{o:Oper}{a:Act}{w:World}{x:Operand}(ho:o.op= .assign x):(execOp a.eval o).run P w= .ok (.value (a.eval x)) w:=by
 simp only[execOp,ho,Sem.run_pure]
theorem Sat.other{F:Nat→Prop}{base:Nat}{σ:cc}{E:Env}{w w':World}{l:Nat}{r:Loop}(hl:w.heap[l]? =some (.loop r))(hz:w'.heap.size=w.heap.size)(ho:∀k,k≠l→w'.heap[k]? =w.heap[k]?)(h:Sat F base σ E w):Sat F base σ E w':=by
 have hne:∀ {k:Nat} {o:Obj},w.heap[k]? =some o→(∀r,o≠ .loop r)→k≠l:=fun {k o} hk hr e=>by subst e;rw[hl]at hk;cases hk;exact hr _ rfl
 have hL:∀ {cs:List Value} {xs:List PV},bd E w cs xs→bd E w' cs xs:=fun hr=>⟨hr.1,fun i x u k1 k2=>(hr.2 i x u k1 k2).other hl hz ho⟩
 refine⟨by rw[hz];exact h.bl,fun b hb=>⟨by rw[hz];exact(h.fb b hb).1,(h.fb b hb).2⟩,h.len,h.mm,fun i blk hi=>?_,h.inj,h.gl.other hl ho⟩
 have hb:=h.blk i blk hi
 generalize E.at_ i=v at hb
 cases blk with
 |cells t xs=>
  obtain⟨b',cs,rfl,h1,h2,h3⟩:=hb
  exact⟨b',cs,rfl,h1,(ho b' (hne h2 (fun r e=>by cases e))).trans h2,hL h3⟩
 |row e size n xs=>
  obtain⟨cs,h1,h2⟩:=hb
  refine⟨cs,⟨h1.1,?_⟩,hL h2⟩
  rcases h1.2 with h|⟨g',cap,cur,rfl,k1,k2,k3⟩
  ·exact .inl h
  ·exact .inr ⟨g',cap,cur,rfl,k1,(ho g' (hne k2 (fun r e=>by cases e))).trans k2,k3⟩
 |mp kv=>
  obtain⟨r',es,ck,rfl,h1,h2,h3,h4⟩:=hb
  exact⟨r',es,ck,rfl,h1,(ho r' (hne h2 (fun r e=>by cases e))).trans h2,h3,hL h4⟩
theorem eF.other{E:Env}{w w':World}{l:Nat}{r:Loop}(hl:w.heap[l]? =some (.loop r))(hz:w'.heap.size=w.heap.size)(ho:∀k,k≠l→w'.heap[k]? =w.heap[k]?){ρ:Operand→Value}{t:cg}(h:eF E w ρ t):eF E w' ρ t:=fun k p hk=>(h k p hk).other hl hz ho
theorem Cy{o:Oper}{a:Act}{w:World}{x:Operand}(ho:o.op= .move x):(execOp a.eval o).run P w= .ok (.value (a.eval x)) w:=by
 simp only[execOp,ho,Sem.run_pure]
theorem xf{o:Oper}{a:Act}{w:World}{op:BinOp}{x y:Operand}{ty tz:TypeId}{c b:Int}{v:Value}(ho:o.op= .binOp op ty x y tz)(hx:a.eval x= .int .i64 c)(hy:a.eval y= .int .i64 b)(hv:(binOp op ty (.int .i64 c) (.int .i64 b)).run P w= .ok v w):(execOp a.eval o).run P w= .ok (.value v) w:=by
 have hg:(eqGuard op ty x y (.int .i64 c) (.int .i64 b)).run P w= .ok () w:=by unfold eqGuard;split<;>rfl
 simp only[execOp,ho,hx,hy,Sem.run_bind,Sem.run_pure,Result.andThen_ok,hg,hv]
end
open Go.Shelf Net eY
theorem wa(l:List Int)(hl:l.length≤1000):bT Tryz.prog 144 [au l] [] (fun r σ'=>r= .own 0∧σ'=[some (.row 3 1 l.length (aK l))]):=by
 refine ct Tryz.func144 I Tryz.ntmps144 I<|ab (.a 1 I<|.k [0] I)<|aj<|aP (WR.mono (K:=fun s=>∃b:Bool,s=⟨[(0,au l),(4,.raw (.bool b))],[]⟩∧(b=true→l=[])) ?_ ?_)
 ·cases l with
  |nil=>exact av 1 rfl<|vc rfl J6 rfl rfl rfl rfl rfl fun b=>aG [0,4] rfl ⟨b,rfl,fun _=>rfl⟩
  |cons a l=>exact av 1 rfl<|bJ (om rfl J6 rfl rfl (Nat.succ_pos _)) rfl rfl rfl<|aG [0,4] rfl ⟨_,rfl,fun h=>by cases h⟩
 rintro _ ⟨b,rfl,hb⟩
 refine ah I (fun hc=>?_) (fun hc=>?_)
 ·have:l=[]:=hb hc
  subst this
  refine ab (.a 1 I<|.k [2] I)<|gQ 2 3 1 I ?_
  exact ao<|⟨_,az.of I,rfl,rfl⟩
 ·refine ai<|aP<|b7 (cH I (ba.sl.get I)) I<|av 1 I<|b7 (bg I (ba.rk.get I) I I I (show(aK l).length=l.length*1 by simp[aK]) (by unfold maxLen;omega)) I<|av 1 I<|aG [2] I ?_
  refine dI [1] (.cons 2 I (Ren.own (i:=0) I) .nil) (.kept rfl (.row aH.pure) .nil) I I ?_
  exact ao<|⟨_,az.of I,rfl,by rw[Nat.zero_add];rfl⟩
theorem vZ(l:List Int)(hl:l.length≤1000)(σ:cc):bT Tryz.prog 144 [au l] σ (fun r σ'=>r= .own σ.length∧σ'=σ++[some (.row 3 1 l.length (aK l))]):=by
 refine bT.frame (bT.mono (wa l hl) ?_)
 rintro r σ' ⟨rfl,rfl⟩
 exact⟨[.row 3 1 l.length (aK l)],rfl,_,_,Up.own rfl,nK.cons (.row lL.pure) nK.nil,by simp,rfl⟩
theorem uC(ys:List PV)(L:List Int):bT Tryz.prog 128 [.bc ys 0,.own 1] [none,some (.row 3 1 L.length (aK L))] (fun r σ'=>r= .func 165 [.ptr 2 0,.ptr 3 0]∧σ'=[none,some (.row 3 1 L.length (aK L)),some (.cells 147 [.bc ys 0]),some (.cells 37 [.own 1])]):=by
 refine ct Tryz.func128 I Tryz.ntmps128 I<|aP<|b7 (fx (xs:=[_]) I I I) I<|b7 (fx (xs:=[_]) I I I) I<|av 1 I<|aG [2,3] I ?_
 exact ab (.a 2 I<|.k [4] I)<|ao<|⟨_,az.of I,rfl,rfl⟩
noncomputable def zr(k:Nat):Code→Option Code
 | .region i ops d=>if i=k then some (.region i ops d) else none
 | .seq x y=>(zr k x).orElse fun _=>zr k y
 | .cond _ x y=>(zr k x).orElse fun _=>zr k y
 | .block _ x=>zr k x
 | .loop x=>zr k x
 |_=>none
noncomputable def JH(f:Func):Code:=f.body.getD .skip
def JN(ys:List PV)(pre:List Int)(a:Int)(l:Nat)(s:St):Prop:=
 s.σ=[none,some (.row 3 1 (pre++[a]).length (aK (pre++[a]))),some (.cells 147 [.bc ys 0]),some (.cells 37 [.own 1])]∧Sub s.t [(3,.bc [.raw (.func (.yield l) #[] #[])] 0),(30,num ([a]:List Int).length),(31,num 0),(48,.func 165 [.ptr 2 0,.ptr 3 0])]
noncomputable def KX:Code:=(zr 6 (JH Tryz.f165)).getD .skip
set_option maxRecDepth 100000 in
set_option maxHeartbeats 8000000 in
theorem Ho(ys:List PV)[aL ys](pre:List Int)(a:Int)(l n:Nat)(o:Out)(c:Int)(hpl:pre.length+1≤1000):
  W Tryz.prog 55 0 KX ⟨[(1,.bc [.bc (dO n o [.bc ys 0] c) 0] 0),(2,.bc [au pre] 0),(3,.bc [.raw (.func (.yield l) #[] #[])] 0),(4,num 0),(5,num a),(30,num ([a]:List Int).length),(31,num 0)],[]⟩ (Is (JN ys pre a l)):=by
 have hic:=vZ pre (by omega) []
 have hbr:=uC ys (pre++[a])
 refine wI mixed ?_
 ·refine uF [[(1,.bc [.bc (dO n o [.bc ys 0] c) 0] 0),(2,.bc [au pre] 0),(3,.bc [.raw (.func (.yield l) #[] #[])] 0),(4,num 0),(5,num a),(30,num ([a]:List Int).length),(31,num 0),(36,.bc (dO n o [.bc ys 0] c) 0),(37,.bc (dO n o [.bc ys 0] c) 0),(38,.bc (dO n o [.bc ys 0] c) 3),(39,.slice 1 [.bc ys 0]),(40,num 0),(41,.bc [.bc ys 0] 0),(42,.bc ys 0),(43,au pre),(44,.own 0),(45,num a),(46,.slice 1 [num a]),(47,.own 1),(48,.func 165 [.ptr 2 0,.ptr 3 0])]] [[],[some (.row 3 1 pre.length (aK pre))],[none,some (.row 3 1 (pre++[a]).length (aK (pre++[a])))],[none,some (.row 3 1 (pre++[a]).length (aK (pre++[a]))),some (.cells 147 [.bc ys 0]),some (.cells 37 [.own 1])]] [1,2,3,4,5,30,31] I (by kernel_rfl) (fun M hi ho=>?_)
  have μ0:M 0 8191 0 [3,30,31,48] 3:=hi<|rY I (by kernel_rfl) (⟨rfl,aY (ks:=[3,30,31,48]) I⟩)
  have μ1:M 1 4095 0 [3,30,31,42,47] 2:=hi<|aa [(12,8191)] I<|fk I I I I hbr (ho μ0) I I ae
  have μ2:M 2 2047 0 [3,30,31,42,44,46] 1:=hi<|aa [(11,4095)] I<|cf I I (cj.to (σ:=[some (.row 3 1 pre.length (aK pre))]) (p':=.own 1) (σ'':=[none,some (.row 3 1 (pre++[a]).length (aK (pre++[a])))]) (bg (e:=3) (s:=1) (by':=8) (i:=0) (m:=1) (n:=pre.length) (xs:=aK pre) (ys:=[num a]) I (ba.rk.get I) I I I I ⟨by unfold maxLen;omega,by omega⟩) I (by rw[List.length_append,←cY];rfl)) I (ho μ1) I I ae
  have μ3:M 3 1023 0 [3,30,31,42,44,45] 1:=hi<|aa [(10,2047)] I<|bx I I (aU (xs:=[num a]) I (ba.sl.get I) ⟨Nat.le_of_ble_eq_true rfl,Nat.le_of_ble_eq_true rfl⟩ rfl rfl) I (ho μ2) I I ae
  have μ4:M 4 511 0 [3,5,30,31,42,44] 1:=hi<|aa [(9,1023)] I<|ak (ho μ3) I I ae
  have μ5:M 3 1791 0 [3,30,31,42,43,46] 0:=hi<|aa [(8,2047)] I<|fk I I I I hic (ho μ2) I I ae
  have μ6:M 4 767 0 [3,30,31,42,43,45] 0:=hi<|aa [(8,1023),(10,1791)] I<|fk I I I I hic (ho μ3) I I<|bx I I (aU (xs:=[num a]) I (ba.sl.get I) ⟨Nat.le_of_ble_eq_true rfl,Nat.le_of_ble_eq_true rfl⟩ rfl rfl) I (ho μ5) I I ae
  have μ7:M 5 255 0 [3,5,30,31,42,43] 0:=hi<|aa [(8,511),(9,767)] I<|fk I I I I hic (ho μ4) I I<|ak (ho μ6) I I ae
  have μ8:M 4 1663 0 [2,3,30,31,42,46] 0:=hi<|aa [(7,1791)] I<|ak (ho μ5) I I ae
  have μ9:M 5 639 0 [2,3,30,31,42,45] 0:=hi<|aa [(7,767),(10,1663)] I<|ak (ho μ6) I I<|bx I I (aU (xs:=[num a]) I (ba.sl.get I) ⟨Nat.le_of_ble_eq_true rfl,Nat.le_of_ble_eq_true rfl⟩ rfl rfl) I (ho μ8) I I ae
  have μ10:M 6 127 0 [2,3,5,30,31,42] 0:=hi<|aa [(7,255),(9,639)] I<|ak (ho μ7) I I<|ak (ho μ9) I I ae
  have μ11:M 2 4031 0 [3,30,31,41,47] 2:=hi<|aa [(6,4095)] I<|bx I I (aJ I ((rfl:([PV.bc ys 0]:List PV)[0]? =some (.bc ys 0)))) I (ho μ1) I I ae
  have μ12:M 3 1983 0 [3,30,31,41,44,46] 1:=hi<|aa [(6,2047),(11,4031)] I<|bx I I (aJ I ((rfl:([PV.bc ys 0]:List PV)[0]? =some (.bc ys 0)))) I (ho μ2) I I<|cf I I (cj.to (σ:=[some (.row 3 1 pre.length (aK pre))]) (p':=.own 1) (σ'':=[none,some (.row 3 1 (pre++[a]).length (aK (pre++[a])))]) (bg (e:=3) (s:=1) (by':=8) (i:=0) (m:=1) (n:=pre.length) (xs:=aK pre) (ys:=[num a]) I (ba.rk.get I) I I I I ⟨by unfold maxLen;omega,by omega⟩) I (by rw[List.length_append,←cY];rfl)) I (ho μ11) I I ae
  have μ13:M 4 959 0 [3,30,31,41,44,45] 1:=hi<|aa [(6,1023),(10,1983)] I<|bx I I (aJ I ((rfl:([PV.bc ys 0]:List PV)[0]? =some (.bc ys 0)))) I (ho μ3) I I<|bx I I (aU (xs:=[num a]) I (ba.sl.get I) ⟨Nat.le_of_ble_eq_true rfl,Nat.le_of_ble_eq_true rfl⟩ rfl rfl) I (ho μ12) I I ae
  have μ14:M 5 447 0 [3,5,30,31,41,44] 1:=hi<|aa [(6,511),(9,959)] I<|bx I I (aJ I ((rfl:([PV.bc ys 0]:List PV)[0]? =some (.bc ys 0)))) I (ho μ4) I I<|ak (ho μ13) I I ae
  have μ15:M 4 1727 0 [3,30,31,41,43,46] 0:=hi<|aa [(6,1791),(8,1983)] I<|bx I I (aJ I ((rfl:([PV.bc ys 0]:List PV)[0]? =some (.bc ys 0)))) I (ho μ5) I I<|fk I I I I hic (ho μ12) I I ae
  have μ16:M 5 703 0 [3,30,31,41,43,45] 0:=hi<|aa [(6,767),(8,959),(10,1727)] I<|bx I I (aJ I ((rfl:([PV.bc ys 0]:List PV)[0]? =some (.bc ys 0)))) I (ho μ6) I I<|fk I I I I hic (ho μ13) I I<|bx I I (aU (xs:=[num a]) I (ba.sl.get I) ⟨Nat.le_of_ble_eq_true rfl,Nat.le_of_ble_eq_true rfl⟩ rfl rfl) I (ho μ15) I I ae
  have μ17:M 6 191 0 [3,5,30,31,41,43] 0:=hi<|aa [(6,255),(8,447),(9,703)] I<|bx I I (aJ I ((rfl:([PV.bc ys 0]:List PV)[0]? =some (.bc ys 0)))) I (ho μ7) I I<|fk I I I I hic (ho μ14) I I<|ak (ho μ16) I I ae
  have μ18:M 5 1599 0 [2,3,30,31,41,46] 0:=hi<|aa [(6,1663),(7,1727)] I<|bx I I (aJ I ((rfl:([PV.bc ys 0]:List PV)[0]? =some (.bc ys 0)))) I (ho μ8) I I<|ak (ho μ15) I I ae
  have μ19:M 6 575 0 [2,3,30,31,41,45] 0:=hi<|aa [(6,639),(7,703),(10,1599)] I<|bx I I (aJ I ((rfl:([PV.bc ys 0]:List PV)[0]? =some (.bc ys 0)))) I (ho μ9) I I<|ak (ho μ16) I I<|bx I I (aU (xs:=[num a]) I (ba.sl.get I) ⟨Nat.le_of_ble_eq_true rfl,Nat.le_of_ble_eq_true rfl⟩ rfl rfl) I (ho μ18) I I ae
  have μ20:M 7 63 0 [2,3,5,30,31,41] 0:=hi<|aa [(6,127),(7,191),(9,575)] I<|bx I I (aJ I ((rfl:([PV.bc ys 0]:List PV)[0]? =some (.bc ys 0)))) I (ho μ10) I I<|ak (ho μ17) I I<|ak (ho μ19) I I ae
  have μ21:M 3 3999 0 [3,30,31,39,40,47] 2:=hi<|aa [(5,4031)] I<|bx I I (aM (0) I (by simp) (by simp)) I (ho μ11) I I ae
  have μ22:M 4 1951 0 [3,30,31,39,40,44,46] 1:=hi<|aa [(5,1983),(11,3999)] I<|bx I I (aM (0) I (by simp) (by simp)) I (ho μ12) I I<|cf I I (cj.to (σ:=[some (.row 3 1 pre.length (aK pre))]) (p':=.own 1) (σ'':=[none,some (.row 3 1 (pre++[a]).length (aK (pre++[a])))]) (bg (e:=3) (s:=1) (by':=8) (i:=0) (m:=1) (n:=pre.length) (xs:=aK pre) (ys:=[num a]) I (ba.rk.get I) I I I I ⟨by unfold maxLen;omega,by omega⟩) I (by rw[List.length_append,←cY];rfl)) I (ho μ21) I I ae
  have μ23:M 5 927 0 [3,30,31,39,40,44,45] 1:=hi<|aa [(5,959),(10,1951)] I<|bx I I (aM (0) I (by simp) (by simp)) I (ho μ13) I I<|bx I I (aU (xs:=[num a]) I (ba.sl.get I) ⟨Nat.le_of_ble_eq_true rfl,Nat.le_of_ble_eq_true rfl⟩ rfl rfl) I (ho μ22) I I ae
  have μ24:M 6 415 0 [3,5,30,31,39,40,44] 1:=hi<|aa [(5,447),(9,927)] I<|bx I I (aM (0) I (by simp) (by simp)) I (ho μ14) I I<|ak (ho μ23) I I ae
  have μ25:M 5 1695 0 [3,30,31,39,40,43,46] 0:=hi<|aa [(5,1727),(8,1951)] I<|bx I I (aM (0) I (by simp) (by simp)) I (ho μ15) I I<|fk I I I I hic (ho μ22) I I ae
  have μ26:M 6 671 0 [3,30,31,39,40,43,45] 0:=hi<|aa [(5,703),(8,927),(10,1695)] I<|bx I I (aM (0) I (by simp) (by simp)) I (ho μ16) I I<|fk I I I I hic (ho μ23) I I<|bx I I (aU (xs:=[num a]) I (ba.sl.get I) ⟨Nat.le_of_ble_eq_true rfl,Nat.le_of_ble_eq_true rfl⟩ rfl rfl) I (ho μ25) I I ae
  have μ27:M 7 159 0 [3,5,30,31,39,40,43] 0:=hi<|aa [(5,191),(8,415),(9,671)] I<|bx I I (aM (0) I (by simp) (by simp)) I (ho μ17) I I<|fk I I I I hic (ho μ24) I I<|ak (ho μ26) I I ae
  have μ28:M 6 1567 0 [2,3,30,31,39,40,46] 0:=hi<|aa [(5,1599),(7,1695)] I<|bx I I (aM (0) I (by simp) (by simp)) I (ho μ18) I I<|ak (ho μ25) I I ae
  have μ29:M 7 543 0 [2,3,30,31,39,40,45] 0:=hi<|aa [(5,575),(7,671),(10,1567)] I<|bx I I (aM (0) I (by simp) (by simp)) I (ho μ19) I I<|ak (ho μ26) I I<|bx I I (aU (xs:=[num a]) I (ba.sl.get I) ⟨Nat.le_of_ble_eq_true rfl,Nat.le_of_ble_eq_true rfl⟩ rfl rfl) I (ho μ28) I I ae
  have μ30:M 8 31 0 [2,3,5,30,31,39,40] 0:=hi<|aa [(5,63),(7,159),(9,543)] I<|bx I I (aM (0) I (by simp) (by simp)) I (ho μ20) I I<|ak (ho μ27) I I<|ak (ho μ29) I I ae
  have μ31:M 4 3983 0 [3,4,30,31,39,47] 2:=hi<|aa [(4,3999)] I<|ak (ho μ21) I I ae
  have μ32:M 5 1935 0 [3,4,30,31,39,44,46] 1:=hi<|aa [(4,1951),(11,3983)] I<|ak (ho μ22) I I<|cf I I (cj.to (σ:=[some (.row 3 1 pre.length (aK pre))]) (p':=.own 1) (σ'':=[none,some (.row 3 1 (pre++[a]).length (aK (pre++[a])))]) (bg (e:=3) (s:=1) (by':=8) (i:=0) (m:=1) (n:=pre.length) (xs:=aK pre) (ys:=[num a]) I (ba.rk.get I) I I I I ⟨by unfold maxLen;omega,by omega⟩) I (by rw[List.length_append,←cY];rfl)) I (ho μ31) I I ae
  have μ33:M 6 911 0 [3,4,30,31,39,44,45] 1:=hi<|aa [(4,927),(10,1935)] I<|ak (ho μ23) I I<|bx I I (aU (xs:=[num a]) I (ba.sl.get I) ⟨Nat.le_of_ble_eq_true rfl,Nat.le_of_ble_eq_true rfl⟩ rfl rfl) I (ho μ32) I I ae
  have μ34:M 7 399 0 [3,4,5,30,31,39,44] 1:=hi<|aa [(4,415),(9,911)] I<|ak (ho μ24) I I<|ak (ho μ33) I I ae
  have μ35:M 6 1679 0 [3,4,30,31,39,43,46] 0:=hi<|aa [(4,1695),(8,1935)] I<|ak (ho μ25) I I<|fk I I I I hic (ho μ32) I I ae
  have μ36:M 7 655 0 [3,4,30,31,39,43,45] 0:=hi<|aa [(4,671),(8,911),(10,1679)] I<|ak (ho μ26) I I<|fk I I I I hic (ho μ33) I I<|bx I I (aU (xs:=[num a]) I (ba.sl.get I) ⟨Nat.le_of_ble_eq_true rfl,Nat.le_of_ble_eq_true rfl⟩ rfl rfl) I (ho μ35) I I ae
  have μ37:M 8 143 0 [3,4,5,30,31,39,43] 0:=hi<|aa [(4,159),(8,399),(9,655)] I<|ak (ho μ27) I I<|fk I I I I hic (ho μ34) I I<|ak (ho μ36) I I ae
  have μ38:M 7 1551 0 [2,3,4,30,31,39,46] 0:=hi<|aa [(4,1567),(7,1679)] I<|ak (ho μ28) I I<|ak (ho μ35) I I ae
  have μ39:M 8 527 0 [2,3,4,30,31,39,45] 0:=hi<|aa [(4,543),(7,655),(10,1551)] I<|ak (ho μ29) I I<|ak (ho μ36) I I<|bx I I (aU (xs:=[num a]) I (ba.sl.get I) ⟨Nat.le_of_ble_eq_true rfl,Nat.le_of_ble_eq_true rfl⟩ rfl rfl) I (ho μ38) I I ae
  have μ40:M 9 15 0 [2,3,4,5,30,31,39] 0:=hi<|aa [(4,31),(7,143),(9,527)] I<|ak (ho μ30) I I<|ak (ho μ37) I I<|ak (ho μ39) I I ae
  have μ41:M 4 3991 0 [3,30,31,38,40,47] 2:=hi<|aa [(3,3999)] I<|ak (ho μ21) I I ae
  have μ42:M 5 1943 0 [3,30,31,38,40,44,46] 1:=hi<|aa [(3,1951),(11,3991)] I<|ak (ho μ22) I I<|cf I I (cj.to (σ:=[some (.row 3 1 pre.length (aK pre))]) (p':=.own 1) (σ'':=[none,some (.row 3 1 (pre++[a]).length (aK (pre++[a])))]) (bg (e:=3) (s:=1) (by':=8) (i:=0) (m:=1) (n:=pre.length) (xs:=aK pre) (ys:=[num a]) I (ba.rk.get I) I I I I ⟨by unfold maxLen;omega,by omega⟩) I (by rw[List.length_append,←cY];rfl)) I (ho μ41) I I ae
  have μ43:M 6 919 0 [3,30,31,38,40,44,45] 1:=hi<|aa [(3,927),(10,1943)] I<|ak (ho μ23) I I<|bx I I (aU (xs:=[num a]) I (ba.sl.get I) ⟨Nat.le_of_ble_eq_true rfl,Nat.le_of_ble_eq_true rfl⟩ rfl rfl) I (ho μ42) I I ae
  have μ44:M 7 407 0 [3,5,30,31,38,40,44] 1:=hi<|aa [(3,415),(9,919)] I<|ak (ho μ24) I I<|ak (ho μ43) I I ae
  have μ45:M 6 1687 0 [3,30,31,38,40,43,46] 0:=hi<|aa [(3,1695),(8,1943)] I<|ak (ho μ25) I I<|fk I I I I hic (ho μ42) I I ae
  have μ46:M 7 663 0 [3,30,31,38,40,43,45] 0:=hi<|aa [(3,671),(8,919),(10,1687)] I<|ak (ho μ26) I I<|fk I I I I hic (ho μ43) I I<|bx I I (aU (xs:=[num a]) I (ba.sl.get I) ⟨Nat.le_of_ble_eq_true rfl,Nat.le_of_ble_eq_true rfl⟩ rfl rfl) I (ho μ45) I I ae
  have μ47:M 8 151 0 [3,5,30,31,38,40,43] 0:=hi<|aa [(3,159),(8,407),(9,663)] I<|ak (ho μ27) I I<|fk I I I I hic (ho μ44) I I<|ak (ho μ46) I I ae
  have μ48:M 7 1559 0 [2,3,30,31,38,40,46] 0:=hi<|aa [(3,1567),(7,1687)] I<|ak (ho μ28) I I<|ak (ho μ45) I I ae
  have μ49:M 8 535 0 [2,3,30,31,38,40,45] 0:=hi<|aa [(3,543),(7,663),(10,1559)] I<|ak (ho μ29) I I<|ak (ho μ46) I I<|bx I I (aU (xs:=[num a]) I (ba.sl.get I) ⟨Nat.le_of_ble_eq_true rfl,Nat.le_of_ble_eq_true rfl⟩ rfl rfl) I (ho μ48) I I ae
  have μ50:M 9 23 0 [2,3,5,30,31,38,40] 0:=hi<|aa [(3,31),(7,151),(9,535)] I<|ak (ho μ30) I I<|ak (ho μ47) I I<|ak (ho μ49) I I ae
  have μ51:M 5 3975 0 [3,4,30,31,38,47] 2:=hi<|aa [(3,3983),(4,3991)] I<|ak (ho μ31) I I<|ak (ho μ41) I I ae
  have μ52:M 6 1927 0 [3,4,30,31,38,44,46] 1:=hi<|aa [(3,1935),(4,1943),(11,3975)] I<|ak (ho μ32) I I<|ak (ho μ42) I I<|cf I I (cj.to (σ:=[some (.row 3 1 pre.length (aK pre))]) (p':=.own 1) (σ'':=[none,some (.row 3 1 (pre++[a]).length (aK (pre++[a])))]) (bg (e:=3) (s:=1) (by':=8) (i:=0) (m:=1) (n:=pre.length) (xs:=aK pre) (ys:=[num a]) I (ba.rk.get I) I I I I ⟨by unfold maxLen;omega,by omega⟩) I (by rw[List.length_append,←cY];rfl)) I (ho μ51) I I ae
  have μ53:M 7 903 0 [3,4,30,31,38,44,45] 1:=hi<|aa [(3,911),(4,919),(10,1927)] I<|ak (ho μ33) I I<|ak (ho μ43) I I<|bx I I (aU (xs:=[num a]) I (ba.sl.get I) ⟨Nat.le_of_ble_eq_true rfl,Nat.le_of_ble_eq_true rfl⟩ rfl rfl) I (ho μ52) I I ae
  have μ54:M 8 391 0 [3,4,5,30,31,38,44] 1:=hi<|aa [(3,399),(4,407),(9,903)] I<|ak (ho μ34) I I<|ak (ho μ44) I I<|ak (ho μ53) I I ae
  have μ55:M 7 1671 0 [3,4,30,31,38,43,46] 0:=hi<|aa [(3,1679),(4,1687),(8,1927)] I<|ak (ho μ35) I I<|ak (ho μ45) I I<|fk I I I I hic (ho μ52) I I ae
  have μ56:M 8 647 0 [3,4,30,31,38,43,45] 0:=hi<|aa [(3,655),(4,663),(8,903),(10,1671)] I<|ak (ho μ36) I I<|ak (ho μ46) I I<|fk I I I I hic (ho μ53) I I<|bx I I (aU (xs:=[num a]) I (ba.sl.get I) ⟨Nat.le_of_ble_eq_true rfl,Nat.le_of_ble_eq_true rfl⟩ rfl rfl) I (ho μ55) I I ae
  have μ57:M 9 135 0 [3,4,5,30,31,38,43] 0:=hi<|aa [(3,143),(4,151),(8,391),(9,647)] I<|ak (ho μ37) I I<|ak (ho μ47) I I<|fk I I I I hic (ho μ54) I I<|ak (ho μ56) I I ae
  have μ58:M 8 1543 0 [2,3,4,30,31,38,46] 0:=hi<|aa [(3,1551),(4,1559),(7,1671)] I<|ak (ho μ38) I I<|ak (ho μ48) I I<|ak (ho μ55) I I ae
  have μ59:M 9 519 0 [2,3,4,30,31,38,45] 0:=hi<|aa [(3,527),(4,535),(7,647),(10,1543)] I<|ak (ho μ39) I I<|ak (ho μ49) I I<|ak (ho μ56) I I<|bx I I (aU (xs:=[num a]) I (ba.sl.get I) ⟨Nat.le_of_ble_eq_true rfl,Nat.le_of_ble_eq_true rfl⟩ rfl rfl) I (ho μ58) I I ae
  have μ60:M 10 7 0 [2,3,4,5,30,31,38] 0:=hi<|aa [(3,15),(4,23),(7,135),(9,519)] I<|ak (ho μ40) I I<|ak (ho μ50) I I<|ak (ho μ57) I I<|ak (ho μ59) I I ae
  have μ61:M 5 3987 0 [3,30,31,37,40,47] 2:=hi<|aa [(2,3991)] I<|ak (ho μ41) I I ae
  have μ62:M 6 1939 0 [3,30,31,37,40,44,46] 1:=hi<|aa [(2,1943),(11,3987)] I<|ak (ho μ42) I I<|cf I I (cj.to (σ:=[some (.row 3 1 pre.length (aK pre))]) (p':=.own 1) (σ'':=[none,some (.row 3 1 (pre++[a]).length (aK (pre++[a])))]) (bg (e:=3) (s:=1) (by':=8) (i:=0) (m:=1) (n:=pre.length) (xs:=aK pre) (ys:=[num a]) I (ba.rk.get I) I I I I ⟨by unfold maxLen;omega,by omega⟩) I (by rw[List.length_append,←cY];rfl)) I (ho μ61) I I ae
  have μ63:M 7 915 0 [3,30,31,37,40,44,45] 1:=hi<|aa [(2,919),(10,1939)] I<|ak (ho μ43) I I<|bx I I (aU (xs:=[num a]) I (ba.sl.get I) ⟨Nat.le_of_ble_eq_true rfl,Nat.le_of_ble_eq_true rfl⟩ rfl rfl) I (ho μ62) I I ae
  have μ64:M 8 403 0 [3,5,30,31,37,40,44] 1:=hi<|aa [(2,407),(9,915)] I<|ak (ho μ44) I I<|ak (ho μ63) I I ae
  have μ65:M 7 1683 0 [3,30,31,37,40,43,46] 0:=hi<|aa [(2,1687),(8,1939)] I<|ak (ho μ45) I I<|fk I I I I hic (ho μ62) I I ae
  have μ66:M 8 659 0 [3,30,31,37,40,43,45] 0:=hi<|aa [(2,663),(8,915),(10,1683)] I<|ak (ho μ46) I I<|fk I I I I hic (ho μ63) I I<|bx I I (aU (xs:=[num a]) I (ba.sl.get I) ⟨Nat.le_of_ble_eq_true rfl,Nat.le_of_ble_eq_true rfl⟩ rfl rfl) I (ho μ65) I I ae
  have μ67:M 9 147 0 [3,5,30,31,37,40,43] 0:=hi<|aa [(2,151),(8,403),(9,659)] I<|ak (ho μ47) I I<|fk I I I I hic (ho μ64) I I<|ak (ho μ66) I I ae
  have μ68:M 8 1555 0 [2,3,30,31,37,40,46] 0:=hi<|aa [(2,1559),(7,1683)] I<|ak (ho μ48) I I<|ak (ho μ65) I I ae
  have μ69:M 9 531 0 [2,3,30,31,37,40,45] 0:=hi<|aa [(2,535),(7,659),(10,1555)] I<|ak (ho μ49) I I<|ak (ho μ66) I I<|bx I I (aU (xs:=[num a]) I (ba.sl.get I) ⟨Nat.le_of_ble_eq_true rfl,Nat.le_of_ble_eq_true rfl⟩ rfl rfl) I (ho μ68) I I ae
  have μ70:M 10 19 0 [2,3,5,30,31,37,40] 0:=hi<|aa [(2,23),(7,147),(9,531)] I<|ak (ho μ50) I I<|ak (ho μ67) I I<|ak (ho μ69) I I ae
  have μ71:M 6 3971 0 [3,4,30,31,37,47] 2:=hi<|aa [(2,3975),(4,3987)] I<|ak (ho μ51) I I<|ak (ho μ61) I I ae
  have μ72:M 7 1923 0 [3,4,30,31,37,44,46] 1:=hi<|aa [(2,1927),(4,1939),(11,3971)] I<|ak (ho μ52) I I<|ak (ho μ62) I I<|cf I I (cj.to (σ:=[some (.row 3 1 pre.length (aK pre))]) (p':=.own 1) (σ'':=[none,some (.row 3 1 (pre++[a]).length (aK (pre++[a])))]) (bg (e:=3) (s:=1) (by':=8) (i:=0) (m:=1) (n:=pre.length) (xs:=aK pre) (ys:=[num a]) I (ba.rk.get I) I I I I ⟨by unfold maxLen;omega,by omega⟩) I (by rw[List.length_append,←cY];rfl)) I (ho μ71) I I ae
  have μ73:M 8 899 0 [3,4,30,31,37,44,45] 1:=hi<|aa [(2,903),(4,915),(10,1923)] I<|ak (ho μ53) I I<|ak (ho μ63) I I<|bx I I (aU (xs:=[num a]) I (ba.sl.get I) ⟨Nat.le_of_ble_eq_true rfl,Nat.le_of_ble_eq_true rfl⟩ rfl rfl) I (ho μ72) I I ae
  have μ74:M 9 387 0 [3,4,5,30,31,37,44] 1:=hi<|aa [(2,391),(4,403),(9,899)] I<|ak (ho μ54) I I<|ak (ho μ64) I I<|ak (ho μ73) I I ae
  have μ75:M 8 1667 0 [3,4,30,31,37,43,46] 0:=hi<|aa [(2,1671),(4,1683),(8,1923)] I<|ak (ho μ55) I I<|ak (ho μ65) I I<|fk I I I I hic (ho μ72) I I ae
  have μ76:M 9 643 0 [3,4,30,31,37,43,45] 0:=hi<|aa [(2,647),(4,659),(8,899),(10,1667)] I<|ak (ho μ56) I I<|ak (ho μ66) I I<|fk I I I I hic (ho μ73) I I<|bx I I (aU (xs:=[num a]) I (ba.sl.get I) ⟨Nat.le_of_ble_eq_true rfl,Nat.le_of_ble_eq_true rfl⟩ rfl rfl) I (ho μ75) I I ae
  have μ77:M 10 131 0 [3,4,5,30,31,37,43] 0:=hi<|aa [(2,135),(4,147),(8,387),(9,643)] I<|ak (ho μ57) I I<|ak (ho μ67) I I<|fk I I I I hic (ho μ74) I I<|ak (ho μ76) I I ae
  have μ78:M 9 1539 0 [2,3,4,30,31,37,46] 0:=hi<|aa [(2,1543),(4,1555),(7,1667)] I<|ak (ho μ58) I I<|ak (ho μ68) I I<|ak (ho μ75) I I ae
  have μ79:M 10 515 0 [2,3,4,30,31,37,45] 0:=hi<|aa [(2,519),(4,531),(7,643),(10,1539)] I<|ak (ho μ59) I I<|ak (ho μ69) I I<|ak (ho μ76) I I<|bx I I (aU (xs:=[num a]) I (ba.sl.get I) ⟨Nat.le_of_ble_eq_true rfl,Nat.le_of_ble_eq_true rfl⟩ rfl rfl) I (ho μ78) I I ae
  have μ80:M 11 3 0 [2,3,4,5,30,31,37] 0:=hi<|aa [(2,7),(4,19),(7,131),(9,515)] I<|ak (ho μ60) I I<|ak (ho μ70) I I<|ak (ho μ77) I I<|ak (ho μ79) I I ae
  have μ81:M 6 3985 0 [3,30,31,36,40,47] 2:=hi<|aa [(1,3987)] I<|ak (ho μ61) I I ae
  have μ82:M 7 1937 0 [3,30,31,36,40,44,46] 1:=hi<|aa [(1,1939),(11,3985)] I<|ak (ho μ62) I I<|cf I I (cj.to (σ:=[some (.row 3 1 pre.length (aK pre))]) (p':=.own 1) (σ'':=[none,some (.row 3 1 (pre++[a]).length (aK (pre++[a])))]) (bg (e:=3) (s:=1) (by':=8) (i:=0) (m:=1) (n:=pre.length) (xs:=aK pre) (ys:=[num a]) I (ba.rk.get I) I I I I ⟨by unfold maxLen;omega,by omega⟩) I (by rw[List.length_append,←cY];rfl)) I (ho μ81) I I ae
  have μ83:M 8 913 0 [3,30,31,36,40,44,45] 1:=hi<|aa [(1,915),(10,1937)] I<|ak (ho μ63) I I<|bx I I (aU (xs:=[num a]) I (ba.sl.get I) ⟨Nat.le_of_ble_eq_true rfl,Nat.le_of_ble_eq_true rfl⟩ rfl rfl) I (ho μ82) I I ae
  have μ84:M 9 401 0 [3,5,30,31,36,40,44] 1:=hi<|aa [(1,403),(9,913)] I<|ak (ho μ64) I I<|ak (ho μ83) I I ae
  have μ85:M 8 1681 0 [3,30,31,36,40,43,46] 0:=hi<|aa [(1,1683),(8,1937)] I<|ak (ho μ65) I I<|fk I I I I hic (ho μ82) I I ae
  have μ86:M 9 657 0 [3,30,31,36,40,43,45] 0:=hi<|aa [(1,659),(8,913),(10,1681)] I<|ak (ho μ66) I I<|fk I I I I hic (ho μ83) I I<|bx I I (aU (xs:=[num a]) I (ba.sl.get I) ⟨Nat.le_of_ble_eq_true rfl,Nat.le_of_ble_eq_true rfl⟩ rfl rfl) I (ho μ85) I I ae
  have μ87:M 10 145 0 [3,5,30,31,36,40,43] 0:=hi<|aa [(1,147),(8,401),(9,657)] I<|ak (ho μ67) I I<|fk I I I I hic (ho μ84) I I<|ak (ho μ86) I I ae
  have μ88:M 9 1553 0 [2,3,30,31,36,40,46] 0:=hi<|aa [(1,1555),(7,1681)] I<|ak (ho μ68) I I<|ak (ho μ85) I I ae
  have μ89:M 10 529 0 [2,3,30,31,36,40,45] 0:=hi<|aa [(1,531),(7,657),(10,1553)] I<|ak (ho μ69) I I<|ak (ho μ86) I I<|bx I I (aU (xs:=[num a]) I (ba.sl.get I) ⟨Nat.le_of_ble_eq_true rfl,Nat.le_of_ble_eq_true rfl⟩ rfl rfl) I (ho μ88) I I ae
  have μ90:M 11 17 0 [2,3,5,30,31,36,40] 0:=hi<|aa [(1,19),(7,145),(9,529)] I<|ak (ho μ70) I I<|ak (ho μ87) I I<|ak (ho μ89) I I ae
  have μ91:M 7 3969 0 [3,4,30,31,36,47] 2:=hi<|aa [(1,3971),(4,3985)] I<|ak (ho μ71) I I<|ak (ho μ81) I I ae
  have μ92:M 8 1921 0 [3,4,30,31,36,44,46] 1:=hi<|aa [(1,1923),(4,1937),(11,3969)] I<|ak (ho μ72) I I<|ak (ho μ82) I I<|cf I I (cj.to (σ:=[some (.row 3 1 pre.length (aK pre))]) (p':=.own 1) (σ'':=[none,some (.row 3 1 (pre++[a]).length (aK (pre++[a])))]) (bg (e:=3) (s:=1) (by':=8) (i:=0) (m:=1) (n:=pre.length) (xs:=aK pre) (ys:=[num a]) I (ba.rk.get I) I I I I ⟨by unfold maxLen;omega,by omega⟩) I (by rw[List.length_append,←cY];rfl)) I (ho μ91) I I ae
  have μ93:M 9 897 0 [3,4,30,31,36,44,45] 1:=hi<|aa [(1,899),(4,913),(10,1921)] I<|ak (ho μ73) I I<|ak (ho μ83) I I<|bx I I (aU (xs:=[num a]) I (ba.sl.get I) ⟨Nat.le_of_ble_eq_true rfl,Nat.le_of_ble_eq_true rfl⟩ rfl rfl) I (ho μ92) I I ae
  have μ94:M 10 385 0 [3,4,5,30,31,36,44] 1:=hi<|aa [(1,387),(4,401),(9,897)] I<|ak (ho μ74) I I<|ak (ho μ84) I I<|ak (ho μ93) I I ae
  have μ95:M 9 1665 0 [3,4,30,31,36,43,46] 0:=hi<|aa [(1,1667),(4,1681),(8,1921)] I<|ak (ho μ75) I I<|ak (ho μ85) I I<|fk I I I I hic (ho μ92) I I ae
  have μ96:M 10 641 0 [3,4,30,31,36,43,45] 0:=hi<|aa [(1,643),(4,657),(8,897),(10,1665)] I<|ak (ho μ76) I I<|ak (ho μ86) I I<|fk I I I I hic (ho μ93) I I<|bx I I (aU (xs:=[num a]) I (ba.sl.get I) ⟨Nat.le_of_ble_eq_true rfl,Nat.le_of_ble_eq_true rfl⟩ rfl rfl) I (ho μ95) I I ae
  have μ97:M 11 129 0 [3,4,5,30,31,36,43] 0:=hi<|aa [(1,131),(4,145),(8,385),(9,641)] I<|ak (ho μ77) I I<|ak (ho μ87) I I<|fk I I I I hic (ho μ94) I I<|ak (ho μ96) I I ae
  have μ98:M 10 1537 0 [2,3,4,30,31,36,46] 0:=hi<|aa [(1,1539),(4,1553),(7,1665)] I<|ak (ho μ78) I I<|ak (ho μ88) I I<|ak (ho μ95) I I ae
  have μ99:M 11 513 0 [2,3,4,30,31,36,45] 0:=hi<|aa [(1,515),(4,529),(7,641),(10,1537)] I<|ak (ho μ79) I I<|ak (ho μ89) I I<|ak (ho μ96) I I<|bx I I (aU (xs:=[num a]) I (ba.sl.get I) ⟨Nat.le_of_ble_eq_true rfl,Nat.le_of_ble_eq_true rfl⟩ rfl rfl) I (ho μ98) I I ae
  have μ100:M 12 1 0 [2,3,4,5,30,31,36] 0:=hi<|aa [(1,3),(4,17),(7,129),(9,513)] I<|ak (ho μ80) I I<|ak (ho μ90) I I<|ak (ho μ97) I I<|ak (ho μ99) I I ae
  have μ101:M 7 3984 0 [1,3,30,31,40,47] 2:=hi<|aa [(0,3985)] I<|ak (ho μ81) I I ae
  have μ102:M 8 1936 0 [1,3,30,31,40,44,46] 1:=hi<|aa [(0,1937),(11,3984)] I<|ak (ho μ82) I I<|cf I I (cj.to (σ:=[some (.row 3 1 pre.length (aK pre))]) (p':=.own 1) (σ'':=[none,some (.row 3 1 (pre++[a]).length (aK (pre++[a])))]) (bg (e:=3) (s:=1) (by':=8) (i:=0) (m:=1) (n:=pre.length) (xs:=aK pre) (ys:=[num a]) I (ba.rk.get I) I I I I ⟨by unfold maxLen;omega,by omega⟩) I (by rw[List.length_append,←cY];rfl)) I (ho μ101) I I ae
  have μ103:M 9 912 0 [1,3,30,31,40,44,45] 1:=hi<|aa [(0,913),(10,1936)] I<|ak (ho μ83) I I<|bx I I (aU (xs:=[num a]) I (ba.sl.get I) ⟨Nat.le_of_ble_eq_true rfl,Nat.le_of_ble_eq_true rfl⟩ rfl rfl) I (ho μ102) I I ae
  have μ104:M 10 400 0 [1,3,5,30,31,40,44] 1:=hi<|aa [(0,401),(9,912)] I<|ak (ho μ84) I I<|ak (ho μ103) I I ae
  have μ105:M 9 1680 0 [1,3,30,31,40,43,46] 0:=hi<|aa [(0,1681),(8,1936)] I<|ak (ho μ85) I I<|fk I I I I hic (ho μ102) I I ae
  have μ106:M 10 656 0 [1,3,30,31,40,43,45] 0:=hi<|aa [(0,657),(8,912),(10,1680)] I<|ak (ho μ86) I I<|fk I I I I hic (ho μ103) I I<|bx I I (aU (xs:=[num a]) I (ba.sl.get I) ⟨Nat.le_of_ble_eq_true rfl,Nat.le_of_ble_eq_true rfl⟩ rfl rfl) I (ho μ105) I I ae
  have μ107:M 11 144 0 [1,3,5,30,31,40,43] 0:=hi<|aa [(0,145),(8,400),(9,656)] I<|ak (ho μ87) I I<|fk I I I I hic (ho μ104) I I<|ak (ho μ106) I I ae
  have μ108:M 10 1552 0 [1,2,3,30,31,40,46] 0:=hi<|aa [(0,1553),(7,1680)] I<|ak (ho μ88) I I<|ak (ho μ105) I I ae
  have μ109:M 11 528 0 [1,2,3,30,31,40,45] 0:=hi<|aa [(0,529),(7,656),(10,1552)] I<|ak (ho μ89) I I<|ak (ho μ106) I I<|bx I I (aU (xs:=[num a]) I (ba.sl.get I) ⟨Nat.le_of_ble_eq_true rfl,Nat.le_of_ble_eq_true rfl⟩ rfl rfl) I (ho μ108) I I ae
  have μ110:M 12 16 0 [1,2,3,5,30,31,40] 0:=hi<|aa [(0,17),(7,144),(9,528)] I<|ak (ho μ90) I I<|ak (ho μ107) I I<|ak (ho μ109) I I ae
  have μ111:M 8 3968 0 [1,3,4,30,31,47] 2:=hi<|aa [(0,3969),(4,3984)] I<|ak (ho μ91) I I<|ak (ho μ101) I I ae
  have μ112:M 9 1920 0 [1,3,4,30,31,44,46] 1:=hi<|aa [(0,1921),(4,1936),(11,3968)] I<|ak (ho μ92) I I<|ak (ho μ102) I I<|cf I I (cj.to (σ:=[some (.row 3 1 pre.length (aK pre))]) (p':=.own 1) (σ'':=[none,some (.row 3 1 (pre++[a]).length (aK (pre++[a])))]) (bg (e:=3) (s:=1) (by':=8) (i:=0) (m:=1) (n:=pre.length) (xs:=aK pre) (ys:=[num a]) I (ba.rk.get I) I I I I ⟨by unfold maxLen;omega,by omega⟩) I (by rw[List.length_append,←cY];rfl)) I (ho μ111) I I ae
  have μ113:M 10 896 0 [1,3,4,30,31,44,45] 1:=hi<|aa [(0,897),(4,912),(10,1920)] I<|ak (ho μ93) I I<|ak (ho μ103) I I<|bx I I (aU (xs:=[num a]) I (ba.sl.get I) ⟨Nat.le_of_ble_eq_true rfl,Nat.le_of_ble_eq_true rfl⟩ rfl rfl) I (ho μ112) I I ae
  have μ114:M 11 384 0 [1,3,4,5,30,31,44] 1:=hi<|aa [(0,385),(4,400),(9,896)] I<|ak (ho μ94) I I<|ak (ho μ104) I I<|ak (ho μ113) I I ae
  have μ115:M 10 1664 0 [1,3,4,30,31,43,46] 0:=hi<|aa [(0,1665),(4,1680),(8,1920)] I<|ak (ho μ95) I I<|ak (ho μ105) I I<|fk I I I I hic (ho μ112) I I ae
  have μ116:M 11 640 0 [1,3,4,30,31,43,45] 0:=hi<|aa [(0,641),(4,656),(8,896),(10,1664)] I<|ak (ho μ96) I I<|ak (ho μ106) I I<|fk I I I I hic (ho μ113) I I<|bx I I (aU (xs:=[num a]) I (ba.sl.get I) ⟨Nat.le_of_ble_eq_true rfl,Nat.le_of_ble_eq_true rfl⟩ rfl rfl) I (ho μ115) I I ae
  have μ117:M 12 128 0 [1,3,4,5,30,31,43] 0:=hi<|aa [(0,129),(4,144),(8,384),(9,640)] I<|ak (ho μ97) I I<|ak (ho μ107) I I<|fk I I I I hic (ho μ114) I I<|ak (ho μ116) I I ae
  have μ118:M 11 1536 0 [1,2,3,4,30,31,46] 0:=hi<|aa [(0,1537),(4,1552),(7,1664)] I<|ak (ho μ98) I I<|ak (ho μ108) I I<|ak (ho μ115) I I ae
  have μ119:M 12 512 0 [1,2,3,4,30,31,45] 0:=hi<|aa [(0,513),(4,528),(7,640),(10,1536)] I<|ak (ho μ99) I I<|ak (ho μ109) I I<|ak (ho μ116) I I<|bx I I (aU (xs:=[num a]) I (ba.sl.get I) ⟨Nat.le_of_ble_eq_true rfl,Nat.le_of_ble_eq_true rfl⟩ rfl rfl) I (ho μ118) I I ae
  have μ120:M 13 0 0 [1,2,3,4,5,30,31] 0:=hi<|aa [(0,1),(4,16),(7,128),(9,512)] I<|ak (ho μ100) I I<|ak (ho μ110) I I<|ak (ho μ117) I I<|ak (ho μ119) I I ae
  exact μ120
attribute [local go_sem] Oper.semAt_some
theorem sZ{w:World}{l:Nat}{r:Loop}{o:Obj}(hl:w.heap[l]? =some (.loop r)){a:Addr}{x:Value}(h:w.cell? a=some x):(w.putObj l o).cell? a=some x:=by
 have hne:a.block≠l:=fun e=>by
  unfold World.cell? at h
  rw[e,hl]at h
  simp at h
 rw[ku (World.putObj_heap_other hne)]
 exact h
theorem cK.loop{E:Env}{w:World}{l:Nat}{r:Loop}{o:Obj}(hl:w.heap[l]? =some (.loop r)){v:Value}{p:PV}(h:cK E w v p):cK E (w.putObj l o) v p:=by
 induction h with
 |any v=>exact .any v
 |raw v=>exact .raw v
 |bQ=>exact .bQ
 |empty a c h=>exact .empty a c h
 |slice b off n c cs xs h0 h1 h2 hb hM hc hl2 _ ih=>exact .slice b off n c cs xs h0 h1 h2 (by simpa using hb) hM (fun i x hx=>sZ hl (hc i x hx)) hl2 ih
 |bc b o' off cs xs hb hM hc hl2 _ ih=>exact .bc b o' off cs xs (by simpa using hb) hM (fun i x hx=>sZ hl (hc i x hx)) hl2 ih
 |agg cs xs hl2 _ ih=>exact .agg cs xs hl2 ih
 |tuple cs xs hl2 _ ih=>exact .tuple cs xs hl2 ih
 |func f cs xs hl2 _ ih=>exact .func f cs xs hl2 ih
 |ptr i off b hi h=>exact .ptr i off b hi h
 |own i hi v h hs=>exact .own i hi v h hs
def eU(e:Nat)(cT:Int)(path:List Int):List PV:=[num e,num cT,au path]
theorem tI(e:Nat)(cT:Int)(path:List Int):IsPure (.agg (eU e cT path)):=by unfold eU;infer_instance
def GR(F0:Nat→Prop)(e:Nat)(cT:Int)(path:List Int)(x:Value)(W:World):Prop:=cK (EF F0) W x (.agg (eU e cT path))
theorem GR.calm(F0:Nat→Prop)(e:Nat)(cT:Int)(path:List Int):eY.Calm (GR F0 e cT path):=fun _ _ _ _ _ h hl=>cK.loop hl h
theorem Cw{P:Program}{ops:Array Oper}{n i l:Nat}{o:Oper}{a:Act}{w:World}{Q:Exit→Act→World→Prop}{x y:Operand}{ats:Array TypeId}{R:Ending→World→Prop}(ho:ops[i]? =some o)(hg:o.guard=none)(hop:o.op= .call {callee:=.value x,args:= #[y],argTypes:=ats})
  (hx:a.eval x= .func (.yield l) #[] #[]) (hy:YieldAt Fence.wide (n - 1) P l #[a.eval y] w R) (hR:∀e w',R e w'→∃v,e= .returned v∧Q .normal (a.put o.dst v) w'):wpOpsIn Fence.wide n P ops Q [i] a w:=by
 obtain⟨fn,tmps,assign,body,h1,h2⟩:=hy
 rw[wpOpsIn_cons]
 unfold wpOpIn
 rw[ho]
 simp only
 rw[if_pos (by unfold Region.wanted;rw[hg])]
 refine⟨fun _ _=>trivial,?_⟩
 rw[show Fence.wide.round=none from rfl,Oper.semAt_none]
 have hr:(execOp a.eval o).run P w= .ok (.round l fn tmps assign body) w:=by
  simp[execOp,hop,resolve,hx,Deferred.ofValue,invoke,h1]
 rw[hr]
 refine⟨fun h=>by simp[Fence.wide]at h,h2.mono fun e w' he=>?_⟩
 obtain⟨v,rfl,hq⟩:=hR e w' he
 exact hq
section
variable {T:an} {tb:Nat→de} {p0:dv} {Φ:Nat→Nat→List bU→Prop}
set_option maxRecDepth 100000 in
set_option maxHeartbeats 4000000 in
theorem FZ{n:Nat}{o:Out}{vs:List PV}{c:Int}{pre:List Int}(ha:o.ax=[])(hpl:pre.length≤1000)[hvs:aL vs]{xb pb:Value}{W₀:World}{F0:Nat→Prop}(hF:∀b,F0 b→b<W₀.heap.size)(gl:iw F0 W₀)(hX:cK (EF F0) W₀ xb (.bc [.bc (dO n o vs c) 0] 0))(hP:cK (EF F0) W₀ pb (.bc [au pre] 0)):
  zn Tryz.prog 165 #[xb,pb] (GR F0 n o.cT pre) W₀:=by
 intro n' l W R hW hkeep hY
 have hargs:bd (EF F0) W (#[Value.func (.yield l) #[] #[]]++ #[xb,pb]).toList [.raw (.func (.yield l) #[] #[]),.bc [.bc (dO n o vs c) 0] 0,.bc [au pre] 0]:=
  bd.cons (.raw _) (bd.cons (hX.ext hW) (bd.cons (hP.ext hW) (bd.nil _ _)))
 have hF':∀b,F0 b→b<W.heap.size:=fun b hb=>Nat.lt_of_lt_of_le (hF b hb) hW.size
 have gl':iw F0 W:=gl.goes (E:=EF F0) (E':=EF F0) (.ext hW)
 refine callsIn_of_wp_marks Tryz.func165 I trivial ?_ rfl
 have hs0:=jb (N:=55) (Sat.start F0 W hF' gl') hargs (by simp)
 have hc0:po W.heap.size 0 (EF F0) W (EF F0) W:=⟨rfl,dj.refl _ _,Below.refl _ _⟩
 refine wpIn_seq (piece (K:=fun s=>s=⟨[(1,.bc [.bc (dO n o vs c) 0] 0),(2,.bc [au pre] 0),(3,.bc [.raw (.func (.yield l) #[] #[])] 0)],[]⟩) hc0 hs0 ?_ ?_)
 ·skip
  refine aC (.a 1 I<|.k [1,2,3] I) ?_
  exact rfl
 rintro _ E1 a1 w1 rfl hs1 g1 b1
 refine wpIn_seq (wpIn_seq (piece (K:=fun s=>s=⟨[(1,.bc [.bc (dO n o vs c) 0] 0),(2,.bc [au pre] 0),(3,.bc [.raw (.func (.yield l) #[] #[])] 0),(12,flag true)],[]⟩) ⟨rfl,g1,b1⟩ hs1 ?_ ?_))
 ·skip
  refine aC (.a 5 I<|.v (EU I I I (decide_eq_true (by rw[ha];rfl))) I<|.k [1,2,3,12] I) ?_
  exact rfl
 rintro _ E2 a2 w2 rfl hs2 g2 b2
 refine wpIn_cond_true (eo (hs2.tmp 12 _ rfl)) ?_
 refine wpIn_seq ?_
 skip
 refine sL 12 20 [13,14,15,16,17,18,19,20,21,22,23,24] mixed (by kernel_rfl) (by kernel_rfl) (by kernel_rfl) I (hs2) (.a 4 I<|.v [16] (aJ I (rfl)) I I<|.a 3 I<|.v [20] (aJ I (rfl)) I I<|.a 1 I<|.v [22] (dX I (qS pre hpl)) I I<|.a 1 I<|.k [13,24] I) ?_
 intro a3 w3 hE3 hs3
 have hEW:Ext W w3:=Ext.trans b2 hE3
 have h24:=hs3.tmp 24 (.agg (eU n o.cT pre)) I
 have hv:GR F0 n o.cT pre (a3.eval (.tmp 24)) w3:=(tI n o.cT pre).out _ F0 _ _ (fun b hb=>(hs3.sat.mm b).2 (.inl hb)) h24
 refine Cw (x:=.tmp 13) (y:=.tmp 24) I I I (eo (hs3.tmp 13 _ rfl)) (hY _ _ w3 hEW hv) ?_
 rintro e w4 ⟨rfl,hr⟩
 refine⟨_,rfl,wpIn_ret ?_⟩
 show LeavesInM _ _ _ _ _ _ (a3.put (some 25) (.bool true)).defers _ _
 rw[show(a3.put (some 25) (.bool true)).defers=[] from hs3.j9]
 exact⟨_,results_none rfl _ _ _,⟨_,rfl⟩,w3,w4,hEW,hr,Rest.refl _ _ _⟩
end
attribute [local go_sem] Oper.semAt_some
theorem eF.one{E:Env}{w:World}{ρ:Operand→Value}{k:Nat}{p:PV}{t:cg}(h:cK E w (ρ (.tmp k)) p)(ht:eF E w ρ t):eF E w ρ ((k,p)::t):=ht.EH h
theorem eF.JZ{E:Env}{w:World}{ρ:Operand→Value}:eF E w ρ []:=fun k p h=>by cases h
theorem mS{a:Act}{k:Nat}{v:Value}(h:k<a.tmps.size):(a.put (some k) v).eval (.tmp k)=v:=by
 show(a.tmps.setIfInBounds k v).getD k undef=v
 simp[h]
theorem rV{a:Act}{k j:Nat}{v:Value}(h:j≠k):(a.put (some k) v).eval (.tmp j)=a.eval (.tmp j):=by
 show(a.tmps.setIfInBounds k v).getD j undef=a.tmps.getD j undef
 simp[Array.getD_eq_getD_getElem?,Array.getElem?_setIfInBounds_ne (Ne.symm h)]
set_option maxRecDepth 100000 in
set_option maxHeartbeats 8000000 in
theorem Ge{n:Nat}{o:Out}{ys:List PV}{c:Int}{pre q:List Int}{a:Int}{e:Nat}{cT:Int}(ha:o.ax=[a])(hpl:pre.length+1≤1000)[hv1:aL ys]{xb pb:Value}{W₀:World}{F0:Nat→Prop}(hF:∀b,F0 b→b<W₀.heap.size)(gl:iw F0 W₀)(hX:cK (EF F0) W₀ xb (.bc [.bc (dO n o [.bc ys 0] c) 0] 0))(hP:cK (EF F0) W₀ pb (.bc [au pre] 0))
  (hin:∀(xb' pb':Value) (W':World),(∀b,F0 b→b<W'.heap.size)→iw F0 W'→cK (EF F0) W' xb' (.bc [.bc ys 0] 0)→cK (EF F0) W' pb' (.bc [au (pre++[a])] 0)→zn Tryz.prog 165 #[xb',pb'] (GR F0 e cT ((pre++[a])++q)) W'):
  zn Tryz.prog 165 #[xb,pb] (GR F0 e cT (pre++a::q)) W₀:=by
 intro n' l W R hW hkeep hY
 have hargs:bd (EF F0) W (#[Value.func (.yield l) #[] #[]]++ #[xb,pb]).toList [.raw (.func (.yield l) #[] #[]),.bc [.bc (dO n o [.bc ys 0] c) 0] 0,.bc [au pre] 0]:=
  bd.cons (.raw _) (bd.cons (hX.ext hW) (bd.cons (hP.ext hW) (bd.nil _ _)))
 have hF':∀b,F0 b→b<W.heap.size:=fun b hb=>Nat.lt_of_lt_of_le (hF b hb) hW.size
 have gl':iw F0 W:=gl.goes (E:=EF F0) (E':=EF F0) (.ext hW)
 refine callsIn_of_wp_marks Tryz.func165 I trivial ?_ rfl
 have hs0:=jb (N:=55) (Sat.start F0 W hF' gl') hargs (by simp)
 have hc0:po W.heap.size 0 (EF F0) W (EF F0) W:=⟨rfl,dj.refl _ _,Below.refl _ _⟩
 refine wpIn_seq (piece (K:=fun s=>s=⟨[(1,.bc [.bc (dO n o [.bc ys 0] c) 0] 0),(2,.bc [au pre] 0),(3,.bc [.raw (.func (.yield l) #[] #[])] 0)],[]⟩) hc0 hs0 ?_ ?_)
 ·skip
  refine aC (.a 1 I<|.k [1,2,3] I) ?_
  exact rfl
 rintro _ E1 a1 w1 rfl hs1 g1 b1
 refine wpIn_seq (wpIn_seq (piece (K:=fun s=>s=⟨[(1,.bc [.bc (dO n o [.bc ys 0] c) 0] 0),(2,.bc [au pre] 0),(3,.bc [.raw (.func (.yield l) #[] #[])] 0),(12,flag false)],[]⟩) ⟨rfl,g1,b1⟩ hs1 ?_ ?_))
 ·skip
  refine aC (.a 5 I<|.v (EU I I I (decide_eq_false (by rw[ha];simp))) I<|.k [1,2,3,12] I) ?_
  exact rfl
 rintro _ E2 a2 w2 rfl hs2 g2 b2
 refine wpIn_cond_false (eo (hs2.tmp 12 _ rfl)) (wpIn_skip ?_)
 refine wpIn_seq (piece (K:=fun s=>s=⟨[(1,.bc [.bc (dO n o [.bc ys 0] c) 0] 0),(2,.bc [au pre] 0),(3,.bc [.raw (.func (.yield l) #[] #[])] 0),(29,au o.ax),(30,num o.ax.length),(31,num 0)],[]⟩) ⟨rfl,g2,b2⟩ hs2 ?_ ?_)
 ·skip
  refine aC (.a 6 I<|.k [1,2,3,29,30,31] I) ?_
  exact rfl
 rintro _ E3 a3 w3 rfl hs3 g3 b3
 rw[ha]at hs3
 refine wpIn_block ?_
 refine wJ (fun a' w'=>∃D W1 W2,a'.defers=[{target:=.collected D,args:= #[]}]∧a'.tmps.size=55∧a'.eval (.tmp 31)= .int .i64 1∧a'.eval (.tmp 30)= .int .i64 1∧w'.heap[D]? =some (.deferred (some []))∧Ext W W1∧R W1 W2∧eY.Rest W.heap.size W1.heap.size W2 w'∧W.heap.size≤D∧D<W1.heap.size) ?_ ?_
 ·
  refine wpIn_seq (piece (K:=fun s=>s=⟨[(1,.bc [.bc (dO n o [.bc ys 0] c) 0] 0),(2,.bc [au pre] 0),(3,.bc [.raw (.func (.yield l) #[] #[])] 0),(29,au [a]),(30,num ([a]:List Int).length),(31,num 0),(32,flag true)],[]⟩) ⟨rfl,g3,b3⟩ hs3 ?_ ?_)
  ·skip
   refine aC (.a 1 I<|.k [1,2,3,29,30,31,32] I) ?_
   exact rfl
  rintro _ E4 a4 w4 rfl hs4 g4 b4
  refine wpIn_seq (wpIn_cond_true (eo (hs4.tmp 32 _ rfl)) (wpIn_skip ?_))
  refine wpIn_seq (wpIn_block ?_)
  refine wpIn_seq (piece (K:=fun s=>s=⟨[(1,.bc [.bc (dO n o [.bc ys 0] c) 0] 0),(2,.bc [au pre] 0),(3,.bc [.raw (.func (.yield l) #[] #[])] 0),(4,num 0),(5,num a),(30,num ([a]:List Int).length),(31,num 0)],[]⟩) ⟨rfl,g4,b4⟩ hs4 ?_ ?_)
  ·skip
   refine aC (.a 1 I<|.v (aM (0) I (by simp) (by simp)) I<|.v (aJ I ((rfl:(aK [a])[0]? =some (num a)))) I<|.a 2 I<|.k [1,2,3,4,5,30,31] I) ?_
   exact rfl
  rintro _ E5 a5 w5 rfl hs5 g5 b5
  refine wpIn_seq (piece (L:=0) (K:=JN ys pre a l) ⟨rfl,g5,b5⟩ hs5 (Ho ys pre a l n o c hpl) ?_)
  rintro⟨t6,σ6⟩ E6 a6 w6 ⟨hσ6,hsub6⟩ hs6 g6 b6
  simp only at hσ6 hsub6
  subst hσ6
  have ht6:=hs6.tmp.sub hsub6
  have hpl2:aL (aK (pre++[a])):=inferInstance
  have h48:=(ay.iR (f:=165) (af.cons (ay.ju (i:=2) (k:=0) (blk:=.cells 147 [.bc ys 0]) (ys:=[.bc ys 0]) I (show af _ [.bc ys 0] [.bc ys 0] from af.pure))<|af.cons (ay.ju (i:=3) (k:=0) (blk:=.cells 37 [.own 1]) (ys:=[au (pre++[a])]) I (af.cons (ay.fr (i:=1) I af.pure) af.nil)) af.nil)).rep hs6.sat (G:=F0) (fun b hb=>(hs6.sat.mm b).2 (.inl hb)) (fun b hb=>(hs6.sat.fb b hb).2) _ (ht6 48 _ rfl)
  have h3:cK (EF F0) w6 (a6.eval (.tmp 3)) (.bc [.raw (.func (.yield l) #[] #[])] 0):=(inferInstance:IsPure (.bc [.raw (.func (.yield l) #[] #[])] 0)).out _ F0 _ _ (fun b hb=>(hs6.sat.mm b).2 (.inl hb)) (ht6 3 _ rfl)
  have h30:a6.eval (.tmp 30)= .int .i64 1:=eo (ht6 30 _ rfl)
  have h31:a6.eval (.tmp 31)= .int .i64 0:=eo (ht6 31 _ rfl)
  have hd6:a6.defers=[]:=hs6.j9
  have hz6:a6.tmps.size=55:=hs6.size
  have hE6:Ext W w6:=b6
  have hF6:∀b,F0 b→b<w6.heap.size:=fun b hb=>Nat.lt_of_lt_of_le (hF' b hb) hE6.size
  have gl6:iw F0 w6:=gl'.goes (E:=EF F0) (E':=EF F0) (.ext hE6)
  clear ht6 hs6 g6 b6 hsub6
  generalize hz48:a6.eval (.tmp 48)=z48 at h48
  cases h48 with
  |func _ cs _ hcl hcr=>
  obtain⟨cs⟩:=cs
  match cs,hcl,hcr with
  | [xb',pb'],_,hcr=>
  have hxb:=hcr 0 xb' _ rfl rfl
  have hpb:=hcr 1 pb' _ rfl rfl
  refine wpIn_block ?_
  refine lR hz48 (enters_of Tryz.func165 (by kernel_rfl) I) (GR.calm F0 e cT ((pre++[a])++q)) (fun v A B h hE=>cK.ext hE h) (hin xb' pb' w6 hF6 gl6 hxb hpb) (Below.refl _ _) I (fun Wb W3=>∃Wc,Ext Wb Wc∧R Wc W3) ?_ ?_
  ·intro m l2 v W1 hl2 hloop hE1 hv
   obtain⟨rl,hrl⟩:=hloop
   obtain⟨arr6,ds6⟩:=a6
   simp only at hd6 hz6
   subst hd6
   have hF1:∀b,F0 b→b<W1.heap.size:=fun b hb=>Nat.lt_of_lt_of_le (hF6 b hb) hE1.size
   have gl1:iw F0 W1:=gl6.goes (E:=EF F0) (E':=EF F0) (.ext hE1)
   have hsA:ee F0 W1.heap.size 55 ⟨[(49,.agg (eU e cT ((pre++[a])++q))),(3,.bc [.raw (.func (.yield l) #[] #[])] 0)],[]⟩ (EF F0) ((⟨arr6,[]⟩:Act).put (some 49) v) W1:=
    ⟨Sat.start F0 W1 hF1 gl1,eF.put (eF.one (h3.ext hE1) eF.JZ) hv (by simp[hz6]),rfl,by simp[Act.put,hz6]⟩
   rw[show({tmps:=(#[49].zip #[v]).foldl (fun t (p,v)=>t.setIfInBounds p v) arr6,defers:=[]}:Act)=(⟨arr6,[]⟩:Act).put (some 49) v from by simp[Act.put]]
   refine mY (m:=2) (K:=fun s=>s=⟨[(3,.bc [.raw (.func (.yield l) #[] #[])] 0),(6,.ptr 0 0)],[some (.cells 107 (eU e cT ((pre++[a])++q)))]⟩) I I hsA rfl (by refine av 2 I ?_;refine aG [3,6] I ?_;rfl) ?_
   rintro _ Ea a7 Wa rfl hsB gB bB
   refine⟨bB,fun Wb hlb hEb hzb hoth hvb=>?_⟩
   have hla:Wa.heap[l2]? =some (.loop rl):=(bB.block _ (Array.getElem?_eq_some_iff.1 hrl).1).trans hrl
   have hpr:aL (eU e cT ((pre++[a])++q)):=by unfold eU;infer_instance
   have r6:=((ay.ju (i:=0) (k:=0) (blk:=.cells 107 (eU e cT ((pre++[a])++q))) (ys:=eU e cT ((pre++[a])++q)) I (show af _ (eU e cT ((pre++[a])++q)) (eU e cT ((pre++[a])++q)) from af.pure)).rep hsB.sat (G:=F0) (fun b hb=>(hsB.sat.mm b).2 (.inl hb)) (fun b hb=>(hsB.sat.fb b hb).2) _ (hsB.tmp 6 _ rfl)).other hla hzb hoth
   have r3:=((inferInstance:IsPure (.bc [.raw (.func (.yield l) #[] #[])] 0)).out _ F0 _ _ (fun b hb=>(hsB.sat.mm b).2 (.inl hb)) (hsB.tmp 3 _ rfl)).other hla hzb hoth
   have hFb:∀b,F0 b→b<Wb.heap.size:=fun b hb=>Nat.lt_of_lt_of_le (hF6 b hb) hEb.size
   have glb:iw F0 Wb:=(gl1.goes (E:=EF F0) (E':=EF F0) (.ext (w':=Wa) bB)).other hla hoth
   have hsC:ee F0 Wb.heap.size 55 ⟨[(3,.bc [.raw (.func (.yield l) #[] #[])] 0),(6,.bc (eU e cT ((pre++[a])++q)) 0)],[]⟩ (EF F0) a7 Wb:=
    ⟨Sat.start F0 Wb hFb glb,eF.one r3 (eF.one r6 eF.JZ),hsB.j9,hsB.size⟩
   refine wpIn_block (wpIn_seq ?_)
   refine mY (m:=2) (K:=fun s=>s=⟨[(50,.raw (.func (.yield l) #[] #[])),(51,.agg (eU e cT ((pre++[a])++q)))],[]⟩) I I hsC rfl (by refine av 2 I ?_;refine aG [50,51] I ?_;rfl) ?_
   rintro _ Ed a8 Wc rfl hsD gD bD
   have hEbc:Ext Wb Wc:=bD
   have hEWc:Ext W Wc:=(hE6.trans hEb).trans hEbc
   have h51:=(tI e cT ((pre++[a])++q)).out _ F0 _ _ (fun b hb=>(hsD.sat.mm b).2 (.inl hb)) (hsD.tmp 51 _ rfl)
   rw[show(pre++[a])++q=pre++a::q by simp]at h51
   have hz8:a8.tmps.size=55:=hsD.size
   show wpOpsIn _ _ _ _ _ [2,3] a8 Wc
   refine A0 (x:=.tmp 50) (y:=.tmp 51) I I I (eo (hsD.tmp 50 _ rfl)) (hY _ _ Wc hEWc h51) ?_
   rintro e4 W4 ⟨rfl,hr4⟩
   refine⟨_,rfl,?_⟩
   refine nd (.inr ⟨_,rfl⟩) I I (fun c e=>by cases e) (FC rfl (mS (by omega))) ?_
   refine wpIn_cond_false (mS (by simp[Act.put,hz8])) (wpIn_skip ?_)
   obtain⟨k1,k2⟩:=hkeep _ _ hr4
   have hs1:=hE6.size
   have hs2:=hEbc.size
   exact⟨⟨by omega,fun k h1 h2=>(k2 k (by omega) (by omega)).trans (hEbc.block k h2)⟩,Wc,hEbc,hr4⟩
  ·intro Wb W3 W' hEb hlt hle hrx hrest hD
   obtain⟨Wc,hEbc,hr⟩:=hrx
   have hs1:=hE6.size
   have hs2:=hEbc.size
   refine wpIn_region ?_
   refine nd (.inl rfl) I I (fun c e=>by cases e) (xf rfl (show Act.eval {a6 with defers:=_} (.tmp 31)=_ from h31) I (v:=.int .i64 1) (by simp[binOp,Op.intArith,jU (show In64 1 by unfold In64;omega)])) ?_
   refine nd (.inl rfl) I I (fun c e=>by cases e) (Cy rfl) ?_
   refine⟨w6.heap.size,Wc,W3,by show _::a6.defers=_;rw[hd6],by show((a6.tmps.setIfInBounds 54 _).setIfInBounds 31 _).size=55;simp[hz6],?_,?_,hD,(hE6.trans hEb).trans hEbc,hr,hrest.wide hs1 hs2,hs1,by omega⟩
   ·refine(mS (k:=31) (by show 31<(a6.tmps.setIfInBounds 54 _).size;simp[hz6])).trans ?_
    exact mS (k:=54) (by show 54<a6.tmps.size;omega)
   ·refine(rV (k:=31) (j:=30) (by decide)).trans ?_
    refine(rV (k:=54) (j:=30) (by decide)).trans ?_
    exact h30
 ·rintro a' w' ⟨D,W1,W2,hd,hz,h31,h30,hD,hE,hR,hrest,hD1,hD2⟩
  refine wpIn_seq (wpIn_region ?_)
  refine nd (.inl rfl) I I (fun c e=>by cases e) (xf rfl h31 h30 (v:=.bool false) (by simp[binOp,Op.intCmp])) ?_
  have h32:(a'.put (some 32) (.bool false)).eval (.tmp 32)= .bool false:=by
   show(a'.tmps.setIfInBounds 32 _).getD 32 _=_
   simp[hz]
  refine wpIn_seq (wpIn_cond_false h32 (wpIn_exit ?_))
  show LeavesInM _ _ _ _ _ _ (a'.put (some 32) (.bool false)).defers _ _
  rw[show(a'.put (some 32) (.bool false)).defers=[{target:=.collected D,args:= #[]}] from hd]
  refine⟨by simp,.inl ⟨_,_,rfl,run_takeDeferred hD,?_⟩⟩
  exact⟨_,results_none rfl _ _ _,⟨_,rfl⟩,W1,W2,hE,hR,hrest.trans (Rest.put hD rfl hD1 hD2)⟩
attribute [local go_sem] Oper.semAt_some
theorem zG{w:World}{a:Addr}{x:Value}(h:w.cell? a=some x):∃o,w.heap[a.block]? =some o∧o.isCells=true:=by
 unfold World.cell? at h
 cases ho:w.heap[a.block]? with
 |none=>rw[ho]at h;simp at h
 |some o=>exact⟨o,rfl,by rw[ho]at h;cases o<;>simp_all[Obj.isCells]⟩
theorem cK.cells{E:Env}{w w':World}(hz:w.heap.size≤w'.heap.size)(hc:∀(k:Nat) (o:Obj),w.heap[k]? =some o→o.isCells=true→w'.heap[k]? =some o){v:Value}{p:PV}(h:cK E w v p):cK E w' v p:=by
 have key:∀ {a:Addr} {x:Value},w.cell? a=some x→w'.cell? a=some x:=fun {a x} h=>by
  obtain⟨o,h1,h2⟩:=zG h
  rw[ku ((hc _ _ h1 h2).trans h1.symm)]
  exact h
 induction h with
 |any v=>exact .any v
 |raw v=>exact .raw v
 |bQ=>exact .bQ
 |empty a c h=>exact .empty a c h
 |slice b off n c cs xs h0 h1 h2 hb hM hcc hl2 _ ih=>exact .slice b off n c cs xs h0 h1 h2 (by omega) hM (fun i x hx=>key (hcc i x hx)) hl2 ih
 |bc b o' off cs xs hb hM hcc hl2 _ ih=>exact .bc b o' off cs xs (by omega) hM (fun i x hx=>key (hcc i x hx)) hl2 ih
 |agg cs xs hl2 _ ih=>exact .agg cs xs hl2 ih
 |tuple cs xs hl2 _ ih=>exact .tuple cs xs hl2 ih
 |func f cs xs hl2 _ ih=>exact .func f cs xs hl2 ih
 |ptr i off b hi h=>exact .ptr i off b hi h
 |own i hi v h hs=>exact .own i hi v h hs
set_option maxRecDepth 100000 in
set_option maxHeartbeats 8000000 in
theorem CC{xv pv:PV}[IsPure xv][IsPure pv]{e:Nat}{cT:Int}{p:List Int}
    (hin:∀(F0:Nat→Prop) (xb pb:Value) (W':World),(∀b,F0 b→b<W'.heap.size)→iw F0 W'→cK (EF F0) W' xb xv→cK (EF F0) W' pb pv→zn Tryz.prog 165 #[xb,pb] (GR F0 e cT p) W'):
    Can Tryz.prog 164 [.raw (.slice none 0 0),.func 165 [xv,pv]] (· = .slice 1 (eU e cT p)):=by
  intro F0 w vs hF gl hR
  refine(callsIn_wide (n:=4)).1 ?_
  refine callsIn_of_wp_marks Tryz.func164 I trivial ?_ rfl
  have hs0:=jb (N:=13) (Sat.start F0 w hF gl) hR (by have:=hR.1;simp at this;omega)
  have hc0:po w.heap.size 0 (EF F0) w (EF F0) w:=⟨rfl,dj.refl _ _,Below.refl _ _⟩
  refine wpIn_seq (piece (L:=0) (K:=fun s=>s=⟨[(1,.func 165 [xv,pv]),(2,.ptr 0 0)],[some (.cells 104 [.raw (.slice none 0 0)])]⟩) hc0 hs0 ?_ ?_)
  · skip
    refine bG<|b7 (fx (xs:=[_]) I I I) I<|av 1 I<|aG [1,2] I ?_
    exact rfl
  rintro _ E1 a1 w1 rfl hs1 g1 b1
  refine wpIn_seq (wpIn_seq (piece (L:=0) (K:=fun s=>s=⟨[(2,.ptr 0 0),(6,.func 165 [xv,pv])],[some (.cells 104 [.raw (.slice none 0 0)])]⟩) ⟨rfl,g1,b1⟩ hs1 ?_ ?_))
  · skip
    refine aC (.a 1 I<|.k [2,6] I) ?_
    exact rfl
  rintro _ E2 a2 w2 rfl hs2 g2 b2
  have hE2:Ext w w2:=b2
  have hF2:∀b,F0 b→b<w2.heap.size:=fun b hb=>Nat.lt_of_lt_of_le (hF b hb) hE2.size
  have hM2:∀b,E2.M b→b<w2.heap.size:=fun b hb=>hs2.sat.lt hb
  obtain⟨B,cs0,hB,hBb,hBh,hBr⟩:=hs2.sat.blk 0 _ rfl
  have h6:=(inferInstance:IsPure (.func 165 [xv,pv])).out _ E2.M _ _ (fun b hb=>hb) (hs2.tmp 6 _ rfl)
  have h2:a2.eval (.tmp 2)= .pointer (some ⟨B,0,none⟩):=by
    have:=hs2.tmp 2 _ rfl
    generalize a2.eval (.tmp 2)=z at this
    cases this with
    |ptr _ _ b' _ h=>
      rcases h with h|⟨n',c',h⟩<;>rw[hB]at h<;>cases h
      rfl
  have hBl:B<w2.heap.size:=(Array.getElem?_eq_some_iff.1 hBh).1
  obtain⟨c0,rfl⟩:∃c0,cs0= #[c0]:=by
    obtain⟨cl⟩:=cs0
    match cl,hBr.1 with
    | [c0],_=>exact⟨c0,rfl⟩
  have hd2:=hs2.j9
  have hz2:=hs2.size
  generalize hz48:a2.eval (.tmp 6)=z48 at h6
  cases h6 with
  |func _ cs _ hcl hcr=>
  obtain⟨cs⟩:=cs
  match cs,hcl,hcr with
  | [xb',pb'],_,hcr=>
  have hxb:=hcr 0 xb' _ rfl rfl
  have hpb:=hcr 1 pb' _ rfl rfl
  refine wpIn_block ?_
  refine lR hz48 (enters_of Tryz.func165 (by kernel_rfl) I) (GR.calm E2.M e cT p) (fun v A B h hE=>cK.ext hE h) (hin E2.M xb' pb' w2 hM2 hs2.sat.gl hxb hpb) (Below.refl _ _) I (fun Wb W3=>∃c,W3.heap[B]? =some (.cells #[c] 104 (0,0))∧cK (EF F0) W3 c (.slice 1 (eU e cT p))∧Below w.heap.size Wb W3) ?_ ?_
  · intro m l2 v W1 hl2 hloop hE1 hv
    obtain⟨rl,hrl⟩:=hloop
    have hpr:aL (eU e cT p):=by unfold eU;infer_instance
    have hor:dz (eU e cT p):=by unfold eU;infer_instance
    have h2t:=hs2.tmp.sub (t':=[(2,.ptr 0 0)]) (aY (ks:=[2]) I)
    obtain⟨arr2,ds2⟩:=a2
    simp only at hd2 hz2
    subst hd2
    have hvE:cK E2 W1 v (.agg (eU e cT p)):=cK.back hv
    have hsA:ee F0 w.heap.size 13 ⟨[(7,.agg (eU e cT p)),(2,.ptr 0 0)],[some (.cells 104 [.raw (.slice none 0 0)])]⟩ E2 ((⟨arr2,[]⟩:Act).put (some 7) v) W1:=
      ⟨hs2.sat.ext hE1,eF.put (fun k q hk=>(h2t k q hk).ext hE1) hvE (by simp[hz2]),rfl,by simp[Act.put,hz2]⟩
    rw[show({tmps:=(#[7].zip #[v]).foldl (fun t (p,v)=>t.setIfInBounds p v) arr2,defers:=[]}:Act)=(⟨arr2,[]⟩:Act).put (some 7) v from by simp[Act.put]]
    refine mY (m:=2) (L:=E2.L) (K:=fun s=>s=⟨[(2,.ptr 0 0),(5,.bc (eU e cT p) 0)],[some (.cells 104 [.raw (.slice none 0 0)]),none]⟩) I I hsA rfl (by
      refine av 2 I ?_
      refine Jf 1 (σ':=[some (.cells 104 [.raw (.slice none 0 0)]),none]) (t':=[(2,.ptr 0 0),(5,.bc (eU e cT p) 0)]) (blk:=.cells 107 (eU e cT p)) I ⟨rfl,rfl,fun j hj=>.inl (by match j,hj with|0,_=>rfl|1,h=>exact absurd rfl h|_+2,_=>rfl)⟩ (.cons 2 I (.same _)<|.cons 5 I (.ptr 0) .nil) ?_
      exact bn I) ?_
    rintro _ Ea a7 Wa rfl hsB gB bB
    have hEa:Ext W1 Wa:=by
      refine⟨bB.os,bB.tape,bB.output,bB.size,fun k hk=>?_⟩
      rcases Nat.lt_or_ge k w.heap.size with h|h
      · exact bB.block k h
      · by_cases hm:E2.M k
        · rcases (hsA.sat.mm k).1 hm with hf | ⟨i, blk, hi, hbk⟩
          · exact absurd (hF k hf) (by omega)
          · match i,hi with
            |0,hi=>
              cases hi
              rw[hB]at hbk
              cases hbk
              obtain⟨B1,c1,q1,_,q2,q3⟩:=hsA.sat.blk 0 _ rfl
              obtain⟨B2,c2,q4,_,q5,q6⟩:=hsB.sat.blk 0 _ rfl
              have e0:Ea.at_ 0=E2.at_ 0:=gB.at_ 0 (by rw[hsA.sat.len];simp)
              rw[hB]at q1
              rw[e0,hB]at q4
              cases q1
              cases q4
              rw[q2,q5]
              have:c1=c2:=by
                obtain⟨c1⟩:=c1
                obtain⟨c2⟩:=c2
                match c1,c2,q3,q6 with
                | [x1],[x2],q3,q6=>
                  have r1:=eo (q3.2 0 x1 _ rfl rfl)
                  have r2:=eo (q6.2 0 x2 _ rfl rfl)
                  rw[r1,r2]
              rw[this]
        · exact gB.heap k hk hm
    refine⟨hEa,fun Wb hlb hEb hzb hoth hvb=>?_⟩
    have hla:Wa.heap[l2]? =some (.loop rl):=(hEa.block _ (Array.getElem?_eq_some_iff.1 hrl).1).trans hrl
    have hsC:ee F0 w.heap.size 13 ⟨[(2,.ptr 0 0),(5,.bc (eU e cT p) 0)],[some (.cells 104 [.raw (.slice none 0 0)]),none]⟩ Ea a7 Wb:=
      ⟨hsB.sat.other hla hzb hoth,hsB.tmp.other hla hzb hoth,hsB.j9,hsB.size⟩
    refine wpIn_block ?_
    refine mY (m:=5) (L:=Ea.L) (K:=fun s=>s.σ=[some (.cells 104 [.own 3]),none,none,some (.row 107 3 1 (eU e cT p))]) I I hsC rfl (by
      refine av 2 I ?_
      refine bw (aU (xs:=eU e cT p) I (ba.sl.get I) ⟨Nat.le_of_ble_eq_true rfl,Nat.le_of_ble_eq_true rfl⟩ rfl rfl) I ?_
      refine Db 8 107 3 I ?_
      refine b7 (bg (e:=107) (s:=3) (by':=40) (i:=2) (m:=1) (n:=0) (xs:=[]) (ys:=eU e cT p) I (ba.rk.get I) I I I I ⟨by unfold maxLen;omega,by omega⟩) I ?_
      refine bb (cb I (ba.tk.get I) I I I (Nat.le_of_ble_eq_true rfl)) I I ?_
      exact bn I) ?_
    rintro⟨t8,σ8⟩ E8 a8 W3 hσ8 hs8 g8 b8
    simp only at hσ8
    subst hσ8
    have e0:E8.at_ 0= .pointer (some ⟨B,0,none⟩):=by
      rw[g8.at_ 0 (by rw[hsC.sat.len];simp),gB.at_ 0 (by rw[hsA.sat.len];simp),hB]
    obtain⟨B',cs8,q1,_,q2,q3⟩:=hs8.sat.blk 0 _ rfl
    rw[e0]at q1
    cases q1
    obtain⟨cl8⟩:=cs8
    match cl8,q3 with
    | [c8],q3=>
    have hown:=q3.2 0 c8 _ rfl rfl
    have hrep:cK (EF F0) W3 c8 (.slice 1 (eU e cT p)):=(ay.fr (i:=3) I (show af _ (eU e cT p) (eU e cT p) from af.pure)).rep hs8.sat (G:=F0) (fun b hb=>(hs8.sat.mm b).2 (.inl hb)) (fun b hb=>(hs8.sat.fb b hb).2) _ hown
    refine⟨⟨b8.size,fun k h1 h2=>g8.heap k h2 (fun hm=>?_)⟩,c8,q2,hrep,b8⟩
    rcases(hsC.sat.mm k).1 hm with hf|⟨i,blk,hi,hbk⟩
    · exact absurd (hF2 k hf) (by omega)
    · match i,hi with
      |0,hi=>
        rw[gB.at_ 0 (by rw[hsA.sat.len];simp),hB]at hbk
        cases hbk
        exact absurd (show w2.heap.size≤B from h1) (by omega)
      |1,hi=>cases hi
  · intro Wb W3 W' hEb hlt hle hrx hrest hD
    obtain⟨c,hc1,hc2,hc3⟩:=hrx
    have hcW:W'.heap[B]? =some (.cells #[c] 104 (0,0)):=hrest.cells _ _ hc1 rfl
    have hcell:W'.cell? ⟨B,0,none⟩=some c:=by simp[World.cell?,hcW]
    have hz2':a2.tmps.size=13:=hz2
    refine wpIn_seq (wpIn_region ?_)
    refine nd (.inl rfl) I I (fun c e=>by cases e) (A9 rfl (ba.tk.get I) (show Act.eval {a2 with defers:=_} (.tmp 2)=_ from h2) hcell) ?_
    refine nd (.inl rfl) I I (fun c e=>by cases e) (vN rfl) ?_
    refine wpIn_ret ?_
    show LeavesInM _ _ _ _ _ _ (_::a2.defers) _ _
    rw[hd2]
    refine⟨by simp,.inl ⟨_,_,rfl,run_takeDeferred hD,?_⟩⟩
    refine⟨c,?_,c,rfl,?_,_,rfl,?_⟩
    · refine(results_tmp rfl _ _ _).trans ?_
      congr 1
      refine(mS (k:=4) (a:=Act.put {a2 with defers:=_} (some 12) c) (v:=_) (by show 4<(a2.tmps.setIfInBounds 12 c).size;simp[hz2'])).trans ?_
      exact mS (k:=12) (a:= {a2 with defers:=_}) (by show 12<a2.tmps.size;omega)
    · have h1:=hEb
      have hs1:=hE2.size
      refine⟨hrest.os.trans (hc3.os.trans (hEb.os.trans hE2.os)),hrest.tape.trans (hc3.tape.trans (hEb.tape.trans hE2.tape)),hrest.output.trans (hc3.output.trans (hEb.output.trans hE2.output)),?_,fun k hk=>?_⟩
      · have:=hrest.size;simp only[World.putObj_size];omega
      · rw[World.putObj_heap_other (by omega),hrest.block k (by omega) (.inl (by omega)),hc3.block k hk,hEb.block k (by omega),hE2.block k hk]
    · have hr1:=cK.cells hrest.size hrest.cells hc2
      have hrp:eY.Rest 0 (w2.heap.size+1) W' (W'.putObj w2.heap.size (.deferred none)):=Rest.put hD rfl (Nat.zero_le _) (Nat.lt_succ_self _)
      exact cK.cells hrp.size hrp.cells hr1
theorem xW{xv pv:PV}[IsPure xv][IsPure pv]{e:Nat}{cT:Int}{p:List Int}
  (hin:∀(F0:Nat→Prop) (xb pb:Value) (W':World),(∀b,F0 b→b<W'.heap.size)→iw F0 W'→cK (EF F0) W' xb xv→cK (EF F0) W' pb pv→zn Tryz.prog 165 #[xb,pb] (GR F0 e cT p) W'):
  Can Tryz.prog 127 [.func 165 [xv,pv]] (· = .slice 1 (eU e cT p)):=by
 refine aI Tryz.func127 I Tryz.ntmps127 I ?_
 haveI:aL (eU e cT p):=by unfold eU;infer_instance
 exact ab (.a 1 I<|.k [0] I)<|ab (.a 1 I<|.c rfl (CC hin) I<|.a 1 I<|.k [2] I)<|ao<|⟨_,_,az.of I,ay.pure,rfl⟩
theorem sG(ys:List PV)[aL ys]:Can Tryz.prog 128 [.bc ys 0,.raw (.slice none 0 0)] (· = .func 165 [.bc [.bc ys 0] 0,.bc [au []] 0]):=by
 refine aI Tryz.func128 I Tryz.ntmps128 I<|aP<|b7 (fx (xs:=[_]) I I I) I<|b7 (fx (xs:=[_]) I I I) I<|av 1 I<|aG [2,3] I ?_
 exact ab (.a 2 I<|.k [4] I)<|ao<|⟨_,_,az.of I,ay.iR (af.cons (ay.ju (i:=0) (ys:=[.bc ys 0]) I (show af _ [.bc ys 0] [.bc ys 0] from af.pure))<|af.cons (ay.ju (i:=1) I (af.cons ay.bQ af.nil)) af.nil),rfl⟩
section
variable {T:an} {tb:Nat→de} {p0:dv} {Φ:Nat→Nat→List bU→Prop}
theorem Good.H3{v:PV}{n:Nat}{s:List bU}{c:Int}(h:Good T tb p0 Φ v n s c):∃ys,v= .bc ys 0∧aL ys:=by
 obtain⟨vs,cs,e1,e2,e3,e4,e5⟩:=h.parts
 haveI:aL vs:=⟨fun i x hx=>by
  have hlt:=(List.getElem?_eq_some_iff.1 hx).1
  have:=(e5 i (by rw[←e2];exact hlt)).pure
  rw[List.getD_eq_getElem?_getD,hx]at this
  exact this⟩
 exact⟨_,e1,by unfold dO;infer_instance⟩
theorem Gj(hL:Lone T tb p0 Φ):∀(u n:Nat) (s:List bU) (v:PV) (c:Int),Φ u n s→Good T tb p0 Φ v n s c→∃(p:List Int) (e:Nat) (cT:Int),Br T tb p0 n s p e cT∧cT= -1∧p.length≤u∧c=1∧
  ∀pre:List Int,pre.length+u≤1000→∀(F0:Nat→Prop) (xb pb:Value) (W₀:World),(∀b,F0 b→b<W₀.heap.size)→iw F0 W₀→cK (EF F0) W₀ xb (.bc [v] 0)→cK (EF F0) W₀ pb (.bc [au pre] 0)→zn Tryz.prog 165 #[xb,pb] (GR F0 e cT (pre++p)) W₀:=by
 intro u
 induction u using Nat.strongRecOn with
 |_ u ih=>
 intro n s v c hΦ hg
 obtain⟨vs,cs,rfl,e2,e3,e4,e5⟩:=hg.parts
 have hone:=hL.one hΦ
 cases ha:(bK T tb p0 n s).ax with
 |nil=>
  have hvs:vs=[]:=List.eq_nil_of_length_eq_zero (by rw[e2,ha];rfl)
  subst hvs
  have hc:c=1:=by rw[e4,ha];rfl
  refine⟨[],n,(bK T tb p0 n s).cT,.stop ha,hL.del hΦ ha,Nat.zero_le _,hc,fun pre hpl F0 xb pb W₀ hF gl hX hP=>?_⟩
  rw[List.append_nil]
  exact FZ ha (by omega) hF gl hX hP
 |cons a l=>
  have hl:l=[]:=by
   rw[ha]at hone
   exact List.eq_nil_of_length_eq_zero (by simp only[List.length_cons]at hone;omega)
  subst hl
  have hmem:a∈(bK T tb p0 n s).ax:=by rw[ha];exact List.mem_singleton.2 rfl
  have hstep:∃b m:Nat,a=(b:Int)∧b<2*T.ag.length∧aS T b=(m:Int)∧∃u',u'<u∧Φ u' m (bK T tb p0 n s).ev.stack:=by
   rcases hL.runs.step hΦ with h|⟨_,_,h⟩
   ·rw[ha]at h;cases h
   ·exact h a hmem
  obtain⟨b,m,hab,hb,hm,u',hu,hΦ'⟩:=hstep
  have h0:=e5 0 (by rw[ha];exact Nat.one_pos)
  rw[ha,List.getD_cons_zero,hab,Int.toNat_natCast,hm,Int.toNat_natCast]at h0
  match vs,cs,e2,e3,e4,h0 with
  | [],_,e2,_,_,_=>rw[ha]at e2;cases e2
  |_::_::_,_,e2,_,_,_=>rw[ha]at e2;simp at e2
  | [v1],[],_,e3,_,_=>rw[ha]at e3;cases e3
  | [v1],_::_::_,_,e3,_,_=>rw[ha]at e3;simp at e3
  | [v1],[c1],_,_,e4,h0=>
  rw[List.getD_cons_zero,List.getD_cons_zero]at h0
  obtain⟨ys,rfl,hys⟩:=h0.H3
  obtain⟨q,e,cT,i1,i2,i3,i4,i5⟩:=ih u' hu m _ _ _ hΦ' h0
  have hc:c=1:=by rw[e4,ha,i4];rfl
  refine⟨a::q,e,cT,.go hmem (by rw[hab,Int.toNat_natCast];exact hm) i1,i2,by simp only[List.length_cons];omega,hc,fun pre hpl F0 xb pb W₀ hF gl hX hP=>?_⟩
  exact Ge ha (by omega) hF gl hX hP (fun xb' pb' W' hF' gl' hx hp=>i5 (pre++[a]) (by simp only[List.length_append,List.length_singleton];omega) F0 xb' pb' W' hF' gl' hx hp)
set_option maxHeartbeats 4000000 in
theorem CW(hL:Lone T tb p0 Φ)(hv:aq T=true)(h12:T.nodes≤12){U:List (Nat×List bU)}(hU:∀ {u n s},Φ u n s→(n,s)∈U)(hUl:U.length≤1000000)(tbs:List de)(htl:(tbs.length:Int)=T.nodes)(htb:∀n:Nat,(n:Int)<T.nodes→tbs[n]? =some (tb n))
  (hok:∀n:Nat,(n:Int)<T.nodes→(tb n).node=(n:Int)∧cV T (tb n)=true) {u n:Nat} {p:dv} (hΦ:Φ u n p.stack) (hu:u≤1000) (hp:cP p p.stack=cP p0 p.stack):
  Can Tryz.prog 77 [aN T,eG tbs,dx p,num n] (fun r=>∃q e,Br T tb p0 n p.stack q e (-1)∧q.length≤u∧r= .tuple [.slice 1 (eU e (-1) q),num 0]):=by
 refine aI Tryz.func77 I Tryz.ntmps77 I<|ab (.a 4 I<|.k [1,3,4,6] I)<|aP<|av 4 I<|cM I I (bT.mono (bT.wS (rS hL.runs hv h12 hU hUl tbs htl htb hok hΦ hp)) (fun y σ' h=>?_))
 obtain⟨⟨v,c,L,rfl,hg,hLl,hall⟩,rfl⟩:=h
 refine av 7 I<|aG [10,12] I ?_
 obtain⟨q,e,cT,hbr,rfl,hql,hc1,honce⟩:=Gj hL u n p.stack v c hΦ hg
 obtain⟨ys,hys,hyp⟩:=hg.H3
 obtain⟨vs,cs,hvs,_,_,_,_⟩:=hg.parts
 have hon:=honce [] (by simp;omega)
 rw[List.nil_append]at hon
 subst hc1
 have hcol:Can Tryz.prog 127 [.func 165 [.bc [v] 0,.bc [au []] 0]] (· = .slice 1 (eU e (-1) q)):=by
  haveI:=hg.pure
  exact xW hon
 subst hvs
 cases hys
 refine aj<|ab (.a 2 I<|.k [10,12,23] I)<|ah I (fun hc=>?_) (fun hc=>?_)
 ·cases hc
 ·refine ai<|aj<|ab (.a 3 I<|.v (aJ I (rfl)) I<|.a 1 I<|.k [10,29] I)<|ah I (fun hc=>?_) (fun hc=>?_)
  ·cases hc
  ·refine ai<|ab (.a 1 I<|.c rfl (sG _) I<|.c rfl (hcol) I<|.a 2 I<|.k [8,9] I)<|ao ?_
   haveI:aL (eU e (-1) q):=by unfold eU;infer_instance
   exact⟨_,_,az.of I,ay.pure (p:=.tuple [.slice 1 (eU e (-1) q),num 0]),q,e,hbr,hql,rfl⟩
end
end
section
open Go.RowKit cE Mem Net eY
section
variable {T:an} {tb tb':Nat→de} {p0:dv} {Φ:Nat→Nat→List bU→Prop}
theorem yd(h:∀u n s,Φ u n s→tb' n=tb n){u n:Nat}{s:List bU}(hΦ:Φ u n s):bK T tb' p0 n s=bK T tb p0 n s:=by unfold bK;rw[h u n s hΦ]
theorem iX.congr(h:∀u n s,Φ u n s→tb' n=tb n)(R:iX T tb p0 Φ):iX T tb' p0 Φ where
 node:=R.node
 small:=R.small
 step:=fun hΦ=>by
  rw[yd h hΦ]
  exact R.step hΦ
theorem Br.congr(h:∀u n s,Φ u n s→tb' n=tb n)(R:iX T tb p0 Φ){n e:Nat}{s:List bU}{q:List Int}{w:Int}(hb:Br T tb' p0 n s q e w):∀ {u},Φ u n s→Br T tb p0 n s q e w:=by
 induction hb with
 | @stop n s h0=>
  intro u hΦ
  rw[h _ _ _ hΦ]at h0 ⊢
  exact .stop h0
 | @go n m e s a p w ha hm hr ih=>
  intro u hΦ
  rw[h _ _ _ hΦ]at ha hr ih
  rcases R.step hΦ with h1|⟨_,_,h3⟩
  ·have h1':(dq T (tb n) (cP p0 s)).ax=[]:=h1
   rw[h1']at ha
   cases ha
  ·obtain⟨b,m',rfl,_,g3,u',_,g5⟩:=h3 a ha
   have:m'=m:=by rw[Int.toNat_natCast]at hm;omega
   subst this
   exact .go ha hm (ih g5)
end
noncomputable def sB(T:an)(k x:Int)(l:List Int)(n:Nat):de:=Hl T k x n (fB l n)
theorem ED{T:an}{k x:Int}{l:List Int}{n:Nat}(h:¬Gn k x n):sB T k x l n=nF T (aE T k x) (fun n=>fB l n) n:=by
 unfold sB Hl nF
 rw[if_neg (by rw[nH.2 h];decide)]
theorem yU{T:an}(hv:aq T=true){n:Nat}(hn:(n:Int)<T.nodes):cV T (An T n)=true:=by
 unfold cV An
 have h1:bm T (n:Int)=true:=aT.2 ⟨by omega,hn⟩
 have hN:=(aO hv).nodes
 have h2:decide (((List.replicate T.nodes.toNat (⟨[],false,[]⟩:iS)).length:Int)=T.nodes)=true:=decide_eq_true (by rw[List.length_replicate];omega)
 have h3:eE T n (bN T n)=true:=so (l7 T n) fun _ ha=>jy.1 ha
 have h4:nu T n (List.replicate T.nodes.toNat (⟨[],false,[]⟩:iS))=true:=gT fun d e he=>by
  have:e=⟨[],false,[]⟩:=(List.mem_replicate.1 (List.mem_of_getElem? he)).2
  subst this
  unfold gh eE
  simp
 rw[hv,h1,h2,h3,h4]
 rfl
theorem yY{T:an}{k x:Int}{l:List Int}(hv:aq T=true)(h12:T.nodes≤12):∀n:Nat,(n:Int)<T.nodes→(sB T k x l n).node=(n:Int)∧cV T (sB T k x l n)=true:=fun n hn=>by
 unfold sB Hl
 split
 ·exact⟨rfl,yU hv hn⟩
 ·have ht:=oO (D:=aE T k x) (M:=aE T k x) hv h12 hn (dt T k x) (fun a h=>h) (fB l n)
  exact⟨ht.node,ht.ok⟩
theorem Af{T:an}{k x:Int}{l:List Int}{m n:Nat}(h:n<m):(oT T k x l m)[n]? =some (sB T k x l n):=by
 unfold oT sB
 rw[List.getElem?_map,List.getElem?_range h]
 rfl
def Kh(T:an)(k x:Int)(l:List Int)(s d:Int):Int:=if Bn T k x l=0 then(if(bm T s&&bm T d)=true then 0 else 2) else Bn T k x l
noncomputable def Jz(T:an)(k x:Int)(l:List Int):List de:=if Bn T k x l=0 then oT T k x l l.length else []
theorem B5(T:an)(k x:Int)(l:List Int)(s d:Int)(hl:l.length≤1000)(h12:T.nodes≤12):Can Tryz.prog 89 [aN T,cq k x,au l,num s,num d] (· = .tuple [eG (Jz T k x l),dx ⟨0,s,d,0,[],0⟩,num (Kh T k x l s d)]):=by
 obtain⟨e,he⟩:∃e,Bn T k x l=e:=⟨_,rfl⟩
 obtain⟨q0,hq0⟩:∃q,decide (e=0)=q:=⟨_,rfl⟩
 obtain⟨q1,hq1⟩:∃q,bm T s=q:=⟨_,rfl⟩
 obtain⟨q2,hq2⟩:∃q,bm T d=q:=⟨_,rfl⟩
 obtain⟨L,hL⟩:∃L,Jz T k x l=L:=⟨_,rfl⟩
 have ht:Can Tryz.prog 20 [aN T,cq k x,au l] (· = .tuple [eG L,num e]):=by
  have h:=tn T k x l hl h12
  unfold Ee at h
  rw[he]at h
  unfold Jz at hL
  rw[he]at hL
  rw[hL]at h
  exact h
 have hE:Kh T k x l s d=if q0=true then(if(q1&&q2)=true then 0 else 2) else e:=by
  unfold Kh
  rw[he,hq1,hq2,←hq0]
  simp
 rw[hE,hL]
 refine aI Tryz.func89 I Tryz.ntmps89 I<|aP<|av 5 I<|aG [2,3,4,5,6,11] I ?_
 refine ab (.a 3 I<|.c rfl (ht) I<|.a 5 I<|.k [3,4,5,11,13,14] I)<|aj<|bE 35 (.raw (.bool (q0&&(!q1 || !q2)))) [3,4,11,13,14] I ?_ ?_
 ·refine .a 1 I<|.v (cd I (hq0)) I<|.a 1 I<|?_
  cases q0
  ·exact .a 11 I<|.k [35,3,4,11,13,14] I
  ·refine .a 2 I<|.c rfl (hq1▸dF T s) I<|.a 2 I<|?_
   cases q1
   ·exact .a 6 I<|.k [35,3,4,11,13,14] I
   ·exact .a 2 I<|.c rfl (hq2▸dF T d) I<|.a 3 I<|.k [35,3,4,11,13,14] I
 refine ah I (fun hc=>?_) (fun hc=>?_)
 ·have hR:(if q0=true then(if(q1&&q2)=true then(0:Int) else 2) else e)=2:=by
   cases q0<;>cases q1<;>cases q2<;>simp_all
  refine aC (.a 1 I<|.k [3,4,11,13,14] I) ?_
  refine aP<|av 8 I<|aG [10,11,12] I ?_
  exact ao<|⟨_,_,az.of I,ay.aX (af.cons ay.pure<|af.cons (ay.hZ (af.cons ay.pure<|af.cons ay.pure<|af.cons ay.pure<|af.cons ay.pure<|af.cons ay.bQ<|af.cons ay.pure af.nil))<|af.cons ay.pure af.nil),by rw[hR];rfl⟩
 ·have hR:(if q0=true then(if(q1&&q2)=true then(0:Int) else 2) else e)=e:=by
   cases q0<;>cases q1<;>cases q2<;>simp_all
  refine ai<|aP<|av 8 I<|aG [10,11,12] I ?_
  exact ao<|⟨_,_,az.of I,ay.aX (af.cons ay.pure<|af.cons (ay.hZ (af.cons ay.pure<|af.cons ay.pure<|af.cons ay.pure<|af.cons ay.pure<|af.cons ay.bQ<|af.cons ay.pure af.nil))<|af.cons ay.pure af.nil),by rw[hR];rfl⟩
section
variable {T:an} {k x:Int} {l:List Int} {s d:Nat} {Φ:Nat→Nat→List bU→Prop}
theorem Hp(hl:l.length≤1000)(h12:T.nodes≤12)(hE:Bn T k x l=0)(hs:(s:Int)<T.nodes)(hd:(d:Int)<T.nodes):Can Tryz.prog 89 [aN T,cq k x,au l,num s,num d] (· = .tuple [eG (oT T k x l l.length),dx ⟨0,s,d,0,[],0⟩,num 0]):=by
 have h:=B5 T k x l s d hl h12
 have h1:Kh T k x l s d=0:=by
  unfold Kh
  rw[if_pos hE,if_pos (by rw[aT.2 ⟨by omega,hs⟩,aT.2 ⟨by omega,hd⟩];rfl)]
 have h2:Jz T k x l=oT T k x l l.length:=by unfold Jz;rw[if_pos hE]
 rw[h1,h2]at h
 exact h
theorem Ej(h:Bn T k x l=0):(aq T&&cp T k x)=true∧(l.length:Int)=T.nodes∧fS T k x l=true:=by
 unfold Bn at h
 split at h
 ·rename_i h1
  obtain⟨h2,h3⟩:=Bool.and_eq_true_iff.1 h1
  split at h
  ·rename_i h4
   exact⟨h2,of_decide_eq_true h3,h4⟩
  ·cases h
 ·cases h
theorem Cj(h12:T.nodes≤12)(hE:Bn T k x l=0)(hs:(s:Int)<T.nodes)(hd:(d:Int)<T.nodes)(hL:Lone T (sB T k x l) ⟨0,s,d,0,[],0⟩ Φ){U:List (Nat×List bU)}(hU:∀ {u n s},Φ u n s→(n,s)∈U)(hUl:U.length≤1000000){u:Nat}(hΦ:Φ u s [])(hu:u≤1000):
  Can Tryz.prog 33 [aN T,cq k x,au l,num s,num d] (fun r=>∃q e,Br T (sB T k x l) ⟨0,s,d,0,[],0⟩ s [] q e (-1)∧q.length≤u∧r= .tuple [au q,num 0]):=by
 obtain⟨hvc,hln,_⟩:=Ej hE
 have hv:=(Bool.and_eq_true_iff.1 hvc).1
 have hl:l.length≤1000:=by omega
 have hpr:=Hp (k:=k) (x:=x) hl h12 hE hs hd
 have htl:((oT T k x l l.length).length:Int)=T.nodes:=by rw[qo];exact hln
 have htb:∀n:Nat,(n:Int)<T.nodes→(oT T k x l l.length)[n]? =some (sB T k x l n):=fun n hn=>Af (by omega)
 have har:=vl hL.runs hL.del hv h12 hU hUl (oT T k x l l.length) htl htb (yY hv h12) (p:=⟨0,s,d,0,[],0⟩) hΦ rfl
 have hal:=CW hL hv h12 hU hUl (oT T k x l l.length) htl htb (yY hv h12) (p:=⟨0,s,d,0,[],0⟩) hΦ hu rfl
 obtain⟨L,hLL⟩:∃L,oT T k x l l.length=L:=⟨_,rfl⟩
 rw[hLL]at hpr har hal
 refine aI Tryz.func33 I Tryz.ntmps33 I<|ab (.a 4 I<|.k [2,3,4,5,6] I)<|aP<|av 5 I<|fe I (hpr) I<|av 8 I<|aG [3,5,12,13,14] I ?_
 refine aj<|ab (.a 2 I<|.k [3,5,12,13,14,28] I)<|ah I (fun hc=>?_) (fun hc=>?_)
 ·cases hc
 ·refine ai<|ab (.a 2 I<|.v (fG I (rfl) I) I<|.a 1 I<|.c rfl (har) I<|.a 5 I<|.k [3,5,12,13,14,15] I)<|aj<|ab (.a 2 I<|.k [3,5,12,13,14,15,39] I)<|ah I (fun hc=>?_) (fun hc=>?_)
  ·cases hc
  ·refine ai<|aj<|ab (.a 2 I<|.k [3,5,12,13,42] I)<|ah I (fun hc=>?_) (fun hc=>?_)
   ·cases hc
   ·refine ai<|aP<|av 4 I<|cM I I (bT.mono (bT.wS hal) (fun y σ' h=>?_))
    obtain⟨⟨q,e,hbr,hql,rfl⟩,rfl⟩:=h
    refine av 5 I<|aG [14,16] I ?_
    refine aj<|ab (.a 7 I<|.k [16,57] I)<|ah I (fun hc=>?_) (fun hc=>?_)
    ·cases hc
    ·exact ai<|ab (.a 1 I<|.v (aM _ rfl (hj:=rfl)) I<|.a 1 I<|.v (aJ I (rfl)) I<|.a 2 I<|.k [10,11] I)<|ao<|⟨_,_,az.of I,ay.pure (p:=.tuple [au q,num 0]),q,e,hbr,hql,rfl⟩
end
theorem Can.mono{P:Program}{f:FuncId}{ps:List PV}{R R':PV→Prop}(h:Can P f ps R)(hr:∀r,R r→R' r):Can P f ps R':=fun F w vs h1 h2 h3=>(h F w vs h1 h2 h3).mono fun _ _ ⟨v,he,hx,r,hR,hv⟩=>⟨v,he,hx,r,hr r hR,hv⟩
section
variable {T:an} {tb:Nat→de} {p0:dv}
theorem zJ{n m e:Nat}{s s':List bU}{a:Int}{q:List Int}{w:Int}(ho:dq T (tb n) (cP p0 s)=cA (cP p0 s) s' [a])(hm:aS T a.toNat=(m:Int))(h:Br T tb p0 n s q e w):∃q',q=a::q'∧Br T tb p0 m s' q' e w:=by
 cases h with
 |stop h0=>rw[ho]at h0;cases h0
 | @go _ m' _ _ a' p _ ha hm' hr=>
  rw[ho]at ha hr
  have ha:a'∈[a]:=ha
  rw[List.mem_singleton]at ha
  subst ha
  have:m'=m:=by rw[hm']at hm;omega
  subst this
  exact⟨p,rfl,hr⟩
theorem Gu{n e:Nat}{s:List bU}{q:List Int}{w:Int}(ho:(dq T (tb n) (cP p0 s)).ax=[])(h:Br T tb p0 n s q e w):q=[]:=by
 cases h with
 |stop _=>rfl
 |go ha _ _=>rw[ho]at ha;cases ha
end
def kr:List Int:=[1,1,0,0]
def nn:dv:=⟨0,0,1,0,[],0⟩
theorem B7:qW cZ uM 1=Co.zV cZ uM 1:=Co.Eo ld mF (by kernel_rfl)
theorem HN:sB cZ 1 0 kr 0=Io:=En
theorem Hg:sB cZ 1 0 kr 1=Co.zV cZ uM 1:=B7
theorem HI:sB cZ 1 0 kr 2=Co.u5 cZ [] 2:=Co.Fp ld mF 2
theorem F6:sB cZ 1 0 kr 3=Iw:=DD
theorem qp:bK cZ (sB cZ 1 0 kr) nn 0 []=cA (cP nn []) [⟨1,3⟩,⟨1,2⟩,⟨1,1⟩] [7]:=by
 unfold bK;rw[HN];kernel_rfl
theorem qy:bK cZ (sB cZ 1 0 kr) nn 3 [⟨1,3⟩,⟨1,2⟩,⟨1,1⟩]=cA (cP nn [⟨1,3⟩,⟨1,2⟩,⟨1,1⟩]) [⟨1,2⟩,⟨1,1⟩] [5]:=by
 unfold bK;rw[F6];kernel_rfl
theorem qA:bK cZ (sB cZ 1 0 kr) nn 2 [⟨1,2⟩,⟨1,1⟩]=cA (cP nn [⟨1,2⟩,⟨1,1⟩]) [⟨1,1⟩] [3]:=by
 unfold bK;rw[HI];kernel_rfl
theorem qF:(bK cZ (sB cZ 1 0 kr) nn 1 [⟨1,1⟩]).ax=[]∧(bK cZ (sB cZ 1 0 kr) nn 1 [⟨1,1⟩]).cT= -1:=by
 unfold bK;rw[Hg];exact⟨by kernel_rfl,by kernel_rfl⟩
def Fo(u n:Nat)(s:List bU):Prop:=(u=3∧n=0∧s=[])∨(u=2∧n=3∧s=[⟨1,3⟩,⟨1,2⟩,⟨1,1⟩])∨(u=1∧n=2∧s=[⟨1,2⟩,⟨1,1⟩])∨(u=0∧n=1∧s=[⟨1,1⟩])
theorem Ci:Lone cZ (sB cZ 1 0 kr) nn Fo:=by
 refine⟨⟨?_,?_,?_⟩,?_,?_⟩
 ·rintro u n s (⟨_,rfl,_⟩|⟨_,rfl,_⟩|⟨_,rfl,_⟩|⟨_,rfl,_⟩)<;>decide
 ·rintro u n s (⟨_,_,rfl⟩|⟨_,_,rfl⟩|⟨_,_,rfl⟩|⟨_,_,rfl⟩)<;>exact⟨by unfold gW;decide,by decide⟩
 ·rintro u n s (⟨rfl,rfl,rfl⟩|⟨rfl,rfl,rfl⟩|⟨rfl,rfl,rfl⟩|⟨rfl,rfl,rfl⟩)
  ·rw[qp]
   exact .inr ⟨by simp[cA],rfl,fun a ha=>by
    have ha:a∈[(7:Int)]:=ha
    rw[List.mem_singleton]at ha
    subst ha
    exact⟨7,3,rfl,by decide,by kernel_rfl,2,by omega,.inr (.inl ⟨rfl,rfl,rfl⟩)⟩⟩
  ·rw[qy]
   exact .inr ⟨by simp[cA],rfl,fun a ha=>by
    have ha:a∈[(5:Int)]:=ha
    rw[List.mem_singleton]at ha
    subst ha
    exact⟨5,2,rfl,by decide,by kernel_rfl,1,by omega,.inr (.inr (.inl ⟨rfl,rfl,rfl⟩))⟩⟩
  ·rw[qA]
   exact .inr ⟨by simp[cA],rfl,fun a ha=>by
    have ha:a∈[(3:Int)]:=ha
    rw[List.mem_singleton]at ha
    subst ha
    exact⟨3,1,rfl,by decide,by kernel_rfl,0,by omega,.inr (.inr (.inr ⟨rfl,rfl,rfl⟩))⟩⟩
  ·exact .inl qF.1
 ·rintro u n s (⟨_,rfl,rfl⟩|⟨_,rfl,rfl⟩|⟨_,rfl,rfl⟩|⟨_,rfl,rfl⟩)
  ·rw[qp];simp[cA]
  ·rw[qy];simp[cA]
  ·rw[qA];simp[cA]
  ·rw[qF.1];simp
 ·rintro u n s (⟨_,rfl,rfl⟩|⟨_,rfl,rfl⟩|⟨_,rfl,rfl⟩|⟨_,rfl,rfl⟩) ha
  ·rw[qp]at ha;cases ha
  ·rw[qy]at ha;cases ha
  ·rw[qA]at ha;cases ha
  ·exact qF.2
theorem D0{q:List Int}{e:Nat}{w:Int}(h:Br cZ (sB cZ 1 0 kr) nn 0 [] q e w):q=[7,5,3]:=by
 obtain⟨q1,rfl,h1⟩:=zJ (m:=3) qp (by kernel_rfl) h
 obtain⟨q2,rfl,h2⟩:=zJ (m:=2) qy (by kernel_rfl) h1
 obtain⟨q3,rfl,h3⟩:=zJ (m:=1) qA (by kernel_rfl) h2
 rw[Gu qF.1 h3]
theorem CD:Can Tryz.prog 33 [aN cZ,cq 1 0,au kr,num 0,num 1] (· = .tuple [au [7,5,3],num 0]):=by
 have h:=Cj (T:=cZ) (k:=1) (x:=0) (l:=kr) (s:=0) (d:=1) (Φ:=Fo) (by decide) (by kernel_rfl) (by decide) (by decide) Ci (U:=[(0,[]),(3,[⟨1,3⟩,⟨1,2⟩,⟨1,1⟩]),(2,[⟨1,2⟩,⟨1,1⟩]),(1,[⟨1,1⟩])])
  (by rintro u n s (⟨_,rfl,rfl⟩|⟨_,rfl,rfl⟩|⟨_,rfl,rfl⟩|⟨_,rfl,rfl⟩)<;>simp) (by decide) (u:=3) (.inl ⟨rfl,rfl,rfl⟩) (by decide)
 exact Can.mono h fun r ⟨q,e,hb,_,hr⟩=>by rw[D0 hb]at hr;exact hr
theorem iV:Can Tryz.prog 78 [] (· =aN cZ):=by
 refine aI Tryz.func78 I Tryz.ntmps78 I<|aP<|av 1 I<|aG [0] I ?_
 refine aP<|av 3 I<|aG [0,1] I ?_
 refine cw 1 2 127 7 I I ?_
 refine aj<|ab (.a 1 I<|.k [0,1,4] I)<|aw<|eS [0,1,4] I<|bu (fun r s=>∃k,k≤4∧r=4 - k∧s=⟨[(0,.ptr 0 0),(1,.ptr 1 0),(4,num k)],[some (.cells 25 [num 0,.raw (.slice none 0 0),.raw (.slice none 0 0)]),some (.cells 25 [num 4,.raw (.slice none 0 0),.own 2]),some (.row 127 7 k (iA (tC k)))]⟩) 4 ⟨0,by omega,by omega,rfl⟩ ?_
 rintro r s ⟨k,hk,rfl,rfl⟩
 refine ab (.a 1 I<|.k [0,1,4,5] I)<|aj<|ah I (fun hc=>?_) (fun hc=>?_)
 ·have hlt:k<4:=by have:=of_decide_eq_true hc;omega
  refine ai<|aj<|aw<|ab (.a 2 I<|.k [0,1,2,4] I)<|bG<|av 4 I<|bw (aV I) I<|bw (tP I I I (by decide) ((show((k:Int)+1).tmod 4=(((k+1) % 4:Nat):Int) by rw[Int.tmod_eq_emod_of_nonneg (by omega)];omega))) I<|bw (DG I (show Tryz.prog.built 125 [(0,.int .i64 1),(1,.int .i64 1)]=some #[.int .i64 1,.int .i64 1] by kernel_rfl)) I<|av 2 I<|b7 (bg I (ba.rk.get I) I I I I (by unfold maxLen;omega)) I<|av 2 I ?_
  refine eP [0,1,3] (.c 0<|.c 1<|.c 4<|.nil) (.kept rfl (.cells (aH.c<|aH.c<|aH.c<|aH.nil))<|.kept rfl (.cells (aH.c<|aH.c<|aH.c<|aH.nil))<|.kept rfl (.fF rfl (show _=iA (tC (k+1)) by rw[zx];exact yT _ ⟨(k:Int),(((k+1) % 4:Nat):Int),1,1,0,1,0⟩))<|.nil) I I (bn ?_)
  refine aC (.v (aV I) I<|.a 1 I<|.k [0,1,4] I) ?_
  exact⟨4 - (k+1),by omega,k+1,by omega,rfl,rfl⟩
 ·have hke:k=4:=by have:=of_decide_eq_false hc;omega
  subst hke
  refine bh<|aP<|av 2 I<|aG [0] I ?_
  exact ao<|⟨_,_,az.of I,ay.hZ (af.cons ay.pure<|af.cons ay.bQ<|af.cons (ay.fr rfl af.pure) af.nil),rfl⟩
def oq(c:ya):Bool:=tooBig c.T||decide ((40:Int)<c.S.length)
theorem w7{c:ya}(h:oq c=false):c.T.nodes≤12∧c.T.ag.length≤16∧c.S.length≤40:=by
 unfold oq at h
 obtain⟨h1,h2⟩:=Bool.or_eq_false_iff.1 h
 have:=G8 h1
 have:=of_decide_eq_false h2
 omega
theorem pY(c:ya):Can Tryz.prog 24 [rq c] (· =flag (oq c)):=by
 obtain⟨q1,h1⟩:∃q,decide ((10:Int)<c.T.nodes)=q:=⟨_,rfl⟩
 obtain⟨q2,h2⟩:∃q,decide ((16:Int)<c.T.ag.length)=q:=⟨_,rfl⟩
 obtain⟨q3,h3⟩:∃q,decide ((40:Int)<c.S.length)=q:=⟨_,rfl⟩
 have he:oq c=((q1||q2)||q3):=by unfold oq tooBig;rw[h1,h2,h3]
 rw[he]
 refine aI Tryz.func24 I Tryz.ntmps24 I<|ab (.a 2 I<|.k [1] I)<|bE 2 (.raw (.bool ((q1||q2)||q3))) [] I ?_ ?_
 ·refine .a 3 I<|.v (cd I (h1)) I<|.a 1 I<|?_
  cases q1
  ·refine .a 4 I<|.v (cd I (h2)) I<|.a 2 I<|?_
   cases q2
   ·exact .a 3 I<|.v (cd I (h3)) I<|.a 2 I<|.k [2] I
   ·exact .a 6 I<|.k [2] I
  ·exact .a 13 I<|.k [2] I
 exact ao<|⟨_,_,az.of I,ay.pure,rfl⟩
theorem GM:Can Tryz.prog 25 [aN cZ,cq 1 0,au [2,2,3,2]] (· =flag true):=by
 have h:=nc cZ 1 0 [2,2,3,2] (by decide)
 rw[show fS cZ 1 0 [2,2,3,2]=true by kernel_rfl]at h
 exact h
theorem HD:Can Tryz.prog 25 [aN cZ,cq 1 0,au [0,1,0,0]] (· =flag false):=by
 have h:=nc cZ 1 0 [0,1,0,0] (by decide)
 rw[show fS cZ 1 0 [0,1,0,0]=false by kernel_rfl]at h
 exact h
theorem Hu:Can Tryz.prog 25 [aN cZ,cq 1 0,au [1,1,3,2]] (· =flag false):=by
 have h:=nc cZ 1 0 [1,1,3,2] (by decide)
 rw[show fS cZ 1 0 [1,1,3,2]=false by kernel_rfl]at h
 exact h
theorem jK:Can Tryz.prog 23 [] (· =flag true):=by
 refine aI Tryz.func23 I Tryz.ntmps23 I<|ab (.a 1 I<|.k [] I)<|aP<|av 3 I<|aG [1] I ?_
 refine fN 1 0 0 I I ?_
 refine dI [] (.cons 1 I (Ren.pure (p:=.bc (cG 1 0) 0)) .nil) .nil rfl rfl ?_
 refine ef mixed (by kernel_rfl) (.v [] (dX I (iV)) I I<|.a 2 I<|.v [6,7,8] (dX I (CD)) I I<|.a 5 I<|.k [1,2,3] I) ?_
 refine iM mixed (by kernel_rfl) 0 (.raw (.bool (true))) [] I ?_ ?_
 ·exact .a 5 I<|.v [15,16] (dX I (Bu [7,5,3])) I I<|.a 2 I<|.v [] (dX I (iV)) I I<|.a 2 I<|.v [20,21,22] (dX I (GM)) I I<|.a 2 I<|.v [] (dX I (iV)) I I<|.a 2 I<|.v [26,27,28] (dX I (HD)) I I<|.a 3 I<|.v [] (dX I (iV)) I I<|.a 2 I<|.v [33,34,35] (dX I (Hu)) I I<|.a 3 I<|.k [0] I
 exact ao<|⟨_,_,az.of I,ay.pure (p:=flag true),rfl⟩
theorem ky(k x n:Int):Can Tryz.prog 81 [cq k x,num n] (· =flag (pg k x n)):=by
 obtain⟨q1,hq1⟩:∃q,decide (k=2)=q:=⟨_,rfl⟩
 obtain⟨q2,hq2⟩:∃q,decide (x=n)=q:=⟨_,rfl⟩
 unfold pg
 rw[hq1,hq2]
 refine aI Tryz.func81 I Tryz.ntmps81 I<|ab (.a 2 I<|.k [1,2] I)<|bE 4 (.raw (.bool (q1&&q2))) [] I ?_ ?_
 ·refine .a 2 I<|.v (cd I (hq1)) I<|.a 1 I<|?_
  cases q1
  ·exact .a 6 I<|.k [4] I
  ·exact .a 3 I<|.v (cd I (hq2)) I<|.a 2 I<|.k [4] I
 exact ao<|⟨_,_,az.of I,ay.pure,rfl⟩
theorem HE(T:an)(k x:Int)(n:Nat):decide (((cQ (aE T k x) (bN T n)).length:Int)>0)=qh T k x n:=by
 unfold qh
 cases h:(List.range (2*T.ag.length)).any fun a=>aQ (aE T k x) a&&decide (br T a=(n:Int))with
 |true=>
  obtain⟨a,h1,h2⟩:=List.any_eq_true.1 h
  obtain⟨h3,h4⟩:=Bool.and_eq_true_iff.1 h2
  have h1:=List.mem_range.1 h1
  have hm:(a:Int)∈cQ (aE T k x) (bN T n):=by
   refine List.mem_filter.2 ⟨jy.2 ⟨by rw[cD];omega,by rw[Int.toNat_natCast];exact of_decide_eq_true h4⟩,by rw[Int.toNat_natCast];exact h3⟩
  have:=List.length_pos_of_mem hm
  exact decide_eq_true (by omega)
 |false=>
  refine decide_eq_false fun hp=>?_
  obtain⟨a,ha⟩:=List.exists_mem_of_length_pos (show 0<(cQ (aE T k x) (bN T n)).length by omega)
  obtain⟨h1,h2⟩:=List.mem_filter.1 ha
  obtain⟨h3,h4⟩:=jy.1 h1
  obtain⟨h5,h6⟩:=cD.1 h3
  have:=List.any_eq_false.1 h a.toNat (List.mem_range.2 (by omega))
  rw[h2,decide_eq_true h4]at this
  exact this rfl
theorem BR(T:an)(k x:Int)(n:Nat)(hvc:(aq T&&cp T k x)=true):Can Tryz.prog 64 [aN T,cq k x,num n] (· =flag (!pg k x n&&qh T k x n)):=by
 obtain⟨g,hg⟩:∃g,pg k x n=g:=⟨_,rfl⟩
 obtain⟨c,hc'⟩:∃c,qh T k x n=c:=⟨_,rfl⟩
 have hcd:=(HE T k x n).trans hc'
 rw[hg,hc']
 refine aI Tryz.func64 I Tryz.ntmps64 I<|ab (.a 3 I<|.k [2,3,4] I)<|ab (.a 3 I<|.c rfl (BH T k x n hvc) I<|.a 5 I<|.k [2,4,7] I)<|bE 6 (.raw (.bool (!g &&c))) [] I ?_ ?_
 ·refine .a 2 I<|.c rfl (hg▸ky k x n) I<|.a 2 I<|?_
  cases g
  ·exact .a 2 I<|.v (cd I (hcd)) I<|.a 2 I<|.k [6] I
  ·exact .a 5 I<|.k [6] I
 exact ao<|⟨_,_,az.of I,ay.pure,rfl⟩
set_option maxHeartbeats 4000000 in
theorem Cu(T:an)(k x:Int)(l:List Int)(hl:l.length≤1000):Can Tryz.prog 26 [aN T,cq k x,au l] (· =flag (fS T k x l)):=by
  obtain⟨q1,hq1⟩:∃q,(aq T&&cp T k x)=q:=⟨_,rfl⟩
  obtain⟨q2,hq2⟩:∃q,decide ((l.length:Int)≠T.nodes)=q:=⟨_,rfl⟩
  refine aI Tryz.func26 I Tryz.ntmps26 I<|ab (.a 3 I<|.k [2,3,4] I)<|aj<|bE 21 (.raw (.bool (!q1 ||q2))) [2,3,4] I ?_ ?_
  · refine .a 2 I<|.c rfl (hq1▸oc T k x) I<|.a 2 I<|?_
    cases q1
    · exact .a 6 I<|.k [21,2,3,4] I
    · exact .a 3 I<|.v (aJ I (rfl)) I<|.v (cd I (hq2)) I<|.a 1 I<|.k [21,2,3,4] I
  refine ah I (fun hc=>?_) (fun hc=>?_)
  · have hno:fS T k x l=false:=by
      unfold fS
      rw[hq1,if_neg]
      intro h
      obtain⟨h1,h2⟩:=Bool.and_eq_true_iff.1 h
      rw[h1,←hq2]at hc
      have h2:=of_decide_eq_true h2
      simp[h2]at hc
    exact ab (.a 1 I<|.k [6] I)<|ao<|⟨_,_,az.of I,ay.pure,by rw[hno];rfl⟩
  · obtain ⟨h1, rfl⟩ := Bool.or_eq_false_iff.1 hc
    have h1:q1=true:=by simpa using h1
    subst h1
    have hln:(l.length:Int)=T.nodes:=by have:=ff hq2;simpa using this
    have hP:fS T k x l=(dU k x (fun n=>qD (fB l n)) l.length&&(dU k x (fun n=>sN (qh T k x n) (fB l n)) l.length||dU k x (fun n=>nL (fB l n)) l.length)):=by
      unfold fS
      rw[if_pos (by rw[hq1,decide_eq_true hln];rfl)]
    refine ai<|ab (.a 2 I<|.k [2,3,4,7,8] I)<|aj<|ab (.a 1 I<|.k [2,3,4,7,8,9] I)<|aw<|eS [2,3,4,7,8,9] I<|bu (fun r st=>∃i,i≤l.length∧dU k x (fun n=>qD (fB l n)) i=true∧r=l.length - i∧st=⟨[(2,au l),(3,.bc (bC T) 0),(4,.bc (cG k x) 0),(7,flag (dU k x (fun n=>sN (qh T k x n) (fB l n)) i)),(8,flag (dU k x (fun n=>nL (fB l n)) i)),(9,num i)],[]⟩) l.length ⟨0,by omega,rfl,by omega,rfl⟩ ?_
    rintro r st ⟨i,hi,hO0,rfl,rfl⟩
    have hE:=gY k x (fun n=>sN (qh T k x n) (fB l n)) i
    have hL:=gY k x (fun n=>nL (fB l n)) i
    have hO:=gY k x (fun n=>qD (fB l n)) i
    obtain⟨eb,heb⟩:∃b,dU k x (fun n=>sN (qh T k x n) (fB l n)) i=b:=⟨_,rfl⟩
    obtain⟨lb,hlb⟩:∃b,dU k x (fun n=>nL (fB l n)) i=b:=⟨_,rfl⟩
    rw[heb]at hE ⊢
    rw[hlb]at hL ⊢
    rw[hO0]at hO
    refine aj<|ab (.a 4 I<|.k [2,3,4,7,8,9,25] I)<|ah I (fun hc=>?_) (fun hc=>?_)
    · have hlt:i<l.length:=by have:=tt hc;omega
      obtain⟨g,hg⟩:∃g,pg k x i=g:=⟨_,rfl⟩
      obtain⟨c,hcb⟩:∃c,qh T k x i=c:=⟨_,rfl⟩
      obtain⟨s,hs⟩:∃s,fB l i=s:=⟨_,rfl⟩
      have hsl:l.getD i 0=s:=hs
      simp only[hg,hcb,hs]at hE hL hO
      refine ai<|aj<|aw<|ab (.a 2 I<|.v (aM (i) I) I<|.v (aJ I ((aB l i hlt).trans (by rw[hsl]))) I<|.a 1 I<|.k [2,3,4,7,8,9,10] I)<|aj<|ab (.a 2 I<|.c rfl (hg▸ky k x i) I<|.k [2,3,4,7,8,9,10,34] I)<|ah I (fun hc=>?_) (fun hc=>?_)
      · rw[hc,Bool.true_or,Bool.and_true]at hE hL hO
        refine lB (aY (ks:=[2,3,4,7,8,9]) I) ?_
        refine bh<|aC (.a 1 I<|.v (aV I) I<|.a 1 I<|.k [2,3,4,7,8,9] I) ?_
        exact⟨l.length - (i+1),by omega,i+1,by omega,hO,rfl,by rw[hE,hL];rfl⟩
      · have hg0:pg k x i=false:=hg.trans hc
        rw[hc,Bool.false_or]at hE hL hO
        have hco:=BR T k x i hq1
        rw[hg0,hcb,Bool.not_false,Bool.true_and]at hco
        obtain⟨p0,hp0⟩:∃q,decide (s<0)=q:=⟨_,rfl⟩
        obtain⟨p4,hp4⟩:∃q,decide (s>3)=q:=⟨_,rfl⟩
        obtain⟨n0,hn0⟩:∃q,decide (s≠0)=q:=⟨_,rfl⟩
        obtain⟨n1,hn1⟩:∃q,decide (s≠1)=q:=⟨_,rfl⟩
        obtain⟨n3,hn3⟩:∃q,decide (s≠3)=q:=⟨_,rfl⟩
        obtain⟨e2,he2⟩:∃q,decide (s=2)=q:=⟨_,rfl⟩
        obtain⟨e3,he3⟩:∃q,decide (s=3)=q:=⟨_,rfl⟩
        have hok:qD s=(!p0 && !p4):=by
          unfold qD
          rw[←hp0,←hp4]
          by_cases h1:0≤s<;>by_cases h2:s≤3<;>simp[h1,h2]<;>omega
        have her:sN c s=(n3&&(n0|| !c)&&(n1||c)):=by
          unfold sN
          rw[←hn3,←hn0,←hn1]
          simp
        have hla:nL s=(e2||e3):=by unfold nL;rw[he2,he3]
        rw[her]at hE
        rw[hla]at hL
        rw[hok]at hO
        refine ai<|aj<|bE 40 (.raw (.bool (p0||p4))) [2,3,4,7,8,9,10] I ?_ ?_
        · refine .a 1 I<|.v (cd I (hp0)) I<|.a 1 I<|?_
          cases p0
          · exact .a 1 I<|.v (cd I (hp4)) I<|.a 1 I<|.k [40,2,3,4,7,8,9,10] I
          · exact .a 3 I<|.k [40,2,3,4,7,8,9,10] I
        refine ah I (fun hc=>?_) (fun hc=>?_)
        · have hbad:dU k x (fun n=>qD (fB l n)) l.length=false:=by
            refine qU hlt hg0 ?_
            show qD (fB l i)=false
            rw[hs,hok]
            cases p0<;>cases p4<;>simp_all
          exact ab (.a 1 I<|.k [6] I)<|ao<|⟨_,_,az.of I,ay.pure,by rw[hP,hbad];rfl⟩
        · have hO1:dU k x (fun n=>qD (fB l n)) (i+1)=true:=by
            rw[hO]
            cases p0<;>cases p4<;>simp_all
          clear hO
          have hO:=hO1
          refine ai<|bE 7 (.raw (.bool (eb&&(n3&&(n0|| !c)&&(n1||c))))) [2,3,4,8,9,10] I ?_ ?_
          · refine .a 2 I<|?_
            cases eb
            · exact .a 25 I<|.k [7,2,3,4,8,9,10] I
            · refine .a 1 I<|.v (cd I (hn3)) I<|.a 2 I<|?_
              cases n3
              · exact .a 21 I<|.k [7,2,3,4,8,9,10] I
              · refine .a 1 I<|.v (cd I (hn0)) I<|.a 1 I<|?_
                cases n0
                · refine .a 3 I<|.c rfl (hco) I<|.a 4 I<|?_
                  cases c
                  · refine .a 1 I<|.v (cd I (hn1)) I<|.a 1 I<|?_
                    cases n1
                    · exact .a 3 I<|.c rfl (hco) I<|.a 3 I<|.k [7,2,3,4,8,9,10] I
                    · exact .a 7 I<|.k [7,2,3,4,8,9,10] I
                  · exact .a 10 I<|.k [7,2,3,4,8,9,10] I
                · refine .a 9 I<|.v (cd I (hn1)) I<|.a 1 I<|?_
                  cases n1
                  · exact .a 3 I<|.c rfl (hco) I<|.a 3 I<|.k [7,2,3,4,8,9,10] I
                  · exact .a 7 I<|.k [7,2,3,4,8,9,10] I
          refine rz 8 (.raw (.bool (lb&&(e2||e3)))) [2,3,4,7,9] I ?_ ?_
          · refine .a 2 I<|?_
            cases lb
            · exact .a 8 I<|.k [8,2,3,4,7,9] I
            · refine .a 1 I<|.v (cd I (he2)) I<|.a 1 I<|?_
              cases e2
              · exact .a 1 I<|.v (cd I (he3)) I<|.a 3 I<|.k [8,2,3,4,7,9] I
              · exact .a 5 I<|.k [8,2,3,4,7,9] I
          refine aC (.a 1 I<|.v (aV I) I<|.a 1 I<|.k [2,3,4,7,8,9] I) ?_
          exact⟨l.length - (i+1),by omega,i+1,by omega,hO,rfl,by rw[hE,hL];rfl⟩
    · have hie:i=l.length:=by have:=ff hc;omega
      subst hie
      refine bh<|bE 6 (.raw (.bool (eb||lb))) [] I ?_ ?_
      · refine .a 2 I<|?_
        cases eb
        · exact .a 3 I<|.k [6] I
        · exact .a 3 I<|.k [6] I
      exact ao<|⟨_,_,az.of I,ay.pure,by rw[hP,hO0,heb,hlb];rfl⟩
end
end PW
end Go.Proofs.YtnegbdpggideiaaGreatDoor
