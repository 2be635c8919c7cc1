/- Texts of the proof, part 12. -/
import Derived.Test.YteikppbedmmdnaaGreatDoorCardWIB11
set_option linter.unusedVariables false
set_option linter.unusedSimpArgs false
set_option maxRecDepth 10000
set_option maxHeartbeats 1000000
namespace Go.Proofs.YteikppbedmmdnaaGreatDoor
namespace PW
section
open Go.RowKit cj Mem
theorem pL{w w':World}{l:Nat}{r:Loop}(hl:w.heap[l]? =some (.loop r))(ho:∀k,k≠l→w'.heap[k]? =w.heap[k]?){a:Addr}{x:Value}(h:w.cell? a=some x):w'.cell? a=some x:=by
 have hne:a.block≠l:=fun e=>by
  unfold World.cell? at h
  rw[e,hl]at h
  simp at h
 rw[mF (ho _ hne)]
 exact h
theorem cu.other{E:Env}{w w':World}{l:Nat}{r:Loop}(hl:w.heap[l]? =some (.loop r))(hz:w'.heap.size=w.heap.size)(ho:∀k,k≠l→w'.heap[k]? =w.heap[k]?){v:Value}{p:PV}(h:cu E w v p):cu E w' v p:=by
 induction h with
 |any v=>exact .any v
 |raw v=>exact .raw v
 |cc=>exact .cc
 |empty a c h=>exact .empty a c h
 |slice b off n c cs xs h0 h1 h2 hb hM hc hl2 _ ih=>exact .slice b off n c cs xs h0 h1 h2 (by omega) hM (fun i x hx=>pL hl ho (hc i x hx)) hl2 ih
 |bg b o' off cs xs hb hM hc hl2 _ ih=>exact .bg b o' off cs xs (by omega) hM (fun i x hx=>pL hl ho (hc i x hx)) hl2 ih
 |agg cs xs hl2 _ ih=>exact .agg cs xs hl2 ih
 |tuple cs xs hl2 _ ih=>exact .tuple cs xs hl2 ih
 |func f cs xs hl2 _ ih=>exact .func f cs xs hl2 ih
 |ptr i off b hi h=>exact .ptr i off b hi h
 |own i hi v h hs=>exact .own i hi v h hs
 |bound f cs xs hl2 _ ih=>exact .bound f cs xs hl2 ih
theorem iC.other{F:Nat→Prop}{w w':World}{l:Nat}{r:Loop}(hl:w.heap[l]? =some (.loop r))(ho:∀k,k≠l→w'.heap[k]? =w.heap[k]?)(h:iC F w):iC F w':=fun g cs hg=>by
 obtain⟨h1,t,fz,h2⟩:=h g cs hg
 have hne:g≠l:=fun e=>by rw[e,hl]at h2;cases h2
 exact⟨h1,t,fz,by rw[ho g hne];exact h2⟩
section
variable {P:Program} {ops:Array Oper} {n:Nat}
theorem EZ{lp:Nat}{o:Oper}{a:Act}{w:World}{K K':Act→World→Prop}{Q Q':Exit→Act→World→Prop}(hnd:∀c,o.op≠ .defer c)(hK:∀a w,K a w→K' a w)(hp:∀c a w,Q (.panic c) a w→Q' (.panic c) a w)(hL:¬LetsOut Q)(h:o.wp P a w K Q):o.wpIn (Fence.wide.inRound lp) n P a w K' Q':=by
 refine⟨fun _ _=>trivial,?_⟩
 rw[Fence.inRound_round,Oper.semAt_eq _ _ _ hnd]
 unfold Oper.wp at h
 generalize (execOp a.eval o).run P w=x at*
 cases x with
 |ok x w'=>
  cases x<;>simp only[Oper.uponIn,Oper.upon]at h ⊢
  case value v=>exact hK _ _ h
  case skip=>exact hK _ _ h
  case defer d=>exact hK _ _ h
  case enter f args=>exact⟨fun h=>by simp[Fence.wide]at h,CallsIn.inRound lp (callsIn_wide.2 (h.mono fun e w'' he=>by cases e<;>first|exact hK _ _ he|exact hp _ _ _ he|exact(hL he).elim))⟩
  case row r args=>exact⟨fun h=>by simp[Fence.wide]at h,fun c cs _=>by
   obtain⟨v,w',r,s⟩:=h c cs
   exact⟨v,w',hK _ _ r,stepsIn_wide.2 s⟩⟩
  all_goals exact h.elim
 |halt x w'=>cases x<;>simp only[Oper.uponIn,Oper.upon]at h ⊢ <;>first|exact hp _ _ _ h|exact h
def Ep(lp n:Nat)(P:Program)(ops:Array Oper)(Q:Exit→Act→World→Prop)(js:List Nat):Exit→Act→World→Prop
 | .normal,a,w=>wpOpsIn (Fence.wide.inRound lp) n P ops Q js a w
 |_,_,_=>False
theorem tD{lp:Nat}{Q:Exit→Act→World→Prop}{js:List Nat}:¬LetsOut (Ep lp n P ops Q js):=fun⟨_,_,h⟩=>h
theorem AU{lp m:Nat}{Q:Exit→Act→World→Prop}{js:List Nat}(hm:m≤ops.size)(hg:∀(i:Nat) o,i<m→ops[i]? =some o→o.guard=none∧∀c,o.op≠ .defer c):∀(is:List Nat) (a:Act) (w:World),(∀i∈is,i<m)→wpOps P (ops.extract 0 m) (Ep lp n P ops Q js) is a w→wpOpsIn (Fence.wide.inRound lp) n P ops Q (is++js) a w
 | [],a,w,_,h=>h
 |i::is,a,w,hi,h=>by
  have him:=hi i (by simp)
  have hget:(ops.extract 0 m)[i]? =ops[i]? :=by rw[Array.getElem?_extract];simp;omega
  rw[wpOps_cons]at h
  rw[List.cons_append,wpOpsIn_cons]
  unfold wpOp at h
  unfold wpOpIn
  rw[hget]at h
  have ho:ops[i]? =some ops[i]:=Array.getElem?_eq_getElem (by omega)
  rw[ho]at h ⊢
  simp only at h ⊢
  obtain⟨h1,h2⟩:=hg i _ him ho
  have hw:∀x,Region.wanted ops[i] x=true:=fun x=>by unfold Region.wanted;rw[h1]
  rw[if_pos (hw _)]at h ⊢
  rcases h with h|⟨_,h⟩
  ·exact EZ h2 (fun a' w' h=>AU hm hg is a' w' (fun j hj=>hi j (by simp[hj])) h) (fun _ _ _ h=>h.elim) tD h
  ·exact absurd h tD
theorem mA{lp m id N L:Nat}{l:List Oper}{st:St}{F:Nat→Prop}{base:Nat}{E:Env}{a:Act}{w:World}{Q:Exit→Act→World→Prop}(hm:Nat.ble m l.length=true)(hg:((l.take m).all fun o=>o.guard.isNone&& !uB o.op)=true){K:St→Prop}(hs:cY F base N st E a w)(hL:E.L=L)
  (h:WR P N L (l.take m).toArray (l.take m) st K) (hk:∀s E' a' w',K s→cY F base N s E' a' w'→cp E w E' w'→Below base w w'→wpOpsIn (Fence.wide.inRound lp) n P l.toArray Q (List.range' m (l.length - m)) a' w'):(Code.region id l.toArray false).wpIn (Fence.wide.inRound lp) n P Q a w:=by
 have hmle:m≤l.length:=Nat.ble_eq.mp hm
 have hlt:(l.take m).length=m:=by simp;omega
 refine wpIn_region ?_
 have hr:List.range l.toArray.size=List.range' 0 m++List.range' m (l.length - m):=by
  have h:= @List.range'_append_1 0 m (l.length - m)
  rw[Nat.zero_add,show m+(l.length - m)=l.length by omega]at h
  rw[List.range_eq_range',List.size_toArray]
  exact h.symm
 rw[hr]
 refine AU (m:=m) (by simpa using hmle) (fun i o hi ho=>?_) _ a w (fun i hi=>by simp at hi;omega) ?_
 ·have hmem:o∈l.take m:=by
   have:(l.take m)[i]? =some o:=by rw[List.getElem?_take,if_pos hi];simpa using ho
   exact List.mem_of_getElem? this
  have:=List.all_eq_true.1 hg o hmem
  simp only[Bool.and_eq_true,Option.isNone_iff_eq_none,Bool.not_eq_true']at this
  exact⟨this.1,fun c e=>by rw[e]at this;exact absurd this.2 (by simp[uB])⟩
 ·have he:l.toArray.extract 0 m=(l.take m).toArray:=by simp
  rw[he]
  have:=h F base E w E a w ⟨hL,cp.refl _ _,Below.refl _ _⟩ hs (Ep lp n P l.toArray Q (List.range' m (l.length - m))) 0 (fun a' w' ⟨s,E',h1,h2,h3,h4⟩=>hk s E' a' w' h1 h2 h3 h4) (fun j=>by simp)
  rw[hlt]at this
  exact this
theorem mh{F:Fence}(hF:F=Fence.wide∨∃lp,F=Fence.wide.inRound lp){i:Nat}{is:List Nat}{o:Oper}{a:Act}{w:World}{v:Value}{Q:Exit→Act→World→Prop}(ho:ops[i]? =some o)(hg:o.guard=none)(hnd:∀c,o.op≠ .defer c)(hr:(execOp a.eval o).run P w= .ok (.value v) w)(h:wpOpsIn F n P ops Q is (a.put o.dst v) w):wpOpsIn F n P ops Q (i::is) a w:=by
 rw[wpOpsIn_cons]
 unfold wpOpIn
 rw[ho]
 simp only
 rw[if_pos (by unfold Region.wanted;rw[hg])]
 have hsem:o.semAt F.round a.eval=execOp a.eval o:=by
  rcases hF with rfl|⟨lp,rfl⟩
  ·exact Oper.semAt_none _ _
  ·rw[Fence.inRound_round,Oper.semAt_eq _ _ _ hnd]
 refine⟨fun _ _=>?_,?_⟩
 ·rcases hF with rfl|⟨lp,rfl⟩<;>trivial
 ·rw[hsem,hr]
  exact h
theorem B8{lp:Nat}{i l:Nat}{is:List Nat}{o:Oper}{a:Act}{w:World}{Q:Exit→Act→World→Prop}{x y:Operand}{ats:Array TypeId}{R:Ending→World→Prop}(ho:ops[i]? =some o)(hg:o.guard=none)(hop:o.op= .call {callee:=.value x,args:= #[y],argTypes:=ats})
  (hx:a.eval x= .func (.yield l) #[] #[]) (hy:YieldAt Fence.wide (n - 1) P l #[a.eval y] w R) (hR:∀e w',R e w'→∃v,e= .returned v∧wpOpsIn (Fence.wide.inRound lp) n P ops Q is (a.put o.dst v) w'):wpOpsIn (Fence.wide.inRound lp) n P ops Q (i::is) a w:=by
 obtain⟨fn,tmps,assign,body,h1,h2⟩:=hy
 rw[wpOpsIn_cons]
 unfold wpOpIn
 rw[ho]
 simp only
 rw[if_pos (by unfold Region.wanted;rw[hg])]
 refine⟨fun _ _=>trivial,?_⟩
 rw[Fence.inRound_round,Oper.semAt_eq _ _ _ (fun c e=>by rw[hop]at e;cases e)]
 have hr:(execOp a.eval o).run P w= .ok (.round l fn tmps assign body) w:=by
  simp[execOp,hop,resolve,hx,Deferred.ofValue,invoke,h1]
 rw[hr]
 refine⟨fun h=>by simp[Fence.wide]at h,RoundIn.mono h2 fun e w' he=>?_⟩
 obtain⟨v,rfl,hq⟩:=hR e w' he
 exact hq
theorem EE{o:Oper}{a:Act}{w:World}{x:Operand}{ty:TypeId}{q:Bool}(ho:o.op= .unOp .not ty x)(hx:a.eval x= .bool q):(execOp a.eval o).run P w= .ok (.value (.bool (!q))) w:=by
 simp only[execOp,ho,hx,Op.unary,Sem.run_bind,Sem.run_pure,Result.andThen_ok]
theorem B1{o:Oper}{a:Act}{w:World}{x:Operand}{ty:TypeId}{b:Nat}{c:Value}(ho:o.op= .load ty x)(hk:sa P ty=some none)(hx:a.eval x= .pointer (some ⟨b,0,none⟩))(hc:w.cell? ⟨b,0,none⟩=some c):(execOp a.eval o).run P w= .ok (.value c) w:=by
 have h:=jH (P:=P) hk hc
 simp only[execOp,ho,hx,Sem.run_bind,h,Result.andThen_ok,Sem.run_pure]
theorem xC{o:Oper}{a:Act}{w:World}{x:Operand}(ho:o.op= .assign x):(execOp a.eval o).run P w= .ok (.value (a.eval x)) w:=by
 simp only[execOp,ho,Sem.run_pure]
theorem Sat.other{F:Nat→Prop}{base:Nat}{σ:bN}{E:Env}{w w':World}{l:Nat}{r:Loop}(hl:w.heap[l]? =some (.loop r))(hz:w'.heap.size=w.heap.size)(ho:∀k,k≠l→w'.heap[k]? =w.heap[k]?)(h:Sat F base σ E w):Sat F base σ E w':=by
 have hne:∀ {k:Nat} {o:Obj},w.heap[k]? =some o→(∀r,o≠ .loop r)→k≠l:=fun {k o} hk hr e=>by subst e;rw[hl]at hk;cases hk;exact hr _ rfl
 have hL:∀ {cs:List Value} {xs:List PV},aV E w cs xs→aV E w' cs xs:=fun hr=>⟨hr.1,fun i x u k1 k2=>(hr.2 i x u k1 k2).other hl hz ho⟩
 refine⟨by rw[hz];exact h.bl,fun b hb=>⟨by rw[hz];exact(h.fb b hb).1,(h.fb b hb).2⟩,h.len,h.mm,fun i blk hi=>?_,h.inj,h.gl.other hl ho⟩
 have hb:=h.blk i blk hi
 generalize E.at_ i=v at hb
 cases blk with
 |cells t xs=>
  obtain⟨b',cs,rfl,h1,h2,h3⟩:=hb
  exact⟨b',cs,rfl,h1,(ho b' (hne h2 (fun r e=>by cases e))).trans h2,hL h3⟩
 |row e size n xs=>
  obtain⟨cs,h1,h2⟩:=hb
  refine⟨cs,⟨h1.1,?_⟩,hL h2⟩
  rcases h1.2 with h|⟨g',cap,cur,rfl,k1,k2,k3⟩
  ·exact .inl h
  ·exact .inr ⟨g',cap,cur,rfl,k1,(ho g' (hne k2 (fun r e=>by cases e))).trans k2,k3⟩
 |mp kv=>
  obtain⟨r',es,ck,rfl,h1,h2,h3,h4⟩:=hb
  exact⟨r',es,ck,rfl,h1,(ho r' (hne h2 (fun r e=>by cases e))).trans h2,h3,hL h4⟩
theorem cG.other{E:Env}{w w':World}{l:Nat}{r:Loop}(hl:w.heap[l]? =some (.loop r))(hz:w'.heap.size=w.heap.size)(ho:∀k,k≠l→w'.heap[k]? =w.heap[k]?){ρ:Operand→Value}{t:b9}(h:cG E w ρ t):cG E w' ρ t:=fun k p hk=>(h k p hk).other hl hz ho
theorem B0{o:Oper}{a:Act}{w:World}{x:Operand}(ho:o.op= .move x):(execOp a.eval o).run P w= .ok (.value (a.eval x)) w:=by
 simp only[execOp,ho,Sem.run_pure]
theorem xw{o:Oper}{a:Act}{w:World}{op:BinOp}{x y:Operand}{ty tz:TypeId}{c b:Int}{v:Value}(ho:o.op= .binOp op ty x y tz)(hx:a.eval x= .int .i64 c)(hy:a.eval y= .int .i64 b)(hv:(binOp op ty (.int .i64 c) (.int .i64 b)).run P w= .ok v w):(execOp a.eval o).run P w= .ok (.value v) w:=by
 have hg:(eqGuard op ty x y (.int .i64 c) (.int .i64 b)).run P w= .ok () w:=by unfold eqGuard;split<;>rfl
 simp only[execOp,ho,hx,hy,Sem.run_bind,Sem.run_pure,Result.andThen_ok,hg,hv]
end
open Go.Shelf Net eX
theorem yf(l:List Int)(hl:l.length≤1000):aW Tryz.prog 35 [aw l] [] (fun r σ'=>r= .own 0∧σ'=[some (.row 3 1 l.length (aL l))]):=by
 refine bO Tryz.func35 I Tryz.ntmps35 I<|af (.a 1 I<|.k [0] I)<|an<|aR (WR.mono (K:=fun s=>∃b:Bool,s=⟨[(0,aw l),(4,.raw (.bool b))],[]⟩∧(b=true→l=[])) ?_ ?_)
 ·cases l with
  |nil=>exact ax 1 rfl<|vC rfl Kr rfl rfl rfl rfl rfl fun b=>aH [0,4] rfl ⟨b,rfl,fun _=>rfl⟩
  |cons a l=>exact ax 1 rfl<|bA (je rfl Kr rfl rfl (Nat.succ_pos _)) rfl rfl rfl<|aH [0,4] rfl ⟨_,rfl,fun h=>by cases h⟩
 rintro _ ⟨b,rfl,hb⟩
 refine aj I (fun hc=>?_) (fun hc=>?_)
 ·have:l=[]:=hb hc
  subst this
  refine af (.a 1 I<|.k [2] I)<|fM 2 3 1 I ?_
  exact az<|⟨_,aE.of I,rfl,rfl⟩
 ·refine ak<|aR<|cg (fu I (bG.sl.get I)) I<|ax 1 I<|cg (bC I (bG.rk.get I) I I I (show(aL l).length=l.length*1 by simp[aL]) (by unfold maxLen;omega)) I<|ax 1 I<|aH [2] I ?_
  refine cJ [1] (.cons 2 I (Ren.own (i:=0) I) .nil) (.kept rfl (.row ao.pure) .nil) I I ?_
  exact az<|⟨_,aE.of I,rfl,by rw[Nat.zero_add];rfl⟩
theorem xy(l:List Int)(hl:l.length≤1000)(σ:bN):aW Tryz.prog 35 [aw l] σ (fun r σ'=>r= .own σ.length∧σ'=σ++[some (.row 3 1 l.length (aL l))]):=by
 refine aW.frame (aW.mono (yf l hl) ?_)
 rintro r σ' ⟨rfl,rfl⟩
 exact⟨[.row 3 1 l.length (aL l)],rfl,_,_,Up.own rfl,iI.cons (.row jQ.pure) iI.nil,by simp,rfl⟩
theorem vg(ys:List PV)(L:List Int):aW Tryz.prog 42 [.bg ys 0,.own 1] [none,some (.row 3 1 L.length (aL L))] (fun r σ'=>r= .func 70 [.ptr 2 0,.ptr 3 0]∧σ'=[none,some (.row 3 1 L.length (aL L)),some (.cells 92 [.bg ys 0]),some (.cells 43 [.own 1])]):=by
 refine bO Tryz.func42 I Tryz.ntmps42 I<|aR<|cg (eV (xs:=[_]) I I I) I<|cg (eV (xs:=[_]) I I I) I<|ax 1 I<|aH [2,3] I ?_
 exact af (.a 2 I<|.k [4] I)<|az<|⟨_,aE.of I,rfl,rfl⟩
noncomputable def yt(k:Nat):Code→Option Code
 | .region i ops d=>if i=k then some (.region i ops d) else none
 | .seq x y=>(yt k x).orElse fun _=>yt k y
 | .cond _ x y=>(yt k x).orElse fun _=>yt k y
 | .block _ x=>yt k x
 | .loop x=>yt k x
 |_=>none
noncomputable def J6(f:Func):Code:=f.body.getD .skip
noncomputable def KS:Code:=(yt 6 (J6 Tryz.f70)).getD .skip
attribute [local go_sem] Oper.semAt_some
def ey(e:Nat)(jZ:Int)(path:List Int):List PV:=[num e,num jZ,aw path]
theorem sJ(e:Nat)(jZ:Int)(path:List Int):IsPure (.agg (ey e jZ path)):=by unfold ey;infer_instance
theorem Bh{P:Program}{ops:Array Oper}{n i l:Nat}{o:Oper}{a:Act}{w:World}{Q:Exit→Act→World→Prop}{x y:Operand}{ats:Array TypeId}{R:Ending→World→Prop}(ho:ops[i]? =some o)(hg:o.guard=none)(hop:o.op= .call {callee:=.value x,args:= #[y],argTypes:=ats})
  (hx:a.eval x= .func (.yield l) #[] #[]) (hy:YieldAt Fence.wide (n - 1) P l #[a.eval y] w R) (hR:∀e w',R e w'→∃v,e= .returned v∧Q .normal (a.put o.dst v) w'):wpOpsIn Fence.wide n P ops Q [i] a w:=by
 obtain⟨fn,tmps,assign,body,h1,h2⟩:=hy
 rw[wpOpsIn_cons]
 unfold wpOpIn
 rw[ho]
 simp only
 rw[if_pos (by unfold Region.wanted;rw[hg])]
 refine⟨fun _ _=>trivial,?_⟩
 rw[show Fence.wide.round=none from rfl,Oper.semAt_none]
 have hr:(execOp a.eval o).run P w= .ok (.round l fn tmps assign body) w:=by
  simp[execOp,hop,resolve,hx,Deferred.ofValue,invoke,h1]
 rw[hr]
 refine⟨fun h=>by simp[Fence.wide]at h,h2.mono fun e w' he=>?_⟩
 obtain⟨v,rfl,hq⟩:=hR e w' he
 exact hq
section
variable {T:ah} {tb:Nat→eN} {p0:gg} {Φ:Nat→Nat→List cr→Prop}
end
attribute [local go_sem] Oper.semAt_some
theorem cG.one{E:Env}{w:World}{ρ:Operand→Value}{k:Nat}{p:PV}{t:b9}(h:cu E w (ρ (.tmp k)) p)(ht:cG E w ρ t):cG E w ρ ((k,p)::t):=ht.G2 h
theorem cG.FR{E:Env}{w:World}{ρ:Operand→Value}:cG E w ρ []:=fun k p h=>by cases h
theorem kK{a:Act}{k:Nat}{v:Value}(h:k<a.tmps.size):(a.put (some k) v).eval (.tmp k)=v:=by
 show(a.tmps.setIfInBounds k v).getD k undef=v
 simp[h]
theorem qJ{a:Act}{k j:Nat}{v:Value}(h:j≠k):(a.put (some k) v).eval (.tmp j)=a.eval (.tmp j):=by
 show(a.tmps.setIfInBounds k v).getD j undef=a.tmps.getD j undef
 simp[Array.getD_eq_getD_getElem?,Array.getElem?_setIfInBounds_ne (Ne.symm h)]
end
end PW
end Go.Proofs.YteikppbedmmdnaaGreatDoor
namespace Go.Proofs.YteikppbedmmdnaaGreatDoor
namespace eX
section
open Go.RowKit Go.Shelf cj
structure qU (O:Nat→Prop) (A B:World):Prop where
 os:B.os=A.os
 tape:B.tape=A.tape
 output:B.output=A.output
 size:A.heap.size≤B.heap.size
 block:∀b,b<A.heap.size→¬O b→B.heap[b]? =A.heap[b]?
 cells:∀(b:Nat) (o:Obj),A.heap[b]? =some o→o.isCells=true→B.heap[b]? =some o
theorem qU.ext{O:Nat→Prop}{A B:World}(h:Ext A B):qU O A B:=⟨h.os,h.tape,h.output,h.size,fun b hb _=>h.block b hb,fun b o hb _=>(h.block b (Array.getElem?_eq_some_iff.1 hb).1).trans hb⟩
def Fs(O:Nat→Prop)(A B:World)(O':Nat→Prop):Prop:=∀b,O' b↔O b∨(A.heap.size≤b∧b<B.heap.size)
theorem qU.trans{O O':Nat→Prop}{A B C:World}(h:qU O A B)(k:qU O' B C)(hO:Fs O A B O'):qU O A C:=
 ⟨k.os.trans h.os,k.tape.trans h.tape,k.output.trans h.output,Nat.le_trans h.size k.size,fun b hb hn=>(k.block b (Nat.lt_of_lt_of_le hb h.size) (fun e=>((hO b).1 e).elim hn (fun e=>by omega))).trans (h.block b hb hn),fun b o hb hc=>k.cells b o (h.cells b o hb hc) hc⟩
def Kept(F0:Nat→Prop)(s:Nat)(O:Nat→Prop)(b:Nat):Prop:=O b∨(b<s∧¬F0 b)
structure EW (F0:Nat→Prop) (s:Nat) (O:Nat→Prop) (A B:World):Prop where
 size:A.heap.size≤B.heap.size
 block:∀b,b<A.heap.size→Kept F0 s O b→B.heap[b]? =A.heap[b]?
def u7(P:Program)(g:Nat)(lb:Array Value)(K:Nat)(G:Nat→(Nat→Prop)→Nat→Value→World→Prop)(F0:Nat→Prop)(W:World):Prop:=
 ∀(n l:Nat) (J:Nat→(Nat→Prop)→World→Prop),
  (∀k O A O' A',J k O A→(∀b,O b→W.heap.size≤b∧b<A.heap.size)→W.heap.size≤A.heap.size→qU O A A'→Fs O A A' O'→J k O' A')→
  (∀m k v O A,k<K→J k O A→(∀b,O b→W.heap.size≤b∧b<A.heap.size)→W.heap.size≤A.heap.size→G k O W.heap.size v A→
   YieldAt Fence.wide m P l #[v] A fun e B=>e= .returned (.bool true)∧J (k+1) O B∧EW F0 W.heap.size O A B)→
  J 0 (fun _=>False) W→
  CallsIn Fence.wide n P g (#[.func (.yield l) #[] #[]]++lb) W fun e W'=>(∃v,e= .returned v)∧∃O,J K O W'∧(∀b,O b→W.heap.size≤b∧b<W'.heap.size)∧W.heap.size≤W'.heap.size
theorem lX{P:Program}{n:Nat}{g:Operand}{ps:Array Tmp}{assign body:Code}{Q:Exit→Act→World→Prop}{a:Act}{w:World}
  {gf:Nat} {lb:Array Value} (hg:a.eval g= .func (.func gf) #[] lb) (eg:∀args w,(callFunc gf args).run P w= .ok (.enter gf args) w)
  {K:Nat} {G:Nat→(Nat→Prop)→Nat→Value→World→Prop} {F0:Nat→Prop} (hF0:∀b,F0 b→b<w.heap.size) (Kf:∀W,Ext w W→u7 P gf lb K G F0 W) (hps:ps.size=1)
  (I:Nat→(Nat→Prop)→World→Prop)
  (hI:∀k O A O' A',I k O A→(∀b,O b→w.heap.size+2≤b∧b<A.heap.size)→w.heap.size+2≤A.heap.size→qU O A A'→Fs O A A' O'→I k O' A')
  (hIl:∀k O A l r o,l=w.heap.size+1→I k O A→A.heap[l]? =some (.loop r)→I k O (A.putObj l (.loop o)))
  (hI0:∀W1,Ext w W1→W1.heap.size=w.heap.size+2→I 0 (fun _=>False) W1)
  (hround:∀m l k v O (A:World),l=w.heap.size+1→(∃r,A.heap[l]? =some (.loop r))→k<K→I k O A→(∀b,O b→w.heap.size+2≤b∧b<A.heap.size)→w.heap.size+2≤A.heap.size→G k O (w.heap.size+2) v A→
   assign.wpIn (Fence.wide.inRound l) m P (Exit.then (fun a₁ Wa=>EW F0 (w.heap.size+2) O A Wa∧∀Wb o,Wb=Wa.putObj l (.loop o)→
    body.wpIn (Fence.wide.inRound l) m P (Exit.then (fun _ W3=>I (k+1) O W3∧EW F0 (w.heap.size+2) O Wb W3) (fun _ _ _=>False)) a₁ Wb) (fun _ _ _=>False))
    {tmps:=(ps.zip #[v]).foldl (fun t (p,v)=>t.setIfInBounds p v) a.tmps,defers:=[]} A)
  (hdone:∀O (W':World),I K O W'→(∀b,O b→w.heap.size+2≤b∧b<W'.heap.size)→w.heap.size+2≤W'.heap.size→W'.heap[w.heap.size]? =some (.deferred (some []))→Q .normal {a with defers:= {target:=.collected w.heap.size,args:= #[]}::a.defers} W'):
  (Code.rangeFunc g ps assign body).wpIn Fence.wide n P Q a w:=by
 refine wpIn_rangeFunc ?_
 intro fn hfn
 obtain⟨rec,hrec⟩:∃rec:LoopState→Option Code→Loop,rec=fun st pe=> {state:=st,pending:=pe,fn,tmps:=a.tmps,params:=ps,assign,body,defers:=w.heap.size}:=⟨_,rfl⟩
 obtain⟨W1,hW1⟩:∃W1,(w.alloc (.deferred (some []))).alloc (.loop (rec .ready none))=W1:=⟨_,rfl⟩
 have hL1:W1.heap[w.heap.size+1]? =some (.loop (rec .ready none)):=by
  rw[←hW1];have:=World.alloc_heap_new (w.alloc (.deferred (some []))) (.loop (rec .ready none));rwa [World.size_alloc]at this
 have hK1:W1.heap[w.heap.size]? =some (.deferred (some [])):=by
  rw[←hW1];exact(Below.heap_alloc _ _ _ (by simp)).trans (World.alloc_heap_new w _)
 have hz1:W1.heap.size=w.heap.size+2:=by rw[←hW1];simp
 have hE1:Ext w W1:=by rw[←hW1];exact((Ext.refl w).alloc _).alloc _
 refine⟨w.heap.size+1,[{target:=.collected w.heap.size,args:= #[]}],W1,{target:=.fn (.func gf) lb,args:= #[.func (.yield (w.heap.size+1)) #[] #[]]},W1,gf,
  #[.func (.yield (w.heap.size+1)) #[] #[]]++lb,W1,?_,?_,?_,?_,fun h=>by simp[Fence.wide]at h,?_⟩
 ·rw[←hW1,hrec];exact run_enterLoop_outer _ _ _ _ _
 ·simp only[resolve,hg]
  simp[go_sem]
 ·intro f' _;trivial
 ·simp[invoke,go_sem,eg]
 ·have hm:=Kf W1 hE1
  unfold u7 at hm
  rw[hz1]at hm
  refine(hm (n - 1) (w.heap.size+1) (fun k O A=>I k O A∧A.heap[w.heap.size+1]? =some (.loop (rec .ready none))∧A.heap[w.heap.size]? =some (.deferred (some []))) ?_ ?_ ⟨hI0 W1 hE1 hz1,hL1,hK1⟩).mono ?_
  ·rintro k O A O' A' ⟨h1,h2,h3⟩ hO hs hA hM
   exact⟨hI k O A O' A' h1 hO hs hA hM,(hA.block _ (by omega) (fun e=>by have:=(hO _ e).1;omega)).trans h2,(hA.block _ (by omega) (fun e=>by have:=(hO _ e).1;omega)).trans h3⟩
  ·
   rintro m k v O W2 hk ⟨hi,hl,hd⟩ hO hs hv
   have hlt:w.heap.size+1<W2.heap.size:=(Array.getElem?_eq_some_iff.1 hl).1
   have hy:=run_yield (P:=P) (args:= #[v]) hl (by rw[hrec];exact hps.symm)
   rw[hrec]at hy
   refine⟨fn,_,assign,body,hy,roundIn_of_wpIn hfn (wpIn_mono (hround m _ k v O W2 rfl ⟨_,hl⟩ hk hi hO hs hv) ?_)⟩
   rintro e a1 Wa he
   cases e with
   |normal=>
    obtain⟨hEa,hb⟩:=he
    have nF:∀b,w.heap.size≤b→¬F0 b:=fun b h1 h2=>by have:=hF0 b h2;omega
    have hla:Wa.heap[w.heap.size+1]? =some (.loop (rec .ready none)):=(hEa.block _ hlt (.inr ⟨by omega,nF _ (by omega)⟩)).trans hl
    have hlta:w.heap.size+1<Wa.heap.size:=(Array.getElem?_eq_some_iff.1 hla).1
    have hza:=hEa.size
    refine⟨_,run_beginRound hla (by rw[hrec]),?_⟩
    obtain⟨Wb,hWb⟩:∃Wb,Wb=Wa.putObj (w.heap.size+1) (.loop {rec .ready none with state:=.busy}):=⟨_,rfl⟩
    have hl2:Wb.heap[w.heap.size+1]? =some (.loop {rec .ready none with state:=.busy}):=by rw[hWb];exact World.putObj_heap_same hlta
    have hzb:Wb.heap.size=Wa.heap.size:=by rw[hWb];simp
    have hother:∀k,k≠w.heap.size+1→Wb.heap[k]? =Wa.heap[k]? :=fun k hk=>by rw[hWb];exact World.putObj_heap_other hk
    have hd2:Wb.heap[w.heap.size]? =some (.deferred (some [])):=(hother _ (by omega)).trans ((hEa.block _ (by omega) (.inr ⟨by omega,nF _ (Nat.le_refl _)⟩)).trans hd)
    rw[←hWb]
    refine wpIn_mono (hb Wb _ hWb) ?_
    rintro e2 a3 W3 hp
    cases e2 with
    |normal=>
     obtain⟨hi3,hkp⟩:=hp
     have hl3:W3.heap[w.heap.size+1]? =some (.loop {rec .ready none with state:=.busy}):=(hkp.block _ (by omega) (.inr ⟨by omega,nF _ (by omega)⟩)).trans hl2
     have hd3:W3.heap[w.heap.size]? =some (.deferred (some [])):=(hkp.block _ (by omega) (.inr ⟨by omega,nF _ (Nat.le_refl _)⟩)).trans hd2
     have he:=run_endRound (P:=P) none hl3
     rw[hrec]at he
     have hs3:=hkp.size
     have hsame:=World.putObj_heap_same (w:=W3) (r:=w.heap.size+1) (o:=.loop (rec .ready none)) (by omega)
     refine⟨_,_,he,rfl,⟨hIl _ _ _ _ _ _ rfl hi3 hl3,?_,?_⟩,?_,?_⟩
     ·rw[hrec]at hsame ⊢
      exact hsame
     ·rw[World.putObj_heap_other (by omega)];exact hd3
     ·simp only[World.putObj_size];omega
     ·intro b h1 h2
      by_cases e:b=w.heap.size+1
      ·subst e
       rw[hl]
       rw[hrec]at hsame ⊢
       exact hsame
      ·rw[World.putObj_heap_other e,hkp.block b (by omega) h2,hother b e,hEa.block b h1 h2]
    |_=>exact hp.elim
   |_=>exact he.elim
  ·
   rintro e W' ⟨⟨v,rfl⟩,O,⟨hi,hl4,hd4⟩,hO,hs⟩
   have he:=run_endLoop (P:=P) hl4 (by rw[hrec];simp)
   rw[hrec]at he
   have hz:∀o,(W'.putObj (w.heap.size+1) o).heap.size=W'.heap.size:=fun o=>by simp
   refine⟨none,_,he,hdone O _ (hIl _ _ _ _ _ _ rfl hi hl4) (fun b hb=>by rw[hz];exact hO b hb) (by rw[hz];exact hs) ?_⟩
   rw[World.putObj_heap_other (by omega)];exact hd4
end
end eX
end Go.Proofs.YteikppbedmmdnaaGreatDoor
namespace Go.Proofs.YteikppbedmmdnaaGreatDoor
namespace PW
section
open Go.RowKit Go.Shelf cj Mem eX
section
variable {P:Program} {ops:Array Oper} {n:Nat}
def JB(K:Act→World→Prop):Exit→Act→World→Prop
 | .normal,a,w=>K a w
 |_,_,_=>False
theorem uG{K:Act→World→Prop}:¬LetsOut (JB K):=fun⟨_,_,h⟩=>h
theorem uz(arr:Array Value)(d ds:List Deferred)(k:Option Tmp)(v:Value):(⟨arr,d++ds⟩:Act).put k v=⟨((⟨arr,d⟩:Act).put k v).tmps,d++ds⟩:=by cases k<;>rfl
theorem qp(arr:Array Value)(d:List Deferred)(k:Option Tmp)(v:Value):(⟨arr,d⟩:Act).put k v=⟨((⟨arr,d⟩:Act).put k v).tmps,d⟩:=by cases k<;>rfl
theorem As{o:Oper}{arr:Array Value}{d ds:List Deferred}{w:World}{K K':Act→World→Prop}{R:Act→World→Prop}{Q':Exit→Act→World→Prop}(hK:∀t d w,K ⟨t,d⟩ w→K' ⟨t,d++ds⟩ w)(h:o.wp P ⟨arr,d⟩ w K (JB R)):o.wp P ⟨arr,d++ds⟩ w K' Q':=by
 unfold Oper.wp at h ⊢
 rw[show(⟨arr,d++ds⟩:Act).eval=(⟨arr,d⟩:Act).eval from rfl]
 generalize (execOp (⟨arr,d⟩:Act).eval o).run P w=x at*
 have hp:∀v w,K ((⟨arr,d⟩:Act).put o.dst v) w→K' ((⟨arr,d++ds⟩:Act).put o.dst v) w:=fun v w h=>by
  rw[uz]
  rw[qp]at h
  exact hK _ _ _ h
 cases x with
 |ok x w'=>
  cases x<;>simp only[Oper.upon]at h ⊢
  case value v=>exact hp _ _ h
  case skip=>exact hp _ _ h
  case defer c=>
   rw[qp]at h
   have:=hK _ _ _ h
   rw[show c::(d++ds)=(c::d)++ds from rfl,uz]
   exact this
  case enter f args=>exact h.mono fun e w'' he=>by cases e<;>first|exact hp _ _ he|exact he.elim|exact absurd he uG
  case row r args=>exact Rows.mono h fun v w' h=>hp _ _ h
  all_goals exact h.elim
 |halt x w'=>cases x<;>simp only[Oper.upon]at h ⊢ <;>exact h.elim
theorem uW{ds:List Deferred}{K:Act→World→Prop}{Q':Exit→Act→World→Prop}(hQ:∀t d w,K ⟨t,d⟩ w→Q' .normal ⟨t,d++ds⟩ w):∀(is:List Nat) (arr:Array Value) (d:List Deferred) (w:World),wpOps P ops (JB K) is ⟨arr,d⟩ w→wpOps P ops Q' is ⟨arr,d++ds⟩ w
 | [],arr,d,w,h=>hQ _ _ _ h
 |i::is,arr,d,w,h=>by
  unfold wpOps at h ⊢
  cases ho:ops[i]? with
  |none=>
   rw[ho]at h
   exact uW hQ is _ _ _ h
  |some o=>
   rw[ho]at h
   simp only at h ⊢
   split at h
   ·rename_i hw
    rw[if_pos hw]
    rcases h with h|⟨_,h⟩
    ·exact .inl (As (fun t d w h=>uW hQ is t d w h) h)
    ·exact absurd h uG
   ·rename_i hw
    rw[if_neg hw,uz]
    rw[qp]at h
    exact uW hQ is _ _ _ h
theorem uN{ds:List Deferred}{K:Act→World→Prop}{Q':Exit→Act→World→Prop}{md:Region.Mode}(hQ:∀t d w,K ⟨t,d⟩ w→Q' .normal ⟨t,d++ds⟩ w):∀(fuel:Nat) (ls:Array Bool) (arr:Array Value) (d:List Deferred) (w:World),wpAny P md ops (JB K) fuel ls ⟨arr,d⟩ w→wpAny P md ops Q' fuel ls ⟨arr,d++ds⟩ w
 |0,ls,arr,d,w,h=>⟨h.1,hQ _ _ _ h.2⟩
 |fuel+1,ls,arr,d,w,h=>by
  refine⟨fun h0=>hQ _ _ _ (h.1 h0),fun i hi=>?_⟩
  have:=h.2 i hi
  unfold wpOp at this ⊢
  cases ho:ops[i]? with
  |none=>
   rw[ho]at this
   exact uN hQ fuel _ _ _ _ this
  |some o=>
   rw[ho]at this
   simp only at this ⊢
   split at this
   ·rename_i hw
    rw[if_pos hw]
    rcases this with h|⟨_,h⟩
    ·exact .inl (As (fun t d w h=>uN hQ fuel _ t d w h) h)
    ·exact absurd h uG
   ·rename_i hw
    rw[if_neg hw,uz]
    rw[qp]at this
    exact uN hQ fuel _ _ _ _ this
variable {N L:Nat}
theorem Cr{id:Nat}{l:List Oper}{st:St}{K:St→Prop}{F:Nat→Prop}{base:Nat}{E:Env}{arr:Array Value}{ds:List Deferred}{w:World}{Q:Exit→Act→World→Prop}(hs:cY F base N st E ⟨arr,[]⟩ w)(hL:E.L=L)(h:WR P N L l.toArray l st K)
  (hq:∀s E' arr' w',K s→cY F base N s E' ⟨arr',[]⟩ w'→cp E w E' w'→Below base w w'→Q .normal ⟨arr',ds⟩ w'):(Code.region id l.toArray false).wpIn Fence.wide n P Q ⟨arr,ds⟩ w:=by
 refine wpIn_wide.2 (wp_region ?_)
 have h1:=h F base E w E ⟨arr,[]⟩ w ⟨hL,cp.refl _ _,Below.refl _ _⟩ hs (JB (mQ F base N E w K)) 0 (fun a' w' h=>h) (fun j=>by simp)
 have h2:=uW (ds:=ds) (Q':=Q) (fun t d w' ⟨s,E',k1,k2,k3,k4⟩=>by
  have hd:d=[]:=k2.jL
  subst hd
  exact hq s E' t w' k1 k2 k3 k4) _ _ _ _ h1
 simpa[List.range_eq_range']using h2
def WO(P:Program)(N L:Nat)(c:Code)(st:St)(Q:Exit→St→Prop):Prop:=∃id l,c= .region id (List.toArray l) true∧WA P N L l.toArray l.length (Array.replicate l.length false) st (fun s=>Q .normal s)
theorem Ct(hm:P.follows .mixedOrders=true){c:Code}{st:St}{K:St→Prop}{F:Nat→Prop}{base:Nat}{E:Env}{arr:Array Value}{ds:List Deferred}{w:World}{Q:Exit→Act→World→Prop}(hs:cY F base N st E ⟨arr,[]⟩ w)(hL:E.L=L)(h:WO P N L c st (DQ K))
  (hq:∀s E' arr' w',K s→cY F base N s E' ⟨arr',[]⟩ w'→cp E w E' w'→Below base w w'→Q .normal ⟨arr',ds⟩ w'):c.wpIn Fence.wide n P Q ⟨arr,ds⟩ w:=by
 obtain⟨id,l,rfl,h⟩:=h
 refine wpIn_wide.2 (wp_region_any hm ?_)
 have hE:Ext w {w with drawn:=w.drawn+1}:=⟨rfl,rfl,rfl,Nat.le_refl _,fun _ _=>rfl⟩
 have h1:=h.any F base E w E ⟨arr,[]⟩ {w with drawn:=w.drawn+1} ⟨hL,.ext hE,Below.fB hE hs.sat.bl⟩ ⟨hs.sat.ext hE,hs.tmp.goes (.ext hE),rfl,hs.size⟩ (JB (mQ F base N E w K)) (fun a' w' h=>h)
 have h2:=uN (ds:=ds) (Q':=Q) (fun t d w' ⟨s,E',k1,k2,k3,k4⟩=>by
  have hd:d=[]:=k2.jL
  subst hd
  exact hq s E' t w' k1 k2 k3 k4) _ _ _ _ _ h1
 simpa using h2
end
def Mo(F0:Nat→Prop)(s:Nat)(O:Nat→Prop)(A:World)(b:Nat):Prop:=b<A.heap.size∧¬Kept F0 s O b
theorem ij{M M':Nat→Prop}{A B:World}(hz:A.heap.size≤B.heap.size)(hM:∀b,b<A.heap.size→¬M b→¬M' b)(hb:∀b,b<A.heap.size→¬M b→B.heap[b]? =A.heap[b]?):cp (EF M) A (EF M') B:=
 ⟨Nat.le_refl _,fun i hi=>absurd hi (Nat.not_lt_zero i),hM,hz,hb⟩
def lu(Ds:List Nat):List Deferred:=Ds.map fun D=> {target:=.collected D,args:= #[]}
theorem oy{F:Fence}{n:Nat}{P:Program}{fn:Func}{tmps:Array Value}{R:Ending→World→Prop}{u:FrameMode}(hu:u≠ .run):∀(Ds:List Nat) (W:World),Ds.Nodup→(∀D∈Ds,W.heap[D]? =some (.deferred (some [])))→
  (∀W':World,W'.os=W.os→W'.tape=W.tape→W'.output=W.output→W'.heap.size=W.heap.size→(∀b,b∉Ds→W'.heap[b]? =W.heap[b]?)→LeavesInM F n P fn tmps R [] u W')→LeavesInM F n P fn tmps R (lu Ds) u W
 | [],W,_,_,h=>h W rfl rfl rfl rfl (fun _ _=>rfl)
 |D::Ds,W,hn,hd,h=>by
  refine⟨hu,.inl ⟨D,_,rfl,run_takeDeferred (hd D (by simp)),?_⟩⟩
  have hn':=List.nodup_cons.1 hn
  refine oy hu Ds _ hn'.2 (fun D' hD'=>?_) (fun W' h1 h2 h3 h4 h5=>?_)
  ·have hne:D'≠D:=fun e=>hn'.1 (e▸hD')
   rw[World.putObj_heap_other hne]
   exact hd D' (by simp[hD'])
  ·refine h W' (h1.trans rfl) (h2.trans rfl) (h3.trans rfl) (h4.trans (by simp)) (fun b hb=>?_)
   have hb':b≠D∧b∉Ds:=by simpa using hb
   rw[h5 b hb'.2,World.putObj_heap_other hb'.1]
end
end PW
end Go.Proofs.YteikppbedmmdnaaGreatDoor
namespace Go.Proofs.YteikppbedmmdnaaGreatDoor
namespace PW
open Go.RowKit Go.Shelf cj Mem Net eX
namespace Lq
theorem rJ{P:Program}{N L:Nat}{id:Nat}{l:List Oper}{st:St}{Q:Exit→St→Prop}(_:P.follows .mixedOrders=true)(h:WA P N L l.toArray l.length (Array.replicate l.length false) st (fun s=>Q .normal s)):WO P N L (.region id l.toArray true) st Q:=⟨id,l,rfl,h⟩
def Lo(pc ys:List PV)(pre la:List Int)(a:Int)(i l:Nat)(s:St):Prop:=
 s.σ=[none,some (.row 3 1 (pre++[a]).length (aL (pre++[a]))),some (.cells 92 [.bg ys 0]),some (.cells 43 [.own 1])]∧Sub s.t [(1,.bg [.bg pc 0] 0),(2,.bg [aw pre] 0),(3,.bg [.raw (.func (.yield l) #[] #[])] 0),(29,aw la),(30,num la.length),(31,num i),(48,.func 70 [.ptr 2 0,.ptr 3 0])]
set_option maxRecDepth 100000 in
set_option maxHeartbeats 8000000 in
theorem Eu(vs ys:List PV)[aI vs][aI ys](pre la:List Int)(a:Int)(i l n:Nat)(o:Out)(c:Int)(hpl:pre.length+1≤1000)(hvi:vs[i]? =some (.bg ys 0))(hil:i<vs.length):
  WO Tryz.prog 55 0 KS ⟨[(1,.bg [.bg (dq n o vs c) 0] 0),(2,.bg [aw pre] 0),(3,.bg [.raw (.func (.yield l) #[] #[])] 0),(4,num i),(5,num a),(29,aw la),(30,num la.length),(31,num i)],[]⟩ (DQ (Lo (dq n o vs c) ys pre la a i l)):=by
 have hic:=xy pre (by omega) []
 have hbr:=vg ys (pre++[a])
 refine rJ mixed ?_
 ·refine o8 [[(1,.bg [.bg (dq n o vs c) 0] 0),(2,.bg [aw pre] 0),(3,.bg [.raw (.func (.yield l) #[] #[])] 0),(4,num i),(5,num a),(29,aw la),(30,num la.length),(31,num i),(36,.bg (dq n o vs c) 0),(37,.bg (dq n o vs c) 0),(38,.bg (dq n o vs c) 3),(39,.slice vs.length vs),(40,num i),(41,.bg vs i),(42,.bg ys 0),(43,aw pre),(44,.own 0),(45,num a),(46,.slice 1 [num a]),(47,.own 1),(48,.func 70 [.ptr 2 0,.ptr 3 0])]] [[],[some (.row 3 1 pre.length (aL pre))],[none,some (.row 3 1 (pre++[a]).length (aL (pre++[a])))],[none,some (.row 3 1 (pre++[a]).length (aL (pre++[a]))),some (.cells 92 [.bg ys 0]),some (.cells 43 [.own 1])]] [1,2,3,4,5,29,30,31] I (by kernel_rfl) (fun M hi ho=>?_)
  have μ0:M 0 8191 0 [1,2,3,29,30,31,48] 3:=hi<|nk I (by kernel_rfl) (⟨rfl,bm (ks:=[1,2,3,29,30,31,48]) I⟩)
  have μ1:M 1 4095 0 [1,2,3,29,30,31,42,47] 2:=hi<|aa [(12,8191)] I<|dO I I I I hbr (ho μ0) I I ab
  have μ2:M 2 2047 0 [1,2,3,29,30,31,42,44,46] 1:=hi<|aa [(11,4095)] I<|bL I I (cM.to (σ:=[some (.row 3 1 pre.length (aL pre))]) (p':=.own 1) (σ'':=[none,some (.row 3 1 (pre++[a]).length (aL (pre++[a])))]) (bC (e:=3) (s:=1) (by':=8) (i:=0) (m:=1) (n:=pre.length) (xs:=aL pre) (ys:=[num a]) I (bG.rk.get I) I I I I ⟨by unfold maxLen;omega,by omega⟩) I (by rw[List.length_append,←cO];rfl)) I (ho μ1) I I ab
  have μ3:M 3 1023 0 [1,2,3,29,30,31,42,44,45] 1:=hi<|aa [(10,2047)] I<|aQ I I (aS (xs:=[num a]) I (bG.sl.get I) ⟨Nat.le_of_ble_eq_true rfl,Nat.le_of_ble_eq_true rfl⟩ rfl rfl) I (ho μ2) I I ab
  have μ4:M 4 511 0 [1,2,3,5,29,30,31,42,44] 1:=hi<|aa [(9,1023)] I<|ag (ho μ3) I I ab
  have μ5:M 3 1791 0 [1,2,3,29,30,31,42,43,46] 0:=hi<|aa [(8,2047)] I<|dO I I I I hic (ho μ2) I I ab
  have μ6:M 4 767 0 [1,2,3,29,30,31,42,43,45] 0:=hi<|aa [(8,1023),(10,1791)] I<|dO I I I I hic (ho μ3) I I<|aQ I I (aS (xs:=[num a]) I (bG.sl.get I) ⟨Nat.le_of_ble_eq_true rfl,Nat.le_of_ble_eq_true rfl⟩ rfl rfl) I (ho μ5) I I ab
  have μ7:M 5 255 0 [1,2,3,5,29,30,31,42,43] 0:=hi<|aa [(8,511),(9,767)] I<|dO I I I I hic (ho μ4) I I<|ag (ho μ6) I I ab
  have μ8:M 4 1663 0 [1,2,3,29,30,31,42,46] 0:=hi<|aa [(7,1791)] I<|ag (ho μ5) I I ab
  have μ9:M 5 639 0 [1,2,3,29,30,31,42,45] 0:=hi<|aa [(7,767),(10,1663)] I<|ag (ho μ6) I I<|aQ I I (aS (xs:=[num a]) I (bG.sl.get I) ⟨Nat.le_of_ble_eq_true rfl,Nat.le_of_ble_eq_true rfl⟩ rfl rfl) I (ho μ8) I I ab
  have μ10:M 6 127 0 [1,2,3,5,29,30,31,42] 0:=hi<|aa [(7,255),(9,639)] I<|ag (ho μ7) I I<|ag (ho μ9) I I ab
  have μ11:M 2 4031 0 [1,2,3,29,30,31,41,47] 2:=hi<|aa [(6,4095)] I<|aQ I I (aK I (hvi)) I (ho μ1) I I ab
  have μ12:M 3 1983 0 [1,2,3,29,30,31,41,44,46] 1:=hi<|aa [(6,2047),(11,4031)] I<|aQ I I (aK I (hvi)) I (ho μ2) I I<|bL I I (cM.to (σ:=[some (.row 3 1 pre.length (aL pre))]) (p':=.own 1) (σ'':=[none,some (.row 3 1 (pre++[a]).length (aL (pre++[a])))]) (bC (e:=3) (s:=1) (by':=8) (i:=0) (m:=1) (n:=pre.length) (xs:=aL pre) (ys:=[num a]) I (bG.rk.get I) I I I I ⟨by unfold maxLen;omega,by omega⟩) I (by rw[List.length_append,←cO];rfl)) I (ho μ11) I I ab
  have μ13:M 4 959 0 [1,2,3,29,30,31,41,44,45] 1:=hi<|aa [(6,1023),(10,1983)] I<|aQ I I (aK I (hvi)) I (ho μ3) I I<|aQ I I (aS (xs:=[num a]) I (bG.sl.get I) ⟨Nat.le_of_ble_eq_true rfl,Nat.le_of_ble_eq_true rfl⟩ rfl rfl) I (ho μ12) I I ab
  have μ14:M 5 447 0 [1,2,3,5,29,30,31,41,44] 1:=hi<|aa [(6,511),(9,959)] I<|aQ I I (aK I (hvi)) I (ho μ4) I I<|ag (ho μ13) I I ab
  have μ15:M 4 1727 0 [1,2,3,29,30,31,41,43,46] 0:=hi<|aa [(6,1791),(8,1983)] I<|aQ I I (aK I (hvi)) I (ho μ5) I I<|dO I I I I hic (ho μ12) I I ab
  have μ16:M 5 703 0 [1,2,3,29,30,31,41,43,45] 0:=hi<|aa [(6,767),(8,959),(10,1727)] I<|aQ I I (aK I (hvi)) I (ho μ6) I I<|dO I I I I hic (ho μ13) I I<|aQ I I (aS (xs:=[num a]) I (bG.sl.get I) ⟨Nat.le_of_ble_eq_true rfl,Nat.le_of_ble_eq_true rfl⟩ rfl rfl) I (ho μ15) I I ab
  have μ17:M 6 191 0 [1,2,3,5,29,30,31,41,43] 0:=hi<|aa [(6,255),(8,447),(9,703)] I<|aQ I I (aK I (hvi)) I (ho μ7) I I<|dO I I I I hic (ho μ14) I I<|ag (ho μ16) I I ab
  have μ18:M 5 1599 0 [1,2,3,29,30,31,41,46] 0:=hi<|aa [(6,1663),(7,1727)] I<|aQ I I (aK I (hvi)) I (ho μ8) I I<|ag (ho μ15) I I ab
  have μ19:M 6 575 0 [1,2,3,29,30,31,41,45] 0:=hi<|aa [(6,639),(7,703),(10,1599)] I<|aQ I I (aK I (hvi)) I (ho μ9) I I<|ag (ho μ16) I I<|aQ I I (aS (xs:=[num a]) I (bG.sl.get I) ⟨Nat.le_of_ble_eq_true rfl,Nat.le_of_ble_eq_true rfl⟩ rfl rfl) I (ho μ18) I I ab
  have μ20:M 7 63 0 [1,2,3,5,29,30,31,41] 0:=hi<|aa [(6,127),(7,191),(9,575)] I<|aQ I I (aK I (hvi)) I (ho μ10) I I<|ag (ho μ17) I I<|ag (ho μ19) I I ab
  have μ21:M 3 3999 0 [1,2,3,29,30,31,39,40,47] 2:=hi<|aa [(5,4031)] I<|aQ I I (aJ (i) I (by omega) (by omega)) I (ho μ11) I I ab
  have μ22:M 4 1951 0 [1,2,3,29,30,31,39,40,44,46] 1:=hi<|aa [(5,1983),(11,3999)] I<|aQ I I (aJ (i) I (by omega) (by omega)) I (ho μ12) I I<|bL I I (cM.to (σ:=[some (.row 3 1 pre.length (aL pre))]) (p':=.own 1) (σ'':=[none,some (.row 3 1 (pre++[a]).length (aL (pre++[a])))]) (bC (e:=3) (s:=1) (by':=8) (i:=0) (m:=1) (n:=pre.length) (xs:=aL pre) (ys:=[num a]) I (bG.rk.get I) I I I I ⟨by unfold maxLen;omega,by omega⟩) I (by rw[List.length_append,←cO];rfl)) I (ho μ21) I I ab
  have μ23:M 5 927 0 [1,2,3,29,30,31,39,40,44,45] 1:=hi<|aa [(5,959),(10,1951)] I<|aQ I I (aJ (i) I (by omega) (by omega)) I (ho μ13) I I<|aQ I I (aS (xs:=[num a]) I (bG.sl.get I) ⟨Nat.le_of_ble_eq_true rfl,Nat.le_of_ble_eq_true rfl⟩ rfl rfl) I (ho μ22) I I ab
  have μ24:M 6 415 0 [1,2,3,5,29,30,31,39,40,44] 1:=hi<|aa [(5,447),(9,927)] I<|aQ I I (aJ (i) I (by omega) (by omega)) I (ho μ14) I I<|ag (ho μ23) I I ab
  have μ25:M 5 1695 0 [1,2,3,29,30,31,39,40,43,46] 0:=hi<|aa [(5,1727),(8,1951)] I<|aQ I I (aJ (i) I (by omega) (by omega)) I (ho μ15) I I<|dO I I I I hic (ho μ22) I I ab
  have μ26:M 6 671 0 [1,2,3,29,30,31,39,40,43,45] 0:=hi<|aa [(5,703),(8,927),(10,1695)] I<|aQ I I (aJ (i) I (by omega) (by omega)) I (ho μ16) I I<|dO I I I I hic (ho μ23) I I<|aQ I I (aS (xs:=[num a]) I (bG.sl.get I) ⟨Nat.le_of_ble_eq_true rfl,Nat.le_of_ble_eq_true rfl⟩ rfl rfl) I (ho μ25) I I ab
  have μ27:M 7 159 0 [1,2,3,5,29,30,31,39,40,43] 0:=hi<|aa [(5,191),(8,415),(9,671)] I<|aQ I I (aJ (i) I (by omega) (by omega)) I (ho μ17) I I<|dO I I I I hic (ho μ24) I I<|ag (ho μ26) I I ab
  have μ28:M 6 1567 0 [1,2,3,29,30,31,39,40,46] 0:=hi<|aa [(5,1599),(7,1695)] I<|aQ I I (aJ (i) I (by omega) (by omega)) I (ho μ18) I I<|ag (ho μ25) I I ab
  have μ29:M 7 543 0 [1,2,3,29,30,31,39,40,45] 0:=hi<|aa [(5,575),(7,671),(10,1567)] I<|aQ I I (aJ (i) I (by omega) (by omega)) I (ho μ19) I I<|ag (ho μ26) I I<|aQ I I (aS (xs:=[num a]) I (bG.sl.get I) ⟨Nat.le_of_ble_eq_true rfl,Nat.le_of_ble_eq_true rfl⟩ rfl rfl) I (ho μ28) I I ab
  have μ30:M 8 31 0 [1,2,3,5,29,30,31,39,40] 0:=hi<|aa [(5,63),(7,159),(9,543)] I<|aQ I I (aJ (i) I (by omega) (by omega)) I (ho μ20) I I<|ag (ho μ27) I I<|ag (ho μ29) I I ab
  have μ31:M 4 3983 0 [1,2,3,4,29,30,31,39,47] 2:=hi<|aa [(4,3999)] I<|ag (ho μ21) I I ab
  have μ32:M 5 1935 0 [1,2,3,4,29,30,31,39,44,46] 1:=hi<|aa [(4,1951),(11,3983)] I<|ag (ho μ22) I I<|bL I I (cM.to (σ:=[some (.row 3 1 pre.length (aL pre))]) (p':=.own 1) (σ'':=[none,some (.row 3 1 (pre++[a]).length (aL (pre++[a])))]) (bC (e:=3) (s:=1) (by':=8) (i:=0) (m:=1) (n:=pre.length) (xs:=aL pre) (ys:=[num a]) I (bG.rk.get I) I I I I ⟨by unfold maxLen;omega,by omega⟩) I (by rw[List.length_append,←cO];rfl)) I (ho μ31) I I ab
  have μ33:M 6 911 0 [1,2,3,4,29,30,31,39,44,45] 1:=hi<|aa [(4,927),(10,1935)] I<|ag (ho μ23) I I<|aQ I I (aS (xs:=[num a]) I (bG.sl.get I) ⟨Nat.le_of_ble_eq_true rfl,Nat.le_of_ble_eq_true rfl⟩ rfl rfl) I (ho μ32) I I ab
  have μ34:M 7 399 0 [1,2,3,4,5,29,30,31,39,44] 1:=hi<|aa [(4,415),(9,911)] I<|ag (ho μ24) I I<|ag (ho μ33) I I ab
  have μ35:M 6 1679 0 [1,2,3,4,29,30,31,39,43,46] 0:=hi<|aa [(4,1695),(8,1935)] I<|ag (ho μ25) I I<|dO I I I I hic (ho μ32) I I ab
  have μ36:M 7 655 0 [1,2,3,4,29,30,31,39,43,45] 0:=hi<|aa [(4,671),(8,911),(10,1679)] I<|ag (ho μ26) I I<|dO I I I I hic (ho μ33) I I<|aQ I I (aS (xs:=[num a]) I (bG.sl.get I) ⟨Nat.le_of_ble_eq_true rfl,Nat.le_of_ble_eq_true rfl⟩ rfl rfl) I (ho μ35) I I ab
  have μ37:M 8 143 0 [1,2,3,4,5,29,30,31,39,43] 0:=hi<|aa [(4,159),(8,399),(9,655)] I<|ag (ho μ27) I I<|dO I I I I hic (ho μ34) I I<|ag (ho μ36) I I ab
  have μ38:M 7 1551 0 [1,2,3,4,29,30,31,39,46] 0:=hi<|aa [(4,1567),(7,1679)] I<|ag (ho μ28) I I<|ag (ho μ35) I I ab
  have μ39:M 8 527 0 [1,2,3,4,29,30,31,39,45] 0:=hi<|aa [(4,543),(7,655),(10,1551)] I<|ag (ho μ29) I I<|ag (ho μ36) I I<|aQ I I (aS (xs:=[num a]) I (bG.sl.get I) ⟨Nat.le_of_ble_eq_true rfl,Nat.le_of_ble_eq_true rfl⟩ rfl rfl) I (ho μ38) I I ab
  have μ40:M 9 15 0 [1,2,3,4,5,29,30,31,39] 0:=hi<|aa [(4,31),(7,143),(9,527)] I<|ag (ho μ30) I I<|ag (ho μ37) I I<|ag (ho μ39) I I ab
  have μ41:M 4 3991 0 [1,2,3,29,30,31,38,40,47] 2:=hi<|aa [(3,3999)] I<|ag (ho μ21) I I ab
  have μ42:M 5 1943 0 [1,2,3,29,30,31,38,40,44,46] 1:=hi<|aa [(3,1951),(11,3991)] I<|ag (ho μ22) I I<|bL I I (cM.to (σ:=[some (.row 3 1 pre.length (aL pre))]) (p':=.own 1) (σ'':=[none,some (.row 3 1 (pre++[a]).length (aL (pre++[a])))]) (bC (e:=3) (s:=1) (by':=8) (i:=0) (m:=1) (n:=pre.length) (xs:=aL pre) (ys:=[num a]) I (bG.rk.get I) I I I I ⟨by unfold maxLen;omega,by omega⟩) I (by rw[List.length_append,←cO];rfl)) I (ho μ41) I I ab
  have μ43:M 6 919 0 [1,2,3,29,30,31,38,40,44,45] 1:=hi<|aa [(3,927),(10,1943)] I<|ag (ho μ23) I I<|aQ I I (aS (xs:=[num a]) I (bG.sl.get I) ⟨Nat.le_of_ble_eq_true rfl,Nat.le_of_ble_eq_true rfl⟩ rfl rfl) I (ho μ42) I I ab
  have μ44:M 7 407 0 [1,2,3,5,29,30,31,38,40,44] 1:=hi<|aa [(3,415),(9,919)] I<|ag (ho μ24) I I<|ag (ho μ43) I I ab
  have μ45:M 6 1687 0 [1,2,3,29,30,31,38,40,43,46] 0:=hi<|aa [(3,1695),(8,1943)] I<|ag (ho μ25) I I<|dO I I I I hic (ho μ42) I I ab
  have μ46:M 7 663 0 [1,2,3,29,30,31,38,40,43,45] 0:=hi<|aa [(3,671),(8,919),(10,1687)] I<|ag (ho μ26) I I<|dO I I I I hic (ho μ43) I I<|aQ I I (aS (xs:=[num a]) I (bG.sl.get I) ⟨Nat.le_of_ble_eq_true rfl,Nat.le_of_ble_eq_true rfl⟩ rfl rfl) I (ho μ45) I I ab
  have μ47:M 8 151 0 [1,2,3,5,29,30,31,38,40,43] 0:=hi<|aa [(3,159),(8,407),(9,663)] I<|ag (ho μ27) I I<|dO I I I I hic (ho μ44) I I<|ag (ho μ46) I I ab
  have μ48:M 7 1559 0 [1,2,3,29,30,31,38,40,46] 0:=hi<|aa [(3,1567),(7,1687)] I<|ag (ho μ28) I I<|ag (ho μ45) I I ab
  have μ49:M 8 535 0 [1,2,3,29,30,31,38,40,45] 0:=hi<|aa [(3,543),(7,663),(10,1559)] I<|ag (ho μ29) I I<|ag (ho μ46) I I<|aQ I I (aS (xs:=[num a]) I (bG.sl.get I) ⟨Nat.le_of_ble_eq_true rfl,Nat.le_of_ble_eq_true rfl⟩ rfl rfl) I (ho μ48) I I ab
  have μ50:M 9 23 0 [1,2,3,5,29,30,31,38,40] 0:=hi<|aa [(3,31),(7,151),(9,535)] I<|ag (ho μ30) I I<|ag (ho μ47) I I<|ag (ho μ49) I I ab
  have μ51:M 5 3975 0 [1,2,3,4,29,30,31,38,47] 2:=hi<|aa [(3,3983),(4,3991)] I<|ag (ho μ31) I I<|ag (ho μ41) I I ab
  have μ52:M 6 1927 0 [1,2,3,4,29,30,31,38,44,46] 1:=hi<|aa [(3,1935),(4,1943),(11,3975)] I<|ag (ho μ32) I I<|ag (ho μ42) I I<|bL I I (cM.to (σ:=[some (.row 3 1 pre.length (aL pre))]) (p':=.own 1) (σ'':=[none,some (.row 3 1 (pre++[a]).length (aL (pre++[a])))]) (bC (e:=3) (s:=1) (by':=8) (i:=0) (m:=1) (n:=pre.length) (xs:=aL pre) (ys:=[num a]) I (bG.rk.get I) I I I I ⟨by unfold maxLen;omega,by omega⟩) I (by rw[List.length_append,←cO];rfl)) I (ho μ51) I I ab
  have μ53:M 7 903 0 [1,2,3,4,29,30,31,38,44,45] 1:=hi<|aa [(3,911),(4,919),(10,1927)] I<|ag (ho μ33) I I<|ag (ho μ43) I I<|aQ I I (aS (xs:=[num a]) I (bG.sl.get I) ⟨Nat.le_of_ble_eq_true rfl,Nat.le_of_ble_eq_true rfl⟩ rfl rfl) I (ho μ52) I I ab
  have μ54:M 8 391 0 [1,2,3,4,5,29,30,31,38,44] 1:=hi<|aa [(3,399),(4,407),(9,903)] I<|ag (ho μ34) I I<|ag (ho μ44) I I<|ag (ho μ53) I I ab
  have μ55:M 7 1671 0 [1,2,3,4,29,30,31,38,43,46] 0:=hi<|aa [(3,1679),(4,1687),(8,1927)] I<|ag (ho μ35) I I<|ag (ho μ45) I I<|dO I I I I hic (ho μ52) I I ab
  have μ56:M 8 647 0 [1,2,3,4,29,30,31,38,43,45] 0:=hi<|aa [(3,655),(4,663),(8,903),(10,1671)] I<|ag (ho μ36) I I<|ag (ho μ46) I I<|dO I I I I hic (ho μ53) I I<|aQ I I (aS (xs:=[num a]) I (bG.sl.get I) ⟨Nat.le_of_ble_eq_true rfl,Nat.le_of_ble_eq_true rfl⟩ rfl rfl) I (ho μ55) I I ab
  have μ57:M 9 135 0 [1,2,3,4,5,29,30,31,38,43] 0:=hi<|aa [(3,143),(4,151),(8,391),(9,647)] I<|ag (ho μ37) I I<|ag (ho μ47) I I<|dO I I I I hic (ho μ54) I I<|ag (ho μ56) I I ab
  have μ58:M 8 1543 0 [1,2,3,4,29,30,31,38,46] 0:=hi<|aa [(3,1551),(4,1559),(7,1671)] I<|ag (ho μ38) I I<|ag (ho μ48) I I<|ag (ho μ55) I I ab
  have μ59:M 9 519 0 [1,2,3,4,29,30,31,38,45] 0:=hi<|aa [(3,527),(4,535),(7,647),(10,1543)] I<|ag (ho μ39) I I<|ag (ho μ49) I I<|ag (ho μ56) I I<|aQ I I (aS (xs:=[num a]) I (bG.sl.get I) ⟨Nat.le_of_ble_eq_true rfl,Nat.le_of_ble_eq_true rfl⟩ rfl rfl) I (ho μ58) I I ab
  have μ60:M 10 7 0 [1,2,3,4,5,29,30,31,38] 0:=hi<|aa [(3,15),(4,23),(7,135),(9,519)] I<|ag (ho μ40) I I<|ag (ho μ50) I I<|ag (ho μ57) I I<|ag (ho μ59) I I ab
  have μ61:M 5 3987 0 [1,2,3,29,30,31,37,40,47] 2:=hi<|aa [(2,3991)] I<|ag (ho μ41) I I ab
  have μ62:M 6 1939 0 [1,2,3,29,30,31,37,40,44,46] 1:=hi<|aa [(2,1943),(11,3987)] I<|ag (ho μ42) I I<|bL I I (cM.to (σ:=[some (.row 3 1 pre.length (aL pre))]) (p':=.own 1) (σ'':=[none,some (.row 3 1 (pre++[a]).length (aL (pre++[a])))]) (bC (e:=3) (s:=1) (by':=8) (i:=0) (m:=1) (n:=pre.length) (xs:=aL pre) (ys:=[num a]) I (bG.rk.get I) I I I I ⟨by unfold maxLen;omega,by omega⟩) I (by rw[List.length_append,←cO];rfl)) I (ho μ61) I I ab
  have μ63:M 7 915 0 [1,2,3,29,30,31,37,40,44,45] 1:=hi<|aa [(2,919),(10,1939)] I<|ag (ho μ43) I I<|aQ I I (aS (xs:=[num a]) I (bG.sl.get I) ⟨Nat.le_of_ble_eq_true rfl,Nat.le_of_ble_eq_true rfl⟩ rfl rfl) I (ho μ62) I I ab
  have μ64:M 8 403 0 [1,2,3,5,29,30,31,37,40,44] 1:=hi<|aa [(2,407),(9,915)] I<|ag (ho μ44) I I<|ag (ho μ63) I I ab
  have μ65:M 7 1683 0 [1,2,3,29,30,31,37,40,43,46] 0:=hi<|aa [(2,1687),(8,1939)] I<|ag (ho μ45) I I<|dO I I I I hic (ho μ62) I I ab
  have μ66:M 8 659 0 [1,2,3,29,30,31,37,40,43,45] 0:=hi<|aa [(2,663),(8,915),(10,1683)] I<|ag (ho μ46) I I<|dO I I I I hic (ho μ63) I I<|aQ I I (aS (xs:=[num a]) I (bG.sl.get I) ⟨Nat.le_of_ble_eq_true rfl,Nat.le_of_ble_eq_true rfl⟩ rfl rfl) I (ho μ65) I I ab
  have μ67:M 9 147 0 [1,2,3,5,29,30,31,37,40,43] 0:=hi<|aa [(2,151),(8,403),(9,659)] I<|ag (ho μ47) I I<|dO I I I I hic (ho μ64) I I<|ag (ho μ66) I I ab
  have μ68:M 8 1555 0 [1,2,3,29,30,31,37,40,46] 0:=hi<|aa [(2,1559),(7,1683)] I<|ag (ho μ48) I I<|ag (ho μ65) I I ab
  have μ69:M 9 531 0 [1,2,3,29,30,31,37,40,45] 0:=hi<|aa [(2,535),(7,659),(10,1555)] I<|ag (ho μ49) I I<|ag (ho μ66) I I<|aQ I I (aS (xs:=[num a]) I (bG.sl.get I) ⟨Nat.le_of_ble_eq_true rfl,Nat.le_of_ble_eq_true rfl⟩ rfl rfl) I (ho μ68) I I ab
  have μ70:M 10 19 0 [1,2,3,5,29,30,31,37,40] 0:=hi<|aa [(2,23),(7,147),(9,531)] I<|ag (ho μ50) I I<|ag (ho μ67) I I<|ag (ho μ69) I I ab
  have μ71:M 6 3971 0 [1,2,3,4,29,30,31,37,47] 2:=hi<|aa [(2,3975),(4,3987)] I<|ag (ho μ51) I I<|ag (ho μ61) I I ab
  have μ72:M 7 1923 0 [1,2,3,4,29,30,31,37,44,46] 1:=hi<|aa [(2,1927),(4,1939),(11,3971)] I<|ag (ho μ52) I I<|ag (ho μ62) I I<|bL I I (cM.to (σ:=[some (.row 3 1 pre.length (aL pre))]) (p':=.own 1) (σ'':=[none,some (.row 3 1 (pre++[a]).length (aL (pre++[a])))]) (bC (e:=3) (s:=1) (by':=8) (i:=0) (m:=1) (n:=pre.length) (xs:=aL pre) (ys:=[num a]) I (bG.rk.get I) I I I I ⟨by unfold maxLen;omega,by omega⟩) I (by rw[List.length_append,←cO];rfl)) I (ho μ71) I I ab
  have μ73:M 8 899 0 [1,2,3,4,29,30,31,37,44,45] 1:=hi<|aa [(2,903),(4,915),(10,1923)] I<|ag (ho μ53) I I<|ag (ho μ63) I I<|aQ I I (aS (xs:=[num a]) I (bG.sl.get I) ⟨Nat.le_of_ble_eq_true rfl,Nat.le_of_ble_eq_true rfl⟩ rfl rfl) I (ho μ72) I I ab
  have μ74:M 9 387 0 [1,2,3,4,5,29,30,31,37,44] 1:=hi<|aa [(2,391),(4,403),(9,899)] I<|ag (ho μ54) I I<|ag (ho μ64) I I<|ag (ho μ73) I I ab
  have μ75:M 8 1667 0 [1,2,3,4,29,30,31,37,43,46] 0:=hi<|aa [(2,1671),(4,1683),(8,1923)] I<|ag (ho μ55) I I<|ag (ho μ65) I I<|dO I I I I hic (ho μ72) I I ab
  have μ76:M 9 643 0 [1,2,3,4,29,30,31,37,43,45] 0:=hi<|aa [(2,647),(4,659),(8,899),(10,1667)] I<|ag (ho μ56) I I<|ag (ho μ66) I I<|dO I I I I hic (ho μ73) I I<|aQ I I (aS (xs:=[num a]) I (bG.sl.get I) ⟨Nat.le_of_ble_eq_true rfl,Nat.le_of_ble_eq_true rfl⟩ rfl rfl) I (ho μ75) I I ab
  have μ77:M 10 131 0 [1,2,3,4,5,29,30,31,37,43] 0:=hi<|aa [(2,135),(4,147),(8,387),(9,643)] I<|ag (ho μ57) I I<|ag (ho μ67) I I<|dO I I I I hic (ho μ74) I I<|ag (ho μ76) I I ab
  have μ78:M 9 1539 0 [1,2,3,4,29,30,31,37,46] 0:=hi<|aa [(2,1543),(4,1555),(7,1667)] I<|ag (ho μ58) I I<|ag (ho μ68) I I<|ag (ho μ75) I I ab
  have μ79:M 10 515 0 [1,2,3,4,29,30,31,37,45] 0:=hi<|aa [(2,519),(4,531),(7,643),(10,1539)] I<|ag (ho μ59) I I<|ag (ho μ69) I I<|ag (ho μ76) I I<|aQ I I (aS (xs:=[num a]) I (bG.sl.get I) ⟨Nat.le_of_ble_eq_true rfl,Nat.le_of_ble_eq_true rfl⟩ rfl rfl) I (ho μ78) I I ab
  have μ80:M 11 3 0 [1,2,3,4,5,29,30,31,37] 0:=hi<|aa [(2,7),(4,19),(7,131),(9,515)] I<|ag (ho μ60) I I<|ag (ho μ70) I I<|ag (ho μ77) I I<|ag (ho μ79) I I ab
  have μ81:M 6 3985 0 [1,2,3,29,30,31,36,40,47] 2:=hi<|aa [(1,3987)] I<|ag (ho μ61) I I ab
  have μ82:M 7 1937 0 [1,2,3,29,30,31,36,40,44,46] 1:=hi<|aa [(1,1939),(11,3985)] I<|ag (ho μ62) I I<|bL I I (cM.to (σ:=[some (.row 3 1 pre.length (aL pre))]) (p':=.own 1) (σ'':=[none,some (.row 3 1 (pre++[a]).length (aL (pre++[a])))]) (bC (e:=3) (s:=1) (by':=8) (i:=0) (m:=1) (n:=pre.length) (xs:=aL pre) (ys:=[num a]) I (bG.rk.get I) I I I I ⟨by unfold maxLen;omega,by omega⟩) I (by rw[List.length_append,←cO];rfl)) I (ho μ81) I I ab
  have μ83:M 8 913 0 [1,2,3,29,30,31,36,40,44,45] 1:=hi<|aa [(1,915),(10,1937)] I<|ag (ho μ63) I I<|aQ I I (aS (xs:=[num a]) I (bG.sl.get I) ⟨Nat.le_of_ble_eq_true rfl,Nat.le_of_ble_eq_true rfl⟩ rfl rfl) I (ho μ82) I I ab
  have μ84:M 9 401 0 [1,2,3,5,29,30,31,36,40,44] 1:=hi<|aa [(1,403),(9,913)] I<|ag (ho μ64) I I<|ag (ho μ83) I I ab
  have μ85:M 8 1681 0 [1,2,3,29,30,31,36,40,43,46] 0:=hi<|aa [(1,1683),(8,1937)] I<|ag (ho μ65) I I<|dO I I I I hic (ho μ82) I I ab
  have μ86:M 9 657 0 [1,2,3,29,30,31,36,40,43,45] 0:=hi<|aa [(1,659),(8,913),(10,1681)] I<|ag (ho μ66) I I<|dO I I I I hic (ho μ83) I I<|aQ I I (aS (xs:=[num a]) I (bG.sl.get I) ⟨Nat.le_of_ble_eq_true rfl,Nat.le_of_ble_eq_true rfl⟩ rfl rfl) I (ho μ85) I I ab
  have μ87:M 10 145 0 [1,2,3,5,29,30,31,36,40,43] 0:=hi<|aa [(1,147),(8,401),(9,657)] I<|ag (ho μ67) I I<|dO I I I I hic (ho μ84) I I<|ag (ho μ86) I I ab
  have μ88:M 9 1553 0 [1,2,3,29,30,31,36,40,46] 0:=hi<|aa [(1,1555),(7,1681)] I<|ag (ho μ68) I I<|ag (ho μ85) I I ab
  have μ89:M 10 529 0 [1,2,3,29,30,31,36,40,45] 0:=hi<|aa [(1,531),(7,657),(10,1553)] I<|ag (ho μ69) I I<|ag (ho μ86) I I<|aQ I I (aS (xs:=[num a]) I (bG.sl.get I) ⟨Nat.le_of_ble_eq_true rfl,Nat.le_of_ble_eq_true rfl⟩ rfl rfl) I (ho μ88) I I ab
  have μ90:M 11 17 0 [1,2,3,5,29,30,31,36,40] 0:=hi<|aa [(1,19),(7,145),(9,529)] I<|ag (ho μ70) I I<|ag (ho μ87) I I<|ag (ho μ89) I I ab
  have μ91:M 7 3969 0 [1,2,3,4,29,30,31,36,47] 2:=hi<|aa [(1,3971),(4,3985)] I<|ag (ho μ71) I I<|ag (ho μ81) I I ab
  have μ92:M 8 1921 0 [1,2,3,4,29,30,31,36,44,46] 1:=hi<|aa [(1,1923),(4,1937),(11,3969)] I<|ag (ho μ72) I I<|ag (ho μ82) I I<|bL I I (cM.to (σ:=[some (.row 3 1 pre.length (aL pre))]) (p':=.own 1) (σ'':=[none,some (.row 3 1 (pre++[a]).length (aL (pre++[a])))]) (bC (e:=3) (s:=1) (by':=8) (i:=0) (m:=1) (n:=pre.length) (xs:=aL pre) (ys:=[num a]) I (bG.rk.get I) I I I I ⟨by unfold maxLen;omega,by omega⟩) I (by rw[List.length_append,←cO];rfl)) I (ho μ91) I I ab
  have μ93:M 9 897 0 [1,2,3,4,29,30,31,36,44,45] 1:=hi<|aa [(1,899),(4,913),(10,1921)] I<|ag (ho μ73) I I<|ag (ho μ83) I I<|aQ I I (aS (xs:=[num a]) I (bG.sl.get I) ⟨Nat.le_of_ble_eq_true rfl,Nat.le_of_ble_eq_true rfl⟩ rfl rfl) I (ho μ92) I I ab
  have μ94:M 10 385 0 [1,2,3,4,5,29,30,31,36,44] 1:=hi<|aa [(1,387),(4,401),(9,897)] I<|ag (ho μ74) I I<|ag (ho μ84) I I<|ag (ho μ93) I I ab
  have μ95:M 9 1665 0 [1,2,3,4,29,30,31,36,43,46] 0:=hi<|aa [(1,1667),(4,1681),(8,1921)] I<|ag (ho μ75) I I<|ag (ho μ85) I I<|dO I I I I hic (ho μ92) I I ab
  have μ96:M 10 641 0 [1,2,3,4,29,30,31,36,43,45] 0:=hi<|aa [(1,643),(4,657),(8,897),(10,1665)] I<|ag (ho μ76) I I<|ag (ho μ86) I I<|dO I I I I hic (ho μ93) I I<|aQ I I (aS (xs:=[num a]) I (bG.sl.get I) ⟨Nat.le_of_ble_eq_true rfl,Nat.le_of_ble_eq_true rfl⟩ rfl rfl) I (ho μ95) I I ab
  have μ97:M 11 129 0 [1,2,3,4,5,29,30,31,36,43] 0:=hi<|aa [(1,131),(4,145),(8,385),(9,641)] I<|ag (ho μ77) I I<|ag (ho μ87) I I<|dO I I I I hic (ho μ94) I I<|ag (ho μ96) I I ab
  have μ98:M 10 1537 0 [1,2,3,4,29,30,31,36,46] 0:=hi<|aa [(1,1539),(4,1553),(7,1665)] I<|ag (ho μ78) I I<|ag (ho μ88) I I<|ag (ho μ95) I I ab
  have μ99:M 11 513 0 [1,2,3,4,29,30,31,36,45] 0:=hi<|aa [(1,515),(4,529),(7,641),(10,1537)] I<|ag (ho μ79) I I<|ag (ho μ89) I I<|ag (ho μ96) I I<|aQ I I (aS (xs:=[num a]) I (bG.sl.get I) ⟨Nat.le_of_ble_eq_true rfl,Nat.le_of_ble_eq_true rfl⟩ rfl rfl) I (ho μ98) I I ab
  have μ100:M 12 1 0 [1,2,3,4,5,29,30,31,36] 0:=hi<|aa [(1,3),(4,17),(7,129),(9,513)] I<|ag (ho μ80) I I<|ag (ho μ90) I I<|ag (ho μ97) I I<|ag (ho μ99) I I ab
  have μ101:M 7 3984 0 [1,2,3,29,30,31,40,47] 2:=hi<|aa [(0,3985)] I<|ag (ho μ81) I I ab
  have μ102:M 8 1936 0 [1,2,3,29,30,31,40,44,46] 1:=hi<|aa [(0,1937),(11,3984)] I<|ag (ho μ82) I I<|bL I I (cM.to (σ:=[some (.row 3 1 pre.length (aL pre))]) (p':=.own 1) (σ'':=[none,some (.row 3 1 (pre++[a]).length (aL (pre++[a])))]) (bC (e:=3) (s:=1) (by':=8) (i:=0) (m:=1) (n:=pre.length) (xs:=aL pre) (ys:=[num a]) I (bG.rk.get I) I I I I ⟨by unfold maxLen;omega,by omega⟩) I (by rw[List.length_append,←cO];rfl)) I (ho μ101) I I ab
  have μ103:M 9 912 0 [1,2,3,29,30,31,40,44,45] 1:=hi<|aa [(0,913),(10,1936)] I<|ag (ho μ83) I I<|aQ I I (aS (xs:=[num a]) I (bG.sl.get I) ⟨Nat.le_of_ble_eq_true rfl,Nat.le_of_ble_eq_true rfl⟩ rfl rfl) I (ho μ102) I I ab
  have μ104:M 10 400 0 [1,2,3,5,29,30,31,40,44] 1:=hi<|aa [(0,401),(9,912)] I<|ag (ho μ84) I I<|ag (ho μ103) I I ab
  have μ105:M 9 1680 0 [1,2,3,29,30,31,40,43,46] 0:=hi<|aa [(0,1681),(8,1936)] I<|ag (ho μ85) I I<|dO I I I I hic (ho μ102) I I ab
  have μ106:M 10 656 0 [1,2,3,29,30,31,40,43,45] 0:=hi<|aa [(0,657),(8,912),(10,1680)] I<|ag (ho μ86) I I<|dO I I I I hic (ho μ103) I I<|aQ I I (aS (xs:=[num a]) I (bG.sl.get I) ⟨Nat.le_of_ble_eq_true rfl,Nat.le_of_ble_eq_true rfl⟩ rfl rfl) I (ho μ105) I I ab
  have μ107:M 11 144 0 [1,2,3,5,29,30,31,40,43] 0:=hi<|aa [(0,145),(8,400),(9,656)] I<|ag (ho μ87) I I<|dO I I I I hic (ho μ104) I I<|ag (ho μ106) I I ab
  have μ108:M 10 1552 0 [1,2,3,29,30,31,40,46] 0:=hi<|aa [(0,1553),(7,1680)] I<|ag (ho μ88) I I<|ag (ho μ105) I I ab
  have μ109:M 11 528 0 [1,2,3,29,30,31,40,45] 0:=hi<|aa [(0,529),(7,656),(10,1552)] I<|ag (ho μ89) I I<|ag (ho μ106) I I<|aQ I I (aS (xs:=[num a]) I (bG.sl.get I) ⟨Nat.le_of_ble_eq_true rfl,Nat.le_of_ble_eq_true rfl⟩ rfl rfl) I (ho μ108) I I ab
  have μ110:M 12 16 0 [1,2,3,5,29,30,31,40] 0:=hi<|aa [(0,17),(7,144),(9,528)] I<|ag (ho μ90) I I<|ag (ho μ107) I I<|ag (ho μ109) I I ab
  have μ111:M 8 3968 0 [1,2,3,4,29,30,31,47] 2:=hi<|aa [(0,3969),(4,3984)] I<|ag (ho μ91) I I<|ag (ho μ101) I I ab
  have μ112:M 9 1920 0 [1,2,3,4,29,30,31,44,46] 1:=hi<|aa [(0,1921),(4,1936),(11,3968)] I<|ag (ho μ92) I I<|ag (ho μ102) I I<|bL I I (cM.to (σ:=[some (.row 3 1 pre.length (aL pre))]) (p':=.own 1) (σ'':=[none,some (.row 3 1 (pre++[a]).length (aL (pre++[a])))]) (bC (e:=3) (s:=1) (by':=8) (i:=0) (m:=1) (n:=pre.length) (xs:=aL pre) (ys:=[num a]) I (bG.rk.get I) I I I I ⟨by unfold maxLen;omega,by omega⟩) I (by rw[List.length_append,←cO];rfl)) I (ho μ111) I I ab
  have μ113:M 10 896 0 [1,2,3,4,29,30,31,44,45] 1:=hi<|aa [(0,897),(4,912),(10,1920)] I<|ag (ho μ93) I I<|ag (ho μ103) I I<|aQ I I (aS (xs:=[num a]) I (bG.sl.get I) ⟨Nat.le_of_ble_eq_true rfl,Nat.le_of_ble_eq_true rfl⟩ rfl rfl) I (ho μ112) I I ab
  have μ114:M 11 384 0 [1,2,3,4,5,29,30,31,44] 1:=hi<|aa [(0,385),(4,400),(9,896)] I<|ag (ho μ94) I I<|ag (ho μ104) I I<|ag (ho μ113) I I ab
  have μ115:M 10 1664 0 [1,2,3,4,29,30,31,43,46] 0:=hi<|aa [(0,1665),(4,1680),(8,1920)] I<|ag (ho μ95) I I<|ag (ho μ105) I I<|dO I I I I hic (ho μ112) I I ab
  have μ116:M 11 640 0 [1,2,3,4,29,30,31,43,45] 0:=hi<|aa [(0,641),(4,656),(8,896),(10,1664)] I<|ag (ho μ96) I I<|ag (ho μ106) I I<|dO I I I I hic (ho μ113) I I<|aQ I I (aS (xs:=[num a]) I (bG.sl.get I) ⟨Nat.le_of_ble_eq_true rfl,Nat.le_of_ble_eq_true rfl⟩ rfl rfl) I (ho μ115) I I ab
  have μ117:M 12 128 0 [1,2,3,4,5,29,30,31,43] 0:=hi<|aa [(0,129),(4,144),(8,384),(9,640)] I<|ag (ho μ97) I I<|ag (ho μ107) I I<|dO I I I I hic (ho μ114) I I<|ag (ho μ116) I I ab
  have μ118:M 11 1536 0 [1,2,3,4,29,30,31,46] 0:=hi<|aa [(0,1537),(4,1552),(7,1664)] I<|ag (ho μ98) I I<|ag (ho μ108) I I<|ag (ho μ115) I I ab
  have μ119:M 12 512 0 [1,2,3,4,29,30,31,45] 0:=hi<|aa [(0,513),(4,528),(7,640),(10,1536)] I<|ag (ho μ99) I I<|ag (ho μ109) I I<|ag (ho μ116) I I<|aQ I I (aS (xs:=[num a]) I (bG.sl.get I) ⟨Nat.le_of_ble_eq_true rfl,Nat.le_of_ble_eq_true rfl⟩ rfl rfl) I (ho μ118) I I ab
  have μ120:M 13 0 0 [1,2,3,4,5,29,30,31] 0:=hi<|aa [(0,1),(4,16),(7,128),(9,512)] I<|ag (ho μ100) I I<|ag (ho μ110) I I<|ag (ho μ117) I I<|ag (ho μ119) I I ab
  exact μ120
end Lq
end PW
end Go.Proofs.YteikppbedmmdnaaGreatDoor
namespace Go.Proofs.YteikppbedmmdnaaGreatDoor
namespace PW
section
open Go.RowKit Go.Shelf cj Mem Net eX
attribute [local go_sem] Oper.semAt_some
abbrev Rs:=Nat×Int×List Int
def MR(F0:Nat→Prop)(L:List Rs)(k:Nat)(O:Nat→Prop)(s:Nat)(v:Value)(A:World):Prop:=∃r,L[k]? =some r∧cu (EF (Mo F0 s O A)) A v (.agg (ey r.1 r.2.1 r.2.2))
theorem cY.plain{F:Nat→Prop}{base N:Nat}{t:b9}{E:Env}{a:Act}{w:World}(hs:cY F base N ⟨t,[]⟩ E a w):cG (EF F) w a.eval t:=
 hs.tmp.goes ⟨by rw[hs.sat.len];exact Nat.le_refl _,fun i hi=>by rw[hs.sat.len]at hi;exact absurd hi (Nat.not_lt_zero i),fun b _ hn hf=>hn ((hs.sat.mm b).2 (.inl hf)),Nat.le_refl _,fun _ _ _=>rfl⟩
theorem qD{F0:Nat→Prop}{W w:World}{b:Nat}(hn:¬F0 b)(hb:b<w.heap.size):Kept F0 W.heap.size (fun b=>W.heap.size≤b∧b<w.heap.size) b:=by
 rcases Nat.lt_or_ge b W.heap.size with h|h
 ·exact .inr ⟨h,hn⟩
 ·exact .inl ⟨h,hb⟩
section
variable {T:ah} {tb:Nat→eN} {p0:gg} {Φ:Nat→Nat→List cr→Prop}
set_option maxRecDepth 100000 in
set_option maxHeartbeats 4000000 in
theorem Fw{n:Nat}{o:Out}{vs:List PV}{c:Int}{pre:List Int}(ha:o.av=[])(hpl:pre.length≤1000)[hvs:aI vs]{xb pb:Value}{W:World}{F0:Nat→Prop}(hF:∀b,F0 b→b<W.heap.size)(gl:iC F0 W)(hX:cu (EF F0) W xb (.bg [.bg (dq n o vs c) 0] 0))(hP:cu (EF F0) W pb (.bg [aw pre] 0)):
  u7 Tryz.prog 70 #[xb,pb] [(n,o.jZ,pre)].length (MR F0 [(n,o.jZ,pre)]) F0 W:=by
 intro n' l J hJ hY hJ0
 have hargs:aV (EF F0) W (#[Value.func (.yield l) #[] #[]]++ #[xb,pb]).toList [.raw (.func (.yield l) #[] #[]),.bg [.bg (dq n o vs c) 0] 0,.bg [aw pre] 0]:=
  aV.cons (.raw _) (aV.cons hX (aV.cons hP (aV.nil _ _)))
 refine callsIn_of_wp_marks Tryz.func70 I trivial ?_ rfl
 have hs0:=iW (N:=55) (Sat.start F0 W hF gl) hargs (by simp)
 have hc0:px W.heap.size 0 (EF F0) W (EF F0) W:=⟨rfl,cp.refl _ _,Below.refl _ _⟩
 refine wpIn_seq (piece (K:=fun s=>s=⟨[(1,.bg [.bg (dq n o vs c) 0] 0),(2,.bg [aw pre] 0),(3,.bg [.raw (.func (.yield l) #[] #[])] 0)],[]⟩) hc0 hs0 ?_ ?_)
 ·skip
  refine aF (.a 1 I<|.k [1,2,3] I) ?_
  exact rfl
 rintro _ E1 a1 w1 rfl hs1 g1 b1
 refine wpIn_seq (wpIn_seq (piece (K:=fun s=>s=⟨[(1,.bg [.bg (dq n o vs c) 0] 0),(2,.bg [aw pre] 0),(3,.bg [.raw (.func (.yield l) #[] #[])] 0),(12,flag true)],[]⟩) ⟨rfl,g1,b1⟩ hs1 ?_ ?_))
 ·skip
  refine aF (.a 5 I<|.v (pX I I I (decide_eq_true (by rw[ha];rfl))) I<|.k [1,2,3,12] I) ?_
  exact rfl
 rintro _ E2 a2 w2 rfl hs2 g2 b2
 refine wpIn_cond_true (eF (hs2.tmp 12 _ rfl)) ?_
 refine wpIn_seq ?_
 skip
 refine sj 12 20 [13,14,15,16,17,18,19,20,21,22,23,24] mixed (by kernel_rfl) (by kernel_rfl) (by kernel_rfl) I (hs2) (.a 4 I<|.v [16] (aK I (rfl)) I I<|.a 3 I<|.v [20] (aK I (rfl)) I I<|.a 1 I<|.v [22] (eW I (nx pre hpl)) I I<|.a 1 I<|.k [13,24] I) ?_
 intro a3 w3 hE3 hs3
 have hEW:Ext W w3:=Ext.trans b2 hE3
 have h24:=hs3.tmp 24 (.agg (ey n o.jZ pre)) I
 have hv:cu (EF F0) w3 (a3.eval (.tmp 24)) (.agg (ey n o.jZ pre)):=(sJ n o.jZ pre).out _ F0 _ _ (fun b hb=>(hs3.sat.mm b).2 (.inl hb)) h24
 have hJ3:J 0 (fun b=>W.heap.size≤b∧b<w3.heap.size) w3:=hJ 0 _ W _ w3 hJ0 (fun b h=>h.elim) (Nat.le_refl _) (.ext hEW) (fun b=>⟨fun h=>.inr h,fun h=>h.elim False.elim id⟩)
 have hv':=hv.goes (ij (M':=Mo F0 W.heap.size (fun b=>W.heap.size≤b∧b<w3.heap.size) w3) (Nat.le_refl _) (fun b hb hn hm=>hm.2 (qD hn hb)) (fun _ _ _=>rfl))
 refine Bh (x:=.tmp 13) (y:=.tmp 24) I I I (eF (hs3.tmp 13 _ rfl)) (hY _ 0 _ _ w3 (by simp) hJ3 (fun b h=>h) hEW.size ⟨_,rfl,hv'⟩) ?_
 rintro e w4 ⟨rfl,hj,hk⟩
 refine⟨_,rfl,wpIn_ret ?_⟩
 show LeavesInM _ _ _ _ _ _ (a3.put (some 25) (.bool true)).defers _ _
 rw[show(a3.put (some 25) (.bool true)).defers=[] from hs3.jL]
 exact⟨_,results_none rfl _ _ _,⟨_,rfl⟩,_,hj,fun b h=>⟨h.1,Nat.lt_of_lt_of_le h.2 hk.size⟩,Nat.le_trans hEW.size hk.size⟩
end
def dT(Ls:Nat→List Rs):Nat→List Rs
 |0=>[]
 |k+1=>dT Ls k++Ls k
theorem qt(Ls:Nat→List Rs){i:Nat}:∀ {N:Nat},i<N→(dT Ls i).length+(Ls i).length≤(dT Ls N).length
 |0,h=>by omega
 |N+1,h=>by
  rw[dT,List.length_append]
  rcases Nat.lt_succ_iff_lt_or_eq.1 h with h|rfl
  ·have:=qt Ls h;omega
  ·exact Nat.le_refl _
theorem xa(Ls:Nat→List Rs){i k:Nat}(hk:k<(Ls i).length):∀ {N:Nat},i<N→(dT Ls N)[(dT Ls i).length+k]? =(Ls i)[k]?
 |0,h=>by omega
 |N+1,h=>by
  rw[dT]
  rcases Nat.lt_succ_iff_lt_or_eq.1 h with h|rfl
  ·have:=qt Ls h
   rw[List.getElem?_append_left (by omega)]
   exact xa Ls hk h
  ·rw[List.getElem?_append_right (by omega)]
   congr 1
   omega
def Iz(F0:Nat→Prop)(s:Nat)(J:Nat→(Nat→Prop)→World→Prop)(pc:List PV)(pre la:List Int)(l:Nat)(off:Nat→Nat)(i:Nat)(a:Act)(A:World):Prop:=
 ∃O Ds,J (off i) O A∧(∀b,O b→s≤b∧b<A.heap.size)∧s≤A.heap.size∧a.defers=lu Ds∧a.tmps.size=55∧
  cG (EF (Mo F0 s O A)) A a.eval [(1,.bg [.bg pc 0] 0),(2,.bg [aw pre] 0),(3,.bg [.raw (.func (.yield l) #[] #[])] 0),(29,aw la),(30,num la.length),(31,num (i:Nat))]∧
  Ds.Nodup∧(∀D∈Ds,O D∧A.heap[D]? =some (.deferred (some [])))∧iC (Mo F0 s O A) A
def Dz(la:List Int)(a:Act):Nat:=match a.eval (.tmp 31)with
 | .int _ x=>la.length - x.toNat
 |_=>0
theorem AN{la:List Int}{a:Act}{x:Nat}(h:a.eval (.tmp 31)= .int .i64 (x:Int)):Dz la a=la.length - x:=by unfold Dz;rw[h];simp
theorem vJ{F0:Nat→Prop}{s:Nat}{O O':Nat→Prop}{A B:World}{b:Nat}(h1:∀b,O b→O' b)(h2:∀b,A.heap.size≤b→b<B.heap.size→O' b)(h:Mo F0 s O' B b):Mo F0 s O A b:=
 ⟨Nat.lt_of_not_le fun hle=>h.2 (.inl (h2 b hle h.1)),fun hk=>h.2 (hk.imp (h1 b) id)⟩
theorem mb{F0:Nat→Prop}{s:Nat}{O:Nat→Prop}{A:World}{b:Nat}(hb:b<A.heap.size)(hn:¬Mo F0 s O A b):Kept F0 s O b:=Classical.byContradiction fun h=>hn ⟨hb,h⟩
def J9(F0:Nat→Prop)(s:Nat)(J:Nat→(Nat→Prop)→World→Prop)(off:Nat)(O6:Nat→Prop)(w6:World)(k:Nat)(O':Nat→Prop)(B:World):Prop:=
 ∃O1,J (off+k) O1 B∧(∀b,O' b→O1 b)∧(∀b,O6 b→O1 b)∧O1 w6.heap.size∧O1 (w6.heap.size+1)∧(∀b,O1 b→s≤b∧b<B.heap.size)∧w6.heap.size+2≤B.heap.size∧(∀b,b<w6.heap.size→Kept F0 s O6 b→B.heap[b]? =w6.heap[b]?)
def Fe(s:Nat)(J:Nat→(Nat→Prop)→World→Prop):Prop:=∀k O A O' A',J k O A→(∀b,O b→s≤b∧b<A.heap.size)→s≤A.heap.size→qU O A A'→Fs O A A' O'→J k O' A'
section
variable {F0:Nat→Prop} {s:Nat} {J:Nat→(Nat→Prop)→World→Prop} {off:Nat} {O6:Nat→Prop} {w6:World} {k:Nat} {O' O'':Nat→Prop} {B B':World}
theorem DS(hJ:Fe s J)(hs:s≤w6.heap.size)(h:J9 F0 s J off O6 w6 k O' B)(hO:∀b,O' b→w6.heap.size+2≤b∧b<B.heap.size)(hA:qU O' B B')(hM:Fs O' B B' O''):J9 F0 s J off O6 w6 k O'' B':=by
 obtain⟨O1,j1,j2,j3,j4,j5,j6,j7,j8⟩:=h
 have hz:=hA.size
 refine⟨fun b=>O1 b∨(B.heap.size≤b∧b<B'.heap.size),hJ _ O1 B _ B' j1 j6 (by omega) ⟨hA.os,hA.tape,hA.output,hA.size,fun b hb hn=>hA.block b hb (fun h=>hn (j2 b h)),hA.cells⟩ (fun b=>Iff.rfl),fun b hb=>((hM b).1 hb).imp (j2 b) id,fun b hb=>.inl (j3 b hb),.inl j4,.inl j5,fun b hb=>?_,by omega,fun b hb hk=>?_⟩
 ·rcases hb with hb|hb
  ·have:=j6 b hb;omega
  ·omega
 ·exact(hA.block b (by omega) (fun h=>by have:=(hO b h).1;omega)).trans (j8 b hb hk)
theorem HG(hJ:Fe s J)(hs:s≤w6.heap.size){l:Nat}{r o:Loop}(hl:l=w6.heap.size+1)(h:J9 F0 s J off O6 w6 k O' B)(hr:B.heap[l]? =some (.loop r)):J9 F0 s J off O6 w6 k O' (B.putObj l (.loop o)):=by
 subst hl
 obtain⟨O1,j1,j2,j3,j4,j5,j6,j7,j8⟩:=h
 have hz:(B.putObj (w6.heap.size+1) (.loop o)).heap.size=B.heap.size:=by simp
 refine⟨O1,hJ _ O1 B O1 _ j1 j6 (by omega) ⟨rfl,rfl,rfl,by rw[hz];exact Nat.le_refl _,fun b hb hn=>World.putObj_heap_other (fun e=>hn (e▸j5)),fun b ob hb hc=>(World.putObj_heap_other (fun e=>by subst e;rw[hr]at hb;cases hb;cases hc)).trans hb⟩ (fun b=>⟨.inl,fun h=>h.elim id (fun h=>by omega)⟩),j2,j3,j4,j5,fun b hb=>by rw[hz];exact j6 b hb,by rw[hz];exact j7,fun b hb hk=>(World.putObj_heap_other (by omega)).trans (j8 b hb hk)⟩
end
theorem cG.Ja{E:Env}{w:World}{ρ:Operand→Value}{t:b9}{k:Nat}{x:Int}(h:cG E w ρ t)(hk:look k t=some (num x)):ρ (.tmp k)= .int .i64 x:=eF (h k _ hk)
attribute [local go_sem] Oper.semAt_some
set_option maxRecDepth 100000 in
set_option maxHeartbeats 8000000 in
theorem FD{n:Nat}{o:Out}{vs:List PV}{c:Int}{pre:List Int}(Ls:Nat→List Rs)(hne:o.av≠[])(hpl:pre.length+1≤1000)[hv1:aI vs](hvl:vs.length=o.av.length)(hal:o.av.length≤1000){xb pb:Value}{W:World}{F0:Nat→Prop}(hF:∀b,F0 b→b<W.heap.size)(gl:iC F0 W)(hX:cu (EF F0) W xb (.bg [.bg (dq n o vs c) 0] 0))(hP:cu (EF F0) W pb (.bg [aw pre] 0))
  (hin:∀i,i<o.av.length→∃ys,vs[i]? =some (.bg ys 0)∧aI ys∧∀(F1:Nat→Prop) (xb' pb':Value) (W':World),(∀b,F1 b→b<W'.heap.size)→iC F1 W'→cu (EF F1) W' xb' (.bg [.bg ys 0] 0)→cu (EF F1) W' pb' (.bg [aw (pre++[o.av.getD i 0])] 0)→u7 Tryz.prog 70 #[xb',pb'] (Ls i).length (MR F1 (Ls i)) F1 W'):
  u7 Tryz.prog 70 #[xb,pb] (dT Ls o.av.length).length (MR F0 (dT Ls o.av.length)) F0 W:=by
 intro n' l J hJ hY hJ0
 have hargs:aV (EF F0) W (#[Value.func (.yield l) #[] #[]]++ #[xb,pb]).toList [.raw (.func (.yield l) #[] #[]),.bg [.bg (dq n o vs c) 0] 0,.bg [aw pre] 0]:=
  aV.cons (.raw _) (aV.cons hX (aV.cons hP (aV.nil _ _)))
 refine callsIn_of_wp_marks Tryz.func70 I trivial ?_ rfl
 have hs0:=iW (N:=55) (Sat.start F0 W hF gl) hargs (by simp)
 have hc0:px W.heap.size 0 (EF F0) W (EF F0) W:=⟨rfl,cp.refl _ _,Below.refl _ _⟩
 obtain⟨pc,hpc⟩:∃pc,dq n o vs c=pc:=⟨_,rfl⟩
 have hpcp:aI pc:=by rw[←hpc];unfold dq;infer_instance
 refine wpIn_seq (piece (K:=fun s=>s=⟨[(1,.bg [.bg (dq n o vs c) 0] 0),(2,.bg [aw pre] 0),(3,.bg [.raw (.func (.yield l) #[] #[])] 0)],[]⟩) hc0 hs0 ?_ ?_)
 ·skip
  refine aF (.a 1 I<|.k [1,2,3] I) ?_
  exact rfl
 rintro _ E1 a1 w1 rfl hs1 g1 b1
 refine wpIn_seq (wpIn_seq (piece (K:=fun s=>s=⟨[(1,.bg [.bg (dq n o vs c) 0] 0),(2,.bg [aw pre] 0),(3,.bg [.raw (.func (.yield l) #[] #[])] 0),(12,flag false)],[]⟩) ⟨rfl,g1,b1⟩ hs1 ?_ ?_))
 ·skip
  refine aF (.a 5 I<|.v (pX I I I (decide_eq_false (fun e=>hne (List.eq_nil_of_length_eq_zero (by omega))))) I<|.k [1,2,3,12] I) ?_
  exact rfl
 rintro _ E2 a2 w2 rfl hs2 g2 b2
 refine wpIn_cond_false (eF (hs2.tmp 12 _ rfl)) (wpIn_skip ?_)
 refine wpIn_seq (piece (K:=fun s=>s=⟨[(1,.bg [.bg (dq n o vs c) 0] 0),(2,.bg [aw pre] 0),(3,.bg [.raw (.func (.yield l) #[] #[])] 0),(29,aw o.av),(30,num o.av.length),(31,num (0:Nat))],[]⟩) ⟨rfl,g2,b2⟩ hs2 ?_ ?_)
 ·skip
  refine aF (.a 6 I<|.k [1,2,3,29,30,31] I) ?_
  exact rfl
 rintro _ E3 a3 w3 rfl hs3 g3 b3
 refine wpIn_block ?_
 have hE3:Ext W w3:=b3
 have hH0:Iz F0 W.heap.size J pc pre o.av l (fun i=>(dT Ls i).length) 0 a3 w3:=by
  refine⟨fun b=>W.heap.size≤b∧b<w3.heap.size,[],hJ 0 _ W _ w3 hJ0 (fun b h=>h.elim) (Nat.le_refl _) (.ext hE3) (fun b=>⟨fun h=>.inr h,fun h=>h.elim False.elim id⟩),fun b h=>h,hE3.size,hs3.jL,hs3.size,?_,List.nodup_nil,fun D hD=>(by cases hD),?_⟩
  ·have:=hs3.plain
   rw[hpc]at this
   exact this.goes (ij (Nat.le_refl _) (fun b hb hn hm=>hm.2 (qD hn hb)) (fun _ _ _=>rfl))
  ·exact(gl.goes (E:=EF F0) (E':=EF F0) (.ext hE3)).goes (E:=EF F0) (E':=EF _) (ij (Nat.le_refl _) (fun b hb hn hm=>hm.2 (qD hn hb)) (fun _ _ _=>rfl))
 clear hs0 hs1 hs2 hs3 g1 g2 g3 b1 b2 hc0
 refine wpIn_loop (fun a A=>∃i,i≤o.av.length∧Iz F0 W.heap.size J pc pre o.av l (fun i=>(dT Ls i).length) i a A) (fun a _=>Dz o.av a) ⟨0,Nat.zero_le _,hH0⟩ ?_
 rintro⟨arr,ds⟩ A ⟨i,hile,O,Ds,hj,hO,hsA,rfl,hz,hT,hnd,hD,glA⟩
 have hlen:(o.av.length:Int)<2 ^ 62∨True:=.inr trivial
 have h31:Act.eval ⟨arr,lu Ds⟩ (.tmp 31)= .int .i64 (i:Nat):=hT.Ja rfl
 have h30:Act.eval ⟨arr,lu Ds⟩ (.tmp 30)= .int .i64 o.av.length:=hT.Ja rfl
 refine wpIn_seq (wpIn_region ?_)
 refine mh (.inl rfl) I I (fun c e=>by cases e) (xw rfl h31 h30 (v:=.bool (decide ((i:Int)<o.av.length))) (by simp[binOp,Op.intCmp])) ?_
 have hz':arr.size=55:=hz
 have h32:((⟨arr,lu Ds⟩:Act).put (some 32) (.bool (decide ((i:Int)<o.av.length)))).eval (.tmp 32)= .bool (decide ((i:Int)<o.av.length)):=kK (by show 32<arr.size;omega)
 rcases Nat.lt_or_ge i o.av.length with hil|hil
 ·
  rw[decide_eq_true (show(i:Int)<o.av.length by omega)]at h32 ⊢
  refine wpIn_seq (wpIn_cond_true h32 (wpIn_skip ?_))
  refine wpIn_seq (wpIn_block ?_)
  obtain⟨ys,hvi,hys,hmany⟩:=hin i hil
  have hsA0:cY (Mo F0 W.heap.size O A) A.heap.size 55 ⟨[(1,.bg [.bg pc 0] 0),(2,.bg [aw pre] 0),(3,.bg [.raw (.func (.yield l) #[] #[])] 0),(29,aw o.av),(30,num o.av.length),(31,num (i:Nat))],[]⟩ (EF (Mo F0 W.heap.size O A)) ⟨arr.setIfInBounds 32 (.bool true),[]⟩ A:=
   ⟨Sat.start _ A (fun b h=>h.1) glA,(cG.put hT (.any (.bool true)) (by show 32<arr.size;omega)).sub (fun k p hk=>by
    refine⟨p,?_,lr.refl p⟩
    unfold look
    rw[Bool.cond_eq_ite,if_neg]
    ·exact hk
    ·intro e
     have:=Nat.eq_of_beq_eq_true e
     subst this
     cases hk),rfl,by simp[hz']⟩
  refine wpIn_seq (Cr (K:=fun s=>s=⟨[(1,.bg [.bg pc 0] 0),(2,.bg [aw pre] 0),(3,.bg [.raw (.func (.yield l) #[] #[])] 0),(4,num (i:Nat)),(5,num (o.av.getD i 0)),(29,aw o.av),(30,num o.av.length),(31,num (i:Nat))],[]⟩) hsA0 rfl ?_ ?_)
  ·refine eU.wr (.a 1 I<|.v (aJ (i) I (by omega) (by omega)) I<|.v (aK I (show(aL o.av)[i]? =some (num (o.av.getD i 0)) by simp[aL,List.getD_eq_getElem?_getD,List.getElem?_eq_getElem hil])) I<|.a 2 I<|.k [1,2,3,4,5,29,30,31] I) ?_
   exact rfl
  rintro _ E5 arr5 w5 rfl hs5 g5 b5
  have hil':i<vs.length:=by omega
  have hsix:=Lq.Eu vs ys pre o.av (o.av.getD i 0) i l n o c hpl hvi hil'
  rw[hpc]at hsix
  refine wpIn_seq (Ct mixed hs5 (by rw[hs5.sat.len];rfl) hsix ?_)
  rintro⟨t6,σ6⟩ E6 arr6 w6 ⟨hσ6,hsub6⟩ hs6 g6 b6
  simp only at hσ6 hsub6
  subst hσ6
  have hEA6:Ext A w6:=(Below.trans b5 b6:Below A.heap.size A w6)
  have hz6:arr6.size=55:=hs6.size
  have ht6:=hs6.tmp.sub hsub6
  have hF6:∀b,Mo F0 W.heap.size O A b→E6.M b:=fun b hb=>(hs6.sat.mm b).2 (.inl hb)
  have hpl2:aI (aL (pre++[o.av.getD i 0])):=inferInstance
  obtain⟨O6,hO6⟩:∃O6:Nat→Prop,O6=fun b=>O b∨(A.heap.size≤b∧b<w6.heap.size):=⟨_,rfl⟩
  have g6':cp (EF (Mo F0 W.heap.size O A)) w6 (EF (Mo F0 W.heap.size O6 w6)) w6:=ij (Nat.le_refl _) (fun b _ hn hm=>hn (vJ (fun b h=>by rw[hO6];exact .inl h) (fun b h1 h2=>by rw[hO6];exact .inr ⟨h1,h2⟩) hm)) (fun _ _ _=>rfl)
  have h48:=((aD.fy (f:=70) (ai.cons (aD.gC (i:=2) (k:=0) (blk:=.cells 92 [.bg ys 0]) (ys:=[.bg ys 0]) I (show ai _ [.bg ys 0] [.bg ys 0] from ai.pure))<|ai.cons (aD.gC (i:=3) (k:=0) (blk:=.cells 43 [.own 1]) (ys:=[aw (pre++[o.av.getD i 0])]) I (ai.cons (aD.dA (i:=1) I ai.pure) ai.nil)) ai.nil)).rep hs6.sat (G:=Mo F0 W.heap.size O A) hF6 (fun b hb=>(hs6.sat.fb b hb).2) _ (ht6 48 _ rfl)).goes g6'
  have hT6:cG (EF (Mo F0 W.heap.size O6 w6)) w6 (Act.eval ⟨arr6,[]⟩) [(1,.bg [.bg pc 0] 0),(2,.bg [aw pre] 0),(3,.bg [.raw (.func (.yield l) #[] #[])] 0),(29,aw o.av),(30,num o.av.length),(31,num (i:Nat))]:=
   (cG.one ((inferInstance:IsPure (.bg [.bg pc 0] 0)).out _ _ _ _ hF6 (ht6 1 _ rfl))<|cG.one ((inferInstance:IsPure (.bg [aw pre] 0)).out _ _ _ _ hF6 (ht6 2 _ rfl))<|cG.one ((inferInstance:IsPure (.bg [.raw (.func (.yield l) #[] #[])] 0)).out _ _ _ _ hF6 (ht6 3 _ rfl))<|
    cG.one ((inferInstance:IsPure (aw o.av)).out _ _ _ _ hF6 (ht6 29 _ rfl))<|cG.one ((inferInstance:IsPure (num o.av.length)).out _ _ _ _ hF6 (ht6 30 _ rfl))<|cG.one ((inferInstance:IsPure (num (i:Nat))).out _ _ _ _ hF6 (ht6 31 _ rfl)) cG.FR).goes g6'
  have gl6:iC (Mo F0 W.heap.size O6 w6) w6:=(glA.goes (E:=EF _) (E':=EF _) (.ext hEA6)).goes (E:=EF _) (E':=EF _) g6'
  have hs6A:=hEA6.size
  have j6:J (dT Ls i).length O6 w6:=hJ _ O A _ w6 hj hO hsA (.ext hEA6) (fun b=>by rw[hO6])
  have hO6b:∀b,O6 b→W.heap.size≤b∧b<w6.heap.size:=fun b hb=>by
   rw[hO6]at hb
   rcases hb with hb|hb
   ·have:=hO b hb;omega
   ·omega
  have hD6:∀D∈Ds,O6 D∧D<w6.heap.size∧w6.heap[D]? =some (.deferred (some [])):=fun D h=>by
   obtain⟨h1,h2⟩:=hD D h
   have:=(hO D h1).2
   exact⟨by rw[hO6];exact .inl h1,by omega,(hEA6.block D this).trans h2⟩
  have hsw:W.heap.size≤w6.heap.size:=by omega
  have hJA:Fe W.heap.size J:=hJ
  clear ht6 hs6 g6 b6 hsub6 hs5 g5 b5 hsix hF6 hT hsA0 g6' hO6
  generalize hz48:Act.eval ⟨arr6,[]⟩ (.tmp 48)=z48 at h48
  cases h48 with
  |func _ cs _ hcl hcr=>
  obtain⟨cs⟩:=cs
  match cs,hcl,hcr with
  | [xb',pb'],_,hcr=>
  have hxb:=hcr 0 xb' _ rfl rfl
  have hpb:=hcr 1 pb' _ rfl rfl
  refine wpIn_block ?_
  refine lX (show Act.eval ⟨arr6,lu Ds⟩ (.tmp 48)=_ from hz48) (enters_of Tryz.func70 (by kernel_rfl) I) (K:=(Ls i).length) (G:=MR (Mo F0 W.heap.size O6 w6) (Ls i)) (F0:=Mo F0 W.heap.size O6 w6) (fun b h=>h.1)
   (fun W' hE'=>hmany _ xb' pb' W' (fun b h=>Nat.lt_of_lt_of_le h.1 hE'.size) (gl6.goes (E:=EF _) (E':=EF _) (.ext hE')) (hxb.ext hE') (hpb.ext hE')) I (J9 F0 W.heap.size J (dT Ls i).length O6 w6)
   (fun k O A O' A' h1 h2 _ h4 h5=>DS hJA hsw h1 h2 h4 h5) (fun k O A l r o hl h1 h2=>HG hJA hsw hl h1 h2) ?_ ?_ ?_
  ·intro W1 hE1 hz1
   refine⟨fun b=>O6 b∨(w6.heap.size≤b∧b<W1.heap.size),hJ _ O6 w6 _ W1 j6 hO6b hsw (.ext hE1) (fun b=>Iff.rfl),fun b h=>h.elim,fun b h=>.inl h,.inr (by omega),.inr (by omega),fun b hb=>?_,by omega,fun b hb _=>hE1.block b hb⟩
   rcases hb with hb|hb
   ·have:=hO6b b hb;omega
   ·omega
  ·rintro m l2 k v O' A1 hl2 ⟨rl,hrl⟩ hk ⟨O1,j1,j2,j3,j4,j5,j7,j8,j9⟩ hO' hsz ⟨⟨re,rw_,rp⟩,hr,hvr⟩
   have hkey:∀b,Kept (Mo F0 W.heap.size O6 w6) (w6.heap.size+2) O' b→Kept F0 W.heap.size O1 b:=fun b hb=>by
    rcases hb with h|⟨h1,h2⟩
    ·exact .inl (j2 b h)
    ·rcases Nat.lt_or_ge b w6.heap.size with h|h
     ·exact(mb h h2).imp (j3 b) id
     ·rcases(show b=w6.heap.size∨b=w6.heap.size+1 by omega)with rfl|rfl
      ·exact .inl j4
      ·exact .inl j5
   have hv1:cu (EF (Mo F0 W.heap.size O1 A1)) A1 v (.agg (ey re rw_ rp)):=hvr.goes (ij (Nat.le_refl _) (fun b _ hn hm=>hn ⟨hm.1,fun hk=>hm.2 (hkey b hk)⟩) (fun _ _ _=>rfl))
   have g61:cp (EF (Mo F0 W.heap.size O6 w6)) w6 (EF (Mo F0 W.heap.size O1 A1)) A1:=ij (by omega) (fun b hb hn hm=>hm.2 ((mb hb hn).imp (j3 b) id)) (fun b hb hn=>j9 b hb (mb hb hn))
   have h3:=(hT6 3 _ rfl).goes g61
   have gl1:iC (Mo F0 W.heap.size O1 A1) A1:=gl6.goes (E:=EF _) (E':=EF _) g61
   have hsB0:cY (Mo F0 W.heap.size O1 A1) A1.heap.size 55 ⟨[(49,.agg (ey re rw_ rp)),(3,.bg [.raw (.func (.yield l) #[] #[])] 0)],[]⟩ (EF (Mo F0 W.heap.size O1 A1)) ((⟨arr6,[]⟩:Act).put (some 49) v) A1:=
    ⟨Sat.start _ A1 (fun b h=>h.1) gl1,cG.put (cG.one h3 cG.FR) hv1 (by show 49<arr6.size;omega),rfl,by simp[Act.put,hz6]⟩
   rw[show({tmps:=(#[49].zip #[v]).foldl (fun t (p,v)=>t.setIfInBounds p v) arr6,defers:=[]}:Act)=(⟨arr6,[]⟩:Act).put (some 49) v from by simp[Act.put]]
   refine mA (m:=2) (K:=fun s=>s=⟨[(3,.bg [.raw (.func (.yield l) #[] #[])] 0),(6,.ptr 0 0)],[some (.cells 59 (ey re rw_ rp))]⟩) I I hsB0 rfl (by refine ax 2 I ?_;refine aH [3,6] I ?_;rfl) ?_
   rintro _ Ea a7 Wa rfl hsB gB bB
   refine⟨⟨bB.size,fun b hb _=>(show Ext A1 Wa from bB).block b hb⟩,fun Wb ob hWb=>?_⟩
   have hEa:Ext A1 Wa:=bB
   have hla:Wa.heap[l2]? =some (.loop rl):=(hEa.block _ (Array.getElem?_eq_some_iff.1 hrl).1).trans hrl
   have hzb:Wb.heap.size=Wa.heap.size:=by rw[hWb];simp
   have hoth:∀k,k≠l2→Wb.heap[k]? =Wa.heap[k]? :=fun k hk=>by rw[hWb];exact World.putObj_heap_other hk
   have hza:=hEa.size
   obtain⟨O2,hO2⟩:∃O2:Nat→Prop,O2=fun b=>O1 b∨(A1.heap.size≤b∧b<Wa.heap.size):=⟨_,rfl⟩
   have hO12:∀b,O1 b→O2 b:=fun b h=>by rw[hO2];exact .inl h
   have hO2b:∀b,O2 b→W.heap.size≤b∧b<Wa.heap.size:=fun b hb=>by
    rw[hO2]at hb
    rcases hb with hb|hb
    ·have:=j7 b hb;omega
    ·omega
   have jA:J ((dT Ls i).length+k) O2 Wa:=hJ _ O1 A1 _ Wa j1 j7 (by omega) (.ext hEa) (fun b=>by rw[hO2])
   have jB:J ((dT Ls i).length+k) O2 Wb:=hJ _ O2 Wa O2 Wb jA hO2b (by omega) ⟨by rw[hWb];rfl,by rw[hWb];rfl,by rw[hWb];rfl,by omega,fun b hb hn=>hoth b (fun e=>hn (hO12 _ (by rw[e,hl2];exact j5))),fun b ob' hb hc=>(hoth b (fun e=>by subst e;rw[hla]at hb;cases hb;cases hc)).trans hb⟩ (fun b=>⟨.inl,fun h=>h.elim id (fun h=>by omega)⟩)
   have hpr:aI (ey re rw_ rp):=by unfold ey;infer_instance
   have g12:cp (EF (Mo F0 W.heap.size O1 A1)) Wb (EF (Mo F0 W.heap.size O2 Wb)) Wb:=ij (Nat.le_refl _) (fun b _ hn hm=>hn (vJ hO12 (fun b h1 h2=>by rw[hO2];exact .inr ⟨h1,by omega⟩) hm)) (fun _ _ _=>rfl)
   have r6:=(((aD.gC (i:=0) (k:=0) (blk:=.cells 59 (ey re rw_ rp)) (ys:=ey re rw_ rp) I (show ai _ (ey re rw_ rp) (ey re rw_ rp) from ai.pure)).rep hsB.sat (G:=Mo F0 W.heap.size O1 A1) (fun b hb=>(hsB.sat.mm b).2 (.inl hb)) (fun b hb=>(hsB.sat.fb b hb).2) _ (hsB.tmp 6 _ rfl)).other hla hzb hoth).goes g12
   have r3:=(((inferInstance:IsPure (.bg [.raw (.func (.yield l) #[] #[])] 0)).out _ (Mo F0 W.heap.size O1 A1) _ _ (fun b hb=>(hsB.sat.mm b).2 (.inl hb)) (hsB.tmp 3 _ rfl)).other hla hzb hoth).goes g12
   have glb:iC (Mo F0 W.heap.size O2 Wb) Wb:=((gl1.goes (E:=EF _) (E':=EF _) (.ext hEa)).other hla hoth).goes (E:=EF _) (E':=EF _) g12
   have hsC:cY (Mo F0 W.heap.size O2 Wb) Wb.heap.size 55 ⟨[(3,.bg [.raw (.func (.yield l) #[] #[])] 0),(6,.bg (ey re rw_ rp) 0)],[]⟩ (EF (Mo F0 W.heap.size O2 Wb)) a7 Wb:=
    ⟨Sat.start _ Wb (fun b h=>h.1) glb,cG.one r3 (cG.one r6 cG.FR),hsB.jL,hsB.size⟩
   refine wpIn_block (wpIn_seq ?_)
   refine mA (m:=2) (K:=fun s=>s=⟨[(50,.raw (.func (.yield l) #[] #[])),(51,.agg (ey re rw_ rp))],[]⟩) I I hsC rfl (by refine ax 2 I ?_;refine aH [50,51] I ?_;rfl) ?_
   rintro _ Ed a8 Wc rfl hsD gD bD
   have hEbc:Ext Wb Wc:=bD
   have hzc:=hEbc.size
   obtain⟨O3,hO3⟩:∃O3:Nat→Prop,O3=fun b=>O2 b∨(Wb.heap.size≤b∧b<Wc.heap.size):=⟨_,rfl⟩
   have hO23:∀b,O2 b→O3 b:=fun b h=>by rw[hO3];exact .inl h
   have hO3b:∀b,O3 b→W.heap.size≤b∧b<Wc.heap.size:=fun b hb=>by
    rw[hO3]at hb
    rcases hb with hb|hb
    ·have:=hO2b b hb;omega
    ·omega
   have jC:J ((dT Ls i).length+k) O3 Wc:=hJ _ O2 Wb _ Wc jB (fun b hb=>by rw[hzb];exact hO2b b hb) (by omega) (.ext hEbc) (fun b=>by rw[hO3])
   have g23:cp (EF (Mo F0 W.heap.size O2 Wb)) Wc (EF (Mo F0 W.heap.size O3 Wc)) Wc:=ij (Nat.le_refl _) (fun b _ hn hm=>hn (vJ hO23 (fun b h1 h2=>by rw[hO3];exact .inr ⟨h1,h2⟩) hm)) (fun _ _ _=>rfl)
   have h51:=((sJ re rw_ rp).out _ (Mo F0 W.heap.size O2 Wb) _ _ (fun b hb=>(hsD.sat.mm b).2 (.inl hb)) (hsD.tmp 51 _ rfl)).goes g23
   have hz8:a8.tmps.size=55:=hsD.size
   have hlt:(dT Ls i).length+k<(dT Ls o.av.length).length:=by have:=qt Ls hil;omega
   show wpOpsIn _ _ _ _ _ [2,3] a8 Wc
   refine B8 (x:=.tmp 50) (y:=.tmp 51) I I I (eF (hsD.tmp 50 _ rfl)) (hY _ _ _ O3 Wc hlt jC hO3b (by omega) ⟨(re,rw_,rp),(xa Ls hk hil).trans hr,h51⟩) ?_
   rintro e4 W4 ⟨rfl,hj4,hk4⟩
   refine⟨_,rfl,?_⟩
   refine mh (.inr ⟨_,rfl⟩) I I (fun c e=>by cases e) (EE rfl (kK (by omega))) ?_
   refine wpIn_cond_false (kK (by simp[Act.put,hz8])) (wpIn_skip ?_)
   have hz4:=hk4.size
   refine⟨⟨O3,hj4,fun b h=>hO23 b (hO12 b (j2 b h)),fun b h=>hO23 b (hO12 b (j3 b h)),hO23 _ (hO12 _ j4),hO23 _ (hO12 _ j5),fun b hb=>by have:=hO3b b hb;omega,by omega,fun b hb hkb=>?_⟩,by omega,fun b hb hkb=>?_⟩
   ·rw[hk4.block b (by omega) (hkb.imp (fun h=>hO23 b (hO12 b (j3 b h))) id),hEbc.block b (by omega),hoth b (by omega),hEa.block b (by omega)]
    exact j9 b hb hkb
   ·rw[hk4.block b (by omega) ((hkey b hkb).imp (fun h=>hO23 b (hO12 b h)) id),hEbc.block b hb]
  ·rintro O' W' ⟨O1,j1,j2,j3,j4,j5,j7,j8,j9⟩ hO' hsz hD4
   have g6W:cp (EF (Mo F0 W.heap.size O6 w6)) w6 (EF (Mo F0 W.heap.size O1 W')) W':=ij (by omega) (fun b hb hn hm=>hm.2 ((mb hb hn).imp (j3 b) id)) (fun b hb hn=>j9 b hb (mb hb hn))
   have hTW:=hT6.goes g6W
   refine wpIn_region ?_
   refine mh (.inl rfl) I I (fun c e=>by cases e) (xw rfl (show Act.eval {tmps:=arr6,defers:=_} (.tmp 31)=_ from hT6.Ja rfl) I (v:=.int .i64 ((i+1:Nat):Int)) (by simp[binOp,Op.intArith,jF (show In64 ((i:Int)+1) by unfold In64;omega)])) ?_
   refine mh (.inl rfl) I I (fun c e=>by cases e) (B0 rfl) ?_
   have h31n:Act.eval ((Act.put {tmps:=arr6,defers:=({target:=.collected w6.heap.size,args:= #[]}:Deferred)::lu Ds} (some 54) (.int .i64 ((i+1:Nat):Int))).put (some 31) (Act.eval (Act.put {tmps:=arr6,defers:=({target:=.collected w6.heap.size,args:= #[]}:Deferred)::lu Ds} (some 54) (.int .i64 ((i+1:Nat):Int))) (.tmp 54))) (.tmp 31)= .int .i64 ((i+1:Nat):Int):=
    (kK (k:=31) (by show 31<(arr6.setIfInBounds 54 _).size;simp[hz6])).trans (kK (k:=54) (by show 54<arr6.size;omega))
   have hother:∀j,j≠31→j≠54→Act.eval ((Act.put {tmps:=arr6,defers:=({target:=.collected w6.heap.size,args:= #[]}:Deferred)::lu Ds} (some 54) (.int .i64 ((i+1:Nat):Int))).put (some 31) (Act.eval (Act.put {tmps:=arr6,defers:=({target:=.collected w6.heap.size,args:= #[]}:Deferred)::lu Ds} (some 54) (.int .i64 ((i+1:Nat):Int))) (.tmp 54))) (.tmp j)=Act.eval ⟨arr6,[]⟩ (.tmp j):=fun j h1 h2=>
    (qJ (k:=31) h1).trans (qJ (k:=54) h2)
   refine⟨⟨i+1,hil,O1,w6.heap.size::Ds,?_,j7,by omega,rfl,by show((arr6.setIfInBounds 54 _).setIfInBounds 31 _).size=55;simp[hz6],?_,?_,?_,?_⟩,?_⟩
   ·show J (dT Ls (i+1)).length O1 W'
    rw[dT,List.length_append]
    exact j1
   ·refine cG.one ((hother 1 (by decide) (by decide)).symm▸hTW 1 _ rfl)<|cG.one ((hother 2 (by decide) (by decide)).symm▸hTW 2 _ rfl)<|cG.one ((hother 3 (by decide) (by decide)).symm▸hTW 3 _ rfl)<|cG.one ((hother 29 (by decide) (by decide)).symm▸hTW 29 _ rfl)<|cG.one ((hother 30 (by decide) (by decide)).symm▸hTW 30 _ rfl)<|cG.one ?_ cG.FR
    exact(congrArg (fun v=>cu (EF (Mo F0 W.heap.size O1 W')) W' v (num ((i+1:Nat):Int))) h31n).mpr (.raw _)
   ·exact List.nodup_cons.2 ⟨fun h=>by have:=(hD6 _ h).2.1;omega,hnd⟩
   ·intro D h
    rcases List.mem_cons.1 h with rfl|h
    ·exact⟨j4,hD4⟩
    ·obtain⟨h1,h2,h3⟩:=hD6 D h
     exact⟨j3 D h1,(j9 D h2 (.inl h1)).trans h3⟩
   ·exact gl6.goes (E:=EF _) (E':=EF _) g6W
   ·show Dz _ _<Dz _ _
    have e1:=AN (la:=o.av) h31
    have e2:=AN (la:=o.av) h31n
    exact Nat.lt_of_le_of_lt (Nat.le_of_eq e2) (Nat.lt_of_lt_of_le (show o.av.length - (i+1)<o.av.length - i by omega) (Nat.le_of_eq e1.symm))
 ·
  have hie:i=o.av.length:=by omega
  subst hie
  rw[decide_eq_false (show ¬((o.av.length:Int)<o.av.length) by omega)]at h32 ⊢
  refine wpIn_seq (wpIn_cond_false h32 (wpIn_exit ?_))
  show LeavesInM _ _ _ _ _ _ (lu Ds) _ _
  refine oy (by simp) Ds A hnd (fun D h=>(hD D h).2) (fun W' h1 h2 h3 h4 h5=>?_)
  refine⟨_,results_none rfl _ _ _,⟨_,rfl⟩,O,?_,fun b hb=>by rw[h4];exact hO b hb,by rw[h4];exact hsA⟩
  refine hJ _ _ A _ W' hj hO hsA ⟨h1,h2,h3,by rw[h4];exact Nat.le_refl _,fun b hb hn=>h5 b (fun hbD=>hn (hD b hbD).1),fun b ob hb hc=>(h5 b (fun hbD=>?_)).trans hb⟩ (fun b=>⟨.inl,fun h=>h.elim id (fun h=>by omega)⟩)
  rw[(hD b hbD).2]at hb
  cases hb
  cases hc
attribute [local go_sem] Oper.semAt_some
theorem zz{w:World}{a:Addr}{x:Value}(h:w.cell? a=some x):∃o,w.heap[a.block]? =some o∧o.isCells=true:=by
 unfold World.cell? at h
 cases ho:w.heap[a.block]? with
 |none=>rw[ho]at h;simp at h
 |some o=>exact⟨o,rfl,by rw[ho]at h;cases o<;>simp_all[Obj.isCells]⟩
theorem cu.cells{E:Env}{w w':World}(hz:w.heap.size≤w'.heap.size)(hc:∀(k:Nat) (o:Obj),w.heap[k]? =some o→o.isCells=true→w'.heap[k]? =some o){v:Value}{p:PV}(h:cu E w v p):cu E w' v p:=by
 have key:∀ {a:Addr} {x:Value},w.cell? a=some x→w'.cell? a=some x:=fun {a x} h=>by
  obtain⟨o,h1,h2⟩:=zz h
  rw[mF ((hc _ _ h1 h2).trans h1.symm)]
  exact h
 induction h with
 |any v=>exact .any v
 |raw v=>exact .raw v
 |cc=>exact .cc
 |empty a c h=>exact .empty a c h
 |slice b off n c cs xs h0 h1 h2 hb hM hcc hl2 _ ih=>exact .slice b off n c cs xs h0 h1 h2 (by omega) hM (fun i x hx=>key (hcc i x hx)) hl2 ih
 |bg b o' off cs xs hb hM hcc hl2 _ ih=>exact .bg b o' off cs xs (by omega) hM (fun i x hx=>key (hcc i x hx)) hl2 ih
 |agg cs xs hl2 _ ih=>exact .agg cs xs hl2 ih
 |tuple cs xs hl2 _ ih=>exact .tuple cs xs hl2 ih
 |func f cs xs hl2 _ ih=>exact .func f cs xs hl2 ih
 |ptr i off b hi h=>exact .ptr i off b hi h
 |own i hi v h hs=>exact .own i hi v h hs
 |bound f cs xs hl2 _ ih=>exact .bound f cs xs hl2 ih
theorem sC(ys:List PV)[aI ys]:Can Tryz.prog 42 [.bg ys 0,.raw (.slice none 0 0)] (· = .func 70 [.bg [.bg ys 0] 0,.bg [aw []] 0]):=by
 refine aT Tryz.func42 I Tryz.ntmps42 I<|aR<|cg (eV (xs:=[_]) I I I) I<|cg (eV (xs:=[_]) I I I) I<|ax 1 I<|aH [2,3] I ?_
 exact af (.a 2 I<|.k [4] I)<|az<|⟨_,_,aE.of I,aD.fy (ai.cons (aD.gC (i:=0) (ys:=[.bg ys 0]) I (show ai _ [.bg ys 0] [.bg ys 0] from ai.pure))<|ai.cons (aD.gC (i:=1) I (ai.cons aD.cc ai.nil)) ai.nil),rfl⟩
section
variable {T:ah} {tb:Nat→eN} {p0:gg} {Φ:Nat→Nat→List cr→Prop}
theorem Good.H5{v:PV}{n:Nat}{s:List cr}{c:Int}(h:Good T tb p0 Φ v n s c):∃ys,v= .bg ys 0∧aI ys:=by
 obtain⟨vs,cs,e1,e2,e3,e4,e5⟩:=h.parts
 haveI:aI vs:=⟨fun i x hx=>by
  have hlt:=(List.getElem?_eq_some_iff.1 hx).1
  have:=(e5 i (by rw[←e2];exact hlt)).pure
  rw[List.getD_eq_getElem?_getD,hx]at this
  exact this⟩
 exact⟨_,e1,by unfold dq;infer_instance⟩
end
attribute [local go_sem] Oper.semAt_some
theorem Sat.Lf{F:Nat→Prop}{base:Nat}{σ:bN}{E:Env}{O:Nat→Prop}{A A':World}(h:Sat F base σ E A)(hM:∀b,E.M b→¬O b)(hA:qU O A A'):Sat F base σ E A':=by
 have hL:∀ {cs:List Value} {xs:List PV},aV E A cs xs→aV E A' cs xs:=fun hr=>⟨hr.1,fun i x u k1 k2=>(hr.2 i x u k1 k2).cells hA.size hA.cells⟩
 have hz:=hA.size
 refine⟨Nat.le_trans h.bl hz,fun b hb=>⟨Nat.lt_of_lt_of_le (h.fb b hb).1 hz,(h.fb b hb).2⟩,h.len,h.mm,fun i blk hi=>?_,h.inj,fun g cs hg=>?_⟩
 ·have hb:=h.blk i blk hi
  cases blk with
  |cells t xs=>
   obtain⟨b',cs,he,h1,h2,h3⟩:=hb
   exact⟨b',cs,he,h1,hA.cells _ _ h2 rfl,hL h3⟩
  |row e size n xs=>
   obtain⟨cs,h1,h2⟩:=hb
   refine⟨cs,⟨h1.1,?_⟩,hL h2⟩
   rcases h1.2 with h|⟨g',cap,cur,he,k1,k2,k3⟩
   ·exact .inl h
   ·exact .inr ⟨g',cap,cur,he,k1,hA.cells _ _ k2 rfl,k3⟩
  |mp kv=>
   obtain⟨r',es,ck,he,h1,h2,h3,h4⟩:=hb
   exact⟨r',es,ck,he,h1,(hA.block r' (Array.getElem?_eq_some_iff.1 h2).1 (hM r' ((h.mm r').2 (.inr ⟨i,_,hi,by rw[he];rfl⟩)))).trans h2,h3,hL h4⟩
 ·obtain⟨h1,t,fz,h2⟩:=h.gl g cs hg
  exact⟨h1,t,fz,hA.cells _ _ h2 rfl⟩
def p9(L:List Rs):List PV:=L.flatMap fun r=>ey r.1 r.2.1 r.2.2
instance (L:List Rs):aI (p9 L):=aI.flatMap _ _ fun _=>by unfold ey;infer_instance
theorem Di{L:List Rs}{k:Nat}{r:Rs}(h:L[k]? =some r):p9 (L.take k)++ey r.1 r.2.1 r.2.2=p9 (L.take (k+1)):=by
 rw[List.take_add_one,h]
 simp[p9]
def LD(F0:Nat→Prop)(w:World)(M2:Nat→Prop)(s B:Nat)(L:List Rs)(k:Nat)(O:Nat→Prop)(A:World):Prop:=
 ∃E,Sat F0 w.heap.size [some (.cells 53 [.own 1]),some (.row 59 3 k (p9 (L.take k)))] E A∧E.at_ 0= .pointer (some ⟨B,0,none⟩)∧(∀b,E.M b→¬Kept M2 s O b)∧Below w.heap.size w A
set_option maxRecDepth 100000 in
set_option maxHeartbeats 8000000 in
theorem zP{xv pv:PV}[IsPure xv][IsPure pv]{L:List Rs}(hLl:L.length≤1000)
  (hin:∀(F0:Nat→Prop) (xb pb:Value) (W':World),(∀b,F0 b→b<W'.heap.size)→iC F0 W'→cu (EF F0) W' xb xv→cu (EF F0) W' pb pv→u7 Tryz.prog 70 #[xb,pb] L.length (MR F0 L) F0 W'):
  Can Tryz.prog 69 [.raw (.slice none 0 0),.func 70 [xv,pv]] (· = .slice L.length (p9 L)):=by
 intro F0 w vs hF gl hR
 refine(callsIn_wide (n:=4)).1 ?_
 refine callsIn_of_wp_marks Tryz.func69 I trivial ?_ rfl
 have hs0:=iW (N:=13) (Sat.start F0 w hF gl) hR (by have:=hR.1;simp at this;omega)
 have hc0:px w.heap.size 0 (EF F0) w (EF F0) w:=⟨rfl,cp.refl _ _,Below.refl _ _⟩
 refine wpIn_seq (piece (L:=0) (K:=fun s=>s=⟨[(1,.func 70 [xv,pv]),(2,.ptr 0 0)],[some (.cells 53 [.raw (.slice none 0 0)])]⟩) hc0 hs0 ?_ ?_)
 ·skip
  refine bx<|cg (eV (xs:=[_]) I I I) I<|ax 1 I<|aH [1,2] I ?_
  exact rfl
 rintro _ E1 a1 w1 rfl hs1 g1 b1
 refine wpIn_seq (wpIn_seq (piece (L:=0) (K:=fun s=>s=⟨[(2,.ptr 0 0),(6,.func 70 [xv,pv])],[some (.cells 53 [.own 1]),some (.row 59 3 0 [])]⟩) ⟨rfl,g1,b1⟩ hs1 ?_ ?_))
 ·refine cB 0 0 59 3 I I ?_
  refine aF (.a 1 I<|.k [2,6] I) ?_
  exact rfl
 rintro _ E2 a2 w2 rfl hs2 g2 b2
 have hE2:Ext w w2:=b2
 have hF2:∀b,F0 b→b<w2.heap.size:=fun b hb=>Nat.lt_of_lt_of_le (hF b hb) hE2.size
 have hM2:∀b,E2.M b→b<w2.heap.size:=fun b hb=>hs2.sat.lt hb
 obtain⟨B,cs0,hB,hBb,hBh,hBr⟩:=hs2.sat.blk 0 _ rfl
 have h6:=(inferInstance:IsPure (.func 70 [xv,pv])).out _ E2.M _ _ (fun b hb=>hb) (hs2.tmp 6 _ rfl)
 have h2:a2.eval (.tmp 2)= .pointer (some ⟨B,0,none⟩):=by
  have:=hs2.tmp 2 _ rfl
  generalize a2.eval (.tmp 2)=z at this
  cases this with
  |ptr _ _ b' _ h=>
   rcases h with h|⟨n',c',h⟩<;>rw[hB]at h<;>cases h
   rfl
 have hd2:=hs2.jL
 have hz2:=hs2.size
 generalize hz48:a2.eval (.tmp 6)=z48 at h6
 cases h6 with
 |func _ cs _ hcl hcr=>
 obtain⟨cs⟩:=cs
 match cs,hcl,hcr with
 | [xb',pb'],_,hcr=>
 have hxb:=hcr 0 xb' _ rfl rfl
 have hpb:=hcr 1 pb' _ rfl rfl
 have hs2w:=hE2.size
 refine wpIn_block ?_
 refine lX hz48 (enters_of Tryz.func70 (by kernel_rfl) I) (K:=L.length) (G:=MR E2.M L) (F0:=E2.M) hM2
  (fun W' hE'=>hin _ xb' pb' W' (fun b h=>Nat.lt_of_lt_of_le (hM2 b h) hE'.size) (hs2.sat.gl.goes (E:=EF _) (E':=EF _) (.ext hE')) (hxb.ext hE') (hpb.ext hE')) I (LD F0 w E2.M (w2.heap.size+2) B L) ?_ ?_ ?_ ?_ ?_
 ·rintro k O A O' A' ⟨E,hS,hB0,hK,hb⟩ hO hs hA hM
  refine⟨E,hS.Lf (fun b hb h=>hK b hb (.inl h)) hA,hB0,fun b hb h=>?_,hb.trans ⟨hA.os,hA.tape,hA.output,hA.size,fun b hb'=>hA.block b (by omega) (fun h=>by have:=(hO b h).1;omega)⟩⟩
  rcases h with h|h
  ·rcases(hM b).1 h with h|h
   ·exact hK b hb (.inl h)
   ·have:=hS.lt hb;omega
  ·exact hK b hb (.inr h)
 ·rintro k O A l r o rfl ⟨E,hS,hB0,hK,hb⟩ hr
  exact⟨E,hS.other hr (by simp) (fun k hk=>World.putObj_heap_other hk),hB0,hK,hb.trans ⟨rfl,rfl,rfl,by simp,fun b hb'=>World.putObj_heap_other (by omega)⟩⟩
 ·intro W1 hE1 hz1
  exact⟨E2,hs2.sat.ext hE1,hB,fun b hb h=>h.elim id (fun h=>h.2 hb),Below.trans b2 (Below.fB hE1 hs2w)⟩
 ·rintro m l2 k v O A1 hl2 ⟨rl,hrl⟩ hk ⟨E,hS,hB0,hK,hbw⟩ hO hsz ⟨⟨re,rw_,rp⟩,hr,hvr⟩
  have hpr:aI (ey re rw_ rp):=by unfold ey;infer_instance
  have hor:cZ (ey re rw_ rp):=by unfold ey;infer_instance
  obtain⟨arr2,ds2⟩:=a2
  simp only at hd2 hz2
  subst hd2
  have hvE:cu E A1 v (.agg (ey re rw_ rp)):=cu.back (hvr.goes (ij (M':=E.M) (Nat.le_refl _) (fun b hb hn hm=>hK b hm (mb hb hn)) (fun _ _ _=>rfl)))
  have hEL:E.L=2:=hS.len
  have h2E:cu E A1 (Act.eval ⟨arr2,[]⟩ (.tmp 2)) (.ptr 0 0):=by
   rw[h2]
   exact .ptr 0 0 B (by omega) (.inl hB0)
  have hsA:cY F0 w.heap.size 13 ⟨[(7,.agg (ey re rw_ rp)),(2,.ptr 0 0)],[some (.cells 53 [.own 1]),some (.row 59 3 k (p9 (L.take k)))]⟩ E ((⟨arr2,[]⟩:Act).put (some 7) v) A1:=
   ⟨hS,cG.put (cG.one h2E cG.FR) hvE (by show 7<arr2.size;omega),rfl,by simp[Act.put,hz2]⟩
  rw[show({tmps:=(#[7].zip #[v]).foldl (fun t (p,v)=>t.setIfInBounds p v) arr2,defers:=[]}:Act)=(⟨arr2,[]⟩:Act).put (some 7) v from by simp[Act.put]]
  refine mA (m:=2) (L:=E.L) (K:=fun s=>s=⟨[(2,.ptr 0 0),(5,.bg (ey re rw_ rp) 0)],[some (.cells 53 [.own 1]),some (.row 59 3 k (p9 (L.take k))),none]⟩) I I hsA rfl (by
   rw[hEL]
   refine ax 2 I ?_
   refine IU 2 (σ':=[some (.cells 53 [.own 1]),some (.row 59 3 k (p9 (L.take k))),none]) (t':=[(2,.ptr 0 0),(5,.bg (ey re rw_ rp) 0)]) (blk:=.cells 59 (ey re rw_ rp)) I ⟨rfl,rfl,fun j hj=>.inl (by match j,hj with|0,_=>rfl|1,_=>rfl|2,h=>exact absurd rfl h|_+3,_=>rfl)⟩ (.cons 2 I (.same _)<|.cons 5 I (.ptr 0) .nil) ?_
   exact bf I) ?_
  rintro _ Ea a7 Wa rfl hsB gB bB
  have hza:=gB.size
  refine⟨⟨gB.size,fun b hb hkb=>gB.heap b hb (fun hm=>hK b hm hkb)⟩,fun Wb ob hWb=>?_⟩
  have hla:Wa.heap[l2]? =some (.loop rl):=(gB.heap _ (Array.getElem?_eq_some_iff.1 hrl).1 (fun hm=>hK _ hm (.inr ⟨by omega,fun h=>by have:=hM2 _ h;omega⟩))).trans hrl
  have hzb:Wb.heap.size=Wa.heap.size:=by rw[hWb];simp
  have hoth:∀k,k≠l2→Wb.heap[k]? =Wa.heap[k]? :=fun k hk=>by rw[hWb];exact World.putObj_heap_other hk
  have hsC:cY F0 w.heap.size 13 ⟨[(2,.ptr 0 0),(5,.bg (ey re rw_ rp) 0)],[some (.cells 53 [.own 1]),some (.row 59 3 k (p9 (L.take k))),none]⟩ Ea a7 Wb:=
   ⟨hsB.sat.other hla hzb hoth,hsB.tmp.other hla hzb hoth,hsB.jL,hsB.size⟩
  refine wpIn_block ?_
  refine mA (m:=5) (L:=Ea.L) (K:=fun s=>s.σ=[some (.cells 53 [.own 3]),none,none,some (.row 59 3 (k+1) (p9 (L.take k)++ey re rw_ rp))]) I I hsC rfl (by
   refine ax 2 I ?_
   refine bw (aS (xs:=ey re rw_ rp) I (bG.sl.get I) ⟨Nat.le_of_ble_eq_true rfl,Nat.le_of_ble_eq_true rfl⟩ rfl rfl) I ?_
   refine cg (bC (e:=59) (s:=3) (by':=40) (i:=1) (m:=1) (n:=k) (xs:=p9 (L.take k)) (ys:=ey re rw_ rp) I (bG.rk.get I) I I I I ⟨by unfold maxLen;omega,by omega⟩) I ?_
   refine ba (cm I (bG.tk.get I) I I I (Nat.le_of_ble_eq_true rfl)) I I ?_
   exact bf I) ?_
  rintro⟨t8,σ8⟩ E8 a8 W3 hσ8 hs8 g8 b8
  simp only at hσ8
  subst hσ8
  have hx:p9 (L.take k)++ey re rw_ rp=p9 (L.take (k+1)):=Di hr
  obtain⟨M,hM,hS'⟩:=hs8.sat.nv (fs:=[0,3]) (σ':=[some (.cells 53 [.own 1]),some (.row 59 3 (k+1) (p9 (L.take k)++ey re rw_ rp))]) (.kept rfl (.cells (ao.cons (Ren.own (i:=1) I) ao.nil))<|.kept rfl (.row ao.pure) .nil) I
  rw[hx]at hS'
  have hMo:∀b,E8.M b→¬Kept E2.M (w2.heap.size+2) O b:=fun b hb hkb=>by
   rcases Nat.lt_or_ge b A1.heap.size with h|h
   ·exact g8.M b (by omega) (gB.M b h (fun hm=>hK b hm hkb)) hb
   ·rcases hkb with h'|h'
    ·have:=(hO b h').2;omega
    ·omega
  have hMa:∀b,Ea.M b→¬Kept E2.M (w2.heap.size+2) O b:=fun b hb hkb=>by
   rcases Nat.lt_or_ge b A1.heap.size with h|h
   ·exact gB.M b h (fun hm=>hK b hm hkb) hb
   ·rcases hkb with h'|h'
    ·have:=(hO b h').2;omega
    ·omega
  refine⟨⟨_,hS',?_,fun b hb=>hMo b (hM b hb),(hbw.trans bB).trans (Below.trans ⟨by rw[hWb];rfl,by rw[hWb];rfl,by rw[hWb];rfl,by omega,fun b hb'=>hoth b (by omega)⟩ b8)⟩,⟨b8.size,fun b h1 h2=>g8.heap b h1 (fun hm=>hMa b hm h2)⟩⟩
  show E8.at_ 0=_
  rw[g8.at_ 0 (by rw[hsC.sat.len];simp),gB.at_ 0 (by omega),hB0]
 ·rintro O W' ⟨E,hS,hB0,hK,hbw⟩ hO hsz hD
  rw[List.take_length]at hS
  obtain⟨B',cs,hB',hBb',hBh',hBr'⟩:=hS.blk 0 _ rfl
  rw[hB0]at hB'
  cases hB'
  obtain⟨cl⟩:=cs
  match cl,hBr' with
  | [],hBr'=>exact absurd hBr'.1 (by simp)
  |_::_::_,hBr'=>exact absurd hBr'.1 (by simp)
  | [cv],hBr'=>
  have hown:=hBr'.2 0 cv _ rfl rfl
  have hrep:cu (EF F0) W' cv (.slice L.length (p9 L)):=(aD.dA (i:=1) I (show ai _ (p9 L) (p9 L) from ai.pure)).rep hS (G:=F0) (fun b hb=>(hS.mm b).2 (.inl hb)) (fun b hb=>(hS.fb b hb).2) _ hown
  have hcell:W'.cell? ⟨B,0,none⟩=some cv:=by simp[World.cell?,hBh']
  have hz2':a2.tmps.size=13:=hz2
  refine wpIn_seq (wpIn_region ?_)
  refine mh (.inl rfl) I I (fun c e=>by cases e) (B1 rfl (bG.tk.get I) (show Act.eval {a2 with defers:=_} (.tmp 2)=_ from h2) hcell) ?_
  refine mh (.inl rfl) I I (fun c e=>by cases e) (xC rfl) ?_
  refine wpIn_ret ?_
  show LeavesInM _ _ _ _ _ _ (_::a2.defers) _ _
  rw[hd2]
  refine⟨by simp,.inl ⟨_,_,rfl,run_takeDeferred hD,?_⟩⟩
  refine⟨cv,?_,cv,rfl,?_,_,rfl,?_⟩
  ·refine(results_tmp rfl _ _ _).trans ?_
   congr 1
   refine(kK (k:=4) (a:=Act.put {a2 with defers:=_} (some 12) cv) (v:=_) (by show 4<(a2.tmps.setIfInBounds 12 cv).size;simp[hz2'])).trans ?_
   exact kK (k:=12) (a:= {a2 with defers:=_}) (by show 12<a2.tmps.size;omega)
  ·refine⟨hbw.os,hbw.tape,hbw.output,?_,fun k hk=>?_⟩
   ·have:=hbw.size;simp only[World.putObj_size];omega
   ·rw[World.putObj_heap_other (by omega)];exact hbw.block k hk
  ·have hrp:eX.Rest 0 (w2.heap.size+1) W' (W'.putObj w2.heap.size (.deferred none)):=Rest.put hD rfl (Nat.zero_le _) (Nat.lt_succ_self _)
   exact cu.cells hrp.size hrp.cells hrep
end
end PW
end Go.Proofs.YteikppbedmmdnaaGreatDoor
