/- Texts of the proof, part 14. -/
import Derived.Test.YtnegbdpggideiaaGreatDoorCardMMB13
set_option linter.unusedVariables false
set_option linter.unusedSimpArgs false
set_option maxRecDepth 10000
set_option maxHeartbeats 1000000
namespace Go.Proofs.YtnegbdpggideiaaGreatDoor
namespace PW
open Go.RowKit cB Mem
theorem o6{w w':World}{l:Nat}{r:Loop}(hl:w.heap[l]? =some (.loop r))(ho:∀k,k≠l→w'.heap[k]? =w.heap[k]?){a:Addr}{x:Value}(h:w.cell? a=some x):w'.cell? a=some x:=by
 have hne:a.block≠l:=fun e=>by
  unfold World.cell? at h
  rw[e,hl]at h
  simp at h
 rw[jJ (ho _ hne)]
 exact h
theorem cD.other{E:Env}{w w':World}{l:Nat}{r:Loop}(hl:w.heap[l]? =some (.loop r))(hz:w'.heap.size=w.heap.size)(ho:∀k,k≠l→w'.heap[k]? =w.heap[k]?){v:Value}{p:PV}(h:cD E w v p):cD E w' v p:=by
 induction h with
 |any v=>exact .any v
 |raw v=>exact .raw v
 |bZ=>exact .bZ
 |empty a c h=>exact .empty a c h
 |slice b off n c cs xs h0 h1 h2 hb hM hc hl2 _ ih=>exact .slice b off n c cs xs h0 h1 h2 (by omega) hM (fun i x hx=>o6 hl ho (hc i x hx)) hl2 ih
 |aX b o' off cs xs hb hM hc hl2 _ ih=>exact .aX b o' off cs xs (by omega) hM (fun i x hx=>o6 hl ho (hc i x hx)) hl2 ih
 |agg cs xs hl2 _ ih=>exact .agg cs xs hl2 ih
 |tuple cs xs hl2 _ ih=>exact .tuple cs xs hl2 ih
 |func f cs xs hl2 _ ih=>exact .func f cs xs hl2 ih
 |ptr i off b hi h=>exact .ptr i off b hi h
 |own i hi v h hs=>exact .own i hi v h hs
theorem gV.other{F:Nat→Prop}{w w':World}{l:Nat}{r:Loop}(hl:w.heap[l]? =some (.loop r))(ho:∀k,k≠l→w'.heap[k]? =w.heap[k]?)(h:gV F w):gV F w':=fun g cs hg=>by
 obtain⟨h1,t,fz,h2⟩:=h g cs hg
 have hne:g≠l:=fun e=>by rw[e,hl]at h2;cases h2
 exact⟨h1,t,fz,by rw[ho g hne];exact h2⟩
section
variable {P:Program} {ops:Array Oper} {n:Nat}
theorem CD{lp:Nat}{o:Oper}{a:Act}{w:World}{K K':Act→World→Prop}{Q Q':Exit→Act→World→Prop}(hnd:∀c,o.op≠ .defer c)(hK:∀a w,K a w→K' a w)(hp:∀c a w,Q (.panic c) a w→Q' (.panic c) a w)(hL:¬LetsOut Q)(h:o.wp P a w K Q):o.wpIn (Fence.wide.inRound lp) n P a w K' Q':=by
 refine⟨fun _ _=>trivial,?_⟩
 rw[Fence.inRound_round,Oper.semAt_eq _ _ _ hnd]
 unfold Oper.wp at h
 generalize (execOp a.eval o).run P w=x at*
 cases x with
 |ok x w'=>
  cases x<;>simp only[Oper.uponIn,Oper.upon]at h ⊢
  case value v=>exact hK _ _ h
  case skip=>exact hK _ _ h
  case defer d=>exact hK _ _ h
  case enter f args=>exact⟨fun h=>by simp[Fence.wide]at h,CallsIn.inRound lp (callsIn_wide.2 (h.mono fun e w'' he=>by cases e<;>first|exact hK _ _ he|exact hp _ _ _ he|exact(hL he).elim))⟩
  case row r args=>exact⟨fun h=>by simp[Fence.wide]at h,fun c cs _=>by
   obtain⟨v,w',r,s⟩:=h c cs
   exact⟨v,w',hK _ _ r,stepsIn_wide.2 s⟩⟩
  all_goals exact h.elim
 |halt x w'=>cases x<;>simp only[Oper.uponIn,Oper.upon]at h ⊢ <;>first|exact hp _ _ _ h|exact h
def CM(lp n:Nat)(P:Program)(ops:Array Oper)(Q:Exit→Act→World→Prop)(js:List Nat):Exit→Act→World→Prop
 | .normal,a,w=>wpOpsIn (Fence.wide.inRound lp) n P ops Q js a w
 |_,_,_=>False
theorem s9{lp:Nat}{Q:Exit→Act→World→Prop}{js:List Nat}:¬LetsOut (CM lp n P ops Q js):=fun⟨_,_,h⟩=>h
theorem zO{lp m:Nat}{Q:Exit→Act→World→Prop}{js:List Nat}(hm:m≤ops.size)(hg:∀(i:Nat) o,i<m→ops[i]? =some o→o.guard=none∧∀c,o.op≠ .defer c):∀(is:List Nat) (a:Act) (w:World),(∀i∈is,i<m)→wpOps P (ops.extract 0 m) (CM lp n P ops Q js) is a w→wpOpsIn (Fence.wide.inRound lp) n P ops Q (is++js) a w
 | [],a,w,_,h=>h
 |i::is,a,w,hi,h=>by
  have him:=hi i (by simp)
  have hget:(ops.extract 0 m)[i]? =ops[i]? :=by rw[Array.getElem?_extract];simp;omega
  rw[wpOps_cons]at h
  rw[List.cons_append,wpOpsIn_cons]
  unfold wpOp at h
  unfold wpOpIn
  rw[hget]at h
  have ho:ops[i]? =some ops[i]:=Array.getElem?_eq_getElem (by omega)
  rw[ho]at h ⊢
  simp only at h ⊢
  obtain⟨h1,h2⟩:=hg i _ him ho
  have hw:∀x,Region.wanted ops[i] x=true:=fun x=>by unfold Region.wanted;rw[h1]
  rw[if_pos (hw _)]at h ⊢
  rcases h with h|⟨_,h⟩
  ·exact CD h2 (fun a' w' h=>zO hm hg is a' w' (fun j hj=>hi j (by simp[hj])) h) (fun _ _ _ h=>h.elim) s9 h
  ·exact absurd h s9
theorem mh{lp m id N L:Nat}{l:List Oper}{st:St}{F:Nat→Prop}{base:Nat}{E:Env}{a:Act}{w:World}{Q:Exit→Act→World→Prop}(hm:Nat.ble m l.length=true)(hg:((l.take m).all fun o=>o.guard.isNone&& !tP o.op)=true){K:St→Prop}(hs:dO F base N st E a w)(hL:E.L=L)
  (h:WR P N L (l.take m).toArray (l.take m) st K) (hk:∀s E' a' w',K s→dO F base N s E' a' w'→cQ E w E' w'→Below base w w'→wpOpsIn (Fence.wide.inRound lp) n P l.toArray Q (List.range' m (l.length - m)) a' w'):(Code.region id l.toArray false).wpIn (Fence.wide.inRound lp) n P Q a w:=by
 have hmle:m≤l.length:=Nat.ble_eq.mp hm
 have hlt:(l.take m).length=m:=by simp;omega
 refine wpIn_region ?_
 have hr:List.range l.toArray.size=List.range' 0 m++List.range' m (l.length - m):=by
  have h:= @List.range'_append_1 0 m (l.length - m)
  rw[Nat.zero_add,show m+(l.length - m)=l.length by omega]at h
  rw[List.range_eq_range',List.size_toArray]
  exact h.symm
 rw[hr]
 refine zO (m:=m) (by simpa using hmle) (fun i o hi ho=>?_) _ a w (fun i hi=>by simp at hi;omega) ?_
 ·have hmem:o∈l.take m:=by
   have:(l.take m)[i]? =some o:=by rw[List.getElem?_take,if_pos hi];simpa using ho
   exact List.mem_of_getElem? this
  have:=List.all_eq_true.1 hg o hmem
  simp only[Bool.and_eq_true,Option.isNone_iff_eq_none,Bool.not_eq_true']at this
  exact⟨this.1,fun c e=>by rw[e]at this;exact absurd this.2 (by simp[tP])⟩
 ·have he:l.toArray.extract 0 m=(l.take m).toArray:=by simp
  rw[he]
  have:=h F base E w E a w ⟨hL,cQ.refl _ _,Below.refl _ _⟩ hs (CM lp n P l.toArray Q (List.range' m (l.length - m))) 0 (fun a' w' ⟨s,E',h1,h2,h3,h4⟩=>hk s E' a' w' h1 h2 h3 h4) (fun j=>by simp)
  rw[hlt]at this
  exact this
theorem mf{F:Fence}(hF:F=Fence.wide∨∃lp,F=Fence.wide.inRound lp){i:Nat}{is:List Nat}{o:Oper}{a:Act}{w:World}{v:Value}{Q:Exit→Act→World→Prop}(ho:ops[i]? =some o)(hg:o.guard=none)(hnd:∀c,o.op≠ .defer c)(hr:(execOp a.eval o).run P w= .ok (.value v) w)(h:wpOpsIn F n P ops Q is (a.put o.dst v) w):wpOpsIn F n P ops Q (i::is) a w:=by
 rw[wpOpsIn_cons]
 unfold wpOpIn
 rw[ho]
 simp only
 rw[if_pos (by unfold Region.wanted;rw[hg])]
 have hsem:o.semAt F.round a.eval=execOp a.eval o:=by
  rcases hF with rfl|⟨lp,rfl⟩
  ·exact Oper.semAt_none _ _
  ·rw[Fence.inRound_round,Oper.semAt_eq _ _ _ hnd]
 refine⟨fun _ _=>?_,?_⟩
 ·rcases hF with rfl|⟨lp,rfl⟩<;>trivial
 ·rw[hsem,hr]
  exact h
theorem Aa{lp:Nat}{i l:Nat}{is:List Nat}{o:Oper}{a:Act}{w:World}{Q:Exit→Act→World→Prop}{x y:Operand}{ats:Array TypeId}{R:Ending→World→Prop}(ho:ops[i]? =some o)(hg:o.guard=none)(hop:o.op= .call {callee:=.value x,args:= #[y],argTypes:=ats})
  (hx:a.eval x= .func (.yield l) #[] #[]) (hy:YieldAt Fence.wide (n - 1) P l #[a.eval y] w R) (hR:∀e w',R e w'→∃v,e= .returned v∧wpOpsIn (Fence.wide.inRound lp) n P ops Q is (a.put o.dst v) w'):wpOpsIn (Fence.wide.inRound lp) n P ops Q (i::is) a w:=by
 obtain⟨fn,tmps,assign,body,h1,h2⟩:=hy
 rw[wpOpsIn_cons]
 unfold wpOpIn
 rw[ho]
 simp only
 rw[if_pos (by unfold Region.wanted;rw[hg])]
 refine⟨fun _ _=>trivial,?_⟩
 rw[Fence.inRound_round,Oper.semAt_eq _ _ _ (fun c e=>by rw[hop]at e;cases e)]
 have hr:(execOp a.eval o).run P w= .ok (.round l fn tmps assign body) w:=by
  simp[execOp,hop,resolve,hx,Deferred.ofValue,invoke,h1]
 rw[hr]
 refine⟨fun h=>by simp[Fence.wide]at h,RoundIn.mono h2 fun e w' he=>?_⟩
 obtain⟨v,rfl,hq⟩:=hR e w' he
 exact hq
theorem CE{o:Oper}{a:Act}{w:World}{x:Operand}{ty:TypeId}{q:Bool}(ho:o.op= .unOp .not ty x)(hx:a.eval x= .bool q):(execOp a.eval o).run P w= .ok (.value (.bool (!q))) w:=by
 simp only[execOp,ho,hx,Op.unary,Sem.run_bind,Sem.run_pure,Result.andThen_ok]
theorem BB{o:Oper}{a:Act}{w:World}{x:Operand}{ty:TypeId}{b:Nat}{c:Value}(ho:o.op= .load ty x)(hk:rU P ty=some none)(hx:a.eval x= .pointer (some ⟨b,0,none⟩))(hc:w.cell? ⟨b,0,none⟩=some c):(execOp a.eval o).run P w= .ok (.value c) w:=by
 have h:=jw (P:=P) hk hc
 simp only[execOp,ho,hx,Sem.run_bind,h,Result.andThen_ok,Sem.run_pure]
theorem uT{o:Oper}{a:Act}{w:World}{x:Operand}(ho:o.op= .assign x):(execOp a.eval o).run P w= .ok (.value (a.eval x)) w:=by
 simp only[execOp,ho,Sem.run_pure]
theorem Sat.other{F:Nat→Prop}{base:Nat}{σ:cd}{E:Env}{w w':World}{l:Nat}{r:Loop}(hl:w.heap[l]? =some (.loop r))(hz:w'.heap.size=w.heap.size)(ho:∀k,k≠l→w'.heap[k]? =w.heap[k]?)(h:Sat F base σ E w):Sat F base σ E w':=by
 have hne:∀ {k:Nat} {o:Obj},w.heap[k]? =some o→(∀r,o≠ .loop r)→k≠l:=fun {k o} hk hr e=>by subst e;rw[hl]at hk;cases hk;exact hr _ rfl
 have hL:∀ {cs:List Value} {xs:List PV},aU E w cs xs→aU E w' cs xs:=fun hr=>⟨hr.1,fun i x u k1 k2=>(hr.2 i x u k1 k2).other hl hz ho⟩
 refine⟨by rw[hz];exact h.bl,fun b hb=>⟨by rw[hz];exact(h.fb b hb).1,(h.fb b hb).2⟩,h.len,h.mm,fun i blk hi=>?_,h.inj,h.gl.other hl ho⟩
 have hb:=h.blk i blk hi
 generalize E.at_ i=v at hb
 cases blk with
 |cells t xs=>
  obtain⟨b',cs,rfl,h1,h2,h3⟩:=hb
  exact⟨b',cs,rfl,h1,(ho b' (hne h2 (fun r e=>by cases e))).trans h2,hL h3⟩
 |row e size n xs=>
  obtain⟨cs,h1,h2⟩:=hb
  refine⟨cs,⟨h1.1,?_⟩,hL h2⟩
  rcases h1.2 with h|⟨g',cap,cur,rfl,k1,k2,k3⟩
  ·exact .inl h
  ·exact .inr ⟨g',cap,cur,rfl,k1,(ho g' (hne k2 (fun r e=>by cases e))).trans k2,k3⟩
 |mp kv=>
  obtain⟨r',es,ck,rfl,h1,h2,h3,h4⟩:=hb
  exact⟨r',es,ck,rfl,h1,(ho r' (hne h2 (fun r e=>by cases e))).trans h2,h3,hL h4⟩
theorem dX.other{E:Env}{w w':World}{l:Nat}{r:Loop}(hl:w.heap[l]? =some (.loop r))(hz:w'.heap.size=w.heap.size)(ho:∀k,k≠l→w'.heap[k]? =w.heap[k]?){ρ:Operand→Value}{t:bY}(h:dX E w ρ t):dX E w' ρ t:=fun k p hk=>(h k p hk).other hl hz ho
theorem Bb{o:Oper}{a:Act}{w:World}{x:Operand}(ho:o.op= .move x):(execOp a.eval o).run P w= .ok (.value (a.eval x)) w:=by
 simp only[execOp,ho,Sem.run_pure]
theorem wO{o:Oper}{a:Act}{w:World}{op:BinOp}{x y:Operand}{ty tz:TypeId}{c b:Int}{v:Value}(ho:o.op= .binOp op ty x y tz)(hx:a.eval x= .int .i64 c)(hy:a.eval y= .int .i64 b)(hv:(binOp op ty (.int .i64 c) (.int .i64 b)).run P w= .ok v w):(execOp a.eval o).run P w= .ok (.value v) w:=by
 have hg:(eqGuard op ty x y (.int .i64 c) (.int .i64 b)).run P w= .ok () w:=by unfold eqGuard;split<;>rfl
 simp only[execOp,ho,hx,hy,Sem.run_bind,Sem.run_pure,Result.andThen_ok,hg,hv]
end
end PW
end Go.Proofs.YtnegbdpggideiaaGreatDoor
namespace Go.Proofs.YtnegbdpggideiaaGreatDoor
namespace PW
open Go.RowKit Go.Shelf cB Mem Net eW
theorem uS(l:List Int)(hl:l.length≤1000):bT Tryz.prog 144 [aw l] [] (fun r σ'=>r= .own 0∧σ'=[some (.row 3 1 l.length (aO l))]):=by
 refine ct Tryz.func144 rfl Tryz.ntmps144 rfl<|ab (.a 1 rfl<|.k [0] rfl)<|aj<|aQ (WR.mono (K:=fun s=>∃b:Bool,s=⟨[(0,aw l),(4,.raw (.bool b))],[]⟩∧(b=true→l=[])) ?_ ?_)
 ·cases l with
  |nil=>exact au 1 rfl<|uB rfl I2 rfl rfl rfl rfl rfl fun b=>aH [0,4] rfl ⟨b,rfl,fun _=>rfl⟩
  |cons a l=>exact au 1 rfl<|bH (nG rfl I2 rfl rfl (Nat.succ_pos _)) rfl rfl rfl<|aH [0,4] rfl ⟨_,rfl,fun h=>by cases h⟩
 rintro _ ⟨b,rfl,hb⟩
 refine ah rfl (fun hc=>?_) (fun hc=>?_)
 ·have:l=[]:=hb hc
  subst this
  refine ab (.a 1 rfl<|.k [2] rfl)<|gQ 2 3 1 rfl ?_
  exact aq<|⟨_,ay.of rfl,rfl,rfl⟩
 ·refine ak<|aQ<|cn (gb rfl (bI.sl.get rfl)) rfl<|au 1 rfl<|cn (bA rfl (bI.rk.get rfl) rfl rfl rfl (show(aO l).length=l.length*1 by simp[aO]) (by unfold maxLen;omega)) rfl<|au 1 rfl<|aH [2] rfl ?_
  refine cZ [1] (.cons 2 rfl (Ren.own (i:=0) rfl) .nil) (.kept rfl (.row aD.pure) .nil) rfl rfl ?_
  exact aq<|⟨_,ay.of rfl,rfl,by rw[Nat.zero_add];rfl⟩
theorem vt(l:List Int)(hl:l.length≤1000)(σ:cd):bT Tryz.prog 144 [aw l] σ (fun r σ'=>r= .own σ.length∧σ'=σ++[some (.row 3 1 l.length (aO l))]):=by
 refine bT.frame (bT.mono (uS l hl) ?_)
 rintro r σ' ⟨rfl,rfl⟩
 exact⟨[.row 3 1 l.length (aO l)],rfl,_,_,Up.own rfl,mW.cons (.row kN.pure) mW.nil,by simp,rfl⟩
theorem uE(ys:List PV)(L:List Int):bT Tryz.prog 128 [.aX ys 0,.own 1] [none,some (.row 3 1 L.length (aO L))] (fun r σ'=>r= .func 165 [.ptr 2 0,.ptr 3 0]∧σ'=[none,some (.row 3 1 L.length (aO L)),some (.cells 147 [.aX ys 0]),some (.cells 37 [.own 1])]):=by
 refine ct Tryz.func128 rfl Tryz.ntmps128 rfl<|aQ<|cn (fF (xs:=[_]) rfl rfl rfl) rfl<|cn (fF (xs:=[_]) rfl rfl rfl) rfl<|au 1 rfl<|aH [2,3] rfl ?_
 exact ab (.a 2 rfl<|.k [4] rfl)<|aq<|⟨_,ay.of rfl,rfl,rfl⟩
noncomputable def yQ(k:Nat):Code→Option Code
 | .region i ops d=>if i=k then some (.region i ops d) else none
 | .seq x y=>(yQ k x).orElse fun _=>yQ k y
 | .cond _ x y=>(yQ k x).orElse fun _=>yQ k y
 | .block _ x=>yQ k x
 | .loop x=>yQ k x
 |_=>none
noncomputable def I9(f:Func):Code:=f.body.getD .skip
def IF(ys:List PV)(pre:List Int)(a:Int)(l:Nat)(s:St):Prop:=
 s.σ=[none,some (.row 3 1 (pre++[a]).length (aO (pre++[a]))),some (.cells 147 [.aX ys 0]),some (.cells 37 [.own 1])]∧Sub s.t [(3,.aX [.raw (.func (.yield l) #[] #[])] 0),(30,num ([a]:List Int).length),(31,num 0),(48,.func 165 [.ptr 2 0,.ptr 3 0])]
noncomputable def Jv:Code:=(yQ 6 (I9 Tryz.f165)).getD .skip
set_option maxRecDepth 100000 in
set_option maxHeartbeats 8000000 in
theorem Gc(ys:List PV)[aJ ys](pre:List Int)(a:Int)(l n:Nat)(o:Out)(c:Int)(hpl:pre.length+1≤1000):
  W Tryz.prog 55 0 Jv ⟨[(1,.aX [.aX (dw n o [.aX ys 0] c) 0] 0),(2,.aX [aw pre] 0),(3,.aX [.raw (.func (.yield l) #[] #[])] 0),(4,num 0),(5,num a),(30,num ([a]:List Int).length),(31,num 0)],[]⟩ (Hh (IF ys pre a l)):=by
 have hic:=vt pre (by omega) []
 have hbr:=uE ys (pre++[a])
 refine wv mixed ?_
 ·refine tQ [[(1,.aX [.aX (dw n o [.aX ys 0] c) 0] 0),(2,.aX [aw pre] 0),(3,.aX [.raw (.func (.yield l) #[] #[])] 0),(4,num 0),(5,num a),(30,num ([a]:List Int).length),(31,num 0),(36,.aX (dw n o [.aX ys 0] c) 0),(37,.aX (dw n o [.aX ys 0] c) 0),(38,.aX (dw n o [.aX ys 0] c) 3),(39,.slice 1 [.aX ys 0]),(40,num 0),(41,.aX [.aX ys 0] 0),(42,.aX ys 0),(43,aw pre),(44,.own 0),(45,num a),(46,.slice 1 [num a]),(47,.own 1),(48,.func 165 [.ptr 2 0,.ptr 3 0])]] [[],[some (.row 3 1 pre.length (aO pre))],[none,some (.row 3 1 (pre++[a]).length (aO (pre++[a])))],[none,some (.row 3 1 (pre++[a]).length (aO (pre++[a]))),some (.cells 147 [.aX ys 0]),some (.cells 37 [.own 1])]] [1,2,3,4,5,30,31] rfl (by kernel_rfl) (fun M hi ho=>?_)
  have μ0:M 0 8191 0 [3,30,31,48] 3:=hi<|qF rfl (by kernel_rfl) (⟨rfl,bd (ks:=[3,30,31,48]) rfl⟩)
  have μ1:M 1 4095 0 [3,30,31,42,47] 2:=hi<|aa [(12,8191)] rfl (by kernel_rfl)<|eJ rfl rfl rfl rfl hbr (ho μ0) rfl rfl ae
  have μ2:M 2 2047 0 [3,30,31,42,44,46] 1:=hi<|aa [(11,4095)] rfl (by kernel_rfl)<|bW rfl rfl (cJ.to (σ:=[some (.row 3 1 pre.length (aO pre))]) (p':=.own 1) (σ'':=[none,some (.row 3 1 (pre++[a]).length (aO (pre++[a])))]) (bA (e:=3) (s:=1) (by':=8) (i:=0) (m:=1) (n:=pre.length) (xs:=aO pre) (ys:=[num a]) rfl (bI.rk.get rfl) rfl rfl rfl rfl ⟨by unfold maxLen;omega,by omega⟩) rfl (by rw[List.length_append,←cL];rfl)) rfl (ho μ1) rfl rfl ae
  have μ3:M 3 1023 0 [3,30,31,42,44,45] 1:=hi<|aa [(10,2047)] rfl (by kernel_rfl)<|bf rfl rfl (aR (xs:=[num a]) rfl (bI.sl.get rfl) ⟨Nat.le_of_ble_eq_true rfl,Nat.le_of_ble_eq_true rfl⟩ rfl rfl) rfl (ho μ2) rfl rfl ae
  have μ4:M 4 511 0 [3,5,30,31,42,44] 1:=hi<|aa [(9,1023)] rfl (by kernel_rfl)<|ag (ho μ3) rfl rfl ae
  have μ5:M 3 1791 0 [3,30,31,42,43,46] 0:=hi<|aa [(8,2047)] rfl (by kernel_rfl)<|eJ rfl rfl rfl rfl hic (ho μ2) rfl rfl ae
  have μ6:M 4 767 0 [3,30,31,42,43,45] 0:=hi<|aa [(8,1023),(10,1791)] rfl (by kernel_rfl)<|eJ rfl rfl rfl rfl hic (ho μ3) rfl rfl<|bf rfl rfl (aR (xs:=[num a]) rfl (bI.sl.get rfl) ⟨Nat.le_of_ble_eq_true rfl,Nat.le_of_ble_eq_true rfl⟩ rfl rfl) rfl (ho μ5) rfl rfl ae
  have μ7:M 5 255 0 [3,5,30,31,42,43] 0:=hi<|aa [(8,511),(9,767)] rfl (by kernel_rfl)<|eJ rfl rfl rfl rfl hic (ho μ4) rfl rfl<|ag (ho μ6) rfl rfl ae
  have μ8:M 4 1663 0 [2,3,30,31,42,46] 0:=hi<|aa [(7,1791)] rfl (by kernel_rfl)<|ag (ho μ5) rfl rfl ae
  have μ9:M 5 639 0 [2,3,30,31,42,45] 0:=hi<|aa [(7,767),(10,1663)] rfl (by kernel_rfl)<|ag (ho μ6) rfl rfl<|bf rfl rfl (aR (xs:=[num a]) rfl (bI.sl.get rfl) ⟨Nat.le_of_ble_eq_true rfl,Nat.le_of_ble_eq_true rfl⟩ rfl rfl) rfl (ho μ8) rfl rfl ae
  have μ10:M 6 127 0 [2,3,5,30,31,42] 0:=hi<|aa [(7,255),(9,639)] rfl (by kernel_rfl)<|ag (ho μ7) rfl rfl<|ag (ho μ9) rfl rfl ae
  have μ11:M 2 4031 0 [3,30,31,41,47] 2:=hi<|aa [(6,4095)] rfl (by kernel_rfl)<|bf rfl rfl (aN rfl ((rfl:([PV.aX ys 0]:List PV)[0]? =some (.aX ys 0)))) rfl (ho μ1) rfl rfl ae
  have μ12:M 3 1983 0 [3,30,31,41,44,46] 1:=hi<|aa [(6,2047),(11,4031)] rfl (by kernel_rfl)<|bf rfl rfl (aN rfl ((rfl:([PV.aX ys 0]:List PV)[0]? =some (.aX ys 0)))) rfl (ho μ2) rfl rfl<|bW rfl rfl (cJ.to (σ:=[some (.row 3 1 pre.length (aO pre))]) (p':=.own 1) (σ'':=[none,some (.row 3 1 (pre++[a]).length (aO (pre++[a])))]) (bA (e:=3) (s:=1) (by':=8) (i:=0) (m:=1) (n:=pre.length) (xs:=aO pre) (ys:=[num a]) rfl (bI.rk.get rfl) rfl rfl rfl rfl ⟨by unfold maxLen;omega,by omega⟩) rfl (by rw[List.length_append,←cL];rfl)) rfl (ho μ11) rfl rfl ae
  have μ13:M 4 959 0 [3,30,31,41,44,45] 1:=hi<|aa [(6,1023),(10,1983)] rfl (by kernel_rfl)<|bf rfl rfl (aN rfl ((rfl:([PV.aX ys 0]:List PV)[0]? =some (.aX ys 0)))) rfl (ho μ3) rfl rfl<|bf rfl rfl (aR (xs:=[num a]) rfl (bI.sl.get rfl) ⟨Nat.le_of_ble_eq_true rfl,Nat.le_of_ble_eq_true rfl⟩ rfl rfl) rfl (ho μ12) rfl rfl ae
  have μ14:M 5 447 0 [3,5,30,31,41,44] 1:=hi<|aa [(6,511),(9,959)] rfl (by kernel_rfl)<|bf rfl rfl (aN rfl ((rfl:([PV.aX ys 0]:List PV)[0]? =some (.aX ys 0)))) rfl (ho μ4) rfl rfl<|ag (ho μ13) rfl rfl ae
  have μ15:M 4 1727 0 [3,30,31,41,43,46] 0:=hi<|aa [(6,1791),(8,1983)] rfl (by kernel_rfl)<|bf rfl rfl (aN rfl ((rfl:([PV.aX ys 0]:List PV)[0]? =some (.aX ys 0)))) rfl (ho μ5) rfl rfl<|eJ rfl rfl rfl rfl hic (ho μ12) rfl rfl ae
  have μ16:M 5 703 0 [3,30,31,41,43,45] 0:=hi<|aa [(6,767),(8,959),(10,1727)] rfl (by kernel_rfl)<|bf rfl rfl (aN rfl ((rfl:([PV.aX ys 0]:List PV)[0]? =some (.aX ys 0)))) rfl (ho μ6) rfl rfl<|eJ rfl rfl rfl rfl hic (ho μ13) rfl rfl<|bf rfl rfl (aR (xs:=[num a]) rfl (bI.sl.get rfl) ⟨Nat.le_of_ble_eq_true rfl,Nat.le_of_ble_eq_true rfl⟩ rfl rfl) rfl (ho μ15) rfl rfl ae
  have μ17:M 6 191 0 [3,5,30,31,41,43] 0:=hi<|aa [(6,255),(8,447),(9,703)] rfl (by kernel_rfl)<|bf rfl rfl (aN rfl ((rfl:([PV.aX ys 0]:List PV)[0]? =some (.aX ys 0)))) rfl (ho μ7) rfl rfl<|eJ rfl rfl rfl rfl hic (ho μ14) rfl rfl<|ag (ho μ16) rfl rfl ae
  have μ18:M 5 1599 0 [2,3,30,31,41,46] 0:=hi<|aa [(6,1663),(7,1727)] rfl (by kernel_rfl)<|bf rfl rfl (aN rfl ((rfl:([PV.aX ys 0]:List PV)[0]? =some (.aX ys 0)))) rfl (ho μ8) rfl rfl<|ag (ho μ15) rfl rfl ae
  have μ19:M 6 575 0 [2,3,30,31,41,45] 0:=hi<|aa [(6,639),(7,703),(10,1599)] rfl (by kernel_rfl)<|bf rfl rfl (aN rfl ((rfl:([PV.aX ys 0]:List PV)[0]? =some (.aX ys 0)))) rfl (ho μ9) rfl rfl<|ag (ho μ16) rfl rfl<|bf rfl rfl (aR (xs:=[num a]) rfl (bI.sl.get rfl) ⟨Nat.le_of_ble_eq_true rfl,Nat.le_of_ble_eq_true rfl⟩ rfl rfl) rfl (ho μ18) rfl rfl ae
  have μ20:M 7 63 0 [2,3,5,30,31,41] 0:=hi<|aa [(6,127),(7,191),(9,575)] rfl (by kernel_rfl)<|bf rfl rfl (aN rfl ((rfl:([PV.aX ys 0]:List PV)[0]? =some (.aX ys 0)))) rfl (ho μ10) rfl rfl<|ag (ho μ17) rfl rfl<|ag (ho μ19) rfl rfl ae
  have μ21:M 3 3999 0 [3,30,31,39,40,47] 2:=hi<|aa [(5,4031)] rfl (by kernel_rfl)<|bf rfl rfl (aL (0) rfl (by simp) (by simp)) rfl (ho μ11) rfl rfl ae
  have μ22:M 4 1951 0 [3,30,31,39,40,44,46] 1:=hi<|aa [(5,1983),(11,3999)] rfl (by kernel_rfl)<|bf rfl rfl (aL (0) rfl (by simp) (by simp)) rfl (ho μ12) rfl rfl<|bW rfl rfl (cJ.to (σ:=[some (.row 3 1 pre.length (aO pre))]) (p':=.own 1) (σ'':=[none,some (.row 3 1 (pre++[a]).length (aO (pre++[a])))]) (bA (e:=3) (s:=1) (by':=8) (i:=0) (m:=1) (n:=pre.length) (xs:=aO pre) (ys:=[num a]) rfl (bI.rk.get rfl) rfl rfl rfl rfl ⟨by unfold maxLen;omega,by omega⟩) rfl (by rw[List.length_append,←cL];rfl)) rfl (ho μ21) rfl rfl ae
  have μ23:M 5 927 0 [3,30,31,39,40,44,45] 1:=hi<|aa [(5,959),(10,1951)] rfl (by kernel_rfl)<|bf rfl rfl (aL (0) rfl (by simp) (by simp)) rfl (ho μ13) rfl rfl<|bf rfl rfl (aR (xs:=[num a]) rfl (bI.sl.get rfl) ⟨Nat.le_of_ble_eq_true rfl,Nat.le_of_ble_eq_true rfl⟩ rfl rfl) rfl (ho μ22) rfl rfl ae
  have μ24:M 6 415 0 [3,5,30,31,39,40,44] 1:=hi<|aa [(5,447),(9,927)] rfl (by kernel_rfl)<|bf rfl rfl (aL (0) rfl (by simp) (by simp)) rfl (ho μ14) rfl rfl<|ag (ho μ23) rfl rfl ae
  have μ25:M 5 1695 0 [3,30,31,39,40,43,46] 0:=hi<|aa [(5,1727),(8,1951)] rfl (by kernel_rfl)<|bf rfl rfl (aL (0) rfl (by simp) (by simp)) rfl (ho μ15) rfl rfl<|eJ rfl rfl rfl rfl hic (ho μ22) rfl rfl ae
  have μ26:M 6 671 0 [3,30,31,39,40,43,45] 0:=hi<|aa [(5,703),(8,927),(10,1695)] rfl (by kernel_rfl)<|bf rfl rfl (aL (0) rfl (by simp) (by simp)) rfl (ho μ16) rfl rfl<|eJ rfl rfl rfl rfl hic (ho μ23) rfl rfl<|bf rfl rfl (aR (xs:=[num a]) rfl (bI.sl.get rfl) ⟨Nat.le_of_ble_eq_true rfl,Nat.le_of_ble_eq_true rfl⟩ rfl rfl) rfl (ho μ25) rfl rfl ae
  have μ27:M 7 159 0 [3,5,30,31,39,40,43] 0:=hi<|aa [(5,191),(8,415),(9,671)] rfl (by kernel_rfl)<|bf rfl rfl (aL (0) rfl (by simp) (by simp)) rfl (ho μ17) rfl rfl<|eJ rfl rfl rfl rfl hic (ho μ24) rfl rfl<|ag (ho μ26) rfl rfl ae
  have μ28:M 6 1567 0 [2,3,30,31,39,40,46] 0:=hi<|aa [(5,1599),(7,1695)] rfl (by kernel_rfl)<|bf rfl rfl (aL (0) rfl (by simp) (by simp)) rfl (ho μ18) rfl rfl<|ag (ho μ25) rfl rfl ae
  have μ29:M 7 543 0 [2,3,30,31,39,40,45] 0:=hi<|aa [(5,575),(7,671),(10,1567)] rfl (by kernel_rfl)<|bf rfl rfl (aL (0) rfl (by simp) (by simp)) rfl (ho μ19) rfl rfl<|ag (ho μ26) rfl rfl<|bf rfl rfl (aR (xs:=[num a]) rfl (bI.sl.get rfl) ⟨Nat.le_of_ble_eq_true rfl,Nat.le_of_ble_eq_true rfl⟩ rfl rfl) rfl (ho μ28) rfl rfl ae
  have μ30:M 8 31 0 [2,3,5,30,31,39,40] 0:=hi<|aa [(5,63),(7,159),(9,543)] rfl (by kernel_rfl)<|bf rfl rfl (aL (0) rfl (by simp) (by simp)) rfl (ho μ20) rfl rfl<|ag (ho μ27) rfl rfl<|ag (ho μ29) rfl rfl ae
  have μ31:M 4 3983 0 [3,4,30,31,39,47] 2:=hi<|aa [(4,3999)] rfl (by kernel_rfl)<|ag (ho μ21) rfl rfl ae
  have μ32:M 5 1935 0 [3,4,30,31,39,44,46] 1:=hi<|aa [(4,1951),(11,3983)] rfl (by kernel_rfl)<|ag (ho μ22) rfl rfl<|bW rfl rfl (cJ.to (σ:=[some (.row 3 1 pre.length (aO pre))]) (p':=.own 1) (σ'':=[none,some (.row 3 1 (pre++[a]).length (aO (pre++[a])))]) (bA (e:=3) (s:=1) (by':=8) (i:=0) (m:=1) (n:=pre.length) (xs:=aO pre) (ys:=[num a]) rfl (bI.rk.get rfl) rfl rfl rfl rfl ⟨by unfold maxLen;omega,by omega⟩) rfl (by rw[List.length_append,←cL];rfl)) rfl (ho μ31) rfl rfl ae
  have μ33:M 6 911 0 [3,4,30,31,39,44,45] 1:=hi<|aa [(4,927),(10,1935)] rfl (by kernel_rfl)<|ag (ho μ23) rfl rfl<|bf rfl rfl (aR (xs:=[num a]) rfl (bI.sl.get rfl) ⟨Nat.le_of_ble_eq_true rfl,Nat.le_of_ble_eq_true rfl⟩ rfl rfl) rfl (ho μ32) rfl rfl ae
  have μ34:M 7 399 0 [3,4,5,30,31,39,44] 1:=hi<|aa [(4,415),(9,911)] rfl (by kernel_rfl)<|ag (ho μ24) rfl rfl<|ag (ho μ33) rfl rfl ae
  have μ35:M 6 1679 0 [3,4,30,31,39,43,46] 0:=hi<|aa [(4,1695),(8,1935)] rfl (by kernel_rfl)<|ag (ho μ25) rfl rfl<|eJ rfl rfl rfl rfl hic (ho μ32) rfl rfl ae
  have μ36:M 7 655 0 [3,4,30,31,39,43,45] 0:=hi<|aa [(4,671),(8,911),(10,1679)] rfl (by kernel_rfl)<|ag (ho μ26) rfl rfl<|eJ rfl rfl rfl rfl hic (ho μ33) rfl rfl<|bf rfl rfl (aR (xs:=[num a]) rfl (bI.sl.get rfl) ⟨Nat.le_of_ble_eq_true rfl,Nat.le_of_ble_eq_true rfl⟩ rfl rfl) rfl (ho μ35) rfl rfl ae
  have μ37:M 8 143 0 [3,4,5,30,31,39,43] 0:=hi<|aa [(4,159),(8,399),(9,655)] rfl (by kernel_rfl)<|ag (ho μ27) rfl rfl<|eJ rfl rfl rfl rfl hic (ho μ34) rfl rfl<|ag (ho μ36) rfl rfl ae
  have μ38:M 7 1551 0 [2,3,4,30,31,39,46] 0:=hi<|aa [(4,1567),(7,1679)] rfl (by kernel_rfl)<|ag (ho μ28) rfl rfl<|ag (ho μ35) rfl rfl ae
  have μ39:M 8 527 0 [2,3,4,30,31,39,45] 0:=hi<|aa [(4,543),(7,655),(10,1551)] rfl (by kernel_rfl)<|ag (ho μ29) rfl rfl<|ag (ho μ36) rfl rfl<|bf rfl rfl (aR (xs:=[num a]) rfl (bI.sl.get rfl) ⟨Nat.le_of_ble_eq_true rfl,Nat.le_of_ble_eq_true rfl⟩ rfl rfl) rfl (ho μ38) rfl rfl ae
  have μ40:M 9 15 0 [2,3,4,5,30,31,39] 0:=hi<|aa [(4,31),(7,143),(9,527)] rfl (by kernel_rfl)<|ag (ho μ30) rfl rfl<|ag (ho μ37) rfl rfl<|ag (ho μ39) rfl rfl ae
  have μ41:M 4 3991 0 [3,30,31,38,40,47] 2:=hi<|aa [(3,3999)] rfl (by kernel_rfl)<|ag (ho μ21) rfl rfl ae
  have μ42:M 5 1943 0 [3,30,31,38,40,44,46] 1:=hi<|aa [(3,1951),(11,3991)] rfl (by kernel_rfl)<|ag (ho μ22) rfl rfl<|bW rfl rfl (cJ.to (σ:=[some (.row 3 1 pre.length (aO pre))]) (p':=.own 1) (σ'':=[none,some (.row 3 1 (pre++[a]).length (aO (pre++[a])))]) (bA (e:=3) (s:=1) (by':=8) (i:=0) (m:=1) (n:=pre.length) (xs:=aO pre) (ys:=[num a]) rfl (bI.rk.get rfl) rfl rfl rfl rfl ⟨by unfold maxLen;omega,by omega⟩) rfl (by rw[List.length_append,←cL];rfl)) rfl (ho μ41) rfl rfl ae
  have μ43:M 6 919 0 [3,30,31,38,40,44,45] 1:=hi<|aa [(3,927),(10,1943)] rfl (by kernel_rfl)<|ag (ho μ23) rfl rfl<|bf rfl rfl (aR (xs:=[num a]) rfl (bI.sl.get rfl) ⟨Nat.le_of_ble_eq_true rfl,Nat.le_of_ble_eq_true rfl⟩ rfl rfl) rfl (ho μ42) rfl rfl ae
  have μ44:M 7 407 0 [3,5,30,31,38,40,44] 1:=hi<|aa [(3,415),(9,919)] rfl (by kernel_rfl)<|ag (ho μ24) rfl rfl<|ag (ho μ43) rfl rfl ae
  have μ45:M 6 1687 0 [3,30,31,38,40,43,46] 0:=hi<|aa [(3,1695),(8,1943)] rfl (by kernel_rfl)<|ag (ho μ25) rfl rfl<|eJ rfl rfl rfl rfl hic (ho μ42) rfl rfl ae
  have μ46:M 7 663 0 [3,30,31,38,40,43,45] 0:=hi<|aa [(3,671),(8,919),(10,1687)] rfl (by kernel_rfl)<|ag (ho μ26) rfl rfl<|eJ rfl rfl rfl rfl hic (ho μ43) rfl rfl<|bf rfl rfl (aR (xs:=[num a]) rfl (bI.sl.get rfl) ⟨Nat.le_of_ble_eq_true rfl,Nat.le_of_ble_eq_true rfl⟩ rfl rfl) rfl (ho μ45) rfl rfl ae
  have μ47:M 8 151 0 [3,5,30,31,38,40,43] 0:=hi<|aa [(3,159),(8,407),(9,663)] rfl (by kernel_rfl)<|ag (ho μ27) rfl rfl<|eJ rfl rfl rfl rfl hic (ho μ44) rfl rfl<|ag (ho μ46) rfl rfl ae
  have μ48:M 7 1559 0 [2,3,30,31,38,40,46] 0:=hi<|aa [(3,1567),(7,1687)] rfl (by kernel_rfl)<|ag (ho μ28) rfl rfl<|ag (ho μ45) rfl rfl ae
  have μ49:M 8 535 0 [2,3,30,31,38,40,45] 0:=hi<|aa [(3,543),(7,663),(10,1559)] rfl (by kernel_rfl)<|ag (ho μ29) rfl rfl<|ag (ho μ46) rfl rfl<|bf rfl rfl (aR (xs:=[num a]) rfl (bI.sl.get rfl) ⟨Nat.le_of_ble_eq_true rfl,Nat.le_of_ble_eq_true rfl⟩ rfl rfl) rfl (ho μ48) rfl rfl ae
  have μ50:M 9 23 0 [2,3,5,30,31,38,40] 0:=hi<|aa [(3,31),(7,151),(9,535)] rfl (by kernel_rfl)<|ag (ho μ30) rfl rfl<|ag (ho μ47) rfl rfl<|ag (ho μ49) rfl rfl ae
  have μ51:M 5 3975 0 [3,4,30,31,38,47] 2:=hi<|aa [(3,3983),(4,3991)] rfl (by kernel_rfl)<|ag (ho μ31) rfl rfl<|ag (ho μ41) rfl rfl ae
  have μ52:M 6 1927 0 [3,4,30,31,38,44,46] 1:=hi<|aa [(3,1935),(4,1943),(11,3975)] rfl (by kernel_rfl)<|ag (ho μ32) rfl rfl<|ag (ho μ42) rfl rfl<|bW rfl rfl (cJ.to (σ:=[some (.row 3 1 pre.length (aO pre))]) (p':=.own 1) (σ'':=[none,some (.row 3 1 (pre++[a]).length (aO (pre++[a])))]) (bA (e:=3) (s:=1) (by':=8) (i:=0) (m:=1) (n:=pre.length) (xs:=aO pre) (ys:=[num a]) rfl (bI.rk.get rfl) rfl rfl rfl rfl ⟨by unfold maxLen;omega,by omega⟩) rfl (by rw[List.length_append,←cL];rfl)) rfl (ho μ51) rfl rfl ae
  have μ53:M 7 903 0 [3,4,30,31,38,44,45] 1:=hi<|aa [(3,911),(4,919),(10,1927)] rfl (by kernel_rfl)<|ag (ho μ33) rfl rfl<|ag (ho μ43) rfl rfl<|bf rfl rfl (aR (xs:=[num a]) rfl (bI.sl.get rfl) ⟨Nat.le_of_ble_eq_true rfl,Nat.le_of_ble_eq_true rfl⟩ rfl rfl) rfl (ho μ52) rfl rfl ae
  have μ54:M 8 391 0 [3,4,5,30,31,38,44] 1:=hi<|aa [(3,399),(4,407),(9,903)] rfl (by kernel_rfl)<|ag (ho μ34) rfl rfl<|ag (ho μ44) rfl rfl<|ag (ho μ53) rfl rfl ae
  have μ55:M 7 1671 0 [3,4,30,31,38,43,46] 0:=hi<|aa [(3,1679),(4,1687),(8,1927)] rfl (by kernel_rfl)<|ag (ho μ35) rfl rfl<|ag (ho μ45) rfl rfl<|eJ rfl rfl rfl rfl hic (ho μ52) rfl rfl ae
  have μ56:M 8 647 0 [3,4,30,31,38,43,45] 0:=hi<|aa [(3,655),(4,663),(8,903),(10,1671)] rfl (by kernel_rfl)<|ag (ho μ36) rfl rfl<|ag (ho μ46) rfl rfl<|eJ rfl rfl rfl rfl hic (ho μ53) rfl rfl<|bf rfl rfl (aR (xs:=[num a]) rfl (bI.sl.get rfl) ⟨Nat.le_of_ble_eq_true rfl,Nat.le_of_ble_eq_true rfl⟩ rfl rfl) rfl (ho μ55) rfl rfl ae
  have μ57:M 9 135 0 [3,4,5,30,31,38,43] 0:=hi<|aa [(3,143),(4,151),(8,391),(9,647)] rfl (by kernel_rfl)<|ag (ho μ37) rfl rfl<|ag (ho μ47) rfl rfl<|eJ rfl rfl rfl rfl hic (ho μ54) rfl rfl<|ag (ho μ56) rfl rfl ae
  have μ58:M 8 1543 0 [2,3,4,30,31,38,46] 0:=hi<|aa [(3,1551),(4,1559),(7,1671)] rfl (by kernel_rfl)<|ag (ho μ38) rfl rfl<|ag (ho μ48) rfl rfl<|ag (ho μ55) rfl rfl ae
  have μ59:M 9 519 0 [2,3,4,30,31,38,45] 0:=hi<|aa [(3,527),(4,535),(7,647),(10,1543)] rfl (by kernel_rfl)<|ag (ho μ39) rfl rfl<|ag (ho μ49) rfl rfl<|ag (ho μ56) rfl rfl<|bf rfl rfl (aR (xs:=[num a]) rfl (bI.sl.get rfl) ⟨Nat.le_of_ble_eq_true rfl,Nat.le_of_ble_eq_true rfl⟩ rfl rfl) rfl (ho μ58) rfl rfl ae
  have μ60:M 10 7 0 [2,3,4,5,30,31,38] 0:=hi<|aa [(3,15),(4,23),(7,135),(9,519)] rfl (by kernel_rfl)<|ag (ho μ40) rfl rfl<|ag (ho μ50) rfl rfl<|ag (ho μ57) rfl rfl<|ag (ho μ59) rfl rfl ae
  have μ61:M 5 3987 0 [3,30,31,37,40,47] 2:=hi<|aa [(2,3991)] rfl (by kernel_rfl)<|ag (ho μ41) rfl rfl ae
  have μ62:M 6 1939 0 [3,30,31,37,40,44,46] 1:=hi<|aa [(2,1943),(11,3987)] rfl (by kernel_rfl)<|ag (ho μ42) rfl rfl<|bW rfl rfl (cJ.to (σ:=[some (.row 3 1 pre.length (aO pre))]) (p':=.own 1) (σ'':=[none,some (.row 3 1 (pre++[a]).length (aO (pre++[a])))]) (bA (e:=3) (s:=1) (by':=8) (i:=0) (m:=1) (n:=pre.length) (xs:=aO pre) (ys:=[num a]) rfl (bI.rk.get rfl) rfl rfl rfl rfl ⟨by unfold maxLen;omega,by omega⟩) rfl (by rw[List.length_append,←cL];rfl)) rfl (ho μ61) rfl rfl ae
  have μ63:M 7 915 0 [3,30,31,37,40,44,45] 1:=hi<|aa [(2,919),(10,1939)] rfl (by kernel_rfl)<|ag (ho μ43) rfl rfl<|bf rfl rfl (aR (xs:=[num a]) rfl (bI.sl.get rfl) ⟨Nat.le_of_ble_eq_true rfl,Nat.le_of_ble_eq_true rfl⟩ rfl rfl) rfl (ho μ62) rfl rfl ae
  have μ64:M 8 403 0 [3,5,30,31,37,40,44] 1:=hi<|aa [(2,407),(9,915)] rfl (by kernel_rfl)<|ag (ho μ44) rfl rfl<|ag (ho μ63) rfl rfl ae
  have μ65:M 7 1683 0 [3,30,31,37,40,43,46] 0:=hi<|aa [(2,1687),(8,1939)] rfl (by kernel_rfl)<|ag (ho μ45) rfl rfl<|eJ rfl rfl rfl rfl hic (ho μ62) rfl rfl ae
  have μ66:M 8 659 0 [3,30,31,37,40,43,45] 0:=hi<|aa [(2,663),(8,915),(10,1683)] rfl (by kernel_rfl)<|ag (ho μ46) rfl rfl<|eJ rfl rfl rfl rfl hic (ho μ63) rfl rfl<|bf rfl rfl (aR (xs:=[num a]) rfl (bI.sl.get rfl) ⟨Nat.le_of_ble_eq_true rfl,Nat.le_of_ble_eq_true rfl⟩ rfl rfl) rfl (ho μ65) rfl rfl ae
  have μ67:M 9 147 0 [3,5,30,31,37,40,43] 0:=hi<|aa [(2,151),(8,403),(9,659)] rfl (by kernel_rfl)<|ag (ho μ47) rfl rfl<|eJ rfl rfl rfl rfl hic (ho μ64) rfl rfl<|ag (ho μ66) rfl rfl ae
  have μ68:M 8 1555 0 [2,3,30,31,37,40,46] 0:=hi<|aa [(2,1559),(7,1683)] rfl (by kernel_rfl)<|ag (ho μ48) rfl rfl<|ag (ho μ65) rfl rfl ae
  have μ69:M 9 531 0 [2,3,30,31,37,40,45] 0:=hi<|aa [(2,535),(7,659),(10,1555)] rfl (by kernel_rfl)<|ag (ho μ49) rfl rfl<|ag (ho μ66) rfl rfl<|bf rfl rfl (aR (xs:=[num a]) rfl (bI.sl.get rfl) ⟨Nat.le_of_ble_eq_true rfl,Nat.le_of_ble_eq_true rfl⟩ rfl rfl) rfl (ho μ68) rfl rfl ae
  have μ70:M 10 19 0 [2,3,5,30,31,37,40] 0:=hi<|aa [(2,23),(7,147),(9,531)] rfl (by kernel_rfl)<|ag (ho μ50) rfl rfl<|ag (ho μ67) rfl rfl<|ag (ho μ69) rfl rfl ae
  have μ71:M 6 3971 0 [3,4,30,31,37,47] 2:=hi<|aa [(2,3975),(4,3987)] rfl (by kernel_rfl)<|ag (ho μ51) rfl rfl<|ag (ho μ61) rfl rfl ae
  have μ72:M 7 1923 0 [3,4,30,31,37,44,46] 1:=hi<|aa [(2,1927),(4,1939),(11,3971)] rfl (by kernel_rfl)<|ag (ho μ52) rfl rfl<|ag (ho μ62) rfl rfl<|bW rfl rfl (cJ.to (σ:=[some (.row 3 1 pre.length (aO pre))]) (p':=.own 1) (σ'':=[none,some (.row 3 1 (pre++[a]).length (aO (pre++[a])))]) (bA (e:=3) (s:=1) (by':=8) (i:=0) (m:=1) (n:=pre.length) (xs:=aO pre) (ys:=[num a]) rfl (bI.rk.get rfl) rfl rfl rfl rfl ⟨by unfold maxLen;omega,by omega⟩) rfl (by rw[List.length_append,←cL];rfl)) rfl (ho μ71) rfl rfl ae
  have μ73:M 8 899 0 [3,4,30,31,37,44,45] 1:=hi<|aa [(2,903),(4,915),(10,1923)] rfl (by kernel_rfl)<|ag (ho μ53) rfl rfl<|ag (ho μ63) rfl rfl<|bf rfl rfl (aR (xs:=[num a]) rfl (bI.sl.get rfl) ⟨Nat.le_of_ble_eq_true rfl,Nat.le_of_ble_eq_true rfl⟩ rfl rfl) rfl (ho μ72) rfl rfl ae
  have μ74:M 9 387 0 [3,4,5,30,31,37,44] 1:=hi<|aa [(2,391),(4,403),(9,899)] rfl (by kernel_rfl)<|ag (ho μ54) rfl rfl<|ag (ho μ64) rfl rfl<|ag (ho μ73) rfl rfl ae
  have μ75:M 8 1667 0 [3,4,30,31,37,43,46] 0:=hi<|aa [(2,1671),(4,1683),(8,1923)] rfl (by kernel_rfl)<|ag (ho μ55) rfl rfl<|ag (ho μ65) rfl rfl<|eJ rfl rfl rfl rfl hic (ho μ72) rfl rfl ae
  have μ76:M 9 643 0 [3,4,30,31,37,43,45] 0:=hi<|aa [(2,647),(4,659),(8,899),(10,1667)] rfl (by kernel_rfl)<|ag (ho μ56) rfl rfl<|ag (ho μ66) rfl rfl<|eJ rfl rfl rfl rfl hic (ho μ73) rfl rfl<|bf rfl rfl (aR (xs:=[num a]) rfl (bI.sl.get rfl) ⟨Nat.le_of_ble_eq_true rfl,Nat.le_of_ble_eq_true rfl⟩ rfl rfl) rfl (ho μ75) rfl rfl ae
  have μ77:M 10 131 0 [3,4,5,30,31,37,43] 0:=hi<|aa [(2,135),(4,147),(8,387),(9,643)] rfl (by kernel_rfl)<|ag (ho μ57) rfl rfl<|ag (ho μ67) rfl rfl<|eJ rfl rfl rfl rfl hic (ho μ74) rfl rfl<|ag (ho μ76) rfl rfl ae
  have μ78:M 9 1539 0 [2,3,4,30,31,37,46] 0:=hi<|aa [(2,1543),(4,1555),(7,1667)] rfl (by kernel_rfl)<|ag (ho μ58) rfl rfl<|ag (ho μ68) rfl rfl<|ag (ho μ75) rfl rfl ae
  have μ79:M 10 515 0 [2,3,4,30,31,37,45] 0:=hi<|aa [(2,519),(4,531),(7,643),(10,1539)] rfl (by kernel_rfl)<|ag (ho μ59) rfl rfl<|ag (ho μ69) rfl rfl<|ag (ho μ76) rfl rfl<|bf rfl rfl (aR (xs:=[num a]) rfl (bI.sl.get rfl) ⟨Nat.le_of_ble_eq_true rfl,Nat.le_of_ble_eq_true rfl⟩ rfl rfl) rfl (ho μ78) rfl rfl ae
  have μ80:M 11 3 0 [2,3,4,5,30,31,37] 0:=hi<|aa [(2,7),(4,19),(7,131),(9,515)] rfl (by kernel_rfl)<|ag (ho μ60) rfl rfl<|ag (ho μ70) rfl rfl<|ag (ho μ77) rfl rfl<|ag (ho μ79) rfl rfl ae
  have μ81:M 6 3985 0 [3,30,31,36,40,47] 2:=hi<|aa [(1,3987)] rfl (by kernel_rfl)<|ag (ho μ61) rfl rfl ae
  have μ82:M 7 1937 0 [3,30,31,36,40,44,46] 1:=hi<|aa [(1,1939),(11,3985)] rfl (by kernel_rfl)<|ag (ho μ62) rfl rfl<|bW rfl rfl (cJ.to (σ:=[some (.row 3 1 pre.length (aO pre))]) (p':=.own 1) (σ'':=[none,some (.row 3 1 (pre++[a]).length (aO (pre++[a])))]) (bA (e:=3) (s:=1) (by':=8) (i:=0) (m:=1) (n:=pre.length) (xs:=aO pre) (ys:=[num a]) rfl (bI.rk.get rfl) rfl rfl rfl rfl ⟨by unfold maxLen;omega,by omega⟩) rfl (by rw[List.length_append,←cL];rfl)) rfl (ho μ81) rfl rfl ae
  have μ83:M 8 913 0 [3,30,31,36,40,44,45] 1:=hi<|aa [(1,915),(10,1937)] rfl (by kernel_rfl)<|ag (ho μ63) rfl rfl<|bf rfl rfl (aR (xs:=[num a]) rfl (bI.sl.get rfl) ⟨Nat.le_of_ble_eq_true rfl,Nat.le_of_ble_eq_true rfl⟩ rfl rfl) rfl (ho μ82) rfl rfl ae
  have μ84:M 9 401 0 [3,5,30,31,36,40,44] 1:=hi<|aa [(1,403),(9,913)] rfl (by kernel_rfl)<|ag (ho μ64) rfl rfl<|ag (ho μ83) rfl rfl ae
  have μ85:M 8 1681 0 [3,30,31,36,40,43,46] 0:=hi<|aa [(1,1683),(8,1937)] rfl (by kernel_rfl)<|ag (ho μ65) rfl rfl<|eJ rfl rfl rfl rfl hic (ho μ82) rfl rfl ae
  have μ86:M 9 657 0 [3,30,31,36,40,43,45] 0:=hi<|aa [(1,659),(8,913),(10,1681)] rfl (by kernel_rfl)<|ag (ho μ66) rfl rfl<|eJ rfl rfl rfl rfl hic (ho μ83) rfl rfl<|bf rfl rfl (aR (xs:=[num a]) rfl (bI.sl.get rfl) ⟨Nat.le_of_ble_eq_true rfl,Nat.le_of_ble_eq_true rfl⟩ rfl rfl) rfl (ho μ85) rfl rfl ae
  have μ87:M 10 145 0 [3,5,30,31,36,40,43] 0:=hi<|aa [(1,147),(8,401),(9,657)] rfl (by kernel_rfl)<|ag (ho μ67) rfl rfl<|eJ rfl rfl rfl rfl hic (ho μ84) rfl rfl<|ag (ho μ86) rfl rfl ae
  have μ88:M 9 1553 0 [2,3,30,31,36,40,46] 0:=hi<|aa [(1,1555),(7,1681)] rfl (by kernel_rfl)<|ag (ho μ68) rfl rfl<|ag (ho μ85) rfl rfl ae
  have μ89:M 10 529 0 [2,3,30,31,36,40,45] 0:=hi<|aa [(1,531),(7,657),(10,1553)] rfl (by kernel_rfl)<|ag (ho μ69) rfl rfl<|ag (ho μ86) rfl rfl<|bf rfl rfl (aR (xs:=[num a]) rfl (bI.sl.get rfl) ⟨Nat.le_of_ble_eq_true rfl,Nat.le_of_ble_eq_true rfl⟩ rfl rfl) rfl (ho μ88) rfl rfl ae
  have μ90:M 11 17 0 [2,3,5,30,31,36,40] 0:=hi<|aa [(1,19),(7,145),(9,529)] rfl (by kernel_rfl)<|ag (ho μ70) rfl rfl<|ag (ho μ87) rfl rfl<|ag (ho μ89) rfl rfl ae
  have μ91:M 7 3969 0 [3,4,30,31,36,47] 2:=hi<|aa [(1,3971),(4,3985)] rfl (by kernel_rfl)<|ag (ho μ71) rfl rfl<|ag (ho μ81) rfl rfl ae
  have μ92:M 8 1921 0 [3,4,30,31,36,44,46] 1:=hi<|aa [(1,1923),(4,1937),(11,3969)] rfl (by kernel_rfl)<|ag (ho μ72) rfl rfl<|ag (ho μ82) rfl rfl<|bW rfl rfl (cJ.to (σ:=[some (.row 3 1 pre.length (aO pre))]) (p':=.own 1) (σ'':=[none,some (.row 3 1 (pre++[a]).length (aO (pre++[a])))]) (bA (e:=3) (s:=1) (by':=8) (i:=0) (m:=1) (n:=pre.length) (xs:=aO pre) (ys:=[num a]) rfl (bI.rk.get rfl) rfl rfl rfl rfl ⟨by unfold maxLen;omega,by omega⟩) rfl (by rw[List.length_append,←cL];rfl)) rfl (ho μ91) rfl rfl ae
  have μ93:M 9 897 0 [3,4,30,31,36,44,45] 1:=hi<|aa [(1,899),(4,913),(10,1921)] rfl (by kernel_rfl)<|ag (ho μ73) rfl rfl<|ag (ho μ83) rfl rfl<|bf rfl rfl (aR (xs:=[num a]) rfl (bI.sl.get rfl) ⟨Nat.le_of_ble_eq_true rfl,Nat.le_of_ble_eq_true rfl⟩ rfl rfl) rfl (ho μ92) rfl rfl ae
  have μ94:M 10 385 0 [3,4,5,30,31,36,44] 1:=hi<|aa [(1,387),(4,401),(9,897)] rfl (by kernel_rfl)<|ag (ho μ74) rfl rfl<|ag (ho μ84) rfl rfl<|ag (ho μ93) rfl rfl ae
  have μ95:M 9 1665 0 [3,4,30,31,36,43,46] 0:=hi<|aa [(1,1667),(4,1681),(8,1921)] rfl (by kernel_rfl)<|ag (ho μ75) rfl rfl<|ag (ho μ85) rfl rfl<|eJ rfl rfl rfl rfl hic (ho μ92) rfl rfl ae
  have μ96:M 10 641 0 [3,4,30,31,36,43,45] 0:=hi<|aa [(1,643),(4,657),(8,897),(10,1665)] rfl (by kernel_rfl)<|ag (ho μ76) rfl rfl<|ag (ho μ86) rfl rfl<|eJ rfl rfl rfl rfl hic (ho μ93) rfl rfl<|bf rfl rfl (aR (xs:=[num a]) rfl (bI.sl.get rfl) ⟨Nat.le_of_ble_eq_true rfl,Nat.le_of_ble_eq_true rfl⟩ rfl rfl) rfl (ho μ95) rfl rfl ae
  have μ97:M 11 129 0 [3,4,5,30,31,36,43] 0:=hi<|aa [(1,131),(4,145),(8,385),(9,641)] rfl (by kernel_rfl)<|ag (ho μ77) rfl rfl<|ag (ho μ87) rfl rfl<|eJ rfl rfl rfl rfl hic (ho μ94) rfl rfl<|ag (ho μ96) rfl rfl ae
  have μ98:M 10 1537 0 [2,3,4,30,31,36,46] 0:=hi<|aa [(1,1539),(4,1553),(7,1665)] rfl (by kernel_rfl)<|ag (ho μ78) rfl rfl<|ag (ho μ88) rfl rfl<|ag (ho μ95) rfl rfl ae
  have μ99:M 11 513 0 [2,3,4,30,31,36,45] 0:=hi<|aa [(1,515),(4,529),(7,641),(10,1537)] rfl (by kernel_rfl)<|ag (ho μ79) rfl rfl<|ag (ho μ89) rfl rfl<|ag (ho μ96) rfl rfl<|bf rfl rfl (aR (xs:=[num a]) rfl (bI.sl.get rfl) ⟨Nat.le_of_ble_eq_true rfl,Nat.le_of_ble_eq_true rfl⟩ rfl rfl) rfl (ho μ98) rfl rfl ae
  have μ100:M 12 1 0 [2,3,4,5,30,31,36] 0:=hi<|aa [(1,3),(4,17),(7,129),(9,513)] rfl (by kernel_rfl)<|ag (ho μ80) rfl rfl<|ag (ho μ90) rfl rfl<|ag (ho μ97) rfl rfl<|ag (ho μ99) rfl rfl ae
  have μ101:M 7 3984 0 [1,3,30,31,40,47] 2:=hi<|aa [(0,3985)] rfl (by kernel_rfl)<|ag (ho μ81) rfl rfl ae
  have μ102:M 8 1936 0 [1,3,30,31,40,44,46] 1:=hi<|aa [(0,1937),(11,3984)] rfl (by kernel_rfl)<|ag (ho μ82) rfl rfl<|bW rfl rfl (cJ.to (σ:=[some (.row 3 1 pre.length (aO pre))]) (p':=.own 1) (σ'':=[none,some (.row 3 1 (pre++[a]).length (aO (pre++[a])))]) (bA (e:=3) (s:=1) (by':=8) (i:=0) (m:=1) (n:=pre.length) (xs:=aO pre) (ys:=[num a]) rfl (bI.rk.get rfl) rfl rfl rfl rfl ⟨by unfold maxLen;omega,by omega⟩) rfl (by rw[List.length_append,←cL];rfl)) rfl (ho μ101) rfl rfl ae
  have μ103:M 9 912 0 [1,3,30,31,40,44,45] 1:=hi<|aa [(0,913),(10,1936)] rfl (by kernel_rfl)<|ag (ho μ83) rfl rfl<|bf rfl rfl (aR (xs:=[num a]) rfl (bI.sl.get rfl) ⟨Nat.le_of_ble_eq_true rfl,Nat.le_of_ble_eq_true rfl⟩ rfl rfl) rfl (ho μ102) rfl rfl ae
  have μ104:M 10 400 0 [1,3,5,30,31,40,44] 1:=hi<|aa [(0,401),(9,912)] rfl (by kernel_rfl)<|ag (ho μ84) rfl rfl<|ag (ho μ103) rfl rfl ae
  have μ105:M 9 1680 0 [1,3,30,31,40,43,46] 0:=hi<|aa [(0,1681),(8,1936)] rfl (by kernel_rfl)<|ag (ho μ85) rfl rfl<|eJ rfl rfl rfl rfl hic (ho μ102) rfl rfl ae
  have μ106:M 10 656 0 [1,3,30,31,40,43,45] 0:=hi<|aa [(0,657),(8,912),(10,1680)] rfl (by kernel_rfl)<|ag (ho μ86) rfl rfl<|eJ rfl rfl rfl rfl hic (ho μ103) rfl rfl<|bf rfl rfl (aR (xs:=[num a]) rfl (bI.sl.get rfl) ⟨Nat.le_of_ble_eq_true rfl,Nat.le_of_ble_eq_true rfl⟩ rfl rfl) rfl (ho μ105) rfl rfl ae
  have μ107:M 11 144 0 [1,3,5,30,31,40,43] 0:=hi<|aa [(0,145),(8,400),(9,656)] rfl (by kernel_rfl)<|ag (ho μ87) rfl rfl<|eJ rfl rfl rfl rfl hic (ho μ104) rfl rfl<|ag (ho μ106) rfl rfl ae
  have μ108:M 10 1552 0 [1,2,3,30,31,40,46] 0:=hi<|aa [(0,1553),(7,1680)] rfl (by kernel_rfl)<|ag (ho μ88) rfl rfl<|ag (ho μ105) rfl rfl ae
  have μ109:M 11 528 0 [1,2,3,30,31,40,45] 0:=hi<|aa [(0,529),(7,656),(10,1552)] rfl (by kernel_rfl)<|ag (ho μ89) rfl rfl<|ag (ho μ106) rfl rfl<|bf rfl rfl (aR (xs:=[num a]) rfl (bI.sl.get rfl) ⟨Nat.le_of_ble_eq_true rfl,Nat.le_of_ble_eq_true rfl⟩ rfl rfl) rfl (ho μ108) rfl rfl ae
  have μ110:M 12 16 0 [1,2,3,5,30,31,40] 0:=hi<|aa [(0,17),(7,144),(9,528)] rfl (by kernel_rfl)<|ag (ho μ90) rfl rfl<|ag (ho μ107) rfl rfl<|ag (ho μ109) rfl rfl ae
  have μ111:M 8 3968 0 [1,3,4,30,31,47] 2:=hi<|aa [(0,3969),(4,3984)] rfl (by kernel_rfl)<|ag (ho μ91) rfl rfl<|ag (ho μ101) rfl rfl ae
  have μ112:M 9 1920 0 [1,3,4,30,31,44,46] 1:=hi<|aa [(0,1921),(4,1936),(11,3968)] rfl (by kernel_rfl)<|ag (ho μ92) rfl rfl<|ag (ho μ102) rfl rfl<|bW rfl rfl (cJ.to (σ:=[some (.row 3 1 pre.length (aO pre))]) (p':=.own 1) (σ'':=[none,some (.row 3 1 (pre++[a]).length (aO (pre++[a])))]) (bA (e:=3) (s:=1) (by':=8) (i:=0) (m:=1) (n:=pre.length) (xs:=aO pre) (ys:=[num a]) rfl (bI.rk.get rfl) rfl rfl rfl rfl ⟨by unfold maxLen;omega,by omega⟩) rfl (by rw[List.length_append,←cL];rfl)) rfl (ho μ111) rfl rfl ae
  have μ113:M 10 896 0 [1,3,4,30,31,44,45] 1:=hi<|aa [(0,897),(4,912),(10,1920)] rfl (by kernel_rfl)<|ag (ho μ93) rfl rfl<|ag (ho μ103) rfl rfl<|bf rfl rfl (aR (xs:=[num a]) rfl (bI.sl.get rfl) ⟨Nat.le_of_ble_eq_true rfl,Nat.le_of_ble_eq_true rfl⟩ rfl rfl) rfl (ho μ112) rfl rfl ae
  have μ114:M 11 384 0 [1,3,4,5,30,31,44] 1:=hi<|aa [(0,385),(4,400),(9,896)] rfl (by kernel_rfl)<|ag (ho μ94) rfl rfl<|ag (ho μ104) rfl rfl<|ag (ho μ113) rfl rfl ae
  have μ115:M 10 1664 0 [1,3,4,30,31,43,46] 0:=hi<|aa [(0,1665),(4,1680),(8,1920)] rfl (by kernel_rfl)<|ag (ho μ95) rfl rfl<|ag (ho μ105) rfl rfl<|eJ rfl rfl rfl rfl hic (ho μ112) rfl rfl ae
  have μ116:M 11 640 0 [1,3,4,30,31,43,45] 0:=hi<|aa [(0,641),(4,656),(8,896),(10,1664)] rfl (by kernel_rfl)<|ag (ho μ96) rfl rfl<|ag (ho μ106) rfl rfl<|eJ rfl rfl rfl rfl hic (ho μ113) rfl rfl<|bf rfl rfl (aR (xs:=[num a]) rfl (bI.sl.get rfl) ⟨Nat.le_of_ble_eq_true rfl,Nat.le_of_ble_eq_true rfl⟩ rfl rfl) rfl (ho μ115) rfl rfl ae
  have μ117:M 12 128 0 [1,3,4,5,30,31,43] 0:=hi<|aa [(0,129),(4,144),(8,384),(9,640)] rfl (by kernel_rfl)<|ag (ho μ97) rfl rfl<|ag (ho μ107) rfl rfl<|eJ rfl rfl rfl rfl hic (ho μ114) rfl rfl<|ag (ho μ116) rfl rfl ae
  have μ118:M 11 1536 0 [1,2,3,4,30,31,46] 0:=hi<|aa [(0,1537),(4,1552),(7,1664)] rfl (by kernel_rfl)<|ag (ho μ98) rfl rfl<|ag (ho μ108) rfl rfl<|ag (ho μ115) rfl rfl ae
  have μ119:M 12 512 0 [1,2,3,4,30,31,45] 0:=hi<|aa [(0,513),(4,528),(7,640),(10,1536)] rfl (by kernel_rfl)<|ag (ho μ99) rfl rfl<|ag (ho μ109) rfl rfl<|ag (ho μ116) rfl rfl<|bf rfl rfl (aR (xs:=[num a]) rfl (bI.sl.get rfl) ⟨Nat.le_of_ble_eq_true rfl,Nat.le_of_ble_eq_true rfl⟩ rfl rfl) rfl (ho μ118) rfl rfl ae
  have μ120:M 13 0 0 [1,2,3,4,5,30,31] 0:=hi<|aa [(0,1),(4,16),(7,128),(9,512)] rfl (by kernel_rfl)<|ag (ho μ100) rfl rfl<|ag (ho μ110) rfl rfl<|ag (ho μ117) rfl rfl<|ag (ho μ119) rfl rfl ae
  exact μ120
end PW
end Go.Proofs.YtnegbdpggideiaaGreatDoor
namespace Go.Proofs.YtnegbdpggideiaaGreatDoor
namespace PW
open Go.RowKit Go.Shelf cB Mem Net eW
attribute [local go_sem] Oper.semAt_some
theorem sx{w:World}{l:Nat}{r:Loop}{o:Obj}(hl:w.heap[l]? =some (.loop r)){a:Addr}{x:Value}(h:w.cell? a=some x):(w.putObj l o).cell? a=some x:=by
 have hne:a.block≠l:=fun e=>by
  unfold World.cell? at h
  rw[e,hl]at h
  simp at h
 rw[jJ (World.putObj_heap_other hne)]
 exact h
theorem cD.loop{E:Env}{w:World}{l:Nat}{r:Loop}{o:Obj}(hl:w.heap[l]? =some (.loop r)){v:Value}{p:PV}(h:cD E w v p):cD E (w.putObj l o) v p:=by
 induction h with
 |any v=>exact .any v
 |raw v=>exact .raw v
 |bZ=>exact .bZ
 |empty a c h=>exact .empty a c h
 |slice b off n c cs xs h0 h1 h2 hb hM hc hl2 _ ih=>exact .slice b off n c cs xs h0 h1 h2 (by simpa using hb) hM (fun i x hx=>sx hl (hc i x hx)) hl2 ih
 |aX b o' off cs xs hb hM hc hl2 _ ih=>exact .aX b o' off cs xs (by simpa using hb) hM (fun i x hx=>sx hl (hc i x hx)) hl2 ih
 |agg cs xs hl2 _ ih=>exact .agg cs xs hl2 ih
 |tuple cs xs hl2 _ ih=>exact .tuple cs xs hl2 ih
 |func f cs xs hl2 _ ih=>exact .func f cs xs hl2 ih
 |ptr i off b hi h=>exact .ptr i off b hi h
 |own i hi v h hs=>exact .own i hi v h hs
def eB(e:Nat)(dt:Int)(path:List Int):List PV:=[num e,num dt,aw path]
theorem sH(e:Nat)(dt:Int)(path:List Int):IsPure (.agg (eB e dt path)):=by unfold eB;infer_instance
def GR(F0:Nat→Prop)(e:Nat)(dt:Int)(path:List Int)(x:Value)(W:World):Prop:=cD (EF F0) W x (.agg (eB e dt path))
theorem GR.calm(F0:Nat→Prop)(e:Nat)(dt:Int)(path:List Int):eW.Calm (GR F0 e dt path):=fun _ _ _ _ _ h hl=>cD.loop hl h
theorem Ad{P:Program}{ops:Array Oper}{n i l:Nat}{o:Oper}{a:Act}{w:World}{Q:Exit→Act→World→Prop}{x y:Operand}{ats:Array TypeId}{R:Ending→World→Prop}(ho:ops[i]? =some o)(hg:o.guard=none)(hop:o.op= .call {callee:=.value x,args:= #[y],argTypes:=ats})
  (hx:a.eval x= .func (.yield l) #[] #[]) (hy:YieldAt Fence.wide (n - 1) P l #[a.eval y] w R) (hR:∀e w',R e w'→∃v,e= .returned v∧Q .normal (a.put o.dst v) w'):wpOpsIn Fence.wide n P ops Q [i] a w:=by
 obtain⟨fn,tmps,assign,body,h1,h2⟩:=hy
 rw[wpOpsIn_cons]
 unfold wpOpIn
 rw[ho]
 simp only
 rw[if_pos (by unfold Region.wanted;rw[hg])]
 refine⟨fun _ _=>trivial,?_⟩
 rw[show Fence.wide.round=none from rfl,Oper.semAt_none]
 have hr:(execOp a.eval o).run P w= .ok (.round l fn tmps assign body) w:=by
  simp[execOp,hop,resolve,hx,Deferred.ofValue,invoke,h1]
 rw[hr]
 refine⟨fun h=>by simp[Fence.wide]at h,h2.mono fun e w' he=>?_⟩
 obtain⟨v,rfl,hq⟩:=hR e w' he
 exact hq
section
variable {T:ai} {tb:Nat→ee} {p0:eC} {Φ:Nat→Nat→List b7→Prop}
set_option maxRecDepth 100000 in
set_option maxHeartbeats 4000000 in
theorem GN{n:Nat}{o:Out}{vs:List PV}{c:Int}{pre:List Int}(ha:o.aI=[])(hpl:pre.length≤1000)[hvs:aJ vs]{xb pb:Value}{W₀:World}{F0:Nat→Prop}(hF:∀b,F0 b→b<W₀.heap.size)(gl:gV F0 W₀)(hX:cD (EF F0) W₀ xb (.aX [.aX (dw n o vs c) 0] 0))(hP:cD (EF F0) W₀ pb (.aX [aw pre] 0)):
  xQ Tryz.prog 165 #[xb,pb] (GR F0 n o.dt pre) W₀:=by
 intro n' l W R hW hkeep hY
 have hargs:aU (EF F0) W (#[Value.func (.yield l) #[] #[]]++ #[xb,pb]).toList [.raw (.func (.yield l) #[] #[]),.aX [.aX (dw n o vs c) 0] 0,.aX [aw pre] 0]:=
  aU.cons (.raw _) (aU.cons (hX.ext hW) (aU.cons (hP.ext hW) (aU.nil _ _)))
 have hF':∀b,F0 b→b<W.heap.size:=fun b hb=>Nat.lt_of_lt_of_le (hF b hb) hW.size
 have gl':gV F0 W:=gl.goes (E:=EF F0) (E':=EF F0) (.ext hW)
 refine callsIn_of_wp_marks Tryz.func165 rfl trivial ?_ rfl
 have hs0:=iM (N:=55) (Sat.start F0 W hF' gl') hargs (by simp)
 have hc0:oK W.heap.size 0 (EF F0) W (EF F0) W:=⟨rfl,cQ.refl _ _,Below.refl _ _⟩
 refine wpIn_seq (piece (K:=fun s=>s=⟨[(1,.aX [.aX (dw n o vs c) 0] 0),(2,.aX [aw pre] 0),(3,.aX [.raw (.func (.yield l) #[] #[])] 0)],[]⟩) hc0 hs0 ?_ ?_)
 ·skip
  refine az (.a 1 rfl<|.k [1,2,3] rfl) ?_
  exact rfl
 rintro _ E1 a1 w1 rfl hs1 g1 b1
 refine wpIn_seq (wpIn_seq (piece (K:=fun s=>s=⟨[(1,.aX [.aX (dw n o vs c) 0] 0),(2,.aX [aw pre] 0),(3,.aX [.raw (.func (.yield l) #[] #[])] 0),(12,flag true)],[]⟩) ⟨rfl,g1,b1⟩ hs1 ?_ ?_))
 ·skip
  refine az (.a 5 rfl<|.v (DT rfl rfl rfl (decide_eq_true (by rw[ha];rfl))) rfl<|.k [1,2,3,12] rfl) ?_
  exact rfl
 rintro _ E2 a2 w2 rfl hs2 g2 b2
 refine wpIn_cond_true (dQ (hs2.tmp 12 _ rfl)) ?_
 refine wpIn_seq ?_
 skip
 refine rO 12 20 [13,14,15,16,17,18,19,20,21,22,23,24] mixed (by kernel_rfl) (by kernel_rfl) (by kernel_rfl) rfl (hs2) (.a 4 rfl<|.v [16] (aN rfl (rfl)) rfl rfl<|.a 3 rfl<|.v [20] (aN rfl (rfl)) rfl rfl<|.a 1 rfl<|.v [22] (dR rfl (qY pre hpl)) rfl rfl<|.a 1 rfl<|.k [13,24] rfl) ?_
 intro a3 w3 hE3 hs3
 have hEW:Ext W w3:=Ext.trans b2 hE3
 have h24:=hs3.tmp 24 (.agg (eB n o.dt pre)) rfl
 have hv:GR F0 n o.dt pre (a3.eval (.tmp 24)) w3:=(sH n o.dt pre).out _ F0 _ _ (fun b hb=>(hs3.sat.mm b).2 (.inl hb)) h24
 refine Ad (x:=.tmp 13) (y:=.tmp 24) rfl rfl rfl (dQ (hs3.tmp 13 _ rfl)) (hY _ _ w3 hEW hv) ?_
 rintro e w4 ⟨rfl,hr⟩
 refine⟨_,rfl,wpIn_ret ?_⟩
 show LeavesInM _ _ _ _ _ _ (a3.put (some 25) (.bool true)).defers _ _
 rw[show(a3.put (some 25) (.bool true)).defers=[] from hs3.j9]
 exact⟨_,results_none rfl _ _ _,⟨_,rfl⟩,w3,w4,hEW,hr,Rest.refl _ _ _⟩
end
end PW
end Go.Proofs.YtnegbdpggideiaaGreatDoor
namespace Go.Proofs.YtnegbdpggideiaaGreatDoor
namespace PW
open Go.RowKit Go.Shelf cB Mem Net eW
attribute [local go_sem] Oper.semAt_some
theorem dX.one{E:Env}{w:World}{ρ:Operand→Value}{k:Nat}{p:PV}{t:bY}(h:cD E w (ρ (.tmp k)) p)(ht:dX E w ρ t):dX E w ρ ((k,p)::t):=ht.DY h
theorem dX.IQ{E:Env}{w:World}{ρ:Operand→Value}:dX E w ρ []:=fun k p h=>by cases h
theorem mo{a:Act}{k:Nat}{v:Value}(h:k<a.tmps.size):(a.put (some k) v).eval (.tmp k)=v:=by
 show(a.tmps.setIfInBounds k v).getD k undef=v
 simp[h]
theorem qb{a:Act}{k j:Nat}{v:Value}(h:j≠k):(a.put (some k) v).eval (.tmp j)=a.eval (.tmp j):=by
 show(a.tmps.setIfInBounds k v).getD j undef=a.tmps.getD j undef
 simp[Array.getD_eq_getD_getElem?,Array.getElem?_setIfInBounds_ne (Ne.symm h)]
set_option maxRecDepth 100000 in
set_option maxHeartbeats 8000000 in
theorem Fp{n:Nat}{o:Out}{ys:List PV}{c:Int}{pre q:List Int}{a:Int}{e:Nat}{dt:Int}(ha:o.aI=[a])(hpl:pre.length+1≤1000)[hv1:aJ ys]{xb pb:Value}{W₀:World}{F0:Nat→Prop}(hF:∀b,F0 b→b<W₀.heap.size)(gl:gV F0 W₀)(hX:cD (EF F0) W₀ xb (.aX [.aX (dw n o [.aX ys 0] c) 0] 0))(hP:cD (EF F0) W₀ pb (.aX [aw pre] 0))
  (hin:∀(xb' pb':Value) (W':World),(∀b,F0 b→b<W'.heap.size)→gV F0 W'→cD (EF F0) W' xb' (.aX [.aX ys 0] 0)→cD (EF F0) W' pb' (.aX [aw (pre++[a])] 0)→xQ Tryz.prog 165 #[xb',pb'] (GR F0 e dt ((pre++[a])++q)) W'):
  xQ Tryz.prog 165 #[xb,pb] (GR F0 e dt (pre++a::q)) W₀:=by
 intro n' l W R hW hkeep hY
 have hargs:aU (EF F0) W (#[Value.func (.yield l) #[] #[]]++ #[xb,pb]).toList [.raw (.func (.yield l) #[] #[]),.aX [.aX (dw n o [.aX ys 0] c) 0] 0,.aX [aw pre] 0]:=
  aU.cons (.raw _) (aU.cons (hX.ext hW) (aU.cons (hP.ext hW) (aU.nil _ _)))
 have hF':∀b,F0 b→b<W.heap.size:=fun b hb=>Nat.lt_of_lt_of_le (hF b hb) hW.size
 have gl':gV F0 W:=gl.goes (E:=EF F0) (E':=EF F0) (.ext hW)
 refine callsIn_of_wp_marks Tryz.func165 rfl trivial ?_ rfl
 have hs0:=iM (N:=55) (Sat.start F0 W hF' gl') hargs (by simp)
 have hc0:oK W.heap.size 0 (EF F0) W (EF F0) W:=⟨rfl,cQ.refl _ _,Below.refl _ _⟩
 refine wpIn_seq (piece (K:=fun s=>s=⟨[(1,.aX [.aX (dw n o [.aX ys 0] c) 0] 0),(2,.aX [aw pre] 0),(3,.aX [.raw (.func (.yield l) #[] #[])] 0)],[]⟩) hc0 hs0 ?_ ?_)
 ·skip
  refine az (.a 1 rfl<|.k [1,2,3] rfl) ?_
  exact rfl
 rintro _ E1 a1 w1 rfl hs1 g1 b1
 refine wpIn_seq (wpIn_seq (piece (K:=fun s=>s=⟨[(1,.aX [.aX (dw n o [.aX ys 0] c) 0] 0),(2,.aX [aw pre] 0),(3,.aX [.raw (.func (.yield l) #[] #[])] 0),(12,flag false)],[]⟩) ⟨rfl,g1,b1⟩ hs1 ?_ ?_))
 ·skip
  refine az (.a 5 rfl<|.v (DT rfl rfl rfl (decide_eq_false (by rw[ha];simp))) rfl<|.k [1,2,3,12] rfl) ?_
  exact rfl
 rintro _ E2 a2 w2 rfl hs2 g2 b2
 refine wpIn_cond_false (dQ (hs2.tmp 12 _ rfl)) (wpIn_skip ?_)
 refine wpIn_seq (piece (K:=fun s=>s=⟨[(1,.aX [.aX (dw n o [.aX ys 0] c) 0] 0),(2,.aX [aw pre] 0),(3,.aX [.raw (.func (.yield l) #[] #[])] 0),(29,aw o.aI),(30,num o.aI.length),(31,num 0)],[]⟩) ⟨rfl,g2,b2⟩ hs2 ?_ ?_)
 ·skip
  refine az (.a 6 rfl<|.k [1,2,3,29,30,31] rfl) ?_
  exact rfl
 rintro _ E3 a3 w3 rfl hs3 g3 b3
 rw[ha]at hs3
 refine wpIn_block ?_
 refine wI (fun a' w'=>∃D W1 W2,a'.defers=[{target:=.collected D,args:= #[]}]∧a'.tmps.size=55∧a'.eval (.tmp 31)= .int .i64 1∧a'.eval (.tmp 30)= .int .i64 1∧w'.heap[D]? =some (.deferred (some []))∧Ext W W1∧R W1 W2∧eW.Rest W.heap.size W1.heap.size W2 w'∧W.heap.size≤D∧D<W1.heap.size) ?_ ?_
 ·
  refine wpIn_seq (piece (K:=fun s=>s=⟨[(1,.aX [.aX (dw n o [.aX ys 0] c) 0] 0),(2,.aX [aw pre] 0),(3,.aX [.raw (.func (.yield l) #[] #[])] 0),(29,aw [a]),(30,num ([a]:List Int).length),(31,num 0),(32,flag true)],[]⟩) ⟨rfl,g3,b3⟩ hs3 ?_ ?_)
  ·skip
   refine az (.a 1 rfl<|.k [1,2,3,29,30,31,32] rfl) ?_
   exact rfl
  rintro _ E4 a4 w4 rfl hs4 g4 b4
  refine wpIn_seq (wpIn_cond_true (dQ (hs4.tmp 32 _ rfl)) (wpIn_skip ?_))
  refine wpIn_seq (wpIn_block ?_)
  refine wpIn_seq (piece (K:=fun s=>s=⟨[(1,.aX [.aX (dw n o [.aX ys 0] c) 0] 0),(2,.aX [aw pre] 0),(3,.aX [.raw (.func (.yield l) #[] #[])] 0),(4,num 0),(5,num a),(30,num ([a]:List Int).length),(31,num 0)],[]⟩) ⟨rfl,g4,b4⟩ hs4 ?_ ?_)
  ·skip
   refine az (.a 1 rfl<|.v (aL (0) rfl (by simp) (by simp)) rfl<|.v (aN rfl ((rfl:(aO [a])[0]? =some (num a)))) rfl<|.a 2 rfl<|.k [1,2,3,4,5,30,31] rfl) ?_
   exact rfl
  rintro _ E5 a5 w5 rfl hs5 g5 b5
  refine wpIn_seq (piece (L:=0) (K:=IF ys pre a l) ⟨rfl,g5,b5⟩ hs5 (Gc ys pre a l n o c hpl) ?_)
  rintro⟨t6,σ6⟩ E6 a6 w6 ⟨hσ6,hsub6⟩ hs6 g6 b6
  simp only at hσ6 hsub6
  subst hσ6
  have ht6:=hs6.tmp.sub hsub6
  have hpl2:aJ (aO (pre++[a])):=inferInstance
  have h48:=(aB.iw (f:=165) (an.cons (aB.jk (i:=2) (k:=0) (blk:=.cells 147 [.aX ys 0]) (ys:=[.aX ys 0]) rfl (show an _ [.aX ys 0] [.aX ys 0] from an.pure))<|an.cons (aB.jk (i:=3) (k:=0) (blk:=.cells 37 [.own 1]) (ys:=[aw (pre++[a])]) rfl (an.cons (aB.ew (i:=1) rfl an.pure) an.nil)) an.nil)).rep hs6.sat (G:=F0) (fun b hb=>(hs6.sat.mm b).2 (.inl hb)) (fun b hb=>(hs6.sat.fb b hb).2) _ (ht6 48 _ rfl)
  have h3:cD (EF F0) w6 (a6.eval (.tmp 3)) (.aX [.raw (.func (.yield l) #[] #[])] 0):=(inferInstance:IsPure (.aX [.raw (.func (.yield l) #[] #[])] 0)).out _ F0 _ _ (fun b hb=>(hs6.sat.mm b).2 (.inl hb)) (ht6 3 _ rfl)
  have h30:a6.eval (.tmp 30)= .int .i64 1:=dQ (ht6 30 _ rfl)
  have h31:a6.eval (.tmp 31)= .int .i64 0:=dQ (ht6 31 _ rfl)
  have hd6:a6.defers=[]:=hs6.j9
  have hz6:a6.tmps.size=55:=hs6.size
  have hE6:Ext W w6:=b6
  have hF6:∀b,F0 b→b<w6.heap.size:=fun b hb=>Nat.lt_of_lt_of_le (hF' b hb) hE6.size
  have gl6:gV F0 w6:=gl'.goes (E:=EF F0) (E':=EF F0) (.ext hE6)
  clear ht6 hs6 g6 b6 hsub6
  generalize hz48:a6.eval (.tmp 48)=z48 at h48
  cases h48 with
  |func _ cs _ hcl hcr=>
  obtain⟨cs⟩:=cs
  match cs,hcl,hcr with
  | [xb',pb'],_,hcr=>
  have hxb:=hcr 0 xb' _ rfl rfl
  have hpb:=hcr 1 pb' _ rfl rfl
  refine wpIn_block ?_
  refine kZ hz48 (enters_of Tryz.func165 (by kernel_rfl) rfl) (GR.calm F0 e dt ((pre++[a])++q)) (fun v A B h hE=>cD.ext hE h) (hin xb' pb' w6 hF6 gl6 hxb hpb) (Below.refl _ _) rfl (fun Wb W3=>∃Wc,Ext Wb Wc∧R Wc W3) ?_ ?_
  ·intro m l2 v W1 hl2 hloop hE1 hv
   obtain⟨rl,hrl⟩:=hloop
   obtain⟨arr6,ds6⟩:=a6
   simp only at hd6 hz6
   subst hd6
   have hF1:∀b,F0 b→b<W1.heap.size:=fun b hb=>Nat.lt_of_lt_of_le (hF6 b hb) hE1.size
   have gl1:gV F0 W1:=gl6.goes (E:=EF F0) (E':=EF F0) (.ext hE1)
   have hsA:dO F0 W1.heap.size 55 ⟨[(49,.agg (eB e dt ((pre++[a])++q))),(3,.aX [.raw (.func (.yield l) #[] #[])] 0)],[]⟩ (EF F0) ((⟨arr6,[]⟩:Act).put (some 49) v) W1:=
    ⟨Sat.start F0 W1 hF1 gl1,dX.put (dX.one (h3.ext hE1) dX.IQ) hv (by simp[hz6]),rfl,by simp[Act.put,hz6]⟩
   rw[show({tmps:=(#[49].zip #[v]).foldl (fun t (p,v)=>t.setIfInBounds p v) arr6,defers:=[]}:Act)=(⟨arr6,[]⟩:Act).put (some 49) v from by simp[Act.put]]
   refine mh (m:=2) (K:=fun s=>s=⟨[(3,.aX [.raw (.func (.yield l) #[] #[])] 0),(6,.ptr 0 0)],[some (.cells 107 (eB e dt ((pre++[a])++q)))]⟩) rfl rfl hsA rfl (by refine au 2 rfl ?_;refine aH [3,6] rfl ?_;rfl) ?_
   rintro _ Ea a7 Wa rfl hsB gB bB
   refine⟨bB,fun Wb hlb hEb hzb hoth hvb=>?_⟩
   have hla:Wa.heap[l2]? =some (.loop rl):=(bB.block _ (Array.getElem?_eq_some_iff.1 hrl).1).trans hrl
   have hpr:aJ (eB e dt ((pre++[a])++q)):=by unfold eB;infer_instance
   have r6:=((aB.jk (i:=0) (k:=0) (blk:=.cells 107 (eB e dt ((pre++[a])++q))) (ys:=eB e dt ((pre++[a])++q)) rfl (show an _ (eB e dt ((pre++[a])++q)) (eB e dt ((pre++[a])++q)) from an.pure)).rep hsB.sat (G:=F0) (fun b hb=>(hsB.sat.mm b).2 (.inl hb)) (fun b hb=>(hsB.sat.fb b hb).2) _ (hsB.tmp 6 _ rfl)).other hla hzb hoth
   have r3:=((inferInstance:IsPure (.aX [.raw (.func (.yield l) #[] #[])] 0)).out _ F0 _ _ (fun b hb=>(hsB.sat.mm b).2 (.inl hb)) (hsB.tmp 3 _ rfl)).other hla hzb hoth
   have hFb:∀b,F0 b→b<Wb.heap.size:=fun b hb=>Nat.lt_of_lt_of_le (hF6 b hb) hEb.size
   have glb:gV F0 Wb:=(gl1.goes (E:=EF F0) (E':=EF F0) (.ext (w':=Wa) bB)).other hla hoth
   have hsC:dO F0 Wb.heap.size 55 ⟨[(3,.aX [.raw (.func (.yield l) #[] #[])] 0),(6,.aX (eB e dt ((pre++[a])++q)) 0)],[]⟩ (EF F0) a7 Wb:=
    ⟨Sat.start F0 Wb hFb glb,dX.one r3 (dX.one r6 dX.IQ),hsB.j9,hsB.size⟩
   refine wpIn_block (wpIn_seq ?_)
   refine mh (m:=2) (K:=fun s=>s=⟨[(50,.raw (.func (.yield l) #[] #[])),(51,.agg (eB e dt ((pre++[a])++q)))],[]⟩) rfl rfl hsC rfl (by refine au 2 rfl ?_;refine aH [50,51] rfl ?_;rfl) ?_
   rintro _ Ed a8 Wc rfl hsD gD bD
   have hEbc:Ext Wb Wc:=bD
   have hEWc:Ext W Wc:=(hE6.trans hEb).trans hEbc
   have h51:=(sH e dt ((pre++[a])++q)).out _ F0 _ _ (fun b hb=>(hsD.sat.mm b).2 (.inl hb)) (hsD.tmp 51 _ rfl)
   rw[show(pre++[a])++q=pre++a::q by simp]at h51
   have hz8:a8.tmps.size=55:=hsD.size
   show wpOpsIn _ _ _ _ _ [2,3] a8 Wc
   refine Aa (x:=.tmp 50) (y:=.tmp 51) rfl rfl rfl (dQ (hsD.tmp 50 _ rfl)) (hY _ _ Wc hEWc h51) ?_
   rintro e4 W4 ⟨rfl,hr4⟩
   refine⟨_,rfl,?_⟩
   refine mf (.inr ⟨_,rfl⟩) rfl rfl (fun c e=>by cases e) (CE rfl (mo (by omega))) ?_
   refine wpIn_cond_false (mo (by simp[Act.put,hz8])) (wpIn_skip ?_)
   obtain⟨k1,k2⟩:=hkeep _ _ hr4
   have hs1:=hE6.size
   have hs2:=hEbc.size
   exact⟨⟨by omega,fun k h1 h2=>(k2 k (by omega) (by omega)).trans (hEbc.block k h2)⟩,Wc,hEbc,hr4⟩
  ·intro Wb W3 W' hEb hlt hle hrx hrest hD
   obtain⟨Wc,hEbc,hr⟩:=hrx
   have hs1:=hE6.size
   have hs2:=hEbc.size
   refine wpIn_region ?_
   refine mf (.inl rfl) rfl rfl (fun c e=>by cases e) (wO rfl (show Act.eval {a6 with defers:=_} (.tmp 31)=_ from h31) rfl (v:=.int .i64 1) (by simp[binOp,Op.intArith,ju (show In64 1 by unfold In64;omega)])) ?_
   refine mf (.inl rfl) rfl rfl (fun c e=>by cases e) (Bb rfl) ?_
   refine⟨w6.heap.size,Wc,W3,by show _::a6.defers=_;rw[hd6],by show((a6.tmps.setIfInBounds 54 _).setIfInBounds 31 _).size=55;simp[hz6],?_,?_,hD,(hE6.trans hEb).trans hEbc,hr,hrest.wide hs1 hs2,hs1,by omega⟩
   ·refine(mo (k:=31) (by show 31<(a6.tmps.setIfInBounds 54 _).size;simp[hz6])).trans ?_
    exact mo (k:=54) (by show 54<a6.tmps.size;omega)
   ·refine(qb (k:=31) (j:=30) (by decide)).trans ?_
    refine(qb (k:=54) (j:=30) (by decide)).trans ?_
    exact h30
 ·rintro a' w' ⟨D,W1,W2,hd,hz,h31,h30,hD,hE,hR,hrest,hD1,hD2⟩
  refine wpIn_seq (wpIn_region ?_)
  refine mf (.inl rfl) rfl rfl (fun c e=>by cases e) (wO rfl h31 h30 (v:=.bool false) (by simp[binOp,Op.intCmp])) ?_
  have h32:(a'.put (some 32) (.bool false)).eval (.tmp 32)= .bool false:=by
   show(a'.tmps.setIfInBounds 32 _).getD 32 _=_
   simp[hz]
  refine wpIn_seq (wpIn_cond_false h32 (wpIn_exit ?_))
  show LeavesInM _ _ _ _ _ _ (a'.put (some 32) (.bool false)).defers _ _
  rw[show(a'.put (some 32) (.bool false)).defers=[{target:=.collected D,args:= #[]}] from hd]
  refine⟨by simp,.inl ⟨_,_,rfl,run_takeDeferred hD,?_⟩⟩
  exact⟨_,results_none rfl _ _ _,⟨_,rfl⟩,W1,W2,hE,hR,hrest.trans (Rest.put hD rfl hD1 hD2)⟩
end PW
end Go.Proofs.YtnegbdpggideiaaGreatDoor
namespace Go.Proofs.YtnegbdpggideiaaGreatDoor
namespace PW
open Go.RowKit Go.Shelf cB Mem Net eW
attribute [local go_sem] Oper.semAt_some
theorem xW{w:World}{a:Addr}{x:Value}(h:w.cell? a=some x):∃o,w.heap[a.block]? =some o∧o.isCells=true:=by
 unfold World.cell? at h
 cases ho:w.heap[a.block]? with
 |none=>rw[ho]at h;simp at h
 |some o=>exact⟨o,rfl,by rw[ho]at h;cases o<;>simp_all[Obj.isCells]⟩
theorem cD.cells{E:Env}{w w':World}(hz:w.heap.size≤w'.heap.size)(hc:∀(k:Nat) (o:Obj),w.heap[k]? =some o→o.isCells=true→w'.heap[k]? =some o){v:Value}{p:PV}(h:cD E w v p):cD E w' v p:=by
 have key:∀ {a:Addr} {x:Value},w.cell? a=some x→w'.cell? a=some x:=fun {a x} h=>by
  obtain⟨o,h1,h2⟩:=xW h
  rw[jJ ((hc _ _ h1 h2).trans h1.symm)]
  exact h
 induction h with
 |any v=>exact .any v
 |raw v=>exact .raw v
 |bZ=>exact .bZ
 |empty a c h=>exact .empty a c h
 |slice b off n c cs xs h0 h1 h2 hb hM hcc hl2 _ ih=>exact .slice b off n c cs xs h0 h1 h2 (by omega) hM (fun i x hx=>key (hcc i x hx)) hl2 ih
 |aX b o' off cs xs hb hM hcc hl2 _ ih=>exact .aX b o' off cs xs (by omega) hM (fun i x hx=>key (hcc i x hx)) hl2 ih
 |agg cs xs hl2 _ ih=>exact .agg cs xs hl2 ih
 |tuple cs xs hl2 _ ih=>exact .tuple cs xs hl2 ih
 |func f cs xs hl2 _ ih=>exact .func f cs xs hl2 ih
 |ptr i off b hi h=>exact .ptr i off b hi h
 |own i hi v h hs=>exact .own i hi v h hs
set_option maxRecDepth 100000 in
set_option maxHeartbeats 8000000 in
theorem Bm{xv pv:PV}[IsPure xv][IsPure pv]{e:Nat}{dt:Int}{p:List Int}
    (hin:∀(F0:Nat→Prop) (xb pb:Value) (W':World),(∀b,F0 b→b<W'.heap.size)→gV F0 W'→cD (EF F0) W' xb xv→cD (EF F0) W' pb pv→xQ Tryz.prog 165 #[xb,pb] (GR F0 e dt p) W'):
    Can Tryz.prog 164 [.raw (.slice none 0 0),.func 165 [xv,pv]] (· = .slice 1 (eB e dt p)):=by
  intro F0 w vs hF gl hR
  refine(callsIn_wide (n:=4)).1 ?_
  refine callsIn_of_wp_marks Tryz.func164 rfl trivial ?_ rfl
  have hs0:=iM (N:=13) (Sat.start F0 w hF gl) hR (by have:=hR.1;simp at this;omega)
  have hc0:oK w.heap.size 0 (EF F0) w (EF F0) w:=⟨rfl,cQ.refl _ _,Below.refl _ _⟩
  refine wpIn_seq (piece (L:=0) (K:=fun s=>s=⟨[(1,.func 165 [xv,pv]),(2,.ptr 0 0)],[some (.cells 104 [.raw (.slice none 0 0)])]⟩) hc0 hs0 ?_ ?_)
  · skip
    refine bF<|cn (fF (xs:=[_]) rfl rfl rfl) rfl<|au 1 rfl<|aH [1,2] rfl ?_
    exact rfl
  rintro _ E1 a1 w1 rfl hs1 g1 b1
  refine wpIn_seq (wpIn_seq (piece (L:=0) (K:=fun s=>s=⟨[(2,.ptr 0 0),(6,.func 165 [xv,pv])],[some (.cells 104 [.raw (.slice none 0 0)])]⟩) ⟨rfl,g1,b1⟩ hs1 ?_ ?_))
  · skip
    refine az (.a 1 rfl<|.k [2,6] rfl) ?_
    exact rfl
  rintro _ E2 a2 w2 rfl hs2 g2 b2
  have hE2:Ext w w2:=b2
  have hF2:∀b,F0 b→b<w2.heap.size:=fun b hb=>Nat.lt_of_lt_of_le (hF b hb) hE2.size
  have hM2:∀b,E2.M b→b<w2.heap.size:=fun b hb=>hs2.sat.lt hb
  obtain⟨B,cs0,hB,hBb,hBh,hBr⟩:=hs2.sat.blk 0 _ rfl
  have h6:=(inferInstance:IsPure (.func 165 [xv,pv])).out _ E2.M _ _ (fun b hb=>hb) (hs2.tmp 6 _ rfl)
  have h2:a2.eval (.tmp 2)= .pointer (some ⟨B,0,none⟩):=by
    have:=hs2.tmp 2 _ rfl
    generalize a2.eval (.tmp 2)=z at this
    cases this with
    |ptr _ _ b' _ h=>
      rcases h with h|⟨n',c',h⟩<;>rw[hB]at h<;>cases h
      rfl
  have hBl:B<w2.heap.size:=(Array.getElem?_eq_some_iff.1 hBh).1
  obtain⟨c0,rfl⟩:∃c0,cs0= #[c0]:=by
    obtain⟨cl⟩:=cs0
    match cl,hBr.1 with
    | [c0],_=>exact⟨c0,rfl⟩
  have hd2:=hs2.j9
  have hz2:=hs2.size
  generalize hz48:a2.eval (.tmp 6)=z48 at h6
  cases h6 with
  |func _ cs _ hcl hcr=>
  obtain⟨cs⟩:=cs
  match cs,hcl,hcr with
  | [xb',pb'],_,hcr=>
  have hxb:=hcr 0 xb' _ rfl rfl
  have hpb:=hcr 1 pb' _ rfl rfl
  refine wpIn_block ?_
  refine kZ hz48 (enters_of Tryz.func165 (by kernel_rfl) rfl) (GR.calm E2.M e dt p) (fun v A B h hE=>cD.ext hE h) (hin E2.M xb' pb' w2 hM2 hs2.sat.gl hxb hpb) (Below.refl _ _) rfl (fun Wb W3=>∃c,W3.heap[B]? =some (.cells #[c] 104 (0,0))∧cD (EF F0) W3 c (.slice 1 (eB e dt p))∧Below w.heap.size Wb W3) ?_ ?_
  · intro m l2 v W1 hl2 hloop hE1 hv
    obtain⟨rl,hrl⟩:=hloop
    have hpr:aJ (eB e dt p):=by unfold eB;infer_instance
    have hor:cr (eB e dt p):=by unfold eB;infer_instance
    have h2t:=hs2.tmp.sub (t':=[(2,.ptr 0 0)]) (bd (ks:=[2]) rfl)
    obtain⟨arr2,ds2⟩:=a2
    simp only at hd2 hz2
    subst hd2
    have hvE:cD E2 W1 v (.agg (eB e dt p)):=cD.back hv
    have hsA:dO F0 w.heap.size 13 ⟨[(7,.agg (eB e dt p)),(2,.ptr 0 0)],[some (.cells 104 [.raw (.slice none 0 0)])]⟩ E2 ((⟨arr2,[]⟩:Act).put (some 7) v) W1:=
      ⟨hs2.sat.ext hE1,dX.put (fun k q hk=>(h2t k q hk).ext hE1) hvE (by simp[hz2]),rfl,by simp[Act.put,hz2]⟩
    rw[show({tmps:=(#[7].zip #[v]).foldl (fun t (p,v)=>t.setIfInBounds p v) arr2,defers:=[]}:Act)=(⟨arr2,[]⟩:Act).put (some 7) v from by simp[Act.put]]
    refine mh (m:=2) (L:=E2.L) (K:=fun s=>s=⟨[(2,.ptr 0 0),(5,.aX (eB e dt p) 0)],[some (.cells 104 [.raw (.slice none 0 0)]),none]⟩) rfl rfl hsA rfl (by
      refine au 2 rfl ?_
      refine H8 1 (σ':=[some (.cells 104 [.raw (.slice none 0 0)]),none]) (t':=[(2,.ptr 0 0),(5,.aX (eB e dt p) 0)]) (blk:=.cells 107 (eB e dt p)) rfl ⟨rfl,rfl,fun j hj=>.inl (by match j,hj with|0,_=>rfl|1,h=>exact absurd rfl h|_+2,_=>rfl)⟩ (.cons 2 rfl (.same _)<|.cons 5 rfl (.ptr 0) .nil) ?_
      exact aZ rfl) ?_
    rintro _ Ea a7 Wa rfl hsB gB bB
    have hEa:Ext W1 Wa:=by
      refine⟨bB.os,bB.tape,bB.output,bB.size,fun k hk=>?_⟩
      rcases Nat.lt_or_ge k w.heap.size with h|h
      · exact bB.block k h
      · by_cases hm:E2.M k
        · rcases (hsA.sat.mm k).1 hm with hf | ⟨i, blk, hi, hbk⟩
          · exact absurd (hF k hf) (by omega)
          · match i,hi with
            |0,hi=>
              cases hi
              rw[hB]at hbk
              cases hbk
              obtain⟨B1,c1,q1,_,q2,q3⟩:=hsA.sat.blk 0 _ rfl
              obtain⟨B2,c2,q4,_,q5,q6⟩:=hsB.sat.blk 0 _ rfl
              have e0:Ea.at_ 0=E2.at_ 0:=gB.at_ 0 (by rw[hsA.sat.len];simp)
              rw[hB]at q1
              rw[e0,hB]at q4
              cases q1
              cases q4
              rw[q2,q5]
              have:c1=c2:=by
                obtain⟨c1⟩:=c1
                obtain⟨c2⟩:=c2
                match c1,c2,q3,q6 with
                | [x1],[x2],q3,q6=>
                  have r1:=dQ (q3.2 0 x1 _ rfl rfl)
                  have r2:=dQ (q6.2 0 x2 _ rfl rfl)
                  rw[r1,r2]
              rw[this]
        · exact gB.heap k hk hm
    refine⟨hEa,fun Wb hlb hEb hzb hoth hvb=>?_⟩
    have hla:Wa.heap[l2]? =some (.loop rl):=(hEa.block _ (Array.getElem?_eq_some_iff.1 hrl).1).trans hrl
    have hsC:dO F0 w.heap.size 13 ⟨[(2,.ptr 0 0),(5,.aX (eB e dt p) 0)],[some (.cells 104 [.raw (.slice none 0 0)]),none]⟩ Ea a7 Wb:=
      ⟨hsB.sat.other hla hzb hoth,hsB.tmp.other hla hzb hoth,hsB.j9,hsB.size⟩
    refine wpIn_block ?_
    refine mh (m:=5) (L:=Ea.L) (K:=fun s=>s.σ=[some (.cells 104 [.own 3]),none,none,some (.row 107 3 1 (eB e dt p))]) rfl rfl hsC rfl (by
      refine au 2 rfl ?_
      refine bE (aR (xs:=eB e dt p) rfl (bI.sl.get rfl) ⟨Nat.le_of_ble_eq_true rfl,Nat.le_of_ble_eq_true rfl⟩ rfl rfl) rfl ?_
      refine Dx 8 107 3 rfl ?_
      refine cn (bA (e:=107) (s:=3) (by':=40) (i:=2) (m:=1) (n:=0) (xs:=[]) (ys:=eB e dt p) rfl (bI.rk.get rfl) rfl rfl rfl rfl ⟨by unfold maxLen;omega,by omega⟩) rfl ?_
      refine bc (cG rfl (bI.tk.get rfl) rfl rfl rfl (Nat.le_of_ble_eq_true rfl)) rfl rfl ?_
      exact aZ rfl) ?_
    rintro⟨t8,σ8⟩ E8 a8 W3 hσ8 hs8 g8 b8
    simp only at hσ8
    subst hσ8
    have e0:E8.at_ 0= .pointer (some ⟨B,0,none⟩):=by
      rw[g8.at_ 0 (by rw[hsC.sat.len];simp),gB.at_ 0 (by rw[hsA.sat.len];simp),hB]
    obtain⟨B',cs8,q1,_,q2,q3⟩:=hs8.sat.blk 0 _ rfl
    rw[e0]at q1
    cases q1
    obtain⟨cl8⟩:=cs8
    match cl8,q3 with
    | [c8],q3=>
    have hown:=q3.2 0 c8 _ rfl rfl
    have hrep:cD (EF F0) W3 c8 (.slice 1 (eB e dt p)):=(aB.ew (i:=3) rfl (show an _ (eB e dt p) (eB e dt p) from an.pure)).rep hs8.sat (G:=F0) (fun b hb=>(hs8.sat.mm b).2 (.inl hb)) (fun b hb=>(hs8.sat.fb b hb).2) _ hown
    refine⟨⟨b8.size,fun k h1 h2=>g8.heap k h2 (fun hm=>?_)⟩,c8,q2,hrep,b8⟩
    rcases(hsC.sat.mm k).1 hm with hf|⟨i,blk,hi,hbk⟩
    · exact absurd (hF2 k hf) (by omega)
    · match i,hi with
      |0,hi=>
        rw[gB.at_ 0 (by rw[hsA.sat.len];simp),hB]at hbk
        cases hbk
        exact absurd (show w2.heap.size≤B from h1) (by omega)
      |1,hi=>cases hi
  · intro Wb W3 W' hEb hlt hle hrx hrest hD
    obtain⟨c,hc1,hc2,hc3⟩:=hrx
    have hcW:W'.heap[B]? =some (.cells #[c] 104 (0,0)):=hrest.cells _ _ hc1 rfl
    have hcell:W'.cell? ⟨B,0,none⟩=some c:=by simp[World.cell?,hcW]
    have hz2':a2.tmps.size=13:=hz2
    refine wpIn_seq (wpIn_region ?_)
    refine mf (.inl rfl) rfl rfl (fun c e=>by cases e) (BB rfl (bI.tk.get rfl) (show Act.eval {a2 with defers:=_} (.tmp 2)=_ from h2) hcell) ?_
    refine mf (.inl rfl) rfl rfl (fun c e=>by cases e) (uT rfl) ?_
    refine wpIn_ret ?_
    show LeavesInM _ _ _ _ _ _ (_::a2.defers) _ _
    rw[hd2]
    refine⟨by simp,.inl ⟨_,_,rfl,run_takeDeferred hD,?_⟩⟩
    refine⟨c,?_,c,rfl,?_,_,rfl,?_⟩
    · refine(results_tmp rfl _ _ _).trans ?_
      congr 1
      refine(mo (k:=4) (a:=Act.put {a2 with defers:=_} (some 12) c) (v:=_) (by show 4<(a2.tmps.setIfInBounds 12 c).size;simp[hz2'])).trans ?_
      exact mo (k:=12) (a:= {a2 with defers:=_}) (by show 12<a2.tmps.size;omega)
    · have h1:=hEb
      have hs1:=hE2.size
      refine⟨hrest.os.trans (hc3.os.trans (hEb.os.trans hE2.os)),hrest.tape.trans (hc3.tape.trans (hEb.tape.trans hE2.tape)),hrest.output.trans (hc3.output.trans (hEb.output.trans hE2.output)),?_,fun k hk=>?_⟩
      · have:=hrest.size;simp only[World.putObj_size];omega
      · rw[World.putObj_heap_other (by omega),hrest.block k (by omega) (.inl (by omega)),hc3.block k hk,hEb.block k (by omega),hE2.block k hk]
    · have hr1:=cD.cells hrest.size hrest.cells hc2
      have hrp:eW.Rest 0 (w2.heap.size+1) W' (W'.putObj w2.heap.size (.deferred none)):=Rest.put hD rfl (Nat.zero_le _) (Nat.lt_succ_self _)
      exact cD.cells hrp.size hrp.cells hr1
theorem vv{xv pv:PV}[IsPure xv][IsPure pv]{e:Nat}{dt:Int}{p:List Int}
  (hin:∀(F0:Nat→Prop) (xb pb:Value) (W':World),(∀b,F0 b→b<W'.heap.size)→gV F0 W'→cD (EF F0) W' xb xv→cD (EF F0) W' pb pv→xQ Tryz.prog 165 #[xb,pb] (GR F0 e dt p) W'):
  Can Tryz.prog 127 [.func 165 [xv,pv]] (· = .slice 1 (eB e dt p)):=by
 refine aE Tryz.func127 rfl Tryz.ntmps127 rfl ?_
 haveI:aJ (eB e dt p):=by unfold eB;infer_instance
 exact ab (.a 1 rfl<|.k [0] rfl)<|ab (.a 1 rfl<|.c rfl (Bm hin) rfl<|.a 1 rfl<|.k [2] rfl)<|aq<|⟨_,_,ay.of rfl,aB.pure,rfl⟩
theorem rL(ys:List PV)[aJ ys]:Can Tryz.prog 128 [.aX ys 0,.raw (.slice none 0 0)] (· = .func 165 [.aX [.aX ys 0] 0,.aX [aw []] 0]):=by
 refine aE Tryz.func128 rfl Tryz.ntmps128 rfl<|aQ<|cn (fF (xs:=[_]) rfl rfl rfl) rfl<|cn (fF (xs:=[_]) rfl rfl rfl) rfl<|au 1 rfl<|aH [2,3] rfl ?_
 exact ab (.a 2 rfl<|.k [4] rfl)<|aq<|⟨_,_,ay.of rfl,aB.iw (an.cons (aB.jk (i:=0) (ys:=[.aX ys 0]) rfl (show an _ [.aX ys 0] [.aX ys 0] from an.pure))<|an.cons (aB.jk (i:=1) rfl (an.cons aB.bZ an.nil)) an.nil),rfl⟩
section
variable {T:ai} {tb:Nat→ee} {p0:eC} {Φ:Nat→Nat→List b7→Prop}
theorem Good.Ht{v:PV}{n:Nat}{s:List b7}{c:Int}(h:Good T tb p0 Φ v n s c):∃ys,v= .aX ys 0∧aJ ys:=by
 obtain⟨vs,cs,e1,e2,e3,e4,e5⟩:=h.parts
 haveI:aJ vs:=⟨fun i x hx=>by
  have hlt:=(List.getElem?_eq_some_iff.1 hx).1
  have:=(e5 i (by rw[←e2];exact hlt)).pure
  rw[List.getD_eq_getElem?_getD,hx]at this
  exact this⟩
 exact⟨_,e1,by unfold dw;infer_instance⟩
theorem GV(hL:Lone T tb p0 Φ):∀(u n:Nat) (s:List b7) (v:PV) (c:Int),Φ u n s→Good T tb p0 Φ v n s c→∃(p:List Int) (e:Nat) (dt:Int),Br T tb p0 n s p e dt∧dt= -1∧p.length≤u∧c=1∧
  ∀pre:List Int,pre.length+u≤1000→∀(F0:Nat→Prop) (xb pb:Value) (W₀:World),(∀b,F0 b→b<W₀.heap.size)→gV F0 W₀→cD (EF F0) W₀ xb (.aX [v] 0)→cD (EF F0) W₀ pb (.aX [aw pre] 0)→xQ Tryz.prog 165 #[xb,pb] (GR F0 e dt (pre++p)) W₀:=by
 intro u
 induction u using Nat.strongRecOn with
 |_ u ih=>
 intro n s v c hΦ hg
 obtain⟨vs,cs,rfl,e2,e3,e4,e5⟩:=hg.parts
 have hone:=hL.one hΦ
 cases ha:(b9 T tb p0 n s).aI with
 |nil=>
  have hvs:vs=[]:=List.eq_nil_of_length_eq_zero (by rw[e2,ha];rfl)
  subst hvs
  have hc:c=1:=by rw[e4,ha];rfl
  refine⟨[],n,(b9 T tb p0 n s).dt,.stop ha,hL.del hΦ ha,Nat.zero_le _,hc,fun pre hpl F0 xb pb W₀ hF gl hX hP=>?_⟩
  rw[List.append_nil]
  exact GN ha (by omega) hF gl hX hP
 |cons a l=>
  have hl:l=[]:=by
   rw[ha]at hone
   exact List.eq_nil_of_length_eq_zero (by simp only[List.length_cons]at hone;omega)
  subst hl
  have hmem:a∈(b9 T tb p0 n s).aI:=by rw[ha];exact List.mem_singleton.2 rfl
  have hstep:∃b m:Nat,a=(b:Int)∧b<2*T.af.length∧aT T b=(m:Int)∧∃u',u'<u∧Φ u' m (b9 T tb p0 n s).eQ.stack:=by
   rcases hL.runs.step hΦ with h|⟨_,_,h⟩
   ·rw[ha]at h;cases h
   ·exact h a hmem
  obtain⟨b,m,hab,hb,hm,u',hu,hΦ'⟩:=hstep
  have h0:=e5 0 (by rw[ha];exact Nat.one_pos)
  rw[ha,List.getD_cons_zero,hab,Int.toNat_natCast,hm,Int.toNat_natCast]at h0
  match vs,cs,e2,e3,e4,h0 with
  | [],_,e2,_,_,_=>rw[ha]at e2;cases e2
  |_::_::_,_,e2,_,_,_=>rw[ha]at e2;simp at e2
  | [v1],[],_,e3,_,_=>rw[ha]at e3;cases e3
  | [v1],_::_::_,_,e3,_,_=>rw[ha]at e3;simp at e3
  | [v1],[c1],_,_,e4,h0=>
  rw[List.getD_cons_zero,List.getD_cons_zero]at h0
  obtain⟨ys,rfl,hys⟩:=h0.Ht
  obtain⟨q,e,dt,i1,i2,i3,i4,i5⟩:=ih u' hu m _ _ _ hΦ' h0
  have hc:c=1:=by rw[e4,ha,i4];rfl
  refine⟨a::q,e,dt,.go hmem (by rw[hab,Int.toNat_natCast];exact hm) i1,i2,by simp only[List.length_cons];omega,hc,fun pre hpl F0 xb pb W₀ hF gl hX hP=>?_⟩
  exact Fp ha (by omega) hF gl hX hP (fun xb' pb' W' hF' gl' hx hp=>i5 (pre++[a]) (by simp only[List.length_append,List.length_singleton];omega) F0 xb' pb' W' hF' gl' hx hp)
set_option maxHeartbeats 4000000 in
theorem EA(hL:Lone T tb p0 Φ)(hv:ao T=true)(h12:T.nodes≤12){U:List (Nat×List b7)}(hU:∀ {u n s},Φ u n s→(n,s)∈U)(hUl:U.length≤1000000)(tbs:List ee)(htl:(tbs.length:Int)=T.nodes)(htb:∀n:Nat,(n:Int)<T.nodes→tbs[n]? =some (tb n))
  (hok:∀n:Nat,(n:Int)<T.nodes→(tb n).node=(n:Int)∧ed T (tb n)=true) {u n:Nat} {p:eC} (hΦ:Φ u n p.stack) (hu:u≤1000) (hp:fh p p.stack=fh p0 p.stack):
  Can Tryz.prog 77 [aP T,iz tbs,eI p,num n] (fun r=>∃q e,Br T tb p0 n p.stack q e (-1)∧q.length≤u∧r= .tuple [.slice 1 (eB e (-1) q),num 0]):=by
 refine aE Tryz.func77 rfl Tryz.ntmps77 rfl<|ab (.a 4 rfl<|.k [1,3,4,6] rfl)<|aQ<|au 4 rfl<|cS rfl rfl (bT.mono (bT.Dz (ra hL.runs hv h12 hU hUl tbs htl htb hok hΦ hp)) (fun y σ' h=>?_))
 obtain⟨⟨v,c,L,rfl,hg,hLl,hall⟩,rfl⟩:=h
 refine au 7 rfl<|aH [10,12] rfl ?_
 obtain⟨q,e,dt,hbr,rfl,hql,hc1,honce⟩:=GV hL u n p.stack v c hΦ hg
 obtain⟨ys,hys,hyp⟩:=hg.Ht
 obtain⟨vs,cs,hvs,_,_,_,_⟩:=hg.parts
 have hon:=honce [] (by simp;omega)
 rw[List.nil_append]at hon
 subst hc1
 have hcol:Can Tryz.prog 127 [.func 165 [.aX [v] 0,.aX [aw []] 0]] (· = .slice 1 (eB e (-1) q)):=by
  haveI:=hg.pure
  exact vv hon
 subst hvs
 cases hys
 refine aj<|ab (.a 2 rfl<|.k [10,12,23] rfl)<|ah rfl (fun hc=>?_) (fun hc=>?_)
 ·cases hc
 ·refine ak<|aj<|ab (.a 3 rfl<|.v (aN rfl (rfl)) rfl<|.a 1 rfl<|.k [10,29] rfl)<|ah rfl (fun hc=>?_) (fun hc=>?_)
  ·cases hc
  ·refine ak<|ab (.a 1 rfl<|.c rfl (rL _) rfl<|.c rfl (hcol) rfl<|.a 2 rfl<|.k [8,9] rfl)<|aq ?_
   haveI:aJ (eB e (-1) q):=by unfold eB;infer_instance
   exact⟨_,_,ay.of rfl,aB.pure (p:=.tuple [.slice 1 (eB e (-1) q),num 0]),q,e,hbr,hql,rfl⟩
end
end PW
end Go.Proofs.YtnegbdpggideiaaGreatDoor
namespace Go.Proofs.YtnegbdpggideiaaGreatDoor
namespace PW
open Go.RowKit cB Mem Net eW
section
variable {T:ai} {tb tb':Nat→ee} {p0:eC} {Φ:Nat→Nat→List b7→Prop}
end
noncomputable def nc(T:ai)(k x:Int)(l:List Int)(n:Nat):ee:=Gu T k x n (eZ l n)
theorem DJ{T:ai}{k x:Int}{l:List Int}{n:Nat}(h:¬Gn k x n):nc T k x l n=Jn T (aG T k x) (fun n=>eZ l n) n:=by
 unfold nc Gu Jn
 rw[if_neg (by rw[mJ.2 h];decide)]
theorem yF{T:ai}(hv:ao T=true){n:Nat}(hn:(n:Int)<T.nodes):ed T (zj T n)=true:=by
 unfold ed zj
 have h1:bn T (n:Int)=true:=aV.2 ⟨by omega,hn⟩
 have hN:=(aK hv).nodes
 have h2:decide (((List.replicate T.nodes.toNat (⟨[],false,[]⟩:iC)).length:Int)=T.nodes)=true:=decide_eq_true (by rw[List.length_replicate];omega)
 have h3:eP T n (bJ T n)=true:=rz (lu T n) fun _ ha=>i6.1 ha
 have h4:mO T n (List.replicate T.nodes.toNat (⟨[],false,[]⟩:iC))=true:=jf fun d e he=>by
  have:e=⟨[],false,[]⟩:=(List.mem_replicate.1 (List.mem_of_getElem? he)).2
  subst this
  unfold jb eP
  simp
 rw[hv,h1,h2,h3,h4]
 rfl
theorem De{T:ai}{k x:Int}{l:List Int}(hv:ao T=true)(h12:T.nodes≤12):∀n:Nat,(n:Int)<T.nodes→(nc T k x l n).node=(n:Int)∧ed T (nc T k x l n)=true:=fun n hn=>by
 unfold nc Gu
 split
 ·exact⟨rfl,yF hv hn⟩
 ·have ht:=nx (D:=aG T k x) (M:=aG T k x) hv h12 hn (di T k x) (fun a h=>h) (eZ l n)
  exact⟨ht.node,ht.ok⟩
theorem zC{T:ai}{k x:Int}{l:List Int}{m n:Nat}(h:n<m):(pB T k x l m)[n]? =some (nc T k x l n):=by
 unfold pB nc
 rw[List.getElem?_map,List.getElem?_range h]
 rfl
def Iy(T:ai)(k x:Int)(l:List Int)(s d:Int):Int:=if xz T k x l=0 then(if(bn T s&&bn T d)=true then 0 else 2) else xz T k x l
noncomputable def IU(T:ai)(k x:Int)(l:List Int):List ee:=if xz T k x l=0 then pB T k x l l.length else []
theorem BH(T:ai)(k x:Int)(l:List Int)(s d:Int)(hl:l.length≤1000)(h12:T.nodes≤12):Can Tryz.prog 89 [aP T,bU k x,aw l,num s,num d] (· = .tuple [iz (IU T k x l),eI ⟨0,s,d,0,[],0⟩,num (Iy T k x l s d)]):=by
 obtain⟨e,he⟩:∃e,xz T k x l=e:=⟨_,rfl⟩
 obtain⟨q0,hq0⟩:∃q,decide (e=0)=q:=⟨_,rfl⟩
 obtain⟨q1,hq1⟩:∃q,bn T s=q:=⟨_,rfl⟩
 obtain⟨q2,hq2⟩:∃q,bn T d=q:=⟨_,rfl⟩
 obtain⟨L,hL⟩:∃L,IU T k x l=L:=⟨_,rfl⟩
 have ht:Can Tryz.prog 20 [aP T,bU k x,aw l] (· = .tuple [iz L,num e]):=by
  have h:=sf T k x l hl h12
  unfold Du at h
  rw[he]at h
  unfold IU at hL
  rw[he]at hL
  rw[hL]at h
  exact h
 have hE:Iy T k x l s d=if q0=true then(if(q1&&q2)=true then 0 else 2) else e:=by
  unfold Iy
  rw[he,hq1,hq2,←hq0]
  simp
 rw[hE,hL]
 refine aE Tryz.func89 rfl Tryz.ntmps89 rfl<|aQ<|au 5 rfl<|aH [2,3,4,5,6,11] rfl ?_
 refine ab (.a 3 rfl<|.c rfl (ht) rfl<|.a 5 rfl<|.k [3,4,5,11,13,14] rfl)<|aj<|bp 35 (.raw (.bool (q0&&(!q1 || !q2)))) [3,4,11,13,14] rfl ?_ ?_
 ·refine .a 1 rfl<|.v (cb rfl (hq0)) rfl<|.a 1 rfl<|?_
  cases q0
  ·exact .a 11 rfl<|.k [35,3,4,11,13,14] rfl
  ·refine .a 2 rfl<|.c rfl (hq1▸dp T s) rfl<|.a 2 rfl<|?_
   cases q1
   ·exact .a 6 rfl<|.k [35,3,4,11,13,14] rfl
   ·exact .a 2 rfl<|.c rfl (hq2▸dp T d) rfl<|.a 3 rfl<|.k [35,3,4,11,13,14] rfl
 refine ah rfl (fun hc=>?_) (fun hc=>?_)
 ·have hR:(if q0=true then(if(q1&&q2)=true then(0:Int) else 2) else e)=2:=by
   cases q0<;>cases q1<;>cases q2<;>simp_all
  refine az (.a 1 rfl<|.k [3,4,11,13,14] rfl) ?_
  refine aQ<|au 8 rfl<|aH [10,11,12] rfl ?_
  exact aq<|⟨_,_,ay.of rfl,aB.bG (an.cons aB.pure<|an.cons (aB.iH (an.cons aB.pure<|an.cons aB.pure<|an.cons aB.pure<|an.cons aB.pure<|an.cons aB.bZ<|an.cons aB.pure an.nil))<|an.cons aB.pure an.nil),by rw[hR];rfl⟩
 ·have hR:(if q0=true then(if(q1&&q2)=true then(0:Int) else 2) else e)=e:=by
   cases q0<;>cases q1<;>cases q2<;>simp_all
  refine ak<|aQ<|au 8 rfl<|aH [10,11,12] rfl ?_
  exact aq<|⟨_,_,ay.of rfl,aB.bG (an.cons aB.pure<|an.cons (aB.iH (an.cons aB.pure<|an.cons aB.pure<|an.cons aB.pure<|an.cons aB.pure<|an.cons aB.bZ<|an.cons aB.pure an.nil))<|an.cons aB.pure an.nil),by rw[hR];rfl⟩
section
variable {T:ai} {k x:Int} {l:List Int} {s d:Nat} {Φ:Nat→Nat→List b7→Prop}
theorem E9(hl:l.length≤1000)(h12:T.nodes≤12)(hE:xz T k x l=0)(hs:(s:Int)<T.nodes)(hd:(d:Int)<T.nodes):Can Tryz.prog 89 [aP T,bU k x,aw l,num s,num d] (· = .tuple [iz (pB T k x l l.length),eI ⟨0,s,d,0,[],0⟩,num 0]):=by
 have h:=BH T k x l s d hl h12
 have h1:Iy T k x l s d=0:=by
  unfold Iy
  rw[if_pos hE,if_pos (by rw[aV.2 ⟨by omega,hs⟩,aV.2 ⟨by omega,hd⟩];rfl)]
 have h2:IU T k x l=pB T k x l l.length:=by unfold IU;rw[if_pos hE]
 rw[h1,h2]at h
 exact h
theorem wQ(h:xz T k x l=0):(ao T&&bV T k x)=true∧(l.length:Int)=T.nodes∧dT T k x l=true:=by
 unfold xz at h
 split at h
 ·rename_i h1
  obtain⟨h2,h3⟩:=Bool.and_eq_true_iff.1 h1
  split at h
  ·rename_i h4
   exact⟨h2,of_decide_eq_true h3,h4⟩
  ·cases h
 ·cases h
theorem Aw(h12:T.nodes≤12)(hE:xz T k x l=0)(hs:(s:Int)<T.nodes)(hd:(d:Int)<T.nodes)(hL:Lone T (nc T k x l) ⟨0,s,d,0,[],0⟩ Φ){U:List (Nat×List b7)}(hU:∀ {u n s},Φ u n s→(n,s)∈U)(hUl:U.length≤1000000){u:Nat}(hΦ:Φ u s [])(hu:u≤1000):
  Can Tryz.prog 33 [aP T,bU k x,aw l,num s,num d] (fun r=>∃q e,Br T (nc T k x l) ⟨0,s,d,0,[],0⟩ s [] q e (-1)∧q.length≤u∧r= .tuple [aw q,num 0]):=by
 obtain⟨hvc,hln,_⟩:=wQ hE
 have hv:=(Bool.and_eq_true_iff.1 hvc).1
 have hl:l.length≤1000:=by omega
 have hpr:=E9 (k:=k) (x:=x) hl h12 hE hs hd
 have htl:((pB T k x l l.length).length:Int)=T.nodes:=by rw[pO];exact hln
 have htb:∀n:Nat,(n:Int)<T.nodes→(pB T k x l l.length)[n]? =some (nc T k x l n):=fun n hn=>zC (by omega)
 have har:=tX hL.runs hL.del hv h12 hU hUl (pB T k x l l.length) htl htb (De hv h12) (p:=⟨0,s,d,0,[],0⟩) hΦ rfl
 have hal:=EA hL hv h12 hU hUl (pB T k x l l.length) htl htb (De hv h12) (p:=⟨0,s,d,0,[],0⟩) hΦ hu rfl
 obtain⟨L,hLL⟩:∃L,pB T k x l l.length=L:=⟨_,rfl⟩
 rw[hLL]at hpr har hal
 refine aE Tryz.func33 rfl Tryz.ntmps33 rfl<|ab (.a 4 rfl<|.k [2,3,4,5,6] rfl)<|aQ<|au 5 rfl<|eA rfl (hpr) rfl<|au 8 rfl<|aH [3,5,12,13,14] rfl ?_
 refine aj<|ab (.a 2 rfl<|.k [3,5,12,13,14,28] rfl)<|ah rfl (fun hc=>?_) (fun hc=>?_)
 ·cases hc
 ·refine ak<|ab (.a 2 rfl<|.v (fU rfl (rfl) rfl) rfl<|.a 1 rfl<|.c rfl (har) rfl<|.a 5 rfl<|.k [3,5,12,13,14,15] rfl)<|aj<|ab (.a 2 rfl<|.k [3,5,12,13,14,15,39] rfl)<|ah rfl (fun hc=>?_) (fun hc=>?_)
  ·cases hc
  ·refine ak<|aj<|ab (.a 2 rfl<|.k [3,5,12,13,42] rfl)<|ah rfl (fun hc=>?_) (fun hc=>?_)
   ·cases hc
   ·refine ak<|aQ<|au 4 rfl<|cS rfl rfl (bT.mono (bT.Dz hal) (fun y σ' h=>?_))
    obtain⟨⟨q,e,hbr,hql,rfl⟩,rfl⟩:=h
    refine au 5 rfl<|aH [14,16] rfl ?_
    refine aj<|ab (.a 7 rfl<|.k [16,57] rfl)<|ah rfl (fun hc=>?_) (fun hc=>?_)
    ·cases hc
    ·exact ak<|ab (.a 1 rfl<|.v (aL _ rfl (hj:=rfl)) rfl<|.a 1 rfl<|.v (aN rfl (rfl)) rfl<|.a 2 rfl<|.k [10,11] rfl)<|aq<|⟨_,_,ay.of rfl,aB.pure (p:=.tuple [aw q,num 0]),q,e,hbr,hql,rfl⟩
end
end PW
end Go.Proofs.YtnegbdpggideiaaGreatDoor
namespace Go.Proofs.YtnegbdpggideiaaGreatDoor
namespace PW
open Go.RowKit cB Mem Net eW
theorem Can.mono{P:Program}{f:FuncId}{ps:List PV}{R R':PV→Prop}(h:Can P f ps R)(hr:∀r,R r→R' r):Can P f ps R':=fun F w vs h1 h2 h3=>(h F w vs h1 h2 h3).mono fun _ _ ⟨v,he,hx,r,hR,hv⟩=>⟨v,he,hx,r,hr r hR,hv⟩
section
variable {T:ai} {tb:Nat→ee} {p0:eC}
theorem xE{n m e:Nat}{s s':List b7}{a:Int}{q:List Int}{w:Int}(ho:cC T (tb n) (fh p0 s)=cH (fh p0 s) s' [a])(hm:aT T a.toNat=(m:Int))(h:Br T tb p0 n s q e w):∃q',q=a::q'∧Br T tb p0 m s' q' e w:=by
 cases h with
 |stop h0=>rw[ho]at h0;cases h0
 | @go _ m' _ _ a' p _ ha hm' hr=>
  rw[ho]at ha hr
  have ha:a'∈[a]:=ha
  rw[List.mem_singleton]at ha
  subst ha
  have:m'=m:=by rw[hm']at hm;omega
  subst this
  exact⟨p,rfl,hr⟩
theorem EP{n e:Nat}{s:List b7}{q:List Int}{w:Int}(ho:(cC T (tb n) (fh p0 s)).aI=[])(h:Br T tb p0 n s q e w):q=[]:=by
 cases h with
 |stop _=>rfl
 |go ha _ _=>rw[ho]at ha;cases ha
end
def jV:List Int:=[1,1,0,0]
def mC:eC:=⟨0,0,1,0,[],0⟩
theorem AD:rH cM tZ 1=Ao.zR cM tZ 1:=Ao.DC kd lY (by kernel_rfl)
theorem FY:nc cM 1 0 jV 0=Hj:=CU
theorem G5:nc cM 1 0 jV 1=Ao.zR cM tZ 1:=AD
theorem Fq:nc cM 1 0 jV 2=Ao.tM cM [] 2:=Ao.Dw kd lY 2
theorem FU:nc cM 1 0 jV 3=Hw:=DB
theorem pG:b9 cM (nc cM 1 0 jV) mC 0 []=cH (fh mC []) [⟨1,3⟩,⟨1,2⟩,⟨1,1⟩] [7]:=by
 unfold b9;rw[FY];kernel_rfl
theorem pU:b9 cM (nc cM 1 0 jV) mC 3 [⟨1,3⟩,⟨1,2⟩,⟨1,1⟩]=cH (fh mC [⟨1,3⟩,⟨1,2⟩,⟨1,1⟩]) [⟨1,2⟩,⟨1,1⟩] [5]:=by
 unfold b9;rw[FU];kernel_rfl
theorem pY:b9 cM (nc cM 1 0 jV) mC 2 [⟨1,2⟩,⟨1,1⟩]=cH (fh mC [⟨1,2⟩,⟨1,1⟩]) [⟨1,1⟩] [3]:=by
 unfold b9;rw[Fq];kernel_rfl
theorem pX:(b9 cM (nc cM 1 0 jV) mC 1 [⟨1,1⟩]).aI=[]∧(b9 cM (nc cM 1 0 jV) mC 1 [⟨1,1⟩]).dt= -1:=by
 unfold b9;rw[G5];exact⟨by kernel_rfl,by kernel_rfl⟩
def DL(u n:Nat)(s:List b7):Prop:=(u=3∧n=0∧s=[])∨(u=2∧n=3∧s=[⟨1,3⟩,⟨1,2⟩,⟨1,1⟩])∨(u=1∧n=2∧s=[⟨1,2⟩,⟨1,1⟩])∨(u=0∧n=1∧s=[⟨1,1⟩])
theorem AO:Lone cM (nc cM 1 0 jV) mC DL:=by
 refine⟨⟨?_,?_,?_⟩,?_,?_⟩
 ·rintro u n s (⟨_,rfl,_⟩|⟨_,rfl,_⟩|⟨_,rfl,_⟩|⟨_,rfl,_⟩)<;>decide
 ·rintro u n s (⟨_,_,rfl⟩|⟨_,_,rfl⟩|⟨_,_,rfl⟩|⟨_,_,rfl⟩)<;>exact⟨by unfold iX;decide,by decide⟩
 ·rintro u n s (⟨rfl,rfl,rfl⟩|⟨rfl,rfl,rfl⟩|⟨rfl,rfl,rfl⟩|⟨rfl,rfl,rfl⟩)
  ·rw[pG]
   exact .inr ⟨by simp[cH],rfl,fun a ha=>by
    have ha:a∈[(7:Int)]:=ha
    rw[List.mem_singleton]at ha
    subst ha
    exact⟨7,3,rfl,by decide,by kernel_rfl,2,by omega,.inr (.inl ⟨rfl,rfl,rfl⟩)⟩⟩
  ·rw[pU]
   exact .inr ⟨by simp[cH],rfl,fun a ha=>by
    have ha:a∈[(5:Int)]:=ha
    rw[List.mem_singleton]at ha
    subst ha
    exact⟨5,2,rfl,by decide,by kernel_rfl,1,by omega,.inr (.inr (.inl ⟨rfl,rfl,rfl⟩))⟩⟩
  ·rw[pY]
   exact .inr ⟨by simp[cH],rfl,fun a ha=>by
    have ha:a∈[(3:Int)]:=ha
    rw[List.mem_singleton]at ha
    subst ha
    exact⟨3,1,rfl,by decide,by kernel_rfl,0,by omega,.inr (.inr (.inr ⟨rfl,rfl,rfl⟩))⟩⟩
  ·exact .inl pX.1
 ·rintro u n s (⟨_,rfl,rfl⟩|⟨_,rfl,rfl⟩|⟨_,rfl,rfl⟩|⟨_,rfl,rfl⟩)
  ·rw[pG];simp[cH]
  ·rw[pU];simp[cH]
  ·rw[pY];simp[cH]
  ·rw[pX.1];simp
 ·rintro u n s (⟨_,rfl,rfl⟩|⟨_,rfl,rfl⟩|⟨_,rfl,rfl⟩|⟨_,rfl,rfl⟩) ha
  ·rw[pG]at ha;cases ha
  ·rw[pU]at ha;cases ha
  ·rw[pY]at ha;cases ha
  ·exact pX.2
theorem Eb{q:List Int}{e:Nat}{w:Int}(h:Br cM (nc cM 1 0 jV) mC 0 [] q e w):q=[7,5,3]:=by
 obtain⟨q1,rfl,h1⟩:=xE (m:=3) pG (by kernel_rfl) h
 obtain⟨q2,rfl,h2⟩:=xE (m:=2) pU (by kernel_rfl) h1
 obtain⟨q3,rfl,h3⟩:=xE (m:=1) pY (by kernel_rfl) h2
 rw[EP pX.1 h3]
theorem AL:Can Tryz.prog 33 [aP cM,bU 1 0,aw jV,num 0,num 1] (· = .tuple [aw [7,5,3],num 0]):=by
 have h:=Aw (T:=cM) (k:=1) (x:=0) (l:=jV) (s:=0) (d:=1) (Φ:=DL) (by decide) (by kernel_rfl) (by decide) (by decide) AO (U:=[(0,[]),(3,[⟨1,3⟩,⟨1,2⟩,⟨1,1⟩]),(2,[⟨1,2⟩,⟨1,1⟩]),(1,[⟨1,1⟩])])
  (by rintro u n s (⟨_,rfl,rfl⟩|⟨_,rfl,rfl⟩|⟨_,rfl,rfl⟩|⟨_,rfl,rfl⟩)<;>simp) (by decide) (u:=3) (.inl ⟨rfl,rfl,rfl⟩) (by decide)
 exact Can.mono h fun r ⟨q,e,hb,_,hr⟩=>by rw[Eb hb]at hr;exact hr
theorem iG:Can Tryz.prog 78 [] (· =aP cM):=by
 refine aE Tryz.func78 rfl Tryz.ntmps78 rfl<|aQ<|au 1 rfl<|aH [0] rfl ?_
 refine aQ<|au 3 rfl<|aH [0,1] rfl ?_
 refine cp 1 2 127 7 rfl rfl ?_
 refine aj<|ab (.a 1 rfl<|.k [0,1,4] rfl)<|av<|ft [0,1,4] rfl<|br (fun r s=>∃k,k≤4∧r=4 - k∧s=⟨[(0,.ptr 0 0),(1,.ptr 1 0),(4,num k)],[some (.cells 25 [num 0,.raw (.slice none 0 0),.raw (.slice none 0 0)]),some (.cells 25 [num 4,.raw (.slice none 0 0),.own 2]),some (.row 127 7 k (gz (sU k)))]⟩) 4 ⟨0,by omega,by omega,rfl⟩ ?_
 rintro r s ⟨k,hk,rfl,rfl⟩
 refine ab (.a 1 rfl<|.k [0,1,4,5] rfl)<|aj<|ah rfl (fun hc=>?_) (fun hc=>?_)
 ·have hlt:k<4:=by have:=of_decide_eq_true hc;omega
  refine ak<|aj<|av<|ab (.a 2 rfl<|.k [0,1,2,4] rfl)<|bF<|au 4 rfl<|bE (aS rfl) rfl<|bE (qM rfl rfl rfl (by decide) ((show((k:Int)+1).tmod 4=(((k+1) % 4:Nat):Int) by rw[Int.tmod_eq_emod_of_nonneg (by omega)];omega))) rfl<|bE (DP rfl (show Tryz.prog.built 125 [(0,.int .i64 1),(1,.int .i64 1)]=some #[.int .i64 1,.int .i64 1] by kernel_rfl)) rfl<|au 2 rfl<|cn (bA rfl (bI.rk.get rfl) rfl rfl rfl rfl (by unfold maxLen;omega)) rfl<|au 2 rfl ?_
  refine ep [0,1,3] (.c 0<|.c 1<|.c 4<|.nil) (.kept rfl (.cells (aD.c<|aD.c<|aD.c<|aD.nil))<|.kept rfl (.cells (aD.c<|aD.c<|aD.c<|aD.nil))<|.kept rfl (.fj rfl (show _=gz (sU (k+1)) by rw[xN];exact xP _ ⟨(k:Int),(((k+1) % 4:Nat):Int),1,1,0,1,0⟩))<|.nil) rfl rfl (aZ ?_)
  refine az (.v (aS rfl) rfl<|.a 1 rfl<|.k [0,1,4] rfl) ?_
  exact⟨4 - (k+1),by omega,k+1,by omega,rfl,rfl⟩
 ·have hke:k=4:=by have:=of_decide_eq_false hc;omega
  subst hke
  refine bg<|aQ<|au 2 rfl<|aH [0] rfl ?_
  exact aq<|⟨_,_,ay.of rfl,aB.iH (an.cons aB.pure<|an.cons aB.bZ<|an.cons (aB.ew rfl an.pure) an.nil),rfl⟩
def nK(c:rQ):Bool:=tooBig c.T||decide ((40:Int)<c.S.length)
theorem vB{c:rQ}(h:nK c=false):c.T.nodes≤12∧c.T.af.length≤16∧c.S.length≤40:=by
 unfold nK at h
 obtain⟨h1,h2⟩:=Bool.or_eq_false_iff.1 h
 have:=Gf h1
 have:=of_decide_eq_false h2
 omega
theorem px(c:rQ):Can Tryz.prog 24 [nw c] (· =flag (nK c)):=by
 obtain⟨q1,h1⟩:∃q,decide ((10:Int)<c.T.nodes)=q:=⟨_,rfl⟩
 obtain⟨q2,h2⟩:∃q,decide ((16:Int)<c.T.af.length)=q:=⟨_,rfl⟩
 obtain⟨q3,h3⟩:∃q,decide ((40:Int)<c.S.length)=q:=⟨_,rfl⟩
 have he:nK c=((q1||q2)||q3):=by unfold nK tooBig;rw[h1,h2,h3]
 rw[he]
 refine aE Tryz.func24 rfl Tryz.ntmps24 rfl<|ab (.a 2 rfl<|.k [1] rfl)<|bp 2 (.raw (.bool ((q1||q2)||q3))) [] rfl ?_ ?_
 ·refine .a 3 rfl<|.v (cb rfl (h1)) rfl<|.a 1 rfl<|?_
  cases q1
  ·refine .a 4 rfl<|.v (cb rfl (h2)) rfl<|.a 2 rfl<|?_
   cases q2
   ·exact .a 3 rfl<|.v (cb rfl (h3)) rfl<|.a 2 rfl<|.k [2] rfl
   ·exact .a 6 rfl<|.k [2] rfl
  ·exact .a 13 rfl<|.k [2] rfl
 exact aq<|⟨_,_,ay.of rfl,aB.pure,rfl⟩
theorem Ft:Can Tryz.prog 25 [aP cM,bU 1 0,aw [2,2,3,2]] (· =flag true):=by
 have h:=mq cM 1 0 [2,2,3,2] (by decide)
 rw[show dT cM 1 0 [2,2,3,2]=true by kernel_rfl]at h
 exact h
theorem Fv:Can Tryz.prog 25 [aP cM,bU 1 0,aw [0,1,0,0]] (· =flag false):=by
 have h:=mq cM 1 0 [0,1,0,0] (by decide)
 rw[show dT cM 1 0 [0,1,0,0]=false by kernel_rfl]at h
 exact h
theorem FD:Can Tryz.prog 25 [aP cM,bU 1 0,aw [1,1,3,2]] (· =flag false):=by
 have h:=mq cM 1 0 [1,1,3,2] (by decide)
 rw[show dT cM 1 0 [1,1,3,2]=false by kernel_rfl]at h
 exact h
theorem jv:Can Tryz.prog 23 [] (· =flag true):=by
 refine aE Tryz.func23 rfl Tryz.ntmps23 rfl<|ab (.a 1 rfl<|.k [] rfl)<|aQ<|au 3 rfl<|aH [1] rfl ?_
 refine fR 1 0 0 rfl rfl ?_
 refine cZ [] (.cons 1 rfl (Ren.pure (p:=.aX (cj 1 0) 0)) .nil) .nil rfl rfl ?_
 refine ei mixed (by kernel_rfl) (.v [] (dR rfl (iG)) rfl rfl<|.a 2 rfl<|.v [6,7,8] (dR rfl (AL)) rfl rfl<|.a 5 rfl<|.k [1,2,3] rfl) ?_
 refine mE mixed (by kernel_rfl) 0 (.raw (.bool (true))) [] rfl ?_ ?_
 ·exact .a 5 rfl<|.v [15,16] (dR rfl (Ap [7,5,3])) rfl rfl<|.a 2 rfl<|.v [] (dR rfl (iG)) rfl rfl<|.a 2 rfl<|.v [20,21,22] (dR rfl (Ft)) rfl rfl<|.a 2 rfl<|.v [] (dR rfl (iG)) rfl rfl<|.a 2 rfl<|.v [26,27,28] (dR rfl (Fv)) rfl rfl<|.a 3 rfl<|.v [] (dR rfl (iG)) rfl rfl<|.a 2 rfl<|.v [33,34,35] (dR rfl (FD)) rfl rfl<|.a 3 rfl<|.k [0] rfl
 exact aq<|⟨_,_,ay.of rfl,aB.pure (p:=flag true),rfl⟩
end PW
end Go.Proofs.YtnegbdpggideiaaGreatDoor
namespace Go.Proofs.YtnegbdpggideiaaGreatDoor
namespace PW
open Go.RowKit cB Mem Net eW
theorem jI(k x n:Int):Can Tryz.prog 81 [bU k x,num n] (· =flag (nU k x n)):=by
 obtain⟨q1,hq1⟩:∃q,decide (k=2)=q:=⟨_,rfl⟩
 obtain⟨q2,hq2⟩:∃q,decide (x=n)=q:=⟨_,rfl⟩
 unfold nU
 rw[hq1,hq2]
 refine aE Tryz.func81 rfl Tryz.ntmps81 rfl<|ab (.a 2 rfl<|.k [1,2] rfl)<|bp 4 (.raw (.bool (q1&&q2))) [] rfl ?_ ?_
 ·refine .a 2 rfl<|.v (cb rfl (hq1)) rfl<|.a 1 rfl<|?_
  cases q1
  ·exact .a 6 rfl<|.k [4] rfl
  ·exact .a 3 rfl<|.v (cb rfl (hq2)) rfl<|.a 2 rfl<|.k [4] rfl
 exact aq<|⟨_,_,ay.of rfl,aB.pure,rfl⟩
theorem Gq(T:ai)(k x:Int)(n:Nat):decide (((cF (aG T k x) (bJ T n)).length:Int)>0)=pD T k x n:=by
 unfold pD
 cases h:(List.range (2*T.af.length)).any fun a=>aM (aG T k x) a&&decide (bb T a=(n:Int))with
 |true=>
  obtain⟨a,h1,h2⟩:=List.any_eq_true.1 h
  obtain⟨h3,h4⟩:=Bool.and_eq_true_iff.1 h2
  have h1:=List.mem_range.1 h1
  have hm:(a:Int)∈cF (aG T k x) (bJ T n):=by
   refine List.mem_filter.2 ⟨i6.2 ⟨by rw[dc];omega,by rw[Int.toNat_natCast];exact of_decide_eq_true h4⟩,by rw[Int.toNat_natCast];exact h3⟩
  have:=List.length_pos_of_mem hm
  exact decide_eq_true (by omega)
 |false=>
  refine decide_eq_false fun hp=>?_
  obtain⟨a,ha⟩:=List.exists_mem_of_length_pos (show 0<(cF (aG T k x) (bJ T n)).length by omega)
  obtain⟨h1,h2⟩:=List.mem_filter.1 ha
  obtain⟨h3,h4⟩:=i6.1 h1
  obtain⟨h5,h6⟩:=dc.1 h3
  have:=List.any_eq_false.1 h a.toNat (List.mem_range.2 (by omega))
  rw[h2,decide_eq_true h4]at this
  exact this rfl
theorem BQ(T:ai)(k x:Int)(n:Nat)(hvc:(ao T&&bV T k x)=true):Can Tryz.prog 64 [aP T,bU k x,num n] (· =flag (!nU k x n&&pD T k x n)):=by
 obtain⟨g,hg⟩:∃g,nU k x n=g:=⟨_,rfl⟩
 obtain⟨c,hc'⟩:∃c,pD T k x n=c:=⟨_,rfl⟩
 have hcd:=(Gq T k x n).trans hc'
 rw[hg,hc']
 refine aE Tryz.func64 rfl Tryz.ntmps64 rfl<|ab (.a 3 rfl<|.k [2,3,4] rfl)<|ab (.a 3 rfl<|.c rfl (AQ T k x n hvc) rfl<|.a 5 rfl<|.k [2,4,7] rfl)<|bp 6 (.raw (.bool (!g &&c))) [] rfl ?_ ?_
 ·refine .a 2 rfl<|.c rfl (hg▸jI k x n) rfl<|.a 2 rfl<|?_
  cases g
  ·exact .a 2 rfl<|.v (cb rfl (hcd)) rfl<|.a 2 rfl<|.k [6] rfl
  ·exact .a 5 rfl<|.k [6] rfl
 exact aq<|⟨_,_,ay.of rfl,aB.pure,rfl⟩
set_option maxHeartbeats 4000000 in
theorem oF(T:ai)(k x:Int)(l:List Int)(hl:l.length≤1000):Can Tryz.prog 26 [aP T,bU k x,aw l] (· =flag (dT T k x l)):=by
  obtain⟨q1,hq1⟩:∃q,(ao T&&bV T k x)=q:=⟨_,rfl⟩
  obtain⟨q2,hq2⟩:∃q,decide ((l.length:Int)≠T.nodes)=q:=⟨_,rfl⟩
  refine aE Tryz.func26 rfl Tryz.ntmps26 rfl<|ab (.a 3 rfl<|.k [2,3,4] rfl)<|aj<|bp 21 (.raw (.bool (!q1 ||q2))) [2,3,4] rfl ?_ ?_
  · refine .a 2 rfl<|.c rfl (hq1▸gr T k x) rfl<|.a 2 rfl<|?_
    cases q1
    · exact .a 6 rfl<|.k [21,2,3,4] rfl
    · exact .a 3 rfl<|.v (aN rfl (rfl)) rfl<|.v (cb rfl (hq2)) rfl<|.a 1 rfl<|.k [21,2,3,4] rfl
  refine ah rfl (fun hc=>?_) (fun hc=>?_)
  · have hno:dT T k x l=false:=by
      unfold dT
      rw[hq1,if_neg]
      intro h
      obtain⟨h1,h2⟩:=Bool.and_eq_true_iff.1 h
      rw[h1,←hq2]at hc
      have h2:=of_decide_eq_true h2
      simp[h2]at hc
    exact ab (.a 1 rfl<|.k [6] rfl)<|aq<|⟨_,_,ay.of rfl,aB.pure,by rw[hno];rfl⟩
  · obtain ⟨h1, rfl⟩ := Bool.or_eq_false_iff.1 hc
    have h1:q1=true:=by simpa using h1
    subst h1
    have hln:(l.length:Int)=T.nodes:=by have:=ff hq2;simpa using this
    have hP:dT T k x l=(dF k x (fun n=>pR (eZ l n)) l.length&&(dF k x (fun n=>rT (pD T k x n) (eZ l n)) l.length||dF k x (fun n=>nZ (eZ l n)) l.length)):=by
      unfold dT
      rw[if_pos (by rw[hq1,decide_eq_true hln];rfl)]
    refine ak<|ab (.a 2 rfl<|.k [2,3,4,7,8] rfl)<|aj<|ab (.a 1 rfl<|.k [2,3,4,7,8,9] rfl)<|av<|ft [2,3,4,7,8,9] rfl<|br (fun r st=>∃i,i≤l.length∧dF k x (fun n=>pR (eZ l n)) i=true∧r=l.length - i∧st=⟨[(2,aw l),(3,.aX (bx T) 0),(4,.aX (cj k x) 0),(7,flag (dF k x (fun n=>rT (pD T k x n) (eZ l n)) i)),(8,flag (dF k x (fun n=>nZ (eZ l n)) i)),(9,num i)],[]⟩) l.length ⟨0,by omega,rfl,by omega,rfl⟩ ?_
    rintro r st ⟨i,hi,hO0,rfl,rfl⟩
    have hE:=iN k x (fun n=>rT (pD T k x n) (eZ l n)) i
    have hL:=iN k x (fun n=>nZ (eZ l n)) i
    have hO:=iN k x (fun n=>pR (eZ l n)) i
    obtain⟨eb,heb⟩:∃b,dF k x (fun n=>rT (pD T k x n) (eZ l n)) i=b:=⟨_,rfl⟩
    obtain⟨lb,hlb⟩:∃b,dF k x (fun n=>nZ (eZ l n)) i=b:=⟨_,rfl⟩
    rw[heb]at hE ⊢
    rw[hlb]at hL ⊢
    rw[hO0]at hO
    refine aj<|ab (.a 4 rfl<|.k [2,3,4,7,8,9,25] rfl)<|ah rfl (fun hc=>?_) (fun hc=>?_)
    · have hlt:i<l.length:=by have:=tt hc;omega
      obtain⟨g,hg⟩:∃g,nU k x i=g:=⟨_,rfl⟩
      obtain⟨c,hcb⟩:∃c,pD T k x i=c:=⟨_,rfl⟩
      obtain⟨s,hs⟩:∃s,eZ l i=s:=⟨_,rfl⟩
      have hsl:l.getD i 0=s:=hs
      simp only[hg,hcb,hs]at hE hL hO
      refine ak<|aj<|av<|ab (.a 2 rfl<|.v (aL (i) rfl) rfl<|.v (aN rfl ((aA l i hlt).trans (by rw[hsl]))) rfl<|.a 1 rfl<|.k [2,3,4,7,8,9,10] rfl)<|aj<|ab (.a 2 rfl<|.c rfl (hg▸jI k x i) rfl<|.k [2,3,4,7,8,9,10,34] rfl)<|ah rfl (fun hc=>?_) (fun hc=>?_)
      · rw[hc,Bool.true_or,Bool.and_true]at hE hL hO
        refine kE (bd (ks:=[2,3,4,7,8,9]) rfl) ?_
        refine bg<|az (.a 1 rfl<|.v (aS rfl) rfl<|.a 1 rfl<|.k [2,3,4,7,8,9] rfl) ?_
        exact⟨l.length - (i+1),by omega,i+1,by omega,hO,rfl,by rw[hE,hL];rfl⟩
      · have hg0:nU k x i=false:=hg.trans hc
        rw[hc,Bool.false_or]at hE hL hO
        have hco:=BQ T k x i hq1
        rw[hg0,hcb,Bool.not_false,Bool.true_and]at hco
        obtain⟨p0,hp0⟩:∃q,decide (s<0)=q:=⟨_,rfl⟩
        obtain⟨p4,hp4⟩:∃q,decide (s>3)=q:=⟨_,rfl⟩
        obtain⟨n0,hn0⟩:∃q,decide (s≠0)=q:=⟨_,rfl⟩
        obtain⟨n1,hn1⟩:∃q,decide (s≠1)=q:=⟨_,rfl⟩
        obtain⟨n3,hn3⟩:∃q,decide (s≠3)=q:=⟨_,rfl⟩
        obtain⟨e2,he2⟩:∃q,decide (s=2)=q:=⟨_,rfl⟩
        obtain⟨e3,he3⟩:∃q,decide (s=3)=q:=⟨_,rfl⟩
        have hok:pR s=(!p0 && !p4):=by
          unfold pR
          rw[←hp0,←hp4]
          by_cases h1:0≤s<;>by_cases h2:s≤3<;>simp[h1,h2]<;>omega
        have her:rT c s=(n3&&(n0|| !c)&&(n1||c)):=by
          unfold rT
          rw[←hn3,←hn0,←hn1]
          simp
        have hla:nZ s=(e2||e3):=by unfold nZ;rw[he2,he3]
        rw[her]at hE
        rw[hla]at hL
        rw[hok]at hO
        refine ak<|aj<|bp 40 (.raw (.bool (p0||p4))) [2,3,4,7,8,9,10] rfl ?_ ?_
        · refine .a 1 rfl<|.v (cb rfl (hp0)) rfl<|.a 1 rfl<|?_
          cases p0
          · exact .a 1 rfl<|.v (cb rfl (hp4)) rfl<|.a 1 rfl<|.k [40,2,3,4,7,8,9,10] rfl
          · exact .a 3 rfl<|.k [40,2,3,4,7,8,9,10] rfl
        refine ah rfl (fun hc=>?_) (fun hc=>?_)
        · have hbad:dF k x (fun n=>pR (eZ l n)) l.length=false:=by
            refine wc hlt hg0 ?_
            show pR (eZ l i)=false
            rw[hs,hok]
            cases p0<;>cases p4<;>simp_all
          exact ab (.a 1 rfl<|.k [6] rfl)<|aq<|⟨_,_,ay.of rfl,aB.pure,by rw[hP,hbad];rfl⟩
        · have hO1:dF k x (fun n=>pR (eZ l n)) (i+1)=true:=by
            rw[hO]
            cases p0<;>cases p4<;>simp_all
          clear hO
          have hO:=hO1
          refine ak<|bp 7 (.raw (.bool (eb&&(n3&&(n0|| !c)&&(n1||c))))) [2,3,4,8,9,10] rfl ?_ ?_
          · refine .a 2 rfl<|?_
            cases eb
            · exact .a 25 rfl<|.k [7,2,3,4,8,9,10] rfl
            · refine .a 1 rfl<|.v (cb rfl (hn3)) rfl<|.a 2 rfl<|?_
              cases n3
              · exact .a 21 rfl<|.k [7,2,3,4,8,9,10] rfl
              · refine .a 1 rfl<|.v (cb rfl (hn0)) rfl<|.a 1 rfl<|?_
                cases n0
                · refine .a 3 rfl<|.c rfl (hco) rfl<|.a 4 rfl<|?_
                  cases c
                  · refine .a 1 rfl<|.v (cb rfl (hn1)) rfl<|.a 1 rfl<|?_
                    cases n1
                    · exact .a 3 rfl<|.c rfl (hco) rfl<|.a 3 rfl<|.k [7,2,3,4,8,9,10] rfl
                    · exact .a 7 rfl<|.k [7,2,3,4,8,9,10] rfl
                  · exact .a 10 rfl<|.k [7,2,3,4,8,9,10] rfl
                · refine .a 9 rfl<|.v (cb rfl (hn1)) rfl<|.a 1 rfl<|?_
                  cases n1
                  · exact .a 3 rfl<|.c rfl (hco) rfl<|.a 3 rfl<|.k [7,2,3,4,8,9,10] rfl
                  · exact .a 7 rfl<|.k [7,2,3,4,8,9,10] rfl
          refine qP 8 (.raw (.bool (lb&&(e2||e3)))) [2,3,4,7,9] rfl ?_ ?_
          · refine .a 2 rfl<|?_
            cases lb
            · exact .a 8 rfl<|.k [8,2,3,4,7,9] rfl
            · refine .a 1 rfl<|.v (cb rfl (he2)) rfl<|.a 1 rfl<|?_
              cases e2
              · exact .a 1 rfl<|.v (cb rfl (he3)) rfl<|.a 3 rfl<|.k [8,2,3,4,7,9] rfl
              · exact .a 5 rfl<|.k [8,2,3,4,7,9] rfl
          refine az (.a 1 rfl<|.v (aS rfl) rfl<|.a 1 rfl<|.k [2,3,4,7,8,9] rfl) ?_
          exact⟨l.length - (i+1),by omega,i+1,by omega,hO,rfl,by rw[hE,hL];rfl⟩
    · have hie:i=l.length:=by have:=ff hc;omega
      subst hie
      refine bg<|bp 6 (.raw (.bool (eb||lb))) [] rfl ?_ ?_
      · refine .a 2 rfl<|?_
        cases eb
        · exact .a 3 rfl<|.k [6] rfl
        · exact .a 3 rfl<|.k [6] rfl
      exact aq<|⟨_,_,ay.of rfl,aB.pure,by rw[hP,hO0,heb,hlb];rfl⟩
end PW
end Go.Proofs.YtnegbdpggideiaaGreatDoor
