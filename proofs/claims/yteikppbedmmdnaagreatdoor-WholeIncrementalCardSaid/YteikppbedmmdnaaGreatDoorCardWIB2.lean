/- Texts of the proof, part 2. -/
import Derived.Deep.LoopGhost
import Derived.Laws.OwnMore
import Derived.Test.YteikppbedmmdnaaGreatDoorCardWIB1
set_option linter.unusedVariables false
set_option linter.unusedSimpArgs false
set_option maxRecDepth 10000
set_option maxHeartbeats 1000000
namespace Go.Proofs.YteikppbedmmdnaaGreatDoor
namespace PW
section
open Go.RowKit cj Mem
structure St where
 t:b9
 σ:bN
structure cY (F:Nat→Prop) (base N:Nat) (st:St) (E:Env) (a:Act) (w:World):Prop where
 sat:Sat F base st.σ E w
 tmp:cG E w a.eval st.t
 jL:a.defers=[]
 size:a.tmps.size=N
def mQ(F:Nat→Prop)(base N:Nat)(E:Env)(w:World)(K:St→Prop)(a':Act)(w':World):Prop:=
 ∃st' E',K st'∧cY F base N st' E' a' w'∧cp E w E' w'∧Below base w w'
theorem Below.fB{base:Nat}{w w':World}(h:Ext w w')(hb:base≤w.heap.size):Below base w w':=Below.mono h hb
structure px (base L:Nat) (E₀:Env) (w₀:World) (E:Env) (w:World):Prop where
 L:E₀.L=L
 g:cp E₀ w₀ E w
 b:Below base w₀ w
theorem px.on{base L:Nat}{E₀ E E':Env}{w₀ w w':World}(h:px base L E₀ w₀ E w)(g:cp E w E' w')(b:Below base w w'):px base L E₀ w₀ E' w':=⟨h.L,h.g.trans g,h.b.trans b⟩
def Sub(t t':b9):Prop:=∀k p',look k t'=some p'→∃p,look k t=some p∧lr p p'
theorem Sub.nil(t:b9):Sub t []:=fun k p h=>by cases h
theorem Sub.cons{t t':b9}{k:Nat}{p:PV}(h:look k t=some p)(hs:Sub t t'):Sub t ((k,p)::t'):=fun j q hj=>by
 simp only[look]at hj
 rw[Bool.cond_eq_ite]at hj
 split at hj
 ·rename_i he
  have:=Nat.eq_of_beq_eq_true he
  subst this
  cases hj
  exact⟨p,h,lr.refl p⟩
 ·exact hs j q hj
theorem Sub.IY{t t':b9}{k:Nat}{p q:PV}(h:look k t=some p)(hl:lr p q)(hs:Sub t t'):Sub t ((k,q)::t'):=fun j q' hj=>by
 simp only[look]at hj
 rw[Bool.cond_eq_ite]at hj
 split at hj
 ·rename_i he
  have:=Nat.eq_of_beq_eq_true he
  subst this
  cases hj
  exact⟨p,h,hl⟩
 ·exact hs j q' hj
theorem cG.sub{E:Env}{w:World}{ρ:Operand→Value}{t t':b9}(h:cG E w ρ t)(hs:Sub t t'):cG E w ρ t':=fun k p hk=>by
 obtain⟨q,h1,h2⟩:=hs k p hk
 exact h2 E w _ (h k q h1)
theorem cG.put{E:Env}{w:World}{a:Act}{t:b9}(h:cG E w a.eval t){d:Nat}{v:Value}{p:PV}(hv:cu E w v p)(hd:d<a.tmps.size):cG E w (a.put (some d) v).eval ((d,p)::t):=fun k q hk=>by
 simp only[look]at hk
 rw[Bool.cond_eq_ite]at hk
 split at hk
 ·rename_i he
  have:=Nat.eq_of_beq_eq_true he
  subst this
  cases hk
  have:(a.put (some k) v).eval (.tmp k)=v:=by simp[Act.put,Act.eval,hd]
  rw[this];exact hv
 ·rename_i he
  have hne:k≠d:=fun e=>he (by rw[e];exact Nat.beq_refl d)
  rw[Act.eval_put (fun d' hd' heq=>by cases hd';cases heq;exact hne rfl)]
  exact h k q hk
theorem cY.put{F:Nat→Prop}{base N:Nat}{t:b9}{σ σ':bN}{E E':Env}{a:Act}{w w':World}(h:cY F base N ⟨t,σ⟩ E a w)(hs:Sat F base σ' E' w')(g:cp E w E' w'){d:Nat}(hd:Nat.blt d N=true){v:Value}{p:PV}(hv:cu E' w' v p):cY F base N ⟨(d,p)::t,σ'⟩ E' (a.put (some d) v) w':=
 ⟨hs,cG.put (h.tmp.goes g) hv (by rw[h.size];exact Nat.blt_eq.mp hd),by simpa[Act.put]using h.jL,by simpa[Act.put]using h.size⟩
theorem cY.KV{F:Nat→Prop}{base N:Nat}{t:b9}{σ σ':bN}{E E':Env}{a:Act}{w w':World}(h:cY F base N ⟨t,σ⟩ E a w)(hs:Sat F base σ' E' w')(g:cp E w E' w')(v:Value):cY F base N ⟨t,σ'⟩ E' (a.put none v) w':=
 ⟨hs,h.tmp.goes g,h.jL,h.size⟩
section
variable {P:Program} {N L:Nat} {ops:Array Oper}
def WR(P:Program)(N L:Nat)(ops:Array Oper)(l:List Oper)(st:St)(K:St→Prop):Prop:=
 ∀F base E₀ w₀ E a w,px base L E₀ w₀ E w→cY F base N st E a w→∀(Q:Exit→Act→World→Prop) (k:Nat),(∀a' w',mQ F base N E₀ w₀ K a' w'→Q .normal a' w')→(∀j,l[j]? =ops[k+j]?)→wpOps P ops Q (List.range' k l.length) a w
theorem bf{st:St}{K:St→Prop}(h:K st):WR P N L ops [] st K:=by
 intro F base E₀ w₀ E a w hc hs Q k hQ _
 exact hQ a w ⟨st,E,h,hs,hc.g,hc.b⟩
theorem WR.mono{l:List Oper}{st:St}{K K':St→Prop}(h:WR P N L ops l st K)(hk:∀s,K s→K' s):WR P N L ops l st K':=by
 intro F base E₀ w₀ E a w hc hs Q k hQ hl
 exact h F base E₀ w₀ E a w hc hs Q k (fun a' w' ⟨s,E',h1,h2⟩=>hQ a' w' ⟨s,E',hk s h1,h2⟩) hl
theorem yO{l:List Oper}{t t':b9}{σ:bN}{K:St→Prop}(hs:Sub t t')(h:WR P N L ops l ⟨t',σ⟩ K):WR P N L ops l ⟨t,σ⟩ K:=by
 intro F base E₀ w₀ E a w hc hst
 exact h F base E₀ w₀ E a w hc ⟨hst.sat,hst.tmp.sub hs,hst.jL,hst.size⟩
def dP(ops:Array Oper)(t:b9)(o:Oper):Option Bool:=
 match o.guard with
 |none=>some true
 |some (j,want)=>match(ops[j]?).bind (·.dst)with
  |some k=>match look k t with
   |some (.raw v)=>match Db v with
    |some b=>some (b==want)
    |none=>some false
   |_=>none
  |none=>none
theorem sc{E:Env}{w:World}{a:Act}{t:b9}{o:Oper}{b:Bool}(hT:cG E w a.eval t)(h:dP ops t o=some b):kr ops o a.eval=b:=by
 unfold dP at h
 unfold kr
 split at h
 ·rename_i hg;(try rw[hg]);cases h;rfl
 ·rename_i j want hg
  (try rw[hg])
  (try simp only)
  split at h
  ·rename_i k hk
   simp only[hk]
   split at h
   ·rename_i b' hb
    have:=hT k _ hb
    generalize a.eval (.tmp k)=z at this
    cases this
    split at h
    ·rename_i b'' hb''
     cases h
     simp[hb'']
    ·rename_i hb''
     cases h
     simp[hb'']
   ·cases h
  ·cases h
theorem kE{o:Oper}{rest:List Oper}{t:b9}{σ:bN}{K:St→Prop}(hw:dP ops t o=some true)
  (h:∀F base E a w,cY F base N ⟨t,σ⟩ E a w→∀(next:Act→World→Prop) (Q:Exit→Act→World→Prop),(∀a' w' s E',WR P N L ops rest s K→cY F base N s E' a' w'→cp E w E' w'→Below base w w'→next a' w')→o.wp P a w next Q):
  WR P N L ops (o::rest) ⟨t,σ⟩ K:=by
 intro F base E₀ w₀ E a w hc hs Q k hQ hl
 have h0:ops[k]? =some o:=by simpa using(hl 0).symm
 rw[List.length_cons,List.range'_succ,wpOps_cons]
 unfold wpOp
 simp only[h0]
 rw[eI,sc hs.tmp hw,if_pos rfl]
 left
 refine h F base E a w hs _ Q (fun a' w' s E' h1 h2 h3 h4=>?_)
 exact h1 F base E₀ w₀ E' a' w' (hc.on h3 h4) h2 Q (k+1) hQ (fun j=>by have:=hl (j+1);simpa[Nat.add_assoc,Nat.add_comm 1 j]using this)
theorem kY{a:Act}{w:World}{o:Oper}{Φ:db}{next:Act→World→Prop}{Q:Exit→Act→World→Prop}(h:fH P w Φ ((execOp a.eval o).run P w))(hn:∀v w',Ext w w'→Φ v w'→next (a.put o.dst v) w'):o.wp P a w next Q:=by
 unfold Oper.wp
 generalize (execOp a.eval o).run P w=r at*
 cases r with
 |ok x w'=>
  cases x<;>simp only[fH]at h<;>simp only[Oper.upon]
  case value v=>exact hn _ _ h.1 h.2
  case skip=>exact hn _ _ h.1 h.2
  case enter f args=>
   refine h.2.mono fun e w'' ⟨v,he,hE',hv⟩=>?_
   subst he
   exact hn _ _ (h.1.trans hE') hv
 |halt x w'=>simp only[fH]at h
theorem bA{o:Oper}{rest:List Oper}{t:b9}{σ:bN}{K:St→Prop}{d:Nat}{p:PV}(hy:bh P σ t o p)(hd:o.dst=some d)(hw:dP ops t o=some true)(hN:Nat.blt d N=true)(h:WR P N L ops rest ⟨(d,p)::t,σ⟩ K):WR P N L ops (o::rest) ⟨t,σ⟩ K:=by
 refine kE hw fun F base E a w hs next Q hn=>kY (hy F base E a.eval w (dx a) hs.sat hs.tmp) fun v w' hE hv=>hn _ _ _ E h ?_ (.ext hE) (Below.fB hE hs.sat.bl)
 rw[hd]
 exact hs.put (hs.sat.ext hE) (.ext hE) hN hv
theorem Ao{o:Oper}{rest:List Oper}{t:b9}{σ:bN}{K:St→Prop}{d:Nat}(hd:o.dst=some d)(hw:dP ops t o=some false)(hN:Nat.blt d N=true)(h:WR P N L ops rest ⟨(d,.raw undef)::t,σ⟩ K):WR P N L ops (o::rest) ⟨t,σ⟩ K:=by
 intro F base E₀ w₀ E a w hc hs Q k hQ hl
 have h0:ops[k]? =some o:=by simpa using(hl 0).symm
 rw[List.length_cons,List.range'_succ,wpOps_cons]
 unfold wpOp
 simp only[h0]
 rw[eI,sc hs.tmp hw,if_neg Bool.false_ne_true]
 refine h F base E₀ w₀ E _ w hc ?_ Q (k+1) hQ (fun j=>by have:=hl (j+1);simpa[Nat.add_assoc,Nat.add_comm 1 j]using this)
 rw[hd]
 exact hs.put hs.sat (cp.refl _ _) hN (.raw _)
def cM(P:Program)(σ:bN)(t:b9)(o:Oper)(p:PV)(σ':bN):Prop:=
 ∀F base E ρ w,kJ ρ→Sat F base σ E w→cG E w ρ t→∃v w' E',((execOp ρ o).run P w= .ok (.value v) w'∨(v=undef∧(execOp ρ o).run P w= .ok .skip w'))∧Sat F base σ' E' w'∧cp E w E' w'∧Below base w w'∧cu E' w' v p
theorem du{o:Oper}{rest:List Oper}{t:b9}{σ σ':bN}{K:St→Prop}{d:Nat}{p:PV}(hy:cM P σ t o p σ')(hd:o.dst=some d)(hw:dP ops t o=some true)(hN:Nat.blt d N=true)(h:WR P N L ops rest ⟨(d,p)::t,σ'⟩ K):WR P N L ops (o::rest) ⟨t,σ⟩ K:=by
 refine kE hw fun F base E a w hs next Q hn=>?_
 obtain⟨v,w',E',hr,h1,h2,h3,h4⟩:=hy F base E a.eval w (dx a) hs.sat hs.tmp
 have hn':=hn (a.put o.dst v) w' _ E' h (by rw[hd];exact hs.put h1 h2 hN h4) h2 h3
 unfold Oper.wp
 rcases hr with hr|⟨rfl,hr⟩
 ·rw[hr];exact hn'
 ·rw[hr];exact hn'
theorem ba{o:Oper}{rest:List Oper}{t:b9}{σ σ':bN}{K:St→Prop}{p:PV}(hy:cM P σ t o p σ')(hd:o.dst=none)(hw:dP ops t o=some true)(h:WR P N L ops rest ⟨t,σ'⟩ K):WR P N L ops (o::rest) ⟨t,σ⟩ K:=by
 refine kE hw fun F base E a w hs next Q hn=>?_
 obtain⟨v,w',E',hr,h1,h2,h3,h4⟩:=hy F base E a.eval w (dx a) hs.sat hs.tmp
 have hn':=hn (a.put o.dst v) w' _ E' h (by rw[hd];exact hs.KV h1 h2 v) h2 h3
 unfold Oper.wp
 rcases hr with hr|⟨rfl,hr⟩
 ·rw[hr];exact hn'
 ·rw[hr];exact hn'
def aW(P:Program)(f:FuncId)(ps:List PV)(σ:bN)(R:PV→bN→Prop):Prop:=
 ∀F base E w (vs:Array Value),Sat F base σ E w→aV E w vs.toList ps→Calls P f vs w fun e w'=>∃v r σ' E',e= .returned v∧R r σ'∧Sat F base σ' E' w'∧cp E w E' w'∧Below base w w'∧cu E' w' v r
theorem FX{o:Oper}{rest:List Oper}{t:b9}{σ:bN}{K:St→Prop}{d:Nat}{f:FuncId}{x:Operand}{args:Array Operand}{ats:Array TypeId}{cap ps:List PV}(ho:o.op= .call {callee:=.value x,args,argTypes:=ats})(hf:enters P f=true)(hx:aA t x=some (.func f cap))(ha:gO t args.toList=some ps)
  (hd:o.dst=some d) (hw:dP ops t o=some true) (hN:Nat.blt d N=true) (hc:aW P f (ps++cap) σ (fun r σ'=>WR P N L ops rest ⟨(d,r)::t,σ'⟩ K)):WR P N L ops (o::rest) ⟨t,σ⟩ K:=by
 refine kE hw fun F base E a w hs next Q hn=>?_
 have h1:=aq (dx a) hs.tmp hx
 have h2:=ga (dx a) hs.tmp ha
 generalize hz:a.eval x=z at h1
 cases h1 with
 |func _ cs _ hl hr=>
  unfold Oper.wp
  rw[fG hf ho hz w]
  simp only[Oper.upon]
  have h3:aV E w (args.map a.eval++cs).toList (ps++cap):=by
   rw[Array.toList_append,Array.toList_map]
   exact h2.append ⟨by simpa using hl,fun i x u k1 k2=>hr i x u (by simpa using k1) k2⟩
  refine(hc F base E w _ hs.sat h3).mono ?_
  rintro e w' ⟨v,r,σ',E',rfl,hR,hS',hG,hB,hv⟩
  exact hn _ _ _ E' hR (by rw[hd];exact hs.put hS' hG hN hv) hG hB
inductive eU (P:Program) (N:Nat) (ops:Array Oper) (σ:bN):List Oper→b9→b9→Prop
 |nil {t t':b9}:Sub t t'→eU P N ops σ [] t t'
 |val {o:Oper} {rest:List Oper} {t t':b9} {d:Nat} {p:PV}:bh P σ t o p→o.dst=some d→dP ops t o=some true→Nat.blt d N=true→eU P N ops σ rest ((d,p)::t) t'→eU P N ops σ (o::rest) t t'
 |skip {o:Oper} {rest:List Oper} {t t':b9} {d:Nat}:o.dst=some d→dP ops t o=some false→Nat.blt d N=true→eU P N ops σ rest ((d,.raw undef)::t) t'→eU P N ops σ (o::rest) t t'
 |le {l:List Oper} {t u t':b9}:Sub t u→eU P N ops σ l u t'→eU P N ops σ l t t'
theorem eU.wr{σ:bN}{l:List Oper}{t t':b9}(h:eU P N ops σ l t t'){K:St→Prop}(hk:K ⟨t',σ⟩):WR P N L ops l ⟨t,σ⟩ K:=by
 induction h with
 |nil hs=>exact yO hs (bf hk)
 |val hy hd hw hN _ ih=>exact bA hy hd hw hN (ih hk)
 |skip hd hw hN _ ih=>exact Ao hd hw hN (ih hk)
 |le hs _ ih=>exact yO hs (ih hk)
def W(P:Program)(N L:Nat)(c:Code)(st:St)(Q:Exit→St→Prop):Prop:=
 ∀F base E₀ w₀ E a w,px base L E₀ w₀ E w→cY F base N st E a w→c.wp P (fun e a' w'=>mQ F base N E₀ w₀ (Q e) a' w') a w
theorem W.mono{c:Code}{st:St}{Q Q':Exit→St→Prop}(h:W P N L c st Q)(hq:∀e s,Q e s→Q' e s):W P N L c st Q':=fun F base E₀ w₀ E a w hc hs=>
 wp_mono (h F base E₀ w₀ E a w hc hs) fun e _ _ ⟨s,E',h1,h2⟩=>⟨s,E',hq e s h1,h2⟩
theorem iJ{c:Code}{t t':b9}{σ:bN}{Q:Exit→St→Prop}(hs:Sub t t')(h:W P N L c ⟨t',σ⟩ Q):W P N L c ⟨t,σ⟩ Q:=fun F base E₀ w₀ E a w hc hst=>
 h F base E₀ w₀ E a w hc ⟨hst.sat,hst.tmp.sub hs,hst.jL,hst.size⟩
theorem ak{st:St}{Q:Exit→St→Prop}(h:Q .normal st):W P N L .skip st Q:=fun _ _ _ _ E _ _ hc hs=>wp_skip ⟨st,E,h,hs,hc.g,hc.b⟩
theorem az{st:St}{Q:Exit→St→Prop}(h:Q .ret st):W P N L .ret st Q:=fun _ _ _ _ E _ _ hc hs=>wp_ret ⟨st,E,h,hs,hc.g,hc.b⟩
theorem bp{id:Nat}{st:St}{Q:Exit→St→Prop}(h:Q (.exit id) st):W P N L (.exit id) st Q:=fun _ _ _ _ E _ _ hc hs=>wp_exit ⟨st,E,h,hs,hc.g,hc.b⟩
def DP(K:St→Prop)(Q:Exit→St→Prop):Exit→St→Prop
 | .normal,s=>K s
 |e,s=>Q e s
theorem an{x y:Code}{st:St}{Q:Exit→St→Prop}(h:W P N L x st (DP (fun s=>W P N L y s Q) Q)):W P N L (.seq x y) st Q:=fun F base E₀ w₀ E a w hc hs=>by
 refine wp_seq (wp_mono (h F base E₀ w₀ E a w hc hs) fun e a' w' ⟨s,E',h1,h2,h3,h4⟩=>?_)
 cases e
 case normal=>exact h1 F base E₀ w₀ E' a' w' ⟨hc.L,h3,h4⟩ h2
 all_goals exact⟨s,E',h1,h2,h3,h4⟩
theorem aj{k:Nat}{x y:Code}{st:St}{Q:Exit→St→Prop}{b:Bool}(hc:look k st.t=some (.raw (.bool b)))(ht:b=true→W P N L x st Q)(hf:b=false→W P N L y st Q):W P N L (.cond (.tmp k) x y) st Q:=fun F base E₀ w₀ E a w hcm hs=>by
 have h1:=hs.tmp k _ hc
 generalize hz:a.eval (.tmp k)=z at h1
 cases h1
 exact wp_cond_split hz (fun h=>ht h F base E₀ w₀ E a w hcm hs) (fun h=>hf h F base E₀ w₀ E a w hcm hs)
theorem Hi{k:Nat}{x y:Code}{st:St}{Q:Exit→St→Prop}(hc:look k st.t=some (.raw (.bool true)))(ht:W P N L x st Q):W P N L (.cond (.tmp k) x y) st Q:=aj hc (fun _=>ht) (fun h=>by cases h)
theorem qC{k:Nat}{x y:Code}{st:St}{Q:Exit→St→Prop}(hc:look k st.t=some (.raw (.bool false)))(hf:W P N L y st Q):W P N L (.cond (.tmp k) x y) st Q:=aj hc (fun h=>by cases h) (fun _=>hf)
def Dr(id:Nat)(Q:Exit→St→Prop):Exit→St→Prop
 | .exit j,s=>bif Nat.beq j id then Q .normal s else Q (.exit j) s
 |e,s=>Q e s
theorem ay{id:Nat}{c:Code}{st:St}{Q:Exit→St→Prop}(h:W P N L c st (Dr id Q)):W P N L (.block id c) st Q:=fun F base E₀ w₀ E a w hc hs=>by
 refine wp_block (wp_mono (h F base E₀ w₀ E a w hc hs) fun e a' w' ⟨s,E',h1,h2⟩=>?_)
 cases e with
 |exit j=>
  simp only[Dr]at h1
  rw[Bool.cond_eq_ite]at h1
  simp only[Exit.inBlock]
  split at h1
  ·rename_i hj;rw[if_pos (Nat.eq_of_beq_eq_true hj)];exact⟨s,E',h1,h2⟩
  ·rename_i hj;rw[if_neg (fun e=>hj (by rw[e];exact Nat.beq_refl id))];exact⟨s,E',h1,h2⟩
 |normal=>exact⟨s,E',h1,h2⟩
 |goto _=>exact⟨s,E',h1,h2⟩
 |ret=>exact⟨s,E',h1,h2⟩
 |panic _=>exact⟨s,E',h1,h2⟩
 |outgrown=>exact⟨s,E',h1,h2⟩
theorem br{c:Code}{st:St}{Q:Exit→St→Prop}(I:Nat→St→Prop)(n₀:Nat)(h₀:I n₀ st)(round:∀n s,I n s→W P N L c s (DP (fun s'=>∃m,m<n∧I m s') Q)):W P N L (.loop c) st Q:=fun F base E₀ w₀ E a w hc hs=>by
 refine wp_loop_ghost (fun n a' w'=>mQ F base N E₀ w₀ (I n) a' w') n₀ ⟨st,E,h₀,hs,hc.g,hc.b⟩ ?_
 rintro n a' w' ⟨s,E',h1,h2,h3,h4⟩
 refine wp_mono (round n s h1 F base E₀ w₀ E' a' w' ⟨hc.L,h3,h4⟩ h2) ?_
 rintro e a'' w'' ⟨s',E'',k1,k2⟩
 cases e
 case normal=>
  obtain⟨m,hm,hI⟩:=k1
  exact⟨m,hm,s',E'',hI,k2⟩
 all_goals exact⟨s',E'',k1,k2⟩
theorem bx{id:Nat}{l:List Oper}{st:St}{Q:Exit→St→Prop}(h:WR P N L l.toArray l st (fun s=>Q .normal s)):W P N L (.region id l.toArray false) st Q:=fun F base E₀ w₀ E a w hc hs=>by
 refine wp_region ?_
 have:=h F base E₀ w₀ E a w hc hs (fun e a' w'=>mQ F base N E₀ w₀ (Q e) a' w') 0 (fun a' w' hp=>hp) (fun j=>by simp)
 rw[←List.range_eq_range']at this
 simpa using this
theorem aR{id:Nat}{l:List Oper}{y:Code}{st:St}{Q:Exit→St→Prop}(h:WR P N L l.toArray l st (fun s=>W P N L y s Q)):W P N L (.seq (.region id l.toArray false) y) st Q:=an (bx h)
theorem af{id:Nat}{l:List Oper}{y:Code}{t t':b9}{σ:bN}{Q:Exit→St→Prop}(h:eU P N l.toArray σ l t t')(hq:W P N L y ⟨t',σ⟩ Q):W P N L (.seq (.region id l.toArray false) y) ⟨t,σ⟩ Q:=aR (h.wr hq)
theorem aF{id:Nat}{l:List Oper}{t t':b9}{σ:bN}{Q:Exit→St→Prop}(h:eU P N l.toArray σ l t t')(hq:Q .normal ⟨t',σ⟩):W P N L (.region id l.toArray false) ⟨t,σ⟩ Q:=bx (h.wr hq)
inductive Ren (fs:List Nat):PV→PV→Prop
 |pure {p:PV} [IsPure p]:Ren fs p p
 |any {p:PV}:Ren fs .any p
 |own {i j:Nat}:fs[i]? =some j→Ren fs (.own i) (.own j)
 |ptr {i j k:Nat}:fs[i]? =some j→Ren fs (.ptr i k) (.ptr j k)
 |agg {xs ys:List PV} (hl:ys.length=xs.length) (hs:∀(j:Nat) x y,xs[j]? =some x→ys[j]? =some y→Ren fs x y):Ren fs (.agg xs) (.agg ys)
 |tuple {xs ys:List PV} (hl:ys.length=xs.length) (hs:∀(j:Nat) x y,xs[j]? =some x→ys[j]? =some y→Ren fs x y):Ren fs (.tuple xs) (.tuple ys)
 |func {f:FuncId} {xs ys:List PV} (hl:ys.length=xs.length) (hs:∀(j:Nat) x y,xs[j]? =some x→ys[j]? =some y→Ren fs x y):Ren fs (.func f xs) (.func f ys)
 |bound {f:FuncId} {xs ys:List PV} (hl:ys.length=xs.length) (hs:∀(j:Nat) x y,xs[j]? =some x→ys[j]? =some y→Ren fs x y):Ren fs (.bound f xs) (.bound f ys)
def ao(fs:List Nat)(xs ys:List PV):Prop:=ys.length=xs.length∧∀(j:Nat) x y,xs[j]? =some x→ys[j]? =some y→Ren fs x y
theorem ao.nil{fs:List Nat}:ao fs [] []:=⟨rfl,fun j x y h=>by simp at h⟩
theorem ao.cons{fs:List Nat}{x y:PV}{xs ys:List PV}(h:Ren fs x y)(hs:ao fs xs ys):ao fs (x::xs) (y::ys):=⟨by simp[hs.1],fun j a b h1 h2=>by
 cases j with
 |zero=>simp at h1 h2;subst h1;subst h2;exact h
 |succ j=>exact hs.2 j a b (by simpa using h1) (by simpa using h2)⟩
theorem ao.pure{fs:List Nat}{xs:List PV}[h:aI xs]:ao fs xs xs:=⟨rfl,fun j x y h1 h2=>by
 rw[h1]at h2;cases h2
 haveI:=h.out j x h1
 exact Ren.pure⟩
theorem Ren.fy{fs:List Nat}{f:FuncId}{xs ys:List PV}(h:ao fs xs ys):Ren fs (.func f xs) (.func f ys):=.func h.1 h.2
theorem Ren.FL{fs:List Nat}{f:FuncId}{xs ys:List PV}(h:ao fs xs ys):Ren fs (.bound f xs) (.bound f ys):=.bound h.1 h.2
theorem Ren.gM{fs:List Nat}{xs ys:List PV}(h:ao fs xs ys):Ren fs (.agg xs) (.agg ys):=.agg h.1 h.2
def Env.nv(E:Env)(fs:List Nat)(M:Nat→Prop):Env:=⟨fs.length,fun i=>E.at_ (fs.getD i 0),M⟩
theorem Ren.rep{E:Env}{w:World}{fs:List Nat}{M:Nat→Prop}(hM:∀b,M b→E.M b){p q:PV}(h:Ren fs p q):∀v,cu E w v q→cu (E.nv fs M) w v p:=by
 induction h with
 | @pure p hp=>
  intro v h
  have:=hp.out E M w v hM h
  exact this.goes (E:=EF M) (E':=E.nv fs M) (w:=w) (w':=w) ⟨Nat.zero_le _,fun i hi=>absurd hi (Nat.not_lt_zero i),fun _ _ h=>h,Nat.le_refl _,fun _ _ _=>rfl⟩
 |any=>intro v _;exact .any v
 | @own i j hij=>
  intro v h
  cases h with
  |own _ hi _ h hs=>exact .own i (List.getElem?_eq_some_iff.1 hij).1 v (by simp[Env.nv,List.getD_eq_getElem?_getD,hij,h]) hs
 | @ptr i j k hij=>
  intro v h
  cases h with
  |ptr _ _ b hi h=>exact .ptr i k b (List.getElem?_eq_some_iff.1 hij).1 (by simpa[Env.nv,List.getD_eq_getElem?_getD,hij]using h)
 | @agg xs ys hl _ ih=>
  intro v h
  cases h with
  |agg cs _ hl' hr=>exact .agg cs xs (hl'.trans hl) (fun j c u h1 h2=>by
    have hj:j<ys.length:=by rw[hl];exact(List.getElem?_eq_some_iff.1 h2).1
    exact ih j u ys[j] h2 (by simp[hj]) c (hr j c _ h1 (by simp[hj])))
 | @tuple xs ys hl _ ih=>
  intro v h
  cases h with
  |tuple cs _ hl' hr=>exact .tuple cs xs (hl'.trans hl) (fun j c u h1 h2=>by
    have hj:j<ys.length:=by rw[hl];exact(List.getElem?_eq_some_iff.1 h2).1
    exact ih j u ys[j] h2 (by simp[hj]) c (hr j c _ h1 (by simp[hj])))
 | @func f xs ys hl _ ih=>
  intro v h
  cases h with
  |func _ cs _ hl' hr=>exact .func f cs xs (hl'.trans hl) (fun j c u h1 h2=>by
    have hj:j<ys.length:=by rw[hl];exact(List.getElem?_eq_some_iff.1 h2).1
    exact ih j u ys[j] h2 (by simp[hj]) c (hr j c _ h1 (by simp[hj])))
 | @bound f xs ys hl _ ih=>
  intro v h
  cases h with
  |bound _ cs _ hl' hr=>exact .bound f cs xs (hl'.trans hl) (fun j c u h1 h2=>by
    have hj:j<ys.length:=by rw[hl];exact(List.getElem?_eq_some_iff.1 h2).1
    exact ih j u ys[j] h2 (by simp[hj]) c (hr j c _ h1 (by simp[hj])))
inductive yA (fs:List Nat):cK→cK→Prop
 |cells {ty:TypeId} {xs ys:List PV}:ao fs xs ys→yA fs (.cells ty xs) (.cells ty ys)
 |row {e s n:Nat} {xs ys:List PV}:ao fs xs ys→yA fs (.row e s n xs) (.row e s n ys)
 |fk {e s n n':Nat} {xs ys:List PV} (hn:n'=n) (h:ys=xs) [aI xs]:yA fs (.row e s n xs) (.row e s n' ys)
 |mp {kv:List (Value×PV)} [aI (kv.map (·.2))]:yA fs (.mp kv) (.mp kv)
inductive kq (fs:List Nat) (σ:bN):bN→List Nat→Prop
 |nil:kq fs σ [] []
 |gone {σ':bN} {js:List Nat} {j:Nat}:kq fs σ σ' js→kq fs σ (none::σ') (j::js)
 |kept {σ':bN} {js:List Nat} {j:Nat} {b b':cK}:σ[j]? =some (some b)→yA fs b' b→kq fs σ σ' js→kq fs σ (some b'::σ') (j::js)
theorem kq.get{fs:List Nat}{σ σ':bN}{js:List Nat}(h:kq fs σ σ' js):σ'.length=js.length∧∀(i:Nat) b',σ'[i]? =some (some b')→∃j b,js[i]? =some j∧σ[j]? =some (some b)∧yA fs b' b:=by
 induction h with
 |nil=>exact⟨rfl,fun i b' h=>by simp at h⟩
 |gone _ ih=>exact⟨by simp[ih.1],fun i b' h=>by
   cases i with
   |zero=>simp at h
   |succ i=>simpa using ih.2 i b' (by simpa using h)⟩
 | @kept σ' js j b b' h1 h2 _ ih=>exact⟨by simp[ih.1],fun i b'' h=>by
   cases i with
   |zero=>simp at h;subst h;exact⟨j,b,rfl,h1,h2⟩
   |succ i=>simpa using ih.2 i b'' (by simpa using h)⟩
theorem ao.rep{E:Env}{w:World}{fs:List Nat}{M:Nat→Prop}(hM:∀b,M b→E.M b){xs ys:List PV}(h:ao fs xs ys){cs:List Value}(hs:aV E w cs ys):aV (E.nv fs M) w cs xs:=
 ⟨hs.1.trans h.1,fun j c u h1 h2=>by
  have hj:j<ys.length:=by rw[h.1];exact(List.getElem?_eq_some_iff.1 h2).1
  exact(h.2 j u ys[j] h2 (by simp[hj])).rep hM c (hs.2 j c _ h1 (by simp[hj]))⟩
def fT:List Nat→Bool
 | []=>true
 |x::l=> !(l.contains x)&&fT l
theorem nm:∀ {l:List Nat},fT l=true→∀(i j:Nat) x,l[i]? =some x→l[j]? =some x→i=j
 | [],_,i,j,x,h1,_=>by simp at h1
 |y::l,h,i,j,x,h1,h2=>by
  simp only[fT,Bool.and_eq_true,Bool.not_eq_true',List.contains_eq_mem,decide_eq_false_iff_not]at h
  cases i with
  |zero=>
   cases j with
   |zero=>rfl
   |succ j=>simp at h1 h2;subst h1;exact absurd (List.mem_of_getElem? h2) h.1
  |succ i=>
   cases j with
   |zero=>simp at h1 h2;subst h2;exact absurd (List.mem_of_getElem? h1) h.1
   |succ j=>rw[nm h.2 i j x (by simpa using h1) (by simpa using h2)]
theorem Sat.nv{F:Nat→Prop}{base:Nat}{E:Env}{w:World}{σ σ':bN}{fs:List Nat}(hS:Sat F base σ E w)(h:kq fs σ σ' fs)(hn:fT fs=true):
  ∃M,(∀b,M b→E.M b)∧Sat F base σ' (E.nv fs M) w:=by
 obtain⟨hl,hg⟩:=h.get
 have hat:∀i j,fs[i]? =some j→fs.getD i 0=j:=fun i j hij=>by simp[List.getD_eq_getElem?_getD,hij]
 refine⟨fun b=>F b∨∃i blk,σ'[i]? =some (some blk)∧aY (E.at_ (fs.getD i 0))=some b,fun b hb=>?_,?_⟩
 ·rcases hb with hb|⟨i,blk,h1,h2⟩
  ·exact(hS.mm b).2 (.inl hb)
  ·obtain⟨j,b',h3,h4,_⟩:=hg i blk h1
   rw[hat i j h3]at h2
   exact(hS.mm b).2 (.inr ⟨j,b',h4,h2⟩)
 ·have hM:∀b,(F b∨∃i blk,σ'[i]? =some (some blk)∧aY (E.at_ (fs.getD i 0))=some b)→E.M b:=fun b hb=>by
   rcases hb with hb|⟨i,blk,h1,h2⟩
   ·exact(hS.mm b).2 (.inl hb)
   ·obtain⟨j,b',h3,h4,_⟩:=hg i blk h1
    rw[hat i j h3]at h2
    exact(hS.mm b).2 (.inr ⟨j,b',h4,h2⟩)
  refine⟨hS.bl,fun b hb=>⟨(hS.fb b hb).1,fun i blk hi=>?_⟩,by simp[Env.nv,hl],fun b=>Iff.rfl,fun i blk hi=>?_,fun i j bi bj b hi hj h1 h2=>?_,hS.gl.sub hM⟩
  ·obtain⟨j,b',h3,h4,_⟩:=hg i blk hi
   simp only[Env.nv,hat i j h3]
   exact(hS.fb b hb).2 j b' h4
  ·obtain⟨j,b',h3,h4,h5⟩:=hg i blk hi
   have hB:=hS.blk j b' h4
   simp only[Env.nv,hat i j h3]
   cases h5 with
   |cells hr=>
    obtain⟨b,cs,k1,k2,k3,k4⟩:=hB
    exact⟨b,cs,k1,k2,k3,hr.rep hM k4⟩
   |row hr=>
    obtain⟨cs,k1,k2⟩:=hB
    exact⟨cs,k1,hr.rep hM k2⟩
   |fk hn' hx=>
    subst hn'
    subst hx
    obtain⟨cs,k1,k2⟩:=hB
    exact⟨cs,k1,(ao.pure (fs:=fs)).rep hM k2⟩
   |mp=>
    obtain⟨r,es,ck,k1,k2,k3,k4,k5⟩:=hB
    exact⟨r,es,ck,k1,k2,k3,k4,(ao.pure (fs:=fs)).rep hM k5⟩
  ·obtain⟨i',bi',h3,h4,_⟩:=hg i bi hi
   obtain⟨j',bj',h5,h6,_⟩:=hg j bj hj
   simp only[Env.nv,hat i i' h3]at h1
   simp only[Env.nv,hat j j' h5]at h2
   have:=hS.inj i' j' bi' bj' b h4 h6 h1 h2
   subst this
   exact nm hn i j i' h3 h5
inductive lZ (fs:List Nat) (t:b9):b9→Prop
 |nil:lZ fs t []
 |cons {t':b9} {p p':PV} (k:Nat):look k t=some p→Ren fs p' p→lZ fs t t'→lZ fs t ((k,p')::t')
theorem lZ.get{fs:List Nat}{t t':b9}(h:lZ fs t t'):∀k p',look k t'=some p'→∃p,look k t=some p∧Ren fs p' p:=by
 induction h with
 |nil=>intro k p' h;cases h
 | @cons t' p p' k h1 h2 _ ih=>
  intro j q hj
  simp only[look]at hj
  rw[Bool.cond_eq_ite]at hj
  split at hj
  ·rename_i he
   have:=Nat.eq_of_beq_eq_true he
   subst this
   cases hj
   exact⟨p,h1,h2⟩
  ·exact ih j q hj
def JE(fs:List Nat):Nat→Bool
 |0=>true
 |k+1=>(match fs[k]? with|some j=>Nat.beq j k|none=>false)&&JE fs k
theorem rr{fs:List Nat}:∀ {k:Nat},JE fs k=true→∀i,i<k→fs[i]? =some i
 |0,_,i,hi=>by omega
 |k+1,h,i,hi=>by
  simp only[JE,Bool.and_eq_true]at h
  by_cases e:i=k
  ·subst e
   obtain⟨h1,_⟩:=h
   split at h1
   ·rename_i j hj;rw[hj,Nat.eq_of_beq_eq_true h1]
   ·cases h1
  ·exact rr h.2 i (by omega)
theorem Ax{F:Nat→Prop}{base:Nat}{E₀ E:Env}{w₀ w:World}{a:Act}{t t':b9}{σ σ':bN}(fs:List Nat)(hT:lZ fs t t')(hS:kq fs σ σ' fs)(hn:fT fs=true)(hi:JE fs L=true)(hc:px base L E₀ w₀ E w)(hs:cY F base N ⟨t,σ⟩ E a w):
  ∃E',px base L E₀ w₀ E' w∧cY F base N ⟨t',σ'⟩ E' a w:=by
 obtain⟨M,hM,hS'⟩:=hs.sat.nv hS hn
 refine⟨_,⟨hc.L,⟨?_,fun i hi'=>?_,fun b hb h h'=>hc.g.M b hb h (hM b h'),hc.g.size,hc.g.heap⟩,hc.b⟩,hS',fun k p hk=>?_,hs.jL,hs.size⟩
 ·rw[hc.L]
  have:L≤fs.length:=by
   rcases Nat.eq_zero_or_pos L with h|h
   ·omega
   ·have:=rr hi (L - 1) (by omega)
    have:=(List.getElem?_eq_some_iff.1 this).1
    omega
  exact this
 ·have:=rr hi i (by rw[←hc.L];exact hi')
  have h2:fs.getD i 0=i:=by simp[List.getD_eq_getElem?_getD,this]
  simp only[Env.nv,h2]
  exact hc.g.at_ i hi'
 ·obtain⟨q,h1,h2⟩:=hT.get k p hk
  exact h2.rep hM _ (hs.tmp k q h1)
theorem cJ{c:Code}{t t':b9}{σ σ':bN}{Q:Exit→St→Prop}(fs:List Nat)(hT:lZ fs t t')(hS:kq fs σ σ' fs)(hn:fT fs=true)(hi:JE fs L=true)(h:W P N L c ⟨t',σ'⟩ Q):W P N L c ⟨t,σ⟩ Q:=fun F base E₀ w₀ E a w hc hs=>by
 obtain⟨E',h1,h2⟩:=Ax fs hT hS hn hi hc hs
 exact h F base E₀ w₀ E' a w h1 h2
theorem eQ{l:List Oper}{t t':b9}{σ σ':bN}{K:St→Prop}(fs:List Nat)(hT:lZ fs t t')(hS:kq fs σ σ' fs)(hn:fT fs=true)(hi:JE fs L=true)(h:WR P N L ops l ⟨t',σ'⟩ K):WR P N L ops l ⟨t,σ⟩ K:=fun F base E₀ w₀ E a w hc hs=>by
 obtain⟨E',h1,h2⟩:=Ax fs hT hS hn hi hc hs
 exact h F base E₀ w₀ E' a w h1 h2
end
def Env.push(E:Env)(v:Value):Env:=⟨E.L+1,fun i=>if i=E.L then v else E.at_ i,fun b=>E.M b∨aY v=some b⟩
def Env.kill(E:Env)(i:Nat):Env:=⟨E.L,E.at_,fun b=>E.M b∧aY (E.at_ i)≠some b⟩
section
variable {F:Nat→Prop} {base:Nat} {σ:bN} {E:Env} {w w':World}
theorem oU(hw:∀b,b<w.heap.size→¬E.M b→w'.heap[b]? =w.heap[b]?)(hs:w.heap.size≤w'.heap.size){v:Value}(hv:∀b,aY v=some b→w.heap.size≤b∨E.M b):cp E w (E.push v) w':=
 ⟨Nat.le_succ _,fun i hi=>by simp[Env.push,Nat.ne_of_lt hi],fun b hb hM h=>by
  rcases h with h|h
  ·exact hM h
  ·rcases hv b h with h'|h'
   ·omega
   ·exact hM h',hs,hw⟩
theorem Sat.push(hS:Sat F base σ E w)(hE:Ext w w'){v:Value}{blk:cK}(hv:∀b,aY v=some b→w.heap.size≤b)(hb:fF base (E.push v) w' v blk):Sat F base (σ++[some blk]) (E.push v) w'∧cp E w (E.push v) w':=by
 have g:cp E w (E.push v) w':=oU (fun b h _=>hE.block b h) hE.size (fun b h=>.inl (hv b h))
 have hat:∀i,i<σ.length→(E.push v).at_ i=E.at_ i:=fun i hi=>g.at_ i (by rw[hS.len];exact hi)
 have hnew:(E.push v).at_ σ.length=v:=by simp[Env.push,hS.len]
 have split:∀i (b:cK),(σ++[some blk])[i]? =some (some b)→(i<σ.length∧σ[i]? =some (some b))∨(i=σ.length∧b=blk):=fun i b h=>by
  by_cases hi:i<σ.length
  ·rw[List.getElem?_append_left hi]at h;exact .inl ⟨hi,h⟩
  ·rw[List.getElem?_append_right (by omega)]at h
   have:i - σ.length=0:=by
    rcases Nat.eq_zero_or_pos (i - σ.length)with h'|h'
    ·exact h'
    ·rw[List.getElem?_eq_none (by simp;omega)]at h;cases h
   rw[this]at h
   simp at h
   exact .inr ⟨by omega,h.symm⟩
 refine⟨⟨Nat.le_trans hS.bl hE.size,fun b hb'=>⟨Nat.lt_of_lt_of_le (hS.fb b hb').1 hE.size,fun i bl hi=>?_⟩,by simp[Env.push,hS.len],fun b=>?_,fun i bl hi=>?_,fun i j bi bj b hi hj hbi hbj=>?_,hS.gl.goes g⟩,g⟩
 ·rcases split i bl hi with⟨h1,h2⟩|⟨rfl,_⟩
  ·rw[hat i h1];exact(hS.fb b hb').2 i bl h2
  ·rw[hnew];intro h;have:=hv b h;have:=(hS.fb b hb').1;omega
 ·constructor
  ·rintro(h|h)
   ·rcases(hS.mm b).1 h with h|⟨i,bl,h1,h2⟩
    ·exact .inl h
    ·have hi:i<σ.length:=(List.getElem?_eq_some_iff.1 h1).1
     exact .inr ⟨i,bl,by rw[List.getElem?_append_left hi];exact h1,by rw[hat i hi];exact h2⟩
   ·exact .inr ⟨σ.length,blk,by simp,by rw[hnew];exact h⟩
  ·rintro(h|⟨i,bl,h1,h2⟩)
   ·exact .inl ((hS.mm b).2 (.inl h))
   ·rcases split i bl h1 with⟨h3,h4⟩|⟨rfl,_⟩
    ·rw[hat i h3]at h2;exact .inl ((hS.mm b).2 (.inr ⟨i,bl,h4,h2⟩))
    ·rw[hnew]at h2;exact .inr h2
 ·rcases split i bl hi with⟨h1,h2⟩|⟨rfl,rfl⟩
  ·rw[hat i h1]
   exact(hS.blk i bl h2).goes g (fun b hb=>hE.block b ((hS.blk i bl h2).lt hb).2)
  ·rw[hnew];exact hb
 ·rcases split i bi hi with⟨h1,h2⟩|⟨rfl,rfl⟩<;>rcases split j bj hj with⟨h3,h4⟩|⟨rfl,rfl⟩
  ·rw[hat i h1]at hbi;rw[hat j h3]at hbj;exact hS.inj i j bi bj b h2 h4 hbi hbj
  ·rw[hat i h1]at hbi;rw[hnew]at hbj
   have:=((hS.blk i bi h2).lt hbi).2;have:=hv b hbj;omega
  ·rw[hnew]at hbi;rw[hat j h3]at hbj
   have:=((hS.blk j bj h4).lt hbj).2;have:=hv b hbi;omega
  ·rfl
theorem ir{i j:Nat}{bl:cK}(h:(σ.set i none)[j]? =some (some bl)):j≠i∧σ[j]? =some (some bl):=by
 rw[List.getElem?_set]at h
 split at h
 ·rename_i he;subst he;split at h<;>simp at h
 ·rename_i he;exact⟨Ne.symm he,h⟩
theorem Sat.kill(hS:Sat F base σ E w)(i:Nat){bi:cK}(hi:σ[i]? =some (some bi)):Sat F base (σ.set i none) (E.kill i) w∧cp E w (E.kill i) w:=by
 have g:cp E w (E.kill i) w:=⟨Nat.le_refl _,fun _ _=>rfl,fun b _ hM h=>hM h.1,Nat.le_refl _,fun _ _ _=>rfl⟩
 refine⟨⟨hS.bl,fun b hb=>⟨(hS.fb b hb).1,fun j bl hj=>(hS.fb b hb).2 j bl (ir hj).2⟩,by simp[Env.kill,hS.len],fun b=>?_,fun j bl hj=>?_,fun j k bj bk b hj hk h1 h2=>hS.inj j k bj bk b (ir hj).2 (ir hk).2 h1 h2,hS.gl.goes g⟩,g⟩
 ·constructor
  ·rintro⟨h1,h2⟩
   rcases(hS.mm b).1 h1 with h|⟨j,bl,h3,h4⟩
   ·exact .inl h
   ·refine .inr ⟨j,bl,?_,h4⟩
    have hne:i≠j:=fun e=>by rw[←e]at h4;exact h2 h4
    rw[List.getElem?_set,if_neg hne];exact h3
  ·rintro(h|⟨j,bl,h1,h2⟩)
   ·exact⟨(hS.mm b).2 (.inl h),(hS.fb b h).2 i bi hi⟩
   ·obtain⟨hne,h3⟩:=ir h1
    refine⟨(hS.mm b).2 (.inr ⟨j,bl,h3,h2⟩),fun h4=>hne (hS.inj j i bl bi b h3 hi h2 h4)⟩
 ·exact(hS.blk j bl (ir hj).2).goes g (fun _ _=>rfl)
theorem Sat.BA(hS:Sat F base σ E w){i b:Nat}{bi bi':cK}(hi:σ[i]? =some (some bi))(hb:aY (E.at_ i)=some b)(hs:w.heap.size≤w'.heap.size)(ho:∀k,k<w.heap.size→k≠b→w'.heap[k]? =w.heap[k]?)(hn:fF base E w' (E.at_ i) bi'):
  Sat F base (σ.set i (some bi')) E w'∧cp E w E w':=by
 have hbM:E.M b:=(hS.mm b).2 (.inr ⟨i,bi,hi,hb⟩)
 have hil:i<σ.length:=(List.getElem?_eq_some_iff.1 hi).1
 have g:cp E w E w':=⟨Nat.le_refl _,fun _ _=>rfl,fun _ _ h=>h,hs,fun k hk hM=>ho k hk (fun e=>hM (by rw[e];exact hbM))⟩
 have split:∀j (bl:cK),(σ.set i (some bi'))[j]? =some (some bl)→(j≠i∧σ[j]? =some (some bl))∨(j=i∧bl=bi'):=fun j bl h=>by
  rw[List.getElem?_set]at h
  split at h
  ·rename_i he;subst he;simp at h;exact .inr ⟨rfl,h.symm⟩
  ·rename_i he;exact .inl ⟨Ne.symm he,h⟩
 have back:∀j (bl:cK),σ[j]? =some (some bl)→∃bl',(σ.set i (some bi'))[j]? =some (some bl'):=fun j bl h=>by
  by_cases he:i=j
  ·subst he;exact⟨bi',by rw[List.getElem?_set,if_pos rfl,if_pos hil]⟩
  ·exact⟨bl,by rw[List.getElem?_set,if_neg he];exact h⟩
 have fwd:∀j (bl:cK),(σ.set i (some bi'))[j]? =some (some bl)→∃bl',σ[j]? =some (some bl'):=fun j bl h=>by
  rcases split j bl h with⟨_,h2⟩|⟨rfl,_⟩
  ·exact⟨bl,h2⟩
  ·exact⟨bi,hi⟩
 refine⟨⟨Nat.le_trans hS.bl hs,fun k hk=>⟨Nat.lt_of_lt_of_le (hS.fb k hk).1 hs,fun j bl hj=>?_⟩,by simp[hS.len],fun k=>?_,fun j bl hj=>?_,fun j k bj bk c hj hk h1 h2=>?_,hS.gl.goes g⟩,g⟩
 ·obtain⟨bl',h'⟩:=fwd j bl hj
  exact(hS.fb k hk).2 j bl' h'
 ·rw[hS.mm k]
  constructor
  ·rintro(h|⟨j,bl,h1,h2⟩)
   ·exact .inl h
   ·obtain⟨bl',h'⟩:=back j bl h1
    exact .inr ⟨j,bl',h',h2⟩
  ·rintro(h|⟨j,bl,h1,h2⟩)
   ·exact .inl h
   ·obtain⟨bl',h'⟩:=fwd j bl h1
    exact .inr ⟨j,bl',h',h2⟩
 ·rcases split j bl hj with⟨h1,h2⟩|⟨rfl,rfl⟩
  ·exact(hS.blk j bl h2).goes g (fun k hk=>ho k ((hS.blk j bl h2).lt hk).2 (fun e=>h1 (hS.inj j i bl bi b h2 hi (by rw[←e];exact hk) hb)))
  ·exact hn
 ·obtain⟨bj',hj'⟩:=fwd j bj hj
  obtain⟨bk',hk'⟩:=fwd k bk hk
  exact hS.inj j k bj' bk' c hj' hk' h1 h2
end
section
variable {P:Program} {σ:bN} {t:b9} {o:Oper}
theorem xc{ty:TypeId}{k:Option Nat}(h:sa P ty=some k)(w:World):(sizeOf ty).run P w= .ok (k.getD 1) w:=by
 unfold sa at h
 split at h
 ·rename_i d i hu hi
  have hr:(sizeOf ty).run P w= .ok i.size w:=by simp[sizeOf,typeInfo,hi]
  rw[hr]
  split at h
  ·cases h;rfl
  ·cases h;rfl
  ·split at h
   ·rename_i h1;cases h;simp[h1]
   ·cases h
 ·cases h
def cK.tE:cK→List PV→cK
 | .cells t _,xs=>.cells t xs
 | .row e s n _,xs=>.row e s n xs
 | .mp kv,_=>.mp kv
theorem sW{E:Env}{w:World}{cs vs:List Value}{xs ys:List PV}(h:aV E w cs xs)(k:aV E w vs ys)(off:Nat):aV E w (cs.take off++vs++cs.drop (off+vs.length)) (over xs off ys):=by
 unfold over
 rw[List.append_assoc,←k.1]
 exact(h.take off).append (k.append (h.drop _))
theorem qZ{ty:TypeId}{k:Option Nat}{x y:Operand}{i off:Nat}{blk:cK}{ys:List PV}{F:Nat→Prop}{base:Nat}{E:Env}{ρ:Operand→Value}{w:World}(ho:o.op= .store ty x y)(hk:sa P ty=some k)(hx:aA t x=some (.ptr i off))(h2:aV E w (ρ y).cells.toList ys)(hl:ys.length=k.getD 1)
  (hi:σ[i]? =some (some blk)) (hoff:off+ys.length≤blk.xs.length) [cZ ys] (hρ:kJ ρ) (hS:Sat F base σ E w) (hT:cG E w ρ t):
  ∃v w' E',((execOp ρ o).run P w= .ok (.value v) w'∨(v=undef∧(execOp ρ o).run P w= .ok .skip w'))∧Sat F base (σ.set i (some (blk.tE (over blk.xs off ys)))) E' w'∧cp E w E' w'∧Below base w w'∧cu E' w' v (.raw undef):=by
 have h1:=aq hρ hT hx
 generalize hz:ρ x=z at h1
 cases h1 with
 |ptr _ _ b hiL hat=>
  have hbk:aY (E.at_ i)=some b:=by rcases hat with hat|⟨n,c,hat⟩<;>rw[hat]<;>rfl
  have hbM:E.M b:=(hS.mm b).2 (.inr ⟨i,blk,hi,hbk⟩)
  have hB:=hS.blk i blk hi
  have hbase:=hB.lt hbk
  have hone:=h2.uD
  have hsz:(ρ y).cells.size=k.getD 1:=by rw[←Array.length_toList,h2.1,hl]
  have go:∀(cur:Array Value) (e:TypeId),w.heap[b]? =some (.cells cur e (0,0))→off+ys.length≤cur.size→
    (execOp ρ o).run P w= .ok .skip (w.setRow b (cur.toList.take off++(ρ y).cells.toList++cur.toList.drop (off+(ρ y).cells.toList.length)).toArray):=fun cur e hcur hle=>by
   have hst:=run_storeCells_at P b off e (ρ y).cells.toList 0 cur w hcur (by rw[Nat.add_zero,h2.1];exact hle) hone
   simp only[Nat.add_zero]at hst
   have hrun:(Instr.storeAt ty (.pointer (some ⟨b,off,none⟩)) (ρ y)).run P w= .ok () (w.setRow b (cur.toList.take off++(ρ y).cells.toList++cur.toList.drop (off+(ρ y).cells.toList.length)).toArray):=by
    simp only[Instr.storeAt,Instr.sureAddr,storeVar,Sem.run_bind,Sem.run_pure,Result.andThen_ok,xc hk,hsz,ne_eq,not_true_eq_false,if_false]
    exact hst
   simp only[execOp,ho,hz,Sem.run_bind,hrun,Result.andThen_ok,Sem.run_pure]
  have oth:∀(cs:Array Value) j,j<w.heap.size→j≠b→(w.setRow b cs).heap[j]? =w.heap[j]? :=fun cs j _ hj=>setRow_other w b j cs hj
  have hsize:∀cs:Array Value,w.heap.size≤(w.setRow b cs).heap.size:=fun cs=>by simp
  have hbelow:∀cs:Array Value,Below base w (w.setRow b cs):=fun cs=>⟨rfl,rfl,rfl,hsize cs,fun j hj=>setRow_other w b j cs (by omega)⟩
  cases blk with
  |cells ty' xs=>
   obtain⟨b',cs,he,k1,k2,k3⟩:=hB
   have:b=b':=by rw[he]at hbk;simp[aY]at hbk;exact hbk.symm
   subst this
   have hlen:cs.size=xs.length:=by have:=k3.1;rw[Array.length_toList]at this;exact this
   have hrun:=go cs ty' k2 (by rw[hlen];exact hoff)
   have hn:=hS.BA (w':=w.setRow b (cs.toList.take off++(ρ y).cells.toList++cs.toList.drop (off+(ρ y).cells.toList.length)).toArray) (bi':=.cells ty' (over xs off ys)) hi hbk (hsize _) (oth _) ⟨b,_,he,k1,setRow_heap w b cs _ ty' _ k2,by
    have:=sW k3 h2 off
    have g:cp E w E (w.setRow b (cs.toList.take off++(ρ y).cells.toList++cs.toList.drop (off+(ρ y).cells.toList.length)).toArray):=⟨Nat.le_refl _,fun _ _=>rfl,fun _ _ h=>h,hsize _,fun j hj hM=>oth _ j hj (fun e=>hM (by rw[e];exact hbM))⟩
    exact this.goes g⟩
   exact⟨undef,_,E,.inr ⟨rfl,hrun⟩,hn.1,hn.2,hbelow _,.raw _⟩
  |row e s n xs=>
   obtain⟨cs,k1,k2⟩:=hB
   obtain⟨hcl,k1'⟩:=k1
   rcases k1' with⟨hv,_⟩|⟨g,cap,cur,hv,hb0,hg,hnc,hcm,hcs,htake⟩
   ·rw[hv]at hbk;cases hbk
   ·have:b=g:=by rw[hv]at hbk;simp[aY]at hbk;exact hbk.symm
    subst this
    have hle:n*s≤cur.size:=by rw[hcs];exact Nat.mul_le_mul_right _ hnc
    have hxl:xs.length=n*s:=by rw[←k2.1,hcl]
    have hoff':off+ys.length≤n*s:=by rw[←hxl];exact hoff
    have hrun:=go cur e hg (by omega)
    have hlenv:(ρ y).cells.toList.length=ys.length:=h2.1
    have htk:(cur.toList.take off++(ρ y).cells.toList++cur.toList.drop (off+(ρ y).cells.toList.length)).take (n*s)=cs.take off++(ρ y).cells.toList++cs.drop (off+(ρ y).cells.toList.length):=by
     rw[←htake,List.append_assoc,List.take_append,List.take_append,List.take_take,List.length_take,Array.length_toList]
     rw[List.append_assoc,List.take_take,List.drop_take]
     congr 1
     ·congr 1;omega
     ·congr 1
      ·rw[List.take_of_length_le (by rw[hlenv];omega)]
      ·congr 1;rw[hlenv];omega
    have hn:=hS.BA (w':=w.setRow b (cur.toList.take off++(ρ y).cells.toList++cur.toList.drop (off+(ρ y).cells.toList.length)).toArray) (bi':=.row e s n (over xs off ys)) hi hbk (hsize _) (oth _) ⟨cs.take off++(ρ y).cells.toList++cs.drop (off+(ρ y).cells.toList.length),⟨by
      simp only[List.length_append,List.length_take,List.length_drop,hlenv,hcl];omega,.inr ⟨b,cap,_,hv,hb0,setRow_heap w b cur _ e _ hg,hnc,hcm,by
      simp only[List.size_toArray,List.length_append,List.length_take,List.length_drop,Array.length_toList,hlenv];omega,htk⟩⟩,by
     have:=sW k2 h2 off
     have g:cp E w E (w.setRow b (cur.toList.take off++(ρ y).cells.toList++cur.toList.drop (off+(ρ y).cells.toList.length)).toArray):=⟨Nat.le_refl _,fun _ _=>rfl,fun _ _ h=>h,hsize _,fun j hj hM=>oth _ j hj (fun e=>hM (by rw[e];exact hbM))⟩
     exact this.goes g⟩
    exact⟨undef,_,E,.inr ⟨rfl,hrun⟩,hn.1,hn.2,hbelow _,.raw _⟩
  |mp kv=>
   obtain⟨r,es,ck,he,_⟩:=hB
   rcases hat with hat|⟨n,c,hat⟩<;>(rw[hat]at he;cases he)
theorem uF{ty:TypeId}{k:Option Nat}{x y:Operand}{i off:Nat}{p:PV}{blk:cK}{ys:List PV}(ho:o.op= .store ty x y)(hk:sa P ty=some k)(hx:aA t x=some (.ptr i off))(hy:aA t y=some p)(hc:lz p=some ys)(hl:ys.length=k.getD 1)
  (hi:σ[i]? =some (some blk)) (hoff:off+ys.length≤blk.xs.length) [cZ ys]:cM P σ t o (.raw undef) (σ.set i (some (blk.tE (over blk.xs off ys)))):=by
 intro F base E ρ w hρ hS hT
 exact qZ ho hk hx (kH (aq hρ hT hy) hc) hl hi hoff hρ hS hT
theorem cm{ty:TypeId}{x y:Operand}{i off:Nat}{p:PV}{blk:cK}(ho:o.op= .store ty x y)(hk:sa P ty=some none)(hx:aA t x=some (.ptr i off))(hy:aA t y=some p)(hi:σ[i]? =some (some blk))(hoff:off<blk.xs.length)[hone:fJ p]:cM P σ t o (.raw undef) (σ.set i (some (blk.tE (over blk.xs off [p])))):=by
 intro F base E ρ w hρ hS hT
 have hv:=aq hρ hT hy
 have h1:=hone.out E w _ hv
 have hcells:(ρ y).cells= #[ρ y]:=by
  generalize ρ y=v at h1
  cases v<;>first|rfl|cases h1
 have h2:aV E w (ρ y).cells.toList [p]:=by rw[hcells];exact aV.cons hv (aV.nil E w)
 exact qZ ho hk hx (ys:=[p]) h2 rfl hi (by simp;omega) hρ hS hT
theorem pK{F:Nat→Prop}{base:Nat}{E:Env}{w:World}(hS:Sat F base σ E w)(ty:TypeId)(cs:Array Value){xs:List PV}(h:aV E w cs.toList xs):
  Sat F base (σ++[some (.cells ty xs)]) (E.push (.pointer (some ⟨w.heap.size,0,none⟩))) (w.alloc (.cells cs ty))∧cp E w (E.push (.pointer (some ⟨w.heap.size,0,none⟩))) (w.alloc (.cells cs ty))∧Below base w (w.alloc (.cells cs ty))∧
  cu (E.push (.pointer (some ⟨w.heap.size,0,none⟩))) (w.alloc (.cells cs ty)) (.pointer (some ⟨w.heap.size,0,none⟩)) (.ptr σ.length 0):=by
 have hE:Ext w (w.alloc (.cells cs ty)):=(Ext.refl w).alloc _
 have g:=oU (E:=E) (w:=w) (w':=w.alloc (.cells cs ty)) (fun b h _=>hE.block b h) hE.size (v:=.pointer (some ⟨w.heap.size,0,none⟩)) (fun b h=>by simp[aY]at h;exact .inl (by omega))
 have hp:=hS.push hE (v:=.pointer (some ⟨w.heap.size,0,none⟩)) (blk:=.cells ty xs) (fun b h=>by simp[aY]at h;omega) ⟨w.heap.size,cs,rfl,hS.bl,heap_alloc_new w _,h.goes g⟩
 refine⟨hp.1,hp.2,Below.fB hE hS.bl,.ptr σ.length 0 w.heap.size (by simp[Env.push,hS.len]) (.inl ?_)⟩
 simp[Env.push,hS.len]
theorem eV{ty:TypeId}{x:Operand}{p:PV}{xs:List PV}(ho:o.op= .box ty x)(hx:aA t x=some p)(hc:lz p=some xs):cM P σ t o (.ptr σ.length 0) (σ++[some (.cells ty xs)]):=by
 intro F base E ρ w hρ hS hT
 have h:=kH (aq hρ hT hx) hc
 have hr:(execOp ρ o).run P w= .ok (.value (.pointer (some ⟨w.heap.size,0,none⟩))) (w.alloc (.cells (ρ x).cells ty)):=by
  simp[execOp,ho,Instr.box,newVar,newRow]
 obtain⟨a1,a2,a3,a4⟩:=pK hS ty _ h
 exact⟨_,_,_,.inl hr,a1,a2,a3,a4⟩
def xo(P:Program)(ty:TypeId):Option (List Value):=
 match P.info? ty with
 |some i=>match i.zero with
  |some z=>some z.cells.toList
  |none=>none
 |none=>none
theorem Dh{E:Env}{w:World}(cs:List Value):aV E w cs (cs.map .raw):=⟨by simp,fun i x u k1 k2=>by
 simp only[List.getElem?_map,Option.map_eq_some_iff]at k2
 obtain⟨y,hy,rfl⟩:=k2
 rw[hy]at k1;cases k1
 exact .raw _⟩
theorem qx{ty:TypeId}{z:List Value}(ho:o.op= .alloc ty)(hz:xo P ty=some z):cM P σ t o (.ptr σ.length 0) (σ++[some (.cells ty (z.map .raw))]):=by
 intro F base E ρ w hρ hS hT
 unfold xo at hz
 split at hz
 ·rename_i i hi
  split at hz
  ·rename_i z' hz'
   cases hz
   have hr:(execOp ρ o).run P w= .ok (.value (.pointer (some ⟨w.heap.size,0,none⟩))) (w.alloc (.cells z'.cells ty)):=by
    simp[execOp,ho,Instr.alloc,zeroValue,typeInfo,hi,hz',newVar,newRow]
   obtain⟨a1,a2,a3,a4⟩:=pK hS ty z'.cells (Dh (E:=E) (w:=w) z'.cells.toList)
   exact⟨_,_,_,.inl hr,a1,a2,a3,a4⟩
  ·cases hz
 ·cases hz
theorem oG{F:Nat→Prop}{base:Nat}{E:Env}{w w':World}(hS:Sat F base σ E w)(hE:Ext w w'){e s n:Nat}{v:Value}{cs:List Value}{xs:List PV}(hv:∀b,aY v=some b→w.heap.size≤b)(ho:w'.ownsRow base e s v n cs)(hR:aV E w cs xs):
  Sat F base (σ++[some (.row e s n xs)]) (E.push v) w'∧cp E w (E.push v) w'∧Below base w w'∧cu (E.push v) w' v (.own σ.length):=by
 have g:=oU (E:=E) (w:=w) (w':=w') (fun b h _=>hE.block b h) hE.size (v:=v) (fun b h=>.inl (hv b h))
 have hp:=hS.push hE (v:=v) (blk:=.row e s n xs) hv ⟨cs,ho,hR.goes g⟩
 refine⟨hp.1,hp.2,Below.fB hE hS.bl,.own σ.length (by simp[Env.push,hS.len]) v (by simp[Env.push,hS.len]) ?_⟩
 rcases ho.2 with⟨rfl,_⟩|⟨g',cap,cur,rfl,_⟩<;>rfl
def vY(P:Program)(ty:TypeId):Option (TypeId×Nat×Nat×List Value):=
 match P.underlying ty with
 |some (.slice e)=>match P.info? e with
  |some i=>match i.zero with
   |some z=>if z.cells.size=i.size∧0<i.size then some (e,i.size,i.bytes,z.cells.toList) else none
   |none=>none
  |none=>none
 |_=>none
theorem oT{ty e s by':Nat}{z:List Value}(h:vY P ty=some (e,s,by',z)):P.underlying ty=some (.slice e)∧∃i z',P.info? e=some i∧i.size=s∧i.bytes=by'∧i.zero=some z'∧z'.cells.toList=z∧z'.cells.size=s∧0<s:=by
 unfold vY at h
 split at h
 ·rename_i e' hu
  split at h
  ·rename_i i hi
   split at h
   ·rename_i z' hz
    split at h
    ·rename_i hc;cases h;exact⟨hu,i,z',hi,rfl,rfl,hz,rfl,hc.1,hc.2⟩
    ·cases h
   ·cases h
  ·cases h
 ·cases h
theorem da{ty e s by':Nat}{z:List Value}{l c:Operand}{n:Nat}{li ci:Int}{k k':IntKind}(ho:o.op= .makeSlice ty l c)(hk:vY P ty=some (e,s,by',z))(hl:aA t l=some (.raw (.int k li)))(hc:aA t c=some (.raw (.int k' ci)))(hli:li=(n:Int))(hci:ci=(n:Int))(hn:n≤maxLen∧by'*n≤281474976710656):
  cM P σ t o (.own σ.length) (σ++[some (.row e s n (dB (z.map .raw) n))]):=by
 intro F base E ρ w hρ hS hT
 have h1:=aq hρ hT hl
 have h2:=aq hρ hT hc
 generalize hz1:ρ l=v1 at h1
 generalize hz2:ρ c=v2 at h2
 cases h1;cases h2
 subst hli;subst hci
 obtain⟨hu,i,z',hi,hs,hby,hz,hzz,hzs,hpos⟩:=oT hk
 obtain⟨w',hrun,hown,hg⟩:=run_make_full (P:=P) w base ty e i z' s hu hi hz hs k k' n (by rw[hby];exact hn.2) hn.1 hS.bl
 have hr:(execOp ρ o).run P w= .ok (.value (.slice (some ⟨w.heap.size,0,none⟩) n n)) w':=by
  simp only[execOp,ho,hz1,hz2,Sem.run_bind,hrun,Result.andThen_ok,Sem.run_pure]
 have hR:aV E w (madeCells z'.cells (n*s)).toList (dB (z.map .raw) n):=by
  rw[←hzz];exact mO z'.cells n (n*s) (by rw[hzs])
 obtain⟨a1,a2,a3,a4⟩:=oG hS (ox hg) (fun b h=>by simp[aY]at h;omega) hown hR
 exact⟨_,_,_,.inl hr,a1,a2,a3,a4⟩
theorem ES(xs:List PV)(off:Nat)(ys:List PV)(h:off+ys.length≤xs.length):(over xs off ys).length=xs.length:=by
 simp[over];omega
theorem tg{place:Nat→Option (Nat×Nat)}:∀ {ps:List (Nat×List PV)} {xs ys:List PV},lj place xs ps=some ys→ys.length=xs.length
 | [],xs,ys,h=>by simp only[lj,Option.some.injEq]at h;rw[h]
 |(i,q)::ps,xs,ys,h=>by
  simp only[lj]at h
  split at h
  ·cases h
  ·rename_i off size hpl
   rw[Bool.cond_eq_ite]at h
   split at h
   ·rename_i hc
    simp only[Bool.and_eq_true,Nat.beq_eq,Nat.ble_eq]at hc
    rw[tg h,ES _ _ _ (by omega)]
   ·cases h
theorem iP{ty e s n:Nat}{parts:Array (Nat×Operand)}{z:List Value}{ps:List (Nat×List PV)}{xs:List PV}(ho:o.op= .buildSlice ty n parts)(hk:H6 P ty=some (e,s,z))(hn:0<n∧n*s≤16777216)(hp:iM t parts.toList=some ps)
  (hf:lj (fun i=>some (i*s,s)) (dB (z.map .raw) n) ps=some xs):cM P σ t o (.own σ.length) (σ++[some (.row e s n xs)]):=by
 intro F base E ρ w hρ hS hT
 obtain⟨h1,h2⟩:=l7 hρ hT parts.toList ps hp
 obtain⟨hu,i,z',hi,hs,hz,hzz,hzl,hpos⟩:=og hk
 have hzs:z'.cells.size=s:=by rw[←hzl,←hzz];simp
 have hR0:aV E w ((Array.range (n*s)).map (z'.cells[· % z'.cells.size]!)).toList (dB (z.map .raw) n):=by
  rw[←hzz];exact mO z'.cells n (n*s) (by rw[hzs])
 obtain⟨cs,hc,hR⟩:=oD (fun i=>some (i*s,s)) _ ps _ _ xs hR0 h1 h2 hf
 have hns:0<n*s:=Nat.mul_pos hn.1 hpos
 have hrun:=run_buildSlice (P:=P) w ty e n (parts.map fun(i,x)=>(i,ρ x)) cs i z' hu hi hz (by rw[hs];omega) (by rw[hs];omega) (by rw[hs,Array.toList_map];simpa using hc)
 have hr:(execOp ρ o).run P w= .ok (.value (.slice (some ⟨w.heap.size,0,none⟩) n n)) (w.alloc (.cells cs e)):=by
  simp only[execOp,ho,Sem.run_bind,hrun,Result.andThen_ok,Sem.run_pure]
 have hle:n≤n*s:=Nat.le_mul_of_pos_right n hpos
 have hcsz:cs.size=n*s:=by
  have h3:=hR.1
  have h4:=tg hf
  rw[Array.length_toList]at h3
  rw[h3,h4,tm];simp[hzl]
 obtain⟨a1,a2,a3,a4⟩:=oG hS ((Ext.refl w).alloc (.cells cs e)) (fun b h=>by simp[aY]at h;omega) (World.ownsRow_lit (base:=base) (e:=e) (size:=s) w cs n hS.bl (by unfold maxLen;omega) hcsz) hR
 exact⟨_,_,_,.inl hr,a1,a2,a3,a4⟩
end
section
variable {P:Program} {σ:bN} {t:b9} {o:Oper}
theorem oX{w:World}(base:Nat)(t ty e:TypeId)(i:TypeInfo)(z:Value)(size bytes:Nat)(ht:P.underlying t=some (.slice e))(hi:P.info? e=some i)(hz:i.zero=some z)
  (hsize:i.size=size) (hby:i.bytes=bytes) (hzs:z.cells.size=size) (hsz:0<size)
  (v:Value) (n:Nat) (xs:List Value) (hown:w.ownsRow base e size v n xs)
  (a:Addr) (m c:Nat) (news:List Value) (hl:news.length=m*size) (hnews:∀(j:Nat) u,news[j]? =some u→w.cell? (a.add j)=some u) (h1:∀u∈news,u.oneCell'=true)
  (h63:n+m≤maxLen) (hbytes:(n+m)*bytes≤140737488355328) (hbase:base≤w.heap.size):
  ∃v' w',(Builtin.append_ #[t,t] ty #[v,.slice (some a) m c]).run P w= .ok v' w'∧w'.ownsRow base e size v' (n+m) (xs++news)∧w.grownBy w' v.ownBlock∧(v'.ownBlock=v.ownBlock∨v'.ownBlock=some w.heap.size):=by
 obtain⟨v',w',hr,h2,h3,_⟩:=run_append_own (P:=P) w base t ty e i z size bytes ht hi hz hsize hby hzs hsz v n xs hown a m c news hl hnews h1 h63 hbytes hbase
 refine⟨v',w',hr,h2,h3,?_⟩
 subst hsize
 subst hby
 have hsmall:n+m≤9223372036854775807:=by simp only[maxLen]at h63;omega
 rcases hown.2 with⟨rfl,rfl⟩|⟨g,cap,cur,rfl,hbg,hg,hnc,hcm,hcs,htake⟩
 ·by_cases hm:m=0
  ·subst hm
   rcases h2.2 with⟨rfl,_⟩|⟨g',cap',cur',rfl,k1,k2,_⟩
   ·exact .inl rfl
   ·have hn:news=[]:=List.eq_nil_of_length_eq_zero (by simpa using hl)
    subst hn
    have hr':(Builtin.append_ #[t,t] ty #[.slice none 0 0,.slice (some a) 0 c]).run P w= .ok (.slice none 0 0) w:=by
     simp[Builtin.append_,run_underlying ht,sizeOf,typeInfo,hi,Builtin.lenOf,Builtin.firstCells,loadCells,loadCellsFrom]
    rw[hr']at hr
    cases hr
  ·have hr':=run_append_nil (P:=P) w t ty e i z ht hi hz a m c news hl hnews (by omega) (by omega) (by have hb:=hbytes;simp only[Nat.zero_add]at hb;omega)
   rw[hr']at hr
   cases hr
   exact .inr rfl
 ·by_cases hroom:n+m≤cap
  ·have hfit:n*i.size+news.length≤cur.size:=by rw[hl,hcs,←Nat.add_mul];exact Nat.mul_le_mul_right _ hroom
   have hr':=run_append_room (P:=P) w t ty e i ht hi g n cap cur hg a m c news hl hnews h1 hroom hfit
   rw[hr']at hr
   cases hr
   exact .inl rfl
  ·have holds:∀(j:Nat) u,xs[j]? =some u→w.cell? ((⟨g,0,none⟩:Addr).add j)=some u:=hown.cells (g:=g) I
   have hr':=run_append_grow (P:=P) w t ty e i z ht hi hz ⟨g,0,none⟩ n cap xs hown.1 holds a m c news hl hnews (by omega) (by omega) (growslice_fits (by omega) hbytes)
   rw[hr']at hr
   cases hr
   exact .inr rfl
theorem Sat.swap{F:Nat→Prop}{base:Nat}{E:Env}{w w':World}(hS:Sat F base σ E w){i:Nat}{bi blk:cK}(hi:σ[i]? =some (some bi)){v:Value}(hs:w.heap.size≤w'.heap.size)(ho:∀k,k<w.heap.size→aY (E.at_ i)≠some k→w'.heap[k]? =w.heap[k]?)
  (hv:∀b,aY v=some b→aY (E.at_ i)=some b∨w.heap.size≤b) (hb:∀E',cp E w E' w'→fF base E' w' v blk):
  Sat F base (σ.set i none++[some blk]) ((E.kill i).push v) w'∧cp E w ((E.kill i).push v) w':=by
 have hiM:∀b,aY (E.at_ i)=some b→E.M b:=fun b h=>(hS.mm b).2 (.inr ⟨i,bi,hi,h⟩)
 obtain⟨hK,gK⟩:=hS.kill i hi
 have g:cp E w ((E.kill i).push v) w':=by
  refine⟨Nat.le_succ _,fun j hj=>by simp[Env.push,Env.kill,Nat.ne_of_lt hj],fun b hb hM h=>?_,hs,fun b hb hM=>ho b hb (fun e=>hM (hiM b e))⟩
  rcases h with h|h
  ·exact hM h.1
  ·rcases hv b h with h'|h'
   ·exact hM (hiM b h')
   ·omega
 have hlen:(σ.set i none).length=σ.length:=by simp
 have hat:∀j,j<σ.length→((E.kill i).push v).at_ j=E.at_ j:=fun j hj=>g.at_ j (by rw[hS.len];exact hj)
 have hnew:((E.kill i).push v).at_ σ.length=v:=by simp[Env.push,Env.kill,hS.len]
 have split:∀j (b:cK),(σ.set i none++[some blk])[j]? =some (some b)→(j<σ.length∧j≠i∧σ[j]? =some (some b))∨(j=σ.length∧b=blk):=fun j b h=>by
  by_cases hj:j<σ.length
  ·rw[List.getElem?_append_left (by rw[hlen];exact hj)]at h
   obtain⟨h1,h2⟩:=ir h
   exact .inl ⟨hj,h1,h2⟩
  ·rw[List.getElem?_append_right (by rw[hlen];omega),hlen]at h
   have:j - σ.length=0:=by
    rcases Nat.eq_zero_or_pos (j - σ.length)with h'|h'
    ·exact h'
    ·rw[List.getElem?_eq_none (by simp;omega)]at h;cases h
   rw[this]at h
   simp at h
   exact .inr ⟨by omega,h.symm⟩
 have hne:∀j (b:cK) k,σ[j]? =some (some b)→j≠i→aY (E.at_ j)=some k→aY (E.at_ i)≠some k:=fun j b k h1 h2 h3 h4=>h2 (hS.inj j i b bi k h1 hi h3 h4)
 have hapart:∀j (b:cK) k,σ[j]? =some (some b)→j≠i→aY (E.at_ j)=some k→aY v≠some k:=fun j b k h1 h2 h3 h4=>by
  rcases hv k h4 with h'|h'
  ·exact hne j b k h1 h2 h3 h'
  ·have:=((hS.blk j b h1).lt h3).2;omega
 refine⟨⟨Nat.le_trans hS.bl hs,fun b hb'=>⟨Nat.lt_of_lt_of_le (hS.fb b hb').1 hs,fun j bl hj=>?_⟩,by simp[Env.push,Env.kill,hS.len],fun b=>?_,fun j bl hj=>?_,fun j k bj bk b hj hk h1 h2=>?_,hS.gl.goes g⟩,g⟩
 ·rcases split j bl hj with⟨h1,h2,h3⟩|⟨rfl,_⟩
  ·rw[hat j h1];exact(hS.fb b hb').2 j bl h3
  ·rw[hnew];intro h
   rcases hv b h with h'|h'
   ·exact(hS.fb b hb').2 i bi hi h'
   ·have:=(hS.fb b hb').1;omega
 ·constructor
  ·rintro(h|h)
   ·rcases(hS.mm b).1 h.1 with h'|⟨j,bl,h1,h2⟩
    ·exact .inl h'
    ·have hj:j<σ.length:=(List.getElem?_eq_some_iff.1 h1).1
     have hji:i≠j:=fun e=>by rw[←e]at h2;exact h.2 h2
     exact .inr ⟨j,bl,by rw[List.getElem?_append_left (by rw[hlen];exact hj),List.getElem?_set,if_neg hji];exact h1,by rw[hat j hj];exact h2⟩
   ·exact .inr ⟨σ.length,blk,by rw[List.getElem?_append_right (by rw[hlen];exact Nat.le_refl _)];simp,by rw[hnew];exact h⟩
  ·rintro(h|⟨j,bl,h1,h2⟩)
   ·exact .inl ⟨(hS.mm b).2 (.inl h),(hS.fb b h).2 i bi hi⟩
   ·rcases split j bl h1 with⟨h3,h4,h5⟩|⟨rfl,_⟩
    ·rw[hat j h3]at h2
     exact .inl ⟨(hS.mm b).2 (.inr ⟨j,bl,h5,h2⟩),hne j bl b h5 h4 h2⟩
    ·rw[hnew]at h2;exact .inr h2
 ·rcases split j bl hj with⟨h1,h2,h3⟩|⟨rfl,rfl⟩
  ·rw[hat j h1]
   exact(hS.blk j bl h3).goes g (fun b hb=>ho b ((hS.blk j bl h3).lt hb).2 (hne j bl b h3 h2 hb))
  ·rw[hnew];exact hb _ g
 ·rcases split j bj hj with⟨a1,a2,a3⟩|⟨rfl,rfl⟩<;>rcases split k bk hk with⟨c1,c2,c3⟩|⟨rfl,rfl⟩
  ·rw[hat j a1]at h1;rw[hat k c1]at h2;exact hS.inj j k bj bk b a3 c3 h1 h2
  ·rw[hat j a1]at h1;rw[hnew]at h2;exact absurd h2 (hapart j bj b a3 a2 h1)
  ·rw[hnew]at h1;rw[hat k c1]at h2;exact absurd h1 (hapart k bk b c3 c2 h2)
  ·rfl
theorem qb{E:Env}{w:World}{v:Value}{m:Nat}{ys:List PV}(h:cu E w v (.slice m ys)):(v= .slice none 0 0∧m=0∧ys=[])∨∃(a:Addr) (c:Nat) (news:List Value),v= .slice (some a) m c∧(∀(j:Nat) u,news[j]? =some u→w.cell? (a.add j)=some u)∧aV E w news ys:=by
 cases h with
 |cc=>exact .inl ⟨rfl,rfl,rfl⟩
 |empty a c h=>exact .inr ⟨a,c,[],rfl,fun j u hu=>by simp at hu,aV.nil E w⟩
 |slice b off _ c cs _ h0 h1 h2 hb hM hc hl hr=>exact .inr ⟨_,_,cs,rfl,fun j u hu=>by rw[Addr.add_lit];exact hc j u hu,hl,hr⟩
theorem xt{ty e s by' n m i:Nat}{z:List Value}{xs ys:List PV}{x y:Operand}{p:PV}(ho:o.op= .call {callee:=.builtin .append,args:= #[x,y],argTypes:= #[ty,ty]})(hk:vY P ty=some (e,s,by',z))(hx:aA t x=some (.own i))(hi:σ[i]? =some (some (.row e s n xs)))
  (hy:aA t y=some p) (hys:∀F base E w v,Sat F base σ E w→cu E w v p→(v= .slice none 0 0∧m=0∧ys=[])∨∃(a:Addr) (c:Nat) (news:List Value),v= .slice (some a) m c∧(∀(j:Nat) u,news[j]? =some u→w.cell? (a.add j)=some u)∧aV E w news ys) (hl:ys.length=m*s) (hn:n+m≤maxLen∧(n+m)*by'≤140737488355328) [cZ ys]:
  cM P σ t o (.own σ.length) (σ.set i none++[some (.row e s (n+m) (xs++ys))]):=by
 intro F base E ρ w hρ hS hT
 have h1:=aq hρ hT hx
 have h2:=hys F base E w (ρ y) hS (aq hρ hT hy)
 generalize hz1:ρ x=v at h1
 generalize hz2:ρ y=u at h2
 obtain⟨hu,inf,z',hinf,hs,hby,hz,hzz,hzs,hpos⟩:=oT hk
 cases h1 with
 |own _ hiL _ hat hone=>
  obtain⟨cs,k1,k2⟩:=hS.blk i _ hi
  rw[hat]at k1
  have hob:aY (E.at_ i)=v.ownBlock:=by rw[hat];exact fW k1
  have key:∀v' w',(execOp ρ o).run P w= .ok (.value v') w'→∀news,aV E w news ys→w'.ownsRow base e s v' (n+m) (cs++news)→w.grownBy w' v.ownBlock→(v'.ownBlock=v.ownBlock∨v'.ownBlock=some w.heap.size)→
    ∃v w' E',((execOp ρ o).run P w= .ok (.value v) w'∨(v=undef∧(execOp ρ o).run P w= .ok .skip w'))∧Sat F base (σ.set i none++[some (.row e s (n+m) (xs++ys))]) E' w'∧cp E w E' w'∧Below base w w'∧cu E' w' v (.own σ.length):=by
   intro v' w' hr news hnw hown hg hw
   have hv':∀b,aY v'=some b→aY (E.at_ i)=some b∨w.heap.size≤b:=fun b hb=>by
    rw[fW hown]at hb
    rcases hw with h|h
    ·rw[hob,←h];exact .inl hb
    ·rw[h]at hb;cases hb;exact .inr (Nat.le_refl _)
   obtain⟨a1,a2⟩:=hS.swap (w':=w') (blk:=.row e s (n+m) (xs++ys)) hi hg.size (fun k hk hne=>hg.block k hk (by rw[←hob];exact Ne.symm hne)) hv' (fun E' g=>⟨cs++news,hown,(k2.append hnw).goes g⟩)
   refine⟨v',w',_,.inl hr,a1,a2,⟨hg.os,hg.tape,hg.output,hg.size,fun k hk=>hg.block k (Nat.lt_of_lt_of_le hk hS.bl) (fun e=>?_)⟩,.own σ.length (by simp[Env.push,Env.kill,hS.len]) v' (by simp[Env.push,Env.kill,hS.len]) ?_⟩
   ·have:=(k1.lt k e.symm).1;omega
   ·rcases hown.2 with⟨rfl,_⟩|⟨g',cap,cur,rfl,_⟩<;>rfl
  rcases h2 with⟨rfl,rfl,rfl⟩|⟨a,c,news,rfl,hc,hR⟩
  ·have hrun:=run_append_owned_none (P:=P) (w:=w) base ty o.type e inf s hu hinf v n cs k1
   have hr:(execOp ρ o).run P w= .ok (.value v) w:=by
    simp[execOp,ho,resolve,invoke,builtin,hz1,hz2,hrun]
   exact key v w hr [] (aV.nil _ _) (by simpa using k1) ⟨rfl,rfl,rfl,Nat.le_refl _,fun _ _ _=>rfl⟩ (.inl rfl)
  ·obtain⟨v',w',hrun,r1,r2,r3⟩:=oX (P:=P) (w:=w) base ty o.type e inf z' s by' hu hinf hz hs hby hzs hpos v n cs k1 a m c news (by rw[hR.1,hl]) hc hR.uD hn.1 hn.2 hS.bl
   have hr:(execOp ρ o).run P w= .ok (.value v') w':=by
    simp only[execOp,ho,resolve,invoke,builtin,Sem.run_bind,Sem.run_pure,Result.andThen_ok,List.map_toArray,List.map_cons,List.map_nil,hz1,hz2,hrun]
   exact key v' w' hr news hR r1 r2 r3
theorem bC{ty e s by' n m i:Nat}{z:List Value}{xs ys:List PV}{x y:Operand}(ho:o.op= .call {callee:=.builtin .append,args:= #[x,y],argTypes:= #[ty,ty]})(hk:vY P ty=some (e,s,by',z))(hx:aA t x=some (.own i))(hi:σ[i]? =some (some (.row e s n xs)))
  (hy:aA t y=some (.slice m ys)) (hl:ys.length=m*s) (hn:n+m≤maxLen∧(n+m)*by'≤140737488355328) [cZ ys]:
  cM P σ t o (.own σ.length) (σ.set i none++[some (.row e s (n+m) (xs++ys))]):=by
 exact xt ho hk hx hi hy (fun F base E w v _ hv=>qb hv) hl hn
section
variable {N L:Nat} {ops:Array Oper}
theorem DN{F:Nat→Prop}{base:Nat}{E:Env}{w:World}(hS:Sat F base σ E w)(e s:Nat):Sat F base (σ++[some (.row e s 0 [])]) (E.push (.slice none 0 0)) w∧cp E w (E.push (.slice none 0 0)) w∧cu (E.push (.slice none 0 0)) w (.slice none 0 0) (.own σ.length):=by
 obtain⟨a1,a2,_,a4⟩:=oG hS (Ext.refl w) (e:=e) (s:=s) (n:=0) (v:=.slice none 0 0) (cs:=[]) (xs:=[]) (fun b h=>by cases h) (World.ownsRow_nil w base e s) (aV.nil E w)
 exact⟨a1,a2,a4⟩
theorem cG.G2{E:Env}{w:World}{ρ:Operand→Value}{t:b9}(h:cG E w ρ t){k:Nat}{p:PV}(hv:cu E w (ρ (.tmp k)) p):cG E w ρ ((k,p)::t):=fun j q hj=>by
 simp only[look]at hj
 rw[Bool.cond_eq_ite]at hj
 split at hj
 ·rename_i he
  have:=Nat.eq_of_beq_eq_true he
  subst this
  cases hj
  exact hv
 ·exact h j q hj
theorem fM{c:Code}{Q:Exit→St→Prop}(k e s:Nat)(hk:look k t=some (.raw (.slice none 0 0)))(h:W P N L c ⟨(k,.own σ.length)::t,σ++[some (.row e s 0 [])]⟩ Q):W P N L c ⟨t,σ⟩ Q:=fun F base E₀ w₀ E a w hc hs=>by
 obtain⟨a1,a2,a3⟩:=DN hs.sat e s
 have h1:=hs.tmp k _ hk
 generalize hz:a.eval (.tmp k)=z at h1
 cases h1
 exact h F base E₀ w₀ _ a w (hc.on a2 (Below.refl _ _)) ⟨a1,(hs.tmp.goes a2).G2 (by rw[hz];exact a3),hs.jL,hs.size⟩
def fx(t:b9):List Nat→b9
 | []=>[]
 |k::ks=>match look k t with
  |some p=>(k,p)::fx t ks
  |none=>fx t ks
theorem fq:∀(ks:List Nat) (k:Nat) (p:PV),look k (fx t ks)=some p→k∈ks∧look k t=some p
 | [],k,p,h=>by cases h
 |j::ks,k,p,h=>by
  simp only[fx]at h
  split at h
  ·rename_i q hq
   simp only[look]at h
   rw[Bool.cond_eq_ite]at h
   split at h
   ·rename_i he
    have:=Nat.eq_of_beq_eq_true he
    subst this
    cases h
    exact⟨List.mem_cons_self ..,hq⟩
   ·obtain⟨h1,h2⟩:=fq ks k p h
    exact⟨List.mem_cons_of_mem _ h1,h2⟩
  ·obtain⟨h1,h2⟩:=fq ks k p h
   exact⟨List.mem_cons_of_mem _ h1,h2⟩
inductive dM (P:Program) (N:Nat) (ops:Array Oper) (σ:bN):List Oper→b9→b9→Prop
 |nil {t t':b9}:Sub t t'→dM P N ops σ [] t t'
 |val {o:Oper} {rest:List Oper} {t t':b9} {d:Nat} {p:PV} (ks:List Nat):(ks.all fun k=>(o.looksAt ops).contains k)=true→bh P σ (fx t ks) o p→o.dst=some d→dP ops t o=some true→Nat.blt d N=true→dM P N ops σ rest ((d,p)::t) t'→dM P N ops σ (o::rest) t t'
 |skip {o:Oper} {rest:List Oper} {t t':b9} {d:Nat}:o.dst=some d→dP ops t o=some false→Nat.blt d N=true→dM P N ops σ rest ((d,.raw undef)::t) t'→dM P N ops σ (o::rest) t t'
theorem gb{E:Env}{w:World}{ρ:Operand→Value}{b:Bool}(hT:∀k∈o.looksAt ops,∀p,look k t=some p→cu E w (ρ (.tmp k)) p)(h:dP ops t o=some b):kr ops o ρ=b:=by
 unfold dP at h
 unfold kr
 split at h
 ·rename_i hg;(try rw[hg]);cases h;rfl
 ·rename_i j want hg
  (try rw[hg])
  (try simp only)
  split at h
  ·rename_i k hk
   simp only[hk]
   split at h
   ·rename_i b' hb
    have:=hT k (by simp[Oper.looksAt,hg,hk]) _ hb
    generalize ρ (.tmp k)=z at this
    cases this
    split at h
    ·rename_i b'' hb''
     cases h
     simp[hb'']
    ·rename_i hb''
     cases h
     simp[hb'']
   ·cases h
  ·cases h
def qO(E:Env)(w:World)(α:Tmp→db)(t:b9):Prop:=∀k p,look k t=some p→∀v w',Ext w w'→α k v w'→cu E w' v p
theorem qO.put{E:Env}{w:World}{α:Tmp→db}{d:Nat}{p:PV}(h:qO E w α t):qO E w (vQ α (some d) (fun v w'=>cu E w' v p)) ((d,p)::t):=by
 intro k q hk v w' hE hv
 simp only[look]at hk
 rw[Bool.cond_eq_ite]at hk
 split at hk
 ·rename_i he
  have:=Nat.eq_of_beq_eq_true he
  subst this
  cases hk
  rw[jg]at hv
  exact hv
 ·rename_i he
  have hne:k≠d:=fun e=>he (by rw[e];exact Nat.beq_refl d)
  rw[iH _ _ _ _ (fun e h'=>by cases h';exact hne)]at hv
  exact h k q hk v w' hE hv
theorem dM.abs{F:Nat→Prop}{base:Nat}{E:Env}{w:World}{C:World→Prop}(hC:∀w',C w'→Ext w w'∧Sat F base σ E w'){l:List Oper}{t t':b9}(h:dM P N ops σ l t t'){G:(Tmp→db)→Prop}(hG:∀β,qO E w β t'→G β):
  ∀α,qO E w α t→pP P ops C G l α:=by
 induction h with
 |nil hs=>
  intro α hα
  refine hG α fun k p hk v w' hE hv=>?_
  obtain⟨q,h1,h2⟩:=hs k p hk
  exact h2 E w' v (hα k q h1 v w' hE hv)
 | @val o rest t t' d p ks hks hy hd hw hN _ ih=>
  intro α hα
  refine⟨fun v w'=>cu E w' v p,⟨fun v w₁ w₂ hE hv=>hv.ext hE,fun ρ w₁ hρ hw₁ hs=>?_⟩,by rw[hd];exact ih hG _ hα.put⟩
  obtain⟨hE,hS⟩:=hC w₁ hw₁
  have hwant:=gb (ρ:=ρ) (E:=E) (w:=w₁) (fun k hk p hp=>hα k p hp _ w₁ hE (hs k hk)) hw
  unfold uA
  rw[hwant,if_pos rfl]
  refine hy F base E ρ w₁ hρ hS fun k q hk=>?_
  obtain⟨h1,h2⟩:=fq ks k q hk
  refine hα k q h2 _ w₁ hE (hs k ?_)
  have:=List.all_eq_true.1 hks k h1
  simpa using this
 | @skip o rest t t' d hd hw hN _ ih=>
  intro α hα
  refine⟨fun v w'=>cu E w' v (.raw undef),⟨fun v w₁ w₂ hE hv=>hv.ext hE,fun ρ w₁ hρ hw₁ hs=>?_⟩,by rw[hd];exact ih hG _ hα.put⟩
  obtain⟨hE,hS⟩:=hC w₁ hw₁
  have hwant:=gb (ρ:=ρ) (E:=E) (w:=w₁) (fun k hk p hp=>hα k p hp _ w₁ hE (hs k hk)) hw
  unfold uA
  rw[hwant,if_neg Bool.false_ne_true]
  exact .raw _
theorem tJ{α:Tmp→db}{w:World}{k:Array Value→Prop}:∀(D:List Tmp) (arr:Array Value),(∀t∈D,t<arr.size)→
  (∀b:Array Value,b.size=arr.size→(∀t,t∉D→b.getD t undef=arr.getD t undef)→(∀t∈D,α t (b.getD t undef) w)→k b)→AO α w k D arr
 | [],arr,_,h=>h arr rfl (fun _ _=>rfl) (fun t ht=>by cases ht)
 |t::D,arr,hD,h=>by
  intro x hx
  have ht:t<arr.size:=hD t (List.mem_cons_self ..)
  refine tJ D (arr.setIfInBounds t x) (fun s hs=>by simpa using hD s (List.mem_cons_of_mem _ hs)) (fun b hb h1 h2=>h b (by simpa using hb) (fun s hs=>?_) (fun s hs=>?_))
  ·have hst:s≠t:=fun e=>hs (by rw[e];exact List.mem_cons_self ..)
   rw[h1 s (fun h'=>hs (List.mem_cons_of_mem _ h'))]
   simp[Array.getElem?_setIfInBounds_ne (Ne.symm hst)]
  ·by_cases hsD:s∈D
   ·exact h2 s hsD
   ·have:s=t:=by
     rcases List.mem_cons.1 hs with h'|h'
     ·exact h'
     ·exact absurd h' hsD
    subst this
    rw[h1 s hsD]
    simpa[ht]using hx
theorem rz{C:World→Prop}{G G':(Tmp→db)→Prop}(h:∀β,G β→G' β):∀(l:List Oper) (α:Tmp→db),pP P ops C G l α→pP P ops C G' l α
 | [],_,hh=>h _ hh
 |_::l,_,⟨Φ,hy,hk⟩=>⟨Φ,hy,rz h l _ hk⟩
theorem Jb{id:Nat}{l:List Oper}{t t':b9}{σ:bN}{Q:Exit→St→Prop}(D:List Nat)(hm:P.follows .mixedOrders=true)(hB:Region.lexB .any l.toArray=true)(hn:(l.all fun o=>o.dst.all fun e=>decide (e<N)&&D.contains e)=true)(hD:(D.all fun e=>decide (e<N))=true)
  (h:dM P N l.toArray σ l t t') (hq:Q .normal ⟨t',σ⟩):W P N L (.region id l.toArray true) ⟨t,σ⟩ Q:=fun F base E₀ w₀ E a w hc hs=>by
 obtain⟨arr,ds⟩:=a
 have hsz:arr.size=N:=hs.size
 refine sk (fun w'=>Sat F base σ E w') D (fun w₁ w₂ hE h=>h.ext hE) hs.sat hm hB (by rw[hsz];exact hn) ?_
 have hn':∀o∈l,∀e,o.dst=some e→e∈D:=fun o ho e he=>by
  have:=List.all_eq_true.1 hn o ho
  rw[he]at this
  simp at this
  exact this.2
 have h1:=h.abs (E:=E) (w:=w) (F:=F) (base:=base) (C:=fun w'=>Ext w w'∧Sat F base σ E w') (fun w' hw'=>hw') (G:=fun β=>qO E w β t') (fun β hβ=>hβ) (fun t v _=>v=arr.getD t undef) (fun k p hk v w' hE hv=>by
  subst hv
  have:=hs.tmp k p hk
  simpa[Act.eval]using this.ext hE)
 have h2:=mn (D:=D) l _ (fun t v _=>v=arr.getD t undef) (fun _ _=>rfl) hn' h1
 refine rz (fun β hβ=>?_) l _ h2
 obtain⟨hK,hoff⟩:=hβ
 intro w' hE hS'
 refine tJ D arr (fun k hk=>by have:=List.all_eq_true.1 hD k hk;rw[hsz];simpa using this) (fun b hb k1 k2=>?_)
 refine⟨⟨t',σ⟩,E,hq,⟨hS',fun k p hk=>hK k p hk _ w' hE ?_,hs.jL,by rw[←hsz];exact hb⟩,(hc.on (.ext hE) (Below.fB hE hs.sat.bl)).g,(hc.on (.ext hE) (Below.fB hE hs.sat.bl)).b⟩
 have he:(Act.eval ⟨b,ds⟩ (.tmp k))=b.getD k undef:=rfl
 rw[he]
 by_cases hkD:k∈D
 ·exact k2 k hkD
 ·rw[hoff k hkD];exact k1 k hkD
inductive CY (P:Program) (st:St):ResultVar→PV→Prop
 |tmp {k:Nat} {p:PV}:look k st.t=some p→CY P st (.tmp k) p
 |Iu {k i off:Nat} {ty:TypeId} {blk:cK} {p:PV}:look k st.t=some (.ptr i off)→st.σ[i]? =some (some blk)→sa P ty=some none→blk.xs[off]? =some p→CY P st (.cell k ty) p
 |Il {k i off n:Nat} {ty:TypeId} {blk:cK} {ys:List PV}:look k st.t=some (.ptr i off)→st.σ[i]? =some (some blk)→sa P ty=some (some n)→(blk.xs.drop off).take n=ys→ys.length=n→CY P st (.cell k ty) (.agg ys)
inductive aE (P:Program) (st:St):List ResultVar→List PV→Prop
 |nil:aE P st [] []
 |cons {r:ResultVar} {rs:List ResultVar} {p:PV} {ps:List PV}:CY P st r p→aE P st rs ps→aE P st (r::rs) (p::ps)
def FG(tmps:Array Value):ResultVar→Sem Value
 | .tmp t=>pure (tmps.getD t undef)
 | .cell x ty=>do loadVar ty (←asAddr (tmps.getD x undef))
theorem zE(fn:Func)(tmps:Array Value):results fn tmps=(do let vs ←fn.results.mapM (FG tmps);pure (if h:vs.size=1 then vs[0] else .tuple vs)):=by
 unfold results
 congr 1
theorem CY.run{F:Nat→Prop}{base:Nat}{st:St}{E:Env}{a:Act}{w:World}(hs:cY F base N st E a w){r:ResultVar}{p:PV}(h:CY P st r p):
  ∃v,(FG a.tmps r).run P w= .ok v w∧cu E w v p:=by
 cases h with
 |tmp hk=>exact⟨_,rfl,hs.tmp _ _ hk⟩
 | @Iu k i off ty blk p hk hi hty hp=>
  have h1:=hs.tmp _ _ hk
  have he:a.eval (.tmp k)=a.tmps.getD k undef:=rfl
  rw[he]at h1
  simp only[FG]
  generalize a.tmps.getD k undef=z at h1 ⊢
  cases h1 with
  |ptr _ _ b hiL hat=>
   obtain⟨cs,hR,hc⟩:=hs.sat.cells hi hat
   obtain⟨c,hcc,hcr⟩:=hR.get hp
   have:=jH (P:=P) (w:=w) hty (hc off c hcc)
   simp only[Instr.loadAt,Instr.sureAddr,Sem.run_bind,Sem.run_pure,Result.andThen_ok]at this
   exact⟨c,by simp only[asAddr,Sem.run_bind,Sem.run_pure,Result.andThen_ok,this],hcr⟩
 | @Il k i off n ty blk ys hk hi hty hp hn=>
  have h1:=hs.tmp _ _ hk
  have he:a.eval (.tmp k)=a.tmps.getD k undef:=rfl
  rw[he]at h1
  simp only[FG]
  generalize a.tmps.getD k undef=z at h1 ⊢
  cases h1 with
  |ptr _ _ b hiL hat=>
   obtain⟨cs,hR',hc⟩:=hs.sat.cells hi hat
   have hR:aV E w ((cs.drop off).take n) ys:=by rw[←hp];exact(hR'.drop off).take n
   have:=lE (P:=P) (w:=w) (b:=b) (off:=off) (cs:=(cs.drop off).take n) hty (by rw[hR.1,hn]) (fun j x hx=>by
    rw[List.getElem?_take]at hx
    split at hx
    ·rw[List.getElem?_drop]at hx;exact hc _ x hx
    ·cases hx)
   simp only[Instr.loadAt,Instr.sureAddr,Sem.run_bind,Sem.run_pure,Result.andThen_ok]at this
   exact⟨.agg ((cs.drop off).take n).toArray,by simp only[asAddr,Sem.run_bind,Sem.run_pure,Result.andThen_ok,this],.agg _ ys (by simpa using hR.1) (fun i x u h1 h2=>hR.2 i x u (by simpa using h1) h2)⟩
theorem aE.run{F:Nat→Prop}{base:Nat}{st:St}{E:Env}{a:Act}{w:World}(hs:cY F base N st E a w):∀ {rs:List ResultVar} {ps:List PV},aE P st rs ps→
  ∃vs,(rs.mapM (FG a.tmps)).run P w= .ok vs w∧aV E w vs ps
 |_,_,.nil=>⟨[],by simp,aV.nil E w⟩
 |_,_,.cons (r:=r) h hl=>by
  obtain⟨v,h1,h2⟩:=h.run hs
  obtain⟨vs,h3,h4⟩:=aE.run hs hl
  refine⟨v::vs,?_,aV.cons h2 h4⟩
  rw[List.mapM_cons]
  simp only[Sem.run_bind,h1,Result.andThen_ok,h3,Sem.run_pure]
def Ha:List PV→PV
 | [p]=>p
 |ps=>.tuple ps
instance (p:PV) [h:IsPure p]:IsPure (Ha [p]):=h
instance:IsPure (Ha []):=inferInstanceAs (IsPure (.tuple []))
instance (p q:PV) (ps:List PV) [h:aI (p::q::ps)]:IsPure (Ha (p::q::ps)):=inferInstanceAs (IsPure (.tuple (p::q::ps)))
def Cw:Nat→List PV→b9
 |_,[]=>[]
 |i,p::ps=>(i,p)::Cw (i+1) ps
theorem ta:∀(ps:List PV) (i k:Nat) (p:PV),look k (Cw i ps)=some p→i≤k∧ps[k - i]? =some p
 | [],i,k,p,h=>by cases h
 |q::ps,i,k,p,h=>by
  simp only[Cw,look]at h
  rw[Bool.cond_eq_ite]at h
  split at h
  ·rename_i he
   have:=Nat.eq_of_beq_eq_true he
   subst this
   cases h
   exact⟨Nat.le_refl _,by simp⟩
  ·obtain⟨h1,h2⟩:=ta ps (i+1) k p h
   exact⟨by omega,by rw[show k - i=(k - (i+1))+1 by omega];simpa using h2⟩
theorem iW{F:Nat→Prop}{base:Nat}{σ:bN}{E:Env}{w:World}{vs:Array Value}{ps:List PV}(hS:Sat F base σ E w)(hR:aV E w vs.toList ps)(hN:vs.size≤N):cY F base N ⟨Cw 0 ps,σ⟩ E {tmps:=vs++Array.replicate (N - vs.size) undef,defers:=[]} w:=by
 refine⟨hS,fun k p hk=>?_,rfl,by simp;omega⟩
 obtain⟨_,h2⟩:=ta ps 0 k p hk
 rw[Nat.sub_zero]at h2
 obtain⟨c,h3,h4⟩:=hR.get h2
 have hlt:k<vs.size:=by have:=(List.getElem?_eq_some_iff.1 h3).1;simpa using this
 have h3':vs[k]? =some c:=by simpa using h3
 have:Act.eval {tmps:=vs++Array.replicate (N - vs.size) undef,defers:=[]} (.tmp k)=c:=by
  simp only[Act.eval,Array.getD_eq_getD_getElem?]
  rw[Array.getElem?_append_left hlt,h3']
  rfl
 rw[this];exact h4
theorem pU{F:Nat→Prop}{base:Nat}{st:St}{E:Env}{a:Act}{w:World}{fn:Func}{ps:List PV}(hs:cY F base N st E a w)(h:aE P st fn.results.toList ps):∃v,(results fn a.tmps).run P w= .ok v w∧cu E w v (Ha ps):=by
 obtain⟨vs,h1,h2⟩:=aE.run hs h
 have hm:(results fn a.tmps).run P w= .ok (if h:vs.toArray.size=1 then vs.toArray[0] else .tuple vs.toArray) w:=by
  rw[zE,Array.mapM_eq_mapM_toList]
  simp only[Sem.run_bind,Sem.run_map,h1,Result.andThen_ok,Sem.run_pure]
 refine⟨_,hm,?_⟩
 cases vs with
 |nil=>
  have:ps=[]:=List.eq_nil_of_length_eq_zero h2.1.symm
  subst this
  exact .tuple _ _ rfl (fun i x u k1 k2=>by simp at k2)
 |cons v vs=>
  cases ps with
  |nil=>have:=h2.1;simp at this
  |cons p ps=>
   cases vs with
   |nil=>
    have:ps=[]:=List.eq_nil_of_length_eq_zero (by have:=h2.1;simpa using this.symm)
    subst this
    exact h2.Ez.1
   |cons v' vs=>
    cases ps with
    |nil=>have:=h2.1;simp at this
    |cons p' ps=>
     have hne:¬(v::v'::vs).toArray.size=1:=by simp
     rw[dif_neg hne]
     exact .tuple _ _ (by simpa using h2.1) (fun i x u k1 k2=>h2.2 i x u (by simpa using k1) k2)
def Lh(P:Program)(fn:Func)(R:PV→Prop):Exit→St→Prop
 | .normal,st| .ret,st=>∃ps q,aE P st fn.results.toList ps∧aD st.σ (Ha ps) q∧R q
 |_,_=>False
theorem aT{f:FuncId}{fn:Func}{c:Code}{ps:List PV}{R:PV→Prop}(hf:P.funcs[f]? =some fn)(hb:fn.body=some c)(hN:fn.ntmps=N)(hp:Nat.ble ps.length N=true)(h:W P N 0 c ⟨Cw 0 ps,[]⟩ (Lh P fn R)):Can P f ps R:=by
 intro F w vs hF hG hR
 have hvs:vs.size≤N:=by have:=hR.1;rw[Array.length_toList]at this;rw[this];exact Nat.ble_eq.mp hp
 refine calls_of_wp hf hb ?_
 rw[hN]
 refine wp_mono (h F w.heap.size (EF F) w (EF F) _ w ⟨rfl,cp.refl _ _,Below.refl _ _⟩ (iW (Sat.start F w hF hG) hR hvs)) ?_
 rintro e a' w' ⟨st,E',hq,hs,hg,hbl⟩
 have fin:(∃ps q,aE P st fn.results.toList ps∧aD st.σ (Ha ps) q∧R q)→a'.defers=[]∧∃v,(results fn a'.tmps).run P w'= .ok v w'∧K6 (fun v w'=>∃r,R r∧cu (EF F) w' v r) w (.returned v) w':=by
  rintro⟨ps,q,h1,h2,h3⟩
  obtain⟨v,hr,hv⟩:=pU hs h1
  exact⟨hs.jL,v,hr,v,rfl,hbl,q,h3,h2.rep hs.sat (fun b hb=>(hs.sat.mm b).2 (.inl hb)) (fun b hb=>(hs.sat.fb b hb).2) v hv⟩
 cases e with
 |normal=>exact fin hq
 |ret=>exact fin hq
 |exit _=>exact hq.elim
 |goto _=>exact hq.elim
 |panic _=>exact hq.elim
 |outgrown=>exact hq.elim
def KA(P:Program)(fn:Func)(R:PV→bN→Prop):Exit→St→Prop
 | .normal,st| .ret,st=>∃ps,aE P st fn.results.toList ps∧R (Ha ps) st.σ
 |_,_=>False
theorem bO{f:FuncId}{fn:Func}{c:Code}{ps:List PV}{σ:bN}{R:PV→bN→Prop}(hf:P.funcs[f]? =some fn)(hb:fn.body=some c)(hN:fn.ntmps=N)(hp:Nat.ble ps.length N=true)(h:W P N σ.length c ⟨Cw 0 ps,σ⟩ (KA P fn R)):aW P f ps σ R:=by
 intro F base E w vs hS hR
 have hvs:vs.size≤N:=by have:=hR.1;rw[Array.length_toList]at this;rw[this];exact Nat.ble_eq.mp hp
 refine calls_of_wp hf hb ?_
 rw[hN]
 refine wp_mono (h F base E w E _ w ⟨hS.len,cp.refl _ _,Below.refl _ _⟩ (iW hS hR hvs)) ?_
 rintro e a' w' ⟨st,E',hq,hs,hg,hbl⟩
 have fin:(∃ps,aE P st fn.results.toList ps∧R (Ha ps) st.σ)→a'.defers=[]∧∃v,(results fn a'.tmps).run P w'= .ok v w'∧∃v' r σ' E',Ending.returned v= .returned v'∧R r σ'∧Sat F base σ' E' w'∧cp E w E' w'∧Below base w w'∧cu E' w' v' r:=by
  rintro⟨ps,h1,h2⟩
  obtain⟨v,hr,hv⟩:=pU hs h1
  exact⟨hs.jL,v,hr,v,Ha ps,st.σ,E',rfl,h2,hs.sat,hg,hbl,hv⟩
 cases e with
 |normal=>exact fin hq
 |ret=>exact fin hq
 |exit _=>exact hq.elim
 |goto _=>exact hq.elim
 |panic _=>exact hq.elim
 |outgrown=>exact hq.elim
end
end
def jD(ops:Array Oper)(i:Nat):List Nat:=
 match ops[i]? with
 |some o=>(o.after.toList.filter (Region.binds .any)).map (·.on)
 |none=>[]
def de(ops:Array Oper):Nat→Nat→Nat→Bool
 |0,_,_=>false
 |f+1,i,j=>(jD ops i).contains j||(jD ops i).any fun k=>de ops f k j
def yE(ops:Array Oper)(f m:Nat):Bool:=
 (List.range ops.size).all fun i=>((jD ops i).all fun k=>decide (k<i))&&(((ops[i]?).all fun o=>o.guard.all fun g=>decide (g.1<i))&&(decide (i<m)||(List.range i).all fun j=>de ops f i j))
section
variable {P:Program} {ops:Array Oper}
def Down(ops:Array Oper)(ls:Array Bool):Prop:=∀i,ls.getD i true=true→i<ops.size→∀k∈jD ops i,ls.getD k false=true
theorem dD{ls:Array Bool}(hs:ls.size=ops.size)(hd:Down ops ls)(ha:∀i,i<ops.size→∀k∈jD ops i,k<i):∀(f i j:Nat),i<ops.size→de ops f i j=true→(∀k∈jD ops i,ls.getD k false=true)→ls.getD j false=true
 |0,_,_,_,h,_=>by cases h
 |f+1,i,j,hi,h,hk=>by
  simp only[de,Bool.or_eq_true]at h
  rcases h with h|h
  ·exact hk j (by simpa using h)
  ·obtain⟨k,h1,h2⟩:=List.any_eq_true.1 h
   have hki:=ha i hi k h1
   have hk1:=hk k h1
   have hklt:k<ls.size:=by rw[hs];omega
   refine dD hs hd ha f k j (by omega) h2 (hd k ?_ (by omega))
   simp only[Array.getD_eq_getD_getElem?]at hk1 ⊢
   simp[hklt]at hk1 ⊢
   exact hk1
theorem cb{ls:Array Bool}{i:Nat}:i∈Region.ready .any ops ls↔i<ops.size∧ls.getD i true=false∧∀k∈jD ops i,ls.getD k false=true:=by
 unfold Region.ready
 rw[List.mem_filter,List.mem_range]
 constructor
 ·rintro⟨h1,h2⟩
  simp only[Bool.and_eq_true,Bool.not_eq_true']at h2
  refine⟨h1,h2.1,fun k hk=>?_⟩
  have h3:=h2.2
  unfold jD at hk
  cases ho:ops[i]? with
  |none=>rw[ho]at hk;simp at hk
  |some o=>
   rw[ho]at h3 hk
   simp only[Option.map_some,Option.getD_some]at h3
   obtain⟨e,he,rfl⟩:=List.mem_map.1 hk
   obtain⟨he1,he2⟩:=List.mem_filter.1 he
   have:=Array.all_eq_true'.1 h3 e (by simpa using he1)
   simpa[he2]using this
 ·rintro⟨h1,h2,h3⟩
  refine⟨h1,?_⟩
  simp only[Bool.and_eq_true,Bool.not_eq_true']
  refine⟨h2,?_⟩
  have ho:ops[i]? =some ops[i]:=by simp[h1]
  rw[ho]
  simp only[Option.map_some,Option.getD_some]
  apply Array.all_eq_true'.2
  intro e he
  cases hb:Region.binds .any e with
  |false=>rfl
  |true=>
   simp only[Bool.not_true,Bool.false_or]
   refine h3 e.on ?_
   unfold jD
   rw[ho]
   exact List.mem_map.2 ⟨e,List.mem_filter.2 ⟨by simpa using he,hb⟩,rfl⟩
def upto(n k:Nat):Array Bool:=((List.range n).map fun i=>decide (i<k)).toArray
theorem gy(n k i:Nat)(hi:i<n)(b:Bool):(upto n k).getD i b=decide (i<k):=by simp[upto,hi]
theorem xe(n k:Nat):(upto n k).setIfInBounds k true=upto n (k+1):=by
 apply Array.ext
 ·simp[upto]
 ·intro i h1 h2
  simp[upto]at h2
  by_cases e:k=i
  ·subst e;simp[upto]
  ·rw[Array.getElem_setIfInBounds (by simpa[upto]using h2),if_neg e]
   simp[upto];omega
section
variable {f m:Nat} (hB:yE ops f m=true)
include hB
theorem gz:∀i,i<ops.size→∀k∈jD ops i,k<i:=fun i hi k hk=>by
 have:=List.all_eq_true.1 hB i (List.mem_range.2 hi)
 simp only[Bool.and_eq_true]at this
 have:=List.all_eq_true.1 this.1 k hk
 simpa using this
theorem pA:∀i,i<ops.size→m≤i→∀j,j<i→de ops f i j=true:=fun i hi hm j hj=>by
 have:=List.all_eq_true.1 hB i (List.mem_range.2 hi)
 simp only[Bool.and_eq_true,Bool.or_eq_true,decide_eq_true_eq]at this
 rcases this.2.2 with h|h
 ·omega
 ·exact List.all_eq_true.1 h j (List.mem_range.2 hj)
theorem tw:∀(i:Nat) (o:Oper) (j:Nat) (b:Bool),ops[i]? =some o→o.guard=some (j,b)→j<i:=fun i o j b ho hg=>by
 have hi:i<ops.size:=(Array.getElem?_eq_some_iff.1 ho).1
 have:=List.all_eq_true.1 hB i (List.mem_range.2 hi)
 simp only[Bool.and_eq_true]at this
 have h1:=this.2.1
 rw[ho]at h1
 simp only[Option.all_some,hg,decide_eq_true_eq]at h1
 exact h1
theorem rB(k:Nat)(hk:k<ops.size)(hm:m≤k):Region.ready .any ops (upto ops.size k)=[k]:=by
 have hd:Down ops (upto ops.size k):=fun i hi hi' j hj=>by
  have:=gz hB i hi' j hj
  rw[gy _ _ _ hi']at hi
  rw[gy _ _ _ (by omega)]
  simp at hi ⊢;omega
 have key:∀i,i∈Region.ready .any ops (upto ops.size k)↔i=k:=fun i=>by
  rw[cb]
  constructor
  ·rintro⟨h1,h2,h3⟩
   rw[gy _ _ _ h1]at h2
   simp at h2
   rcases Nat.lt_or_ge k i with h|h
   ·have:=dD (by simp[upto]) hd (gz hB) f i k h1 (pA hB i h1 (by omega) k h) h3
    rw[gy _ _ _ hk]at this
    simp at this
   ·omega
  ·rintro rfl
   exact⟨hk,by rw[gy _ _ _ hk];simp,fun j hj=>by
    have:=gz hB i hk j hj
    rw[gy _ _ _ (by omega)];simpa using this⟩
 have hnd:(Region.ready .any ops (upto ops.size k)).Nodup:=List.Pairwise.filter _ List.nodup_range
 generalize Region.ready .any ops (upto ops.size k)=l at*
 match l,key,hnd with
 | [],key,_=>exact absurd ((key k).2 rfl) (by simp)
 | [x],key,_=>rw[(key x).1 (by simp)]
 |x::y::l,key,hnd=>
  have h1:=(key x).1 (by simp)
  have h2:=(key y).1 (by simp)
  subst h1;subst h2
  simp at hnd
omit hB in
theorem sY:Region.ready .any ops (upto ops.size ops.size)=[]:=by
 apply List.eq_nil_iff_forall_not_mem.2
 intro i hi
 obtain⟨h1,h2,_⟩:=cb.1 hi
 rw[gy _ _ _ h1]at h2
 simp at h2;omega
theorem ri{Q:Exit→Act→World→Prop}:∀(r k:Nat) (a:Act) (w:World),k+r=ops.size→m≤k→wpOps P ops Q (List.range' k r) a w→wpAny P .any ops Q r (upto ops.size k) a w
 |0,k,a,w,hk,_,h=>by
  obtain rfl:k=ops.size:=by omega
  exact⟨sY,h⟩
 |r+1,k,a,w,hk,hm,h=>by
  have hr:=rB hB k (by omega) hm
  refine⟨fun h0=>absurd (hr.symm.trans h0) (by simp),fun i hi=>?_⟩
  rw[hr]at hi
  simp at hi
  subst hi
  rw[List.range'_succ,wpOps_cons]at h
  rw[xe]
  exact wpOp_mono (fun a w h=>ri r (i+1) a w (by omega) (by omega) h) h
end
def wg(P:Program)(ops:Array Oper)(Q:Exit→Act→World→Prop)(m r:Nat):Exit→Act→World→Prop
 | .normal,a,w=>wpOps P ops Q (List.range' m r) a w
 |e,a,w=>Q e a w
theorem vq{o:Oper}{a:Act}{w:World}{K K':Act→World→Prop}{Q:Exit→Act→World→Prop}{m r:Nat}(h:∀a w,K a w→K' a w)(hh:o.wp P a w K (wg P ops Q m r)):o.wp P a w K' Q:=by
 unfold Oper.wp at*
 generalize (execOp a.eval o).run P w=x at*
 cases x with
 |ok n w'=>
  cases n<;>simp only[Oper.upon]at hh ⊢ <;>
   first
    |exact h _ _ hh
    |exact Calls.mono hh (fun e w'' he=>by cases e<;>first|exact h _ _ he|exact he)
    |exact Rows.mono hh (fun _ _ he=>h _ _ he)
 |halt x w'=>cases x<;>simp only[Oper.upon]at hh ⊢ <;>exact hh
def bE(ls:Array Bool):Nat→Nat
 |0=>0
 |m+1=>bE ls m+if ls.getD m true then 0 else 1
theorem cI{ls:Array Bool}:∀ {m:Nat},bE ls m=0→∀i,i<m→ls.getD i true=true
 |0,_,i,hi=>by omega
 |m+1,h,i,hi=>by
  simp only[bE]at h
  by_cases e:i=m
  ·subst e
   cases hb:ls.getD i true with
   |true=>rfl
   |false=>rw[hb]at h;simp at h
  ·exact cI (m:=m) (by omega) i (by omega)
theorem ec{ls:Array Bool}:∀ {m:Nat},0<bE ls m→∃i,i<m∧ls.getD i true=false∧∀j,j<i→ls.getD j true=true
 |0,h=>by simp[bE]at h
 |m+1,h=>by
  simp only[bE]at h
  by_cases hp:0<bE ls m
  ·obtain⟨i,h1,h2,h3⟩:=ec hp
   exact⟨i,by omega,h2,h3⟩
  ·refine⟨m,by omega,?_,cI (m:=m) (by omega)⟩
   cases hb:ls.getD m true with
   |true=>rw[hb]at h;simp at h;omega
   |false=>rfl
theorem dV{ls:Array Bool}{i:Nat}(hi:ls.getD i true=false):∀ {m:Nat},i<m→m≤ls.size→bE (ls.setIfInBounds i true) m+1=bE ls m
 |0,h,_=>by omega
 |m+1,h,hs=>by
  simp only[bE]
  by_cases e:i=m
  ·subst e
   have h1:(ls.setIfInBounds i true).getD i true=true:=by simp[show i<ls.size by omega]
   have h2:bE (ls.setIfInBounds i true) i=bE ls i:=by
    have:∀k,k≤i→bE (ls.setIfInBounds i true) k=bE ls k:=by
     intro k
     induction k with
     |zero=>intro _;rfl
     |succ k ih=>
      intro hk
      simp only[bE]
      rw[ih (by omega),Array.getD_eq_getD_getElem?,Array.getD_eq_getD_getElem?,Array.getElem?_setIfInBounds_ne (by omega)]
    exact this i (Nat.le_refl _)
   rw[h1,hi,h2];simp
  ·have h1:(ls.setIfInBounds i true).getD m true=ls.getD m true:=by
    rw[Array.getD_eq_getD_getElem?,Array.getD_eq_getD_getElem?,Array.getElem?_setIfInBounds_ne e]
   rw[h1]
   have:=dV hi (m:=m) (by omega) (by omega)
   omega
theorem xA{f m:Nat}(hB:yE ops f m=true)(hm:m≤ops.size){Q:Exit→Act→World→Prop}:∀(fuel:Nat) (l₁ ls:Array Bool) (a:Act) (w:World),l₁.size=m→ls.size=ops.size→(∀i,i<m→ls.getD i true=l₁.getD i true)→(∀i,m≤i→i<ops.size→ls.getD i true=false)→Down ops ls→bE ls m=fuel→
  wpAny P .any (ops.extract 0 m) (wg P ops Q m (ops.size - m)) fuel l₁ a w→wpAny P .any ops Q (fuel+(ops.size - m)) ls a w:=by
 have hsz:(ops.extract 0 m).size=m:=by simp;omega
 have hget:∀i,i<m→(ops.extract 0 m)[i]? =ops[i]? :=fun i hi=>by rw[Array.getElem?_extract];simp;omega
 have haft:∀i,i<m→jD (ops.extract 0 m) i=jD ops i:=fun i hi=>by unfold jD;rw[hget i hi]
 intro fuel
 induction fuel with
 |zero=>
  intro l₁ ls a w hs1 hs2 hsame hrest hd hu h
  have:ls=upto ops.size m:=by
   apply Array.ext
   ·simp[upto,hs2]
   ·intro i h1 h2
    have hi:i<ops.size:=by omega
    have e:ls.getD i true=(upto ops.size m).getD i true:=by
     rw[gy _ _ _ hi]
     by_cases him:i<m
     ·rw[cI hu i him];simp[him]
     ·rw[hrest i (by omega) hi];simp[him]
    simpa[h1,h2]using e
  rw[this]
  simpa using ri hB (ops.size - m) m a w (by omega) (Nat.le_refl _) h.2
 |succ fuel ih=>
  intro l₁ ls a w hs1 hs2 hsame hrest hd hu h
  have hf:∀b c (i:Nat),i<ops.size→ls.getD i b=ls.getD i c:=fun b c i hi=>by simp[show i<ls.size by omega]
  obtain⟨i0,hi0,hi1,hi2⟩:=ec (ls:=ls) (m:=m) (by omega)
  have hrd:∀i,i∈Region.ready .any ops ls→i<m:=fun i hi=>by
   obtain⟨h1,h2,h3⟩:=cb.1 hi
   rcases Nat.lt_or_ge i m with h'|h'
   ·exact h'
   ·have:=dD hs2 hd (gz hB) f i i0 h1 (pA hB i h1 h' i0 (by omega)) h3
    rw[hf false true i0 (by omega),hi1]at this
    cases this
  have hin:∀i,i∈Region.ready .any ops ls→i∈Region.ready .any (ops.extract 0 m) l₁:=fun i hi=>by
   have him:=hrd i hi
   obtain⟨h1,h2,h3⟩:=cb.1 hi
   refine cb.2 ⟨by omega,by rw[←hsame i him];exact h2,fun k hk=>?_⟩
   rw[haft i him]at hk
   have hki:=gz hB i h1 k hk
   have:=h3 k hk
   rw[hf false true k (by omega),hsame k (by omega)]at this
   simpa[show k<l₁.size by omega]using this
  have hi0r:i0∈Region.ready .any ops ls:=cb.2 ⟨by omega,hi1,fun k hk=>by
   have:=gz hB i0 (by omega) k hk
   rw[hf false true k (by omega)];exact hi2 k this⟩
  rw[show fuel+1+(ops.size - m)=(fuel+(ops.size - m))+1 by omega]
  refine⟨fun h0=>absurd hi0r (by rw[h0];simp),fun i hi=>?_⟩
  have him:=hrd i hi
  obtain⟨h1,h2,h3⟩:=cb.1 hi
  have hstep:=h.2 i (hin i hi)
  have next:∀a w,wpAny P .any (ops.extract 0 m) (wg P ops Q m (ops.size - m)) fuel (l₁.setIfInBounds i true) a w→wpAny P .any ops Q (fuel+(ops.size - m)) (ls.setIfInBounds i true) a w:=fun a w hh=>by
   refine ih _ _ a w (by simpa using hs1) (by simpa using hs2) (fun j hj=>?_) (fun j hj hj'=>?_) (fun j hj hj' k hk=>?_) (by have:=dV h2 him (by omega);omega) hh
   ·by_cases e:i=j
    ·subst e;simp[show i<ls.size by omega,show i<l₁.size by omega]
    ·have:=hsame j hj
     simp only[Array.getD_eq_getD_getElem?,Array.getElem?_setIfInBounds_ne e]at this ⊢
     exact this
   ·have:=hrest j hj hj'
    simp only[Array.getD_eq_getD_getElem?,Array.getElem?_setIfInBounds_ne (show i≠j by omega)]at this ⊢
    exact this
   ·by_cases e:i=j
    ·subst e
     have hki:=gz hB i h1 k hk
     have:=h3 k hk
     simp only[Array.getD_eq_getD_getElem?,Array.getElem?_setIfInBounds_ne (show i≠k by omega)]at this ⊢
     exact this
    ·have hj2:ls.getD j true=true:=by
      simp only[Array.getD_eq_getD_getElem?,Array.getElem?_setIfInBounds_ne e]at hj ⊢
      exact hj
     have:=hd j hj2 hj' k hk
     by_cases e2:i=k
     ·subst e2;simp[show i<ls.size by omega]
     ·simp only[Array.getD_eq_getD_getElem?,Array.getElem?_setIfInBounds_ne e2]at this ⊢
      exact this
  unfold wpOp at hstep ⊢
  rw[hget i him]at hstep
  have ho:ops[i]? =some ops[i]:=by simp[h1]
  rw[ho]at hstep ⊢
  simp only at hstep ⊢
  have hy:Region.wanted ops[i] (yielded (ops.extract 0 m) a.tmps)=Region.wanted ops[i] (yielded ops a.tmps):=by
   unfold Region.wanted
   cases hg:(ops[i]).guard with
   |none=>rfl
   |some g=>
    obtain⟨j,wt⟩:=g
    have:=tw hB i ops[i] j wt ho hg
    simp only[yielded]
    rw[hget j (by omega)]
  rw[hy]at hstep
  split
  ·rename_i hw
   rw[if_pos hw]at hstep
   rcases hstep with hh|⟨hh,a0,w0,hq⟩
   ·exact .inl (vq next hh)
   ·exact .inr ⟨hh,a0,w0,hq⟩
  ·rename_i hw
   rw[if_neg hw]at hstep
   exact next _ _ hstep
theorem eT(n i:Nat)(h:i<n)(b:Bool):(Array.replicate n false).getD i b=false:=by simp[h]
theorem tT{N:Nat}{l:List Oper}{t t':b9}{σ:bN}{F:Nat→Prop}{base:Nat}{E:Env}{arr:Array Value}{ds:List Deferred}{w:World}{Q:Exit→Act→World→Prop}(hs:cY F base N ⟨t,σ⟩ E ⟨arr,ds⟩ w)(D:List Nat)(hB:Region.lexB .any l.toArray=true)
  (hn:(l.all fun o=>o.dst.all fun e=>decide (e<N)&&D.contains e)=true) (h:dM P N l.toArray σ l t t') (hq:∀b w',Ext w w'→cY F base N ⟨t',σ⟩ E ⟨b,ds⟩ w'→Q .normal ⟨b,ds⟩ w'):
  wpAny P .any l.toArray Q l.length (Array.replicate l.length false) ⟨arr,ds⟩ {w with drawn:=w.drawn+1}:=by
 have hsz:arr.size=N:=hs.size
 have hn':∀o∈l,∀e,o.dst=some e→e<arr.size∧e∈D:=fun o ho e he=>by
  have:=List.all_eq_true.1 hn o ho
  rw[he]at this
  simp at this
  rw[hsz];exact this
 have h1:=h.abs (E:=E) (w:=w) (F:=F) (base:=base) (C:=fun w'=>Ext w w'∧Sat F base σ E w') (fun w' hw'=>hw') (G:=fun β=>qO E w β t') (fun β hβ=>hβ) (fun t v _=>v=arr.getD t undef) (fun k p hk v w' hE hv=>by
  subst hv
  have:=hs.tmp k p hk
  simpa[Act.eval]using this.ext hE)
 have h2:=mn (D:=D) l _ (fun t v _=>v=arr.getD t undef) (fun _ _=>rfl) (fun o ho e he=>(hn' o ho e he).2) h1
 simp only[Region.lexB,Bool.and_eq_true]at hB
 have h3:=ny (md:=.any) (ops:=l.toArray) l 0 (Array.replicate l.toArray.size false) _ (by simp) (by simpa using hB.2) h2
 have hE:Ext w {w with drawn:=w.drawn+1}:=⟨rfl,rfl,rfl,Nat.le_refl _,fun _ _=>rfl⟩
 have h4:=kT (P:=P) (ops:=l.toArray) (md:=.any) (n:=arr.size) (d:=ds) (Q:=Q) (C:=fun w'=>Ext w w'∧Sat F base σ E w') (fun w₁ w₂ h12 h13=>⟨h12.1.trans h13,h12.2.ext h13⟩)
  (fun i o ho e he=>(hn' o (by simpa using Array.mem_of_getElem? ho) e he).1) (fun β a w' hw' hs' hF=>?_) l.length _ _ ⟨arr,ds⟩ {w with drawn:=w.drawn+1} (fun t=>xV _) ⟨hE,hs.sat.ext hE⟩ ⟨fun t=>rfl,rfl,rfl⟩ h3
 ·simpa using h4
 ·obtain⟨hK,hoff⟩:=hF
  obtain⟨hs1,hs2,hs3⟩:=hs'
  obtain⟨b,dd⟩:=a
  simp only at hs2 hs3
  subst hs2
  exact hq b w' hw'.1 ⟨hw'.2,fun k p hk=>hK k p hk _ w' hw'.1 (hs1 k),hs.jL,by rw[←hsz];exact hs3⟩
theorem mD{N L:Nat}{id:Nat}{l:List Oper}{t t':b9}{σ:bN}{Q:Exit→St→Prop}(m f:Nat)(D:List Nat)(hm:P.follows .mixedOrders=true)(hB:Region.lexB .any (l.take m).toArray=true)
    (hn:((l.take m).all fun o=>o.dst.all fun e=>decide (e<N)&&D.contains e)=true) (hbar:yE l.toArray f m=true) (hml:Nat.ble m l.length=true)
    (h:dM P N (l.take m).toArray σ (l.take m) t t') (hw:WR P N L l.toArray (l.drop m) ⟨t',σ⟩ (fun s=>Q .normal s)):W P N L (.region id l.toArray true) ⟨t,σ⟩ Q:=fun F base E₀ w₀ E a w hc hs=>by
  obtain⟨arr,ds⟩:=a
  have hmle:m≤l.length:=Nat.ble_eq.mp hml
  have hlt:(l.take m).length=m:=by simp;omega
  refine wp_region_any hm ?_
  have hfr:=tT (Q:=wg P l.toArray (fun e a' w'=>mQ F base N E₀ w₀ (Q e) a' w') m (l.toArray.size - m)) hs D hB hn h (fun b w' hE hs'=>by
    have:=hw F base E₀ w₀ E ⟨b,ds⟩ w' (hc.on (.ext hE) (Below.fB hE hs.sat.bl)) hs' (fun e a' w'=>mQ F base N E₀ w₀ (Q e) a' w') m (fun a' w' hp=>hp) (fun j=>by simp)
    simpa[wg]using this)
  have he:l.toArray.extract 0 m=(l.take m).toArray:=by simp
  have := xA (P := P) hbar (by simpa using hmle) (Q := fun e a' w' => mQ F base N E₀ w₀ (Q e) a' w') m (Array.replicate m false) (Array.replicate l.toArray.size false) ⟨arr, ds⟩ { w with drawn := w.drawn + 1 } (by simp) (by simp) (fun i hi => by rw [eT _ _ hi, eT _ _ (by simp; omega)]) (fun i _ hi => eT _ _ hi _) (fun i hi hi' => by
      have:(Array.replicate l.toArray.size false).getD i true=false:=eT _ _ hi' _
      rw[this]at hi;cases hi) (by
      have:∀k,k≤l.length→bE (Array.replicate l.toArray.size false) k=k:=by
        intro k
        induction k with
        |zero=>intro _;rfl
        |succ k ih=>
          intro hk
          simp only[bE]
          rw[ih (by omega)]
          have:(Array.replicate l.toArray.size false).getD k true=false:=eT _ _ (by simp;omega) _
          rw[this];simp
      exact this m hmle) (by rw[he];rw[hlt]at hfr;exact hfr)
  rw[show m+(l.toArray.size - m)=l.toArray.size by simp;omega]at this
  exact this
theorem Ib{N L:Nat}{id:Nat}{l:List Oper}{y:Code}{t t':b9}{σ:bN}{Q:Exit→St→Prop}(m f:Nat)(D:List Nat)(hm:P.follows .mixedOrders=true)(hB:Region.lexB .any (l.take m).toArray=true)
  (hn:((l.take m).all fun o=>o.dst.all fun e=>decide (e<N)&&D.contains e)=true) (hbar:yE l.toArray f m=true) (hml:Nat.ble m l.length=true)
  (h:dM P N (l.take m).toArray σ (l.take m) t t') (hw:WR P N L l.toArray (l.drop m) ⟨t',σ⟩ (fun s=>W P N L y s Q)):W P N L (.seq (.region id l.toArray true) y) ⟨t,σ⟩ Q:=an (mD m f D hm hB hn hbar hml h hw)
end
section
variable {P:Program} {σ:bN} {t:b9} {o:Oper}
theorem oL{ty e s e' n h i:Nat}{x hi':Operand}{xs:List PV}{k:IntKind}{hii:Int}(ho:o.op= .slice ty x none (some hi') none)(he:yq P ty=some (e,s))(hx:aA t x=some (.own i))(hi:σ[i]? =some (some (.row e' s n xs)))(hhi:aA t hi'=some (.raw (.int k hii)))(hli:hii=(h:Int))(hl:h≤n):
  cM P σ t o (.own σ.length) (σ.set i none++[some (.row e' s h (xs.take (h*s)))]):=by
 intro F base E ρ w hρ hS hT
 have h1:=aq hρ hT hx
 have h2:=aq hρ hT hhi
 obtain⟨hu,inf,hinf,hs⟩:=gE he
 generalize hz:ρ x=v at h1
 generalize hz':ρ hi'=u at h2
 cases h2
 subst hli
 cases h1 with
 |own _ hiL _ hat hone=>
  obtain⟨cs,k1,k2⟩:=hS.blk i _ hi
  rw[hat]at k1
  have hob:aY (E.at_ i)=v.ownBlock:=by rw[hat];exact fW k1
  have key:∀v',(execOp ρ o).run P w= .ok (.value v') w→w.ownsRow base e' s v' h (cs.take (h*s))→v'.ownBlock=v.ownBlock→v'.oneCell'=true→
    ∃v w' E',((execOp ρ o).run P w= .ok (.value v) w'∨(v=undef∧(execOp ρ o).run P w= .ok .skip w'))∧Sat F base (σ.set i none++[some (.row e' s h (xs.take (h*s)))]) E' w'∧cp E w E' w'∧Below base w w'∧cu E' w' v (.own σ.length):=by
   intro v' hr hown hw hone'
   obtain⟨a1,a2⟩:=hS.swap (w':=w) (blk:=.row e' s h (xs.take (h*s))) hi (Nat.le_refl _) (fun k hk hne=>rfl) (v:=v') (fun b hb=>by
    rw[fW hown]at hb
    rw[hob,←hw];exact .inl hb) (fun E' g=>⟨_,hown,(k2.take (h*s)).goes g⟩)
   exact⟨v',w,_,.inl hr,a1,a2,Below.refl _ _,.own σ.length (by simp[Env.push,Env.kill,hS.len]) v' (by simp[Env.push,Env.kill,hS.len]) hone'⟩
  have hcl:=k1.1
  rcases k1.2 with⟨rfl,h0⟩|⟨g,cap,cur,rfl,hb,hg,hnc,hcm,hcs,htk⟩
  ·subst h0
   obtain rfl:h=0:=by omega
   have hr:(execOp ρ o).run P w= .ok (.value (.slice none 0 0)) w:=by
    simp[execOp,ho,hz,hz',Instr.sliceAt,run_underlying hu,Instr.slice,Instr.sliceBounds,Instr.sliceBound,asIntOf,sizeOf,typeInfo,hinf]
   exact key _ hr (by simpa using World.ownsRow_nil w base e' s) I I
  ·have hr:(execOp ρ o).run P w= .ok (.value (.slice (some ⟨g,0,none⟩) h cap)) w:=by
    have:h≤cap:=by omega
    simp[execOp,ho,hz,hz',Instr.sliceAt,run_underlying hu,Instr.slice,Instr.sliceBounds,Instr.sliceBound,asIntOf,this,sizeOf,typeInfo,hinf,Addr.add]
   refine key _ hr ⟨?_,.inr ⟨g,cap,cur,rfl,hb,hg,by omega,hcm,hcs,?_⟩⟩ rfl rfl
   ·rw[List.length_take,hcl];exact Nat.min_eq_left (Nat.mul_le_mul_right _ hl)
   ·rw[←htk,List.take_take,Nat.min_eq_left (Nat.mul_le_mul_right _ hl)]
theorem fu{ty e s:Nat}{z:List Value}(ho:o.op= .buildSlice ty 0 #[])(hk:H6 P ty=some (e,s,z)):cM P σ t o (.own σ.length) (σ++[some (.row e s 0 [])]):=by
 intro F base E ρ w hρ hS hT
 obtain⟨hu,i,z',hi,hs,hz,hzz,hzl,hpos⟩:=og hk
 have hrun:(Instr.buildSlice ty 0 #[]).run P w= .ok (.slice (some ⟨w.heap.size,0,none⟩) 0 0) (w.alloc (.cells #[] e)):=by
  have:Array.map (fun _:Nat=>(default:Value)) (Array.range 0)= #[]:=by simp[Array.range]
  simp[Instr.buildSlice,run_underlying hu,sizeOf,typeInfo,hi,Instr.fill,newRow,this]
 have hr:(execOp ρ o).run P w= .ok (.value (.slice (some ⟨w.heap.size,0,none⟩) 0 0)) (w.alloc (.cells #[] e)):=by
  simp only[execOp,ho,Sem.run_bind,List.map_toArray,List.map_nil,hrun,Result.andThen_ok,Sem.run_pure]
 obtain⟨a1,a2,a3,a4⟩:=oG hS ((Ext.refl w).alloc (.cells #[] e)) (fun b h=>by simp[aY]at h;omega) (World.ownsRow_lit (base:=base) (e:=e) (size:=s) w #[] 0 hS.bl (Nat.zero_le _) (by simp)) (aV.nil E w)
 exact⟨_,_,_,.inl hr,a1,a2,a3,a4⟩
end
section
variable {P:Program} {σ:bN} {t:b9} {o:Oper}
def ph(P:Program)(ty:TypeId):Bool:=match P.underlying ty with|some (.pointer _)=>true|_=>false
theorem mc{ty:TypeId}(h:ph P ty=true)(a:Addr)(w:World):(Op.equal ty (.pointer (some a)) (.pointer none)).run P w= .ok false w:=by
 unfold ph at h
 split at h
 ·rename_i e hu
  have key:∀d,(Op.equalIn (d+1) ty (.pointer (some a)) (.pointer none)).run P w= .ok false w:=fun d=>by
   simp only[Op.equalIn,Sem.run_bind,run_underlying hu,Result.andThen_ok,Sem.run_pure]
  exact key 9999
 ·cases h
theorem qV{x y:Operand}{ty tz:TypeId}{i k:Nat}(ho:o.op= .binOp .eql ty x y tz)(hk:ph P ty=true)(hx:aA t x=some (.ptr i k))(hy:aA t y=some (.raw (.pointer none))):bh P σ t o (.raw (.bool false)):=by
 intro F base E ρ w hρ _ hT
 have h1:=aq hρ hT hx
 have h2:=aq hρ hT hy
 generalize hz:ρ x=z at h1
 generalize hz':ρ y=z' at h2
 cases h2
 cases h1 with
 |ptr _ _ b hi h=>
  simp only[execOp,ho,hz,hz',Sem.run_bind,eqGuard,binOp,mc hk,Result.andThen_ok,Sem.run_pure]
  exact bd (.raw _)
theorem EX{x y:Operand}{ty tz:TypeId}{xs:List PV}{k:Nat}(ho:o.op= .binOp .eql ty x y tz)(hk:ph P ty=true)(hx:aA t x=some (.bg xs k))(hy:aA t y=some (.raw (.pointer none))):bh P σ t o (.raw (.bool false)):=by
 intro F base E ρ w hρ _ hT
 have h1:=aq hρ hT hx
 have h2:=aq hρ hT hy
 generalize hz:ρ x=z at h1
 generalize hz':ρ y=z' at h2
 cases h2
 cases h1 with
 |bg b o' _ cs _ hb hM hc hl hr=>
  simp only[execOp,ho,hz,hz',Sem.run_bind,eqGuard,binOp,mc hk,Result.andThen_ok,Sem.run_pure]
  exact bd (.raw _)
theorem FT{x y:Operand}{ty tz:TypeId}{i k:Nat}(ho:o.op= .binOp .neq ty x y tz)(hk:ph P ty=true)(hx:aA t x=some (.ptr i k))(hy:aA t y=some (.raw (.pointer none))):bh P σ t o (.raw (.bool true)):=by
 intro F base E ρ w hρ _ hT
 have h1:=aq hρ hT hx
 have h2:=aq hρ hT hy
 generalize hz:ρ x=z at h1
 generalize hz':ρ y=z' at h2
 cases h2
 cases h1 with
 |ptr _ _ b hi h=>
  simp only[execOp,ho,hz,hz',Sem.run_bind,eqGuard,binOp,mc hk,Result.andThen_ok,Sem.run_pure]
  exact bd (.raw _)
def ug(P:Program)(ty:TypeId):Bool:=match P.underlying ty with|some .bool=>true|_=>false
theorem rN{ty:TypeId}(h:ug P ty=true)(a b:Bool)(w:World):(Op.equal ty (.bool a) (.bool b)).run P w= .ok (a==b) w:=by
 unfold ug at h
 split at h
 ·rename_i hu
  have key:∀d,(Op.equalIn (d+1) ty (.bool a) (.bool b)).run P w= .ok (a==b) w:=fun d=>by
   simp only[Op.equalIn,Sem.run_bind,run_underlying hu,Result.andThen_ok,Sem.run_pure]
  exact key 9999
 ·cases h
theorem CQ{x y:Operand}{ty tz:TypeId}{a b q:Bool}(ho:o.op= .binOp .eql ty x y tz)(hk:ug P ty=true)(hx:aA t x=some (.raw (.bool a)))(hy:aA t y=some (.raw (.bool b)))(hq:(a==b)=q):bh P σ t o (.raw (.bool q)):=by
 refine wR ho hx hy fun w=>?_
 simp[eqGuard,binOp,rN hk,hq]
theorem CH{x y:Operand}{ty tz:TypeId}{a b q:Bool}(ho:o.op= .binOp .neq ty x y tz)(hk:ug P ty=true)(hx:aA t x=some (.raw (.bool a)))(hy:aA t y=some (.raw (.bool b)))(hq:(!(a==b))=q):bh P σ t o (.raw (.bool q)):=by
 refine wR ho hx hy fun w=>?_
 simp[eqGuard,binOp,rN hk,hq]
end
def Env.ej(E:Env)(vs:List Value):Env:=⟨E.L+vs.length,fun i=>if i<E.L then E.at_ i else vs.getD (i - E.L) undef,fun b=>E.M b∨∃v∈vs,aY v=some b⟩
theorem Sat.ej{F:Nat→Prop}{base:Nat}{σ:bN}{E:Env}{w w':World}(hS:Sat F base σ E w)(hE:Ext w w')(vs:List Value)(bs:List cK)(hl:vs.length=bs.length)(hv:∀v∈vs,∀b,aY v=some b→w.heap.size≤b)
  (hd:∀(i j:Nat) u v b,vs[i]? =some u→vs[j]? =some v→aY u=some b→aY v=some b→i=j) (hb:∀(i:Nat) v blk,vs[i]? =some v→bs[i]? =some blk→fF base (E.ej vs) w' v blk):
  Sat F base (σ++bs.map some) (E.ej vs) w'∧cp E w (E.ej vs) w':=by
 have g:cp E w (E.ej vs) w':=⟨Nat.le_add_right _ _,fun i hi=>by simp[Env.ej,hi],fun b hb hM h=>by
  rcases h with h|⟨v,h1,h2⟩
  ·exact hM h
  ·have:=hv v h1 b h2;omega,hE.size,fun b h _=>hE.block b h⟩
 have hat:∀i,i<σ.length→(E.ej vs).at_ i=E.at_ i:=fun i hi=>g.at_ i (by rw[hS.len];exact hi)
 have hnew:∀(j:Nat) v,vs[j]? =some v→(E.ej vs).at_ (σ.length+j)=v:=fun j v hj=>by
  simp only[Env.ej,hS.len]
  rw[if_neg (by omega),Nat.add_sub_cancel_left,List.getD_eq_getElem?_getD,hj]
  rfl
 have split:∀i (b:cK),(σ++bs.map some)[i]? =some (some b)→(i<σ.length∧σ[i]? =some (some b))∨(∃j v,i=σ.length+j∧bs[j]? =some b∧vs[j]? =some v):=fun i b h=>by
  by_cases hi:i<σ.length
  ·rw[List.getElem?_append_left hi]at h;exact .inl ⟨hi,h⟩
  ·rw[List.getElem?_append_right (by omega),List.getElem?_map,Option.map_eq_some_iff]at h
   obtain⟨b',h1,h2⟩:=h
   cases h2
   have hj:i - σ.length<vs.length:=by rw[hl];exact(List.getElem?_eq_some_iff.1 h1).1
   exact .inr ⟨i - σ.length,vs[i - σ.length],by omega,h1,by simp[hj]⟩
 refine⟨⟨Nat.le_trans hS.bl hE.size,fun b hb'=>⟨Nat.lt_of_lt_of_le (hS.fb b hb').1 hE.size,fun i bl hi=>?_⟩,by simp[Env.ej,hS.len,hl],fun b=>?_,fun i bl hi=>?_,fun i j bi bj b hi hj hbi hbj=>?_,hS.gl.goes g⟩,g⟩
 ·rcases split i bl hi with⟨h1,h2⟩|⟨j,v,rfl,h2,h3⟩
  ·rw[hat i h1];exact(hS.fb b hb').2 i bl h2
  ·rw[hnew j v h3];intro h
   have:=hv v (List.mem_of_getElem? h3) b h;have:=(hS.fb b hb').1;omega
 ·constructor
  ·rintro(h|⟨v,h1,h2⟩)
   ·rcases(hS.mm b).1 h with h|⟨i,bl,h1,h2⟩
    ·exact .inl h
    ·have hi:i<σ.length:=(List.getElem?_eq_some_iff.1 h1).1
     exact .inr ⟨i,bl,by rw[List.getElem?_append_left hi];exact h1,by rw[hat i hi];exact h2⟩
   ·obtain⟨j,hj⟩:=List.getElem?_of_mem h1
    have hjb:j<bs.length:=by rw[←hl];exact(List.getElem?_eq_some_iff.1 hj).1
    exact .inr ⟨σ.length+j,bs[j],by rw[List.getElem?_append_right (by omega)];simp[hjb],by rw[hnew j v hj];exact h2⟩
  ·rintro(h|⟨i,bl,h1,h2⟩)
   ·exact .inl ((hS.mm b).2 (.inl h))
   ·rcases split i bl h1 with⟨h3,h4⟩|⟨j,v,rfl,h4,h5⟩
    ·rw[hat i h3]at h2;exact .inl ((hS.mm b).2 (.inr ⟨i,bl,h4,h2⟩))
    ·rw[hnew j v h5]at h2;exact .inr ⟨v,List.mem_of_getElem? h5,h2⟩
 ·rcases split i bl hi with⟨h1,h2⟩|⟨j,v,rfl,h2,h3⟩
  ·rw[hat i h1]
   exact(hS.blk i bl h2).goes g (fun b hb=>hE.block b ((hS.blk i bl h2).lt hb).2)
  ·rw[hnew j v h3];exact hb j v bl h3 h2
 ·rcases split i bi hi with⟨h1,h2⟩|⟨k,v,rfl,h2,h3⟩<;>rcases split j bj hj with⟨h4,h5⟩|⟨k',v',rfl,h5,h6⟩
  ·rw[hat i h1]at hbi;rw[hat j h4]at hbj;exact hS.inj i j bi bj b h2 h5 hbi hbj
  ·rw[hat i h1]at hbi;rw[hnew k' v' h6]at hbj
   have:=((hS.blk i bi h2).lt hbi).2;have:=hv v' (List.mem_of_getElem? h6) b hbj;omega
  ·rw[hnew k v h3]at hbi;rw[hat j h4]at hbj
   have:=((hS.blk j bj h5).lt hbj).2;have:=hv v (List.mem_of_getElem? h3) b hbi;omega
  ·rw[hnew k v h3]at hbi;rw[hnew k' v' h6]at hbj
   rw[hd k k' v v' b h3 h6 hbi hbj]
end
end PW
end Go.Proofs.YteikppbedmmdnaaGreatDoor
