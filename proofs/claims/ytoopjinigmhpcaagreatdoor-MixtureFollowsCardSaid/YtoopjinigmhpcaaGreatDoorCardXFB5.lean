/- Part 5. -/
import Derived.MapKept
import Derived.Scope
import Derived.Lib.SliceRun
import Derived.ChangeKeysEq
import Derived.WideShapes
import Derived.Test.YtoopjinigmhpcaaGreatDoorCardXFB4
set_option maxRecDepth 100000
set_option maxHeartbeats 4000000
namespace Go.Proofs.YtoopjinigmhpcaaGreatDoor
open Go.Proofs.Tryz
namespace PW
section
open Go.RowKit cG Mem
structure jK (P:Program) (kt:TypeId) {κ:Type} [DecidableEq κ] (enc:κ->Value):Prop where
 p6:∀e a w,(Instr.checkKey e 10000 kt (enc a)).run P w= .ok () w
 eql:∀a b w,(Op.equal kt (enc a) (enc b)).run P w= .ok (decide (a=b)) w
 now:∃d,P.underlying kt=some d/\((∀a b,Instr.sameNow d (enc a) (enc b)=some (decide (a=b)))\/∀a b,Instr.sameNow d (enc a) (enc b)=none)
 bits:∀a,Instr.sameBits 10000 (enc a) (enc a)=true
section
variable {P:Program} {kt:TypeId} {κ:Type} [DecidableEq κ] {enc:κ->Value}
def ic(k:κ):List κ->Nat->Option Nat
 | [],_=>none
 |a::l,i=>if k=a then some i else ic k l (i+1)
theorem kN{k:κ}:∀ {l:List κ} {i j:Nat},ic k l i=some j->i<=j/\l[j - i]? =some k
 | [],i,j,h=>by cases h
 |a::l,i,j,h=>by
  simp only[ic]at h;split at h
  ·rename_i he;cases h;subst he;simp
  ·obtain⟨h1,h2⟩:=kN h;refine⟨by omega,?_⟩;rw[show j - i=(j - (i+1))+1 by omega];simpa using h2
theorem AJ{d}(hn:∀a b,Instr.sameNow d (enc a) (enc b)=some (decide (a=b)))(k:κ):∀(ks:List κ) (c:List MapEntry) (i:Nat),c.map (·.key)=ks.map enc->
  Instr.findNow d (enc k) c i=some ((ic k ks i).bind λj=>(c[j - i]?).map λe=>(j,e.val))
 | [],[],i,_=>rfl
 | [],_::_,i,h=>by simp at h
 |_::_,[],i,h=>by simp at h
 |a::ks,e::c,i,h=>by
  simp only[R7,Tx]at h;simp only[Instr.findNow,h.1,hn,ic];by_cases hk:k=a
  ·rw[Rb hk,QY hk];simp
  ·rw[Rg hk,QZ hk];simp only[AJ hn k ks c (i+1) h.2];congr 1;cases f:ic k ks (i+1)with
   |none=>rfl
   |some j=>
    obtain⟨h1,_⟩:=kN f;simp only[R5];rw[show j - i=(j - (i+1))+1 by omega];simp
theorem zG(hk:jK P kt enc)(k:κ)(w:World):∀(ks:List κ) (c:List MapEntry) (i:Nat),c.map (·.key)=ks.map enc->
  (Instr.findAsking kt (enc k) c i).run P w= .ok ((ic k ks i).bind λj=>(c[j - i]?).map λe=>(j,e.val)) w
 | [],[],i,_=>rfl
 | [],_::_,i,h=>by simp at h
 |_::_,[],i,h=>by simp at h
 |a::ks,e::c,i,h=>by
  simp only[R7,Tx]at h;simp only[Instr.findAsking,Sem.run_bind,h.1,hk.eql,Result.andThen_ok,ic];by_cases b:k=a
  ·rw[QY (by simpa using b),QY b];simp
  ·rw[QZ (by simpa using b),QZ b,zG hk k w ks c (i+1) h.2];congr 1;cases d:ic k ks (i+1)with
   |none=>rfl
   |some j=>
    obtain⟨h1,_⟩:=kN d;simp only[R5];rw[show j - i=(j - (i+1))+1 by omega];simp
theorem Bd(hk:jK P kt enc)(k:κ)(w:World)(ks:List κ)(b:List MapEntry)(h:b.map (·.key)=ks.map enc):(Instr.findKey kt (enc k) b).run P w= .ok ((ic k ks 0).bind λj=>(b[j]?).map λe=>(j,e.val)) w:=by
 obtain⟨d,hd,hn|hn⟩:=hk.now
 ·have:=AJ hn k ks b 0 h;simp only[Instr.findKey,Sem.run_bind,run_underlying hd,Result.andThen_ok,this];simp
 ·have c:=zG hk k w ks b 0 h;simp only[Instr.findKey,Sem.run_bind,run_underlying hd,Result.andThen_ok];cases b with
  |nil=>
   have:ks=[]:=by cases ks with|nil=>rfl|cons=>simp at h
   subst this
   rfl
  |cons e b=>
   cases ks with
   |nil=>simp at h
   |cons a ks=>
    simp only[R7,Tx]at h;have h0:Instr.findNow d (enc k) (e::b) 0=none:=by simp only[Instr.findNow,h.1,hn]
    rw[h0];simpa using c
def gW(enc:κ->Value)(l:List (κ×PV)):List (Value×PV):=l.map λx=>(enc x.1,x.2)
def ei(k:κ):List (κ×PV)->Option PV
 | []=>none
 |(a,p)::l=>if k=a then some p else ei k l
def jR(k:κ)(p:PV):List (κ×PV)->List (κ×PV)
 | []=>[(k,p)]
 |(a,q)::l=>if k=a then(a,p)::l else(a,q)::jR k p l
theorem Cs{k}{l:List (κ×PV)}:ei k l=(ic k (l.map (·.1)) 0).bind λj=>(l[j]?).map (·.2):=by
 suffices h:∀(i:Nat),ei k l=(ic k (l.map (·.1)) i).bind λj=>(l[j - i]?).map (·.2) by simpa using h 0
 induction l with
 |nil=>intro i;rfl
 |cons x l c=>
  intro i;obtain⟨a,p⟩:=x;simp only[ei,R7,ic];split
  ·simp
  ·rw[c (i+1)];cases b:ic k (l.map (·.1)) (i+1)with
   |none=>rfl
   |some j=>
    obtain⟨h1,_⟩:=kN b;simp only[R5];rw[show j - i=(j - (i+1))+1 by omega];simp
theorem Gt{k p}{l:List (κ×PV)}:jR k p l=match ic k (l.map (·.1)) 0 with|some j=>l.set j (k,p)|none=>l++[(k,p)]:=by
 suffices h:∀(i:Nat),jR k p l=match ic k (l.map (·.1)) i with|some j=>l.set (j - i) (k,p)|none=>l++[(k,p)] by simpa using h 0
 induction l with
 |nil=>intro i;rfl
 |cons x l c=>
  intro i;obtain⟨a,q⟩:=x;simp only[jR,R7,ic];split
  ·rename_i he;subst he;simp
  ·rw[c (i+1)];cases b:ic k (l.map (·.1)) (i+1)with
   |none=>rfl
   |some j=>
    obtain⟨h1,_⟩:=kN b;simp only;rw[show j - i=(j - (i+1))+1 by omega];simp
theorem uG{k:κ}{p:PV}{l:List (κ×PV)}{x:κ×PV}(h:x∈jR k p l):x=(k,p)\/x∈l:=by
 induction l with
 |nil=>simpa[jR]using h
 |cons y l b=>
  obtain⟨a,q⟩:=y;simp only[jR]at h;split at h
  ·rename_i he;subst he;cases h with
   |head=>exact .inl rfl
   |tail _ h=>exact .inr (RU _ h)
  ·cases h with
   |head=>exact .inr (R1 ..)
   |tail _ h=>
    rcases b h with h|h
    ·exact .inl h
    ·exact .inr (RU _ h)
theorem kq{k:κ}{p:PV}{l:List (κ×PV)}(h:ei k l=some p):(k,p)∈l:=by
 induction l with
 |nil=>cases h
 |cons y l b=>
  obtain⟨a,q⟩:=y;simp only[ei]at h;split at h
  ·rename_i he;subst he;cases h;exact R1 ..
  ·exact RU _ (b h)
def zy(p:PV)(v:Value):Prop:=∀E w u,cZ E w u p->u=v
theorem rD(v:Value):zy (.raw v) v:=λ_ _ _ h=>by cases h;rfl
theorem s9(a b:Value):zy (.agg [.raw a,.raw b]) (.agg #[a,b]):=λE w u h=>by
 cases h with
 |agg cs _ hl hr=>
  obtain⟨l⟩:=cs
  match l,hl,hr with
  | [x,y],_,hr=>
   have h0:=hr 0 x _ rfl rfl;have h1:=hr 1 y _ rfl rfl;cases h0;cases h1;rfl
  | [],hl,_=>simp at hl
  | [_],hl,_=>simp at hl
  |_::_::_::_,hl,_=>simp at hl
def yJ(P:Program)(mt:TypeId):Option (TypeId×TypeId):=match P.underlying mt with|some (.map k e)=>some (k,e)|_=>none
theorem oH{mt kt a}(h:yJ P mt=some (kt,a)):P.underlying mt=some (.map kt a):=by
 unfold yJ at h;split at h
 ·rename_i hu;cases h;exact hu
 ·cases h
def M5(P:Program)(t:TypeId):Option Value:=match P.info? t with|some i=>i.zero|none=>none
theorem Jk{a z}(h:M5 P a=some z)(w:World):(zeroValue a).run P w= .ok z w:=by
 unfold M5 at h;split at h
 ·rename_i i hi;simp[zeroValue,typeInfo,hi,h]
 ·cases h
variable {σ:ca} {t:cq} {o:Oper}
theorem wP(p:jK P kt enc){F:Nat->Prop}{base:Nat}{E w}{i mt x:Nat}{l v z}(A:Sat F base σ E w)(hm:yJ P mt=some (kt,x))(C:M5 P x=some z)(hv:cZ E w v (.own i))(hi:σ[i]? =some (some (.mp (gW enc l))))(k:κ)(ok:Bool):
  ∃u,(Instr.lookup mt v (enc k) ok).run P w= .ok (if ok then .tuple #[u,.bool (ei k l).isSome] else u) w/\cZ E w u ((ei k l).getD (.raw z)):=by
 cases hv with
 |own _ B _ q _=>
  obtain⟨r,n,ck,hr,hb,b,m,d⟩:=A.blk i _ hi;rw[q]at hr;subst hr;have c:n.toList.map (·.key)=(l.map (·.1)).map enc:=by rw[m];simp[gW]
  have f:=Bd p k w (l.map (·.1)) n.toList c;have s:(gW enc l).map (·.2)=l.map (·.2):=by simp[gW]
  rw[s]at d;have a:=Cs (k:=k) (l:=l);cases e:ic k (l.map (·.1)) 0 with
  |none=>
   rw[e]at f a;simp only[Option.bind_none]at f a;refine⟨z,?_,by rw[a];exact .raw z⟩;simp only[Instr.lookup,Sem.run_bind,run_underlying (oH hm),Result.andThen_ok,MapKept.run_getObj_map b,Sem.run_pure,p.p6,f,Jk C,a]
   rfl
  |some j=>
   obtain⟨_,y⟩:=kN e;simp only[Uz]at y;have h:j<l.length:=by have:=(QT.1 y).1;simpa using this
   have g:j<n.toList.length:=by have:=Sc List.length c;simp at this;rw[RS];omega
   rw[e]at f a;simp only[R5,QX g,QX h,SU]at f a;refine⟨n.toList[j].val,?_,?_⟩
   ·simp only[Instr.lookup,Sem.run_bind,run_underlying (oH hm),Result.andThen_ok,MapKept.run_getObj_map b,Sem.run_pure,p.p6,f,a]
    rfl
   ·rw[a];exact d.2 j _ _ (by rw[RE,QX g];rfl) (by simp[h])
theorem zr(e:jK P kt enc){i mt b:Nat}{x d l z k pk r}(h:o.op= .lookup mt x d false)(hm:yJ P mt=some (kt,b))(j:M5 P b=some z)(hx:aH t x=some (.own i))(hi:σ[i]? =some (some (.mp (gW enc l))))(hp:aH t d=some pk)(hk:zy pk (enc k))(hr:(ei k l).getD (.raw z)=r):bE P σ t o r:=by
 intro F base E ρ w a g c;have h1:=aD a c hx;have h2:=hk _ _ _ (aD a c hp);obtain⟨u,hu,f⟩:=wP e g hm j h1 hi k false;simp only[execOp,h,h2,Sem.run_bind,hu,Result.andThen_ok,Sem.run_pure,SX,TW];exact bI (by rw[<-hr];exact f)
theorem En(g:jK P kt enc){i mt d:Nat}{x f l z k pk r q}(m:o.op= .lookup mt x f true)(hm:yJ P mt=some (kt,d))(s:M5 P d=some z)(hx:aH t x=some (.own i))(hi:σ[i]? =some (some (.mp (gW enc l))))(hp:aH t f=some pk)(hk:zy pk (enc k))(hr:(ei k l).getD (.raw z)=r)(n:(ei k l).isSome=q):bE P σ t o (.tuple [r,.raw (.bool q)]):=by
 intro F base E ρ w b j e;have h1:=aD b e hx;have h2:=hk _ _ _ (aD b e hp);obtain⟨u,hu,h⟩:=wP g j hm s h1 hi k true;simp only[execOp,m,h2,Sem.run_bind,hu,Result.andThen_ok,Sem.run_pure,Sw];refine bI (.tuple #[u,.bool (ei k l).isSome] _ rfl λi x p c a=>?_)
 match i,c,a with
 |0,c,a=>cases c;cases a;rw[<-hr];exact h
 |1,c,a=>cases c;cases a;rw[n];exact .raw _
 |_+2,_,a=>simp at a
theorem qI{α:Type}(a:Array α)(i j:Nat)(v:α):(a.setIfInBounds i v)[j]? =if i=j/\i<a.size then some v else a[j]? :=by
 rw[Array.getElem?_setIfInBounds];by_cases h:i=j
 ·subst h;by_cases h2:i<a.size
  ·simp[h2]
  ·simp[h2]
 ·simp[h]
theorem qj(O:jK P kt enc){i mt et:Nat}{x ix y l k pk p}(ho:o.op= .mapUpdate mt x ix y)(hm:yJ P mt=some (kt,et))(hx:aH t x=some (.own i))(hi:σ[i]? =some (some (.mp (gW enc l))))(hp:aH t ix=some pk)(hk:zy pk (enc k))(hy:aH t y=some p):
  cK P σ t o (.raw undef) (σ.set i (some (.mp (gW enc (jR k p l))))):=by
 intro F base E ρ w D Q R;have h1:=aD D R hx;have h2:=hk _ _ _ (aD D R hp);have Z:=aD D R hy;generalize hz:ρ x=v at h1;cases h1 with
 |own _ aa _ J _=>
  obtain⟨r,u,ck,hr,hb,b,M,s⟩:=Q.blk i _ hi;have K:bL (E.at_ i)=some r:=by rw[hr];rfl
  have W:r<w.heap.size:=(Rw.1 b).1;rw[J]at hr;subst hr;have c:u.toList.map (·.key)=(l.map (·.1)).map enc:=by rw[M];simp[gW]
  have H:=Bd O k w (l.map (·.1)) u.toList c;have Y:(gW enc l).map (·.2)=l.map (·.2):=by simp[gW]
  rw[Y]at s;have fin:∀(d:Array MapEntry) (f:Nat),(Instr.mapUpdate mt (.map (some r)) (enc k) (ρ y)).run P w= .ok () {w with heap:=w.heap.setIfInBounds r (.map d f)}->
    d.toList.map (·.key)=(jR k p l).map (λa=>enc a.1)->bp E w (d.toList.map (·.val)) ((jR k p l).map (·.2))->
    ∃v w' E',((execOp ρ o).run P w= .ok (.value v) w'\/(v=undef/\(execOp ρ o).run P w= .ok .skip w'))/\Sat F base (σ.set i (some (.mp (gW enc (jR k p l))))) E' w'/\de E w E' w'/\Below base w w'/\cZ E' w' v (.raw undef):=λd f N S X=>by
   have G:∀j,j<w.heap.size->j≠r->({w with heap:=w.heap.setIfInBounds r (.map d f)}:World).heap[j]? =w.heap[j]? :=λj _ z=>by
    show(w.heap.setIfInBounds r (.map d f))[j]? =_;rw[qI,QZ (by rintro⟨rfl,_⟩;exact z rfl)]
   have C:w.heap.size<=({w with heap:=w.heap.setIfInBounds r (.map d f)}:World).heap.size:=by simp
   have V:E.M r:=(Q.mm r).2 (.inr ⟨i,_,hi,K⟩);have g:de E w E {w with heap:=w.heap.setIfInBounds r (.map d f)}:=⟨Rc _,λ_ _=>rfl,λ_ _ h=>h,C,λj z hM=>G j z (λe=>hM (by rw[e];exact V))⟩;have hn:=Q.JF (bi':=.mp (gW enc (jR k p l))) hi K C G ⟨r,d,f,J,hb,by
     show(w.heap.setIfInBounds r (.map d f))[r]? =_;rw[qI,QY ⟨rfl,W⟩],by rw[S];simp[gW],by
     have:(gW enc (jR k p l)).map (·.2)=(jR k p l).map (·.2):=by simp[gW]
     rw[this];exact X.goes g⟩
   refine⟨undef,_,E,.inr ⟨rfl,?_⟩,hn.1,hn.2,⟨rfl,rfl,rfl,C,λj z=>G j (RH z Q.bl) (by omega)⟩,.raw _⟩;simp only[execOp,ho,hz,h2,Sem.run_bind,N,Result.andThen_ok,Sem.run_pure]
  have m:=Gt (k:=k) (p:=p) (l:=l);cases A:ic k (l.map (·.1)) 0 with
  |none=>
   rw[A]at H m;simp only[Option.bind_none]at H m;refine fin (u.push {key:=enc k,val:=ρ y,born:=ck}) (ck+1) ?_ ?_ ?_
   ·simp only[Instr.mapUpdate,Sem.run_bind,run_underlying (oH hm),Result.andThen_ok,MapKept.run_getObj_map b,O.p6,H,MapKept.run_setObj_map _ b]
   ·rw[m];simp[c,UU,UH]
   ·rw[m];simp only[Array.toList_push,Sm,R7,So];exact s.append (SL Z (TQ _ _))
  |some j=>
   obtain⟨_,z⟩:=kN A;simp only[Uz]at z;have L:j<l.length:=by have:=(QT.1 z).1;simpa using this
   have B:j<u.toList.length:=by have:=Sc List.length c;simp at this;rw[RS];omega
   have q:j<u.size:=by simpa using B
   have U:l[j].1=k:=by have:=QT.1 z;obtain⟨h,e⟩:=this;simpa using e
   have T:u[j].key=enc k:=by
    have:=Sc (·[j]?) c;simp only[RE,QX B,QX L,SU,SF,U]at this;simpa using this
   rw[A]at H m;simp only[R5,QX B,SU]at H m;refine fin (u.modify j λe=> {e with key:=enc k,val:=ρ y}) ck ?_ ?_ ?_
   ·have hks:(Instr.keyThatStays ((Option.map (λx=>x.key) u[j]?).getD (enc k)) (enc k)).run P w= .ok (enc k) w:=by
     rw[Array.getElem?_eq_getElem q,SU,SM,T];simp only[Instr.keyThatStays,O.bits,Sw,Sem.run_pure]
    simp only[Instr.mapUpdate,Sem.run_bind,run_underlying (oH hm),Result.andThen_ok,MapKept.run_getObj_map b,O.p6,H,hks,MapKept.run_setObj_map _ b]
   ·rw[m];refine Sp λn=>?_;simp only[RE,Uk,Ul,Rh];by_cases hn:j=n
    ·subst hn;simp[q,L]
    ·have:=Sc (·[n]?) c;simp only[RE,Uk]at this;simp only[QZ hn,this,Option.map_map,UH]
   ·rw[m];have hR:=s.set j Z;have e1:(u.modify j λe=> {e with key:=enc k,val:=ρ y}).toList.map (·.val)=(u.toList.map (·.val)).set j (ρ y):=by
     refine Sp λn=>?_;simp only[RE,Uk,Ul,Rh];by_cases hn:j=n
     ·subst hn;simp[q]
     ·simp only[QZ hn]
    have e2:(l.set j (k,p)).map (·.2)=(l.map (·.2)).set j p:=by rw[List.map_set]
    rw[e1,e2];exact hR
omit [DecidableEq κ] in
theorem rE{mt}(enc:κ->Value)(d:o.op= .makeMap mt none):cK P σ t o (.own σ.length) (σ++[some (.mp (gW enc ([]:List (κ×PV))))]):=by
 intro F base E ρ w e a f;have hr:(execOp ρ o).run P w= .ok (.value (.map (some w.heap.size))) (w.alloc (.map #[] 0)):=by
  simp[execOp,d,Instr.makeMap]
 have c:Ext w (w.alloc (.map #[] 0)):=(Tc w).alloc _;have hp:=a.push c (v:=.map (some w.heap.size)) (blk:=.mp (gW enc ([]:List (κ×PV)))) (λb h=>by simp[bL]at h;omega) ⟨w.heap.size,#[],0,rfl,a.bl,heap_alloc_new _ _,rfl,TQ _ _⟩;exact⟨_,_,_,.inl hr,hp.1,hp.2,Ti c a.bl,.own σ.length (by simp[Env.push,a.len]) _ (by simp[Env.push,a.len]) I⟩
end
section
variable {P:Program} {σ:ca} {t:cq} {o:Oper} {N L:Nat}
def PT(Q:Exit->St->Prop):Exit->St->Prop
 | .goto _,_=>False
 |e,s=>Q e s
theorem Dm{c st}{Q:Exit->St->Prop}(h:W P N L c st (PT Q)):W P N L (.scope c) st Q:=λF base E₀ w₀ E a w hc hs=>by
 refine wp_scope_straight (wp_mono (h F base E₀ w₀ E a w hc hs) ?_);rintro e b w' ⟨s,E',h1,h2⟩;cases e with
 |goto l=>exact h1.elim
 |normal=>exact⟨s,E',h1,h2⟩
 |exit _=>exact⟨s,E',h1,h2⟩
 |ret=>exact⟨s,E',h1,h2⟩
 |panic _=>exact⟨s,E',h1,h2⟩
 |outgrown=>exact⟨s,E',h1,h2⟩
theorem Dl{l:Nat}{st}{Q:Exit->St->Prop}(h:Q .normal st):W P N L (.label l) st Q:=λ_ _ _ _ E _ _ hc hs=>wp_label ⟨st,E,h,hs,hc.g,hc.b⟩
theorem xi{x}{k:Nat}{xs p}(g:o.op= .extract x k)(hx:aH t x=some (.tuple xs))(hp:xs[k]? =some p):np P t o p:=λE ρ w e f=>by
 have h1:=aD e f hx;generalize h:ρ x=z at h1;cases h1 with
 |tuple cs _ hl hr=>
  obtain⟨c,b,d⟩:=bp.get (E:=E) (w:=w) (cs:=cs.toList) ⟨by simpa using hl,λi x u h1 h2=>hr i x u (by simpa using h1) h2⟩ hp;have a:cs[k]? =some c:=by simpa using b
  exact⟨c,λw'=>by simp only[execOp,g,h,Instr.extract,a,Sem.run_bind,Sem.run_pure,Result.andThen_ok],d⟩
theorem sL{x y:Operand}{e:Array TypeId}{a b c:Int}(i:o.op= .call {callee:=.builtin .min,args:= #[x,y],argTypes:=e})(hx:aH t x=some (.raw (.int .i64 a)))(hy:aH t y=some (.raw (.int .i64 b)))(hc:min a b=c):bE P σ t o (.raw (.int .i64 c)):=by
 intro F base E ρ w d _ g;have h1:=aD d g hx;have h2:=aD d g hy;generalize j:ρ x=z at h1;generalize f:ρ y=k at h2;cases h1;cases h2;have he:(if b<a then b else a)=c:=by rw[<-hc];by_cases h:b<a<;>simp[h]<;>omega
 simp[execOp,i,resolve,invoke,builtin,Builtin.min_,Builtin.min2,j,f,he];exact bI (.raw _)
def Bk(P:Program)(ty:TypeId):Bool:=match P.underlying ty with|some (.slice _)=>true|_=>false
theorem rR{ty}(h:Bk P ty=true):∃e,P.underlying ty=some (.slice e):=by
 unfold Bk at h;split at h
 ·rename_i e hu;exact⟨e,hu⟩
 ·cases h
theorem Mj{x y ty h}(g:o.op= .binOp .eql ty x y h)(hk:Bk P ty=true)(hx:aH t x=some (.raw (.slice none 0 0)))(hy:aH t y=some (.raw (.slice none 0 0))):bE P σ t o (.raw (.bool true)):=by
 obtain⟨e,hu⟩:=rR hk;refine By g hx hy λw=>?_;have:=Lib.run_eql_slice_nil w ty e none 0 0 0 0 hu;have f:∀a n c b m d,(eqGuard .eql ty x y (.slice a n c) (.slice b m d)).run P w= .ok () w:=λ_ _ _ _ _ _=>rfl;simp only[Sem.run_bind,f,Result.andThen_ok,this]
 rfl
theorem oh{x y ty l}{n:Nat}{xs}(j:o.op= .binOp .eql ty x y l)(hk:Bk P ty=true)(hx:aH t x=some (.slice n xs))(hy:aH t y=some (.raw (.slice none 0 0)))(hn:0<n):bE P σ t o (.raw (.bool false)):=by
 obtain⟨e,hu⟩:=rR hk;intro F base E ρ w f _ h;have h1:=aD f h hx;have h2:=aD f h hy;generalize k:ρ x=z at h1;generalize g:ρ y=p at h2;cases h2;have hv:∃a c,z= .slice (some a) n c:=by
  cases h1 with
  |bH=>omega
  |empty=>omega
  |slice b off _ c cs _ h0=>exact⟨_,_,rfl⟩
 obtain⟨a,c,rfl⟩:=hv;have:=Lib.run_eql_slice_nil w ty e (some a) n c 0 0 hu;have i:∀a n c b m d,(eqGuard .eql ty x y (.slice a n c) (.slice b m d)).run P w= .ok () w:=λ_ _ _ _ _ _=>rfl;simp only[execOp,j,k,g,Sem.run_bind,Sem.run_pure,Result.andThen_ok,i,this];exact bI (.raw _)
end
open Net
theorem bM.kQ{P f ps σ}{R:PV->Prop}(h:Can P f ps R)[aP ps]:bM P f ps σ (λr σ'=>R r/\σ'=σ):=λF base E w vs a d=>by
 refine(h E.M w vs (λb hb=>a.lt hb) a.gl (d.pure (λ_ h=>h))).mono ?_;rintro e w' ⟨v,rfl,c,r,hr,hv⟩;exact⟨v,r,σ,E,rfl,⟨hr,rfl⟩,a.ext c,.ext c,Ti c a.bl,hv.back⟩
abbrev U3:=@bM.kQ
section
variable {T:ak} {D:List Bool} {d:Nat}
structure xW (T:ak) (D:List Bool) (d:Nat) (O:List Int):Prop where
 nodup:O.Nodup
 mem:∀x,x∈O↔∃k:Nat,x=(k:Int)/\(k:Int)<T.nodes/\0<=dN T D d k
 pair:O.Pairwise λx y=>dN T D d y.toNat<=dN T D d x.toNat
theorem xW.of(hv:av T=true)(hd:(d:Int)<T.nodes){O:List Int}(h1:O.Perm (rC (bJ T D d false) (bJ T D d false).length))(h2:O.Pairwise (wk (bJ T D d false))):xW T D d O:=by
 obtain⟨c,_⟩:=dD (D:=D) hv (dir:=false) hd;refine⟨h1.nodup_iff.2 (Ci _ _),λx=>?_,h2.imp λ{x y} h=>?_⟩
 ·rw[h1.mem_iff,Am];constructor
  ·rintro⟨k,e,b,a⟩;exact⟨k,e,by omega,a⟩
  ·rintro⟨k,e,b,a⟩;exact⟨k,e,by omega,a⟩
 ·unfold wk at h;show(bJ T D d false).getD _ 0<=(bJ T D d false).getD _ 0;omega
noncomputable def jT(T:ak)(D:List Bool)(d:Nat)(c:Int)(l:List Int):Int:=l.foldl (λc a=>min 2 (c+eA T D d (aN T a.toNat).toNat)) c
structure pg (T:ak) (D:List Bool) (d:Nat) (R cs:List Int) (i:Nat):Prop where
 len:(cs.length:Int)=T.nodes
 val:∀m:Nat,(m:Int)<T.nodes->cs.getD m 0=if m=d then 1 else if(m:Int)∈R.take i then eA T D d m else 0
theorem pg.start(hd:(d:Int)<T.nodes)(R:List Int):pg T D d R ((List.replicate T.nodes.toNat 0).set d 1) 0:=by
 refine⟨by simp;omega,λm hm=>?_⟩;rw[QU,Rh];by_cases h:d=m
 ·subst h;rw[QY rfl,QY (by simp;omega),QY rfl];rfl
 ·rw[QZ h,QZ (λe=>h e.symm),Sn,QY (by omega)];rfl
theorem pg.next(hv:av T=true)(hd:(d:Int)<T.nodes){O cs:List Int}{i m a y:Nat}(o:xW T D d O)(h:pg T D d O.reverse cs i)(hi:i<O.reverse.length)(hm:O.reverse.getD i 0=(m:Int))(p:(a:Int)∈bu T D m d)(hy:aN T a=(y:Int)):cs.getD y 0=eA T D d y/\y≠m/\(y:Int)<T.nodes:=by
 obtain⟨b,hb,hn⟩:=di p;have k:b=a:=by omega
 subst k;obtain⟨f,q,c⟩:=eh hv hn.eZ;have:f=y:=by omega
 subst this;have l:=hn.dN hy;have hc:=(aS hv).cost b hn.eZ;refine⟨?_,λe=>by subst e;omega,c⟩;rw[h.val f c];by_cases j:f=d
 ·subst j;rw[QY rfl,p8]
 ·rw[QZ j,QY ?_];have g:(f:Int)∈O.reverse:=TY.2 ((o.mem _).2 ⟨f,rfl,c,l.1⟩);have hs:O.reverse=O.reverse.take i++(m:Int)::O.reverse.drop (i+1):=by rw[<-hm,<-drop_cons _ _ hi,SQ]
  have hp:O.reverse.Pairwise λx y=>dN T D d x.toNat<=dN T D d y.toNat:=List.pairwise_reverse.2 o.pair;rw[hs]at hp g;rcases RR.1 g with h1|h1
  ·exact h1
  ·exfalso;have n:=(TO.1 hp).2.1;rcases RA.1 h1 with h2|h2
   ·have:f=m:=by omega
    subst this;omega
   ·have:=(T8.1 n).1 _ h2;simp only[QS]at this;omega
theorem pg.fresh{O cs:List Int}{i m:Nat}(g:xW T D d O)(h:pg T D d O.reverse cs i)(hi:i<O.reverse.length)(hm:O.reverse.getD i 0=(m:Int)):(m:Int)<T.nodes/\0<=dN T D d m/\cs.getD m 0=if m=d then 1 else 0:=by
 have f:(m:Int)∈O.reverse:=by rw[<-hm];exact bX hi
 obtain⟨k,hk,a,c⟩:=(g.mem _).1 (TY.1 f);have:k=m:=by omega
 subst this;refine⟨a,c,?_⟩;rw[h.val k a];have hs:O.reverse=O.reverse.take i++(k:Int)::O.reverse.drop (i+1):=by rw[<-hm,<-drop_cons _ _ hi,SQ]
 have hn:O.reverse.Nodup:=List.pairwise_reverse.2 (g.nodup.imp λh=>λe=>h e.symm);rw[hs]at hn;have b:¬(k:Int)∈O.reverse.take i:=λh1=>(TO.1 hn).2.2 _ h1 (k:Int) (by simp) I;rw[QZ b]
theorem pg.step(hv:av T=true)(hd:(d:Int)<T.nodes){O cs:List Int}{i m:Nat}(j:xW T D d O)(h:pg T D d O.reverse cs i)(hi:i<O.reverse.length)(hm:O.reverse.getD i 0=(m:Int)):pg T D d O.reverse (cs.set m (jT T D d (cs.getD m 0) (bu T D m d))) (i+1):=by
 obtain⟨f,_,k⟩:=h.fresh j hi hm;have g:m<cs.length:=by have:=h.len;omega
 refine⟨by simpa using h.len,λx hx=>?_⟩;rw[QU,Rh,dE _ _ 0 hi,hm];by_cases c:m=x
 ·subst c;rw[QY rfl,QY g,SM,k];by_cases a:m=d
  ·subst a;rw[QY rfl,QY rfl,ku];rfl
  ·rw[QZ a,QZ a,QY (by simp),tR hv hd f a];rfl
 ·rw[QZ c,<-QU,h.val x hx];by_cases b:x=d
  ·rw[QY b,QY b]
  ·rw[QZ b,QZ b];have:(x:Int)∈O.reverse.take i++[(m:Int)]↔(x:Int)∈O.reverse.take i:=by
    simp only[RR,Rj];exact⟨λh=>h.elim id (λe=>absurd e (by omega)),.inl⟩
   by_cases h1:(x:Int)∈O.reverse.take i
   ·rw[QY h1,QY (this.2 h1)]
   ·rw[QZ h1,QZ (λh2=>h1 (this.1 h2))]
theorem pg.done(hv:av T=true)(hd:(d:Int)<T.nodes){O cs:List Int}{n:Nat}(b:xW T D d O)(h:pg T D d O.reverse cs O.reverse.length)(hn:(n:Int)<T.nodes):cs.getD n 0=eA T D d n:=by
 rw[h.val n hn,RC];by_cases a:n=d
 ·subst a;rw[QY rfl,p8]
 ·rw[QZ a];by_cases h1:(n:Int)∈O.reverse
  ·rw[QY h1]
  ·rw[QZ h1];refine(DE hv hd hn (Int.not_le.1 λh0=>h1 (TY.2 ((b.mem _).2 ⟨n,rfl,hn,h0⟩)))).symm
theorem uf(c:Int):jT T D d c []=c:=rfl
theorem ue(c:Int)(l:List Int)(k a:Nat)(hk:k<l.length)(b:l.getD k 0=(a:Int)):jT T D d c (l.take (k+1))=min 2 (jT T D d c (l.take k)+eA T D d (aN T a).toNat):=by
 unfold jT;rw[dE _ _ 0 hk,TN,b]
 rfl
theorem sg(hv:av T=true)(hd:(d:Int)<T.nodes)(c:Int)(h0:0<=c)(h2:c<=2)(l:List Int):0<=jT T D d c l/\jT T D d c l<=2:=qd _ (λa=>(kG hv hd _).1) l c h0 h2
theorem Bj(cs:List Int)(m:Nat)(hm:m<cs.length):cs.set m (cs.getD m 0)=cs:=by
 rw[QU,QX hm,SM,List.set_getElem_self]
end
def B1(T:ak)(D:List Bool)(n d:Int)(c:Int):PV:=.tuple [num (if bY T D n d=0 then c else 0),num (bY T D n d)]
theorem EH(T:ak)(D:List Bool)(n d:Int)(cS:T.nodes<=12):Can prog 191 [aL T,aV D,num n,num d,num 2] (· =B1 T D n d (eA T D d.toNat n.toNat)):=by
 refine aF func191 I ntmps191 I<|ab (.a 3 I<|.k [1,2,3,4,5] I)<|ab (.a 4 I<|.c rfl (wx T D n d) I<|.a 5 I<|.k [1,2,3,4,5,12,13] I)<|ai<|ab (.a 2 I<|.k [1,2,3,4,5,12,13,31] I)<|ae I (λhc=>?_) (λhc=>?_)
 ·have he:bY T D n d≠0:=tt hc;exact ab (.a 3 I<|.k [10,11] I)<|ao<|QR I ax.pure (by unfold B1;rw[QZ he];rfl)
 ·have he:bY T D n d=0:=Q4 (ff hc);rw[he];obtain⟨hv,hf,hn,hd⟩:=fH he;rw[aQ]at hn hd;obtain⟨n,rfl⟩:=QW hn.1;obtain⟨d,rfl⟩:=QW hd.1;have hn:=hn.2;have hd:=hd.2;have af:=bO hv;have hS:=aS hv;obtain⟨L,M⟩:=dD (D:=D) hv (dir:=false) hd;obtain⟨N,hN⟩:∃N:Nat,T.nodes=(N:Int):=⟨T.nodes.toNat,by omega⟩;have J:T.nodes.toNat=N:=by omega
  refine aj<|ai<|ab (.a 2 I<|.k [1,2,3,4,5,12,34] I)<|ae I (λhc=>?_) (λhc=>?_)
  ·cases hc
  ·refine aj<|ab (.a 1 I<|.c rfl (nK T hv) I<|.a 1 I<|.k [1,2,3,4,5,12,14] I)<|aK<|au 2 I<|cb (dc I (Ru I) I I hN hN ⟨by unfold maxLen;omega,by omega⟩) I<|au 1 I<|aE [1,2,3,4,5,12,14,15] I ?_;refine eO (σ':=[eL (List.replicate N 0)]) (by unfold eL;rw[R6,<-dj];rfl)<|aK<|au 3 I<|bm (sL (c:=1) I I I I) I<|bm (aM (d) I (by omega) (by rw[R6];omega)) I<|bc (cp I (Q6 I) I I I (by first|omega|(simp;omega))) I I<|aE [1,2,3,4,5,12,14,15] I ?_;refine eO (σ':=[eL ((List.replicate T.nodes.toNat 0).set d 1)]) ?_ ?_
   ·rw[J];unfold eL;simp only[Ry,R6];rfl
   have t:=pg.start (D:=D) hd;generalize (List.replicate T.nodes.toNat (0:Int)).set d 1=l at t;refine aK<|au 1 I<|cD I I (RT (C8 (bJ T D d false) l (by omega)) (λ_ σ' h=>?_));obtain⟨O,v,K,rfl,rfl⟩:=h;refine au 1 I<|aE [1,2,3,4,5,12,14,15,16] I ?_;have u:=xW.of hv hd v K;have w:O.length<=12:=by have:=v.length_eq;have:=Al (bJ T D d false) (bJ T D d false).length;omega
   refine aK<|au 1 I<|cD I I (RT (AY O (eL l) w) (λ_ σ' h=>?_));subst h;refine aE [1,2,3,4,5,12,14,15,16] I<|ai<|ab (.a 3 I<|.k [1,2,3,4,5,12,14,15,49,50,51] I)<|aw<|eF [1,2,3,4,5,12,14,15,49,50,51] I<|bd (λr st=>∃(cs:List Int) (i:Nat),i<=O.reverse.length/\r=O.reverse.length - i/\pg T D d O.reverse cs i/\st=⟨[(1,aV D),(2,num n),(3,num d),(4,num 2),(5,.bq (bn T) 0),(12,aq (bJ T D d false)),(14,mc (ek (aZ T) T.nodes.toNat (2*T.ah.length))),(15,.own 0),(49,.own 1),(50,num O.reverse.length),(51,num i)],[eL cs,eL O.reverse]⟩) O.reverse.length ⟨l,0,by omega,by omega,t _,rfl⟩ ?_;rintro r st ⟨cs,i,hi,rfl,s,rfl⟩;have ad:O.reverse.length<=12:=by simpa using w
   refine ab (.a 1 I<|.k [1,2,3,4,5,12,14,15,49,50,51,52] I)<|ai<|ae I (λhx=>?_) (λhx=>?_)
   ·have f:i<O.reverse.length:=by have:=tt hx;omega
    obtain⟨m,hm⟩:∃m:Nat,O.reverse.getD i 0=(m:Int):=by
     obtain⟨k,hk,_⟩:=(u.mem _).1 (TY.1 (bX (d:=0) f));exact⟨k,hk⟩
    obtain⟨X,ag,R⟩:=s.fresh u f hm;have P:=s.len;have F:=A7 T m (by omega);have o:=wz T D (bJ T D d false) (bK T m) m d hv hf L M X hd (λa x=>kS x) (Rr (eu T m _) (by omega));have o:Can prog 127 [aL T,aV D,aq (bJ T D d false),aq (bK T m),num m,num d] (· =aq (bu T D m d)):=o;have ah:(bu T D m d).length<=512:=by
     have h1:(bu T D m d).length<=(bK T m).length:=by unfold bu ll;split;simp;exact RG _ _
     exact Rr h1 (Rr (eu T m _) (by omega))
    have G:=Bj cs m (by omega);have A:0<=cs.getD m 0/\cs.getD m 0<=2:=by rw[R];split<;>omega
    refine aj<|ai<|aw<|ab (.v (aM (i) I) I<|.v (aJ I ((aB _ i f).trans (by rw[hm]))) I<|.a 1 I<|.k [1,2,3,4,5,12,14,15,18,49,50,51] I)<|er mixed (by kernel_rfl) (.a 5 I<|.v [58,59] (aM (m) I (by omega) (by rw[fR];omega)) I I<|.v [60] (aJ I ((xw _ m (by rw[fR];omega)).trans (by rw[F]))) I I<|.a 2 I<|.v [55,56,57,61,62,63] (dX I (o)) I I<|.a 2 I<|.k [1,2,3,4,5,12,14,15,18,49,50,51,64,65,66] I) ?_;refine aw<|eF [1,2,3,4,5,12,14,15,18,49,50,51,64,65,66] I<|bd (λr st=>∃k:Nat,k<=(bu T D m d).length/\r=(bu T D m d).length - k/\st=⟨[(1,aV D),(2,num n),(3,num d),(4,num 2),(5,.bq (bn T) 0),(12,aq (bJ T D d false)),(14,mc (ek (aZ T) T.nodes.toNat (2*T.ah.length))),(15,.own 0),(18,num m),(49,.own 1),(50,num O.reverse.length),(51,num i),(64,aq (bu T D m d)),(65,num (bu T D m d).length),(66,num k)],[eL (cs.set m (jT T D d (cs.getD m 0) ((bu T D m d).take k))),eL O.reverse]⟩) (bu T D m d).length ⟨0,by omega,by omega,by rw[Uh,uf,G];rfl⟩ ?_;rintro r st ⟨k,hk,rfl,rfl⟩;have S:=sg (D:=D) hv hd (cs.getD m 0) A.1 A.2 ((bu T D m d).take k);have b:=ue (T:=T) (D:=D) (d:=d) (cs.getD m 0) (bu T D m d) k;generalize j:jT T D d (cs.getD m 0) ((bu T D m d).take k)=c at S b;refine ab (.a 1 I<|.k [1,2,3,4,5,12,14,15,18,49,50,51,64,65,66,67] I)<|ai<|ae I (λhy=>?_) (λhy=>?_)
    ·have g:k<(bu T D m d).length:=by have:=tt hy;omega
     obtain⟨a,x,z⟩:=di (bX (d:=0) g);have C:(a:Int)∈bu T D m d:=by rw[<-x];exact bX g
     obtain⟨y,q,al⟩:=eh hv z.eZ;obtain⟨Q,Y,_⟩:=s.next hv hd u f hm C q;have hh:=iH T a z.eZ (by omega);rw[q]at hh;have aa:=kG (D:=D) hv hd y;have U:(cs.set m c).getD y 0=eA T D d y:=by rw[<-Q,QU,Rh,QZ (λe=>Y e.symm),<-QU]
     have B:(cs.set m c).getD m 0=c:=by rw[QU,Rh,QY rfl,QY (by omega)];rfl
     have b:=b a g x;rw[q,QS]at b;refine aj<|ai<|aw<|ab (.v (aM (k) I) I<|.v (aJ I ((aB _ k g).trans (by rw[x]))) I<|.a 1 I<|.k [1,2,3,4,5,12,14,15,18,20,49,50,51,64,65,66] I)<|ab (.a 3 I<|.c rfl (hh) I<|.v (aM (y) I (by omega) (by simp only[Ry];omega)) I<|.v (aJ I ((aB _ y (by simp only[Ry];omega)).trans (by rw[U]))) I<|.a 1 I<|.k [1,2,3,4,5,12,14,15,18,21,49,50,51,64,65,66] I)<|ab (.a 4 I<|.v (aM (m) I (by omega) (by simp only[Ry];omega)) I<|.v (aJ I ((aB _ m (by simp only[Ry];omega)).trans (by rw[B]))) I<|.v (aW I) I<|.a 1 I<|.k [1,2,3,4,5,12,14,15,18,21,49,50,51,64,65,66,83] I)<|ae I (λZ=>?_) (λZ=>?_)
     ·have p:jT T D d (cs.getD m 0) ((bu T D m d).take (k+1))=2:=by have:=tt Z;omega
      refine bx<|au 3 I<|bm (aM (m) I (by omega) (by simp only[Ry];omega)) I<|bc (cp I (Q6 I) I I I (by first|omega|(simp;omega))) I I<|aE [1,2,3,4,5,12,14,15,18,49,50,51,64,65,66] I ?_;refine aC (.v (aW I) I<|.a 1 I<|.k [1,2,3,4,5,12,14,15,18,49,50,51,64,65,66] I)<|⟨(bu T D m d).length - (k+1),by omega,k+1,by omega,rfl,?_⟩;rw[p];unfold eL;simp only[Ry,TK]
      rfl
     ·have p:jT T D d (cs.getD m 0) ((bu T D m d).take (k+1))=c+eA T D d y:=by have:=ff Z;omega
      refine bx<|au 2 I<|bm (aM (m) I (by omega) (by simp only[Ry];omega)) I<|bm (aJ I ((aB _ m (by simp only[Ry];omega)).trans (by rw[B]))) I<|au 1 I<|bm (aW I) I<|bm (aM (m) I (by omega) (by simp only[Ry];omega)) I<|bc (cp I (Q6 I) I I I (by first|omega|(simp;omega))) I I<|aE [1,2,3,4,5,12,14,15,18,49,50,51,64,65,66] I ?_;refine aC (.v (aW I) I<|.a 1 I<|.k [1,2,3,4,5,12,14,15,18,49,50,51,64,65,66] I)<|⟨(bu T D m d).length - (k+1),by omega,k+1,by omega,rfl,?_⟩;rw[p];unfold eL;simp only[Ry,TK]
      rfl
    ·have W:k=(bu T D m d).length:=by have:=ff hy;omega
     refine ba<|aC (.v (aW I) I<|.a 1 I<|.k [1,2,3,4,5,12,14,15,49,50,51] I) ?_;have H:=s.step hv hd u f hm;rw[W,RC]at j;exact⟨O.reverse.length - (i+1),by omega,cs.set m (jT T D d (cs.getD m 0) (bu T D m d)),i+1,by omega,rfl,H,by rw[j];rfl⟩
   ·have V:i=O.reverse.length:=by have:=ff hx;omega
    subst V;have E:=s.done hv hd u hn;have P:=s.len;exact ba<|ab (.a 2 I<|.v (aM (n) I) I<|.v (aJ I ((aB cs n (by omega)).trans (by rw[E]))) I<|.a 2 I<|.k [10,11] I)<|ao<|QR I ax.pure (by unfold B1;rw[he,QY rfl];rfl)
theorem wu(T:ak)(D:List Bool)(n d:Int):fN T D n d=(decide (bY T D n d=0)&&decide ((if bY T D n d=0 then eA T D d.toNat n.toNat else 0)=1)):=by
 unfold fN;by_cases h:bY T D n d=0
 ·rw[QY h]
 ·simp[h]
theorem vq(T:ak)(D:List Bool)(n d:Int)(cS:T.nodes<=12):Can prog 181 [aL T,aV D,num n,num d] (· =flag (fN T D n d)):=by
 rw[wu];have⟨c,a⟩:=QQ (decide (bY T D n d=0));have⟨e,b⟩:=QQ (decide ((if bY T D n d=0 then eA T D d.toNat n.toNat else 0)=1));rw[a,b];refine aF func181 I ntmps181 I<|ab (.a 2 I<|.k [1,2,3,4] I)<|ab (.a 4 I<|.c rfl (EH T D n d cS) I<|.a 5 I<|.k [9,10] I)<|bz 8 (.raw (.bool (c&&e))) [] I ?_ ?_
 ·refine .a 1 I<|.v (bW I (a)) I<|.a 1 I<|?_;cases c
  ·exact .a 4 I<|.k [8] I
  ·exact .a 1 I<|.v (bW I (b)) I<|.a 2 I<|.k [8] I
 exact ao<|QR I ax.pure rfl
theorem DQ(l:List Int)(n:Int)(hl:l.length<=100000):Can prog 150 [aq l,num n] (· =flag (decide (n∈l))):=by
 refine aF func150 I ntmps150 I<|ab (.a 1 I<|.k [0,1] I)<|ai<|ab (.a 1 I<|.k [0,1,5] I)<|aw<|eF [0,1,5] I<|bd (λr st=>∃i:Nat,i<=l.length/\r=l.length - i/\¬n∈l.take i/\st=⟨[(0,aq l),(1,num n),(5,num i)],[]⟩) l.length ⟨0,by omega,by omega,by simp,rfl⟩ ?_;rintro r st ⟨i,hi,rfl,b,rfl⟩;refine ai<|ab (.a 4 I<|.k [0,1,5,9] I)<|ae I (λhc=>?_) (λhc=>?_)
 ·have a:i<l.length:=by have:=tt hc;omega
  refine aj<|ai<|aw<|ab (.a 2 I<|.v (aM (i) I) I<|.v (aJ I (aB l i a)) I<|.a 2 I<|.k [0,1,5,17] I)<|ae I (λhy=>?_) (λhy=>?_)
  ·have h1:l.getD i 0=n:=tt hy;exact ab (.a 1 I<|.k [4] I)<|ao<|QR I ax.pure (by rw[show decide (n∈l)=true from Rb (by rw[<-h1];exact bX a)];rfl)
  ·have h1:¬l.getD i 0=n:=ff hy;refine aj<|aC (.a 1 I<|.v (aW I) I<|.a 1 I<|.k [0,1,5] I) ?_;refine⟨l.length - (i+1),by omega,i+1,by omega,rfl,λh=>?_,rfl⟩;rw[dE _ _ 0 a,RR,Rj]at h;exact h.elim b (λe=>h1 e.symm)
 ·have c:i=l.length:=by have:=ff hc;omega
  subst c;rw[RC]at b;exact ba<|ab (.a 1 I<|.k [4] I)<|ao<|QR I ax.pure (by rw[show decide (n∈l)=false from Rg b];rfl)
structure qX (L out:List Int) (i:Nat) (b:Int):Prop where
 none:b<0->∀k:Nat,k<i->0<=L.getD k 0->(k:Int)∈out
 some:∀n:Nat,b=(n:Int)->n<i/\0<=L.getD n 0/\¬(n:Int)∈out/\∀k:Nat,k<i->0<=L.getD k 0->¬(k:Int)∈out->L.getD k 0<=L.getD n 0
theorem qX.start(L out:List Int):qX L out 0 (-1):=⟨λ_ k h=>by omega,λn h=>by omega⟩
theorem qX.yes{L out:List Int}{i:Nat}{b:Int}(h:qX L out i b)(h1:0<=L.getD i 0)(h2:¬(i:Int)∈out)(d:b<0\/∃n:Nat,b=(n:Int)/\L.getD n 0<L.getD i 0):qX L out (i+1) i:=by
 refine⟨λh=>by omega,λn hn=>?_⟩;have:n=i:=by omega
 subst this;refine⟨by omega,h1,h2,λk hk a c=>?_⟩;by_cases e:k=n
 ·subst e;omega
 ·rcases d with d|⟨m,hm,f⟩
  ·exact absurd (h.none d k (by omega) a) c
  ·have:=(h.some m hm).2.2.2 k (by omega) a c;omega
theorem qX.no{L out:List Int}{i:Nat}{b:Int}(h:qX L out i b)(h1:¬(0<=L.getD i 0/\¬(i:Int)∈out/\(b<0\/∃n:Nat,b=(n:Int)/\L.getD n 0<L.getD i 0))):qX L out (i+1) b:=by
 refine⟨λhb k hk a=>?_,λn hn=>?_⟩
 ·by_cases c:k=i
  ·subst c;exact Q4 λe=>h1 ⟨a,e,.inl hb⟩
  ·exact h.none hb k (by omega) a
 ·obtain⟨f,a2,a3,a4⟩:=h.some n hn;refine⟨by omega,a2,a3,λk hk a d=>?_⟩;by_cases c:k=i
  ·subst c;exact Int.not_lt.1 λhl=>h1 ⟨a,d,.inr ⟨n,hn,hl⟩⟩
  ·exact a4 k (by omega) a d
structure Part (L out:List Int):Prop where
 nodup:out.Nodup
 mem:∀x∈out,∃k:Nat,x=(k:Int)/\k<L.length/\0<=L.getD k 0
 pair:out.Pairwise λx y=>L.getD y.toNat 0<=L.getD x.toNat 0
 rest:∀x∈out,∀k:Nat,k<L.length->0<=L.getD k 0->¬(k:Int)∈out->L.getD k 0<=L.getD x.toNat 0
theorem Part.len{L out:List Int}(h:Part L out):out.length<=L.length:=by
 have h1:=qo L.length (out.map Int.toNat) (by
  unfold List.Nodup;rw[Ty];refine Tz ?_ h.nodup;intro a b d hb c e;obtain⟨k,rfl,_⟩:=h.mem a d;obtain⟨k',rfl,_⟩:=h.mem b hb;simp only[QS]at e;exact c (by rw[e])) (λx hx=>by
  obtain⟨y,hy,rfl⟩:=RB.1 hx;obtain⟨k,rfl,hk,_⟩:=h.mem y hy;simpa using hk)
 simpa using h1
theorem Part.snoc{L out:List Int}{n:Nat}(h:Part L out)(hb:qX L out L.length n):Part L (out++[(n:Int)]):=by
 obtain⟨i,a2,a3,a4⟩:=hb.some n rfl;refine⟨TO.2 ⟨h.nodup,by simp,λa f b hb e=>a3 (by simp at hb;rw[<-hb,<-e];exact f)⟩,λx hx=>?_,TO.2 ⟨h.pair,by simp,λa f b hb=>?_⟩,λx hx k hk d g=>?_⟩
 ·rcases RR.1 hx with h1|h1
  ·exact h.mem x h1
  ·simp at h1;subst h1;exact⟨n,rfl,i,a2⟩
 ·simp at hb;subst hb;exact h.rest a f n i a2 a3
 ·have c:¬(k:Int)∈out:=λh=>g (RR.2 (.inl h));rcases RR.1 hx with h1|h1
  ·exact h.rest x h1 k hk d c
  ·simp at h1;subst h1;rw[QS];exact a4 k hk d c
def PU(e:Int)(O:List Int):PV:=.tuple [aq O,num e]
theorem FK(T:ak)(D:List Bool)(d:Nat)(cS:T.nodes<=12)(he:ct T D [(d:Int)]=0):Can prog 199 [aL T,aV D,num d] (λr=>∃O,xW T D d O/\r=PU 0 O):=by
 obtain⟨hv,U,hd⟩:=rm he;have hd:=(aQ.1 (hd d (by simp))).2;obtain⟨A,B⟩:=dD (D:=D) hv (dir:=false) hd;have l:=lY T D (d:Int);rw[he]at l;have l:Can prog 142 [aL T,aV D,num d] (· = .tuple [aq (bJ T D d false),num 0]):=l;have p:∀out,Part (bJ T D d false) out->(∀k:Nat,k<(bJ T D d false).length->0<=(bJ T D d false).getD k 0->(k:Int)∈out)->xW T D d out:=λout h h2=>
  ⟨h.nodup,λx=>⟨λhx=>by obtain⟨k,e,P,w⟩:=h.mem x hx;exact⟨k,e,by omega,w⟩,by rintro⟨k,rfl,P,w⟩;exact h2 k (by omega) w⟩,h.pair⟩
 generalize Q:bJ T D d false=L at A B l p;obtain⟨N,hN⟩:∃N:Nat,T.nodes=(N:Int):=⟨L.length,by omega⟩;have y:L.length=N:=by omega
 refine aF func199 I ntmps199 I<|ab (.a 3 I<|.k [1,2,3] I)<|ab (.a 3 I<|.c rfl (l) I<|.a 5 I<|.k [3,8,9] I)<|ai<|ab (.a 2 I<|.k [3,8,9,21] I)<|ae I (λhc=>?_) (λhc=>?_)
 ·cases hc
 ·refine aj<|ab (.a 1 I<|.k [3,8,10] I)<|eU 10 3 1 I ?_;refine aw<|eF [3,8,10] I<|bd (λr st=>∃out,Part L out/\r=N - out.length/\st=⟨[(3,.bq (bn T) 0),(8,aq L),(10,.own 0)],[eL out]⟩) N ⟨[],⟨by simp,by simp,by simp,by simp⟩,by simp,rfl⟩ ?_;rintro r st ⟨out,z,rfl,rfl⟩;have S:=z.len;refine aw<|ab (.a 1 I<|.k [3,8,10,11] I)<|ai<|ab (.a 1 I<|.k [3,8,10,11,12] I)<|aw<|eF [3,8,10,11,12] I<|bd (λr st=>∃(i:Nat) (b:Int),i<=N/\r=N - i/\qX L out i b/\ -1<=b/\st=⟨[(3,.bq (bn T) 0),(8,aq L),(10,.own 0),(11,num b),(12,num i)],[eL out]⟩) N ⟨0, -1,by omega,by omega,qX.start _ _,by omega,rfl⟩ ?_;rintro r st ⟨i,b,hi,rfl,o,H,rfl⟩;refine ai<|ab (.a 2 I<|.v (aJ I ((show some (num T.nodes)=some (num (N:Int)) by rw[hN]))) I<|.a 1 I<|.k [3,8,10,11,12,26] I)<|ae I (λhc=>?_) (λhc=>?_)
  ·have R:i<N:=by have:=tt hc;omega
   refine aj<|ai<|aw ?_;have⟨J,f⟩:=QQ (decide (0<=L.getD i 0));have⟨K,g⟩:=QQ (decide ((i:Int)∈out));have⟨G,a⟩:=QQ (decide (b<0));have⟨M,j⟩:=QQ (decide (L.getD b.toNat 0<L.getD i 0));refine iY mixed (by kernel_rfl) 54 (.raw (.bool ((J&& !K)&&(G||M)))) [3,8,10,11,12] I ?_ ?_
   ·refine .a 2 I<|.v [29,30] (aM (i) I) I I<|.v [31] (aJ I (aB L i (by omega))) I I<|.v [32] (bW I (f)) I I<|.a 1 I<|?_;cases J
    ·exact .a 20 I<|.k [54,3,8,10,11,12] I
    ·refine .a 2 I<|.v [35,36] (Mg I (QV (Tj rfl Sj) (QV ax.pure Rl)) (g▸DQ out i (by omega))) I I<|.a 3 I<|?_;cases K
     ·refine .a 1 I<|.v [41] (bW I (a)) I I<|.a 1 I<|?_;cases G
      ·exact .a 2 I<|.v [44,45] (aM (i) I) I I<|.v [46] (aJ I (aB L i (by omega))) I I<|.a 2 I<|.v [48,49] (aM (b.toNat) I (by have:=ff a;omega) (by have:=ff a;have:=(o.some b.toNat (by omega)).1;omega)) I I<|.v [50] (aJ I (aB L b.toNat (by have:=ff a;have:=(o.some b.toNat (by omega)).1;omega))) I I<|.v [47,51] (bW I (j)) I I<|.a 2 I<|.k [54,3,8,10,11,12] I
      ·exact .a 11 I<|.k [54,3,8,10,11,12] I
     ·exact .a 14 I<|.k [54,3,8,10,11,12] I
   refine ae I (λhy=>?_) (λhy=>?_)
   ·have q:qX L out (i+1) i:=by
     simp only[Q7,RX,R4]at hy;obtain⟨⟨u,v⟩,c⟩:=hy;rw[u]at f;rw[v]at g;refine o.yes (tt f) (ff g) ?_;by_cases h0:b<0
     ·exact .inl h0
     ·rcases c with c|c
      ·rw[c]at a;exact .inl (tt a)
      ·rw[c]at j;exact .inr ⟨b.toNat,by omega,tt j⟩
    refine aC (.a 2 I<|.k [3,8,10,11,12] I)<|aC (.a 1 I<|.v (aW I) I<|.a 1 I<|.k [3,8,10,11,12] I) ?_;exact⟨N - (i+1),by omega,i+1,_,by omega,rfl,q,by omega,rfl⟩
   ·have q:qX L out (i+1) b:=o.no (by
     rintro⟨u,v,c⟩;rw[Rb u]at f;rw[Rg v]at g;subst f;subst g;have:(G||M)=true:=by
      rcases c with c|⟨n,rfl,c⟩
      ·rw[Rb c]at a;subst a;rfl
      ·rw[QS,Rb c]at j;subst j;simp
     rw[this]at hy;cases hy)
    refine aj<|aC (.a 1 I<|.v (aW I) I<|.a 1 I<|.k [3,8,10,11,12] I) ?_;exact⟨N - (i+1),by omega,i+1,_,by omega,rfl,q,by omega,rfl⟩
  ·have C:i=N:=by have:=ff hc;omega
   rw[C]at o;refine ba<|ai<|ab (.a 2 I<|.k [3,8,10,11,57] I)<|ae I (λF=>?_) (λF=>?_)
   ·have t:=o.none (tt F);exact ab (.a 3 I<|.k [6,7] I)<|ao<|⟨_,_,RY I,RW (QV (Tj rfl Sj) (QV ax.pure Rl)),out,p out z (λk hk=>t k (by omega)),rfl⟩
   ·obtain⟨m,rfl⟩:=QW (show 0<=b by have:=ff F;omega);rw[<-y]at o;have s:=z.snoc o;have E:=s.len;rw[Q0,Rk]at E;refine aj<|bx<|au 3 I<|cb (bF I (Ru I) I I I I (by unfold maxLen;omega)) I<|au 1 I ?_;refine dL [1] (.c 3<|.c 8<|.c 10<|.nil) (.kept rfl (.eY rfl (cW _ _))<|.nil) I I (bg ?_);refine⟨N - (out.length+1),by omega,out++[(m:Int)],s,by simp,?_⟩;unfold eL;simp only[Q0,Rk]
theorem CS(T:ak)(D:List Bool)(n d:Int)(cS:T.nodes<=12):Can prog 194 [aL T,aV D,num n,num d,num 2] (· =B1 T D n d (eA T D d.toNat n.toNat)):=by
 have⟨g1,l⟩:=QQ (decide (n<0));have⟨g2,j⟩:=QQ (decide (T.nodes<=n));have u:aX T n= !(g1||g2):=by rw[<-l,<-j,<-TS,<-decide_not];unfold aX;exact decide_eq_decide.2 (by omega)
 refine aF func194 I ntmps194 I<|ab (.a 3 I<|.k [1,2,3,4,5] I)<|ab (.a 3 I<|.c rfl (lY T D d) I<|.a 5 I<|.k [1,2,3,4,5,12,13] I)<|ai<|ab (.a 2 I<|.k [1,2,3,4,5,12,13,29] I)<|ae I (λhc=>?_) (λhc=>?_)
 ·have f:ct T D [d]≠0:=tt hc;have S:bY T D n d=ct T D [d]:=by unfold bY;rw[QZ f]
  exact ab (.a 3 I<|.k [10,11] I)<|ao<|QR I ax.pure (by unfold B1;rw[S,QZ f];rfl)
 ·have f:ct T D [d]=0:=Q4 (ff hc);rw[f,QY rfl];refine aj<|ai<|bz 38 (.raw (.bool (g1||g2))) [1,2,3,4,5,12] I ?_ ?_
  ·refine .a 1 I<|.v (bW I (l)) I<|.a 1 I<|?_;cases g1
   ·exact .a 3 I<|.v (bW I (j)) I<|.a 1 I<|.k [38,1,2,3,4,5,12] I
   ·exact .a 5 I<|.k [38,1,2,3,4,5,12] I
  refine ae I (λhy=>?_) (λhy=>?_)
  ·have hn:aX T n=false:=by rw[u,hy];rfl
   have he:bY T D n d=2:=by unfold bY;rw[QY f,hn];rfl
   exact ab (.a 2 I<|.k [10,11] I)<|ao<|QR I ax.pure (by unfold B1;rw[he];rfl)
  ·have hn:aX T n=true:=by rw[u,hy];rfl
   have he:bY T D n d=0:=by unfold bY;rw[QY f,hn];rfl
   obtain⟨hv,hf,hn,hd⟩:=fH he;rw[aQ]at hn hd;clear u l j hy;obtain⟨n,rfl⟩:=QW hn.1;obtain⟨d,rfl⟩:=QW hd.1;simp only[QS];have hn:=hn.2;have hd:=hd.2;have al:=bO hv;have hS:=aS hv;obtain⟨M,P⟩:=dD (D:=D) hv (dir:=false) hd;obtain⟨N,hN⟩:∃N:Nat,T.nodes=(N:Int):=⟨T.nodes.toNat,by omega⟩;have L:T.nodes.toNat=N:=by omega
   refine aj<|ai<|ab (.a 2 I<|.k [1,2,3,4,5,12,40] I)<|ae I (λhc=>?_) (λhc=>?_)
   ·cases hc
   ·refine aj<|aK<|au 2 I<|cb (dc I (Ru I) I I hN hN ⟨by unfold maxLen;omega,by omega⟩) I<|au 1 I<|aE [1,2,3,4,5,12,14] I ?_;refine eO (σ':=[eL (List.replicate N 0)]) (by unfold eL;rw[R6,<-dj];rfl)<|aK<|au 3 I<|bm (sL (c:=1) I I I I) I<|bm (aM (d) I (by omega) (by rw[R6];omega)) I<|bc (cp I (Q6 I) I I I (by first|omega|(simp;omega))) I I<|aE [1,2,3,4,5,12,14] I ?_;refine eO (σ':=[eL ((List.replicate T.nodes.toNat 0).set d 1)]) ?_ ?_
    ·rw[L];unfold eL;simp only[Ry,R6];rfl
    have z:=pg.start (D:=D) hd;generalize (List.replicate T.nodes.toNat (0:Int)).set d 1=J at z;refine aK<|au 3 I<|cD I I (RT (U3 (FK T D d cS f)) (λ_ σ' h=>?_));obtain⟨⟨O,o,rfl⟩,rfl⟩:=h;refine au 5 I<|aE [1,2,3,4,5,12,14,15] I ?_;have ag:O.length<=12:=by
     have h1:=qo N (O.map Int.toNat) (by
      unfold List.Nodup;rw[Ty];refine Tz ?_ o.nodup;intro a b A hb Z e;obtain⟨k,rfl,_⟩:=(o.mem a).1 A;obtain⟨k',rfl,_⟩:=(o.mem b).1 hb;simp only[QS]at e;exact Z (by rw[e])) (λx hx=>by
      obtain⟨y,hy,rfl⟩:=RB.1 hx;obtain⟨k,rfl,hk,_⟩:=(o.mem y).1 hy;rw[QS];omega)
     rw[RN]at h1;omega
    refine ai<|ab (.a 2 I<|.v (aW I) I<|.a 1 I<|.k [1,2,3,4,5,12,14,15,17] I)<|aw<|eF [1,2,3,4,5,12,14,15,17] I<|bd (λr st=>∃(cs:List Int) (i:Nat),i<=O.reverse.length/\r=O.reverse.length - i/\pg T D d O.reverse cs i/\st=⟨[(1,aV D),(2,num n),(3,num d),(4,num 2),(5,.bq (bn T) 0),(12,aq (bJ T D d false)),(14,.own 0),(15,aq O),(17,num ((O.length:Int) - 1 - i))],[eL cs]⟩) O.reverse.length ⟨J,0,by omega,by omega,z _,by simp⟩ ?_;rintro r st ⟨cs,i,hi,rfl,w,rfl⟩;have ah:O.reverse.length=O.length:=by simp
    refine ai<|ab (.a 2 I<|.k [1,2,3,4,5,12,14,15,17,60] I)<|ae I (λhx=>?_) (λhx=>?_)
    ·have q:i<O.reverse.length:=by have:=tt hx;omega
     obtain⟨m,hm⟩:∃m:Nat,O.reverse.getD i 0=(m:Int):=by
      obtain⟨k,hk,_⟩:=(o.mem _).1 (TY.1 (bX (d:=0) q));exact⟨k,hk⟩
     have t:O.getD (O.length - 1 - i) 0=(m:Int):=by
      rw[<-hm,QU,QU,List.getElem?_reverse (by omega)]
     obtain⟨Y,an,U⟩:=w.fresh o q hm;have Q:=w.len;have F:=uV T D (bJ T D d false) m d hv hf M P;rw[rI T D m d hv Y]at F;have ar:(bu T D m d).length<=512:=by
      have h1:(bu T D m d).length<=(bK T m).length:=by unfold bu ll;split;simp;exact RG _ _
      exact Rr h1 (Rr (eu T m _) (by omega))
     have H:=Bj cs m (by omega);have C:0<=cs.getD m 0/\cs.getD m 0<=2:=by rw[U];split<;>omega
     refine aj<|ai<|aw<|er mixed (by kernel_rfl) (.a 5 I<|.v [66,67] (aM ((O.length - 1 - i)) I) I I<|.v [68] (aJ I ((aB _ (O.length - 1 - i) (by omega)).trans (by rw[t]))) I I<|.a 1 I<|.v [63,64,65,69,70] (dX I (F)) I I<|.a 1 I<|.k [1,2,3,4,5,12,14,15,17,18] I) ?_;refine ab (.a 1 I<|.k [1,2,3,4,5,12,14,15,17,18,19] I)<|aw<|eF [1,2,3,4,5,12,14,15,17,18,19] I<|bd (λr st=>∃k:Nat,k<=(bu T D m d).length/\r=(bu T D m d).length - k/\st=⟨[(1,aV D),(2,num n),(3,num d),(4,num 2),(5,.bq (bn T) 0),(12,aq (bJ T D d false)),(14,.own 0),(15,aq O),(17,num ((O.length:Int) - 1 - i)),(18,aq (bu T D m d)),(19,num k)],[eL (cs.set m (jT T D d (cs.getD m 0) ((bu T D m d).take k)))]⟩) (bu T D m d).length ⟨0,by omega,by omega,by rw[Uh,uf,H];rfl⟩ ?_;rintro r st ⟨k,hk,rfl,rfl⟩;have V:=sg (D:=D) hv hd (cs.getD m 0) C.1 C.2 ((bu T D m d).take k);have g:=ue (T:=T) (D:=D) (d:=d) (cs.getD m 0) (bu T D m d) k;generalize s:jT T D d (cs.getD m 0) ((bu T D m d).take k)=c at V g;refine ai<|ab (.a 4 I<|.k [1,2,3,4,5,12,14,15,17,18,19,75] I)<|ae I (λhy=>?_) (λhy=>?_)
     ·have p:k<(bu T D m d).length:=by have:=tt hy;omega
      obtain⟨a,A,B⟩:=di (bX (d:=0) p);have E:(a:Int)∈bu T D m d:=by rw[<-A];exact bX p
      obtain⟨y,v,av⟩:=eh hv B.eZ;obtain⟨R,ad,_⟩:=w.next hv hd o q hm E v;have hh:=gY T hv a B.eZ;rw[v]at hh;have af:=kG (D:=D) hv hd y;have l:(cs.set m c).getD y 0=eA T D d y:=by rw[<-R,QU,Rh,QZ (λe=>ad e.symm),<-QU]
      have j:(cs.set m c).getD m 0=c:=by rw[QU,Rh,QY rfl,QY (by omega)];rfl
      have g:=g a p A;rw[v,QS]at g;have aa:jT T D d (cs.getD m 0) ((bu T D m d).take (k+1))=c+min (eA T D d y) (2 - c):=by omega
      refine aj<|ai<|aw<|er mixed (by kernel_rfl) (.a 4 I<|.v [80,81] (aM (k) I) I I<|.v [82] (aJ I ((aB _ k p).trans (by rw[A]))) I I<|.v [79,83] (dX I (hh)) I I<|.v [78,84] (aM (y) I (by omega) (by simp only[Ry];omega)) I I<|.v [85] (aJ I ((aB _ y (by simp only[Ry];omega)).trans (by rw[l]))) I I<|.a 1 I<|.k [1,2,3,4,5,12,14,15,17,18,19,20] I) ?_;refine dh 20 20 mixed (.val [14] I (bb I) I I<|.val [15] I (bb I) I I<|.val [17] I (bb I) I I<|.val [88,89] I (aM ((O.length - 1 - i)) I) I I<|.val [90] I (aJ I ((aB _ (O.length - 1 - i) (by omega)).trans (by rw[t]))) I I<|.val [87,91] I (aM (m) I (by omega) (by simp only[Ry];omega)) I I<|.val [92] I (aJ I ((aB _ m (by simp only[Ry];omega)).trans (by rw[j]))) I I<|.val [20] I (bb I) I I<|.val [4] I (bb I) I I<|.val [14] I (bb I) I I<|.val [15] I (bb I) I I<|.val [17] I (bb I) I I<|.val [97,98] I (aM ((O.length - 1 - i)) I) I I<|.val [99] I (aJ I ((aB _ (O.length - 1 - i) (by omega)).trans (by rw[t]))) I I<|.val [96,100] I (aM (m) I (by omega) (by simp only[Ry];omega)) I I<|.val [101] I (aJ I ((aB _ m (by simp only[Ry];omega)).trans (by rw[j]))) I I<|.val [95,102] I (aW I) I I<|.val [94,103] I (sL I I I I) I I<|.val [93,104] I (aW I) I I<|.val [87,91] I (aM (m) I (by omega) (by simp only[Ry];omega)) I I<|.nil) (by kernel_rfl) I I (aR (ks:=[1,2,3,4,5,12,14,15,17,18,19,105,106]) I)<|bc (cp I (Q6 I) I I I (by first|omega|(simp;omega))) I I<|aE [1,2,3,4,5,12,14,15,17,18,19] I ?_;refine aC (.a 1 I<|.v (aW I) I<|.a 1 I<|.k [1,2,3,4,5,12,14,15,17,18,19] I)<|⟨(bu T D m d).length - (k+1),by omega,k+1,by omega,rfl,?_⟩;rw[aa];unfold eL;simp only[Ry,TK]
      rfl
     ·have X:k=(bu T D m d).length:=by have:=ff hy;omega
      refine ba<|aC (.a 1 I<|.v (aW I) I<|.a 1 I<|.k [1,2,3,4,5,12,14,15,17] I) ?_;have K:=w.step hv hd o q hm;rw[X,RC]at s;exact⟨O.reverse.length - (i+1),by omega,cs.set m (jT T D d (cs.getD m 0) (bu T D m d)),i+1,by omega,rfl,K,by rw[s,show(O.length:Int) - 1 - ((i+1:Nat):Int)=(O.length:Int) - 1 - i - 1 by omega]⟩
    ·have W:i=O.reverse.length:=by have:=ff hx;omega
     subst W;have G:=w.done hv hd o hn;have Q:=w.len;exact ba<|ab (.a 2 I<|.v (aM (n) I) I<|.v (aJ I ((aB cs n (by omega)).trans (by rw[G]))) I<|.a 2 I<|.k [10,11] I)<|ao<|QR I ax.pure (by unfold B1;rw[he,QY rfl];rfl)
theorem Bg(T:ak)(D:List Bool)(n d:Int)(cS:T.nodes<=12):Can prog 188 [aL T,aV D,num n,num d] (· =flag (fN T D n d)):=by
 rw[wu];have⟨c,a⟩:=QQ (decide (bY T D n d=0));have⟨e,b⟩:=QQ (decide ((if bY T D n d=0 then eA T D d.toNat n.toNat else 0)=1));rw[a,b];refine aF func188 I ntmps188 I<|ab (.a 2 I<|.k [1,2,3,4] I)<|ab (.a 4 I<|.c rfl (CS T D n d cS) I<|.a 5 I<|.k [9,10] I)<|bz 8 (.raw (.bool (c&&e))) [] I ?_ ?_
 ·refine .a 1 I<|.v (bW I (a)) I<|.a 1 I<|?_;cases c
  ·exact .a 4 I<|.k [8] I
  ·exact .a 1 I<|.v (bW I (b)) I<|.a 2 I<|.k [8] I
 exact ao<|QR I ax.pure rfl
end
section
open Go.RowKit cG Mem
section
variable {P:Program} {kt e:TypeId}
theorem Dq(a b:Int):(a==b)=decide (a=b):=SR.2 (by simp)
theorem Dz(b:Bool)(n:Nat)(hu:P.underlying kt=some (.int .i64))(a:Int)(w:World):(Instr.checkKey b (n+1) kt (.int .i64 a)).run P w= .ok () w:=by
 simp only[Instr.checkKey,Sem.run_bind,run_underlying hu,Result.andThen_ok,Sem.run_pure]
theorem eq_int(n:Nat)(hu:P.underlying kt=some (.int .i64))(a b:Int)(w:World):(Op.equalIn (n+1) kt (.int .i64 a) (.int .i64 b)).run P w= .ok (decide (a=b)) w:=by
 simp only[Op.equalIn,Sem.run_bind,run_underlying hu,Result.andThen_ok,Sw,Sem.run_pure,Dq]
theorem Nz(hu:P.underlying kt=some (.int .i64)):jK P kt (λn:Int=>Value.int .i64 n) where
 p6:=λb a w=>Dz b 9999 hu a w
 eql:=λa b w=>eq_int _ hu a b w
 now:=⟨_,hu,.inl λa b=>by simp only[Instr.sameNow,Sw,Dq]⟩
 bits:=λa=>by unfold Instr.sameBits;simp
theorem qG(he:P.underlying e=some (.int .i64)){xs}{off:Nat}{v}(hx:xs[off]? =some v)(w:World):(Go.part e xs off).run P w= .ok v w:=by
 simp[Go.part,isAgg,run_underlying he,hx]
abbrev sn(p:Int×Int):Array Value:= #[.int .i64 p.1,.int .i64 p.2]
theorem MQ(he:P.underlying e=some (.int .i64))(a:Int×Int)(w:World):(Go.part e (sn a) 0).run P w= .ok (.int .i64 a.1) w:=qG he rfl w
theorem xe(he:P.underlying e=some (.int .i64))(a:Int×Int)(w:World):(Go.part e (sn a) 1).run P w= .ok (.int .i64 a.2) w:=qG he rfl w
theorem HI{i:TypeInfo}(hu:P.underlying kt=some (.array 2 e))(he:P.underlying e=some (.int .i64))(hi:P.info? e=some i)(hs:i.size=1)(b:Bool)(n:Nat)(a:Int×Int)(w:World):(Instr.checkKey b (n+1+1) kt (.agg (sn a))).run P w= .ok () w:=by
 have c:(sizeOf e).run P w= .ok 1 w:=by simp[sizeOf,typeInfo,program,Sem.run,hi,hs]
 have hr:List.range' 0 2=[0,1]:=rfl;rw[Instr.checkKey];simp only[Sem.run_bind,run_underlying hu,Result.andThen_ok];simp only[Std.Legacy.Range.forIn_eq_forIn_range',Std.Legacy.Range.size,Uz,Nat.add_one_sub_one,Nat.div_one];rw[hr];simp only[List.forIn_cons,List.forIn_nil,Sem.run_bind,c,Result.andThen_ok,Sem.run_pure,Uf,MQ he,xe he,Dz b n he]
theorem KN{i:TypeInfo}(hu:P.underlying kt=some (.array 2 e))(he:P.underlying e=some (.int .i64))(hi:P.info? e=some i)(hs:i.size=1)(n:Nat)(a b:Int×Int)(w:World):(Op.equalIn (n+1+1) kt (.agg (sn a)) (.agg (sn b))).run P w= .ok (decide (a=b)) w:=by
 have c:P.cellsOf e=1:=by simp[Program.cellsOf,hi,hs]
 rw[run_equalIn_array w (n+1) _ _ hu hi,c];show(Op.eqItems (n+1) e 1 _ _ [0,1]).run P w=_;simp only[Op.eqItems,Sem.run_bind,Uf,MQ he,xe he,Result.andThen_ok,eq_int n he,Sem.run_pure];obtain⟨d,a2⟩:=a;obtain⟨f,g⟩:=b;by_cases h1:d=f<;>by_cases h2:a2=g<;>simp[h1,h2,Sem.run_bind,xe he,eq_int n he,Op.eqItems]
theorem LA{i:TypeInfo}(hu:P.underlying kt=some (.array 2 e))(he:P.underlying e=some (.int .i64))(hi:P.info? e=some i)(hs:i.size=1):jK P kt (λp:Int×Int=>Value.agg (sn p)) where
 p6:=λb a w=>HI hu he hi hs b 9998 a w
 eql:=λa b w=>KN hu he hi hs 9998 a b w
 now:=⟨_,hu,.inr λa b=>by simp only[Instr.sameNow]⟩
 bits:=λa=>by
  have h:=fun(n:Nat) (x:Int)=>show Instr.sameBits n (.int .i64 x) (.int .i64 x)=true by unfold Instr.sameBits;simp
  show Instr.sameBits (9999+1) _ _=true;rw[Instr.sameBits];simp only[List.zip_cons_cons,UL,h]
  rfl
end
open Net
theorem Li:yJ prog 204=some (3,28):=by kernel_rfl
theorem Lj:yJ prog 205=some (59,4):=by kernel_rfl
theorem P7:M5 prog 28=some (.slice none 0 0):=by kernel_rfl
theorem Qp:M5 prog 4=some (.bool false):=by kernel_rfl
theorem NU:Bk prog 28=true:=by kernel_rfl
abbrev KK(n:Int):Value:=.int .i64 n
abbrev KL(p:Int×Int):Value:=.agg (sn p)
theorem K5:jK prog 3 KK:=Nz Tryz.underlying3
theorem K6:jK prog 59 KL:=by
 have h:(prog.info? 3).map (·.size)=some 1:=by kernel_rfl
 obtain⟨i,h1,h2⟩:=R8.1 h;exact LA Tryz.underlying59 Tryz.underlying3 h1 h2
theorem HF(a b:Int):prog.built 59 [(0,.int .i64 a),(1,.int .i64 b)]=some #[.int .i64 a,.int .i64 b]:=by kernel_rfl
theorem JU{P:Program}{σ t}{o:Oper}{ty x y}{a b:Int}(h:o.op= .build ty #[(0,x),(1,y)])(hx:aH t x=some (num a))(hy:aH t y=some (num b))(hb:P.built ty [(0,.int .i64 a),(1,.int .i64 b)]=some #[.int .i64 a,.int .i64 b]):bE P σ t o (.agg [num a,num b]):=by
 intro F base E ρ w f j g;have e:=run_build (P:=P) w ty #[(0,.int .i64 a),(1,.int .i64 b)] #[.int .i64 a,.int .i64 b] hb;have h0:ρ x= .int .i64 a:=fW (aD f g hx);have h1:ρ y= .int .i64 b:=fW (aD f g hy);have hr:(execOp ρ o).run P w= .ok (.value (.agg #[.int .i64 a,.int .i64 b])) w:=by
  simp only[execOp,h,Sem.run_bind,SZ,R7,So,h0,h1,e,Result.andThen_ok,Sem.run_pure]
 rw[hr];refine bI (.agg #[.int .i64 a,.int .i64 b] _ rfl (λi x u d c=>?_))
 match i,d,c with
 |0,d,c=>simp at d c;subst d;subst c;exact .raw _
 |1,d,c=>simp at d c;subst d;subst c;exact .raw _
 |_+2,d,c=>simp at c
section
variable {κ:Type} [DecidableEq κ]
theorem wO(k:κ)(p:PV):∀l:List (κ×PV),ei k (jR k p l)=some p
 | []=>by simp[jR,ei]
 |(a,q)::l=>by
  unfold jR;split
  ·rename_i h;simp[ei,h]
  ·rename_i h;simp only[ei,QZ h];exact wO k p l
theorem JR{P σ t}{o:Oper}{x y ty b}{m:Option PV}(a:o.op= .binOp .eql ty x y b)(hk:Bk P ty=true)(hx:aH t x=some (m.getD (.raw (.slice none 0 0))))(hy:aH t y=some (.raw (.slice none 0 0)))(hm:∀v,m=some v->∃n xs,v= .slice n xs/\0<n):bE P σ t o (.raw (.bool m.isNone)):=by
 cases m with
 |none=>exact Mj a hk hx hy
 |some v=>
  obtain⟨n,xs,rfl,hn⟩:=hm v rfl;exact oh a hk hx hy hn
end
def lH(T:ak)(D:List Bool)(dm:List (Int×PV)):Prop:=∀k v,(k,v)∈dm->∃d:Nat,k=(d:Int)/\(d:Int)<T.nodes/\v=aq (bJ T D d false)
def mw(T:ak)(D:List Bool)(um:List ((Int×Int)×PV)):Prop:=∀k v,(k,v)∈um->v=flag (fN T D k.1 k.2)
theorem lH.pure{T D}{dm:List (Int×PV)}(h:lH T D dm):mT (some (.mp (gW KK dm))):=λb hb=>by
 cases hb;refine⟨λi u hu=>?_⟩;have hm:=Ro hu;simp only[gW,UU,RB,Function.comp]at hm;obtain⟨⟨k,v⟩,a,rfl⟩:=hm;obtain⟨d,_,_,hv⟩:=h k v a;show IsPure v;rw[hv]
 infer_instance
abbrev UY:=@lH.pure
theorem mw.pure{T D}{um:List ((Int×Int)×PV)}(h:mw T D um):mT (some (.mp (gW KL um))):=λb hb=>by
 cases hb;refine⟨λi u hu=>?_⟩;have hm:=Ro hu;simp only[gW,UU,RB,Function.comp]at hm;obtain⟨⟨k,v⟩,a,rfl⟩:=hm;show IsPure v;rw[h k v a]
 infer_instance
abbrev UZ:=@mw.pure
theorem lH.set{T:ak}{D}{dm:List (Int×PV)}(h:lH T D dm){d:Nat}(hd:(d:Int)<T.nodes):lH T D (jR (d:Int) (aq (bJ T D d false)) dm):=λk v hk=>by
 rcases uG hk with e|e
 ·cases e;exact⟨d,rfl,hd,rfl⟩
 ·exact h k v e
theorem mw.set{T D}{um:List ((Int×Int)×PV)}(h:mw T D um)(a b:Int):mw T D (jR (a,b) (flag (fN T D a b)) um):=λk v hk=>by
 rcases uG hk with e|e
 ·cases e;rfl
 ·exact h k v e
theorem lH.look{T D}{dm:List (Int×PV)}(h:lH T D dm){d:Nat}{v}(hl:ei (d:Int) dm=some v):v=aq (bJ T D d false):=by
 obtain⟨a,h1,_,h2⟩:=h _ _ (kq hl);have:a=d:=by omega
 subst this;exact h2
def yN(T:ak)(n:Int)(p:List Int):List Int:=n::p.map λa=>aN T a.toNat
def yn(T:ak)(p:List Int):List Int:=(List.range (p.length+1)).map λi=>dB T (p.take i)
theorem yP(T:ak)(n:Int)(p:List Int):(yN T n p).length=p.length+1:=by simp[yN]
theorem DG(T:ak)(p:List Int):(yn T p).length=p.length+1:=by simp[yn]
theorem ID(T:ak)(n:Int)(p:List Int)(k:Nat)(h:k<p.length):yN T n (p.take (k+1))=yN T n (p.take k)++[aN T (p.getD k 0).toNat]:=by
 rw[dE p k 0 h];simp[yN]
theorem HN(T:ak)(p:List Int)(k:Nat)(h:k<p.length):yn T (p.take (k+1))=yn T (p.take k)++[dB T (p.take (k+1))]:=by
 unfold yn;rw[show(p.take (k+1)).length+1=(p.take k).length+1+1 by simp;omega,R2,Sm];congr 1
 ·refine Se λi hi=>?_;have:=Ri.1 hi;rw[TH,TH,Tt (by simp at this;omega),Tt (by simp at this;omega)]
 ·simp only[R7,So,TH];rw[Tt (by simp;omega),show(p.take k).length+1=k+1 by simp;omega]
theorem yO(T:ak)(n:Int)(p:List Int)(i:Nat)(h:i<=p.length):(yN T n p).getD i 0=cV T n (p.take i):=by
 cases i with
 |zero=>rfl
 |succ i=>
  rw[fP T n p i (by omega)];simp only[yN,Uu];rw[QU,RE,QX (by omega),QU,QX (by omega)]
  rfl
theorem DF(T:ak)(p:List Int)(i:Nat)(h:i<=p.length):(yn T p).getD i 0=dB T (p.take i):=by
 unfold yn;rw[QU,RE,Th (by omega)]
 rfl
def fG(T:ak)(D:List Bool)(n:Int)(p:List Int):Int:=if(av T&&bN T D)=true then(if eI T n p=0 then(if p.any (λa=>aI D a.toNat) then 7 else 0) else eI T n p) else 1
abbrev P5(T:ak)(D:List Bool)(p:List Int)(i:Nat):Option cX:=some (.cells 207 (bn T++[aV D,aq p,.own i,.own (i+1),.own (i+2),.own (i+3)]))
def GF(T:ak)(D:List Bool)(p a cs:List Int)(dm:List (Int×PV))(um:List ((Int×Int)×PV)):ca:=
 [eL a,eL cs,some (.mp (gW KK dm)),some (.mp (gW KL um)),P5 T D p 0]
theorem mj{T}:∀ {f} {n:Int} {l:List Int},eo T f n l=0->∀a∈l,ef T a=true
 |f,n,[],_,a,c=>by cases c
 |f,n,b::l,h,a,c=>by
  simp only[eo]at h;split at h
  ·omega
  ·split at h
   ·omega
   ·rename_i h1 _;rcases RA.1 c with rfl|c
    ·simpa using h1
    ·exact mj h a c
theorem mJ{T}{n:Int}{p:List Int}(h:eI T n p=0):av T=true/\aX T n=true/\eo T true n p=0:=by
 unfold eI at h;split at h
 ·rename_i h1;split at h
  ·rename_i h2;exact⟨h1,h2,h⟩
  ·omega
 ·omega
theorem jl{T}(hv:av T=true){p:List Int}(b:∀a∈p,ef T a=true):∀k,k<=p.length->0<=dB T (p.take k)/\dB T (p.take k)<=65535*k
 |0,_=>by simp[ja]
 |k+1,h=>by
  have:=jl hv b k (by omega);rw[mC T p k (by omega)];have:=(kh hv (b _ (bX (d:=0) (show k<p.length by omega)))).1;omega
theorem Cc(T:ak)(D:List Bool)(p:List Int)(n:Int)(hp:p.length<=1000)(P:T.ah.length<=256):bM prog 162 [aL T,aV D,aq p,num n] [] (λr σ'=>(fG T D n p≠0/\r= .tuple [.raw (.pointer none),num (fG T D n p)])\/(fG T D n p=0/\r= .tuple [.ptr 4 0,num 0]/\σ'=GF T D p (yN T n p) (yn T p) [] [])):=by
 have⟨z,l⟩:=QQ (av T);have⟨F,o⟩:=QQ (bN T D);refine cF func162 I ntmps162 I<|ab (.a 3 I<|.k [1,2,3,4] I)<|ai<|bz 25 (.raw (.bool ((!z)|| !F))) [1,2,3,4] I ?_ ?_
 ·refine .a 1 I<|.c rfl (l▸fv T) I<|.a 2 I<|?_;cases z
  ·exact .a 5 I<|.k [25,1,2,3,4] I
  ·exact .a 2 I<|.c rfl (o▸nH T D (by omega)) I<|.a 2 I<|.k [25,1,2,3,4] I
 refine ae I (λhc=>?_) (λhc=>?_)
 ·have he:fG T D n p=1:=by unfold fG;rw[l,o];cases z<;>cases F<;>first|rfl|cases hc
  exact ab (.a 2 I<|.k [8,9] I)<|ao<|⟨_,RY I,.inl ⟨by rw[he];decide,by rw[he];rfl⟩⟩
 ·have hv:av T=true:=by rw[l];cases z;cases hc;rfl
  have H:bN T D=true:=by rw[o];cases F;cases z<;>cases hc;rfl
  have q:(av T&&bN T D)=true:=by rw[hv,H];rfl
  refine aj<|ai<|ab (.a 3 I<|.c rfl (AR T n p (by omega)) I<|.a 7 I<|.k [1,2,3,4,12] I)<|ab (.a 2 I<|.k [1,2,3,4,12,35] I)<|ae I (λhx=>?_) (λhx=>?_)
  ·have c:eI T n p≠0:=tt hx;have he:fG T D n p=eI T n p:=by unfold fG;rw[QY q,QZ c]
   exact ab (.a 3 I<|.k [8,9] I)<|ao<|⟨_,RY I,.inl ⟨by rw[he];exact c,by rw[he];rfl⟩⟩
  ·have c:eI T n p=0:=Q4 (ff hx);obtain⟨_,hn,hw⟩:=mJ c;have G:=mj hw;have B:=jl hv G;refine aj<|aK<|au 4 I<|cb (jZ (xs:=[_]) I (S3 I) ⟨Re rfl,Re rfl⟩ rfl rfl) I<|cb (jZ (xs:=[_]) I (S3 I) ⟨Re rfl,Re rfl⟩ rfl rfl) I<|cb (rE KK rfl) I<|cb (rE KL rfl) I<|au 1 I<|cb (fV I I I) I<|au 1 I<|aE [1,2,4,13] I ?_;refine ab (.a 1 I<|.k [1,2,4,13,14] I)<|ai<|ab (.a 3 I<|.k [1,4,13,14,47,48,49] I)<|aw<|eF [1,4,13,14,47,48,49] I<|bd (λr st=>∃k:Nat,k<=p.length/\r=p.length - k/\(∀a∈p.take k,aI D a.toNat=false)/\st=⟨[(1,aV D),(4,.bq (bn T) 0),(13,.ptr 4 0),(14,num (dB T (p.take k))),(47,aq p),(48,num p.length),(49,num k)],GF T D p (yN T n (p.take k)) (yn T (p.take k)) [] []⟩) p.length ⟨0,by omega,by omega,by simp,rfl⟩ ?_;rintro r st ⟨k,hk,rfl,j,rfl⟩;have L:=B k hk;have M:=yP T n (p.take k);have N:=DG T (p.take k);have O:(p.take k).length=k:=by simp;omega
   refine ab (.a 1 I<|.k [1,4,13,14,47,48,49,50] I)<|ai<|ae I (λhy=>?_) (λhy=>?_)
   ·have b:k<p.length:=by have:=tt hy;omega
    have f:=bX (d:=0) b;have s:=G _ f;obtain⟨A,m,hm,Q⟩:=kh hv s;have g:=ID T n p k b;have w:=HN T p k b;have i:=mC T p k b;have t:=s;simp only[ef,Ra]at t;obtain⟨a,e⟩:∃a:Nat,p.getD k 0=(a:Int):=⟨(p.getD k 0).toNat,by omega⟩;have u:a<2*T.ah.length:=by omega
    have K:D.length=0\/a<D.length:=by simp only[bN,Ra]at H;omega
    rw[e,QS]at hm A g i;have J:=iH T a u (by omega);rw[hm]at J;refine aj<|ai<|aw<|ab (.v (aM (k) I) I<|.v (aJ I ((aB p k b).trans (by rw[e]))) I<|.a 1 I<|.k [1,4,13,14,16,47,48,49] I)<|ai<|ab (.a 2 I<|.c rfl (kI D a K) I<|.k [1,4,13,14,16,47,48,49,55] I)<|ae I (λE=>?_) (λE=>?_)
    ·have he:fG T D n p=7:=by
      unfold fG;rw[QY q,QY c,QY];exact S0.2 ⟨_,f,by rw[e];exact E⟩
     exact ab (.a 2 I<|.k [8,9] I)<|ao<|⟨_,RY I,.inl ⟨by rw[he];decide,by rw[he];rfl⟩⟩
    ·have v:∀a∈p.take (k+1),aI D a.toNat=false:=λx hx=>by
      rw[dE p k 0 b]at hx;rcases RR.1 hx with h|h
      ·exact j x h
      ·simp only[Rj]at h;rw[h,e];exact E
     refine aj<|ab (.a 3 I<|.c rfl (nv T a u) I<|.v (aW I) I<|.a 1 I<|.k [1,4,13,14,16,47,48,49] I)<|jt 9 20 mixed (.late [13] I (jQ rfl rfl) inferInstance rfl rfl<|.val [13] I (bb I) I I<|.val [62] I (bb I) I I<|.val [63] I (bb I) I I<|.val [64] I (bb I) I I<|.val [4] I (bb I) I I<|.val [16] I (bb I) I I<|.val [66,67] I (dX I (J)) I I<|.val [68] I (bb I) I I<|.nil) (by kernel_rfl) I I (aR (ks:=[1,4,13,14,47,48,49,61,65,69]) I) ?_;refine cb (bF I (Ru I) I I I I (by unfold maxLen;omega)) I<|au 3 I ?_;refine dL [5,1,2,3,4] (.c 1<|.c 4<|.c 13<|.c 14<|.c 47<|.c 48<|.c 49<|.nil) (.kept rfl (.eY rfl (cW _ _))<|.kept rfl (.row RZ)<|.same (UY (T:=T) (D:=D) (dm:=[]) (λ_ _ h=>by cases h)) I<|.same (UZ (T:=T) (D:=D) (um:=[]) (λ_ _ h=>by cases h)) I<|.kept rfl (.cells (Sr<|Sr<|Sr<|Sr<|Sr<|Sr<|Sr<|Sr<|Sr<|Sy))<|.nil) I I (bg ?_);refine bx<|au 7 I<|cb (bF I (Ru I) I I I I (by unfold maxLen;omega)) I<|au 3 I ?_;refine dL [0,5,2,3,4] (.c 1<|.c 4<|.c 13<|.c 14<|.c 47<|.c 48<|.c 49<|.nil) (.kept rfl (.row RZ)<|.kept rfl (.eY rfl (cW _ _))<|.same (UY (T:=T) (D:=D) (dm:=[]) (λ_ _ h=>by cases h)) I<|.same (UZ (T:=T) (D:=D) (um:=[]) (λ_ _ h=>by cases h)) I<|.kept rfl (.cells (Sr<|Sr<|Sr<|Sr<|Sr<|Sr<|Sr<|Sr<|Sr<|Sy))<|.nil) I I (bg ?_);refine aC (.v (aW I) I<|.a 1 I<|.k [1,4,13,14,47,48,49] I)<|⟨p.length - (k+1),by omega,k+1,by omega,rfl,v,?_⟩;rw[g,w,i,hm];unfold GF eL;simp only[Q0,Rk]
     rfl
   ·have C:k=p.length:=by have:=ff hy;omega
    subst C;rw[RC]at j;refine ba<|ab (.a 3 I<|.k [8,9] I)<|ao<|⟨_,RY I,.inr ⟨?_,rfl,by rw[RC]⟩⟩;unfold fG;rw[QY q,QY c,QZ];intro h;obtain⟨x,hx,y⟩:=S0.1 h;rw[j x hx]at y;cases y
noncomputable def fc(T:ak)(D:List Bool)(n:Int)(p:List Int)(i j:Nat):Bool:=
 decide (dN T D (cV T n (p.take j)).toNat (cV T n (p.take i)).toNat=dB T (p.take j) - dB T (p.take i))&&fN T D (cV T n (p.take i)) (cV T n (p.take j))
theorem cJ{T:ak}(hv:av T=true){n:Int}(hn:aX T n=true){p:List Int}(b:∀a∈p,ef T a=true)(i:Nat)(hi:i<=p.length):∃u:Nat,cV T n (p.take i)=(u:Int)/\(u:Int)<T.nodes:=by
 cases i with
 |zero=>
  obtain⟨h0,h1⟩:=aQ.1 hn;obtain⟨u,hu⟩:=QW h0;exact⟨u,hu,by rw[<-hu];exact h1⟩
 |succ i=>
  rw[fP T n p i (by omega)];exact(kh hv (b _ (bX (d:=0) (show i<p.length by omega)))).2
theorem yj{T:ak}{D}(hv:av T=true)(a:bN T D=true){d:Nat}(hd:(d:Int)<T.nodes):ct T D [(d:Int)]=0:=by
 unfold ct;rw[hv,a];have:aX T (d:Int)=true:=aQ.2 ⟨by omega,hd⟩;simp[this]
theorem zX(T:ak)(D:List Bool)(p:List Int)(n:Int)(dm:List (Int×PV))(um:List ((Int×Int)×PV))(x:Option cX)(hx:mT x)(hv:av T=true)(V:bN T D=true)(cS:T.nodes<=12)(hn:aX T n=true)(K:∀a∈p,ef T a=true)(hp:p.length<=1000)(i j:Nat)(hi:i<=p.length)(hj:j<=p.length)(s:lH T D dm)(f:mw T D um):
    bM prog 163 [.ptr 4 0,num i,num j] (GF T D p (yN T n p) (yn T p) dm um++[x]) (λr σ'=>r=flag (fc T D n p i j)/\∃B J,lH T D B/\mw T D J/\σ'=GF T D p (yN T n p) (yn T p) B J++[x]):=by
  obtain⟨u,hu,Y⟩:=cJ hv hn K i hi;obtain⟨y,hy,A⟩:=cJ hv hn K j hj;have L:fc T D n p i j=(decide (dN T D y u=dB T (p.take j) - dB T (p.take i))&&fN T D u y):=by unfold fc;rw[hu,hy,QS,QS]
  rw[L];obtain⟨Q,R⟩:=dD (D:=D) hv (dir:=false) A;have P:=aS hv;have O:=P.nodes;have M:Can prog 151 [aL T,aV D,num y] (· = .tuple [aq (bJ T D y false),num 0]):=by
    have h:=tT T D (y:Int);rw[yj hv V A]at h;exact h
  have S:=jl hv K i hi;have U:=jl hv K j hj;have W:=yP T n p;have X:=DG T p;have C:=yO T n p i hi;have E:=yO T n p j hj;have F:=DF T p i hi;have G:=DF T p j hj;rw[hu]at C;rw[hy]at E;have N:∀v,ei (y:Int) dm=some v->∃n xs,v= .slice n xs/\0<n:=λv h=>⟨_,_,s.look h,by omega⟩;refine cF func163 I ntmps163 I<|ab (.a 1 I<|.k [0,1,2] I)<|er mixed (by kernel_rfl) (.a 5 I<|.v [15,16] (aM (i) I) I I<|.v [17] (aJ I ((aB _ i (by omega)).trans (by rw[C]))) I I<|.a 5 I<|.v [22,23] (aM (j) I) I I<|.v [24] (aJ I ((aB _ j (by omega)).trans (by rw[E]))) I I<|.a 2 I<|.k [0,1,2,7,8] I) ?_;refine ai<|ab (.a 5 I<|.v (zr K5 rfl Li P7 rfl rfl rfl (rD _) I) I<|.v (JR I NU rfl rfl N) I<|.k [0,1,2,7,8,32] I)<|ae I (λh1=>?_) (λh1=>?_)
  · obtain ⟨g, l⟩ : ∃ z, jR (y : Int) (aq (bJ T D y false)) dm = z := ⟨_, rfl⟩;have c:lH T D g:=by rw[<-l];exact s.set A
    have w:ei (y:Int) g=some (aq (bJ T D y false)):=by rw[<-l];exact wO _ _ _
    refine dh 18 20 mixed (.val [0] I (bb I) I I<|.val [34] I (bb I) I I<|.val [35] I (bb I) I I<|.val [36] I (bb I) I I<|.val [8] I (bb I) I I<|.val [0] I (bb I) I I<|.val [39] I (bb I) I I<|.val [40] I (bb I) I I<|.val [41] I (bb I) I I<|.val [0] I (bb I) I I<|.val [43] I (bb I) I I<|.val [44] I (bb I) I I<|.val [45] I (bb I) I I<|.val [8] I (bb I) I I<|.val [42,46,47] I (dX I (M)) I I<|.val [48] I (bb I) I I<|.val [33] I (bb I) I I<|.late [33] I (xi rfl rfl rfl) inferInstance rfl rfl<|.nil) (by kernel_rfl) I I (aR (ks:=[0,1,2,7,8,37,38,49]) I)<|bc (qj K5 rfl Li rfl rfl rfl (rD _) I) I I<|aE [0,1,2,7,8] I ?_;refine eO (σ':=GF T D p (yN T n p) (yn T p) g um++[x]) (by rw[<-l];rfl)<|ai<|er mixed (by kernel_rfl) (.a 5 I<|.v [54,55] (zr K5 rfl Li P7 rfl rfl rfl (rD _) (by rw[w])) I I<|.a 1 I<|.v [56,57] (aM (u) I) I I<|.v [58] (aJ I (aB _ u (by omega))) I I<|.a 5 I<|.v [63,64] (aM (j) I) I I<|.v [65] (aJ I ((aB _ j (by omega)).trans (by rw[G]))) I I<|.a 5 I<|.v [70,71] (aM (i) I) I I<|.v [72] (aJ I ((aB _ i (by omega)).trans (by rw[F]))) I I<|.v [66,73] (aW I) I I<|.a 1 I<|.k [0,7,8,75] I) ?_;refine ae I (λh2=>?_) (λh2=>?_)
    · have q:dN T D y u≠dB T (p.take j) - dB T (p.take i):=tt h2;refine ab (.a 1 I<|.k [6] I)<|ao<|⟨_,RY I,?_,_,_,c,f,rfl⟩;rw[Rg q]
      rfl
    · have q:dN T D y u=dB T (p.take j) - dB T (p.take i):=Q4 (ff h2);obtain⟨b,hb⟩:∃b:Bool,(ei ((u:Int),(y:Int)) um).getD (.raw (.bool false))=flag b:=by
        cases h:ei ((u:Int),(y:Int)) um with
        |none=>exact⟨false,rfl⟩
        |some v=>exact⟨_,f _ _ (kq h)⟩
      refine aj<|aK<|au 2 I<|bm (JU I I I (HF _ _)) I<|au 2 I<|aE [0,7,8,9] I ?_;refine eO (σ':=GF T D p (yN T n p) (yn T p) g um++[x,some (.cells 59 [num u,num y])]) I<|er mixed (by kernel_rfl) (.a 5 I<|.v [83,84] (En K6 rfl Lj Qp rfl rfl rfl (s9 _ _) hb rfl) I I<|.a 5 I<|.k [0,7,8,9,10,11] I) ?_;refine ai<|ab (.a 2 I<|.k [0,7,8,9,10,89] I)<|ae I (λt=>?_) (λt=>?_)
      · have⟨o,e⟩:=QQ (jR ((u:Int),(y:Int)) (flag (fN T D u y)) um);have d:mw T D o:=by rw[<-e];exact f.set u y
        refine er mixed (by kernel_rfl) (.a 10 I<|.v [93,97,98,99] (dX I (vq T D u y cS)) I I<|.a 1 I<|.k [0,9,10] I)<|dh 6 20 mixed (.val [0] I (bb I) I I<|.val [101] I (bb I) I I<|.val [102] I (bb I) I I<|.val [103] I (bb I) I I<|.val [9] I (bb I) I I<|.val [10] I (bb I) I I<|.nil) (by kernel_rfl) I I (aR (ks:=[10,104,105,106]) I) ?_;refine bc (qj K6 (k:=((u:Int),(y:Int))) I Lj rfl rfl rfl (s9 (.int .i64 (u:Int)) (.int .i64 (y:Int))) I) I I<|aE [10] I ?_;refine eO (σ':=GF T D p (yN T n p) (yn T p) g o++[x,some (.cells 59 [num u,num y])]) (by rw[<-e];rfl) ?_;obtain⟨b,m⟩:∃b,b=fN T D u y:=⟨_,rfl⟩;refine ab (.a 2 I<|.k [6] I)<|dS [0,1,2,3,4,5] (.c 6<|.nil) (.kept rfl (.row RZ)<|.kept rfl (.row RZ)<|.same (UY c) I<|.same (UZ d) I<|.kept rfl (.cells (Sr<|Sr<|Sr<|Sr<|Sr<|Sr<|Sr<|Sr<|Sr<|Sy))<|.same hx rfl<|.nil) I I ?_;refine ao<|⟨_,RY I,?_,_,_,c,d,rfl⟩;rw[Rb q,RM];first
          |rfl
          |(rw[m];rfl)
      · have m:b=fN T D u y:=by
          cases h:ei ((u:Int),(y:Int)) um with
          |none=>rw[h]at t;cases t
          |some v=>
            rw[h,f _ _ (kq h)]at hb;have:=hb;simp only[SM]at this;cases this
            rfl
        have d:=f;obtain⟨o,e⟩:∃z,z=um:=⟨_,rfl⟩;subst e;refine aj<|ab (.a 2 I<|.k [6] I)<|dS [0,1,2,3,4,5] (.c 6<|.nil) (.kept rfl (.row RZ)<|.kept rfl (.row RZ)<|.same (UY c) I<|.same (UZ d) I<|.kept rfl (.cells (Sr<|Sr<|Sr<|Sr<|Sr<|Sr<|Sr<|Sr<|Sr<|Sy))<|.same hx rfl<|.nil) I I ?_;refine ao<|⟨_,RY I,?_,_,_,c,d,rfl⟩;rw[Rb q,RM];first
          |rfl
          |(rw[m];rfl)
  · obtain ⟨v, H⟩ : ∃ v, ei (y : Int) dm = some v := by
      cases h:ei (y:Int) dm with
      |none=>rw[h]at h1;cases h1
      |some v=>exact⟨v,rfl⟩
    have w:ei (y:Int) dm=some (aq (bJ T D y false)):=by rw[H,s.look H]
    have c:=s;obtain⟨g,l⟩:∃z,z=dm:=⟨_,rfl⟩;subst l;refine aj<|ai<|er mixed (by kernel_rfl) (.a 5 I<|.v [54,55] (zr K5 rfl Li P7 rfl rfl rfl (rD _) (by rw[w])) I I<|.a 1 I<|.v [56,57] (aM (u) I) I I<|.v [58] (aJ I (aB _ u (by omega))) I I<|.a 5 I<|.v [63,64] (aM (j) I) I I<|.v [65] (aJ I ((aB _ j (by omega)).trans (by rw[G]))) I I<|.a 5 I<|.v [70,71] (aM (i) I) I I<|.v [72] (aJ I ((aB _ i (by omega)).trans (by rw[F]))) I I<|.v [66,73] (aW I) I I<|.a 1 I<|.k [0,7,8,75] I) ?_;refine ae I (λh2=>?_) (λh2=>?_)
    · have q:dN T D y u≠dB T (p.take j) - dB T (p.take i):=tt h2;refine ab (.a 1 I<|.k [6] I)<|ao<|⟨_,RY I,?_,_,_,c,f,rfl⟩;rw[Rg q]
      rfl
    · have q:dN T D y u=dB T (p.take j) - dB T (p.take i):=Q4 (ff h2);obtain⟨b,hb⟩:∃b:Bool,(ei ((u:Int),(y:Int)) um).getD (.raw (.bool false))=flag b:=by
        cases h:ei ((u:Int),(y:Int)) um with
        |none=>exact⟨false,rfl⟩
        |some v=>exact⟨_,f _ _ (kq h)⟩
      refine aj<|aK<|au 2 I<|bm (JU I I I (HF _ _)) I<|au 2 I<|aE [0,7,8,9] I ?_;refine eO (σ':=GF T D p (yN T n p) (yn T p) g um++[x,some (.cells 59 [num u,num y])]) I<|er mixed (by kernel_rfl) (.a 5 I<|.v [83,84] (En K6 rfl Lj Qp rfl rfl rfl (s9 _ _) hb rfl) I I<|.a 5 I<|.k [0,7,8,9,10,11] I) ?_;refine ai<|ab (.a 2 I<|.k [0,7,8,9,10,89] I)<|ae I (λt=>?_) (λt=>?_)
      · have⟨o,e⟩:=QQ (jR ((u:Int),(y:Int)) (flag (fN T D u y)) um);have d:mw T D o:=by rw[<-e];exact f.set u y
        refine er mixed (by kernel_rfl) (.a 10 I<|.v [93,97,98,99] (dX I (vq T D u y cS)) I I<|.a 1 I<|.k [0,9,10] I)<|dh 6 20 mixed (.val [0] I (bb I) I I<|.val [101] I (bb I) I I<|.val [102] I (bb I) I I<|.val [103] I (bb I) I I<|.val [9] I (bb I) I I<|.val [10] I (bb I) I I<|.nil) (by kernel_rfl) I I (aR (ks:=[10,104,105,106]) I) ?_;refine bc (qj K6 (k:=((u:Int),(y:Int))) I Lj rfl rfl rfl (s9 (.int .i64 (u:Int)) (.int .i64 (y:Int))) I) I I<|aE [10] I ?_;refine eO (σ':=GF T D p (yN T n p) (yn T p) g o++[x,some (.cells 59 [num u,num y])]) (by rw[<-e];rfl) ?_;obtain⟨b,m⟩:∃b,b=fN T D u y:=⟨_,rfl⟩;refine ab (.a 2 I<|.k [6] I)<|dS [0,1,2,3,4,5] (.c 6<|.nil) (.kept rfl (.row RZ)<|.kept rfl (.row RZ)<|.same (UY c) I<|.same (UZ d) I<|.kept rfl (.cells (Sr<|Sr<|Sr<|Sr<|Sr<|Sr<|Sr<|Sr<|Sr<|Sy))<|.same hx rfl<|.nil) I I ?_;refine ao<|⟨_,RY I,?_,_,_,c,d,rfl⟩;rw[Rb q,RM];first
          |rfl
          |(rw[m];rfl)
      · have m:b=fN T D u y:=by
          cases h:ei ((u:Int),(y:Int)) um with
          |none=>rw[h]at t;cases t
          |some v=>
            rw[h,f _ _ (kq h)]at hb;have:=hb;simp only[SM]at this;cases this
            rfl
        have d:=f;obtain⟨o,e⟩:∃z,z=um:=⟨_,rfl⟩;subst e;refine aj<|ab (.a 2 I<|.k [6] I)<|dS [0,1,2,3,4,5] (.c 6<|.nil) (.kept rfl (.row RZ)<|.kept rfl (.row RZ)<|.same (UY c) I<|.same (UZ d) I<|.kept rfl (.cells (Sr<|Sr<|Sr<|Sr<|Sr<|Sr<|Sr<|Sr<|Sr<|Sy))<|.same hx rfl<|.nil) I I ?_;refine ao<|⟨_,RY I,?_,_,_,c,d,rfl⟩;rw[Rb q,RM];first
          |rfl
          |(rw[m];rfl)
theorem pF(l:List bG)(e:bG):eP l++pE e=eP (l++[e]):=by simp[eP]
theorem jf(l:List bG):(eP l).length=l.length*2:=by
 induction l with
 |nil=>rfl
 |cons a l b=>simp only[eP,RL,Q0,Q8]at*;rw[b];simp[pE];omega
def kc(c:Nat->Bool)(i:Nat):Nat->Option Nat
 |0=>none
 |m+1=>if m+1<=i then none else if c (m+1) then some (m+1) else kc c i m
theorem rW{c:Nat->Bool}{i j:Nat}(a:i<j)(hc:c j=true):∀m,j<=m->(∀k,j<k->k<=m->c k=false)->kc c i m=some j
 |0,h,_=>by omega
 |m+1,h,hn=>by
  unfold kc;rw[QZ (by omega)];by_cases e:j=m+1
  ·subst e;rw[QY hc]
  ·rw[QZ (by rw[hn (m+1) (by omega) (by omega)];simp)];exact rW a hc m (by omega) (λk h1 h2=>hn k h1 (by omega))
theorem rV{c:Nat->Bool}{i:Nat}:∀m,(∀k,i<k->k<=m->c k=false)->kc c i m=none
 |0,_=>rfl
 |m+1,hn=>by
  unfold kc;by_cases e:m+1<=i
  ·rw[QY e]
  ·rw[QZ e,QZ (by rw[hn (m+1) (by omega) (by omega)];simp)];exact rV m (λk h1 h2=>hn k h1 (by omega))
theorem oX{c:Nat->Bool}{i:Nat}:∀m j,kc c i m=some j->i<j/\j<=m/\c j=true/\∀k,j<k->k<=m->c k=false
 |0,j,h=>by cases h
 |m+1,j,h=>by
  unfold kc at h;split at h
  ·cases h
  ·split at h
   ·cases h;rename_i h1 h2;exact⟨by omega,by omega,h2,λk f g=>by omega⟩
   ·rename_i h1 h2;obtain⟨a,b,c1,d⟩:=oX m j h;refine⟨a,by omega,c1,λk f g=>?_⟩;by_cases e:k=m+1
    ·subst e;simpa using h2
    ·exact d k f (by omega)
theorem lx{c:Nat->Bool}{i:Nat}:∀m,kc c i m=none->∀k,i<k->k<=m->c k=false
 |0,_,k,h1,h2=>by omega
 |m+1,h,k,h1,h2=>by
  unfold kc at h;split at h
  ·omega
  ·split at h
   ·cases h
   ·rename_i b a;by_cases e:k=m+1
    ·subst e;simpa using a
    ·exact lx m h k h1 (by omega)
noncomputable def iJ(T:ak)(D:List Bool)(n:Int)(p:List Int):Nat->Nat->List bG
 |0,_=>[]
 |f+1,i=>if i<p.length then(match kc (fc T D n p i) i p.length with
  |some j=>⟨1,cV T n (p.take j)⟩::iJ T D n p f j
  |none=>⟨2,p.getD i 0⟩::iJ T D n p f (i+1)) else []
noncomputable def gX(T:ak)(D:List Bool)(n:Int)(p:List Int):List bG:=iJ T D n p p.length 0
section
variable {T:ak} {D:List Bool} {n:Int} {p:List Int}
theorem oG(f i:Nat)(h:p.length<=i):iJ T D n p f i=[]:=by
 cases f with
 |zero=>rfl
 |succ f=>simp only[iJ];rw[QZ (by omega)]
theorem lT{f i j:Nat}(hi:i<p.length)(a:i<j)(hj:j<=p.length)(hc:fc T D n p i j=true)(b:∀k,j<k->k<=p.length->fc T D n p i k=false):iJ T D n p (f+1) i=⟨1,cV T n (p.take j)⟩::iJ T D n p f j:=by
 simp only[iJ];rw[QY hi,rW a hc p.length hj b]
theorem nM{f i:Nat}(hi:i<p.length)(a:∀k,i<k->k<=p.length->fc T D n p i k=false):iJ T D n p (f+1) i=⟨2,p.getD i 0⟩::iJ T D n p f (i+1):=by
 simp only[iJ];rw[QY hi,rV p.length a]
theorem rX:∀ {f} {x:Int} {l m:List Int},eo T f x (l++m)=0->eo T f x l=0/\∃g,eo T g (cV T x l) m=0
 |f,x,[],m,h=>⟨rfl,f,h⟩
 |f,x,a::l,m,h=>by
  simp only[RF,eo]at h ⊢;split at h
  ·omega
  ·rename_i h1;rw[QZ h1];split at h
   ·omega
   ·rename_i h2;rw[QZ h2];exact rX h
theorem Ek(hv:av T=true):∀ {f} {x:Nat} {l:List Int} {y:Nat},eo T f x l=0->(∀a∈l,aI D a.toNat=false)->cV T x l=(y:Int)->Ch T D y x l
 |f,x,[],y,_,_,he=>by
  have:y=x:=by simp only[cV]at he;omega
  subst this;exact .nil
 |f,x,a::l,y,h,hd,he=>by
  simp only[eo]at h;split at h
  ·omega
  ·rename_i h1;split at h
   ·omega
   ·rename_i h2;have d:ef T a=true:=by simpa using h1
    obtain⟨_,m,hm,i⟩:=kh hv d;simp only[ef,Ra]at d;obtain⟨b,rfl⟩:=QW d.1;rw[QS]at hm;simp only[cV,QS]at he h2 h;rw[hm]at he h;have e:=Ek hv h (λc hc=>hd c (by simp[hc])) he;refine .cons (by omega) (Q4 λhn=>h2 (.inl hn)) (hd b (by simp)) hm ?_ e;cases l with
    |nil=>exact .inl rfl
    |cons c l=>
     right;simp only[eo]at h;split at h
     ·omega
     ·split at h
      ·omega
      ·rename_i g;simp only[QS]at g;cases j:bR T m with
       |false=>rfl
       |true=>exact absurd (.inr ⟨trivial,j⟩) g
structure rZ (T:ak) (D:List Bool) (n:Int) (p:List Int):Prop where
 valid:av T=true
 fits:bN T D=true
 node:aX T n=true
 walk:eo T true n p=0
 up:∀a∈p,aI D a.toNat=false
theorem Cb(h:fG T D n p=0):rZ T D n p:=by
 unfold fG at h;split at h
 ·rename_i h1;obtain⟨hv,d⟩:=Q3.1 h1;split at h
  ·rename_i h2;obtain⟨_,hn,hw⟩:=mJ h2;split at h
   ·omega
   ·rename_i b;exact⟨hv,d,hn,hw,λa c=>by
     cases hd:aI D a.toNat with
     |false=>rfl
     |true=>exact absurd (S0.2 ⟨a,c,hd⟩) b⟩
  ·omega
 ·omega
theorem rZ.aA(h:rZ T D n p):∀a∈p,ef T a=true:=mj h.walk
def ev(p:List Int)(i j:Nat):List Int:=(p.drop i).take (j - i)
theorem kB(p:List Int){i j:Nat}(a:i<=j):p.take j=p.take i++ev p i j:=by
 unfold ev;have h:(p.take j)=(p.take j).take i++(p.take j).drop i:=(SQ i _).symm;rw[h,TH,Tt a,List.drop_take]
theorem lW(p:List Int){i j:Nat}(a:i<=j)(hj:j<=p.length):(ev p i j).length=j - i:=by unfold ev;simp;omega
theorem rZ.ch(h:rZ T D n p){i j u y:Nat}(b:i<=j)(hj:j<=p.length)(hu:cV T n (p.take i)=(u:Int))(hy:cV T n (p.take j)=(y:Int)):Ch T D y u (ev p i j):=by
 have h1:eo T true n (p.take j)=0:=(rX (l:=p.take j) (m:=p.drop j) (by rw[SQ];exact h.walk)).1;rw[kB p b]at h1;obtain⟨_,g,c⟩:=rX h1;rw[hu]at c;refine Ek h.valid c (λa d=>h.up a ?_) ?_
 ·exact Tp (Tq d)
 ·rw[<-hu,<-nB,<-kB p b];exact hy
theorem FR(T:ak)(p:List Int){i j:Nat}(a:i<=j):dB T (p.take j) - dB T (p.take i)=dB T (ev p i j):=by
 rw[kB p a,iD];omega
theorem ov(h:rZ T D n p){i j u y:Nat}(b:i<=j)(hj:j<=p.length)(hu:cV T n (p.take i)=(u:Int))(hy:cV T n (p.take j)=(y:Int)):fc T D n p i j=true↔SP T D y u (ev p i j)/\eA T D y u=1:=by
 have c:=h.ch b hj hu hy;have f:=h.aA;obtain⟨u',m,e⟩:=cJ h.valid h.node f i (by omega);obtain⟨g,o,a⟩:=cJ h.valid h.node f j hj;have k:u'=u:=by omega
 have l:g=y:=by omega
 subst k;subst l;have d:bY T D (u':Int) (g:Int)=0:=by
  unfold bY;rw[QY (yj h.valid h.fits a),aQ.2 ⟨by omega,e⟩]
  rfl
 unfold fc fN;rw[hu,hy,QS,QS,FR T p b,d];simp only[decide_true,RM,Q7,Ra];constructor
 ·rintro⟨h1,h2⟩;exact⟨c.sp h.valid a h1,h2⟩
 ·rintro⟨h1,h2⟩;exact⟨(h1.cost h.valid a).1,h2⟩
theorem Kx(h:rZ T D n p){i j:Nat}(a:i<=j)(hj:j<=p.length)(hc:fc T D n p i j=true):(j:Int) - i<T.nodes:=by
 have c:=h.aA;obtain⟨u,hu,d⟩:=cJ h.valid h.node c i (by omega);obtain⟨y,hy,b⟩:=cJ h.valid h.node c j hj;have:=((ov h a hj hu hy).1 hc).1.yH h.valid b;rw[lW p a hj]at this;omega
end
def pa(e:Int)(l:List bG):PV:=.tuple [cr (if e=0 then l else []),num e]
def vf(l:List bG):Option cX:=some (.row 136 2 l.length (eP l))
theorem Gz(l:List bG):mT (vf l):=λb hb=>by cases hb;exact(inferInstance:aP (eP l))
theorem Cd(T:ak)(D:List Bool)(p:List Int)(n:Int)(hp:p.length<=1000)(a:T.ah.length<=256):bM prog 162 [aL T,aV D,aq p,num n] [] (λr σ'=>∃x,r= .tuple [x,num (fG T D n p)]/\(fG T D n p=0->x= .ptr 4 0/\σ'=GF T D p (yN T n p) (yn T p) [] [])):=
 RT (Cc T D p n hp a) λr σ' h=>by
  rcases h with⟨he,rfl⟩|⟨he,rfl,rfl⟩
  ·exact⟨_,rfl,λh=>absurd h he⟩
  ·exact⟨_,by rw[he],λ_=>⟨rfl,rfl⟩⟩
theorem EV(T:ak)(D:List Bool)(p:List Int)(n:Int)(hp:p.length<=1000)(G:T.ah.length<=256)(cS:T.nodes<=12):Can prog 137 [aL T,aV D,aq p,num n] (· =pa (fG T D n p) (gX T D n p)):=by
  refine aF func137 I ntmps137 I<|ab (.a 3 I<|.k [1,2,3,4] I)<|Dm ?_;refine aK<|au 4 I<|cD I I (RT (Cd T D p n hp G) (λr σ' h=>?_));obtain⟨x,rfl,hx⟩:=h;refine au 5 I<|aE [2,4,10,11] I ?_;refine ai<|ab (.a 2 I<|.k [2,4,10,11,24] I)<|ae I (λhc=>?_) (λhc=>?_)
  · have he:fG T D n p≠0:=tt hc;exact ab (.a 3 I<|.k [8,9] I)<|ao<|QR I (RW (QV ax.bH (QV ax.pure Rl))) (by unfold pa;rw[QZ he];rfl)
  · have he:fG T D n p=0:=Q4 (ff hc);obtain⟨rfl,rfl⟩:=hx he;have z:=Cb he;have hv:=z.valid;have K:=aS hv;have hN:=K.nodes;have L:=z.aA;obtain⟨N,C⟩:∃N:Nat,T.nodes=(N:Int):=⟨T.nodes.toNat,by omega⟩;rw[he];clear hc;refine aj<|ab (.a 1 I<|.k [2,4,10,12] I)<|eU 12 136 2 I ?_;refine ab (.a 1 I<|.k [2,4,10,12,13] I)<|ai<|Dl ?_;refine ai<|aw<|eF [2,4,10,12,13] I<|bd (λr st=>∃(l:List bG) (i f:Nat) (g:List (Int×PV)) (q:List ((Int×Int)×PV)),i<=p.length/\p.length - i<=f/\l.length<=i/\r=p.length - i/\gX T D n p=l++iJ T D n p f i/\lH T D g/\mw T D q/\st=⟨[(2,aq p),(4,.bq (bn T) 0),(10,.ptr 4 0),(12,.own 5),(13,num i)],GF T D p (yN T n p) (yn T p) g q++[vf l]⟩) p.length ⟨[],0,p.length,[],[],by omega,by omega,by simp,by omega,rfl,(λ_ _ h=>by cases h),(λ_ _ h=>by cases h),rfl⟩ ?_;rintro r st ⟨l,i,f,g,q,hi,O,R,rfl,hl,a,b,rfl⟩;refine ai<|ab (.a 4 I<|.k [2,4,10,12,13,29] I)<|ae I (λh1=>?_) (λh1=>?_)
    · have o:i<p.length:=by have:=tt h1;omega
      refine aj<|aw<|ai ?_;obtain⟨m,hm⟩:∃m:Nat,min (p.length:Int) ((i:Int)+(N:Int) - 1)=(m:Int):=⟨(min (p.length:Int) ((i:Int)+(N:Int) - 1)).toNat,by omega⟩;have A:∀k,m<k->k<=p.length->fc T D n p i k=false:=λk h2 w=>by
        cases E:fc T D n p i k with
        |false=>rfl
        |true=>
          have:=Kx z (i:=i) (j:=k) (by omega) w E;omega
      refine ab (.a 4 I<|.v (aJ I ((show some (num T.nodes)=some (num (N:Int)) by rw[C]))) I<|.v (aW I) I<|.v (aW I) I<|.v (sL I I I (hm)) I<|.a 1 I<|.k [2,4,10,12,13,14] I)<|aw<|eF [2,4,10,12,13,14] I<|bd (λr st=>∃(j:Nat) (g:List (Int×PV)) (q:List ((Int×Int)×PV)),i<=j/\j<=p.length/\r=j/\(∀k,j<k->k<=p.length->fc T D n p i k=false)/\lH T D g/\mw T D q/\st=⟨[(2,aq p),(4,.bq (bn T) 0),(10,.ptr 4 0),(12,.own 5),(13,num i),(14,num j)],GF T D p (yN T n p) (yn T p) g q++[vf l]⟩) m ⟨m,g,q,by omega,by omega,rfl,A,a,b,rfl⟩ ?_;clear a b;rintro r st ⟨j,g,q,P,B,rfl,s,a,b,rfl⟩;refine ai<|ab (.a 3 I<|.k [2,4,10,12,13,14,40] I)<|ae I (λh2=>?_) (λh2=>?_)
      · have t:i<r:=by have:=tt h2;omega
        refine aj<|ai<|aw<|aK<|au 3 I<|cD I I (RT (zX T D p n g q (vf l) (Gz l) hv z.fits cS z.node L hp i r (by omega) B a b) (λ_ σ' h=>?_));obtain⟨rfl,v,y,c,d,rfl⟩:=h;refine aE [2,4,10,12,13,14,46] I<|ae I (λw=>?_) (λw=>?_)
        · have F:=yO T n p r B;have Q:=yP T n p;refine aK<|au 6 I<|bm (aM (r) I) I<|bm (aJ I ((aB _ r (by omega)).trans (by rw[F]))) I<|au 2 I<|cb (bF I (Ru I) I I I I (by unfold maxLen;omega)) I<|au 1 I ?_;refine dL [0,1,2,3,4,6] (.c 2<|.c 4<|.c 10<|.c 12<|.c 14<|.nil) (.kept rfl (.row RZ)<|.kept rfl (.row RZ)<|.same (UY c) I<|.same (UZ d) I<|.kept rfl (.cells (Sr<|Sr<|Sr<|Sr<|Sr<|Sr<|Sr<|Sr<|Sr<|Sy))<|.kept rfl (.eY rfl (pF _ ⟨1,cV T n (p.take r)⟩))<|.nil) I I (bg ?_);refine ab (.a 2 I<|.k [2,4,10,12,13] I)<|ba ?_;cases f with
          |zero=>omega
          |succ f=>
            first
              | (refine ⟨p.length - r, by omega, l ++ [⟨1, cV T n (p.take r)⟩], r, f, v, y, by omega, by omega, by simp; omega, rfl, ?_, c, d, ?_⟩
                 · rw[hl,lT o t B w s,RO];rfl
                 · unfold vf;simp only[Q0,Rk];rfl)
              | (refine ⟨p.length - (i + 1), by omega, l ++ [⟨2, p.getD i 0⟩], i + 1, f, g, q, by omega, by omega, by simp; omega, rfl, ?_, a, b, ?_⟩
                 · rw[hl,nM o u,RO];rfl
                 · unfold vf;simp only[Q0,Rk];rfl)
        · skip
          refine aj<|aC (.a 1 I<|.v (aW I) I<|.a 1 I<|.k [2,4,10,12,13,14] I) ?_;refine⟨r - 1,by omega,r - 1,v,y,by omega,by omega,rfl,λk H J=>?_,c,d,?_⟩
          · by_cases e:k=r
            · rw[e];exact w
            · exact s k (by omega) J
          · rw[show((r - 1:Nat):Int)=(r:Int) - 1 by omega]
      · have u:∀k,i<k->k<=p.length->fc T D n p i k=false:=λk w H=>s k (by have:=ff h2;omega) H;refine ba<|aK<|au 3 I<|bm (aM (i) I) I<|bm (aJ I (aB _ i o)) I<|au 2 I<|cb (bF I (Ru I) I I I I (by unfold maxLen;omega)) I<|au 1 I ?_;refine dL [0,1,2,3,4,6] (.c 2<|.c 4<|.c 10<|.c 12<|.c 13<|.nil) (.kept rfl (.row RZ)<|.kept rfl (.row RZ)<|.same (UY a) I<|.same (UZ b) I<|.kept rfl (.cells (Sr<|Sr<|Sr<|Sr<|Sr<|Sr<|Sr<|Sr<|Sr<|Sy))<|.kept rfl (.eY rfl (pF _ ⟨2,p.getD i 0⟩))<|.nil) I I (bg ?_);refine aC (.a 1 I<|.v (aW I) I<|.a 1 I<|.k [2,4,10,12,13] I) ?_;cases f with
        |zero=>omega
        |succ f=>
          first
            | (refine ⟨p.length - r, by omega, l ++ [⟨1, cV T n (p.take r)⟩], r, f, v, y, by omega, by omega, by simp; omega, rfl, ?_, c, d, ?_⟩
               · rw[hl,lT o t B w s,RO];rfl
               · unfold vf;simp only[Q0,Rk];rfl)
            | (refine ⟨p.length - (i + 1), by omega, l ++ [⟨2, p.getD i 0⟩], i + 1, f, g, q, by omega, by omega, by simp; omega, rfl, ?_, a, b, ?_⟩
               · rw[hl,nM o u,RO];rfl
               · unfold vf;simp only[Q0,Rk];rfl)
    · have M:i=p.length:=by have:=ff h1;omega
      rw[oG f i (by omega),R9]at hl;exact ba<|ab (.a 3 I<|.k [8,9] I)<|ao<|QR I (RW (QV (Tj rfl Sj) (QV ax.pure Rl))) (by unfold pa;rw[QY rfl,hl];rfl)
section
variable {T:ak} {D:List Bool} {d:Nat}
theorem DD(hv:av T=true)(hd:(d:Int)<T.nodes):∀(K m:Nat),(m:Int)<T.nodes->0<=dN T D d m->dN T D d m<=K->eA T D d m≠1->∃p q,SP T D d m p/\SP T D d m q/\p≠q
 |K,m,r,h0,C,hc=>by
  by_cases j:m=d
  ·subst j;exact absurd (p8 m) hc
  ·obtain⟨k,hk⟩:=mH (D:=D) hv r hd j h0;have f:=gu hk ((aS hv).cost k hk.eZ).1;cases hx:bu T D m d with
   |nil=>rw[hx]at f;cases f
   |cons a l=>
    obtain⟨b,rfl,hb⟩:=di (T:=T) (D:=D) (n:=m) (d:=d) (a:=a) (by rw[hx];simp);obtain⟨x,c,s⟩:=eh hv hb.eZ;have y:=hb.dN c;have B:=(aS hv).cost b hb.eZ;cases l with
    |nil=>
     cases K with
     |zero=>omega
     |succ K=>
      have v:eA T D d x≠1:=λh=>hc (B2 hv hd r j hx c h);obtain⟨p,q,h1,h2,z⟩:=DD hv hd K x s y.1 (by omega) v;exact⟨b::p,b::q,.cons hb c h1,.cons hb c h2,λe=>z (SG e).2⟩
    |cons a2 l=>
     obtain⟨w,rfl,i⟩:=di (T:=T) (D:=D) (n:=m) (d:=d) (a:=a2) (by rw[hx];simp);obtain⟨A,g,t⟩:=eh hv i.eZ;have u:=i.dN g;refine⟨b::cE T D x d,w::cE T D A d,.cons hb c (fM hv hd s y.1),.cons i g (fM hv hd t u.1),λe=>?_⟩;have he:=(SG e).1;have o:=nR T D m d;rw[hx]at o;have:=(T8.1 o).1 (w:Int) (by simp);omega
theorem Ch.append{e n:Nat}{p q:List Int}(h:Ch T D e n p)(g:Ch T D d e q)(f:q=[]\/bR T e=false):Ch T D d n (p++q):=by
 induction h with
 |nil=>exact g
 | @cons n a m p c i hu hm b hp j=>
  refine .cons c i hu hm ?_ j;rcases b with h|h
  ·subst h;have:=hp.to rfl;subst this;rcases f with h|h
   ·subst h;exact .inl rfl
   ·exact .inr h
  ·exact .inr h
theorem SP.suffix(hv:av T=true)(hd:(d:Int)<T.nodes){e:Nat}:∀ {n:Nat} {p q:List Int},SP T D d n (p++q)->eA T D d n=1->Ch T D e n p->SP T D d e q/\eA T D d e=1
 |n,[],q,h,hc,c=>by
  have:=c.to rfl;subst this;exact⟨h,hc⟩
 |n,a::p,q,h,hc,c=>by
  cases h with
  | @cons _ b m _ h1 hm hp=>
   cases c with
   | @cons _ o m2 _ _ _ _ g _ f=>
    have:m2=m:=by rw[hm]at g;omega
    subst this;obtain⟨j,k,_,l⟩:=yl hv hd (h1.node hv) h1.ne hc;have i:=gu h1 ((aS hv).cost b h1.eZ).1;rw[k]at i;simp only[Rj]at i;have:j=b:=by omega
    subst this;exact SP.suffix hv hd hp (l m2 hm) f
theorem SP.pre(hv:av T=true)(hd:(d:Int)<T.nodes){e n:Nat}{p q:List Int}(he:(e:Int)<T.nodes)(h:SP T D d n (p++q))(hc:eA T D d n=1)(hp:Ch T D e n p)(f:Ch T D d e q)(c:q=[]\/bR T e=false):SP T D e n p/\eA T D e n=1:=by
 have a:=(h.cost hv hd).1;rw[iD]at a;have hle:=hp.le hv he;have hn:=hp.node hv he;have b:SP T D e n p:=by
  refine hp.sp hv he ?_;have hs:=fM hv he hn hle.1;have g:=(hs.cost hv he).1;have:=((hs.ch).append f c).le hv hd;rw[iD]at this;omega
 refine⟨b,Q4 λh1=>?_⟩;obtain⟨i,j,g1,g2,g3⟩:=DD hv he (dN T D e n).toNat n hn hle.1 (by omega) h1;have key:∀r,SP T D e n r->SP T D d n (r++q):=λr hr=>by
  refine((hr.ch).append f c).sp hv hd ?_;rw[iD,a,<-(hr.cost hv he).1,(b.cost hv he).1]
 have:=(key i g1).unique hv hd (key j g2) hc;exact g3 (List.append_cancel_right this)
theorem Ch.Qj{e:Nat}:∀ {n:Nat} {p q:List Int},Ch T D d n (p++q)->p≠[]->Ch T D e n p->q=[]\/bR T e=false
 |n,[],q,_,h,_=>absurd rfl h
 |n,a::p,q,h,_,g=>by
  cases h with
  | @cons _ b m _ _ _ _ hm j hp=>
   cases g with
   | @cons _ k m2 _ _ _ _ i _ f=>
    have:m2=m:=by rw[hm]at i;omega
    subst this;cases p with
    |nil=>
     have:=f.to rfl;subst this;exact j
    |cons c p=>exact Ch.Qj hp (by simp) f
variable {n:Int} {p:List Int}
theorem mI(p:List Int){i j k:Nat}(h1:i<=j)(h2:j<=k):ev p i k=ev p i j++ev p j k:=by
 have b:=kB p (show i<=k by omega);have a:=kB p h2;rw[kB p h1,RO]at a;rw[b]at a;exact List.append_cancel_left a
theorem Kz(h:rZ T D n p){i j i' j':Nat}(h1:i<=i')(h2:i'<j')(l:j'<=j)(hj:j<=p.length)(hc:fc T D n p i j=true):fc T D n p i' j'=true:=by
 have g:=h.aA;have hv:=h.valid;obtain⟨u,hu,t⟩:=cJ hv h.node g i (by omega);obtain⟨y,hy,c⟩:=cJ hv h.node g j hj;obtain⟨u',a,m⟩:=cJ hv h.node g i' (by omega);obtain⟨v,b,f⟩:=cJ hv h.node g j' (by omega);obtain⟨c1,o⟩:=(ov h (by omega) hj hu hy).1 hc;rw[mI p h1 (show i'<=j by omega)]at c1;obtain⟨k,q⟩:=c1.suffix hv c o (h.ch h1 (by omega) hu a);rw[mI p (show i'<=j' by omega) l]at k;have hp:=h.ch (show i'<=j' by omega) (by omega) a b;have s:=h.ch l hj b hy;have r:=k.ch.Qj (e:=v) (by
  intro e;have:=lW p (show i'<=j' by omega) (by omega);rw[e]at this;simp at this;omega) hp
 exact(ov h (by omega) (by omega) a b).2 (k.pre hv c f q hp s r)
end
section
variable {T:ak} {D:List Bool} {n:Int} {p:List Int}
theorem CI(p:List Int){i k:Nat}(a:i<k)(hk:k<=p.length):(ev p i k).getD 0 0=p.getD i 0:=by
 unfold ev;rw[QU,RV,QY (by omega),Su,QU,Tl]
theorem IW(p:List Int){i k m:Nat}(hm:m<k - i):(ev p i k).getD m 0=p.getD (i+m) 0:=by
 unfold ev;rw[QU,RV,QY hm,Su,QU]
theorem AQ{i k:Nat}{a:Int}(h:a∈ev p i k):a∈p:=Tp (Tq h)
theorem oL(h:rZ T D n p){i:Nat}(hi:i<p.length){x:Nat}(hx:cV T n (p.take i)=(x:Int)):aZ T (p.getD i 0).toNat=(x:Int):=by
 have c:=h.aA;obtain⟨y,hy,d⟩:=cJ h.valid h.node c (i+1) hi;have b:=h.ch (i:=i) (j:=i+1) (by omega) hi hx hy;have hp:ev p i (i+1)=[p.getD i 0]:=by
  unfold ev;rw[drop_cons p i hi,show i+1 - i=1 by omega]
  rfl
 rw[hp]at b;generalize p.getD i 0=a at b;cases b with
 |cons _ h2 _ _ _ _=>exact h2
end
noncomputable def ia(T:ak)(D:List Bool)(n:Int)(p:List Int)(i m:Nat):bG×Nat:=match kc (fc T D n p i) i m with
 |some j=>(⟨1,cV T n (p.take j)⟩,j)
 |none=>(⟨2,p.getD i 0⟩,i+1)
section
variable {T:ak} {D:List Bool} {n:Int} {p:List Int}
theorem BU(i:Nat):ia T D n p i i=(⟨2,p.getD i 0⟩,i+1):=by
 unfold ia;rw[rV i (λk h1 h2=>by omega)]
theorem Hw{i m:Nat}(h:i<=m)(hc:fc T D n p i (m+1)=true):ia T D n p i (m+1)=(⟨1,cV T n (p.take (m+1))⟩,m+1):=by
 unfold ia;rw[rW (j:=m+1) (by omega) hc (m+1) (by omega) (λk h1 h2=>by omega)]
theorem Kc{i m:Nat}(h:i<=m)(hc:fc T D n p i (m+1)=false):ia T D n p i (m+1)=ia T D n p i m:=by
 unfold ia;have:kc (fc T D n p i) i (m+1)=kc (fc T D n p i) i m:=by
  rw[kc,QZ (by omega),QZ (by rw[hc];simp)]
 rw[this]
theorem Hv{f i:Nat}(hi:i<p.length):iJ T D n p (f+1) i=(ia T D n p i p.length).1::iJ T D n p f (ia T D n p i p.length).2:=by
 unfold ia;simp only[iJ];rw[QY hi];cases kc (fc T D n p i) i p.length<;>rfl
theorem EB(i:Nat)(hi:i<p.length):i<(ia T D n p i p.length).2/\(ia T D n p i p.length).2<=p.length:=by
 unfold ia;cases h:kc (fc T D n p i) i p.length with
 |none=>exact⟨by simp,by simp;omega⟩
 |some j=>have:=oX _ _ h;exact⟨this.1,this.2.1⟩
end
def B7(T:ak)(s:bG)(n:Int):Int×Int:=if kV T s=false then(0,1) else if aX T n=false then(0,2) else if s.kind=1 then(s.num,0) else if s.kind=2 then(if aZ T s.num.toNat≠n then(0,4) else(aN T s.num.toNat,0)) else(0,7)
theorem Gr(l:List bG)(k:Nat)(h:k<l.length):∃s,l[k]? =some s/\l.drop k=s::l.drop (k+1):=⟨l[k],QX h,TR h⟩
def pq(T:ak)(n:Int)(p:List Int)(x:Int):Nat->Nat->Nat
 |0,i=>i
 |f+1,i=>if cV T n (p.take i)=x then i else pq T n p x f (i+1)
noncomputable def lu(T:ak)(D:List Bool)(n:Int)(p:List Int)(i:Nat)(s:bG):Option Nat:=
 if s.kind=2/\i<p.length/\p.getD i 0=s.num then some (i+1)
 else if s.kind=1 then(if cV T n (p.take (pq T n p s.num (p.length - i) i))=s.num/\fc T D n p i (pq T n p s.num (p.length - i) i)=true then some (pq T n p s.num (p.length - i) i) else none)
 else none
noncomputable def MG(T:ak)(D:List Bool)(n:Int)(p:List Int):Nat->List bG->Bool
 |i,[]=>decide (i=p.length)
 |i,s::l=>match lu T D n p i s with
  |some j=>MG T D n p j l
  |none=>false
section
variable {T:ak} {D:List Bool} {n:Int} {p:List Int}
theorem Cf(x:Int):∀f i,i<=pq T n p x f i/\pq T n p x f i<=i+f
 |0,i=>by simp[pq]
 |f+1,i=>by
  simp only[pq];split
  ·omega
  ·have:=Cf x f (i+1);omega
theorem H3(x:Int):∀f i k,i<=k->k<pq T n p x f i->cV T n (p.take k)≠x
 |0,i,k,h1,h2=>by simp only[pq]at h2;omega
 |f+1,i,k,h1,h2=>by
  simp only[pq]at h2;split at h2
  ·omega
  ·rename_i a;by_cases e:k=i
   ·subst e;exact a
   ·exact H3 x f (i+1) k (by omega) h2
theorem yA(x:Int):∀f i j,i<=j->j<=i+f->cV T n (p.take j)=x->(∀k,i<=k->k<j->cV T n (p.take k)≠x)->pq T n p x f i=j
 |0,i,j,h1,h2,_,_=>by simp only[pq];omega
 |f+1,i,j,h1,h2,a,b=>by
  simp only[pq];by_cases e:i=j
  ·subst e;rw[QY a]
  ·rw[QZ (b i (Rc _) (by omega))];exact yA x f (i+1) j (by omega) (by omega) a (λk d c=>b k (by omega) c)
theorem Ch.fin{d:Nat}{m:Nat}{q:List Int}(h:Ch T D d m q):cV T (m:Int) q=(d:Int):=by
 induction h with
 |nil=>rfl
 | @cons n a m p c f hu hm e hp b=>simp only[cV,QS,hm];exact b
theorem rr(h:rZ T D n p){i j:Nat}(a:i<=j)(hj:j<=p.length)(hc:fc T D n p i j=true):pq T n p (cV T n (p.take j)) (p.length - i) i=j:=by
 have b:=h.aA;have hv:=h.valid;refine yA _ _ _ _ a (by omega) I λk h1 h2 he=>?_;obtain⟨u,hu,g⟩:=cJ hv h.node b i (by omega);obtain⟨y,hy,c⟩:=cJ hv h.node b j hj;obtain⟨z,l,m⟩:=cJ hv h.node b k (by omega);have d:z=y:=by omega
 subst d;obtain⟨c1,e⟩:=(ov h a hj hu hy).1 hc;rw[mI p h1 (show k<=j by omega)]at c1;obtain⟨f,o⟩:=c1.suffix hv c e (h.ch h1 (by omega) hu l);have:=f.self;have hl:=lW p (show k<=j by omega) hj;rw[this]at hl;simp at hl;omega
theorem gh{x y:Nat}(hv:av T=true)(b:bN T D=true)(hx:(x:Int)<T.nodes)(hy:(y:Int)<T.nodes):gG T D x y=if dN T D y x<0 then 11 else 0:=by
 have a:bY T D (x:Int) (y:Int)=0:=by
  unfold bY;rw[QY (yj hv b hy),aQ.2 ⟨by omega,hx⟩]
  rfl
 unfold gG;rw[QY a];simp only[QS]
theorem Bs{x y:Nat}(hv:av T=true)(b:bN T D=true)(hx:(x:Int)<T.nodes)(hy:(y:Int)<T.nodes):fN T D x y=true↔eA T D y x=1:=by
 have a:bY T D (x:Int) (y:Int)=0:=by
  unfold bY;rw[QY (yj hv b hy),aQ.2 ⟨by omega,hx⟩]
  rfl
 unfold fN;rw[a];simp
theorem No(h:rZ T D n p){i j x y:Nat}(c:i<=j)(hj:j<=p.length)(hx:cV T n (p.take i)=(x:Int))(hy:cV T n (p.take j)=(y:Int)):fc T D n p i j=true↔gG T D x y=0/\fN T D x y=true/\cE T D x y=ev p i j:=by
 have d:=h.aA;have hv:=h.valid;obtain⟨e,m,b⟩:=cJ hv h.node d i (by omega);obtain⟨f,o,a⟩:=cJ hv h.node d j hj;have g:e=x:=by omega
 have k:f=y:=by omega
 subst g;subst k;rw[ov h c hj hx hy,gh hv h.fits b a,Bs hv h.fits b a];constructor
 ·rintro⟨h1,h2⟩;have h0:=(h1.cost hv a).2;exact⟨by rw[QZ (by omega)],h2,(fM hv a b h0).unique hv a h1 h2⟩
 ·rintro⟨h1,h2,l⟩;have h0:0<=dN T D f e:=by
   split at h1
   ·omega
   ·omega
  exact⟨by rw[<-l];exact fM hv a b h0,h2⟩
theorem B9(h:rZ T D n p):∀(f i:Nat),i<=p.length->p.length - i<=f->MG T D n p i (iJ T D n p f i)=true
 |f,i,hi,d=>by
  by_cases a:i<p.length
  ·cases f with
   |zero=>omega
   |succ f=>
    cases c:kc (fc T D n p i) i p.length with
    |none=>
     rw[nM a (λk h1 h2=>lx _ c k h1 h2)];simp only[MG];have b:lu T D n p i ⟨2,p.getD i 0⟩=some (i+1):=by unfold lu;rw[QY ⟨rfl,a,rfl⟩]
     rw[b];exact B9 h f (i+1) (by omega) (by omega)
    |some j=>
     obtain⟨t1,t2,t3,t4⟩:=oX _ _ c;rw[lT a t1 t2 t3 t4];simp only[MG];have b:lu T D n p i ⟨1,cV T n (p.take j)⟩=some j:=by
      unfold lu;simp only;rw[QZ (by omega),QY trivial,rr h (by omega) t2 t3,QY ⟨rfl,t3⟩]
     rw[b];exact B9 h f j t2 (by omega)
  ·rw[oG f i (by omega)];simp only[MG,Ra];omega
theorem Lg:∀f i,(iJ T D n p f i).length<=f:=λf=>by
 induction f with
 |zero=>intro i;simp[iJ]
 |succ f a=>
  intro i;simp only[iJ];split
  ·split
   ·have:=a ‹Nat›;simp only[Q8];omega
   ·have:=a (i+1);simp only[Q8];omega
  ·simp
theorem Ag(h:rZ T D n p):fG T D n p=0:=by
 unfold fG;have h2:eI T n p=0:=by unfold eI;rw[QY h.valid,QY h.node];exact h.walk
 rw[QY (by rw[h.valid,h.fits];rfl),QY h2,QZ];intro e;obtain⟨x,b,a⟩:=S0.1 e;rw[h.up x b]at a;cases a
end
def gU(D:List Bool)(q:List Int):Bool:= !q.any λa=>aI D a.toNat
theorem ot{D}{q:List Int}:gU D q=true↔∀a∈q,aI D a.toNat=false:=by
 unfold gU;rw[R4,UI];constructor
 ·intro h a b;have:=h a b;simpa using this
 ·intro h a b;rw[h a b];simp
theorem zT{D}{q:List Int}{a:Int}(b:a∈q)(h:aI D a.toNat=true):gU D q=false:=by
 unfold gU;rw[Bool.not_eq_false',S0];exact⟨a,b,h⟩
theorem NZ(T:ak)(D:List Bool)(q:List Int)(n:bN T D=true)(m:∀a∈q,ef T a=true)(o:q.length<=1000):Can prog 161 [aV D,aq q] (· =flag (gU D q)):=by
 refine aF func161 I ntmps161 I<|ab (.a 1 I<|.k [0,1] I)<|ai<|ab (.a 3 I<|.k [0,7,8,9] I)<|aw<|eF [0,7,8,9] I<|bd (λr st=>∃k:Nat,k<=q.length/\r=q.length - k/\(∀a∈q.take k,aI D a.toNat=false)/\st=⟨[(0,aV D),(7,aq q),(8,num q.length),(9,num k)],[]⟩) q.length ⟨0,by omega,by omega,by simp,rfl⟩ ?_;rintro r st ⟨k,hk,rfl,e,rfl⟩;refine ab (.a 1 I<|.k [0,7,8,9,10] I)<|ai<|ae I (λhy=>?_) (λhy=>?_)
 ·have f:k<q.length:=by have:=tt hy;omega
  have b:=bX (d:=0) f;have g:=m _ b;simp only[ef,Ra]at g;obtain⟨a,c⟩:∃a:Nat,q.getD k 0=(a:Int):=⟨(q.getD k 0).toNat,by omega⟩;have l:D.length=0\/a<D.length:=by simp only[bN,Ra]at n;omega
  refine aj<|ai<|aw<|ab (.v (aM (k) I) I<|.v (aJ I ((aB q k f).trans (by rw[c]))) I<|.a 1 I<|.k [0,6,7,8,9] I)<|ab (.a 2 I<|.c rfl (kI D a l) I<|.k [0,7,8,9,15] I)<|ae I (λj=>?_) (λj=>?_)
  ·have he:=zT (D:=D) b (by rw[c];exact j);exact ab (.a 1 I<|.k [4] I)<|ao<|QR I ax.pure (by rw[he];rfl)
  ·skip
   refine aj<|aC (.v (aW I) I<|.a 1 I<|.k [0,7,8,9] I) ?_;refine⟨q.length - (k+1),by omega,k+1,by omega,rfl,λx hx=>?_,rfl⟩;rw[dE q k 0 f]at hx;rcases RR.1 hx with h|h
   ·exact e x h
   ·simp only[Rj]at h;rw[h,c];exact j
 ·have i:k=q.length:=by have:=ff hy;omega
  subst i;rw[RC]at e;exact ba<|ab (.a 1 I<|.k [4] I)<|ao<|QR I ax.pure (by rw[ot.2 e];rfl)
theorem uP(T:ak)(D:List Bool)(q:List Int)(o:bN T D=true)(n:∀a∈q,ef T a=true)(p:q.length<=1000):Can prog 172 [aV D,aq q] (· =flag (gU D q)):=by
 refine aF func172 I ntmps172 I<|ab (.a 1 I<|.k [0,1] I)<|ai<|ab (.a 1 I<|.k [0,1,5] I)<|aw<|eF [0,1,5] I<|bd (λr st=>∃k:Nat,k<=q.length/\r=q.length - k/\(∀a∈q.take k,aI D a.toNat=false)/\st=⟨[(0,aV D),(1,aq q),(5,num k)],[]⟩) q.length ⟨0,by omega,by omega,by simp,rfl⟩ ?_;rintro r st ⟨k,hk,rfl,e,rfl⟩;refine ai<|ab (.a 4 I<|.k [0,1,5,9] I)<|ae I (λhy=>?_) (λhy=>?_)
 ·have f:k<q.length:=by have:=tt hy;omega
  have b:=bX (d:=0) f;have i:=n _ b;simp only[ef,Ra]at i;obtain⟨a,c⟩:∃a:Nat,q.getD k 0=(a:Int):=⟨(q.getD k 0).toNat,by omega⟩;have m:D.length=0\/a<D.length:=by simp only[bN,Ra]at o;omega
  refine aj<|ai<|aw<|ab (.a 3 I<|.v (aM (k) I) I<|.v (aJ I ((aB q k f).trans (by rw[c]))) I<|.c rfl (tr D a m) I<|.a 1 I<|.k [0,1,5,18] I)<|ae I (λl=>?_) (λl=>?_)
  ·have g:aI D a=true:=by simpa using l
   have he:=zT (D:=D) b (by rw[c];exact g);exact ab (.a 1 I<|.k [4] I)<|ao<|QR I ax.pure (by rw[he];rfl)
  ·have g:aI D a=false:=by simpa using l
   refine aj<|aC (.a 1 I<|.v (aW I) I<|.a 1 I<|.k [0,1,5] I) ?_;refine⟨q.length - (k+1),by omega,k+1,by omega,rfl,λx hx=>?_,rfl⟩;rw[dE q k 0 f]at hx;rcases RR.1 hx with h|h
   ·exact e x h
   ·simp only[Rj]at h;rw[h,c];exact g
 ·have j:k=q.length:=by have:=ff hy;omega
  subst j;rw[RC]at e;exact ba<|ab (.a 1 I<|.k [4] I)<|ao<|QR I ax.pure (by rw[ot.2 e];rfl)
theorem Af{T D}{n:Int}{p:List Int}(a:(av T&&bN T D)=true)(h:eI T n p≠0):fG T D n p=eI T n p:=by unfold fG;rw[QY a,QZ h]
theorem wC{T D}{n:Int}{p:List Int}(b:(av T&&bN T D)=true)(h:eI T n p=0):fG T D n p=if gU D p=true then 0 else 7:=by
 unfold fG gU;rw[QY b,QY h];cases p.any λa=>aI D a.toNat<;>rfl
theorem C4(T:ak)(D:List Bool)(p:List Int)(n:Int)(hp:p.length<=1000)(j:T.ah.length<=256):Can prog 136 [aL T,aV D,aq p,num n] (· =num (fG T D n p)):=by
 have⟨f,b⟩:=QQ (av T);have⟨g,c⟩:=QQ (bN T D);refine aF func136 I ntmps136 I<|ab (.a 2 I<|.k [1,2,3,4] I)<|ai<|bz 20 (.raw (.bool ((!f)|| !g))) [1,2,3,4] I ?_ ?_
 ·refine .a 1 I<|.c rfl (b▸fv T) I<|.a 2 I<|?_;cases f
  ·exact .a 5 I<|.k [20,1,2,3,4] I
  ·exact .a 2 I<|.c rfl (c▸nH T D (by omega)) I<|.a 2 I<|.k [20,1,2,3,4] I
 refine ae I (λhc=>?_) (λhc=>?_)
 ·have he:fG T D n p=1:=by unfold fG;rw[b,c];cases f<;>cases g<;>first|rfl|cases hc
  exact ab (.a 1 I<|.k [8] I)<|ao<|QR I ax.pure (by rw[he];rfl)
 ·have hv:av T=true:=by rw[b];cases f;cases hc;rfl
  have h:bN T D=true:=by rw[c];cases g;cases f<;>cases hc;rfl
  have e:(av T&&bN T D)=true:=by rw[hv,h];rfl
  refine aj<|ai<|ab (.a 3 I<|.c rfl (AR T n p (by omega)) I<|.a 7 I<|.k [1,2,11] I)<|ab (.a 2 I<|.k [1,2,11,30] I)<|ae I (λhx=>?_) (λhx=>?_)
  ·have a:eI T n p≠0:=tt hx;exact ab (.a 2 I<|.k [8] I)<|ao<|QR I ax.pure (by rw[Af e a];rfl)
  ·have a:eI T n p=0:=Q4 (ff hx);obtain⟨_,hn,hw⟩:=mJ a;have i:=mj hw;rw[wC e a];refine aj<|ai<|ab (.a 2 I<|.c rfl (NZ T D p h i hp) I<|.a 1 I<|.k [35] I)<|ae I (λhy=>?_) (λhy=>?_)
   ·have d:gU D p=false:=by simpa using hy
    exact ab (.a 1 I<|.k [8] I)<|ao<|QR I ax.pure (by rw[d];rfl)
   ·have d:gU D p=true:=by simpa using hy
    exact aj<|ab (.a 1 I<|.k [8] I)<|ao<|QR I ax.pure (by rw[d];rfl)
theorem A8(T:ak)(D:List Bool)(p:List Int)(n:Int)(hp:p.length<=1000):Can prog 148 [aL T,aV D,aq p,num n] (· =num (fG T D n p)):=by
 have⟨d,a⟩:=QQ (av T&&bN T D);refine aF func148 I ntmps148 I<|ab (.a 2 I<|.k [1,2,3,4] I)<|ai<|ab (.a 2 I<|.c rfl (a▸l7 T D) I<|.a 1 I<|.k [1,2,3,4,15] I)<|ae I (λhc=>?_) (λhc=>?_)
 ·have h1:d=false:=by cases d;rfl;cases hc
  have he:fG T D n p=1:=by unfold fG;rw[a,h1];rfl
  exact ab (.a 1 I<|.k [8] I)<|ao<|QR I ax.pure (by rw[he];rfl)
 ·have h1:d=true:=by cases d;cases hc;rfl
  subst h1;obtain⟨hv,f⟩:=Q3.1 a;refine aj<|ab (.a 3 I<|.c rfl (Gh T n p (by omega)) I<|.a 7 I<|.k [1,2,11] I)<|ai<|ab (.a 2 I<|.k [1,2,11,25] I)<|ae I (λhx=>?_) (λhx=>?_)
  ·have b:eI T n p≠0:=tt hx;exact ab (.a 2 I<|.k [8] I)<|ao<|QR I ax.pure (by rw[Af a b];rfl)
  ·have b:eI T n p=0:=Q4 (ff hx);obtain⟨_,hn,hw⟩:=mJ b;have e:=mj hw;rw[wC a b];refine aj<|ai<|ab (.a 2 I<|.c rfl (uP T D p f e hp) I<|.a 1 I<|.k [30] I)<|ae I (λhy=>?_) (λhy=>?_)
   ·have c:gU D p=false:=by simpa using hy
    exact ab (.a 1 I<|.k [8] I)<|ao<|QR I ax.pure (by rw[c];rfl)
   ·have c:gU D p=true:=by simpa using hy
    exact aj<|ab (.a 1 I<|.k [8] I)<|ao<|QR I ax.pure (by rw[c];rfl)
section
variable {T:ak} {D:List Bool} {n:Int} {p:List Int}
theorem iG(T:ak):bN T []=true:=by simp[bN]
theorem rZ.bare(h:rZ T D n p):rZ T [] n p:=⟨h.valid,iG T,h.node,h.walk,λa _=>by simp[aI]⟩
theorem PK{n:Int}{p:List Int}(h:fG T D n p=0):fG T [] n p=0:=Ag (Cb h).bare
end
theorem Gw(T:ak)(D:List Bool)(p:List Int)(n:Int)(hp:p.length<=1000)(a:T.ah.length<=256)(cS:T.nodes<=12):Can prog 105 [aL T,aV D,aq p,num n] (· =pa (fG T D n p) (gX T [] n p)):=by
 refine aF func105 I ntmps105 I<|ab (.a 3 I<|.k [1,2,3,4] I)<|ai<|ab (.a 4 I<|.c rfl (C4 T D p n hp a) I<|.a 1 I<|.k [2,3,4,10] I)<|ab (.a 2 I<|.k [2,3,4,10,17] I)<|ae I (λhc=>?_) (λhc=>?_)
 ·have he:fG T D n p≠0:=tt hc;exact ab (.a 3 I<|.k [8,9] I)<|ao<|QR I (RW (QV ax.bH (QV ax.pure Rl))) (by unfold pa;rw[QZ he];rfl)
 ·have he:fG T D n p=0:=Q4 (ff hc);have hl:=EV T [] p n hp a cS;rw[PK he]at hl;rw[he];exact aj<|ab (.a 3 I<|.v (sT I (QV ax.pure<|QV ax.bH<|QV ax.pure<|QV ax.pure Rl) (hl)) I<|.a 4 I<|.k [8,9] I)<|ao<|QR I ax.pure rfl
def MP(K:St->Prop):Exit->St->Prop
 | .normal,s=>K s
 |_,_=>False
theorem ya{P}{N L:Nat}{x y st}{Q:Exit->St->Prop}{Q1:St->Prop}(h:W P N L x st (MP Q1))(k:∀s,Q1 s->W P N L y s Q):W P N L (.seq x y) st Q:=
 ai (h.mono λe s a=>by
  cases e<;>first|exact k s a|exact a.elim)
section
variable {T:ak} {D:List Bool} {n:Int} {p:List Int}
end
section
variable {T:ak} {D:List Bool}
theorem Ch.aA{d m:Nat}{q:List Int}(h:Ch T D d m q):∀a∈q,ef T a=true:=by
 induction h with
 |nil=>intro a c;cases c
 | @cons n a m p c g hu hm f hp e=>
  intro b hb;rcases RA.1 hb with rfl|hb
  ·exact cH.2 ⟨by omega,by omega⟩
  ·exact e b hb
theorem oW{x y:Int}(h:gG T D x y=0):∃a b:Nat,x=(a:Int)/\y=(b:Int)/\(a:Int)<T.nodes/\(b:Int)<T.nodes/\av T=true/\SP T D b a (cE T D x.toNat y.toNat):=by
 unfold gG at h;split at h
 ·rename_i he;obtain⟨hv,c,hn,hd⟩:=fH he;rw[aQ]at hn hd;obtain⟨a,rfl⟩:=QW hn.1;obtain⟨b,rfl⟩:=QW hd.1;refine⟨a,b,rfl,rfl,hn.2,hd.2,hv,?_⟩;simp only[QS]at h ⊢;exact fM hv hd.2 hn.2 (by split at h<;>omega)
 ·rename_i he;exact absurd h he
end
theorem NS(l:List bG)(k:Nat)(s:bG)(h:l[k]? =some s):(eP l)[k*2+0]? =some (num s.kind):=Bh l k 0 s h (by omega)
theorem NT(l:List bG)(k:Nat)(s:bG)(h:l[k]? =some s):(eP l)[k*2+1]? =some (num s.num):=Bh l k 1 s h (by omega)
noncomputable def J1(T:ak)(D:List Bool)(x y:Int):Bool:=(((av T&&bN T D)&& !decide (x=y))&&fN T [] x y)&&gU D (cE T [] x.toNat y.toNat)
theorem qS{T D}{x y:Int}(h:fN T D x y=true):gG T D x y=0:=by
 unfold fN at h;rw[Q7,Ra,Ra]at h;obtain⟨h1,h2⟩:=h;obtain⟨hv,c,hn,hd⟩:=fH h1;rw[aQ]at hn hd;obtain⟨a,rfl⟩:=QW hn.1;obtain⟨b,rfl⟩:=QW hd.1;simp only[QS]at h2;unfold gG;rw[QY h1,QZ];simp only[QS];intro h0;rw[DE hv hd.2 hn.2 h0]at h2;omega
theorem Gl(T:ak)(D:List Bool)(x y:Int)(cS:T.nodes<=12):Can prog 173 [aL T,aV D,num x,num y] (· =flag (J1 T D x y)):=by
 have⟨d,b⟩:=QQ (av T&&bN T D);have⟨e,g⟩:=QQ (decide (x=y));have⟨j,c⟩:=QQ (fN T [] x y);have p:J1 T D x y=(((d&& !e)&&j)&&gU D (cE T [] x.toNat y.toNat)):=by unfold J1;rw[b,g,c]
 rw[p];refine aF func173 I ntmps173 I<|ab (.a 2 I<|.k [1,2,3,4] I)<|ai<|bz 26 (.raw (.bool (((!d)||e)|| !j))) [1,2,3,4] I ?_ ?_
 ·refine .a 2 I<|.c rfl (b▸l7 T D) I<|.a 2 I<|?_;cases d
  ·exact .a 11 I<|.k [26,1,2,3,4] I
  ·refine .a 2 I<|.v (bW I (g)) I<|.a 2 I<|?_;cases e
   ·exact .a 3 I<|.v (sT I (QV ax.pure<|QV ax.bH<|QV ax.pure<|QV ax.pure Rl) (c▸Bg T [] x y cS)) I<|.a 2 I<|.k [26,1,2,3,4] I
   ·exact .a 6 I<|.k [26,1,2,3,4] I
 refine ae I (λhc=>?_) (λhc=>?_)
 ·skip
  exact ab (.a 1 I<|.k [8] I)<|ao<|QR I ax.pure (by cases d<;>cases e<;>cases j<;>first|rfl|cases hc)
 ·have o:d=true/\e=false/\j=true:=by cases d<;>cases e<;>cases j<;>first|exact⟨rfl,rfl,rfl⟩|cases hc
  obtain⟨rfl,rfl,rfl⟩:=o;obtain⟨hv,q⟩:=Q3.1 b;have i:=pC T [] x y;have h:=qS c;rw[h]at i;obtain⟨w,z,t,u,s,m,_,a⟩:=oW h;have r:=a.yH hv m;have hu:=uP T D (cE T [] x.toNat y.toNat) q a.ch.aA (by omega);have⟨n,f⟩:=QQ (decide ((0:Int)=0));have l:n=true:=by rw[<-f];rfl
  have⟨v,k⟩:=QQ (gU D (cE T [] x.toNat y.toNat));rw[k]at hu ⊢;refine aj<|ab (.a 3 I<|.v (sT I (QV ax.pure<|QV ax.bH<|QV ax.pure<|QV ax.pure Rl) (i)) I<|.a 5 I<|.k [1,9,10] I)<|bz 8 (.raw (.bool (n&&v))) [] I ?_ ?_
  ·refine .a 1 I<|.v (bW I (f)) I<|.a 1 I<|?_;cases n
   ·exact .a 5 I<|.k [8] I
   ·exact .a 2 I<|.c rfl (hu) I<|.a 2 I<|.k [8] I
  exact ao<|QR I ax.pure (by rw[l];rfl)
section
variable {T:ak} {D:List Bool} {n:Int} {p:List Int}
theorem pH(h:rZ T D n p){i k x y:Nat}(r:i<k)(hk:k<=p.length)(hx:cV T n (p.take i)=(x:Int))(hy:cV T n (p.take k)=(y:Int)):(J1 T D x y&&o9 (cE T [] x y) (ev p i k))=fc T [] n p i k:=by
 have hb:=h.bare;have d:=h.aA;have hv:=h.valid;obtain⟨j,s,b⟩:=cJ hv h.node d i (by omega);obtain⟨l,t,u⟩:=cJ hv h.node d k hk;have m:j=x:=by omega
 have f:l=y:=by omega
 subst m;subst f;rw[SR,No hb (by omega) hk hx hy];unfold J1 o9;simp only[QS,Q7,R4,Ra,Sb];constructor
 ·rintro⟨⟨⟨_,c⟩,v⟩,o⟩;exact⟨qS c,c,o⟩
 ·rintro⟨h1,h2,c⟩;refine⟨⟨⟨⟨⟨hv,h.fits⟩,λe=>?_⟩,h2⟩,?_⟩,c⟩
  ·have f:j=l:=by omega
   subst f;rw[gh hv (iG T) b b]at h1;have g:=fM (D:=[]) hv b b (by split at h1<;>omega);have q:=g.self;rw[q]at c;have:=lW p (show i<=k by omega) hk;rw[<-c]at this;simp at this;omega
  ·rw[c,ot];exact λa d=>h.up a (AQ d)
end
theorem C9(T:ak)(D:List Bool)(n:Int)(p:List Int)(h:rZ T D n p)(cS:T.nodes<=12)(hp:p.length<=1000){i k:Nat}(e:i<k)(hk:k<=p.length):Can prog 149 [aL T,aV D,aq (ev p i k)] (· =flag (fc T [] n p i k)):=by
 have m:=h.aA;have hv:=h.valid;obtain⟨x,hx,u⟩:=cJ hv h.node m i (by omega);obtain⟨y,hy,v⟩:=cJ hv h.node m k hk;rw[<-pH h e hk hx hy];have f:=lW p (show i<=k by omega) hk;have⟨q,j⟩:=QQ (ev p i k);have o:=oL h (show i<p.length by omega) hx;have c:=fP T n p (k - 1) (by omega);rw[show k - 1+1=k by omega,hy]at c;have h1:q.getD 0 0=p.getD i 0:=by rw[<-j,CI p e hk]
 have h2:q.getD (q.length - 1) 0=p.getD (k - 1) 0:=by rw[<-j,f,IW p (by omega)];congr 1;omega
 have g:∀a∈q,ef T a=true:=λa h=>m a (AQ (by rw[j];exact h));rw[j]at f ⊢;have t:=u7 T hv _ (g _ (bX (d:=0) (show 0<q.length by omega)));have r:=pB T hv _ (g _ (bX (d:=0) (show q.length - 1<q.length by omega)));rw[h1,o]at t;rw[h2,<-c]at r;have⟨s,hs⟩:=QQ (J1 T D x y);rw[hs];refine aF func149 I ntmps149 I<|ab (.a 2 I<|.k [1,2,3] I)<|er mixed (by kernel_rfl) (.a 2 I<|.v [12] (aM (0) I) I I<|.v [13] (aJ I ((aB q 0 (by omega)).trans (by rw[h1]))) I I<|.v [11,14] (dX I (t)) I I<|.a 4 I<|.v [19] (aW I) I I<|.v [17,20] (aM ((q.length - 1)) I) I I<|.v [21] (aJ I ((aB q (q.length - 1) (by omega)).trans (by rw[h2]))) I I<|.v [16,22] (dX I (r)) I I<|.a 2 I<|.k [1,2,3,7,8] I) ?_;refine ai<|ab (.a 4 I<|.c rfl (hs▸Gl T D x y cS) I<|.a 1 I<|.k [2,3,7,8,29] I)<|ae I (λhc=>?_) (λhc=>?_)
 ·have l:s=false:=by simpa using hc
  subst l;exact ab (.a 1 I<|.k [6] I)<|ao<|QR I ax.pure rfl
 ·have l:s=true:=by simpa using hc
  subst l;have hu:fN T [] x y=true:=by
   unfold J1 at hs;simp only[Q7]at hs;exact hs.1.2
  have b:=pC T [] (x:Int) (y:Int);rw[qS hu]at b;simp only[QS]at b;exact aj<|ab (.a 3 I<|.v (sT I (QV ax.pure<|QV ax.bH<|QV ax.pure<|QV ax.pure Rl) (b)) I<|.a 5 I<|.k [2,9] I)<|ab (.a 2 I<|.c rfl (xx (cE T [] x y) q) I<|.a 1 I<|.k [6] I)<|ao<|QR I ax.pure rfl
section
variable {P:Program} {σ:ca} {t:cq} {o:Oper}
theorem Pb{ty e i j:Nat}{z:Int}{x a}{L:List Int}(f:o.op= .slice ty x none (some a) none)(he:vS P ty=some (e,1))(hx:aH t x=some (aq (L.drop i)))(b:aH t a=some (num z))(g:z=(j:Int) - i)(c:i<=j)(hj:j<=L.length):bE P σ t o (aq (ev L i j)):=by
 have hl:(L.drop i).length=L.length - i:=by simp
 have:=xL (σ:=σ) (h:=j - i) f he hx b (by rw[wI];omega) (by omega) (by omega);have d:aq (ev L i j)= .slice (j - i) ((aU (L.drop i)).take ((j - i)*1)):=by
  unfold aq;rw[lW L c hj,Uf];unfold aU ev;rw[List.map_take]
 rw[d];exact this
theorem Pc{ty e i j:Nat}{z:Int}{x lo}{L:List Int}(d:o.op= .slice ty x (some lo) none none)(he:vS P ty=some (e,1))(hx:aH t x=some (aq (L.drop i)))(a:aH t lo=some (num z))(f:z=(j:Int) - i)(c:i<=j)(hj:j<=L.length):bE P σ t o (aq (L.drop j)):=by
 have hl:(L.drop i).length=L.length - i:=by simp
 have:=xM (σ:=σ) (l:=j - i) d he hx a (by rw[wI];omega) (by omega) (by omega);have b:aq (L.drop j)= .slice ((L.drop i).length - (j - i)) (((aU (L.drop i)).drop ((j - i)*1)).take (((L.drop i).length - (j - i))*1)):=by
  have h2:L.drop j=(L.drop i).drop (j - i):=by rw[List.drop_drop];congr 1;omega
  rw[h2];unfold aq;rw[UO,Uf,Uf];unfold aU;rw[<-List.map_drop,SJ (by simp;omega)]
 rw[b];exact this
end
theorem zZ(p:List Int)(i k:Nat):(p.drop i).getD k 0=p.getD (i+k) 0:=by rw[QU,Su,QU]
theorem C1(T:ak)(D:List Bool)(p:List Int)(n:Int)(hp:p.length<=1000)(cS:T.nodes<=12):Can prog 121 [aL T,aV D,aq p,num n] (· =pa (fG T D n p) (gX T [] n p)):=by
 refine aF func121 I ntmps121 I<|ab (.a 3 I<|.k [1,2,3,4] I)<|ab (.a 4 I<|.c rfl (A8 T D p n hp) I<|.a 1 I<|.k [1,2,4,10] I)<|ai<|ab (.a 2 I<|.k [1,2,4,10,21] I)<|ae I (λhc=>?_) (λhc=>?_)
 ·have he:fG T D n p≠0:=tt hc;exact ab (.a 3 I<|.k [8,9] I)<|ao<|QR I (RW (QV ax.bH (QV ax.pure Rl))) (by unfold pa;rw[QZ he];rfl)
 ·have he:fG T D n p=0:=Q4 (ff hc);have h:=Cb he;have hv:=h.valid;have u:=h.aA;rw[he];clear hc;refine aj<|ab (.a 1 I<|.k [1,2,4,11] I)<|eU 11 136 2 I ?_;refine ai<|aw<|eF [1,2,4,11] I<|bd (λr st=>∃(l:List bG) (i f:Nat),i<=p.length/\p.length - i<=f/\l.length<=i/\r=p.length - i/\gX T [] n p=l++iJ T [] n p f i/\st=⟨[(1,aV D),(2,aq (p.drop i)),(4,.bq (bn T) 0),(11,.own 0)],[vf l]⟩) p.length ⟨[],0,p.length,by omega,by omega,by simp,by omega,rfl,rfl⟩ ?_;rintro r st ⟨l,i,f,hi,x,y,rfl,hl,rfl⟩;have v:(p.drop i).length=p.length - i:=by simp
  refine ai<|ab (.a 3 I<|.k [1,2,4,11,25] I)<|ae I (λh1=>?_) (λh1=>?_)
  ·have d:i<p.length:=by have:=tt h1;omega
   obtain⟨z,e⟩:=EB (T:=T) (D:=[]) (n:=n) i d;refine aj<|aw<|aK<|au 1 I<|bm (aM (0) I) I<|bm (aJ I ((aB (p.drop i) 0 (by omega)).trans (by rw[zZ,Tl]))) I<|au 4 I<|aE [1,2,4,11,12,13] I ?_;refine ai<|ab (.a 1 I<|.k [1,2,4,11,12,13,14] I)<|aw<|eF [1,2,4,11,12,13,14] I<|bd (λr st=>∃m:Nat,i<=m/\m<=p.length/\r=p.length - m/\st=⟨[(1,aV D),(2,aq (p.drop i)),(4,.bq (bn T) 0),(11,.own 0),(12,.ptr 1 0),(13,num (((ia T [] n p i m).2:Int) - i)),(14,num ((m:Int)+1 - i))],[vf l,some (.cells 136 (pE (ia T [] n p i m).1))]⟩) (p.length - i) ⟨i,by omega,by omega,rfl,by simp only[BU];rw[show(((i+1:Nat):Int) - (i:Int))=1 by omega,show(i:Int)+1 - i=1 by omega];rfl⟩ ?_;rintro r st ⟨m,c,hm,rfl,rfl⟩;refine ai<|ab (.a 4 I<|.k [1,2,4,11,12,13,14,33] I)<|ae I (λh2=>?_) (λh2=>?_)
   ·have a:m+1<=p.length:=by have:=tt h2;omega
    have q:=fP T n p m (by omega);have o:=C9 T D n p h cS hp (i:=i) (k:=m+1) (by omega) a;have b:=pB T hv (p.getD m 0) (u _ (bX (by omega)));rw[<-q]at b;have s:(p.drop i).getD (m - i) 0=p.getD m 0:=by rw[zZ];congr 1;omega
    refine aj<|ai<|aw<|er mixed (by kernel_rfl) (.a 4 I<|.v [38,39] (Pb (j:=m+1) I (RP I) I I (by omega) (by omega) a) I I<|.v [36,37,40] (dX I (o)) I I<|.k [1,2,4,11,12,13,14,41] I) ?_;refine ae I (λg=>?_) (λg=>?_)
    ·have hb:=Hw c g;refine dh 9 20 mixed (.val [4] I (bb I) I I<|.val [2] I (bb I) I I<|.val [14] I (bb I) I I<|.val [44] I (aW I (hc:=(show(m:Int)+1 - i - 1=((m - i:Nat):Int) by omega))) I I<|.val [43,45] I (aM ((m - i)) I) I I<|.val [46] I (aJ I ((aB (p.drop i) (m - i) (by omega)).trans (by rw[s]))) I I<|.val [42,47] I (dX I (b)) I I<|.val [48] I (bb I) I I<|.late [14] I (jQ rfl rfl) inferInstance rfl rfl<|.nil) (by kernel_rfl) I I (aR (ks:=[1,2,4,11,12,14,49,50]) I)<|au 2 I<|aE [1,2,4,11,12,13,14] I ?_;refine aC (.a 1 I<|.v (aW I) I<|.a 1 I<|.k [1,2,4,11,12,13,14] I)<|⟨p.length - (m+1),by omega,m+1,by omega,a,rfl,?_⟩;rw[hb,show((m+1:Nat):Int)+1 - i=(m:Int)+1 - i+1 by omega]
     all_goals first
      |rfl
      |(simp only;rw[show((m+1:Nat):Int) - i=(m:Int)+1 - i by omega])
    ·have hb:=Kc c g;refine aj<|aC (.a 1 I<|.v (aW I) I<|.a 1 I<|.k [1,2,4,11,12,13,14] I) ?_;refine⟨p.length - (m+1),by omega,m+1,by omega,a,rfl,?_⟩;rw[hb,show((m+1:Nat):Int)+1 - i=(m:Int)+1 - i+1 by omega]
     all_goals first
      |rfl
      |(simp only;rw[show((m+1:Nat):Int) - i=(m:Int)+1 - i by omega])
   ·have t:m=p.length:=by have:=ff h2;omega
    subst t;refine ba<|aK<|au 3 I<|cb (bF I (Ru I) I I I I (by unfold maxLen;omega)) I<|au 1 I ?_;refine dL [2] (.c 1<|.c 2<|.c 4<|.c 11<|.c 13<|.nil) (.kept rfl (.eY rfl (pF _ (ia T [] n p i p.length).1))<|.nil) I I (bg ?_);refine aC (.a 2 I<|.v (Pc (j:=(ia T [] n p i p.length).2) I (RP I) I I I (by omega) e) I<|.a 1 I<|.k [1,2,4,11] I) ?_;cases f with
    |zero=>omega
    |succ f=>
     refine⟨p.length - (ia T [] n p i p.length).2,by omega,l++[(ia T [] n p i p.length).1],(ia T [] n p i p.length).2,f,e,by omega,by simp;omega,rfl,?_,?_⟩
     ·rw[hl,Hv d,RO];rfl
     ·unfold vf;simp only[Q0,Rk]
  ·have w:i=p.length:=by have:=ff h1;omega
   rw[oG f i (by omega),R9]at hl;exact ba<|ab (.a 3 I<|.k [8,9] I)<|ao<|QR I (RW (QV (Tj rfl Sj) (QV ax.pure Rl))) (by unfold pa;rw[QY rfl,hl];rfl)
noncomputable def Ce(T:ak)(n:Int)(p:List Int)(x:Int)(i:Nat):Nat->Nat->Option Nat
 |0,_=>none
 |f+1,j=>if cV T n (p.take j)=x/\fc T [] n p i j=true then some j else Ce T n p x i f (j+1)
noncomputable def vh(T:ak)(n:Int)(p:List Int)(i:Nat)(s:bG):Option Nat:=
 if s.kind=2/\i<p.length/\p.getD i 0=s.num then some (i+1)
 else if s.kind=1 then Ce T n p s.num i (p.length - i) (i+1)
 else none
noncomputable def Ou(T:ak)(n:Int)(p:List Int):Nat->List bG->Bool
 |i,[]=>decide (i=p.length)
 |i,s::l=>match vh T n p i s with
  |some j=>Ou T n p j l
  |none=>false
def uK(T:ak):Int->List bG->Bool
 |_,[]=>true
 |x,s::l=>if s.kind=1/\s.num=x then false else uK T (B7 T s x).1 l
section
variable {T:ak} {n:Int} {p:List Int}
theorem wE{x:Int}{i:Nat}:∀(f j k:Nat),Ce T n p x i f j=some k->j<=k/\k<j+f/\cV T n (p.take k)=x/\fc T [] n p i k=true/\∀m,j<=m->m<k->¬(cV T n (p.take m)=x/\fc T [] n p i m=true)
 |0,j,k,h=>by simp[Ce]at h
 |f+1,j,k,h=>by
  simp only[Ce]at h;split at h
  ·rename_i h1;cases h;exact⟨Rc _,by omega,h1.1,h1.2,λm h2 g=>by omega⟩
  ·rename_i h1;obtain⟨a,b,c,d,e⟩:=wE f (j+1) k h;refine⟨by omega,by omega,c,d,λm h2 g=>?_⟩;by_cases hm:m=j
   ·subst hm;exact h1
   ·exact e m (by omega) g
theorem DM{x:Int}{i:Nat}:∀(f j k:Nat),j<=k->k<j+f->cV T n (p.take k)=x->fc T [] n p i k=true->(∀m,j<=m->m<k->¬(cV T n (p.take m)=x/\fc T [] n p i m=true))->Ce T n p x i f j=some k
 |0,j,k,h1,h2,_,_,_=>by omega
 |f+1,j,k,h1,h2,a,b,c=>by
  simp only[Ce];by_cases e:j=k
  ·subst e;rw[QY ⟨a,b⟩]
  ·rw[QZ (c j (Rc _) (by omega))];exact DM f (j+1) k (by omega) (by omega) a b (λm g d=>c m (by omega) d)
theorem vi(h:rZ T [] n p){i:Nat}(hi:i<=p.length)(s:bG)(j:Nat):vh T n p i s=some j↔lu T [] n p i s=some j/\¬(s.kind=1/\s.num=cV T n (p.take i)):=by
 unfold vh lu;by_cases h1:s.kind=2/\i<p.length/\p.getD i 0=s.num
 ·rw[QY h1,QY h1];constructor
  ·intro e;exact⟨e,λo=>by omega⟩
  ·intro e;exact e.1
 ·rw[QZ h1,QZ h1];by_cases h2:s.kind=1
  ·rw[QY h2,QY h2];constructor
   ·intro e;obtain⟨a,b,c,d,_⟩:=wE _ _ _ e;have r:=rr h (show i<=j by omega) (by omega) d;rw[c]at r;rw[r,QY ⟨c,d⟩];refine⟨rfl,λo=>?_⟩;have:=yA (T:=T) (n:=n) (p:=p) s.num (p.length - i) i i (Rc _) (by omega) o.2.symm (λk f t=>by omega);omega
   ·rintro⟨l,o⟩;split at l
    ·rename_i f;simp only[SF]at l;have q:=Cf (T:=T) (n:=n) (p:=p) s.num (p.length - i) i;have g:=H3 (T:=T) (n:=n) (p:=p) s.num (p.length - i) i;rw[l]at f q g;have w:i≠j:=λe=>o ⟨h2,by rw[e];exact f.1.symm⟩;exact DM _ _ _ (by omega) (by omega) f.1 f.2 (λm t u v=>g m (by omega) u v.1)
    ·cases l
  ·rw[QZ h2,QZ h2];simp
theorem step_end(h:rZ T [] n p){i j:Nat}(hi:i<=p.length){s}(a:lu T [] n p i s=some j):(B7 T s (cV T n (p.take i))).1=cV T n (p.take j)/\(B7 T s (cV T n (p.take i))).2=0/\j<=p.length:=by
 have m:=h.aA;have hv:=h.valid;obtain⟨x,hx,r⟩:=cJ hv h.node m i hi;have g:aX T (x:Int)=true:=aQ.2 ⟨by omega,r⟩;rw[hx];have u:=a;unfold lu at a;split at a
 ·rename_i h1;cases a;have e:=m _ (bX (d:=0) h1.2.1);have k:=oL h h1.2.1 hx;have f:=fP T n p i h1.2.1;rw[h1.2.2]at e k f;have c:kV T s=true:=by unfold kV;rw[QZ (by omega),QY h1.1];exact e
  have b:B7 T s x=(cV T n (p.take (i+1)),0):=by
   unfold B7;rw[QZ (by rw[c];simp),QZ (by rw[g];simp),QZ (by omega),QY h1.1,QZ (by rw[k];simp),f]
  rw[b];exact⟨rfl,rfl,h1.2.1⟩
 ·split at a
  ·rename_i h2;split at a
   ·rename_i l;simp only[SF]at a;have o:=Cf (T:=T) (n:=n) (p:=p) s.num (p.length - i) i;rw[a]at l o;obtain⟨y,hy,t⟩:=cJ hv h.node m j (by omega);have q:s.num=(y:Int):=by rw[<-l.1];exact hy
    have c:kV T s=true:=by unfold kV;rw[QY h2,q];exact aQ.2 ⟨by omega,t⟩
    have b:B7 T s x=(s.num,0):=by
     unfold B7;rw[QZ (by rw[c];simp),QZ (by rw[g];simp),QY h2]
    rw[b];exact⟨l.1.symm,rfl,by omega⟩
   ·cases a
  ·cases a
theorem HJ(h:rZ T [] n p):∀(l:List bG) (i:Nat),i<=p.length->Ou T n p i l=(MG T [] n p i l&&uK T (cV T n (p.take i)) l)
 | [],i,hi=>by simp[Ou,MG,uK]
 |s::l,i,hi=>by
  simp only[Ou,MG,uK];cases b:lu T [] n p i s with
  |none=>
   have a:vh T n p i s=none:=by
    cases a:vh T n p i s with
    |none=>rfl
    |some j=>have:=((vi h hi s j).1 a).1;rw[b]at this;cases this
   rw[a]
   rfl
  |some j=>
   obtain⟨c,e,d⟩:=step_end h hi b;by_cases hd:s.kind=1/\s.num=cV T n (p.take i)
   ·have a:vh T n p i s=none:=by
     cases a:vh T n p i s with
     |none=>rfl
     |some j=>exact absurd hd ((vi h hi s j).1 a).2
    rw[a,QY hd];simp
   ·rw[(vi h hi s j).2 ⟨b,hd⟩,QZ hd,c];simp only;exact HJ h l j d
theorem yq(h:rZ T [] n p):∀(f i:Nat),i<=p.length->uK T (cV T n (p.take i)) (iJ T [] n p f i)=true
 |f,i,hi=>by
  by_cases a:i<p.length
  ·cases f with
   |zero=>rfl
   |succ f=>
    cases c:kc (fc T [] n p i) i p.length with
    |none=>
     rw[nM a (λk h1 h2=>lx _ c k h1 h2)];have b:lu T [] n p i ⟨2,p.getD i 0⟩=some (i+1):=by unfold lu;rw[QY ⟨rfl,a,rfl⟩]
     simp only[uK];rw[QZ (by rintro⟨h1,_⟩;omega),(step_end h hi b).1];exact yq h f (i+1) (by omega)
    |some j=>
     obtain⟨t1,t2,t3,t4⟩:=oX _ _ c;rw[lT a t1 t2 t3 t4];have d:=rr h (show i<=j by omega) t2 t3;have b:lu T [] n p i ⟨1,cV T n (p.take j)⟩=some j:=by
      unfold lu;simp only;rw[QZ (by omega),QY trivial,d,QY ⟨rfl,t3⟩]
     simp only[uK];rw[QZ,(step_end h hi b).1]
     ·exact yq h f j t2
     ·rintro⟨_,h2⟩;have:=yA (T:=T) (n:=n) (p:=p) (cV T n (p.take j)) (p.length - i) i i (Rc _) (by omega) h2.symm (λk e g=>by omega);omega
  ·rw[oG f i (by omega)]
   rfl
end
noncomputable def Pk(T:ak)(D:List Bool)(l:List bG)(n:Int)(p:List Int):Bool:=if fG T D n p=0 then Ou T n p 0 l else false
open eE
theorem AT(p:List Int)(u:PV):bM prog 135 [aq p,.ptr 0 0] [some (.cells 28 [u])] (λr σ'=>r= .tuple []/\σ'=[some (.cells 28 [aq p])]):=by
 refine cF func135 I ntmps135 I<|bx<|au 2 I<|aE [] I ?_;exact⟨_,RY I,rfl,rfl⟩
theorem CJ(T:ak)(D:List Bool)(n d:Int):bM prog 133 [aL T,aV D,num n,num d,.func 135 [.ptr 0 0]] [some (.cells 28 [.raw (.slice none 0 0)])] (λr σ'=>r=num (gG T D n d)/\σ'=[some (.cells 28 [if gG T D n d=0 then aq (cE T D n.toNat d.toNat) else .raw (.slice none 0 0)])]):=by
 refine cF func133 I ntmps133 I<|ab (.a 2 I<|.k [1,2,3,4,5] I)<|ab (.a 4 I<|.c rfl (xF T D n d) I<|.a 5 I<|.k [4,11,12] I)<|ai<|ab (.a 2 I<|.k [4,11,12,22] I)<|ae I (λh1=>?_) (λh1=>?_)
 ·have he:gG T D n d=0:=tt h1;refine bx<|au 2 I<|cD I I (RT (AT _ _) (λr σ' h=>?_));obtain⟨rfl,rfl⟩:=h;refine aE [12] I<|ab (.a 2 I<|.k [10] I)<|ao ?_;first
   |exact⟨_,RY rfl,rfl,by rw[QZ he]⟩
   |exact⟨_,RY rfl,rfl,by simp only[QY he]⟩
 ·have he:¬gG T D n d=0:=ff h1;refine aj<|ab (.a 2 I<|.k [10] I)<|ao ?_;first
   |exact⟨_,RY rfl,rfl,by rw[QZ he]⟩
   |exact⟨_,RY rfl,rfl,by simp only[QY he]⟩
theorem CK(T:ak)(D:List Bool)(n d:Int):Can prog 104 [aL T,aV D,num n,num d] (· =ec (gG T D n d) (cE T D n.toNat d.toNat)):=by
 obtain⟨u,hu⟩:∃u:PV,(if gG T D n d=0 then aq (cE T D n.toNat d.toNat) else .raw (.slice none 0 0))=u:=⟨_,rfl⟩;have a:=CJ T D n d;rw[hu]at a;refine aF func104 I ntmps104 I<|ab (.a 3 I<|.k [1,2,3,4] I)<|aK<|au 1 I<|aE [1,2,3,4,10] I ?_;refine aK<|au 5 I<|cD I I (RT a (λr σ' h=>?_));obtain⟨rfl,rfl⟩:=h;refine au 1 I<|aE [10,11] I ?_;refine ab (.v (aJ I ((show some u=some u from rfl))) I<|.a 3 I<|.k [8,9] I)<|ao<|⟨_,_,RY I,RW (QV (y:=aq (if gG T D n d=0 then cE T D n.toNat d.toNat else [])) ?_ (QV ax.pure Rl)),rfl⟩;rw[<-hu];by_cases he:gG T D n d=0
 ·rw[QY he,QY he];exact ax.pure
 ·rw[QZ he,QZ he];exact ax.bH
end
section
open Go.RowKit cG Mem Net
section
variable {T:ak} {D:List Bool}
theorem zS{d:Nat}:∀ {m:Nat} {q:List Int},Ch T D d m q->(q=[]\/bR T m=false)->eo T false m q=0
 |m,[],_,_=>rfl
 |m,a::q,h,e=>by
  cases h with
  | @cons _ b k _ g f hu hm c hp=>
   rw[oY (cH.2 ⟨by omega,by omega⟩) (by rw[QS];exact f) (.inr (by rcases e with h|h;cases h;rw[QS];exact h)),QS,hm];exact zS hp c
theorem Dy{d m:Nat}{q:List Int}(h:Ch T D d m q):eo T true m q=0:=by
 cases h with
 |nil=>rfl
 | @cons _ b k q e c hu hm a hp=>
  rw[oY (cH.2 ⟨by omega,by omega⟩) (by rw[QS];exact c) (.inl rfl),QS,hm];exact zS hp a
theorem Ch.bare{d m:Nat}{q:List Int}(h:Ch T D d m q):Ch T [] d m q:=by
 induction h with
 |nil=>exact .nil
 |cons a c hu hm b hp e=>exact .cons a c (by simp[aI]) hm b e
theorem Ch.mask{d m:Nat}{q:List Int}(h:Ch T [] d m q)(hc:∀a∈q,aI D a.toNat=false):Ch T D d m q:=by
 induction h with
 |nil=>exact .nil
 | @cons n a m p c f hu hm e hp g=>exact .cons c f (by have:=hc a (by simp);rw[QS]at this;exact this) hm e (g λb hb=>hc b (by simp[hb]))
structure fy (T:ak) (D:List Bool) (x y:Nat) (p:List Int):Prop where
 valid:av T=true
 fits:bN T D=true
 ne:x≠y
 hx:(x:Int)<T.nodes
 hy:(y:Int)<T.nodes
 uniq:fN T [] x y=true
 sp:SP T [] y x p
 up:∀a∈p,aI D a.toNat=false
theorem Eg{x y:Int}(h:J1 T D x y=true):∃a b:Nat,x=(a:Int)/\y=(b:Int)/\fy T D a b (cE T [] a b)/\gG T [] x y=0:=by
 unfold J1 at h;simp only[Q7,R4,Sb]at h;obtain⟨⟨⟨⟨hv,g⟩,d⟩,hu⟩,hc⟩:=h;obtain⟨a,b,rfl,rfl,f,hb,_,c⟩:=oW (qS hu);simp only[QS]at c hc;exact⟨a,b,rfl,rfl,⟨hv,g,λe=>d (by rw[e]),f,hb,hu,c,ot.1 hc⟩,qS hu⟩
variable {x y:Nat} {p:List Int}
theorem fy.pos(h:fy T D x y p):0<p.length:=by
 have a:=h.sp;cases a with
 |nil=>exact absurd rfl h.ne
 |cons _ _ _=>simp
theorem fy.MH(h:fy T D x y p):rZ T D x p:=⟨h.valid,h.fits,aQ.2 ⟨by omega,h.hx⟩,Dy h.sp.ch,h.up⟩
theorem fy.mn(h:fy T D x y p):eA T [] y x=1:=(Bs h.valid (iG T) h.hx h.hy).1 h.uniq
theorem fy.Pn(h:fy T D x y p):fc T [] x p 0 p.length=true:=by
 have he:cV T (x:Int) (p.take p.length)=(y:Int):=by rw[RC];exact h.sp.ch.fin
 rw[ov h.MH.bare (RQ _) (Rc _) (u:=x) I he];have:ev p 0 p.length=p:=by unfold ev;simp
 rw[this];exact⟨h.sp,h.mn⟩
theorem fy.part(h:fy T D x y p){i k:Nat}(c:i<=k)(hk:k<p.length):J1 T D (aZ T (p.getD i 0).toNat) (aN T (p.getD k 0).toNat)=true:=by
 have a:=h.MH;have b:=a.aA;have hc:=Kz a.bare (i:=0) (j:=p.length) (i':=i) (j':=k+1) (RQ _) (by omega) (by omega) (Rc _) h.Pn;obtain⟨u,hu,d⟩:=cJ h.valid a.node b i (by omega);obtain⟨v,hv,e⟩:=cJ h.valid a.node b (k+1) (by omega);rw[oL a (by omega) hu,<-fP T x p k hk,hv];rw[<-pH a (by omega) (by omega) hu hv,Q7]at hc;exact hc.1
theorem fy.next(h:fy T D x y p){i u:Nat}(hi:i<p.length)(hu:cV T x (p.take i)=(u:Int)):bu T [] u y=[p.getD i 0]/\bu T D u y=[p.getD i 0]/\(u:Int)<T.nodes:=by
 have C:=h.MH;have hv:=h.valid;have M:=C.aA;obtain⟨u',P,f⟩:=cJ hv C.node M i (by omega);have:u'=u:=by omega
 subst this;have L:cV T (x:Int) (p.take p.length)=(y:Int):=by rw[RC];exact h.sp.ch.fin
 have E:=C.bare.ch (i:=0) (j:=i) (RQ _) (by omega) (u:=x) I hu;have H:ev p 0 i++ev p i p.length=p:=by rw[<-mI p (RQ _) (by omega)];unfold ev;simp
 have w:=h.sp;rw[<-H]at w;obtain⟨s1,s2⟩:=w.suffix hv h.hy h.mn E;have F:ev p i p.length=p.getD i 0::p.drop (i+1):=by
  unfold ev;rw[SJ (by simp),drop_cons p i hi]
 rw[F]at s1;have J:∀c∈p.getD i 0::p.drop (i+1),aI D c.toNat=false:=λc hc=>by
  rw[<-drop_cons p i hi]at hc;exact h.up c (Tp hc)
 have t:=s1.ch.mask J;have N:=s1.cost hv h.hy;generalize p.getD i 0=a0 at*;generalize p.drop (i+1)=q at*;cases s1 with
 | @cons _ a m _ hn hm R=>
  obtain⟨b,hb,_,_⟩:=yl hv h.hy f hn.ne s2;have r:=gu hn ((aS hv).cost a hn.eZ).1;rw[hb]at r;simp only[Rj]at r;rw[<-r]at hb;refine⟨hb,?_,f⟩;have n:=t.le hv h.hy;have mono:∀k:Nat,(k:Int)<T.nodes->0<=dN T D y k->0<=dN T [] y k/\dN T [] y k<=dN T D y k:=λk hk h0=>by
   have hs:=fM hv h.hy hk h0;have:=hs.ch.bare.le hv h.hy;rw[<-(hs.cost hv h.hy).1]at this;exact this
  have O:=mono u' f n.1;have heq:dN T D y u'=dN T [] y u':=by omega
  have d:∀c∈bu T D u' y,c=(a:Int):=λc hc=>by
   obtain⟨k,rfl,hk⟩:=di hc;obtain⟨z,A,B⟩:=eh hv hk.eZ;have g:=hk.dN A;have g2:=mono z B g.1;have hs:=fM (D:=[]) hv h.hy B g2.1;have s:Ch T [] y u' ((k:Int)::cE T [] z y):=.cons hk.eZ hk.tail (by simp[aI]) A (by
    rcases hk.pass with e|e
    ·left;have:z=y:=by omega
     subst this;exact hs.self
    ·right;rw[A,QS]at e;exact e) hs.ch
   have g3:=s.le hv h.hy;rw[gV,<-(hs.cost hv h.hy).1,QS]at g3;have G:kE T [] u' y k:=⟨hk.eZ,hk.tail,by simp[aI],hk.ne,by rw[A,QS];exact g2.1,hk.pass,by
    rw[A,QS];show dN T [] y u'=dN T [] y z+cz T k;omega⟩
   have:=gu G ((aS hv).cost k hk.eZ).1;rw[hb]at this;simpa using this
  obtain⟨k,hk⟩:=mH (D:=D) hv f h.hy hn.ne n.1;have o:=gu hk ((aS hv).cost k hk.eZ).1;have v:=nR T D u' y;cases hx:bu T D u' y with
  |nil=>rw[hx]at o;cases o
  |cons c l=>
   rw[hx]at d v;have hc:=d c (by simp);subst hc;cases l with
   |nil=>rfl
   |cons K l=>
    have:=d K (by simp);have Q:=(T8.1 v).1 K (by simp);omega
end
def xp(k:Nat):List pM:=(List.range k).map fun(i:Nat)=>⟨(i:Int),(((i+1) % 4:Nat):Int),1,1,0,1,0⟩
def dr:ak:=⟨4,[],xp 4⟩
def I8(d:Nat):List Int:=match d with
 |0=>[0,1,2,1]
 |1=>[1,0,1,2]
 |2=>[2,1,0,1]
 |_=>[1,2,1,0]
theorem mM:av dr=true:=by kernel_rfl
def OY(T:ak)(n:Nat)(out:List Int)(a:Nat):Bool:=decide (0<=at' out (du T false a))&&(decide (du T false a=(n:Int))|| !bR T (du T false a).toNat)
theorem zm(n:Nat)(out:List Int)(a:Nat):Net.Way dr [] n false out a↔OY dr n out a=true:=by
 unfold Net.Way OY;have:aI [] a=false:=by simp[aI]
 simp[this]
theorem Cq(l:List pM)(e:pM):jy l++lS e=jy (l++[e]):=by simp[jy]
theorem CW(k:Nat):xp (k+1)=xp k++[⟨(k:Int),(((k+1) % 4:Nat):Int),1,1,0,1,0⟩]:=by simp[xp,R2]
theorem JO{P:Program}{σ t}{o:Oper}{ty v0 v1 c0 c1}(e:o.op= .build ty #[(0,.const v0),(1,.const v1)])(hb:P.built ty [(0,v0),(1,v1)]=some #[c0,c1]):bE P σ t o (.agg [.raw c0,.raw c1]):=by
 intro F base E ρ w d f g;have c:=run_build (P:=P) w ty #[(0,v0),(1,v1)] #[c0,c1] hb;have h0:ρ (.const v0)=v0:=d.const v0;have h1:ρ (.const v1)=v1:=d.const v1;have hr:(execOp ρ o).run P w= .ok (.value (.agg #[c0,c1])) w:=by
  simp only[execOp,e,Sem.run_bind,SZ,R7,So,h0,h1,c,Result.andThen_ok,Sem.run_pure]
 rw[hr];refine bI (.agg #[c0,c1] _ rfl (λi x u b a=>?_))
 match i,b,a with
 |0,b,a=>simp at b a;subst b;subst a;exact .raw _
 |1,b,a=>simp at b a;subst b;subst a;exact .raw _
 |_+2,b,a=>simp at a
section
variable {P:Program} {σ:ca} {t:cq} {o:Oper}
theorem bM.bH{f a l}{R:PV->ca->Prop}(h:bM P f (a::aV []::l) σ R):bM P f (a:: .raw (.slice none 0 0)::l) σ R:=λF base E w vs d b=>by
 refine h F base E w vs d ⟨b.1,λi c u h1 h2=>?_⟩
 match i,h2 with
 |0,h2=>exact b.2 0 c u h1 h2
 |1,h2=>
  simp at h2;subst h2;have:=b.2 1 c _ h1 rfl;cases this;exact .bH
 |i+2,h2=>exact b.2 (i+2) c u h1 h2
end
def mV(T:ak)(D:List Bool)(L:List Int)(m d:Nat):List Int:=if m=d\/L.getD m 0<0 then [] else ll T D L (L.getD m 0) d (bK T m)
def B0(T:ak)(D:List Bool)(L:List Int)(d:Nat):Nat->Nat->Int
 |0,m=>if m=d then 1 else 0
 |f+1,m=>if m=d then 1 else(mV T D L m d).foldl (λc a=>min 2 (c+B0 T D L d f (aN T a.toNat).toNat)) 0
def EI(y u:Nat)(c:Int):Bool:=decide ((I8 y).getD u 0=c)&&(decide (bY dr [] (u:Int) (y:Int)=0)&&decide (B0 dr [] (I8 y) y ((I8 y).getD u 0).toNat u=1))
section
variable {H:Type} {enc:TypeId×Value->H} {W:World}
end
open Go.WideShapes
section
variable {H:Type} {enc:TypeId×Value->H} {W:World}
theorem I4{n:Nat}{cs:List Value}{y}(h:DataW.trod enc prog W 0 (λ_=>true) true n 25 cs=some y)(hl:cs.length=3):∃T:ak,bp EN W cs (bn T):=by
 have c:prog.cellsOf 3=1:=by kernel_rfl
 have d:prog.cellsOf 22=1:=by kernel_rfl
 have g:prog.cellsOf 23=1:=by kernel_rfl
 obtain⟨xs,m,_,_,_,b,i⟩:=DataW.trod_struct Tryz.underlying25 h
 match cs,hl with
 | [c0,c1,e],_=>
  match xs,b with
  | [o,p,q],_=>
   have f0:DataW.trod enc prog W 0 (λ_=>true) true m 3 (([c0,c1,e].drop 0).take (prog.cellsOf 3))=some o:=i 0 _ rfl;rw[c]at f0;have f1:DataW.trod enc prog W 0 (λ_=>true) true m 22 (([c0,c1,e].drop 1).take (prog.cellsOf 22))=some p:=i 1 _ rfl;rw[d]at f1;have f2:DataW.trod enc prog W 0 (λ_=>true) true m 23 (([c0,c1,e].drop 2).take (prog.cellsOf 23))=some q:=i 2 _ rfl;rw[g]at f2;obtain⟨a,j⟩:=je f0;obtain⟨B,k⟩:=I3 f1;obtain⟨L,l⟩:=uQ (f:=lS) (s:=7) Tryz.underlying23 (by kernel_rfl) (by omega) (λn cs y hy hl=>LO hy hl) f2;simp at j;subst j;exact⟨⟨a,B,L⟩,SL (.raw _)<|SL k<|SL l (TQ _ _)⟩
end
section
variable {H:Type} {enc:TypeId×Value->H} {W:World}
end
end
section
open Go.RowKit cG Mem Net
theorem Ch.QO{T D}{d m:Nat}{q:List Int}(h:Ch T D d m q):∀a∈q,aI D a.toNat=false:=by
 induction h with
 |nil=>intro z b;cases b
 | @cons n a m p e g hu hm f hp c=>
  intro z b;rcases RA.1 b with rfl|b
  ·rw[QS];exact hu
  ·exact c z b
theorem sr(T:ak)(D:List Bool)(x y:Int):Can prog 120 [aL T,aV D,num x,num y] (· =ec (gG T D x y) (cE T D x.toNat y.toNat)):=by
 exact aF func120 I ntmps120 I<|ab (.a 3 I<|.k [1,2,3,4] I)<|ab (.a 4 I<|.c rfl (pC T D x y) I<|.a 4 I<|.k [8,9] I)<|ao<|QR I ax.pure rfl
theorem Lh{T D}{n:Int}{p:List Int}(hp:0<p.length):0<(gX T D n p).length:=by
 unfold gX;obtain⟨f,a⟩:∃f,p.length=f+1:=⟨p.length - 1,by omega⟩;rw[a];simp only[iJ];rw[QY (by omega)];cases kc (fc T D n p 0) 0 p.length<;>simp
def iE:List bG->List bG
 | []=>[]
 |s::l=>if s.kind=2 then l else s::l
noncomputable def fZ(T:ak)(D:List Bool)(n d:Int):jI:=
 if gG T D n d=0/\n≠d then⟨[(cE T D n.toNat d.toNat).getD 0 0],true,iE (gX T [] n (cE T D n.toNat d.toNat))⟩ else⟨[],false,[]⟩
structure pN (T:ak) (D:List Bool) (x y:Nat) (p:List Int):Prop where
 valid:av T=true
 fits:bN T D=true
 ne:x≠y
 hx:(x:Int)<T.nodes
 hy:(y:Int)<T.nodes
 sp:SP T D y x p
theorem px{T D}{n d:Int}(h:gG T D n d=0)(g:n≠d):∃a b:Nat,n=(a:Int)/\d=(b:Int)/\pN T D a b (cE T D a b):=by
 have j:bN T D=true:=by
  have f:=h;unfold gG at f;split at f
  ·rename_i h1;exact(fH h1).2.1
  ·rename_i h1;exact absurd f h1
 obtain⟨a,b,rfl,rfl,i,hb,hv,c⟩:=oW h;simp only[QS]at c;exact⟨a,b,rfl,rfl,hv,j,λe=>g (by rw[e]),i,hb,c⟩
section
variable {T:ak} {D:List Bool} {x y:Nat} {p:List Int}
theorem pN.pos(h:pN T D x y p):0<p.length:=by
 have a:=h.sp;cases a with
 |nil=>exact absurd rfl h.ne
 |cons _ _ _=>simp
theorem pN.MH(h:pN T D x y p):rZ T D x p:=⟨h.valid,h.fits,aQ.2 ⟨by omega,h.hx⟩,Dy h.sp.ch,h.sp.ch.QO⟩
theorem pN.zero(h:pN T D x y p):fG T D x p=0:=Ag h.MH
theorem pN.len(h:pN T D x y p):(p.length:Int)<T.nodes:=h.sp.yH h.valid h.hy
theorem pN.head(h:pN T D x y p):p.getD 0 0∈bu T D x y:=by
 have b:=h.sp;cases b with
 |nil=>exact absurd rfl h.ne
 | @cons n a m q h1 hm c=>exact gu h1 ((aS h.valid).cost a h1.eZ).1
theorem pN.vW(h:pN T D x y p):∃a:Nat,p.getD 0 0=(a:Int)/\kE T D x y a:=di h.head
theorem pN.ML(h:pN T D x y p):0<(gX T [] x p).length/\(gX T [] x p).length<=p.length:=⟨Lh h.pos,Lg _ _⟩
theorem pN.ck(h:pN T D x y p):Pk T D (gX T [] x p) x p=true:=by
 have a:=h.MH;unfold Pk;rw[QY h.zero,HJ a.bare _ 0 (RQ _),Q7];exact⟨B9 a.bare _ 0 (RQ _) (by omega),yq a.bare _ 0 (RQ _)⟩
theorem uB{n:Int}(hp:0<p.length):∃s l,gX T [] n p=s::l/\(s.kind=1\/s=⟨2,p.getD 0 0⟩):=by
 unfold gX;obtain⟨f,a⟩:∃f,p.length=f+1:=⟨p.length - 1,by omega⟩;rw[a];simp only[iJ];rw[QY (by omega)];cases kc (fc T [] n p 0) 0 p.length with
 |none=>exact⟨_,_,rfl,.inr rfl⟩
 |some j=>exact⟨_,_,rfl,.inl rfl⟩
theorem KA(l:List bG):(iE l).length<=l.length:=by
 cases l with
 |nil=>simp[iE]
 |cons s l=>simp only[iE];split<;>simp
theorem DH{l s}(h:s∈iE l):s∈l:=by
 cases l with
 |nil=>cases h
 |cons a l=>simp only[iE]at h;split at h<;>simp_all
theorem Cv(a:rZ T D x p):∀(f i:Nat),∀s∈iJ T [] x p f i,kV T s=true
 |0,i,s,hs=>by simp[iJ]at hs
 |f+1,i,s,hs=>by
  simp only[iJ]at hs;split at hs
  ·rename_i hi;cases b:kc (fc T [] x p i) i p.length with
   |none=>
    rw[b]at hs;simp only[RA]at hs;rcases hs with rfl|hs
    ·unfold kV;simp only[QZ (show ¬(2:Int)=1 by decide),QY rfl];exact a.aA _ (bX hi)
    ·exact Cv a f (i+1) s hs
   |some j=>
    rw[b]at hs;simp only[RA]at hs;obtain⟨h1,h2,d,e⟩:=oX _ _ b;rcases hs with rfl|hs
    ·obtain⟨u,hu,c⟩:=cJ a.valid a.node a.aA j h2;unfold kV;simp only[QY rfl];rw[hu];exact aQ.2 ⟨by omega,c⟩
    ·exact Cv a f j s hs
  ·cases hs
theorem pN.whole(h:pN T D x y p):Pk T D (iE (gX T [] x p)) x p=true\/Pk T D (⟨2,p.getD 0 0⟩::iE (gX T [] x p)) x p=true:=by
 obtain⟨s,l,hl,hs⟩:=uB (T:=T) (n:=(x:Int)) h.pos;have hc:=h.ck;rw[hl]at hc ⊢;rcases hs with hs|rfl
 ·left;simp only[iE];rw[QZ (by omega)];exact hc
 ·right;exact hc
end
theorem mE{T D}{x y:Nat}(h:pN T D x y (cE T D x y)):fZ T D x y=⟨[(cE T D x y).getD 0 0],true,iE (gX T [] x (cE T D x y))⟩:=by
 unfold fZ;rw[QY]
 ·simp only[QS]
 ·refine⟨?_,λe=>h.ne (by omega)⟩;rw[gh h.valid h.fits h.hx h.hy,QZ];have:=(h.sp.cost h.valid h.hy).2;omega
theorem nC{T D}{n d:Int}(h:¬(gG T D n d=0/\n≠d)):fZ T D n d=⟨[],false,[]⟩:=QZ h
theorem ry(T:ak)(D:List Bool)(n d:Int):(fZ T D n d=⟨[],false,[]⟩/\¬(gG T D n d=0/\n≠d))\/∃a b:Nat,n=(a:Int)/\d=(b:Int)/\pN T D a b (cE T D a b)/\fZ T D n d=⟨[(cE T D a b).getD 0 0],true,iE (gX T [] a (cE T D a b))⟩:=by
 by_cases h:gG T D n d=0/\n≠d
 ·obtain⟨a,b,rfl,rfl,hp⟩:=px h.1 h.2;exact .inr ⟨a,b,rfl,rfl,hp,mE hp⟩
 ·exact .inl ⟨nC h,h⟩
theorem tX(T:ak)(D:List Bool)(n d:Int)(cS:T.nodes<=12):(fZ T D n d).push.length<=32:=by
 rcases ry T D n d with⟨h,_⟩|⟨a,b,rfl,rfl,hp,h⟩
 ·rw[h];simp
 ·rw[h];have:=KA (gX T [] a (cE T D a b));have:=hp.ML.2;have:=hp.len;show(iE _).length<=32;omega
theorem HT(T:ak)(D:List Bool)(n d:Int)(cS:T.nodes<=12):gL T n d (fZ T D n d)=true:=by
 have e:=tX T D n d cS;rcases ry T D n d with⟨h,_⟩|⟨a,b,rfl,rfl,hp,h⟩
 ·rw[h];unfold gL;have:fe T n []=true:=Rb λi hi=>by simp at hi
  simp only[this];simp
 ·rw[h]at e ⊢;obtain⟨k,hk,hn⟩:=hp.vW;have h1:fe T (a:Int) [(cE T D a b).getD 0 0]=true:=uA (by simp) λc hc=>by
   simp only[Rj]at hc;subst hc;rw[hk];exact⟨cH.2 ⟨by omega,by have:=hn.eZ;omega⟩,by rw[QS];exact hn.tail⟩
  have h2:decide (((b:Nat):Int)=(a:Int))=false:=Rg (by have:=hp.ne;omega);have f:(iE (gX T [] a (cE T D a b))).all (kV T)=true:=Rq.2 λs hs=>Cv hp.MH _ 0 s (DH hs);unfold gL;simp only[h1,h2,f,Sw];simp only[RM,Tm,TU,Ut,Q7,Ra];exact⟨rfl,by have:(iE (gX T [] a (cE T D a b))).length<=32:=e;omega⟩
noncomputable def pK(T:ak)(D:List Bool)(n:Int)(k:Nat):List jI:=(List.range k).map fun(d:Nat)=>fZ T D n (d:Int)
theorem GH(T:ak)(D:List Bool)(n:Int)(k:Nat):pK T D n (k+1)=pK T D n k++[fZ T D n (k:Int)]:=by simp[pK,R2]
theorem qR(T:ak)(D:List Bool)(n:Int)(k:Nat):(pK T D n k).length=k:=by simp[pK]
theorem Bq{T D}{n:Int}{k d:Nat}(h:d<k):(pK T D n k)[d]? =some (fZ T D n (d:Int)):=by simp[pK,h]
theorem Ma{T D}{n k d:Nat}(h:d<k):(toL T D n k)[d]? =some ⟨bu T D n d,false,[]⟩:=by simp[toL,h]
noncomputable def zl(T:ak)(D:List Bool)(n:Nat):cQ:=⟨n,pK T D n T.nodes.toNat,cI D (bK T n)⟩
theorem GI{T:ak}{D}(hv:av T=true)(cS:T.nodes<=12){n:Nat}(hn:(n:Int)<T.nodes):df T (zl T D n)=true:=by
 unfold df zl;have h1:aX T (n:Int)=true:=aQ.2 ⟨by omega,hn⟩;have hN:=(aS hv).nodes;have h2:decide (((pK T D n T.nodes.toNat).length:Int)=T.nodes)=true:=Rb (by rw[qR];omega);have a:fe T n (cI D (bK T n))=true:=oF T n _;have b:nD T n (pK T D n T.nodes.toNat)=true:=jb λd e he=>by
  have hd:d<T.nodes.toNat:=by
   have:=(QT.1 he).1;rwa [qR]at this
  rw[Bq hd]at he;cases he;exact HT T D n d cS
 rw[hv,h1,h2,a,b]
 rfl
theorem fy.same{T D}{x y:Nat}{p:List Int}(h:fy T D x y p):cE T D x y=p/\pN T D x y p/\gX T [] x p=[⟨1,(y:Int)⟩]:=by
 have hv:=h.valid;have b:=h.sp.ch.mask h.up;have h1:=b.le hv h.hy;have h0:=h.sp.cost hv h.hy;have c:=fM (D:=D) hv h.hy h.hx h1.1;have i:=c.cost hv h.hy;have a:=c.ch.bare;have h2:=a.le hv h.hy;have d:=a.sp hv h.hy (by omega);have he:cE T D x y=p:=d.unique hv h.hy h.sp h.mn;have e:pN T D x y p:=⟨hv,h.fits,h.ne,h.hx,h.hy,by rw[<-he];exact c⟩;refine⟨he,e,?_⟩;unfold gX;obtain⟨f,g⟩:∃f,p.length=f+1:=⟨p.length - 1,by have:=h.pos;omega⟩;rw[g,lT (j:=p.length) h.pos h.pos (Rc _) h.Pn (λk l m=>by omega),oG _ _ (Rc _),RC,h.sp.ch.fin]
theorem fy.zu{T D}{x y:Nat}{p:List Int}(h:fy T D x y p):bu T [] x y=[p.getD 0 0]/\bu T D x y=[p.getD 0 0]/\fZ T D x y=⟨[p.getD 0 0],true,[⟨1,(y:Int)⟩]⟩:=by
 obtain⟨h1,h2,a⟩:=h.same;obtain⟨b,c,_⟩:=h.next (i:=0) h.pos (u:=x) I;refine⟨b,c,?_⟩;rw[<-h1]at h2;rw[mE h2,h1,a]
 rfl
theorem ES{T:ak}{D c}(hv:av T=true){d:Nat}(hd:(d:Int)<T.nodes)(dir:Bool)(f:∀a,aI D a=aI c a):bJ T D d dir=bJ T c d dir:=by
 have b:=kH (aS hv) c dir hd;refine lK (aS hv) ⟨b.len,b.root,b.ge,λa i hw=>b.closed a i ?_,λx hx h0=>?_⟩
 ·exact⟨(f a).symm.trans hw.1,hw.2⟩
 ·rcases b.o7 x hx h0 with h|⟨a,h1,h2,e,g⟩
  ·exact .inl h
  ·exact .inr ⟨a,h1,h2,⟨(f a).trans e.1,e.2⟩,g⟩
end
end PW
end Go.Proofs.YtoopjinigmhpcaaGreatDoor
