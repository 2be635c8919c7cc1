/- Texts of the proof, part 10. -/
import Derived.Test.YtnegbdpggideiaaGreatDoorCardMLB9
set_option linter.unusedVariables false
set_option linter.unusedSimpArgs false
set_option maxRecDepth 10000
set_option maxHeartbeats 1000000
namespace Go.Proofs.YtnegbdpggideiaaGreatDoor
namespace PW
open Go.RowKit cE Mem Net
section
variable {T:ai} {D:List Bool}
theorem hZ.tail{n y m:Nat}{a:Int}{p:List Int}(h:hZ T D n y (a::p))(hm:aS T a.toNat=(m:Int)):(p=[]∧m=y)∨hZ T D m y p:=by
 have hsp:=h.sp
 cases hsp with
 | @cons n a m' p hnr hh hp=>
  rw[Int.toNat_natCast,hh]at hm
  have e:m'=m:=by omega
  subst e
  cases p with
  |nil=>cases hp;exact .inl ⟨rfl,rfl⟩
  |cons b p=>
   refine .inr ?_
   have hpt:=h.part (i:=1) (k:=p.length+1) (by omega) (by simp)
   have hb:∃b':Nat,b=(b':Int)∧bb T b'=(m':Int):=by
    cases hp with
    |cons hn2 _ _=>exact⟨_,rfl,hn2.tail⟩
   obtain⟨b',rfl,hbt⟩:=hb
   have hfin:=h.sp.ch.fin
   have hlast:aS T (((a:Int)::(b':Int)::p).getD (p.length+1) 0).toNat=(y:Int):=by
    rw[←hfin]
    have:=gH T (n:Int) ((a:Int)::(b':Int)::p) (p.length+1) (by simp)
    rw[←this,List.take_of_length_le (by simp)]
   rw[hlast]at hpt
   have e1:bb T (((a:Int)::(b':Int)::p).getD 1 0).toNat=(m':Int):=hbt
   rw[e1]at hpt
   obtain⟨u,v,e3,e4,hs,_⟩:=zn hpt
   have e5:m'=u:=by omega
   have e6:y=v:=by omega
   subst e5;subst e6
   have:=hs.sp.unique hs.valid hs.hy hp hs.mj
   rw[this]at hs
   exact hs
theorem hZ.Hs{E:List Bool}{n y:Nat}{p:List Int}(h:hZ T D n y p)(hf:bP T E=true)(hE:∀a,aL D a=false→aL E a=false):hZ T E n y p:=
 ⟨h.valid,hf,h.ne,h.hx,h.hy,h.uniq,h.sp,fun a ha=>hE _ (h.up a ha)⟩
inductive rN (T:ai) (D:List Bool) (d:Nat):Nat→List bY→List Int→Prop
 |nil:rN T D d d [] []
 |node {n y:Nat} {p q:List Int} {l:List bY}:hZ T D n y p→rN T D d y l q→rN T D d n (⟨1,(y:Int)⟩::l) (p++q)
 |eM {n a m:Nat} {q:List Int} {l:List bY}:a<2*T.ae.length→bb T a=(n:Int)→aL D a=false→aS T a=(m:Int)→rN T D d m l q→rN T D d n (⟨2,(a:Int)⟩::l) ((a:Int)::q)
theorem rN.len{d n:Nat}{l:List bY}{q:List Int}(h:rN T D d n l q):l.length≤q.length:=by
 induction h with
 |nil=>exact Nat.le_refl _
 |node hs _ ih=>have:=hs.pos;simp only[List.length_cons,List.length_append];omega
 |eM _ _ _ _ _ ih=>simp only[List.length_cons];omega
theorem rN.skip{d n:Nat}{l:List bY}{q:List Int}(h:rN T D d n l q):fj ⟨1,(n:Int)⟩ l=l:=by
 cases h with
 |nil=>rfl
 |node hs _=>
  have hne:=hs.ne
  simp only[fj]
  rw[if_neg (fun e=>by cases e;exact hne rfl)]
 |eM _ _ _ _ _=>
  simp only[fj]
  rw[if_neg (fun e=>by cases e)]
theorem rN.end_{d n:Nat}{l:List bY}(h:rN T D d n l []):l=[]∧n=d:=by
 generalize hq:([]:List Int)=q at h
 cases h with
 |nil=>exact⟨rfl,rfl⟩
 |node hs _=>
  have:=hs.pos
  have h2:=congrArg List.length hq
  simp only[List.length_nil,List.length_append]at h2
  omega
 |eM _ _ _ _ _=>cases hq
structure Gm (T:ai) (D:List Bool) (n:Nat) (x:dR):Prop where
 ok:dD T x=true
 node:x.node=(n:Int)
 down:∀a:Nat,(a:Int)∈x.down→aL D a=true
 IJ:∀(y:Nat) p,hZ T D n y p→(dy x (y:Int)).aI=[p.getD 0 0]∧((dy x (y:Int)).rep=true→(dy x (y:Int)).push=[⟨1,(y:Int)⟩])
theorem o3{n d:Nat}{x:dR}(hx:Gm T D n x)(hd:(d:Int)<T.nodes){p:eU}(hp:p.dst=(d:Int))(hn:n=d)(hl:fj ⟨1,(n:Int)⟩ p.stack=[])(h32:p.stack.length≤32):(dj T x p).aI=[]∧(dj T x p).dI= -1:=by
 have hdb:bn T p.dst=true:=aU.2 ⟨by omega,by omega⟩
 unfold dj
 rw[hx.ok,hdb,hx.node,hl,if_neg (by simp),if_neg (by omega)]
 unfold eK
 rw[if_pos (by rw[hp,hx.node,hn];simp)]
 exact⟨rfl,rfl⟩
theorem AQ{n d:Nat}{x:dR}(hx:Gm T D n x)(hd:(d:Int)<T.nodes){p:eU}(hp:p.dst=(d:Int))(hh:p.fB=0){l:List bY}{a:Int}{q:List Int}(hl:fj ⟨1,(n:Int)⟩ p.stack=l)(h:rN T D d n l (a::q))(h32:p.stack.length≤32):
  ∃(m:Nat) (s:List bY),aS T a.toNat=(m:Int)∧0≤a∧a.toNat<2*T.ae.length∧bb T a.toNat=(n:Int)∧aL D a.toNat=false∧dj T x p=cd p s [a]∧s.length≤p.stack.length∧rN T D d m (fj ⟨1,(m:Int)⟩ s) q:=by
 have hdb:bn T p.dst=true:=aU.2 ⟨by omega,by omega⟩
 have hsl:=uO ⟨1,(n:Int)⟩ p.stack
 rw[hl]at hsl
 unfold dj
 rw[hx.ok,hdb,hx.node,hl,if_neg (by simp),if_neg (by omega)]
 generalize eK T x p [] (gV p 1)=K
 generalize hq:a::q=q0 at h
 cases h with
 |nil=>cases hq
 | @node n y pp q1 l1 hs hr=>
  obtain⟨p0,pt,rfl⟩:∃p0 pt,pp=p0::pt:=by
   cases pp with
   |nil=>exact absurd hs.pos (by simp)
   |cons p0 pt=>exact⟨p0,pt,rfl⟩
  simp only[List.cons_append,List.cons.injEq]at hq
  obtain⟨rfl,rfl⟩:=hq
  have hyb:bn T (y:Int)=true:=aU.2 ⟨by omega,hs.hy⟩
  obtain⟨e1,e2⟩:=hx.IJ y _ hs
  have ha:∃a' m:Nat,a=(a':Int)∧a'<2*T.ae.length∧bb T a'=(n:Int)∧aS T a'=(m:Int):=by
   have:=hs.sp
   cases this with
   |cons hnr hh _=>exact⟨_,_,rfl,hnr.eM,hnr.tail,hh⟩
  obtain⟨a',m,rfl,ha1,ha2,ha3⟩:=ha
  have hup:=hs.up (a':Int) (by simp)
  rw[Int.toNat_natCast]at hup ⊢
  have hskip:rN T D d m (fj ⟨1,(m:Int)⟩ (⟨1,(y:Int)⟩::l1)) (pt++q1):=by
   rcases hs.tail (m:=m) (by rw[Int.toNat_natCast];exact ha3)with⟨rfl,rfl⟩|ht
   ·simp only[fj,if_true,List.nil_append]
    rw[hr.skip]
    exact hr
   ·rw[(rN.node ht hr).skip]
    exact .node ht hr
  have hgo:eK T x p (⟨1,(y:Int)⟩::l1) K=cd p (⟨1,(y:Int)⟩::l1) [(a':Int)]:=by
   unfold eK
   rw[if_neg (by simp;intro h;omega),if_neg (by rw[hh];simp)]
   dsimp only
   rw[if_pos rfl]
   unfold G1
   rw[hyb,e1,if_pos (by simp)]
   unfold iv
   rw[e1]
   by_cases hrp:(dy x (y:Int)).rep=true
   ·rw[if_pos hrp,e2 hrp]
    have hlen:([⟨1,(y:Int)⟩]++(⟨1,(y:Int)⟩::l1:List bY).drop 1)=(⟨1,(y:Int)⟩::l1:List bY):=rfl
    rw[hlen,if_neg (by omega)]
    rfl
   ·rw[if_neg hrp]
    rfl
  exact⟨m,_,ha3,by omega,ha1,ha2,hup,hgo,hsl,hskip⟩
 | @eM n a' m q1 l1 h1 h2 h3 h4 h5=>
  simp only[List.cons.injEq]at hq
  obtain⟨rfl,rfl⟩:=hq
  rw[Int.toNat_natCast]
  have hab:fy T (a':Int)=true:=cY.2 ⟨by omega,by omega⟩
  have hgo:eK T x p (⟨2,(a':Int)⟩::l1) K=cd p l1 [(a':Int)]:=by
   unfold eK
   rw[if_neg (by simp;intro h;omega),if_neg (by rw[hh];simp)]
   dsimp only
   rw[if_neg (by decide),if_pos rfl,hab,Int.toNat_natCast,h2,hx.node,if_neg (by simp),if_neg (fun hm=>by rw[hx.down a' hm]at h3;cases h3)]
  refine⟨m,l1,h4,by omega,h1,h2,h3,hgo,by simp only[List.length_cons]at hsl;omega,?_⟩
  rw[h5.skip]
  exact h5
theorem tv{n:Int}{p:List Int}{d:Nat}(hF:pz T D n p)(hfin:cD T n p=(d:Int)):∀(f i u:Nat),p.length - i≤f→i≤p.length→cD T n (p.take i)=(u:Int)→rN T D d u (hJ T [] n p f i) (p.drop i)
 |f,i,u,hf,hi,hu=>by
  by_cases hlt:i<p.length
  ·cases f with
   |zero=>omega
   |succ f=>
    have ha:=hF.aI
    cases ht:kJ (eV T [] n p i) i p.length with
    |none=>
     rw[lH hlt (fun k h1 h2=>jm _ ht k h1 h2)]
     obtain⟨v,hv,_⟩:=cp hF.valid hF.node ha (i+1) (by omega)
     have h1:=gH T n p i hlt
     rw[hv]at h1
     have h2:=oM hF hlt hu
     have hm:=ca (d:=0) hlt
     have h3:=cY.1 (ha _ hm)
     have h4:=hF.up _ hm
     have h5:=tv hF hfin f (i+1) v (by omega) (by omega) hv
     rw[drop_cons p i hlt]
     obtain⟨a,hae⟩:=Int.eq_ofNat_of_zero_le h3.1
     rw[hae]at h1 h2 h3 h4 ⊢
     rw[Int.toNat_natCast]at h1 h2 h4
     exact .eM (by omega) h2 h4 h1.symm h5
    |some j=>
     obtain⟨t1,t2,t3,t4⟩:=nT _ _ ht
     rw[jS hlt t1 t2 t3 t4]
     obtain⟨v,hv,_⟩:=cp hF.valid hF.node ha j t2
     have hc:=rm hF t1 t2 hu hv
     rw[t3,Bool.and_eq_true]at hc
     obtain⟨h1,h2⟩:=hc
     obtain⟨a,b,e1,e2,hs,_⟩:=zn h1
     have e1:u=a:=by omega
     have e2:v=b:=by omega
     subst e1;subst e2
     have e3:b9 T [] u v=eA p i j:=of_decide_eq_true h2
     rw[e3]at hs
     have h5:=tv hF hfin f j v (by omega) t2 hv
     have e4:p.drop i=eA p i j++p.drop j:=by
      unfold eA
      have:=List.take_append_drop (j - i) (p.drop i)
      rw[List.drop_drop,show i+(j - i)=j by omega]at this
      exact this.symm
     rw[hv,e4]
     exact .node hs h5
  ·have e:i=p.length:=by omega
   subst e
   rw[List.take_length,hfin]at hu
   have e:d=u:=by omega
   subst e
   rw[nv _ _ (Nat.le_refl _),List.drop_length]
   exact .nil
theorem oI.JD{n d:Nat}{p:List Int}(h:oI T D n d p):rN T D d n (iJ T [] n p) p:=by
 have:=tv h.He h.sp.ch.fin p.length 0 n (by omega) (by omega) (by simp[cD])
 exact this
theorem oI.enter{n d:Nat}{p:List Int}(h:oI T D n d p):∃(a m:Nat) (q:List Int),p=(a:Int)::q∧a<2*T.ae.length∧bb T a=(n:Int)∧aL D a=false∧aS T a=(m:Int)∧rN T D d m (fj ⟨1,(m:Int)⟩ (jk (iJ T [] n p))) q:=by
 have hl:=h.JD
 have hpos:=h.pos
 generalize iJ T [] n p=l at hl
 cases hl with
 |nil=>exact absurd hpos (by simp)
 | @node n y pp q1 l1 hs hr=>
  obtain⟨p0,pt,rfl⟩:∃p0 pt,pp=p0::pt:=by
   cases pp with
   |nil=>exact absurd hs.pos (by simp)
   |cons p0 pt=>exact⟨p0,pt,rfl⟩
  have ha:∃a' m:Nat,p0=(a':Int)∧a'<2*T.ae.length∧bb T a'=(n:Int)∧aS T a'=(m:Int):=by
   have:=hs.sp
   cases this with
   |cons hnr hh _=>exact⟨_,_,rfl,hnr.eM,hnr.tail,hh⟩
  obtain⟨a',m,rfl,ha1,ha2,ha3⟩:=ha
  have hup:=hs.up (a':Int) (by simp)
  rw[Int.toNat_natCast]at hup
  refine⟨a',m,pt++q1,rfl,ha1,ha2,hup,ha3,?_⟩
  have hcut:jk (⟨1,(y:Int)⟩::l1)=⟨1,(y:Int)⟩::l1:=by simp[jk]
  rw[hcut]
  rcases hs.tail (m:=m) (by rw[Int.toNat_natCast];exact ha3)with⟨rfl,rfl⟩|ht
  ·simp only[fj,if_true,List.nil_append]
   rw[hr.skip]
   exact hr
  ·rw[(rN.node ht hr).skip]
   exact .node ht hr
 | @eM n a' m q1 l1 h1 h2 h3 h4 h5=>
  refine⟨a',m,q1,rfl,h1,h2,h3,h4,?_⟩
  have hcut:jk (⟨2,(a':Int)⟩::l1)=l1:=by simp[jk]
  rw[hcut,h5.skip]
  exact h5
theorem sW{n d:Nat}{x:dR}(hok:dD T x=true)(hxn:x.node=(n:Int))(hd:(d:Int)<T.nodes)(hne:n≠d){p:eU}(hp:p.dst=(d:Int))(hh:p.fB=0)(hl:fj ⟨1,(n:Int)⟩ p.stack=[])(h32:p.stack.length≤32)(ha:0<(dy x (d:Int)).aI.length)(hpl:(dy x (d:Int)).push.length≤32):
  dj T x p=cd p (if(dy x (d:Int)).rep then(dy x (d:Int)).push else []) (dy x (d:Int)).aI:=by
 have hdb:bn T p.dst=true:=aU.2 ⟨by omega,by omega⟩
 unfold dj
 rw[hok,hdb,hxn,hl,if_neg (by simp),if_neg (by omega)]
 unfold eK
 have hdn:decide ((d:Int)=x.node)=false:=decide_eq_false (by rw[hxn];omega)
 rw[hp,hdn,if_neg (by simp),if_neg (by rw[hh];simp)]
 dsimp only
 unfold G1
 rw[←hp,hdb,hp,if_pos (by simp;omega)]
 unfold iv
 simp only[List.drop_nil,List.append_nil]
 by_cases hr:(dy x (d:Int)).rep=true
 ·rw[if_pos hr,if_pos hr,if_neg (by omega)]
 ·rw[if_neg hr,if_neg hr]
end
end PW
end Go.Proofs.YtnegbdpggideiaaGreatDoor
namespace Go.Proofs.YtnegbdpggideiaaGreatDoor
namespace fk
open Go.RowKit Go.Shelf Net
attribute [local go_sem] Oper.semAt_some
end fk
end Go.Proofs.YtnegbdpggideiaaGreatDoor
namespace Go.Proofs.YtnegbdpggideiaaGreatDoor
namespace PW
open Go.RowKit cE Mem
inductive Up (k:Nat):PV→PV→Prop
 |pure {p:PV} [IsPure p]:Up k p p
 |own {i j:Nat}:j=k+i→Up k (.own i) (.own j)
 |ptr {i j o:Nat}:j=k+i→Up k (.ptr i o) (.ptr j o)
 |agg {xs ys:List PV} (hl:ys.length=xs.length) (hs:∀(j:Nat) x y,xs[j]? =some x→ys[j]? =some y→Up k x y):Up k (.agg xs) (.agg ys)
 |tuple {xs ys:List PV} (hl:ys.length=xs.length) (hs:∀(j:Nat) x y,xs[j]? =some x→ys[j]? =some y→Up k x y):Up k (.tuple xs) (.tuple ys)
 |func {f:FuncId} {xs ys:List PV} (hl:ys.length=xs.length) (hs:∀(j:Nat) x y,xs[j]? =some x→ys[j]? =some y→Up k x y):Up k (.func f xs) (.func f ys)
def kN(k:Nat)(xs ys:List PV):Prop:=ys.length=xs.length∧∀(j:Nat) x y,xs[j]? =some x→ys[j]? =some y→Up k x y
theorem kN.nil{k:Nat}:kN k [] []:=⟨rfl,fun j x y h=>by simp at h⟩
theorem kN.cons{k:Nat}{x y:PV}{xs ys:List PV}(h:Up k x y)(hs:kN k xs ys):kN k (x::xs) (y::ys):=⟨by simp[hs.1],fun j a b h1 h2=>by
 cases j with
 |zero=>simp at h1 h2;subst h1;subst h2;exact h
 |succ j=>exact hs.2 j a b (by simpa using h1) (by simpa using h2)⟩
theorem kN.pure{k:Nat}{xs:List PV}[h:aJ xs]:kN k xs xs:=⟨rfl,fun j x y h1 h2=>by
 rw[h1]at h2;cases h2
 haveI:=h.out j x h1
 exact Up.pure⟩
theorem Up.ja{k:Nat}{xs ys:List PV}(h:kN k xs ys):Up k (.agg xs) (.agg ys):=.agg h.1 h.2
theorem Up.bz{k:Nat}{xs ys:List PV}(h:kN k xs ys):Up k (.tuple xs) (.tuple ys):=.tuple h.1 h.2
inductive HW (k:Nat):cU→cU→Prop
 |cells {ty:TypeId} {xs ys:List PV}:kN k xs ys→HW k (.cells ty xs) (.cells ty ys)
 |row {e s n:Nat} {xs ys:List PV}:kN k xs ys→HW k (.row e s n xs) (.row e s n ys)
 |mp {kv:List (Value×PV)} [aJ (kv.map (·.2))]:HW k (.mp kv) (.mp kv)
def mF(k:Nat)(xs ys:List cU):Prop:=ys.length=xs.length∧∀(j:Nat) x y,xs[j]? =some x→ys[j]? =some y→HW k x y
theorem mF.nil{k:Nat}:mF k [] []:=⟨rfl,fun j x y h=>by simp at h⟩
theorem mF.cons{k:Nat}{x y:cU}{xs ys:List cU}(h:HW k x y)(hs:mF k xs ys):mF k (x::xs) (y::ys):=⟨by simp[hs.1],fun j a b h1 h2=>by
 cases j with
 |zero=>simp at h1 h2;subst h1;subst h2;exact h
 |succ j=>exact hs.2 j a b (by simpa using h1) (by simpa using h2)⟩
section
variable {E E1 E2:Env} {w:World} {k:Nat}
theorem Up.rep(hat:∀i,i<E1.L→E2.at_ (k+i)=E1.at_ i∧k+i<E2.L)(hM:∀b,E2.M b→E1.M b){p q:PV}(h:Up k p q):∀v,cC E1 w v p→cC E2 w v q:=by
 induction h with
 | @pure p hp=>
  intro v h
  have:=hp.out E1 E2.M w v hM h
  exact this.goes (E:=EF E2.M) (E':=E2) (w:=w) (w':=w) ⟨Nat.zero_le _,fun i hi=>absurd hi (Nat.not_lt_zero i),fun _ _ h=>h,Nat.le_refl _,fun _ _ _=>rfl⟩
 | @own i j hij=>
  intro v h
  subst hij
  cases h with
  |own _ hi _ h hs=>exact .own _ (hat i hi).2 v ((hat i hi).1.trans h) hs
 | @ptr i j o hij=>
  intro v h
  subst hij
  cases h with
  |ptr _ _ b hi h=>exact .ptr _ o b (hat i hi).2 (by rw[(hat i hi).1];exact h)
 | @agg xs ys hl _ ih=>
  intro v h
  cases h with
  |agg cs _ hl' hr=>exact .agg cs ys (hl'.trans hl.symm) (fun j c u h1 h2=>by
    have hj:j<xs.length:=by rw[←hl];exact(List.getElem?_eq_some_iff.1 h2).1
    exact ih j xs[j] u (by simp[hj]) h2 c (hr j c _ h1 (by simp[hj])))
 | @tuple xs ys hl _ ih=>
  intro v h
  cases h with
  |tuple cs _ hl' hr=>exact .tuple cs ys (hl'.trans hl.symm) (fun j c u h1 h2=>by
    have hj:j<xs.length:=by rw[←hl];exact(List.getElem?_eq_some_iff.1 h2).1
    exact ih j xs[j] u (by simp[hj]) h2 c (hr j c _ h1 (by simp[hj])))
 | @func f xs ys hl _ ih=>
  intro v h
  cases h with
  |func _ cs _ hl' hr=>exact .func f cs ys (hl'.trans hl.symm) (fun j c u h1 h2=>by
    have hj:j<xs.length:=by rw[←hl];exact(List.getElem?_eq_some_iff.1 h2).1
    exact ih j xs[j] u (by simp[hj]) h2 c (hr j c _ h1 (by simp[hj])))
theorem kN.rep(hat:∀i,i<E1.L→E2.at_ (k+i)=E1.at_ i∧k+i<E2.L)(hM:∀b,E2.M b→E1.M b){xs ys:List PV}(h:kN k xs ys){cs:List Value}(hs:aW E1 w cs xs):aW E2 w cs ys:=⟨hs.1.trans h.1.symm,fun j c u h1 h2=>by
 have hj:j<xs.length:=by rw[←h.1];exact(List.getElem?_eq_some_iff.1 h2).1
 exact(h.2 j xs[j] u (by simp[hj]) h2).rep hat hM c (hs.2 j c _ h1 (by simp[hj]))⟩
theorem HW.sat{base base':Nat}(hb:base'≤base)(hat:∀i,i<E1.L→E2.at_ (k+i)=E1.at_ i∧k+i<E2.L)(hM:∀b,E2.M b→E1.M b){v:Value}{x y:cU}(h:HW k x y)(hs:gj base E1 w v x):gj base' E2 w v y:=by
 cases h with
 |cells h1=>
  obtain⟨b,cs,h2,h3,h4,h5⟩:=hs
  exact⟨b,cs,h2,by omega,h4,h1.rep hat hM h5⟩
 |row h1=>
  obtain⟨cs,h2,h3⟩:=hs
  refine⟨cs,⟨h2.1,?_⟩,h1.rep hat hM h3⟩
  rcases h2.2 with h|⟨g,cap,cur,a1,a2,a3⟩
  ·exact .inl h
  ·exact .inr ⟨g,cap,cur,a1,by omega,a3⟩
 | @mp kv hp=>
  obtain⟨r,es,ck,h2,h3,h4,h5,h6⟩:=hs
  exact⟨r,es,ck,h2,by omega,h4,h5,kN.pure (k:=k).rep hat hM h6⟩
end
theorem bU.frame{P:Program}{f:FuncId}{ps:List PV}{σ:cf}{R:PV→cf→Prop}[aJ ps]
  (h:bU P f ps [] (fun r σ1=>∃bs,σ1=bs.map some∧∃r' bs',Up σ.length r r'∧mF σ.length bs bs'∧R r' (σ++bs'.map some))):bU P f ps σ R:=fun F base E w vs hS hR=>by
 refine(h E.M w.heap.size (EF E.M) w vs (Sat.start E.M w (fun b hb=>hS.lt hb) hS.gl) (hR.pure (fun _ h=>h))).mono ?_
 rintro e w' ⟨v,r,σ1,E1,rfl,⟨bs,rfl,r',bs',hu,hbu,hRr⟩,hS1,hg1,hB1,hv⟩
 have hE:Ext w w':=hB1
 have hL1:E1.L=bs.length:=by rw[hS1.len];simp
 have hlen:((List.range bs.length).map E1.at_).length=bs'.length:=by rw[List.length_map,List.length_range,hbu.1]
 have hget:∀(i:Nat) v,((List.range bs.length).map E1.at_)[i]? =some v→i<bs.length∧v=E1.at_ i:=fun i v hi=>by
  have hi':i<bs.length:=by have:=(List.getElem?_eq_some_iff.1 hi).1;simpa using this
  rw[List.getElem?_map,List.getElem?_range hi']at hi
  cases hi
  exact⟨hi',rfl⟩
 have hbk:∀i,i<bs.length→∃x,bs[i]? =some x∧(bs.map some)[i]? =some (some x):=fun i hi=>⟨bs[i],by simp[hi],by simp[hi]⟩
 have hat:∀i,i<E1.L→(E.ed ((List.range bs.length).map E1.at_)).at_ (σ.length+i)=E1.at_ i∧σ.length+i<(E.ed ((List.range bs.length).map E1.at_)).L:=fun i hi=>by
  rw[hL1]at hi
  refine⟨?_,?_⟩
  ·simp only[Env.ed,hS.len]
   rw[if_neg (by omega),Nat.add_sub_cancel_left,List.getD_eq_getElem?_getD,List.getElem?_map,List.getElem?_range hi]
   rfl
  ·simp only[Env.ed,hS.len,List.length_map,List.length_range];omega
 have hM:∀b,(E.ed ((List.range bs.length).map E1.at_)).M b→E1.M b:=fun b hb=>by
  rcases hb with hb|⟨v,hv1,hv2⟩
  ·exact(hS1.mm b).2 (.inl hb)
  ·obtain⟨i,hi⟩:=List.getElem?_of_mem hv1
   obtain⟨hi1,rfl⟩:=hget i v hi
   obtain⟨x,_,hx⟩:=hbk i hi1
   exact(hS1.mm b).2 (.inr ⟨i,x,hx,hv2⟩)
 have hp:=hS.ed hE ((List.range bs.length).map E1.at_) bs' hlen
  (fun v hv1 b hb=>by
   obtain⟨i,hi⟩:=List.getElem?_of_mem hv1
   obtain⟨hi1,rfl⟩:=hget i v hi
   obtain⟨x,_,hx⟩:=hbk i hi1
   exact((hS1.blk i x hx).lt hb).1)
  (fun i j u v b hi hj hu hv=>by
   obtain⟨hi1,rfl⟩:=hget i u hi
   obtain⟨hj1,rfl⟩:=hget j v hj
   obtain⟨x,_,hx⟩:=hbk i hi1
   obtain⟨y,_,hy⟩:=hbk j hj1
   exact hS1.inj i j x y b hx hy hu hv)
  (fun i v blk hi hb=>by
   obtain⟨hi1,rfl⟩:=hget i v hi
   obtain⟨x,hx0,hx⟩:=hbk i hi1
   exact(hbu.2 i x blk hx0 hb).sat hS.bl hat hM (hS1.blk i x hx))
 exact⟨v,r',_,_,rfl,hRr,hp.1,hp.2,Below.iy hE hS.bl,hu.rep hat hM v hv⟩
end PW
end Go.Proofs.YtnegbdpggideiaaGreatDoor
namespace Go.Proofs.YtnegbdpggideiaaGreatDoor
namespace PW
open Go.RowKit cE Mem Net
theorem ql(T:ai)(D:List Bool)(n:Int):Can Tryz.prog 53 [aN T,aY D,num n] (· = .tuple [fV (jq T D n),num (cw T D [n])]):=by
 refine aG Tryz.func53 rfl Tryz.ntmps53 rfl<|aR<|au 3 rfl<|aH [1,2,3,6] rfl ?_
 refine ak ?_
 obtain⟨q1,hq1⟩:∃q,ao T=q:=⟨_,rfl⟩
 obtain⟨q2,hq2⟩:∃q,bP T D=q:=⟨_,rfl⟩
 refine bu 22 (.raw (.bool ((!q1)||(!q2)))) [1,2,3,6] rfl ?_ ?_
 ·refine .a 1 rfl<|.c rfl (hq1▸ej T) rfl<|.a 2 rfl<|?_
  cases q1
  ·exact .a 5 rfl<|.k [22,1,2,3,6] rfl
  ·exact .a 2 rfl<|.c rfl (hq2▸la T D (by have:=bO hq1;omega)) rfl<|.a 2 rfl<|.k [22,1,2,3,6] rfl
 refine ah rfl (fun hc=>?_) (fun hc=>?_)
 ·have hch:cw T D [n]=1:=by
   unfold cw
   rw[hq1,hq2,if_neg]
   revert hc
   cases q1<;>cases q2<;>simp
  refine aR<|au 3 rfl<|aH [6,7] rfl ?_
  exact aq<|⟨_,_,az.of rfl,aC.bz (an.cons (aC.ja (an.cons aC.pure<|an.cons aC.b7<|an.cons aC.b7 an.nil)) (an.cons aC.pure an.nil)),by unfold jq;rw[hch];rfl⟩
 ·have hok:(ao T&&bP T D)=true:=by
   rw[hq1,hq2]
   revert hc
   cases q1<;>cases q2<;>simp
  clear hc hq1 hq2
  refine aj<|ak<|ab (.a 2 rfl<|.c rfl (df T n) rfl<|.a 1 rfl<|.k [1,2,3,6,27] rfl)<|ah rfl (fun hc=>?_) (fun hc=>?_)
  ·have hn:bn T n=false:=by revert hc;cases bn T n<;>simp
   have hch:cw T D [n]=2:=by
    unfold cw
    rw[if_pos hok,if_neg]
    simp[hn]
   refine aR<|au 3 rfl<|aH [6,7] rfl ?_
   exact aq<|⟨_,_,az.of rfl,aC.bz (an.cons (aC.ja (an.cons aC.pure<|an.cons aC.b7<|an.cons aC.b7 an.nil)) (an.cons aC.pure an.nil)),by unfold jq;rw[hch];rfl⟩
  ·have hn:bn T n=true:=by revert hc;cases bn T n<;>simp
   have hch:cw T D [n]=0:=by
    unfold cw
    rw[if_pos hok,if_pos]
    simp[hn]
   obtain⟨hv,hf⟩:=Bool.and_eq_true_iff.1 hok
   rw[aU]at hn
   obtain⟨m,rfl⟩:=Int.eq_ofNat_of_zero_le hn.1
   obtain⟨N,hN⟩:∃N:Nat,T.nodes=(N:Int):=⟨T.nodes.toNat,by omega⟩
   have hN64:N≤64:=by have:=(aK hv).nodes;omega
   have hll:=bO hv
   refine aj<|aR<|au 4 rfl<|aH [1,2,3,6,8] rfl ?_
   refine cq 1 1 76 3 rfl rfl ?_
   refine cq 1 2 3 1 rfl rfl ?_
   refine ak<|ab (.a 1 rfl<|.v (aO rfl ((show some (num T.nodes)=some (num (N:Int)) by rw[hN]))) rfl<|.a 1 rfl<|.k [1,2,3,6,8,32,33] rfl)<|av<|fp [1,2,3,6,8,32,33] rfl<|bq (fun r s=>∃j,j≤N∧r=N - j∧s=⟨[(1,aY D),(2,num m),(3,.aX (bw T) 0),(6,.ptr 0 0),(8,.ptr 1 0),(32,num N),(33,num j)],[some (.cells 56 [num 0,.raw (.slice none 0 0),.raw (.slice none 0 0)]),some (.cells 56 [num m,.own 2,.own 3]),some (.row 76 3 j (dw (nY T D m j))),some (.row 3 1 0 [])]⟩) N ⟨0,by omega,by omega,rfl⟩ ?_
   rintro r s ⟨j,hj,rfl,rfl⟩
   refine ab (.a 1 rfl<|.k [1,2,3,6,8,32,33,34] rfl)<|ak<|ah rfl (fun hc=>?_) (fun hc=>?_)
   ·have hlt:j<N:=by have:=of_decide_eq_true hc;omega
    have hne:cc T D (m:Int) (j:Int)=0:=by
     have hnb:bn T (j:Int)=true:=aU.2 ⟨by omega,by omega⟩
     have hch':cw T D [(j:Int)]=0:=by
      unfold cw
      rw[if_pos hok,if_pos]
      simp[hnb]
     unfold cc
     rw[if_pos hch',if_pos (aU.2 hn)]
    have hnx:Can Tryz.prog 109 [aN T,aY D,num m,num j] (· = .tuple [aw (bx T D m j),num 0]):=by
     have h:=rq T D (m:Int) (j:Int)
     rw[hne]at h
     exact h
    refine aj<|ak<|av<|ab (.a 2 rfl<|.k [1,2,3,6,8,9,32,33] rfl)<|ab (.a 4 rfl<|.c rfl (hnx) rfl<|.a 5 rfl<|.k [1,2,3,6,8,10,32,33] rfl)<|bI<|au 3 rfl<|bE (FR (iI (xs:=[_,_,_]) rfl (bL.st.get rfl) rfl rfl) (j8.ja (.cons (j8.refl _)<|.cons (j8.refl _)<|.cons j8.b7 .nil))) rfl<|au 1 rfl<|cz (bA rfl (bL.rk.get rfl) rfl rfl rfl rfl (by unfold maxLen;omega)) rfl<|au 2 rfl ?_
    refine ee [0,1,4,3] (.c 1<|.c 2<|.c 3<|.c 6<|.c 8<|.c 32<|.c 33<|.nil) (.kept rfl (.cells (aE.c<|aE.c<|aE.c<|aE.nil))<|.kept rfl (.cells (aE.c<|aE.c<|aE.c<|aE.nil))<|.kept rfl (.fm rfl (show _=dw (nY T D m (j+1)) by rw[vA];exact mN _ ⟨bx T D m j,false,[]⟩))<|.kept rfl (.row aE.pure)<|.nil) rfl rfl (aZ ?_)
    refine aB (.v (aT rfl) rfl<|.a 1 rfl<|.k [1,2,3,6,8,32,33] rfl) ?_
    exact⟨N - (j+1),by omega,j+1,by omega,rfl,rfl⟩
   ·have hje:j=N:=by have:=of_decide_eq_false hc;omega
    subst hje
    refine bf<|ak ?_
    have hol:(bH T m).length≤512:=Nat.le_trans (eh T m _) (by omega)
    refine ab (.a 2 rfl<|.c rfl (nU T hll _) rfl<|.a 2 rfl<|.k [1,6,8,54,55,56] rfl)<|av<|fp [1,6,8,54,55,56] rfl<|bq (fun r s=>∃i,i≤(bH T m).length∧r=(bH T m).length - i∧s=⟨[(1,aY D),(6,.ptr 0 0),(8,.ptr 1 0),(54,aw (bH T m)),(55,num (bH T m).length),(56,num i)],[some (.cells 56 [num 0,.raw (.slice none 0 0),.raw (.slice none 0 0)]),some (.cells 56 [num m,.own 2,.own 3]),some (.row 76 3 j (dw (nY T D m j))),some (.row 3 1 (cF D ((bH T m).take i)).length (aP (cF D ((bH T m).take i))))]⟩) (bH T m).length ⟨0,by omega,by omega,rfl⟩ ?_
    rintro r s ⟨i,hi,rfl,rfl⟩
    refine ab (.a 1 rfl<|.k [1,6,8,54,55,56,57] rfl)<|ak<|ah rfl (fun hc=>?_) (fun hc=>?_)
    ·have hlt:i<(bH T m).length:=by have:=of_decide_eq_true hc;omega
     obtain⟨h0,h1⟩:=jV (ca (d:=0) hlt)
     obtain⟨a,ha⟩:=Int.eq_ofNat_of_zero_le h0
     have hDl:D.length=0∨a<D.length:=by simp only[bP,decide_eq_true_eq]at hf;omega
     have hstep:cF D ((bH T m).take (i+1))=cF D ((bH T m).take i)++(if aL D a then [(a:Int)] else []):=by
      unfold cF
      rw[dF _ i 0 hlt,List.filter_append,ha]
      simp only[List.filter_cons,List.filter_nil,Int.toNat_natCast]
     have hdl:(cF D ((bH T m).take i)).length≤1000:=Nat.le_trans (List.length_filter_le _ _) (by rw[List.length_take];have:=eh T m (2*T.ae.length);unfold bH at*;omega)
     refine aj<|ak<|av<|ab (.v (aM (i) rfl) rfl<|.v (aO rfl ((aA _ i hlt).trans (by rw[ha]))) rfl<|.a 1 rfl<|.k [1,6,8,13,54,55,56] rfl)<|ab (.a 2 rfl<|.c rfl (i7 D a hDl) rfl<|.k [1,6,8,13,54,55,56,62] rfl)<|ah rfl (fun hcd=>?_) (fun hcd=>?_)
     ·rw[hcd,if_pos rfl]at hstep
      refine bI<|au 4 rfl<|cz (bA rfl (bL.rk.get rfl) rfl rfl rfl rfl (by unfold maxLen;omega)) rfl<|au 2 rfl ?_
      refine ee [0,1,2,4] (.c 1<|.c 6<|.c 8<|.c 54<|.c 55<|.c 56<|.nil) (.kept rfl (.cells (aE.c<|aE.c<|aE.c<|aE.nil))<|.kept rfl (.cells (aE.c<|aE.c<|aE.c<|aE.nil))<|.kept rfl (.row aE.pure)<|.kept rfl (.fm rfl (dc _ _))<|.nil) rfl rfl (aZ ?_)
      refine aB (.v (aT rfl) rfl<|.a 1 rfl<|.k [1,6,8,54,55,56] rfl) ?_
      refine⟨(bH T m).length - (i+1),by omega,i+1,by omega,rfl,?_⟩
      rw[hstep]
      first
       |rfl
       |(simp only[List.length_append,List.length_singleton];rfl)
     ·rw[hcd,if_neg (by simp),List.append_nil]at hstep
      refine aj<|aB (.v (aT rfl) rfl<|.a 1 rfl<|.k [1,6,8,54,55,56] rfl) ?_
      refine⟨(bH T m).length - (i+1),by omega,i+1,by omega,rfl,?_⟩
      rw[hstep]
      first
       |rfl
       |(simp only[List.length_append,List.length_singleton];rfl)
    ·have hie:i=(bH T m).length:=by have:=of_decide_eq_false hc;omega
     subst hie
     refine bf<|aR<|bE (fv (ys:=[num m,.own 2,.own 3]) rfl (bL.tk.get rfl) rfl rfl rfl rfl) rfl<|au 2 rfl<|aH [6,7] rfl ?_
     refine aq<|⟨_,_,az.of rfl,aC.bz (an.cons (aC.ja (an.cons aC.pure<|an.cons (aC.fu rfl an.pure)<|an.cons (aC.fu rfl an.pure) an.nil)) (an.cons aC.pure an.nil)),?_⟩
     unfold jq
     rw[hch,if_pos rfl,List.take_length]
     unfold dB fV fU jY aw
     rw[tL,show T.nodes.toNat=j by omega]
     rfl
end PW
end Go.Proofs.YtnegbdpggideiaaGreatDoor
namespace Go.Proofs.YtnegbdpggideiaaGreatDoor
namespace PW
open Go.RowKit cE Mem Net fk
theorem wN(T:ai)(D:List Bool)(n:Int)(hch0:cw T D [n]=0):bU Tryz.prog 53 [aN T,aY D,num n] [] (fun r σ'=>r= .tuple [.agg [num n,.own 2,.own 3],num 0]∧σ'=[some (.cells 56 [num n,.own 2,.own 3]),some (.cells 56 [num n,.own 2,.own 3]),some (.row 76 3 T.nodes.toNat (dw (nY T D n.toNat T.nodes.toNat))),some (.row 3 1 (cF D (bH T n)).length (aP (cF D (bH T n))))]):=by
 refine cr Tryz.func53 rfl Tryz.ntmps53 rfl<|aR<|au 3 rfl<|aH [1,2,3,6] rfl ?_
 refine ak ?_
 obtain⟨q1,hq1⟩:∃q,ao T=q:=⟨_,rfl⟩
 obtain⟨q2,hq2⟩:∃q,bP T D=q:=⟨_,rfl⟩
 refine bu 22 (.raw (.bool ((!q1)||(!q2)))) [1,2,3,6] rfl ?_ ?_
 ·refine .a 1 rfl<|.c rfl (hq1▸ej T) rfl<|.a 2 rfl<|?_
  cases q1
  ·exact .a 5 rfl<|.k [22,1,2,3,6] rfl
  ·exact .a 2 rfl<|.c rfl (hq2▸la T D (by have:=bO hq1;omega)) rfl<|.a 2 rfl<|.k [22,1,2,3,6] rfl
 refine ah rfl (fun hc=>?_) (fun hc=>?_)
 ·have hch:cw T D [n]=1:=by
   unfold cw
   rw[hq1,hq2,if_neg]
   revert hc
   cases q1<;>cases q2<;>simp
  exact absurd hch0 (by rw[hch];decide)
 ·have hok:(ao T&&bP T D)=true:=by
   rw[hq1,hq2]
   revert hc
   cases q1<;>cases q2<;>simp
  clear hc hq1 hq2
  refine aj<|ak<|ab (.a 2 rfl<|.c rfl (df T n) rfl<|.a 1 rfl<|.k [1,2,3,6,27] rfl)<|ah rfl (fun hc=>?_) (fun hc=>?_)
  ·have hn:bn T n=false:=by revert hc;cases bn T n<;>simp
   have hch:cw T D [n]=2:=by
    unfold cw
    rw[if_pos hok,if_neg]
    simp[hn]
   exact absurd hch0 (by rw[hch];decide)
  ·have hn:bn T n=true:=by revert hc;cases bn T n<;>simp
   have hch:cw T D [n]=0:=by
    unfold cw
    rw[if_pos hok,if_pos]
    simp[hn]
   obtain⟨hv,hf⟩:=Bool.and_eq_true_iff.1 hok
   rw[aU]at hn
   obtain⟨m,rfl⟩:=Int.eq_ofNat_of_zero_le hn.1
   obtain⟨N,hN⟩:∃N:Nat,T.nodes=(N:Int):=⟨T.nodes.toNat,by omega⟩
   have hN64:N≤64:=by have:=(aK hv).nodes;omega
   have hll:=bO hv
   refine aj<|aR<|au 4 rfl<|aH [1,2,3,6,8] rfl ?_
   refine cq 1 1 76 3 rfl rfl ?_
   refine cq 1 2 3 1 rfl rfl ?_
   refine ak<|ab (.a 1 rfl<|.v (aO rfl ((show some (num T.nodes)=some (num (N:Int)) by rw[hN]))) rfl<|.a 1 rfl<|.k [1,2,3,6,8,32,33] rfl)<|av<|fp [1,2,3,6,8,32,33] rfl<|bq (fun r s=>∃j,j≤N∧r=N - j∧s=⟨[(1,aY D),(2,num m),(3,.aX (bw T) 0),(6,.ptr 0 0),(8,.ptr 1 0),(32,num N),(33,num j)],[some (.cells 56 [num 0,.raw (.slice none 0 0),.raw (.slice none 0 0)]),some (.cells 56 [num m,.own 2,.own 3]),some (.row 76 3 j (dw (nY T D m j))),some (.row 3 1 0 [])]⟩) N ⟨0,by omega,by omega,rfl⟩ ?_
   rintro r s ⟨j,hj,rfl,rfl⟩
   refine ab (.a 1 rfl<|.k [1,2,3,6,8,32,33,34] rfl)<|ak<|ah rfl (fun hc=>?_) (fun hc=>?_)
   ·have hlt:j<N:=by have:=of_decide_eq_true hc;omega
    have hne:cc T D (m:Int) (j:Int)=0:=by
     have hnb:bn T (j:Int)=true:=aU.2 ⟨by omega,by omega⟩
     have hch':cw T D [(j:Int)]=0:=by
      unfold cw
      rw[if_pos hok,if_pos]
      simp[hnb]
     unfold cc
     rw[if_pos hch',if_pos (aU.2 hn)]
    have hnx:Can Tryz.prog 109 [aN T,aY D,num m,num j] (· = .tuple [aw (bx T D m j),num 0]):=by
     have h:=rq T D (m:Int) (j:Int)
     rw[hne]at h
     exact h
    refine aj<|ak<|av<|ab (.a 2 rfl<|.k [1,2,3,6,8,9,32,33] rfl)<|ab (.a 4 rfl<|.c rfl (hnx) rfl<|.a 5 rfl<|.k [1,2,3,6,8,10,32,33] rfl)<|bI<|au 3 rfl<|bE (FR (iI (xs:=[_,_,_]) rfl (bL.st.get rfl) rfl rfl) (j8.ja (.cons (j8.refl _)<|.cons (j8.refl _)<|.cons j8.b7 .nil))) rfl<|au 1 rfl<|cz (bA rfl (bL.rk.get rfl) rfl rfl rfl rfl (by unfold maxLen;omega)) rfl<|au 2 rfl ?_
    refine ee [0,1,4,3] (.c 1<|.c 2<|.c 3<|.c 6<|.c 8<|.c 32<|.c 33<|.nil) (.kept rfl (.cells (aE.c<|aE.c<|aE.c<|aE.nil))<|.kept rfl (.cells (aE.c<|aE.c<|aE.c<|aE.nil))<|.kept rfl (.fm rfl (show _=dw (nY T D m (j+1)) by rw[vA];exact mN _ ⟨bx T D m j,false,[]⟩))<|.kept rfl (.row aE.pure)<|.nil) rfl rfl (aZ ?_)
    refine aB (.v (aT rfl) rfl<|.a 1 rfl<|.k [1,2,3,6,8,32,33] rfl) ?_
    exact⟨N - (j+1),by omega,j+1,by omega,rfl,rfl⟩
   ·have hje:j=N:=by have:=of_decide_eq_false hc;omega
    subst hje
    refine bf<|ak ?_
    have hol:(bH T m).length≤512:=Nat.le_trans (eh T m _) (by omega)
    refine ab (.a 2 rfl<|.c rfl (nU T hll _) rfl<|.a 2 rfl<|.k [1,6,8,54,55,56] rfl)<|av<|fp [1,6,8,54,55,56] rfl<|bq (fun r s=>∃i,i≤(bH T m).length∧r=(bH T m).length - i∧s=⟨[(1,aY D),(6,.ptr 0 0),(8,.ptr 1 0),(54,aw (bH T m)),(55,num (bH T m).length),(56,num i)],[some (.cells 56 [num 0,.raw (.slice none 0 0),.raw (.slice none 0 0)]),some (.cells 56 [num m,.own 2,.own 3]),some (.row 76 3 j (dw (nY T D m j))),some (.row 3 1 (cF D ((bH T m).take i)).length (aP (cF D ((bH T m).take i))))]⟩) (bH T m).length ⟨0,by omega,by omega,rfl⟩ ?_
    rintro r s ⟨i,hi,rfl,rfl⟩
    refine ab (.a 1 rfl<|.k [1,6,8,54,55,56,57] rfl)<|ak<|ah rfl (fun hc=>?_) (fun hc=>?_)
    ·have hlt:i<(bH T m).length:=by have:=of_decide_eq_true hc;omega
     obtain⟨h0,h1⟩:=jV (ca (d:=0) hlt)
     obtain⟨a,ha⟩:=Int.eq_ofNat_of_zero_le h0
     have hDl:D.length=0∨a<D.length:=by simp only[bP,decide_eq_true_eq]at hf;omega
     have hstep:cF D ((bH T m).take (i+1))=cF D ((bH T m).take i)++(if aL D a then [(a:Int)] else []):=by
      unfold cF
      rw[dF _ i 0 hlt,List.filter_append,ha]
      simp only[List.filter_cons,List.filter_nil,Int.toNat_natCast]
     have hdl:(cF D ((bH T m).take i)).length≤1000:=Nat.le_trans (List.length_filter_le _ _) (by rw[List.length_take];have:=eh T m (2*T.ae.length);unfold bH at*;omega)
     refine aj<|ak<|av<|ab (.v (aM (i) rfl) rfl<|.v (aO rfl ((aA _ i hlt).trans (by rw[ha]))) rfl<|.a 1 rfl<|.k [1,6,8,13,54,55,56] rfl)<|ab (.a 2 rfl<|.c rfl (i7 D a hDl) rfl<|.k [1,6,8,13,54,55,56,62] rfl)<|ah rfl (fun hcd=>?_) (fun hcd=>?_)
     ·rw[hcd,if_pos rfl]at hstep
      refine bI<|au 4 rfl<|cz (bA rfl (bL.rk.get rfl) rfl rfl rfl rfl (by unfold maxLen;omega)) rfl<|au 2 rfl ?_
      refine ee [0,1,2,4] (.c 1<|.c 6<|.c 8<|.c 54<|.c 55<|.c 56<|.nil) (.kept rfl (.cells (aE.c<|aE.c<|aE.c<|aE.nil))<|.kept rfl (.cells (aE.c<|aE.c<|aE.c<|aE.nil))<|.kept rfl (.row aE.pure)<|.kept rfl (.fm rfl (dc _ _))<|.nil) rfl rfl (aZ ?_)
      refine aB (.v (aT rfl) rfl<|.a 1 rfl<|.k [1,6,8,54,55,56] rfl) ?_
      refine⟨(bH T m).length - (i+1),by omega,i+1,by omega,rfl,?_⟩
      rw[hstep]
      first
       |rfl
       |(simp only[List.length_append,List.length_singleton];rfl)
     ·rw[hcd,if_neg (by simp),List.append_nil]at hstep
      refine aj<|aB (.v (aT rfl) rfl<|.a 1 rfl<|.k [1,6,8,54,55,56] rfl) ?_
      refine⟨(bH T m).length - (i+1),by omega,i+1,by omega,rfl,?_⟩
      rw[hstep]
      first
       |rfl
       |(simp only[List.length_append,List.length_singleton];rfl)
    ·have hie:i=(bH T m).length:=by have:=of_decide_eq_false hc;omega
     subst hie
     refine bf<|aR<|bE (fv (ys:=[num m,.own 2,.own 3]) rfl (bL.tk.get rfl) rfl rfl rfl rfl) rfl<|au 2 rfl<|aH [6,7] rfl ?_
     refine aq<|⟨_,az.of rfl,rfl,?_⟩
     have hjN:T.nodes.toNat=j:=by omega
     rw[List.take_length,Int.toNat_natCast,hjN]
     rfl
def jB(e:Int)(x:dR):PV:=.tuple [fV (if e=0 then x else⟨0,[],[]⟩),num e]
theorem nZ{T:ai}{D:List Bool}{n d:Int}(hv:ao T=true)(hf:bP T D=true)(hn:bn T n=true)(hd:bn T d=true):cc T D n d=0:=by
 unfold cc cw
 rw[hv,hf,hn]
 simp[hd]
def iR(M:List Bool)(T:ai)(n:Int)(k:Nat):List Int:=((List.range k).filter fun a=>aL M a&&decide (bb T a=n)).map Int.ofNat
def gw(T:ai)(M:List Bool)(n:Int)(k:Nat):List Bool:=(List.range (2*T.ae.length)).map fun a=>decide (a<k)&&(aL M a&&decide (bb T a=n))
theorem EO(M:List Bool)(T:ai)(n:Int):iR M T n (2*T.ae.length)=cF M (bH T n):=by
 unfold iR cF bH iB
 rw[List.filter_map,List.filter_filter]
 congr 1
theorem Gz(M:List Bool)(T:ai)(n:Int)(k:Nat):(iR M T n k).length≤k:=by
 unfold iR
 rw[List.length_map]
 exact Nat.le_trans (List.length_filter_le _ _) (by simp)
theorem EG{M:List Bool}{T:ai}{n:Int}{k:Nat}(h:(aL M k&&decide (bb T k=n))=true):iR M T n (k+1)=iR M T n k++[(k:Int)]:=by
 simp only[iR,List.range_succ,List.filter_append,List.map_append]
 rw[List.filter_cons_of_pos (by simpa using h)]
 rfl
theorem HZ{M:List Bool}{T:ai}{n:Int}{k:Nat}(h:(aL M k&&decide (bb T k=n))=false):iR M T n (k+1)=iR M T n k:=by
 simp only[iR,List.range_succ,List.filter_append,List.map_append]
 rw[List.filter_cons_of_neg (by simpa using h)]
 simp
theorem Ab(T:ai)(M:List Bool)(n:Int)(k:Nat):(gw T M n k).length=2*T.ae.length:=by simp[gw]
theorem yp(T:ai)(M:List Bool)(n:Int):gw T M n 0=List.replicate (2*T.ae.length) false:=by
 unfold gw
 apply List.ext_getElem (by simp)
 intro i h1 h2
 simp
theorem BD{T:ai}{M:List Bool}{n:Int}{k:Nat}(h:(aL M k&&decide (bb T k=n))=true):(gw T M n k).set k true=gw T M n (k+1):=by
 apply List.ext_getElem (by simp[gw])
 intro i h1 h2
 rw[List.getElem_set]
 by_cases e:k=i
 ·subst e
  simp only[gw,List.getElem_map,List.getElem_range,if_true]
  rw[h,decide_eq_true (by omega)];rfl
 ·rw[if_neg e]
  simp only[gw,List.getElem_map,List.getElem_range]
  rw[show decide (i<k+1)=decide (i<k) from decide_eq_decide.2 (by omega)]
theorem D4{T:ai}{M:List Bool}{n:Int}{k:Nat}(h:(aL M k&&decide (bb T k=n))=false):gw T M n (k+1)=gw T M n k:=by
 unfold gw
 refine List.map_congr_left fun a _=>?_
 by_cases e:a=k
 ·subst e;rw[h];simp
 ·rw[show decide (a<k+1)=decide (a<k) from decide_eq_decide.2 (by omega)]
theorem AE(T:ai)(M:List Bool)(n:Int):gw T M n (2*T.ae.length)=fE T M n:=by
 unfold gw fE
 refine List.map_congr_left fun a ha=>?_
 rw[decide_eq_true (List.mem_range.1 ha),Bool.true_and]
theorem eG{M:List Bool}{a:Nat}:M.getD a false=aL M a:=by
 unfold aL
 by_cases h:M.length=0
 ·have:M=[]:=List.eq_nil_of_length_eq_zero h
  subst this;simp
 ·first
   |rfl
   |simp[h]
theorem BB(T:ai)(k x n:Int)(hm:(ao T&&bW T k x)=true):Can Tryz.prog 95 [aN T,bS k x,num n] (· = .tuple [aw (cF (ay T k x) (bH T n)),aY (fE T (ay T k x) n)]):=by
 obtain⟨hv,hc⟩:=Bool.and_eq_true_iff.1 hm
 have hll:=bO hv
 have hmk:=mg T k x
 unfold ig dM at hmk
 rw[if_pos hm,if_pos rfl]at hmk
 obtain⟨M,hM⟩:∃M,ay T k x=M:=⟨_,rfl⟩
 have hMl:M.length=2*T.ae.length:=by rw[←hM];exact eF T k x
 rw[hM]at hmk ⊢
 refine aG Tryz.func95 rfl Tryz.ntmps95 rfl<|ab (.a 4 rfl<|.k [2,3,4] rfl)<|ab (.a 2 rfl<|.c rfl (hmk) rfl<|.a 5 rfl<|.k [2,3,8] rfl)<|aR<|au 2 rfl<|cz (dz rfl (bL.rk.get rfl) rfl rfl (show(M.length:Int)=((2*T.ae.length:Nat):Int) by omega) (show(M.length:Int)=((2*T.ae.length:Nat):Int) by omega) ⟨by unfold maxLen;omega,by omega⟩) rfl<|au 1 rfl<|aH [2,3,8,10] rfl ?_
 refine ab (.a 1 rfl<|.k [2,3,8,10,11] rfl)<|gM 11 3 1 rfl ?_
 refine eD (σ':=[some (.row 4 1 (2*T.ae.length) (bR (gw T M n 0))),some (.row 3 1 0 [])]) (by rw[yp,←gQ];rfl) ?_
 refine ak<|ab (.a 1 rfl<|.k [2,3,8,10,11,12] rfl)<|av<|fp [2,3,8,10,11,12] rfl<|bq (fun r st=>∃a:Nat,a≤2*T.ae.length∧r=2*T.ae.length - a∧st=⟨[(2,num n),(3,.aX (bw T) 0),(8,aY M),(10,.own 0),(11,.own 1),(12,num a)],[some (.row 4 1 (2*T.ae.length) (bR (gw T M n a))),some (.row 3 1 (iR M T n a).length (aP (iR M T n a)))]⟩) (2*T.ae.length) ⟨0,by omega,by omega,rfl⟩ ?_
 rintro r st ⟨a,ha,rfl,rfl⟩
 refine ak<|ab (.a 4 rfl<|.k [2,3,8,10,11,12,25] rfl)<|ah rfl (fun h1=>?_) (fun h1=>?_)
 ·have hlt:a<2*T.ae.length:=by have:=tt h1;omega
  have hal:(gw T M n a).length=2*T.ae.length:=Ab T M n a
  have hdl:(iR M T n a).length≤512:=Nat.le_trans (Gz M T n a) (by omega)
  refine aj<|ak<|av ?_
  obtain⟨c1,hc1⟩:∃q,aL M a=q:=⟨_,rfl⟩
  obtain⟨c2,hc2⟩:∃q,decide (bb T a=n)=q:=⟨_,rfl⟩
  refine bu 38 (.raw (.bool (c1&&c2))) [2,3,8,10,11,12] rfl ?_ ?_
  ·refine .a 2 rfl<|.v (aM (a) rfl) rfl<|.v (aO rfl (show _=some (flag c1) by rw[cV _ a (by omega),eG,hc1])) rfl<|.a 1 rfl<|?_
   cases c1
   ·exact .a 6 rfl<|.k [38,2,3,8,10,11,12] rfl
   ·exact .a 2 rfl<|.c rfl (gA T hv a hlt) rfl<|.a 1 rfl<|.v (cg rfl (hc2)) rfl<|.a 1 rfl<|.k [38,2,3,8,10,11,12] rfl
  refine ah rfl (fun h2=>?_) (fun h2=>?_)
  ·have h2:(aL M a&&decide (bb T a=n))=true:=by rw[hc1,hc2];exact h2
   have hs1:=EG h2
   have hs2:=BD h2
   refine aR<|au 3 rfl<|cz (bA rfl (bL.rk.get rfl) rfl rfl rfl rfl (by unfold maxLen;omega)) rfl<|au 1 rfl ?_
   refine ee [0,2] (.c 2<|.c 3<|.c 8<|.c 10<|.c 11<|.c 12<|.nil) (.kept rfl (.row aE.pure)<|.kept rfl (.fm rfl (dc _ _))<|.nil) rfl rfl (aZ ?_)
   refine bI<|au 2 rfl<|bE (aM (a) rfl) rfl<|bd ((by first|exact bG rfl (bL.tk.get rfl) rfl rfl rfl (by first|omega|(simp;omega))|exact aV rfl (bL.tk.get rfl) rfl rfl rfl (by first|omega|(simp;omega)))) rfl rfl<|aH [2,3,8,10,11,12] rfl ?_
   refine eD (σ':=[some (.row 4 1 (2*T.ae.length) (bR (gw T M n (a+1)))),some (.row 3 1 (iR M T n (a+1)).length (aP (iR M T n (a+1))))]) (by rw[←hs2,hs1,List.length_append];rfl) ?_
   refine aB (.a 1 rfl<|.v (aT rfl) rfl<|.a 1 rfl<|.k [2,3,8,10,11,12] rfl) ?_
   first
    |exact⟨2*T.ae.length - (a+1),by omega,a+1,by omega,rfl,rfl⟩
    |exact⟨2*T.ae.length - (a+1),by omega,a+1,by omega,rfl,by rw[hs1,hs2];rfl⟩
  ·have h2:(aL M a&&decide (bb T a=n))=false:=by rw[hc1,hc2];exact h2
   have hs1:=HZ h2
   have hs2:=D4 h2
   refine aj<|aB (.a 1 rfl<|.v (aT rfl) rfl<|.a 1 rfl<|.k [2,3,8,10,11,12] rfl) ?_
   first
    |exact⟨2*T.ae.length - (a+1),by omega,a+1,by omega,rfl,rfl⟩
    |exact⟨2*T.ae.length - (a+1),by omega,a+1,by omega,rfl,by rw[hs1,hs2];rfl⟩
 ·have hae:a=2*T.ae.length:=by have:=ff h1;omega
  subst hae
  refine bf<|ab (.a 4 rfl<|.k [6,7] rfl)<|aq<|⟨_,_,az.of rfl,aC.bz (an.cons (aC.fu rfl an.pure) (an.cons (aC.fu rfl an.pure) an.nil)),?_⟩
  rw[EO,AE]
  unfold aw aY
  rw[show(fE T M n).length=2*T.ae.length by simp[fE]]
end PW
end Go.Proofs.YtnegbdpggideiaaGreatDoor
namespace Go.Proofs.YtnegbdpggideiaaGreatDoor
namespace PW
open Go.RowKit cE Mem
structure GD where
 p:PV
 r:Option Nat
 lo:Nat
 hi:Nat
section
variable {P:Program} {N L:Nat}
inductive GK (P:Program) (N:Nat) (ops:Array Oper) (σs:List cf) (T:bZ) (o:Oper):GD→Prop
 |val {p:PV} {d lo hi:Nat} (ks:List Nat) (hks:(ks.all fun k=>(o.looksAt ops).contains k)=true) (hw:eE ops T o=some true) (hy:∀r σ,lo≤r→r≤hi→σs[r]? =some σ→bh P σ (fX T ks) o p) (hd:o.dst=some d) (hN:Nat.blt d N=true):GK P N ops σs T o ⟨p,none,lo,hi⟩
 |skip {d lo hi:Nat} (hw:eE ops T o=some false) (hd:o.dst=some d) (hN:Nat.blt d N=true):GK P N ops σs T o ⟨.raw undef,none,lo,hi⟩
 |Fc {p:PV} {d r lo hi:Nat} {σ σ':cf} (ks:List Nat) (hks:(ks.all fun k=>(o.looksAt ops).contains k)=true) (hw:eE ops T o=some true) (h1:σs[r]? =some σ) (h2:σs[r+1]? =some σ') (hy:cI P σ (fX T ks) o p σ') (hd:o.dst=some d) (hN:Nat.blt d N=true):GK P N ops σs T o ⟨p,some r,lo,hi⟩
 |pd {p:PV} {r lo hi:Nat} {σ σ':cf} (ks:List Nat) (hks:(ks.all fun k=>(o.looksAt ops).contains k)=true) (hw:eE ops T o=some true) (h1:σs[r]? =some σ) (h2:σs[r+1]? =some σ') (hy:cI P σ (fX T ks) o p σ') (hd:o.dst=none):GK P N ops σs T o ⟨p,some r,lo,hi⟩
inductive GL (P:Program) (N:Nat) (ops:Array Oper) (σs:List cf) (T:bZ):List Oper→List GD→Prop
 |nil:GL P N ops σs T [] []
 |cons {o:Oper} {g:GD} {l:List Oper} {gs:List GD}:GK P N ops σs T o g→GL P N ops σs T l gs→GL P N ops σs T (o::l) (g::gs)
theorem GL.get{ops:Array Oper}{σs:List cf}{T:bZ}:∀ {l:List Oper} {gs:List GD},GL P N ops σs T l gs→gs.length=l.length∧∀(i:Nat) o g,l[i]? =some o→gs[i]? =some g→GK P N ops σs T o g
 |_,_,.nil=>⟨rfl,fun i o g h=>by simp at h⟩
 |_,_,.cons h hs=>by
  obtain⟨h1,h2⟩:=hs.get
  refine⟨by simp[h1],fun i o g ho hg=>?_⟩
  cases i with
  |zero=>simp at ho hg;subst ho;subst hg;exact h
  |succ i=>exact h2 i o g (by simpa using ho) (by simpa using hg)
def jD(gs:List GD)(i:Nat):Option Nat:=(gs[i]?).bind (·.r)
def Fb(ops:Array Oper)(f m:Nat)(gs:List GD):Bool:=
  Nat.beq gs.length ops.size&&
  ((List.range ops.size).all fun i=>(ln ops i).all fun k=>decide (k<i))&&
  ((List.range ops.size).all fun i=>(List.range i).all fun j=>(cm ops i).isNone||cm ops i !=cm ops j)&&
  ((List.range ops.size).all fun j=>(dV ops j).all fun k=>(List.range ops.size).all fun i=>cm ops i !=some k||eJ ops f j i)&&
  ((List.range ops.size).all fun i => match gs[i]? with
    |some ⟨_,some r,_,_⟩=>decide (r<m)&&(Nat.beq r 0||(List.range ops.size).any fun j=>jD gs j==some (r - 1)&&eJ ops f i j)
    |some ⟨_,none,lo,hi⟩=>(Nat.beq lo 0||(List.range ops.size).any fun j=>jD gs j==some (lo - 1)&&eJ ops f i j)&&(Nat.ble m hi||(List.range ops.size).any fun j=>jD gs j==some hi&&eJ ops f j i)
    |none=>false)&&
  ((List.range ops.size).all fun i=>(List.range i).all fun j=>(jD gs i).isNone||jD gs i !=jD gs j)&&
  ((List.range m).all fun r=>(List.range ops.size).any fun j=>jD gs j==some r)
structure Jb (ops:Array Oper) (f m:Nat) (gs:List GD):Prop where
 len:gs.length=ops.size
 ln:∀i,i<ops.size→∀k∈ln ops i,k<i
 ss:∀i j d,i<ops.size→j<ops.size→cm ops i=some d→cm ops j=some d→i=j
 rd:∀j,j<ops.size→∀k∈dV ops j,∀i,i<ops.size→cm ops i=some k→eJ ops f j i=true
 Fc:∀(i:Nat) g r,gs[i]? =some g→g.r=some r→r<m∧(r=0∨∃j,j<ops.size∧jD gs j=some (r - 1)∧eJ ops f i j=true)
 quiet:∀(i:Nat) g,gs[i]? =some g→g.r=none→(g.lo=0∨∃j,j<ops.size∧jD gs j=some (g.lo - 1)∧eJ ops f i j=true)∧(m≤g.hi∨∃j,j<ops.size∧jD gs j=some g.hi∧eJ ops f j i=true)
 one:∀i j r,i<ops.size→j<ops.size→jD gs i=some r→jD gs j=some r→i=j
 has:∀r,r<m→∃j,j<ops.size∧jD gs j=some r
theorem Eb{ops:Array Oper}{f m:Nat}{gs:List GD}(h:Fb ops f m gs=true):Jb ops f m gs:=by
 unfold Fb at h
 simp only[Bool.and_eq_true]at h
 obtain⟨⟨⟨⟨⟨⟨h1,h2⟩,h3⟩,h4⟩,h5⟩,h6⟩,h7⟩:=h
 have hl:gs.length=ops.size:=Nat.eq_of_beq_eq_true h1
 have all:∀ {n:Nat} {p:Nat→Bool},(List.range n).all p=true→∀i,i<n→p i=true:=fun h i hi=>List.all_eq_true.1 h i (List.mem_range.2 hi)
 have any:∀ {n:Nat} {p:Nat→Bool},(List.range n).any p=true→∃i,i<n∧p i=true:=fun h=>by
  obtain⟨i,hi,hp⟩:=List.any_eq_true.1 h
  exact⟨i,List.mem_range.1 hi,hp⟩
 have s3:∀i j d,i<ops.size→j<i→cm ops i=some d→cm ops j=some d→False:=fun i j d hi hj e1 e2=>by
  have:=all (all h3 i hi) j hj
  rw[e1,e2]at this
  simp at this
 have s6:∀i j r,i<ops.size→j<i→jD gs i=some r→jD gs j=some r→False:=fun i j r hi hj e1 e2=>by
  have:=all (all h6 i hi) j hj
  rw[e1,e2]at this
  simp at this
 refine⟨hl,fun i hi k hk=>?_,fun i j d hi hj e1 e2=>?_,fun j hj k hk i hi hd=>?_,fun i g r hg hr=>?_,fun i g hg hr=>?_,fun i j r hi hj e1 e2=>?_,fun r hr=>?_⟩
 ·have:=List.all_eq_true.1 (all h2 i hi) k hk;simpa using this
 ·rcases Nat.lt_trichotomy i j with h|h|h
  ·exact(s3 j i d hj h e2 e1).elim
  ·exact h
  ·exact(s3 i j d hi h e1 e2).elim
 ·have:=all (List.all_eq_true.1 (all h4 j hj) k hk) i hi
  rw[hd]at this
  simpa using this
 ·have hi:i<ops.size:=by rw[←hl];exact(List.getElem?_eq_some_iff.1 hg).1
  have:=all h5 i hi
  obtain⟨p,r',lo,hi'⟩:=g
  simp only at hr
  subst hr
  rw[hg]at this
  simp only[Bool.and_eq_true,decide_eq_true_eq,Bool.or_eq_true]at this
  refine⟨this.1,?_⟩
  rcases this.2 with h|h
  ·exact .inl (Nat.eq_of_beq_eq_true h)
  ·obtain⟨j,hj,h'⟩:=any h
   simp only[Bool.and_eq_true,beq_iff_eq]at h'
   exact .inr ⟨j,hj,h'.1,h'.2⟩
 ·have hi:i<ops.size:=by rw[←hl];exact(List.getElem?_eq_some_iff.1 hg).1
  have:=all h5 i hi
  obtain⟨p,r',lo,hi'⟩:=g
  simp only at hr
  subst hr
  rw[hg]at this
  simp only[Bool.and_eq_true,Bool.or_eq_true]at this
  refine⟨?_,?_⟩
  ·rcases this.1 with h|h
   ·exact .inl (Nat.eq_of_beq_eq_true h)
   ·obtain⟨j,hj,h'⟩:=any h
    simp only[Bool.and_eq_true,beq_iff_eq]at h'
    exact .inr ⟨j,hj,h'.1,h'.2⟩
  ·rcases this.2 with h|h
   ·exact .inl (Nat.ble_eq.mp h)
   ·obtain⟨j,hj,h'⟩:=any h
    simp only[Bool.and_eq_true,beq_iff_eq]at h'
    exact .inr ⟨j,hj,h'.1,h'.2⟩
 ·rcases Nat.lt_trichotomy i j with h|h|h
  ·exact(s6 j i r hj h e2 e1).elim
  ·exact h
  ·exact(s6 i j r hi h e1 e2).elim
 ·obtain⟨j,hj,h⟩:=any (all h7 r hr)
  exact⟨j,hj,by simpa using h⟩
structure Gq (base N:Nat) (F:Nat→Prop) (l:List Oper) (gs:List GD) (σs:List cf) (t:bZ) (ls:Array Bool) (r:Nat) (E:Env) (a:Act) (w:World):Prop where
 size:ls.size=l.length
 down:Down l.toArray ls
 rk:∀i s,i<l.length→jD gs i=some s→(ls.getD i true=true↔s<r)
 sat:∃σ,σs[r]? =some σ∧Sat F base σ E w
 j7:a.defers=[]
 tmps:a.tmps.size=N
 t0:dZ E w a.eval t
 kO:∀j d g,j<l.length→ls.getD j true=true→cm l.toArray j=some d→gs[j]? =some g→cC E w (a.eval (.tmp d)) g.p
theorem yk(ls:Array Bool)(i j:Nat)(b:Bool)(hi:i<ls.size):(ls.setIfInBounds i true).getD j b=if j=i then true else ls.getD j b:=by
 by_cases e:j=i
 ·subst e;simp[hi]
 ·rw[if_neg e]
  simp only[Array.getD_eq_getD_getElem?,Array.getElem?_setIfInBounds_ne (Ne.symm e)]
theorem Ck{ls:Array Bool}{i:Nat}(hi:i<ls.size)(b c:Bool):ls.getD i b=ls.getD i c:=by simp[hi]
section
variable {l:List Oper} {gs:List GD} {σs:List cf} {t T:bZ} {f m base:Nat} {F:Nat→Prop}
theorem Gq.reach(hG:Jb l.toArray f m gs){ls:Array Bool}{r:Nat}{E:Env}{a:Act}{w:World}(h:Gq base N F l gs σs t ls r E a w){i j:Nat}(hi:i<l.length)(hr:eJ l.toArray f i j=true)(hk:∀k∈ln l.toArray i,ls.getD k false=true):ls.getD j true=true:=by
 have:=dT (by rw[h.size];simp) h.down (fun i hi=>hG.ln i hi) f i j (by simpa using hi) hr hk
 by_cases hj:j<ls.size
 ·rw[Ck hj true false];exact this
 ·simp[hj]
theorem Gq.looks(hG:Jb l.toArray f m gs)(hT:mJ l (gs.map (·.p)) t=T){ls:Array Bool}{r:Nat}{E:Env}{a:Act}{w:World}(h:Gq base N F l gs σs t ls r E a w){i:Nat}(hi:i<l.length)(hk:∀k∈ln l.toArray i,ls.getD k false=true):
  ∀k∈dV l.toArray i,∀p,look k T=some p→cC E w (a.eval (.tmp k)) p:=fun k hks p hp=>by
 rw[←hT]at hp
 rcases kZ _ _ _ k p hp with⟨j,o,h1,h2,h3⟩|h'
 ·rw[List.getElem?_map,Option.map_eq_some_iff]at h3
  obtain⟨g,hg,rfl⟩:=h3
  have hj:j<l.length:=(List.getElem?_eq_some_iff.1 h1).1
  have hd:cm l.toArray j=some k:=by simp only[cm,List.getElem?_toArray,h1,Option.bind_some,h2]
  have hr:=hG.rd i (by simpa using hi) k hks j (by simpa using hj) hd
  exact h.kO j k g hj (h.reach hG hi hr hk) hd hg
 ·exact h.t0 k p h'
theorem Gq.put(hG:Jb l.toArray f m gs)(hfr:∀i d,i<l.length→cm l.toArray i=some d→look d t=none){ls:Array Bool}{r r':Nat}{E E':Env}{a:Act}{w w':World}(h:Gq base N F l gs σs t ls r E a w){i:Nat}{g:GD}{v:Value}(hi:i<l.length)(hu:ls.getD i true=false)(hk:∀k∈ln l.toArray i,ls.getD k false=true)(hg:gs[i]? =some g)(hgo:cP E w E' w')
  (hs:∃σ,σs[r']? =some σ∧Sat F base σ E' w') (hr:(g.r=none∧r'=r)∨(g.r=some r∧r'=r+1)) {o:Oper} (ho:l[i]? =some o) (hdN:∀d,o.dst=some d→d<N) (hv:∀d,o.dst=some d→cC E' w' v g.p):
  Gq base N F l gs σs t (ls.setIfInBounds i true) r' E' (a.put o.dst v) w':=by
 have hil:i<ls.size:=by rw[h.size];exact hi
 have hrk:jD gs i=g.r:=by simp only[jD,hg,Option.bind_some]
 have hdi:cm l.toArray i=o.dst:=by simp only[cm,List.getElem?_toArray,ho,Option.bind_some]
 refine⟨by simpa using h.size,fun j hj hjs k hkj=>?_,fun j s hj hs'=>?_,hs,by cases o.dst<;>simpa[Act.put]using h.j7,by cases o.dst<;>simpa[Act.put]using h.tmps,fun k p hkp=>?_,fun j d g' hj hjl hd hg'=>?_⟩
 ·rw[yk _ _ _ _ hil]at hj ⊢
  split
  ·rfl
  ·by_cases e:j=i
   ·subst e;exact hk k hkj
   ·rw[if_neg e]at hj
    exact h.down j hj hjs k hkj
 ·rw[yk _ _ _ _ hil]
  by_cases e:j=i
  ·subst e
   rw[if_pos rfl]
   rw[hrk]at hs'
   rcases hr with⟨h1,_⟩|⟨h1,h2⟩
   ·rw[h1]at hs';cases hs'
   ·rw[h1]at hs';cases hs';exact⟨fun _=>by omega,fun _=>rfl⟩
  ·rw[if_neg e,h.rk j s hj hs']
   rcases hr with⟨_,h2⟩|⟨h1,h2⟩
   ·rw[h2]
   ·have:s≠r:=fun e'=>e (hG.one j i r (by simpa using hj) (by simpa using hi) (by rw[hs',e']) (by rw[hrk,h1]))
    omega
 ·have hne:∀d,o.dst=some d→k≠d:=fun d hd e=>by
   subst e
   rw[hfr i k hi (by rw[hdi,hd])]at hkp;cases hkp
  have:(a.put o.dst v).eval (.tmp k)=a.eval (.tmp k):=Act.eval_put fun d hd heq=>by cases heq;exact hne _ hd rfl
  rw[this]
  exact(h.t0 k p hkp).goes hgo
 ·rw[yk _ _ _ _ hil]at hjl
  by_cases e:j=i
  ·subst e
   rw[hdi]at hd
   rw[hg]at hg';cases hg'
   rw[hd,jd a (by rw[h.tmps];exact hdN d hd),if_pos rfl]
   exact hv d hd
  ·rw[if_neg e]at hjl
   have hne:∀d',o.dst=some d'→d≠d':=fun d' hd' e'=>by
    subst e'
    exact e (hG.ss j i d (by simpa using hj) (by simpa using hi) hd (by rw[hdi,hd']))
   have:(a.put o.dst v).eval (.tmp d)=a.eval (.tmp d):=Act.eval_put fun d' hd' heq=>by cases heq;exact hne _ hd' rfl
   rw[this]
   exact(h.kO j d g' hj hjl hd hg').goes hgo
theorem GV(hG:Jb l.toArray f m gs)(hT:mJ l (gs.map (·.p)) t=T)(hfr:∀i d,i<l.length→cm l.toArray i=some d→look d t=none)(hL:GL P N l.toArray σs T l gs){σm:cf}(hm:σs[m]? =some σm){Q:Exit→Act→World→Prop}{E₀:Env}{w₀:World}(hq:∀a' w' E',Sat F base σm E' w'→dZ E' w' a'.eval T→a'.defers=[]→a'.tmps.size=N→cP E₀ w₀ E' w'→Below base w₀ w'→Q .normal a' w'):
  ∀(fuel:Nat) (ls:Array Bool) (r:Nat) (E:Env) (a:Act) (w:World),Gq base N F l gs σs t ls r E a w→bM ls l.length=fuel→cP E₀ w₀ E w→Below base w₀ w→r≤m→wpAny P .any l.toArray Q fuel ls a w:=by
 obtain⟨hgl,hget⟩:=hL.get
 intro fuel
 induction fuel with
 |zero=>
  intro ls r E a w h hu hgo hb hrm
  have hall:=cT hu
  have hrm':r=m:=by
   rcases Nat.lt_or_ge r m with h'|h'
   ·obtain⟨j,hj,hjr⟩:=hG.has r h'
    have hj:j<l.length:=by simpa using hj
    have:=(h.rk j r hj hjr).1 (hall j hj)
    omega
   ·omega
  subst hrm'
  refine⟨List.eq_nil_iff_forall_not_mem.2 fun i hi=>?_,?_⟩
  ·obtain⟨h1,h2,_⟩:=cA.1 hi
   rw[hall i (by simpa using h1)]at h2;cases h2
  ·obtain⟨σ,hσ,hs⟩:=h.sat
   rw[hm]at hσ;cases hσ
   refine hq a w E hs (fun k p hkp=>?_) h.j7 h.tmps hgo hb
   rw[←hT]at hkp
   rcases kZ _ _ _ k p hkp with⟨j,o,h1,h2,h3⟩|h'
   ·rw[List.getElem?_map,Option.map_eq_some_iff]at h3
    obtain⟨g,hg,rfl⟩:=h3
    have hj:j<l.length:=(List.getElem?_eq_some_iff.1 h1).1
    exact h.kO j k g hj (hall j hj) (by simp only[cm,List.getElem?_toArray,h1,Option.bind_some,h2]) hg
   ·exact h.t0 k p h'
 |succ fuel ih=>
  intro ls r E a w h hu hgo hb hrm
  obtain⟨i0,hi0,hi1,hi2⟩:=fr (ls:=ls) (m:=l.length) (by omega)
  have hi0r:i0∈Region.ready .any l.toArray ls:=cA.2 ⟨by simpa using hi0,hi1,fun k hk=>by
   have:=hG.ln i0 (by simpa using hi0) k hk
   rw[Ck (by rw[h.size];omega) false true];exact hi2 k this⟩
  refine⟨fun h0=>absurd hi0r (by rw[h0];simp),fun i hi=>?_⟩
  obtain⟨h1,h2,h3⟩:=cA.1 hi
  have hil:i<l.length:=by simpa using h1
  have ho:l[i]? =some l[i]:=by simp[hil]
  have hgi:gs[i]? =some (gs[i]'(by omega)):=by simp
  have hK:=hget i _ _ ho hgi
  generalize hgg:gs[i]'(by omega)=g at hgi hK
  generalize hoo:l[i]=o at ho hK
  have hlk:=h.looks hG hT hil h3
  have hlo:dV l.toArray i=o.looksAt l.toArray:=by simp only[dV,List.getElem?_toArray,ho]
  rw[hlo]at hlk
  have hpk:∀ks:List Nat,(ks.all fun k=>(o.looksAt l.toArray).contains k)=true→dZ E w a.eval (fX T ks):=fun ks hks k p hkp=>by
   obtain⟨e1,e2⟩:=iL ks k p hkp
   exact hlk k (by have:=List.all_eq_true.1 hks k e1;simpa using this) p e2
  have hwant:∀b,eE l.toArray T o=some b→Region.wanted o (yielded l.toArray a.tmps)=b:=fun b hb=>by
   rw[iG];exact kW (fun k hk p hp=>hlk k hk p hp) hb
  have hun:bM (ls.setIfInBounds i true) l.length=fuel:=by have:=fq h2 hil (by rw[h.size];omega);omega
  unfold wpOp
  have ho':l.toArray[i]? =some o:=by simpa using ho
  simp only[ho']
  have hrk:jD gs i=g.r:=by simp only[jD,hgi,Option.bind_some]
  cases hK with
  | @val p d lo hi ks hks hw hy hd hN=>
   rw[hwant true hw,if_pos rfl]
   left
   obtain⟨σ,hσ,hs⟩:=h.sat
   obtain⟨q1,q2⟩:=hG.quiet i _ hgi rfl
   have hlo':lo≤r:=by
    rcases q1 with e|⟨j,hj,hj1,hj2⟩
    ·simp only at e;omega
    ·have:=(h.rk j _ (by simpa using hj) hj1).1 (h.reach hG hil hj2 h3)
     simp only at this;omega
   have hhi':r≤hi:=by
    rcases q2 with e|⟨j,hj,hj1,hj2⟩
    ·simp only at e;omega
    ·rcases Nat.lt_or_ge hi r with h'|h'
     ·have hjl:j<l.length:=by simpa using hj
      have e1:=(h.rk j _ hjl hj1).2 h'
      have e2:=h.reach hG hjl hj2 (h.down j e1 hj)
      rw[h2]at e2;cases e2
     ·exact h'
   refine pU (hy r σ hlo' hhi' hσ F base E a.eval w (gb a) hs (hpk ks hks)) fun v w' hE hv=>?_
   exact ih _ r E _ w' (h.put hG hfr hil h2 h3 hgi (.ext hE) ⟨σ,hσ,hs.ext hE⟩ (.inl ⟨rfl,rfl⟩) ho (fun d' hd'=>by rw[hd]at hd';cases hd';exact Nat.blt_eq.mp hN) (fun _ _=>hv)) hun (hgo.trans (.ext hE)) (hb.trans (Below.iy hE hs.bl)) hrm
  | @skip d lo hi hw hd hN=>
   rw[hwant false hw,if_neg (by simp)]
   exact ih _ r E _ w (h.put hG hfr hil h2 h3 hgi (cP.refl _ _) h.sat (.inl ⟨rfl,rfl⟩) ho (fun d' hd'=>by rw[hd]at hd';cases hd';exact Nat.blt_eq.mp hN) (fun _ _=>.raw _)) hun hgo hb hrm
  | @Fc p d r0 lo hi σ σ' ks hks hw e1 e2 hy hd hN=>
   rw[hwant true hw,if_pos rfl]
   left
   obtain⟨q1,q2⟩:=hG.Fc i _ r0 hgi rfl
   have hr0:r0=r:=by
    have n1:¬r0<r:=fun h'=>by
     have:=(h.rk i r0 hil hrk).2 h'
     rw[h2]at this;cases this
    rcases q2 with e|⟨j,hj,hj1,hj2⟩
    ·omega
    ·have:=(h.rk j _ (by simpa using hj) hj1).1 (h.reach hG hil hj2 h3)
     omega
   subst hr0
   obtain⟨σ0,hσ,hs⟩:=h.sat
   rw[e1]at hσ;cases hσ
   obtain⟨v,w',E',hr,k1,k2,k3,k4⟩:=hy F base E a.eval w (gb a) hs (hpk ks hks)
   have hn':=ih _ (r0+1) E' (a.put o.dst v) w' (h.put hG hfr hil h2 h3 hgi k2 ⟨σ',e2,k1⟩ (.inr ⟨rfl,rfl⟩) ho (fun d' hd'=>by rw[hd]at hd';cases hd';exact Nat.blt_eq.mp hN) (fun _ _=>k4)) hun (hgo.trans k2) (hb.trans k3) (by omega)
   unfold Oper.wp
   rcases hr with hr|⟨rfl,hr⟩
   ·rw[hr];exact hn'
   ·rw[hr];exact hn'
  | @pd p r0 lo hi σ σ' ks hks hw e1 e2 hy hd=>
   rw[hwant true hw,if_pos rfl]
   left
   obtain⟨q1,q2⟩:=hG.Fc i _ r0 hgi rfl
   have hr0:r0=r:=by
    have n1:¬r0<r:=fun h'=>by
     have:=(h.rk i r0 hil hrk).2 h'
     rw[h2]at this;cases this
    rcases q2 with e|⟨j,hj,hj1,hj2⟩
    ·omega
    ·have:=(h.rk j _ (by simpa using hj) hj1).1 (h.reach hG hil hj2 h3)
     omega
   subst hr0
   obtain⟨σ0,hσ,hs⟩:=h.sat
   rw[e1]at hσ;cases hσ
   obtain⟨v,w',E',hr,k1,k2,k3,k4⟩:=hy F base E a.eval w (gb a) hs (hpk ks hks)
   have hn':=ih _ (r0+1) E' (a.put o.dst v) w' (h.put hG hfr hil h2 h3 hgi k2 ⟨σ',e2,k1⟩ (.inr ⟨rfl,rfl⟩) ho (fun d' hd'=>by rw[hd]at hd';cases hd') (fun d' hd'=>by rw[hd]at hd';cases hd')) hun (hgo.trans k2) (hb.trans k3) (by omega)
   unfold Oper.wp
   rcases hr with hr|⟨rfl,hr⟩
   ·rw[hr];exact hn'
   ·rw[hr];exact hn'
end
theorem ni:∀(n k:Nat),k≤n→bM (Array.replicate n false) k=k
 |n,0,_=>rfl
 |n,k+1,h=>by
  simp only[bM]
  rw[ni n k (by omega)]
  simp[show k<n by omega]
theorem wg{id:Nat}{l:List Oper}{t t':bZ}{σ σm:cf}{Q:Exit→St→Prop}(f m:Nat)(σs:List cf)(gs:List GD)(T:bZ)(hm:P.follows .mixedOrders=true)(hB:Fb l.toArray f m gs=true)(hT:mJ l (gs.map (·.p)) t=T)(hfr:(l.all fun o=>o.dst.all fun d=>(look d t).isNone)=true)(h0:σs[0]? =some σ)(h1:σs[m]? =some σm)
  (hL:GL P N l.toArray σs T l gs) (hsub:Sub T t') (hq:Q .normal ⟨t',σm⟩):W P N L (.region id l.toArray true) ⟨t,σ⟩ Q:=fun F base E₀ w₀ E a w hc hs=>by
 have hG:=Eb hB
 have hE:Ext w {w with drawn:=w.drawn+1}:=⟨rfl,rfl,rfl,Nat.le_refl _,fun _ _=>rfl⟩
 refine wp_region_any hm ?_
 have hfr':∀i d,i<l.length→cm l.toArray i=some d→look d t=none:=fun i d hi hd=>by
  have ho:l[i]? =some l[i]:=by simp[hi]
  simp only[cm,List.getElem?_toArray,ho,Option.bind_some]at hd
  have:=List.all_eq_true.1 hfr _ (List.mem_of_getElem? ho)
  rw[hd]at this
  simpa using this
 have hg0:Gq base N F l gs σs t (Array.replicate l.length false) 0 E a {w with drawn:=w.drawn+1}:=by
  have hrep:∀i,i<l.length→(Array.replicate l.length false).getD i true=false:=fun i hi=>by simp[hi]
  refine⟨by simp,fun i hi hi'=>?_,fun i s hi _=>?_,⟨σ,h0,hs.sat.ext hE⟩,hs.j7,hs.size,hs.tmp.goes (.ext hE),fun j d g hj hjl=>?_⟩
  ·rw[hrep i (by simpa using hi')]at hi;cases hi
  ·rw[hrep i hi];simp
  ·rw[hrep j hj]at hjl;cases hjl
 have:=GV (Q:=fun e a' w'=>ob F base N E₀ w₀ (Q e) a' w') hG hT hfr' hL h1 (E₀:=E₀) (w₀:=w₀) (fun a' w' E' k1 k2 k3 k4 k5 k6=>⟨⟨t',σm⟩,E',hq,⟨k1,k2.sub hsub,k3,k4⟩,k5,k6⟩) l.length _ 0 E a _ hg0 (ni _ _ (Nat.le_refl _)) (hc.g.trans (.ext hE)) (hc.b.trans (Below.iy hE hs.sat.bl)) (Nat.zero_le _)
 simpa using this
theorem Ib{id:Nat}{l:List Oper}{y:Code}{t t':bZ}{σ σm:cf}{Q:Exit→St→Prop}(f m:Nat)(σs:List cf)(gs:List GD)(T:bZ)(hm:P.follows .mixedOrders=true)(hB:Fb l.toArray f m gs=true)(hT:mJ l (gs.map (·.p)) t=T)(hfr:(l.all fun o=>o.dst.all fun d=>(look d t).isNone)=true)(h0:σs[0]? =some σ)(h1:σs[m]? =some σm)
  (hL:GL P N l.toArray σs T l gs) (hsub:Sub T t') (hq:W P N L y ⟨t',σm⟩ Q):W P N L (.seq (.region id l.toArray true) y) ⟨t,σ⟩ Q:=ak (wg f m σs gs T hm hB hT hfr h0 h1 hL hsub hq)
theorem yz{P:Program}{σs:List cf}{t:bZ}{o:Oper}{p:PV}{lo hi:Nat}(h:∀σ∈(σs.drop lo).take (hi+1 - lo),bh P σ t o p):∀r σ,lo≤r→r≤hi→σs[r]? =some σ→bh P σ t o p:=fun r σ h1 h2 hs=>by
 refine h σ (List.mem_of_getElem? (i:=r - lo) ?_)
 rw[List.getElem?_take,if_pos (by omega),List.getElem?_drop,show lo+(r - lo)=r by omega]
 exact hs
theorem gC{α:Type}{p:α→Prop}:∀x∈([]:List α),p x:=fun _ h=>by cases h
theorem eN{α:Type}{p:α→Prop}{a:α}{l:List α}(h:p a)(hs:∀x∈l,p x):∀x∈a::l,p x:=fun x hx=>by
 rcases List.mem_cons.1 hx with rfl|h'
 ·exact h
 ·exact hs x h'
end
end PW
end Go.Proofs.YtnegbdpggideiaaGreatDoor
namespace Go.Proofs.YtnegbdpggideiaaGreatDoor
namespace PW
open Go.RowKit cE Mem Net fk
theorem HF{P:Program}{N L:Nat}{x:Code}{st:St}{Q:Exit→St→Prop}{Q1:St→Prop}(h:W P N L x st (Hl Q1))(k:∀s,Q1 s→Q .normal s):W P N L x st Q:=
 h.mono fun e s hq=>by cases e<;>first|exact k s hq|exact hq.elim
theorem Bd{T:ai}(hv:ao T=true)(D:List Bool)(n d:Nat):(bx T D n d).length≤512:=by
 have hl:=bO hv
 unfold bx
 split
 ·simp
 ·exact Nat.le_trans (List.length_filter_le _ _) (Nat.le_trans (eh T n _) (by omega))
theorem mO(T:ai)(D:List Bool)(n d:Int):Can Tryz.prog 84 [aN T,aY D,num n,num d] (· =flag (fY T D n d)):=by
 obtain⟨q,hq⟩:∃q,decide (gu T D n d=0)=q:=⟨_,rfl⟩
 unfold fY
 rw[hq]
 exact aG Tryz.func84 rfl Tryz.ntmps84 rfl<|ab (.a 2 rfl<|.k [1,2,3,4] rfl)<|ab (.a 4 rfl<|.c rfl (ph T D n d) rfl<|.a 5 rfl<|.k [10] rfl)<|ab (.a 1 rfl<|.v (cg rfl (hq)) rfl<|.a 1 rfl<|.k [8] rfl)<|aq<|⟨_,_,az.of rfl,aC.pure,rfl⟩
def fS(T:ai)(k x:Int):List Bool:=if dM T k x=0 then ay T k x else []
theorem qz{T:ai}{k x:Int}(h:(ao T&&bW T k x)=true):fS T k x=ay T k x:=by
 unfold fS dM
 rw[if_pos h,if_pos rfl]
theorem nH(T:ai)(k x n d:Int):Can Tryz.prog 98 [aN T,bS k x,num n,num d] (· =flag (fY T (fS T k x) n d)):=by
 have hmk:=mg T k x
 unfold ig at hmk
 exact aG Tryz.func98 rfl Tryz.ntmps98 rfl<|ab (.a 3 rfl<|.k [2,3,4,5] rfl)<|ab (.a 2 rfl<|.c rfl (hmk) rfl<|.a 5 rfl<|.k [2,3,4,9] rfl)<|ab (.a 4 rfl<|.c rfl (mO T (fS T k x) n d) rfl<|.a 1 rfl<|.k [8] rfl)<|aq<|⟨_,_,az.of rfl,aC.pure,rfl⟩
theorem zj{T:ai}(hv:ao T=true){a:Nat}(ha:a<2*T.ae.length)(h:0<fM T a):(ao T&&bW T 3 (fM T a))=true:=by
 have:=s7 hv ha
 rw[hv]
 unfold bW
 simp only[if_neg (show ¬(3:Int)=1 by decide),if_neg (show ¬(3:Int)=2 by decide),if_true,Bool.true_and,Bool.and_eq_true,decide_eq_true_eq]
 exact⟨by omega,by omega⟩
theorem vL{T:ai}(hv:ao T=true){a:Nat}(ha:a<2*T.ae.length):(ao T&&bW T 2 (aS T a))=true:=by
 obtain⟨h0,h1⟩:=(aK hv).head a ha
 rw[hv]
 unfold bW
 simp only[if_neg (show ¬(2:Int)=1 by decide),if_true,Bool.true_and]
 exact aU.2 ⟨h0,h1⟩
theorem AW(T:ai)(a:Nat)(d:Int)(hv:ao T=true)(ha:a<2*T.ae.length)(hd:0≤d∧d<T.nodes):Can Tryz.prog 45 [aN T,num a,num d] (· = .tuple [bS (cX T a d).1 (cX T a d).2,num 0]):=by
 have hll:=bO hv
 have hi:a / 2<T.ae.length:=by omega
 obtain⟨g,hg⟩:∃g,fM T a=g:=⟨_,rfl⟩
 obtain⟨h,hh⟩:∃h,aS T a=h:=⟨_,rfl⟩
 obtain⟨m,hm⟩:∃m,bb T a=m:=⟨_,rfl⟩
 have hgv:=zj hv ha
 have hnv:=vL hv ha
 have hrh:=kr T hv a ha
 have hrt:=gA T hv a ha
 have hgl:(cu T.ae (a / 2)).tE=g:=hg
 rw[hh]at hnv hrh
 rw[hg]at hgv
 rw[hm]at hrt
 obtain⟨c1,hc1⟩:∃q,decide (0<g)=q:=⟨_,rfl⟩
 obtain⟨c2,hc2⟩:∃q,fY T (fS T 3 g) m d=q:=⟨_,rfl⟩
 obtain⟨c3,hc3⟩:∃q,decide (h≠d)=q:=⟨_,rfl⟩
 obtain⟨c4,hc4⟩:∃q,fY T (fS T 2 h) m d=q:=⟨_,rfl⟩
 have hA:cX T a d=if(c1&&c2)=true then(3,g) else if(c3&&c4)=true then(2,h) else(1,((a / 2:Nat):Int)):=by
  unfold cX
  rw[hg,hh,hm,hc1,hc3,←qz hnv,hc4]
  congr 1
  cases c1 with
  |false=>rfl
  |true=>rw[←qz (hgv (tt hc1)),hc2]
 have hw1:=nH T 3 g m d
 rw[hc2]at hw1
 have hw2:=nH T 2 h m d
 rw[hc4]at hw2
 rw[hA]
 refine aG Tryz.func45 rfl Tryz.ntmps45 rfl<|aR<|au 3 rfl<|aH [1,2,3,6] rfl ?_
 refine ak<|ab (.a 1 rfl<|.c rfl (hv▸gJ T) rfl<|.a 1 rfl<|.k [1,2,3,6,14] rfl)<|ah rfl (fun h1=>?_) (fun h1=>?_)
 ·exact absurd h1 (by decide)
 ·clear h1
  refine aj<|ak<|bu 35 (.raw (.bool (false))) [1,2,3,6] rfl ?_ ?_
  ·exact .a 1 rfl<|.v (cg rfl (show decide ((a:Int)<0)=false from decide_eq_false (by omega))) rfl<|.a 5 rfl<|.v (aT rfl (hc:=rfl)) rfl<|.v (cg rfl (show decide (2*(T.ae.length:Int)≤(a:Int))=false from decide_eq_false (by omega))) rfl<|.a 3 rfl<|.v (cg rfl (show decide (d<0)=false from decide_eq_false (by omega))) rfl<|.a 5 rfl<|.v (cg rfl (show decide (T.nodes≤d)=false from decide_eq_false (by omega))) rfl<|.a 1 rfl<|.k [35,1,2,3,6] rfl
  refine ah rfl (fun h1=>?_) (fun h1=>?_)
  ·exact absurd h1 (by decide)
  ·clear h1
   refine aj<|ez mixed (by kernel_rfl) (.a 2 rfl<|.v [37,38] (dX rfl (hrt)) rfl rfl<|.a 2 rfl<|.v [40,41] (dX rfl (hrh)) rfl rfl<|.a 2 rfl<|.k [1,2,3,6,8,9] rfl) ?_
   refine aR<|au 3 rfl<|bE (iA rfl rfl rfl (by decide) ((show(a:Int).tdiv 2=((a / 2:Nat):Int) by rw[Int.tdiv_eq_ediv_of_nonneg (by omega)];omega)) (by unfold In64;omega)) rfl<|bE (aM ((a / 2*7)) rfl) rfl<|au 1 rfl<|bE (aO rfl ((ei T.ae (a / 2) 6 hi (by omega)).trans (show(jj (cu T.ae (a / 2)))[6]? =some (num g) by rw[←hgl];rfl))) rfl<|au 3 rfl<|aH [1,2,3,6,8,9,10] rfl ?_
   refine aR<|au 4 rfl<|aH [1,2,3,6,8,9,10,11] rfl ?_
   refine ak<|av<|bu 53 (.raw (.bool (c1&&c2))) [1,2,3,6,8,9,10,11] rfl ?_ ?_
   ·refine .a 2 rfl<|.v (cg rfl (hc1)) rfl<|.a 1 rfl<|?_
    cases c1
    ·exact .a 7 rfl<|.k [53,1,2,3,6,8,9,10,11] rfl
    ·exact .a 4 rfl<|.c rfl (hw1) rfl<|.a 2 rfl<|.k [53,1,2,3,6,8,9,10,11] rfl
   refine ah rfl (fun h1=>?_) (fun h1=>?_)
   ·rw[if_pos h1]
    refine aR<|au 3 rfl<|aH [6,7] rfl ?_
    exact aq<|⟨_,_,az.of rfl,aC.pure (p:=.tuple [bS 3 g,num 0]),rfl⟩
   ·rw[if_neg (by rw[h1];simp)]
    refine bu 65 (.raw (.bool (c3&&c4))) [1,6,11] rfl ?_ ?_
    ·refine .a 2 rfl<|.v (cg rfl (hc3)) rfl<|.a 1 rfl<|?_
     cases c3
     ·exact .a 7 rfl<|.k [65,1,6,11] rfl
     ·exact .a 4 rfl<|.c rfl (hw2) rfl<|.a 2 rfl<|.k [65,1,6,11] rfl
    refine ah rfl (fun h2=>?_) (fun h2=>?_)
    ·rw[if_pos h2]
     refine aR<|au 3 rfl<|aH [6,7] rfl ?_
     exact aq<|⟨_,_,az.of rfl,aC.pure (p:=.tuple [bS 2 h,num 0]),rfl⟩
    ·rw[if_neg (by rw[h2];simp)]
     refine aj<|aR<|au 1 rfl<|bE (iA rfl rfl rfl (by decide) ((show(a:Int).tdiv 2=((a / 2:Nat):Int) by rw[Int.tdiv_eq_ediv_of_nonneg (by omega)];omega)) (by unfold In64;omega)) rfl<|au 3 rfl<|aH [6,7] rfl ?_
     exact aq<|⟨_,_,az.of rfl,aC.pure (p:=.tuple [bS 1 ((a / 2:Nat):Int),num 0]),rfl⟩
def kM(T:ai)(D E:List Bool)(k:Nat):List Bool:=(List.range (2*T.ae.length)).map fun a=>if a<k then aL D a||aL E a else aL D a
theorem qB(T:ai)(D E:List Bool)(k:Nat):(kM T D E k).length=2*T.ae.length:=by simp[kM]
theorem nP{T:ai}{D E:List Bool}{k i:Nat}(h:i<(kM T D E k).length):(kM T D E k)[i]=if i<k then aL D i||aL E i else aL D i:=by simp[kM]
theorem xF{M:List Bool}{a:Nat}(h:a<M.length):aL M a=M[a]:=by rw[←eG];simp[h]
theorem Bl{T:ai}{D E:List Bool}(h:D.length=2*T.ae.length):kM T D E 0=D:=by
 apply List.ext_getElem (by rw[qB,h])
 intro i h1 h2
 rw[nP,if_neg (by omega),xF h2]
theorem Cl(T:ai)(D E:List Bool):kM T D E (2*T.ae.length)=orM T D E:=by
 unfold kM orM
 exact List.map_congr_left fun a ha=>if_pos (List.mem_range.1 ha)
theorem Al(T:ai)(D E:List Bool)(k:Nat):(kM T D E k).set k (aL D k||aL E k)=kM T D E (k+1):=by
 apply List.ext_getElem (by simp[kM])
 intro i h1 h2
 rw[List.getElem_set,nP,nP]
 by_cases e:k=i
 ·subst e;rw[if_pos rfl,if_pos (by omega)]
 ·rw[if_neg e]
  by_cases h:i<k
  ·rw[if_pos h,if_pos (by omega)]
  ·rw[if_neg h,if_neg (by omega)]
theorem EM{T:ai}{D E:List Bool}{k:Nat}(h:k<2*T.ae.length):(kM T D E k).getD k false=aL D k:=by
 have hk:k<(kM T D E k).length:=by rw[qB];exact h
 rw[List.getD_eq_getElem?_getD,List.getElem?_eq_getElem hk,Option.getD_some,nP,if_neg (by omega)]
end PW
end Go.Proofs.YtnegbdpggideiaaGreatDoor
namespace Go.Proofs.YtnegbdpggideiaaGreatDoor
namespace PW
open Go.RowKit cE Mem Net
theorem Bn(rs:List (List Int))(i:Nat)(hi:i<rs.length):Can Tryz.prog 204 ([num i]++[.aX [je rs] 0]) (· =aw (rs.getD i [])):=by
 exact aG Tryz.func204 rfl Tryz.ntmps204 rfl<|ab (.a 1 rfl<|.k [0,1] rfl)<|ab (.a 2 rfl<|.v (aM (i) rfl) rfl<|.v (aO rfl ((show(rs.map aw)[i]? =some (aw (rs.getD i [])) by simp[hi]))) rfl<|.a 1 rfl<|.k [3] rfl)<|aq<|⟨_,_,az.of rfl,aC.pure,rfl⟩
theorem A7(T:ai)(a:Nat)(ha:a<2*T.ae.length)(hl:T.ae.length≤4611686018427387902):Can Tryz.prog 205 ([num a]++[.aX (bw T) 0]) (· =num (aS T a)):=by
 exact aG Tryz.func205 rfl Tryz.ntmps205 rfl<|ab (.a 1 rfl<|.k [0,1] rfl)<|ab (.a 2 rfl<|.c rfl (fI T a ha hl) rfl<|.a 1 rfl<|.k [3] rfl)<|aq<|⟨_,_,az.of rfl,aC.pure,rfl⟩
theorem CB(T:ai)(D:List Bool)(d:Int):Can Tryz.prog 180 [aN T,aY D,num d] (· =dr (cw T D [d]) (br T D d.toNat true)):=by
 refine aG Tryz.func180 rfl Tryz.ntmps180 rfl<|ab (.a 3 rfl<|.k [1,2,3] rfl)<|ak<|ab (.a 4 rfl<|.c rfl (od T D [d] (by simp)) rfl<|.a 1 rfl<|.k [1,2,3,8] rfl)<|ab (.a 2 rfl<|.k [1,2,3,8,17] rfl)<|ah rfl (fun hc=>?_) (fun hc=>?_)
 ·have he:cw T D [d]≠0:=of_decide_eq_true hc
  exact ab (.a 3 rfl<|.k [6,7] rfl)<|aq<|⟨_,_,az.of rfl,aC.bz (an.cons aC.b7 (an.cons aC.pure an.nil)),by unfold dr;rw[if_neg he];rfl⟩
 ·have he:cw T D [d]=0:=by have:=of_decide_eq_false hc;omega
  have hok:(ao T&&bP T D)=true∧bn T d=true:=by
   unfold cw at he
   split at he
   ·rename_i h1
    split at he
    ·rename_i h2;exact⟨h1,by simpa using h2⟩
    ·omega
   ·omega
  obtain⟨hvf,hnd⟩:=hok
  obtain⟨hv,hf⟩:=Bool.and_eq_true_iff.1 hvf
  have hd:0≤d∧d<T.nodes:=by simpa[bn]using hnd
  obtain⟨n,rfl⟩:=Int.eq_ofNat_of_zero_le hd.1
  have hS:=aK hv
  refine aj<|aR<|au 1 rfl<|er rfl (lu T hv) rfl<|au 2 rfl<|aH [1,2,3,9] rfl ?_
  refine aR<|au 3 rfl<|bE (dL rfl rfl) rfl<|au 4 rfl<|aH [10] rfl ?_
  refine wJ (.cons 10 rfl (aC.jh rfl (an.cons aC.pure<|an.cons aC.pure<|an.cons aC.pure<|an.cons aC.pure<|an.cons aC.pure<|an.cons (aC.iC (an.cons (aC.jh rfl (an.cons aC.pure an.nil)) an.nil))<|an.cons aC.pure an.nil)) .nil) ?_
  exact ab (.a 1 rfl<|.c rfl (zm T D n true 204 205 [.aX [je (dh (bb T) T.nodes.toNat (2*T.ae.length))] 0] [.aX (bw T) 0] hv hf hd.2 (by kernel_rfl) (by kernel_rfl) (fun i hi=>by have h:=Bn (dh (bb T) T.nodes.toNat (2*T.ae.length)) i (by rw[eH];omega);rw[iK _ _ _ _ (by omega)]at h;exact h) (fun a ha=>A7 T a ha (by have:=bO hv;omega))) rfl<|.a 2 rfl<|.k [6,7] rfl)<|aq<|⟨_,_,az.of rfl,aC.pure,by unfold dr;rw[if_pos he,he];rfl⟩
end PW
end Go.Proofs.YtnegbdpggideiaaGreatDoor
