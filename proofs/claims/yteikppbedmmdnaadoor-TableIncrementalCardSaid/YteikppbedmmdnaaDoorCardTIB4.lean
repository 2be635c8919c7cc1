/- Texts of the proof, part 4. -/
import Derived.Test.YteikppbedmmdnaaDoorCardTIB3
set_option linter.unusedVariables false
set_option linter.unusedSimpArgs false
set_option maxRecDepth 10000
set_option maxHeartbeats 1000000
namespace Go.Proofs.YteikppbedmmdnaaDoor
namespace Net
def cS(T:au)(dir:Bool)(a:Nat):Int:=if dir then aA T a else aE T a
def bH(T:au)(dir:Bool)(a:Nat):Int:=if dir then aE T a else aA T a
def at'(l:List Int)(x:Int):Int:=l.getD x.toNat (-1)
def Way(T:au)(D:List Bool)(n:Nat)(dir:Bool)(out:List Int)(a:Nat):Prop:=
 db D a=false∧0≤at' out (bH T dir a)∧(bH T dir a=(n:Int)∨cU T (bH T dir a).toNat=false)
structure cC (T:au) (D:List Bool) (n:Nat) (dir:Bool) (out:List Int):Prop where
 len:(out.length:Int)=T.nodes
 root:at' out (n:Int)=0
 ge:∀x:Nat,(x:Int)<T.nodes→ -1≤at' out (x:Int)
 closed:∀a,a<2*T.aa.length→Way T D n dir out a→0≤at' out (cS T dir a)∧at' out (cS T dir a)≤at' out (bH T dir a)+bg T a
 eU:∀x:Nat,(x:Int)<T.nodes→0≤at' out (x:Int)→x=n∨∃a,a<2*T.aa.length∧cS T dir a=(x:Int)∧Way T D n dir out a∧at' out (x:Int)=at' out (bH T dir a)+bg T a
structure Sound (T:au):Prop where
 cost:∀a,a<2*T.aa.length→1≤bg T a∧bg T a≤65535
 tail:∀a,a<2*T.aa.length→0≤aE T a∧aE T a<T.nodes
 head:∀a,a<2*T.aa.length→0≤aA T a∧aA T a<T.nodes
 nodes:1≤T.nodes∧T.nodes≤64
theorem Sound.x{T:au}(h:Sound T)(dir:Bool)(a:Nat)(ha:a<2*T.aa.length):0≤cS T dir a∧cS T dir a<T.nodes:=by
 unfold cS;cases dir
 ·exact h.tail a ha
 ·exact h.head a ha
theorem Sound.y{T:au}(h:Sound T)(dir:Bool)(a:Nat)(ha:a<2*T.aa.length):0≤bH T dir a∧bH T dir a<T.nodes:=by
 unfold bH;cases dir
 ·exact h.head a ha
 ·exact h.tail a ha
theorem lZ{T:au}(hT:Sound T){D:List Bool}{n:Nat}{dir:Bool}{out out':List Int}(h:cC T D n dir out)(h':cC T D n dir out'):
  ∀(k:Nat) (x:Nat),(x:Int)<T.nodes→at' out (x:Int)=(k:Int)→0≤at' out' (x:Int)∧at' out' (x:Int)≤at' out (x:Int):=by
 intro k
 induction k using Nat.strongRecOn with
 |_ k ih=>
  intro x hx hk
  rcases h.eU x hx (by omega)with rfl|⟨a,ha,hax,⟨w1,w2,w3⟩,he⟩
  ·rw[h'.root];omega
  ·have hc:=hT.cost a ha
   obtain⟨y,hy⟩:=Int.eq_ofNat_of_zero_le (hT.y dir a ha).1
   have hyn:=(hT.y dir a ha).2
   rw[hy]at w2 w3 he hyn
   obtain⟨j,hj⟩:=Int.eq_ofNat_of_zero_le w2
   have hlt:j<k:=by omega
   have h1:=ih j hlt y hyn hj
   have h2:=h'.closed a ha ⟨w1,by rw[hy];exact h1.1,by rw[hy];exact w3⟩
   rw[hax,hy]at h2
   exact⟨h2.1,by omega⟩
theorem qZ(out:List Int)(x:Nat)(hx:x<out.length):at' out (x:Int)=out[x]:=by
 simp[at',hx]
theorem mV{T:au}(hT:Sound T){D:List Bool}{n:Nat}{dir:Bool}{out out':List Int}(h:cC T D n dir out)(h':cC T D n dir out'):out=out':=by
 have hl:out.length=out'.length:=by have:=h.len;have:=h'.len;omega
 refine List.ext_getElem hl fun x h1 h2=>?_
 have hx:(x:Int)<T.nodes:=by have:=h.len;omega
 rw[←qZ out x h1,←qZ out' x h2]
 have g1:=h.ge x hx
 have g2:=h'.ge x hx
 by_cases c1:0≤at' out (x:Int)
 ·obtain⟨k,hk⟩:=Int.eq_ofNat_of_zero_le c1
  have a1:=lZ hT h h' k x hx hk
  obtain⟨k',hk'⟩:=Int.eq_ofNat_of_zero_le a1.1
  have a2:=lZ hT h' h k' x hx hk'
  omega
 ·by_cases c2:0≤at' out' (x:Int)
  ·obtain⟨k,hk⟩:=Int.eq_ofNat_of_zero_le c2
   have a1:=lZ hT h' h k x hx hk
   omega
  ·omega
open Classical in
noncomputable def aP(T:au)(D:List Bool)(n:Nat)(dir:Bool):List Int:=if h:∃out,cC T D n dir out then h.choose else []
theorem eE{T:au}(hT:Sound T){D:List Bool}{n:Nat}{dir:Bool}{out:List Int}(h:cC T D n dir out):aP T D n dir=out:=by
 unfold aP
 rw[dif_pos ⟨out,h⟩]
 exact mV hT (Exists.choose_spec (⟨out,h⟩:∃out,cC T D n dir out)) h
end Net
end Go.Proofs.YteikppbedmmdnaaDoor
namespace Go.Proofs.YteikppbedmmdnaaDoor
namespace Net
section
def dF:List Int→Nat
 | []=>0
 |v::l=>(if 0≤v then 1 else 0)+dF l
theorem dJ(l:List Int):dF l≤l.length:=by
 induction l with
 |nil=>exact Nat.le_refl _
 |cons v l ih=>simp only[dF,List.length_cons];split<;>omega
theorem fa:∀(l:List Int) (i:Nat) (c:Int),i<l.length→0≤c→dF (l.set i c)=dF l+(if 0≤l.getD i (-1) then 0 else 1)
 | [],i,c,h,_=>by simp at h
 |v::l,0,c,_,hc=>by
  simp only[List.set_cons_zero,dF,List.getD_cons_zero]
  rw[if_pos hc]
  by_cases h:0≤v
  ·rw[if_pos h,if_pos h];omega
  ·rw[if_neg h,if_neg h];omega
 |v::l,i+1,c,h,hc=>by
  simp only[List.set_cons_succ,dF,List.getD_cons_succ]
  rw[fa l i c (by simpa using h) hc]
  omega
def uN(v:Int):Nat:=if v<0 then 4194241 else v.toNat
def mu:List Int→Nat
 | []=>0
 |v::l=>uN v+mu l
theorem sx:∀(l:List Int) (i:Nat) (c:Int),i<l.length→mu (l.set i c)+uN (l.getD i (-1))=mu l+uN c
 | [],i,c,h=>by simp at h
 |v::l,0,c,_=>by simp only[List.set_cons_zero,mu,List.getD_cons_zero];omega
 |v::l,i+1,c,h=>by
  have:=sx l i c (by simpa using h)
  simp only[List.set_cons_succ,mu,List.getD_cons_succ]
  omega
structure Inv (T:au) (D:List Bool) (n:Nat) (dir:Bool) (out:List Int):Prop where
 len:(out.length:Int)=T.nodes
 root:at' out (n:Int)=0
 ge:∀x:Nat,(x:Int)<T.nodes→ -1≤at' out (x:Int)
 u9:∀x:Nat,(x:Int)<T.nodes→at' out (x:Int)≤65535*(dF out:Int)
 eU:∀x:Nat,(x:Int)<T.nodes→0≤at' out (x:Int)→x=n∨∃a,a<2*T.aa.length∧cS T dir a=(x:Int)∧Way T D n dir out a∧at' out (bH T dir a)+bg T a≤at' out (x:Int)
def pH(T:au)(D:List Bool)(n:Nat)(dir:Bool)(out:List Int)(a:Nat):Prop:=
 Way T D n dir out a∧(at' out (cS T dir a)<0∨at' out (bH T dir a)+bg T a<at' out (cS T dir a))
def uk(T:au)(dir:Bool)(out:List Int)(a:Nat):List Int:=out.set (cS T dir a).toNat (at' out (bH T dir a)+bg T a)
theorem gD(out:List Int)(x y:Nat)(c:Int)(hx:x<out.length):at' (out.set x c) (y:Int)=if y=x then c else at' out (y:Int):=by
 simp only[at',Int.toNat_natCast,List.getD_eq_getElem?_getD,List.getElem?_set]
 by_cases h:x=y
 ·subst h;simp[hx]
 ·rw[if_neg h,if_neg (Ne.symm h)]
theorem rX{T:au}(hT:Sound T){D:List Bool}{n:Nat}{dir:Bool}{out:List Int}(h:Inv T D n dir out)(a:Nat)(ha:a<2*T.aa.length)(hg:pH T D n dir out a):
  Inv T D n dir (uk T dir out a)∧mu (uk T dir out a)<mu out:=by
 obtain⟨⟨w1,w2,w3⟩,hb⟩:=hg
 have hc:=hT.cost a ha
 obtain⟨x,hx⟩:=Int.eq_ofNat_of_zero_le (hT.x dir a ha).1
 obtain⟨y,hy⟩:=Int.eq_ofNat_of_zero_le (hT.y dir a ha).1
 have hxn:=(hT.x dir a ha).2
 have hyn:=(hT.y dir a ha).2
 unfold uk
 rw[hx,hy,Int.toNat_natCast]
 rw[hx,hy]at hb
 rw[hy]at w2 w3
 rw[hx]at hxn
 rw[hy]at hyn
 have hlen:=h.len
 have hxl:x<out.length:=by omega
 generalize hcc:at' out (y:Int)+bg T a=c at*
 have hby:=h.u9 y hyn
 have hxr:x≠n:=fun e=>by
  rw[e,h.root]at hb
  omega
 have hcs:=fa out x c hxl (by omega)
 have hgx:out.getD x (-1)=at' out (x:Int):=by simp[at']
 rw[hgx]at hcs
 have at1:=fun z=>gD out x z c hxl
 have reach:∀z:Nat,(z:Int)<T.nodes→0≤at' out (z:Int)→0≤at' (out.set x c) (z:Int):=fun z _ hz=>by
  rw[at1 z];split<;>omega
 have less:∀z:Nat,(z:Int)<T.nodes→0≤at' out (z:Int)→at' (out.set x c) (z:Int)≤at' out (z:Int):=fun z _ hz=>by
  rw[at1 z]
  split
  ·rename_i e;subst e;omega
  ·omega
 have way:∀b,b<2*T.aa.length→Way T D n dir out b→Way T D n dir (out.set x c) b:=fun b hbl ⟨v1,v2,v3⟩=>by
  obtain⟨z,hz⟩:=Int.eq_ofNat_of_zero_le (hT.y dir b hbl).1
  have hzn:=(hT.y dir b hbl).2
  refine⟨v1,?_,v3⟩
  rw[hz]at v2 hzn ⊢
  exact reach z hzn v2
 refine⟨⟨by rw[List.length_set];exact hlen,?_,fun z hz=>?_,fun z hz=>?_,fun z hz h0=>?_⟩,?_⟩
 ·rw[at1 n,if_neg (Ne.symm hxr)];exact h.root
 ·rw[at1 z];split
  ·omega
  ·exact h.ge z hz
 ·rw[at1 z]
  have hbz:=h.u9 z hz
  have:(dF out:Int)≤(dF (out.set x c):Int):=by rw[hcs];split<;>omega
  split
  ·rw[hcs]
   rename_i e
   subst e
   by_cases hr:0≤at' out (z:Int)
   ·rw[if_pos hr];omega
   ·rw[if_neg hr];omega
  ·omega
 ·by_cases e:z=x
  ·subst e
   refine .inr ⟨a,ha,hx,way a ha ⟨w1,by rw[hy];exact w2,by rw[hy];exact w3⟩,?_⟩
   rw[hy,at1 z,if_pos rfl]
   have:=less y hyn w2
   omega
  ·rw[at1 z,if_neg e]at h0
   rcases h.eU z hz h0 with e2|⟨b,hbl,hbx,hbw,hbe⟩
   ·exact .inl e2
   ·refine .inr ⟨b,hbl,hbx,way b hbl hbw,?_⟩
    rw[at1 z,if_neg e]
    obtain⟨u,hu⟩:=Int.eq_ofNat_of_zero_le (hT.y dir b hbl).1
    have hun:=(hT.y dir b hbl).2
    have hw2:=hbw.2.1
    rw[hu]at hun hbe hw2 ⊢
    have:=less u hun hw2
    omega
 ·have hm:=sx out x c hxl
  rw[hgx]at hm
  have hcl:=dJ out
  have hnn:=hT.nodes
  have hcb:c≤4194240:=by
   rcases hb with hb|hb
   ·have hlt:dF out<out.length:=by
     have:=dJ (out.set x c)
     rw[List.length_set,hcs,if_neg (by omega)]at this
     omega
    omega
   ·have:=h.u9 x hxn;omega
  have hw1:uN c=c.toNat:=by unfold uN;rw[if_neg (by omega)]
  have hw2:uN (at' out (x:Int))=if at' out (x:Int)<0 then 4194241 else(at' out (x:Int)).toNat:=rfl
  rw[hw1,hw2]at hm
  rcases hb with hb|hb
  ·rw[if_pos hb]at hm;omega
  ·by_cases hr:at' out (x:Int)<0
   ·rw[if_pos hr]at hm;omega
   ·rw[if_neg hr]at hm;omega
theorem qQ{T:au}{D:List Bool}{n:Nat}{dir:Bool}{out:List Int}(h:Inv T D n dir out)(hn:∀a,a<2*T.aa.length→¬pH T D n dir out a):cC T D n dir out:=by
 have closed:∀a,a<2*T.aa.length→Way T D n dir out a→0≤at' out (cS T dir a)∧at' out (cS T dir a)≤at' out (bH T dir a)+bg T a:=fun a ha hw=>by
  have:=hn a ha
  unfold pH at this
  have h2:¬(at' out (cS T dir a)<0∨at' out (bH T dir a)+bg T a<at' out (cS T dir a)):=fun e=>this ⟨hw,e⟩
  omega
 refine⟨h.len,h.root,h.ge,closed,fun x hx h0=>?_⟩
 rcases h.eU x hx h0 with e|⟨a,ha,hax,hw,he⟩
 ·exact .inl e
 ·refine .inr ⟨a,ha,hax,hw,?_⟩
  have:=closed a ha hw
  rw[hax]at this
  omega
def start(N n:Nat):List Int:=(List.replicate N (-1)).set n 0
theorem gZ(N n:Nat)(hn:n<N)(x:Nat)(hx:x<N):at' (start N n) (x:Int)=if x=n then 0 else -1:=by
 unfold start
 rw[gD _ n x 0 (by simpa using hn)]
 split
 ·rfl
 ·simp[at',hx]
theorem lI{T:au}{D:List Bool}{N n:Nat}{dir:Bool}(hN:(N:Int)=T.nodes)(hn:n<N):Inv T D n dir (start N n):=by
 have hc:1≤dF (start N n):=by
  unfold start
  rw[fa _ n 0 (by simpa using hn) (by omega)]
  have:(List.replicate N (-1:Int)).getD n (-1)= -1:=by simp[hn]
  rw[this]
  simp
 refine⟨by simp[start];exact hN,by rw[gZ N n hn n hn,if_pos rfl],fun x hx=>?_,fun x hx=>?_,fun x hx h0=>?_⟩
 ·rw[gZ N n hn x (by omega)];split<;>omega
 ·rw[gZ N n hn x (by omega)];split<;>omega
 ·rw[gZ N n hn x (by omega)]at h0
  by_cases e:x=n
  ·exact .inl e
  ·rw[if_neg e]at h0;omega
theorem fT{T:au}(hT:Sound T){D:List Bool}{n:Nat}{dir:Bool}:∀(k:Nat) (out:List Int),mu out=k→Inv T D n dir out→∃out',cC T D n dir out'∧Inv T D n dir out':=by
 intro k
 induction k using Nat.strongRecOn with
 |_ k ih=>
  intro out hk hi
  by_cases h:∃a,a<2*T.aa.length∧pH T D n dir out a
  ·obtain⟨a,ha,hg⟩:=h
   obtain⟨h1,h2⟩:=rX hT hi a ha hg
   exact ih _ (by omega) _ rfl h1
  ·exact⟨out,qQ hi fun a ha hg=>h ⟨a,ha,hg⟩,hi⟩
theorem ik{T:au}(hT:Sound T)(D:List Bool){n:Nat}(dir:Bool)(hn:(n:Int)<T.nodes):cC T D n dir (aP T D n dir):=by
 obtain⟨N,hN⟩:=Int.eq_ofNat_of_zero_le (by have:=hT.nodes.1;omega:0≤T.nodes)
 obtain⟨out,ho,_⟩:=fT hT _ (start N n) I (lI (D:=D) (dir:=dir) hN.symm (by omega))
 rw[eE hT ho]
 exact ho
theorem lJ{T:au}(hT:Sound T)(D:List Bool){n:Nat}(dir:Bool)(hn:(n:Int)<T.nodes):Inv T D n dir (aP T D n dir):=by
 obtain⟨N,hN⟩:=Int.eq_ofNat_of_zero_le (by have:=hT.nodes.1;omega:0≤T.nodes)
 obtain⟨out,ho,hi⟩:=fT hT _ (start N n) I (lI (D:=D) (dir:=dir) hN.symm (by omega))
 rw[eE hT ho]
 exact hi
structure lT (T:au) (D:List Bool) (n:Nat) (dir:Bool) (out K:List Int) (H:Nat→Prop) (S:Nat→Prop):Prop where
 len:(out.length:Int)=T.nodes
 ge:∀x:Nat,(x:Int)<T.nodes→ -1≤at' out (x:Int)
 root:at' out (n:Int)=0∨(H n∧K.getD n 0=0)
 kS:∀y,H y→(y:Int)<T.nodes∧at' out (y:Int)= -1
 mono:∀x y:Nat,(x:Int)<T.nodes→H y→at' out (x:Int)≤K.getD y 0
 eH:∀y,H y→(y=n∧K.getD y 0=0)∨∃a,a<2*T.aa.length∧cS T dir a=(y:Int)∧Way T D n dir out a∧K.getD y 0=at' out (bH T dir a)+bg T a
 eU:∀x:Nat,(x:Int)<T.nodes→0≤at' out (x:Int)→x=n∨∃a,a<2*T.aa.length∧cS T dir a=(x:Int)∧Way T D n dir out a∧at' out (x:Int)=at' out (bH T dir a)+bg T a
 closed:∀a,a<2*T.aa.length→¬S a→Way T D n dir out a→(0≤at' out (cS T dir a)∧at' out (cS T dir a)≤at' out (bH T dir a)+bg T a)∨(H (cS T dir a).toNat∧K.getD (cS T dir a).toNat 0≤at' out (bH T dir a)+bg T a)
 ub:∀x:Nat,(x:Int)<T.nodes→at' out (x:Int)≤65535*(dF out:Int)
 pd:∀y,H y→K.getD y 0≤65535*(dF out:Int)
theorem lT.key{T:au}(hT:Sound T){D:List Bool}{n:Nat}{dir:Bool}{out K:List Int}{H S:Nat→Prop}(h:lT T D n dir out K H S){y:Nat}(hy:H y):0≤K.getD y 0:=by
 rcases h.eH y hy with⟨_,h0⟩|⟨a,ha,_,hw,he⟩
 ·omega
 ·have:=hT.cost a ha
  have:=hw.2.1
  omega
theorem l8(L:List Int)(i j:Nat)(c:Int)(hi:i<L.length):(L.set i c).getD j 0=if j=i then c else L.getD j 0:=by
 by_cases h:j=i
 ·subst h;simp[List.getD_eq_getElem?_getD,hi]
 ·simp[List.getD_eq_getElem?_getD,List.getElem?_set,Ne.symm h,h]
theorem mg(N:Nat):dF (List.replicate N (-1))=0:=by
 induction N with
 |zero=>rfl
 |succ N ih=>rw[List.replicate_succ];simp[dF,ih]
theorem fG(N x:Nat):at' (List.replicate N (-1)) (x:Int)= -1:=by
 unfold at'
 rw[List.getD_eq_getElem?_getD,List.getElem?_replicate]
 split<;>rfl
theorem lO{T:au}{D:List Bool}{N n:Nat}{dir:Bool}(hN:(N:Int)=T.nodes)(hn:n<N){K:List Int}{H:Nat→Prop}(hK:K.getD n 0=0)(hH:∀y,H y↔y=n):lT T D n dir (List.replicate N (-1)) K H (fun _=>False) where
 len:=by simpa using hN
 ge x _:=by rw[fG];omega
 root:=.inr ⟨(hH n).2 rfl,hK⟩
 kS y hy:=by have:=(hH y).1 hy;subst this;exact⟨by omega,fG N y⟩
 mono x y _ hy:=by have:=(hH y).1 hy;subst this;rw[fG,hK];omega
 eH y hy:=by have:=(hH y).1 hy;subst this;exact .inl ⟨rfl,hK⟩
 eU x _ h:=by rw[fG]at h;omega
 closed a _ _ hw:=by
  have:=hw.2.1
  have h2:at' (List.replicate N (-1)) (bH T dir a)= -1:=by
   unfold at'
   rw[List.getD_eq_getElem?_getD,List.getElem?_replicate]
   split<;>rfl
  rw[h2]at this;omega
 ub x _:=by rw[fG,mg];omega
 pd y hy:=by have:=(hH y).1 hy;subst this;rw[hK,mg];omega
theorem pj{T:au}(hT:Sound T){D:List Bool}{n:Nat}{dir:Bool}{out K:List Int}{H:Nat→Prop}(h:lT T D n dir out K H (fun _=>False)){i:Nat}(hi:H i)(hmin:∀j,H j→K.getD i 0≤K.getD j 0)(hKl:i<K.length){H':Nat→Prop}(hH':∀j,H' j↔H j∧j≠i):
  lT T D n dir (out.set i (K.getD i 0)) (K.set i 0) H' (fun a=>bH T dir a=(i:Int))∧dF (out.set i (K.getD i 0))=dF out+1∧(∀x:Nat,(x:Int)<T.nodes→at' (out.set i (K.getD i 0)) (x:Int)≤K.getD i 0)∧at' (out.set i (K.getD i 0)) (i:Int)=K.getD i 0∧0≤K.getD i 0∧K.getD i 0≤65535*(dF out:Int):=by
 obtain⟨hin,hineg⟩:=h.kS i hi
 have hil:i<out.length:=by have:=h.len;omega
 have hd:=h.key hT hi
 have hdu:=h.pd i hi
 have hat:=fun x:Nat=>gD out i x (K.getD i 0) hil
 have hK:∀j,j≠i→(K.set i 0).getD j 0=K.getD j 0:=fun j hj=>by rw[l8 _ _ _ _ hKl,if_neg hj]
 have hcnt:dF (out.set i (K.getD i 0))=dF out+1:=by
  rw[fa out i _ hil hd,if_neg]
  have:out.getD i (-1)=at' out (i:Int):=by simp[at']
  rw[this,hineg];omega
 have hy:∀a,a<2*T.aa.length→Way T D n dir out a→Way T D n dir (out.set i (K.getD i 0)) a∧at' (out.set i (K.getD i 0)) (bH T dir a)=at' out (bH T dir a):=fun a ha hw=>by
  obtain⟨y,hy⟩:=Int.eq_ofNat_of_zero_le (hT.y dir a ha).1
  have hne:y≠i:=fun e=>by
   have:=hw.2.1
   rw[hy,e,hineg]at this;omega
  have e1:at' (out.set i (K.getD i 0)) (bH T dir a)=at' out (bH T dir a):=by rw[hy,hat y,if_neg hne]
  exact⟨⟨hw.1,by rw[e1];exact hw.2.1,hw.2.2⟩,e1⟩
 refine⟨⟨by simpa using h.len,fun x hx=>?_,?_,fun y hy'=>?_,fun x y hx hy'=>?_,fun y hy'=>?_,fun x hx h0=>?_,fun a ha hs hw=>?_,fun x hx=>?_,fun y hy'=>?_⟩,hcnt,fun x hx=>?_,by rw[hat i,if_pos rfl],hd,hdu⟩
 ·rw[hat x];split
  ·omega
  ·exact h.ge x hx
 ·by_cases e:n=i
  ·subst e
   left
   rw[hat n,if_pos rfl]
   rcases h.root with h0|⟨_,h0⟩
   ·omega
   ·exact h0
  ·rcases h.root with h0|⟨h1,h0⟩
   ·left;rw[hat n,if_neg e];exact h0
   ·right;exact⟨(hH' n).2 ⟨h1,e⟩,by rw[hK n e];exact h0⟩
 ·obtain⟨h1,h2⟩:=(hH' y).1 hy'
  obtain⟨h3,h4⟩:=h.kS y h1
  exact⟨h3,by rw[hat y,if_neg h2];exact h4⟩
 ·obtain⟨h1,h2⟩:=(hH' y).1 hy'
  rw[hat x,hK y h2]
  split
  ·exact hmin y h1
  ·exact h.mono x y hx h1
 ·obtain⟨h1,h2⟩:=(hH' y).1 hy'
  rw[hK y h2]
  rcases h.eH y h1 with h3|⟨a,ha,hx,hw,he⟩
  ·exact .inl h3
  ·obtain⟨k1,k2⟩:=hy a ha hw
   exact .inr ⟨a,ha,hx,k1,by rw[k2];exact he⟩
 ·rw[hat x]at h0 ⊢
  by_cases e:x=i
  ·subst e
   rw[if_pos rfl]
   rcases h.eH x hi with⟨h3,_⟩|⟨a,ha,hx,hw,he⟩
   ·exact .inl h3
   ·obtain⟨k1,k2⟩:=hy a ha hw
    exact .inr ⟨a,ha,hx,k1,by rw[k2];exact he⟩
  ·rw[if_neg e]at h0 ⊢
   rcases h.eU x hx h0 with h3|⟨a,ha,hx,hw,he⟩
   ·exact .inl h3
   ·obtain⟨k1,k2⟩:=hy a ha hw
    exact .inr ⟨a,ha,hx,k1,by rw[k2];exact he⟩
 ·obtain⟨y,hya⟩:=Int.eq_ofNat_of_zero_le (hT.y dir a ha).1
  have hne:y≠i:=fun e=>hs (by rw[hya,e])
  have e1:at' (out.set i (K.getD i 0)) (bH T dir a)=at' out (bH T dir a):=by rw[hya,hat y,if_neg hne]
  have hw0:Way T D n dir out a:=⟨hw.1,by rw[←e1];exact hw.2.1,hw.2.2⟩
  obtain⟨x,hxa⟩:=Int.eq_ofNat_of_zero_le (hT.x dir a ha).1
  have hc:=h.closed a ha (fun f=>f) hw0
  rw[e1]
  rw[hxa]at hc ⊢
  rw[Int.toNat_natCast]at hc ⊢
  rw[hat x]
  by_cases e:x=i
  ·subst e
   left
   rw[if_pos rfl]
   rcases hc with⟨h1,_⟩|⟨_,h2⟩
   ·rw[hineg]at h1;omega
   ·exact⟨hd,h2⟩
  ·rw[if_neg e]
   rcases hc with h1|⟨h1,h2⟩
   ·exact .inl h1
   ·exact .inr ⟨(hH' x).2 ⟨h1,e⟩,by rw[hK x e];exact h2⟩
 ·rw[hat x,hcnt]
  split
  ·omega
  ·have:=h.ub x hx;omega
 ·obtain⟨h1,h2⟩:=(hH' y).1 hy'
  rw[hK y h2,hcnt]
  have:=h.pd y h1;omega
 ·rw[hat x]
  split
  ·omega
  ·exact h.mono x i hx hi
theorem nJ{T:au}{D:List Bool}{n:Nat}{dir:Bool}{out K:List Int}{H:Nat→Prop}{i:Nat}(h:lT T D n dir out K H (fun a=>bH T dir a=(i:Int)))(hi:i≠n)(ho:cU T i=true):lT T D n dir out K H (fun _=>False):=
 {h with closed:=fun a ha _ hw=>h.closed a ha (fun e=>by
   rcases hw.2.2 with h1|h1
   ·rw[h1]at e;exact hi (by omega)
   ·rw[e,Int.toNat_natCast,ho]at h1;cases h1) hw}
theorem jD{T:au}{D:List Bool}{n:Nat}{dir:Bool}{out K:List Int}{H S S':Nat→Prop}(h:lT T D n dir out K H S){a:Nat}(hS:∀b,b<2*T.aa.length→S b→S' b∨b=a)
  (hc:Way T D n dir out a→(0≤at' out (cS T dir a)∧at' out (cS T dir a)≤at' out (bH T dir a)+bg T a)∨(H (cS T dir a).toNat∧K.getD (cS T dir a).toNat 0≤at' out (bH T dir a)+bg T a)):lT T D n dir out K H S':=
 ⟨h.len,h.ge,h.root,h.kS,h.mono,h.eH,h.eU,fun b hb hs hw=>by
   by_cases e:b=a
   ·subst e
    exact hc hw
   ·exact h.closed b hb (fun hb'=>(hS b hb hb').elim hs e) hw,h.ub,h.pd⟩
theorem o0{T:au}(hT:Sound T){D:List Bool}{n:Nat}{dir:Bool}{out K:List Int}{H H' S S':Nat→Prop}(h:lT T D n dir out K H S){a m:Nat}(ha:a<2*T.aa.length)(hS:∀b,b<2*T.aa.length→S b→S' b∨b=a)
  (hw:Way T D n dir out a) (hm:cS T dir a=(m:Int)) (kS:at' out (m:Int)<0) (htop:∀x:Nat,(x:Int)<T.nodes→at' out (x:Int)≤at' out (bH T dir a)) (hub:at' out (bH T dir a)+65535≤65535*(dF out:Int))
  (hnew:¬H m∨at' out (bH T dir a)+bg T a<K.getD m 0) (hml:m<K.length) (hH':∀j,H' j↔H j∨j=m):
  lT T D n dir out (K.set m (at' out (bH T dir a)+bg T a)) H' S':=by
 have hc:=hT.cost a ha
 have hmN:(m:Int)<T.nodes:=by have:=(hT.x dir a ha).2;omega
 have hK:∀j,(K.set m (at' out (bH T dir a)+bg T a)).getD j 0=if j=m then at' out (bH T dir a)+bg T a else K.getD j 0:=fun j=>l8 _ _ _ _ hml
 have hy0:=hw.2.1
 refine⟨h.len,h.ge,?_,fun y hy=>?_,fun x y hx hy=>?_,fun y hy=>?_,h.eU,fun b hb hs hwb=>?_,h.ub,fun y hy=>?_⟩
 ·rcases h.root with h0|⟨h1,h0⟩
  ·exact .inl h0
  ·right
   refine⟨(hH' n).2 (.inl h1),?_⟩
   rw[hK n,if_neg,h0]
   intro e
   subst e
   rcases hnew with h2|h2
   ·exact h2 h1
   ·omega
 ·rcases(hH' y).1 hy with h1|rfl
  ·exact h.kS y h1
  ·have:=h.ge y hmN
   exact⟨hmN,by omega⟩
 ·rw[hK y]
  have:=htop x hx
  split
  ·omega
  ·rename_i e
   exact h.mono x y hx (((hH' y).1 hy).resolve_right e)
 ·rw[hK y]
  by_cases e:y=m
  ·subst e
   rw[if_pos rfl]
   exact .inr ⟨a,ha,hm,hw,rfl⟩
  ·rw[if_neg e]
   exact h.eH y (((hH' y).1 hy).resolve_right e)
 ·obtain⟨x,hx⟩:=Int.eq_ofNat_of_zero_le (hT.x dir b hb).1
  by_cases e:b=a
  ·subst e
   right
   rw[hm,Int.toNat_natCast]
   exact⟨(hH' m).2 (.inr rfl),by rw[hK m,if_pos rfl];exact Int.le_refl _⟩
  ·have h1:=h.closed b hb (fun hb'=>(hS b hb hb').elim hs e) hwb
   rw[hx,Int.toNat_natCast]at h1 ⊢
   rcases h1 with h1|⟨h1,h2⟩
   ·exact .inl h1
   ·right
    refine⟨(hH' x).2 (.inl h1),?_⟩
    rw[hK x]
    split
    ·rename_i e'
     subst e'
     rcases hnew with h3|h3
     ·exact absurd h1 h3
     ·omega
    ·exact h2
 ·rw[hK y]
  split
  ·omega
  ·rename_i e
   exact h.pd y (((hH' y).1 hy).resolve_right e)
theorem pn{T:au}{D:List Bool}{n:Nat}{dir:Bool}{out K:List Int}{H:Nat→Prop}(h:lT T D n dir out K H (fun _=>False))(hH:∀y,¬H y):cC T D n dir out:=
 ⟨h.len,h.root.resolve_right (fun k=>hH n k.1),h.ge,fun a ha hw=>(h.closed a ha (fun f=>f) hw).resolve_right (fun k=>hH _ k.1),h.eU⟩
def ny(T:au)(D:List Bool)(n a:Nat):Prop:=db D a=false∧(aA T a=(n:Int)∨cU T (aA T a).toNat=false)
structure tT (T₀:au) (D₀:List Bool) (T:au) (D:List Bool) (n:Nat) (S:Nat→Prop):Prop where
 nodes:T₀.nodes=T.nodes
 aa:T₀.aa.length=T.aa.length
 tail:∀a,a<2*T.aa.length→aE T₀ a=aE T a
 head:∀a,a<2*T.aa.length→aA T₀ a=aA T a
 same:∀a,a<2*T.aa.length→¬S a→(ny T₀ D₀ n a↔ny T D n a)∧bg T₀ a=bg T a
def uF(T:au)(D:List Bool)(n:Nat)(out:List Int)(a:Nat)(v:Int):Prop:=ny T D n a∧0≤at' out (aA T a)∧at' out (aA T a)+bg T a≤v
structure mE (T:au) (D:List Bool) (n:Nat) (out:List Int) (lost H:Nat→Prop) (done:List Int) (b:Int) (S:Nat→Prop):Prop where
 gF:(done.length:Int)=T.nodes
 held:∀y,H y→(y:Int)<T.nodes∧y≠n∧0≤at' out (y:Int)∧b≤at' out (y:Int)∧at' done (y:Int)<0
 gone:∀y,lost y→(y:Int)<T.nodes∧y≠n
 j8:∀y:Nat,(y:Int)<T.nodes→0≤at' done (y:Int)→at' out (y:Int)≤b
 sup:∀x:Nat,(x:Int)<T.nodes→x≠n→0≤at' out (x:Int)→¬lost x→H x∨∃a,a<2*T.aa.length∧aE T a=(x:Int)∧uF T D n out a (at' out (x:Int))∧(¬lost (aA T a).toNat∨S a)
theorem pW{T₀ T:au}{D₀ D:List Bool}{n N:Nat}{S:Nat→Prop}(h2:tT T₀ D₀ T D n S)(hT:Sound T)(hN:(N:Int)=T.nodes){out:List Int}(hd:cC T₀ D₀ n false out){H:Nat→Prop}
  (hH:∀y,H y→(y:Int)<T.nodes∧y≠n∧0≤at' out (y:Int)) (hS:∀a (x:Nat),S a→a<2*T.aa.length→aE T a=(x:Int)→x≠n→0≤at' out (x:Int)→H x):
  mE T D n out (fun _=>False) H (List.replicate N (-1)) 0 (fun _=>False) where
 gF:=by simpa using hN
 held y hy:=by
  obtain⟨h1,h3,h4⟩:=hH y hy
  exact⟨h1,h3,h4,h4,by rw[fG];omega⟩
 gone y hy:=hy.elim
 j8 y hy h:=by rw[fG]at h;omega
 sup x hx hxn h0 _:=by
  rcases hd.eU x (by rw[h2.nodes];exact hx) h0 with e|⟨a,ha,hax,hw,he⟩
  ·exact absurd e hxn
  ·rw[h2.aa]at ha
   have hax':aE T a=(x:Int):=by rw[←h2.tail a ha];exact hax
   by_cases hs:S a
   ·exact .inl (hS a x hs ha hax' hxn h0)
   ·right
    obtain⟨k1,k2⟩:=h2.same a ha hs
    refine⟨a,ha,hax',⟨k1.1 ⟨hw.1,hw.2.2⟩,?_,?_⟩,.inl id⟩
    ·rw[←h2.head a ha];exact hw.2.1
    ·rw[←h2.head a ha,←k2]
     show at' out (bH T₀ false a)+bg T₀ a≤_
     omega
theorem r5{T:au}{D:List Bool}{n:Nat}{out:List Int}{lost H H':Nat→Prop}{done:List Int}{b:Int}(h:mE T D n out lost H done b (fun _=>False)){i:Nat}(hi:H i)(hmin:∀j,H j→at' out (i:Int)≤at' out (j:Int))(hH':∀j,H' j↔H j∧j≠i)
  {a:Nat} (ha:a<2*T.aa.length) (hat:aE T a=(i:Int)) (hs:uF T D n out a (at' out (i:Int))) (hl:¬lost (aA T a).toNat):
  mE T D n out lost H' (done.set i 0) (at' out (i:Int)) (fun _=>False)∧dF (done.set i 0)=dF done+1:=by
 obtain⟨hiN,hin,hi0,hib,hid⟩:=h.held i hi
 have hil:i<done.length:=by have:=h.gF;omega
 have hat':=fun x:Nat=>gD done i x 0 hil
 refine⟨⟨by simpa using h.gF,fun y hy=>?_,h.gone,fun y hy h0=>?_,fun x hx hxn h0 hxl=>?_⟩,?_⟩
 ·obtain⟨h1,h2⟩:=(hH' y).1 hy
  obtain⟨k1,k2,k3,k4,k5⟩:=h.held y h1
  exact⟨k1,k2,k3,hmin y h1,by rw[hat' y,if_neg h2];exact k5⟩
 ·rw[hat' y]at h0
  by_cases e:y=i
  ·subst e;exact Int.le_refl _
  ·rw[if_neg e]at h0;have:=h.j8 y hy h0;omega
 ·by_cases e:x=i
  ·subst e;exact .inr ⟨a,ha,hat,hs,.inl hl⟩
  ·rcases h.sup x hx hxn h0 hxl with h1|⟨c,h1,h3,h4,h5⟩
   ·exact .inl ((hH' x).2 ⟨h1,e⟩)
   ·exact .inr ⟨c,h1,h3,h4,h5⟩
 ·rw[fa done i 0 hil (by omega),if_neg]
  have:done.getD i (-1)=at' done (i:Int):=by simp[at']
  rw[this];omega
theorem rf{T:au}{D:List Bool}{n:Nat}{out:List Int}{lost lost' H H':Nat→Prop}{done:List Int}{b:Int}(hT:Sound T)(h:mE T D n out lost H done b (fun _=>False)){i:Nat}(hi:H i)(hmin:∀j,H j→at' out (i:Int)≤at' out (j:Int))(hH':∀j,H' j↔H j∧j≠i)
  (hl:∀j,lost' j↔lost j∨j=i):
  mE T D n out lost' H' (done.set i 0) (at' out (i:Int)) (fun a=>aA T a=(i:Int))∧dF (done.set i 0)=dF done+1:=by
 obtain⟨hiN,hin,hi0,hib,hid⟩:=h.held i hi
 have hil:i<done.length:=by have:=h.gF;omega
 have hat':=fun x:Nat=>gD done i x 0 hil
 refine⟨⟨by simpa using h.gF,fun y hy=>?_,fun y hy=>?_,fun y hy h0=>?_,fun x hx hxn h0 hxl=>?_⟩,?_⟩
 ·obtain⟨h1,h2⟩:=(hH' y).1 hy
  obtain⟨k1,k2,k3,k4,k5⟩:=h.held y h1
  exact⟨k1,k2,k3,hmin y h1,by rw[hat' y,if_neg h2];exact k5⟩
 ·rcases(hl y).1 hy with h1|rfl
  ·exact h.gone y h1
  ·exact⟨hiN,hin⟩
 ·rw[hat' y]at h0
  by_cases e:y=i
  ·subst e;exact Int.le_refl _
  ·rw[if_neg e]at h0;have:=h.j8 y hy h0;omega
 ·have hxi:x≠i:=fun e=>hxl ((hl x).2 (.inr e))
  rcases h.sup x hx hxn h0 (fun e=>hxl ((hl x).2 (.inl e)))with h1|⟨c,h1,h3,h4,h5⟩
  ·exact .inl ((hH' x).2 ⟨h1,hxi⟩)
  ·refine .inr ⟨c,h1,h3,h4,?_⟩
   have h6:=h5.resolve_right id
   by_cases e:(aA T c).toNat=i
   ·right
    have:=(hT.head c h1).1
    omega
   ·exact .inl fun hh=>((hl _).1 hh).elim h6 e
 ·rw[fa done i 0 hil (by omega),if_neg]
  have:done.getD i (-1)=at' done (i:Int):=by simp[at']
  rw[this];omega
theorem oX{T:au}{D:List Bool}{n:Nat}{out:List Int}{lost H H':Nat→Prop}{done:List Int}{S S':Nat→Prop}{i:Nat}(hT:Sound T)(h:mE T D n out lost H done (at' out (i:Int)) S){a m:Nat}(ha:a<2*T.aa.length)(hah:aA T a=(i:Int))(hm:aE T a=(m:Int))
  (hS:∀c,c<2*T.aa.length→S c→S' c∨c=a) (hH':∀j,H' j↔H j∨(j=m∧m≠n∧at' out (i:Int)<at' out (m:Int))) (h0:0≤at' out (i:Int)):mE T D n out lost H' done (at' out (i:Int)) S':=by
 have hmN:(m:Int)<T.nodes:=by have:=(hT.tail a ha).2;omega
 refine⟨h.gF,fun y hy=>?_,h.gone,h.j8,fun x hx hxn hx0 hxl=>?_⟩
 ·rcases(hH' y).1 hy with h1|⟨rfl,h2,h3⟩
  ·exact h.held y h1
  ·refine⟨hmN,h2,by omega,by omega,?_⟩
   exact Classical.byContradiction fun h4=>by have:=h.j8 y hmN (by omega);omega
 ·rcases h.sup x hx hxn hx0 hxl with h1|⟨c,h1,h3,h4,h5⟩
  ·exact .inl ((hH' x).2 (.inl h1))
  ·rcases h5 with h5|h5
   ·exact .inr ⟨c,h1,h3,h4,.inl h5⟩
   ·rcases hS c h1 h5 with h6|rfl
    ·exact .inr ⟨c,h1,h3,h4,.inr h6⟩
    ·left
     have hxm:x=m:=by rw[hm]at h3;omega
     subst hxm
     have:=h4.2.2
     rw[hah]at this
     have:=hT.cost c h1
     exact(hH' x).2 (.inr ⟨rfl,hxn,by omega⟩)
theorem pb{T:au}{D:List Bool}{n:Nat}{out:List Int}{lost H:Nat→Prop}{done:List Int}{b:Int}{S S':Nat→Prop}(h:mE T D n out lost H done b S)(hS:∀c,c<2*T.aa.length→S c→S' c):mE T D n out lost H done b S':=
 ⟨h.gF,h.held,h.gone,h.j8,fun x hx hxn h0 hl=>(h.sup x hx hxn h0 hl).imp id fun⟨a,h1,h2,h3,h4⟩=>⟨a,h1,h2,h3,h4.imp id (hS a h1)⟩⟩
def Cut(lost:Nat→Prop)(out out':List Int):Prop:=out'.length=out.length∧∀x:Nat,x<out.length→(lost x→at' out' (x:Int)= -1)∧(¬lost x→at' out' (x:Int)=at' out (x:Int))
structure lU (T:au) (D:List Bool) (n:Nat) (out K:List Int) (H:Nat→Prop) (done:List Int) (b:Int) (S:Nat→Prop):Prop where
 len:(out.length:Int)=T.nodes
 gF:(done.length:Int)=T.nodes
 root:at' out (n:Int)=0
 ge:∀x:Nat,(x:Int)<T.nodes→ -1≤at' out (x:Int)
 held:∀y,H y→(y:Int)<T.nodes∧y≠n∧at' done (y:Int)<0∧0≤K.getD y 0∧b≤K.getD y 0∧(at' out (y:Int)<0∨K.getD y 0<at' out (y:Int))
 j8:∀y:Nat,(y:Int)<T.nodes→0≤at' done (y:Int)→0≤at' out (y:Int)∧at' out (y:Int)≤b
 eH:∀y,H y→∃a,a<2*T.aa.length∧aE T a=(y:Int)∧uF T D n out a (K.getD y 0)
 eU:∀x:Nat,(x:Int)<T.nodes→0≤at' out (x:Int)→x=n∨∃a,a<2*T.aa.length∧aE T a=(x:Int)∧uF T D n out a (at' out (x:Int))
 sF:∀a,a<2*T.aa.length→¬S a→ny T D n a→0≤at' out (aA T a)→aE T a≠(n:Int)→
  (0≤at' out (aE T a)∧at' out (aE T a)≤at' out (aA T a)+bg T a)∨(H (aE T a).toNat∧K.getD (aE T a).toNat 0≤at' out (aA T a)+bg T a)
 ub:∀x:Nat,(x:Int)<T.nodes→at' out (x:Int)≤4194240+65535*(dF done:Int)
 pd:∀y,H y→K.getD y 0≤4194240+65535*(dF done+1:Int)
theorem qE{T₀ T:au}{D₀ D:List Bool}{n N:Nat}{S:Nat→Prop}(h2:tT T₀ D₀ T D n S)(hT:Sound T)(hN:(N:Int)=T.nodes)(hn:n<N){out out1:List Int}(hd:cC T₀ D₀ n false out)(hub:∀x:Nat,(x:Int)<T.nodes→at' out (x:Int)≤4194240){lost:Nat→Prop}{done:List Int}{b:Int}
  (hl:mE T D n out lost (fun _=>False) done b (fun _=>False)) (hc:Cut lost out out1) {K:List Int} {H:Nat→Prop} (hH:∀y,¬H y):
  lU T D n out1 K H (List.replicate N (-1)) 0 (fun a=>lost (aE T a).toNat∨∃c,S c∧c<2*T.aa.length∧aE T c=aE T a):=by
 have hlen:(out.length:Int)=T.nodes:=by rw[hd.len,h2.nodes]
 have hc2:=hc.2
 have hnl:¬lost n:=fun h=>(hl.gone n h).2 rfl
 have val:∀x:Nat,(x:Int)<T.nodes→0≤at' out1 (x:Int)→¬lost x∧at' out1 (x:Int)=at' out (x:Int):=fun x hx h0=>by
  by_cases e:lost x
  ·have:=(hc2 x (by omega)).1 e;omega
  ·exact⟨e,(hc2 x (by omega)).2 e⟩
 refine⟨by rw[hc.1];exact hlen,by simpa using hN,?_,fun x hx=>?_,fun y hy=>(hH y hy).elim,fun y hy h0=>by rw[fG]at h0;omega,fun y hy=>(hH y hy).elim,fun x hx h0=>?_,fun a ha hs hu h0 hne=>?_,fun x hx=>?_,fun y hy=>(hH y hy).elim⟩
 ·rw[(hc2 n (by omega)).2 hnl];exact hd.root
 ·by_cases e:lost x
  ·rw[(hc2 x (by omega)).1 e];omega
  ·rw[(hc2 x (by omega)).2 e];exact hd.ge x (by rw[h2.nodes];exact hx)
 ·by_cases hxn:x=n
  ·exact .inl hxn
  ·obtain⟨hxl,hxe⟩:=val x hx h0
   rw[hxe]at h0 ⊢
   rcases hl.sup x hx hxn h0 hxl with h1|⟨a,ha,hax,⟨k1,k2,k3⟩,k4⟩
   ·exact h1.elim
   ·right
    obtain⟨y,hy⟩:=Int.eq_ofNat_of_zero_le (hT.head a ha).1
    have hyN:=(hT.head a ha).2
    have k5:=k4.resolve_right id
    rw[hy,Int.toNat_natCast]at k5
    have hye:at' out1 (aA T a)=at' out (aA T a):=by rw[hy];exact(hc2 y (by omega)).2 k5
    exact⟨a,ha,hax,k1,by rw[hye];exact k2,by rw[hye];exact k3⟩
 ·left
  obtain⟨x,hx⟩:=Int.eq_ofNat_of_zero_le (hT.tail a ha).1
  obtain⟨y,hy⟩:=Int.eq_ofNat_of_zero_le (hT.head a ha).1
  have hxN:=(hT.tail a ha).2
  have hyN:=(hT.head a ha).2
  have hxl:¬lost x:=fun e=>hs (.inl (by rw[hx,Int.toNat_natCast];exact e))
  have hsa:¬S a:=fun e=>hs (.inr ⟨a,e,ha,rfl⟩)
  rw[hy]at h0 hyN
  rw[hx]at hxN
  obtain⟨hyl,hye⟩:=val y hyN h0
  obtain⟨k1,k2⟩:=h2.same a ha hsa
  have hu0:=k1.2 hu
  have hcl:=hd.closed a (by rw[h2.aa];exact ha) ⟨hu0.1,by show 0≤at' out (aA T₀ a);rw[h2.head a ha,hy];omega,hu0.2⟩
  have e1:cS T₀ false a=(x:Int):=by show aE T₀ a=_;rw[h2.tail a ha,hx]
  have e2:bH T₀ false a=(y:Int):=by show aA T₀ a=_;rw[h2.head a ha,hy]
  rw[e1,e2,k2]at hcl
  rw[hx,hy,(hc2 x (by omega)).2 hxl,hye]
  exact hcl
 ·rw[mg]
  by_cases e:lost x
  ·rw[(hc2 x (by omega)).1 e];omega
  ·rw[(hc2 x (by omega)).2 e];have:=hub x hx;omega
theorem fi{T:au}{D:List Bool}{n:Nat}{out K:List Int}{H:Nat→Prop}{done:List Int}{b:Int}{S S':Nat→Prop}(h:lU T D n out K H done b S)(hS:∀c,c<2*T.aa.length→S c→S' c):lU T D n out K H done b S':=
 {h with sF:=fun a ha hs=>h.sF a ha (fun e=>hs (hS a ha e))}
inductive kU (n:Nat) (out K:List Int) (H:Nat→Prop) (m:Nat) (v:Int):List Int→(Nat→Prop)→Prop
 |none (h:m=n∨v<0∨(0≤at' out (m:Int)∧at' out (m:Int)≤v)):kU n out K H m v K H
 |uz (h:H m) (hk:K.getD m 0≤v):kU n out K H m v K H
 |new {H':Nat→Prop} (h1:m≠n) (h2:0≤v) (h3:at' out (m:Int)<0∨v<at' out (m:Int)) (h4:H m→v<K.getD m 0) (hm:m<K.length) (hH:∀j,H' j↔H j∨j=m):kU n out K H m v (K.set m v) H'
theorem la{T:au}{D:List Bool}{n:Nat}{out K K':List Int}{H H':Nat→Prop}{done:List Int}{b:Int}{S S':Nat→Prop}(hT:Sound T)(h:lU T D n out K H done b S){m:Nat}{v:Int}(hmN:(m:Int)<T.nodes)(ho:kU n out K H m v K' H')
  (hS:∀c,c<2*T.aa.length→S c→S' c∨(aE T c=(m:Int)∧(ny T D n c→0≤at' out (aA T c)→0≤v∧v≤at' out (aA T c)+bg T c)))
  (hv:0≤v→b≤v∧v≤4194240+65535*(dF done+1:Int)∧∃a,a<2*T.aa.length∧aE T a=(m:Int)∧uF T D n out a v):lU T D n out K' H' done b S':=by
 cases ho with
 |none ho=>
  refine {h with sF:=fun a ha hs hu h0 hne=>?_}
  by_cases e:S a
  ·rcases hS a ha e with h1|⟨h1,h2⟩
   ·exact absurd h1 hs
   ·obtain⟨h3,h4⟩:=h2 hu h0
    rw[h1]at hne ⊢
    rcases ho with ho|ho|ho
    ·subst ho;exact absurd rfl hne
    ·omega
    ·exact .inl ⟨ho.1,by omega⟩
  ·exact h.sF a ha e hu h0 hne
 |uz hh hk=>
  refine {h with sF:=fun a ha hs hu h0 hne=>?_}
  by_cases e:S a
  ·rcases hS a ha e with h1|⟨h1,h2⟩
   ·exact absurd h1 hs
   ·obtain⟨h3,h4⟩:=h2 hu h0
    rw[h1,Int.toNat_natCast]
    exact .inr ⟨hh,by omega⟩
  ·exact h.sF a ha e hu h0 hne
 |new h1 h2 h3 h4 hm hH=>
  obtain⟨hv1,hv2,hv3⟩:=hv h2
  have hK:∀j,(K.set m v).getD j 0=if j=m then v else K.getD j 0:=fun j=>l8 _ _ _ _ hm
  refine⟨h.len,h.gF,h.root,h.ge,fun y hy=>?_,h.j8,fun y hy=>?_,h.eU,fun a ha hs hu h0 hne=>?_,h.ub,fun y hy=>?_⟩
  ·rw[hK y]
   by_cases e:y=m
   ·subst e
    rw[if_pos rfl]
    refine⟨hmN,h1,?_,h2,hv1,h3⟩
    exact Classical.byContradiction fun k=>by have:=h.j8 y hmN (by omega);omega
   ·rw[if_neg e]
    exact h.held y (((hH y).1 hy).resolve_right e)
  ·rw[hK y]
   by_cases e:y=m
   ·subst e;rw[if_pos rfl];exact hv3
   ·rw[if_neg e]
    exact h.eH y (((hH y).1 hy).resolve_right e)
  ·by_cases e:S a
   ·rcases hS a ha e with k1|⟨k1,k2⟩
    ·exact absurd k1 hs
    ·right
     rw[k1,Int.toNat_natCast,hK m,if_pos rfl]
     exact⟨(hH m).2 (.inr rfl),(k2 hu h0).2⟩
   ·rcases h.sF a ha e hu h0 hne with k|⟨k1,k2⟩
    ·exact .inl k
    ·right
     refine⟨(hH _).2 (.inl k1),?_⟩
     rw[hK]
     split
     ·rename_i e'
      rw[e']at k1 k2
      have:=h4 k1
      omega
     ·exact k2
  ·rw[hK y]
   split
   ·exact hv2
   ·rename_i e
    exact h.pd y (((hH y).1 hy).resolve_right e)
theorem sZ{T:au}{D:List Bool}{n:Nat}{out K:List Int}{H H':Nat→Prop}{done:List Int}{b:Int}(hT:Sound T)(h:lU T D n out K H done b (fun _=>False)){i:Nat}(hi:H i)(hmin:∀j,H j→K.getD i 0≤K.getD j 0)(hKl:i<K.length)(hH':∀j,H' j↔H j∧j≠i):
  lU T D n (out.set i (K.getD i 0)) (K.set i 0) H' (done.set i 0) (K.getD i 0) (fun a=>aA T a=(i:Int))∧dF (done.set i 0)=dF done+1∧at' (out.set i (K.getD i 0)) (i:Int)=K.getD i 0∧0≤K.getD i 0∧K.getD i 0≤4194240+65535*(dF done+1:Int)∧dF done<done.length:=by
 obtain⟨hiN,hin,hid,hi0,hib,hio⟩:=h.held i hi
 have hil:i<out.length:=by have:=h.len;omega
 have hidl:i<done.length:=by have:=h.gF;omega
 have hat:=fun x:Nat=>gD out i x (K.getD i 0) hil
 have had:=fun x:Nat=>gD done i x 0 hidl
 have hK:∀j,j≠i→(K.set i 0).getD j 0=K.getD j 0:=fun j hj=>by rw[l8 _ _ _ _ hKl,if_neg hj]
 have hcnt:dF (done.set i 0)=dF done+1:=by
  rw[fa done i 0 hidl (by omega),if_neg]
  have:done.getD i (-1)=at' done (i:Int):=by simp[at']
  rw[this];omega
 have less:∀x:Nat,0≤at' out (x:Int)→0≤at' (out.set i (K.getD i 0)) (x:Int)∧at' (out.set i (K.getD i 0)) (x:Int)≤at' out (x:Int):=fun x hx=>by
  rw[hat x]
  split
  ·rename_i e;subst e;omega
  ·omega
 have sup:∀a v,a<2*T.aa.length→uF T D n out a v→uF T D n (out.set i (K.getD i 0)) a v:=fun a v ha ⟨k1,k2,k3⟩=>by
  obtain⟨y,hy⟩:=Int.eq_ofNat_of_zero_le (hT.head a ha).1
  rw[hy]at k2 k3
  have:=less y k2
  exact⟨k1,by rw[hy];exact this.1,by rw[hy];omega⟩
 refine⟨⟨by simpa using h.len,by simpa using h.gF,?_,fun x hx=>?_,fun y hy=>?_,fun y hy h0=>?_,fun y hy=>?_,fun x hx h0=>?_,fun a ha hs hu h0 hne=>?_,fun x hx=>?_,fun y hy=>?_⟩,hcnt,by rw[hat i,if_pos rfl],hi0,h.pd i hi,?_⟩
 ·rw[hat n,if_neg (Ne.symm hin)];exact h.root
 ·rw[hat x];split
  ·omega
  ·exact h.ge x hx
 ·obtain⟨h1,h2⟩:=(hH' y).1 hy
  obtain⟨k1,k2,k3,k4,k5,k6⟩:=h.held y h1
  rw[hK y h2,had y,if_neg h2,hat y,if_neg h2]
  exact⟨k1,k2,k3,k4,hmin y h1,k6⟩
 ·rw[had y]at h0
  rw[hat y]
  by_cases e:y=i
  ·rw[if_pos e];omega
  ·rw[if_neg e]at h0 ⊢
   have:=h.j8 y hy h0;omega
 ·obtain⟨h1,h2⟩:=(hH' y).1 hy
  rw[hK y h2]
  obtain⟨a,k1,k2,k3⟩:=h.eH y h1
  exact⟨a,k1,k2,sup a _ k1 k3⟩
 ·rw[hat x]at h0 ⊢
  by_cases e:x=i
  ·subst e
   rw[if_pos rfl]
   obtain⟨a,k1,k2,k3⟩:=h.eH x hi
   exact .inr ⟨a,k1,k2,sup a _ k1 k3⟩
  ·rw[if_neg e]at h0 ⊢
   exact(h.eU x hx h0).imp id fun⟨a,k1,k2,k3⟩=>⟨a,k1,k2,sup a _ k1 k3⟩
 ·obtain⟨y,hy⟩:=Int.eq_ofNat_of_zero_le (hT.head a ha).1
  obtain⟨x,hx⟩:=Int.eq_ofNat_of_zero_le (hT.tail a ha).1
  have hyi:y≠i:=fun e=>hs (by rw[hy,e])
  have hye:at' (out.set i (K.getD i 0)) (aA T a)=at' out (aA T a):=by rw[hy,hat y,if_neg hyi]
  rw[hye]at h0 ⊢
  have h1:=h.sF a ha id hu h0 hne
  rw[hx,Int.toNat_natCast]at h1 ⊢
  rw[hat x]
  by_cases e:x=i
  ·subst e
   left
   rw[if_pos rfl]
   refine⟨hi0,?_⟩
   rcases h1 with h1|h1
   ·omega
   ·exact h1.2
  ·rw[if_neg e]
   rcases h1 with h1|⟨h1,h3⟩
   ·exact .inl h1
   ·exact .inr ⟨(hH' x).2 ⟨h1,e⟩,by rw[hK x e];exact h3⟩
 ·rw[hat x,hcnt]
  split
  ·have:=h.pd i hi;omega
  ·have:=h.ub x hx;omega
 ·obtain⟨h1,h2⟩:=(hH' y).1 hy
  rw[hK y h2,hcnt]
  have:=h.pd y h1;omega
 ·have:=dJ (done.set i 0)
  rw[List.length_set]at this
  omega
theorem tn{T:au}{D:List Bool}{n:Nat}{out K:List Int}{H:Nat→Prop}{done:List Int}{b:Int}(hT:Sound T)(h:lU T D n out K H done b (fun _=>False))(hH:∀y,¬H y):cC T D n false out:=by
 have closed:∀a,a<2*T.aa.length→Way T D n false out a→0≤at' out (cS T false a)∧at' out (cS T false a)≤at' out (bH T false a)+bg T a:=fun a ha hw=>by
  by_cases e:aE T a=(n:Int)
  ·have h1:cS T false a=(n:Int):=e
   have:=hT.cost a ha
   have:=hw.2.1
   rw[h1,h.root]
   omega
  ·exact(h.sF a ha id ⟨hw.1,hw.2.2⟩ hw.2.1 e).resolve_right fun k=>hH _ k.1
 refine⟨h.len,h.root,h.ge,closed,fun x hx h0=>(h.eU x hx h0).imp id fun⟨a,ha,hax,k1,k2,k3⟩=>?_⟩
 have hw:Way T D n false out a:=⟨k1.1,k2,k1.2⟩
 refine⟨a,ha,hax,hw,?_⟩
 have:=closed a ha hw
 have e1:cS T false a=(x:Int):=hax
 rw[e1]at this
 have e2:bH T false a=aA T a:=rfl
 rw[e2]at this ⊢
 omega
theorem bz{T:au}(h:aW T=true):Sound T:=by
 have hb:=cr h
 have lk:∀i,i<T.aa.length→(0≤(eD T.aa i).a∧(eD T.aa i).a<T.nodes)∧(0≤(eD T.aa i).b∧(eD T.aa i).b<T.nodes)∧(1≤(eD T.aa i).c0∧(eD T.aa i).c0≤65535)∧(1≤(eD T.aa i).c1∧(eD T.aa i).c1≤65535):=fun i hi=>by
  have:=oh h i hi
  simp only[eh,bL,bG,Bool.and_eq_true,decide_eq_true_eq]at this
  obtain⟨⟨⟨⟨⟨⟨⟨_,h1⟩,h2⟩,h3⟩,h4⟩,_⟩,_⟩,_⟩:=this
  exact⟨h1,h2,h3,h4⟩
 have fl:∀a,a<2*T.aa.length→flip a<2*T.aa.length:=fun a ha=>by unfold flip;split<;>omega
 have tl:∀a,a<2*T.aa.length→0≤aE T a∧aE T a<T.nodes:=fun a ha=>by
  have:=lk (a / 2) (by omega)
  unfold aE;split
  ·exact this.1
  ·exact this.2.1
 refine⟨fun a ha=>?_,tl,fun a ha=>tl _ (fl a ha),⟨hb.1,hb.2.1⟩⟩
 have:=lk (a / 2) (by omega)
 unfold bg;split
 ·exact this.2.2.1
 ·exact this.2.2.2
theorem Inv.ub{T:au}{D:List Bool}{n:Nat}{dir:Bool}{out:List Int}(h:Inv T D n dir out)(x:Nat)(hx:(x:Int)<T.nodes)(hN:T.nodes≤64):at' out (x:Int)≤4194240:=by
 have h1:=h.u9 x hx
 have h2:=dJ out
 have h3:=h.len
 omega
def fw.cost(l:fw)(k:Nat)(c:Int):fw:=if k=0 then {l with c0:=c} else {l with c1:=c}
def bX(T:au)(a:Nat)(c:Int):au:= {T with aa:=T.aa.set (a / 2) ((eD T.aa (a / 2)).cost (a % 2) c)}
def bt(T:au)(n:Nat)(b:Bool):au:= {T with over:=T.over.set n b}
theorem py(L:List fw)(i j:Nat)(l:fw)(hi:i<L.length):eD (L.set i l) j=if j=i then l else eD L j:=by
 unfold eD
 by_cases h:j=i
 ·subst h;simp[List.getD_eq_getElem?_getD,hi]
 ·simp[List.getD_eq_getElem?_getD,List.getElem?_set,Ne.symm h,h]
theorem rF(l:fw)(k:Nat)(c:Int):(l.cost k c).a=l.a∧(l.cost k c).b=l.b:=by unfold fw.cost;split<;>exact⟨rfl,rfl⟩
theorem gU(T:au)(a b:Nat)(c:Int)(ha:a<2*T.aa.length):aE (bX T a c) b=aE T b:=by
 unfold aE bX
 simp only[py T.aa (a / 2) (b / 2) _ (by omega)]
 by_cases h:b / 2=a / 2
 ·rw[if_pos h,(rF _ _ _).1,(rF _ _ _).2,h]
 ·rw[if_neg h]
theorem gR(T:au)(a b:Nat)(c:Int)(ha:a<2*T.aa.length):aA (bX T a c) b=aA T b:=gU T a (flip b) c ha
theorem mc(T:au)(a b:Nat)(c:Int)(ha:a<2*T.aa.length)(h:b≠a):bg (bX T a c) b=bg T b:=by
 unfold bg bX
 simp only[py T.aa (a / 2) (b / 2) _ (by omega)]
 by_cases h2:b / 2=a / 2
 ·rw[if_pos h2,h2]
  unfold fw.cost
  rcases Nat.mod_two_eq_zero_or_one a with e|e<;>rcases Nat.mod_two_eq_zero_or_one b with e'|e'<;>simp[e,e']<;>omega
 ·rw[if_neg h2]
theorem kF{T:au}(h:aW T=true)(a:Nat)(c:Int)(ha:a<2*T.aa.length)(hc:1≤c∧c≤65535):aW (bX T a c)=true:=by
 unfold aW at h ⊢
 simp only[Bool.and_eq_true]at h ⊢
 obtain⟨⟨⟨h1,h2⟩,h3⟩,h4⟩:=h
 refine⟨⟨⟨h1,by simpa[bX]using h2⟩,h3⟩,?_⟩
 rw[List.all_eq_true]at h4 ⊢
 intro l hl
 have hl':eh (bX T a c) l=eh T l:=rfl
 rw[hl']
 rcases List.mem_or_eq_of_mem_set hl with h5|h5
 ·exact h4 l h5
 ·subst h5
  have h6:=h4 (eD T.aa (a / 2)) (by simp[eD,show a / 2<T.aa.length by omega])
  have hw:bG c 1 65535=true:=decide_eq_true hc
  unfold eh at h6 ⊢
  simp only[Bool.and_eq_true]at h6 ⊢
  obtain⟨⟨⟨⟨⟨⟨⟨k1,k2⟩,k3⟩,k4⟩,k5⟩,k6⟩,k7⟩,k8⟩:=h6
  unfold fw.cost
  split
  ·exact⟨⟨⟨⟨⟨⟨⟨k1,k2⟩,k3⟩,hw⟩,k5⟩,k6⟩,k7⟩,k8⟩
  ·exact⟨⟨⟨⟨⟨⟨⟨k1,k2⟩,k3⟩,k4⟩,hw⟩,k6⟩,k7⟩,k8⟩
theorem kE{T:au}(h:aW T=true)(n:Nat)(b:Bool):aW (bt T n b)=true:=by
 unfold aW at h ⊢
 simp only[Bool.and_eq_true]at h ⊢
 obtain⟨⟨⟨h1,h2⟩,h3⟩,h4⟩:=h
 exact⟨⟨⟨h1,h2⟩,by simpa[bt]using h3⟩,h4⟩
theorem nR{T:au}{D:List Bool}{d a:Nat}{c:Int}(ha:a<2*T.aa.length):tT T D (bX T a c) D d (fun x=>x=a) where
 nodes:=rfl
 aa:=by simp[bX]
 tail b _:=(gU T a b c ha).symm
 head b _:=(gR T a b c ha).symm
 same b hb h:=by
  refine⟨?_,(mc T a b c ha h).symm⟩
  unfold ny
  rw[gR T a b c ha]
  rfl
theorem mQ{T:au}{D:List Bool}{d a:Nat}{b:Bool}:tT T D T (D.set a b) d (fun x=>x=a) where
 nodes:=rfl
 aa:=rfl
 tail _ _:=rfl
 head _ _:=rfl
 same x hx h:=by
  refine⟨?_,rfl⟩
  unfold ny db
  rw[List.getD_eq_getElem?_getD,List.getD_eq_getElem?_getD,List.getElem?_set,if_neg (Ne.symm h)]
theorem np{T:au}{D:List Bool}{d n:Nat}{b:Bool}(hS:Sound T):tT T D (bt T n b) D d (fun x=>aA T x=(n:Int)) where
 nodes:=rfl
 aa:=rfl
 tail _ _:=rfl
 head _ _:=rfl
 same x hx h:=by
  refine⟨?_,rfl⟩
  have hx':x<2*T.aa.length:=hx
  have h0:=(hS.head x hx').1
  have hne:n≠(aA T x).toNat:=fun e=>h (by omega)
  have e1:aA (bt T n b) x=aA T x:=rfl
  have e2:cU (bt T n b) (aA T x).toNat=cU T (aA T x).toNat:=by
   unfold cU bt
   rw[List.getD_eq_getElem?_getD,List.getD_eq_getElem?_getD,List.getElem?_set,if_neg hne]
  unfold ny
  rw[e1,e2]
theorem kn{T:au}{a:Int}:kC T a=true↔0≤a∧a<2*(T.aa.length:Int):=by simp[kC]
def gO(T:au)(a c:Int):Int:=if kC T a then(if c<1∨65535<c then 1 else 0) else 2
def eG(T:au)(a c:Int):au:=if gO T a c=0 then bX T a.toNat c else T
def mJ(T:au)(a:Int):Int:=if kC T a then 0 else 2
def er(T:au)(D:List Bool)(a:Int)(b:Bool):List Bool:=if kC T a then D.set a.toNat b else D
def mZ(T:au)(n:Int):Int:=if bL T n then 0 else 2
def ek(T:au)(n:Int)(b:Bool):au:=if bL T n then bt T n.toNat b else T
end
end Net
end Go.Proofs.YteikppbedmmdnaaDoor
namespace Go.Proofs.YteikppbedmmdnaaDoor
namespace PW
section
open Go.RowKit cX Mem
inductive Up (k:Nat):PV→PV→Prop
 |pure {p:PV} [IsPure p]:Up k p p
 |own {i j:Nat}:j=k+i→Up k (.own i) (.own j)
 |ptr {i j o:Nat}:j=k+i→Up k (.ptr i o) (.ptr j o)
 |agg {xs ys:List PV} (hl:ys.length=xs.length) (hs:∀(j:Nat) x y,xs[j]? =some x→ys[j]? =some y→Up k x y):Up k (.agg xs) (.agg ys)
 |tuple {xs ys:List PV} (hl:ys.length=xs.length) (hs:∀(j:Nat) x y,xs[j]? =some x→ys[j]? =some y→Up k x y):Up k (.tuple xs) (.tuple ys)
 |func {f:FuncId} {xs ys:List PV} (hl:ys.length=xs.length) (hs:∀(j:Nat) x y,xs[j]? =some x→ys[j]? =some y→Up k x y):Up k (.func f xs) (.func f ys)
def kr(k:Nat)(xs ys:List PV):Prop:=ys.length=xs.length∧∀(j:Nat) x y,xs[j]? =some x→ys[j]? =some y→Up k x y
theorem kr.nil{k:Nat}:kr k [] []:=⟨rfl,fun j x y h=>by simp at h⟩
theorem kr.cons{k:Nat}{x y:PV}{xs ys:List PV}(h:Up k x y)(hs:kr k xs ys):kr k (x::xs) (y::ys):=⟨by simp[hs.1],fun j a b h1 h2=>by
 cases j with
 |zero=>simp at h1 h2;subst h1;subst h2;exact h
 |succ j=>exact hs.2 j a b (by simpa using h1) (by simpa using h2)⟩
theorem kr.pure{k:Nat}{xs:List PV}[h:av xs]:kr k xs xs:=⟨rfl,fun j x y h1 h2=>by
 rw[h1]at h2;cases h2
 haveI:=h.out j x h1
 exact Up.pure⟩
theorem Up.fv{k:Nat}{xs ys:List PV}(h:kr k xs ys):Up k (.agg xs) (.agg ys):=.agg h.1 h.2
inductive uH (k:Nat):cy→cy→Prop
 |cells {ty:TypeId} {xs ys:List PV}:kr k xs ys→uH k (.cells ty xs) (.cells ty ys)
 |row {e s n:Nat} {xs ys:List PV}:kr k xs ys→uH k (.row e s n xs) (.row e s n ys)
 |mp {kv:List (Value×PV)} [av (kv.map (·.2))]:uH k (.mp kv) (.mp kv)
def gB(k:Nat)(xs ys:List cy):Prop:=ys.length=xs.length∧∀(j:Nat) x y,xs[j]? =some x→ys[j]? =some y→uH k x y
theorem gB.nil{k:Nat}:gB k [] []:=⟨rfl,fun j x y h=>by simp at h⟩
theorem gB.cons{k:Nat}{x y:cy}{xs ys:List cy}(h:uH k x y)(hs:gB k xs ys):gB k (x::xs) (y::ys):=⟨by simp[hs.1],fun j a b h1 h2=>by
 cases j with
 |zero=>simp at h1 h2;subst h1;subst h2;exact h
 |succ j=>exact hs.2 j a b (by simpa using h1) (by simpa using h2)⟩
section
variable {E E1 E2:Env} {w:World} {k:Nat}
theorem Up.rep(hat:∀i,i<E1.L→E2.at_ (k+i)=E1.at_ i∧k+i<E2.L)(hM:∀b,E2.M b→E1.M b){p q:PV}(h:Up k p q):∀v,bK E1 w v p→bK E2 w v q:=by
 induction h with
 | @pure p hp=>
  intro v h
  have:=hp.out E1 E2.M w v hM h
  exact this.goes (E:=EF E2.M) (E':=E2) (w:=w) (w':=w) ⟨Nat.zero_le _,fun i hi=>absurd hi (Nat.not_lt_zero i),fun _ _ h=>h,Nat.le_refl _,fun _ _ _=>rfl⟩
 | @own i j hij=>
  intro v h
  subst hij
  cases h with
  |own _ hi _ h hs=>exact .own _ (hat i hi).2 v ((hat i hi).1.trans h) hs
 | @ptr i j o hij=>
  intro v h
  subst hij
  cases h with
  |ptr _ _ b hi h=>exact .ptr _ o b (hat i hi).2 (by rw[(hat i hi).1];exact h)
 | @agg xs ys hl _ ih=>
  intro v h
  cases h with
  |agg cs _ hl' hr=>exact .agg cs ys (hl'.trans hl.symm) (fun j c u h1 h2=>by
    have hj:j<xs.length:=by rw[←hl];exact(List.getElem?_eq_some_iff.1 h2).1
    exact ih j xs[j] u (by simp[hj]) h2 c (hr j c _ h1 (by simp[hj])))
 | @tuple xs ys hl _ ih=>
  intro v h
  cases h with
  |tuple cs _ hl' hr=>exact .tuple cs ys (hl'.trans hl.symm) (fun j c u h1 h2=>by
    have hj:j<xs.length:=by rw[←hl];exact(List.getElem?_eq_some_iff.1 h2).1
    exact ih j xs[j] u (by simp[hj]) h2 c (hr j c _ h1 (by simp[hj])))
 | @func f xs ys hl _ ih=>
  intro v h
  cases h with
  |func _ cs _ hl' hr=>exact .func f cs ys (hl'.trans hl.symm) (fun j c u h1 h2=>by
    have hj:j<xs.length:=by rw[←hl];exact(List.getElem?_eq_some_iff.1 h2).1
    exact ih j xs[j] u (by simp[hj]) h2 c (hr j c _ h1 (by simp[hj])))
theorem kr.rep(hat:∀i,i<E1.L→E2.at_ (k+i)=E1.at_ i∧k+i<E2.L)(hM:∀b,E2.M b→E1.M b){xs ys:List PV}(h:kr k xs ys){cs:List Value}(hs:aB E1 w cs xs):aB E2 w cs ys:=⟨hs.1.trans h.1.symm,fun j c u h1 h2=>by
 have hj:j<xs.length:=by rw[←h.1];exact(List.getElem?_eq_some_iff.1 h2).1
 exact(h.2 j xs[j] u (by simp[hj]) h2).rep hat hM c (hs.2 j c _ h1 (by simp[hj]))⟩
theorem uH.sat{base base':Nat}(hb:base'≤base)(hat:∀i,i<E1.L→E2.at_ (k+i)=E1.at_ i∧k+i<E2.L)(hM:∀b,E2.M b→E1.M b){v:Value}{x y:cy}(h:uH k x y)(hs:dA base E1 w v x):dA base' E2 w v y:=by
 cases h with
 |cells h1=>
  obtain⟨b,cs,h2,h3,h4,h5⟩:=hs
  exact⟨b,cs,h2,by omega,h4,h1.rep hat hM h5⟩
 |row h1=>
  obtain⟨cs,h2,h3⟩:=hs
  refine⟨cs,⟨h2.1,?_⟩,h1.rep hat hM h3⟩
  rcases h2.2 with h|⟨g,cap,cur,a1,a2,a3⟩
  ·exact .inl h
  ·exact .inr ⟨g,cap,cur,a1,by omega,a3⟩
 | @mp kv hp=>
  obtain⟨r,es,ck,h2,h3,h4,h5,h6⟩:=hs
  exact⟨r,es,ck,h2,by omega,h4,h5,kr.pure (k:=k).rep hat hM h6⟩
end
theorem aG.frame{P:Program}{f:FuncId}{ps:List PV}{σ:ba}{R:PV→ba→Prop}[av ps]
  (h:aG P f ps [] (fun r σ1=>∃bs,σ1=bs.map some∧∃r' bs',Up σ.length r r'∧gB σ.length bs bs'∧R r' (σ++bs'.map some))):aG P f ps σ R:=fun F base E w vs hS hR=>by
 refine(h E.M w.heap.size (EF E.M) w vs (Sat.start E.M w (fun b hb=>hS.lt hb) hS.gl) (hR.pure (fun _ h=>h))).mono ?_
 rintro e w' ⟨v,r,σ1,E1,rfl,⟨bs,rfl,r',bs',hu,hbu,hRr⟩,hS1,hg1,hB1,hv⟩
 have hE:Ext w w':=hB1
 have hL1:E1.L=bs.length:=by rw[hS1.len];simp
 have hlen:((List.range bs.length).map E1.at_).length=bs'.length:=by rw[List.length_map,List.length_range,hbu.1]
 have hget:∀(i:Nat) v,((List.range bs.length).map E1.at_)[i]? =some v→i<bs.length∧v=E1.at_ i:=fun i v hi=>by
  have hi':i<bs.length:=by have:=(List.getElem?_eq_some_iff.1 hi).1;simpa using this
  rw[List.getElem?_map,List.getElem?_range hi']at hi
  cases hi
  exact⟨hi',rfl⟩
 have hbk:∀i,i<bs.length→∃x,bs[i]? =some x∧(bs.map some)[i]? =some (some x):=fun i hi=>⟨bs[i],by simp[hi],by simp[hi]⟩
 have hat:∀i,i<E1.L→(E.cl ((List.range bs.length).map E1.at_)).at_ (σ.length+i)=E1.at_ i∧σ.length+i<(E.cl ((List.range bs.length).map E1.at_)).L:=fun i hi=>by
  rw[hL1]at hi
  refine⟨?_,?_⟩
  ·simp only[Env.cl,hS.len]
   rw[if_neg (by omega),Nat.add_sub_cancel_left,List.getD_eq_getElem?_getD,List.getElem?_map,List.getElem?_range hi]
   rfl
  ·simp only[Env.cl,hS.len,List.length_map,List.length_range];omega
 have hM:∀b,(E.cl ((List.range bs.length).map E1.at_)).M b→E1.M b:=fun b hb=>by
  rcases hb with hb|⟨v,hv1,hv2⟩
  ·exact(hS1.mm b).2 (.inl hb)
  ·obtain⟨i,hi⟩:=List.getElem?_of_mem hv1
   obtain⟨hi1,rfl⟩:=hget i v hi
   obtain⟨x,_,hx⟩:=hbk i hi1
   exact(hS1.mm b).2 (.inr ⟨i,x,hx,hv2⟩)
 have hp:=hS.cl hE ((List.range bs.length).map E1.at_) bs' hlen
  (fun v hv1 b hb=>by
   obtain⟨i,hi⟩:=List.getElem?_of_mem hv1
   obtain⟨hi1,rfl⟩:=hget i v hi
   obtain⟨x,_,hx⟩:=hbk i hi1
   exact((hS1.blk i x hx).lt hb).1)
  (fun i j u v b hi hj hu hv=>by
   obtain⟨hi1,rfl⟩:=hget i u hi
   obtain⟨hj1,rfl⟩:=hget j v hj
   obtain⟨x,_,hx⟩:=hbk i hi1
   obtain⟨y,_,hy⟩:=hbk j hj1
   exact hS1.inj i j x y b hx hy hu hv)
  (fun i v blk hi hb=>by
   obtain⟨hi1,rfl⟩:=hget i v hi
   obtain⟨x,hx0,hx⟩:=hbk i hi1
   exact(hbu.2 i x blk hx0 hb).sat hS.bl hat hM (hS1.blk i x hx))
 exact⟨v,r',_,_,rfl,hRr,hp.1,hp.2,Below.eX hE hS.bl,hu.rep hat hM v hv⟩
def un:List Nat→ba→Nat→Bool
 |j::fs,some _::σ,i=> !(Nat.beq j i)&&un fs σ i
 |_::fs,none::σ,i=>un fs σ i
 |_,_,_=>true
theorem rO:∀ {fs:List Nat} {σ:ba} {k i:Nat} {b:cy},fs[k]? =some i→σ[k]? =some (some b)→un fs σ i=false
 | [],_,k,i,b,h,_=>by simp at h
 |_::_,[],k,i,b,_,h=>by simp at h
 |j::fs,some c::σ,0,i,b,h1,h2=>by
  simp at h1
  subst h1
  simp[un,Nat.beq_refl]
 |j::fs,none::σ,0,i,b,h1,h2=>by simp at h2
 |j::fs,some c::σ,k+1,i,b,h1,h2=>by
  have:=rO (fs:=fs) (σ:=σ) (k:=k) (i:=i) (b:=b) (by simpa using h1) (by simpa using h2)
  simp[un,this]
 |j::fs,none::σ,k+1,i,b,h1,h2=>rO (fs:=fs) (σ:=σ) (k:=k) (i:=i) (b:=b) (by simpa using h1) (by simpa using h2)
inductive Vw (σ:ba) (fs:List Nat) (u:Nat→Bool):PV→PV→Prop
 |pure {p:PV} [IsPure p]:Vw σ fs u p p
 |cd:Vw σ fs u (.raw (.slice none 0 0)) (.slice 0 [])
 |own {i k:Nat}:fs[k]? =some i→Vw σ fs u (.own i) (.own k)
 |ptr {i k o:Nat}:fs[k]? =some i→Vw σ fs u (.ptr i o) (.ptr k o)
 |u3 {i e s n:Nat} {xs ys:List PV} (h:σ[i]? =some (some (.row e s n xs))) (hi:u i=true) (hl:xs.length=ys.length) (hs:∀(j:Nat) x y,xs[j]? =some x→ys[j]? =some y→Vw σ fs u x y):Vw σ fs u (.own i) (.slice n ys)
 |uQ {i k:Nat} {blk:cy} {ys:List PV} (h:σ[i]? =some (some blk)) (hi:u i=true) (hl:blk.xs.length=ys.length) (hs:∀(j:Nat) x y,blk.xs[j]? =some x→ys[j]? =some y→Vw σ fs u x y):Vw σ fs u (.ptr i k) (.bY ys k)
 |agg {xs ys:List PV} (hl:xs.length=ys.length) (hs:∀(j:Nat) x y,xs[j]? =some x→ys[j]? =some y→Vw σ fs u x y):Vw σ fs u (.agg xs) (.agg ys)
 |tuple {xs ys:List PV} (hl:xs.length=ys.length) (hs:∀(j:Nat) x y,xs[j]? =some x→ys[j]? =some y→Vw σ fs u x y):Vw σ fs u (.tuple xs) (.tuple ys)
 |func {f:FuncId} {xs ys:List PV} (hl:xs.length=ys.length) (hs:∀(j:Nat) x y,xs[j]? =some x→ys[j]? =some y→Vw σ fs u x y):Vw σ fs u (.func f xs) (.func f ys)
def cR(σ:ba)(fs:List Nat)(u:Nat→Bool)(xs ys:List PV):Prop:=xs.length=ys.length∧∀(j:Nat) x y,xs[j]? =some x→ys[j]? =some y→Vw σ fs u x y
section
variable {σ:ba} {fs:List Nat} {u:Nat→Bool}
theorem cR.nil:cR σ fs u [] []:=⟨rfl,fun j x y h=>by simp at h⟩
theorem cR.cons{x y:PV}{xs ys:List PV}(h:Vw σ fs u x y)(hs:cR σ fs u xs ys):cR σ fs u (x::xs) (y::ys):=⟨by simp[hs.1],fun j a b h1 h2=>by
 cases j with
 |zero=>simp at h1 h2;subst h1;subst h2;exact h
 |succ j=>exact hs.2 j a b (by simpa using h1) (by simpa using h2)⟩
theorem cR.pure{xs:List PV}[h:av xs]:cR σ fs u xs xs:=⟨rfl,fun j x y h1 h2=>by
 rw[h1]at h2;cases h2
 haveI:=h.out j x h1
 exact Vw.pure⟩
theorem Vw.fv{xs ys:List PV}(h:cR σ fs u xs ys):Vw σ fs u (.agg xs) (.agg ys):=.agg h.1 h.2
theorem Vw.pc{i e s n:Nat}{xs ys:List PV}(h:σ[i]? =some (some (.row e s n xs)))(hi:u i=true)(hs:cR σ fs u xs ys):Vw σ fs u (.own i) (.slice n ys):=.u3 h hi hs.1 hs.2
theorem Vw.uP{i k:Nat}{blk:cy}{ys:List PV}(h:σ[i]? =some (some blk))(hi:u i=true)(hs:cR σ fs u blk.xs ys):Vw σ fs u (.ptr i k) (.bY ys k):=.uQ h hi hs.1 hs.2
theorem Vw.rep{F:Nat→Prop}{base:Nat}{E:Env}{w:World}(hS:Sat F base σ E w){M:Nat→Prop}(hM:∀b,M b→E.M b)(hf:∀i blk b,σ[i]? =some (some blk)→u i=true→az (E.at_ i)=some b→¬M b){p q:PV}(hp:Vw σ fs u p q):∀v,bK E w v p→bK (E.gN fs M) w v q:=by
 induction hp with
 |pure=>
  intro v h
  have:=IsPure.out E M w v hM h
  exact this.goes (E:=EF M) (E':=E.gN fs M) (w:=w) (w':=w) ⟨Nat.zero_le _,fun i hi=>absurd hi (Nat.not_lt_zero i),fun _ _ h=>h,Nat.le_refl _,fun _ _ _=>rfl⟩
 |cd=>intro v h;cases h;exact .cd
 | @own i k hik=>
  intro v h
  cases h with
  |own _ hi _ h hs=>exact .own k (List.getElem?_eq_some_iff.1 hik).1 v (by simp[Env.gN,List.getD_eq_getElem?_getD,hik,h]) hs
 | @ptr i k o hik=>
  intro v h
  cases h with
  |ptr _ _ b hi h=>exact .ptr k o b (List.getElem?_eq_some_iff.1 hik).1 (by simpa[Env.gN,List.getD_eq_getElem?_getD,hik]using h)
 | @u3 i e s n xs ys hs hi' hl _ ih=>
  intro v h
  cases h with
  |own _ hi _ h _=>
   obtain⟨cs,k1,k2⟩:=hS.blk i _ hs
   have k3:aB (E.gN fs M) w cs ys:=⟨k2.1.trans hl,fun j c u h1 h2=>by
    have hj:j<xs.length:=by rw[hl];exact(List.getElem?_eq_some_iff.1 h2).1
    exact ih j xs[j] u (by simp[hj]) h2 c (k2.2 j c _ h1 (by simp[hj]))⟩
   have k4:=k1
   rcases k1.2 with⟨hv',h0⟩|⟨g,cap,cur,hv',hb,hg,hn,hc,hs',ht⟩
   ·rw[hv']at h;subst h;subst h0
    have:ys=[]:=by
     have:=k4.1;simp at this;subst this
     exact List.eq_nil_of_length_eq_zero k3.1.symm
    subst this
    exact .cd
   ·rw[hv']at h;subst h
    by_cases h0:n=0
    ·subst h0
     have:ys=[]:=by
      have:=k4.1;simp at this;subst this
      exact List.eq_nil_of_length_eq_zero k3.1.symm
     subst this
     exact .empty _ _ hc
    ·refine .slice g 0 n cap cs ys (by omega) hn hc (Array.getElem?_eq_some_iff.1 hg).1 (hf i _ g hs hi' (by rw[hv'];rfl)) (fun j x hx=>?_) k3.1 k3.2
     have:=k4.cells (g:=g) (by rw[hv'];rfl) j x hx
     rw[Addr.add_lit]at this
     exact this
 | @uQ i k blk ys hs hi' hl _ ih=>
  intro v h
  cases h with
  |ptr _ _ b hi h=>
   obtain⟨cs,k2,k3⟩:=hS.cells hs h
   have k4:aB (E.gN fs M) w cs ys:=⟨k2.1.trans hl,fun j c u h1 h2=>by
    have hj:j<blk.xs.length:=by rw[hl];exact(List.getElem?_eq_some_iff.1 h2).1
    exact ih j blk.xs[j] u (by simp[hj]) h2 c (k2.2 j c _ h1 (by simp[hj]))⟩
   have hbk:az (E.at_ i)=some b:=by
    rcases h with h|⟨n,c,h⟩<;>rw[h]<;>rfl
   have:=bK.bY (E:=E.gN fs M) (w:=w) b 0 k cs ys ((hS.blk i blk hs).lt hbk).2 (hf i _ b hs hi' hbk) (fun j x hx=>by rw[Nat.zero_add];exact k3 j x hx) k4.1 k4.2
   rw[Nat.zero_add]at this
   exact this
 | @agg xs ys hl _ ih=>
  intro v h
  cases h with
  |agg cs _ hl' hr=>exact .agg cs ys (hl'.trans hl) (fun j c u h1 h2=>by
    have hj:j<xs.length:=by rw[hl];exact(List.getElem?_eq_some_iff.1 h2).1
    exact ih j xs[j] u (by simp[hj]) h2 c (hr j c _ h1 (by simp[hj])))
 | @tuple xs ys hl _ ih=>
  intro v h
  cases h with
  |tuple cs _ hl' hr=>exact .tuple cs ys (hl'.trans hl) (fun j c u h1 h2=>by
    have hj:j<xs.length:=by rw[hl];exact(List.getElem?_eq_some_iff.1 h2).1
    exact ih j xs[j] u (by simp[hj]) h2 c (hr j c _ h1 (by simp[hj])))
 | @func f xs ys hl _ ih=>
  intro v h
  cases h with
  |func _ cs _ hl' hr=>exact .func f cs ys (hl'.trans hl) (fun j c u h1 h2=>by
    have hj:j<xs.length:=by rw[hl];exact(List.getElem?_eq_some_iff.1 h2).1
    exact ih j xs[j] u (by simp[hj]) h2 c (hr j c _ h1 (by simp[hj])))
theorem cR.rep{F:Nat→Prop}{base:Nat}{E:Env}{w:World}(hS:Sat F base σ E w){M:Nat→Prop}(hM:∀b,M b→E.M b)(hf:∀i blk b,σ[i]? =some (some blk)→u i=true→az (E.at_ i)=some b→¬M b){xs ys:List PV}(h:cR σ fs u xs ys){cs:List Value}(hs:aB E w cs xs):aB (E.gN fs M) w cs ys:=
 ⟨hs.1.trans h.1,fun j c u h1 h2=>by
  have hj:j<xs.length:=by rw[h.1];exact(List.getElem?_eq_some_iff.1 h2).1
  exact(h.2 j xs[j] u (by simp[hj]) h2).rep hS hM hf c (hs.2 j c _ h1 (by simp[hj]))⟩
inductive uT (σ:ba) (fs:List Nat) (u:Nat→Bool):cy→cy→Prop
 |cells {ty:TypeId} {xs ys:List PV}:cR σ fs u xs ys→uT σ fs u (.cells ty xs) (.cells ty ys)
 |row {e s n:Nat} {xs ys:List PV}:cR σ fs u xs ys→uT σ fs u (.row e s n xs) (.row e s n ys)
 |mp {kv:List (Value×PV)} [av (kv.map (·.2))]:uT σ fs u (.mp kv) (.mp kv)
inductive rl (σ:ba) (fs:List Nat) (u:Nat→Bool):ba→List Nat→Prop
 |nil:rl σ fs u [] []
 |gone {σ':ba} {js:List Nat} {j:Nat}:rl σ fs u σ' js→rl σ fs u (none::σ') (j::js)
 |kept {σ':ba} {js:List Nat} {j:Nat} {b b':cy}:σ[j]? =some (some b)→uT σ fs u b b'→rl σ fs u σ' js→rl σ fs u (some b'::σ') (j::js)
theorem rl.get{σ':ba}{js:List Nat}(h:rl σ fs u σ' js):σ'.length=js.length∧∀(i:Nat) b',σ'[i]? =some (some b')→∃j b,js[i]? =some j∧σ[j]? =some (some b)∧uT σ fs u b b':=by
 induction h with
 |nil=>exact⟨rfl,fun i b' h=>by simp at h⟩
 |gone _ ih=>exact⟨by simp[ih.1],fun i b' h=>by
   cases i with
   |zero=>simp at h
   |succ i=>simpa using ih.2 i b' (by simpa using h)⟩
 | @kept σ' js j b b' h1 h2 _ ih=>exact⟨by simp[ih.1],fun i b'' h=>by
   cases i with
   |zero=>simp at h;subst h;exact⟨j,b,rfl,h1,h2⟩
   |succ i=>simpa using ih.2 i b'' (by simpa using h)⟩
theorem Sat.view{F:Nat→Prop}{base:Nat}{E:Env}{w:World}{σ':ba}(hS:Sat F base σ E w)(h:rl σ fs u σ' fs)(hn:dh fs=true)(hu:∀(k i:Nat) b,fs[k]? =some i→σ'[k]? =some (some b)→u i=false):
  ∃M,(∀b,M b→E.M b)∧(∀i blk b,σ[i]? =some (some blk)→u i=true→az (E.at_ i)=some b→¬M b)∧Sat F base σ' (E.gN fs M) w:=by
 obtain⟨hl,hg⟩:=h.get
 have hat:∀i j,fs[i]? =some j→fs.getD i 0=j:=fun i j hij=>by simp[List.getD_eq_getElem?_getD,hij]
 have hM:∀b,(F b∨∃i blk,σ'[i]? =some (some blk)∧az (E.at_ (fs.getD i 0))=some b)→E.M b:=fun b hb=>by
  rcases hb with hb|⟨i,blk,h1,h2⟩
  ·exact(hS.mm b).2 (.inl hb)
  ·obtain⟨j,b',h3,h4,_⟩:=hg i blk h1
   rw[hat i j h3]at h2
   exact(hS.mm b).2 (.inr ⟨j,b',h4,h2⟩)
 have hf:∀i blk b,σ[i]? =some (some blk)→u i=true→az (E.at_ i)=some b→¬(F b∨∃i blk,σ'[i]? =some (some blk)∧az (E.at_ (fs.getD i 0))=some b):=fun i blk b h1 h2 h3 h4=>by
  rcases h4 with h4|⟨k,bk,h5,h6⟩
  ·exact(hS.fb b h4).2 i blk h1 h3
  ·obtain⟨j,b',h7,h8,_⟩:=hg k bk h5
   rw[hat k j h7]at h6
   have:=hS.inj i j blk b' b h1 h8 h3 h6
   subst this
   have:=hu k i bk h7 h5
   rw[this]at h2
   cases h2
 refine⟨fun b=>F b∨∃i blk,σ'[i]? =some (some blk)∧az (E.at_ (fs.getD i 0))=some b,hM,hf,?_⟩
 refine⟨hS.bl,fun b hb=>⟨(hS.fb b hb).1,fun i blk hi=>?_⟩,by simp[Env.gN,hl],fun b=>Iff.rfl,fun i blk hi=>?_,fun i j bi bj b hi hj h1 h2=>?_,hS.gl.sub hM⟩
 ·obtain⟨j,b',h3,h4,_⟩:=hg i blk hi
  simp only[Env.gN,hat i j h3]
  exact(hS.fb b hb).2 j b' h4
 ·obtain⟨j,b',h3,h4,h5⟩:=hg i blk hi
  have hB:=hS.blk j b' h4
  simp only[Env.gN,hat i j h3]
  cases h5 with
  |cells hr=>
   obtain⟨b,cs,k1,k2,k3,k4⟩:=hB
   exact⟨b,cs,k1,k2,k3,hr.rep hS hM hf k4⟩
  |row hr=>
   obtain⟨cs,k1,k2⟩:=hB
   exact⟨cs,k1,hr.rep hS hM hf k2⟩
  |mp=>
   obtain⟨r,es,ck,k1,k2,k3,k4,k5⟩:=hB
   exact⟨r,es,ck,k1,k2,k3,k4,(cR.pure (σ:=σ) (fs:=fs) (u:=u)).rep hS hM hf k5⟩
 ·obtain⟨i',bi',h3,h4,_⟩:=hg i bi hi
  obtain⟨j',bj',h5,h6,_⟩:=hg j bj hj
  simp only[Env.gN,hat i i' h3]at h1
  simp only[Env.gN,hat j j' h5]at h2
  have:=hS.inj i' j' bi' bj' b h4 h6 h1 h2
  subst this
  exact gG hn i j i' h3 h5
inductive Mv (g:Nat→Nat):PV→PV→Prop
 |flat {p:PV} [fP p]:Mv g p p
 |any {p:PV}:Mv g p .any
 |own {i j:Nat}:g i=j→Mv g (.own i) (.own j)
 |ptr {i j o:Nat}:g i=j→Mv g (.ptr i o) (.ptr j o)
 |agg {xs ys:List PV} (hl:ys.length=xs.length) (hs:∀(j:Nat) x y,xs[j]? =some x→ys[j]? =some y→Mv g x y):Mv g (.agg xs) (.agg ys)
 |tuple {xs ys:List PV} (hl:ys.length=xs.length) (hs:∀(j:Nat) x y,xs[j]? =some x→ys[j]? =some y→Mv g x y):Mv g (.tuple xs) (.tuple ys)
 |func {f:FuncId} {xs ys:List PV} (hl:ys.length=xs.length) (hs:∀(j:Nat) x y,xs[j]? =some x→ys[j]? =some y→Mv g x y):Mv g (.func f xs) (.func f ys)
def ed(g:Nat→Nat)(xs ys:List PV):Prop:=ys.length=xs.length∧∀(j:Nat) x y,xs[j]? =some x→ys[j]? =some y→Mv g x y
theorem ed.nil{g:Nat→Nat}:ed g [] []:=⟨rfl,fun j x y h=>by simp at h⟩
theorem ed.cons{g:Nat→Nat}{x y:PV}{xs ys:List PV}(h:Mv g x y)(hs:ed g xs ys):ed g (x::xs) (y::ys):=⟨by simp[hs.1],fun j a b h1 h2=>by
 cases j with
 |zero=>simp at h1 h2;subst h1;subst h2;exact h
 |succ j=>exact hs.2 j a b (by simpa using h1) (by simpa using h2)⟩
theorem ed.flat{g:Nat→Nat}{xs:List PV}[h:dw xs]:ed g xs xs:=⟨rfl,fun j x y h1 h2=>by
 rw[h1]at h2;cases h2
 haveI:=h.out j x h1
 exact Mv.flat⟩
theorem Mv.eo{g:Nat→Nat}{xs ys:List PV}(h:ed g xs ys):Mv g (.tuple xs) (.tuple ys):=.tuple h.1 h.2
theorem Mv.rep{g:Nat→Nat}{E1 E2:Env}{w:World}{p q:PV}(h:Mv g p q)(hat:∀i,i<E1.L→E2.at_ (g i)=E1.at_ i∧g i<E2.L):∀v,bK E1 w v p→bK E2 w v q:=by
 induction h with
 | @flat p hp=>intro v h;exact hp.out _ _ _ _ v h
 |any=>intro v _;exact .any v
 | @own i j hij=>
  intro v h
  subst hij
  cases h with
  |own _ hi _ h hs=>exact .own _ (hat i hi).2 v ((hat i hi).1.trans h) hs
 | @ptr i j o hij=>
  intro v h
  subst hij
  cases h with
  |ptr _ _ b hi h=>exact .ptr _ o b (hat i hi).2 (by rw[(hat i hi).1];exact h)
 | @agg xs ys hl _ ih=>
  intro v h
  cases h with
  |agg cs _ hl' hr=>exact .agg cs ys (hl'.trans hl.symm) (fun j c u h1 h2=>by
    have hj:j<xs.length:=by rw[←hl];exact(List.getElem?_eq_some_iff.1 h2).1
    exact ih j xs[j] u (by simp[hj]) h2 c (hr j c _ h1 (by simp[hj])))
 | @tuple xs ys hl _ ih=>
  intro v h
  cases h with
  |tuple cs _ hl' hr=>exact .tuple cs ys (hl'.trans hl.symm) (fun j c u h1 h2=>by
    have hj:j<xs.length:=by rw[←hl];exact(List.getElem?_eq_some_iff.1 h2).1
    exact ih j xs[j] u (by simp[hj]) h2 c (hr j c _ h1 (by simp[hj])))
 | @func f xs ys hl _ ih=>
  intro v h
  cases h with
  |func _ cs _ hl' hr=>exact .func f cs ys (hl'.trans hl.symm) (fun j c u h1 h2=>by
    have hj:j<xs.length:=by rw[←hl];exact(List.getElem?_eq_some_iff.1 h2).1
    exact ih j xs[j] u (by simp[hj]) h2 c (hr j c _ h1 (by simp[hj])))
theorem ed.rep{g:Nat→Nat}{E1 E2:Env}{w:World}{xs ys:List PV}(h:ed g xs ys)(hat:∀i,i<E1.L→E2.at_ (g i)=E1.at_ i∧g i<E2.L){cs:List Value}(hs:aB E1 w cs xs):aB E2 w cs ys:=⟨hs.1.trans h.1.symm,fun j c u h1 h2=>by
 have hj:j<xs.length:=by rw[←h.1];exact(List.getElem?_eq_some_iff.1 h2).1
 exact(h.2 j xs[j] u (by simp[hj]) h2).rep hat c (hs.2 j c _ h1 (by simp[hj]))⟩
inductive uC (g:Nat→Nat):cy→cy→Prop
 |cells {ty:TypeId} {xs ys:List PV}:ed g xs ys→uC g (.cells ty xs) (.cells ty ys)
 |row {e s n:Nat} {xs ys:List PV}:ed g xs ys→uC g (.row e s n xs) (.row e s n ys)
 |mp {kv:List (Value×PV)} [dw (kv.map (·.2))]:uC g (.mp kv) (.mp kv)
theorem uC.sat{g:Nat→Nat}{base:Nat}{E1 E2:Env}{w:World}{v:Value}{x y:cy}(h:uC g x y)(hat:∀i,i<E1.L→E2.at_ (g i)=E1.at_ i∧g i<E2.L)(hs:dA base E1 w v x):dA base E2 w v y:=by
 cases h with
 |cells h1=>
  obtain⟨b,cs,h2,h3,h4,h5⟩:=hs
  exact⟨b,cs,h2,h3,h4,h1.rep hat h5⟩
 |row h1=>
  obtain⟨cs,h2,h3⟩:=hs
  exact⟨cs,h2,h1.rep hat h3⟩
 |mp=>
  obtain⟨r,es,ck,h2,h3,h4,h5,h6⟩:=hs
  exact⟨r,es,ck,h2,h3,h4,h5,(ed.flat (g:=g)).rep hat h6⟩
def bk(fs:List Nat)(n j:Nat):Nat:=if j<fs.length then fs.getD j 0 else n+(j - fs.length)
def vy(σ:ba)(fs:List Nat)(σ0 σ1 σ2:ba):Prop:=σ2.length=σ.length+(σ1.length - fs.length)∧∀(i:Nat) b2,σ2[i]? =some (some b2)→
 (i<σ.length∧un fs σ0 i=true∧σ[i]? =some (some b2))∨∃j b1,σ1[j]? =some (some b1)∧uC (bk fs σ.length) b1 b2∧((j<fs.length∧i<σ.length∧fs[j]? =some i)∨(fs.length≤j∧i=σ.length+(j - fs.length)))
end
section
variable {P:Program}
theorem aG.view{f:FuncId}{ps qs:List PV}{σ σ0:ba}{R:PV→ba→Prop}(fs:List Nat)(hn:dh fs=true)(ha:cR σ fs (un fs σ0) ps qs)(hσ:rl σ fs (un fs σ0) σ0 fs)
  (hb:(fs.all fun i=>Nat.blt i σ.length)=true)
  (h:aG P f qs σ0 (fun r σ1=>∃r2 σ2,Mv (bk fs σ.length) r r2∧vy σ fs σ0 σ1 σ2∧R r2 σ2)):aG P f ps σ R:=fun F base E w vs hS hR=>by
 have hin:∀(j i:Nat),fs[j]? =some i→i<σ.length:=fun j i h=>Nat.blt_eq.mp (List.all_eq_true.1 hb i (List.mem_of_getElem? h))
 obtain⟨M,hM,hf,hS0⟩:=hS.view hσ hn (fun k i b h1 h2=>rO h1 h2)
 refine(h F base (E.gN fs M) w vs hS0 (ha.rep hS hM hf hR)).mono ?_
 rintro e w' ⟨v,r,σ1,E1,rfl,⟨r2,σ2,hr,⟨hlen,hbk⟩,hR2⟩,hS1,hg1,hB1,hv⟩
 have hL0:fs.length≤σ1.length:=by have:=hg1.L;rw[hS1.len]at this;exact this
 have hat1:∀j i,fs[j]? =some i→E1.at_ j=E.at_ i:=fun j i hji=>by
  have hj:=(List.getElem?_eq_some_iff.1 hji).1
  rw[hg1.at_ j hj]
  simp[Env.gN,List.getD_eq_getElem?_getD,hji]
 let E2:Env:=⟨σ2.length,fun i=>if i<σ.length then E.at_ i else E1.at_ (fs.length+(i - σ.length)),fun b=>F b∨∃i blk,σ2[i]? =some (some blk)∧az (if i<σ.length then E.at_ i else E1.at_ (fs.length+(i - σ.length)))=some b⟩
 have hat:∀i,i<E1.L→E2.at_ (bk fs σ.length i)=E1.at_ i∧bk fs σ.length i<E2.L:=fun i hi=>by
  rw[hS1.len]at hi
  show(if bk fs σ.length i<σ.length then _ else _)=_∧bk fs σ.length i<σ2.length
  unfold bk
  by_cases hj:i<fs.length
  ·rw[if_pos hj]
   have hji:fs[i]? =some (fs.getD i 0):=by simp[List.getD_eq_getElem?_getD,hj]
   have hlt:fs.getD i 0<σ.length:=hin i _ hji
   rw[if_pos hlt,hat1 i _ hji]
   exact⟨rfl,by omega⟩
  ·rw[if_neg hj,if_neg (by omega),show fs.length+(σ.length+(i - fs.length) - σ.length)=i by omega]
   exact⟨rfl,by omega⟩
 have src:∀i b2,σ2[i]? =some (some b2)→(i<σ.length∧un fs σ0 i=true∧σ[i]? =some (some b2)∧E2.at_ i=E.at_ i)∨∃j b1,σ1[j]? =some (some b1)∧uC (bk fs σ.length) b1 b2∧bk fs σ.length j=i∧E2.at_ i=E1.at_ j:=fun i b2 h2=>by
  rcases hbk i b2 h2 with⟨h3,h4,h5⟩|⟨j,b1,h3,h4,h5⟩
  ·exact .inl ⟨h3,h4,h5,if_pos h3⟩
  ·have hji:bk fs σ.length j=i:=by
    unfold bk
    rcases h5 with⟨h6,h7,h8⟩|⟨h6,h7⟩
    ·rw[if_pos h6];simp[List.getD_eq_getElem?_getD,h8]
    ·rw[if_neg (by omega)];exact h7.symm
   refine .inr ⟨j,b1,h3,h4,hji,?_⟩
   have:=(hat j (by rw[hS1.len];exact(List.getElem?_eq_some_iff.1 h3).1)).1
   rw[hji]at this
   exact this
 have uz:∀i blk b,σ[i]? =some (some blk)→un fs σ0 i=true→az (E.at_ i)=some b→b<w.heap.size∧¬M b∧¬E1.M b:=fun i blk b h1 h2 h3=>by
  have h4:=((hS.blk i blk h1).lt h3).2
  have h5:=hf i blk b h1 h2 h3
  exact⟨h4,h5,hg1.M b h4 h5⟩
 have g2:bJ E w E2 w':=by
  refine⟨by show E.L≤σ2.length;rw[hS.len];omega,fun i hi=>if_pos (by rw[←hS.len];exact hi),fun b hb hnM hb2=>?_,hg1.size,fun b hb hnM=>hg1.heap b hb (fun h=>hnM (hM b h))⟩
  rcases hb2 with hF|⟨i,blk,h1,h2⟩
  ·exact hnM ((hS.mm b).2 (.inl hF))
  ·have h2':az (E2.at_ i)=some b:=h2
   rcases src i blk h1 with⟨_,_,h3,h4⟩|⟨j,b1,h3,_,_,h4⟩
   ·rw[h4]at h2';exact hnM ((hS.mm b).2 (.inr ⟨i,blk,h3,h2'⟩))
   ·rw[h4]at h2'
    exact hg1.M b hb (fun h=>hnM (hM b h)) ((hS1.mm b).2 (.inr ⟨j,b1,h3,h2'⟩))
 refine⟨v,r2,σ2,E2,rfl,hR2,⟨hS1.bl,fun b hb=>⟨(hS1.fb b hb).1,fun i blk hi h2=>?_⟩,rfl,fun b=>Iff.rfl,fun i blk hi=>?_,fun i j bi bj b hi hj h1 h2=>?_,hS.gl.goes g2⟩,g2,hB1,hr.rep hat v hv⟩
 ·rcases src i blk hi with⟨_,_,h3,h4⟩|⟨j,b1,h3,_,_,h4⟩
  ·rw[h4]at h2;exact(hS.fb b hb).2 i blk h3 h2
  ·rw[h4]at h2;exact(hS1.fb b hb).2 j b1 h3 h2
 ·rcases src i blk hi with⟨_,h0,h3,h4⟩|⟨j,b1,h3,h5,_,h4⟩
  ·rw[h4]
   refine(hS.blk i blk h3).goes g2 (fun b hb=>?_)
   obtain⟨k1,k2,_⟩:=uz i blk b h3 h0 hb
   exact hg1.heap b k1 k2
  ·rw[h4];exact h5.sat hat (hS1.blk j b1 h3)
 ·rcases src i bi hi with⟨_,h0,h3,h4⟩|⟨k,b1,h3,_,h5,h4⟩<;>rcases src j bj hj with⟨_,h0',h3',h4'⟩|⟨k',b1',h3',_,h5',h4'⟩
  ·rw[h4]at h1;rw[h4']at h2;exact hS.inj i j bi bj b h3 h3' h1 h2
  ·rw[h4]at h1;rw[h4']at h2
   exact absurd ((hS1.mm b).2 (.inr ⟨k',b1',h3',h2⟩)) (uz i bi b h3 h0 h1).2.2
  ·rw[h4]at h1;rw[h4']at h2
   exact absurd ((hS1.mm b).2 (.inr ⟨k,b1,h3,h1⟩)) (uz j bj b h3' h0' h2).2.2
  ·rw[h4]at h1;rw[h4']at h2
   have:=hS1.inj k k' b1 b1' b h3 h3' h1 h2
   subst this
   rw[←h5,←h5']
end
section
variable {P:Program} {N L:Nat} {ops:Array Oper}
def WA(P:Program)(N L:Nat)(ops:Array Oper):Nat→Array Bool→St→(St→Prop)→Prop
 |0,ls,st,K=>Region.ready .any ops ls=[]∧K st
 |n+1,ls,st,K=>Region.ready .any ops ls≠[]∧∀i∈Region.ready .any ops ls,∃o,ops[i]? =some o∧o.guard=none∧WR P N L [o].toArray [o] st (fun s=>WA P N L ops n (ls.setIfInBounds i true) s K)
def vp(P:Program)(N L:Nat)(ops:Array Oper)(n:Nat)(ls:Array Bool)(st:St)(K:St→Prop)(is:List Nat):Prop:=
 ∀i∈is,∃o,ops[i]? =some o∧o.guard=none∧WR P N L [o].toArray [o] st (fun s=>WA P N L ops n (ls.setIfInBounds i true) s K)
theorem b7{ls:Array Bool}{st:St}{K:St→Prop}(h:Region.ready .any ops ls=[])(hk:K st):WA P N L ops 0 ls st K:=⟨h,hk⟩
theorem ah{n:Nat}{ls:Array Bool}{st:St}{K:St→Prop}(i:Nat)(is:List Nat)(h:Region.ready .any ops ls=i::is)(hk:vp P N L ops n ls st K (i::is)):WA P N L ops (n+1) ls st K:=
 ⟨by rw[h];simp,fun j hj=>hk j (by rw[←h];exact hj)⟩
theorem ai{n:Nat}{ls:Array Bool}{st:St}{K:St→Prop}:vp P N L ops n ls st K []:=fun i hi=>by simp at hi
theorem ad{n:Nat}{ls:Array Bool}{st:St}{K:St→Prop}{i:Nat}{is:List Nat}{o:Oper}(ho:ops[i]? =some o)(hg:o.guard=none)(h:WR P N L [o].toArray [o] st (fun s=>WA P N L ops n (ls.setIfInBounds i true) s K))(hs:vp P N L ops n ls st K is):vp P N L ops n ls st K (i::is):=fun j hj=>by
 rcases List.mem_cons.1 hj with rfl|hj
 ·exact⟨o,ho,hg,h⟩
 ·exact hs j hj
def tS(K:Act→World→Prop)(Q:Exit→Act→World→Prop):Exit→Act→World→Prop
 | .normal,a,w=>K a w
 |e,a,w=>Q e a w
theorem mo{o:Oper}{a:Act}{w:World}{K K' K'':Act→World→Prop}{Q:Exit→Act→World→Prop}(h:∀a w,K a w→K' a w)(hh:o.wp P a w K (tS K'' Q)):o.wp P a w K' Q:=by
 unfold Oper.wp at*
 generalize (execOp a.eval o).run P w=x at*
 cases x with
 |ok n w'=>
  cases n<;>simp only[Oper.upon]at hh ⊢ <;>
   first
    |exact h _ _ hh
    |exact Calls.mono hh (fun e w'' he=>by cases e<;>first|exact h _ _ he|exact he)
    |exact Rows.mono hh (fun _ _ he=>h _ _ he)
 |halt x w'=>cases x<;>simp only[Oper.upon]at hh ⊢ <;>exact hh
theorem WA.any:∀ {n:Nat} {ls:Array Bool} {st:St} {K:St→Prop},WA P N L ops n ls st K→∀F base E₀ w₀ E a w,nN base L E₀ w₀ E w→dE F base N st E a w→∀(Q:Exit→Act→World→Prop),(∀a' w',kM F base N E₀ w₀ K a' w'→Q .normal a' w')→wpAny P .any ops Q n ls a w
 |0,ls,st,K,h,F,base,E₀,w₀,E,a,w,hc,hs,Q,hQ=>⟨h.1,hQ a w ⟨st,E,h.2,hs,hc.g,hc.b⟩⟩
 |n+1,ls,st,K,h,F,base,E₀,w₀,E,a,w,hc,hs,Q,hQ=>by
  refine⟨fun h0=>absurd h0 h.1,fun i hi=>?_⟩
  obtain⟨o,ho,hg,hw⟩:=h.2 i hi
  have h1:=hw F base E₀ w₀ E a w hc hs (tS (wpAny P .any ops Q n (ls.setIfInBounds i true)) Q) 0 (fun a' w' ⟨s,E',k1,k2,k3,k4⟩=>by
   show wpAny P .any ops Q n (ls.setIfInBounds i true) a' w'
   exact WA.any k1 F base E₀ w₀ E' a' w' ⟨hc.L,k3,k4⟩ k2 Q hQ) (fun j=>by simp)
  simp only[List.length_singleton]at h1
  rw[List.range'_succ,wpOps_cons]at h1
  unfold wpOp at h1 ⊢
  have hw1:∀y,Region.wanted o y=true:=fun y=>by unfold Region.wanted;rw[hg]
  simp only[List.getElem?_toArray,List.getElem?_cons_zero,hw1,if_true]at h1
  simp only[ho,hw1,if_true]
  rcases h1 with h1|⟨h1,h2⟩
  ·exact .inl (mo (fun a w h=>h) h1)
  ·exact .inr ⟨h1,h2⟩
theorem q9{id:Nat}{l:List Oper}{st:St}{Q:Exit→St→Prop}(hm:P.follows .mixedOrders=true)(h:WA P N L l.toArray l.length (Array.replicate l.length false) st (fun s=>Q .normal s)):W P N L (.region id l.toArray true) st Q:=fun F base E₀ w₀ E a w hc hs=>by
 refine wp_region_any hm ?_
 have hE:Ext w {w with drawn:=w.drawn+1}:=⟨rfl,rfl,rfl,Nat.le_refl _,fun _ _=>rfl⟩
 have:=h.any F base E₀ w₀ E a {w with drawn:=w.drawn+1} (hc.on (.ext hE) (Below.eX hE hs.sat.bl)) ⟨hs.sat.ext hE,hs.tmp.goes (.ext hE),hs.gI,hs.size⟩ (fun e a' w'=>kM F base N E₀ w₀ (Q e) a' w') (fun a' w' h=>h)
 simpa using this
theorem lA{id:Nat}{l:List Oper}{y:Code}{st:St}{Q:Exit→St→Prop}(hm:P.follows .mixedOrders=true)(h:WA P N L l.toArray l.length (Array.replicate l.length false) st (fun s=>W P N L y s Q)):W P N L (.seq (.region id l.toArray true) y) st Q:=al (q9 hm h)
theorem lF{α:Type}{l:List α}{k:Nat}{x:α}(h:l[k]? =some x):l.set k x=l:=by
 obtain⟨hk,rfl⟩:=List.getElem?_eq_some_iff.1 h
 simp
theorem cf{c:Code}{t:bo}{σ:ba}{Q:Exit→St→Prop}(i k e s:Nat){ty:TypeId}{xs:List PV}(hi:σ[i]? =some (some (.cells ty xs)))(hk:xs[k]? =some (.raw (.slice none 0 0)))
  (h:W P N L c ⟨t,(σ++[some (cy.row e s 0 [])]).set i (some (.cells ty (xs.set k (.own σ.length))))⟩ Q):W P N L c ⟨t,σ⟩ Q:=fun F base E₀ w₀ E a w hc hs=>by
 obtain⟨a1,a2,a3⟩:=sa hs.sat e s
 have hil:=(List.getElem?_eq_some_iff.1 hi).1
 have hi':(σ++[some (cy.row e s 0 [])])[i]? =some (some (.cells ty xs)):=by rw[List.getElem?_append_left hil];exact hi
 obtain⟨b,cs,hb,h1,h2,h3⟩:=a1.blk i _ hi'
 obtain⟨cv,hcv,hrep⟩:=h3.get hk
 cases hrep
 obtain⟨b1,b2⟩:=a1.qh hi' (b:=b) (by rw[hb];rfl) (Nat.le_refl _) (fun _ _ _=>rfl) (bi':=.cells ty (xs.set k (.own σ.length))) ⟨b,cs,hb,h1,h2,by
  have:=h3.set k a3
  rw[lF hcv]at this
  exact this⟩
 exact h F base E₀ w₀ _ a w (hc.on (a2.trans b2) (Below.refl _ _)) ⟨b1,(hs.tmp.goes a2).goes b2,hs.gI,hs.size⟩
inductive qo (σ:ba) (t:bo):bo→Prop
 |nil:qo σ t []
 |cons {t':bo} (k:Nat) {p q:PV}:look k t=some p→aZ σ p q→qo σ t t'→qo σ t ((k,q)::t')
theorem qo.get{σ:ba}{t t':bo}(h:qo σ t t'):∀k q,look k t'=some q→∃p,look k t=some p∧aZ σ p q:=by
 induction h with
 |nil=>intro k q h;cases h
 |cons k h1 h2 _ ih=>
  intro j q hj
  simp only[look]at hj
  rw[Bool.cond_eq_ite]at hj
  split at hj
  ·rename_i he
   have:=Nat.eq_of_beq_eq_true he
   subst this
   cases hj
   exact⟨_,h1,h2⟩
  ·exact ih j q hj
theorem nu{c:Code}{t t':bo}{σ:ba}{Q:Exit→St→Prop}(hT:qo σ t t')(h:W P N 0 c ⟨t',[]⟩ Q):W P N 0 c ⟨t,σ⟩ Q:=fun F base E₀ w₀ E a w hc hs=>by
 have hF:∀b,F b→E.M b:=fun b hb=>(hs.sat.mm b).2 (.inl hb)
 refine h F base E₀ w₀ (EF F) a w ⟨hc.L,⟨by rw[hc.L];exact Nat.zero_le _,fun i hi=>by rw[hc.L]at hi;omega,fun b h1 h2 hf=>hc.g.M b h1 h2 (hF b hf),hc.g.size,hc.g.heap⟩,hc.b⟩
  ⟨⟨hs.sat.bl,fun b hb=>⟨(hs.sat.fb b hb).1,fun i blk h=>by simp at h⟩,rfl,fun b=>by simp[EF],fun i blk h=>by simp at h,fun i j bi bj b h=>by simp at h,hs.sat.gl.sub hF⟩,fun k q hq=>?_,hs.gI,hs.size⟩
 obtain⟨p,h1,h2⟩:=hT.get k q hq
 exact h2.rep hs.sat hF (fun b hb=>(hs.sat.fb b hb).2) _ (hs.tmp k p h1)
end
end
end PW
end Go.Proofs.YteikppbedmmdnaaDoor
namespace Go.Proofs.YteikppbedmmdnaaDoor
namespace Heap
section
def par(q:Nat):Nat:=(q - 1) / 2
theorem cV{q:Nat}(h:0<q):par q<q:=by unfold par;omega
theorem tu{p c:Nat}(h:0<c)(hc:par c=p):c=2*p+1∨c=2*p+2:=by unfold par at hc;omega
def j9(f:Nat→Int)(len:Nat):Prop:=∀q,0<q→q<len→f (par q)≤f q
def tX(f:Nat→Int)(len p:Nat):Prop:=0<p→∀c,0<c→c<len→par c=p→f (par p)≤f c
def iF(f:Nat→Int)(len p:Nat):Prop:=(∀q,0<q→q<len→q≠p→par q≠p→f (par q)≤f q)∧tX f len p
def lD(f:Nat→Int)(len p:Nat):Prop:=(∀q,0<q→q<len→par q≠p→f (par q)≤f q)∧tX f len p
def sN(f:Nat→Int)(p q x:Nat):Int:=if x=p then f q else if x=q then f p else f x
theorem nL(f:Nat→Int)(p q:Nat):sN f p q p=f q:=by simp[sN]
theorem uS(f:Nat→Int)(p q:Nat):sN f p q q=f p:=by
 unfold sN;split
 ·rename_i h;rw[h]
 ·simp
theorem e8(f:Nat→Int){p q x:Nat}(h1:x≠p)(h2:x≠q):sN f p q x=f x:=by simp[sN,h1,h2]
theorem sJ{f:Nat→Int}{len p:Nat}(h:iF f len p)(hp:0<p)(hl:p<len)(_:f p<f (par p)):iF (sN f p (par p)) len (par p):=by
 have hpp:=cV hp
 refine⟨fun q h0 hq h1 h2=>?_,fun hg c h0 hc hpc=>?_⟩
 ·by_cases e:par q=p
  ·have hqp:=cV h0
   rw[e,nL,e8 f (by omega) h1]
   exact h.2 hp q h0 hq e
  ·have hqp:q≠p:=fun e'=>h2 (by rw[e'])
   rw[e8 f e h2,e8 f hqp h1]
   exact h.1 q h0 hq hqp e
 ·have hgg:=cV hg
  rw[e8 f (by omega) (by omega)]
  have h3:=h.1 (par p) hg (by omega) (by omega) (by omega)
  by_cases e:c=p
  ·rw[e,nL];exact h3
  ·have:=cV h0
   rw[e8 f e (by omega)]
   have:=h.1 c h0 hc e (by omega)
   rw[hpc]at this
   omega
theorem oo{f:Nat→Int}{len p:Nat}(h:iF f len p)(hp:p=0∨f (par p)≤f p):lD f len p:=
 ⟨fun q h0 hq h2=>by
  by_cases e:q=p
  ·subst e
   rcases hp with h'|h'
   ·omega
   ·exact h'
  ·exact h.1 q h0 hq e h2,h.2⟩
theorem og{f:Nat→Int}{len p:Nat}(h:lD f len p)(hk:∀c,0<c→c<len→par c=p→f p≤f c):j9 f len:=fun q h0 hq=>by
 by_cases e:par q=p
 ·rw[e];exact hk q h0 hq e
 ·exact h.1 q h0 hq e
theorem n0{f:Nat→Int}{len p c:Nat}(h:lD f len p)(hc0:0<c)(hcl:c<len)(hcp:par c=p)(hlt:f c<f p)(hk:∀c',0<c'→c'<len→par c'=p→f c≤f c'):lD (sN f p c) len c:=by
 have hpc:=cV hc0
 refine⟨fun q h0 hq h2=>?_,fun _ d h0 hd hdc=>?_⟩
 ·have hqq:=cV h0
  by_cases e:par q=p
  ·rw[e,nL]
   by_cases e':q=c
   ·rw[e',uS];omega
   ·rw[e8 f (by omega) e'];exact hk q h0 hq e
  ·rw[e8 f e h2]
   by_cases e':q=p
   ·rw[e',nL]
    exact h.2 (by omega) c hc0 hcl hcp
   ·rw[e8 f e' (fun e2=>e (by rw[e2];exact hcp))]
    exact h.1 q h0 hq e
 ·have hdd:=cV h0
  rw[hcp,nL,e8 f (by omega) (by omega)]
  have:=h.1 d h0 hd (by omega)
  rw[hdc]at this
  exact this
theorem qd{f:Nat→Int}{len:Nat}(h:j9 f len):∀q,q<len→f 0≤f q:=by
 intro q
 induction q using Nat.strongRecOn with
 |_ q ih=>
  intro hq
  by_cases e:q=0
  ·rw[e];exact Int.le_refl _
  ·have:=cV (q:=q) (by omega)
   exact Int.le_trans (ih (par q) this (by omega)) (h q (by omega) hq)
theorem mT{f g:Nat→Int}{len p:Nat}(h:j9 f len)(he:∀q,q<len→q≠p→g q=f q)(hp:p<len):iF g len p:=by
 refine⟨fun q h0 hq h1 h2=>?_,fun hp0 c h0 hc hcp=>?_⟩
 ·have:=cV h0
  rw[he q hq h1,he (par q) (by omega) h2];exact h q h0 hq
 ·have:=cV h0
  have:=cV hp0
  rw[he (par p) (by omega) (by omega),he c hc (by omega)]
  have h1:=h c h0 hc
  rw[hcp]at h1
  exact Int.le_trans (h p hp0 hp) h1
theorem n9{f g:Nat→Int}{len:Nat}(h:j9 f len)(he:∀q,q<len→g q=f q):iF g (len+1) len:=by
 refine⟨fun q h0 hq h1 _=>?_,fun hp0 c h0 hc hcp=>?_⟩
 ·have:=cV h0
  rw[he q (by omega),he (par q) (by omega)];exact h q h0 (by omega)
 ·have:=cV h0;omega
theorem oQ{f g:Nat→Int}{len:Nat}(h:j9 f (len+1))(he:∀q,q<len→q≠0→g q=f q):iF g len 0:=by
 refine⟨fun q h0 hq h1 h2=>?_,fun hp0=>by omega⟩
 have:=cV h0
 rw[he q hq h1,he (par q) (by omega) h2];exact h q h0 (by omega)
def mb(K:List Int)(i:Int):Int:=K.getD i.toNat 0*65536+i
def rk(K O:List Int)(p:Nat):Int:=mb K (O.getD p 0)
theorem s8{K:List Int}{i j:Int}(hi:0≤i)(hi':i<65536)(hj:0≤j)(hj':j<65536):
  decide (mb K i<mb K j)=(if K.getD i.toNat 0=K.getD j.toNat 0 then decide (i<j) else decide (K.getD i.toNat 0<K.getD j.toNat 0)):=by
 unfold mb
 generalize K.getD i.toNat 0=a
 generalize K.getD j.toNat 0=b
 split
 ·simp only[decide_eq_decide];omega
 ·simp only[decide_eq_decide];omega
theorem qM{K:List Int}{i j:Int}(hi:0≤i)(hj':j<65536)(h:mb K i≤mb K j):K.getD i.toNat 0≤K.getD j.toNat 0:=by
 unfold mb at h;omega
def cO(O:List Int)(p q:Nat):List Int:=(O.set p (O.getD q 0)).set q (O.getD p 0)
theorem dO(O:List Int)(p q:Nat):(cO O p q).length=O.length:=by simp[cO]
theorem cm(L:List Int)(i j:Nat)(c:Int)(hi:i<L.length):(L.set i c).getD j 0=if j=i then c else L.getD j 0:=by
 simp only[List.getD_eq_getElem?_getD,List.getElem?_set]
 by_cases h:i=j
 ·subst h;simp[hi]
 ·rw[if_neg h,if_neg (Ne.symm h)]
theorem cK(O:List Int)(p q x:Nat)(hp:p<O.length)(hq:q<O.length):(cO O p q).getD x 0=if x=q then O.getD p 0 else if x=p then O.getD q 0 else O.getD x 0:=by
 unfold cO
 rw[cm _ _ _ _ (by simpa using hq),cm _ _ _ _ hp]
theorem ph(K O:List Int)(p q:Nat)(hp:p<O.length)(hq:q<O.length):rk K (cO O p q)=sN (rk K O) p q:=by
 funext x
 unfold rk sN
 rw[cK O p q x hp hq]
 by_cases h1:x=q
 ·subst h1
  rw[if_pos rfl]
  by_cases h2:x=p
  ·rw[if_pos h2,h2]
  ·rw[if_neg h2,if_pos rfl]
 ·rw[if_neg h1]
  by_cases h2:x=p
  ·rw[if_pos h2,if_pos h2]
  ·rw[if_neg h2,if_neg h2,if_neg h1]
def bf(O:List Int)(i:Int):Prop:=∃p,p<O.length∧O.getD p 0=i
theorem fX(O:List Int)(p q:Nat)(hp:p<O.length)(hq:q<O.length)(i:Int):bf (cO O p q) i↔bf O i:=by
 unfold bf
 rw[dO]
 constructor
 ·rintro⟨x,hx,rfl⟩
  rw[cK O p q x hp hq]
  split
  ·exact⟨p,hp,rfl⟩
  ·split
   ·exact⟨q,hq,rfl⟩
   ·exact⟨x,hx,rfl⟩
 ·rintro⟨x,hx,rfl⟩
  by_cases h1:x=p
  ·exact⟨q,hq,by rw[cK O p q q hp hq,if_pos rfl,h1]⟩
  ·by_cases h2:x=q
   ·exact⟨p,hp,by
     rw[cK O p q p hp hq]
     by_cases h3:p=q
     ·omega
     ·rw[if_neg h3,if_pos rfl,h2]⟩
   ·exact⟨x,hx,by rw[cK O p q x hp hq,if_neg h2,if_neg h1]⟩
structure bU (N:Nat) (P O:List Int):Prop where
 len:P.length=N
 item:∀p,p<O.length→0≤O.getD p 0∧O.getD p 0<N∧P.getD (O.getD p 0).toNat 0=(p:Int)+1
 place:∀i,i<N→P.getD i 0=0∨∃p,p<O.length∧O.getD p 0=(i:Int)
theorem bU.inj{N:Nat}{P O:List Int}(h:bU N P O){p q:Nat}(hp:p<O.length)(hq:q<O.length)(he:O.getD p 0=O.getD q 0):p=q:=by
 have h1:=(h.item p hp).2.2
 have h2:=(h.item q hq).2.2
 rw[he]at h1
 omega
def dM(P O:List Int)(p q:Nat):List Int:=(P.set (O.getD q 0).toNat ((p:Int)+1)).set (O.getD p 0).toNat ((q:Int)+1)
theorem bU.swap{N:Nat}{P O:List Int}(h:bU N P O){p q:Nat}(hp:p<O.length)(hq:q<O.length):bU N (dM P O p q) (cO O p q):=by
 have ip:=h.item p hp
 have iq:=h.item q hq
 have hl:=h.len
 refine⟨by simp[dM,h.len],fun x hx=>?_,fun i hi=>?_⟩
 ·rw[dO]at hx
  have ix:=h.item x hx
  have e:∀j:Int,0≤j→j<N→(dM P O p q).getD j.toNat 0=if j=O.getD p 0 then(q:Int)+1 else if j=O.getD q 0 then(p:Int)+1 else P.getD j.toNat 0:=fun j h0 h1=>by
   unfold dM
   rw[cm _ _ _ _ (by rw[List.length_set];omega),cm _ _ _ _ (by omega)]
   have e1:(j.toNat=(O.getD p 0).toNat)=(j=O.getD p 0):=by apply propext;omega
   have e2:(j.toNat=(O.getD q 0).toNat)=(j=O.getD q 0):=by apply propext;omega
   simp only[e1,e2]
  rw[cK O p q x hp hq]
  by_cases h1:x=q
  ·rw[if_pos h1,e _ ip.1 ip.2.1,if_pos rfl]
   exact⟨ip.1,ip.2.1,by rw[h1]⟩
  ·rw[if_neg h1]
   by_cases h2:x=p
   ·rw[if_pos h2,e _ iq.1 iq.2.1,if_neg (fun e=>by have:=h.inj hq hp e;omega),if_pos rfl]
    exact⟨iq.1,iq.2.1,by rw[h2]⟩
   ·rw[if_neg h2,e _ ix.1 ix.2.1,if_neg (fun e=>h2 (h.inj hx hp e)),if_neg (fun e=>h1 (h.inj hx hq e))]
    exact ix
 ·by_cases hH:bf O (i:Int)
  ·exact .inr ((fX O p q hp hq (i:Int)).2 hH)
  ·rcases h.place i hi with h0|h0
   ·refine .inl ?_
    unfold dM
    rw[cm _ _ _ _ (by rw[List.length_set];omega),cm _ _ _ _ (by omega),if_neg (fun e=>hH ⟨p,hp,by omega⟩),if_neg (fun e=>hH ⟨q,hq,by omega⟩)]
    exact h0
   ·exact absurd h0 hH
theorem bU.zero{N:Nat}{P O:List Int}(h:bU N P O){i:Nat}(hi:i<N):P.getD i 0=0↔¬bf O (i:Int):=by
 constructor
 ·rintro h0 ⟨p,hp,he⟩
  have:=(h.item p hp).2.2
  rw[he,Int.toNat_natCast,h0]at this
  omega
 ·intro hn
  rcases h.place i hi with h0|h0
  ·exact h0
  ·exact absurd h0 hn
theorem bU.push{N:Nat}{P O:List Int}(h:bU N P O){i:Nat}(hi:i<N)(hn:¬bf O (i:Int)):bU N (P.set i ((O.length:Int)+1)) (O++[(i:Int)]):=by
 have hl:=h.len
 refine⟨by simp[h.len],fun x hx=>?_,fun j hj=>?_⟩
 ·rw[cm _ _ _ _ (by omega)]
  by_cases h1:x<O.length
  ·have ix:=h.item x h1
   have e:(O++[(i:Int)]).getD x 0=O.getD x 0:=by simp[List.getD_eq_getElem?_getD,List.getElem?_append_left h1]
   rw[e,if_neg (fun e=>hn ⟨x,h1,by omega⟩)]
   exact ix
  ·have:x=O.length:=by simp at hx;omega
   subst this
   have e:(O++[(i:Int)]).getD O.length 0=i:=by simp
   rw[e,Int.toNat_natCast,if_pos rfl]
   exact⟨by omega,by omega,rfl⟩
 ·rw[cm _ _ _ _ (by omega)]
  by_cases hji:j=i
  ·exact .inr ⟨O.length,by simp,by simp[hji]⟩
  ·rw[if_neg hji]
   rcases h.place j hj with h0|⟨p,hp,he⟩
   ·exact .inl h0
   ·exact .inr ⟨p,by simp;omega,by simp[List.getD_eq_getElem?_getD,List.getElem?_append_left hp]at he ⊢;exact he⟩
theorem pS(O:List Int)(i j:Int):bf (O++[i]) j↔j=i∨bf O j:=by
 constructor
 ·rintro⟨p,hp,rfl⟩
  by_cases h1:p<O.length
  ·exact .inr ⟨p,h1,by simp[List.getD_eq_getElem?_getD,List.getElem?_append_left h1]⟩
  ·have:p=O.length:=by simp at hp;omega
   subst this
   exact .inl (by simp)
 ·rintro(rfl|⟨p,hp,rfl⟩)
  ·exact⟨O.length,by simp,by simp⟩
  ·exact⟨p,by simp;omega,by simp[List.getD_eq_getElem?_getD,List.getElem?_append_left hp]⟩
theorem fO(O:List Int)(m x:Nat)(h:x<m):(O.take m).getD x 0=O.getD x 0:=by
 simp[List.getD_eq_getElem?_getD,h]
theorem bU.pop{N:Nat}{P O:List Int}{m:Nat}(h:bU N P O)(hm:O.length=m+1):bU N (P.set (O.getD m 0).toNat 0) (O.take m):=by
 have hl:=h.len
 have im:=h.item m (by omega)
 refine⟨by simp[h.len],fun x hx=>?_,fun j hj=>?_⟩
 ·have hx':x<m:=by simp at hx;omega
  rw[fO O m x hx',cm _ _ _ _ (by omega)]
  have ix:=h.item x (by omega)
  rw[if_neg (fun e=>by have:=h.inj (p:=x) (q:=m) (by omega) (by omega) (by omega);omega)]
  exact ix
 ·rw[cm _ _ _ _ (by omega)]
  by_cases hjm:j=(O.getD m 0).toNat
  ·exact .inl (if_pos hjm)
  ·rw[if_neg hjm]
   rcases h.place j hj with h0|⟨p,hp,he⟩
   ·exact .inl h0
   ·have:p≠m:=fun e=>hjm (by rw[←e,he];rfl)
    exact .inr ⟨p,by simp;omega,by rw[fO O m p (by omega)];exact he⟩
theorem rj{N:Nat}{P O:List Int}{m:Nat}(h:bU N P O)(hm:O.length=m+1)(j:Int):bf (O.take m) j↔bf O j∧j≠O.getD m 0:=by
 constructor
 ·rintro⟨p,hp,rfl⟩
  have hp':p<m:=by simp at hp;omega
  rw[fO O m p hp']
  exact⟨⟨p,by omega,rfl⟩,fun e=>by have:=h.inj (p:=p) (q:=m) (by omega) (by omega) e;omega⟩
 ·rintro⟨⟨p,hp,rfl⟩,hne⟩
  have:p≠m:=fun e=>hne (by rw[e])
  exact⟨p,by simp;omega,fO O m p (by omega)⟩
theorem nV:∀(N m:Nat) (f:Nat→Nat),(∀p,p<m→f p<N)→(∀p q,p<m→q<m→f p=f q→p=q)→m≤N
 |0,m,f,h,_=>by
  rcases Nat.eq_zero_or_pos m with h0|h0
  ·omega
  ·have:=h 0 h0;omega
 |N+1,m,f,h,hi=>by
  by_cases hx:∃p,p<m∧f p=N
  ·obtain⟨p0,hp0,he⟩:=hx
   have:=nV N (m - 1) (fun p=>if p=p0 then f (m - 1) else f p) (fun p hp=>by
    by_cases e:p=p0
    ·simp only[e,if_true]
     have h1:=h (m - 1) (by omega)
     have h2:f (m - 1)≠N:=fun e'=>by have:=hi (m - 1) p0 (by omega) hp0 (by omega);omega
     omega
    ·simp only[e,if_false]
     have h1:=h p (by omega)
     have h2:f p≠N:=fun e'=>e (hi p p0 (by omega) hp0 (by omega))
     omega) (fun p q hp hq hpq=>by
    by_cases e:p=p0<;>by_cases e':q=p0
    ·omega
    ·simp only[e,e',if_true,if_false]at hpq
     have:=hi (m - 1) q (by omega) (by omega) hpq
     omega
    ·simp only[e,e',if_true,if_false]at hpq
     have:=hi p (m - 1) (by omega) (by omega) hpq
     omega
    ·simp only[e,e',if_false]at hpq
     exact hi p q (by omega) (by omega) hpq)
   omega
  ·have:=nV N m f (fun p hp=>by
    have h1:=h p hp
    have h2:f p≠N:=fun e=>hx ⟨p,hp,e⟩
    omega) hi
   omega
theorem eC{N:Nat}{P O:List Int}(h:bU N P O):O.length≤N:=
 nV N O.length (fun p=>(O.getD p 0).toNat) (fun p hp=>by have:=h.item p hp;omega) (fun p q hp hq e=>by
  have h1:=h.item p hp
  have h2:=h.item q hq
  exact h.inj hp hq (by omega))
end
end Heap
end Go.Proofs.YteikppbedmmdnaaDoor
