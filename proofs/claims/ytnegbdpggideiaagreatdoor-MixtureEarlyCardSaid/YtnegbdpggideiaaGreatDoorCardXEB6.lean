/- Texts of the proof, part 6. -/
import Derived.Test.YtnegbdpggideiaaGreatDoorCardXEB5
set_option linter.unusedVariables false
set_option linter.unusedSimpArgs false
set_option maxRecDepth 10000
set_option maxHeartbeats 1000000
namespace Go.Proofs.YtnegbdpggideiaaGreatDoor
namespace Net
section
def lu:List Int→Nat
 | []=>0
 |v::l=>(if 0≤v then 1 else 0)+lu l
theorem o8(l:List Int):lu l≤l.length:=by
 induction l with
 |nil=>exact Nat.le_refl _
 |cons v l ih=>simp only[lu,List.length_cons];split<;>omega
theorem qq:∀(l:List Int) (i:Nat) (c:Int),i<l.length→0≤c→lu (l.set i c)=lu l+(if 0≤l.getD i (-1) then 0 else 1)
 | [],i,c,h,_=>by simp at h
 |v::l,0,c,_,hc=>by
  simp only[List.set_cons_zero,lu,List.getD_cons_zero]
  rw[if_pos hc]
  by_cases h:0≤v
  ·rw[if_pos h,if_pos h];omega
  ·rw[if_neg h,if_neg h];omega
 |v::l,i+1,c,h,hc=>by
  simp only[List.set_cons_succ,lu,List.getD_cons_succ]
  rw[qq l i c (by simpa using h) hc]
  omega
def JL(v:Int):Nat:=if v<0 then 4194241 else v.toNat
def mu:List Int→Nat
 | []=>0
 |v::l=>JL v+mu l
theorem D2:∀(l:List Int) (i:Nat) (c:Int),i<l.length→mu (l.set i c)+JL (l.getD i (-1))=mu l+JL c
 | [],i,c,h=>by simp at h
 |v::l,0,c,_=>by simp only[List.set_cons_zero,mu,List.getD_cons_zero];omega
 |v::l,i+1,c,h=>by
  have:=D2 l i c (by simpa using h)
  simp only[List.set_cons_succ,mu,List.getD_cons_succ]
  omega
structure Inv (T:ak) (D:List Bool) (n:Nat) (dir:Bool) (out:List Int):Prop where
 len:(out.length:Int)=T.nodes
 root:at' out (n:Int)=0
 ge:∀x:Nat,(x:Int)<T.nodes→ -1≤at' out (x:Int)
 J3:∀x:Nat,(x:Int)<T.nodes→at' out (x:Int)≤65535*(lu out:Int)
 nm:∀x:Nat,(x:Int)<T.nodes→0≤at' out (x:Int)→x=n∨∃a,a<2*T.ae.length∧fL T dir a=(x:Int)∧Way T D n dir out a∧at' out (cY T dir a)+cp T a≤at' out (x:Int)
def lr(T:ak)(D:List Bool)(n:Nat)(dir:Bool)(out:List Int)(a:Nat):Prop:=
 Way T D n dir out a∧(at' out (fL T dir a)<0∨at' out (cY T dir a)+cp T a<at' out (fL T dir a))
def zl(T:ak)(dir:Bool)(out:List Int)(a:Nat):List Int:=out.set (fL T dir a).toNat (at' out (cY T dir a)+cp T a)
theorem yW(out:List Int)(x y:Nat)(c:Int)(hx:x<out.length):at' (out.set x c) (y:Int)=if y=x then c else at' out (y:Int):=by
 simp only[at',Int.toNat_natCast,List.getD_eq_getElem?_getD,List.getElem?_set]
 by_cases h:x=y
 ·subst h;simp[hx]
 ·rw[if_neg h,if_neg (Ne.symm h)]
theorem rH{T:ak}(hT:Sound T){D:List Bool}{n:Nat}{dir:Bool}{out:List Int}(h:Inv T D n dir out)(a:Nat)(ha:a<2*T.ae.length)(hg:lr T D n dir out a):
  Inv T D n dir (zl T dir out a)∧mu (zl T dir out a)<mu out:=by
 obtain⟨⟨w1,w2,w3⟩,hb⟩:=hg
 have hc:=hT.cost a ha
 obtain⟨x,hx⟩:=Int.eq_ofNat_of_zero_le (hT.x dir a ha).1
 obtain⟨y,hy⟩:=Int.eq_ofNat_of_zero_le (hT.y dir a ha).1
 have hxn:=(hT.x dir a ha).2
 have hyn:=(hT.y dir a ha).2
 unfold zl
 rw[hx,hy,Int.toNat_natCast]
 rw[hx,hy]at hb
 rw[hy]at w2 w3
 rw[hx]at hxn
 rw[hy]at hyn
 have hlen:=h.len
 have hxl:x<out.length:=by omega
 generalize hcc:at' out (y:Int)+cp T a=c at*
 have hby:=h.J3 y hyn
 have hxr:x≠n:=fun e=>by
  rw[e,h.root]at hb
  omega
 have hcs:=qq out x c hxl (by omega)
 have hgx:out.getD x (-1)=at' out (x:Int):=by simp[at']
 rw[hgx]at hcs
 have at1:=fun z=>yW out x z c hxl
 have reach:∀z:Nat,(z:Int)<T.nodes→0≤at' out (z:Int)→0≤at' (out.set x c) (z:Int):=fun z _ hz=>by
  rw[at1 z];split<;>omega
 have less:∀z:Nat,(z:Int)<T.nodes→0≤at' out (z:Int)→at' (out.set x c) (z:Int)≤at' out (z:Int):=fun z _ hz=>by
  rw[at1 z]
  split
  ·rename_i e;subst e;omega
  ·omega
 have Iw:∀b,b<2*T.ae.length→Way T D n dir out b→Way T D n dir (out.set x c) b:=fun b hbl ⟨v1,v2,v3⟩=>by
  obtain⟨z,hz⟩:=Int.eq_ofNat_of_zero_le (hT.y dir b hbl).1
  have hzn:=(hT.y dir b hbl).2
  refine⟨v1,?_,v3⟩
  rw[hz]at v2 hzn ⊢
  exact reach z hzn v2
 refine⟨⟨by rw[List.length_set];exact hlen,?_,fun z hz=>?_,fun z hz=>?_,fun z hz h0=>?_⟩,?_⟩
 ·rw[at1 n,if_neg (Ne.symm hxr)];exact h.root
 ·rw[at1 z];split
  ·omega
  ·exact h.ge z hz
 ·rw[at1 z]
  have hbz:=h.J3 z hz
  have:(lu out:Int)≤(lu (out.set x c):Int):=by rw[hcs];split<;>omega
  split
  ·rw[hcs]
   rename_i e
   subst e
   by_cases hr:0≤at' out (z:Int)
   ·rw[if_pos hr];omega
   ·rw[if_neg hr];omega
  ·omega
 ·by_cases e:z=x
  ·subst e
   refine .inr ⟨a,ha,hx,Iw a ha ⟨w1,by rw[hy];exact w2,by rw[hy];exact w3⟩,?_⟩
   rw[hy,at1 z,if_pos rfl]
   have:=less y hyn w2
   omega
  ·rw[at1 z,if_neg e]at h0
   rcases h.nm z hz h0 with e2|⟨b,hbl,hbx,hbw,hbe⟩
   ·exact .inl e2
   ·refine .inr ⟨b,hbl,hbx,Iw b hbl hbw,?_⟩
    rw[at1 z,if_neg e]
    obtain⟨u,hu⟩:=Int.eq_ofNat_of_zero_le (hT.y dir b hbl).1
    have hun:=(hT.y dir b hbl).2
    have hw2:=hbw.2.1
    rw[hu]at hun hbe hw2 ⊢
    have:=less u hun hw2
    omega
 ·have hm:=D2 out x c hxl
  rw[hgx]at hm
  have hcl:=o8 out
  have hnn:=hT.nodes
  have hcb:c≤4194240:=by
   rcases hb with hb|hb
   ·have hlt:lu out<out.length:=by
     have:=o8 (out.set x c)
     rw[List.length_set,hcs,if_neg (by omega)]at this
     omega
    omega
   ·have:=h.J3 x hxn;omega
  have hw1:JL c=c.toNat:=by unfold JL;rw[if_neg (by omega)]
  have hw2:JL (at' out (x:Int))=if at' out (x:Int)<0 then 4194241 else(at' out (x:Int)).toNat:=rfl
  rw[hw1,hw2]at hm
  rcases hb with hb|hb
  ·rw[if_pos hb]at hm;omega
  ·by_cases hr:at' out (x:Int)<0
   ·rw[if_pos hr]at hm;omega
   ·rw[if_neg hr]at hm;omega
theorem xo{T:ak}{D:List Bool}{n:Nat}{dir:Bool}{out:List Int}(h:Inv T D n dir out)(hn:∀a,a<2*T.ae.length→¬lr T D n dir out a):iT T D n dir out:=by
 have closed:∀a,a<2*T.ae.length→Way T D n dir out a→0≤at' out (fL T dir a)∧at' out (fL T dir a)≤at' out (cY T dir a)+cp T a:=fun a ha hw=>by
  have:=hn a ha
  unfold lr at this
  have h2:¬(at' out (fL T dir a)<0∨at' out (cY T dir a)+cp T a<at' out (fL T dir a)):=fun e=>this ⟨hw,e⟩
  omega
 refine⟨h.len,h.root,h.ge,closed,fun x hx h0=>?_⟩
 rcases h.nm x hx h0 with e|⟨a,ha,hax,hw,he⟩
 ·exact .inl e
 ·refine .inr ⟨a,ha,hax,hw,?_⟩
  have:=closed a ha hw
  rw[hax]at this
  omega
def start(N n:Nat):List Int:=(List.replicate N (-1)).set n 0
theorem oz(N n:Nat)(hn:n<N)(x:Nat)(hx:x<N):at' (start N n) (x:Int)=if x=n then 0 else -1:=by
 unfold start
 rw[yW _ n x 0 (by simpa using hn)]
 split
 ·rfl
 ·simp[at',hx]
theorem pI{T:ak}{D:List Bool}{N n:Nat}{dir:Bool}(hN:(N:Int)=T.nodes)(hn:n<N):Inv T D n dir (start N n):=by
 have hc:1≤lu (start N n):=by
  unfold start
  rw[qq _ n 0 (by simpa using hn) (by omega)]
  have:(List.replicate N (-1:Int)).getD n (-1)= -1:=by simp[hn]
  rw[this]
  simp
 refine⟨by simp[start];exact hN,by rw[oz N n hn n hn,if_pos rfl],fun x hx=>?_,fun x hx=>?_,fun x hx h0=>?_⟩
 ·rw[oz N n hn x (by omega)];split<;>omega
 ·rw[oz N n hn x (by omega)];split<;>omega
 ·rw[oz N n hn x (by omega)]at h0
  by_cases e:x=n
  ·exact .inl e
  ·rw[if_neg e]at h0;omega
theorem lR{T:ak}(hT:Sound T){D:List Bool}{n:Nat}{dir:Bool}:∀(k:Nat) (out:List Int),mu out=k→Inv T D n dir out→∃out',iT T D n dir out'∧Inv T D n dir out':=by
 intro k
 induction k using Nat.strongRecOn with
 |_ k ih=>
  intro out hk hi
  by_cases h:∃a,a<2*T.ae.length∧lr T D n dir out a
  ·obtain⟨a,ha,hg⟩:=h
   obtain⟨h1,h2⟩:=rH hT hi a ha hg
   exact ih _ (by omega) _ rfl h1
  ·exact⟨out,xo hi fun a ha hg=>h ⟨a,ha,hg⟩,hi⟩
theorem jF{T:ak}(hT:Sound T)(D:List Bool){n:Nat}(dir:Bool)(hn:(n:Int)<T.nodes):iT T D n dir (bG T D n dir):=by
 obtain⟨N,hN⟩:=Int.eq_ofNat_of_zero_le (by have:=hT.nodes.1;omega:0≤T.nodes)
 obtain⟨out,ho,_⟩:=lR hT _ (start N n) I (pI (D:=D) (dir:=dir) hN.symm (by omega))
 rw[kB hT ho]
 exact ho
theorem Cl{T:ak}(hT:Sound T)(D:List Bool){n:Nat}(dir:Bool)(hn:(n:Int)<T.nodes):Inv T D n dir (bG T D n dir):=by
 obtain⟨N,hN⟩:=Int.eq_ofNat_of_zero_le (by have:=hT.nodes.1;omega:0≤T.nodes)
 obtain⟨out,ho,hi⟩:=lR hT _ (start N n) I (pI (D:=D) (dir:=dir) hN.symm (by omega))
 rw[kB hT ho]
 exact hi
theorem aM{T:ak}(h:aq T=true):Sound T:=by
 have hb:=fY h
 have lk:∀i,i<T.ae.length→(0≤(cF T.ae i).a∧(cF T.ae i).a<T.nodes)∧(0≤(cF T.ae i).b∧(cF T.ae i).b<T.nodes)∧(1≤(cF T.ae i).c0∧(cF T.ae i).c0≤65535)∧(1≤(cF T.ae i).c1∧(cF T.ae i).c1≤65535):=fun i hi=>by
  have:=rf h i hi
  simp only[iU,bu,bK,Bool.and_eq_true,decide_eq_true_eq]at this
  obtain⟨⟨⟨⟨⟨⟨⟨_,h1⟩,h2⟩,h3⟩,h4⟩,_⟩,_⟩,_⟩:=this
  exact⟨h1,h2,h3,h4⟩
 have fl:∀a,a<2*T.ae.length→flip a<2*T.ae.length:=fun a ha=>by unfold flip;split<;>omega
 have tl:∀a,a<2*T.ae.length→0≤bm T a∧bm T a<T.nodes:=fun a ha=>by
  have:=lk (a / 2) (by omega)
  unfold bm;split
  ·exact this.1
  ·exact this.2.1
 refine⟨fun a ha=>?_,tl,fun a ha=>tl _ (fl a ha),⟨hb.1,hb.2.1⟩⟩
 have:=lk (a / 2) (by omega)
 unfold cp;split
 ·exact this.2.2.1
 ·exact this.2.2.2
def iM(N k:Nat):List Int:=List.replicate k (-1)++List.replicate (N - k) 0
theorem wj(N k:Nat)(h:k<N):(iM N k).set k (-1)=iM N (k+1):=by
 unfold iM
 rw[List.set_append_right _ _ (by simp)]
 rw[List.length_replicate,Nat.sub_self,show N - k=(N - (k+1))+1 by omega,List.replicate_succ,List.set_cons_zero,List.replicate_succ',List.append_assoc]
 rfl
theorem yT(N n:Nat):(iM N N).set n 0=start N n:=by simp[iM,start]
theorem Inv.ub{T:ak}{D:List Bool}{n:Nat}{dir:Bool}{out:List Int}(h:Inv T D n dir out)(x:Nat)(hx:(x:Int)<T.nodes)(hN:T.nodes≤64):at' out (x:Int)≤4194240:=by
 have h1:=h.J3 x hx
 have h2:=o8 out
 have h3:=h.len
 omega
end
end Net
end Go.Proofs.YtnegbdpggideiaaGreatDoor
namespace Go.Proofs.YtnegbdpggideiaaGreatDoor
namespace PW
section
open Go.RowKit cG Mem Net
theorem ve(T:ak)(hv:aq T=true):Can Tryz.prog 174 [aP T] (· =kC (dH (aS T) T.nodes.toNat (2*T.ae.length))):=by
 have hbd:=fY hv
 have hS:=aM hv
 obtain⟨n,hn⟩:∃n:Nat,T.nodes=(n:Int):=⟨T.nodes.toNat,by omega⟩
 rw[show T.nodes.toNat=n by omega]
 refine aH Tryz.func174 I Tryz.ntmps174 I<|ab (.a 2 I<|.k [1] I)<|aO<|aw 2 I<|b7 (dX I (ba.rk.get I) I I hn hn ⟨by unfold maxLen;omega,by omega⟩) I<|aw 1 I<|aE [1,3] I ?_
 refine pW 37 3 n ?_
 refine aj<|ab (.a 1 I<|.c rfl (iG T (by omega)) I<|.a 1 I<|.k [1,3,10,11] I)<|au<|eH [1,3,10,11] I<|bq (fun r s=>∃k,k≤2*T.ae.length∧r=2*T.ae.length - k∧s=⟨[(1,.bb (bC T) 0),(3,.own 0),(10,num (2*(T.ae.length:Int))),(11,num k)],lF 37 3 (dH (aS T) n k)⟩) (2*T.ae.length) ⟨0,by omega,by omega,by rw[rr];rfl⟩ ?_
 rintro r s ⟨k,hk,rfl,rfl⟩
 refine ab (.a 1 I<|.k [1,3,10,11,12] I)<|aj<|ag I (fun hc=>?_) (fun hc=>?_)
 ·have hlt:k<2*T.ae.length:=by have:=of_decide_eq_true hc;omega
  obtain⟨hd0,hhN⟩:=hS.head k hlt
  obtain⟨m,hm⟩:=Int.eq_ofNat_of_zero_le hd0
  have hmn:m<n:=by omega
  have hrl:=fv (aS T) n k
  have hgl:((dH (aS T) n k).getD m []).length≤k:=by
   rw[jn _ _ _ _ hmn]
   simp only[List.length_map]
   exact Nat.le_trans (List.length_filter_le _ _) (by simp)
  refine ai<|aj<|au<|ab (.a 2 I<|.k [1,3,4,10,11] I)<|ab (.a 2 I<|.c rfl (hm▸fZ T k hlt (by omega)) I<|.a 1 I<|.k [1,3,4,5,10,11] I)<|bI<|aw 4 I<|bw (aN (m) I) I<|bw (aJ I (ml _ m (by omega))) I<|aw 2 I<|b7 (bh I (ba.rk.get I) I (mg _ _ _ m (by omega)) I I ⟨by unfold maxLen;omega,by omega⟩) I<|bw (aN (m) I) I<|bc (cd I (ba.tk.get I) I I I (by show m<(gb _).length;simp[gb];omega)) I I<|aE [1,3,10,11] I ?_
  refine dI (FZ (dH (aS T) n k).length m) (.cons 1 I Ren.pure<|.cons 3 I (Ren.own (i:=0) I)<|.cons 10 I Ren.pure<|.cons 11 I Ren.pure<|.nil) (wx 37 3 (dH (aS T) n k) m (by omega) (k:Int)) (tC _ _) I ?_
  rw[←sE (aS T) n k m hm hmn]
  refine aC (.v (aU I) I<|.a 1 I<|.k [1,3,10,11] I) ?_
  exact⟨2*T.ae.length - (k+1),by omega,k+1,by omega,rfl,rfl⟩
 ·have hke:k=2*T.ae.length:=by have:=of_decide_eq_false hc;omega
  subst hke
  exact bd<|ab (.a 2 I<|.k [2] I)<|ao<|⟨_,_,az.of I,wG _ _ _,rfl⟩
end
end PW
end Go.Proofs.YtnegbdpggideiaaGreatDoor
namespace Go.Proofs.YtnegbdpggideiaaGreatDoor
namespace Net
section
structure yv (T:ak) (D:List Bool) (n:Nat) (dir:Bool) (out K:List Int) (H:Nat→Prop) (S:Nat→Prop):Prop where
 len:(out.length:Int)=T.nodes
 ge:∀x:Nat,(x:Int)<T.nodes→ -1≤at' out (x:Int)
 root:at' out (n:Int)=0∨(H n∧K.getD n 0=0)
 s8:∀y,H y→(y:Int)<T.nodes∧at' out (y:Int)= -1
 mono:∀x y:Nat,(x:Int)<T.nodes→H y→at' out (x:Int)≤K.getD y 0
 pQ:∀y,H y→(y=n∧K.getD y 0=0)∨∃a,a<2*T.ae.length∧fL T dir a=(y:Int)∧Way T D n dir out a∧K.getD y 0=at' out (cY T dir a)+cp T a
 nm:∀x:Nat,(x:Int)<T.nodes→0≤at' out (x:Int)→x=n∨∃a,a<2*T.ae.length∧fL T dir a=(x:Int)∧Way T D n dir out a∧at' out (x:Int)=at' out (cY T dir a)+cp T a
 closed:∀a,a<2*T.ae.length→¬S a→Way T D n dir out a→(0≤at' out (fL T dir a)∧at' out (fL T dir a)≤at' out (cY T dir a)+cp T a)∨(H (fL T dir a).toNat∧K.getD (fL T dir a).toNat 0≤at' out (cY T dir a)+cp T a)
 ub:∀x:Nat,(x:Int)<T.nodes→at' out (x:Int)≤65535*(lu out:Int)
 Jn:∀y,H y→K.getD y 0≤65535*(lu out:Int)
theorem yv.key{T:ak}(hT:Sound T){D:List Bool}{n:Nat}{dir:Bool}{out K:List Int}{H S:Nat→Prop}(h:yv T D n dir out K H S){y:Nat}(hy:H y):0≤K.getD y 0:=by
 rcases h.pQ y hy with⟨_,h0⟩|⟨a,ha,_,hw,he⟩
 ·omega
 ·have:=hT.cost a ha
  have:=hw.2.1
  omega
theorem IS(L:List Int)(i j:Nat)(c:Int)(hi:i<L.length):(L.set i c).getD j 0=if j=i then c else L.getD j 0:=by
 by_cases h:j=i
 ·subst h;simp[List.getD_eq_getElem?_getD,hi]
 ·simp[List.getD_eq_getElem?_getD,List.getElem?_set,Ne.symm h,h]
theorem AZ(N:Nat):lu (List.replicate N (-1))=0:=by
 induction N with
 |zero=>rfl
 |succ N ih=>rw[List.replicate_succ];simp[lu,ih]
theorem rY(N x:Nat):at' (List.replicate N (-1)) (x:Int)= -1:=by
 unfold at'
 rw[List.getD_eq_getElem?_getD,List.getElem?_replicate]
 split<;>rfl
theorem CQ{T:ak}{D:List Bool}{N n:Nat}{dir:Bool}(hN:(N:Int)=T.nodes)(hn:n<N){K:List Int}{H:Nat→Prop}(hK:K.getD n 0=0)(hH:∀y,H y↔y=n):yv T D n dir (List.replicate N (-1)) K H (fun _=>False) where
 len:=by simpa using hN
 ge x _:=by rw[rY];omega
 root:=.inr ⟨(hH n).2 rfl,hK⟩
 s8 y hy:=by have:=(hH y).1 hy;subst this;exact⟨by omega,rY N y⟩
 mono x y _ hy:=by have:=(hH y).1 hy;subst this;rw[rY,hK];omega
 pQ y hy:=by have:=(hH y).1 hy;subst this;exact .inl ⟨rfl,hK⟩
 nm x _ h:=by rw[rY]at h;omega
 closed a _ _ hw:=by
  have:=hw.2.1
  have h2:at' (List.replicate N (-1)) (cY T dir a)= -1:=by
   unfold at'
   rw[List.getD_eq_getElem?_getD,List.getElem?_replicate]
   split<;>rfl
  rw[h2]at this;omega
 ub x _:=by rw[rY,AZ];omega
 Jn y hy:=by have:=(hH y).1 hy;subst this;rw[hK,AZ];omega
theorem G7{T:ak}(hT:Sound T){D:List Bool}{n:Nat}{dir:Bool}{out K:List Int}{H:Nat→Prop}(h:yv T D n dir out K H (fun _=>False)){i:Nat}(hi:H i)(hmin:∀j,H j→K.getD i 0≤K.getD j 0)(hKl:i<K.length){H':Nat→Prop}(hH':∀j,H' j↔H j∧j≠i):
  yv T D n dir (out.set i (K.getD i 0)) (K.set i 0) H' (fun a=>cY T dir a=(i:Int))∧lu (out.set i (K.getD i 0))=lu out+1∧(∀x:Nat,(x:Int)<T.nodes→at' (out.set i (K.getD i 0)) (x:Int)≤K.getD i 0)∧at' (out.set i (K.getD i 0)) (i:Int)=K.getD i 0∧0≤K.getD i 0∧K.getD i 0≤65535*(lu out:Int):=by
 obtain⟨hin,hineg⟩:=h.s8 i hi
 have hil:i<out.length:=by have:=h.len;omega
 have hd:=h.key hT hi
 have hdu:=h.Jn i hi
 have hat:=fun x:Nat=>yW out i x (K.getD i 0) hil
 have hK:∀j,j≠i→(K.set i 0).getD j 0=K.getD j 0:=fun j hj=>by rw[IS _ _ _ _ hKl,if_neg hj]
 have hcnt:lu (out.set i (K.getD i 0))=lu out+1:=by
  rw[qq out i _ hil hd,if_neg]
  have:out.getD i (-1)=at' out (i:Int):=by simp[at']
  rw[this,hineg];omega
 have hy:∀a,a<2*T.ae.length→Way T D n dir out a→Way T D n dir (out.set i (K.getD i 0)) a∧at' (out.set i (K.getD i 0)) (cY T dir a)=at' out (cY T dir a):=fun a ha hw=>by
  obtain⟨y,hy⟩:=Int.eq_ofNat_of_zero_le (hT.y dir a ha).1
  have hne:y≠i:=fun e=>by
   have:=hw.2.1
   rw[hy,e,hineg]at this;omega
  have e1:at' (out.set i (K.getD i 0)) (cY T dir a)=at' out (cY T dir a):=by rw[hy,hat y,if_neg hne]
  exact⟨⟨hw.1,by rw[e1];exact hw.2.1,hw.2.2⟩,e1⟩
 refine⟨⟨by simpa using h.len,fun x hx=>?_,?_,fun y hy'=>?_,fun x y hx hy'=>?_,fun y hy'=>?_,fun x hx h0=>?_,fun a ha hs hw=>?_,fun x hx=>?_,fun y hy'=>?_⟩,hcnt,fun x hx=>?_,by rw[hat i,if_pos rfl],hd,hdu⟩
 ·rw[hat x];split
  ·omega
  ·exact h.ge x hx
 ·by_cases e:n=i
  ·subst e
   left
   rw[hat n,if_pos rfl]
   rcases h.root with h0|⟨_,h0⟩
   ·omega
   ·exact h0
  ·rcases h.root with h0|⟨h1,h0⟩
   ·left;rw[hat n,if_neg e];exact h0
   ·right;exact⟨(hH' n).2 ⟨h1,e⟩,by rw[hK n e];exact h0⟩
 ·obtain⟨h1,h2⟩:=(hH' y).1 hy'
  obtain⟨h3,h4⟩:=h.s8 y h1
  exact⟨h3,by rw[hat y,if_neg h2];exact h4⟩
 ·obtain⟨h1,h2⟩:=(hH' y).1 hy'
  rw[hat x,hK y h2]
  split
  ·exact hmin y h1
  ·exact h.mono x y hx h1
 ·obtain⟨h1,h2⟩:=(hH' y).1 hy'
  rw[hK y h2]
  rcases h.pQ y h1 with h3|⟨a,ha,hx,hw,he⟩
  ·exact .inl h3
  ·obtain⟨k1,k2⟩:=hy a ha hw
   exact .inr ⟨a,ha,hx,k1,by rw[k2];exact he⟩
 ·rw[hat x]at h0 ⊢
  by_cases e:x=i
  ·subst e
   rw[if_pos rfl]
   rcases h.pQ x hi with⟨h3,_⟩|⟨a,ha,hx,hw,he⟩
   ·exact .inl h3
   ·obtain⟨k1,k2⟩:=hy a ha hw
    exact .inr ⟨a,ha,hx,k1,by rw[k2];exact he⟩
  ·rw[if_neg e]at h0 ⊢
   rcases h.nm x hx h0 with h3|⟨a,ha,hx,hw,he⟩
   ·exact .inl h3
   ·obtain⟨k1,k2⟩:=hy a ha hw
    exact .inr ⟨a,ha,hx,k1,by rw[k2];exact he⟩
 ·obtain⟨y,hya⟩:=Int.eq_ofNat_of_zero_le (hT.y dir a ha).1
  have hne:y≠i:=fun e=>hs (by rw[hya,e])
  have e1:at' (out.set i (K.getD i 0)) (cY T dir a)=at' out (cY T dir a):=by rw[hya,hat y,if_neg hne]
  have hw0:Way T D n dir out a:=⟨hw.1,by rw[←e1];exact hw.2.1,hw.2.2⟩
  obtain⟨x,hxa⟩:=Int.eq_ofNat_of_zero_le (hT.x dir a ha).1
  have hc:=h.closed a ha (fun f=>f) hw0
  rw[e1]
  rw[hxa]at hc ⊢
  rw[Int.toNat_natCast]at hc ⊢
  rw[hat x]
  by_cases e:x=i
  ·subst e
   left
   rw[if_pos rfl]
   rcases hc with⟨h1,_⟩|⟨_,h2⟩
   ·rw[hineg]at h1;omega
   ·exact⟨hd,h2⟩
  ·rw[if_neg e]
   rcases hc with h1|⟨h1,h2⟩
   ·exact .inl h1
   ·exact .inr ⟨(hH' x).2 ⟨h1,e⟩,by rw[hK x e];exact h2⟩
 ·rw[hat x,hcnt]
  split
  ·omega
  ·have:=h.ub x hx;omega
 ·obtain⟨h1,h2⟩:=(hH' y).1 hy'
  rw[hK y h2,hcnt]
  have:=h.Jn y h1;omega
 ·rw[hat x]
  split
  ·omega
  ·exact h.mono x i hx hi
theorem Fp{T:ak}{D:List Bool}{n:Nat}{dir:Bool}{out K:List Int}{H:Nat→Prop}{i:Nat}(h:yv T D n dir out K H (fun a=>cY T dir a=(i:Int)))(hi:i≠n)(ho:dp T i=true):yv T D n dir out K H (fun _=>False):=
 {h with closed:=fun a ha _ hw=>h.closed a ha (fun e=>by
   rcases hw.2.2 with h1|h1
   ·rw[h1]at e;exact hi (by omega)
   ·rw[e,Int.toNat_natCast,ho]at h1;cases h1) hw}
theorem A0{T:ak}{D:List Bool}{n:Nat}{dir:Bool}{out K:List Int}{H S S':Nat→Prop}(h:yv T D n dir out K H S){a:Nat}(hS:∀b,b<2*T.ae.length→S b→S' b∨b=a)
  (hc:Way T D n dir out a→(0≤at' out (fL T dir a)∧at' out (fL T dir a)≤at' out (cY T dir a)+cp T a)∨(H (fL T dir a).toNat∧K.getD (fL T dir a).toNat 0≤at' out (cY T dir a)+cp T a)):yv T D n dir out K H S':=
 ⟨h.len,h.ge,h.root,h.s8,h.mono,h.pQ,h.nm,fun b hb hs hw=>by
   by_cases e:b=a
   ·subst e
    exact hc hw
   ·exact h.closed b hb (fun hb'=>(hS b hb hb').elim hs e) hw,h.ub,h.Jn⟩
theorem Gi{T:ak}(hT:Sound T){D:List Bool}{n:Nat}{dir:Bool}{out K:List Int}{H H' S S':Nat→Prop}(h:yv T D n dir out K H S){a m:Nat}(ha:a<2*T.ae.length)(hS:∀b,b<2*T.ae.length→S b→S' b∨b=a)
  (hw:Way T D n dir out a) (hm:fL T dir a=(m:Int)) (s8:at' out (m:Int)<0) (htop:∀x:Nat,(x:Int)<T.nodes→at' out (x:Int)≤at' out (cY T dir a)) (hub:at' out (cY T dir a)+65535≤65535*(lu out:Int))
  (hnew:¬H m∨at' out (cY T dir a)+cp T a<K.getD m 0) (hml:m<K.length) (hH':∀j,H' j↔H j∨j=m):
  yv T D n dir out (K.set m (at' out (cY T dir a)+cp T a)) H' S':=by
 have hc:=hT.cost a ha
 have hmN:(m:Int)<T.nodes:=by have:=(hT.x dir a ha).2;omega
 have hK:∀j,(K.set m (at' out (cY T dir a)+cp T a)).getD j 0=if j=m then at' out (cY T dir a)+cp T a else K.getD j 0:=fun j=>IS _ _ _ _ hml
 have hy0:=hw.2.1
 refine⟨h.len,h.ge,?_,fun y hy=>?_,fun x y hx hy=>?_,fun y hy=>?_,h.nm,fun b hb hs hwb=>?_,h.ub,fun y hy=>?_⟩
 ·rcases h.root with h0|⟨h1,h0⟩
  ·exact .inl h0
  ·right
   refine⟨(hH' n).2 (.inl h1),?_⟩
   rw[hK n,if_neg,h0]
   intro e
   subst e
   rcases hnew with h2|h2
   ·exact h2 h1
   ·omega
 ·rcases(hH' y).1 hy with h1|rfl
  ·exact h.s8 y h1
  ·have:=h.ge y hmN
   exact⟨hmN,by omega⟩
 ·rw[hK y]
  have:=htop x hx
  split
  ·omega
  ·rename_i e
   exact h.mono x y hx (((hH' y).1 hy).resolve_right e)
 ·rw[hK y]
  by_cases e:y=m
  ·subst e
   rw[if_pos rfl]
   exact .inr ⟨a,ha,hm,hw,rfl⟩
  ·rw[if_neg e]
   exact h.pQ y (((hH' y).1 hy).resolve_right e)
 ·obtain⟨x,hx⟩:=Int.eq_ofNat_of_zero_le (hT.x dir b hb).1
  by_cases e:b=a
  ·subst e
   right
   rw[hm,Int.toNat_natCast]
   exact⟨(hH' m).2 (.inr rfl),by rw[hK m,if_pos rfl];exact Int.le_refl _⟩
  ·have h1:=h.closed b hb (fun hb'=>(hS b hb hb').elim hs e) hwb
   rw[hx,Int.toNat_natCast]at h1 ⊢
   rcases h1 with h1|⟨h1,h2⟩
   ·exact .inl h1
   ·right
    refine⟨(hH' x).2 (.inl h1),?_⟩
    rw[hK x]
    split
    ·rename_i e'
     subst e'
     rcases hnew with h3|h3
     ·exact absurd h1 h3
     ·omega
    ·exact h2
 ·rw[hK y]
  split
  ·omega
  ·rename_i e
   exact h.Jn y (((hH' y).1 hy).resolve_right e)
theorem GN{T:ak}{D:List Bool}{n:Nat}{dir:Bool}{out K:List Int}{H:Nat→Prop}(h:yv T D n dir out K H (fun _=>False))(hH:∀y,¬H y):iT T D n dir out:=
 ⟨h.len,h.root.resolve_right (fun k=>hH n k.1),h.ge,fun a ha hw=>(h.closed a ha (fun f=>f) hw).resolve_right (fun k=>hH _ k.1),h.nm⟩
end
end Net
end Go.Proofs.YtnegbdpggideiaaGreatDoor
namespace Go.Proofs.YtnegbdpggideiaaGreatDoor
namespace PW
section
open Go.RowKit cG Mem Net Heap
theorem HU{N n:Nat}{K P O:List Int}(h:Db N n K P O)(hN:N≤65536){i:Nat}(hi:O.getD 0 0=(i:Int))(j:Nat)(hj:eX O (j:Int)):K.getD i 0≤K.getD j 0:=by
 obtain⟨hP,hO,hK,hH⟩:=h
 obtain⟨p,hp,he⟩:=hj
 have h1:=CF hH p (by omega)
 unfold rk at h1
 rw[hi,he]at h1
 have h2:=hP.item p hp
 have:=EA (by omega) (by omega) h1
 simpa using this
theorem GY(N:Nat):Db N 0 (List.replicate N 0) (List.replicate N 0) []:=
 ⟨⟨by simp,fun p hp=>by simp at hp,fun i hi=>.inl (by simp[List.getD_eq_getElem?_getD,List.getElem?_replicate,hi])⟩,rfl,by simp,fun q _ hq=>by omega⟩
theorem zF{P:Program}{M:Nat}{c:Code}{t:cn}{Q:Exit→St→Prop}{b:Bool}{d:Option cK}{N n:Nat}{K Pl O:List Int}(hd:lq d)(hT:nA [0,1,2,3,5] t t)(h:W P M 0 c ⟨t,iS false d N n K Pl O⟩ Q):W P M 0 c ⟨t,iS b d N n K Pl O⟩ Q:=by
 cases b
 ·exact h
 ·exact dI [0,1,2,3,5] hT (.same hd rfl<|.kept rfl (.cells (aI.cons (Ren.own (i:=2) I)<|aI.cons (Ren.own (i:=3) I)<|aI.cons (Ren.own (i:=4) I) aI.nil))<|.kept rfl (.row aI.pure)<|.kept rfl (.row aI.pure)<|.kept rfl (.row aI.pure)<|.nil) I I h
theorem eF{P:Program}{M L:Nat}{c:Code}{t:cn}{Q:Exit→St→Prop}{σ σ':cg}(he:σ=σ')(h:W P M L c ⟨t,σ'⟩ Q):W P M L c ⟨t,σ⟩ Q:=by subst he;exact h
theorem HJ{N n:Nat}(d:Option cK)(hd:lq d)(K P O:List Int)(h:Db N n K P O)(hN:N≤65536):
  bU Tryz.prog 199 [.ptr 1 0] (iS false d N n K P O) (fun r σ'=>∃(b ok:Bool) (i n':Nat) (key:Int) (K' P' O':List Int),r= .tuple [num i,num key,flag ok]∧σ'=iS b d N n' K' P' O'∧
   ((ok=false∧n=0)∨(ok=true∧i<N∧eX O (i:Int)∧(∀j:Nat,eX O (j:Int)→K.getD i 0≤K.getD j 0)∧key=K.getD i 0∧K'=K.set i 0∧Db N n' K' P' O'∧∀j:Nat,eX O' (j:Int)↔eX O (j:Int)∧j≠i))):=by
 refine(HN d hd K P O h hN).mono fun r σ' hr=>?_
 rcases hr with⟨h1,rfl,rfl⟩|⟨n',i,P',O',h1,h2,h3,rfl,rfl,h4,h5⟩
 ·exact⟨false,false,0,n,0,K,P,O,rfl,rfl,.inl ⟨rfl,h1⟩⟩
 ·refine⟨true,true,i,n',K.getD i 0,K.set i 0,P',O',rfl,rfl,.inr ⟨rfl,h2,⟨0,by have:=h.2.1;omega,h3⟩,HU h hN h3,rfl,rfl,h4,fun j=>(h5 j).trans ?_⟩⟩
  constructor<;>rintro⟨a,b⟩<;>exact⟨a,by omega⟩
def mO(T:ak)(D:List Bool)(n:Nat)(f1 f2:FuncId)(cap1 cap2:List PV):List PV:=[.raw (.int .i64 T.nodes),bn T.over,.slice T.ae.length (iH T.ae),bn D,num n,.func f1 cap1,.func f2 cap2]
instance (T:ak) (D:List Bool) (n:Nat) (f1 f2:FuncId) (cap1 cap2:List PV) [aL cap1] [aL cap2]:aL (mO T D n f1 f2 cap1 cap2):=by unfold mO;infer_instance
def dc(T:ak)(dir:Bool)(i:Nat):List Int:=((List.range (2*T.ae.length)).filter fun a=>decide (cY T dir a=(i:Int))).map Int.ofNat
theorem qS(T:ak)(dir:Bool)(i:Nat)(a:Nat):(a:Int)∈dc T dir i↔a<2*T.ae.length∧cY T dir a=(i:Int):=by
 unfold dc
 simp only[List.mem_map,List.mem_filter,List.mem_range,decide_eq_true_eq]
 constructor
 ·rintro⟨b,h,e⟩
  have:b=a:=Int.ofNat.inj e
  subst this;exact h
 ·intro h;exact⟨a,h,rfl⟩
theorem zG(T:ak)(dir:Bool)(i k:Nat)(h:k<(dc T dir i).length):∃a:Nat,(dc T dir i).getD k 0=(a:Int)∧a<2*T.ae.length∧cY T dir a=(i:Int):=by
 have hm:(dc T dir i).getD k 0∈dc T dir i:=cr h
 have:∃a:Nat,(dc T dir i).getD k 0=(a:Int):=by
  unfold dc at hm ⊢
  obtain⟨b,_,e⟩:=List.mem_map.1 hm
  exact⟨b,e.symm⟩
 obtain⟨a,ha⟩:=this
 rw[ha]at hm
 exact⟨a,ha,(qS T dir i a).1 hm⟩
theorem yO(T:ak)(dir:Bool)(i:Nat):(dc T dir i).length≤2*T.ae.length:=by
 unfold dc
 rw[List.length_map]
 exact Nat.le_trans (List.length_filter_le _ _) (by simp)
theorem Ef(N k:Nat)(h:k<N):(List.replicate k (-1:Int)++List.replicate (N - k) 0).set k (-1)=List.replicate (k+1) (-1)++List.replicate (N - (k+1)) 0:=by
 rw[List.set_append_right _ _ (by simp),List.length_replicate,Nat.sub_self,show N - k=(N - (k+1))+1 by omega,List.replicate_succ,List.set_cons_zero,List.replicate_succ',List.append_assoc]
 rfl
theorem qT(N:Nat):dS [.raw (.int .i64 0)] N=aK (List.replicate 0 (-1)++List.replicate (N - 0) 0):=by simpa using db N
theorem kS(n:Nat)(L:List Int):lq (some (.row 3 1 n (aK L))):=fun b h=>by
 cases h
 exact inferInstanceAs (aL (aK L))
theorem Jd{σ:cg}{K P O:List Int}(h:ay σ (.ptr 1 0) (xA K P O))(p:Int):ah σ ([.ptr 1 0,num p]++[]) [xA K P O,num p]:=ah.cons h (ah.cons ay.pure ah.nil)
set_option maxHeartbeats 4000000 in
theorem Ap(T:ak)(D:List Bool)(n:Nat)(dir:Bool)(f1 f2:FuncId)(cap1 cap2:List PV)[aL cap1][aL cap2](hv:aq T=true)(hf:bW T D=true)(hn:(n:Int)<T.nodes)(he1:enters Tryz.prog f1=true)(he2:enters Tryz.prog f2=true)
  (h1:∀i:Nat,(i:Int)<T.nodes→Can Tryz.prog f1 ([num i]++cap1) (· =av (dc T dir i))) (h2:∀a:Nat,a<2*T.ae.length→Can Tryz.prog f2 ([num a]++cap2) (· =num (fL T dir a))):
  Can Tryz.prog 177 [.agg (mO T D n f1 f2 cap1 cap2)] (· =av (bG T D n dir)):=by
 have hbd:=fY hv
 have hS:=aM hv
 obtain⟨N,hN⟩:∃N:Nat,T.nodes=(N:Int):=⟨T.nodes.toNat,by omega⟩
 have hN64:N≤64:=by have:=hS.nodes;omega
 have hnN:n<N:=by omega
 refine aH Tryz.func177 I Tryz.ntmps177 I<|ab (.a 2 I<|.k [1] I)<|aO<|aw 3 I<|b7 (dX I (ba.rk.get I) I I hN hN ⟨by unfold maxLen;omega,by omega⟩) I<|aw 1 I<|aE [1,3] I ?_
 refine aj<|ab (.a 3 I<|.k [1,3,21,22] I)<|au<|eH [1,3,21,22] I<|bq (fun r s=>∃k,k≤N∧r=N - k∧s=⟨[(1,.bb (mO T D n f1 f2 cap1 cap2) 0),(3,.own 0),(21,num N),(22,num k)],[some (.row 3 1 N (aK (List.replicate k (-1)++List.replicate (N - k) 0)))]⟩) N ⟨0,by omega,by omega,by rw[←qT N];rfl⟩ ?_
 rintro r s ⟨k,hk,rfl,rfl⟩
 refine ab (.a 1 I<|.k [1,3,21,22,23] I)<|aj<|ag I (fun hc=>?_) (fun hc=>?_)
 ·have hlt:k<N:=by have:=of_decide_eq_true hc;omega
  refine ai<|aj<|au<|ab (.a 2 I<|.k [1,3,4,21,22] I)<|bI<|aw 2 I<|bw (aN (k) I) I<|bc ((by first|exact bN I (ba.tk.get I) I I I (by first|omega|(simp;omega))|exact bg I (ba.tk.get I) I I I (by first|omega|(simp;omega)))) I I<|aE [1,3,21,22] I ?_
  refine eF (σ':=[some (.row 3 1 N (aK (List.replicate (k+1) (-1)++List.replicate (N - (k+1)) 0)))]) (by rw[←Ef N k hlt];rfl) ?_
  refine aC (.v (aU I) I<|.a 1 I<|.k [1,3,21,22] I) ?_
  exact⟨N - (k+1),by omega,k+1,by omega,rfl,rfl⟩
 ·have hke:k=N:=by have:=of_decide_eq_false hc;omega
  subst hke
  refine eF (σ':=[some (.row 3 1 k (aK (List.replicate k (-1))))]) (by simp) ?_
  refine bd<|aO<|aw 2 I<|bw (aJ I ((show some (num T.nodes)=some (num (k:Int)) by rw[hN]))) I<|cN I I (bU.mono (Im k (some (.row 3 1 k (aK (List.replicate k (-1))))) (kS _ _) (by omega)) (fun _ σ' h=>?_))
  obtain⟨rfl,rfl⟩:=h
  refine aw 5 I<|aE [1,3,5] I ?_
  refine aO<|aw 3 I<|cN I I (bU.mono (As (some (.row 3 1 k (aK (List.replicate k (-1))))) (kS _ _) _ _ _ (GY k) (by omega) n hnN 0) (fun _ σ' h=>?_))
  obtain⟨b,n1,P1,O1,rfl,hok,hheld⟩:=h
  refine aE [1,3,5] I ?_
  refine zF (kS _ _) (.cons 1 I Ren.pure<|.cons 3 I (Ren.own (i:=0) I)<|.cons 5 I (Ren.ptr (i:=1) I)<|.nil) ?_
  have hD0:=CQ (T:=T) (D:=D) (N:=k) (n:=n) (dir:=dir) hN.symm hnN (K:=(List.replicate k (0:Int)).set n 0) (H:=fun y=>eX O1 (y:Int)) (by rw[IS _ _ _ _ (by simpa using hnN),if_pos rfl]) (fun y=>(hheld y).trans ⟨fun h=>h.elim (fun⟨p,hp,_⟩=>by simp at hp) (fun e=>by omega),fun e=>.inr (by omega)⟩)
  generalize (List.replicate k (0:Int)).set n 0=K1 at hok hD0
  generalize List.replicate k (-1:Int)=out1 at hD0
  clear hheld
  refine au<|eH [1,3,5] I<|bq (fun r s=>∃out K P O q,yv T D n dir out K (fun y=>eX O (y:Int)) (fun _=>False)∧Db k q K P O∧r=k+1 - lu out∧s=⟨[(1,.bb (mO T D n f1 f2 cap1 cap2) 0),(3,.own 0),(5,.ptr 1 0)],iS false (some (.row 3 1 k (aK out))) k q K P O⟩) (k+1 - lu out1) ⟨out1,K1,P1,O1,n1,hD0,hok,rfl,rfl⟩ ?_
  clear hD0 hok out1 K1 P1 O1 n1 b
  rintro r s ⟨out,K,P,O,q,hD,hok,rfl,rfl⟩
  refine au<|aO<|aw 1 I<|cN I I (bU.mono (HJ (some (.row 3 1 k (aK out))) (kS _ _) K P O hok (by omega)) (fun _ σ' h=>?_))
  obtain⟨b,ok,i,n1,key,K1,P1,O1,rfl,rfl,hpop⟩:=h
  refine aw 7 I<|aE [1,3,5,7,8,9] I ?_
  refine zF (kS _ _) (.cons 1 I Ren.pure<|.cons 3 I (Ren.own (i:=0) I)<|.cons 5 I (Ren.ptr (i:=1) I)<|.cons 7 I Ren.pure<|.cons 8 I Ren.pure<|.cons 9 I Ren.pure<|.nil) ?_
  refine aj<|ab (.a 2 I<|.k [1,3,5,7,8,47] I)<|ag I (fun hc=>?_) (fun hc=>?_)
  ·have hok0:ok=false:=by cases ok;rfl;cases hc
   have hq0:q=0:=by
    rcases hpop with⟨_,h⟩|⟨h,_⟩
    ·exact h
    ·rw[hok0]at h;cases h
   have hdist:bG T D n dir=out:=kB hS (GN hD (fun y ⟨p,hp,_⟩=>by have:=hok.2.1;omega))
   exact ab (.a 2 I<|.k [2] I)<|ao<|⟨_,_,az.of I,ay.fy rfl ah.pure,by rw[hdist];unfold av;rw[show out.length=k by have:=hD.len;omega]⟩
  ·have hok1:ok=true:=by cases ok;cases hc;rfl
   rcases hpop with⟨h,_⟩|⟨_,hiN,hHi,hmin,rfl,rfl,hok',hH'⟩
   ·rw[hok1]at h;cases h
   obtain⟨hD1,hcnt,htop,hati,hk0,hku⟩:=G7 hS hD hHi hmin (by rw[hok.2.2.1];exact hiN) hH'
   have hol:out.length=k:=by have:=hD.len;omega
   have hcl:=o8 (out.set i (K.getD i 0))
   have hiT:(i:Int)<T.nodes:=by omega
   refine ai<|aO<|aw 3 I<|bw (aN (i) I) I<|bc ((by first|exact bN I (ba.tk.get I) I I I (by first|omega|(simp;omega))|exact bg I (ba.tk.get I) I I I (by first|omega|(simp;omega)))) I I<|aE [1,3,5,7,8] I ?_
   refine eF (σ':=iS false (some (.row 3 1 k (aK (out.set i (K.getD i 0))))) k n1 (K.set i 0) P1 O1) I ?_
   have ho1:(out.set i (K.getD i 0)).length=k:=by simpa using hol
   have hmeas:k+1 - lu (out.set i (K.getD i 0))<k+1 - lu out:=by have:=o8 (out.set i (K.getD i 0));omega
   generalize K.getD i 0=d at hD1 hcnt htop hati hk0 hku ho1 hcl hmeas
   generalize out.set i d=out1 at hD1 hcnt htop hati ho1 hcl hmeas
   generalize K.set i 0=K1 at hD1 hok'
   refine aj ?_
   obtain⟨q1,hq1⟩:∃q,decide ((i:Int)≠(n:Int))=q:=⟨_,rfl⟩
   obtain⟨q2,hq2⟩:∃q,dp T i=q:=⟨_,rfl⟩
   have hov:T.over.length=0∨i<T.over.length:=by have:=hbd.2.2.2;omega
   refine bz 62 (.raw (.bool (q1&&q2))) [1,3,5,7,8] I ?_ ?_
   ·refine .a 3 I<|.v (cf I (hq1)) I<|.a 1 I<|?_
    cases q1
    ·exact .a 5 I<|.k [62,1,3,5,7,8] I
    ·exact .a 3 I<|.c rfl (hq2▸ox T i hov) I<|.a 1 I<|.k [62,1,3,5,7,8] I
   refine ag I (fun hc=>?_) (fun hc=>?_)
   ·obtain⟨c1,c2⟩:=Bool.and_eq_true_iff.1 hc
    rw[c1]at hq1
    rw[c2]at hq2
    have hDe:=Fp hD1 (by have:=of_decide_eq_true hq1;omega) hq2
    refine ln (.cons (k:=1) I<|.cons (k:=3) I<|.cons (k:=5) I<|Sub.nil _) ?_
    refine bd ?_
    first
     |exact⟨_,hmeas,out1,K2,P2,O2,q2,hDe,hok2,rfl,rfl⟩
     |exact⟨_,hmeas,out1,K1,P1,O1,n1,hDe,hok',rfl,rfl⟩
   ·have hfree:i=n∨dp T i=false:=by
     by_cases e:i=n
     ·exact .inl e
     ·right
      have:q1=true:=by rw[←hq1];simp;omega
      rw[this,Bool.true_and]at hc
      rw[hq2,hc]
    clear hq1 hq2 hc
    refine ai<|ab (.a 3 I<|.v (sh I he1 rfl rfl (h1 i hiT)) I<|.a 2 I<|.k [1,3,5,8,66,67,68] I) ?_
    have hll:=yO T dir i
    have hD2:yv T D n dir out1 K1 (fun y=>eX O1 (y:Int)) (fun a=>cY T dir a=(i:Int)∧(a:Int)∉(dc T dir i).take 0):=⟨hD1.len,hD1.ge,hD1.root,hD1.s8,hD1.mono,hD1.pQ,hD1.nm,fun a ha hs=>hD1.closed a ha (fun e=>hs ⟨e,by simp⟩),hD1.ub,hD1.Jn⟩
    refine au<|eH [1,3,5,8,66,67,68] I<|bq (fun r s=>∃j K P O q,j≤(dc T dir i).length∧yv T D n dir out1 K (fun y=>eX O (y:Int)) (fun a=>cY T dir a=(i:Int)∧(a:Int)∉(dc T dir i).take j)∧Db k q K P O∧r=(dc T dir i).length - j∧s=⟨[(1,.bb (mO T D n f1 f2 cap1 cap2) 0),(3,.own 0),(5,.ptr 1 0),(8,num d),(66,av (dc T dir i)),(67,num (dc T dir i).length),(68,num j)],iS false (some (.row 3 1 k (aK out1))) k q K P O⟩) (dc T dir i).length ⟨0,K1,P1,O1,n1,by omega,hD2,hok',rfl,rfl⟩ ?_
    clear hD2 hok' hD1 K1 P1 O1 n1 hH' hmin hHi hD hok
    rintro r s ⟨j,K2,P2,O2,q2,hj,hD2,hok2,rfl,rfl⟩
    refine ab (.a 1 I<|.k [1,3,5,8,66,67,68,69] I)<|aj<|ag I (fun hc=>?_) (fun hc=>?_)
    ·have hlt:j<(dc T dir i).length:=by have:=of_decide_eq_true hc;omega
     obtain⟨a,ha,ham,hay⟩:=zG T dir i j hlt
     obtain⟨m,hm⟩:=Int.eq_ofNat_of_zero_le (hS.x dir a ham).1
     have hmN:m<k:=by have:=(hS.x dir a ham).2;omega
     have hcb:=hS.cost a ham
     have hDl:D.length=0∨a<D.length:=by simp only[bW,decide_eq_true_eq]at hf;omega
     have hSS:∀b,b<2*T.ae.length→(cY T dir b=(i:Int)∧(b:Int)∉(dc T dir i).take j)→(cY T dir b=(i:Int)∧(b:Int)∉(dc T dir i).take (j+1))∨b=a:=fun b _ ⟨e1,e2⟩=>by
      by_cases e:b=a
      ·exact .inr e
      ·left
       refine⟨e1,fun hm'=>?_⟩
       rw[dK _ j 0 hlt,ha]at hm'
       rcases List.mem_append.1 hm' with h|h
       ·exact e2 h
       ·simp at h;exact e (by omega)
     have hayi:at' out1 (cY T dir a)=d:=by rw[hay];exact hati
     have hga:out1.getD m 0=at' out1 (m:Int):=by simp[at',List.getD_eq_getElem?_getD,show m<out1.length by omega]
     refine ai<|aj<|au<|ab (.v (aN (j) I) I<|.v (aJ I ((aB _ j hlt).trans (by rw[ha]))) I<|.a 1 I<|.k [1,3,5,8,11,66,67,68] I)<|ab (.a 3 I<|.v (sh I he2 rfl rfl (hm▸h2 a ham)) I<|.a 1 I<|.k [1,3,5,8,11,12,66,67,68] I)<|aj ?_
     obtain⟨p1,hp1⟩:∃q,aQ D a=q:=⟨_,rfl⟩
     obtain⟨p2,hp2⟩:∃q,decide (0≤out1.getD m 0)=q:=⟨_,rfl⟩
     refine bz 86 (.raw (.bool (p1||p2))) [1,3,5,8,11,12,66,67,68] I ?_ ?_
     ·refine .a 3 I<|.c rfl (hp1▸jy D a hDl) I<|.a 1 I<|?_
      cases p1
      ·exact .a 2 I<|.v (aN (m) I) I<|.v (aJ I (aB out1 m (by omega))) I<|.v (cf I (hp2)) I<|.a 1 I<|.k [86,1,3,5,8,11,12,66,67,68] I
      ·exact .a 6 I<|.k [86,1,3,5,8,11,12,66,67,68] I
     refine ag I (fun hc=>?_) (fun hc=>?_)
     ·have hD3:=A0 (S':=fun b=>cY T dir b=(i:Int)∧(b:Int)∉(dc T dir i).take (j+1)) hD2 hSS (fun hw=>.inl (by
       rcases Bool.or_eq_true_iff.1 hc with h|h
       ·rw[hw.1]at hp1;rw[h]at hp1;cases hp1
       ·rw[h]at hp2
        have h3:=of_decide_eq_true hp2
        rw[hga]at h3
        rw[hm,hayi]
        have:=htop m (by omega)
        exact⟨h3,by omega⟩))
      refine bd<|aC (.v (aU I) I<|.a 1 I<|.k [1,3,5,8,66,67,68] I) ?_
      first
       |exact⟨(dc T dir i).length - (j+1),by omega,j+1,_,P3,O3,n3,by omega,hD3,hok3,rfl,rfl⟩
       |exact⟨(dc T dir i).length - (j+1),by omega,j+1,K2,P2,O2,q2,by omega,hD3,hok2,rfl,rfl⟩
     ·obtain⟨c1,c2⟩:=Bool.or_eq_false_iff.1 hc
      rw[c1]at hp1
      rw[c2]at hp2
      have hmneg:at' out1 (m:Int)<0:=by have:=of_decide_eq_false hp2;rw[hga]at this;omega
      have hway:Net.Way T D n dir out1 a:=⟨hp1,by rw[hayi];exact hk0,by rw[hay,Int.toNat_natCast];rcases hfree with h|h;(exact .inl (by rw[h]));exact .inr h⟩
      refine ai<|ab (.a 4 I<|.c rfl (mn T a ham) I<|.v (aU I) I<|.a 1 I<|.k [1,3,5,8,12,13,66,67,68] I) ?_
      obtain⟨p3,hp3⟩:∃q,(!decide (P2.getD m 0=0))=q:=⟨_,rfl⟩
      obtain⟨kv,hkv⟩:∃z,(if P2.getD m 0=0 then 0 else K2.getD m 0)=z:=⟨_,rfl⟩
      have hkc:=Gh K2 P2 O2 hok2.1.len hok2.2.2.1 (by omega) m hmN
      rw[hp3,hkv]at hkc
      refine ab (.a 2 I<|.v (I2 I (Jd (si false _ hok2.2.2.1 hok2.1.len hok2.2.1) _) (hkc)) I<|.a 5 I<|.k [1,3,5,8,12,13,14,15,66,67,68] I) ?_
      obtain⟨p4,hp4⟩:∃q,decide (d+cp T a<kv)=q:=⟨_,rfl⟩
      refine bz 105 (.raw (.bool ((!p3)||p4))) [1,3,5,8,12,13,66,67,68] I ?_ ?_
      ·refine .a 3 I<|?_
       cases p3
       ·exact .a 4 I<|.k [105,1,3,5,8,12,13,66,67,68] I
       ·exact .a 2 I<|.v (cf I (hp4)) I<|.a 1 I<|.k [105,1,3,5,8,12,13,66,67,68] I
      refine ag I (fun hc=>?_) (fun hc=>?_)
      ·have hnew:¬eX O2 (m:Int)∨at' out1 (cY T dir a)+cp T a<K2.getD m 0:=by
        rw[hayi]
        by_cases e:P2.getD m 0=0
        ·exact .inl ((hok2.1.zero hmN).1 e)
        ·right
         have h3:p3=true:=by rw[←hp3];simp only[e];rfl
         rw[h3]at hc
         have h4:p4=true:=by simpa using hc
         rw[h4]at hp4
         have:=of_decide_eq_true hp4
         rw[if_neg e]at hkv
         omega
       refine bI<|aw 3 I<|cN I I (bU.mono (As (some (.row 3 1 k (aK out1))) (kS _ _) K2 P2 O2 hok2 (by omega) m hmN (d+cp T a)) (fun _ σ' h=>?_))
       obtain⟨b3,n3,P3,O3,rfl,hok3,hH3⟩:=h
       refine aE [1,3,5,8,66,67,68] I ?_
       refine zF (kS _ _) (.cons 1 I Ren.pure<|.cons 3 I (Ren.own (i:=0) I)<|.cons 5 I (Ren.ptr (i:=1) I)<|.cons 8 I Ren.pure<|.cons 66 I Ren.pure<|.cons 67 I Ren.pure<|.cons 68 I Ren.pure<|.nil) ?_
       have hD3:=Gi (S':=fun b=>cY T dir b=(i:Int)∧(b:Int)∉(dc T dir i).take (j+1)) (H':=fun y=>eX O3 (y:Int)) hS hD2 ham hSS hway hm hmneg (fun x hx=>by rw[hayi];exact htop x hx) (by rw[hayi];omega) hnew (by rw[hok2.2.2.1];exact hmN) (fun y=>(hH3 y).trans ⟨fun h=>h.imp id (fun e=>by omega),fun h=>h.imp id (fun e=>by omega)⟩)
       rw[hayi]at hD3
       refine aC (.v (aU I) I<|.a 1 I<|.k [1,3,5,8,66,67,68] I) ?_
       first
        |exact⟨(dc T dir i).length - (j+1),by omega,j+1,_,P3,O3,n3,by omega,hD3,hok3,rfl,rfl⟩
        |exact⟨(dc T dir i).length - (j+1),by omega,j+1,K2,P2,O2,q2,by omega,hD3,hok2,rfl,rfl⟩
      ·obtain⟨c3,c4⟩:=Bool.or_eq_false_iff.1 hc
       have h3:p3=true:=by cases p3;cases c3;rfl
       rw[h3]at hp3
       rw[c4]at hp4
       have e:P2.getD m 0≠0:=fun e=>by rw[e]at hp3;cases hp3
       have hD3:=A0 (S':=fun b=>cY T dir b=(i:Int)∧(b:Int)∉(dc T dir i).take (j+1)) hD2 hSS (fun hw=>.inr (by
        rw[hm,Int.toNat_natCast,hayi]
        refine⟨Classical.byContradiction fun hh=>e ((hok2.1.zero hmN).2 hh),?_⟩
        rw[if_neg e]at hkv
        have:=of_decide_eq_false hp4
        omega))
       refine ai<|aC (.v (aU I) I<|.a 1 I<|.k [1,3,5,8,66,67,68] I) ?_
       first
        |exact⟨(dc T dir i).length - (j+1),by omega,j+1,_,P3,O3,n3,by omega,hD3,hok3,rfl,rfl⟩
        |exact⟨(dc T dir i).length - (j+1),by omega,j+1,K2,P2,O2,q2,by omega,hD3,hok2,rfl,rfl⟩
    ·have hje:j=(dc T dir i).length:=by have:=of_decide_eq_false hc;omega
     have hDe:yv T D n dir out1 K2 (fun y=>eX O2 (y:Int)) (fun _=>False):=⟨hD2.len,hD2.ge,hD2.root,hD2.s8,hD2.mono,hD2.pQ,hD2.nm,fun a ha _=>hD2.closed a ha (fun⟨e1,e2⟩=>e2 (by rw[hje,List.take_length];exact(qS T dir i a).2 ⟨ha,e1⟩)),hD2.ub,hD2.Jn⟩
     refine ln (.cons (k:=1) I<|.cons (k:=3) I<|.cons (k:=5) I<|Sub.nil _) ?_
     refine bd ?_
     first
      |exact⟨_,hmeas,out1,K2,P2,O2,q2,hDe,hok2,rfl,rfl⟩
      |exact⟨_,hmeas,out1,K1,P1,O1,n1,hDe,hok',rfl,rfl⟩
end
section
open Go.RowKit cG Mem Net eY
theorem gJ(T:ak)(k x:Int):Can Tryz.prog 80 [aP T,ca k x] (· =flag (aq T&&cj T k x)):=by
 obtain⟨q1,h1⟩:∃q,decide (0≤x)=q:=⟨_,rfl⟩
 obtain⟨q2,h2⟩:∃q,decide (x<(T.ae.length:Int))=q:=⟨_,rfl⟩
 obtain⟨q5,h5⟩:∃q,decide (x<T.nodes)=q:=⟨_,rfl⟩
 obtain⟨q3,h3⟩:∃q,decide (1≤x)=q:=⟨_,rfl⟩
 obtain⟨q4,h4⟩:∃q,decide (x≤64)=q:=⟨_,rfl⟩
 have hnb:bu T x=(q1&&q5):=by rw[←h1,←h5,←Bool.decide_and];rfl
 have hB:cj T k x=if k=1 then(q1&&q2) else if k=2 then(q1&&q5) else if k=3 then(q3&&q4) else false:=by unfold cj;rw[h1,h2,h3,h4,hnb]
 rw[hB]
 refine aH Tryz.func80 I Tryz.ntmps80 I<|ab (.a 3 I<|.k [2,3] I)<|aj<|ab (.a 1 I<|.c rfl (fe T) I<|.a 1 I<|.k [2,3,7] I)<|ag I (fun hv1=>?_) (fun hv1=>?_)
 ·have hv:aq T=false:=by simpa using hv1
  exact ab (.a 1 I<|.k [4] I)<|ao<|⟨_,_,az.of I,ay.pure,by rw[hv];rfl⟩
 ·have hv:aq T=true:=by simpa using hv1
  rw[hv,Bool.true_and]
  refine ai<|aj<|ab (.a 2 I<|.k [2,3,9] I)<|au<|ab (.a 2 I<|.k [2,3,9,10] I)<|ag I (fun hk1=>?_) (fun hk1=>?_)
  ·have k1:k=1:=tt hk1
   refine bz 4 (.raw (.bool (q1&&q2))) [] I ?_ ?_
   ·refine .a 2 I<|.v (cf I (h1)) I<|.a 1 I<|?_
    cases q1
    ·exact .a 8 I<|.k [4] I
    ·exact .a 5 I<|.v (cf I (h2)) I<|.a 2 I<|.k [4] I
   exact ao<|⟨_,_,az.of I,ay.pure,by rw[if_pos k1];rfl⟩
  ·have k1:¬k=1:=ff hk1
   refine ab (.a 2 I<|.k [2,3,9,23] I)<|ag I (fun hk2=>?_) (fun hk2=>?_)
   ·have k2:k=2:=tt hk2
    refine bz 4 (.raw (.bool (q1&&q5))) [] I ?_ ?_
    ·refine .a 2 I<|.v (cf I (h1)) I<|.a 1 I<|?_
     cases q1
     ·exact .a 7 I<|.k [4] I
     ·exact .a 4 I<|.v (cf I (h5)) I<|.a 2 I<|.k [4] I
    exact ao<|⟨_,_,az.of I,ay.pure,by rw[if_neg k1,if_pos k2];rfl⟩
   ·have k2:¬k=2:=ff hk2
    refine ab (.a 2 I<|.k [3,35] I)<|ag I (fun hk3=>?_) (fun hk3=>?_)
    ·have k3:k=3:=tt hk3
     refine bz 4 (.raw (.bool (q3&&q4))) [] I ?_ ?_
     ·refine .a 2 I<|.v (cf I (h3)) I<|.a 1 I<|?_
      cases q3
      ·exact .a 5 I<|.k [4] I
      ·exact .a 2 I<|.v (cf I (h4)) I<|.a 2 I<|.k [4] I
     exact ao<|⟨_,_,az.of I,ay.pure,by rw[if_neg k1,if_neg k2,if_pos k3];rfl⟩
    ·have k3:¬k=3:=ff hk3
     exact ai<|ab (.a 1 I<|.k [4] I)<|ao<|⟨_,_,az.of I,ay.pure,by rw[if_neg k1,if_neg k2,if_neg k3];rfl⟩
theorem yD(L:List nM)(i:Nat)(hi:i<L.length):((iH L).drop (i*7)).take 7=kh (cF L i):=by
 apply List.ext_getElem?
 intro j
 by_cases hj:j<7
 ·rw[List.getElem?_take,if_pos hj,List.getElem?_drop,eP L i j hi hj]
 ·rw[List.getElem?_take,if_neg hj,List.getElem?_eq_none (by simp[kh];omega)]
theorem u9(T:ak)(k x:Int)(a:Nat)(ha:a<2*T.ae.length)(hl:T.ae.length≤256):Can Tryz.prog 117 [aP T,ca k x,num a] (· =flag (cI k x T.ae (a / 2))):=by
 have hi:a / 2<T.ae.length:=by omega
 obtain⟨e,he⟩:∃e,cF T.ae (a / 2)=e:=⟨_,rfl⟩
 have hdr:=yD T.ae (a / 2) hi
 rw[he]at hdr
 obtain⟨q1,h1⟩:∃q,decide (((a / 2:Nat):Int)=x)=q:=⟨_,rfl⟩
 obtain⟨q2,h2⟩:∃q,decide (e.a=x)=q:=⟨_,rfl⟩
 obtain⟨q3,h3⟩:∃q,decide (e.b=x)=q:=⟨_,rfl⟩
 obtain⟨q4,h4⟩:∃q,decide (e.vg=x)=q:=⟨_,rfl⟩
 have hP:cI k x T.ae (a / 2)=if k=1 then q1 else if k=2 then(q2||q3) else q4:=by unfold cI;rw[he,h1,h2,h3,h4]
 rw[hP]
 refine aH Tryz.func117 I Tryz.ntmps117 I<|ab (.a 3 I<|.k [2,3,4] I)<|aO<|aw 3 I<|bw (iV I I I (by decide) ((show(a:Int).tdiv 2=((a / 2:Nat):Int) by rw[Int.tdiv_eq_ediv_of_nonneg (by omega)];omega)) (by unfold In64;omega)) I<|bw (aN ((a / 2*7)) I) I<|bw (eU I (hdr) I) I<|aw 2 I<|aE [2,4,7] I ?_
 refine eF (σ':=[some (.cells 127 (kh e))]) I ?_
 refine aj<|ab (.a 2 I<|.k [2,4,7,15] I)<|au<|ab (.a 2 I<|.k [2,4,7,15,16] I)<|ag I (fun hk1=>?_) (fun hk1=>?_)
 ·have k1:k=1:=tt hk1
  exact ab (.a 1 I<|.v (iV I I I (by decide) ((show(a:Int).tdiv 2=((a / 2:Nat):Int) by rw[Int.tdiv_eq_ediv_of_nonneg (by omega)];omega)) (by unfold In64;omega)) I<|.a 2 I<|.v (cf I (h1)) I<|.a 1 I<|.k [6] I)<|ao<|⟨_,_,az.of I,ay.pure,by rw[if_pos k1];rfl⟩
 ·have k1:¬k=1:=ff hk1
  refine ab (.a 2 I<|.k [4,7,23] I)<|ag I (fun hk2=>?_) (fun hk2=>?_)
  ·have k2:k=2:=tt hk2
   refine bz 6 (.raw (.bool (q2||q3))) [] I ?_ ?_
   ·refine .a 4 I<|.v (cf I (h2)) I<|.a 1 I<|?_
    cases q2
    ·exact .a 4 I<|.v (cf I (h3)) I<|.a 2 I<|.k [6] I
    ·exact .a 7 I<|.k [6] I
   exact ao<|⟨_,_,az.of I,ay.pure,by rw[if_neg k1,if_pos k2];rfl⟩
  ·have k2:¬k=2:=ff hk2
   exact ai<|ab (.a 4 I<|.v (cf I (h4)) I<|.a 1 I<|.k [6] I)<|ao<|⟨_,_,az.of I,ay.pure,by rw[if_neg k1,if_neg k2];rfl⟩
def iI(T:ak)(k x:Int)(m:Nat):List Bool:=(List.range (2*T.ae.length)).map fun a=>decide (a<m)&&cI k x T.ae (a / 2)
theorem zQ(T:ak)(k x:Int):iI T k x 0=List.replicate (2*T.ae.length) false:=by
 unfold iI
 apply List.ext_getElem (by simp)
 intro i h1 h2
 simp
theorem kM(T:ak)(k x:Int)(m:Nat):(iI T k x m).length=2*T.ae.length:=by simp[iI]
theorem BB{T:ak}{k x:Int}{m:Nat}(h:cI k x T.ae (m / 2)=true):(iI T k x m).set m true=iI T k x (m+1):=by
 apply List.ext_getElem (by simp[iI])
 intro i h1 h2
 rw[List.getElem_set]
 by_cases e:m=i
 ·subst e;simp[iI,h]
 ·rw[if_neg e]
  simp only[iI,List.getElem_map,List.getElem_range]
  rw[show decide (i<m+1)=decide (i<m) from decide_eq_decide.2 (by omega)]
theorem FI{T:ak}{k x:Int}{m:Nat}(h:cI k x T.ae (m / 2)=false):iI T k x (m+1)=iI T k x m:=by
 unfold iI
 refine List.map_congr_left fun a _=>?_
 by_cases e:a=m
 ·subst e;rw[h];simp
 ·rw[show decide (a<m+1)=decide (a<m) from decide_eq_decide.2 (by omega)]
theorem Cq(T:ak)(k x:Int):iI T k x (2*T.ae.length)=aF T k x:=by
 unfold iI aF
 refine List.map_congr_left fun a ha=>?_
 rw[decide_eq_true (List.mem_range.1 ha),Bool.true_and]
def lI(L:List Bool):Option cK:=some (.row 4 1 L.length (bX L))
set_option maxHeartbeats 2000000 in
theorem wX(T:ak)(k x:Int):bU Tryz.prog 88 [aP T,.slice 1 (cC k x)] [] (fun r σ'=>((aq T&&cj T k x)=false∧r= .tuple [.raw (.slice none 0 0),num 1])∨((aq T&&cj T k x)=true∧r= .tuple [.own 0,num 0]∧σ'=[lI (aF T k x)])):=by
 refine ct Tryz.func88 I Tryz.ntmps88 I<|ab (.a 3 I<|.k [1,2] I)<|aj<|ab (.a 1 I<|.c rfl (fe T) I<|.a 1 I<|.k [1,2,11] I)<|ag I (fun h1=>?_) (fun h1=>?_)
 ·have hv:aq T=false:=by simpa using h1
  exact ab (.a 2 I<|.k [4,5] I)<|ao<|⟨_,az.of I,.inl ⟨by rw[hv];rfl,rfl⟩⟩
 ·have hv:aq T=true:=by simpa using h1
  have hll:=bT hv
  refine ai<|aO<|aw 3 I<|bw (aU I) I<|b7 (dX I (ba.rk.get I) I I (show 2*(T.ae.length:Int)=((2*T.ae.length:Nat):Int) by omega) (show 2*(T.ae.length:Int)=((2*T.ae.length:Nat):Int) by omega) ⟨by unfold maxLen;omega,by omega⟩) I<|aw 1 I<|aE [1,2,6] I ?_
  refine eF (σ':=[lI (iI T k x 0)]) (by unfold lI;rw[zQ,List.length_replicate,←iD];rfl) ?_
  refine aj<|ab (.a 1 I<|.k [1,2,6,7] I)<|au<|eH [1,2,6,7] I<|bq (fun r st=>∃(i:Nat) (M:List Bool),i≤1∧r=1 - i∧(i=0→M=iI T k x 0)∧(i=1→cj T k x=true∧M=aF T k x)∧st=⟨[(1,.slice 1 (cC k x)),(2,.bb (bC T) 0),(6,.own 0),(7,num i)],[lI M]⟩) 1 ⟨0,_,by omega,rfl,fun _=>rfl,fun h=>by omega,rfl⟩ ?_
  rintro r st ⟨i,M,hi,rfl,hM0,hM1,rfl⟩
  refine aj<|ab (.a 4 I<|.k [1,2,6,7,20] I)<|ag I (fun h2=>?_) (fun h2=>?_)
  ·have hi0:i=0:=by have:=tt h2;omega
   subst hi0
   obtain rfl:=hM0 rfl
   refine ai<|aj<|au<|aj<|ep mixed (by kernel_rfl) (.a 3 I<|.v [24,25] (aN (0) I) I I<|.v [26] (eU I ((show((cC k x).drop 0).take 2=cC k x from rfl)) I) I I<|.v [23,27] (dU I (gJ T k x)) I I<|.a 1 I<|.k [1,2,6,7,29] I) ?_
   refine ag I (fun h3=>?_) (fun h3=>?_)
   ·have hc:(aq T&&cj T k x)=false:=(Bool.not_eq_true' _).mp h3
    exact ab (.a 2 I<|.k [4,5] I)<|ao<|⟨_,az.of I,.inl ⟨hc,rfl⟩⟩
   ·have hvc:(aq T&&cj T k x)=true:=by simpa using h3
    have hc:cj T k x=true:=(Bool.and_eq_true_iff.1 hvc).2
    refine ai<|ab (.a 1 I<|.k [1,2,6,7,8] I)<|au<|eH [1,2,6,7,8] I<|bq (fun r st=>∃m:Nat,m≤2*T.ae.length∧r=2*T.ae.length - m∧st=⟨[(1,.slice 1 (cC k x)),(2,.bb (bC T) 0),(6,.own 0),(7,num 0),(8,num m)],[lI (iI T k x m)]⟩) (2*T.ae.length) ⟨0,by omega,by omega,rfl⟩ ?_
    rintro r st ⟨m,hm,rfl,rfl⟩
    have hml:=kM T k x m
    refine aj<|ab (.a 4 I<|.k [1,2,6,7,8,33] I)<|ag I (fun h4=>?_) (fun h4=>?_)
    ·have hlt:m<2*T.ae.length:=by have:=tt h4;omega
     refine ai<|aj<|au<|ep mixed (by kernel_rfl) (.a 3 I<|.v [37,38] (aN (0) I) I I<|.v [39] (eU I ((show((cC k x).drop 0).take 2=cC k x from rfl)) I) I I<|.a 1 I<|.v [36,40,41] (dU I (u9 T k x m hlt (by omega))) I I<|.k [1,2,6,7,8,42] I) ?_
     refine ag I (fun h5=>?_) (fun h5=>?_)
     ·have hst:=BB h5
      refine bI<|aw 2 I<|bw (aN (m) I) I<|bc ((by first|exact bN I (ba.tk.get I) I I I (by first|omega|(simp;omega))|exact bg I (ba.tk.get I) I I I (by first|omega|(simp;omega)))) I I<|aE [1,2,6,7,8] I ?_
      refine aC (.a 1 I<|.v (aU I) I<|.a 1 I<|.k [1,2,6,7,8] I) ?_
      refine⟨2*T.ae.length - (m+1),by omega,m+1,by omega,rfl,?_⟩
      first
       |(rw[hst];rfl)
       |(rw[hst];unfold lI;rw[kM,kM];rfl)
     ·have hst:=FI h5
      refine ai<|aC (.a 1 I<|.v (aU I) I<|.a 1 I<|.k [1,2,6,7,8] I) ?_
      refine⟨2*T.ae.length - (m+1),by omega,m+1,by omega,rfl,?_⟩
      first
       |(rw[hst];rfl)
       |(rw[hst];unfold lI;rw[kM,kM];rfl)
    ·have hme:m=2*T.ae.length:=by have:=ff h4;omega
     subst hme
     refine bd<|aC (.a 1 I<|.v (aU I) I<|.a 1 I<|.k [1,2,6,7] I) ?_
     exact⟨0,by omega,1,_,by omega,rfl,fun h=>by omega,fun _=>⟨hc,rfl⟩,by rw[Cq];rfl⟩
  ·have hi1:i=1:=by have:=ff h2;omega
   subst hi1
   obtain⟨hc,rfl⟩:=hM1 rfl
   exact bd<|ab (.a 3 I<|.k [4,5] I)<|ao<|⟨_,az.of I,.inr ⟨by rw[hv,hc];rfl,rfl,rfl⟩⟩
theorem yU(T:ak)(k x:Int):bU Tryz.prog 32 [aP T,ca k x] [] (fun r σ'=>((aq T&&cj T k x)=false∧r= .tuple [.raw (.slice none 0 0),num 1])∨((aq T&&cj T k x)=true∧r= .tuple [.own 0,num 0]∧σ'=[lI (aF T k x)])):=by
 refine ct Tryz.func32 I Tryz.ntmps32 I<|ab (.a 4 I<|.k [2,3] I)<|ab (.a 3 I<|.k [2,6] I)<|aO<|aw 2 I<|cN I I (bU.mono (bU.mono (wX T k x) (fun r σ' h=>(show ∃y z,r= .tuple [y,z]∧(((aq T&&cj T k x)=false∧y= .raw (.slice none 0 0)∧z=num 1)∨((aq T&&cj T k x)=true∧y= .own 0∧z=num 0∧σ'=[lI (aF T k x)])) from by rcases h with⟨h1,rfl⟩|⟨h1,rfl,h2⟩;exact⟨_,_,rfl,.inl ⟨h1,rfl,rfl⟩⟩;exact⟨_,_,rfl,.inr ⟨h1,rfl,rfl,h2⟩⟩))) (fun r σ' h=>?_))
 obtain⟨y,z,rfl,hyz⟩:=h
 refine aw 4 I<|aE [4,5] I ?_
 refine ao<|⟨_,az.of I,?_⟩
 rcases hyz with⟨h1,rfl,rfl⟩|⟨h1,rfl,rfl,rfl⟩
 ·exact .inl ⟨h1,rfl⟩
 ·exact .inr ⟨h1,rfl,rfl⟩
theorem mI(T:ak)(k x:Int):Can Tryz.prog 32 [aP T,ca k x] (· =iO (ej T k x) (aF T k x)):=by
 refine Can.Lu (yU T k x) ?_
 rintro r σ' (⟨h1,rfl⟩|⟨h1,rfl,rfl⟩)
 ·refine⟨_,ay.aX (ah.cons ay.bM (ah.cons ay.pure ah.nil)),?_⟩
  have he:ej T k x=1:=by unfold ej;rw[if_neg (by rw[h1];simp)]
  rw[he]
  rfl
 ·refine⟨_,ay.aX (ah.cons (ay.fy rfl ah.pure) (ah.cons ay.pure ah.nil)),?_⟩
  unfold iO ej bn
  rw[if_pos h1,if_pos rfl]
end
section
open Go.RowKit cG Mem Net
def iF(T:ak)(D:List Bool)(L:List Int)(dn:Int)(d a:Nat):Bool:=
 !(aQ D a||decide (L.getD (aS T a).toNat 0<0)||(decide (aS T a≠(d:Int))&&dp T (aS T a).toNat))&&decide (L.getD (aS T a).toNat 0+cp T a=dn)
def lB(T:ak)(D:List Bool)(L:List Int)(dn:Int)(d:Nat)(l:List Int):List Int:=l.filter fun a=>iF T D L dn d a.toNat
theorem tD(T:ak)(D:List Bool)(L lv:List Int)(n d:Nat)(hv:aq T=true)(hf:bW T D=true)(hL:(L.length:Int)=T.nodes)(hub:∀x∈L, -1≤x∧x≤4194240)(hn:(n:Int)<T.nodes)(hd:(d:Int)<T.nodes)
    (hlv:∀a∈lv,0≤a∧a<2*(T.ae.length:Int)) (hll:lv.length≤100000):
    Can Tryz.prog 148 [aP T,bn D,av L,av lv,num n,num d] (· =av (if n=d∨L.getD n 0<0 then [] else lB T D L (L.getD n 0) d lv)):=by
  have hbd:=fY hv
  have hS:=aM hv
  have hnL:n<L.length:=by omega
  refine aH Tryz.func148 I Tryz.ntmps148 I<|ab (.a 2 I<|.k [1,2,3,4,5,6] I)<|ab (.a 1 I<|.k [1,2,3,4,5,6,13] I) ?_
  obtain⟨q1,hq1⟩:∃q,decide ((n:Int)=(d:Int))=q:=⟨_,rfl⟩
  obtain⟨q2,hq2⟩:∃q,decide (L.getD n 0<0)=q:=⟨_,rfl⟩
  refine aj<|bz 26 (.raw (.bool (q1||q2))) [1,2,3,4,5,6,13] I ?_ ?_
  · refine .a 2 I<|.v (cf I (hq1)) I<|.a 1 I<|?_
    cases q1
    · exact .a 2 I<|.v (aN (n) I) I<|.v (aJ I (aB L n hnL)) I<|.v (cf I (hq2)) I<|.a 1 I<|.k [26,1,2,3,4,5,6,13] I
    · exact .a 6 I<|.k [26,1,2,3,4,5,6,13] I
  refine ag (b:=q1||q2) I (fun hc=>?_) (fun hc=>?_)
  · have:n=d∨L.getD n 0<0:=by
      rcases Bool.or_eq_true_iff.1 hc with h|h
      · rw[h]at hq1;exact .inl (by have:=of_decide_eq_true hq1;omega)
      · rw[h]at hq2;exact .inr (of_decide_eq_true hq2)
    rw[if_pos this]
    refine ab (.a 2 I<|.k [12] I)<|ao ⟨_,_,.cons (.tmp rfl) .nil,ay.bM,rfl⟩
  · obtain ⟨c1, c2⟩ := Bool.or_eq_false_iff.1 hc
    rw[c1]at hq1
    rw[c2]at hq2
    have hnd:¬(n=d∨L.getD n 0<0):=by
      have:=of_decide_eq_false hq1
      have:=of_decide_eq_false hq2
      omega
    rw[if_neg hnd]
    refine ai<|aj<|ab (.a 3 I<|.k [1,2,4,5,6,13,28,29,30] I)<|gH 13 3 1 I ?_
    refine au<|ln (.cons (k:=1) I<|.cons (k:=2) I<|.cons (k:=4) I<|.cons (k:=5) I<|.cons (k:=6) I<|.cons (k:=13) I<|.cons (k:=28) I<|.cons (k:=29) I<|.cons (k:=30) I<|Sub.nil _) ?_
    refine bq (fun r s=>∃i,i≤lv.length∧r=lv.length - i∧s=⟨[(1,bn D),(2,av L),(4,num n),(5,num d),(6,.bb (bC T) 0),(13,.own 0),(28,av lv),(29,num lv.length),(30,num i)],[some (.row 3 1 (lB T D L (L.getD n 0) d (lv.take i)).length (aK (lB T D L (L.getD n 0) d (lv.take i))))]⟩) lv.length ⟨0,by omega,by omega,?_⟩ ?_
    · simp only[List.take_zero,lB,List.filter_nil]
      rfl
    · rintro r s ⟨i,hi,rfl,rfl⟩
      refine ab (.a 1 I<|.k [1,2,4,5,6,13,28,29,30,31] I)<|aj<|ag (b:=decide ((i:Int)<(lv.length:Int))) I (fun hc=>?_) (fun hc=>?_)
      · have hlt:i<lv.length:=by have:=of_decide_eq_true hc;omega
        refine ai ?_
        obtain⟨a,ha⟩:∃a:Nat,lv.getD i 0=(a:Int):=Int.eq_ofNat_of_zero_le (hlv _ (cr hlt)).1
        have ham:a<2*T.ae.length:=by
          have:=(hlv (lv.getD i 0) (cr hlt)).2
          omega
        have hstep:lB T D L (L.getD n 0) d (lv.take (i+1))=lB T D L (L.getD n 0) d (lv.take i)++(if iF T D L (L.getD n 0) d a then [(a:Int)] else []):=by
          unfold lB
          rw[List.take_add_one,List.filter_append,show lv[i]? =some (a:Int) by rw[←ha,List.getD_eq_getElem?_getD];simp[hlt]]
          congr 1
          simp only[Option.toList_some,List.filter_cons,List.filter_nil,Int.toNat_natCast]
        have hlen:(lB T D L (L.getD n 0) d (lv.take i)).length≤100000:=Nat.le_trans (List.length_filter_le _ _) (by rw[List.length_take];omega)
        obtain⟨hd0,hhN⟩:=hS.head a ham
        obtain⟨h,hh⟩:=Int.eq_ofNat_of_zero_le hd0
        have hhL:h<L.length:=by omega
        have hub1: -1≤L.getD h 0∧L.getD h 0≤4194240:=hub _ (cr hhL)
        have hcb:=hS.cost a ham
        have hDl:D.length=0∨a<D.length:=by simp only[bW,decide_eq_true_eq]at hf;omega
        have hov:T.over.length=0∨h<T.over.length:=by have:=hbd.2.2.2;omega
        refine aj<|au<|ab (.v (aN (i) I) I<|.v (aJ I ((aB lv i hlt).trans (by rw[ha]))) I<|.a 1 I<|.k [1,2,4,5,6,13,15,28,29,30] I)<|ab (.a 2 I<|.c rfl (hh▸fZ T a ham (by omega)) I<|.a 1 I<|.k [1,2,4,5,6,13,15,16,28,29,30] I) ?_
        obtain⟨p1,hp1⟩:∃q,aQ D a=q:=⟨_,rfl⟩
        obtain⟨p2,hp2⟩:∃q,decide (L.getD h 0<0)=q:=⟨_,rfl⟩
        obtain⟨p3,hp3⟩:∃q,decide ((h:Int)≠(d:Int))=q:=⟨_,rfl⟩
        obtain⟨p4,hp4⟩:∃q,dp T h=q:=⟨_,rfl⟩
        obtain⟨p5,hp5⟩:∃q,decide (L.getD h 0+cp T a=L.getD n 0)=q:=⟨_,rfl⟩
        have hpass:iF T D L (L.getD n 0) d a=(!((p1||p2)||(p3&&p4))&&p5):=by
          unfold iF;rw[hh,Int.toNat_natCast,hp1,hp2,hp3,hp4,hp5]
        refine aj<|bz 56 (.raw (.bool ((p1||p2)||(p3&&p4)))) [1,2,4,5,6,13,15,16,28,29,30] I ?_ ?_
        · refine .a 2 I<|.c rfl (hp1▸jy D a hDl) I<|.a 1 I<|?_
          cases p1
          · refine .a 2 I<|.v (aN (h) I) I<|.v (aJ I (aB L h hhL)) I<|.v (cf I (hp2)) I<|.a 2 I<|?_
            cases p2
            · refine .a 2 I<|.v (cf I (hp3)) I<|.a 1 I<|?_
              cases p3
              · exact .a 5 I<|.k [56,1,2,4,5,6,13,15,16,28,29,30] I
              · exact .a 2 I<|.c rfl (hp4▸ox T h hov) I<|.a 2 I<|.k [56,1,2,4,5,6,13,15,16,28,29,30] I
            · exact .a 9 I<|.k [56,1,2,4,5,6,13,15,16,28,29,30] I
          · exact .a 16 I<|.k [56,1,2,4,5,6,13,15,16,28,29,30] I
        refine ag (b:=(p1||p2)||(p3&&p4)) I (fun hc=>?_) (fun hc=>?_)
        · rw[hc]at hpass
          refine bd<|aC (.v (aU I) I<|.a 1 I<|.k [1,2,4,5,6,13,28,29,30] I) ?_
          refine⟨lv.length - (i+1),by omega,i+1,by omega,rfl,?_⟩
          rw[hstep,hpass]
          simp only[Bool.not_true,Bool.false_and,Bool.false_eq_true,if_false,List.append_nil]
          rfl
        · rw[hc]at hpass
          refine ai<|ep mixed (by kernel_rfl) (.a 2 I<|.v [57,58] (aN (h) I) I I<|.v [59] (aJ I (aB L h hhL)) I I<|.a 2 I<|.v [61,62] (dU I (mn T a ham)) I I<|.v [60,63] (aU I) I I<|.a 2 I<|.v [65,66] (aN (n) I) I I<|.v [67] (aJ I (aB L n hnL)) I I<|.v [64,68] (cf I (hp5)) I I<|.k [1,2,4,5,6,13,15,28,29,30,69] I) ?_
          refine ag (b:=p5) I (fun hc5=>?_) (fun hc5=>?_)
          · rw[hc5]at hpass
            refine bI<|aw 3 I<|b7 (bh I (ba.rk.get I) I I I I (by unfold maxLen;omega)) I<|aw 1 I ?_
            refine eR [1] (.c 1<|.c 2<|.c 4<|.c 5<|.c 6<|.c 13<|.c 28<|.c 29<|.c 30<|.nil) (.kept rfl (.fF rfl (dE _ _))<|.nil) I I (bp ?_)
            refine aC (.v (aU I) I<|.a 1 I<|.k [1,2,4,5,6,13,28,29,30] I) ?_
            refine⟨lv.length - (i+1),by omega,i+1,by omega,rfl,?_⟩
            rw[hstep,hpass]
            simp only[Bool.not_false,Bool.true_and,if_true,List.length_append,List.length_singleton]
            rfl
          · rw[hc5]at hpass
            refine ai<|aC (.v (aU I) I<|.a 1 I<|.k [1,2,4,5,6,13,28,29,30] I) ?_
            refine⟨lv.length - (i+1),by omega,i+1,by omega,rfl,?_⟩
            rw[hstep,hpass]
            simp only[Bool.not_false,Bool.true_and,Bool.false_eq_true,if_false,List.append_nil]
            rfl
      · have:i=lv.length:=by have:=of_decide_eq_false hc;omega
        subst this
        rw[List.take_length]
        exact bd<|ab (.a 2 I<|.k [12] I)<|ao ⟨_,_,.cons (.tmp rfl) .nil,ay.fy rfl ah.pure,rfl⟩
open Heap
def cD(T:ak)(D:List Bool)(ns:List Int):Int:=if aq T&&bW T D then(if ns.all (bu T) then 0 else 2) else 1
theorem o5(T:ak)(D:List Bool)(ns:List Int)(hns:ns.length≤1000):Can Tryz.prog 173 [aP T,bn D,av ns] (· =num (cD T D ns)):=by
 refine aH Tryz.func173 I Tryz.ntmps173 I<|ab (.a 2 I<|.k [1,2,3] I)<|aj ?_
 obtain⟨q1,hq1⟩:∃q,aq T=q:=⟨_,rfl⟩
 obtain⟨q2,hq2⟩:∃q,bW T D=q:=⟨_,rfl⟩
 refine bz 17 (.raw (.bool ((!q1)||(!q2)))) [2,3] I ?_ ?_
 ·refine .a 1 I<|.c rfl (hq1▸eJ T) I<|.a 2 I<|?_
  cases q1
  ·exact .a 5 I<|.k [17,2,3] I
  ·exact .a 2 I<|.c rfl (hq2▸me T D (by have:=bT hq1;omega)) I<|.a 2 I<|.k [17,2,3] I
 refine ag I (fun hc=>?_) (fun hc=>?_)
 ·have hch:cD T D ns=1:=by
   unfold cD
   rw[hq1,hq2,if_neg]
   revert hc
   cases q1<;>cases q2<;>simp
  exact ab (.a 1 I<|.k [6] I)<|ao<|⟨_,_,az.of I,ay.pure,by rw[hch];rfl⟩
 ·have hok:(aq T&&bW T D)=true:=by
   rw[hq1,hq2]
   revert hc
   cases q1<;>cases q2<;>simp
  refine ai<|aj<|ab (.a 3 I<|.k [3,18,19,20] I)<|au<|eH [3,18,19,20] I<|bq (fun r s=>∃i,i≤ns.length∧(ns.take i).all (bu T)=true∧r=ns.length - i∧s=⟨[(3,.bb (bC T) 0),(18,av ns),(19,num ns.length),(20,num i)],[]⟩) ns.length ⟨0,by omega,by simp,by omega,rfl⟩ ?_
  rintro r s ⟨i,hi,hall,rfl,rfl⟩
  refine ab (.a 1 I<|.k [3,18,19,20,21] I)<|aj<|ag I (fun hc=>?_) (fun hc=>?_)
  ·have hlt:i<ns.length:=by have:=of_decide_eq_true hc;omega
   refine ai<|aj<|au<|ab (.v (aN (i) I) I<|.v (aJ I (aB ns i hlt)) I<|.a 1 I<|.k [3,8,18,19,20] I)<|ab (.a 2 I<|.c rfl (dJ T _) I<|.a 1 I<|.k [3,18,19,20,27] I)<|ag I (fun hc=>?_) (fun hc=>?_)
   ·have hch:cD T D ns=2:=by
     unfold cD
     rw[if_pos hok,if_neg]
     intro h
     have h1:=List.all_eq_true.1 h _ (cr (d:=0) hlt)
     rw[h1]at hc
     cases hc
    exact ab (.a 1 I<|.k [6] I)<|ao<|⟨_,_,az.of I,ay.pure,by rw[hch];rfl⟩
   ·have hall':(ns.take (i+1)).all (bu T)=true:=by
     rw[dK ns i 0 hlt,List.all_append,hall]
     have:bu T (ns.getD i 0)=true:=by revert hc;cases bu T (ns.getD i 0)<;>simp
     simp only[List.all_cons,this,List.all_nil,Bool.and_self]
    refine ai<|aC (.v (aU I) I<|.a 1 I<|.k [3,18,19,20] I) ?_
    exact⟨ns.length - (i+1),by omega,i+1,by omega,hall',rfl,rfl⟩
  ·have hie:i=ns.length:=by have:=of_decide_eq_false hc;omega
   refine bd<|ab (.a 1 I<|.k [6] I)<|ao<|⟨_,_,az.of I,ay.pure,?_⟩
   unfold cD
   rw[if_pos hok,if_pos (by rw[hie,List.take_length]at hall;exact hall)]
   rfl
theorem BE(rs:List (List Int))(i:Nat)(hi:i<rs.length):Can Tryz.prog 175 ([num i]++[.bb [kC rs] 0]) (· =av (rs.getD i [])):=by
 exact aH Tryz.func175 I Tryz.ntmps175 I<|ab (.a 1 I<|.k [0,1] I)<|ab (.a 2 I<|.v (aN (i) I) I<|.v (aJ I ((show(rs.map av)[i]? =some (av (rs.getD i [])) by simp[hi]))) I<|.a 1 I<|.k [3] I)<|ao<|⟨_,_,az.of I,ay.pure,rfl⟩
theorem BY(T:ak)(a:Nat)(ha:a<2*T.ae.length):Can Tryz.prog 176 ([num a]++[.bb (bC T) 0]) (· =num (bm T a)):=by
 exact aH Tryz.func176 I Tryz.ntmps176 I<|ab (.a 1 I<|.k [0,1] I)<|ab (.a 2 I<|.c rfl (jt T a ha) I<|.a 1 I<|.k [3] I)<|ao<|⟨_,_,az.of I,ay.pure,rfl⟩
def dY(e:Int)(l:List Int):PV:=.tuple [av (if e=0 then l else []),num e]
theorem rj(T:ak)(D:List Bool)(d:Int):Can Tryz.prog 151 [aP T,bn D,num d] (· =dY (cD T D [d]) (bG T D d.toNat false)):=by
 refine aH Tryz.func151 I Tryz.ntmps151 I<|ab (.a 3 I<|.k [1,2,3] I)<|aj<|ab (.a 4 I<|.c rfl (o5 T D [d] (by simp)) I<|.a 1 I<|.k [1,2,3,8] I)<|ab (.a 2 I<|.k [1,2,3,8,17] I)<|ag I (fun hc=>?_) (fun hc=>?_)
 ·have he:cD T D [d]≠0:=of_decide_eq_true hc
  exact ab (.a 3 I<|.k [6,7] I)<|ao<|⟨_,_,az.of I,ay.aX (ah.cons ay.bM (ah.cons ay.pure ah.nil)),by unfold dY;rw[if_neg he];rfl⟩
 ·have he:cD T D [d]=0:=by have:=of_decide_eq_false hc;omega
  have hok:(aq T&&bW T D)=true∧bu T d=true:=by
   unfold cD at he
   split at he
   ·rename_i h1
    split at he
    ·rename_i h2;exact⟨h1,by simpa using h2⟩
    ·omega
   ·omega
  obtain⟨hvf,hnd⟩:=hok
  obtain⟨hv,hf⟩:=Bool.and_eq_true_iff.1 hvf
  have hd:0≤d∧d<T.nodes:=by simpa[bu]using hnd
  obtain⟨n,rfl⟩:=Int.eq_ofNat_of_zero_le hd.1
  have hS:=aM hv
  refine ai<|aO<|aw 1 I<|eW I (ve T hv) I<|aw 2 I<|aE [1,2,3,9] I ?_
  refine aO<|aw 3 I<|bw (ef I I) I<|aw 4 I<|aE [10] I ?_
  refine xp (.cons 10 I (ay.jI rfl (ah.cons ay.pure<|ah.cons ay.pure<|ah.cons ay.pure<|ah.cons ay.pure<|ah.cons ay.pure<|ah.cons (ay.iY (ah.cons (ay.jI rfl (ah.cons ay.pure ah.nil)) ah.nil))<|ah.cons ay.pure ah.nil)) .nil) ?_
  exact ab (.a 1 I<|.c rfl (Ap T D n false 175 176 [.bb [kC (dH (aS T) T.nodes.toNat (2*T.ae.length))] 0] [.bb (bC T) 0] hv hf hd.2 (by kernel_rfl) (by kernel_rfl) (fun i hi=>by have h:=BE (dH (aS T) T.nodes.toNat (2*T.ae.length)) i (by rw[fv];omega);rw[jn _ _ _ _ (by omega)]at h;exact h) (fun a ha=>BY T a ha)) I<|.a 2 I<|.k [6,7] I)<|ao<|⟨_,_,az.of I,ay.pure,by unfold dY;rw[if_pos he,he];rfl⟩
theorem oF(T:ak)(hl:T.ae.length≤256)(n:Int):Can Tryz.prog 74 [aP T,num n] (· =av (bP T n)):=by
 refine aH Tryz.func74 I Tryz.ntmps74 I<|ab (.a 2 I<|.k [1,2] I)<|ab (.a 1 I<|.k [1,2,5] I)<|gH 5 3 1 I ?_
 refine aj<|ab (.a 1 I<|.c rfl (iG T (by omega)) I<|.a 1 I<|.k [1,2,5,8,9] I)<|au<|eH [1,2,5,8,9] I<|bq (fun r s=>∃k,k≤2*T.ae.length∧r=2*T.ae.length - k∧s=⟨[(1,num n),(2,.bb (bC T) 0),(5,.own 0),(8,num (2*(T.ae.length:Int))),(9,num k)],[some (.row 3 1 (iW T n k).length (aK (iW T n k)))]⟩) (2*T.ae.length) ⟨0,by omega,by omega,rfl⟩ ?_
 rintro r s ⟨k,hk,rfl,rfl⟩
 refine ab (.a 1 I<|.k [1,2,5,8,9,10] I)<|aj<|ag I (fun hc=>?_) (fun hc=>?_)
 ·have hlt:k<2*T.ae.length:=by have:=of_decide_eq_true hc;omega
  have hlen:=eT T n k
  refine ai<|aj<|au<|ab (.a 2 I<|.k [1,2,5,6,8,9] I)<|ab (.a 2 I<|.c rfl (jt T k hlt) I<|.a 2 I<|.k [1,2,5,6,8,9,16] I)<|ag I (fun hc=>?_) (fun hc=>?_)
  ·have hst:=Ce T n k (by simpa using of_decide_eq_true hc)
   refine bI<|aw 3 I<|b7 (bh I (ba.rk.get I) I I I I (by unfold maxLen;omega)) I<|aw 1 I ?_
   refine eR [1] (.c 1<|.c 2<|.c 5<|.c 8<|.c 9<|.nil) (.kept rfl (.fF rfl (dE _ _))<|.nil) I I (bp ?_)
   refine aC (.v (aU I) I<|.a 1 I<|.k [1,2,5,8,9] I) ?_
   refine⟨2*T.ae.length - (k+1),by omega,k+1,by omega,rfl,?_⟩
   rw[hst]
   first
    |rfl
    |(simp only[List.length_append,List.length_singleton];rfl)
  ·have hst:=Dr T n k (by simpa using of_decide_eq_false hc)
   refine ai<|aC (.v (aU I) I<|.a 1 I<|.k [1,2,5,8,9] I) ?_
   refine⟨2*T.ae.length - (k+1),by omega,k+1,by omega,rfl,?_⟩
   rw[hst]
   first
    |rfl
    |(simp only[List.length_append,List.length_singleton];rfl)
 ·have hke:k=2*T.ae.length:=by have:=of_decide_eq_false hc;omega
  subst hke
  exact bd<|ab (.a 2 I<|.k [4] I)<|ao<|⟨_,_,az.of I,ay.fy rfl ah.pure,rfl⟩
def cu(T:ak)(D:List Bool)(n d:Int):Int:=if cD T D [d]=0 then(if bu T n then 0 else 2) else cD T D [d]
theorem uK(T:ak)(D:List Bool)(n d:Int):Can Tryz.prog 147 [aP T,bn D,num n,num d] (· =dY (cu T D n d) (bG T D d.toNat false)):=by
 refine aH Tryz.func147 I Tryz.ntmps147 I<|ab (.a 3 I<|.k [1,2,3,4] I)<|ab (.a 3 I<|.c rfl (rj T D d) I<|.a 5 I<|.k [2,4,10,11] I)<|aj<|ab (.a 2 I<|.k [2,4,10,11,20] I)<|ag I (fun hc=>?_) (fun hc=>?_)
 ·have he:cD T D [d]≠0:=of_decide_eq_true hc
  exact ab (.a 3 I<|.k [8,9] I)<|ao<|⟨_,_,az.of I,ay.aX (ah.cons ay.bM (ah.cons ay.pure ah.nil)),by unfold dY cu;rw[if_neg he,if_neg he];rfl⟩
 ·have he:cD T D [d]=0:=by have:=of_decide_eq_false hc;omega
  refine ai<|aj<|ab (.a 2 I<|.c rfl (dJ T n) I<|.a 1 I<|.k [10,25] I)<|ag I (fun hc=>?_) (fun hc=>?_)
  ·have hn:bu T n=false:=by revert hc;cases bu T n<;>simp
   exact ab (.a 2 I<|.k [8,9] I)<|ao<|⟨_,_,az.of I,ay.aX (ah.cons ay.bM (ah.cons ay.pure ah.nil)),by unfold dY cu;rw[if_pos he,hn];rfl⟩
  ·have hn:bu T n=true:=by revert hc;cases bu T n<;>simp
   exact ai<|ab (.a 3 I<|.k [8,9] I)<|ao<|⟨_,_,az.of I,ay.pure,by unfold dY cu;simp only[he,hn,if_true];rfl⟩
theorem tU{T:ak}{D:List Bool}{ns:List Int}(he:cD T D ns=0):aq T=true∧bW T D=true∧∀n∈ns,bu T n=true:=by
 unfold cD at he
 split at he
 ·rename_i h1
  split at he
  ·rename_i h2
   obtain⟨a,b⟩:=Bool.and_eq_true_iff.1 h1
   exact⟨a,b,List.all_eq_true.1 h2⟩
  ·omega
 ·omega
theorem fM{T:ak}{D:List Bool}{n d:Int}(he:cu T D n d=0):aq T=true∧bW T D=true∧bu T n=true∧bu T d=true:=by
 unfold cu at he
 split at he
 ·rename_i h1
  obtain⟨a,b,c⟩:=tU h1
  split at he
  ·rename_i h2;exact⟨a,b,h2,c d (by simp)⟩
  ·omega
 ·omega
theorem dv{T:ak}{D:List Bool}(hv:aq T=true){d:Nat}{dir:Bool}(hd:(d:Int)<T.nodes):((bG T D d dir).length:Int)=T.nodes∧∀x∈bG T D d dir, -1≤x∧x≤4194240:=by
 have hS:=aM hv
 have hI:=Cl hS D dir hd
 refine⟨hI.len,fun x hx=>?_⟩
 obtain⟨i,hi,rfl⟩:=List.getElem_of_mem hx
 have hin:(i:Int)<T.nodes:=by have:=hI.len;omega
 have h1:=hI.ge i hin
 have h2:=hI.J3 i hin
 have h3:=o8 (bG T D d dir)
 have h4:=hS.nodes
 have h5:=hI.len
 rw[Eh _ i hi]at h1 h2
 omega
noncomputable def bH(T:ak)(D:List Bool)(n d:Nat):List Int:=
 if n=d∨(bG T D d false).getD n 0<0 then [] else lB T D (bG T D d false) ((bG T D d false).getD n 0) d (bP T n)
theorem kI{T:ak}{n:Int}{a:Int}(h:a∈bP T n):0≤a∧a<2*(T.ae.length:Int):=by
 unfold bP iW at h
 obtain⟨b,hb,rfl⟩:=List.mem_map.1 h
 have:=(List.mem_filter.1 hb).1
 have:=List.mem_range.1 this
 simp;omega
theorem qL(T:ak)(D:List Bool)(n d:Int):Can Tryz.prog 109 [aP T,bn D,num n,num d] (· =dY (cu T D n d) (bH T D n.toNat d.toNat)):=by
 refine aH Tryz.func109 I Tryz.ntmps109 I<|ab (.a 3 I<|.k [1,2,3,4] I)<|ab (.a 4 I<|.c rfl (uK T D n d) I<|.a 5 I<|.k [1,2,3,4,10,11] I)<|aj<|ab (.a 2 I<|.k [1,2,3,4,10,11,21] I)<|ag I (fun hc=>?_) (fun hc=>?_)
 ·have he:cu T D n d≠0:=of_decide_eq_true hc
  exact ab (.a 3 I<|.k [8,9] I)<|ao<|⟨_,_,az.of I,ay.aX (ah.cons ay.bM (ah.cons ay.pure ah.nil)),by unfold dY;rw[if_neg he];rfl⟩
 ·have he:cu T D n d=0:=by have:=of_decide_eq_false hc;omega
  rw[he]
  obtain⟨hv,hf,hn,hd⟩:=fM he
  rw[aT]at hn hd
  obtain⟨n,rfl⟩:=Int.eq_ofNat_of_zero_le hn.1
  obtain⟨d,rfl⟩:=Int.eq_ofNat_of_zero_le hd.1
  have hll:=bT hv
  obtain⟨hb1,hb2⟩:=dv (D:=D) hv (dir:=false) hd.2
  refine ai<|ep mixed (by kernel_rfl) (.a 5 I<|.v [26,27] (dU I (oF T hll _)) I I<|.a 2 I<|.v [23,24,25,28,29,30] (dU I (tD T D (bG T D d false) (bP T n) n d hv hf hb1 hb2 hn.2 hd.2 (fun a ha=>kI ha) (Nat.le_trans (eT T n _) (by omega)))) I I<|.a 2 I<|.k [8,9] I) ?_
  exact ao<|⟨_,_,az.of I,ay.pure,rfl⟩
end
section
open Go.RowKit cG Mem Net
structure bV where
 kind:Int
 num:Int
deriving DecidableEq
structure i6 where
 ax:List Int
 rep:Bool
 push:List bV
structure de where
 node:Int
 dr:List i6
 down:List Int
def oN(s:bV):List PV:=[num s.kind,num s.num]
def sV(s:bV):PV:=.agg (oN s)
def dR(l:List bV):List PV:=l.flatMap oN
def cc(l:List bV):PV:=.slice l.length (dR l)
def gF(e:i6):List PV:=[av e.ax,flag e.rep,cc e.push]
def xQ(e:i6):PV:=.agg (gF e)
def dZ(l:List i6):List PV:=l.flatMap gF
def iv(l:List i6):PV:=.slice l.length (dZ l)
def eL(t:de):List PV:=[num t.node,iv t.dr,av t.down]
def fw(t:de):PV:=.agg (eL t)
def oA(l:List de):List PV:=l.flatMap eL
def eE(l:List de):PV:=.slice l.length (oA l)
instance (s:bV):aL (oN s):=by unfold oN;infer_instance
instance (s:bV):dD (oN s):=by unfold oN;infer_instance
instance (s:bV):IsPure (sV s):=by unfold sV;infer_instance
instance (l:List bV):aL (dR l):=aL.flatMap _ _ fun _=>inferInstance
instance (l:List bV):dD (dR l):=dD.flatMap _ _ fun _=>inferInstance
instance (l:List bV):IsPure (cc l):=by unfold cc;infer_instance
instance (l:List bV):gm (cc l):=by unfold cc;infer_instance
instance (e:i6):aL (gF e):=by unfold gF;infer_instance
instance (e:i6):dD (gF e):=by unfold gF;infer_instance
instance (e:i6):IsPure (xQ e):=by unfold xQ;infer_instance
instance (l:List i6):aL (dZ l):=aL.flatMap _ _ fun _=>inferInstance
instance (l:List i6):IsPure (iv l):=by unfold iv;infer_instance
instance (l:List i6):gm (iv l):=by unfold iv;infer_instance
instance (t:de):aL (eL t):=by unfold eL;infer_instance
instance (t:de):IsPure (fw t):=by unfold fw;infer_instance
instance (l:List de):aL (oA l):=aL.flatMap _ _ fun _=>inferInstance
instance (l:List de):IsPure (eE l):=by unfold eE;infer_instance
theorem nB(l:List i6)(e:i6):dZ l++gF e=dZ (l++[e]):=by simp[dZ]
theorem qY(l:List de)(e:de):oA l++eL e=oA (l++[e]):=by simp[oA]
theorem flat_get{α:Type}(f:α→List PV)(s:Nat)(hf:∀a,(f a).length=s):∀(l:List α) (i j:Nat) (a:α),l[i]? =some a→j<s→(l.flatMap f)[i*s+j]? =(f a)[j]?
 | [],i,j,a,h,_=>by simp at h
 |b::l,0,j,a,h,hj=>by
  simp at h;subst h
  rw[List.flatMap_cons,Nat.zero_mul,Nat.zero_add,List.getElem?_append_left (by rw[hf];exact hj)]
 |b::l,i+1,j,a,h,hj=>by
  have:=flat_get f s hf l i j a (by simpa using h) hj
  have e1:(i+1)*s=i*s+s:=Nat.succ_mul i s
  have e2:(i+1)*s+j - s=i*s+j:=by omega
  have e3:(f b).length≤(i+1)*s+j:=by rw[hf];omega
  rw[List.flatMap_cons,List.getElem?_append_right e3,hf,e2,this]
theorem ki{α:Type}(f:α→List PV)(s:Nat)(hf:∀a,(f a).length=s):∀(l:List α) (i:Nat) (a:α),l[i]? =some a→((l.flatMap f).drop (i*s)).take s=f a
 | [],i,a,h=>by simp at h
 |b::l,0,a,h=>by
  simp at h;subst h
  rw[List.flatMap_cons,Nat.zero_mul,List.drop_zero]
  exact List.take_left' (hf b)
 |b::l,i+1,a,h=>by
  have:=ki f s hf l i a (by simpa using h)
  have e1:(i+1)*s=s+i*s:=by rw[Nat.succ_mul];omega
  rw[List.flatMap_cons,e1,←List.drop_drop,List.drop_left' (hf b),this]
theorem rA{α:Type}(f:α→List PV)(s:Nat)(hf:∀a,(f a).length=s)(l:List α):(l.flatMap f).length=l.length*s:=by
 induction l with
 |nil=>simp
 |cons a l ih=>rw[List.flatMap_cons,List.length_append,ih,hf,List.length_cons,Nat.succ_mul];omega
theorem oO(l:List i6)(i j:Nat)(e:i6)(h:l[i]? =some e)(hj:j<3):(dZ l)[i*3+j]? =(gF e)[j]? :=flat_get gF 3 (fun _=>rfl) l i j e h hj
theorem jg(l:List i6)(i:Nat)(e:i6)(h:l[i]? =some e):((dZ l).drop (i*3)).take 3=gF e:=ki gF 3 (fun _=>rfl) l i e h
theorem vZ(l:List bV)(i j:Nat)(e:bV)(h:l[i]? =some e)(hj:j<2):(dR l)[i*2+j]? =(oN e)[j]? :=flat_get oN 2 (fun _=>rfl) l i j e h hj
theorem gv(l:List bV)(i:Nat)(e:bV)(h:l[i]? =some e):((dR l).drop (i*2)).take 2=oN e:=ki oN 2 (fun _=>rfl) l i e h
theorem kz(l:List de)(i:Nat)(e:de)(h:l[i]? =some e):((oA l).drop (i*3)).take 3=eL e:=ki eL 3 (fun _=>rfl) l i e h
theorem Gx{P:Program}{σ:cg}{t:cn}{o:Oper}{p q:PV}(h:bE P σ t o p)(hl:kK p q):bE P σ t o q:=fun F base E ρ w hρ hS hT=>by
 have:=h F base E ρ w hρ hS hT
 generalize (execOp ρ o).run P w=x at*
 cases x with
 |ok n w'=>
  cases n with
  |value v=>exact⟨this.1,hl _ _ _ this.2⟩
  |skip=>exact⟨this.1,hl _ _ _ this.2⟩
  |enter f args=>exact⟨this.1,Calls.mono this.2 (fun e w'' ⟨x,h1,h2,h3⟩=>⟨x,h1,h2,hl _ _ _ h3⟩)⟩
  |_=>exact this
 |halt x w'=>exact this
def Cr(xs ys:List PV):Prop:=xs.length=ys.length∧∀(i:Nat) x y,xs[i]? =some x→ys[i]? =some y→kK x y
theorem Cr.nil:Cr [] []:=⟨rfl,fun i x y h=>by simp at h⟩
theorem Cr.cons{x y:PV}{xs ys:List PV}(h:kK x y)(hs:Cr xs ys):Cr (x::xs) (y::ys):=⟨by simp[hs.1],fun j a b h1 h2=>by
 cases j with
 |zero=>simp at h1 h2;subst h1;subst h2;exact h
 |succ j=>exact hs.2 j a b (by simpa using h1) (by simpa using h2)⟩
theorem kK.gY{xs ys:List PV}(h:Cr xs ys):kK (.agg xs) (.agg ys):=fun E w v hv=>by
 cases hv with
 |agg cs _ hl hr=>exact .agg cs ys (hl.trans h.1) (fun i c u h1 h2=>by
   have hi:i<xs.length:=by rw[h.1];exact(List.getElem?_eq_some_iff.1 h2).1
   exact h.2 i xs[i] u (by simp[hi]) h2 E w c (hr i c _ h1 (by simp[hi])))
noncomputable def oT(T:ak)(D:List Bool)(n k:Nat):List i6:=(List.range k).map fun d=>⟨bH T D n d,false,[]⟩
def cQ(D:List Bool)(l:List Int):List Int:=l.filter fun a=>aQ D a.toNat
noncomputable def dO(T:ak)(D:List Bool)(n:Nat):de:=⟨n,oT T D n T.nodes.toNat,cQ D (bP T n)⟩
noncomputable def jL(T:ak)(D:List Bool)(n:Int):de:=if cD T D [n]=0 then dO T D n.toNat else⟨0,[],[]⟩
theorem yb(T:ak)(D:List Bool)(n k:Nat):oT T D n (k+1)=oT T D n k++[⟨bH T D n k,false,[]⟩]:=by simp[oT,List.range_succ]
theorem uQ(T:ak)(D:List Bool)(n k:Nat):(oT T D n k).length=k:=by simp[oT]
set_option maxHeartbeats 4000000 in
theorem xg(T:ak)(D:List Bool)(n:Int)(dir:Bool):Can Tryz.prog 91 [aP T,bn D,num n,flag dir] (· =dY (cD T D [n]) (bG T D n.toNat dir)):=by
  refine aH Tryz.func91 I Tryz.ntmps91 I<|ab (.a 3 I<|.k [1,2,3,4] I)<|aj<|ab (.a 2 I<|.c rfl (CO T D) I<|.a 1 I<|.k [1,2,3,4,20] I)<|ag I (fun hc=>?_) (fun hc=>?_)
  · have hch:cD T D [n]=1:=by
      unfold cD
      rw[if_neg]
      revert hc
      cases(aq T&&bW T D)<;>simp
    exact ab (.a 2 I<|.k [8,9] I)<|ao<|⟨_,_,az.of I,ay.aX (ah.cons ay.bM (ah.cons ay.pure ah.nil)),by unfold dY;rw[hch];rfl⟩
  · have hok : (aq T && bW T D) = true := by revert hc; cases (aq T && bW T D) <;> simp
    refine ai<|aj ?_
    obtain⟨q1,hq1⟩:∃q,decide (n<0)=q:=⟨_,rfl⟩
    obtain⟨q2,hq2⟩:∃q,decide (T.nodes≤n)=q:=⟨_,rfl⟩
    have hnb:bu T n= !(q1||q2):=by rw[←hq1,←hq2];unfold bu;by_cases h1:n<0<;>by_cases h2:T.nodes≤n<;>simp[h1,h2]<;>omega
    refine bz 28 (.raw (.bool (q1||q2))) [1,2,3,4] I ?_ ?_
    · refine .a 1 I<|.v (cf I (hq1)) I<|.a 1 I<|?_
      cases q1
      · exact .a 3 I<|.v (cf I (hq2)) I<|.a 1 I<|.k [28,1,2,3,4] I
      · exact .a 5 I<|.k [28,1,2,3,4] I
    refine ag I (fun hc=>?_) (fun hc=>?_)
    · have hch:cD T D [n]=2:=by
        unfold cD
        rw[if_pos hok,if_neg]
        simp[hnb,hc]
      exact ab (.a 2 I<|.k [8,9] I)<|ao<|⟨_,_,az.of I,ay.aX (ah.cons ay.bM (ah.cons ay.pure ah.nil)),by unfold dY;rw[hch];rfl⟩
    · have hnb':bu T n=true:=by rw[hnb,hc];rfl
      have hch:cD T D [n]=0:=by
        unfold cD
        rw[if_pos hok,if_pos]
        simp[hnb']
      obtain⟨hv,hf⟩:=Bool.and_eq_true_iff.1 hok
      have hn:=aT.1 hnb'
      obtain⟨n,rfl⟩:=Int.eq_ofNat_of_zero_le hn.1
      have hS:=aM hv
      have hbd:=fY hv
      obtain⟨N,hN⟩:∃N:Nat,T.nodes=(N:Int):=⟨T.nodes.toNat,by omega⟩
      have hN64:N≤64:=by have:=hS.nodes;omega
      have hnN:n<N:=by omega
      clear hc hq1 hq2 hnb
      refine ai<|aO<|aw 2 I<|b7 (dX I (ba.rk.get I) I I hN hN ⟨by unfold maxLen;omega,by omega⟩) I<|aw 1 I<|aE [1,2,3,4,10] I ?_
      refine aj<|ab (.a 1 I<|.k [1,2,3,4,10,11] I)<|au<|eH [1,2,3,4,10,11] I<|bq (fun r s=>∃k,k≤N∧r=N - k∧s=⟨[(1,bn D),(2,num n),(3,flag dir),(4,.bb (bC T) 0),(10,.own 0),(11,num k)],[some (.row 3 1 N (aK (iM N k)))]⟩) N ⟨0,by omega,by omega,by have:=db N;unfold iM;simp only[List.replicate_zero,List.nil_append,Nat.sub_zero];rw[←this];rfl⟩ ?_
      rintro r s ⟨k,hk,rfl,rfl⟩
      refine aj<|ab (.a 4 I<|.k [1,2,3,4,10,11,35] I)<|ag I (fun hc=>?_) (fun hc=>?_)
      · have hlt:k<N:=by have:=of_decide_eq_true hc;omega
        have hil:(iM N k).length=N:=by simp[iM];omega
        refine ai<|aj<|au<|bI<|aw 2 I<|bw (aN (k) I) I<|bc ((by first|exact bN I (ba.tk.get I) I I I (by first|omega|(simp;omega))|exact bg I (ba.tk.get I) I I I (by first|omega|(simp;omega)))) I I<|aE [1,2,3,4,10,11] I ?_
        refine eF (σ':=[some (.row 3 1 N (aK (iM N (k+1))))]) (by rw[←wj N k hlt];rfl) ?_
        refine aC (.a 1 I<|.v (aU I) I<|.a 1 I<|.k [1,2,3,4,10,11] I) ?_
        exact⟨N - (k+1),by omega,k+1,by omega,rfl,rfl⟩
      · have hke:k=N:=by have:=of_decide_eq_false hc;omega
        subst hke
        have hil:(iM k k).length=k:=by simp[iM]
        refine bd<|aO<|aw 2 I<|bw (aN (n) I) I<|bc ((by first|exact bN I (ba.tk.get I) I I I (by first|omega|(simp;omega))|exact bg I (ba.tk.get I) I I I (by first|omega|(simp;omega)))) I I<|aE [1,2,3,4,10] I ?_
        refine eF (σ':=[some (.row 3 1 k (aK (Net.start k n)))]) (by rw[←yT k n];rfl) ?_
        have hI0:=pI (T:=T) (D:=D) (N:=k) (n:=n) (dir:=dir) hN.symm hnN
        generalize Net.start k n=out0 at hI0
        refine aj<|ab (.a 1 I<|.k [1,2,3,4,10,12] I)<|au<|eH [1,2,3,4,10,12] I<|bq (fun r s=>∃(out:List Int) (b:Bool),Inv T D n dir out∧(b=false→∀a,a<2*T.ae.length→¬lr T D n dir out a)∧r=2*mu out+b.toNat∧s=⟨[(1,bn D),(2,num n),(3,flag dir),(4,.bb (bC T) 0),(10,.own 0),(12,flag b)],[some (.row 3 1 k (aK out))]⟩) (2*mu out0+1) ⟨out0,true,hI0,(fun h=>by cases h),rfl,rfl⟩ ?_
        clear hI0 out0
        rintro r s ⟨out,b,hI,hb,rfl,rfl⟩
        refine aj<|ab (.a 1 I<|.k [1,2,3,4,10,44] I)<|ag I (fun hc=>?_) (fun hc=>?_)
        · subst hc
          refine ai<|au<|ab (.a 1 I<|.k [1,2,3,4,10,12] I)<|ab (.a 1 I<|.k [1,2,3,4,10,12,13] I)<|au<|eH [1,2,3,4,10,12,13] I<|bq (fun r s=>∃(k':Nat) (out':List Int) (b':Bool),k'≤2*T.ae.length∧Inv T D n dir out'∧(b'=false→out'=out∧∀a,a<k'→¬lr T D n dir out a)∧(b'=true→mu out'<mu out)∧r=2*T.ae.length - k'∧s=⟨[(1,bn D),(2,num n),(3,flag dir),(4,.bb (bC T) 0),(10,.own 0),(12,flag b'),(13,num k')],[some (.row 3 1 k (aK out'))]⟩) (2*T.ae.length) ⟨0,out,false,by omega,hI,(fun _=>⟨rfl,fun a ha=>by omega⟩),(fun h=>by cases h),by omega,rfl⟩ ?_
          rintro r s ⟨a,out',b',ha,hI',hb',ht',rfl,rfl⟩
          refine aj<|ab (.a 4 I<|.v (aU I (hc:=rfl)) I<|.a 1 I<|.k [1,2,3,4,10,12,13,50] I)<|ag I (fun hc=>?_) (fun hc=>?_)
          · have ham:a<2*T.ae.length:=by have:=of_decide_eq_true hc;omega
            obtain⟨p,hp⟩:=Int.eq_ofNat_of_zero_le (hS.tail a ham).1
            obtain⟨q,hq⟩:=Int.eq_ofNat_of_zero_le (hS.head a ham).1
            have hpN:p<k:=by have:=(hS.tail a ham).2;omega
            have hqN:q<k:=by have:=(hS.head a ham).2;omega
            have hcb:=hS.cost a ham
            have hDl:D.length=0∨a<D.length:=by simp only[bW,decide_eq_true_eq]at hf;omega
            have hol:out'.length=k:=by have:=hI'.len;omega
            refine ai<|aj<|au<|ep mixed (by kernel_rfl) (.a 2 I<|.v [53,54] (dU I (hp▸gh T hv a ham)) I I<|.a 2 I<|.v [56,57] (dU I (hq▸gX T hv a ham)) I I<|.a 2 I<|.k [1,2,3,4,10,12,13,14,15] I) ?_
            refine aj<|ab (.a 1 I<|.k [1,2,3,4,10,12,13,14,15,59] I)<|ag I (fun hdir=>?_) (fun hdir=>?_)
            · obtain ⟨x, y, hx, hy, ex, ey⟩ : ∃ x y : Nat, fL T dir a = (x : Int) ∧ cY T dir a = (y : Int) ∧ x = q ∧ y = p := ⟨q, p, by rw [hdir]; exact hq, by rw [hdir]; exact hp, rfl, rfl⟩
              subst ex
              subst ey
              refine aC (.a 4 I<|.k [1,2,3,4,10,12,13,14,15] I) ?_
              refine aj ?_
              have gx:out'.getD x 0=at' out' (x:Int):=by simp[at',List.getD_eq_getElem?_getD,show x<out'.length by omega]
              have gy:out'.getD y 0=at' out' (y:Int):=by simp[at',List.getD_eq_getElem?_getD,show y<out'.length by omega]
              have uy:=hI'.ub y (by omega) (by omega)
              have ly:=hI'.ge y (by omega)
              obtain⟨p1,hp1⟩:∃q,(!aQ D a)=q:=⟨_,rfl⟩
              obtain⟨p2,hp2⟩:∃q,decide (out'.getD y 0<0)=q:=⟨_,rfl⟩
              obtain⟨p3,hp3⟩:∃q,(decide (y=n)|| !dp T y)=q:=⟨_,rfl⟩
              refine bz 79 (.raw (.bool (((!p1)||p2)||(!p3)))) [1,2,3,4,10,12,13,14,15] I ?_ ?_
              · refine .a 2 I<|.c rfl (hp1▸qv D a hDl) I<|.a 2 I<|?_
                cases p1
                · exact .a 13 I<|.k [79,1,2,3,4,10,12,13,14,15] I
                · refine .a 2 I<|.v (aN (y) I) I<|.v (aJ I (aB out' y (by omega))) I<|.v (cf I (hp2)) I<|.a 2 I<|?_
                  cases p2
                  · exact .a 3 I<|.c rfl (hp3▸kV T hv y n) I<|.a 2 I<|.k [79,1,2,3,4,10,12,13,14,15] I
                  · exact .a 6 I<|.k [79,1,2,3,4,10,12,13,14,15] I
              refine ag I (fun hc=>?_) (fun hc=>?_)
              · have hng:¬lr T D n dir out' a:=fun hg=>by
                  obtain⟨⟨w1,w2,w3⟩,_⟩:=hg
                  rw[hy]at w2 w3
                  have e1:p1=true:=by rw[←hp1,w1];rfl
                  have e2:p2=false:=by rw[←hp2,gy];simp;omega
                  have e3:p3=true:=by
                    rw[←hp3]
                    rcases w3 with w3|w3
                    · have:y=n:=by omega
                      simp[this]
                    · rw[Int.toNat_natCast]at w3;simp[w3]
                  rw[e1,e2,e3]at hc
                  cases hc
                refine bd<|aC (.a 1 I<|.v (aU I) I<|.a 1 I<|.k [1,2,3,4,10,12,13] I) ?_
                first
                  |exact⟨2*T.ae.length - (a+1),by omega,a+1,_,true,by omega,hIg,fun h=>(by cases h),fun _=>(by by_cases e:b'=true;(have:=ht' e;omega);(have:=(hb' (by cases b';rfl;exact absurd rfl e)).1;rw[this]at hmg;rw[this];exact hmg)),rfl,rfl⟩
                  |exact⟨2*T.ae.length - (a+1),by omega,a+1,out',b',by omega,hI',fun h=>⟨(hb' h).1,fun c hc'=>by by_cases e:c=a;(rw[e,←(hb' h).1];exact hng);exact(hb' h).2 c (by omega)⟩,ht',rfl,rfl⟩
              · have hway:Net.Way T D n dir out' a:=by
                  obtain⟨c1,c3⟩:=Bool.or_eq_false_iff.1 hc
                  obtain⟨c1,c2⟩:=Bool.or_eq_false_iff.1 c1
                  have e1:p1=true:=by cases p1;cases c1;rfl
                  have e3:p3=true:=by cases p3;cases c3;rfl
                  rw[e1]at hp1
                  rw[c2]at hp2
                  rw[e3]at hp3
                  refine⟨by revert hp1;cases aQ D a<;>simp,?_,?_⟩
                  · rw[hy,←gy];have:=of_decide_eq_false hp2;omega
                  · rw[hy,Int.toNat_natCast]
                    rcases Bool.or_eq_true_iff.1 hp3 with h|h
                    · exact .inl (by have:=of_decide_eq_true h;omega)
                    · exact .inr (by revert h;cases dp T y<;>simp)
                have wy:=hway.2.1
                rw[hy]at wy
                refine ai<|ep mixed (by kernel_rfl) (.a 2 I<|.v [80,81] (aN (y) I) I I<|.v [82] (aJ I ((aB out' y (by omega)).trans (by rw[gy]))) I I<|.a 2 I<|.v [84,85] (dU I (lg T hv a ham)) I I<|.v [83,86] (aU I) I I<|.a 1 I<|.k [1,2,3,4,10,12,13,14,16] I) ?_
                obtain⟨p4,hp4⟩:∃q,decide (at' out' (x:Int)<0)=q:=⟨_,rfl⟩
                obtain⟨p5,hp5⟩:∃q,decide (at' out' (y:Int)+cp T a<at' out' (x:Int))=q:=⟨_,rfl⟩
                refine bz 100 (.raw (.bool (p4||p5))) [1,2,3,4,10,12,13,14,16] I ?_ ?_
                · refine .a 2 I<|.v (aN (x) I) I<|.v (aJ I ((aB out' x (by omega)).trans (by rw[gx]))) I<|.v (cf I (hp4)) I<|.a 1 I<|?_
                  cases p4
                  · exact .a 3 I<|.v (aN (x) I) I<|.v (aJ I ((aB out' x (by omega)).trans (by rw[gx]))) I<|.v (cf I (hp5)) I<|.a 1 I<|.k [100,1,2,3,4,10,12,13,14,16] I
                  · exact .a 7 I<|.k [100,1,2,3,4,10,12,13,14,16] I
                refine ag I (fun hc=>?_) (fun hc=>?_)
                · have hg:lr T D n dir out' a:=⟨hway,by
                    rw[hx,hy]
                    rcases Bool.or_eq_true_iff.1 hc with h|h
                    · rw[h]at hp4;exact .inl (of_decide_eq_true hp4)
                    · rw[h]at hp5;exact .inr (of_decide_eq_true hp5)⟩
                  obtain⟨hIg,hmg⟩:=rH hS hI' a ham hg
                  have hge:zl T dir out' a=out'.set x (at' out' (y:Int)+cp T a):=by unfold zl;rw[hx,hy,Int.toNat_natCast]
                  rw[hge]at hIg hmg
                  refine aO<|aw 3 I<|bw (aN (x) I) I<|bc ((by first|exact bN I (ba.tk.get I) I I I (by first|omega|(simp;omega))|exact bg I (ba.tk.get I) I I I (by first|omega|(simp;omega)))) I I<|aE [1,2,3,4,10,13] I ?_
                  refine aC (.a 1 I<|.k [1,2,3,4,10,12,13] I) ?_
                  refine aC (.a 1 I<|.v (aU I) I<|.a 1 I<|.k [1,2,3,4,10,12,13] I) ?_
                  first
                    |exact⟨2*T.ae.length - (a+1),by omega,a+1,_,true,by omega,hIg,fun h=>(by cases h),fun _=>(by by_cases e:b'=true;(have:=ht' e;omega);(have:=(hb' (by cases b';rfl;exact absurd rfl e)).1;rw[this]at hmg;rw[this];exact hmg)),rfl,rfl⟩
                    |exact⟨2*T.ae.length - (a+1),by omega,a+1,out',b',by omega,hI',fun h=>⟨(hb' h).1,fun c hc'=>by by_cases e:c=a;(rw[e,←(hb' h).1];exact hng);exact(hb' h).2 c (by omega)⟩,ht',rfl,rfl⟩
                · have hng:¬lr T D n dir out' a:=fun hg=>by
                    obtain⟨_,hg⟩:=hg
                    rw[hx,hy]at hg
                    obtain⟨c1,c2⟩:=Bool.or_eq_false_iff.1 hc
                    rw[c1]at hp4
                    rw[c2]at hp5
                    rcases hg with h|h
                    · exact of_decide_eq_false hp4 h
                    · exact of_decide_eq_false hp5 h
                  refine ai<|aC (.a 1 I<|.v (aU I) I<|.a 1 I<|.k [1,2,3,4,10,12,13] I) ?_
                  first
                    |exact⟨2*T.ae.length - (a+1),by omega,a+1,_,true,by omega,hIg,fun h=>(by cases h),fun _=>(by by_cases e:b'=true;(have:=ht' e;omega);(have:=(hb' (by cases b';rfl;exact absurd rfl e)).1;rw[this]at hmg;rw[this];exact hmg)),rfl,rfl⟩
                    |exact⟨2*T.ae.length - (a+1),by omega,a+1,out',b',by omega,hI',fun h=>⟨(hb' h).1,fun c hc'=>by by_cases e:c=a;(rw[e,←(hb' h).1];exact hng);exact(hb' h).2 c (by omega)⟩,ht',rfl,rfl⟩
            · obtain ⟨x, y, hx, hy, ex, ey⟩ : ∃ x y : Nat, fL T dir a = (x : Int) ∧ cY T dir a = (y : Int) ∧ x = p ∧ y = q := ⟨p, q, by rw [hdir]; exact hp, by rw [hdir]; exact hq, rfl, rfl⟩
              subst ex
              subst ey
              refine ai<|aj ?_
              have gx:out'.getD x 0=at' out' (x:Int):=by simp[at',List.getD_eq_getElem?_getD,show x<out'.length by omega]
              have gy:out'.getD y 0=at' out' (y:Int):=by simp[at',List.getD_eq_getElem?_getD,show y<out'.length by omega]
              have uy:=hI'.ub y (by omega) (by omega)
              have ly:=hI'.ge y (by omega)
              obtain⟨p1,hp1⟩:∃q,(!aQ D a)=q:=⟨_,rfl⟩
              obtain⟨p2,hp2⟩:∃q,decide (out'.getD y 0<0)=q:=⟨_,rfl⟩
              obtain⟨p3,hp3⟩:∃q,(decide (y=n)|| !dp T y)=q:=⟨_,rfl⟩
              refine bz 79 (.raw (.bool (((!p1)||p2)||(!p3)))) [1,2,3,4,10,12,13,14,15] I ?_ ?_
              · refine .a 2 I<|.c rfl (hp1▸qv D a hDl) I<|.a 2 I<|?_
                cases p1
                · exact .a 13 I<|.k [79,1,2,3,4,10,12,13,14,15] I
                · refine .a 2 I<|.v (aN (y) I) I<|.v (aJ I (aB out' y (by omega))) I<|.v (cf I (hp2)) I<|.a 2 I<|?_
                  cases p2
                  · exact .a 3 I<|.c rfl (hp3▸kV T hv y n) I<|.a 2 I<|.k [79,1,2,3,4,10,12,13,14,15] I
                  · exact .a 6 I<|.k [79,1,2,3,4,10,12,13,14,15] I
              refine ag I (fun hc=>?_) (fun hc=>?_)
              · have hng:¬lr T D n dir out' a:=fun hg=>by
                  obtain⟨⟨w1,w2,w3⟩,_⟩:=hg
                  rw[hy]at w2 w3
                  have e1:p1=true:=by rw[←hp1,w1];rfl
                  have e2:p2=false:=by rw[←hp2,gy];simp;omega
                  have e3:p3=true:=by
                    rw[←hp3]
                    rcases w3 with w3|w3
                    · have:y=n:=by omega
                      simp[this]
                    · rw[Int.toNat_natCast]at w3;simp[w3]
                  rw[e1,e2,e3]at hc
                  cases hc
                refine bd<|aC (.a 1 I<|.v (aU I) I<|.a 1 I<|.k [1,2,3,4,10,12,13] I) ?_
                first
                  |exact⟨2*T.ae.length - (a+1),by omega,a+1,_,true,by omega,hIg,fun h=>(by cases h),fun _=>(by by_cases e:b'=true;(have:=ht' e;omega);(have:=(hb' (by cases b';rfl;exact absurd rfl e)).1;rw[this]at hmg;rw[this];exact hmg)),rfl,rfl⟩
                  |exact⟨2*T.ae.length - (a+1),by omega,a+1,out',b',by omega,hI',fun h=>⟨(hb' h).1,fun c hc'=>by by_cases e:c=a;(rw[e,←(hb' h).1];exact hng);exact(hb' h).2 c (by omega)⟩,ht',rfl,rfl⟩
              · have hway:Net.Way T D n dir out' a:=by
                  obtain⟨c1,c3⟩:=Bool.or_eq_false_iff.1 hc
                  obtain⟨c1,c2⟩:=Bool.or_eq_false_iff.1 c1
                  have e1:p1=true:=by cases p1;cases c1;rfl
                  have e3:p3=true:=by cases p3;cases c3;rfl
                  rw[e1]at hp1
                  rw[c2]at hp2
                  rw[e3]at hp3
                  refine⟨by revert hp1;cases aQ D a<;>simp,?_,?_⟩
                  · rw[hy,←gy];have:=of_decide_eq_false hp2;omega
                  · rw[hy,Int.toNat_natCast]
                    rcases Bool.or_eq_true_iff.1 hp3 with h|h
                    · exact .inl (by have:=of_decide_eq_true h;omega)
                    · exact .inr (by revert h;cases dp T y<;>simp)
                have wy:=hway.2.1
                rw[hy]at wy
                refine ai<|ep mixed (by kernel_rfl) (.a 2 I<|.v [80,81] (aN (y) I) I I<|.v [82] (aJ I ((aB out' y (by omega)).trans (by rw[gy]))) I I<|.a 2 I<|.v [84,85] (dU I (lg T hv a ham)) I I<|.v [83,86] (aU I) I I<|.a 1 I<|.k [1,2,3,4,10,12,13,14,16] I) ?_
                obtain⟨p4,hp4⟩:∃q,decide (at' out' (x:Int)<0)=q:=⟨_,rfl⟩
                obtain⟨p5,hp5⟩:∃q,decide (at' out' (y:Int)+cp T a<at' out' (x:Int))=q:=⟨_,rfl⟩
                refine bz 100 (.raw (.bool (p4||p5))) [1,2,3,4,10,12,13,14,16] I ?_ ?_
                · refine .a 2 I<|.v (aN (x) I) I<|.v (aJ I ((aB out' x (by omega)).trans (by rw[gx]))) I<|.v (cf I (hp4)) I<|.a 1 I<|?_
                  cases p4
                  · exact .a 3 I<|.v (aN (x) I) I<|.v (aJ I ((aB out' x (by omega)).trans (by rw[gx]))) I<|.v (cf I (hp5)) I<|.a 1 I<|.k [100,1,2,3,4,10,12,13,14,16] I
                  · exact .a 7 I<|.k [100,1,2,3,4,10,12,13,14,16] I
                refine ag I (fun hc=>?_) (fun hc=>?_)
                · have hg:lr T D n dir out' a:=⟨hway,by
                    rw[hx,hy]
                    rcases Bool.or_eq_true_iff.1 hc with h|h
                    · rw[h]at hp4;exact .inl (of_decide_eq_true hp4)
                    · rw[h]at hp5;exact .inr (of_decide_eq_true hp5)⟩
                  obtain⟨hIg,hmg⟩:=rH hS hI' a ham hg
                  have hge:zl T dir out' a=out'.set x (at' out' (y:Int)+cp T a):=by unfold zl;rw[hx,hy,Int.toNat_natCast]
                  rw[hge]at hIg hmg
                  refine aO<|aw 3 I<|bw (aN (x) I) I<|bc ((by first|exact bN I (ba.tk.get I) I I I (by first|omega|(simp;omega))|exact bg I (ba.tk.get I) I I I (by first|omega|(simp;omega)))) I I<|aE [1,2,3,4,10,13] I ?_
                  refine aC (.a 1 I<|.k [1,2,3,4,10,12,13] I) ?_
                  refine aC (.a 1 I<|.v (aU I) I<|.a 1 I<|.k [1,2,3,4,10,12,13] I) ?_
                  first
                    |exact⟨2*T.ae.length - (a+1),by omega,a+1,_,true,by omega,hIg,fun h=>(by cases h),fun _=>(by by_cases e:b'=true;(have:=ht' e;omega);(have:=(hb' (by cases b';rfl;exact absurd rfl e)).1;rw[this]at hmg;rw[this];exact hmg)),rfl,rfl⟩
                    |exact⟨2*T.ae.length - (a+1),by omega,a+1,out',b',by omega,hI',fun h=>⟨(hb' h).1,fun c hc'=>by by_cases e:c=a;(rw[e,←(hb' h).1];exact hng);exact(hb' h).2 c (by omega)⟩,ht',rfl,rfl⟩
                · have hng:¬lr T D n dir out' a:=fun hg=>by
                    obtain⟨_,hg⟩:=hg
                    rw[hx,hy]at hg
                    obtain⟨c1,c2⟩:=Bool.or_eq_false_iff.1 hc
                    rw[c1]at hp4
                    rw[c2]at hp5
                    rcases hg with h|h
                    · exact of_decide_eq_false hp4 h
                    · exact of_decide_eq_false hp5 h
                  refine ai<|aC (.a 1 I<|.v (aU I) I<|.a 1 I<|.k [1,2,3,4,10,12,13] I) ?_
                  first
                    |exact⟨2*T.ae.length - (a+1),by omega,a+1,_,true,by omega,hIg,fun h=>(by cases h),fun _=>(by by_cases e:b'=true;(have:=ht' e;omega);(have:=(hb' (by cases b';rfl;exact absurd rfl e)).1;rw[this]at hmg;rw[this];exact hmg)),rfl,rfl⟩
                    |exact⟨2*T.ae.length - (a+1),by omega,a+1,out',b',by omega,hI',fun h=>⟨(hb' h).1,fun c hc'=>by by_cases e:c=a;(rw[e,←(hb' h).1];exact hng);exact(hb' h).2 c (by omega)⟩,ht',rfl,rfl⟩
          · have hae:a=2*T.ae.length:=by have:=of_decide_eq_false hc;omega
            refine ln (.cons (k:=1) I<|.cons (k:=2) I<|.cons (k:=3) I<|.cons (k:=4) I<|.cons (k:=10) I<|.cons (k:=12) I<|Sub.nil _) ?_
            refine bd<|⟨_,?_,out',b',hI',fun h=>?_,rfl,rfl⟩
            · cases b'
              · rw[(hb' rfl).1];simp
              · have:=ht' rfl;simp;omega
            · rw[(hb' h).1];intro c hc';exact(hb' h).2 c (by omega)
        · have hdist:bG T D n dir=out:=kB hS (xo hI (hb hc))
          refine bd<|ab (.a 3 I<|.k [8,9] I)<|ao<|⟨_,_,az.of I,ay.aX (ah.cons (ay.fy rfl ah.pure) (ah.cons ay.pure ah.nil)),?_⟩
          unfold dY
          rw[hch,if_pos rfl,Int.toNat_natCast,hdist]
          unfold av
          rw[show out.length=k by have:=hI.len;omega]
theorem mR(T:ak)(D:List Bool)(d:Int):Can Tryz.prog 36 [aP T,bn D,num d] (· =dY (cD T D [d]) (bG T D d.toNat false)):=by
 exact aH Tryz.func36 I Tryz.ntmps36 I<|ab (.a 3 I<|.k [1,2,3] I)<|ab (.a 3 I<|.c rfl (xg T D d false) I<|.a 4 I<|.k [6,7] I)<|ao<|⟨_,_,az.of I,ay.pure,rfl⟩
def Jv(T:ak)(D:List Bool)(L:List Int)(a d:Nat):Bool:=
 ((((!aQ D a)&&decide (bm T a≠(d:Int)))&&decide (0≤L.getD (aS T a).toNat 0))&&(decide ((aS T a).toNat=d)|| !dp T (aS T a).toNat))&&decide (L.getD (bm T a).toNat 0=L.getD (aS T a).toNat 0+cp T a)
theorem IZ(T:ak)(D:List Bool)(L:List Int)(a d:Nat)(hv:aq T=true)(hf:bW T D=true)(hL:(L.length:Int)=T.nodes)(hub:∀x∈L, -1≤x∧x≤4194240)(ha:a<2*T.ae.length):
  Can Tryz.prog 44 [aP T,bn D,av L,num a,num d] (· =flag (Jv T D L a d)):=by
 have hS:=aM hv
 obtain⟨x,hx⟩:=Int.eq_ofNat_of_zero_le (hS.tail a ha).1
 obtain⟨y,hy⟩:=Int.eq_ofNat_of_zero_le (hS.head a ha).1
 have hxL:x<L.length:=by have:=(hS.tail a ha).2;omega
 have hyL:y<L.length:=by have:=(hS.head a ha).2;omega
 have hcb:=hS.cost a ha
 have hDl:D.length=0∨a<D.length:=by simp only[bW,decide_eq_true_eq]at hf;omega
 have uy:=hub _ (cr (d:=0) hyL)
 obtain⟨p1,hp1⟩:∃q,(!aQ D a)=q:=⟨_,rfl⟩
 obtain⟨p2,hp2⟩:∃q,decide ((x:Int)≠(d:Int))=q:=⟨_,rfl⟩
 obtain⟨p3,hp3⟩:∃q,decide (0≤L.getD y 0)=q:=⟨_,rfl⟩
 obtain⟨p4,hp4⟩:∃q,(decide (y=d)|| !dp T y)=q:=⟨_,rfl⟩
 obtain⟨p5,hp5⟩:∃q,decide (L.getD x 0=L.getD y 0+cp T a)=q:=⟨_,rfl⟩
 have hon:Jv T D L a d=((((p1&&p2)&&p3)&&p4)&&p5):=by
  unfold Jv
  rw[hx,hy,Int.toNat_natCast,Int.toNat_natCast,hp1,hp2,hp3,hp4,hp5]
 rw[hon]
 refine aH Tryz.func44 I Tryz.ntmps44 I<|ab (.a 2 I<|.k [1,2,3,4,5] I)<|ep mixed (by kernel_rfl) (.a 2 I<|.v [13,14] (dU I (hx▸gh T hv a ha)) I I<|.a 2 I<|.v [16,17] (dU I (hy▸gX T hv a ha)) I I<|.a 2 I<|.k [1,2,3,4,5,11,12] I) ?_
 refine iJ mixed (by kernel_rfl) 10 (.raw (.bool ((((p1&&p2)&&p3)&&p4)&&p5))) [] I ?_ ?_
 ·refine .a 2 I<|.v [19,20] (dU I (hp1▸qv D a hDl)) I I<|.a 1 I<|?_
  cases p1
  ·exact .a 33 I<|.k [10] I
  ·refine .a 2 I<|.v [23,24] (cf I (hp2)) I I<|.a 2 I<|?_
   cases p2
   ·exact .a 28 I<|.k [10] I
   ·refine .a 2 I<|.v [28,29] (aN (y) I) I I<|.v [30] (aJ I (aB L y hyL)) I I<|.v [31] (cf I (hp3)) I I<|.a 2 I<|?_
    cases p3
    ·exact .a 21 I<|.k [10] I
    ·refine .a 3 I<|.v [35,36,37] (dU I (hp4▸kV T hv y d)) I I<|.a 2 I<|?_
     cases p4
     ·exact .a 15 I<|.k [10] I
     ·exact .a 2 I<|.v [41,42] (aN (x) I) I I<|.v [43] (aJ I (aB L x hxL)) I I<|.a 2 I<|.v [45,46] (aN (y) I) I I<|.v [47] (aJ I (aB L y hyL)) I I<|.a 2 I<|.v [49,50] (dU I (lg T hv a ha)) I I<|.v [48,51] (aU I) I I<|.v [44,52] (cf I (hp5)) I I<|.a 2 I<|.k [10] I
 exact ao<|⟨_,_,az.of I,ay.pure,rfl⟩
end
end PW
end Go.Proofs.YtnegbdpggideiaaGreatDoor
