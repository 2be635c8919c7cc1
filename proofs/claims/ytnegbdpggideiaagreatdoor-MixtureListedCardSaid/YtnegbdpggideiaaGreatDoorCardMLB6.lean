/- Texts of the proof, part 6. -/
import Derived.Test.YtnegbdpggideiaaGreatDoorCardMLB5
set_option linter.unusedVariables false
set_option linter.unusedSimpArgs false
set_option maxRecDepth 10000
set_option maxHeartbeats 1000000
namespace Go.Proofs.YtnegbdpggideiaaGreatDoor
namespace Net
def mj:List Int→Nat
 | []=>0
 |v::l=>(if 0≤v then 1 else 0)+mj l
theorem oB(l:List Int):mj l≤l.length:=by
 induction l with
 |nil=>exact Nat.le_refl _
 |cons v l ih=>simp only[mj,List.length_cons];split<;>omega
theorem pO:∀(l:List Int) (i:Nat) (c:Int),i<l.length→0≤c→mj (l.set i c)=mj l+(if 0≤l.getD i (-1) then 0 else 1)
 | [],i,c,h,_=>by simp at h
 |v::l,0,c,_,hc=>by
  simp only[List.set_cons_zero,mj,List.getD_cons_zero]
  rw[if_pos hc]
  by_cases h:0≤v
  ·rw[if_pos h,if_pos h];omega
  ·rw[if_neg h,if_neg h];omega
 |v::l,i+1,c,h,hc=>by
  simp only[List.set_cons_succ,mj,List.getD_cons_succ]
  rw[pO l i c (by simpa using h) hc]
  omega
def Iq(v:Int):Nat:=if v<0 then 4194241 else v.toNat
def mu:List Int→Nat
 | []=>0
 |v::l=>Iq v+mu l
theorem Cv:∀(l:List Int) (i:Nat) (c:Int),i<l.length→mu (l.set i c)+Iq (l.getD i (-1))=mu l+Iq c
 | [],i,c,h=>by simp at h
 |v::l,0,c,_=>by simp only[List.set_cons_zero,mu,List.getD_cons_zero];omega
 |v::l,i+1,c,h=>by
  have:=Cv l i c (by simpa using h)
  simp only[List.set_cons_succ,mu,List.getD_cons_succ]
  omega
structure Inv (T:ai) (D:List Bool) (n:Nat) (dir:Bool) (out:List Int):Prop where
 len:(out.length:Int)=T.nodes
 root:at' out (n:Int)=0
 ge:∀x:Nat,(x:Int)<T.nodes→ -1≤at' out (x:Int)
 IM:∀x:Nat,(x:Int)<T.nodes→at' out (x:Int)≤65535*(mj out:Int)
 my:∀x:Nat,(x:Int)<T.nodes→0≤at' out (x:Int)→x=n∨∃a,a<2*T.ae.length∧eW T dir a=(x:Int)∧Way T D n dir out a∧at' out (cJ T dir a)+cb T a≤at' out (x:Int)
def kH(T:ai)(D:List Bool)(n:Nat)(dir:Bool)(out:List Int)(a:Nat):Prop:=
 Way T D n dir out a∧(at' out (eW T dir a)<0∨at' out (cJ T dir a)+cb T a<at' out (eW T dir a))
def xh(T:ai)(dir:Bool)(out:List Int)(a:Nat):List Int:=out.set (eW T dir a).toNat (at' out (cJ T dir a)+cb T a)
theorem xK(out:List Int)(x y:Nat)(c:Int)(hx:x<out.length):at' (out.set x c) (y:Int)=if y=x then c else at' out (y:Int):=by
 simp only[at',Int.toNat_natCast,List.getD_eq_getElem?_getD,List.getElem?_set]
 by_cases h:x=y
 ·subst h;simp[hx]
 ·rw[if_neg h,if_neg (Ne.symm h)]
theorem qV{T:ai}(hT:Sound T){D:List Bool}{n:Nat}{dir:Bool}{out:List Int}(h:Inv T D n dir out)(a:Nat)(ha:a<2*T.ae.length)(hg:kH T D n dir out a):
  Inv T D n dir (xh T dir out a)∧mu (xh T dir out a)<mu out:=by
 obtain⟨⟨w1,w2,w3⟩,hb⟩:=hg
 have hc:=hT.cost a ha
 obtain⟨x,hx⟩:=Int.eq_ofNat_of_zero_le (hT.x dir a ha).1
 obtain⟨y,hy⟩:=Int.eq_ofNat_of_zero_le (hT.y dir a ha).1
 have hxn:=(hT.x dir a ha).2
 have hyn:=(hT.y dir a ha).2
 unfold xh
 rw[hx,hy,Int.toNat_natCast]
 rw[hx,hy]at hb
 rw[hy]at w2 w3
 rw[hx]at hxn
 rw[hy]at hyn
 have hlen:=h.len
 have hxl:x<out.length:=by omega
 generalize hcc:at' out (y:Int)+cb T a=c at*
 have hby:=h.IM y hyn
 have hxr:x≠n:=fun e=>by
  rw[e,h.root]at hb
  omega
 have hcs:=pO out x c hxl (by omega)
 have hgx:out.getD x (-1)=at' out (x:Int):=by simp[at']
 rw[hgx]at hcs
 have at1:=fun z=>xK out x z c hxl
 have reach:∀z:Nat,(z:Int)<T.nodes→0≤at' out (z:Int)→0≤at' (out.set x c) (z:Int):=fun z _ hz=>by
  rw[at1 z];split<;>omega
 have less:∀z:Nat,(z:Int)<T.nodes→0≤at' out (z:Int)→at' (out.set x c) (z:Int)≤at' out (z:Int):=fun z _ hz=>by
  rw[at1 z]
  split
  ·rename_i e;subst e;omega
  ·omega
 have IH:∀b,b<2*T.ae.length→Way T D n dir out b→Way T D n dir (out.set x c) b:=fun b hbl ⟨v1,v2,v3⟩=>by
  obtain⟨z,hz⟩:=Int.eq_ofNat_of_zero_le (hT.y dir b hbl).1
  have hzn:=(hT.y dir b hbl).2
  refine⟨v1,?_,v3⟩
  rw[hz]at v2 hzn ⊢
  exact reach z hzn v2
 refine⟨⟨by rw[List.length_set];exact hlen,?_,fun z hz=>?_,fun z hz=>?_,fun z hz h0=>?_⟩,?_⟩
 ·rw[at1 n,if_neg (Ne.symm hxr)];exact h.root
 ·rw[at1 z];split
  ·omega
  ·exact h.ge z hz
 ·rw[at1 z]
  have hbz:=h.IM z hz
  have:(mj out:Int)≤(mj (out.set x c):Int):=by rw[hcs];split<;>omega
  split
  ·rw[hcs]
   rename_i e
   subst e
   by_cases hr:0≤at' out (z:Int)
   ·rw[if_pos hr];omega
   ·rw[if_neg hr];omega
  ·omega
 ·by_cases e:z=x
  ·subst e
   refine .inr ⟨a,ha,hx,IH a ha ⟨w1,by rw[hy];exact w2,by rw[hy];exact w3⟩,?_⟩
   rw[hy,at1 z,if_pos rfl]
   have:=less y hyn w2
   omega
  ·rw[at1 z,if_neg e]at h0
   rcases h.my z hz h0 with e2|⟨b,hbl,hbx,hbw,hbe⟩
   ·exact .inl e2
   ·refine .inr ⟨b,hbl,hbx,IH b hbl hbw,?_⟩
    rw[at1 z,if_neg e]
    obtain⟨u,hu⟩:=Int.eq_ofNat_of_zero_le (hT.y dir b hbl).1
    have hun:=(hT.y dir b hbl).2
    have hw2:=hbw.2.1
    rw[hu]at hun hbe hw2 ⊢
    have:=less u hun hw2
    omega
 ·have hm:=Cv out x c hxl
  rw[hgx]at hm
  have hcl:=oB out
  have hnn:=hT.nodes
  have hcb:c≤4194240:=by
   rcases hb with hb|hb
   ·have hlt:mj out<out.length:=by
     have:=oB (out.set x c)
     rw[List.length_set,hcs,if_neg (by omega)]at this
     omega
    omega
   ·have:=h.IM x hxn;omega
  have hw1:Iq c=c.toNat:=by unfold Iq;rw[if_neg (by omega)]
  have hw2:Iq (at' out (x:Int))=if at' out (x:Int)<0 then 4194241 else(at' out (x:Int)).toNat:=rfl
  rw[hw1,hw2]at hm
  rcases hb with hb|hb
  ·rw[if_pos hb]at hm;omega
  ·by_cases hr:at' out (x:Int)<0
   ·rw[if_pos hr]at hm;omega
   ·rw[if_neg hr]at hm;omega
theorem vm{T:ai}{D:List Bool}{n:Nat}{dir:Bool}{out:List Int}(h:Inv T D n dir out)(hn:∀a,a<2*T.ae.length→¬kH T D n dir out a):ik T D n dir out:=by
 have closed:∀a,a<2*T.ae.length→Way T D n dir out a→0≤at' out (eW T dir a)∧at' out (eW T dir a)≤at' out (cJ T dir a)+cb T a:=fun a ha hw=>by
  have:=hn a ha
  unfold kH at this
  have h2:¬(at' out (eW T dir a)<0∨at' out (cJ T dir a)+cb T a<at' out (eW T dir a)):=fun e=>this ⟨hw,e⟩
  omega
 refine⟨h.len,h.root,h.ge,closed,fun x hx h0=>?_⟩
 rcases h.my x hx h0 with e|⟨a,ha,hax,hw,he⟩
 ·exact .inl e
 ·refine .inr ⟨a,ha,hax,hw,?_⟩
  have:=closed a ha hw
  rw[hax]at this
  omega
def start(N n:Nat):List Int:=(List.replicate N (-1)).set n 0
theorem nw(N n:Nat)(hn:n<N)(x:Nat)(hx:x<N):at' (start N n) (x:Int)=if x=n then 0 else -1:=by
 unfold start
 rw[xK _ n x 0 (by simpa using hn)]
 split
 ·rfl
 ·simp[at',hx]
theorem oy{T:ai}{D:List Bool}{N n:Nat}{dir:Bool}(hN:(N:Int)=T.nodes)(hn:n<N):Inv T D n dir (start N n):=by
 have hc:1≤mj (start N n):=by
  unfold start
  rw[pO _ n 0 (by simpa using hn) (by omega)]
  have:(List.replicate N (-1:Int)).getD n (-1)= -1:=by simp[hn]
  rw[this]
  simp
 refine⟨by simp[start];exact hN,by rw[nw N n hn n hn,if_pos rfl],fun x hx=>?_,fun x hx=>?_,fun x hx h0=>?_⟩
 ·rw[nw N n hn x (by omega)];split<;>omega
 ·rw[nw N n hn x (by omega)];split<;>omega
 ·rw[nw N n hn x (by omega)]at h0
  by_cases e:x=n
  ·exact .inl e
  ·rw[if_neg e]at h0;omega
theorem lf{T:ai}(hT:Sound T){D:List Bool}{n:Nat}{dir:Bool}:∀(k:Nat) (out:List Int),mu out=k→Inv T D n dir out→∃out',ik T D n dir out'∧Inv T D n dir out':=by
 intro k
 induction k using Nat.strongRecOn with
 |_ k ih=>
  intro out hk hi
  by_cases h:∃a,a<2*T.ae.length∧kH T D n dir out a
  ·obtain⟨a,ha,hg⟩:=h
   obtain⟨h1,h2⟩:=qV hT hi a ha hg
   exact ih _ (by omega) _ rfl h1
  ·exact⟨out,vm hi fun a ha hg=>h ⟨a,ha,hg⟩,hi⟩
theorem iT{T:ai}(hT:Sound T)(D:List Bool){n:Nat}(dir:Bool)(hn:(n:Int)<T.nodes):ik T D n dir (br T D n dir):=by
 obtain⟨N,hN⟩:=Int.eq_ofNat_of_zero_le (by have:=hT.nodes.1;omega:0≤T.nodes)
 obtain⟨out,ho,_⟩:=lf hT _ (start N n) rfl (oy (D:=D) (dir:=dir) hN.symm (by omega))
 rw[jN hT ho]
 exact ho
theorem Bu{T:ai}(hT:Sound T)(D:List Bool){n:Nat}(dir:Bool)(hn:(n:Int)<T.nodes):Inv T D n dir (br T D n dir):=by
 obtain⟨N,hN⟩:=Int.eq_ofNat_of_zero_le (by have:=hT.nodes.1;omega:0≤T.nodes)
 obtain⟨out,ho,hi⟩:=lf hT _ (start N n) rfl (oy (D:=D) (dir:=dir) hN.symm (by omega))
 rw[jN hT ho]
 exact hi
end Net
end Go.Proofs.YtnegbdpggideiaaGreatDoor
namespace Go.Proofs.YtnegbdpggideiaaGreatDoor
namespace Net
theorem aK{T:ai}(h:ao T=true):Sound T:=by
 have hb:=gm h
 have lk:∀i,i<T.ae.length→(0≤(cu T.ae i).a∧(cu T.ae i).a<T.nodes)∧(0≤(cu T.ae i).b∧(cu T.ae i).b<T.nodes)∧(1≤(cu T.ae i).c0∧(cu T.ae i).c0≤65535)∧(1≤(cu T.ae i).c1∧(cu T.ae i).c1≤65535):=fun i hi=>by
  have:=qP h i hi
  simp only[ic,bn,bQ,Bool.and_eq_true,decide_eq_true_eq]at this
  obtain⟨⟨⟨⟨⟨⟨⟨_,h1⟩,h2⟩,h3⟩,h4⟩,_⟩,_⟩,_⟩:=this
  exact⟨h1,h2,h3,h4⟩
 have fl:∀a,a<2*T.ae.length→flip a<2*T.ae.length:=fun a ha=>by unfold flip;split<;>omega
 have tl:∀a,a<2*T.ae.length→0≤bb T a∧bb T a<T.nodes:=fun a ha=>by
  have:=lk (a / 2) (by omega)
  unfold bb;split
  ·exact this.1
  ·exact this.2.1
 refine⟨fun a ha=>?_,tl,fun a ha=>tl _ (fl a ha),⟨hb.1,hb.2.1⟩⟩
 have:=lk (a / 2) (by omega)
 unfold cb;split
 ·exact this.2.2.1
 ·exact this.2.2.2
def il(N k:Nat):List Int:=List.replicate k (-1)++List.replicate (N - k) 0
theorem vG(N k:Nat)(h:k<N):(il N k).set k (-1)=il N (k+1):=by
 unfold il
 rw[List.set_append_right _ _ (by simp)]
 rw[List.length_replicate,Nat.sub_self,show N - k=(N - (k+1))+1 by omega,List.replicate_succ,List.set_cons_zero,List.replicate_succ',List.append_assoc]
 rfl
theorem xx(N n:Nat):(il N N).set n 0=start N n:=by simp[il,start]
theorem Inv.ub{T:ai}{D:List Bool}{n:Nat}{dir:Bool}{out:List Int}(h:Inv T D n dir out)(x:Nat)(hx:(x:Int)<T.nodes)(hN:T.nodes≤64):at' out (x:Int)≤4194240:=by
 have h1:=h.IM x hx
 have h2:=oB out
 have h3:=h.len
 omega
end Net
end Go.Proofs.YtnegbdpggideiaaGreatDoor
namespace Go.Proofs.YtnegbdpggideiaaGreatDoor
namespace PW
open Go.RowKit cE Mem Net
theorem tR(T:ai)(hv:ao T=true):Can Tryz.prog 174 [aN T] (· =je (dh (aS T) T.nodes.toNat (2*T.ae.length))):=by
 have hbd:=gm hv
 have hS:=aK hv
 obtain⟨n,hn⟩:∃n:Nat,T.nodes=(n:Int):=⟨T.nodes.toNat,by omega⟩
 rw[show T.nodes.toNat=n by omega]
 refine aG Tryz.func174 rfl Tryz.ntmps174 rfl<|ab (.a 2 rfl<|.k [1] rfl)<|aR<|au 2 rfl<|cz (dz rfl (bL.rk.get rfl) rfl rfl hn hn ⟨by unfold maxLen;omega,by omega⟩) rfl<|au 1 rfl<|aH [1,3] rfl ?_
 refine pa 37 3 n ?_
 refine ak<|ab (.a 1 rfl<|.c rfl (gX T (by omega)) rfl<|.a 1 rfl<|.k [1,3,10,11] rfl)<|av<|fp [1,3,10,11] rfl<|bq (fun r s=>∃k,k≤2*T.ae.length∧r=2*T.ae.length - k∧s=⟨[(1,.aX (bw T) 0),(3,.own 0),(10,num (2*(T.ae.length:Int))),(11,num k)],kL 37 3 (dh (aS T) n k)⟩) (2*T.ae.length) ⟨0,by omega,by omega,by rw[rr];rfl⟩ ?_
 rintro r s ⟨k,hk,rfl,rfl⟩
 refine ab (.a 1 rfl<|.k [1,3,10,11,12] rfl)<|ak<|ah rfl (fun hc=>?_) (fun hc=>?_)
 ·have hlt:k<2*T.ae.length:=by have:=of_decide_eq_true hc;omega
  obtain⟨hd0,hhN⟩:=hS.head k hlt
  obtain⟨m,hm⟩:=Int.eq_ofNat_of_zero_le hd0
  have hmn:m<n:=by omega
  have hrl:=eH (aS T) n k
  have hgl:((dh (aS T) n k).getD m []).length≤k:=by
   rw[iK _ _ _ _ hmn]
   simp only[List.length_map]
   exact Nat.le_trans (List.length_filter_le _ _) (by simp)
  refine aj<|ak<|av<|ab (.a 2 rfl<|.k [1,3,4,10,11] rfl)<|ab (.a 2 rfl<|.c rfl (hm▸fI T k hlt (by omega)) rfl<|.a 1 rfl<|.k [1,3,4,5,10,11] rfl)<|bI<|au 4 rfl<|bE (aM (m) rfl) rfl<|bE (aO rfl (kR _ m (by omega))) rfl<|au 2 rfl<|cz (bA rfl (bL.rk.get rfl) rfl (lh _ _ _ m (by omega)) rfl rfl ⟨by unfold maxLen;omega,by omega⟩) rfl<|bE (aM (m) rfl) rfl<|bd (cG rfl (bL.tk.get rfl) rfl rfl rfl (by show m<(fF _).length;simp[fF];omega)) rfl rfl<|aH [1,3,10,11] rfl ?_
  refine dp (Ex (dh (aS T) n k).length m) (.cons 1 rfl Ren.pure<|.cons 3 rfl (Ren.own (i:=0) rfl)<|.cons 10 rfl Ren.pure<|.cons 11 rfl Ren.pure<|.nil) (vB 37 3 (dh (aS T) n k) m (by omega) (k:Int)) (sr _ _) rfl ?_
  rw[←re (aS T) n k m hm hmn]
  refine aB (.v (aT rfl) rfl<|.a 1 rfl<|.k [1,3,10,11] rfl) ?_
  exact⟨2*T.ae.length - (k+1),by omega,k+1,by omega,rfl,rfl⟩
 ·have hke:k=2*T.ae.length:=by have:=of_decide_eq_false hc;omega
  subst hke
  exact bf<|ab (.a 2 rfl<|.k [2] rfl)<|aq<|⟨_,_,az.of rfl,u4 _ _ _,rfl⟩
end PW
end Go.Proofs.YtnegbdpggideiaaGreatDoor
namespace Go.Proofs.YtnegbdpggideiaaGreatDoor
namespace Net
structure xe (T:ai) (D:List Bool) (n:Nat) (dir:Bool) (out K:List Int) (H:Nat→Prop) (S:Nat→Prop):Prop where
 len:(out.length:Int)=T.nodes
 ge:∀x:Nat,(x:Int)<T.nodes→ -1≤at' out (x:Int)
 root:at' out (n:Int)=0∨(H n∧K.getD n 0=0)
 rH:∀y,H y→(y:Int)<T.nodes∧at' out (y:Int)= -1
 mono:∀x y:Nat,(x:Int)<T.nodes→H y→at' out (x:Int)≤K.getD y 0
 o4:∀y,H y→(y=n∧K.getD y 0=0)∨∃a,a<2*T.ae.length∧eW T dir a=(y:Int)∧Way T D n dir out a∧K.getD y 0=at' out (cJ T dir a)+cb T a
 my:∀x:Nat,(x:Int)<T.nodes→0≤at' out (x:Int)→x=n∨∃a,a<2*T.ae.length∧eW T dir a=(x:Int)∧Way T D n dir out a∧at' out (x:Int)=at' out (cJ T dir a)+cb T a
 closed:∀a,a<2*T.ae.length→¬S a→Way T D n dir out a→(0≤at' out (eW T dir a)∧at' out (eW T dir a)≤at' out (cJ T dir a)+cb T a)∨(H (eW T dir a).toNat∧K.getD (eW T dir a).toNat 0≤at' out (cJ T dir a)+cb T a)
 ub:∀x:Nat,(x:Int)<T.nodes→at' out (x:Int)≤65535*(mj out:Int)
 HA:∀y,H y→K.getD y 0≤65535*(mj out:Int)
theorem xe.key{T:ai}(hT:Sound T){D:List Bool}{n:Nat}{dir:Bool}{out K:List Int}{H S:Nat→Prop}(h:xe T D n dir out K H S){y:Nat}(hy:H y):0≤K.getD y 0:=by
 rcases h.o4 y hy with⟨_,h0⟩|⟨a,ha,_,hw,he⟩
 ·omega
 ·have:=hT.cost a ha
  have:=hw.2.1
  omega
theorem Hv(L:List Int)(i j:Nat)(c:Int)(hi:i<L.length):(L.set i c).getD j 0=if j=i then c else L.getD j 0:=by
 by_cases h:j=i
 ·subst h;simp[List.getD_eq_getElem?_getD,hi]
 ·simp[List.getD_eq_getElem?_getD,List.getElem?_set,Ne.symm h,h]
theorem zB(N:Nat):mj (List.replicate N (-1))=0:=by
 induction N with
 |zero=>rfl
 |succ N ih=>rw[List.replicate_succ];simp[mj,ih]
theorem qU(N x:Nat):at' (List.replicate N (-1)) (x:Int)= -1:=by
 unfold at'
 rw[List.getD_eq_getElem?_getD,List.getElem?_replicate]
 split<;>rfl
theorem Bq{T:ai}{D:List Bool}{N n:Nat}{dir:Bool}(hN:(N:Int)=T.nodes)(hn:n<N){K:List Int}{H:Nat→Prop}(hK:K.getD n 0=0)(hH:∀y,H y↔y=n):xe T D n dir (List.replicate N (-1)) K H (fun _=>False) where
 len:=by simpa using hN
 ge x _:=by rw[qU];omega
 root:=.inr ⟨(hH n).2 rfl,hK⟩
 rH y hy:=by have:=(hH y).1 hy;subst this;exact⟨by omega,qU N y⟩
 mono x y _ hy:=by have:=(hH y).1 hy;subst this;rw[qU,hK];omega
 o4 y hy:=by have:=(hH y).1 hy;subst this;exact .inl ⟨rfl,hK⟩
 my x _ h:=by rw[qU]at h;omega
 closed a _ _ hw:=by
  have:=hw.2.1
  have h2:at' (List.replicate N (-1)) (cJ T dir a)= -1:=by
   unfold at'
   rw[List.getD_eq_getElem?_getD,List.getElem?_replicate]
   split<;>rfl
  rw[h2]at this;omega
 ub x _:=by rw[qU,zB];omega
 HA y hy:=by have:=(hH y).1 hy;subst this;rw[hK,zB];omega
theorem Gl{T:ai}(hT:Sound T){D:List Bool}{n:Nat}{dir:Bool}{out K:List Int}{H:Nat→Prop}(h:xe T D n dir out K H (fun _=>False)){i:Nat}(hi:H i)(hmin:∀j,H j→K.getD i 0≤K.getD j 0)(hKl:i<K.length){H':Nat→Prop}(hH':∀j,H' j↔H j∧j≠i):
  xe T D n dir (out.set i (K.getD i 0)) (K.set i 0) H' (fun a=>cJ T dir a=(i:Int))∧mj (out.set i (K.getD i 0))=mj out+1∧(∀x:Nat,(x:Int)<T.nodes→at' (out.set i (K.getD i 0)) (x:Int)≤K.getD i 0)∧at' (out.set i (K.getD i 0)) (i:Int)=K.getD i 0∧0≤K.getD i 0∧K.getD i 0≤65535*(mj out:Int):=by
 obtain⟨hin,hineg⟩:=h.rH i hi
 have hil:i<out.length:=by have:=h.len;omega
 have hd:=h.key hT hi
 have hdu:=h.HA i hi
 have hat:=fun x:Nat=>xK out i x (K.getD i 0) hil
 have hK:∀j,j≠i→(K.set i 0).getD j 0=K.getD j 0:=fun j hj=>by rw[Hv _ _ _ _ hKl,if_neg hj]
 have hcnt:mj (out.set i (K.getD i 0))=mj out+1:=by
  rw[pO out i _ hil hd,if_neg]
  have:out.getD i (-1)=at' out (i:Int):=by simp[at']
  rw[this,hineg];omega
 have hy:∀a,a<2*T.ae.length→Way T D n dir out a→Way T D n dir (out.set i (K.getD i 0)) a∧at' (out.set i (K.getD i 0)) (cJ T dir a)=at' out (cJ T dir a):=fun a ha hw=>by
  obtain⟨y,hy⟩:=Int.eq_ofNat_of_zero_le (hT.y dir a ha).1
  have hne:y≠i:=fun e=>by
   have:=hw.2.1
   rw[hy,e,hineg]at this;omega
  have e1:at' (out.set i (K.getD i 0)) (cJ T dir a)=at' out (cJ T dir a):=by rw[hy,hat y,if_neg hne]
  exact⟨⟨hw.1,by rw[e1];exact hw.2.1,hw.2.2⟩,e1⟩
 refine⟨⟨by simpa using h.len,fun x hx=>?_,?_,fun y hy'=>?_,fun x y hx hy'=>?_,fun y hy'=>?_,fun x hx h0=>?_,fun a ha hs hw=>?_,fun x hx=>?_,fun y hy'=>?_⟩,hcnt,fun x hx=>?_,by rw[hat i,if_pos rfl],hd,hdu⟩
 ·rw[hat x];split
  ·omega
  ·exact h.ge x hx
 ·by_cases e:n=i
  ·subst e
   left
   rw[hat n,if_pos rfl]
   rcases h.root with h0|⟨_,h0⟩
   ·omega
   ·exact h0
  ·rcases h.root with h0|⟨h1,h0⟩
   ·left;rw[hat n,if_neg e];exact h0
   ·right;exact⟨(hH' n).2 ⟨h1,e⟩,by rw[hK n e];exact h0⟩
 ·obtain⟨h1,h2⟩:=(hH' y).1 hy'
  obtain⟨h3,h4⟩:=h.rH y h1
  exact⟨h3,by rw[hat y,if_neg h2];exact h4⟩
 ·obtain⟨h1,h2⟩:=(hH' y).1 hy'
  rw[hat x,hK y h2]
  split
  ·exact hmin y h1
  ·exact h.mono x y hx h1
 ·obtain⟨h1,h2⟩:=(hH' y).1 hy'
  rw[hK y h2]
  rcases h.o4 y h1 with h3|⟨a,ha,hx,hw,he⟩
  ·exact .inl h3
  ·obtain⟨k1,k2⟩:=hy a ha hw
   exact .inr ⟨a,ha,hx,k1,by rw[k2];exact he⟩
 ·rw[hat x]at h0 ⊢
  by_cases e:x=i
  ·subst e
   rw[if_pos rfl]
   rcases h.o4 x hi with⟨h3,_⟩|⟨a,ha,hx,hw,he⟩
   ·exact .inl h3
   ·obtain⟨k1,k2⟩:=hy a ha hw
    exact .inr ⟨a,ha,hx,k1,by rw[k2];exact he⟩
  ·rw[if_neg e]at h0 ⊢
   rcases h.my x hx h0 with h3|⟨a,ha,hx,hw,he⟩
   ·exact .inl h3
   ·obtain⟨k1,k2⟩:=hy a ha hw
    exact .inr ⟨a,ha,hx,k1,by rw[k2];exact he⟩
 ·obtain⟨y,hya⟩:=Int.eq_ofNat_of_zero_le (hT.y dir a ha).1
  have hne:y≠i:=fun e=>hs (by rw[hya,e])
  have e1:at' (out.set i (K.getD i 0)) (cJ T dir a)=at' out (cJ T dir a):=by rw[hya,hat y,if_neg hne]
  have hw0:Way T D n dir out a:=⟨hw.1,by rw[←e1];exact hw.2.1,hw.2.2⟩
  obtain⟨x,hxa⟩:=Int.eq_ofNat_of_zero_le (hT.x dir a ha).1
  have hc:=h.closed a ha (fun f=>f) hw0
  rw[e1]
  rw[hxa]at hc ⊢
  rw[Int.toNat_natCast]at hc ⊢
  rw[hat x]
  by_cases e:x=i
  ·subst e
   left
   rw[if_pos rfl]
   rcases hc with⟨h1,_⟩|⟨_,h2⟩
   ·rw[hineg]at h1;omega
   ·exact⟨hd,h2⟩
  ·rw[if_neg e]
   rcases hc with h1|⟨h1,h2⟩
   ·exact .inl h1
   ·exact .inr ⟨(hH' x).2 ⟨h1,e⟩,by rw[hK x e];exact h2⟩
 ·rw[hat x,hcnt]
  split
  ·omega
  ·have:=h.ub x hx;omega
 ·obtain⟨h1,h2⟩:=(hH' y).1 hy'
  rw[hK y h2,hcnt]
  have:=h.HA y h1;omega
 ·rw[hat x]
  split
  ·omega
  ·exact h.mono x i hx hi
theorem C0{T:ai}{D:List Bool}{n:Nat}{dir:Bool}{out K:List Int}{H:Nat→Prop}{i:Nat}(h:xe T D n dir out K H (fun a=>cJ T dir a=(i:Int)))(hi:i≠n)(ho:cR T i=true):xe T D n dir out K H (fun _=>False):=
 {h with closed:=fun a ha _ hw=>h.closed a ha (fun e=>by
   rcases hw.2.2 with h1|h1
   ·rw[h1]at e;exact hi (by omega)
   ·rw[e,Int.toNat_natCast,ho]at h1;cases h1) hw}
theorem zL{T:ai}{D:List Bool}{n:Nat}{dir:Bool}{out K:List Int}{H S S':Nat→Prop}(h:xe T D n dir out K H S){a:Nat}(hS:∀b,b<2*T.ae.length→S b→S' b∨b=a)
  (hc:Way T D n dir out a→(0≤at' out (eW T dir a)∧at' out (eW T dir a)≤at' out (cJ T dir a)+cb T a)∨(H (eW T dir a).toNat∧K.getD (eW T dir a).toNat 0≤at' out (cJ T dir a)+cb T a)):xe T D n dir out K H S':=
 ⟨h.len,h.ge,h.root,h.rH,h.mono,h.o4,h.my,fun b hb hs hw=>by
   by_cases e:b=a
   ·subst e
    exact hc hw
   ·exact h.closed b hb (fun hb'=>(hS b hb hb').elim hs e) hw,h.ub,h.HA⟩
theorem EJ{T:ai}(hT:Sound T){D:List Bool}{n:Nat}{dir:Bool}{out K:List Int}{H H' S S':Nat→Prop}(h:xe T D n dir out K H S){a m:Nat}(ha:a<2*T.ae.length)(hS:∀b,b<2*T.ae.length→S b→S' b∨b=a)
  (hw:Way T D n dir out a) (hm:eW T dir a=(m:Int)) (rH:at' out (m:Int)<0) (htop:∀x:Nat,(x:Int)<T.nodes→at' out (x:Int)≤at' out (cJ T dir a)) (hub:at' out (cJ T dir a)+65535≤65535*(mj out:Int))
  (hnew:¬H m∨at' out (cJ T dir a)+cb T a<K.getD m 0) (hml:m<K.length) (hH':∀j,H' j↔H j∨j=m):
  xe T D n dir out (K.set m (at' out (cJ T dir a)+cb T a)) H' S':=by
 have hc:=hT.cost a ha
 have hmN:(m:Int)<T.nodes:=by have:=(hT.x dir a ha).2;omega
 have hK:∀j,(K.set m (at' out (cJ T dir a)+cb T a)).getD j 0=if j=m then at' out (cJ T dir a)+cb T a else K.getD j 0:=fun j=>Hv _ _ _ _ hml
 have hy0:=hw.2.1
 refine⟨h.len,h.ge,?_,fun y hy=>?_,fun x y hx hy=>?_,fun y hy=>?_,h.my,fun b hb hs hwb=>?_,h.ub,fun y hy=>?_⟩
 ·rcases h.root with h0|⟨h1,h0⟩
  ·exact .inl h0
  ·right
   refine⟨(hH' n).2 (.inl h1),?_⟩
   rw[hK n,if_neg,h0]
   intro e
   subst e
   rcases hnew with h2|h2
   ·exact h2 h1
   ·omega
 ·rcases(hH' y).1 hy with h1|rfl
  ·exact h.rH y h1
  ·have:=h.ge y hmN
   exact⟨hmN,by omega⟩
 ·rw[hK y]
  have:=htop x hx
  split
  ·omega
  ·rename_i e
   exact h.mono x y hx (((hH' y).1 hy).resolve_right e)
 ·rw[hK y]
  by_cases e:y=m
  ·subst e
   rw[if_pos rfl]
   exact .inr ⟨a,ha,hm,hw,rfl⟩
  ·rw[if_neg e]
   exact h.o4 y (((hH' y).1 hy).resolve_right e)
 ·obtain⟨x,hx⟩:=Int.eq_ofNat_of_zero_le (hT.x dir b hb).1
  by_cases e:b=a
  ·subst e
   right
   rw[hm,Int.toNat_natCast]
   exact⟨(hH' m).2 (.inr rfl),by rw[hK m,if_pos rfl];exact Int.le_refl _⟩
  ·have h1:=h.closed b hb (fun hb'=>(hS b hb hb').elim hs e) hwb
   rw[hx,Int.toNat_natCast]at h1 ⊢
   rcases h1 with h1|⟨h1,h2⟩
   ·exact .inl h1
   ·right
    refine⟨(hH' x).2 (.inl h1),?_⟩
    rw[hK x]
    split
    ·rename_i e'
     subst e'
     rcases hnew with h3|h3
     ·exact absurd h1 h3
     ·omega
    ·exact h2
 ·rw[hK y]
  split
  ·omega
  ·rename_i e
   exact h.HA y (((hH' y).1 hy).resolve_right e)
theorem Fu{T:ai}{D:List Bool}{n:Nat}{dir:Bool}{out K:List Int}{H:Nat→Prop}(h:xe T D n dir out K H (fun _=>False))(hH:∀y,¬H y):ik T D n dir out:=
 ⟨h.len,h.root.resolve_right (fun k=>hH n k.1),h.ge,fun a ha hw=>(h.closed a ha (fun f=>f) hw).resolve_right (fun k=>hH _ k.1),h.my⟩
end Net
end Go.Proofs.YtnegbdpggideiaaGreatDoor
namespace Go.Proofs.YtnegbdpggideiaaGreatDoor
namespace PW
open Go.RowKit cE Mem Net Heap
theorem FW{N n:Nat}{K P O:List Int}(h:BY N n K P O)(hN:N≤65536){i:Nat}(hi:O.getD 0 0=(i:Int))(j:Nat)(hj:eo O (j:Int)):K.getD i 0≤K.getD j 0:=by
 obtain⟨hP,hO,hK,hH⟩:=h
 obtain⟨p,hp,he⟩:=hj
 have h1:=Bz hH p (by omega)
 unfold rk at h1
 rw[hi,he]at h1
 have h2:=hP.item p hp
 have:=CG (by omega) (by omega) h1
 simpa using this
theorem FB(N:Nat):BY N 0 (List.replicate N 0) (List.replicate N 0) []:=
 ⟨⟨by simp,fun p hp=>by simp at hp,fun i hi=>.inl (by simp[List.getD_eq_getElem?_getD,List.getElem?_replicate,hi])⟩,rfl,by simp,fun q _ hq=>by omega⟩
theorem yd{P:Program}{M:Nat}{c:Code}{t:bZ}{Q:Exit→St→Prop}{b:Bool}{d:Option cU}{N n:Nat}{K Pl O:List Int}(hd:kD d)(hT:mE [0,1,2,3,5] t t)(h:W P M 0 c ⟨t,ia false d N n K Pl O⟩ Q):W P M 0 c ⟨t,ia b d N n K Pl O⟩ Q:=by
 cases b
 ·exact h
 ·exact dp [0,1,2,3,5] hT (.same hd rfl<|.kept rfl (.cells (aE.cons (Ren.own (i:=2) rfl)<|aE.cons (Ren.own (i:=3) rfl)<|aE.cons (Ren.own (i:=4) rfl) aE.nil))<|.kept rfl (.row aE.pure)<|.kept rfl (.row aE.pure)<|.kept rfl (.row aE.pure)<|.nil) rfl rfl h
theorem eD{P:Program}{M L:Nat}{c:Code}{t:bZ}{Q:Exit→St→Prop}{σ σ':cf}(he:σ=σ')(h:W P M L c ⟨t,σ'⟩ Q):W P M L c ⟨t,σ⟩ Q:=by subst he;exact h
theorem FY{N n:Nat}(d:Option cU)(hd:kD d)(K P O:List Int)(h:BY N n K P O)(hN:N≤65536):
  bU Tryz.prog 199 [.ptr 1 0] (ia false d N n K P O) (fun r σ'=>∃(b ok:Bool) (i n':Nat) (key:Int) (K' P' O':List Int),r= .tuple [num i,num key,flag ok]∧σ'=ia b d N n' K' P' O'∧
   ((ok=false∧n=0)∨(ok=true∧i<N∧eo O (i:Int)∧(∀j:Nat,eo O (j:Int)→K.getD i 0≤K.getD j 0)∧key=K.getD i 0∧K'=K.set i 0∧BY N n' K' P' O'∧∀j:Nat,eo O' (j:Int)↔eo O (j:Int)∧j≠i))):=by
 refine(ER d hd K P O h hN).mono fun r σ' hr=>?_
 rcases hr with⟨h1,rfl,rfl⟩|⟨n',i,P',O',h1,h2,h3,rfl,rfl,h4,h5⟩
 ·exact⟨false,false,0,n,0,K,P,O,rfl,rfl,.inl ⟨rfl,h1⟩⟩
 ·refine⟨true,true,i,n',K.getD i 0,K.set i 0,P',O',rfl,rfl,.inr ⟨rfl,h2,⟨0,by have:=h.2.1;omega,h3⟩,FW h hN h3,rfl,rfl,h4,fun j=>(h5 j).trans ?_⟩⟩
  constructor<;>rintro⟨a,b⟩<;>exact⟨a,by omega⟩
def mh(T:ai)(D:List Bool)(n:Nat)(f1 f2:FuncId)(cap1 cap2:List PV):List PV:=[.raw (.int .i64 T.nodes),aY T.over,.slice T.ae.length (gv T.ae),aY D,num n,.func f1 cap1,.func f2 cap2]
instance (T:ai) (D:List Bool) (n:Nat) (f1 f2:FuncId) (cap1 cap2:List PV) [aJ cap1] [aJ cap2]:aJ (mh T D n f1 f2 cap1 cap2):=by unfold mh;infer_instance
def cM(T:ai)(dir:Bool)(i:Nat):List Int:=((List.range (2*T.ae.length)).filter fun a=>decide (cJ T dir a=(i:Int))).map Int.ofNat
theorem qv(T:ai)(dir:Bool)(i:Nat)(a:Nat):(a:Int)∈cM T dir i↔a<2*T.ae.length∧cJ T dir a=(i:Int):=by
 unfold cM
 simp only[List.mem_map,List.mem_filter,List.mem_range,decide_eq_true_eq]
 constructor
 ·rintro⟨b,h,e⟩
  have:b=a:=Int.ofNat.inj e
  subst this;exact h
 ·intro h;exact⟨a,h,rfl⟩
theorem yw(T:ai)(dir:Bool)(i k:Nat)(h:k<(cM T dir i).length):∃a:Nat,(cM T dir i).getD k 0=(a:Int)∧a<2*T.ae.length∧cJ T dir a=(i:Int):=by
 have hm:(cM T dir i).getD k 0∈cM T dir i:=ca h
 have:∃a:Nat,(cM T dir i).getD k 0=(a:Int):=by
  unfold cM at hm ⊢
  obtain⟨b,_,e⟩:=List.mem_map.1 hm
  exact⟨b,e.symm⟩
 obtain⟨a,ha⟩:=this
 rw[ha]at hm
 exact⟨a,ha,(qv T dir i a).1 hm⟩
theorem xq(T:ai)(dir:Bool)(i:Nat):(cM T dir i).length≤2*T.ae.length:=by
 unfold cM
 rw[List.length_map]
 exact Nat.le_trans (List.length_filter_le _ _) (by simp)
theorem D0(N k:Nat)(h:k<N):(List.replicate k (-1:Int)++List.replicate (N - k) 0).set k (-1)=List.replicate (k+1) (-1)++List.replicate (N - (k+1)) 0:=by
 rw[List.set_append_right _ _ (by simp),List.length_replicate,Nat.sub_self,show N - k=(N - (k+1))+1 by omega,List.replicate_succ,List.set_cons_zero,List.replicate_succ',List.append_assoc]
 rfl
theorem qm(N:Nat):dv [.raw (.int .i64 0)] N=aP (List.replicate 0 (-1)++List.replicate (N - 0) 0):=by simpa using cN N
theorem ki(n:Nat)(L:List Int):kD (some (.row 3 1 n (aP L))):=fun b h=>by
 cases h
 exact inferInstanceAs (aJ (aP L))
theorem HG{σ:cf}{K P O:List Int}(h:aC σ (.ptr 1 0) (wT K P O))(p:Int):an σ ([.ptr 1 0,num p]++[]) [wT K P O,num p]:=an.cons h (an.cons aC.pure an.nil)
set_option maxHeartbeats 4000000 in
theorem zm(T:ai)(D:List Bool)(n:Nat)(dir:Bool)(f1 f2:FuncId)(cap1 cap2:List PV)[aJ cap1][aJ cap2](hv:ao T=true)(hf:bP T D=true)(hn:(n:Int)<T.nodes)(he1:enters Tryz.prog f1=true)(he2:enters Tryz.prog f2=true)
  (h1:∀i:Nat,(i:Int)<T.nodes→Can Tryz.prog f1 ([num i]++cap1) (· =aw (cM T dir i))) (h2:∀a:Nat,a<2*T.ae.length→Can Tryz.prog f2 ([num a]++cap2) (· =num (eW T dir a))):
  Can Tryz.prog 177 [.agg (mh T D n f1 f2 cap1 cap2)] (· =aw (br T D n dir)):=by
 have hbd:=gm hv
 have hS:=aK hv
 obtain⟨N,hN⟩:∃N:Nat,T.nodes=(N:Int):=⟨T.nodes.toNat,by omega⟩
 have hN64:N≤64:=by have:=hS.nodes;omega
 have hnN:n<N:=by omega
 refine aG Tryz.func177 rfl Tryz.ntmps177 rfl<|ab (.a 2 rfl<|.k [1] rfl)<|aR<|au 3 rfl<|cz (dz rfl (bL.rk.get rfl) rfl rfl hN hN ⟨by unfold maxLen;omega,by omega⟩) rfl<|au 1 rfl<|aH [1,3] rfl ?_
 refine ak<|ab (.a 3 rfl<|.k [1,3,21,22] rfl)<|av<|fp [1,3,21,22] rfl<|bq (fun r s=>∃k,k≤N∧r=N - k∧s=⟨[(1,.aX (mh T D n f1 f2 cap1 cap2) 0),(3,.own 0),(21,num N),(22,num k)],[some (.row 3 1 N (aP (List.replicate k (-1)++List.replicate (N - k) 0)))]⟩) N ⟨0,by omega,by omega,by rw[←qm N];rfl⟩ ?_
 rintro r s ⟨k,hk,rfl,rfl⟩
 refine ab (.a 1 rfl<|.k [1,3,21,22,23] rfl)<|ak<|ah rfl (fun hc=>?_) (fun hc=>?_)
 ·have hlt:k<N:=by have:=of_decide_eq_true hc;omega
  refine aj<|ak<|av<|ab (.a 2 rfl<|.k [1,3,4,21,22] rfl)<|bI<|au 2 rfl<|bE (aM (k) rfl) rfl<|bd ((by first|exact bG rfl (bL.tk.get rfl) rfl rfl rfl (by first|omega|(simp;omega))|exact aV rfl (bL.tk.get rfl) rfl rfl rfl (by first|omega|(simp;omega)))) rfl rfl<|aH [1,3,21,22] rfl ?_
  refine eD (σ':=[some (.row 3 1 N (aP (List.replicate (k+1) (-1)++List.replicate (N - (k+1)) 0)))]) (by rw[←D0 N k hlt];rfl) ?_
  refine aB (.v (aT rfl) rfl<|.a 1 rfl<|.k [1,3,21,22] rfl) ?_
  exact⟨N - (k+1),by omega,k+1,by omega,rfl,rfl⟩
 ·have hke:k=N:=by have:=of_decide_eq_false hc;omega
  subst hke
  refine eD (σ':=[some (.row 3 1 k (aP (List.replicate k (-1))))]) (by simp) ?_
  refine bf<|aR<|au 2 rfl<|bE (aO rfl ((show some (num T.nodes)=some (num (k:Int)) by rw[hN]))) rfl<|cQ rfl rfl (bU.mono (EW k (some (.row 3 1 k (aP (List.replicate k (-1))))) (ki _ _) (by omega)) (fun _ σ' h=>?_))
  obtain⟨rfl,rfl⟩:=h
  refine au 5 rfl<|aH [1,3,5] rfl ?_
  refine aR<|au 3 rfl<|cQ rfl rfl (bU.mono (y6 (some (.row 3 1 k (aP (List.replicate k (-1))))) (ki _ _) _ _ _ (FB k) (by omega) n hnN 0) (fun _ σ' h=>?_))
  obtain⟨b,n1,P1,O1,rfl,hok,hheld⟩:=h
  refine aH [1,3,5] rfl ?_
  refine yd (ki _ _) (.cons 1 rfl Ren.pure<|.cons 3 rfl (Ren.own (i:=0) rfl)<|.cons 5 rfl (Ren.ptr (i:=1) rfl)<|.nil) ?_
  have hD0:=Bq (T:=T) (D:=D) (N:=k) (n:=n) (dir:=dir) hN.symm hnN (K:=(List.replicate k (0:Int)).set n 0) (H:=fun y=>eo O1 (y:Int)) (by rw[Hv _ _ _ _ (by simpa using hnN),if_pos rfl]) (fun y=>(hheld y).trans ⟨fun h=>h.elim (fun⟨p,hp,_⟩=>by simp at hp) (fun e=>by omega),fun e=>.inr (by omega)⟩)
  generalize (List.replicate k (0:Int)).set n 0=K1 at hok hD0
  generalize List.replicate k (-1:Int)=out1 at hD0
  clear hheld
  refine av<|fp [1,3,5] rfl<|bq (fun r s=>∃out K P O q,xe T D n dir out K (fun y=>eo O (y:Int)) (fun _=>False)∧BY k q K P O∧r=k+1 - mj out∧s=⟨[(1,.aX (mh T D n f1 f2 cap1 cap2) 0),(3,.own 0),(5,.ptr 1 0)],ia false (some (.row 3 1 k (aP out))) k q K P O⟩) (k+1 - mj out1) ⟨out1,K1,P1,O1,n1,hD0,hok,rfl,rfl⟩ ?_
  clear hD0 hok out1 K1 P1 O1 n1 b
  rintro r s ⟨out,K,P,O,q,hD,hok,rfl,rfl⟩
  refine av<|aR<|au 1 rfl<|cQ rfl rfl (bU.mono (FY (some (.row 3 1 k (aP out))) (ki _ _) K P O hok (by omega)) (fun _ σ' h=>?_))
  obtain⟨b,ok,i,n1,key,K1,P1,O1,rfl,rfl,hpop⟩:=h
  refine au 7 rfl<|aH [1,3,5,7,8,9] rfl ?_
  refine yd (ki _ _) (.cons 1 rfl Ren.pure<|.cons 3 rfl (Ren.own (i:=0) rfl)<|.cons 5 rfl (Ren.ptr (i:=1) rfl)<|.cons 7 rfl Ren.pure<|.cons 8 rfl Ren.pure<|.cons 9 rfl Ren.pure<|.nil) ?_
  refine ak<|ab (.a 2 rfl<|.k [1,3,5,7,8,47] rfl)<|ah rfl (fun hc=>?_) (fun hc=>?_)
  ·have hok0:ok=false:=by cases ok;rfl;cases hc
   have hq0:q=0:=by
    rcases hpop with⟨_,h⟩|⟨h,_⟩
    ·exact h
    ·rw[hok0]at h;cases h
   have hdist:br T D n dir=out:=jN hS (Fu hD (fun y ⟨p,hp,_⟩=>by have:=hok.2.1;omega))
   exact ab (.a 2 rfl<|.k [2] rfl)<|aq<|⟨_,_,az.of rfl,aC.fu rfl an.pure,by rw[hdist];unfold aw;rw[show out.length=k by have:=hD.len;omega]⟩
  ·have hok1:ok=true:=by cases ok;cases hc;rfl
   rcases hpop with⟨h,_⟩|⟨_,hiN,hHi,hmin,rfl,rfl,hok',hH'⟩
   ·rw[hok1]at h;cases h
   obtain⟨hD1,hcnt,htop,hati,hk0,hku⟩:=Gl hS hD hHi hmin (by rw[hok.2.2.1];exact hiN) hH'
   have hol:out.length=k:=by have:=hD.len;omega
   have hcl:=oB (out.set i (K.getD i 0))
   have hiT:(i:Int)<T.nodes:=by omega
   refine aj<|aR<|au 3 rfl<|bE (aM (i) rfl) rfl<|bd ((by first|exact bG rfl (bL.tk.get rfl) rfl rfl rfl (by first|omega|(simp;omega))|exact aV rfl (bL.tk.get rfl) rfl rfl rfl (by first|omega|(simp;omega)))) rfl rfl<|aH [1,3,5,7,8] rfl ?_
   refine eD (σ':=ia false (some (.row 3 1 k (aP (out.set i (K.getD i 0))))) k n1 (K.set i 0) P1 O1) rfl ?_
   have ho1:(out.set i (K.getD i 0)).length=k:=by simpa using hol
   have hmeas:k+1 - mj (out.set i (K.getD i 0))<k+1 - mj out:=by have:=oB (out.set i (K.getD i 0));omega
   generalize K.getD i 0=d at hD1 hcnt htop hati hk0 hku ho1 hcl hmeas
   generalize out.set i d=out1 at hD1 hcnt htop hati ho1 hcl hmeas
   generalize K.set i 0=K1 at hD1 hok'
   refine ak ?_
   obtain⟨q1,hq1⟩:∃q,decide ((i:Int)≠(n:Int))=q:=⟨_,rfl⟩
   obtain⟨q2,hq2⟩:∃q,cR T i=q:=⟨_,rfl⟩
   have hov:T.over.length=0∨i<T.over.length:=by have:=hbd.2.2.2;omega
   refine bu 62 (.raw (.bool (q1&&q2))) [1,3,5,7,8] rfl ?_ ?_
   ·refine .a 3 rfl<|.v (cg rfl (hq1)) rfl<|.a 1 rfl<|?_
    cases q1
    ·exact .a 5 rfl<|.k [62,1,3,5,7,8] rfl
    ·exact .a 3 rfl<|.c rfl (hq2▸nS T i hov) rfl<|.a 1 rfl<|.k [62,1,3,5,7,8] rfl
   refine ah rfl (fun hc=>?_) (fun hc=>?_)
   ·obtain⟨c1,c2⟩:=Bool.and_eq_true_iff.1 hc
    rw[c1]at hq1
    rw[c2]at hq2
    have hDe:=C0 hD1 (by have:=of_decide_eq_true hq1;omega) hq2
    refine kG (.cons (k:=1) rfl<|.cons (k:=3) rfl<|.cons (k:=5) rfl<|Sub.nil _) ?_
    refine bf ?_
    first
     |exact⟨_,hmeas,out1,K2,P2,O2,q2,hDe,hok2,rfl,rfl⟩
     |exact⟨_,hmeas,out1,K1,P1,O1,n1,hDe,hok',rfl,rfl⟩
   ·have hfree:i=n∨cR T i=false:=by
     by_cases e:i=n
     ·exact .inl e
     ·right
      have:q1=true:=by rw[←hq1];simp;omega
      rw[this,Bool.true_and]at hc
      rw[hq2,hc]
    clear hq1 hq2 hc
    refine aj<|ab (.a 3 rfl<|.v (qi rfl he1 rfl rfl (h1 i hiT)) rfl<|.a 2 rfl<|.k [1,3,5,8,66,67,68] rfl) ?_
    have hll:=xq T dir i
    have hD2:xe T D n dir out1 K1 (fun y=>eo O1 (y:Int)) (fun a=>cJ T dir a=(i:Int)∧(a:Int)∉(cM T dir i).take 0):=⟨hD1.len,hD1.ge,hD1.root,hD1.rH,hD1.mono,hD1.o4,hD1.my,fun a ha hs=>hD1.closed a ha (fun e=>hs ⟨e,by simp⟩),hD1.ub,hD1.HA⟩
    refine av<|fp [1,3,5,8,66,67,68] rfl<|bq (fun r s=>∃j K P O q,j≤(cM T dir i).length∧xe T D n dir out1 K (fun y=>eo O (y:Int)) (fun a=>cJ T dir a=(i:Int)∧(a:Int)∉(cM T dir i).take j)∧BY k q K P O∧r=(cM T dir i).length - j∧s=⟨[(1,.aX (mh T D n f1 f2 cap1 cap2) 0),(3,.own 0),(5,.ptr 1 0),(8,num d),(66,aw (cM T dir i)),(67,num (cM T dir i).length),(68,num j)],ia false (some (.row 3 1 k (aP out1))) k q K P O⟩) (cM T dir i).length ⟨0,K1,P1,O1,n1,by omega,hD2,hok',rfl,rfl⟩ ?_
    clear hD2 hok' hD1 K1 P1 O1 n1 hH' hmin hHi hD hok
    rintro r s ⟨j,K2,P2,O2,q2,hj,hD2,hok2,rfl,rfl⟩
    refine ab (.a 1 rfl<|.k [1,3,5,8,66,67,68,69] rfl)<|ak<|ah rfl (fun hc=>?_) (fun hc=>?_)
    ·have hlt:j<(cM T dir i).length:=by have:=of_decide_eq_true hc;omega
     obtain⟨a,ha,ham,hay⟩:=yw T dir i j hlt
     obtain⟨m,hm⟩:=Int.eq_ofNat_of_zero_le (hS.x dir a ham).1
     have hmN:m<k:=by have:=(hS.x dir a ham).2;omega
     have hcb:=hS.cost a ham
     have hDl:D.length=0∨a<D.length:=by simp only[bP,decide_eq_true_eq]at hf;omega
     have hSS:∀b,b<2*T.ae.length→(cJ T dir b=(i:Int)∧(b:Int)∉(cM T dir i).take j)→(cJ T dir b=(i:Int)∧(b:Int)∉(cM T dir i).take (j+1))∨b=a:=fun b _ ⟨e1,e2⟩=>by
      by_cases e:b=a
      ·exact .inr e
      ·left
       refine⟨e1,fun hm'=>?_⟩
       rw[dF _ j 0 hlt,ha]at hm'
       rcases List.mem_append.1 hm' with h|h
       ·exact e2 h
       ·simp at h;exact e (by omega)
     have hayi:at' out1 (cJ T dir a)=d:=by rw[hay];exact hati
     have hga:out1.getD m 0=at' out1 (m:Int):=by simp[at',List.getD_eq_getElem?_getD,show m<out1.length by omega]
     refine aj<|ak<|av<|ab (.v (aM (j) rfl) rfl<|.v (aO rfl ((aA _ j hlt).trans (by rw[ha]))) rfl<|.a 1 rfl<|.k [1,3,5,8,11,66,67,68] rfl)<|ab (.a 3 rfl<|.v (qi rfl he2 rfl rfl (hm▸h2 a ham)) rfl<|.a 1 rfl<|.k [1,3,5,8,11,12,66,67,68] rfl)<|ak ?_
     obtain⟨p1,hp1⟩:∃q,aL D a=q:=⟨_,rfl⟩
     obtain⟨p2,hp2⟩:∃q,decide (0≤out1.getD m 0)=q:=⟨_,rfl⟩
     refine bu 86 (.raw (.bool (p1||p2))) [1,3,5,8,11,12,66,67,68] rfl ?_ ?_
     ·refine .a 3 rfl<|.c rfl (hp1▸i7 D a hDl) rfl<|.a 1 rfl<|?_
      cases p1
      ·exact .a 2 rfl<|.v (aM (m) rfl) rfl<|.v (aO rfl (aA out1 m (by omega))) rfl<|.v (cg rfl (hp2)) rfl<|.a 1 rfl<|.k [86,1,3,5,8,11,12,66,67,68] rfl
      ·exact .a 6 rfl<|.k [86,1,3,5,8,11,12,66,67,68] rfl
     refine ah rfl (fun hc=>?_) (fun hc=>?_)
     ·have hD3:=zL (S':=fun b=>cJ T dir b=(i:Int)∧(b:Int)∉(cM T dir i).take (j+1)) hD2 hSS (fun hw=>.inl (by
       rcases Bool.or_eq_true_iff.1 hc with h|h
       ·rw[hw.1]at hp1;rw[h]at hp1;cases hp1
       ·rw[h]at hp2
        have h3:=of_decide_eq_true hp2
        rw[hga]at h3
        rw[hm,hayi]
        have:=htop m (by omega)
        exact⟨h3,by omega⟩))
      refine bf<|aB (.v (aT rfl) rfl<|.a 1 rfl<|.k [1,3,5,8,66,67,68] rfl) ?_
      first
       |exact⟨(cM T dir i).length - (j+1),by omega,j+1,_,P3,O3,n3,by omega,hD3,hok3,rfl,rfl⟩
       |exact⟨(cM T dir i).length - (j+1),by omega,j+1,K2,P2,O2,q2,by omega,hD3,hok2,rfl,rfl⟩
     ·obtain⟨c1,c2⟩:=Bool.or_eq_false_iff.1 hc
      rw[c1]at hp1
      rw[c2]at hp2
      have hmneg:at' out1 (m:Int)<0:=by have:=of_decide_eq_false hp2;rw[hga]at this;omega
      have hway:Net.Way T D n dir out1 a:=⟨hp1,by rw[hayi];exact hk0,by rw[hay,Int.toNat_natCast];rcases hfree with h|h;(exact .inl (by rw[h]));exact .inr h⟩
      refine aj<|ab (.a 4 rfl<|.c rfl (kP T a ham) rfl<|.v (aT rfl) rfl<|.a 1 rfl<|.k [1,3,5,8,12,13,66,67,68] rfl) ?_
      obtain⟨p3,hp3⟩:∃q,(!decide (P2.getD m 0=0))=q:=⟨_,rfl⟩
      obtain⟨kv,hkv⟩:∃z,(if P2.getD m 0=0 then 0 else K2.getD m 0)=z:=⟨_,rfl⟩
      have hkc:=F5 K2 P2 O2 hok2.1.len hok2.2.2.1 (by omega) m hmN
      rw[hp3,hkv]at hkc
      refine ab (.a 2 rfl<|.v (Ih rfl (HG (qf false _ hok2.2.2.1 hok2.1.len hok2.2.1) _) (hkc)) rfl<|.a 5 rfl<|.k [1,3,5,8,12,13,14,15,66,67,68] rfl) ?_
      obtain⟨p4,hp4⟩:∃q,decide (d+cb T a<kv)=q:=⟨_,rfl⟩
      refine bu 105 (.raw (.bool ((!p3)||p4))) [1,3,5,8,12,13,66,67,68] rfl ?_ ?_
      ·refine .a 3 rfl<|?_
       cases p3
       ·exact .a 4 rfl<|.k [105,1,3,5,8,12,13,66,67,68] rfl
       ·exact .a 2 rfl<|.v (cg rfl (hp4)) rfl<|.a 1 rfl<|.k [105,1,3,5,8,12,13,66,67,68] rfl
      refine ah rfl (fun hc=>?_) (fun hc=>?_)
      ·have hnew:¬eo O2 (m:Int)∨at' out1 (cJ T dir a)+cb T a<K2.getD m 0:=by
        rw[hayi]
        by_cases e:P2.getD m 0=0
        ·exact .inl ((hok2.1.zero hmN).1 e)
        ·right
         have h3:p3=true:=by rw[←hp3];simp only[e];rfl
         rw[h3]at hc
         have h4:p4=true:=by simpa using hc
         rw[h4]at hp4
         have:=of_decide_eq_true hp4
         rw[if_neg e]at hkv
         omega
       refine bI<|au 3 rfl<|cQ rfl rfl (bU.mono (y6 (some (.row 3 1 k (aP out1))) (ki _ _) K2 P2 O2 hok2 (by omega) m hmN (d+cb T a)) (fun _ σ' h=>?_))
       obtain⟨b3,n3,P3,O3,rfl,hok3,hH3⟩:=h
       refine aH [1,3,5,8,66,67,68] rfl ?_
       refine yd (ki _ _) (.cons 1 rfl Ren.pure<|.cons 3 rfl (Ren.own (i:=0) rfl)<|.cons 5 rfl (Ren.ptr (i:=1) rfl)<|.cons 8 rfl Ren.pure<|.cons 66 rfl Ren.pure<|.cons 67 rfl Ren.pure<|.cons 68 rfl Ren.pure<|.nil) ?_
       have hD3:=EJ (S':=fun b=>cJ T dir b=(i:Int)∧(b:Int)∉(cM T dir i).take (j+1)) (H':=fun y=>eo O3 (y:Int)) hS hD2 ham hSS hway hm hmneg (fun x hx=>by rw[hayi];exact htop x hx) (by rw[hayi];omega) hnew (by rw[hok2.2.2.1];exact hmN) (fun y=>(hH3 y).trans ⟨fun h=>h.imp id (fun e=>by omega),fun h=>h.imp id (fun e=>by omega)⟩)
       rw[hayi]at hD3
       refine aB (.v (aT rfl) rfl<|.a 1 rfl<|.k [1,3,5,8,66,67,68] rfl) ?_
       first
        |exact⟨(cM T dir i).length - (j+1),by omega,j+1,_,P3,O3,n3,by omega,hD3,hok3,rfl,rfl⟩
        |exact⟨(cM T dir i).length - (j+1),by omega,j+1,K2,P2,O2,q2,by omega,hD3,hok2,rfl,rfl⟩
      ·obtain⟨c3,c4⟩:=Bool.or_eq_false_iff.1 hc
       have h3:p3=true:=by cases p3;cases c3;rfl
       rw[h3]at hp3
       rw[c4]at hp4
       have e:P2.getD m 0≠0:=fun e=>by rw[e]at hp3;cases hp3
       have hD3:=zL (S':=fun b=>cJ T dir b=(i:Int)∧(b:Int)∉(cM T dir i).take (j+1)) hD2 hSS (fun hw=>.inr (by
        rw[hm,Int.toNat_natCast,hayi]
        refine⟨Classical.byContradiction fun hh=>e ((hok2.1.zero hmN).2 hh),?_⟩
        rw[if_neg e]at hkv
        have:=of_decide_eq_false hp4
        omega))
       refine aj<|aB (.v (aT rfl) rfl<|.a 1 rfl<|.k [1,3,5,8,66,67,68] rfl) ?_
       first
        |exact⟨(cM T dir i).length - (j+1),by omega,j+1,_,P3,O3,n3,by omega,hD3,hok3,rfl,rfl⟩
        |exact⟨(cM T dir i).length - (j+1),by omega,j+1,K2,P2,O2,q2,by omega,hD3,hok2,rfl,rfl⟩
    ·have hje:j=(cM T dir i).length:=by have:=of_decide_eq_false hc;omega
     have hDe:xe T D n dir out1 K2 (fun y=>eo O2 (y:Int)) (fun _=>False):=⟨hD2.len,hD2.ge,hD2.root,hD2.rH,hD2.mono,hD2.o4,hD2.my,fun a ha _=>hD2.closed a ha (fun⟨e1,e2⟩=>e2 (by rw[hje,List.take_length];exact(qv T dir i a).2 ⟨ha,e1⟩)),hD2.ub,hD2.HA⟩
     refine kG (.cons (k:=1) rfl<|.cons (k:=3) rfl<|.cons (k:=5) rfl<|Sub.nil _) ?_
     refine bf ?_
     first
      |exact⟨_,hmeas,out1,K2,P2,O2,q2,hDe,hok2,rfl,rfl⟩
      |exact⟨_,hmeas,out1,K1,P1,O1,n1,hDe,hok',rfl,rfl⟩
end PW
end Go.Proofs.YtnegbdpggideiaaGreatDoor
namespace Go.Proofs.YtnegbdpggideiaaGreatDoor
namespace PW
open Go.RowKit cE Mem Net fk
theorem gg(T:ai)(k x:Int):Can Tryz.prog 80 [aN T,bS k x] (· =flag (ao T&&bW T k x)):=by
 obtain⟨q1,h1⟩:∃q,decide (0≤x)=q:=⟨_,rfl⟩
 obtain⟨q2,h2⟩:∃q,decide (x<(T.ae.length:Int))=q:=⟨_,rfl⟩
 obtain⟨q5,h5⟩:∃q,decide (x<T.nodes)=q:=⟨_,rfl⟩
 obtain⟨q3,h3⟩:∃q,decide (1≤x)=q:=⟨_,rfl⟩
 obtain⟨q4,h4⟩:∃q,decide (x≤64)=q:=⟨_,rfl⟩
 have hnb:bn T x=(q1&&q5):=by rw[←h1,←h5,←Bool.decide_and];rfl
 have hB:bW T k x=if k=1 then(q1&&q2) else if k=2 then(q1&&q5) else if k=3 then(q3&&q4) else false:=by unfold bW;rw[h1,h2,h3,h4,hnb]
 rw[hB]
 refine aG Tryz.func80 rfl Tryz.ntmps80 rfl<|ab (.a 3 rfl<|.k [2,3] rfl)<|ak<|ab (.a 1 rfl<|.c rfl (gJ T) rfl<|.a 1 rfl<|.k [2,3,7] rfl)<|ah rfl (fun hv1=>?_) (fun hv1=>?_)
 ·have hv:ao T=false:=by simpa using hv1
  exact ab (.a 1 rfl<|.k [4] rfl)<|aq<|⟨_,_,az.of rfl,aC.pure,by rw[hv];rfl⟩
 ·have hv:ao T=true:=by simpa using hv1
  rw[hv,Bool.true_and]
  refine aj<|ak<|ab (.a 2 rfl<|.k [2,3,9] rfl)<|av<|ab (.a 2 rfl<|.k [2,3,9,10] rfl)<|ah rfl (fun hk1=>?_) (fun hk1=>?_)
  ·have k1:k=1:=tt hk1
   refine bu 4 (.raw (.bool (q1&&q2))) [] rfl ?_ ?_
   ·refine .a 2 rfl<|.v (cg rfl (h1)) rfl<|.a 1 rfl<|?_
    cases q1
    ·exact .a 8 rfl<|.k [4] rfl
    ·exact .a 5 rfl<|.v (cg rfl (h2)) rfl<|.a 2 rfl<|.k [4] rfl
   exact aq<|⟨_,_,az.of rfl,aC.pure,by rw[if_pos k1];rfl⟩
  ·have k1:¬k=1:=ff hk1
   refine ab (.a 2 rfl<|.k [2,3,9,23] rfl)<|ah rfl (fun hk2=>?_) (fun hk2=>?_)
   ·have k2:k=2:=tt hk2
    refine bu 4 (.raw (.bool (q1&&q5))) [] rfl ?_ ?_
    ·refine .a 2 rfl<|.v (cg rfl (h1)) rfl<|.a 1 rfl<|?_
     cases q1
     ·exact .a 7 rfl<|.k [4] rfl
     ·exact .a 4 rfl<|.v (cg rfl (h5)) rfl<|.a 2 rfl<|.k [4] rfl
    exact aq<|⟨_,_,az.of rfl,aC.pure,by rw[if_neg k1,if_pos k2];rfl⟩
   ·have k2:¬k=2:=ff hk2
    refine ab (.a 2 rfl<|.k [3,35] rfl)<|ah rfl (fun hk3=>?_) (fun hk3=>?_)
    ·have k3:k=3:=tt hk3
     refine bu 4 (.raw (.bool (q3&&q4))) [] rfl ?_ ?_
     ·refine .a 2 rfl<|.v (cg rfl (h3)) rfl<|.a 1 rfl<|?_
      cases q3
      ·exact .a 5 rfl<|.k [4] rfl
      ·exact .a 2 rfl<|.v (cg rfl (h4)) rfl<|.a 2 rfl<|.k [4] rfl
     exact aq<|⟨_,_,az.of rfl,aC.pure,by rw[if_neg k1,if_neg k2,if_pos k3];rfl⟩
    ·have k3:¬k=3:=ff hk3
     exact aj<|ab (.a 1 rfl<|.k [4] rfl)<|aq<|⟨_,_,az.of rfl,aC.pure,by rw[if_neg k1,if_neg k2,if_neg k3];rfl⟩
theorem xM(L:List mC)(i:Nat)(hi:i<L.length):((gv L).drop (i*7)).take 7=jj (cu L i):=by
 apply List.ext_getElem?
 intro j
 by_cases hj:j<7
 ·rw[List.getElem?_take,if_pos hj,List.getElem?_drop,ei L i j hi hj]
 ·rw[List.getElem?_take,if_neg hj,List.getElem?_eq_none (by simp[jj];omega)]
theorem tU(T:ai)(k x:Int)(a:Nat)(ha:a<2*T.ae.length)(hl:T.ae.length≤256):Can Tryz.prog 117 [aN T,bS k x,num a] (· =flag (cB k x T.ae (a / 2))):=by
 have hi:a / 2<T.ae.length:=by omega
 obtain⟨e,he⟩:∃e,cu T.ae (a / 2)=e:=⟨_,rfl⟩
 have hdr:=xM T.ae (a / 2) hi
 rw[he]at hdr
 obtain⟨q1,h1⟩:∃q,decide (((a / 2:Nat):Int)=x)=q:=⟨_,rfl⟩
 obtain⟨q2,h2⟩:∃q,decide (e.a=x)=q:=⟨_,rfl⟩
 obtain⟨q3,h3⟩:∃q,decide (e.b=x)=q:=⟨_,rfl⟩
 obtain⟨q4,h4⟩:∃q,decide (e.tE=x)=q:=⟨_,rfl⟩
 have hP:cB k x T.ae (a / 2)=if k=1 then q1 else if k=2 then(q2||q3) else q4:=by unfold cB;rw[he,h1,h2,h3,h4]
 rw[hP]
 refine aG Tryz.func117 rfl Tryz.ntmps117 rfl<|ab (.a 3 rfl<|.k [2,3,4] rfl)<|aR<|au 3 rfl<|bE (iA rfl rfl rfl (by decide) ((show(a:Int).tdiv 2=((a / 2:Nat):Int) by rw[Int.tdiv_eq_ediv_of_nonneg (by omega)];omega)) (by unfold In64;omega)) rfl<|bE (aM ((a / 2*7)) rfl) rfl<|bE (iF rfl (hdr) rfl) rfl<|au 2 rfl<|aH [2,4,7] rfl ?_
 refine eD (σ':=[some (.cells 127 (jj e))]) rfl ?_
 refine ak<|ab (.a 2 rfl<|.k [2,4,7,15] rfl)<|av<|ab (.a 2 rfl<|.k [2,4,7,15,16] rfl)<|ah rfl (fun hk1=>?_) (fun hk1=>?_)
 ·have k1:k=1:=tt hk1
  exact ab (.a 1 rfl<|.v (iA rfl rfl rfl (by decide) ((show(a:Int).tdiv 2=((a / 2:Nat):Int) by rw[Int.tdiv_eq_ediv_of_nonneg (by omega)];omega)) (by unfold In64;omega)) rfl<|.a 2 rfl<|.v (cg rfl (h1)) rfl<|.a 1 rfl<|.k [6] rfl)<|aq<|⟨_,_,az.of rfl,aC.pure,by rw[if_pos k1];rfl⟩
 ·have k1:¬k=1:=ff hk1
  refine ab (.a 2 rfl<|.k [4,7,23] rfl)<|ah rfl (fun hk2=>?_) (fun hk2=>?_)
  ·have k2:k=2:=tt hk2
   refine bu 6 (.raw (.bool (q2||q3))) [] rfl ?_ ?_
   ·refine .a 4 rfl<|.v (cg rfl (h2)) rfl<|.a 1 rfl<|?_
    cases q2
    ·exact .a 4 rfl<|.v (cg rfl (h3)) rfl<|.a 2 rfl<|.k [6] rfl
    ·exact .a 7 rfl<|.k [6] rfl
   exact aq<|⟨_,_,az.of rfl,aC.pure,by rw[if_neg k1,if_pos k2];rfl⟩
  ·have k2:¬k=2:=ff hk2
   exact aj<|ab (.a 4 rfl<|.v (cg rfl (h4)) rfl<|.a 1 rfl<|.k [6] rfl)<|aq<|⟨_,_,az.of rfl,aC.pure,by rw[if_neg k1,if_neg k2];rfl⟩
def gS(T:ai)(k x:Int)(m:Nat):List Bool:=(List.range (2*T.ae.length)).map fun a=>decide (a<m)&&cB k x T.ae (a / 2)
theorem yD(T:ai)(k x:Int):gS T k x 0=List.replicate (2*T.ae.length) false:=by
 unfold gS
 apply List.ext_getElem (by simp)
 intro i h1 h2
 simp
theorem jO(T:ai)(k x:Int)(m:Nat):(gS T k x m).length=2*T.ae.length:=by simp[gS]
theorem zT{T:ai}{k x:Int}{m:Nat}(h:cB k x T.ae (m / 2)=true):(gS T k x m).set m true=gS T k x (m+1):=by
 apply List.ext_getElem (by simp[gS])
 intro i h1 h2
 rw[List.getElem_set]
 by_cases e:m=i
 ·subst e;simp[gS,h]
 ·rw[if_neg e]
  simp only[gS,List.getElem_map,List.getElem_range]
  rw[show decide (i<m+1)=decide (i<m) from decide_eq_decide.2 (by omega)]
theorem Cq{T:ai}{k x:Int}{m:Nat}(h:cB k x T.ae (m / 2)=false):gS T k x (m+1)=gS T k x m:=by
 unfold gS
 refine List.map_congr_left fun a _=>?_
 by_cases e:a=m
 ·subst e;rw[h];simp
 ·rw[show decide (a<m+1)=decide (a<m) from decide_eq_decide.2 (by omega)]
theorem AF(T:ai)(k x:Int):gS T k x (2*T.ae.length)=ay T k x:=by
 unfold gS ay
 refine List.map_congr_left fun a ha=>?_
 rw[decide_eq_true (List.mem_range.1 ha),Bool.true_and]
def kK(L:List Bool):Option cU:=some (.row 4 1 L.length (bR L))
set_option maxHeartbeats 2000000 in
theorem vT(T:ai)(k x:Int):bU Tryz.prog 88 [aN T,.slice 1 (cn k x)] [] (fun r σ'=>((ao T&&bW T k x)=false∧r= .tuple [.raw (.slice none 0 0),num 1])∨((ao T&&bW T k x)=true∧r= .tuple [.own 0,num 0]∧σ'=[kK (ay T k x)])):=by
 refine cr Tryz.func88 rfl Tryz.ntmps88 rfl<|ab (.a 3 rfl<|.k [1,2] rfl)<|ak<|ab (.a 1 rfl<|.c rfl (gJ T) rfl<|.a 1 rfl<|.k [1,2,11] rfl)<|ah rfl (fun h1=>?_) (fun h1=>?_)
 ·have hv:ao T=false:=by simpa using h1
  exact ab (.a 2 rfl<|.k [4,5] rfl)<|aq<|⟨_,az.of rfl,.inl ⟨by rw[hv];rfl,rfl⟩⟩
 ·have hv:ao T=true:=by simpa using h1
  have hll:=bO hv
  refine aj<|aR<|au 3 rfl<|bE (aT rfl) rfl<|cz (dz rfl (bL.rk.get rfl) rfl rfl (show 2*(T.ae.length:Int)=((2*T.ae.length:Nat):Int) by omega) (show 2*(T.ae.length:Int)=((2*T.ae.length:Nat):Int) by omega) ⟨by unfold maxLen;omega,by omega⟩) rfl<|au 1 rfl<|aH [1,2,6] rfl ?_
  refine eD (σ':=[kK (gS T k x 0)]) (by unfold kK;rw[yD,List.length_replicate,←gQ];rfl) ?_
  refine ak<|ab (.a 1 rfl<|.k [1,2,6,7] rfl)<|av<|fp [1,2,6,7] rfl<|bq (fun r st=>∃(i:Nat) (M:List Bool),i≤1∧r=1 - i∧(i=0→M=gS T k x 0)∧(i=1→bW T k x=true∧M=ay T k x)∧st=⟨[(1,.slice 1 (cn k x)),(2,.aX (bw T) 0),(6,.own 0),(7,num i)],[kK M]⟩) 1 ⟨0,_,by omega,rfl,fun _=>rfl,fun h=>by omega,rfl⟩ ?_
  rintro r st ⟨i,M,hi,rfl,hM0,hM1,rfl⟩
  refine ak<|ab (.a 4 rfl<|.k [1,2,6,7,20] rfl)<|ah rfl (fun h2=>?_) (fun h2=>?_)
  ·have hi0:i=0:=by have:=tt h2;omega
   subst hi0
   obtain rfl:=hM0 rfl
   refine aj<|ak<|av<|ak<|ez mixed (by kernel_rfl) (.a 3 rfl<|.v [24,25] (aM (0) rfl) rfl rfl<|.v [26] (iF rfl ((show((cn k x).drop 0).take 2=cn k x from rfl)) rfl) rfl rfl<|.v [23,27] (dX rfl (gg T k x)) rfl rfl<|.a 1 rfl<|.k [1,2,6,7,29] rfl) ?_
   refine ah rfl (fun h3=>?_) (fun h3=>?_)
   ·have hc:(ao T&&bW T k x)=false:=(Bool.not_eq_true' _).mp h3
    exact ab (.a 2 rfl<|.k [4,5] rfl)<|aq<|⟨_,az.of rfl,.inl ⟨hc,rfl⟩⟩
   ·have hvc:(ao T&&bW T k x)=true:=by simpa using h3
    have hc:bW T k x=true:=(Bool.and_eq_true_iff.1 hvc).2
    refine aj<|ab (.a 1 rfl<|.k [1,2,6,7,8] rfl)<|av<|fp [1,2,6,7,8] rfl<|bq (fun r st=>∃m:Nat,m≤2*T.ae.length∧r=2*T.ae.length - m∧st=⟨[(1,.slice 1 (cn k x)),(2,.aX (bw T) 0),(6,.own 0),(7,num 0),(8,num m)],[kK (gS T k x m)]⟩) (2*T.ae.length) ⟨0,by omega,by omega,rfl⟩ ?_
    rintro r st ⟨m,hm,rfl,rfl⟩
    have hml:=jO T k x m
    refine ak<|ab (.a 4 rfl<|.k [1,2,6,7,8,33] rfl)<|ah rfl (fun h4=>?_) (fun h4=>?_)
    ·have hlt:m<2*T.ae.length:=by have:=tt h4;omega
     refine aj<|ak<|av<|ez mixed (by kernel_rfl) (.a 3 rfl<|.v [37,38] (aM (0) rfl) rfl rfl<|.v [39] (iF rfl ((show((cn k x).drop 0).take 2=cn k x from rfl)) rfl) rfl rfl<|.a 1 rfl<|.v [36,40,41] (dX rfl (tU T k x m hlt (by omega))) rfl rfl<|.k [1,2,6,7,8,42] rfl) ?_
     refine ah rfl (fun h5=>?_) (fun h5=>?_)
     ·have hst:=zT h5
      refine bI<|au 2 rfl<|bE (aM (m) rfl) rfl<|bd ((by first|exact bG rfl (bL.tk.get rfl) rfl rfl rfl (by first|omega|(simp;omega))|exact aV rfl (bL.tk.get rfl) rfl rfl rfl (by first|omega|(simp;omega)))) rfl rfl<|aH [1,2,6,7,8] rfl ?_
      refine aB (.a 1 rfl<|.v (aT rfl) rfl<|.a 1 rfl<|.k [1,2,6,7,8] rfl) ?_
      refine⟨2*T.ae.length - (m+1),by omega,m+1,by omega,rfl,?_⟩
      first
       |(rw[hst];rfl)
       |(rw[hst];unfold kK;rw[jO,jO];rfl)
     ·have hst:=Cq h5
      refine aj<|aB (.a 1 rfl<|.v (aT rfl) rfl<|.a 1 rfl<|.k [1,2,6,7,8] rfl) ?_
      refine⟨2*T.ae.length - (m+1),by omega,m+1,by omega,rfl,?_⟩
      first
       |(rw[hst];rfl)
       |(rw[hst];unfold kK;rw[jO,jO];rfl)
    ·have hme:m=2*T.ae.length:=by have:=ff h4;omega
     subst hme
     refine bf<|aB (.a 1 rfl<|.v (aT rfl) rfl<|.a 1 rfl<|.k [1,2,6,7] rfl) ?_
     exact⟨0,by omega,1,_,by omega,rfl,fun h=>by omega,fun _=>⟨hc,rfl⟩,by rw[AF];rfl⟩
  ·have hi1:i=1:=by have:=ff h2;omega
   subst hi1
   obtain⟨hc,rfl⟩:=hM1 rfl
   exact bf<|ab (.a 3 rfl<|.k [4,5] rfl)<|aq<|⟨_,az.of rfl,.inr ⟨by rw[hv,hc];rfl,rfl,rfl⟩⟩
theorem ya(T:ai)(k x:Int):bU Tryz.prog 32 [aN T,bS k x] [] (fun r σ'=>((ao T&&bW T k x)=false∧r= .tuple [.raw (.slice none 0 0),num 1])∨((ao T&&bW T k x)=true∧r= .tuple [.own 0,num 0]∧σ'=[kK (ay T k x)])):=by
 refine cr Tryz.func32 rfl Tryz.ntmps32 rfl<|ab (.a 4 rfl<|.k [2,3] rfl)<|ab (.a 3 rfl<|.k [2,6] rfl)<|aR<|au 2 rfl<|cQ rfl rfl (bU.mono (bU.mono (vT T k x) (fun r σ' h=>(show ∃y z,r= .tuple [y,z]∧(((ao T&&bW T k x)=false∧y= .raw (.slice none 0 0)∧z=num 1)∨((ao T&&bW T k x)=true∧y= .own 0∧z=num 0∧σ'=[kK (ay T k x)])) from by rcases h with⟨h1,rfl⟩|⟨h1,rfl,h2⟩;exact⟨_,_,rfl,.inl ⟨h1,rfl,rfl⟩⟩;exact⟨_,_,rfl,.inr ⟨h1,rfl,rfl,h2⟩⟩))) (fun r σ' h=>?_))
 obtain⟨y,z,rfl,hyz⟩:=h
 refine au 4 rfl<|aH [4,5] rfl ?_
 refine aq<|⟨_,az.of rfl,?_⟩
 rcases hyz with⟨h1,rfl,rfl⟩|⟨h1,rfl,rfl,rfl⟩
 ·exact .inl ⟨h1,rfl⟩
 ·exact .inr ⟨h1,rfl,rfl⟩
theorem mg(T:ai)(k x:Int):Can Tryz.prog 32 [aN T,bS k x] (· =ig (dM T k x) (ay T k x)):=by
 refine Can.JP (ya T k x) ?_
 rintro r σ' (⟨h1,rfl⟩|⟨h1,rfl,rfl⟩)
 ·refine⟨_,aC.bz (an.cons aC.b7 (an.cons aC.pure an.nil)),?_⟩
  have he:dM T k x=1:=by unfold dM;rw[if_neg (by rw[h1];simp)]
  rw[he]
  rfl
 ·refine⟨_,aC.bz (an.cons (aC.fu rfl an.pure) (an.cons aC.pure an.nil)),?_⟩
  unfold ig dM aY
  rw[if_pos h1,if_pos rfl]
end PW
end Go.Proofs.YtnegbdpggideiaaGreatDoor
namespace Go.Proofs.YtnegbdpggideiaaGreatDoor
namespace PW
open Go.RowKit cE Mem Net
def gR(T:ai)(D:List Bool)(L:List Int)(dn:Int)(d a:Nat):Bool:=
 !(aL D a||decide (L.getD (aS T a).toNat 0<0)||(decide (aS T a≠(d:Int))&&cR T (aS T a).toNat))&&decide (L.getD (aS T a).toNat 0+cb T a=dn)
def kF(T:ai)(D:List Bool)(L:List Int)(dn:Int)(d:Nat)(l:List Int):List Int:=l.filter fun a=>gR T D L dn d a.toNat
theorem sN(T:ai)(D:List Bool)(L lv:List Int)(n d:Nat)(hv:ao T=true)(hf:bP T D=true)(hL:(L.length:Int)=T.nodes)(hub:∀x∈L, -1≤x∧x≤4194240)(hn:(n:Int)<T.nodes)(hd:(d:Int)<T.nodes)
    (hlv:∀a∈lv,0≤a∧a<2*(T.ae.length:Int)) (hll:lv.length≤100000):
    Can Tryz.prog 148 [aN T,aY D,aw L,aw lv,num n,num d] (· =aw (if n=d∨L.getD n 0<0 then [] else kF T D L (L.getD n 0) d lv)):=by
  have hbd:=gm hv
  have hS:=aK hv
  have hnL:n<L.length:=by omega
  refine aG Tryz.func148 rfl Tryz.ntmps148 rfl<|ab (.a 2 rfl<|.k [1,2,3,4,5,6] rfl)<|ab (.a 1 rfl<|.k [1,2,3,4,5,6,13] rfl) ?_
  obtain⟨q1,hq1⟩:∃q,decide ((n:Int)=(d:Int))=q:=⟨_,rfl⟩
  obtain⟨q2,hq2⟩:∃q,decide (L.getD n 0<0)=q:=⟨_,rfl⟩
  refine ak<|bu 26 (.raw (.bool (q1||q2))) [1,2,3,4,5,6,13] rfl ?_ ?_
  · refine .a 2 rfl<|.v (cg rfl (hq1)) rfl<|.a 1 rfl<|?_
    cases q1
    · exact .a 2 rfl<|.v (aM (n) rfl) rfl<|.v (aO rfl (aA L n hnL)) rfl<|.v (cg rfl (hq2)) rfl<|.a 1 rfl<|.k [26,1,2,3,4,5,6,13] rfl
    · exact .a 6 rfl<|.k [26,1,2,3,4,5,6,13] rfl
  refine ah (b:=q1||q2) rfl (fun hc=>?_) (fun hc=>?_)
  · have:n=d∨L.getD n 0<0:=by
      rcases Bool.or_eq_true_iff.1 hc with h|h
      · rw[h]at hq1;exact .inl (by have:=of_decide_eq_true hq1;omega)
      · rw[h]at hq2;exact .inr (of_decide_eq_true hq2)
    rw[if_pos this]
    refine ab (.a 2 rfl<|.k [12] rfl)<|aq ⟨_,_,.cons (.tmp rfl) .nil,aC.b7,rfl⟩
  · obtain ⟨c1, c2⟩ := Bool.or_eq_false_iff.1 hc
    rw[c1]at hq1
    rw[c2]at hq2
    have hnd:¬(n=d∨L.getD n 0<0):=by
      have:=of_decide_eq_false hq1
      have:=of_decide_eq_false hq2
      omega
    rw[if_neg hnd]
    refine aj<|ak<|ab (.a 3 rfl<|.k [1,2,4,5,6,13,28,29,30] rfl)<|gM 13 3 1 rfl ?_
    refine av<|kG (.cons (k:=1) rfl<|.cons (k:=2) rfl<|.cons (k:=4) rfl<|.cons (k:=5) rfl<|.cons (k:=6) rfl<|.cons (k:=13) rfl<|.cons (k:=28) rfl<|.cons (k:=29) rfl<|.cons (k:=30) rfl<|Sub.nil _) ?_
    refine bq (fun r s=>∃i,i≤lv.length∧r=lv.length - i∧s=⟨[(1,aY D),(2,aw L),(4,num n),(5,num d),(6,.aX (bw T) 0),(13,.own 0),(28,aw lv),(29,num lv.length),(30,num i)],[some (.row 3 1 (kF T D L (L.getD n 0) d (lv.take i)).length (aP (kF T D L (L.getD n 0) d (lv.take i))))]⟩) lv.length ⟨0,by omega,by omega,?_⟩ ?_
    · simp only[List.take_zero,kF,List.filter_nil]
      rfl
    · rintro r s ⟨i,hi,rfl,rfl⟩
      refine ab (.a 1 rfl<|.k [1,2,4,5,6,13,28,29,30,31] rfl)<|ak<|ah (b:=decide ((i:Int)<(lv.length:Int))) rfl (fun hc=>?_) (fun hc=>?_)
      · have hlt:i<lv.length:=by have:=of_decide_eq_true hc;omega
        refine aj ?_
        obtain⟨a,ha⟩:∃a:Nat,lv.getD i 0=(a:Int):=Int.eq_ofNat_of_zero_le (hlv _ (ca hlt)).1
        have ham:a<2*T.ae.length:=by
          have:=(hlv (lv.getD i 0) (ca hlt)).2
          omega
        have hstep:kF T D L (L.getD n 0) d (lv.take (i+1))=kF T D L (L.getD n 0) d (lv.take i)++(if gR T D L (L.getD n 0) d a then [(a:Int)] else []):=by
          unfold kF
          rw[List.take_add_one,List.filter_append,show lv[i]? =some (a:Int) by rw[←ha,List.getD_eq_getElem?_getD];simp[hlt]]
          congr 1
          simp only[Option.toList_some,List.filter_cons,List.filter_nil,Int.toNat_natCast]
        have hlen:(kF T D L (L.getD n 0) d (lv.take i)).length≤100000:=Nat.le_trans (List.length_filter_le _ _) (by rw[List.length_take];omega)
        obtain⟨hd0,hhN⟩:=hS.head a ham
        obtain⟨h,hh⟩:=Int.eq_ofNat_of_zero_le hd0
        have hhL:h<L.length:=by omega
        have hub1: -1≤L.getD h 0∧L.getD h 0≤4194240:=hub _ (ca hhL)
        have hcb:=hS.cost a ham
        have hDl:D.length=0∨a<D.length:=by simp only[bP,decide_eq_true_eq]at hf;omega
        have hov:T.over.length=0∨h<T.over.length:=by have:=hbd.2.2.2;omega
        refine ak<|av<|ab (.v (aM (i) rfl) rfl<|.v (aO rfl ((aA lv i hlt).trans (by rw[ha]))) rfl<|.a 1 rfl<|.k [1,2,4,5,6,13,15,28,29,30] rfl)<|ab (.a 2 rfl<|.c rfl (hh▸fI T a ham (by omega)) rfl<|.a 1 rfl<|.k [1,2,4,5,6,13,15,16,28,29,30] rfl) ?_
        obtain⟨p1,hp1⟩:∃q,aL D a=q:=⟨_,rfl⟩
        obtain⟨p2,hp2⟩:∃q,decide (L.getD h 0<0)=q:=⟨_,rfl⟩
        obtain⟨p3,hp3⟩:∃q,decide ((h:Int)≠(d:Int))=q:=⟨_,rfl⟩
        obtain⟨p4,hp4⟩:∃q,cR T h=q:=⟨_,rfl⟩
        obtain⟨p5,hp5⟩:∃q,decide (L.getD h 0+cb T a=L.getD n 0)=q:=⟨_,rfl⟩
        have hpass:gR T D L (L.getD n 0) d a=(!((p1||p2)||(p3&&p4))&&p5):=by
          unfold gR;rw[hh,Int.toNat_natCast,hp1,hp2,hp3,hp4,hp5]
        refine ak<|bu 56 (.raw (.bool ((p1||p2)||(p3&&p4)))) [1,2,4,5,6,13,15,16,28,29,30] rfl ?_ ?_
        · refine .a 2 rfl<|.c rfl (hp1▸i7 D a hDl) rfl<|.a 1 rfl<|?_
          cases p1
          · refine .a 2 rfl<|.v (aM (h) rfl) rfl<|.v (aO rfl (aA L h hhL)) rfl<|.v (cg rfl (hp2)) rfl<|.a 2 rfl<|?_
            cases p2
            · refine .a 2 rfl<|.v (cg rfl (hp3)) rfl<|.a 1 rfl<|?_
              cases p3
              · exact .a 5 rfl<|.k [56,1,2,4,5,6,13,15,16,28,29,30] rfl
              · exact .a 2 rfl<|.c rfl (hp4▸nS T h hov) rfl<|.a 2 rfl<|.k [56,1,2,4,5,6,13,15,16,28,29,30] rfl
            · exact .a 9 rfl<|.k [56,1,2,4,5,6,13,15,16,28,29,30] rfl
          · exact .a 16 rfl<|.k [56,1,2,4,5,6,13,15,16,28,29,30] rfl
        refine ah (b:=(p1||p2)||(p3&&p4)) rfl (fun hc=>?_) (fun hc=>?_)
        · rw[hc]at hpass
          refine bf<|aB (.v (aT rfl) rfl<|.a 1 rfl<|.k [1,2,4,5,6,13,28,29,30] rfl) ?_
          refine⟨lv.length - (i+1),by omega,i+1,by omega,rfl,?_⟩
          rw[hstep,hpass]
          simp only[Bool.not_true,Bool.false_and,Bool.false_eq_true,if_false,List.append_nil]
          rfl
        · rw[hc]at hpass
          refine aj<|ez mixed (by kernel_rfl) (.a 2 rfl<|.v [57,58] (aM (h) rfl) rfl rfl<|.v [59] (aO rfl (aA L h hhL)) rfl rfl<|.a 2 rfl<|.v [61,62] (dX rfl (kP T a ham)) rfl rfl<|.v [60,63] (aT rfl) rfl rfl<|.a 2 rfl<|.v [65,66] (aM (n) rfl) rfl rfl<|.v [67] (aO rfl (aA L n hnL)) rfl rfl<|.v [64,68] (cg rfl (hp5)) rfl rfl<|.k [1,2,4,5,6,13,15,28,29,30,69] rfl) ?_
          refine ah (b:=p5) rfl (fun hc5=>?_) (fun hc5=>?_)
          · rw[hc5]at hpass
            refine bI<|au 3 rfl<|cz (bA rfl (bL.rk.get rfl) rfl rfl rfl rfl (by unfold maxLen;omega)) rfl<|au 1 rfl ?_
            refine ee [1] (.c 1<|.c 2<|.c 4<|.c 5<|.c 6<|.c 13<|.c 28<|.c 29<|.c 30<|.nil) (.kept rfl (.fm rfl (dc _ _))<|.nil) rfl rfl (aZ ?_)
            refine aB (.v (aT rfl) rfl<|.a 1 rfl<|.k [1,2,4,5,6,13,28,29,30] rfl) ?_
            refine⟨lv.length - (i+1),by omega,i+1,by omega,rfl,?_⟩
            rw[hstep,hpass]
            simp only[Bool.not_false,Bool.true_and,if_true,List.length_append,List.length_singleton]
            rfl
          · rw[hc5]at hpass
            refine aj<|aB (.v (aT rfl) rfl<|.a 1 rfl<|.k [1,2,4,5,6,13,28,29,30] rfl) ?_
            refine⟨lv.length - (i+1),by omega,i+1,by omega,rfl,?_⟩
            rw[hstep,hpass]
            simp only[Bool.not_false,Bool.true_and,Bool.false_eq_true,if_false,List.append_nil]
            rfl
      · have:i=lv.length:=by have:=of_decide_eq_false hc;omega
        subst this
        rw[List.take_length]
        exact bf<|ab (.a 2 rfl<|.k [12] rfl)<|aq ⟨_,_,.cons (.tmp rfl) .nil,aC.fu rfl an.pure,rfl⟩
end PW
end Go.Proofs.YtnegbdpggideiaaGreatDoor
namespace Go.Proofs.YtnegbdpggideiaaGreatDoor
namespace PW
open Go.RowKit cE Mem Net Heap
instance (rs:List (List Int)):eL (je rs):=by unfold je;infer_instance
instance (T:ai):ct (bw T):=by unfold bw;infer_instance
def cw(T:ai)(D:List Bool)(ns:List Int):Int:=if ao T&&bP T D then(if ns.all (bn T) then 0 else 2) else 1
theorem od(T:ai)(D:List Bool)(ns:List Int)(hns:ns.length≤1000):Can Tryz.prog 173 [aN T,aY D,aw ns] (· =num (cw T D ns)):=by
 refine aG Tryz.func173 rfl Tryz.ntmps173 rfl<|ab (.a 2 rfl<|.k [1,2,3] rfl)<|ak ?_
 obtain⟨q1,hq1⟩:∃q,ao T=q:=⟨_,rfl⟩
 obtain⟨q2,hq2⟩:∃q,bP T D=q:=⟨_,rfl⟩
 refine bu 17 (.raw (.bool ((!q1)||(!q2)))) [2,3] rfl ?_ ?_
 ·refine .a 1 rfl<|.c rfl (hq1▸ej T) rfl<|.a 2 rfl<|?_
  cases q1
  ·exact .a 5 rfl<|.k [17,2,3] rfl
  ·exact .a 2 rfl<|.c rfl (hq2▸la T D (by have:=bO hq1;omega)) rfl<|.a 2 rfl<|.k [17,2,3] rfl
 refine ah rfl (fun hc=>?_) (fun hc=>?_)
 ·have hch:cw T D ns=1:=by
   unfold cw
   rw[hq1,hq2,if_neg]
   revert hc
   cases q1<;>cases q2<;>simp
  exact ab (.a 1 rfl<|.k [6] rfl)<|aq<|⟨_,_,az.of rfl,aC.pure,by rw[hch];rfl⟩
 ·have hok:(ao T&&bP T D)=true:=by
   rw[hq1,hq2]
   revert hc
   cases q1<;>cases q2<;>simp
  refine aj<|ak<|ab (.a 3 rfl<|.k [3,18,19,20] rfl)<|av<|fp [3,18,19,20] rfl<|bq (fun r s=>∃i,i≤ns.length∧(ns.take i).all (bn T)=true∧r=ns.length - i∧s=⟨[(3,.aX (bw T) 0),(18,aw ns),(19,num ns.length),(20,num i)],[]⟩) ns.length ⟨0,by omega,by simp,by omega,rfl⟩ ?_
  rintro r s ⟨i,hi,hall,rfl,rfl⟩
  refine ab (.a 1 rfl<|.k [3,18,19,20,21] rfl)<|ak<|ah rfl (fun hc=>?_) (fun hc=>?_)
  ·have hlt:i<ns.length:=by have:=of_decide_eq_true hc;omega
   refine aj<|ak<|av<|ab (.v (aM (i) rfl) rfl<|.v (aO rfl (aA ns i hlt)) rfl<|.a 1 rfl<|.k [3,8,18,19,20] rfl)<|ab (.a 2 rfl<|.c rfl (df T _) rfl<|.a 1 rfl<|.k [3,18,19,20,27] rfl)<|ah rfl (fun hc=>?_) (fun hc=>?_)
   ·have hch:cw T D ns=2:=by
     unfold cw
     rw[if_pos hok,if_neg]
     intro h
     have h1:=List.all_eq_true.1 h _ (ca (d:=0) hlt)
     rw[h1]at hc
     cases hc
    exact ab (.a 1 rfl<|.k [6] rfl)<|aq<|⟨_,_,az.of rfl,aC.pure,by rw[hch];rfl⟩
   ·have hall':(ns.take (i+1)).all (bn T)=true:=by
     rw[dF ns i 0 hlt,List.all_append,hall]
     have:bn T (ns.getD i 0)=true:=by revert hc;cases bn T (ns.getD i 0)<;>simp
     simp only[List.all_cons,this,List.all_nil,Bool.and_self]
    refine aj<|aB (.v (aT rfl) rfl<|.a 1 rfl<|.k [3,18,19,20] rfl) ?_
    exact⟨ns.length - (i+1),by omega,i+1,by omega,hall',rfl,rfl⟩
  ·have hie:i=ns.length:=by have:=of_decide_eq_false hc;omega
   refine bf<|ab (.a 1 rfl<|.k [6] rfl)<|aq<|⟨_,_,az.of rfl,aC.pure,?_⟩
   unfold cw
   rw[if_pos hok,if_pos (by rw[hie,List.take_length]at hall;exact hall)]
   rfl
theorem BF(rs:List (List Int))(i:Nat)(hi:i<rs.length):Can Tryz.prog 175 ([num i]++[.aX [je rs] 0]) (· =aw (rs.getD i [])):=by
 exact aG Tryz.func175 rfl Tryz.ntmps175 rfl<|ab (.a 1 rfl<|.k [0,1] rfl)<|ab (.a 2 rfl<|.v (aM (i) rfl) rfl<|.v (aO rfl ((show(rs.map aw)[i]? =some (aw (rs.getD i [])) by simp[hi]))) rfl<|.a 1 rfl<|.k [3] rfl)<|aq<|⟨_,_,az.of rfl,aC.pure,rfl⟩
theorem AG(T:ai)(a:Nat)(ha:a<2*T.ae.length):Can Tryz.prog 176 ([num a]++[.aX (bw T) 0]) (· =num (bb T a)):=by
 exact aG Tryz.func176 rfl Tryz.ntmps176 rfl<|ab (.a 1 rfl<|.k [0,1] rfl)<|ab (.a 2 rfl<|.c rfl (iZ T a ha) rfl<|.a 1 rfl<|.k [3] rfl)<|aq<|⟨_,_,az.of rfl,aC.pure,rfl⟩
def dr(e:Int)(l:List Int):PV:=.tuple [aw (if e=0 then l else []),num e]
instance (e:Int) (l:List Int):IsPure (dr e l):=by unfold dr;infer_instance
theorem rC(T:ai)(D:List Bool)(d:Int):Can Tryz.prog 151 [aN T,aY D,num d] (· =dr (cw T D [d]) (br T D d.toNat false)):=by
 refine aG Tryz.func151 rfl Tryz.ntmps151 rfl<|ab (.a 3 rfl<|.k [1,2,3] rfl)<|ak<|ab (.a 4 rfl<|.c rfl (od T D [d] (by simp)) rfl<|.a 1 rfl<|.k [1,2,3,8] rfl)<|ab (.a 2 rfl<|.k [1,2,3,8,17] rfl)<|ah rfl (fun hc=>?_) (fun hc=>?_)
 ·have he:cw T D [d]≠0:=of_decide_eq_true hc
  exact ab (.a 3 rfl<|.k [6,7] rfl)<|aq<|⟨_,_,az.of rfl,aC.bz (an.cons aC.b7 (an.cons aC.pure an.nil)),by unfold dr;rw[if_neg he];rfl⟩
 ·have he:cw T D [d]=0:=by have:=of_decide_eq_false hc;omega
  have hok:(ao T&&bP T D)=true∧bn T d=true:=by
   unfold cw at he
   split at he
   ·rename_i h1
    split at he
    ·rename_i h2;exact⟨h1,by simpa using h2⟩
    ·omega
   ·omega
  obtain⟨hvf,hnd⟩:=hok
  obtain⟨hv,hf⟩:=Bool.and_eq_true_iff.1 hvf
  have hd:0≤d∧d<T.nodes:=by simpa[bn]using hnd
  obtain⟨n,rfl⟩:=Int.eq_ofNat_of_zero_le hd.1
  have hS:=aK hv
  refine aj<|aR<|au 1 rfl<|er rfl (tR T hv) rfl<|au 2 rfl<|aH [1,2,3,9] rfl ?_
  refine aR<|au 3 rfl<|bE (dL rfl rfl) rfl<|au 4 rfl<|aH [10] rfl ?_
  refine wJ (.cons 10 rfl (aC.jh rfl (an.cons aC.pure<|an.cons aC.pure<|an.cons aC.pure<|an.cons aC.pure<|an.cons aC.pure<|an.cons (aC.iC (an.cons (aC.jh rfl (an.cons aC.pure an.nil)) an.nil))<|an.cons aC.pure an.nil)) .nil) ?_
  exact ab (.a 1 rfl<|.c rfl (zm T D n false 175 176 [.aX [je (dh (aS T) T.nodes.toNat (2*T.ae.length))] 0] [.aX (bw T) 0] hv hf hd.2 (by kernel_rfl) (by kernel_rfl) (fun i hi=>by have h:=BF (dh (aS T) T.nodes.toNat (2*T.ae.length)) i (by rw[eH];omega);rw[iK _ _ _ _ (by omega)]at h;exact h) (fun a ha=>AG T a ha)) rfl<|.a 2 rfl<|.k [6,7] rfl)<|aq<|⟨_,_,az.of rfl,aC.pure,by unfold dr;rw[if_pos he,he];rfl⟩
end PW
end Go.Proofs.YtnegbdpggideiaaGreatDoor
namespace Go.Proofs.YtnegbdpggideiaaGreatDoor
namespace PW
open Go.RowKit cE Mem Net Heap
theorem nU(T:ai)(hl:T.ae.length≤256)(n:Int):Can Tryz.prog 74 [aN T,num n] (· =aw (bH T n)):=by
 refine aG Tryz.func74 rfl Tryz.ntmps74 rfl<|ab (.a 2 rfl<|.k [1,2] rfl)<|ab (.a 1 rfl<|.k [1,2,5] rfl)<|gM 5 3 1 rfl ?_
 refine ak<|ab (.a 1 rfl<|.c rfl (gX T (by omega)) rfl<|.a 1 rfl<|.k [1,2,5,8,9] rfl)<|av<|fp [1,2,5,8,9] rfl<|bq (fun r s=>∃k,k≤2*T.ae.length∧r=2*T.ae.length - k∧s=⟨[(1,num n),(2,.aX (bw T) 0),(5,.own 0),(8,num (2*(T.ae.length:Int))),(9,num k)],[some (.row 3 1 (iB T n k).length (aP (iB T n k)))]⟩) (2*T.ae.length) ⟨0,by omega,by omega,rfl⟩ ?_
 rintro r s ⟨k,hk,rfl,rfl⟩
 refine ab (.a 1 rfl<|.k [1,2,5,8,9,10] rfl)<|ak<|ah rfl (fun hc=>?_) (fun hc=>?_)
 ·have hlt:k<2*T.ae.length:=by have:=of_decide_eq_true hc;omega
  have hlen:=eh T n k
  refine aj<|ak<|av<|ab (.a 2 rfl<|.k [1,2,5,6,8,9] rfl)<|ab (.a 2 rfl<|.c rfl (iZ T k hlt) rfl<|.a 2 rfl<|.k [1,2,5,6,8,9,16] rfl)<|ah rfl (fun hc=>?_) (fun hc=>?_)
  ·have hst:=AA T n k (by simpa using of_decide_eq_true hc)
   refine bI<|au 3 rfl<|cz (bA rfl (bL.rk.get rfl) rfl rfl rfl rfl (by unfold maxLen;omega)) rfl<|au 1 rfl ?_
   refine ee [1] (.c 1<|.c 2<|.c 5<|.c 8<|.c 9<|.nil) (.kept rfl (.fm rfl (dc _ _))<|.nil) rfl rfl (aZ ?_)
   refine aB (.v (aT rfl) rfl<|.a 1 rfl<|.k [1,2,5,8,9] rfl) ?_
   refine⟨2*T.ae.length - (k+1),by omega,k+1,by omega,rfl,?_⟩
   rw[hst]
   first
    |rfl
    |(simp only[List.length_append,List.length_singleton];rfl)
  ·have hst:=Cg T n k (by simpa using of_decide_eq_false hc)
   refine aj<|aB (.v (aT rfl) rfl<|.a 1 rfl<|.k [1,2,5,8,9] rfl) ?_
   refine⟨2*T.ae.length - (k+1),by omega,k+1,by omega,rfl,?_⟩
   rw[hst]
   first
    |rfl
    |(simp only[List.length_append,List.length_singleton];rfl)
 ·have hke:k=2*T.ae.length:=by have:=of_decide_eq_false hc;omega
  subst hke
  exact bf<|ab (.a 2 rfl<|.k [4] rfl)<|aq<|⟨_,_,az.of rfl,aC.fu rfl an.pure,rfl⟩
def cc(T:ai)(D:List Bool)(n d:Int):Int:=if cw T D [d]=0 then(if bn T n then 0 else 2) else cw T D [d]
theorem sB(T:ai)(D:List Bool)(n d:Int):Can Tryz.prog 147 [aN T,aY D,num n,num d] (· =dr (cc T D n d) (br T D d.toNat false)):=by
 refine aG Tryz.func147 rfl Tryz.ntmps147 rfl<|ab (.a 3 rfl<|.k [1,2,3,4] rfl)<|ab (.a 3 rfl<|.c rfl (rC T D d) rfl<|.a 5 rfl<|.k [2,4,10,11] rfl)<|ak<|ab (.a 2 rfl<|.k [2,4,10,11,20] rfl)<|ah rfl (fun hc=>?_) (fun hc=>?_)
 ·have he:cw T D [d]≠0:=of_decide_eq_true hc
  exact ab (.a 3 rfl<|.k [8,9] rfl)<|aq<|⟨_,_,az.of rfl,aC.bz (an.cons aC.b7 (an.cons aC.pure an.nil)),by unfold dr cc;rw[if_neg he,if_neg he];rfl⟩
 ·have he:cw T D [d]=0:=by have:=of_decide_eq_false hc;omega
  refine aj<|ak<|ab (.a 2 rfl<|.c rfl (df T n) rfl<|.a 1 rfl<|.k [10,25] rfl)<|ah rfl (fun hc=>?_) (fun hc=>?_)
  ·have hn:bn T n=false:=by revert hc;cases bn T n<;>simp
   exact ab (.a 2 rfl<|.k [8,9] rfl)<|aq<|⟨_,_,az.of rfl,aC.bz (an.cons aC.b7 (an.cons aC.pure an.nil)),by unfold dr cc;rw[if_pos he,hn];rfl⟩
  ·have hn:bn T n=true:=by revert hc;cases bn T n<;>simp
   exact aj<|ab (.a 3 rfl<|.k [8,9] rfl)<|aq<|⟨_,_,az.of rfl,aC.pure,by unfold dr cc;simp only[he,hn,if_true];rfl⟩
theorem sX{T:ai}{D:List Bool}{ns:List Int}(he:cw T D ns=0):ao T=true∧bP T D=true∧∀n∈ns,bn T n=true:=by
 unfold cw at he
 split at he
 ·rename_i h1
  split at he
  ·rename_i h2
   obtain⟨a,b⟩:=Bool.and_eq_true_iff.1 h1
   exact⟨a,b,List.all_eq_true.1 h2⟩
  ·omega
 ·omega
theorem fc{T:ai}{D:List Bool}{n d:Int}(he:cc T D n d=0):ao T=true∧bP T D=true∧bn T n=true∧bn T d=true:=by
 unfold cc at he
 split at he
 ·rename_i h1
  obtain⟨a,b,c⟩:=sX h1
  split at he
  ·rename_i h2;exact⟨a,b,h2,c d (by simp)⟩
  ·omega
 ·omega
theorem di{T:ai}{D:List Bool}(hv:ao T=true){d:Nat}{dir:Bool}(hd:(d:Int)<T.nodes):((br T D d dir).length:Int)=T.nodes∧∀x∈br T D d dir, -1≤x∧x≤4194240:=by
 have hS:=aK hv
 have hI:=Bu hS D dir hd
 refine⟨hI.len,fun x hx=>?_⟩
 obtain⟨i,hi,rfl⟩:=List.getElem_of_mem hx
 have hin:(i:Int)<T.nodes:=by have:=hI.len;omega
 have h1:=hI.ge i hin
 have h2:=hI.IM i hin
 have h3:=oB (br T D d dir)
 have h4:=hS.nodes
 have h5:=hI.len
 rw[Eh _ i hi]at h1 h2
 omega
noncomputable def bx(T:ai)(D:List Bool)(n d:Nat):List Int:=
 if n=d∨(br T D d false).getD n 0<0 then [] else kF T D (br T D d false) ((br T D d false).getD n 0) d (bH T n)
theorem jV{T:ai}{n:Int}{a:Int}(h:a∈bH T n):0≤a∧a<2*(T.ae.length:Int):=by
 unfold bH iB at h
 obtain⟨b,hb,rfl⟩:=List.mem_map.1 h
 have:=(List.mem_filter.1 hb).1
 have:=List.mem_range.1 this
 simp;omega
theorem rq(T:ai)(D:List Bool)(n d:Int):Can Tryz.prog 109 [aN T,aY D,num n,num d] (· =dr (cc T D n d) (bx T D n.toNat d.toNat)):=by
 refine aG Tryz.func109 rfl Tryz.ntmps109 rfl<|ab (.a 3 rfl<|.k [1,2,3,4] rfl)<|ab (.a 4 rfl<|.c rfl (sB T D n d) rfl<|.a 5 rfl<|.k [1,2,3,4,10,11] rfl)<|ak<|ab (.a 2 rfl<|.k [1,2,3,4,10,11,21] rfl)<|ah rfl (fun hc=>?_) (fun hc=>?_)
 ·have he:cc T D n d≠0:=of_decide_eq_true hc
  exact ab (.a 3 rfl<|.k [8,9] rfl)<|aq<|⟨_,_,az.of rfl,aC.bz (an.cons aC.b7 (an.cons aC.pure an.nil)),by unfold dr;rw[if_neg he];rfl⟩
 ·have he:cc T D n d=0:=by have:=of_decide_eq_false hc;omega
  rw[he]
  obtain⟨hv,hf,hn,hd⟩:=fc he
  rw[aU]at hn hd
  obtain⟨n,rfl⟩:=Int.eq_ofNat_of_zero_le hn.1
  obtain⟨d,rfl⟩:=Int.eq_ofNat_of_zero_le hd.1
  have hll:=bO hv
  obtain⟨hb1,hb2⟩:=di (D:=D) hv (dir:=false) hd.2
  refine aj<|ez mixed (by kernel_rfl) (.a 5 rfl<|.v [26,27] (dX rfl (nU T hll _)) rfl rfl<|.a 2 rfl<|.v [23,24,25,28,29,30] (dX rfl (sN T D (br T D d false) (bH T n) n d hv hf hb1 hb2 hn.2 hd.2 (fun a ha=>jV ha) (Nat.le_trans (eh T n _) (by omega)))) rfl rfl<|.a 2 rfl<|.k [8,9] rfl) ?_
  exact aq<|⟨_,_,az.of rfl,aC.pure,rfl⟩
end PW
end Go.Proofs.YtnegbdpggideiaaGreatDoor
namespace Go.Proofs.YtnegbdpggideiaaGreatDoor
namespace PW
open Go.RowKit cE Mem Net
structure bY where
 kind:Int
 num:Int
deriving DecidableEq
structure iE where
 aI:List Int
 rep:Bool
 push:List bY
structure dR where
 node:Int
 fh:List iE
 down:List Int
def mU(s:bY):List PV:=[num s.kind,num s.num]
def yg(s:bY):PV:=.agg (mU s)
def eB(l:List bY):List PV:=l.flatMap mU
def cH(l:List bY):PV:=.slice l.length (eB l)
def kq(e:iE):List PV:=[aw e.aI,flag e.rep,cH e.push]
def wb(e:iE):PV:=.agg (kq e)
def dw(l:List iE):List PV:=l.flatMap kq
def jY(l:List iE):PV:=.slice l.length (dw l)
def fU(t:dR):List PV:=[num t.node,jY t.fh,aw t.down]
def fV(t:dR):PV:=.agg (fU t)
def mD(l:List dR):List PV:=l.flatMap fU
def iw(l:List dR):PV:=.slice l.length (mD l)
instance (s:bY):aJ (mU s):=by unfold mU;infer_instance
instance (s:bY):ct (mU s):=by unfold mU;infer_instance
instance (s:bY):IsPure (yg s):=by unfold yg;infer_instance
instance (l:List bY):aJ (eB l):=aJ.flatMap _ _ fun _=>inferInstance
instance (l:List bY):ct (eB l):=ct.flatMap _ _ fun _=>inferInstance
instance (l:List bY):IsPure (cH l):=by unfold cH;infer_instance
instance (l:List bY):eL (cH l):=by unfold cH;infer_instance
instance (e:iE):aJ (kq e):=by unfold kq;infer_instance
instance (e:iE):ct (kq e):=by unfold kq;infer_instance
instance (e:iE):IsPure (wb e):=by unfold wb;infer_instance
instance (l:List iE):aJ (dw l):=aJ.flatMap _ _ fun _=>inferInstance
instance (l:List iE):ct (dw l):=ct.flatMap _ _ fun _=>inferInstance
instance (l:List iE):IsPure (jY l):=by unfold jY;infer_instance
instance (l:List iE):eL (jY l):=by unfold jY;infer_instance
instance (t:dR):aJ (fU t):=by unfold fU;infer_instance
instance (t:dR):ct (fU t):=by unfold fU;infer_instance
instance (t:dR):IsPure (fV t):=by unfold fV;infer_instance
instance (l:List dR):aJ (mD l):=aJ.flatMap _ _ fun _=>inferInstance
instance (l:List dR):ct (mD l):=ct.flatMap _ _ fun _=>inferInstance
instance (l:List dR):IsPure (iw l):=by unfold iw;infer_instance
instance (l:List dR):eL (iw l):=by unfold iw;infer_instance
theorem mN(l:List iE)(e:iE):dw l++kq e=dw (l++[e]):=by simp[dw]
theorem p6(l:List dR)(e:dR):mD l++fU e=mD (l++[e]):=by simp[mD]
theorem flat_get{α:Type}(f:α→List PV)(s:Nat)(hf:∀a,(f a).length=s):∀(l:List α) (i j:Nat) (a:α),l[i]? =some a→j<s→(l.flatMap f)[i*s+j]? =(f a)[j]?
 | [],i,j,a,h,_=>by simp at h
 |b::l,0,j,a,h,hj=>by
  simp at h;subst h
  rw[List.flatMap_cons,Nat.zero_mul,Nat.zero_add,List.getElem?_append_left (by rw[hf];exact hj)]
 |b::l,i+1,j,a,h,hj=>by
  have:=flat_get f s hf l i j a (by simpa using h) hj
  have e1:(i+1)*s=i*s+s:=Nat.succ_mul i s
  have e2:(i+1)*s+j - s=i*s+j:=by omega
  have e3:(f b).length≤(i+1)*s+j:=by rw[hf];omega
  rw[List.flatMap_cons,List.getElem?_append_right e3,hf,e2,this]
theorem mq{α:Type}(f:α→List PV)(s:Nat)(hf:∀a,(f a).length=s):∀(l:List α) (i:Nat) (a:α),l[i]? =some a→((l.flatMap f).drop (i*s)).take s=f a
 | [],i,a,h=>by simp at h
 |b::l,0,a,h=>by
  simp at h;subst h
  rw[List.flatMap_cons,Nat.zero_mul,List.drop_zero]
  exact List.take_left' (hf b)
 |b::l,i+1,a,h=>by
  have:=mq f s hf l i a (by simpa using h)
  have e1:(i+1)*s=s+i*s:=by rw[Nat.succ_mul];omega
  rw[List.flatMap_cons,e1,←List.drop_drop,List.drop_left' (hf b),this]
theorem Dr{α:Type}(f:α→List PV)(s:Nat)(hf:∀a,(f a).length=s)(l:List α):(l.flatMap f).length=l.length*s:=by
 induction l with
 |nil=>simp
 |cons a l ih=>rw[List.flatMap_cons,List.length_append,ih,hf,List.length_cons,Nat.succ_mul];omega
theorem v7(l:List iE)(i j:Nat)(e:iE)(h:l[i]? =some e)(hj:j<3):(dw l)[i*3+j]? =(kq e)[j]? :=flat_get kq 3 (fun _=>rfl) l i j e h hj
theorem oe(l:List iE)(i:Nat)(e:iE)(h:l[i]? =some e):((dw l).drop (i*3)).take 3=kq e:=mq kq 3 (fun _=>rfl) l i e h
theorem vu(l:List bY)(i j:Nat)(e:bY)(h:l[i]? =some e)(hj:j<2):(eB l)[i*2+j]? =(mU e)[j]? :=flat_get mU 2 (fun _=>rfl) l i j e h hj
theorem oK(l:List bY)(i:Nat)(e:bY)(h:l[i]? =some e):((eB l).drop (i*2)).take 2=mU e:=mq mU 2 (fun _=>rfl) l i e h
theorem rX(l:List dR)(i:Nat)(e:dR)(h:l[i]? =some e):((mD l).drop (i*3)).take 3=fU e:=mq fU 3 (fun _=>rfl) l i e h
theorem FR{P:Program}{σ:cf}{t:bZ}{o:Oper}{p q:PV}(h:bh P σ t o p)(hl:j8 p q):bh P σ t o q:=fun F base E ρ w hρ hS hT=>by
 have:=h F base E ρ w hρ hS hT
 generalize (execOp ρ o).run P w=x at*
 cases x with
 |ok n w'=>
  cases n with
  |value v=>exact⟨this.1,hl _ _ _ this.2⟩
  |skip=>exact⟨this.1,hl _ _ _ this.2⟩
  |enter f args=>exact⟨this.1,Calls.mono this.2 (fun e w'' ⟨x,h1,h2,h3⟩=>⟨x,h1,h2,hl _ _ _ h3⟩)⟩
  |_=>exact this
 |halt x w'=>exact this
def Ba(xs ys:List PV):Prop:=xs.length=ys.length∧∀(i:Nat) x y,xs[i]? =some x→ys[i]? =some y→j8 x y
theorem Ba.nil:Ba [] []:=⟨rfl,fun i x y h=>by simp at h⟩
theorem Ba.cons{x y:PV}{xs ys:List PV}(h:j8 x y)(hs:Ba xs ys):Ba (x::xs) (y::ys):=⟨by simp[hs.1],fun j a b h1 h2=>by
 cases j with
 |zero=>simp at h1 h2;subst h1;subst h2;exact h
 |succ j=>exact hs.2 j a b (by simpa using h1) (by simpa using h2)⟩
theorem j8.ja{xs ys:List PV}(h:Ba xs ys):j8 (.agg xs) (.agg ys):=fun E w v hv=>by
 cases hv with
 |agg cs _ hl hr=>exact .agg cs ys (hl.trans h.1) (fun i c u h1 h2=>by
   have hi:i<xs.length:=by rw[h.1];exact(List.getElem?_eq_some_iff.1 h2).1
   exact h.2 i xs[i] u (by simp[hi]) h2 E w c (hr i c _ h1 (by simp[hi])))
noncomputable def nY(T:ai)(D:List Bool)(n k:Nat):List iE:=(List.range k).map fun d=>⟨bx T D n d,false,[]⟩
def cF(D:List Bool)(l:List Int):List Int:=l.filter fun a=>aL D a.toNat
noncomputable def dB(T:ai)(D:List Bool)(n:Nat):dR:=⟨n,nY T D n T.nodes.toNat,cF D (bH T n)⟩
noncomputable def jq(T:ai)(D:List Bool)(n:Int):dR:=if cw T D [n]=0 then dB T D n.toNat else⟨0,[],[]⟩
theorem vA(T:ai)(D:List Bool)(n k:Nat):nY T D n (k+1)=nY T D n k++[⟨bx T D n k,false,[]⟩]:=by simp[nY,List.range_succ]
theorem tL(T:ai)(D:List Bool)(n k:Nat):(nY T D n k).length=k:=by simp[nY]
end PW
end Go.Proofs.YtnegbdpggideiaaGreatDoor
namespace Go.Proofs.YtnegbdpggideiaaGreatDoor
namespace PW
open Go.RowKit cE Mem Net
set_option maxHeartbeats 4000000 in
theorem vD(T:ai)(D:List Bool)(n:Int)(dir:Bool):Can Tryz.prog 91 [aN T,aY D,num n,flag dir] (· =dr (cw T D [n]) (br T D n.toNat dir)):=by
  refine aG Tryz.func91 rfl Tryz.ntmps91 rfl<|ab (.a 3 rfl<|.k [1,2,3,4] rfl)<|ak<|ab (.a 2 rfl<|.c rfl (Bo T D) rfl<|.a 1 rfl<|.k [1,2,3,4,20] rfl)<|ah rfl (fun hc=>?_) (fun hc=>?_)
  · have hch:cw T D [n]=1:=by
      unfold cw
      rw[if_neg]
      revert hc
      cases(ao T&&bP T D)<;>simp
    exact ab (.a 2 rfl<|.k [8,9] rfl)<|aq<|⟨_,_,az.of rfl,aC.bz (an.cons aC.b7 (an.cons aC.pure an.nil)),by unfold dr;rw[hch];rfl⟩
  · have hok : (ao T && bP T D) = true := by revert hc; cases (ao T && bP T D) <;> simp
    refine aj<|ak ?_
    obtain⟨q1,hq1⟩:∃q,decide (n<0)=q:=⟨_,rfl⟩
    obtain⟨q2,hq2⟩:∃q,decide (T.nodes≤n)=q:=⟨_,rfl⟩
    have hnb:bn T n= !(q1||q2):=by rw[←hq1,←hq2];unfold bn;by_cases h1:n<0<;>by_cases h2:T.nodes≤n<;>simp[h1,h2]<;>omega
    refine bu 28 (.raw (.bool (q1||q2))) [1,2,3,4] rfl ?_ ?_
    · refine .a 1 rfl<|.v (cg rfl (hq1)) rfl<|.a 1 rfl<|?_
      cases q1
      · exact .a 3 rfl<|.v (cg rfl (hq2)) rfl<|.a 1 rfl<|.k [28,1,2,3,4] rfl
      · exact .a 5 rfl<|.k [28,1,2,3,4] rfl
    refine ah rfl (fun hc=>?_) (fun hc=>?_)
    · have hch:cw T D [n]=2:=by
        unfold cw
        rw[if_pos hok,if_neg]
        simp[hnb,hc]
      exact ab (.a 2 rfl<|.k [8,9] rfl)<|aq<|⟨_,_,az.of rfl,aC.bz (an.cons aC.b7 (an.cons aC.pure an.nil)),by unfold dr;rw[hch];rfl⟩
    · have hnb':bn T n=true:=by rw[hnb,hc];rfl
      have hch:cw T D [n]=0:=by
        unfold cw
        rw[if_pos hok,if_pos]
        simp[hnb']
      obtain⟨hv,hf⟩:=Bool.and_eq_true_iff.1 hok
      have hn:=aU.1 hnb'
      obtain⟨n,rfl⟩:=Int.eq_ofNat_of_zero_le hn.1
      have hS:=aK hv
      have hbd:=gm hv
      obtain⟨N,hN⟩:∃N:Nat,T.nodes=(N:Int):=⟨T.nodes.toNat,by omega⟩
      have hN64:N≤64:=by have:=hS.nodes;omega
      have hnN:n<N:=by omega
      clear hc hq1 hq2 hnb
      refine aj<|aR<|au 2 rfl<|cz (dz rfl (bL.rk.get rfl) rfl rfl hN hN ⟨by unfold maxLen;omega,by omega⟩) rfl<|au 1 rfl<|aH [1,2,3,4,10] rfl ?_
      refine ak<|ab (.a 1 rfl<|.k [1,2,3,4,10,11] rfl)<|av<|fp [1,2,3,4,10,11] rfl<|bq (fun r s=>∃k,k≤N∧r=N - k∧s=⟨[(1,aY D),(2,num n),(3,flag dir),(4,.aX (bw T) 0),(10,.own 0),(11,num k)],[some (.row 3 1 N (aP (il N k)))]⟩) N ⟨0,by omega,by omega,by have:=cN N;unfold il;simp only[List.replicate_zero,List.nil_append,Nat.sub_zero];rw[←this];rfl⟩ ?_
      rintro r s ⟨k,hk,rfl,rfl⟩
      refine ak<|ab (.a 4 rfl<|.k [1,2,3,4,10,11,35] rfl)<|ah rfl (fun hc=>?_) (fun hc=>?_)
      · have hlt:k<N:=by have:=of_decide_eq_true hc;omega
        have hil:(il N k).length=N:=by simp[il];omega
        refine aj<|ak<|av<|bI<|au 2 rfl<|bE (aM (k) rfl) rfl<|bd ((by first|exact bG rfl (bL.tk.get rfl) rfl rfl rfl (by first|omega|(simp;omega))|exact aV rfl (bL.tk.get rfl) rfl rfl rfl (by first|omega|(simp;omega)))) rfl rfl<|aH [1,2,3,4,10,11] rfl ?_
        refine eD (σ':=[some (.row 3 1 N (aP (il N (k+1))))]) (by rw[←vG N k hlt];rfl) ?_
        refine aB (.a 1 rfl<|.v (aT rfl) rfl<|.a 1 rfl<|.k [1,2,3,4,10,11] rfl) ?_
        exact⟨N - (k+1),by omega,k+1,by omega,rfl,rfl⟩
      · have hke:k=N:=by have:=of_decide_eq_false hc;omega
        subst hke
        have hil:(il k k).length=k:=by simp[il]
        refine bf<|aR<|au 2 rfl<|bE (aM (n) rfl) rfl<|bd ((by first|exact bG rfl (bL.tk.get rfl) rfl rfl rfl (by first|omega|(simp;omega))|exact aV rfl (bL.tk.get rfl) rfl rfl rfl (by first|omega|(simp;omega)))) rfl rfl<|aH [1,2,3,4,10] rfl ?_
        refine eD (σ':=[some (.row 3 1 k (aP (Net.start k n)))]) (by rw[←xx k n];rfl) ?_
        have hI0:=oy (T:=T) (D:=D) (N:=k) (n:=n) (dir:=dir) hN.symm hnN
        generalize Net.start k n=out0 at hI0
        refine ak<|ab (.a 1 rfl<|.k [1,2,3,4,10,12] rfl)<|av<|fp [1,2,3,4,10,12] rfl<|bq (fun r s=>∃(out:List Int) (b:Bool),Inv T D n dir out∧(b=false→∀a,a<2*T.ae.length→¬kH T D n dir out a)∧r=2*mu out+b.toNat∧s=⟨[(1,aY D),(2,num n),(3,flag dir),(4,.aX (bw T) 0),(10,.own 0),(12,flag b)],[some (.row 3 1 k (aP out))]⟩) (2*mu out0+1) ⟨out0,true,hI0,(fun h=>by cases h),rfl,rfl⟩ ?_
        clear hI0 out0
        rintro r s ⟨out,b,hI,hb,rfl,rfl⟩
        refine ak<|ab (.a 1 rfl<|.k [1,2,3,4,10,44] rfl)<|ah rfl (fun hc=>?_) (fun hc=>?_)
        · subst hc
          refine aj<|av<|ab (.a 1 rfl<|.k [1,2,3,4,10,12] rfl)<|ab (.a 1 rfl<|.k [1,2,3,4,10,12,13] rfl)<|av<|fp [1,2,3,4,10,12,13] rfl<|bq (fun r s=>∃(k':Nat) (out':List Int) (b':Bool),k'≤2*T.ae.length∧Inv T D n dir out'∧(b'=false→out'=out∧∀a,a<k'→¬kH T D n dir out a)∧(b'=true→mu out'<mu out)∧r=2*T.ae.length - k'∧s=⟨[(1,aY D),(2,num n),(3,flag dir),(4,.aX (bw T) 0),(10,.own 0),(12,flag b'),(13,num k')],[some (.row 3 1 k (aP out'))]⟩) (2*T.ae.length) ⟨0,out,false,by omega,hI,(fun _=>⟨rfl,fun a ha=>by omega⟩),(fun h=>by cases h),by omega,rfl⟩ ?_
          rintro r s ⟨a,out',b',ha,hI',hb',ht',rfl,rfl⟩
          refine ak<|ab (.a 4 rfl<|.v (aT rfl (hc:=rfl)) rfl<|.a 1 rfl<|.k [1,2,3,4,10,12,13,50] rfl)<|ah rfl (fun hc=>?_) (fun hc=>?_)
          · have ham:a<2*T.ae.length:=by have:=of_decide_eq_true hc;omega
            obtain⟨p,hp⟩:=Int.eq_ofNat_of_zero_le (hS.tail a ham).1
            obtain⟨q,hq⟩:=Int.eq_ofNat_of_zero_le (hS.head a ham).1
            have hpN:p<k:=by have:=(hS.tail a ham).2;omega
            have hqN:q<k:=by have:=(hS.head a ham).2;omega
            have hcb:=hS.cost a ham
            have hDl:D.length=0∨a<D.length:=by simp only[bP,decide_eq_true_eq]at hf;omega
            have hol:out'.length=k:=by have:=hI'.len;omega
            refine aj<|ak<|av<|ez mixed (by kernel_rfl) (.a 2 rfl<|.v [53,54] (dX rfl (hp▸gA T hv a ham)) rfl rfl<|.a 2 rfl<|.v [56,57] (dX rfl (hq▸kr T hv a ham)) rfl rfl<|.a 2 rfl<|.k [1,2,3,4,10,12,13,14,15] rfl) ?_
            refine ak<|ab (.a 1 rfl<|.k [1,2,3,4,10,12,13,14,15,59] rfl)<|ah rfl (fun hdir=>?_) (fun hdir=>?_)
            · obtain ⟨x, y, hx, hy, ex, ey⟩ : ∃ x y : Nat, eW T dir a = (x : Int) ∧ cJ T dir a = (y : Int) ∧ x = q ∧ y = p := ⟨q, p, by rw [hdir]; exact hq, by rw [hdir]; exact hp, rfl, rfl⟩
              subst ex
              subst ey
              refine aB (.a 4 rfl<|.k [1,2,3,4,10,12,13,14,15] rfl) ?_
              refine ak ?_
              have gx:out'.getD x 0=at' out' (x:Int):=by simp[at',List.getD_eq_getElem?_getD,show x<out'.length by omega]
              have gy:out'.getD y 0=at' out' (y:Int):=by simp[at',List.getD_eq_getElem?_getD,show y<out'.length by omega]
              have uy:=hI'.ub y (by omega) (by omega)
              have ly:=hI'.ge y (by omega)
              obtain⟨p1,hp1⟩:∃q,(!aL D a)=q:=⟨_,rfl⟩
              obtain⟨p2,hp2⟩:∃q,decide (out'.getD y 0<0)=q:=⟨_,rfl⟩
              obtain⟨p3,hp3⟩:∃q,(decide (y=n)|| !cR T y)=q:=⟨_,rfl⟩
              refine bu 79 (.raw (.bool (((!p1)||p2)||(!p3)))) [1,2,3,4,10,12,13,14,15] rfl ?_ ?_
              · refine .a 2 rfl<|.c rfl (hp1▸tS D a hDl) rfl<|.a 2 rfl<|?_
                cases p1
                · exact .a 13 rfl<|.k [79,1,2,3,4,10,12,13,14,15] rfl
                · refine .a 2 rfl<|.v (aM (y) rfl) rfl<|.v (aO rfl (aA out' y (by omega))) rfl<|.v (cg rfl (hp2)) rfl<|.a 2 rfl<|?_
                  cases p2
                  · exact .a 3 rfl<|.c rfl (hp3▸km T hv y n) rfl<|.a 2 rfl<|.k [79,1,2,3,4,10,12,13,14,15] rfl
                  · exact .a 6 rfl<|.k [79,1,2,3,4,10,12,13,14,15] rfl
              refine ah rfl (fun hc=>?_) (fun hc=>?_)
              · have hng:¬kH T D n dir out' a:=fun hg=>by
                  obtain⟨⟨w1,w2,w3⟩,_⟩:=hg
                  rw[hy]at w2 w3
                  have e1:p1=true:=by rw[←hp1,w1];rfl
                  have e2:p2=false:=by rw[←hp2,gy];simp;omega
                  have e3:p3=true:=by
                    rw[←hp3]
                    rcases w3 with w3|w3
                    · have:y=n:=by omega
                      simp[this]
                    · rw[Int.toNat_natCast]at w3;simp[w3]
                  rw[e1,e2,e3]at hc
                  cases hc
                refine bf<|aB (.a 1 rfl<|.v (aT rfl) rfl<|.a 1 rfl<|.k [1,2,3,4,10,12,13] rfl) ?_
                first
                  |exact⟨2*T.ae.length - (a+1),by omega,a+1,_,true,by omega,hIg,fun h=>(by cases h),fun _=>(by by_cases e:b'=true;(have:=ht' e;omega);(have:=(hb' (by cases b';rfl;exact absurd rfl e)).1;rw[this]at hmg;rw[this];exact hmg)),rfl,rfl⟩
                  |exact⟨2*T.ae.length - (a+1),by omega,a+1,out',b',by omega,hI',fun h=>⟨(hb' h).1,fun c hc'=>by by_cases e:c=a;(rw[e,←(hb' h).1];exact hng);exact(hb' h).2 c (by omega)⟩,ht',rfl,rfl⟩
              · have hway:Net.Way T D n dir out' a:=by
                  obtain⟨c1,c3⟩:=Bool.or_eq_false_iff.1 hc
                  obtain⟨c1,c2⟩:=Bool.or_eq_false_iff.1 c1
                  have e1:p1=true:=by cases p1;cases c1;rfl
                  have e3:p3=true:=by cases p3;cases c3;rfl
                  rw[e1]at hp1
                  rw[c2]at hp2
                  rw[e3]at hp3
                  refine⟨by revert hp1;cases aL D a<;>simp,?_,?_⟩
                  · rw[hy,←gy];have:=of_decide_eq_false hp2;omega
                  · rw[hy,Int.toNat_natCast]
                    rcases Bool.or_eq_true_iff.1 hp3 with h|h
                    · exact .inl (by have:=of_decide_eq_true h;omega)
                    · exact .inr (by revert h;cases cR T y<;>simp)
                have wy:=hway.2.1
                rw[hy]at wy
                refine aj<|ez mixed (by kernel_rfl) (.a 2 rfl<|.v [80,81] (aM (y) rfl) rfl rfl<|.v [82] (aO rfl ((aA out' y (by omega)).trans (by rw[gy]))) rfl rfl<|.a 2 rfl<|.v [84,85] (dX rfl (mZ T hv a ham)) rfl rfl<|.v [83,86] (aT rfl) rfl rfl<|.a 1 rfl<|.k [1,2,3,4,10,12,13,14,16] rfl) ?_
                obtain⟨p4,hp4⟩:∃q,decide (at' out' (x:Int)<0)=q:=⟨_,rfl⟩
                obtain⟨p5,hp5⟩:∃q,decide (at' out' (y:Int)+cb T a<at' out' (x:Int))=q:=⟨_,rfl⟩
                refine bu 100 (.raw (.bool (p4||p5))) [1,2,3,4,10,12,13,14,16] rfl ?_ ?_
                · refine .a 2 rfl<|.v (aM (x) rfl) rfl<|.v (aO rfl ((aA out' x (by omega)).trans (by rw[gx]))) rfl<|.v (cg rfl (hp4)) rfl<|.a 1 rfl<|?_
                  cases p4
                  · exact .a 3 rfl<|.v (aM (x) rfl) rfl<|.v (aO rfl ((aA out' x (by omega)).trans (by rw[gx]))) rfl<|.v (cg rfl (hp5)) rfl<|.a 1 rfl<|.k [100,1,2,3,4,10,12,13,14,16] rfl
                  · exact .a 7 rfl<|.k [100,1,2,3,4,10,12,13,14,16] rfl
                refine ah rfl (fun hc=>?_) (fun hc=>?_)
                · have hg:kH T D n dir out' a:=⟨hway,by
                    rw[hx,hy]
                    rcases Bool.or_eq_true_iff.1 hc with h|h
                    · rw[h]at hp4;exact .inl (of_decide_eq_true hp4)
                    · rw[h]at hp5;exact .inr (of_decide_eq_true hp5)⟩
                  obtain⟨hIg,hmg⟩:=qV hS hI' a ham hg
                  have hge:xh T dir out' a=out'.set x (at' out' (y:Int)+cb T a):=by unfold xh;rw[hx,hy,Int.toNat_natCast]
                  rw[hge]at hIg hmg
                  refine aR<|au 3 rfl<|bE (aM (x) rfl) rfl<|bd ((by first|exact bG rfl (bL.tk.get rfl) rfl rfl rfl (by first|omega|(simp;omega))|exact aV rfl (bL.tk.get rfl) rfl rfl rfl (by first|omega|(simp;omega)))) rfl rfl<|aH [1,2,3,4,10,13] rfl ?_
                  refine aB (.a 1 rfl<|.k [1,2,3,4,10,12,13] rfl) ?_
                  refine aB (.a 1 rfl<|.v (aT rfl) rfl<|.a 1 rfl<|.k [1,2,3,4,10,12,13] rfl) ?_
                  first
                    |exact⟨2*T.ae.length - (a+1),by omega,a+1,_,true,by omega,hIg,fun h=>(by cases h),fun _=>(by by_cases e:b'=true;(have:=ht' e;omega);(have:=(hb' (by cases b';rfl;exact absurd rfl e)).1;rw[this]at hmg;rw[this];exact hmg)),rfl,rfl⟩
                    |exact⟨2*T.ae.length - (a+1),by omega,a+1,out',b',by omega,hI',fun h=>⟨(hb' h).1,fun c hc'=>by by_cases e:c=a;(rw[e,←(hb' h).1];exact hng);exact(hb' h).2 c (by omega)⟩,ht',rfl,rfl⟩
                · have hng:¬kH T D n dir out' a:=fun hg=>by
                    obtain⟨_,hg⟩:=hg
                    rw[hx,hy]at hg
                    obtain⟨c1,c2⟩:=Bool.or_eq_false_iff.1 hc
                    rw[c1]at hp4
                    rw[c2]at hp5
                    rcases hg with h|h
                    · exact of_decide_eq_false hp4 h
                    · exact of_decide_eq_false hp5 h
                  refine aj<|aB (.a 1 rfl<|.v (aT rfl) rfl<|.a 1 rfl<|.k [1,2,3,4,10,12,13] rfl) ?_
                  first
                    |exact⟨2*T.ae.length - (a+1),by omega,a+1,_,true,by omega,hIg,fun h=>(by cases h),fun _=>(by by_cases e:b'=true;(have:=ht' e;omega);(have:=(hb' (by cases b';rfl;exact absurd rfl e)).1;rw[this]at hmg;rw[this];exact hmg)),rfl,rfl⟩
                    |exact⟨2*T.ae.length - (a+1),by omega,a+1,out',b',by omega,hI',fun h=>⟨(hb' h).1,fun c hc'=>by by_cases e:c=a;(rw[e,←(hb' h).1];exact hng);exact(hb' h).2 c (by omega)⟩,ht',rfl,rfl⟩
            · obtain ⟨x, y, hx, hy, ex, ey⟩ : ∃ x y : Nat, eW T dir a = (x : Int) ∧ cJ T dir a = (y : Int) ∧ x = p ∧ y = q := ⟨p, q, by rw [hdir]; exact hp, by rw [hdir]; exact hq, rfl, rfl⟩
              subst ex
              subst ey
              refine aj<|ak ?_
              have gx:out'.getD x 0=at' out' (x:Int):=by simp[at',List.getD_eq_getElem?_getD,show x<out'.length by omega]
              have gy:out'.getD y 0=at' out' (y:Int):=by simp[at',List.getD_eq_getElem?_getD,show y<out'.length by omega]
              have uy:=hI'.ub y (by omega) (by omega)
              have ly:=hI'.ge y (by omega)
              obtain⟨p1,hp1⟩:∃q,(!aL D a)=q:=⟨_,rfl⟩
              obtain⟨p2,hp2⟩:∃q,decide (out'.getD y 0<0)=q:=⟨_,rfl⟩
              obtain⟨p3,hp3⟩:∃q,(decide (y=n)|| !cR T y)=q:=⟨_,rfl⟩
              refine bu 79 (.raw (.bool (((!p1)||p2)||(!p3)))) [1,2,3,4,10,12,13,14,15] rfl ?_ ?_
              · refine .a 2 rfl<|.c rfl (hp1▸tS D a hDl) rfl<|.a 2 rfl<|?_
                cases p1
                · exact .a 13 rfl<|.k [79,1,2,3,4,10,12,13,14,15] rfl
                · refine .a 2 rfl<|.v (aM (y) rfl) rfl<|.v (aO rfl (aA out' y (by omega))) rfl<|.v (cg rfl (hp2)) rfl<|.a 2 rfl<|?_
                  cases p2
                  · exact .a 3 rfl<|.c rfl (hp3▸km T hv y n) rfl<|.a 2 rfl<|.k [79,1,2,3,4,10,12,13,14,15] rfl
                  · exact .a 6 rfl<|.k [79,1,2,3,4,10,12,13,14,15] rfl
              refine ah rfl (fun hc=>?_) (fun hc=>?_)
              · have hng:¬kH T D n dir out' a:=fun hg=>by
                  obtain⟨⟨w1,w2,w3⟩,_⟩:=hg
                  rw[hy]at w2 w3
                  have e1:p1=true:=by rw[←hp1,w1];rfl
                  have e2:p2=false:=by rw[←hp2,gy];simp;omega
                  have e3:p3=true:=by
                    rw[←hp3]
                    rcases w3 with w3|w3
                    · have:y=n:=by omega
                      simp[this]
                    · rw[Int.toNat_natCast]at w3;simp[w3]
                  rw[e1,e2,e3]at hc
                  cases hc
                refine bf<|aB (.a 1 rfl<|.v (aT rfl) rfl<|.a 1 rfl<|.k [1,2,3,4,10,12,13] rfl) ?_
                first
                  |exact⟨2*T.ae.length - (a+1),by omega,a+1,_,true,by omega,hIg,fun h=>(by cases h),fun _=>(by by_cases e:b'=true;(have:=ht' e;omega);(have:=(hb' (by cases b';rfl;exact absurd rfl e)).1;rw[this]at hmg;rw[this];exact hmg)),rfl,rfl⟩
                  |exact⟨2*T.ae.length - (a+1),by omega,a+1,out',b',by omega,hI',fun h=>⟨(hb' h).1,fun c hc'=>by by_cases e:c=a;(rw[e,←(hb' h).1];exact hng);exact(hb' h).2 c (by omega)⟩,ht',rfl,rfl⟩
              · have hway:Net.Way T D n dir out' a:=by
                  obtain⟨c1,c3⟩:=Bool.or_eq_false_iff.1 hc
                  obtain⟨c1,c2⟩:=Bool.or_eq_false_iff.1 c1
                  have e1:p1=true:=by cases p1;cases c1;rfl
                  have e3:p3=true:=by cases p3;cases c3;rfl
                  rw[e1]at hp1
                  rw[c2]at hp2
                  rw[e3]at hp3
                  refine⟨by revert hp1;cases aL D a<;>simp,?_,?_⟩
                  · rw[hy,←gy];have:=of_decide_eq_false hp2;omega
                  · rw[hy,Int.toNat_natCast]
                    rcases Bool.or_eq_true_iff.1 hp3 with h|h
                    · exact .inl (by have:=of_decide_eq_true h;omega)
                    · exact .inr (by revert h;cases cR T y<;>simp)
                have wy:=hway.2.1
                rw[hy]at wy
                refine aj<|ez mixed (by kernel_rfl) (.a 2 rfl<|.v [80,81] (aM (y) rfl) rfl rfl<|.v [82] (aO rfl ((aA out' y (by omega)).trans (by rw[gy]))) rfl rfl<|.a 2 rfl<|.v [84,85] (dX rfl (mZ T hv a ham)) rfl rfl<|.v [83,86] (aT rfl) rfl rfl<|.a 1 rfl<|.k [1,2,3,4,10,12,13,14,16] rfl) ?_
                obtain⟨p4,hp4⟩:∃q,decide (at' out' (x:Int)<0)=q:=⟨_,rfl⟩
                obtain⟨p5,hp5⟩:∃q,decide (at' out' (y:Int)+cb T a<at' out' (x:Int))=q:=⟨_,rfl⟩
                refine bu 100 (.raw (.bool (p4||p5))) [1,2,3,4,10,12,13,14,16] rfl ?_ ?_
                · refine .a 2 rfl<|.v (aM (x) rfl) rfl<|.v (aO rfl ((aA out' x (by omega)).trans (by rw[gx]))) rfl<|.v (cg rfl (hp4)) rfl<|.a 1 rfl<|?_
                  cases p4
                  · exact .a 3 rfl<|.v (aM (x) rfl) rfl<|.v (aO rfl ((aA out' x (by omega)).trans (by rw[gx]))) rfl<|.v (cg rfl (hp5)) rfl<|.a 1 rfl<|.k [100,1,2,3,4,10,12,13,14,16] rfl
                  · exact .a 7 rfl<|.k [100,1,2,3,4,10,12,13,14,16] rfl
                refine ah rfl (fun hc=>?_) (fun hc=>?_)
                · have hg:kH T D n dir out' a:=⟨hway,by
                    rw[hx,hy]
                    rcases Bool.or_eq_true_iff.1 hc with h|h
                    · rw[h]at hp4;exact .inl (of_decide_eq_true hp4)
                    · rw[h]at hp5;exact .inr (of_decide_eq_true hp5)⟩
                  obtain⟨hIg,hmg⟩:=qV hS hI' a ham hg
                  have hge:xh T dir out' a=out'.set x (at' out' (y:Int)+cb T a):=by unfold xh;rw[hx,hy,Int.toNat_natCast]
                  rw[hge]at hIg hmg
                  refine aR<|au 3 rfl<|bE (aM (x) rfl) rfl<|bd ((by first|exact bG rfl (bL.tk.get rfl) rfl rfl rfl (by first|omega|(simp;omega))|exact aV rfl (bL.tk.get rfl) rfl rfl rfl (by first|omega|(simp;omega)))) rfl rfl<|aH [1,2,3,4,10,13] rfl ?_
                  refine aB (.a 1 rfl<|.k [1,2,3,4,10,12,13] rfl) ?_
                  refine aB (.a 1 rfl<|.v (aT rfl) rfl<|.a 1 rfl<|.k [1,2,3,4,10,12,13] rfl) ?_
                  first
                    |exact⟨2*T.ae.length - (a+1),by omega,a+1,_,true,by omega,hIg,fun h=>(by cases h),fun _=>(by by_cases e:b'=true;(have:=ht' e;omega);(have:=(hb' (by cases b';rfl;exact absurd rfl e)).1;rw[this]at hmg;rw[this];exact hmg)),rfl,rfl⟩
                    |exact⟨2*T.ae.length - (a+1),by omega,a+1,out',b',by omega,hI',fun h=>⟨(hb' h).1,fun c hc'=>by by_cases e:c=a;(rw[e,←(hb' h).1];exact hng);exact(hb' h).2 c (by omega)⟩,ht',rfl,rfl⟩
                · have hng:¬kH T D n dir out' a:=fun hg=>by
                    obtain⟨_,hg⟩:=hg
                    rw[hx,hy]at hg
                    obtain⟨c1,c2⟩:=Bool.or_eq_false_iff.1 hc
                    rw[c1]at hp4
                    rw[c2]at hp5
                    rcases hg with h|h
                    · exact of_decide_eq_false hp4 h
                    · exact of_decide_eq_false hp5 h
                  refine aj<|aB (.a 1 rfl<|.v (aT rfl) rfl<|.a 1 rfl<|.k [1,2,3,4,10,12,13] rfl) ?_
                  first
                    |exact⟨2*T.ae.length - (a+1),by omega,a+1,_,true,by omega,hIg,fun h=>(by cases h),fun _=>(by by_cases e:b'=true;(have:=ht' e;omega);(have:=(hb' (by cases b';rfl;exact absurd rfl e)).1;rw[this]at hmg;rw[this];exact hmg)),rfl,rfl⟩
                    |exact⟨2*T.ae.length - (a+1),by omega,a+1,out',b',by omega,hI',fun h=>⟨(hb' h).1,fun c hc'=>by by_cases e:c=a;(rw[e,←(hb' h).1];exact hng);exact(hb' h).2 c (by omega)⟩,ht',rfl,rfl⟩
          · have hae:a=2*T.ae.length:=by have:=of_decide_eq_false hc;omega
            refine kG (.cons (k:=1) rfl<|.cons (k:=2) rfl<|.cons (k:=3) rfl<|.cons (k:=4) rfl<|.cons (k:=10) rfl<|.cons (k:=12) rfl<|Sub.nil _) ?_
            refine bf<|⟨_,?_,out',b',hI',fun h=>?_,rfl,rfl⟩
            · cases b'
              · rw[(hb' rfl).1];simp
              · have:=ht' rfl;simp;omega
            · rw[(hb' h).1];intro c hc';exact(hb' h).2 c (by omega)
        · have hdist:br T D n dir=out:=jN hS (vm hI (hb hc))
          refine bf<|ab (.a 3 rfl<|.k [8,9] rfl)<|aq<|⟨_,_,az.of rfl,aC.bz (an.cons (aC.fu rfl an.pure) (an.cons aC.pure an.nil)),?_⟩
          unfold dr
          rw[hch,if_pos rfl,Int.toNat_natCast,hdist]
          unfold aw
          rw[show out.length=k by have:=hI.len;omega]
theorem oD(T:ai)(D:List Bool)(d:Int):Can Tryz.prog 36 [aN T,aY D,num d] (· =dr (cw T D [d]) (br T D d.toNat false)):=by
 exact aG Tryz.func36 rfl Tryz.ntmps36 rfl<|ab (.a 3 rfl<|.k [1,2,3] rfl)<|ab (.a 3 rfl<|.c rfl (vD T D d false) rfl<|.a 4 rfl<|.k [6,7] rfl)<|aq<|⟨_,_,az.of rfl,aC.pure,rfl⟩
end PW
end Go.Proofs.YtnegbdpggideiaaGreatDoor
