/- Texts of the proof, part 6. -/
import Derived.Test.YtnegbdpggideiaaGreatDoorCardMRB5
set_option linter.unusedVariables false
set_option linter.unusedSimpArgs false
set_option maxRecDepth 10000
set_option maxHeartbeats 1000000
namespace Go.Proofs.YtnegbdpggideiaaGreatDoor
namespace Net
def nf:List Int→Nat
 | []=>0
 |v::l=>(if 0≤v then 1 else 0)+nf l
theorem pA(l:List Int):nf l≤l.length:=by
 induction l with
 |nil=>exact Nat.le_refl _
 |cons v l ih=>simp only[nf,List.length_cons];split<;>omega
theorem qx:∀(l:List Int) (i:Nat) (c:Int),i<l.length→0≤c→nf (l.set i c)=nf l+(if 0≤l.getD i (-1) then 0 else 1)
 | [],i,c,h,_=>by simp at h
 |v::l,0,c,_,hc=>by
  simp only[List.set_cons_zero,nf,List.getD_cons_zero]
  rw[if_pos hc]
  by_cases h:0≤v
  ·rw[if_pos h,if_pos h];omega
  ·rw[if_neg h,if_neg h];omega
 |v::l,i+1,c,h,hc=>by
  simp only[List.set_cons_succ,nf,List.getD_cons_succ]
  rw[qx l i c (by simpa using h) hc]
  omega
def Je(v:Int):Nat:=if v<0 then 4194241 else v.toNat
def mu:List Int→Nat
 | []=>0
 |v::l=>Je v+mu l
theorem DV:∀(l:List Int) (i:Nat) (c:Int),i<l.length→mu (l.set i c)+Je (l.getD i (-1))=mu l+Je c
 | [],i,c,h=>by simp at h
 |v::l,0,c,_=>by simp only[List.set_cons_zero,mu,List.getD_cons_zero];omega
 |v::l,i+1,c,h=>by
  have:=DV l i c (by simpa using h)
  simp only[List.set_cons_succ,mu,List.getD_cons_succ]
  omega
structure Inv (T:an) (D:List Bool) (n:Nat) (dir:Bool) (out:List Int):Prop where
 len:(out.length:Int)=T.nodes
 root:at' out (n:Int)=0
 ge:∀x:Nat,(x:Int)<T.nodes→ -1≤at' out (x:Int)
 JX:∀x:Nat,(x:Int)<T.nodes→at' out (x:Int)≤65535*(nf out:Int)
 nj:∀x:Nat,(x:Int)<T.nodes→0≤at' out (x:Int)→x=n∨∃a,a<2*T.ae.length∧fv T dir a=(x:Int)∧Way T D n dir out a∧at' out (cR T dir a)+cb T a≤at' out (x:Int)
def lh(T:an)(D:List Bool)(n:Nat)(dir:Bool)(out:List Int)(a:Nat):Prop:=
 Way T D n dir out a∧(at' out (fv T dir a)<0∨at' out (cR T dir a)+cb T a<at' out (fv T dir a))
def zA(T:an)(dir:Bool)(out:List Int)(a:Nat):List Int:=out.set (fv T dir a).toNat (at' out (cR T dir a)+cb T a)
theorem Ab(out:List Int)(x y:Nat)(c:Int)(hx:x<out.length):at' (out.set x c) (y:Int)=if y=x then c else at' out (y:Int):=by
 simp only[at',Int.toNat_natCast,List.getD_eq_getElem?_getD,List.getElem?_set]
 by_cases h:x=y
 ·subst h;simp[hx]
 ·rw[if_neg h,if_neg (Ne.symm h)]
theorem sv{T:an}(hT:Sound T){D:List Bool}{n:Nat}{dir:Bool}{out:List Int}(h:Inv T D n dir out)(a:Nat)(ha:a<2*T.ae.length)(hg:lh T D n dir out a):
  Inv T D n dir (zA T dir out a)∧mu (zA T dir out a)<mu out:=by
 obtain⟨⟨w1,w2,w3⟩,hb⟩:=hg
 have hc:=hT.cost a ha
 obtain⟨x,hx⟩:=Int.eq_ofNat_of_zero_le (hT.x dir a ha).1
 obtain⟨y,hy⟩:=Int.eq_ofNat_of_zero_le (hT.y dir a ha).1
 have hxn:=(hT.x dir a ha).2
 have hyn:=(hT.y dir a ha).2
 unfold zA
 rw[hx,hy,Int.toNat_natCast]
 rw[hx,hy]at hb
 rw[hy]at w2 w3
 rw[hx]at hxn
 rw[hy]at hyn
 have hlen:=h.len
 have hxl:x<out.length:=by omega
 generalize hcc:at' out (y:Int)+cb T a=c at*
 have hby:=h.JX y hyn
 have hxr:x≠n:=fun e=>by
  rw[e,h.root]at hb
  omega
 have hcs:=qx out x c hxl (by omega)
 have hgx:out.getD x (-1)=at' out (x:Int):=by simp[at']
 rw[hgx]at hcs
 have at1:=fun z=>Ab out x z c hxl
 have reach:∀z:Nat,(z:Int)<T.nodes→0≤at' out (z:Int)→0≤at' (out.set x c) (z:Int):=fun z _ hz=>by
  rw[at1 z];split<;>omega
 have less:∀z:Nat,(z:Int)<T.nodes→0≤at' out (z:Int)→at' (out.set x c) (z:Int)≤at' out (z:Int):=fun z _ hz=>by
  rw[at1 z]
  split
  ·rename_i e;subst e;omega
  ·omega
 have JF:∀b,b<2*T.ae.length→Way T D n dir out b→Way T D n dir (out.set x c) b:=fun b hbl ⟨v1,v2,v3⟩=>by
  obtain⟨z,hz⟩:=Int.eq_ofNat_of_zero_le (hT.y dir b hbl).1
  have hzn:=(hT.y dir b hbl).2
  refine⟨v1,?_,v3⟩
  rw[hz]at v2 hzn ⊢
  exact reach z hzn v2
 refine⟨⟨by rw[List.length_set];exact hlen,?_,fun z hz=>?_,fun z hz=>?_,fun z hz h0=>?_⟩,?_⟩
 ·rw[at1 n,if_neg (Ne.symm hxr)];exact h.root
 ·rw[at1 z];split
  ·omega
  ·exact h.ge z hz
 ·rw[at1 z]
  have hbz:=h.JX z hz
  have:(nf out:Int)≤(nf (out.set x c):Int):=by rw[hcs];split<;>omega
  split
  ·rw[hcs]
   rename_i e
   subst e
   by_cases hr:0≤at' out (z:Int)
   ·rw[if_pos hr];omega
   ·rw[if_neg hr];omega
  ·omega
 ·by_cases e:z=x
  ·subst e
   refine .inr ⟨a,ha,hx,JF a ha ⟨w1,by rw[hy];exact w2,by rw[hy];exact w3⟩,?_⟩
   rw[hy,at1 z,if_pos rfl]
   have:=less y hyn w2
   omega
  ·rw[at1 z,if_neg e]at h0
   rcases h.nj z hz h0 with e2|⟨b,hbl,hbx,hbw,hbe⟩
   ·exact .inl e2
   ·refine .inr ⟨b,hbl,hbx,JF b hbl hbw,?_⟩
    rw[at1 z,if_neg e]
    obtain⟨u,hu⟩:=Int.eq_ofNat_of_zero_le (hT.y dir b hbl).1
    have hun:=(hT.y dir b hbl).2
    have hw2:=hbw.2.1
    rw[hu]at hun hbe hw2 ⊢
    have:=less u hun hw2
    omega
 ·have hm:=DV out x c hxl
  rw[hgx]at hm
  have hcl:=pA out
  have hnn:=hT.nodes
  have hcb:c≤4194240:=by
   rcases hb with hb|hb
   ·have hlt:nf out<out.length:=by
     have:=pA (out.set x c)
     rw[List.length_set,hcs,if_neg (by omega)]at this
     omega
    omega
   ·have:=h.JX x hxn;omega
  have hw1:Je c=c.toNat:=by unfold Je;rw[if_neg (by omega)]
  have hw2:Je (at' out (x:Int))=if at' out (x:Int)<0 then 4194241 else(at' out (x:Int)).toNat:=rfl
  rw[hw1,hw2]at hm
  rcases hb with hb|hb
  ·rw[if_pos hb]at hm;omega
  ·by_cases hr:at' out (x:Int)<0
   ·rw[if_pos hr]at hm;omega
   ·rw[if_neg hr]at hm;omega
theorem v7{T:an}{D:List Bool}{n:Nat}{dir:Bool}{out:List Int}(h:Inv T D n dir out)(hn:∀a,a<2*T.ae.length→¬lh T D n dir out a):iD T D n dir out:=by
 have closed:∀a,a<2*T.ae.length→Way T D n dir out a→0≤at' out (fv T dir a)∧at' out (fv T dir a)≤at' out (cR T dir a)+cb T a:=fun a ha hw=>by
  have:=hn a ha
  unfold lh at this
  have h2:¬(at' out (fv T dir a)<0∨at' out (cR T dir a)+cb T a<at' out (fv T dir a)):=fun e=>this ⟨hw,e⟩
  omega
 refine⟨h.len,h.root,h.ge,closed,fun x hx h0=>?_⟩
 rcases h.nj x hx h0 with e|⟨a,ha,hax,hw,he⟩
 ·exact .inl e
 ·refine .inr ⟨a,ha,hax,hw,?_⟩
  have:=closed a ha hw
  rw[hax]at this
  omega
def start(N n:Nat):List Int:=(List.replicate N (-1)).set n 0
theorem nV(N n:Nat)(hn:n<N)(x:Nat)(hx:x<N):at' (start N n) (x:Int)=if x=n then 0 else -1:=by
 unfold start
 rw[Ab _ n x 0 (by simpa using hn)]
 split
 ·rfl
 ·simp[at',hx]
theorem oU{T:an}{D:List Bool}{N n:Nat}{dir:Bool}(hN:(N:Int)=T.nodes)(hn:n<N):Inv T D n dir (start N n):=by
 have hc:1≤nf (start N n):=by
  unfold start
  rw[qx _ n 0 (by simpa using hn) (by omega)]
  have:(List.replicate N (-1:Int)).getD n (-1)= -1:=by simp[hn]
  rw[this]
  simp
 refine⟨by simp[start];exact hN,by rw[nV N n hn n hn,if_pos rfl],fun x hx=>?_,fun x hx=>?_,fun x hx h0=>?_⟩
 ·rw[nV N n hn x (by omega)];split<;>omega
 ·rw[nV N n hn x (by omega)];split<;>omega
 ·rw[nV N n hn x (by omega)]at h0
  by_cases e:x=n
  ·exact .inl e
  ·rw[if_neg e]at h0;omega
theorem lB{T:an}(hT:Sound T){D:List Bool}{n:Nat}{dir:Bool}:∀(k:Nat) (out:List Int),mu out=k→Inv T D n dir out→∃out',iD T D n dir out'∧Inv T D n dir out':=by
 intro k
 induction k using Nat.strongRecOn with
 |_ k ih=>
  intro out hk hi
  by_cases h:∃a,a<2*T.ae.length∧lh T D n dir out a
  ·obtain⟨a,ha,hg⟩:=h
   obtain⟨h1,h2⟩:=sv hT hi a ha hg
   exact ih _ (by omega) _ rfl h1
  ·exact⟨out,v7 hi fun a ha hg=>h ⟨a,ha,hg⟩,hi⟩
theorem jj{T:an}(hT:Sound T)(D:List Bool){n:Nat}(dir:Bool)(hn:(n:Int)<T.nodes):iD T D n dir (bn T D n dir):=by
 obtain⟨N,hN⟩:=Int.eq_ofNat_of_zero_le (by have:=hT.nodes.1;omega:0≤T.nodes)
 obtain⟨out,ho,_⟩:=lB hT _ (start N n) rfl (oU (D:=D) (dir:=dir) hN.symm (by omega))
 rw[kr hT ho]
 exact ho
theorem CN{T:an}(hT:Sound T)(D:List Bool){n:Nat}(dir:Bool)(hn:(n:Int)<T.nodes):Inv T D n dir (bn T D n dir):=by
 obtain⟨N,hN⟩:=Int.eq_ofNat_of_zero_le (by have:=hT.nodes.1;omega:0≤T.nodes)
 obtain⟨out,ho,hi⟩:=lB hT _ (start N n) rfl (oU (D:=D) (dir:=dir) hN.symm (by omega))
 rw[kr hT ho]
 exact hi
end Net
end Go.Proofs.YtnegbdpggideiaaGreatDoor
namespace Go.Proofs.YtnegbdpggideiaaGreatDoor
namespace Net
theorem aM{T:an}(h:ao T=true):Sound T:=by
 have hb:=gH h
 have lk:∀i,i<T.ae.length→(0≤(cB T.ae i).a∧(cB T.ae i).a<T.nodes)∧(0≤(cB T.ae i).b∧(cB T.ae i).b<T.nodes)∧(1≤(cB T.ae i).c0∧(cB T.ae i).c0≤65535)∧(1≤(cB T.ae i).c1∧(cB T.ae i).c1≤65535):=fun i hi=>by
  have:=rE h i hi
  simp only[iL,bd,bU,Bool.and_eq_true,decide_eq_true_eq]at this
  obtain⟨⟨⟨⟨⟨⟨⟨_,h1⟩,h2⟩,h3⟩,h4⟩,_⟩,_⟩,_⟩:=this
  exact⟨h1,h2,h3,h4⟩
 have fl:∀a,a<2*T.ae.length→flip a<2*T.ae.length:=fun a ha=>by unfold flip;split<;>omega
 have tl:∀a,a<2*T.ae.length→0≤aZ T a∧aZ T a<T.nodes:=fun a ha=>by
  have:=lk (a / 2) (by omega)
  unfold aZ;split
  ·exact this.1
  ·exact this.2.1
 refine⟨fun a ha=>?_,tl,fun a ha=>tl _ (fl a ha),⟨hb.1,hb.2.1⟩⟩
 have:=lk (a / 2) (by omega)
 unfold cb;split
 ·exact this.2.2.1
 ·exact this.2.2.2
def iG(N k:Nat):List Int:=List.replicate k (-1)++List.replicate (N - k) 0
theorem wz(N k:Nat)(h:k<N):(iG N k).set k (-1)=iG N (k+1):=by
 unfold iG
 rw[List.set_append_right _ _ (by simp)]
 rw[List.length_replicate,Nat.sub_self,show N - k=(N - (k+1))+1 by omega,List.replicate_succ,List.set_cons_zero,List.replicate_succ',List.append_assoc]
 rfl
theorem zv(N n:Nat):(iG N N).set n 0=start N n:=by simp[iG,start]
theorem Inv.ub{T:an}{D:List Bool}{n:Nat}{dir:Bool}{out:List Int}(h:Inv T D n dir out)(x:Nat)(hx:(x:Int)<T.nodes)(hN:T.nodes≤64):at' out (x:Int)≤4194240:=by
 have h1:=h.JX x hx
 have h2:=pA out
 have h3:=h.len
 omega
end Net
end Go.Proofs.YtnegbdpggideiaaGreatDoor
namespace Go.Proofs.YtnegbdpggideiaaGreatDoor
namespace PW
open Go.RowKit cH Mem Net
theorem vi(T:an)(hv:ao T=true):Can Tryz.prog 174 [aN T] (· =jt (du (aW T) T.nodes.toNat (2*T.ae.length))):=by
 have hbd:=gH hv
 have hS:=aM hv
 obtain⟨n,hn⟩:∃n:Nat,T.nodes=(n:Int):=⟨T.nodes.toNat,by omega⟩
 rw[show T.nodes.toNat=n by omega]
 refine aE Tryz.func174 rfl Tryz.ntmps174 rfl<|ab (.a 2 rfl<|.k [1] rfl)<|aP<|av 2 rfl<|cp (dF rfl (bI.rk.get rfl) rfl rfl hn hn ⟨by unfold maxLen;omega,by omega⟩) rfl<|av 1 rfl<|aG [1,3] rfl ?_
 refine pU 37 3 n ?_
 refine ah<|ab (.a 1 rfl<|.c rfl (ik T (by omega)) rfl<|.a 1 rfl<|.k [1,3,10,11] rfl)<|au<|eu [1,3,10,11] rfl<|bf (fun r s=>∃k,k≤2*T.ae.length∧r=2*T.ae.length - k∧s=⟨[(1,.aY (bq T) 0),(3,.own 0),(10,num (2*(T.ae.length:Int))),(11,num k)],lq 37 3 (du (aW T) n k)⟩) (2*T.ae.length) ⟨0,by omega,by omega,by rw[rG];rfl⟩ ?_
 rintro r s ⟨k,hk,rfl,rfl⟩
 refine ab (.a 1 rfl<|.k [1,3,10,11,12] rfl)<|ah<|ag rfl (fun hc=>?_) (fun hc=>?_)
 ·have hlt:k<2*T.ae.length:=by have:=of_decide_eq_true hc;omega
  obtain⟨hd0,hhN⟩:=hS.head k hlt
  obtain⟨m,hm⟩:=Int.eq_ofNat_of_zero_le hd0
  have hmn:m<n:=by omega
  have hrl:=eY (aW T) n k
  have hgl:((du (aW T) n k).getD m []).length≤k:=by
   rw[jc _ _ _ _ hmn]
   simp only[List.length_map]
   exact Nat.le_trans (List.length_filter_le _ _) (by simp)
  refine ai<|ah<|au<|ab (.a 2 rfl<|.k [1,3,4,10,11] rfl)<|ab (.a 2 rfl<|.c rfl (hm▸fQ T k hlt (by omega)) rfl<|.a 1 rfl<|.k [1,3,4,5,10,11] rfl)<|bF<|av 4 rfl<|bC (aJ (m) rfl) rfl<|bC (aL rfl (me _ m (by omega))) rfl<|av 2 rfl<|cp (bA rfl (bI.rk.get rfl) rfl (mc _ _ _ m (by omega)) rfl rfl ⟨by unfold maxLen;omega,by omega⟩) rfl<|bC (aJ (m) rfl) rfl<|bg (cK rfl (bI.tk.get rfl) rfl rfl rfl (by show m<(fP _).length;simp[fP];omega)) rfl rfl<|aG [1,3,10,11] rfl ?_
  refine dx (FD (du (aW T) n k).length m) (.cons 1 rfl Ren.pure<|.cons 3 rfl (Ren.own (i:=0) rfl)<|.cons 10 rfl Ren.pure<|.cons 11 rfl Ren.pure<|.nil) (xM 37 3 (du (aW T) n k) m (by omega) (k:Int)) (tF _ _) rfl ?_
  rw[←sr (aW T) n k m hm hmn]
  refine az (.v (aS rfl) rfl<|.a 1 rfl<|.k [1,3,10,11] rfl) ?_
  exact⟨2*T.ae.length - (k+1),by omega,k+1,by omega,rfl,rfl⟩
 ·have hke:k=2*T.ae.length:=by have:=of_decide_eq_false hc;omega
  subst hke
  exact ba<|ab (.a 2 rfl<|.k [2] rfl)<|aq<|⟨_,_,aA.of rfl,xw _ _ _,rfl⟩
end PW
end Go.Proofs.YtnegbdpggideiaaGreatDoor
namespace Go.Proofs.YtnegbdpggideiaaGreatDoor
namespace Net
structure yj (T:an) (D:List Bool) (n:Nat) (dir:Bool) (out K:List Int) (H:Nat→Prop) (S:Nat→Prop):Prop where
 len:(out.length:Int)=T.nodes
 ge:∀x:Nat,(x:Int)<T.nodes→ -1≤at' out (x:Int)
 root:at' out (n:Int)=0∨(H n∧K.getD n 0=0)
 sF:∀y,H y→(y:Int)<T.nodes∧at' out (y:Int)= -1
 mono:∀x y:Nat,(x:Int)<T.nodes→H y→at' out (x:Int)≤K.getD y 0
 pY:∀y,H y→(y=n∧K.getD y 0=0)∨∃a,a<2*T.ae.length∧fv T dir a=(y:Int)∧Way T D n dir out a∧K.getD y 0=at' out (cR T dir a)+cb T a
 nj:∀x:Nat,(x:Int)<T.nodes→0≤at' out (x:Int)→x=n∨∃a,a<2*T.ae.length∧fv T dir a=(x:Int)∧Way T D n dir out a∧at' out (x:Int)=at' out (cR T dir a)+cb T a
 closed:∀a,a<2*T.ae.length→¬S a→Way T D n dir out a→(0≤at' out (fv T dir a)∧at' out (fv T dir a)≤at' out (cR T dir a)+cb T a)∨(H (fv T dir a).toNat∧K.getD (fv T dir a).toNat 0≤at' out (cR T dir a)+cb T a)
 ub:∀x:Nat,(x:Int)<T.nodes→at' out (x:Int)≤65535*(nf out:Int)
 Jb:∀y,H y→K.getD y 0≤65535*(nf out:Int)
theorem yj.key{T:an}(hT:Sound T){D:List Bool}{n:Nat}{dir:Bool}{out K:List Int}{H S:Nat→Prop}(h:yj T D n dir out K H S){y:Nat}(hy:H y):0≤K.getD y 0:=by
 rcases h.pY y hy with⟨_,h0⟩|⟨a,ha,_,hw,he⟩
 ·omega
 ·have:=hT.cost a ha
  have:=hw.2.1
  omega
theorem It(L:List Int)(i j:Nat)(c:Int)(hi:i<L.length):(L.set i c).getD j 0=if j=i then c else L.getD j 0:=by
 by_cases h:j=i
 ·subst h;simp[List.getD_eq_getElem?_getD,hi]
 ·simp[List.getD_eq_getElem?_getD,List.getElem?_set,Ne.symm h,h]
theorem AQ(N:Nat):nf (List.replicate N (-1))=0:=by
 induction N with
 |zero=>rfl
 |succ N ih=>rw[List.replicate_succ];simp[nf,ih]
theorem qZ(N x:Nat):at' (List.replicate N (-1)) (x:Int)= -1:=by
 unfold at'
 rw[List.getD_eq_getElem?_getD,List.getElem?_replicate]
 split<;>rfl
theorem BH{T:an}{D:List Bool}{N n:Nat}{dir:Bool}(hN:(N:Int)=T.nodes)(hn:n<N){K:List Int}{H:Nat→Prop}(hK:K.getD n 0=0)(hH:∀y,H y↔y=n):yj T D n dir (List.replicate N (-1)) K H (fun _=>False) where
 len:=by simpa using hN
 ge x _:=by rw[qZ];omega
 root:=.inr ⟨(hH n).2 rfl,hK⟩
 sF y hy:=by have:=(hH y).1 hy;subst this;exact⟨by omega,qZ N y⟩
 mono x y _ hy:=by have:=(hH y).1 hy;subst this;rw[qZ,hK];omega
 pY y hy:=by have:=(hH y).1 hy;subst this;exact .inl ⟨rfl,hK⟩
 nj x _ h:=by rw[qZ]at h;omega
 closed a _ _ hw:=by
  have:=hw.2.1
  have h2:at' (List.replicate N (-1)) (cR T dir a)= -1:=by
   unfold at'
   rw[List.getD_eq_getElem?_getD,List.getElem?_replicate]
   split<;>rfl
  rw[h2]at this;omega
 ub x _:=by rw[qZ,AQ];omega
 Jb y hy:=by have:=(hH y).1 hy;subst this;rw[hK,AQ];omega
theorem HP{T:an}(hT:Sound T){D:List Bool}{n:Nat}{dir:Bool}{out K:List Int}{H:Nat→Prop}(h:yj T D n dir out K H (fun _=>False)){i:Nat}(hi:H i)(hmin:∀j,H j→K.getD i 0≤K.getD j 0)(hKl:i<K.length){H':Nat→Prop}(hH':∀j,H' j↔H j∧j≠i):
  yj T D n dir (out.set i (K.getD i 0)) (K.set i 0) H' (fun a=>cR T dir a=(i:Int))∧nf (out.set i (K.getD i 0))=nf out+1∧(∀x:Nat,(x:Int)<T.nodes→at' (out.set i (K.getD i 0)) (x:Int)≤K.getD i 0)∧at' (out.set i (K.getD i 0)) (i:Int)=K.getD i 0∧0≤K.getD i 0∧K.getD i 0≤65535*(nf out:Int):=by
 obtain⟨hin,hineg⟩:=h.sF i hi
 have hil:i<out.length:=by have:=h.len;omega
 have hd:=h.key hT hi
 have hdu:=h.Jb i hi
 have hat:=fun x:Nat=>Ab out i x (K.getD i 0) hil
 have hK:∀j,j≠i→(K.set i 0).getD j 0=K.getD j 0:=fun j hj=>by rw[It _ _ _ _ hKl,if_neg hj]
 have hcnt:nf (out.set i (K.getD i 0))=nf out+1:=by
  rw[qx out i _ hil hd,if_neg]
  have:out.getD i (-1)=at' out (i:Int):=by simp[at']
  rw[this,hineg];omega
 have hy:∀a,a<2*T.ae.length→Way T D n dir out a→Way T D n dir (out.set i (K.getD i 0)) a∧at' (out.set i (K.getD i 0)) (cR T dir a)=at' out (cR T dir a):=fun a ha hw=>by
  obtain⟨y,hy⟩:=Int.eq_ofNat_of_zero_le (hT.y dir a ha).1
  have hne:y≠i:=fun e=>by
   have:=hw.2.1
   rw[hy,e,hineg]at this;omega
  have e1:at' (out.set i (K.getD i 0)) (cR T dir a)=at' out (cR T dir a):=by rw[hy,hat y,if_neg hne]
  exact⟨⟨hw.1,by rw[e1];exact hw.2.1,hw.2.2⟩,e1⟩
 refine⟨⟨by simpa using h.len,fun x hx=>?_,?_,fun y hy'=>?_,fun x y hx hy'=>?_,fun y hy'=>?_,fun x hx h0=>?_,fun a ha hs hw=>?_,fun x hx=>?_,fun y hy'=>?_⟩,hcnt,fun x hx=>?_,by rw[hat i,if_pos rfl],hd,hdu⟩
 ·rw[hat x];split
  ·omega
  ·exact h.ge x hx
 ·by_cases e:n=i
  ·subst e
   left
   rw[hat n,if_pos rfl]
   rcases h.root with h0|⟨_,h0⟩
   ·omega
   ·exact h0
  ·rcases h.root with h0|⟨h1,h0⟩
   ·left;rw[hat n,if_neg e];exact h0
   ·right;exact⟨(hH' n).2 ⟨h1,e⟩,by rw[hK n e];exact h0⟩
 ·obtain⟨h1,h2⟩:=(hH' y).1 hy'
  obtain⟨h3,h4⟩:=h.sF y h1
  exact⟨h3,by rw[hat y,if_neg h2];exact h4⟩
 ·obtain⟨h1,h2⟩:=(hH' y).1 hy'
  rw[hat x,hK y h2]
  split
  ·exact hmin y h1
  ·exact h.mono x y hx h1
 ·obtain⟨h1,h2⟩:=(hH' y).1 hy'
  rw[hK y h2]
  rcases h.pY y h1 with h3|⟨a,ha,hx,hw,he⟩
  ·exact .inl h3
  ·obtain⟨k1,k2⟩:=hy a ha hw
   exact .inr ⟨a,ha,hx,k1,by rw[k2];exact he⟩
 ·rw[hat x]at h0 ⊢
  by_cases e:x=i
  ·subst e
   rw[if_pos rfl]
   rcases h.pY x hi with⟨h3,_⟩|⟨a,ha,hx,hw,he⟩
   ·exact .inl h3
   ·obtain⟨k1,k2⟩:=hy a ha hw
    exact .inr ⟨a,ha,hx,k1,by rw[k2];exact he⟩
  ·rw[if_neg e]at h0 ⊢
   rcases h.nj x hx h0 with h3|⟨a,ha,hx,hw,he⟩
   ·exact .inl h3
   ·obtain⟨k1,k2⟩:=hy a ha hw
    exact .inr ⟨a,ha,hx,k1,by rw[k2];exact he⟩
 ·obtain⟨y,hya⟩:=Int.eq_ofNat_of_zero_le (hT.y dir a ha).1
  have hne:y≠i:=fun e=>hs (by rw[hya,e])
  have e1:at' (out.set i (K.getD i 0)) (cR T dir a)=at' out (cR T dir a):=by rw[hya,hat y,if_neg hne]
  have hw0:Way T D n dir out a:=⟨hw.1,by rw[←e1];exact hw.2.1,hw.2.2⟩
  obtain⟨x,hxa⟩:=Int.eq_ofNat_of_zero_le (hT.x dir a ha).1
  have hc:=h.closed a ha (fun f=>f) hw0
  rw[e1]
  rw[hxa]at hc ⊢
  rw[Int.toNat_natCast]at hc ⊢
  rw[hat x]
  by_cases e:x=i
  ·subst e
   left
   rw[if_pos rfl]
   rcases hc with⟨h1,_⟩|⟨_,h2⟩
   ·rw[hineg]at h1;omega
   ·exact⟨hd,h2⟩
  ·rw[if_neg e]
   rcases hc with h1|⟨h1,h2⟩
   ·exact .inl h1
   ·exact .inr ⟨(hH' x).2 ⟨h1,e⟩,by rw[hK x e];exact h2⟩
 ·rw[hat x,hcnt]
  split
  ·omega
  ·have:=h.ub x hx;omega
 ·obtain⟨h1,h2⟩:=(hH' y).1 hy'
  rw[hK y h2,hcnt]
  have:=h.Jb y h1;omega
 ·rw[hat x]
  split
  ·omega
  ·exact h.mono x i hx hi
theorem Fx{T:an}{D:List Bool}{n:Nat}{dir:Bool}{out K:List Int}{H:Nat→Prop}{i:Nat}(h:yj T D n dir out K H (fun a=>cR T dir a=(i:Int)))(hi:i≠n)(ho:cU T i=true):yj T D n dir out K H (fun _=>False):=
 {h with closed:=fun a ha _ hw=>h.closed a ha (fun e=>by
   rcases hw.2.2 with h1|h1
   ·rw[h1]at e;exact hi (by omega)
   ·rw[e,Int.toNat_natCast,ho]at h1;cases h1) hw}
theorem AA{T:an}{D:List Bool}{n:Nat}{dir:Bool}{out K:List Int}{H S S':Nat→Prop}(h:yj T D n dir out K H S){a:Nat}(hS:∀b,b<2*T.ae.length→S b→S' b∨b=a)
  (hc:Way T D n dir out a→(0≤at' out (fv T dir a)∧at' out (fv T dir a)≤at' out (cR T dir a)+cb T a)∨(H (fv T dir a).toNat∧K.getD (fv T dir a).toNat 0≤at' out (cR T dir a)+cb T a)):yj T D n dir out K H S':=
 ⟨h.len,h.ge,h.root,h.sF,h.mono,h.pY,h.nj,fun b hb hs hw=>by
   by_cases e:b=a
   ·subst e
    exact hc hw
   ·exact h.closed b hb (fun hb'=>(hS b hb hb').elim hs e) hw,h.ub,h.Jb⟩
theorem Hc{T:an}(hT:Sound T){D:List Bool}{n:Nat}{dir:Bool}{out K:List Int}{H H' S S':Nat→Prop}(h:yj T D n dir out K H S){a m:Nat}(ha:a<2*T.ae.length)(hS:∀b,b<2*T.ae.length→S b→S' b∨b=a)
  (hw:Way T D n dir out a) (hm:fv T dir a=(m:Int)) (sF:at' out (m:Int)<0) (htop:∀x:Nat,(x:Int)<T.nodes→at' out (x:Int)≤at' out (cR T dir a)) (hub:at' out (cR T dir a)+65535≤65535*(nf out:Int))
  (hnew:¬H m∨at' out (cR T dir a)+cb T a<K.getD m 0) (hml:m<K.length) (hH':∀j,H' j↔H j∨j=m):
  yj T D n dir out (K.set m (at' out (cR T dir a)+cb T a)) H' S':=by
 have hc:=hT.cost a ha
 have hmN:(m:Int)<T.nodes:=by have:=(hT.x dir a ha).2;omega
 have hK:∀j,(K.set m (at' out (cR T dir a)+cb T a)).getD j 0=if j=m then at' out (cR T dir a)+cb T a else K.getD j 0:=fun j=>It _ _ _ _ hml
 have hy0:=hw.2.1
 refine⟨h.len,h.ge,?_,fun y hy=>?_,fun x y hx hy=>?_,fun y hy=>?_,h.nj,fun b hb hs hwb=>?_,h.ub,fun y hy=>?_⟩
 ·rcases h.root with h0|⟨h1,h0⟩
  ·exact .inl h0
  ·right
   refine⟨(hH' n).2 (.inl h1),?_⟩
   rw[hK n,if_neg,h0]
   intro e
   subst e
   rcases hnew with h2|h2
   ·exact h2 h1
   ·omega
 ·rcases(hH' y).1 hy with h1|rfl
  ·exact h.sF y h1
  ·have:=h.ge y hmN
   exact⟨hmN,by omega⟩
 ·rw[hK y]
  have:=htop x hx
  split
  ·omega
  ·rename_i e
   exact h.mono x y hx (((hH' y).1 hy).resolve_right e)
 ·rw[hK y]
  by_cases e:y=m
  ·subst e
   rw[if_pos rfl]
   exact .inr ⟨a,ha,hm,hw,rfl⟩
  ·rw[if_neg e]
   exact h.pY y (((hH' y).1 hy).resolve_right e)
 ·obtain⟨x,hx⟩:=Int.eq_ofNat_of_zero_le (hT.x dir b hb).1
  by_cases e:b=a
  ·subst e
   right
   rw[hm,Int.toNat_natCast]
   exact⟨(hH' m).2 (.inr rfl),by rw[hK m,if_pos rfl];exact Int.le_refl _⟩
  ·have h1:=h.closed b hb (fun hb'=>(hS b hb hb').elim hs e) hwb
   rw[hx,Int.toNat_natCast]at h1 ⊢
   rcases h1 with h1|⟨h1,h2⟩
   ·exact .inl h1
   ·right
    refine⟨(hH' x).2 (.inl h1),?_⟩
    rw[hK x]
    split
    ·rename_i e'
     subst e'
     rcases hnew with h3|h3
     ·exact absurd h1 h3
     ·omega
    ·exact h2
 ·rw[hK y]
  split
  ·omega
  ·rename_i e
   exact h.Jb y (((hH' y).1 hy).resolve_right e)
theorem HE{T:an}{D:List Bool}{n:Nat}{dir:Bool}{out K:List Int}{H:Nat→Prop}(h:yj T D n dir out K H (fun _=>False))(hH:∀y,¬H y):iD T D n dir out:=
 ⟨h.len,h.root.resolve_right (fun k=>hH n k.1),h.ge,fun a ha hw=>(h.closed a ha (fun f=>f) hw).resolve_right (fun k=>hH _ k.1),h.nj⟩
end Net
end Go.Proofs.YtnegbdpggideiaaGreatDoor
namespace Go.Proofs.YtnegbdpggideiaaGreatDoor
namespace PW
open Go.RowKit cH Mem Net Heap
theorem F9{N n:Nat}{K P O:List Int}(h:CS N n K P O)(hN:N≤65536){i:Nat}(hi:O.getD 0 0=(i:Int))(j:Nat)(hj:eK O (j:Int)):K.getD i 0≤K.getD j 0:=by
 obtain⟨hP,hO,hK,hH⟩:=h
 obtain⟨p,hp,he⟩:=hj
 have h1:=B6 hH p (by omega)
 unfold rk at h1
 rw[hi,he]at h1
 have h2:=hP.item p hp
 have:=Ee (by omega) (by omega) h1
 simpa using this
theorem Hd(N:Nat):CS N 0 (List.replicate N 0) (List.replicate N 0) []:=
 ⟨⟨by simp,fun p hp=>by simp at hp,fun i hi=>.inl (by simp[List.getD_eq_getElem?_getD,List.getElem?_replicate,hi])⟩,rfl,by simp,fun q _ hq=>by omega⟩
theorem Aa{P:Program}{M:Nat}{c:Code}{t:cd}{Q:Exit→St→Prop}{b:Bool}{d:Option cZ}{N n:Nat}{K Pl O:List Int}(hd:ll d)(hT:nF [0,1,2,3,5] t t)(h:W P M 0 c ⟨t,iC false d N n K Pl O⟩ Q):W P M 0 c ⟨t,iC b d N n K Pl O⟩ Q:=by
 cases b
 ·exact h
 ·exact dx [0,1,2,3,5] hT (.same hd rfl<|.kept rfl (.cells (aF.cons (Ren.own (i:=2) rfl)<|aF.cons (Ren.own (i:=3) rfl)<|aF.cons (Ren.own (i:=4) rfl) aF.nil))<|.kept rfl (.row aF.pure)<|.kept rfl (.row aF.pure)<|.kept rfl (.row aF.pure)<|.nil) rfl rfl h
theorem er{P:Program}{M L:Nat}{c:Code}{t:cd}{Q:Exit→St→Prop}{σ σ':cm}(he:σ=σ')(h:W P M L c ⟨t,σ'⟩ Q):W P M L c ⟨t,σ⟩ Q:=by subst he;exact h
theorem HJ{N n:Nat}(d:Option cZ)(hd:ll d)(K P O:List Int)(h:CS N n K P O)(hN:N≤65536):
  bS Tryz.prog 199 [.ptr 1 0] (iC false d N n K P O) (fun r σ'=>∃(b ok:Bool) (i n':Nat) (key:Int) (K' P' O':List Int),r= .tuple [num i,num key,flag ok]∧σ'=iC b d N n' K' P' O'∧
   ((ok=false∧n=0)∨(ok=true∧i<N∧eK O (i:Int)∧(∀j:Nat,eK O (j:Int)→K.getD i 0≤K.getD j 0)∧key=K.getD i 0∧K'=K.set i 0∧CS N n' K' P' O'∧∀j:Nat,eK O' (j:Int)↔eK O (j:Int)∧j≠i))):=by
 refine(GW d hd K P O h hN).mono fun r σ' hr=>?_
 rcases hr with⟨h1,rfl,rfl⟩|⟨n',i,P',O',h1,h2,h3,rfl,rfl,h4,h5⟩
 ·exact⟨false,false,0,n,0,K,P,O,rfl,rfl,.inl ⟨rfl,h1⟩⟩
 ·refine⟨true,true,i,n',K.getD i 0,K.set i 0,P',O',rfl,rfl,.inr ⟨rfl,h2,⟨0,by have:=h.2.1;omega,h3⟩,F9 h hN h3,rfl,rfl,h4,fun j=>(h5 j).trans ?_⟩⟩
  constructor<;>rintro⟨a,b⟩<;>exact⟨a,by omega⟩
def mz(T:an)(D:List Bool)(n:Nat)(f1 f2:FuncId)(cap1 cap2:List PV):List PV:=[.raw (.int .i64 T.nodes),aQ T.over,.slice T.ae.length (gP T.ae),aQ D,num n,.func f1 cap1,.func f2 cap2]
instance (T:an) (D:List Bool) (n:Nat) (f1 f2:FuncId) (cap1 cap2:List PV) [aO cap1] [aO cap2]:aO (mz T D n f1 f2 cap1 cap2):=by unfold mz;infer_instance
def cV(T:an)(dir:Bool)(i:Nat):List Int:=((List.range (2*T.ae.length)).filter fun a=>decide (cR T dir a=(i:Int))).map Int.ofNat
theorem qJ(T:an)(dir:Bool)(i:Nat)(a:Nat):(a:Int)∈cV T dir i↔a<2*T.ae.length∧cR T dir a=(i:Int):=by
 unfold cV
 simp only[List.mem_map,List.mem_filter,List.mem_range,decide_eq_true_eq]
 constructor
 ·rintro⟨b,h,e⟩
  have:b=a:=Int.ofNat.inj e
  subst this;exact h
 ·intro h;exact⟨a,h,rfl⟩
theorem yV(T:an)(dir:Bool)(i k:Nat)(h:k<(cV T dir i).length):∃a:Nat,(cV T dir i).getD k 0=(a:Int)∧a<2*T.ae.length∧cR T dir a=(i:Int):=by
 have hm:(cV T dir i).getD k 0∈cV T dir i:=bO h
 have:∃a:Nat,(cV T dir i).getD k 0=(a:Int):=by
  unfold cV at hm ⊢
  obtain⟨b,_,e⟩:=List.mem_map.1 hm
  exact⟨b,e.symm⟩
 obtain⟨a,ha⟩:=this
 rw[ha]at hm
 exact⟨a,ha,(qJ T dir i a).1 hm⟩
theorem yx(T:an)(dir:Bool)(i:Nat):(cV T dir i).length≤2*T.ae.length:=by
 unfold cV
 rw[List.length_map]
 exact Nat.le_trans (List.length_filter_le _ _) (by simp)
theorem CV(N k:Nat)(h:k<N):(List.replicate k (-1:Int)++List.replicate (N - k) 0).set k (-1)=List.replicate (k+1) (-1)++List.replicate (N - (k+1)) 0:=by
 rw[List.set_append_right _ _ (by simp),List.length_replicate,Nat.sub_self,show N - k=(N - (k+1))+1 by omega,List.replicate_succ,List.set_cons_zero,List.replicate_succ',List.append_assoc]
 rfl
theorem qI(N:Nat):dI [.raw (.int .i64 0)] N=aR (List.replicate 0 (-1)++List.replicate (N - 0) 0):=by simpa using cO N
theorem kW(n:Nat)(L:List Int):ll (some (.row 3 1 n (aR L))):=fun b h=>by
 cases h
 exact inferInstanceAs (aO (aR L))
theorem Iw{σ:cm}{K P O:List Int}(h:aB σ (.ptr 1 0) (wY K P O))(p:Int):aj σ ([.ptr 1 0,num p]++[]) [wY K P O,num p]:=aj.cons h (aj.cons aB.pure aj.nil)
set_option maxHeartbeats 4000000 in
theorem AS(T:an)(D:List Bool)(n:Nat)(dir:Bool)(f1 f2:FuncId)(cap1 cap2:List PV)[aO cap1][aO cap2](hv:ao T=true)(hf:bN T D=true)(hn:(n:Int)<T.nodes)(he1:enters Tryz.prog f1=true)(he2:enters Tryz.prog f2=true)
  (h1:∀i:Nat,(i:Int)<T.nodes→Can Tryz.prog f1 ([num i]++cap1) (· =aw (cV T dir i))) (h2:∀a:Nat,a<2*T.ae.length→Can Tryz.prog f2 ([num a]++cap2) (· =num (fv T dir a))):
  Can Tryz.prog 177 [.agg (mz T D n f1 f2 cap1 cap2)] (· =aw (bn T D n dir)):=by
 have hbd:=gH hv
 have hS:=aM hv
 obtain⟨N,hN⟩:∃N:Nat,T.nodes=(N:Int):=⟨T.nodes.toNat,by omega⟩
 have hN64:N≤64:=by have:=hS.nodes;omega
 have hnN:n<N:=by omega
 refine aE Tryz.func177 rfl Tryz.ntmps177 rfl<|ab (.a 2 rfl<|.k [1] rfl)<|aP<|av 3 rfl<|cp (dF rfl (bI.rk.get rfl) rfl rfl hN hN ⟨by unfold maxLen;omega,by omega⟩) rfl<|av 1 rfl<|aG [1,3] rfl ?_
 refine ah<|ab (.a 3 rfl<|.k [1,3,21,22] rfl)<|au<|eu [1,3,21,22] rfl<|bf (fun r s=>∃k,k≤N∧r=N - k∧s=⟨[(1,.aY (mz T D n f1 f2 cap1 cap2) 0),(3,.own 0),(21,num N),(22,num k)],[some (.row 3 1 N (aR (List.replicate k (-1)++List.replicate (N - k) 0)))]⟩) N ⟨0,by omega,by omega,by rw[←qI N];rfl⟩ ?_
 rintro r s ⟨k,hk,rfl,rfl⟩
 refine ab (.a 1 rfl<|.k [1,3,21,22,23] rfl)<|ah<|ag rfl (fun hc=>?_) (fun hc=>?_)
 ·have hlt:k<N:=by have:=of_decide_eq_true hc;omega
  refine ai<|ah<|au<|ab (.a 2 rfl<|.k [1,3,4,21,22] rfl)<|bF<|av 2 rfl<|bC (aJ (k) rfl) rfl<|bg ((by first|exact bE rfl (bI.tk.get rfl) rfl rfl rfl (by first|omega|(simp;omega))|exact aV rfl (bI.tk.get rfl) rfl rfl rfl (by first|omega|(simp;omega)))) rfl rfl<|aG [1,3,21,22] rfl ?_
  refine er (σ':=[some (.row 3 1 N (aR (List.replicate (k+1) (-1)++List.replicate (N - (k+1)) 0)))]) (by rw[←CV N k hlt];rfl) ?_
  refine az (.v (aS rfl) rfl<|.a 1 rfl<|.k [1,3,21,22] rfl) ?_
  exact⟨N - (k+1),by omega,k+1,by omega,rfl,rfl⟩
 ·have hke:k=N:=by have:=of_decide_eq_false hc;omega
  subst hke
  refine er (σ':=[some (.row 3 1 k (aR (List.replicate k (-1))))]) (by simp) ?_
  refine ba<|aP<|av 2 rfl<|bC (aL rfl ((show some (num T.nodes)=some (num (k:Int)) by rw[hN]))) rfl<|cP rfl rfl (bS.mono (Hw k (some (.row 3 1 k (aR (List.replicate k (-1))))) (kW _ _) (by omega)) (fun _ σ' h=>?_))
  obtain⟨rfl,rfl⟩:=h
  refine av 5 rfl<|aG [1,3,5] rfl ?_
  refine aP<|av 3 rfl<|cP rfl rfl (bS.mono (Ay (some (.row 3 1 k (aR (List.replicate k (-1))))) (kW _ _) _ _ _ (Hd k) (by omega) n hnN 0) (fun _ σ' h=>?_))
  obtain⟨b,n1,P1,O1,rfl,hok,hheld⟩:=h
  refine aG [1,3,5] rfl ?_
  refine Aa (kW _ _) (.cons 1 rfl Ren.pure<|.cons 3 rfl (Ren.own (i:=0) rfl)<|.cons 5 rfl (Ren.ptr (i:=1) rfl)<|.nil) ?_
  have hD0:=BH (T:=T) (D:=D) (N:=k) (n:=n) (dir:=dir) hN.symm hnN (K:=(List.replicate k (0:Int)).set n 0) (H:=fun y=>eK O1 (y:Int)) (by rw[It _ _ _ _ (by simpa using hnN),if_pos rfl]) (fun y=>(hheld y).trans ⟨fun h=>h.elim (fun⟨p,hp,_⟩=>by simp at hp) (fun e=>by omega),fun e=>.inr (by omega)⟩)
  generalize (List.replicate k (0:Int)).set n 0=K1 at hok hD0
  generalize List.replicate k (-1:Int)=out1 at hD0
  clear hheld
  refine au<|eu [1,3,5] rfl<|bf (fun r s=>∃out K P O q,yj T D n dir out K (fun y=>eK O (y:Int)) (fun _=>False)∧CS k q K P O∧r=k+1 - nf out∧s=⟨[(1,.aY (mz T D n f1 f2 cap1 cap2) 0),(3,.own 0),(5,.ptr 1 0)],iC false (some (.row 3 1 k (aR out))) k q K P O⟩) (k+1 - nf out1) ⟨out1,K1,P1,O1,n1,hD0,hok,rfl,rfl⟩ ?_
  clear hD0 hok out1 K1 P1 O1 n1 b
  rintro r s ⟨out,K,P,O,q,hD,hok,rfl,rfl⟩
  refine au<|aP<|av 1 rfl<|cP rfl rfl (bS.mono (HJ (some (.row 3 1 k (aR out))) (kW _ _) K P O hok (by omega)) (fun _ σ' h=>?_))
  obtain⟨b,ok,i,n1,key,K1,P1,O1,rfl,rfl,hpop⟩:=h
  refine av 7 rfl<|aG [1,3,5,7,8,9] rfl ?_
  refine Aa (kW _ _) (.cons 1 rfl Ren.pure<|.cons 3 rfl (Ren.own (i:=0) rfl)<|.cons 5 rfl (Ren.ptr (i:=1) rfl)<|.cons 7 rfl Ren.pure<|.cons 8 rfl Ren.pure<|.cons 9 rfl Ren.pure<|.nil) ?_
  refine ah<|ab (.a 2 rfl<|.k [1,3,5,7,8,47] rfl)<|ag rfl (fun hc=>?_) (fun hc=>?_)
  ·have hok0:ok=false:=by cases ok;rfl;cases hc
   have hq0:q=0:=by
    rcases hpop with⟨_,h⟩|⟨h,_⟩
    ·exact h
    ·rw[hok0]at h;cases h
   have hdist:bn T D n dir=out:=kr hS (HE hD (fun y ⟨p,hp,_⟩=>by have:=hok.2.1;omega))
   exact ab (.a 2 rfl<|.k [2] rfl)<|aq<|⟨_,_,aA.of rfl,aB.eH rfl aj.pure,by rw[hdist];unfold aw;rw[show out.length=k by have:=hD.len;omega]⟩
  ·have hok1:ok=true:=by cases ok;cases hc;rfl
   rcases hpop with⟨h,_⟩|⟨_,hiN,hHi,hmin,rfl,rfl,hok',hH'⟩
   ·rw[hok1]at h;cases h
   obtain⟨hD1,hcnt,htop,hati,hk0,hku⟩:=HP hS hD hHi hmin (by rw[hok.2.2.1];exact hiN) hH'
   have hol:out.length=k:=by have:=hD.len;omega
   have hcl:=pA (out.set i (K.getD i 0))
   have hiT:(i:Int)<T.nodes:=by omega
   refine ai<|aP<|av 3 rfl<|bC (aJ (i) rfl) rfl<|bg ((by first|exact bE rfl (bI.tk.get rfl) rfl rfl rfl (by first|omega|(simp;omega))|exact aV rfl (bI.tk.get rfl) rfl rfl rfl (by first|omega|(simp;omega)))) rfl rfl<|aG [1,3,5,7,8] rfl ?_
   refine er (σ':=iC false (some (.row 3 1 k (aR (out.set i (K.getD i 0))))) k n1 (K.set i 0) P1 O1) rfl ?_
   have ho1:(out.set i (K.getD i 0)).length=k:=by simpa using hol
   have hmeas:k+1 - nf (out.set i (K.getD i 0))<k+1 - nf out:=by have:=pA (out.set i (K.getD i 0));omega
   generalize K.getD i 0=d at hD1 hcnt htop hati hk0 hku ho1 hcl hmeas
   generalize out.set i d=out1 at hD1 hcnt htop hati ho1 hcl hmeas
   generalize K.set i 0=K1 at hD1 hok'
   refine ah ?_
   obtain⟨q1,hq1⟩:∃q,decide ((i:Int)≠(n:Int))=q:=⟨_,rfl⟩
   obtain⟨q2,hq2⟩:∃q,cU T i=q:=⟨_,rfl⟩
   have hov:T.over.length=0∨i<T.over.length:=by have:=hbd.2.2.2;omega
   refine bu 62 (.raw (.bool (q1&&q2))) [1,3,5,7,8] rfl ?_ ?_
   ·refine .a 3 rfl<|.v (b9 rfl (hq1)) rfl<|.a 1 rfl<|?_
    cases q1
    ·exact .a 5 rfl<|.k [62,1,3,5,7,8] rfl
    ·exact .a 3 rfl<|.c rfl (hq2▸oy T i hov) rfl<|.a 1 rfl<|.k [62,1,3,5,7,8] rfl
   refine ag rfl (fun hc=>?_) (fun hc=>?_)
   ·obtain⟨c1,c2⟩:=Bool.and_eq_true_iff.1 hc
    rw[c1]at hq1
    rw[c2]at hq2
    have hDe:=Fx hD1 (by have:=of_decide_eq_true hq1;omega) hq2
    refine lf (.cons (k:=1) rfl<|.cons (k:=3) rfl<|.cons (k:=5) rfl<|Sub.nil _) ?_
    refine ba ?_
    first
     |exact⟨_,hmeas,out1,K2,P2,O2,q2,hDe,hok2,rfl,rfl⟩
     |exact⟨_,hmeas,out1,K1,P1,O1,n1,hDe,hok',rfl,rfl⟩
   ·have hfree:i=n∨cU T i=false:=by
     by_cases e:i=n
     ·exact .inl e
     ·right
      have:q1=true:=by rw[←hq1];simp;omega
      rw[this,Bool.true_and]at hc
      rw[hq2,hc]
    clear hq1 hq2 hc
    refine ai<|ab (.a 3 rfl<|.v (sg rfl he1 rfl rfl (h1 i hiT)) rfl<|.a 2 rfl<|.k [1,3,5,8,66,67,68] rfl) ?_
    have hll:=yx T dir i
    have hD2:yj T D n dir out1 K1 (fun y=>eK O1 (y:Int)) (fun a=>cR T dir a=(i:Int)∧(a:Int)∉(cV T dir i).take 0):=⟨hD1.len,hD1.ge,hD1.root,hD1.sF,hD1.mono,hD1.pY,hD1.nj,fun a ha hs=>hD1.closed a ha (fun e=>hs ⟨e,by simp⟩),hD1.ub,hD1.Jb⟩
    refine au<|eu [1,3,5,8,66,67,68] rfl<|bf (fun r s=>∃j K P O q,j≤(cV T dir i).length∧yj T D n dir out1 K (fun y=>eK O (y:Int)) (fun a=>cR T dir a=(i:Int)∧(a:Int)∉(cV T dir i).take j)∧CS k q K P O∧r=(cV T dir i).length - j∧s=⟨[(1,.aY (mz T D n f1 f2 cap1 cap2) 0),(3,.own 0),(5,.ptr 1 0),(8,num d),(66,aw (cV T dir i)),(67,num (cV T dir i).length),(68,num j)],iC false (some (.row 3 1 k (aR out1))) k q K P O⟩) (cV T dir i).length ⟨0,K1,P1,O1,n1,by omega,hD2,hok',rfl,rfl⟩ ?_
    clear hD2 hok' hD1 K1 P1 O1 n1 hH' hmin hHi hD hok
    rintro r s ⟨j,K2,P2,O2,q2,hj,hD2,hok2,rfl,rfl⟩
    refine ab (.a 1 rfl<|.k [1,3,5,8,66,67,68,69] rfl)<|ah<|ag rfl (fun hc=>?_) (fun hc=>?_)
    ·have hlt:j<(cV T dir i).length:=by have:=of_decide_eq_true hc;omega
     obtain⟨a,ha,ham,hay⟩:=yV T dir i j hlt
     obtain⟨m,hm⟩:=Int.eq_ofNat_of_zero_le (hS.x dir a ham).1
     have hmN:m<k:=by have:=(hS.x dir a ham).2;omega
     have hcb:=hS.cost a ham
     have hDl:D.length=0∨a<D.length:=by simp only[bN,decide_eq_true_eq]at hf;omega
     have hSS:∀b,b<2*T.ae.length→(cR T dir b=(i:Int)∧(b:Int)∉(cV T dir i).take j)→(cR T dir b=(i:Int)∧(b:Int)∉(cV T dir i).take (j+1))∨b=a:=fun b _ ⟨e1,e2⟩=>by
      by_cases e:b=a
      ·exact .inr e
      ·left
       refine⟨e1,fun hm'=>?_⟩
       rw[dc _ j 0 hlt,ha]at hm'
       rcases List.mem_append.1 hm' with h|h
       ·exact e2 h
       ·simp at h;exact e (by omega)
     have hayi:at' out1 (cR T dir a)=d:=by rw[hay];exact hati
     have hga:out1.getD m 0=at' out1 (m:Int):=by simp[at',List.getD_eq_getElem?_getD,show m<out1.length by omega]
     refine ai<|ah<|au<|ab (.v (aJ (j) rfl) rfl<|.v (aL rfl ((ax _ j hlt).trans (by rw[ha]))) rfl<|.a 1 rfl<|.k [1,3,5,8,11,66,67,68] rfl)<|ab (.a 3 rfl<|.v (sg rfl he2 rfl rfl (hm▸h2 a ham)) rfl<|.a 1 rfl<|.k [1,3,5,8,11,12,66,67,68] rfl)<|ah ?_
     obtain⟨p1,hp1⟩:∃q,aI D a=q:=⟨_,rfl⟩
     obtain⟨p2,hp2⟩:∃q,decide (0≤out1.getD m 0)=q:=⟨_,rfl⟩
     refine bu 86 (.raw (.bool (p1||p2))) [1,3,5,8,11,12,66,67,68] rfl ?_ ?_
     ·refine .a 3 rfl<|.c rfl (hp1▸jE D a hDl) rfl<|.a 1 rfl<|?_
      cases p1
      ·exact .a 2 rfl<|.v (aJ (m) rfl) rfl<|.v (aL rfl (ax out1 m (by omega))) rfl<|.v (b9 rfl (hp2)) rfl<|.a 1 rfl<|.k [86,1,3,5,8,11,12,66,67,68] rfl
      ·exact .a 6 rfl<|.k [86,1,3,5,8,11,12,66,67,68] rfl
     refine ag rfl (fun hc=>?_) (fun hc=>?_)
     ·have hD3:=AA (S':=fun b=>cR T dir b=(i:Int)∧(b:Int)∉(cV T dir i).take (j+1)) hD2 hSS (fun hw=>.inl (by
       rcases Bool.or_eq_true_iff.1 hc with h|h
       ·rw[hw.1]at hp1;rw[h]at hp1;cases hp1
       ·rw[h]at hp2
        have h3:=of_decide_eq_true hp2
        rw[hga]at h3
        rw[hm,hayi]
        have:=htop m (by omega)
        exact⟨h3,by omega⟩))
      refine ba<|az (.v (aS rfl) rfl<|.a 1 rfl<|.k [1,3,5,8,66,67,68] rfl) ?_
      first
       |exact⟨(cV T dir i).length - (j+1),by omega,j+1,_,P3,O3,n3,by omega,hD3,hok3,rfl,rfl⟩
       |exact⟨(cV T dir i).length - (j+1),by omega,j+1,K2,P2,O2,q2,by omega,hD3,hok2,rfl,rfl⟩
     ·obtain⟨c1,c2⟩:=Bool.or_eq_false_iff.1 hc
      rw[c1]at hp1
      rw[c2]at hp2
      have hmneg:at' out1 (m:Int)<0:=by have:=of_decide_eq_false hp2;rw[hga]at this;omega
      have hway:Net.Way T D n dir out1 a:=⟨hp1,by rw[hayi];exact hk0,by rw[hay,Int.toNat_natCast];rcases hfree with h|h;(exact .inl (by rw[h]));exact .inr h⟩
      refine ai<|ab (.a 4 rfl<|.c rfl (lL T a ham) rfl<|.v (aS rfl) rfl<|.a 1 rfl<|.k [1,3,5,8,12,13,66,67,68] rfl) ?_
      obtain⟨p3,hp3⟩:∃q,(!decide (P2.getD m 0=0))=q:=⟨_,rfl⟩
      obtain⟨kv,hkv⟩:∃z,(if P2.getD m 0=0 then 0 else K2.getD m 0)=z:=⟨_,rfl⟩
      have hkc:=GC K2 P2 O2 hok2.1.len hok2.2.2.1 (by omega) m hmN
      rw[hp3,hkv]at hkc
      refine ab (.a 2 rfl<|.v (G0 rfl (Iw (qL false _ hok2.2.2.1 hok2.1.len hok2.2.1) _) (hkc)) rfl<|.a 5 rfl<|.k [1,3,5,8,12,13,14,15,66,67,68] rfl) ?_
      obtain⟨p4,hp4⟩:∃q,decide (d+cb T a<kv)=q:=⟨_,rfl⟩
      refine bu 105 (.raw (.bool ((!p3)||p4))) [1,3,5,8,12,13,66,67,68] rfl ?_ ?_
      ·refine .a 3 rfl<|?_
       cases p3
       ·exact .a 4 rfl<|.k [105,1,3,5,8,12,13,66,67,68] rfl
       ·exact .a 2 rfl<|.v (b9 rfl (hp4)) rfl<|.a 1 rfl<|.k [105,1,3,5,8,12,13,66,67,68] rfl
      refine ag rfl (fun hc=>?_) (fun hc=>?_)
      ·have hnew:¬eK O2 (m:Int)∨at' out1 (cR T dir a)+cb T a<K2.getD m 0:=by
        rw[hayi]
        by_cases e:P2.getD m 0=0
        ·exact .inl ((hok2.1.zero hmN).1 e)
        ·right
         have h3:p3=true:=by rw[←hp3];simp only[e];rfl
         rw[h3]at hc
         have h4:p4=true:=by simpa using hc
         rw[h4]at hp4
         have:=of_decide_eq_true hp4
         rw[if_neg e]at hkv
         omega
       refine bF<|av 3 rfl<|cP rfl rfl (bS.mono (Ay (some (.row 3 1 k (aR out1))) (kW _ _) K2 P2 O2 hok2 (by omega) m hmN (d+cb T a)) (fun _ σ' h=>?_))
       obtain⟨b3,n3,P3,O3,rfl,hok3,hH3⟩:=h
       refine aG [1,3,5,8,66,67,68] rfl ?_
       refine Aa (kW _ _) (.cons 1 rfl Ren.pure<|.cons 3 rfl (Ren.own (i:=0) rfl)<|.cons 5 rfl (Ren.ptr (i:=1) rfl)<|.cons 8 rfl Ren.pure<|.cons 66 rfl Ren.pure<|.cons 67 rfl Ren.pure<|.cons 68 rfl Ren.pure<|.nil) ?_
       have hD3:=Hc (S':=fun b=>cR T dir b=(i:Int)∧(b:Int)∉(cV T dir i).take (j+1)) (H':=fun y=>eK O3 (y:Int)) hS hD2 ham hSS hway hm hmneg (fun x hx=>by rw[hayi];exact htop x hx) (by rw[hayi];omega) hnew (by rw[hok2.2.2.1];exact hmN) (fun y=>(hH3 y).trans ⟨fun h=>h.imp id (fun e=>by omega),fun h=>h.imp id (fun e=>by omega)⟩)
       rw[hayi]at hD3
       refine az (.v (aS rfl) rfl<|.a 1 rfl<|.k [1,3,5,8,66,67,68] rfl) ?_
       first
        |exact⟨(cV T dir i).length - (j+1),by omega,j+1,_,P3,O3,n3,by omega,hD3,hok3,rfl,rfl⟩
        |exact⟨(cV T dir i).length - (j+1),by omega,j+1,K2,P2,O2,q2,by omega,hD3,hok2,rfl,rfl⟩
      ·obtain⟨c3,c4⟩:=Bool.or_eq_false_iff.1 hc
       have h3:p3=true:=by cases p3;cases c3;rfl
       rw[h3]at hp3
       rw[c4]at hp4
       have e:P2.getD m 0≠0:=fun e=>by rw[e]at hp3;cases hp3
       have hD3:=AA (S':=fun b=>cR T dir b=(i:Int)∧(b:Int)∉(cV T dir i).take (j+1)) hD2 hSS (fun hw=>.inr (by
        rw[hm,Int.toNat_natCast,hayi]
        refine⟨Classical.byContradiction fun hh=>e ((hok2.1.zero hmN).2 hh),?_⟩
        rw[if_neg e]at hkv
        have:=of_decide_eq_false hp4
        omega))
       refine ai<|az (.v (aS rfl) rfl<|.a 1 rfl<|.k [1,3,5,8,66,67,68] rfl) ?_
       first
        |exact⟨(cV T dir i).length - (j+1),by omega,j+1,_,P3,O3,n3,by omega,hD3,hok3,rfl,rfl⟩
        |exact⟨(cV T dir i).length - (j+1),by omega,j+1,K2,P2,O2,q2,by omega,hD3,hok2,rfl,rfl⟩
    ·have hje:j=(cV T dir i).length:=by have:=of_decide_eq_false hc;omega
     have hDe:yj T D n dir out1 K2 (fun y=>eK O2 (y:Int)) (fun _=>False):=⟨hD2.len,hD2.ge,hD2.root,hD2.sF,hD2.mono,hD2.pY,hD2.nj,fun a ha _=>hD2.closed a ha (fun⟨e1,e2⟩=>e2 (by rw[hje,List.take_length];exact(qJ T dir i a).2 ⟨ha,e1⟩)),hD2.ub,hD2.Jb⟩
     refine lf (.cons (k:=1) rfl<|.cons (k:=3) rfl<|.cons (k:=5) rfl<|Sub.nil _) ?_
     refine ba ?_
     first
      |exact⟨_,hmeas,out1,K2,P2,O2,q2,hDe,hok2,rfl,rfl⟩
      |exact⟨_,hmeas,out1,K1,P1,O1,n1,hDe,hok',rfl,rfl⟩
end PW
end Go.Proofs.YtnegbdpggideiaaGreatDoor
namespace Go.Proofs.YtnegbdpggideiaaGreatDoor
namespace PW
open Go.RowKit cH Mem Net fw
theorem fD(T:an)(k x:Int):Can Tryz.prog 80 [aN T,bW k x] (· =flag (ao T&&bZ T k x)):=by
 obtain⟨q1,h1⟩:∃q,decide (0≤x)=q:=⟨_,rfl⟩
 obtain⟨q2,h2⟩:∃q,decide (x<(T.ae.length:Int))=q:=⟨_,rfl⟩
 obtain⟨q5,h5⟩:∃q,decide (x<T.nodes)=q:=⟨_,rfl⟩
 obtain⟨q3,h3⟩:∃q,decide (1≤x)=q:=⟨_,rfl⟩
 obtain⟨q4,h4⟩:∃q,decide (x≤64)=q:=⟨_,rfl⟩
 have hnb:bd T x=(q1&&q5):=by rw[←h1,←h5,←Bool.decide_and];rfl
 have hB:bZ T k x=if k=1 then(q1&&q2) else if k=2 then(q1&&q5) else if k=3 then(q3&&q4) else false:=by unfold bZ;rw[h1,h2,h3,h4,hnb]
 rw[hB]
 refine aE Tryz.func80 rfl Tryz.ntmps80 rfl<|ab (.a 3 rfl<|.k [2,3] rfl)<|ah<|ab (.a 1 rfl<|.c rfl (fX T) rfl<|.a 1 rfl<|.k [2,3,7] rfl)<|ag rfl (fun hv1=>?_) (fun hv1=>?_)
 ·have hv:ao T=false:=by simpa using hv1
  exact ab (.a 1 rfl<|.k [4] rfl)<|aq<|⟨_,_,aA.of rfl,aB.pure,by rw[hv];rfl⟩
 ·have hv:ao T=true:=by simpa using hv1
  rw[hv,Bool.true_and]
  refine ai<|ah<|ab (.a 2 rfl<|.k [2,3,9] rfl)<|au<|ab (.a 2 rfl<|.k [2,3,9,10] rfl)<|ag rfl (fun hk1=>?_) (fun hk1=>?_)
  ·have k1:k=1:=tt hk1
   refine bu 4 (.raw (.bool (q1&&q2))) [] rfl ?_ ?_
   ·refine .a 2 rfl<|.v (b9 rfl (h1)) rfl<|.a 1 rfl<|?_
    cases q1
    ·exact .a 8 rfl<|.k [4] rfl
    ·exact .a 5 rfl<|.v (b9 rfl (h2)) rfl<|.a 2 rfl<|.k [4] rfl
   exact aq<|⟨_,_,aA.of rfl,aB.pure,by rw[if_pos k1];rfl⟩
  ·have k1:¬k=1:=ff hk1
   refine ab (.a 2 rfl<|.k [2,3,9,23] rfl)<|ag rfl (fun hk2=>?_) (fun hk2=>?_)
   ·have k2:k=2:=tt hk2
    refine bu 4 (.raw (.bool (q1&&q5))) [] rfl ?_ ?_
    ·refine .a 2 rfl<|.v (b9 rfl (h1)) rfl<|.a 1 rfl<|?_
     cases q1
     ·exact .a 7 rfl<|.k [4] rfl
     ·exact .a 4 rfl<|.v (b9 rfl (h5)) rfl<|.a 2 rfl<|.k [4] rfl
    exact aq<|⟨_,_,aA.of rfl,aB.pure,by rw[if_neg k1,if_pos k2];rfl⟩
   ·have k2:¬k=2:=ff hk2
    refine ab (.a 2 rfl<|.k [3,35] rfl)<|ag rfl (fun hk3=>?_) (fun hk3=>?_)
    ·have k3:k=3:=tt hk3
     refine bu 4 (.raw (.bool (q3&&q4))) [] rfl ?_ ?_
     ·refine .a 2 rfl<|.v (b9 rfl (h3)) rfl<|.a 1 rfl<|?_
      cases q3
      ·exact .a 5 rfl<|.k [4] rfl
      ·exact .a 2 rfl<|.v (b9 rfl (h4)) rfl<|.a 2 rfl<|.k [4] rfl
     exact aq<|⟨_,_,aA.of rfl,aB.pure,by rw[if_neg k1,if_neg k2,if_pos k3];rfl⟩
    ·have k3:¬k=3:=ff hk3
     exact ai<|ab (.a 1 rfl<|.k [4] rfl)<|aq<|⟨_,_,aA.of rfl,aB.pure,by rw[if_neg k1,if_neg k2,if_neg k3];rfl⟩
theorem zo(L:List np)(i:Nat)(hi:i<L.length):((gP L).drop (i*7)).take 7=jK (cB L i):=by
 apply List.ext_getElem?
 intro j
 by_cases hj:j<7
 ·rw[List.getElem?_take,if_pos hj,List.getElem?_drop,eG L i j hi hj]
 ·rw[List.getElem?_take,if_neg hj,List.getElem?_eq_none (by simp[jK];omega)]
theorem uG(T:an)(k x:Int)(a:Nat)(ha:a<2*T.ae.length)(hl:T.ae.length≤256):Can Tryz.prog 117 [aN T,bW k x,num a] (· =flag (cD k x T.ae (a / 2))):=by
 have hi:a / 2<T.ae.length:=by omega
 obtain⟨e,he⟩:∃e,cB T.ae (a / 2)=e:=⟨_,rfl⟩
 have hdr:=zo T.ae (a / 2) hi
 rw[he]at hdr
 obtain⟨q1,h1⟩:∃q,decide (((a / 2:Nat):Int)=x)=q:=⟨_,rfl⟩
 obtain⟨q2,h2⟩:∃q,decide (e.a=x)=q:=⟨_,rfl⟩
 obtain⟨q3,h3⟩:∃q,decide (e.b=x)=q:=⟨_,rfl⟩
 obtain⟨q4,h4⟩:∃q,decide (e.uz=x)=q:=⟨_,rfl⟩
 have hP:cD k x T.ae (a / 2)=if k=1 then q1 else if k=2 then(q2||q3) else q4:=by unfold cD;rw[he,h1,h2,h3,h4]
 rw[hP]
 refine aE Tryz.func117 rfl Tryz.ntmps117 rfl<|ab (.a 3 rfl<|.k [2,3,4] rfl)<|aP<|av 3 rfl<|bC (iQ rfl rfl rfl (by decide) ((show(a:Int).tdiv 2=((a / 2:Nat):Int) by rw[Int.tdiv_eq_ediv_of_nonneg (by omega)];omega)) (by unfold In64;omega)) rfl<|bC (aJ ((a / 2*7)) rfl) rfl<|bC (gO rfl (hdr) rfl) rfl<|av 2 rfl<|aG [2,4,7] rfl ?_
 refine er (σ':=[some (.cells 127 (jK e))]) rfl ?_
 refine ah<|ab (.a 2 rfl<|.k [2,4,7,15] rfl)<|au<|ab (.a 2 rfl<|.k [2,4,7,15,16] rfl)<|ag rfl (fun hk1=>?_) (fun hk1=>?_)
 ·have k1:k=1:=tt hk1
  exact ab (.a 1 rfl<|.v (iQ rfl rfl rfl (by decide) ((show(a:Int).tdiv 2=((a / 2:Nat):Int) by rw[Int.tdiv_eq_ediv_of_nonneg (by omega)];omega)) (by unfold In64;omega)) rfl<|.a 2 rfl<|.v (b9 rfl (h1)) rfl<|.a 1 rfl<|.k [6] rfl)<|aq<|⟨_,_,aA.of rfl,aB.pure,by rw[if_pos k1];rfl⟩
 ·have k1:¬k=1:=ff hk1
  refine ab (.a 2 rfl<|.k [4,7,23] rfl)<|ag rfl (fun hk2=>?_) (fun hk2=>?_)
  ·have k2:k=2:=tt hk2
   refine bu 6 (.raw (.bool (q2||q3))) [] rfl ?_ ?_
   ·refine .a 4 rfl<|.v (b9 rfl (h2)) rfl<|.a 1 rfl<|?_
    cases q2
    ·exact .a 4 rfl<|.v (b9 rfl (h3)) rfl<|.a 2 rfl<|.k [6] rfl
    ·exact .a 7 rfl<|.k [6] rfl
   exact aq<|⟨_,_,aA.of rfl,aB.pure,by rw[if_neg k1,if_pos k2];rfl⟩
  ·have k2:¬k=2:=ff hk2
   exact ai<|ab (.a 4 rfl<|.v (b9 rfl (h4)) rfl<|.a 1 rfl<|.k [6] rfl)<|aq<|⟨_,_,aA.of rfl,aB.pure,by rw[if_neg k1,if_neg k2];rfl⟩
def il(T:an)(k x:Int)(m:Nat):List Bool:=(List.range (2*T.ae.length)).map fun a=>decide (a<m)&&cD k x T.ae (a / 2)
theorem zC(T:an)(k x:Int):il T k x 0=List.replicate (2*T.ae.length) false:=by
 unfold il
 apply List.ext_getElem (by simp)
 intro i h1 h2
 simp
theorem kj(T:an)(k x:Int)(m:Nat):(il T k x m).length=2*T.ae.length:=by simp[il]
theorem Bk{T:an}{k x:Int}{m:Nat}(h:cD k x T.ae (m / 2)=true):(il T k x m).set m true=il T k x (m+1):=by
 apply List.ext_getElem (by simp[il])
 intro i h1 h2
 rw[List.getElem_set]
 by_cases e:m=i
 ·subst e;simp[il,h]
 ·rw[if_neg e]
  simp only[il,List.getElem_map,List.getElem_range]
  rw[show decide (i<m+1)=decide (i<m) from decide_eq_decide.2 (by omega)]
theorem DW{T:an}{k x:Int}{m:Nat}(h:cD k x T.ae (m / 2)=false):il T k x (m+1)=il T k x m:=by
 unfold il
 refine List.map_congr_left fun a _=>?_
 by_cases e:a=m
 ·subst e;rw[h];simp
 ·rw[show decide (a<m+1)=decide (a<m) from decide_eq_decide.2 (by omega)]
theorem Bx(T:an)(k x:Int):il T k x (2*T.ae.length)=aC T k x:=by
 unfold il aC
 refine List.map_congr_left fun a ha=>?_
 rw[decide_eq_true (List.mem_range.1 ha),Bool.true_and]
def iZ(L:List Bool):Option cZ:=some (.row 4 1 L.length (bQ L))
set_option maxHeartbeats 2000000 in
theorem xR(T:an)(k x:Int):bS Tryz.prog 88 [aN T,.slice 1 (ct k x)] [] (fun r σ'=>((ao T&&bZ T k x)=false∧r= .tuple [.raw (.slice none 0 0),num 1])∨((ao T&&bZ T k x)=true∧r= .tuple [.own 0,num 0]∧σ'=[iZ (aC T k x)])):=by
 refine cw Tryz.func88 rfl Tryz.ntmps88 rfl<|ab (.a 3 rfl<|.k [1,2] rfl)<|ah<|ab (.a 1 rfl<|.c rfl (fX T) rfl<|.a 1 rfl<|.k [1,2,11] rfl)<|ag rfl (fun h1=>?_) (fun h1=>?_)
 ·have hv:ao T=false:=by simpa using h1
  exact ab (.a 2 rfl<|.k [4,5] rfl)<|aq<|⟨_,aA.of rfl,.inl ⟨by rw[hv];rfl,rfl⟩⟩
 ·have hv:ao T=true:=by simpa using h1
  have hll:=bJ hv
  refine ai<|aP<|av 3 rfl<|bC (aS rfl) rfl<|cp (dF rfl (bI.rk.get rfl) rfl rfl (show 2*(T.ae.length:Int)=((2*T.ae.length:Nat):Int) by omega) (show 2*(T.ae.length:Int)=((2*T.ae.length:Nat):Int) by omega) ⟨by unfold maxLen;omega,by omega⟩) rfl<|av 1 rfl<|aG [1,2,6] rfl ?_
  refine er (σ':=[iZ (il T k x 0)]) (by unfold iZ;rw[zC,List.length_replicate,←iA];rfl) ?_
  refine ah<|ab (.a 1 rfl<|.k [1,2,6,7] rfl)<|au<|eu [1,2,6,7] rfl<|bf (fun r st=>∃(i:Nat) (M:List Bool),i≤1∧r=1 - i∧(i=0→M=il T k x 0)∧(i=1→bZ T k x=true∧M=aC T k x)∧st=⟨[(1,.slice 1 (ct k x)),(2,.aY (bq T) 0),(6,.own 0),(7,num i)],[iZ M]⟩) 1 ⟨0,_,by omega,rfl,fun _=>rfl,fun h=>by omega,rfl⟩ ?_
  rintro r st ⟨i,M,hi,rfl,hM0,hM1,rfl⟩
  refine ah<|ab (.a 4 rfl<|.k [1,2,6,7,20] rfl)<|ag rfl (fun h2=>?_) (fun h2=>?_)
  ·have hi0:i=0:=by have:=tt h2;omega
   subst hi0
   obtain rfl:=hM0 rfl
   refine ai<|ah<|au<|ah<|dY mixed (by kernel_rfl) (.a 3 rfl<|.v [24,25] (aJ (0) rfl) rfl rfl<|.v [26] (gO rfl ((show((ct k x).drop 0).take 2=ct k x from rfl)) rfl) rfl rfl<|.v [23,27] (dJ rfl (fD T k x)) rfl rfl<|.a 1 rfl<|.k [1,2,6,7,29] rfl) ?_
   refine ag rfl (fun h3=>?_) (fun h3=>?_)
   ·have hc:(ao T&&bZ T k x)=false:=(Bool.not_eq_true' _).mp h3
    exact ab (.a 2 rfl<|.k [4,5] rfl)<|aq<|⟨_,aA.of rfl,.inl ⟨hc,rfl⟩⟩
   ·have hvc:(ao T&&bZ T k x)=true:=by simpa using h3
    have hc:bZ T k x=true:=(Bool.and_eq_true_iff.1 hvc).2
    refine ai<|ab (.a 1 rfl<|.k [1,2,6,7,8] rfl)<|au<|eu [1,2,6,7,8] rfl<|bf (fun r st=>∃m:Nat,m≤2*T.ae.length∧r=2*T.ae.length - m∧st=⟨[(1,.slice 1 (ct k x)),(2,.aY (bq T) 0),(6,.own 0),(7,num 0),(8,num m)],[iZ (il T k x m)]⟩) (2*T.ae.length) ⟨0,by omega,by omega,rfl⟩ ?_
    rintro r st ⟨m,hm,rfl,rfl⟩
    have hml:=kj T k x m
    refine ah<|ab (.a 4 rfl<|.k [1,2,6,7,8,33] rfl)<|ag rfl (fun h4=>?_) (fun h4=>?_)
    ·have hlt:m<2*T.ae.length:=by have:=tt h4;omega
     refine ai<|ah<|au<|dY mixed (by kernel_rfl) (.a 3 rfl<|.v [37,38] (aJ (0) rfl) rfl rfl<|.v [39] (gO rfl ((show((ct k x).drop 0).take 2=ct k x from rfl)) rfl) rfl rfl<|.a 1 rfl<|.v [36,40,41] (dJ rfl (uG T k x m hlt (by omega))) rfl rfl<|.k [1,2,6,7,8,42] rfl) ?_
     refine ag rfl (fun h5=>?_) (fun h5=>?_)
     ·have hst:=Bk h5
      refine bF<|av 2 rfl<|bC (aJ (m) rfl) rfl<|bg ((by first|exact bE rfl (bI.tk.get rfl) rfl rfl rfl (by first|omega|(simp;omega))|exact aV rfl (bI.tk.get rfl) rfl rfl rfl (by first|omega|(simp;omega)))) rfl rfl<|aG [1,2,6,7,8] rfl ?_
      refine az (.a 1 rfl<|.v (aS rfl) rfl<|.a 1 rfl<|.k [1,2,6,7,8] rfl) ?_
      refine⟨2*T.ae.length - (m+1),by omega,m+1,by omega,rfl,?_⟩
      first
       |(rw[hst];rfl)
       |(rw[hst];unfold iZ;rw[kj,kj];rfl)
     ·have hst:=DW h5
      refine ai<|az (.a 1 rfl<|.v (aS rfl) rfl<|.a 1 rfl<|.k [1,2,6,7,8] rfl) ?_
      refine⟨2*T.ae.length - (m+1),by omega,m+1,by omega,rfl,?_⟩
      first
       |(rw[hst];rfl)
       |(rw[hst];unfold iZ;rw[kj,kj];rfl)
    ·have hme:m=2*T.ae.length:=by have:=ff h4;omega
     subst hme
     refine ba<|az (.a 1 rfl<|.v (aS rfl) rfl<|.a 1 rfl<|.k [1,2,6,7] rfl) ?_
     exact⟨0,by omega,1,_,by omega,rfl,fun h=>by omega,fun _=>⟨hc,rfl⟩,by rw[Bx];rfl⟩
  ·have hi1:i=1:=by have:=ff h2;omega
   subst hi1
   obtain⟨hc,rfl⟩:=hM1 rfl
   exact ba<|ab (.a 3 rfl<|.k [4,5] rfl)<|aq<|⟨_,aA.of rfl,.inr ⟨by rw[hv,hc];rfl,rfl,rfl⟩⟩
theorem rU(T:an)(k x:Int):bS Tryz.prog 32 [aN T,bW k x] [] (fun r σ'=>((ao T&&bZ T k x)=false∧r= .tuple [.raw (.slice none 0 0),num 1])∨((ao T&&bZ T k x)=true∧r= .tuple [.own 0,num 0]∧σ'=[iZ (aC T k x)])):=by
 refine cw Tryz.func32 rfl Tryz.ntmps32 rfl<|ab (.a 4 rfl<|.k [2,3] rfl)<|ab (.a 3 rfl<|.k [2,6] rfl)<|aP<|av 2 rfl<|cP rfl rfl (bS.mono (bS.mono (xR T k x) (fun r σ' h=>(show ∃y z,r= .tuple [y,z]∧(((ao T&&bZ T k x)=false∧y= .raw (.slice none 0 0)∧z=num 1)∨((ao T&&bZ T k x)=true∧y= .own 0∧z=num 0∧σ'=[iZ (aC T k x)])) from by rcases h with⟨h1,rfl⟩|⟨h1,rfl,h2⟩;exact⟨_,_,rfl,.inl ⟨h1,rfl,rfl⟩⟩;exact⟨_,_,rfl,.inr ⟨h1,rfl,rfl,h2⟩⟩))) (fun r σ' h=>?_))
 obtain⟨y,z,rfl,hyz⟩:=h
 refine av 4 rfl<|aG [4,5] rfl ?_
 refine aq<|⟨_,aA.of rfl,?_⟩
 rcases hyz with⟨h1,rfl,rfl⟩|⟨h1,rfl,rfl,rfl⟩
 ·exact .inl ⟨h1,rfl⟩
 ·exact .inr ⟨h1,rfl,rfl⟩
theorem mV(T:an)(k x:Int):Can Tryz.prog 32 [aN T,bW k x] (· =iM (da T k x) (aC T k x)):=by
 refine Can.KL (rU T k x) ?_
 rintro r σ' (⟨h1,rfl⟩|⟨h1,rfl,rfl⟩)
 ·refine⟨_,aB.bx (aj.cons aB.bT (aj.cons aB.pure aj.nil)),?_⟩
  have he:da T k x=1:=by unfold da;rw[if_neg (by rw[h1];simp)]
  rw[he]
  rfl
 ·refine⟨_,aB.bx (aj.cons (aB.eH rfl aj.pure) (aj.cons aB.pure aj.nil)),?_⟩
  unfold iM da aQ
  rw[if_pos h1,if_pos rfl]
end PW
end Go.Proofs.YtnegbdpggideiaaGreatDoor
namespace Go.Proofs.YtnegbdpggideiaaGreatDoor
namespace PW
open Go.RowKit cH Mem Net
def fV(T:an)(D:List Bool)(L:List Int)(dn:Int)(d a:Nat):Bool:=
 !(aI D a||decide (L.getD (aW T a).toNat 0<0)||(decide (aW T a≠(d:Int))&&cU T (aW T a).toNat))&&decide (L.getD (aW T a).toNat 0+cb T a=dn)
def jw(T:an)(D:List Bool)(L:List Int)(dn:Int)(d:Nat)(l:List Int):List Int:=l.filter fun a=>fV T D L dn d a.toNat
theorem s7(T:an)(D:List Bool)(L lv:List Int)(n d:Nat)(hv:ao T=true)(hf:bN T D=true)(hL:(L.length:Int)=T.nodes)(hub:∀x∈L, -1≤x∧x≤4194240)(hn:(n:Int)<T.nodes)(hd:(d:Int)<T.nodes)
    (hlv:∀a∈lv,0≤a∧a<2*(T.ae.length:Int)) (hll:lv.length≤100000):
    Can Tryz.prog 148 [aN T,aQ D,aw L,aw lv,num n,num d] (· =aw (if n=d∨L.getD n 0<0 then [] else jw T D L (L.getD n 0) d lv)):=by
  have hbd:=gH hv
  have hS:=aM hv
  have hnL:n<L.length:=by omega
  refine aE Tryz.func148 rfl Tryz.ntmps148 rfl<|ab (.a 2 rfl<|.k [1,2,3,4,5,6] rfl)<|ab (.a 1 rfl<|.k [1,2,3,4,5,6,13] rfl) ?_
  obtain⟨q1,hq1⟩:∃q,decide ((n:Int)=(d:Int))=q:=⟨_,rfl⟩
  obtain⟨q2,hq2⟩:∃q,decide (L.getD n 0<0)=q:=⟨_,rfl⟩
  refine ah<|bu 26 (.raw (.bool (q1||q2))) [1,2,3,4,5,6,13] rfl ?_ ?_
  · refine .a 2 rfl<|.v (b9 rfl (hq1)) rfl<|.a 1 rfl<|?_
    cases q1
    · exact .a 2 rfl<|.v (aJ (n) rfl) rfl<|.v (aL rfl (ax L n hnL)) rfl<|.v (b9 rfl (hq2)) rfl<|.a 1 rfl<|.k [26,1,2,3,4,5,6,13] rfl
    · exact .a 6 rfl<|.k [26,1,2,3,4,5,6,13] rfl
  refine ag (b:=q1||q2) rfl (fun hc=>?_) (fun hc=>?_)
  · have:n=d∨L.getD n 0<0:=by
      rcases Bool.or_eq_true_iff.1 hc with h|h
      · rw[h]at hq1;exact .inl (by have:=of_decide_eq_true hq1;omega)
      · rw[h]at hq2;exact .inr (of_decide_eq_true hq2)
    rw[if_pos this]
    refine ab (.a 2 rfl<|.k [12] rfl)<|aq ⟨_,_,.cons (.tmp rfl) .nil,aB.bT,rfl⟩
  · obtain ⟨c1, c2⟩ := Bool.or_eq_false_iff.1 hc
    rw[c1]at hq1
    rw[c2]at hq2
    have hnd:¬(n=d∨L.getD n 0<0):=by
      have:=of_decide_eq_false hq1
      have:=of_decide_eq_false hq2
      omega
    rw[if_neg hnd]
    refine ai<|ah<|ab (.a 3 rfl<|.k [1,2,4,5,6,13,28,29,30] rfl)<|fp 13 3 1 rfl ?_
    refine au<|lf (.cons (k:=1) rfl<|.cons (k:=2) rfl<|.cons (k:=4) rfl<|.cons (k:=5) rfl<|.cons (k:=6) rfl<|.cons (k:=13) rfl<|.cons (k:=28) rfl<|.cons (k:=29) rfl<|.cons (k:=30) rfl<|Sub.nil _) ?_
    refine bf (fun r s=>∃i,i≤lv.length∧r=lv.length - i∧s=⟨[(1,aQ D),(2,aw L),(4,num n),(5,num d),(6,.aY (bq T) 0),(13,.own 0),(28,aw lv),(29,num lv.length),(30,num i)],[some (.row 3 1 (jw T D L (L.getD n 0) d (lv.take i)).length (aR (jw T D L (L.getD n 0) d (lv.take i))))]⟩) lv.length ⟨0,by omega,by omega,?_⟩ ?_
    · simp only[List.take_zero,jw,List.filter_nil]
      rfl
    · rintro r s ⟨i,hi,rfl,rfl⟩
      refine ab (.a 1 rfl<|.k [1,2,4,5,6,13,28,29,30,31] rfl)<|ah<|ag (b:=decide ((i:Int)<(lv.length:Int))) rfl (fun hc=>?_) (fun hc=>?_)
      · have hlt:i<lv.length:=by have:=of_decide_eq_true hc;omega
        refine ai ?_
        obtain⟨a,ha⟩:∃a:Nat,lv.getD i 0=(a:Int):=Int.eq_ofNat_of_zero_le (hlv _ (bO hlt)).1
        have ham:a<2*T.ae.length:=by
          have:=(hlv (lv.getD i 0) (bO hlt)).2
          omega
        have hstep:jw T D L (L.getD n 0) d (lv.take (i+1))=jw T D L (L.getD n 0) d (lv.take i)++(if fV T D L (L.getD n 0) d a then [(a:Int)] else []):=by
          unfold jw
          rw[List.take_add_one,List.filter_append,show lv[i]? =some (a:Int) by rw[←ha,List.getD_eq_getElem?_getD];simp[hlt]]
          congr 1
          simp only[Option.toList_some,List.filter_cons,List.filter_nil,Int.toNat_natCast]
        have hlen:(jw T D L (L.getD n 0) d (lv.take i)).length≤100000:=Nat.le_trans (List.length_filter_le _ _) (by rw[List.length_take];omega)
        obtain⟨hd0,hhN⟩:=hS.head a ham
        obtain⟨h,hh⟩:=Int.eq_ofNat_of_zero_le hd0
        have hhL:h<L.length:=by omega
        have hub1: -1≤L.getD h 0∧L.getD h 0≤4194240:=hub _ (bO hhL)
        have hcb:=hS.cost a ham
        have hDl:D.length=0∨a<D.length:=by simp only[bN,decide_eq_true_eq]at hf;omega
        have hov:T.over.length=0∨h<T.over.length:=by have:=hbd.2.2.2;omega
        refine ah<|au<|ab (.v (aJ (i) rfl) rfl<|.v (aL rfl ((ax lv i hlt).trans (by rw[ha]))) rfl<|.a 1 rfl<|.k [1,2,4,5,6,13,15,28,29,30] rfl)<|ab (.a 2 rfl<|.c rfl (hh▸fQ T a ham (by omega)) rfl<|.a 1 rfl<|.k [1,2,4,5,6,13,15,16,28,29,30] rfl) ?_
        obtain⟨p1,hp1⟩:∃q,aI D a=q:=⟨_,rfl⟩
        obtain⟨p2,hp2⟩:∃q,decide (L.getD h 0<0)=q:=⟨_,rfl⟩
        obtain⟨p3,hp3⟩:∃q,decide ((h:Int)≠(d:Int))=q:=⟨_,rfl⟩
        obtain⟨p4,hp4⟩:∃q,cU T h=q:=⟨_,rfl⟩
        obtain⟨p5,hp5⟩:∃q,decide (L.getD h 0+cb T a=L.getD n 0)=q:=⟨_,rfl⟩
        have hpass:fV T D L (L.getD n 0) d a=(!((p1||p2)||(p3&&p4))&&p5):=by
          unfold fV;rw[hh,Int.toNat_natCast,hp1,hp2,hp3,hp4,hp5]
        refine ah<|bu 56 (.raw (.bool ((p1||p2)||(p3&&p4)))) [1,2,4,5,6,13,15,16,28,29,30] rfl ?_ ?_
        · refine .a 2 rfl<|.c rfl (hp1▸jE D a hDl) rfl<|.a 1 rfl<|?_
          cases p1
          · refine .a 2 rfl<|.v (aJ (h) rfl) rfl<|.v (aL rfl (ax L h hhL)) rfl<|.v (b9 rfl (hp2)) rfl<|.a 2 rfl<|?_
            cases p2
            · refine .a 2 rfl<|.v (b9 rfl (hp3)) rfl<|.a 1 rfl<|?_
              cases p3
              · exact .a 5 rfl<|.k [56,1,2,4,5,6,13,15,16,28,29,30] rfl
              · exact .a 2 rfl<|.c rfl (hp4▸oy T h hov) rfl<|.a 2 rfl<|.k [56,1,2,4,5,6,13,15,16,28,29,30] rfl
            · exact .a 9 rfl<|.k [56,1,2,4,5,6,13,15,16,28,29,30] rfl
          · exact .a 16 rfl<|.k [56,1,2,4,5,6,13,15,16,28,29,30] rfl
        refine ag (b:=(p1||p2)||(p3&&p4)) rfl (fun hc=>?_) (fun hc=>?_)
        · rw[hc]at hpass
          refine ba<|az (.v (aS rfl) rfl<|.a 1 rfl<|.k [1,2,4,5,6,13,28,29,30] rfl) ?_
          refine⟨lv.length - (i+1),by omega,i+1,by omega,rfl,?_⟩
          rw[hstep,hpass]
          simp only[Bool.not_true,Bool.false_and,Bool.false_eq_true,if_false,List.append_nil]
          rfl
        · rw[hc]at hpass
          refine ai<|dY mixed (by kernel_rfl) (.a 2 rfl<|.v [57,58] (aJ (h) rfl) rfl rfl<|.v [59] (aL rfl (ax L h hhL)) rfl rfl<|.a 2 rfl<|.v [61,62] (dJ rfl (lL T a ham)) rfl rfl<|.v [60,63] (aS rfl) rfl rfl<|.a 2 rfl<|.v [65,66] (aJ (n) rfl) rfl rfl<|.v [67] (aL rfl (ax L n hnL)) rfl rfl<|.v [64,68] (b9 rfl (hp5)) rfl rfl<|.k [1,2,4,5,6,13,15,28,29,30,69] rfl) ?_
          refine ag (b:=p5) rfl (fun hc5=>?_) (fun hc5=>?_)
          · rw[hc5]at hpass
            refine bF<|av 3 rfl<|cp (bA rfl (bI.rk.get rfl) rfl rfl rfl rfl (by unfold maxLen;omega)) rfl<|av 1 rfl ?_
            refine dD [1] (.c 1<|.c 2<|.c 4<|.c 5<|.c 6<|.c 13<|.c 28<|.c 29<|.c 30<|.nil) (.kept rfl (.eJ rfl (cN _ _))<|.nil) rfl rfl (bc ?_)
            refine az (.v (aS rfl) rfl<|.a 1 rfl<|.k [1,2,4,5,6,13,28,29,30] rfl) ?_
            refine⟨lv.length - (i+1),by omega,i+1,by omega,rfl,?_⟩
            rw[hstep,hpass]
            simp only[Bool.not_false,Bool.true_and,if_true,List.length_append,List.length_singleton]
            rfl
          · rw[hc5]at hpass
            refine ai<|az (.v (aS rfl) rfl<|.a 1 rfl<|.k [1,2,4,5,6,13,28,29,30] rfl) ?_
            refine⟨lv.length - (i+1),by omega,i+1,by omega,rfl,?_⟩
            rw[hstep,hpass]
            simp only[Bool.not_false,Bool.true_and,Bool.false_eq_true,if_false,List.append_nil]
            rfl
      · have:i=lv.length:=by have:=of_decide_eq_false hc;omega
        subst this
        rw[List.take_length]
        exact ba<|ab (.a 2 rfl<|.k [12] rfl)<|aq ⟨_,_,.cons (.tmp rfl) .nil,aB.eH rfl aj.pure,rfl⟩
end PW
end Go.Proofs.YtnegbdpggideiaaGreatDoor
namespace Go.Proofs.YtnegbdpggideiaaGreatDoor
namespace PW
open Go.RowKit cH Mem Net Heap
instance (rs:List (List Int)):fj (jt rs):=by unfold jt;infer_instance
instance (T:an):cz (bq T):=by unfold bq;infer_instance
def cf(T:an)(D:List Bool)(ns:List Int):Int:=if ao T&&bN T D then(if ns.all (bd T) then 0 else 2) else 1
theorem pz(T:an)(D:List Bool)(ns:List Int)(hns:ns.length≤1000):Can Tryz.prog 173 [aN T,aQ D,aw ns] (· =num (cf T D ns)):=by
 refine aE Tryz.func173 rfl Tryz.ntmps173 rfl<|ab (.a 2 rfl<|.k [1,2,3] rfl)<|ah ?_
 obtain⟨q1,hq1⟩:∃q,ao T=q:=⟨_,rfl⟩
 obtain⟨q2,hq2⟩:∃q,bN T D=q:=⟨_,rfl⟩
 refine bu 17 (.raw (.bool ((!q1)||(!q2)))) [2,3] rfl ?_ ?_
 ·refine .a 1 rfl<|.c rfl (hq1▸eC T) rfl<|.a 2 rfl<|?_
  cases q1
  ·exact .a 5 rfl<|.k [17,2,3] rfl
  ·exact .a 2 rfl<|.c rfl (hq2▸lM T D (by have:=bJ hq1;omega)) rfl<|.a 2 rfl<|.k [17,2,3] rfl
 refine ag rfl (fun hc=>?_) (fun hc=>?_)
 ·have hch:cf T D ns=1:=by
   unfold cf
   rw[hq1,hq2,if_neg]
   revert hc
   cases q1<;>cases q2<;>simp
  exact ab (.a 1 rfl<|.k [6] rfl)<|aq<|⟨_,_,aA.of rfl,aB.pure,by rw[hch];rfl⟩
 ·have hok:(ao T&&bN T D)=true:=by
   rw[hq1,hq2]
   revert hc
   cases q1<;>cases q2<;>simp
  refine ai<|ah<|ab (.a 3 rfl<|.k [3,18,19,20] rfl)<|au<|eu [3,18,19,20] rfl<|bf (fun r s=>∃i,i≤ns.length∧(ns.take i).all (bd T)=true∧r=ns.length - i∧s=⟨[(3,.aY (bq T) 0),(18,aw ns),(19,num ns.length),(20,num i)],[]⟩) ns.length ⟨0,by omega,by simp,by omega,rfl⟩ ?_
  rintro r s ⟨i,hi,hall,rfl,rfl⟩
  refine ab (.a 1 rfl<|.k [3,18,19,20,21] rfl)<|ah<|ag rfl (fun hc=>?_) (fun hc=>?_)
  ·have hlt:i<ns.length:=by have:=of_decide_eq_true hc;omega
   refine ai<|ah<|au<|ab (.v (aJ (i) rfl) rfl<|.v (aL rfl (ax ns i hlt)) rfl<|.a 1 rfl<|.k [3,8,18,19,20] rfl)<|ab (.a 2 rfl<|.c rfl (dv T _) rfl<|.a 1 rfl<|.k [3,18,19,20,27] rfl)<|ag rfl (fun hc=>?_) (fun hc=>?_)
   ·have hch:cf T D ns=2:=by
     unfold cf
     rw[if_pos hok,if_neg]
     intro h
     have h1:=List.all_eq_true.1 h _ (bO (d:=0) hlt)
     rw[h1]at hc
     cases hc
    exact ab (.a 1 rfl<|.k [6] rfl)<|aq<|⟨_,_,aA.of rfl,aB.pure,by rw[hch];rfl⟩
   ·have hall':(ns.take (i+1)).all (bd T)=true:=by
     rw[dc ns i 0 hlt,List.all_append,hall]
     have:bd T (ns.getD i 0)=true:=by revert hc;cases bd T (ns.getD i 0)<;>simp
     simp only[List.all_cons,this,List.all_nil,Bool.and_self]
    refine ai<|az (.v (aS rfl) rfl<|.a 1 rfl<|.k [3,18,19,20] rfl) ?_
    exact⟨ns.length - (i+1),by omega,i+1,by omega,hall',rfl,rfl⟩
  ·have hie:i=ns.length:=by have:=of_decide_eq_false hc;omega
   refine ba<|ab (.a 1 rfl<|.k [6] rfl)<|aq<|⟨_,_,aA.of rfl,aB.pure,?_⟩
   unfold cf
   rw[if_pos hok,if_pos (by rw[hie,List.take_length]at hall;exact hall)]
   rfl
theorem A4(rs:List (List Int))(i:Nat)(hi:i<rs.length):Can Tryz.prog 175 ([num i]++[.aY [jt rs] 0]) (· =aw (rs.getD i [])):=by
 exact aE Tryz.func175 rfl Tryz.ntmps175 rfl<|ab (.a 1 rfl<|.k [0,1] rfl)<|ab (.a 2 rfl<|.v (aJ (i) rfl) rfl<|.v (aL rfl ((show(rs.map aw)[i]? =some (aw (rs.getD i [])) by simp[hi]))) rfl<|.a 1 rfl<|.k [3] rfl)<|aq<|⟨_,_,aA.of rfl,aB.pure,rfl⟩
theorem BK(T:an)(a:Nat)(ha:a<2*T.ae.length):Can Tryz.prog 176 ([num a]++[.aY (bq T) 0]) (· =num (aZ T a)):=by
 exact aE Tryz.func176 rfl Tryz.ntmps176 rfl<|ab (.a 1 rfl<|.k [0,1] rfl)<|ab (.a 2 rfl<|.c rfl (jn T a ha) rfl<|.a 1 rfl<|.k [3] rfl)<|aq<|⟨_,_,aA.of rfl,aB.pure,rfl⟩
def dh(e:Int)(l:List Int):PV:=.tuple [aw (if e=0 then l else []),num e]
instance (e:Int) (l:List Int):IsPure (dh e l):=by unfold dh;infer_instance
theorem rC(T:an)(D:List Bool)(d:Int):Can Tryz.prog 151 [aN T,aQ D,num d] (· =dh (cf T D [d]) (bn T D d.toNat false)):=by
 refine aE Tryz.func151 rfl Tryz.ntmps151 rfl<|ab (.a 3 rfl<|.k [1,2,3] rfl)<|ah<|ab (.a 4 rfl<|.c rfl (pz T D [d] (by simp)) rfl<|.a 1 rfl<|.k [1,2,3,8] rfl)<|ab (.a 2 rfl<|.k [1,2,3,8,17] rfl)<|ag rfl (fun hc=>?_) (fun hc=>?_)
 ·have he:cf T D [d]≠0:=of_decide_eq_true hc
  exact ab (.a 3 rfl<|.k [6,7] rfl)<|aq<|⟨_,_,aA.of rfl,aB.bx (aj.cons aB.bT (aj.cons aB.pure aj.nil)),by unfold dh;rw[if_neg he];rfl⟩
 ·have he:cf T D [d]=0:=by have:=of_decide_eq_false hc;omega
  have hok:(ao T&&bN T D)=true∧bd T d=true:=by
   unfold cf at he
   split at he
   ·rename_i h1
    split at he
    ·rename_i h2;exact⟨h1,by simpa using h2⟩
    ·omega
   ·omega
  obtain⟨hvf,hnd⟩:=hok
  obtain⟨hv,hf⟩:=Bool.and_eq_true_iff.1 hvf
  have hd:0≤d∧d<T.nodes:=by simpa[bd]using hnd
  obtain⟨n,rfl⟩:=Int.eq_ofNat_of_zero_le hd.1
  have hS:=aM hv
  refine ai<|aP<|av 1 rfl<|ec rfl (vi T hv) rfl<|av 2 rfl<|aG [1,2,3,9] rfl ?_
  refine aP<|av 3 rfl<|bC (dS rfl rfl) rfl<|av 4 rfl<|aG [10] rfl ?_
  refine xW (.cons 10 rfl (aB.jJ rfl (aj.cons aB.pure<|aj.cons aB.pure<|aj.cons aB.pure<|aj.cons aB.pure<|aj.cons aB.pure<|aj.cons (aB.iO (aj.cons (aB.jJ rfl (aj.cons aB.pure aj.nil)) aj.nil))<|aj.cons aB.pure aj.nil)) .nil) ?_
  exact ab (.a 1 rfl<|.c rfl (AS T D n false 175 176 [.aY [jt (du (aW T) T.nodes.toNat (2*T.ae.length))] 0] [.aY (bq T) 0] hv hf hd.2 (by kernel_rfl) (by kernel_rfl) (fun i hi=>by have h:=A4 (du (aW T) T.nodes.toNat (2*T.ae.length)) i (by rw[eY];omega);rw[jc _ _ _ _ (by omega)]at h;exact h) (fun a ha=>BK T a ha)) rfl<|.a 2 rfl<|.k [6,7] rfl)<|aq<|⟨_,_,aA.of rfl,aB.pure,by unfold dh;rw[if_pos he,he];rfl⟩
end PW
end Go.Proofs.YtnegbdpggideiaaGreatDoor
namespace Go.Proofs.YtnegbdpggideiaaGreatDoor
namespace PW
open Go.RowKit cH Mem Net Heap
theorem oh(T:an)(hl:T.ae.length≤256)(n:Int):Can Tryz.prog 74 [aN T,num n] (· =aw (bG T n)):=by
 refine aE Tryz.func74 rfl Tryz.ntmps74 rfl<|ab (.a 2 rfl<|.k [1,2] rfl)<|ab (.a 1 rfl<|.k [1,2,5] rfl)<|fp 5 3 1 rfl ?_
 refine ah<|ab (.a 1 rfl<|.c rfl (ik T (by omega)) rfl<|.a 1 rfl<|.k [1,2,5,8,9] rfl)<|au<|eu [1,2,5,8,9] rfl<|bf (fun r s=>∃k,k≤2*T.ae.length∧r=2*T.ae.length - k∧s=⟨[(1,num n),(2,.aY (bq T) 0),(5,.own 0),(8,num (2*(T.ae.length:Int))),(9,num k)],[some (.row 3 1 (gw T n k).length (aR (gw T n k)))]⟩) (2*T.ae.length) ⟨0,by omega,by omega,rfl⟩ ?_
 rintro r s ⟨k,hk,rfl,rfl⟩
 refine ab (.a 1 rfl<|.k [1,2,5,8,9,10] rfl)<|ah<|ag rfl (fun hc=>?_) (fun hc=>?_)
 ·have hlt:k<2*T.ae.length:=by have:=of_decide_eq_true hc;omega
  have hlen:=ee T n k
  refine ai<|ah<|au<|ab (.a 2 rfl<|.k [1,2,5,6,8,9] rfl)<|ab (.a 2 rfl<|.c rfl (jn T k hlt) rfl<|.a 2 rfl<|.k [1,2,5,6,8,9,16] rfl)<|ag rfl (fun hc=>?_) (fun hc=>?_)
  ·have hst:=A2 T n k (by simpa using of_decide_eq_true hc)
   refine bF<|av 3 rfl<|cp (bA rfl (bI.rk.get rfl) rfl rfl rfl rfl (by unfold maxLen;omega)) rfl<|av 1 rfl ?_
   refine dD [1] (.c 1<|.c 2<|.c 5<|.c 8<|.c 9<|.nil) (.kept rfl (.eJ rfl (cN _ _))<|.nil) rfl rfl (bc ?_)
   refine az (.v (aS rfl) rfl<|.a 1 rfl<|.k [1,2,5,8,9] rfl) ?_
   refine⟨2*T.ae.length - (k+1),by omega,k+1,by omega,rfl,?_⟩
   rw[hst]
   first
    |rfl
    |(simp only[List.length_append,List.length_singleton];rfl)
  ·have hst:=CX T n k (by simpa using of_decide_eq_false hc)
   refine ai<|az (.v (aS rfl) rfl<|.a 1 rfl<|.k [1,2,5,8,9] rfl) ?_
   refine⟨2*T.ae.length - (k+1),by omega,k+1,by omega,rfl,?_⟩
   rw[hst]
   first
    |rfl
    |(simp only[List.length_append,List.length_singleton];rfl)
 ·have hke:k=2*T.ae.length:=by have:=of_decide_eq_false hc;omega
  subst hke
  exact ba<|ab (.a 2 rfl<|.k [4] rfl)<|aq<|⟨_,_,aA.of rfl,aB.eH rfl aj.pure,rfl⟩
def bV(T:an)(D:List Bool)(n d:Int):Int:=if cf T D [d]=0 then(if bd T n then 0 else 2) else cf T D [d]
theorem tD(T:an)(D:List Bool)(n d:Int):Can Tryz.prog 147 [aN T,aQ D,num n,num d] (· =dh (bV T D n d) (bn T D d.toNat false)):=by
 refine aE Tryz.func147 rfl Tryz.ntmps147 rfl<|ab (.a 3 rfl<|.k [1,2,3,4] rfl)<|ab (.a 3 rfl<|.c rfl (rC T D d) rfl<|.a 5 rfl<|.k [2,4,10,11] rfl)<|ah<|ab (.a 2 rfl<|.k [2,4,10,11,20] rfl)<|ag rfl (fun hc=>?_) (fun hc=>?_)
 ·have he:cf T D [d]≠0:=of_decide_eq_true hc
  exact ab (.a 3 rfl<|.k [8,9] rfl)<|aq<|⟨_,_,aA.of rfl,aB.bx (aj.cons aB.bT (aj.cons aB.pure aj.nil)),by unfold dh bV;rw[if_neg he,if_neg he];rfl⟩
 ·have he:cf T D [d]=0:=by have:=of_decide_eq_false hc;omega
  refine ai<|ah<|ab (.a 2 rfl<|.c rfl (dv T n) rfl<|.a 1 rfl<|.k [10,25] rfl)<|ag rfl (fun hc=>?_) (fun hc=>?_)
  ·have hn:bd T n=false:=by revert hc;cases bd T n<;>simp
   exact ab (.a 2 rfl<|.k [8,9] rfl)<|aq<|⟨_,_,aA.of rfl,aB.bx (aj.cons aB.bT (aj.cons aB.pure aj.nil)),by unfold dh bV;rw[if_pos he,hn];rfl⟩
  ·have hn:bd T n=true:=by revert hc;cases bd T n<;>simp
   exact ai<|ab (.a 3 rfl<|.k [8,9] rfl)<|aq<|⟨_,_,aA.of rfl,aB.pure,by unfold dh bV;simp only[he,hn,if_true];rfl⟩
theorem pG{T:an}{D:List Bool}{ns:List Int}(he:cf T D ns=0):ao T=true∧bN T D=true∧∀n∈ns,bd T n=true:=by
 unfold cf at he
 split at he
 ·rename_i h1
  split at he
  ·rename_i h2
   obtain⟨a,b⟩:=Bool.and_eq_true_iff.1 h1
   exact⟨a,b,List.all_eq_true.1 h2⟩
  ·omega
 ·omega
theorem eS{T:an}{D:List Bool}{n d:Int}(he:bV T D n d=0):ao T=true∧bN T D=true∧bd T n=true∧bd T d=true:=by
 unfold bV at he
 split at he
 ·rename_i h1
  obtain⟨a,b,c⟩:=pG h1
  split at he
  ·rename_i h2;exact⟨a,b,h2,c d (by simp)⟩
  ·omega
 ·omega
theorem cI{T:an}{D:List Bool}(hv:ao T=true){d:Nat}{dir:Bool}(hd:(d:Int)<T.nodes):((bn T D d dir).length:Int)=T.nodes∧∀x∈bn T D d dir, -1≤x∧x≤4194240:=by
 have hS:=aM hv
 have hI:=CN hS D dir hd
 refine⟨hI.len,fun x hx=>?_⟩
 obtain⟨i,hi,rfl⟩:=List.getElem_of_mem hx
 have hin:(i:Int)<T.nodes:=by have:=hI.len;omega
 have h1:=hI.ge i hin
 have h2:=hI.JX i hin
 have h3:=pA (bn T D d dir)
 have h4:=hS.nodes
 have h5:=hI.len
 rw[Ds _ i hi]at h1 h2
 omega
noncomputable def aX(T:an)(D:List Bool)(n d:Nat):List Int:=
 if n=d∨(bn T D d false).getD n 0<0 then [] else jw T D (bn T D d false) ((bn T D d false).getD n 0) d (bG T n)
theorem jz{T:an}{n:Int}{a:Int}(h:a∈bG T n):0≤a∧a<2*(T.ae.length:Int):=by
 unfold bG gw at h
 obtain⟨b,hb,rfl⟩:=List.mem_map.1 h
 have:=(List.mem_filter.1 hb).1
 have:=List.mem_range.1 this
 simp;omega
theorem sd(T:an)(D:List Bool)(n d:Int):Can Tryz.prog 109 [aN T,aQ D,num n,num d] (· =dh (bV T D n d) (aX T D n.toNat d.toNat)):=by
 refine aE Tryz.func109 rfl Tryz.ntmps109 rfl<|ab (.a 3 rfl<|.k [1,2,3,4] rfl)<|ab (.a 4 rfl<|.c rfl (tD T D n d) rfl<|.a 5 rfl<|.k [1,2,3,4,10,11] rfl)<|ah<|ab (.a 2 rfl<|.k [1,2,3,4,10,11,21] rfl)<|ag rfl (fun hc=>?_) (fun hc=>?_)
 ·have he:bV T D n d≠0:=of_decide_eq_true hc
  exact ab (.a 3 rfl<|.k [8,9] rfl)<|aq<|⟨_,_,aA.of rfl,aB.bx (aj.cons aB.bT (aj.cons aB.pure aj.nil)),by unfold dh;rw[if_neg he];rfl⟩
 ·have he:bV T D n d=0:=by have:=of_decide_eq_false hc;omega
  rw[he]
  obtain⟨hv,hf,hn,hd⟩:=eS he
  rw[aT]at hn hd
  obtain⟨n,rfl⟩:=Int.eq_ofNat_of_zero_le hn.1
  obtain⟨d,rfl⟩:=Int.eq_ofNat_of_zero_le hd.1
  have hll:=bJ hv
  obtain⟨hb1,hb2⟩:=cI (D:=D) hv (dir:=false) hd.2
  refine ai<|dY mixed (by kernel_rfl) (.a 5 rfl<|.v [26,27] (dJ rfl (oh T hll _)) rfl rfl<|.a 2 rfl<|.v [23,24,25,28,29,30] (dJ rfl (s7 T D (bn T D d false) (bG T n) n d hv hf hb1 hb2 hn.2 hd.2 (fun a ha=>jz ha) (Nat.le_trans (ee T n _) (by omega)))) rfl rfl<|.a 2 rfl<|.k [8,9] rfl) ?_
  exact aq<|⟨_,_,aA.of rfl,aB.pure,rfl⟩
end PW
end Go.Proofs.YtnegbdpggideiaaGreatDoor
namespace Go.Proofs.YtnegbdpggideiaaGreatDoor
namespace PW
open Go.RowKit cH Mem Net
structure ca where
 kind:Int
 num:Int
deriving DecidableEq
structure iV where
 aK:List Int
 rep:Bool
 push:List ca
structure ef where
 node:Int
 eO:List iV
 down:List Int
def nk(s:ca):List PV:=[num s.kind,num s.num]
def y6(s:ca):PV:=.agg (nk s)
def eM(l:List ca):List PV:=l.flatMap nk
def cM(l:List ca):PV:=.slice l.length (eM l)
def kP(e:iV):List PV:=[aw e.aK,flag e.rep,cM e.push]
def rM(e:iV):PV:=.agg (kP e)
def di(l:List iV):List PV:=l.flatMap kP
def jT(l:List iV):PV:=.slice l.length (di l)
def fN(t:ef):List PV:=[num t.node,jT t.eO,aw t.down]
def fZ(t:ef):PV:=.agg (fN t)
def nq(l:List ef):List PV:=l.flatMap fN
def iS(l:List ef):PV:=.slice l.length (nq l)
instance (s:ca):aO (nk s):=by unfold nk;infer_instance
instance (s:ca):cz (nk s):=by unfold nk;infer_instance
instance (s:ca):IsPure (y6 s):=by unfold y6;infer_instance
instance (l:List ca):aO (eM l):=aO.flatMap _ _ fun _=>inferInstance
instance (l:List ca):cz (eM l):=cz.flatMap _ _ fun _=>inferInstance
instance (l:List ca):IsPure (cM l):=by unfold cM;infer_instance
instance (l:List ca):fj (cM l):=by unfold cM;infer_instance
instance (e:iV):aO (kP e):=by unfold kP;infer_instance
instance (e:iV):cz (kP e):=by unfold kP;infer_instance
instance (e:iV):IsPure (rM e):=by unfold rM;infer_instance
instance (l:List iV):aO (di l):=aO.flatMap _ _ fun _=>inferInstance
instance (l:List iV):cz (di l):=cz.flatMap _ _ fun _=>inferInstance
instance (l:List iV):IsPure (jT l):=by unfold jT;infer_instance
instance (l:List iV):fj (jT l):=by unfold jT;infer_instance
instance (t:ef):aO (fN t):=by unfold fN;infer_instance
instance (t:ef):cz (fN t):=by unfold fN;infer_instance
instance (t:ef):IsPure (fZ t):=by unfold fZ;infer_instance
instance (l:List ef):aO (nq l):=aO.flatMap _ _ fun _=>inferInstance
instance (l:List ef):cz (nq l):=cz.flatMap _ _ fun _=>inferInstance
instance (l:List ef):IsPure (iS l):=by unfold iS;infer_instance
instance (l:List ef):fj (iS l):=by unfold iS;infer_instance
theorem kM(l:List iV)(e:iV):di l++kP e=di (l++[e]):=by simp[di]
theorem qK(l:List ef)(e:ef):nq l++fN e=nq (l++[e]):=by simp[nq]
theorem flat_get{α:Type}(f:α→List PV)(s:Nat)(hf:∀a,(f a).length=s):∀(l:List α) (i j:Nat) (a:α),l[i]? =some a→j<s→(l.flatMap f)[i*s+j]? =(f a)[j]?
 | [],i,j,a,h,_=>by simp at h
 |b::l,0,j,a,h,hj=>by
  simp at h;subst h
  rw[List.flatMap_cons,Nat.zero_mul,Nat.zero_add,List.getElem?_append_left (by rw[hf];exact hj)]
 |b::l,i+1,j,a,h,hj=>by
  have:=flat_get f s hf l i j a (by simpa using h) hj
  have e1:(i+1)*s=i*s+s:=Nat.succ_mul i s
  have e2:(i+1)*s+j - s=i*s+j:=by omega
  have e3:(f b).length≤(i+1)*s+j:=by rw[hf];omega
  rw[List.flatMap_cons,List.getElem?_append_right e3,hf,e2,this]
theorem mJ{α:Type}(f:α→List PV)(s:Nat)(hf:∀a,(f a).length=s):∀(l:List α) (i:Nat) (a:α),l[i]? =some a→((l.flatMap f).drop (i*s)).take s=f a
 | [],i,a,h=>by simp at h
 |b::l,0,a,h=>by
  simp at h;subst h
  rw[List.flatMap_cons,Nat.zero_mul,List.drop_zero]
  exact List.take_left' (hf b)
 |b::l,i+1,a,h=>by
  have:=mJ f s hf l i a (by simpa using h)
  have e1:(i+1)*s=s+i*s:=by rw[Nat.succ_mul];omega
  rw[List.flatMap_cons,e1,←List.drop_drop,List.drop_left' (hf b),this]
theorem D0{α:Type}(f:α→List PV)(s:Nat)(hf:∀a,(f a).length=s)(l:List α):(l.flatMap f).length=l.length*s:=by
 induction l with
 |nil=>simp
 |cons a l ih=>rw[List.flatMap_cons,List.length_append,ih,hf,List.length_cons,Nat.succ_mul];omega
theorem oF(l:List iV)(i j:Nat)(e:iV)(h:l[i]? =some e)(hj:j<3):(di l)[i*3+j]? =(kP e)[j]? :=flat_get kP 3 (fun _=>rfl) l i j e h hj
theorem px(l:List iV)(i:Nat)(e:iV)(h:l[i]? =some e):((di l).drop (i*3)).take 3=kP e:=mJ kP 3 (fun _=>rfl) l i e h
theorem xS(l:List ca)(i j:Nat)(e:ca)(h:l[i]? =some e)(hj:j<2):(eM l)[i*2+j]? =(nk e)[j]? :=flat_get nk 2 (fun _=>rfl) l i j e h hj
theorem o3(l:List ca)(i:Nat)(e:ca)(h:l[i]? =some e):((eM l).drop (i*2)).take 2=nk e:=mJ nk 2 (fun _=>rfl) l i e h
theorem ui(l:List ef)(i:Nat)(e:ef)(h:l[i]? =some e):((nq l).drop (i*3)).take 3=fN e:=mJ fN 3 (fun _=>rfl) l i e h
theorem EO{P:Program}{σ:cm}{t:cd}{o:Oper}{p q:PV}(h:br P σ t o p)(hl:kB p q):br P σ t o q:=fun F base E ρ w hρ hS hT=>by
 have:=h F base E ρ w hρ hS hT
 generalize (execOp ρ o).run P w=x at*
 cases x with
 |ok n w'=>
  cases n with
  |value v=>exact⟨this.1,hl _ _ _ this.2⟩
  |skip=>exact⟨this.1,hl _ _ _ this.2⟩
  |enter f args=>exact⟨this.1,Calls.mono this.2 (fun e w'' ⟨x,h1,h2,h3⟩=>⟨x,h1,h2,hl _ _ _ h3⟩)⟩
  |_=>exact this
 |halt x w'=>exact this
def Bh(xs ys:List PV):Prop:=xs.length=ys.length∧∀(i:Nat) x y,xs[i]? =some x→ys[i]? =some y→kB x y
theorem Bh.nil:Bh [] []:=⟨rfl,fun i x y h=>by simp at h⟩
theorem Bh.cons{x y:PV}{xs ys:List PV}(h:kB x y)(hs:Bh xs ys):Bh (x::xs) (y::ys):=⟨by simp[hs.1],fun j a b h1 h2=>by
 cases j with
 |zero=>simp at h1 h2;subst h1;subst h2;exact h
 |succ j=>exact hs.2 j a b (by simpa using h1) (by simpa using h2)⟩
theorem kB.fR{xs ys:List PV}(h:Bh xs ys):kB (.agg xs) (.agg ys):=fun E w v hv=>by
 cases hv with
 |agg cs _ hl hr=>exact .agg cs ys (hl.trans h.1) (fun i c u h1 h2=>by
   have hi:i<xs.length:=by rw[h.1];exact(List.getElem?_eq_some_iff.1 h2).1
   exact h.2 i xs[i] u (by simp[hi]) h2 E w c (hr i c _ h1 (by simp[hi])))
noncomputable def oR(T:an)(D:List Bool)(n k:Nat):List iV:=(List.range k).map fun d=>⟨aX T D n d,false,[]⟩
def cr(D:List Bool)(l:List Int):List Int:=l.filter fun a=>aI D a.toNat
noncomputable def dK(T:an)(D:List Bool)(n:Nat):ef:=⟨n,oR T D n T.nodes.toNat,cr D (bG T n)⟩
noncomputable def jS(T:an)(D:List Bool)(n:Int):ef:=if cf T D [n]=0 then dK T D n.toNat else⟨0,[],[]⟩
theorem xQ(T:an)(D:List Bool)(n k:Nat):oR T D n (k+1)=oR T D n k++[⟨aX T D n k,false,[]⟩]:=by simp[oR,List.range_succ]
theorem vo(T:an)(D:List Bool)(n k:Nat):(oR T D n k).length=k:=by simp[oR]
end PW
end Go.Proofs.YtnegbdpggideiaaGreatDoor
namespace Go.Proofs.YtnegbdpggideiaaGreatDoor
namespace PW
open Go.RowKit cH Mem Net
set_option maxHeartbeats 4000000 in
theorem w7(T:an)(D:List Bool)(n:Int)(dir:Bool):Can Tryz.prog 91 [aN T,aQ D,num n,flag dir] (· =dh (cf T D [n]) (bn T D n.toNat dir)):=by
  refine aE Tryz.func91 rfl Tryz.ntmps91 rfl<|ab (.a 3 rfl<|.k [1,2,3,4] rfl)<|ah<|ab (.a 2 rfl<|.c rfl (nd T D) rfl<|.a 1 rfl<|.k [1,2,3,4,20] rfl)<|ag rfl (fun hc=>?_) (fun hc=>?_)
  · have hch:cf T D [n]=1:=by
      unfold cf
      rw[if_neg]
      revert hc
      cases(ao T&&bN T D)<;>simp
    exact ab (.a 2 rfl<|.k [8,9] rfl)<|aq<|⟨_,_,aA.of rfl,aB.bx (aj.cons aB.bT (aj.cons aB.pure aj.nil)),by unfold dh;rw[hch];rfl⟩
  · have hok : (ao T && bN T D) = true := by revert hc; cases (ao T && bN T D) <;> simp
    refine ai<|ah ?_
    obtain⟨q1,hq1⟩:∃q,decide (n<0)=q:=⟨_,rfl⟩
    obtain⟨q2,hq2⟩:∃q,decide (T.nodes≤n)=q:=⟨_,rfl⟩
    have hnb:bd T n= !(q1||q2):=by rw[←hq1,←hq2];unfold bd;by_cases h1:n<0<;>by_cases h2:T.nodes≤n<;>simp[h1,h2]<;>omega
    refine bu 28 (.raw (.bool (q1||q2))) [1,2,3,4] rfl ?_ ?_
    · refine .a 1 rfl<|.v (b9 rfl (hq1)) rfl<|.a 1 rfl<|?_
      cases q1
      · exact .a 3 rfl<|.v (b9 rfl (hq2)) rfl<|.a 1 rfl<|.k [28,1,2,3,4] rfl
      · exact .a 5 rfl<|.k [28,1,2,3,4] rfl
    refine ag rfl (fun hc=>?_) (fun hc=>?_)
    · have hch:cf T D [n]=2:=by
        unfold cf
        rw[if_pos hok,if_neg]
        simp[hnb,hc]
      exact ab (.a 2 rfl<|.k [8,9] rfl)<|aq<|⟨_,_,aA.of rfl,aB.bx (aj.cons aB.bT (aj.cons aB.pure aj.nil)),by unfold dh;rw[hch];rfl⟩
    · have hnb':bd T n=true:=by rw[hnb,hc];rfl
      have hch:cf T D [n]=0:=by
        unfold cf
        rw[if_pos hok,if_pos]
        simp[hnb']
      obtain⟨hv,hf⟩:=Bool.and_eq_true_iff.1 hok
      have hn:=aT.1 hnb'
      obtain⟨n,rfl⟩:=Int.eq_ofNat_of_zero_le hn.1
      have hS:=aM hv
      have hbd:=gH hv
      obtain⟨N,hN⟩:∃N:Nat,T.nodes=(N:Int):=⟨T.nodes.toNat,by omega⟩
      have hN64:N≤64:=by have:=hS.nodes;omega
      have hnN:n<N:=by omega
      clear hc hq1 hq2 hnb
      refine ai<|aP<|av 2 rfl<|cp (dF rfl (bI.rk.get rfl) rfl rfl hN hN ⟨by unfold maxLen;omega,by omega⟩) rfl<|av 1 rfl<|aG [1,2,3,4,10] rfl ?_
      refine ah<|ab (.a 1 rfl<|.k [1,2,3,4,10,11] rfl)<|au<|eu [1,2,3,4,10,11] rfl<|bf (fun r s=>∃k,k≤N∧r=N - k∧s=⟨[(1,aQ D),(2,num n),(3,flag dir),(4,.aY (bq T) 0),(10,.own 0),(11,num k)],[some (.row 3 1 N (aR (iG N k)))]⟩) N ⟨0,by omega,by omega,by have:=cO N;unfold iG;simp only[List.replicate_zero,List.nil_append,Nat.sub_zero];rw[←this];rfl⟩ ?_
      rintro r s ⟨k,hk,rfl,rfl⟩
      refine ah<|ab (.a 4 rfl<|.k [1,2,3,4,10,11,35] rfl)<|ag rfl (fun hc=>?_) (fun hc=>?_)
      · have hlt:k<N:=by have:=of_decide_eq_true hc;omega
        have hil:(iG N k).length=N:=by simp[iG];omega
        refine ai<|ah<|au<|bF<|av 2 rfl<|bC (aJ (k) rfl) rfl<|bg ((by first|exact bE rfl (bI.tk.get rfl) rfl rfl rfl (by first|omega|(simp;omega))|exact aV rfl (bI.tk.get rfl) rfl rfl rfl (by first|omega|(simp;omega)))) rfl rfl<|aG [1,2,3,4,10,11] rfl ?_
        refine er (σ':=[some (.row 3 1 N (aR (iG N (k+1))))]) (by rw[←wz N k hlt];rfl) ?_
        refine az (.a 1 rfl<|.v (aS rfl) rfl<|.a 1 rfl<|.k [1,2,3,4,10,11] rfl) ?_
        exact⟨N - (k+1),by omega,k+1,by omega,rfl,rfl⟩
      · have hke:k=N:=by have:=of_decide_eq_false hc;omega
        subst hke
        have hil:(iG k k).length=k:=by simp[iG]
        refine ba<|aP<|av 2 rfl<|bC (aJ (n) rfl) rfl<|bg ((by first|exact bE rfl (bI.tk.get rfl) rfl rfl rfl (by first|omega|(simp;omega))|exact aV rfl (bI.tk.get rfl) rfl rfl rfl (by first|omega|(simp;omega)))) rfl rfl<|aG [1,2,3,4,10] rfl ?_
        refine er (σ':=[some (.row 3 1 k (aR (Net.start k n)))]) (by rw[←zv k n];rfl) ?_
        have hI0:=oU (T:=T) (D:=D) (N:=k) (n:=n) (dir:=dir) hN.symm hnN
        generalize Net.start k n=out0 at hI0
        refine ah<|ab (.a 1 rfl<|.k [1,2,3,4,10,12] rfl)<|au<|eu [1,2,3,4,10,12] rfl<|bf (fun r s=>∃(out:List Int) (b:Bool),Inv T D n dir out∧(b=false→∀a,a<2*T.ae.length→¬lh T D n dir out a)∧r=2*mu out+b.toNat∧s=⟨[(1,aQ D),(2,num n),(3,flag dir),(4,.aY (bq T) 0),(10,.own 0),(12,flag b)],[some (.row 3 1 k (aR out))]⟩) (2*mu out0+1) ⟨out0,true,hI0,(fun h=>by cases h),rfl,rfl⟩ ?_
        clear hI0 out0
        rintro r s ⟨out,b,hI,hb,rfl,rfl⟩
        refine ah<|ab (.a 1 rfl<|.k [1,2,3,4,10,44] rfl)<|ag rfl (fun hc=>?_) (fun hc=>?_)
        · subst hc
          refine ai<|au<|ab (.a 1 rfl<|.k [1,2,3,4,10,12] rfl)<|ab (.a 1 rfl<|.k [1,2,3,4,10,12,13] rfl)<|au<|eu [1,2,3,4,10,12,13] rfl<|bf (fun r s=>∃(k':Nat) (out':List Int) (b':Bool),k'≤2*T.ae.length∧Inv T D n dir out'∧(b'=false→out'=out∧∀a,a<k'→¬lh T D n dir out a)∧(b'=true→mu out'<mu out)∧r=2*T.ae.length - k'∧s=⟨[(1,aQ D),(2,num n),(3,flag dir),(4,.aY (bq T) 0),(10,.own 0),(12,flag b'),(13,num k')],[some (.row 3 1 k (aR out'))]⟩) (2*T.ae.length) ⟨0,out,false,by omega,hI,(fun _=>⟨rfl,fun a ha=>by omega⟩),(fun h=>by cases h),by omega,rfl⟩ ?_
          rintro r s ⟨a,out',b',ha,hI',hb',ht',rfl,rfl⟩
          refine ah<|ab (.a 4 rfl<|.v (aS rfl (hc:=rfl)) rfl<|.a 1 rfl<|.k [1,2,3,4,10,12,13,50] rfl)<|ag rfl (fun hc=>?_) (fun hc=>?_)
          · have ham:a<2*T.ae.length:=by have:=of_decide_eq_true hc;omega
            obtain⟨p,hp⟩:=Int.eq_ofNat_of_zero_le (hS.tail a ham).1
            obtain⟨q,hq⟩:=Int.eq_ofNat_of_zero_le (hS.head a ham).1
            have hpN:p<k:=by have:=(hS.tail a ham).2;omega
            have hqN:q<k:=by have:=(hS.head a ham).2;omega
            have hcb:=hS.cost a ham
            have hDl:D.length=0∨a<D.length:=by simp only[bN,decide_eq_true_eq]at hf;omega
            have hol:out'.length=k:=by have:=hI'.len;omega
            refine ai<|ah<|au<|dY mixed (by kernel_rfl) (.a 2 rfl<|.v [53,54] (dJ rfl (hp▸eN T hv a ham)) rfl rfl<|.a 2 rfl<|.v [56,57] (dJ rfl (hq▸gR T hv a ham)) rfl rfl<|.a 2 rfl<|.k [1,2,3,4,10,12,13,14,15] rfl) ?_
            refine ah<|ab (.a 1 rfl<|.k [1,2,3,4,10,12,13,14,15,59] rfl)<|ag rfl (fun hdir=>?_) (fun hdir=>?_)
            · obtain ⟨x, y, hx, hy, ex, ey⟩ : ∃ x y : Nat, fv T dir a = (x : Int) ∧ cR T dir a = (y : Int) ∧ x = q ∧ y = p := ⟨q, p, by rw [hdir]; exact hq, by rw [hdir]; exact hp, rfl, rfl⟩
              subst ex
              subst ey
              refine az (.a 4 rfl<|.k [1,2,3,4,10,12,13,14,15] rfl) ?_
              refine ah ?_
              have gx:out'.getD x 0=at' out' (x:Int):=by simp[at',List.getD_eq_getElem?_getD,show x<out'.length by omega]
              have gy:out'.getD y 0=at' out' (y:Int):=by simp[at',List.getD_eq_getElem?_getD,show y<out'.length by omega]
              have uy:=hI'.ub y (by omega) (by omega)
              have ly:=hI'.ge y (by omega)
              obtain⟨p1,hp1⟩:∃q,(!aI D a)=q:=⟨_,rfl⟩
              obtain⟨p2,hp2⟩:∃q,decide (out'.getD y 0<0)=q:=⟨_,rfl⟩
              obtain⟨p3,hp3⟩:∃q,(decide (y=n)|| !cU T y)=q:=⟨_,rfl⟩
              refine bu 79 (.raw (.bool (((!p1)||p2)||(!p3)))) [1,2,3,4,10,12,13,14,15] rfl ?_ ?_
              · refine .a 2 rfl<|.c rfl (hp1▸qg D a hDl) rfl<|.a 2 rfl<|?_
                cases p1
                · exact .a 13 rfl<|.k [79,1,2,3,4,10,12,13,14,15] rfl
                · refine .a 2 rfl<|.v (aJ (y) rfl) rfl<|.v (aL rfl (ax out' y (by omega))) rfl<|.v (b9 rfl (hp2)) rfl<|.a 2 rfl<|?_
                  cases p2
                  · exact .a 3 rfl<|.c rfl (hp3▸kN T hv y n) rfl<|.a 2 rfl<|.k [79,1,2,3,4,10,12,13,14,15] rfl
                  · exact .a 6 rfl<|.k [79,1,2,3,4,10,12,13,14,15] rfl
              refine ag rfl (fun hc=>?_) (fun hc=>?_)
              · have hng:¬lh T D n dir out' a:=fun hg=>by
                  obtain⟨⟨w1,w2,w3⟩,_⟩:=hg
                  rw[hy]at w2 w3
                  have e1:p1=true:=by rw[←hp1,w1];rfl
                  have e2:p2=false:=by rw[←hp2,gy];simp;omega
                  have e3:p3=true:=by
                    rw[←hp3]
                    rcases w3 with w3|w3
                    · have:y=n:=by omega
                      simp[this]
                    · rw[Int.toNat_natCast]at w3;simp[w3]
                  rw[e1,e2,e3]at hc
                  cases hc
                refine ba<|az (.a 1 rfl<|.v (aS rfl) rfl<|.a 1 rfl<|.k [1,2,3,4,10,12,13] rfl) ?_
                first
                  |exact⟨2*T.ae.length - (a+1),by omega,a+1,_,true,by omega,hIg,fun h=>(by cases h),fun _=>(by by_cases e:b'=true;(have:=ht' e;omega);(have:=(hb' (by cases b';rfl;exact absurd rfl e)).1;rw[this]at hmg;rw[this];exact hmg)),rfl,rfl⟩
                  |exact⟨2*T.ae.length - (a+1),by omega,a+1,out',b',by omega,hI',fun h=>⟨(hb' h).1,fun c hc'=>by by_cases e:c=a;(rw[e,←(hb' h).1];exact hng);exact(hb' h).2 c (by omega)⟩,ht',rfl,rfl⟩
              · have hway:Net.Way T D n dir out' a:=by
                  obtain⟨c1,c3⟩:=Bool.or_eq_false_iff.1 hc
                  obtain⟨c1,c2⟩:=Bool.or_eq_false_iff.1 c1
                  have e1:p1=true:=by cases p1;cases c1;rfl
                  have e3:p3=true:=by cases p3;cases c3;rfl
                  rw[e1]at hp1
                  rw[c2]at hp2
                  rw[e3]at hp3
                  refine⟨by revert hp1;cases aI D a<;>simp,?_,?_⟩
                  · rw[hy,←gy];have:=of_decide_eq_false hp2;omega
                  · rw[hy,Int.toNat_natCast]
                    rcases Bool.or_eq_true_iff.1 hp3 with h|h
                    · exact .inl (by have:=of_decide_eq_true h;omega)
                    · exact .inr (by revert h;cases cU T y<;>simp)
                have wy:=hway.2.1
                rw[hy]at wy
                refine ai<|dY mixed (by kernel_rfl) (.a 2 rfl<|.v [80,81] (aJ (y) rfl) rfl rfl<|.v [82] (aL rfl ((ax out' y (by omega)).trans (by rw[gy]))) rfl rfl<|.a 2 rfl<|.v [84,85] (dJ rfl (kQ T hv a ham)) rfl rfl<|.v [83,86] (aS rfl) rfl rfl<|.a 1 rfl<|.k [1,2,3,4,10,12,13,14,16] rfl) ?_
                obtain⟨p4,hp4⟩:∃q,decide (at' out' (x:Int)<0)=q:=⟨_,rfl⟩
                obtain⟨p5,hp5⟩:∃q,decide (at' out' (y:Int)+cb T a<at' out' (x:Int))=q:=⟨_,rfl⟩
                refine bu 100 (.raw (.bool (p4||p5))) [1,2,3,4,10,12,13,14,16] rfl ?_ ?_
                · refine .a 2 rfl<|.v (aJ (x) rfl) rfl<|.v (aL rfl ((ax out' x (by omega)).trans (by rw[gx]))) rfl<|.v (b9 rfl (hp4)) rfl<|.a 1 rfl<|?_
                  cases p4
                  · exact .a 3 rfl<|.v (aJ (x) rfl) rfl<|.v (aL rfl ((ax out' x (by omega)).trans (by rw[gx]))) rfl<|.v (b9 rfl (hp5)) rfl<|.a 1 rfl<|.k [100,1,2,3,4,10,12,13,14,16] rfl
                  · exact .a 7 rfl<|.k [100,1,2,3,4,10,12,13,14,16] rfl
                refine ag rfl (fun hc=>?_) (fun hc=>?_)
                · have hg:lh T D n dir out' a:=⟨hway,by
                    rw[hx,hy]
                    rcases Bool.or_eq_true_iff.1 hc with h|h
                    · rw[h]at hp4;exact .inl (of_decide_eq_true hp4)
                    · rw[h]at hp5;exact .inr (of_decide_eq_true hp5)⟩
                  obtain⟨hIg,hmg⟩:=sv hS hI' a ham hg
                  have hge:zA T dir out' a=out'.set x (at' out' (y:Int)+cb T a):=by unfold zA;rw[hx,hy,Int.toNat_natCast]
                  rw[hge]at hIg hmg
                  refine aP<|av 3 rfl<|bC (aJ (x) rfl) rfl<|bg ((by first|exact bE rfl (bI.tk.get rfl) rfl rfl rfl (by first|omega|(simp;omega))|exact aV rfl (bI.tk.get rfl) rfl rfl rfl (by first|omega|(simp;omega)))) rfl rfl<|aG [1,2,3,4,10,13] rfl ?_
                  refine az (.a 1 rfl<|.k [1,2,3,4,10,12,13] rfl) ?_
                  refine az (.a 1 rfl<|.v (aS rfl) rfl<|.a 1 rfl<|.k [1,2,3,4,10,12,13] rfl) ?_
                  first
                    |exact⟨2*T.ae.length - (a+1),by omega,a+1,_,true,by omega,hIg,fun h=>(by cases h),fun _=>(by by_cases e:b'=true;(have:=ht' e;omega);(have:=(hb' (by cases b';rfl;exact absurd rfl e)).1;rw[this]at hmg;rw[this];exact hmg)),rfl,rfl⟩
                    |exact⟨2*T.ae.length - (a+1),by omega,a+1,out',b',by omega,hI',fun h=>⟨(hb' h).1,fun c hc'=>by by_cases e:c=a;(rw[e,←(hb' h).1];exact hng);exact(hb' h).2 c (by omega)⟩,ht',rfl,rfl⟩
                · have hng:¬lh T D n dir out' a:=fun hg=>by
                    obtain⟨_,hg⟩:=hg
                    rw[hx,hy]at hg
                    obtain⟨c1,c2⟩:=Bool.or_eq_false_iff.1 hc
                    rw[c1]at hp4
                    rw[c2]at hp5
                    rcases hg with h|h
                    · exact of_decide_eq_false hp4 h
                    · exact of_decide_eq_false hp5 h
                  refine ai<|az (.a 1 rfl<|.v (aS rfl) rfl<|.a 1 rfl<|.k [1,2,3,4,10,12,13] rfl) ?_
                  first
                    |exact⟨2*T.ae.length - (a+1),by omega,a+1,_,true,by omega,hIg,fun h=>(by cases h),fun _=>(by by_cases e:b'=true;(have:=ht' e;omega);(have:=(hb' (by cases b';rfl;exact absurd rfl e)).1;rw[this]at hmg;rw[this];exact hmg)),rfl,rfl⟩
                    |exact⟨2*T.ae.length - (a+1),by omega,a+1,out',b',by omega,hI',fun h=>⟨(hb' h).1,fun c hc'=>by by_cases e:c=a;(rw[e,←(hb' h).1];exact hng);exact(hb' h).2 c (by omega)⟩,ht',rfl,rfl⟩
            · obtain ⟨x, y, hx, hy, ex, ey⟩ : ∃ x y : Nat, fv T dir a = (x : Int) ∧ cR T dir a = (y : Int) ∧ x = p ∧ y = q := ⟨p, q, by rw [hdir]; exact hp, by rw [hdir]; exact hq, rfl, rfl⟩
              subst ex
              subst ey
              refine ai<|ah ?_
              have gx:out'.getD x 0=at' out' (x:Int):=by simp[at',List.getD_eq_getElem?_getD,show x<out'.length by omega]
              have gy:out'.getD y 0=at' out' (y:Int):=by simp[at',List.getD_eq_getElem?_getD,show y<out'.length by omega]
              have uy:=hI'.ub y (by omega) (by omega)
              have ly:=hI'.ge y (by omega)
              obtain⟨p1,hp1⟩:∃q,(!aI D a)=q:=⟨_,rfl⟩
              obtain⟨p2,hp2⟩:∃q,decide (out'.getD y 0<0)=q:=⟨_,rfl⟩
              obtain⟨p3,hp3⟩:∃q,(decide (y=n)|| !cU T y)=q:=⟨_,rfl⟩
              refine bu 79 (.raw (.bool (((!p1)||p2)||(!p3)))) [1,2,3,4,10,12,13,14,15] rfl ?_ ?_
              · refine .a 2 rfl<|.c rfl (hp1▸qg D a hDl) rfl<|.a 2 rfl<|?_
                cases p1
                · exact .a 13 rfl<|.k [79,1,2,3,4,10,12,13,14,15] rfl
                · refine .a 2 rfl<|.v (aJ (y) rfl) rfl<|.v (aL rfl (ax out' y (by omega))) rfl<|.v (b9 rfl (hp2)) rfl<|.a 2 rfl<|?_
                  cases p2
                  · exact .a 3 rfl<|.c rfl (hp3▸kN T hv y n) rfl<|.a 2 rfl<|.k [79,1,2,3,4,10,12,13,14,15] rfl
                  · exact .a 6 rfl<|.k [79,1,2,3,4,10,12,13,14,15] rfl
              refine ag rfl (fun hc=>?_) (fun hc=>?_)
              · have hng:¬lh T D n dir out' a:=fun hg=>by
                  obtain⟨⟨w1,w2,w3⟩,_⟩:=hg
                  rw[hy]at w2 w3
                  have e1:p1=true:=by rw[←hp1,w1];rfl
                  have e2:p2=false:=by rw[←hp2,gy];simp;omega
                  have e3:p3=true:=by
                    rw[←hp3]
                    rcases w3 with w3|w3
                    · have:y=n:=by omega
                      simp[this]
                    · rw[Int.toNat_natCast]at w3;simp[w3]
                  rw[e1,e2,e3]at hc
                  cases hc
                refine ba<|az (.a 1 rfl<|.v (aS rfl) rfl<|.a 1 rfl<|.k [1,2,3,4,10,12,13] rfl) ?_
                first
                  |exact⟨2*T.ae.length - (a+1),by omega,a+1,_,true,by omega,hIg,fun h=>(by cases h),fun _=>(by by_cases e:b'=true;(have:=ht' e;omega);(have:=(hb' (by cases b';rfl;exact absurd rfl e)).1;rw[this]at hmg;rw[this];exact hmg)),rfl,rfl⟩
                  |exact⟨2*T.ae.length - (a+1),by omega,a+1,out',b',by omega,hI',fun h=>⟨(hb' h).1,fun c hc'=>by by_cases e:c=a;(rw[e,←(hb' h).1];exact hng);exact(hb' h).2 c (by omega)⟩,ht',rfl,rfl⟩
              · have hway:Net.Way T D n dir out' a:=by
                  obtain⟨c1,c3⟩:=Bool.or_eq_false_iff.1 hc
                  obtain⟨c1,c2⟩:=Bool.or_eq_false_iff.1 c1
                  have e1:p1=true:=by cases p1;cases c1;rfl
                  have e3:p3=true:=by cases p3;cases c3;rfl
                  rw[e1]at hp1
                  rw[c2]at hp2
                  rw[e3]at hp3
                  refine⟨by revert hp1;cases aI D a<;>simp,?_,?_⟩
                  · rw[hy,←gy];have:=of_decide_eq_false hp2;omega
                  · rw[hy,Int.toNat_natCast]
                    rcases Bool.or_eq_true_iff.1 hp3 with h|h
                    · exact .inl (by have:=of_decide_eq_true h;omega)
                    · exact .inr (by revert h;cases cU T y<;>simp)
                have wy:=hway.2.1
                rw[hy]at wy
                refine ai<|dY mixed (by kernel_rfl) (.a 2 rfl<|.v [80,81] (aJ (y) rfl) rfl rfl<|.v [82] (aL rfl ((ax out' y (by omega)).trans (by rw[gy]))) rfl rfl<|.a 2 rfl<|.v [84,85] (dJ rfl (kQ T hv a ham)) rfl rfl<|.v [83,86] (aS rfl) rfl rfl<|.a 1 rfl<|.k [1,2,3,4,10,12,13,14,16] rfl) ?_
                obtain⟨p4,hp4⟩:∃q,decide (at' out' (x:Int)<0)=q:=⟨_,rfl⟩
                obtain⟨p5,hp5⟩:∃q,decide (at' out' (y:Int)+cb T a<at' out' (x:Int))=q:=⟨_,rfl⟩
                refine bu 100 (.raw (.bool (p4||p5))) [1,2,3,4,10,12,13,14,16] rfl ?_ ?_
                · refine .a 2 rfl<|.v (aJ (x) rfl) rfl<|.v (aL rfl ((ax out' x (by omega)).trans (by rw[gx]))) rfl<|.v (b9 rfl (hp4)) rfl<|.a 1 rfl<|?_
                  cases p4
                  · exact .a 3 rfl<|.v (aJ (x) rfl) rfl<|.v (aL rfl ((ax out' x (by omega)).trans (by rw[gx]))) rfl<|.v (b9 rfl (hp5)) rfl<|.a 1 rfl<|.k [100,1,2,3,4,10,12,13,14,16] rfl
                  · exact .a 7 rfl<|.k [100,1,2,3,4,10,12,13,14,16] rfl
                refine ag rfl (fun hc=>?_) (fun hc=>?_)
                · have hg:lh T D n dir out' a:=⟨hway,by
                    rw[hx,hy]
                    rcases Bool.or_eq_true_iff.1 hc with h|h
                    · rw[h]at hp4;exact .inl (of_decide_eq_true hp4)
                    · rw[h]at hp5;exact .inr (of_decide_eq_true hp5)⟩
                  obtain⟨hIg,hmg⟩:=sv hS hI' a ham hg
                  have hge:zA T dir out' a=out'.set x (at' out' (y:Int)+cb T a):=by unfold zA;rw[hx,hy,Int.toNat_natCast]
                  rw[hge]at hIg hmg
                  refine aP<|av 3 rfl<|bC (aJ (x) rfl) rfl<|bg ((by first|exact bE rfl (bI.tk.get rfl) rfl rfl rfl (by first|omega|(simp;omega))|exact aV rfl (bI.tk.get rfl) rfl rfl rfl (by first|omega|(simp;omega)))) rfl rfl<|aG [1,2,3,4,10,13] rfl ?_
                  refine az (.a 1 rfl<|.k [1,2,3,4,10,12,13] rfl) ?_
                  refine az (.a 1 rfl<|.v (aS rfl) rfl<|.a 1 rfl<|.k [1,2,3,4,10,12,13] rfl) ?_
                  first
                    |exact⟨2*T.ae.length - (a+1),by omega,a+1,_,true,by omega,hIg,fun h=>(by cases h),fun _=>(by by_cases e:b'=true;(have:=ht' e;omega);(have:=(hb' (by cases b';rfl;exact absurd rfl e)).1;rw[this]at hmg;rw[this];exact hmg)),rfl,rfl⟩
                    |exact⟨2*T.ae.length - (a+1),by omega,a+1,out',b',by omega,hI',fun h=>⟨(hb' h).1,fun c hc'=>by by_cases e:c=a;(rw[e,←(hb' h).1];exact hng);exact(hb' h).2 c (by omega)⟩,ht',rfl,rfl⟩
                · have hng:¬lh T D n dir out' a:=fun hg=>by
                    obtain⟨_,hg⟩:=hg
                    rw[hx,hy]at hg
                    obtain⟨c1,c2⟩:=Bool.or_eq_false_iff.1 hc
                    rw[c1]at hp4
                    rw[c2]at hp5
                    rcases hg with h|h
                    · exact of_decide_eq_false hp4 h
                    · exact of_decide_eq_false hp5 h
                  refine ai<|az (.a 1 rfl<|.v (aS rfl) rfl<|.a 1 rfl<|.k [1,2,3,4,10,12,13] rfl) ?_
                  first
                    |exact⟨2*T.ae.length - (a+1),by omega,a+1,_,true,by omega,hIg,fun h=>(by cases h),fun _=>(by by_cases e:b'=true;(have:=ht' e;omega);(have:=(hb' (by cases b';rfl;exact absurd rfl e)).1;rw[this]at hmg;rw[this];exact hmg)),rfl,rfl⟩
                    |exact⟨2*T.ae.length - (a+1),by omega,a+1,out',b',by omega,hI',fun h=>⟨(hb' h).1,fun c hc'=>by by_cases e:c=a;(rw[e,←(hb' h).1];exact hng);exact(hb' h).2 c (by omega)⟩,ht',rfl,rfl⟩
          · have hae:a=2*T.ae.length:=by have:=of_decide_eq_false hc;omega
            refine lf (.cons (k:=1) rfl<|.cons (k:=2) rfl<|.cons (k:=3) rfl<|.cons (k:=4) rfl<|.cons (k:=10) rfl<|.cons (k:=12) rfl<|Sub.nil _) ?_
            refine ba<|⟨_,?_,out',b',hI',fun h=>?_,rfl,rfl⟩
            · cases b'
              · rw[(hb' rfl).1];simp
              · have:=ht' rfl;simp;omega
            · rw[(hb' h).1];intro c hc';exact(hb' h).2 c (by omega)
        · have hdist:bn T D n dir=out:=kr hS (v7 hI (hb hc))
          refine ba<|ab (.a 3 rfl<|.k [8,9] rfl)<|aq<|⟨_,_,aA.of rfl,aB.bx (aj.cons (aB.eH rfl aj.pure) (aj.cons aB.pure aj.nil)),?_⟩
          unfold dh
          rw[hch,if_pos rfl,Int.toNat_natCast,hdist]
          unfold aw
          rw[show out.length=k by have:=hI.len;omega]
theorem gU(T:an)(D:List Bool)(d:Int):Can Tryz.prog 36 [aN T,aQ D,num d] (· =dh (cf T D [d]) (bn T D d.toNat false)):=by
 exact aE Tryz.func36 rfl Tryz.ntmps36 rfl<|ab (.a 3 rfl<|.k [1,2,3] rfl)<|ab (.a 3 rfl<|.c rfl (w7 T D d false) rfl<|.a 4 rfl<|.k [6,7] rfl)<|aq<|⟨_,_,aA.of rfl,aB.pure,rfl⟩
end PW
end Go.Proofs.YtnegbdpggideiaaGreatDoor
