/- Texts of the proof, part 6. -/
import Derived.Laws.StructEq
import Derived.Test.YtnegbdpggideiaaGreatDoorCardMPB5
namespace Go.Proofs.YtnegbdpggideiaaGreatDoor
set_option linter.unusedVariables false
set_option linter.unusedSimpArgs false
namespace Net
def cnt:List Int→Nat
 | []=>0
 |v::l=>(if 0≤v then 1 else 0)+cnt l
theorem cnt_le (l:List Int):cnt l≤l.length:=by
 induction l with
 |nil=>exact Nat.le_refl _
 |cons v l ih=>simp only[cnt,List.length_cons];split<;>omega
theorem cnt_set:∀(l:List Int) (i:Nat) (c:Int),i<l.length→0≤c→cnt (l.set i c)=cnt l+(if 0≤l.getD i (-1) then 0 else 1)
 | [],i,c,h,_=>by simp at h
 |v::l,0,c,_,hc=>by
  simp only[List.set_cons_zero,cnt,List.getD_cons_zero]
  rw[if_pos hc]
  by_cases h:0≤v
  ·rw[if_pos h,if_pos h];omega
  ·rw[if_neg h,if_neg h];omega
 |v::l,i+1,c,h,hc=>by
  simp only[List.set_cons_succ,cnt,List.getD_cons_succ]
  rw[cnt_set l i c (by simpa using h) hc]
  omega
def wgt (v:Int):Nat:=if v<0 then 4194241 else v.toNat
def mu:List Int→Nat
 | []=>0
 |v::l=>wgt v+mu l
theorem mu_set:∀(l:List Int) (i:Nat) (c:Int),i<l.length→mu (l.set i c)+wgt (l.getD i (-1))=mu l+wgt c
 | [],i,c,h=>by simp at h
 |v::l,0,c,_=>by simp only[List.set_cons_zero,mu,List.getD_cons_zero];omega
 |v::l,i+1,c,h=>by
  have:=mu_set l i c (by simpa using h)
  simp only[List.set_cons_succ,mu,List.getD_cons_succ]
  omega
structure Inv (T:Topo) (D:List Bool) (n:Nat) (dir:Bool) (out:List Int):Prop where
 len:(out.length:Int)=T.nodes
 root:at' out (n:Int)=0
 ge:∀x:Nat,(x:Int)<T.nodes→ -1≤at' out (x:Int)
 bnd:∀x:Nat,(x:Int)<T.nodes→at' out (x:Int)≤65535*(cnt out:Int)
 supp:∀x:Nat,(x:Int)<T.nodes→0≤at' out (x:Int)→x=n∨∃a,a<2*T.links.length∧arcX T dir a=(x:Int)∧Way T D n dir out a∧at' out (arcY T dir a)+costN T a≤at' out (x:Int)
def Gains (T:Topo) (D:List Bool) (n:Nat) (dir:Bool) (out:List Int) (a:Nat):Prop:=
 Way T D n dir out a∧(at' out (arcX T dir a)<0∨at' out (arcY T dir a)+costN T a<at' out (arcX T dir a))
def gain (T:Topo) (dir:Bool) (out:List Int) (a:Nat):List Int:=out.set (arcX T dir a).toNat (at' out (arcY T dir a)+costN T a)
theorem at_set (out:List Int) (x y:Nat) (c:Int) (hx:x<out.length):at' (out.set x c) (y:Int)=if y=x then c else at' out (y:Int):=by
 simp only[at',Int.toNat_natCast,List.getD_eq_getElem?_getD,List.getElem?_set]
 by_cases h:x=y
 ·subst h;simp[hx]
 ·rw[if_neg h,if_neg (Ne.symm h)]
theorem gain_inv {T:Topo} (hT:Sound T) {D:List Bool} {n:Nat} {dir:Bool} {out:List Int} (h:Inv T D n dir out) (a:Nat) (ha:a<2*T.links.length) (hg:Gains T D n dir out a):
  Inv T D n dir (gain T dir out a)∧mu (gain T dir out a)<mu out:=by
 obtain⟨⟨w1,w2,w3⟩,hb⟩:=hg
 have hc:=hT.cost a ha
 obtain⟨x,hx⟩:=Int.eq_ofNat_of_zero_le (hT.x dir a ha).1
 obtain⟨y,hy⟩:=Int.eq_ofNat_of_zero_le (hT.y dir a ha).1
 have hxn:=(hT.x dir a ha).2
 have hyn:=(hT.y dir a ha).2
 unfold gain
 rw[hx,hy,Int.toNat_natCast]
 rw[hx,hy]at hb
 rw[hy]at w2 w3
 rw[hx]at hxn
 rw[hy]at hyn
 have hlen:=h.len
 have hxl:x<out.length:=by omega
 generalize hcc:at' out (y:Int)+costN T a=c at*
 have hby:=h.bnd y hyn
 have hxr:x≠n:=fun e=>by
  rw[e,h.root]at hb
  omega
 have hcs:=cnt_set out x c hxl (by omega)
 have hgx:out.getD x (-1)=at' out (x:Int):=by simp[at']
 rw[hgx]at hcs
 have at1:=fun z=>at_set out x z c hxl
 have reach:∀z:Nat,(z:Int)<T.nodes→0≤at' out (z:Int)→0≤at' (out.set x c) (z:Int):=fun z _ hz=>by
  rw[at1 z];split<;>omega
 have less:∀z:Nat,(z:Int)<T.nodes→0≤at' out (z:Int)→at' (out.set x c) (z:Int)≤at' out (z:Int):=fun z _ hz=>by
  rw[at1 z]
  split
  ·rename_i e;subst e;omega
  ·omega
 have way:∀b,b<2*T.links.length→Way T D n dir out b→Way T D n dir (out.set x c) b:=fun b hbl ⟨v1,v2,v3⟩=>by
  obtain⟨z,hz⟩:=Int.eq_ofNat_of_zero_le (hT.y dir b hbl).1
  have hzn:=(hT.y dir b hbl).2
  refine⟨v1,?_,v3⟩
  rw[hz]at v2 hzn ⊢
  exact reach z hzn v2
 refine⟨⟨by rw[List.length_set];exact hlen,?_,fun z hz=>?_,fun z hz=>?_,fun z hz h0=>?_⟩,?_⟩
 ·rw[at1 n,if_neg (Ne.symm hxr)];exact h.root
 ·rw[at1 z];split
  ·omega
  ·exact h.ge z hz
 ·rw[at1 z]
  have hbz:=h.bnd z hz
  have:(cnt out:Int)≤(cnt (out.set x c):Int):=by rw[hcs];split<;>omega
  split
  ·rw[hcs]
   rename_i e
   subst e
   by_cases hr:0≤at' out (z:Int)
   ·rw[if_pos hr];omega
   ·rw[if_neg hr];omega
  ·omega
 ·by_cases e:z=x
  ·subst e
   refine .inr ⟨a,ha,hx,way a ha ⟨w1,by rw[hy];exact w2,by rw[hy];exact w3⟩,?_⟩
   rw[hy,at1 z,if_pos rfl]
   have:=less y hyn w2
   omega
  ·rw[at1 z,if_neg e]at h0
   rcases h.supp z hz h0 with e2|⟨b,hbl,hbx,hbw,hbe⟩
   ·exact .inl e2
   ·refine .inr ⟨b,hbl,hbx,way b hbl hbw,?_⟩
    rw[at1 z,if_neg e]
    obtain⟨u,hu⟩:=Int.eq_ofNat_of_zero_le (hT.y dir b hbl).1
    have hun:=(hT.y dir b hbl).2
    have hw2:=hbw.2.1
    rw[hu]at hun hbe hw2 ⊢
    have:=less u hun hw2
    omega
 ·have hm:=mu_set out x c hxl
  rw[hgx]at hm
  have hcl:=cnt_le out
  have hnn:=hT.nodes
  have hcb:c≤4194240:=by
   rcases hb with hb|hb
   ·have hlt:cnt out<out.length:=by
     have:=cnt_le (out.set x c)
     rw[List.length_set,hcs,if_neg (by omega)]at this
     omega
    omega
   ·have:=h.bnd x hxn;omega
  have hw1:wgt c=c.toNat:=by unfold wgt;rw[if_neg (by omega)]
  have hw2:wgt (at' out (x:Int))=if at' out (x:Int)<0 then 4194241 else(at' out (x:Int)).toNat:=rfl
  rw[hw1,hw2]at hm
  rcases hb with hb|hb
  ·rw[if_pos hb]at hm;omega
  ·by_cases hr:at' out (x:Int)<0
   ·rw[if_pos hr]at hm;omega
   ·rw[if_neg hr]at hm;omega
theorem inv_dist {T:Topo} {D:List Bool} {n:Nat} {dir:Bool} {out:List Int} (h:Inv T D n dir out) (hn:∀a,a<2*T.links.length→¬Gains T D n dir out a):IsDist T D n dir out:=by
 have closed:∀a,a<2*T.links.length→Way T D n dir out a→0≤at' out (arcX T dir a)∧at' out (arcX T dir a)≤at' out (arcY T dir a)+costN T a:=fun a ha hw=>by
  have:=hn a ha
  unfold Gains at this
  have h2:¬(at' out (arcX T dir a)<0∨at' out (arcY T dir a)+costN T a<at' out (arcX T dir a)):=fun e=>this ⟨hw,e⟩
  omega
 refine⟨h.len,h.root,h.ge,closed,fun x hx h0=>?_⟩
 rcases h.supp x hx h0 with e|⟨a,ha,hax,hw,he⟩
 ·exact .inl e
 ·refine .inr ⟨a,ha,hax,hw,?_⟩
  have:=closed a ha hw
  rw[hax]at this
  omega
def start (N n:Nat):List Int:=(List.replicate N (-1)).set n 0
theorem at_start (N n:Nat) (hn:n<N) (x:Nat) (hx:x<N):at' (start N n) (x:Int)=if x=n then 0 else -1:=by
 unfold start
 rw[at_set _ n x 0 (by simpa using hn)]
 split
 ·rfl
 ·simp[at',hx]
theorem start_inv {T:Topo} {D:List Bool} {N n:Nat} {dir:Bool} (hN:(N:Int)=T.nodes) (hn:n<N):Inv T D n dir (start N n):=by
 have hc:1≤cnt (start N n):=by
  unfold start
  rw[cnt_set _ n 0 (by simpa using hn) (by omega)]
  have:(List.replicate N (-1:Int)).getD n (-1)= -1:=by simp[hn]
  rw[this]
  simp
 refine⟨by simp[start];exact hN,by rw[at_start N n hn n hn,if_pos rfl],fun x hx=>?_,fun x hx=>?_,fun x hx h0=>?_⟩
 ·rw[at_start N n hn x (by omega)];split<;>omega
 ·rw[at_start N n hn x (by omega)];split<;>omega
 ·rw[at_start N n hn x (by omega)]at h0
  by_cases e:x=n
  ·exact .inl e
  ·rw[if_neg e]at h0;omega
theorem dist_exists_of {T:Topo} (hT:Sound T) {D:List Bool} {n:Nat} {dir:Bool}:∀(k:Nat) (out:List Int),mu out=k→Inv T D n dir out→∃out',IsDist T D n dir out'∧Inv T D n dir out':=by
 intro k
 induction k using Nat.strongRecOn with
 |_ k ih=>
  intro out hk hi
  by_cases h:∃a,a<2*T.links.length∧Gains T D n dir out a
  ·obtain⟨a,ha,hg⟩:=h
   obtain⟨h1,h2⟩:=gain_inv hT hi a ha hg
   exact ih _ (by omega) _ rfl h1
  ·exact⟨out,inv_dist hi fun a ha hg=>h ⟨a,ha,hg⟩,hi⟩
theorem distL_is {T:Topo} (hT:Sound T) (D:List Bool) {n:Nat} (dir:Bool) (hn:(n:Int)<T.nodes):IsDist T D n dir (distL T D n dir):=by
 obtain⟨N,hN⟩:=Int.eq_ofNat_of_zero_le (by have:=hT.nodes.1;omega:0≤T.nodes)
 obtain⟨out,ho,_⟩:=dist_exists_of hT _ (start N n) rfl (start_inv (D:=D) (dir:=dir) hN.symm (by omega))
 rw[distL_eq hT ho]
 exact ho
theorem distL_inv {T:Topo} (hT:Sound T) (D:List Bool) {n:Nat} (dir:Bool) (hn:(n:Int)<T.nodes):Inv T D n dir (distL T D n dir):=by
 obtain⟨N,hN⟩:=Int.eq_ofNat_of_zero_le (by have:=hT.nodes.1;omega:0≤T.nodes)
 obtain⟨out,ho,hi⟩:=dist_exists_of hT _ (start N n) rfl (start_inv (D:=D) (dir:=dir) hN.symm (by omega))
 rw[distL_eq hT ho]
 exact hi
end Net
end Go.Proofs.YtnegbdpggideiaaGreatDoor

namespace Go.Proofs.YtnegbdpggideiaaGreatDoor
set_option linter.unusedVariables false
set_option linter.unusedSimpArgs false
namespace Net
theorem sound_of {T:Topo} (h:validB T=true):Sound T:=by
 have hb:=valid_bd h
 have lk:∀i,i<T.links.length→(0≤(lnk T.links i).a∧(lnk T.links i).a<T.nodes)∧(0≤(lnk T.links i).b∧(lnk T.links i).b<T.nodes)∧(1≤(lnk T.links i).c0∧(lnk T.links i).c0≤65535)∧(1≤(lnk T.links i).c1∧(lnk T.links i).c1≤65535):=fun i hi=>by
  have:=valid_link h i hi
  simp only[linkOK,nodeB,withinB,Bool.and_eq_true,decide_eq_true_eq]at this
  obtain⟨⟨⟨⟨⟨⟨⟨_,h1⟩,h2⟩,h3⟩,h4⟩,_⟩,_⟩,_⟩:=this
  exact⟨h1,h2,h3,h4⟩
 have fl:∀a,a<2*T.links.length→flip a<2*T.links.length:=fun a ha=>by unfold flip;split<;>omega
 have tl:∀a,a<2*T.links.length→0≤tailN T a∧tailN T a<T.nodes:=fun a ha=>by
  have:=lk (a / 2) (by omega)
  unfold tailN;split
  ·exact this.1
  ·exact this.2.1
 refine⟨fun a ha=>?_,tl,fun a ha=>tl _ (fl a ha),⟨hb.1,hb.2.1⟩⟩
 have:=lk (a / 2) (by omega)
 unfold costN;split
 ·exact this.2.2.1
 ·exact this.2.2.2
theorem Inv.ub {T:Topo} {D:List Bool} {n:Nat} {dir:Bool} {out:List Int} (h:Inv T D n dir out) (x:Nat) (hx:(x:Int)<T.nodes) (hN:T.nodes≤64):at' out (x:Int)≤4194240:=by
 have h1:=h.bnd x hx
 have h2:=cnt_le out
 have h3:=h.len
 omega
end Net
end Go.Proofs.YtnegbdpggideiaaGreatDoor

namespace Go.Proofs.YtnegbdpggideiaaGreatDoor
set_option linter.unusedVariables false
set_option linter.unusedSimpArgs false
namespace PW
open Go.RowKit Reg Mem Net
set_option maxRecDepth 10000 in
set_option maxHeartbeats 1000000 in
theorem entering_can (T:Topo) (hv:validB T=true):Can Tryz.prog 174 [topoV T] (· =rowsV (rowsL (headN T) T.nodes.toNat (2*T.links.length))):=by
 have hbd:=valid_bd hv
 have hS:=sound_of hv
 obtain⟨n,hn⟩:∃n:Nat,T.nodes=(n:Int):=⟨T.nodes.toNat,by omega⟩
 rw[show T.nodes.toNat=n by omega]
 refine can_of Tryz.func174 rfl Tryz.ntmps174 rfl ?_
 refine W_cs (.a 2 rfl<|.k [1] rfl) ?_
 refine W_rs ?_
 refine WR_a 2 rfl<|WR_l (l_make rfl (fok.rk.get rfl) rfl rfl hn hn ⟨by unfold maxLen;omega,by omega⟩) rfl<|WR_a 1 rfl<|WR_k [1,3] rfl ?_
 refine W_adoptRows 37 3 n ?_
 refine W_seq ?_
 refine W_cs (.a 1 rfl<|.c rfl (arcs_can T (by omega)) rfl<|.a 1 rfl<|.k [1,3,10,11] rfl) ?_
 refine W_block ?_
 refine W_k [1,3,10,11] rfl ?_
 refine W_loop (fun r s=>∃k,k≤2*T.links.length∧r=2*T.links.length - k∧s=⟨[(1,.pin (topoP T) 0),(3,.own 0),(10,num (2*(T.links.length:Int))),(11,num k)],rsto 37 3 (rowsL (headN T) n k)⟩) (2*T.links.length) ⟨0,by omega,by omega,by rw[rowsL_zero];rfl⟩ ?_
 rintro r s ⟨k,hk,rfl,rfl⟩
 refine W_cs (.a 1 rfl<|.k [1,3,10,11,12] rfl) ?_
 refine W_seq ?_
 refine W_cond rfl (fun hc=>?_) (fun hc=>?_)
 ·have hlt:k<2*T.links.length:=by have:=of_decide_eq_true hc;omega
  obtain⟨hd0,hhN⟩:=hS.head k hlt
  obtain⟨m,hm⟩:=Int.eq_ofNat_of_zero_le hd0
  have hmn:m<n:=by omega
  have hrl:=rowsL_len (headN T) n k
  have hgl:((rowsL (headN T) n k).getD m []).length≤k:=by
   rw[rowsL_get _ _ _ _ hmn]
   simp only[List.length_map]
   exact Nat.le_trans (List.length_filter_le _ _) (by simp)
  refine W_skip ?_
  refine W_seq ?_
  refine W_block ?_
  refine W_cs (.a 2 rfl<|.k [1,3,4,10,11] rfl) ?_
  refine W_cs (.a 2 rfl<|.c rfl (hm▸head_can T k hlt (by omega)) rfl<|.a 1 rfl<|.k [1,3,4,5,10,11] rfl) ?_
  refine W_region ?_
  refine WR_a 4 rfl<|WR_v (y_ix (m) rfl) rfl<|WR_v (y_ld rfl (owns_get _ m (by omega))) rfl<|WR_a 2 rfl<|WR_l (l_append rfl (fok.rk.get rfl) rfl (rsto_get _ _ _ m (by omega)) rfl rfl ⟨by unfold maxLen;omega,by omega⟩) rfl<|WR_v (y_ix (m) rfl) rfl<|WR_loud0 (l_store1 rfl (fok.tk.get rfl) rfl rfl rfl (by show m<(ownsP _).length;simp[ownsP];omega)) rfl rfl<|WR_k [1,3,10,11] rfl ?_
  refine W_ren (rfs (rowsL (headN T) n k).length m) (.cons 1 rfl Ren.pure<|.cons 3 rfl (Ren.own (i:=0) rfl)<|.cons 10 rfl Ren.pure<|.cons 11 rfl Ren.pure<|.nil) (rsto_ren 37 3 (rowsL (headN T) n k) m (by omega) (k:Int)) (rfs_nodup _ _) rfl ?_
  rw[←rowsL_step (headN T) n k m hm hmn]
  refine W_chain (.v (y_ar rfl) rfl<|.a 1 rfl<|.k [1,3,10,11] rfl) ?_
  exact⟨2*T.links.length - (k+1),by omega,k+1,by omega,rfl,rfl⟩
 ·have hke:k=2*T.links.length:=by have:=of_decide_eq_false hc;omega
  subst hke
  refine W_exit ?_
  refine W_cs (.a 2 rfl<|.k [2] rfl) ?_
  refine W_ret ?_
  exact⟨_,_,ResL.of rfl,rsto_pur _ _ _,rfl⟩
end PW
end Go.Proofs.YtnegbdpggideiaaGreatDoor

namespace Go.Proofs.YtnegbdpggideiaaGreatDoor
set_option linter.unusedVariables false
set_option linter.unusedSimpArgs false
namespace Net
structure Dij (T:Topo) (D:List Bool) (n:Nat) (dir:Bool) (out K:List Int) (H:Nat→Prop) (S:Nat→Prop):Prop where
 len:(out.length:Int)=T.nodes
 ge:∀x:Nat,(x:Int)<T.nodes→ -1≤at' out (x:Int)
 root:at' out (n:Int)=0∨(H n∧K.getD n 0=0)
 hneg:∀y,H y→(y:Int)<T.nodes∧at' out (y:Int)= -1
 mono:∀x y:Nat,(x:Int)<T.nodes→H y→at' out (x:Int)≤K.getD y 0
 suppH:∀y,H y→(y=n∧K.getD y 0=0)∨∃a,a<2*T.links.length∧arcX T dir a=(y:Int)∧Way T D n dir out a∧K.getD y 0=at' out (arcY T dir a)+costN T a
 supp:∀x:Nat,(x:Int)<T.nodes→0≤at' out (x:Int)→x=n∨∃a,a<2*T.links.length∧arcX T dir a=(x:Int)∧Way T D n dir out a∧at' out (x:Int)=at' out (arcY T dir a)+costN T a
 closed:∀a,a<2*T.links.length→¬S a→Way T D n dir out a→(0≤at' out (arcX T dir a)∧at' out (arcX T dir a)≤at' out (arcY T dir a)+costN T a)∨(H (arcX T dir a).toNat∧K.getD (arcX T dir a).toNat 0≤at' out (arcY T dir a)+costN T a)
 ub:∀x:Nat,(x:Int)<T.nodes→at' out (x:Int)≤65535*(cnt out:Int)
 ubH:∀y,H y→K.getD y 0≤65535*(cnt out:Int)
theorem Dij.key {T:Topo} (hT:Sound T) {D:List Bool} {n:Nat} {dir:Bool} {out K:List Int} {H S:Nat→Prop} (h:Dij T D n dir out K H S) {y:Nat} (hy:H y):0≤K.getD y 0:=by
 rcases h.suppH y hy with⟨_,h0⟩|⟨a,ha,_,hw,he⟩
 ·omega
 ·have:=hT.cost a ha
  have:=hw.2.1
  omega
theorem getK (L:List Int) (i j:Nat) (c:Int) (hi:i<L.length):(L.set i c).getD j 0=if j=i then c else L.getD j 0:=by
 by_cases h:j=i
 ·subst h;simp[List.getD_eq_getElem?_getD,hi]
 ·simp[List.getD_eq_getElem?_getD,List.getElem?_set,Ne.symm h,h]
theorem cnt_neg (N:Nat):cnt (List.replicate N (-1))=0:=by
 induction N with
 |zero=>rfl
 |succ N ih=>rw[List.replicate_succ];simp[cnt,ih]
theorem at_neg (N x:Nat):at' (List.replicate N (-1)) (x:Int)= -1:=by
 unfold at'
 rw[List.getD_eq_getElem?_getD,List.getElem?_replicate]
 split<;>rfl
theorem dij_start {T:Topo} {D:List Bool} {N n:Nat} {dir:Bool} (hN:(N:Int)=T.nodes) (hn:n<N) {K:List Int} {H:Nat→Prop} (hK:K.getD n 0=0) (hH:∀y,H y↔y=n):Dij T D n dir (List.replicate N (-1)) K H (fun _=>False) where
 len:=by simpa using hN
 ge x _:=by rw[at_neg];omega
 root:=.inr ⟨(hH n).2 rfl,hK⟩
 hneg y hy:=by have:=(hH y).1 hy;subst this;exact⟨by omega,at_neg N y⟩
 mono x y _ hy:=by have:=(hH y).1 hy;subst this;rw[at_neg,hK];omega
 suppH y hy:=by have:=(hH y).1 hy;subst this;exact .inl ⟨rfl,hK⟩
 supp x _ h:=by rw[at_neg]at h;omega
 closed a _ _ hw:=by
  have:=hw.2.1
  have h2:at' (List.replicate N (-1)) (arcY T dir a)= -1:=by
   unfold at'
   rw[List.getD_eq_getElem?_getD,List.getElem?_replicate]
   split<;>rfl
  rw[h2]at this;omega
 ub x _:=by rw[at_neg,cnt_neg];omega
 ubH y hy:=by have:=(hH y).1 hy;subst this;rw[hK,cnt_neg];omega
theorem dij_pop {T:Topo} (hT:Sound T) {D:List Bool} {n:Nat} {dir:Bool} {out K:List Int} {H:Nat→Prop} (h:Dij T D n dir out K H (fun _=>False)) {i:Nat} (hi:H i) (hmin:∀j,H j→K.getD i 0≤K.getD j 0) (hKl:i<K.length) {H':Nat→Prop} (hH':∀j,H' j↔H j∧j≠i):
  Dij T D n dir (out.set i (K.getD i 0)) (K.set i 0) H' (fun a=>arcY T dir a=(i:Int))∧cnt (out.set i (K.getD i 0))=cnt out+1∧(∀x:Nat,(x:Int)<T.nodes→at' (out.set i (K.getD i 0)) (x:Int)≤K.getD i 0)∧at' (out.set i (K.getD i 0)) (i:Int)=K.getD i 0∧0≤K.getD i 0∧K.getD i 0≤65535*(cnt out:Int):=by
 obtain⟨hin,hineg⟩:=h.hneg i hi
 have hil:i<out.length:=by have:=h.len;omega
 have hd:=h.key hT hi
 have hdu:=h.ubH i hi
 have hat:=fun x:Nat=>at_set out i x (K.getD i 0) hil
 have hK:∀j,j≠i→(K.set i 0).getD j 0=K.getD j 0:=fun j hj=>by rw[getK _ _ _ _ hKl,if_neg hj]
 have hcnt:cnt (out.set i (K.getD i 0))=cnt out+1:=by
  rw[cnt_set out i _ hil hd,if_neg]
  have:out.getD i (-1)=at' out (i:Int):=by simp[at']
  rw[this,hineg];omega
 have hy:∀a,a<2*T.links.length→Way T D n dir out a→Way T D n dir (out.set i (K.getD i 0)) a∧at' (out.set i (K.getD i 0)) (arcY T dir a)=at' out (arcY T dir a):=fun a ha hw=>by
  obtain⟨y,hy⟩:=Int.eq_ofNat_of_zero_le (hT.y dir a ha).1
  have hne:y≠i:=fun e=>by
   have:=hw.2.1
   rw[hy,e,hineg]at this;omega
  have e1:at' (out.set i (K.getD i 0)) (arcY T dir a)=at' out (arcY T dir a):=by rw[hy,hat y,if_neg hne]
  exact⟨⟨hw.1,by rw[e1];exact hw.2.1,hw.2.2⟩,e1⟩
 refine⟨⟨by simpa using h.len,fun x hx=>?_,?_,fun y hy'=>?_,fun x y hx hy'=>?_,fun y hy'=>?_,fun x hx h0=>?_,fun a ha hs hw=>?_,fun x hx=>?_,fun y hy'=>?_⟩,hcnt,fun x hx=>?_,by rw[hat i,if_pos rfl],hd,hdu⟩
 ·rw[hat x];split
  ·omega
  ·exact h.ge x hx
 ·by_cases e:n=i
  ·subst e
   left
   rw[hat n,if_pos rfl]
   rcases h.root with h0|⟨_,h0⟩
   ·omega
   ·exact h0
  ·rcases h.root with h0|⟨h1,h0⟩
   ·left;rw[hat n,if_neg e];exact h0
   ·right;exact⟨(hH' n).2 ⟨h1,e⟩,by rw[hK n e];exact h0⟩
 ·obtain⟨h1,h2⟩:=(hH' y).1 hy'
  obtain⟨h3,h4⟩:=h.hneg y h1
  exact⟨h3,by rw[hat y,if_neg h2];exact h4⟩
 ·obtain⟨h1,h2⟩:=(hH' y).1 hy'
  rw[hat x,hK y h2]
  split
  ·exact hmin y h1
  ·exact h.mono x y hx h1
 ·obtain⟨h1,h2⟩:=(hH' y).1 hy'
  rw[hK y h2]
  rcases h.suppH y h1 with h3|⟨a,ha,hx,hw,he⟩
  ·exact .inl h3
  ·obtain⟨k1,k2⟩:=hy a ha hw
   exact .inr ⟨a,ha,hx,k1,by rw[k2];exact he⟩
 ·rw[hat x]at h0 ⊢
  by_cases e:x=i
  ·subst e
   rw[if_pos rfl]
   rcases h.suppH x hi with⟨h3,_⟩|⟨a,ha,hx,hw,he⟩
   ·exact .inl h3
   ·obtain⟨k1,k2⟩:=hy a ha hw
    exact .inr ⟨a,ha,hx,k1,by rw[k2];exact he⟩
  ·rw[if_neg e]at h0 ⊢
   rcases h.supp x hx h0 with h3|⟨a,ha,hx,hw,he⟩
   ·exact .inl h3
   ·obtain⟨k1,k2⟩:=hy a ha hw
    exact .inr ⟨a,ha,hx,k1,by rw[k2];exact he⟩
 ·obtain⟨y,hya⟩:=Int.eq_ofNat_of_zero_le (hT.y dir a ha).1
  have hne:y≠i:=fun e=>hs (by rw[hya,e])
  have e1:at' (out.set i (K.getD i 0)) (arcY T dir a)=at' out (arcY T dir a):=by rw[hya,hat y,if_neg hne]
  have hw0:Way T D n dir out a:=⟨hw.1,by rw[←e1];exact hw.2.1,hw.2.2⟩
  obtain⟨x,hxa⟩:=Int.eq_ofNat_of_zero_le (hT.x dir a ha).1
  have hc:=h.closed a ha (fun f=>f) hw0
  rw[e1]
  rw[hxa]at hc ⊢
  rw[Int.toNat_natCast]at hc ⊢
  rw[hat x]
  by_cases e:x=i
  ·subst e
   left
   rw[if_pos rfl]
   rcases hc with⟨h1,_⟩|⟨_,h2⟩
   ·rw[hineg]at h1;omega
   ·exact⟨hd,h2⟩
  ·rw[if_neg e]
   rcases hc with h1|⟨h1,h2⟩
   ·exact .inl h1
   ·exact .inr ⟨(hH' x).2 ⟨h1,e⟩,by rw[hK x e];exact h2⟩
 ·rw[hat x,hcnt]
  split
  ·omega
  ·have:=h.ub x hx;omega
 ·obtain⟨h1,h2⟩:=(hH' y).1 hy'
  rw[hK y h2,hcnt]
  have:=h.ubH y h1;omega
 ·rw[hat x]
  split
  ·omega
  ·exact h.mono x i hx hi
theorem dij_over {T:Topo} {D:List Bool} {n:Nat} {dir:Bool} {out K:List Int} {H:Nat→Prop} {i:Nat} (h:Dij T D n dir out K H (fun a=>arcY T dir a=(i:Int))) (hi:i≠n) (ho:overN T i=true):Dij T D n dir out K H (fun _=>False):=
 {h with closed:=fun a ha _ hw=>h.closed a ha (fun e=>by
   rcases hw.2.2 with h1|h1
   ·rw[h1]at e;exact hi (by omega)
   ·rw[e,Int.toNat_natCast,ho]at h1;cases h1) hw}
theorem dij_old {T:Topo} {D:List Bool} {n:Nat} {dir:Bool} {out K:List Int} {H S S':Nat→Prop} (h:Dij T D n dir out K H S) {a:Nat} (hS:∀b,b<2*T.links.length→S b→S' b∨b=a)
  (hc:Way T D n dir out a→(0≤at' out (arcX T dir a)∧at' out (arcX T dir a)≤at' out (arcY T dir a)+costN T a)∨(H (arcX T dir a).toNat∧K.getD (arcX T dir a).toNat 0≤at' out (arcY T dir a)+costN T a)):Dij T D n dir out K H S':=
 ⟨h.len,h.ge,h.root,h.hneg,h.mono,h.suppH,h.supp,fun b hb hs hw=>by
   by_cases e:b=a
   ·subst e
    exact hc hw
   ·exact h.closed b hb (fun hb'=>(hS b hb hb').elim hs e) hw,h.ub,h.ubH⟩
theorem dij_set {T:Topo} (hT:Sound T) {D:List Bool} {n:Nat} {dir:Bool} {out K:List Int} {H H' S S':Nat→Prop} (h:Dij T D n dir out K H S) {a m:Nat} (ha:a<2*T.links.length) (hS:∀b,b<2*T.links.length→S b→S' b∨b=a)
  (hw:Way T D n dir out a) (hm:arcX T dir a=(m:Int)) (hneg:at' out (m:Int)<0) (htop:∀x:Nat,(x:Int)<T.nodes→at' out (x:Int)≤at' out (arcY T dir a)) (hub:at' out (arcY T dir a)+65535≤65535*(cnt out:Int))
  (hnew:¬H m∨at' out (arcY T dir a)+costN T a<K.getD m 0) (hml:m<K.length) (hH':∀j,H' j↔H j∨j=m):
  Dij T D n dir out (K.set m (at' out (arcY T dir a)+costN T a)) H' S':=by
 have hc:=hT.cost a ha
 have hmN:(m:Int)<T.nodes:=by have:=(hT.x dir a ha).2;omega
 have hK:∀j,(K.set m (at' out (arcY T dir a)+costN T a)).getD j 0=if j=m then at' out (arcY T dir a)+costN T a else K.getD j 0:=fun j=>getK _ _ _ _ hml
 have hy0:=hw.2.1
 refine⟨h.len,h.ge,?_,fun y hy=>?_,fun x y hx hy=>?_,fun y hy=>?_,h.supp,fun b hb hs hwb=>?_,h.ub,fun y hy=>?_⟩
 ·rcases h.root with h0|⟨h1,h0⟩
  ·exact .inl h0
  ·right
   refine⟨(hH' n).2 (.inl h1),?_⟩
   rw[hK n,if_neg,h0]
   intro e
   subst e
   rcases hnew with h2|h2
   ·exact h2 h1
   ·omega
 ·rcases(hH' y).1 hy with h1|rfl
  ·exact h.hneg y h1
  ·have:=h.ge y hmN
   exact⟨hmN,by omega⟩
 ·rw[hK y]
  have:=htop x hx
  split
  ·omega
  ·rename_i e
   exact h.mono x y hx (((hH' y).1 hy).resolve_right e)
 ·rw[hK y]
  by_cases e:y=m
  ·subst e
   rw[if_pos rfl]
   exact .inr ⟨a,ha,hm,hw,rfl⟩
  ·rw[if_neg e]
   exact h.suppH y (((hH' y).1 hy).resolve_right e)
 ·obtain⟨x,hx⟩:=Int.eq_ofNat_of_zero_le (hT.x dir b hb).1
  by_cases e:b=a
  ·subst e
   right
   rw[hm,Int.toNat_natCast]
   exact⟨(hH' m).2 (.inr rfl),by rw[hK m,if_pos rfl];exact Int.le_refl _⟩
  ·have h1:=h.closed b hb (fun hb'=>(hS b hb hb').elim hs e) hwb
   rw[hx,Int.toNat_natCast]at h1 ⊢
   rcases h1 with h1|⟨h1,h2⟩
   ·exact .inl h1
   ·right
    refine⟨(hH' x).2 (.inl h1),?_⟩
    rw[hK x]
    split
    ·rename_i e'
     subst e'
     rcases hnew with h3|h3
     ·exact absurd h1 h3
     ·omega
    ·exact h2
 ·rw[hK y]
  split
  ·omega
  ·rename_i e
   exact h.ubH y (((hH' y).1 hy).resolve_right e)
theorem dij_end {T:Topo} {D:List Bool} {n:Nat} {dir:Bool} {out K:List Int} {H:Nat→Prop} (h:Dij T D n dir out K H (fun _=>False)) (hH:∀y,¬H y):IsDist T D n dir out:=
 ⟨h.len,h.root.resolve_right (fun k=>hH n k.1),h.ge,fun a ha hw=>(h.closed a ha (fun f=>f) hw).resolve_right (fun k=>hH _ k.1),h.supp⟩
end Net
end Go.Proofs.YtnegbdpggideiaaGreatDoor

namespace Go.Proofs.YtnegbdpggideiaaGreatDoor
set_option linter.unusedVariables false
set_option linter.unusedSimpArgs false
namespace PW
open Go.RowKit Reg Mem Net Heap
theorem hok_min {N n:Nat} {K P O:List Int} (h:HOK N n K P O) (hN:N≤65536) {i:Nat} (hi:O.getD 0 0=(i:Int)) (j:Nat) (hj:Held O (j:Int)):K.getD i 0≤K.getD j 0:=by
 obtain⟨hP,hO,hK,hH⟩:=h
 obtain⟨p,hp,he⟩:=hj
 have h1:=heapy_min hH p (by omega)
 unfold rk at h1
 rw[hi,he]at h1
 have h2:=hP.item p hp
 have:=rank_key (by omega) (by omega) h1
 simpa using this
theorem hok_new (N:Nat):HOK N 0 (List.replicate N 0) (List.replicate N 0) []:=
 ⟨⟨by simp,fun p hp=>by simp at hp,fun i hi=>.inl (by simp[List.getD_eq_getElem?_getD,List.getElem?_replicate,hi])⟩,rfl,by simp,fun q _ hq=>by omega⟩
theorem W_norm {P:Program} {M:Nat} {c:Code} {t:Tms} {Q:Exit→St→Prop} {b:Bool} {d:Option Blk} {N n:Nat} {K Pl O:List Int} (hd:PureD d) (hT:TRen [0,1,2,3,5] t t) (h:W P M 0 c ⟨t,hsto false d N n K Pl O⟩ Q):W P M 0 c ⟨t,hsto b d N n K Pl O⟩ Q:=by
 cases b
 ·exact h
 ·exact W_ren [0,1,2,3,5] hT (.same hd rfl<|.kept rfl (.cells (RenL.cons (Ren.own (i:=2) rfl)<|RenL.cons (Ren.own (i:=3) rfl)<|RenL.cons (Ren.own (i:=4) rfl) RenL.nil))<|.kept rfl (.row RenL.pure)<|.kept rfl (.row RenL.pure)<|.kept rfl (.row RenL.pure)<|.nil) rfl rfl h
theorem W_sto {P:Program} {M L:Nat} {c:Code} {t:Tms} {Q:Exit→St→Prop} {σ σ':Sto} (he:σ=σ') (h:W P M L c ⟨t,σ'⟩ Q):W P M L c ⟨t,σ⟩ Q:=by subst he;exact h
theorem pop_one {N n:Nat} (d:Option Blk) (hd:PureD d) (K P O:List Int) (h:HOK N n K P O) (hN:N≤65536):
  CanS Tryz.prog 199 [.ptr 1 0] (hsto false d N n K P O) (fun r σ'=>∃(b ok:Bool) (i n':Nat) (key:Int) (K' P' O':List Int),r= .tuple [num i,num key,flag ok]∧σ'=hsto b d N n' K' P' O'∧
   ((ok=false∧n=0)∨(ok=true∧i<N∧Held O (i:Int)∧(∀j:Nat,Held O (j:Int)→K.getD i 0≤K.getD j 0)∧key=K.getD i 0∧K'=K.set i 0∧HOK N n' K' P' O'∧∀j:Nat,Held O' (j:Int)↔Held O (j:Int)∧j≠i))):=by
 refine(pop_can d hd K P O h hN).mono fun r σ' hr=>?_
 rcases hr with⟨h1,rfl,rfl⟩|⟨n',i,P',O',h1,h2,h3,rfl,rfl,h4,h5⟩
 ·exact⟨false,false,0,n,0,K,P,O,rfl,rfl,.inl ⟨rfl,h1⟩⟩
 ·refine⟨true,true,i,n',K.getD i 0,K.set i 0,P',O',rfl,rfl,.inr ⟨rfl,h2,⟨0,by have:=h.2.1;omega,h3⟩,hok_min h hN h3,rfl,rfl,h4,fun j=>(h5 j).trans ?_⟩⟩
  constructor<;>rintro⟨a,b⟩<;>exact⟨a,by omega⟩
def searchP (T:Topo) (D:List Bool) (n:Nat) (f1 f2:FuncId) (cap1 cap2:List PV):List PV:=[.raw (.int .i64 T.nodes),boolsV T.over,.slice T.links.length (lnksP T.links),boolsV D,num n,.func f1 cap1,.func f2 cap2]
instance (T:Topo) (D:List Bool) (n:Nat) (f1 f2:FuncId) (cap1 cap2:List PV) [IsPureL cap1] [IsPureL cap2]:IsPureL (searchP T D n f1 f2 cap1 cap2):=by unfold searchP;infer_instance
def arcsAt (T:Topo) (dir:Bool) (i:Nat):List Int:=((List.range (2*T.links.length)).filter fun a=>decide (arcY T dir a=(i:Int))).map Int.ofNat
theorem arcsAt_mem (T:Topo) (dir:Bool) (i:Nat) (a:Nat):(a:Int)∈arcsAt T dir i↔a<2*T.links.length∧arcY T dir a=(i:Int):=by
 unfold arcsAt
 simp only[List.mem_map,List.mem_filter,List.mem_range,decide_eq_true_eq]
 constructor
 ·rintro⟨b,h,e⟩
  have:b=a:=Int.ofNat.inj e
  subst this;exact h
 ·intro h;exact⟨a,h,rfl⟩
theorem arcsAt_get (T:Topo) (dir:Bool) (i k:Nat) (h:k<(arcsAt T dir i).length):∃a:Nat,(arcsAt T dir i).getD k 0=(a:Int)∧a<2*T.links.length∧arcY T dir a=(i:Int):=by
 have hm:(arcsAt T dir i).getD k 0∈arcsAt T dir i:=getD_mem h
 have:∃a:Nat,(arcsAt T dir i).getD k 0=(a:Int):=by
  unfold arcsAt at hm ⊢
  obtain⟨b,_,e⟩:=List.mem_map.1 hm
  exact⟨b,e.symm⟩
 obtain⟨a,ha⟩:=this
 rw[ha]at hm
 exact⟨a,ha,(arcsAt_mem T dir i a).1 hm⟩
theorem arcsAt_len (T:Topo) (dir:Bool) (i:Nat):(arcsAt T dir i).length≤2*T.links.length:=by
 unfold arcsAt
 rw[List.length_map]
 exact Nat.le_trans (List.length_filter_le _ _) (by simp)
theorem rep_step (N k:Nat) (h:k<N):(List.replicate k (-1:Int)++List.replicate (N - k) 0).set k (-1)=List.replicate (k+1) (-1)++List.replicate (N - (k+1)) 0:=by
 rw[List.set_append_right _ _ (by simp),List.length_replicate,Nat.sub_self,show N - k=(N - (k+1))+1 by omega,List.replicate_succ,List.set_cons_zero,List.replicate_succ',List.append_assoc]
 rfl
theorem zeros_ints_pre (N:Nat):zeros [.raw (.int .i64 0)] N=intsP (List.replicate 0 (-1)++List.replicate (N - 0) 0):=by simpa using zeros_ints N
theorem pureRow (n:Nat) (L:List Int):PureD (some (.row 3 1 n (intsP L))):=fun b h=>by
 cases h
 exact inferInstanceAs (IsPureL (intsP L))
theorem purKey {σ:Sto} {K P O:List Int} (h:Pur σ (.ptr 1 0) (hpin K P O)) (p:Int):PurL σ ([.ptr 1 0,num p]++[]) [hpin K P O,num p]:=PurL.cons h (PurL.cons Pur.pure PurL.nil)
set_option maxRecDepth 10000 in
set_option maxHeartbeats 4000000 in
theorem run_can (T:Topo) (D:List Bool) (n:Nat) (dir:Bool) (f1 f2:FuncId) (cap1 cap2:List PV) [IsPureL cap1] [IsPureL cap2] (hv:validB T=true) (hf:fitsB T D=true) (hn:(n:Int)<T.nodes) (he1:enters Tryz.prog f1=true) (he2:enters Tryz.prog f2=true)
  (h1:∀i:Nat,(i:Int)<T.nodes→Can Tryz.prog f1 ([num i]++cap1) (· =intsV (arcsAt T dir i))) (h2:∀a:Nat,a<2*T.links.length→Can Tryz.prog f2 ([num a]++cap2) (· =num (arcX T dir a))):
  Can Tryz.prog 177 [.agg (searchP T D n f1 f2 cap1 cap2)] (· =intsV (distL T D n dir)):=by
 have hbd:=valid_bd hv
 have hS:=sound_of hv
 obtain⟨N,hN⟩:∃N:Nat,T.nodes=(N:Int):=⟨T.nodes.toNat,by omega⟩
 have hN64:N≤64:=by have:=hS.nodes;omega
 have hnN:n<N:=by omega
 refine can_of Tryz.func177 rfl Tryz.ntmps177 rfl ?_
 refine W_cs (.a 2 rfl<|.k [1] rfl) ?_
 refine W_rs ?_
 refine WR_a 3 rfl<|WR_l (l_make rfl (fok.rk.get rfl) rfl rfl hN hN ⟨by unfold maxLen;omega,by omega⟩) rfl<|WR_a 1 rfl<|WR_k [1,3] rfl ?_
 refine W_seq ?_
 refine W_cs (.a 3 rfl<|.k [1,3,21,22] rfl) ?_
 refine W_block ?_
 refine W_k [1,3,21,22] rfl ?_
 refine W_loop (fun r s=>∃k,k≤N∧r=N - k∧s=⟨[(1,.pin (searchP T D n f1 f2 cap1 cap2) 0),(3,.own 0),(21,num N),(22,num k)],[some (.row 3 1 N (intsP (List.replicate k (-1)++List.replicate (N - k) 0)))]⟩) N ⟨0,by omega,by omega,by rw[←zeros_ints_pre N];rfl⟩ ?_
 rintro r s ⟨k,hk,rfl,rfl⟩
 refine W_cs (.a 1 rfl<|.k [1,3,21,22,23] rfl) ?_
 refine W_seq ?_
 refine W_cond rfl (fun hc=>?_) (fun hc=>?_)
 ·have hlt:k<N:=by have:=of_decide_eq_true hc;omega
  refine W_skip ?_
  refine W_seq ?_
  refine W_block ?_
  refine W_cs (.a 2 rfl<|.k [1,3,4,21,22] rfl) ?_
  refine W_region ?_
  refine WR_a 2 rfl<|WR_v (y_ix (k) rfl) rfl<|WR_loud0 ((by first|exact l_storeInts rfl (fok.tk.get rfl) rfl rfl rfl (by first|omega|(simp;omega))|exact l_storeBools rfl (fok.tk.get rfl) rfl rfl rfl (by first|omega|(simp;omega)))) rfl rfl<|WR_k [1,3,21,22] rfl ?_
  refine W_sto (σ':=[some (.row 3 1 N (intsP (List.replicate (k+1) (-1)++List.replicate (N - (k+1)) 0)))]) (by rw[←rep_step N k hlt];rfl) ?_
  refine W_chain (.v (y_ar rfl) rfl<|.a 1 rfl<|.k [1,3,21,22] rfl) ?_
  exact⟨N - (k+1),by omega,k+1,by omega,rfl,rfl⟩
 ·have hke:k=N:=by have:=of_decide_eq_false hc;omega
  subst hke
  refine W_sto (σ':=[some (.row 3 1 k (intsP (List.replicate k (-1))))]) (by simp) ?_
  refine W_exit ?_
  refine W_rs ?_
  refine WR_a 2 rfl<|WR_v (y_ld rfl ((show some (num T.nodes)=some (num (k:Int)) by rw[hN]))) rfl<|WR_cS rfl rfl (CanS.mono (new_can k (some (.row 3 1 k (intsP (List.replicate k (-1))))) (pureRow _ _) (by omega)) (fun _ σ' h=>?_))
  obtain⟨rfl,rfl⟩:=h
  refine WR_a 5 rfl<|WR_k [1,3,5] rfl ?_
  refine W_rs ?_
  refine WR_a 3 rfl<|WR_cS rfl rfl (CanS.mono (set_can (some (.row 3 1 k (intsP (List.replicate k (-1))))) (pureRow _ _) _ _ _ (hok_new k) (by omega) n hnN 0) (fun _ σ' h=>?_))
  obtain⟨b,n1,P1,O1,rfl,hok,hheld⟩:=h
  refine WR_k [1,3,5] rfl ?_
  refine W_norm (pureRow _ _) (.cons 1 rfl Ren.pure<|.cons 3 rfl (Ren.own (i:=0) rfl)<|.cons 5 rfl (Ren.ptr (i:=1) rfl)<|.nil) ?_
  have hD0:=dij_start (T:=T) (D:=D) (N:=k) (n:=n) (dir:=dir) hN.symm hnN (K:=(List.replicate k (0:Int)).set n 0) (H:=fun y=>Held O1 (y:Int)) (by rw[getK _ _ _ _ (by simpa using hnN),if_pos rfl]) (fun y=>(hheld y).trans ⟨fun h=>h.elim (fun⟨p,hp,_⟩=>by simp at hp) (fun e=>by omega),fun e=>.inr (by omega)⟩)
  generalize (List.replicate k (0:Int)).set n 0=K1 at hok hD0
  generalize List.replicate k (-1:Int)=out1 at hD0
  clear hheld
  refine W_block ?_
  refine W_k [1,3,5] rfl ?_
  refine W_loop (fun r s=>∃out K P O q,Dij T D n dir out K (fun y=>Held O (y:Int)) (fun _=>False)∧HOK k q K P O∧r=k+1 - cnt out∧s=⟨[(1,.pin (searchP T D n f1 f2 cap1 cap2) 0),(3,.own 0),(5,.ptr 1 0)],hsto false (some (.row 3 1 k (intsP out))) k q K P O⟩) (k+1 - cnt out1) ⟨out1,K1,P1,O1,n1,hD0,hok,rfl,rfl⟩ ?_
  clear hD0 hok out1 K1 P1 O1 n1 b
  rintro r s ⟨out,K,P,O,q,hD,hok,rfl,rfl⟩
  refine W_block ?_
  refine W_rs ?_
  refine WR_a 1 rfl<|WR_cS rfl rfl (CanS.mono (pop_one (some (.row 3 1 k (intsP out))) (pureRow _ _) K P O hok (by omega)) (fun _ σ' h=>?_))
  obtain⟨b,ok,i,n1,key,K1,P1,O1,rfl,rfl,hpop⟩:=h
  refine WR_a 7 rfl<|WR_k [1,3,5,7,8,9] rfl ?_
  refine W_norm (pureRow _ _) (.cons 1 rfl Ren.pure<|.cons 3 rfl (Ren.own (i:=0) rfl)<|.cons 5 rfl (Ren.ptr (i:=1) rfl)<|.cons 7 rfl Ren.pure<|.cons 8 rfl Ren.pure<|.cons 9 rfl Ren.pure<|.nil) ?_
  refine W_seq ?_
  refine W_cs (.a 2 rfl<|.k [1,3,5,7,8,47] rfl) ?_
  refine W_cond rfl (fun hc=>?_) (fun hc=>?_)
  ·have hok0:ok=false:=by cases ok;rfl;cases hc
   have hq0:q=0:=by
    rcases hpop with⟨_,h⟩|⟨h,_⟩
    ·exact h
    ·rw[hok0]at h;cases h
   have hdist:distL T D n dir=out:=distL_eq hS (dij_end hD (fun y ⟨p,hp,_⟩=>by have:=hok.2.1;omega))
   refine W_cs (.a 2 rfl<|.k [2] rfl) ?_
   refine W_ret ?_
   exact⟨_,_,ResL.of rfl,Pur.ownL rfl PurL.pure,by rw[hdist];unfold intsV;rw[show out.length=k by have:=hD.len;omega]⟩
  ·have hok1:ok=true:=by cases ok;cases hc;rfl
   rcases hpop with⟨h,_⟩|⟨_,hiN,hHi,hmin,rfl,rfl,hok',hH'⟩
   ·rw[hok1]at h;cases h
   obtain⟨hD1,hcnt,htop,hati,hk0,hku⟩:=dij_pop hS hD hHi hmin (by rw[hok.2.2.1];exact hiN) hH'
   have hol:out.length=k:=by have:=hD.len;omega
   have hcl:=cnt_le (out.set i (K.getD i 0))
   have hiT:(i:Int)<T.nodes:=by omega
   refine W_skip ?_
   refine W_rs ?_
   refine WR_a 3 rfl<|WR_v (y_ix (i) rfl) rfl<|WR_loud0 ((by first|exact l_storeInts rfl (fok.tk.get rfl) rfl rfl rfl (by first|omega|(simp;omega))|exact l_storeBools rfl (fok.tk.get rfl) rfl rfl rfl (by first|omega|(simp;omega)))) rfl rfl<|WR_k [1,3,5,7,8] rfl ?_
   refine W_sto (σ':=hsto false (some (.row 3 1 k (intsP (out.set i (K.getD i 0))))) k n1 (K.set i 0) P1 O1) rfl ?_
   have ho1:(out.set i (K.getD i 0)).length=k:=by simpa using hol
   have hmeas:k+1 - cnt (out.set i (K.getD i 0))<k+1 - cnt out:=by have:=cnt_le (out.set i (K.getD i 0));omega
   generalize K.getD i 0=d at hD1 hcnt htop hati hk0 hku ho1 hcl hmeas
   generalize out.set i d=out1 at hD1 hcnt htop hati ho1 hcl hmeas
   generalize K.set i 0=K1 at hD1 hok'
   refine W_seq ?_
   obtain⟨q1,hq1⟩:∃q,decide ((i:Int)≠(n:Int))=q:=⟨_,rfl⟩
   obtain⟨q2,hq2⟩:∃q,overN T i=q:=⟨_,rfl⟩
   have hov:T.over.length=0∨i<T.over.length:=by have:=hbd.2.2.2;omega
   refine W_csK 62 (.raw (.bool (q1&&q2))) [1,3,5,7,8] rfl ?_ ?_
   ·refine .a 3 rfl<|.v (y_q rfl (hq1)) rfl<|.a 1 rfl<|?_
    cases q1
    ·exact .a 5 rfl<|.k [62,1,3,5,7,8] rfl
    ·exact .a 3 rfl<|.c rfl (hq2▸over_can T i hov) rfl<|.a 1 rfl<|.k [62,1,3,5,7,8] rfl
   refine W_cond rfl (fun hc=>?_) (fun hc=>?_)
   ·obtain⟨c1,c2⟩:=Bool.and_eq_true_iff.1 hc
    rw[c1]at hq1
    rw[c2]at hq2
    have hDe:=dij_over hD1 (by have:=of_decide_eq_true hq1;omega) hq2
    refine W_sub (.cons (k:=1) rfl<|.cons (k:=3) rfl<|.cons (k:=5) rfl<|Sub.nil _) ?_
    refine W_exit ?_
    first
     |exact⟨_,hmeas,out1,K2,P2,O2,q2,hDe,hok2,rfl,rfl⟩
     |exact⟨_,hmeas,out1,K1,P1,O1,n1,hDe,hok',rfl,rfl⟩
   ·have hfree:i=n∨overN T i=false:=by
     by_cases e:i=n
     ·exact .inl e
     ·right
      have:q1=true:=by rw[←hq1];simp;omega
      rw[this,Bool.true_and]at hc
      rw[hq2,hc]
    clear hq1 hq2 hc
    refine W_skip ?_
    refine W_cs (.a 3 rfl<|.v (y_call rfl he1 rfl rfl (h1 i hiT)) rfl<|.a 2 rfl<|.k [1,3,5,8,66,67,68] rfl) ?_
    have hll:=arcsAt_len T dir i
    have hD2:Dij T D n dir out1 K1 (fun y=>Held O1 (y:Int)) (fun a=>arcY T dir a=(i:Int)∧(a:Int)∉(arcsAt T dir i).take 0):=⟨hD1.len,hD1.ge,hD1.root,hD1.hneg,hD1.mono,hD1.suppH,hD1.supp,fun a ha hs=>hD1.closed a ha (fun e=>hs ⟨e,by simp⟩),hD1.ub,hD1.ubH⟩
    refine W_block ?_
    refine W_k [1,3,5,8,66,67,68] rfl ?_
    refine W_loop (fun r s=>∃j K P O q,j≤(arcsAt T dir i).length∧Dij T D n dir out1 K (fun y=>Held O (y:Int)) (fun a=>arcY T dir a=(i:Int)∧(a:Int)∉(arcsAt T dir i).take j)∧HOK k q K P O∧r=(arcsAt T dir i).length - j∧s=⟨[(1,.pin (searchP T D n f1 f2 cap1 cap2) 0),(3,.own 0),(5,.ptr 1 0),(8,num d),(66,intsV (arcsAt T dir i)),(67,num (arcsAt T dir i).length),(68,num j)],hsto false (some (.row 3 1 k (intsP out1))) k q K P O⟩) (arcsAt T dir i).length ⟨0,K1,P1,O1,n1,by omega,hD2,hok',rfl,rfl⟩ ?_
    clear hD2 hok' hD1 K1 P1 O1 n1 hH' hmin hHi hD hok
    rintro r s ⟨j,K2,P2,O2,q2,hj,hD2,hok2,rfl,rfl⟩
    refine W_cs (.a 1 rfl<|.k [1,3,5,8,66,67,68,69] rfl) ?_
    refine W_seq ?_
    refine W_cond rfl (fun hc=>?_) (fun hc=>?_)
    ·have hlt:j<(arcsAt T dir i).length:=by have:=of_decide_eq_true hc;omega
     obtain⟨a,ha,ham,hay⟩:=arcsAt_get T dir i j hlt
     obtain⟨m,hm⟩:=Int.eq_ofNat_of_zero_le (hS.x dir a ham).1
     have hmN:m<k:=by have:=(hS.x dir a ham).2;omega
     have hcb:=hS.cost a ham
     have hDl:D.length=0∨a<D.length:=by simp only[fitsB,decide_eq_true_eq]at hf;omega
     have hSS:∀b,b<2*T.links.length→(arcY T dir b=(i:Int)∧(b:Int)∉(arcsAt T dir i).take j)→(arcY T dir b=(i:Int)∧(b:Int)∉(arcsAt T dir i).take (j+1))∨b=a:=fun b _ ⟨e1,e2⟩=>by
      by_cases e:b=a
      ·exact .inr e
      ·left
       refine⟨e1,fun hm'=>?_⟩
       rw[take_step _ j 0 hlt,ha]at hm'
       rcases List.mem_append.1 hm' with h|h
       ·exact e2 h
       ·simp at h;exact e (by omega)
     have hayi:at' out1 (arcY T dir a)=d:=by rw[hay];exact hati
     have hga:out1.getD m 0=at' out1 (m:Int):=by simp[at',List.getD_eq_getElem?_getD,show m<out1.length by omega]
     refine W_skip ?_
     refine W_seq ?_
     refine W_block ?_
     refine W_cs (.v (y_ix (j) rfl) rfl<|.v (y_ld rfl ((ints_get _ j hlt).trans (by rw[ha]))) rfl<|.a 1 rfl<|.k [1,3,5,8,11,66,67,68] rfl) ?_
     refine W_cs (.a 3 rfl<|.v (y_call rfl he2 rfl rfl (hm▸h2 a ham)) rfl<|.a 1 rfl<|.k [1,3,5,8,11,12,66,67,68] rfl) ?_
     refine W_seq ?_
     obtain⟨p1,hp1⟩:∃q,downN D a=q:=⟨_,rfl⟩
     obtain⟨p2,hp2⟩:∃q,decide (0≤out1.getD m 0)=q:=⟨_,rfl⟩
     refine W_csK 86 (.raw (.bool (p1||p2))) [1,3,5,8,11,12,66,67,68] rfl ?_ ?_
     ·refine .a 3 rfl<|.c rfl (hp1▸down_can D a hDl) rfl<|.a 1 rfl<|?_
      cases p1
      ·exact .a 2 rfl<|.v (y_ix (m) rfl) rfl<|.v (y_ld rfl (ints_get out1 m (by omega))) rfl<|.v (y_q rfl (hp2)) rfl<|.a 1 rfl<|.k [86,1,3,5,8,11,12,66,67,68] rfl
      ·exact .a 6 rfl<|.k [86,1,3,5,8,11,12,66,67,68] rfl
     refine W_cond rfl (fun hc=>?_) (fun hc=>?_)
     ·have hD3:=dij_old (S':=fun b=>arcY T dir b=(i:Int)∧(b:Int)∉(arcsAt T dir i).take (j+1)) hD2 hSS (fun hw=>.inl (by
       rcases Bool.or_eq_true_iff.1 hc with h|h
       ·rw[hw.1]at hp1;rw[h]at hp1;cases hp1
       ·rw[h]at hp2
        have h3:=of_decide_eq_true hp2
        rw[hga]at h3
        rw[hm,hayi]
        have:=htop m (by omega)
        exact⟨h3,by omega⟩))
      refine W_exit ?_
      refine W_chain (.v (y_ar rfl) rfl<|.a 1 rfl<|.k [1,3,5,8,66,67,68] rfl) ?_
      first
       |exact⟨(arcsAt T dir i).length - (j+1),by omega,j+1,_,P3,O3,n3,by omega,hD3,hok3,rfl,rfl⟩
       |exact⟨(arcsAt T dir i).length - (j+1),by omega,j+1,K2,P2,O2,q2,by omega,hD3,hok2,rfl,rfl⟩
     ·obtain⟨c1,c2⟩:=Bool.or_eq_false_iff.1 hc
      rw[c1]at hp1
      rw[c2]at hp2
      have hmneg:at' out1 (m:Int)<0:=by have:=of_decide_eq_false hp2;rw[hga]at this;omega
      have hway:Net.Way T D n dir out1 a:=⟨hp1,by rw[hayi];exact hk0,by rw[hay,Int.toNat_natCast];rcases hfree with h|h;(exact .inl (by rw[h]));exact .inr h⟩
      refine W_skip ?_
      refine W_cs (.a 4 rfl<|.c rfl (cost_can T a ham) rfl<|.v (y_ar rfl) rfl<|.a 1 rfl<|.k [1,3,5,8,12,13,66,67,68] rfl) ?_
      obtain⟨p3,hp3⟩:∃q,(!decide (P2.getD m 0=0))=q:=⟨_,rfl⟩
      obtain⟨kv,hkv⟩:∃z,(if P2.getD m 0=0 then 0 else K2.getD m 0)=z:=⟨_,rfl⟩
      have hkc:=key_can K2 P2 O2 hok2.1.len hok2.2.2.1 (by omega) m hmN
      rw[hp3,hkv]at hkc
      refine W_cs (.a 2 rfl<|.v (y_cV rfl (purKey (pur_heap false _ hok2.2.2.1 hok2.1.len hok2.2.1) _) (hkc)) rfl<|.a 5 rfl<|.k [1,3,5,8,12,13,14,15,66,67,68] rfl) ?_
      obtain⟨p4,hp4⟩:∃q,decide (d+costN T a<kv)=q:=⟨_,rfl⟩
      refine W_csK 105 (.raw (.bool ((!p3)||p4))) [1,3,5,8,12,13,66,67,68] rfl ?_ ?_
      ·refine .a 3 rfl<|?_
       cases p3
       ·exact .a 4 rfl<|.k [105,1,3,5,8,12,13,66,67,68] rfl
       ·exact .a 2 rfl<|.v (y_q rfl (hp4)) rfl<|.a 1 rfl<|.k [105,1,3,5,8,12,13,66,67,68] rfl
      refine W_cond rfl (fun hc=>?_) (fun hc=>?_)
      ·have hnew:¬Held O2 (m:Int)∨at' out1 (arcY T dir a)+costN T a<K2.getD m 0:=by
        rw[hayi]
        by_cases e:P2.getD m 0=0
        ·exact .inl ((hok2.1.zero hmN).1 e)
        ·right
         have h3:p3=true:=by rw[←hp3];simp only[e];rfl
         rw[h3]at hc
         have h4:p4=true:=by simpa using hc
         rw[h4]at hp4
         have:=of_decide_eq_true hp4
         rw[if_neg e]at hkv
         omega
       refine W_region ?_
       refine WR_a 3 rfl<|WR_cS rfl rfl (CanS.mono (set_can (some (.row 3 1 k (intsP out1))) (pureRow _ _) K2 P2 O2 hok2 (by omega) m hmN (d+costN T a)) (fun _ σ' h=>?_))
       obtain⟨b3,n3,P3,O3,rfl,hok3,hH3⟩:=h
       refine WR_k [1,3,5,8,66,67,68] rfl ?_
       refine W_norm (pureRow _ _) (.cons 1 rfl Ren.pure<|.cons 3 rfl (Ren.own (i:=0) rfl)<|.cons 5 rfl (Ren.ptr (i:=1) rfl)<|.cons 8 rfl Ren.pure<|.cons 66 rfl Ren.pure<|.cons 67 rfl Ren.pure<|.cons 68 rfl Ren.pure<|.nil) ?_
       have hD3:=dij_set (S':=fun b=>arcY T dir b=(i:Int)∧(b:Int)∉(arcsAt T dir i).take (j+1)) (H':=fun y=>Held O3 (y:Int)) hS hD2 ham hSS hway hm hmneg (fun x hx=>by rw[hayi];exact htop x hx) (by rw[hayi];omega) hnew (by rw[hok2.2.2.1];exact hmN) (fun y=>(hH3 y).trans ⟨fun h=>h.imp id (fun e=>by omega),fun h=>h.imp id (fun e=>by omega)⟩)
       rw[hayi]at hD3
       refine W_chain (.v (y_ar rfl) rfl<|.a 1 rfl<|.k [1,3,5,8,66,67,68] rfl) ?_
       first
        |exact⟨(arcsAt T dir i).length - (j+1),by omega,j+1,_,P3,O3,n3,by omega,hD3,hok3,rfl,rfl⟩
        |exact⟨(arcsAt T dir i).length - (j+1),by omega,j+1,K2,P2,O2,q2,by omega,hD3,hok2,rfl,rfl⟩
      ·obtain⟨c3,c4⟩:=Bool.or_eq_false_iff.1 hc
       have h3:p3=true:=by cases p3;cases c3;rfl
       rw[h3]at hp3
       rw[c4]at hp4
       have e:P2.getD m 0≠0:=fun e=>by rw[e]at hp3;cases hp3
       have hD3:=dij_old (S':=fun b=>arcY T dir b=(i:Int)∧(b:Int)∉(arcsAt T dir i).take (j+1)) hD2 hSS (fun hw=>.inr (by
        rw[hm,Int.toNat_natCast,hayi]
        refine⟨Classical.byContradiction fun hh=>e ((hok2.1.zero hmN).2 hh),?_⟩
        rw[if_neg e]at hkv
        have:=of_decide_eq_false hp4
        omega))
       refine W_skip ?_
       refine W_chain (.v (y_ar rfl) rfl<|.a 1 rfl<|.k [1,3,5,8,66,67,68] rfl) ?_
       first
        |exact⟨(arcsAt T dir i).length - (j+1),by omega,j+1,_,P3,O3,n3,by omega,hD3,hok3,rfl,rfl⟩
        |exact⟨(arcsAt T dir i).length - (j+1),by omega,j+1,K2,P2,O2,q2,by omega,hD3,hok2,rfl,rfl⟩
    ·have hje:j=(arcsAt T dir i).length:=by have:=of_decide_eq_false hc;omega
     have hDe:Dij T D n dir out1 K2 (fun y=>Held O2 (y:Int)) (fun _=>False):=⟨hD2.len,hD2.ge,hD2.root,hD2.hneg,hD2.mono,hD2.suppH,hD2.supp,fun a ha _=>hD2.closed a ha (fun⟨e1,e2⟩=>e2 (by rw[hje,List.take_length];exact(arcsAt_mem T dir i a).2 ⟨ha,e1⟩)),hD2.ub,hD2.ubH⟩
     refine W_sub (.cons (k:=1) rfl<|.cons (k:=3) rfl<|.cons (k:=5) rfl<|Sub.nil _) ?_
     refine W_exit ?_
     first
      |exact⟨_,hmeas,out1,K2,P2,O2,q2,hDe,hok2,rfl,rfl⟩
      |exact⟨_,hmeas,out1,K1,P1,O1,n1,hDe,hok',rfl,rfl⟩
end PW
end Go.Proofs.YtnegbdpggideiaaGreatDoor

namespace Go.Proofs.YtnegbdpggideiaaGreatDoor
set_option linter.unusedVariables false
set_option linter.unusedSimpArgs false
namespace PW
open Go.RowKit Reg Mem Net Rng
set_option maxRecDepth 10000 in
set_option maxHeartbeats 1000000 in
theorem rvalid10_can (T:Topo) (k x:Int):Can Tryz.prog 80 [topoV T,compV k x] (· =flag (validB T&&compB T k x)):=by
 obtain⟨q1,h1⟩:∃q,decide (0≤x)=q:=⟨_,rfl⟩
 obtain⟨q2,h2⟩:∃q,decide (x<(T.links.length:Int))=q:=⟨_,rfl⟩
 obtain⟨q5,h5⟩:∃q,decide (x<T.nodes)=q:=⟨_,rfl⟩
 obtain⟨q3,h3⟩:∃q,decide (1≤x)=q:=⟨_,rfl⟩
 obtain⟨q4,h4⟩:∃q,decide (x≤64)=q:=⟨_,rfl⟩
 have hnb:nodeB T x=(q1&&q5):=by rw[←h1,←h5,←Bool.decide_and];rfl
 have hB:compB T k x=if k=1 then(q1&&q2) else if k=2 then(q1&&q5) else if k=3 then(q3&&q4) else false:=by unfold compB;rw[h1,h2,h3,h4,hnb]
 rw[hB]
 refine can_of Tryz.func80 rfl Tryz.ntmps80 rfl ?_
 refine W_cs (.a 3 rfl<|.k [2,3] rfl) ?_
 refine W_seq ?_
 refine W_cs (.a 1 rfl<|.c rfl (rvalid_can T) rfl<|.a 1 rfl<|.k [2,3,7] rfl) ?_
 refine W_cond rfl (fun hv1=>?_) (fun hv1=>?_)
 ·have hv:validB T=false:=by simpa using hv1
  refine W_cs (.a 1 rfl<|.k [4] rfl) ?_
  refine W_ret ?_
  exact⟨_,_,ResL.of rfl,Pur.pure,by rw[hv];rfl⟩
 ·have hv:validB T=true:=by simpa using hv1
  rw[hv,Bool.true_and]
  refine W_skip ?_
  refine W_seq ?_
  refine W_cs (.a 2 rfl<|.k [2,3,9] rfl) ?_
  refine W_block ?_
  refine W_cs (.a 2 rfl<|.k [2,3,9,10] rfl) ?_
  refine W_cond rfl (fun hk1=>?_) (fun hk1=>?_)
  ·have k1:k=1:=tt hk1
   refine W_csK 4 (.raw (.bool (q1&&q2))) [] rfl ?_ ?_
   ·refine .a 2 rfl<|.v (y_q rfl (h1)) rfl<|.a 1 rfl<|?_
    cases q1
    ·exact .a 8 rfl<|.k [4] rfl
    ·exact .a 5 rfl<|.v (y_q rfl (h2)) rfl<|.a 2 rfl<|.k [4] rfl
   refine W_ret ?_
   exact⟨_,_,ResL.of rfl,Pur.pure,by rw[if_pos k1];rfl⟩
  ·have k1:¬k=1:=ff hk1
   refine W_cs (.a 2 rfl<|.k [2,3,9,23] rfl) ?_
   refine W_cond rfl (fun hk2=>?_) (fun hk2=>?_)
   ·have k2:k=2:=tt hk2
    refine W_csK 4 (.raw (.bool (q1&&q5))) [] rfl ?_ ?_
    ·refine .a 2 rfl<|.v (y_q rfl (h1)) rfl<|.a 1 rfl<|?_
     cases q1
     ·exact .a 7 rfl<|.k [4] rfl
     ·exact .a 4 rfl<|.v (y_q rfl (h5)) rfl<|.a 2 rfl<|.k [4] rfl
    refine W_ret ?_
    exact⟨_,_,ResL.of rfl,Pur.pure,by rw[if_neg k1,if_pos k2];rfl⟩
   ·have k2:¬k=2:=ff hk2
    refine W_cs (.a 2 rfl<|.k [3,35] rfl) ?_
    refine W_cond rfl (fun hk3=>?_) (fun hk3=>?_)
    ·have k3:k=3:=tt hk3
     refine W_csK 4 (.raw (.bool (q3&&q4))) [] rfl ?_ ?_
     ·refine .a 2 rfl<|.v (y_q rfl (h3)) rfl<|.a 1 rfl<|?_
      cases q3
      ·exact .a 5 rfl<|.k [4] rfl
      ·exact .a 2 rfl<|.v (y_q rfl (h4)) rfl<|.a 2 rfl<|.k [4] rfl
     refine W_ret ?_
     exact⟨_,_,ResL.of rfl,Pur.pure,by rw[if_neg k1,if_neg k2,if_pos k3];rfl⟩
    ·have k3:¬k=3:=ff hk3
     refine W_skip ?_
     refine W_cs (.a 1 rfl<|.k [4] rfl) ?_
     refine W_ret ?_
     exact⟨_,_,ResL.of rfl,Pur.pure,by rw[if_neg k1,if_neg k2,if_neg k3];rfl⟩
theorem lnks_drop7 (L:List Lnk) (i:Nat) (hi:i<L.length):((lnksP L).drop (i*7)).take 7=lnkP (lnk L i):=by
 apply List.ext_getElem?
 intro j
 by_cases hj:j<7
 ·rw[List.getElem?_take,if_pos hj,List.getElem?_drop,lnks_getP L i j hi hj]
 ·rw[List.getElem?_take,if_neg hj,List.getElem?_eq_none (by simp[lnkP];omega)]
set_option maxRecDepth 10000 in
set_option maxHeartbeats 1000000 in
theorem rof_can (T:Topo) (k x:Int) (a:Nat) (ha:a<2*T.links.length) (hl:T.links.length≤256):Can Tryz.prog 117 [topoV T,compV k x,num a] (· =flag (partB k x T.links (a / 2))):=by
 have hi:a / 2<T.links.length:=by omega
 obtain⟨e,he⟩:∃e,lnk T.links (a / 2)=e:=⟨_,rfl⟩
 have hdr:=lnks_drop7 T.links (a / 2) hi
 rw[he]at hdr
 obtain⟨q1,h1⟩:∃q,decide (((a / 2:Nat):Int)=x)=q:=⟨_,rfl⟩
 obtain⟨q2,h2⟩:∃q,decide (e.a=x)=q:=⟨_,rfl⟩
 obtain⟨q3,h3⟩:∃q,decide (e.b=x)=q:=⟨_,rfl⟩
 obtain⟨q4,h4⟩:∃q,decide (e.grp=x)=q:=⟨_,rfl⟩
 have hP:partB k x T.links (a / 2)=if k=1 then q1 else if k=2 then(q2||q3) else q4:=by unfold partB;rw[he,h1,h2,h3,h4]
 rw[hP]
 refine can_of Tryz.func117 rfl Tryz.ntmps117 rfl ?_
 refine W_cs (.a 3 rfl<|.k [2,3,4] rfl) ?_
 refine W_rs ?_
 refine WR_a 3 rfl<|WR_v (y_quo rfl rfl rfl (by decide) ((show(a:Int).tdiv 2=((a / 2:Nat):Int) by rw[Int.tdiv_eq_ediv_of_nonneg (by omega)];omega)) (by unfold In64;omega)) rfl<|WR_v (y_ix ((a / 2*7)) rfl) rfl<|WR_v (y_la rfl (hdr) rfl) rfl<|WR_a 2 rfl<|WR_k [2,4,7] rfl ?_
 refine W_sto (σ':=[some (.cells 127 (lnkP e))]) rfl ?_
 refine W_seq ?_
 refine W_cs (.a 2 rfl<|.k [2,4,7,15] rfl) ?_
 refine W_block ?_
 refine W_cs (.a 2 rfl<|.k [2,4,7,15,16] rfl) ?_
 refine W_cond rfl (fun hk1=>?_) (fun hk1=>?_)
 ·have k1:k=1:=tt hk1
  refine W_cs (.a 1 rfl<|.v (y_quo rfl rfl rfl (by decide) ((show(a:Int).tdiv 2=((a / 2:Nat):Int) by rw[Int.tdiv_eq_ediv_of_nonneg (by omega)];omega)) (by unfold In64;omega)) rfl<|.a 2 rfl<|.v (y_q rfl (h1)) rfl<|.a 1 rfl<|.k [6] rfl) ?_
  refine W_ret ?_
  exact⟨_,_,ResL.of rfl,Pur.pure,by rw[if_pos k1];rfl⟩
 ·have k1:¬k=1:=ff hk1
  refine W_cs (.a 2 rfl<|.k [4,7,23] rfl) ?_
  refine W_cond rfl (fun hk2=>?_) (fun hk2=>?_)
  ·have k2:k=2:=tt hk2
   refine W_csK 6 (.raw (.bool (q2||q3))) [] rfl ?_ ?_
   ·refine .a 4 rfl<|.v (y_q rfl (h2)) rfl<|.a 1 rfl<|?_
    cases q2
    ·exact .a 4 rfl<|.v (y_q rfl (h3)) rfl<|.a 2 rfl<|.k [6] rfl
    ·exact .a 7 rfl<|.k [6] rfl
   refine W_ret ?_
   exact⟨_,_,ResL.of rfl,Pur.pure,by rw[if_neg k1,if_pos k2];rfl⟩
  ·have k2:¬k=2:=ff hk2
   refine W_skip ?_
   refine W_cs (.a 4 rfl<|.v (y_q rfl (h4)) rfl<|.a 1 rfl<|.k [6] rfl) ?_
   refine W_ret ?_
   exact⟨_,_,ResL.of rfl,Pur.pure,by rw[if_neg k1,if_neg k2];rfl⟩
def mskTo (T:Topo) (k x:Int) (m:Nat):List Bool:=(List.range (2*T.links.length)).map fun a=>decide (a<m)&&partB k x T.links (a / 2)
theorem mskTo_zero (T:Topo) (k x:Int):mskTo T k x 0=List.replicate (2*T.links.length) false:=by
 unfold mskTo
 apply List.ext_getElem (by simp)
 intro i h1 h2
 simp
theorem mskTo_len (T:Topo) (k x:Int) (m:Nat):(mskTo T k x m).length=2*T.links.length:=by simp[mskTo]
theorem mskTo_yes {T:Topo} {k x:Int} {m:Nat} (h:partB k x T.links (m / 2)=true):(mskTo T k x m).set m true=mskTo T k x (m+1):=by
 apply List.ext_getElem (by simp[mskTo])
 intro i h1 h2
 rw[List.getElem_set]
 by_cases e:m=i
 ·subst e;simp[mskTo,h]
 ·rw[if_neg e]
  simp only[mskTo,List.getElem_map,List.getElem_range]
  rw[show decide (i<m+1)=decide (i<m) from decide_eq_decide.2 (by omega)]
theorem mskTo_no {T:Topo} {k x:Int} {m:Nat} (h:partB k x T.links (m / 2)=false):mskTo T k x (m+1)=mskTo T k x m:=by
 unfold mskTo
 refine List.map_congr_left fun a _=>?_
 by_cases e:a=m
 ·subst e;rw[h];simp
 ·rw[show decide (a<m+1)=decide (a<m) from decide_eq_decide.2 (by omega)]
theorem mskTo_all (T:Topo) (k x:Int):mskTo T k x (2*T.links.length)=maskL T k x:=by
 unfold mskTo maskL
 refine List.map_congr_left fun a ha=>?_
 rw[decide_eq_true (List.mem_range.1 ha),Bool.true_and]
def brow (L:List Bool):Option Blk:=some (.row 4 1 L.length (boolsP L))
set_option maxRecDepth 10000 in
set_option maxHeartbeats 2000000 in
theorem runionS_can (T:Topo) (k x:Int):CanS Tryz.prog 88 [topoV T,.slice 1 (compP k x)] [] (fun r σ'=>((validB T&&compB T k x)=false∧r= .tuple [.raw (.slice none 0 0),num 1])∨((validB T&&compB T k x)=true∧r= .tuple [.own 0,num 0]∧σ'=[brow (maskL T k x)])):=by
 refine canS_of Tryz.func88 rfl Tryz.ntmps88 rfl ?_
 refine W_cs (.a 3 rfl<|.k [1,2] rfl) ?_
 refine W_seq ?_
 refine W_cs (.a 1 rfl<|.c rfl (rvalid_can T) rfl<|.a 1 rfl<|.k [1,2,11] rfl) ?_
 refine W_cond rfl (fun h1=>?_) (fun h1=>?_)
 ·have hv:validB T=false:=by simpa using h1
  refine W_cs (.a 2 rfl<|.k [4,5] rfl) ?_
  refine W_ret ?_
  exact⟨_,ResL.of rfl,.inl ⟨by rw[hv];rfl,rfl⟩⟩
 ·have hv:validB T=true:=by simpa using h1
  have hll:=links_le hv
  refine W_skip ?_
  refine W_rs ?_
  refine WR_a 3 rfl<|WR_v (y_ar rfl) rfl<|WR_l (l_make rfl (fok.rk.get rfl) rfl rfl (show 2*(T.links.length:Int)=((2*T.links.length:Nat):Int) by omega) (show 2*(T.links.length:Int)=((2*T.links.length:Nat):Int) by omega) ⟨by unfold maxLen;omega,by omega⟩) rfl<|WR_a 1 rfl<|WR_k [1,2,6] rfl ?_
  refine W_sto (σ':=[brow (mskTo T k x 0)]) (by unfold brow;rw[mskTo_zero,List.length_replicate,←zeros_bools];rfl) ?_
  refine W_seq ?_
  refine W_cs (.a 1 rfl<|.k [1,2,6,7] rfl) ?_
  refine W_block ?_
  refine W_k [1,2,6,7] rfl ?_
  refine W_loop (fun r st=>∃(i:Nat) (M:List Bool),i≤1∧r=1 - i∧(i=0→M=mskTo T k x 0)∧(i=1→compB T k x=true∧M=maskL T k x)∧st=⟨[(1,.slice 1 (compP k x)),(2,.pin (topoP T) 0),(6,.own 0),(7,num i)],[brow M]⟩) 1 ⟨0,_,by omega,rfl,fun _=>rfl,fun h=>by omega,rfl⟩ ?_
  rintro r st ⟨i,M,hi,rfl,hM0,hM1,rfl⟩
  refine W_seq ?_
  refine W_cs (.a 4 rfl<|.k [1,2,6,7,20] rfl) ?_
  refine W_cond rfl (fun h2=>?_) (fun h2=>?_)
  ·have hi0:i=0:=by have:=tt h2;omega
   subst hi0
   obtain rfl:=hM0 rfl
   refine W_skip ?_
   refine W_seq ?_
   refine W_block ?_
   refine W_seq ?_
   refine W_drs mixed (by kernel_rfl) (.a 3 rfl<|.v [24,25] (y_ix (0) rfl) rfl rfl<|.v [26] (y_la rfl ((show((compP k x).drop 0).take 2=compP k x from rfl)) rfl) rfl rfl<|.v [23,27] (y_c rfl (rvalid10_can T k x)) rfl rfl<|.a 1 rfl<|.k [1,2,6,7,29] rfl) ?_
   refine W_cond rfl (fun h3=>?_) (fun h3=>?_)
   ·have hc:(validB T&&compB T k x)=false:=(Bool.not_eq_true' _).mp h3
    refine W_cs (.a 2 rfl<|.k [4,5] rfl) ?_
    refine W_ret ?_
    exact⟨_,ResL.of rfl,.inl ⟨hc,rfl⟩⟩
   ·have hvc:(validB T&&compB T k x)=true:=by simpa using h3
    have hc:compB T k x=true:=(Bool.and_eq_true_iff.1 hvc).2
    refine W_skip ?_
    refine W_cs (.a 1 rfl<|.k [1,2,6,7,8] rfl) ?_
    refine W_block ?_
    refine W_k [1,2,6,7,8] rfl ?_
    refine W_loop (fun r st=>∃m:Nat,m≤2*T.links.length∧r=2*T.links.length - m∧st=⟨[(1,.slice 1 (compP k x)),(2,.pin (topoP T) 0),(6,.own 0),(7,num 0),(8,num m)],[brow (mskTo T k x m)]⟩) (2*T.links.length) ⟨0,by omega,by omega,rfl⟩ ?_
    rintro r st ⟨m,hm,rfl,rfl⟩
    have hml:=mskTo_len T k x m
    refine W_seq ?_
    refine W_cs (.a 4 rfl<|.k [1,2,6,7,8,33] rfl) ?_
    refine W_cond rfl (fun h4=>?_) (fun h4=>?_)
    ·have hlt:m<2*T.links.length:=by have:=tt h4;omega
     refine W_skip ?_
     refine W_seq ?_
     refine W_block ?_
     refine W_drs mixed (by kernel_rfl) (.a 3 rfl<|.v [37,38] (y_ix (0) rfl) rfl rfl<|.v [39] (y_la rfl ((show((compP k x).drop 0).take 2=compP k x from rfl)) rfl) rfl rfl<|.a 1 rfl<|.v [36,40,41] (y_c rfl (rof_can T k x m hlt (by omega))) rfl rfl<|.k [1,2,6,7,8,42] rfl) ?_
     refine W_cond rfl (fun h5=>?_) (fun h5=>?_)
     ·have hst:=mskTo_yes h5
      refine W_region ?_
      refine WR_a 2 rfl<|WR_v (y_ix (m) rfl) rfl<|WR_loud0 ((by first|exact l_storeInts rfl (fok.tk.get rfl) rfl rfl rfl (by first|omega|(simp;omega))|exact l_storeBools rfl (fok.tk.get rfl) rfl rfl rfl (by first|omega|(simp;omega)))) rfl rfl<|WR_k [1,2,6,7,8] rfl ?_
      refine W_chain (.a 1 rfl<|.v (y_ar rfl) rfl<|.a 1 rfl<|.k [1,2,6,7,8] rfl) ?_
      refine⟨2*T.links.length - (m+1),by omega,m+1,by omega,rfl,?_⟩
      first
       |(rw[hst];rfl)
       |(rw[hst];unfold brow;rw[mskTo_len,mskTo_len];rfl)
     ·have hst:=mskTo_no h5
      refine W_skip ?_
      refine W_chain (.a 1 rfl<|.v (y_ar rfl) rfl<|.a 1 rfl<|.k [1,2,6,7,8] rfl) ?_
      refine⟨2*T.links.length - (m+1),by omega,m+1,by omega,rfl,?_⟩
      first
       |(rw[hst];rfl)
       |(rw[hst];unfold brow;rw[mskTo_len,mskTo_len];rfl)
    ·have hme:m=2*T.links.length:=by have:=ff h4;omega
     subst hme
     refine W_exit ?_
     refine W_chain (.a 1 rfl<|.v (y_ar rfl) rfl<|.a 1 rfl<|.k [1,2,6,7] rfl) ?_
     exact⟨0,by omega,1,_,by omega,rfl,fun h=>by omega,fun _=>⟨hc,rfl⟩,by rw[mskTo_all];rfl⟩
  ·have hi1:i=1:=by have:=ff h2;omega
   subst hi1
   obtain⟨hc,rfl⟩:=hM1 rfl
   refine W_exit ?_
   refine W_cs (.a 3 rfl<|.k [4,5] rfl) ?_
   refine W_ret ?_
   exact⟨_,ResL.of rfl,.inr ⟨by rw[hv,hc];rfl,rfl,rfl⟩⟩
set_option maxRecDepth 10000 in
set_option maxHeartbeats 1000000 in
theorem rmaskS_can (T:Topo) (k x:Int):CanS Tryz.prog 32 [topoV T,compV k x] [] (fun r σ'=>((validB T&&compB T k x)=false∧r= .tuple [.raw (.slice none 0 0),num 1])∨((validB T&&compB T k x)=true∧r= .tuple [.own 0,num 0]∧σ'=[brow (maskL T k x)])):=by
 refine canS_of Tryz.func32 rfl Tryz.ntmps32 rfl ?_
 refine W_cs (.a 4 rfl<|.k [2,3] rfl) ?_
 refine W_cs (.a 3 rfl<|.k [2,6] rfl) ?_
 refine W_rs ?_
 refine WR_a 2 rfl<|WR_cS rfl rfl (CanS.mono (CanS.mono (runionS_can T k x) (fun r σ' h=>(show ∃y z,r= .tuple [y,z]∧(((validB T&&compB T k x)=false∧y= .raw (.slice none 0 0)∧z=num 1)∨((validB T&&compB T k x)=true∧y= .own 0∧z=num 0∧σ'=[brow (maskL T k x)])) from by rcases h with⟨h1,rfl⟩|⟨h1,rfl,h2⟩;exact⟨_,_,rfl,.inl ⟨h1,rfl,rfl⟩⟩;exact⟨_,_,rfl,.inr ⟨h1,rfl,rfl,h2⟩⟩))) (fun r σ' h=>?_))
 obtain⟨y,z,rfl,hyz⟩:=h
 refine WR_a 4 rfl<|WR_k [4,5] rfl ?_
 refine W_ret ?_
 refine⟨_,ResL.of rfl,?_⟩
 rcases hyz with⟨h1,rfl,rfl⟩|⟨h1,rfl,rfl,rfl⟩
 ·exact .inl ⟨h1,rfl⟩
 ·exact .inr ⟨h1,rfl,rfl⟩
theorem rmask_can (T:Topo) (k x:Int):Can Tryz.prog 32 [topoV T,compV k x] (· =boolsE (maskE T k x) (maskL T k x)):=by
 refine Can.ofS (rmaskS_can T k x) ?_
 rintro r σ' (⟨h1,rfl⟩|⟨h1,rfl,rfl⟩)
 ·refine⟨_,Pur.tupleL (PurL.cons Pur.nils (PurL.cons Pur.pure PurL.nil)),?_⟩
  have he:maskE T k x=1:=by unfold maskE;rw[if_neg (by rw[h1];simp)]
  rw[he]
  rfl
 ·refine⟨_,Pur.tupleL (PurL.cons (Pur.ownL rfl PurL.pure) (PurL.cons Pur.pure PurL.nil)),?_⟩
  unfold boolsE maskE boolsV
  rw[if_pos h1,if_pos rfl]
end PW
end Go.Proofs.YtnegbdpggideiaaGreatDoor

namespace Go.Proofs.YtnegbdpggideiaaGreatDoor
set_option linter.unusedVariables false
set_option linter.unusedSimpArgs false
namespace PW
open Go.RowKit Reg Mem Net
def passB (T:Topo) (D:List Bool) (L:List Int) (dn:Int) (d a:Nat):Bool:=
 !(downN D a||decide (L.getD (headN T a).toNat 0<0)||(decide (headN T a≠(d:Int))&&overN T (headN T a).toNat))&&decide (L.getD (headN T a).toNat 0+costN T a=dn)
def passL (T:Topo) (D:List Bool) (L:List Int) (dn:Int) (d:Nat) (l:List Int):List Int:=l.filter fun a=>passB T D L dn d a.toNat
set_option maxRecDepth 10000 in
set_option maxHeartbeats 1000000 in
theorem dnext_can (T : Topo) (D : List Bool) (L lv : List Int) (n d : Nat) (hv : validB T = true) (hf : fitsB T D = true) (hL : (L.length : Int) = T.nodes) (hub : ∀ x ∈ L, -1 ≤ x ∧ x ≤ 4194240) (hn : (n : Int) < T.nodes) (hd : (d : Int) < T.nodes)
    (hlv : ∀ a ∈ lv, 0 ≤ a ∧ a < 2 * (T.links.length : Int)) (hll : lv.length ≤ 100000) :
    Can Tryz.prog 148 [topoV T, boolsV D, intsV L, intsV lv, num n, num d] (· = intsV (if n = d ∨ L.getD n 0 < 0 then [] else passL T D L (L.getD n 0) d lv)) := by
  have hbd := valid_bd hv
  have hS := sound_of hv
  have hnL : n < L.length := by omega
  refine can_of Tryz.func148 rfl Tryz.ntmps148 rfl ?_
  refine W_cs (.a 2 rfl <| .k [1, 2, 3, 4, 5, 6] rfl) ?_
  refine W_cs (.a 1 rfl <| .k [1, 2, 3, 4, 5, 6, 13] rfl) ?_
  obtain ⟨q1, hq1⟩ : ∃ q, decide ((n : Int) = (d : Int)) = q := ⟨_, rfl⟩
  obtain ⟨q2, hq2⟩ : ∃ q, decide (L.getD n 0 < 0) = q := ⟨_, rfl⟩
  refine W_seq ?_
  refine W_csK 26 (.raw (.bool (q1 || q2))) [1, 2, 3, 4, 5, 6, 13] rfl ?_ ?_
  · refine .a 2 rfl <| .v (y_q rfl (hq1)) rfl <| .a 1 rfl <| ?_
    cases q1
    · exact .a 2 rfl <| .v (y_ix (n) rfl) rfl <| .v (y_ld rfl (ints_get L n hnL)) rfl <| .v (y_q rfl (hq2)) rfl <| .a 1 rfl <| .k [26, 1, 2, 3, 4, 5, 6, 13] rfl
    · exact .a 6 rfl <| .k [26, 1, 2, 3, 4, 5, 6, 13] rfl
  refine W_cond (b := q1 || q2) rfl (fun hc => ?_) (fun hc => ?_)
  · have : n = d ∨ L.getD n 0 < 0 := by
      rcases Bool.or_eq_true_iff.1 hc with h | h
      · rw [h] at hq1; exact .inl (by have := of_decide_eq_true hq1; omega)
      · rw [h] at hq2; exact .inr (of_decide_eq_true hq2)
    rw [if_pos this]
    refine W_cs (.a 2 rfl <| .k [12] rfl) ?_
    refine W_ret ⟨_, _, .cons (.tmp rfl) .nil, Pur.nils, rfl⟩
  · obtain ⟨c1, c2⟩ := Bool.or_eq_false_iff.1 hc
    rw [c1] at hq1
    rw [c2] at hq2
    have hnd : ¬ (n = d ∨ L.getD n 0 < 0) := by
      have := of_decide_eq_false hq1
      have := of_decide_eq_false hq2
      omega
    rw [if_neg hnd]
    refine W_skip ?_
    refine W_seq ?_
    refine W_cs (.a 3 rfl <| .k [1, 2, 4, 5, 6, 13, 28, 29, 30] rfl) ?_
    refine W_adopt 13 3 1 rfl ?_
    refine W_block ?_
    refine W_sub (.cons (k := 1) rfl <| .cons (k := 2) rfl <| .cons (k := 4) rfl <| .cons (k := 5) rfl <| .cons (k := 6) rfl <| .cons (k := 13) rfl <| .cons (k := 28) rfl <| .cons (k := 29) rfl <| .cons (k := 30) rfl <| Sub.nil _) ?_
    refine W_loop (fun r s => ∃ i, i ≤ lv.length ∧ r = lv.length - i ∧ s = ⟨[(1, boolsV D), (2, intsV L), (4, num n), (5, num d), (6, .pin (topoP T) 0), (13, .own 0), (28, intsV lv), (29, num lv.length), (30, num i)], [some (.row 3 1 (passL T D L (L.getD n 0) d (lv.take i)).length (intsP (passL T D L (L.getD n 0) d (lv.take i))))]⟩) lv.length ⟨0, by omega, by omega, ?_⟩ ?_
    · simp only [List.take_zero, passL, List.filter_nil]
      rfl
    · rintro r s ⟨i, hi, rfl, rfl⟩
      refine W_cs (.a 1 rfl <| .k [1, 2, 4, 5, 6, 13, 28, 29, 30, 31] rfl) ?_
      refine W_seq ?_
      refine W_cond (b := decide ((i : Int) < (lv.length : Int))) rfl (fun hc => ?_) (fun hc => ?_)
      · have hlt : i < lv.length := by have := of_decide_eq_true hc; omega
        refine W_skip ?_
        obtain ⟨a, ha⟩ : ∃ a : Nat, lv.getD i 0 = (a : Int) := Int.eq_ofNat_of_zero_le (hlv _ (getD_mem hlt)).1
        have ham : a < 2 * T.links.length := by
          have := (hlv (lv.getD i 0) (getD_mem hlt)).2
          omega
        have hstep : passL T D L (L.getD n 0) d (lv.take (i + 1)) = passL T D L (L.getD n 0) d (lv.take i) ++ (if passB T D L (L.getD n 0) d a then [(a : Int)] else []) := by
          unfold passL
          rw [List.take_add_one, List.filter_append, show lv[i]? = some (a : Int) by rw [← ha, List.getD_eq_getElem?_getD]; simp [hlt]]
          congr 1
          simp only [Option.toList_some, List.filter_cons, List.filter_nil, Int.toNat_natCast]
        have hlen : (passL T D L (L.getD n 0) d (lv.take i)).length ≤ 100000 := Nat.le_trans (List.length_filter_le _ _) (by rw [List.length_take]; omega)
        obtain ⟨hd0, hhN⟩ := hS.head a ham
        obtain ⟨h, hh⟩ := Int.eq_ofNat_of_zero_le hd0
        have hhL : h < L.length := by omega
        have hub1 : -1 ≤ L.getD h 0 ∧ L.getD h 0 ≤ 4194240 := hub _ (getD_mem hhL)
        have hcb := hS.cost a ham
        have hDl : D.length = 0 ∨ a < D.length := by simp only [fitsB, decide_eq_true_eq] at hf; omega
        have hov : T.over.length = 0 ∨ h < T.over.length := by have := hbd.2.2.2; omega
        refine W_seq ?_
        refine W_block ?_
        refine W_cs (.v (y_ix (i) rfl) rfl <| .v (y_ld rfl ((ints_get lv i hlt).trans (by rw [ha]))) rfl <| .a 1 rfl <| .k [1, 2, 4, 5, 6, 13, 15, 28, 29, 30] rfl) ?_
        refine W_cs (.a 2 rfl <| .c rfl (hh ▸ head_can T a ham (by omega)) rfl <| .a 1 rfl <| .k [1, 2, 4, 5, 6, 13, 15, 16, 28, 29, 30] rfl) ?_
        obtain ⟨p1, hp1⟩ : ∃ q, downN D a = q := ⟨_, rfl⟩
        obtain ⟨p2, hp2⟩ : ∃ q, decide (L.getD h 0 < 0) = q := ⟨_, rfl⟩
        obtain ⟨p3, hp3⟩ : ∃ q, decide ((h : Int) ≠ (d : Int)) = q := ⟨_, rfl⟩
        obtain ⟨p4, hp4⟩ : ∃ q, overN T h = q := ⟨_, rfl⟩
        obtain ⟨p5, hp5⟩ : ∃ q, decide (L.getD h 0 + costN T a = L.getD n 0) = q := ⟨_, rfl⟩
        have hpass : passB T D L (L.getD n 0) d a = (!((p1 || p2) || (p3 && p4)) && p5) := by
          unfold passB; rw [hh, Int.toNat_natCast, hp1, hp2, hp3, hp4, hp5]
        refine W_seq ?_
        refine W_csK 56 (.raw (.bool ((p1 || p2) || (p3 && p4)))) [1, 2, 4, 5, 6, 13, 15, 16, 28, 29, 30] rfl ?_ ?_
        · refine .a 2 rfl <| .c rfl (hp1 ▸ down_can D a hDl) rfl <| .a 1 rfl <| ?_
          cases p1
          · refine .a 2 rfl <| .v (y_ix (h) rfl) rfl <| .v (y_ld rfl (ints_get L h hhL)) rfl <| .v (y_q rfl (hp2)) rfl <| .a 2 rfl <| ?_
            cases p2
            · refine .a 2 rfl <| .v (y_q rfl (hp3)) rfl <| .a 1 rfl <| ?_
              cases p3
              · exact .a 5 rfl <| .k [56, 1, 2, 4, 5, 6, 13, 15, 16, 28, 29, 30] rfl
              · exact .a 2 rfl <| .c rfl (hp4 ▸ over_can T h hov) rfl <| .a 2 rfl <| .k [56, 1, 2, 4, 5, 6, 13, 15, 16, 28, 29, 30] rfl
            · exact .a 9 rfl <| .k [56, 1, 2, 4, 5, 6, 13, 15, 16, 28, 29, 30] rfl
          · exact .a 16 rfl <| .k [56, 1, 2, 4, 5, 6, 13, 15, 16, 28, 29, 30] rfl
        refine W_cond (b := (p1 || p2) || (p3 && p4)) rfl (fun hc => ?_) (fun hc => ?_)
        · rw [hc] at hpass
          refine W_exit ?_
          refine W_chain (.v (y_ar rfl) rfl <| .a 1 rfl <| .k [1, 2, 4, 5, 6, 13, 28, 29, 30] rfl) ?_
          refine ⟨lv.length - (i + 1), by omega, i + 1, by omega, rfl, ?_⟩
          rw [hstep, hpass]
          simp only [Bool.not_true, Bool.false_and, Bool.false_eq_true, if_false, List.append_nil]
          rfl
        · rw [hc] at hpass
          refine W_skip ?_
          refine W_drs mixed (by kernel_rfl) (.a 2 rfl <| .v [57, 58] (y_ix (h) rfl) rfl rfl <| .v [59] (y_ld rfl (ints_get L h hhL)) rfl rfl <| .a 2 rfl <| .v [61, 62] (y_c rfl (cost_can T a ham)) rfl rfl <| .v [60, 63] (y_ar rfl) rfl rfl <| .a 2 rfl <| .v [65, 66] (y_ix (n) rfl) rfl rfl <| .v [67] (y_ld rfl (ints_get L n hnL)) rfl rfl <| .v [64, 68] (y_q rfl (hp5)) rfl rfl <| .k [1, 2, 4, 5, 6, 13, 15, 28, 29, 30, 69] rfl) ?_
          refine W_cond (b := p5) rfl (fun hc5 => ?_) (fun hc5 => ?_)
          · rw [hc5] at hpass
            refine W_region ?_
            refine WR_a 3 rfl <| WR_l (l_append rfl (fok.rk.get rfl) rfl rfl rfl rfl (by unfold maxLen; omega)) rfl <| WR_a 1 rfl ?_
            refine WR_ren [1] (.c 1 <| .c 2 <| .c 4 <| .c 5 <| .c 6 <| .c 13 <| .c 28 <| .c 29 <| .c 30 <| .nil) (.kept rfl (.rowP rfl (intsP_snoc _ _)) <| .nil) rfl rfl (WR_nil ?_)
            refine W_chain (.v (y_ar rfl) rfl <| .a 1 rfl <| .k [1, 2, 4, 5, 6, 13, 28, 29, 30] rfl) ?_
            refine ⟨lv.length - (i + 1), by omega, i + 1, by omega, rfl, ?_⟩
            rw [hstep, hpass]
            simp only [Bool.not_false, Bool.true_and, if_true, List.length_append, List.length_singleton]
            rfl
          · rw [hc5] at hpass
            refine W_skip ?_
            refine W_chain (.v (y_ar rfl) rfl <| .a 1 rfl <| .k [1, 2, 4, 5, 6, 13, 28, 29, 30] rfl) ?_
            refine ⟨lv.length - (i + 1), by omega, i + 1, by omega, rfl, ?_⟩
            rw [hstep, hpass]
            simp only [Bool.not_false, Bool.true_and, Bool.false_eq_true, if_false, List.append_nil]
            rfl
      · have : i = lv.length := by have := of_decide_eq_false hc; omega
        subst this
        rw [List.take_length]
        refine W_exit ?_
        refine W_cs (.a 2 rfl <| .k [12] rfl) ?_
        exact W_ret ⟨_, _, .cons (.tmp rfl) .nil, Pur.ownL rfl PurL.pure, rfl⟩
end PW
end Go.Proofs.YtnegbdpggideiaaGreatDoor

namespace Go.Proofs.YtnegbdpggideiaaGreatDoor
set_option linter.unusedVariables false
set_option linter.unusedSimpArgs false
namespace PW
open Go.RowKit Reg Mem Net Heap
instance (rs:List (List Int)):IsOne (rowsV rs):=by unfold rowsV;infer_instance
instance (T:Topo):IsOneL (topoP T):=by unfold topoP;infer_instance
def chkE (T:Topo) (D:List Bool) (ns:List Int):Int:=if validB T&&fitsB T D then(if ns.all (nodeB T) then 0 else 2) else 1
set_option maxRecDepth 10000 in
set_option maxHeartbeats 1000000 in
theorem check_can (T:Topo) (D:List Bool) (ns:List Int) (hns:ns.length≤1000):Can Tryz.prog 173 [topoV T,boolsV D,intsV ns] (· =num (chkE T D ns)):=by
 refine can_of Tryz.func173 rfl Tryz.ntmps173 rfl ?_
 refine W_cs (.a 2 rfl<|.k [1,2,3] rfl) ?_
 refine W_seq ?_
 obtain⟨q1,hq1⟩:∃q,validB T=q:=⟨_,rfl⟩
 obtain⟨q2,hq2⟩:∃q,fitsB T D=q:=⟨_,rfl⟩
 refine W_csK 17 (.raw (.bool ((!q1)||(!q2)))) [2,3] rfl ?_ ?_
 ·refine .a 1 rfl<|.c rfl (hq1▸valid_can T) rfl<|.a 2 rfl<|?_
  cases q1
  ·exact .a 5 rfl<|.k [17,2,3] rfl
  ·exact .a 2 rfl<|.c rfl (hq2▸fits_can T D (by have:=links_le hq1;omega)) rfl<|.a 2 rfl<|.k [17,2,3] rfl
 refine W_cond rfl (fun hc=>?_) (fun hc=>?_)
 ·have hch:chkE T D ns=1:=by
   unfold chkE
   rw[hq1,hq2,if_neg]
   revert hc
   cases q1<;>cases q2<;>simp
  refine W_cs (.a 1 rfl<|.k [6] rfl) ?_
  refine W_ret ?_
  exact⟨_,_,ResL.of rfl,Pur.pure,by rw[hch];rfl⟩
 ·have hok:(validB T&&fitsB T D)=true:=by
   rw[hq1,hq2]
   revert hc
   cases q1<;>cases q2<;>simp
  refine W_skip ?_
  refine W_seq ?_
  refine W_cs (.a 3 rfl<|.k [3,18,19,20] rfl) ?_
  refine W_block ?_
  refine W_k [3,18,19,20] rfl ?_
  refine W_loop (fun r s=>∃i,i≤ns.length∧(ns.take i).all (nodeB T)=true∧r=ns.length - i∧s=⟨[(3,.pin (topoP T) 0),(18,intsV ns),(19,num ns.length),(20,num i)],[]⟩) ns.length ⟨0,by omega,by simp,by omega,rfl⟩ ?_
  rintro r s ⟨i,hi,hall,rfl,rfl⟩
  refine W_cs (.a 1 rfl<|.k [3,18,19,20,21] rfl) ?_
  refine W_seq ?_
  refine W_cond rfl (fun hc=>?_) (fun hc=>?_)
  ·have hlt:i<ns.length:=by have:=of_decide_eq_true hc;omega
   refine W_skip ?_
   refine W_seq ?_
   refine W_block ?_
   refine W_cs (.v (y_ix (i) rfl) rfl<|.v (y_ld rfl (ints_get ns i hlt)) rfl<|.a 1 rfl<|.k [3,8,18,19,20] rfl) ?_
   refine W_cs (.a 2 rfl<|.c rfl (node_can T _) rfl<|.a 1 rfl<|.k [3,18,19,20,27] rfl) ?_
   refine W_cond rfl (fun hc=>?_) (fun hc=>?_)
   ·have hch:chkE T D ns=2:=by
     unfold chkE
     rw[if_pos hok,if_neg]
     intro h
     have h1:=List.all_eq_true.1 h _ (getD_mem (d:=0) hlt)
     rw[h1]at hc
     cases hc
    refine W_cs (.a 1 rfl<|.k [6] rfl) ?_
    refine W_ret ?_
    exact⟨_,_,ResL.of rfl,Pur.pure,by rw[hch];rfl⟩
   ·have hall':(ns.take (i+1)).all (nodeB T)=true:=by
     rw[take_step ns i 0 hlt,List.all_append,hall]
     have:nodeB T (ns.getD i 0)=true:=by revert hc;cases nodeB T (ns.getD i 0)<;>simp
     simp only[List.all_cons,this,List.all_nil,Bool.and_self]
    refine W_skip ?_
    refine W_chain (.v (y_ar rfl) rfl<|.a 1 rfl<|.k [3,18,19,20] rfl) ?_
    exact⟨ns.length - (i+1),by omega,i+1,by omega,hall',rfl,rfl⟩
  ·have hie:i=ns.length:=by have:=of_decide_eq_false hc;omega
   refine W_exit ?_
   refine W_cs (.a 1 rfl<|.k [6] rfl) ?_
   refine W_ret ?_
   refine⟨_,_,ResL.of rfl,Pur.pure,?_⟩
   unfold chkE
   rw[if_pos hok,if_pos (by rw[hie,List.take_length]at hall;exact hall)]
   rfl
set_option maxRecDepth 10000 in
set_option maxHeartbeats 1000000 in
theorem dist1_can (rs:List (List Int)) (i:Nat) (hi:i<rs.length):Can Tryz.prog 175 ([num i]++[.pin [rowsV rs] 0]) (· =intsV (rs.getD i [])):=by
 refine can_of Tryz.func175 rfl Tryz.ntmps175 rfl ?_
 refine W_cs (.a 1 rfl<|.k [0,1] rfl) ?_
 refine W_cs (.a 2 rfl<|.v (y_ix (i) rfl) rfl<|.v (y_ld rfl ((show(rs.map intsV)[i]? =some (intsV (rs.getD i [])) by simp[hi]))) rfl<|.a 1 rfl<|.k [3] rfl) ?_
 refine W_ret ?_
 exact⟨_,_,ResL.of rfl,Pur.pure,rfl⟩
set_option maxRecDepth 10000 in
set_option maxHeartbeats 1000000 in
theorem dist2_can (T:Topo) (a:Nat) (ha:a<2*T.links.length):Can Tryz.prog 176 ([num a]++[.pin (topoP T) 0]) (· =num (tailN T a)):=by
 refine can_of Tryz.func176 rfl Tryz.ntmps176 rfl ?_
 refine W_cs (.a 1 rfl<|.k [0,1] rfl) ?_
 refine W_cs (.a 2 rfl<|.c rfl (tail_can T a ha) rfl<|.a 1 rfl<|.k [3] rfl) ?_
 refine W_ret ?_
 exact⟨_,_,ResL.of rfl,Pur.pure,rfl⟩
def intsE (e:Int) (l:List Int):PV:=.tuple [intsV (if e=0 then l else []),num e]
instance (e:Int) (l:List Int):IsPure (intsE e l):=by unfold intsE;infer_instance
set_option maxRecDepth 10000 in
set_option maxHeartbeats 1000000 in
theorem dist_can (T:Topo) (D:List Bool) (d:Int):Can Tryz.prog 151 [topoV T,boolsV D,num d] (· =intsE (chkE T D [d]) (distL T D d.toNat false)):=by
 refine can_of Tryz.func151 rfl Tryz.ntmps151 rfl ?_
 refine W_cs (.a 3 rfl<|.k [1,2,3] rfl) ?_
 refine W_seq ?_
 refine W_cs (.a 4 rfl<|.c rfl (check_can T D [d] (by simp)) rfl<|.a 1 rfl<|.k [1,2,3,8] rfl) ?_
 refine W_cs (.a 2 rfl<|.k [1,2,3,8,17] rfl) ?_
 refine W_cond rfl (fun hc=>?_) (fun hc=>?_)
 ·have he:chkE T D [d]≠0:=of_decide_eq_true hc
  refine W_cs (.a 3 rfl<|.k [6,7] rfl) ?_
  refine W_ret ?_
  exact⟨_,_,ResL.of rfl,Pur.tupleL (PurL.cons Pur.nils (PurL.cons Pur.pure PurL.nil)),by unfold intsE;rw[if_neg he];rfl⟩
 ·have he:chkE T D [d]=0:=by have:=of_decide_eq_false hc;omega
  have hok:(validB T&&fitsB T D)=true∧nodeB T d=true:=by
   unfold chkE at he
   split at he
   ·rename_i h1
    split at he
    ·rename_i h2;exact⟨h1,by simpa using h2⟩
    ·omega
   ·omega
  obtain⟨hvf,hnd⟩:=hok
  obtain⟨hv,hf⟩:=Bool.and_eq_true_iff.1 hvf
  have hd:0≤d∧d<T.nodes:=by simpa[nodeB]using hnd
  obtain⟨n,rfl⟩:=Int.eq_ofNat_of_zero_le hd.1
  have hS:=sound_of hv
  refine W_skip ?_
  refine W_rs ?_
  refine WR_a 1 rfl<|WR_c rfl (entering_can T hv) rfl<|WR_a 2 rfl<|WR_k [1,2,3,9] rfl ?_
  refine W_rs ?_
  refine WR_a 3 rfl<|WR_v (y_makeFunc rfl rfl) rfl<|WR_a 4 rfl<|WR_k [10] rfl ?_
  refine W_freeze (.cons 10 rfl (Pur.ptrL rfl (PurL.cons Pur.pure<|PurL.cons Pur.pure<|PurL.cons Pur.pure<|PurL.cons Pur.pure<|PurL.cons Pur.pure<|PurL.cons (Pur.funcL (PurL.cons (Pur.ptrL rfl (PurL.cons Pur.pure PurL.nil)) PurL.nil))<|PurL.cons Pur.pure PurL.nil)) .nil) ?_
  refine W_cs (.a 1 rfl<|.c rfl (run_can T D n false 175 176 [.pin [rowsV (rowsL (headN T) T.nodes.toNat (2*T.links.length))] 0] [.pin (topoP T) 0] hv hf hd.2 (by kernel_rfl) (by kernel_rfl) (fun i hi=>by have h:=dist1_can (rowsL (headN T) T.nodes.toNat (2*T.links.length)) i (by rw[rowsL_len];omega);rw[rowsL_get _ _ _ _ (by omega)]at h;exact h) (fun a ha=>dist2_can T a ha)) rfl<|.a 2 rfl<|.k [6,7] rfl) ?_
  refine W_ret ?_
  exact⟨_,_,ResL.of rfl,Pur.pure,by unfold intsE;rw[if_pos he,he];rfl⟩
end PW
end Go.Proofs.YtnegbdpggideiaaGreatDoor

namespace Go.Proofs.YtnegbdpggideiaaGreatDoor
set_option linter.unusedVariables false
set_option linter.unusedSimpArgs false
namespace PW
open Go.RowKit Reg Mem Net Heap
set_option maxRecDepth 10000 in
set_option maxHeartbeats 1000000 in
theorem out_can (T:Topo) (hl:T.links.length≤256) (n:Int):Can Tryz.prog 74 [topoV T,num n] (· =intsV (outL T n)):=by
 refine can_of Tryz.func74 rfl Tryz.ntmps74 rfl ?_
 refine W_cs (.a 2 rfl<|.k [1,2] rfl) ?_
 refine W_cs (.a 1 rfl<|.k [1,2,5] rfl) ?_
 refine W_adopt 5 3 1 rfl ?_
 refine W_seq ?_
 refine W_cs (.a 1 rfl<|.c rfl (arcs_can T (by omega)) rfl<|.a 1 rfl<|.k [1,2,5,8,9] rfl) ?_
 refine W_block ?_
 refine W_k [1,2,5,8,9] rfl ?_
 refine W_loop (fun r s=>∃k,k≤2*T.links.length∧r=2*T.links.length - k∧s=⟨[(1,num n),(2,.pin (topoP T) 0),(5,.own 0),(8,num (2*(T.links.length:Int))),(9,num k)],[some (.row 3 1 (outTo T n k).length (intsP (outTo T n k)))]⟩) (2*T.links.length) ⟨0,by omega,by omega,rfl⟩ ?_
 rintro r s ⟨k,hk,rfl,rfl⟩
 refine W_cs (.a 1 rfl<|.k [1,2,5,8,9,10] rfl) ?_
 refine W_seq ?_
 refine W_cond rfl (fun hc=>?_) (fun hc=>?_)
 ·have hlt:k<2*T.links.length:=by have:=of_decide_eq_true hc;omega
  have hlen:=outTo_len T n k
  refine W_skip ?_
  refine W_seq ?_
  refine W_block ?_
  refine W_cs (.a 2 rfl<|.k [1,2,5,6,8,9] rfl) ?_
  refine W_cs (.a 2 rfl<|.c rfl (tail_can T k hlt) rfl<|.a 2 rfl<|.k [1,2,5,6,8,9,16] rfl) ?_
  refine W_cond rfl (fun hc=>?_) (fun hc=>?_)
  ·have hst:=outTo_yes T n k (by simpa using of_decide_eq_true hc)
   refine W_region ?_
   refine WR_a 3 rfl<|WR_l (l_append rfl (fok.rk.get rfl) rfl rfl rfl rfl (by unfold maxLen;omega)) rfl<|WR_a 1 rfl ?_
   refine WR_ren [1] (.c 1<|.c 2<|.c 5<|.c 8<|.c 9<|.nil) (.kept rfl (.rowP rfl (intsP_snoc _ _))<|.nil) rfl rfl (WR_nil ?_)
   refine W_chain (.v (y_ar rfl) rfl<|.a 1 rfl<|.k [1,2,5,8,9] rfl) ?_
   refine⟨2*T.links.length - (k+1),by omega,k+1,by omega,rfl,?_⟩
   rw[hst]
   first
    |rfl
    |(simp only[List.length_append,List.length_singleton];rfl)
  ·have hst:=outTo_no T n k (by simpa using of_decide_eq_false hc)
   refine W_skip ?_
   refine W_chain (.v (y_ar rfl) rfl<|.a 1 rfl<|.k [1,2,5,8,9] rfl) ?_
   refine⟨2*T.links.length - (k+1),by omega,k+1,by omega,rfl,?_⟩
   rw[hst]
   first
    |rfl
    |(simp only[List.length_append,List.length_singleton];rfl)
 ·have hke:k=2*T.links.length:=by have:=of_decide_eq_false hc;omega
  subst hke
  refine W_exit ?_
  refine W_cs (.a 2 rfl<|.k [4] rfl) ?_
  refine W_ret ?_
  exact⟨_,_,ResL.of rfl,Pur.ownL rfl PurL.pure,rfl⟩
def nodeE (T:Topo) (D:List Bool) (n d:Int):Int:=if chkE T D [d]=0 then(if nodeB T n then 0 else 2) else chkE T D [d]
set_option maxRecDepth 10000 in
set_option maxHeartbeats 1000000 in
theorem dists_can (T:Topo) (D:List Bool) (n d:Int):Can Tryz.prog 147 [topoV T,boolsV D,num n,num d] (· =intsE (nodeE T D n d) (distL T D d.toNat false)):=by
 refine can_of Tryz.func147 rfl Tryz.ntmps147 rfl ?_
 refine W_cs (.a 3 rfl<|.k [1,2,3,4] rfl) ?_
 refine W_cs (.a 3 rfl<|.c rfl (dist_can T D d) rfl<|.a 5 rfl<|.k [2,4,10,11] rfl) ?_
 refine W_seq ?_
 refine W_cs (.a 2 rfl<|.k [2,4,10,11,20] rfl) ?_
 refine W_cond rfl (fun hc=>?_) (fun hc=>?_)
 ·have he:chkE T D [d]≠0:=of_decide_eq_true hc
  refine W_cs (.a 3 rfl<|.k [8,9] rfl) ?_
  refine W_ret ?_
  exact⟨_,_,ResL.of rfl,Pur.tupleL (PurL.cons Pur.nils (PurL.cons Pur.pure PurL.nil)),by unfold intsE nodeE;rw[if_neg he,if_neg he];rfl⟩
 ·have he:chkE T D [d]=0:=by have:=of_decide_eq_false hc;omega
  refine W_skip ?_
  refine W_seq ?_
  refine W_cs (.a 2 rfl<|.c rfl (node_can T n) rfl<|.a 1 rfl<|.k [10,25] rfl) ?_
  refine W_cond rfl (fun hc=>?_) (fun hc=>?_)
  ·have hn:nodeB T n=false:=by revert hc;cases nodeB T n<;>simp
   refine W_cs (.a 2 rfl<|.k [8,9] rfl) ?_
   refine W_ret ?_
   exact⟨_,_,ResL.of rfl,Pur.tupleL (PurL.cons Pur.nils (PurL.cons Pur.pure PurL.nil)),by unfold intsE nodeE;rw[if_pos he,hn];rfl⟩
  ·have hn:nodeB T n=true:=by revert hc;cases nodeB T n<;>simp
   refine W_skip ?_
   refine W_cs (.a 3 rfl<|.k [8,9] rfl) ?_
   refine W_ret ?_
   exact⟨_,_,ResL.of rfl,Pur.pure,by unfold intsE nodeE;simp only[he,hn,if_true];rfl⟩
theorem chkE_zero {T:Topo} {D:List Bool} {ns:List Int} (he:chkE T D ns=0):validB T=true∧fitsB T D=true∧∀n∈ns,nodeB T n=true:=by
 unfold chkE at he
 split at he
 ·rename_i h1
  split at he
  ·rename_i h2
   obtain⟨a,b⟩:=Bool.and_eq_true_iff.1 h1
   exact⟨a,b,List.all_eq_true.1 h2⟩
  ·omega
 ·omega
theorem nodeE_zero {T:Topo} {D:List Bool} {n d:Int} (he:nodeE T D n d=0):validB T=true∧fitsB T D=true∧nodeB T n=true∧nodeB T d=true:=by
 unfold nodeE at he
 split at he
 ·rename_i h1
  obtain⟨a,b,c⟩:=chkE_zero h1
  split at he
  ·rename_i h2;exact⟨a,b,h2,c d (by simp)⟩
  ·omega
 ·omega
theorem distL_bound {T:Topo} {D:List Bool} (hv:validB T=true) {d:Nat} {dir:Bool} (hd:(d:Int)<T.nodes):((distL T D d dir).length:Int)=T.nodes∧∀x∈distL T D d dir, -1≤x∧x≤4194240:=by
 have hS:=sound_of hv
 have hI:=distL_inv hS D dir hd
 refine⟨hI.len,fun x hx=>?_⟩
 obtain⟨i,hi,rfl⟩:=List.getElem_of_mem hx
 have hin:(i:Int)<T.nodes:=by have:=hI.len;omega
 have h1:=hI.ge i hin
 have h2:=hI.bnd i hin
 have h3:=cnt_le (distL T D d dir)
 have h4:=hS.nodes
 have h5:=hI.len
 rw[at_eq _ i hi]at h1 h2
 omega
noncomputable def nextL (T:Topo) (D:List Bool) (n d:Nat):List Int:=
 if n=d∨(distL T D d false).getD n 0<0 then [] else passL T D (distL T D d false) ((distL T D d false).getD n 0) d (outL T n)
theorem outL_mem {T:Topo} {n:Int} {a:Int} (h:a∈outL T n):0≤a∧a<2*(T.links.length:Int):=by
 unfold outL outTo at h
 obtain⟨b,hb,rfl⟩:=List.mem_map.1 h
 have:=(List.mem_filter.1 hb).1
 have:=List.mem_range.1 this
 simp;omega
set_option maxRecDepth 10000 in
set_option maxHeartbeats 1000000 in
theorem next_can (T:Topo) (D:List Bool) (n d:Int):Can Tryz.prog 109 [topoV T,boolsV D,num n,num d] (· =intsE (nodeE T D n d) (nextL T D n.toNat d.toNat)):=by
 refine can_of Tryz.func109 rfl Tryz.ntmps109 rfl ?_
 refine W_cs (.a 3 rfl<|.k [1,2,3,4] rfl) ?_
 refine W_cs (.a 4 rfl<|.c rfl (dists_can T D n d) rfl<|.a 5 rfl<|.k [1,2,3,4,10,11] rfl) ?_
 refine W_seq ?_
 refine W_cs (.a 2 rfl<|.k [1,2,3,4,10,11,21] rfl) ?_
 refine W_cond rfl (fun hc=>?_) (fun hc=>?_)
 ·have he:nodeE T D n d≠0:=of_decide_eq_true hc
  refine W_cs (.a 3 rfl<|.k [8,9] rfl) ?_
  refine W_ret ?_
  exact⟨_,_,ResL.of rfl,Pur.tupleL (PurL.cons Pur.nils (PurL.cons Pur.pure PurL.nil)),by unfold intsE;rw[if_neg he];rfl⟩
 ·have he:nodeE T D n d=0:=by have:=of_decide_eq_false hc;omega
  rw[he]
  obtain⟨hv,hf,hn,hd⟩:=nodeE_zero he
  rw[nodeB_iff]at hn hd
  obtain⟨n,rfl⟩:=Int.eq_ofNat_of_zero_le hn.1
  obtain⟨d,rfl⟩:=Int.eq_ofNat_of_zero_le hd.1
  have hll:=links_le hv
  obtain⟨hb1,hb2⟩:=distL_bound (D:=D) hv (dir:=false) hd.2
  refine W_skip ?_
  refine W_drs mixed (by kernel_rfl) (.a 5 rfl<|.v [26,27] (y_c rfl (out_can T hll _)) rfl rfl<|.a 2 rfl<|.v [23,24,25,28,29,30] (y_c rfl (dnext_can T D (distL T D d false) (outL T n) n d hv hf hb1 hb2 hn.2 hd.2 (fun a ha=>outL_mem ha) (Nat.le_trans (outTo_len T n _) (by omega)))) rfl rfl<|.a 2 rfl<|.k [8,9] rfl) ?_
  refine W_ret ?_
  exact⟨_,_,ResL.of rfl,Pur.pure,rfl⟩
end PW
end Go.Proofs.YtnegbdpggideiaaGreatDoor

namespace Go.Proofs.YtnegbdpggideiaaGreatDoor
set_option linter.unusedVariables false
set_option linter.unusedSimpArgs false
namespace PW
open Go.RowKit Reg Mem Net
structure Seg where
 kind:Int
 num:Int
deriving DecidableEq
structure Ent where
 arcs:List Int
 rep:Bool
 push:List Seg
structure Tab where
 node:Int
 ents:List Ent
 down:List Int
def segP (s:Seg):List PV:=[num s.kind,num s.num]
def segV (s:Seg):PV:=.agg (segP s)
def segsP (l:List Seg):List PV:=l.flatMap segP
def segsV (l:List Seg):PV:=.slice l.length (segsP l)
def entP (e:Ent):List PV:=[intsV e.arcs,flag e.rep,segsV e.push]
def entV (e:Ent):PV:=.agg (entP e)
def entsP (l:List Ent):List PV:=l.flatMap entP
def entsV (l:List Ent):PV:=.slice l.length (entsP l)
def tabP (t:Tab):List PV:=[num t.node,entsV t.ents,intsV t.down]
def tabV (t:Tab):PV:=.agg (tabP t)
def tabsP (l:List Tab):List PV:=l.flatMap tabP
def tabsV (l:List Tab):PV:=.slice l.length (tabsP l)
instance (s:Seg):IsPureL (segP s):=by unfold segP;infer_instance
instance (s:Seg):IsOneL (segP s):=by unfold segP;infer_instance
instance (s:Seg):IsPure (segV s):=by unfold segV;infer_instance
instance (l:List Seg):IsPureL (segsP l):=IsPureL.flatMap _ _ fun _=>inferInstance
instance (l:List Seg):IsOneL (segsP l):=IsOneL.flatMap _ _ fun _=>inferInstance
instance (l:List Seg):IsPure (segsV l):=by unfold segsV;infer_instance
instance (l:List Seg):IsOne (segsV l):=by unfold segsV;infer_instance
instance (e:Ent):IsPureL (entP e):=by unfold entP;infer_instance
instance (e:Ent):IsOneL (entP e):=by unfold entP;infer_instance
instance (e:Ent):IsPure (entV e):=by unfold entV;infer_instance
instance (l:List Ent):IsPureL (entsP l):=IsPureL.flatMap _ _ fun _=>inferInstance
instance (l:List Ent):IsOneL (entsP l):=IsOneL.flatMap _ _ fun _=>inferInstance
instance (l:List Ent):IsPure (entsV l):=by unfold entsV;infer_instance
instance (l:List Ent):IsOne (entsV l):=by unfold entsV;infer_instance
instance (t:Tab):IsPureL (tabP t):=by unfold tabP;infer_instance
instance (t:Tab):IsOneL (tabP t):=by unfold tabP;infer_instance
instance (t:Tab):IsPure (tabV t):=by unfold tabV;infer_instance
instance (l:List Tab):IsPureL (tabsP l):=IsPureL.flatMap _ _ fun _=>inferInstance
instance (l:List Tab):IsOneL (tabsP l):=IsOneL.flatMap _ _ fun _=>inferInstance
instance (l:List Tab):IsPure (tabsV l):=by unfold tabsV;infer_instance
instance (l:List Tab):IsOne (tabsV l):=by unfold tabsV;infer_instance
theorem entsP_snoc (l:List Ent) (e:Ent):entsP l++entP e=entsP (l++[e]):=by simp[entsP]
theorem tabsP_snoc (l:List Tab) (e:Tab):tabsP l++tabP e=tabsP (l++[e]):=by simp[tabsP]
theorem flat_get {α:Type} (f:α→List PV) (s:Nat) (hf:∀a,(f a).length=s):∀(l:List α) (i j:Nat) (a:α),l[i]? =some a→j<s→(l.flatMap f)[i*s+j]? =(f a)[j]?
 | [],i,j,a,h,_=>by simp at h
 |b::l,0,j,a,h,hj=>by
  simp at h;subst h
  rw[List.flatMap_cons,Nat.zero_mul,Nat.zero_add,List.getElem?_append_left (by rw[hf];exact hj)]
 |b::l,i+1,j,a,h,hj=>by
  have:=flat_get f s hf l i j a (by simpa using h) hj
  have e1:(i+1)*s=i*s+s:=Nat.succ_mul i s
  have e2:(i+1)*s+j - s=i*s+j:=by omega
  have e3:(f b).length≤(i+1)*s+j:=by rw[hf];omega
  rw[List.flatMap_cons,List.getElem?_append_right e3,hf,e2,this]
theorem flat_drop {α:Type} (f:α→List PV) (s:Nat) (hf:∀a,(f a).length=s):∀(l:List α) (i:Nat) (a:α),l[i]? =some a→((l.flatMap f).drop (i*s)).take s=f a
 | [],i,a,h=>by simp at h
 |b::l,0,a,h=>by
  simp at h;subst h
  rw[List.flatMap_cons,Nat.zero_mul,List.drop_zero]
  exact List.take_left' (hf b)
 |b::l,i+1,a,h=>by
  have:=flat_drop f s hf l i a (by simpa using h)
  have e1:(i+1)*s=s+i*s:=by rw[Nat.succ_mul];omega
  rw[List.flatMap_cons,e1,←List.drop_drop,List.drop_left' (hf b),this]
theorem flat_len {α:Type} (f:α→List PV) (s:Nat) (hf:∀a,(f a).length=s) (l:List α):(l.flatMap f).length=l.length*s:=by
 induction l with
 |nil=>simp
 |cons a l ih=>rw[List.flatMap_cons,List.length_append,ih,hf,List.length_cons,Nat.succ_mul];omega
theorem ents_get (l:List Ent) (i j:Nat) (e:Ent) (h:l[i]? =some e) (hj:j<3):(entsP l)[i*3+j]? =(entP e)[j]? :=flat_get entP 3 (fun _=>rfl) l i j e h hj
theorem ents_drop (l:List Ent) (i:Nat) (e:Ent) (h:l[i]? =some e):((entsP l).drop (i*3)).take 3=entP e:=flat_drop entP 3 (fun _=>rfl) l i e h
theorem segs_get (l:List Seg) (i j:Nat) (e:Seg) (h:l[i]? =some e) (hj:j<2):(segsP l)[i*2+j]? =(segP e)[j]? :=flat_get segP 2 (fun _=>rfl) l i j e h hj
theorem segs_drop (l:List Seg) (i:Nat) (e:Seg) (h:l[i]? =some e):((segsP l).drop (i*2)).take 2=segP e:=flat_drop segP 2 (fun _=>rfl) l i e h
theorem tabs_drop (l:List Tab) (i:Nat) (e:Tab) (h:l[i]? =some e):((tabsP l).drop (i*3)).take 3=tabP e:=flat_drop tabP 3 (fun _=>rfl) l i e h
theorem y_le {P:Program} {σ:Sto} {t:Tms} {o:Oper} {p q:PV} (h:Yield P σ t o p) (hl:PLe p q):Yield P σ t o q:=fun F base E ρ w hρ hS hT=>by
 have:=h F base E ρ w hρ hS hT
 generalize (execOp ρ o).run P w=x at*
 cases x with
 |ok n w'=>
  cases n with
  |value v=>exact⟨this.1,hl _ _ _ this.2⟩
  |skip=>exact⟨this.1,hl _ _ _ this.2⟩
  |enter f args=>exact⟨this.1,Calls.mono this.2 (fun e w'' ⟨x,h1,h2,h3⟩=>⟨x,h1,h2,hl _ _ _ h3⟩)⟩
  |_=>exact this
 |halt x w'=>exact this
def PLeL (xs ys:List PV):Prop:=xs.length=ys.length∧∀(i:Nat) x y,xs[i]? =some x→ys[i]? =some y→PLe x y
theorem PLeL.nil:PLeL [] []:=⟨rfl,fun i x y h=>by simp at h⟩
theorem PLeL.cons {x y:PV} {xs ys:List PV} (h:PLe x y) (hs:PLeL xs ys):PLeL (x::xs) (y::ys):=⟨by simp[hs.1],fun j a b h1 h2=>by
 cases j with
 |zero=>simp at h1 h2;subst h1;subst h2;exact h
 |succ j=>exact hs.2 j a b (by simpa using h1) (by simpa using h2)⟩
theorem PLe.aggL {xs ys:List PV} (h:PLeL xs ys):PLe (.agg xs) (.agg ys):=fun E w v hv=>by
 cases hv with
 |agg cs _ hl hr=>exact .agg cs ys (hl.trans h.1) (fun i c u h1 h2=>by
   have hi:i<xs.length:=by rw[h.1];exact(List.getElem?_eq_some_iff.1 h2).1
   exact h.2 i xs[i] u (by simp[hi]) h2 E w c (hr i c _ h1 (by simp[hi])))
noncomputable def toL (T:Topo) (D:List Bool) (n k:Nat):List Ent:=(List.range k).map fun d=>⟨nextL T D n d,false,[]⟩
def downL (D:List Bool) (l:List Int):List Int:=l.filter fun a=>downN D a.toNat
noncomputable def routesT (T:Topo) (D:List Bool) (n:Nat):Tab:=⟨n,toL T D n T.nodes.toNat,downL D (outL T n)⟩
noncomputable def routesE (T:Topo) (D:List Bool) (n:Int):Tab:=if chkE T D [n]=0 then routesT T D n.toNat else⟨0,[],[]⟩
theorem toL_step (T:Topo) (D:List Bool) (n k:Nat):toL T D n (k+1)=toL T D n k++[⟨nextL T D n k,false,[]⟩]:=by simp[toL,List.range_succ]
theorem toL_len (T:Topo) (D:List Bool) (n k:Nat):(toL T D n k).length=k:=by simp[toL]
end PW
end Go.Proofs.YtnegbdpggideiaaGreatDoor

namespace Go.Proofs.YtnegbdpggideiaaGreatDoor
set_option linter.unusedVariables false
set_option linter.unusedSimpArgs false
namespace PW
open Go.RowKit Reg Mem Net
end PW
end Go.Proofs.YtnegbdpggideiaaGreatDoor

namespace Go.Proofs.YtnegbdpggideiaaGreatDoor
set_option linter.unusedVariables false
set_option linter.unusedSimpArgs false
namespace PW
open Go.RowKit Reg Mem Net
end PW
end Go.Proofs.YtnegbdpggideiaaGreatDoor

namespace Go.Proofs.YtnegbdpggideiaaGreatDoor
set_option linter.unusedVariables false
set_option linter.unusedSimpArgs false
namespace PW
open Go.RowKit Reg Mem Net
end PW
end Go.Proofs.YtnegbdpggideiaaGreatDoor

namespace Go.Proofs.YtnegbdpggideiaaGreatDoor
set_option linter.unusedVariables false
set_option linter.unusedSimpArgs false
namespace PW
open Go.RowKit Reg Mem Net
theorem run_eqSeg (a b c d:Int) (w:World):(Op.equalIn 10000 103 (.agg #[.int .i64 a,.int .i64 b]) (.agg #[.int .i64 c,.int .i64 d])).run Tryz.prog w= .ok (a==c&&b==d) w:=by
 have u3:=Tryz.underlying3
 have a3:=Tryz.isAgg3
 have z3:=Tryz.sizeOf3
 have hS:Tryz.prog.underlying 103=some (.struct (Tryz.prog.fieldsOf 103)):=by kernel_rfl
 rw[show(10000:Nat)=9999+1 from rfl,run_equalIn_agg w 9999 103 _ _ hS (by kernel_rfl)]
 simp only[Program.fieldsOf,Tryz.underlying103]
 go_simp
 by_cases h1:a=c<;>by_cases h2:b=d<;>simp[h1,h2]
theorem rep_seg {E:Env} {w:World} {v:Value} {s:Seg} (h:Rep E w v (segV s)):v= .agg #[.int .i64 s.kind,.int .i64 s.num]:=by
 unfold segV segP at h
 cases h with
 |agg cs _ hl hr=>
  obtain⟨l⟩:=cs
  match l,hl,hr with
  | [x,y],_,hr=>
   have h0:=rep_raw (hr 0 x _ rfl rfl)
   have h1:=rep_raw (hr 1 y _ rfl rfl)
   subst h0;subst h1;rfl
  | [],hl,_=>simp at hl
  | [_],hl,_=>simp at hl
  |_::_::_::_,hl,_=>simp at hl
theorem y_segEql {σ:Sto} {t:Tms} {o:Oper} {x y:Operand} {tz:TypeId} {a b:Seg} {q:Bool} (ho:o.op= .binOp .eql 103 x y tz) (hx:evalO t x=some (segV a)) (hy:evalO t y=some (segV b)) (hq:decide (a=b)=q):Yield Tryz.prog σ t o (.raw (.bool q)):=by
 intro F base E ρ w hρ _ hT
 have h1:=rep_seg (evalO_rep hρ hT hx)
 have h2:=rep_seg (evalO_rep hρ hT hy)
 have hb:(a.kind==b.kind&&a.num==b.num)=q:=by
  rw[←hq]
  obtain⟨a1,a2⟩:=a
  obtain⟨b1,b2⟩:=b
  by_cases e1:a1=b1<;>by_cases e2:a2=b2<;>simp[e1,e2]
 simp only[execOp,ho,h1,h2,Sem.run_bind,run_eqGuard_agg w _ _ _ _ _ _ (show Tryz.prog.eqGuardType Tryz.prog.depth 103=false by kernel_rfl),Result.andThen_ok,run_eql_struct,run_eqSeg,Sem.run_pure,hb]
 exact upon_val (.raw _)
end PW
end Go.Proofs.YtnegbdpggideiaaGreatDoor

namespace Go.Proofs.YtnegbdpggideiaaGreatDoor
set_option linter.unusedVariables false
set_option linter.unusedSimpArgs false
namespace PW
open Go.RowKit Reg Mem Net
deriving instance DecidableEq for Ent
deriving instance DecidableEq for Tab
theorem rep_tab {E:Env} {w:World} {v:Value} {x:Tab} (h:Rep E w v (tabV x)):x.ents.length≤maxLen∧x.down.length≤maxLen:=by
 unfold tabV tabP at h
 cases h with
 |agg cs _ hl hr=>
  have hr:RepL E w cs.toList _:=⟨by simpa using hl,fun i x u h1 h2=>hr i x u (by simpa using h1) h2⟩
  obtain⟨v1,_,h1⟩:=hr.get (i:=1) rfl
  obtain⟨v2,_,h2⟩:=hr.get (i:=2) rfl
  exact⟨rep_len h1,rep_len h2⟩
end PW
end Go.Proofs.YtnegbdpggideiaaGreatDoor

namespace Go.Proofs.YtnegbdpggideiaaGreatDoor
set_option linter.unusedVariables false
set_option linter.unusedSimpArgs false
namespace PW
open Go.RowKit Reg Mem Net
def segB (T:Topo) (s:Seg):Bool:=if s.kind=1 then nodeB T s.num else if s.kind=2 then arcB T s.num else if s.kind=3 then withinB s.num 1 64 else if s.kind=4 then withinB s.num 0 65535 else false
def leaveB (T:Topo) (n:Int) (L:List Int):Bool:=decide (∀i,i<L.length→arcB T (L.getD i 0)=true∧tailN T (L.getD i 0).toNat=n∧(0<i→L.getD (i - 1) 0<L.getD i 0))
def entOK (T:Topo) (n d:Int) (e:Ent):Bool:=leaveB T n e.arcs&&(!(decide (d=n)&&decide (0<(e.arcs.length:Int))))&&(if e.rep then decide ((e.arcs.length:Int)=1)&&decide ((e.push.length:Int)≤32)&&e.push.all (segB T) else decide ((e.push.length:Int)=0))
def entD:Ent:=⟨[],false,[]⟩
def entsOK (T:Topo) (n:Int) (l:List Ent):Bool:=decide (∀d,d<l.length→entOK T n d (l.getD d entD)=true)
def tabOK (T:Topo) (x:Tab):Bool:=validB T&&nodeB T x.node&&decide ((x.ents.length:Int)=T.nodes)&&leaveB T x.node x.down&&entsOK T x.node x.ents
theorem arcB_iff {T:Topo} {a:Int}:arcB T a=true↔0≤a∧a<2*(T.links.length:Int):=by simp[arcB]
theorem tailI_can (T:Topo) (a:Int) (h:arcB T a=true):Can Tryz.prog 79 [topoV T,num a] (· =num (tailN T a.toNat)):=by
 obtain⟨h0,h1⟩:=arcB_iff.1 h
 obtain⟨a,rfl⟩:=Int.eq_ofNat_of_zero_le h0
 exact tail_can T a (by omega)
set_option maxRecDepth 10000 in
set_option maxHeartbeats 1000000 in
theorem segm_can (T:Topo) (hl:T.links.length≤4611686018427387903) (s:Seg):Can Tryz.prog 171 [topoV T,segV s] (· =flag (segB T s)):=by
 unfold segB
 refine can_of Tryz.func171 rfl Tryz.ntmps171 rfl ?_
 refine W_cs (.a 3 rfl<|.k [2,3] rfl) ?_
 refine W_seq ?_
 refine W_cs (.a 2 rfl<|.k [2,3,6] rfl) ?_
 refine W_block ?_
 refine W_cs (.a 2 rfl<|.k [2,3,6,7] rfl) ?_
 refine W_cond rfl (fun hc=>?_) (fun hc=>?_)
 ·rw[if_pos (tt hc)]
  refine W_cs (.a 3 rfl<|.c rfl (node_can T s.num) rfl<|.a 1 rfl<|.k [4] rfl) ?_
  refine W_ret ?_
  exact⟨_,_,ResL.of rfl,Pur.pure,rfl⟩
 ·rw[if_neg (ff hc)]
  refine W_cs (.a 2 rfl<|.k [2,3,6,13] rfl) ?_
  refine W_cond rfl (fun hc=>?_) (fun hc=>?_)
  ·rw[if_pos (tt hc)]
   refine W_cs (.a 3 rfl<|.c rfl (arc_can T hl s.num) rfl<|.a 1 rfl<|.k [4] rfl) ?_
   refine W_ret ?_
   exact⟨_,_,ResL.of rfl,Pur.pure,rfl⟩
  ·rw[if_neg (ff hc)]
   refine W_cs (.a 2 rfl<|.k [3,6,19] rfl) ?_
   refine W_cond rfl (fun hc=>?_) (fun hc=>?_)
   ·rw[if_pos (tt hc)]
    obtain⟨p1,hp1⟩:∃q,decide (1≤s.num)=q:=⟨_,rfl⟩
    obtain⟨p2,hp2⟩:∃q,decide (s.num≤64)=q:=⟨_,rfl⟩
    have he:withinB s.num 1 64=(p1&&p2):=by rw[←hp1,←hp2];unfold withinB;exact Bool.decide_and _ _
    rw[he]
    refine W_csK 4 (.raw (.bool (p1&&p2))) [] rfl ?_ ?_
    ·refine .a 2 rfl<|.v (y_q rfl (hp1)) rfl<|.a 1 rfl<|?_
     cases p1
     ·exact .a 5 rfl<|.k [4] rfl
     ·exact .a 2 rfl<|.v (y_q rfl (hp2)) rfl<|.a 2 rfl<|.k [4] rfl
    refine W_ret ?_
    exact⟨_,_,ResL.of rfl,Pur.pure,rfl⟩
   ·rw[if_neg (ff hc)]
    refine W_cs (.a 2 rfl<|.k [3,29] rfl) ?_
    refine W_cond rfl (fun hc=>?_) (fun hc=>?_)
    ·rw[if_pos (tt hc)]
     obtain⟨p1,hp1⟩:∃q,decide (0≤s.num)=q:=⟨_,rfl⟩
     obtain⟨p2,hp2⟩:∃q,decide (s.num≤65535)=q:=⟨_,rfl⟩
     have he:withinB s.num 0 65535=(p1&&p2):=by rw[←hp1,←hp2];unfold withinB;exact Bool.decide_and _ _
     rw[he]
     refine W_csK 4 (.raw (.bool (p1&&p2))) [] rfl ?_ ?_
     ·refine .a 2 rfl<|.v (y_q rfl (hp1)) rfl<|.a 1 rfl<|?_
      cases p1
      ·exact .a 5 rfl<|.k [4] rfl
      ·exact .a 2 rfl<|.v (y_q rfl (hp2)) rfl<|.a 2 rfl<|.k [4] rfl
     refine W_ret ?_
     exact⟨_,_,ResL.of rfl,Pur.pure,rfl⟩
    ·rw[if_neg (ff hc)]
     refine W_skip ?_
     refine W_cs (.a 1 rfl<|.k [4] rfl) ?_
     refine W_ret ?_
     exact⟨_,_,ResL.of rfl,Pur.pure,rfl⟩
def stepB (T:Topo) (n:Int) (L:List Int) (i:Nat):Bool:=decide (arcB T (L.getD i 0)=true∧tailN T (L.getD i 0).toNat=n∧(0<i→L.getD (i - 1) 0<L.getD i 0))
theorem leave_all {T:Topo} {n:Int} {L:List Int} (h:∀i,i<L.length→stepB T n L i=true):leaveB T n L=true:=decide_eq_true fun i hi=>tt (h i hi)
theorem leave_fail {T:Topo} {n:Int} {L:List Int} {i:Nat} (hi:i<L.length) (h:stepB T n L i=false):leaveB T n L=false:=decide_eq_false fun ha=>ff h (ha i hi)
set_option maxRecDepth 10000 in
set_option maxHeartbeats 1000000 in
theorem tleaving_can (T:Topo) (hv:validB T=true) (n:Int) (L:List Int):Can Tryz.prog 140 [topoV T,num n,intsV L] (· =flag (leaveB T n L)):=by
 have hll:=links_le hv
 refine can_rep fun⟨E,w,vs,hR⟩=>?_
 obtain⟨v,_,hv⟩:=hR.get (i:=2) rfl
 have hm:=rep_len hv
 unfold maxLen at hm
 refine can_of Tryz.func140 rfl Tryz.ntmps140 rfl ?_
 refine W_cs (.a 2 rfl<|.k [1,2,3] rfl) ?_
 refine W_seq ?_
 refine W_cs (.a 3 rfl<|.k [1,2,3,9,10,11] rfl) ?_
 refine W_block ?_
 refine W_k [1,2,3,9,10,11] rfl ?_
 refine W_loop (fun r s=>∃k,k≤L.length∧r=L.length - k∧(∀i,i<k→stepB T n L i=true)∧s=⟨[(1,num n),(2,intsV L),(3,.pin (topoP T) 0),(9,intsV L),(10,num L.length),(11,num k)],[]⟩) L.length ⟨0,by omega,by omega,fun i hi=>by omega,rfl⟩ ?_
 rintro r s ⟨k,hk,rfl,hall,rfl⟩
 refine W_cs (.a 1 rfl<|.k [1,2,3,9,10,11,12] rfl) ?_
 refine W_seq ?_
 refine W_cond rfl (fun hc=>?_) (fun hc=>?_)
 ·have hlt:k<L.length:=by have:=tt hc;omega
  obtain⟨p1,hp1⟩:∃q,arcB T (L.getD k 0)=q:=⟨_,rfl⟩
  obtain⟨p2,hp2⟩:∃q,decide (tailN T (L.getD k 0).toNat≠n)=q:=⟨_,rfl⟩
  obtain⟨p3,hp3⟩:∃q,decide (0<(k:Int))=q:=⟨_,rfl⟩
  obtain⟨p4,hp4⟩:∃q,decide (L.getD k 0≤L.getD (k - 1) 0)=q:=⟨_,rfl⟩
  refine W_skip ?_
  refine W_seq ?_
  refine W_block ?_
  refine W_cs (.a 1 rfl<|.v (y_ix (k) rfl) rfl<|.v (y_ld rfl (ints_get L k hlt)) rfl<|.a 2 rfl<|.k [1,2,3,7,8,9,10,11] rfl) ?_
  refine W_csK 39 (.raw (.bool (((!p1)||p2)||(p3&&p4)))) [1,2,3,9,10,11] rfl ?_ ?_
  ·refine .a 2 rfl<|.c rfl (hp1▸arc_can T (by omega) (L.getD k 0)) rfl<|.a 2 rfl<|?_
   cases p1
   ·exact .a 19 rfl<|.k [39,1,2,3,9,10,11] rfl
   ·refine .a 2 rfl<|.c rfl (tailI_can T _ hp1) rfl<|.a 1 rfl<|.v (y_q rfl (hp2)) rfl<|.a 2 rfl<|?_
    cases p2
    ·refine .a 1 rfl<|.v (y_q rfl (hp3)) rfl<|.a 1 rfl<|?_
     cases p3
     ·exact .a 9 rfl<|.k [39,1,2,3,9,10,11] rfl
     ·exact .a 2 rfl<|.v (y_ar rfl) rfl<|.v (y_ix (k - 1) rfl (by have:=tt hp3;omega) (by omega)) rfl<|.v (y_ld rfl (ints_get L (k - 1) (by omega))) rfl<|.a 1 rfl<|.v (y_q rfl (hp4)) rfl<|.a 2 rfl<|.k [39,1,2,3,9,10,11] rfl
    ·exact .a 12 rfl<|.k [39,1,2,3,9,10,11] rfl
  refine W_cond rfl (fun hx=>?_) (fun hx=>?_)
  ·have hno:stepB T n L k=false:=by
    refine decide_eq_false fun⟨h1,h2,h3⟩=>?_
    rw[h1]at hp1
    rw[decide_eq_false (by simpa using h2)]at hp2
    subst hp1 hp2
    simp only[Bool.not_true,Bool.false_or,Bool.and_eq_true]at hx
    rw[hx.1]at hp3
    rw[hx.2]at hp4
    have:=h3 (by have:=tt hp3;omega)
    have:=tt hp4
    omega
   rw[leave_fail hlt hno]
   refine W_cs (.a 1 rfl<|.k [6] rfl) ?_
   refine W_ret ?_
   exact⟨_,_,ResL.of rfl,Pur.pure,rfl⟩
  ·have hyes:stepB T n L k=true:=by
    obtain⟨c1,c3⟩:=Bool.or_eq_false_iff.1 hx
    obtain⟨c1,c2⟩:=Bool.or_eq_false_iff.1 c1
    refine decide_eq_true ⟨?_,?_,fun h0=>?_⟩
    ·rw[hp1];simpa using c1
    ·rw[c2]at hp2;exact Classical.byContradiction (ff hp2)
    ·rw[decide_eq_true (by omega)]at hp3
     subst hp3
     rw[Bool.true_and]at c3
     rw[c3]at hp4
     have:=ff hp4
     omega
   refine W_skip ?_
   refine W_chain (.v (y_ar rfl) rfl<|.a 1 rfl<|.k [1,2,3,9,10,11] rfl) ?_
   refine⟨L.length - (k+1),by omega,k+1,by omega,rfl,fun i hi=>?_,rfl⟩
   by_cases h:i=k
   ·rw[h];exact hyes
   ·exact hall i (by omega)
 ·have hke:k=L.length:=by have:=ff hc;omega
  subst hke
  rw[leave_all hall]
  refine W_exit ?_
  refine W_cs (.a 1 rfl<|.k [6] rfl) ?_
  refine W_ret ?_
  exact⟨_,_,ResL.of rfl,Pur.pure,rfl⟩
theorem allT {α:Type} (p:α→Bool) (L:List α) (k:Nat) (a:α) (h:L[k]? =some a):(L.take (k+1)).all p=((L.take k).all p&&p a):=by
 rw[List.take_add_one,h,List.all_append];simp
theorem allF {α:Type} (p:α→Bool) (L:List α) (k:Nat) (a:α) (h:L[k]? =some a) (hp:p a=false):L.all p=false:=by
 rw[Bool.eq_false_iff]
 intro ha
 have:=List.all_eq_true.1 ha a (List.mem_of_getElem? h)
 rw[hp]at this
 cases this
set_option maxRecDepth 10000 in
set_option maxHeartbeats 1000000 in
theorem proper_can (T:Topo) (hv:validB T=true) (e:Ent) (n d:Int):Can Tryz.prog 141 [topoV T,entV e,num n,num d] (· =flag (entOK T n d e)):=by
 have hll:=links_le hv
 obtain⟨p1,hp1⟩:∃q,leaveB T n e.arcs=q:=⟨_,rfl⟩
 obtain⟨p2,hp2⟩:∃q,decide (d=n)=q:=⟨_,rfl⟩
 obtain⟨p3,hp3⟩:∃q,decide (0<(e.arcs.length:Int))=q:=⟨_,rfl⟩
 unfold entOK
 rw[hp1,hp2,hp3]
 refine can_of Tryz.func141 rfl Tryz.ntmps141 rfl ?_
 refine W_cs (.a 3 rfl<|.k [2,3,4,5] rfl) ?_
 refine W_seq ?_
 refine W_csK 27 (.raw (.bool ((!p1)||(p2&&p3)))) [4,5] rfl ?_ ?_
 ·refine .a 4 rfl<|.c rfl (hp1▸tleaving_can T hv n e.arcs) rfl<|.a 2 rfl<|?_
  cases p1
  ·exact .a 10 rfl<|.k [27,4,5] rfl
  ·refine .a 2 rfl<|.v (y_q rfl (hp2)) rfl<|.a 1 rfl<|?_
   cases p2
   ·exact .a 6 rfl<|.k [27,4,5] rfl
   ·exact .a 3 rfl<|.v (y_q rfl (hp3)) rfl<|.a 2 rfl<|.k [27,4,5] rfl
 refine W_cond rfl (fun hc=>?_) (fun hc=>?_)
 ·have he:(p1&& !(p2&&p3))=false:=by cases p1<;>cases p2<;>cases p3<;>first|rfl|cases hc
  rw[he,Bool.false_and]
  refine W_cs (.a 1 rfl<|.k [8] rfl) ?_
  refine W_ret ?_
  exact⟨_,_,ResL.of rfl,Pur.pure,rfl⟩
 ·have he:(p1&& !(p2&&p3))=true:=by cases p1<;>cases p2<;>cases p3<;>first|rfl|cases hc
  rw[he,Bool.true_and]
  refine W_skip ?_
  refine W_seq ?_
  refine W_cs (.a 3 rfl<|.k [4,5,30] rfl) ?_
  refine W_cond rfl (fun hc=>?_) (fun hc=>?_)
  ·have hr:e.rep=false:=by simpa using hc
   rw[hr,if_neg (by simp)]
   refine W_cs (.a 5 rfl<|.k [8] rfl) ?_
   refine W_ret ?_
   exact⟨_,_,ResL.of rfl,Pur.pure,rfl⟩
  ·have hr:e.rep=true:=by simpa using hc
   rw[hr,if_pos rfl]
   refine W_skip ?_
   refine W_seq ?_
   obtain⟨p4,hp4⟩:∃q,decide ((e.arcs.length:Int)≠1)=q:=⟨_,rfl⟩
   obtain⟨p5,hp5⟩:∃q,decide (32<(e.push.length:Int))=q:=⟨_,rfl⟩
   refine W_csK 44 (.raw (.bool (p4||p5))) [4,5] rfl ?_ ?_
   ·refine .a 3 rfl<|.v (y_q rfl (hp4)) rfl<|.a 1 rfl<|?_
    cases p4
    ·exact .a 3 rfl<|.v (y_q rfl (hp5)) rfl<|.a 1 rfl<|.k [44,4,5] rfl
    ·exact .a 5 rfl<|.k [44,4,5] rfl
   refine W_cond rfl (fun hx=>?_) (fun hx=>?_)
   ·have hf:(decide ((e.arcs.length:Int)=1)&&decide ((e.push.length:Int)≤32))=false:=by
     rcases Bool.or_eq_true_iff.1 hx with h|h
     ·rw[h]at hp4;rw[decide_eq_false (tt hp4)];rfl
     ·rw[h]at hp5;rw[decide_eq_false (by have:=tt hp5;omega:¬((e.push.length:Int)≤32)),Bool.and_false]
    rw[hf,Bool.false_and]
    refine W_cs (.a 1 rfl<|.k [8] rfl) ?_
    refine W_ret ?_
    exact⟨_,_,ResL.of rfl,Pur.pure,rfl⟩
   ·obtain⟨c1,c2⟩:=Bool.or_eq_false_iff.1 hx
    rw[c1]at hp4
    rw[c2]at hp5
    have hlen:e.push.length≤32:=by have:=ff hp5;omega
    rw[decide_eq_true (Classical.byContradiction (ff hp4)),decide_eq_true (by omega:(e.push.length:Int)≤32),Bool.true_and,Bool.true_and]
    refine W_skip ?_
    refine W_seq ?_
    refine W_cs (.a 4 rfl<|.k [4,46,47,48] rfl) ?_
    refine W_block ?_
    refine W_k [4,46,47,48] rfl ?_
    refine W_loop (fun r s=>∃k,k≤e.push.length∧r=e.push.length - k∧(e.push.take k).all (segB T)=true∧s=⟨[(4,.pin (topoP T) 0),(46,segsV e.push),(47,num e.push.length),(48,num k)],[]⟩) e.push.length ⟨0,by omega,by omega,by simp,rfl⟩ ?_
    rintro r s ⟨k,hk,rfl,hall,rfl⟩
    refine W_cs (.a 1 rfl<|.k [4,46,47,48,49] rfl) ?_
    refine W_seq ?_
    refine W_cond rfl (fun hy=>?_) (fun hy=>?_)
    ·have hlt:k<e.push.length:=by have:=tt hy;omega
     obtain⟨a,ha⟩:∃a,e.push[k]? =some a:=⟨e.push[k],by simp[hlt]⟩
     refine W_skip ?_
     refine W_seq ?_
     refine W_block ?_
     refine W_rs ?_
     refine WR_v (y_ix (k*2) rfl) rfl<|WR_v (y_la rfl (segs_drop e.push k a ha) rfl) rfl<|WR_a 2 rfl<|WR_k [4,10,46,47,48] rfl ?_
     refine W_cs (.a 2 rfl<|.c rfl (segm_can T (by omega) a) rfl<|.a 1 rfl<|.k [4,46,47,48,55] rfl) ?_
     refine W_ren [] (.c 4<|.c 46<|.c 47<|.c 48<|.c 55 .nil) .nil rfl rfl ?_
     refine W_cond rfl (fun hz=>?_) (fun hz=>?_)
     ·rw[allF _ _ k a ha (by simpa using hz)]
      refine W_cs (.a 1 rfl<|.k [8] rfl) ?_
      refine W_ret ?_
      exact⟨_,_,ResL.of rfl,Pur.pure,rfl⟩
     ·have hz':segB T a=true:=by simpa using hz
      refine W_skip ?_
      refine W_chain (.v (y_ar rfl) rfl<|.a 1 rfl<|.k [4,46,47,48] rfl) ?_
      exact⟨e.push.length - (k+1),by omega,k+1,by omega,rfl,by rw[allT _ _ k a ha,hall,hz'];rfl,rfl⟩
    ·have hke:k=e.push.length:=by have:=ff hy;omega
     subst hke
     rw[List.take_length]at hall
     rw[hall]
     refine W_exit ?_
     refine W_cs (.a 1 rfl<|.k [8] rfl) ?_
     refine W_ret ?_
     exact⟨_,_,ResL.of rfl,Pur.pure,rfl⟩
theorem ents_getD (l:List Ent) (k:Nat) (e:Ent) (h:l[k]? =some e):l.getD k entD=e:=by rw[List.getD_eq_getElem?_getD,h];rfl
theorem entsOK_fail {T:Topo} {n:Int} {l:List Ent} {k:Nat} {e:Ent} (h:l[k]? =some e) (hf:entOK T n k e=false):entsOK T n l=false:=decide_eq_false fun ha=>by
 have:=ha k (List.getElem?_eq_some_iff.1 h).1
 rw[ents_getD l k e h,hf]at this
 cases this
theorem entsOK_all {T:Topo} {n:Int} {l:List Ent} (h:∀(k:Nat) e,l[k]? =some e→entOK T n k e=true):entsOK T n l=true:=decide_eq_true fun d hd=>by
 have he:l[d]? =some l[d]:=by simp[hd]
 rw[ents_getD l d _ he]
 exact h d _ he
set_option maxRecDepth 10000 in
set_option maxHeartbeats 1000000 in
theorem tvalid_can (T:Topo) (x:Tab):Can Tryz.prog 99 [topoV T,tabV x] (· =flag (tabOK T x)):=by
 refine can_rep fun⟨E,w,vs,hR⟩=>?_
 obtain⟨v,_,hvv⟩:=hR.get (i:=1) rfl
 have hm:=(rep_tab hvv).1
 unfold maxLen at hm
 obtain⟨p1,hp1⟩:∃q,validB T=q:=⟨_,rfl⟩
 obtain⟨p2,hp2⟩:∃q,nodeB T x.node=q:=⟨_,rfl⟩
 obtain⟨p3,hp3⟩:∃q,decide ((x.ents.length:Int)≠T.nodes)=q:=⟨_,rfl⟩
 obtain⟨p4,hp4⟩:∃q,leaveB T x.node x.down=q:=⟨_,rfl⟩
 have he:decide ((x.ents.length:Int)=T.nodes)= !p3 :=by rw[←hp3];simp
 unfold tabOK
 rw[hp1,hp2,he,hp4]
 refine can_of Tryz.func99 rfl Tryz.ntmps99 rfl ?_
 refine W_cs (.a 3 rfl<|.k [2,3] rfl) ?_
 refine W_seq ?_
 refine W_csK 33 (.raw (.bool ((((!p1)|| !p2)||p3)|| !p4))) [2,3] rfl ?_ ?_
 ·refine .a 1 rfl<|.c rfl (hp1▸valid_can T) rfl<|.a 2 rfl<|?_
  cases p1
  ·exact .a 23 rfl<|.k [33,2,3] rfl
  ·refine .a 3 rfl<|.c rfl (hp2▸node_can T x.node) rfl<|.a 3 rfl<|?_
   cases p2
   ·exact .a 16 rfl<|.k [33,2,3] rfl
   ·refine .a 5 rfl<|.v (y_q rfl (hp3)) rfl<|.a 2 rfl<|?_
    cases p3
    ·exact .a 5 rfl<|.c rfl (hp4▸tleaving_can T hp1 x.node x.down) rfl<|.a 2 rfl<|.k [33,2,3] rfl
    ·exact .a 8 rfl<|.k [33,2,3] rfl
 refine W_cond rfl (fun hc=>?_) (fun hc=>?_)
 ·have hf:(p1&&p2&& !p3 &&p4)=false:=by cases p1<;>cases p2<;>cases p3<;>cases p4<;>first|rfl|cases hc
  rw[hf,Bool.false_and]
  refine W_cs (.a 1 rfl<|.k [4] rfl) ?_
  refine W_ret ?_
  exact⟨_,_,ResL.of rfl,Pur.pure,rfl⟩
 ·have hf:(p1&&p2&& !p3 &&p4)=true:=by cases p1<;>cases p2<;>cases p3<;>cases p4<;>first|rfl|cases hc
  rw[hf,Bool.true_and]
  have e1:p1=true:=by cases p1<;>simp_all
  rw[e1]at hp1
  refine W_skip ?_
  refine W_seq ?_
  refine W_cs (.a 4 rfl<|.k [2,3,35,36,37] rfl) ?_
  refine W_block ?_
  refine W_k [2,3,35,36,37] rfl ?_
  refine W_loop (fun r s=>∃k,k≤x.ents.length∧r=x.ents.length - k∧(∀(i:Nat) e,i<k→x.ents[i]? =some e→entOK T x.node i e=true)∧s=⟨[(2,.pin (topoP T) 0),(3,.pin (tabP x) 0),(35,entsV x.ents),(36,num x.ents.length),(37,num k)],[]⟩) x.ents.length ⟨0,by omega,by omega,fun i e hi=>by omega,rfl⟩ ?_
  rintro r s ⟨k,hk,rfl,hall,rfl⟩
  refine W_cs (.a 1 rfl<|.k [2,3,35,36,37,38] rfl) ?_
  refine W_seq ?_
  refine W_cond rfl (fun hy=>?_) (fun hy=>?_)
  ·have hlt:k<x.ents.length:=by have:=tt hy;omega
   obtain⟨e,hek⟩:∃a,x.ents[k]? =some a:=⟨x.ents[k],by simp[hlt]⟩
   refine W_skip ?_
   refine W_seq ?_
   refine W_block ?_
   refine W_rs ?_
   refine WR_a 1 rfl<|WR_v (y_ix (k*3) rfl) rfl<|WR_v (y_la rfl (ents_drop x.ents k e hek) rfl) rfl<|WR_a 3 rfl<|WR_k [2,3,5,6,35,36,37] rfl ?_
   refine W_cs (.a 5 rfl<|.c rfl (proper_can T hp1 e x.node k) rfl<|.a 1 rfl<|.k [2,3,35,36,37,48] rfl) ?_
   refine W_ren [] (.c 2<|.c 3<|.c 35<|.c 36<|.c 37<|.c 48 .nil) .nil rfl rfl ?_
   refine W_cond rfl (fun hz=>?_) (fun hz=>?_)
   ·rw[entsOK_fail hek (by simpa using hz)]
    refine W_cs (.a 1 rfl<|.k [4] rfl) ?_
    refine W_ret ?_
    exact⟨_,_,ResL.of rfl,Pur.pure,rfl⟩
   ·have hz':entOK T x.node k e=true:=by simpa using hz
    refine W_skip ?_
    refine W_chain (.v (y_ar rfl) rfl<|.a 1 rfl<|.k [2,3,35,36,37] rfl) ?_
    refine⟨x.ents.length - (k+1),by omega,k+1,by omega,rfl,fun i e' hi he'=>?_,rfl⟩
    by_cases h:i=k
    ·subst h;rw[hek]at he';cases he';exact hz'
    ·exact hall i e' (by omega) he'
  ·have hke:k=x.ents.length:=by have:=ff hy;omega
   rw[entsOK_all fun i e hi=>hall i e (by have:=(List.getElem?_eq_some_iff.1 hi).1;omega) hi]
   refine W_exit ?_
   refine W_cs (.a 1 rfl<|.k [4] rfl) ?_
   refine W_ret ?_
   exact⟨_,_,ResL.of rfl,Pur.pure,rfl⟩
end PW
end Go.Proofs.YtnegbdpggideiaaGreatDoor
