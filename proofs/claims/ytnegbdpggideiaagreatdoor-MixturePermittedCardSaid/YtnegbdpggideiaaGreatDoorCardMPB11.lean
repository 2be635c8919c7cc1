/- Texts of the proof, part 11. -/
import Derived.RangeFuncBox
import Derived.Lib.ItoaNum
import Derived.Laws.StructEq
import Derived.Test.YtnegbdpggideiaaGreatDoorCardMPB10
namespace Go.Proofs.YtnegbdpggideiaaGreatDoor
set_option linter.unusedVariables false
set_option linter.unusedSimpArgs false
namespace PW
open Go.RowKit Reg Mem Net Rng
theorem asm_vals {T:Topo} {a:Nat} (hv:validB T=true) (ha:a<2*T.links.length) {d:Nat} (hd:(d:Int)<T.nodes) {n:Nat} (hn:tailN T a=(n:Int)) (k x:Int) (hm:(validB T&&compB T k x)=true):d<(distL T (maskX T k x) n true).length∧decide (0≤(distL T (maskX T k x) n true).getD d 0)=rchB T (maskL T k x) (tailN T a) d:=by
 have hnN:(n:Int)<T.nodes:=by rw[←hn];exact((sound_of hv).tail a ha).2
 have hl:=(distL_bound (D:=maskX T k x) hv (dir:=true) hnN).1
 refine⟨by omega,?_⟩
 rw[hn,maskX_ok hm,Bool.eq_iff_iff,decide_eq_true_eq,rch_iff hv (mask_fits T k x) hnN hd,fwd_iff hv hnN hd]
theorem clo_can (T:Topo) (a d:Nat) (hv:validB T=true) (ha:a<2*T.links.length) (hd:(d:Int)<T.nodes):Can Tryz.prog 183 ([num d]++asmC (grpN T a) (headN T a) ((a / 2:Nat):Int) (wgL T a) (wnL T a)) (· =compV (asmF T a d).1 (asmF T a d).2):=by
 obtain⟨n,hn⟩:=Int.eq_ofNat_of_zero_le ((sound_of hv).tail a ha).1
 have hnt:(tailN T a).toNat=n:=by omega
 have h2:=asm_vals hv ha hd hn 2 (headN T a) (asm_node hv ha)
 have hM:wnL T a=distL T (maskX T 2 (headN T a)) n true:=by unfold wnL;rw[hnt]
 have hL:0<grpN T a→wgL T a=distL T (maskX T 3 (grpN T a)) n true:=fun h=>by unfold wgL;rw[if_pos h,hnt]
 have h:=asm4_can (grpN T a) (headN T a) ((a / 2:Nat):Int) (wgL T a) (wnL T a) d (rchB T (maskL T 3 (grpN T a)) (tailN T a) d) (rchB T (maskL T 2 (headN T a)) (tailN T a) d)
  (fun hg=>by rw[hL hg];exact asm_vals hv ha hd hn 3 (grpN T a) (asm_grp hv ha hg)) (by rw[hM];exact h2.1) (by rw[hM];exact h2.2)
 have e:(if(decide (0<grpN T a)&&rchB T (maskL T 3 (grpN T a)) (tailN T a) d)=true then compV 3 (grpN T a) else if(decide (headN T a≠(d:Int))&&rchB T (maskL T 2 (headN T a)) (tailN T a) d)=true then compV 2 (headN T a) else compV 1 ((a / 2:Nat):Int))=compV (asmF T a d).1 (asmF T a d).2:=by
  unfold asmF
  split
  ·rfl
  ·split<;>rfl
 rw[e]at h
 exact h
def ixL (own:List Bool):List Int→Nat→Int
 | [],_=> -1
 |a::l,i=>bif downN own a.toNat then(i:Int) else ixL own l (i+1)
theorem ix_hit (own:List Bool):∀(l:List Int) (i:Nat),(ixL own l i= -1∧hitL own l=none)∨∃j,j<l.length∧ixL own l i=((i+j:Nat):Int)∧hitL own l=some (l.getD j 0)
 | [],i=>.inl ⟨rfl,rfl⟩
 |a::l,i=>by
  simp only[ixL]
  by_cases h:downN own a.toNat=true
  ·refine .inr ⟨0,by simp,by rw[h];rfl,?_⟩
   unfold hitL
   rw[List.find?_cons_of_pos (by exact h)]
   rfl
  ·rw[Bool.eq_false_iff.2 h]
   simp only[cond_false]
   have e:hitL own (a::l)=hitL own l:=by
    unfold hitL
    rw[List.find?_cons_of_neg (by exact h)]
   rw[e]
   rcases ix_hit own l (i+1)with h'|⟨j,h1,h2,h3⟩
   ·exact .inl h'
   ·exact .inr ⟨j+1,by simpa using h1,by rw[h2];congr 1;omega,by rw[h3];rfl⟩
set_option maxRecDepth 10000 in
set_option maxHeartbeats 1000000 in
theorem ent1_can (own:List Bool) (k:Nat) (hk:k<own.length):Can Tryz.prog 154 ([num k]++[.pin [boolsV own] 0]) (· =flag (downN own k)):=by
 refine can_of Tryz.func154 rfl Tryz.ntmps154 rfl ?_
 refine W_cs (.a 1 rfl<|.k [0,1] rfl) ?_
 refine W_cs (.a 2 rfl<|.v (y_ix (k) rfl) rfl<|.v (y_ld rfl ((show(boolsP own)[k]? =some (flag (downN own k)) by rw[bools_getP _ k hk,downN_get]))) rfl<|.a 1 rfl<|.k [3] rfl) ?_
 refine W_ret ?_
 exact⟨_,_,ResL.of rfl,Pur.pure,rfl⟩
set_option maxRecDepth 10000 in
set_option maxHeartbeats 1000000 in
theorem idxf_can (l:List Int) (own:List Bool) (hl:l.length≤1000) (hm:∀a∈l,∃k:Nat,a=(k:Int)∧k<own.length):Can Tryz.prog 153 [intsV l,.func 154 [.pin [boolsV own] 0]] (· =num (ixL own l 0)):=by
 refine can_of Tryz.func153 rfl Tryz.ntmps153 rfl ?_
 refine W_cs (.a 1 rfl<|.k [0,1] rfl) ?_
 refine W_seq ?_
 refine W_cs (.a 3 rfl<|.k [0,1,7,8] rfl) ?_
 refine W_block ?_
 refine W_k [0,1,7,8] rfl ?_
 refine W_loop (fun r s=>∃i,i≤l.length∧r=l.length - i∧ixL own l 0=ixL own (l.drop i) i∧s=⟨[(0,intsV l),(1,.func 154 [.pin [boolsV own] 0]),(7,num l.length),(8,num i)],[]⟩) l.length ⟨0,by omega,by omega,rfl,rfl⟩ ?_
 rintro r s ⟨i,hi,rfl,hx,rfl⟩
 refine W_cs (.a 1 rfl<|.k [0,1,7,8,9] rfl) ?_
 refine W_seq ?_
 refine W_cond rfl (fun h1=>?_) (fun h1=>?_)
 ·have hlt:i<l.length:=by have:=tt h1;omega
  obtain⟨k,hk,hkl⟩:=hm _ (getD_mem (d:=0) hlt)
  rw[drop_cons l i hlt,hk]at hx
  simp only[ixL,Int.toNat_natCast]at hx
  obtain⟨q,hq⟩:∃q,downN own k=q:=⟨_,rfl⟩
  have he:=ent1_can own k hkl
  rw[hq]at he hx
  refine W_skip ?_
  refine W_seq ?_
  refine W_block ?_
  refine W_cs (.a 2 rfl<|.k [0,1,5,7,8] rfl) ?_
  refine W_cs (.a 3 rfl<|.v (y_ix (i) rfl) rfl<|.v (y_ld rfl ((ints_get l i hlt).trans (by rw[hk]))) rfl<|.c rfl (he) rfl<|.k [0,1,5,7,8,16] rfl) ?_
  refine W_cond rfl (fun h2=>?_) (fun h2=>?_)
  ·subst h2
   rw[cond_true]at hx
   rw[hx]
   refine W_cs (.a 2 rfl<|.k [4] rfl) ?_
   refine W_ret ?_
   exact⟨_,_,ResL.of rfl,Pur.pure,rfl⟩
  ·subst h2
   rw[cond_false]at hx
   refine W_skip ?_
   refine W_chain (.v (y_ar rfl) rfl<|.a 1 rfl<|.k [0,1,7,8] rfl) ?_
   exact⟨l.length - (i+1),by omega,i+1,by omega,rfl,hx,rfl⟩
 ·have hie:i=l.length:=by have:=ff h1;omega
  subst hie
  rw[List.drop_length]at hx
  rw[hx]
  refine W_exit ?_
  refine W_cs (.a 1 rfl<|.k [4] rfl) ?_
  refine W_ret ?_
  exact⟨_,_,ResL.of rfl,Pur.pure,rfl⟩
theorem pc1_can (p:List Int):Can Tryz.prog 185 ([intsV p]++[]) (· = .tuple []):=by
 refine can_of Tryz.func185 rfl Tryz.ntmps185 rfl ?_
 refine W_skip ?_
 exact⟨_,_,ResL.of rfl,Pur.pure,rfl⟩
set_option maxRecDepth 10000 in
set_option maxHeartbeats 1000000 in
theorem pcfindR_can (T:Topo) (D:List Bool) (n d:Int):Can Tryz.prog 184 [topoV T,boolsV D,num n,num d,.func 185 []] (· =num (spE T D n d)):=by
 refine can_of Tryz.func184 rfl Tryz.ntmps184 rfl ?_
 refine W_cs (.a 2 rfl<|.k [1,2,3,4,5] rfl) ?_
 refine W_cs (.a 4 rfl<|.c rfl (spath_can T D n d) rfl<|.a 5 rfl<|.k [4,11,12] rfl) ?_
 refine W_seq ?_
 refine W_cs (.a 2 rfl<|.k [4,11,12,22] rfl) ?_
 refine W_cond rfl (fun h1=>?_) (fun h1=>?_)
 ·skip
  refine W_chain (.a 2 rfl<|.c rfl (pc1_can _) rfl<|.k [12] rfl) ?_
  refine W_cs (.a 2 rfl<|.k [10] rfl) ?_
  refine W_ret ?_
  exact⟨_,_,ResL.of rfl,Pur.pure,rfl⟩
 ·skip
  refine W_skip ?_
  refine W_cs (.a 2 rfl<|.k [10] rfl) ?_
  refine W_ret ?_
  exact⟨_,_,ResL.of rfl,Pur.pure,rfl⟩
set_option maxRecDepth 10000 in
set_option maxHeartbeats 1000000 in
theorem preach_can (T:Topo) (D:List Bool) (n d:Int):Can Tryz.prog 156 [topoV T,boolsV D,num n,num d] (· =flag (rchB T D n d)):=by
 obtain⟨q,hq⟩:∃q,decide (spE T D n d=0)=q:=⟨_,rfl⟩
 unfold rchB
 rw[hq]
 refine can_of Tryz.func156 rfl Tryz.ntmps156 rfl ?_
 refine W_cs (.a 2 rfl<|.k [1,2,3,4] rfl) ?_
 refine W_cs (.a 4 rfl<|.c rfl (pcfindR_can T D n d) rfl<|.v (y_q rfl (hq)) rfl<|.a 1 rfl<|.k [8] rfl) ?_
 refine W_ret ?_
 exact⟨_,_,ResL.of rfl,Pur.pure,rfl⟩
theorem maskF_can (T:Topo) (k x:Int) (hm:(validB T&&compB T k x)=true) (σ:Sto):CanS Tryz.prog 16 [topoV T,compV k x] σ (fun r σ'=>r= .tuple [.own σ.length,num 0]∧σ'=σ++[brow (maskL T k x)]):=by
 obtain⟨hv,hc⟩:=Bool.and_eq_true_iff.1 hm
 refine CanS.frame (CanS.mono (maskS_can T k x hv hc) ?_)
 rintro r σ' ⟨rfl,rfl⟩
 refine⟨[.row 4 1 (2*T.links.length) (boolsP (maskL T k x))],rfl,_,_,Up.tupleL (UpL.cons (Up.own rfl) (UpL.cons Up.pure UpL.nil)),BUpL.cons (.row UpL.pure) BUpL.nil,by simp,?_⟩
 unfold brow
 rw[maskL_len]
 rfl
set_option maxRecDepth 10000 in
set_option maxHeartbeats 2000000 in
theorem prep_can (T:Topo) (own:List Bool) (n d:Nat) (hv:validB T=true) (hfo:own.length=2*T.links.length) (hn:(n:Int)<T.nodes) (hd:(d:Int)<T.nodes) (h12:T.nodes≤12):Can Tryz.prog 114 [topoV T,boolsV own,num n,num d] (· =entV (repX T own n d)):=by
 have hll:=links_le hv
 have hof:fitsB T own=true:=by unfold fitsB;rw[hfo];simp
 have hnb:nodeB T (n:Int)=true:=nodeB_iff.2 ⟨by omega,hn⟩
 have hdb:nodeB T (d:Int)=true:=nodeB_iff.2 ⟨by omega,hd⟩
 have hnx:=next_can T [] n d
 rw[entE_zero hv (fits_nil T) hnb hdb,Int.toNat_natCast,Int.toNat_natCast]at hnx
 unfold intsE at hnx
 rw[if_pos rfl]at hnx
 have hlen:=nextL_len hv [] n d
 have hmem:∀a∈nextL T [] n d,∃k:Nat,a=(k:Int)∧k<2*T.links.length:=fun a ha=>by
  obtain⟨k,hk,hkn⟩:=next_mem ha
  exact⟨k,hk,hkn.arc⟩
 unfold repX
 obtain⟨l,hl⟩:∃l,nextL T [] n d=l:=⟨_,rfl⟩
 rw[hl]at hnx hlen hmem ⊢
 have hix:=idxf_can l own (by omega) (fun a ha=>by rw[hfo];exact hmem a ha)
 obtain⟨ix,hixe⟩:∃ix,ixL own l 0=ix:=⟨_,rfl⟩
 have hih:=ix_hit own l 0
 rw[hixe]at hix hih
 simp only[Nat.zero_add]at hih
 refine can_of Tryz.func114 rfl Tryz.ntmps114 rfl ?_
 refine W_rs ?_
 refine WR_a 3 rfl<|WR_k [2,3,4,5,8] rfl ?_
 refine W_cs (.a 3 rfl<|.v (y_cP rfl (PurL.cons Pur.pure<|PurL.cons Pur.nils<|PurL.cons Pur.pure<|PurL.cons Pur.pure PurL.nil) (hnx)) rfl<|.a 5 rfl<|.k [2,3,4,5,8,9] rfl) ?_
 refine W_cs (.a 1 rfl<|.v (y_makeFunc rfl rfl) rfl<|.c rfl (hix) rfl<|.a 1 rfl<|.k [2,3,4,5,8,9,11] rfl) ?_
 refine W_seq ?_
 refine W_cs (.a 2 rfl<|.k [2,3,4,5,8,9,11,28] rfl) ?_
 refine W_cond rfl (fun h3=>?_) (fun h3=>?_)
 ·have hno:hitL own l=none:=by
   rcases hih with h|⟨j,_,h,_⟩
   ·exact h.2
   ·rw[h]at h3;have:=tt h3;omega
  rw[hno]
  refine W_rs ?_
  refine WR_a 3 rfl<|WR_k [8] rfl ?_
  refine W_ret ?_
  exact⟨_,_,ResL.of rfl,Pur.aggL (PurL.cons (Pur.pure (p:=intsV l))<|PurL.cons Pur.pure<|PurL.cons Pur.nils PurL.nil),rfl⟩
 ·obtain⟨j,hjl,rfl,ha⟩:∃j,j<l.length∧ix=((j:Nat):Int)∧hitL own l=some (l.getD j 0):=by
   rcases hih with h|h
   ·rw[h.1]at h3;exact absurd h3 (by decide)
   ·exact h
  obtain⟨k,hkj,hk⟩:=hmem _ (getD_mem (d:=0) hjl)
  rw[ha]
  simp only[]
  rw[hkj,Int.toNat_natCast]
  have hcm:(validB T&&compB T (asmF T k d).1 (asmF T k d).2)=true:=by rw[hv,asm_comp hv hk];rfl
  have hcl:=clo_can T k d hv hk hd
  have has:=assume_can T k hv hk
  have hmk:=fun σ=>maskF_can T (asmF T k d).1 (asmF T k d).2 hcm σ
  have hmx:mixM T own n d k=if rchB T (orM T (maskL T (asmF T k d).1 (asmF T k d).2) own) n d=true then orM T (maskL T (asmF T k d).1 (asmF T k d).2) own else own:=rfl
  generalize asmF T k (d:Int)=cx at*
  obtain⟨ck,cy⟩:=cx
  simp only at hcm hcl hmk hmx
  have hMl:=maskL_len T ck cy
  obtain⟨M,hM⟩:∃M,maskL T ck cy=M:=⟨_,rfl⟩
  rw[hM]at hmk hmx hMl
  have hre:=pent_can T (mixM T own n d k) n d hll h12
  rw[entE_zero hv (mix_fits hof k) hnb hdb]at hre
  clear h3 hmem hih hix hixe
  refine W_skip ?_
  refine W_sub (keepT_sub (ks:=[2,3,4,5,8,9,11]) rfl) ?_
  refine W_ordersTo ([(2,num n),(3,num d),(4,.pin (topoP T) 0),(5,.pin [boolsV own] 0),(8,.ptr 0 0),(12,.own 1)]) ([some (.cells 76 [.raw (.slice none 0 0),flag false,.raw (.slice none 0 0)]),brow M]) mixed ?_ ?_
  ·refine W_sets [[(2,num n),(3,num d),(4,.pin (topoP T) 0),(5,.pin [boolsV own] 0),(8,.ptr 0 0),(9,intsV l),(11,num j),(12,.own 1),(13,num 0),(31,.tuple [.own 1,num 0]),(32,topoV T),(33,topoV T),(34,intsV l),(35,num j),(36,.pin (intsP l) j),(37,num k),(38,.func 183 (asmC (grpN T k) (headN T k) ((k / 2:Nat):Int) (wgL T k) (wnL T k))),(39,num d),(40,compV ck cy),(41,.tuple [.own 1,num 0]),(42,.own 1),(43,num 0)]] [[some (.cells 76 [.raw (.slice none 0 0),flag false,.raw (.slice none 0 0)])],[some (.cells 76 [.raw (.slice none 0 0),flag false,.raw (.slice none 0 0)]),brow M]] [2,3,4,5,8,9,11] rfl (by kernel_rfl) (fun M hi ho=>?_)
   have μ0:M 0 32767 0 [2,3,4,5,8,12] 1:=hi<|WZ_end rfl (by kernel_rfl) (⟨rfl,keepT_sub (ks:=[2,3,4,5,8,12]) rfl⟩)
   have μ1:M 1 16383 0 [2,3,4,5,8,12,43] 1:=hi<|WZ_step [(14,32767)] rfl (by kernel_rfl)<|WZ_a (ho μ0) rfl rfl WZ_nil
   have μ2:M 2 8191 0 [2,3,4,5,8,42,43] 1:=hi<|WZ_step [(13,16383)] rfl (by kernel_rfl)<|WZ_a (ho μ1) rfl rfl WZ_nil
   have μ3:M 2 12287 0 [2,3,4,5,8,12,31] 1:=hi<|WZ_step [(12,16383)] rfl (by kernel_rfl)<|WZ_a (ho μ1) rfl rfl WZ_nil
   have μ4:M 3 4095 0 [2,3,4,5,8,31,42] 1:=hi<|WZ_step [(12,8191),(13,12287)] rfl (by kernel_rfl)<|WZ_a (ho μ2) rfl rfl<|WZ_a (ho μ3) rfl rfl WZ_nil
   have μ5:M 3 6143 0 [2,3,4,5,8,31,43] 1:=hi<|WZ_step [(11,8191)] rfl (by kernel_rfl)<|WZ_a (ho μ2) rfl rfl WZ_nil
   have μ6:M 4 2047 0 [2,3,4,5,8,31] 1:=hi<|WZ_step [(11,4095),(12,6143)] rfl (by kernel_rfl)<|WZ_a (ho μ4) rfl rfl<|WZ_a (ho μ5) rfl rfl WZ_nil
   have μ7:M 5 1023 0 [2,3,4,5,8,41] 1:=hi<|WZ_step [(10,2047)] rfl (by kernel_rfl)<|WZ_a (ho μ6) rfl rfl WZ_nil
   have μ8:M 6 511 0 [2,3,4,5,8,32,40] 0:=hi<|WZ_step [(9,1023)] rfl (by kernel_rfl)<|WZ_c rfl rfl rfl rfl (hmk _) (ho μ7) rfl rfl WZ_nil
   have μ9:M 7 255 0 [2,3,4,5,8,32,38,39] 0:=hi<|WZ_step [(8,511)] rfl (by kernel_rfl)<|WZ_v rfl rfl (y_c rfl (hcl)) rfl (ho μ8) rfl rfl WZ_nil
   have μ10:M 8 127 0 [2,3,4,5,8,32,38] 0:=hi<|WZ_step [(7,255)] rfl (by kernel_rfl)<|WZ_a (ho μ9) rfl rfl WZ_nil
   have μ11:M 8 191 0 [2,3,4,5,8,32,33,37,39] 0:=hi<|WZ_step [(6,255)] rfl (by kernel_rfl)<|WZ_v rfl rfl (y_c rfl (has)) rfl (ho μ9) rfl rfl WZ_nil
   have μ12:M 9 63 0 [2,3,4,5,8,32,33,37] 0:=hi<|WZ_step [(6,127),(7,191)] rfl (by kernel_rfl)<|WZ_v rfl rfl (y_c rfl (has)) rfl (ho μ10) rfl rfl<|WZ_a (ho μ11) rfl rfl WZ_nil
   have μ13:M 9 159 0 [2,3,4,5,8,32,33,36,39] 0:=hi<|WZ_step [(5,191)] rfl (by kernel_rfl)<|WZ_v rfl rfl (y_ld rfl ((ints_get l j hjl).trans (by rw[hkj]))) rfl (ho μ11) rfl rfl WZ_nil
   have μ14:M 10 31 0 [2,3,4,5,8,32,33,36] 0:=hi<|WZ_step [(5,63),(7,159)] rfl (by kernel_rfl)<|WZ_v rfl rfl (y_ld rfl ((ints_get l j hjl).trans (by rw[hkj]))) rfl (ho μ12) rfl rfl<|WZ_a (ho μ13) rfl rfl WZ_nil
   have μ15:M 10 143 0 [2,3,4,5,8,32,33,34,35,39] 0:=hi<|WZ_step [(4,159)] rfl (by kernel_rfl)<|WZ_v rfl rfl (y_ix (j) rfl) rfl (ho μ13) rfl rfl WZ_nil
   have μ16:M 11 15 0 [2,3,4,5,8,32,33,34,35] 0:=hi<|WZ_step [(4,31),(7,143)] rfl (by kernel_rfl)<|WZ_v rfl rfl (y_ix (j) rfl) rfl (ho μ14) rfl rfl<|WZ_a (ho μ15) rfl rfl WZ_nil
   have μ17:M 11 135 0 [2,3,4,5,8,11,32,33,34,39] 0:=hi<|WZ_step [(3,143)] rfl (by kernel_rfl)<|WZ_a (ho μ15) rfl rfl WZ_nil
   have μ18:M 12 7 0 [2,3,4,5,8,11,32,33,34] 0:=hi<|WZ_step [(3,15),(7,135)] rfl (by kernel_rfl)<|WZ_a (ho μ16) rfl rfl<|WZ_a (ho μ17) rfl rfl WZ_nil
   have μ19:M 11 139 0 [2,3,4,5,8,9,32,33,35,39] 0:=hi<|WZ_step [(2,143)] rfl (by kernel_rfl)<|WZ_a (ho μ15) rfl rfl WZ_nil
   have μ20:M 12 11 0 [2,3,4,5,8,9,32,33,35] 0:=hi<|WZ_step [(2,15),(7,139)] rfl (by kernel_rfl)<|WZ_a (ho μ16) rfl rfl<|WZ_a (ho μ19) rfl rfl WZ_nil
   have μ21:M 12 131 0 [2,3,4,5,8,9,11,32,33,39] 0:=hi<|WZ_step [(2,135),(3,139)] rfl (by kernel_rfl)<|WZ_a (ho μ17) rfl rfl<|WZ_a (ho μ19) rfl rfl WZ_nil
   have μ22:M 13 3 0 [2,3,4,5,8,9,11,32,33] 0:=hi<|WZ_step [(2,7),(3,11),(7,131)] rfl (by kernel_rfl)<|WZ_a (ho μ18) rfl rfl<|WZ_a (ho μ20) rfl rfl<|WZ_a (ho μ21) rfl rfl WZ_nil
   have μ23:M 9 189 0 [2,3,4,5,8,32,37,39] 0:=hi<|WZ_step [(1,191)] rfl (by kernel_rfl)<|WZ_a (ho μ11) rfl rfl WZ_nil
   have μ24:M 10 61 0 [2,3,4,5,8,32,37] 0:=hi<|WZ_step [(1,63),(7,189)] rfl (by kernel_rfl)<|WZ_a (ho μ12) rfl rfl<|WZ_a (ho μ23) rfl rfl WZ_nil
   have μ25:M 10 157 0 [2,3,4,5,8,32,36,39] 0:=hi<|WZ_step [(1,159),(5,189)] rfl (by kernel_rfl)<|WZ_a (ho μ13) rfl rfl<|WZ_v rfl rfl (y_ld rfl ((ints_get l j hjl).trans (by rw[hkj]))) rfl (ho μ23) rfl rfl WZ_nil
   have μ26:M 11 29 0 [2,3,4,5,8,32,36] 0:=hi<|WZ_step [(1,31),(5,61),(7,157)] rfl (by kernel_rfl)<|WZ_a (ho μ14) rfl rfl<|WZ_v rfl rfl (y_ld rfl ((ints_get l j hjl).trans (by rw[hkj]))) rfl (ho μ24) rfl rfl<|WZ_a (ho μ25) rfl rfl WZ_nil
   have μ27:M 11 141 0 [2,3,4,5,8,32,34,35,39] 0:=hi<|WZ_step [(1,143),(4,157)] rfl (by kernel_rfl)<|WZ_a (ho μ15) rfl rfl<|WZ_v rfl rfl (y_ix (j) rfl) rfl (ho μ25) rfl rfl WZ_nil
   have μ28:M 12 13 0 [2,3,4,5,8,32,34,35] 0:=hi<|WZ_step [(1,15),(4,29),(7,141)] rfl (by kernel_rfl)<|WZ_a (ho μ16) rfl rfl<|WZ_v rfl rfl (y_ix (j) rfl) rfl (ho μ26) rfl rfl<|WZ_a (ho μ27) rfl rfl WZ_nil
   have μ29:M 12 133 0 [2,3,4,5,8,11,32,34,39] 0:=hi<|WZ_step [(1,135),(3,141)] rfl (by kernel_rfl)<|WZ_a (ho μ17) rfl rfl<|WZ_a (ho μ27) rfl rfl WZ_nil
   have μ30:M 13 5 0 [2,3,4,5,8,11,32,34] 0:=hi<|WZ_step [(1,7),(3,13),(7,133)] rfl (by kernel_rfl)<|WZ_a (ho μ18) rfl rfl<|WZ_a (ho μ28) rfl rfl<|WZ_a (ho μ29) rfl rfl WZ_nil
   have μ31:M 12 137 0 [2,3,4,5,8,9,32,35,39] 0:=hi<|WZ_step [(1,139),(2,141)] rfl (by kernel_rfl)<|WZ_a (ho μ19) rfl rfl<|WZ_a (ho μ27) rfl rfl WZ_nil
   have μ32:M 13 9 0 [2,3,4,5,8,9,32,35] 0:=hi<|WZ_step [(1,11),(2,13),(7,137)] rfl (by kernel_rfl)<|WZ_a (ho μ20) rfl rfl<|WZ_a (ho μ28) rfl rfl<|WZ_a (ho μ31) rfl rfl WZ_nil
   have μ33:M 13 129 0 [2,3,4,5,8,9,11,32,39] 0:=hi<|WZ_step [(1,131),(2,133),(3,137)] rfl (by kernel_rfl)<|WZ_a (ho μ21) rfl rfl<|WZ_a (ho μ29) rfl rfl<|WZ_a (ho μ31) rfl rfl WZ_nil
   have μ34:M 14 1 0 [2,3,4,5,8,9,11,32] 0:=hi<|WZ_step [(1,3),(2,5),(3,9),(7,129)] rfl (by kernel_rfl)<|WZ_a (ho μ22) rfl rfl<|WZ_a (ho μ30) rfl rfl<|WZ_a (ho μ32) rfl rfl<|WZ_a (ho μ33) rfl rfl WZ_nil
   have μ35:M 7 510 0 [2,3,4,5,8,40] 0:=hi<|WZ_step [(0,511)] rfl (by kernel_rfl)<|WZ_a (ho μ8) rfl rfl WZ_nil
   have μ36:M 8 254 0 [2,3,4,5,8,38,39] 0:=hi<|WZ_step [(0,255),(8,510)] rfl (by kernel_rfl)<|WZ_a (ho μ9) rfl rfl<|WZ_v rfl rfl (y_c rfl (hcl)) rfl (ho μ35) rfl rfl WZ_nil
   have μ37:M 9 126 0 [2,3,4,5,8,38] 0:=hi<|WZ_step [(0,127),(7,254)] rfl (by kernel_rfl)<|WZ_a (ho μ10) rfl rfl<|WZ_a (ho μ36) rfl rfl WZ_nil
   have μ38:M 9 190 0 [2,3,4,5,8,33,37,39] 0:=hi<|WZ_step [(0,191),(6,254)] rfl (by kernel_rfl)<|WZ_a (ho μ11) rfl rfl<|WZ_v rfl rfl (y_c rfl (has)) rfl (ho μ36) rfl rfl WZ_nil
   have μ39:M 10 62 0 [2,3,4,5,8,33,37] 0:=hi<|WZ_step [(0,63),(6,126),(7,190)] rfl (by kernel_rfl)<|WZ_a (ho μ12) rfl rfl<|WZ_v rfl rfl (y_c rfl (has)) rfl (ho μ37) rfl rfl<|WZ_a (ho μ38) rfl rfl WZ_nil
   have μ40:M 10 158 0 [2,3,4,5,8,33,36,39] 0:=hi<|WZ_step [(0,159),(5,190)] rfl (by kernel_rfl)<|WZ_a (ho μ13) rfl rfl<|WZ_v rfl rfl (y_ld rfl ((ints_get l j hjl).trans (by rw[hkj]))) rfl (ho μ38) rfl rfl WZ_nil
   have μ41:M 11 30 0 [2,3,4,5,8,33,36] 0:=hi<|WZ_step [(0,31),(5,62),(7,158)] rfl (by kernel_rfl)<|WZ_a (ho μ14) rfl rfl<|WZ_v rfl rfl (y_ld rfl ((ints_get l j hjl).trans (by rw[hkj]))) rfl (ho μ39) rfl rfl<|WZ_a (ho μ40) rfl rfl WZ_nil
   have μ42:M 11 142 0 [2,3,4,5,8,33,34,35,39] 0:=hi<|WZ_step [(0,143),(4,158)] rfl (by kernel_rfl)<|WZ_a (ho μ15) rfl rfl<|WZ_v rfl rfl (y_ix (j) rfl) rfl (ho μ40) rfl rfl WZ_nil
   have μ43:M 12 14 0 [2,3,4,5,8,33,34,35] 0:=hi<|WZ_step [(0,15),(4,30),(7,142)] rfl (by kernel_rfl)<|WZ_a (ho μ16) rfl rfl<|WZ_v rfl rfl (y_ix (j) rfl) rfl (ho μ41) rfl rfl<|WZ_a (ho μ42) rfl rfl WZ_nil
   have μ44:M 12 134 0 [2,3,4,5,8,11,33,34,39] 0:=hi<|WZ_step [(0,135),(3,142)] rfl (by kernel_rfl)<|WZ_a (ho μ17) rfl rfl<|WZ_a (ho μ42) rfl rfl WZ_nil
   have μ45:M 13 6 0 [2,3,4,5,8,11,33,34] 0:=hi<|WZ_step [(0,7),(3,14),(7,134)] rfl (by kernel_rfl)<|WZ_a (ho μ18) rfl rfl<|WZ_a (ho μ43) rfl rfl<|WZ_a (ho μ44) rfl rfl WZ_nil
   have μ46:M 12 138 0 [2,3,4,5,8,9,33,35,39] 0:=hi<|WZ_step [(0,139),(2,142)] rfl (by kernel_rfl)<|WZ_a (ho μ19) rfl rfl<|WZ_a (ho μ42) rfl rfl WZ_nil
   have μ47:M 13 10 0 [2,3,4,5,8,9,33,35] 0:=hi<|WZ_step [(0,11),(2,14),(7,138)] rfl (by kernel_rfl)<|WZ_a (ho μ20) rfl rfl<|WZ_a (ho μ43) rfl rfl<|WZ_a (ho μ46) rfl rfl WZ_nil
   have μ48:M 13 130 0 [2,3,4,5,8,9,11,33,39] 0:=hi<|WZ_step [(0,131),(2,134),(3,138)] rfl (by kernel_rfl)<|WZ_a (ho μ21) rfl rfl<|WZ_a (ho μ44) rfl rfl<|WZ_a (ho μ46) rfl rfl WZ_nil
   have μ49:M 14 2 0 [2,3,4,5,8,9,11,33] 0:=hi<|WZ_step [(0,3),(2,6),(3,10),(7,130)] rfl (by kernel_rfl)<|WZ_a (ho μ22) rfl rfl<|WZ_a (ho μ45) rfl rfl<|WZ_a (ho μ47) rfl rfl<|WZ_a (ho μ48) rfl rfl WZ_nil
   have μ50:M 10 188 0 [2,3,4,5,8,37,39] 0:=hi<|WZ_step [(0,189),(1,190)] rfl (by kernel_rfl)<|WZ_a (ho μ23) rfl rfl<|WZ_a (ho μ38) rfl rfl WZ_nil
   have μ51:M 11 60 0 [2,3,4,5,8,37] 0:=hi<|WZ_step [(0,61),(1,62),(7,188)] rfl (by kernel_rfl)<|WZ_a (ho μ24) rfl rfl<|WZ_a (ho μ39) rfl rfl<|WZ_a (ho μ50) rfl rfl WZ_nil
   have μ52:M 11 156 0 [2,3,4,5,8,36,39] 0:=hi<|WZ_step [(0,157),(1,158),(5,188)] rfl (by kernel_rfl)<|WZ_a (ho μ25) rfl rfl<|WZ_a (ho μ40) rfl rfl<|WZ_v rfl rfl (y_ld rfl ((ints_get l j hjl).trans (by rw[hkj]))) rfl (ho μ50) rfl rfl WZ_nil
   have μ53:M 12 28 0 [2,3,4,5,8,36] 0:=hi<|WZ_step [(0,29),(1,30),(5,60),(7,156)] rfl (by kernel_rfl)<|WZ_a (ho μ26) rfl rfl<|WZ_a (ho μ41) rfl rfl<|WZ_v rfl rfl (y_ld rfl ((ints_get l j hjl).trans (by rw[hkj]))) rfl (ho μ51) rfl rfl<|WZ_a (ho μ52) rfl rfl WZ_nil
   have μ54:M 12 140 0 [2,3,4,5,8,34,35,39] 0:=hi<|WZ_step [(0,141),(1,142),(4,156)] rfl (by kernel_rfl)<|WZ_a (ho μ27) rfl rfl<|WZ_a (ho μ42) rfl rfl<|WZ_v rfl rfl (y_ix (j) rfl) rfl (ho μ52) rfl rfl WZ_nil
   have μ55:M 13 12 0 [2,3,4,5,8,34,35] 0:=hi<|WZ_step [(0,13),(1,14),(4,28),(7,140)] rfl (by kernel_rfl)<|WZ_a (ho μ28) rfl rfl<|WZ_a (ho μ43) rfl rfl<|WZ_v rfl rfl (y_ix (j) rfl) rfl (ho μ53) rfl rfl<|WZ_a (ho μ54) rfl rfl WZ_nil
   have μ56:M 13 132 0 [2,3,4,5,8,11,34,39] 0:=hi<|WZ_step [(0,133),(1,134),(3,140)] rfl (by kernel_rfl)<|WZ_a (ho μ29) rfl rfl<|WZ_a (ho μ44) rfl rfl<|WZ_a (ho μ54) rfl rfl WZ_nil
   have μ57:M 14 4 0 [2,3,4,5,8,11,34] 0:=hi<|WZ_step [(0,5),(1,6),(3,12),(7,132)] rfl (by kernel_rfl)<|WZ_a (ho μ30) rfl rfl<|WZ_a (ho μ45) rfl rfl<|WZ_a (ho μ55) rfl rfl<|WZ_a (ho μ56) rfl rfl WZ_nil
   have μ58:M 13 136 0 [2,3,4,5,8,9,35,39] 0:=hi<|WZ_step [(0,137),(1,138),(2,140)] rfl (by kernel_rfl)<|WZ_a (ho μ31) rfl rfl<|WZ_a (ho μ46) rfl rfl<|WZ_a (ho μ54) rfl rfl WZ_nil
   have μ59:M 14 8 0 [2,3,4,5,8,9,35] 0:=hi<|WZ_step [(0,9),(1,10),(2,12),(7,136)] rfl (by kernel_rfl)<|WZ_a (ho μ32) rfl rfl<|WZ_a (ho μ47) rfl rfl<|WZ_a (ho μ55) rfl rfl<|WZ_a (ho μ58) rfl rfl WZ_nil
   have μ60:M 14 128 0 [2,3,4,5,8,9,11,39] 0:=hi<|WZ_step [(0,129),(1,130),(2,132),(3,136)] rfl (by kernel_rfl)<|WZ_a (ho μ33) rfl rfl<|WZ_a (ho μ48) rfl rfl<|WZ_a (ho μ56) rfl rfl<|WZ_a (ho μ58) rfl rfl WZ_nil
   have μ61:M 15 0 0 [2,3,4,5,8,9,11] 0:=hi<|WZ_step [(0,1),(1,2),(2,4),(3,8),(7,128)] rfl (by kernel_rfl)<|WZ_a (ho μ34) rfl rfl<|WZ_a (ho μ49) rfl rfl<|WZ_a (ho μ57) rfl rfl<|WZ_a (ho μ59) rfl rfl<|WZ_a (ho μ60) rfl rfl WZ_nil
   exact μ61
  refine W_seq ?_
  refine W_cs (.a 3 rfl<|.k [2,3,4,5,8,12,45,46] rfl) ?_
  refine W_sto (σ':=[some (.cells 76 [.raw (.slice none 0 0),flag false,.raw (.slice none 0 0)]),brow (orTo T M own 0)]) (by rw[orTo_zero hMl]) ?_
  refine W_block ?_
  refine W_k [2,3,4,5,8,12,45,46] rfl ?_
  refine W_loop (fun r s=>∃a,a≤2*T.links.length∧r=2*T.links.length - a∧s=⟨[(2,num n),(3,num d),(4,.pin (topoP T) 0),(5,.pin [boolsV own] 0),(8,.ptr 0 0),(12,.own 1),(45,num M.length),(46,num a)],[some (.cells 76 [.raw (.slice none 0 0),flag false,.raw (.slice none 0 0)]),brow (orTo T M own a)]⟩) (2*T.links.length) ⟨0,by omega,by omega,rfl⟩ ?_
  rintro r s ⟨a,ha2,rfl,rfl⟩
  have hol:=orTo_len T M own a
  refine W_cs (.a 1 rfl<|.k [2,3,4,5,8,12,45,46,47] rfl) ?_
  refine W_seq ?_
  refine W_cond rfl (fun h4=>?_) (fun h4=>?_)
  ·have hlt:a<2*T.links.length:=by have:=tt h4;omega
   have hst:=orTo_step T M own a
   have hat:=orTo_at (T:=T) (D:=M) (E:=own) hlt
   clear h4
   refine W_skip ?_
   refine W_seq ?_
   refine W_block ?_
   refine W_cs (.a 2 rfl<|.k [2,3,4,5,8,12,14,45,46] rfl) ?_
   obtain⟨c1,hc1⟩:∃q,downN M a=q:=⟨_,rfl⟩
   obtain⟨c2,hc2⟩:∃q,downN own a=q:=⟨_,rfl⟩
   rw[hc1,hc2]at hst
   rw[hc1]at hat
   refine W_midM (Q1:=fun st=>st=⟨[(2,num n),(3,num d),(4,.pin (topoP T) 0),(5,.pin [boolsV own] 0),(8,.ptr 0 0),(12,.own 1),(45,num M.length),(46,num a)],[some (.cells 76 [.raw (.slice none 0 0),flag false,.raw (.slice none 0 0)]),brow (orTo T M own (a+1))]⟩) ?_ ?_
   ·cases c1
    ·refine W_region ?_
     refine WR_a 4 rfl<|WR_v (y_ix (a) rfl) rfl<|WR_v (y_ld rfl ((show(boolsP (orTo T M own a))[a]? =some (flag false) by rw[bools_getP _ a (by omega),hat]))) rfl<|WR_a 3 rfl<|WR_v (y_ix (a) rfl) rfl<|WR_v (y_ld rfl ((show(boolsP own)[a]? =some (flag c2) by rw[bools_getP _ a (by omega),downN_get,hc2]))) rfl<|WR_a 1 rfl<|WR_v (y_ix (a) rfl) rfl<|WR_loud0 ((by first|exact l_storeInts rfl (fok.tk.get rfl) rfl rfl rfl (by first|omega|(simp;omega))|exact l_storeBools rfl (fok.tk.get rfl) rfl rfl rfl (by first|omega|(simp;omega)))) rfl rfl<|WR_k [2,3,4,5,8,12,45,46] rfl ?_
     rw[←hst]
     unfold brow
     rw[List.length_set]
     rfl
    ·refine W_region ?_
     refine WR_a 4 rfl<|WR_v (y_ix (a) rfl) rfl<|WR_v (y_ld rfl ((show(boolsP (orTo T M own a))[a]? =some (flag true) by rw[bools_getP _ a (by omega),hat]))) rfl<|WR_a 6 rfl<|WR_v (y_ix (a) rfl) rfl<|WR_loud0 ((by first|exact l_storeInts rfl (fok.tk.get rfl) rfl rfl rfl (by first|omega|(simp;omega))|exact l_storeBools rfl (fok.tk.get rfl) rfl rfl rfl (by first|omega|(simp;omega)))) rfl rfl<|WR_k [2,3,4,5,8,12,45,46] rfl ?_
     rw[←hst]
     unfold brow
     rw[List.length_set]
     rfl
   rintro _ rfl
   refine W_chain (.v (y_ar rfl) rfl<|.a 1 rfl<|.k [2,3,4,5,8,12,45,46] rfl) ?_
   exact⟨2*T.links.length - (a+1),by omega,a+1,by omega,rfl,rfl⟩
  ·have hae:a=2*T.links.length:=by have:=ff h4;omega
   subst hae
   rw[orTo_all]
   clear h4
   refine W_exit ?_
   refine W_seq ?_
   refine W_seal 12 1 rfl rfl ?_
   refine W_ren [0] (.c 2<|.c 3<|.c 4<|.c 5<|.c 8<|.c 12<|.nil) (.kept rfl (.cells (RenL.c<|RenL.c<|RenL.c<|RenL.nil))<|.nil) rfl rfl ?_
   obtain⟨q,hq⟩:∃q,rchB T (orM T M own) n d=q:=⟨_,rfl⟩
   rw[hq]at hmx
   refine W_cs (.a 4 rfl<|.c rfl (hq▸preach_can T (orM T M own) n d) rfl<|.a 1 rfl<|.k [2,3,4,5,8,12,68] rfl) ?_
   refine W_cond rfl (fun h5=>?_) (fun h5=>?_)
   ·have h5:q=false:=by simpa using h5
    rw[h5,if_neg (by simp)]at hmx
    rw[hmx]at hre ⊢
    refine W_chain (.a 2 rfl<|.k [2,3,4,8,12] rfl) ?_
    refine W_rs ?_
    refine WR_a 4 rfl<|WR_c rfl (hre) rfl<|WR_a 6 rfl<|WR_k [8,15] rfl ?_
    refine W_rs ?_
    refine WR_a 2 rfl<|WR_k [8] rfl ?_
    refine W_ret ?_
    exact⟨_,_,ResL.of rfl,Pur.pure (p:=entV _),rfl⟩
   ·have h5:q=true:=by simpa using h5
    rw[h5,if_pos rfl]at hmx
    rw[hmx]at hre ⊢
    refine W_skip ?_
    refine W_rs ?_
    refine WR_a 4 rfl<|WR_c rfl (hre) rfl<|WR_a 6 rfl<|WR_k [8,15] rfl ?_
    refine W_rs ?_
    refine WR_a 2 rfl<|WR_k [8] rfl ?_
    refine W_ret ?_
    exact⟨_,_,ResL.of rfl,Pur.pure (p:=entV _),rfl⟩
def detT (T:Topo) (M:List Bool) (o:List Int) (i:Nat):List Bool:=(List.range (2*T.links.length)).map fun(b:Nat)=>decide ((b:Int)∈o.take i)&&downN M b
theorem detT_len (T:Topo) (M:List Bool) (o:List Int) (i:Nat):(detT T M o i).length=2*T.links.length:=by simp[detT]
theorem detT_get {T:Topo} {M:List Bool} {o:List Int} {i b:Nat} (h:b<(detT T M o i).length):(detT T M o i)[b]=(decide ((b:Int)∈o.take i)&&downN M b):=by simp[detT]
theorem detT_zero (T:Topo) (M:List Bool) (o:List Int):detT T M o 0=List.replicate (2*T.links.length) false:=by
 apply List.ext_getElem (by simp[detT])
 intro i h1 h2
 rw[detT_get]
 simp
theorem detT_step {T:Topo} {M:List Bool} {o:List Int} {i k:Nat} (hi:i<o.length) (hk:o.getD i 0=(k:Int)) (hkl:k<2*T.links.length):detT T M o (i+1)=if downN M k then(detT T M o i).set k true else detT T M o i:=by
 have hmem:∀b:Nat,((b:Int)∈o.take (i+1))↔((b:Int)∈o.take i∨b=k):=fun b=>by
  rw[take_step o i 0 hi,List.mem_append,List.mem_singleton,hk]
  exact⟨fun h=>h.imp id (fun e=>by omega),fun h=>h.imp id (fun e=>by omega)⟩
 split
 ·rename_i hd
  apply List.ext_getElem (by simp[detT])
  intro b h1 h2
  rw[detT_get,List.getElem_set]
  by_cases e:k=b
  ·subst e
   rw[if_pos rfl,decide_eq_true ((hmem k).2 (.inr rfl)),hd]
   rfl
  ·rw[if_neg e,detT_get]
   congr 1
   exact decide_eq_decide.2 ((hmem b).trans ⟨fun h=>h.resolve_right (fun e'=>e e'.symm),.inl⟩)
 ·rename_i hd
  unfold detT
  refine List.map_congr_left fun b _=>?_
  by_cases e:b=k
  ·subst e
   rw[Bool.eq_false_iff.2 hd]
   simp
  ·congr 1
   exact decide_eq_decide.2 ((hmem b).trans ⟨fun h=>h.resolve_right e,.inl⟩)
theorem detT_all (T:Topo) (M:List Bool) (n:Int):detT T M (outL T n) (outL T n).length=ownM T M n:=by
 unfold detT ownM
 refine List.map_congr_left fun b hb=>?_
 have hb:=List.mem_range.1 hb
 rw[List.take_length,Bool.and_comm]
 congr 1
 refine decide_eq_decide.2 (outL_iff.trans ⟨fun h=>by have:=h.2;rwa [Int.toNat_natCast]at this,fun h=>⟨arcB_iff.2 (by omega),by rw[Int.toNat_natCast];exact h⟩⟩)
set_option maxRecDepth 10000 in
set_option maxHeartbeats 2000000 in
theorem prtab_can (T:Topo) (k x n:Int) (h12:T.nodes≤12):Can Tryz.prog 55 [topoV T,compV k x,num n] (· =tabE (if maskE T k x=0 then(if nodeB T n then 0 else 2) else 1) (repT T (maskL T k x) n.toNat)):=by
 have hmk:=mask_can T k x
 unfold boolsE at hmk
 refine can_of Tryz.func55 rfl Tryz.ntmps55 rfl ?_
 refine W_rs ?_
 refine WR_a 4 rfl<|WR_k [2,3,4,6] rfl ?_
 refine W_cs (.a 2 rfl<|.c rfl (hmk) rfl<|.a 5 rfl<|.k [2,3,6,8,9] rfl) ?_
 refine W_seq ?_
 refine W_cs (.a 2 rfl<|.k [2,3,6,8,9,22] rfl) ?_
 refine W_cond rfl (fun h1=>?_) (fun h1=>?_)
 ·have h1:=tt h1
  rw[if_neg h1]
  have h1':=mask_one h1
  rw[h1']
  refine W_rs ?_
  refine WR_a 4 rfl<|WR_k [6,7] rfl ?_
  refine W_ret ?_
  exact⟨_,_,ResL.of rfl,Pur.tupleL (PurL.cons (Pur.aggL (PurL.cons Pur.pure<|PurL.cons Pur.nils<|PurL.cons Pur.nils PurL.nil)) (PurL.cons Pur.pure PurL.nil)),rfl⟩
 ·have h1:maskE T k x=0:=Classical.byContradiction (ff h1)
  obtain⟨hv,hc⟩:=Bool.and_eq_true_iff.1 (mask_zero h1)
  rw[if_pos h1,if_pos h1]
  have hll:=links_le hv
  refine W_skip ?_
  refine W_seq ?_
  refine W_cs (.a 2 rfl<|.c rfl (node_can T n) rfl<|.a 1 rfl<|.k [2,3,6,8,28] rfl) ?_
  refine W_cond rfl (fun h2=>?_) (fun h2=>?_)
  ·have hn:nodeB T n=false:=by simpa using h2
   rw[hn]
   refine W_rs ?_
   refine WR_a 3 rfl<|WR_k [6,7] rfl ?_
   refine W_ret ?_
   exact⟨_,_,ResL.of rfl,Pur.tupleL (PurL.cons (Pur.aggL (PurL.cons Pur.pure<|PurL.cons Pur.nils<|PurL.cons Pur.nils PurL.nil)) (PurL.cons Pur.pure PurL.nil)),rfl⟩
  ·have hn:nodeB T n=true:=by simpa using h2
   rw[hn,if_pos rfl]
   rw[nodeB_iff]at hn
   obtain⟨m,rfl⟩:=Int.eq_ofNat_of_zero_le hn.1
   rw[Int.toNat_natCast]
   obtain⟨N,hN⟩:∃N:Nat,T.nodes=(N:Int):=⟨T.nodes.toNat,by omega⟩
   have hMl:=maskL_len T k x
   obtain⟨M,hM⟩:∃M,maskL T k x=M:=⟨_,rfl⟩
   rw[hM]at hMl ⊢
   have hol:(outL T m).length≤512:=Nat.le_trans (outTo_len T m _) (by omega)
   clear h2 hmk
   refine W_skip ?_
   refine W_rs ?_
   refine WR_a 4 rfl<|WR_k [2,3,6,8,10] rfl ?_
   refine W_adoptCell 1 1 76 3 rfl rfl ?_
   refine W_adoptCell 1 2 3 1 rfl rfl ?_
   refine W_rs ?_
   refine WR_a 1 rfl<|WR_c rfl (arcs_can T (by omega)) rfl<|WR_l (l_make rfl (fok.rk.get rfl) rfl rfl (show 2*(T.links.length:Int)=((2*T.links.length:Nat):Int) by omega) (show 2*(T.links.length:Int)=((2*T.links.length:Nat):Int) by omega) ⟨by unfold maxLen;omega,by omega⟩) rfl<|WR_a 1 rfl<|WR_k [2,3,6,8,10,11] rfl ?_
   refine W_seq ?_
   refine W_cs (.a 2 rfl<|.c rfl (out_can T hll _) rfl<|.a 2 rfl<|.k [2,3,6,8,10,11,37,38,39] rfl) ?_
   refine W_block ?_
   refine W_k [2,3,6,8,10,11,37,38,39] rfl ?_
   refine W_sto (σ':=[some (.cells 56 [num 0,.raw (.slice none 0 0),.raw (.slice none 0 0)]),some (.cells 56 [num m,.own 2,.own 3]),some (.row 76 3 0 []),some (.row 3 1 0 []),some (.row 4 1 (2*T.links.length) (boolsP (detT T M (outL T m) 0)))]) (by rw[detT_zero,←zeros_bools];rfl) ?_
   refine W_loop (fun r s=>∃i,i≤(outL T m).length∧r=(outL T m).length - i∧s=⟨[(2,num m),(3,.pin (topoP T) 0),(6,.ptr 0 0),(8,boolsV M),(10,.ptr 1 0),(11,.own 4),(37,intsV (outL T m)),(38,num (outL T m).length),(39,num i)],[some (.cells 56 [num 0,.raw (.slice none 0 0),.raw (.slice none 0 0)]),some (.cells 56 [num m,.own 2,.own 3]),some (.row 76 3 0 []),some (.row 3 1 (downL M ((outL T m).take i)).length (intsP (downL M ((outL T m).take i)))),some (.row 4 1 (2*T.links.length) (boolsP (detT T M (outL T m) i)))]⟩) (outL T m).length ⟨0,by omega,by omega,rfl⟩ ?_
   rintro r s ⟨i,hi,rfl,rfl⟩
   skip
   refine W_cs (.a 1 rfl<|.k [2,3,6,8,10,11,37,38,39,40] rfl) ?_
   refine W_seq ?_
   refine W_cond rfl (fun h3=>?_) (fun h3=>?_)
   ·have hlt:i<(outL T m).length:=by have:=tt h3;omega
    obtain⟨a0,a1⟩:=outL_mem (getD_mem (d:=0) hlt)
    obtain⟨a,ha⟩:=Int.eq_ofNat_of_zero_le a0
    have hal:a<2*T.links.length:=by omega
    have hstep:downL M ((outL T m).take (i+1))=downL M ((outL T m).take i)++(if downN M a then [(a:Int)] else []):=by
     unfold downL
     rw[take_step _ i 0 hlt,List.filter_append,ha]
     simp only[List.filter_cons,List.filter_nil,Int.toNat_natCast]
    have hdl:(downL M ((outL T m).take i)).length≤1000:=Nat.le_trans (List.length_filter_le _ _) (by rw[List.length_take];omega)
    have hds:=detT_step (T:=T) (M:=M) hlt ha hal
    have hdn:=detT_len T M (outL T m) i
    obtain⟨q,hq⟩:∃q,downN M a=q:=⟨_,rfl⟩
    rw[hq]at hstep hds
    clear h3
    refine W_skip ?_
    refine W_seq ?_
    refine W_block ?_
    refine W_cs (.v (y_ix (i) rfl) rfl<|.v (y_ld rfl ((ints_get _ i hlt).trans (by rw[ha]))) rfl<|.a 1 rfl<|.k [2,3,6,8,10,11,13,37,38,39] rfl) ?_
    refine W_cs (.a 2 rfl<|.v (y_ix (a) rfl) rfl<|.v (y_ld rfl ((show(boolsP M)[a]? =some (flag q) by rw[bools_getP _ a (by omega),downN_get,hq]))) rfl<|.k [2,3,6,8,10,11,13,37,38,39,46] rfl) ?_
    refine W_cond rfl (fun h4=>?_) (fun h4=>?_)
    ·subst h4
     rw[if_pos rfl]at hstep hds
     refine W_rs ?_
     refine WR_a 2 rfl<|WR_v (y_ix (a) rfl) rfl<|WR_loud0 ((by first|exact l_storeInts rfl (fok.tk.get rfl) rfl rfl rfl (by first|omega|(simp;omega))|exact l_storeBools rfl (fok.tk.get rfl) rfl rfl rfl (by first|omega|(simp;omega)))) rfl rfl<|WR_k [2,3,6,8,10,11,13,37,38,39] rfl ?_
     refine W_region ?_
     refine WR_a 4 rfl<|WR_l (l_append rfl (fok.rk.get rfl) rfl rfl rfl rfl (by unfold maxLen;omega)) rfl<|WR_a 2 rfl ?_
     refine WR_ren [0,1,2,5,4] (.c 2<|.c 3<|.c 6<|.c 8<|.c 10<|.c 11<|.c 37<|.c 38<|.c 39<|.nil) (.kept rfl (.cells (RenL.c<|RenL.c<|RenL.c<|RenL.nil))<|.kept rfl (.cells (RenL.c<|RenL.c<|RenL.c<|RenL.nil))<|.kept rfl (.row RenL.pure)<|.kept rfl (.rowP rfl (intsP_snoc _ _))<|.kept rfl (.row RenL.pure)<|.nil) rfl rfl (WR_nil ?_)
     refine W_chain (.v (y_ar rfl) rfl<|.a 1 rfl<|.k [2,3,6,8,10,11,37,38,39] rfl) ?_
     refine⟨(outL T m).length - (i+1),by omega,i+1,by omega,rfl,?_⟩
     rw[hstep,hds]
     first
      |rfl
      |(simp only[List.length_append,List.length_singleton];rfl)
    ·subst h4
     rw[if_neg (by simp),List.append_nil]at hstep
     rw[if_neg (by simp)]at hds
     refine W_skip ?_
     refine W_chain (.v (y_ar rfl) rfl<|.a 1 rfl<|.k [2,3,6,8,10,11,37,38,39] rfl) ?_
     refine⟨(outL T m).length - (i+1),by omega,i+1,by omega,rfl,?_⟩
     rw[hstep,hds]
     first
      |rfl
      |(simp only[List.length_append,List.length_singleton];rfl)
   ·have hie:i=(outL T m).length:=by have:=ff h3;omega
    subst hie
    rw[detT_all,List.take_length]
    clear h3
    refine W_exit ?_
    refine W_seq ?_
    have hown:(ownM T M m).length=2*T.links.length:=by simp[ownM]
    unfold repT
    obtain⟨own,howe⟩:∃own,ownM T M m=own:=⟨_,rfl⟩
    rw[howe]at hown ⊢
    obtain⟨dl,hdl⟩:∃dl,downL M (outL T m)=dl:=⟨_,rfl⟩
    rw[hdl]
    refine W_ren [0,1,2,3,4] (.c 2<|.c 3<|.c 6<|.c 10<|.c 11<|.nil) (.kept rfl (.cells (RenL.c<|RenL.c<|RenL.c<|RenL.nil))<|.kept rfl (.cells (RenL.c<|RenL.c<|RenL.c<|RenL.nil))<|.kept rfl (.row RenL.pure)<|.kept rfl (.row RenL.pure)<|.kept rfl (.rowP (show 2*T.links.length=own.length by omega) rfl)<|.nil) rfl rfl ?_
    refine W_seal 11 4 rfl rfl ?_
    refine W_ren [0,1,2,3] (.c 2<|.c 3<|.c 6<|.c 10<|.c 11<|.nil) (.kept rfl (.cells (RenL.c<|RenL.c<|RenL.c<|RenL.nil))<|.kept rfl (.cells (RenL.c<|RenL.c<|RenL.c<|RenL.nil))<|.kept rfl (.row RenL.pure)<|.kept rfl (.row RenL.pure)<|.nil) rfl rfl ?_
    refine W_cs (.a 1 rfl<|.v (y_ld rfl ((show some (num T.nodes)=some (num (N:Int)) by rw[hN]))) rfl<|.a 1 rfl<|.k [2,3,6,10,11,58,59] rfl) ?_
    refine W_block ?_
    refine W_k [2,3,6,10,11,58,59] rfl ?_
    refine W_loop (fun r s=>∃j,j≤N∧r=N - j∧s=⟨[(2,num m),(3,.pin (topoP T) 0),(6,.ptr 0 0),(10,.ptr 1 0),(11,boolsV own),(58,num N),(59,num j)],[some (.cells 56 [num 0,.raw (.slice none 0 0),.raw (.slice none 0 0)]),some (.cells 56 [num m,.own 2,.own 3]),some (.row 76 3 j (entsP (repL T own m j))),some (.row 3 1 dl.length (intsP dl))]⟩) N ⟨0,by omega,by omega,rfl⟩ ?_
    rintro r s ⟨j,hj,rfl,rfl⟩
    refine W_cs (.a 1 rfl<|.k [2,3,6,10,11,58,59,60] rfl) ?_
    refine W_seq ?_
    refine W_cond rfl (fun h3=>?_) (fun h3=>?_)
    ·have hlt:j<N:=by have:=tt h3;omega
     have hre:=prep_can T own m j hv hown hn.2 (by omega) h12
     refine W_skip ?_
     refine W_seq ?_
     refine W_block ?_
     refine W_cs (.a 2 rfl<|.k [2,3,6,10,11,14,58,59] rfl) ?_
     refine W_drawFlt 8 20 mixed (
      .val [10] rfl (y_a rfl) rfl rfl<|
      .val [62] rfl (y_a rfl) rfl rfl<|
      .val [3] rfl (y_a rfl) rfl rfl<|
      .val [11] rfl (y_a rfl) rfl rfl<|
      .val [2] rfl (y_a rfl) rfl rfl<|
      .val [14] rfl (y_a rfl) rfl rfl<|
      .val [64,65,66,67] rfl (y_c rfl (hre)) rfl rfl<|
      .val [68] rfl (y_a rfl) rfl rfl<|
      .nil) (by kernel_rfl) rfl rfl (keepT_sub (ks:=[2,3,6,10,11,58,59,63,69]) rfl) ?_
     refine WR_l (l_append rfl (fok.rk.get rfl) rfl rfl rfl rfl (by unfold maxLen;omega)) rfl<|WR_a 2 rfl ?_
     refine WR_ren [0,1,4,3] (.c 2<|.c 3<|.c 6<|.c 10<|.c 11<|.c 58<|.c 59<|.nil) (.kept rfl (.cells (RenL.c<|RenL.c<|RenL.c<|RenL.nil))<|.kept rfl (.cells (RenL.c<|RenL.c<|RenL.c<|RenL.nil))<|.kept rfl (.rowP rfl (show _=entsP (repL T own m (j+1)) by rw[repL_step];exact entsP_snoc _ _))<|.kept rfl (.row RenL.pure)<|.nil) rfl rfl (WR_nil ?_)
     refine W_chain (.v (y_ar rfl) rfl<|.a 1 rfl<|.k [2,3,6,10,11,58,59] rfl) ?_
     exact⟨N - (j+1),by omega,j+1,by omega,rfl,rfl⟩
    ·have hje:j=N:=by have:=ff h3;omega
     subst hje
     refine W_exit ?_
     refine W_rs ?_
     refine WR_v (y_loadPtrAgg (ys:=[num m,.own 2,.own 3]) rfl (fok.tk.get rfl) rfl rfl rfl rfl) rfl<|WR_a 2 rfl<|WR_k [6,7] rfl ?_
     refine W_ret ?_
     refine⟨_,_,ResL.of rfl,Pur.tupleL (PurL.cons (Pur.aggL (PurL.cons Pur.pure<|PurL.cons (Pur.ownL rfl PurL.pure)<|PurL.cons (Pur.ownL rfl PurL.pure) PurL.nil)) (PurL.cons Pur.pure PurL.nil)),?_⟩
     unfold tabE tabV tabP entsV intsV
     rw[if_pos rfl,repL_len,show T.nodes.toNat=j by omega]
end PW
end Go.Proofs.YtnegbdpggideiaaGreatDoor

namespace Go.Proofs.YtnegbdpggideiaaGreatDoor
set_option linter.unusedVariables false
set_option linter.unusedSimpArgs false
namespace PW
open Go.RowKit Reg Mem Net Rng
namespace Cmp
def relax (T:Topo) (D:List Bool) (d:Nat) (L:List Int) (a:Nat):List Int:=
 if(!downN D a)&&decide (0≤L.getD (headN T a).toNat 0)&&(decide (headN T a=(d:Int))|| !overN T (headN T a).toNat)&&(decide (L.getD (tailN T a).toNat 0<0)||decide (L.getD (headN T a).toNat 0+costN T a<L.getD (tailN T a).toNat 0))
 then L.set (tailN T a).toNat (L.getD (headN T a).toNat 0+costN T a) else L
def dC (T:Topo) (D:List Bool) (d:Nat):List Int:=(List.range T.nodes.toNat).foldl (fun L _=>(List.range (2*T.links.length)).foldl (relax T D d) L) ((List.replicate T.nodes.toNat (-1)).set d 0)
def wayC (T:Topo) (D:List Bool) (n:Nat) (out:List Int) (a:Nat):Bool:= !downN D a&&decide (0≤at' out (arcY T false a))&&(decide (arcY T false a=(n:Int))|| !overN T (arcY T false a).toNat)
def chkD (T:Topo) (D:List Bool) (n:Nat) (out:List Int):Bool:=
 decide (out.length=T.nodes.toNat)&&decide (at' out (n:Int)=0)&&(List.range T.nodes.toNat).all (fun x=>decide (-1≤at' out (x:Int)))&&
 (List.range (2*T.links.length)).all (fun a=> !wayC T D n out a||(decide (0≤at' out (arcX T false a))&&decide (at' out (arcX T false a)≤at' out (arcY T false a)+costN T a)))&&
 (List.range T.nodes.toNat).all (fun x=>decide (x=n)||decide (at' out (x:Int)<0)||(List.range (2*T.links.length)).any fun a=>decide (arcX T false a=(x:Int))&&wayC T D n out a&&decide (at' out (x:Int)=at' out (arcY T false a)+costN T a))
def chk (T:Topo) (D:List Bool):Bool:=(List.range T.nodes.toNat).all fun d=>chkD T D d (dC T D d)
theorem way_iff (T:Topo) (D:List Bool) (n:Nat) (out:List Int) (a:Nat):Net.Way T D n false out a↔wayC T D n out a=true:=by
 unfold Net.Way wayC
 simp[and_assoc]
theorem dist_of {T:Topo} {D:List Bool} (hv:validB T=true) {n:Nat} {out:List Int} (h:chkD T D n out=true):IsDist T D n false out:=by
 have hN:=(sound_of hv).nodes
 simp only[chkD,Bool.and_eq_true,decide_eq_true_eq,List.all_eq_true,List.mem_range,Bool.or_eq_true,Bool.not_eq_true',List.any_eq_true]at h
 obtain⟨⟨⟨⟨h1,h2⟩,h3⟩,h4⟩,h5⟩:=h
 refine⟨by rw[h1];omega,h2,fun x hx=>h3 x (by omega),fun a ha hw=>?_,fun x hx h0=>?_⟩
 ·rcases h4 a ha with h|h
  ·rw[(way_iff T D n out a).1 hw]at h;cases h
  ·exact h
 ·rcases h5 x (by omega)with(h|h)|⟨a,ha,⟨h6,h7⟩,h8⟩
  ·exact .inl h
  ·omega
  ·exact .inr ⟨a,ha,h6,(way_iff T D n out a).2 h7,h8⟩
theorem dist {T:Topo} {D:List Bool} (hv:validB T=true) (h:chk T D=true) {d:Nat} (hd:(d:Int)<T.nodes):distL T D d false=dC T D d:=by
 refine distL_eq (sound_of hv) (dist_of hv ?_)
 simp only[chk,List.all_eq_true,List.mem_range]at h
 exact h d (by omega)
def nextC (T:Topo) (D:List Bool) (n d:Nat):List Int:=if n=d∨(dC T D d).getD n 0<0 then [] else passL T D (dC T D d) ((dC T D d).getD n 0) d (outL T n)
theorem next {T:Topo} {D:List Bool} (hv:validB T=true) (h:chk T D=true) {n d:Nat} (hd:(d:Int)<T.nodes):nextL T D n d=nextC T D n d:=by
 unfold nextL nextC;rw[dist hv h hd]
def firstC (T:Topo) (D:List Bool) (d:Nat):Nat→Nat→List Int
 |0,_=>[]
 |f+1,n=>match nextC T D n d with
  | []=>[]
  |a::_=>a::firstC T D d f (headN T a.toNat).toNat
def spathC (T:Topo) (D:List Bool) (n d:Nat):List Int:=firstC T D d ((dC T D d).getD n 0).toNat n
theorem first {T:Topo} {D:List Bool} (hv:validB T=true) (h:chk T D=true) {d:Nat} (hd:(d:Int)<T.nodes):∀f n,firstP T D d f n=firstC T D d f n
 |0,_=>rfl
 |f+1,n=>by
  simp only[firstP,firstC,next hv h hd]
  cases nextC T D n d with
  |nil=>rfl
  |cons a l=>simp only[first hv h hd f]
theorem spath {T:Topo} {D:List Bool} (hv:validB T=true) (h:chk T D=true) {n d:Nat} (hd:(d:Int)<T.nodes):spathL T D n d=spathC T D n d:=by
 unfold spathL spathC dN;rw[dist hv h hd,first hv h hd]
def spC (T:Topo) (D:List Bool) (s d:Int):Int:=if nodeE T D s d=0 then(if(dC T D d.toNat).getD s.toNat 0<0 then 11 else 0) else nodeE T D s d
theorem node_lt {T:Topo} {D:List Bool} {s d:Int} (h:nodeE T D s d=0):(d.toNat:Int)<T.nodes∧0≤d:=by
 obtain⟨_,_,_,h4⟩:=nodeE_zero h
 rw[nodeB_iff]at h4
 omega
theorem spe {T:Topo} {D:List Bool} (hv:validB T=true) (h:chk T D=true) (s d:Int):spE T D s d=spC T D s d:=by
 unfold spE spC dN
 by_cases h0:nodeE T D s d=0
 ·rw[if_pos h0,if_pos h0,dist hv h (node_lt h0).1]
 ·rw[if_neg h0,if_neg h0]
def cntC (T:Topo) (D:List Bool) (d:Nat):Nat→Nat→Int
 |0,m=>if m=d then 1 else 0
 |f+1,m=>if m=d then 1 else(nextC T D m d).foldl (fun c a=>min 2 (c+cntC T D d f (headN T a.toNat).toNat)) 0
theorem cnt {T:Topo} {D:List Bool} (hv:validB T=true) (h:chk T D=true) {d:Nat} (hd:(d:Int)<T.nodes):∀f m,cntF T D d f m=cntC T D d f m
 |0,_=>rfl
 |f+1,m=>by
  simp only[cntF,cntC,next hv h hd]
  split
  ·rfl
  ·exact foldl_congr fun c a _=>by rw[cnt hv h hd f]
def covC (T:Topo) (D:List Bool) (n:Int) (p:List Int) (i j:Nat):Bool:=
 decide ((dC T D (endL T n (p.take j)).toNat).getD (endL T n (p.take i)).toNat 0=costL T (p.take j) - costL T (p.take i))&&(decide (nodeE T D (endL T n (p.take i)) (endL T n (p.take j))=0)&&decide (cntC T D (endL T n (p.take j)).toNat ((dC T D (endL T n (p.take j)).toNat).getD (endL T n (p.take i)).toNat 0).toNat (endL T n (p.take i)).toNat=1))
theorem cov {T:Topo} {D:List Bool} (hv:validB T=true) (h:chk T D=true) (n:Int) (p:List Int) (i j:Nat):covB T D n p i j=covC T D n p i j:=by
 unfold covB covC uniqB cntS dN
 by_cases h0:nodeE T D (endL T n (p.take i)) (endL T n (p.take j))=0
 ·rw[dist hv h (node_lt h0).1,cnt hv h (node_lt h0).1]
 ·rw[decide_eq_false h0];simp
def lstC (T:Topo) (D:List Bool) (n:Int) (p:List Int):Nat→Nat→List Seg
 |0,_=>[]
 |f+1,i=>if i<p.length then(match topD (covC T D n p i) i p.length with
  |some j=>⟨1,endL T n (p.take j)⟩::lstC T D n p f j
  |none=>⟨2,p.getD i 0⟩::lstC T D n p f (i+1)) else []
theorem lst {T:Topo} {D:List Bool} (hv:validB T=true) (h:chk T D=true) (n:Int) (p:List Int):∀f i,lstF T D n p f i=lstC T D n p f i
 |0,_=>rfl
 |f+1,i=>by
  have:covB T D n p i=covC T D n p i:=funext fun j=>cov hv h n p i j
  simp only[lstF,lstC,this]
  split
  ·cases topD (covC T D n p i) i p.length with
   |none=>simp only[lst hv h n p f]
   |some j=>simp only[lst hv h n p f]
  ·rfl
def entC (T:Topo) (D:List Bool) (n d:Int):Ent:=
 if spC T D n d=0∧n≠d then⟨[(spathC T D n.toNat d.toNat).getD 0 0],true,cutL (lstC T [] n (spathC T D n.toNat d.toNat) (spathC T D n.toNat d.toNat).length 0)⟩ else⟨[],false,[]⟩
theorem ent {T:Topo} {D:List Bool} (hv:validB T=true) (h0:chk T []=true) (h:chk T D=true) (n d:Int):entX T D n d=entC T D n d:=by
 unfold entX entC
 rw[spe hv h]
 by_cases hd:(d.toNat:Int)<T.nodes
 ·unfold lstL
  rw[spath hv h hd,lst hv h0]
 ·have:¬spC T D n d=0:=by
   unfold spC
   intro hh
   split at hh
   ·rename_i h1;exact hd (node_lt h1).1
   ·rename_i h1;exact h1 hh
  rw[if_neg (fun hh=>this hh.1),if_neg (fun hh=>this hh.1)]
def asmC (T:Topo) (a:Nat) (d:Int):Int×Int:=
 if(decide (0<grpN T a)&&decide (spC T (maskL T 3 (grpN T a)) (tailN T a) d=0))=true then(3,grpN T a)
 else if(decide (headN T a≠d)&&decide (spC T (maskL T 2 (headN T a)) (tailN T a) d=0))=true then(2,headN T a)
 else(1,((a / 2:Nat):Int))
theorem asm {T:Topo} (hv:validB T=true) {a:Nat} (h3:chk T (maskL T 3 (grpN T a))=true) (h2:chk T (maskL T 2 (headN T a))=true) (d:Int):asmF T a d=asmC T a d:=by
 unfold asmF asmC rchB
 rw[spe hv h3,spe hv h2]
end Cmp
end PW
end Go.Proofs.YtnegbdpggideiaaGreatDoor

namespace Go.Proofs.YtnegbdpggideiaaGreatDoor
set_option linter.unusedVariables false
set_option linter.unusedSimpArgs false
namespace PW
open Go.RowKit Reg Mem Net Rng
namespace Cmp
def routesC (T:Topo) (D:List Bool) (n:Nat):Tab:=⟨n,(List.range T.nodes.toNat).map fun(d:Nat)=>⟨nextC T D n d,false,[]⟩,downL D (outL T n)⟩
theorem routes {T:Topo} {D:List Bool} (hv:validB T=true) (h:chk T D=true) (n:Nat):routesT T D n=routesC T D n:=by
 have hN:=(sound_of hv).nodes
 unfold routesT routesC toL
 congr 1
 refine List.map_congr_left fun d hd=>?_
 have:=List.mem_range.1 hd
 rw[next hv h (by omega)]
end Cmp
def ringD1:List Bool:=[true,true,false,false,false,false,false,false]
theorem ring_chk0:Cmp.chk ringT []=true:=by kernel_rfl
def ringC:Tab:=⟨3,[⟨[6],false,[]⟩,⟨[5,6],false,[]⟩,⟨[5],false,[]⟩,⟨[],false,[]⟩],[]⟩
theorem ring_old:routesT ringT [] 3=ringC:=(Cmp.routes ring_valid ring_chk0 3).trans (by kernel_rfl)
end PW
end Go.Proofs.YtnegbdpggideiaaGreatDoor

namespace Go.Proofs.YtnegbdpggideiaaGreatDoor
set_option linter.unusedVariables false
set_option linter.unusedSimpArgs false
namespace PW
open Go.RowKit Reg Mem Net Rng
namespace Cmp
def mixC (T:Topo) (own:List Bool) (n d:Int) (a:Nat):List Bool:=
 if spC T (orM T (maskL T (asmC T a d).1 (asmC T a d).2) own) n d=0 then orM T (maskL T (asmC T a d).1 (asmC T a d).2) own else own
def repC (T:Topo) (own:List Bool) (n d:Nat):Ent:=match hitL own (nextC T [] n d)with
 |none=>⟨nextC T [] n d,false,[]⟩
 |some a=>entC T (mixC T own n d a.toNat) n d
def chkR (T:Topo) (own:List Bool) (n d:Nat):Bool:=match hitL own (nextC T [] n d)with
 |none=>true
 |some a=>chk T (maskL T 3 (grpN T a.toNat))&&chk T (maskL T 2 (headN T a.toNat))&&chk T (orM T (maskL T (asmC T a.toNat d).1 (asmC T a.toNat d).2) own)&&chk T (mixC T own n d a.toNat)
theorem rep {T:Topo} {own:List Bool} {n d:Nat} (hv:validB T=true) (h0:chk T []=true) (hd:(d:Int)<T.nodes) (h:chkR T own n d=true):repX T own n d=repC T own n d:=by
 unfold repX repC
 unfold chkR at h
 rw[next hv h0 hd]
 cases hh:hitL own (nextC T [] n d)with
 |none=>rfl
 |some a=>
  rw[hh]at h
  simp only[Bool.and_eq_true]at h
  obtain⟨⟨⟨h1,h2⟩,h3⟩,h4⟩:=h
  have hm:mixM T own n d a.toNat=mixC T own n d a.toNat:=by
   unfold mixM mixC rchB
   rw[asm hv h1 h2,spe hv h3]
   by_cases e:spC T (orM T (maskL T (asmC T a.toNat (d:Int)).1 (asmC T a.toNat (d:Int)).2) own) n d=0
   ·rw[if_pos (by simpa using e),if_pos e]
   ·rw[if_neg (by simpa using e),if_neg e]
  simp only[]
  rw[hm,ent hv h0 h4]
def repTC (T:Topo) (M:List Bool) (n:Nat):Tab:=⟨n,(List.range T.nodes.toNat).map fun d=>repC T (ownM T M n) n d,downL M (outL T n)⟩
theorem repTab {T:Topo} {M:List Bool} {n:Nat} (hv:validB T=true) (h0:chk T []=true) (h:((List.range T.nodes.toNat).all fun d=>chkR T (ownM T M n) n d)=true):repT T M n=repTC T M n:=by
 have hN:=(sound_of hv).nodes
 unfold repT repTC repL
 congr 1
 refine List.map_congr_left fun d hd=>?_
 have hd':=List.mem_range.1 hd
 exact rep hv h0 (by omega) (List.all_eq_true.1 h d hd)
end Cmp
def ringR:Tab:=⟨0,[⟨[],false,[]⟩,⟨[7],true,[⟨1,3⟩,⟨1,2⟩,⟨1,1⟩]⟩,⟨[7],true,[⟨1,3⟩,⟨1,2⟩]⟩,⟨[7],false,[]⟩],[0]⟩
theorem ring_rep:repT ringT ringD1 0=ringR:=(Cmp.repTab ring_valid ring_chk0 (by kernel_rfl)).trans (by kernel_rfl)
end PW
end Go.Proofs.YtnegbdpggideiaaGreatDoor

namespace Go.Proofs.YtnegbdpggideiaaGreatDoor
set_option linter.unusedVariables false
set_option linter.unusedSimpArgs false
namespace PW
open Go.RowKit Reg Mem Net Go.WideShapes
structure Q30 where
 T:Topo
 k:Int
 x:Int
 n:Int
def q30P (c:Q30):List PV:=topoP c.T++[num c.k,num c.x,num c.n]
def q30V (c:Q30):PV:=.agg (q30P c)
instance (c:Q30):IsPureL (q30P c):=by unfold q30P;unfold topoP;simp only[List.cons_append,List.nil_append];infer_instance
instance (c:Q30):IsPure (q30V c):=by unfold q30V;infer_instance
structure Q29 where
 T:Topo
 k:Int
 x:Int
 n:Int
 d:Int
def q29P (c:Q29):List PV:=topoP c.T++[num c.k,num c.x,num c.n,num c.d]
def q29V (c:Q29):PV:=.agg (q29P c)
instance (c:Q29):IsPureL (q29P c):=by unfold q29P;unfold topoP;simp only[List.cons_append,List.nil_append];infer_instance
instance (c:Q29):IsPure (q29V c):=by unfold q29V;infer_instance
structure Q31 where
 T:Topo
 k:Int
 x:Int
 S:List Int
 n:Int
 d:Int
def q31P (c:Q31):List PV:=topoP c.T++[num c.k,num c.x,intsV c.S,num c.n,num c.d]
def q31V (c:Q31):PV:=.agg (q31P c)
instance (c:Q31):IsPureL (q31P c):=by unfold q31P;unfold topoP;simp only[List.cons_append,List.nil_append];infer_instance
instance (c:Q31):IsPure (q31V c):=by unfold q31V;infer_instance
section
variable {H:Type} {enc:TypeId×Value→H} {W:World}
set_option maxRecDepth 10000 in
theorem rd_comp {n:Nat} {cs:List Value} {y:DataW H×List MemPlace} (h:DataW.trod enc Tryz.prog W 0 (fun _=>true) true n 33 cs=some y) (hl:cs.length=2):∃k x:Int,cs=[.int .i64 k,.int .i64 x]:=by
 have c3:Tryz.prog.cellsOf 3=1:=by kernel_rfl
 obtain⟨xs,m,_,_,_,hlen,hf⟩:=DataW.trod_struct Tryz.underlying33 h
 match cs,hl with
 | [c0,c1],_=>
  match xs,hlen with
  | [y0,y1],_=>
   have f0:DataW.trod enc Tryz.prog W 0 (fun _=>true) true m 3 (([c0,c1].drop 0).take (Tryz.prog.cellsOf 3))=some y0:=hf 0 _ rfl
   rw[c3]at f0
   have f1:DataW.trod enc Tryz.prog W 0 (fun _=>true) true m 3 (([c0,c1].drop 1).take (Tryz.prog.cellsOf 3))=some y1:=hf 1 _ rfl
   rw[c3]at f1
   obtain⟨a0,h0⟩:=rd_int f0
   obtain⟨a1,h1⟩:=rd_int f1
   simp at h0 h1
   subst h0 h1
   exact⟨a0,a1,rfl⟩
set_option maxRecDepth 10000 in
theorem rd_q31 {base:Nat} {v:Value} {d:DataW H} {p:List MemPlace} (hv:Value.okWide Tryz.prog W .any base 50 v) (h:DataW.Trod enc Tryz.prog W 0 (fun _=>true) true 50 v d p):∃c:Q31,Rep EN W v (q31V c):=by
 have hC:Tryz.prog.cellsOf 50=8:=by kernel_rfl
 have k_topo:Tryz.prog.cellsOf 25=3:=by kernel_rfl
 have k_comp:Tryz.prog.cellsOf 33=2:=by kernel_rfl
 have k_ints:Tryz.prog.cellsOf 37=1:=by kernel_rfl
 have k_int:Tryz.prog.cellsOf 3=1:=by kernel_rfl
 obtain⟨cs,rfl,hsz⟩:=okWide_struct Tryz.underlying50 hv
 rw[hC]at hsz
 obtain⟨fuel,hf⟩:=h
 obtain⟨cl⟩:=cs
 match cl,hsz with
 | [c0,c1,c2,c3,c4,c5,c6,c7],_=>
  obtain⟨xs,m,_,_,_,hlen,hg⟩:=DataW.trod_struct Tryz.underlying50 hf
  match xs,hlen with
  | [y0,y1,y2,y3,y4],_=>
   have f0:DataW.trod enc Tryz.prog W 0 (fun _=>true) true m 25 (([c0,c1,c2,c3,c4,c5,c6,c7].drop 0).take (Tryz.prog.cellsOf 25))=some y0:=hg 0 _ rfl
   rw[k_topo]at f0
   have f1:DataW.trod enc Tryz.prog W 0 (fun _=>true) true m 33 (([c0,c1,c2,c3,c4,c5,c6,c7].drop 3).take (Tryz.prog.cellsOf 33))=some y1:=hg 1 _ rfl
   rw[k_comp]at f1
   have f2:DataW.trod enc Tryz.prog W 0 (fun _=>true) true m 37 (([c0,c1,c2,c3,c4,c5,c6,c7].drop 5).take (Tryz.prog.cellsOf 37))=some y2:=hg 2 _ rfl
   rw[k_ints]at f2
   have f3:DataW.trod enc Tryz.prog W 0 (fun _=>true) true m 3 (([c0,c1,c2,c3,c4,c5,c6,c7].drop 6).take (Tryz.prog.cellsOf 3))=some y3:=hg 3 _ rfl
   rw[k_int]at f3
   have f4:DataW.trod enc Tryz.prog W 0 (fun _=>true) true m 3 (([c0,c1,c2,c3,c4,c5,c6,c7].drop 7).take (Tryz.prog.cellsOf 3))=some y4:=hg 4 _ rfl
   rw[k_int]at f4
   obtain⟨T,hT⟩:=rd_topo3 f0 rfl
   obtain⟨k,x,hkx⟩:=rd_comp f1 rfl
   simp only[List.drop,List.take,List.cons.injEq,and_true]at hkx
   obtain⟨rfl,rfl⟩:=hkx
   obtain⟨L2,hL2⟩:=rd_ints f2
   obtain⟨n3,hn3⟩:=rd_int f3
   simp at hn3
   subst hn3
   obtain⟨n4,hn4⟩:=rd_int f4
   simp at hn4
   subst hn4
   have hall:RepL EN W [c0,c1,c2,.int .i64 k,.int .i64 x,c5,.int .i64 n3,.int .i64 n4] (q31P ⟨T,k,x,L2,n3,n4⟩):=hT.append (RepL.cons (.raw _)<|RepL.cons (.raw _)<|RepL.cons (hL2)<|RepL.cons (.raw _)<|RepL.cons (.raw _)<|(RepL.nil _ _))
   exact⟨⟨T,k,x,L2,n3,n4⟩,.agg _ _ (by simpa using hall.1) (fun i x u h1 h2=>hall.2 i x u (by simpa using h1) h2)⟩
end
end PW
end Go.Proofs.YtnegbdpggideiaaGreatDoor

namespace Go.Proofs.YtnegbdpggideiaaGreatDoor
set_option linter.unusedVariables false
set_option linter.unusedSimpArgs false
namespace PW
open Go.RowKit Reg Mem Net Rng
def tooBig (T:Topo):Bool:=decide ((10:Int)<T.nodes)||decide ((16:Int)<T.links.length)
theorem not_big {T:Topo} (h:tooBig T=false):T.nodes≤12∧T.links.length≤16:=by
 unfold tooBig at h
 simp only[Bool.or_eq_false_iff,decide_eq_false_iff_not]at h
 omega
theorem rsame_yes (L:List Int):Can Tryz.prog 35 [intsV L,intsV L] (· =flag true):=by
 have h:=rsame_can L L
 rw[show sameB L L=true from decide_eq_true rfl]at h
 exact h
end PW
end Go.Proofs.YtnegbdpggideiaaGreatDoor

namespace Go.Proofs.YtnegbdpggideiaaGreatDoor
set_option linter.unusedVariables false
set_option linter.unusedSimpArgs false
namespace PW
open Go.RowKit Reg Mem Net Rng
end PW
end Go.Proofs.YtnegbdpggideiaaGreatDoor

namespace Go.Proofs.YtnegbdpggideiaaGreatDoor
set_option linter.unusedVariables false
set_option linter.unusedSimpArgs false
namespace PW
open Go.RowKit Reg Mem Net Rng
end PW
end Go.Proofs.YtnegbdpggideiaaGreatDoor

namespace Go.Proofs.YtnegbdpggideiaaGreatDoor
set_option linter.unusedVariables false
set_option linter.unusedSimpArgs false
namespace PW
open Go.RowKit Reg Mem Net Rng
end PW
end Go.Proofs.YtnegbdpggideiaaGreatDoor

namespace Go.Proofs.YtnegbdpggideiaaGreatDoor
set_option linter.unusedVariables false
set_option linter.unusedSimpArgs false
namespace PW
open Go.RowKit Reg Mem Net Rng
def wthTo (T:Topo) (k x k' x':Int) (m:Nat):Bool:=(List.range m).all fun a=> !partB k x T.links (a / 2)||partB k' x' T.links (a / 2)
def wthB (T:Topo) (k x k' x':Int):Bool:=wthTo T k x k' x' (2*T.links.length)
end PW
end Go.Proofs.YtnegbdpggideiaaGreatDoor

namespace Go.Proofs.YtnegbdpggideiaaGreatDoor
set_option linter.unusedVariables false
set_option linter.unusedSimpArgs false
namespace PW
open Go.RowKit Go.Shelf Reg Mem Net Rng
attribute [local go_sem] Oper.semAt_some
set_option maxRecDepth 10000 in
set_option maxHeartbeats 1000000 in
theorem cvalid_can (T:Topo) (k x:Int):Can Tryz.prog 65 [topoV T,compV k x] (· =flag (validB T&&compB T k x)):=by
 obtain⟨q1,hq1⟩:∃q,validB T=q:=⟨_,rfl⟩
 obtain⟨q2,hq2⟩:∃q,compB T k x=q:=⟨_,rfl⟩
 rw[hq1,hq2]
 refine can_of Tryz.func65 rfl Tryz.ntmps65 rfl ?_
 refine W_cs (.a 3 rfl<|.k [2,3] rfl) ?_
 refine W_csK 4 (.raw (.bool (q1&&q2))) [] rfl ?_ ?_
 ·refine .a 1 rfl<|.c rfl (hq1▸valid_can T) rfl<|.a 1 rfl<|?_
  cases q1
  ·exact .a 5 rfl<|.k [4] rfl
  ·exact .a 2 rfl<|.c rfl (hq2▸cwithin_can T k x) rfl<|.a 2 rfl<|.k [4] rfl
 refine W_ret ?_
 exact⟨_,_,ResL.of rfl,Pur.pure,rfl⟩
end PW
end Go.Proofs.YtnegbdpggideiaaGreatDoor

namespace Go.Proofs.YtnegbdpggideiaaGreatDoor
set_option linter.unusedVariables false
set_option linter.unusedSimpArgs false
namespace PW
open Go.RowKit Reg Mem Net Rng
abbrev encC (p:Int×Int):Value:=.agg (pairV p)
def MemC (T:Topo) (k x:Int) (l:List ((Int×Int)×PV)):Prop:=∀c v,(c,v)∈l→v=flag (wthB T k x c.1 c.2)
theorem MemC.pure {T:Topo} {k x:Int} {l:List ((Int×Int)×PV)} (h:MemC T k x l):IsPureL ((encM encC l).map (·.2)):=⟨fun i u hu=>by
 have hm:=List.mem_of_getElem? hu
 simp only[encM,List.map_map,List.mem_map]at hm
 obtain⟨a,ha,rfl⟩:=hm
 have:=h a.1 a.2 ha
 show IsPure a.2
 rw[this]
 infer_instance⟩
theorem MemC.set {T:Topo} {k x:Int} {l:List ((Int×Int)×PV)} (h:MemC T k x l) (c:Int×Int):MemC T k x (setM c (flag (wthB T k x c.1 c.2)) l):=fun c' v hm=>by
 rcases mem_setM hm with e|e
 ·cases e;rfl
 ·exact h c' v e
end PW
end Go.Proofs.YtnegbdpggideiaaGreatDoor

namespace Go.Proofs.YtnegbdpggideiaaGreatDoor
set_option linter.unusedVariables false
set_option linter.unusedSimpArgs false
namespace PW
open Go.RowKit Reg Mem Net Rng
end PW
end Go.Proofs.YtnegbdpggideiaaGreatDoor

namespace Go.Proofs.YtnegbdpggideiaaGreatDoor
set_option linter.unusedVariables false
set_option linter.unusedSimpArgs false
namespace PW
open Go.RowKit Reg Mem Net Rng
def compsP (l:List (Int×Int)):List PV:=l.flatMap fun c=>compP c.1 c.2
def compsV (l:List (Int×Int)):PV:=.slice l.length (compsP l)
instance (l:List (Int×Int)):IsPureL (compsP l):=IsPureL.flatMap _ _ fun _=>inferInstance
instance (l:List (Int×Int)):IsPure (compsV l):=by unfold compsV;infer_instance
end PW
end Go.Proofs.YtnegbdpggideiaaGreatDoor

namespace Go.Proofs.YtnegbdpggideiaaGreatDoor
set_option linter.unusedVariables false
set_option linter.unusedSimpArgs false
namespace PW
open Go.RowKit Reg Mem Net Rng
section
variable {T:Topo}
theorem Ch.last {D:List Bool} {d n:Nat} {p:List Int} (h:Ch T D d n p):n≠d→∃a,a<2*T.links.length∧downN D a=false∧headN T a=(d:Int):=by
 induction h with
 |nil=>intro h;exact absurd rfl h
 | @cons n a m p h1 h2 h3 h4 _ _ ih=>
  intro _
  by_cases e:m=d
  ·subst e;exact⟨a,h1,h3,h4⟩
  ·exact ih e
end
end PW
end Go.Proofs.YtnegbdpggideiaaGreatDoor

namespace Go.Proofs.YtnegbdpggideiaaGreatDoor
set_option linter.unusedVariables false
set_option linter.unusedSimpArgs false
namespace PW
open Go.RowKit Reg Mem Net Rng
section
variable {T:Topo} {M D:List Bool} {n d:Nat}
theorem entAt_get {x:Tab} {d:Nat} {e:Ent} (h:x.ents[d]? =some e):entAt x (d:Int)=e:=by
 unfold entAt
 rw[Int.toNat_natCast]
 exact ents_getD _ _ _ h
theorem at_routes (hd:(d:Int)<T.nodes):entAt (routesT T D n) (d:Int)=⟨nextL T D n d,false,[]⟩:=entAt_get (toL_get (by omega))
theorem at_trn (hd:(d:Int)<T.nodes):entAt (trnT T D n) (d:Int)=entX T D n d:=entAt_get (trnL_get (by omega))
theorem at_rep (hd:(d:Int)<T.nodes):entAt (repT T M n) (d:Int)=repX T (ownM T M n) n d:=entAt_get (repL_get (by omega))
noncomputable def tabM (T:Topo) (M:List Bool) (s:Int) (n:Nat):Tab:=if s=0 then routesT T [] n else if s=1 then repT T M n else if s=2 then trnT T M n else routesT T M n
theorem down_in {E:List Bool} {a:Nat} {l:List Int} (h:(a:Int)∈downL E l):downN E a=true:=by
 have:=(List.mem_filter.1 h).2
 rwa [Int.toNat_natCast]at this
theorem tame_routes (hv:validB T=true) (hn:(n:Int)<T.nodes) {E:List Bool} (hf:fitsB T E=true) (hE:∀a,downN D a=false→downN E a=false):Tame T D n (routesT T E n) where
 ok:=routes_valid hv hn
 node:=rfl
 down:=fun a ha=>by
  have:=down_in ha
  cases h:downN D a with
  |true=>rfl
  |false=>rw[hE a h]at this;cases this
 stab:=fun y p hs=>by
  rw[at_routes hs.hy]
  exact⟨(hs.fewer hf hE).ent.2.1,fun h=>by cases h⟩
theorem tame_tab (hv : validB T = true) (h12 : T.nodes ≤ 12) (hn : (n : Int) < T.nodes) (hf : fitsB T M = true) (hM : ∀ a, downN D a = false → downN M a = false) (s : Int) : Tame T D n (tabM T M s n) := by
  unfold tabM
  split
  · exact tame_routes hv hn (fits_nil T) (fun a _ => by simp [downN])
  · split
    · refine ⟨rep_valid hv h12 hn, rfl, fun a ha => ?_, fun y p hs => ?_⟩
      · have := down_in ha
        cases h : downN D a with
        | true => rfl
        | false => rw [hM a h] at this; cases this
      · rw [at_rep hs.hy]
        have h1 := hs.ent.1
        unfold repX
        have hno : hitL (ownM T M n) (nextL T [] n y) = none := by
          cases hh : hitL (ownM T M n) (nextL T [] n y) with
          | none => rfl
          | some a =>
            obtain ⟨h2, h3⟩ := hit_some hh
            rw [h1, List.mem_singleton] at h2
            subst h2
            obtain ⟨p0, pt, rfl⟩ : ∃ p0 pt, p = p0 :: pt := by
              cases p with
              | nil => exact absurd hs.pos (by simp)
              | cons p0 pt => exact ⟨p0, pt, rfl⟩
            have h4 := hM _ (hs.up p0 (by simp))
            rw [own_down] at h3
            simp only [List.getD_cons_zero, Bool.and_eq_true] at h3
            rw [h4] at h3
            exact absurd h3.2.1 (by decide)
        rw [hno]
        exact ⟨h1, fun h => by cases h⟩
    · split
      · refine ⟨trn_valid hv h12 hn, rfl, fun a ha => ?_, fun y p hs => ?_⟩
        · have := down_in ha
          cases h : downN D a with
          | true => rfl
          | false => rw [hM a h] at this; cases this
        · rw [at_trn hs.hy, (hs.fewer hf hM).ent.2.2]
          exact ⟨rfl, fun _ => rfl⟩
      · exact tame_routes hv hn hf hM
end
end PW
end Go.Proofs.YtnegbdpggideiaaGreatDoor

namespace Go.Proofs.YtnegbdpggideiaaGreatDoor
set_option linter.unusedVariables false
set_option linter.unusedSimpArgs false
namespace PW
open Go.RowKit Reg Mem Net Rng
section
variable {T:Topo} {k x:Int} {d:Nat}
def Gn (k x:Int) (n:Nat):Prop:=k=2∧x=(n:Int)
structure Open (T:Topo) (k x:Int) (d n:Nat) (s:List Seg):Prop where
 nil:s=[]
 node:(n:Int)<T.nodes
 here:¬Gn k x n
 reach:0≤dN T (maskL T k x) d n
structure Listed (T:Topo) (k x:Int) (d n:Nat) (s:List Seg) (q:List Int):Prop where
 lst:∃D,(∀a,downN D a=false→downN (maskL T k x) a=false)∧Lst T D d n (skipS ⟨1,(n:Int)⟩ s) q
 node:(n:Int)<T.nodes
 here:¬Gn k x n
 len:s.length≤32
structure Goes1 (T:Topo) (k x:Int) (n:Nat) (a:Int) (b m:Nat):Prop where
 eq:a=(b:Int)
 arc:b<2*T.links.length
 tail:tailN T b=(n:Int)
 head:headN T b=(m:Int)
 up:downN (maskL T k x) b=false
end
end PW
end Go.Proofs.YtnegbdpggideiaaGreatDoor

namespace Go.Proofs.YtnegbdpggideiaaGreatDoor
set_option linter.unusedVariables false
set_option linter.unusedSimpArgs false
namespace PW
open Go.RowKit Reg Mem Net Rng
section
variable {T:Topo} {k x:Int} {d:Nat}
noncomputable def rank (T:Topo) (D:List Bool) (d n:Nat):Nat:=((List.range T.nodes.toNat).filter fun m=>decide (0≤dN T D d m)&&decide (dN T D d m<dN T D d n)).length
theorem rank_lt {D:List Bool} {n:Nat} (hn:(n:Int)<T.nodes):rank T D d n<T.nodes.toNat:=by
 unfold rank
 have h:((List.range T.nodes.toNat).filter fun m=>decide (0≤dN T D d m)&&decide (dN T D d m<dN T D d n)).length<(List.range T.nodes.toNat).length:=by
  refine List.length_filter_lt_length_iff_exists.2 ⟨n,List.mem_range.2 (by omega),?_⟩
  simp
 simpa using h
def Way (T:Topo) (k x:Int) (d:Nat) (late:Bool) (n:Nat) (s:List Seg) (u:Nat):Prop:=
 (Open T k x d n s∧u=if late then T.nodes.toNat+rank T (maskL T k x) d n else 2*T.nodes.toNat+rank T [] d n)∨∃q,Listed T k x d n s q∧u=q.length∧q.length<T.nodes.toNat
theorem Way.on {n:Nat} {s:List Seg} {u:Nat} (h:Way T k x d false n s u):∃u',u'≤u∧Way T k x d true n s u':=by
 rcases h with⟨h,rfl⟩|⟨q,h,rfl,hl⟩
 ·have h1:=rank_lt (D:=maskL T k x) (d:=d) h.node
  refine⟨T.nodes.toNat+rank T (maskL T k x) d n,?_,.inl ⟨h,?_⟩⟩
  ·rw[if_neg (by simp)];omega
  ·rw[if_pos rfl]
 ·exact⟨_,Nat.le_refl _,.inr ⟨q,h,rfl,hl⟩⟩
end
end PW
end Go.Proofs.YtnegbdpggideiaaGreatDoor

namespace Go.Proofs.YtnegbdpggideiaaGreatDoor
set_option linter.unusedVariables false
set_option linter.unusedSimpArgs false
namespace PW
open Go.RowKit Reg Mem Net Rng
def pkt0 (p:Pkt) (s:List Seg):Pkt:=⟨p.id,p.src,p.dst,p.flow,s,0⟩
inductive Br (T:Topo) (tb:Nat→Tab) (p0:Pkt):Nat→List Seg→List Int→Nat→Int→Prop
 |stop {n:Nat} {s:List Seg}:(stepO T (tb n) (pkt0 p0 s)).arcs=[]→Br T tb p0 n s [] n (stepO T (tb n) (pkt0 p0 s)).why
 |go {n m e:Nat} {s:List Seg} {a:Int} {p:List Int} {w:Int}:a∈(stepO T (tb n) (pkt0 p0 s)).arcs→headN T a.toNat=(m:Int)→Br T tb p0 m (stepO T (tb n) (pkt0 p0 s)).pkt.stack p e w→Br T tb p0 n s (a::p) e w
section
variable {T:Topo} {k x:Int} {d:Nat} {st:Nat→Int} {p0:Pkt}
noncomputable def tbM (T:Topo) (M:List Bool) (st:Nat→Int) (n:Nat):Tab:=tabM T M (st n) n
end
end PW
end Go.Proofs.YtnegbdpggideiaaGreatDoor

namespace Go.Proofs.YtnegbdpggideiaaGreatDoor
set_option linter.unusedVariables false
set_option linter.unusedSimpArgs false
namespace PW
open Go.RowKit Reg Mem Net Rng
section
variable {T:Topo} {D D':List Bool} {k x:Int} {d:Nat} {st:Nat→Int} {p0:Pkt}
end
end PW
end Go.Proofs.YtnegbdpggideiaaGreatDoor

namespace Go.Proofs.YtnegbdpggideiaaGreatDoor
set_option linter.unusedVariables false
set_option linter.unusedSimpArgs false
namespace PW
open Go.RowKit Reg Mem Net Rng
def gnB (k x n:Int):Bool:=decide (k=2)&&decide (x=n)
def cnB (T:Topo) (k x:Int) (n:Nat):Bool:=(List.range (2*T.links.length)).any fun a=>downN (maskL T k x) a&&decide (tailN T a=(n:Int))
def okS (s:Int):Bool:=decide (0≤s)&&decide (s≤3)
def erS (c:Bool) (s:Int):Bool:= !decide (s=3)&&(!decide (s=0)|| !c)&&(!decide (s=1)||c)
def laS (s:Int):Bool:=decide (s=2)||decide (s=3)
def allS (k x:Int) (p:Nat→Bool) (m:Nat):Bool:=(List.range m).all fun n=>gnB k x n||p n
theorem allS_succ (k x:Int) (p:Nat→Bool) (m:Nat):allS k x p (m+1)=(allS k x p m&&(gnB k x m||p m)):=by
 unfold allS
 rw[List.range_succ,List.all_append]
 simp
theorem allS_iff {k x:Int} {p:Nat→Bool} {m:Nat}:allS k x p m=true↔∀n,n<m→gnB k x n=false→p n=true:=by
 unfold allS
 rw[List.all_eq_true]
 constructor
 ·intro h n hn hg
  have:=h n (List.mem_range.2 hn)
  rw[hg,Bool.false_or]at this
  exact this
 ·intro h n hn
  cases hg:gnB k x n with
  |true=>rfl
  |false=>rw[Bool.false_or];exact h n (List.mem_range.1 hn) hg
def stA (l:List Int) (n:Nat):Int:=l.getD n 0
def permB (T:Topo) (k x:Int) (l:List Int):Bool:=
 if(validB T&&compB T k x)&&decide ((l.length:Int)=T.nodes) then allS k x (fun n=>okS (stA l n)) l.length&&(allS k x (fun n=>erS (cnB T k x n) (stA l n)) l.length||allS k x (fun n=>laS (stA l n)) l.length) else false
theorem allS_bad {k x:Int} {p:Nat→Bool} {m i:Nat} (hi:i<m) (hg:gnB k x i=false) (hp:p i=false):allS k x p m=false:=by
 cases h:allS k x p m with
 |false=>rfl
 |true=>rw[allS_iff.1 h i hi hg]at hp;cases hp
section
variable {T:Topo} {k x:Int} {l:List Int}
end
end PW
end Go.Proofs.YtnegbdpggideiaaGreatDoor

namespace Go.Proofs.YtnegbdpggideiaaGreatDoor
set_option linter.unusedVariables false
set_option linter.unusedSimpArgs false
namespace PW
open Go.RowKit Reg Mem Net Rng
set_option maxRecDepth 10000 in
set_option maxHeartbeats 1000000 in
theorem mgone_can (k x n:Int):Can Tryz.prog 73 [compV k x,num n] (· =flag (gnB k x n)):=by
 obtain⟨q1,hq1⟩:∃q,decide (k=2)=q:=⟨_,rfl⟩
 obtain⟨q2,hq2⟩:∃q,decide (x=n)=q:=⟨_,rfl⟩
 unfold gnB
 rw[hq1,hq2]
 refine can_of Tryz.func73 rfl Tryz.ntmps73 rfl ?_
 refine W_cs (.a 2 rfl<|.k [1,2] rfl) ?_
 refine W_csK 4 (.raw (.bool (q1&&q2))) [] rfl ?_ ?_
 ·refine .a 2 rfl<|.v (y_q rfl (hq1)) rfl<|.a 1 rfl<|?_
  cases q1
  ·exact .a 6 rfl<|.k [4] rfl
  ·exact .a 3 rfl<|.v (y_q rfl (hq2)) rfl<|.a 2 rfl<|.k [4] rfl
 refine W_ret ?_
 exact⟨_,_,ResL.of rfl,Pur.pure,rfl⟩
def ccL (T:Topo) (M:List Bool) (N a:Nat):List Bool:=(List.range N).map fun(n:Nat)=>(List.range a).any fun b=>downN M b&&decide (tailN T b=(n:Int))
section
variable {T:Topo} {M:List Bool} {N a:Nat}
theorem ccL_len:(ccL T M N a).length=N:=by simp[ccL]
theorem ccL_zero:ccL T M N 0=List.replicate N false:=by
 unfold ccL
 refine List.ext_getElem (by simp) fun i h1 h2=>by simp
theorem ccL_no (h:downN M a=false):ccL T M N (a+1)=ccL T M N a:=by
 unfold ccL
 refine List.map_congr_left fun n _=>?_
 rw[List.range_succ,List.any_append]
 simp[h]
theorem ccL_yes (h:downN M a=true) {m:Nat} (hm:tailN T a=(m:Int)):ccL T M N (a+1)=(ccL T M N a).set m true:=by
 refine List.ext_getElem (by simp[ccL]) fun i h1 h2=>?_
 rw[List.getElem_set]
 simp only[ccL,List.getElem_map,List.getElem_range,List.range_succ,List.any_append,List.any_cons,List.any_nil,Bool.or_false,h,Bool.true_and,hm]
 by_cases e:m=i
 ·subst e;simp
 ·rw[if_neg e,decide_eq_false (by omega),Bool.or_false]
theorem ccL_get {k x:Int} {n:Nat} (hn:n<N):(ccL T (maskL T k x) N (2*T.links.length)).getD n false=cnB T k x n:=by
 unfold ccL cnB
 simp[hn]
end
set_option maxRecDepth 10000 in
set_option maxHeartbeats 4000000 in
theorem mperm_can (T : Topo) (k x : Int) (l : List Int) (hl : l.length ≤ 1000) : Can Tryz.prog 25 [topoV T, compV k x, intsV l] (· = flag (permB T k x l)) := by
  obtain ⟨q1, hq1⟩ : ∃ q, decide (maskE T k x ≠ 0) = q := ⟨_, rfl⟩
  obtain ⟨q2, hq2⟩ : ∃ q, decide ((l.length : Int) ≠ T.nodes) = q := ⟨_, rfl⟩
  have hme : maskE T k x = if (validB T && compB T k x) = true then 0 else 1 := rfl
  refine can_of Tryz.func25 rfl Tryz.ntmps25 rfl ?_
  refine W_cs (.a 3 rfl <| .k [2, 3, 4] rfl) ?_
  refine W_cs (.a 2 rfl <| .c rfl (mask_can T k x) rfl <| .a 5 rfl <| .k [2, 3, 4, 7, 8] rfl) ?_
  refine W_seq ?_
  refine W_csK 30 (.raw (.bool (q1 || q2))) [2, 3, 4, 7] rfl ?_ ?_
  · refine .a 1 rfl <| .v (y_q rfl (hq1)) rfl <| .a 1 rfl <| ?_
    cases q1
    · exact .a 3 rfl <| .v (y_ld rfl (rfl)) rfl <| .v (y_q rfl (hq2)) rfl <| .a 1 rfl <| .k [30, 2, 3, 4, 7] rfl
    · exact .a 6 rfl <| .k [30, 2, 3, 4, 7] rfl
  refine W_cond rfl (fun hc => ?_) (fun hc => ?_)
  · have hno : permB T k x l = false := by
      unfold permB
      split
      · rename_i h
        exfalso
        obtain ⟨h1, h2⟩ := Bool.and_eq_true_iff.1 h
        rw [if_pos h1] at hme
        rw [← hq1, ← hq2, hme] at hc
        simp only [ne_eq, not_true_eq_false, decide_false, Bool.false_or, decide_eq_true_eq] at hc h2
        exact hc h2
      · rfl
    refine W_cs (.a 1 rfl <| .k [6] rfl) ?_
    refine W_ret ?_
    exact ⟨_, _, ResL.of rfl, Pur.pure, by rw [hno]; rfl⟩
  · obtain ⟨rfl, rfl⟩ := Bool.or_eq_false_iff.1 hc
    have hvc : (validB T && compB T k x) = true := by
      cases h : (validB T && compB T k x) with
      | true => rfl
      | false => rw [if_neg (by rw [h]; decide)] at hme; exact absurd (ff hq1) (by rw [hme]; decide)
    have hln : (l.length : Int) = T.nodes := by have := ff hq2; simpa using this
    have hP : permB T k x l = (allS k x (fun n => okS (stA l n)) l.length && (allS k x (fun n => erS (cnB T k x n) (stA l n)) l.length || allS k x (fun n => laS (stA l n)) l.length)) := by
      unfold permB
      rw [if_pos (by rw [hvc, decide_eq_true hln]; rfl)]
    have hv := (Bool.and_eq_true_iff.1 hvc).1
    have hMl := maskL_len T k x
    have hll := links_le hv
    rw [if_pos hvc] at hme
    rw [hme]
    simp only [if_true]
    obtain ⟨M, hM⟩ : ∃ M, maskL T k x = M := ⟨_, rfl⟩
    obtain ⟨N, hN⟩ : ∃ N : Nat, l.length = N := ⟨_, rfl⟩
    have hTN : T.nodes = (N : Int) := by omega
    rw [hM] at hMl ⊢
    refine W_skip ?_
    refine W_rs ?_
    refine WR_a 1 rfl <| WR_v (y_ld rfl ((show some (num T.nodes) = some (num (N : Int)) by rw [hTN]))) rfl <| WR_l (l_make rfl (fok.rk.get rfl) rfl rfl (rfl : (N : Int) = (N : Int)) (rfl : (N : Int) = (N : Int)) ⟨by unfold maxLen; omega, by omega⟩) rfl <| WR_a 1 rfl <| WR_k [2, 3, 4, 7, 9] rfl ?_
    refine W_sto (σ' := [some (.row 4 1 N (boolsP (ccL T M N 0)))]) (by rw [ccL_zero, ← zeros_bools]; rfl) ?_
    refine W_seq ?_
    refine W_cs (.a 3 rfl <| .k [2, 3, 4, 9, 34, 35, 36] rfl) ?_
    refine W_block ?_
    refine W_k [2, 3, 4, 9, 34, 35, 36] rfl ?_
    refine W_loop (fun r st => ∃ a, a ≤ M.length ∧ r = M.length - a ∧ st = ⟨[(2, intsV l), (3, .pin (topoP T) 0), (4, .pin (compP k x) 0), (9, .own 0), (34, boolsV M), (35, num M.length), (36, num a)], [some (.row 4 1 N (boolsP (ccL T M N a)))]⟩) M.length ⟨0, by omega, by omega, rfl⟩ ?_
    rintro r st ⟨a, ha, rfl, rfl⟩
    refine W_cs (.a 1 rfl <| .k [2, 3, 4, 9, 34, 35, 36, 37] rfl) ?_
    refine W_seq ?_
    refine W_cond rfl (fun hc => ?_) (fun hc => ?_)
    · have hlt : a < M.length := by have := tt hc; omega
      obtain ⟨b, hb⟩ : ∃ b, downN M a = b := ⟨_, rfl⟩
      obtain ⟨m, hm⟩ := Int.eq_ofNat_of_zero_le ((sound_of hv).tail a (by omega)).1
      have hmN := ((sound_of hv).tail a (by omega)).2
      refine W_skip ?_
      refine W_seq ?_
      refine W_block ?_
      refine W_cs (.a 1 rfl <| .v (y_ix (a) rfl) rfl <| .v (y_ld rfl ((bools_getP M a hlt).trans (by rw [show M.getD a false = b from hb]))) rfl <| .a 2 rfl <| .k [2, 3, 4, 9, 10, 11, 34, 35, 36] rfl) ?_
      refine W_cs (.a 1 rfl <| .k [2, 3, 4, 9, 10, 34, 35, 36, 41] rfl) ?_
      refine W_cond rfl (fun hc => ?_) (fun hc => ?_)
      · have hst := ccL_yes (N := N) (hb.trans hc) hm
        have hcl := ccL_len (T := T) (M := M) (N := N) (a := a)
        refine W_region ?_
        refine WR_a 3 rfl <| WR_c rfl ((show Can Tryz.prog 79 [topoV T, num a] (· = num m) by have h := tail_can T a (by omega); rw [hm] at h; exact h)) rfl <| WR_v (y_ix (m) rfl) rfl <| WR_loud0 ((by first | exact l_storeInts rfl (fok.tk.get rfl) rfl rfl rfl (by first | omega | (simp; omega)) | exact l_storeBools rfl (fok.tk.get rfl) rfl rfl rfl (by first | omega | (simp; omega)))) rfl rfl <| WR_k [2, 3, 4, 9, 34, 35, 36] rfl ?_
        refine W_chain (.v (y_ar rfl) rfl <| .a 1 rfl <| .k [2, 3, 4, 9, 34, 35, 36] rfl) ?_
        exact ⟨M.length - (a + 1), by omega, a + 1, by omega, rfl, by rw [hst]; rfl⟩
      · have hst := ccL_no (T := T) (N := N) (hb.trans hc)
        refine W_skip ?_
        refine W_chain (.v (y_ar rfl) rfl <| .a 1 rfl <| .k [2, 3, 4, 9, 34, 35, 36] rfl) ?_
        exact ⟨M.length - (a + 1), by omega, a + 1, by omega, rfl, by rw [hst]; rfl⟩
    · have hae : a = M.length := by have := ff hc; omega
      refine W_exit ?_
      refine W_cs (.a 2 rfl <| .k [2, 4, 9, 12, 13] rfl) ?_
      refine W_seq ?_
      refine W_cs (.a 3 rfl <| .k [4, 9, 12, 13, 48, 49, 50] rfl) ?_
      refine W_block ?_
      refine W_k [4, 9, 12, 13, 48, 49, 50] rfl ?_
      refine W_loop (fun r st => ∃ i, i ≤ l.length ∧ allS k x (fun n => okS (stA l n)) i = true ∧ r = l.length - i ∧ st = ⟨[(4, .pin (compP k x) 0), (9, .own 0), (12, flag (allS k x (fun n => erS (cnB T k x n) (stA l n)) i)), (13, flag (allS k x (fun n => laS (stA l n)) i)), (48, intsV l), (49, num l.length), (50, num i)], [some (.row 4 1 N (boolsP (ccL T M N a)))]⟩) l.length ⟨0, by omega, rfl, by omega, rfl⟩ ?_
      rintro r st ⟨i, hi, hO0, rfl, rfl⟩
      have hcc : ∀ n, n < N → (ccL T M N a).getD n false = cnB T k x n := fun n hn => by rw [hae, hMl, ← hM]; exact ccL_get hn
      have hcl := ccL_len (T := T) (M := M) (N := N) (a := a)
      have hE := allS_succ k x (fun n => erS (cnB T k x n) (stA l n)) i
      have hL := allS_succ k x (fun n => laS (stA l n)) i
      have hO := allS_succ k x (fun n => okS (stA l n)) i
      obtain ⟨eb, heb⟩ : ∃ b, allS k x (fun n => erS (cnB T k x n) (stA l n)) i = b := ⟨_, rfl⟩
      obtain ⟨lb, hlb⟩ : ∃ b, allS k x (fun n => laS (stA l n)) i = b := ⟨_, rfl⟩
      rw [heb] at hE ⊢
      rw [hlb] at hL ⊢
      rw [hO0] at hO
      refine W_cs (.a 1 rfl <| .k [4, 9, 12, 13, 48, 49, 50, 51] rfl) ?_
      refine W_seq ?_
      refine W_cond rfl (fun hc => ?_) (fun hc => ?_)
      · have hlt : i < l.length := by have := tt hc; omega
        obtain ⟨g, hg⟩ : ∃ g, gnB k x i = g := ⟨_, rfl⟩
        obtain ⟨c, hcb⟩ : ∃ c, cnB T k x i = c := ⟨_, rfl⟩
        have hci := (hcc i (by omega)).trans hcb
        have hilt : i < N := by omega
        obtain ⟨s, hs⟩ : ∃ s, stA l i = s := ⟨_, rfl⟩
        have hsl : l.getD i 0 = s := hs
        simp only [hg, hcb, hs] at hE hL hO
        refine W_skip ?_
        refine W_seq ?_
        refine W_block ?_
        refine W_cs (.a 1 rfl <| .v (y_ix (i) rfl) rfl <| .v (y_ld rfl ((ints_get l i hlt).trans (by rw [hsl]))) rfl <| .a 2 rfl <| .k [4, 9, 12, 13, 14, 15, 48, 49, 50] rfl) ?_
        refine W_seq ?_
        refine W_cs (.a 2 rfl <| .c rfl (hg ▸ mgone_can k x i) rfl <| .k [4, 9, 12, 13, 14, 15, 48, 49, 50, 57] rfl) ?_
        refine W_cond rfl (fun hc => ?_) (fun hc => ?_)
        · rw [hc, Bool.true_or, Bool.and_true] at hE hL hO
          refine W_sub (keepT_sub (ks := [4, 9, 12, 13, 48, 49, 50]) rfl) ?_
          refine W_exit ?_
          refine W_chain (.v (y_ar rfl) rfl <| .a 1 rfl <| .k [4, 9, 12, 13, 48, 49, 50] rfl) ?_
          exact ⟨l.length - (i + 1), by omega, i + 1, by omega, hO, rfl, by rw [hE, hL]; rfl⟩
        · have hg0 : gnB k x i = false := hg.trans hc
          rw [hc, Bool.false_or] at hE hL hO
          refine W_skip ?_
          refine W_cs (.a 1 rfl <| .k [4, 9, 12, 13, 14, 48, 49, 50, 58] rfl) ?_
          refine W_block ?_
          refine W_cs (.a 2 rfl <| .k [4, 9, 12, 13, 14, 48, 49, 50, 58, 59] rfl) ?_
          refine W_cond rfl (fun hc => ?_) (fun hc => ?_)
          · have hs0 : s = 0 := tt hc
            subst hs0
            replace hE : allS k x (fun n => erS (cnB T k x n) (stA l n)) (i + 1) = (eb && !c) := by rw [hE]; simp [erS]
            replace hL : allS k x (fun n => laS (stA l n)) (i + 1) = false := by rw [hL]; simp [laS]
            replace hO : allS k x (fun n => okS (stA l n)) (i + 1) = true := by rw [hO]; rfl
            refine W_cs (.a 1 rfl <| .k [4, 9, 12, 13, 14, 48, 49, 50] rfl) ?_
            refine W_chainK 12 (.raw (.bool (eb && !c))) [4, 9, 13, 48, 49, 50] rfl ?_ ?_
            · refine .a 2 rfl <| ?_
              cases eb
              · exact .a 7 rfl <| .k [12, 4, 9, 13, 48, 49, 50] rfl
              · exact .a 2 rfl <| .v (y_ix (i) rfl) rfl <| .v (y_ld rfl ((bools_getP _ i (by rw [hcl]; exact hilt)).trans (by rw [hci]; try rfl))) rfl <| .a 3 rfl <| .k [12, 4, 9, 13, 48, 49, 50] rfl
            refine W_chain (.v (y_ar rfl) rfl <| .a 1 rfl <| .k [4, 9, 12, 13, 48, 49, 50] rfl) ?_
            exact ⟨l.length - (i + 1), by omega, i + 1, by omega, hO, rfl, by rw [hE, hL]; rfl⟩
          · have n0 : ¬ s = 0 := ff hc
            refine W_cs (.a 2 rfl <| .k [4, 9, 12, 13, 14, 48, 49, 50, 58, 69] rfl) ?_
            refine W_cond rfl (fun hc => ?_) (fun hc => ?_)
            · have hs0 : s = 1 := tt hc
              subst hs0
              replace hE : allS k x (fun n => erS (cnB T k x n) (stA l n)) (i + 1) = (eb && c) := by rw [hE]; simp [erS]
              replace hL : allS k x (fun n => laS (stA l n)) (i + 1) = false := by rw [hL]; simp [laS]
              replace hO : allS k x (fun n => okS (stA l n)) (i + 1) = true := by rw [hO]; rfl
              refine W_cs (.a 1 rfl <| .k [4, 9, 12, 13, 14, 48, 49, 50] rfl) ?_
              refine W_chainK 12 (.raw (.bool (eb && c))) [4, 9, 13, 48, 49, 50] rfl ?_ ?_
              · refine .a 2 rfl <| ?_
                cases eb
                · exact .a 6 rfl <| .k [12, 4, 9, 13, 48, 49, 50] rfl
                · exact .a 2 rfl <| .v (y_ix (i) rfl) rfl <| .v (y_ld rfl ((bools_getP _ i (by rw [hcl]; exact hilt)).trans (by rw [hci]; try rfl))) rfl <| .a 2 rfl <| .k [12, 4, 9, 13, 48, 49, 50] rfl
              refine W_chain (.v (y_ar rfl) rfl <| .a 1 rfl <| .k [4, 9, 12, 13, 48, 49, 50] rfl) ?_
              exact ⟨l.length - (i + 1), by omega, i + 1, by omega, hO, rfl, by rw [hE, hL]; rfl⟩
            · have n1 : ¬ s = 1 := ff hc
              refine W_cs (.a 2 rfl <| .k [4, 9, 12, 13, 48, 49, 50, 58, 78] rfl) ?_
              refine W_cond rfl (fun hc => ?_) (fun hc => ?_)
              · have hs0 : s = 2 := tt hc
                subst hs0
                replace hE : allS k x (fun n => erS (cnB T k x n) (stA l n)) (i + 1) = eb := by rw [hE]; simp [erS]
                replace hL : allS k x (fun n => laS (stA l n)) (i + 1) = lb := by rw [hL]; simp [laS]
                replace hO : allS k x (fun n => okS (stA l n)) (i + 1) = true := by rw [hO]; rfl
                refine W_skip ?_
                refine W_chain (.v (y_ar rfl) rfl <| .a 1 rfl <| .k [4, 9, 12, 13, 48, 49, 50] rfl) ?_
                exact ⟨l.length - (i + 1), by omega, i + 1, by omega, hO, rfl, by rw [hE, hL]; rfl⟩
              · have n2 : ¬ s = 2 := ff hc
                refine W_cs (.a 2 rfl <| .k [4, 9, 13, 48, 49, 50, 80] rfl) ?_
                refine W_cond rfl (fun hc => ?_) (fun hc => ?_)
                · have hs0 : s = 3 := tt hc
                  subst hs0
                  replace hE : allS k x (fun n => erS (cnB T k x n) (stA l n)) (i + 1) = false := by rw [hE]; simp [erS]
                  replace hL : allS k x (fun n => laS (stA l n)) (i + 1) = lb := by rw [hL]; simp [laS]
                  replace hO : allS k x (fun n => okS (stA l n)) (i + 1) = true := by rw [hO]; rfl
                  refine W_chain (.a 1 rfl <| .k [4, 9, 12, 13, 48, 49, 50] rfl) ?_
                  refine W_chain (.v (y_ar rfl) rfl <| .a 1 rfl <| .k [4, 9, 12, 13, 48, 49, 50] rfl) ?_
                  exact ⟨l.length - (i + 1), by omega, i + 1, by omega, hO, rfl, by rw [hE, hL]; rfl⟩
                · have n3 : ¬ s = 3 := ff hc
                  refine W_cs (.a 1 rfl <| .k [6] rfl) ?_
                  refine W_ret ?_
                  have hbad : allS k x (fun n => okS (stA l n)) l.length = false := by
                    refine allS_bad hlt hg0 ?_
                    show okS (stA l i) = false
                    rw [hs]
                    unfold okS
                    by_cases h1 : 0 ≤ s
                    · rw [decide_eq_false (by omega : ¬ s ≤ 3), Bool.and_false]
                    · rw [decide_eq_false h1, Bool.false_and]
                  exact ⟨_, _, ResL.of rfl, Pur.pure, by rw [hP, hbad]; rfl⟩
      · have hie : i = l.length := by have := ff hc; omega
        subst hie
        refine W_exit ?_
        refine W_csK 6 (.raw (.bool (eb || lb))) [] rfl ?_ ?_
        · refine .a 2 rfl <| ?_
          cases eb
          · exact .a 3 rfl <| .k [6] rfl
          · exact .a 3 rfl <| .k [6] rfl
        refine W_ret ?_
        exact ⟨_, _, ResL.of rfl, Pur.pure, by rw [hP, hO0, heb, hlb]; rfl⟩
end PW
end Go.Proofs.YtnegbdpggideiaaGreatDoor

namespace Go.Proofs.YtnegbdpggideiaaGreatDoor
set_option linter.unusedVariables false
set_option linter.unusedSimpArgs false
namespace PW
open Go.RowKit Reg Mem Net
def SmallS (s:List Seg):Prop:=∀g∈s,0≤g.kind∧g.kind<100∧0≤g.num∧g.num<100
def nmB (g:Seg):List UInt8:=32::(Lib.decDigits g.kind.toNat++58::Lib.decDigits g.num.toNat)
def nameL (n:Nat) (s:List Seg):List UInt8:=Lib.decDigits n++s.flatMap nmB
def Dig (c:UInt8):Prop:=48≤c.toNat∧c.toNat≤57
theorem dec_dig {n:Nat} (h:n<100):∀c∈Lib.decDigits n,Dig c:=by
 intro c hc
 by_cases h1:n<10
 ·rw[Lib.decDigits_one h1,List.mem_singleton]at hc
  subst hc
  unfold Dig
  rw[UInt8.toNat_ofNat']
  omega
 ·rw[Lib.decDigits_two h1 h]at hc
  simp only[List.mem_cons,List.not_mem_nil,or_false]at hc
  rcases hc with rfl|rfl<;>(unfold Dig;rw[UInt8.toNat_ofNat'];omega)
theorem ofNat_inj {a b:Nat} (ha:a<256) (hb:b<256) (h:UInt8.ofNat a=UInt8.ofNat b):a=b:=by
 have:=congrArg UInt8.toNat h
 rw[UInt8.toNat_ofNat',UInt8.toNat_ofNat']at this
 omega
theorem dec_inj {m n:Nat} (hm:m<100) (hn:n<100) (h:Lib.decDigits m=Lib.decDigits n):m=n:=by
 by_cases h1:m<10<;>by_cases h2:n<10
 ·rw[Lib.decDigits_one h1,Lib.decDigits_one h2]at h
  have:=ofNat_inj (by omega) (by omega) (List.cons.inj h).1
  omega
 ·rw[Lib.decDigits_one h1,Lib.decDigits_two h2 hn]at h
  cases(List.cons.inj h).2
 ·rw[Lib.decDigits_two h1 hm,Lib.decDigits_one h2]at h
  cases(List.cons.inj h).2
 ·rw[Lib.decDigits_two h1 hm,Lib.decDigits_two h2 hn]at h
  have e1:=ofNat_inj (by omega) (by omega) (List.cons.inj h).1
  have e2:=ofNat_inj (by omega) (by omega) (List.cons.inj (List.cons.inj h).2).1
  omega
theorem dec_len {n:Nat} (h:n<100):(Lib.decDigits n).length≤2∧0<(Lib.decDigits n).length:=by
 by_cases h1:n<10
 ·rw[Lib.decDigits_one h1];simp
 ·rw[Lib.decDigits_two h1 h];simp
theorem dig_split:∀(A B X Y:List UInt8),(∀c∈A,Dig c)→(∀c∈B,Dig c)→(∀c Z,X=c::Z→¬Dig c)→(∀c Z,Y=c::Z→¬Dig c)→A++X=B++Y→A=B∧X=Y
 | [],[],X,Y,_,_,_,_,h=>⟨rfl,h⟩
 | [],b::B,X,Y,_,hB,hX,_,h=>absurd (hB b (by simp)) (hX b (B++Y) h)
 |a::A,[],X,Y,hA,_,_,hY,h=>absurd (hA a (by simp)) (hY a (A++X) h.symm)
 |a::A,b::B,X,Y,hA,hB,hX,hY,h=>by
  obtain⟨h1,h2⟩:=List.cons.inj h
  obtain⟨h3,h4⟩:=dig_split A B X Y (fun c hc=>hA c (by simp[hc])) (fun c hc=>hB c (by simp[hc])) hX hY h2
  exact⟨by rw[h1,h3],h4⟩
theorem segs_head {s:List Seg}:∀c Z,s.flatMap nmB=c::Z→¬Dig c:=by
 intro c Z h
 cases s with
 |nil=>cases h
 |cons g s=>
  rw[List.flatMap_cons]at h
  have:=(List.cons.inj h).1
  subst this
  unfold Dig
  decide
theorem segs_inj:∀ {s s':List Seg},SmallS s→SmallS s'→s.flatMap nmB=s'.flatMap nmB→s=s'
 | [],[],_,_,_=>rfl
 | [],g::s',_,_,h=>by rw[List.flatMap_cons]at h;cases h
 |g::s,[],_,_,h=>by rw[List.flatMap_cons]at h;cases h
 |g::s,g'::s',h1,h2,h=>by
  obtain⟨a1,a2,a3,a4⟩:=h1 g (by simp)
  obtain⟨b1,b2,b3,b4⟩:=h2 g' (by simp)
  rw[List.flatMap_cons,List.flatMap_cons]at h
  unfold nmB at h
  rw[List.cons_append,List.cons_append,List.append_assoc,List.append_assoc]at h
  obtain⟨e1,e2⟩:=dig_split _ _ _ _ (dec_dig (by omega)) (dec_dig (by omega)) (fun c Z h=>by rw[List.cons_append]at h;have:=(List.cons.inj h).1;subst this;unfold Dig;decide) (fun c Z h=>by rw[List.cons_append]at h;have:=(List.cons.inj h).1;subst this;unfold Dig;decide) (List.cons.inj h).2
  rw[List.cons_append,List.cons_append]at e2
  obtain⟨e3,e4⟩:=dig_split _ _ _ _ (dec_dig (by omega)) (dec_dig (by omega)) (segs_head (s:=s)) (segs_head (s:=s')) (List.cons.inj e2).2
  have k1:=dec_inj (by omega) (by omega) e1
  have k2:=dec_inj (by omega) (by omega) e3
  have k3:=segs_inj (fun x hx=>h1 x (by simp[hx])) (fun x hx=>h2 x (by simp[hx])) e4
  obtain⟨gk,gn⟩:=g
  obtain⟨gk',gn'⟩:=g'
  simp only at a1 b1 a3 b3 k1 k2
  rw[k3,show gk=gk' by omega,show gn=gn' by omega]
theorem name_inj {n n':Nat} {s s':List Seg} (hn:n<100) (hn':n'<100) (h1:SmallS s) (h2:SmallS s') (h:nameL n s=nameL n' s'):n=n'∧s=s':=by
 unfold nameL at h
 obtain⟨e1,e2⟩:=dig_split _ _ _ _ (dec_dig hn) (dec_dig hn') (segs_head (s:=s)) (segs_head (s:=s')) h
 exact⟨dec_inj hn hn' e1,segs_inj h1 h2 e2⟩
theorem name_len {s:List Seg} (h:SmallS s):(s.flatMap nmB).length≤s.length*6:=by
 induction s with
 |nil=>simp
 |cons g s ih=>
  obtain⟨a1,a2,a3,a4⟩:=h g (by simp)
  have:=ih (fun x hx=>h x (by simp[hx]))
  have h1:=dec_len (n:=g.kind.toNat) (by omega)
  have h2:=dec_len (n:=g.num.toNat) (by omega)
  have h3:(nmB g).length=2+(Lib.decDigits g.kind.toNat).length+(Lib.decDigits g.num.toNat).length:=by
   unfold nmB
   simp only[List.length_cons,List.length_append]
   omega
  rw[List.flatMap_cons,List.length_append,h3,List.length_cons]
  omega
end PW
end Go.Proofs.YtnegbdpggideiaaGreatDoor

namespace Go.Proofs.YtnegbdpggideiaaGreatDoor
set_option linter.unusedVariables false
set_option linter.unusedSimpArgs false
namespace PW
open Go.RowKit Reg Mem Net Rng
noncomputable def outS (T:Topo) (tb:Nat→Tab) (p0:Pkt) (n:Nat) (s:List Seg):Out:=stepO T (tb n) (pkt0 p0 s)
structure Runs (T:Topo) (tb:Nat→Tab) (p0:Pkt) (Φ:Nat→Nat→List Seg→Prop):Prop where
 node:∀ {u n s},Φ u n s→(n:Int)<T.nodes
 small:∀ {u n s},Φ u n s→SmallS s∧s.length≤1000
 step:∀ {u n s},Φ u n s→(outS T tb p0 n s).arcs=[]∨((outS T tb p0 n s).arcs.length≤1000∧outS T tb p0 n s=leaveO (pkt0 p0 s) (outS T tb p0 n s).pkt.stack (outS T tb p0 n s).arcs∧
  ∀a∈(outS T tb p0 n s).arcs,∃b m:Nat,a=(b:Int)∧b<2*T.links.length∧headN T b=(m:Int)∧∃u',u'<u∧Φ u' m (outS T tb p0 n s).pkt.stack)
def brF (cs:List Int):Int:=cs.foldl (fun a c=>min (a+c) 1001) 0
def brT (arcs:List Int) (cs:List Int):Int:=if arcs=[] then 1 else brF cs
def plcP (n:Nat) (o:Out) (vs:List PV) (c:Int):List PV:=[num n,num o.why,intsV o.arcs,.slice vs.length vs,flag false,num c]
inductive Good (T:Topo) (tb:Nat→Tab) (p0:Pkt) (Φ:Nat→Nat→List Seg→Prop):PV→Nat→List Seg→Int→Prop
 |mk {n:Nat} {s:List Seg} {vs:List PV} {cs:List Int} {u:Nat}:Φ u n s→vs.length=(outS T tb p0 n s).arcs.length→cs.length=(outS T tb p0 n s).arcs.length→
   (∀i,i<(outS T tb p0 n s).arcs.length→Good T tb p0 Φ (vs.getD i .any) (headN T ((outS T tb p0 n s).arcs.getD i 0).toNat).toNat (outS T tb p0 n s).pkt.stack (cs.getD i 0))→
   Good T tb p0 Φ (.pin (plcP n (outS T tb p0 n s) vs (brT (outS T tb p0 n s).arcs cs)) 0) n s (brT (outS T tb p0 n s).arcs cs)
theorem brF_snoc (cs:List Int) (c:Int):brF (cs++[c])=min (brF cs+c) 1001:=by simp[brF]
section
variable {T:Topo} {tb:Nat→Tab} {p0:Pkt} {Φ:Nat→Nat→List Seg→Prop}
theorem brF_bound:∀(cs:List Int) (b:Int),0≤b→b≤1001→(∀c∈cs,0≤c)→0≤cs.foldl (fun a c=>min (a+c) 1001) b∧cs.foldl (fun a c=>min (a+c) 1001) b≤1001
 | [],b,h1,h2,_=>⟨h1,h2⟩
 |c::cs,b,h1,h2,h3=>by
  have:=h3 c (by simp)
  exact brF_bound cs (min (b+c) 1001) (by omega) (by omega) (fun x hx=>h3 x (by simp[hx]))
theorem Good.bound {v:PV} {n:Nat} {s:List Seg} {c:Int} (h:Good T tb p0 Φ v n s c):0≤c∧c≤1001:=by
 induction h with
 | @mk n s vs cs u _ _ h2 _ ih=>
  unfold brT
  split
  ·omega
  ·refine brF_bound cs 0 (by omega) (by omega) fun c hc=>?_
   obtain⟨i,hi⟩:=List.getElem?_of_mem hc
   have hlt:=(List.getElem?_eq_some_iff.1 hi).1
   have:=(ih i (by rw[←h2];exact hlt)).1
   rw[List.getD_eq_getElem?_getD,hi]at this
   exact this
theorem Good.state {v:PV} {n:Nat} {s:List Seg} {c:Int} (h:Good T tb p0 Φ v n s c):∃u,Φ u n s:=by
 cases h with
 |mk h _ _ _=>exact⟨_,h⟩
theorem Good.pure {v:PV} {n:Nat} {s:List Seg} {c:Int} (h:Good T tb p0 Φ v n s c):IsPure v:=by
 induction h with
 | @mk n s vs cs u _ h1 _ _ ih=>
  haveI:IsPureL vs:=⟨fun i x hx=>by
   have hlt:=(List.getElem?_eq_some_iff.1 hx).1
   have:=ih i (by rw[←h1];exact hlt)
   rw[List.getD_eq_getElem?_getD,hx]at this
   exact this⟩
  unfold plcP
  infer_instance
theorem Good.parts {v:PV} {n:Nat} {s:List Seg} {c:Int} (h:Good T tb p0 Φ v n s c):∃vs cs,v= .pin (plcP n (outS T tb p0 n s) vs c) 0∧vs.length=(outS T tb p0 n s).arcs.length∧cs.length=(outS T tb p0 n s).arcs.length∧c=brT (outS T tb p0 n s).arcs cs∧
  ∀i,i<(outS T tb p0 n s).arcs.length→Good T tb p0 Φ (vs.getD i .any) (headN T ((outS T tb p0 n s).arcs.getD i 0).toNat).toNat (outS T tb p0 n s).pkt.stack (cs.getD i 0):=by
 cases h with
 | @mk _ _ vs cs u h1 h2 h3 h4=>exact⟨vs,cs,rfl,h2,h3,rfl,h4⟩
inductive Beh (T:Topo) (tb:Nat→Tab) (p0:Pkt):Nat→List Seg→Nat→List Seg→Prop
 |one {n m:Nat} {s:List Seg} {a:Int}:a∈(outS T tb p0 n s).arcs→headN T a.toNat=(m:Int)→Beh T tb p0 n s m (outS T tb p0 n s).pkt.stack
 |more {n m:Nat} {s:List Seg} {a:Int} {n':Nat} {s':List Seg}:Beh T tb p0 n' s' n s→a∈(outS T tb p0 n s).arcs→headN T a.toNat=(m:Int)→Beh T tb p0 n' s' m (outS T tb p0 n s).pkt.stack
theorem Runs.one (R:Runs T tb p0 Φ) {u n m:Nat} {s:List Seg} {a:Int} (h:Φ u n s) (ha:a∈(outS T tb p0 n s).arcs) (hm:headN T a.toNat=(m:Int)):∃u',u'<u∧Φ u' m (outS T tb p0 n s).pkt.stack:=by
 rcases R.step h with h0|⟨_,_,h2⟩
 ·rw[h0]at ha;cases ha
 ·obtain⟨b,m',rfl,_,h3,u',h4,h5⟩:=h2 a ha
  rw[Int.toNat_natCast,h3]at hm
  have:m'=m:=by omega
  subst this
  exact⟨u',h4,h5⟩
theorem Runs.beh (R:Runs T tb p0 Φ) {n m:Nat} {s s':List Seg} (h:Beh T tb p0 n s m s'):∀ {u:Nat},Φ u n s→∃u',u'<u∧Φ u' m s':=by
 induction h with
 |one ha hm=>intro u hu;exact R.one hu ha hm
 |more _ ha hm ih=>
  intro u hu
  obtain⟨u1,h1,h2⟩:=ih hu
  obtain⟨u2,h3,h4⟩:=R.one h2 ha hm
  exact⟨u2,by omega,h4⟩
theorem Runs.not_self (R:Runs T tb p0 Φ) {n:Nat} {s:List Seg} (h:Beh T tb p0 n s n s):∀ {u:Nat},Φ u n s→False:=by
 intro u
 induction u using Nat.strongRecOn with
 |_ u ih=>
  intro hu
  obtain⟨u',h1,h2⟩:=R.beh h hu
  exact ih u' h1 h2
end
end PW
end Go.Proofs.YtnegbdpggideiaaGreatDoor

namespace Go.Proofs.YtnegbdpggideiaaGreatDoor
set_option linter.unusedVariables false
set_option linter.unusedSimpArgs false
namespace PW
open Go.RowKit Reg Mem
inductive Frz (i:Nat):Blk→PV→PV→Prop
 |same {blk:Blk} (p:PV):Frz i blk p p
 |ptr {ty:TypeId} {xs:List PV} (off:Nat):Frz i (.cells ty xs) (.ptr i off) (.pin xs off)
 |own {e s n:Nat} {xs:List PV}:Frz i (.row e s n xs) (.own i) (.slice n xs)
def FrzL (i:Nat) (blk:Blk) (xs ys:List PV):Prop:=ys.length=xs.length∧∀(j:Nat) x y,xs[j]? =some x→ys[j]? =some y→Frz i blk x y
theorem FrzL.nil {i:Nat} {blk:Blk}:FrzL i blk [] []:=⟨rfl,fun j x y h=>by simp at h⟩
theorem FrzL.cons {i:Nat} {blk:Blk} {x y:PV} {xs ys:List PV} (h:Frz i blk x y) (hs:FrzL i blk xs ys):FrzL i blk (x::xs) (y::ys):=⟨by simp[hs.1],fun j a b h1 h2=>by
 cases j with
 |zero=>simp at h1 h2;subst h1;subst h2;exact h
 |succ j=>exact hs.2 j a b (by simpa using h1) (by simpa using h2)⟩
theorem FrzL.refl {i:Nat} {blk:Blk} (xs:List PV):FrzL i blk xs xs:=⟨rfl,fun j x y h1 h2=>by rw[h1]at h2;cases h2;exact .same _⟩
inductive BFrz (i:Nat) (blk:Blk):Blk→Blk→Prop
 |same (b:Blk):BFrz i blk b b
 |cells {ty:TypeId} {xs ys:List PV}:FrzL i blk xs ys→BFrz i blk (.cells ty xs) (.cells ty ys)
 |row {e s n:Nat} {xs ys:List PV}:FrzL i blk xs ys→BFrz i blk (.row e s n xs) (.row e s n ys)
 |mp {kv kv':List (Value×PV)}:kv'.map (·.1)=kv.map (·.1)→FrzL i blk (kv.map (·.2)) (kv'.map (·.2))→BFrz i blk (.mp kv) (.mp kv')
def SFrz (i:Nat) (blk:Blk) (σ σ':Sto):Prop:=σ'.length=σ.length∧(σ'[i]? =some none)∧∀j,j≠i→(σ'[j]? =σ[j]? ∨∃b b',σ[j]? =some (some b)∧σ'[j]? =some (some b')∧BFrz i blk b b')
inductive TFrz (i:Nat) (blk:Blk) (t:Tms):Tms→Prop
 |nil:TFrz i blk t []
 |cons {t':Tms} (k:Nat) {p q:PV}:look k t=some p→Frz i blk p q→TFrz i blk t t'→TFrz i blk t ((k,q)::t')
theorem TFrz.get {i:Nat} {blk:Blk} {t t':Tms} (h:TFrz i blk t t'):∀k q,look k t'=some q→∃p,look k t=some p∧Frz i blk p q:=by
 induction h with
 |nil=>intro k q h;cases h
 |cons k h1 h2 _ ih=>
  intro j q hj
  simp only[look]at hj
  rw[Bool.cond_eq_ite]at hj
  split at hj
  ·rename_i he
   have:=Nat.eq_of_beq_eq_true he
   subst this
   cases hj
   exact⟨_,h1,h2⟩
  ·exact ih j q hj
section
variable {P:Program} {N L:Nat} {F:Nat→Prop} {base:Nat} {σ σ':Sto} {E:Env} {w:World}
theorem Frz.rep (hS:Sat F base σ E w) {i:Nat} {blk:Blk} (hi:σ[i]? =some (some blk)) {p q:PV} (h:Frz i blk p q):∀v,Rep E w v p→Rep (E.kill i) w v q:=by
 obtain⟨_,g⟩:=hS.kill i hi
 intro v hv
 cases h with
 |same _=>exact hv.goes g
 |own=>exact hS.seal hi hv
 | @ptr ty xs off=>
  obtain⟨b,cs,h1,h2,h3,h4⟩:=hS.blk i _ hi
  cases hv with
  |ptr _ _ b' hi' h=>
   have hb:b'=b:=by
    rcases h with h|⟨n,c,h⟩<;>rw[h1]at h<;>cases h
    rfl
   subst hb
   have:=Rep.pin (E:=E.kill i) (w:=w) b' 0 off cs.toList xs (Array.getElem?_eq_some_iff.1 h3).1 (fun hM=>hM.2 (by rw[h1];rfl)) (fun j x hx=>by rw[Nat.zero_add];unfold World.cell?;simp only[h3];simpa using hx) h4.1 (fun j x u k1 k2=>(h4.2 j x u k1 k2).goes g)
   rw[Nat.zero_add]at this
   exact this
theorem FrzL.rep (hS:Sat F base σ E w) {i:Nat} {blk:Blk} (hi:σ[i]? =some (some blk)) {xs ys:List PV} (h:FrzL i blk xs ys) {cs:List Value} (hs:RepL E w cs xs):RepL (E.kill i) w cs ys:=
 ⟨hs.1.trans h.1.symm,fun j x u k1 k2=>by
  have hj:j<xs.length:=by rw[←h.1];exact(List.getElem?_eq_some_iff.1 k2).1
  exact(h.2 j xs[j] u (by simp[hj]) k2).rep hS hi x (hs.2 j x _ k1 (by simp[hj]))⟩
theorem BFrz.sat (hS:Sat F base σ E w) {i:Nat} {blk:Blk} (hi:σ[i]? =some (some blk)) {b b':Blk} (h:BFrz i blk b b') {v:Value} (hb:BlkSat base E w v b):BlkSat base (E.kill i) w v b':=by
 obtain⟨_,g⟩:=hS.kill i hi
 cases h with
 |same _=>exact hb.goes g (fun _ _=>rfl)
 |cells hl=>
  obtain⟨b',cs,h1,h2,h3,h4⟩:=hb
  exact⟨b',cs,h1,h2,h3,hl.rep hS hi h4⟩
 |row hl=>
  obtain⟨cs,h1,h2⟩:=hb
  exact⟨cs,h1,hl.rep hS hi h2⟩
 |mp hk hl=>
  obtain⟨r,es,ck,h1,h2,h3,h4,h5⟩:=hb
  exact⟨r,es,ck,h1,h2,h3,h4.trans hk.symm,hl.rep hS hi h5⟩
theorem blkOf_frz {i:Nat} {blk:Blk} (hi:σ[i]? =some (some blk)) (h:SFrz i blk σ σ') {j:Nat} {b':Blk} (hj:σ'[j]? =some (some b')):j≠i∧∃b,σ[j]? =some (some b)∧BFrz i blk b b':=by
 have hne:j≠i:=fun e=>by subst e;rw[h.2.1]at hj;cases hj
 refine⟨hne,?_⟩
 rcases h.2.2 j hne with h|⟨b,b2,h1,h2,h3⟩
 ·rw[h]at hj;exact⟨b',hj,.same _⟩
 ·rw[h2]at hj;cases hj;exact⟨b,h1,h3⟩
theorem Sat.frz (hS:Sat F base σ E w) {i:Nat} {blk:Blk} (hi:σ[i]? =some (some blk)) (h:SFrz i blk σ σ'):Sat F base σ' (E.kill i) w:=by
 obtain⟨h1,g⟩:=hS.kill i hi
 have key:∀ {j:Nat} {b':Blk},σ'[j]? =some (some b')→∃b,(σ.set i none)[j]? =some (some b):=fun {j b'} hj=>by
  obtain⟨hne,b,hb,_⟩:=blkOf_frz hi h hj
  exact⟨b,by rw[List.getElem?_set,if_neg (Ne.symm hne)];exact hb⟩
 refine⟨h1.bl,fun b hb=>⟨(h1.fb b hb).1,fun j bl hj=>?_⟩,?_,fun b=>?_,fun j bl hj=>?_,fun j k bj bk b hj hk e1 e2=>?_,h1.gl⟩
 ·obtain⟨b2,hb2⟩:=key hj;exact(h1.fb b hb).2 j b2 hb2
 ·rw[h1.len,h.1,List.length_set]
 ·constructor
  ·intro hM
   rcases(h1.mm b).1 hM with hf|⟨j,bl,h3,h4⟩
   ·exact .inl hf
   ·obtain⟨hne,h5⟩:=set_none h3
    rcases h.2.2 j hne with h6|⟨b1,b2,_,h7,_⟩
    ·exact .inr ⟨j,bl,by rw[h6];exact h5,h4⟩
    ·exact .inr ⟨j,b2,h7,h4⟩
  ·rintro(hf|⟨j,bl,h3,h4⟩)
   ·exact(h1.mm b).2 (.inl hf)
   ·obtain⟨b2,hb2⟩:=key h3;exact(h1.mm b).2 (.inr ⟨j,b2,hb2,h4⟩)
 ·obtain⟨_,b,hb,hf⟩:=blkOf_frz hi h hj
  exact hf.sat hS hi (hS.blk j b hb)
 ·obtain⟨b1,hb1⟩:=key hj
  obtain⟨b2,hb2⟩:=key hk
  exact h1.inj j k b1 b2 b hb1 hb2 e1 e2
theorem W_frz {c:Code} {t t':Tms} {Q:Exit→St→Prop} (i:Nat) {blk:Blk} (hi:σ[i]? =some (some blk)) (hσ:SFrz i blk σ σ') (ht:TFrz i blk t t') (h:W P N L c ⟨t',σ'⟩ Q):W P N L c ⟨t,σ⟩ Q:=fun F base E₀ w₀ E a w hc hs=>by
 obtain⟨_,g⟩:=hs.sat.kill i hi
 refine h F base E₀ w₀ (E.kill i) a w (hc.on g (Below.refl _ _)) ⟨hs.sat.frz hi hσ,fun k q hq=>?_,hs.dfr,hs.size⟩
 obtain⟨p,h1,h2⟩:=ht.get k q hq
 exact h2.rep hs.sat hi _ (hs.tmp k p h1)
theorem WR_frz {ops:Array Oper} {l:List Oper} {t t':Tms} {K:St→Prop} (i:Nat) {blk:Blk} (hi:σ[i]? =some (some blk)) (hσ:SFrz i blk σ σ') (ht:TFrz i blk t t') (h:WR P N L ops l ⟨t',σ'⟩ K):WR P N L ops l ⟨t,σ⟩ K:=by
 intro F base E₀ w₀ E a w hc hs Q j hQ hl
 obtain⟨_,g⟩:=hs.sat.kill i hi
 refine h F base E₀ w₀ (E.kill i) a w (hc.on g (Below.refl _ _)) ⟨hs.sat.frz hi hσ,fun k q hq=>?_,hs.dfr,hs.size⟩ Q j hQ hl
 obtain⟨p,h1,h2⟩:=ht.get k q hq
 exact h2.rep hs.sat hi _ (hs.tmp k p h1)
end
end PW
end Go.Proofs.YtnegbdpggideiaaGreatDoor

namespace Go.Proofs.YtnegbdpggideiaaGreatDoor
set_option linter.unusedVariables false
set_option linter.unusedSimpArgs false
namespace PW
open Go.RowKit Reg Mem
def strE (l:List UInt8):Value:=.string ⟨l.toArray⟩
theorem bytes_beq (a b:List UInt8):((⟨a.toArray⟩:ByteArray)==⟨b.toArray⟩)=decide (a=b):=Bool.eq_iff_iff.2 (by
 rw[beq_toListBytes,beq_iff_eq,decide_eq_true_eq,ByteArray.toList_eq,ByteArray.toList_eq])
section
variable {P:Program} {kt:TypeId}
theorem chk_str (b:Bool) (n:Nat) (hu:P.underlying kt=some .string) (a:List UInt8) (w:World):(Instr.checkKey b (n+1) kt (strE a)).run P w= .ok () w:=by
 simp only[Instr.checkKey,Sem.run_bind,run_underlying hu,Result.andThen_ok,Sem.run_pure,strE]
theorem eq_str (n:Nat) (hu:P.underlying kt=some .string) (a b:List UInt8) (w:World):(Op.equalIn (n+1) kt (strE a) (strE b)).run P w= .ok (decide (a=b)) w:=by
 have h:=run_equalIn_string w n kt ⟨a.toArray⟩ ⟨b.toArray⟩ hu
 rw[←beq_toListBytes,bytes_beq]at h
 exact h
theorem strKey (hu:P.underlying kt=some .string):MapKey P kt strE where
 chk:=fun b a w=>chk_str b 9999 hu a w
 eql:=fun a b w=>eq_str _ hu a b w
 now:=⟨_,hu,.inl fun a b=>by simp only[Instr.sameNow,strE,bytes_beq]⟩
 bits:=fun a=>by
  show Instr.sameBits 10000 (.string ⟨a.toArray⟩) (.string ⟨a.toArray⟩)=true
  unfold Instr.sameBits
  show((⟨a.toArray⟩:ByteArray)==⟨a.toArray⟩)=true
  rw[bytes_beq]
  exact decide_eq_true rfl
variable {t:Tms} {σ:Sto} {o:Oper}
theorem y_nilNe {x y:Operand} {ty tz:TypeId} (ho:o.op= .binOp .neq ty x y tz) (hk:ptrK P ty=true) (hx:evalO t x=some (.raw (.pointer none))) (hy:evalO t y=some (.raw (.pointer none))):Yield P σ t o (.raw (.bool false)):=by
 refine y_bin ho hx hy fun w=>?_
 unfold ptrK at hk
 split at hk
 ·rename_i e hu
  have key:∀d,(Op.equalIn (d+1) ty (.pointer none) (.pointer none)).run P w= .ok true w:=fun d=>by
   simp only[Op.equalIn,Sem.run_bind,run_underlying hu,Result.andThen_ok,Sem.run_pure,Option.isNone_none]
  have:=key 9999
  simp only[Nat.reduceAdd]at this
  simp[eqGuard,binOp,Op.equal,Op.maxDepth,this]
 ·cases hk
theorem y_pinNe {x y:Operand} {ty tz:TypeId} {xs:List PV} {k:Nat} (ho:o.op= .binOp .neq ty x y tz) (hk:ptrK P ty=true) (hx:evalO t x=some (.pin xs k)) (hy:evalO t y=some (.raw (.pointer none))):Yield P σ t o (.raw (.bool true)):=by
 intro F base E ρ w hρ _ hT
 have h1:=evalO_rep hρ hT hx
 have h2:=evalO_rep hρ hT hy
 generalize hz:ρ x=z at h1
 generalize hz':ρ y=z' at h2
 cases h2
 cases h1 with
 |pin b o' _ cs _ hb hM hc hl hr=>
  simp only[execOp,ho,hz,hz',Sem.run_bind,eqGuard,binOp,run_eqNil hk,Result.andThen_ok,Sem.run_pure]
  exact upon_val (.raw _)
end
end PW
end Go.Proofs.YtnegbdpggideiaaGreatDoor

namespace Go.Proofs.YtnegbdpggideiaaGreatDoor
set_option linter.unusedVariables false
set_option linter.unusedSimpArgs false
namespace PW
open Go.RowKit Reg Mem Net Rng
section
variable {T:Topo} {k x:Int} {d:Nat} {st:Nat→Int} {p0:Pkt}
end
end PW
end Go.Proofs.YtnegbdpggideiaaGreatDoor

namespace Go.Proofs.YtnegbdpggideiaaGreatDoor
set_option linter.unusedVariables false
set_option linter.unusedSimpArgs false
namespace PW
open Go.RowKit Reg Mem Net Rng
theorem nodup_sub {α:Type} [DecidableEq α]:∀(l m:List α),l.Nodup→(∀a∈l,a∈m)→l.length≤m.length
 | [],m,_,_=>Nat.zero_le _
 |a::l,m,hn,h=>by
  have ha:=h a (by simp)
  rw[List.nodup_cons]at hn
  have h2:=nodup_sub l (m.erase a) hn.2 (fun b hb=>(List.mem_erase_of_ne (fun e=>hn.1 (by rw[←e];exact hb))).2 (h b (by simp[hb])))
  rw[List.length_erase_of_mem ha]at h2
  have:=List.length_pos_of_mem ha
  simp only[List.length_cons]
  omega
section
variable {T:Topo} {k x:Int} {d:Nat} {st:Nat→Int} {p0:Pkt}
noncomputable def chS (T:Topo) (tb:Nat→Tab) (p0:Pkt) (m a:Nat):Nat→Nat×List Seg
 |0=>((headN T a).toNat,(outS T tb p0 m []).pkt.stack)
 |j+1=>((headN T ((outS T tb p0 (chS T tb p0 m a j).1 (chS T tb p0 m a j).2).arcs.getD 0 0).toNat).toNat,(outS T tb p0 (chS T tb p0 m a j).1 (chS T tb p0 m a j).2).pkt.stack)
noncomputable def allU (T:Topo) (tb:Nat→Tab) (p0:Pkt):List (Nat×List Seg):=
 (List.range T.nodes.toNat).flatMap fun m=>(m,[])::(List.range (2*T.links.length)).flatMap fun a=>(List.range (T.nodes.toNat+1)).map fun j=>chS T tb p0 m a j
def WayU (T:Topo) (k x:Int) (d:Nat) (st:Nat→Int) (p0:Pkt) (late:Bool) (u n:Nat) (s:List Seg):Prop:=
 (Open T k x d n s∧u=if late then T.nodes.toNat+rank T (maskL T k x) d n else 2*T.nodes.toNat+rank T [] d n)∨
  ∃(q:List Int) (m a j:Nat),Listed T k x d n s q∧u=q.length∧q.length<T.nodes.toNat∧(m:Int)<T.nodes∧a<2*T.links.length∧j+q.length≤T.nodes.toNat∧chS T (tbM T (maskL T k x) st) p0 m a j=(n,s)
theorem WayU.way {late:Bool} {u n:Nat} {s:List Seg} (h:WayU T k x d st p0 late u n s):Way T k x d late n s u:=by
 rcases h with h|⟨q,_,_,_,h1,h2,h3,_⟩
 ·exact .inl h
 ·exact .inr ⟨q,h1,h2,h3⟩
theorem WayU.mem {late:Bool} {u n:Nat} {s:List Seg} (h:WayU T k x d st p0 late u n s):(n,s)∈allU T (tbM T (maskL T k x) st) p0:=by
 unfold allU
 rcases h with⟨h,_⟩|⟨q,m,a,j,h1,_,_,h4,h5,h6,h7⟩
 ·have:=h.node
  rw[List.mem_flatMap]
  exact⟨n,List.mem_range.2 (by omega),by rw[h.nil];exact List.mem_cons_self⟩
 ·rw[List.mem_flatMap]
  refine⟨m,List.mem_range.2 (by omega),List.mem_cons_of_mem _ ?_⟩
  rw[List.mem_flatMap]
  refine⟨a,List.mem_range.2 h5,?_⟩
  rw[List.mem_map]
  exact⟨j,List.mem_range.2 (by omega),h7⟩
end
end PW
end Go.Proofs.YtnegbdpggideiaaGreatDoor
