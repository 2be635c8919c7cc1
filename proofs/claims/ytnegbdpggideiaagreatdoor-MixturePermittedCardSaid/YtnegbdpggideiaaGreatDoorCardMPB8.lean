/- Texts of the proof, part 8. -/
import Derived.ChangeKeysEq
import Derived.Test.YtnegbdpggideiaaGreatDoorCardMPB7
namespace Go.Proofs.YtnegbdpggideiaaGreatDoor
set_option linter.unusedVariables false
set_option linter.unusedSimpArgs false
namespace PW
open Go.RowKit Reg Mem Net
theorem CanS.ofCan {P:Program} {f:FuncId} {ps:List PV} {σ:Sto} {R:PV→Prop} (h:Can P f ps R) [IsPureL ps]:CanS P f ps σ (fun r σ'=>R r∧σ'=σ):=fun F base E w vs hS hR=>by
 refine(h E.M w vs (fun b hb=>hS.lt hb) hS.gl (hR.pure (fun _ h=>h))).mono ?_
 rintro e w' ⟨v,rfl,hE,r,hr,hv⟩
 exact⟨v,r,σ,E,rfl,⟨hr,rfl⟩,hS.ext hE,.ext hE,Below.ofExt hE hS.bl,hv.back⟩
section
variable {T:Topo} {D:List Bool} {d:Nat}
structure OrdP (T:Topo) (D:List Bool) (d:Nat) (O:List Int):Prop where
 nodup:O.Nodup
 mem:∀x,x∈O↔∃k:Nat,x=(k:Int)∧(k:Int)<T.nodes∧0≤dN T D d k
 pair:O.Pairwise fun x y=>dN T D d y.toNat≤dN T D d x.toNat
theorem OrdP.of (hv:validB T=true) (hd:(d:Int)<T.nodes) {O:List Int} (h1:O.Perm (hasL (distL T D d false) (distL T D d false).length)) (h2:O.Pairwise (bef (distL T D d false))):OrdP T D d O:=by
 obtain⟨hb1,_⟩:=distL_bound (D:=D) hv (dir:=false) hd
 refine⟨h1.nodup_iff.2 (hasL_nodup _ _),fun x=>?_,h2.imp fun {x y} h=>?_⟩
 ·rw[h1.mem_iff,hasL_mem]
  constructor
  ·rintro⟨k,e,h3,h4⟩;exact⟨k,e,by omega,h4⟩
  ·rintro⟨k,e,h3,h4⟩;exact⟨k,e,by omega,h4⟩
 ·unfold bef at h
  show(distL T D d false).getD _ 0≤(distL T D d false).getD _ 0
  omega
noncomputable def foldG (T:Topo) (D:List Bool) (d:Nat) (c:Int) (l:List Int):Int:=l.foldl (fun c a=>min 2 (c+cntS T D d (headN T a.toNat).toNat)) c
structure CntI (T:Topo) (D:List Bool) (d:Nat) (R cs:List Int) (i:Nat):Prop where
 len:(cs.length:Int)=T.nodes
 val:∀m:Nat,(m:Int)<T.nodes→cs.getD m 0=if m=d then 1 else if(m:Int)∈R.take i then cntS T D d m else 0
theorem CntI.start (hd:(d:Int)<T.nodes) (R:List Int):CntI T D d R ((List.replicate T.nodes.toNat 0).set d 1) 0:=by
 refine⟨by simp;omega,fun m hm=>?_⟩
 rw[List.getD_eq_getElem?_getD,List.getElem?_set]
 by_cases h:d=m
 ·subst h;rw[if_pos rfl,if_pos (by simp;omega),if_pos rfl];rfl
 ·rw[if_neg h,if_neg (fun e=>h e.symm),List.getElem?_replicate,if_pos (by omega)];rfl
theorem CntI.next (hv:validB T=true) (hd:(d:Int)<T.nodes) {O cs:List Int} {i m a y:Nat} (hO:OrdP T D d O) (h:CntI T D d O.reverse cs i) (hi:i<O.reverse.length) (hm:O.reverse.getD i 0=(m:Int)) (ha:(a:Int)∈nextL T D m d) (hy:headN T a=(y:Int)):cs.getD y 0=cntS T D d y∧y≠m∧(y:Int)<T.nodes:=by
 obtain⟨b,hb,hn⟩:=next_mem ha
 have hba:b=a:=by omega
 subst hba
 obtain⟨y',hy',hyN⟩:=head_nat hv hn.arc
 have:y'=y:=by omega
 subst this
 have hdy:=hn.dN hy
 have hc:=(sound_of hv).cost b hn.arc
 refine⟨?_,fun e=>by subst e;omega,hyN⟩
 rw[h.val y' hyN]
 by_cases hyd:y'=d
 ·subst hyd;rw[if_pos rfl,cnt_self]
 ·rw[if_neg hyd,if_pos ?_]
  have hyO:(y':Int)∈O.reverse:=List.mem_reverse.2 ((hO.mem _).2 ⟨y',rfl,hyN,hdy.1⟩)
  have hs:O.reverse=O.reverse.take i++(m:Int)::O.reverse.drop (i+1):=by rw[←hm,←drop_cons _ _ hi,List.take_append_drop]
  have hp:O.reverse.Pairwise fun x y=>dN T D d x.toNat≤dN T D d y.toNat:=List.pairwise_reverse.2 hO.pair
  rw[hs]at hp hyO
  rcases List.mem_append.1 hyO with h1|h1
  ·exact h1
  ·exfalso
   have hp2:=(List.pairwise_append.1 hp).2.1
   rcases List.mem_cons.1 h1 with h2|h2
   ·have:y'=m:=by omega
    subst this;omega
   ·have:=(List.pairwise_cons.1 hp2).1 _ h2
    simp only[Int.toNat_natCast]at this
    omega
theorem CntI.fresh {O cs:List Int} {i m:Nat} (hO:OrdP T D d O) (h:CntI T D d O.reverse cs i) (hi:i<O.reverse.length) (hm:O.reverse.getD i 0=(m:Int)):(m:Int)<T.nodes∧0≤dN T D d m∧cs.getD m 0=if m=d then 1 else 0:=by
 have hmO:(m:Int)∈O.reverse:=by rw[←hm];exact getD_mem hi
 obtain⟨k,hk,hkN,hk0⟩:=(hO.mem _).1 (List.mem_reverse.1 hmO)
 have:k=m:=by omega
 subst this
 refine⟨hkN,hk0,?_⟩
 rw[h.val k hkN]
 have hs:O.reverse=O.reverse.take i++(k:Int)::O.reverse.drop (i+1):=by rw[←hm,←drop_cons _ _ hi,List.take_append_drop]
 have hn:O.reverse.Nodup:=List.pairwise_reverse.2 (hO.nodup.imp fun h=>fun e=>h e.symm)
 rw[hs]at hn
 have hnot:¬(k:Int)∈O.reverse.take i:=fun h1=>(List.pairwise_append.1 hn).2.2 _ h1 (k:Int) (by simp) rfl
 rw[if_neg hnot]
theorem CntI.step (hv:validB T=true) (hd:(d:Int)<T.nodes) {O cs:List Int} {i m:Nat} (hO:OrdP T D d O) (h:CntI T D d O.reverse cs i) (hi:i<O.reverse.length) (hm:O.reverse.getD i 0=(m:Int)):CntI T D d O.reverse (cs.set m (foldG T D d (cs.getD m 0) (nextL T D m d))) (i+1):=by
 obtain⟨hmN,_,hf⟩:=h.fresh hO hi hm
 have hml:m<cs.length:=by have:=h.len;omega
 refine⟨by simpa using h.len,fun x hx=>?_⟩
 rw[List.getD_eq_getElem?_getD,List.getElem?_set,take_step _ _ 0 hi,hm]
 by_cases hxm:m=x
 ·subst hxm
  rw[if_pos rfl,if_pos hml,Option.getD_some,hf]
  by_cases hmd:m=d
  ·subst hmd;rw[if_pos rfl,if_pos rfl,next_self];rfl
  ·rw[if_neg hmd,if_neg hmd,if_pos (by simp),cnt_eq hv hd hmN hmd];rfl
 ·rw[if_neg hxm,←List.getD_eq_getElem?_getD,h.val x hx]
  by_cases hxd:x=d
  ·rw[if_pos hxd,if_pos hxd]
  ·rw[if_neg hxd,if_neg hxd]
   have:(x:Int)∈O.reverse.take i++[(m:Int)]↔(x:Int)∈O.reverse.take i:=by
    simp only[List.mem_append,List.mem_singleton]
    exact⟨fun h=>h.elim id (fun e=>absurd e (by omega)),.inl⟩
   by_cases h1:(x:Int)∈O.reverse.take i
   ·rw[if_pos h1,if_pos (this.2 h1)]
   ·rw[if_neg h1,if_neg (fun h2=>h1 (this.1 h2))]
theorem CntI.done (hv:validB T=true) (hd:(d:Int)<T.nodes) {O cs:List Int} {n:Nat} (hO:OrdP T D d O) (h:CntI T D d O.reverse cs O.reverse.length) (hn:(n:Int)<T.nodes):cs.getD n 0=cntS T D d n:=by
 rw[h.val n hn,List.take_length]
 by_cases hnd:n=d
 ·subst hnd;rw[if_pos rfl,cnt_self]
 ·rw[if_neg hnd]
  by_cases h1:(n:Int)∈O.reverse
  ·rw[if_pos h1]
  ·rw[if_neg h1]
   refine(cnt_unr hv hd hn (Int.not_le.1 fun h0=>h1 (List.mem_reverse.2 ((hO.mem _).2 ⟨n,rfl,hn,h0⟩)))).symm
theorem foldG_zero (c:Int):foldG T D d c []=c:=rfl
theorem foldG_step (c:Int) (l:List Int) (k a:Nat) (hk:k<l.length) (ha:l.getD k 0=(a:Int)):foldG T D d c (l.take (k+1))=min 2 (foldG T D d c (l.take k)+cntS T D d (headN T a).toNat):=by
 unfold foldG
 rw[take_step _ _ 0 hk,List.foldl_append,ha]
 rfl
theorem foldG_range (hv:validB T=true) (hd:(d:Int)<T.nodes) (c:Int) (h0:0≤c) (h2:c≤2) (l:List Int):0≤foldG T D d c l∧foldG T D d c l≤2:=fold2_le _ (fun a=>(cnt_rangeS hv hd _).1) l c h0 h2
theorem set_same (cs:List Int) (m:Nat) (hm:m<cs.length):cs.set m (cs.getD m 0)=cs:=by
 rw[List.getD_eq_getElem?_getD,List.getElem?_eq_getElem hm,Option.getD_some,List.set_getElem_self]
end
def cntV (T:Topo) (D:List Bool) (n d:Int) (c:Int):PV:=.tuple [num (if nodeE T D n d=0 then c else 0),num (nodeE T D n d)]
set_option maxRecDepth 10000 in
set_option maxHeartbeats 2000000 in
theorem count_can (T:Topo) (D:List Bool) (n d:Int) (h12:T.nodes≤12):Can Tryz.prog 178 [topoV T,boolsV D,num n,num d,num 2] (· =cntV T D n d (cntS T D d.toNat n.toNat)):=by
 refine can_of Tryz.func178 rfl Tryz.ntmps178 rfl ?_
 refine W_cs (.a 3 rfl<|.k [1,2,3,4,5] rfl) ?_
 refine W_cs (.a 4 rfl<|.c rfl (dists_can T D n d) rfl<|.a 5 rfl<|.k [1,2,3,4,5,12,13] rfl) ?_
 refine W_seq ?_
 refine W_cs (.a 2 rfl<|.k [1,2,3,4,5,12,13,31] rfl) ?_
 refine W_cond rfl (fun hc=>?_) (fun hc=>?_)
 ·have he:nodeE T D n d≠0:=tt hc
  refine W_cs (.a 3 rfl<|.k [10,11] rfl) ?_
  refine W_ret ?_
  exact⟨_,_,ResL.of rfl,Pur.pure,by unfold cntV;rw[if_neg he];rfl⟩
 ·have he:nodeE T D n d=0:=Classical.byContradiction (ff hc)
  rw[he]
  obtain⟨hv,hf,hn,hd⟩:=nodeE_zero he
  rw[nodeB_iff]at hn hd
  obtain⟨n,rfl⟩:=Int.eq_ofNat_of_zero_le hn.1
  obtain⟨d,rfl⟩:=Int.eq_ofNat_of_zero_le hd.1
  have hn:=hn.2
  have hd:=hd.2
  have hll:=links_le hv
  have hS:=sound_of hv
  obtain⟨hb1,hb2⟩:=distL_bound (D:=D) hv (dir:=false) hd
  obtain⟨N,hN⟩:∃N:Nat,T.nodes=(N:Int):=⟨T.nodes.toNat,by omega⟩
  have hNt:T.nodes.toNat=N:=by omega
  refine W_skip ?_
  refine W_seq ?_
  refine W_cs (.a 2 rfl<|.k [1,2,3,4,5,12,34] rfl) ?_
  refine W_cond rfl (fun hc=>?_) (fun hc=>?_)
  ·cases hc
  ·refine W_skip ?_
   refine W_cs (.a 1 rfl<|.c rfl (leaving_can T hv) rfl<|.a 1 rfl<|.k [1,2,3,4,5,12,14] rfl) ?_
   refine W_rs ?_
   refine WR_a 2 rfl<|WR_l (l_make rfl (fok.rk.get rfl) rfl rfl hN hN ⟨by unfold maxLen;omega,by omega⟩) rfl<|WR_a 1 rfl<|WR_k [1,2,3,4,5,12,14,15] rfl ?_
   refine W_sto (σ':=[irow (List.replicate N 0)]) (by unfold irow;rw[List.length_replicate,←zeros_ints];rfl) ?_
   refine W_rs ?_
   refine WR_a 3 rfl<|WR_v (y_min (c:=1) rfl rfl rfl rfl) rfl<|WR_v (y_ix (d) rfl (by omega) (by rw[List.length_replicate];omega)) rfl<|WR_loud0 ((by first|exact l_storeInts rfl (fok.tk.get rfl) rfl rfl rfl (by first|omega|(simp;omega))|exact l_storeBools rfl (fok.tk.get rfl) rfl rfl rfl (by first|omega|(simp;omega)))) rfl rfl<|WR_k [1,2,3,4,5,12,14,15] rfl ?_
   refine W_sto (σ':=[irow ((List.replicate T.nodes.toNat 0).set d 1)]) ?_ ?_
   ·rw[hNt];unfold irow;simp only[List.length_set,List.length_replicate];rfl
   have hI0:=CntI.start (D:=D) hd
   generalize (List.replicate T.nodes.toNat (0:Int)).set d 1=cs0 at hI0
   refine W_rs ?_
   refine WR_a 1 rfl<|WR_cS rfl rfl (CanS.mono (sorted_can (distL T D d false) cs0 (by omega)) (fun _ σ' h=>?_))
   obtain⟨O,hO1,hO2,rfl,rfl⟩:=h
   refine WR_a 1 rfl<|WR_k [1,2,3,4,5,12,14,15,16] rfl ?_
   have hO:=OrdP.of hv hd hO1 hO2
   have hOl:O.length≤12:=by have:=hO1.length_eq;have:=hasL_len (distL T D d false) (distL T D d false).length;omega
   refine W_rs ?_
   refine WR_a 1 rfl<|WR_cS rfl rfl (CanS.mono (reverse_can O (irow cs0) hOl) (fun _ σ' h=>?_))
   subst h
   refine WR_k [1,2,3,4,5,12,14,15,16] rfl ?_
   refine W_seq ?_
   refine W_cs (.a 3 rfl<|.k [1,2,3,4,5,12,14,15,49,50,51] rfl) ?_
   refine W_block ?_
   refine W_k [1,2,3,4,5,12,14,15,49,50,51] rfl ?_
   refine W_loop (fun r st=>∃(cs:List Int) (i:Nat),i≤O.reverse.length∧r=O.reverse.length - i∧CntI T D d O.reverse cs i∧st=⟨[(1,boolsV D),(2,num n),(3,num d),(4,num 2),(5,.pin (topoP T) 0),(12,intsV (distL T D d false)),(14,rowsV (rowsL (tailN T) T.nodes.toNat (2*T.links.length))),(15,.own 0),(49,.own 1),(50,num O.reverse.length),(51,num i)],[irow cs,irow O.reverse]⟩) O.reverse.length ⟨cs0,0,by omega,by omega,hI0 _,rfl⟩ ?_
   rintro r st ⟨cs,i,hi,rfl,hI,rfl⟩
   have hRl:O.reverse.length≤12:=by simpa using hOl
   refine W_cs (.a 1 rfl<|.k [1,2,3,4,5,12,14,15,49,50,51,52] rfl) ?_
   refine W_seq ?_
   refine W_cond rfl (fun hx=>?_) (fun hx=>?_)
   ·have hlt:i<O.reverse.length:=by have:=tt hx;omega
    obtain⟨m,hm⟩:∃m:Nat,O.reverse.getD i 0=(m:Int):=by
     obtain⟨k,hk,_⟩:=(hO.mem _).1 (List.mem_reverse.1 (getD_mem (d:=0) hlt))
     exact⟨k,hk⟩
    obtain⟨hmN,hm0,hf0⟩:=hI.fresh hO hlt hm
    have hcl:=hI.len
    have hrow:=rows_out T m (by omega)
    have hnx:=dnext_can T D (distL T D d false) (outL T m) m d hv hf hb1 hb2 hmN hd (fun a ha=>outL_mem ha) (Nat.le_trans (outTo_len T m _) (by omega))
    have hnx:Can Tryz.prog 148 [topoV T,boolsV D,intsV (distL T D d false),intsV (outL T m),num m,num d] (· =intsV (nextL T D m d)):=hnx
    have hnl:(nextL T D m d).length≤512:=by
     have h1:(nextL T D m d).length≤(outL T m).length:=by unfold nextL passL;split;simp;exact List.length_filter_le _ _
     exact Nat.le_trans h1 (Nat.le_trans (outTo_len T m _) (by omega))
    have hset:=set_same cs m (by omega)
    have hcr:0≤cs.getD m 0∧cs.getD m 0≤2:=by rw[hf0];split<;>omega
    refine W_skip ?_
    refine W_seq ?_
    refine W_block ?_
    refine W_cs (.v (y_ix (i) rfl) rfl<|.v (y_ld rfl ((ints_get _ i hlt).trans (by rw[hm]))) rfl<|.a 1 rfl<|.k [1,2,3,4,5,12,14,15,18,49,50,51] rfl) ?_
    refine W_drs mixed (by kernel_rfl) (.a 5 rfl<|.v [58,59] (y_ix (m) rfl (by omega) (by rw[rowsL_len];omega)) rfl rfl<|.v [60] (y_ld rfl ((rows_getP _ m (by rw[rowsL_len];omega)).trans (by rw[hrow]))) rfl rfl<|.a 2 rfl<|.v [55,56,57,61,62,63] (y_c rfl (hnx)) rfl rfl<|.a 2 rfl<|.k [1,2,3,4,5,12,14,15,18,49,50,51,64,65,66] rfl) ?_
    refine W_block ?_
    refine W_k [1,2,3,4,5,12,14,15,18,49,50,51,64,65,66] rfl ?_
    refine W_loop (fun r st=>∃k:Nat,k≤(nextL T D m d).length∧r=(nextL T D m d).length - k∧st=⟨[(1,boolsV D),(2,num n),(3,num d),(4,num 2),(5,.pin (topoP T) 0),(12,intsV (distL T D d false)),(14,rowsV (rowsL (tailN T) T.nodes.toNat (2*T.links.length))),(15,.own 0),(18,num m),(49,.own 1),(50,num O.reverse.length),(51,num i),(64,intsV (nextL T D m d)),(65,num (nextL T D m d).length),(66,num k)],[irow (cs.set m (foldG T D d (cs.getD m 0) ((nextL T D m d).take k))),irow O.reverse]⟩) (nextL T D m d).length ⟨0,by omega,by omega,by rw[List.take_zero,foldG_zero,hset];rfl⟩ ?_
    rintro r st ⟨k,hk,rfl,rfl⟩
    have hfr:=foldG_range (D:=D) hv hd (cs.getD m 0) hcr.1 hcr.2 ((nextL T D m d).take k)
    have hfst:=foldG_step (T:=T) (D:=D) (d:=d) (cs.getD m 0) (nextL T D m d) k
    generalize hd12:foldG T D d (cs.getD m 0) ((nextL T D m d).take k)=c at hfr hfst
    refine W_cs (.a 1 rfl<|.k [1,2,3,4,5,12,14,15,18,49,50,51,64,65,66,67] rfl) ?_
    refine W_seq ?_
    refine W_cond rfl (fun hy=>?_) (fun hy=>?_)
    ·have hkl:k<(nextL T D m d).length:=by have:=tt hy;omega
     obtain⟨a,ha,han⟩:=next_mem (getD_mem (d:=0) hkl)
     have hmem:(a:Int)∈nextL T D m d:=by rw[←ha];exact getD_mem hkl
     obtain⟨y,hyh,hyN⟩:=head_nat hv han.arc
     obtain⟨hcy,hym,_⟩:=hI.next hv hd hO hlt hm hmem hyh
     have hh:=head_can T a han.arc (by omega)
     rw[hyh]at hh
     have hcyr:=cnt_rangeS (D:=D) hv hd y
     have hg1:(cs.set m c).getD y 0=cntS T D d y:=by rw[←hcy,List.getD_eq_getElem?_getD,List.getElem?_set,if_neg (fun e=>hym e.symm),←List.getD_eq_getElem?_getD]
     have hg2:(cs.set m c).getD m 0=c:=by rw[List.getD_eq_getElem?_getD,List.getElem?_set,if_pos rfl,if_pos (by omega)];rfl
     have hfst:=hfst a hkl ha
     rw[hyh,Int.toNat_natCast]at hfst
     refine W_skip ?_
     refine W_seq ?_
     refine W_block ?_
     refine W_cs (.v (y_ix (k) rfl) rfl<|.v (y_ld rfl ((ints_get _ k hkl).trans (by rw[ha]))) rfl<|.a 1 rfl<|.k [1,2,3,4,5,12,14,15,18,20,49,50,51,64,65,66] rfl) ?_
     refine W_cs (.a 3 rfl<|.c rfl (hh) rfl<|.v (y_ix (y) rfl (by omega) (by simp only[List.length_set];omega)) rfl<|.v (y_ld rfl ((ints_get _ y (by simp only[List.length_set];omega)).trans (by rw[hg1]))) rfl<|.a 1 rfl<|.k [1,2,3,4,5,12,14,15,18,21,49,50,51,64,65,66] rfl) ?_
     refine W_cs (.a 4 rfl<|.v (y_ix (m) rfl (by omega) (by simp only[List.length_set];omega)) rfl<|.v (y_ld rfl ((ints_get _ m (by simp only[List.length_set];omega)).trans (by rw[hg2]))) rfl<|.v (y_ar rfl) rfl<|.a 1 rfl<|.k [1,2,3,4,5,12,14,15,18,21,49,50,51,64,65,66,83] rfl) ?_
     refine W_cond rfl (fun hz=>?_) (fun hz=>?_)
     ·have hv2:foldG T D d (cs.getD m 0) ((nextL T D m d).take (k+1))=2:=by have:=tt hz;omega
      refine W_region ?_
      refine WR_a 3 rfl<|WR_v (y_ix (m) rfl (by omega) (by simp only[List.length_set];omega)) rfl<|WR_loud0 ((by first|exact l_storeInts rfl (fok.tk.get rfl) rfl rfl rfl (by first|omega|(simp;omega))|exact l_storeBools rfl (fok.tk.get rfl) rfl rfl rfl (by first|omega|(simp;omega)))) rfl rfl<|WR_k [1,2,3,4,5,12,14,15,18,49,50,51,64,65,66] rfl ?_
      refine W_chain (.v (y_ar rfl) rfl<|.a 1 rfl<|.k [1,2,3,4,5,12,14,15,18,49,50,51,64,65,66] rfl) ?_
      refine⟨(nextL T D m d).length - (k+1),by omega,k+1,by omega,rfl,?_⟩
      rw[hv2]
      unfold irow
      simp only[List.length_set,List.set_set]
      rfl
     ·have hv2:foldG T D d (cs.getD m 0) ((nextL T D m d).take (k+1))=c+cntS T D d y:=by have:=ff hz;omega
      refine W_region ?_
      refine WR_a 2 rfl<|WR_v (y_ix (m) rfl (by omega) (by simp only[List.length_set];omega)) rfl<|WR_v (y_ld rfl ((ints_get _ m (by simp only[List.length_set];omega)).trans (by rw[hg2]))) rfl<|WR_a 1 rfl<|WR_v (y_ar rfl) rfl<|WR_v (y_ix (m) rfl (by omega) (by simp only[List.length_set];omega)) rfl<|WR_loud0 ((by first|exact l_storeInts rfl (fok.tk.get rfl) rfl rfl rfl (by first|omega|(simp;omega))|exact l_storeBools rfl (fok.tk.get rfl) rfl rfl rfl (by first|omega|(simp;omega)))) rfl rfl<|WR_k [1,2,3,4,5,12,14,15,18,49,50,51,64,65,66] rfl ?_
      refine W_chain (.v (y_ar rfl) rfl<|.a 1 rfl<|.k [1,2,3,4,5,12,14,15,18,49,50,51,64,65,66] rfl) ?_
      refine⟨(nextL T D m d).length - (k+1),by omega,k+1,by omega,rfl,?_⟩
      rw[hv2]
      unfold irow
      simp only[List.length_set,List.set_set]
      rfl
    ·have hke:k=(nextL T D m d).length:=by have:=ff hy;omega
     refine W_exit ?_
     refine W_chain (.v (y_ar rfl) rfl<|.a 1 rfl<|.k [1,2,3,4,5,12,14,15,49,50,51] rfl) ?_
     have hI2:=hI.step hv hd hO hlt hm
     rw[hke,List.take_length]at hd12
     exact⟨O.reverse.length - (i+1),by omega,cs.set m (foldG T D d (cs.getD m 0) (nextL T D m d)),i+1,by omega,rfl,hI2,by rw[hd12];rfl⟩
   ·have hie:i=O.reverse.length:=by have:=ff hx;omega
    subst hie
    have hres:=hI.done hv hd hO hn
    have hcl:=hI.len
    refine W_exit ?_
    refine W_cs (.a 2 rfl<|.v (y_ix (n) rfl) rfl<|.v (y_ld rfl ((ints_get cs n (by omega)).trans (by rw[hres]))) rfl<|.a 2 rfl<|.k [10,11] rfl) ?_
    refine W_ret ?_
    exact⟨_,_,ResL.of rfl,Pur.pure,by unfold cntV;rw[he,if_pos rfl];rfl⟩
theorem cntV_uniq (T:Topo) (D:List Bool) (n d:Int):uniqB T D n d=(decide (nodeE T D n d=0)&&decide ((if nodeE T D n d=0 then cntS T D d.toNat n.toNat else 0)=1)):=by
 unfold uniqB
 by_cases h:nodeE T D n d=0
 ·rw[if_pos h]
 ·simp[h]
set_option maxRecDepth 10000 in
set_option maxHeartbeats 2000000 in
theorem unique_can (T:Topo) (D:List Bool) (n d:Int) (h12:T.nodes≤12):Can Tryz.prog 152 [topoV T,boolsV D,num n,num d] (· =flag (uniqB T D n d)):=by
 rw[cntV_uniq]
 obtain⟨q1,hq1⟩:∃q,decide (nodeE T D n d=0)=q:=⟨_,rfl⟩
 obtain⟨q2,hq2⟩:∃q,decide ((if nodeE T D n d=0 then cntS T D d.toNat n.toNat else 0)=1)=q:=⟨_,rfl⟩
 rw[hq1,hq2]
 refine can_of Tryz.func152 rfl Tryz.ntmps152 rfl ?_
 refine W_cs (.a 2 rfl<|.k [1,2,3,4] rfl) ?_
 refine W_cs (.a 4 rfl<|.c rfl (count_can T D n d h12) rfl<|.a 5 rfl<|.k [9,10] rfl) ?_
 refine W_csK 8 (.raw (.bool (q1&&q2))) [] rfl ?_ ?_
 ·refine .a 1 rfl<|.v (y_q rfl (hq1)) rfl<|.a 1 rfl<|?_
  cases q1
  ·exact .a 4 rfl<|.k [8] rfl
  ·exact .a 1 rfl<|.v (y_q rfl (hq2)) rfl<|.a 2 rfl<|.k [8] rfl
 refine W_ret ?_
 exact⟨_,_,ResL.of rfl,Pur.pure,rfl⟩
structure Best (L out:List Int) (i:Nat) (b:Int):Prop where
 none:b<0→∀k:Nat,k<i→0≤L.getD k 0→(k:Int)∈out
 some:∀n:Nat,b=(n:Int)→n<i∧0≤L.getD n 0∧¬(n:Int)∈out∧∀k:Nat,k<i→0≤L.getD k 0→¬(k:Int)∈out→L.getD k 0≤L.getD n 0
theorem Best.no {L out:List Int} {i:Nat} {b:Int} (h:Best L out i b) (h1:¬(0≤L.getD i 0∧¬(i:Int)∈out∧(b<0∨∃n:Nat,b=(n:Int)∧L.getD n 0<L.getD i 0))):Best L out (i+1) b:=by
 refine⟨fun hb k hk hk0=>?_,fun n hn=>?_⟩
 ·by_cases hki:k=i
  ·subst hki;exact Classical.byContradiction fun ho=>h1 ⟨hk0,ho,.inl hb⟩
  ·exact h.none hb k (by omega) hk0
 ·obtain⟨a1,a2,a3,a4⟩:=h.some n hn
  refine⟨by omega,a2,a3,fun k hk hk0 hko=>?_⟩
  by_cases hki:k=i
  ·subst hki;exact Int.not_lt.1 fun hl=>h1 ⟨hk0,hko,.inr ⟨n,hn,hl⟩⟩
  ·exact a4 k (by omega) hk0 hko
structure Part (L out:List Int):Prop where
 nodup:out.Nodup
 mem:∀x∈out,∃k:Nat,x=(k:Int)∧k<L.length∧0≤L.getD k 0
 pair:out.Pairwise fun x y=>L.getD y.toNat 0≤L.getD x.toNat 0
 rest:∀x∈out,∀k:Nat,k<L.length→0≤L.getD k 0→¬(k:Int)∈out→L.getD k 0≤L.getD x.toNat 0
theorem Part.len {L out:List Int} (h:Part L out):out.length≤L.length:=by
 have h1:=nodup_le L.length (out.map Int.toNat) (by
  unfold List.Nodup
  rw[List.pairwise_map]
  refine List.Pairwise.imp_of_mem ?_ h.nodup
  intro a b ha hb hne e
  obtain⟨k,rfl,_⟩:=h.mem a ha
  obtain⟨k',rfl,_⟩:=h.mem b hb
  simp only[Int.toNat_natCast]at e
  exact hne (by rw[e])) (fun x hx=>by
  obtain⟨y,hy,rfl⟩:=List.mem_map.1 hx
  obtain⟨k,rfl,hk,_⟩:=h.mem y hy
  simpa using hk)
 simpa using h1
end PW
end Go.Proofs.YtnegbdpggideiaaGreatDoor

namespace Go.Proofs.YtnegbdpggideiaaGreatDoor
set_option linter.unusedVariables false
set_option linter.unusedSimpArgs false
namespace PW
open Go.RowKit Reg Mem
section
variable {P:Program} {kt e:TypeId}
theorem beq_dec (a b:Int):(a==b)=decide (a=b):=Bool.eq_iff_iff.2 (by simp)
theorem chk_int (b:Bool) (n:Nat) (hu:P.underlying kt=some (.int .i64)) (a:Int) (w:World):(Instr.checkKey b (n+1) kt (.int .i64 a)).run P w= .ok () w:=by
 simp only[Instr.checkKey,Sem.run_bind,run_underlying hu,Result.andThen_ok,Sem.run_pure]
theorem eq_int (n:Nat) (hu:P.underlying kt=some (.int .i64)) (a b:Int) (w:World):(Op.equalIn (n+1) kt (.int .i64 a) (.int .i64 b)).run P w= .ok (decide (a=b)) w:=by
 simp only[Op.equalIn,Sem.run_bind,run_underlying hu,Result.andThen_ok,if_true,Sem.run_pure,beq_dec]
theorem intKey (hu:P.underlying kt=some (.int .i64)):MapKey P kt (fun n:Int=>Value.int .i64 n) where
 chk:=fun b a w=>chk_int b 9999 hu a w
 eql:=fun a b w=>eq_int _ hu a b w
 now:=⟨_,hu,.inl fun a b=>by simp only[Instr.sameNow,if_true,beq_dec]⟩
 bits:=fun a=>by unfold Instr.sameBits;simp
theorem run_part_int (he:P.underlying e=some (.int .i64)) {xs:Array Value} {off:Nat} {v:Value} (hx:xs[off]? =some v) (w:World):(Go.part e xs off).run P w= .ok v w:=by
 simp[Go.part,isAgg,run_underlying he,hx]
abbrev pairV (p:Int×Int):Array Value:= #[.int .i64 p.1,.int .i64 p.2]
theorem part0 (he:P.underlying e=some (.int .i64)) (a:Int×Int) (w:World):(Go.part e (pairV a) 0).run P w= .ok (.int .i64 a.1) w:=run_part_int he rfl w
theorem part1 (he:P.underlying e=some (.int .i64)) (a:Int×Int) (w:World):(Go.part e (pairV a) 1).run P w= .ok (.int .i64 a.2) w:=run_part_int he rfl w
theorem chk_pair {i:TypeInfo} (hu:P.underlying kt=some (.array 2 e)) (he:P.underlying e=some (.int .i64)) (hi:P.info? e=some i) (hs:i.size=1) (b:Bool) (n:Nat) (a:Int×Int) (w:World):(Instr.checkKey b (n+1+1) kt (.agg (pairV a))).run P w= .ok () w:=by
 have hz:(sizeOf e).run P w= .ok 1 w:=by simp[sizeOf,typeInfo,program,Sem.run,hi,hs]
 have hr:List.range' 0 2=[0,1]:=rfl
 rw[Instr.checkKey]
 simp only[Sem.run_bind,run_underlying hu,Result.andThen_ok]
 simp only[Std.Legacy.Range.forIn_eq_forIn_range',Std.Legacy.Range.size,Nat.sub_zero,Nat.add_one_sub_one,Nat.div_one]
 rw[hr]
 simp only[List.forIn_cons,List.forIn_nil,Sem.run_bind,hz,Result.andThen_ok,Sem.run_pure,Nat.mul_one,part0 he,part1 he,chk_int b n he]
theorem eq_pair {i:TypeInfo} (hu:P.underlying kt=some (.array 2 e)) (he:P.underlying e=some (.int .i64)) (hi:P.info? e=some i) (hs:i.size=1) (n:Nat) (a b:Int×Int) (w:World):(Op.equalIn (n+1+1) kt (.agg (pairV a)) (.agg (pairV b))).run P w= .ok (decide (a=b)) w:=by
 have hsz:P.cellsOf e=1:=by simp[Program.cellsOf,hi,hs]
 rw[run_equalIn_array w (n+1) _ _ hu hi,hsz]
 show(Op.eqItems (n+1) e 1 _ _ [0,1]).run P w=_
 simp only[Op.eqItems,Sem.run_bind,Nat.mul_one,part0 he,part1 he,Result.andThen_ok,eq_int n he,Sem.run_pure]
 obtain⟨a1,a2⟩:=a
 obtain⟨b1,b2⟩:=b
 by_cases h1:a1=b1<;>by_cases h2:a2=b2<;>simp[h1,h2,Sem.run_bind,part1 he,eq_int n he,Op.eqItems]
theorem pairKey {i:TypeInfo} (hu:P.underlying kt=some (.array 2 e)) (he:P.underlying e=some (.int .i64)) (hi:P.info? e=some i) (hs:i.size=1):MapKey P kt (fun p:Int×Int=>Value.agg (pairV p)) where
 chk:=fun b a w=>chk_pair hu he hi hs b 9998 a w
 eql:=fun a b w=>eq_pair hu he hi hs 9998 a b w
 now:=⟨_,hu,.inr fun a b=>by simp only[Instr.sameNow]⟩
 bits:=fun a=>by
  have h:=fun(n:Nat) (x:Int)=>show Instr.sameBits n (.int .i64 x) (.int .i64 x)=true by unfold Instr.sameBits;simp
  show Instr.sameBits (9999+1) _ _=true
  rw[Instr.sameBits]
  simp only[List.zip_cons_cons,List.all_cons,h]
  rfl
end
end PW
end Go.Proofs.YtnegbdpggideiaaGreatDoor

namespace Go.Proofs.YtnegbdpggideiaaGreatDoor
set_option linter.unusedVariables false
set_option linter.unusedSimpArgs false
namespace PW
open Go.RowKit Reg Mem Net
theorem mapI:mapK Tryz.prog 143=some (3,37):=by kernel_rfl
theorem mapP:mapK Tryz.prog 144=some (125,4):=by kernel_rfl
theorem zvI:zvK Tryz.prog 37=some (.slice none 0 0):=by kernel_rfl
theorem zvP:zvK Tryz.prog 4=some (.bool false):=by kernel_rfl
theorem slI:slK1 Tryz.prog 37=true:=by kernel_rfl
abbrev encI (n:Int):Value:=.int .i64 n
abbrev encP (p:Int×Int):Value:=.agg (pairV p)
theorem keyI:MapKey Tryz.prog 3 encI:=intKey Tryz.underlying3
theorem keyP:MapKey Tryz.prog 125 encP:=by
 have h:(Tryz.prog.info? 3).map (·.size)=some 1:=by kernel_rfl
 obtain⟨i,h1,h2⟩:=Option.map_eq_some_iff.1 h
 exact pairKey Tryz.underlying125 Tryz.underlying3 h1 h2
theorem builtP (a b:Int):Tryz.prog.built 125 [(0,.int .i64 a),(1,.int .i64 b)]=some #[.int .i64 a,.int .i64 b]:=by kernel_rfl
theorem y_pair {P:Program} {σ:Sto} {t:Tms} {o:Oper} {ty:TypeId} {x y:Operand} {a b:Int} (ho:o.op= .build ty #[(0,x),(1,y)]) (hx:evalO t x=some (num a)) (hy:evalO t y=some (num b)) (hb:P.built ty [(0,.int .i64 a),(1,.int .i64 b)]=some #[.int .i64 a,.int .i64 b]):Yield P σ t o (.agg [num a,num b]):=by
 intro F base E ρ w hρ hS hT
 have hrun:=run_build (P:=P) w ty #[(0,.int .i64 a),(1,.int .i64 b)] #[.int .i64 a,.int .i64 b] hb
 have h0:ρ x= .int .i64 a:=rep_raw (evalO_rep hρ hT hx)
 have h1:ρ y= .int .i64 b:=rep_raw (evalO_rep hρ hT hy)
 have hr:(execOp ρ o).run P w= .ok (.value (.agg #[.int .i64 a,.int .i64 b])) w:=by
  simp only[execOp,ho,Sem.run_bind,List.map_toArray,List.map_cons,List.map_nil,h0,h1,hrun,Result.andThen_ok,Sem.run_pure]
 rw[hr]
 refine upon_val (.agg #[.int .i64 a,.int .i64 b] _ rfl (fun i x u k1 k2=>?_))
 match i,k1,k2 with
 |0,k1,k2=>simp at k1 k2;subst k1;subst k2;exact .raw _
 |1,k1,k2=>simp at k1 k2;subst k1;subst k2;exact .raw _
 |_+2,k1,k2=>simp at k2
section
variable {κ:Type} [DecidableEq κ]
theorem lookM_set (k:κ) (p:PV):∀l:List (κ×PV),lookM k (setM k p l)=some p
 | []=>by simp[setM,lookM]
 |(a,q)::l=>by
  unfold setM
  split
  ·rename_i h;simp[lookM,h]
  ·rename_i h;simp only[lookM,if_neg h];exact lookM_set k p l
theorem y_memNil {P:Program} {σ:Sto} {t:Tms} {o:Oper} {x y:Operand} {ty tz:TypeId} {m:Option PV} (ho:o.op= .binOp .eql ty x y tz) (hk:slK1 P ty=true) (hx:evalO t x=some (m.getD (.raw (.slice none 0 0)))) (hy:evalO t y=some (.raw (.slice none 0 0))) (hm:∀v,m=some v→∃n xs,v= .slice n xs∧0<n):Yield P σ t o (.raw (.bool m.isNone)):=by
 cases m with
 |none=>exact y_isNil ho hk hx hy
 |some v=>
  obtain⟨n,xs,rfl,hn⟩:=hm v rfl
  exact y_notNil ho hk hx hy hn
end
def MemD (T:Topo) (D:List Bool) (dm:List (Int×PV)):Prop:=∀k v,(k,v)∈dm→∃d:Nat,k=(d:Int)∧(d:Int)<T.nodes∧v=intsV (distL T D d false)
def MemU (T:Topo) (D:List Bool) (um:List ((Int×Int)×PV)):Prop:=∀k v,(k,v)∈um→v=flag (uniqB T D k.1 k.2)
theorem MemD.pure {T:Topo} {D:List Bool} {dm:List (Int×PV)} (h:MemD T D dm):PureD (some (.mp (encM encI dm))):=fun b hb=>by
 cases hb
 refine⟨fun i u hu=>?_⟩
 have hm:=List.mem_of_getElem? hu
 simp only[encM,List.map_map,List.mem_map,Function.comp]at hm
 obtain⟨⟨k,v⟩,hkv,rfl⟩:=hm
 obtain⟨d,_,_,hv⟩:=h k v hkv
 show IsPure v
 rw[hv]
 infer_instance
theorem MemU.pure {T:Topo} {D:List Bool} {um:List ((Int×Int)×PV)} (h:MemU T D um):PureD (some (.mp (encM encP um))):=fun b hb=>by
 cases hb
 refine⟨fun i u hu=>?_⟩
 have hm:=List.mem_of_getElem? hu
 simp only[encM,List.map_map,List.mem_map,Function.comp]at hm
 obtain⟨⟨k,v⟩,hkv,rfl⟩:=hm
 show IsPure v
 rw[h k v hkv]
 infer_instance
theorem MemD.set {T:Topo} {D:List Bool} {dm:List (Int×PV)} (h:MemD T D dm) {d:Nat} (hd:(d:Int)<T.nodes):MemD T D (setM (d:Int) (intsV (distL T D d false)) dm):=fun k v hk=>by
 rcases mem_setM hk with e|e
 ·cases e;exact⟨d,rfl,hd,rfl⟩
 ·exact h k v e
theorem MemU.set {T:Topo} {D:List Bool} {um:List ((Int×Int)×PV)} (h:MemU T D um) (a b:Int):MemU T D (setM (a,b) (flag (uniqB T D a b)) um):=fun k v hk=>by
 rcases mem_setM hk with e|e
 ·cases e;rfl
 ·exact h k v e
theorem MemD.look {T:Topo} {D:List Bool} {dm:List (Int×PV)} (h:MemD T D dm) {d:Nat} {v:PV} (hl:lookM (d:Int) dm=some v):v=intsV (distL T D d false):=by
 obtain⟨d',h1,_,h2⟩:=h _ _ (lookM_mem hl)
 have:d'=d:=by omega
 subst this
 exact h2
def ndL (T:Topo) (n:Int) (p:List Int):List Int:=n::p.map fun a=>headN T a.toNat
def csL (T:Topo) (p:List Int):List Int:=(List.range (p.length+1)).map fun i=>costL T (p.take i)
theorem ndL_len (T:Topo) (n:Int) (p:List Int):(ndL T n p).length=p.length+1:=by simp[ndL]
theorem csL_len (T:Topo) (p:List Int):(csL T p).length=p.length+1:=by simp[csL]
theorem ndL_step (T:Topo) (n:Int) (p:List Int) (k:Nat) (h:k<p.length):ndL T n (p.take (k+1))=ndL T n (p.take k)++[headN T (p.getD k 0).toNat]:=by
 rw[take_step p k 0 h];simp[ndL]
theorem csL_step (T:Topo) (p:List Int) (k:Nat) (h:k<p.length):csL T (p.take (k+1))=csL T (p.take k)++[costL T (p.take (k+1))]:=by
 unfold csL
 rw[show(p.take (k+1)).length+1=(p.take k).length+1+1 by simp;omega,List.range_succ,List.map_append]
 congr 1
 ·refine List.map_congr_left fun i hi=>?_
  have:=List.mem_range.1 hi
  rw[List.take_take,List.take_take,Nat.min_eq_left (by simp at this;omega),Nat.min_eq_left (by simp at this;omega)]
 ·simp only[List.map_cons,List.map_nil,List.take_take]
  rw[Nat.min_eq_left (by simp;omega),show(p.take k).length+1=k+1 by simp;omega]
theorem ndL_get (T:Topo) (n:Int) (p:List Int) (i:Nat) (h:i≤p.length):(ndL T n p).getD i 0=endL T n (p.take i):=by
 cases i with
 |zero=>rfl
 |succ i=>
  rw[endL_step T n p i (by omega)]
  simp only[ndL,List.getD_cons_succ]
  rw[List.getD_eq_getElem?_getD,List.getElem?_map,List.getElem?_eq_getElem (by omega),List.getD_eq_getElem?_getD,List.getElem?_eq_getElem (by omega)]
  rfl
theorem csL_get (T:Topo) (p:List Int) (i:Nat) (h:i≤p.length):(csL T p).getD i 0=costL T (p.take i):=by
 unfold csL
 rw[List.getD_eq_getElem?_getD,List.getElem?_map,List.getElem?_range (by omega)]
 rfl
def folE (T:Topo) (D:List Bool) (n:Int) (p:List Int):Int:=if(validB T&&fitsB T D)=true then(if pathX T n p=0 then(if p.any (fun a=>downN D a.toNat) then 7 else 0) else pathX T n p) else 1
abbrev trkB (T:Topo) (D:List Bool) (p:List Int) (i:Nat):Option Blk:=some (.cells 146 (topoP T++[boolsV D,intsV p,.own i,.own (i+1),.own (i+2),.own (i+3)]))
def trk (T:Topo) (D:List Bool) (p ns cs:List Int) (dm:List (Int×PV)) (um:List ((Int×Int)×PV)):Sto:=
 [irow ns,irow cs,some (.mp (encM encI dm)),some (.mp (encM encP um)),trkB T D p 0]
theorem walk_arcs {T:Topo}:∀ {f:Bool} {n:Int} {l:List Int},walkE T f n l=0→∀a∈l,arcB T a=true
 |f,n,[],_,a,ha=>by cases ha
 |f,n,b::l,h,a,ha=>by
  simp only[walkE]at h
  split at h
  ·omega
  ·split at h
   ·omega
   ·rename_i h1 _
    rcases List.mem_cons.1 ha with rfl|ha
    ·simpa using h1
    ·exact walk_arcs h a ha
theorem pathX_zero {T:Topo} {n:Int} {p:List Int} (h:pathX T n p=0):validB T=true∧nodeB T n=true∧walkE T true n p=0:=by
 unfold pathX at h
 split at h
 ·rename_i h1
  split at h
  ·rename_i h2;exact⟨h1,h2,h⟩
  ·omega
 ·omega
theorem costL_take_le {T:Topo} (hv:validB T=true) {p:List Int} (ha:∀a∈p,arcB T a=true):∀k,k≤p.length→0≤costL T (p.take k)∧costL T (p.take k)≤65535*k
 |0,_=>by simp[costL_nil]
 |k+1,h=>by
  have:=costL_take_le hv ha k (by omega)
  rw[costL_step T p k (by omega)]
  have:=(arc_facts hv (ha _ (getD_mem (d:=0) (show k<p.length by omega)))).1
  omega
set_option maxRecDepth 10000 in
set_option maxHeartbeats 2000000 in
theorem follow_can (T:Topo) (D:List Bool) (p:List Int) (n:Int) (hp:p.length≤1000) (hlk:T.links.length≤256):CanS Tryz.prog 111 [topoV T,boolsV D,intsV p,num n] [] (fun r σ'=>(folE T D n p≠0∧r= .tuple [.raw (.pointer none),num (folE T D n p)])∨(folE T D n p=0∧r= .tuple [.ptr 4 0,num 0]∧σ'=trk T D p (ndL T n p) (csL T p) [] [])):=by
 obtain⟨q1,hq1⟩:∃q,validB T=q:=⟨_,rfl⟩
 obtain⟨q2,hq2⟩:∃q,fitsB T D=q:=⟨_,rfl⟩
 refine canS_of Tryz.func111 rfl Tryz.ntmps111 rfl ?_
 refine W_cs (.a 3 rfl<|.k [1,2,3,4] rfl) ?_
 refine W_seq ?_
 refine W_csK 25 (.raw (.bool ((!q1)|| !q2))) [1,2,3,4] rfl ?_ ?_
 ·refine .a 1 rfl<|.c rfl (hq1▸valid_can T) rfl<|.a 2 rfl<|?_
  cases q1
  ·exact .a 5 rfl<|.k [25,1,2,3,4] rfl
  ·exact .a 2 rfl<|.c rfl (hq2▸fits_can T D (by omega)) rfl<|.a 2 rfl<|.k [25,1,2,3,4] rfl
 refine W_cond rfl (fun hc=>?_) (fun hc=>?_)
 ·have he:folE T D n p=1:=by unfold folE;rw[hq1,hq2];cases q1<;>cases q2<;>first|rfl|cases hc
  refine W_cs (.a 2 rfl<|.k [8,9] rfl) ?_
  refine W_ret ?_
  exact⟨_,ResL.of rfl,.inl ⟨by rw[he];decide,by rw[he];rfl⟩⟩
 ·have hv:validB T=true:=by rw[hq1];cases q1;cases hc;rfl
  have hf:fitsB T D=true:=by rw[hq2];cases q2;cases q1<;>cases hc;rfl
  have hvf:(validB T&&fitsB T D)=true:=by rw[hv,hf];rfl
  refine W_skip ?_
  refine W_seq ?_
  refine W_cs (.a 3 rfl<|.c rfl (path_can T n p (by omega)) rfl<|.a 7 rfl<|.k [1,2,3,4,12] rfl) ?_
  refine W_cs (.a 2 rfl<|.k [1,2,3,4,12,35] rfl) ?_
  refine W_cond rfl (fun hx=>?_) (fun hx=>?_)
  ·have hx1:pathX T n p≠0:=tt hx
   have he:folE T D n p=pathX T n p:=by unfold folE;rw[if_pos hvf,if_neg hx1]
   refine W_cs (.a 3 rfl<|.k [8,9] rfl) ?_
   refine W_ret ?_
   exact⟨_,ResL.of rfl,.inl ⟨by rw[he];exact hx1,by rw[he];rfl⟩⟩
  ·have hx1:pathX T n p=0:=Classical.byContradiction (ff hx)
   obtain⟨_,hn,hw⟩:=pathX_zero hx1
   have ha:=walk_arcs hw
   have hcb:=costL_take_le hv ha
   refine W_skip ?_
   refine W_rs ?_
   refine WR_a 4 rfl<|WR_l (l_buildSlice (xs:=[_]) rfl (fok.sl.get rfl) ⟨Nat.le_of_ble_eq_true rfl,Nat.le_of_ble_eq_true rfl⟩ rfl rfl) rfl<|WR_l (l_buildSlice (xs:=[_]) rfl (fok.sl.get rfl) ⟨Nat.le_of_ble_eq_true rfl,Nat.le_of_ble_eq_true rfl⟩ rfl rfl) rfl<|WR_l (l_makeMap encI rfl) rfl<|WR_l (l_makeMap encP rfl) rfl<|WR_a 1 rfl<|WR_l (l_box rfl rfl rfl) rfl<|WR_a 1 rfl<|WR_k [1,2,4,13] rfl ?_
   refine W_cs (.a 1 rfl<|.k [1,2,4,13,14] rfl) ?_
   refine W_seq ?_
   refine W_cs (.a 3 rfl<|.k [1,4,13,14,47,48,49] rfl) ?_
   refine W_block ?_
   refine W_k [1,4,13,14,47,48,49] rfl ?_
   refine W_loop (fun r st=>∃k:Nat,k≤p.length∧r=p.length - k∧(∀a∈p.take k,downN D a.toNat=false)∧st=⟨[(1,boolsV D),(4,.pin (topoP T) 0),(13,.ptr 4 0),(14,num (costL T (p.take k))),(47,intsV p),(48,num p.length),(49,num k)],trk T D p (ndL T n (p.take k)) (csL T (p.take k)) [] []⟩) p.length ⟨0,by omega,by omega,by simp,rfl⟩ ?_
   rintro r st ⟨k,hk,rfl,hdn,rfl⟩
   have hck:=hcb k hk
   have hl1:=ndL_len T n (p.take k)
   have hl2:=csL_len T (p.take k)
   have hl3:(p.take k).length=k:=by simp;omega
   refine W_cs (.a 1 rfl<|.k [1,4,13,14,47,48,49,50] rfl) ?_
   refine W_seq ?_
   refine W_cond rfl (fun hy=>?_) (fun hy=>?_)
   ·have hlt:k<p.length:=by have:=tt hy;omega
    have hmem:=getD_mem (d:=0) hlt
    have hab:=ha _ hmem
    obtain⟨hac,m,hm,hmN⟩:=arc_facts hv hab
    have hst1:=ndL_step T n p k hlt
    have hst2:=csL_step T p k hlt
    have hst3:=costL_step T p k hlt
    have hab2:=hab
    simp only[arcB,decide_eq_true_eq]at hab2
    obtain⟨a,hae⟩:∃a:Nat,p.getD k 0=(a:Int):=⟨(p.getD k 0).toNat,by omega⟩
    have ham:a<2*T.links.length:=by omega
    have hD:D.length=0∨a<D.length:=by simp only[fitsB,decide_eq_true_eq]at hf;omega
    rw[hae,Int.toNat_natCast]at hm hac hst1 hst3
    have hh:=head_can T a ham (by omega)
    rw[hm]at hh
    refine W_skip ?_
    refine W_seq ?_
    refine W_block ?_
    refine W_cs (.v (y_ix (k) rfl) rfl<|.v (y_ld rfl ((ints_get p k hlt).trans (by rw[hae]))) rfl<|.a 1 rfl<|.k [1,4,13,14,16,47,48,49] rfl) ?_
    refine W_seq ?_
    refine W_cs (.a 2 rfl<|.c rfl (down_can D a hD) rfl<|.k [1,4,13,14,16,47,48,49,55] rfl) ?_
    refine W_cond rfl (fun hz=>?_) (fun hz=>?_)
    ·have he:folE T D n p=7:=by
      unfold folE
      rw[if_pos hvf,if_pos hx1,if_pos]
      exact List.any_eq_true.2 ⟨_,hmem,by rw[hae];exact hz⟩
     refine W_cs (.a 2 rfl<|.k [8,9] rfl) ?_
     refine W_ret ?_
     exact⟨_,ResL.of rfl,.inl ⟨by rw[he];decide,by rw[he];rfl⟩⟩
    ·have hdn2:∀a∈p.take (k+1),downN D a.toNat=false:=fun x hx=>by
      rw[take_step p k 0 hlt]at hx
      rcases List.mem_append.1 hx with h|h
      ·exact hdn x h
      ·simp only[List.mem_singleton]at h;rw[h,hae];exact hz
     refine W_skip ?_
     refine W_cs (.a 3 rfl<|.c rfl (cost_can T a ham) rfl<|.v (y_ar rfl (hn:=by unfold In64;omega)) rfl<|.a 1 rfl<|.k [1,4,13,14,16,47,48,49] rfl) ?_
     refine W_dfs 9 20 mixed (
      .late [13] rfl (r_move rfl rfl) inferInstance rfl rfl<|
      .val [13] rfl (y_a rfl) rfl rfl<|
      .val [62] rfl (y_a rfl) rfl rfl<|
      .val [63] rfl (y_a rfl) rfl rfl<|
      .val [64] rfl (y_a rfl) rfl rfl<|
      .val [4] rfl (y_a rfl) rfl rfl<|
      .val [16] rfl (y_a rfl) rfl rfl<|
      .val [66,67] rfl (y_c rfl (hh)) rfl rfl<|
      .val [68] rfl (y_a rfl) rfl rfl<|
      .nil) (by kernel_rfl) rfl rfl (keepT_sub (ks:=[1,4,13,14,47,48,49,61,65,69]) rfl) ?_
     refine WR_l (l_append rfl (fok.rk.get rfl) rfl rfl rfl rfl (by unfold maxLen;omega)) rfl<|WR_a 3 rfl ?_
     refine WR_ren [5,1,2,3,4] (.c 1<|.c 4<|.c 13<|.c 14<|.c 47<|.c 48<|.c 49<|.nil) (.kept rfl (.rowP rfl (intsP_snoc _ _))<|.kept rfl (.row RenL.pure)<|.same (MemD.pure (T:=T) (D:=D) (dm:=[]) (fun _ _ h=>by cases h)) rfl<|.same (MemU.pure (T:=T) (D:=D) (um:=[]) (fun _ _ h=>by cases h)) rfl<|.kept rfl (.cells (RenL.c<|RenL.c<|RenL.c<|RenL.c<|RenL.c<|RenL.c<|RenL.c<|RenL.c<|RenL.c<|RenL.nil))<|.nil) rfl rfl (WR_nil ?_)
     refine W_region ?_
     refine WR_a 7 rfl<|WR_l (l_append rfl (fok.rk.get rfl) rfl rfl rfl rfl (by unfold maxLen;omega)) rfl<|WR_a 3 rfl ?_
     refine WR_ren [0,5,2,3,4] (.c 1<|.c 4<|.c 13<|.c 14<|.c 47<|.c 48<|.c 49<|.nil) (.kept rfl (.row RenL.pure)<|.kept rfl (.rowP rfl (intsP_snoc _ _))<|.same (MemD.pure (T:=T) (D:=D) (dm:=[]) (fun _ _ h=>by cases h)) rfl<|.same (MemU.pure (T:=T) (D:=D) (um:=[]) (fun _ _ h=>by cases h)) rfl<|.kept rfl (.cells (RenL.c<|RenL.c<|RenL.c<|RenL.c<|RenL.c<|RenL.c<|RenL.c<|RenL.c<|RenL.c<|RenL.nil))<|.nil) rfl rfl (WR_nil ?_)
     refine W_chain (.v (y_ar rfl) rfl<|.a 1 rfl<|.k [1,4,13,14,47,48,49] rfl) ?_
     refine⟨p.length - (k+1),by omega,k+1,by omega,rfl,hdn2,?_⟩
     rw[hst1,hst2,hst3,hm]
     unfold trk irow
     simp only[List.length_append,List.length_singleton]
     rfl
   ·have hke:k=p.length:=by have:=ff hy;omega
    subst hke
    rw[List.take_length]at hdn
    refine W_exit ?_
    refine W_cs (.a 3 rfl<|.k [8,9] rfl) ?_
    refine W_ret ?_
    refine⟨_,ResL.of rfl,.inr ⟨?_,rfl,by rw[List.take_length]⟩⟩
    unfold folE
    rw[if_pos hvf,if_pos hx1,if_neg]
    intro h
    obtain⟨x,hx,hx2⟩:=List.any_eq_true.1 h
    rw[hdn x hx]at hx2
    cases hx2
noncomputable def covB (T:Topo) (D:List Bool) (n:Int) (p:List Int) (i j:Nat):Bool:=
 decide (dN T D (endL T n (p.take j)).toNat (endL T n (p.take i)).toNat=costL T (p.take j) - costL T (p.take i))&&uniqB T D (endL T n (p.take i)) (endL T n (p.take j))
theorem end_node {T:Topo} (hv:validB T=true) {n:Int} (hn:nodeB T n=true) {p:List Int} (ha:∀a∈p,arcB T a=true) (i:Nat) (hi:i≤p.length):∃u:Nat,endL T n (p.take i)=(u:Int)∧(u:Int)<T.nodes:=by
 cases i with
 |zero=>
  obtain⟨h0,h1⟩:=nodeB_iff.1 hn
  obtain⟨u,hu⟩:=Int.eq_ofNat_of_zero_le h0
  exact⟨u,hu,by rw[←hu];exact h1⟩
 |succ i=>
  rw[endL_step T n p i (by omega)]
  exact(arc_facts hv (ha _ (getD_mem (d:=0) (show i<p.length by omega)))).2
theorem chk_of {T:Topo} {D:List Bool} (hv:validB T=true) (hf:fitsB T D=true) {d:Nat} (hd:(d:Int)<T.nodes):chkE T D [(d:Int)]=0:=by
 unfold chkE
 rw[hv,hf]
 have:nodeB T (d:Int)=true:=nodeB_iff.2 ⟨by omega,hd⟩
 simp[this]
set_option maxRecDepth 10000 in
set_option maxHeartbeats 2000000 in
theorem covered_can (T : Topo) (D : List Bool) (p : List Int) (n : Int) (dm : List (Int × PV)) (um : List ((Int × Int) × PV)) (x : Option Blk) (hx : PureD x) (hv : validB T = true) (hf : fitsB T D = true) (h12 : T.nodes ≤ 12) (hn : nodeB T n = true) (ha : ∀ a ∈ p, arcB T a = true) (hp : p.length ≤ 1000) (i j : Nat) (hi : i ≤ p.length) (hj : j ≤ p.length) (hdm : MemD T D dm) (hum : MemU T D um) :
    CanS Tryz.prog 112 [.ptr 4 0, num i, num j] (trk T D p (ndL T n p) (csL T p) dm um ++ [x]) (fun r σ' => r = flag (covB T D n p i j) ∧ ∃ dm' um', MemD T D dm' ∧ MemU T D um' ∧ σ' = trk T D p (ndL T n p) (csL T p) dm' um' ++ [x]) := by
  obtain ⟨u, hu, huN⟩ := end_node hv hn ha i hi
  obtain ⟨y, hy, hyN⟩ := end_node hv hn ha j hj
  have hcv : covB T D n p i j = (decide (dN T D y u = costL T (p.take j) - costL T (p.take i)) && uniqB T D u y) := by unfold covB; rw [hu, hy, Int.toNat_natCast, Int.toNat_natCast]
  rw [hcv]
  obtain ⟨hb1, hb2⟩ := distL_bound (D := D) hv (dir := false) hyN
  have hS := sound_of hv
  have hNp := hS.nodes
  have hdi : Can Tryz.prog 151 [topoV T, boolsV D, num y] (· = .tuple [intsV (distL T D y false), num 0]) := by
    have h := dist_can T D (y : Int)
    rw [chk_of hv hf hyN] at h
    exact h
  have hci := costL_take_le hv ha i hi
  have hcj := costL_take_le hv ha j hj
  have hl1 := ndL_len T n p
  have hl2 := csL_len T p
  have hgi := ndL_get T n p i hi
  have hgj := ndL_get T n p j hj
  have hki := csL_get T p i hi
  have hkj := csL_get T p j hj
  rw [hu] at hgi
  rw [hy] at hgj
  have hmn : ∀ v, lookM (y : Int) dm = some v → ∃ n xs, v = .slice n xs ∧ 0 < n := fun v h => ⟨_, _, hdm.look h, by omega⟩
  refine canS_of Tryz.func112 rfl Tryz.ntmps112 rfl ?_
  refine W_cs (.a 1 rfl <| .k [0, 1, 2] rfl) ?_
  refine W_drs mixed (by kernel_rfl) (.a 5 rfl <| .v [15, 16] (y_ix (i) rfl) rfl rfl <| .v [17] (y_ld rfl ((ints_get _ i (by omega)).trans (by rw [hgi]))) rfl rfl <| .a 5 rfl <| .v [22, 23] (y_ix (j) rfl) rfl rfl <| .v [24] (y_ld rfl ((ints_get _ j (by omega)).trans (by rw [hgj]))) rfl rfl <| .a 2 rfl <| .k [0, 1, 2, 7, 8] rfl) ?_
  refine W_seq ?_
  refine W_cs (.a 5 rfl <| .v (y_look keyI rfl mapI zvI rfl rfl rfl (keyRaw _) rfl) rfl <| .v (y_memNil rfl slI rfl rfl hmn) rfl <| .k [0, 1, 2, 7, 8, 32] rfl) ?_
  refine W_cond rfl (fun h1 => ?_) (fun h1 => ?_)
  · obtain ⟨dm1, hdm1⟩ : ∃ z, setM (y : Int) (intsV (distL T D y false)) dm = z := ⟨_, rfl⟩
    have hdm2 : MemD T D dm1 := by rw [← hdm1]; exact hdm.set hyN
    have hlk : lookM (y : Int) dm1 = some (intsV (distL T D y false)) := by rw [← hdm1]; exact lookM_set _ _ _
    refine W_drawFlt 18 20 mixed (
      .val [0] rfl (y_a rfl) rfl rfl <|
      .val [34] rfl (y_a rfl) rfl rfl <|
      .val [35] rfl (y_a rfl) rfl rfl <|
      .val [36] rfl (y_a rfl) rfl rfl <|
      .val [8] rfl (y_a rfl) rfl rfl <|
      .val [0] rfl (y_a rfl) rfl rfl <|
      .val [39] rfl (y_a rfl) rfl rfl <|
      .val [40] rfl (y_a rfl) rfl rfl <|
      .val [41] rfl (y_a rfl) rfl rfl <|
      .val [0] rfl (y_a rfl) rfl rfl <|
      .val [43] rfl (y_a rfl) rfl rfl <|
      .val [44] rfl (y_a rfl) rfl rfl <|
      .val [45] rfl (y_a rfl) rfl rfl <|
      .val [8] rfl (y_a rfl) rfl rfl <|
      .val [42, 46, 47] rfl (y_c rfl (hdi)) rfl rfl <|
      .val [48] rfl (y_a rfl) rfl rfl <|
      .val [33] rfl (y_a rfl) rfl rfl <|
      .late [33] rfl (r_extract rfl rfl rfl) inferInstance rfl rfl <|
      .nil) (by kernel_rfl) rfl rfl (keepT_sub (ks := [0, 1, 2, 7, 8, 37, 38, 49]) rfl) ?_
    refine WR_loud0 (l_mapSet keyI rfl mapI rfl rfl rfl (keyRaw _) rfl) rfl rfl <| WR_k [0, 1, 2, 7, 8] rfl ?_
    refine W_sto (σ' := trk T D p (ndL T n p) (csL T p) dm1 um ++ [x]) (by rw [← hdm1]; rfl) ?_
    refine W_seq ?_
    refine W_drs mixed (by kernel_rfl) (.a 5 rfl <| .v [54, 55] (y_look keyI rfl mapI zvI rfl rfl rfl (keyRaw _) (by rw [hlk])) rfl rfl <| .a 1 rfl <| .v [56, 57] (y_ix (u) rfl) rfl rfl <| .v [58] (y_ld rfl (ints_get _ u (by omega))) rfl rfl <| .a 5 rfl <| .v [63, 64] (y_ix (j) rfl) rfl rfl <| .v [65] (y_ld rfl ((ints_get _ j (by omega)).trans (by rw [hkj]))) rfl rfl <| .a 5 rfl <| .v [70, 71] (y_ix (i) rfl) rfl rfl <| .v [72] (y_ld rfl ((ints_get _ i (by omega)).trans (by rw [hki]))) rfl rfl <| .v [66, 73] (y_ar rfl) rfl rfl <| .a 1 rfl <| .k [0, 7, 8, 75] rfl) ?_
    refine W_cond rfl (fun h2 => ?_) (fun h2 => ?_)
    · have h3 : dN T D y u ≠ costL T (p.take j) - costL T (p.take i) := tt h2
      refine W_cs (.a 1 rfl <| .k [6] rfl) ?_
      refine W_ret ?_
      refine ⟨_, ResL.of rfl, ?_, _, _, hdm2, hum, rfl⟩
      rw [decide_eq_false h3]
      rfl
    · have h3 : dN T D y u = costL T (p.take j) - costL T (p.take i) := Classical.byContradiction (ff h2)
      obtain ⟨b, hb⟩ : ∃ b : Bool, (lookM ((u : Int), (y : Int)) um).getD (.raw (.bool false)) = flag b := by
        cases h : lookM ((u : Int), (y : Int)) um with
        | none => exact ⟨false, rfl⟩
        | some v => exact ⟨_, hum _ _ (lookM_mem h)⟩
      refine W_skip ?_
      refine W_rs ?_
      refine WR_a 2 rfl <| WR_v (y_pair rfl rfl rfl (builtP _ _)) rfl <| WR_a 2 rfl <| WR_k [0, 7, 8, 9] rfl ?_
      refine W_sto (σ' := trk T D p (ndL T n p) (csL T p) dm1 um ++ [x, some (.cells 125 [num u, num y])]) rfl ?_
      refine W_drs mixed (by kernel_rfl) (.a 5 rfl <| .v [83, 84] (y_look2 keyP rfl mapP zvP rfl rfl rfl (keyAgg2 _ _) hb rfl) rfl rfl <| .a 5 rfl <| .k [0, 7, 8, 9, 10, 11] rfl) ?_
      refine W_seq ?_
      refine W_cs (.a 2 rfl <| .k [0, 7, 8, 9, 10, 89] rfl) ?_
      refine W_cond rfl (fun h4 => ?_) (fun h4 => ?_)
      · obtain ⟨um1, hum1⟩ : ∃ z, setM ((u : Int), (y : Int)) (flag (uniqB T D u y)) um = z := ⟨_, rfl⟩
        have hum2 : MemU T D um1 := by rw [← hum1]; exact hum.set u y
        refine W_drs mixed (by kernel_rfl) (.a 10 rfl <| .v [93, 97, 98, 99] (y_c rfl (unique_can T D u y h12)) rfl rfl <| .a 1 rfl <| .k [0, 9, 10] rfl) ?_
        refine W_drawFlt 6 20 mixed (
          .val [0] rfl (y_a rfl) rfl rfl <|
          .val [101] rfl (y_a rfl) rfl rfl <|
          .val [102] rfl (y_a rfl) rfl rfl <|
          .val [103] rfl (y_a rfl) rfl rfl <|
          .val [9] rfl (y_a rfl) rfl rfl <|
          .val [10] rfl (y_a rfl) rfl rfl <|
          .nil) (by kernel_rfl) rfl rfl (keepT_sub (ks := [10, 104, 105, 106]) rfl) ?_
        refine WR_loud0 (l_mapSet keyP (k := ((u : Int), (y : Int))) rfl mapP rfl rfl rfl (keyAgg2 (.int .i64 (u : Int)) (.int .i64 (y : Int))) rfl) rfl rfl <| WR_k [10] rfl ?_
        refine W_sto (σ' := trk T D p (ndL T n p) (csL T p) dm1 um1 ++ [x, some (.cells 125 [num u, num y])]) (by rw [← hum1]; rfl) ?_
        obtain ⟨b, hbu⟩ : ∃ b, b = uniqB T D u y := ⟨_, rfl⟩
        refine W_cs (.a 2 rfl <| .k [6] rfl) ?_
        refine W_ren [0, 1, 2, 3, 4, 5] (.c 6 <| .nil) (.kept rfl (.row RenL.pure) <| .kept rfl (.row RenL.pure) <| .same (MemD.pure hdm2) rfl <| .same (MemU.pure hum2) rfl <| .kept rfl (.cells (RenL.c <| RenL.c <| RenL.c <| RenL.c <| RenL.c <| RenL.c <| RenL.c <| RenL.c <| RenL.c <| RenL.nil)) <| .same hx rfl <| .nil) rfl rfl ?_
        refine W_ret ?_
        refine ⟨_, ResL.of rfl, ?_, _, _, hdm2, hum2, rfl⟩
        rw [decide_eq_true h3, Bool.true_and]
        first
          | rfl
          | (rw [hbu]; rfl)
      · have hbu : b = uniqB T D u y := by
          cases h : lookM ((u : Int), (y : Int)) um with
          | none => rw [h] at h4; cases h4
          | some v =>
            rw [h, hum _ _ (lookM_mem h)] at hb
            have := hb
            simp only [Option.getD_some] at this
            cases this
            rfl
        have hum2 := hum
        obtain ⟨um1, hum1⟩ : ∃ z, z = um := ⟨_, rfl⟩
        subst hum1
        refine W_skip ?_
        refine W_cs (.a 2 rfl <| .k [6] rfl) ?_
        refine W_ren [0, 1, 2, 3, 4, 5] (.c 6 <| .nil) (.kept rfl (.row RenL.pure) <| .kept rfl (.row RenL.pure) <| .same (MemD.pure hdm2) rfl <| .same (MemU.pure hum2) rfl <| .kept rfl (.cells (RenL.c <| RenL.c <| RenL.c <| RenL.c <| RenL.c <| RenL.c <| RenL.c <| RenL.c <| RenL.c <| RenL.nil)) <| .same hx rfl <| .nil) rfl rfl ?_
        refine W_ret ?_
        refine ⟨_, ResL.of rfl, ?_, _, _, hdm2, hum2, rfl⟩
        rw [decide_eq_true h3, Bool.true_and]
        first
          | rfl
          | (rw [hbu]; rfl)
  · obtain ⟨v, hv1⟩ : ∃ v, lookM (y : Int) dm = some v := by
      cases h : lookM (y : Int) dm with
      | none => rw [h] at h1; cases h1
      | some v => exact ⟨v, rfl⟩
    have hlk : lookM (y : Int) dm = some (intsV (distL T D y false)) := by rw [hv1, hdm.look hv1]
    have hdm2 := hdm
    obtain ⟨dm1, hdm1⟩ : ∃ z, z = dm := ⟨_, rfl⟩
    subst hdm1
    refine W_skip ?_
    refine W_seq ?_
    refine W_drs mixed (by kernel_rfl) (.a 5 rfl <| .v [54, 55] (y_look keyI rfl mapI zvI rfl rfl rfl (keyRaw _) (by rw [hlk])) rfl rfl <| .a 1 rfl <| .v [56, 57] (y_ix (u) rfl) rfl rfl <| .v [58] (y_ld rfl (ints_get _ u (by omega))) rfl rfl <| .a 5 rfl <| .v [63, 64] (y_ix (j) rfl) rfl rfl <| .v [65] (y_ld rfl ((ints_get _ j (by omega)).trans (by rw [hkj]))) rfl rfl <| .a 5 rfl <| .v [70, 71] (y_ix (i) rfl) rfl rfl <| .v [72] (y_ld rfl ((ints_get _ i (by omega)).trans (by rw [hki]))) rfl rfl <| .v [66, 73] (y_ar rfl) rfl rfl <| .a 1 rfl <| .k [0, 7, 8, 75] rfl) ?_
    refine W_cond rfl (fun h2 => ?_) (fun h2 => ?_)
    · have h3 : dN T D y u ≠ costL T (p.take j) - costL T (p.take i) := tt h2
      refine W_cs (.a 1 rfl <| .k [6] rfl) ?_
      refine W_ret ?_
      refine ⟨_, ResL.of rfl, ?_, _, _, hdm2, hum, rfl⟩
      rw [decide_eq_false h3]
      rfl
    · have h3 : dN T D y u = costL T (p.take j) - costL T (p.take i) := Classical.byContradiction (ff h2)
      obtain ⟨b, hb⟩ : ∃ b : Bool, (lookM ((u : Int), (y : Int)) um).getD (.raw (.bool false)) = flag b := by
        cases h : lookM ((u : Int), (y : Int)) um with
        | none => exact ⟨false, rfl⟩
        | some v => exact ⟨_, hum _ _ (lookM_mem h)⟩
      refine W_skip ?_
      refine W_rs ?_
      refine WR_a 2 rfl <| WR_v (y_pair rfl rfl rfl (builtP _ _)) rfl <| WR_a 2 rfl <| WR_k [0, 7, 8, 9] rfl ?_
      refine W_sto (σ' := trk T D p (ndL T n p) (csL T p) dm1 um ++ [x, some (.cells 125 [num u, num y])]) rfl ?_
      refine W_drs mixed (by kernel_rfl) (.a 5 rfl <| .v [83, 84] (y_look2 keyP rfl mapP zvP rfl rfl rfl (keyAgg2 _ _) hb rfl) rfl rfl <| .a 5 rfl <| .k [0, 7, 8, 9, 10, 11] rfl) ?_
      refine W_seq ?_
      refine W_cs (.a 2 rfl <| .k [0, 7, 8, 9, 10, 89] rfl) ?_
      refine W_cond rfl (fun h4 => ?_) (fun h4 => ?_)
      · obtain ⟨um1, hum1⟩ : ∃ z, setM ((u : Int), (y : Int)) (flag (uniqB T D u y)) um = z := ⟨_, rfl⟩
        have hum2 : MemU T D um1 := by rw [← hum1]; exact hum.set u y
        refine W_drs mixed (by kernel_rfl) (.a 10 rfl <| .v [93, 97, 98, 99] (y_c rfl (unique_can T D u y h12)) rfl rfl <| .a 1 rfl <| .k [0, 9, 10] rfl) ?_
        refine W_drawFlt 6 20 mixed (
          .val [0] rfl (y_a rfl) rfl rfl <|
          .val [101] rfl (y_a rfl) rfl rfl <|
          .val [102] rfl (y_a rfl) rfl rfl <|
          .val [103] rfl (y_a rfl) rfl rfl <|
          .val [9] rfl (y_a rfl) rfl rfl <|
          .val [10] rfl (y_a rfl) rfl rfl <|
          .nil) (by kernel_rfl) rfl rfl (keepT_sub (ks := [10, 104, 105, 106]) rfl) ?_
        refine WR_loud0 (l_mapSet keyP (k := ((u : Int), (y : Int))) rfl mapP rfl rfl rfl (keyAgg2 (.int .i64 (u : Int)) (.int .i64 (y : Int))) rfl) rfl rfl <| WR_k [10] rfl ?_
        refine W_sto (σ' := trk T D p (ndL T n p) (csL T p) dm1 um1 ++ [x, some (.cells 125 [num u, num y])]) (by rw [← hum1]; rfl) ?_
        obtain ⟨b, hbu⟩ : ∃ b, b = uniqB T D u y := ⟨_, rfl⟩
        refine W_cs (.a 2 rfl <| .k [6] rfl) ?_
        refine W_ren [0, 1, 2, 3, 4, 5] (.c 6 <| .nil) (.kept rfl (.row RenL.pure) <| .kept rfl (.row RenL.pure) <| .same (MemD.pure hdm2) rfl <| .same (MemU.pure hum2) rfl <| .kept rfl (.cells (RenL.c <| RenL.c <| RenL.c <| RenL.c <| RenL.c <| RenL.c <| RenL.c <| RenL.c <| RenL.c <| RenL.nil)) <| .same hx rfl <| .nil) rfl rfl ?_
        refine W_ret ?_
        refine ⟨_, ResL.of rfl, ?_, _, _, hdm2, hum2, rfl⟩
        rw [decide_eq_true h3, Bool.true_and]
        first
          | rfl
          | (rw [hbu]; rfl)
      · have hbu : b = uniqB T D u y := by
          cases h : lookM ((u : Int), (y : Int)) um with
          | none => rw [h] at h4; cases h4
          | some v =>
            rw [h, hum _ _ (lookM_mem h)] at hb
            have := hb
            simp only [Option.getD_some] at this
            cases this
            rfl
        have hum2 := hum
        obtain ⟨um1, hum1⟩ : ∃ z, z = um := ⟨_, rfl⟩
        subst hum1
        refine W_skip ?_
        refine W_cs (.a 2 rfl <| .k [6] rfl) ?_
        refine W_ren [0, 1, 2, 3, 4, 5] (.c 6 <| .nil) (.kept rfl (.row RenL.pure) <| .kept rfl (.row RenL.pure) <| .same (MemD.pure hdm2) rfl <| .same (MemU.pure hum2) rfl <| .kept rfl (.cells (RenL.c <| RenL.c <| RenL.c <| RenL.c <| RenL.c <| RenL.c <| RenL.c <| RenL.c <| RenL.c <| RenL.nil)) <| .same hx rfl <| .nil) rfl rfl ?_
        refine W_ret ?_
        refine ⟨_, ResL.of rfl, ?_, _, _, hdm2, hum2, rfl⟩
        rw [decide_eq_true h3, Bool.true_and]
        first
          | rfl
          | (rw [hbu]; rfl)
end PW
end Go.Proofs.YtnegbdpggideiaaGreatDoor

namespace Go.Proofs.YtnegbdpggideiaaGreatDoor
set_option linter.unusedVariables false
set_option linter.unusedSimpArgs false
namespace PW
open Go.RowKit Reg Mem Net
theorem segsP_snoc (l:List Seg) (e:Seg):segsP l++segP e=segsP (l++[e]):=by simp[segsP]
theorem segsP_len (l:List Seg):(segsP l).length=l.length*2:=by
 induction l with
 |nil=>rfl
 |cons a l ih=>simp only[segsP,List.flatMap_cons,List.length_append,List.length_cons]at*;rw[ih];simp[segP];omega
def topD (c:Nat→Bool) (i:Nat):Nat→Option Nat
 |0=>none
 |m+1=>if m+1≤i then none else if c (m+1) then some (m+1) else topD c i m
theorem topD_some {c:Nat→Bool} {i j:Nat} (hij:i<j) (hc:c j=true):∀m,j≤m→(∀k,j<k→k≤m→c k=false)→topD c i m=some j
 |0,h,_=>by omega
 |m+1,h,hn=>by
  unfold topD
  rw[if_neg (by omega)]
  by_cases e:j=m+1
  ·subst e;rw[if_pos hc]
  ·rw[if_neg (by rw[hn (m+1) (by omega) (by omega)];simp)]
   exact topD_some hij hc m (by omega) (fun k h1 h2=>hn k h1 (by omega))
theorem topD_none {c:Nat→Bool} {i:Nat}:∀m,(∀k,i<k→k≤m→c k=false)→topD c i m=none
 |0,_=>rfl
 |m+1,hn=>by
  unfold topD
  by_cases e:m+1≤i
  ·rw[if_pos e]
  ·rw[if_neg e,if_neg (by rw[hn (m+1) (by omega) (by omega)];simp)]
   exact topD_none m (fun k h1 h2=>hn k h1 (by omega))
theorem topD_is {c:Nat→Bool} {i:Nat}:∀m j,topD c i m=some j→i<j∧j≤m∧c j=true∧∀k,j<k→k≤m→c k=false
 |0,j,h=>by cases h
 |m+1,j,h=>by
  unfold topD at h
  split at h
  ·cases h
  ·split at h
   ·cases h;rename_i h1 h2;exact⟨by omega,by omega,h2,fun k h3 h4=>by omega⟩
   ·rename_i h1 h2
    obtain⟨a,b,c1,d⟩:=topD_is m j h
    refine⟨a,by omega,c1,fun k h3 h4=>?_⟩
    by_cases e:k=m+1
    ·subst e;simpa using h2
    ·exact d k h3 (by omega)
theorem topD_isNone {c:Nat→Bool} {i:Nat}:∀m,topD c i m=none→∀k,i<k→k≤m→c k=false
 |0,_,k,h1,h2=>by omega
 |m+1,h,k,h1,h2=>by
  unfold topD at h
  split at h
  ·omega
  ·split at h
   ·cases h
   ·rename_i h3 h4
    by_cases e:k=m+1
    ·subst e;simpa using h4
    ·exact topD_isNone m h k h1 (by omega)
noncomputable def lstF (T:Topo) (D:List Bool) (n:Int) (p:List Int):Nat→Nat→List Seg
 |0,_=>[]
 |f+1,i=>if i<p.length then(match topD (covB T D n p i) i p.length with
  |some j=>⟨1,endL T n (p.take j)⟩::lstF T D n p f j
  |none=>⟨2,p.getD i 0⟩::lstF T D n p f (i+1)) else []
noncomputable def lstL (T:Topo) (D:List Bool) (n:Int) (p:List Int):List Seg:=lstF T D n p p.length 0
section
variable {T:Topo} {D:List Bool} {n:Int} {p:List Int}
theorem lst_end (f i:Nat) (h:p.length≤i):lstF T D n p f i=[]:=by
 cases f with
 |zero=>rfl
 |succ f=>simp only[lstF];rw[if_neg (by omega)]
theorem lst_some {f i j:Nat} (hi:i<p.length) (hij:i<j) (hj:j≤p.length) (hc:covB T D n p i j=true) (hno:∀k,j<k→k≤p.length→covB T D n p i k=false):lstF T D n p (f+1) i=⟨1,endL T n (p.take j)⟩::lstF T D n p f j:=by
 simp only[lstF]
 rw[if_pos hi,topD_some hij hc p.length hj hno]
theorem lst_none {f i:Nat} (hi:i<p.length) (hno:∀k,i<k→k≤p.length→covB T D n p i k=false):lstF T D n p (f+1) i=⟨2,p.getD i 0⟩::lstF T D n p f (i+1):=by
 simp only[lstF]
 rw[if_pos hi,topD_none p.length hno]
theorem walk_take:∀ {f:Bool} {x:Int} {l m:List Int},walkE T f x (l++m)=0→walkE T f x l=0∧∃g,walkE T g (endL T x l) m=0
 |f,x,[],m,h=>⟨rfl,f,h⟩
 |f,x,a::l,m,h=>by
  simp only[List.cons_append,walkE]at h ⊢
  split at h
  ·omega
  ·rename_i h1
   rw[if_neg h1]
   split at h
   ·omega
   ·rename_i h2
    rw[if_neg h2]
    exact walk_take h
theorem walk_ch (hv:validB T=true):∀ {f:Bool} {x:Nat} {l:List Int} {y:Nat},walkE T f x l=0→(∀a∈l,downN D a.toNat=false)→endL T x l=(y:Int)→Ch T D y x l
 |f,x,[],y,_,_,he=>by
  have:y=x:=by simp only[endL]at he;omega
  subst this
  exact .nil
 |f,x,a::l,y,h,hd,he=>by
  simp only[walkE]at h
  split at h
  ·omega
  ·rename_i h1
   split at h
   ·omega
   ·rename_i h2
    have hab:arcB T a=true:=by simpa using h1
    obtain⟨_,m,hm,hmN⟩:=arc_facts hv hab
    simp only[arcB,decide_eq_true_eq]at hab
    obtain⟨b,rfl⟩:=Int.eq_ofNat_of_zero_le hab.1
    rw[Int.toNat_natCast]at hm
    simp only[endL,Int.toNat_natCast]at he h2 h
    rw[hm]at he h
    have hch:=walk_ch hv h (fun c hc=>hd c (by simp[hc])) he
    refine .cons (by omega) (Classical.byContradiction fun hn=>h2 (.inl hn)) (hd b (by simp)) hm ?_ hch
    cases l with
    |nil=>exact .inl rfl
    |cons c l=>
     right
     simp only[walkE]at h
     split at h
     ·omega
     ·split at h
      ·omega
      ·rename_i h4
       simp only[Int.toNat_natCast]at h4
       cases ho:overN T m with
       |false=>rfl
       |true=>exact absurd (.inr ⟨trivial,ho⟩) h4
structure Fol (T:Topo) (D:List Bool) (n:Int) (p:List Int):Prop where
 valid:validB T=true
 fits:fitsB T D=true
 node:nodeB T n=true
 walk:walkE T true n p=0
 up:∀a∈p,downN D a.toNat=false
theorem fol_of (h:folE T D n p=0):Fol T D n p:=by
 unfold folE at h
 split at h
 ·rename_i h1
  obtain⟨hv,hf⟩:=Bool.and_eq_true_iff.1 h1
  split at h
  ·rename_i h2
   obtain⟨_,hn,hw⟩:=pathX_zero h2
   split at h
   ·omega
   ·rename_i h3
    exact⟨hv,hf,hn,hw,fun a ha=>by
     cases hd:downN D a.toNat with
     |false=>rfl
     |true=>exact absurd (List.any_eq_true.2 ⟨a,ha,hd⟩) h3⟩
  ·omega
 ·omega
theorem Fol.arcs (h:Fol T D n p):∀a∈p,arcB T a=true:=walk_arcs h.walk
def partL (p:List Int) (i j:Nat):List Int:=(p.drop i).take (j - i)
theorem take_part (p:List Int) {i j:Nat} (hij:i≤j):p.take j=p.take i++partL p i j:=by
 unfold partL
 have h:(p.take j)=(p.take j).take i++(p.take j).drop i:=(List.take_append_drop i _).symm
 rw[h,List.take_take,Nat.min_eq_left hij,List.drop_take]
theorem part_len (p:List Int) {i j:Nat} (hij:i≤j) (hj:j≤p.length):(partL p i j).length=j - i:=by unfold partL;simp;omega
theorem Fol.ch (h:Fol T D n p) {i j u y:Nat} (hij:i≤j) (hj:j≤p.length) (hu:endL T n (p.take i)=(u:Int)) (hy:endL T n (p.take j)=(y:Int)):Ch T D y u (partL p i j):=by
 have h1:walkE T true n (p.take j)=0:=(walk_take (l:=p.take j) (m:=p.drop j) (by rw[List.take_append_drop];exact h.walk)).1
 rw[take_part p hij]at h1
 obtain⟨_,g,hg⟩:=walk_take h1
 rw[hu]at hg
 refine walk_ch h.valid hg (fun a ha=>h.up a ?_) ?_
 ·exact List.mem_of_mem_drop (List.mem_of_mem_take ha)
 ·rw[←hu,←endL_append,←take_part p hij];exact hy
theorem part_cost (T:Topo) (p:List Int) {i j:Nat} (hij:i≤j):costL T (p.take j) - costL T (p.take i)=costL T (partL p i j):=by
 rw[take_part p hij,costL_append];omega
theorem cov_iff (h:Fol T D n p) {i j u y:Nat} (hij:i≤j) (hj:j≤p.length) (hu:endL T n (p.take i)=(u:Int)) (hy:endL T n (p.take j)=(y:Int)):covB T D n p i j=true↔SP T D y u (partL p i j)∧cntS T D y u=1:=by
 have hch:=h.ch hij hj hu hy
 have ha:=h.arcs
 obtain⟨u',hu',huN⟩:=end_node h.valid h.node ha i (by omega)
 obtain⟨y',hy',hyN⟩:=end_node h.valid h.node ha j hj
 have e1:u'=u:=by omega
 have e2:y'=y:=by omega
 subst e1
 subst e2
 have hne:nodeE T D (u':Int) (y':Int)=0:=by
  unfold nodeE
  rw[if_pos (chk_of h.valid h.fits hyN),nodeB_iff.2 ⟨by omega,huN⟩]
  rfl
 unfold covB uniqB
 rw[hu,hy,Int.toNat_natCast,Int.toNat_natCast,part_cost T p hij,hne]
 simp only[decide_true,Bool.true_and,Bool.and_eq_true,decide_eq_true_eq]
 constructor
 ·rintro⟨h1,h2⟩;exact⟨hch.sp h.valid hyN h1,h2⟩
 ·rintro⟨h1,h2⟩;exact⟨(h1.cost h.valid hyN).1,h2⟩
theorem cov_far (h:Fol T D n p) {i j:Nat} (hij:i≤j) (hj:j≤p.length) (hc:covB T D n p i j=true):(j:Int) - i<T.nodes:=by
 have ha:=h.arcs
 obtain⟨u,hu,huN⟩:=end_node h.valid h.node ha i (by omega)
 obtain⟨y,hy,hyN⟩:=end_node h.valid h.node ha j hj
 have:=((cov_iff h hij hj hu hy).1 hc).1.len_lt h.valid hyN
 rw[part_len p hij hj]at this
 omega
end
def segsE (e:Int) (l:List Seg):PV:=.tuple [segsV (if e=0 then l else []),num e]
def srow (l:List Seg):Option Blk:=some (.row 103 2 l.length (segsP l))
theorem srow_pure (l:List Seg):PureD (srow l):=fun b hb=>by cases hb;exact(inferInstance:IsPureL (segsP l))
theorem follow_one (T:Topo) (D:List Bool) (p:List Int) (n:Int) (hp:p.length≤1000) (hlk:T.links.length≤256):CanS Tryz.prog 111 [topoV T,boolsV D,intsV p,num n] [] (fun r σ'=>∃x,r= .tuple [x,num (folE T D n p)]∧(folE T D n p=0→x= .ptr 4 0∧σ'=trk T D p (ndL T n p) (csL T p) [] [])):=
 CanS.mono (follow_can T D p n hp hlk) fun r σ' h=>by
  rcases h with⟨he,rfl⟩|⟨he,rfl,rfl⟩
  ·exact⟨_,rfl,fun h=>absurd h he⟩
  ·exact⟨_,by rw[he],fun _=>⟨rfl,rfl⟩⟩
set_option maxRecDepth 10000 in
set_option maxHeartbeats 2000000 in
theorem elist_can (T : Topo) (D : List Bool) (p : List Int) (n : Int) (hp : p.length ≤ 1000) (hlk : T.links.length ≤ 256) (h12 : T.nodes ≤ 12) : Can Tryz.prog 54 [topoV T, boolsV D, intsV p, num n] (· = segsE (folE T D n p) (lstL T D n p)) := by
  refine can_of Tryz.func54 rfl Tryz.ntmps54 rfl ?_
  refine W_cs (.a 3 rfl <| .k [1, 2, 3, 4] rfl) ?_
  refine W_scope ?_
  refine W_rs ?_
  refine WR_a 4 rfl <| WR_cS rfl rfl (CanS.mono (follow_one T D p n hp hlk) (fun r σ' h => ?_))
  obtain ⟨x, rfl, hx⟩ := h
  refine WR_a 5 rfl <| WR_k [2, 4, 10, 11] rfl ?_
  refine W_seq ?_
  refine W_cs (.a 2 rfl <| .k [2, 4, 10, 11, 24] rfl) ?_
  refine W_cond rfl (fun hc => ?_) (fun hc => ?_)
  · have he : folE T D n p ≠ 0 := tt hc
    refine W_cs (.a 3 rfl <| .k [8, 9] rfl) ?_
    refine W_ret ?_
    exact ⟨_, _, ResL.of rfl, Pur.tupleL (PurL.cons Pur.nils (PurL.cons Pur.pure PurL.nil)), by unfold segsE; rw [if_neg he]; rfl⟩
  · have he : folE T D n p = 0 := Classical.byContradiction (ff hc)
    obtain ⟨rfl, rfl⟩ := hx he
    have hF := fol_of he
    have hv := hF.valid
    have hS := sound_of hv
    have hN := hS.nodes
    have ha := hF.arcs
    obtain ⟨N, hNN⟩ : ∃ N : Nat, T.nodes = (N : Int) := ⟨T.nodes.toNat, by omega⟩
    rw [he]
    clear hc
    refine W_skip ?_
    refine W_cs (.a 1 rfl <| .k [2, 4, 10, 12] rfl) ?_
    refine W_adopt 12 103 2 rfl ?_
    refine W_cs (.a 1 rfl <| .k [2, 4, 10, 12, 13] rfl) ?_
    refine W_seq ?_
    refine W_label ?_
    refine W_seq ?_
    refine W_block ?_
    refine W_k [2, 4, 10, 12, 13] rfl ?_
    refine W_loop (fun r st => ∃ (l : List Seg) (i f : Nat) (dm : List (Int × PV)) (um : List ((Int × Int) × PV)), i ≤ p.length ∧ p.length - i ≤ f ∧ l.length ≤ i ∧ r = p.length - i ∧ lstL T D n p = l ++ lstF T D n p f i ∧ MemD T D dm ∧ MemU T D um ∧ st = ⟨[(2, intsV p), (4, .pin (topoP T) 0), (10, .ptr 4 0), (12, .own 5), (13, num i)], trk T D p (ndL T n p) (csL T p) dm um ++ [srow l]⟩) p.length ⟨[], 0, p.length, [], [], by omega, by omega, by simp, by omega, rfl, (fun _ _ h => by cases h), (fun _ _ h => by cases h), rfl⟩ ?_
    rintro r st ⟨l, i, f, dm, um, hi, hif, hli, rfl, hl, hdm, hum, rfl⟩
    refine W_seq ?_
    refine W_cs (.a 4 rfl <| .k [2, 4, 10, 12, 13, 29] rfl) ?_
    refine W_cond rfl (fun h1 => ?_) (fun h1 => ?_)
    · have hlt : i < p.length := by have := tt h1; omega
      refine W_skip ?_
      refine W_block ?_
      refine W_seq ?_
      obtain ⟨m, hm⟩ : ∃ m : Nat, min (p.length : Int) ((i : Int) + (N : Int) - 1) = (m : Int) := ⟨(min (p.length : Int) ((i : Int) + (N : Int) - 1)).toNat, by omega⟩
      have hfar : ∀ k, m < k → k ≤ p.length → covB T D n p i k = false := fun k h2 h3 => by
        cases hcv : covB T D n p i k with
        | false => rfl
        | true =>
          have := cov_far hF (i := i) (j := k) (by omega) h3 hcv
          omega
      refine W_cs (.a 4 rfl <| .v (y_ld rfl ((show some (num T.nodes) = some (num (N : Int)) by rw [hNN]))) rfl <| .v (y_ar rfl) rfl <| .v (y_ar rfl) rfl <| .v (y_min rfl rfl rfl (hm)) rfl <| .a 1 rfl <| .k [2, 4, 10, 12, 13, 14] rfl) ?_
      refine W_block ?_
      refine W_k [2, 4, 10, 12, 13, 14] rfl ?_
      refine W_loop (fun r st => ∃ (j : Nat) (dm : List (Int × PV)) (um : List ((Int × Int) × PV)), i ≤ j ∧ j ≤ p.length ∧ r = j ∧ (∀ k, j < k → k ≤ p.length → covB T D n p i k = false) ∧ MemD T D dm ∧ MemU T D um ∧ st = ⟨[(2, intsV p), (4, .pin (topoP T) 0), (10, .ptr 4 0), (12, .own 5), (13, num i), (14, num j)], trk T D p (ndL T n p) (csL T p) dm um ++ [srow l]⟩) m ⟨m, dm, um, by omega, by omega, rfl, hfar, hdm, hum, rfl⟩ ?_
      clear hdm hum
      rintro r st ⟨j, dm, um, hij, hj, rfl, hno, hdm, hum, rfl⟩
      refine W_seq ?_
      refine W_cs (.a 3 rfl <| .k [2, 4, 10, 12, 13, 14, 40] rfl) ?_
      refine W_cond rfl (fun h2 => ?_) (fun h2 => ?_)
      · have hlt2 : i < r := by have := tt h2; omega
        refine W_skip ?_
        refine W_seq ?_
        refine W_block ?_
        refine W_rs ?_
        refine WR_a 3 rfl <| WR_cS rfl rfl (CanS.mono (covered_can T D p n dm um (srow l) (srow_pure l) hv hF.fits h12 hF.node ha hp i r (by omega) hj hdm hum) (fun _ σ' h => ?_))
        obtain ⟨rfl, dm1, um1, hdm1, hum1, rfl⟩ := h
        refine WR_k [2, 4, 10, 12, 13, 14, 46] rfl ?_
        refine W_cond rfl (fun h3 => ?_) (fun h3 => ?_)
        · have hgj := ndL_get T n p r hj
          have hl1 := ndL_len T n p
          refine W_rs ?_
          refine WR_a 6 rfl <| WR_v (y_ix (r) rfl) rfl <| WR_v (y_ld rfl ((ints_get _ r (by omega)).trans (by rw [hgj]))) rfl <| WR_a 2 rfl <| WR_l (l_append rfl (fok.rk.get rfl) rfl rfl rfl rfl (by unfold maxLen; omega)) rfl <| WR_a 1 rfl ?_
          refine WR_ren [0, 1, 2, 3, 4, 6] (.c 2 <| .c 4 <| .c 10 <| .c 12 <| .c 14 <| .nil) (.kept rfl (.row RenL.pure) <| .kept rfl (.row RenL.pure) <| .same (MemD.pure hdm1) rfl <| .same (MemU.pure hum1) rfl <| .kept rfl (.cells (RenL.c <| RenL.c <| RenL.c <| RenL.c <| RenL.c <| RenL.c <| RenL.c <| RenL.c <| RenL.c <| RenL.nil)) <| .kept rfl (.rowP rfl (segsP_snoc _ ⟨1, endL T n (p.take r)⟩)) <| .nil) rfl rfl (WR_nil ?_)
          refine W_cs (.a 2 rfl <| .k [2, 4, 10, 12, 13] rfl) ?_
          refine W_exit ?_
          cases f with
          | zero => omega
          | succ f =>
            first
              | (refine ⟨p.length - r, by omega, l ++ [⟨1, endL T n (p.take r)⟩], r, f, dm1, um1, by omega, by omega, by simp; omega, rfl, ?_, hdm1, hum1, ?_⟩
                 · rw [hl, lst_some hlt hlt2 hj h3 hno, List.append_assoc]; rfl
                 · unfold srow; simp only [List.length_append, List.length_singleton]; rfl)
              | (refine ⟨p.length - (i + 1), by omega, l ++ [⟨2, p.getD i 0⟩], i + 1, f, dm, um, by omega, by omega, by simp; omega, rfl, ?_, hdm, hum, ?_⟩
                 · rw [hl, lst_none hlt hno2, List.append_assoc]; rfl
                 · unfold srow; simp only [List.length_append, List.length_singleton]; rfl)
        · skip
          refine W_skip ?_
          refine W_chain (.a 1 rfl <| .v (y_ar rfl) rfl <| .a 1 rfl <| .k [2, 4, 10, 12, 13, 14] rfl) ?_
          refine ⟨r - 1, by omega, r - 1, dm1, um1, by omega, by omega, rfl, fun k h4 h5 => ?_, hdm1, hum1, ?_⟩
          · by_cases e : k = r
            · rw [e]; exact h3
            · exact hno k (by omega) h5
          · rw [show ((r - 1 : Nat) : Int) = (r : Int) - 1 by omega]
      · have hno2 : ∀ k, i < k → k ≤ p.length → covB T D n p i k = false := fun k h3 h4 => hno k (by have := ff h2; omega) h4
        refine W_exit ?_
        refine W_rs ?_
        refine WR_a 3 rfl <| WR_v (y_ix (i) rfl) rfl <| WR_v (y_ld rfl (ints_get _ i hlt)) rfl <| WR_a 2 rfl <| WR_l (l_append rfl (fok.rk.get rfl) rfl rfl rfl rfl (by unfold maxLen; omega)) rfl <| WR_a 1 rfl ?_
        refine WR_ren [0, 1, 2, 3, 4, 6] (.c 2 <| .c 4 <| .c 10 <| .c 12 <| .c 13 <| .nil) (.kept rfl (.row RenL.pure) <| .kept rfl (.row RenL.pure) <| .same (MemD.pure hdm) rfl <| .same (MemU.pure hum) rfl <| .kept rfl (.cells (RenL.c <| RenL.c <| RenL.c <| RenL.c <| RenL.c <| RenL.c <| RenL.c <| RenL.c <| RenL.c <| RenL.nil)) <| .kept rfl (.rowP rfl (segsP_snoc _ ⟨2, p.getD i 0⟩)) <| .nil) rfl rfl (WR_nil ?_)
        refine W_chain (.a 1 rfl <| .v (y_ar rfl) rfl <| .a 1 rfl <| .k [2, 4, 10, 12, 13] rfl) ?_
        cases f with
        | zero => omega
        | succ f =>
          first
            | (refine ⟨p.length - r, by omega, l ++ [⟨1, endL T n (p.take r)⟩], r, f, dm1, um1, by omega, by omega, by simp; omega, rfl, ?_, hdm1, hum1, ?_⟩
               · rw [hl, lst_some hlt hlt2 hj h3 hno, List.append_assoc]; rfl
               · unfold srow; simp only [List.length_append, List.length_singleton]; rfl)
            | (refine ⟨p.length - (i + 1), by omega, l ++ [⟨2, p.getD i 0⟩], i + 1, f, dm, um, by omega, by omega, by simp; omega, rfl, ?_, hdm, hum, ?_⟩
               · rw [hl, lst_none hlt hno2, List.append_assoc]; rfl
               · unfold srow; simp only [List.length_append, List.length_singleton]; rfl)
    · have hie : i = p.length := by have := ff h1; omega
      rw [lst_end f i (by omega), List.append_nil] at hl
      refine W_exit ?_
      refine W_cs (.a 3 rfl <| .k [8, 9] rfl) ?_
      refine W_ret ?_
      exact ⟨_, _, ResL.of rfl, Pur.tupleL (PurL.cons (Pur.ownL rfl PurL.pure) (PurL.cons Pur.pure PurL.nil)), by unfold segsE; rw [if_pos rfl, hl]; rfl⟩
end PW
end Go.Proofs.YtnegbdpggideiaaGreatDoor

namespace Go.Proofs.YtnegbdpggideiaaGreatDoor
set_option linter.unusedVariables false
set_option linter.unusedSimpArgs false
namespace PW
open Go.RowKit Reg Mem Net
section
variable {T:Topo} {D:List Bool} {d:Nat}
theorem cnt_two (hv:validB T=true) (hd:(d:Int)<T.nodes):∀(K m:Nat),(m:Int)<T.nodes→0≤dN T D d m→dN T D d m≤K→cntS T D d m≠1→∃p q,SP T D d m p∧SP T D d m q∧p≠q
 |K,m,hmN,h0,hK,hc=>by
  by_cases hmd:m=d
  ·subst hmd;exact absurd (cnt_self m) hc
  ·obtain⟨k,hk⟩:=next_ex (D:=D) hv hmN hd hmd h0
   have hmem:=next_of hk ((sound_of hv).cost k hk.arc).1
   cases hx:nextL T D m d with
   |nil=>rw[hx]at hmem;cases hmem
   |cons a l=>
    obtain⟨b,rfl,hb⟩:=next_mem (T:=T) (D:=D) (n:=m) (d:=d) (a:=a) (by rw[hx];simp)
    obtain⟨x,hxh,hxN⟩:=head_nat hv hb.arc
    have gx:=hb.dN hxh
    have cx:=(sound_of hv).cost b hb.arc
    cases l with
    |nil=>
     cases K with
     |zero=>omega
     |succ K=>
      have hcx:cntS T D d x≠1:=fun h=>hc (cnt_of_one hv hd hmN hmd hx hxh h)
      obtain⟨p,q,h1,h2,h3⟩:=cnt_two hv hd K x hxN gx.1 (by omega) hcx
      exact⟨b::p,b::q,.cons hb hxh h1,.cons hb hxh h2,fun e=>h3 (List.cons.inj e).2⟩
    |cons a2 l=>
     obtain⟨b2,rfl,hb2⟩:=next_mem (T:=T) (D:=D) (n:=m) (d:=d) (a:=a2) (by rw[hx];simp)
     obtain⟨x2,hxh2,hxN2⟩:=head_nat hv hb2.arc
     have gx2:=hb2.dN hxh2
     refine⟨b::spathL T D x d,b2::spathL T D x2 d,.cons hb hxh (spath_sp hv hd hxN gx.1),.cons hb2 hxh2 (spath_sp hv hd hxN2 gx2.1),fun e=>?_⟩
     have he:=(List.cons.inj e).1
     have hlt:=next_sorted T D m d
     rw[hx]at hlt
     have:=(List.pairwise_cons.1 hlt).1 (b2:Int) (by simp)
     omega
theorem Ch.append {e n:Nat} {p q:List Int} (h:Ch T D e n p) (hq:Ch T D d e q) (ho:q=[]∨overN T e=false):Ch T D d n (p++q):=by
 induction h with
 |nil=>exact hq
 | @cons n a m p ha ht hu hm hov hp ih=>
  refine .cons ha ht hu hm ?_ ih
  rcases hov with h|h
  ·subst h
   have:=hp.to rfl
   subst this
   rcases ho with h|h
   ·subst h;exact .inl rfl
   ·exact .inr h
  ·exact .inr h
theorem SP.suffix (hv:validB T=true) (hd:(d:Int)<T.nodes) {e:Nat}:∀ {n:Nat} {p q:List Int},SP T D d n (p++q)→cntS T D d n=1→Ch T D e n p→SP T D d e q∧cntS T D d e=1
 |n,[],q,h,hc,hch=>by
  have:=hch.to rfl
  subst this
  exact⟨h,hc⟩
 |n,a::p,q,h,hc,hch=>by
  cases h with
  | @cons _ b m _ h1 hm hp=>
   cases hch with
   | @cons _ b2 m2 _ _ _ _ hm2 _ hch2=>
    have:m2=m:=by rw[hm]at hm2;omega
    subst this
    obtain⟨b3,h3,_,h4⟩:=cnt_one hv hd (h1.node hv) h1.ne hc
    have e1:=next_of h1 ((sound_of hv).cost b h1.arc).1
    rw[h3]at e1
    simp only[List.mem_singleton]at e1
    have:b3=b:=by omega
    subst this
    exact SP.suffix hv hd hp (h4 m2 hm) hch2
theorem SP.pre (hv:validB T=true) (hd:(d:Int)<T.nodes) {e n:Nat} {p q:List Int} (he:(e:Int)<T.nodes) (h:SP T D d n (p++q)) (hc:cntS T D d n=1) (hp:Ch T D e n p) (hq:Ch T D d e q) (ho:q=[]∨overN T e=false):SP T D e n p∧cntS T D e n=1:=by
 have hcost:=(h.cost hv hd).1
 rw[costL_append]at hcost
 have hle:=hp.le hv he
 have hn:=hp.node hv he
 have hspe:SP T D e n p:=by
  refine hp.sp hv he ?_
  have hs:=spath_sp hv he hn hle.1
  have hc2:=(hs.cost hv he).1
  have:=((hs.ch).append hq ho).le hv hd
  rw[costL_append]at this
  omega
 refine⟨hspe,Classical.byContradiction fun h1=>?_⟩
 obtain⟨p1,p2,g1,g2,g3⟩:=cnt_two hv he (dN T D e n).toNat n hn hle.1 (by omega) h1
 have key:∀r,SP T D e n r→SP T D d n (r++q):=fun r hr=>by
  refine((hr.ch).append hq ho).sp hv hd ?_
  rw[costL_append,hcost,←(hr.cost hv he).1,(hspe.cost hv he).1]
 have:=(key p1 g1).unique hv hd (key p2 g2) hc
 exact g3 (List.append_cancel_right this)
theorem Ch.mid {e:Nat}:∀ {n:Nat} {p q:List Int},Ch T D d n (p++q)→p≠[]→Ch T D e n p→q=[]∨overN T e=false
 |n,[],q,_,h,_=>absurd rfl h
 |n,a::p,q,h,_,hch=>by
  cases h with
  | @cons _ b m _ _ _ _ hm hov hp=>
   cases hch with
   | @cons _ b2 m2 _ _ _ _ hm2 _ hch2=>
    have:m2=m:=by rw[hm]at hm2;omega
    subst this
    cases p with
    |nil=>
     have:=hch2.to rfl
     subst this
     exact hov
    |cons c p=>exact Ch.mid hp (by simp) hch2
variable {n:Int} {p:List Int}
theorem part_split (p:List Int) {i j k:Nat} (h1:i≤j) (h2:j≤k):partL p i k=partL p i j++partL p j k:=by
 have e1:=take_part p (show i≤k by omega)
 have e2:=take_part p h2
 rw[take_part p h1,List.append_assoc]at e2
 rw[e1]at e2
 exact List.append_cancel_left e2
theorem cov_sub (h:Fol T D n p) {i j i' j':Nat} (h1:i≤i') (h2:i'<j') (h3:j'≤j) (hj:j≤p.length) (hc:covB T D n p i j=true):covB T D n p i' j'=true:=by
 have ha:=h.arcs
 have hv:=h.valid
 obtain⟨u,hu,huN⟩:=end_node hv h.node ha i (by omega)
 obtain⟨y,hy,hyN⟩:=end_node hv h.node ha j hj
 obtain⟨u',hu',huN'⟩:=end_node hv h.node ha i' (by omega)
 obtain⟨y',hy',hyN'⟩:=end_node hv h.node ha j' (by omega)
 obtain⟨c1,c2⟩:=(cov_iff h (by omega) hj hu hy).1 hc
 rw[part_split p h1 (show i'≤j by omega)]at c1
 obtain⟨c3,c4⟩:=c1.suffix hv hyN c2 (h.ch h1 (by omega) hu hu')
 rw[part_split p (show i'≤j' by omega) h3]at c3
 have hp:=h.ch (show i'≤j' by omega) (by omega) hu' hy'
 have hq:=h.ch h3 hj hy' hy
 have ho:=c3.ch.mid (e:=y') (by
  intro e
  have:=part_len p (show i'≤j' by omega) (by omega)
  rw[e]at this
  simp at this
  omega) hp
 exact(cov_iff h (by omega) (by omega) hu' hy').2 (c3.pre hv hyN hyN' c4 hp hq ho)
end
end PW
end Go.Proofs.YtnegbdpggideiaaGreatDoor

namespace Go.Proofs.YtnegbdpggideiaaGreatDoor
set_option linter.unusedVariables false
set_option linter.unusedSimpArgs false
namespace PW
open Go.RowKit Reg Mem Net
section
variable {T:Topo} {D:List Bool} {n:Int} {p:List Int}
theorem part_mem {i k:Nat} {a:Int} (h:a∈partL p i k):a∈p:=List.mem_of_mem_drop (List.mem_of_mem_take h)
theorem part_tail (h:Fol T D n p) {i:Nat} (hi:i<p.length) {x:Nat} (hx:endL T n (p.take i)=(x:Int)):tailN T (p.getD i 0).toNat=(x:Int):=by
 have ha:=h.arcs
 obtain⟨y,hy,hyN⟩:=end_node h.valid h.node ha (i+1) hi
 have hch:=h.ch (i:=i) (j:=i+1) (by omega) hi hx hy
 have hp:partL p i (i+1)=[p.getD i 0]:=by
  unfold partL
  rw[drop_cons p i hi,show i+1 - i=1 by omega]
  rfl
 rw[hp]at hch
 generalize p.getD i 0=a at hch
 cases hch with
 |cons _ h2 _ _ _ _=>exact h2
end
section
variable {T:Topo} {D:List Bool} {n:Int} {p:List Int}
end
end PW
end Go.Proofs.YtnegbdpggideiaaGreatDoor

namespace Go.Proofs.YtnegbdpggideiaaGreatDoor
set_option linter.unusedVariables false
set_option linter.unusedSimpArgs false
namespace PW
open Go.RowKit Reg Mem Net
def endS (T:Topo) (s:Seg) (n:Int):Int×Int:=if segB T s=false then(0,1) else if nodeB T n=false then(0,2) else if s.kind=1 then(s.num,0) else if s.kind=2 then(if tailN T s.num.toNat≠n then(0,4) else(headN T s.num.toNat,0)) else(0,7)
def endsL (T:Topo):Int→List Seg→List Int×Int
 |_,[]=>([],0)
 |n,s::l=>if(endS T s n).2≠0 then([],(endS T s n).2) else((endS T s n).1::(endsL T (endS T s n).1 l).1,(endsL T (endS T s n).1 l).2)
theorem segs_cons (l:List Seg) (k:Nat) (h:k<l.length):∃s,l[k]? =some s∧l.drop k=s::l.drop (k+1):=⟨l[k],List.getElem?_eq_getElem h,List.drop_eq_getElem_cons h⟩
end PW
end Go.Proofs.YtnegbdpggideiaaGreatDoor

namespace Go.Proofs.YtnegbdpggideiaaGreatDoor
set_option linter.unusedVariables false
set_option linter.unusedSimpArgs false
namespace PW
open Go.RowKit Reg Mem Net
def fstJ (T:Topo) (n:Int) (p:List Int) (x:Int):Nat→Nat→Nat
 |0,i=>i
 |f+1,i=>if endL T n (p.take i)=x then i else fstJ T n p x f (i+1)
noncomputable def stepX (T:Topo) (D:List Bool) (n:Int) (p:List Int) (i:Nat) (s:Seg):Option Nat:=
 if s.kind=2∧i<p.length∧p.getD i 0=s.num then some (i+1)
 else if s.kind=1 then(if endL T n (p.take (fstJ T n p s.num (p.length - i) i))=s.num∧covB T D n p i (fstJ T n p s.num (p.length - i) i)=true then some (fstJ T n p s.num (p.length - i) i) else none)
 else none
noncomputable def exB (T:Topo) (D:List Bool) (n:Int) (p:List Int):Nat→List Seg→Bool
 |i,[]=>decide (i=p.length)
 |i,s::l=>match stepX T D n p i s with
  |some j=>exB T D n p j l
  |none=>false
noncomputable def expL (T:Topo) (D:List Bool):Int→List Seg→Int×List Int
 |_,[]=>(0,[])
 |x,s::l=>if s.kind=2 then(if downN D s.num.toNat=true then(7,[]) else((expL T D (endS T s x).1 l).1,s.num::(expL T D (endS T s x).1 l).2))
  else if spE T D x (endS T s x).1≠0 then(spE T D x (endS T s x).1,[])
  else if uniqB T D x (endS T s x).1=false then(9,[])
  else((expL T D (endS T s x).1 l).1,spathL T D x.toNat (endS T s x).1.toNat++(expL T D (endS T s x).1 l).2)
section
variable {T:Topo} {D:List Bool} {n:Int} {p:List Int}
theorem fst_ge (x:Int):∀f i,i≤fstJ T n p x f i∧fstJ T n p x f i≤i+f
 |0,i=>by simp[fstJ]
 |f+1,i=>by
  simp only[fstJ]
  split
  ·omega
  ·have:=fst_ge x f (i+1);omega
theorem fst_no (x:Int):∀f i k,i≤k→k<fstJ T n p x f i→endL T n (p.take k)≠x
 |0,i,k,h1,h2=>by simp only[fstJ]at h2;omega
 |f+1,i,k,h1,h2=>by
  simp only[fstJ]at h2
  split at h2
  ·omega
  ·rename_i h3
   by_cases e:k=i
   ·subst e;exact h3
   ·exact fst_no x f (i+1) k (by omega) h2
theorem fst_is (x:Int):∀f i j,i≤j→j≤i+f→endL T n (p.take j)=x→(∀k,i≤k→k<j→endL T n (p.take k)≠x)→fstJ T n p x f i=j
 |0,i,j,h1,h2,_,_=>by simp only[fstJ];omega
 |f+1,i,j,h1,h2,h3,h4=>by
  simp only[fstJ]
  by_cases e:i=j
  ·subst e;rw[if_pos h3]
  ·rw[if_neg (h4 i (Nat.le_refl _) (by omega))]
   exact fst_is x f (i+1) j (by omega) (by omega) h3 (fun k h5 h6=>h4 k (by omega) h6)
theorem Ch.fin {d:Nat} {m:Nat} {q:List Int} (h:Ch T D d m q):endL T (m:Int) q=(d:Int):=by
 induction h with
 |nil=>rfl
 | @cons n a m p ha ht hu hm ho hp ih=>simp only[endL,Int.toNat_natCast,hm];exact ih
theorem cov_first (h:Fol T D n p) {i j:Nat} (hij:i≤j) (hj:j≤p.length) (hc:covB T D n p i j=true):fstJ T n p (endL T n (p.take j)) (p.length - i) i=j:=by
 have ha:=h.arcs
 have hv:=h.valid
 refine fst_is _ _ _ _ hij (by omega) rfl fun k h1 h2 he=>?_
 obtain⟨u,hu,huN⟩:=end_node hv h.node ha i (by omega)
 obtain⟨y,hy,hyN⟩:=end_node hv h.node ha j hj
 obtain⟨z,hz,hzN⟩:=end_node hv h.node ha k (by omega)
 have hzy:z=y:=by omega
 subst hzy
 obtain⟨c1,c2⟩:=(cov_iff h hij hj hu hy).1 hc
 rw[part_split p h1 (show k≤j by omega)]at c1
 obtain⟨c3,c4⟩:=c1.suffix hv hyN c2 (h.ch h1 (by omega) hu hz)
 have:=c3.self
 have hl:=part_len p (show k≤j by omega) hj
 rw[this]at hl
 simp at hl
 omega
theorem spE_zero {x y:Nat} (hv:validB T=true) (hf:fitsB T D=true) (hx:(x:Int)<T.nodes) (hy:(y:Int)<T.nodes):spE T D x y=if dN T D y x<0 then 11 else 0:=by
 have hne:nodeE T D (x:Int) (y:Int)=0:=by
  unfold nodeE
  rw[if_pos (chk_of hv hf hy),nodeB_iff.2 ⟨by omega,hx⟩]
  rfl
 unfold spE;rw[if_pos hne];simp only[Int.toNat_natCast]
theorem uniq_iff {x y:Nat} (hv:validB T=true) (hf:fitsB T D=true) (hx:(x:Int)<T.nodes) (hy:(y:Int)<T.nodes):uniqB T D x y=true↔cntS T D y x=1:=by
 have hne:nodeE T D (x:Int) (y:Int)=0:=by
  unfold nodeE
  rw[if_pos (chk_of hv hf hy),nodeB_iff.2 ⟨by omega,hx⟩]
  rfl
 unfold uniqB
 rw[hne]
 simp
theorem cov_sp (h:Fol T D n p) {i j x y:Nat} (hij:i≤j) (hj:j≤p.length) (hx:endL T n (p.take i)=(x:Int)) (hy:endL T n (p.take j)=(y:Int)):covB T D n p i j=true↔spE T D x y=0∧uniqB T D x y=true∧spathL T D x y=partL p i j:=by
 have ha:=h.arcs
 have hv:=h.valid
 obtain⟨x',hx',hxN⟩:=end_node hv h.node ha i (by omega)
 obtain⟨y',hy',hyN⟩:=end_node hv h.node ha j hj
 have e1:x'=x:=by omega
 have e2:y'=y:=by omega
 subst e1
 subst e2
 rw[cov_iff h hij hj hx hy,spE_zero hv h.fits hxN hyN,uniq_iff hv h.fits hxN hyN]
 constructor
 ·rintro⟨h1,h2⟩
  have h0:=(h1.cost hv hyN).2
  exact⟨by rw[if_neg (by omega)],h2,(spath_sp hv hyN hxN h0).unique hv hyN h1 h2⟩
 ·rintro⟨h1,h2,h3⟩
  have h0:0≤dN T D y' x':=by
   split at h1
   ·omega
   ·omega
  exact⟨by rw[←h3];exact spath_sp hv hyN hxN h0,h2⟩
theorem ex_lst (h:Fol T D n p):∀(f i:Nat),i≤p.length→p.length - i≤f→exB T D n p i (lstF T D n p f i)=true
 |f,i,hi,hf=>by
  by_cases hlt:i<p.length
  ·cases f with
   |zero=>omega
   |succ f=>
    cases ht:topD (covB T D n p i) i p.length with
    |none=>
     rw[lst_none hlt (fun k h1 h2=>topD_isNone _ ht k h1 h2)]
     simp only[exB]
     have hst:stepX T D n p i ⟨2,p.getD i 0⟩=some (i+1):=by unfold stepX;rw[if_pos ⟨rfl,hlt,rfl⟩]
     rw[hst]
     exact ex_lst h f (i+1) (by omega) (by omega)
    |some j=>
     obtain⟨t1,t2,t3,t4⟩:=topD_is _ _ ht
     rw[lst_some hlt t1 t2 t3 t4]
     simp only[exB]
     have hst:stepX T D n p i ⟨1,endL T n (p.take j)⟩=some j:=by
      unfold stepX
      simp only
      rw[if_neg (by omega),if_pos trivial,cov_first h (by omega) t2 t3,if_pos ⟨rfl,t3⟩]
     rw[hst]
     exact ex_lst h f j t2 (by omega)
  ·rw[lst_end f i (by omega)]
   simp only[exB,decide_eq_true_eq]
   omega
theorem lst_len:∀f i,(lstF T D n p f i).length≤f:=fun f=>by
 induction f with
 |zero=>intro i;simp[lstF]
 |succ f ih=>
  intro i
  simp only[lstF]
  split
  ·split
   ·have:=ih ‹Nat›;simp only[List.length_cons];omega
   ·have:=ih (i+1);simp only[List.length_cons];omega
  ·simp
theorem fol_zero (h:Fol T D n p):folE T D n p=0:=by
 unfold folE
 have h2:pathX T n p=0:=by unfold pathX;rw[if_pos h.valid,if_pos h.node];exact h.walk
 rw[if_pos (by rw[h.valid,h.fits];rfl),if_pos h2,if_neg]
 intro e
 obtain⟨x,h3,h4⟩:=List.any_eq_true.1 e
 rw[h.up x h3]at h4
 cases h4
end
end PW
end Go.Proofs.YtnegbdpggideiaaGreatDoor

namespace Go.Proofs.YtnegbdpggideiaaGreatDoor
set_option linter.unusedVariables false
set_option linter.unusedSimpArgs false
namespace PW
open Go.RowKit Reg Mem Net
def clearB (D:List Bool) (q:List Int):Bool:= !q.any fun a=>downN D a.toNat
theorem clear_iff {D:List Bool} {q:List Int}:clearB D q=true↔∀a∈q,downN D a.toNat=false:=by
 unfold clearB
 rw[Bool.not_eq_true',List.any_eq_false]
 constructor
 ·intro h a ha
  have:=h a ha
  simpa using this
 ·intro h a ha
  rw[h a ha]
  simp
theorem clear_no {D:List Bool} {q:List Int} {a:Int} (ha:a∈q) (h:downN D a.toNat=true):clearB D q=false:=by
 unfold clearB
 rw[Bool.not_eq_false',List.any_eq_true]
 exact⟨a,ha,h⟩
set_option maxRecDepth 10000 in
set_option maxHeartbeats 1000000 in
theorem up_can (T:Topo) (D:List Bool) (q:List Int) (hf:fitsB T D=true) (ha:∀a∈q,arcB T a=true) (hq:q.length≤1000):Can Tryz.prog 121 [boolsV D,intsV q] (· =flag (clearB D q)):=by
 refine can_of Tryz.func121 rfl Tryz.ntmps121 rfl ?_
 refine W_cs (.a 1 rfl<|.k [0,1] rfl) ?_
 refine W_seq ?_
 refine W_cs (.a 3 rfl<|.k [0,7,8,9] rfl) ?_
 refine W_block ?_
 refine W_k [0,7,8,9] rfl ?_
 refine W_loop (fun r st=>∃k:Nat,k≤q.length∧r=q.length - k∧(∀a∈q.take k,downN D a.toNat=false)∧st=⟨[(0,boolsV D),(7,intsV q),(8,num q.length),(9,num k)],[]⟩) q.length ⟨0,by omega,by omega,by simp,rfl⟩ ?_
 rintro r st ⟨k,hk,rfl,hdn,rfl⟩
 refine W_cs (.a 1 rfl<|.k [0,7,8,9,10] rfl) ?_
 refine W_seq ?_
 refine W_cond rfl (fun hy=>?_) (fun hy=>?_)
 ·have hlt:k<q.length:=by have:=tt hy;omega
  have hmem:=getD_mem (d:=0) hlt
  have hab:=ha _ hmem
  simp only[arcB,decide_eq_true_eq]at hab
  obtain⟨a,hae⟩:∃a:Nat,q.getD k 0=(a:Int):=⟨(q.getD k 0).toNat,by omega⟩
  have hD:D.length=0∨a<D.length:=by simp only[fitsB,decide_eq_true_eq]at hf;omega
  refine W_skip ?_
  refine W_seq ?_
  refine W_block ?_
  refine W_cs (.v (y_ix (k) rfl) rfl<|.v (y_ld rfl ((ints_get q k hlt).trans (by rw[hae]))) rfl<|.a 1 rfl<|.k [0,6,7,8,9] rfl) ?_
  refine W_cs (.a 2 rfl<|.c rfl (down_can D a hD) rfl<|.k [0,7,8,9,15] rfl) ?_
  refine W_cond rfl (fun hz=>?_) (fun hz=>?_)
  ·have he:=clear_no (D:=D) hmem (by rw[hae];exact hz)
   refine W_cs (.a 1 rfl<|.k [4] rfl) ?_
   refine W_ret ?_
   exact⟨_,_,ResL.of rfl,Pur.pure,by rw[he];rfl⟩
  ·skip
   refine W_skip ?_
   refine W_chain (.v (y_ar rfl) rfl<|.a 1 rfl<|.k [0,7,8,9] rfl) ?_
   refine⟨q.length - (k+1),by omega,k+1,by omega,rfl,fun x hx=>?_,rfl⟩
   rw[take_step q k 0 hlt]at hx
   rcases List.mem_append.1 hx with h|h
   ·exact hdn x h
   ·simp only[List.mem_singleton]at h;rw[h,hae];exact hz
 ·have hke:k=q.length:=by have:=ff hy;omega
  subst hke
  rw[List.take_length]at hdn
  refine W_exit ?_
  refine W_cs (.a 1 rfl<|.k [4] rfl) ?_
  refine W_ret ?_
  exact⟨_,_,ResL.of rfl,Pur.pure,by rw[clear_iff.2 hdn];rfl⟩
theorem fol_path {T:Topo} {D:List Bool} {n:Int} {p:List Int} (hvf:(validB T&&fitsB T D)=true) (h:pathX T n p≠0):folE T D n p=pathX T n p:=by unfold folE;rw[if_pos hvf,if_neg h]
theorem fol_clear {T:Topo} {D:List Bool} {n:Int} {p:List Int} (hvf:(validB T&&fitsB T D)=true) (h:pathX T n p=0):folE T D n p=if clearB D p=true then 0 else 7:=by
 unfold folE clearB
 rw[if_pos hvf,if_pos h]
 cases p.any fun a=>downN D a.toNat<;>rfl
set_option maxRecDepth 10000 in
set_option maxHeartbeats 1000000 in
theorem scheck_can (T:Topo) (D:List Bool) (p:List Int) (n:Int) (hp:p.length≤1000) (hlk:T.links.length≤256):Can Tryz.prog 63 [topoV T,boolsV D,intsV p,num n] (· =num (folE T D n p)):=by
 obtain⟨q1,hq1⟩:∃q,validB T=q:=⟨_,rfl⟩
 obtain⟨q2,hq2⟩:∃q,fitsB T D=q:=⟨_,rfl⟩
 refine can_of Tryz.func63 rfl Tryz.ntmps63 rfl ?_
 refine W_cs (.a 2 rfl<|.k [1,2,3,4] rfl) ?_
 refine W_seq ?_
 refine W_csK 20 (.raw (.bool ((!q1)|| !q2))) [1,2,3,4] rfl ?_ ?_
 ·refine .a 1 rfl<|.c rfl (hq1▸valid_can T) rfl<|.a 2 rfl<|?_
  cases q1
  ·exact .a 5 rfl<|.k [20,1,2,3,4] rfl
  ·exact .a 2 rfl<|.c rfl (hq2▸fits_can T D (by omega)) rfl<|.a 2 rfl<|.k [20,1,2,3,4] rfl
 refine W_cond rfl (fun hc=>?_) (fun hc=>?_)
 ·have he:folE T D n p=1:=by unfold folE;rw[hq1,hq2];cases q1<;>cases q2<;>first|rfl|cases hc
  refine W_cs (.a 1 rfl<|.k [8] rfl) ?_
  refine W_ret ?_
  exact⟨_,_,ResL.of rfl,Pur.pure,by rw[he];rfl⟩
 ·have hv:validB T=true:=by rw[hq1];cases q1;cases hc;rfl
  have hf:fitsB T D=true:=by rw[hq2];cases q2;cases q1<;>cases hc;rfl
  have hvf:(validB T&&fitsB T D)=true:=by rw[hv,hf];rfl
  refine W_skip ?_
  refine W_seq ?_
  refine W_cs (.a 3 rfl<|.c rfl (path_can T n p (by omega)) rfl<|.a 7 rfl<|.k [1,2,11] rfl) ?_
  refine W_cs (.a 2 rfl<|.k [1,2,11,30] rfl) ?_
  refine W_cond rfl (fun hx=>?_) (fun hx=>?_)
  ·have hx1:pathX T n p≠0:=tt hx
   refine W_cs (.a 2 rfl<|.k [8] rfl) ?_
   refine W_ret ?_
   exact⟨_,_,ResL.of rfl,Pur.pure,by rw[fol_path hvf hx1];rfl⟩
  ·have hx1:pathX T n p=0:=Classical.byContradiction (ff hx)
   obtain⟨_,hn,hw⟩:=pathX_zero hx1
   have ha:=walk_arcs hw
   rw[fol_clear hvf hx1]
   refine W_skip ?_
   refine W_seq ?_
   refine W_cs (.a 2 rfl<|.c rfl (up_can T D p hf ha hp) rfl<|.a 1 rfl<|.k [35] rfl) ?_
   refine W_cond rfl (fun hy=>?_) (fun hy=>?_)
   ·have hy1:clearB D p=false:=by simpa using hy
    refine W_cs (.a 1 rfl<|.k [8] rfl) ?_
    refine W_ret ?_
    exact⟨_,_,ResL.of rfl,Pur.pure,by rw[hy1];rfl⟩
   ·have hy1:clearB D p=true:=by simpa using hy
    refine W_skip ?_
    refine W_cs (.a 1 rfl<|.k [8] rfl) ?_
    refine W_ret ?_
    exact⟨_,_,ResL.of rfl,Pur.pure,by rw[hy1];rfl⟩
section
variable {T:Topo} {D:List Bool} {n:Int} {p:List Int}
theorem fits_nil (T:Topo):fitsB T []=true:=by simp[fitsB]
theorem Fol.bare (h:Fol T D n p):Fol T [] n p:=⟨h.valid,fits_nil T,h.node,h.walk,fun a _=>by simp[downN]⟩
theorem folB {n:Int} {p:List Int} (h:folE T D n p=0):folE T [] n p=0:=fol_zero (fol_of h).bare
end
set_option maxRecDepth 10000 in
set_option maxHeartbeats 1000000 in
theorem slist_can (T:Topo) (D:List Bool) (p:List Int) (n:Int) (hp:p.length≤1000) (hlk:T.links.length≤256) (h12:T.nodes≤12):Can Tryz.prog 18 [topoV T,boolsV D,intsV p,num n] (· =segsE (folE T D n p) (lstL T [] n p)):=by
 refine can_of Tryz.func18 rfl Tryz.ntmps18 rfl ?_
 refine W_cs (.a 3 rfl<|.k [1,2,3,4] rfl) ?_
 refine W_seq ?_
 refine W_cs (.a 4 rfl<|.c rfl (scheck_can T D p n hp hlk) rfl<|.a 1 rfl<|.k [2,3,4,10] rfl) ?_
 refine W_cs (.a 2 rfl<|.k [2,3,4,10,17] rfl) ?_
 refine W_cond rfl (fun hc=>?_) (fun hc=>?_)
 ·have he:folE T D n p≠0:=tt hc
  refine W_cs (.a 3 rfl<|.k [8,9] rfl) ?_
  refine W_ret ?_
  exact⟨_,_,ResL.of rfl,Pur.tupleL (PurL.cons Pur.nils (PurL.cons Pur.pure PurL.nil)),by unfold segsE;rw[if_neg he];rfl⟩
 ·have he:folE T D n p=0:=Classical.byContradiction (ff hc)
  have hl:=elist_can T [] p n hp hlk h12
  rw[folB he]at hl
  rw[he]
  refine W_skip ?_
  refine W_cs (.a 3 rfl<|.v (y_cP rfl (PurL.cons Pur.pure<|PurL.cons Pur.nils<|PurL.cons Pur.pure<|PurL.cons Pur.pure PurL.nil) (hl)) rfl<|.a 4 rfl<|.k [8,9] rfl) ?_
  refine W_ret ?_
  exact⟨_,_,ResL.of rfl,Pur.pure,rfl⟩
end PW
end Go.Proofs.YtnegbdpggideiaaGreatDoor

namespace Go.Proofs.YtnegbdpggideiaaGreatDoor
set_option linter.unusedVariables false
set_option linter.unusedSimpArgs false
namespace PW
open Go.RowKit Reg Mem Net
def onlyQ (K:St→Prop):Exit→St→Prop
 | .normal,s=>K s
 |_,_=>False
theorem W_seqM {P:Program} {N L:Nat} {x y:Code} {st:St} {Q:Exit→St→Prop} {Q1:St→Prop} (h:W P N L x st (onlyQ Q1)) (k:∀s,Q1 s→W P N L y s Q):W P N L (.seq x y) st Q:=
 W_seq (h.mono fun e s hq=>by
  cases e<;>first|exact k s hq|exact hq.elim)
section
variable {T:Topo} {D:List Bool} {n:Int} {p:List Int}
end
end PW
end Go.Proofs.YtnegbdpggideiaaGreatDoor

namespace Go.Proofs.YtnegbdpggideiaaGreatDoor
set_option linter.unusedVariables false
set_option linter.unusedSimpArgs false
namespace PW
open Go.RowKit Reg Mem Net
section
variable {T:Topo} {D:List Bool}
theorem Ch.arcs {d m:Nat} {q:List Int} (h:Ch T D d m q):∀a∈q,arcB T a=true:=by
 induction h with
 |nil=>intro a ha;cases ha
 | @cons n a m p ha ht hu hm ho hp ih=>
  intro b hb
  rcases List.mem_cons.1 hb with rfl|hb
  ·exact arcB_iff.2 ⟨by omega,by omega⟩
  ·exact ih b hb
theorem spE_facts {x y:Int} (h:spE T D x y=0):∃a b:Nat,x=(a:Int)∧y=(b:Int)∧(a:Int)<T.nodes∧(b:Int)<T.nodes∧validB T=true∧SP T D b a (spathL T D x.toNat y.toNat):=by
 unfold spE at h
 split at h
 ·rename_i he
  obtain⟨hv,hf,hn,hd⟩:=nodeE_zero he
  rw[nodeB_iff]at hn hd
  obtain⟨a,rfl⟩:=Int.eq_ofNat_of_zero_le hn.1
  obtain⟨b,rfl⟩:=Int.eq_ofNat_of_zero_le hd.1
  refine⟨a,b,rfl,rfl,hn.2,hd.2,hv,?_⟩
  simp only[Int.toNat_natCast]at h ⊢
  exact spath_sp hv hd.2 hn.2 (by split at h<;>omega)
 ·rename_i he
  exact absurd h he
structure ExpI (T:Topo) (D:List Bool) (l:List Seg) (n:Int) (k:Nat) (x:Int) (out:List Int):Prop where
 ends:(endsL T x (l.drop k)).2=0
 row:(endsL T n l).1.drop k=(endsL T x (l.drop k)).1
 err:(expL T D n l).1=(expL T D x (l.drop k)).1
 val:(expL T D n l).1=0→(expL T D n l).2=out++(expL T D x (l.drop k)).2
 len:out.length≤12*k
end
theorem segs_k (l:List Seg) (k:Nat) (s:Seg) (h:l[k]? =some s):(segsP l)[k*2+0]? =some (num s.kind):=segs_get l k 0 s h (by omega)
theorem segs_n (l:List Seg) (k:Nat) (s:Seg) (h:l[k]? =some s):(segsP l)[k*2+1]? =some (num s.num):=segs_get l k 1 s h (by omega)
instance (T:Topo) (n:Int) (l:List Int):IsFlat (pathV T n l):=by unfold pathV;infer_instance
end PW
end Go.Proofs.YtnegbdpggideiaaGreatDoor

namespace Go.Proofs.YtnegbdpggideiaaGreatDoor
set_option linter.unusedVariables false
set_option linter.unusedSimpArgs false
namespace PW
open Go.RowKit Reg Mem Net
noncomputable def sgB (T:Topo) (D:List Bool) (x y:Int):Bool:=(((validB T&&fitsB T D)&& !decide (x=y))&&uniqB T [] x y)&&clearB D (spathL T [] x.toNat y.toNat)
theorem uniq_sp {T:Topo} {D:List Bool} {x y:Int} (h:uniqB T D x y=true):spE T D x y=0:=by
 unfold uniqB at h
 rw[Bool.and_eq_true,decide_eq_true_eq,decide_eq_true_eq]at h
 obtain⟨h1,h2⟩:=h
 obtain⟨hv,hf,hn,hd⟩:=nodeE_zero h1
 rw[nodeB_iff]at hn hd
 obtain⟨a,rfl⟩:=Int.eq_ofNat_of_zero_le hn.1
 obtain⟨b,rfl⟩:=Int.eq_ofNat_of_zero_le hd.1
 simp only[Int.toNat_natCast]at h2
 unfold spE
 rw[if_pos h1,if_neg]
 simp only[Int.toNat_natCast]
 intro h0
 rw[cnt_unr hv hd.2 hn.2 h0]at h2
 omega
section
variable {T:Topo} {D:List Bool} {n:Int} {p:List Int}
theorem stands_cov (h:Fol T D n p) {i k x y:Nat} (hik:i<k) (hk:k≤p.length) (hx:endL T n (p.take i)=(x:Int)) (hy:endL T n (p.take k)=(y:Int)):(sgB T D x y&&sameB (spathL T [] x y) (partL p i k))=covB T [] n p i k:=by
 have hb:=h.bare
 have ha:=h.arcs
 have hv:=h.valid
 obtain⟨x',hx',hxN⟩:=end_node hv h.node ha i (by omega)
 obtain⟨y',hy',hyN⟩:=end_node hv h.node ha k hk
 have e1:x'=x:=by omega
 have e2:y'=y:=by omega
 subst e1
 subst e2
 rw[Bool.eq_iff_iff,cov_sp hb (by omega) hk hx hy]
 unfold sgB sameB
 simp only[Int.toNat_natCast,Bool.and_eq_true,Bool.not_eq_true',decide_eq_true_eq,decide_eq_false_iff_not]
 constructor
 ·rintro⟨⟨⟨_,h3⟩,h4⟩,h5⟩
  exact⟨uniq_sp h3,h3,h5⟩
 ·rintro⟨h1,h2,h3⟩
  refine⟨⟨⟨⟨⟨hv,h.fits⟩,fun e=>?_⟩,h2⟩,?_⟩,h3⟩
  ·have e2:x'=y':=by omega
   subst e2
   rw[spE_zero hv (fits_nil T) hxN hxN]at h1
   have hsp:=spath_sp (D:=[]) hv hxN hxN (by split at h1<;>omega)
   have h6:=hsp.self
   rw[h6]at h3
   have:=part_len p (show i≤k by omega) hk
   rw[←h3]at this
   simp at this
   omega
  ·rw[h3,clear_iff]
   exact fun a ha=>h.up a (part_mem ha)
end
section
variable {P:Program} {σ:Sto} {t:Tms} {o:Oper}
end
end PW
end Go.Proofs.YtnegbdpggideiaaGreatDoor

namespace Go.Proofs.YtnegbdpggideiaaGreatDoor
set_option linter.unusedVariables false
set_option linter.unusedSimpArgs false
namespace PW
open Go.RowKit Reg Mem Net
noncomputable def fstP (T:Topo) (n:Int) (p:List Int) (x:Int) (i:Nat):Nat→Nat→Option Nat
 |0,_=>none
 |f+1,j=>if endL T n (p.take j)=x∧covB T [] n p i j=true then some j else fstP T n p x i f (j+1)
noncomputable def stepP (T:Topo) (n:Int) (p:List Int) (i:Nat) (s:Seg):Option Nat:=
 if s.kind=2∧i<p.length∧p.getD i 0=s.num then some (i+1)
 else if s.kind=1 then fstP T n p s.num i (p.length - i) (i+1)
 else none
noncomputable def ckB (T:Topo) (n:Int) (p:List Int):Nat→List Seg→Bool
 |i,[]=>decide (i=p.length)
 |i,s::l=>match stepP T n p i s with
  |some j=>ckB T n p j l
  |none=>false
def noDeg (T:Topo):Int→List Seg→Bool
 |_,[]=>true
 |x,s::l=>if s.kind=1∧s.num=x then false else noDeg T (endS T s x).1 l
section
variable {T:Topo} {n:Int} {p:List Int}
theorem fstP_some {x:Int} {i:Nat}:∀(f j k:Nat),fstP T n p x i f j=some k→j≤k∧k<j+f∧endL T n (p.take k)=x∧covB T [] n p i k=true∧∀m,j≤m→m<k→¬(endL T n (p.take m)=x∧covB T [] n p i m=true)
 |0,j,k,h=>by simp[fstP]at h
 |f+1,j,k,h=>by
  simp only[fstP]at h
  split at h
  ·rename_i h1;cases h;exact⟨Nat.le_refl _,by omega,h1.1,h1.2,fun m h2 h3=>by omega⟩
  ·rename_i h1
   obtain⟨a,b,c,d,e⟩:=fstP_some f (j+1) k h
   refine⟨by omega,by omega,c,d,fun m h2 h3=>?_⟩
   by_cases hm:m=j
   ·subst hm;exact h1
   ·exact e m (by omega) h3
theorem fstP_is {x:Int} {i:Nat}:∀(f j k:Nat),j≤k→k<j+f→endL T n (p.take k)=x→covB T [] n p i k=true→(∀m,j≤m→m<k→¬(endL T n (p.take m)=x∧covB T [] n p i m=true))→fstP T n p x i f j=some k
 |0,j,k,h1,h2,_,_,_=>by omega
 |f+1,j,k,h1,h2,h3,h4,h5=>by
  simp only[fstP]
  by_cases e:j=k
  ·subst e;rw[if_pos ⟨h3,h4⟩]
  ·rw[if_neg (h5 j (Nat.le_refl _) (by omega))]
   exact fstP_is f (j+1) k (by omega) (by omega) h3 h4 (fun m h6 h7=>h5 m (by omega) h7)
theorem step_iff (h:Fol T [] n p) {i:Nat} (hi:i≤p.length) (s:Seg) (j:Nat):stepP T n p i s=some j↔stepX T [] n p i s=some j∧¬(s.kind=1∧s.num=endL T n (p.take i)):=by
 unfold stepP stepX
 by_cases h1:s.kind=2∧i<p.length∧p.getD i 0=s.num
 ·rw[if_pos h1,if_pos h1]
  constructor
  ·intro e;exact⟨e,fun e2=>by omega⟩
  ·intro e;exact e.1
 ·rw[if_neg h1,if_neg h1]
  by_cases h2:s.kind=1
  ·rw[if_pos h2,if_pos h2]
   constructor
   ·intro e
    obtain⟨a,b,c,d,_⟩:=fstP_some _ _ _ e
    have hf:=cov_first h (show i≤j by omega) (by omega) d
    rw[c]at hf
    rw[hf,if_pos ⟨c,d⟩]
    refine⟨rfl,fun e2=>?_⟩
    have:=fst_is (T:=T) (n:=n) (p:=p) s.num (p.length - i) i i (Nat.le_refl _) (by omega) e2.2.symm (fun k h3 h4=>by omega)
    omega
   ·rintro⟨e1,e2⟩
    split at e1
    ·rename_i h3
     simp only[Option.some.injEq]at e1
     have hge:=fst_ge (T:=T) (n:=n) (p:=p) s.num (p.length - i) i
     have hno:=fst_no (T:=T) (n:=n) (p:=p) s.num (p.length - i) i
     rw[e1]at h3 hge hno
     have hne:i≠j:=fun e=>e2 ⟨h2,by rw[e];exact h3.1.symm⟩
     exact fstP_is _ _ _ (by omega) (by omega) h3.1 h3.2 (fun m h4 h5 h6=>hno m (by omega) h5 h6.1)
    ·cases e1
  ·rw[if_neg h2,if_neg h2]
   simp
theorem step_end (h:Fol T [] n p) {i j:Nat} (hi:i≤p.length) {s:Seg} (hst:stepX T [] n p i s=some j):(endS T s (endL T n (p.take i))).1=endL T n (p.take j)∧(endS T s (endL T n (p.take i))).2=0∧j≤p.length:=by
 have ha:=h.arcs
 have hv:=h.valid
 obtain⟨x,hx,hxN⟩:=end_node hv h.node ha i hi
 have hnb:nodeB T (x:Int)=true:=nodeB_iff.2 ⟨by omega,hxN⟩
 rw[hx]
 have hss:=hst
 unfold stepX at hst
 split at hst
 ·rename_i h1
  cases hst
  have hab:=ha _ (getD_mem (d:=0) h1.2.1)
  have htl:=part_tail h h1.2.1 hx
  have hed:=endL_step T n p i h1.2.1
  rw[h1.2.2]at hab htl hed
  have hsg:segB T s=true:=by unfold segB;rw[if_neg (by omega),if_pos h1.1];exact hab
  have hes:endS T s x=(endL T n (p.take (i+1)),0):=by
   unfold endS
   rw[if_neg (by rw[hsg];simp),if_neg (by rw[hnb];simp),if_neg (by omega),if_pos h1.1,if_neg (by rw[htl];simp),hed]
  rw[hes]
  exact⟨rfl,rfl,h1.2.1⟩
 ·split at hst
  ·rename_i h2
   split at hst
   ·rename_i h3
    simp only[Option.some.injEq]at hst
    have hge:=fst_ge (T:=T) (n:=n) (p:=p) s.num (p.length - i) i
    rw[hst]at h3 hge
    obtain⟨y,hy,hyN⟩:=end_node hv h.node ha j (by omega)
    have hsy:s.num=(y:Int):=by rw[←h3.1];exact hy
    have hsg:segB T s=true:=by unfold segB;rw[if_pos h2,hsy];exact nodeB_iff.2 ⟨by omega,hyN⟩
    have hes:endS T s x=(s.num,0):=by
     unfold endS
     rw[if_neg (by rw[hsg];simp),if_neg (by rw[hnb];simp),if_pos h2]
    rw[hes]
    exact⟨h3.1.symm,rfl,by omega⟩
   ·cases hst
  ·cases hst
theorem ck_iff (h:Fol T [] n p):∀(l:List Seg) (i:Nat),i≤p.length→ckB T n p i l=(exB T [] n p i l&&noDeg T (endL T n (p.take i)) l)
 | [],i,hi=>by simp[ckB,exB,noDeg]
 |s::l,i,hi=>by
  simp only[ckB,exB,noDeg]
  cases hX:stepX T [] n p i s with
  |none=>
   have hP:stepP T n p i s=none:=by
    cases hP:stepP T n p i s with
    |none=>rfl
    |some j=>have:=((step_iff h hi s j).1 hP).1;rw[hX]at this;cases this
   rw[hP]
   rfl
  |some j=>
   obtain⟨e1,e2,e3⟩:=step_end h hi hX
   by_cases hd:s.kind=1∧s.num=endL T n (p.take i)
   ·have hP:stepP T n p i s=none:=by
     cases hP:stepP T n p i s with
     |none=>rfl
     |some j=>exact absurd hd ((step_iff h hi s j).1 hP).2
    rw[hP,if_pos hd]
    simp
   ·rw[(step_iff h hi s j).2 ⟨hX,hd⟩,if_neg hd,e1]
    simp only
    exact ck_iff h l j e3
theorem deg_lst (h:Fol T [] n p):∀(f i:Nat),i≤p.length→noDeg T (endL T n (p.take i)) (lstF T [] n p f i)=true
 |f,i,hi=>by
  by_cases hlt:i<p.length
  ·cases f with
   |zero=>rfl
   |succ f=>
    cases ht:topD (covB T [] n p i) i p.length with
    |none=>
     rw[lst_none hlt (fun k h1 h2=>topD_isNone _ ht k h1 h2)]
     have hst:stepX T [] n p i ⟨2,p.getD i 0⟩=some (i+1):=by unfold stepX;rw[if_pos ⟨rfl,hlt,rfl⟩]
     simp only[noDeg]
     rw[if_neg (by rintro⟨h1,_⟩;omega),(step_end h hi hst).1]
     exact deg_lst h f (i+1) (by omega)
    |some j=>
     obtain⟨t1,t2,t3,t4⟩:=topD_is _ _ ht
     rw[lst_some hlt t1 t2 t3 t4]
     have hf:=cov_first h (show i≤j by omega) t2 t3
     have hst:stepX T [] n p i ⟨1,endL T n (p.take j)⟩=some j:=by
      unfold stepX
      simp only
      rw[if_neg (by omega),if_pos trivial,hf,if_pos ⟨rfl,t3⟩]
     simp only[noDeg]
     rw[if_neg,(step_end h hi hst).1]
     ·exact deg_lst h f j t2
     ·rintro⟨_,h2⟩
      have:=fst_is (T:=T) (n:=n) (p:=p) (endL T n (p.take j)) (p.length - i) i i (Nat.le_refl _) (by omega) h2.symm (fun k h3 h4=>by omega)
      omega
  ·rw[lst_end f i (by omega)]
   rfl
end
noncomputable def ckE (T:Topo) (D:List Bool) (l:List Seg) (n:Int) (p:List Int):Bool:=if folE T D n p=0 then ckB T n p 0 l else false
end PW
end Go.Proofs.YtnegbdpggideiaaGreatDoor

namespace Go.Proofs.YtnegbdpggideiaaGreatDoor
set_option linter.unusedVariables false
set_option linter.unusedSimpArgs false
namespace PW
open Go.RowKit Reg Mem Net Rng
set_option maxRecDepth 10000 in
set_option maxHeartbeats 1000000 in
theorem pcfound_can (p:List Int) (u:PV):CanS Tryz.prog 190 [intsV p,.ptr 0 0] [some (.cells 37 [u])] (fun r σ'=>r= .tuple []∧σ'=[some (.cells 37 [intsV p])]):=by
 refine canS_of Tryz.func190 rfl Tryz.ntmps190 rfl ?_
 refine W_region ?_
 refine WR_a 2 rfl<|WR_k [] rfl ?_
 exact⟨_,ResL.of rfl,rfl,rfl⟩
set_option maxRecDepth 10000 in
set_option maxHeartbeats 1000000 in
theorem pcfind_can (T:Topo) (D:List Bool) (n d:Int):CanS Tryz.prog 184 [topoV T,boolsV D,num n,num d,.func 190 [.ptr 0 0]] [some (.cells 37 [.raw (.slice none 0 0)])] (fun r σ'=>r=num (spE T D n d)∧σ'=[some (.cells 37 [if spE T D n d=0 then intsV (spathL T D n.toNat d.toNat) else .raw (.slice none 0 0)])]):=by
 refine canS_of Tryz.func184 rfl Tryz.ntmps184 rfl ?_
 refine W_cs (.a 2 rfl<|.k [1,2,3,4,5] rfl) ?_
 refine W_cs (.a 4 rfl<|.c rfl (spath_can T D n d) rfl<|.a 5 rfl<|.k [4,11,12] rfl) ?_
 refine W_seq ?_
 refine W_cs (.a 2 rfl<|.k [4,11,12,22] rfl) ?_
 refine W_cond rfl (fun h1=>?_) (fun h1=>?_)
 ·have he:spE T D n d=0:=tt h1
  refine W_region ?_
  refine WR_a 2 rfl<|WR_cS rfl rfl (CanS.mono (pcfound_can _ _) (fun r σ' h=>?_))
  obtain⟨rfl,rfl⟩:=h
  refine WR_k [12] rfl ?_
  refine W_cs (.a 2 rfl<|.k [10] rfl) ?_
  refine W_ret ?_
  first
   |exact⟨_,ResL.of rfl,rfl,by rw[if_neg he]⟩
   |exact⟨_,ResL.of rfl,rfl,by simp only[if_pos he]⟩
 ·have he:¬spE T D n d=0:=ff h1
  refine W_skip ?_
  refine W_cs (.a 2 rfl<|.k [10] rfl) ?_
  refine W_ret ?_
  first
   |exact⟨_,ResL.of rfl,rfl,by rw[if_neg he]⟩
   |exact⟨_,ResL.of rfl,rfl,by simp only[if_pos he]⟩
set_option maxRecDepth 10000 in
set_option maxHeartbeats 1000000 in
theorem pcpath_can (T:Topo) (D:List Bool) (n d:Int):Can Tryz.prog 162 [topoV T,boolsV D,num n,num d] (· =intsE (spE T D n d) (spathL T D n.toNat d.toNat)):=by
 obtain⟨u,hu⟩:∃u:PV,(if spE T D n d=0 then intsV (spathL T D n.toNat d.toNat) else .raw (.slice none 0 0))=u:=⟨_,rfl⟩
 have hf:=pcfind_can T D n d
 rw[hu]at hf
 refine can_of Tryz.func162 rfl Tryz.ntmps162 rfl ?_
 refine W_cs (.a 3 rfl<|.k [1,2,3,4] rfl) ?_
 refine W_rs ?_
 refine WR_a 1 rfl<|WR_k [1,2,3,4,10] rfl ?_
 refine W_rs ?_
 refine WR_a 5 rfl<|WR_cS rfl rfl (CanS.mono hf (fun r σ' h=>?_))
 obtain⟨rfl,rfl⟩:=h
 refine WR_a 1 rfl<|WR_k [10,11] rfl ?_
 refine W_cs (.v (y_ld rfl ((show some u=some u from rfl))) rfl<|.a 3 rfl<|.k [8,9] rfl) ?_
 refine W_ret ?_
 refine⟨_,_,ResL.of rfl,Pur.tupleL (PurL.cons (y:=intsV (if spE T D n d=0 then spathL T D n.toNat d.toNat else [])) ?_ (PurL.cons Pur.pure PurL.nil)),rfl⟩
 rw[←hu]
 by_cases he:spE T D n d=0
 ·rw[if_pos he,if_pos he];exact Pur.pure
 ·rw[if_neg he,if_neg he];exact Pur.nils
end PW
end Go.Proofs.YtnegbdpggideiaaGreatDoor
