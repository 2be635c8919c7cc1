/- Texts of the proof, part 10. -/
import Derived.Test.YtnegbdpggideiaaGreatDoorCardMPB9
namespace Go.Proofs.YtnegbdpggideiaaGreatDoor
set_option linter.unusedVariables false
set_option linter.unusedSimpArgs false
namespace PW
open Go.RowKit Reg Mem Net
set_option maxRecDepth 10000 in
set_option maxHeartbeats 1000000 in
theorem routes_can (T:Topo) (D:List Bool) (n:Int):Can Tryz.prog 53 [topoV T,boolsV D,num n] (· = .tuple [tabV (routesE T D n),num (chkE T D [n])]):=by
 refine can_of Tryz.func53 rfl Tryz.ntmps53 rfl ?_
 refine W_rs ?_
 refine WR_a 3 rfl<|WR_k [1,2,3,6] rfl ?_
 refine W_seq ?_
 obtain⟨q1,hq1⟩:∃q,validB T=q:=⟨_,rfl⟩
 obtain⟨q2,hq2⟩:∃q,fitsB T D=q:=⟨_,rfl⟩
 refine W_csK 22 (.raw (.bool ((!q1)||(!q2)))) [1,2,3,6] rfl ?_ ?_
 ·refine .a 1 rfl<|.c rfl (hq1▸valid_can T) rfl<|.a 2 rfl<|?_
  cases q1
  ·exact .a 5 rfl<|.k [22,1,2,3,6] rfl
  ·exact .a 2 rfl<|.c rfl (hq2▸fits_can T D (by have:=links_le hq1;omega)) rfl<|.a 2 rfl<|.k [22,1,2,3,6] rfl
 refine W_cond rfl (fun hc=>?_) (fun hc=>?_)
 ·have hch:chkE T D [n]=1:=by
   unfold chkE
   rw[hq1,hq2,if_neg]
   revert hc
   cases q1<;>cases q2<;>simp
  refine W_rs ?_
  refine WR_a 3 rfl<|WR_k [6,7] rfl ?_
  refine W_ret ?_
  exact⟨_,_,ResL.of rfl,Pur.tupleL (PurL.cons (Pur.aggL (PurL.cons Pur.pure<|PurL.cons Pur.nils<|PurL.cons Pur.nils PurL.nil)) (PurL.cons Pur.pure PurL.nil)),by unfold routesE;rw[hch];rfl⟩
 ·have hok:(validB T&&fitsB T D)=true:=by
   rw[hq1,hq2]
   revert hc
   cases q1<;>cases q2<;>simp
  clear hc hq1 hq2
  refine W_skip ?_
  refine W_seq ?_
  refine W_cs (.a 2 rfl<|.c rfl (node_can T n) rfl<|.a 1 rfl<|.k [1,2,3,6,27] rfl) ?_
  refine W_cond rfl (fun hc=>?_) (fun hc=>?_)
  ·have hn:nodeB T n=false:=by revert hc;cases nodeB T n<;>simp
   have hch:chkE T D [n]=2:=by
    unfold chkE
    rw[if_pos hok,if_neg]
    simp[hn]
   refine W_rs ?_
   refine WR_a 3 rfl<|WR_k [6,7] rfl ?_
   refine W_ret ?_
   exact⟨_,_,ResL.of rfl,Pur.tupleL (PurL.cons (Pur.aggL (PurL.cons Pur.pure<|PurL.cons Pur.nils<|PurL.cons Pur.nils PurL.nil)) (PurL.cons Pur.pure PurL.nil)),by unfold routesE;rw[hch];rfl⟩
  ·have hn:nodeB T n=true:=by revert hc;cases nodeB T n<;>simp
   have hch:chkE T D [n]=0:=by
    unfold chkE
    rw[if_pos hok,if_pos]
    simp[hn]
   obtain⟨hv,hf⟩:=Bool.and_eq_true_iff.1 hok
   rw[nodeB_iff]at hn
   obtain⟨m,rfl⟩:=Int.eq_ofNat_of_zero_le hn.1
   obtain⟨N,hN⟩:∃N:Nat,T.nodes=(N:Int):=⟨T.nodes.toNat,by omega⟩
   have hN64:N≤64:=by have:=(sound_of hv).nodes;omega
   have hll:=links_le hv
   refine W_skip ?_
   refine W_rs ?_
   refine WR_a 4 rfl<|WR_k [1,2,3,6,8] rfl ?_
   refine W_adoptCell 1 1 76 3 rfl rfl ?_
   refine W_adoptCell 1 2 3 1 rfl rfl ?_
   refine W_seq ?_
   refine W_cs (.a 1 rfl<|.v (y_ld rfl ((show some (num T.nodes)=some (num (N:Int)) by rw[hN]))) rfl<|.a 1 rfl<|.k [1,2,3,6,8,32,33] rfl) ?_
   refine W_block ?_
   refine W_k [1,2,3,6,8,32,33] rfl ?_
   refine W_loop (fun r s=>∃j,j≤N∧r=N - j∧s=⟨[(1,boolsV D),(2,num m),(3,.pin (topoP T) 0),(6,.ptr 0 0),(8,.ptr 1 0),(32,num N),(33,num j)],[some (.cells 56 [num 0,.raw (.slice none 0 0),.raw (.slice none 0 0)]),some (.cells 56 [num m,.own 2,.own 3]),some (.row 76 3 j (entsP (toL T D m j))),some (.row 3 1 0 [])]⟩) N ⟨0,by omega,by omega,rfl⟩ ?_
   rintro r s ⟨j,hj,rfl,rfl⟩
   refine W_cs (.a 1 rfl<|.k [1,2,3,6,8,32,33,34] rfl) ?_
   refine W_seq ?_
   refine W_cond rfl (fun hc=>?_) (fun hc=>?_)
   ·have hlt:j<N:=by have:=of_decide_eq_true hc;omega
    have hne:nodeE T D (m:Int) (j:Int)=0:=by
     have hnb:nodeB T (j:Int)=true:=nodeB_iff.2 ⟨by omega,by omega⟩
     have hch':chkE T D [(j:Int)]=0:=by
      unfold chkE
      rw[if_pos hok,if_pos]
      simp[hnb]
     unfold nodeE
     rw[if_pos hch',if_pos (nodeB_iff.2 hn)]
    have hnx:Can Tryz.prog 109 [topoV T,boolsV D,num m,num j] (· = .tuple [intsV (nextL T D m j),num 0]):=by
     have h:=next_can T D (m:Int) (j:Int)
     rw[hne]at h
     exact h
    refine W_skip ?_
    refine W_seq ?_
    refine W_block ?_
    refine W_cs (.a 2 rfl<|.k [1,2,3,6,8,9,32,33] rfl) ?_
    refine W_cs (.a 4 rfl<|.c rfl (hnx) rfl<|.a 5 rfl<|.k [1,2,3,6,8,10,32,33] rfl) ?_
    refine W_region ?_
    refine WR_a 3 rfl<|WR_v (y_le (y_build (xs:=[_,_,_]) rfl (fok.st.get rfl) rfl rfl) (PLe.aggL (.cons (PLe.refl _)<|.cons (PLe.refl _)<|.cons PLe.nils .nil))) rfl<|WR_a 1 rfl<|WR_l (l_append rfl (fok.rk.get rfl) rfl rfl rfl rfl (by unfold maxLen;omega)) rfl<|WR_a 2 rfl ?_
    refine WR_ren [0,1,4,3] (.c 1<|.c 2<|.c 3<|.c 6<|.c 8<|.c 32<|.c 33<|.nil) (.kept rfl (.cells (RenL.c<|RenL.c<|RenL.c<|RenL.nil))<|.kept rfl (.cells (RenL.c<|RenL.c<|RenL.c<|RenL.nil))<|.kept rfl (.rowP rfl (show _=entsP (toL T D m (j+1)) by rw[toL_step];exact entsP_snoc _ ⟨nextL T D m j,false,[]⟩))<|.kept rfl (.row RenL.pure)<|.nil) rfl rfl (WR_nil ?_)
    refine W_chain (.v (y_ar rfl) rfl<|.a 1 rfl<|.k [1,2,3,6,8,32,33] rfl) ?_
    exact⟨N - (j+1),by omega,j+1,by omega,rfl,rfl⟩
   ·have hje:j=N:=by have:=of_decide_eq_false hc;omega
    subst hje
    refine W_exit ?_
    refine W_seq ?_
    have hol:(outL T m).length≤512:=Nat.le_trans (outTo_len T m _) (by omega)
    refine W_cs (.a 2 rfl<|.c rfl (out_can T hll _) rfl<|.a 2 rfl<|.k [1,6,8,54,55,56] rfl) ?_
    refine W_block ?_
    refine W_k [1,6,8,54,55,56] rfl ?_
    refine W_loop (fun r s=>∃i,i≤(outL T m).length∧r=(outL T m).length - i∧s=⟨[(1,boolsV D),(6,.ptr 0 0),(8,.ptr 1 0),(54,intsV (outL T m)),(55,num (outL T m).length),(56,num i)],[some (.cells 56 [num 0,.raw (.slice none 0 0),.raw (.slice none 0 0)]),some (.cells 56 [num m,.own 2,.own 3]),some (.row 76 3 j (entsP (toL T D m j))),some (.row 3 1 (downL D ((outL T m).take i)).length (intsP (downL D ((outL T m).take i))))]⟩) (outL T m).length ⟨0,by omega,by omega,rfl⟩ ?_
    rintro r s ⟨i,hi,rfl,rfl⟩
    refine W_cs (.a 1 rfl<|.k [1,6,8,54,55,56,57] rfl) ?_
    refine W_seq ?_
    refine W_cond rfl (fun hc=>?_) (fun hc=>?_)
    ·have hlt:i<(outL T m).length:=by have:=of_decide_eq_true hc;omega
     obtain⟨h0,h1⟩:=outL_mem (getD_mem (d:=0) hlt)
     obtain⟨a,ha⟩:=Int.eq_ofNat_of_zero_le h0
     have hDl:D.length=0∨a<D.length:=by simp only[fitsB,decide_eq_true_eq]at hf;omega
     have hstep:downL D ((outL T m).take (i+1))=downL D ((outL T m).take i)++(if downN D a then [(a:Int)] else []):=by
      unfold downL
      rw[take_step _ i 0 hlt,List.filter_append,ha]
      simp only[List.filter_cons,List.filter_nil,Int.toNat_natCast]
     have hdl:(downL D ((outL T m).take i)).length≤1000:=Nat.le_trans (List.length_filter_le _ _) (by rw[List.length_take];have:=outTo_len T m (2*T.links.length);unfold outL at*;omega)
     refine W_skip ?_
     refine W_seq ?_
     refine W_block ?_
     refine W_cs (.v (y_ix (i) rfl) rfl<|.v (y_ld rfl ((ints_get _ i hlt).trans (by rw[ha]))) rfl<|.a 1 rfl<|.k [1,6,8,13,54,55,56] rfl) ?_
     refine W_cs (.a 2 rfl<|.c rfl (down_can D a hDl) rfl<|.k [1,6,8,13,54,55,56,62] rfl) ?_
     refine W_cond rfl (fun hcd=>?_) (fun hcd=>?_)
     ·rw[hcd,if_pos rfl]at hstep
      refine W_region ?_
      refine WR_a 4 rfl<|WR_l (l_append rfl (fok.rk.get rfl) rfl rfl rfl rfl (by unfold maxLen;omega)) rfl<|WR_a 2 rfl ?_
      refine WR_ren [0,1,2,4] (.c 1<|.c 6<|.c 8<|.c 54<|.c 55<|.c 56<|.nil) (.kept rfl (.cells (RenL.c<|RenL.c<|RenL.c<|RenL.nil))<|.kept rfl (.cells (RenL.c<|RenL.c<|RenL.c<|RenL.nil))<|.kept rfl (.row RenL.pure)<|.kept rfl (.rowP rfl (intsP_snoc _ _))<|.nil) rfl rfl (WR_nil ?_)
      refine W_chain (.v (y_ar rfl) rfl<|.a 1 rfl<|.k [1,6,8,54,55,56] rfl) ?_
      refine⟨(outL T m).length - (i+1),by omega,i+1,by omega,rfl,?_⟩
      rw[hstep]
      first
       |rfl
       |(simp only[List.length_append,List.length_singleton];rfl)
     ·rw[hcd,if_neg (by simp),List.append_nil]at hstep
      refine W_skip ?_
      refine W_chain (.v (y_ar rfl) rfl<|.a 1 rfl<|.k [1,6,8,54,55,56] rfl) ?_
      refine⟨(outL T m).length - (i+1),by omega,i+1,by omega,rfl,?_⟩
      rw[hstep]
      first
       |rfl
       |(simp only[List.length_append,List.length_singleton];rfl)
    ·have hie:i=(outL T m).length:=by have:=of_decide_eq_false hc;omega
     subst hie
     refine W_exit ?_
     refine W_rs ?_
     refine WR_v (y_loadPtrAgg (ys:=[num m,.own 2,.own 3]) rfl (fok.tk.get rfl) rfl rfl rfl rfl) rfl<|WR_a 2 rfl<|WR_k [6,7] rfl ?_
     refine W_ret ?_
     refine⟨_,_,ResL.of rfl,Pur.tupleL (PurL.cons (Pur.aggL (PurL.cons Pur.pure<|PurL.cons (Pur.ownL rfl PurL.pure)<|PurL.cons (Pur.ownL rfl PurL.pure) PurL.nil)) (PurL.cons Pur.pure PurL.nil)),?_⟩
     unfold routesE
     rw[hch,if_pos rfl,List.take_length]
     unfold routesT tabV tabP entsV intsV
     rw[toL_len,show T.nodes.toNat=j by omega]
     rfl
end PW
end Go.Proofs.YtnegbdpggideiaaGreatDoor

namespace Go.Proofs.YtnegbdpggideiaaGreatDoor
set_option linter.unusedVariables false
set_option linter.unusedSimpArgs false
namespace PW
open Go.RowKit Reg Mem Net Rng
set_option maxRecDepth 10000 in
set_option maxHeartbeats 1000000 in
theorem routesS_can (T:Topo) (D:List Bool) (n:Int) (hch0:chkE T D [n]=0):CanS Tryz.prog 53 [topoV T,boolsV D,num n] [] (fun r σ'=>r= .tuple [.agg [num n,.own 2,.own 3],num 0]∧σ'=[some (.cells 56 [num n,.own 2,.own 3]),some (.cells 56 [num n,.own 2,.own 3]),some (.row 76 3 T.nodes.toNat (entsP (toL T D n.toNat T.nodes.toNat))),some (.row 3 1 (downL D (outL T n)).length (intsP (downL D (outL T n))))]):=by
 refine canS_of Tryz.func53 rfl Tryz.ntmps53 rfl ?_
 refine W_rs ?_
 refine WR_a 3 rfl<|WR_k [1,2,3,6] rfl ?_
 refine W_seq ?_
 obtain⟨q1,hq1⟩:∃q,validB T=q:=⟨_,rfl⟩
 obtain⟨q2,hq2⟩:∃q,fitsB T D=q:=⟨_,rfl⟩
 refine W_csK 22 (.raw (.bool ((!q1)||(!q2)))) [1,2,3,6] rfl ?_ ?_
 ·refine .a 1 rfl<|.c rfl (hq1▸valid_can T) rfl<|.a 2 rfl<|?_
  cases q1
  ·exact .a 5 rfl<|.k [22,1,2,3,6] rfl
  ·exact .a 2 rfl<|.c rfl (hq2▸fits_can T D (by have:=links_le hq1;omega)) rfl<|.a 2 rfl<|.k [22,1,2,3,6] rfl
 refine W_cond rfl (fun hc=>?_) (fun hc=>?_)
 ·have hch:chkE T D [n]=1:=by
   unfold chkE
   rw[hq1,hq2,if_neg]
   revert hc
   cases q1<;>cases q2<;>simp
  exact absurd hch0 (by rw[hch];decide)
 ·have hok:(validB T&&fitsB T D)=true:=by
   rw[hq1,hq2]
   revert hc
   cases q1<;>cases q2<;>simp
  clear hc hq1 hq2
  refine W_skip ?_
  refine W_seq ?_
  refine W_cs (.a 2 rfl<|.c rfl (node_can T n) rfl<|.a 1 rfl<|.k [1,2,3,6,27] rfl) ?_
  refine W_cond rfl (fun hc=>?_) (fun hc=>?_)
  ·have hn:nodeB T n=false:=by revert hc;cases nodeB T n<;>simp
   have hch:chkE T D [n]=2:=by
    unfold chkE
    rw[if_pos hok,if_neg]
    simp[hn]
   exact absurd hch0 (by rw[hch];decide)
  ·have hn:nodeB T n=true:=by revert hc;cases nodeB T n<;>simp
   have hch:chkE T D [n]=0:=by
    unfold chkE
    rw[if_pos hok,if_pos]
    simp[hn]
   obtain⟨hv,hf⟩:=Bool.and_eq_true_iff.1 hok
   rw[nodeB_iff]at hn
   obtain⟨m,rfl⟩:=Int.eq_ofNat_of_zero_le hn.1
   obtain⟨N,hN⟩:∃N:Nat,T.nodes=(N:Int):=⟨T.nodes.toNat,by omega⟩
   have hN64:N≤64:=by have:=(sound_of hv).nodes;omega
   have hll:=links_le hv
   refine W_skip ?_
   refine W_rs ?_
   refine WR_a 4 rfl<|WR_k [1,2,3,6,8] rfl ?_
   refine W_adoptCell 1 1 76 3 rfl rfl ?_
   refine W_adoptCell 1 2 3 1 rfl rfl ?_
   refine W_seq ?_
   refine W_cs (.a 1 rfl<|.v (y_ld rfl ((show some (num T.nodes)=some (num (N:Int)) by rw[hN]))) rfl<|.a 1 rfl<|.k [1,2,3,6,8,32,33] rfl) ?_
   refine W_block ?_
   refine W_k [1,2,3,6,8,32,33] rfl ?_
   refine W_loop (fun r s=>∃j,j≤N∧r=N - j∧s=⟨[(1,boolsV D),(2,num m),(3,.pin (topoP T) 0),(6,.ptr 0 0),(8,.ptr 1 0),(32,num N),(33,num j)],[some (.cells 56 [num 0,.raw (.slice none 0 0),.raw (.slice none 0 0)]),some (.cells 56 [num m,.own 2,.own 3]),some (.row 76 3 j (entsP (toL T D m j))),some (.row 3 1 0 [])]⟩) N ⟨0,by omega,by omega,rfl⟩ ?_
   rintro r s ⟨j,hj,rfl,rfl⟩
   refine W_cs (.a 1 rfl<|.k [1,2,3,6,8,32,33,34] rfl) ?_
   refine W_seq ?_
   refine W_cond rfl (fun hc=>?_) (fun hc=>?_)
   ·have hlt:j<N:=by have:=of_decide_eq_true hc;omega
    have hne:nodeE T D (m:Int) (j:Int)=0:=by
     have hnb:nodeB T (j:Int)=true:=nodeB_iff.2 ⟨by omega,by omega⟩
     have hch':chkE T D [(j:Int)]=0:=by
      unfold chkE
      rw[if_pos hok,if_pos]
      simp[hnb]
     unfold nodeE
     rw[if_pos hch',if_pos (nodeB_iff.2 hn)]
    have hnx:Can Tryz.prog 109 [topoV T,boolsV D,num m,num j] (· = .tuple [intsV (nextL T D m j),num 0]):=by
     have h:=next_can T D (m:Int) (j:Int)
     rw[hne]at h
     exact h
    refine W_skip ?_
    refine W_seq ?_
    refine W_block ?_
    refine W_cs (.a 2 rfl<|.k [1,2,3,6,8,9,32,33] rfl) ?_
    refine W_cs (.a 4 rfl<|.c rfl (hnx) rfl<|.a 5 rfl<|.k [1,2,3,6,8,10,32,33] rfl) ?_
    refine W_region ?_
    refine WR_a 3 rfl<|WR_v (y_le (y_build (xs:=[_,_,_]) rfl (fok.st.get rfl) rfl rfl) (PLe.aggL (.cons (PLe.refl _)<|.cons (PLe.refl _)<|.cons PLe.nils .nil))) rfl<|WR_a 1 rfl<|WR_l (l_append rfl (fok.rk.get rfl) rfl rfl rfl rfl (by unfold maxLen;omega)) rfl<|WR_a 2 rfl ?_
    refine WR_ren [0,1,4,3] (.c 1<|.c 2<|.c 3<|.c 6<|.c 8<|.c 32<|.c 33<|.nil) (.kept rfl (.cells (RenL.c<|RenL.c<|RenL.c<|RenL.nil))<|.kept rfl (.cells (RenL.c<|RenL.c<|RenL.c<|RenL.nil))<|.kept rfl (.rowP rfl (show _=entsP (toL T D m (j+1)) by rw[toL_step];exact entsP_snoc _ ⟨nextL T D m j,false,[]⟩))<|.kept rfl (.row RenL.pure)<|.nil) rfl rfl (WR_nil ?_)
    refine W_chain (.v (y_ar rfl) rfl<|.a 1 rfl<|.k [1,2,3,6,8,32,33] rfl) ?_
    exact⟨N - (j+1),by omega,j+1,by omega,rfl,rfl⟩
   ·have hje:j=N:=by have:=of_decide_eq_false hc;omega
    subst hje
    refine W_exit ?_
    refine W_seq ?_
    have hol:(outL T m).length≤512:=Nat.le_trans (outTo_len T m _) (by omega)
    refine W_cs (.a 2 rfl<|.c rfl (out_can T hll _) rfl<|.a 2 rfl<|.k [1,6,8,54,55,56] rfl) ?_
    refine W_block ?_
    refine W_k [1,6,8,54,55,56] rfl ?_
    refine W_loop (fun r s=>∃i,i≤(outL T m).length∧r=(outL T m).length - i∧s=⟨[(1,boolsV D),(6,.ptr 0 0),(8,.ptr 1 0),(54,intsV (outL T m)),(55,num (outL T m).length),(56,num i)],[some (.cells 56 [num 0,.raw (.slice none 0 0),.raw (.slice none 0 0)]),some (.cells 56 [num m,.own 2,.own 3]),some (.row 76 3 j (entsP (toL T D m j))),some (.row 3 1 (downL D ((outL T m).take i)).length (intsP (downL D ((outL T m).take i))))]⟩) (outL T m).length ⟨0,by omega,by omega,rfl⟩ ?_
    rintro r s ⟨i,hi,rfl,rfl⟩
    refine W_cs (.a 1 rfl<|.k [1,6,8,54,55,56,57] rfl) ?_
    refine W_seq ?_
    refine W_cond rfl (fun hc=>?_) (fun hc=>?_)
    ·have hlt:i<(outL T m).length:=by have:=of_decide_eq_true hc;omega
     obtain⟨h0,h1⟩:=outL_mem (getD_mem (d:=0) hlt)
     obtain⟨a,ha⟩:=Int.eq_ofNat_of_zero_le h0
     have hDl:D.length=0∨a<D.length:=by simp only[fitsB,decide_eq_true_eq]at hf;omega
     have hstep:downL D ((outL T m).take (i+1))=downL D ((outL T m).take i)++(if downN D a then [(a:Int)] else []):=by
      unfold downL
      rw[take_step _ i 0 hlt,List.filter_append,ha]
      simp only[List.filter_cons,List.filter_nil,Int.toNat_natCast]
     have hdl:(downL D ((outL T m).take i)).length≤1000:=Nat.le_trans (List.length_filter_le _ _) (by rw[List.length_take];have:=outTo_len T m (2*T.links.length);unfold outL at*;omega)
     refine W_skip ?_
     refine W_seq ?_
     refine W_block ?_
     refine W_cs (.v (y_ix (i) rfl) rfl<|.v (y_ld rfl ((ints_get _ i hlt).trans (by rw[ha]))) rfl<|.a 1 rfl<|.k [1,6,8,13,54,55,56] rfl) ?_
     refine W_cs (.a 2 rfl<|.c rfl (down_can D a hDl) rfl<|.k [1,6,8,13,54,55,56,62] rfl) ?_
     refine W_cond rfl (fun hcd=>?_) (fun hcd=>?_)
     ·rw[hcd,if_pos rfl]at hstep
      refine W_region ?_
      refine WR_a 4 rfl<|WR_l (l_append rfl (fok.rk.get rfl) rfl rfl rfl rfl (by unfold maxLen;omega)) rfl<|WR_a 2 rfl ?_
      refine WR_ren [0,1,2,4] (.c 1<|.c 6<|.c 8<|.c 54<|.c 55<|.c 56<|.nil) (.kept rfl (.cells (RenL.c<|RenL.c<|RenL.c<|RenL.nil))<|.kept rfl (.cells (RenL.c<|RenL.c<|RenL.c<|RenL.nil))<|.kept rfl (.row RenL.pure)<|.kept rfl (.rowP rfl (intsP_snoc _ _))<|.nil) rfl rfl (WR_nil ?_)
      refine W_chain (.v (y_ar rfl) rfl<|.a 1 rfl<|.k [1,6,8,54,55,56] rfl) ?_
      refine⟨(outL T m).length - (i+1),by omega,i+1,by omega,rfl,?_⟩
      rw[hstep]
      first
       |rfl
       |(simp only[List.length_append,List.length_singleton];rfl)
     ·rw[hcd,if_neg (by simp),List.append_nil]at hstep
      refine W_skip ?_
      refine W_chain (.v (y_ar rfl) rfl<|.a 1 rfl<|.k [1,6,8,54,55,56] rfl) ?_
      refine⟨(outL T m).length - (i+1),by omega,i+1,by omega,rfl,?_⟩
      rw[hstep]
      first
       |rfl
       |(simp only[List.length_append,List.length_singleton];rfl)
    ·have hie:i=(outL T m).length:=by have:=of_decide_eq_false hc;omega
     subst hie
     refine W_exit ?_
     refine W_rs ?_
     refine WR_v (y_loadPtrAgg (ys:=[num m,.own 2,.own 3]) rfl (fok.tk.get rfl) rfl rfl rfl rfl) rfl<|WR_a 2 rfl<|WR_k [6,7] rfl ?_
     refine W_ret ?_
     refine⟨_,ResL.of rfl,rfl,?_⟩
     have hjN:T.nodes.toNat=j:=by omega
     rw[List.take_length,Int.toNat_natCast,hjN]
     rfl
def tabE (e:Int) (x:Tab):PV:=.tuple [tabV (if e=0 then x else⟨0,[],[]⟩),num e]
theorem entE_zero {T:Topo} {D:List Bool} {n d:Int} (hv:validB T=true) (hf:fitsB T D=true) (hn:nodeB T n=true) (hd:nodeB T d=true):nodeE T D n d=0:=by
 unfold nodeE chkE
 rw[hv,hf,hn]
 simp[hd]
def dwnTo (M:List Bool) (T:Topo) (n:Int) (k:Nat):List Int:=((List.range k).filter fun a=>downN M a&&decide (tailN T a=n)).map Int.ofNat
def ownTo (T:Topo) (M:List Bool) (n:Int) (k:Nat):List Bool:=(List.range (2*T.links.length)).map fun a=>decide (a<k)&&(downN M a&&decide (tailN T a=n))
theorem dwn_all (M:List Bool) (T:Topo) (n:Int):dwnTo M T n (2*T.links.length)=downL M (outL T n):=by
 unfold dwnTo downL outL outTo
 rw[List.filter_map,List.filter_filter]
 congr 1
theorem dwn_len (M:List Bool) (T:Topo) (n:Int) (k:Nat):(dwnTo M T n k).length≤k:=by
 unfold dwnTo
 rw[List.length_map]
 exact Nat.le_trans (List.length_filter_le _ _) (by simp)
theorem dwn_yes {M:List Bool} {T:Topo} {n:Int} {k:Nat} (h:(downN M k&&decide (tailN T k=n))=true):dwnTo M T n (k+1)=dwnTo M T n k++[(k:Int)]:=by
 simp only[dwnTo,List.range_succ,List.filter_append,List.map_append]
 rw[List.filter_cons_of_pos (by simpa using h)]
 rfl
theorem dwn_no {M:List Bool} {T:Topo} {n:Int} {k:Nat} (h:(downN M k&&decide (tailN T k=n))=false):dwnTo M T n (k+1)=dwnTo M T n k:=by
 simp only[dwnTo,List.range_succ,List.filter_append,List.map_append]
 rw[List.filter_cons_of_neg (by simpa using h)]
 simp
theorem ownTo_len (T:Topo) (M:List Bool) (n:Int) (k:Nat):(ownTo T M n k).length=2*T.links.length:=by simp[ownTo]
theorem ownTo_zero (T:Topo) (M:List Bool) (n:Int):ownTo T M n 0=List.replicate (2*T.links.length) false:=by
 unfold ownTo
 apply List.ext_getElem (by simp)
 intro i h1 h2
 simp
theorem ownTo_yes {T:Topo} {M:List Bool} {n:Int} {k:Nat} (h:(downN M k&&decide (tailN T k=n))=true):(ownTo T M n k).set k true=ownTo T M n (k+1):=by
 apply List.ext_getElem (by simp[ownTo])
 intro i h1 h2
 rw[List.getElem_set]
 by_cases e:k=i
 ·subst e
  simp only[ownTo,List.getElem_map,List.getElem_range,if_true]
  rw[h,decide_eq_true (by omega)];rfl
 ·rw[if_neg e]
  simp only[ownTo,List.getElem_map,List.getElem_range]
  rw[show decide (i<k+1)=decide (i<k) from decide_eq_decide.2 (by omega)]
theorem ownTo_no {T:Topo} {M:List Bool} {n:Int} {k:Nat} (h:(downN M k&&decide (tailN T k=n))=false):ownTo T M n (k+1)=ownTo T M n k:=by
 unfold ownTo
 refine List.map_congr_left fun a _=>?_
 by_cases e:a=k
 ·subst e;rw[h];simp
 ·rw[show decide (a<k+1)=decide (a<k) from decide_eq_decide.2 (by omega)]
theorem ownTo_all (T:Topo) (M:List Bool) (n:Int):ownTo T M n (2*T.links.length)=ownM T M n:=by
 unfold ownTo ownM
 refine List.map_congr_left fun a ha=>?_
 rw[decide_eq_true (List.mem_range.1 ha),Bool.true_and]
theorem downN_get {M:List Bool} {a:Nat}:M.getD a false=downN M a:=by
 unfold downN
 by_cases h:M.length=0
 ·have:M=[]:=List.eq_nil_of_length_eq_zero h
  subst this;simp
 ·first
   |rfl
   |simp[h]
set_option maxRecDepth 10000 in
set_option maxHeartbeats 1000000 in
theorem rdown_can (T:Topo) (k x n:Int) (hm:(validB T&&compB T k x)=true):Can Tryz.prog 95 [topoV T,compV k x,num n] (· = .tuple [intsV (downL (maskL T k x) (outL T n)),boolsV (ownM T (maskL T k x) n)]):=by
 obtain⟨hv,hc⟩:=Bool.and_eq_true_iff.1 hm
 have hll:=links_le hv
 have hmk:=rmask_can T k x
 unfold boolsE maskE at hmk
 rw[if_pos hm,if_pos rfl]at hmk
 obtain⟨M,hM⟩:∃M,maskL T k x=M:=⟨_,rfl⟩
 have hMl:M.length=2*T.links.length:=by rw[←hM];exact maskL_len T k x
 rw[hM]at hmk ⊢
 refine can_of Tryz.func95 rfl Tryz.ntmps95 rfl ?_
 refine W_cs (.a 4 rfl<|.k [2,3,4] rfl) ?_
 refine W_cs (.a 2 rfl<|.c rfl (hmk) rfl<|.a 5 rfl<|.k [2,3,8] rfl) ?_
 refine W_rs ?_
 refine WR_a 2 rfl<|WR_l (l_make rfl (fok.rk.get rfl) rfl rfl (show(M.length:Int)=((2*T.links.length:Nat):Int) by omega) (show(M.length:Int)=((2*T.links.length:Nat):Int) by omega) ⟨by unfold maxLen;omega,by omega⟩) rfl<|WR_a 1 rfl<|WR_k [2,3,8,10] rfl ?_
 refine W_cs (.a 1 rfl<|.k [2,3,8,10,11] rfl) ?_
 refine W_adopt 11 3 1 rfl ?_
 refine W_sto (σ':=[some (.row 4 1 (2*T.links.length) (boolsP (ownTo T M n 0))),some (.row 3 1 0 [])]) (by rw[ownTo_zero,←zeros_bools];rfl) ?_
 refine W_seq ?_
 refine W_cs (.a 1 rfl<|.k [2,3,8,10,11,12] rfl) ?_
 refine W_block ?_
 refine W_k [2,3,8,10,11,12] rfl ?_
 refine W_loop (fun r st=>∃a:Nat,a≤2*T.links.length∧r=2*T.links.length - a∧st=⟨[(2,num n),(3,.pin (topoP T) 0),(8,boolsV M),(10,.own 0),(11,.own 1),(12,num a)],[some (.row 4 1 (2*T.links.length) (boolsP (ownTo T M n a))),some (.row 3 1 (dwnTo M T n a).length (intsP (dwnTo M T n a)))]⟩) (2*T.links.length) ⟨0,by omega,by omega,rfl⟩ ?_
 rintro r st ⟨a,ha,rfl,rfl⟩
 refine W_seq ?_
 refine W_cs (.a 4 rfl<|.k [2,3,8,10,11,12,25] rfl) ?_
 refine W_cond rfl (fun h1=>?_) (fun h1=>?_)
 ·have hlt:a<2*T.links.length:=by have:=tt h1;omega
  have hal:(ownTo T M n a).length=2*T.links.length:=ownTo_len T M n a
  have hdl:(dwnTo M T n a).length≤512:=Nat.le_trans (dwn_len M T n a) (by omega)
  refine W_skip ?_
  refine W_seq ?_
  refine W_block ?_
  obtain⟨c1,hc1⟩:∃q,downN M a=q:=⟨_,rfl⟩
  obtain⟨c2,hc2⟩:∃q,decide (tailN T a=n)=q:=⟨_,rfl⟩
  refine W_csK 38 (.raw (.bool (c1&&c2))) [2,3,8,10,11,12] rfl ?_ ?_
  ·refine .a 2 rfl<|.v (y_ix (a) rfl) rfl<|.v (y_ld rfl (show _=some (flag c1) by rw[bools_getP _ a (by omega),downN_get,hc1])) rfl<|.a 1 rfl<|?_
   cases c1
   ·exact .a 6 rfl<|.k [38,2,3,8,10,11,12] rfl
   ·exact .a 2 rfl<|.c rfl (rtailN_can T hv a hlt) rfl<|.a 1 rfl<|.v (y_q rfl (hc2)) rfl<|.a 1 rfl<|.k [38,2,3,8,10,11,12] rfl
  refine W_cond rfl (fun h2=>?_) (fun h2=>?_)
  ·have h2:(downN M a&&decide (tailN T a=n))=true:=by rw[hc1,hc2];exact h2
   have hs1:=dwn_yes h2
   have hs2:=ownTo_yes h2
   refine W_rs ?_
   refine WR_a 3 rfl<|WR_l (l_append rfl (fok.rk.get rfl) rfl rfl rfl rfl (by unfold maxLen;omega)) rfl<|WR_a 1 rfl ?_
   refine WR_ren [0,2] (.c 2<|.c 3<|.c 8<|.c 10<|.c 11<|.c 12<|.nil) (.kept rfl (.row RenL.pure)<|.kept rfl (.rowP rfl (intsP_snoc _ _))<|.nil) rfl rfl (WR_nil ?_)
   refine W_region ?_
   refine WR_a 2 rfl<|WR_v (y_ix (a) rfl) rfl<|WR_loud0 ((by first|exact l_storeInts rfl (fok.tk.get rfl) rfl rfl rfl (by first|omega|(simp;omega))|exact l_storeBools rfl (fok.tk.get rfl) rfl rfl rfl (by first|omega|(simp;omega)))) rfl rfl<|WR_k [2,3,8,10,11,12] rfl ?_
   refine W_sto (σ':=[some (.row 4 1 (2*T.links.length) (boolsP (ownTo T M n (a+1)))),some (.row 3 1 (dwnTo M T n (a+1)).length (intsP (dwnTo M T n (a+1))))]) (by rw[←hs2,hs1,List.length_append];rfl) ?_
   refine W_chain (.a 1 rfl<|.v (y_ar rfl) rfl<|.a 1 rfl<|.k [2,3,8,10,11,12] rfl) ?_
   first
    |exact⟨2*T.links.length - (a+1),by omega,a+1,by omega,rfl,rfl⟩
    |exact⟨2*T.links.length - (a+1),by omega,a+1,by omega,rfl,by rw[hs1,hs2];rfl⟩
  ·have h2:(downN M a&&decide (tailN T a=n))=false:=by rw[hc1,hc2];exact h2
   have hs1:=dwn_no h2
   have hs2:=ownTo_no h2
   refine W_skip ?_
   refine W_chain (.a 1 rfl<|.v (y_ar rfl) rfl<|.a 1 rfl<|.k [2,3,8,10,11,12] rfl) ?_
   first
    |exact⟨2*T.links.length - (a+1),by omega,a+1,by omega,rfl,rfl⟩
    |exact⟨2*T.links.length - (a+1),by omega,a+1,by omega,rfl,by rw[hs1,hs2];rfl⟩
 ·have hae:a=2*T.links.length:=by have:=ff h1;omega
  subst hae
  refine W_exit ?_
  refine W_cs (.a 4 rfl<|.k [6,7] rfl) ?_
  refine W_ret ?_
  refine⟨_,_,ResL.of rfl,Pur.tupleL (PurL.cons (Pur.ownL rfl PurL.pure) (PurL.cons (Pur.ownL rfl PurL.pure) PurL.nil)),?_⟩
  rw[dwn_all,ownTo_all]
  unfold intsV boolsV
  rw[show(ownM T M n).length=2*T.links.length by simp[ownM]]
end PW
end Go.Proofs.YtnegbdpggideiaaGreatDoor

namespace Go.Proofs.YtnegbdpggideiaaGreatDoor
set_option linter.unusedVariables false
set_option linter.unusedSimpArgs false
namespace PW
open Go.RowKit Reg Mem
structure GD where
 p:PV
 r:Option Nat
 lo:Nat
 hi:Nat
section
variable {P:Program} {N L:Nat}
inductive GK (P:Program) (N:Nat) (ops:Array Oper) (σs:List Sto) (T:Tms) (o:Oper):GD→Prop
 |val {p:PV} {d lo hi:Nat} (ks:List Nat) (hks:(ks.all fun k=>(o.looksAt ops).contains k)=true) (hw:wantB ops T o=some true) (hy:∀r σ,lo≤r→r≤hi→σs[r]? =some σ→Yield P σ (pickT T ks) o p) (hd:o.dst=some d) (hN:Nat.blt d N=true):GK P N ops σs T o ⟨p,none,lo,hi⟩
 |skip {d lo hi:Nat} (hw:wantB ops T o=some false) (hd:o.dst=some d) (hN:Nat.blt d N=true):GK P N ops σs T o ⟨.raw undef,none,lo,hi⟩
 |loud {p:PV} {d r lo hi:Nat} {σ σ':Sto} (ks:List Nat) (hks:(ks.all fun k=>(o.looksAt ops).contains k)=true) (hw:wantB ops T o=some true) (h1:σs[r]? =some σ) (h2:σs[r+1]? =some σ') (hy:Loud P σ (pickT T ks) o p σ') (hd:o.dst=some d) (hN:Nat.blt d N=true):GK P N ops σs T o ⟨p,some r,lo,hi⟩
 |loud0 {p:PV} {r lo hi:Nat} {σ σ':Sto} (ks:List Nat) (hks:(ks.all fun k=>(o.looksAt ops).contains k)=true) (hw:wantB ops T o=some true) (h1:σs[r]? =some σ) (h2:σs[r+1]? =some σ') (hy:Loud P σ (pickT T ks) o p σ') (hd:o.dst=none):GK P N ops σs T o ⟨p,some r,lo,hi⟩
inductive GL (P:Program) (N:Nat) (ops:Array Oper) (σs:List Sto) (T:Tms):List Oper→List GD→Prop
 |nil:GL P N ops σs T [] []
 |cons {o:Oper} {g:GD} {l:List Oper} {gs:List GD}:GK P N ops σs T o g→GL P N ops σs T l gs→GL P N ops σs T (o::l) (g::gs)
theorem GL.get {ops:Array Oper} {σs:List Sto} {T:Tms}:∀ {l:List Oper} {gs:List GD},GL P N ops σs T l gs→gs.length=l.length∧∀(i:Nat) o g,l[i]? =some o→gs[i]? =some g→GK P N ops σs T o g
 |_,_,.nil=>⟨rfl,fun i o g h=>by simp at h⟩
 |_,_,.cons h hs=>by
  obtain⟨h1,h2⟩:=hs.get
  refine⟨by simp[h1],fun i o g ho hg=>?_⟩
  cases i with
  |zero=>simp at ho hg;subst ho;subst hg;exact h
  |succ i=>exact h2 i o g (by simpa using ho) (by simpa using hg)
def rkOf (gs:List GD) (i:Nat):Option Nat:=(gs[i]?).bind (·.r)
def grdB (ops : Array Oper) (f m : Nat) (gs : List GD) : Bool :=
  Nat.beq gs.length ops.size &&
  ((List.range ops.size).all fun i => (aft ops i).all fun k => decide (k < i)) &&
  ((List.range ops.size).all fun i => (List.range i).all fun j => (dstOf ops i).isNone || dstOf ops i != dstOf ops j) &&
  ((List.range ops.size).all fun j => (looksOf ops j).all fun k => (List.range ops.size).all fun i => dstOf ops i != some k || reachB ops f j i) &&
  ((List.range ops.size).all fun i => match gs[i]? with
    | some ⟨_, some r, _, _⟩ => decide (r < m) && (Nat.beq r 0 || (List.range ops.size).any fun j => rkOf gs j == some (r - 1) && reachB ops f i j)
    | some ⟨_, none, lo, hi⟩ => (Nat.beq lo 0 || (List.range ops.size).any fun j => rkOf gs j == some (lo - 1) && reachB ops f i j) && (Nat.ble m hi || (List.range ops.size).any fun j => rkOf gs j == some hi && reachB ops f j i)
    | none => false) &&
  ((List.range ops.size).all fun i => (List.range i).all fun j => (rkOf gs i).isNone || rkOf gs i != rkOf gs j) &&
  ((List.range m).all fun r => (List.range ops.size).any fun j => rkOf gs j == some r)
structure Grd (ops:Array Oper) (f m:Nat) (gs:List GD):Prop where
 len:gs.length=ops.size
 aft:∀i,i<ops.size→∀k∈aft ops i,k<i
 ss:∀i j d,i<ops.size→j<ops.size→dstOf ops i=some d→dstOf ops j=some d→i=j
 rd:∀j,j<ops.size→∀k∈looksOf ops j,∀i,i<ops.size→dstOf ops i=some k→reachB ops f j i=true
 loud:∀(i:Nat) g r,gs[i]? =some g→g.r=some r→r<m∧(r=0∨∃j,j<ops.size∧rkOf gs j=some (r - 1)∧reachB ops f i j=true)
 quiet:∀(i:Nat) g,gs[i]? =some g→g.r=none→(g.lo=0∨∃j,j<ops.size∧rkOf gs j=some (g.lo - 1)∧reachB ops f i j=true)∧(m≤g.hi∨∃j,j<ops.size∧rkOf gs j=some g.hi∧reachB ops f j i=true)
 one:∀i j r,i<ops.size→j<ops.size→rkOf gs i=some r→rkOf gs j=some r→i=j
 has:∀r,r<m→∃j,j<ops.size∧rkOf gs j=some r
theorem grdB_grd {ops:Array Oper} {f m:Nat} {gs:List GD} (h:grdB ops f m gs=true):Grd ops f m gs:=by
 unfold grdB at h
 simp only[Bool.and_eq_true]at h
 obtain⟨⟨⟨⟨⟨⟨h1,h2⟩,h3⟩,h4⟩,h5⟩,h6⟩,h7⟩:=h
 have hl:gs.length=ops.size:=Nat.eq_of_beq_eq_true h1
 have all:∀ {n:Nat} {p:Nat→Bool},(List.range n).all p=true→∀i,i<n→p i=true:=fun h i hi=>List.all_eq_true.1 h i (List.mem_range.2 hi)
 have any:∀ {n:Nat} {p:Nat→Bool},(List.range n).any p=true→∃i,i<n∧p i=true:=fun h=>by
  obtain⟨i,hi,hp⟩:=List.any_eq_true.1 h
  exact⟨i,List.mem_range.1 hi,hp⟩
 have s3:∀i j d,i<ops.size→j<i→dstOf ops i=some d→dstOf ops j=some d→False:=fun i j d hi hj e1 e2=>by
  have:=all (all h3 i hi) j hj
  rw[e1,e2]at this
  simp at this
 have s6:∀i j r,i<ops.size→j<i→rkOf gs i=some r→rkOf gs j=some r→False:=fun i j r hi hj e1 e2=>by
  have:=all (all h6 i hi) j hj
  rw[e1,e2]at this
  simp at this
 refine⟨hl,fun i hi k hk=>?_,fun i j d hi hj e1 e2=>?_,fun j hj k hk i hi hd=>?_,fun i g r hg hr=>?_,fun i g hg hr=>?_,fun i j r hi hj e1 e2=>?_,fun r hr=>?_⟩
 ·have:=List.all_eq_true.1 (all h2 i hi) k hk;simpa using this
 ·rcases Nat.lt_trichotomy i j with h|h|h
  ·exact(s3 j i d hj h e2 e1).elim
  ·exact h
  ·exact(s3 i j d hi h e1 e2).elim
 ·have:=all (List.all_eq_true.1 (all h4 j hj) k hk) i hi
  rw[hd]at this
  simpa using this
 ·have hi:i<ops.size:=by rw[←hl];exact(List.getElem?_eq_some_iff.1 hg).1
  have:=all h5 i hi
  obtain⟨p,r',lo,hi'⟩:=g
  simp only at hr
  subst hr
  rw[hg]at this
  simp only[Bool.and_eq_true,decide_eq_true_eq,Bool.or_eq_true]at this
  refine⟨this.1,?_⟩
  rcases this.2 with h|h
  ·exact .inl (Nat.eq_of_beq_eq_true h)
  ·obtain⟨j,hj,h'⟩:=any h
   simp only[Bool.and_eq_true,beq_iff_eq]at h'
   exact .inr ⟨j,hj,h'.1,h'.2⟩
 ·have hi:i<ops.size:=by rw[←hl];exact(List.getElem?_eq_some_iff.1 hg).1
  have:=all h5 i hi
  obtain⟨p,r',lo,hi'⟩:=g
  simp only at hr
  subst hr
  rw[hg]at this
  simp only[Bool.and_eq_true,Bool.or_eq_true]at this
  refine⟨?_,?_⟩
  ·rcases this.1 with h|h
   ·exact .inl (Nat.eq_of_beq_eq_true h)
   ·obtain⟨j,hj,h'⟩:=any h
    simp only[Bool.and_eq_true,beq_iff_eq]at h'
    exact .inr ⟨j,hj,h'.1,h'.2⟩
  ·rcases this.2 with h|h
   ·exact .inl (Nat.ble_eq.mp h)
   ·obtain⟨j,hj,h'⟩:=any h
    simp only[Bool.and_eq_true,beq_iff_eq]at h'
    exact .inr ⟨j,hj,h'.1,h'.2⟩
 ·rcases Nat.lt_trichotomy i j with h|h|h
  ·exact(s6 j i r hj h e2 e1).elim
  ·exact h
  ·exact(s6 i j r hi h e1 e2).elim
 ·obtain⟨j,hj,h⟩:=any (all h7 r hr)
  exact⟨j,hj,by simpa using h⟩
structure Grg (base N:Nat) (F:Nat→Prop) (l:List Oper) (gs:List GD) (σs:List Sto) (t:Tms) (ls:Array Bool) (r:Nat) (E:Env) (a:Act) (w:World):Prop where
 size:ls.size=l.length
 down:Down l.toArray ls
 rk:∀i s,i<l.length→rkOf gs i=some s→(ls.getD i true=true↔s<r)
 sat:∃σ,σs[r]? =some σ∧Sat F base σ E w
 dfr:a.defers=[]
 tmps:a.tmps.size=N
 t0:RepT E w a.eval t
 got:∀j d g,j<l.length→ls.getD j true=true→dstOf l.toArray j=some d→gs[j]? =some g→Rep E w (a.eval (.tmp d)) g.p
theorem ls_get (ls:Array Bool) (i j:Nat) (b:Bool) (hi:i<ls.size):(ls.setIfInBounds i true).getD j b=if j=i then true else ls.getD j b:=by
 by_cases e:j=i
 ·subst e;simp[hi]
 ·rw[if_neg e]
  simp only[Array.getD_eq_getD_getElem?,Array.getElem?_setIfInBounds_ne (Ne.symm e)]
theorem ls_irr {ls:Array Bool} {i:Nat} (hi:i<ls.size) (b c:Bool):ls.getD i b=ls.getD i c:=by simp[hi]
section
variable {l:List Oper} {gs:List GD} {σs:List Sto} {t T:Tms} {f m base:Nat} {F:Nat→Prop}
theorem Grg.reach (hG:Grd l.toArray f m gs) {ls:Array Bool} {r:Nat} {E:Env} {a:Act} {w:World} (h:Grg base N F l gs σs t ls r E a w) {i j:Nat} (hi:i<l.length) (hr:reachB l.toArray f i j=true) (hk:∀k∈aft l.toArray i,ls.getD k false=true):ls.getD j true=true:=by
 have:=reach_listed (by rw[h.size];simp) h.down (fun i hi=>hG.aft i hi) f i j (by simpa using hi) hr hk
 by_cases hj:j<ls.size
 ·rw[ls_irr hj true false];exact this
 ·simp[hj]
theorem Grg.looks (hG:Grd l.toArray f m gs) (hT:addT l (gs.map (·.p)) t=T) {ls:Array Bool} {r:Nat} {E:Env} {a:Act} {w:World} (h:Grg base N F l gs σs t ls r E a w) {i:Nat} (hi:i<l.length) (hk:∀k∈aft l.toArray i,ls.getD k false=true):
  ∀k∈looksOf l.toArray i,∀p,look k T=some p→Rep E w (a.eval (.tmp k)) p:=fun k hks p hp=>by
 rw[←hT]at hp
 rcases look_add _ _ _ k p hp with⟨j,o,h1,h2,h3⟩|h'
 ·rw[List.getElem?_map,Option.map_eq_some_iff]at h3
  obtain⟨g,hg,rfl⟩:=h3
  have hj:j<l.length:=(List.getElem?_eq_some_iff.1 h1).1
  have hd:dstOf l.toArray j=some k:=by simp only[dstOf,List.getElem?_toArray,h1,Option.bind_some,h2]
  have hr:=hG.rd i (by simpa using hi) k hks j (by simpa using hj) hd
  exact h.got j k g hj (h.reach hG hi hr hk) hd hg
 ·exact h.t0 k p h'
theorem Grg.put (hG:Grd l.toArray f m gs) (hfr:∀i d,i<l.length→dstOf l.toArray i=some d→look d t=none) {ls:Array Bool} {r r':Nat} {E E':Env} {a:Act} {w w':World} (h:Grg base N F l gs σs t ls r E a w) {i:Nat} {g:GD} {v:Value} (hi:i<l.length) (hu:ls.getD i true=false) (hk:∀k∈aft l.toArray i,ls.getD k false=true) (hg:gs[i]? =some g) (hgo:Goes E w E' w')
  (hs:∃σ,σs[r']? =some σ∧Sat F base σ E' w') (hr:(g.r=none∧r'=r)∨(g.r=some r∧r'=r+1)) {o:Oper} (ho:l[i]? =some o) (hdN:∀d,o.dst=some d→d<N) (hv:∀d,o.dst=some d→Rep E' w' v g.p):
  Grg base N F l gs σs t (ls.setIfInBounds i true) r' E' (a.put o.dst v) w':=by
 have hil:i<ls.size:=by rw[h.size];exact hi
 have hrk:rkOf gs i=g.r:=by simp only[rkOf,hg,Option.bind_some]
 have hdi:dstOf l.toArray i=o.dst:=by simp only[dstOf,List.getElem?_toArray,ho,Option.bind_some]
 refine⟨by simpa using h.size,fun j hj hjs k hkj=>?_,fun j s hj hs'=>?_,hs,by cases o.dst<;>simpa[Act.put]using h.dfr,by cases o.dst<;>simpa[Act.put]using h.tmps,fun k p hkp=>?_,fun j d g' hj hjl hd hg'=>?_⟩
 ·rw[ls_get _ _ _ _ hil]at hj ⊢
  split
  ·rfl
  ·by_cases e:j=i
   ·subst e;exact hk k hkj
   ·rw[if_neg e]at hj
    exact h.down j hj hjs k hkj
 ·rw[ls_get _ _ _ _ hil]
  by_cases e:j=i
  ·subst e
   rw[if_pos rfl]
   rw[hrk]at hs'
   rcases hr with⟨h1,_⟩|⟨h1,h2⟩
   ·rw[h1]at hs';cases hs'
   ·rw[h1]at hs';cases hs';exact⟨fun _=>by omega,fun _=>rfl⟩
  ·rw[if_neg e,h.rk j s hj hs']
   rcases hr with⟨_,h2⟩|⟨h1,h2⟩
   ·rw[h2]
   ·have:s≠r:=fun e'=>e (hG.one j i r (by simpa using hj) (by simpa using hi) (by rw[hs',e']) (by rw[hrk,h1]))
    omega
 ·have hne:∀d,o.dst=some d→k≠d:=fun d hd e=>by
   subst e
   rw[hfr i k hi (by rw[hdi,hd])]at hkp;cases hkp
  have:(a.put o.dst v).eval (.tmp k)=a.eval (.tmp k):=Act.eval_put fun d hd heq=>by cases heq;exact hne _ hd rfl
  rw[this]
  exact(h.t0 k p hkp).goes hgo
 ·rw[ls_get _ _ _ _ hil]at hjl
  by_cases e:j=i
  ·subst e
   rw[hdi]at hd
   rw[hg]at hg';cases hg'
   rw[hd,put_eval a (by rw[h.tmps];exact hdN d hd),if_pos rfl]
   exact hv d hd
  ·rw[if_neg e]at hjl
   have hne:∀d',o.dst=some d'→d≠d':=fun d' hd' e'=>by
    subst e'
    exact e (hG.ss j i d (by simpa using hj) (by simpa using hi) hd (by rw[hdi,hd']))
   have:(a.put o.dst v).eval (.tmp d)=a.eval (.tmp d):=Act.eval_put fun d' hd' heq=>by cases heq;exact hne _ hd' rfl
   rw[this]
   exact(h.got j d g' hj hjl hd hg').goes hgo
theorem grd_any (hG:Grd l.toArray f m gs) (hT:addT l (gs.map (·.p)) t=T) (hfr:∀i d,i<l.length→dstOf l.toArray i=some d→look d t=none) (hL:GL P N l.toArray σs T l gs) {σm:Sto} (hm:σs[m]? =some σm) {Q:Exit→Act→World→Prop} {E₀:Env} {w₀:World} (hq:∀a' w' E',Sat F base σm E' w'→RepT E' w' a'.eval T→a'.defers=[]→a'.tmps.size=N→Goes E₀ w₀ E' w'→Below base w₀ w'→Q .normal a' w'):
  ∀(fuel:Nat) (ls:Array Bool) (r:Nat) (E:Env) (a:Act) (w:World),Grg base N F l gs σs t ls r E a w→unlisted ls l.length=fuel→Goes E₀ w₀ E w→Below base w₀ w→r≤m→wpAny P .any l.toArray Q fuel ls a w:=by
 obtain⟨hgl,hget⟩:=hL.get
 intro fuel
 induction fuel with
 |zero=>
  intro ls r E a w h hu hgo hb hrm
  have hall:=unlisted_zero hu
  have hrm':r=m:=by
   rcases Nat.lt_or_ge r m with h'|h'
   ·obtain⟨j,hj,hjr⟩:=hG.has r h'
    have hj:j<l.length:=by simpa using hj
    have:=(h.rk j r hj hjr).1 (hall j hj)
    omega
   ·omega
  subst hrm'
  refine⟨List.eq_nil_iff_forall_not_mem.2 fun i hi=>?_,?_⟩
  ·obtain⟨h1,h2,_⟩:=ready_iff.1 hi
   rw[hall i (by simpa using h1)]at h2;cases h2
  ·obtain⟨σ,hσ,hs⟩:=h.sat
   rw[hm]at hσ;cases hσ
   refine hq a w E hs (fun k p hkp=>?_) h.dfr h.tmps hgo hb
   rw[←hT]at hkp
   rcases look_add _ _ _ k p hkp with⟨j,o,h1,h2,h3⟩|h'
   ·rw[List.getElem?_map,Option.map_eq_some_iff]at h3
    obtain⟨g,hg,rfl⟩:=h3
    have hj:j<l.length:=(List.getElem?_eq_some_iff.1 h1).1
    exact h.got j k g hj (hall j hj) (by simp only[dstOf,List.getElem?_toArray,h1,Option.bind_some,h2]) hg
   ·exact h.t0 k p h'
 |succ fuel ih=>
  intro ls r E a w h hu hgo hb hrm
  obtain⟨i0,hi0,hi1,hi2⟩:=unlisted_pos (ls:=ls) (m:=l.length) (by omega)
  have hi0r:i0∈Region.ready .any l.toArray ls:=ready_iff.2 ⟨by simpa using hi0,hi1,fun k hk=>by
   have:=hG.aft i0 (by simpa using hi0) k hk
   rw[ls_irr (by rw[h.size];omega) false true];exact hi2 k this⟩
  refine⟨fun h0=>absurd hi0r (by rw[h0];simp),fun i hi=>?_⟩
  obtain⟨h1,h2,h3⟩:=ready_iff.1 hi
  have hil:i<l.length:=by simpa using h1
  have ho:l[i]? =some l[i]:=by simp[hil]
  have hgi:gs[i]? =some (gs[i]'(by omega)):=by simp
  have hK:=hget i _ _ ho hgi
  generalize hgg:gs[i]'(by omega)=g at hgi hK
  generalize hoo:l[i]=o at ho hK
  have hlk:=h.looks hG hT hil h3
  have hlo:looksOf l.toArray i=o.looksAt l.toArray:=by simp only[looksOf,List.getElem?_toArray,ho]
  rw[hlo]at hlk
  have hpk:∀ks:List Nat,(ks.all fun k=>(o.looksAt l.toArray).contains k)=true→RepT E w a.eval (pickT T ks):=fun ks hks k p hkp=>by
   obtain⟨e1,e2⟩:=look_pick ks k p hkp
   exact hlk k (by have:=List.all_eq_true.1 hks k e1;simpa using this) p e2
  have hwant:∀b,wantB l.toArray T o=some b→Region.wanted o (yielded l.toArray a.tmps)=b:=fun b hb=>by
   rw[wantedR_eval];exact wantB_looks (fun k hk p hp=>hlk k hk p hp) hb
  have hun:unlisted (ls.setIfInBounds i true) l.length=fuel:=by have:=unlisted_set h2 hil (by rw[h.size];omega);omega
  unfold wpOp
  have ho':l.toArray[i]? =some o:=by simpa using ho
  simp only[ho']
  have hrk:rkOf gs i=g.r:=by simp only[rkOf,hgi,Option.bind_some]
  cases hK with
  | @val p d lo hi ks hks hw hy hd hN=>
   rw[hwant true hw,if_pos rfl]
   left
   obtain⟨σ,hσ,hs⟩:=h.sat
   obtain⟨q1,q2⟩:=hG.quiet i _ hgi rfl
   have hlo':lo≤r:=by
    rcases q1 with e|⟨j,hj,hj1,hj2⟩
    ·simp only at e;omega
    ·have:=(h.rk j _ (by simpa using hj) hj1).1 (h.reach hG hil hj2 h3)
     simp only at this;omega
   have hhi':r≤hi:=by
    rcases q2 with e|⟨j,hj,hj1,hj2⟩
    ·simp only at e;omega
    ·rcases Nat.lt_or_ge hi r with h'|h'
     ·have hjl:j<l.length:=by simpa using hj
      have e1:=(h.rk j _ hjl hj1).2 h'
      have e2:=h.reach hG hjl hj2 (h.down j e1 hj)
      rw[h2]at e2;cases e2
     ·exact h'
   refine upon_of (hy r σ hlo' hhi' hσ F base E a.eval w (isEval a) hs (hpk ks hks)) fun v w' hE hv=>?_
   exact ih _ r E _ w' (h.put hG hfr hil h2 h3 hgi (.ext hE) ⟨σ,hσ,hs.ext hE⟩ (.inl ⟨rfl,rfl⟩) ho (fun d' hd'=>by rw[hd]at hd';cases hd';exact Nat.blt_eq.mp hN) (fun _ _=>hv)) hun (hgo.trans (.ext hE)) (hb.trans (Below.ofExt hE hs.bl)) hrm
  | @skip d lo hi hw hd hN=>
   rw[hwant false hw,if_neg (by simp)]
   exact ih _ r E _ w (h.put hG hfr hil h2 h3 hgi (Goes.refl _ _) h.sat (.inl ⟨rfl,rfl⟩) ho (fun d' hd'=>by rw[hd]at hd';cases hd';exact Nat.blt_eq.mp hN) (fun _ _=>.raw _)) hun hgo hb hrm
  | @loud p d r0 lo hi σ σ' ks hks hw e1 e2 hy hd hN=>
   rw[hwant true hw,if_pos rfl]
   left
   obtain⟨q1,q2⟩:=hG.loud i _ r0 hgi rfl
   have hr0:r0=r:=by
    have n1:¬r0<r:=fun h'=>by
     have:=(h.rk i r0 hil hrk).2 h'
     rw[h2]at this;cases this
    rcases q2 with e|⟨j,hj,hj1,hj2⟩
    ·omega
    ·have:=(h.rk j _ (by simpa using hj) hj1).1 (h.reach hG hil hj2 h3)
     omega
   subst hr0
   obtain⟨σ0,hσ,hs⟩:=h.sat
   rw[e1]at hσ;cases hσ
   obtain⟨v,w',E',hr,k1,k2,k3,k4⟩:=hy F base E a.eval w (isEval a) hs (hpk ks hks)
   have hn':=ih _ (r0+1) E' (a.put o.dst v) w' (h.put hG hfr hil h2 h3 hgi k2 ⟨σ',e2,k1⟩ (.inr ⟨rfl,rfl⟩) ho (fun d' hd'=>by rw[hd]at hd';cases hd';exact Nat.blt_eq.mp hN) (fun _ _=>k4)) hun (hgo.trans k2) (hb.trans k3) (by omega)
   unfold Oper.wp
   rcases hr with hr|⟨rfl,hr⟩
   ·rw[hr];exact hn'
   ·rw[hr];exact hn'
  | @loud0 p r0 lo hi σ σ' ks hks hw e1 e2 hy hd=>
   rw[hwant true hw,if_pos rfl]
   left
   obtain⟨q1,q2⟩:=hG.loud i _ r0 hgi rfl
   have hr0:r0=r:=by
    have n1:¬r0<r:=fun h'=>by
     have:=(h.rk i r0 hil hrk).2 h'
     rw[h2]at this;cases this
    rcases q2 with e|⟨j,hj,hj1,hj2⟩
    ·omega
    ·have:=(h.rk j _ (by simpa using hj) hj1).1 (h.reach hG hil hj2 h3)
     omega
   subst hr0
   obtain⟨σ0,hσ,hs⟩:=h.sat
   rw[e1]at hσ;cases hσ
   obtain⟨v,w',E',hr,k1,k2,k3,k4⟩:=hy F base E a.eval w (isEval a) hs (hpk ks hks)
   have hn':=ih _ (r0+1) E' (a.put o.dst v) w' (h.put hG hfr hil h2 h3 hgi k2 ⟨σ',e2,k1⟩ (.inr ⟨rfl,rfl⟩) ho (fun d' hd'=>by rw[hd]at hd';cases hd') (fun d' hd'=>by rw[hd]at hd';cases hd')) hun (hgo.trans k2) (hb.trans k3) (by omega)
   unfold Oper.wp
   rcases hr with hr|⟨rfl,hr⟩
   ·rw[hr];exact hn'
   ·rw[hr];exact hn'
end
theorem unlisted_all:∀(n k:Nat),k≤n→unlisted (Array.replicate n false) k=k
 |n,0,_=>rfl
 |n,k+1,h=>by
  simp only[unlisted]
  rw[unlisted_all n k (by omega)]
  simp[show k<n by omega]
theorem W_grd {id:Nat} {l:List Oper} {t t':Tms} {σ σm:Sto} {Q:Exit→St→Prop} (f m:Nat) (σs:List Sto) (gs:List GD) (T:Tms) (hm:P.follows .mixedOrders=true) (hB:grdB l.toArray f m gs=true) (hT:addT l (gs.map (·.p)) t=T) (hfr:(l.all fun o=>o.dst.all fun d=>(look d t).isNone)=true) (h0:σs[0]? =some σ) (h1:σs[m]? =some σm)
  (hL:GL P N l.toArray σs T l gs) (hsub:Sub T t') (hq:Q .normal ⟨t',σm⟩):W P N L (.region id l.toArray true) ⟨t,σ⟩ Q:=fun F base E₀ w₀ E a w hc hs=>by
 have hG:=grdB_grd hB
 have hE:Ext w {w with drawn:=w.drawn+1}:=⟨rfl,rfl,rfl,Nat.le_refl _,fun _ _=>rfl⟩
 refine wp_region_any hm ?_
 have hfr':∀i d,i<l.length→dstOf l.toArray i=some d→look d t=none:=fun i d hi hd=>by
  have ho:l[i]? =some l[i]:=by simp[hi]
  simp only[dstOf,List.getElem?_toArray,ho,Option.bind_some]at hd
  have:=List.all_eq_true.1 hfr _ (List.mem_of_getElem? ho)
  rw[hd]at this
  simpa using this
 have hg0:Grg base N F l gs σs t (Array.replicate l.length false) 0 E a {w with drawn:=w.drawn+1}:=by
  have hrep:∀i,i<l.length→(Array.replicate l.length false).getD i true=false:=fun i hi=>by simp[hi]
  refine⟨by simp,fun i hi hi'=>?_,fun i s hi _=>?_,⟨σ,h0,hs.sat.ext hE⟩,hs.dfr,hs.size,hs.tmp.goes (.ext hE),fun j d g hj hjl=>?_⟩
  ·rw[hrep i (by simpa using hi')]at hi;cases hi
  ·rw[hrep i hi];simp
  ·rw[hrep j hj]at hjl;cases hjl
 have:=grd_any (Q:=fun e a' w'=>Post F base N E₀ w₀ (Q e) a' w') hG hT hfr' hL h1 (E₀:=E₀) (w₀:=w₀) (fun a' w' E' k1 k2 k3 k4 k5 k6=>⟨⟨t',σm⟩,E',hq,⟨k1,k2.sub hsub,k3,k4⟩,k5,k6⟩) l.length _ 0 E a _ hg0 (unlisted_all _ _ (Nat.le_refl _)) (hc.g.trans (.ext hE)) (hc.b.trans (Below.ofExt hE hs.sat.bl)) (Nat.zero_le _)
 simpa using this
theorem W_grds {id:Nat} {l:List Oper} {y:Code} {t t':Tms} {σ σm:Sto} {Q:Exit→St→Prop} (f m:Nat) (σs:List Sto) (gs:List GD) (T:Tms) (hm:P.follows .mixedOrders=true) (hB:grdB l.toArray f m gs=true) (hT:addT l (gs.map (·.p)) t=T) (hfr:(l.all fun o=>o.dst.all fun d=>(look d t).isNone)=true) (h0:σs[0]? =some σ) (h1:σs[m]? =some σm)
  (hL:GL P N l.toArray σs T l gs) (hsub:Sub T t') (hq:W P N L y ⟨t',σm⟩ Q):W P N L (.seq (.region id l.toArray true) y) ⟨t,σ⟩ Q:=W_seq (W_grd f m σs gs T hm hB hT hfr h0 h1 hL hsub hq)
theorem yz {P:Program} {σs:List Sto} {t:Tms} {o:Oper} {p:PV} {lo hi:Nat} (h:∀σ∈(σs.drop lo).take (hi+1 - lo),Yield P σ t o p):∀r σ,lo≤r→r≤hi→σs[r]? =some σ→Yield P σ t o p:=fun r σ h1 h2 hs=>by
 refine h σ (List.mem_of_getElem? (i:=r - lo) ?_)
 rw[List.getElem?_take,if_pos (by omega),List.getElem?_drop,show lo+(r - lo)=r by omega]
 exact hs
theorem ya0 {α:Type} {p:α→Prop}:∀x∈([]:List α),p x:=fun _ h=>by cases h
theorem ya1 {α:Type} {p:α→Prop} {a:α} {l:List α} (h:p a) (hs:∀x∈l,p x):∀x∈a::l,p x:=fun x hx=>by
 rcases List.mem_cons.1 hx with rfl|h'
 ·exact h
 ·exact hs x h'
end
end PW
end Go.Proofs.YtnegbdpggideiaaGreatDoor

namespace Go.Proofs.YtnegbdpggideiaaGreatDoor
set_option linter.unusedVariables false
set_option linter.unusedSimpArgs false
namespace PW
open Go.RowKit Reg Mem Net Rng
theorem W_midM {P:Program} {N L:Nat} {x:Code} {st:St} {Q:Exit→St→Prop} {Q1:St→Prop} (h:W P N L x st (onlyQ Q1)) (k:∀s,Q1 s→Q .normal s):W P N L x st Q:=
 h.mono fun e s hq=>by cases e<;>first|exact k s hq|exact hq.elim
theorem nextL_len {T:Topo} (hv:validB T=true) (D:List Bool) (n d:Nat):(nextL T D n d).length≤512:=by
 have hl:=links_le hv
 unfold nextL
 split
 ·simp
 ·exact Nat.le_trans (List.length_filter_le _ _) (Nat.le_trans (outTo_len T n _) (by omega))
def maskX (T:Topo) (k x:Int):List Bool:=if maskE T k x=0 then maskL T k x else []
theorem maskX_ok {T:Topo} {k x:Int} (h:(validB T&&compB T k x)=true):maskX T k x=maskL T k x:=by
 unfold maskX maskE
 rw[if_pos h,if_pos rfl]
theorem asm_grp {T:Topo} (hv:validB T=true) {a:Nat} (ha:a<2*T.links.length) (h:0<grpN T a):(validB T&&compB T 3 (grpN T a))=true:=by
 have:=grp_range hv ha
 rw[hv]
 unfold compB
 simp only[if_neg (show ¬(3:Int)=1 by decide),if_neg (show ¬(3:Int)=2 by decide),if_true,Bool.true_and,Bool.and_eq_true,decide_eq_true_eq]
 exact⟨by omega,by omega⟩
theorem asm_node {T:Topo} (hv:validB T=true) {a:Nat} (ha:a<2*T.links.length):(validB T&&compB T 2 (headN T a))=true:=by
 obtain⟨h0,h1⟩:=(sound_of hv).head a ha
 rw[hv]
 unfold compB
 simp only[if_neg (show ¬(2:Int)=1 by decide),if_true,Bool.true_and]
 exact nodeB_iff.2 ⟨h0,h1⟩
def orTo (T:Topo) (D E:List Bool) (k:Nat):List Bool:=(List.range (2*T.links.length)).map fun a=>if a<k then downN D a||downN E a else downN D a
theorem orTo_len (T:Topo) (D E:List Bool) (k:Nat):(orTo T D E k).length=2*T.links.length:=by simp[orTo]
theorem orTo_get {T:Topo} {D E:List Bool} {k i:Nat} (h:i<(orTo T D E k).length):(orTo T D E k)[i]=if i<k then downN D i||downN E i else downN D i:=by simp[orTo]
theorem downN_getE {M:List Bool} {a:Nat} (h:a<M.length):downN M a=M[a]:=by rw[←downN_get];simp[h]
theorem orTo_zero {T:Topo} {D E:List Bool} (h:D.length=2*T.links.length):orTo T D E 0=D:=by
 apply List.ext_getElem (by rw[orTo_len,h])
 intro i h1 h2
 rw[orTo_get,if_neg (by omega),downN_getE h2]
theorem orTo_all (T:Topo) (D E:List Bool):orTo T D E (2*T.links.length)=orM T D E:=by
 unfold orTo orM
 exact List.map_congr_left fun a ha=>if_pos (List.mem_range.1 ha)
theorem orTo_step (T:Topo) (D E:List Bool) (k:Nat):(orTo T D E k).set k (downN D k||downN E k)=orTo T D E (k+1):=by
 apply List.ext_getElem (by simp[orTo])
 intro i h1 h2
 rw[List.getElem_set,orTo_get,orTo_get]
 by_cases e:k=i
 ·subst e;rw[if_pos rfl,if_pos (by omega)]
 ·rw[if_neg e]
  by_cases h:i<k
  ·rw[if_pos h,if_pos (by omega)]
  ·rw[if_neg h,if_neg (by omega)]
theorem orTo_at {T:Topo} {D E:List Bool} {k:Nat} (h:k<2*T.links.length):(orTo T D E k).getD k false=downN D k:=by
 have hk:k<(orTo T D E k).length:=by rw[orTo_len];exact h
 rw[List.getD_eq_getElem?_getD,List.getElem?_eq_getElem hk,Option.getD_some,orTo_get,if_neg (by omega)]
end PW
end Go.Proofs.YtnegbdpggideiaaGreatDoor

namespace Go.Proofs.YtnegbdpggideiaaGreatDoor
set_option linter.unusedVariables false
set_option linter.unusedSimpArgs false
namespace PW
open Go.RowKit Reg Mem Net
set_option maxRecDepth 10000 in
set_option maxHeartbeats 1000000 in
theorem from1_can (rs:List (List Int)) (i:Nat) (hi:i<rs.length):Can Tryz.prog 204 ([num i]++[.pin [rowsV rs] 0]) (· =intsV (rs.getD i [])):=by
 refine can_of Tryz.func204 rfl Tryz.ntmps204 rfl ?_
 refine W_cs (.a 1 rfl<|.k [0,1] rfl) ?_
 refine W_cs (.a 2 rfl<|.v (y_ix (i) rfl) rfl<|.v (y_ld rfl ((show(rs.map intsV)[i]? =some (intsV (rs.getD i [])) by simp[hi]))) rfl<|.a 1 rfl<|.k [3] rfl) ?_
 refine W_ret ?_
 exact⟨_,_,ResL.of rfl,Pur.pure,rfl⟩
set_option maxRecDepth 10000 in
set_option maxHeartbeats 1000000 in
theorem from2_can (T:Topo) (a:Nat) (ha:a<2*T.links.length) (hl:T.links.length≤4611686018427387902):Can Tryz.prog 205 ([num a]++[.pin (topoP T) 0]) (· =num (headN T a)):=by
 refine can_of Tryz.func205 rfl Tryz.ntmps205 rfl ?_
 refine W_cs (.a 1 rfl<|.k [0,1] rfl) ?_
 refine W_cs (.a 2 rfl<|.c rfl (head_can T a ha hl) rfl<|.a 1 rfl<|.k [3] rfl) ?_
 refine W_ret ?_
 exact⟨_,_,ResL.of rfl,Pur.pure,rfl⟩
set_option maxRecDepth 10000 in
set_option maxHeartbeats 1000000 in
theorem from_can (T:Topo) (D:List Bool) (d:Int):Can Tryz.prog 180 [topoV T,boolsV D,num d] (· =intsE (chkE T D [d]) (distL T D d.toNat true)):=by
 refine can_of Tryz.func180 rfl Tryz.ntmps180 rfl ?_
 refine W_cs (.a 3 rfl<|.k [1,2,3] rfl) ?_
 refine W_seq ?_
 refine W_cs (.a 4 rfl<|.c rfl (check_can T D [d] (by simp)) rfl<|.a 1 rfl<|.k [1,2,3,8] rfl) ?_
 refine W_cs (.a 2 rfl<|.k [1,2,3,8,17] rfl) ?_
 refine W_cond rfl (fun hc=>?_) (fun hc=>?_)
 ·have he:chkE T D [d]≠0:=of_decide_eq_true hc
  refine W_cs (.a 3 rfl<|.k [6,7] rfl) ?_
  refine W_ret ?_
  exact⟨_,_,ResL.of rfl,Pur.tupleL (PurL.cons Pur.nils (PurL.cons Pur.pure PurL.nil)),by unfold intsE;rw[if_neg he];rfl⟩
 ·have he:chkE T D [d]=0:=by have:=of_decide_eq_false hc;omega
  have hok:(validB T&&fitsB T D)=true∧nodeB T d=true:=by
   unfold chkE at he
   split at he
   ·rename_i h1
    split at he
    ·rename_i h2;exact⟨h1,by simpa using h2⟩
    ·omega
   ·omega
  obtain⟨hvf,hnd⟩:=hok
  obtain⟨hv,hf⟩:=Bool.and_eq_true_iff.1 hvf
  have hd:0≤d∧d<T.nodes:=by simpa[nodeB]using hnd
  obtain⟨n,rfl⟩:=Int.eq_ofNat_of_zero_le hd.1
  have hS:=sound_of hv
  refine W_skip ?_
  refine W_rs ?_
  refine WR_a 1 rfl<|WR_c rfl (leaving_can T hv) rfl<|WR_a 2 rfl<|WR_k [1,2,3,9] rfl ?_
  refine W_rs ?_
  refine WR_a 3 rfl<|WR_v (y_makeFunc rfl rfl) rfl<|WR_a 4 rfl<|WR_k [10] rfl ?_
  refine W_freeze (.cons 10 rfl (Pur.ptrL rfl (PurL.cons Pur.pure<|PurL.cons Pur.pure<|PurL.cons Pur.pure<|PurL.cons Pur.pure<|PurL.cons Pur.pure<|PurL.cons (Pur.funcL (PurL.cons (Pur.ptrL rfl (PurL.cons Pur.pure PurL.nil)) PurL.nil))<|PurL.cons Pur.pure PurL.nil)) .nil) ?_
  refine W_cs (.a 1 rfl<|.c rfl (run_can T D n true 204 205 [.pin [rowsV (rowsL (tailN T) T.nodes.toNat (2*T.links.length))] 0] [.pin (topoP T) 0] hv hf hd.2 (by kernel_rfl) (by kernel_rfl) (fun i hi=>by have h:=from1_can (rowsL (tailN T) T.nodes.toNat (2*T.links.length)) i (by rw[rowsL_len];omega);rw[rowsL_get _ _ _ _ (by omega)]at h;exact h) (fun a ha=>from2_can T a ha (by have:=links_le hv;omega))) rfl<|.a 2 rfl<|.k [6,7] rfl) ?_
  refine W_ret ?_
  exact⟨_,_,ResL.of rfl,Pur.pure,by unfold intsE;rw[if_pos he,he];rfl⟩
end PW
end Go.Proofs.YtnegbdpggideiaaGreatDoor

namespace Go.Proofs.YtnegbdpggideiaaGreatDoor
set_option linter.unusedVariables false
set_option linter.unusedSimpArgs false
namespace PW
open Go.RowKit Reg Mem Net Rng
theorem W_orders2 {P:Program} {N L:Nat} {id:Nat} {l:List Oper} {y:Code} {st:St} {Q:Exit→St→Prop} (t':Tms) (σ':Sto) (t'':Tms) (σ'':Sto) (hm:P.follows .mixedOrders=true) (h:WA P N L l.toArray l.length (Array.replicate l.length false) st (fun s=>(s.σ=σ'∧Sub s.t t')∨(s.σ=σ''∧Sub s.t t''))) (hr:W P N L y ⟨t',σ'⟩ Q→W P N L y ⟨t'',σ''⟩ Q) (hq:W P N L y ⟨t',σ'⟩ Q):W P N L (.seq (.region id l.toArray true) y) st Q:=
 W_orders1 hm (h.mono fun s hs=>by
  obtain⟨t,σ⟩:=s
  rcases hs with⟨h1,h2⟩|⟨h1,h2⟩
  ·subst h1;exact W_sub h2 hq
  ·subst h1;exact W_sub h2 (hr hq))
theorem maskX_fits (T:Topo) (k x:Int):fitsB T (maskX T k x)=true:=by
 unfold maskX
 split
 ·exact mask_fits T k x
 ·exact fits_nil T
set_option maxRecDepth 10000 in
set_option maxHeartbeats 1000000 in
theorem asm1_can (T:Topo) (k x:Int) (n:Nat) (hv:validB T=true) (hn:(n:Int)<T.nodes):Can Tryz.prog 179 ([compV k x]++[.pin (topoP T) 0,.pin [num n] 0]) (· =intsV (distL T (maskX T k x) n true)):=by
 have hmk:=mask_can T k x
 unfold boolsE at hmk
 have hfr:=from_can T (maskX T k x) n
 have hch:chkE T (maskX T k x) [(n:Int)]=0:=by
  unfold chkE
  rw[hv,maskX_fits]
  simp[nodeB_iff.2 (show 0≤(n:Int)∧(n:Int)<T.nodes by omega)]
 rw[hch]at hfr
 unfold intsE at hfr
 rw[if_pos rfl,Int.toNat_natCast]at hfr
 refine can_of Tryz.func179 rfl Tryz.ntmps179 rfl ?_
 refine W_cs (.a 2 rfl<|.k [1,2,3] rfl) ?_
 refine W_cs (.a 2 rfl<|.c rfl (hmk) rfl<|.a 5 rfl<|.k [1,2,5] rfl) ?_
 refine W_cs (.a 3 rfl<|.c rfl (hfr) rfl<|.a 5 rfl<|.k [7] rfl) ?_
 refine W_cs (.a 2 rfl<|.k [4] rfl) ?_
 refine W_ret ?_
 exact⟨_,_,ResL.of rfl,Pur.pure,rfl⟩
set_option maxRecDepth 10000 in
set_option maxHeartbeats 1000000 in
theorem asm2_can (g:Int) (L:List Int) (d:Nat) (c2:Bool) (hL:0<g→d<L.length∧decide (0≤L.getD d 0)=c2):Can Tryz.prog 181 ([num d]++[.pin (compP 3 g) 0,.pin [intsV L] 0]) (· = .tuple [compV 3 g,flag (decide (0<g)&&c2)]):=by
 obtain⟨c1,hc1⟩:∃q,decide (0<g)=q:=⟨_,rfl⟩
 rw[hc1]
 refine can_of Tryz.func181 rfl Tryz.ntmps181 rfl ?_
 refine W_rs ?_
 refine WR_a 2 rfl<|WR_k [0,1,2,4] rfl ?_
 refine W_seqM (Q1:=fun st=>st=⟨[(4,.ptr 0 0),(5,flag (c1&&c2))],[some (.cells 33 (compP 3 g))]⟩) ?_ ?_
 ·cases c1
  ·refine W_grd 20 1 ([some (.cells 33 [num 0,num 0])]::[some (.cells 33 (compP 3 g))]::[]) (⟨_,none,0,0⟩::⟨_,none,0,0⟩::⟨_,none,0,0⟩::⟨_,none,0,0⟩::⟨_,none,0,0⟩::⟨_,none,0,1⟩::⟨_,none,0,1⟩::⟨_,none,0,1⟩::⟨_,none,0,1⟩::⟨_,none,0,1⟩::⟨_,none,0,1⟩::⟨_,some 0,0,0⟩::⟨_,none,1,1⟩::[]) _ mixed ?grd1 rfl rfl rfl rfl (.cons (.val [1] rfl rfl (yz (ya1 (y_a rfl) ya0)) rfl rfl)<|.cons (.val [1] rfl rfl (yz (ya1 (y_a rfl) ya0)) rfl rfl)<|.cons (.val [7] rfl rfl (yz (ya1 (y_a rfl) ya0)) rfl rfl)<|.cons (.val [8] rfl rfl (yz (ya1 (y_q rfl (hc1)) ya0)) rfl rfl)<|.cons (.val [9] rfl rfl (yz (ya1 (y_a rfl) ya0)) rfl rfl)<|.cons (.skip rfl rfl rfl)<|.cons (.skip rfl rfl rfl)<|.cons (.skip rfl rfl rfl)<|.cons (.skip rfl rfl rfl)<|.cons (.skip rfl rfl rfl)<|.cons (.val [10,15] rfl rfl (yz (ya1 (y_a rfl) (ya1 (y_a rfl) ya0))) rfl rfl)<|.cons (.loud0 [4,6] rfl rfl rfl rfl (l_a rfl) rfl)<|.cons (.val [16] rfl rfl (yz (ya1 (y_a rfl) ya0)) rfl rfl) .nil) (keepT_sub (ks:=[4,5]) rfl) ?_
   case grd1=>kernel_rfl
   rfl
  ·refine W_grd 20 1 ([some (.cells 33 [num 0,num 0])]::[some (.cells 33 (compP 3 g))]::[]) (⟨_,none,0,0⟩::⟨_,none,0,0⟩::⟨_,none,0,0⟩::⟨_,none,0,0⟩::⟨_,none,0,0⟩::⟨_,none,0,1⟩::⟨_,none,0,1⟩::⟨_,none,0,1⟩::⟨_,none,0,1⟩::⟨_,none,0,1⟩::⟨_,none,0,1⟩::⟨_,some 0,0,0⟩::⟨_,none,1,1⟩::[]) _ mixed ?grd2 rfl rfl rfl rfl (.cons (.val [1] rfl rfl (yz (ya1 (y_a rfl) ya0)) rfl rfl)<|.cons (.val [1] rfl rfl (yz (ya1 (y_a rfl) ya0)) rfl rfl)<|.cons (.val [7] rfl rfl (yz (ya1 (y_a rfl) ya0)) rfl rfl)<|.cons (.val [8] rfl rfl (yz (ya1 (y_q rfl (hc1)) ya0)) rfl rfl)<|.cons (.val [9] rfl rfl (yz (ya1 (y_a rfl) ya0)) rfl rfl)<|.cons (.val [2] rfl rfl (yz (ya1 (y_a rfl) (ya1 (y_a rfl) ya0))) rfl rfl)<|.cons (.val [0] rfl rfl (yz (ya1 (y_a rfl) (ya1 (y_a rfl) ya0))) rfl rfl)<|.cons (.val [11,12] rfl rfl (yz (ya1 (y_ix (d) rfl (by omega) (by have:=(hL (tt hc1)).1;omega)) (ya1 (y_ix (d) rfl (by omega) (by have:=(hL (tt hc1)).1;omega)) ya0))) rfl rfl)<|.cons (.val [13] rfl rfl (yz (ya1 (y_ld rfl (ints_get L d (hL (tt hc1)).1)) (ya1 (y_ld rfl (ints_get L d (hL (tt hc1)).1)) ya0))) rfl rfl)<|.cons (.val [14] rfl rfl (yz (ya1 (y_q rfl ((hL (tt hc1)).2)) (ya1 (y_q rfl ((hL (tt hc1)).2)) ya0))) rfl rfl)<|.cons (.val [10,15] rfl rfl (yz (ya1 (y_a rfl) (ya1 (y_a rfl) ya0))) rfl rfl)<|.cons (.loud0 [4,6] rfl rfl rfl rfl (l_a rfl) rfl)<|.cons (.val [16] rfl rfl (yz (ya1 (y_a rfl) ya0)) rfl rfl) .nil) (keepT_sub (ks:=[4,5]) rfl) ?_
   case grd2=>kernel_rfl
   rfl
 rintro _ rfl
 refine W_ret ?_
 exact⟨_,_,ResL.of rfl,Pur.pure (p:=.tuple [compV 3 g,flag (c1&&c2)]),rfl⟩
set_option maxRecDepth 10000 in
set_option maxHeartbeats 1000000 in
theorem asm3_can (h:Int) (L:List Int) (d:Nat) (c2:Bool) (hd:d<L.length) (hL:decide (0≤L.getD d 0)=c2):Can Tryz.prog 182 ([num d]++[.pin (compP 2 h) 0,.pin [num h] 0,.pin [intsV L] 0]) (· = .tuple [compV 2 h,flag (decide (h≠d)&&c2)]):=by
 obtain⟨c1,hc1⟩:∃q,decide ((d:Int)≠h)=q:=⟨_,rfl⟩
 have hc1':decide (h≠(d:Int))=c1:=by rw[←hc1];exact decide_eq_decide.2 ⟨fun e=>e.symm,fun e=>e.symm⟩
 rw[hc1']
 refine can_of Tryz.func182 rfl Tryz.ntmps182 rfl ?_
 refine W_rs ?_
 refine WR_a 2 rfl<|WR_k [0,1,2,3,5] rfl ?_
 refine W_seqM (Q1:=fun st=>st=⟨[(5,.ptr 0 0),(6,flag (c1&&c2))],[some (.cells 33 (compP 2 h))]⟩) ?_ ?_
 ·cases c1
  ·refine W_grd 20 1 ([some (.cells 33 [num 0,num 0])]::[some (.cells 33 (compP 2 h))]::[]) (⟨_,none,0,0⟩::⟨_,none,0,0⟩::⟨_,none,0,0⟩::⟨_,none,0,0⟩::⟨_,none,0,0⟩::⟨_,none,0,1⟩::⟨_,none,0,1⟩::⟨_,none,0,1⟩::⟨_,none,0,1⟩::⟨_,none,0,1⟩::⟨_,none,0,1⟩::⟨_,some 0,0,0⟩::⟨_,none,1,1⟩::[]) _ mixed ?grd3 rfl rfl rfl rfl (.cons (.val [1] rfl rfl (yz (ya1 (y_a rfl) ya0)) rfl rfl)<|.cons (.val [0] rfl rfl (yz (ya1 (y_a rfl) ya0)) rfl rfl)<|.cons (.val [2] rfl rfl (yz (ya1 (y_a rfl) ya0)) rfl rfl)<|.cons (.val [8,9] rfl rfl (yz (ya1 (y_q rfl (hc1)) ya0)) rfl rfl)<|.cons (.val [10] rfl rfl (yz (ya1 (y_a rfl) ya0)) rfl rfl)<|.cons (.skip rfl rfl rfl)<|.cons (.skip rfl rfl rfl)<|.cons (.skip rfl rfl rfl)<|.cons (.skip rfl rfl rfl)<|.cons (.skip rfl rfl rfl)<|.cons (.val [11,16] rfl rfl (yz (ya1 (y_a rfl) (ya1 (y_a rfl) ya0))) rfl rfl)<|.cons (.loud0 [5,7] rfl rfl rfl rfl (l_a rfl) rfl)<|.cons (.val [17] rfl rfl (yz (ya1 (y_a rfl) ya0)) rfl rfl) .nil) (keepT_sub (ks:=[5,6]) rfl) ?_
   case grd3=>kernel_rfl
   rfl
  ·refine W_grd 20 1 ([some (.cells 33 [num 0,num 0])]::[some (.cells 33 (compP 2 h))]::[]) (⟨_,none,0,0⟩::⟨_,none,0,0⟩::⟨_,none,0,0⟩::⟨_,none,0,0⟩::⟨_,none,0,0⟩::⟨_,none,0,1⟩::⟨_,none,0,1⟩::⟨_,none,0,1⟩::⟨_,none,0,1⟩::⟨_,none,0,1⟩::⟨_,none,0,1⟩::⟨_,some 0,0,0⟩::⟨_,none,1,1⟩::[]) _ mixed ?grd4 rfl rfl rfl rfl (.cons (.val [1] rfl rfl (yz (ya1 (y_a rfl) ya0)) rfl rfl)<|.cons (.val [0] rfl rfl (yz (ya1 (y_a rfl) ya0)) rfl rfl)<|.cons (.val [2] rfl rfl (yz (ya1 (y_a rfl) ya0)) rfl rfl)<|.cons (.val [8,9] rfl rfl (yz (ya1 (y_q rfl (hc1)) ya0)) rfl rfl)<|.cons (.val [10] rfl rfl (yz (ya1 (y_a rfl) ya0)) rfl rfl)<|.cons (.val [3] rfl rfl (yz (ya1 (y_a rfl) (ya1 (y_a rfl) ya0))) rfl rfl)<|.cons (.val [0] rfl rfl (yz (ya1 (y_a rfl) (ya1 (y_a rfl) ya0))) rfl rfl)<|.cons (.val [12,13] rfl rfl (yz (ya1 (y_ix (d) rfl) (ya1 (y_ix (d) rfl) ya0))) rfl rfl)<|.cons (.val [14] rfl rfl (yz (ya1 (y_ld rfl (ints_get L d hd)) (ya1 (y_ld rfl (ints_get L d hd)) ya0))) rfl rfl)<|.cons (.val [15] rfl rfl (yz (ya1 (y_q rfl (hL)) (ya1 (y_q rfl (hL)) ya0))) rfl rfl)<|.cons (.val [11,16] rfl rfl (yz (ya1 (y_a rfl) (ya1 (y_a rfl) ya0))) rfl rfl)<|.cons (.loud0 [5,7] rfl rfl rfl rfl (l_a rfl) rfl)<|.cons (.val [17] rfl rfl (yz (ya1 (y_a rfl) ya0)) rfl rfl) .nil) (keepT_sub (ks:=[5,6]) rfl) ?_
   case grd4=>kernel_rfl
   rfl
 rintro _ rfl
 refine W_ret ?_
 exact⟨_,_,ResL.of rfl,Pur.pure (p:=.tuple [compV 2 h,flag (c1&&c2)]),rfl⟩
def F2 (g:Int) (L:List Int):PV:=.func 181 [.pin (compP 3 g) 0,.pin [intsV L] 0]
def F3 (h:Int) (L:List Int):PV:=.func 182 [.pin (compP 2 h) 0,.pin [num h] 0,.pin [intsV L] 0]
def asmC (g h k:Int) (L M:List Int):List PV:=[.pin [.slice 2 [F2 g L,F3 h M]] 0,.pin (compP 1 k) 0]
instance (g:Int) (L:List Int):IsPure (F2 g L):=by unfold F2;infer_instance
instance (g:Int) (L:List Int):IsPure (F3 g L):=by unfold F3;infer_instance
instance (g h k:Int) (L M:List Int):IsPureL (asmC g h k L M):=by unfold asmC;infer_instance
set_option maxRecDepth 10000 in
set_option maxHeartbeats 1000000 in
theorem asm4_can (g h k:Int) (L M:List Int) (d:Nat) (c2 c4:Bool) (hL:0<g→d<L.length∧decide (0≤L.getD d 0)=c2) (hd:d<M.length) (hM:decide (0≤M.getD d 0)=c4):Can Tryz.prog 183 ([num d]++asmC g h k L M) (· =if(decide (0<g)&&c2)=true then compV 3 g else if(decide (h≠d)&&c4)=true then compV 2 h else compV 1 k):=by
 have h2:=asm2_can g L d c2 hL
 have h3:=asm3_can h M d c4 hd hM
 obtain⟨o1,ho1⟩:∃o,(decide (0<g)&&c2)=o:=⟨_,rfl⟩
 obtain⟨o2,ho2⟩:∃o,(decide (h≠(d:Int))&&c4)=o:=⟨_,rfl⟩
 rw[ho1]at h2 ⊢
 rw[ho2]at h3 ⊢
 have hrule:∀i,i<2→∃f cap,[F2 g L,F3 h M][i]? =some (.func f cap)∧enters Tryz.prog f=true∧IsPureL ([num d]++cap)∧Can Tryz.prog f ([num d]++cap) (· = .tuple [if i=0 then compV 3 g else compV 2 h,flag (if i=0 then o1 else o2)]):=fun i hi=>by
  match i,hi with
  |0,_=>exact⟨_,_,rfl,by kernel_rfl,inferInstance,h2⟩
  |1,_=>exact⟨_,_,rfl,by kernel_rfl,inferInstance,h3⟩
 unfold asmC
 refine can_of Tryz.func183 rfl Tryz.ntmps183 rfl ?_
 refine W_rs ?_
 refine WR_a 1 rfl<|WR_k [0,1,2,4] rfl ?_
 refine W_seq ?_
 refine W_cs (.a 3 rfl<|.k [0,2,4,9,10,11] rfl) ?_
 refine W_block ?_
 refine W_k [0,2,4,9,10,11] rfl ?_
 refine W_loop (fun r s=>∃i,i≤2∧r=2 - i∧(1≤i→o1=false)∧(i=2→o2=false)∧s=⟨[(0,num d),(2,.pin (compP 1 k) 0),(4,.ptr 0 0),(9,.slice 2 [F2 g L,F3 h M]),(10,num 2),(11,num i)],[some (.cells 33 [num 0,num 0])]⟩) 2 ⟨0,by omega,by omega,fun h=>by omega,fun h=>by omega,rfl⟩ ?_
 rintro r s ⟨i,hi,rfl,hi1,hi2,rfl⟩
 refine W_cs (.a 1 rfl<|.k [0,2,4,9,10,11,12] rfl) ?_
 refine W_seq ?_
 refine W_cond rfl (fun h1=>?_) (fun h1=>?_)
 ·have hlt:i<2:=by have:=tt h1;omega
  obtain⟨f,cap,hf,hen,hpu,hcan⟩:=hrule i hlt
  obtain⟨kx,kn,hkx⟩:∃kx kn,(if i=0 then compV 3 g else compV 2 h)=compV kx kn:=by
   split
   ·exact⟨_,_,rfl⟩
   ·exact⟨_,_,rfl⟩
  obtain⟨o,ho⟩:∃o,(if i=0 then o1 else o2)=o:=⟨_,rfl⟩
  rw[ho,hkx]at hcan
  haveI:=hpu
  refine W_skip ?_
  refine W_seq ?_
  refine W_block ?_
  refine W_cs (.v (y_ix (i) rfl) rfl<|.v (y_ld rfl (hf)) rfl<|.a 1 rfl<|.k [0,2,4,6,9,10,11] rfl) ?_
  refine W_rs ?_
  refine WR_a 2 rfl<|WR_v (y_call rfl hen rfl rfl hcan) rfl<|WR_a 6 rfl<|WR_k [0,2,4,7,8,9,10,11] rfl ?_
  refine W_cs (.a 1 rfl<|.k [0,2,4,7,9,10,11,21] rfl) ?_
  refine W_cond rfl (fun h2=>?_) (fun h2=>?_)
  ·subst h2
   refine W_rs ?_
   refine WR_a 2 rfl<|WR_k [4] rfl ?_
   refine W_ret ?_
   refine⟨_,_,ResL.of rfl,Pur.pure (p:=compV kx kn),?_⟩
   rw[←hkx]
   by_cases e:i=0
   ·rw[if_pos e]at ho ⊢
    rw[if_pos ho]
   ·rw[if_neg e]at ho ⊢
    rw[if_neg (by rw[hi1 (by omega)];simp),if_pos ho]
  ·subst h2
   refine W_skip ?_
   refine W_ren [0] (.c 0<|.c 2<|.c 4<|.c 9<|.c 10<|.c 11<|.nil) (.kept rfl (.cells RenL.pure)<|.nil) rfl rfl ?_
   refine W_chain (.v (y_ar rfl) rfl<|.a 1 rfl<|.k [0,2,4,9,10,11] rfl) ?_
   refine⟨2 - (i+1),by omega,i+1,by omega,rfl,fun _=>?_,fun e=>?_,rfl⟩
   ·by_cases e:i=0
    ·rw[if_pos e]at ho;exact ho
    ·exact hi1 (by omega)
   ·rw[if_neg (by omega)]at ho;exact ho
 ·have hie:i=2:=by have:=ff h1;omega
  subst hie
  rw[if_neg (by rw[hi1 (by omega)];simp),if_neg (by rw[hi2 rfl];simp)]
  refine W_exit ?_
  refine W_rs ?_
  refine WR_a 2 rfl<|WR_k [4] rfl ?_
  refine W_ret ?_
  exact⟨_,_,ResL.of rfl,Pur.pure (p:=compV 1 k),rfl⟩
noncomputable def wgL (T:Topo) (a:Nat):List Int:=if 0<grpN T a then distL T (maskX T 3 (grpN T a)) (tailN T a).toNat true else []
noncomputable def wnL (T:Topo) (a:Nat):List Int:=distL T (maskX T 2 (headN T a)) (tailN T a).toNat true
set_option maxRecDepth 10000 in
set_option maxHeartbeats 4000000 in
theorem assume_can (T:Topo) (a:Nat) (hv:validB T=true) (ha:a<2*T.links.length):Can Tryz.prog 155 [topoV T,num a] (· = .func 183 (asmC (grpN T a) (headN T a) ((a / 2:Nat):Int) (wgL T a) (wnL T a))):=by
 have hll:=links_le hv
 have hi:a / 2<T.links.length:=by omega
 have hS:=sound_of hv
 have htl:=tail_can T a ha
 have hhd:=head_can T a ha (by omega)
 obtain⟨n,hn⟩:=Int.eq_ofNat_of_zero_le (hS.tail a ha).1
 have hnN:(n:Int)<T.nodes:=by rw[←hn];exact(hS.tail a ha).2
 have hL:wgL T a=if 0<grpN T a then distL T (maskX T 3 (grpN T a)) n true else []:=by unfold wgL;rw[hn,Int.toNat_natCast]
 have hM:wnL T a=distL T (maskX T 2 (headN T a)) n true:=by unfold wnL;rw[hn,Int.toNat_natCast]
 rw[hn]at htl
 obtain⟨h,hh⟩:∃h,headN T a=h:=⟨_,rfl⟩
 obtain⟨g,hg⟩:∃g,grpN T a=g:=⟨_,rfl⟩
 have hgl:(lnk T.links (a / 2)).grp=g:=hg
 rw[hh]at hhd hM
 rw[hg]at hL
 rw[hL,hM,hh,hg]
 have h1:=fun k x=>asm1_can T k x n hv hnN
 obtain⟨c1,hc1⟩:∃q,decide (0<g)=q:=⟨_,rfl⟩
 refine can_of Tryz.func155 rfl Tryz.ntmps155 rfl ?_
 refine W_cs (.a 2 rfl<|.k [1,2] rfl) ?_
 refine W_orders2 ([(1,num a),(2,.pin (topoP T) 0),(5,.ptr 0 0),(6,.ptr 1 0)]) ([some (.cells 3 [num n]),some (.cells 3 [num h])]) ([(1,num a),(2,.pin (topoP T) 0),(5,.ptr 1 0),(6,.ptr 0 0)]) ([some (.cells 3 [num h]),some (.cells 3 [num n])]) mixed ?_ (fun hh=>W_ren [1,0] (.c 1<|.c 2<|.c 5<|.c 6<|.nil) (.kept rfl (.cells RenL.pure)<|.kept rfl (.cells RenL.pure)<|.nil) rfl rfl hh) ?_
 ·refine W_sets [[(1,num a),(2,.pin (topoP T) 0),(14,topoV T),(15,num a),(16,num n),(17,topoV T),(18,num a),(19,num h)],[(1,num a),(2,.pin (topoP T) 0),(5,.ptr 0 0),(14,topoV T),(15,num a),(16,num n),(17,topoV T),(18,num a),(19,num h)],[(1,num a),(2,.pin (topoP T) 0),(6,.ptr 0 0),(14,topoV T),(15,num a),(16,num n),(17,topoV T),(18,num a),(19,num h)],[(1,num a),(2,.pin (topoP T) 0),(5,.ptr 0 0),(6,.ptr 1 0),(14,topoV T),(15,num a),(16,num n),(17,topoV T),(18,num a),(19,num h)],[(1,num a),(2,.pin (topoP T) 0),(5,.ptr 1 0),(6,.ptr 0 0),(14,topoV T),(15,num a),(16,num n),(17,topoV T),(18,num a),(19,num h)]] [[],[some (.cells 3 [num n]),some (.cells 3 [num h])],[some (.cells 3 [num n]),some (.cells 3 [num 0])],[some (.cells 3 [num 0]),some (.cells 3 [num 0])],[some (.cells 3 [num 0])],[some (.cells 3 [num h]),some (.cells 3 [num n])],[some (.cells 3 [num 0]),some (.cells 3 [num n])]] [1,2] rfl (by kernel_rfl) (fun M hi ho=>?_)
  have μ0:M 0 1023 3 [1,2,5,6] 1:=hi<|WZ_end rfl (by kernel_rfl) (.inl ⟨rfl,keepT_sub (ks:=[1,2,5,6]) rfl⟩)
  have μ1:M 1 511 3 [1,2,5,6,19] 2:=hi<|WZ_step [(9,1023)] rfl (by kernel_rfl)<|WZ_0 rfl rfl (l_a rfl) rfl rfl (ho μ0) rfl rfl WZ_nil
  have μ2:M 2 255 3 [1,2,5,6,16,19] 3:=hi<|WZ_step [(8,511)] rfl (by kernel_rfl)<|WZ_0 rfl rfl (l_a rfl) rfl rfl (ho μ1) rfl rfl WZ_nil
  have μ3:M 3 127 1 [1,2,5,16,19] 4:=hi<|WZ_step [(7,255)] rfl (by kernel_rfl)<|WZ_l rfl rfl (l_a rfl) rfl (ho μ2) rfl rfl WZ_nil
  have μ4:M 0 1023 4 [1,2,5,6] 5:=hi<|WZ_end rfl (by kernel_rfl) (.inr ⟨rfl,keepT_sub (ks:=[1,2,5,6]) rfl⟩)
  have μ5:M 1 511 4 [1,2,5,6,19] 6:=hi<|WZ_step [(9,1023)] rfl (by kernel_rfl)<|WZ_0 rfl rfl (l_a rfl) rfl rfl (ho μ4) rfl rfl WZ_nil
  have μ6:M 2 255 4 [1,2,5,6,16,19] 3:=hi<|WZ_step [(8,511)] rfl (by kernel_rfl)<|WZ_0 rfl rfl (l_a rfl) rfl rfl (ho μ5) rfl rfl WZ_nil
  have μ7:M 3 191 2 [1,2,6,16,19] 4:=hi<|WZ_step [(6,255)] rfl (by kernel_rfl)<|WZ_l rfl rfl (l_a rfl) rfl (ho μ6) rfl rfl WZ_nil
  have μ8:M 4 63 0 [1,2,16,19] 0:=hi<|WZ_step [(6,127),(7,191)] rfl (by kernel_rfl)<|WZ_l rfl rfl (l_a rfl) rfl (ho μ3) rfl rfl<|WZ_l rfl rfl (l_a rfl) rfl (ho μ7) rfl rfl WZ_nil
  have μ9:M 3 223 3 [1,2,5,6,16,17,18] 3:=hi<|WZ_step [(5,255)] rfl (by kernel_rfl)<|WZ_v rfl rfl (y_c rfl (hhd)) rfl (ho μ2) rfl rfl WZ_nil
  have μ10:M 4 95 1 [1,2,5,16,17,18] 4:=hi<|WZ_step [(5,127),(7,223)] rfl (by kernel_rfl)<|WZ_v rfl rfl (y_c rfl (hhd)) rfl (ho μ3) rfl rfl<|WZ_l rfl rfl (l_a rfl) rfl (ho μ9) rfl rfl WZ_nil
  have μ11:M 3 223 4 [1,2,5,6,16,17,18] 3:=hi<|WZ_step [(5,255)] rfl (by kernel_rfl)<|WZ_v rfl rfl (y_c rfl (hhd)) rfl (ho μ6) rfl rfl WZ_nil
  have μ12:M 4 159 2 [1,2,6,16,17,18] 4:=hi<|WZ_step [(5,191),(6,223)] rfl (by kernel_rfl)<|WZ_v rfl rfl (y_c rfl (hhd)) rfl (ho μ7) rfl rfl<|WZ_l rfl rfl (l_a rfl) rfl (ho μ11) rfl rfl WZ_nil
  have μ13:M 5 31 0 [1,2,16,17,18] 0:=hi<|WZ_step [(5,63),(6,95),(7,159)] rfl (by kernel_rfl)<|WZ_v rfl rfl (y_c rfl (hhd)) rfl (ho μ8) rfl rfl<|WZ_l rfl rfl (l_a rfl) rfl (ho μ10) rfl rfl<|WZ_l rfl rfl (l_a rfl) rfl (ho μ12) rfl rfl WZ_nil
  have μ14:M 4 207 3 [1,2,5,6,16,17] 3:=hi<|WZ_step [(4,223)] rfl (by kernel_rfl)<|WZ_a (ho μ9) rfl rfl WZ_nil
  have μ15:M 5 79 1 [1,2,5,16,17] 4:=hi<|WZ_step [(4,95),(7,207)] rfl (by kernel_rfl)<|WZ_a (ho μ10) rfl rfl<|WZ_l rfl rfl (l_a rfl) rfl (ho μ14) rfl rfl WZ_nil
  have μ16:M 4 207 4 [1,2,5,6,16,17] 3:=hi<|WZ_step [(4,223)] rfl (by kernel_rfl)<|WZ_a (ho μ11) rfl rfl WZ_nil
  have μ17:M 5 143 2 [1,2,6,16,17] 4:=hi<|WZ_step [(4,159),(6,207)] rfl (by kernel_rfl)<|WZ_a (ho μ12) rfl rfl<|WZ_l rfl rfl (l_a rfl) rfl (ho μ16) rfl rfl WZ_nil
  have μ18:M 6 15 0 [1,2,16,17] 0:=hi<|WZ_step [(4,31),(6,79),(7,143)] rfl (by kernel_rfl)<|WZ_a (ho μ13) rfl rfl<|WZ_l rfl rfl (l_a rfl) rfl (ho μ15) rfl rfl<|WZ_l rfl rfl (l_a rfl) rfl (ho μ17) rfl rfl WZ_nil
  have μ19:M 4 215 3 [1,2,5,6,16,18] 3:=hi<|WZ_step [(3,223)] rfl (by kernel_rfl)<|WZ_a (ho μ9) rfl rfl WZ_nil
  have μ20:M 5 87 1 [1,2,5,16,18] 4:=hi<|WZ_step [(3,95),(7,215)] rfl (by kernel_rfl)<|WZ_a (ho μ10) rfl rfl<|WZ_l rfl rfl (l_a rfl) rfl (ho μ19) rfl rfl WZ_nil
  have μ21:M 4 215 4 [1,2,5,6,16,18] 3:=hi<|WZ_step [(3,223)] rfl (by kernel_rfl)<|WZ_a (ho μ11) rfl rfl WZ_nil
  have μ22:M 5 151 2 [1,2,6,16,18] 4:=hi<|WZ_step [(3,159),(6,215)] rfl (by kernel_rfl)<|WZ_a (ho μ12) rfl rfl<|WZ_l rfl rfl (l_a rfl) rfl (ho μ21) rfl rfl WZ_nil
  have μ23:M 6 23 0 [1,2,16,18] 0:=hi<|WZ_step [(3,31),(6,87),(7,151)] rfl (by kernel_rfl)<|WZ_a (ho μ13) rfl rfl<|WZ_l rfl rfl (l_a rfl) rfl (ho μ20) rfl rfl<|WZ_l rfl rfl (l_a rfl) rfl (ho μ22) rfl rfl WZ_nil
  have μ24:M 5 199 3 [1,2,5,6,16] 3:=hi<|WZ_step [(3,207),(4,215)] rfl (by kernel_rfl)<|WZ_a (ho μ14) rfl rfl<|WZ_a (ho μ19) rfl rfl WZ_nil
  have μ25:M 6 71 1 [1,2,5,16] 4:=hi<|WZ_step [(3,79),(4,87),(7,199)] rfl (by kernel_rfl)<|WZ_a (ho μ15) rfl rfl<|WZ_a (ho μ20) rfl rfl<|WZ_l rfl rfl (l_a rfl) rfl (ho μ24) rfl rfl WZ_nil
  have μ26:M 5 199 4 [1,2,5,6,16] 3:=hi<|WZ_step [(3,207),(4,215)] rfl (by kernel_rfl)<|WZ_a (ho μ16) rfl rfl<|WZ_a (ho μ21) rfl rfl WZ_nil
  have μ27:M 6 135 2 [1,2,6,16] 4:=hi<|WZ_step [(3,143),(4,151),(6,199)] rfl (by kernel_rfl)<|WZ_a (ho μ17) rfl rfl<|WZ_a (ho μ22) rfl rfl<|WZ_l rfl rfl (l_a rfl) rfl (ho μ26) rfl rfl WZ_nil
  have μ28:M 7 7 0 [1,2,16] 0:=hi<|WZ_step [(3,15),(4,23),(6,71),(7,135)] rfl (by kernel_rfl)<|WZ_a (ho μ18) rfl rfl<|WZ_a (ho μ23) rfl rfl<|WZ_l rfl rfl (l_a rfl) rfl (ho μ25) rfl rfl<|WZ_l rfl rfl (l_a rfl) rfl (ho μ27) rfl rfl WZ_nil
  have μ29:M 4 219 3 [1,2,5,6,14,15,17,18] 3:=hi<|WZ_step [(2,223)] rfl (by kernel_rfl)<|WZ_v rfl rfl (y_c rfl (htl)) rfl (ho μ9) rfl rfl WZ_nil
  have μ30:M 5 91 1 [1,2,5,14,15,17,18] 4:=hi<|WZ_step [(2,95),(7,219)] rfl (by kernel_rfl)<|WZ_v rfl rfl (y_c rfl (htl)) rfl (ho μ10) rfl rfl<|WZ_l rfl rfl (l_a rfl) rfl (ho μ29) rfl rfl WZ_nil
  have μ31:M 4 219 4 [1,2,5,6,14,15,17,18] 3:=hi<|WZ_step [(2,223)] rfl (by kernel_rfl)<|WZ_v rfl rfl (y_c rfl (htl)) rfl (ho μ11) rfl rfl WZ_nil
  have μ32:M 5 155 2 [1,2,6,14,15,17,18] 4:=hi<|WZ_step [(2,159),(6,219)] rfl (by kernel_rfl)<|WZ_v rfl rfl (y_c rfl (htl)) rfl (ho μ12) rfl rfl<|WZ_l rfl rfl (l_a rfl) rfl (ho μ31) rfl rfl WZ_nil
  have μ33:M 6 27 0 [1,2,14,15,17,18] 0:=hi<|WZ_step [(2,31),(6,91),(7,155)] rfl (by kernel_rfl)<|WZ_v rfl rfl (y_c rfl (htl)) rfl (ho μ13) rfl rfl<|WZ_l rfl rfl (l_a rfl) rfl (ho μ30) rfl rfl<|WZ_l rfl rfl (l_a rfl) rfl (ho μ32) rfl rfl WZ_nil
  have μ34:M 5 203 3 [1,2,5,6,14,15,17] 3:=hi<|WZ_step [(2,207),(4,219)] rfl (by kernel_rfl)<|WZ_v rfl rfl (y_c rfl (htl)) rfl (ho μ14) rfl rfl<|WZ_a (ho μ29) rfl rfl WZ_nil
  have μ35:M 6 75 1 [1,2,5,14,15,17] 4:=hi<|WZ_step [(2,79),(4,91),(7,203)] rfl (by kernel_rfl)<|WZ_v rfl rfl (y_c rfl (htl)) rfl (ho μ15) rfl rfl<|WZ_a (ho μ30) rfl rfl<|WZ_l rfl rfl (l_a rfl) rfl (ho μ34) rfl rfl WZ_nil
  have μ36:M 5 203 4 [1,2,5,6,14,15,17] 3:=hi<|WZ_step [(2,207),(4,219)] rfl (by kernel_rfl)<|WZ_v rfl rfl (y_c rfl (htl)) rfl (ho μ16) rfl rfl<|WZ_a (ho μ31) rfl rfl WZ_nil
  have μ37:M 6 139 2 [1,2,6,14,15,17] 4:=hi<|WZ_step [(2,143),(4,155),(6,203)] rfl (by kernel_rfl)<|WZ_v rfl rfl (y_c rfl (htl)) rfl (ho μ17) rfl rfl<|WZ_a (ho μ32) rfl rfl<|WZ_l rfl rfl (l_a rfl) rfl (ho μ36) rfl rfl WZ_nil
  have μ38:M 7 11 0 [1,2,14,15,17] 0:=hi<|WZ_step [(2,15),(4,27),(6,75),(7,139)] rfl (by kernel_rfl)<|WZ_v rfl rfl (y_c rfl (htl)) rfl (ho μ18) rfl rfl<|WZ_a (ho μ33) rfl rfl<|WZ_l rfl rfl (l_a rfl) rfl (ho μ35) rfl rfl<|WZ_l rfl rfl (l_a rfl) rfl (ho μ37) rfl rfl WZ_nil
  have μ39:M 5 211 3 [1,2,5,6,14,15,18] 3:=hi<|WZ_step [(2,215),(3,219)] rfl (by kernel_rfl)<|WZ_v rfl rfl (y_c rfl (htl)) rfl (ho μ19) rfl rfl<|WZ_a (ho μ29) rfl rfl WZ_nil
  have μ40:M 6 83 1 [1,2,5,14,15,18] 4:=hi<|WZ_step [(2,87),(3,91),(7,211)] rfl (by kernel_rfl)<|WZ_v rfl rfl (y_c rfl (htl)) rfl (ho μ20) rfl rfl<|WZ_a (ho μ30) rfl rfl<|WZ_l rfl rfl (l_a rfl) rfl (ho μ39) rfl rfl WZ_nil
  have μ41:M 5 211 4 [1,2,5,6,14,15,18] 3:=hi<|WZ_step [(2,215),(3,219)] rfl (by kernel_rfl)<|WZ_v rfl rfl (y_c rfl (htl)) rfl (ho μ21) rfl rfl<|WZ_a (ho μ31) rfl rfl WZ_nil
  have μ42:M 6 147 2 [1,2,6,14,15,18] 4:=hi<|WZ_step [(2,151),(3,155),(6,211)] rfl (by kernel_rfl)<|WZ_v rfl rfl (y_c rfl (htl)) rfl (ho μ22) rfl rfl<|WZ_a (ho μ32) rfl rfl<|WZ_l rfl rfl (l_a rfl) rfl (ho μ41) rfl rfl WZ_nil
  have μ43:M 7 19 0 [1,2,14,15,18] 0:=hi<|WZ_step [(2,23),(3,27),(6,83),(7,147)] rfl (by kernel_rfl)<|WZ_v rfl rfl (y_c rfl (htl)) rfl (ho μ23) rfl rfl<|WZ_a (ho μ33) rfl rfl<|WZ_l rfl rfl (l_a rfl) rfl (ho μ40) rfl rfl<|WZ_l rfl rfl (l_a rfl) rfl (ho μ42) rfl rfl WZ_nil
  have μ44:M 6 195 3 [1,2,5,6,14,15] 3:=hi<|WZ_step [(2,199),(3,203),(4,211)] rfl (by kernel_rfl)<|WZ_v rfl rfl (y_c rfl (htl)) rfl (ho μ24) rfl rfl<|WZ_a (ho μ34) rfl rfl<|WZ_a (ho μ39) rfl rfl WZ_nil
  have μ45:M 7 67 1 [1,2,5,14,15] 4:=hi<|WZ_step [(2,71),(3,75),(4,83),(7,195)] rfl (by kernel_rfl)<|WZ_v rfl rfl (y_c rfl (htl)) rfl (ho μ25) rfl rfl<|WZ_a (ho μ35) rfl rfl<|WZ_a (ho μ40) rfl rfl<|WZ_l rfl rfl (l_a rfl) rfl (ho μ44) rfl rfl WZ_nil
  have μ46:M 6 195 4 [1,2,5,6,14,15] 3:=hi<|WZ_step [(2,199),(3,203),(4,211)] rfl (by kernel_rfl)<|WZ_v rfl rfl (y_c rfl (htl)) rfl (ho μ26) rfl rfl<|WZ_a (ho μ36) rfl rfl<|WZ_a (ho μ41) rfl rfl WZ_nil
  have μ47:M 7 131 2 [1,2,6,14,15] 4:=hi<|WZ_step [(2,135),(3,139),(4,147),(6,195)] rfl (by kernel_rfl)<|WZ_v rfl rfl (y_c rfl (htl)) rfl (ho μ27) rfl rfl<|WZ_a (ho μ37) rfl rfl<|WZ_a (ho μ42) rfl rfl<|WZ_l rfl rfl (l_a rfl) rfl (ho μ46) rfl rfl WZ_nil
  have μ48:M 8 3 0 [1,2,14,15] 0:=hi<|WZ_step [(2,7),(3,11),(4,19),(6,67),(7,131)] rfl (by kernel_rfl)<|WZ_v rfl rfl (y_c rfl (htl)) rfl (ho μ28) rfl rfl<|WZ_a (ho μ38) rfl rfl<|WZ_a (ho μ43) rfl rfl<|WZ_l rfl rfl (l_a rfl) rfl (ho μ45) rfl rfl<|WZ_l rfl rfl (l_a rfl) rfl (ho μ47) rfl rfl WZ_nil
  have μ49:M 5 217 3 [1,2,5,6,14,17,18] 3:=hi<|WZ_step [(1,219)] rfl (by kernel_rfl)<|WZ_a (ho μ29) rfl rfl WZ_nil
  have μ50:M 6 89 1 [1,2,5,14,17,18] 4:=hi<|WZ_step [(1,91),(7,217)] rfl (by kernel_rfl)<|WZ_a (ho μ30) rfl rfl<|WZ_l rfl rfl (l_a rfl) rfl (ho μ49) rfl rfl WZ_nil
  have μ51:M 5 217 4 [1,2,5,6,14,17,18] 3:=hi<|WZ_step [(1,219)] rfl (by kernel_rfl)<|WZ_a (ho μ31) rfl rfl WZ_nil
  have μ52:M 6 153 2 [1,2,6,14,17,18] 4:=hi<|WZ_step [(1,155),(6,217)] rfl (by kernel_rfl)<|WZ_a (ho μ32) rfl rfl<|WZ_l rfl rfl (l_a rfl) rfl (ho μ51) rfl rfl WZ_nil
  have μ53:M 7 25 0 [1,2,14,17,18] 0:=hi<|WZ_step [(1,27),(6,89),(7,153)] rfl (by kernel_rfl)<|WZ_a (ho μ33) rfl rfl<|WZ_l rfl rfl (l_a rfl) rfl (ho μ50) rfl rfl<|WZ_l rfl rfl (l_a rfl) rfl (ho μ52) rfl rfl WZ_nil
  have μ54:M 6 201 3 [1,2,5,6,14,17] 3:=hi<|WZ_step [(1,203),(4,217)] rfl (by kernel_rfl)<|WZ_a (ho μ34) rfl rfl<|WZ_a (ho μ49) rfl rfl WZ_nil
  have μ55:M 7 73 1 [1,2,5,14,17] 4:=hi<|WZ_step [(1,75),(4,89),(7,201)] rfl (by kernel_rfl)<|WZ_a (ho μ35) rfl rfl<|WZ_a (ho μ50) rfl rfl<|WZ_l rfl rfl (l_a rfl) rfl (ho μ54) rfl rfl WZ_nil
  have μ56:M 6 201 4 [1,2,5,6,14,17] 3:=hi<|WZ_step [(1,203),(4,217)] rfl (by kernel_rfl)<|WZ_a (ho μ36) rfl rfl<|WZ_a (ho μ51) rfl rfl WZ_nil
  have μ57:M 7 137 2 [1,2,6,14,17] 4:=hi<|WZ_step [(1,139),(4,153),(6,201)] rfl (by kernel_rfl)<|WZ_a (ho μ37) rfl rfl<|WZ_a (ho μ52) rfl rfl<|WZ_l rfl rfl (l_a rfl) rfl (ho μ56) rfl rfl WZ_nil
  have μ58:M 8 9 0 [1,2,14,17] 0:=hi<|WZ_step [(1,11),(4,25),(6,73),(7,137)] rfl (by kernel_rfl)<|WZ_a (ho μ38) rfl rfl<|WZ_a (ho μ53) rfl rfl<|WZ_l rfl rfl (l_a rfl) rfl (ho μ55) rfl rfl<|WZ_l rfl rfl (l_a rfl) rfl (ho μ57) rfl rfl WZ_nil
  have μ59:M 6 209 3 [1,2,5,6,14,18] 3:=hi<|WZ_step [(1,211),(3,217)] rfl (by kernel_rfl)<|WZ_a (ho μ39) rfl rfl<|WZ_a (ho μ49) rfl rfl WZ_nil
  have μ60:M 7 81 1 [1,2,5,14,18] 4:=hi<|WZ_step [(1,83),(3,89),(7,209)] rfl (by kernel_rfl)<|WZ_a (ho μ40) rfl rfl<|WZ_a (ho μ50) rfl rfl<|WZ_l rfl rfl (l_a rfl) rfl (ho μ59) rfl rfl WZ_nil
  have μ61:M 6 209 4 [1,2,5,6,14,18] 3:=hi<|WZ_step [(1,211),(3,217)] rfl (by kernel_rfl)<|WZ_a (ho μ41) rfl rfl<|WZ_a (ho μ51) rfl rfl WZ_nil
  have μ62:M 7 145 2 [1,2,6,14,18] 4:=hi<|WZ_step [(1,147),(3,153),(6,209)] rfl (by kernel_rfl)<|WZ_a (ho μ42) rfl rfl<|WZ_a (ho μ52) rfl rfl<|WZ_l rfl rfl (l_a rfl) rfl (ho μ61) rfl rfl WZ_nil
  have μ63:M 8 17 0 [1,2,14,18] 0:=hi<|WZ_step [(1,19),(3,25),(6,81),(7,145)] rfl (by kernel_rfl)<|WZ_a (ho μ43) rfl rfl<|WZ_a (ho μ53) rfl rfl<|WZ_l rfl rfl (l_a rfl) rfl (ho μ60) rfl rfl<|WZ_l rfl rfl (l_a rfl) rfl (ho μ62) rfl rfl WZ_nil
  have μ64:M 7 193 3 [1,2,5,6,14] 3:=hi<|WZ_step [(1,195),(3,201),(4,209)] rfl (by kernel_rfl)<|WZ_a (ho μ44) rfl rfl<|WZ_a (ho μ54) rfl rfl<|WZ_a (ho μ59) rfl rfl WZ_nil
  have μ65:M 8 65 1 [1,2,5,14] 4:=hi<|WZ_step [(1,67),(3,73),(4,81),(7,193)] rfl (by kernel_rfl)<|WZ_a (ho μ45) rfl rfl<|WZ_a (ho μ55) rfl rfl<|WZ_a (ho μ60) rfl rfl<|WZ_l rfl rfl (l_a rfl) rfl (ho μ64) rfl rfl WZ_nil
  have μ66:M 7 193 4 [1,2,5,6,14] 3:=hi<|WZ_step [(1,195),(3,201),(4,209)] rfl (by kernel_rfl)<|WZ_a (ho μ46) rfl rfl<|WZ_a (ho μ56) rfl rfl<|WZ_a (ho μ61) rfl rfl WZ_nil
  have μ67:M 8 129 2 [1,2,6,14] 4:=hi<|WZ_step [(1,131),(3,137),(4,145),(6,193)] rfl (by kernel_rfl)<|WZ_a (ho μ47) rfl rfl<|WZ_a (ho μ57) rfl rfl<|WZ_a (ho μ62) rfl rfl<|WZ_l rfl rfl (l_a rfl) rfl (ho μ66) rfl rfl WZ_nil
  have μ68:M 9 1 0 [1,2,14] 0:=hi<|WZ_step [(1,3),(3,9),(4,17),(6,65),(7,129)] rfl (by kernel_rfl)<|WZ_a (ho μ48) rfl rfl<|WZ_a (ho μ58) rfl rfl<|WZ_a (ho μ63) rfl rfl<|WZ_l rfl rfl (l_a rfl) rfl (ho μ65) rfl rfl<|WZ_l rfl rfl (l_a rfl) rfl (ho μ67) rfl rfl WZ_nil
  have μ69:M 5 218 3 [1,2,5,6,15,17,18] 3:=hi<|WZ_step [(0,219)] rfl (by kernel_rfl)<|WZ_a (ho μ29) rfl rfl WZ_nil
  have μ70:M 6 90 1 [1,2,5,15,17,18] 4:=hi<|WZ_step [(0,91),(7,218)] rfl (by kernel_rfl)<|WZ_a (ho μ30) rfl rfl<|WZ_l rfl rfl (l_a rfl) rfl (ho μ69) rfl rfl WZ_nil
  have μ71:M 5 218 4 [1,2,5,6,15,17,18] 3:=hi<|WZ_step [(0,219)] rfl (by kernel_rfl)<|WZ_a (ho μ31) rfl rfl WZ_nil
  have μ72:M 6 154 2 [1,2,6,15,17,18] 4:=hi<|WZ_step [(0,155),(6,218)] rfl (by kernel_rfl)<|WZ_a (ho μ32) rfl rfl<|WZ_l rfl rfl (l_a rfl) rfl (ho μ71) rfl rfl WZ_nil
  have μ73:M 7 26 0 [1,2,15,17,18] 0:=hi<|WZ_step [(0,27),(6,90),(7,154)] rfl (by kernel_rfl)<|WZ_a (ho μ33) rfl rfl<|WZ_l rfl rfl (l_a rfl) rfl (ho μ70) rfl rfl<|WZ_l rfl rfl (l_a rfl) rfl (ho μ72) rfl rfl WZ_nil
  have μ74:M 6 202 3 [1,2,5,6,15,17] 3:=hi<|WZ_step [(0,203),(4,218)] rfl (by kernel_rfl)<|WZ_a (ho μ34) rfl rfl<|WZ_a (ho μ69) rfl rfl WZ_nil
  have μ75:M 7 74 1 [1,2,5,15,17] 4:=hi<|WZ_step [(0,75),(4,90),(7,202)] rfl (by kernel_rfl)<|WZ_a (ho μ35) rfl rfl<|WZ_a (ho μ70) rfl rfl<|WZ_l rfl rfl (l_a rfl) rfl (ho μ74) rfl rfl WZ_nil
  have μ76:M 6 202 4 [1,2,5,6,15,17] 3:=hi<|WZ_step [(0,203),(4,218)] rfl (by kernel_rfl)<|WZ_a (ho μ36) rfl rfl<|WZ_a (ho μ71) rfl rfl WZ_nil
  have μ77:M 7 138 2 [1,2,6,15,17] 4:=hi<|WZ_step [(0,139),(4,154),(6,202)] rfl (by kernel_rfl)<|WZ_a (ho μ37) rfl rfl<|WZ_a (ho μ72) rfl rfl<|WZ_l rfl rfl (l_a rfl) rfl (ho μ76) rfl rfl WZ_nil
  have μ78:M 8 10 0 [1,2,15,17] 0:=hi<|WZ_step [(0,11),(4,26),(6,74),(7,138)] rfl (by kernel_rfl)<|WZ_a (ho μ38) rfl rfl<|WZ_a (ho μ73) rfl rfl<|WZ_l rfl rfl (l_a rfl) rfl (ho μ75) rfl rfl<|WZ_l rfl rfl (l_a rfl) rfl (ho μ77) rfl rfl WZ_nil
  have μ79:M 6 210 3 [1,2,5,6,15,18] 3:=hi<|WZ_step [(0,211),(3,218)] rfl (by kernel_rfl)<|WZ_a (ho μ39) rfl rfl<|WZ_a (ho μ69) rfl rfl WZ_nil
  have μ80:M 7 82 1 [1,2,5,15,18] 4:=hi<|WZ_step [(0,83),(3,90),(7,210)] rfl (by kernel_rfl)<|WZ_a (ho μ40) rfl rfl<|WZ_a (ho μ70) rfl rfl<|WZ_l rfl rfl (l_a rfl) rfl (ho μ79) rfl rfl WZ_nil
  have μ81:M 6 210 4 [1,2,5,6,15,18] 3:=hi<|WZ_step [(0,211),(3,218)] rfl (by kernel_rfl)<|WZ_a (ho μ41) rfl rfl<|WZ_a (ho μ71) rfl rfl WZ_nil
  have μ82:M 7 146 2 [1,2,6,15,18] 4:=hi<|WZ_step [(0,147),(3,154),(6,210)] rfl (by kernel_rfl)<|WZ_a (ho μ42) rfl rfl<|WZ_a (ho μ72) rfl rfl<|WZ_l rfl rfl (l_a rfl) rfl (ho μ81) rfl rfl WZ_nil
  have μ83:M 8 18 0 [1,2,15,18] 0:=hi<|WZ_step [(0,19),(3,26),(6,82),(7,146)] rfl (by kernel_rfl)<|WZ_a (ho μ43) rfl rfl<|WZ_a (ho μ73) rfl rfl<|WZ_l rfl rfl (l_a rfl) rfl (ho μ80) rfl rfl<|WZ_l rfl rfl (l_a rfl) rfl (ho μ82) rfl rfl WZ_nil
  have μ84:M 7 194 3 [1,2,5,6,15] 3:=hi<|WZ_step [(0,195),(3,202),(4,210)] rfl (by kernel_rfl)<|WZ_a (ho μ44) rfl rfl<|WZ_a (ho μ74) rfl rfl<|WZ_a (ho μ79) rfl rfl WZ_nil
  have μ85:M 8 66 1 [1,2,5,15] 4:=hi<|WZ_step [(0,67),(3,74),(4,82),(7,194)] rfl (by kernel_rfl)<|WZ_a (ho μ45) rfl rfl<|WZ_a (ho μ75) rfl rfl<|WZ_a (ho μ80) rfl rfl<|WZ_l rfl rfl (l_a rfl) rfl (ho μ84) rfl rfl WZ_nil
  have μ86:M 7 194 4 [1,2,5,6,15] 3:=hi<|WZ_step [(0,195),(3,202),(4,210)] rfl (by kernel_rfl)<|WZ_a (ho μ46) rfl rfl<|WZ_a (ho μ76) rfl rfl<|WZ_a (ho μ81) rfl rfl WZ_nil
  have μ87:M 8 130 2 [1,2,6,15] 4:=hi<|WZ_step [(0,131),(3,138),(4,146),(6,194)] rfl (by kernel_rfl)<|WZ_a (ho μ47) rfl rfl<|WZ_a (ho μ77) rfl rfl<|WZ_a (ho μ82) rfl rfl<|WZ_l rfl rfl (l_a rfl) rfl (ho μ86) rfl rfl WZ_nil
  have μ88:M 9 2 0 [1,2,15] 0:=hi<|WZ_step [(0,3),(3,10),(4,18),(6,66),(7,130)] rfl (by kernel_rfl)<|WZ_a (ho μ48) rfl rfl<|WZ_a (ho μ78) rfl rfl<|WZ_a (ho μ83) rfl rfl<|WZ_l rfl rfl (l_a rfl) rfl (ho μ85) rfl rfl<|WZ_l rfl rfl (l_a rfl) rfl (ho μ87) rfl rfl WZ_nil
  have μ89:M 6 216 3 [1,2,5,6,17,18] 3:=hi<|WZ_step [(0,217),(1,218)] rfl (by kernel_rfl)<|WZ_a (ho μ49) rfl rfl<|WZ_a (ho μ69) rfl rfl WZ_nil
  have μ90:M 7 88 1 [1,2,5,17,18] 4:=hi<|WZ_step [(0,89),(1,90),(7,216)] rfl (by kernel_rfl)<|WZ_a (ho μ50) rfl rfl<|WZ_a (ho μ70) rfl rfl<|WZ_l rfl rfl (l_a rfl) rfl (ho μ89) rfl rfl WZ_nil
  have μ91:M 6 216 4 [1,2,5,6,17,18] 3:=hi<|WZ_step [(0,217),(1,218)] rfl (by kernel_rfl)<|WZ_a (ho μ51) rfl rfl<|WZ_a (ho μ71) rfl rfl WZ_nil
  have μ92:M 7 152 2 [1,2,6,17,18] 4:=hi<|WZ_step [(0,153),(1,154),(6,216)] rfl (by kernel_rfl)<|WZ_a (ho μ52) rfl rfl<|WZ_a (ho μ72) rfl rfl<|WZ_l rfl rfl (l_a rfl) rfl (ho μ91) rfl rfl WZ_nil
  have μ93:M 8 24 0 [1,2,17,18] 0:=hi<|WZ_step [(0,25),(1,26),(6,88),(7,152)] rfl (by kernel_rfl)<|WZ_a (ho μ53) rfl rfl<|WZ_a (ho μ73) rfl rfl<|WZ_l rfl rfl (l_a rfl) rfl (ho μ90) rfl rfl<|WZ_l rfl rfl (l_a rfl) rfl (ho μ92) rfl rfl WZ_nil
  have μ94:M 7 200 3 [1,2,5,6,17] 3:=hi<|WZ_step [(0,201),(1,202),(4,216)] rfl (by kernel_rfl)<|WZ_a (ho μ54) rfl rfl<|WZ_a (ho μ74) rfl rfl<|WZ_a (ho μ89) rfl rfl WZ_nil
  have μ95:M 8 72 1 [1,2,5,17] 4:=hi<|WZ_step [(0,73),(1,74),(4,88),(7,200)] rfl (by kernel_rfl)<|WZ_a (ho μ55) rfl rfl<|WZ_a (ho μ75) rfl rfl<|WZ_a (ho μ90) rfl rfl<|WZ_l rfl rfl (l_a rfl) rfl (ho μ94) rfl rfl WZ_nil
  have μ96:M 7 200 4 [1,2,5,6,17] 3:=hi<|WZ_step [(0,201),(1,202),(4,216)] rfl (by kernel_rfl)<|WZ_a (ho μ56) rfl rfl<|WZ_a (ho μ76) rfl rfl<|WZ_a (ho μ91) rfl rfl WZ_nil
  have μ97:M 8 136 2 [1,2,6,17] 4:=hi<|WZ_step [(0,137),(1,138),(4,152),(6,200)] rfl (by kernel_rfl)<|WZ_a (ho μ57) rfl rfl<|WZ_a (ho μ77) rfl rfl<|WZ_a (ho μ92) rfl rfl<|WZ_l rfl rfl (l_a rfl) rfl (ho μ96) rfl rfl WZ_nil
  have μ98:M 9 8 0 [1,2,17] 0:=hi<|WZ_step [(0,9),(1,10),(4,24),(6,72),(7,136)] rfl (by kernel_rfl)<|WZ_a (ho μ58) rfl rfl<|WZ_a (ho μ78) rfl rfl<|WZ_a (ho μ93) rfl rfl<|WZ_l rfl rfl (l_a rfl) rfl (ho μ95) rfl rfl<|WZ_l rfl rfl (l_a rfl) rfl (ho μ97) rfl rfl WZ_nil
  have μ99:M 7 208 3 [1,2,5,6,18] 3:=hi<|WZ_step [(0,209),(1,210),(3,216)] rfl (by kernel_rfl)<|WZ_a (ho μ59) rfl rfl<|WZ_a (ho μ79) rfl rfl<|WZ_a (ho μ89) rfl rfl WZ_nil
  have μ100:M 8 80 1 [1,2,5,18] 4:=hi<|WZ_step [(0,81),(1,82),(3,88),(7,208)] rfl (by kernel_rfl)<|WZ_a (ho μ60) rfl rfl<|WZ_a (ho μ80) rfl rfl<|WZ_a (ho μ90) rfl rfl<|WZ_l rfl rfl (l_a rfl) rfl (ho μ99) rfl rfl WZ_nil
  have μ101:M 7 208 4 [1,2,5,6,18] 3:=hi<|WZ_step [(0,209),(1,210),(3,216)] rfl (by kernel_rfl)<|WZ_a (ho μ61) rfl rfl<|WZ_a (ho μ81) rfl rfl<|WZ_a (ho μ91) rfl rfl WZ_nil
  have μ102:M 8 144 2 [1,2,6,18] 4:=hi<|WZ_step [(0,145),(1,146),(3,152),(6,208)] rfl (by kernel_rfl)<|WZ_a (ho μ62) rfl rfl<|WZ_a (ho μ82) rfl rfl<|WZ_a (ho μ92) rfl rfl<|WZ_l rfl rfl (l_a rfl) rfl (ho μ101) rfl rfl WZ_nil
  have μ103:M 9 16 0 [1,2,18] 0:=hi<|WZ_step [(0,17),(1,18),(3,24),(6,80),(7,144)] rfl (by kernel_rfl)<|WZ_a (ho μ63) rfl rfl<|WZ_a (ho μ83) rfl rfl<|WZ_a (ho μ93) rfl rfl<|WZ_l rfl rfl (l_a rfl) rfl (ho μ100) rfl rfl<|WZ_l rfl rfl (l_a rfl) rfl (ho μ102) rfl rfl WZ_nil
  have μ104:M 8 192 3 [1,2,5,6] 3:=hi<|WZ_step [(0,193),(1,194),(3,200),(4,208)] rfl (by kernel_rfl)<|WZ_a (ho μ64) rfl rfl<|WZ_a (ho μ84) rfl rfl<|WZ_a (ho μ94) rfl rfl<|WZ_a (ho μ99) rfl rfl WZ_nil
  have μ105:M 9 64 1 [1,2,5] 4:=hi<|WZ_step [(0,65),(1,66),(3,72),(4,80),(7,192)] rfl (by kernel_rfl)<|WZ_a (ho μ65) rfl rfl<|WZ_a (ho μ85) rfl rfl<|WZ_a (ho μ95) rfl rfl<|WZ_a (ho μ100) rfl rfl<|WZ_l rfl rfl (l_a rfl) rfl (ho μ104) rfl rfl WZ_nil
  have μ106:M 8 192 4 [1,2,5,6] 3:=hi<|WZ_step [(0,193),(1,194),(3,200),(4,208)] rfl (by kernel_rfl)<|WZ_a (ho μ66) rfl rfl<|WZ_a (ho μ86) rfl rfl<|WZ_a (ho μ96) rfl rfl<|WZ_a (ho μ101) rfl rfl WZ_nil
  have μ107:M 9 128 2 [1,2,6] 4:=hi<|WZ_step [(0,129),(1,130),(3,136),(4,144),(6,192)] rfl (by kernel_rfl)<|WZ_a (ho μ67) rfl rfl<|WZ_a (ho μ87) rfl rfl<|WZ_a (ho μ97) rfl rfl<|WZ_a (ho μ102) rfl rfl<|WZ_l rfl rfl (l_a rfl) rfl (ho μ106) rfl rfl WZ_nil
  have μ108:M 10 0 0 [1,2] 0:=hi<|WZ_step [(0,1),(1,2),(3,8),(4,16),(6,64),(7,128)] rfl (by kernel_rfl)<|WZ_a (ho μ68) rfl rfl<|WZ_a (ho μ88) rfl rfl<|WZ_a (ho μ98) rfl rfl<|WZ_a (ho μ103) rfl rfl<|WZ_l rfl rfl (l_a rfl) rfl (ho μ105) rfl rfl<|WZ_l rfl rfl (l_a rfl) rfl (ho μ107) rfl rfl WZ_nil
  exact μ108
 refine W_rs ?_
 refine WR_a 3 rfl<|WR_v (y_quo rfl rfl rfl (by decide) ((show(a:Int).tdiv 2=((a / 2:Nat):Int) by rw[Int.tdiv_eq_ediv_of_nonneg (by omega)];omega)) (by unfold In64;omega)) rfl<|WR_v (y_ix ((a / 2*7)) rfl) rfl<|WR_a 1 rfl<|WR_v (y_ld rfl ((lnks_getP T.links (a / 2) 6 hi (by omega)).trans (show(lnkP (lnk T.links (a / 2)))[6]? =some (num g) by rw[←hgl];rfl))) rfl<|WR_a 3 rfl<|WR_k [1,2,5,6,7] rfl ?_
 refine W_rs ?_
 refine WR_a 4 rfl<|WR_k [1,2,5,6,7,8] rfl ?_
 refine W_rs ?_
 refine WR_a 1 rfl<|WR_v (y_quo rfl rfl rfl (by decide) ((show(a:Int).tdiv 2=((a / 2:Nat):Int) by rw[Int.tdiv_eq_ediv_of_nonneg (by omega)];omega)) (by unfold In64;omega)) rfl<|WR_a 3 rfl<|WR_k [2,5,6,7,8,9] rfl ?_
 refine W_sealPtr (xs:=[num n]) 5 0 0 rfl rfl ?_
 refine W_sealPtr (xs:=[num h]) 6 1 0 rfl rfl ?_
 refine W_sealPtr (xs:=compP 3 g) 7 2 0 rfl rfl ?_
 refine W_sealPtr (xs:=compP 2 h) 8 3 0 rfl rfl ?_
 refine W_sealPtr (xs:=compP 1 ((a / 2:Nat):Int)) 9 4 0 rfl rfl ?_
 refine W_ren [] (.c 2<|.c 5<|.c 6<|.c 7<|.c 8<|.c 9<|.nil) .nil rfl rfl ?_
 refine W_cs (.v (y_makeFunc rfl rfl) rfl<|.a 1 rfl<|.k [6,7,8,9,10] rfl) ?_
 refine W_rs ?_
 refine WR_a 1 rfl<|WR_k [6,7,8,9,10,11] rfl ?_
 refine W_seq ?_
 refine W_csK 36 (.raw (.bool (c1))) [6,7,8,9,10,11] rfl ?_ ?_
 ·exact .a 2 rfl<|.v (y_q rfl (hc1)) rfl<|.k [36,6,7,8,9,10,11] rfl
 refine W_cond rfl (fun h2=>?_) (fun h2=>?_)
 ·have hg0:0<g:=tt (by rw[hc1,h2])
  rw[if_pos hg0]
  refine W_region ?_
  refine WR_a 2 rfl<|WR_c rfl (h1 3 g) rfl<|WR_a 1 rfl<|WR_k [6,7,8,9,10,11] rfl ?_
  refine W_rs ?_
  refine WR_a 2 rfl<|WR_c rfl (h1 2 h) rfl<|WR_a 2 rfl<|WR_k [6,7,8,9,11,12] rfl ?_
  refine W_rs ?_
  refine WR_v (y_makeFunc rfl rfl) rfl<|WR_v (y_makeFunc rfl rfl) rfl<|WR_l (l_buildSlice (xs:=[_,_]) rfl (fok.sl.get rfl) ⟨Nat.le_of_ble_eq_true rfl,Nat.le_of_ble_eq_true rfl⟩ rfl rfl) rfl<|WR_a 2 rfl<|WR_k [9,13] rfl ?_
  refine W_cs (.v (y_makeFunc rfl rfl) rfl<|.a 1 rfl<|.k [4] rfl) ?_
  refine W_ret ?_
  unfold asmC F2 F3
  first
   |exact⟨_,_,ResL.of rfl,Pur.funcL (PurL.cons (Pur.ptrL rfl (PurL.cons (Pur.ownL rfl (PurL.cons (Pur.funcL (PurL.cons Pur.pure<|PurL.cons (Pur.ptrL rfl (PurL.cons (Pur.pure (p:=intsV _)) PurL.nil)) PurL.nil))<|PurL.cons (Pur.funcL (PurL.cons Pur.pure<|PurL.cons Pur.pure<|PurL.cons (Pur.ptrL rfl (PurL.cons (Pur.pure (p:=intsV _)) PurL.nil)) PurL.nil)) PurL.nil)) PurL.nil))<|PurL.cons Pur.pure PurL.nil),rfl⟩
   |exact⟨_,_,ResL.of rfl,Pur.funcL (PurL.cons (Pur.ptrL rfl (PurL.cons (Pur.ownL rfl (PurL.cons (Pur.funcL (PurL.cons Pur.pure<|PurL.cons (Pur.ptrL rfl (PurL.cons Pur.nils PurL.nil)) PurL.nil))<|PurL.cons (Pur.funcL (PurL.cons Pur.pure<|PurL.cons Pur.pure<|PurL.cons (Pur.ptrL rfl (PurL.cons (Pur.pure (p:=intsV _)) PurL.nil)) PurL.nil)) PurL.nil)) PurL.nil))<|PurL.cons Pur.pure PurL.nil),rfl⟩
 ·have hg0:¬0<g:=ff (by rw[hc1,h2])
  rw[if_neg hg0]
  refine W_skip ?_
  refine W_rs ?_
  refine WR_a 2 rfl<|WR_c rfl (h1 2 h) rfl<|WR_a 2 rfl<|WR_k [6,7,8,9,11,12] rfl ?_
  refine W_rs ?_
  refine WR_v (y_makeFunc rfl rfl) rfl<|WR_v (y_makeFunc rfl rfl) rfl<|WR_l (l_buildSlice (xs:=[_,_]) rfl (fok.sl.get rfl) ⟨Nat.le_of_ble_eq_true rfl,Nat.le_of_ble_eq_true rfl⟩ rfl rfl) rfl<|WR_a 2 rfl<|WR_k [9,13] rfl ?_
  refine W_cs (.v (y_makeFunc rfl rfl) rfl<|.a 1 rfl<|.k [4] rfl) ?_
  refine W_ret ?_
  unfold asmC F2 F3
  first
   |exact⟨_,_,ResL.of rfl,Pur.funcL (PurL.cons (Pur.ptrL rfl (PurL.cons (Pur.ownL rfl (PurL.cons (Pur.funcL (PurL.cons Pur.pure<|PurL.cons (Pur.ptrL rfl (PurL.cons (Pur.pure (p:=intsV _)) PurL.nil)) PurL.nil))<|PurL.cons (Pur.funcL (PurL.cons Pur.pure<|PurL.cons Pur.pure<|PurL.cons (Pur.ptrL rfl (PurL.cons (Pur.pure (p:=intsV _)) PurL.nil)) PurL.nil)) PurL.nil)) PurL.nil))<|PurL.cons Pur.pure PurL.nil),rfl⟩
   |exact⟨_,_,ResL.of rfl,Pur.funcL (PurL.cons (Pur.ptrL rfl (PurL.cons (Pur.ownL rfl (PurL.cons (Pur.funcL (PurL.cons Pur.pure<|PurL.cons (Pur.ptrL rfl (PurL.cons Pur.nils PurL.nil)) PurL.nil))<|PurL.cons (Pur.funcL (PurL.cons Pur.pure<|PurL.cons Pur.pure<|PurL.cons (Pur.ptrL rfl (PurL.cons (Pur.pure (p:=intsV _)) PurL.nil)) PurL.nil)) PurL.nil)) PurL.nil))<|PurL.cons Pur.pure PurL.nil),rfl⟩
end PW
end Go.Proofs.YtnegbdpggideiaaGreatDoor

namespace Go.Proofs.YtnegbdpggideiaaGreatDoor
set_option linter.unusedVariables false
set_option linter.unusedSimpArgs false
namespace PW
open Go.RowKit Reg Mem Net Rng
theorem over_flat {α:Type} (f:α→List PV) (s:Nat) (hf:∀a,(f a).length=s) (z:α):∀(l:List α) (d:Nat),d<l.length→over (l.flatMap f) (d*s) (f z)=(l.set d z).flatMap f
 | [],d,h=>by simp at h
 |a::l,0,_=>by
  unfold over
  rw[List.flatMap_cons,Nat.zero_mul,List.take_zero,hf,List.set_cons_zero,List.flatMap_cons,List.nil_append,Nat.zero_add]
  congr 1
  rw[←hf a,List.drop_left]
 |a::l,d+1,h=>by
  have ih:=over_flat f s hf z l d (by simpa using h)
  unfold over at*
  have e:(d+1)*s=(f a).length+d*s:=by rw[hf,Nat.succ_mul];omega
  rw[List.flatMap_cons,List.set_cons_succ,List.flatMap_cons,←ih,e,List.take_length_add_append,Nat.add_assoc,List.drop_length_add_append,List.append_assoc]
theorem over_ents (l:List Ent) (d:Nat) (z:Ent) (h:d<l.length):over (entsP l) (d*3) (entP z)=entsP (l.set d z):=over_flat entP 3 (fun _=>rfl) z l d h
noncomputable def midL (T:Topo) (D:List Bool) (n N j:Nat):List Ent:=(List.range N).map fun d=>if d<j then entX T D n (d:Int) else⟨nextL T D n d,false,[]⟩
theorem midL_len (T:Topo) (D:List Bool) (n N j:Nat):(midL T D n N j).length=N:=by simp[midL]
theorem midL_zero (T:Topo) (D:List Bool) (n N:Nat):midL T D n N 0=toL T D n N:=by unfold midL toL;simp
theorem midL_all (T:Topo) (D:List Bool) (n N:Nat):midL T D n N N=trnL T D n N:=by
 unfold midL trnL
 refine List.map_congr_left fun d hd=>?_
 rw[if_pos (List.mem_range.1 hd)]
theorem midL_get {T:Topo} {D:List Bool} {n N j i:Nat} (h:i<(midL T D n N j).length):(midL T D n N j)[i]=if i<j then entX T D n (i:Int) else⟨nextL T D n i,false,[]⟩:=by simp[midL]
theorem midL_step (T:Topo) (D:List Bool) (n N j:Nat):(midL T D n N j).set j (entX T D n (j:Int))=midL T D n N (j+1):=by
 apply List.ext_getElem (by simp[midL])
 intro i h1 h2
 rw[List.getElem_set,midL_get,midL_get]
 by_cases e:j=i
 ·subst e;rw[if_pos rfl,if_pos (by omega)]
 ·rw[if_neg e]
  by_cases h:i<j
  ·rw[if_pos h,if_pos (by omega)]
  ·rw[if_neg h,if_neg (by omega)]
def trnSt (T:Topo) (D:List Bool) (n:Nat) (l:List Ent):Sto:=[some (.cells 56 [num 0,.raw (.slice none 0 0),.raw (.slice none 0 0)]),some (.row 76 3 T.nodes.toNat (entsP l)),some (.row 3 1 (downL D (outL T n)).length (intsP (downL D (outL T n)))),some (.cells 56 [num n,.own 1,.own 2])]
set_option maxRecDepth 10000 in
set_option maxHeartbeats 1000000 in
theorem trn1_can (T:Topo) (D:List Bool) (n:Nat) (hv:validB T=true) (hf:fitsB T D=true) (hn:(n:Int)<T.nodes) (h12:T.nodes≤12):CanS Tryz.prog 123 ([boolsV D,.agg [num n,.own 1,.own 2]]++[.pin (topoP T) 0,.pin [num n] 0]) (trnSt T D n (toL T D n T.nodes.toNat)) (fun _ σ'=>σ'=trnSt T D n (trnL T D n T.nodes.toNat)++[some (.cells 56 [num n,.own 1,.own 2])]):=by
 have hll:=links_le hv
 have hnb:nodeB T (n:Int)=true:=nodeB_iff.2 ⟨by omega,hn⟩
 obtain⟨N,hN⟩:∃N:Nat,T.nodes.toNat=N:=⟨_,rfl⟩
 have hNN:T.nodes=(N:Int):=by have:=(sound_of hv).nodes;omega
 unfold trnSt
 rw[hN,←midL_zero]
 obtain⟨dl,hdl⟩:∃dl,downL D (outL T n)=dl:=⟨_,rfl⟩
 rw[hdl]
 refine canS_of Tryz.func123 rfl Tryz.ntmps123 rfl ?_
 refine W_rs ?_
 refine WR_l (l_box rfl rfl rfl) rfl<|WR_k [0,2,3,5] rfl ?_
 refine W_cs (.a 4 rfl<|.k [0,2,3,5,9,10] rfl) ?_
 refine W_block ?_
 refine W_k [0,2,3,5,9,10] rfl ?_
 refine W_loop (fun r s=>∃j,j≤N∧r=N - j∧s=⟨[(0,boolsV D),(2,.pin (topoP T) 0),(3,.pin [num n] 0),(5,.ptr 4 0),(9,num N),(10,num j)],[some (.cells 56 [num 0,.raw (.slice none 0 0),.raw (.slice none 0 0)]),some (.row 76 3 N (entsP (midL T D n N j))),some (.row 3 1 dl.length (intsP dl)),some (.cells 56 [num n,.own 1,.own 2]),some (.cells 56 [num n,.own 1,.own 2])]⟩) N ⟨0,by omega,by omega,rfl⟩ ?_
 rintro r s ⟨j,hj,rfl,rfl⟩
 refine W_cs (.a 1 rfl<|.k [0,2,3,5,9,10,11] rfl) ?_
 refine W_seq ?_
 refine W_cond rfl (fun h1=>?_) (fun h1=>?_)
 ·have hlt:j<N:=by have:=tt h1;omega
  have hre:=pent_can T D n j hll h12
  rw[entE_zero hv hf hnb (nodeB_iff.2 ⟨by omega,by omega⟩)]at hre
  have hml:=midL_len T D n N j
  have hel:(entsP (midL T D n N j)).length=N*3:=by have:=flat_len entP 3 (fun _=>rfl) (midL T D n N j);rw[hml]at this;exact this
  refine W_skip ?_
  refine W_seq ?_
  refine W_block ?_
  refine W_cs (.a 2 rfl<|.k [0,2,3,5,6,9,10] rfl) ?_
  refine W_drawFlt 12 20 mixed (
   .val [5] rfl (y_a rfl) rfl rfl<|
   .val [14] rfl (y_a rfl) rfl rfl<|
   .val [6] rfl (y_a rfl) rfl rfl<|
   .val [2] rfl (y_a rfl) rfl rfl<|
   .val [0] rfl (y_a rfl) rfl rfl<|
   .val [3] rfl (y_a rfl) rfl rfl<|
   .val [6] rfl (y_a rfl) rfl rfl<|
   .val [17,18,19,20] rfl (y_c rfl (hre)) rfl rfl<|
   .val [21] rfl (y_a rfl) rfl rfl<|
   .val [13] rfl (y_a rfl) rfl rfl<|
   .late [13] rfl (r_extract rfl rfl rfl) inferInstance rfl rfl<|
   .val [15,16] rfl (y_ix ((j*3)) rfl) rfl rfl<|
   .nil) (by kernel_rfl) rfl rfl (keepT_sub (ks:=[0,2,3,5,9,10,22,24]) rfl) ?_
  refine WR_loud0 (l_store rfl (fok.tk.get rfl) rfl rfl rfl rfl rfl (show j*3+3≤(entsP (midL T D n N j)).length by omega)) rfl rfl<|WR_k [0,2,3,5,9,10] rfl ?_
  refine W_sto (σ':=[some (.cells 56 [num 0,.raw (.slice none 0 0),.raw (.slice none 0 0)]),some (.row 76 3 N (entsP (midL T D n N (j+1)))),some (.row 3 1 dl.length (intsP dl)),some (.cells 56 [num n,.own 1,.own 2]),some (.cells 56 [num n,.own 1,.own 2])]) (by rw[←midL_step,←over_ents _ _ _ (by omega)];rfl) ?_
  refine W_chain (.v (y_ar rfl) rfl<|.a 1 rfl<|.k [0,2,3,5,9,10] rfl) ?_
  exact⟨N - (j+1),by omega,j+1,by omega,rfl,rfl⟩
 ·have hje:j=N:=by have:=ff h1;omega
  subst hje
  refine W_exit ?_
  refine⟨_,ResL.of rfl,?_⟩
  rw[midL_all]
  rfl
theorem routesF_can (T:Topo) (D:List Bool) (n:Nat) (c:Option Blk) (hch:chkE T D [(n:Int)]=0):CanS Tryz.prog 53 [topoV T,boolsV D,num n] [c] (fun r σ'=>r= .tuple [.agg [num n,.own 3,.own 4],num 0]∧σ'=[c,some (.cells 56 [num n,.own 3,.own 4]),some (.cells 56 [num n,.own 3,.own 4]),some (.row 76 3 T.nodes.toNat (entsP (toL T D n T.nodes.toNat))),some (.row 3 1 (downL D (outL T n)).length (intsP (downL D (outL T n))))]):=by
 refine CanS.frame (CanS.mono (routesS_can T D n hch) ?_)
 rintro r σ' ⟨rfl,rfl⟩
 refine⟨[.cells 56 [num n,.own 2,.own 3],.cells 56 [num n,.own 2,.own 3],.row 76 3 T.nodes.toNat (entsP (toL T D n T.nodes.toNat)),.row 3 1 (downL D (outL T n)).length (intsP (downL D (outL T n)))],rfl,.tuple [.agg [num n,.own 3,.own 4],num 0],[.cells 56 [num n,.own 3,.own 4],.cells 56 [num n,.own 3,.own 4],.row 76 3 T.nodes.toNat (entsP (toL T D n T.nodes.toNat)),.row 3 1 (downL D (outL T n)).length (intsP (downL D (outL T n)))],?_,?_,rfl,rfl⟩
 ·exact Up.tupleL (UpL.cons (Up.aggL (UpL.cons Up.pure<|UpL.cons (Up.own rfl)<|UpL.cons (Up.own rfl) UpL.nil)) (UpL.cons Up.pure UpL.nil))
 ·exact BUpL.cons (.cells (UpL.cons Up.pure<|UpL.cons (Up.own rfl)<|UpL.cons (Up.own rfl) UpL.nil))<|BUpL.cons (.cells (UpL.cons Up.pure<|UpL.cons (Up.own rfl)<|UpL.cons (Up.own rfl) UpL.nil))<|BUpL.cons (.row UpL.pure)<|BUpL.cons (.row UpL.pure) BUpL.nil
instance (e:Int) (x:Tab):IsPure (tabE e x):=by unfold tabE;infer_instance
def trnE (T:Topo) (k x n:Int):Int:=if maskE T k x=0 then(if nodeB T n then 0 else 2) else 1
theorem mask_zero {T:Topo} {k x:Int} (h:maskE T k x=0):(validB T&&compB T k x)=true:=by
 unfold maskE at h
 split at h
 ·assumption
 ·omega
set_option maxRecDepth 10000 in
set_option maxHeartbeats 1000000 in
theorem trn2_can (T:Topo) (D:List Bool) (n:Nat):CanS Tryz.prog 125 ([boolsV D,.agg [num n,.own 1,.own 2]]++[]) (trnSt T D n (toL T D n T.nodes.toNat)) (fun _ σ'=>σ'=trnSt T D n (toL T D n T.nodes.toNat)++[some (.cells 56 [num n,.own 1,.own 2])]):=by
 unfold trnSt
 refine canS_of Tryz.func125 rfl Tryz.ntmps125 rfl ?_
 refine W_region ?_
 refine WR_l (l_box rfl rfl rfl) rfl<|WR_k [] rfl ?_
 exact⟨_,ResL.of rfl,rfl⟩
theorem mask_one {T:Topo} {k x:Int} (h:maskE T k x≠0):maskE T k x=1:=by
 unfold maskE at*
 split
 ·rename_i h';rw[if_pos h']at h;exact absurd rfl h
 ·rfl
set_option maxRecDepth 10000 in
set_option maxHeartbeats 1000000 in
theorem afterX_can (T:Topo) (k x n:Int) (f:FuncId) (cap:List PV) [IsPureL cap] (he:trnE T k x n≠0):
  Can Tryz.prog 122 [topoV T,compV k x,num n,.func f cap] (· =tabE (trnE T k x n) ⟨0,[],[]⟩):=by
 have hmk:=mask_can T k x
 have hmf:=mask_fits T k x
 unfold boolsE at hmk
 have hrt:=routes_can T (maskL T k x) n
 refine can_of Tryz.func122 rfl Tryz.ntmps122 rfl ?_
 refine W_rs ?_
 refine WR_a 4 rfl<|WR_k [2,3,4,5,8] rfl ?_
 refine W_cs (.a 2 rfl<|.c rfl (hmk) rfl<|.a 5 rfl<|.k [2,3,4,8,10,11] rfl) ?_
 refine W_seq ?_
 refine W_cs (.a 2 rfl<|.k [2,3,4,8,10,11,20] rfl) ?_
 refine W_cond rfl (fun h1=>?_) (fun h1=>?_)
 ·have h1:=tt h1
  have he2:trnE T k x n=maskE T k x:=by
   unfold trnE
   rw[if_neg h1,mask_one h1]
  rw[he2]
  refine W_rs ?_
  refine WR_a 4 rfl<|WR_k [8,9] rfl ?_
  refine W_ret ?_
  exact⟨_,_,ResL.of rfl,Pur.tupleL (PurL.cons (Pur.aggL (PurL.cons Pur.pure<|PurL.cons Pur.nils<|PurL.cons Pur.nils PurL.nil)) (PurL.cons Pur.pure PurL.nil)),by unfold tabE;rw[if_neg h1];rfl⟩
 ·have h1:maskE T k x=0:=Classical.byContradiction (ff h1)
  obtain⟨hv,hc⟩:=Bool.and_eq_true_iff.1 (mask_zero h1)
  rw[if_pos h1]
  have hn:nodeB T n=false:=by
   cases hn:nodeB T n with
   |false=>rfl
   |true=>exact absurd (show trnE T k x n=0 by unfold trnE;rw[if_pos h1,hn];rfl) he
  have hch:chkE T (maskL T k x) [n]=2:=by unfold chkE;rw[hv,hmf];simp[hn]
  have hr0:routesE T (maskL T k x) n=⟨0,[],[]⟩:=by unfold routesE;rw[if_neg (by rw[hch];decide)]
  rw[hch,hr0]at hrt
  have he:trnE T k x n=2:=by unfold trnE;rw[if_pos h1,hn];rfl
  rw[he]
  refine W_skip ?_
  refine W_rs ?_
  refine WR_a 3 rfl<|WR_c rfl (hrt) rfl<|WR_a 6 rfl<|WR_k [3,8,10,11,12] rfl ?_
  refine W_seq ?_
  refine W_cs (.a 2 rfl<|.k [3,8,10,11,12,31] rfl) ?_
  refine W_cond rfl (fun h2=>?_) (fun h2=>?_)
  ·skip
   refine W_rs ?_
   refine WR_a 4 rfl<|WR_k [8,9] rfl ?_
   refine W_ret ?_
   exact⟨_,_,ResL.of rfl,Pur.tupleL (PurL.cons (Pur.aggL (PurL.cons Pur.pure<|PurL.cons Pur.nils<|PurL.cons Pur.nils PurL.nil)) (PurL.cons Pur.pure PurL.nil)),rfl⟩
  ·exact absurd h2 (by decide)
set_option maxRecDepth 10000 in
set_option maxHeartbeats 1000000 in
theorem after_can (T:Topo) (k x:Int) (n:Nat) (f:FuncId) (cap:List PV) [IsPureL cap] (L:List Ent) (hen:enters Tryz.prog f=true) (hv:(validB T&&compB T k x)=true) (hn:(n:Int)<T.nodes) (hl:L.length=T.nodes.toNat)
  (hf:CanS Tryz.prog f ([boolsV (maskL T k x),.agg [num n,.own 1,.own 2]]++cap) (trnSt T (maskL T k x) n (toL T (maskL T k x) n T.nodes.toNat)) (fun _ σ'=>σ'=trnSt T (maskL T k x) n L++[some (.cells 56 [num n,.own 1,.own 2])])):
  Can Tryz.prog 122 [topoV T,compV k x,num n,.func f cap] (· =tabE 0 ⟨n,L,downL (maskL T k x) (outL T n)⟩):=by
 have hmk:=mask_can T k x
 have hmf:=mask_fits T k x
 have hm0:maskE T k x=0:=by unfold maskE;rw[if_pos hv]
 unfold boolsE at hmk
 rw[hm0,if_pos rfl]at hmk
 obtain⟨M,hM⟩:∃M,maskL T k x=M:=⟨_,rfl⟩
 rw[hM]at hmk hmf hf ⊢
 obtain⟨hv,hc⟩:=Bool.and_eq_true_iff.1 hv
 have hch:chkE T M [(n:Int)]=0:=by unfold chkE;rw[hv,hmf];simp[nodeB_iff.2 (show 0≤(n:Int)∧(n:Int)<T.nodes by omega)]
 have hrt:=fun c=>routesF_can T M n c hch
 refine can_of Tryz.func122 rfl Tryz.ntmps122 rfl ?_
 refine W_rs ?_
 refine WR_a 4 rfl<|WR_k [2,3,4,5,8] rfl ?_
 refine W_cs (.a 2 rfl<|.c rfl (hmk) rfl<|.a 5 rfl<|.k [2,3,4,8,10,11] rfl) ?_
 refine W_seq ?_
 refine W_cs (.a 2 rfl<|.k [2,3,4,8,10,11,20] rfl) ?_
 refine W_cond rfl (fun h1=>?_) (fun h1=>?_)
 ·exact absurd h1 (by decide)
 ·skip
  refine W_skip ?_
  refine W_rs ?_
  refine WR_a 3 rfl<|WR_cS rfl rfl (CanS.mono (hrt _) (fun r σ' h=>?_))
  obtain⟨rfl,rfl⟩:=h
  refine WR_a 6 rfl<|WR_k [3,8,10,11,12] rfl ?_
  refine W_seq ?_
  refine W_cs (.a 2 rfl<|.k [3,8,10,11,12,31] rfl) ?_
  refine W_cond rfl (fun h2=>?_) (fun h2=>?_)
  ·exact absurd h2 (by decide)
  ·skip
   refine W_skip ?_
   refine W_ren [0,3,4,5] (.c 3<|.c 8<|.c 10<|.c 12<|.nil) (.kept rfl (.cells (RenL.c<|RenL.c<|RenL.c<|RenL.nil))<|.kept rfl (.row RenL.pure)<|.kept rfl (.row RenL.pure)<|.kept rfl (.cells (RenL.c<|RenL.c<|RenL.c<|RenL.nil))<|.nil) rfl rfl ?_
   refine W_rs ?_
   refine WR_a 3 rfl<|WR_callS rfl hen rfl rfl rfl rfl rfl (CanS.mono hf (fun r σ' h=>?_))
   obtain rfl:=h
   refine WR_k [8,12] rfl ?_
   refine W_rs ?_
   refine WR_a 3 rfl<|WR_k [8,9] rfl ?_
   refine W_ret ?_
   refine⟨_,_,ResL.of rfl,Pur.tupleL (PurL.cons (Pur.aggL (PurL.cons Pur.pure<|PurL.cons (Pur.ownL rfl PurL.pure)<|PurL.cons (Pur.ownL rfl PurL.pure) PurL.nil)) (PurL.cons Pur.pure PurL.nil)),?_⟩
   unfold tabE tabV tabP entsV intsV
   rw[if_pos rfl,hl]
theorem trnE_zero {T:Topo} {k x n:Int} (h:trnE T k x n=0):(validB T&&compB T k x)=true∧nodeB T n=true:=by
 unfold trnE at h
 split at h
 ·rename_i h1
  refine⟨mask_zero h1,?_⟩
  split at h
  ·assumption
  ·omega
 ·omega
set_option maxRecDepth 10000 in
set_option maxHeartbeats 1000000 in
theorem ttab_can (T:Topo) (k x n:Int) (h12:T.nodes≤12):Can Tryz.prog 70 [topoV T,compV k x,num n] (· =tabE (trnE T k x n) (trnT T (maskL T k x) n.toNat)):=by
 have key:Can Tryz.prog 122 [topoV T,compV k x,num n,.func 123 [.pin (topoP T) 0,.pin [num n] 0]] (· =tabE (trnE T k x n) (trnT T (maskL T k x) n.toNat)):=by
  by_cases he:trnE T k x n=0
  ·obtain⟨hm,hn⟩:=trnE_zero he
   obtain⟨hv,hc⟩:=Bool.and_eq_true_iff.1 hm
   rw[nodeB_iff]at hn
   obtain⟨m,rfl⟩:=Int.eq_ofNat_of_zero_le hn.1
   rw[he]
   exact after_can T k x m _ _ _ (by kernel_rfl) hm hn.2 (trnL_len _ _ _ _) (trn1_can T (maskL T k x) m hv (mask_fits T k x) hn.2 h12)
  ·have h:=afterX_can T k x n 123 [.pin (topoP T) 0,.pin [num n] 0] he
   unfold tabE at h ⊢
   rw[if_neg he]at h ⊢
   exact h
 refine can_of Tryz.func70 rfl Tryz.ntmps70 rfl ?_
 refine W_rs ?_
 refine WR_a 5 rfl<|WR_k [3,4,5,6] rfl ?_
 refine W_rs ?_
 refine WR_a 4 rfl<|WR_c rfl (key) rfl<|WR_a 4 rfl<|WR_k [6,7] rfl ?_
 refine W_ret ?_
 exact⟨_,_,ResL.of rfl,Pur.pure (p:=tabE (trnE T k x n) (trnT T (maskL T k x) n.toNat)),rfl⟩
set_option maxRecDepth 10000 in
set_option maxHeartbeats 1000000 in
theorem tfin_can (T:Topo) (k x n:Int):Can Tryz.prog 72 [topoV T,compV k x,num n] (· =tabE (trnE T k x n) (routesT T (maskL T k x) n.toNat)):=by
 have key:Can Tryz.prog 122 [topoV T,compV k x,num n,.func 125 []] (· =tabE (trnE T k x n) (routesT T (maskL T k x) n.toNat)):=by
  by_cases he:trnE T k x n=0
  ·obtain⟨hm,hn⟩:=trnE_zero he
   obtain⟨hv,hc⟩:=Bool.and_eq_true_iff.1 hm
   rw[nodeB_iff]at hn
   obtain⟨m,rfl⟩:=Int.eq_ofNat_of_zero_le hn.1
   rw[he]
   exact after_can T k x m _ _ _ (by kernel_rfl) hm hn.2 (toL_len _ _ _ _) (trn2_can T (maskL T k x) m)
  ·have h:=afterX_can T k x n 125 [] he
   unfold tabE at h ⊢
   rw[if_neg he]at h ⊢
   exact h
 refine can_of Tryz.func72 rfl Tryz.ntmps72 rfl ?_
 refine W_rs ?_
 refine WR_a 4 rfl<|WR_k [2,3,4,6] rfl ?_
 refine W_rs ?_
 refine WR_a 3 rfl<|WR_c rfl (key) rfl<|WR_a 4 rfl<|WR_k [6,7] rfl ?_
 refine W_ret ?_
 exact⟨_,_,ResL.of rfl,Pur.pure (p:=tabE (trnE T k x n) (routesT T (maskL T k x) n.toNat)),rfl⟩
theorem routesE_tab (T:Topo) (D:List Bool) (n:Int):PV.tuple [tabV (routesE T D n),num (chkE T D [n])]=tabE (chkE T D [n]) (routesT T D n.toNat):=by
 unfold tabE routesE;rfl
set_option maxRecDepth 10000 in
set_option maxHeartbeats 1000000 in
theorem told_can (T:Topo) (n:Int):Can Tryz.prog 67 [topoV T,num n] (· =tabE (chkE T [] [n]) (routesT T [] n.toNat)):=by
 refine can_of Tryz.func67 rfl Tryz.ntmps67 rfl ?_
 refine W_rs ?_
 refine WR_a 3 rfl<|WR_k [1,2,4] rfl ?_
 have hr:=routes_can T [] n
 rw[routesE_tab]at hr
 refine W_rs ?_
 refine WR_a 2 rfl<|WR_v (y_cP rfl (PurL.cons Pur.pure<|PurL.cons Pur.nils<|PurL.cons Pur.pure PurL.nil) (hr)) rfl<|WR_a 4 rfl<|WR_k [4,5] rfl ?_
 refine W_ret ?_
 exact⟨_,_,ResL.of rfl,Pur.pure (p:=tabE (chkE T [] [n]) (routesT T [] n.toNat)),rfl⟩
end PW
end Go.Proofs.YtnegbdpggideiaaGreatDoor
