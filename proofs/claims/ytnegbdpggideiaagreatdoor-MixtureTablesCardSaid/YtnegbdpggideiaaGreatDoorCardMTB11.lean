/- Texts of the proof, part 11. -/
import Derived.Test.YtnegbdpggideiaaGreatDoorCardMTB10
set_option linter.unusedVariables false
set_option linter.unusedSimpArgs false
set_option maxRecDepth 10000
set_option maxHeartbeats 1000000
namespace Go.Proofs.YtnegbdpggideiaaGreatDoor
namespace PW
open Go.RowKit cH Mem Net ft
theorem u7(T:an)(D:List Bool)(n:Int)(hch0:ca T D [n]=0):bV Tryz.prog 53 [aJ T,aM D,num n] [] (fun r σ'=>r= .tuple [.agg [num n,.own 2,.own 3],num 0]∧σ'=[some (.cells 56 [num n,.own 2,.own 3]),some (.cells 56 [num n,.own 2,.own 3]),some (.row 76 3 T.nodes.toNat (cV (mU T D n.toNat T.nodes.toNat))),some (.row 3 1 (cj D (bC T n)).length (aN (cj D (bC T n))))]):=by
 refine ct Tryz.func53 rfl Tryz.ntmps53 rfl<|aH<|aq 3 rfl<|aD [1,2,3,6] rfl ?_
 refine aj ?_
 obtain⟨q1,hq1⟩:∃q,av T=q:=⟨_,rfl⟩
 obtain⟨q2,hq2⟩:∃q,bL T D=q:=⟨_,rfl⟩
 refine bx 22 (.raw (.bool ((!q1)||(!q2)))) [1,2,3,6] rfl ?_ ?_
 ·refine .a 1 rfl<|.c rfl (hq1▸er T) rfl<|.a 2 rfl<|?_
  cases q1
  ·exact .a 5 rfl<|.k [22,1,2,3,6] rfl
  ·exact .a 2 rfl<|.c rfl (hq2▸lJ T D (by have:=bJ hq1;omega)) rfl<|.a 2 rfl<|.k [22,1,2,3,6] rfl
 refine af rfl (fun hc=>?_) (fun hc=>?_)
 ·have hch:ca T D [n]=1:=by
   unfold ca
   rw[hq1,hq2,if_neg]
   revert hc
   cases q1<;>cases q2<;>simp
  exact absurd hch0 (by rw[hch];decide)
 ·have hok:(av T&&bL T D)=true:=by
   rw[hq1,hq2]
   revert hc
   cases q1<;>cases q2<;>simp
  clear hc hq1 hq2
  refine ak<|aj<|ab (.a 2 rfl<|.c rfl (dv T n) rfl<|.a 1 rfl<|.k [1,2,3,6,27] rfl)<|af rfl (fun hc=>?_) (fun hc=>?_)
  ·have hn:aV T n=false:=by revert hc;cases aV T n<;>simp
   have hch:ca T D [n]=2:=by
    unfold ca
    rw[if_pos hok,if_neg]
    simp[hn]
   exact absurd hch0 (by rw[hch];decide)
  ·have hn:aV T n=true:=by revert hc;cases aV T n<;>simp
   have hch:ca T D [n]=0:=by
    unfold ca
    rw[if_pos hok,if_pos]
    simp[hn]
   obtain⟨hv,hf⟩:=Bool.and_eq_true_iff.1 hok
   rw[aO]at hn
   obtain⟨m,rfl⟩:=Int.eq_ofNat_of_zero_le hn.1
   obtain⟨N,hN⟩:∃N:Nat,T.nodes=(N:Int):=⟨T.nodes.toNat,by omega⟩
   have hN64:N≤64:=by have:=(aQ hv).nodes;omega
   have hll:=bJ hv
   refine ak<|aH<|aq 4 rfl<|aD [1,2,3,6,8] rfl ?_
   refine bZ 1 1 76 3 rfl rfl ?_
   refine bZ 1 2 3 1 rfl rfl ?_
   refine aj<|ab (.a 1 rfl<|.v (aK rfl ((show some (num T.nodes)=some (num (N:Int)) by rw[hN]))) rfl<|.a 1 rfl<|.k [1,2,3,6,8,32,33] rfl)<|au<|ee [1,2,3,6,8,32,33] rfl<|bf (fun r s=>∃j,j≤N∧r=N - j∧s=⟨[(1,aM D),(2,num m),(3,.aX (bn T) 0),(6,.ptr 0 0),(8,.ptr 1 0),(32,num N),(33,num j)],[some (.cells 56 [num 0,.raw (.slice none 0 0),.raw (.slice none 0 0)]),some (.cells 56 [num m,.own 2,.own 3]),some (.row 76 3 j (cV (mU T D m j))),some (.row 3 1 0 [])]⟩) N ⟨0,by omega,by omega,rfl⟩ ?_
   rintro r s ⟨j,hj,rfl,rfl⟩
   refine ab (.a 1 rfl<|.k [1,2,3,6,8,32,33,34] rfl)<|aj<|af rfl (fun hc=>?_) (fun hc=>?_)
   ·have hlt:j<N:=by have:=of_decide_eq_true hc;omega
    have hne:bQ T D (m:Int) (j:Int)=0:=by
     have hnb:aV T (j:Int)=true:=aO.2 ⟨by omega,by omega⟩
     have hch':ca T D [(j:Int)]=0:=by
      unfold ca
      rw[if_pos hok,if_pos]
      simp[hnb]
     unfold bQ
     rw[if_pos hch',if_pos (aO.2 hn)]
    have hnx:Can Tryz.prog 109 [aJ T,aM D,num m,num j] (· = .tuple [aw (bm T D m j),num 0]):=by
     have h:=p6 T D (m:Int) (j:Int)
     rw[hne]at h
     exact h
    refine ak<|aj<|au<|ab (.a 2 rfl<|.k [1,2,3,6,8,9,32,33] rfl)<|ab (.a 4 rfl<|.c rfl (hnx) rfl<|.a 5 rfl<|.k [1,2,3,6,8,10,32,33] rfl)<|bq<|aq 3 rfl<|bA (pG (fG (xs:=[_,_,_]) rfl (bF.st.get rfl) rfl rfl) (ga.ew (.cons (ga.refl _)<|.cons (ga.refl _)<|.cons ga.bO .nil))) rfl<|aq 1 rfl<|cf (bu rfl (bF.rk.get rfl) rfl rfl rfl rfl (by unfold maxLen;omega)) rfl<|aq 2 rfl ?_
    refine de [0,1,4,3] (.c 1<|.c 2<|.c 3<|.c 6<|.c 8<|.c 32<|.c 33<|.nil) (.kept rfl (.cells (aC.c<|aC.c<|aC.c<|aC.nil))<|.kept rfl (.cells (aC.c<|aC.c<|aC.c<|aC.nil))<|.kept rfl (.ec rfl (show _=cV (mU T D m (j+1)) by rw[qv];exact gL _ ⟨bm T D m j,false,[]⟩))<|.kept rfl (.row aC.pure)<|.nil) rfl rfl (aU ?_)
    refine aB (.v (aP rfl) rfl<|.a 1 rfl<|.k [1,2,3,6,8,32,33] rfl) ?_
    exact⟨N - (j+1),by omega,j+1,by omega,rfl,rfl⟩
   ·have hje:j=N:=by have:=of_decide_eq_false hc;omega
    subst hje
    refine aY<|aj ?_
    have hol:(bC T m).length≤512:=Nat.le_trans (dB T m _) (by omega)
    refine ab (.a 2 rfl<|.c rfl (om T hll _) rfl<|.a 2 rfl<|.k [1,6,8,54,55,56] rfl)<|au<|ee [1,6,8,54,55,56] rfl<|bf (fun r s=>∃i,i≤(bC T m).length∧r=(bC T m).length - i∧s=⟨[(1,aM D),(6,.ptr 0 0),(8,.ptr 1 0),(54,aw (bC T m)),(55,num (bC T m).length),(56,num i)],[some (.cells 56 [num 0,.raw (.slice none 0 0),.raw (.slice none 0 0)]),some (.cells 56 [num m,.own 2,.own 3]),some (.row 76 3 j (cV (mU T D m j))),some (.row 3 1 (cj D ((bC T m).take i)).length (aN (cj D ((bC T m).take i))))]⟩) (bC T m).length ⟨0,by omega,by omega,rfl⟩ ?_
    rintro r s ⟨i,hi,rfl,rfl⟩
    refine ab (.a 1 rfl<|.k [1,6,8,54,55,56,57] rfl)<|aj<|af rfl (fun hc=>?_) (fun hc=>?_)
    ·have hlt:i<(bC T m).length:=by have:=of_decide_eq_true hc;omega
     obtain⟨h0,h1⟩:=jl (bR (d:=0) hlt)
     obtain⟨a,ha⟩:=Int.eq_ofNat_of_zero_le h0
     have hDl:D.length=0∨a<D.length:=by simp only[bL,decide_eq_true_eq]at hf;omega
     have hstep:cj D ((bC T m).take (i+1))=cj D ((bC T m).take i)++(if aW D a then [(a:Int)] else []):=by
      unfold cj
      rw[cX _ i 0 hlt,List.filter_append,ha]
      simp only[List.filter_cons,List.filter_nil,Int.toNat_natCast]
     have hdl:(cj D ((bC T m).take i)).length≤1000:=Nat.le_trans (List.length_filter_le _ _) (by rw[List.length_take];have:=dB T m (2*T.ag.length);unfold bC at*;omega)
     refine ak<|aj<|au<|ab (.v (aI (i) rfl) rfl<|.v (aK rfl ((ay _ i hlt).trans (by rw[ha]))) rfl<|.a 1 rfl<|.k [1,6,8,13,54,55,56] rfl)<|ab (.a 2 rfl<|.c rfl (iY D a hDl) rfl<|.k [1,6,8,13,54,55,56,62] rfl)<|af rfl (fun hcd=>?_) (fun hcd=>?_)
     ·rw[hcd,if_pos rfl]at hstep
      refine bq<|aq 4 rfl<|cf (bu rfl (bF.rk.get rfl) rfl rfl rfl rfl (by unfold maxLen;omega)) rfl<|aq 2 rfl ?_
      refine de [0,1,2,4] (.c 1<|.c 6<|.c 8<|.c 54<|.c 55<|.c 56<|.nil) (.kept rfl (.cells (aC.c<|aC.c<|aC.c<|aC.nil))<|.kept rfl (.cells (aC.c<|aC.c<|aC.c<|aC.nil))<|.kept rfl (.row aC.pure)<|.kept rfl (.ec rfl (cB _ _))<|.nil) rfl rfl (aU ?_)
      refine aB (.v (aP rfl) rfl<|.a 1 rfl<|.k [1,6,8,54,55,56] rfl) ?_
      refine⟨(bC T m).length - (i+1),by omega,i+1,by omega,rfl,?_⟩
      rw[hstep]
      first
       |rfl
       |(simp only[List.length_append,List.length_singleton];rfl)
     ·rw[hcd,if_neg (by simp),List.append_nil]at hstep
      refine ak<|aB (.v (aP rfl) rfl<|.a 1 rfl<|.k [1,6,8,54,55,56] rfl) ?_
      refine⟨(bC T m).length - (i+1),by omega,i+1,by omega,rfl,?_⟩
      rw[hstep]
      first
       |rfl
       |(simp only[List.length_append,List.length_singleton];rfl)
    ·have hie:i=(bC T m).length:=by have:=of_decide_eq_false hc;omega
     subst hie
     refine aY<|aH<|bA (dI (ys:=[num m,.own 2,.own 3]) rfl (bF.tk.get rfl) rfl rfl rfl rfl) rfl<|aq 2 rfl<|aD [6,7] rfl ?_
     refine ao<|⟨_,aA.of rfl,rfl,?_⟩
     have hjN:T.nodes.toNat=j:=by omega
     rw[List.take_length,Int.toNat_natCast,hjN]
     rfl
def fY(e:Int)(x:eD):PV:=.tuple [dx (if e=0 then x else⟨0,[],[]⟩),num e]
theorem jV{T:an}{D:List Bool}{n d:Int}(hv:av T=true)(hf:bL T D=true)(hn:aV T n=true)(hd:aV T d=true):bQ T D n d=0:=by
 unfold bQ ca
 rw[hv,hf,hn]
 simp[hd]
def jd(M:List Bool)(T:an)(n:Int)(k:Nat):List Int:=((List.range k).filter fun a=>aW M a&&decide (bw T a=n)).map Int.ofNat
def gE(T:an)(M:List Bool)(n:Int)(k:Nat):List Bool:=(List.range (2*T.ag.length)).map fun a=>decide (a<k)&&(aW M a&&decide (bw T a=n))
theorem EA(M:List Bool)(T:an)(n:Int):jd M T n (2*T.ag.length)=cj M (bC T n):=by
 unfold jd cj bC gv
 rw[List.filter_map,List.filter_filter]
 congr 1
theorem Er(M:List Bool)(T:an)(n:Int)(k:Nat):(jd M T n k).length≤k:=by
 unfold jd
 rw[List.length_map]
 exact Nat.le_trans (List.length_filter_le _ _) (by simp)
theorem Ej{M:List Bool}{T:an}{n:Int}{k:Nat}(h:(aW M k&&decide (bw T k=n))=true):jd M T n (k+1)=jd M T n k++[(k:Int)]:=by
 simp only[jd,List.range_succ,List.filter_append,List.map_append]
 rw[List.filter_cons_of_pos (by simpa using h)]
 rfl
theorem Hf{M:List Bool}{T:an}{n:Int}{k:Nat}(h:(aW M k&&decide (bw T k=n))=false):jd M T n (k+1)=jd M T n k:=by
 simp only[jd,List.range_succ,List.filter_append,List.map_append]
 rw[List.filter_cons_of_neg (by simpa using h)]
 simp
theorem Aq(T:an)(M:List Bool)(n:Int)(k:Nat):(gE T M n k).length=2*T.ag.length:=by simp[gE]
theorem xo(T:an)(M:List Bool)(n:Int):gE T M n 0=List.replicate (2*T.ag.length) false:=by
 unfold gE
 apply List.ext_getElem (by simp)
 intro i h1 h2
 simp
theorem Av{T:an}{M:List Bool}{n:Int}{k:Nat}(h:(aW M k&&decide (bw T k=n))=true):(gE T M n k).set k true=gE T M n (k+1):=by
 apply List.ext_getElem (by simp[gE])
 intro i h1 h2
 rw[List.getElem_set]
 by_cases e:k=i
 ·subst e
  simp only[gE,List.getElem_map,List.getElem_range,if_true]
  rw[h,decide_eq_true (by omega)];rfl
 ·rw[if_neg e]
  simp only[gE,List.getElem_map,List.getElem_range]
  rw[show decide (i<k+1)=decide (i<k) from decide_eq_decide.2 (by omega)]
theorem Dd{T:an}{M:List Bool}{n:Int}{k:Nat}(h:(aW M k&&decide (bw T k=n))=false):gE T M n (k+1)=gE T M n k:=by
 unfold gE
 refine List.map_congr_left fun a _=>?_
 by_cases e:a=k
 ·subst e;rw[h];simp
 ·rw[show decide (a<k+1)=decide (a<k) from decide_eq_decide.2 (by omega)]
theorem Ab(T:an)(M:List Bool)(n:Int):gE T M n (2*T.ag.length)=jx T M n:=by
 unfold gE jx
 refine List.map_congr_left fun a ha=>?_
 rw[decide_eq_true (List.mem_range.1 ha),Bool.true_and]
theorem gN{M:List Bool}{a:Nat}:M.getD a false=aW M a:=by
 unfold aW
 by_cases h:M.length=0
 ·have:M=[]:=List.eq_nil_of_length_eq_zero h
  subst this;simp
 ·first
   |rfl
   |simp[h]
theorem oX(T:an)(k x n:Int)(hm:(av T&&cc T k x)=true):Can Tryz.prog 95 [aJ T,bY k x,num n] (· = .tuple [aw (cj (bz T k x) (bC T n)),aM (jx T (bz T k x) n)]):=by
 obtain⟨hv,hc⟩:=Bool.and_eq_true_iff.1 hm
 have hll:=bJ hv
 have hmk:=mb T k x
 unfold gI cQ at hmk
 rw[if_pos hm,if_pos rfl]at hmk
 obtain⟨M,hM⟩:∃M,bz T k x=M:=⟨_,rfl⟩
 have hMl:M.length=2*T.ag.length:=by rw[←hM];exact gS T k x
 rw[hM]at hmk ⊢
 refine aF Tryz.func95 rfl Tryz.ntmps95 rfl<|ab (.a 4 rfl<|.k [2,3,4] rfl)<|ab (.a 2 rfl<|.c rfl (hmk) rfl<|.a 5 rfl<|.k [2,3,8] rfl)<|aH<|aq 2 rfl<|cf (cF rfl (bF.rk.get rfl) rfl rfl (show(M.length:Int)=((2*T.ag.length:Nat):Int) by omega) (show(M.length:Int)=((2*T.ag.length:Nat):Int) by omega) ⟨by unfold maxLen;omega,by omega⟩) rfl<|aq 1 rfl<|aD [2,3,8,10] rfl ?_
 refine ab (.a 1 rfl<|.k [2,3,8,10,11] rfl)<|eo 11 3 1 rfl ?_
 refine ei (σ':=[some (.row 4 1 (2*T.ag.length) (bS (gE T M n 0))),some (.row 3 1 0 [])]) (by rw[xo,←gZ];rfl) ?_
 refine aj<|ab (.a 1 rfl<|.k [2,3,8,10,11,12] rfl)<|au<|ee [2,3,8,10,11,12] rfl<|bf (fun r st=>∃a:Nat,a≤2*T.ag.length∧r=2*T.ag.length - a∧st=⟨[(2,num n),(3,.aX (bn T) 0),(8,aM M),(10,.own 0),(11,.own 1),(12,num a)],[some (.row 4 1 (2*T.ag.length) (bS (gE T M n a))),some (.row 3 1 (jd M T n a).length (aN (jd M T n a)))]⟩) (2*T.ag.length) ⟨0,by omega,by omega,rfl⟩ ?_
 rintro r st ⟨a,ha,rfl,rfl⟩
 refine aj<|ab (.a 4 rfl<|.k [2,3,8,10,11,12,25] rfl)<|af rfl (fun h1=>?_) (fun h1=>?_)
 ·have hlt:a<2*T.ag.length:=by have:=tt h1;omega
  have hal:(gE T M n a).length=2*T.ag.length:=Aq T M n a
  have hdl:(jd M T n a).length≤512:=Nat.le_trans (Er M T n a) (by omega)
  refine ak<|aj<|au ?_
  obtain⟨c1,hc1⟩:∃q,aW M a=q:=⟨_,rfl⟩
  obtain⟨c2,hc2⟩:∃q,decide (bw T a=n)=q:=⟨_,rfl⟩
  refine bx 38 (.raw (.bool (c1&&c2))) [2,3,8,10,11,12] rfl ?_ ?_
  ·refine .a 2 rfl<|.v (aI (a) rfl) rfl<|.v (aK rfl (show _=some (flag c1) by rw[cG _ a (by omega),gN,hc1])) rfl<|.a 1 rfl<|?_
   cases c1
   ·exact .a 6 rfl<|.k [38,2,3,8,10,11,12] rfl
   ·exact .a 2 rfl<|.c rfl (eJ T hv a hlt) rfl<|.a 1 rfl<|.v (b7 rfl (hc2)) rfl<|.a 1 rfl<|.k [38,2,3,8,10,11,12] rfl
  refine af rfl (fun h2=>?_) (fun h2=>?_)
  ·have h2:(aW M a&&decide (bw T a=n))=true:=by rw[hc1,hc2];exact h2
   have hs1:=Ej h2
   have hs2:=Av h2
   refine aH<|aq 3 rfl<|cf (bu rfl (bF.rk.get rfl) rfl rfl rfl rfl (by unfold maxLen;omega)) rfl<|aq 1 rfl ?_
   refine de [0,2] (.c 2<|.c 3<|.c 8<|.c 10<|.c 11<|.c 12<|.nil) (.kept rfl (.row aC.pure)<|.kept rfl (.ec rfl (cB _ _))<|.nil) rfl rfl (aU ?_)
   refine bq<|aq 2 rfl<|bA (aI (a) rfl) rfl<|bh ((by first|exact bH rfl (bF.tk.get rfl) rfl rfl rfl (by first|omega|(simp;omega))|exact aS rfl (bF.tk.get rfl) rfl rfl rfl (by first|omega|(simp;omega)))) rfl rfl<|aD [2,3,8,10,11,12] rfl ?_
   refine ei (σ':=[some (.row 4 1 (2*T.ag.length) (bS (gE T M n (a+1)))),some (.row 3 1 (jd M T n (a+1)).length (aN (jd M T n (a+1))))]) (by rw[←hs2,hs1,List.length_append];rfl) ?_
   refine aB (.a 1 rfl<|.v (aP rfl) rfl<|.a 1 rfl<|.k [2,3,8,10,11,12] rfl) ?_
   first
    |exact⟨2*T.ag.length - (a+1),by omega,a+1,by omega,rfl,rfl⟩
    |exact⟨2*T.ag.length - (a+1),by omega,a+1,by omega,rfl,by rw[hs1,hs2];rfl⟩
  ·have h2:(aW M a&&decide (bw T a=n))=false:=by rw[hc1,hc2];exact h2
   have hs1:=Hf h2
   have hs2:=Dd h2
   refine ak<|aB (.a 1 rfl<|.v (aP rfl) rfl<|.a 1 rfl<|.k [2,3,8,10,11,12] rfl) ?_
   first
    |exact⟨2*T.ag.length - (a+1),by omega,a+1,by omega,rfl,rfl⟩
    |exact⟨2*T.ag.length - (a+1),by omega,a+1,by omega,rfl,by rw[hs1,hs2];rfl⟩
 ·have hae:a=2*T.ag.length:=by have:=ff h1;omega
  subst hae
  refine aY<|ab (.a 4 rfl<|.k [6,7] rfl)<|ao<|⟨_,_,aA.of rfl,ax.ba (ai.cons (ax.dX rfl ai.pure) (ai.cons (ax.dX rfl ai.pure) ai.nil)),?_⟩
  rw[EA,Ab]
  unfold aw aM
  rw[show(jx T M n).length=2*T.ag.length by simp[jx]]
theorem CQ(T:an)(k x n:Int)(h12:T.nodes≤12):Can Tryz.prog 130 [aJ T,bY k x,num n] (· =fY (if cQ T k x=0 then(if aV T n then 0 else 2) else 1) (tK T (bz T k x) n.toNat)):=by
 obtain⟨q0,hq0⟩:∃q,(av T&&cc T k x)=q:=⟨_,rfl⟩
 refine aF Tryz.func130 rfl Tryz.ntmps130 rfl<|aH<|aq 4 rfl<|aD [2,3,4,6] rfl ?_
 refine aj<|ab (.a 2 rfl<|.c rfl (hq0▸gz T k x) rfl<|.a 1 rfl<|.k [2,3,4,6,19] rfl)<|af rfl (fun h1=>?_) (fun h1=>?_)
 ·have h1:q0=false:=by simpa using h1
  have he:cQ T k x=1:=by unfold cQ;rw[hq0,h1];rfl
  rw[he]
  refine aH<|aq 3 rfl<|aD [6,7] rfl ?_
  exact ao<|⟨_,_,aA.of rfl,ax.ba (ai.cons (ax.ew (ai.cons ax.pure<|ai.cons ax.bO<|ai.cons ax.bO ai.nil)) (ai.cons ax.pure ai.nil)),rfl⟩
 ·have h1:q0=true:=by simpa using h1
  subst h1
  have he:cQ T k x=0:=by unfold cQ;rw[if_pos hq0]
  rw[he,if_pos rfl]
  obtain⟨hv,hc⟩:=Bool.and_eq_true_iff.1 hq0
  have hll:=bJ hv
  refine ak<|aj ?_
  obtain⟨q1,hq1⟩:∃q,decide (n<0)=q:=⟨_,rfl⟩
  obtain⟨q2,hq2⟩:∃q,decide (T.nodes≤n)=q:=⟨_,rfl⟩
  have hnb:aV T n= !(q1||q2):=by rw[←hq1,←hq2];unfold aV;by_cases h1:n<0<;>by_cases h2:T.nodes≤n<;>simp[h1,h2]<;>omega
  refine bx 28 (.raw (.bool (q1||q2))) [2,3,4,6] rfl ?_ ?_
  ·refine .a 1 rfl<|.v (b7 rfl (hq1)) rfl<|.a 1 rfl<|?_
   cases q1
   ·exact .a 3 rfl<|.v (b7 rfl (hq2)) rfl<|.a 1 rfl<|.k [28,2,3,4,6] rfl
   ·exact .a 5 rfl<|.k [28,2,3,4,6] rfl
  refine af rfl (fun h2=>?_) (fun h2=>?_)
  ·have hn:aV T n=false:=by rw[hnb,h2];rfl
   rw[hn]
   refine aH<|aq 3 rfl<|aD [6,7] rfl ?_
   exact ao<|⟨_,_,aA.of rfl,ax.ba (ai.cons (ax.ew (ai.cons ax.pure<|ai.cons ax.bO<|ai.cons ax.bO ai.nil)) (ai.cons ax.pure ai.nil)),rfl⟩
  ·have hn:aV T n=true:=by rw[hnb,h2];rfl
   rw[hn,if_pos rfl]
   have hnb':=hn
   rw[aO]at hn
   obtain⟨m,rfl⟩:=Int.eq_ofNat_of_zero_le hn.1
   rw[Int.toNat_natCast]
   obtain⟨N,hN⟩:∃N:Nat,T.nodes=(N:Int):=⟨T.nodes.toNat,by omega⟩
   have hmk:=mb T k x
   unfold gI at hmk
   rw[he,if_pos rfl]at hmk
   have hdw:=oX T k x m hq0
   have hmf:=fX T k x
   obtain⟨M,hM⟩:∃M,bz T k x=M:=⟨_,rfl⟩
   rw[hM]at hmk hdw hmf ⊢
   refine ak<|ab (.a 2 rfl<|.c rfl (hmk) rfl<|.a 5 rfl<|.k [2,3,4,6,8] rfl)<|ab (.a 3 rfl<|.c rfl (hdw) rfl<|.a 5 rfl<|.k [2,3,6,8,10] rfl)<|aH<|aq 2 rfl<|bA (pG (fG (xs:=[_,_,_]) rfl (bF.st.get rfl) rfl rfl) (ga.refl _)) rfl<|aq 2 rfl<|aD [2,3,6,8,12] rfl ?_
   refine bZ 1 1 76 3 rfl rfl ?_
   refine aj<|ab (.a 1 rfl<|.k [2,3,6,8,12,13] rfl)<|au<|ee [2,3,6,8,12,13] rfl<|bf (fun r s=>∃j,j≤N∧r=N - j∧s=⟨[(2,num m),(3,.aX (bn T) 0),(6,.ptr 0 0),(8,aM M),(12,.ptr 1 0),(13,num j)],[some (.cells 56 [num 0,.raw (.slice none 0 0),.raw (.slice none 0 0)]),some (.cells 56 [num m,.own 2,aw (cj M (bC T m))]),some (.row 76 3 j (cV (np T M m j)))]⟩) N ⟨0,by omega,by omega,rfl⟩ ?_
   rintro r s ⟨j,hj,rfl,rfl⟩
   refine aj<|ab (.a 2 rfl<|.v (aK rfl ((show some (num T.nodes)=some (num (N:Int)) by rw[hN]))) rfl<|.a 1 rfl<|.k [2,3,6,8,12,13,49] rfl)<|af rfl (fun h3=>?_) (fun h3=>?_)
   ·have hlt:j<N:=by have:=tt h3;omega
    have hre:=qt T M m j h12
    rw[jV hv hmf hnb' (aO.2 ⟨by omega,by omega⟩)]at hre
    refine ak<|aj<|au<|aH<|aq 4 rfl<|dJ rfl (hre) rfl<|aq 6 rfl<|aD [2,3,6,8,12,13,14] rfl ?_
    refine bq<|aq 4 rfl<|cf (bu rfl (bF.rk.get rfl) rfl rfl rfl rfl (by unfold maxLen;omega)) rfl<|aq 2 rfl ?_
    refine de [0,1,4] (.c 2<|.c 3<|.c 6<|.c 8<|.c 12<|.c 13<|.nil) (.kept rfl (.cells (aC.c<|aC.c<|aC.c<|aC.nil))<|.kept rfl (.cells (aC.c<|aC.c<|aC.c<|aC.nil))<|.kept rfl (.ec rfl (show _=cV (np T M m (j+1)) by rw[AO];exact gL _ _))<|.nil) rfl rfl (aU ?_)
    refine aB (.a 1 rfl<|.v (aP rfl) rfl<|.a 1 rfl<|.k [2,3,6,8,12,13] rfl) ?_
    exact⟨N - (j+1),by omega,j+1,by omega,rfl,rfl⟩
   ·have hje:j=N:=by have:=ff h3;omega
    subst hje
    refine aY<|aH<|bA (dI (ys:=[num m,.own 2,aw (cj M (bC T m))]) rfl (bF.tk.get rfl) rfl rfl rfl rfl) rfl<|aq 2 rfl<|aD [6,7] rfl ?_
    refine ao<|⟨_,_,aA.of rfl,ax.ba (ai.cons (ax.ew (ai.cons ax.pure<|ai.cons (ax.dX rfl ai.pure)<|ai.cons ax.pure ai.nil)) (ai.cons ax.pure ai.nil)),?_⟩
    unfold fY tK dx fe iE aw
    rw[if_pos rfl,nB,show T.nodes.toNat=j by omega]
end PW
end Go.Proofs.YtnegbdpggideiaaGreatDoor
namespace Go.Proofs.YtnegbdpggideiaaGreatDoor
namespace PW
open Go.RowKit cH Mem
structure GD where
 p:PV
 r:Option Nat
 lo:Nat
 hi:Nat
section
variable {P:Program} {N L:Nat}
inductive GK (P:Program) (N:Nat) (ops:Array Oper) (σs:List cg) (T:b9) (o:Oper):GD→Prop
 |val {p:PV} {d lo hi:Nat} (ks:List Nat) (hks:(ks.all fun k=>(o.looksAt ops).contains k)=true) (hw:eN ops T o=some true) (hy:∀r σ,lo≤r→r≤hi→σs[r]? =some σ→bp P σ (gi T ks) o p) (hd:o.dst=some d) (hN:Nat.blt d N=true):GK P N ops σs T o ⟨p,none,lo,hi⟩
 |skip {d lo hi:Nat} (hw:eN ops T o=some false) (hd:o.dst=some d) (hN:Nat.blt d N=true):GK P N ops σs T o ⟨.raw undef,none,lo,hi⟩
 |El {p:PV} {d r lo hi:Nat} {σ σ':cg} (ks:List Nat) (hks:(ks.all fun k=>(o.looksAt ops).contains k)=true) (hw:eN ops T o=some true) (h1:σs[r]? =some σ) (h2:σs[r+1]? =some σ') (hy:cM P σ (gi T ks) o p σ') (hd:o.dst=some d) (hN:Nat.blt d N=true):GK P N ops σs T o ⟨p,some r,lo,hi⟩
 |pz {p:PV} {r lo hi:Nat} {σ σ':cg} (ks:List Nat) (hks:(ks.all fun k=>(o.looksAt ops).contains k)=true) (hw:eN ops T o=some true) (h1:σs[r]? =some σ) (h2:σs[r+1]? =some σ') (hy:cM P σ (gi T ks) o p σ') (hd:o.dst=none):GK P N ops σs T o ⟨p,some r,lo,hi⟩
inductive GL (P:Program) (N:Nat) (ops:Array Oper) (σs:List cg) (T:b9):List Oper→List GD→Prop
 |nil:GL P N ops σs T [] []
 |cons {o:Oper} {g:GD} {l:List Oper} {gs:List GD}:GK P N ops σs T o g→GL P N ops σs T l gs→GL P N ops σs T (o::l) (g::gs)
theorem GL.get{ops:Array Oper}{σs:List cg}{T:b9}:∀ {l:List Oper} {gs:List GD},GL P N ops σs T l gs→gs.length=l.length∧∀(i:Nat) o g,l[i]? =some o→gs[i]? =some g→GK P N ops σs T o g
 |_,_,.nil=>⟨rfl,fun i o g h=>by simp at h⟩
 |_,_,.cons h hs=>by
  obtain⟨h1,h2⟩:=hs.get
  refine⟨by simp[h1],fun i o g ho hg=>?_⟩
  cases i with
  |zero=>simp at ho hg;subst ho;subst hg;exact h
  |succ i=>exact h2 i o g (by simpa using ho) (by simpa using hg)
def j9(gs:List GD)(i:Nat):Option Nat:=(gs[i]?).bind (·.r)
def E0(ops:Array Oper)(f m:Nat)(gs:List GD):Bool:=
  Nat.beq gs.length ops.size&&
  ((List.range ops.size).all fun i=>(lN ops i).all fun k=>decide (k<i))&&
  ((List.range ops.size).all fun i=>(List.range i).all fun j=>(cp ops i).isNone||cp ops i !=cp ops j)&&
  ((List.range ops.size).all fun j=>(ed ops j).all fun k=>(List.range ops.size).all fun i=>cp ops i !=some k||eR ops f j i)&&
  ((List.range ops.size).all fun i => match gs[i]? with
    |some ⟨_,some r,_,_⟩=>decide (r<m)&&(Nat.beq r 0||(List.range ops.size).any fun j=>j9 gs j==some (r - 1)&&eR ops f i j)
    |some ⟨_,none,lo,hi⟩=>(Nat.beq lo 0||(List.range ops.size).any fun j=>j9 gs j==some (lo - 1)&&eR ops f i j)&&(Nat.ble m hi||(List.range ops.size).any fun j=>j9 gs j==some hi&&eR ops f j i)
    |none=>false)&&
  ((List.range ops.size).all fun i=>(List.range i).all fun j=>(j9 gs i).isNone||j9 gs i !=j9 gs j)&&
  ((List.range m).all fun r=>(List.range ops.size).any fun j=>j9 gs j==some r)
structure Ir (ops:Array Oper) (f m:Nat) (gs:List GD):Prop where
 len:gs.length=ops.size
 lN:∀i,i<ops.size→∀k∈lN ops i,k<i
 ss:∀i j d,i<ops.size→j<ops.size→cp ops i=some d→cp ops j=some d→i=j
 rd:∀j,j<ops.size→∀k∈ed ops j,∀i,i<ops.size→cp ops i=some k→eR ops f j i=true
 El:∀(i:Nat) g r,gs[i]? =some g→g.r=some r→r<m∧(r=0∨∃j,j<ops.size∧j9 gs j=some (r - 1)∧eR ops f i j=true)
 quiet:∀(i:Nat) g,gs[i]? =some g→g.r=none→(g.lo=0∨∃j,j<ops.size∧j9 gs j=some (g.lo - 1)∧eR ops f i j=true)∧(m≤g.hi∨∃j,j<ops.size∧j9 gs j=some g.hi∧eR ops f j i=true)
 one:∀i j r,i<ops.size→j<ops.size→j9 gs i=some r→j9 gs j=some r→i=j
 has:∀r,r<m→∃j,j<ops.size∧j9 gs j=some r
theorem Cd{ops:Array Oper}{f m:Nat}{gs:List GD}(h:E0 ops f m gs=true):Ir ops f m gs:=by
 unfold E0 at h
 simp only[Bool.and_eq_true]at h
 obtain⟨⟨⟨⟨⟨⟨h1,h2⟩,h3⟩,h4⟩,h5⟩,h6⟩,h7⟩:=h
 have hl:gs.length=ops.size:=Nat.eq_of_beq_eq_true h1
 have all:∀ {n:Nat} {p:Nat→Bool},(List.range n).all p=true→∀i,i<n→p i=true:=fun h i hi=>List.all_eq_true.1 h i (List.mem_range.2 hi)
 have any:∀ {n:Nat} {p:Nat→Bool},(List.range n).any p=true→∃i,i<n∧p i=true:=fun h=>by
  obtain⟨i,hi,hp⟩:=List.any_eq_true.1 h
  exact⟨i,List.mem_range.1 hi,hp⟩
 have s3:∀i j d,i<ops.size→j<i→cp ops i=some d→cp ops j=some d→False:=fun i j d hi hj e1 e2=>by
  have:=all (all h3 i hi) j hj
  rw[e1,e2]at this
  simp at this
 have s6:∀i j r,i<ops.size→j<i→j9 gs i=some r→j9 gs j=some r→False:=fun i j r hi hj e1 e2=>by
  have:=all (all h6 i hi) j hj
  rw[e1,e2]at this
  simp at this
 refine⟨hl,fun i hi k hk=>?_,fun i j d hi hj e1 e2=>?_,fun j hj k hk i hi hd=>?_,fun i g r hg hr=>?_,fun i g hg hr=>?_,fun i j r hi hj e1 e2=>?_,fun r hr=>?_⟩
 ·have:=List.all_eq_true.1 (all h2 i hi) k hk;simpa using this
 ·rcases Nat.lt_trichotomy i j with h|h|h
  ·exact(s3 j i d hj h e2 e1).elim
  ·exact h
  ·exact(s3 i j d hi h e1 e2).elim
 ·have:=all (List.all_eq_true.1 (all h4 j hj) k hk) i hi
  rw[hd]at this
  simpa using this
 ·have hi:i<ops.size:=by rw[←hl];exact(List.getElem?_eq_some_iff.1 hg).1
  have:=all h5 i hi
  obtain⟨p,r',lo,hi'⟩:=g
  simp only at hr
  subst hr
  rw[hg]at this
  simp only[Bool.and_eq_true,decide_eq_true_eq,Bool.or_eq_true]at this
  refine⟨this.1,?_⟩
  rcases this.2 with h|h
  ·exact .inl (Nat.eq_of_beq_eq_true h)
  ·obtain⟨j,hj,h'⟩:=any h
   simp only[Bool.and_eq_true,beq_iff_eq]at h'
   exact .inr ⟨j,hj,h'.1,h'.2⟩
 ·have hi:i<ops.size:=by rw[←hl];exact(List.getElem?_eq_some_iff.1 hg).1
  have:=all h5 i hi
  obtain⟨p,r',lo,hi'⟩:=g
  simp only at hr
  subst hr
  rw[hg]at this
  simp only[Bool.and_eq_true,Bool.or_eq_true]at this
  refine⟨?_,?_⟩
  ·rcases this.1 with h|h
   ·exact .inl (Nat.eq_of_beq_eq_true h)
   ·obtain⟨j,hj,h'⟩:=any h
    simp only[Bool.and_eq_true,beq_iff_eq]at h'
    exact .inr ⟨j,hj,h'.1,h'.2⟩
  ·rcases this.2 with h|h
   ·exact .inl (Nat.ble_eq.mp h)
   ·obtain⟨j,hj,h'⟩:=any h
    simp only[Bool.and_eq_true,beq_iff_eq]at h'
    exact .inr ⟨j,hj,h'.1,h'.2⟩
 ·rcases Nat.lt_trichotomy i j with h|h|h
  ·exact(s6 j i r hj h e2 e1).elim
  ·exact h
  ·exact(s6 i j r hi h e1 e2).elim
 ·obtain⟨j,hj,h⟩:=any (all h7 r hr)
  exact⟨j,hj,by simpa using h⟩
structure FP (base N:Nat) (F:Nat→Prop) (l:List Oper) (gs:List GD) (σs:List cg) (t:b9) (ls:Array Bool) (r:Nat) (E:Env) (a:Act) (w:World):Prop where
 size:ls.size=l.length
 down:Down l.toArray ls
 rk:∀i s,i<l.length→j9 gs i=some s→(ls.getD i true=true↔s<r)
 sat:∃σ,σs[r]? =some σ∧Sat F base σ E w
 kf:a.defers=[]
 tmps:a.tmps.size=N
 t0:ef E w a.eval t
 kT:∀j d g,j<l.length→ls.getD j true=true→cp l.toArray j=some d→gs[j]? =some g→cD E w (a.eval (.tmp d)) g.p
theorem xr(ls:Array Bool)(i j:Nat)(b:Bool)(hi:i<ls.size):(ls.setIfInBounds i true).getD j b=if j=i then true else ls.getD j b:=by
 by_cases e:j=i
 ·subst e;simp[hi]
 ·rw[if_neg e]
  simp only[Array.getD_eq_getD_getElem?,Array.getElem?_setIfInBounds_ne (Ne.symm e)]
theorem CD{ls:Array Bool}{i:Nat}(hi:i<ls.size)(b c:Bool):ls.getD i b=ls.getD i c:=by simp[hi]
section
variable {l:List Oper} {gs:List GD} {σs:List cg} {t T:b9} {f m base:Nat} {F:Nat→Prop}
theorem FP.reach(hG:Ir l.toArray f m gs){ls:Array Bool}{r:Nat}{E:Env}{a:Act}{w:World}(h:FP base N F l gs σs t ls r E a w){i j:Nat}(hi:i<l.length)(hr:eR l.toArray f i j=true)(hk:∀k∈lN l.toArray i,ls.getD k false=true):ls.getD j true=true:=by
 have:=dY (by rw[h.size];simp) h.down (fun i hi=>hG.lN i hi) f i j (by simpa using hi) hr hk
 by_cases hj:j<ls.size
 ·rw[CD hj true false];exact this
 ·simp[hj]
theorem FP.looks(hG:Ir l.toArray f m gs)(hT:ni l (gs.map (·.p)) t=T){ls:Array Bool}{r:Nat}{E:Env}{a:Act}{w:World}(h:FP base N F l gs σs t ls r E a w){i:Nat}(hi:i<l.length)(hk:∀k∈lN l.toArray i,ls.getD k false=true):
  ∀k∈ed l.toArray i,∀p,look k T=some p→cD E w (a.eval (.tmp k)) p:=fun k hks p hp=>by
 rw[←hT]at hp
 rcases lO _ _ _ k p hp with⟨j,o,h1,h2,h3⟩|h'
 ·rw[List.getElem?_map,Option.map_eq_some_iff]at h3
  obtain⟨g,hg,rfl⟩:=h3
  have hj:j<l.length:=(List.getElem?_eq_some_iff.1 h1).1
  have hd:cp l.toArray j=some k:=by simp only[cp,List.getElem?_toArray,h1,Option.bind_some,h2]
  have hr:=hG.rd i (by simpa using hi) k hks j (by simpa using hj) hd
  exact h.kT j k g hj (h.reach hG hi hr hk) hd hg
 ·exact h.t0 k p h'
theorem FP.put(hG:Ir l.toArray f m gs)(hfr:∀i d,i<l.length→cp l.toArray i=some d→look d t=none){ls:Array Bool}{r r':Nat}{E E':Env}{a:Act}{w w':World}(h:FP base N F l gs σs t ls r E a w){i:Nat}{g:GD}{v:Value}(hi:i<l.length)(hu:ls.getD i true=false)(hk:∀k∈lN l.toArray i,ls.getD k false=true)(hg:gs[i]? =some g)(hgo:cZ E w E' w')
  (hs:∃σ,σs[r']? =some σ∧Sat F base σ E' w') (hr:(g.r=none∧r'=r)∨(g.r=some r∧r'=r+1)) {o:Oper} (ho:l[i]? =some o) (hdN:∀d,o.dst=some d→d<N) (hv:∀d,o.dst=some d→cD E' w' v g.p):
  FP base N F l gs σs t (ls.setIfInBounds i true) r' E' (a.put o.dst v) w':=by
 have hil:i<ls.size:=by rw[h.size];exact hi
 have hrk:j9 gs i=g.r:=by simp only[j9,hg,Option.bind_some]
 have hdi:cp l.toArray i=o.dst:=by simp only[cp,List.getElem?_toArray,ho,Option.bind_some]
 refine⟨by simpa using h.size,fun j hj hjs k hkj=>?_,fun j s hj hs'=>?_,hs,by cases o.dst<;>simpa[Act.put]using h.kf,by cases o.dst<;>simpa[Act.put]using h.tmps,fun k p hkp=>?_,fun j d g' hj hjl hd hg'=>?_⟩
 ·rw[xr _ _ _ _ hil]at hj ⊢
  split
  ·rfl
  ·by_cases e:j=i
   ·subst e;exact hk k hkj
   ·rw[if_neg e]at hj
    exact h.down j hj hjs k hkj
 ·rw[xr _ _ _ _ hil]
  by_cases e:j=i
  ·subst e
   rw[if_pos rfl]
   rw[hrk]at hs'
   rcases hr with⟨h1,_⟩|⟨h1,h2⟩
   ·rw[h1]at hs';cases hs'
   ·rw[h1]at hs';cases hs';exact⟨fun _=>by omega,fun _=>rfl⟩
  ·rw[if_neg e,h.rk j s hj hs']
   rcases hr with⟨_,h2⟩|⟨h1,h2⟩
   ·rw[h2]
   ·have:s≠r:=fun e'=>e (hG.one j i r (by simpa using hj) (by simpa using hi) (by rw[hs',e']) (by rw[hrk,h1]))
    omega
 ·have hne:∀d,o.dst=some d→k≠d:=fun d hd e=>by
   subst e
   rw[hfr i k hi (by rw[hdi,hd])]at hkp;cases hkp
  have:(a.put o.dst v).eval (.tmp k)=a.eval (.tmp k):=Act.eval_put fun d hd heq=>by cases heq;exact hne _ hd rfl
  rw[this]
  exact(h.t0 k p hkp).goes hgo
 ·rw[xr _ _ _ _ hil]at hjl
  by_cases e:j=i
  ·subst e
   rw[hdi]at hd
   rw[hg]at hg';cases hg'
   rw[hd,i6 a (by rw[h.tmps];exact hdN d hd),if_pos rfl]
   exact hv d hd
  ·rw[if_neg e]at hjl
   have hne:∀d',o.dst=some d'→d≠d':=fun d' hd' e'=>by
    subst e'
    exact e (hG.ss j i d (by simpa using hj) (by simpa using hi) hd (by rw[hdi,hd']))
   have:(a.put o.dst v).eval (.tmp d)=a.eval (.tmp d):=Act.eval_put fun d' hd' heq=>by cases heq;exact hne _ hd' rfl
   rw[this]
   exact(h.kT j d g' hj hjl hd hg').goes hgo
theorem FU(hG:Ir l.toArray f m gs)(hT:ni l (gs.map (·.p)) t=T)(hfr:∀i d,i<l.length→cp l.toArray i=some d→look d t=none)(hL:GL P N l.toArray σs T l gs){σm:cg}(hm:σs[m]? =some σm){Q:Exit→Act→World→Prop}{E₀:Env}{w₀:World}(hq:∀a' w' E',Sat F base σm E' w'→ef E' w' a'.eval T→a'.defers=[]→a'.tmps.size=N→cZ E₀ w₀ E' w'→Below base w₀ w'→Q .normal a' w'):
  ∀(fuel:Nat) (ls:Array Bool) (r:Nat) (E:Env) (a:Act) (w:World),FP base N F l gs σs t ls r E a w→bP ls l.length=fuel→cZ E₀ w₀ E w→Below base w₀ w→r≤m→wpAny P .any l.toArray Q fuel ls a w:=by
 obtain⟨hgl,hget⟩:=hL.get
 intro fuel
 induction fuel with
 |zero=>
  intro ls r E a w h hu hgo hb hrm
  have hall:=da hu
  have hrm':r=m:=by
   rcases Nat.lt_or_ge r m with h'|h'
   ·obtain⟨j,hj,hjr⟩:=hG.has r h'
    have hj:j<l.length:=by simpa using hj
    have:=(h.rk j r hj hjr).1 (hall j hj)
    omega
   ·omega
  subst hrm'
  refine⟨List.eq_nil_iff_forall_not_mem.2 fun i hi=>?_,?_⟩
  ·obtain⟨h1,h2,_⟩:=cz.1 hi
   rw[hall i (by simpa using h1)]at h2;cases h2
  ·obtain⟨σ,hσ,hs⟩:=h.sat
   rw[hm]at hσ;cases hσ
   refine hq a w E hs (fun k p hkp=>?_) h.kf h.tmps hgo hb
   rw[←hT]at hkp
   rcases lO _ _ _ k p hkp with⟨j,o,h1,h2,h3⟩|h'
   ·rw[List.getElem?_map,Option.map_eq_some_iff]at h3
    obtain⟨g,hg,rfl⟩:=h3
    have hj:j<l.length:=(List.getElem?_eq_some_iff.1 h1).1
    exact h.kT j k g hj (hall j hj) (by simp only[cp,List.getElem?_toArray,h1,Option.bind_some,h2]) hg
   ·exact h.t0 k p h'
 |succ fuel ih=>
  intro ls r E a w h hu hgo hb hrm
  obtain⟨i0,hi0,hi1,hi2⟩:=fm (ls:=ls) (m:=l.length) (by omega)
  have hi0r:i0∈Region.ready .any l.toArray ls:=cz.2 ⟨by simpa using hi0,hi1,fun k hk=>by
   have:=hG.lN i0 (by simpa using hi0) k hk
   rw[CD (by rw[h.size];omega) false true];exact hi2 k this⟩
  refine⟨fun h0=>absurd hi0r (by rw[h0];simp),fun i hi=>?_⟩
  obtain⟨h1,h2,h3⟩:=cz.1 hi
  have hil:i<l.length:=by simpa using h1
  have ho:l[i]? =some l[i]:=by simp[hil]
  have hgi:gs[i]? =some (gs[i]'(by omega)):=by simp
  have hK:=hget i _ _ ho hgi
  generalize hgg:gs[i]'(by omega)=g at hgi hK
  generalize hoo:l[i]=o at ho hK
  have hlk:=h.looks hG hT hil h3
  have hlo:ed l.toArray i=o.looksAt l.toArray:=by simp only[ed,List.getElem?_toArray,ho]
  rw[hlo]at hlk
  have hpk:∀ks:List Nat,(ks.all fun k=>(o.looksAt l.toArray).contains k)=true→ef E w a.eval (gi T ks):=fun ks hks k p hkp=>by
   obtain⟨e1,e2⟩:=iP ks k p hkp
   exact hlk k (by have:=List.all_eq_true.1 hks k e1;simpa using this) p e2
  have hwant:∀b,eN l.toArray T o=some b→Region.wanted o (yielded l.toArray a.tmps)=b:=fun b hb=>by
   rw[iK];exact ll (fun k hk p hp=>hlk k hk p hp) hb
  have hun:bP (ls.setIfInBounds i true) l.length=fuel:=by have:=fp h2 hil (by rw[h.size];omega);omega
  unfold wpOp
  have ho':l.toArray[i]? =some o:=by simpa using ho
  simp only[ho']
  have hrk:j9 gs i=g.r:=by simp only[j9,hgi,Option.bind_some]
  cases hK with
  | @val p d lo hi ks hks hw hy hd hN=>
   rw[hwant true hw,if_pos rfl]
   left
   obtain⟨σ,hσ,hs⟩:=h.sat
   obtain⟨q1,q2⟩:=hG.quiet i _ hgi rfl
   have hlo':lo≤r:=by
    rcases q1 with e|⟨j,hj,hj1,hj2⟩
    ·simp only at e;omega
    ·have:=(h.rk j _ (by simpa using hj) hj1).1 (h.reach hG hil hj2 h3)
     simp only at this;omega
   have hhi':r≤hi:=by
    rcases q2 with e|⟨j,hj,hj1,hj2⟩
    ·simp only at e;omega
    ·rcases Nat.lt_or_ge hi r with h'|h'
     ·have hjl:j<l.length:=by simpa using hj
      have e1:=(h.rk j _ hjl hj1).2 h'
      have e2:=h.reach hG hjl hj2 (h.down j e1 hj)
      rw[h2]at e2;cases e2
     ·exact h'
   refine pN (hy r σ hlo' hhi' hσ F base E a.eval w (gh a) hs (hpk ks hks)) fun v w' hE hv=>?_
   exact ih _ r E _ w' (h.put hG hfr hil h2 h3 hgi (.ext hE) ⟨σ,hσ,hs.ext hE⟩ (.inl ⟨rfl,rfl⟩) ho (fun d' hd'=>by rw[hd]at hd';cases hd';exact Nat.blt_eq.mp hN) (fun _ _=>hv)) hun (hgo.trans (.ext hE)) (hb.trans (Below.iC hE hs.bl)) hrm
  | @skip d lo hi hw hd hN=>
   rw[hwant false hw,if_neg (by simp)]
   exact ih _ r E _ w (h.put hG hfr hil h2 h3 hgi (cZ.refl _ _) h.sat (.inl ⟨rfl,rfl⟩) ho (fun d' hd'=>by rw[hd]at hd';cases hd';exact Nat.blt_eq.mp hN) (fun _ _=>.raw _)) hun hgo hb hrm
  | @El p d r0 lo hi σ σ' ks hks hw e1 e2 hy hd hN=>
   rw[hwant true hw,if_pos rfl]
   left
   obtain⟨q1,q2⟩:=hG.El i _ r0 hgi rfl
   have hr0:r0=r:=by
    have n1:¬r0<r:=fun h'=>by
     have:=(h.rk i r0 hil hrk).2 h'
     rw[h2]at this;cases this
    rcases q2 with e|⟨j,hj,hj1,hj2⟩
    ·omega
    ·have:=(h.rk j _ (by simpa using hj) hj1).1 (h.reach hG hil hj2 h3)
     omega
   subst hr0
   obtain⟨σ0,hσ,hs⟩:=h.sat
   rw[e1]at hσ;cases hσ
   obtain⟨v,w',E',hr,k1,k2,k3,k4⟩:=hy F base E a.eval w (gh a) hs (hpk ks hks)
   have hn':=ih _ (r0+1) E' (a.put o.dst v) w' (h.put hG hfr hil h2 h3 hgi k2 ⟨σ',e2,k1⟩ (.inr ⟨rfl,rfl⟩) ho (fun d' hd'=>by rw[hd]at hd';cases hd';exact Nat.blt_eq.mp hN) (fun _ _=>k4)) hun (hgo.trans k2) (hb.trans k3) (by omega)
   unfold Oper.wp
   rcases hr with hr|⟨rfl,hr⟩
   ·rw[hr];exact hn'
   ·rw[hr];exact hn'
  | @pz p r0 lo hi σ σ' ks hks hw e1 e2 hy hd=>
   rw[hwant true hw,if_pos rfl]
   left
   obtain⟨q1,q2⟩:=hG.El i _ r0 hgi rfl
   have hr0:r0=r:=by
    have n1:¬r0<r:=fun h'=>by
     have:=(h.rk i r0 hil hrk).2 h'
     rw[h2]at this;cases this
    rcases q2 with e|⟨j,hj,hj1,hj2⟩
    ·omega
    ·have:=(h.rk j _ (by simpa using hj) hj1).1 (h.reach hG hil hj2 h3)
     omega
   subst hr0
   obtain⟨σ0,hσ,hs⟩:=h.sat
   rw[e1]at hσ;cases hσ
   obtain⟨v,w',E',hr,k1,k2,k3,k4⟩:=hy F base E a.eval w (gh a) hs (hpk ks hks)
   have hn':=ih _ (r0+1) E' (a.put o.dst v) w' (h.put hG hfr hil h2 h3 hgi k2 ⟨σ',e2,k1⟩ (.inr ⟨rfl,rfl⟩) ho (fun d' hd'=>by rw[hd]at hd';cases hd') (fun d' hd'=>by rw[hd]at hd';cases hd')) hun (hgo.trans k2) (hb.trans k3) (by omega)
   unfold Oper.wp
   rcases hr with hr|⟨rfl,hr⟩
   ·rw[hr];exact hn'
   ·rw[hr];exact hn'
end
theorem oh:∀(n k:Nat),k≤n→bP (Array.replicate n false) k=k
 |n,0,_=>rfl
 |n,k+1,h=>by
  simp only[bP]
  rw[oh n k (by omega)]
  simp[show k<n by omega]
theorem wu{id:Nat}{l:List Oper}{t t':b9}{σ σm:cg}{Q:Exit→St→Prop}(f m:Nat)(σs:List cg)(gs:List GD)(T:b9)(hm:P.follows .mixedOrders=true)(hB:E0 l.toArray f m gs=true)(hT:ni l (gs.map (·.p)) t=T)(hfr:(l.all fun o=>o.dst.all fun d=>(look d t).isNone)=true)(h0:σs[0]? =some σ)(h1:σs[m]? =some σm)
  (hL:GL P N l.toArray σs T l gs) (hsub:Sub T t') (hq:Q .normal ⟨t',σm⟩):W P N L (.region id l.toArray true) ⟨t,σ⟩ Q:=fun F base E₀ w₀ E a w hc hs=>by
 have hG:=Cd hB
 have hE:Ext w {w with drawn:=w.drawn+1}:=⟨rfl,rfl,rfl,Nat.le_refl _,fun _ _=>rfl⟩
 refine wp_region_any hm ?_
 have hfr':∀i d,i<l.length→cp l.toArray i=some d→look d t=none:=fun i d hi hd=>by
  have ho:l[i]? =some l[i]:=by simp[hi]
  simp only[cp,List.getElem?_toArray,ho,Option.bind_some]at hd
  have:=List.all_eq_true.1 hfr _ (List.mem_of_getElem? ho)
  rw[hd]at this
  simpa using this
 have hg0:FP base N F l gs σs t (Array.replicate l.length false) 0 E a {w with drawn:=w.drawn+1}:=by
  have hrep:∀i,i<l.length→(Array.replicate l.length false).getD i true=false:=fun i hi=>by simp[hi]
  refine⟨by simp,fun i hi hi'=>?_,fun i s hi _=>?_,⟨σ,h0,hs.sat.ext hE⟩,hs.kf,hs.size,hs.tmp.goes (.ext hE),fun j d g hj hjl=>?_⟩
  ·rw[hrep i (by simpa using hi')]at hi;cases hi
  ·rw[hrep i hi];simp
  ·rw[hrep j hj]at hjl;cases hjl
 have:=FU (Q:=fun e a' w'=>oN F base N E₀ w₀ (Q e) a' w') hG hT hfr' hL h1 (E₀:=E₀) (w₀:=w₀) (fun a' w' E' k1 k2 k3 k4 k5 k6=>⟨⟨t',σm⟩,E',hq,⟨k1,k2.sub hsub,k3,k4⟩,k5,k6⟩) l.length _ 0 E a _ hg0 (oh _ _ (Nat.le_refl _)) (hc.g.trans (.ext hE)) (hc.b.trans (Below.iC hE hs.sat.bl)) (Nat.zero_le _)
 simpa using this
theorem Hm{id:Nat}{l:List Oper}{y:Code}{t t':b9}{σ σm:cg}{Q:Exit→St→Prop}(f m:Nat)(σs:List cg)(gs:List GD)(T:b9)(hm:P.follows .mixedOrders=true)(hB:E0 l.toArray f m gs=true)(hT:ni l (gs.map (·.p)) t=T)(hfr:(l.all fun o=>o.dst.all fun d=>(look d t).isNone)=true)(h0:σs[0]? =some σ)(h1:σs[m]? =some σm)
  (hL:GL P N l.toArray σs T l gs) (hsub:Sub T t') (hq:W P N L y ⟨t',σm⟩ Q):W P N L (.seq (.region id l.toArray true) y) ⟨t,σ⟩ Q:=aj (wu f m σs gs T hm hB hT hfr h0 h1 hL hsub hq)
theorem yz{P:Program}{σs:List cg}{t:b9}{o:Oper}{p:PV}{lo hi:Nat}(h:∀σ∈(σs.drop lo).take (hi+1 - lo),bp P σ t o p):∀r σ,lo≤r→r≤hi→σs[r]? =some σ→bp P σ t o p:=fun r σ h1 h2 hs=>by
 refine h σ (List.mem_of_getElem? (i:=r - lo) ?_)
 rw[List.getElem?_take,if_pos (by omega),List.getElem?_drop,show lo+(r - lo)=r by omega]
 exact hs
theorem gJ{α:Type}{p:α→Prop}:∀x∈([]:List α),p x:=fun _ h=>by cases h
theorem eW{α:Type}{p:α→Prop}{a:α}{l:List α}(h:p a)(hs:∀x∈l,p x):∀x∈a::l,p x:=fun x hx=>by
 rcases List.mem_cons.1 hx with rfl|h'
 ·exact h
 ·exact hs x h'
end
end PW
end Go.Proofs.YtnegbdpggideiaaGreatDoor
namespace Go.Proofs.YtnegbdpggideiaaGreatDoor
namespace PW
open Go.RowKit cH Mem Net ft
theorem BL{P:Program}{N L:Nat}{x:Code}{st:St}{Q:Exit→St→Prop}{Q1:St→Prop}(h:W P N L x st (GP Q1))(k:∀s,Q1 s→Q .normal s):W P N L x st Q:=
 h.mono fun e s hq=>by cases e<;>first|exact k s hq|exact hq.elim
theorem sU{T:an}(hv:av T=true)(D:List Bool)(n d:Nat):(bm T D n d).length≤512:=by
 have hl:=bJ hv
 unfold bm
 split
 ·simp
 ·exact Nat.le_trans (List.length_filter_le _ _) (Nat.le_trans (dB T n _) (by omega))
theorem q9(T:an)(D:List Bool)(n d:Int):Can Tryz.prog 84 [aJ T,aM D,num n,num d] (· =flag (jj T D n d)):=by
 obtain⟨q,hq⟩:∃q,decide (fH T D n d=0)=q:=⟨_,rfl⟩
 unfold jj
 rw[hq]
 exact aF Tryz.func84 rfl Tryz.ntmps84 rfl<|ab (.a 2 rfl<|.k [1,2,3,4] rfl)<|ab (.a 4 rfl<|.c rfl (o8 T D n d) rfl<|.a 5 rfl<|.k [10] rfl)<|ab (.a 1 rfl<|.v (b7 rfl (hq)) rfl<|.a 1 rfl<|.k [8] rfl)<|ao<|⟨_,_,aA.of rfl,ax.pure,rfl⟩
def fU(T:an)(k x:Int):List Bool:=if cQ T k x=0 then bz T k x else []
theorem qa{T:an}{k x:Int}(h:(av T&&cc T k x)=true):fU T k x=bz T k x:=by
 unfold fU cQ
 rw[if_pos h,if_pos rfl]
theorem nJ(T:an)(k x n d:Int):Can Tryz.prog 98 [aJ T,bY k x,num n,num d] (· =flag (jj T (fU T k x) n d)):=by
 have hmk:=mb T k x
 unfold gI at hmk
 exact aF Tryz.func98 rfl Tryz.ntmps98 rfl<|ab (.a 3 rfl<|.k [2,3,4,5] rfl)<|ab (.a 2 rfl<|.c rfl (hmk) rfl<|.a 5 rfl<|.k [2,3,4,9] rfl)<|ab (.a 4 rfl<|.c rfl (q9 T (fU T k x) n d) rfl<|.a 1 rfl<|.k [8] rfl)<|ao<|⟨_,_,aA.of rfl,ax.pure,rfl⟩
theorem zm{T:an}(hv:av T=true){a:Nat}(ha:a<2*T.ag.length)(h:0<fN T a):(av T&&cc T 3 (fN T a))=true:=by
 have:=sj hv ha
 rw[hv]
 unfold cc
 simp only[if_neg (show ¬(3:Int)=1 by decide),if_neg (show ¬(3:Int)=2 by decide),if_true,Bool.true_and,Bool.and_eq_true,decide_eq_true_eq]
 exact⟨by omega,by omega⟩
theorem uX{T:an}(hv:av T=true){a:Nat}(ha:a<2*T.ag.length):(av T&&cc T 2 (bb T a))=true:=by
 obtain⟨h0,h1⟩:=(aQ hv).head a ha
 rw[hv]
 unfold cc
 simp only[if_neg (show ¬(2:Int)=1 by decide),if_true,Bool.true_and]
 exact aO.2 ⟨h0,h1⟩
theorem An(T:an)(a:Nat)(d:Int)(hv:av T=true)(ha:a<2*T.ag.length)(hd:0≤d∧d<T.nodes):Can Tryz.prog 45 [aJ T,num a,num d] (· = .tuple [bY (eZ T a d).1 (eZ T a d).2,num 0]):=by
 have hll:=bJ hv
 have hi:a / 2<T.ag.length:=by omega
 obtain⟨g,hg⟩:∃g,fN T a=g:=⟨_,rfl⟩
 obtain⟨h,hh⟩:∃h,bb T a=h:=⟨_,rfl⟩
 obtain⟨m,hm⟩:∃m,bw T a=m:=⟨_,rfl⟩
 have hgv:=zm hv ha
 have hnv:=uX hv ha
 have hrh:=gP T hv a ha
 have hrt:=eJ T hv a ha
 have hgl:(cA T.ag (a / 2)).tD=g:=hg
 rw[hh]at hnv hrh
 rw[hg]at hgv
 rw[hm]at hrt
 obtain⟨c1,hc1⟩:∃q,decide (0<g)=q:=⟨_,rfl⟩
 obtain⟨c2,hc2⟩:∃q,jj T (fU T 3 g) m d=q:=⟨_,rfl⟩
 obtain⟨c3,hc3⟩:∃q,decide (h≠d)=q:=⟨_,rfl⟩
 obtain⟨c4,hc4⟩:∃q,jj T (fU T 2 h) m d=q:=⟨_,rfl⟩
 have hA:eZ T a d=if(c1&&c2)=true then(3,g) else if(c3&&c4)=true then(2,h) else(1,((a / 2:Nat):Int)):=by
  unfold eZ
  rw[hg,hh,hm,hc1,hc3,←qa hnv,hc4]
  congr 1
  cases c1 with
  |false=>rfl
  |true=>rw[←qa (hgv (tt hc1)),hc2]
 have hw1:=nJ T 3 g m d
 rw[hc2]at hw1
 have hw2:=nJ T 2 h m d
 rw[hc4]at hw2
 rw[hA]
 refine aF Tryz.func45 rfl Tryz.ntmps45 rfl<|aH<|aq 3 rfl<|aD [1,2,3,6] rfl ?_
 refine aj<|ab (.a 1 rfl<|.c rfl (hv▸fK T) rfl<|.a 1 rfl<|.k [1,2,3,6,14] rfl)<|af rfl (fun h1=>?_) (fun h1=>?_)
 ·exact absurd h1 (by decide)
 ·clear h1
  refine ak<|aj<|bx 35 (.raw (.bool (false))) [1,2,3,6] rfl ?_ ?_
  ·exact .a 1 rfl<|.v (b7 rfl (show decide ((a:Int)<0)=false from decide_eq_false (by omega))) rfl<|.a 5 rfl<|.v (aP rfl (hc:=rfl)) rfl<|.v (b7 rfl (show decide (2*(T.ag.length:Int)≤(a:Int))=false from decide_eq_false (by omega))) rfl<|.a 3 rfl<|.v (b7 rfl (show decide (d<0)=false from decide_eq_false (by omega))) rfl<|.a 5 rfl<|.v (b7 rfl (show decide (T.nodes≤d)=false from decide_eq_false (by omega))) rfl<|.a 1 rfl<|.k [35,1,2,3,6] rfl
  refine af rfl (fun h1=>?_) (fun h1=>?_)
  ·exact absurd h1 (by decide)
  ·clear h1
   refine ak<|dH mixed (by kernel_rfl) (.a 2 rfl<|.v [37,38] (dw rfl (hrt)) rfl rfl<|.a 2 rfl<|.v [40,41] (dw rfl (hrh)) rfl rfl<|.a 2 rfl<|.k [1,2,3,6,8,9] rfl) ?_
   refine aH<|aq 3 rfl<|bA (iD rfl rfl rfl (by decide) ((show(a:Int).tdiv 2=((a / 2:Nat):Int) by rw[Int.tdiv_eq_ediv_of_nonneg (by omega)];omega)) (by unfold In64;omega)) rfl<|bA (aI ((a / 2*7)) rfl) rfl<|aq 1 rfl<|bA (aK rfl ((eu T.ag (a / 2) 6 hi (by omega)).trans (show(jz (cA T.ag (a / 2)))[6]? =some (num g) by rw[←hgl];rfl))) rfl<|aq 3 rfl<|aD [1,2,3,6,8,9,10] rfl ?_
   refine aH<|aq 4 rfl<|aD [1,2,3,6,8,9,10,11] rfl ?_
   refine aj<|au<|bx 53 (.raw (.bool (c1&&c2))) [1,2,3,6,8,9,10,11] rfl ?_ ?_
   ·refine .a 2 rfl<|.v (b7 rfl (hc1)) rfl<|.a 1 rfl<|?_
    cases c1
    ·exact .a 7 rfl<|.k [53,1,2,3,6,8,9,10,11] rfl
    ·exact .a 4 rfl<|.c rfl (hw1) rfl<|.a 2 rfl<|.k [53,1,2,3,6,8,9,10,11] rfl
   refine af rfl (fun h1=>?_) (fun h1=>?_)
   ·rw[if_pos h1]
    refine aH<|aq 3 rfl<|aD [6,7] rfl ?_
    exact ao<|⟨_,_,aA.of rfl,ax.pure (p:=.tuple [bY 3 g,num 0]),rfl⟩
   ·rw[if_neg (by rw[h1];simp)]
    refine bx 65 (.raw (.bool (c3&&c4))) [1,6,11] rfl ?_ ?_
    ·refine .a 2 rfl<|.v (b7 rfl (hc3)) rfl<|.a 1 rfl<|?_
     cases c3
     ·exact .a 7 rfl<|.k [65,1,6,11] rfl
     ·exact .a 4 rfl<|.c rfl (hw2) rfl<|.a 2 rfl<|.k [65,1,6,11] rfl
    refine af rfl (fun h2=>?_) (fun h2=>?_)
    ·rw[if_pos h2]
     refine aH<|aq 3 rfl<|aD [6,7] rfl ?_
     exact ao<|⟨_,_,aA.of rfl,ax.pure (p:=.tuple [bY 2 h,num 0]),rfl⟩
    ·rw[if_neg (by rw[h2];simp)]
     refine ak<|aH<|aq 1 rfl<|bA (iD rfl rfl rfl (by decide) ((show(a:Int).tdiv 2=((a / 2:Nat):Int) by rw[Int.tdiv_eq_ediv_of_nonneg (by omega)];omega)) (by unfold In64;omega)) rfl<|aq 3 rfl<|aD [6,7] rfl ?_
     exact ao<|⟨_,_,aA.of rfl,ax.pure (p:=.tuple [bY 1 ((a / 2:Nat):Int),num 0]),rfl⟩
theorem vS(T:an)(n d:Nat)(hv:av T=true)(hn:(n:Int)<T.nodes)(hd:(d:Int)<T.nodes):Can Tryz.prog 138 [aJ T,aM [],num n,num d] (· =aw (bm T [] n d)):=by
 have hll:=bJ hv
 have he:ca T [] [(d:Int)]=0:=by
  unfold ca
  rw[hv,ig]
  simp[aO.2 (show 0≤(d:Int)∧(d:Int)<T.nodes by omega)]
 have hrd:=jR T [] (d:Int)
 rw[he,Int.toNat_natCast]at hrd
 unfold df at hrd
 rw[if_pos rfl]at hrd
 obtain⟨hb1,hb2⟩:=cW (D:=[]) hv (dir:=false) hd
 rw[←oI T [] n d hv hn]
 generalize bE T [] d false=L at*
 refine aF Tryz.func138 rfl Tryz.ntmps138 rfl<|ab (.a 2 rfl<|.k [1,2,3,4] rfl)<|ab (.a 3 rfl<|.c rfl (hrd) rfl<|.a 5 rfl<|.k [1,2,3,4,9,10] rfl)<|ab (.a 1 rfl<|.k [1,2,3,4,9,10,11] rfl)<|eo 11 3 1 rfl ?_
 refine aj<|ab (.a 1 rfl<|.k [1,2,3,4,9,10,11,12] rfl)<|au<|ee [1,2,3,4,9,10,11,12] rfl<|bf (fun r s=>∃k,k≤2*T.ag.length∧r=2*T.ag.length - k∧s=⟨[(1,aM []),(2,num n),(3,num d),(4,.aX (bn T) 0),(9,aw L),(10,num 0),(11,.own 0),(12,num k)],[some (.row 3 1 (fD T [] L n d k).length (aN (fD T [] L n d k)))]⟩) (2*T.ag.length) ⟨0,by omega,by omega,rfl⟩ ?_
 rintro r s ⟨k,hk,rfl,rfl⟩
 obtain⟨p0,hp0⟩:∃q,decide ((k:Int)<2*(T.ag.length:Int))=q:=⟨_,rfl⟩
 refine aj<|bx 29 (.raw (.bool (p0))) [1,2,3,4,9,10,11,12] rfl ?_ ?_
 ·exact .a 1 rfl<|.v (b7 rfl (show decide ((0:Int)=0)=true from rfl)) rfl<|.a 5 rfl<|.v (aP rfl (hc:=rfl)) rfl<|.v (b7 rfl (hp0)) rfl<|.a 1 rfl<|.k [29,1,2,3,4,9,10,11,12] rfl
 refine af rfl (fun h1=>?_) (fun h1=>?_)
 ·have hlt:k<2*T.ag.length:=by rw[h1]at hp0;have:=tt hp0;omega
  have hlen:=o6 T [] L n d k
  have hst:=nU T [] L n d k
  clear h1 hp0
  refine ak<|aj<|au ?_
  obtain⟨p1,hp1⟩:∃q,decide (bw T k=(n:Int))=q:=⟨_,rfl⟩
  obtain⟨p2,hp2⟩:∃q,zq T [] L k d=q:=⟨_,rfl⟩
  refine bx 44 (.raw (.bool (p1&&p2))) [1,2,3,4,9,10,11,12] rfl ?_ ?_
  ·refine .a 2 rfl<|.c rfl (eJ T hv k hlt) rfl<|.a 1 rfl<|.v (b7 rfl (hp1)) rfl<|.a 1 rfl<|?_
   cases p1
   ·exact .a 7 rfl<|.k [44,1,2,3,4,9,10,11,12] rfl
   ·exact .a 5 rfl<|.c rfl (hp2▸yl T [] L k d hv (ig T) hb1 hb2 hlt) rfl<|.a 1 rfl<|.k [44,1,2,3,4,9,10,11,12] rfl
  refine af rfl (fun h2=>?_) (fun h2=>?_)
  ·rw[hp1,hp2,h2,if_pos rfl]at hst
   refine bq<|aq 3 rfl<|cf (bu rfl (bF.rk.get rfl) rfl rfl rfl rfl (by unfold maxLen;omega)) rfl<|aq 1 rfl ?_
   refine de [1] (.c 1<|.c 2<|.c 3<|.c 4<|.c 9<|.c 10<|.c 11<|.c 12<|.nil) (.kept rfl (.ec rfl (cB _ _))<|.nil) rfl rfl (aU ?_)
   refine aB (.a 1 rfl<|.v (aP rfl) rfl<|.a 1 rfl<|.k [1,2,3,4,9,10,11,12] rfl) ?_
   refine⟨2*T.ag.length - (k+1),by omega,k+1,by omega,rfl,?_⟩
   rw[hst]
   first
    |rfl
    |(simp only[List.length_append,List.length_singleton];rfl)
  ·rw[hp1,hp2,h2,if_neg (by simp),List.append_nil]at hst
   refine ak<|aB (.a 1 rfl<|.v (aP rfl) rfl<|.a 1 rfl<|.k [1,2,3,4,9,10,11,12] rfl) ?_
   refine⟨2*T.ag.length - (k+1),by omega,k+1,by omega,rfl,?_⟩
   rw[hst]
   first
    |rfl
    |(simp only[List.length_append,List.length_singleton];rfl)
 ·have hke:k=2*T.ag.length:=by rw[h1]at hp0;have:=ff hp0;omega
  subst hke
  clear hp0 h1
  exact aY<|ab (.a 2 rfl<|.k [8] rfl)<|ao<|⟨_,_,aA.of rfl,ax.dX rfl ai.pure,rfl⟩
theorem yG(T:an)(k x:Int)(hm:(av T&&cc T k x)=true)(σ:cg):bV Tryz.prog 32 [aJ T,bY k x] σ (fun r σ'=>r= .tuple [.own σ.length,num 0]∧σ'=σ++[iL (bz T k x)]):=by
 refine bV.frame (bV.mono (rz T k x) ?_)
 rintro r σ' (⟨h1,_⟩|⟨_,rfl,rfl⟩)
 ·rw[hm]at h1;cases h1
 ·exact⟨[.row 4 1 (bz T k x).length (bS (bz T k x))],rfl,_,_,Up.ba (ke.cons (Up.own rfl) (ke.cons Up.pure ke.nil)),lx.cons (.row ke.pure) lx.nil,by simp,rfl⟩
def jo(T:an)(D E:List Bool)(k:Nat):List Bool:=(List.range (2*T.ag.length)).map fun a=>if a<k then aW D a||aW E a else aW D a
theorem nt(T:an)(D E:List Bool)(k:Nat):(jo T D E k).length=2*T.ag.length:=by simp[jo]
theorem nv{T:an}{D E:List Bool}{k i:Nat}(h:i<(jo T D E k).length):(jo T D E k)[i]=if i<k then aW D i||aW E i else aW D i:=by simp[jo]
theorem yu{M:List Bool}{a:Nat}(h:a<M.length):aW M a=M[a]:=by rw[←gN];simp[h]
theorem rU{T:an}{D E:List Bool}(h:D.length=2*T.ag.length):jo T D E 0=D:=by
 apply List.ext_getElem (by rw[nt,h])
 intro i h1 h2
 rw[nv,if_neg (by omega),yu h2]
theorem u4(T:an)(D E:List Bool):jo T D E (2*T.ag.length)=orM T D E:=by
 unfold jo orM
 exact List.map_congr_left fun a ha=>if_pos (List.mem_range.1 ha)
theorem rP(T:an)(D E:List Bool)(k:Nat):(jo T D E k).set k (aW D k||aW E k)=jo T D E (k+1):=by
 apply List.ext_getElem (by simp[jo])
 intro i h1 h2
 rw[List.getElem_set,nv,nv]
 by_cases e:k=i
 ·subst e;rw[if_pos rfl,if_pos (by omega)]
 ·rw[if_neg e]
  by_cases h:i<k
  ·rw[if_pos h,if_pos (by omega)]
  ·rw[if_neg h,if_neg (by omega)]
theorem yU{T:an}{D E:List Bool}{k:Nat}(h:k<2*T.ag.length):(jo T D E k).getD k false=aW D k:=by
 have hk:k<(jo T D E k).length:=by rw[nt];exact h
 rw[List.getD_eq_getElem?_getD,List.getElem?_eq_getElem hk,Option.getD_some,nv,if_neg (by omega)]
def Au(o:Option Int):Int:=match o with|some a=>a|none=> -1
theorem DT(own:List Bool)(l:List Int)(i:Nat)(h:i<l.length):fL own (l.take (i+1))=(fL own (l.take i)).or (if aW own (l.getD i 0).toNat then some (l.getD i 0) else none):=by
 unfold fL
 rw[cX l i 0 h,List.find?_append]
 congr 1
 simp only[List.find?_cons,List.find?_nil]
 cases aW own (l.getD i 0).toNat<;>rfl
set_option maxHeartbeats 2000000 in
theorem CN(T:an)(own:List Bool)(n d:Nat)(hv:av T=true)(hfo:own.length=2*T.ag.length)(hn:(n:Int)<T.nodes)(hd:(d:Int)<T.nodes)(h12:T.nodes≤12):Can Tryz.prog 96 [aJ T,aM own,num n,num d] (· =oK (ox T own n d)):=by
 have hll:=bJ hv
 have hof:bL T own=true:=by unfold bL;rw[hfo];simp
 have hnb:aV T (n:Int)=true:=aO.2 ⟨by omega,hn⟩
 have hdb:aV T (d:Int)=true:=aO.2 ⟨by omega,hd⟩
 have htw:=vS T n d hv hn hd
 have hlen:=sU hv [] n d
 have hmem:∀a∈bm T [] n d,∃k:Nat,a=(k:Int)∧k<2*T.ag.length:=fun a ha=>by
  obtain⟨k,hk,hkn⟩:=dj ha
  exact⟨k,hk,hkn.iM⟩
 unfold ox
 obtain⟨l,hl⟩:∃l,bm T [] n d=l:=⟨_,rfl⟩
 rw[hl]at htw hlen hmem ⊢
 refine aF Tryz.func96 rfl Tryz.ntmps96 rfl<|aH<|aq 2 rfl<|aD [1,2,3,4,8] rfl ?_
 refine ab (.a 3 rfl<|.v (tI rfl (ai.cons ax.pure<|ai.cons ax.bO<|ai.cons ax.pure<|ai.cons ax.pure ai.nil) (htw)) rfl<|.a 1 rfl<|.k [1,2,3,4,8,9] rfl)<|ab (.a 1 rfl<|.k [1,2,3,4,8,9,10] rfl)<|aj<|ab (.a 1 rfl<|.k [1,2,3,4,8,9,10,11] rfl)<|au<|ee [1,2,3,4,8,9,10,11] rfl<|bf (fun r s=>∃i,i≤l.length∧r=l.length - i∧s=⟨[(1,aM own),(2,num n),(3,num d),(4,.aX (bn T) 0),(8,.ptr 0 0),(9,aw l),(10,num (Au (fL own (l.take i)))),(11,num i)],[some (.cells 76 [.raw (.slice none 0 0),flag false,.raw (.slice none 0 0)])]⟩) l.length ⟨0,by omega,by omega,rfl⟩ ?_
 rintro r s ⟨i,hi,rfl,rfl⟩
 refine aj<|ab (.a 4 rfl<|.k [1,2,3,4,8,9,10,11,26] rfl)<|af rfl (fun h1=>?_) (fun h1=>?_)
 ·have hlt:i<l.length:=by have:=tt h1;omega
  obtain⟨k,hk,hkl⟩:=hmem _ (bR (d:=0) hlt)
  have hst:=DT own l i hlt
  rw[hk,Int.toNat_natCast]at hst
  clear h1
  refine ak<|aj<|au ?_
  obtain⟨c1,hc1⟩:∃q,decide (Au (fL own (l.take i))<0)=q:=⟨_,rfl⟩
  obtain⟨c2,hc2⟩:∃q,aW own k=q:=⟨_,rfl⟩
  have hh:(fL own (l.take i)=none∧c1=true)∨∃b,fL own (l.take i)=some b∧c1=false:=by
   cases hx:fL own (l.take i)with
   |none=>rw[hx]at hc1;exact .inl ⟨rfl,by rw[←hc1];rfl⟩
   |some b=>
    refine .inr ⟨b,rfl,?_⟩
    obtain⟨k',hk',_⟩:=hmem b (List.mem_of_mem_take (nG hx).1)
    rw[←hc1,hx]
    exact decide_eq_false (by show ¬b<0;omega)
  refine bx 39 (.raw (.bool (c1&&c2))) [1,2,3,4,8,9,10,11] rfl ?_ ?_
  ·refine .a 1 rfl<|.v (b7 rfl (hc1)) rfl<|.a 1 rfl<|?_
   cases c1
   ·exact .a 8 rfl<|.k [39,1,2,3,4,8,9,10,11] rfl
   ·exact .a 3 rfl<|.v (aI (i) rfl) rfl<|.v (aK rfl ((ay l i hlt).trans (by rw[hk]))) rfl<|.v (aI (k) rfl) rfl<|.v (aK rfl ((show _=some (flag c2) by rw[cG _ k (by omega),gN,hc2]))) rfl<|.a 1 rfl<|.k [39,1,2,3,4,8,9,10,11] rfl
  refine af rfl (fun h2=>?_) (fun h2=>?_)
  ·have hnew:Au (fL own (l.take (i+1)))=(k:Int):=by
    rcases hh with⟨h,rfl⟩|⟨b,h,rfl⟩
    ·rw[hst,h,hc2];cases h2;rfl
    ·cases h2
   refine aB (.a 2 rfl<|.v (aI (i) rfl) rfl<|.v (aK rfl ((ay l i hlt).trans (by rw[hk]))) rfl<|.a 1 rfl<|.k [1,2,3,4,8,9,10,11] rfl) ?_
   refine aB (.a 1 rfl<|.v (aP rfl) rfl<|.a 1 rfl<|.k [1,2,3,4,8,9,10,11] rfl) ?_
   exact⟨l.length - (i+1),by omega,i+1,by omega,rfl,by rw[hnew];rfl⟩
  ·have hnew:Au (fL own (l.take (i+1)))=Au (fL own (l.take i)):=by
    rcases hh with⟨h,rfl⟩|⟨b,h,rfl⟩
    ·have h2:c2=false:=h2
     rw[hst,h,hc2,h2];rfl
    ·rw[hst,h];rfl
   refine ak<|aB (.a 1 rfl<|.v (aP rfl) rfl<|.a 1 rfl<|.k [1,2,3,4,8,9,10,11] rfl) ?_
   exact⟨l.length - (i+1),by omega,i+1,by omega,rfl,by rw[hnew];rfl⟩
 ·have hie:i=l.length:=by have:=ff h1;omega
  subst hie
  rw[List.take_length]
  clear h1
  refine aY<|aj<|ab (.a 2 rfl<|.k [1,2,3,4,8,9,10,45] rfl)<|af rfl (fun h3=>?_) (fun h3=>?_)
  ·have hno:fL own l=none:=by
    cases hx:fL own l with
    |none=>rfl
    |some b=>
     rw[hx]at h3
     obtain⟨k',hk',_⟩:=hmem b (nG hx).1
     exact absurd (tt h3) (by show ¬b<0;omega)
   rw[hno]
   refine aH<|aq 3 rfl<|aD [8] rfl ?_
   exact ao<|⟨_,_,aA.of rfl,ax.ew (ai.cons (ax.pure (p:=aw l))<|ai.cons ax.pure<|ai.cons ax.bO ai.nil),rfl⟩
  ·obtain⟨a,ha⟩:∃a,fL own l=some a:=by
    cases hx:fL own l with
    |none=>rw[hx]at h3;exact absurd h3 (by decide)
    |some b=>exact⟨b,rfl⟩
   obtain⟨k,rfl,hk⟩:=hmem a (nG ha).1
   rw[ha]
   simp only[Au]
   rw[Int.toNat_natCast]
   have hcm:(av T&&cc T (eZ T k d).1 (eZ T k d).2)=true:=by rw[hv,uU hv hk];rfl
   have hcn:=An T k d hv hk ⟨by omega,hd⟩
   have hmk:=fun σ=>yG T (eZ T k d).1 (eZ T k d).2 hcm σ
   have hmx:uB T own n d k=if jj T (orM T (bz T (eZ T k d).1 (eZ T k d).2) own) n d=true then orM T (bz T (eZ T k d).1 (eZ T k d).2) own else own:=rfl
   generalize eZ T k (d:Int)=cx at*
   obtain⟨ck,cy⟩:=cx
   simp only at hcm hcn hmk hmx
   have hMl:=gS T ck cy
   obtain⟨M,hM⟩:∃M,bz T ck cy=M:=⟨_,rfl⟩
   rw[hM]at hmk hmx hMl
   have hre:=qt T (uB T own n d k) n d h12
   rw[jV hv (vd hof k) hnb hdb]at hre
   clear h3 hmem
   refine ak<|aH<|aq 3 rfl<|dJ rfl (hcn) rfl<|aq 6 rfl<|aD [1,2,3,4,8,12] rfl ?_
   refine aH<|aq 2 rfl<|cP rfl rfl (bV.mono (hmk _) (fun r σ' h=>?_))
   obtain⟨rfl,rfl⟩:=h
   refine aq 5 rfl<|aD [1,2,3,4,8,14] rfl ?_
   refine aj<|ab (.a 1 rfl<|.k [1,2,3,4,8,14,16] rfl)<|ei (σ':=[some (.cells 76 [.raw (.slice none 0 0),flag false,.raw (.slice none 0 0)]),some (.cells 33 [num ck,num cy]),iL (jo T M own 0)]) (by rw[rU hMl];rfl) ?_
   refine au<|ee [1,2,3,4,8,14,16] rfl<|bf (fun r s=>∃a,a≤2*T.ag.length∧r=2*T.ag.length - a∧s=⟨[(1,aM own),(2,num n),(3,num d),(4,.aX (bn T) 0),(8,.ptr 0 0),(14,.own 2),(16,num a)],[some (.cells 76 [.raw (.slice none 0 0),flag false,.raw (.slice none 0 0)]),some (.cells 33 [num ck,num cy]),iL (jo T M own a)]⟩) (2*T.ag.length) ⟨0,by omega,by omega,rfl⟩ ?_
   rintro r s ⟨a,ha2,rfl,rfl⟩
   have hol:=nt T M own a
   refine aj<|ab (.a 4 rfl<|.k [1,2,3,4,8,14,16,64] rfl)<|af rfl (fun h4=>?_) (fun h4=>?_)
   ·have hlt:a<2*T.ag.length:=by have:=tt h4;omega
    have hst:=rP T M own a
    have hat:=yU (T:=T) (D:=M) (E:=own) hlt
    clear h4
    refine ak<|aj<|au ?_
    obtain⟨c1,hc1⟩:∃q,aW M a=q:=⟨_,rfl⟩
    obtain⟨c2,hc2⟩:∃q,aW own a=q:=⟨_,rfl⟩
    rw[hc1,hc2]at hst
    rw[hc1]at hat
    refine BL (Q1:=fun st=>st=⟨[(1,aM own),(2,num n),(3,num d),(4,.aX (bn T) 0),(8,.ptr 0 0),(14,.own 2),(16,num a)],[some (.cells 76 [.raw (.slice none 0 0),flag false,.raw (.slice none 0 0)]),some (.cells 33 [num ck,num cy]),iL (jo T M own (a+1))]⟩) ?_ ?_
    ·cases c1
     ·refine bq<|aq 4 rfl<|bA (aI (a) rfl) rfl<|bA (aK rfl ((show(bS (jo T M own a))[a]? =some (flag false) by rw[cG _ a (by omega),hat]))) rfl<|aq 3 rfl<|bA (aI (a) rfl) rfl<|bA (aK rfl ((show(bS own)[a]? =some (flag c2) by rw[cG _ a (by omega),gN,hc2]))) rfl<|aq 1 rfl<|bA (aI (a) rfl) rfl<|bh ((by first|exact bH rfl (bF.tk.get rfl) rfl rfl rfl (by first|omega|(simp;omega))|exact aS rfl (bF.tk.get rfl) rfl rfl rfl (by first|omega|(simp;omega)))) rfl rfl<|aD [1,2,3,4,8,14,16] rfl ?_
      rw[←hst]
      unfold iL
      rw[List.length_set]
      rfl
     ·refine bq<|aq 4 rfl<|bA (aI (a) rfl) rfl<|bA (aK rfl ((show(bS (jo T M own a))[a]? =some (flag true) by rw[cG _ a (by omega),hat]))) rfl<|aq 6 rfl<|bA (aI (a) rfl) rfl<|bh ((by first|exact bH rfl (bF.tk.get rfl) rfl rfl rfl (by first|omega|(simp;omega))|exact aS rfl (bF.tk.get rfl) rfl rfl rfl (by first|omega|(simp;omega)))) rfl rfl<|aD [1,2,3,4,8,14,16] rfl ?_
      rw[←hst]
      unfold iL
      rw[List.length_set]
      rfl
    rintro _ rfl
    refine aB (.a 1 rfl<|.v (aP rfl) rfl<|.a 1 rfl<|.k [1,2,3,4,8,14,16] rfl) ?_
    exact⟨2*T.ag.length - (a+1),by omega,a+1,by omega,rfl,rfl⟩
   ·have hae:a=2*T.ag.length:=by have:=ff h4;omega
    subst hae
    rw[u4]
    clear h4
    refine aY<|aj<|yr 14 2 rfl rfl ?_
    refine dy [0] (.c 1<|.c 2<|.c 3<|.c 4<|.c 8<|.c 14<|.nil) (.kept rfl (.cells (aC.c<|aC.c<|aC.c<|aC.nil))<|.nil) rfl rfl ?_
    obtain⟨q,hq⟩:∃q,jj T (orM T M own) n d=q:=⟨_,rfl⟩
    rw[hq]at hmx
    refine ab (.a 4 rfl<|.c rfl (hq▸q9 T (orM T M own) n d) rfl<|.a 1 rfl<|.k [1,2,3,4,8,14,85] rfl)<|af rfl (fun h5=>?_) (fun h5=>?_)
    ·have h5:q=false:=by simpa using h5
     rw[h5,if_neg (by simp)]at hmx
     rw[hmx]at hre ⊢
     refine aB (.a 2 rfl<|.k [2,3,4,8,14] rfl) ?_
     refine aH<|aq 4 rfl<|dJ rfl (hre) rfl<|aq 6 rfl<|aD [8,17] rfl ?_
     refine aH<|aq 2 rfl<|aD [8] rfl ?_
     exact ao<|⟨_,_,aA.of rfl,ax.pure (p:=oK _),rfl⟩
    ·have h5:q=true:=by simpa using h5
     rw[h5,if_pos rfl]at hmx
     rw[hmx]at hre ⊢
     refine ak<|aH<|aq 4 rfl<|dJ rfl (hre) rfl<|aq 6 rfl<|aD [8,17] rfl ?_
     refine aH<|aq 2 rfl<|aD [8] rfl ?_
     exact ao<|⟨_,_,aA.of rfl,ax.pure (p:=oK _),rfl⟩
theorem zQ(T:an)(k x n:Int)(h12:T.nodes≤12):Can Tryz.prog 43 [aJ T,bY k x,num n] (· =fY (if cQ T k x=0 then(if aV T n then 0 else 2) else 1) (pF T (bz T k x) n.toNat)):=by
 obtain⟨q0,hq0⟩:∃q,(av T&&cc T k x)=q:=⟨_,rfl⟩
 refine aF Tryz.func43 rfl Tryz.ntmps43 rfl<|aH<|aq 4 rfl<|aD [2,3,4,6] rfl ?_
 refine aj<|ab (.a 2 rfl<|.c rfl (hq0▸gz T k x) rfl<|.a 1 rfl<|.k [2,3,4,6,15] rfl)<|af rfl (fun h1=>?_) (fun h1=>?_)
 ·have h1:q0=false:=by simpa using h1
  have he:cQ T k x=1:=by unfold cQ;rw[hq0,h1];rfl
  rw[he]
  refine aH<|aq 3 rfl<|aD [6,7] rfl ?_
  exact ao<|⟨_,_,aA.of rfl,ax.ba (ai.cons (ax.ew (ai.cons ax.pure<|ai.cons ax.bO<|ai.cons ax.bO ai.nil)) (ai.cons ax.pure ai.nil)),rfl⟩
 ·have h1:q0=true:=by simpa using h1
  subst h1
  have he:cQ T k x=0:=by unfold cQ;rw[if_pos hq0]
  rw[he,if_pos rfl]
  obtain⟨hv,hc⟩:=Bool.and_eq_true_iff.1 hq0
  have hll:=bJ hv
  refine ak<|aj ?_
  obtain⟨q1,hq1⟩:∃q,decide (n<0)=q:=⟨_,rfl⟩
  obtain⟨q2,hq2⟩:∃q,decide (T.nodes≤n)=q:=⟨_,rfl⟩
  have hnb:aV T n= !(q1||q2):=by rw[←hq1,←hq2];unfold aV;by_cases h1:n<0<;>by_cases h2:T.nodes≤n<;>simp[h1,h2]<;>omega
  refine bx 24 (.raw (.bool (q1||q2))) [2,3,4,6] rfl ?_ ?_
  ·refine .a 1 rfl<|.v (b7 rfl (hq1)) rfl<|.a 1 rfl<|?_
   cases q1
   ·exact .a 3 rfl<|.v (b7 rfl (hq2)) rfl<|.a 1 rfl<|.k [24,2,3,4,6] rfl
   ·exact .a 5 rfl<|.k [24,2,3,4,6] rfl
  refine af rfl (fun h2=>?_) (fun h2=>?_)
  ·have hn:aV T n=false:=by rw[hnb,h2];rfl
   rw[hn]
   refine aH<|aq 3 rfl<|aD [6,7] rfl ?_
   exact ao<|⟨_,_,aA.of rfl,ax.ba (ai.cons (ax.ew (ai.cons ax.pure<|ai.cons ax.bO<|ai.cons ax.bO ai.nil)) (ai.cons ax.pure ai.nil)),rfl⟩
  ·have hn:aV T n=true:=by rw[hnb,h2];rfl
   rw[hn,if_pos rfl]
   rw[aO]at hn
   obtain⟨m,rfl⟩:=Int.eq_ofNat_of_zero_le hn.1
   rw[Int.toNat_natCast]
   obtain⟨N,hN⟩:∃N:Nat,T.nodes=(N:Int):=⟨T.nodes.toNat,by omega⟩
   have hdw:=oX T k x m hq0
   obtain⟨M,hM⟩:∃M,bz T k x=M:=⟨_,rfl⟩
   rw[hM]at hdw ⊢
   unfold pF
   have hol:(jx T M m).length=2*T.ag.length:=by simp[jx]
   obtain⟨own,hown⟩:∃own,jx T M m=own:=⟨_,rfl⟩
   rw[hown]at hdw hol ⊢
   refine ak<|ab (.a 3 rfl<|.c rfl (hdw) rfl<|.a 5 rfl<|.k [2,3,6,8,9] rfl)<|aH<|aq 2 rfl<|bA (pG (fG (xs:=[_,_,_]) rfl (bF.st.get rfl) rfl rfl) (ga.refl _)) rfl<|aq 2 rfl<|aD [2,3,6,9,10] rfl ?_
   refine bZ 1 1 76 3 rfl rfl ?_
   refine aj<|ab (.a 1 rfl<|.k [2,3,6,9,10,11] rfl)<|au<|ee [2,3,6,9,10,11] rfl<|bf (fun r s=>∃j,j≤N∧r=N - j∧s=⟨[(2,num m),(3,.aX (bn T) 0),(6,.ptr 0 0),(9,aM own),(10,.ptr 1 0),(11,num j)],[some (.cells 56 [num 0,.raw (.slice none 0 0),.raw (.slice none 0 0)]),some (.cells 56 [num m,.own 2,aw (cj M (bC T m))]),some (.row 76 3 j (cV (mT T own m j)))]⟩) N ⟨0,by omega,by omega,rfl⟩ ?_
   rintro r s ⟨j,hj,rfl,rfl⟩
   refine aj<|ab (.a 2 rfl<|.v (aK rfl ((show some (num T.nodes)=some (num (N:Int)) by rw[hN]))) rfl<|.a 1 rfl<|.k [2,3,6,9,10,11,39] rfl)<|af rfl (fun h3=>?_) (fun h3=>?_)
   ·have hlt:j<N:=by have:=tt h3;omega
    have hre:=CN T own m j hv hol hn.2 (by omega) h12
    refine ak<|aj<|au<|cS 8 20 mixed (
     .val [10] rfl (bI rfl) rfl rfl<|
     .val [42] rfl (bI rfl) rfl rfl<|
     .val [3] rfl (bI rfl) rfl rfl<|
     .val [9] rfl (bI rfl) rfl rfl<|
     .val [2] rfl (bI rfl) rfl rfl<|
     .val [11] rfl (bI rfl) rfl rfl<|
     .val [44,45,46,47] rfl (dw rfl (hre)) rfl rfl<|
     .val [48] rfl (bI rfl) rfl rfl<|
     .nil) (by kernel_rfl) rfl rfl (bd (ks:=[2,3,6,9,10,11,43,49]) rfl) ?_
    refine cf (bu rfl (bF.rk.get rfl) rfl rfl rfl rfl (by unfold maxLen;omega)) rfl<|aq 2 rfl ?_
    refine de [0,1,3] (.c 2<|.c 3<|.c 6<|.c 9<|.c 10<|.c 11<|.nil) (.kept rfl (.cells (aC.c<|aC.c<|aC.c<|aC.nil))<|.kept rfl (.cells (aC.c<|aC.c<|aC.c<|aC.nil))<|.kept rfl (.ec rfl (show _=cV (mT T own m (j+1)) by rw[si];exact gL _ _))<|.nil) rfl rfl (aU ?_)
    refine aB (.a 1 rfl<|.v (aP rfl) rfl<|.a 1 rfl<|.k [2,3,6,9,10,11] rfl) ?_
    exact⟨N - (j+1),by omega,j+1,by omega,rfl,rfl⟩
   ·have hje:j=N:=by have:=ff h3;omega
    subst hje
    refine aY<|aH<|bA (dI (ys:=[num m,.own 2,aw (cj M (bC T m))]) rfl (bF.tk.get rfl) rfl rfl rfl rfl) rfl<|aq 2 rfl<|aD [6,7] rfl ?_
    refine ao<|⟨_,_,aA.of rfl,ax.ba (ai.cons (ax.ew (ai.cons ax.pure<|ai.cons (ax.dX rfl ai.pure)<|ai.cons ax.pure ai.nil)) (ai.cons ax.pure ai.nil)),?_⟩
    unfold fY dx fe iE aw
    rw[if_pos rfl,nD,show T.nodes.toNat=j by omega]
end PW
end Go.Proofs.YtnegbdpggideiaaGreatDoor
namespace Go.Proofs.YtnegbdpggideiaaGreatDoor
namespace PW
open Go.RowKit cH Mem Net
theorem A8(rs:List (List Int))(i:Nat)(hi:i<rs.length):Can Tryz.prog 204 ([num i]++[.aX [jb rs] 0]) (· =aw (rs.getD i [])):=by
 exact aF Tryz.func204 rfl Tryz.ntmps204 rfl<|ab (.a 1 rfl<|.k [0,1] rfl)<|ab (.a 2 rfl<|.v (aI (i) rfl) rfl<|.v (aK rfl ((show(rs.map aw)[i]? =some (aw (rs.getD i [])) by simp[hi]))) rfl<|.a 1 rfl<|.k [3] rfl)<|ao<|⟨_,_,aA.of rfl,ax.pure,rfl⟩
theorem Bw(T:an)(a:Nat)(ha:a<2*T.ag.length)(hl:T.ag.length≤4611686018427387902):Can Tryz.prog 205 ([num a]++[.aX (bn T) 0]) (· =num (bb T a)):=by
 exact aF Tryz.func205 rfl Tryz.ntmps205 rfl<|ab (.a 1 rfl<|.k [0,1] rfl)<|ab (.a 2 rfl<|.c rfl (fA T a ha hl) rfl<|.a 1 rfl<|.k [3] rfl)<|ao<|⟨_,_,aA.of rfl,ax.pure,rfl⟩
theorem CI(T:an)(D:List Bool)(d:Int):Can Tryz.prog 180 [aJ T,aM D,num d] (· =df (ca T D [d]) (bE T D d.toNat true)):=by
 refine aF Tryz.func180 rfl Tryz.ntmps180 rfl<|ab (.a 3 rfl<|.k [1,2,3] rfl)<|aj<|ab (.a 4 rfl<|.c rfl (oE T D [d] (by simp)) rfl<|.a 1 rfl<|.k [1,2,3,8] rfl)<|ab (.a 2 rfl<|.k [1,2,3,8,17] rfl)<|af rfl (fun hc=>?_) (fun hc=>?_)
 ·have he:ca T D [d]≠0:=of_decide_eq_true hc
  exact ab (.a 3 rfl<|.k [6,7] rfl)<|ao<|⟨_,_,aA.of rfl,ax.ba (ai.cons ax.bO (ai.cons ax.pure ai.nil)),by unfold df;rw[if_neg he];rfl⟩
 ·have he:ca T D [d]=0:=by have:=of_decide_eq_false hc;omega
  have hok:(av T&&bL T D)=true∧aV T d=true:=by
   unfold ca at he
   split at he
   ·rename_i h1
    split at he
    ·rename_i h2;exact⟨h1,by simpa using h2⟩
    ·omega
   ·omega
  obtain⟨hvf,hnd⟩:=hok
  obtain⟨hv,hf⟩:=Bool.and_eq_true_iff.1 hvf
  have hd:0≤d∧d<T.nodes:=by simpa[aV]using hnd
  obtain⟨n,rfl⟩:=Int.eq_ofNat_of_zero_le hd.1
  have hS:=aQ hv
  refine ak<|aH<|aq 1 rfl<|dJ rfl (kX T hv) rfl<|aq 2 rfl<|aD [1,2,3,9] rfl ?_
  refine aH<|aq 3 rfl<|bA (dO rfl rfl) rfl<|aq 4 rfl<|aD [10] rfl ?_
  refine wR (.cons 10 rfl (ax.jy rfl (ai.cons ax.pure<|ai.cons ax.pure<|ai.cons ax.pure<|ai.cons ax.pure<|ai.cons ax.pure<|ai.cons (ax.iG (ai.cons (ax.jy rfl (ai.cons ax.pure ai.nil)) ai.nil))<|ai.cons ax.pure ai.nil)) .nil) ?_
  exact ab (.a 1 rfl<|.c rfl (zF T D n true 204 205 [.aX [jb (dA (bw T) T.nodes.toNat (2*T.ag.length))] 0] [.aX (bn T) 0] hv hf hd.2 (by kernel_rfl) (by kernel_rfl) (fun i hi=>by have h:=A8 (dA (bw T) T.nodes.toNat (2*T.ag.length)) i (by rw[eQ];omega);rw[iT _ _ _ _ (by omega)]at h;exact h) (fun a ha=>Bw T a ha (by have:=bJ hv;omega))) rfl<|.a 2 rfl<|.k [6,7] rfl)<|ao<|⟨_,_,aA.of rfl,ax.pure,by unfold df;rw[if_pos he,he];rfl⟩
end PW
end Go.Proofs.YtnegbdpggideiaaGreatDoor
