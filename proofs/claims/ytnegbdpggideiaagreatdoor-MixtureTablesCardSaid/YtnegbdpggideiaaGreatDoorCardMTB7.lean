/- Texts of the proof, part 7. -/
import Derived.Laws.StructEq
import Derived.Test.YtnegbdpggideiaaGreatDoorCardMTB6
set_option linter.unusedVariables false
set_option linter.unusedSimpArgs false
set_option maxRecDepth 10000
set_option maxHeartbeats 1000000
namespace Go.Proofs.YtnegbdpggideiaaGreatDoor
namespace PW
open Go.RowKit cH Mem Net
def zq(T:an)(D:List Bool)(L:List Int)(a d:Nat):Bool:=
 ((((!aW D a)&&decide (bw T a≠(d:Int)))&&decide (0≤L.getD (bb T a).toNat 0))&&(decide ((bb T a).toNat=d)|| !cN T (bb T a).toNat))&&decide (L.getD (bw T a).toNat 0=L.getD (bb T a).toNat 0+cb T a)
theorem yl(T:an)(D:List Bool)(L:List Int)(a d:Nat)(hv:av T=true)(hf:bL T D=true)(hL:(L.length:Int)=T.nodes)(hub:∀x∈L, -1≤x∧x≤4194240)(ha:a<2*T.ag.length):
  Can Tryz.prog 44 [aJ T,aM D,aw L,num a,num d] (· =flag (zq T D L a d)):=by
 have hS:=aQ hv
 obtain⟨x,hx⟩:=Int.eq_ofNat_of_zero_le (hS.tail a ha).1
 obtain⟨y,hy⟩:=Int.eq_ofNat_of_zero_le (hS.head a ha).1
 have hxL:x<L.length:=by have:=(hS.tail a ha).2;omega
 have hyL:y<L.length:=by have:=(hS.head a ha).2;omega
 have hcb:=hS.cost a ha
 have hDl:D.length=0∨a<D.length:=by simp only[bL,decide_eq_true_eq]at hf;omega
 have uy:=hub _ (bR (d:=0) hyL)
 obtain⟨p1,hp1⟩:∃q,(!aW D a)=q:=⟨_,rfl⟩
 obtain⟨p2,hp2⟩:∃q,decide ((x:Int)≠(d:Int))=q:=⟨_,rfl⟩
 obtain⟨p3,hp3⟩:∃q,decide (0≤L.getD y 0)=q:=⟨_,rfl⟩
 obtain⟨p4,hp4⟩:∃q,(decide (y=d)|| !cN T y)=q:=⟨_,rfl⟩
 obtain⟨p5,hp5⟩:∃q,decide (L.getD x 0=L.getD y 0+cb T a)=q:=⟨_,rfl⟩
 have hon:zq T D L a d=((((p1&&p2)&&p3)&&p4)&&p5):=by
  unfold zq
  rw[hx,hy,Int.toNat_natCast,Int.toNat_natCast,hp1,hp2,hp3,hp4,hp5]
 rw[hon]
 refine aF Tryz.func44 rfl Tryz.ntmps44 rfl<|ab (.a 2 rfl<|.k [1,2,3,4,5] rfl)<|dH mixed (by kernel_rfl) (.a 2 rfl<|.v [13,14] (dw rfl (hx▸eJ T hv a ha)) rfl rfl<|.a 2 rfl<|.v [16,17] (dw rfl (hy▸gP T hv a ha)) rfl rfl<|.a 2 rfl<|.k [1,2,3,4,5,11,12] rfl) ?_
 refine kC mixed (by kernel_rfl) 10 (.raw (.bool ((((p1&&p2)&&p3)&&p4)&&p5))) [] rfl ?_ ?_
 ·refine .a 2 rfl<|.v [19,20] (dw rfl (hp1▸nz D a hDl)) rfl rfl<|.a 1 rfl<|?_
  cases p1
  ·exact .a 33 rfl<|.k [10] rfl
  ·refine .a 2 rfl<|.v [23,24] (b7 rfl (hp2)) rfl rfl<|.a 2 rfl<|?_
   cases p2
   ·exact .a 28 rfl<|.k [10] rfl
   ·refine .a 2 rfl<|.v [28,29] (aI (y) rfl) rfl rfl<|.v [30] (aK rfl (ay L y hyL)) rfl rfl<|.v [31] (b7 rfl (hp3)) rfl rfl<|.a 2 rfl<|?_
    cases p3
    ·exact .a 21 rfl<|.k [10] rfl
    ·refine .a 3 rfl<|.v [35,36,37] (dw rfl (hp4▸kG T hv y d)) rfl rfl<|.a 2 rfl<|?_
     cases p4
     ·exact .a 15 rfl<|.k [10] rfl
     ·exact .a 2 rfl<|.v [41,42] (aI (x) rfl) rfl rfl<|.v [43] (aK rfl (ay L x hxL)) rfl rfl<|.a 2 rfl<|.v [45,46] (aI (y) rfl) rfl rfl<|.v [47] (aK rfl (ay L y hyL)) rfl rfl<|.a 2 rfl<|.v [49,50] (dw rfl (kq T hv a ha)) rfl rfl<|.v [48,51] (aP rfl) rfl rfl<|.v [44,52] (b7 rfl (hp5)) rfl rfl<|.a 2 rfl<|.k [10] rfl
 exact ao<|⟨_,_,aA.of rfl,ax.pure,rfl⟩
def fD(T:an)(D:List Bool)(L:List Int)(n d k:Nat):List Int:=((List.range k).filter fun a=>decide (bw T a=(n:Int))&&zq T D L a d).map Int.ofNat
theorem nU(T:an)(D:List Bool)(L:List Int)(n d k:Nat):fD T D L n d (k+1)=fD T D L n d k++(if decide (bw T k=(n:Int))&&zq T D L k d then [(k:Int)] else []):=by
 unfold fD
 rw[List.range_succ,List.filter_append,List.map_append]
 congr 1
 simp only[List.filter_cons,List.filter_nil]
 split<;>simp
theorem o6(T:an)(D:List Bool)(L:List Int)(n d k:Nat):(fD T D L n d k).length≤k:=by
 unfold fD
 rw[List.length_map]
 exact Nat.le_trans (List.length_filter_le _ _) (by simp)
theorem qe(T:an)(D:List Bool)(L:List Int)(n d:Nat)(hv:av T=true)(hf:bL T D=true)(hL:(L.length:Int)=T.nodes)(hub:∀x∈L, -1≤x∧x≤4194240):
  Can Tryz.prog 209 [aJ T,aM D,aw L,num n,num d] (· =aw (fD T D L n d (2*T.ag.length))):=by
 have hll:=bJ hv
 refine aF Tryz.func209 rfl Tryz.ntmps209 rfl<|ab (.a 2 rfl<|.k [1,2,3,4,5] rfl)<|ab (.a 1 rfl<|.k [1,2,3,4,5,11] rfl)<|eo 11 3 1 rfl ?_
 refine aj<|ab (.a 1 rfl<|.k [1,2,3,4,5,11,12] rfl)<|au<|ee [1,2,3,4,5,11,12] rfl<|bf (fun r s=>∃k,k≤2*T.ag.length∧r=2*T.ag.length - k∧s=⟨[(1,aM D),(2,aw L),(3,num n),(4,num d),(5,.aX (bn T) 0),(11,.own 0),(12,num k)],[some (.row 3 1 (fD T D L n d k).length (aN (fD T D L n d k)))]⟩) (2*T.ag.length) ⟨0,by omega,by omega,rfl⟩ ?_
 rintro r s ⟨k,hk,rfl,rfl⟩
 refine aj<|ab (.a 4 rfl<|.v (aP rfl (hc:=rfl)) rfl<|.a 1 rfl<|.k [1,2,3,4,5,11,12,18] rfl)<|af rfl (fun hc=>?_) (fun hc=>?_)
 ·have hlt:k<2*T.ag.length:=by have:=of_decide_eq_true hc;omega
  have hlen:=o6 T D L n d k
  have hst:=nU T D L n d k
  refine ak<|aj<|au ?_
  obtain⟨p1,hp1⟩:∃q,decide (bw T k=(n:Int))=q:=⟨_,rfl⟩
  obtain⟨p2,hp2⟩:∃q,zq T D L k d=q:=⟨_,rfl⟩
  refine bx 33 (.raw (.bool (p1&&p2))) [1,2,3,4,5,11,12] rfl ?_ ?_
  ·refine .a 2 rfl<|.c rfl (eJ T hv k hlt) rfl<|.a 1 rfl<|.v (b7 rfl (hp1)) rfl<|.a 1 rfl<|?_
   cases p1
   ·exact .a 7 rfl<|.k [33,1,2,3,4,5,11,12] rfl
   ·exact .a 5 rfl<|.c rfl (hp2▸yl T D L k d hv hf hL hub hlt) rfl<|.a 1 rfl<|.k [33,1,2,3,4,5,11,12] rfl
  refine af rfl (fun hc=>?_) (fun hc=>?_)
  ·rw[hp1,hp2,hc,if_pos rfl]at hst
   refine bq<|aq 3 rfl<|cf (bu rfl (bF.rk.get rfl) rfl rfl rfl rfl (by unfold maxLen;omega)) rfl<|aq 1 rfl ?_
   refine de [1] (.c 1<|.c 2<|.c 3<|.c 4<|.c 5<|.c 11<|.c 12<|.nil) (.kept rfl (.ec rfl (cB _ _))<|.nil) rfl rfl (aU ?_)
   refine aB (.a 1 rfl<|.v (aP rfl) rfl<|.a 1 rfl<|.k [1,2,3,4,5,11,12] rfl) ?_
   refine⟨2*T.ag.length - (k+1),by omega,k+1,by omega,rfl,?_⟩
   rw[hst]
   first
    |rfl
    |(simp only[List.length_append,List.length_singleton];rfl)
  ·rw[hp1,hp2,hc,if_neg (by simp),List.append_nil]at hst
   refine ak<|aB (.a 1 rfl<|.v (aP rfl) rfl<|.a 1 rfl<|.k [1,2,3,4,5,11,12] rfl) ?_
   refine⟨2*T.ag.length - (k+1),by omega,k+1,by omega,rfl,?_⟩
   rw[hst]
   first
    |rfl
    |(simp only[List.length_append,List.length_singleton];rfl)
 ·have hke:k=2*T.ag.length:=by have:=of_decide_eq_false hc;omega
  subst hke
  exact aY<|ab (.a 2 rfl<|.k [10] rfl)<|ao<|⟨_,_,aA.of rfl,ax.dX rfl ai.pure,rfl⟩
theorem oI(T:an)(D:List Bool)(n d:Nat)(hv:av T=true)(hn:(n:Int)<T.nodes):fD T D (bE T D d false) n d (2*T.ag.length)=bm T D n d:=by
 have hS:=aQ hv
 unfold bm
 generalize bE T D d false=L
 have hpass:∀k,k<2*T.ag.length→(decide (bw T k=(n:Int))&&zq T D L k d)=if n=d∨L.getD n 0<0 then false else(bw T k==(n:Int))&&fS T D L (L.getD n 0) d k:=fun k hk=>by
  obtain⟨y,hy⟩:=Int.eq_ofNat_of_zero_le (hS.head k hk).1
  have hc:=hS.cost k hk
  by_cases ht:bw T k=(n:Int)
  ·simp only[ht,decide_true,Bool.true_and,beq_self_eq_true]
   unfold zq fS
   rw[ht,hy,Int.toNat_natCast,Int.toNat_natCast]
   generalize L.getD n 0=u
   generalize L.getD y 0=v
   by_cases h1:n=d
   ·simp[h1]
   ·by_cases h2:u<0
    ·rw[if_pos (.inr h2)]
     by_cases h3:0≤v
     ·have:¬u=v+cb T k:=by omega
      simp[this]
     ·simp[h3]
    ·rw[if_neg (by omega)]
     have e1:decide ((n:Int)≠(d:Int))=true:=by simp;omega
     have e2:decide (v<0)= !decide (0≤v):=by
      by_cases h:0≤v
      ·simp only[h,decide_true,Bool.not_true,decide_eq_false_iff_not];omega
      ·simp only[h,decide_false,Bool.not_false,decide_eq_true_eq];omega
     have e3:decide ((y:Int)≠(d:Int))= !decide (y=d):=by
      by_cases h:y=d
      ·simp[h]
      ·simp only[h,decide_false,Bool.not_false,decide_eq_true_eq];omega
     have e4:decide (v+cb T k=u)=decide (u=v+cb T k):=by
      by_cases h:u=v+cb T k
      ·simp[h]
      ·simp only[h,decide_false,decide_eq_false_iff_not];omega
     rw[e1,e2,e3,e4]
     generalize decide (0≤v)=b1
     generalize decide (y=d)=b2
     generalize decide (u=v+cb T k)=b3
     cases aW D k<;>cases b1<;>cases b2<;>cases b3<;>cases cN T y<;>rfl
  ·simp[ht]
 unfold fD
 rw[show(List.range (2*T.ag.length)).filter (fun a=>decide (bw T a=(n:Int))&&zq T D L a d)=(List.range (2*T.ag.length)).filter (fun k=>if n=d∨L.getD n 0<0 then false else(bw T k==(n:Int))&&fS T D L (L.getD n 0) d k) from List.filter_congr fun k hk=>hpass k (List.mem_range.1 hk)]
 by_cases h:n=d∨L.getD n 0<0
 ·simp only[if_pos h];simp
 ·simp only[if_neg h]
  unfold jC bC gv
  rw[List.filter_map]
  congr 1
  rw[List.filter_filter]
  apply List.filter_congr
  intro k _
  simp[Function.comp,Bool.and_comm]
theorem AR(T:an)(D:List Bool)(n d:Int):Can Tryz.prog 191 [aJ T,aM D,num n,num d] (· =df (bQ T D n d) (bm T D n.toNat d.toNat)):=by
 refine aF Tryz.func191 rfl Tryz.ntmps191 rfl<|ab (.a 3 rfl<|.k [1,2,3,4] rfl)<|ab (.a 3 rfl<|.c rfl (jR T D d) rfl<|.a 5 rfl<|.k [1,2,3,4,10,11] rfl)<|aj<|ab (.a 2 rfl<|.k [1,2,3,4,10,11,20] rfl)<|af rfl (fun hc=>?_) (fun hc=>?_)
 ·have he:ca T D [d]≠0:=of_decide_eq_true hc
  exact ab (.a 3 rfl<|.k [8,9] rfl)<|ao<|⟨_,_,aA.of rfl,ax.ba (ai.cons ax.bO (ai.cons ax.pure ai.nil)),by unfold df bQ;rw[if_neg he,if_neg he];rfl⟩
 ·have he:ca T D [d]=0:=by have:=of_decide_eq_false hc;omega
  rw[he]
  obtain⟨hv,hf,hd⟩:=oC he
  have hd:=aO.1 (hd d (by simp))
  obtain⟨d,rfl⟩:=Int.eq_ofNat_of_zero_le hd.1
  obtain⟨hb1,hb2⟩:=cW (D:=D) hv (dir:=false) hd.2
  refine ak<|aj ?_
  obtain⟨q1,hq1⟩:∃q,decide (n<0)=q:=⟨_,rfl⟩
  obtain⟨q2,hq2⟩:∃q,decide (T.nodes≤n)=q:=⟨_,rfl⟩
  have hnb:aV T n= !(q1||q2):=by rw[←hq1,←hq2];unfold aV;by_cases h1:n<0<;>by_cases h2:T.nodes≤n<;>simp[h1,h2]<;>omega
  refine bx 29 (.raw (.bool (q1||q2))) [1,2,3,4,10] rfl ?_ ?_
  ·refine .a 1 rfl<|.v (b7 rfl (hq1)) rfl<|.a 1 rfl<|?_
   cases q1
   ·exact .a 3 rfl<|.v (b7 rfl (hq2)) rfl<|.a 1 rfl<|.k [29,1,2,3,4,10] rfl
   ·exact .a 5 rfl<|.k [29,1,2,3,4,10] rfl
  refine af rfl (fun hc=>?_) (fun hc=>?_)
  ·rw[hc]at hnb
   exact ab (.a 2 rfl<|.k [8,9] rfl)<|ao<|⟨_,_,aA.of rfl,ax.ba (ai.cons ax.bO (ai.cons ax.pure ai.nil)),by unfold df bQ;rw[if_pos he,hnb];rfl⟩
  ·rw[hc]at hnb
   have hn:=aO.1 hnb
   obtain⟨n,rfl⟩:=Int.eq_ofNat_of_zero_le hn.1
   have hcon:=qe T D (bE T D d false) n d hv hf hb1 hb2
   rw[oI T D n d hv hn.2]at hcon
   exact ak<|ab (.a 5 rfl<|.c rfl (hcon) rfl<|.a 2 rfl<|.k [8,9] rfl)<|ao<|⟨_,_,aA.of rfl,ax.pure,by unfold df bQ;rw[if_pos he,hnb];rfl⟩
theorem gg(T:an)(hv:av T=true)(n:Int):Can Tryz.prog 61 [aJ T,num n] (· =aw (bC T n)):=by
 have hll:=bJ hv
 refine aF Tryz.func61 rfl Tryz.ntmps61 rfl<|ab (.a 2 rfl<|.k [1,2] rfl)<|ab (.a 1 rfl<|.k [1,2,5] rfl)<|eo 5 3 1 rfl ?_
 refine aj<|ab (.a 1 rfl<|.k [1,2,5,6] rfl)<|au<|ee [1,2,5,6] rfl<|bf (fun r s=>∃k,k≤2*T.ag.length∧r=2*T.ag.length - k∧s=⟨[(1,num n),(2,.aX (bn T) 0),(5,.own 0),(6,num k)],[some (.row 3 1 (gv T n k).length (aN (gv T n k)))]⟩) (2*T.ag.length) ⟨0,by omega,by omega,rfl⟩ ?_
 rintro r s ⟨k,hk,rfl,rfl⟩
 refine aj<|ab (.a 2 rfl<|.c rfl (jU T hv) rfl<|.a 1 rfl<|.k [1,2,5,6,10] rfl)<|af rfl (fun hc=>?_) (fun hc=>?_)
 ·have hlt:k<2*T.ag.length:=by have:=of_decide_eq_true hc;omega
  have hlen:=dB T n k
  refine ak<|aj<|au<|ab (.a 2 rfl<|.c rfl (eJ T hv k hlt) rfl<|.a 2 rfl<|.k [1,2,5,6,17] rfl)<|af rfl (fun hc=>?_) (fun hc=>?_)
  ·have hst:=sg T n k (by simpa using of_decide_eq_true hc)
   refine bq<|aq 3 rfl<|cf (bu rfl (bF.rk.get rfl) rfl rfl rfl rfl (by unfold maxLen;omega)) rfl<|aq 1 rfl ?_
   refine de [1] (.c 1<|.c 2<|.c 5<|.c 6<|.nil) (.kept rfl (.ec rfl (cB _ _))<|.nil) rfl rfl (aU ?_)
   refine aB (.a 1 rfl<|.v (aP rfl) rfl<|.a 1 rfl<|.k [1,2,5,6] rfl) ?_
   refine⟨2*T.ag.length - (k+1),by omega,k+1,by omega,rfl,?_⟩
   rw[hst]
   first
    |rfl
    |(simp only[List.length_append,List.length_singleton];rfl)
  ·have hst:=vh T n k (by simpa using of_decide_eq_false hc)
   refine ak<|aB (.a 1 rfl<|.v (aP rfl) rfl<|.a 1 rfl<|.k [1,2,5,6] rfl) ?_
   refine⟨2*T.ag.length - (k+1),by omega,k+1,by omega,rfl,?_⟩
   rw[hst]
   first
    |rfl
    |(simp only[List.length_append,List.length_singleton];rfl)
 ·have hke:k=2*T.ag.length:=by have:=of_decide_eq_false hc;omega
  subst hke
  exact aY<|ab (.a 2 rfl<|.k [4] rfl)<|ao<|⟨_,_,aA.of rfl,ax.dX rfl ai.pure,rfl⟩
end PW
end Go.Proofs.YtnegbdpggideiaaGreatDoor
namespace Go.Proofs.YtnegbdpggideiaaGreatDoor
namespace PW
open Go.RowKit cH Mem Net
theorem pg(T:an)(D:List Bool)(n:Int):Can Tryz.prog 166 [aJ T,aM D,num n] (· = .tuple [dx (fE T D n),num (ca T D [n])]):=by
 refine aF Tryz.func166 rfl Tryz.ntmps166 rfl<|aH<|aq 3 rfl<|aD [1,2,3,6] rfl ?_
 refine aj<|ab (.a 2 rfl<|.c rfl (jM T D) rfl<|.a 1 rfl<|.k [1,2,3,6,17] rfl)<|af rfl (fun hc=>?_) (fun hc=>?_)
 ·have hch:ca T D [n]=1:=by
   unfold ca
   rw[if_neg]
   revert hc
   cases(av T&&bL T D)<;>simp
  refine aH<|aq 3 rfl<|aD [6,7] rfl ?_
  exact ao<|⟨_,_,aA.of rfl,ax.ba (ai.cons (ax.ew (ai.cons ax.pure<|ai.cons ax.bO<|ai.cons ax.bO ai.nil)) (ai.cons ax.pure ai.nil)),by unfold fE;rw[hch];rfl⟩
 ·have hok:(av T&&bL T D)=true:=by revert hc;cases(av T&&bL T D)<;>simp
  refine ak<|aj ?_
  obtain⟨q1,hq1⟩:∃q,decide (n<0)=q:=⟨_,rfl⟩
  obtain⟨q2,hq2⟩:∃q,decide (T.nodes≤n)=q:=⟨_,rfl⟩
  have hnb:aV T n= !(q1||q2):=by rw[←hq1,←hq2];unfold aV;by_cases h1:n<0<;>by_cases h2:T.nodes≤n<;>simp[h1,h2]<;>omega
  refine bx 26 (.raw (.bool (q1||q2))) [1,2,3,6] rfl ?_ ?_
  ·refine .a 1 rfl<|.v (b7 rfl (hq1)) rfl<|.a 1 rfl<|?_
   cases q1
   ·exact .a 3 rfl<|.v (b7 rfl (hq2)) rfl<|.a 1 rfl<|.k [26,1,2,3,6] rfl
   ·exact .a 5 rfl<|.k [26,1,2,3,6] rfl
  refine af rfl (fun hc=>?_) (fun hc=>?_)
  ·have hn:aV T n=false:=by rw[hnb,hc];rfl
   have hch:ca T D [n]=2:=by
    unfold ca
    rw[if_pos hok,if_neg]
    simp[hn]
   refine aH<|aq 3 rfl<|aD [6,7] rfl ?_
   exact ao<|⟨_,_,aA.of rfl,ax.ba (ai.cons (ax.ew (ai.cons ax.pure<|ai.cons ax.bO<|ai.cons ax.bO ai.nil)) (ai.cons ax.pure ai.nil)),by unfold fE;rw[hch];rfl⟩
  ·have hn:aV T n=true:=by rw[hnb,hc];rfl
   have hch:ca T D [n]=0:=by
    unfold ca
    rw[if_pos hok,if_pos]
    simp[hn]
   obtain⟨hv,hf⟩:=Bool.and_eq_true_iff.1 hok
   rw[aO]at hn
   obtain⟨m,rfl⟩:=Int.eq_ofNat_of_zero_le hn.1
   obtain⟨N,hN⟩:∃N:Nat,T.nodes=(N:Int):=⟨T.nodes.toNat,by omega⟩
   have hN64:N≤64:=by have:=(aQ hv).nodes;omega
   have hll:=bJ hv
   clear hc hq1 hq2 hnb
   refine ak<|aH<|aq 4 rfl<|aD [1,2,3,6,8] rfl ?_
   refine bZ 1 1 76 3 rfl rfl ?_
   refine bZ 1 2 3 1 rfl rfl ?_
   refine aj<|ab (.a 1 rfl<|.k [1,2,3,6,8,9] rfl)<|au<|ee [1,2,3,6,8,9] rfl<|bf (fun r s=>∃j,j≤N∧r=N - j∧s=⟨[(1,aM D),(2,num m),(3,.aX (bn T) 0),(6,.ptr 0 0),(8,.ptr 1 0),(9,num j)],[some (.cells 56 [num 0,.raw (.slice none 0 0),.raw (.slice none 0 0)]),some (.cells 56 [num m,.own 2,.own 3]),some (.row 76 3 j (cV (mU T D m j))),some (.row 3 1 0 [])]⟩) N ⟨0,by omega,by omega,rfl⟩ ?_
   rintro r s ⟨j,hj,rfl,rfl⟩
   refine aj<|ab (.a 2 rfl<|.v (aK rfl ((show some (num T.nodes)=some (num (N:Int)) by rw[hN]))) rfl<|.a 1 rfl<|.k [1,2,3,6,8,9,33] rfl)<|af rfl (fun hc=>?_) (fun hc=>?_)
   ·have hlt:j<N:=by have:=of_decide_eq_true hc;omega
    have hne:bQ T D (m:Int) (j:Int)=0:=by
     have hnb:aV T (j:Int)=true:=aO.2 ⟨by omega,by omega⟩
     have hch':ca T D [(j:Int)]=0:=by
      unfold ca
      rw[if_pos hok,if_pos]
      simp[hnb]
     unfold bQ
     rw[if_pos hch',if_pos (aO.2 hn)]
    have hnx:Can Tryz.prog 191 [aJ T,aM D,num m,num j] (· = .tuple [aw (bm T D m j),num 0]):=by
     have h:=AR T D (m:Int) (j:Int)
     rw[hne]at h
     exact h
    refine ak<|aj<|au<|ab (.a 4 rfl<|.c rfl (hnx) rfl<|.a 5 rfl<|.k [1,2,3,6,8,9,10] rfl)<|bq<|aq 3 rfl<|bA (pG (fG (xs:=[_,_,_]) rfl (bF.st.get rfl) rfl rfl) (ga.ew (.cons (ga.refl _)<|.cons (ga.refl _)<|.cons ga.bO .nil))) rfl<|aq 1 rfl<|cf (bu rfl (bF.rk.get rfl) rfl rfl rfl rfl (by unfold maxLen;omega)) rfl<|aq 2 rfl ?_
    refine de [0,1,4,3] (.c 1<|.c 2<|.c 3<|.c 6<|.c 8<|.c 9<|.nil) (.kept rfl (.cells (aC.c<|aC.c<|aC.c<|aC.nil))<|.kept rfl (.cells (aC.c<|aC.c<|aC.c<|aC.nil))<|.kept rfl (.ec rfl (show _=cV (mU T D m (j+1)) by rw[qv];exact gL _ ⟨bm T D m j,false,[]⟩))<|.kept rfl (.row aC.pure)<|.nil) rfl rfl (aU ?_)
    refine aB (.a 1 rfl<|.v (aP rfl) rfl<|.a 1 rfl<|.k [1,2,3,6,8,9] rfl) ?_
    exact⟨N - (j+1),by omega,j+1,by omega,rfl,rfl⟩
   ·have hje:j=N:=by have:=of_decide_eq_false hc;omega
    subst hje
    refine aY ?_
    have hol:(bC T m).length≤512:=Nat.le_trans (dB T m _) (by omega)
    refine ab (.a 2 rfl<|.c rfl (gg T hv _) rfl<|.a 1 rfl<|.k [1,6,8,12] rfl)<|aj<|ab (.a 1 rfl<|.k [1,6,8,12,13] rfl)<|au<|ee [1,6,8,12,13] rfl<|bf (fun r s=>∃i,i≤(bC T m).length∧r=(bC T m).length - i∧s=⟨[(1,aM D),(6,.ptr 0 0),(8,.ptr 1 0),(12,aw (bC T m)),(13,num i)],[some (.cells 56 [num 0,.raw (.slice none 0 0),.raw (.slice none 0 0)]),some (.cells 56 [num m,.own 2,.own 3]),some (.row 76 3 j (cV (mU T D m j))),some (.row 3 1 (cj D ((bC T m).take i)).length (aN (cj D ((bC T m).take i))))]⟩) (bC T m).length ⟨0,by omega,by omega,rfl⟩ ?_
    rintro r s ⟨i,hi,rfl,rfl⟩
    refine aj<|ab (.a 4 rfl<|.k [1,6,8,12,13,57] rfl)<|af rfl (fun hc=>?_) (fun hc=>?_)
    ·have hlt:i<(bC T m).length:=by have:=of_decide_eq_true hc;omega
     obtain⟨h0,h1⟩:=jl (bR (d:=0) hlt)
     obtain⟨a,ha⟩:=Int.eq_ofNat_of_zero_le h0
     have hDl:D.length=0∨a<D.length:=by simp only[bL,decide_eq_true_eq]at hf;omega
     have hstep:cj D ((bC T m).take (i+1))=cj D ((bC T m).take i)++(if aW D a then [(a:Int)] else []):=by
      unfold cj
      rw[cX _ i 0 hlt,List.filter_append,ha]
      simp only[List.filter_cons,List.filter_nil,Int.toNat_natCast]
     have hdl:(cj D ((bC T m).take i)).length≤1000:=Nat.le_trans (List.length_filter_le _ _) (by rw[List.length_take];omega)
     refine ak<|aj<|au<|ab (.a 3 rfl<|.v (aI (i) rfl) rfl<|.v (aK rfl ((ay _ i hlt).trans (by rw[ha]))) rfl<|.c rfl (nz D a hDl) rfl<|.a 1 rfl<|.k [1,6,8,12,13,66] rfl)<|af rfl (fun hcd=>?_) (fun hcd=>?_)
     ·have hcd':aW D a=true:=by revert hcd;cases aW D a<;>simp
      rw[hcd',if_pos rfl]at hstep
      refine cS 7 20 mixed (
       .val [8] rfl (bI rfl) rfl rfl<|
       .val [67] rfl (bI rfl) rfl rfl<|
       .val [12] rfl (bI rfl) rfl rfl<|
       .val [13] rfl (bI rfl) rfl rfl<|
       .val [69,70] rfl (aI (i) rfl) rfl rfl<|
       .val [71] rfl (aK rfl ((ay _ i hlt).trans (by rw[ha]))) rfl rfl<|
       .val [72] rfl (bI rfl) rfl rfl<|
       .nil) (by kernel_rfl) rfl rfl (bd (ks:=[1,6,8,12,13,68,73]) rfl) ?_
      refine cf (bu rfl (bF.rk.get rfl) rfl rfl rfl rfl (by unfold maxLen;omega)) rfl<|aq 2 rfl ?_
      refine de [0,1,2,4] (.c 1<|.c 6<|.c 8<|.c 12<|.c 13<|.nil) (.kept rfl (.cells (aC.c<|aC.c<|aC.c<|aC.nil))<|.kept rfl (.cells (aC.c<|aC.c<|aC.c<|aC.nil))<|.kept rfl (.row aC.pure)<|.kept rfl (.ec rfl (cB _ _))<|.nil) rfl rfl (aU ?_)
      refine aB (.a 1 rfl<|.v (aP rfl) rfl<|.a 1 rfl<|.k [1,6,8,12,13] rfl) ?_
      refine⟨(bC T m).length - (i+1),by omega,i+1,by omega,rfl,?_⟩
      rw[hstep]
      first
       |rfl
       |(simp only[List.length_append,List.length_singleton];rfl)
     ·have hcd':aW D a=false:=by revert hcd;cases aW D a<;>simp
      rw[hcd',if_neg (by simp),List.append_nil]at hstep
      refine ak<|aB (.a 1 rfl<|.v (aP rfl) rfl<|.a 1 rfl<|.k [1,6,8,12,13] rfl) ?_
      refine⟨(bC T m).length - (i+1),by omega,i+1,by omega,rfl,?_⟩
      rw[hstep]
      first
       |rfl
       |(simp only[List.length_append,List.length_singleton];rfl)
    ·have hie:i=(bC T m).length:=by have:=of_decide_eq_false hc;omega
     subst hie
     refine aY<|aH<|bA (dI (ys:=[num m,.own 2,.own 3]) rfl (bF.tk.get rfl) rfl rfl rfl rfl) rfl<|aq 2 rfl<|aD [6,7] rfl ?_
     refine ao<|⟨_,_,aA.of rfl,ax.ba (ai.cons (ax.ew (ai.cons ax.pure<|ai.cons (ax.dX rfl ai.pure)<|ai.cons (ax.dX rfl ai.pure) ai.nil)) (ai.cons ax.pure ai.nil)),?_⟩
     unfold fE
     rw[hch,if_pos rfl,List.take_length]
     unfold di dx fe iE aw
     rw[pU,show T.nodes.toNat=j by omega]
     rfl
end PW
end Go.Proofs.YtnegbdpggideiaaGreatDoor
namespace Go.Proofs.YtnegbdpggideiaaGreatDoor
namespace PW
open Go.RowKit cH Mem Net
theorem tj(a b c d:Int)(w:World):(Op.equalIn 10000 103 (.agg #[.int .i64 a,.int .i64 b]) (.agg #[.int .i64 c,.int .i64 d])).run Tryz.prog w= .ok (a==c&&b==d) w:=by
 have u3:=Tryz.underlying3
 have a3:=Tryz.isAgg3
 have z3:=Tryz.sizeOf3
 have hS:Tryz.prog.underlying 103=some (.struct (Tryz.prog.fieldsOf 103)):=by kernel_rfl
 rw[show(10000:Nat)=9999+1 from rfl,run_equalIn_agg w 9999 103 _ _ hS (by kernel_rfl)]
 simp only[Program.fieldsOf,Tryz.underlying103]
 go_simp
 by_cases h1:a=c<;>by_cases h2:b=d<;>simp[h1,h2]
theorem pJ{E:Env}{w:World}{v:Value}{s:cq}(h:cD E w v (tN s)):v= .agg #[.int .i64 s.kind,.int .i64 s.num]:=by
 unfold tN mL at h
 cases h with
 |agg cs _ hl hr=>
  obtain⟨l⟩:=cs
  match l,hl,hr with
  | [x,y],_,hr=>
   have h0:=dS (hr 0 x _ rfl rfl)
   have h1:=dS (hr 1 y _ rfl rfl)
   subst h0;subst h1;rfl
  | [],hl,_=>simp at hl
  | [_],hl,_=>simp at hl
  |_::_::_::_,hl,_=>simp at hl
theorem CV{σ:cg}{t:b9}{o:Oper}{x y:Operand}{tz:TypeId}{a b:cq}{q:Bool}(ho:o.op= .binOp .neq 103 x y tz)(hx:aE t x=some (tN a))(hy:aE t y=some (tN b))(hq:decide (a≠b)=q):bp Tryz.prog σ t o (.raw (.bool q)):=by
 intro F base E ρ w hρ _ hT
 have h1:=pJ (az hρ hT hx)
 have h2:=pJ (az hρ hT hy)
 have hb:(!(a.kind==b.kind&&a.num==b.num))=q:=by
  rw[←hq]
  obtain⟨a1,a2⟩:=a
  obtain⟨b1,b2⟩:=b
  by_cases e1:a1=b1<;>by_cases e2:a2=b2<;>simp[e1,e2]
 simp only[execOp,ho,h1,h2,Sem.run_bind,run_eqGuard_agg w _ _ _ _ _ _ (show Tryz.prog.eqGuardType Tryz.prog.depth 103=false by kernel_rfl),Result.andThen_ok,run_neq_struct,tj,Sem.run_pure,hb]
 exact br (.raw _)
theorem Cr{σ:cg}{t:b9}{o:Oper}{x y:Operand}{tz:TypeId}{a b:cq}{q:Bool}(ho:o.op= .binOp .eql 103 x y tz)(hx:aE t x=some (tN a))(hy:aE t y=some (tN b))(hq:decide (a=b)=q):bp Tryz.prog σ t o (.raw (.bool q)):=by
 intro F base E ρ w hρ _ hT
 have h1:=pJ (az hρ hT hx)
 have h2:=pJ (az hρ hT hy)
 have hb:(a.kind==b.kind&&a.num==b.num)=q:=by
  rw[←hq]
  obtain⟨a1,a2⟩:=a
  obtain⟨b1,b2⟩:=b
  by_cases e1:a1=b1<;>by_cases e2:a2=b2<;>simp[e1,e2]
 simp only[execOp,ho,h1,h2,Sem.run_bind,run_eqGuard_agg w _ _ _ _ _ _ (show Tryz.prog.eqGuardType Tryz.prog.depth 103=false by kernel_rfl),Result.andThen_ok,run_eql_struct,tj,Sem.run_pure,hb]
 exact br (.raw _)
end PW
end Go.Proofs.YtnegbdpggideiaaGreatDoor
namespace Go.Proofs.YtnegbdpggideiaaGreatDoor
namespace PW
open Go.RowKit cH Mem Net
theorem Ba(L M:List cq):Can Tryz.prog 132 [cC L,cC M] (· =flag (decide (L=M))):=by
 refine me fun⟨E,w,vs,hR⟩=>?_
 obtain⟨v,_,hv⟩:=hR.get (i:=0) rfl
 have hm:=kj hv
 unfold maxLen at hm
 refine aF Tryz.func132 rfl Tryz.ntmps132 rfl<|ab (.a 1 rfl<|.k [0,1] rfl)<|aj<|ab (.a 5 rfl<|.k [0,1,10] rfl)<|af rfl (fun hc=>?_) (fun hc=>?_)
 ·have hne:L≠M:=fun e=>by have:=of_decide_eq_true hc;rw[e]at this;exact this rfl
  exact ab (.a 1 rfl<|.k [4] rfl)<|ao<|⟨_,_,aA.of rfl,ax.pure,by rw[decide_eq_false hne];rfl⟩
 ·have hlen:L.length=M.length:=by have:=of_decide_eq_false hc;omega
  refine ak<|aj<|ab (.a 1 rfl<|.k [0,1,5] rfl)<|au<|ee [0,1,5] rfl<|bf (fun r s=>∃i,i≤L.length∧(∀j,j<i→L[j]? =M[j]?)∧r=L.length - i∧s=⟨[(0,cC L),(1,cC M),(5,num i)],[]⟩) L.length ⟨0,by omega,fun j hj=>by omega,by omega,rfl⟩ ?_
  rintro r s ⟨i,hi,hall,rfl,rfl⟩
  refine aj<|ab (.a 4 rfl<|.k [0,1,5,14] rfl)<|af rfl (fun hc=>?_) (fun hc=>?_)
  ·have hlt:i<L.length:=by have:=of_decide_eq_true hc;omega
   obtain⟨a,ha⟩:∃a,L[i]? =some a:=⟨L[i],by simp[hlt]⟩
   obtain⟨b,hb⟩:∃b,M[i]? =some b:=⟨M[i]'(by omega),by simp[show i<M.length by omega]⟩
   refine ak<|aj<|au<|dH mixed (by kernel_rfl) (.a 2 rfl<|.v [17,18] (aI (i*2) rfl) rfl rfl<|.v [19] (fr rfl (bF.tk.get rfl) rfl (jN L i a ha) rfl) rfl rfl<|.a 2 rfl<|.v [21,22] (aI (i*2) rfl) rfl rfl<|.v [23] (fr rfl (bF.tk.get rfl) rfl (jN M i b hb) rfl) rfl rfl<|.v [20,24] (CV (a:=a) (b:=b) rfl rfl rfl rfl) rfl rfl<|.k [0,1,5,25] rfl) ?_
   refine af rfl (fun hc=>?_) (fun hc=>?_)
   ·have hne:L≠M:=fun e=>by rw[e,hb]at ha;cases ha;exact of_decide_eq_true hc rfl
    exact ab (.a 1 rfl<|.k [4] rfl)<|ao<|⟨_,_,aA.of rfl,ax.pure,by rw[decide_eq_false hne];rfl⟩
   ·have hab:a=b:=Classical.byContradiction (of_decide_eq_false hc)
    refine ak<|aB (.a 1 rfl<|.v (aP rfl) rfl<|.a 1 rfl<|.k [0,1,5] rfl) ?_
    exact⟨L.length - (i+1),by omega,i+1,by omega,fun j hj=>by by_cases e:j=i;(rw[e,ha,hb,hab]);exact hall j (by omega),rfl,rfl⟩
  ·have hie:i=L.length:=by have:=of_decide_eq_false hc;omega
   have heq:L=M:=List.ext_getElem? fun j=>by
    by_cases hj:j<L.length
    ·exact hall j (by omega)
    ·rw[List.getElem?_eq_none (by omega),List.getElem?_eq_none (by omega)]
   exact aY<|ab (.a 1 rfl<|.k [4] rfl)<|ao<|⟨_,_,aA.of rfl,ax.pure,by rw[decide_eq_true heq];rfl⟩
def D0(a b:ij):Bool:=(a.rep==b.rep)&&je a.aR b.aR&&decide (a.push=b.push)
theorem C4(a b:ij):Can Tryz.prog 83 [oK a,oK b] (· =flag (D0 a b)):=by
 obtain⟨p1,hp1⟩:∃q,(a.rep==b.rep)=q:=⟨_,rfl⟩
 obtain⟨p2,hp2⟩:∃q,je a.aR b.aR=q:=⟨_,rfl⟩
 obtain⟨p3,hp3⟩:∃q,decide (a.push=b.push)=q:=⟨_,rfl⟩
 have he:D0 a b=((p1&&p2)&&p3):=by unfold D0;rw[hp1,hp2,hp3]
 rw[he]
 refine aF Tryz.func83 rfl Tryz.ntmps83 rfl<|ab (.a 3 rfl<|.k [2,3] rfl)<|bx 4 (.raw (.bool ((p1&&p2)&&p3))) [] rfl ?_ ?_
 ·refine .a 4 rfl<|.v (sD rfl (bF.bk.get rfl) rfl rfl hp1) rfl<|.a 1 rfl<|?_
  cases p1
  ·exact .a 14 rfl<|.k [4] rfl
  ·refine .a 4 rfl<|.c rfl (hp2▸lU a.aR b.aR) rfl<|.a 2 rfl<|?_
   cases p2
   ·exact .a 7 rfl<|.k [4] rfl
   ·exact .a 4 rfl<|.c rfl (hp3▸Ba a.push b.push) rfl<|.a 2 rfl<|.k [4] rfl
 exact ao<|⟨_,_,aA.of rfl,ax.pure,rfl⟩
deriving instance DecidableEq for ij
deriving instance DecidableEq for eD
theorem zu(a b:ij):D0 a b=decide (a=b):=by
 obtain⟨a1,a2,a3⟩:=a
 obtain⟨b1,b2,b3⟩:=b
 unfold D0 je
 by_cases e1:a1=b1<;>by_cases e2:a2=b2<;>by_cases e3:a3=b3<;>simp[e1,e2,e3]
theorem y6{E:Env}{w:World}{v:Value}{x:eD}(h:cD E w v (dx x)):x.dh.length≤maxLen∧x.down.length≤maxLen:=by
 unfold dx fe at h
 cases h with
 |agg cs _ hl hr=>
  have hr:aZ E w cs.toList _:=⟨by simpa using hl,fun i x u h1 h2=>hr i x u (by simpa using h1) h2⟩
  obtain⟨v1,_,h1⟩:=hr.get (i:=1) rfl
  obtain⟨v2,_,h2⟩:=hr.get (i:=2) rfl
  exact⟨kj h1,kj h2⟩
theorem CE(x y:eD):Can Tryz.prog 28 [dx x,dx y] (· =flag (decide (x=y))):=by
 refine me fun⟨E,w,vs,hR⟩=>?_
 obtain⟨v,_,hv⟩:=hR.get (i:=0) rfl
 have hxe:=(y6 hv).1
 unfold maxLen at hxe
 refine aF Tryz.func28 rfl Tryz.ntmps28 rfl<|ab (.a 3 rfl<|.k [2,3] rfl)<|aj ?_
 obtain⟨p1,hp1⟩:∃q,decide (x.node≠y.node)=q:=⟨_,rfl⟩
 obtain⟨p2,hp2⟩:∃q,decide ((x.dh.length:Int)≠(y.dh.length:Int))=q:=⟨_,rfl⟩
 obtain⟨p3,hp3⟩:∃q,je x.down y.down=q:=⟨_,rfl⟩
 refine bx 27 (.raw (.bool ((p1||p2)||(!p3)))) [2,3] rfl ?_ ?_
 ·refine .a 4 rfl<|.v (b7 rfl (hp1)) rfl<|.a 1 rfl<|?_
  cases p1
  ·refine .a 6 rfl<|.v (b7 rfl (hp2)) rfl<|.a 2 rfl<|?_
   cases p2
   ·exact .a 4 rfl<|.c rfl (hp3▸lU x.down y.down) rfl<|.a 2 rfl<|.k [27,2,3] rfl
   ·exact .a 7 rfl<|.k [27,2,3] rfl
  ·exact .a 16 rfl<|.k [27,2,3] rfl
 refine af rfl (fun hc=>?_) (fun hc=>?_)
 ·have hne:x≠y:=fun e=>by
   subst e
   have e1:p1=false:=by rw[←hp1];simp
   have e2:p2=false:=by rw[←hp2];simp
   have e3:p3=true:=by rw[←hp3];simp[je]
   rw[e1,e2,e3]at hc
   cases hc
  exact ab (.a 1 rfl<|.k [4] rfl)<|ao<|⟨_,_,aA.of rfl,ax.pure,by rw[decide_eq_false hne];rfl⟩
 ·obtain⟨c1,c3⟩:=Bool.or_eq_false_iff.1 hc
  obtain⟨c1,c2⟩:=Bool.or_eq_false_iff.1 c1
  have e3:p3=true:=by cases p3;cases c3;rfl
  rw[c1]at hp1
  rw[c2]at hp2
  rw[e3]at hp3
  have hnode:x.node=y.node:=Classical.byContradiction (of_decide_eq_false hp1)
  have hlen:x.dh.length=y.dh.length:=by have:=of_decide_eq_false hp2;omega
  have hdown:x.down=y.down:=of_decide_eq_true hp3
  refine ak<|aj<|ab (.a 1 rfl<|.k [2,3,5] rfl)<|au<|ee [2,3,5] rfl<|bf (fun r s=>∃i,i≤x.dh.length∧(∀j,j<i→x.dh[j]? =y.dh[j]?)∧r=x.dh.length - i∧s=⟨[(2,.aX (fe x) 0),(3,.aX (fe y) 0),(5,num i)],[]⟩) x.dh.length ⟨0,by omega,fun j hj=>by omega,by omega,rfl⟩ ?_
  rintro r s ⟨i,hi,hall,rfl,rfl⟩
  refine aj<|ab (.a 5 rfl<|.k [2,3,5,32] rfl)<|af rfl (fun hc=>?_) (fun hc=>?_)
  ·have hlt:i<x.dh.length:=by have:=of_decide_eq_true hc;omega
   obtain⟨a,ha⟩:∃a,x.dh[i]? =some a:=⟨x.dh[i],by simp[hlt]⟩
   obtain⟨b,hb⟩:∃b,y.dh[i]? =some b:=⟨y.dh[i]'(by omega),by simp[show i<y.dh.length by omega]⟩
   refine ak<|aj<|au<|dH mixed (by kernel_rfl) (.a 3 rfl<|.v [36,37] (aI (i*3) rfl) rfl rfl<|.v [38] (fr rfl (bF.tk.get rfl) rfl (jX x.dh i a ha) rfl) rfl rfl<|.a 3 rfl<|.v [41,42] (aI (i*3) rfl) rfl rfl<|.v [43] (fr rfl (bF.tk.get rfl) rfl (jX y.dh i b hb) rfl) rfl rfl<|.v [39,44] (dw rfl (C4 a b)) rfl rfl<|.a 1 rfl<|.k [2,3,5,46] rfl) ?_
   refine af rfl (fun hc=>?_) (fun hc=>?_)
   ·have hne:x≠y:=fun e=>by
     rw[e,hb]at ha
     cases ha
     rw[zu]at hc
     simp at hc
    exact ab (.a 1 rfl<|.k [4] rfl)<|ao<|⟨_,_,aA.of rfl,ax.pure,by rw[decide_eq_false hne];rfl⟩
   ·have hab:a=b:=by
     rw[zu]at hc
     simpa using hc
    refine ak<|aB (.a 1 rfl<|.v (aP rfl) rfl<|.a 1 rfl<|.k [2,3,5] rfl) ?_
    exact⟨x.dh.length - (i+1),by omega,i+1,by omega,fun j hj=>by by_cases e:j=i;(rw[e,ha,hb,hab]);exact hall j (by omega),rfl,rfl⟩
  ·have hie:i=x.dh.length:=by have:=of_decide_eq_false hc;omega
   have hents:x.dh=y.dh:=List.ext_getElem? fun j=>by
    by_cases hj:j<x.dh.length
    ·exact hall j (by omega)
    ·rw[List.getElem?_eq_none (by omega),List.getElem?_eq_none (by omega)]
   have heq:x=y:=by
    obtain⟨x1,x2,x3⟩:=x
    obtain⟨y1,y2,y3⟩:=y
    simp only at hnode hents hdown
    rw[hnode,hents,hdown]
   exact aY<|ab (.a 1 rfl<|.k [4] rfl)<|ao<|⟨_,_,aA.of rfl,ax.pure,by rw[decide_eq_true heq];rfl⟩
end PW
end Go.Proofs.YtnegbdpggideiaaGreatDoor
namespace Go.Proofs.YtnegbdpggideiaaGreatDoor
namespace PW
open Go.RowKit cH Mem Net
def nV(T:an)(s:cq):Bool:=if s.kind=1 then aV T s.num else if s.kind=2 then eA T s.num else if s.kind=3 then bU s.num 1 64 else if s.kind=4 then bU s.num 0 65535 else false
def eS(T:an)(n:Int)(L:List Int):Bool:=decide (∀i,i<L.length→eA T (L.getD i 0)=true∧bw T (L.getD i 0).toNat=n∧(0<i→L.getD (i - 1) 0<L.getD i 0))
def jh(T:an)(n d:Int)(e:ij):Bool:=eS T n e.aR&&(!(decide (d=n)&&decide (0<(e.aR.length:Int))))&&(if e.rep then decide ((e.aR.length:Int)=1)&&decide ((e.push.length:Int)≤32)&&e.push.all (nV T) else decide ((e.push.length:Int)=0))
def G5:ij:=⟨[],false,[]⟩
def mR(T:an)(n:Int)(l:List ij):Bool:=decide (∀d,d<l.length→jh T n d (l.getD d G5)=true)
def eV(T:an)(x:eD):Bool:=av T&&aV T x.node&&decide ((x.dh.length:Int)=T.nodes)&&eS T x.node x.down&&mR T x.node x.dh
theorem cT{T:an}{a:Int}:eA T a=true↔0≤a∧a<2*(T.ag.length:Int):=by simp[eA]
theorem oZ(T:an)(a:Int)(h:eA T a=true):Can Tryz.prog 79 [aJ T,num a] (· =num (bw T a.toNat)):=by
 obtain⟨h0,h1⟩:=cT.1 h
 obtain⟨a,rfl⟩:=Int.eq_ofNat_of_zero_le h0
 exact jk T a (by omega)
theorem DU(T:an)(hl:T.ag.length≤4611686018427387903)(s:cq):Can Tryz.prog 171 [aJ T,tN s] (· =flag (nV T s)):=by
 unfold nV
 refine aF Tryz.func171 rfl Tryz.ntmps171 rfl<|ab (.a 3 rfl<|.k [2,3] rfl)<|aj<|ab (.a 2 rfl<|.k [2,3,6] rfl)<|au<|ab (.a 2 rfl<|.k [2,3,6,7] rfl)<|af rfl (fun hc=>?_) (fun hc=>?_)
 ·rw[if_pos (tt hc)]
  exact ab (.a 3 rfl<|.c rfl (dv T s.num) rfl<|.a 1 rfl<|.k [4] rfl)<|ao<|⟨_,_,aA.of rfl,ax.pure,rfl⟩
 ·rw[if_neg (ff hc)]
  refine ab (.a 2 rfl<|.k [2,3,6,13] rfl)<|af rfl (fun hc=>?_) (fun hc=>?_)
  ·rw[if_pos (tt hc)]
   exact ab (.a 3 rfl<|.c rfl (pR T hl s.num) rfl<|.a 1 rfl<|.k [4] rfl)<|ao<|⟨_,_,aA.of rfl,ax.pure,rfl⟩
  ·rw[if_neg (ff hc)]
   refine ab (.a 2 rfl<|.k [3,6,19] rfl)<|af rfl (fun hc=>?_) (fun hc=>?_)
   ·rw[if_pos (tt hc)]
    obtain⟨p1,hp1⟩:∃q,decide (1≤s.num)=q:=⟨_,rfl⟩
    obtain⟨p2,hp2⟩:∃q,decide (s.num≤64)=q:=⟨_,rfl⟩
    have he:bU s.num 1 64=(p1&&p2):=by rw[←hp1,←hp2];unfold bU;exact Bool.decide_and _ _
    rw[he]
    refine bx 4 (.raw (.bool (p1&&p2))) [] rfl ?_ ?_
    ·refine .a 2 rfl<|.v (b7 rfl (hp1)) rfl<|.a 1 rfl<|?_
     cases p1
     ·exact .a 5 rfl<|.k [4] rfl
     ·exact .a 2 rfl<|.v (b7 rfl (hp2)) rfl<|.a 2 rfl<|.k [4] rfl
    exact ao<|⟨_,_,aA.of rfl,ax.pure,rfl⟩
   ·rw[if_neg (ff hc)]
    refine ab (.a 2 rfl<|.k [3,29] rfl)<|af rfl (fun hc=>?_) (fun hc=>?_)
    ·rw[if_pos (tt hc)]
     obtain⟨p1,hp1⟩:∃q,decide (0≤s.num)=q:=⟨_,rfl⟩
     obtain⟨p2,hp2⟩:∃q,decide (s.num≤65535)=q:=⟨_,rfl⟩
     have he:bU s.num 0 65535=(p1&&p2):=by rw[←hp1,←hp2];unfold bU;exact Bool.decide_and _ _
     rw[he]
     refine bx 4 (.raw (.bool (p1&&p2))) [] rfl ?_ ?_
     ·refine .a 2 rfl<|.v (b7 rfl (hp1)) rfl<|.a 1 rfl<|?_
      cases p1
      ·exact .a 5 rfl<|.k [4] rfl
      ·exact .a 2 rfl<|.v (b7 rfl (hp2)) rfl<|.a 2 rfl<|.k [4] rfl
     exact ao<|⟨_,_,aA.of rfl,ax.pure,rfl⟩
    ·rw[if_neg (ff hc)]
     exact ak<|ab (.a 1 rfl<|.k [4] rfl)<|ao<|⟨_,_,aA.of rfl,ax.pure,rfl⟩
def v8(T:an)(n:Int)(L:List Int)(i:Nat):Bool:=decide (eA T (L.getD i 0)=true∧bw T (L.getD i 0).toNat=n∧(0<i→L.getD (i - 1) 0<L.getD i 0))
theorem AL{T:an}{n:Int}{L:List Int}(h:∀i,i<L.length→v8 T n L i=true):eS T n L=true:=decide_eq_true fun i hi=>tt (h i hi)
theorem yf{T:an}{n:Int}{L:List Int}{i:Nat}(hi:i<L.length)(h:v8 T n L i=false):eS T n L=false:=decide_eq_false fun ha=>ff h (ha i hi)
theorem nx(T:an)(hv:av T=true)(n:Int)(L:List Int):Can Tryz.prog 140 [aJ T,num n,aw L] (· =flag (eS T n L)):=by
 have hll:=bJ hv
 refine me fun⟨E,w,vs,hR⟩=>?_
 obtain⟨v,_,hv⟩:=hR.get (i:=2) rfl
 have hm:=kj hv
 unfold maxLen at hm
 refine aF Tryz.func140 rfl Tryz.ntmps140 rfl<|ab (.a 2 rfl<|.k [1,2,3] rfl)<|aj<|ab (.a 3 rfl<|.k [1,2,3,9,10,11] rfl)<|au<|ee [1,2,3,9,10,11] rfl<|bf (fun r s=>∃k,k≤L.length∧r=L.length - k∧(∀i,i<k→v8 T n L i=true)∧s=⟨[(1,num n),(2,aw L),(3,.aX (bn T) 0),(9,aw L),(10,num L.length),(11,num k)],[]⟩) L.length ⟨0,by omega,by omega,fun i hi=>by omega,rfl⟩ ?_
 rintro r s ⟨k,hk,rfl,hall,rfl⟩
 refine ab (.a 1 rfl<|.k [1,2,3,9,10,11,12] rfl)<|aj<|af rfl (fun hc=>?_) (fun hc=>?_)
 ·have hlt:k<L.length:=by have:=tt hc;omega
  obtain⟨p1,hp1⟩:∃q,eA T (L.getD k 0)=q:=⟨_,rfl⟩
  obtain⟨p2,hp2⟩:∃q,decide (bw T (L.getD k 0).toNat≠n)=q:=⟨_,rfl⟩
  obtain⟨p3,hp3⟩:∃q,decide (0<(k:Int))=q:=⟨_,rfl⟩
  obtain⟨p4,hp4⟩:∃q,decide (L.getD k 0≤L.getD (k - 1) 0)=q:=⟨_,rfl⟩
  refine ak<|aj<|au<|ab (.a 1 rfl<|.v (aI (k) rfl) rfl<|.v (aK rfl (ay L k hlt)) rfl<|.a 2 rfl<|.k [1,2,3,7,8,9,10,11] rfl)<|bx 39 (.raw (.bool (((!p1)||p2)||(p3&&p4)))) [1,2,3,9,10,11] rfl ?_ ?_
  ·refine .a 2 rfl<|.c rfl (hp1▸pR T (by omega) (L.getD k 0)) rfl<|.a 2 rfl<|?_
   cases p1
   ·exact .a 19 rfl<|.k [39,1,2,3,9,10,11] rfl
   ·refine .a 2 rfl<|.c rfl (oZ T _ hp1) rfl<|.a 1 rfl<|.v (b7 rfl (hp2)) rfl<|.a 2 rfl<|?_
    cases p2
    ·refine .a 1 rfl<|.v (b7 rfl (hp3)) rfl<|.a 1 rfl<|?_
     cases p3
     ·exact .a 9 rfl<|.k [39,1,2,3,9,10,11] rfl
     ·exact .a 2 rfl<|.v (aP rfl) rfl<|.v (aI (k - 1) rfl (by have:=tt hp3;omega) (by omega)) rfl<|.v (aK rfl (ay L (k - 1) (by omega))) rfl<|.a 1 rfl<|.v (b7 rfl (hp4)) rfl<|.a 2 rfl<|.k [39,1,2,3,9,10,11] rfl
    ·exact .a 12 rfl<|.k [39,1,2,3,9,10,11] rfl
  refine af rfl (fun hx=>?_) (fun hx=>?_)
  ·have hno:v8 T n L k=false:=by
    refine decide_eq_false fun⟨h1,h2,h3⟩=>?_
    rw[h1]at hp1
    rw[decide_eq_false (by simpa using h2)]at hp2
    subst hp1 hp2
    simp only[Bool.not_true,Bool.false_or,Bool.and_eq_true]at hx
    rw[hx.1]at hp3
    rw[hx.2]at hp4
    have:=h3 (by have:=tt hp3;omega)
    have:=tt hp4
    omega
   rw[yf hlt hno]
   exact ab (.a 1 rfl<|.k [6] rfl)<|ao<|⟨_,_,aA.of rfl,ax.pure,rfl⟩
  ·have hyes:v8 T n L k=true:=by
    obtain⟨c1,c3⟩:=Bool.or_eq_false_iff.1 hx
    obtain⟨c1,c2⟩:=Bool.or_eq_false_iff.1 c1
    refine decide_eq_true ⟨?_,?_,fun h0=>?_⟩
    ·rw[hp1];simpa using c1
    ·rw[c2]at hp2;exact Classical.byContradiction (ff hp2)
    ·rw[decide_eq_true (by omega)]at hp3
     subst hp3
     rw[Bool.true_and]at c3
     rw[c3]at hp4
     have:=ff hp4
     omega
   refine ak<|aB (.v (aP rfl) rfl<|.a 1 rfl<|.k [1,2,3,9,10,11] rfl) ?_
   refine⟨L.length - (k+1),by omega,k+1,by omega,rfl,fun i hi=>?_,rfl⟩
   by_cases h:i=k
   ·rw[h];exact hyes
   ·exact hall i (by omega)
 ·have hke:k=L.length:=by have:=ff hc;omega
  subst hke
  rw[AL hall]
  exact aY<|ab (.a 1 rfl<|.k [6] rfl)<|ao<|⟨_,_,aA.of rfl,ax.pure,rfl⟩
theorem I4{α:Type}(p:α→Bool)(L:List α)(k:Nat)(a:α)(h:L[k]? =some a):(L.take (k+1)).all p=((L.take k).all p&&p a):=by
 rw[List.take_add_one,h,List.all_append];simp
theorem I1{α:Type}(p:α→Bool)(L:List α)(k:Nat)(a:α)(h:L[k]? =some a)(hp:p a=false):L.all p=false:=by
 rw[Bool.eq_false_iff]
 intro ha
 have:=List.all_eq_true.1 ha a (List.mem_of_getElem? h)
 rw[hp]at this
 cases this
theorem xV(T:an)(hv:av T=true)(e:ij)(n d:Int):Can Tryz.prog 141 [aJ T,oK e,num n,num d] (· =flag (jh T n d e)):=by
 have hll:=bJ hv
 obtain⟨p1,hp1⟩:∃q,eS T n e.aR=q:=⟨_,rfl⟩
 obtain⟨p2,hp2⟩:∃q,decide (d=n)=q:=⟨_,rfl⟩
 obtain⟨p3,hp3⟩:∃q,decide (0<(e.aR.length:Int))=q:=⟨_,rfl⟩
 unfold jh
 rw[hp1,hp2,hp3]
 refine aF Tryz.func141 rfl Tryz.ntmps141 rfl<|ab (.a 3 rfl<|.k [2,3,4,5] rfl)<|aj<|bx 27 (.raw (.bool ((!p1)||(p2&&p3)))) [4,5] rfl ?_ ?_
 ·refine .a 4 rfl<|.c rfl (hp1▸nx T hv n e.aR) rfl<|.a 2 rfl<|?_
  cases p1
  ·exact .a 10 rfl<|.k [27,4,5] rfl
  ·refine .a 2 rfl<|.v (b7 rfl (hp2)) rfl<|.a 1 rfl<|?_
   cases p2
   ·exact .a 6 rfl<|.k [27,4,5] rfl
   ·exact .a 3 rfl<|.v (b7 rfl (hp3)) rfl<|.a 2 rfl<|.k [27,4,5] rfl
 refine af rfl (fun hc=>?_) (fun hc=>?_)
 ·have he:(p1&& !(p2&&p3))=false:=by cases p1<;>cases p2<;>cases p3<;>first|rfl|cases hc
  rw[he,Bool.false_and]
  exact ab (.a 1 rfl<|.k [8] rfl)<|ao<|⟨_,_,aA.of rfl,ax.pure,rfl⟩
 ·have he:(p1&& !(p2&&p3))=true:=by cases p1<;>cases p2<;>cases p3<;>first|rfl|cases hc
  rw[he,Bool.true_and]
  refine ak<|aj<|ab (.a 3 rfl<|.k [4,5,30] rfl)<|af rfl (fun hc=>?_) (fun hc=>?_)
  ·have hr:e.rep=false:=by simpa using hc
   rw[hr,if_neg (by simp)]
   exact ab (.a 5 rfl<|.k [8] rfl)<|ao<|⟨_,_,aA.of rfl,ax.pure,rfl⟩
  ·have hr:e.rep=true:=by simpa using hc
   rw[hr,if_pos rfl]
   refine ak<|aj ?_
   obtain⟨p4,hp4⟩:∃q,decide ((e.aR.length:Int)≠1)=q:=⟨_,rfl⟩
   obtain⟨p5,hp5⟩:∃q,decide (32<(e.push.length:Int))=q:=⟨_,rfl⟩
   refine bx 44 (.raw (.bool (p4||p5))) [4,5] rfl ?_ ?_
   ·refine .a 3 rfl<|.v (b7 rfl (hp4)) rfl<|.a 1 rfl<|?_
    cases p4
    ·exact .a 3 rfl<|.v (b7 rfl (hp5)) rfl<|.a 1 rfl<|.k [44,4,5] rfl
    ·exact .a 5 rfl<|.k [44,4,5] rfl
   refine af rfl (fun hx=>?_) (fun hx=>?_)
   ·have hf:(decide ((e.aR.length:Int)=1)&&decide ((e.push.length:Int)≤32))=false:=by
     rcases Bool.or_eq_true_iff.1 hx with h|h
     ·rw[h]at hp4;rw[decide_eq_false (tt hp4)];rfl
     ·rw[h]at hp5;rw[decide_eq_false (by have:=tt hp5;omega:¬((e.push.length:Int)≤32)),Bool.and_false]
    rw[hf,Bool.false_and]
    exact ab (.a 1 rfl<|.k [8] rfl)<|ao<|⟨_,_,aA.of rfl,ax.pure,rfl⟩
   ·obtain⟨c1,c2⟩:=Bool.or_eq_false_iff.1 hx
    rw[c1]at hp4
    rw[c2]at hp5
    have hlen:e.push.length≤32:=by have:=ff hp5;omega
    rw[decide_eq_true (Classical.byContradiction (ff hp4)),decide_eq_true (by omega:(e.push.length:Int)≤32),Bool.true_and,Bool.true_and]
    refine ak<|aj<|ab (.a 4 rfl<|.k [4,46,47,48] rfl)<|au<|ee [4,46,47,48] rfl<|bf (fun r s=>∃k,k≤e.push.length∧r=e.push.length - k∧(e.push.take k).all (nV T)=true∧s=⟨[(4,.aX (bn T) 0),(46,cC e.push),(47,num e.push.length),(48,num k)],[]⟩) e.push.length ⟨0,by omega,by omega,by simp,rfl⟩ ?_
    rintro r s ⟨k,hk,rfl,hall,rfl⟩
    refine ab (.a 1 rfl<|.k [4,46,47,48,49] rfl)<|aj<|af rfl (fun hy=>?_) (fun hy=>?_)
    ·have hlt:k<e.push.length:=by have:=tt hy;omega
     obtain⟨a,ha⟩:∃a,e.push[k]? =some a:=⟨e.push[k],by simp[hlt]⟩
     refine ak<|aj<|au<|aH<|bA (aI (k*2) rfl) rfl<|bA (ku rfl (jN e.push k a ha) rfl) rfl<|aq 2 rfl<|aD [4,10,46,47,48] rfl ?_
     refine ab (.a 2 rfl<|.c rfl (DU T (by omega) a) rfl<|.a 1 rfl<|.k [4,46,47,48,55] rfl)<|dy [] (.c 4<|.c 46<|.c 47<|.c 48<|.c 55 .nil) .nil rfl rfl ?_
     refine af rfl (fun hz=>?_) (fun hz=>?_)
     ·rw[I1 _ _ k a ha (by simpa using hz)]
      exact ab (.a 1 rfl<|.k [8] rfl)<|ao<|⟨_,_,aA.of rfl,ax.pure,rfl⟩
     ·have hz':nV T a=true:=by simpa using hz
      refine ak<|aB (.v (aP rfl) rfl<|.a 1 rfl<|.k [4,46,47,48] rfl) ?_
      exact⟨e.push.length - (k+1),by omega,k+1,by omega,rfl,by rw[I4 _ _ k a ha,hall,hz'];rfl,rfl⟩
    ·have hke:k=e.push.length:=by have:=ff hy;omega
     subst hke
     rw[List.take_length]at hall
     rw[hall]
     exact aY<|ab (.a 1 rfl<|.k [8] rfl)<|ao<|⟨_,_,aA.of rfl,ax.pure,rfl⟩
theorem mc(l:List ij)(k:Nat)(e:ij)(h:l[k]? =some e):l.getD k G5=e:=by rw[List.getD_eq_getElem?_getD,h];rfl
theorem wO{T:an}{n:Int}{l:List ij}{k:Nat}{e:ij}(h:l[k]? =some e)(hf:jh T n k e=false):mR T n l=false:=decide_eq_false fun ha=>by
 have:=ha k (List.getElem?_eq_some_iff.1 h).1
 rw[mc l k e h,hf]at this
 cases this
theorem jw{T:an}{n:Int}{l:List ij}(h:∀(k:Nat) e,l[k]? =some e→jh T n k e=true):mR T n l=true:=decide_eq_true fun d hd=>by
 have he:l[d]? =some l[d]:=by simp[hd]
 rw[mc l d _ he]
 exact h d _ he
theorem p8(T:an)(x:eD):Can Tryz.prog 99 [aJ T,dx x] (· =flag (eV T x)):=by
 refine me fun⟨E,w,vs,hR⟩=>?_
 obtain⟨v,_,hvv⟩:=hR.get (i:=1) rfl
 have hm:=(y6 hvv).1
 unfold maxLen at hm
 obtain⟨p1,hp1⟩:∃q,av T=q:=⟨_,rfl⟩
 obtain⟨p2,hp2⟩:∃q,aV T x.node=q:=⟨_,rfl⟩
 obtain⟨p3,hp3⟩:∃q,decide ((x.dh.length:Int)≠T.nodes)=q:=⟨_,rfl⟩
 obtain⟨p4,hp4⟩:∃q,eS T x.node x.down=q:=⟨_,rfl⟩
 have he:decide ((x.dh.length:Int)=T.nodes)= !p3 :=by rw[←hp3];simp
 unfold eV
 rw[hp1,hp2,he,hp4]
 refine aF Tryz.func99 rfl Tryz.ntmps99 rfl<|ab (.a 3 rfl<|.k [2,3] rfl)<|aj<|bx 33 (.raw (.bool ((((!p1)|| !p2)||p3)|| !p4))) [2,3] rfl ?_ ?_
 ·refine .a 1 rfl<|.c rfl (hp1▸er T) rfl<|.a 2 rfl<|?_
  cases p1
  ·exact .a 23 rfl<|.k [33,2,3] rfl
  ·refine .a 3 rfl<|.c rfl (hp2▸dv T x.node) rfl<|.a 3 rfl<|?_
   cases p2
   ·exact .a 16 rfl<|.k [33,2,3] rfl
   ·refine .a 5 rfl<|.v (b7 rfl (hp3)) rfl<|.a 2 rfl<|?_
    cases p3
    ·exact .a 5 rfl<|.c rfl (hp4▸nx T hp1 x.node x.down) rfl<|.a 2 rfl<|.k [33,2,3] rfl
    ·exact .a 8 rfl<|.k [33,2,3] rfl
 refine af rfl (fun hc=>?_) (fun hc=>?_)
 ·have hf:(p1&&p2&& !p3 &&p4)=false:=by cases p1<;>cases p2<;>cases p3<;>cases p4<;>first|rfl|cases hc
  rw[hf,Bool.false_and]
  exact ab (.a 1 rfl<|.k [4] rfl)<|ao<|⟨_,_,aA.of rfl,ax.pure,rfl⟩
 ·have hf:(p1&&p2&& !p3 &&p4)=true:=by cases p1<;>cases p2<;>cases p3<;>cases p4<;>first|rfl|cases hc
  rw[hf,Bool.true_and]
  have e1:p1=true:=by cases p1<;>simp_all
  rw[e1]at hp1
  refine ak<|aj<|ab (.a 4 rfl<|.k [2,3,35,36,37] rfl)<|au<|ee [2,3,35,36,37] rfl<|bf (fun r s=>∃k,k≤x.dh.length∧r=x.dh.length - k∧(∀(i:Nat) e,i<k→x.dh[i]? =some e→jh T x.node i e=true)∧s=⟨[(2,.aX (bn T) 0),(3,.aX (fe x) 0),(35,iE x.dh),(36,num x.dh.length),(37,num k)],[]⟩) x.dh.length ⟨0,by omega,by omega,fun i e hi=>by omega,rfl⟩ ?_
  rintro r s ⟨k,hk,rfl,hall,rfl⟩
  refine ab (.a 1 rfl<|.k [2,3,35,36,37,38] rfl)<|aj<|af rfl (fun hy=>?_) (fun hy=>?_)
  ·have hlt:k<x.dh.length:=by have:=tt hy;omega
   obtain⟨e,hek⟩:∃a,x.dh[k]? =some a:=⟨x.dh[k],by simp[hlt]⟩
   refine ak<|aj<|au<|aH<|aq 1 rfl<|bA (aI (k*3) rfl) rfl<|bA (ku rfl (jX x.dh k e hek) rfl) rfl<|aq 3 rfl<|aD [2,3,5,6,35,36,37] rfl ?_
   refine ab (.a 5 rfl<|.c rfl (xV T hp1 e x.node k) rfl<|.a 1 rfl<|.k [2,3,35,36,37,48] rfl)<|dy [] (.c 2<|.c 3<|.c 35<|.c 36<|.c 37<|.c 48 .nil) .nil rfl rfl ?_
   refine af rfl (fun hz=>?_) (fun hz=>?_)
   ·rw[wO hek (by simpa using hz)]
    exact ab (.a 1 rfl<|.k [4] rfl)<|ao<|⟨_,_,aA.of rfl,ax.pure,rfl⟩
   ·have hz':jh T x.node k e=true:=by simpa using hz
    refine ak<|aB (.v (aP rfl) rfl<|.a 1 rfl<|.k [2,3,35,36,37] rfl) ?_
    refine⟨x.dh.length - (k+1),by omega,k+1,by omega,rfl,fun i e' hi he'=>?_,rfl⟩
    by_cases h:i=k
    ·subst h;rw[hek]at he';cases he';exact hz'
    ·exact hall i e' (by omega) he'
  ·have hke:k=x.dh.length:=by have:=ff hy;omega
   rw[jw fun i e hi=>hall i e (by have:=(List.getElem?_eq_some_iff.1 hi).1;omega) hi]
   exact aY<|ab (.a 1 rfl<|.k [4] rfl)<|ao<|⟨_,_,aA.of rfl,ax.pure,rfl⟩
end PW
end Go.Proofs.YtnegbdpggideiaaGreatDoor
namespace Go.Proofs.YtnegbdpggideiaaGreatDoor
namespace PW
open Go.RowKit cH Mem Net
theorem lj(T:an)(n:Int):(bC T n).Pairwise (· < ·):=by
 unfold bC gv
 refine List.Pairwise.map _ (fun a b h=>?_) ((List.pairwise_lt_range (n:=2*T.ag.length)).filter _)
 show(a:Int)<(b:Int)
 omega
theorem ju{T:an}{n:Int}{a:Int}:a∈bC T n↔eA T a=true∧bw T a.toNat=n:=by
 unfold bC gv
 rw[List.mem_map,cT]
 constructor
 ·rintro⟨b,hb,rfl⟩
  obtain⟨h1,h2⟩:=List.mem_filter.1 hb
  have:=List.mem_range.1 h1
  refine⟨⟨by simp,by simp;omega⟩,by simpa using h2⟩
 ·rintro⟨⟨h0,h1⟩,h2⟩
  refine⟨a.toNat,List.mem_filter.2 ⟨List.mem_range.2 (by omega),by simpa using h2⟩,by simp;omega⟩
theorem qk{T:an}{n:Int}{L:List Int}(hs:L.Pairwise (· < ·))(hm:∀a∈L,eA T a=true∧bw T a.toNat=n):eS T n L=true:=decide_eq_true fun i hi=>by
 have h1:=hm _ (bR (d:=0) hi)
 refine⟨h1.1,h1.2,fun h0=>?_⟩
 have:=List.pairwise_iff_getElem.1 hs (i - 1) i (by omega) hi (by omega)
 rw[List.getD_eq_getElem?_getD,List.getD_eq_getElem?_getD,List.getElem?_eq_getElem hi,List.getElem?_eq_getElem (by omega:i - 1<L.length)]
 exact this
theorem mE(T:an)(n:Int)(p:Int→Bool):eS T n ((bC T n).filter p)=true:=qk ((lj T n).filter p) fun _ ha=>ju.1 (List.mem_filter.1 ha).1
theorem ql(T:an)(D:List Bool)(n d:Nat):eS T n (bm T D n d)=true:=by
 unfold bm
 split
 ·exact decide_eq_true fun i hi=>by simp at hi
 ·exact mE T n _
theorem iV(T:an)(D:List Bool)(n:Nat):bm T D n n=[]:=by unfold bm;rw[if_pos (.inl rfl)]
theorem ur{T:an}{D:List Bool}(hv:av T=true){n:Nat}(hn:(n:Int)<T.nodes):eV T (di T D n)=true:=by
 unfold eV di
 have h1:aV T (n:Int)=true:=aO.2 ⟨by omega,hn⟩
 have hN:=(aQ hv).nodes
 have h2:decide (((mU T D n T.nodes.toNat).length:Int)=T.nodes)=true:=decide_eq_true (by rw[pU];omega)
 have h3:eS T n (cj D (bC T n))=true:=mE T n _
 have h4:mR T n (mU T D n T.nodes.toNat)=true:=jw fun d e he=>by
  unfold mU at he
  rw[List.getElem?_map,Option.map_eq_some_iff]at he
  obtain⟨d',hd',rfl⟩:=he
  have hd:d'=d:=by
   have:=List.getElem?_eq_some_iff.1 hd'
   obtain⟨h,h'⟩:=this
   simpa using h'.symm
  subst hd
  unfold jh
  simp only[ql,Bool.true_and]
  by_cases hdn:d'=n
  ·subst hdn;rw[iV];simp
  ·rw[decide_eq_false (by omega)];simp
 rw[hv,h1,h2,h3,h4]
 rfl
theorem nw{T:an}{D:List Bool}(hv:av T=true){d x:Nat}(hd:(d:Int)<T.nodes)(hx:(x:Int)<T.nodes):(bE T D d false).getD x 0=at' (bE T D d false) (x:Int):=by
 have hl:=(cW (D:=D) hv (dir:=false) hd).1
 unfold at'
 rw[Int.toNat_natCast,List.getD_eq_getElem?_getD,List.getD_eq_getElem?_getD,List.getElem?_eq_getElem (by omega)]
 rfl
structure jq (T:an) (D:List Bool) (n d a:Nat):Prop where
 iM:a<2*T.ag.length
 tail:bw T a=(n:Int)
 up:aW D a=false
 ne:n≠d
 reach:0≤(bE T D d false).getD (bb T a).toNat 0
 pass:bb T a=(d:Int)∨cN T (bb T a).toNat=false
 sum:(bE T D d false).getD n 0=(bE T D d false).getD (bb T a).toNat 0+cb T a
theorem dj{T:an}{D:List Bool}{n d:Nat}{a:Int}(h:a∈bm T D n d):∃k:Nat,a=k∧jq T D n d k:=by
 unfold bm at h
 split at h
 ·simp at h
 ·rename_i hne
  obtain⟨h1,h2⟩:=List.mem_filter.1 h
  obtain⟨h3,h4⟩:=ju.1 h1
  obtain⟨h5,h6⟩:=cT.1 h3
  obtain⟨k,rfl⟩:=Int.eq_ofNat_of_zero_le h5
  rw[Int.toNat_natCast]at h2 h4
  unfold fS at h2
  simp only[Bool.and_eq_true,Bool.not_eq_true',Bool.or_eq_false_iff,decide_eq_true_eq,decide_eq_false_iff_not]at h2
  obtain⟨⟨⟨g1,g2⟩,g3⟩,g4⟩:=h2
  refine⟨k,rfl,by omega,h4,g1,fun e=>hne (.inl e),by omega,?_,by omega⟩
  rcases Bool.and_eq_false_iff.1 g3 with g|g
  ·exact .inl (Classical.byContradiction (ff g))
  ·exact .inr g
theorem fq{T:an}{D:List Bool}{n d k:Nat}(h:jq T D n d k)(hc:1≤cb T k):(k:Int)∈bm T D n d:=by
 have hs:=h.sum
 have hr:=h.reach
 unfold bm
 rw[if_neg (by rintro(e|e);exact h.ne e;omega)]
 refine List.mem_filter.2 ⟨ju.2 ⟨cT.2 ⟨by omega,by have:=h.iM;omega⟩,h.tail⟩,?_⟩
 unfold fS
 rw[Int.toNat_natCast]
 simp only[Bool.and_eq_true,Bool.not_eq_true',Bool.or_eq_false_iff,decide_eq_true_eq,decide_eq_false_iff_not]
 refine⟨⟨⟨h.up,by omega⟩,?_⟩,by omega⟩
 rcases h.pass with g|g
 ·rw[decide_eq_false (by simpa using g)];rfl
 ·rw[g,Bool.and_false]
theorem kB{T:an}{D:List Bool}(hv:av T=true){n d:Nat}(hn:(n:Int)<T.nodes)(hd:(d:Int)<T.nodes)(hne:n≠d)(h0:0≤(bE T D d false).getD n 0):∃k,jq T D n d k:=by
 have hS:=aQ hv
 have hI:=jT hS D false hd
 have e1:=nw (D:=D) hv hd hn
 rcases hI.mY n hn (by rw[←e1];exact h0)with h|⟨a,ha,hx,⟨w1,w2,w3⟩,hs⟩
 ·exact absurd h hne
 ·have hh:=hS.head a ha
  obtain⟨y,hy⟩:=Int.eq_ofNat_of_zero_le hh.1
  have e2:=nw (D:=D) hv hd (x:=y) (by omega)
  simp only[fk,cL,Bool.false_eq_true,if_false]at hx w2 w3 hs
  rw[hy]at w2 w3 hs
  refine⟨a,ha,hx,w1,hne,?_,?_,?_⟩
  ·rw[hy,Int.toNat_natCast,e2];exact w2
  ·rw[hy];exact w3
  ·rw[hy,Int.toNat_natCast,e1,e2];exact hs
theorem Ai{T:an}{D:List Bool}(hv:av T=true){d:Nat}(hd:(d:Int)<T.nodes):(bE T D d false).getD d 0=0:=by
 rw[nw hv hd hd]
 exact(jT (aQ hv) D false hd).root
end PW
end Go.Proofs.YtnegbdpggideiaaGreatDoor
namespace Go.Proofs.YtnegbdpggideiaaGreatDoor
namespace PW
open Go.RowKit cH Mem Net
noncomputable def dN(T:an)(D:List Bool)(d x:Nat):Int:=(bE T D d false).getD x 0
def cU(T:an)(p:List Int):Int:=p.foldr (fun a c=>cb T a.toNat+c) 0
theorem gR(T:an):cU T []=0:=rfl
theorem fJ(T:an)(a:Int)(p:List Int):cU T (a::p)=cb T a.toNat+cU T p:=rfl
theorem gr(T:an)(p q:List Int):cU T (p++q)=cU T p+cU T q:=by
 induction p with
 |nil=>simp[gR]
 |cons a p ih=>rw[List.cons_append,fJ,fJ,ih];omega
inductive SP (T:an) (D:List Bool) (d:Nat):Nat→List Int→Prop
 |nil:SP T D d d []
 |cons {n a m:Nat} {p:List Int}:jq T D n d a→bb T a=(m:Int)→SP T D d m p→SP T D d n ((a:Int)::p)
inductive Ch (T:an) (D:List Bool) (d:Nat):Nat→List Int→Prop
 |nil:Ch T D d d []
 |cons {n a m:Nat} {p:List Int}:a<2*T.ag.length→bw T a=(n:Int)→aW D a=false→bb T a=(m:Int)→(p=[]∨cN T m=false)→Ch T D d m p→Ch T D d n ((a:Int)::p)
theorem nA:∀(N:Nat) (l:List Nat),l.Nodup→(∀x∈l,x<N)→l.length≤N
 |0,l,_,h=>by
  cases l with
  |nil=>simp
  |cons a l=>have:=h a (by simp);omega
 |N+1,l,hn,h=>by
  have h1:=nA N (l.erase N) (hn.erase N) (fun x hx=>by
   have h2:=(List.Nodup.mem_erase_iff hn).1 hx
   have:=h x h2.2
   have:=h2.1
   omega)
  rw[List.length_erase]at h1
  split at h1<;>omega
section
variable {T:an} {D:List Bool} {d:Nat}
theorem du(hv:av T=true){a:Nat}(ha:a<2*T.ag.length):∃m:Nat,bb T a=(m:Int)∧(m:Int)<T.nodes:=by
 obtain⟨h0,h1⟩:=(aQ hv).head a ha
 obtain⟨m,hm⟩:=Int.eq_ofNat_of_zero_le h0
 exact⟨m,hm,by rw[←hm];exact h1⟩
theorem kh(hv:av T=true)(hd:(d:Int)<T.nodes):dN T D d d=0:=Ai hv hd
theorem GW(hv:av T=true)(hd:(d:Int)<T.nodes){x:Nat}(hx:(x:Int)<T.nodes): -1≤dN T D d x∧dN T D d x≤4194240:=by
 obtain⟨h1,h2⟩:=cW (D:=D) hv (dir:=false) hd
 exact h2 _ (bR (by omega))
theorem jq.dN{n a m:Nat}(h:jq T D n d a)(hm:bb T a=(m:Int)):0≤dN T D d m∧dN T D d n=dN T D d m+cb T a:=by
 have h1:=h.reach
 have h2:=h.sum
 rw[hm,Int.toNat_natCast]at h1 h2
 exact⟨h1,h2⟩
theorem jq.node(hv:av T=true){n a:Nat}(h:jq T D n d a):(n:Int)<T.nodes:=by rw[←h.tail];exact((aQ hv).tail a h.iM).2
theorem SP.node(hv:av T=true)(hd:(d:Int)<T.nodes){n:Nat}{p:List Int}(h:SP T D d n p):(n:Int)<T.nodes:=by
 cases h with
 |nil=>exact hd
 |cons h1 _ _=>exact h1.node hv
theorem SP.cost(hv:av T=true)(hd:(d:Int)<T.nodes){n:Nat}{p:List Int}(h:SP T D d n p):dN T D d n=cU T p∧0≤dN T D d n:=by
 induction h with
 |nil=>rw[kh hv hd];exact⟨rfl,Int.le_refl _⟩
 |cons h1 hm _ ih=>
  obtain⟨g1,g2⟩:=h1.dN hm
  have:=(aQ hv).cost _ h1.iM
  rw[fJ,Int.toNat_natCast]
  omega
theorem SP.self{p:List Int}(h:SP T D d d p):p=[]:=by
 cases h with
 |nil=>rfl
 |cons h1 _ _=>exact absurd rfl h1.ne
theorem SP.len(hv:av T=true)(hd:(d:Int)<T.nodes){n:Nat}{p:List Int}(h:SP T D d n p):(p.length:Int)≤dN T D d n:=by
 induction h with
 |nil=>rw[kh hv hd];simp
 |cons h1 hm _ ih=>
  obtain⟨g1,g2⟩:=h1.dN hm
  have:=(aQ hv).cost _ h1.iM
  simp only[List.length_cons]
  omega
theorem SP.ch{n:Nat}{p:List Int}(h:SP T D d n p):Ch T D d n p:=by
 induction h with
 |nil=>exact .nil
 | @cons n a m p h1 hm hp ih=>
  refine .cons h1.iM h1.tail h1.up hm ?_ ih
  rcases h1.pass with hx|hx
  ·have:m=d:=by rw[hm]at hx;omega
   subst this
   exact .inl hp.self
  ·rw[hm,Int.toNat_natCast]at hx;exact .inr hx
theorem BZ(hv:av T=true)(hd:(d:Int)<T.nodes){n a m:Nat}(ha:a<2*T.ag.length)(ht:bw T a=(n:Int))(hu:aW D a=false)(hm:bb T a=(m:Int))(ho:m=d∨cN T m=false)(h0:0≤dN T D d m):0≤dN T D d n∧dN T D d n≤dN T D d m+cb T a:=by
 have hS:=aQ hv
 have hI:=jT hS D false hd
 have hmN:(m:Int)<T.nodes:=by rw[←hm];exact(hS.head a ha).2
 have hnN:(n:Int)<T.nodes:=by rw[←ht];exact(hS.tail a ha).2
 have e1:=nw (D:=D) hv hd hnN
 have e2:=nw (D:=D) hv hd hmN
 have:=hI.closed a ha ⟨hu,by simp only[cL,Bool.false_eq_true,if_false];rw[hm,←e2];exact h0,by
  simp only[cL,Bool.false_eq_true,if_false];rw[hm]
  rcases ho with h|h
  ·exact .inl (by rw[h])
  ·exact .inr (by simpa using h)⟩
 simp only[fk,cL,Bool.false_eq_true,if_false]at this
 rw[hm,ht,←e1,←e2]at this
 exact this
theorem Ch.node(hv:av T=true)(hd:(d:Int)<T.nodes){n:Nat}{p:List Int}(h:Ch T D d n p):(n:Int)<T.nodes:=by
 cases h with
 |nil=>exact hd
 |cons h1 ht _ _ _ _=>rw[←ht];exact((aQ hv).tail _ h1).2
theorem Ch.to{n:Nat}{p:List Int}(h:Ch T D d n p):p=[]→n=d:=by
 cases h with
 |nil=>intro _;rfl
 |cons=>intro h;cases h
theorem Ch.le(hv:av T=true)(hd:(d:Int)<T.nodes){n:Nat}{p:List Int}(h:Ch T D d n p):0≤dN T D d n∧dN T D d n≤cU T p:=by
 induction h with
 |nil=>rw[kh hv hd];exact⟨Int.le_refl _,Int.le_refl _⟩
 | @cons n a m p ha ht hu hm ho hp ih=>
  have:=BZ hv hd ha ht hu hm (by rcases ho with h|h;exact .inl (hp.to h);exact .inr h) ih.1
  rw[fJ,Int.toNat_natCast]
  omega
theorem Ch.sp(hv:av T=true)(hd:(d:Int)<T.nodes){n:Nat}{p:List Int}(h:Ch T D d n p)(hc:dN T D d n=cU T p):SP T D d n p:=by
 induction h with
 |nil=>exact .nil
 | @cons n a m p ha ht hu hm ho hp ih=>
  have ho':m=d∨cN T m=false:=by rcases ho with h|h;exact .inl (hp.to h);exact .inr h
  have h1:=hp.le hv hd
  have h2:=BZ hv hd ha ht hu hm ho' h1.1
  rw[fJ,Int.toNat_natCast]at hc
  have h3:=(aQ hv).cost a ha
  refine .cons ⟨ha,ht,hu,?_,?_,?_,?_⟩ hm (ih (by omega))
  ·rintro rfl;rw[kh hv hd]at hc h2;omega
  ·rw[hm,Int.toNat_natCast];exact h1.1
  ·rw[hm];rcases ho' with h|h;exact .inl (by rw[h]);exact .inr (by simpa using h)
  ·rw[hm,Int.toNat_natCast];show dN T D d n=dN T D d m+cb T a;omega
noncomputable def fj(T:an)(D:List Bool)(d:Nat):Nat→Nat→List Int
 |0,_=>[]
 |f+1,n=>match bm T D n d with
  | []=>[]
  |a::_=>a::fj T D d f (bb T a.toNat).toNat
noncomputable def cm(T:an)(D:List Bool)(n d:Nat):List Int:=fj T D d (dN T D d n).toNat n
theorem qN{n:Nat}(h:dN T D d n<0):bm T D n d=[]:=by unfold bm;rw[if_pos (.inr h)]
theorem vm(hv:av T=true)(hd:(d:Int)<T.nodes):∀(f n:Nat),(n:Int)<T.nodes→0≤dN T D d n→dN T D d n≤f→SP T D d n (fj T D d f n)
 |f,n,hn,h0,hf=>by
  by_cases hne:n=d
  ·subst hne
   have:fj T D n f n=[]:=by cases f with|zero=>rfl|succ f=>simp only[fj,iV]
   rw[this];exact .nil
  ·obtain⟨k,hk⟩:=kB (D:=D) hv hn hd hne h0
   cases f with
   |zero=>
    obtain⟨m,hm,_⟩:=du hv hk.iM
    have:=hk.dN hm
    have:=(aQ hv).cost k hk.iM
    omega
   |succ f=>
    simp only[fj]
    have hmem:=fq hk ((aQ hv).cost k hk.iM).1
    cases hx:bm T D n d with
    |nil=>rw[hx]at hmem;cases hmem
    |cons a l=>
     obtain⟨b,hb,hbn⟩:=dj (T:=T) (D:=D) (n:=n) (d:=d) (a:=a) (by rw[hx];simp)
     subst hb
     obtain⟨m,hm,hmN⟩:=du hv hbn.iM
     have g:=hbn.dN hm
     have:=(aQ hv).cost b hbn.iM
     simp only[Int.toNat_natCast,hm]
     exact .cons hbn hm (vm hv hd f m hmN g.1 (by omega))
theorem eP(hv:av T=true)(hd:(d:Int)<T.nodes){n:Nat}(hn:(n:Int)<T.nodes)(h0:0≤dN T D d n):SP T D d n (cm T D n d):=vm hv hd _ n hn h0 (by omega)
noncomputable def mK(T:an)(D:List Bool)(d:Nat):Nat→Nat→Int
 |0,m=>if m=d then 1 else 0
 |f+1,m=>if m=d then 1 else(bm T D m d).foldl (fun c a=>min 2 (c+mK T D d f (bb T a.toNat).toNat)) 0
noncomputable def dF(T:an)(D:List Bool)(d m:Nat):Int:=mK T D d (dN T D d m).toNat m
theorem foldl_congr{α β:Type}{f g:α→β→α}:∀ {l:List β} {a:α},(∀a b,b∈l→f a b=g a b)→l.foldl f a=l.foldl g a
 | [],_,_=>rfl
 |b::l,a,h=>by simp only[List.foldl_cons,h a b (by simp)];exact foldl_congr fun a c hc=>h a c (by simp[hc])
theorem mh(hv:av T=true)(hd:(d:Int)<T.nodes):∀(K m f:Nat),(m:Int)<T.nodes→dN T D d m≤K→dN T D d m≤f→mK T D d f m=dF T D d m
 |K,m,f,hmN,hK,hf=>by
  unfold dF
  by_cases hmd:m=d
  ·subst hmd
   cases f<;>cases(dN T D m m).toNat<;>simp[mK]
  ·by_cases h0:dN T D d m<0
   ·have hx:=qN h0
    rw[show(dN T D d m).toNat=0 by omega]
    cases f<;>simp[mK,hmd,hx]
   ·obtain⟨k,hk⟩:=kB (D:=D) hv hmN hd hmd (by show 0≤dN T D d m;omega)
    have hpos:0<dN T D d m:=by
     obtain⟨m',hm',_⟩:=du hv hk.iM
     have:=hk.dN hm'
     have:=(aQ hv).cost k hk.iM
     omega
    obtain⟨g,hg⟩:∃g,(dN T D d m).toNat=g+1:=⟨(dN T D d m).toNat - 1,by omega⟩
    cases f with
    |zero=>omega
    |succ f=>
     cases K with
     |zero=>omega
     |succ K=>
      rw[hg]
      simp only[mK,if_neg hmd]
      refine foldl_congr fun c a ha=>?_
      obtain⟨b,rfl,hbn⟩:=dj ha
      obtain⟨m',hm',hmN'⟩:=du hv hbn.iM
      have g1:=hbn.dN hm'
      have g2:=(aQ hv).cost b hbn.iM
      rw[Int.toNat_natCast,hm',Int.toNat_natCast,mh hv hd K m' f hmN' (by omega) (by omega),mh hv hd K m' g hmN' (by omega) (by omega)]
theorem nC(m:Nat):dF T D m m=1:=by unfold dF;cases(dN T D m m).toNat<;>simp[mK]
theorem rv(hv:av T=true)(hd:(d:Int)<T.nodes){m:Nat}(hmN:(m:Int)<T.nodes)(hmd:m≠d):dF T D d m=(bm T D m d).foldl (fun c a=>min 2 (c+dF T D d (bb T a.toNat).toNat)) 0:=by
 by_cases h0:dN T D d m<0
 ·unfold dF
  rw[qN h0,show(dN T D d m).toNat=0 by omega]
  simp[mK,hmd]
 ·have h1:=mh (D:=D) hv hd (dN T D d m).toNat m ((dN T D d m).toNat+1) hmN (by omega) (by omega)
  rw[←h1]
  simp only[mK,if_neg hmd]
  refine foldl_congr fun c a ha=>?_
  obtain⟨b,rfl,hbn⟩:=dj ha
  obtain⟨m',hm',hmN'⟩:=du hv hbn.iM
  have g1:=hbn.dN hm'
  have g2:=(aQ hv).cost b hbn.iM
  rw[Int.toNat_natCast,hm',Int.toNat_natCast,mh hv hd (dN T D d m).toNat m' _ hmN' (by omega) (by omega)]
theorem zr(hv:av T=true)(hd:(d:Int)<T.nodes){m:Nat}(hmN:(m:Int)<T.nodes)(h0:dN T D d m<0):dF T D d m=0:=by
 have hmd:m≠d:=by rintro rfl;rw[kh hv hd]at h0;omega
 rw[rv hv hd hmN hmd,qN h0];rfl
theorem nE(g:Int→Int)(hg:∀a,0≤g a):∀(l:List Int) (c:Int),0≤c→c≤2→0≤l.foldl (fun c a=>min 2 (c+g a)) c∧l.foldl (fun c a=>min 2 (c+g a)) c≤2
 | [],c,h0,h2=>⟨h0,h2⟩
 |a::l,c,h0,h2=>by
  have:=hg a
  exact nE g hg l _ (show 0≤min 2 (c+g a) by omega) (show min 2 (c+g a)≤2 by omega)
theorem qM(g:Int→Int)(hg:∀a,0≤g a):∀(l:List Int) (c:Int),c≤2→c≤l.foldl (fun c a=>min 2 (c+g a)) c
 | [],c,_=>Int.le_refl _
 |a::l,c,h2=>by
  have:=hg a
  have:=qM g hg l (min 2 (c+g a)) (by omega)
  simp only[List.foldl_cons]
  omega
theorem se(hv:av T=true)(hd:(d:Int)<T.nodes):∀(f m:Nat),0≤mK T D d f m∧mK T D d f m≤2
 |0,m=>by simp only[mK];split<;>omega
 |f+1,m=>by
  simp only[mK]
  split
  ·omega
  ·exact nE (fun a=>mK T D d f (bb T a.toNat).toNat) (fun a=>(se hv hd f _).1) _ 0 (by omega) (by omega)
theorem jg(hv:av T=true)(hd:(d:Int)<T.nodes)(m:Nat):0≤dF T D d m∧dF T D d m≤2:=se hv hd _ m
theorem zJ(hv:av T=true)(hd:(d:Int)<T.nodes):∀(K m:Nat),(m:Int)<T.nodes→0≤dN T D d m→dN T D d m≤K→1≤dF T D d m
 |K,m,hmN,h0,hK=>by
  by_cases hmd:m=d
  ·subst hmd;rw[nC];omega
  ·obtain⟨k,hk⟩:=kB (D:=D) hv hmN hd hmd h0
   have hmem:=fq hk ((aQ hv).cost k hk.iM).1
   obtain⟨m',hm',hmN'⟩:=du hv hk.iM
   have g1:=hk.dN hm'
   have g2:=(aQ hv).cost k hk.iM
   cases K with
   |zero=>omega
   |succ K=>
    have hp:=zJ hv hd K m' hmN' g1.1 (by omega)
    rw[rv hv hd hmN hmd]
    obtain⟨l1,l2,hl⟩:=List.append_of_mem hmem
    rw[hl,List.foldl_append,List.foldl_cons]
    have hg:∀a:Int,0≤dF T D d (bb T a.toNat).toNat:=fun a=>(jg hv hd _).1
    have a1:=nE (fun a=>dF T D d (bb T a.toNat).toNat) hg l1 0 (by omega) (by omega)
    have a2:=qM (fun a=>dF T D d (bb T a.toNat).toNat) hg l2 (min 2 (l1.foldl (fun c a=>min 2 (c+dF T D d (bb T a.toNat).toNat)) 0+dF T D d (bb T (k:Int).toNat).toNat)) (by omega)
    rw[Int.toNat_natCast,hm',Int.toNat_natCast]at a2
    rw[Int.toNat_natCast,hm',Int.toNat_natCast]
    omega
theorem tW(hv:av T=true)(hd:(d:Int)<T.nodes){m:Nat}(hmN:(m:Int)<T.nodes)(hmd:m≠d)(h:dF T D d m=1):∃a:Nat,bm T D m d=[(a:Int)]∧jq T D m d a∧∀k:Nat,bb T a=(k:Int)→dF T D d k=1:=by
 rw[rv hv hd hmN hmd]at h
 have hg:∀a:Int,0≤dF T D d (bb T a.toNat).toNat:=fun a=>(jg hv hd _).1
 have hone:∀a∈bm T D m d,1≤dF T D d (bb T a.toNat).toNat:=fun a ha=>by
  obtain⟨b,rfl,hb⟩:=dj ha
  obtain⟨m',hm',hmN'⟩:=du hv hb.iM
  have g1:=hb.dN hm'
  rw[Int.toNat_natCast,hm',Int.toNat_natCast]
  exact zJ hv hd (dN T D d m').toNat m' hmN' g1.1 (by omega)
 cases hx:bm T D m d with
 |nil=>rw[hx]at h;simp at h
 |cons a l=>
  obtain⟨b,rfl,hb⟩:=dj (T:=T) (D:=D) (n:=m) (d:=d) (a:=a) (by rw[hx];simp)
  have h1:=hone b (by rw[hx];simp)
  rw[hx,List.foldl_cons]at h
  cases l with
  |nil=>
   refine⟨b,rfl,hb,fun k hk=>?_⟩
   simp only[List.foldl_nil,Int.toNat_natCast,hk]at h h1
   omega
  |cons a2 l=>
   have h2:=hone a2 (by rw[hx];simp)
   rw[List.foldl_cons]at h
   have:=qM (fun a=>dF T D d (bb T a.toNat).toNat) hg l (min 2 (min 2 (0+dF T D d (bb T (b:Int).toNat).toNat)+dF T D d (bb T a2.toNat).toNat)) (by omega)
   omega
theorem yF(hv:av T=true)(hd:(d:Int)<T.nodes){m a k:Nat}(hmN:(m:Int)<T.nodes)(hmd:m≠d)(hx:bm T D m d=[(a:Int)])(hk:bb T a=(k:Int))(h:dF T D d k=1):dF T D d m=1:=by
 rw[rv hv hd hmN hmd,hx]
 simp only[List.foldl_cons,List.foldl_nil,Int.toNat_natCast,hk,h]
 omega
theorem SP.unique(hv:av T=true)(hd:(d:Int)<T.nodes){n:Nat}{p q:List Int}(h:SP T D d n p)(hq:SP T D d n q)(hc:dF T D d n=1):p=q:=by
 induction h generalizing q with
 |nil=>exact hq.self.symm
 | @cons n a m p h1 hm hp ih=>
  cases hq with
  |nil=>exact absurd rfl h1.ne
  | @cons _ a' m' q h1' hm' hq=>
   obtain⟨b,hb,_,hb2⟩:=tW hv hd (h1.node hv) h1.ne hc
   have e1:=fq h1 ((aQ hv).cost a h1.iM).1
   have e2:=fq h1' ((aQ hv).cost a' h1'.iM).1
   rw[hb]at e1 e2
   simp only[List.mem_singleton]at e1 e2
   have ea:a=b:=by omega
   have ea':a'=b:=by omega
   subst ea
   subst ea'
   have em:m=m':=by rw[hm]at hm';omega
   subst em
   rw[ih hq (hb2 m hm)]
noncomputable def eM(T:an)(D:List Bool)(n d:Int):Bool:=decide (bQ T D n d=0)&&decide (dF T D d.toNat n.toNat=1)
theorem SP.xt(hv:av T=true)(hd:(d:Int)<T.nodes){n:Nat}{p:List Int}(h:SP T D d n p):(p.length:Int)<T.nodes:=by
 have key:∃l:List Nat,l.length=p.length+1∧l.Nodup∧(∀x∈l,(x:Int)<T.nodes∧dN T D d x≤dN T D d n):=by
  induction h with
  |nil=>exact⟨[d],rfl,by simp,fun x hx=>by simp at hx;subst hx;exact⟨hd,Int.le_refl _⟩⟩
  | @cons n a m p h1 hm hp ih=>
   obtain⟨l,e1,e2,e3⟩:=ih
   have g1:=h1.dN hm
   have g2:=(aQ hv).cost a h1.iM
   refine⟨n::l,by simp[e1],List.nodup_cons.2 ⟨fun hn=>by have:=(e3 n hn).2;omega,e2⟩,fun x hx=>?_⟩
   cases hx with
   |head=>exact⟨h1.node hv,Int.le_refl _⟩
   |tail _ hx=>have:=e3 x hx;exact⟨this.1,by omega⟩
 obtain⟨l,e1,e2,e3⟩:=key
 have hN:=(aQ hv).nodes
 have:=nA T.nodes.toNat l e2 (fun x hx=>by have:=(e3 x hx).1;omega)
 omega
end
end PW
end Go.Proofs.YtnegbdpggideiaaGreatDoor
namespace Go.Proofs.YtnegbdpggideiaaGreatDoor
namespace PW
open Go.RowKit cH Mem Net
def dz(T:an):Bool→Int→List Int→Int
 |_,_,[]=>0
 |f,n,a::l=>if eA T a=false then 2 else if bw T a.toNat≠n∨(f=false∧cN T n.toNat=true) then 4 else dz T false (bb T a.toNat) l
def dL(T:an)(n:Int)(l:List Int):Int:=if av T then(if aV T n then dz T true n l else 2) else 1
def cE(T:an):Int→List Int→Int
 |n,[]=>n
 |_,a::l=>cE T (bb T a.toNat) l
def jA(T:an)(n:Int)(l:List Int):PV:=.tuple [num (if dL T n l=0 then cE T n l else 0),num (if dL T n l=0 then cU T l else 0),num (dL T n l)]
theorem lq(T:an):∀(n:Int) (l m:List Int),cE T n (l++m)=cE T (cE T n l) m
 |_,[],_=>rfl
 |_,a::l,m=>lq T _ l m
theorem drop_cons(l:List Int)(k:Nat)(h:k<l.length):l.drop k=l.getD k 0::l.drop (k+1):=by
 rw[List.drop_eq_getElem_cons h,List.getD_eq_getElem?_getD,List.getElem?_eq_getElem h];rfl
theorem fv(T:an)(n:Int)(l:List Int)(k:Nat)(h:k<l.length):cE T n (l.take (k+1))=bb T (l.getD k 0).toNat:=by
 rw[cX l k 0 h,lq];rfl
theorem kA(T:an)(l:List Int)(k:Nat)(h:k<l.length):cU T (l.take (k+1))=cU T (l.take k)+cb T (l.getD k 0).toNat:=by
 rw[cX l k 0 h,gr];simp[fJ,gR]
theorem mB{T:an}{f:Bool}{n a:Int}{l:List Int}(h1:eA T a=true)(h2:bw T a.toNat=n)(h3:f=true∨cN T n.toNat=false):dz T f n (a::l)=dz T false (bb T a.toNat) l:=by
 simp only[dz]
 rw[if_neg (by rw[h1];simp),if_neg]
 rintro(h|⟨h,h'⟩)
 ·exact h h2
 ·rcases h3 with h3|h3
  ·rw[h3]at h;cases h
  ·rw[h3]at h';cases h'
theorem wI{T:an}{f:Bool}{n a:Int}{l:List Int}(h1:eA T a=true)(h2:bw T a.toNat≠n∨(f=false∧cN T n.toNat=true)):dz T f n (a::l)=4:=by
 simp only[dz]
 rw[if_neg (by rw[h1];simp),if_pos h2]
theorem A6(T:an)(hl:T.ag.length≤4611686018427387902)(a:Int)(h:eA T a=true):Can Tryz.prog 150 [aJ T,num a] (· =num (bb T a.toNat)):=by
 obtain⟨h0,h1⟩:=cT.1 h
 obtain⟨a,rfl⟩:=Int.eq_ofNat_of_zero_le h0
 exact fA T a (by omega) hl
theorem A4(T:an)(a:Int)(h:eA T a=true):Can Tryz.prog 149 [aJ T,num a] (· =num (cb T a.toNat)):=by
 obtain⟨h0,h1⟩:=cT.1 h
 obtain⟨a,rfl⟩:=Int.eq_ofNat_of_zero_le h0
 exact kV T a (by omega)
theorem rh(T:an)(hv:av T=true)(a:Int)(h:eA T a=true):Can Tryz.prog 39 [aJ T,num a] (· =num (bw T a.toNat)):=by
 obtain⟨h0,h1⟩:=cT.1 h
 obtain⟨a,rfl⟩:=Int.eq_ofNat_of_zero_le h0
 exact eJ T hv a (by omega)
theorem nh(T:an)(hv:av T=true)(a:Int)(h:eA T a=true):Can Tryz.prog 41 [aJ T,num a] (· =num (bb T a.toNat)):=by
 obtain⟨h0,h1⟩:=cT.1 h
 obtain⟨a,rfl⟩:=Int.eq_ofNat_of_zero_le h0
 exact gP T hv a (by omega)
theorem xh(T:an)(hv:av T=true)(a:Int)(h:eA T a=true):Can Tryz.prog 42 [aJ T,num a] (· =num (cb T a.toNat)):=by
 obtain⟨h0,h1⟩:=cT.1 h
 obtain⟨a,rfl⟩:=Int.eq_ofNat_of_zero_le h0
 exact kq T hv a (by omega)
theorem iR{T:an}(hv:av T=true){a:Int}(h:eA T a=true):(1≤cb T a.toNat∧cb T a.toNat≤65535)∧∃m:Nat,bb T a.toNat=(m:Int)∧(m:Int)<T.nodes:=by
 obtain⟨h0,h1⟩:=cT.1 h
 have hl:a.toNat<2*T.ag.length:=by omega
 exact⟨(aQ hv).cost _ hl,du hv hl⟩
theorem zC{T:an}(hv:av T=true){x:Nat}(hx:(x:Int)<T.nodes):T.over.length=0∨x<T.over.length:=by have:=(gw hv).2.2.2;omega
theorem wa(T:an)(n:Int)(l:List Int)(hl:l.length≤1000000):Can Tryz.prog 120 [aJ T,num n,aw l] (· =jA T n l):=by
 refine aF Tryz.func120 rfl Tryz.ntmps120 rfl<|ab (.a 4 rfl<|.k [1,2,3,7] rfl)<|aj<|ab (.a 1 rfl<|.c rfl (er T) rfl<|.a 1 rfl<|.k [1,2,3,7,13] rfl)<|af rfl (fun hc=>?_) (fun hc=>?_)
 ·have hv:av T=false:=by simpa using hc
  have hX:dL T n l=1:=by unfold dL;rw[hv];rfl
  unfold jA
  rw[hX]
  exact ab (.a 3 rfl<|.k [6,7,8] rfl)<|ao<|⟨_,_,aA.of rfl,ax.pure,rfl⟩
 ·have hv:av T=true:=by simpa using hc
  have hll:=bJ hv
  refine ak<|aj<|ab (.a 2 rfl<|.c rfl (dv T n) rfl<|.a 1 rfl<|.k [1,2,3,7,17] rfl)<|af rfl (fun hc=>?_) (fun hc=>?_)
  ·have hn:aV T n=false:=by simpa using hc
   have hX:dL T n l=2:=by unfold dL;rw[hv,hn];rfl
   unfold jA
   rw[hX]
   exact ab (.a 3 rfl<|.k [6,7,8] rfl)<|ao<|⟨_,_,aA.of rfl,ax.pure,rfl⟩
  ·have hn:aV T n=true:=by simpa using hc
   have hX:dL T n l=dz T true n l:=by unfold dL;rw[hv,hn];rfl
   obtain⟨hn0,hn1⟩:=aO.1 hn
   obtain⟨n,rfl⟩:=Int.eq_ofNat_of_zero_le hn0
   refine ak<|ab (.a 2 rfl<|.k [2,3,6,7] rfl)<|aj<|ab (.a 3 rfl<|.k [3,6,7,19,20,21] rfl)<|au<|ee [3,6,7,19,20,21] rfl<|bf (fun r s=>∃(k x:Nat),k≤l.length∧r=l.length - k∧cE T n (l.take k)=(x:Int)∧(x:Int)<T.nodes∧0≤cU T (l.take k)∧cU T (l.take k)≤65535*(k:Int)∧dz T true n l=dz T (decide (k=0)) x (l.drop k)∧s=⟨[(3,.aX (bn T) 0),(6,num x),(7,num (cU T (l.take k))),(19,aw l),(20,num l.length),(21,num k)],[]⟩) l.length ⟨0,n,by omega,by omega,rfl,hn1,by simp[gR],by simp[gR],rfl,rfl⟩ ?_
   rintro r s ⟨k,x,hk,rfl,hx,hxN,hc0,hc1,hw,rfl⟩
   refine ab (.a 1 rfl<|.k [3,6,7,19,20,21,22] rfl)<|aj<|af rfl (fun hy=>?_) (fun hy=>?_)
   ·have hlt:k<l.length:=by have:=tt hy;omega
    rw[drop_cons l k hlt]at hw
    obtain⟨p1,hp1⟩:∃q,eA T (l.getD k 0)=q:=⟨_,rfl⟩
    have ha:=pR T (by omega) (l.getD k 0)
    rw[hp1]at ha
    refine ak<|aj<|au<|ab (.a 1 rfl<|.v (aI (k) rfl) rfl<|.v (aK rfl (ay l k hlt)) rfl<|.a 2 rfl<|.k [3,6,7,9,10,19,20,21] rfl)<|aj<|ab (.a 2 rfl<|.c rfl (ha) rfl<|.a 1 rfl<|.k [3,6,7,9,10,19,20,21,29] rfl)<|af rfl (fun hz=>?_) (fun hz=>?_)
    ·have h1:p1=false:=by simpa using hz
     subst h1
     have hw2:dz T true n l=2:=by rw[hw];simp only[dz];rw[if_pos hp1]
     unfold jA
     rw[hX,hw2]
     exact ab (.a 3 rfl<|.k [6,7,8] rfl)<|ao<|⟨_,_,aA.of rfl,ax.pure,rfl⟩
    ·have h1:p1=true:=by simpa using hz
     subst h1
     obtain⟨⟨hco0,hco1⟩,y,hyh,hyN⟩:=iR hv hp1
     have hsN:=fv T n l k hlt
     have hsC:=kA T l k hlt
     obtain⟨p2,hp2⟩:∃q,decide (bw T (l.getD k 0).toNat≠(x:Int))=q:=⟨_,rfl⟩
     obtain⟨p3,hp3⟩:∃q,decide (0<(k:Int))=q:=⟨_,rfl⟩
     obtain⟨p4,hp4⟩:∃q,cN T x=q:=⟨_,rfl⟩
     refine ak<|aj<|bx 43 (.raw (.bool (p2||(p3&&p4)))) [3,7,10,19,20,21] rfl ?_ ?_
     ·refine .a 2 rfl<|.c rfl (oZ T _ hp1) rfl<|.a 1 rfl<|.v (b7 rfl (hp2)) rfl<|.a 1 rfl<|?_
      cases p2
      ·refine .a 1 rfl<|.v (b7 rfl (hp3)) rfl<|.a 1 rfl<|?_
       cases p3
       ·exact .a 5 rfl<|.k [43,3,7,10,19,20,21] rfl
       ·exact .a 2 rfl<|.c rfl (hp4▸nN T x (zC hv hxN)) rfl<|.a 2 rfl<|.k [43,3,7,10,19,20,21] rfl
      ·exact .a 8 rfl<|.k [43,3,7,10,19,20,21] rfl
     refine af rfl (fun hb=>?_) (fun hb=>?_)
     ·have hw4:dz T true n l=4:=by
       rw[hw]
       refine wI hp1 ?_
       rcases Bool.or_eq_true_iff.1 hb with h|h
       ·rw[h]at hp2;exact .inl (tt hp2)
       ·obtain⟨h3,h4⟩:=Bool.and_eq_true_iff.1 h
        rw[h3]at hp3
        rw[h4]at hp4
        exact .inr ⟨decide_eq_false (by have:=tt hp3;omega),by rw[Int.toNat_natCast];exact hp4⟩
      unfold jA
      rw[hX,hw4]
      exact ab (.a 3 rfl<|.k [6,7,8] rfl)<|ao<|⟨_,_,aA.of rfl,ax.pure,rfl⟩
     ·obtain⟨b2,b3⟩:=Bool.or_eq_false_iff.1 hb
      rw[b2]at hp2
      have ht:bw T (l.getD k 0).toNat=(x:Int):=Classical.byContradiction (ff hp2)
      have hws:=mB (T:=T) (f:=decide (k=0)) (n:=(x:Int)) (l:=l.drop (k+1)) hp1 ht (by
       rcases Bool.and_eq_false_iff.1 b3 with h|h
       ·rw[h]at hp3;exact .inl (decide_eq_true (by have:=ff hp3;omega))
       ·rw[h]at hp4;exact .inr (by rw[Int.toNat_natCast];exact hp4))
      rw[hws,hyh]at hw
      have hh:=A6 T (by omega) _ hp1
      rw[hyh]at hh
      refine ak<|ab (.a 2 rfl<|.c rfl (hh) rfl<|.a 1 rfl<|.k [3,6,7,10,19,20,21] rfl)<|aB (.a 3 rfl<|.c rfl (A4 T _ hp1) rfl<|.v (aP rfl (hc:=hsC.symm) (hn:=by unfold In64;omega)) rfl<|.a 1 rfl<|.k [3,6,7,19,20,21] rfl) ?_
      refine aB (.v (aP rfl) rfl<|.a 1 rfl<|.k [3,6,7,19,20,21] rfl) ?_
      exact⟨l.length - (k+1),by omega,k+1,y,by omega,rfl,by rw[hsN,hyh],hyN,by omega,by omega,by rw[hw];rfl,rfl⟩
   ·have hke:k=l.length:=by have:=ff hy;omega
    subst hke
    rw[List.drop_length]at hw
    rw[List.take_length]at hx ⊢
    unfold jA
    rw[hX,hw]
    simp only[dz,if_true]
    rw[hx]
    exact aY<|ab (.a 5 rfl<|.k [6,7,8] rfl)<|ao<|⟨_,_,aA.of rfl,ax.pure,rfl⟩
theorem zV(T:an)(n:Int)(l:List Int)(hl:l.length≤1000000):Can Tryz.prog 38 [aJ T,num n,aw l] (· =jA T n l):=by
 obtain⟨g1,hg1⟩:∃q,decide (n<0)=q:=⟨_,rfl⟩
 obtain⟨g2,hg2⟩:∃q,decide (T.nodes≤n)=q:=⟨_,rfl⟩
 have hnb:aV T n= !(g1||g2):=by rw[←hg1,←hg2,←Bool.decide_or,←decide_not];unfold aV;exact decide_eq_decide.2 (by omega)
 refine aF Tryz.func38 rfl Tryz.ntmps38 rfl<|ab (.a 4 rfl<|.k [1,2,3] rfl)<|aj<|ab (.a 1 rfl<|.c rfl (fK T) rfl<|.a 1 rfl<|.k [1,2,3,13] rfl)<|af rfl (fun hc=>?_) (fun hc=>?_)
 ·have hv:av T=false:=by simpa using hc
  have hX:dL T n l=1:=by unfold dL;rw[hv];rfl
  unfold jA
  rw[hX]
  exact ab (.a 3 rfl<|.k [6,7,8] rfl)<|ao<|⟨_,_,aA.of rfl,ax.pure,rfl⟩
 ·have hv:av T=true:=by simpa using hc
  have hll:=bJ hv
  refine ak<|aj<|bx 21 (.raw (.bool (g1||g2))) [1,2,3] rfl ?_ ?_
  ·refine .a 1 rfl<|.v (b7 rfl (hg1)) rfl<|.a 1 rfl<|?_
   cases g1
   ·exact .a 3 rfl<|.v (b7 rfl (hg2)) rfl<|.a 1 rfl<|.k [21,1,2,3] rfl
   ·exact .a 5 rfl<|.k [21,1,2,3] rfl
  refine af rfl (fun hc=>?_) (fun hc=>?_)
  ·have hn:aV T n=false:=by rw[hnb,hc];rfl
   have hX:dL T n l=2:=by unfold dL;rw[hv,hn];rfl
   unfold jA
   rw[hX]
   exact ab (.a 3 rfl<|.k [6,7,8] rfl)<|ao<|⟨_,_,aA.of rfl,ax.pure,rfl⟩
  ·have hn:aV T n=true:=by rw[hnb,hc];rfl
   have hX:dL T n l=dz T true n l:=by unfold dL;rw[hv,hn];rfl
   obtain⟨hn0,hn1⟩:=aO.1 hn
   clear hnb hg1 hg2 hc
   obtain⟨n,rfl⟩:=Int.eq_ofNat_of_zero_le hn0
   refine ak<|ab (.a 1 rfl<|.k [1,2,3,9] rfl)<|aj<|ab (.a 1 rfl<|.k [1,2,3,9,10] rfl)<|au<|ee [1,2,3,9,10] rfl<|bf (fun r s=>∃(k x:Nat),k≤l.length∧r=l.length - k∧cE T n (l.take k)=(x:Int)∧(x:Int)<T.nodes∧0≤cU T (l.take k)∧cU T (l.take k)≤65535*(k:Int)∧dz T true n l=dz T (decide (k=0)) x (l.drop k)∧s=⟨[(1,num x),(2,aw l),(3,.aX (bn T) 0),(9,num (cU T (l.take k))),(10,num k)],[]⟩) l.length ⟨0,n,by omega,by omega,rfl,hn1,by simp[gR],by simp[gR],rfl,rfl⟩ ?_
   rintro r s ⟨k,x,hk,rfl,hx,hxN,hc0,hc1,hw,rfl⟩
   refine aj<|ab (.a 4 rfl<|.k [1,2,3,9,10,25] rfl)<|af rfl (fun hy=>?_) (fun hy=>?_)
   ·have hlt:k<l.length:=by have:=tt hy;omega
    rw[drop_cons l k hlt]at hw
    obtain⟨p1,hp1⟩:∃q,decide (l.getD k 0<0)=q:=⟨_,rfl⟩
    obtain⟨p5,hp5⟩:∃q,decide (2*(T.ag.length:Int)≤l.getD k 0)=q:=⟨_,rfl⟩
    refine ak<|aj<|au<|aj<|kC mixed (by kernel_rfl) 41 (.raw (.bool (p1||p5))) [1,2,3,9,10] rfl ?_ ?_
    ·refine .a 2 rfl<|.v [28,29] (aI (k) rfl) rfl rfl<|.v [30] (aK rfl (ay l k hlt)) rfl rfl<|.v [31] (b7 rfl (hp1)) rfl rfl<|.a 1 rfl<|?_
     cases p1
     ·exact .a 2 rfl<|.v [34,35] (aI (k) rfl) rfl rfl<|.v [36] (aK rfl (ay l k hlt)) rfl rfl<|.a 1 rfl<|.v [38] (dw rfl (jU T hv)) rfl rfl<|.v [37,39] (b7 rfl (hp5)) rfl rfl<|.a 1 rfl<|.k [41,1,2,3,9,10] rfl
     ·exact .a 8 rfl<|.k [41,1,2,3,9,10] rfl
    refine af rfl (fun hz=>?_) (fun hz=>?_)
    ·have hna:=nO hp1 hp5 hz
     have hw2:dz T true n l=2:=by rw[hw];simp only[dz];rw[if_pos (by unfold eA;exact decide_eq_false hna)]
     unfold jA
     rw[hX,hw2]
     exact ab (.a 3 rfl<|.k [6,7,8] rfl)<|ao<|⟨_,_,aA.of rfl,ax.pure,rfl⟩
    ·have hpa:eA T (l.getD k 0)=true:=cT.2 (my hp1 hp5 hz)
     obtain⟨⟨hco0,hco1⟩,y,hyh,hyN⟩:=iR hv hpa
     have hsN:=fv T n l k hlt
     have hsC:=kA T l k hlt
     obtain⟨p2,hp2⟩:∃q,decide (bw T (l.getD k 0).toNat≠(x:Int))=q:=⟨_,rfl⟩
     obtain⟨p3,hp3⟩:∃q,decide (0<(k:Int))=q:=⟨_,rfl⟩
     obtain⟨p4,hp4⟩:∃q,cN T x=q:=⟨_,rfl⟩
     refine ak<|aj<|kC mixed (by kernel_rfl) 58 (.raw (.bool (p2||(p3&&p4)))) [2,3,9,10] rfl ?_ ?_
     ·refine .a 3 rfl<|.v [43,44] (aI (k) rfl) rfl rfl<|.v [45] (aK rfl (ay l k hlt)) rfl rfl<|.v [42,46] (dw rfl (rh T hv _ hpa)) rfl rfl<|.a 1 rfl<|.v [47,48] (b7 rfl (hp2)) rfl rfl<|.a 1 rfl<|?_
      cases p2
      ·refine .a 1 rfl<|.v [51] (b7 rfl (hp3)) rfl rfl<|.a 1 rfl<|?_
       cases p3
       ·exact .a 5 rfl<|.k [58,2,3,9,10] rfl
       ·exact .a 2 rfl<|.v [54,55] (dw rfl (hp4▸sM T hv x)) rfl rfl<|.a 2 rfl<|.k [58,2,3,9,10] rfl
      ·exact .a 8 rfl<|.k [58,2,3,9,10] rfl
     refine af rfl (fun hb=>?_) (fun hb=>?_)
     ·have hw4:dz T true n l=4:=by
       rw[hw]
       refine wI hpa ?_
       rcases Bool.or_eq_true_iff.1 hb with h|h
       ·rw[h]at hp2;exact .inl (tt hp2)
       ·obtain⟨h3,h4⟩:=Bool.and_eq_true_iff.1 h
        rw[h3]at hp3
        rw[h4]at hp4
        exact .inr ⟨decide_eq_false (by have:=tt hp3;omega),by rw[Int.toNat_natCast];exact hp4⟩
      unfold jA
      rw[hX,hw4]
      exact ab (.a 3 rfl<|.k [6,7,8] rfl)<|ao<|⟨_,_,aA.of rfl,ax.pure,rfl⟩
     ·obtain⟨b2,b3⟩:=Bool.or_eq_false_iff.1 hb
      rw[b2]at hp2
      have ht:bw T (l.getD k 0).toNat=(x:Int):=Classical.byContradiction (ff hp2)
      have hws:=mB (T:=T) (f:=decide (k=0)) (n:=(x:Int)) (l:=l.drop (k+1)) hpa ht (by
       rcases Bool.and_eq_false_iff.1 b3 with h|h
       ·rw[h]at hp3;exact .inl (decide_eq_true (by have:=ff hp3;omega))
       ·rw[h]at hp4;exact .inr (by rw[Int.toNat_natCast];exact hp4))
      rw[hws,hyh]at hw
      have hh:=nh T hv _ hpa
      rw[hyh]at hh
      refine ak<|dH mixed (by kernel_rfl) (.a 4 rfl<|.v [61,62] (aI (k) rfl) rfl rfl<|.v [63] (aK rfl (ay l k hlt)) rfl rfl<|.v [60,64] (dw rfl (xh T hv _ hpa)) rfl rfl<|.v [59,65] (aP rfl (hc:=hsC.symm) (hn:=by unfold In64;omega)) rfl rfl<|.a 1 rfl<|.k [2,3,9,10] rfl) ?_
      refine IF mixed (by kernel_rfl) (.a 3 rfl<|.v [68,69] (aI (k) rfl) rfl rfl<|.v [70] (aK rfl (ay l k hlt)) rfl rfl<|.v [67,71] (dw rfl (hh)) rfl rfl<|.a 1 rfl<|.k [1,2,3,9,10] rfl) ?_
      refine aB (.a 1 rfl<|.v (aP rfl) rfl<|.a 1 rfl<|.k [1,2,3,9,10] rfl) ?_
      exact⟨l.length - (k+1),by omega,k+1,y,by omega,rfl,by rw[hsN,hyh],hyN,by omega,by omega,by rw[hw];rfl,rfl⟩
   ·have hke:k=l.length:=by have:=ff hy;omega
    subst hke
    rw[List.drop_length]at hw
    rw[List.take_length]at hx ⊢
    unfold jA
    rw[hX,hw]
    simp only[dz,if_true]
    rw[hx]
    exact aY<|ab (.a 5 rfl<|.k [6,7,8] rfl)<|ao<|⟨_,_,aA.of rfl,ax.pure,rfl⟩
end PW
end Go.Proofs.YtnegbdpggideiaaGreatDoor
namespace Go.Proofs.YtnegbdpggideiaaGreatDoor
namespace PW
open Go.RowKit cH Mem Net
theorem kX(T:an)(hv:av T=true):Can Tryz.prog 201 [aJ T] (· =jb (dA (bw T) T.nodes.toNat (2*T.ag.length))):=by
 have hbd:=gw hv
 have hS:=aQ hv
 obtain⟨n,hn⟩:∃n:Nat,T.nodes=(n:Int):=⟨T.nodes.toNat,by omega⟩
 rw[show T.nodes.toNat=n by omega]
 refine aF Tryz.func201 rfl Tryz.ntmps201 rfl<|ab (.a 2 rfl<|.k [1] rfl)<|aH<|aq 2 rfl<|cf (cF rfl (bF.rk.get rfl) rfl rfl hn hn ⟨by unfold maxLen;omega,by omega⟩) rfl<|aq 1 rfl<|aD [1,3] rfl ?_
 refine px 37 3 n ?_
 refine aj<|ab (.a 1 rfl<|.c rfl (gX T (by omega)) rfl<|.a 1 rfl<|.k [1,3,10,11] rfl)<|au<|ee [1,3,10,11] rfl<|bf (fun r s=>∃k,k≤2*T.ag.length∧r=2*T.ag.length - k∧s=⟨[(1,.aX (bn T) 0),(3,.own 0),(10,num (2*(T.ag.length:Int))),(11,num k)],kS 37 3 (dA (bw T) n k)⟩) (2*T.ag.length) ⟨0,by omega,by omega,by rw[rq];rfl⟩ ?_
 rintro r s ⟨k,hk,rfl,rfl⟩
 refine ab (.a 1 rfl<|.k [1,3,10,11,12] rfl)<|aj<|af rfl (fun hc=>?_) (fun hc=>?_)
 ·have hlt:k<2*T.ag.length:=by have:=of_decide_eq_true hc;omega
  obtain⟨hd0,hhN⟩:=hS.tail k hlt
  obtain⟨m,hm⟩:=Int.eq_ofNat_of_zero_le hd0
  have hmn:m<n:=by omega
  have hrl:=eQ (bw T) n k
  have hgl:((dA (bw T) n k).getD m []).length≤k:=by
   rw[iT _ _ _ _ hmn]
   simp only[List.length_map]
   exact Nat.le_trans (List.length_filter_le _ _) (by simp)
  refine ak<|aj<|au<|ab (.a 2 rfl<|.k [1,3,4,10,11] rfl)<|ab (.a 2 rfl<|.c rfl (hm▸jk T k hlt) rfl<|.a 1 rfl<|.k [1,3,4,5,10,11] rfl)<|bq<|aq 4 rfl<|bA (aI (m) rfl) rfl<|bA (aK rfl (lf _ m (by omega))) rfl<|aq 2 rfl<|cf (bu rfl (bF.rk.get rfl) rfl (ln _ _ _ m (by omega)) rfl rfl ⟨by unfold maxLen;omega,by omega⟩) rfl<|bA (aI (m) rfl) rfl<|bh (cI rfl (bF.tk.get rfl) rfl rfl rfl (by show m<(fy _).length;simp[fy];omega)) rfl rfl<|aD [1,3,10,11] rfl ?_
  refine dy (D6 (dA (bw T) n k).length m) (.cons 1 rfl Ren.pure<|.cons 3 rfl (Ren.own (i:=0) rfl)<|.cons 10 rfl Ren.pure<|.cons 11 rfl Ren.pure<|.nil) (uZ 37 3 (dA (bw T) n k) m (by omega) (k:Int)) (sK _ _) rfl ?_
  rw[←rn (bw T) n k m hm hmn]
  refine aB (.v (aP rfl) rfl<|.a 1 rfl<|.k [1,3,10,11] rfl) ?_
  exact⟨2*T.ag.length - (k+1),by omega,k+1,by omega,rfl,rfl⟩
 ·have hke:k=2*T.ag.length:=by have:=of_decide_eq_false hc;omega
  subst hke
  exact aY<|ab (.a 2 rfl<|.k [2] rfl)<|ao<|⟨_,_,aA.of rfl,vP _ _ _,rfl⟩
end PW
end Go.Proofs.YtnegbdpggideiaaGreatDoor
