/- Texts of the proof, part 8. -/
import Derived.MapKept
import Derived.Scope
import Derived.Lib.SliceRun
import Derived.Test.YtnegbdpggideiaaGreatDoorCardMTB7
set_option linter.unusedVariables false
set_option linter.unusedSimpArgs false
set_option maxRecDepth 10000
set_option maxHeartbeats 1000000
namespace Go.Proofs.YtnegbdpggideiaaGreatDoor
namespace PW
open Go.RowKit cH Mem Net
theorem wC(T:an)(m:Nat)(hm:m<T.nodes.toNat):(dA (bw T) T.nodes.toNat (2*T.ag.length)).getD m []=bC T m:=by
 rw[iT _ _ _ _ hm]
 unfold bC gv
 exact congrArg (List.map Int.ofNat) (List.filter_congr fun a _=>Bool.eq_iff_iff.2 (by simp))
theorem sV(rs:List (List Int))(i:Nat)(h:i<rs.length):(rs.map aw)[i]? =some (aw (rs.getD i [])):=by simp[h]
theorem Fs(T:an)(D:List Bool)(s d:Int):ca T D [s,d]=bQ T D s d:=by
 unfold bQ ca
 by_cases h:(av T&&bL T D)=true
 ·rw[if_pos h]
  by_cases hs:aV T s=true<;>by_cases hd:aV T d=true<;>simp[h,hs,hd]
 ·rw[if_neg h]
  have:(av T&&bL T D)=false:=by simpa using h
  simp[this]
noncomputable def fH(T:an)(D:List Bool)(s d:Int):Int:=if bQ T D s d=0 then(if dN T D d.toNat s.toNat<0 then 11 else 0) else bQ T D s d
theorem xG{T:an}{D:List Bool}{m d j:Nat}(hne:m≠d)(h0:0≤dN T D d m)(hj:j<(bC T m).length)(hno:∀i,i<j→fS T D (bE T D d false) (dN T D d m) d ((bC T m).getD i 0).toNat=false)(hy:fS T D (bE T D d false) (dN T D d m) d ((bC T m).getD j 0).toNat=true):∃l,bm T D m d=(bC T m).getD j 0::l:=by
 unfold bm
 rw[if_neg (by rintro(h|h);exact hne h;exact absurd h (by show ¬dN T D d m<0;omega))]
 have h1:((bC T m).take j).filter (fun a=>fS T D (bE T D d false) (dN T D d m) d a.toNat)=[]:=by
  rw[List.filter_eq_nil_iff]
  intro a ha
  obtain⟨i,hi,rfl⟩:=List.getElem_of_mem ha
  have hij:i<j:=by rw[List.length_take]at hi;omega
  have:=hno i hij
  rw[List.getD_eq_getElem?_getD,List.getElem?_eq_getElem (by omega),Option.getD_some]at this
  rw[List.getElem_take,this]
  simp
 have hs:bC T m=(bC T m).take j++(bC T m).getD j 0::(bC T m).drop (j+1):=by rw[←drop_cons _ _ hj,List.take_append_drop]
 have h2:(bC T m).filter (fun a:Int=>fS T D (bE T D d false) (dN T D d m) d a.toNat)=(bC T m).getD j 0::((bC T m).drop (j+1)).filter (fun a:Int=>fS T D (bE T D d false) (dN T D d m) d a.toNat):=by
  refine(congrArg (List.filter fun a:Int=>fS T D (bE T D d false) (dN T D d m) d a.toNat) hs).trans ?_
  rw[List.filter_append,h1,List.nil_append,List.filter_cons,if_pos hy]
 exact⟨_,h2⟩
theorem ri{T:an}{D:List Bool}{m d f:Nat}{a:Int}{l:List Int}(h:bm T D m d=a::l):fj T D d (f+1) m=a::fj T D d f (bb T a.toNat).toNat:=by simp only[fj,h]
theorem D1{T:an}{D:List Bool}(hv:av T=true){m d:Nat}(hm:(m:Int)<T.nodes)(hd:(d:Int)<T.nodes)(hne:m≠d)(h0:0≤dN T D d m)(hno:∀i,i<(bC T m).length→fS T D (bE T D d false) (dN T D d m) d ((bC T m).getD i 0).toNat=false):False:=by
 obtain⟨k,hk⟩:=kB (D:=D) hv hm hd hne h0
 have:=fq hk ((aQ hv).cost k hk.iM).1
 unfold bm at this
 rw[if_neg (by rintro(h|h);exact hne h;exact absurd h (by show ¬dN T D d m<0;omega))]at this
 obtain⟨h1,h2⟩:=List.mem_filter.1 this
 obtain⟨i,hi,he⟩:=List.getElem_of_mem h1
 have h3:=hno i hi
 rw[List.getD_eq_getElem?_getD,List.getElem?_eq_getElem hi,Option.getD_some,he]at h3
 have h2':fS T D (bE T D d false) (dN T D d m) d (k:Int).toNat=true:=h2
 rw[h3]at h2'
 cases h2'
set_option maxHeartbeats 2000000 in
theorem sT(T:an)(D:List Bool)(s d:Int):Can Tryz.prog 206 [aJ T,aM D,num s,num d] (· =df (fH T D s d) (cm T D s.toNat d.toNat)):=by
 have hch:=oE T D [s,d] (by simp)
 rw[Fs]at hch
 refine aF Tryz.func206 rfl Tryz.ntmps206 rfl<|ab (.a 3 rfl<|.k [1,2,3,4] rfl)<|aj<|ab (.a 5 rfl<|.c rfl (hch) rfl<|.a 1 rfl<|.k [1,2,3,4,10] rfl)<|ab (.a 2 rfl<|.k [1,2,3,4,10,26] rfl)<|af rfl (fun hc=>?_) (fun hc=>?_)
 ·have he:bQ T D s d≠0:=tt hc
  exact ab (.a 3 rfl<|.k [8,9] rfl)<|ao<|⟨_,_,aA.of rfl,ax.ba (ai.cons ax.bO (ai.cons ax.pure ai.nil)),by unfold df fH;rw[if_neg he,if_neg he];rfl⟩
 ·have he:bQ T D s d=0:=Classical.byContradiction (ff hc)
  obtain⟨hv,hf,hns,hnd⟩:=eH he
  obtain⟨hs0,hs1⟩:=aO.1 hns
  obtain⟨hd0,hd1⟩:=aO.1 hnd
  obtain⟨s,rfl⟩:=Int.eq_ofNat_of_zero_le hs0
  obtain⟨d,rfl⟩:=Int.eq_ofNat_of_zero_le hd0
  have hdi:Can Tryz.prog 151 [aJ T,aM D,num d] (· = .tuple [aw (bE T D d false),num 0]):=by
   have h:=pX T D (d:Int)
   rw[show ca T D [(d:Int)]=0 by unfold bQ at he;split at he;assumption;assumption]at h
   exact h
  have hS:=aQ hv
  have hN:=hS.nodes
  have hll:=bJ hv
  obtain⟨hb1,hb2⟩:=cW (D:=D) hv (dir:=false) hd1
  refine ak<|ab (.a 3 rfl<|.c rfl (hdi) rfl<|.a 5 rfl<|.k [1,2,3,4,11] rfl)<|aj<|ab (.a 2 rfl<|.v (aI (s) rfl) rfl<|.v (aK rfl (ay _ s (by omega))) rfl<|.a 1 rfl<|.k [1,2,3,4,11,39] rfl)<|af rfl (fun hc=>?_) (fun hc=>?_)
  ·have h0:dN T D d s<0:=tt hc
   exact ab (.a 2 rfl<|.k [8,9] rfl)<|ao<|⟨_,_,aA.of rfl,ax.ba (ai.cons ax.bO (ai.cons ax.pure ai.nil)),by unfold df fH;simp only[Int.toNat_natCast];rw[if_pos he,if_pos h0];rfl⟩
  ·have h0:0≤dN T D d s:=by have:=ff hc;show 0≤(bE T D d false).getD s 0;omega
   have hE:fH T D (s:Int) (d:Int)=0:=by unfold fH;simp only[Int.toNat_natCast];rw[if_pos he,if_neg (by omega)]
   rw[hE]
   refine ak<|ab (.a 1 rfl<|.c rfl (kX T hv) rfl<|.a 1 rfl<|.k [1,2,3,4,11,13] rfl)<|ab (.a 1 rfl<|.k [1,2,3,4,11,13,14] rfl)<|eo 14 3 1 rfl ?_
   refine aj<|ab (.a 2 rfl<|.k [1,3,4,11,13,14,15] rfl)<|au<|ee [1,3,4,11,13,14,15] rfl<|bf (fun r st=>∃(p:List Int) (m f:Nat),(m:Int)<T.nodes∧0≤dN T D d m∧dN T D d m≤f∧r=(dN T D d m).toNat∧(p.length:Int)+dN T D d m≤dN T D d s∧cm T D s d=p++fj T D d f m∧st=⟨[(1,aM D),(3,num d),(4,.aX (bn T) 0),(11,aw (bE T D d false)),(13,jb (dA (bw T) T.nodes.toNat (2*T.ag.length))),(14,.own 0),(15,num m)],[some (.row 3 1 p.length (aN p))]⟩) (dN T D d s).toNat ⟨[],s,(dN T D d s).toNat,hs1,h0,by omega,rfl,by simp,rfl,rfl⟩ ?_
   rintro r st ⟨p,m,f,hm,hm0,hmf,rfl,hpl,hp,rfl⟩
   refine aj<|ab (.a 3 rfl<|.k [1,3,4,11,13,14,15,45] rfl)<|af rfl (fun hy=>?_) (fun hy=>?_)
   ·have hne:m≠d:=by have:=tt hy;omega
    have hml:m<(bE T D d false).length:=by omega
    have hrow:=wC T m (by omega)
    have hbnd:=(GW (D:=D) hv hd1 hs1).2
    have hol:(bC T m).length≤512:=Nat.le_trans (dB T m _) (by omega)
    refine ak<|au<|ab (.a 2 rfl<|.v (aI (m) rfl (by omega) (by rw[eQ];omega)) rfl<|.v (aK rfl ((sV _ m (by rw[eQ];omega)).trans (by rw[hrow]))) rfl<|.a 2 rfl<|.k [1,3,4,11,13,14,15,49,50,51] rfl)<|au<|ee [1,3,4,11,13,14,15,49,50,51] rfl<|bf (fun r st=>∃j:Nat,j≤(bC T m).length∧r=(bC T m).length - j∧(∀i,i<j→fS T D (bE T D d false) (dN T D d m) d ((bC T m).getD i 0).toNat=false)∧st=⟨[(1,aM D),(3,num d),(4,.aX (bn T) 0),(11,aw (bE T D d false)),(13,jb (dA (bw T) T.nodes.toNat (2*T.ag.length))),(14,.own 0),(15,num m),(49,aw (bC T m)),(50,num (bC T m).length),(51,num j)],[some (.row 3 1 p.length (aN p))]⟩) (bC T m).length ⟨0,by omega,by omega,fun i hi=>by omega,rfl⟩ ?_
    rintro r st ⟨j,hj,rfl,hno,rfl⟩
    refine ab (.a 1 rfl<|.k [1,3,4,11,13,14,15,49,50,51,52] rfl)<|aj<|af rfl (fun hz=>?_) (fun hz=>?_)
    ·have hlt:j<(bC T m).length:=by have:=tt hz;omega
     obtain⟨ha0,ha1⟩:=jl (bR (d:=0) hlt)
     obtain⟨a,ha⟩:=Int.eq_ofNat_of_zero_le ha0
     have ham:a<2*T.ag.length:=by omega
     obtain⟨y,hyh,hyN⟩:=du hv ham
     have hyl:y<(bE T D d false).length:=by omega
     have hh:=fA T a ham (by omega)
     rw[hyh]at hh
     have hD:D.length=0∨a<D.length:=by simp only[bL,decide_eq_true_eq]at hf;omega
     obtain⟨p1,hp1⟩:∃q,aW D a=q:=⟨_,rfl⟩
     obtain⟨p2,hp2⟩:∃q,decide ((bE T D d false).getD y 0<0)=q:=⟨_,rfl⟩
     obtain⟨p3,hp3⟩:∃q,decide ((y:Int)≠(d:Int))=q:=⟨_,rfl⟩
     obtain⟨p4,hp4⟩:∃q,cN T y=q:=⟨_,rfl⟩
     have hpass:∀b,fS T D (bE T D d false) (dN T D d m) d ((bC T m).getD j 0).toNat=b↔(!((p1||p2)||(p3&&p4))&&decide ((bE T D d false).getD y 0+cb T a=dN T D d m))=b:=fun b=>by
      unfold fS
      rw[ha,Int.toNat_natCast,hyh,Int.toNat_natCast,hp1,hp2,hp3,hp4]
     refine ak<|aj<|au<|ab (.v (aI (j) rfl) rfl<|.v (aK rfl ((ay _ j hlt).trans (by rw[ha]))) rfl<|.a 1 rfl<|.k [1,3,4,11,13,14,15,17,49,50,51] rfl)<|ab (.a 2 rfl<|.c rfl (hh) rfl<|.a 1 rfl<|.k [1,3,4,11,13,14,15,17,18,49,50,51] rfl)<|aj<|bx 77 (.raw (.bool ((p1||p2)||(p3&&p4)))) [1,3,4,11,13,14,15,17,18,49,50,51] rfl ?_ ?_
     ·refine .a 2 rfl<|.c rfl (hp1▸iY D a hD) rfl<|.a 1 rfl<|?_
      cases p1
      ·refine .a 2 rfl<|.v (aI (y) rfl) rfl<|.v (aK rfl (ay _ y hyl)) rfl<|.v (b7 rfl (hp2)) rfl<|.a 2 rfl<|?_
       cases p2
       ·refine .a 2 rfl<|.v (b7 rfl (hp3)) rfl<|.a 1 rfl<|?_
        cases p3
        ·exact .a 5 rfl<|.k [77,1,3,4,11,13,14,15,17,18,49,50,51] rfl
        ·exact .a 2 rfl<|.c rfl (hp4▸nN T y (zC hv hyN)) rfl<|.a 2 rfl<|.k [77,1,3,4,11,13,14,15,17,18,49,50,51] rfl
       ·exact .a 9 rfl<|.k [77,1,3,4,11,13,14,15,17,18,49,50,51] rfl
      ·exact .a 16 rfl<|.k [77,1,3,4,11,13,14,15,17,18,49,50,51] rfl
     refine af rfl (fun hk=>?_) (fun hk=>?_)
     ·have hnp:=(hpass false).2 (by rw[hk];rfl)
      refine aY<|aB (.v (aP rfl) rfl<|.a 1 rfl<|.k [1,3,4,11,13,14,15,49,50,51] rfl) ?_
      refine⟨(bC T m).length - (j+1),by omega,j+1,by omega,rfl,fun i hi=>?_,rfl⟩
      by_cases h:i=j
      ·rw[h];exact hnp
      ·exact hno i (by omega)
     ·skip
      refine ak ?_
      have hy4:=hb2 _ (bR (d:=0) hyl)
      have hc4:=hS.cost a ham
      refine dH mixed (by kernel_rfl) (.a 2 rfl<|.v [78,79] (aI (y) rfl) rfl rfl<|.v [80] (aK rfl (ay _ y hyl)) rfl rfl<|.a 2 rfl<|.v [82,83] (dw rfl (kV T a ham)) rfl rfl<|.v [81,84] (aP rfl (hn:=by unfold In64;omega)) rfl rfl<|.a 2 rfl<|.v [86,87] (aI (m) rfl) rfl rfl<|.v [88] (aK rfl (ay _ m hml)) rfl rfl<|.a 1 rfl<|.k [1,3,4,11,13,14,15,17,18,49,50,51,90] rfl) ?_
      refine af rfl (fun hq=>?_) (fun hq=>?_)
      ·have hyes:=(hpass true).2 (by rw[hk];exact decide_eq_true (tt hq))
       obtain⟨l,hl⟩:=xG hne hm0 hlt hno hyes
       obtain⟨b,hb,hbn⟩:=dj (T:=T) (D:=D) (n:=m) (d:=d) (a:=(bC T m).getD j 0) (by rw[hl];simp)
       have hba:b=a:=by omega
       subst hba
       have hdy:=hbn.dN hyh
       refine aH<|aq 3 rfl<|cf (bu rfl (bF.rk.get rfl) rfl rfl rfl rfl (by unfold maxLen;omega)) rfl<|aq 1 rfl ?_
       refine de [1] (.c 1<|.c 3<|.c 4<|.c 11<|.c 13<|.c 14<|.c 18<|.nil) (.kept rfl (.ec rfl (cB _ _))<|.nil) rfl rfl (aU ?_)
       refine ab (.a 2 rfl<|.k [1,3,4,11,13,14,15] rfl)<|aY ?_
       cases f with
       |zero=>omega
       |succ f=>
        refine⟨(dN T D d y).toNat,by omega,p++[(b:Int)],y,f,hyN,hdy.1,by omega,rfl,by simp;omega,?_,by simp⟩
        rw[hp,ri hl,ha,Int.toNat_natCast,hyh,Int.toNat_natCast,List.append_assoc]
        rfl
      ·have hnp:=(hpass false).2 (by rw[hk,Bool.and_eq_false_iff];exact .inr (decide_eq_false (ff hq)))
       refine ak<|aB (.v (aP rfl) rfl<|.a 1 rfl<|.k [1,3,4,11,13,14,15,49,50,51] rfl) ?_
       refine⟨(bC T m).length - (j+1),by omega,j+1,by omega,rfl,fun i hi=>?_,rfl⟩
       by_cases h:i=j
       ·rw[h];exact hnp
       ·exact hno i (by omega)
    ·exact absurd (D1 hv hm hd1 hne hm0 (fun i hi=>hno i (by have:=ff hz;omega))) (fun h=>h)
   ·have hmd:m=d:=by have:=ff hy;omega
    subst hmd
    have hfin:fj T D m f m=[]:=by cases f with|zero=>rfl|succ f=>simp only[fj,iV]
    rw[hfin,List.append_nil]at hp
    exact aY<|ab (.a 3 rfl<|.k [8,9] rfl)<|ao<|⟨_,_,aA.of rfl,ax.ba (ai.cons (ax.dX rfl ai.pure) (ai.cons ax.pure ai.nil)),by unfold df;rw[if_pos rfl];simp only[Int.toNat_natCast];rw[hp];rfl⟩
theorem lu(T:an)(D:List Bool)(m d:Nat):(bm T D m d).Pairwise (· < ·):=by
 unfold bm
 split
 ·exact List.Pairwise.nil
 ·exact(lj T m).filter _
theorem xf{T:an}{D:List Bool}{m d a:Nat}(h:(a:Int)∈bm T D m d)(hno:∀i:Nat,i<a→¬(i:Int)∈bm T D m d):∃l,bm T D m d=(a:Int)::l:=by
 have hs:=lu T D m d
 cases hx:bm T D m d with
 |nil=>rw[hx]at h;cases h
 |cons b l=>
  obtain⟨c,rfl,_⟩:=dj (T:=T) (D:=D) (n:=m) (d:=d) (a:=b) (by rw[hx];simp)
  rw[hx]at h hs hno
  have h1:=hno c
  have:c=a:=by
   cases h with
   |head=>rfl
   |tail _ h=>
    have:=(List.pairwise_cons.1 hs).1 _ h
    exact absurd (List.mem_cons_self ..) (h1 (by omega))
  exact⟨l,by rw[this]⟩
theorem HI{T:an}{D:List Bool}(hv:av T=true){m d k:Nat}(hm:(m:Int)<T.nodes)(hd:(d:Int)<T.nodes)(hk:k<2*T.ag.length):(decide (bw T k=(m:Int))&&zq T D (bE T D d false) k d)=true↔(k:Int)∈bm T D m d:=by
 obtain⟨y,hyh,hyN⟩:=du hv hk
 have hS:=aQ hv
 constructor
 ·intro h
  obtain⟨h1,h2⟩:=Bool.and_eq_true_iff.1 h
  have h1:=tt h1
  unfold zq at h2
  rw[h1,hyh]at h2
  simp only[Int.toNat_natCast,Bool.and_eq_true,Bool.not_eq_true',Bool.or_eq_true,decide_eq_true_eq]at h2
  obtain⟨⟨⟨⟨g1,g2⟩,g3⟩,g4⟩,g5⟩:=h2
  refine fq ⟨hk,h1,g1,by omega,?_,?_,?_⟩ (hS.cost k hk).1
  ·rw[hyh,Int.toNat_natCast];exact g3
  ·rw[hyh];rcases g4 with g|g
   ·exact .inl (by omega)
   ·exact .inr (by simpa using g)
  ·rw[hyh,Int.toNat_natCast];exact g5
 ·intro h
  obtain⟨k',hk',hn⟩:=dj h
  have:k'=k:=by omega
  subst this
  have h3:=hn.reach
  have h4:=hn.pass
  have h5:=hn.sum
  have h6:=hn.ne
  rw[hyh,Int.toNat_natCast]at h3 h5
  rw[hyh,Int.toNat_natCast]at h4
  refine Bool.and_eq_true_iff.2 ⟨decide_eq_true hn.tail,?_⟩
  unfold zq
  rw[hn.tail,hyh]
  simp only[Int.toNat_natCast,Bool.and_eq_true,Bool.not_eq_true',Bool.or_eq_true,decide_eq_true_eq]
  refine⟨⟨⟨⟨hn.up,by omega⟩,h3⟩,?_⟩,h5⟩
  rcases h4 with g|g
  ·exact .inl (by omega)
  ·exact .inr (by simpa using g)
set_option maxHeartbeats 2000000 in
theorem nq(T:an)(D:List Bool)(s d:Int):Can Tryz.prog 90 [aJ T,aM D,num s,num d] (· =df (fH T D s d) (cm T D s.toNat d.toNat)):=by
 obtain⟨g1,hg1⟩:∃q,decide (s<0)=q:=⟨_,rfl⟩
 obtain⟨g2,hg2⟩:∃q,decide (T.nodes≤s)=q:=⟨_,rfl⟩
 have hnb:aV T s= !(g1||g2):=by rw[←hg1,←hg2,←Bool.decide_or,←decide_not];unfold aV;exact decide_eq_decide.2 (by omega)
 refine aF Tryz.func90 rfl Tryz.ntmps90 rfl<|ab (.a 3 rfl<|.k [1,2,3,4] rfl)<|ab (.a 3 rfl<|.c rfl (jR T D d) rfl<|.a 5 rfl<|.k [1,2,3,4,10,11] rfl)<|aj<|ab (.a 2 rfl<|.k [1,2,3,4,10,11,22] rfl)<|af rfl (fun hc=>?_) (fun hc=>?_)
 ·have he0:ca T D [d]≠0:=tt hc
  have he:bQ T D s d≠0:=by unfold bQ;rw[if_neg he0];exact he0
  have he2:bQ T D s d=ca T D [d]:=by unfold bQ;rw[if_neg he0]
  exact ab (.a 3 rfl<|.k [8,9] rfl)<|ao<|⟨_,_,aA.of rfl,ax.ba (ai.cons ax.bO (ai.cons ax.pure ai.nil)),by unfold df fH;rw[if_neg he,if_neg he,he2];rfl⟩
 ·have he0:ca T D [d]=0:=Classical.byContradiction (ff hc)
  rw[he0,if_pos rfl]
  refine ak<|aj<|bx 31 (.raw (.bool (g1||g2))) [1,2,3,4,10] rfl ?_ ?_
  ·refine .a 1 rfl<|.v (b7 rfl (hg1)) rfl<|.a 1 rfl<|?_
   cases g1
   ·exact .a 3 rfl<|.v (b7 rfl (hg2)) rfl<|.a 1 rfl<|.k [31,1,2,3,4,10] rfl
   ·exact .a 5 rfl<|.k [31,1,2,3,4,10] rfl
  refine af rfl (fun hy=>?_) (fun hy=>?_)
  ·have hn:aV T s=false:=by rw[hnb,hy];rfl
   have he:bQ T D s d=2:=by unfold bQ;rw[if_pos he0,hn];rfl
   exact ab (.a 2 rfl<|.k [8,9] rfl)<|ao<|⟨_,_,aA.of rfl,ax.ba (ai.cons ax.bO (ai.cons ax.pure ai.nil)),by unfold df fH;rw[he];rfl⟩
  ·have hn:aV T s=true:=by rw[hnb,hy];rfl
   have he:bQ T D s d=0:=by unfold bQ;rw[if_pos he0,hn];rfl
   obtain⟨hv,hf,hns,hnd⟩:=eH he
   obtain⟨hs0,hs1⟩:=aO.1 hns
   obtain⟨hd0,hd1⟩:=aO.1 hnd
   clear hnb hg1 hg2 hy
   obtain⟨s,rfl⟩:=Int.eq_ofNat_of_zero_le hs0
   obtain⟨d,rfl⟩:=Int.eq_ofNat_of_zero_le hd0
   simp only[Int.toNat_natCast]
   have hS:=aQ hv
   have hN:=hS.nodes
   have hll:=bJ hv
   obtain⟨hb1,hb2⟩:=cW (D:=D) hv (dir:=false) hd1
   refine ak<|aj<|ab (.a 2 rfl<|.v (aI (s) rfl) rfl<|.v (aK rfl (ay _ s (by omega))) rfl<|.a 1 rfl<|.k [1,2,3,4,10,36] rfl)<|af rfl (fun hy=>?_) (fun hy=>?_)
   ·have h0:dN T D d s<0:=tt hy
    exact ab (.a 2 rfl<|.k [8,9] rfl)<|ao<|⟨_,_,aA.of rfl,ax.ba (ai.cons ax.bO (ai.cons ax.pure ai.nil)),by unfold df fH;simp only[Int.toNat_natCast];rw[if_pos he,if_pos h0];rfl⟩
   ·have h0:0≤dN T D d s:=by have:=ff hy;show 0≤(bE T D d false).getD s 0;omega
    have hE:fH T D (s:Int) (d:Int)=0:=by unfold fH;simp only[Int.toNat_natCast];rw[if_pos he,if_neg (by omega)]
    rw[hE]
    refine ak<|ab (.a 1 rfl<|.k [1,2,3,4,10,12] rfl)<|eo 12 3 1 rfl ?_
    refine aj<|au<|ee [1,2,3,4,10,12] rfl<|bf (fun r st=>∃(p:List Int) (m f:Nat),(m:Int)<T.nodes∧0≤dN T D d m∧dN T D d m≤f∧r=(dN T D d m).toNat∧(p.length:Int)+dN T D d m≤dN T D d s∧cm T D s d=p++fj T D d f m∧st=⟨[(1,aM D),(2,num m),(3,num d),(4,.aX (bn T) 0),(10,aw (bE T D d false)),(12,.own 0)],[some (.row 3 1 p.length (aN p))]⟩) (dN T D d s).toNat ⟨[],s,(dN T D d s).toNat,hs1,h0,by omega,rfl,by simp,rfl,rfl⟩ ?_
    rintro r st ⟨p,m,f,hm,hm0,hmf,rfl,hpl,hp,rfl⟩
    refine aj<|ab (.a 3 rfl<|.k [1,2,3,4,10,12,39] rfl)<|af rfl (fun hz=>?_) (fun hz=>?_)
    ·have hne:m≠d:=by have:=tt hz;omega
     have hbnd:=(GW (D:=D) hv hd1 hs1).2
     refine ak<|au<|ab (.a 1 rfl<|.k [1,2,3,4,10,12,13] rfl)<|au<|ee [1,2,3,4,10,12,13] rfl<|bf (fun r st=>∃a:Nat,a≤2*T.ag.length∧r=2*T.ag.length - a∧(∀i:Nat,i<a→¬(i:Int)∈bm T D m d)∧st=⟨[(1,aM D),(2,num m),(3,num d),(4,.aX (bn T) 0),(10,aw (bE T D d false)),(12,.own 0),(13,num a)],[some (.row 3 1 p.length (aN p))]⟩) (2*T.ag.length) ⟨0,by omega,by omega,fun i hi=>by omega,rfl⟩ ?_
     rintro r st ⟨a,ha,rfl,hno,rfl⟩
     refine aj<|ab (.a 4 rfl<|.v (aP rfl) rfl<|.a 1 rfl<|.k [1,2,3,4,10,12,13,45] rfl)<|af rfl (fun hq=>?_) (fun hq=>?_)
     ·have ham:a<2*T.ag.length:=by have:=tt hq;omega
      obtain⟨y,hyh,hyN⟩:=du hv ham
      have hh:=gP T hv a ham
      rw[hyh]at hh
      obtain⟨p1,hp1⟩:∃q,decide (bw T a=(m:Int))=q:=⟨_,rfl⟩
      obtain⟨p2,hp2⟩:∃q,zq T D (bE T D d false) a d=q:=⟨_,rfl⟩
      have hon:=HI (D:=D) hv hm hd1 ham
      rw[hp1,hp2]at hon
      refine ak<|aj<|au<|bx 60 (.raw (.bool (p1&&p2))) [1,2,3,4,10,12,13] rfl ?_ ?_
      ·refine .a 2 rfl<|.c rfl (eJ T hv a ham) rfl<|.a 1 rfl<|.v (b7 rfl (hp1)) rfl<|.a 1 rfl<|?_
       cases p1
       ·exact .a 7 rfl<|.k [60,1,2,3,4,10,12,13] rfl
       ·exact .a 5 rfl<|.c rfl (hp2▸yl T D (bE T D d false) a d hv hf hb1 hb2 ham) rfl<|.a 1 rfl<|.k [60,1,2,3,4,10,12,13] rfl
      refine af rfl (fun hk=>?_) (fun hk=>?_)
      ·have hmem:=hon.1 hk
       obtain⟨l,hl⟩:=xf hmem hno
       obtain⟨b,hb,hbn⟩:=dj hmem
       have hba:b=a:=by omega
       subst hba
       have hdy:=hbn.dN hyh
       have hcy:=hS.cost b ham
       refine aH<|aq 3 rfl<|cf (bu rfl (bF.rk.get rfl) rfl rfl rfl rfl (by unfold maxLen;omega)) rfl<|aq 1 rfl ?_
       refine de [1] (.c 1<|.c 3<|.c 4<|.c 10<|.c 12<|.c 13<|.nil) (.kept rfl (.ec rfl (cB _ _))<|.nil) rfl rfl (aU ?_)
       refine ab (.a 2 rfl<|.c rfl (hh) rfl<|.a 1 rfl<|.k [1,2,3,4,10,12] rfl)<|aY ?_
       cases f with
       |zero=>omega
       |succ f=>
        refine⟨(dN T D d y).toNat,by omega,p++[(b:Int)],y,f,hyN,hdy.1,by omega,rfl,by simp;omega,?_,by simp⟩
        rw[hp,ri hl,Int.toNat_natCast,hyh,Int.toNat_natCast,List.append_assoc]
        rfl
      ·have hnm:¬(a:Int)∈bm T D m d:=fun h=>by rw[hon.2 h]at hk;cases hk
       refine ak<|aB (.a 1 rfl<|.v (aP rfl) rfl<|.a 1 rfl<|.k [1,2,3,4,10,12,13] rfl) ?_
       refine⟨2*T.ag.length - (a+1),by omega,a+1,by omega,rfl,fun i hi=>?_,rfl⟩
       by_cases h:i=a
       ·rw[h];exact hnm
       ·exact hno i (by omega)
     ·have hcon:False:=by
       obtain⟨k,hk⟩:=kB (D:=D) hv hm hd1 hne hm0
       have:=fq hk (hS.cost k hk.iM).1
       exact hno k (by have:=hk.iM;have:=ff hq;omega) this
      exact absurd hcon (fun h=>h)
    ·have hmd:m=d:=by have:=ff hz;omega
     subst hmd
     have hfin:fj T D m f m=[]:=by cases f with|zero=>rfl|succ f=>simp only[fj,iV]
     rw[hfin,List.append_nil]at hp
     exact aY<|ab (.a 3 rfl<|.k [8,9] rfl)<|ao<|⟨_,_,aA.of rfl,ax.ba (ai.cons (ax.dX rfl ai.pure) (ai.cons ax.pure ai.nil)),by unfold df;rw[if_pos rfl,hp];rfl⟩
end PW
end Go.Proofs.YtnegbdpggideiaaGreatDoor
namespace Go.Proofs.YtnegbdpggideiaaGreatDoor
namespace PW
open Go.RowKit cH Mem Net
section
variable {P:Program} {σ:cg} {t:b9} {o:Oper}
theorem xL{src dst:TypeId}{x:Operand}{k k':IntKind}{a c:Int}{ty:TypeDesc}(ho:o.op= .convert src dst x)(hs:P.underlying src=some ty)(hd:P.underlying dst=some (.int k'))(hx:aE t x=some (.raw (.int k a)))(hc:k'.wrap a=c):bp P σ t o (.raw (.int k' c)):=by
 intro F base E ρ w hρ _ hT
 have h1:=az hρ hT hx
 generalize hz:ρ x=z at h1
 cases h1
 have h2:(convert src dst (.int k a)).run P w= .ok (.int k' c) w:=by
  simp[convert,Sem.run_bind,run_underlying hs,run_underlying hd,Conv.intToInt,hc]
 simp only[execOp,ho,hz,Sem.run_bind,h2]
 exact br (.raw _)
theorem Fe{ty:TypeId}{x ix:Operand}{s:ByteArray}{k:IntKind}{i:Nat}{c:UInt8}(ho:o.op= .index ty x ix)(hu:P.underlying ty=some .string)(hx:aE t x=some (.raw (.string s)))(hix:aE t ix=some (.raw (.int k i)))(h3:s[i]? =some c):bp P σ t o (.raw (.int .u8 c.toNat)):=by
 intro F base E ρ w hρ _ hT
 have h1:=az hρ hT hx
 have h1':=az hρ hT hix
 generalize hz:ρ x=z at h1
 generalize hz':ρ ix=z' at h1'
 cases h1
 cases h1'
 have h2:(Instr.index ty (.string s) (.int k i)).run P w= .ok (.int .u8 c.toNat) w:=by
  have h4:(asIntOf (.int k (i:Int))).run P w= .ok (k,(i:Int)) w:=rfl
  simp[Instr.index,Sem.run_bind,run_underlying hu,h3,h4]
 simp only[execOp,ho,hz,hz',Sem.run_bind,h2]
 exact br (.raw _)
theorem Gm{N L:Nat}{x y:Code}{st:St}{Q:Exit→St→Prop}{b:Bool}(h:W P N L (if b then x else y) st Q):W P N L (.cond (.const (.bool b)) x y) st Q:=fun F base E₀ w₀ E a w hcm hs=>
 wp_cond_split (show a.eval (.const (.bool b))= .bool b from rfl) (fun hb=>by subst hb;exact h F base E₀ w₀ E a w hcm hs) (fun hb=>by subst hb;exact h F base E₀ w₀ E a w hcm hs)
end
theorem u8_in(c:UInt8):In64 (c.toNat:Int):=by have:=c.toNat_lt;unfold In64;omega
theorem Ht(c:UInt8):In64 (0+(c.toNat:Int)):=by have:=c.toNat_lt;unfold In64;omega
theorem EI(n:Nat)(h:n≤255):IntKind.u8.wrap (n:Int)=(n:Int):=by rw[IntKind.wrap_u8];omega
def uQ(a b:Int):Int:=if a<b then -1 else if b<a then 1 else 0
theorem s7(a:Int):Can Tryz.prog 226 [num a] (· =flag false):=by
 exact aF Tryz.func226 rfl Tryz.ntmps226 rfl<|ab (.a 1 rfl<|.k [0] rfl)<|ab (.a 4 rfl<|.k [2] rfl)<|ao<|⟨_,_,aA.of rfl,ax.pure,by simp;rfl⟩
theorem zl(a b:Int):Can Tryz.prog 218 [num a,num b] (· =num (uQ a b)):=by
 refine aF Tryz.func218 rfl Tryz.ntmps218 rfl<|ab (.a 1 rfl<|.k [0,1] rfl)<|ab (.a 1 rfl<|.c rfl (s7 a) rfl<|.a 1 rfl<|.k [0,1,5] rfl)<|ab (.a 1 rfl<|.c rfl (s7 b) rfl<|.a 1 rfl<|.k [0,1,5,6] rfl)<|aj<|ab (.a 1 rfl<|.k [0,1,6,11] rfl)<|af rfl (fun hc=>?_) (fun hc=>?_)
 ·cases hc
 ·refine ak<|aj<|ab (.a 1 rfl<|.k [0,1,13] rfl)<|af rfl (fun hc=>?_) (fun hc=>?_)
  ·cases hc
  ·refine ak<|aj<|ab (.a 3 rfl<|.k [0,1,16] rfl)<|af rfl (fun hc=>?_) (fun hc=>?_)
   ·have h1:a<b:=tt hc
    exact ab (.a 1 rfl<|.k [4] rfl)<|ao<|⟨_,_,aA.of rfl,ax.pure,by unfold uQ;rw[if_pos h1];rfl⟩
   ·have h1:¬a<b:=ff hc
    refine ak<|aj<|ab (.a 3 rfl<|.k [19] rfl)<|af rfl (fun hy=>?_) (fun hy=>?_)
    ·have h2:b<a:=tt hy
     exact ab (.a 1 rfl<|.k [4] rfl)<|ao<|⟨_,_,aA.of rfl,ax.pure,by unfold uQ;rw[if_neg h1,if_pos h2];rfl⟩
    ·have h2:¬b<a:=ff hy
     exact ak<|ab (.a 1 rfl<|.k [4] rfl)<|ao<|⟨_,_,aA.of rfl,ax.pure,by unfold uQ;rw[if_neg h1,if_neg h2];rfl⟩
theorem HC(a b:Int):Can Tryz.prog 217 [.slice 2 [num a,num b]] (· =num (if a=0 then b else a)):=by
 refine aF Tryz.func217 rfl Tryz.ntmps217 rfl<|ab (.a 1 rfl<|.k [0] rfl)<|ab (.a 1 rfl<|.k [0,3] rfl)<|aj<|ab (.a 3 rfl<|.k [3,6,7,8] rfl)<|au<|ee [3,6,7,8] rfl<|bf (fun r st=>∃j:Nat,j≤2∧r=2 - j∧(0<j→a=0)∧(1<j→b=0)∧st=⟨[(3,num 0),(6,.slice 2 [num a,num b]),(7,num 2),(8,num j)],[]⟩) 2 ⟨0,by omega,by omega,by omega,by omega,rfl⟩ ?_
 rintro r st ⟨j,hj,rfl,ha,hb,rfl⟩
 refine ab (.a 1 rfl<|.k [3,6,7,8,9] rfl)<|aj<|af rfl (fun hc=>?_) (fun hc=>?_)
 ·have hlt:j<2:=by have:=tt hc;omega
  obtain⟨v,hv,hv2⟩:∃v,[num a,num b][j]? =some (num v)∧v=(if j=0 then a else b):=by
   match j,hlt with
   |0,_=>exact⟨a,rfl,rfl⟩
   |1,_=>exact⟨b,rfl,rfl⟩
  refine ak<|aj<|au<|ab (.v (aI (j) rfl) rfl<|.v (aK rfl (hv)) rfl<|.a 1 rfl<|.k [3,5,6,7,8] rfl)<|ab (.a 3 rfl<|.k [3,5,6,7,8,14] rfl)<|af rfl (fun hy=>?_) (fun hy=>?_)
  ·have h1:v≠0:=tt hy
   refine ab (.a 2 rfl<|.k [2] rfl)<|ao<|⟨_,_,aA.of rfl,ax.pure,congrArg num ?_⟩
   by_cases h0:j=0
   ·rw[if_pos h0]at hv2;rw[if_neg (by omega)];exact hv2
   ·rw[if_neg h0]at hv2;rw[if_pos (ha (by omega))];exact hv2
  ·have h1:v=0:=Classical.byContradiction (ff hy)
   refine ak<|aB (.v (aP rfl) rfl<|.a 1 rfl<|.k [3,6,7,8] rfl) ?_
   refine⟨2 - (j+1),by omega,j+1,by omega,rfl,fun _=>?_,fun h=>?_,rfl⟩
   ·by_cases h0:j=0
    ·rw[if_pos h0]at hv2;omega
    ·exact ha (by omega)
   ·rw[if_neg (by omega)]at hv2;omega
 ·have hj2:j=2:=by have:=ff hc;omega
  refine aY<|ab (.a 2 rfl<|.k [2] rfl)<|ao<|⟨_,_,aA.of rfl,ax.pure,congrArg num ?_⟩
  rw[if_pos (ha (by omega))];exact(hb (by omega)).symm
def Ef(L:List Int)(a b:Nat):Int:=if uQ (L.getD b 0) (L.getD a 0)=0 then uQ a b else uQ (L.getD b 0) (L.getD a 0)
theorem Dj(L:List Int)(a b:Nat)(ha:a<L.length)(hb:b<L.length):Can Tryz.prog 216 [num a,num b,.aX [aw L] 0] (· =num (Ef L a b)):=by
 refine aF Tryz.func216 rfl Tryz.ntmps216 rfl<|ab (.a 1 rfl<|.k [0,1,2] rfl)<|dH mixed (by kernel_rfl) (.a 2 rfl<|.v [6,7] (aI (b) rfl) rfl rfl<|.v [8] (aK rfl (ay L b hb)) rfl rfl<|.a 2 rfl<|.v [10,11] (aI (a) rfl) rfl rfl<|.v [12] (aK rfl (ay L a ha)) rfl rfl<|.v [9,13] (dw rfl (zl _ _)) rfl rfl<|.a 2 rfl<|.v [15,16] (dw rfl (zl _ _)) rfl rfl<|.a 1 rfl<|.v [18] (dw rfl (HC _ _)) rfl rfl<|.a 1 rfl<|.k [5] rfl) ?_
 exact ao<|⟨_,_,aA.of rfl,ax.pure,rfl⟩
def Hn(n:Nat):UInt8:=if n=0 then 0 else if n=1 then 1 else if n<4 then 2 else if n<8 then 3 else 4
theorem Bf(n:Nat)(hn:n≤12):Can Tryz.prog 241 [.raw (.int .u64 n)] (· =num (Hn n).toNat):=by
 refine aF Tryz.func241 rfl Tryz.ntmps241 rfl<|ab (.a 1 rfl<|.k [0,2] rfl)<|aj<|ab (.a 1 rfl<|.v (zi rfl rfl rfl rfl) rfl<|.k [0,2,4] rfl)<|af rfl (fun hc=>?_) (fun hc=>?_)
 ·exact absurd (tt hc) (by omega)
 ·refine ak<|aj<|ab (.a 1 rfl<|.v (zi rfl rfl rfl rfl) rfl<|.k [0,2,8] rfl)<|af rfl (fun hc=>?_) (fun hc=>?_)
  ·exact absurd (tt hc) (by omega)
  ·refine ak<|aj<|ab (.a 1 rfl<|.v (zi rfl rfl rfl rfl) rfl<|.k [0,2,14] rfl)<|af rfl (fun hc=>?_) (fun hc=>?_)
   ·exact absurd (tt hc) (by omega)
   ·exact ak<|ab (.a 2 rfl<|.v (xL rfl Tryz.underlying249 Tryz.underlying5 rfl (EI n (by omega))) rfl<|.v (Fe (c:=Hn n) rfl Tryz.underlying9 rfl rfl (by rcases(show n=0∨n=1∨n=2∨n=3∨n=4∨n=5∨n=6∨n=7∨n=8∨n=9∨n=10∨n=11∨n=12 by omega)with h|h|h|h|h|h|h|h|h|h|h|h|h<;>subst h<;>rfl)) rfl<|.v (xL rfl Tryz.underlying5 Tryz.underlying3 rfl (jE (u8_in _))) rfl<|.v (aP rfl (hn:=Ht _)) rfl<|.a 1 rfl<|.k [2] rfl)<|ao<|⟨_,_,aA.of rfl,ax.pure,by rw[Int.zero_add];rfl⟩
theorem Eh(n:Nat)(hn:n≤12):Can Tryz.prog 225 [.raw (.int .u64 n)] (· =num (Hn n).toNat):=by
 refine aF Tryz.func225 rfl Tryz.ntmps225 rfl<|ab (.a 1 rfl<|.k [0] rfl)<|aj (Gm (b:=false) ?_)
 exact ak<|ab (.a 1 rfl<|.c rfl (Bf n hn) rfl<|.a 1 rfl<|.k [2] rfl)<|ao ⟨_,_,.cons (.tmp rfl) .nil,ax.pure,rfl⟩
def sS(L:List Int)(x y:Int):Prop:=L.getD y.toNat 0<L.getD x.toNat 0∨(L.getD y.toNat 0=L.getD x.toNat 0∧x≤y)
theorem Ah{L:List Int}{x y z:Int}(h:sS L x y)(k:sS L y z):sS L x z:=by unfold sS at*;omega
theorem wL(L:List Int)(a b:Nat):Ef L a b<0↔¬sS L b a:=by
 unfold Ef uQ sS
 simp only[Int.toNat_natCast]
 split<;>split<;>(try split)<;>omega
theorem Hg(L:List Int){x y:Int}(h:¬sS L x y):sS L y x:=by unfold sS at*;omega
def FN(L ys:List Int)(i j:Nat):Prop:=∀p q,p<q→q≤i→q≠j→sS L (ys.getD p 0) (ys.getD q 0)
def Fu(L ys:List Int)(i:Nat):Prop:=∀p q,p<q→q<i→sS L (ys.getD p 0) (ys.getD q 0)
theorem Fu.ins{L ys:List Int}{i:Nat}(h:Fu L ys i):FN L ys i i:=fun p q h1 h2 h3=>h p q h1 (by omega)
theorem FN.HX{L ys:List Int}{i:Nat}(h:FN L ys i 0):Fu L ys (i+1):=fun p q h1 h2=>h p q h1 (by omega) (by omega)
theorem FN.done{L ys:List Int}{i j:Nat}(h:FN L ys i j)(hb:sS L (ys.getD (j - 1) 0) (ys.getD j 0)):Fu L ys (i+1):=fun p q h1 h2=>by
 by_cases hq:q=j
 ·subst hq
  by_cases hp:p=q - 1
  ·rw[hp];exact hb
  ·exact Ah (h p (q - 1) (by omega) (by omega) (by omega)) hb
 ·exact h p q h1 (by omega) hq
theorem FN.swap{L ys:List Int}{i j:Nat}(h:FN L ys i j)(h0:0<j)(hj:j≤i)(hi:i<ys.length)(hb:¬sS L (ys.getD (j - 1) 0) (ys.getD j 0)):FN L (Heap.dQ ys j (j - 1)) i (j - 1):=fun p q h1 h2 h3=>by
 rw[Heap.dK ys j (j - 1) p (by omega) (by omega),Heap.dK ys j (j - 1) q (by omega) (by omega),if_neg h3]
 by_cases hq:q=j
 ·rw[if_pos hq]
  by_cases hp:p=j - 1
  ·rw[if_pos hp];exact Hg L hb
  ·rw[if_neg hp,if_neg (by omega)];exact h p (j - 1) (by omega) (by omega) (by omega)
 ·rw[if_neg hq]
  by_cases hp:p=j - 1
  ·rw[if_pos hp];exact h j q (by omega) h2 hq
  ·rw[if_neg hp]
   by_cases hp2:p=j
   ·rw[if_pos hp2];exact h (j - 1) q (by omega) h2 hq
   ·rw[if_neg hp2];exact h p q h1 h2 hq
theorem swap_perm(ys:List Int)(p q:Nat)(hp:p<ys.length)(hq:q<ys.length):(Heap.dQ ys p q).Perm ys:=by
 have:= @List.set_set_perm _ ys p q hp hq
 unfold Heap.dQ
 rw[List.getD_eq_getElem?_getD,List.getD_eq_getElem?_getD,List.getElem?_eq_getElem hp,List.getElem?_eq_getElem hq]
 exact this
theorem Fu.pair{L ys:List Int}(h:Fu L ys ys.length):ys.Pairwise (sS L):=by
 rw[List.pairwise_iff_getElem]
 intro i j hi hj hij
 have:=h i j hij hj
 rw[List.getD_eq_getElem?_getD,List.getD_eq_getElem?_getD,List.getElem?_eq_getElem hi,List.getElem?_eq_getElem hj]at this
 exact this
def dT(ys:List Int):Option db:=some (.row 3 1 ys.length (aN ys))
abbrev zX(L:List Int):PV:=.func 216 [.aX [aw L] 0]
theorem zU(L xs:List Int)(c:Option db)(hx:∀x∈xs,0≤x∧x<L.length)(hn:xs.length≤12):bV Tryz.prog 232 [.own 1,num 0,num xs.length,zX L] [c,dT xs] (fun _ σ'=>∃ys,ys.Perm xs∧ys.Pairwise (sS L)∧σ'=[c,dT ys]):=by
 refine ct Tryz.func232 rfl Tryz.ntmps232 rfl<|ab (.a 1 rfl<|.v (aP rfl) rfl<|.a 1 rfl<|.k [0,1,2,3,8] rfl)<|au<|ee [0,1,2,3,8] rfl<|bf (fun r st=>∃(ys:List Int) (i:Nat),ys.Perm xs∧0<i∧Fu L ys i∧r=13 - i∧st=⟨[(0,.own 1),(1,num 0),(2,num xs.length),(3,zX L),(8,num i)],[c,dT ys]⟩) 12 ⟨xs,1,.refl _,by omega,fun p q h1 h2=>by omega,rfl,rfl⟩ ?_
 rintro r st ⟨ys,i,hp,hi0,hs,rfl,rfl⟩
 have hyl:=hp.length_eq
 refine aj<|ab (.a 3 rfl<|.k [0,1,2,3,8,14] rfl)<|af rfl (fun hc=>?_) (fun hc=>?_)
 ·have hlt:i<xs.length:=by have:=tt hc;omega
  refine ak<|aj<|au<|ab (.a 2 rfl<|.k [0,1,2,3,8,9] rfl)<|au<|ee [0,1,2,3,8,9] rfl<|bf (fun r st=>∃(ys:List Int) (j:Nat),ys.Perm xs∧j≤i∧FN L ys i j∧r=j∧st=⟨[(0,.own 1),(1,num 0),(2,num xs.length),(3,zX L),(8,num i),(9,num j)],[c,dT ys]⟩) i ⟨ys,i,hp,by omega,hs.ins,rfl,rfl⟩ ?_
  clear hp hs hyl
  rintro r st ⟨zs,j,hp,hji,hs,rfl,rfl⟩
  have hyl:=hp.length_eq
  refine aj ?_
  obtain⟨q1,hq1⟩:∃q,decide ((0:Int)<(r:Int))=q:=⟨_,rfl⟩
  have hel:∀k,k<zs.length→∃a:Nat,zs.getD k 0=(a:Int)∧a<L.length:=fun k hk=>by
   have h1:=hx _ (hp.mem_iff.1 (bR (d:=0) hk))
   exact⟨(zs.getD k 0).toNat,by omega,by omega⟩
  obtain⟨a,ha,haL⟩:=hel r (by omega)
  obtain⟨b,hb,hbL⟩:=hel (r - 1) (by omega)
  obtain⟨q2,hq2⟩:∃q,decide (Ef L a b<0)=q:=⟨_,rfl⟩
  refine kC mixed (by kernel_rfl) 34 (.raw (.bool (q1&&q2))) [0,1,2,3,8,9] rfl ?_ ?_
  ·refine .a 2 rfl<|.v [18,19] (b7 rfl (hq1)) rfl rfl<|.a 1 rfl<|?_
   cases q1
   ·exact .a 13 rfl<|.k [34,0,1,2,3,8,9] rfl
   ·exact .a 3 rfl<|.v [23,24] (aI (r) rfl) rfl rfl<|.v [25] (aK rfl ((ay zs r (by omega)).trans (by rw[ha]))) rfl rfl<|.a 2 rfl<|.v [28] (aP rfl) rfl rfl<|.v [27,29] (aI ((r - 1)) rfl (by have:=tt hq1;omega) (by omega)) rfl rfl<|.v [30] (aK rfl ((ay zs (r - 1) (by omega)).trans (by rw[hb]))) rfl rfl<|.v [22,26,31] (dw rfl (Dj L a b haL hbL)) rfl rfl<|.v [32] (b7 rfl (hq2)) rfl rfl<|.a 1 rfl<|.k [34,0,1,2,3,8,9] rfl
  refine af rfl (fun hy=>?_) (fun hy=>?_)
  ·obtain⟨c1,c2⟩:=Bool.and_eq_true_iff.1 hy
   rw[c1]at hq1
   rw[c2]at hq2
   have hr0:0<r:=by have:=tt hq1;omega
   have hnb:=(wL L a b).1 (tt hq2)
   rw[←ha,←hb]at hnb
   refine ak<|aj<|au<|cS 15 20 mixed (
    .val [0] rfl (bI rfl) rfl rfl<|
    .val [9] rfl (bI rfl) rfl rfl<|
    .late [0] rfl (lP rfl rfl) inferInstance rfl rfl<|
    .late [9] rfl (lP rfl rfl) inferInstance rfl rfl<|
    .late [40] rfl (Ib rfl rfl rfl rfl (by unfold In64;omega)) inferInstance rfl rfl<|
    .val [0] rfl (bI rfl) rfl rfl<|
    .val [9] rfl (bI rfl) rfl rfl<|
    .val [43] rfl (aP rfl) rfl rfl<|
    .val [42,44] rfl (aI ((r - 1)) rfl) rfl rfl<|
    .val [45] rfl (aK rfl ((ay zs (r - 1) (by omega)).trans (by rw[hb]))) rfl rfl<|
    .val [0] rfl (bI rfl) rfl rfl<|
    .val [9] rfl (bI rfl) rfl rfl<|
    .val [47,48] rfl (aI (r) rfl) rfl rfl<|
    .val [49] rfl (aK rfl ((ay zs r (by omega)).trans (by rw[ha]))) rfl rfl<|
    .val [37,38] rfl (aI (r) rfl) rfl rfl<|
    .nil) (by kernel_rfl) rfl rfl (bd (ks:=[0,1,2,3,8,9,39,41,46,50,51]) rfl) ?_
   refine bh ((by first|exact bH rfl (bF.tk.get rfl) rfl rfl rfl (by first|omega|(simp;omega))|exact aS rfl (bF.tk.get rfl) rfl rfl rfl (by first|omega|(simp;omega)))) rfl rfl<|bA (aI ((r - 1)) rfl) rfl<|bh ((by first|exact bH rfl (bF.tk.get rfl) rfl rfl rfl (by first|omega|(simp;omega))|exact aS rfl (bF.tk.get rfl) rfl rfl rfl (by first|omega|(simp;omega)))) rfl rfl<|aD [0,1,2,3,8,9] rfl ?_
   refine aB (.a 1 rfl<|.v (aP rfl) rfl<|.a 1 rfl<|.k [0,1,2,3,8,9] rfl) ?_
   refine⟨r - 1,by omega,Heap.dQ zs r (r - 1),r - 1,(swap_perm zs r (r - 1) (by omega) (by omega)).trans hp,by omega,hs.swap hr0 hji (by omega) hnb,rfl,?_⟩
   unfold dT Heap.dQ
   rw[ha,hb,show((r - 1:Nat):Int)=(r:Int) - 1 by omega]
   simp only[List.length_set]
   rfl
  ·have hso:Fu L zs (i+1):=by
    by_cases h0:r=0
    ·subst h0;exact hs.HX
    ·refine hs.done ?_
     rw[ha,hb]
     refine Classical.byContradiction fun hn=>?_
     have:=(wL L a b).2 hn
     have e1:q1=true:=by rw[←hq1];exact decide_eq_true (by omega)
     have e2:q2=true:=by rw[←hq2];exact decide_eq_true this
     rw[e1,e2]at hy
     cases hy
   refine aY<|aB (.a 1 rfl<|.v (aP rfl) rfl<|.a 1 rfl<|.k [0,1,2,3,8] rfl) ?_
   exact⟨13 - (i+1),by omega,zs,i+1,hp,by omega,hso,rfl,rfl⟩
 ·have hge:ys.length≤i:=by have:=ff hc;omega
  exact aY<|⟨_,aA.of rfl,ys,hp,Fu.pair (fun p q h1 h2=>hs p q h1 (by omega)),rfl⟩
theorem FQ(L xs:List Int)(c:Option db)(k:Int)(hx:∀x∈xs,0≤x∧x<L.length)(hn:xs.length≤12):bV Tryz.prog 224 [.own 1,num 0,num xs.length,num k,zX L] [c,dT xs] (fun _ σ'=>∃ys,ys.Perm xs∧ys.Pairwise (sS L)∧σ'=[c,dT ys]):=by
 refine ct Tryz.func224 rfl Tryz.ntmps224 rfl<|ab (.a 1 rfl<|.k [0,1,2,3,4,10] rfl)<|ab (.a 1 rfl<|.k [0,1,2,3,4,10,11] rfl)<|au<|bf (fun r st=>st=⟨[(0,.own 1),(1,num 0),(2,num xs.length),(3,num k),(4,zX L),(10,flag true),(11,flag true)],[c,dT xs]⟩) 0 rfl ?_
 rintro r st rfl
 refine au<|ab (.a 2 rfl<|.v (aP rfl) rfl<|.a 1 rfl<|.k [0,1,2,3,4,10,11,12] rfl)<|aj<|ab (.a 2 rfl<|.k [0,1,2,3,4,10,11,12,25] rfl)<|af (b:=decide ((xs.length:Int) - 0≤12)) rfl (fun _=>?_) (fun hc=>absurd (ff hc) (by omega))
 refine aH<|aq 4 rfl<|cP rfl rfl (bV.mono (zU L xs c hx hn) (fun _ σ' h=>?_))
 obtain⟨ys,h1,h2,rfl⟩:=h
 refine aD [] rfl ?_
 exact ao ⟨_,.nil,ys,h1,h2,rfl⟩
theorem AS(L xs:List Int)(c:Option db)(hx:∀x∈xs,0≤x∧x<L.length)(hn:xs.length≤12):bV Tryz.prog 215 [.own 1,zX L] [c,dT xs] (fun _ σ'=>∃ys,ys.Perm xs∧ys.Pairwise (sS L)∧σ'=[c,dT ys]):=by
 have hw:IntKind.u64.wrap (xs.length:Int)=(xs.length:Int):=by rw[IntKind.wrap_u64];omega
 refine ct Tryz.func215 rfl Tryz.ntmps215 rfl<|ab (.a 3 rfl<|.k [0,1,4] rfl)<|bq<|aq 3 rfl<|bA (xL rfl Tryz.underlying3 Tryz.underlying247 rfl hw) rfl<|dJ rfl (Eh xs.length hn) rfl<|aq 1 rfl<|cP rfl rfl (bV.mono (FQ L xs c _ hx hn) (fun _ σ' h=>?_))
 obtain⟨ys,h1,h2,rfl⟩:=h
 refine aD [] rfl ?_
 exact⟨_,aA.of rfl,ys,h1,h2,rfl⟩
def oU(L:List Int)(i:Nat):List Int:=((List.range i).filter fun k=>decide (0≤L.getD k 0)).map Int.ofNat
theorem Bk(L:List Int)(i:Nat):oU L (i+1)=oU L i++(if 0≤L.getD i 0 then [(i:Int)] else []):=by
 unfold oU
 rw[List.range_succ,List.filter_append,List.map_append]
 congr 1
 by_cases h:0≤L.getD i 0
 ·rw[if_pos h,List.filter_cons,if_pos (by simpa using h)];rfl
 ·rw[if_neg h,List.filter_cons,if_neg (by simpa using h)];rfl
theorem wN(L:List Int)(i:Nat):(oU L i).length≤i:=by
 unfold oU
 rw[List.length_map]
 exact Nat.le_trans (List.length_filter_le _ _) (by simp)
theorem wk{L:List Int}{i:Nat}{x:Int}:x∈oU L i↔∃k:Nat,x=(k:Int)∧k<i∧0≤L.getD k 0:=by
 unfold oU
 simp only[List.mem_map,List.mem_filter,List.mem_range,decide_eq_true_eq]
 constructor
 ·rintro⟨k,⟨h1,h2⟩,rfl⟩;exact⟨k,rfl,h1,h2⟩
 ·rintro⟨k,rfl,h1,h2⟩;exact⟨k,⟨h1,h2⟩,rfl⟩
theorem ym(L:List Int)(i:Nat):(oU L i).Nodup:=by
 unfold oU
 have h1:(List.range i).Pairwise (· ≠ ·):=List.nodup_range
 refine List.Pairwise.map Int.ofNat (fun a b h e=>h (by cases e;rfl)) (h1.filter _)
theorem ye(L cs:List Int)(hn:L.length≤12):bV Tryz.prog 202 [aw L] [dT cs] (fun r σ'=>∃ys,ys.Perm (oU L L.length)∧ys.Pairwise (sS L)∧r= .own 1∧σ'=[dT cs,dT ys]):=by
 refine ct Tryz.func202 rfl Tryz.ntmps202 rfl<|ab (.a 2 rfl<|.k [1] rfl)<|ab (.a 1 rfl<|.k [1,3] rfl)<|eo 3 3 1 rfl ?_
 refine aj<|ab (.a 3 rfl<|.k [1,3,6,7,8] rfl)<|au<|ee [1,3,6,7,8] rfl<|bf (fun r st=>∃i,i≤L.length∧r=L.length - i∧st=⟨[(1,.aX [aw L] 0),(3,.own 1),(6,aw L),(7,num L.length),(8,num i)],[dT cs,dT (oU L i)]⟩) L.length ⟨0,by omega,by omega,rfl⟩ ?_
 rintro r st ⟨i,hi,rfl,rfl⟩
 have hhl:=wN L i
 refine ab (.a 1 rfl<|.k [1,3,6,7,8,9] rfl)<|aj<|af rfl (fun hc=>?_) (fun hc=>?_)
 ·have hlt:i<L.length:=by have:=tt hc;omega
  have hst:=Bk L i
  refine ak<|aj<|au<|ab (.a 1 rfl<|.v (aI (i) rfl) rfl<|.v (aK rfl (ay L i hlt)) rfl<|.a 2 rfl<|.k [1,3,4,5,6,7,8] rfl)<|ab (.a 2 rfl<|.k [1,3,4,6,7,8,14] rfl)<|af rfl (fun hy=>?_) (fun hy=>?_)
  ·have h0:0≤L.getD i 0:=tt hy
   rw[if_pos h0]at hst
   refine bq<|aq 3 rfl<|cf (bu rfl (bF.rk.get rfl) rfl rfl rfl rfl (by unfold maxLen;omega)) rfl<|aq 1 rfl ?_
   refine de [0,2] (.c 1<|.c 3<|.c 6<|.c 7<|.c 8<|.nil) (.kept rfl (.row aC.pure)<|.kept rfl (.ec rfl (cB _ _))<|.nil) rfl rfl (aU ?_)
   refine aB (.v (aP rfl) rfl<|.a 1 rfl<|.k [1,3,6,7,8] rfl) ?_
   refine⟨L.length - (i+1),by omega,i+1,by omega,rfl,?_⟩
   rw[hst]
   first
    |rfl
    |(simp only[dT,List.length_append,List.length_singleton];rfl)
  ·have h0:¬0≤L.getD i 0:=ff hy
   rw[if_neg h0,List.append_nil]at hst
   refine ak<|aB (.v (aP rfl) rfl<|.a 1 rfl<|.k [1,3,6,7,8] rfl) ?_
   refine⟨L.length - (i+1),by omega,i+1,by omega,rfl,?_⟩
   rw[hst]
   first
    |rfl
    |(simp only[dT,List.length_append,List.length_singleton];rfl)
 ·have hie:i=L.length:=by have:=ff hc;omega
  subst hie
  refine aY<|aH<|aq 2 rfl<|cP rfl rfl (bV.mono (AS L (oU L L.length) (dT cs) (fun x hx=>by obtain⟨k,rfl,h1,_⟩:=wk.1 hx;omega) (by omega)) (fun _ σ' h=>?_))
  obtain⟨ys,h1,h2,rfl⟩:=h
  refine aD [3] rfl ?_
  exact ab (.a 2 rfl<|.k [2] rfl)<|ao<|⟨_,aA.of rfl,ys,h1,h2,rfl,rfl⟩
theorem wX(xs:List Int)(c:Option db)(hn:xs.length≤12):bV Tryz.prog 203 [.own 1] [c,dT xs] (fun _ σ'=>σ'=[c,dT xs.reverse]):=by
 refine ct Tryz.func203 rfl Tryz.ntmps203 rfl<|ab (.a 2 rfl<|.v (aP rfl) rfl<|.a 2 rfl<|.k [0,2,3] rfl)<|au<|ee [0,2,3] rfl<|bf (fun r st=>∃(ys:List Int) (i:Nat),ys.length=xs.length∧2*i≤xs.length+1∧(∀k,k<xs.length→ys.getD k 0=if k<i∨xs.length - i≤k then xs.getD (xs.length - 1 - k) 0 else xs.getD k 0)∧r=xs.length+1 - i∧st=⟨[(0,.own 1),(2,num i),(3,num ((xs.length:Int) - 1 - i))],[c,dT ys]⟩) (xs.length+1) ⟨xs,0,rfl,by omega,fun k hk=>by rw[if_neg (by omega)],by omega,by simp⟩ ?_
 rintro r st ⟨ys,i,hl,hi,hk,rfl,rfl⟩
 refine aj<|ab (.a 3 rfl<|.k [0,2,3,9] rfl)<|af rfl (fun hc=>?_) (fun hc=>?_)
 ·have hlt:2*i+1<xs.length:=by have:=tt hc;omega
  obtain⟨a,ha⟩:∃a,ys.getD i 0=a:=⟨_,rfl⟩
  obtain⟨b,hb⟩:∃b,ys.getD (xs.length - 1 - i) 0=b:=⟨_,rfl⟩
  refine ak<|aj<|au<|cS 13 20 mixed (
   .val [0] rfl (bI rfl) rfl rfl<|
   .val [2] rfl (bI rfl) rfl rfl<|
   .late [0] rfl (lP rfl rfl) inferInstance rfl rfl<|
   .late [3] rfl (lP rfl rfl) inferInstance rfl rfl<|
   .val [0] rfl (bI rfl) rfl rfl<|
   .val [3] rfl (bI rfl) rfl rfl<|
   .val [18,19] rfl (aI ((xs.length - 1 - i)) rfl) rfl rfl<|
   .val [20] rfl (aK rfl ((ay ys (xs.length - 1 - i) (by omega)).trans (by rw[hb]))) rfl rfl<|
   .val [0] rfl (bI rfl) rfl rfl<|
   .val [2] rfl (bI rfl) rfl rfl<|
   .val [22,23] rfl (aI (i) rfl) rfl rfl<|
   .val [24] rfl (aK rfl ((ay ys i (by omega)).trans (by rw[ha]))) rfl rfl<|
   .val [14,15] rfl (aI (i) rfl) rfl rfl<|
   .nil) (by kernel_rfl) rfl rfl (bd (ks:=[0,2,3,16,17,21,25,26]) rfl) ?_
  refine bh ((by first|exact bH rfl (bF.tk.get rfl) rfl rfl rfl (by first|omega|(simp;omega))|exact aS rfl (bF.tk.get rfl) rfl rfl rfl (by first|omega|(simp;omega)))) rfl rfl<|bA (aI ((xs.length - 1 - i)) rfl) rfl<|bh ((by first|exact bH rfl (bF.tk.get rfl) rfl rfl rfl (by first|omega|(simp;omega))|exact aS rfl (bF.tk.get rfl) rfl rfl rfl (by first|omega|(simp;omega)))) rfl rfl<|aD [0,2,3] rfl ?_
  refine aB (.a 1 rfl<|.v (aP rfl) rfl<|.a 1 rfl<|.v (aP rfl) rfl<|.a 2 rfl<|.k [0,2,3] rfl) ?_
  refine⟨xs.length+1 - (i+1),by omega,Heap.dQ ys i (xs.length - 1 - i),i+1,by rw[Heap.fO];exact hl,by omega,fun k hkl=>?_,rfl,?_⟩
  ·rw[Heap.dK ys i (xs.length - 1 - i) k (by omega) (by omega)]
   by_cases h1:k=xs.length - 1 - i
   ·rw[if_pos h1,if_pos (by omega),hk i (by omega),if_neg (by omega),h1,show xs.length - 1 - (xs.length - 1 - i)=i by omega]
   ·rw[if_neg h1]
    by_cases h2:k=i
    ·rw[if_pos h2,if_pos (by omega),hk _ (by omega),if_neg (by omega),h2]
    ·rw[if_neg h2,hk k hkl]
     by_cases h3:k<i∨xs.length - i≤k
     ·rw[if_pos h3,if_pos (by omega)]
     ·rw[if_neg h3,if_neg (by omega)]
  ·unfold dT Heap.dQ
   rw[ha,hb,show(xs.length:Int) - 1 - ((i+1:Nat):Int)=(xs.length:Int) - 1 - i - 1 by omega]
   simp only[List.length_set]
   rfl
 ·have hge:¬2*i+1<xs.length:=by have:=ff hc;omega
  refine aY<|⟨_,aA.of rfl,?_⟩
  have:ys=xs.reverse:=by
   refine List.ext_getElem (by simp[hl]) fun k h1 h2=>?_
   have h3:=hk k (by omega)
   rw[List.getElem_reverse]
   have e1:ys.getD k 0=ys[k]:=by simp[h1]
   have e2:xs.getD (xs.length - 1 - k) 0=xs[xs.length - 1 - k]:=by rw[List.getD_eq_getElem?_getD,List.getElem?_eq_getElem (by omega)];rfl
   by_cases h4:k<i∨xs.length - i≤k
   ·rw[if_pos h4,e1,e2]at h3;exact h3
   ·rw[if_neg h4,e1]at h3
    rw[h3,←e2,show xs.length - 1 - k=k by omega]
  rw[this]
end PW
end Go.Proofs.YtnegbdpggideiaaGreatDoor
namespace Go.Proofs.YtnegbdpggideiaaGreatDoor
namespace PW
open Go.RowKit cH Mem
structure ir (P:Program) (kt:TypeId) {κ:Type} [DecidableEq κ] (enc:κ→Value):Prop where
 nH:∀e a w,(Instr.checkKey e 10000 kt (enc a)).run P w= .ok () w
 eql:∀a b w,(Op.equal kt (enc a) (enc b)).run P w= .ok (decide (a=b)) w
 now:∃d,P.underlying kt=some d∧((∀a b,Instr.sameNow d (enc a) (enc b)=some (decide (a=b)))∨∀a b,Instr.sameNow d (enc a) (enc b)=none)
 bits:∀a,Instr.sameBits 10000 (enc a) (enc a)=true
section
variable {P:Program} {kt:TypeId} {κ:Type} [DecidableEq κ] {enc:κ→Value}
def fV(k:κ):List κ→Nat→Option Nat
 | [],_=>none
 |a::l,i=>if k=a then some i else fV k l (i+1)
theorem ja{k:κ}:∀ {l:List κ} {i j:Nat},fV k l i=some j→i≤j∧l[j - i]? =some k
 | [],i,j,h=>by cases h
 |a::l,i,j,h=>by
  simp only[fV]at h
  split at h
  ·rename_i he;cases h;subst he;simp
  ·obtain⟨h1,h2⟩:=ja h
   refine⟨by omega,?_⟩
   rw[show j - i=(j - (i+1))+1 by omega]
   simpa using h2
theorem vp{d:TypeDesc}(hn:∀a b,Instr.sameNow d (enc a) (enc b)=some (decide (a=b)))(k:κ):∀(ks:List κ) (es:List MapEntry) (i:Nat),es.map (·.key)=ks.map enc→
  Instr.findNow d (enc k) es i=some ((fV k ks i).bind fun j=>(es[j - i]?).map fun e=>(j,e.val))
 | [],[],i,_=>rfl
 | [],_::_,i,h=>by simp at h
 |_::_,[],i,h=>by simp at h
 |a::ks,e::es,i,h=>by
  simp only[List.map_cons,List.cons.injEq]at h
  simp only[Instr.findNow,h.1,hn,fV]
  by_cases hk:k=a
  ·rw[decide_eq_true hk,if_pos hk];simp
  ·rw[decide_eq_false hk,if_neg hk]
   simp only[vp hn k ks es (i+1) h.2]
   congr 1
   cases hf:fV k ks (i+1)with
   |none=>rfl
   |some j=>
    obtain⟨h1,_⟩:=ja hf
    simp only[Option.bind_some]
    rw[show j - i=(j - (i+1))+1 by omega]
    simp
theorem vC(hk:ir P kt enc)(k:κ)(w:World):∀(ks:List κ) (es:List MapEntry) (i:Nat),es.map (·.key)=ks.map enc→
  (Instr.findAsking kt (enc k) es i).run P w= .ok ((fV k ks i).bind fun j=>(es[j - i]?).map fun e=>(j,e.val)) w
 | [],[],i,_=>rfl
 | [],_::_,i,h=>by simp at h
 |_::_,[],i,h=>by simp at h
 |a::ks,e::es,i,h=>by
  simp only[List.map_cons,List.cons.injEq]at h
  simp only[Instr.findAsking,Sem.run_bind,h.1,hk.eql,Result.andThen_ok,fV]
  by_cases hka:k=a
  ·rw[if_pos (by simpa using hka),if_pos hka];simp
  ·rw[if_neg (by simpa using hka),if_neg hka,vC hk k w ks es (i+1) h.2]
   congr 1
   cases hf:fV k ks (i+1)with
   |none=>rfl
   |some j=>
    obtain⟨h1,_⟩:=ja hf
    simp only[Option.bind_some]
    rw[show j - i=(j - (i+1))+1 by omega]
    simp
theorem vz(hk:ir P kt enc)(k:κ)(w:World)(ks:List κ)(es:List MapEntry)(h:es.map (·.key)=ks.map enc):(Instr.findKey kt (enc k) es).run P w= .ok ((fV k ks 0).bind fun j=>(es[j]?).map fun e=>(j,e.val)) w:=by
 obtain⟨d,hd,hn|hn⟩:=hk.now
 ·have:=vp hn k ks es 0 h
  simp only[Instr.findKey,Sem.run_bind,run_underlying hd,Result.andThen_ok,this]
  simp
 ·have ha:=vC hk k w ks es 0 h
  simp only[Instr.findKey,Sem.run_bind,run_underlying hd,Result.andThen_ok]
  cases es with
  |nil=>
   have:ks=[]:=by cases ks with|nil=>rfl|cons=>simp at h
   subst this
   rfl
  |cons e es=>
   cases ks with
   |nil=>simp at h
   |cons a ks=>
    simp only[List.map_cons,List.cons.injEq]at h
    have h0:Instr.findNow d (enc k) (e::es) 0=none:=by simp only[Instr.findNow,h.1,hn]
    rw[h0]
    simpa using ha
def fM(enc:κ→Value)(l:List (κ×PV)):List (Value×PV):=l.map fun x=>(enc x.1,x.2)
def dr(k:κ):List (κ×PV)→Option PV
 | []=>none
 |(a,p)::l=>if k=a then some p else dr k l
def iu(k:κ)(p:PV):List (κ×PV)→List (κ×PV)
 | []=>[(k,p)]
 |(a,q)::l=>if k=a then(a,p)::l else(a,q)::iu k p l
theorem xO{k:κ}{l:List (κ×PV)}:dr k l=(fV k (l.map (·.1)) 0).bind fun j=>(l[j]?).map (·.2):=by
 suffices h:∀(i:Nat),dr k l=(fV k (l.map (·.1)) i).bind fun j=>(l[j - i]?).map (·.2) by simpa using h 0
 induction l with
 |nil=>intro i;rfl
 |cons x l ih=>
  intro i
  obtain⟨a,p⟩:=x
  simp only[dr,List.map_cons,fV]
  split
  ·simp
  ·rw[ih (i+1)]
   cases hf:fV k (l.map (·.1)) (i+1)with
   |none=>rfl
   |some j=>
    obtain⟨h1,_⟩:=ja hf
    simp only[Option.bind_some]
    rw[show j - i=(j - (i+1))+1 by omega]
    simp
theorem Be{k:κ}{p:PV}{l:List (κ×PV)}:iu k p l=match fV k (l.map (·.1)) 0 with|some j=>l.set j (k,p)|none=>l++[(k,p)]:=by
 suffices h:∀(i:Nat),iu k p l=match fV k (l.map (·.1)) i with|some j=>l.set (j - i) (k,p)|none=>l++[(k,p)] by simpa using h 0
 induction l with
 |nil=>intro i;rfl
 |cons x l ih=>
  intro i
  obtain⟨a,q⟩:=x
  simp only[iu,List.map_cons,fV]
  split
  ·rename_i he;subst he;simp
  ·rw[ih (i+1)]
   cases hf:fV k (l.map (·.1)) (i+1)with
   |none=>rfl
   |some j=>
    obtain⟨h1,_⟩:=ja hf
    simp only
    rw[show j - i=(j - (i+1))+1 by omega]
    simp
theorem ry{k:κ}{p:PV}{l:List (κ×PV)}{x:κ×PV}(h:x∈iu k p l):x=(k,p)∨x∈l:=by
 induction l with
 |nil=>simpa[iu]using h
 |cons y l ih=>
  obtain⟨a,q⟩:=y
  simp only[iu]at h
  split at h
  ·rename_i he
   subst he
   cases h with
   |head=>exact .inl rfl
   |tail _ h=>exact .inr (List.mem_cons_of_mem _ h)
  ·cases h with
   |head=>exact .inr (List.mem_cons_self ..)
   |tail _ h=>
    rcases ih h with h|h
    ·exact .inl h
    ·exact .inr (List.mem_cons_of_mem _ h)
theorem iS{k:κ}{p:PV}{l:List (κ×PV)}(h:dr k l=some p):(k,p)∈l:=by
 induction l with
 |nil=>cases h
 |cons y l ih=>
  obtain⟨a,q⟩:=y
  simp only[dr]at h
  split at h
  ·rename_i he;subst he;cases h;exact List.mem_cons_self ..
  ·exact List.mem_cons_of_mem _ (ih h)
def wW(p:PV)(v:Value):Prop:=∀E w u,cD E w u p→u=v
theorem oQ(v:Value):wW (.raw v) v:=fun _ _ _ h=>by cases h;rfl
theorem pL(a b:Value):wW (.agg [.raw a,.raw b]) (.agg #[a,b]):=fun E w u h=>by
 cases h with
 |agg cs _ hl hr=>
  obtain⟨l⟩:=cs
  match l,hl,hr with
  | [x,y],_,hr=>
   have h0:=hr 0 x _ rfl rfl
   have h1:=hr 1 y _ rfl rfl
   cases h0;cases h1;rfl
  | [],hl,_=>simp at hl
  | [_],hl,_=>simp at hl
  |_::_::_::_,hl,_=>simp at hl
def uJ(P:Program)(mt:TypeId):Option (TypeId×TypeId):=match P.underlying mt with|some (.map k e)=>some (k,e)|_=>none
theorem mw{mt kt et:TypeId}(h:uJ P mt=some (kt,et)):P.underlying mt=some (.map kt et):=by
 unfold uJ at h
 split at h
 ·rename_i hu;cases h;exact hu
 ·cases h
def GB(P:Program)(t:TypeId):Option Value:=match P.info? t with|some i=>i.zero|none=>none
theorem C2{et:TypeId}{z:Value}(h:GB P et=some z)(w:World):(zeroValue et).run P w= .ok z w:=by
 unfold GB at h
 split at h
 ·rename_i i hi;simp[zeroValue,typeInfo,hi,h]
 ·cases h
variable {σ:cg} {t:b9} {o:Oper}
theorem sv(hK:ir P kt enc){F:Nat→Prop}{base:Nat}{E:Env}{w:World}{i mt et:Nat}{l:List (κ×PV)}{v z:Value}(hS:Sat F base σ E w)(hm:uJ P mt=some (kt,et))(hz:GB P et=some z)(hv:cD E w v (.own i))(hi:σ[i]? =some (some (.mp (fM enc l))))(k:κ)(ok:Bool):
  ∃u,(Instr.lookup mt v (enc k) ok).run P w= .ok (if ok then .tuple #[u,.bool (dr k l).isSome] else u) w∧cD E w u ((dr k l).getD (.raw z)):=by
 cases hv with
 |own _ hiL _ hat _=>
  obtain⟨r,es,ck,hr,hb,hheap,hkey,hval⟩:=hS.blk i _ hi
  rw[hat]at hr
  subst hr
  have hkey':es.toList.map (·.key)=(l.map (·.1)).map enc:=by rw[hkey];simp[fM]
  have hf:=vz hK k w (l.map (·.1)) es.toList hkey'
  have hvl:(fM enc l).map (·.2)=l.map (·.2):=by simp[fM]
  rw[hvl]at hval
  have hlk:=xO (k:=k) (l:=l)
  cases hfi:fV k (l.map (·.1)) 0 with
  |none=>
   rw[hfi]at hf hlk
   simp only[Option.bind_none]at hf hlk
   refine⟨z,?_,by rw[hlk];exact .raw z⟩
   simp only[Instr.lookup,Sem.run_bind,run_underlying (mw hm),Result.andThen_ok,MapKept.run_getObj_map hheap,Sem.run_pure,hK.nH,hf,C2 hz,hlk]
   rfl
  |some j=>
   obtain⟨_,hj⟩:=ja hfi
   simp only[Nat.sub_zero]at hj
   have hjl:j<l.length:=by have:=(List.getElem?_eq_some_iff.1 hj).1;simpa using this
   have hje:j<es.toList.length:=by have:=congrArg List.length hkey';simp at this;rw[Array.length_toList];omega
   rw[hfi]at hf hlk
   simp only[Option.bind_some,List.getElem?_eq_getElem hje,List.getElem?_eq_getElem hjl,Option.map_some]at hf hlk
   refine⟨es.toList[j].val,?_,?_⟩
   ·simp only[Instr.lookup,Sem.run_bind,run_underlying (mw hm),Result.andThen_ok,MapKept.run_getObj_map hheap,Sem.run_pure,hK.nH,hf,hlk]
    rfl
   ·rw[hlk]
    exact hval.2 j _ _ (by rw[List.getElem?_map,List.getElem?_eq_getElem hje];rfl) (by simp[hjl])
theorem uA(hK:ir P kt enc){i mt et:Nat}{x ix:Operand}{l:List (κ×PV)}{z:Value}{k:κ}{pk r:PV}(ho:o.op= .lookup mt x ix false)(hm:uJ P mt=some (kt,et))(hz:GB P et=some z)(hx:aE t x=some (.own i))(hi:σ[i]? =some (some (.mp (fM enc l))))(hp:aE t ix=some pk)(hk:wW pk (enc k))(hr:(dr k l).getD (.raw z)=r):bp P σ t o r:=by
 intro F base E ρ w hρ hS hT
 have h1:=az hρ hT hx
 have h2:=hk _ _ _ (az hρ hT hp)
 obtain⟨u,hu,hR⟩:=sv hK hS hm hz h1 hi k false
 simp only[execOp,ho,h2,Sem.run_bind,hu,Result.andThen_ok,Sem.run_pure,Bool.false_eq_true,if_false]
 exact br (by rw[←hr];exact hR)
theorem zx(hK:ir P kt enc){i mt et:Nat}{x ix:Operand}{l:List (κ×PV)}{z:Value}{k:κ}{pk r:PV}{q:Bool}(ho:o.op= .lookup mt x ix true)(hm:uJ P mt=some (kt,et))(hz:GB P et=some z)(hx:aE t x=some (.own i))(hi:σ[i]? =some (some (.mp (fM enc l))))(hp:aE t ix=some pk)(hk:wW pk (enc k))(hr:(dr k l).getD (.raw z)=r)(hq:(dr k l).isSome=q):bp P σ t o (.tuple [r,.raw (.bool q)]):=by
 intro F base E ρ w hρ hS hT
 have h1:=az hρ hT hx
 have h2:=hk _ _ _ (az hρ hT hp)
 obtain⟨u,hu,hR⟩:=sv hK hS hm hz h1 hi k true
 simp only[execOp,ho,h2,Sem.run_bind,hu,Result.andThen_ok,Sem.run_pure,if_true]
 refine br (.tuple #[u,.bool (dr k l).isSome] _ rfl fun i x p k1 k2=>?_)
 match i,k1,k2 with
 |0,k1,k2=>cases k1;cases k2;rw[←hr];exact hR
 |1,k1,k2=>cases k1;cases k2;rw[hq];exact .raw _
 |_+2,_,k2=>simp at k2
theorem nu{α:Type}(a:Array α)(i j:Nat)(v:α):(a.setIfInBounds i v)[j]? =if i=j∧i<a.size then some v else a[j]? :=by
 rw[Array.getElem?_setIfInBounds]
 by_cases h:i=j
 ·subst h
  by_cases h2:i<a.size
  ·simp[h2]
  ·simp[h2]
 ·simp[h]
theorem nY(hK:ir P kt enc){i mt et:Nat}{x ix y:Operand}{l:List (κ×PV)}{k:κ}{pk p:PV}(ho:o.op= .mapUpdate mt x ix y)(hm:uJ P mt=some (kt,et))(hx:aE t x=some (.own i))(hi:σ[i]? =some (some (.mp (fM enc l))))(hp:aE t ix=some pk)(hk:wW pk (enc k))(hy:aE t y=some p):
  cM P σ t o (.raw undef) (σ.set i (some (.mp (fM enc (iu k p l))))):=by
 intro F base E ρ w hρ hS hT
 have h1:=az hρ hT hx
 have h2:=hk _ _ _ (az hρ hT hp)
 have h3:=az hρ hT hy
 generalize hz:ρ x=v at h1
 cases h1 with
 |own _ hiL _ hat _=>
  obtain⟨r,es,ck,hr,hb,hheap,hkey,hval⟩:=hS.blk i _ hi
  have hbk:bG (E.at_ i)=some r:=by rw[hr];rfl
  have hsz:r<w.heap.size:=(Array.getElem?_eq_some_iff.1 hheap).1
  rw[hat]at hr
  subst hr
  have hkey':es.toList.map (·.key)=(l.map (·.1)).map enc:=by rw[hkey];simp[fM]
  have hf:=vz hK k w (l.map (·.1)) es.toList hkey'
  have hvl:(fM enc l).map (·.2)=l.map (·.2):=by simp[fM]
  rw[hvl]at hval
  have fin:∀(es':Array MapEntry) (ck':Nat),(Instr.mapUpdate mt (.map (some r)) (enc k) (ρ y)).run P w= .ok () {w with heap:=w.heap.setIfInBounds r (.map es' ck')}→
    es'.toList.map (·.key)=(iu k p l).map (fun a=>enc a.1)→aZ E w (es'.toList.map (·.val)) ((iu k p l).map (·.2))→
    ∃v w' E',((execOp ρ o).run P w= .ok (.value v) w'∨(v=undef∧(execOp ρ o).run P w= .ok .skip w'))∧Sat F base (σ.set i (some (.mp (fM enc (iu k p l))))) E' w'∧cZ E w E' w'∧Below base w w'∧cD E' w' v (.raw undef):=fun es' ck' hrun hk' hv'=>by
   have oth:∀j,j<w.heap.size→j≠r→({w with heap:=w.heap.setIfInBounds r (.map es' ck')}:World).heap[j]? =w.heap[j]? :=fun j _ hj=>by
    show(w.heap.setIfInBounds r (.map es' ck'))[j]? =_
    rw[nu,if_neg (by rintro⟨rfl,_⟩;exact hj rfl)]
   have hs':w.heap.size≤({w with heap:=w.heap.setIfInBounds r (.map es' ck')}:World).heap.size:=by simp
   have hrM:E.M r:=(hS.mm r).2 (.inr ⟨i,_,hi,hbk⟩)
   have g:cZ E w E {w with heap:=w.heap.setIfInBounds r (.map es' ck')}:=⟨Nat.le_refl _,fun _ _=>rfl,fun _ _ h=>h,hs',fun j hj hM=>oth j hj (fun e=>hM (by rw[e];exact hrM))⟩
   have hn:=hS.Dm (bi':=.mp (fM enc (iu k p l))) hi hbk hs' oth ⟨r,es',ck',hat,hb,by
     show(w.heap.setIfInBounds r (.map es' ck'))[r]? =_
     rw[nu,if_pos ⟨rfl,hsz⟩],by rw[hk'];simp[fM],by
     have:(fM enc (iu k p l)).map (·.2)=(iu k p l).map (·.2):=by simp[fM]
     rw[this];exact hv'.goes g⟩
   refine⟨undef,_,E,.inr ⟨rfl,?_⟩,hn.1,hn.2,⟨rfl,rfl,rfl,hs',fun j hj=>oth j (Nat.lt_of_lt_of_le hj hS.bl) (by omega)⟩,.raw _⟩
   simp only[execOp,ho,hz,h2,Sem.run_bind,hrun,Result.andThen_ok,Sem.run_pure]
  have hsm:=Be (k:=k) (p:=p) (l:=l)
  cases hfi:fV k (l.map (·.1)) 0 with
  |none=>
   rw[hfi]at hf hsm
   simp only[Option.bind_none]at hf hsm
   refine fin (es.push {key:=enc k,val:=ρ y,born:=ck}) (ck+1) ?_ ?_ ?_
   ·simp only[Instr.mapUpdate,Sem.run_bind,run_underlying (mw hm),Result.andThen_ok,MapKept.run_getObj_map hheap,hK.nH,hf,MapKept.run_setObj_map _ hheap]
   ·rw[hsm];simp[hkey',List.map_map,Function.comp_def]
   ·rw[hsm]
    simp only[Array.toList_push,List.map_append,List.map_cons,List.map_nil]
    exact hval.append (aZ.cons h3 (aZ.nil _ _))
  |some j=>
   obtain⟨_,hj⟩:=ja hfi
   simp only[Nat.sub_zero]at hj
   have hjl:j<l.length:=by have:=(List.getElem?_eq_some_iff.1 hj).1;simpa using this
   have hje:j<es.toList.length:=by have:=congrArg List.length hkey';simp at this;rw[Array.length_toList];omega
   have hje':j<es.size:=by simpa using hje
   have hlj:l[j].1=k:=by have:=List.getElem?_eq_some_iff.1 hj;obtain⟨h,e⟩:=this;simpa using e
   have hkj:es[j].key=enc k:=by
    have:=congrArg (·[j]?) hkey'
    simp only[List.getElem?_map,List.getElem?_eq_getElem hje,List.getElem?_eq_getElem hjl,Option.map_some,Option.some.injEq,hlj]at this
    simpa using this
   rw[hfi]at hf hsm
   simp only[Option.bind_some,List.getElem?_eq_getElem hje,Option.map_some]at hf hsm
   refine fin (es.modify j fun e=> {e with key:=enc k,val:=ρ y}) ck ?_ ?_ ?_
   ·have hks:(Instr.keyThatStays ((Option.map (fun x=>x.key) es[j]?).getD (enc k)) (enc k)).run P w= .ok (enc k) w:=by
     rw[Array.getElem?_eq_getElem hje',Option.map_some,Option.getD_some,hkj]
     simp only[Instr.keyThatStays,hK.bits,if_true,Sem.run_pure]
    simp only[Instr.mapUpdate,Sem.run_bind,run_underlying (mw hm),Result.andThen_ok,MapKept.run_getObj_map hheap,hK.nH,hf,hks,MapKept.run_setObj_map _ hheap]
   ·rw[hsm]
    refine List.ext_getElem? fun n=>?_
    simp only[List.getElem?_map,Array.getElem?_toList,Array.getElem?_modify,List.getElem?_set]
    by_cases hn:j=n
    ·subst hn
     simp[hje',hjl]
    ·have:=congrArg (·[n]?) hkey'
     simp only[List.getElem?_map,Array.getElem?_toList]at this
     simp only[if_neg hn,this,Option.map_map,Function.comp_def]
   ·rw[hsm]
    have hR:=hval.set j h3
    have e1:(es.modify j fun e=> {e with key:=enc k,val:=ρ y}).toList.map (·.val)=(es.toList.map (·.val)).set j (ρ y):=by
     refine List.ext_getElem? fun n=>?_
     simp only[List.getElem?_map,Array.getElem?_toList,Array.getElem?_modify,List.getElem?_set]
     by_cases hn:j=n
     ·subst hn
      simp[hje']
     ·simp only[if_neg hn]
    have e2:(l.set j (k,p)).map (·.2)=(l.map (·.2)).set j p:=by rw[List.map_set]
    rw[e1,e2]
    exact hR
omit [DecidableEq κ] in
theorem oz{mt:TypeId}(enc:κ→Value)(ho:o.op= .makeMap mt none):cM P σ t o (.own σ.length) (σ++[some (.mp (fM enc ([]:List (κ×PV))))]):=by
 intro F base E ρ w hρ hS hT
 have hr:(execOp ρ o).run P w= .ok (.value (.map (some w.heap.size))) (w.alloc (.map #[] 0)):=by
  simp[execOp,ho,Instr.makeMap]
 have hE:Ext w (w.alloc (.map #[] 0)):=(Ext.refl w).alloc _
 have hp:=hS.push hE (v:=.map (some w.heap.size)) (blk:=.mp (fM enc ([]:List (κ×PV)))) (fun b h=>by simp[bG]at h;omega) ⟨w.heap.size,#[],0,rfl,hS.bl,heap_alloc_new _ _,rfl,aZ.nil _ _⟩
 exact⟨_,_,_,.inl hr,hp.1,hp.2,Below.iC hE hS.bl,.own σ.length (by simp[Env.push,hS.len]) _ (by simp[Env.push,hS.len]) rfl⟩
end
section
variable {P:Program} {σ:cg} {t:b9} {o:Oper} {N L:Nat}
def I5(Q:Exit→St→Prop):Exit→St→Prop
 | .goto _,_=>False
 |e,s=>Q e s
theorem zo{c:Code}{st:St}{Q:Exit→St→Prop}(h:W P N L c st (I5 Q)):W P N L (.scope c) st Q:=fun F base E₀ w₀ E a w hc hs=>by
 refine wp_scope_straight (wp_mono (h F base E₀ w₀ E a w hc hs) ?_)
 rintro e a' w' ⟨s,E',h1,h2⟩
 cases e with
 |goto l=>exact h1.elim
 |normal=>exact⟨s,E',h1,h2⟩
 |exit _=>exact⟨s,E',h1,h2⟩
 |ret=>exact⟨s,E',h1,h2⟩
 |panic _=>exact⟨s,E',h1,h2⟩
 |outgrown=>exact⟨s,E',h1,h2⟩
theorem yZ{l:Nat}{st:St}{Q:Exit→St→Prop}(h:Q .normal st):W P N L (.label l) st Q:=fun _ _ _ _ E _ _ hc hs=>wp_label ⟨st,E,h,hs,hc.g,hc.b⟩
theorem sL{x:Operand}{k:Nat}{xs:List PV}{p:PV}(ho:o.op= .extract x k)(hx:aE t x=some (.tuple xs))(hp:xs[k]? =some p):lM P t o p:=fun E ρ w hρ hT=>by
 have h1:=az hρ hT hx
 generalize hz:ρ x=z at h1
 cases h1 with
 |tuple cs _ hl hr=>
  obtain⟨c,hcc,hcr⟩:=aZ.get (E:=E) (w:=w) (cs:=cs.toList) ⟨by simpa using hl,fun i x u h1 h2=>hr i x u (by simpa using h1) h2⟩ hp
  have hcc':cs[k]? =some c:=by simpa using hcc
  exact⟨c,fun w'=>by simp only[execOp,ho,hz,Instr.extract,hcc',Sem.run_bind,Sem.run_pure,Result.andThen_ok],hcr⟩
theorem sA{x y:Operand}{ats:Array TypeId}{a b c:Int}(ho:o.op= .call {callee:=.builtin .min,args:= #[x,y],argTypes:=ats})(hx:aE t x=some (.raw (.int .i64 a)))(hy:aE t y=some (.raw (.int .i64 b)))(hc:min a b=c):bp P σ t o (.raw (.int .i64 c)):=by
 intro F base E ρ w hρ _ hT
 have h1:=az hρ hT hx
 have h2:=az hρ hT hy
 generalize hz:ρ x=z at h1
 generalize hz':ρ y=z' at h2
 cases h1
 cases h2
 have he:(if b<a then b else a)=c:=by rw[←hc];by_cases h:b<a<;>simp[h]<;>omega
 simp[execOp,ho,resolve,invoke,builtin,Builtin.min_,Builtin.min2,hz,hz',he]
 exact br (.raw _)
def vZ(P:Program)(ty:TypeId):Bool:=match P.underlying ty with|some (.slice _)=>true|_=>false
theorem o4{ty:TypeId}(h:vZ P ty=true):∃e,P.underlying ty=some (.slice e):=by
 unfold vZ at h
 split at h
 ·rename_i e hu;exact⟨e,hu⟩
 ·cases h
theorem Gi{x y:Operand}{ty tz:TypeId}(ho:o.op= .binOp .eql ty x y tz)(hk:vZ P ty=true)(hx:aE t x=some (.raw (.slice none 0 0)))(hy:aE t y=some (.raw (.slice none 0 0))):bp P σ t o (.raw (.bool true)):=by
 obtain⟨e,hu⟩:=o4 hk
 refine vW ho hx hy fun w=>?_
 have:=Lib.run_eql_slice_nil w ty e none 0 0 0 0 hu
 have hg:∀a n c b m d,(eqGuard .eql ty x y (.slice a n c) (.slice b m d)).run P w= .ok () w:=fun _ _ _ _ _ _=>rfl
 simp only[Sem.run_bind,hg,Result.andThen_ok,this]
 rfl
theorem oq{x y:Operand}{ty tz:TypeId}{n:Nat}{xs:List PV}(ho:o.op= .binOp .eql ty x y tz)(hk:vZ P ty=true)(hx:aE t x=some (.slice n xs))(hy:aE t y=some (.raw (.slice none 0 0)))(hn:0<n):bp P σ t o (.raw (.bool false)):=by
 obtain⟨e,hu⟩:=o4 hk
 intro F base E ρ w hρ _ hT
 have h1:=az hρ hT hx
 have h2:=az hρ hT hy
 generalize hz:ρ x=z at h1
 generalize hz':ρ y=z' at h2
 cases h2
 have hv:∃a c,z= .slice (some a) n c:=by
  cases h1 with
  |bO=>omega
  |empty=>omega
  |slice b off _ c cs _ h0=>exact⟨_,_,rfl⟩
 obtain⟨a,c,rfl⟩:=hv
 have:=Lib.run_eql_slice_nil w ty e (some a) n c 0 0 hu
 have hg:∀a n c b m d,(eqGuard .eql ty x y (.slice a n c) (.slice b m d)).run P w= .ok () w:=fun _ _ _ _ _ _=>rfl
 simp only[execOp,ho,hz,hz',Sem.run_bind,Sem.run_pure,Result.andThen_ok,hg,this]
 exact br (.raw _)
end
end PW
end Go.Proofs.YtnegbdpggideiaaGreatDoor
namespace Go.Proofs.YtnegbdpggideiaaGreatDoor
namespace PW
open Go.RowKit cH Mem Net
theorem bV.ze{P:Program}{f:FuncId}{ps:List PV}{σ:cg}{R:PV→Prop}(h:Can P f ps R)[aL ps]:bV P f ps σ (fun r σ'=>R r∧σ'=σ):=fun F base E w vs hS hR=>by
 refine(h E.M w vs (fun b hb=>hS.lt hb) hS.gl (hR.pure (fun _ h=>h))).mono ?_
 rintro e w' ⟨v,rfl,hE,r,hr,hv⟩
 exact⟨v,r,σ,E,rfl,⟨hr,rfl⟩,hS.ext hE,.ext hE,Below.iC hE hS.bl,hv.back⟩
section
variable {T:an} {D:List Bool} {d:Nat}
structure ug (T:an) (D:List Bool) (d:Nat) (O:List Int):Prop where
 nodup:O.Nodup
 mem:∀x,x∈O↔∃k:Nat,x=(k:Int)∧(k:Int)<T.nodes∧0≤dN T D d k
 pair:O.Pairwise fun x y=>dN T D d y.toNat≤dN T D d x.toNat
theorem ug.of(hv:av T=true)(hd:(d:Int)<T.nodes){O:List Int}(h1:O.Perm (oU (bE T D d false) (bE T D d false).length))(h2:O.Pairwise (sS (bE T D d false))):ug T D d O:=by
 obtain⟨hb1,_⟩:=cW (D:=D) hv (dir:=false) hd
 refine⟨h1.nodup_iff.2 (ym _ _),fun x=>?_,h2.imp fun {x y} h=>?_⟩
 ·rw[h1.mem_iff,wk]
  constructor
  ·rintro⟨k,e,h3,h4⟩;exact⟨k,e,by omega,h4⟩
  ·rintro⟨k,e,h3,h4⟩;exact⟨k,e,by omega,h4⟩
 ·unfold sS at h
  show(bE T D d false).getD _ 0≤(bE T D d false).getD _ 0
  omega
noncomputable def iF(T:an)(D:List Bool)(d:Nat)(c:Int)(l:List Int):Int:=l.foldl (fun c a=>min 2 (c+dF T D d (bb T a.toNat).toNat)) c
structure nj (T:an) (D:List Bool) (d:Nat) (R cs:List Int) (i:Nat):Prop where
 len:(cs.length:Int)=T.nodes
 val:∀m:Nat,(m:Int)<T.nodes→cs.getD m 0=if m=d then 1 else if(m:Int)∈R.take i then dF T D d m else 0
theorem nj.start(hd:(d:Int)<T.nodes)(R:List Int):nj T D d R ((List.replicate T.nodes.toNat 0).set d 1) 0:=by
 refine⟨by simp;omega,fun m hm=>?_⟩
 rw[List.getD_eq_getElem?_getD,List.getElem?_set]
 by_cases h:d=m
 ·subst h;rw[if_pos rfl,if_pos (by simp;omega),if_pos rfl];rfl
 ·rw[if_neg h,if_neg (fun e=>h e.symm),List.getElem?_replicate,if_pos (by omega)];rfl
theorem nj.next(hv:av T=true)(hd:(d:Int)<T.nodes){O cs:List Int}{i m a y:Nat}(hO:ug T D d O)(h:nj T D d O.reverse cs i)(hi:i<O.reverse.length)(hm:O.reverse.getD i 0=(m:Int))(ha:(a:Int)∈bm T D m d)(hy:bb T a=(y:Int)):cs.getD y 0=dF T D d y∧y≠m∧(y:Int)<T.nodes:=by
 obtain⟨b,hb,hn⟩:=dj ha
 have hba:b=a:=by omega
 subst hba
 obtain⟨y',hy',hyN⟩:=du hv hn.iM
 have:y'=y:=by omega
 subst this
 have hdy:=hn.dN hy
 have hc:=(aQ hv).cost b hn.iM
 refine⟨?_,fun e=>by subst e;omega,hyN⟩
 rw[h.val y' hyN]
 by_cases hyd:y'=d
 ·subst hyd;rw[if_pos rfl,nC]
 ·rw[if_neg hyd,if_pos ?_]
  have hyO:(y':Int)∈O.reverse:=List.mem_reverse.2 ((hO.mem _).2 ⟨y',rfl,hyN,hdy.1⟩)
  have hs:O.reverse=O.reverse.take i++(m:Int)::O.reverse.drop (i+1):=by rw[←hm,←drop_cons _ _ hi,List.take_append_drop]
  have hp:O.reverse.Pairwise fun x y=>dN T D d x.toNat≤dN T D d y.toNat:=List.pairwise_reverse.2 hO.pair
  rw[hs]at hp hyO
  rcases List.mem_append.1 hyO with h1|h1
  ·exact h1
  ·exfalso
   have hp2:=(List.pairwise_append.1 hp).2.1
   rcases List.mem_cons.1 h1 with h2|h2
   ·have:y'=m:=by omega
    subst this;omega
   ·have:=(List.pairwise_cons.1 hp2).1 _ h2
    simp only[Int.toNat_natCast]at this
    omega
theorem nj.fresh{O cs:List Int}{i m:Nat}(hO:ug T D d O)(h:nj T D d O.reverse cs i)(hi:i<O.reverse.length)(hm:O.reverse.getD i 0=(m:Int)):(m:Int)<T.nodes∧0≤dN T D d m∧cs.getD m 0=if m=d then 1 else 0:=by
 have hmO:(m:Int)∈O.reverse:=by rw[←hm];exact bR hi
 obtain⟨k,hk,hkN,hk0⟩:=(hO.mem _).1 (List.mem_reverse.1 hmO)
 have:k=m:=by omega
 subst this
 refine⟨hkN,hk0,?_⟩
 rw[h.val k hkN]
 have hs:O.reverse=O.reverse.take i++(k:Int)::O.reverse.drop (i+1):=by rw[←hm,←drop_cons _ _ hi,List.take_append_drop]
 have hn:O.reverse.Nodup:=List.pairwise_reverse.2 (hO.nodup.imp fun h=>fun e=>h e.symm)
 rw[hs]at hn
 have hnot:¬(k:Int)∈O.reverse.take i:=fun h1=>(List.pairwise_append.1 hn).2.2 _ h1 (k:Int) (by simp) rfl
 rw[if_neg hnot]
theorem nj.step(hv:av T=true)(hd:(d:Int)<T.nodes){O cs:List Int}{i m:Nat}(hO:ug T D d O)(h:nj T D d O.reverse cs i)(hi:i<O.reverse.length)(hm:O.reverse.getD i 0=(m:Int)):nj T D d O.reverse (cs.set m (iF T D d (cs.getD m 0) (bm T D m d))) (i+1):=by
 obtain⟨hmN,_,hf⟩:=h.fresh hO hi hm
 have hml:m<cs.length:=by have:=h.len;omega
 refine⟨by simpa using h.len,fun x hx=>?_⟩
 rw[List.getD_eq_getElem?_getD,List.getElem?_set,cX _ _ 0 hi,hm]
 by_cases hxm:m=x
 ·subst hxm
  rw[if_pos rfl,if_pos hml,Option.getD_some,hf]
  by_cases hmd:m=d
  ·subst hmd;rw[if_pos rfl,if_pos rfl,iV];rfl
  ·rw[if_neg hmd,if_neg hmd,if_pos (by simp),rv hv hd hmN hmd];rfl
 ·rw[if_neg hxm,←List.getD_eq_getElem?_getD,h.val x hx]
  by_cases hxd:x=d
  ·rw[if_pos hxd,if_pos hxd]
  ·rw[if_neg hxd,if_neg hxd]
   have:(x:Int)∈O.reverse.take i++[(m:Int)]↔(x:Int)∈O.reverse.take i:=by
    simp only[List.mem_append,List.mem_singleton]
    exact⟨fun h=>h.elim id (fun e=>absurd e (by omega)),.inl⟩
   by_cases h1:(x:Int)∈O.reverse.take i
   ·rw[if_pos h1,if_pos (this.2 h1)]
   ·rw[if_neg h1,if_neg (fun h2=>h1 (this.1 h2))]
theorem nj.done(hv:av T=true)(hd:(d:Int)<T.nodes){O cs:List Int}{n:Nat}(hO:ug T D d O)(h:nj T D d O.reverse cs O.reverse.length)(hn:(n:Int)<T.nodes):cs.getD n 0=dF T D d n:=by
 rw[h.val n hn,List.take_length]
 by_cases hnd:n=d
 ·subst hnd;rw[if_pos rfl,nC]
 ·rw[if_neg hnd]
  by_cases h1:(n:Int)∈O.reverse
  ·rw[if_pos h1]
  ·rw[if_neg h1]
   refine(zr hv hd hn (Int.not_le.1 fun h0=>h1 (List.mem_reverse.2 ((hO.mem _).2 ⟨n,rfl,hn,h0⟩)))).symm
theorem re(c:Int):iF T D d c []=c:=rfl
theorem qX(c:Int)(l:List Int)(k a:Nat)(hk:k<l.length)(ha:l.getD k 0=(a:Int)):iF T D d c (l.take (k+1))=min 2 (iF T D d c (l.take k)+dF T D d (bb T a).toNat):=by
 unfold iF
 rw[cX _ _ 0 hk,List.foldl_append,ha]
 rfl
theorem ph(hv:av T=true)(hd:(d:Int)<T.nodes)(c:Int)(h0:0≤c)(h2:c≤2)(l:List Int):0≤iF T D d c l∧iF T D d c l≤2:=nE _ (fun a=>(jg hv hd _).1) l c h0 h2
theorem we(cs:List Int)(m:Nat)(hm:m<cs.length):cs.set m (cs.getD m 0)=cs:=by
 rw[List.getD_eq_getElem?_getD,List.getElem?_eq_getElem hm,Option.getD_some,List.set_getElem_self]
end
def yD(T:an)(D:List Bool)(n d:Int)(c:Int):PV:=.tuple [num (if bQ T D n d=0 then c else 0),num (bQ T D n d)]
set_option maxHeartbeats 2000000 in
theorem As(T:an)(D:List Bool)(n d:Int)(h12:T.nodes≤12):Can Tryz.prog 178 [aJ T,aM D,num n,num d,num 2] (· =yD T D n d (dF T D d.toNat n.toNat)):=by
 refine aF Tryz.func178 rfl Tryz.ntmps178 rfl<|ab (.a 3 rfl<|.k [1,2,3,4,5] rfl)<|ab (.a 4 rfl<|.c rfl (sQ T D n d) rfl<|.a 5 rfl<|.k [1,2,3,4,5,12,13] rfl)<|aj<|ab (.a 2 rfl<|.k [1,2,3,4,5,12,13,31] rfl)<|af rfl (fun hc=>?_) (fun hc=>?_)
 ·have he:bQ T D n d≠0:=tt hc
  exact ab (.a 3 rfl<|.k [10,11] rfl)<|ao<|⟨_,_,aA.of rfl,ax.pure,by unfold yD;rw[if_neg he];rfl⟩
 ·have he:bQ T D n d=0:=Classical.byContradiction (ff hc)
  rw[he]
  obtain⟨hv,hf,hn,hd⟩:=eH he
  rw[aO]at hn hd
  obtain⟨n,rfl⟩:=Int.eq_ofNat_of_zero_le hn.1
  obtain⟨d,rfl⟩:=Int.eq_ofNat_of_zero_le hd.1
  have hn:=hn.2
  have hd:=hd.2
  have hll:=bJ hv
  have hS:=aQ hv
  obtain⟨hb1,hb2⟩:=cW (D:=D) hv (dir:=false) hd
  obtain⟨N,hN⟩:∃N:Nat,T.nodes=(N:Int):=⟨T.nodes.toNat,by omega⟩
  have hNt:T.nodes.toNat=N:=by omega
  refine ak<|aj<|ab (.a 2 rfl<|.k [1,2,3,4,5,12,34] rfl)<|af rfl (fun hc=>?_) (fun hc=>?_)
  ·cases hc
  ·refine ak<|ab (.a 1 rfl<|.c rfl (kX T hv) rfl<|.a 1 rfl<|.k [1,2,3,4,5,12,14] rfl)<|aH<|aq 2 rfl<|cf (cF rfl (bF.rk.get rfl) rfl rfl hN hN ⟨by unfold maxLen;omega,by omega⟩) rfl<|aq 1 rfl<|aD [1,2,3,4,5,12,14,15] rfl ?_
   refine ei (σ':=[dT (List.replicate N 0)]) (by unfold dT;rw[List.length_replicate,←cJ];rfl) ?_
   refine aH<|aq 3 rfl<|bA (sA (c:=1) rfl rfl rfl rfl) rfl<|bA (aI (d) rfl (by omega) (by rw[List.length_replicate];omega)) rfl<|bh ((by first|exact bH rfl (bF.tk.get rfl) rfl rfl rfl (by first|omega|(simp;omega))|exact aS rfl (bF.tk.get rfl) rfl rfl rfl (by first|omega|(simp;omega)))) rfl rfl<|aD [1,2,3,4,5,12,14,15] rfl ?_
   refine ei (σ':=[dT ((List.replicate T.nodes.toNat 0).set d 1)]) ?_ ?_
   ·rw[hNt];unfold dT;simp only[List.length_set,List.length_replicate];rfl
   have hI0:=nj.start (D:=D) hd
   generalize (List.replicate T.nodes.toNat (0:Int)).set d 1=cs0 at hI0
   refine aH<|aq 1 rfl<|cP rfl rfl (bV.mono (ye (bE T D d false) cs0 (by omega)) (fun _ σ' h=>?_))
   obtain⟨O,hO1,hO2,rfl,rfl⟩:=h
   refine aq 1 rfl<|aD [1,2,3,4,5,12,14,15,16] rfl ?_
   have hO:=ug.of hv hd hO1 hO2
   have hOl:O.length≤12:=by have:=hO1.length_eq;have:=wN (bE T D d false) (bE T D d false).length;omega
   refine aH<|aq 1 rfl<|cP rfl rfl (bV.mono (wX O (dT cs0) hOl) (fun _ σ' h=>?_))
   subst h
   refine aD [1,2,3,4,5,12,14,15,16] rfl ?_
   refine aj<|ab (.a 3 rfl<|.k [1,2,3,4,5,12,14,15,49,50,51] rfl)<|au<|ee [1,2,3,4,5,12,14,15,49,50,51] rfl<|bf (fun r st=>∃(cs:List Int) (i:Nat),i≤O.reverse.length∧r=O.reverse.length - i∧nj T D d O.reverse cs i∧st=⟨[(1,aM D),(2,num n),(3,num d),(4,num 2),(5,.aX (bn T) 0),(12,aw (bE T D d false)),(14,jb (dA (bw T) T.nodes.toNat (2*T.ag.length))),(15,.own 0),(49,.own 1),(50,num O.reverse.length),(51,num i)],[dT cs,dT O.reverse]⟩) O.reverse.length ⟨cs0,0,by omega,by omega,hI0 _,rfl⟩ ?_
   rintro r st ⟨cs,i,hi,rfl,hI,rfl⟩
   have hRl:O.reverse.length≤12:=by simpa using hOl
   refine ab (.a 1 rfl<|.k [1,2,3,4,5,12,14,15,49,50,51,52] rfl)<|aj<|af rfl (fun hx=>?_) (fun hx=>?_)
   ·have hlt:i<O.reverse.length:=by have:=tt hx;omega
    obtain⟨m,hm⟩:∃m:Nat,O.reverse.getD i 0=(m:Int):=by
     obtain⟨k,hk,_⟩:=(hO.mem _).1 (List.mem_reverse.1 (bR (d:=0) hlt))
     exact⟨k,hk⟩
    obtain⟨hmN,hm0,hf0⟩:=hI.fresh hO hlt hm
    have hcl:=hI.len
    have hrow:=wC T m (by omega)
    have hnx:=sz T D (bE T D d false) (bC T m) m d hv hf hb1 hb2 hmN hd (fun a ha=>jl ha) (Nat.le_trans (dB T m _) (by omega))
    have hnx:Can Tryz.prog 148 [aJ T,aM D,aw (bE T D d false),aw (bC T m),num m,num d] (· =aw (bm T D m d)):=hnx
    have hnl:(bm T D m d).length≤512:=by
     have h1:(bm T D m d).length≤(bC T m).length:=by unfold bm jC;split;simp;exact List.length_filter_le _ _
     exact Nat.le_trans h1 (Nat.le_trans (dB T m _) (by omega))
    have hset:=we cs m (by omega)
    have hcr:0≤cs.getD m 0∧cs.getD m 0≤2:=by rw[hf0];split<;>omega
    refine ak<|aj<|au<|ab (.v (aI (i) rfl) rfl<|.v (aK rfl ((ay _ i hlt).trans (by rw[hm]))) rfl<|.a 1 rfl<|.k [1,2,3,4,5,12,14,15,18,49,50,51] rfl)<|dH mixed (by kernel_rfl) (.a 5 rfl<|.v [58,59] (aI (m) rfl (by omega) (by rw[eQ];omega)) rfl rfl<|.v [60] (aK rfl ((sV _ m (by rw[eQ];omega)).trans (by rw[hrow]))) rfl rfl<|.a 2 rfl<|.v [55,56,57,61,62,63] (dw rfl (hnx)) rfl rfl<|.a 2 rfl<|.k [1,2,3,4,5,12,14,15,18,49,50,51,64,65,66] rfl) ?_
    refine au<|ee [1,2,3,4,5,12,14,15,18,49,50,51,64,65,66] rfl<|bf (fun r st=>∃k:Nat,k≤(bm T D m d).length∧r=(bm T D m d).length - k∧st=⟨[(1,aM D),(2,num n),(3,num d),(4,num 2),(5,.aX (bn T) 0),(12,aw (bE T D d false)),(14,jb (dA (bw T) T.nodes.toNat (2*T.ag.length))),(15,.own 0),(18,num m),(49,.own 1),(50,num O.reverse.length),(51,num i),(64,aw (bm T D m d)),(65,num (bm T D m d).length),(66,num k)],[dT (cs.set m (iF T D d (cs.getD m 0) ((bm T D m d).take k))),dT O.reverse]⟩) (bm T D m d).length ⟨0,by omega,by omega,by rw[List.take_zero,re,hset];rfl⟩ ?_
    rintro r st ⟨k,hk,rfl,rfl⟩
    have hfr:=ph (D:=D) hv hd (cs.getD m 0) hcr.1 hcr.2 ((bm T D m d).take k)
    have hfst:=qX (T:=T) (D:=D) (d:=d) (cs.getD m 0) (bm T D m d) k
    generalize hd12:iF T D d (cs.getD m 0) ((bm T D m d).take k)=c at hfr hfst
    refine ab (.a 1 rfl<|.k [1,2,3,4,5,12,14,15,18,49,50,51,64,65,66,67] rfl)<|aj<|af rfl (fun hy=>?_) (fun hy=>?_)
    ·have hkl:k<(bm T D m d).length:=by have:=tt hy;omega
     obtain⟨a,ha,han⟩:=dj (bR (d:=0) hkl)
     have hmem:(a:Int)∈bm T D m d:=by rw[←ha];exact bR hkl
     obtain⟨y,hyh,hyN⟩:=du hv han.iM
     obtain⟨hcy,hym,_⟩:=hI.next hv hd hO hlt hm hmem hyh
     have hh:=fA T a han.iM (by omega)
     rw[hyh]at hh
     have hcyr:=jg (D:=D) hv hd y
     have hg1:(cs.set m c).getD y 0=dF T D d y:=by rw[←hcy,List.getD_eq_getElem?_getD,List.getElem?_set,if_neg (fun e=>hym e.symm),←List.getD_eq_getElem?_getD]
     have hg2:(cs.set m c).getD m 0=c:=by rw[List.getD_eq_getElem?_getD,List.getElem?_set,if_pos rfl,if_pos (by omega)];rfl
     have hfst:=hfst a hkl ha
     rw[hyh,Int.toNat_natCast]at hfst
     refine ak<|aj<|au<|ab (.v (aI (k) rfl) rfl<|.v (aK rfl ((ay _ k hkl).trans (by rw[ha]))) rfl<|.a 1 rfl<|.k [1,2,3,4,5,12,14,15,18,20,49,50,51,64,65,66] rfl)<|ab (.a 3 rfl<|.c rfl (hh) rfl<|.v (aI (y) rfl (by omega) (by simp only[List.length_set];omega)) rfl<|.v (aK rfl ((ay _ y (by simp only[List.length_set];omega)).trans (by rw[hg1]))) rfl<|.a 1 rfl<|.k [1,2,3,4,5,12,14,15,18,21,49,50,51,64,65,66] rfl)<|ab (.a 4 rfl<|.v (aI (m) rfl (by omega) (by simp only[List.length_set];omega)) rfl<|.v (aK rfl ((ay _ m (by simp only[List.length_set];omega)).trans (by rw[hg2]))) rfl<|.v (aP rfl) rfl<|.a 1 rfl<|.k [1,2,3,4,5,12,14,15,18,21,49,50,51,64,65,66,83] rfl)<|af rfl (fun hz=>?_) (fun hz=>?_)
     ·have hv2:iF T D d (cs.getD m 0) ((bm T D m d).take (k+1))=2:=by have:=tt hz;omega
      refine bq<|aq 3 rfl<|bA (aI (m) rfl (by omega) (by simp only[List.length_set];omega)) rfl<|bh ((by first|exact bH rfl (bF.tk.get rfl) rfl rfl rfl (by first|omega|(simp;omega))|exact aS rfl (bF.tk.get rfl) rfl rfl rfl (by first|omega|(simp;omega)))) rfl rfl<|aD [1,2,3,4,5,12,14,15,18,49,50,51,64,65,66] rfl ?_
      refine aB (.v (aP rfl) rfl<|.a 1 rfl<|.k [1,2,3,4,5,12,14,15,18,49,50,51,64,65,66] rfl) ?_
      refine⟨(bm T D m d).length - (k+1),by omega,k+1,by omega,rfl,?_⟩
      rw[hv2]
      unfold dT
      simp only[List.length_set,List.set_set]
      rfl
     ·have hv2:iF T D d (cs.getD m 0) ((bm T D m d).take (k+1))=c+dF T D d y:=by have:=ff hz;omega
      refine bq<|aq 2 rfl<|bA (aI (m) rfl (by omega) (by simp only[List.length_set];omega)) rfl<|bA (aK rfl ((ay _ m (by simp only[List.length_set];omega)).trans (by rw[hg2]))) rfl<|aq 1 rfl<|bA (aP rfl) rfl<|bA (aI (m) rfl (by omega) (by simp only[List.length_set];omega)) rfl<|bh ((by first|exact bH rfl (bF.tk.get rfl) rfl rfl rfl (by first|omega|(simp;omega))|exact aS rfl (bF.tk.get rfl) rfl rfl rfl (by first|omega|(simp;omega)))) rfl rfl<|aD [1,2,3,4,5,12,14,15,18,49,50,51,64,65,66] rfl ?_
      refine aB (.v (aP rfl) rfl<|.a 1 rfl<|.k [1,2,3,4,5,12,14,15,18,49,50,51,64,65,66] rfl) ?_
      refine⟨(bm T D m d).length - (k+1),by omega,k+1,by omega,rfl,?_⟩
      rw[hv2]
      unfold dT
      simp only[List.length_set,List.set_set]
      rfl
    ·have hke:k=(bm T D m d).length:=by have:=ff hy;omega
     refine aY<|aB (.v (aP rfl) rfl<|.a 1 rfl<|.k [1,2,3,4,5,12,14,15,49,50,51] rfl) ?_
     have hI2:=hI.step hv hd hO hlt hm
     rw[hke,List.take_length]at hd12
     exact⟨O.reverse.length - (i+1),by omega,cs.set m (iF T D d (cs.getD m 0) (bm T D m d)),i+1,by omega,rfl,hI2,by rw[hd12];rfl⟩
   ·have hie:i=O.reverse.length:=by have:=ff hx;omega
    subst hie
    have hres:=hI.done hv hd hO hn
    have hcl:=hI.len
    exact aY<|ab (.a 2 rfl<|.v (aI (n) rfl) rfl<|.v (aK rfl ((ay cs n (by omega)).trans (by rw[hres]))) rfl<|.a 2 rfl<|.k [10,11] rfl)<|ao<|⟨_,_,aA.of rfl,ax.pure,by unfold yD;rw[he,if_pos rfl];rfl⟩
theorem sF(T:an)(D:List Bool)(n d:Int):eM T D n d=(decide (bQ T D n d=0)&&decide ((if bQ T D n d=0 then dF T D d.toNat n.toNat else 0)=1)):=by
 unfold eM
 by_cases h:bQ T D n d=0
 ·rw[if_pos h]
 ·simp[h]
set_option maxHeartbeats 2000000 in
theorem qw(T:an)(D:List Bool)(n d:Int)(h12:T.nodes≤12):Can Tryz.prog 152 [aJ T,aM D,num n,num d] (· =flag (eM T D n d)):=by
 rw[sF]
 obtain⟨q1,hq1⟩:∃q,decide (bQ T D n d=0)=q:=⟨_,rfl⟩
 obtain⟨q2,hq2⟩:∃q,decide ((if bQ T D n d=0 then dF T D d.toNat n.toNat else 0)=1)=q:=⟨_,rfl⟩
 rw[hq1,hq2]
 refine aF Tryz.func152 rfl Tryz.ntmps152 rfl<|ab (.a 2 rfl<|.k [1,2,3,4] rfl)<|ab (.a 4 rfl<|.c rfl (As T D n d h12) rfl<|.a 5 rfl<|.k [9,10] rfl)<|bx 8 (.raw (.bool (q1&&q2))) [] rfl ?_ ?_
 ·refine .a 1 rfl<|.v (b7 rfl (hq1)) rfl<|.a 1 rfl<|?_
  cases q1
  ·exact .a 4 rfl<|.k [8] rfl
  ·exact .a 1 rfl<|.v (b7 rfl (hq2)) rfl<|.a 2 rfl<|.k [8] rfl
 exact ao<|⟨_,_,aA.of rfl,ax.pure,rfl⟩
set_option maxHeartbeats 2000000 in
theorem Ee(l:List Int)(n:Int)(hl:l.length≤100000):Can Tryz.prog 210 [aw l,num n] (· =flag (decide (n∈l))):=by
 refine aF Tryz.func210 rfl Tryz.ntmps210 rfl<|ab (.a 1 rfl<|.k [0,1] rfl)<|aj<|ab (.a 1 rfl<|.k [0,1,5] rfl)<|au<|ee [0,1,5] rfl<|bf (fun r st=>∃i:Nat,i≤l.length∧r=l.length - i∧¬n∈l.take i∧st=⟨[(0,aw l),(1,num n),(5,num i)],[]⟩) l.length ⟨0,by omega,by omega,by simp,rfl⟩ ?_
 rintro r st ⟨i,hi,rfl,hno,rfl⟩
 refine aj<|ab (.a 4 rfl<|.k [0,1,5,9] rfl)<|af rfl (fun hc=>?_) (fun hc=>?_)
 ·have hlt:i<l.length:=by have:=tt hc;omega
  refine ak<|aj<|au<|ab (.a 2 rfl<|.v (aI (i) rfl) rfl<|.v (aK rfl (ay l i hlt)) rfl<|.a 2 rfl<|.k [0,1,5,17] rfl)<|af rfl (fun hy=>?_) (fun hy=>?_)
  ·have h1:l.getD i 0=n:=tt hy
   exact ab (.a 1 rfl<|.k [4] rfl)<|ao<|⟨_,_,aA.of rfl,ax.pure,by rw[show decide (n∈l)=true from decide_eq_true (by rw[←h1];exact bR hlt)];rfl⟩
  ·have h1:¬l.getD i 0=n:=ff hy
   refine ak<|aB (.a 1 rfl<|.v (aP rfl) rfl<|.a 1 rfl<|.k [0,1,5] rfl) ?_
   refine⟨l.length - (i+1),by omega,i+1,by omega,rfl,fun h=>?_,rfl⟩
   rw[cX _ _ 0 hlt,List.mem_append,List.mem_singleton]at h
   exact h.elim hno (fun e=>h1 e.symm)
 ·have hie:i=l.length:=by have:=ff hc;omega
  subst hie
  rw[List.take_length]at hno
  exact aY<|ab (.a 1 rfl<|.k [4] rfl)<|ao<|⟨_,_,aA.of rfl,ax.pure,by rw[show decide (n∈l)=false from decide_eq_false hno];rfl⟩
structure o3 (L out:List Int) (i:Nat) (b:Int):Prop where
 none:b<0→∀k:Nat,k<i→0≤L.getD k 0→(k:Int)∈out
 some:∀n:Nat,b=(n:Int)→n<i∧0≤L.getD n 0∧¬(n:Int)∈out∧∀k:Nat,k<i→0≤L.getD k 0→¬(k:Int)∈out→L.getD k 0≤L.getD n 0
theorem o3.start(L out:List Int):o3 L out 0 (-1):=⟨fun _ k h=>by omega,fun n h=>by omega⟩
theorem o3.yes{L out:List Int}{i:Nat}{b:Int}(h:o3 L out i b)(h1:0≤L.getD i 0)(h2:¬(i:Int)∈out)(h3:b<0∨∃n:Nat,b=(n:Int)∧L.getD n 0<L.getD i 0):o3 L out (i+1) i:=by
 refine⟨fun h=>by omega,fun n hn=>?_⟩
 have:n=i:=by omega
 subst this
 refine⟨by omega,h1,h2,fun k hk hk0 hko=>?_⟩
 by_cases hki:k=n
 ·subst hki;omega
 ·rcases h3 with h3|⟨m,hm,hlt⟩
  ·exact absurd (h.none h3 k (by omega) hk0) hko
  ·have:=(h.some m hm).2.2.2 k (by omega) hk0 hko
   omega
theorem o3.no{L out:List Int}{i:Nat}{b:Int}(h:o3 L out i b)(h1:¬(0≤L.getD i 0∧¬(i:Int)∈out∧(b<0∨∃n:Nat,b=(n:Int)∧L.getD n 0<L.getD i 0))):o3 L out (i+1) b:=by
 refine⟨fun hb k hk hk0=>?_,fun n hn=>?_⟩
 ·by_cases hki:k=i
  ·subst hki;exact Classical.byContradiction fun ho=>h1 ⟨hk0,ho,.inl hb⟩
  ·exact h.none hb k (by omega) hk0
 ·obtain⟨a1,a2,a3,a4⟩:=h.some n hn
  refine⟨by omega,a2,a3,fun k hk hk0 hko=>?_⟩
  by_cases hki:k=i
  ·subst hki;exact Int.not_lt.1 fun hl=>h1 ⟨hk0,hko,.inr ⟨n,hn,hl⟩⟩
  ·exact a4 k (by omega) hk0 hko
structure Part (L out:List Int):Prop where
 nodup:out.Nodup
 mem:∀x∈out,∃k:Nat,x=(k:Int)∧k<L.length∧0≤L.getD k 0
 pair:out.Pairwise fun x y=>L.getD y.toNat 0≤L.getD x.toNat 0
 rest:∀x∈out,∀k:Nat,k<L.length→0≤L.getD k 0→¬(k:Int)∈out→L.getD k 0≤L.getD x.toNat 0
theorem Part.len{L out:List Int}(h:Part L out):out.length≤L.length:=by
 have h1:=nA L.length (out.map Int.toNat) (by
  unfold List.Nodup
  rw[List.pairwise_map]
  refine List.Pairwise.imp_of_mem ?_ h.nodup
  intro a b ha hb hne e
  obtain⟨k,rfl,_⟩:=h.mem a ha
  obtain⟨k',rfl,_⟩:=h.mem b hb
  simp only[Int.toNat_natCast]at e
  exact hne (by rw[e])) (fun x hx=>by
  obtain⟨y,hy,rfl⟩:=List.mem_map.1 hx
  obtain⟨k,rfl,hk,_⟩:=h.mem y hy
  simpa using hk)
 simpa using h1
theorem Part.snoc{L out:List Int}{n:Nat}(h:Part L out)(hb:o3 L out L.length n):Part L (out++[(n:Int)]):=by
 obtain⟨a1,a2,a3,a4⟩:=hb.some n rfl
 refine⟨List.pairwise_append.2 ⟨h.nodup,by simp,fun a ha b hb e=>a3 (by simp at hb;rw[←hb,←e];exact ha)⟩,fun x hx=>?_,List.pairwise_append.2 ⟨h.pair,by simp,fun a ha b hb=>?_⟩,fun x hx k hk hk0 hko=>?_⟩
 ·rcases List.mem_append.1 hx with h1|h1
  ·exact h.mem x h1
  ·simp at h1;subst h1;exact⟨n,rfl,a1,a2⟩
 ·simp at hb;subst hb
  exact h.rest a ha n a1 a2 a3
 ·have hko':¬(k:Int)∈out:=fun h=>hko (List.mem_append.2 (.inl h))
  rcases List.mem_append.1 hx with h1|h1
  ·exact h.rest x h1 k hk hk0 hko'
  ·simp at h1;subst h1;rw[Int.toNat_natCast];exact a4 k hk hk0 hko'
def IZ(e:Int)(O:List Int):PV:=.tuple [aw O,num e]
set_option maxHeartbeats 2000000 in
theorem Bl(T:an)(D:List Bool)(d:Nat)(h12:T.nodes≤12)(he:ca T D [(d:Int)]=0):Can Tryz.prog 246 [aJ T,aM D,num d] (fun r=>∃O,ug T D d O∧r=IZ 0 O):=by
 obtain⟨hv,hf,hd⟩:=oC he
 have hd:=(aO.1 (hd d (by simp))).2
 obtain⟨hb1,hb2⟩:=cW (D:=D) hv (dir:=false) hd
 have hrd:=jR T D (d:Int)
 rw[he]at hrd
 have hrd:Can Tryz.prog 36 [aJ T,aM D,num d] (· = .tuple [aw (bE T D d false),num 0]):=hrd
 have hfin:∀out,Part (bE T D d false) out→(∀k:Nat,k<(bE T D d false).length→0≤(bE T D d false).getD k 0→(k:Int)∈out)→ug T D d out:=fun out h h2=>
  ⟨h.nodup,fun x=>⟨fun hx=>by obtain⟨k,e,h3,h4⟩:=h.mem x hx;exact⟨k,e,by omega,h4⟩,by rintro⟨k,rfl,h3,h4⟩;exact h2 k (by omega) h4⟩,h.pair⟩
 generalize hLd:bE T D d false=L at hb1 hb2 hrd hfin
 obtain⟨N,hN⟩:∃N:Nat,T.nodes=(N:Int):=⟨L.length,by omega⟩
 have hNL:L.length=N:=by omega
 refine aF Tryz.func246 rfl Tryz.ntmps246 rfl<|ab (.a 3 rfl<|.k [1,2,3] rfl)<|ab (.a 3 rfl<|.c rfl (hrd) rfl<|.a 5 rfl<|.k [3,8,9] rfl)<|aj<|ab (.a 2 rfl<|.k [3,8,9,21] rfl)<|af rfl (fun hc=>?_) (fun hc=>?_)
 ·cases hc
 ·refine ak<|ab (.a 1 rfl<|.k [3,8,10] rfl)<|eo 10 3 1 rfl ?_
  refine au<|ee [3,8,10] rfl<|bf (fun r st=>∃out,Part L out∧r=N - out.length∧st=⟨[(3,.aX (bn T) 0),(8,aw L),(10,.own 0)],[dT out]⟩) N ⟨[],⟨by simp,by simp,by simp,by simp⟩,by simp,rfl⟩ ?_
  rintro r st ⟨out,hP,rfl,rfl⟩
  have hol:=hP.len
  refine au<|ab (.a 1 rfl<|.k [3,8,10,11] rfl)<|aj<|ab (.a 1 rfl<|.k [3,8,10,11,12] rfl)<|au<|ee [3,8,10,11,12] rfl<|bf (fun r st=>∃(i:Nat) (b:Int),i≤N∧r=N - i∧o3 L out i b∧ -1≤b∧st=⟨[(3,.aX (bn T) 0),(8,aw L),(10,.own 0),(11,num b),(12,num i)],[dT out]⟩) N ⟨0, -1,by omega,by omega,o3.start _ _,by omega,rfl⟩ ?_
  rintro r st ⟨i,b,hi,rfl,hB,hb1',rfl⟩
  refine aj<|ab (.a 2 rfl<|.v (aK rfl ((show some (num T.nodes)=some (num (N:Int)) by rw[hN]))) rfl<|.a 1 rfl<|.k [3,8,10,11,12,26] rfl)<|af rfl (fun hc=>?_) (fun hc=>?_)
  ·have hlt:i<N:=by have:=tt hc;omega
   refine ak<|aj<|au ?_
   obtain⟨p1,hp1⟩:∃q,decide (0≤L.getD i 0)=q:=⟨_,rfl⟩
   obtain⟨p2,hp2⟩:∃q,decide ((i:Int)∈out)=q:=⟨_,rfl⟩
   obtain⟨p3,hp3⟩:∃q,decide (b<0)=q:=⟨_,rfl⟩
   obtain⟨p4,hp4⟩:∃q,decide (L.getD b.toNat 0<L.getD i 0)=q:=⟨_,rfl⟩
   refine kC mixed (by kernel_rfl) 54 (.raw (.bool ((p1&& !p2)&&(p3||p4)))) [3,8,10,11,12] rfl ?_ ?_
   ·refine .a 2 rfl<|.v [29,30] (aI (i) rfl) rfl rfl<|.v [31] (aK rfl (ay L i (by omega))) rfl rfl<|.v [32] (b7 rfl (hp1)) rfl rfl<|.a 1 rfl<|?_
    cases p1
    ·exact .a 20 rfl<|.k [54,3,8,10,11,12] rfl
    ·refine .a 2 rfl<|.v [35,36] (Gl rfl (ai.cons (ax.dX rfl ai.pure) (ai.cons ax.pure ai.nil)) (hp2▸Ee out i (by omega))) rfl rfl<|.a 3 rfl<|?_
     cases p2
     ·refine .a 1 rfl<|.v [41] (b7 rfl (hp3)) rfl rfl<|.a 1 rfl<|?_
      cases p3
      ·exact .a 2 rfl<|.v [44,45] (aI (i) rfl) rfl rfl<|.v [46] (aK rfl (ay L i (by omega))) rfl rfl<|.a 2 rfl<|.v [48,49] (aI (b.toNat) rfl (by have:=ff hp3;omega) (by have:=ff hp3;have:=(hB.some b.toNat (by omega)).1;omega)) rfl rfl<|.v [50] (aK rfl (ay L b.toNat (by have:=ff hp3;have:=(hB.some b.toNat (by omega)).1;omega))) rfl rfl<|.v [47,51] (b7 rfl (hp4)) rfl rfl<|.a 2 rfl<|.k [54,3,8,10,11,12] rfl
      ·exact .a 11 rfl<|.k [54,3,8,10,11,12] rfl
     ·exact .a 14 rfl<|.k [54,3,8,10,11,12] rfl
   refine af rfl (fun hy=>?_) (fun hy=>?_)
   ·have hB2:o3 L out (i+1) i:=by
     simp only[Bool.and_eq_true,Bool.or_eq_true,Bool.not_eq_true']at hy
     obtain⟨⟨e1,e2⟩,e3⟩:=hy
     rw[e1]at hp1
     rw[e2]at hp2
     refine hB.yes (tt hp1) (ff hp2) ?_
     by_cases h0:b<0
     ·exact .inl h0
     ·rcases e3 with e3|e3
      ·rw[e3]at hp3;exact .inl (tt hp3)
      ·rw[e3]at hp4;exact .inr ⟨b.toNat,by omega,tt hp4⟩
    refine aB (.a 2 rfl<|.k [3,8,10,11,12] rfl) ?_
    refine aB (.a 1 rfl<|.v (aP rfl) rfl<|.a 1 rfl<|.k [3,8,10,11,12] rfl) ?_
    exact⟨N - (i+1),by omega,i+1,_,by omega,rfl,hB2,by omega,rfl⟩
   ·have hB2:o3 L out (i+1) b:=hB.no (by
     rintro⟨e1,e2,e3⟩
     rw[decide_eq_true e1]at hp1
     rw[decide_eq_false e2]at hp2
     subst hp1
     subst hp2
     have:(p3||p4)=true:=by
      rcases e3 with e3|⟨n,rfl,e3⟩
      ·rw[decide_eq_true e3]at hp3;subst hp3;rfl
      ·rw[Int.toNat_natCast,decide_eq_true e3]at hp4;subst hp4;simp
     rw[this]at hy
     cases hy)
    refine ak<|aB (.a 1 rfl<|.v (aP rfl) rfl<|.a 1 rfl<|.k [3,8,10,11,12] rfl) ?_
    exact⟨N - (i+1),by omega,i+1,_,by omega,rfl,hB2,by omega,rfl⟩
  ·have hie:i=N:=by have:=ff hc;omega
   rw[hie]at hB
   refine aY<|aj<|ab (.a 2 rfl<|.k [3,8,10,11,57] rfl)<|af rfl (fun hz=>?_) (fun hz=>?_)
   ·have hall:=hB.none (tt hz)
    exact ab (.a 3 rfl<|.k [6,7] rfl)<|ao<|⟨_,_,aA.of rfl,ax.ba (ai.cons (ax.dX rfl ai.pure) (ai.cons ax.pure ai.nil)),out,hfin out hP (fun k hk=>hall k (by omega)),rfl⟩
   ·obtain⟨m,rfl⟩:=Int.eq_ofNat_of_zero_le (show 0≤b by have:=ff hz;omega)
    rw[←hNL]at hB
    have hP2:=hP.snoc hB
    have hl2:=hP2.len
    rw[List.length_append,List.length_singleton]at hl2
    refine ak<|bq<|aq 3 rfl<|cf (bu rfl (bF.rk.get rfl) rfl rfl rfl rfl (by unfold maxLen;omega)) rfl<|aq 1 rfl ?_
    refine de [1] (.c 3<|.c 8<|.c 10<|.nil) (.kept rfl (.ec rfl (cB _ _))<|.nil) rfl rfl (aU ?_)
    refine⟨N - (out.length+1),by omega,out++[(m:Int)],hP2,by simp,?_⟩
    unfold dT
    simp only[List.length_append,List.length_singleton]
set_option maxHeartbeats 2000000 in
theorem xe(T:an)(D:List Bool)(n d:Int)(h12:T.nodes≤12):Can Tryz.prog 231 [aJ T,aM D,num n,num d,num 2] (· =yD T D n d (dF T D d.toNat n.toNat)):=by
 obtain⟨g1,hg1⟩:∃q,decide (n<0)=q:=⟨_,rfl⟩
 obtain⟨g2,hg2⟩:∃q,decide (T.nodes≤n)=q:=⟨_,rfl⟩
 have hnb:aV T n= !(g1||g2):=by rw[←hg1,←hg2,←Bool.decide_or,←decide_not];unfold aV;exact decide_eq_decide.2 (by omega)
 refine aF Tryz.func231 rfl Tryz.ntmps231 rfl<|ab (.a 3 rfl<|.k [1,2,3,4,5] rfl)<|ab (.a 3 rfl<|.c rfl (jR T D d) rfl<|.a 5 rfl<|.k [1,2,3,4,5,12,13] rfl)<|aj<|ab (.a 2 rfl<|.k [1,2,3,4,5,12,13,29] rfl)<|af rfl (fun hc=>?_) (fun hc=>?_)
 ·have he0:ca T D [d]≠0:=tt hc
  have he2:bQ T D n d=ca T D [d]:=by unfold bQ;rw[if_neg he0]
  exact ab (.a 3 rfl<|.k [10,11] rfl)<|ao<|⟨_,_,aA.of rfl,ax.pure,by unfold yD;rw[he2,if_neg he0];rfl⟩
 ·have he0:ca T D [d]=0:=Classical.byContradiction (ff hc)
  rw[he0,if_pos rfl]
  refine ak<|aj<|bx 38 (.raw (.bool (g1||g2))) [1,2,3,4,5,12] rfl ?_ ?_
  ·refine .a 1 rfl<|.v (b7 rfl (hg1)) rfl<|.a 1 rfl<|?_
   cases g1
   ·exact .a 3 rfl<|.v (b7 rfl (hg2)) rfl<|.a 1 rfl<|.k [38,1,2,3,4,5,12] rfl
   ·exact .a 5 rfl<|.k [38,1,2,3,4,5,12] rfl
  refine af rfl (fun hy=>?_) (fun hy=>?_)
  ·have hn:aV T n=false:=by rw[hnb,hy];rfl
   have he:bQ T D n d=2:=by unfold bQ;rw[if_pos he0,hn];rfl
   exact ab (.a 2 rfl<|.k [10,11] rfl)<|ao<|⟨_,_,aA.of rfl,ax.pure,by unfold yD;rw[he];rfl⟩
  ·have hn:aV T n=true:=by rw[hnb,hy];rfl
   have he:bQ T D n d=0:=by unfold bQ;rw[if_pos he0,hn];rfl
   obtain⟨hv,hf,hn,hd⟩:=eH he
   rw[aO]at hn hd
   clear hnb hg1 hg2 hy
   obtain⟨n,rfl⟩:=Int.eq_ofNat_of_zero_le hn.1
   obtain⟨d,rfl⟩:=Int.eq_ofNat_of_zero_le hd.1
   simp only[Int.toNat_natCast]
   have hn:=hn.2
   have hd:=hd.2
   have hll:=bJ hv
   have hS:=aQ hv
   obtain⟨hb1,hb2⟩:=cW (D:=D) hv (dir:=false) hd
   obtain⟨N,hN⟩:∃N:Nat,T.nodes=(N:Int):=⟨T.nodes.toNat,by omega⟩
   have hNt:T.nodes.toNat=N:=by omega
   refine ak<|aj<|ab (.a 2 rfl<|.k [1,2,3,4,5,12,40] rfl)<|af rfl (fun hc=>?_) (fun hc=>?_)
   ·cases hc
   ·refine ak<|aH<|aq 2 rfl<|cf (cF rfl (bF.rk.get rfl) rfl rfl hN hN ⟨by unfold maxLen;omega,by omega⟩) rfl<|aq 1 rfl<|aD [1,2,3,4,5,12,14] rfl ?_
    refine ei (σ':=[dT (List.replicate N 0)]) (by unfold dT;rw[List.length_replicate,←cJ];rfl) ?_
    refine aH<|aq 3 rfl<|bA (sA (c:=1) rfl rfl rfl rfl) rfl<|bA (aI (d) rfl (by omega) (by rw[List.length_replicate];omega)) rfl<|bh ((by first|exact bH rfl (bF.tk.get rfl) rfl rfl rfl (by first|omega|(simp;omega))|exact aS rfl (bF.tk.get rfl) rfl rfl rfl (by first|omega|(simp;omega)))) rfl rfl<|aD [1,2,3,4,5,12,14] rfl ?_
    refine ei (σ':=[dT ((List.replicate T.nodes.toNat 0).set d 1)]) ?_ ?_
    ·rw[hNt];unfold dT;simp only[List.length_set,List.length_replicate];rfl
    have hI0:=nj.start (D:=D) hd
    generalize (List.replicate T.nodes.toNat (0:Int)).set d 1=cs0 at hI0
    refine aH<|aq 3 rfl<|cP rfl rfl (bV.mono (bV.ze (Bl T D d h12 he0)) (fun _ σ' h=>?_))
    obtain⟨⟨O,hO,rfl⟩,rfl⟩:=h
    refine aq 5 rfl<|aD [1,2,3,4,5,12,14,15] rfl ?_
    have hOl:O.length≤12:=by
     have h1:=nA N (O.map Int.toNat) (by
      unfold List.Nodup
      rw[List.pairwise_map]
      refine List.Pairwise.imp_of_mem ?_ hO.nodup
      intro a b ha hb hne e
      obtain⟨k,rfl,_⟩:=(hO.mem a).1 ha
      obtain⟨k',rfl,_⟩:=(hO.mem b).1 hb
      simp only[Int.toNat_natCast]at e
      exact hne (by rw[e])) (fun x hx=>by
      obtain⟨y,hy,rfl⟩:=List.mem_map.1 hx
      obtain⟨k,rfl,hk,_⟩:=(hO.mem y).1 hy
      rw[Int.toNat_natCast];omega)
     rw[List.length_map]at h1
     omega
    refine aj<|ab (.a 2 rfl<|.v (aP rfl) rfl<|.a 1 rfl<|.k [1,2,3,4,5,12,14,15,17] rfl)<|au<|ee [1,2,3,4,5,12,14,15,17] rfl<|bf (fun r st=>∃(cs:List Int) (i:Nat),i≤O.reverse.length∧r=O.reverse.length - i∧nj T D d O.reverse cs i∧st=⟨[(1,aM D),(2,num n),(3,num d),(4,num 2),(5,.aX (bn T) 0),(12,aw (bE T D d false)),(14,.own 0),(15,aw O),(17,num ((O.length:Int) - 1 - i))],[dT cs]⟩) O.reverse.length ⟨cs0,0,by omega,by omega,hI0 _,by simp⟩ ?_
    rintro r st ⟨cs,i,hi,rfl,hI,rfl⟩
    have hRl:O.reverse.length=O.length:=by simp
    refine aj<|ab (.a 2 rfl<|.k [1,2,3,4,5,12,14,15,17,60] rfl)<|af rfl (fun hx=>?_) (fun hx=>?_)
    ·have hlt:i<O.reverse.length:=by have:=tt hx;omega
     obtain⟨m,hm⟩:∃m:Nat,O.reverse.getD i 0=(m:Int):=by
      obtain⟨k,hk,_⟩:=(hO.mem _).1 (List.mem_reverse.1 (bR (d:=0) hlt))
      exact⟨k,hk⟩
     have hmO:O.getD (O.length - 1 - i) 0=(m:Int):=by
      rw[←hm,List.getD_eq_getElem?_getD,List.getD_eq_getElem?_getD,List.getElem?_reverse (by omega)]
     obtain⟨hmN,hm0,hf0⟩:=hI.fresh hO hlt hm
     have hcl:=hI.len
     have hnx:=qe T D (bE T D d false) m d hv hf hb1 hb2
     rw[oI T D m d hv hmN]at hnx
     have hnl:(bm T D m d).length≤512:=by
      have h1:(bm T D m d).length≤(bC T m).length:=by unfold bm jC;split;simp;exact List.length_filter_le _ _
      exact Nat.le_trans h1 (Nat.le_trans (dB T m _) (by omega))
     have hset:=we cs m (by omega)
     have hcr:0≤cs.getD m 0∧cs.getD m 0≤2:=by rw[hf0];split<;>omega
     refine ak<|aj<|au<|dH mixed (by kernel_rfl) (.a 5 rfl<|.v [66,67] (aI ((O.length - 1 - i)) rfl) rfl rfl<|.v [68] (aK rfl ((ay _ (O.length - 1 - i) (by omega)).trans (by rw[hmO]))) rfl rfl<|.a 1 rfl<|.v [63,64,65,69,70] (dw rfl (hnx)) rfl rfl<|.a 1 rfl<|.k [1,2,3,4,5,12,14,15,17,18] rfl) ?_
     refine ab (.a 1 rfl<|.k [1,2,3,4,5,12,14,15,17,18,19] rfl)<|au<|ee [1,2,3,4,5,12,14,15,17,18,19] rfl<|bf (fun r st=>∃k:Nat,k≤(bm T D m d).length∧r=(bm T D m d).length - k∧st=⟨[(1,aM D),(2,num n),(3,num d),(4,num 2),(5,.aX (bn T) 0),(12,aw (bE T D d false)),(14,.own 0),(15,aw O),(17,num ((O.length:Int) - 1 - i)),(18,aw (bm T D m d)),(19,num k)],[dT (cs.set m (iF T D d (cs.getD m 0) ((bm T D m d).take k)))]⟩) (bm T D m d).length ⟨0,by omega,by omega,by rw[List.take_zero,re,hset];rfl⟩ ?_
     rintro r st ⟨k,hk,rfl,rfl⟩
     have hfr:=ph (D:=D) hv hd (cs.getD m 0) hcr.1 hcr.2 ((bm T D m d).take k)
     have hfst:=qX (T:=T) (D:=D) (d:=d) (cs.getD m 0) (bm T D m d) k
     generalize hd12:iF T D d (cs.getD m 0) ((bm T D m d).take k)=c at hfr hfst
     refine aj<|ab (.a 4 rfl<|.k [1,2,3,4,5,12,14,15,17,18,19,75] rfl)<|af rfl (fun hy=>?_) (fun hy=>?_)
     ·have hkl:k<(bm T D m d).length:=by have:=tt hy;omega
      obtain⟨a,ha,han⟩:=dj (bR (d:=0) hkl)
      have hmem:(a:Int)∈bm T D m d:=by rw[←ha];exact bR hkl
      obtain⟨y,hyh,hyN⟩:=du hv han.iM
      obtain⟨hcy,hym,_⟩:=hI.next hv hd hO hlt hm hmem hyh
      have hh:=gP T hv a han.iM
      rw[hyh]at hh
      have hcyr:=jg (D:=D) hv hd y
      have hg1:(cs.set m c).getD y 0=dF T D d y:=by rw[←hcy,List.getD_eq_getElem?_getD,List.getElem?_set,if_neg (fun e=>hym e.symm),←List.getD_eq_getElem?_getD]
      have hg2:(cs.set m c).getD m 0=c:=by rw[List.getD_eq_getElem?_getD,List.getElem?_set,if_pos rfl,if_pos (by omega)];rfl
      have hfst:=hfst a hkl ha
      rw[hyh,Int.toNat_natCast]at hfst
      have hv2:iF T D d (cs.getD m 0) ((bm T D m d).take (k+1))=c+min (dF T D d y) (2 - c):=by omega
      refine ak<|aj<|au<|dH mixed (by kernel_rfl) (.a 4 rfl<|.v [80,81] (aI (k) rfl) rfl rfl<|.v [82] (aK rfl ((ay _ k hkl).trans (by rw[ha]))) rfl rfl<|.v [79,83] (dw rfl (hh)) rfl rfl<|.v [78,84] (aI (y) rfl (by omega) (by simp only[List.length_set];omega)) rfl rfl<|.v [85] (aK rfl ((ay _ y (by simp only[List.length_set];omega)).trans (by rw[hg1]))) rfl rfl<|.a 1 rfl<|.k [1,2,3,4,5,12,14,15,17,18,19,20] rfl) ?_
      refine cS 20 20 mixed (
       .val [14] rfl (bI rfl) rfl rfl<|
       .val [15] rfl (bI rfl) rfl rfl<|
       .val [17] rfl (bI rfl) rfl rfl<|
       .val [88,89] rfl (aI ((O.length - 1 - i)) rfl) rfl rfl<|
       .val [90] rfl (aK rfl ((ay _ (O.length - 1 - i) (by omega)).trans (by rw[hmO]))) rfl rfl<|
       .val [87,91] rfl (aI (m) rfl (by omega) (by simp only[List.length_set];omega)) rfl rfl<|
       .val [92] rfl (aK rfl ((ay _ m (by simp only[List.length_set];omega)).trans (by rw[hg2]))) rfl rfl<|
       .val [20] rfl (bI rfl) rfl rfl<|
       .val [4] rfl (bI rfl) rfl rfl<|
       .val [14] rfl (bI rfl) rfl rfl<|
       .val [15] rfl (bI rfl) rfl rfl<|
       .val [17] rfl (bI rfl) rfl rfl<|
       .val [97,98] rfl (aI ((O.length - 1 - i)) rfl) rfl rfl<|
       .val [99] rfl (aK rfl ((ay _ (O.length - 1 - i) (by omega)).trans (by rw[hmO]))) rfl rfl<|
       .val [96,100] rfl (aI (m) rfl (by omega) (by simp only[List.length_set];omega)) rfl rfl<|
       .val [101] rfl (aK rfl ((ay _ m (by simp only[List.length_set];omega)).trans (by rw[hg2]))) rfl rfl<|
       .val [95,102] rfl (aP rfl) rfl rfl<|
       .val [94,103] rfl (sA rfl rfl rfl rfl) rfl rfl<|
       .val [93,104] rfl (aP rfl (hn:=by unfold In64;omega)) rfl rfl<|
       .val [87,91] rfl (aI (m) rfl (by omega) (by simp only[List.length_set];omega)) rfl rfl<|
       .nil) (by kernel_rfl) rfl rfl (bd (ks:=[1,2,3,4,5,12,14,15,17,18,19,105,106]) rfl) ?_
      refine bh ((by first|exact bH rfl (bF.tk.get rfl) rfl rfl rfl (by first|omega|(simp;omega))|exact aS rfl (bF.tk.get rfl) rfl rfl rfl (by first|omega|(simp;omega)))) rfl rfl<|aD [1,2,3,4,5,12,14,15,17,18,19] rfl ?_
      refine aB (.a 1 rfl<|.v (aP rfl) rfl<|.a 1 rfl<|.k [1,2,3,4,5,12,14,15,17,18,19] rfl) ?_
      refine⟨(bm T D m d).length - (k+1),by omega,k+1,by omega,rfl,?_⟩
      rw[hv2]
      unfold dT
      simp only[List.length_set,List.set_set]
      rfl
     ·have hke:k=(bm T D m d).length:=by have:=ff hy;omega
      refine aY<|aB (.a 1 rfl<|.v (aP rfl) rfl<|.a 1 rfl<|.k [1,2,3,4,5,12,14,15,17] rfl) ?_
      have hI2:=hI.step hv hd hO hlt hm
      rw[hke,List.take_length]at hd12
      exact⟨O.reverse.length - (i+1),by omega,cs.set m (iF T D d (cs.getD m 0) (bm T D m d)),i+1,by omega,rfl,hI2,by rw[hd12,show(O.length:Int) - 1 - ((i+1:Nat):Int)=(O.length:Int) - 1 - i - 1 by omega]⟩
    ·have hie:i=O.reverse.length:=by have:=ff hx;omega
     subst hie
     have hres:=hI.done hv hd hO hn
     have hcl:=hI.len
     exact aY<|ab (.a 2 rfl<|.v (aI (n) rfl) rfl<|.v (aK rfl ((ay cs n (by omega)).trans (by rw[hres]))) rfl<|.a 2 rfl<|.k [10,11] rfl)<|ao<|⟨_,_,aA.of rfl,ax.pure,by unfold yD;rw[he,if_pos rfl];rfl⟩
set_option maxHeartbeats 2000000 in
theorem wz(T:an)(D:List Bool)(n d:Int)(h12:T.nodes≤12):Can Tryz.prog 221 [aJ T,aM D,num n,num d] (· =flag (eM T D n d)):=by
 rw[sF]
 obtain⟨q1,hq1⟩:∃q,decide (bQ T D n d=0)=q:=⟨_,rfl⟩
 obtain⟨q2,hq2⟩:∃q,decide ((if bQ T D n d=0 then dF T D d.toNat n.toNat else 0)=1)=q:=⟨_,rfl⟩
 rw[hq1,hq2]
 refine aF Tryz.func221 rfl Tryz.ntmps221 rfl<|ab (.a 2 rfl<|.k [1,2,3,4] rfl)<|ab (.a 4 rfl<|.c rfl (xe T D n d h12) rfl<|.a 5 rfl<|.k [9,10] rfl)<|bx 8 (.raw (.bool (q1&&q2))) [] rfl ?_ ?_
 ·refine .a 1 rfl<|.v (b7 rfl (hq1)) rfl<|.a 1 rfl<|?_
  cases q1
  ·exact .a 4 rfl<|.k [8] rfl
  ·exact .a 1 rfl<|.v (b7 rfl (hq2)) rfl<|.a 2 rfl<|.k [8] rfl
 exact ao<|⟨_,_,aA.of rfl,ax.pure,rfl⟩
end PW
end Go.Proofs.YtnegbdpggideiaaGreatDoor
