/- TableIncremental returns true for every input: after any changes of a tree of layer 13, its next arcs are those of the routes of all nodes in its topology with its mask. Package-level tables start as the program's text lays them. -/
import Derived.Test.YteikppbedmmdnaaDoorCardTIB8
set_option linter.unusedVariables false
set_option linter.unusedSimpArgs false
set_option maxRecDepth 10000
set_option maxHeartbeats 1000000
namespace Go.Proofs.YteikppbedmmdnaaDoor
namespace PW
section
open Go.RowKit cX Mem Net
def j5(T:au)(D:List Bool):Bool:=((decide (100<(T.over.length:Int))||decide (24<(T.aa.length:Int)))||decide (100<(D.length:Int)))||decide (16<T.nodes)
theorem lR(T:au)(D:List Bool):Can Tryd.prog 5 [bI T,br D] (· =flag (j5 T D)):=by
 obtain⟨p1,hp1⟩:∃q,decide (100<(T.over.length:Int))=q:=⟨_,rfl⟩
 obtain⟨p2,hp2⟩:∃q,decide (24<(T.aa.length:Int))=q:=⟨_,rfl⟩
 obtain⟨p3,hp3⟩:∃q,decide (100<(D.length:Int))=q:=⟨_,rfl⟩
 obtain⟨p4,hp4⟩:∃q,decide (16<T.nodes)=q:=⟨_,rfl⟩
 have he:j5 T D=(((p1||p2)||p3)||p4):=by unfold j5;rw[hp1,hp2,hp3,hp4]
 rw[he]
 refine bE Tryd.func5 I Tryd.ntmps5 I<|ag (.a 2 I<|.k [1,2] I)<|bF 4 (.raw (.bool (((p1||p2)||p3)||p4))) [] I ?_ ?_
 ·refine .a 3 I<|.v (cJ I (hp1)) I<|.a 1 I<|?_
  cases p1
  ·refine .a 3 I<|.v (cJ I (hp2)) I<|.a 2 I<|?_
   cases p2
   ·refine .a 2 I<|.v (cJ I (hp3)) I<|.a 2 I<|?_
    cases p3
    ·exact .a 2 I<|.v (cJ I (hp4)) I<|.a 2 I<|.k [4] I
    ·exact .a 5 I<|.k [4] I
   ·exact .a 10 I<|.k [4] I
  ·exact .a 16 I<|.k [4] I
 exact aF<|⟨_,_,aK.of I,aZ.pure,rfl⟩
noncomputable def iZ(T:au)(D:List Bool)(k:Nat):List kL:=(List.range k).map fun n=>dQ T D n
noncomputable def tH(T:au)(D:List Bool):List kL:=if bW T D []=0 then iZ T D T.nodes.toNat else []
theorem ir(T:au)(D:List Bool)(k:Nat):(iZ T D k).length=k:=by simp[iZ]
theorem pR(T:au)(D:List Bool)(k:Nat):iZ T D (k+1)=iZ T D k++[dQ T D k]:=by simp[iZ,List.range_succ]
theorem pF{T:au}{D:List Bool}(h:(aW T&&b8 T D)=true):bW T D []=0:=by unfold bW;rw[if_pos h];rfl
theorem tf{T:au}{D:List Bool}{ns:List Int}(h:(aW T&&b8 T D)=false):bW T D ns=1:=by unfold bW;rw[h];rfl
theorem tj{T:au}{D:List Bool}{n:Int}(h:(aW T&&b8 T D)=true)(hn:bL T n=true):bW T D [n]=0:=by
 unfold bW;rw[if_pos h,if_pos];simp[hn]
theorem pN{T:au}{D:List Bool}{n:Nat}(h:(aW T&&b8 T D)=true)(hn:(n:Int)<T.nodes):eF T D n=dQ T D n:=by
 unfold eF
 rw[tj h (cI.2 ⟨by omega,hn⟩)]
 rfl
theorem rb(T:au)(D:List Bool):Can Tryd.prog 10 [bI T,br D] (· = .tuple [qS (tH T D),num (bW T D [])]):=by
 obtain⟨q1,hq1⟩:∃q,aW T=q:=⟨_,rfl⟩
 obtain⟨q2,hq2⟩:∃q,b8 T D=q:=⟨_,rfl⟩
 refine bE Tryd.func10 I Tryd.ntmps10 I<|ag (.a 3 I<|.k [1,2] I)<|al<|bF 18 (.raw (.bool ((!q1)|| !q2))) [1,2] I ?_ ?_
 ·refine .a 1 I<|.c rfl (hq1▸iO T) I<|.a 2 I<|?_
  cases q1
  ·exact .a 5 I<|.k [18,1,2] I
  ·exact .a 2 I<|.c rfl (hq2▸j6 T D (by have:=cq hq1;omega)) I<|.a 2 I<|.k [18,1,2] I
 refine ak I (fun hc=>?_) (fun hc=>?_)
 ·have hb:(aW T&&b8 T D)=false:=by rw[hq1,hq2];revert hc;cases q1<;>cases q2<;>simp
  exact ag (.a 2 I<|.k [4,5] I)<|aF<|⟨_,_,aK.of I,aZ.eo (aq.cons aZ.cd (aq.cons aZ.pure aq.nil)),by unfold tH;rw[tf hb];rfl⟩
 ·have hok:(aW T&&b8 T D)=true:=by rw[hq1,hq2];revert hc;cases q1<;>cases q2<;>simp
  have hv:=(Bool.and_eq_true_iff.1 hok).1
  have hN:=(bz hv).nodes
  obtain⟨N,hNN⟩:∃N:Nat,T.nodes=(N:Int):=⟨T.nodes.toNat,by omega⟩
  refine an<|ag (.a 1 I<|.k [1,2,6] I)<|ee 6 45 3 I ?_
  refine al<|ag (.a 1 I<|.v (aV I ((show some (num T.nodes)=some (num (N:Int)) by rw[hNN]))) I<|.a 1 I<|.k [1,2,6,20,21] I)<|aw<|fx [1,2,6,20,21] I<|bx (fun r s=>∃k,k≤N∧r=N - k∧s=⟨[(1,br D),(2,.bY (da T) 0),(6,.own 0),(20,num N),(21,num k)],[some (.row 45 3 k (ju (iZ T D k)))]⟩) N ⟨0,by omega,by omega,rfl⟩ ?_
  rintro r s ⟨k,hk,rfl,rfl⟩
  refine ag (.a 1 I<|.k [1,2,6,20,21,22] I)<|al<|ak I (fun hy=>?_) (fun hy=>?_)
  ·have hlt:k<N:=by have:=tt hy;omega
   have hr:=jV T D (k:Int)
   rw[pN hok (by omega)]at hr
   refine an<|al<|aw<|ag (.a 2 I<|.k [1,2,6,7,20,21] I)<|a7<|ax 3 I<|nZ I (hr) I<|ax 6 I<|aO [1,2,6,8,20,21] I ?_
   refine aR<|ax 3 I<|bD (aU I (bB.rk.get I) I I I I (by unfold maxLen;omega)) I<|ax 1 I ?_
   refine eb [2] (.c 1<|.c 2<|.c 6<|.c 20<|.c 21<|.nil) (.kept rfl (.dX rfl (show _=ju (iZ T D (k+1)) by rw[pR];exact om _ _))<|.nil) I I (af ?_)
   refine aD (.v (bw I) I<|.a 1 I<|.k [1,2,6,20,21] I) ?_
   exact⟨N - (k+1),by omega,k+1,by omega,rfl,rfl⟩
  ·have hke:k=N:=by have:=ff hy;omega
   subst hke
   refine bn<|ag (.a 3 I<|.k [4,5] I)<|aF<|⟨_,_,aK.of I,aZ.eo (aq.cons (aZ.du rfl aq.pure) (aq.cons aZ.pure aq.nil)),?_⟩
   unfold tH
   rw[pF hok,if_pos rfl]
   unfold qS
   rw[ir,show T.nodes.toNat=k by omega]
open Heap
structure jy where
 k:Int
 i:Int
 n:Int
def kP(a:jy):List PV:=[num a.k,num a.i,num a.n]
def qP(l:List jy):List PV:=l.flatMap kP
def ko(l:List jy):PV:=.slice l.length (qP l)
instance (a:jy):av (kP a):=by unfold kP;infer_instance
instance (l:List jy):av (qP l):=av.flatMap _ _ fun _=>inferInstance
instance (l:List jy):IsPure (ko l):=by unfold ko;infer_instance
theorem qv(l:List jy)(i:Nat)(e:jy)(h:l[i]? =some e):((qP l).drop (i*3)).take 3=kP e:=iJ kP 3 (fun _=>rfl) l i e h
theorem mU(l:List kL)(i j:Nat)(e:kL)(h:l[i]? =some e)(hj:j<3):(ju l)[i*3+j]? =(jz e)[j]? :=flat_get jz 3 (fun _=>rfl) l i j e h hj
theorem pX(l:List Int):iD l l=true:=by
 unfold iD
 simp
theorem qU:kD Tryd.prog 29=true:=by kernel_rfl
theorem kR(T:au)(D:List Bool)(d:Int)(l:List jy)(he:bW T D [d]≠0):Can Tryd.prog 3 [bI T,br D,num d,ko l] (· =flag true):=by
 obtain⟨p1,hp1⟩:∃q,j5 T D=q:=⟨_,rfl⟩
 obtain⟨p2,hp2⟩:∃q,decide (40<(l.length:Int))=q:=⟨_,rfl⟩
 obtain⟨p3,hp3⟩:∃q,decide (bW T D [d]≠0)=q:=⟨_,rfl⟩
 have h3:p3=true:=by rw[←hp3];exact decide_eq_true he
 refine bE Tryd.func3 I Tryd.ntmps3 I<|ag (.a 2 I<|.k [1,2,3,4] I)<|al<|ag (.c rfl (lV) I<|.a 1 I<|.k [1,2,3,4,17] I)<|ak I (fun hc=>?_) (fun hc=>?_)
 ·cases hc
 ·refine an<|al<|bF 25 (.raw (.bool (p1||p2))) [1,2,3,4] I ?_ ?_
  ·refine .a 2 I<|.c rfl (hp1▸lR T D) I<|.a 1 I<|?_
   cases p1
   ·exact .a 2 I<|.v (cJ I (hp2)) I<|.a 1 I<|.k [25,1,2,3,4] I
   ·exact .a 4 I<|.k [25,1,2,3,4] I
  refine ak I (fun hc=>?_) (fun hc=>?_)
  ·exact ag (.a 1 I<|.k [8] I)<|aF<|⟨_,_,aK.of I,aZ.pure,rfl⟩
  ·refine an<|a7<|ax 3 I<|bh I I (aG.mono (ow T D d he) (fun _ σ' h=>?_))
   obtain⟨rfl,rfl⟩:=h
   refine ax 5 I<|aO [2,3,4,9,10] I ?_
   refine al<|bF 38 (.raw (.bool (p3||true))) [2,3,4,9] I ?_ ?_
   ·refine .a 1 I<|.v (cJ I (hp3)) I<|.a 1 I<|?_
    cases p3
    ·exact .a 1 I<|.v (gP I qU rfl rfl) I<|.a 1 I<|.k [38,2,3,4,9] I
    ·exact .a 3 I<|.k [38,2,3,4,9] I
   refine ak I (fun hc=>?_) (fun hc=>?_)
   ·exact ag (.a 1 I<|.v (gP I qU rfl rfl) I<|.a 1 I<|.k [8] I)<|aF<|⟨_,_,aK.of I,aZ.pure,rfl⟩
   ·rw[h3]at hc
    cases hc
set_option maxHeartbeats 2000000 in
theorem l1(T:au)(D:List Bool)(d:Nat)(l:List jy)(he:bW T D [(d:Int)]=0):Can Tryd.prog 3 [bI T,br D,num d,ko l] (· =flag true):=by
 obtain⟨hv,hf,hnd⟩:=fU he
 have hdn:=cI.1 (hnd _ (List.mem_singleton.2 rfl))
 obtain⟨N,hN⟩:∃N:Nat,T.nodes=(N:Int):=⟨T.nodes.toNat,by omega⟩
 have hN64:N≤64:=by have:=(bz hv).nodes;omega
 have hT0:=nt hv hf hN (d:=d) (by omega)
 obtain⟨p1,hp1⟩:∃q,j5 T D=q:=⟨_,rfl⟩
 obtain⟨p2,hp2⟩:∃q,decide (40<(l.length:Int))=q:=⟨_,rfl⟩
 refine bE Tryd.func3 I Tryd.ntmps3 I<|ag (.a 2 I<|.k [1,2,3,4] I)<|al<|ag (.c rfl (lV) I<|.a 1 I<|.k [1,2,3,4,17] I)<|ak I (fun hc=>?_) (fun hc=>?_)
 ·cases hc
 ·refine an<|al<|bF 25 (.raw (.bool (p1||p2))) [1,2,3,4] I ?_ ?_
  ·refine .a 2 I<|.c rfl (hp1▸lR T D) I<|.a 1 I<|?_
   cases p1
   ·exact .a 2 I<|.v (cJ I (hp2)) I<|.a 1 I<|.k [25,1,2,3,4] I
   ·exact .a 4 I<|.k [25,1,2,3,4] I
  refine ak I (fun hc=>?_) (fun hc=>?_)
  ·exact ag (.a 1 I<|.k [8] I)<|aF<|⟨_,_,aK.of I,aZ.pure,rfl⟩
  ·have hl40:l.length≤40:=by
    obtain⟨_,c2⟩:=Bool.or_eq_false_iff.1 hc
    rw[c2]at hp2
    have:=of_decide_eq_false hp2
    omega
   refine an<|a7<|ax 3 I<|bh I I (aG.mono (qe T D d N he hN) (fun _ σ' h=>?_))
   obtain⟨rfl,rfl⟩:=h
   refine ax 5 I<|aO [2,3,4,9,10] I ?_
   refine al ?_
   obtain⟨p3,hp3⟩:∃q,decide ((0:Int)≠0)=q:=⟨_,rfl⟩
   have h3:p3=false:=by rw[←hp3];rfl
   refine bF 38 (.raw (.bool (p3||false))) [2,3,4,9] I ?_ ?_
   ·refine .a 1 I<|.v (cJ I (hp3)) I<|.a 1 I<|?_
    cases p3
    ·exact .a 3 I<|.k [38,2,3,4,9] I
    ·exact .a 3 I<|.k [38,2,3,4,9] I
   refine ak I (fun hc=>?_) (fun hc=>?_)
   ·rw[h3]at hc
    cases hc
   ·refine an<|al<|ag (.a 3 I<|.k [2,4,9,41,42,43] I)<|aw<|fx [2,4,9,41,42,43] I<|bx (fun r s=>∃(j:Nat) (T1:au) (D1:List Bool) (tc:Int),j≤l.length∧eI T1 D1 N d∧r=l.length - j∧s=⟨[(2,num d),(4,.bY (da T) 0),(9,.ptr 0 0),(41,ko l),(42,num l.length),(43,num j)],bZ T1 D1 d N (aP T1 D1 d false) (num tc)⟩) l.length ⟨0,_,_,0,by omega,hT0,by omega,rfl⟩ ?_
    rintro r s ⟨j,T1,D1,tc,hj,hT,rfl,rfl⟩
    refine ag (.a 1 I<|.k [2,4,9,41,42,43,44] I)<|al<|ak I (fun hy=>?_) (fun hy=>?_)
    ·have hlt:j<l.length:=by have:=of_decide_eq_true hy;omega
     obtain⟨a,ha⟩:∃a,l[j]? =some a:=⟨l[j],by simp[hlt]⟩
     have hsc:=iQ (A:=[]) (C:=[some (.cells 34 (kP a))]) (b:=0) I (mG hT tc a.i a.n)
     have hsd:=fun v=>iQ (A:=[]) (C:=[some (.cells 34 (kP a))]) (b:=0) I (nT hT tc a.i v)
     have hso:=fun v=>iQ (A:=[]) (C:=[some (.cells 34 (kP a))]) (b:=0) I (nk hT tc a.i v)
     refine an<|al<|aw<|a7<|aM (aY (j*3) I) I<|aM (vE I (qv l j a ha) I) I<|ax 2 I<|aO [2,4,9,12,41,42,43] I ?_
     refine ag (.a 2 I<|.k [2,4,9,12,41,42,43,48] I)<|aw ?_
     obtain⟨b1,hb1⟩:∃q,decide (a.k=0)=q:=⟨_,rfl⟩
     refine ag (.v (cJ I (hb1)) I<|.a 1 I<|.k [2,4,9,12,41,42,43,48,56] I)<|ak I (fun hc=>?_) (fun hc=>?_)
     ·refine aR<|ax 5 I<|bh I I (aG.mono hsc (fun _ σ' h=>?_))
      obtain⟨tc',rfl,rfl⟩:=h
      refine aO [2,4,9,41,42,43] I ?_
      refine bO [0,1,2,3,4] (σ':=bZ (eG T1 a.i a.n) D1 d N (aP (eG T1 a.i a.n) D1 d false) (num tc')) (.c 2<|.c 4<|.c 9<|.c 41<|.c 42<|.c 43 .nil) (.kept rfl (.cells (ab.c<|ab.c<|ab.c<|ab.c<|ab.c<|ab.c<|ab.c ab.nil))<|.kept rfl (.row ab.pure)<|.kept rfl (.row ab.pure)<|.kept rfl (.row ab.pure)<|.kept rfl (.row ab.pure) .nil) I I ?_
      have hT2:=hT.eG a.i a.n
      refine aD (.v (bw I) I<|.a 1 I<|.k [2,4,9,41,42,43] I) ?_
      exact⟨l.length - (j+1),by omega,j+1,_,_,tc',by omega,hT2,rfl,rfl⟩
     ·refine al ?_
      obtain⟨b2,hb2⟩:∃q,decide (a.k=1)=q:=⟨_,rfl⟩
      refine ag (.v (cJ I (hb2)) I<|.a 1 I<|.k [2,4,9,12,41,42,43,48,64] I)<|ak I (fun hc=>?_) (fun hc=>?_)
      ·refine an<|ak I (fun hc=>?_) (fun hc=>?_)
       ·obtain⟨b4,hb4⟩:∃q,decide (a.k=1)=q:=⟨_,rfl⟩
        refine aR<|ax 5 I<|aM (cJ I (hb4)) I<|bh I I (aG.mono (hsd b4) (fun _ σ' h=>?_))
        obtain⟨tc',rfl,rfl⟩:=h
        refine aO [2,4,9,41,42,43] I ?_
        refine bO [0,1,2,3,4] (σ':=bZ T1 (er T1 D1 a.i b4) d N (aP T1 (er T1 D1 a.i b4) d false) (num tc')) (.c 2<|.c 4<|.c 9<|.c 41<|.c 42<|.c 43 .nil) (.kept rfl (.cells (ab.c<|ab.c<|ab.c<|ab.c<|ab.c<|ab.c<|ab.c ab.nil))<|.kept rfl (.row ab.pure)<|.kept rfl (.row ab.pure)<|.kept rfl (.row ab.pure)<|.kept rfl (.row ab.pure) .nil) I I ?_
        have hT2:=hT.er a.i b4
        refine aD (.v (bw I) I<|.a 1 I<|.k [2,4,9,41,42,43] I) ?_
        exact⟨l.length - (j+1),by omega,j+1,_,_,tc',by omega,hT2,rfl,rfl⟩
       ·obtain⟨b5,hb5⟩:∃q,decide (a.k=3)=q:=⟨_,rfl⟩
        refine aR<|ax 5 I<|aM (cJ I (hb5)) I<|bh I I (aG.mono (hso b5) (fun _ σ' h=>?_))
        obtain⟨tc',rfl,rfl⟩:=h
        refine aO [2,4,9,41,42,43] I ?_
        refine bO [0,1,2,3,4] (σ':=bZ (ek T1 a.i b5) D1 d N (aP (ek T1 a.i b5) D1 d false) (num tc')) (.c 2<|.c 4<|.c 9<|.c 41<|.c 42<|.c 43 .nil) (.kept rfl (.cells (ab.c<|ab.c<|ab.c<|ab.c<|ab.c<|ab.c<|ab.c ab.nil))<|.kept rfl (.row ab.pure)<|.kept rfl (.row ab.pure)<|.kept rfl (.row ab.pure)<|.kept rfl (.row ab.pure) .nil) I I ?_
        have hT2:=hT.ek a.i b5
        refine aD (.v (bw I) I<|.a 1 I<|.k [2,4,9,41,42,43] I) ?_
        exact⟨l.length - (j+1),by omega,j+1,_,_,tc',by omega,hT2,rfl,rfl⟩
      ·obtain⟨b3,hb3⟩:∃q,decide (a.k=2)=q:=⟨_,rfl⟩
       refine aD (.v (cJ I (hb3)) I<|.a 1 I<|.k [2,4,9,12,41,42,43,64] I) ?_
       refine ak I (fun hc=>?_) (fun hc=>?_)
       ·obtain⟨b4,hb4⟩:∃q,decide (a.k=1)=q:=⟨_,rfl⟩
        refine aR<|ax 5 I<|aM (cJ I (hb4)) I<|bh I I (aG.mono (hsd b4) (fun _ σ' h=>?_))
        obtain⟨tc',rfl,rfl⟩:=h
        refine aO [2,4,9,41,42,43] I ?_
        refine bO [0,1,2,3,4] (σ':=bZ T1 (er T1 D1 a.i b4) d N (aP T1 (er T1 D1 a.i b4) d false) (num tc')) (.c 2<|.c 4<|.c 9<|.c 41<|.c 42<|.c 43 .nil) (.kept rfl (.cells (ab.c<|ab.c<|ab.c<|ab.c<|ab.c<|ab.c<|ab.c ab.nil))<|.kept rfl (.row ab.pure)<|.kept rfl (.row ab.pure)<|.kept rfl (.row ab.pure)<|.kept rfl (.row ab.pure) .nil) I I ?_
        have hT2:=hT.er a.i b4
        refine aD (.v (bw I) I<|.a 1 I<|.k [2,4,9,41,42,43] I) ?_
        exact⟨l.length - (j+1),by omega,j+1,_,_,tc',by omega,hT2,rfl,rfl⟩
       ·obtain⟨b5,hb5⟩:∃q,decide (a.k=3)=q:=⟨_,rfl⟩
        refine aR<|ax 5 I<|aM (cJ I (hb5)) I<|bh I I (aG.mono (hso b5) (fun _ σ' h=>?_))
        obtain⟨tc',rfl,rfl⟩:=h
        refine aO [2,4,9,41,42,43] I ?_
        refine bO [0,1,2,3,4] (σ':=bZ (ek T1 a.i b5) D1 d N (aP (ek T1 a.i b5) D1 d false) (num tc')) (.c 2<|.c 4<|.c 9<|.c 41<|.c 42<|.c 43 .nil) (.kept rfl (.cells (ab.c<|ab.c<|ab.c<|ab.c<|ab.c<|ab.c<|ab.c ab.nil))<|.kept rfl (.row ab.pure)<|.kept rfl (.row ab.pure)<|.kept rfl (.row ab.pure)<|.kept rfl (.row ab.pure) .nil) I I ?_
        have hT2:=hT.ek a.i b5
        refine aD (.v (bw I) I<|.a 1 I<|.k [2,4,9,41,42,43] I) ?_
        exact⟨l.length - (j+1),by omega,j+1,_,_,tc',by omega,hT2,rfl,rfl⟩
    ·have hje:j=l.length:=by have:=of_decide_eq_false hy;omega
     have hT1:=hT.nodes
     have hok:(aW T1&&b8 T1 D1)=true:=by
      rw[hT.valid,Bool.true_and]
      exact decide_eq_true (.inr hT.mask)
     have hall:=rb T1 D1
     unfold tH at hall
     rw[pF hok,if_pos rfl,show T1.nodes.toNat=N by omega]at hall
     refine bn<|ag (.a 1 I<|.v (fE I (aq.cons ((bS []).bY hT.len) aq.nil) (rI hT _ _)) I<|.a 1 I<|.v (fE I (aq.cons ((bS []).bY hT.len) aq.nil) (qI hT _ _)) I<|.c rfl (hall) I<|.a 5 I<|.k [2,4,9,13,14] I)<|al ?_
     obtain⟨p4,hp4⟩:∃q,decide ((0:Int)≠0)=q:=⟨_,rfl⟩
     obtain⟨p5,hp5⟩:∃q,decide (((iZ T1 D1 N).length:Int)≠T.nodes)=q:=⟨_,rfl⟩
     have h4:p4=false:=by rw[←hp4];rfl
     have h5:p5=false:=by rw[←hp5,ir];exact decide_eq_false (by omega)
     refine bF 91 (.raw (.bool (p4||p5))) [2,4,9,13] I ?_ ?_
     ·refine .a 1 I<|.v (cJ I (hp4)) I<|.a 1 I<|?_
      cases p4
      ·exact .a 4 I<|.v (cJ I (hp5)) I<|.a 1 I<|.k [91,2,4,9,13] I
      ·exact .a 6 I<|.k [91,2,4,9,13] I
     refine ak I (fun hc=>?_) (fun hc=>?_)
     ·rw[h4,h5]at hc
      cases hc
     ·refine an<|al<|ag (.a 3 I<|.k [2,4,9,13,93,94] I)<|aw<|fx [2,4,9,13,93,94] I<|bx (fun r s=>∃k,k≤N∧r=N - k∧s=⟨[(2,num d),(4,.bY (da T) 0),(9,.ptr 0 0),(13,qS (iZ T1 D1 N)),(93,num N),(94,num k)],bZ T1 D1 d N (aP T1 D1 d false) (num tc)⟩) N ⟨0,by omega,by omega,by rw[ir];rfl⟩ ?_
      rintro r s ⟨k,hk,rfl,rfl⟩
      refine ag (.a 1 I<|.k [2,4,9,13,93,94,95] I)<|al<|ak I (fun hy=>?_) (fun hy=>?_)
      ·have hlt:k<N:=by have:=of_decide_eq_true hy;omega
       have hkl:k<(iZ T1 D1 N).length:=by rw[ir];exact hlt
       have hx:(iZ T1 D1 N)[k]? =some (dQ T1 D1 k):=by simp[iZ,hlt]
       have hel:(dQ T1 D1 k).ct.length=N:=by show(oM T1 D1 k T1.nodes.toNat).length=N;rw[po];omega
       have hde:d<N:=hT.dest
       have hent:(dQ T1 D1 k).ct[d]? =some ⟨eY T1 D1 k d,false,[]⟩:=by show(oM T1 D1 k T1.nodes.toNat)[d]? =_;simp[oM,show d<T1.nodes.toNat by omega]
       have hsm:=qJ (eY T1 D1 k d) (eY T1 D1 k d)
       rw[pX]at hsm
       obtain⟨p6,hp6⟩:∃q,decide (((dQ T1 D1 k).ct.length:Int)≠T.nodes)=q:=⟨_,rfl⟩
       have h6:p6=false:=by rw[←hp6,hel];exact decide_eq_false (by omega)
       refine an<|al<|aw<|ag (.a 2 I<|.k [2,4,9,13,15,93,94] I)<|nW mixed (by kernel_rfl) 121 (.raw (.bool (p6||false))) [2,4,9,13,93,94] I ?_ ?_
       ·refine .a 2 I<|.v [97,98] (aY (k*3) I) I I<|.a 1 I<|.v [100] (aV I (mU _ k 1 _ hx (by omega))) I I<|.a 3 I<|.v [102,104] (cJ I (hp6)) I I<|.a 1 I<|?_
        cases p6
        ·exact .a 2 I<|.v [107,108] (aY (k*3) I) I I<|.a 1 I<|.v [110] (aV I (mU _ k 1 _ hx (by omega))) I I<|.a 1 I<|.v [111,112] (aY (d*3) I) I I<|.a 1 I<|.v [114] (aV I (qR _ d 0 _ hent (by omega))) I I<|.a 2 I<|.v [116,117] (fE I (aq.cons ((bS []).bY hT.len) (aq.cons aZ.pure aq.nil)) (qi hT _ k hlt)) I I<|.v [115,118] (fu I (hsm)) I I<|.a 2 I<|.k [121,2,4,9,13,93,94] I
        ·exact .a 15 I<|.k [121,2,4,9,13,93,94] I
       refine ak I (fun hc=>?_) (fun hc=>?_)
       ·rw[h6]at hc
        cases hc
       ·refine an<|aD (.v (bw I) I<|.a 1 I<|.k [2,4,9,13,93,94] I) ?_
        exact⟨N - (k+1),by omega,k+1,by omega,rfl,rfl⟩
      ·exact bn<|ag (.a 1 I<|.k [8] I)<|aF<|⟨_,_,aK.of I,aZ.pure,rfl⟩
theorem oI(T:au)(D:List Bool)(d:Int)(l:List jy):Can Tryd.prog 3 [bI T,br D,num d,ko l] (· =flag true):=by
 by_cases he:bW T D [d]=0
 ·obtain⟨_,_,hnd⟩:=fU he
  obtain⟨n,rfl⟩:=Int.eq_ofNat_of_zero_le (cI.1 (hnd _ (List.mem_singleton.2 rfl))).1
  exact l1 T D n l he
 ·exact kR T D d l he
end
section
open Go.RowKit Go.ChangeShapes Go.WideShapes Go.ChangeAt cX Mem Net
section
variable {H:Type} {enc:TypeId×Value→H} {W:World}
theorem uD{n:Nat}{cs:List Value}{y:DataW H×List MemPlace}(h:DataW.trod enc Tryd.prog W 0 (fun _=>true) true n 34 cs=some y)(hl:cs.length=3):∃a:jy,aB EN W cs (kP a):=by
 have c3:Tryd.prog.cellsOf 3=1:=by kernel_rfl
 obtain⟨xs,m,_,_,_,hlen,hf⟩:=DataW.trod_struct Tryd.underlying34 h
 match cs,hl with
 | [c0,c1,c2],_=>
  match xs,hlen with
  | [y0,y1,y2],_=>
   have f0:DataW.trod enc Tryd.prog W 0 (fun _=>true) true m 3 (([c0,c1,c2].drop 0).take (Tryd.prog.cellsOf 3))=some y0:=hf 0 _ rfl
   rw[c3]at f0
   have f1:DataW.trod enc Tryd.prog W 0 (fun _=>true) true m 3 (([c0,c1,c2].drop 1).take (Tryd.prog.cellsOf 3))=some y1:=hf 1 _ rfl
   rw[c3]at f1
   have f2:DataW.trod enc Tryd.prog W 0 (fun _=>true) true m 3 (([c0,c1,c2].drop 2).take (Tryd.prog.cellsOf 3))=some y2:=hf 2 _ rfl
   rw[c3]at f2
   obtain⟨a0,h0⟩:=dY f0
   obtain⟨a1,h1⟩:=dY f1
   obtain⟨a2,h2⟩:=dY f2
   simp at h0 h1 h2
   subst h0 h1 h2
   exact⟨⟨a0,a1,a2⟩,aB.cons (.raw _)<|aB.cons (.raw _)<|aB.cons (.raw _) (aB.nil _ _)⟩
set_option maxRecDepth 100000 in
theorem s0{base:Nat}{v:Value}{d:DataW H}{p:List MemPlace}(hv:Value.okWide Tryd.prog W .any base 26 v)(h:DataW.Trod enc Tryd.prog W 0 (fun _=>true) true 26 v d p):∃l,bK EN W v (ko l):=by
 obtain⟨a,len,cap,rfl⟩:=okWide_slice Tryd.underlying26 hv
 obtain⟨fuel,hf⟩:=h
 exact gQ (f:=kP) (s:=3) Tryd.underlying26 (by kernel_rfl) (by omega) (fun n cs y hy hl=>uD hy hl) hf
end
end
end PW
end Go.Proofs.YteikppbedmmdnaaDoor
namespace Go.Proofs.YteikppbedmmdnaaDoor.tableIncremental
open Go.ChangeShapes Go.WideShapes Go.ChangeAt Go.RowKit
open cX Mem PW
set_option maxRecDepth 100000 in
theorem lifted(os:Os)(started:os.Started)(H:Type)(enc:TypeId×Value→H):
  ReturnsInHanded {} Tryd.checked os 3 .any (fun w args=>(Rows.tableIncrementalSpec.pre enc Tryd.prog Tryd.f3 [] false w args∧laidMetH Tryd.prog Rows.tableIncrementalRow.laid w)∧sizedMet enc Tryd.prog Tryd.f3 (OpenSpec.ofChange Rows.tableIncrementalSpec) false w args)
   (Rows.tableIncrementalSpec.post enc Tryd.prog Tryd.f3 false true false false):=by
 refine returnsInHanded_of_change_and (C:=Tryd.checked) (X:=fun w _=>laidMetH Tryd.prog Rows.tableIncrementalRow.laid w) (fun _ _ _ hh h=>h.of_heap hh) own started (by kernel_rfl) Tryd.func3
  (ChangeSpec.witness_shaped (enc:=enc) (C:=Tryd.checked) (os:=os) (X:=fun w _=>laidMetH Tryd.prog Rows.tableIncrementalRow.laid w) false (World.doorLaid Tryd.prog 400 os) #[.agg #[.int .i64 0,.slice none 0 0,.slice none 0 0],.slice none 0 0,.int .i64 0,.slice none 0 0] 8 rfl (World.shaped_of_RefB (by kernel_rfl) (by kernel_rfl)) (by kernel_rfl) (by kernel_rfl) (by kernel_rfl) (laidMetH_of_parts3 (fuel:=8) (laidMet_of_run' 8 (by kernel_rfl) (by kernel_rfl)) (by kernel_rfl) (by kernel_rfl))) ?_
 intro W base args ds gs before hval0 hW _ _ hL _
 have hval:∀(j:Nat) t v,Tryd.f3.params[j]? =some t→args[j]? =some v→Value.okWide Tryd.prog W .any base t v:=hval0
 have hW':=hW
 obtain⟨p,q,hA0,hV,rfl,hfz,hnd⟩:=hW
 have hA:DataW.TrodAll enc Tryd.prog W 0 (fun _=>true) true Tryd.f3.params.toList args.toList ds p:=hA0
 rw[Tryd.params3]at hA hval
 obtain⟨v0,vs0,d0,ds0,p0,q0,hargs,rfl,rfl,h0,r0⟩:=trodAll_cons hA
 obtain⟨v1,vs1,d1,ds1,p1,q1,rfl,rfl,rfl,h1,r1⟩:=trodAll_cons r0
 obtain⟨v2,vs2,d2,ds2,p2,q2,rfl,rfl,rfl,h2,r2⟩:=trodAll_cons r1
 obtain⟨v3,vs3,d3,ds3,p3,q3,rfl,rfl,rfl,h3,r3⟩:=trodAll_cons r2
 obtain⟨rfl,rfl,rfl⟩:=trodAll_nil r3
 obtain rfl:args= #[v0,v1,v2,v3]:=by cases args;simp_all
 obtain⟨rfl,rfl⟩:=trodVars_none hV
 have lt0:=pL h0
 obtain⟨T,R0⟩:=tI (hval 0 25 v0 rfl rfl) h0
 have lt1:=pL h1
 obtain⟨D,R1⟩:=qB (hval 1 22 v1 rfl rfl) h1
 have lt2:=pL h2
 obtain⟨d,R2⟩:=tg (hval 2 3 v2 rfl rfl) h2
 have lt3:=pL h3
 obtain⟨l,R3⟩:=s0 (hval 3 26 v3 rfl rfl) h3
 clear hA0 hval0
 refine((oI T D d l) (fun _=>False) W #[v0,v1,v2,v3] (fun _ h=>h.elim) (pM hL) (aB.cons R0 (aB.cons R1 (aB.cons R2 (aB.cons R3 (aB.nil _ _)))))).mono fun e W' ⟨x,he,bel,r,hr,hx⟩=>?_
 subst hr
 cases hx
 subst he
 exact⟨_,rfl,_,_,_,[],_,[],hW',trodAll_mk1 (shut_bool Tryd.underlying4 _),(trodAll_cons_mk (Below.trod laidOut (by kernel_rfl) (of_decide_eq_true (by kernel_rfl)) h0 bel lt0) (trodAll_cons_mk (Below.trod laidOut (by kernel_rfl) (of_decide_eq_true (by kernel_rfl)) h1 bel lt1) (trodAll_cons_mk (Below.trod laidOut (by kernel_rfl) (of_decide_eq_true (by kernel_rfl)) h2 bel lt2) (trodAll_cons_mk (Below.trod laidOut (by kernel_rfl) (of_decide_eq_true (by kernel_rfl)) h3 bel lt3) trodAll_mk0)))),rfl,bel.frame _,fun h=>by cases h⟩
set_option maxRecDepth 100000 in
theorem vJ:(Rows.tableIncrementalRow.inPlace==Tryd.prog.inPlace 3)=true:=by kernel_rfl
set_option maxRecDepth 100000 in
theorem vM:(Rows.tableIncrementalRow.unfollowed==Tryd.prog.unfollowed 3)=true:=by kernel_rfl
set_option maxRecDepth 100000 in
theorem vW:(Rows.tableIncrementalRow.recurses==Tryd.prog.recurses 3)=true:=by kernel_rfl
set_option maxRecDepth 100000 in
theorem vT:(Rows.tableIncrementalRow.named==Tryd.prog.varsNamed 3)=true:=by kernel_rfl
set_option maxRecDepth 100000 in
theorem closed:joinedFacts Tryd.prog 3 Tryd.f3 Rows.tableIncrementalSpec Rows.tableIncrementalRow=true:=by
 unfold joinedFacts
 rw[vJ,vM,vW,vT]
 kernel_rfl
theorem over:Rows.tableIncrementalRow.holds Tryd.pinned (OpenSpec.ofChange Rows.tableIncrementalSpec):=
 OpenClaim.holds_of_wide 3 Tryd.f3 rfl rfl rfl rfl rfl rfl rfl ⟨rfl,rfl,rfl,rfl,rfl⟩ rfl rfl rfl rfl rfl (by kernel_rfl) Tryd.func3 closed
  (of_decide_eq_true (by kernel_rfl)) (by unfold Func.isWrapper;first|(rw[if_pos (by decide+kernel)];kernel_rfl)|(rw[if_neg (by decide+kernel)];exact⟨rfl,rfl⟩))
  (fun os started H enc _=>lifted os started H enc)
theorem proved:Rows.TableIncrementalCardSaid:=
 Claim7.holds_tied_plain_at .later [] [.data,.data,.data] true (true,"81118e64488adece91830265995f950564e19da05e4b8517defef81b54d8d195") false
  over (fun _ h=>by cases h) (by kernel_rfl) (fun _ h=>by cases h) tableIncremental_row_tie rfl ⟨rfl,rfl⟩ (by kernel_rfl) rfl
  (fun f fn hf hfn=>by
   obtain rfl:f=3:=Option.some.inj ((show Tryd.prog.funcNamed "waypoint/waypointlaw22.TableIncremental" =some 3 by kernel_rfl).symm.trans hf) |>.symm
   obtain rfl:fn=Tryd.f3:=(Option.some.inj (Tryd.func3.symm.trans hfn)).symm
   exact⟨by kernel_rfl,fun j t ht=>by
    rw[Tryd.params3]at ht
    have hm:t∈[25,22,3,26]:=by simpa using Array.mem_of_getElem? ht
    have hall:([25,22,3,26].all fun u=> !Tryd.prog.wantsStandIn u)=true:=by kernel_rfl
    exact(show Tryd.prog.wantsStandIn t=false by simpa using List.all_eq_true.1 hall t hm)⟩)
  (by kernel_rfl)
end Go.Proofs.YteikppbedmmdnaaDoor.tableIncremental
