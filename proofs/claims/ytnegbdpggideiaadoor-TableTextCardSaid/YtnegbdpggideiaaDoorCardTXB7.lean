/- TableText returns true for every input: wherever a table is not too wide and its segments have texts, its text is that of the reference. Package-level tables start as the program's text lays them. -/
import Derived.SizedLaws
import Derived.Test.YtnegbdpggideiaaDoorCardTXB6
set_option linter.unusedVariables false
set_option linter.unusedSimpArgs false
set_option maxRecDepth 10000
set_option maxHeartbeats 1000000
namespace Go.Proofs.YtnegbdpggideiaaDoor
namespace PW
section
open Go.RowKit bm Mem Net
def bP(l:List Int):List (List UInt8):=l.map Lib.itoa
theorem aQ(l:List Int)(hl:l.length≤1000)(h64:∀n∈l,In64 n):Can Tryd.prog 22 [aR l] (· =dG (bP l)):=by
 refine aY Tryd.func22 I Tryd.ntmps22 I<|ai (.a 1 I<|.k [0] I)<|ai (.a 1 I<|.k [0,3] I)<|fB 3 9 1 I ?_
 refine ak<|ai (.a 3 I<|.k [3,6,7,8] I)<|aB<|gU [3,6,7,8] I<|bz (fun r s=>∃i,i≤l.length∧r=l.length - i∧s=⟨[(3,.own 0),(6,aR l),(7,num l.length),(8,num i)],[some (.row 9 1 i (aT (bP (l.take i))))]⟩) l.length ⟨0,by omega,by omega,rfl⟩ ?_
 rintro r s ⟨i,hi,rfl,rfl⟩
 refine ai (.a 1 I<|.k [3,6,7,8,9] I)<|ak<|aq I (fun hc=>?_) (fun hc=>?_)
 ·have hlt:i<l.length:=by have:=of_decide_eq_true hc;omega
  have hn:=h64 _ (cA (d:=0) hlt)
  have hst:bP (l.take (i+1))=bP (l.take i)++[Lib.itoa (l.getD i 0)]:=by
   unfold bP
   rw[de l i 0 hlt,List.map_append]
   rfl
  refine au<|ak<|aB<|ai (.v (bf (i) I) I<|.v (aN I (aM l i hlt)) I<|.a 1 I<|.k [3,5,6,7,8] I)<|a6<|aK 2 I<|j4 I (cV _ hn) I<|aK 1 I<|aO (ax I (aV.rk.get I) I I I I (by unfold maxLen;omega)) I<|aK 1 I ?_
  refine c5 [1] (.c 3<|.c 6<|.c 7<|.c 8<|.nil) (.kept rfl (.du rfl (dQ _ _))<|.nil) I I (ab ?_)
  refine aE (.v (bA I) I<|.a 1 I<|.k [3,6,7,8] I) ?_
  refine⟨l.length - (i+1),by omega,i+1,by omega,rfl,?_⟩
  rw[hst]
  rfl
 ·have hie:i=l.length:=by have:=of_decide_eq_false hc;omega
  subst hie
  refine bh<|ai (.a 2 I<|.k [2] I)<|aF<|⟨_,_,aL.of I,aW.gH rfl aI.pure,?_⟩
  rw[List.take_length]
  unfold dG
  rw[show(bP l).length=l.length by simp[bP]]
def eu(l:List gn):List (List UInt8):=l.map la
def lV(d:Nat)(e:ev):List (List UInt8):=[[116,111],Lib.itoa (d:Int),[111,118,101,114]]++bP e.aH
def oO(e:ev):List (List UInt8):=if e.rep=true then [[112,117,115,104]]++eu e.push else []
theorem join_append(w:List UInt8)(ws vs:List (List UInt8)):Lib.join ((w::ws)++vs) [32]=Lib.join (w::ws) [32]++vs.flatMap (fun v=>32::v):=by
 rw[List.cons_append,join_cons,join_cons,List.flatMap_append,List.append_assoc]
theorem iD(l:List Int):(bP l).flatMap (fun v=>32::v)=eI l:=by
 unfold bP eI
 rw[List.flatMap_map]
theorem mX(l:List gn):(eu l).flatMap (fun v=>32::v)=fj l:=by
 unfold eu fj
 rw[List.flatMap_map]
theorem om(d:Nat)(e:ev):br (lV d e++oO e)=(nM d e++pr e)++[10]:=by
 have h1:Lib.join (lV d e) [32]=nM d e:=by
  unfold lV nM
  rw[show([[116,111],Lib.itoa (d:Int),[111,118,101,114]]++bP e.aH:List (List UInt8))=([116,111]::[Lib.itoa (d:Int),[111,118,101,114]])++bP e.aH from rfl,join_append,iD,join_cons]
  simp
 unfold br
 rw[show lV d e++oO e=([116,111]::([Lib.itoa (d:Int),[111,118,101,114]]++bP e.aH))++oO e from rfl,join_append]
 have h2:Lib.join ([116,111]::([Lib.itoa (d:Int),[111,118,101,114]]++bP e.aH)) [32]=nM d e:=h1
 rw[h2]
 have h3:(oO e).flatMap (fun v=>32::v)=pr e:=by
  unfold oO pr
  split
  ·rw[List.flatMap_append,mX];simp
  ·rfl
 rw[h3]
theorem nx(x:iK):br [[116,97,98,108,101],Lib.itoa x.node]=fF x:=by
 unfold br fF
 rw[join_cons]
 simp
theorem jO(l:List Int):br ([100,111,119,110]::bP l)=([100,111,119,110]++eI l)++[10]:=by
 unfold br
 rw[join_cons,iD]
section
variable {x:iK} (hx:ph x)
set_option maxHeartbeats 4000000 in
include hx in
theorem mS:Can Tryd.prog 8 [fW x] (· =ed (kz x)):=by
 have h70:=hx.az
 have hhl:=jl hx
 obtain⟨H,hH⟩:∃H,fF x=H:=⟨_,rfl⟩
 have hlh:=(nx x).trans hH
 unfold kz
 rw[hH]at hhl ⊢
 refine aY Tryd.func8 I Tryd.ntmps8 I<|ai (.a 2 I<|.k [1] I)<|bp<|aK 1 I<|bd [1,3] I ?_
 refine bD 0 1 5 1 I I ?_
 refine cE (σ':=e9 1 false []) I ?_
 refine bp<|aK 1 I<|an (aN I ((rfl:(cP x)[0]? =some (num x.node)))) I<|j4 I (cV x.node hx.node) I<|aK 1 I<|bQ I I (bG.mono (dv false [] [[116,97,98,108,101],Lib.itoa x.node] (by simp) (by rw[hlh];simp only[List.length_nil];omega)) (fun _ σ' h=>?_))
 (subst h;rw[hlh,List.nil_append])
 refine bd [1,3] I ?_
 refine dR (.cons 1 I Ren.pure<|.cons 3 I (Ren.ptr (i:=0) I)<|.nil) ?_
 refine ak<|ai (.a 4 I<|.k [1,3,15,16,17] I)<|aB<|gU [1,3,15,16,17] I<|bz (fun r s=>∃k,k≤x.az.length∧r=x.az.length - k∧s=⟨[(1,.bT (cP x) 0),(3,.ptr 0 0),(15,cS x.az),(16,num x.az.length),(17,num k)],e9 1 true (H++cU x.az k)⟩) x.az.length ⟨0,by omega,by omega,by simp[cU]⟩ ?_
 rintro r s ⟨k,hk,rfl,rfl⟩
 have hel:=jy hx k hk
 have hZ0:(H++cU x.az k).length≤950000:=by rw[List.length_append];omega
 refine ai (.a 1 I<|.k [1,3,15,16,17,18] I)<|ak<|aq I (fun hc=>?_) (fun hc=>?_)
 ·have hlt:k<x.az.length:=by have:=of_decide_eq_true hc;omega
  obtain⟨e,he⟩:∃e,x.az[k]? =some e:=⟨x.az[k],by simp[hlt]⟩
  obtain⟨ha,hp,h64,hsg⟩:=hx.qv e (List.mem_of_getElem? he)
  have hst:=fh x.az k e he
  obtain⟨cr,hcr⟩:∃c,e.rep=c:=⟨_,rfl⟩
  refine au<|ak<|aB<|bp<|aK 1 I<|an (bf (k*3) I) I<|an (db I (aV.tk.get I) I (dH x.az k e he) I) I<|aK 2 I<|bc (ee I (aV.tk.get I) I I I I I (Nat.le_of_ble_eq_true rfl)) I I<|bd [1,3,4,5,15,16,17] I ?_
  obtain⟨Z0,hZ⟩:∃Z,H++cU x.az k=Z:=⟨_,rfl⟩
  rw[hZ]at hZ0 ⊢
  refine cE (σ':=e9 1 true Z0++[some (.cells 30 (b6 e))]) I ?_
  refine cq 5 2 0 I I ?_
  refine b0 [0,1] (.cons 1 I Ren.pure<|.cons 3 I (Ren.ptr (i:=0) I)<|.cons 4 I Ren.pure<|.cons 5 I Ren.pure<|.cons 15 I Ren.pure<|.cons 16 I Ren.pure<|.cons 17 I Ren.pure<|.nil) (.kept rfl (.cells (aw.cons (Ren.ptr (i:=0) I)<|aw.cons (Ren.own (i:=1) I) aw.nil))<|.kept rfl (.row aw.pure)<|.nil) I I ?_
  refine ak<|ai (.a 1 I<|.v (aN I ((rfl:(b6 e)[0]? =some (aR e.aH)))) I<|.a 2 I<|.k [1,3,4,5,15,16,17,25] I)<|aq I (fun hc=>?_) (fun hc=>?_)
  ·have harc:e.aH=[]:=List.eq_nil_of_length_eq_zero (by have:=of_decide_eq_true hc;omega)
   rw[show gG k e=[] by unfold gG;rw[if_pos harc],List.append_nil]at hst
   rw[←hZ,←hst]
   refine bh<|aE (.v (bA I) I<|.a 1 I<|.k [1,3,15,16,17] I) ?_
   exact⟨x.az.length - (k+1),by omega,k+1,by omega,rfl,rfl⟩
  ·have harc:e.aH≠[]:=fun h=>by have:=of_decide_eq_false hc;rw[h]at this;exact this rfl
   have hnl:(bP e.aH).length=e.aH.length:=by simp[bP]
   have helen:=kp (d:=k) (e:=e) (by omega) ha hp h64
   have hle:=om k e
   rw[show gG k e=br (lV k e++oO e) by rw[hle];unfold gG;rw[if_neg harc]]at hst helen
   have hfin:H++cU x.az (k+1)=Z0++br (lV k e++oO e):=by rw[hst,←hZ,List.append_assoc]
   refine au<|iR ([(1,.bT (cP x) 0),(3,.ptr 0 0),(5,.bT (b6 e) 0),(6,.own 3),(15,cS x.az),(16,num x.az.length),(17,num k)]) ([some (.cells 67 [.ptr 0 0,.own 1]),some (.row 5 1 Z0.length (bS Z0)),none,some (.row 9 1 (3+(bP e.aH).length) (aT (lV k e)))]) mixed ?_ ?_
   ·refine ae 0 [3] (by kernel_rfl) ?_
    refine aa I I (an (bg I) I (ab ?_)) ?_
    ·refine ae 1 [3] (by kernel_rfl) ?_
     refine aa I I (an (cH I (cV (k:Int) (by unfold In64;omega))) I (ab ?_)) ?_
     ·refine ae 2 [3] (by kernel_rfl) ?_
      refine aa I I (aO (aj (xs:=[_,_,_]) I (aV.sl.get I) ⟨Nat.le_of_ble_eq_true rfl,Nat.le_of_ble_eq_true rfl⟩ rfl rfl) I (ab ?_)) ?_
      ·refine ae 3 [] (by kernel_rfl) ?_
       refine aa I I (an (bg I) I (ab ?_)) ad
       refine ae 4 [] (by kernel_rfl) ?_
       refine aa I I (an (aN I ((rfl:(b6 e)[0]? =some (aR e.aH)))) I (ab ?_)) ad
       refine ae 5 [] (by kernel_rfl) ?_
       refine aa I I (an (cH I (aQ e.aH (by omega) h64)) I (ab ?_)) ad
       refine ae 6 [] (by kernel_rfl) ?_
       refine aa I I (aO (ax I (aV.rk.get I) I I I (by simp[aT]) ⟨by unfold maxLen;omega,by omega⟩) I (ab ?_)) ad
       refine ae 7 [] (by kernel_rfl) ?_
       refine aa I I (an (bg I) I (ab ?_)) ad
       exact aU (by kernel_rfl) ⟨rfl,al (ks:=[1,3,5,6,15,16,17]) I⟩
      refine aa I I (an (bg I) I (ab ?_)) ad
      refine ae 2 [4] (by kernel_rfl) ?_
      refine aa I I (aO (aj (xs:=[_,_,_]) I (aV.sl.get I) ⟨Nat.le_of_ble_eq_true rfl,Nat.le_of_ble_eq_true rfl⟩ rfl rfl) I (ab ?_)) ?_
      ·refine ae 4 [] (by kernel_rfl) ?_
       refine aa I I (an (aN I ((rfl:(b6 e)[0]? =some (aR e.aH)))) I (ab ?_)) ad
       refine ae 5 [] (by kernel_rfl) ?_
       refine aa I I (an (cH I (aQ e.aH (by omega) h64)) I (ab ?_)) ad
       refine ae 6 [] (by kernel_rfl) ?_
       refine aa I I (aO (ax I (aV.rk.get I) I I I (by simp[aT]) ⟨by unfold maxLen;omega,by omega⟩) I (ab ?_)) ad
       refine ae 7 [] (by kernel_rfl) ?_
       refine aa I I (an (bg I) I (ab ?_)) ad
       exact aU (by kernel_rfl) ⟨rfl,al (ks:=[1,3,5,6,15,16,17]) I⟩
      refine aa I I (an (aN I ((rfl:(b6 e)[0]? =some (aR e.aH)))) I (ab ?_)) ad
      refine ae 2 [5] (by kernel_rfl) ?_
      refine aa I I (aO (aj (xs:=[_,_,_]) I (aV.sl.get I) ⟨Nat.le_of_ble_eq_true rfl,Nat.le_of_ble_eq_true rfl⟩ rfl rfl) I (ab ?_)) ?_
      ·refine ae 5 [] (by kernel_rfl) ?_
       refine aa I I (an (cH I (aQ e.aH (by omega) h64)) I (ab ?_)) ad
       refine ae 6 [] (by kernel_rfl) ?_
       refine aa I I (aO (ax I (aV.rk.get I) I I I (by simp[aT]) ⟨by unfold maxLen;omega,by omega⟩) I (ab ?_)) ad
       refine ae 7 [] (by kernel_rfl) ?_
       refine aa I I (an (bg I) I (ab ?_)) ad
       exact aU (by kernel_rfl) ⟨rfl,al (ks:=[1,3,5,6,15,16,17]) I⟩
      refine aa I I (an (cH I (aQ e.aH (by omega) h64)) I (ab ?_)) ad
      refine ae 2 [] (by kernel_rfl) ?_
      refine aa I I (aO (aj (xs:=[_,_,_]) I (aV.sl.get I) ⟨Nat.le_of_ble_eq_true rfl,Nat.le_of_ble_eq_true rfl⟩ rfl rfl) I (ab ?_)) ad
      refine ae 6 [] (by kernel_rfl) ?_
      refine aa I I (aO (ax I (aV.rk.get I) I I I (by simp[aT]) ⟨by unfold maxLen;omega,by omega⟩) I (ab ?_)) ad
      refine ae 7 [] (by kernel_rfl) ?_
      refine aa I I (an (bg I) I (ab ?_)) ad
      exact aU (by kernel_rfl) ⟨rfl,al (ks:=[1,3,5,6,15,16,17]) I⟩
     refine aa I I (an (bg I) I (ab ?_)) ad
     refine ae 1 [4] (by kernel_rfl) ?_
     refine aa I I (an (cH I (cV (k:Int) (by unfold In64;omega))) I (ab ?_)) ?_
     ·refine ae 2 [4] (by kernel_rfl) ?_
      refine aa I I (aO (aj (xs:=[_,_,_]) I (aV.sl.get I) ⟨Nat.le_of_ble_eq_true rfl,Nat.le_of_ble_eq_true rfl⟩ rfl rfl) I (ab ?_)) ?_
      ·refine ae 4 [] (by kernel_rfl) ?_
       refine aa I I (an (aN I ((rfl:(b6 e)[0]? =some (aR e.aH)))) I (ab ?_)) ad
       refine ae 5 [] (by kernel_rfl) ?_
       refine aa I I (an (cH I (aQ e.aH (by omega) h64)) I (ab ?_)) ad
       refine ae 6 [] (by kernel_rfl) ?_
       refine aa I I (aO (ax I (aV.rk.get I) I I I (by simp[aT]) ⟨by unfold maxLen;omega,by omega⟩) I (ab ?_)) ad
       refine ae 7 [] (by kernel_rfl) ?_
       refine aa I I (an (bg I) I (ab ?_)) ad
       exact aU (by kernel_rfl) ⟨rfl,al (ks:=[1,3,5,6,15,16,17]) I⟩
      refine aa I I (an (aN I ((rfl:(b6 e)[0]? =some (aR e.aH)))) I (ab ?_)) ad
      refine ae 2 [5] (by kernel_rfl) ?_
      refine aa I I (aO (aj (xs:=[_,_,_]) I (aV.sl.get I) ⟨Nat.le_of_ble_eq_true rfl,Nat.le_of_ble_eq_true rfl⟩ rfl rfl) I (ab ?_)) ?_
      ·refine ae 5 [] (by kernel_rfl) ?_
       refine aa I I (an (cH I (aQ e.aH (by omega) h64)) I (ab ?_)) ad
       refine ae 6 [] (by kernel_rfl) ?_
       refine aa I I (aO (ax I (aV.rk.get I) I I I (by simp[aT]) ⟨by unfold maxLen;omega,by omega⟩) I (ab ?_)) ad
       refine ae 7 [] (by kernel_rfl) ?_
       refine aa I I (an (bg I) I (ab ?_)) ad
       exact aU (by kernel_rfl) ⟨rfl,al (ks:=[1,3,5,6,15,16,17]) I⟩
      refine aa I I (an (cH I (aQ e.aH (by omega) h64)) I (ab ?_)) ad
      refine ae 2 [] (by kernel_rfl) ?_
      refine aa I I (aO (aj (xs:=[_,_,_]) I (aV.sl.get I) ⟨Nat.le_of_ble_eq_true rfl,Nat.le_of_ble_eq_true rfl⟩ rfl rfl) I (ab ?_)) ad
      refine ae 6 [] (by kernel_rfl) ?_
      refine aa I I (aO (ax I (aV.rk.get I) I I I (by simp[aT]) ⟨by unfold maxLen;omega,by omega⟩) I (ab ?_)) ad
      refine ae 7 [] (by kernel_rfl) ?_
      refine aa I I (an (bg I) I (ab ?_)) ad
      exact aU (by kernel_rfl) ⟨rfl,al (ks:=[1,3,5,6,15,16,17]) I⟩
     refine aa I I (an (aN I ((rfl:(b6 e)[0]? =some (aR e.aH)))) I (ab ?_)) ad
     refine ae 1 [] (by kernel_rfl) ?_
     refine aa I I (an (cH I (cV (k:Int) (by unfold In64;omega))) I (ab ?_)) ad
     refine ae 2 [5] (by kernel_rfl) ?_
     refine aa I I (aO (aj (xs:=[_,_,_]) I (aV.sl.get I) ⟨Nat.le_of_ble_eq_true rfl,Nat.le_of_ble_eq_true rfl⟩ rfl rfl) I (ab ?_)) ?_
     ·refine ae 5 [] (by kernel_rfl) ?_
      refine aa I I (an (cH I (aQ e.aH (by omega) h64)) I (ab ?_)) ad
      refine ae 6 [] (by kernel_rfl) ?_
      refine aa I I (aO (ax I (aV.rk.get I) I I I (by simp[aT]) ⟨by unfold maxLen;omega,by omega⟩) I (ab ?_)) ad
      refine ae 7 [] (by kernel_rfl) ?_
      refine aa I I (an (bg I) I (ab ?_)) ad
      exact aU (by kernel_rfl) ⟨rfl,al (ks:=[1,3,5,6,15,16,17]) I⟩
     refine aa I I (an (cH I (aQ e.aH (by omega) h64)) I (ab ?_)) ad
     refine ae 2 [] (by kernel_rfl) ?_
     refine aa I I (aO (aj (xs:=[_,_,_]) I (aV.sl.get I) ⟨Nat.le_of_ble_eq_true rfl,Nat.le_of_ble_eq_true rfl⟩ rfl rfl) I (ab ?_)) ad
     refine ae 6 [] (by kernel_rfl) ?_
     refine aa I I (aO (ax I (aV.rk.get I) I I I (by simp[aT]) ⟨by unfold maxLen;omega,by omega⟩) I (ab ?_)) ad
     refine ae 7 [] (by kernel_rfl) ?_
     refine aa I I (an (bg I) I (ab ?_)) ad
     exact aU (by kernel_rfl) ⟨rfl,al (ks:=[1,3,5,6,15,16,17]) I⟩
    refine aa I I (an (bg I) I (ab ?_)) ad
    refine ae 0 [4] (by kernel_rfl) ?_
    refine aa I I (an (bg I) I (ab ?_)) ?_
    ·refine ae 1 [4] (by kernel_rfl) ?_
     refine aa I I (an (cH I (cV (k:Int) (by unfold In64;omega))) I (ab ?_)) ?_
     ·refine ae 2 [4] (by kernel_rfl) ?_
      refine aa I I (aO (aj (xs:=[_,_,_]) I (aV.sl.get I) ⟨Nat.le_of_ble_eq_true rfl,Nat.le_of_ble_eq_true rfl⟩ rfl rfl) I (ab ?_)) ?_
      ·refine ae 4 [] (by kernel_rfl) ?_
       refine aa I I (an (aN I ((rfl:(b6 e)[0]? =some (aR e.aH)))) I (ab ?_)) ad
       refine ae 5 [] (by kernel_rfl) ?_
       refine aa I I (an (cH I (aQ e.aH (by omega) h64)) I (ab ?_)) ad
       refine ae 6 [] (by kernel_rfl) ?_
       refine aa I I (aO (ax I (aV.rk.get I) I I I (by simp[aT]) ⟨by unfold maxLen;omega,by omega⟩) I (ab ?_)) ad
       refine ae 7 [] (by kernel_rfl) ?_
       refine aa I I (an (bg I) I (ab ?_)) ad
       exact aU (by kernel_rfl) ⟨rfl,al (ks:=[1,3,5,6,15,16,17]) I⟩
      refine aa I I (an (aN I ((rfl:(b6 e)[0]? =some (aR e.aH)))) I (ab ?_)) ad
      refine ae 2 [5] (by kernel_rfl) ?_
      refine aa I I (aO (aj (xs:=[_,_,_]) I (aV.sl.get I) ⟨Nat.le_of_ble_eq_true rfl,Nat.le_of_ble_eq_true rfl⟩ rfl rfl) I (ab ?_)) ?_
      ·refine ae 5 [] (by kernel_rfl) ?_
       refine aa I I (an (cH I (aQ e.aH (by omega) h64)) I (ab ?_)) ad
       refine ae 6 [] (by kernel_rfl) ?_
       refine aa I I (aO (ax I (aV.rk.get I) I I I (by simp[aT]) ⟨by unfold maxLen;omega,by omega⟩) I (ab ?_)) ad
       refine ae 7 [] (by kernel_rfl) ?_
       refine aa I I (an (bg I) I (ab ?_)) ad
       exact aU (by kernel_rfl) ⟨rfl,al (ks:=[1,3,5,6,15,16,17]) I⟩
      refine aa I I (an (cH I (aQ e.aH (by omega) h64)) I (ab ?_)) ad
      refine ae 2 [] (by kernel_rfl) ?_
      refine aa I I (aO (aj (xs:=[_,_,_]) I (aV.sl.get I) ⟨Nat.le_of_ble_eq_true rfl,Nat.le_of_ble_eq_true rfl⟩ rfl rfl) I (ab ?_)) ad
      refine ae 6 [] (by kernel_rfl) ?_
      refine aa I I (aO (ax I (aV.rk.get I) I I I (by simp[aT]) ⟨by unfold maxLen;omega,by omega⟩) I (ab ?_)) ad
      refine ae 7 [] (by kernel_rfl) ?_
      refine aa I I (an (bg I) I (ab ?_)) ad
      exact aU (by kernel_rfl) ⟨rfl,al (ks:=[1,3,5,6,15,16,17]) I⟩
     refine aa I I (an (aN I ((rfl:(b6 e)[0]? =some (aR e.aH)))) I (ab ?_)) ad
     refine ae 1 [] (by kernel_rfl) ?_
     refine aa I I (an (cH I (cV (k:Int) (by unfold In64;omega))) I (ab ?_)) ad
     refine ae 2 [5] (by kernel_rfl) ?_
     refine aa I I (aO (aj (xs:=[_,_,_]) I (aV.sl.get I) ⟨Nat.le_of_ble_eq_true rfl,Nat.le_of_ble_eq_true rfl⟩ rfl rfl) I (ab ?_)) ?_
     ·refine ae 5 [] (by kernel_rfl) ?_
      refine aa I I (an (cH I (aQ e.aH (by omega) h64)) I (ab ?_)) ad
      refine ae 6 [] (by kernel_rfl) ?_
      refine aa I I (aO (ax I (aV.rk.get I) I I I (by simp[aT]) ⟨by unfold maxLen;omega,by omega⟩) I (ab ?_)) ad
      refine ae 7 [] (by kernel_rfl) ?_
      refine aa I I (an (bg I) I (ab ?_)) ad
      exact aU (by kernel_rfl) ⟨rfl,al (ks:=[1,3,5,6,15,16,17]) I⟩
     refine aa I I (an (cH I (aQ e.aH (by omega) h64)) I (ab ?_)) ad
     refine ae 2 [] (by kernel_rfl) ?_
     refine aa I I (aO (aj (xs:=[_,_,_]) I (aV.sl.get I) ⟨Nat.le_of_ble_eq_true rfl,Nat.le_of_ble_eq_true rfl⟩ rfl rfl) I (ab ?_)) ad
     refine ae 6 [] (by kernel_rfl) ?_
     refine aa I I (aO (ax I (aV.rk.get I) I I I (by simp[aT]) ⟨by unfold maxLen;omega,by omega⟩) I (ab ?_)) ad
     refine ae 7 [] (by kernel_rfl) ?_
     refine aa I I (an (bg I) I (ab ?_)) ad
     exact aU (by kernel_rfl) ⟨rfl,al (ks:=[1,3,5,6,15,16,17]) I⟩
    refine aa I I (an (aN I ((rfl:(b6 e)[0]? =some (aR e.aH)))) I (ab ?_)) ad
    refine ae 0 [] (by kernel_rfl) ?_
    refine aa I I (an (bg I) I (ab ?_)) ad
    refine ae 1 [] (by kernel_rfl) ?_
    refine aa I I (an (cH I (cV (k:Int) (by unfold In64;omega))) I (ab ?_)) ad
    refine ae 2 [5] (by kernel_rfl) ?_
    refine aa I I (aO (aj (xs:=[_,_,_]) I (aV.sl.get I) ⟨Nat.le_of_ble_eq_true rfl,Nat.le_of_ble_eq_true rfl⟩ rfl rfl) I (ab ?_)) ?_
    ·refine ae 5 [] (by kernel_rfl) ?_
     refine aa I I (an (cH I (aQ e.aH (by omega) h64)) I (ab ?_)) ad
     refine ae 6 [] (by kernel_rfl) ?_
     refine aa I I (aO (ax I (aV.rk.get I) I I I (by simp[aT]) ⟨by unfold maxLen;omega,by omega⟩) I (ab ?_)) ad
     refine ae 7 [] (by kernel_rfl) ?_
     refine aa I I (an (bg I) I (ab ?_)) ad
     exact aU (by kernel_rfl) ⟨rfl,al (ks:=[1,3,5,6,15,16,17]) I⟩
    refine aa I I (an (cH I (aQ e.aH (by omega) h64)) I (ab ?_)) ad
    refine ae 2 [] (by kernel_rfl) ?_
    refine aa I I (aO (aj (xs:=[_,_,_]) I (aV.sl.get I) ⟨Nat.le_of_ble_eq_true rfl,Nat.le_of_ble_eq_true rfl⟩ rfl rfl) I (ab ?_)) ad
    refine ae 6 [] (by kernel_rfl) ?_
    refine aa I I (aO (ax I (aV.rk.get I) I I I (by simp[aT]) ⟨by unfold maxLen;omega,by omega⟩) I (ab ?_)) ad
    refine ae 7 [] (by kernel_rfl) ?_
    refine aa I I (an (bg I) I (ab ?_)) ad
    exact aU (by kernel_rfl) ⟨rfl,al (ks:=[1,3,5,6,15,16,17]) I⟩
   refine b0 [0,1,3] (.cons 1 I Ren.pure<|.cons 3 I (Ren.ptr (i:=0) I)<|.cons 5 I Ren.pure<|.cons 6 I (Ren.own (i:=2) I)<|.cons 15 I Ren.pure<|.cons 16 I Ren.pure<|.cons 17 I Ren.pure<|.nil) (.kept rfl (.cells (aw.cons (Ren.ptr (i:=0) I)<|aw.cons (Ren.own (i:=1) I) aw.nil))<|.kept rfl (.row aw.pure)<|.kept rfl (.row aw.pure)<|.nil) I I ?_
   have hhw:3+(bP e.aH).length=(lV k e).length:=by unfold lV;simp;omega
   rw[hhw]
   have hwl:(lV k e).length≤303:=by rw[←hhw];omega
   refine cE (σ':=e9 1 true Z0++[some (.row 9 1 (lV k e).length (aT (lV k e)))]) I ?_
   refine ak<|ai (.a 1 I<|.v (aN I ((show(b6 e)[1]? =some (flag cr) by rw[←hcr];rfl))) I<|.k [1,3,5,6,15,16,17,34] I)<|aq I (fun hc=>?_) (fun hc=>?_)
   ·subst hc
    rw[show oO e=[[112,117,115,104]]++eu e.push by unfold oO;rw[hcr,if_pos rfl],←List.append_assoc]at hfin helen
    refine bp<|aK 2 I<|aO (ax (m:=1) (ys:=[ed [112,117,115,104]]) I (aV.rk.get I) I I I I ⟨by unfold maxLen;omega,by omega⟩) I<|aK 1 I<|bd [1,3,5,6,15,16,17] I ?_
    refine b0 [0,1,3] (.cons 1 I Ren.pure<|.cons 3 I (Ren.ptr (i:=0) I)<|.cons 5 I Ren.pure<|.cons 6 I (Ren.own (i:=2) I)<|.cons 15 I Ren.pure<|.cons 16 I Ren.pure<|.cons 17 I Ren.pure<|.nil) (.kept rfl (.cells (aw.cons (Ren.ptr (i:=0) I)<|aw.cons (Ren.own (i:=1) I) aw.nil))<|.kept rfl (.row aw.pure)<|.kept rfl (.row aw.pure)<|.nil) I I ?_
    obtain⟨WP,hWP⟩:∃W,lV k e++[[112,117,115,104]]=W:=⟨_,rfl⟩
    have hWPl:(lV k e).length+1=WP.length:=by rw[←hWP];simp
    rw[hWP]at hfin helen
    refine cE (σ':=e9 1 true Z0++[some (.row 9 1 WP.length (aT WP))]) (by rw[←hWP,←dQ];simp;rfl) ?_
    refine ai (.a 1 I<|.v (aN I ((rfl:(b6 e)[2]? =some (ek e.push)))) I<|.a 2 I<|.k [1,3,6,15,16,17,39,40,41] I)<|aB<|gU [1,3,6,15,16,17,39,40,41] I<|bz (fun r st=>∃i:Nat,i≤e.push.length∧r=e.push.length - i∧st=⟨[(1,.bT (cP x) 0),(3,.ptr 0 0),(6,.own 2),(15,cS x.az),(16,num x.az.length),(17,num k),(39,ek e.push),(40,num e.push.length),(41,num i)],e9 1 true Z0++[some (.row 9 1 (WP++eu (e.push.take i)).length (aT (WP++eu (e.push.take i))))]⟩) e.push.length ⟨0,by omega,by omega,by simp[eu]⟩ ?_
    rintro r st ⟨i,hi,rfl,rfl⟩
    have hti:(WP++eu (e.push.take i)).length≤700:=by unfold eu;simp;omega
    refine ai (.a 1 I<|.k [1,3,6,15,16,17,39,40,41,42] I)<|ak<|aq I (fun hc=>?_) (fun hc=>?_)
    ·have hlt2:i<e.push.length:=by have:=of_decide_eq_true hc;omega
     obtain⟨sg,hsgi⟩:∃s,e.push[i]? =some s:=⟨_,List.getElem?_eq_getElem hlt2⟩
     have hok:=hsg sg (List.mem_of_getElem? hsgi)
     have hcan:Can Tryd.prog 23 [oZ sg] (· =ed (la sg)):=by
      obtain⟨kk,h1,h2,h3,h4⟩:=gQ hok
      have h5:la sg=iU ((kk:Int)+1) sg.num:=by unfold la;rw[if_pos hok,h2]
      have h6:sg=⟨(kk:Int)+1,sg.num⟩:=by rw[←h2]
      rw[h5,h6]
      exact oe kk sg.num h1 ⟨h3,h4⟩
     have hps:WP++eu (e.push.take (i+1))=(WP++eu (e.push.take i))++[la sg]:=by
      unfold eu
      rw[List.take_add_one,hsgi,List.map_append]
      simp
     refine au<|ak<|aB<|bp<|an (bf ((i*2)) I) I<|an (nD I (fT e.push i sg hsgi) I) I<|aO (fD I (aV.zk.get I)) I<|bc (ee I (aV.tk.get I) I I I I I (Nat.le_of_ble_eq_true rfl)) I I<|bd [1,3,6,8,15,16,17,39,40,41] I ?_
     refine cE (σ':=e9 1 true Z0++[some (.row 9 1 (WP++eu (e.push.take i)).length (aT (WP++eu (e.push.take i)))),some (.cells 32 (gF sg))]) I ?_
     refine cq 8 3 0 I I ?_
     refine b0 [0,1,2] (.cons 1 I Ren.pure<|.cons 3 I (Ren.ptr (i:=0) I)<|.cons 6 I (Ren.own (i:=2) I)<|.cons 8 I Ren.pure<|.cons 15 I Ren.pure<|.cons 16 I Ren.pure<|.cons 17 I Ren.pure<|.cons 39 I Ren.pure<|.cons 40 I Ren.pure<|.cons 41 I Ren.pure<|.nil) (.kept rfl (.cells (aw.cons (Ren.ptr (i:=0) I)<|aw.cons (Ren.own (i:=1) I) aw.nil))<|.kept rfl (.row aw.pure)<|.kept rfl (.row aw.pure)<|.nil) I I ?_
     refine a6<|aK 2 I<|j4 I (hcan) I<|aK 1 I<|aO (ax (m:=1) (ys:=[ed (la sg)]) I (aV.rk.get I) I I I I ⟨by unfold maxLen;omega,by omega⟩) I<|aK 1 I<|bd [1,3,6,15,16,17,39,40,41] I ?_
     refine b0 [0,1,3] (.cons 1 I Ren.pure<|.cons 3 I (Ren.ptr (i:=0) I)<|.cons 6 I (Ren.own (i:=2) I)<|.cons 15 I Ren.pure<|.cons 16 I Ren.pure<|.cons 17 I Ren.pure<|.cons 39 I Ren.pure<|.cons 40 I Ren.pure<|.cons 41 I Ren.pure<|.nil) (.kept rfl (.cells (aw.cons (Ren.ptr (i:=0) I)<|aw.cons (Ren.own (i:=1) I) aw.nil))<|.kept rfl (.row aw.pure)<|.kept rfl (.row aw.pure)<|.nil) I I ?_
     refine cE (σ':=e9 1 true Z0++[some (.row 9 1 (WP++eu (e.push.take (i+1))).length (aT (WP++eu (e.push.take (i+1)))))]) (by rw[hps];generalize WP++eu (e.push.take i)=A;rw[←dQ,List.length_append];rfl) ?_
     refine aE (.v (bA I) I<|.a 1 I<|.k [1,3,6,15,16,17,39,40,41] I) ?_
     exact⟨e.push.length - (i+1),by omega,i+1,by omega,rfl,rfl⟩
    ·have hie:i=e.push.length:=by have:=of_decide_eq_false hc;omega
     subst hie
     rw[List.take_length]at hti ⊢
     obtain⟨WW,hWW⟩:∃W,WP++eu e.push=W:=⟨_,rfl⟩
     have hWl:WW.length≤1000:=by rw[←hWW];omega
     rw[hWW]at hfin helen ⊢
     refine ki 6 2 I I ?_
     refine b0 [0,1] (.cons 1 I Ren.pure<|.cons 3 I (Ren.ptr (i:=0) I)<|.cons 6 I (Ren.pure (p:=dG WW))<|.cons 15 I Ren.pure<|.cons 16 I Ren.pure<|.cons 17 I Ren.pure<|.nil) (.kept rfl (.cells (aw.cons (Ren.ptr (i:=0) I)<|aw.cons (Ren.own (i:=1) I) aw.nil))<|.kept rfl (.row aw.pure)<|.nil) I I ?_
     refine cE (σ':=e9 1 true Z0) I ?_
     refine bh<|a6<|aK 1 I<|bQ I I (bG.mono (dv true Z0 WW (by omega) (by omega)) (fun _ σ' h=>?_))
     subst h
     refine bd [1,3,15,16,17] I ?_
     refine dR (.cons 1 I Ren.pure<|.cons 3 I (Ren.ptr (i:=0) I)<|.cons 15 I Ren.pure<|.cons 16 I Ren.pure<|.cons 17 I Ren.pure<|.nil) ?_
     rw[←hfin]
     refine aE (.v (bA I) I<|.a 1 I<|.k [1,3,15,16,17] I) ?_
     exact⟨x.az.length - (k+1),by omega,k+1,by omega,rfl,rfl⟩
   ·subst hc
    rw[show oO e=[] by unfold oO;rw[hcr,if_neg (by simp)],List.append_nil]at hfin helen
    obtain⟨WW,hWW⟩:∃W,lV k e=W:=⟨_,rfl⟩
    have hWl:WW.length≤1000:=by rw[←hWW];omega
    rw[hWW]at hfin helen ⊢
    refine ki 6 2 I I ?_
    refine b0 [0,1] (.cons 1 I Ren.pure<|.cons 3 I (Ren.ptr (i:=0) I)<|.cons 6 I (Ren.pure (p:=dG WW))<|.cons 15 I Ren.pure<|.cons 16 I Ren.pure<|.cons 17 I Ren.pure<|.nil) (.kept rfl (.cells (aw.cons (Ren.ptr (i:=0) I)<|aw.cons (Ren.own (i:=1) I) aw.nil))<|.kept rfl (.row aw.pure)<|.nil) I I ?_
    refine cE (σ':=e9 1 true Z0) I ?_
    refine au<|a6<|aK 1 I<|bQ I I (bG.mono (dv true Z0 WW (by omega) (by omega)) (fun _ σ' h=>?_))
    subst h
    refine bd [1,3,15,16,17] I ?_
    refine dR (.cons 1 I Ren.pure<|.cons 3 I (Ren.ptr (i:=0) I)<|.cons 15 I Ren.pure<|.cons 16 I Ren.pure<|.cons 17 I Ren.pure<|.nil) ?_
    rw[←hfin]
    refine aE (.v (bA I) I<|.a 1 I<|.k [1,3,15,16,17] I) ?_
    exact⟨x.az.length - (k+1),by omega,k+1,by omega,rfl,rfl⟩
 ·have hke:k=x.az.length:=by have:=of_decide_eq_false hc;omega
  refine bh<|ak<|ai (.a 1 I<|.v (aN I ((rfl:(cP x)[2]? =some (aR x.down)))) I<|.a 2 I<|.k [1,3,57] I)<|aq I (fun hc=>?_) (fun hc=>?_)
  ·have hdn:x.down≠[]:=fun h=>by have:=of_decide_eq_true hc;rw[h]at this;simp at this
   have hdt:fC x=br ([100,111,119,110]::bP x.down):=by rw[jO];unfold fC;rw[if_neg hdn]
   have hnl:(bP x.down).length=x.down.length:=by simp[bP]
   have hd1:=hx.down.1
   have hnr:=eD x.down hx.down.2
   have hll:(br ([100,111,119,110]::bP x.down)).length≤10000:=by rw[jO];simp only[List.length_append,List.length_cons,List.length_nil];omega
   have h1n:1+(bP x.down).length=([100,111,119,110]::bP x.down).length:=by simp;omega
   refine a6<|aO (aj (xs:=[_]) I (aV.sl.get I) ⟨Nat.le_of_ble_eq_true rfl,Nat.le_of_ble_eq_true rfl⟩ rfl rfl) I<|aK 1 I<|an (aN I ((rfl:(cP x)[2]? =some (aR x.down)))) I<|j4 I (aQ x.down (by omega) hx.down.2) I<|aO (ax I (aV.rk.get I) I I I (by simp[aT]) ⟨by unfold maxLen;omega,by omega⟩) I ?_
   (refine l8 62 3 I I ?_;rw[h1n];refine c5 [0,1] (.cons 3 I (Ren.ptr (i:=0) I)<|.cons 62 I (Ren.pure (p:=dG ([100,111,119,110]::bP x.down)))<|.nil) (.kept rfl (.cells (aw.cons (Ren.ptr (i:=0) I)<|aw.cons (Ren.own (i:=1) I) aw.nil))<|.kept rfl (.row aw.pure)<|.nil) I I ?_)
   refine bQ I I (bG.mono (dv true (H++cU x.az k) ([100,111,119,110]::bP x.down) (by simp[hnl];omega) (by omega)) (fun _ σ' h=>?_))
   subst h
   refine bd [3] I ?_
   refine dR (.cons 3 I (Ren.ptr (i:=0) I)<|.nil) ?_
   have hHp:0<H.length:=by rw[←hH];unfold fF;simp
   refine bp<|bQ I I (bG.mono (gL true _ (by simp only[List.length_append];omega)) (fun _ σ' h=>?_))
   subst h
   refine aK 1 I<|bd [2] I ?_
   refine aF<|⟨_,_,aL.of I,aW.pure,?_⟩
   rw[hdt,←hke]
   first
    |rfl
    |(rw[List.append_nil];rfl)
  ·have hdn:x.down=[]:=List.eq_nil_of_length_eq_zero (by have:=of_decide_eq_false hc;omega)
   have hdt:fC x=[]:=by unfold fC;rw[if_pos hdn]
   refine au ?_
   have hHp:0<H.length:=by rw[←hH];unfold fF;simp
   refine bp<|bQ I I (bG.mono (gL true _ (by simp only[List.length_append];omega)) (fun _ σ' h=>?_))
   subst h
   refine aK 1 I<|bd [2] I ?_
   refine aF<|⟨_,_,aL.of I,aW.pure,?_⟩
   rw[hdt,←hke]
   first
    |rfl
    |(rw[List.append_nil];rfl)
end
end
end PW
end Go.Proofs.YtnegbdpggideiaaDoor
namespace Go.Proofs.YtnegbdpggideiaaDoor
namespace PW
open Go.RowKit bm Mem Net
open Go.Deep
section
variable {P:Program} {H:Type} {enc:TypeId×Value→H} {W:World}
theorem eh{e:TypeId}{d:DataW H}:∀ {l:List (DataW H)},d∈l→∀z∈DataW.weights P e d,z∈DataW.weightsAll P e l
 | [],hd,_,_=>by cases hd
 |a::l,hd,z,hz=>by
  simp only[DataW.weightsAll,List.mem_append]
  rcases List.mem_cons.1 hd with rfl|h
  ·exact .inl hz
  ·exact .inr (eh h z hz)
theorem fZ{α:Type}{f:α→List PV}{s R:Nat}{t e:TypeId}{fuel:Nat}{v:Value}{x:DataW H×List MemPlace}(ht:P.underlying t=some (.slice e))(hc:P.cellsOf e=s)(hs0:0<s)
  (hel:∀n cs y,DataW.trod enc P W 0 (fun _=>true) true n e cs=some y→cs.length=s→(∀z∈DataW.weights P e y.1,z≤R)→∃a,aA EN W cs (f a))
  (h:DataW.trod enc P W 0 (fun _=>true) true fuel t [v]=some x) (hw:∀z∈DataW.weights P t x.1,z≤R):∃L:List α,bB EN W v (.slice L.length (L.flatMap f))∧L.length*P.bytesOf e≤R:=by
 rcases open_slice ht h with⟨hcs,_⟩|⟨a,len,cap,m,n,D,Pl,hcs,_,hl,hm,hmm,hxe,hx⟩
 ·simp at hcs;subst hcs
  exact⟨[],.cl,by simp⟩
 ·simp at hcs;subst hcs
  rw[hc]at hx
  simp only[if_true]at hmm
  subst hmm
  rw[hxe]at hw
  simp only[DataW.weights,ht,List.mem_cons,List.mem_append]at hw
  have hlen0:len*P.bytesOf e≤R:=by
   have h1:=hw _ (.inl rfl)
   rw[List.length_map,List.length_range]at h1
   exact Nat.le_trans (Nat.mul_le_mul_right _ (Nat.le_add_right _ _)) h1
  have hD:∀i,i<len→∀z∈DataW.weights P e (D i),z≤R:=fun i hi z hz=>hw z (.inr (.inl (eh (List.mem_map.2 ⟨i,List.mem_range.2 hi,rfl⟩) z hz)))
  have hall:∀k,k≤len→∃(L:List α) (cs:List Value),L.length=k∧cs.length=k*s∧aA EN W cs (L.flatMap f)∧∀(i:Nat) u,cs[i]? =some u→W.cell? (a.add i)=some u:=by
   intro k
   induction k with
   |zero=>intro _;exact⟨[],[],rfl,by simp,aA.nil _ _,fun i u h=>by simp at h⟩
   |succ k ih=>
    intro hk
    obtain⟨L,cs,h1,h2,h3,h4⟩:=ih (by omega)
    obtain⟨cs',h5,h6⟩:=hx k (by omega)
    obtain⟨_,hlen,hget⟩:=World.cells?_some h5
    obtain⟨b,hb⟩:=hel n cs' _ h6 hlen (hD k (by omega))
    refine⟨L++[b],cs++cs',by simp[h1],by rw[List.length_append,h2,hlen,Nat.succ_mul],by rw[List.flatMap_append];simpa using h3.append hb,fun i u hu=>?_⟩
    by_cases hi:i<cs.length
    ·rw[List.getElem?_append_left hi]at hu;exact h4 i u hu
    ·rw[List.getElem?_append_right (by omega)]at hu
     have hj:i - cs.length<s:=by have:=(List.getElem?_eq_some_iff.1 hu).1;omega
     have:=hget (i - cs.length) hj
     rw[hu]at this
     rw[←this]
     rw[Addr.add_add]
     congr 2
     omega
  obtain⟨L,cs,h1,h2,h3,h4⟩:=hall len (Nat.le_refl _)
  by_cases h0:len=0
  ·subst h0
   have:L=[]:=List.eq_nil_of_length_eq_zero h1
   subst this
   exact⟨[],.empty _ _ hm,by simp⟩
  ·obtain⟨b,off,spot⟩:=a
   have hlt:0<cs.length:=by rw[h2];exact Nat.mul_pos (by omega) hs0
   have hc0:=h4 0 cs[0] (by simp[hlt])
   have hspot:spot=none:=by simpa[Addr.add]using World.cell?_spot hc0
   subst hspot
   have hbs:b<W.heap.size:=by
    unfold World.cell? at hc0
    split at hc0
    ·rename_i hh;exact(Array.getElem?_eq_some_iff.1 hh).1
    ·cases hc0
   refine⟨L,?_,by rw[h1];exact hlen0⟩
   rw[h1]
   exact .slice b off len _ cs _ (by omega) hl hm hbs (fun hf=>hf) (fun i u hu=>by have:=h4 i u hu;rw[Addr.add_lit]at this;exact this) h3.1 h3.2
end
section
variable {H:Type} {enc:TypeId×Value→H} {W:World} {R:Nat}
theorem rW{n:Int}(hw:(Lit.int .i64 n).wf=true):In64 n:=by
 have h: -9223372036854775808≤n∧n≤9223372036854775807:=by
  simp only[Lit.wf,Bool.and_eq_true,decide_eq_true_eq]at hw
  exact hw
 unfold In64
 omega
theorem kY{n:Nat}{cs:List Value}{y:DataW H×List MemPlace}(h:DataW.trod enc Tryd.prog W 0 (fun _=>true) true n 3 cs=some y):∃a:Int,cs=[.int .i64 a]∧In64 a:=by
 obtain⟨a,h1,_,h2⟩:=DataW.trod_int Tryd.underlying3 h
 exact⟨a,h1,rW h2⟩
theorem jA{n:Nat}{v:Value}{y:DataW H×List MemPlace}(h:DataW.trod enc Tryd.prog W 0 (fun _=>true) true n 23 [v]=some y)(hw:∀z∈DataW.weights Tryd.prog 23 y.1,z≤R):∃L:List Int,bB EN W v (aR L)∧(∀a∈L,In64 a)∧L.length≤R:=by
 have hb:Tryd.prog.bytesOf 3=8:=by kernel_rfl
 obtain⟨L,hL,hl⟩:=fZ (f:=fun a: {a:Int // In64 a}=>[PV.raw (.int .i64 a.1)]) (s:=1) Tryd.underlying23 (by kernel_rfl) (by omega) (fun n cs y hy _ _=>by
  obtain⟨a,rfl,ha⟩:=kY hy
  exact⟨⟨a,ha⟩,aA.one (.raw _)⟩) h hw
 rw[hb]at hl
 refine⟨L.map (·.1),?_,fun a ha=>?_,by rw[List.length_map];omega⟩
 ·rw[k6]at hL
  unfold aR aS
  rw[List.length_map,List.map_map]
  exact hL
 ·obtain⟨b,_,rfl⟩:=List.mem_map.1 ha
  exact b.2
theorem nt{n:Nat}{v:Value}{y:DataW H×List MemPlace}(h:DataW.trod enc Tryd.prog W 0 (fun _=>true) true n 28 [v]=some y)(hw:∀z∈DataW.weights Tryd.prog 28 y.1,z≤R):∃L:List gn,bB EN W v (ek L)∧L.length≤R:=by
 have hb:Tryd.prog.bytesOf 32=16:=by kernel_rfl
 have c3:Tryd.prog.cellsOf 3=1:=by kernel_rfl
 obtain⟨L,hL,hl⟩:=fZ (f:=gF) (s:=2) Tryd.underlying28 (by kernel_rfl) (by omega) (fun n cs y hy hl _=>by
  obtain⟨xs,m,_,_,_,hlen,hf⟩:=DataW.trod_struct Tryd.underlying32 hy
  match cs,hl with
  | [c0,c1],_=>
   match xs,hlen with
   | [y0,y1],_=>
    have f0:DataW.trod enc Tryd.prog W 0 (fun _=>true) true m 3 (([c0,c1].drop 0).take (Tryd.prog.cellsOf 3))=some y0:=hf 0 _ rfl
    rw[c3]at f0
    have f1:DataW.trod enc Tryd.prog W 0 (fun _=>true) true m 3 (([c0,c1].drop 1).take (Tryd.prog.cellsOf 3))=some y1:=hf 1 _ rfl
    rw[c3]at f1
    obtain⟨a0,h0⟩:=oa f0
    obtain⟨a1,h1⟩:=oa f1
    simp at h0 h1
    subst h0 h1
    exact⟨⟨a0,a1⟩,aA.cons (.raw _)<|aA.cons (.raw _) (aA.nil _ _)⟩) h hw
 rw[hb]at hl
 exact⟨L,hL,by omega⟩
structure qt (R:Nat) where
 e:ev
 aH:(∀a∈e.aH,In64 a)∧e.aH.length≤R
 push:e.push.length≤R
theorem nR{n:Nat}{cs:List Value}{y:DataW H×List MemPlace}(h:DataW.trod enc Tryd.prog W 0 (fun _=>true) true n 30 cs=some y)(hl:cs.length=3)(hw:∀z∈DataW.weights Tryd.prog 30 y.1,z≤R):∃e:qt R,aA EN W cs (b6 e.e):=by
 have c0':Tryd.prog.cellsOf 23=1:=by kernel_rfl
 have c1':Tryd.prog.cellsOf 4=1:=by kernel_rfl
 have c2':Tryd.prog.cellsOf 28=1:=by kernel_rfl
 obtain⟨xs,m,_,hx,_,hlen,hf⟩:=DataW.trod_struct Tryd.underlying30 h
 match cs,hl with
 | [c0,c1,c2],_=>
  match xs,hlen with
  | [y0,y1,y2],_=>
   have f0:DataW.trod enc Tryd.prog W 0 (fun _=>true) true m 23 (([c0,c1,c2].drop 0).take (Tryd.prog.cellsOf 23))=some y0:=hf 0 _ rfl
   rw[c0']at f0
   have f1:DataW.trod enc Tryd.prog W 0 (fun _=>true) true m 4 (([c0,c1,c2].drop 1).take (Tryd.prog.cellsOf 4))=some y1:=hf 1 _ rfl
   rw[c1']at f1
   have f2:DataW.trod enc Tryd.prog W 0 (fun _=>true) true m 28 (([c0,c1,c2].drop 2).take (Tryd.prog.cellsOf 28))=some y2:=hf 2 _ rfl
   rw[c2']at f2
   rw[hx]at hw
   have hwe:DataW.weights Tryd.prog 30 (.agg ([y0,y1,y2].map (·.1)))=DataW.weights Tryd.prog 23 y0.1++(DataW.weights Tryd.prog 4 y1.1++(DataW.weights Tryd.prog 28 y2.1++[])):=by
    simp only[DataW.weights,Tryd.underlying30]
    rfl
   rw[hwe]at hw
   obtain⟨L,hL,hL1,hL2⟩:=jA (R:=R) f0 (fun z hz=>hw z (List.mem_append.2 (.inl hz)))
   obtain⟨b,hb,_⟩:=DataW.trod_bool Tryd.underlying4 f1
   obtain⟨M,hM,hM1⟩:=nt (R:=R) f2 (fun z hz=>hw z (List.mem_append.2 (.inr (List.mem_append.2 (.inr (List.mem_append.2 (.inl hz)))))))
   simp at hb
   subst hb
   exact⟨⟨⟨L,b,M⟩,⟨hL1,hL2⟩,hM1⟩,aA.cons hL<|aA.cons (.raw _)<|aA.cons hM (aA.nil _ _)⟩
structure l3 where
 x:iK
 node:In64 x.node
 qv:∀e∈x.az,(∀a∈e.aH,In64 a)∧e.aH.length≤reachBytes∧e.push.length≤reachBytes
 down:(∀a∈x.down,In64 a)∧x.down.length≤reachBytes
theorem nX{base:Nat}{v:Value}{d:DataW H}{p:List MemPlace}(hv:Value.okWide Tryd.prog W .any base 25 v)(h:DataW.Trod enc Tryd.prog W 0 (fun _=>true) true 25 v d p)(hw:∀z∈DataW.weights Tryd.prog 25 d,z≤reachBytes):∃T:l3,bB EN W v (fW T.x):=by
 obtain⟨v0,v1,v2,y0,y1,y2,n,rfl,hd,_,h0,h1,h2⟩:=Joins.open_agg3 Tryd.underlying25 (by kernel_rfl) (by kernel_rfl) hv h
 rw[hd]at hw
 have hwe:DataW.weights Tryd.prog 25 (.agg [y0.1,y1.1,y2.1])=DataW.weights Tryd.prog 3 y0.1++(DataW.weights Tryd.prog 22 y1.1++(DataW.weights Tryd.prog 23 y2.1++[])):=by
  simp only[DataW.weights,Tryd.underlying25]
  rfl
 rw[hwe]at hw
 obtain⟨a,ha,ha6⟩:=kY h0
 obtain⟨E,hE,_⟩:=fZ (R:=reachBytes) (f:=fun e:qt reachBytes=>b6 e.e) (s:=3) Tryd.underlying22 (by kernel_rfl) (by omega) (fun n cs y hy hl hz=>nR hy hl hz) h1 (fun z hz=>hw z (List.mem_append.2 (.inr (List.mem_append.2 (.inl hz)))))
 obtain⟨L,hL,hL1,hL2⟩:=jA (R:=reachBytes) h2 (fun z hz=>hw z (List.mem_append.2 (.inr (List.mem_append.2 (.inr (List.mem_append.2 (.inl hz)))))))
 cases ha
 have hE':bB EN W v1 (cS (E.map (·.e))):=by
  unfold cS e8
  rw[List.length_map,List.flatMap_map]
  exact hE
 refine⟨⟨⟨a,E.map (·.e),L⟩,ha6,fun e he=>?_,⟨hL1,hL2⟩⟩,.agg #[_,v1,v2] _ rfl (fun i x u k1 k2=>?_)⟩
 ·obtain⟨q,_,rfl⟩:=List.mem_map.1 he
  exact⟨q.aH.1,q.aH.2,q.push⟩
 ·match i,k1,k2 with
  |0,k1,k2=>cases k1;cases k2;exact .raw _
  |1,k1,k2=>cases k1;cases k2;exact hE'
  |2,k1,k2=>cases k1;cases k2;exact hL
  |_+3,_,k2=>simp[cP]at k2
end
end PW
end Go.Proofs.YtnegbdpggideiaaDoor
namespace Go.Proofs.YtnegbdpggideiaaDoor
namespace PW
section
open Go.RowKit bm Mem Net
theorem lQ(n:Int)(e:ev)(l:List ev):eK n (e::l)=eK (IntKind.i64.wrap (n+IntKind.i64.wrap ((e.aH.length:Int)+(e.push.length:Int)))) l:=rfl
theorem pj(l:List ev)(hl:∀e∈l,e.aH.length≤reachBytes∧e.push.length≤reachBytes):∀n:Int,0≤n→n+400000000000000*(l.length:Int)≤4611686018427387904→n≤eK n l∧∀e∈l,(e.aH.length:Int)+(e.push.length:Int)≤eK n l:=by
 induction l with
 |nil=>intro n h0 h1;exact⟨by simp[eK],fun e he=>by cases he⟩
 |cons a l ih=>
  intro n h0 h1
  obtain⟨ha,hb⟩:=hl a (List.mem_cons_self ..)
  unfold reachBytes at ha hb
  have hlen:((a::l).length:Int)=(l.length:Int)+1:=by simp
  rw[hlen]at h1
  rw[lQ,dT (n:=(a.aH.length:Int)+(a.push.length:Int)) (by unfold In64;omega),dT (by unfold In64;omega)]
  obtain⟨h3,h4⟩:=ih (fun e he=>hl e (List.mem_cons_of_mem _ he)) (n+((a.aH.length:Int)+(a.push.length:Int))) (by omega) (by omega)
  refine⟨by omega,fun e he=>?_⟩
  rcases List.mem_cons.1 he with rfl|he
  ·omega
  ·exact h4 e he
theorem narrow(T:l3)(h:jx T.x=false):T.x.az.length≤70∧T.x.down.length≤300∧∀e∈T.x.az,e.aH.length≤300∧e.push.length≤300:=by
 unfold jx at h
 simp only[Bool.or_eq_false_iff,decide_eq_false_iff_not]at h
 obtain⟨h1,h2⟩:=h
 have hd:=T.down.2
 unfold reachBytes at hd
 obtain⟨h3,h4⟩:=pj T.x.az (fun e he=>(T.qv e he).2) T.x.down.length (by omega) (by omega)
 refine⟨by omega,by omega,fun e he=>?_⟩
 have:=h4 e he
 omega
theorem qb(T:l3)(h:jx T.x=false)(hs:∀e∈T.x.az,∀s∈e.push,i7 s=true):ph T.x:=by
 obtain⟨h1,h2,h3⟩:=narrow T h
 exact⟨T.node,h1,fun e he=>⟨(h3 e he).1,(h3 e he).2,(T.qv e he).1,hs e he⟩,h2,T.down.1⟩
theorem nF(s:gn):((la s==[])=false)↔i7 s=true:=by
 unfold la
 split
 ·rename_i h
  obtain⟨_,_,_,h0,h9⟩:=gQ h
  have:=(kA (K:=s.kind) (n:=s.num) (by unfold In64;omega)).1
  simp[h]
  intro e
  rw[e]at this
  simp at this
 ·rename_i h
  simp[h]
set_option maxHeartbeats 4000000 in
theorem fV(T:l3):Can Tryd.prog 3 [fW T.x] (· =flag true):=by
 obtain⟨wd,hwd⟩:∃q,jx T.x=q:=⟨_,rfl⟩
 have hfine:=qb T
 obtain⟨x,hx⟩:∃x,T.x=x:=⟨_,rfl⟩
 have hnar:=narrow T
 rw[hwd]at hnar hfine
 rw[hx]at hnar hfine hwd ⊢
 refine aY Tryd.func3 I Tryd.ntmps3 I<|ai (.a 2 I<|.k [1] I)<|ak<|ai (.c rfl (nA) I<|.a 1 I<|.k [1,8] I)<|aq I (fun hc=>?_) (fun hc=>?_)
 ·cases hc
 ·refine au<|ak<|ai (.a 1 I<|.c rfl (hwd▸oJ x) I<|.k [1,10] I)<|aq I (fun hc=>?_) (fun hc=>?_)
  ·exact ai (.a 1 I<|.k [2] I)<|aF<|⟨_,_,aL.of I,aW.pure,rfl⟩
  ·have hwf:wd=false:=hc
   subst hwf
   obtain⟨h70,hd3,he3⟩:=hnar rfl
   have hfine:=hfine rfl
   refine au<|ak<|ai (.a 1 I<|.v (aN I ((rfl:(cP x)[1]? =some (cS x.az)))) I<|.a 2 I<|.k [1,12,13,14] I)<|aB<|gU [1,12,13,14] I<|bz (fun r s=>∃k,k≤x.az.length∧r=x.az.length - k∧(∀e∈x.az.take k,∀s∈e.push,i7 s=true)∧s=⟨[(1,.bT (cP x) 0),(12,cS x.az),(13,num x.az.length),(14,num k)],[]⟩) x.az.length ⟨0,by omega,by omega,fun e he=>by simp at he,rfl⟩ ?_
   rintro r s ⟨k,hk,rfl,hall,rfl⟩
   refine ai (.a 1 I<|.k [1,12,13,14,15] I)<|ak<|aq I (fun hc=>?_) (fun hc=>?_)
   ·have hlt:k<x.az.length:=by have:=of_decide_eq_true hc;omega
    obtain⟨e,he⟩:∃e,x.az[k]? =some e:=⟨x.az[k],by simp[hlt]⟩
    obtain⟨ha3,hp3⟩:=he3 e (List.mem_of_getElem? he)
    refine au<|ak<|aB<|bp<|an (bf ((k*3)) I) I<|an (nD I (dH x.az k e he) I) I<|aO (fD I (aV.zk.get I)) I<|bc (ee I (aV.tk.get I) I I I I I (Nat.le_of_ble_eq_true rfl)) I I<|bd [1,4,12,13,14] I ?_
    refine cE (σ':=[some (.cells 30 (b6 e))]) I ?_
    refine cq 4 0 0 I I ?_
    refine b0 [] (.cons 1 I Ren.pure<|.cons 4 I (Ren.pure (p:=.bT (b6 e) 0))<|.cons 12 I Ren.pure<|.cons 13 I Ren.pure<|.cons 14 I Ren.pure .nil) .nil rfl rfl ?_
    refine ai (.a 1 I<|.v (aN I ((rfl:(b6 e)[2]? =some (ek e.push)))) I<|.a 2 I<|.k [1,12,13,14,19,20,21] I)<|aB<|gU [1,12,13,14,19,20,21] I<|bz (fun r s=>∃i,i≤e.push.length∧r=e.push.length - i∧(∀s∈e.push.take i,i7 s=true)∧s=⟨[(1,.bT (cP x) 0),(12,cS x.az),(13,num x.az.length),(14,num k),(19,ek e.push),(20,num e.push.length),(21,num i)],[]⟩) e.push.length ⟨0,by omega,by omega,fun s hs=>by simp at hs,rfl⟩ ?_
    rintro r s ⟨i,hi,rfl,hsg,rfl⟩
    refine ai (.a 1 I<|.k [1,12,13,14,19,20,21,22] I)<|ak<|aq I (fun hc=>?_) (fun hc=>?_)
    ·have hlt2:i<e.push.length:=by have:=of_decide_eq_true hc;omega
     obtain⟨sg,hsgi⟩:∃s,e.push[i]? =some s:=⟨_,List.getElem?_eq_getElem hlt2⟩
     obtain⟨q,hq⟩:∃q,(la sg==[])=q:=⟨_,rfl⟩
     refine au<|ak<|aB<|bp<|an (bf ((i*2)) I) I<|an (nD I (fT e.push i sg hsgi) I) I<|aO (fD I (aV.zk.get I)) I<|bc (ee I (aV.tk.get I) I I I I I (Nat.le_of_ble_eq_true rfl)) I I<|bd [1,6,12,13,14,19,20,21] I ?_
     refine cE (σ':=[some (.cells 32 (gF sg))]) I ?_
     refine cq 6 0 0 I I ?_
     refine b0 [] (.cons 1 I Ren.pure<|.cons 6 I (Ren.pure (p:=.bT (gF sg) 0))<|.cons 12 I Ren.pure<|.cons 13 I Ren.pure<|.cons 14 I Ren.pure<|.cons 19 I Ren.pure<|.cons 20 I Ren.pure<|.cons 21 I Ren.pure .nil) .nil rfl rfl ?_
     refine ai (.a 1 I<|.c rfl (jw sg) I<|.v (hU (b:=⟨#[]⟩) (q:=q) I I I (by rw[l2,show(⟨#[]⟩:ByteArray).toList=[] from l2 []];exact hq)) I<|.k [1,12,13,14,19,20,21,27] I)<|aq I (fun hc=>?_) (fun hc=>?_)
     ·exact ai (.a 1 I<|.k [2] I)<|aF<|⟨_,_,aL.of I,aW.pure,rfl⟩
     ·have hqf:q=false:=hc
      subst hqf
      have hok:=(nF sg).1 hq
      refine au<|aE (.v (bA I) I<|.a 1 I<|.k [1,12,13,14,19,20,21] I) ?_
      exact⟨e.push.length - (i+1),by omega,i+1,by omega,rfl,fun s hs=>by
       rw[List.take_add_one,hsgi]at hs
       rcases List.mem_append.1 hs with h|h
       ·exact hsg s h
       ·simp at h
        subst h
        exact hok,rfl⟩
    ·have hie:i=e.push.length:=by have:=of_decide_eq_false hc;omega
     subst hie
     rw[List.take_length]at hsg
     refine bh<|aE (.v (bA I) I<|.a 1 I<|.k [1,12,13,14] I) ?_
     exact⟨x.az.length - (k+1),by omega,k+1,by omega,rfl,fun a hs=>by
      rw[List.take_add_one,he]at hs
      rcases List.mem_append.1 hs with h|h
      ·exact hall a h
      ·simp at h
       subst h
       exact hsg,rfl⟩
   ·have hke:k=x.az.length:=by have:=of_decide_eq_false hc;omega
    subst hke
    rw[List.take_length]at hall
    have hF:=hfine hall
    refine bh<|fa mixed (by kernel_rfl) (.a 1 I<|.v [30] (cH I (mS hF)) I I<|.a 1 I<|.v [32] (cH I (lU hF)) I I<|.v [31,33] (hU I I I (beq_self_eq_true (ByteArray.toList ⟨(kz x).toArray⟩))) I I<|.a 1 I<|.k [2] I) ?_
    exact aF<|⟨_,_,aL.of I,aW.pure,rfl⟩
end
end PW
end Go.Proofs.YtnegbdpggideiaaDoor
namespace Go.Proofs.YtnegbdpggideiaaDoor.tableText
open Go.ChangeShapes Go.WideShapes Go.ChangeAt Go.RowKit
open bm Mem PW
set_option maxRecDepth 100000 in
theorem lifted(os:Os)(started:os.Started)(H:Type)(enc:TypeId×Value→H):
  ReturnsInHanded {} Tryd.checked os 3 .any (fun w args=>(Rows.tableTextSpec.pre enc Tryd.prog Tryd.f3 [] false w args∧laidMetH Tryd.prog Rows.tableTextRow.laid w)∧sizedMet enc Tryd.prog Tryd.f3 (OpenSpec.ofChange Rows.tableTextSpec) false w args)
   (Rows.tableTextSpec.post enc Tryd.prog Tryd.f3 false true false false):=by
 refine returnsInHanded_of_change_and (C:=Tryd.checked) (X:=fun w _=>laidMetH Tryd.prog Rows.tableTextRow.laid w) (fun _ _ _ hh h=>h.of_heap hh) own started (by kernel_rfl) Tryd.func3
  (ChangeSpec.witness_shaped (enc:=enc) (C:=Tryd.checked) (os:=os) (X:=fun w _=>laidMetH Tryd.prog Rows.tableTextRow.laid w) false (World.doorLaid Tryd.prog 400 os) #[.agg #[.int .i64 0,.slice none 0 0,.slice none 0 0]] 8 rfl (World.shaped_of_RefB (by kernel_rfl) (by kernel_rfl)) (by kernel_rfl) (by kernel_rfl) (by kernel_rfl) (laidMetH_of_parts3 (fuel:=8) (laidMet_of_run' 8 (by kernel_rfl) (by kernel_rfl)) (by kernel_rfl) (by kernel_rfl))) ?_
 intro W base args ds gs before hval0 hW _ hsz0 hL _
 have hval:∀(j:Nat) t v,Tryd.f3.params[j]? =some t→args[j]? =some v→Value.okWide Tryd.prog W .any base t v:=hval0
 have hW':=hW
 obtain⟨p,q,hA0,hV,rfl,hfz,hnd⟩:=hW
 have hA:DataW.TrodAll enc Tryd.prog W 0 (fun _=>true) true Tryd.f3.params.toList args.toList ds p:=hA0
 rw[Tryd.params3]at hA hval
 obtain⟨v0,vs0,d0,ds0,p0,q0,hargs,rfl,rfl,h0,r0⟩:=trodAll_cons hA
 obtain⟨rfl,rfl,rfl⟩:=trodAll_nil r0
 obtain rfl:args= #[v0]:=by cases args;simp_all
 obtain⟨rfl,rfl⟩:=trodVars_none hV
 have lt0:=rq h0
 obtain⟨T,R0⟩:=nX (hval 0 25 v0 rfl rfl) h0 (fun z hz=>of_decide_eq_true (List.all_eq_true.1 hsz0 z (DataW.weights_mem_each (j:=0) (t:=25) (d:=d0) rfl rfl z hz)))
 clear hA0 hval0
 refine((fV T) (fun _=>False) W #[v0] (fun _ h=>h.elim) (nj hL) (aA.cons R0 (aA.nil _ _))).mono fun e W' ⟨x,he,bel,r,hr,hx⟩=>?_
 subst hr
 cases hx
 subst he
 exact⟨_,rfl,_,_,_,[],_,[],hW',trodAll_mk1 (shut_bool Tryd.underlying4 _),(trodAll_cons_mk (Below.trod laidOut (by kernel_rfl) (of_decide_eq_true (by kernel_rfl)) h0 bel lt0) trodAll_mk0),rfl,bel.frame _,fun h=>by cases h⟩
set_option maxRecDepth 100000 in
theorem sj:(Rows.tableTextRow.inPlace==Tryd.prog.inPlace 3)=true:=by kernel_rfl
set_option maxRecDepth 100000 in
theorem sc:(Rows.tableTextRow.unfollowed==Tryd.prog.unfollowed 3)=true:=by kernel_rfl
set_option maxRecDepth 100000 in
theorem si:(Rows.tableTextRow.recurses==Tryd.prog.recurses 3)=true:=by kernel_rfl
set_option maxRecDepth 100000 in
theorem sd:(Rows.tableTextRow.named==Tryd.prog.varsNamed 3)=true:=by kernel_rfl
set_option maxRecDepth 100000 in
theorem closed:joinedFacts Tryd.prog 3 Tryd.f3 Rows.tableTextSpec Rows.tableTextRow=true:=by
 unfold joinedFacts
 rw[sj,sc,si,sd]
 kernel_rfl
theorem over:Rows.tableTextRow.holds Tryd.pinned (OpenSpec.ofChange Rows.tableTextSpec):=
 OpenClaim.holds_of_wide 3 Tryd.f3 rfl rfl rfl rfl rfl rfl rfl ⟨rfl,rfl,rfl,rfl,rfl⟩ rfl rfl rfl rfl rfl (by kernel_rfl) Tryd.func3 closed
  (of_decide_eq_true (by kernel_rfl)) (by unfold Func.isWrapper;first|(rw[if_pos (by decide+kernel)];kernel_rfl)|(rw[if_neg (by decide+kernel)];exact⟨rfl,rfl⟩))
  (fun os started H enc _=>lifted os started H enc)
theorem proved:Rows.TableTextCardSaid:=
 Claim7.holds_tied_plain_at .later [] [.data,.data,.data] true (true,"6978e9ff64b5762aac7cb673b7819b2a17a27b25c8d4e42caaa333ebf3205e5b") false
  over (fun _ h=>by cases h) (by kernel_rfl) (fun _ h=>by cases h) tableText_row_tie rfl ⟨rfl,rfl⟩ (by kernel_rfl) rfl
  (fun f fn hf hfn=>by
   obtain rfl:f=3:=Option.some.inj ((show Tryd.prog.funcNamed "waypoint/waypointlaw22.TableText" =some 3 by kernel_rfl).symm.trans hf) |>.symm
   obtain rfl:fn=Tryd.f3:=(Option.some.inj (Tryd.func3.symm.trans hfn)).symm
   exact⟨by kernel_rfl,fun j t ht=>by
    rw[Tryd.params3]at ht
    have hm:t∈[25]:=by simpa using Array.mem_of_getElem? ht
    have hall:([25].all fun u=> !Tryd.prog.wantsStandIn u)=true:=by kernel_rfl
    exact(show Tryd.prog.wantsStandIn t=false by simpa using List.all_eq_true.1 hall t hm)⟩)
  (by kernel_rfl)
end Go.Proofs.YtnegbdpggideiaaDoor.tableText
