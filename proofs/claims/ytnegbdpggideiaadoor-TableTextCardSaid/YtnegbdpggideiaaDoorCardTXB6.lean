/- Texts of the proof, part 6. -/
import Derived.Lib.AppendIntMem
import Derived.Tactics
import Derived.Tactics2
import Derived.LoopTactic
import Derived.Laws.RangeString
import Derived.Laws.RangeAny
import Derived.Laws.Runes
import Derived.Laws.Small
import Derived.Laws.World
import Derived.Deep.Cut
import Derived.Test.YtnegbdpggideiaaDoorCardTXB5
set_option linter.unusedVariables false
set_option linter.unusedSimpArgs false
set_option maxRecDepth 10000
set_option maxHeartbeats 1000000
namespace Go.Proofs.YtnegbdpggideiaaDoor
namespace PW
section
open Go.RowKit bm Mem
structure Small (x:iK):Prop where
 node:0≤x.node∧x.node<100
 az:x.az.length≤90
 qv:∀e∈x.az,e.rep=false∧e.aH.length≤90∧∀a∈e.aH,0≤a∧a<100
 down:x.down.length≤90∧∀a∈x.down,0≤a∧a<100
def nf(d:Nat)(e:ev):List UInt8:=if e.aH=[] then [] else br ([[116,111],Lib.decDigits d,[111,118,101,114]]++bN e.aH)
def dC(l:List ev)(k:Nat):List UInt8:=(List.range k).flatMap fun d=>nf d (l.getD d ⟨[],false,[]⟩)
def ky(l:List Int):List UInt8:=if l=[] then [] else br ([100,111,119,110]::bN l)
def l5(x:iK):List UInt8:=br [[116,97,98,108,101],Lib.decDigits x.node.toNat]++dC x.az x.az.length++ky x.down
theorem lH(l:List ev)(k:Nat)(e:ev)(h:l[k]? =some e):dC l (k+1)=dC l k++nf k e:=by
 unfold dC
 rw[List.range_succ,List.flatMap_append]
 simp[h]
theorem dR{P:Program}{M:Nat}{c:Code}{t:aZ}{Q:Exit→St→Prop}{l:List UInt8}(hT:gb [0,2] t t)(h:W P M 0 c ⟨t,e9 1 true l⟩ Q):W P M 0 c ⟨t,e9 2 true l⟩ Q:=
 b0 [0,2] hT (.kept rfl (.cells (aw.cons (Ren.ptr (i:=0) I)<|aw.cons (Ren.own (i:=1) I) aw.nil))<|.kept rfl (.row aw.pure)<|.nil) I I h
set_option maxHeartbeats 4000000 in
theorem lD(x:iK)(hx:Small x)(hlen:∀k,k≤x.az.length→(br [[116,97,98,108,101],Lib.decDigits x.node.toNat]).length+(dC x.az k).length≤100000000)(hline:∀d e,x.az[d]? =some e→(br ([[116,111],Lib.decDigits d,[111,118,101,114]]++bN e.aH)).length≤100000000)(hdl:(br ([100,111,119,110]::bN x.down)).length≤100000000):
  Can Tryd.prog 8 [fW x] (· =ed (l5 x)):=by
 have hxe:=hx.az
 obtain⟨nd,hnd⟩:=Int.eq_ofNat_of_zero_le hx.node.1
 have hnd1:nd<100:=by have:=hx.node.2;omega
 have hl0:=hlen 0 (by omega)
 rw[show x.node.toNat=nd by omega]at hl0
 refine aY Tryd.func8 I Tryd.ntmps8 I<|ai (.a 2 I<|.k [1] I)<|bp<|aK 1 I<|bd [1,3] I ?_
 refine bD 0 1 5 1 I I ?_
 refine cE (σ':=e9 1 false []) I ?_
 refine bp<|aK 1 I<|an (aN I ((show some (num x.node)=some (num (nd:Int)) by rw[hnd]))) I<|j4 I (cc nd hnd1) I<|aK 1 I<|bQ I I (bG.mono (dv false [] [[116,97,98,108,101],Lib.decDigits nd] (by simp) (by simp only[List.length_nil];omega)) (fun _ σ' h=>?_))
 subst h
 refine bd [1,3] I ?_
 refine dR (.cons 1 I Ren.pure<|.cons 3 I (Ren.ptr (i:=0) I)<|.nil) ?_
 refine ak<|ai (.a 4 I<|.k [1,3,15,16,17] I)<|aB<|gU [1,3,15,16,17] I<|bz (fun r s=>∃k,k≤x.az.length∧r=x.az.length - k∧s=⟨[(1,.bT (cP x) 0),(3,.ptr 0 0),(15,cS x.az),(16,num x.az.length),(17,num k)],e9 1 true (br [[116,97,98,108,101],Lib.decDigits nd]++dC x.az k)⟩) x.az.length ⟨0,by omega,by omega,by simp only[dC,List.range_zero,List.flatMap_nil,List.append_nil,List.nil_append];rfl⟩ ?_
 rintro r s ⟨k,hk,rfl,rfl⟩
 refine ai (.a 1 I<|.k [1,3,15,16,17,18] I)<|ak<|aq I (fun hc=>?_) (fun hc=>?_)
 ·have hlt:k<x.az.length:=by have:=of_decide_eq_true hc;omega
  obtain⟨e,he⟩:∃e,x.az[k]? =some e:=⟨x.az[k],by simp[hlt]⟩
  obtain⟨hrep,hal,has⟩:=hx.qv e (List.mem_of_getElem? he)
  have hst:=lH x.az k e he
  have hlk:=hlen k (by omega)
  rw[show x.node.toNat=nd by omega]at hlk
  have hlk2:=hline k e he
  refine au<|ak<|aB<|bp<|aK 1 I<|an (bf (k*3) I) I<|an (db I (aV.tk.get I) I (dH x.az k e he) I) I<|aK 2 I<|bc (ee I (aV.tk.get I) I I I I I (Nat.le_of_ble_eq_true rfl)) I I<|bd [1,3,4,5,15,16,17] I ?_
  refine cE (σ':=e9 1 true (br [[116,97,98,108,101],Lib.decDigits nd]++dC x.az k)++[some (.cells 30 (b6 e))]) I ?_
  refine cq 5 2 0 I I ?_
  refine b0 [0,1] (.cons 1 I Ren.pure<|.cons 3 I (Ren.ptr (i:=0) I)<|.cons 4 I Ren.pure<|.cons 5 I Ren.pure<|.cons 15 I Ren.pure<|.cons 16 I Ren.pure<|.cons 17 I Ren.pure<|.nil) (.kept rfl (.cells (aw.cons (Ren.ptr (i:=0) I)<|aw.cons (Ren.own (i:=1) I) aw.nil))<|.kept rfl (.row aw.pure)<|.nil) I I ?_
  refine ak<|ai (.a 1 I<|.v (aN I (rfl)) I<|.a 2 I<|.k [1,3,4,5,15,16,17,25] I)<|aq I (fun hc=>?_) (fun hc=>?_)
  ·have harc:e.aH=[]:=List.eq_nil_of_length_eq_zero (by have:=of_decide_eq_true hc;omega)
   rw[show nf k e=[] by unfold nf;rw[if_pos harc],List.append_nil]at hst
   refine bh<|aE (.v (bA I) I<|.a 1 I<|.k [1,3,15,16,17] I) ?_
   refine⟨x.az.length - (k+1),by omega,k+1,by omega,rfl,?_⟩
   rw[hst]
   first
    |rfl
    |(rw[←List.append_assoc];rfl)
  ·have harc:e.aH≠[]:=fun h=>by have:=of_decide_eq_false hc;rw[h]at this;exact this rfl
   rw[show nf k e=br ([[116,111],Lib.decDigits k,[111,118,101,114]]++bN e.aH) by unfold nf;rw[if_neg harc]]at hst
   have hnl:(bN e.aH).length=e.aH.length:=by simp[bN]
   refine au<|iR ([(1,.bT (cP x) 0),(3,.ptr 0 0),(5,.bT (b6 e) 0),(6,.own 3),(15,cS x.az),(16,num x.az.length),(17,num k)]) ([some (.cells 67 [.ptr 0 0,.own 1]),some (.row 5 1 (br [[116,97,98,108,101],Lib.decDigits nd]++dC x.az k).length (bS (br [[116,97,98,108,101],Lib.decDigits nd]++dC x.az k))),none,some (.row 9 1 (3+(bN e.aH).length) (aT ([[116,111],Lib.decDigits k,[111,118,101,114]]++bN e.aH)))]) mixed ?_ ?_
   ·refine ae 0 [3] (by kernel_rfl) ?_
    refine aa I I (an (bg I) I (ab ?_)) ?_
    ·refine ae 1 [3] (by kernel_rfl) ?_
     refine aa I I (an (cH I (cc k (by omega))) I (ab ?_)) ?_
     ·refine ae 2 [3] (by kernel_rfl) ?_
      refine aa I I (aO (aj (xs:=[_,_,_]) I (aV.sl.get I) ⟨Nat.le_of_ble_eq_true rfl,Nat.le_of_ble_eq_true rfl⟩ rfl rfl) I (ab ?_)) ?_
      ·refine ae 3 [] (by kernel_rfl) ?_
       refine aa I I (an (bg I) I (ab ?_)) ad
       refine ae 4 [] (by kernel_rfl) ?_
       refine aa I I (an (aN I (rfl)) I (ab ?_)) ad
       refine ae 5 [] (by kernel_rfl) ?_
       refine aa I I (an (cH I (aJ e.aH (by omega) has)) I (ab ?_)) ad
       refine ae 6 [] (by kernel_rfl) ?_
       refine aa I I (aO (ax I (aV.rk.get I) I I I (by simp[aT]) ⟨by unfold maxLen;omega,by omega⟩) I (ab ?_)) ad
       refine ae 7 [] (by kernel_rfl) ?_
       refine aa I I (an (bg I) I (ab ?_)) ad
       exact aU (by kernel_rfl) ⟨rfl,al (ks:=[1,3,5,6,15,16,17]) I⟩
      refine aa I I (an (bg I) I (ab ?_)) ad
      refine ae 2 [4] (by kernel_rfl) ?_
      refine aa I I (aO (aj (xs:=[_,_,_]) I (aV.sl.get I) ⟨Nat.le_of_ble_eq_true rfl,Nat.le_of_ble_eq_true rfl⟩ rfl rfl) I (ab ?_)) ?_
      ·refine ae 4 [] (by kernel_rfl) ?_
       refine aa I I (an (aN I (rfl)) I (ab ?_)) ad
       refine ae 5 [] (by kernel_rfl) ?_
       refine aa I I (an (cH I (aJ e.aH (by omega) has)) I (ab ?_)) ad
       refine ae 6 [] (by kernel_rfl) ?_
       refine aa I I (aO (ax I (aV.rk.get I) I I I (by simp[aT]) ⟨by unfold maxLen;omega,by omega⟩) I (ab ?_)) ad
       refine ae 7 [] (by kernel_rfl) ?_
       refine aa I I (an (bg I) I (ab ?_)) ad
       exact aU (by kernel_rfl) ⟨rfl,al (ks:=[1,3,5,6,15,16,17]) I⟩
      refine aa I I (an (aN I (rfl)) I (ab ?_)) ad
      refine ae 2 [5] (by kernel_rfl) ?_
      refine aa I I (aO (aj (xs:=[_,_,_]) I (aV.sl.get I) ⟨Nat.le_of_ble_eq_true rfl,Nat.le_of_ble_eq_true rfl⟩ rfl rfl) I (ab ?_)) ?_
      ·refine ae 5 [] (by kernel_rfl) ?_
       refine aa I I (an (cH I (aJ e.aH (by omega) has)) I (ab ?_)) ad
       refine ae 6 [] (by kernel_rfl) ?_
       refine aa I I (aO (ax I (aV.rk.get I) I I I (by simp[aT]) ⟨by unfold maxLen;omega,by omega⟩) I (ab ?_)) ad
       refine ae 7 [] (by kernel_rfl) ?_
       refine aa I I (an (bg I) I (ab ?_)) ad
       exact aU (by kernel_rfl) ⟨rfl,al (ks:=[1,3,5,6,15,16,17]) I⟩
      refine aa I I (an (cH I (aJ e.aH (by omega) has)) I (ab ?_)) ad
      refine ae 2 [] (by kernel_rfl) ?_
      refine aa I I (aO (aj (xs:=[_,_,_]) I (aV.sl.get I) ⟨Nat.le_of_ble_eq_true rfl,Nat.le_of_ble_eq_true rfl⟩ rfl rfl) I (ab ?_)) ad
      refine ae 6 [] (by kernel_rfl) ?_
      refine aa I I (aO (ax I (aV.rk.get I) I I I (by simp[aT]) ⟨by unfold maxLen;omega,by omega⟩) I (ab ?_)) ad
      refine ae 7 [] (by kernel_rfl) ?_
      refine aa I I (an (bg I) I (ab ?_)) ad
      exact aU (by kernel_rfl) ⟨rfl,al (ks:=[1,3,5,6,15,16,17]) I⟩
     refine aa I I (an (bg I) I (ab ?_)) ad
     refine ae 1 [4] (by kernel_rfl) ?_
     refine aa I I (an (cH I (cc k (by omega))) I (ab ?_)) ?_
     ·refine ae 2 [4] (by kernel_rfl) ?_
      refine aa I I (aO (aj (xs:=[_,_,_]) I (aV.sl.get I) ⟨Nat.le_of_ble_eq_true rfl,Nat.le_of_ble_eq_true rfl⟩ rfl rfl) I (ab ?_)) ?_
      ·refine ae 4 [] (by kernel_rfl) ?_
       refine aa I I (an (aN I (rfl)) I (ab ?_)) ad
       refine ae 5 [] (by kernel_rfl) ?_
       refine aa I I (an (cH I (aJ e.aH (by omega) has)) I (ab ?_)) ad
       refine ae 6 [] (by kernel_rfl) ?_
       refine aa I I (aO (ax I (aV.rk.get I) I I I (by simp[aT]) ⟨by unfold maxLen;omega,by omega⟩) I (ab ?_)) ad
       refine ae 7 [] (by kernel_rfl) ?_
       refine aa I I (an (bg I) I (ab ?_)) ad
       exact aU (by kernel_rfl) ⟨rfl,al (ks:=[1,3,5,6,15,16,17]) I⟩
      refine aa I I (an (aN I (rfl)) I (ab ?_)) ad
      refine ae 2 [5] (by kernel_rfl) ?_
      refine aa I I (aO (aj (xs:=[_,_,_]) I (aV.sl.get I) ⟨Nat.le_of_ble_eq_true rfl,Nat.le_of_ble_eq_true rfl⟩ rfl rfl) I (ab ?_)) ?_
      ·refine ae 5 [] (by kernel_rfl) ?_
       refine aa I I (an (cH I (aJ e.aH (by omega) has)) I (ab ?_)) ad
       refine ae 6 [] (by kernel_rfl) ?_
       refine aa I I (aO (ax I (aV.rk.get I) I I I (by simp[aT]) ⟨by unfold maxLen;omega,by omega⟩) I (ab ?_)) ad
       refine ae 7 [] (by kernel_rfl) ?_
       refine aa I I (an (bg I) I (ab ?_)) ad
       exact aU (by kernel_rfl) ⟨rfl,al (ks:=[1,3,5,6,15,16,17]) I⟩
      refine aa I I (an (cH I (aJ e.aH (by omega) has)) I (ab ?_)) ad
      refine ae 2 [] (by kernel_rfl) ?_
      refine aa I I (aO (aj (xs:=[_,_,_]) I (aV.sl.get I) ⟨Nat.le_of_ble_eq_true rfl,Nat.le_of_ble_eq_true rfl⟩ rfl rfl) I (ab ?_)) ad
      refine ae 6 [] (by kernel_rfl) ?_
      refine aa I I (aO (ax I (aV.rk.get I) I I I (by simp[aT]) ⟨by unfold maxLen;omega,by omega⟩) I (ab ?_)) ad
      refine ae 7 [] (by kernel_rfl) ?_
      refine aa I I (an (bg I) I (ab ?_)) ad
      exact aU (by kernel_rfl) ⟨rfl,al (ks:=[1,3,5,6,15,16,17]) I⟩
     refine aa I I (an (aN I (rfl)) I (ab ?_)) ad
     refine ae 1 [] (by kernel_rfl) ?_
     refine aa I I (an (cH I (cc k (by omega))) I (ab ?_)) ad
     refine ae 2 [5] (by kernel_rfl) ?_
     refine aa I I (aO (aj (xs:=[_,_,_]) I (aV.sl.get I) ⟨Nat.le_of_ble_eq_true rfl,Nat.le_of_ble_eq_true rfl⟩ rfl rfl) I (ab ?_)) ?_
     ·refine ae 5 [] (by kernel_rfl) ?_
      refine aa I I (an (cH I (aJ e.aH (by omega) has)) I (ab ?_)) ad
      refine ae 6 [] (by kernel_rfl) ?_
      refine aa I I (aO (ax I (aV.rk.get I) I I I (by simp[aT]) ⟨by unfold maxLen;omega,by omega⟩) I (ab ?_)) ad
      refine ae 7 [] (by kernel_rfl) ?_
      refine aa I I (an (bg I) I (ab ?_)) ad
      exact aU (by kernel_rfl) ⟨rfl,al (ks:=[1,3,5,6,15,16,17]) I⟩
     refine aa I I (an (cH I (aJ e.aH (by omega) has)) I (ab ?_)) ad
     refine ae 2 [] (by kernel_rfl) ?_
     refine aa I I (aO (aj (xs:=[_,_,_]) I (aV.sl.get I) ⟨Nat.le_of_ble_eq_true rfl,Nat.le_of_ble_eq_true rfl⟩ rfl rfl) I (ab ?_)) ad
     refine ae 6 [] (by kernel_rfl) ?_
     refine aa I I (aO (ax I (aV.rk.get I) I I I (by simp[aT]) ⟨by unfold maxLen;omega,by omega⟩) I (ab ?_)) ad
     refine ae 7 [] (by kernel_rfl) ?_
     refine aa I I (an (bg I) I (ab ?_)) ad
     exact aU (by kernel_rfl) ⟨rfl,al (ks:=[1,3,5,6,15,16,17]) I⟩
    refine aa I I (an (bg I) I (ab ?_)) ad
    refine ae 0 [4] (by kernel_rfl) ?_
    refine aa I I (an (bg I) I (ab ?_)) ?_
    ·refine ae 1 [4] (by kernel_rfl) ?_
     refine aa I I (an (cH I (cc k (by omega))) I (ab ?_)) ?_
     ·refine ae 2 [4] (by kernel_rfl) ?_
      refine aa I I (aO (aj (xs:=[_,_,_]) I (aV.sl.get I) ⟨Nat.le_of_ble_eq_true rfl,Nat.le_of_ble_eq_true rfl⟩ rfl rfl) I (ab ?_)) ?_
      ·refine ae 4 [] (by kernel_rfl) ?_
       refine aa I I (an (aN I (rfl)) I (ab ?_)) ad
       refine ae 5 [] (by kernel_rfl) ?_
       refine aa I I (an (cH I (aJ e.aH (by omega) has)) I (ab ?_)) ad
       refine ae 6 [] (by kernel_rfl) ?_
       refine aa I I (aO (ax I (aV.rk.get I) I I I (by simp[aT]) ⟨by unfold maxLen;omega,by omega⟩) I (ab ?_)) ad
       refine ae 7 [] (by kernel_rfl) ?_
       refine aa I I (an (bg I) I (ab ?_)) ad
       exact aU (by kernel_rfl) ⟨rfl,al (ks:=[1,3,5,6,15,16,17]) I⟩
      refine aa I I (an (aN I (rfl)) I (ab ?_)) ad
      refine ae 2 [5] (by kernel_rfl) ?_
      refine aa I I (aO (aj (xs:=[_,_,_]) I (aV.sl.get I) ⟨Nat.le_of_ble_eq_true rfl,Nat.le_of_ble_eq_true rfl⟩ rfl rfl) I (ab ?_)) ?_
      ·refine ae 5 [] (by kernel_rfl) ?_
       refine aa I I (an (cH I (aJ e.aH (by omega) has)) I (ab ?_)) ad
       refine ae 6 [] (by kernel_rfl) ?_
       refine aa I I (aO (ax I (aV.rk.get I) I I I (by simp[aT]) ⟨by unfold maxLen;omega,by omega⟩) I (ab ?_)) ad
       refine ae 7 [] (by kernel_rfl) ?_
       refine aa I I (an (bg I) I (ab ?_)) ad
       exact aU (by kernel_rfl) ⟨rfl,al (ks:=[1,3,5,6,15,16,17]) I⟩
      refine aa I I (an (cH I (aJ e.aH (by omega) has)) I (ab ?_)) ad
      refine ae 2 [] (by kernel_rfl) ?_
      refine aa I I (aO (aj (xs:=[_,_,_]) I (aV.sl.get I) ⟨Nat.le_of_ble_eq_true rfl,Nat.le_of_ble_eq_true rfl⟩ rfl rfl) I (ab ?_)) ad
      refine ae 6 [] (by kernel_rfl) ?_
      refine aa I I (aO (ax I (aV.rk.get I) I I I (by simp[aT]) ⟨by unfold maxLen;omega,by omega⟩) I (ab ?_)) ad
      refine ae 7 [] (by kernel_rfl) ?_
      refine aa I I (an (bg I) I (ab ?_)) ad
      exact aU (by kernel_rfl) ⟨rfl,al (ks:=[1,3,5,6,15,16,17]) I⟩
     refine aa I I (an (aN I (rfl)) I (ab ?_)) ad
     refine ae 1 [] (by kernel_rfl) ?_
     refine aa I I (an (cH I (cc k (by omega))) I (ab ?_)) ad
     refine ae 2 [5] (by kernel_rfl) ?_
     refine aa I I (aO (aj (xs:=[_,_,_]) I (aV.sl.get I) ⟨Nat.le_of_ble_eq_true rfl,Nat.le_of_ble_eq_true rfl⟩ rfl rfl) I (ab ?_)) ?_
     ·refine ae 5 [] (by kernel_rfl) ?_
      refine aa I I (an (cH I (aJ e.aH (by omega) has)) I (ab ?_)) ad
      refine ae 6 [] (by kernel_rfl) ?_
      refine aa I I (aO (ax I (aV.rk.get I) I I I (by simp[aT]) ⟨by unfold maxLen;omega,by omega⟩) I (ab ?_)) ad
      refine ae 7 [] (by kernel_rfl) ?_
      refine aa I I (an (bg I) I (ab ?_)) ad
      exact aU (by kernel_rfl) ⟨rfl,al (ks:=[1,3,5,6,15,16,17]) I⟩
     refine aa I I (an (cH I (aJ e.aH (by omega) has)) I (ab ?_)) ad
     refine ae 2 [] (by kernel_rfl) ?_
     refine aa I I (aO (aj (xs:=[_,_,_]) I (aV.sl.get I) ⟨Nat.le_of_ble_eq_true rfl,Nat.le_of_ble_eq_true rfl⟩ rfl rfl) I (ab ?_)) ad
     refine ae 6 [] (by kernel_rfl) ?_
     refine aa I I (aO (ax I (aV.rk.get I) I I I (by simp[aT]) ⟨by unfold maxLen;omega,by omega⟩) I (ab ?_)) ad
     refine ae 7 [] (by kernel_rfl) ?_
     refine aa I I (an (bg I) I (ab ?_)) ad
     exact aU (by kernel_rfl) ⟨rfl,al (ks:=[1,3,5,6,15,16,17]) I⟩
    refine aa I I (an (aN I (rfl)) I (ab ?_)) ad
    refine ae 0 [] (by kernel_rfl) ?_
    refine aa I I (an (bg I) I (ab ?_)) ad
    refine ae 1 [] (by kernel_rfl) ?_
    refine aa I I (an (cH I (cc k (by omega))) I (ab ?_)) ad
    refine ae 2 [5] (by kernel_rfl) ?_
    refine aa I I (aO (aj (xs:=[_,_,_]) I (aV.sl.get I) ⟨Nat.le_of_ble_eq_true rfl,Nat.le_of_ble_eq_true rfl⟩ rfl rfl) I (ab ?_)) ?_
    ·refine ae 5 [] (by kernel_rfl) ?_
     refine aa I I (an (cH I (aJ e.aH (by omega) has)) I (ab ?_)) ad
     refine ae 6 [] (by kernel_rfl) ?_
     refine aa I I (aO (ax I (aV.rk.get I) I I I (by simp[aT]) ⟨by unfold maxLen;omega,by omega⟩) I (ab ?_)) ad
     refine ae 7 [] (by kernel_rfl) ?_
     refine aa I I (an (bg I) I (ab ?_)) ad
     exact aU (by kernel_rfl) ⟨rfl,al (ks:=[1,3,5,6,15,16,17]) I⟩
    refine aa I I (an (cH I (aJ e.aH (by omega) has)) I (ab ?_)) ad
    refine ae 2 [] (by kernel_rfl) ?_
    refine aa I I (aO (aj (xs:=[_,_,_]) I (aV.sl.get I) ⟨Nat.le_of_ble_eq_true rfl,Nat.le_of_ble_eq_true rfl⟩ rfl rfl) I (ab ?_)) ad
    refine ae 6 [] (by kernel_rfl) ?_
    refine aa I I (aO (ax I (aV.rk.get I) I I I (by simp[aT]) ⟨by unfold maxLen;omega,by omega⟩) I (ab ?_)) ad
    refine ae 7 [] (by kernel_rfl) ?_
    refine aa I I (an (bg I) I (ab ?_)) ad
    exact aU (by kernel_rfl) ⟨rfl,al (ks:=[1,3,5,6,15,16,17]) I⟩
   refine ki 6 3 I I ?_
   rw[show 3+(bN e.aH).length=([[116,111],Lib.decDigits k,[111,118,101,114]]++bN e.aH).length by simp;omega]
   refine b0 [0,1] (.cons 1 I Ren.pure<|.cons 3 I (Ren.ptr (i:=0) I)<|.cons 5 I Ren.pure<|.cons 6 I Ren.pure<|.cons 15 I Ren.pure<|.cons 16 I Ren.pure<|.cons 17 I Ren.pure<|.nil) (.kept rfl (.cells (aw.cons (Ren.ptr (i:=0) I)<|aw.cons (Ren.own (i:=1) I) aw.nil))<|.kept rfl (.row aw.pure)<|.nil) I I ?_
   refine cE (σ':=e9 1 true (br [[116,97,98,108,101],Lib.decDigits nd]++dC x.az k)) I ?_
   refine ak<|ai (.a 1 I<|.v (aN I ((show some (flag e.rep)=some (flag false) by rw[hrep]))) I<|.k [1,3,5,6,15,16,17,34] I)<|aq I (fun hc=>?_) (fun hc=>?_)
   ·cases hc
   ·refine au<|a6<|aK 1 I<|bQ I I (bG.mono (dv true (br [[116,97,98,108,101],Lib.decDigits nd]++dC x.az k) ([[116,111],Lib.decDigits k,[111,118,101,114]]++bN e.aH) (by simp[hnl];omega) (by simp only[List.length_append]at*;omega)) (fun _ σ' h=>?_))
    subst h
    refine bd [1,3,15,16,17] I ?_
    refine dR (.cons 1 I Ren.pure<|.cons 3 I (Ren.ptr (i:=0) I)<|.cons 15 I Ren.pure<|.cons 16 I Ren.pure<|.cons 17 I Ren.pure<|.nil) ?_
    refine aE (.v (bA I) I<|.a 1 I<|.k [1,3,15,16,17] I) ?_
    refine⟨x.az.length - (k+1),by omega,k+1,by omega,rfl,?_⟩
    rw[hst]
    first
     |rfl
     |(rw[←List.append_assoc];rfl)
 ·have hke:k=x.az.length:=by have:=of_decide_eq_false hc;omega
  refine bh<|ak<|ai (.a 1 I<|.v (aN I (rfl)) I<|.a 2 I<|.k [1,3,57] I)<|aq I (fun hc=>?_) (fun hc=>?_)
  ·have hdn:x.down≠[]:=fun h=>by have:=of_decide_eq_true hc;rw[h]at this;simp at this
   have hdt:ky x.down=br ([100,111,119,110]::bN x.down):=by unfold ky;rw[if_neg hdn]
   have hnl:(bN x.down).length=x.down.length:=by simp[bN]
   have hd1:=hx.down.1
   have hlk:=hlen k (by omega)
   rw[show x.node.toNat=nd by omega]at hlk
   have h1n:1+(bN x.down).length=([100,111,119,110]::bN x.down).length:=by simp;omega
   refine a6<|aO (aj (xs:=[_]) I (aV.sl.get I) ⟨Nat.le_of_ble_eq_true rfl,Nat.le_of_ble_eq_true rfl⟩ rfl rfl) I<|aK 1 I<|an (aN I (rfl)) I<|j4 I (aJ x.down (by omega) hx.down.2) I<|aO (ax I (aV.rk.get I) I I I (by simp[aT]) ⟨by unfold maxLen;omega,by omega⟩) I ?_
   (refine l8 62 3 I I ?_;rw[h1n];refine c5 [0,1] (.cons 3 I (Ren.ptr (i:=0) I)<|.cons 62 I (Ren.pure (p:=dG ([100,111,119,110]::bN x.down)))<|.nil) (.kept rfl (.cells (aw.cons (Ren.ptr (i:=0) I)<|aw.cons (Ren.own (i:=1) I) aw.nil))<|.kept rfl (.row aw.pure)<|.nil) I I ?_)
   refine bQ I I (bG.mono (dv true (br [[116,97,98,108,101],Lib.decDigits nd]++dC x.az k) ([100,111,119,110]::bN x.down) (by simp[hnl];omega) (by simp only[List.length_append]at*;omega)) (fun _ σ' h=>?_))
   subst h
   refine bd [3] I ?_
   refine dR (.cons 3 I (Ren.ptr (i:=0) I)<|.nil) ?_
   refine bp<|bQ I I (bG.mono (gL true _ (by simp[br];omega)) (fun _ σ' h=>?_))
   subst h
   refine aK 1 I<|bd [2] I ?_
   refine aF<|⟨_,_,aL.of I,aW.pure,?_⟩
   unfold l5
   rw[hdt,show x.node.toNat=nd by omega,←hke]
   first
    |rfl
    |(rw[List.append_nil];rfl)
  ·have hdn:x.down=[]:=List.eq_nil_of_length_eq_zero (by have:=of_decide_eq_false hc;omega)
   have hdt:ky x.down=[]:=by unfold ky;rw[if_pos hdn]
   refine au<|bp<|bQ I I (bG.mono (gL true _ (by simp[br];omega)) (fun _ σ' h=>?_))
   subst h
   refine aK 1 I<|bd [2] I ?_
   refine aF<|⟨_,_,aL.of I,aW.pure,?_⟩
   unfold l5
   rw[hdt,show x.node.toNat=nd by omega,←hke]
   first
    |rfl
    |(rw[List.append_nil];rfl)
open Net
def iS(k:Nat):List jr:=(List.range k).map fun(i:Nat)=>⟨(i:Int),(((i+1) % 4:Nat):Int),1,1,0,1,0⟩
def bL:aG:=⟨4,[],iS 4⟩
def gr(d:Nat):List Int:=match d with
 |0=>[0,1,2,1]
 |1=>[1,0,1,2]
 |2=>[2,1,0,1]
 |_=>[1,2,1,0]
theorem lR:aX bL=true:=by kernel_rfl
def pG(T:aG)(n:Nat)(out:List Int)(a:Nat):Bool:=decide (0≤at' out (bq T false a))&&(decide (bq T false a=(n:Int))|| !dM T (bq T false a).toNat)
def jc(n:Nat)(out:List Int):Bool:=
 decide (out.length=4)&&decide (at' out (n:Int)=0)&&(List.range 4).all (fun x=>decide (0≤at' out (x:Int)))&&
 (List.range 8).all (fun a=> !pG bL n out a||(decide (0≤at' out (cx bL false a))&&decide (at' out (cx bL false a)≤at' out (bq bL false a)+bo bL a)))&&
 (List.range 4).all (fun x=>decide (x=n)||(List.range 8).any fun a=>decide (cx bL false a=(x:Int))&&pG bL n out a&&decide (at' out (x:Int)=at' out (bq bL false a)+bo bL a))
theorem l1(n:Nat)(out:List Int)(a:Nat):Net.Way bL [] n false out a↔pG bL n out a=true:=by
 unfold Net.Way pG
 have:dB [] a=false:=by simp[dB]
 simp[this]
theorem qc{n:Nat}{out:List Int}(h:jc n out=true):cW bL [] n false out:=by
 simp only[jc,Bool.and_eq_true,decide_eq_true_eq,List.all_eq_true,List.mem_range,Bool.or_eq_true,Bool.not_eq_true',List.any_eq_true]at h
 obtain⟨⟨⟨⟨h1,h2⟩,h3⟩,h4⟩,h5⟩:=h
 refine⟨by rw[h1];rfl,h2,fun x hx=>?_,fun a ha hw=>?_,fun x hx _=>?_⟩
 ·have:=h3 x (by have:bL.nodes=4:=rfl;omega);omega
 ·rcases h4 a (by have:bL.ah.length=4:=rfl;omega)with h|h
  ·rw[(l1 n out a).1 hw]at h;cases h
  ·exact h
 ·rcases h5 x (by have:bL.nodes=4:=rfl;omega)with h|⟨a,ha,⟨h6,h7⟩,h8⟩
  ·exact .inl h
  ·exact .inr ⟨a,by have:bL.ah.length=4:=rfl;omega,h6,(l1 n out a).2 h7,h8⟩
theorem nv(d:Nat)(hd:d<4):cd bL [] d false=gr d:=by
 refine fp (b7 lR) (qc ?_)
 match d,hd with
 |0,_=>exact(show jc 0 (gr 0)=true by kernel_rfl)
 |1,_=>exact(show jc 1 (gr 1)=true by kernel_rfl)
 |2,_=>exact(show jc 2 (gr 2)=true by kernel_rfl)
 |3,_=>exact(show jc 3 (gr 3)=true by kernel_rfl)
theorem lW(l:List jr)(e:jr):dx l++iZ e=dx (l++[e]):=by simp[dx]
theorem lx(k:Nat):iS (k+1)=iS k++[⟨(k:Int),(((k+1) % 4:Nat):Int),1,1,0,1,0⟩]:=by simp[iS,List.range_succ]
theorem oq{P:Program}{σ:bt}{t:aZ}{o:Oper}{ty:TypeId}{v0 v1 c0 c1:Value}(ho:o.op= .build ty #[(0,.const v0),(1,.const v1)])(hb:P.built ty [(0,v0),(1,v1)]=some #[c0,c1]):ay P σ t o (.agg [.raw c0,.raw c1]):=by
 intro F base E ρ w hρ hS hT
 have hrun:=run_build (P:=P) w ty #[(0,v0),(1,v1)] #[c0,c1] hb
 have h0:ρ (.const v0)=v0:=hρ.const v0
 have h1:ρ (.const v1)=v1:=hρ.const v1
 have hr:(execOp ρ o).run P w= .ok (.value (.agg #[c0,c1])) w:=by
  simp only[execOp,ho,Sem.run_bind,List.map_toArray,List.map_cons,List.map_nil,h0,h1,hrun,Result.andThen_ok,Sem.run_pure]
 rw[hr]
 refine aC (.agg #[c0,c1] _ rfl (fun i x u k1 k2=>?_))
 match i,k1,k2 with
 |0,k1,k2=>simp at k1 k2;subst k1;subst k2;exact .raw _
 |1,k1,k2=>simp at k1 k2;subst k1;subst k2;exact .raw _
 |_+2,k1,k2=>simp at k2
end
section
open Net
def mw(d:Nat):List Int:=if 0=d∨(gr d).getD 0 0<0 then [] else fc bL [] (gr d) ((gr d).getD 0 0) d (cX bL ((0:Nat):Int))
def bK:iK:=⟨0,[⟨[],false,[]⟩,⟨[0],false,[]⟩,⟨[0,7],false,[]⟩,⟨[7],false,[]⟩],[]⟩
theorem eU(d:Nat)(hd:d<4):ie bL [] 0 d=((bK.az.getD d ⟨[],false,[]⟩).aH):=by
 unfold ie
 rw[nv d hd]
 match d,hd with
 |0,_=>exact(show mw 0=[] by kernel_rfl)
 |1,_=>exact(show mw 1=[0] by kernel_rfl)
 |2,_=>exact(show mw 2=[0,7] by kernel_rfl)
 |3,_=>exact(show mw 3=[7] by kernel_rfl)
theorem kW:eZ bL [] 0=bK:=by
 unfold eZ
 rw[if_pos (show cG bL [] [0]=0 by kernel_rfl)]
 unfold jY
 have h:nN bL [] 0 4=bK.az:=by
  unfold nN
  simp only[List.range,List.range.loop,List.map_cons,List.map_nil,eU 0 (by omega),eU 1 (by omega),eU 2 (by omega),eU 3 (by omega)]
  rfl
 show(⟨((0:Nat):Int),nN bL [] 0 4,fm [] (cX bL 0)⟩:iK)=bK
 rw[h]
 have h2:fm [] (cX bL 0)=[]:=by kernel_rfl
 rw[h2]
 rfl
def ga:List UInt8:=[116,97,98,108,101,32,48,10,116,111,32,49,32,111,118,101,114,32,48,10,116,111,32,50,32,111,118,101,114,32,48,32,55,10,116,111,32,51,32,111,118,101,114,32,55,10]
theorem mK:l5 bK=ga:=by kernel_rfl
open Go.RowKit bm Mem
theorem lj(T:aG)(D:List Bool)(n:Int):Can Tryd.prog 18 [cj T,ca D,num n] (· = .tuple [fW (eZ T D n),num (cG T D [n])]):=by
 refine aY Tryd.func18 I Tryd.ntmps18 I<|bp<|aK 3 I<|bd [1,2,3,6] I ?_
 refine ak ?_
 obtain⟨q1,hq1⟩:∃q,aX T=q:=⟨_,rfl⟩
 obtain⟨q2,hq2⟩:∃q,da T D=q:=⟨_,rfl⟩
 refine b4 22 (.raw (.bool ((!q1)||(!q2)))) [1,2,3,6] I ?_ ?_
 ·refine .a 1 I<|.c rfl (hq1▸jk T) I<|.a 2 I<|?_
  cases q1
  ·exact .a 5 I<|.k [22,1,2,3,6] I
  ·exact .a 2 I<|.c rfl (hq2▸kD T D (by have:=fy hq1;omega)) I<|.a 2 I<|.k [22,1,2,3,6] I
 refine aq I (fun hc=>?_) (fun hc=>?_)
 ·have hch:cG T D [n]=1:=by
   unfold cG
   rw[hq1,hq2,if_neg]
   revert hc
   cases q1<;>cases q2<;>simp
  refine bp<|aK 3 I<|bd [6,7] I ?_
  exact aF<|⟨_,_,aL.of I,aW.fk (aI.cons (aW.nr (aI.cons aW.pure<|aI.cons aW.cl<|aI.cons aW.cl aI.nil)) (aI.cons aW.pure aI.nil)),by unfold eZ;rw[hch];rfl⟩
 ·have hok:(aX T&&da T D)=true:=by
   rw[hq1,hq2]
   revert hc
   cases q1<;>cases q2<;>simp
  clear hc hq1 hq2
  refine au<|ak<|ai (.a 2 I<|.c rfl (eQ T n) I<|.a 1 I<|.k [1,2,3,6,27] I)<|aq I (fun hc=>?_) (fun hc=>?_)
  ·have hn:bE T n=false:=by revert hc;cases bE T n<;>simp
   have hch:cG T D [n]=2:=by
    unfold cG
    rw[if_pos hok,if_neg]
    simp[hn]
   refine bp<|aK 3 I<|bd [6,7] I ?_
   exact aF<|⟨_,_,aL.of I,aW.fk (aI.cons (aW.nr (aI.cons aW.pure<|aI.cons aW.cl<|aI.cons aW.cl aI.nil)) (aI.cons aW.pure aI.nil)),by unfold eZ;rw[hch];rfl⟩
  ·have hn:bE T n=true:=by revert hc;cases bE T n<;>simp
   have hch:cG T D [n]=0:=by
    unfold cG
    rw[if_pos hok,if_pos]
    simp[hn]
   obtain⟨hv,hf⟩:=Bool.and_eq_true_iff.1 hok
   rw[eY]at hn
   obtain⟨m,rfl⟩:=Int.eq_ofNat_of_zero_le hn.1
   obtain⟨N,hN⟩:∃N:Nat,T.nodes=(N:Int):=⟨T.nodes.toNat,by omega⟩
   have hN64:N≤64:=by have:=(b7 hv).nodes;omega
   have hll:=fy hv
   refine au<|bp<|aK 4 I<|bd [1,2,3,6,8] I ?_
   refine bD 1 1 30 3 I I ?_
   refine bD 1 2 3 1 I I ?_
   refine ak<|ai (.a 1 I<|.v (aN I ((show some (num T.nodes)=some (num (N:Int)) by rw[hN]))) I<|.a 1 I<|.k [1,2,3,6,8,32,33] I)<|aB<|gU [1,2,3,6,8,32,33] I<|bz (fun r s=>∃j,j≤N∧r=N - j∧s=⟨[(1,ca D),(2,num m),(3,.bT (eo T) 0),(6,.ptr 0 0),(8,.ptr 1 0),(32,num N),(33,num j)],[some (.cells 25 [num 0,.raw (.slice none 0 0),.raw (.slice none 0 0)]),some (.cells 25 [num m,.own 2,.own 3]),some (.row 30 3 j (e8 (nN T D m j))),some (.row 3 1 0 [])]⟩) N ⟨0,by omega,by omega,rfl⟩ ?_
   rintro r s ⟨j,hj,rfl,rfl⟩
   refine ai (.a 1 I<|.k [1,2,3,6,8,32,33,34] I)<|ak<|aq I (fun hc=>?_) (fun hc=>?_)
   ·have hlt:j<N:=by have:=of_decide_eq_true hc;omega
    have hne:eH T D (m:Int) (j:Int)=0:=by
     have hnb:bE T (j:Int)=true:=eY.2 ⟨by omega,by omega⟩
     have hch':cG T D [(j:Int)]=0:=by
      unfold cG
      rw[if_pos hok,if_pos]
      simp[hnb]
     unfold eH
     rw[if_pos hch',if_pos (eY.2 hn)]
    have hnx:Can Tryd.prog 48 [cj T,ca D,num m,num j] (· = .tuple [aR (ie T D m j),num 0]):=by
     have h:=oR T D (m:Int) (j:Int)
     rw[hne]at h
     exact h
    refine au<|ak<|aB<|ai (.a 2 I<|.k [1,2,3,6,8,9,32,33] I)<|ai (.a 4 I<|.c rfl (hnx) I<|.a 5 I<|.k [1,2,3,6,8,10,32,33] I)<|a6<|aK 3 I<|an (rS (dD (xs:=[_,_,_]) I (aV.st.get I) I I) (kn.nr (.cons (kn.refl _)<|.cons (kn.refl _)<|.cons kn.cl .nil))) I<|aK 1 I<|aO (ax I (aV.rk.get I) I I I I (by unfold maxLen;omega)) I<|aK 2 I ?_
    refine c5 [0,1,4,3] (.c 1<|.c 2<|.c 3<|.c 6<|.c 8<|.c 32<|.c 33<|.nil) (.kept rfl (.cells (aw.c<|aw.c<|aw.c<|aw.nil))<|.kept rfl (.cells (aw.c<|aw.c<|aw.c<|aw.nil))<|.kept rfl (.du rfl (show _=e8 (nN T D m (j+1)) by rw[od];exact lT _ ⟨ie T D m j,false,[]⟩))<|.kept rfl (.row aw.pure)<|.nil) I I (ab ?_)
    refine aE (.v (bA I) I<|.a 1 I<|.k [1,2,3,6,8,32,33] I) ?_
    exact⟨N - (j+1),by omega,j+1,by omega,rfl,rfl⟩
   ·have hje:j=N:=by have:=of_decide_eq_false hc;omega
    subst hje
    refine bh<|ak ?_
    have hol:(cX T m).length≤512:=Nat.le_trans (e5 T m _) (by omega)
    refine ai (.a 2 I<|.c rfl (l4 T hll _) I<|.a 2 I<|.k [1,6,8,54,55,56] I)<|aB<|gU [1,6,8,54,55,56] I<|bz (fun r s=>∃i,i≤(cX T m).length∧r=(cX T m).length - i∧s=⟨[(1,ca D),(6,.ptr 0 0),(8,.ptr 1 0),(54,aR (cX T m)),(55,num (cX T m).length),(56,num i)],[some (.cells 25 [num 0,.raw (.slice none 0 0),.raw (.slice none 0 0)]),some (.cells 25 [num m,.own 2,.own 3]),some (.row 30 3 j (e8 (nN T D m j))),some (.row 3 1 (fm D ((cX T m).take i)).length (aS (fm D ((cX T m).take i))))]⟩) (cX T m).length ⟨0,by omega,by omega,rfl⟩ ?_
    rintro r s ⟨i,hi,rfl,rfl⟩
    refine ai (.a 1 I<|.k [1,6,8,54,55,56,57] I)<|ak<|aq I (fun hc=>?_) (fun hc=>?_)
    ·have hlt:i<(cX T m).length:=by have:=of_decide_eq_true hc;omega
     obtain⟨h0,h1⟩:=kN (cA (d:=0) hlt)
     obtain⟨a,ha⟩:=Int.eq_ofNat_of_zero_le h0
     have hDl:D.length=0∨a<D.length:=by simp only[da,decide_eq_true_eq]at hf;omega
     have hstep:fm D ((cX T m).take (i+1))=fm D ((cX T m).take i)++(if dB D a then [(a:Int)] else []):=by
      unfold fm
      rw[de _ i 0 hlt,List.filter_append,ha]
      simp only[List.filter_cons,List.filter_nil,Int.toNat_natCast]
     have hdl:(fm D ((cX T m).take i)).length≤1000:=Nat.le_trans (List.length_filter_le _ _) (by rw[List.length_take];have:=e5 T m (2*T.ah.length);unfold cX at*;omega)
     refine au<|ak<|aB<|ai (.v (bf (i) I) I<|.v (aN I ((aM _ i hlt).trans (by rw[ha]))) I<|.a 1 I<|.k [1,6,8,13,54,55,56] I)<|ai (.a 2 I<|.c rfl (iI D a hDl) I<|.k [1,6,8,13,54,55,56,62] I)<|aq I (fun hcd=>?_) (fun hcd=>?_)
     ·rw[hcd,if_pos rfl]at hstep
      refine a6<|aK 4 I<|aO (ax I (aV.rk.get I) I I I I (by unfold maxLen;omega)) I<|aK 2 I ?_
      refine c5 [0,1,2,4] (.c 1<|.c 6<|.c 8<|.c 54<|.c 55<|.c 56<|.nil) (.kept rfl (.cells (aw.c<|aw.c<|aw.c<|aw.nil))<|.kept rfl (.cells (aw.c<|aw.c<|aw.c<|aw.nil))<|.kept rfl (.row aw.pure)<|.kept rfl (.du rfl (dj _ _))<|.nil) I I (ab ?_)
      refine aE (.v (bA I) I<|.a 1 I<|.k [1,6,8,54,55,56] I) ?_
      refine⟨(cX T m).length - (i+1),by omega,i+1,by omega,rfl,?_⟩
      rw[hstep]
      first
       |rfl
       |(simp only[List.length_append,List.length_singleton];rfl)
     ·rw[hcd,if_neg (by simp),List.append_nil]at hstep
      refine au<|aE (.v (bA I) I<|.a 1 I<|.k [1,6,8,54,55,56] I) ?_
      refine⟨(cX T m).length - (i+1),by omega,i+1,by omega,rfl,?_⟩
      rw[hstep]
      first
       |rfl
       |(simp only[List.length_append,List.length_singleton];rfl)
    ·have hie:i=(cX T m).length:=by have:=of_decide_eq_false hc;omega
     subst hie
     refine bh<|bp<|an (dZ (ys:=[num m,.own 2,.own 3]) I (aV.tk.get I) I I I I) I<|aK 2 I<|bd [6,7] I ?_
     refine aF<|⟨_,_,aL.of I,aW.fk (aI.cons (aW.nr (aI.cons aW.pure<|aI.cons (aW.gH rfl aI.pure)<|aI.cons (aW.gH rfl aI.pure) aI.nil)) (aI.cons aW.pure aI.nil)),?_⟩
     unfold eZ
     rw[hch,if_pos rfl,List.take_length]
     unfold jY fW cP cS aR
     rw[qg,show T.nodes.toNat=j by omega]
     rfl
theorem ly:Small bK:=by
 refine⟨by decide,by decide,fun e he=>?_,by decide,fun a ha=>by cases ha⟩
 simp[bK]at he
 rcases he with rfl|rfl|rfl|rfl<;>simp
theorem nI:(List.range 5).all (fun k=>Nat.ble ((br [[116,97,98,108,101],Lib.decDigits bK.node.toNat]).length+(dC bK.az k).length) 100000000)=true:=by kernel_rfl
theorem mP:(List.range 4).all (fun d=>Nat.ble (br ([[116,111],Lib.decDigits d,[111,118,101,114]]++bN (bK.az.getD d ⟨[],false,[]⟩).aH)).length 100000000)=true:=by kernel_rfl
theorem nk:Nat.ble (br ([100,111,119,110]::bN bK.down)).length 100000000=true:=by kernel_rfl
theorem iX:Can Tryd.prog 8 [fW bK] (· =ed ga):=by
 rw[←mK]
 refine lD bK ly (fun k hk=>?_) (fun d e he=>?_) (Nat.le_of_ble_eq_true nk)
 ·have h4:k≤4:=hk
  exact Nat.le_of_ble_eq_true (List.all_eq_true.1 nI k (List.mem_range.2 (by omega)))
 ·have hd:d<bK.az.length:=(List.getElem?_eq_some_iff.1 he).1
  have h4:d<4:=hd
  have h:=Nat.le_of_ble_eq_true (List.all_eq_true.1 mP d (List.mem_range.2 h4))
  rw[show bK.az.getD d ⟨[],false,[]⟩=e by rw[List.getD_eq_getElem?_getD,he];rfl]at h
  exact h
theorem nA:Can Tryd.prog 5 [] (· =flag true):=by
 have hro:=lj bL [] 0
 rw[kW,show cG bL [] [0]=0 by kernel_rfl]at hro
 refine aY Tryd.func5 I Tryd.ntmps5 I<|ai (.a 1 I<|.k [] I)<|ai (.a 1 I<|.k [1] I)<|fB 1 59 7 I ?_
 refine ak<|ai (.a 1 I<|.k [1,5] I)<|aB<|gU [1,5] I<|bz (fun r s=>∃k,k≤4∧r=4 - k∧s=⟨[(1,.own 0),(5,num k)],[some (.row 59 7 k (dx (iS k)))]⟩) 4 ⟨0,by omega,by omega,rfl⟩ ?_
 rintro r s ⟨k,hk,rfl,rfl⟩
 refine ai (.a 1 I<|.k [1,5,6] I)<|ak<|aq I (fun hc=>?_) (fun hc=>?_)
 ·have hlt:k<4:=by have:=of_decide_eq_true hc;omega
  refine au<|ak<|aB<|ai (.a 2 I<|.k [1,2,5] I)<|a6<|aK 3 I<|an (bA I) I<|an (ox I I I (by decide) ((show((k:Int)+1).tmod 4=(((k+1) % 4:Nat):Int) by rw[Int.tmod_eq_emod_of_nonneg (by omega)];omega))) I<|an (oq I (show Tryd.prog.built 57 [(0,.int .i64 1),(1,.int .i64 1)]=some #[.int .i64 1,.int .i64 1] by kernel_rfl)) I<|aK 2 I<|aO (ax I (aV.rk.get I) I I I I (by unfold maxLen;omega)) I<|aK 1 I ?_
  refine c5 [1] (.c 1<|.c 5<|.nil) (.kept rfl (.du rfl (show _=dx (iS (k+1)) by rw[lx];exact lW _ ⟨(k:Int),(((k+1) % 4:Nat):Int),1,1,0,1,0⟩))<|.nil) I I (ab ?_)
  refine aE (.v (bA I) I<|.a 1 I<|.k [1,5] I) ?_
  exact⟨4 - (k+1),by omega,k+1,by omega,rfl,rfl⟩
 ·have hke:k=4:=by have:=of_decide_eq_false hc;omega
  subst hke
  refine ki 1 0 I I ?_
  refine b0 [] (.cons 1 I (Ren.pure (p:=.slice 4 (dx (iS 4)))) .nil) .nil rfl rfl ?_
  refine bh<|bp<|aK 2 I<|an (rP I (aI.cons (aW.nr (aI.cons aW.pure<|aI.cons aW.cl<|aI.cons aW.pure aI.nil))<|aI.cons aW.cl<|aI.cons aW.pure aI.nil) (hro)) I<|aK 6 I<|bd [3,4] I ?_
  refine cE (σ':=[some (.cells 25 (cP bK))]) I ?_
  refine cq 3 0 0 I I ?_
  refine b0 [] (.cons 3 I (Ren.pure (p:=.bT (cP bK) 0))<|.cons 4 I Ren.pure .nil) .nil rfl rfl ?_
  refine b4 0 (.raw (.bool (true))) [] I ?_ ?_
  ·exact .a 4 I<|.c rfl (iX) I<|.v (hU I I I (beq_self_eq_true (ByteArray.toList ⟨ga.toArray⟩))) I<|.a 2 I<|.k [0] I
  exact aF<|⟨_,_,aL.of I,aW.pure,rfl⟩
theorem o1{P:Program}{σ:bt}{t:aZ}{o:Oper}{x y:Operand}{ty tz:TypeId}{a b:Int}(ho:o.op= .binOp .add ty x y tz)(hx:ag t x=some (num a))(hy:ag t y=some (num b)):ay P σ t o (num (IntKind.i64.wrap (a+b))):=
 c8 ho hx hy fun w=>by simp[binOp,Op.intArith]
def eK(n:Int)(l:List ev):Int:=l.foldl (fun n e=>IntKind.i64.wrap (n+IntKind.i64.wrap ((e.aH.length:Int)+(e.push.length:Int)))) n
def jx(x:iK):Bool:=decide (300<eK x.down.length x.az)||decide (70<(x.az.length:Int))
theorem lI(n:Int)(l:List ev)(k:Nat)(e:ev)(h:l[k]? =some e):eK n (l.take (k+1))=IntKind.i64.wrap (eK n (l.take k)+IntKind.i64.wrap ((e.aH.length:Int)+(e.push.length:Int))):=by
 unfold eK
 rw[List.take_add_one,h,List.foldl_append]
 rfl
theorem oJ(x:iK):Can Tryd.prog 6 [fW x] (· =flag (jx x)):=by
 refine mi fun⟨E,w,vs,hR⟩=>?_
 obtain⟨v,_,hv⟩:=hR.get (i:=0) I
 have hm:=(pN hv).1
 unfold maxLen at hm
 obtain⟨p1,hp1⟩:∃q,decide (300<eK x.down.length x.az)=q:=⟨_,rfl⟩
 obtain⟨p2,hp2⟩:∃q,decide (70<(x.az.length:Int))=q:=⟨_,rfl⟩
 unfold jx
 rw[hp1,hp2]
 refine aY Tryd.func6 I Tryd.ntmps6 I<|ai (.a 2 I<|.k [1] I)<|ai (.a 4 I<|.k [1,3] I)<|ak<|ai (.a 4 I<|.k [1,3,10,11,12] I)<|aB<|gU [1,3,10,11,12] I<|bz (fun r s=>∃k,k≤x.az.length∧r=x.az.length - k∧s=⟨[(1,.bT (cP x) 0),(3,num (eK x.down.length (x.az.take k))),(10,cS x.az),(11,num x.az.length),(12,num k)],[]⟩) x.az.length ⟨0,by omega,by omega,rfl⟩ ?_
 rintro r s ⟨k,hk,rfl,rfl⟩
 refine ai (.a 1 I<|.k [1,3,10,11,12,13] I)<|ak<|aq I (fun hc=>?_) (fun hc=>?_)
 ·have hlt:k<x.az.length:=by have:=tt hc;omega
  obtain⟨e,he⟩:∃a,x.az[k]? =some a:=⟨x.az[k],by simp[hlt]⟩
  refine au<|ak<|aB<|bp<|an (bf (k*3) I) I<|an (nD I (dH x.az k e he) I) I<|aK 2 I<|bd [1,3,5,10,11,12] I ?_
  refine aE (.a 7 I<|.v (o1 I I I) I<|.v (o1 I I I) I<|.a 1 I<|.k [1,3,10,11,12] I) ?_
  refine b0 [] (.c 1<|.c 3<|.c 10<|.c 11<|.c 12 .nil) .nil rfl rfl ?_
  refine aE (.v (bA I) I<|.a 1 I<|.k [1,3,10,11,12] I) ?_
  exact⟨x.az.length - (k+1),by omega,k+1,by omega,rfl,by rw[lI _ _ k e he];rfl⟩
 ·have hke:k=x.az.length:=by have:=ff hc;omega
  subst hke
  rw[List.take_length]
  refine bh<|b4 2 (.raw (.bool (p1||p2))) [] I ?_ ?_
  ·refine .a 1 I<|.v (et I (hp1)) I<|.a 1 I<|?_
   cases p1
   ·exact .a 3 I<|.v (et I (hp2)) I<|.a 2 I<|.k [2] I
   ·exact .a 6 I<|.k [2] I
  exact aF<|⟨_,_,aL.of I,aW.pure,rfl⟩
theorem j3{T:aG}{D:List Bool}(hv:aX T=true){d x:Nat}(hd:(d:Int)<T.nodes)(hx:(x:Int)<T.nodes):(cd T D d false).getD x 0=at' (cd T D d false) (x:Int):=by
 have hl:=(gk (D:=D) hv (dir:=false) hd).1
 unfold at'
 rw[Int.toNat_natCast,List.getD_eq_getElem?_getD,List.getD_eq_getElem?_getD,List.getElem?_eq_getElem (by omega)]
 rfl
structure il (T:aG) (D:List Bool) (n d a:Nat):Prop where
 r5:a<2*T.ah.length
 tail:cL T a=(n:Int)
 up:dB D a=false
 ne:n≠d
 reach:0≤(cd T D d false).getD (bV T a).toNat 0
 pass:bV T a=(d:Int)∨dM T (bV T a).toNat=false
 sum:(cd T D d false).getD n 0=(cd T D d false).getD (bV T a).toNat 0+bo T a
theorem ny{T:aG}{D:List Bool}(hv:aX T=true){d:Nat}(hd:(d:Int)<T.nodes):(cd T D d false).getD d 0=0:=by
 rw[j3 hv hd hd]
 exact(kT (b7 hv) D false hd).root
noncomputable def dN(T:aG)(D:List Bool)(d x:Nat):Int:=(cd T D d false).getD x 0
def oY(T:aG)(p:List Int):Int:=p.foldr (fun a c=>bo T a.toNat+c) 0
theorem lM(T:aG)(a:Int)(p:List Int):oY T (a::p)=bo T a.toNat+oY T p:=rfl
inductive SP (T:aG) (D:List Bool) (d:Nat):Nat→List Int→Prop
 |nil:SP T D d d []
 |cons {n a m:Nat} {p:List Int}:il T D n d a→bV T a=(m:Int)→SP T D d m p→SP T D d n ((a:Int)::p)
inductive Ch (T:aG) (D:List Bool) (d:Nat):Nat→List Int→Prop
 |nil:Ch T D d d []
 |cons {n a m:Nat} {p:List Int}:a<2*T.ah.length→cL T a=(n:Int)→dB D a=false→bV T a=(m:Int)→(p=[]∨dM T m=false)→Ch T D d m p→Ch T D d n ((a:Int)::p)
section
variable {T:aG} {D:List Bool} {d:Nat}
theorem mz(hv:aX T=true)(hd:(d:Int)<T.nodes):dN T D d d=0:=ny hv hd
theorem il.dN{n a m:Nat}(h:il T D n d a)(hm:bV T a=(m:Int)):0≤dN T D d m∧dN T D d n=dN T D d m+bo T a:=by
 have h1:=h.reach
 have h2:=h.sum
 rw[hm,Int.toNat_natCast]at h1 h2
 exact⟨h1,h2⟩
theorem il.node(hv:aX T=true){n a:Nat}(h:il T D n d a):(n:Int)<T.nodes:=by rw[←h.tail];exact((b7 hv).tail a h.r5).2
theorem SP.node(hv:aX T=true)(hd:(d:Int)<T.nodes){n:Nat}{p:List Int}(h:SP T D d n p):(n:Int)<T.nodes:=by
 cases h with
 |nil=>exact hd
 |cons h1 _ _=>exact h1.node hv
theorem SP.len(hv:aX T=true)(hd:(d:Int)<T.nodes){n:Nat}{p:List Int}(h:SP T D d n p):(p.length:Int)≤dN T D d n:=by
 induction h with
 |nil=>rw[mz hv hd];simp
 |cons h1 hm _ ih=>
  obtain⟨g1,g2⟩:=h1.dN hm
  have:=(b7 hv).cost _ h1.r5
  simp only[List.length_cons]
  omega
theorem qC(hv:aX T=true)(hd:(d:Int)<T.nodes){n a m:Nat}(ha:a<2*T.ah.length)(ht:cL T a=(n:Int))(hu:dB D a=false)(hm:bV T a=(m:Int))(ho:m=d∨dM T m=false)(h0:0≤dN T D d m):0≤dN T D d n∧dN T D d n≤dN T D d m+bo T a:=by
 have hS:=b7 hv
 have hI:=kT hS D false hd
 have hmN:(m:Int)<T.nodes:=by rw[←hm];exact(hS.head a ha).2
 have hnN:(n:Int)<T.nodes:=by rw[←ht];exact(hS.tail a ha).2
 have e1:=j3 (D:=D) hv hd hnN
 have e2:=j3 (D:=D) hv hd hmN
 have:=hI.closed a ha ⟨hu,by simp only[bq,Bool.false_eq_true,if_false];rw[hm,←e2];exact h0,by
  simp only[bq,Bool.false_eq_true,if_false];rw[hm]
  rcases ho with h|h
  ·exact .inl (by rw[h])
  ·exact .inr (by simpa using h)⟩
 simp only[cx,bq,Bool.false_eq_true,if_false]at this
 rw[hm,ht,←e1,←e2]at this
 exact this
theorem Ch.node(hv:aX T=true)(hd:(d:Int)<T.nodes){n:Nat}{p:List Int}(h:Ch T D d n p):(n:Int)<T.nodes:=by
 cases h with
 |nil=>exact hd
 |cons h1 ht _ _ _ _=>rw[←ht];exact((b7 hv).tail _ h1).2
theorem Ch.to{n:Nat}{p:List Int}(h:Ch T D d n p):p=[]→n=d:=by
 cases h with
 |nil=>intro _;rfl
 |cons=>intro h;cases h
theorem Ch.le(hv:aX T=true)(hd:(d:Int)<T.nodes){n:Nat}{p:List Int}(h:Ch T D d n p):0≤dN T D d n∧dN T D d n≤oY T p:=by
 induction h with
 |nil=>rw[mz hv hd];exact⟨Int.le_refl _,Int.le_refl _⟩
 | @cons n a m p ha ht hu hm ho hp ih=>
  have:=qC hv hd ha ht hu hm (by rcases ho with h|h;exact .inl (hp.to h);exact .inr h) ih.1
  rw[lM,Int.toNat_natCast]
  omega
end
section
variable {P:Program} {σ:bt} {t:aZ} {o:Oper}
theorem ka{src dst:TypeId}{x:Operand}{k k':IntKind}{a c:Int}{ty:TypeDesc}(ho:o.op= .convert src dst x)(hs:P.underlying src=some ty)(hd:P.underlying dst=some (.int k'))(hx:ag t x=some (.raw (.int k a)))(hc:k'.wrap a=c):ay P σ t o (.raw (.int k' c)):=by
 intro F base E ρ w hρ _ hT
 have h1:=af hρ hT hx
 generalize hz:ρ x=z at h1
 cases h1
 have h2:(convert src dst (.int k a)).run P w= .ok (.int k' c) w:=by
  simp[convert,Sem.run_bind,run_underlying hs,run_underlying hd,Conv.intToInt,hc]
 simp only[execOp,ho,hz,Sem.run_bind,h2]
 exact aC (.raw _)
end
theorem mB(n:Nat)(h:n≤255):IntKind.u8.wrap (n:Int)=(n:Int):=by rw[IntKind.wrap_u8];omega
def rj(L:List Int)(x y:Int):Prop:=L.getD y.toNat 0<L.getD x.toNat 0∨(L.getD y.toNat 0=L.getD x.toNat 0∧x≤y)
theorem qR(L:List Int){x y:Int}(h:¬rj L x y):rj L y x:=by unfold rj at*;omega
def rT(L ys:List Int)(i j:Nat):Prop:=∀p q,p<q→q≤i→q≠j→rj L (ys.getD p 0) (ys.getD q 0)
theorem rT.swap{L ys:List Int}{i j:Nat}(h:rT L ys i j)(h0:0<j)(hj:j≤i)(hi:i<ys.length)(hb:¬rj L (ys.getD (j - 1) 0) (ys.getD j 0)):rT L (Heap.b8 ys j (j - 1)) i (j - 1):=fun p q h1 h2 h3=>by
 rw[Heap.bI ys j (j - 1) p (by omega) (by omega),Heap.bI ys j (j - 1) q (by omega) (by omega),if_neg h3]
 by_cases hq:q=j
 ·rw[if_pos hq]
  by_cases hp:p=j - 1
  ·rw[if_pos hp];exact qR L hb
  ·rw[if_neg hp,if_neg (by omega)];exact h p (j - 1) (by omega) (by omega) (by omega)
 ·rw[if_neg hq]
  by_cases hp:p=j - 1
  ·rw[if_pos hp];exact h j q (by omega) h2 hq
  ·rw[if_neg hp]
   by_cases hp2:p=j
   ·rw[if_pos hp2];exact h (j - 1) q (by omega) h2 hq
   ·rw[if_neg hp2];exact h p q h1 h2 hq
abbrev ec(l:List UInt8):PV:=.raw (.string ⟨l.toArray⟩)
theorem ja(a b:List UInt8):(⟨a.toArray⟩:ByteArray)++⟨b.toArray⟩=⟨(a++b).toArray⟩:=by
 apply ByteArray.ext
 simp
theorem bY{P:Program}{σ:bt}{t:aZ}{o:Oper}{x y:Operand}{ty tz:TypeId}{a b:List UInt8}(ho:o.op= .binOp .add ty x y tz)(hx:ag t x=some (ec a))(hy:ag t y=some (ec b))(hn:a.length+b.length≤1000000):ay P σ t o (ec (a++b)):=
 ry ho hx hy (ja a b) (by show a.toArray.size+b.toArray.size≤_;simp;omega)
theorem jK{P:Program}{σ:bt}{t:aZ}{o:Oper}{src dst e:TypeId}{x:Operand}{c:UInt8}(ho:o.op= .convert src dst x)(hs:P.underlying src=some (.slice e))(hd:P.underlying dst=some .string)(he:P.underlying e=some (.int .u8))(hx:ag t x=some (.slice 1 [.raw (.int .u8 c.toNat)])):ay P σ t o (ec [c]):=by
 intro F base E ρ w hρ _ hT
 have h1:=af hρ hT hx
 generalize hz:ρ x=z at h1
 cases h1 with
 |slice b off _ cap cs _ h0 h1 h2 hb hM hc hl hr=>
  match cs,hl,hc,hr with
  | [v],_,hc,hr=>
   have hv:=dP (hr 0 v _ rfl rfl)
   subst hv
   have hlc:=run_loadCellsFrom (P:=P) ⟨b,off,none⟩ rfl [.int .u8 c.toNat] 0 #[] w (fun j x hx=>by rw[Nat.zero_add];exact hc j x hx)
   have hrun:(convert src dst (.slice (some ⟨b,off,none⟩) 1 cap)).run P w= .ok (.string ⟨[c].toArray⟩) w:=by
    simp only[convert,Sem.run_bind,run_underlying hs,run_underlying hd,run_underlying he,Result.andThen_ok,Conv.bytesToString,loadCells]
    rw[show(1:Nat)=[Value.int .u8 c.toNat].length from rfl,hlc]
    simp
    rfl
   simp only[execOp,ho,hz,Sem.run_bind,hrun]
   exact aC (.raw _)
theorem ld{P:Program}{σ:bt}{t:aZ}{o:Oper}{x y:Operand}{ty tz:TypeId}{a b c:Int}(ho:o.op= .binOp .add ty x y tz)(hx:ag t x=some (.raw (.int .u64 a)))(hy:ag t y=some (.raw (.int .u64 b)))(hc:IntKind.u64.wrap (a+b)=c):ay P σ t o (.raw (.int .u64 c)):=
 c8 ho hx hy fun w=>by simp[binOp,Op.intArith,hc]
def qY(n:Nat):UInt8:=UInt8.ofNat (48+n)
theorem gM{n:Nat}(h:n<10):(qY n).toNat=48+n:=by unfold qY;rw[UInt8.toNat_ofNat'];omega
theorem oB{P:Program}{σ:bt}{t:aZ}{o:Oper}{ty:TypeId}{v0 v1 v2 v3 v4:Value}(ho:o.op= .build ty #[(0,.const v0),(1,.const v1),(2,.const v2),(3,.const v3),(4,.const v4)])(hb:P.built ty [(0,v0),(1,v1),(2,v2),(3,v3),(4,v4)]=some #[v0,v1,v2,v3,v4]):ay P σ t o (.agg [.raw v0,.raw v1,.raw v2,.raw v3,.raw v4]):=by
 intro F base E ρ w hρ hS hT
 have hrun:=run_build (P:=P) w ty #[(0,v0),(1,v1),(2,v2),(3,v3),(4,v4)] #[v0,v1,v2,v3,v4] hb
 have hr:(execOp ρ o).run P w= .ok (.value (.agg #[v0,v1,v2,v3,v4])) w:=by
  simp only[execOp,ho,Sem.run_bind,List.map_toArray,List.map_cons,List.map_nil,hρ.const,hrun,Result.andThen_ok,Sem.run_pure]
 rw[hr]
 refine aC (.agg #[v0,v1,v2,v3,v4] _ rfl (fun i x u k1 k2=>?_))
 match i,k1,k2 with
 |0,k1,k2=>simp at k1 k2;subst k1;subst k2;exact .raw _
 |1,k1,k2=>simp at k1 k2;subst k1;subst k2;exact .raw _
 |2,k1,k2=>simp at k1 k2;subst k1;subst k2;exact .raw _
 |3,k1,k2=>simp at k1 k2;subst k1;subst k2;exact .raw _
 |4,k1,k2=>simp at k1 k2;subst k1;subst k2;exact .raw _
 |_+5,k1,k2=>simp at k2
abbrev mj:List PV:=[ec [],ec [110],ec [97],ec [103],ec [98]]
theorem hJ:∀(k u:Nat),1≤k→u<10 ^ k→Lib.nDigits u≤k
 |0,_,h,_=>absurd h (by omega)
 |k+1,u,_,h=>by
  by_cases hu:u<10
  ·rw[Lib.nDigits_small hu];omega
  ·rw[Lib.nDigits_big hu]
   have h1:1≤k:=by
    rcases Nat.eq_zero_or_pos k with rfl|h0
    ·simp at h;omega
    ·exact h0
   have h2:u / 10<10 ^ k:=by rw[Nat.pow_succ]at h;omega
   have:=hJ k (u / 10) h1 h2
   omega
theorem gO{u:Nat}(h:u<18446744073709551616):(Lib.decDigits u).length≤20:=by
 rw[Lib.decDigits_length]
 exact hJ 20 u (by omega) (by omega)
theorem cB{n:Int}(h:In64 n):(Lib.itoa n).length≤21:=by
 unfold In64 at h
 unfold Lib.itoa
 split
 ·have:=gO (u:=n.natAbs) (by omega)
  simp only[List.length_cons];omega
 ·have:=gO (u:=n.toNat) (by omega)
  omega
theorem qH:((0:Nat),(Lib.pow10Tab.map fun z=>Value.int .u64 z))∈GG:=by
 have h:GG.head? =some (0,Lib.pow10Tab.map fun z=>Value.int .u64 z):=by kernel_rfl
 exact List.mem_of_mem_head? h
theorem kH{M:Nat→Prop}{w:World}(h:gE M w):Lib.TabIs Tryd.prog w "internal/strconv.uint64pow10" .u64 Lib.pow10Tab:=by
 obtain⟨_,t,fz,h1⟩:=h 0 _ qH
 have hg:Tryd.prog.globalNamed "internal/strconv.uint64pow10" =some 0:=by kernel_rfl
 unfold Lib.TabIs World.var?
 rw[hg]
 simp only[Option.bind_some]
 rw[h1]
theorem kG(w:World)(k:Nat)(os:Array Obj):Ext w (Go.Sort.grow (w.drewN k) os):=
 ⟨rfl,rfl,rfl,Lib.size_grow w k os,fun g h=>Lib.heap_grow_old w k os g h⟩
theorem cV(n:Int)(h:In64 n):Can Tryd.prog 21 [num n] (· =ed (Lib.itoa n)):=fun F w vs _ hG hR=>by
 obtain⟨v,rfl,h1⟩:=oH hR
 cases dP h1
 unfold In64 at h
 refine(Tryd.strconv_Itoa n (by omega) (by omega) w (kH hG)).mono ?_
 rintro e w' ⟨rfl,k,os,rfl⟩
 exact⟨_,rfl,kG w k os,_,rfl,.raw _⟩
section
variable {P:Program} {σ:bt} {t:aZ} {o:Oper}
theorem mH{a:Int}(h0:0≤a)(h1:a<18446744073709551616):IntKind.u64.wrap a=a:=by rw[IntKind.wrap_u64];omega
theorem qU{x y:Operand}{ty tz:TypeId}{a b c:Int}(ho:o.op= .binOp .quo ty x y tz)(hx:ag t x=some (.raw (.int .u64 a)))(hy:ag t y=some (.raw (.int .u64 b)))(hb:b≠0)(hc:a.tdiv b=c)(hn:0≤c∧c<18446744073709551616):ay P σ t o (.raw (.int .u64 c)):=
 c8 ho hx hy fun w=>by simp[binOp,Op.intDiv,hb,hc,mH hn.1 hn.2]
theorem qP{x y:Operand}{ty tz:TypeId}{a b c:Int}(ho:o.op= .binOp .rem ty x y tz)(hx:ag t x=some (.raw (.int .u64 a)))(hy:ag t y=some (.raw (.int .u64 b)))(hb:b≠0)(hc:a.tmod b=c):ay P σ t o (.raw (.int .u64 c)):=
 c8 ho hx hy fun w=>by simp[binOp,Op.intDiv,hb,hc]
theorem qK{x:Operand}{ty:TypeId}{a c:Int}(ho:o.op= .unOp .neg ty x)(hx:ag t x=some (.raw (.int .i64 a)))(hc: -a=c)(hn:In64 c):ay P σ t o (.raw (.int .i64 c)):=by
 intro F base E ρ w hρ _ hT
 have h1:=af hρ hT hx
 generalize hz:ρ x=z at h1
 cases h1
 have hr:(execOp ρ o).run P w= .ok (.value (.int .i64 c)) w:=by
  simp only[execOp,ho,hz]
  simp[Op.unary,Op.intArith,hc,dT hn]
 rw[hr]
 exact aC (.raw _)
end
theorem i1{u:Nat}(h:¬u<10):Lib.decDigits u=Lib.decDigits (u / 10)++[qY (u % 10)]:=by
 rw[Lib.decDigits,dif_neg h];rfl
theorem gw:∀n:Nat,n<18446744073709551616→Can Tryd.prog 51 [.raw (.int .u64 n)] (· =ec (Lib.decDigits n)):=by
 intro n
 induction n using Nat.strongRecOn with
 |_ n ih=>
 intro hn
 obtain⟨q,hq⟩:∃q,decide ((n:Int)<10)=q:=⟨_,rfl⟩
 refine aY Tryd.func51 I Tryd.ntmps51 I<|ai (.a 1 I<|.k [0] I)<|ak<|ai (.a 1 I<|.v (qj I I I I) I<|.k [0,4] I)<|aq I (fun hc=>?_) (fun hc=>?_)
 ·have h10:n<10:=by have:=tt hc;omega
  rw[show Lib.decDigits n=[qY n] from Lib.decDigits_one h10]
  exact ai (.a 1 I<|.v (ld (c:=((qY n).toNat:Int)) I I I (by rw[IntKind.wrap_u64,gM h10];omega)) I<|.v (ka I Tryd.underlying73 Tryd.underlying5 rfl (mB _ (by rw[gM h10];omega))) I<|.a 1 I<|.v (jK I Tryd.underlying65 Tryd.underlying9 Tryd.underlying5 rfl) I<|.a 1 I<|.k [2] I)<|aF<|⟨_,_,aL.of I,aW.pure,rfl⟩
 ·have h10:¬n<10:=by have:=ff hc;omega
  rw[i1 h10]
  have hm:n % 10<10:=Nat.mod_lt _ (by decide)
  have hlen:=gO (u:=n / 10) (by omega)
  refine au<|fa mixed (by kernel_rfl) (.a 1 I<|.v [10] (qU (c:=((n / 10:Nat):Int)) I I I (by decide) (by rw[Int.tdiv_eq_ediv_of_nonneg (by omega)];omega) (by omega)) I I<|.v [11] (cH I (ih (n / 10) (by omega) (by omega))) I I<|.a 1 I<|.v [13] (qP (c:=((n % 10:Nat):Int)) I I I (by decide) (by rw[Int.tmod_eq_emod_of_nonneg (by omega)];omega)) I I<|.v [14] (ld (c:=((qY (n % 10)).toNat:Int)) I I I (by rw[IntKind.wrap_u64,gM hm];omega)) I I<|.v [15] (ka I Tryd.underlying73 Tryd.underlying5 rfl (mB _ (by rw[gM hm];omega))) I I<|.a 1 I<|.v [17] (jK I Tryd.underlying65 Tryd.underlying9 Tryd.underlying5 rfl) I I<|.v [12,18] (bY I I I (by simp only[List.length_singleton];omega)) I I<|.a 1 I<|.k [2] I) ?_
  exact aF<|⟨_,_,aL.of I,aW.pure,rfl⟩
theorem dz(n:Int)(h:In64 n):Can Tryd.prog 19 [num n] (· =ec (Lib.itoa n)):=by
 unfold In64 at h
 refine aY Tryd.func19 I Tryd.ntmps19 I<|ai (.a 1 I<|.k [0] I)<|ak<|ai (.a 2 I<|.k [0,4] I)<|aq I (fun hc=>?_) (fun hc=>?_)
 ·have gJ:n<0:=tt hc
  have hit:Lib.itoa n=[45]++Lib.decDigits n.natAbs:=by unfold Lib.itoa;rw[if_pos gJ];rfl
  have hlen:=gO (u:=n.natAbs) (by omega)
  rw[hit]
  exact ai (.a 1 I<|.v (bA I (hn:=(show In64 (n+1) by unfold In64;omega))) I<|.v (qK (c:= -(n+1)) I I I (by unfold In64;omega)) I<|.v (ka (c:= -(n+1)) I Tryd.underlying3 Tryd.underlying73 rfl (mH (by omega) (by omega))) I<|.v (ld (c:=((n.natAbs:Nat):Int)) I I I (by rw[mH (by omega) (by omega)];omega)) I<|.c rfl (gw n.natAbs (by omega)) I<|.v (bY (a:=[45]) I I I (by simp only[List.length_singleton];omega)) I<|.a 1 I<|.k [2] I)<|aF<|⟨_,_,aL.of I,aW.pure,rfl⟩
 ·have gJ:¬n<0:=ff hc
  have hit:Lib.itoa n=Lib.decDigits n.toNat:=by unfold Lib.itoa;rw[if_neg gJ]
  rw[hit]
  exact au<|ai (.a 1 I<|.v (ka (c:=((n.toNat:Nat):Int)) I Tryd.underlying3 Tryd.underlying73 rfl (by rw[mH (by omega) (by omega)];omega)) I<|.c rfl (gw n.toNat (by omega)) I<|.a 1 I<|.k [2] I)<|aF<|⟨_,_,aL.of I,aW.pure,rfl⟩
def cR:ByteArray:=⟨#[110,97,103,98]⟩
def kd(c:Int):List Int→Int→Int
 | [],_=>0
 |a::l,i=>if a=c then i+1 else kd c l (i+1)
def qW(c:Int):Int:=kd c [110,97,103,98] 0
theorem oI(w:World)(s:ByteArray)(p:Nat):Ext w (w.iter s p):=(Ext.refl w).alloc _
set_option maxRecDepth 1000000 in
theorem lN(c:Int)(w:World):Calls Tryd.prog 56 #[.int .i32 c] w fun e w'=>e= .returned (.int .i64 (qW c))∧∃p,w'=w.iter cR p:=by
 go_enter Tryd.func56,Tryd.ntmps56
 go_wp2
 go_loopw [2] (fun n w'=>∃pos:Nat,n= .int .i64 0∧w'=w.iter cR pos∧pos≤4∧kd c ([110,97,103,98].drop pos) pos=qW c) (fun _ w'=>4 - w'.iterPos w.heap.size)
 case atStart=>exact⟨0,rfl,rfl,by omega,rfl⟩
 case round=>
  obtain⟨pos,rfl,rfl,hp,hk⟩:=hrel
  rcases(show pos=0∨pos=1∨pos=2∨pos=3∨pos=4 by omega)with rfl|rfl|rfl|rfl|rfl
  ·have hnx:∀ty,(Instr.next (.pointer (some ⟨w.heap.size,0,none⟩)) true ty).run Tryd.prog (w.iter cR 0)=_:=fun ty=>run_next_ascii w cR 0 ty (by decide) (by decide)
   go_wp2
   ·go_ret
    rename_i h
    have h:(110:Int)=c:=eq_of_beq h
    subst h
    exact⟨by rfl,_,rfl⟩
   ·rename_i h
    have h:¬(110:Int)=c:=fun e=>by
     have h2:((110:Int)==c)=false:=h
     rw[e]at h2
     simp at h2
    refine⟨⟨1,rfl,rfl,by omega,?_⟩,?_⟩
    ·rw[←hk]
     simp[kd,h]
    ·simp
  ·have hnx:∀ty,(Instr.next (.pointer (some ⟨w.heap.size,0,none⟩)) true ty).run Tryd.prog (w.iter cR 1)=_:=fun ty=>run_next_ascii w cR 1 ty (by decide) (by decide)
   go_wp2
   ·go_ret
    rename_i h
    have h:(97:Int)=c:=eq_of_beq h
    subst h
    exact⟨by rfl,_,rfl⟩
   ·rename_i h
    have h:¬(97:Int)=c:=fun e=>by
     have h2:((97:Int)==c)=false:=h
     rw[e]at h2
     simp at h2
    refine⟨⟨2,rfl,rfl,by omega,?_⟩,?_⟩
    ·rw[←hk]
     simp[kd,h]
    ·simp
  ·have hnx:∀ty,(Instr.next (.pointer (some ⟨w.heap.size,0,none⟩)) true ty).run Tryd.prog (w.iter cR 2)=_:=fun ty=>run_next_ascii w cR 2 ty (by decide) (by decide)
   go_wp2
   ·go_ret
    rename_i h
    have h:(103:Int)=c:=eq_of_beq h
    subst h
    exact⟨by rfl,_,rfl⟩
   ·rename_i h
    have h:¬(103:Int)=c:=fun e=>by
     have h2:((103:Int)==c)=false:=h
     rw[e]at h2
     simp at h2
    refine⟨⟨3,rfl,rfl,by omega,?_⟩,?_⟩
    ·rw[←hk]
     simp[kd,h]
    ·simp
  ·have hnx:∀ty,(Instr.next (.pointer (some ⟨w.heap.size,0,none⟩)) true ty).run Tryd.prog (w.iter cR 3)=_:=fun ty=>run_next_ascii w cR 3 ty (by decide) (by decide)
   go_wp2
   ·go_ret
    rename_i h
    have h:(98:Int)=c:=eq_of_beq h
    subst h
    exact⟨by rfl,_,rfl⟩
   ·rename_i h
    have h:¬(98:Int)=c:=fun e=>by
     have h2:((98:Int)==c)=false:=h
     rw[e]at h2
     simp at h2
    refine⟨⟨4,rfl,rfl,by omega,?_⟩,?_⟩
    ·rw[←hk]
     simp[kd,h]
    ·simp
  ·have hnx:∀ty,(Instr.next (.pointer (some ⟨w.heap.size,0,none⟩)) true ty).run Tryd.prog (w.iter cR 4)=_:=fun ty=>run_next_end w cR 4 ty (by decide)
   go_wp2
   go_ret
   have hk:(0:Int)=qW c:=hk
   rw[←hk]
   exact⟨rfl,_,rfl⟩
theorem pO(w:World)(x y:Obj):((w.alloc x).alloc y).heap[w.heap.size+1]? =some y:=by
 have h:(w.alloc x).heap.size=w.heap.size+1:=by unfold World.alloc;simp only[Array.size_push]
 rw[←h]
 exact heap_alloc_new _ _
theorem pX(w:World)(x y:Obj):((w.alloc x).alloc y).heap[w.heap.size]? =some x:=by
 have h:(w.alloc x).heap.size=w.heap.size+1:=by unfold World.alloc;simp only[Array.size_push]
 exact(((Ext.refl (w.alloc x)).alloc y).block _ (by omega)).trans (heap_alloc_new _ _)
def qk(w:World)(b:Nat)(s:ByteArray)(p:Nat):World:= {w with heap:=w.heap.setIfInBounds b (.stringIter s p)}
theorem qF{w:World}{b:Nat}{s:ByteArray}{p:Nat}(h:b<w.heap.size):(qk w b s p).heap[b]? =some (.stringIter s p):=by simp[qk,h]
theorem oA{w:World}{b:Nat}{s:ByteArray}{p c:Nat}(h:c≠b):(qk w b s p).heap[c]? =w.heap[c]? :=by simp[qk,Array.getElem?_setIfInBounds_ne (Ne.symm h)]
theorem pL{w0 w:World}{b:Nat}{s:ByteArray}{p:Nat}(h:Ext w0 w)(hb:w0.heap.size≤b):Ext w0 (qk w b s p):=
 ⟨h.os,h.tape,h.output,by show _≤(w.heap.setIfInBounds _ _).size;rw[Array.size_setIfInBounds];exact h.size,fun g hg=>by rw[oA (by omega)];exact h.block g hg⟩
theorem run_next_at{P:Program}(w:World)(b:Nat)(s:ByteArray)(pos:Nat)(ty:TypeId)(hb:w.heap[b]? =some (.stringIter s pos))(h:pos<s.size)(ha:(s[pos]'h).toNat<128):
  (Instr.next (.pointer (some ⟨b,0,none⟩)) true ty).run P w= .ok (.tuple #[.bool true,.int .i64 pos,.int .i32 (s[pos]'h).toNat]) (qk w b s (pos+1)):=by
 simp only[Instr.next,getObj,setObj,Sem.run_bind,Sem.run,hb,Result.andThen,h,if_true,decode_ascii s pos h ha]
 simp[goInt,Sem.run,qk]
def iU(k n:Int):List UInt8:=[[110,97,103,98].getD (k - 1).toNat 0]++Lib.itoa n
theorem pq(c:Int)(w:World):Calls Tryd.prog 56 #[.int .i32 c] w (qw (fun x _=>x= .int .i64 (qW c)) w):=
 (lN c w).mono fun e w' ⟨h1,p,h2⟩=>by subst h1;subst h2;exact⟨_,rfl,oI w _ p,rfl⟩
theorem cell_of_block{w:World}{b i:Nat}{cs:Array Value}{ty:TypeId}{x:Value}(h:w.heap[b]? =some (.cells cs ty))(hx:cs[i]? =some x):w.cell? ⟨b,i,none⟩=some x:=by
 unfold World.cell?
 simp only[h]
 exact hx
set_option maxRecDepth 1000000 in
theorem ow(k:Nat)(n:Int)(hk:k<4)(hn:0≤n∧n≤999999999)(W:World)(htab:∀w',Ext W w'→Lib.TabIs Tryd.prog w' "internal/strconv.uint64pow10" .u64 Lib.pow10Tab):
  Calls Tryd.prog 23 #[.agg #[.int .i64 ((k:Int)+1),.int .i64 n]] W (qw (fun x _=>x= .string ⟨(iU ((k:Int)+1) n).toArray⟩) W):=by
 obtain⟨K,hK⟩:∃K,(k:Int)+1=K:=⟨_,rfl⟩
 rw[hK]
 have h1:decide (n<0)=false:=decide_eq_false (by omega)
 have h2:decide (999999999<n)=false:=decide_eq_false (by omega)
 go_enter Tryd.func23,Tryd.ntmps23
 go_wp2
 clear h1 h2
 go_loopw [2] (fun v w'=>∃pos:Nat,v= .string ⟨#[]⟩∧pos≤k∧Ext W w'∧w'.heap[W.heap.size+1]? =some (.stringIter cR pos)∧w'.heap[W.heap.size]? =some (.cells #[.int .i64 K,.int .i64 n] 32)) (fun _ w'=>4 - w'.iterPos (W.heap.size+1))
 case atStart=>
  refine⟨0,rfl,by omega,((Ext.refl W).alloc _).alloc _,?_,?_⟩
  ·exact pO W _ _
  ·exact pX W _ _
 case round=>
  obtain⟨pos,rfl,hp,hE0,hit,hcl⟩:=hrel
  have hp4:pos<4:=by omega
  have ha:(cR[pos]'hp4).toNat<128:=(by decide:∀i:Fin 4,(cR[i.val]'i.isLt).toNat<128) ⟨pos,hp4⟩
  have hkd:qW (((cR[pos]'hp4).toNat:Nat):Int)=(pos:Int)+1:=(by decide:∀i:Fin 4,qW (((cR[i.val]'i.isLt).toNat:Nat):Int)=(i.val:Int)+1) ⟨pos,hp4⟩
  have hlt:cR[pos]'hp4=[110,97,103,98].getD pos 0:=(by decide:∀i:Fin 4,cR[i.val]'i.isLt=[110,97,103,98].getD i.val 0) ⟨pos,hp4⟩
  have hsz:W.heap.size+1<wr.heap.size:=(Array.getElem?_eq_some_iff.1 hit).1
  have hnx:∀ty,(Instr.next (.pointer (some ⟨W.heap.size+1,0,none⟩)) true ty).run Tryd.prog wr=_:=fun ty=>run_next_at wr _ cR pos ty hit hp4 ha
  obtain⟨B,hB⟩:∃B,W.heap.size=B:=⟨_,rfl⟩
  have hE1:=pL (s:=cR) (p:=pos+1) hE0 (show W.heap.size≤W.heap.size+1 by omega)
  have hi1:=qF (w:=wr) (s:=cR) (p:=pos+1) hsz
  have hc1:=(oA (w:=wr) (s:=cR) (p:=pos+1) (show W.heap.size≠W.heap.size+1 by omega)).trans hcl
  rw[hB]at hnx hE1 hi1 hc1 hcl hit ⊢
  obtain⟨ch,hch⟩:∃ch:Int,(((cR[pos]'hp4).toNat:Nat):Int)=ch:=⟨_,rfl⟩
  rw[hch]at hkd
  simp only[hch]at hnx
  obtain⟨W1,hW1⟩:∃W1,qk wr (B+1) cR (pos+1)=W1:=⟨_,rfl⟩
  rw[hW1]at hE1 hi1 hc1
  simp only[hW1]at hnx
  have d0:W1.cell? ⟨B,0,none⟩=some (.int .i64 K):=cell_of_block hc1 rfl
  have d1:W1.cell? ⟨B,1,none⟩=some (.int .i64 n):=cell_of_block hc1 rfl
  have HKc:=Lib.hid (show ∀v,Calls Tryd.prog 56 #[.int .i32 ch] v (qw (fun x _=>x= .int .i64 ((pos:Int)+1)) v) from fun v=>by have:=pq ch v;rwa [hkd]at this)
  clear hkd
  go_upto_region 6 with fail
  refine bm.e7 (fun w=>(w.cell? ⟨B,0,none⟩=some (.int .i64 K))∧(w.cell? ⟨B,1,none⟩=some (.int .i64 n))) [17,18,19,20,21] (fun w w' hE h=>⟨hE.cell h.1,hE.cell h.2⟩) (⟨by assumption,by assumption⟩) (by kernel_rfl) (by kernel_rfl) (by kernel_rfl) ?_
  refine bm.b5 ?_
  apply Exists.intro
  refine⟨?_,?_⟩
  ·intro ρ w₁ hρ hC hs
   have e4:=hs 4 (by decide)
   have hc:=hρ.const
   have hf:=hρ.func
   have hg:=hρ.fY
   clear hs hρ
   change ρ (.tmp 4)=_ at e4
   obtain⟨hE,⟨hS1,hS2⟩⟩:=hC
   refine bm.bw rfl ?_
   clear hf
   go_simp
   exact⟨bm.Ext.refl _,rfl⟩
  refine bm.b5 ?_
  apply Exists.intro
  refine⟨?_,?_⟩
  ·intro ρ w₁ hρ hC hs
   have e17:=hs 17 (by decide)
   have hc:=hρ.const
   have hf:=hρ.func
   have hg:=hρ.fY
   clear hs hρ
   change ρ (.tmp 17)=_ at e17
   obtain⟨hE,⟨hS1,hS2⟩⟩:=hC
   refine bm.bw rfl ?_
   rw[bm.fJ hf]
   clear hf
   go_simp
   refine⟨bm.Ext.refl _,?_⟩
   with_reducible exact(HKc.out _)
  refine bm.b5 ?_
  apply Exists.intro
  refine⟨?_,?_⟩
  ·intro ρ w₁ hρ hC hs
   have e1:=hs 1 (by decide)
   have hc:=hρ.const
   have hf:=hρ.func
   have hg:=hρ.fY
   clear hs hρ
   change ρ (.tmp 1)=_ at e1
   obtain⟨hE,⟨hS1,hS2⟩⟩:=hC
   refine bm.bw rfl ?_
   clear hf
   go_simp
   exact⟨bm.Ext.refl _,rfl⟩
  refine bm.b5 ?_
  apply Exists.intro
  refine⟨?_,?_⟩
  ·intro ρ w₁ hρ hC hs
   have e19:=hs 19 (by decide)
   have hc:=hρ.const
   have hf:=hρ.func
   have hg:=hρ.fY
   clear hs hρ
   change ρ (.tmp 19)=_ at e19
   obtain⟨hE,⟨hS1,hS2⟩⟩:=hC
   refine bm.bw rfl ?_
   clear hf
   go_simp
   exact⟨bm.Ext.refl _,rfl⟩
  refine bm.b5 ?_
  apply Exists.intro
  refine⟨?_,?_⟩
  ·intro ρ w₁ hρ hC hs
   have e18:=hs 18 (by decide)
   have e20:=hs 20 (by decide)
   have hc:=hρ.const
   have hf:=hρ.func
   have hg:=hρ.fY
   clear hs hρ
   change ρ (.tmp 18)=_ at e18
   change ρ (.tmp 20)=_ at e20
   obtain⟨hE,⟨hS1,hS2⟩⟩:=hC
   refine bm.bw rfl ?_
   clear hf
   go_simp
   exact⟨bm.Ext.refl _,rfl⟩
  refine bm.jn ?_
  intro w₁ hE hS
  obtain⟨hS1,hS2⟩:=hS
  refine bm.bJ _ rfl ?_
  refine bm.bJ _ rfl ?_
  refine bm.bJ _ rfl ?_
  refine bm.bJ _ rfl ?_
  refine bm.bJ _ rfl ?_
  show _
  simp only[bm.fr,List.setIfInBounds_toArray,List.set_cons_succ,List.set_cons_zero]
  have hi2:=(hE.block (B+1) (Array.getElem?_eq_some_iff.1 hi1).1).trans hi1
  have hc2:=(hE.block B (Array.getElem?_eq_some_iff.1 hc1).1).trans hc1
  have hE2:=hE1.trans hE
  clear hE d0 d1 hi1 hc1 hE1 hW1
  by_cases hpk:pos=k
  ·have hb:(((pos:Int)+1)==K)=true:=by rw[←hK,hpk];simp
   have HI:=Lib.hid (show ∀v,Ext W v→Calls Tryd.prog 21 #[.int .i64 n] v (qw (fun x _=>x= .string ⟨(Lib.itoa n).toArray⟩) v) from fun v hv=>
    (Tryd.strconv_Itoa n (by omega) (by omega) v (htab v hv)).mono fun e w' ⟨h1,q,os,h2⟩=>by subst h1;subst h2;exact⟨_,rfl,kG v q os,rfl⟩)
   have HE2:=Lib.hid hE2
   clear hE2
   have HL:=Lib.hid (cB (n:=n) (by unfold In64;omega))
   have henc:Utf8.encode ch=⟨#[[110,97,103,98].getD pos 0]⟩:=by rw[←hch];exact(by decide:∀i:Fin 4,Utf8.encode (((cR[i.val]'i.isLt).toNat:Nat):Int)=⟨#[[110,97,103,98].getD i.val 0]⟩) ⟨pos,hp4⟩
   go_upto_region 7 with fail
   refine bm.i6 (fun w=>(w.cell? ⟨B,1,none⟩=some (.int .i64 n))) [22,23,24,25,26,27,2] (fun w w' hE h=>hE.cell h) (by assumption) (by kernel_rfl) ?_
   refine bm.b5 ?_
   apply Exists.intro
   refine⟨?_,?_⟩
   ·intro ρ w₁ hρ hC hs
    have e4:=hs 4 (by decide)
    have hc:=hρ.const
    have hf:=hρ.func
    have hg:=hρ.fY
    clear hs hρ
    change ρ (.tmp 4)=_ at e4
    obtain⟨hE,hS1⟩:=hC
    refine bm.bw rfl ?_
    clear hf
    go_simp
    exact⟨bm.Ext.refl _,rfl⟩
   refine bm.b5 ?_
   apply Exists.intro
   refine⟨?_,?_⟩
   ·intro ρ w₁ hρ hC hs
    have e22:=hs 22 (by decide)
    have hc:=hρ.const
    have hf:=hρ.func
    have hg:=hρ.fY
    clear hs hρ
    change ρ (.tmp 22)=_ at e22
    obtain⟨hE,hS1⟩:=hC
    refine bm.bw rfl ?_
    clear hf
    go_simp
    exact⟨bm.Ext.refl _,rfl⟩
   refine bm.b5 ?_
   apply Exists.intro
   refine⟨?_,?_⟩
   ·intro ρ w₁ hρ hC hs
    have e1:=hs 1 (by decide)
    have hc:=hρ.const
    have hf:=hρ.func
    have hg:=hρ.fY
    clear hs hρ
    change ρ (.tmp 1)=_ at e1
    obtain⟨hE,hS1⟩:=hC
    refine bm.bw rfl ?_
    clear hf
    go_simp
    exact⟨bm.Ext.refl _,rfl⟩
   refine bm.b5 ?_
   apply Exists.intro
   refine⟨?_,?_⟩
   ·intro ρ w₁ hρ hC hs
    have e24:=hs 24 (by decide)
    have hc:=hρ.const
    have hf:=hρ.func
    have hg:=hρ.fY
    clear hs hρ
    change ρ (.tmp 24)=_ at e24
    obtain⟨hE,hS1⟩:=hC
    refine bm.bw rfl ?_
    clear hf
    go_simp
    exact⟨bm.Ext.refl _,rfl⟩
   refine bm.b5 ?_
   apply Exists.intro
   refine⟨?_,?_⟩
   ·intro ρ w₁ hρ hC hs
    have e25:=hs 25 (by decide)
    have hc:=hρ.const
    have hf:=hρ.func
    have hg:=hρ.fY
    clear hs hρ
    change ρ (.tmp 25)=_ at e25
    obtain⟨hE,hS1⟩:=hC
    refine bm.bw rfl ?_
    rw[bm.fJ hf]
    clear hf
    go_simp
    refine⟨bm.Ext.refl _,?_⟩
    with_reducible exact(HI.out _ (HE2.out.trans hE))
   refine bm.b5 ?_
   apply Exists.intro
   refine⟨?_,?_⟩
   ·intro ρ w₁ hρ hC hs
    have e23:=hs 23 (by decide)
    have e26:=hs 26 (by decide)
    have hc:=hρ.const
    have hf:=hρ.func
    have hg:=hρ.fY
    clear hs hρ
    change ρ (.tmp 23)=_ at e23
    change ρ (.tmp 26)=_ at e26
    obtain⟨hE,hS1⟩:=hC
    refine bm.bw rfl ?_
    clear hf
    go_simp
    rw[if_neg (by have:=HL.out;omega)];exact⟨Ext.refl _,rfl⟩
   refine bm.b5 ?_
   apply Exists.intro
   refine⟨?_,?_⟩
   ·intro ρ w₁ hρ hC hs
    have e27:=hs 27 (by decide)
    have hc:=hρ.const
    have hf:=hρ.func
    have hg:=hρ.fY
    clear hs hρ
    change ρ (.tmp 27)=_ at e27
    obtain⟨hE,hS1⟩:=hC
    refine bm.bw rfl ?_
    clear hf
    go_simp
    exact⟨bm.Ext.refl _,rfl⟩
   refine bm.jn ?_
   intro w₁ hE hS1
   refine bm.bJ _ rfl ?_
   refine bm.bJ _ rfl ?_
   refine bm.bJ _ rfl ?_
   refine bm.bJ _ rfl ?_
   refine bm.bJ _ rfl ?_
   refine bm.bJ _ rfl ?_
   refine bm.bJ _ rfl ?_
   show _
   simp only[bm.fr,List.setIfInBounds_toArray,List.set_cons_succ,List.set_cons_zero]
   go_wp2
   go_ret
   refine⟨_,rfl,HE2.out.trans hE,?_⟩
   have e1:iU K n=[[110,97,103,98].getD k 0]++Lib.itoa n:=by unfold iU;rw[←hK,show((k:Int)+1 - 1).toNat=k by omega]
   have e2:([110,97,103,98]:List UInt8).getD k 0=([110,97,103,98]:List UInt8)[k]'hk:=(by decide:∀i:Fin 4,([110,97,103,98]:List UInt8).getD i.val 0=([110,97,103,98]:List UInt8)[i.val]'i.isLt) ⟨k,hk⟩
   rw[e1,e2]
   exact congrArg Value.string (ja [_] (Lib.itoa n))
  ·have hb:(((pos:Int)+1)==K)=false:=by rw[←hK];simp;omega
   go_wp2
   exact⟨⟨pos+1,rfl,by omega,hE2,hi2,hc2⟩,by simp only[World.iterPos,hi2,hit];omega⟩
theorem oe(k:Nat)(n:Int)(hk:k<4)(hn:0≤n∧n≤999999999):Can Tryd.prog 23 [oZ ⟨(k:Int)+1,n⟩] (· =ed (iU ((k:Int)+1) n)):=fun F w vs hF hG hR=>by
 obtain⟨v,rfl,h1⟩:=oH hR
 cases h1 with
 |agg cs _ hl hr=>
  obtain⟨cs⟩:=cs
  match cs,hl with
  | [c0,c1],_=>
   have e0:=dP (hr 0 _ _ rfl rfl)
   have e1:=dP (hr 1 _ _ rfl rfl)
   subst e0 e1
   refine(ow k n hk hn w (fun w' hE=>kH (gE.goes (E:=EF F) (E':=EF F) hG (bH.ext hE)))).mono ?_
   rintro e w1 ⟨x,rfl,hE,rfl⟩
   exact⟨_,rfl,hE,_,rfl,.raw _⟩
theorem mc(ba:ByteArray):ba.data.toList.length=ba.size:=by simp
theorem mJ(ba:ByteArray):∀(n i:Nat) (r:List UInt8),ba.size - i=n→ByteArray.toList.loop ba i r=r.reverse++ba.data.toList.drop i
 |0,i,r,h=>by
  have hs:=mc ba
  rw[ByteArray.toList.loop,if_neg (by omega),List.drop_eq_nil_of_le (by omega)]
  simp
 |n+1,i,r,h=>by
  have hs:=mc ba
  have hi:i<ba.size:=by omega
  have hl:i<ba.data.toList.length:=by omega
  have hg:ba.get! i=ba.data.toList[i]:=by
   show ba.data[i]! =_
   rw[getElem!_pos ba.data i (by simpa using hl)]
   simp
  rw[ByteArray.toList.loop,if_pos hi,mJ ba n (i+1) _ (by omega),List.reverse_cons,List.append_assoc,hg,List.drop_eq_getElem_cons hl]
  rfl
theorem l2(l:List UInt8):(⟨l.toArray⟩:ByteArray).toList=l:=by
 unfold ByteArray.toList
 rw[mJ _ _ 0 [] I]
 simp
theorem join_cons(w:List UInt8):∀ws:List (List UInt8),Lib.join (w::ws) [32]=w++ws.flatMap (fun v=>32::v):=by
 intro ws
 induction ws generalizing w with
 |nil=>simp[Lib.join]
 |cons v ws ih=>
  have h:Lib.join (w::v::ws) [32]=w++([32]++Lib.join (v::ws) [32]):=by unfold Lib.join;simp[List.intercalate,List.intersperse]
  rw[h,ih v]
  simp
def i7(s:gn):Bool:=(decide (1≤s.kind)&&decide (s.kind≤4))&&(decide (0≤s.num)&&decide (s.num≤999999999))
def la(s:gn):List UInt8:=if i7 s=true then iU s.kind s.num else []
theorem gQ{s:gn}(h:i7 s=true):∃k:Nat,k<4∧s.kind=(k:Int)+1∧0≤s.num∧s.num≤999999999:=by
 unfold i7 at h
 simp only[Bool.and_eq_true,decide_eq_true_eq]at h
 exact⟨(s.kind - 1).toNat,by omega,by omega,h.2.1,h.2.2⟩
theorem kA{K n:Int}(h:In64 n):0<(iU K n).length∧(iU K n).length≤22:=by
 unfold iU
 have:=cB h
 simp only[List.length_append,List.length_singleton]
 omega
theorem oc(k:Nat)(n:Int):iU ((k:Int)+1) n=[[110,97,103,98].getD k 0]++Lib.itoa n:=by
 unfold iU
 rw[show((k:Int)+1 - 1).toNat=k by omega]
theorem jw(s:gn):Can Tryd.prog 7 [oZ s] (· =ec (la s)):=by
 obtain⟨K,n⟩:=s
 obtain⟨q1,hq1⟩:∃q,decide (K<1)=q:=⟨_,rfl⟩
 obtain⟨q2,hq2⟩:∃q,decide (4<K)=q:=⟨_,rfl⟩
 obtain⟨q3,hq3⟩:∃q,decide (n<0)=q:=⟨_,rfl⟩
 obtain⟨q4,hq4⟩:∃q,decide (999999999<n)=q:=⟨_,rfl⟩
 have hok:i7 ⟨K,n⟩=(!(((q1||q2)||q3)||q4)):=by
  unfold i7
  rw[←hq1,←hq2,←hq3,←hq4,Bool.eq_iff_iff]
  simp
  omega
 unfold la
 rw[hok]
 refine aY Tryd.func7 I Tryd.ntmps7 I<|ai (.a 2 I<|.k [1] I)<|ak<|b4 21 (.raw (.bool (((q1||q2)||q3)||q4))) [1] I ?_ ?_
 ·refine .a 2 I<|.v (et I (hq1)) I<|.a 1 I<|?_
  cases q1
  ·refine .a 2 I<|.v (et I (hq2)) I<|.a 2 I<|?_
   cases q2
   ·refine .a 2 I<|.v (et I (hq3)) I<|.a 2 I<|?_
    cases q3
    ·exact .a 2 I<|.v (et I (hq4)) I<|.a 1 I<|.k [21,1] I
    ·exact .a 4 I<|.k [21,1] I
   ·exact .a 9 I<|.k [21,1] I
  ·exact .a 14 I<|.k [21,1] I
 refine aq I (fun hc=>?_) (fun hc=>?_)
 ·rw[if_neg (by rw[hc];simp)]
  exact ai (.a 1 I<|.k [2] I)<|aF<|⟨_,_,aL.of I,aW.pure,rfl⟩
 ·rw[if_pos (by rw[hc];rfl)]
  obtain⟨k,hk,hK,h0,h9⟩:=gQ (s:=⟨K,n⟩) (by rw[hok,hc];rfl)
  have hK:K=(k:Int)+1:=hK
  have h0:0≤n:=h0
  have h9:n≤999999999:=h9
  clear hok hq1 hq2 hq3 hq4 hc
  subst hK
  rw[oc]
  have hlen:=cB (n:=n) (by unfold In64;omega)
  have hkp:mj[k+1]? =some (ec [[110,97,103,98].getD k 0]):=by
   rcases(show k=0∨k=1∨k=2∨k=3 by omega)with rfl|rfl|rfl|rfl<;>rfl
  refine au<|bp<|an (oB I (by kernel_rfl)) I<|aK 2 I<|bd [1,3] I ?_
  refine cE (σ':=[some (.cells 62 mj)]) I ?_
  refine cq 3 0 0 I I ?_
  refine b0 [] (.cons 1 I Ren.pure<|.cons 3 I (Ren.pure (p:=.bT mj 0)) .nil) .nil rfl rfl ?_
  refine fa mixed (by kernel_rfl) (.a 2 I<|.v [3,24] (bf ((k+1)) I (show(0:Int)≤(k:Int)+1 by omega) (show(k:Int)+1<5 by omega) (by omega)) I I<|.v [25] (aN I ((show mj[0+(k+1)]? =some (ec [[110,97,103,98].getD k 0]) by rw[Nat.zero_add];exact hkp))) I I<|.a 2 I<|.v [28] (cH I (dz n (by unfold In64;omega))) I I<|.v [26,29] (bY I I I (by simp only[List.length_singleton];omega)) I I<|.a 1 I<|.k [2] I) ?_
  exact aF<|⟨_,_,aL.of I,aW.pure,rfl⟩
def eI(l:List Int):List UInt8:=l.flatMap fun n=>32::Lib.itoa n
theorem ni(l:List Int)(i:Nat)(h:i<l.length):eI (l.take (i+1))=(eI (l.take i)++[32])++Lib.itoa (l.getD i 0):=by
 unfold eI
 rw[de l i 0 h,List.flatMap_append]
 simp
theorem eD(l:List Int)(h:∀n∈l,In64 n):(eI l).length≤l.length*22:=by
 induction l with
 |nil=>simp[eI]
 |cons n l ih=>
  have h1:=cB (h n (by simp))
  have h2:=ih (fun m hm=>h m (by simp[hm]))
  have h3:eI (n::l)=32::Lib.itoa n++eI l:=by simp[eI]
  rw[h3]
  simp only[List.length_append,List.length_cons]
  omega
theorem fA(l:List Int)(hl:l.length≤1000)(h64:∀n∈l,In64 n):Can Tryd.prog 25 [aR l] (· =ec (eI l)):=by
 refine aY Tryd.func25 I Tryd.ntmps25 I<|ai (.a 1 I<|.k [0] I)<|ai (.a 1 I<|.k [0,3] I)<|ak<|ai (.a 1 I<|.k [0,3,4] I)<|aB<|gU [0,3,4] I<|bz (fun r st=>∃i:Nat,i≤l.length∧r=l.length - i∧st=⟨[(0,aR l),(3,ec (eI (l.take i))),(4,num i)],[]⟩) l.length ⟨0,by omega,by omega,rfl⟩ ?_
 rintro r st ⟨i,hi,rfl,rfl⟩
 have htl:=eD (l.take i) (fun n hn=>h64 n (List.mem_of_mem_take hn))
 have hti:(l.take i).length≤l.length:=by rw[List.length_take];omega
 refine ak<|ai (.a 4 I<|.k [0,3,4,8] I)<|aq I (fun hc=>?_) (fun hc=>?_)
 ·have hlt:i<l.length:=by have:=tt hc;omega
  have hn:=h64 _ (cA (d:=0) hlt)
  have hil:=cB hn
  have hst:=ni l i hlt
  refine au<|ak<|aB<|aE (.a 1 I<|.v (bY (b:=[32]) I I I (by simp only[List.length_singleton];omega)) I<|.a 2 I<|.v (bf (i) I) I<|.v (aN I (aM l i hlt)) I<|.c rfl (dz _ hn) I<|.v (bY I I I (by simp only[List.length_append,List.length_singleton];omega)) I<|.a 1 I<|.k [0,3,4] I) ?_
  refine aE (.a 1 I<|.v (bA I) I<|.a 1 I<|.k [0,3,4] I) ?_
  exact⟨l.length - (i+1),by omega,i+1,by omega,rfl,by rw[hst];rfl⟩
 ·have hie:i=l.length:=by have:=ff hc;omega
  subst hie
  rw[List.take_length]
  exact bh<|ai (.a 2 I<|.k [2] I)<|aF<|⟨_,_,aL.of I,aW.pure,rfl⟩
structure ph (x:iK):Prop where
 node:In64 x.node
 az:x.az.length≤70
 qv:∀e∈x.az,e.aH.length≤300∧e.push.length≤300∧(∀a∈e.aH,In64 a)∧∀s∈e.push,i7 s=true
 down:x.down.length≤300∧∀a∈x.down,In64 a
def fj(l:List gn):List UInt8:=l.flatMap fun s=>32::la s
def nM(d:Nat)(e:ev):List UInt8:=(([116,111,32]++Lib.itoa (d:Int))++[32,111,118,101,114])++eI e.aH
def pr(e:ev):List UInt8:=if e.rep=true then [32,112,117,115,104]++fj e.push else []
def gG(d:Nat)(e:ev):List UInt8:=if e.aH=[] then [] else(nM d e++pr e)++[10]
def cU(l:List ev)(k:Nat):List UInt8:=(List.range k).flatMap fun d=>gG d (l.getD d ⟨[],false,[]⟩)
def fF(x:iK):List UInt8:=([116,97,98,108,101,32]++Lib.itoa x.node)++[10]
def fC(x:iK):List UInt8:=if x.down=[] then [] else([100,111,119,110]++eI x.down)++[10]
def kz(x:iK):List UInt8:=(fF x++cU x.az x.az.length)++fC x
theorem fh(l:List ev)(k:Nat)(e:ev)(h:l[k]? =some e):cU l (k+1)=cU l k++gG k e:=by
 unfold cU
 rw[List.range_succ,List.flatMap_append]
 simp[h]
theorem nz(l:List gn)(i:Nat)(s:gn)(h:l[i]? =some s):fj (l.take (i+1))=(fj (l.take i)++[32])++la s:=by
 unfold fj
 rw[List.take_add_one,h,List.flatMap_append]
 simp
theorem mn(s:gn):(la s).length≤22:=by
 unfold la
 split
 ·rename_i h
  obtain⟨_,_,_,h0,h9⟩:=gQ h
  exact(kA (by unfold In64;omega)).2
 ·simp
theorem kR(l:List gn):(fj l).length≤l.length*23:=by
 induction l with
 |nil=>simp[fj]
 |cons s l ih=>
  have h1:=mn s
  have h3:fj (s::l)=(32::la s)++fj l:=by simp[fj]
  rw[h3]
  simp only[List.length_append,List.length_cons]
  omega
section
variable {x:iK} (hx:ph x)
theorem mo{d:Nat}{e:ev}(hd:d≤100)(ha:e.aH.length≤300)(h64:∀a∈e.aH,In64 a):(nM d e).length≤6629:=by
 have h1:=cB (n:=(d:Int)) (by unfold In64;omega)
 have h2:=eD e.aH h64
 unfold nM
 simp only[List.length_append,List.length_cons,List.length_nil]
 omega
theorem kp{d:Nat}{e:ev}(hd:d≤100)(ha:e.aH.length≤300)(hp:e.push.length≤300)(h64:∀a∈e.aH,In64 a):(gG d e).length≤13535:=by
 unfold gG pr
 have h1:=mo hd ha h64
 have h2:=kR e.push
 split
 ·simp
 ·split<;>simp only[List.length_append,List.length_cons,List.length_nil]<;>omega
include hx in
theorem jy(k:Nat)(hk:k≤x.az.length):(cU x.az k).length≤k*13535:=by
 have h70:=hx.az
 induction k with
 |zero=>simp[cU]
 |succ k ih=>
  have he:x.az[k]? =some x.az[k]:=List.getElem?_eq_getElem (by omega)
  obtain⟨h1,h2,h3,_⟩:=hx.qv _ (List.getElem_mem (show k<x.az.length by omega))
  have h4:=kp (d:=k) (e:=x.az[k]) (by omega) h1 h2 h3
  have h5:=ih (by omega)
  rw[fh _ _ _ he,List.length_append]
  omega
include hx in
theorem jl:(fF x).length≤28:=by
 have:=cB hx.node
 unfold fF
 simp only[List.length_append,List.length_cons,List.length_nil]
 omega
set_option maxHeartbeats 2000000 in
include hx in
theorem lU:Can Tryd.prog 9 [fW x] (· =ec (kz x)):=by
 have h70:=hx.az
 have hil:=cB hx.node
 have hhl:=jl hx
 obtain⟨H,hH⟩:∃H,fF x=H:=⟨_,rfl⟩
 have hH0:([116,97,98,108,101,32]++Lib.itoa x.node)++[10]=H:=hH
 unfold kz
 rw[hH]at hhl ⊢
 refine aY Tryd.func9 I Tryd.ntmps9 I<|ai (.a 2 I<|.k [1] I)<|ai (.a 1 I<|.v (aN I ((rfl:(cP x)[0]? =some (num x.node)))) I<|.c rfl (dz x.node hx.node) I<|.v (bY (a:=[116,97,98,108,101,32]) I I I (by simp only[List.length_cons,List.length_nil];omega)) I<|.v (bY (b:=[10]) I I I (by simp only[List.length_append,List.length_cons,List.length_nil];omega)) I<|.a 1 I<|.k [1,3] I) ?_
 rw[hH0]
 refine ak<|ai (.a 1 I<|.k [1,3,4] I)<|aB<|gU [1,3,4] I<|bz (fun r st=>∃k:Nat,k≤x.az.length∧r=x.az.length - k∧st=⟨[(1,.bT (cP x) 0),(3,ec (H++cU x.az k)),(4,num k)],[]⟩) x.az.length ⟨0,by omega,by omega,by simp[cU]⟩ ?_
 rintro r st ⟨k,hk,rfl,rfl⟩
 have hel:=jy hx k hk
 have hZ0:(H++cU x.az k).length≤950000:=by rw[List.length_append];omega
 refine ak<|ai (.a 2 I<|.v (aN I ((rfl:(cP x)[1]? =some (cS x.az)))) I<|.a 2 I<|.k [1,3,4,16] I)<|aq I (fun hc=>?_) (fun hc=>?_)
 ·have hlt:k<x.az.length:=by have:=tt hc;omega
  obtain⟨e,he⟩:∃e,x.az[k]? =some e:=⟨x.az[k],by simp[hlt]⟩
  obtain⟨ha,hp,h64,hsg⟩:=hx.qv e (List.mem_of_getElem? he)
  have hst:=fh x.az k e he
  obtain⟨c,hcr⟩:∃c,e.rep=c:=⟨_,rfl⟩
  refine au<|ak<|aB<|bp<|aK 1 I<|an (aN I ((rfl:(cP x)[1]? =some (cS x.az)))) I<|aK 1 I<|an (bf ((k*3)) I) I<|an (nD I (dH x.az k e he) I) I<|aO (fD I (aV.zk.get I)) I<|bc (ee I (aV.tk.get I) I I I I I (Nat.le_of_ble_eq_true rfl)) I I<|bd [1,3,4,5] I ?_
  refine cE (σ':=[some (.cells 30 (b6 e))]) I ?_
  refine cq 5 0 0 I I ?_
  refine b0 [] (.cons 1 I Ren.pure<|.cons 3 I Ren.pure<|.cons 4 I Ren.pure<|.cons 5 I (Ren.pure (p:=.bT (b6 e) 0)) .nil) .nil rfl rfl ?_
  refine ak<|ai (.a 1 I<|.v (aN I ((rfl:(b6 e)[0]? =some (aR e.aH)))) I<|.a 2 I<|.k [1,3,4,5,27] I)<|aq I (fun hc=>?_) (fun hc=>?_)
  ·have harc:e.aH=[]:=List.eq_nil_of_length_eq_zero (by have:=tt hc;omega)
   rw[show gG k e=[] by unfold gG;rw[if_pos harc],List.append_nil]at hst
   refine bh<|aE (.a 1 I<|.v (bA I) I<|.a 1 I<|.k [1,3,4] I) ?_
   first
    |exact⟨x.az.length - (k+1),by omega,k+1,by omega,rfl,by rw[hfin];rfl⟩
    |exact⟨x.az.length - (k+1),by omega,k+1,by omega,rfl,by rw[hst];rfl⟩
  ·have harc:e.aH≠[]:=fun h=>by have:=ff hc;rw[h]at this;exact this rfl
   have hdl:=mo (d:=k) (e:=e) (by omega) ha h64
   have hkl:=cB (n:=(k:Int)) (by unfold In64;omega)
   have hnl:=eD e.aH h64
   rw[show gG k e=(nM k e++pr e)++[10] by unfold gG;rw[if_neg harc]]at hst
   obtain⟨Z0,hZ⟩:∃Z,H++cU x.az k=Z:=⟨_,rfl⟩
   rw[hZ]at hZ0 ⊢
   have hfin:H++cU x.az (k+1)=(Z0++nM k e++pr e)++[10]:=by rw[hst,←hZ];simp
   refine au<|fa mixed (by kernel_rfl) (.a 1 I<|.v [28] (bY (b:=[116,111,32]) I I I (by simp only[List.length_cons,List.length_nil];omega)) I I<|.a 1 I<|.v [30] (cH I (dz (k:Int) (by unfold In64;omega))) I I<|.v [29,31] (bY I I I (by simp only[List.length_append,List.length_cons,List.length_nil];omega)) I I<|.v [32] (bY (b:=[32,111,118,101,114]) I I I (by simp only[List.length_append,List.length_cons,List.length_nil];omega)) I I<|.a 1 I<|.v [34] (aN I ((rfl:(b6 e)[0]? =some (aR e.aH)))) I I<|.v [35] (cH I (fA e.aH (by omega) h64)) I I<|.v [33,36] (bY I I I (by simp only[List.length_append,List.length_cons,List.length_nil];omega)) I I<|.a 1 I<|.k [1,3,4,5] I) ?_
   rw[show(((Z0++[116,111,32])++Lib.itoa (k:Int))++[32,111,118,101,114])++eI e.aH=Z0++nM k e by unfold nM;simp]
   obtain⟨Z1,hZ1⟩:∃Z,Z0++nM k e=Z:=⟨_,rfl⟩
   have hZ1l:Z1.length≤960000:=by rw[←hZ1,List.length_append];omega
   rw[hZ1]at hfin ⊢
   refine ak<|ai (.a 1 I<|.v (aN I ((show(b6 e)[1]? =some (flag c) by rw[←hcr];rfl))) I<|.k [1,3,4,5,39] I)<|aq I (fun hc=>?_) (fun hc=>?_)
   ·subst hc
    rw[show pr e=[32,112,117,115,104]++fj e.push by unfold pr;rw[hcr,if_pos rfl]]at hfin
    refine ai (.a 1 I<|.v (bY (b:=[32,112,117,115,104]) I I I (by simp only[List.length_cons,List.length_nil];omega)) I<|.a 1 I<|.k [1,3,4,5] I) ?_
    obtain⟨Z2,hZ2⟩:∃Z,Z1++[32,112,117,115,104]=Z:=⟨_,rfl⟩
    have hZ2l:Z2.length≤960005:=by rw[←hZ2];simp only[List.length_append,List.length_cons,List.length_nil];omega
    rw[←List.append_assoc,hZ2]at hfin
    rw[hZ2]
    refine ai (.a 1 I<|.k [1,3,4,5,6] I)<|aB<|gU [1,3,4,5,6] I<|bz (fun r st=>∃i:Nat,i≤e.push.length∧r=e.push.length - i∧st=⟨[(1,.bT (cP x) 0),(3,ec (Z2++fj (e.push.take i))),(4,num k),(5,.bT (b6 e) 0),(6,num i)],[]⟩) e.push.length ⟨0,by omega,by omega,by simp[fj]⟩ ?_
    rintro r st ⟨i,hi,rfl,rfl⟩
    have hpl:=kR (e.push.take i)
    have hti:(e.push.take i).length≤300:=by rw[List.length_take];omega
    refine ak<|ai (.a 2 I<|.v (aN I ((rfl:(b6 e)[2]? =some (ek e.push)))) I<|.a 2 I<|.k [1,3,4,5,6,46] I)<|aq I (fun hc=>?_) (fun hc=>?_)
    ·have hlt2:i<e.push.length:=by have:=tt hc;omega
     obtain⟨sg,hsgi⟩:∃s,e.push[i]? =some s:=⟨_,List.getElem?_eq_getElem hlt2⟩
     have hps:=nz e.push i sg hsgi
     have hsl:=mn sg
     refine au<|ak<|aB<|aE (.a 1 I<|.v (bY (b:=[32]) I I I (by simp only[List.length_append,List.length_cons,List.length_nil];omega)) I<|.a 1 I<|.v (aN I ((rfl:(b6 e)[2]? =some (ek e.push)))) I<|.a 1 I<|.v (bf ((i*2)) I) I<|.v (nD I (fT e.push i sg hsgi) I) I<|.c rfl (jw sg) I<|.v (bY I I I (by simp only[List.length_append,List.length_cons,List.length_nil];omega)) I<|.a 1 I<|.k [1,3,4,5,6] I) ?_
     refine aE (.a 1 I<|.v (bA I) I<|.a 1 I<|.k [1,3,4,5,6] I) ?_
     exact⟨e.push.length - (i+1),by omega,i+1,by omega,rfl,by rw[hps];simp only[List.append_assoc];rfl⟩
    ·have hie:i=e.push.length:=by have:=ff hc;omega
     subst hie
     rw[List.take_length]at hpl ⊢
     refine jJ (al (ks:=[1,3,4,5]) I) ?_
     obtain⟨Z9,hZ9⟩:∃Z,Z2++fj e.push=Z:=⟨_,rfl⟩
     have hZ9l:Z9.length≤980000:=by rw[←hZ9,List.length_append];omega
     rw[hZ9]at hfin ⊢
     refine bh<|aE (.a 1 I<|.v (bY (b:=[10]) I I I (by simp only[List.length_cons,List.length_nil];omega)) I<|.a 1 I<|.k [1,3,4] I) ?_
     refine aE (.a 1 I<|.v (bA I) I<|.a 1 I<|.k [1,3,4] I) ?_
     first
      |exact⟨x.az.length - (k+1),by omega,k+1,by omega,rfl,by rw[hfin];rfl⟩
      |exact⟨x.az.length - (k+1),by omega,k+1,by omega,rfl,by rw[hst];rfl⟩
   ·subst hc
    rw[show pr e=[] by unfold pr;rw[hcr,if_neg (by simp)],List.append_nil]at hfin
    obtain⟨Z9,hZ9⟩:∃Z,Z1=Z:=⟨_,rfl⟩
    have hZ9l:Z9.length≤980000:=by rw[←hZ9];omega
    rw[hZ9]at hfin ⊢
    refine au<|aE (.a 1 I<|.v (bY (b:=[10]) I I I (by simp only[List.length_cons,List.length_nil];omega)) I<|.a 1 I<|.k [1,3,4] I) ?_
    refine aE (.a 1 I<|.v (bA I) I<|.a 1 I<|.k [1,3,4] I) ?_
    first
     |exact⟨x.az.length - (k+1),by omega,k+1,by omega,rfl,by rw[hfin];rfl⟩
     |exact⟨x.az.length - (k+1),by omega,k+1,by omega,rfl,by rw[hst];rfl⟩
 ·have hke:k=x.az.length:=by have:=ff hc;omega
  refine bh<|ak<|ai (.a 1 I<|.v (aN I ((rfl:(cP x)[2]? =some (aR x.down)))) I<|.a 2 I<|.k [1,3,63] I)<|aq I (fun hc=>?_) (fun hc=>?_)
  ·have hdn:x.down≠[]:=fun h=>by have:=tt hc;rw[h]at this;simp at this
   have hdt:fC x=([100,111,119,110]++eI x.down)++[10]:=by unfold fC;rw[if_neg hdn]
   have hd1:=hx.down.1
   have hnl:=eD x.down hx.down.2
   refine aE (.a 1 I<|.v (bY (b:=[100,111,119,110]) I I I (by simp only[List.length_append,List.length_cons,List.length_nil]at*;omega)) I<|.a 1 I<|.v (aN I ((rfl:(cP x)[2]? =some (aR x.down)))) I<|.c rfl (fA x.down (by omega) hx.down.2) I<|.v (bY I I I (by simp only[List.length_append,List.length_cons,List.length_nil]at*;omega)) I<|.v (bY (b:=[10]) I I I (by simp only[List.length_append,List.length_cons,List.length_nil]at*;omega)) I<|.a 1 I<|.k [3] I) ?_
   refine ai (.a 2 I<|.k [2] I)<|aF<|⟨_,_,aL.of I,aW.pure,?_⟩
   rw[hdt,←hke]
   first
    |rfl
    |(rw[List.append_nil];rfl)
    |(simp only[List.append_assoc];rfl)
  ·have hdn:x.down=[]:=List.eq_nil_of_length_eq_zero (by have:=ff hc;omega)
   have hdt:fC x=[]:=by unfold fC;rw[if_pos hdn]
   refine au<|ai (.a 2 I<|.k [2] I)<|aF<|⟨_,_,aL.of I,aW.pure,?_⟩
   rw[hdt,←hke]
   first
    |rfl
    |(rw[List.append_nil];rfl)
    |(simp only[List.append_assoc];rfl)
end
end
end PW
end Go.Proofs.YtnegbdpggideiaaDoor
