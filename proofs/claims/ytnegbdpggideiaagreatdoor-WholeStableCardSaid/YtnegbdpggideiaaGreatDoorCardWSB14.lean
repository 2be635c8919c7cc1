/- Texts of the proof, part 14. -/
import Derived.Test.YtnegbdpggideiaaGreatDoorCardWSB13
set_option linter.unusedVariables false
set_option linter.unusedSimpArgs false
set_option maxRecDepth 10000
set_option maxHeartbeats 1000000
namespace Go.Proofs.YtnegbdpggideiaaGreatDoor
namespace PW
open Go.RowKit Go.Shelf cA Mem Net eS
theorem vJ(l:List Int)(hl:l.length≤1000):bS Tryz.prog 144 [ax l] [] (fun r σ'=>r= .own 0∧σ'=[some (.row 3 1 l.length (aN l))]):=by
 refine cp Tryz.func144 rfl Tryz.ntmps144 rfl<|ab (.a 1 rfl<|.k [0] rfl)<|aj<|aQ (WR.mono (K:=fun s=>∃b:Bool,s=⟨[(0,ax l),(4,.raw (.bool b))],[]⟩∧(b=true→l=[])) ?_ ?_)
 ·cases l with
  |nil=>exact au 1 rfl<|tI rfl HL rfl rfl rfl rfl rfl fun b=>aH [0,4] rfl ⟨b,rfl,fun _=>rfl⟩
  |cons a l=>exact au 1 rfl<|bA (mU rfl HL rfl rfl (Nat.succ_pos _)) rfl rfl rfl<|aH [0,4] rfl ⟨_,rfl,fun h=>by cases h⟩
 rintro _ ⟨b,rfl,hb⟩
 refine ah rfl (fun hc=>?_) (fun hc=>?_)
 ·have:l=[]:=hb hc
  subst this
  refine ab (.a 1 rfl<|.k [2] rfl)<|dW 2 3 1 rfl ?_
  exact aq<|⟨_,aA.of rfl,rfl,rfl⟩
 ·refine ak<|aQ<|ca (j8 rfl (bE.sl.get rfl)) rfl<|au 1 rfl<|ca (aY rfl (bE.rk.get rfl) rfl rfl rfl (show(aN l).length=l.length*1 by simp[aN]) (by unfold maxLen;omega)) rfl<|au 1 rfl<|aH [2] rfl ?_
  refine cU [1] (.cons 2 rfl (Ren.own (i:=0) rfl) .nil) (.kept rfl (.row az.pure) .nil) rfl rfl ?_
  exact aq<|⟨_,aA.of rfl,rfl,by rw[Nat.zero_add];rfl⟩
theorem vc(l:List Int)(hl:l.length≤1000)(σ:cd):bS Tryz.prog 144 [ax l] σ (fun r σ'=>r= .own σ.length∧σ'=σ++[some (.row 3 1 l.length (aN l))]):=by
 refine bS.frame (bS.mono (vJ l hl) ?_)
 rintro r σ' ⟨rfl,rfl⟩
 exact⟨[.row 3 1 l.length (aN l)],rfl,_,_,Up.own rfl,mL.cons (.row kA.pure) mL.nil,by simp,rfl⟩
theorem tL(ys:List PV)(L:List Int):bS Tryz.prog 128 [.aV ys 0,.own 1] [none,some (.row 3 1 L.length (aN L))] (fun r σ'=>r= .func 165 [.ptr 2 0,.ptr 3 0]∧σ'=[none,some (.row 3 1 L.length (aN L)),some (.cells 147 [.aV ys 0]),some (.cells 37 [.own 1])]):=by
 refine cp Tryz.func128 rfl Tryz.ntmps128 rfl<|aQ<|ca (fw (xs:=[_]) rfl rfl rfl) rfl<|ca (fw (xs:=[_]) rfl rfl rfl) rfl<|au 1 rfl<|aH [2,3] rfl ?_
 exact ab (.a 2 rfl<|.k [4] rfl)<|aq<|⟨_,aA.of rfl,rfl,rfl⟩
noncomputable def xB(k:Nat):Code→Option Code
 | .region i ops d=>if i=k then some (.region i ops d) else none
 | .seq x y=>(xB k x).orElse fun _=>xB k y
 | .cond _ x y=>(xB k x).orElse fun _=>xB k y
 | .block _ x=>xB k x
 | .loop x=>xB k x
 |_=>none
noncomputable def H0(f:Func):Code:=f.body.getD .skip
def HD(ys:List PV)(pre:List Int)(a:Int)(l:Nat)(s:St):Prop:=
 s.σ=[none,some (.row 3 1 (pre++[a]).length (aN (pre++[a]))),some (.cells 147 [.aV ys 0]),some (.cells 37 [.own 1])]∧Sub s.t [(3,.aV [.raw (.func (.yield l) #[] #[])] 0),(30,num ([a]:List Int).length),(31,num 0),(48,.func 165 [.ptr 2 0,.ptr 3 0])]
noncomputable def IJ:Code:=(xB 6 (H0 Tryz.f165)).getD .skip
set_option maxRecDepth 100000 in
set_option maxHeartbeats 8000000 in
theorem DI(ys:List PV)[aG ys](pre:List Int)(a:Int)(l n:Nat)(o:Out)(c:Int)(hpl:pre.length+1≤1000):
  W Tryz.prog 55 0 IJ ⟨[(1,.aV [.aV (di n o [.aV ys 0] c) 0] 0),(2,.aV [ax pre] 0),(3,.aV [.raw (.func (.yield l) #[] #[])] 0),(4,num 0),(5,num a),(30,num ([a]:List Int).length),(31,num 0)],[]⟩ (Gi (HD ys pre a l)):=by
 have hic:=vc pre (by omega) []
 have hbr:=tL ys (pre++[a])
 refine vV mixed ?_
 ·refine tD [[(1,.aV [.aV (di n o [.aV ys 0] c) 0] 0),(2,.aV [ax pre] 0),(3,.aV [.raw (.func (.yield l) #[] #[])] 0),(4,num 0),(5,num a),(30,num ([a]:List Int).length),(31,num 0),(36,.aV (di n o [.aV ys 0] c) 0),(37,.aV (di n o [.aV ys 0] c) 0),(38,.aV (di n o [.aV ys 0] c) 3),(39,.slice 1 [.aV ys 0]),(40,num 0),(41,.aV [.aV ys 0] 0),(42,.aV ys 0),(43,ax pre),(44,.own 0),(45,num a),(46,.slice 1 [num a]),(47,.own 1),(48,.func 165 [.ptr 2 0,.ptr 3 0])]] [[],[some (.row 3 1 pre.length (aN pre))],[none,some (.row 3 1 (pre++[a]).length (aN (pre++[a])))],[none,some (.row 3 1 (pre++[a]).length (aN (pre++[a]))),some (.cells 147 [.aV ys 0]),some (.cells 37 [.own 1])]] [1,2,3,4,5,30,31] rfl (by kernel_rfl) (fun M hi ho=>?_)
  have μ0:M 0 8191 0 [3,30,31,48] 3:=hi<|qz rfl (by kernel_rfl) (⟨rfl,bh (ks:=[3,30,31,48]) rfl⟩)
  have μ1:M 1 4095 0 [3,30,31,42,47] 2:=hi<|aa [(12,8191)] rfl (by kernel_rfl)<|eF rfl rfl rfl rfl hbr (ho μ0) rfl rfl ae
  have μ2:M 2 2047 0 [3,30,31,42,44,46] 1:=hi<|aa [(11,4095)] rfl (by kernel_rfl)<|bY rfl rfl (cK.to (σ:=[some (.row 3 1 pre.length (aN pre))]) (p':=.own 1) (σ'':=[none,some (.row 3 1 (pre++[a]).length (aN (pre++[a])))]) (aY (e:=3) (s:=1) (by':=8) (i:=0) (m:=1) (n:=pre.length) (xs:=aN pre) (ys:=[num a]) rfl (bE.rk.get rfl) rfl rfl rfl rfl ⟨by unfold maxLen;omega,by omega⟩) rfl (by rw[List.length_append,←cJ];rfl)) rfl (ho μ1) rfl rfl ae
  have μ3:M 3 1023 0 [3,30,31,42,44,45] 1:=hi<|aa [(10,2047)] rfl (by kernel_rfl)<|bc rfl rfl (aM (xs:=[num a]) rfl (bE.sl.get rfl) ⟨Nat.le_of_ble_eq_true rfl,Nat.le_of_ble_eq_true rfl⟩ rfl rfl) rfl (ho μ2) rfl rfl ae
  have μ4:M 4 511 0 [3,5,30,31,42,44] 1:=hi<|aa [(9,1023)] rfl (by kernel_rfl)<|ag (ho μ3) rfl rfl ae
  have μ5:M 3 1791 0 [3,30,31,42,43,46] 0:=hi<|aa [(8,2047)] rfl (by kernel_rfl)<|eF rfl rfl rfl rfl hic (ho μ2) rfl rfl ae
  have μ6:M 4 767 0 [3,30,31,42,43,45] 0:=hi<|aa [(8,1023),(10,1791)] rfl (by kernel_rfl)<|eF rfl rfl rfl rfl hic (ho μ3) rfl rfl<|bc rfl rfl (aM (xs:=[num a]) rfl (bE.sl.get rfl) ⟨Nat.le_of_ble_eq_true rfl,Nat.le_of_ble_eq_true rfl⟩ rfl rfl) rfl (ho μ5) rfl rfl ae
  have μ7:M 5 255 0 [3,5,30,31,42,43] 0:=hi<|aa [(8,511),(9,767)] rfl (by kernel_rfl)<|eF rfl rfl rfl rfl hic (ho μ4) rfl rfl<|ag (ho μ6) rfl rfl ae
  have μ8:M 4 1663 0 [2,3,30,31,42,46] 0:=hi<|aa [(7,1791)] rfl (by kernel_rfl)<|ag (ho μ5) rfl rfl ae
  have μ9:M 5 639 0 [2,3,30,31,42,45] 0:=hi<|aa [(7,767),(10,1663)] rfl (by kernel_rfl)<|ag (ho μ6) rfl rfl<|bc rfl rfl (aM (xs:=[num a]) rfl (bE.sl.get rfl) ⟨Nat.le_of_ble_eq_true rfl,Nat.le_of_ble_eq_true rfl⟩ rfl rfl) rfl (ho μ8) rfl rfl ae
  have μ10:M 6 127 0 [2,3,5,30,31,42] 0:=hi<|aa [(7,255),(9,639)] rfl (by kernel_rfl)<|ag (ho μ7) rfl rfl<|ag (ho μ9) rfl rfl ae
  have μ11:M 2 4031 0 [3,30,31,41,47] 2:=hi<|aa [(6,4095)] rfl (by kernel_rfl)<|bc rfl rfl (aL rfl ((rfl:([PV.aV ys 0]:List PV)[0]? =some (.aV ys 0)))) rfl (ho μ1) rfl rfl ae
  have μ12:M 3 1983 0 [3,30,31,41,44,46] 1:=hi<|aa [(6,2047),(11,4031)] rfl (by kernel_rfl)<|bc rfl rfl (aL rfl ((rfl:([PV.aV ys 0]:List PV)[0]? =some (.aV ys 0)))) rfl (ho μ2) rfl rfl<|bY rfl rfl (cK.to (σ:=[some (.row 3 1 pre.length (aN pre))]) (p':=.own 1) (σ'':=[none,some (.row 3 1 (pre++[a]).length (aN (pre++[a])))]) (aY (e:=3) (s:=1) (by':=8) (i:=0) (m:=1) (n:=pre.length) (xs:=aN pre) (ys:=[num a]) rfl (bE.rk.get rfl) rfl rfl rfl rfl ⟨by unfold maxLen;omega,by omega⟩) rfl (by rw[List.length_append,←cJ];rfl)) rfl (ho μ11) rfl rfl ae
  have μ13:M 4 959 0 [3,30,31,41,44,45] 1:=hi<|aa [(6,1023),(10,1983)] rfl (by kernel_rfl)<|bc rfl rfl (aL rfl ((rfl:([PV.aV ys 0]:List PV)[0]? =some (.aV ys 0)))) rfl (ho μ3) rfl rfl<|bc rfl rfl (aM (xs:=[num a]) rfl (bE.sl.get rfl) ⟨Nat.le_of_ble_eq_true rfl,Nat.le_of_ble_eq_true rfl⟩ rfl rfl) rfl (ho μ12) rfl rfl ae
  have μ14:M 5 447 0 [3,5,30,31,41,44] 1:=hi<|aa [(6,511),(9,959)] rfl (by kernel_rfl)<|bc rfl rfl (aL rfl ((rfl:([PV.aV ys 0]:List PV)[0]? =some (.aV ys 0)))) rfl (ho μ4) rfl rfl<|ag (ho μ13) rfl rfl ae
  have μ15:M 4 1727 0 [3,30,31,41,43,46] 0:=hi<|aa [(6,1791),(8,1983)] rfl (by kernel_rfl)<|bc rfl rfl (aL rfl ((rfl:([PV.aV ys 0]:List PV)[0]? =some (.aV ys 0)))) rfl (ho μ5) rfl rfl<|eF rfl rfl rfl rfl hic (ho μ12) rfl rfl ae
  have μ16:M 5 703 0 [3,30,31,41,43,45] 0:=hi<|aa [(6,767),(8,959),(10,1727)] rfl (by kernel_rfl)<|bc rfl rfl (aL rfl ((rfl:([PV.aV ys 0]:List PV)[0]? =some (.aV ys 0)))) rfl (ho μ6) rfl rfl<|eF rfl rfl rfl rfl hic (ho μ13) rfl rfl<|bc rfl rfl (aM (xs:=[num a]) rfl (bE.sl.get rfl) ⟨Nat.le_of_ble_eq_true rfl,Nat.le_of_ble_eq_true rfl⟩ rfl rfl) rfl (ho μ15) rfl rfl ae
  have μ17:M 6 191 0 [3,5,30,31,41,43] 0:=hi<|aa [(6,255),(8,447),(9,703)] rfl (by kernel_rfl)<|bc rfl rfl (aL rfl ((rfl:([PV.aV ys 0]:List PV)[0]? =some (.aV ys 0)))) rfl (ho μ7) rfl rfl<|eF rfl rfl rfl rfl hic (ho μ14) rfl rfl<|ag (ho μ16) rfl rfl ae
  have μ18:M 5 1599 0 [2,3,30,31,41,46] 0:=hi<|aa [(6,1663),(7,1727)] rfl (by kernel_rfl)<|bc rfl rfl (aL rfl ((rfl:([PV.aV ys 0]:List PV)[0]? =some (.aV ys 0)))) rfl (ho μ8) rfl rfl<|ag (ho μ15) rfl rfl ae
  have μ19:M 6 575 0 [2,3,30,31,41,45] 0:=hi<|aa [(6,639),(7,703),(10,1599)] rfl (by kernel_rfl)<|bc rfl rfl (aL rfl ((rfl:([PV.aV ys 0]:List PV)[0]? =some (.aV ys 0)))) rfl (ho μ9) rfl rfl<|ag (ho μ16) rfl rfl<|bc rfl rfl (aM (xs:=[num a]) rfl (bE.sl.get rfl) ⟨Nat.le_of_ble_eq_true rfl,Nat.le_of_ble_eq_true rfl⟩ rfl rfl) rfl (ho μ18) rfl rfl ae
  have μ20:M 7 63 0 [2,3,5,30,31,41] 0:=hi<|aa [(6,127),(7,191),(9,575)] rfl (by kernel_rfl)<|bc rfl rfl (aL rfl ((rfl:([PV.aV ys 0]:List PV)[0]? =some (.aV ys 0)))) rfl (ho μ10) rfl rfl<|ag (ho μ17) rfl rfl<|ag (ho μ19) rfl rfl ae
  have μ21:M 3 3999 0 [3,30,31,39,40,47] 2:=hi<|aa [(5,4031)] rfl (by kernel_rfl)<|bc rfl rfl (aI (0) rfl (by simp) (by simp)) rfl (ho μ11) rfl rfl ae
  have μ22:M 4 1951 0 [3,30,31,39,40,44,46] 1:=hi<|aa [(5,1983),(11,3999)] rfl (by kernel_rfl)<|bc rfl rfl (aI (0) rfl (by simp) (by simp)) rfl (ho μ12) rfl rfl<|bY rfl rfl (cK.to (σ:=[some (.row 3 1 pre.length (aN pre))]) (p':=.own 1) (σ'':=[none,some (.row 3 1 (pre++[a]).length (aN (pre++[a])))]) (aY (e:=3) (s:=1) (by':=8) (i:=0) (m:=1) (n:=pre.length) (xs:=aN pre) (ys:=[num a]) rfl (bE.rk.get rfl) rfl rfl rfl rfl ⟨by unfold maxLen;omega,by omega⟩) rfl (by rw[List.length_append,←cJ];rfl)) rfl (ho μ21) rfl rfl ae
  have μ23:M 5 927 0 [3,30,31,39,40,44,45] 1:=hi<|aa [(5,959),(10,1951)] rfl (by kernel_rfl)<|bc rfl rfl (aI (0) rfl (by simp) (by simp)) rfl (ho μ13) rfl rfl<|bc rfl rfl (aM (xs:=[num a]) rfl (bE.sl.get rfl) ⟨Nat.le_of_ble_eq_true rfl,Nat.le_of_ble_eq_true rfl⟩ rfl rfl) rfl (ho μ22) rfl rfl ae
  have μ24:M 6 415 0 [3,5,30,31,39,40,44] 1:=hi<|aa [(5,447),(9,927)] rfl (by kernel_rfl)<|bc rfl rfl (aI (0) rfl (by simp) (by simp)) rfl (ho μ14) rfl rfl<|ag (ho μ23) rfl rfl ae
  have μ25:M 5 1695 0 [3,30,31,39,40,43,46] 0:=hi<|aa [(5,1727),(8,1951)] rfl (by kernel_rfl)<|bc rfl rfl (aI (0) rfl (by simp) (by simp)) rfl (ho μ15) rfl rfl<|eF rfl rfl rfl rfl hic (ho μ22) rfl rfl ae
  have μ26:M 6 671 0 [3,30,31,39,40,43,45] 0:=hi<|aa [(5,703),(8,927),(10,1695)] rfl (by kernel_rfl)<|bc rfl rfl (aI (0) rfl (by simp) (by simp)) rfl (ho μ16) rfl rfl<|eF rfl rfl rfl rfl hic (ho μ23) rfl rfl<|bc rfl rfl (aM (xs:=[num a]) rfl (bE.sl.get rfl) ⟨Nat.le_of_ble_eq_true rfl,Nat.le_of_ble_eq_true rfl⟩ rfl rfl) rfl (ho μ25) rfl rfl ae
  have μ27:M 7 159 0 [3,5,30,31,39,40,43] 0:=hi<|aa [(5,191),(8,415),(9,671)] rfl (by kernel_rfl)<|bc rfl rfl (aI (0) rfl (by simp) (by simp)) rfl (ho μ17) rfl rfl<|eF rfl rfl rfl rfl hic (ho μ24) rfl rfl<|ag (ho μ26) rfl rfl ae
  have μ28:M 6 1567 0 [2,3,30,31,39,40,46] 0:=hi<|aa [(5,1599),(7,1695)] rfl (by kernel_rfl)<|bc rfl rfl (aI (0) rfl (by simp) (by simp)) rfl (ho μ18) rfl rfl<|ag (ho μ25) rfl rfl ae
  have μ29:M 7 543 0 [2,3,30,31,39,40,45] 0:=hi<|aa [(5,575),(7,671),(10,1567)] rfl (by kernel_rfl)<|bc rfl rfl (aI (0) rfl (by simp) (by simp)) rfl (ho μ19) rfl rfl<|ag (ho μ26) rfl rfl<|bc rfl rfl (aM (xs:=[num a]) rfl (bE.sl.get rfl) ⟨Nat.le_of_ble_eq_true rfl,Nat.le_of_ble_eq_true rfl⟩ rfl rfl) rfl (ho μ28) rfl rfl ae
  have μ30:M 8 31 0 [2,3,5,30,31,39,40] 0:=hi<|aa [(5,63),(7,159),(9,543)] rfl (by kernel_rfl)<|bc rfl rfl (aI (0) rfl (by simp) (by simp)) rfl (ho μ20) rfl rfl<|ag (ho μ27) rfl rfl<|ag (ho μ29) rfl rfl ae
  have μ31:M 4 3983 0 [3,4,30,31,39,47] 2:=hi<|aa [(4,3999)] rfl (by kernel_rfl)<|ag (ho μ21) rfl rfl ae
  have μ32:M 5 1935 0 [3,4,30,31,39,44,46] 1:=hi<|aa [(4,1951),(11,3983)] rfl (by kernel_rfl)<|ag (ho μ22) rfl rfl<|bY rfl rfl (cK.to (σ:=[some (.row 3 1 pre.length (aN pre))]) (p':=.own 1) (σ'':=[none,some (.row 3 1 (pre++[a]).length (aN (pre++[a])))]) (aY (e:=3) (s:=1) (by':=8) (i:=0) (m:=1) (n:=pre.length) (xs:=aN pre) (ys:=[num a]) rfl (bE.rk.get rfl) rfl rfl rfl rfl ⟨by unfold maxLen;omega,by omega⟩) rfl (by rw[List.length_append,←cJ];rfl)) rfl (ho μ31) rfl rfl ae
  have μ33:M 6 911 0 [3,4,30,31,39,44,45] 1:=hi<|aa [(4,927),(10,1935)] rfl (by kernel_rfl)<|ag (ho μ23) rfl rfl<|bc rfl rfl (aM (xs:=[num a]) rfl (bE.sl.get rfl) ⟨Nat.le_of_ble_eq_true rfl,Nat.le_of_ble_eq_true rfl⟩ rfl rfl) rfl (ho μ32) rfl rfl ae
  have μ34:M 7 399 0 [3,4,5,30,31,39,44] 1:=hi<|aa [(4,415),(9,911)] rfl (by kernel_rfl)<|ag (ho μ24) rfl rfl<|ag (ho μ33) rfl rfl ae
  have μ35:M 6 1679 0 [3,4,30,31,39,43,46] 0:=hi<|aa [(4,1695),(8,1935)] rfl (by kernel_rfl)<|ag (ho μ25) rfl rfl<|eF rfl rfl rfl rfl hic (ho μ32) rfl rfl ae
  have μ36:M 7 655 0 [3,4,30,31,39,43,45] 0:=hi<|aa [(4,671),(8,911),(10,1679)] rfl (by kernel_rfl)<|ag (ho μ26) rfl rfl<|eF rfl rfl rfl rfl hic (ho μ33) rfl rfl<|bc rfl rfl (aM (xs:=[num a]) rfl (bE.sl.get rfl) ⟨Nat.le_of_ble_eq_true rfl,Nat.le_of_ble_eq_true rfl⟩ rfl rfl) rfl (ho μ35) rfl rfl ae
  have μ37:M 8 143 0 [3,4,5,30,31,39,43] 0:=hi<|aa [(4,159),(8,399),(9,655)] rfl (by kernel_rfl)<|ag (ho μ27) rfl rfl<|eF rfl rfl rfl rfl hic (ho μ34) rfl rfl<|ag (ho μ36) rfl rfl ae
  have μ38:M 7 1551 0 [2,3,4,30,31,39,46] 0:=hi<|aa [(4,1567),(7,1679)] rfl (by kernel_rfl)<|ag (ho μ28) rfl rfl<|ag (ho μ35) rfl rfl ae
  have μ39:M 8 527 0 [2,3,4,30,31,39,45] 0:=hi<|aa [(4,543),(7,655),(10,1551)] rfl (by kernel_rfl)<|ag (ho μ29) rfl rfl<|ag (ho μ36) rfl rfl<|bc rfl rfl (aM (xs:=[num a]) rfl (bE.sl.get rfl) ⟨Nat.le_of_ble_eq_true rfl,Nat.le_of_ble_eq_true rfl⟩ rfl rfl) rfl (ho μ38) rfl rfl ae
  have μ40:M 9 15 0 [2,3,4,5,30,31,39] 0:=hi<|aa [(4,31),(7,143),(9,527)] rfl (by kernel_rfl)<|ag (ho μ30) rfl rfl<|ag (ho μ37) rfl rfl<|ag (ho μ39) rfl rfl ae
  have μ41:M 4 3991 0 [3,30,31,38,40,47] 2:=hi<|aa [(3,3999)] rfl (by kernel_rfl)<|ag (ho μ21) rfl rfl ae
  have μ42:M 5 1943 0 [3,30,31,38,40,44,46] 1:=hi<|aa [(3,1951),(11,3991)] rfl (by kernel_rfl)<|ag (ho μ22) rfl rfl<|bY rfl rfl (cK.to (σ:=[some (.row 3 1 pre.length (aN pre))]) (p':=.own 1) (σ'':=[none,some (.row 3 1 (pre++[a]).length (aN (pre++[a])))]) (aY (e:=3) (s:=1) (by':=8) (i:=0) (m:=1) (n:=pre.length) (xs:=aN pre) (ys:=[num a]) rfl (bE.rk.get rfl) rfl rfl rfl rfl ⟨by unfold maxLen;omega,by omega⟩) rfl (by rw[List.length_append,←cJ];rfl)) rfl (ho μ41) rfl rfl ae
  have μ43:M 6 919 0 [3,30,31,38,40,44,45] 1:=hi<|aa [(3,927),(10,1943)] rfl (by kernel_rfl)<|ag (ho μ23) rfl rfl<|bc rfl rfl (aM (xs:=[num a]) rfl (bE.sl.get rfl) ⟨Nat.le_of_ble_eq_true rfl,Nat.le_of_ble_eq_true rfl⟩ rfl rfl) rfl (ho μ42) rfl rfl ae
  have μ44:M 7 407 0 [3,5,30,31,38,40,44] 1:=hi<|aa [(3,415),(9,919)] rfl (by kernel_rfl)<|ag (ho μ24) rfl rfl<|ag (ho μ43) rfl rfl ae
  have μ45:M 6 1687 0 [3,30,31,38,40,43,46] 0:=hi<|aa [(3,1695),(8,1943)] rfl (by kernel_rfl)<|ag (ho μ25) rfl rfl<|eF rfl rfl rfl rfl hic (ho μ42) rfl rfl ae
  have μ46:M 7 663 0 [3,30,31,38,40,43,45] 0:=hi<|aa [(3,671),(8,919),(10,1687)] rfl (by kernel_rfl)<|ag (ho μ26) rfl rfl<|eF rfl rfl rfl rfl hic (ho μ43) rfl rfl<|bc rfl rfl (aM (xs:=[num a]) rfl (bE.sl.get rfl) ⟨Nat.le_of_ble_eq_true rfl,Nat.le_of_ble_eq_true rfl⟩ rfl rfl) rfl (ho μ45) rfl rfl ae
  have μ47:M 8 151 0 [3,5,30,31,38,40,43] 0:=hi<|aa [(3,159),(8,407),(9,663)] rfl (by kernel_rfl)<|ag (ho μ27) rfl rfl<|eF rfl rfl rfl rfl hic (ho μ44) rfl rfl<|ag (ho μ46) rfl rfl ae
  have μ48:M 7 1559 0 [2,3,30,31,38,40,46] 0:=hi<|aa [(3,1567),(7,1687)] rfl (by kernel_rfl)<|ag (ho μ28) rfl rfl<|ag (ho μ45) rfl rfl ae
  have μ49:M 8 535 0 [2,3,30,31,38,40,45] 0:=hi<|aa [(3,543),(7,663),(10,1559)] rfl (by kernel_rfl)<|ag (ho μ29) rfl rfl<|ag (ho μ46) rfl rfl<|bc rfl rfl (aM (xs:=[num a]) rfl (bE.sl.get rfl) ⟨Nat.le_of_ble_eq_true rfl,Nat.le_of_ble_eq_true rfl⟩ rfl rfl) rfl (ho μ48) rfl rfl ae
  have μ50:M 9 23 0 [2,3,5,30,31,38,40] 0:=hi<|aa [(3,31),(7,151),(9,535)] rfl (by kernel_rfl)<|ag (ho μ30) rfl rfl<|ag (ho μ47) rfl rfl<|ag (ho μ49) rfl rfl ae
  have μ51:M 5 3975 0 [3,4,30,31,38,47] 2:=hi<|aa [(3,3983),(4,3991)] rfl (by kernel_rfl)<|ag (ho μ31) rfl rfl<|ag (ho μ41) rfl rfl ae
  have μ52:M 6 1927 0 [3,4,30,31,38,44,46] 1:=hi<|aa [(3,1935),(4,1943),(11,3975)] rfl (by kernel_rfl)<|ag (ho μ32) rfl rfl<|ag (ho μ42) rfl rfl<|bY rfl rfl (cK.to (σ:=[some (.row 3 1 pre.length (aN pre))]) (p':=.own 1) (σ'':=[none,some (.row 3 1 (pre++[a]).length (aN (pre++[a])))]) (aY (e:=3) (s:=1) (by':=8) (i:=0) (m:=1) (n:=pre.length) (xs:=aN pre) (ys:=[num a]) rfl (bE.rk.get rfl) rfl rfl rfl rfl ⟨by unfold maxLen;omega,by omega⟩) rfl (by rw[List.length_append,←cJ];rfl)) rfl (ho μ51) rfl rfl ae
  have μ53:M 7 903 0 [3,4,30,31,38,44,45] 1:=hi<|aa [(3,911),(4,919),(10,1927)] rfl (by kernel_rfl)<|ag (ho μ33) rfl rfl<|ag (ho μ43) rfl rfl<|bc rfl rfl (aM (xs:=[num a]) rfl (bE.sl.get rfl) ⟨Nat.le_of_ble_eq_true rfl,Nat.le_of_ble_eq_true rfl⟩ rfl rfl) rfl (ho μ52) rfl rfl ae
  have μ54:M 8 391 0 [3,4,5,30,31,38,44] 1:=hi<|aa [(3,399),(4,407),(9,903)] rfl (by kernel_rfl)<|ag (ho μ34) rfl rfl<|ag (ho μ44) rfl rfl<|ag (ho μ53) rfl rfl ae
  have μ55:M 7 1671 0 [3,4,30,31,38,43,46] 0:=hi<|aa [(3,1679),(4,1687),(8,1927)] rfl (by kernel_rfl)<|ag (ho μ35) rfl rfl<|ag (ho μ45) rfl rfl<|eF rfl rfl rfl rfl hic (ho μ52) rfl rfl ae
  have μ56:M 8 647 0 [3,4,30,31,38,43,45] 0:=hi<|aa [(3,655),(4,663),(8,903),(10,1671)] rfl (by kernel_rfl)<|ag (ho μ36) rfl rfl<|ag (ho μ46) rfl rfl<|eF rfl rfl rfl rfl hic (ho μ53) rfl rfl<|bc rfl rfl (aM (xs:=[num a]) rfl (bE.sl.get rfl) ⟨Nat.le_of_ble_eq_true rfl,Nat.le_of_ble_eq_true rfl⟩ rfl rfl) rfl (ho μ55) rfl rfl ae
  have μ57:M 9 135 0 [3,4,5,30,31,38,43] 0:=hi<|aa [(3,143),(4,151),(8,391),(9,647)] rfl (by kernel_rfl)<|ag (ho μ37) rfl rfl<|ag (ho μ47) rfl rfl<|eF rfl rfl rfl rfl hic (ho μ54) rfl rfl<|ag (ho μ56) rfl rfl ae
  have μ58:M 8 1543 0 [2,3,4,30,31,38,46] 0:=hi<|aa [(3,1551),(4,1559),(7,1671)] rfl (by kernel_rfl)<|ag (ho μ38) rfl rfl<|ag (ho μ48) rfl rfl<|ag (ho μ55) rfl rfl ae
  have μ59:M 9 519 0 [2,3,4,30,31,38,45] 0:=hi<|aa [(3,527),(4,535),(7,647),(10,1543)] rfl (by kernel_rfl)<|ag (ho μ39) rfl rfl<|ag (ho μ49) rfl rfl<|ag (ho μ56) rfl rfl<|bc rfl rfl (aM (xs:=[num a]) rfl (bE.sl.get rfl) ⟨Nat.le_of_ble_eq_true rfl,Nat.le_of_ble_eq_true rfl⟩ rfl rfl) rfl (ho μ58) rfl rfl ae
  have μ60:M 10 7 0 [2,3,4,5,30,31,38] 0:=hi<|aa [(3,15),(4,23),(7,135),(9,519)] rfl (by kernel_rfl)<|ag (ho μ40) rfl rfl<|ag (ho μ50) rfl rfl<|ag (ho μ57) rfl rfl<|ag (ho μ59) rfl rfl ae
  have μ61:M 5 3987 0 [3,30,31,37,40,47] 2:=hi<|aa [(2,3991)] rfl (by kernel_rfl)<|ag (ho μ41) rfl rfl ae
  have μ62:M 6 1939 0 [3,30,31,37,40,44,46] 1:=hi<|aa [(2,1943),(11,3987)] rfl (by kernel_rfl)<|ag (ho μ42) rfl rfl<|bY rfl rfl (cK.to (σ:=[some (.row 3 1 pre.length (aN pre))]) (p':=.own 1) (σ'':=[none,some (.row 3 1 (pre++[a]).length (aN (pre++[a])))]) (aY (e:=3) (s:=1) (by':=8) (i:=0) (m:=1) (n:=pre.length) (xs:=aN pre) (ys:=[num a]) rfl (bE.rk.get rfl) rfl rfl rfl rfl ⟨by unfold maxLen;omega,by omega⟩) rfl (by rw[List.length_append,←cJ];rfl)) rfl (ho μ61) rfl rfl ae
  have μ63:M 7 915 0 [3,30,31,37,40,44,45] 1:=hi<|aa [(2,919),(10,1939)] rfl (by kernel_rfl)<|ag (ho μ43) rfl rfl<|bc rfl rfl (aM (xs:=[num a]) rfl (bE.sl.get rfl) ⟨Nat.le_of_ble_eq_true rfl,Nat.le_of_ble_eq_true rfl⟩ rfl rfl) rfl (ho μ62) rfl rfl ae
  have μ64:M 8 403 0 [3,5,30,31,37,40,44] 1:=hi<|aa [(2,407),(9,915)] rfl (by kernel_rfl)<|ag (ho μ44) rfl rfl<|ag (ho μ63) rfl rfl ae
  have μ65:M 7 1683 0 [3,30,31,37,40,43,46] 0:=hi<|aa [(2,1687),(8,1939)] rfl (by kernel_rfl)<|ag (ho μ45) rfl rfl<|eF rfl rfl rfl rfl hic (ho μ62) rfl rfl ae
  have μ66:M 8 659 0 [3,30,31,37,40,43,45] 0:=hi<|aa [(2,663),(8,915),(10,1683)] rfl (by kernel_rfl)<|ag (ho μ46) rfl rfl<|eF rfl rfl rfl rfl hic (ho μ63) rfl rfl<|bc rfl rfl (aM (xs:=[num a]) rfl (bE.sl.get rfl) ⟨Nat.le_of_ble_eq_true rfl,Nat.le_of_ble_eq_true rfl⟩ rfl rfl) rfl (ho μ65) rfl rfl ae
  have μ67:M 9 147 0 [3,5,30,31,37,40,43] 0:=hi<|aa [(2,151),(8,403),(9,659)] rfl (by kernel_rfl)<|ag (ho μ47) rfl rfl<|eF rfl rfl rfl rfl hic (ho μ64) rfl rfl<|ag (ho μ66) rfl rfl ae
  have μ68:M 8 1555 0 [2,3,30,31,37,40,46] 0:=hi<|aa [(2,1559),(7,1683)] rfl (by kernel_rfl)<|ag (ho μ48) rfl rfl<|ag (ho μ65) rfl rfl ae
  have μ69:M 9 531 0 [2,3,30,31,37,40,45] 0:=hi<|aa [(2,535),(7,659),(10,1555)] rfl (by kernel_rfl)<|ag (ho μ49) rfl rfl<|ag (ho μ66) rfl rfl<|bc rfl rfl (aM (xs:=[num a]) rfl (bE.sl.get rfl) ⟨Nat.le_of_ble_eq_true rfl,Nat.le_of_ble_eq_true rfl⟩ rfl rfl) rfl (ho μ68) rfl rfl ae
  have μ70:M 10 19 0 [2,3,5,30,31,37,40] 0:=hi<|aa [(2,23),(7,147),(9,531)] rfl (by kernel_rfl)<|ag (ho μ50) rfl rfl<|ag (ho μ67) rfl rfl<|ag (ho μ69) rfl rfl ae
  have μ71:M 6 3971 0 [3,4,30,31,37,47] 2:=hi<|aa [(2,3975),(4,3987)] rfl (by kernel_rfl)<|ag (ho μ51) rfl rfl<|ag (ho μ61) rfl rfl ae
  have μ72:M 7 1923 0 [3,4,30,31,37,44,46] 1:=hi<|aa [(2,1927),(4,1939),(11,3971)] rfl (by kernel_rfl)<|ag (ho μ52) rfl rfl<|ag (ho μ62) rfl rfl<|bY rfl rfl (cK.to (σ:=[some (.row 3 1 pre.length (aN pre))]) (p':=.own 1) (σ'':=[none,some (.row 3 1 (pre++[a]).length (aN (pre++[a])))]) (aY (e:=3) (s:=1) (by':=8) (i:=0) (m:=1) (n:=pre.length) (xs:=aN pre) (ys:=[num a]) rfl (bE.rk.get rfl) rfl rfl rfl rfl ⟨by unfold maxLen;omega,by omega⟩) rfl (by rw[List.length_append,←cJ];rfl)) rfl (ho μ71) rfl rfl ae
  have μ73:M 8 899 0 [3,4,30,31,37,44,45] 1:=hi<|aa [(2,903),(4,915),(10,1923)] rfl (by kernel_rfl)<|ag (ho μ53) rfl rfl<|ag (ho μ63) rfl rfl<|bc rfl rfl (aM (xs:=[num a]) rfl (bE.sl.get rfl) ⟨Nat.le_of_ble_eq_true rfl,Nat.le_of_ble_eq_true rfl⟩ rfl rfl) rfl (ho μ72) rfl rfl ae
  have μ74:M 9 387 0 [3,4,5,30,31,37,44] 1:=hi<|aa [(2,391),(4,403),(9,899)] rfl (by kernel_rfl)<|ag (ho μ54) rfl rfl<|ag (ho μ64) rfl rfl<|ag (ho μ73) rfl rfl ae
  have μ75:M 8 1667 0 [3,4,30,31,37,43,46] 0:=hi<|aa [(2,1671),(4,1683),(8,1923)] rfl (by kernel_rfl)<|ag (ho μ55) rfl rfl<|ag (ho μ65) rfl rfl<|eF rfl rfl rfl rfl hic (ho μ72) rfl rfl ae
  have μ76:M 9 643 0 [3,4,30,31,37,43,45] 0:=hi<|aa [(2,647),(4,659),(8,899),(10,1667)] rfl (by kernel_rfl)<|ag (ho μ56) rfl rfl<|ag (ho μ66) rfl rfl<|eF rfl rfl rfl rfl hic (ho μ73) rfl rfl<|bc rfl rfl (aM (xs:=[num a]) rfl (bE.sl.get rfl) ⟨Nat.le_of_ble_eq_true rfl,Nat.le_of_ble_eq_true rfl⟩ rfl rfl) rfl (ho μ75) rfl rfl ae
  have μ77:M 10 131 0 [3,4,5,30,31,37,43] 0:=hi<|aa [(2,135),(4,147),(8,387),(9,643)] rfl (by kernel_rfl)<|ag (ho μ57) rfl rfl<|ag (ho μ67) rfl rfl<|eF rfl rfl rfl rfl hic (ho μ74) rfl rfl<|ag (ho μ76) rfl rfl ae
  have μ78:M 9 1539 0 [2,3,4,30,31,37,46] 0:=hi<|aa [(2,1543),(4,1555),(7,1667)] rfl (by kernel_rfl)<|ag (ho μ58) rfl rfl<|ag (ho μ68) rfl rfl<|ag (ho μ75) rfl rfl ae
  have μ79:M 10 515 0 [2,3,4,30,31,37,45] 0:=hi<|aa [(2,519),(4,531),(7,643),(10,1539)] rfl (by kernel_rfl)<|ag (ho μ59) rfl rfl<|ag (ho μ69) rfl rfl<|ag (ho μ76) rfl rfl<|bc rfl rfl (aM (xs:=[num a]) rfl (bE.sl.get rfl) ⟨Nat.le_of_ble_eq_true rfl,Nat.le_of_ble_eq_true rfl⟩ rfl rfl) rfl (ho μ78) rfl rfl ae
  have μ80:M 11 3 0 [2,3,4,5,30,31,37] 0:=hi<|aa [(2,7),(4,19),(7,131),(9,515)] rfl (by kernel_rfl)<|ag (ho μ60) rfl rfl<|ag (ho μ70) rfl rfl<|ag (ho μ77) rfl rfl<|ag (ho μ79) rfl rfl ae
  have μ81:M 6 3985 0 [3,30,31,36,40,47] 2:=hi<|aa [(1,3987)] rfl (by kernel_rfl)<|ag (ho μ61) rfl rfl ae
  have μ82:M 7 1937 0 [3,30,31,36,40,44,46] 1:=hi<|aa [(1,1939),(11,3985)] rfl (by kernel_rfl)<|ag (ho μ62) rfl rfl<|bY rfl rfl (cK.to (σ:=[some (.row 3 1 pre.length (aN pre))]) (p':=.own 1) (σ'':=[none,some (.row 3 1 (pre++[a]).length (aN (pre++[a])))]) (aY (e:=3) (s:=1) (by':=8) (i:=0) (m:=1) (n:=pre.length) (xs:=aN pre) (ys:=[num a]) rfl (bE.rk.get rfl) rfl rfl rfl rfl ⟨by unfold maxLen;omega,by omega⟩) rfl (by rw[List.length_append,←cJ];rfl)) rfl (ho μ81) rfl rfl ae
  have μ83:M 8 913 0 [3,30,31,36,40,44,45] 1:=hi<|aa [(1,915),(10,1937)] rfl (by kernel_rfl)<|ag (ho μ63) rfl rfl<|bc rfl rfl (aM (xs:=[num a]) rfl (bE.sl.get rfl) ⟨Nat.le_of_ble_eq_true rfl,Nat.le_of_ble_eq_true rfl⟩ rfl rfl) rfl (ho μ82) rfl rfl ae
  have μ84:M 9 401 0 [3,5,30,31,36,40,44] 1:=hi<|aa [(1,403),(9,913)] rfl (by kernel_rfl)<|ag (ho μ64) rfl rfl<|ag (ho μ83) rfl rfl ae
  have μ85:M 8 1681 0 [3,30,31,36,40,43,46] 0:=hi<|aa [(1,1683),(8,1937)] rfl (by kernel_rfl)<|ag (ho μ65) rfl rfl<|eF rfl rfl rfl rfl hic (ho μ82) rfl rfl ae
  have μ86:M 9 657 0 [3,30,31,36,40,43,45] 0:=hi<|aa [(1,659),(8,913),(10,1681)] rfl (by kernel_rfl)<|ag (ho μ66) rfl rfl<|eF rfl rfl rfl rfl hic (ho μ83) rfl rfl<|bc rfl rfl (aM (xs:=[num a]) rfl (bE.sl.get rfl) ⟨Nat.le_of_ble_eq_true rfl,Nat.le_of_ble_eq_true rfl⟩ rfl rfl) rfl (ho μ85) rfl rfl ae
  have μ87:M 10 145 0 [3,5,30,31,36,40,43] 0:=hi<|aa [(1,147),(8,401),(9,657)] rfl (by kernel_rfl)<|ag (ho μ67) rfl rfl<|eF rfl rfl rfl rfl hic (ho μ84) rfl rfl<|ag (ho μ86) rfl rfl ae
  have μ88:M 9 1553 0 [2,3,30,31,36,40,46] 0:=hi<|aa [(1,1555),(7,1681)] rfl (by kernel_rfl)<|ag (ho μ68) rfl rfl<|ag (ho μ85) rfl rfl ae
  have μ89:M 10 529 0 [2,3,30,31,36,40,45] 0:=hi<|aa [(1,531),(7,657),(10,1553)] rfl (by kernel_rfl)<|ag (ho μ69) rfl rfl<|ag (ho μ86) rfl rfl<|bc rfl rfl (aM (xs:=[num a]) rfl (bE.sl.get rfl) ⟨Nat.le_of_ble_eq_true rfl,Nat.le_of_ble_eq_true rfl⟩ rfl rfl) rfl (ho μ88) rfl rfl ae
  have μ90:M 11 17 0 [2,3,5,30,31,36,40] 0:=hi<|aa [(1,19),(7,145),(9,529)] rfl (by kernel_rfl)<|ag (ho μ70) rfl rfl<|ag (ho μ87) rfl rfl<|ag (ho μ89) rfl rfl ae
  have μ91:M 7 3969 0 [3,4,30,31,36,47] 2:=hi<|aa [(1,3971),(4,3985)] rfl (by kernel_rfl)<|ag (ho μ71) rfl rfl<|ag (ho μ81) rfl rfl ae
  have μ92:M 8 1921 0 [3,4,30,31,36,44,46] 1:=hi<|aa [(1,1923),(4,1937),(11,3969)] rfl (by kernel_rfl)<|ag (ho μ72) rfl rfl<|ag (ho μ82) rfl rfl<|bY rfl rfl (cK.to (σ:=[some (.row 3 1 pre.length (aN pre))]) (p':=.own 1) (σ'':=[none,some (.row 3 1 (pre++[a]).length (aN (pre++[a])))]) (aY (e:=3) (s:=1) (by':=8) (i:=0) (m:=1) (n:=pre.length) (xs:=aN pre) (ys:=[num a]) rfl (bE.rk.get rfl) rfl rfl rfl rfl ⟨by unfold maxLen;omega,by omega⟩) rfl (by rw[List.length_append,←cJ];rfl)) rfl (ho μ91) rfl rfl ae
  have μ93:M 9 897 0 [3,4,30,31,36,44,45] 1:=hi<|aa [(1,899),(4,913),(10,1921)] rfl (by kernel_rfl)<|ag (ho μ73) rfl rfl<|ag (ho μ83) rfl rfl<|bc rfl rfl (aM (xs:=[num a]) rfl (bE.sl.get rfl) ⟨Nat.le_of_ble_eq_true rfl,Nat.le_of_ble_eq_true rfl⟩ rfl rfl) rfl (ho μ92) rfl rfl ae
  have μ94:M 10 385 0 [3,4,5,30,31,36,44] 1:=hi<|aa [(1,387),(4,401),(9,897)] rfl (by kernel_rfl)<|ag (ho μ74) rfl rfl<|ag (ho μ84) rfl rfl<|ag (ho μ93) rfl rfl ae
  have μ95:M 9 1665 0 [3,4,30,31,36,43,46] 0:=hi<|aa [(1,1667),(4,1681),(8,1921)] rfl (by kernel_rfl)<|ag (ho μ75) rfl rfl<|ag (ho μ85) rfl rfl<|eF rfl rfl rfl rfl hic (ho μ92) rfl rfl ae
  have μ96:M 10 641 0 [3,4,30,31,36,43,45] 0:=hi<|aa [(1,643),(4,657),(8,897),(10,1665)] rfl (by kernel_rfl)<|ag (ho μ76) rfl rfl<|ag (ho μ86) rfl rfl<|eF rfl rfl rfl rfl hic (ho μ93) rfl rfl<|bc rfl rfl (aM (xs:=[num a]) rfl (bE.sl.get rfl) ⟨Nat.le_of_ble_eq_true rfl,Nat.le_of_ble_eq_true rfl⟩ rfl rfl) rfl (ho μ95) rfl rfl ae
  have μ97:M 11 129 0 [3,4,5,30,31,36,43] 0:=hi<|aa [(1,131),(4,145),(8,385),(9,641)] rfl (by kernel_rfl)<|ag (ho μ77) rfl rfl<|ag (ho μ87) rfl rfl<|eF rfl rfl rfl rfl hic (ho μ94) rfl rfl<|ag (ho μ96) rfl rfl ae
  have μ98:M 10 1537 0 [2,3,4,30,31,36,46] 0:=hi<|aa [(1,1539),(4,1553),(7,1665)] rfl (by kernel_rfl)<|ag (ho μ78) rfl rfl<|ag (ho μ88) rfl rfl<|ag (ho μ95) rfl rfl ae
  have μ99:M 11 513 0 [2,3,4,30,31,36,45] 0:=hi<|aa [(1,515),(4,529),(7,641),(10,1537)] rfl (by kernel_rfl)<|ag (ho μ79) rfl rfl<|ag (ho μ89) rfl rfl<|ag (ho μ96) rfl rfl<|bc rfl rfl (aM (xs:=[num a]) rfl (bE.sl.get rfl) ⟨Nat.le_of_ble_eq_true rfl,Nat.le_of_ble_eq_true rfl⟩ rfl rfl) rfl (ho μ98) rfl rfl ae
  have μ100:M 12 1 0 [2,3,4,5,30,31,36] 0:=hi<|aa [(1,3),(4,17),(7,129),(9,513)] rfl (by kernel_rfl)<|ag (ho μ80) rfl rfl<|ag (ho μ90) rfl rfl<|ag (ho μ97) rfl rfl<|ag (ho μ99) rfl rfl ae
  have μ101:M 7 3984 0 [1,3,30,31,40,47] 2:=hi<|aa [(0,3985)] rfl (by kernel_rfl)<|ag (ho μ81) rfl rfl ae
  have μ102:M 8 1936 0 [1,3,30,31,40,44,46] 1:=hi<|aa [(0,1937),(11,3984)] rfl (by kernel_rfl)<|ag (ho μ82) rfl rfl<|bY rfl rfl (cK.to (σ:=[some (.row 3 1 pre.length (aN pre))]) (p':=.own 1) (σ'':=[none,some (.row 3 1 (pre++[a]).length (aN (pre++[a])))]) (aY (e:=3) (s:=1) (by':=8) (i:=0) (m:=1) (n:=pre.length) (xs:=aN pre) (ys:=[num a]) rfl (bE.rk.get rfl) rfl rfl rfl rfl ⟨by unfold maxLen;omega,by omega⟩) rfl (by rw[List.length_append,←cJ];rfl)) rfl (ho μ101) rfl rfl ae
  have μ103:M 9 912 0 [1,3,30,31,40,44,45] 1:=hi<|aa [(0,913),(10,1936)] rfl (by kernel_rfl)<|ag (ho μ83) rfl rfl<|bc rfl rfl (aM (xs:=[num a]) rfl (bE.sl.get rfl) ⟨Nat.le_of_ble_eq_true rfl,Nat.le_of_ble_eq_true rfl⟩ rfl rfl) rfl (ho μ102) rfl rfl ae
  have μ104:M 10 400 0 [1,3,5,30,31,40,44] 1:=hi<|aa [(0,401),(9,912)] rfl (by kernel_rfl)<|ag (ho μ84) rfl rfl<|ag (ho μ103) rfl rfl ae
  have μ105:M 9 1680 0 [1,3,30,31,40,43,46] 0:=hi<|aa [(0,1681),(8,1936)] rfl (by kernel_rfl)<|ag (ho μ85) rfl rfl<|eF rfl rfl rfl rfl hic (ho μ102) rfl rfl ae
  have μ106:M 10 656 0 [1,3,30,31,40,43,45] 0:=hi<|aa [(0,657),(8,912),(10,1680)] rfl (by kernel_rfl)<|ag (ho μ86) rfl rfl<|eF rfl rfl rfl rfl hic (ho μ103) rfl rfl<|bc rfl rfl (aM (xs:=[num a]) rfl (bE.sl.get rfl) ⟨Nat.le_of_ble_eq_true rfl,Nat.le_of_ble_eq_true rfl⟩ rfl rfl) rfl (ho μ105) rfl rfl ae
  have μ107:M 11 144 0 [1,3,5,30,31,40,43] 0:=hi<|aa [(0,145),(8,400),(9,656)] rfl (by kernel_rfl)<|ag (ho μ87) rfl rfl<|eF rfl rfl rfl rfl hic (ho μ104) rfl rfl<|ag (ho μ106) rfl rfl ae
  have μ108:M 10 1552 0 [1,2,3,30,31,40,46] 0:=hi<|aa [(0,1553),(7,1680)] rfl (by kernel_rfl)<|ag (ho μ88) rfl rfl<|ag (ho μ105) rfl rfl ae
  have μ109:M 11 528 0 [1,2,3,30,31,40,45] 0:=hi<|aa [(0,529),(7,656),(10,1552)] rfl (by kernel_rfl)<|ag (ho μ89) rfl rfl<|ag (ho μ106) rfl rfl<|bc rfl rfl (aM (xs:=[num a]) rfl (bE.sl.get rfl) ⟨Nat.le_of_ble_eq_true rfl,Nat.le_of_ble_eq_true rfl⟩ rfl rfl) rfl (ho μ108) rfl rfl ae
  have μ110:M 12 16 0 [1,2,3,5,30,31,40] 0:=hi<|aa [(0,17),(7,144),(9,528)] rfl (by kernel_rfl)<|ag (ho μ90) rfl rfl<|ag (ho μ107) rfl rfl<|ag (ho μ109) rfl rfl ae
  have μ111:M 8 3968 0 [1,3,4,30,31,47] 2:=hi<|aa [(0,3969),(4,3984)] rfl (by kernel_rfl)<|ag (ho μ91) rfl rfl<|ag (ho μ101) rfl rfl ae
  have μ112:M 9 1920 0 [1,3,4,30,31,44,46] 1:=hi<|aa [(0,1921),(4,1936),(11,3968)] rfl (by kernel_rfl)<|ag (ho μ92) rfl rfl<|ag (ho μ102) rfl rfl<|bY rfl rfl (cK.to (σ:=[some (.row 3 1 pre.length (aN pre))]) (p':=.own 1) (σ'':=[none,some (.row 3 1 (pre++[a]).length (aN (pre++[a])))]) (aY (e:=3) (s:=1) (by':=8) (i:=0) (m:=1) (n:=pre.length) (xs:=aN pre) (ys:=[num a]) rfl (bE.rk.get rfl) rfl rfl rfl rfl ⟨by unfold maxLen;omega,by omega⟩) rfl (by rw[List.length_append,←cJ];rfl)) rfl (ho μ111) rfl rfl ae
  have μ113:M 10 896 0 [1,3,4,30,31,44,45] 1:=hi<|aa [(0,897),(4,912),(10,1920)] rfl (by kernel_rfl)<|ag (ho μ93) rfl rfl<|ag (ho μ103) rfl rfl<|bc rfl rfl (aM (xs:=[num a]) rfl (bE.sl.get rfl) ⟨Nat.le_of_ble_eq_true rfl,Nat.le_of_ble_eq_true rfl⟩ rfl rfl) rfl (ho μ112) rfl rfl ae
  have μ114:M 11 384 0 [1,3,4,5,30,31,44] 1:=hi<|aa [(0,385),(4,400),(9,896)] rfl (by kernel_rfl)<|ag (ho μ94) rfl rfl<|ag (ho μ104) rfl rfl<|ag (ho μ113) rfl rfl ae
  have μ115:M 10 1664 0 [1,3,4,30,31,43,46] 0:=hi<|aa [(0,1665),(4,1680),(8,1920)] rfl (by kernel_rfl)<|ag (ho μ95) rfl rfl<|ag (ho μ105) rfl rfl<|eF rfl rfl rfl rfl hic (ho μ112) rfl rfl ae
  have μ116:M 11 640 0 [1,3,4,30,31,43,45] 0:=hi<|aa [(0,641),(4,656),(8,896),(10,1664)] rfl (by kernel_rfl)<|ag (ho μ96) rfl rfl<|ag (ho μ106) rfl rfl<|eF rfl rfl rfl rfl hic (ho μ113) rfl rfl<|bc rfl rfl (aM (xs:=[num a]) rfl (bE.sl.get rfl) ⟨Nat.le_of_ble_eq_true rfl,Nat.le_of_ble_eq_true rfl⟩ rfl rfl) rfl (ho μ115) rfl rfl ae
  have μ117:M 12 128 0 [1,3,4,5,30,31,43] 0:=hi<|aa [(0,129),(4,144),(8,384),(9,640)] rfl (by kernel_rfl)<|ag (ho μ97) rfl rfl<|ag (ho μ107) rfl rfl<|eF rfl rfl rfl rfl hic (ho μ114) rfl rfl<|ag (ho μ116) rfl rfl ae
  have μ118:M 11 1536 0 [1,2,3,4,30,31,46] 0:=hi<|aa [(0,1537),(4,1552),(7,1664)] rfl (by kernel_rfl)<|ag (ho μ98) rfl rfl<|ag (ho μ108) rfl rfl<|ag (ho μ115) rfl rfl ae
  have μ119:M 12 512 0 [1,2,3,4,30,31,45] 0:=hi<|aa [(0,513),(4,528),(7,640),(10,1536)] rfl (by kernel_rfl)<|ag (ho μ99) rfl rfl<|ag (ho μ109) rfl rfl<|ag (ho μ116) rfl rfl<|bc rfl rfl (aM (xs:=[num a]) rfl (bE.sl.get rfl) ⟨Nat.le_of_ble_eq_true rfl,Nat.le_of_ble_eq_true rfl⟩ rfl rfl) rfl (ho μ118) rfl rfl ae
  have μ120:M 13 0 0 [1,2,3,4,5,30,31] 0:=hi<|aa [(0,1),(4,16),(7,128),(9,512)] rfl (by kernel_rfl)<|ag (ho μ100) rfl rfl<|ag (ho μ110) rfl rfl<|ag (ho μ117) rfl rfl<|ag (ho μ119) rfl rfl ae
  exact μ120
end PW
end Go.Proofs.YtnegbdpggideiaaGreatDoor
namespace Go.Proofs.YtnegbdpggideiaaGreatDoor
namespace PW
open Go.RowKit Go.Shelf cA Mem Net eS
attribute [local go_sem] Oper.semAt_some
theorem rX{w:World}{l:Nat}{r:Loop}{o:Obj}(hl:w.heap[l]? =some (.loop r)){a:Addr}{x:Value}(h:w.cell? a=some x):(w.putObj l o).cell? a=some x:=by
 have hne:a.block≠l:=fun e=>by
  unfold World.cell? at h
  rw[e,hl]at h
  simp at h
 rw[jx (World.putObj_heap_other hne)]
 exact h
theorem cz.loop{E:Env}{w:World}{l:Nat}{r:Loop}{o:Obj}(hl:w.heap[l]? =some (.loop r)){v:Value}{p:PV}(h:cz E w v p):cz E (w.putObj l o) v p:=by
 induction h with
 |any v=>exact .any v
 |raw v=>exact .raw v
 |b9=>exact .b9
 |empty a c h=>exact .empty a c h
 |slice b off n c cs xs h0 h1 h2 hb hM hc hl2 _ ih=>exact .slice b off n c cs xs h0 h1 h2 (by simpa using hb) hM (fun i x hx=>rX hl (hc i x hx)) hl2 ih
 |aV b o' off cs xs hb hM hc hl2 _ ih=>exact .aV b o' off cs xs (by simpa using hb) hM (fun i x hx=>rX hl (hc i x hx)) hl2 ih
 |agg cs xs hl2 _ ih=>exact .agg cs xs hl2 ih
 |tuple cs xs hl2 _ ih=>exact .tuple cs xs hl2 ih
 |func f cs xs hl2 _ ih=>exact .func f cs xs hl2 ih
 |ptr i off b hi h=>exact .ptr i off b hi h
 |own i hi v h hs=>exact .own i hi v h hs
def dT(e:Nat)(dJ:Int)(path:List Int):List PV:=[num e,num dJ,ax path]
theorem rf(e:Nat)(dJ:Int)(path:List Int):IsPure (.agg (dT e dJ path)):=by unfold dT;infer_instance
def GR(F0:Nat→Prop)(e:Nat)(dJ:Int)(path:List Int)(x:Value)(W:World):Prop:=cz (EF F0) W x (.agg (dT e dJ path))
theorem GR.calm(F0:Nat→Prop)(e:Nat)(dJ:Int)(path:List Int):eS.Calm (GR F0 e dJ path):=fun _ _ _ _ _ h hl=>cz.loop hl h
theorem zV{P:Program}{ops:Array Oper}{n i l:Nat}{o:Oper}{a:Act}{w:World}{Q:Exit→Act→World→Prop}{x y:Operand}{ats:Array TypeId}{R:Ending→World→Prop}(ho:ops[i]? =some o)(hg:o.guard=none)(hop:o.op= .call {callee:=.value x,args:= #[y],argTypes:=ats})
  (hx:a.eval x= .func (.yield l) #[] #[]) (hy:YieldAt Fence.wide (n - 1) P l #[a.eval y] w R) (hR:∀e w',R e w'→∃v,e= .returned v∧Q .normal (a.put o.dst v) w'):wpOpsIn Fence.wide n P ops Q [i] a w:=by
 obtain⟨fn,tmps,assign,body,h1,h2⟩:=hy
 rw[wpOpsIn_cons]
 unfold wpOpIn
 rw[ho]
 simp only
 rw[if_pos (by unfold Region.wanted;rw[hg])]
 refine⟨fun _ _=>trivial,?_⟩
 rw[show Fence.wide.round=none from rfl,Oper.semAt_none]
 have hr:(execOp a.eval o).run P w= .ok (.round l fn tmps assign body) w:=by
  simp[execOp,hop,resolve,hx,Deferred.ofValue,invoke,h1]
 rw[hr]
 refine⟨fun h=>by simp[Fence.wide]at h,h2.mono fun e w' he=>?_⟩
 obtain⟨v,rfl,hq⟩:=hR e w' he
 exact hq
section
variable {T:ai} {tb:Nat→dR} {p0:fh} {Φ:Nat→Nat→List bW→Prop}
set_option maxRecDepth 100000 in
set_option maxHeartbeats 4000000 in
theorem DS{n:Nat}{o:Out}{vs:List PV}{c:Int}{pre:List Int}(ha:o.aK=[])(hpl:pre.length≤1000)[hvs:aG vs]{xb pb:Value}{W₀:World}{F0:Nat→Prop}(hF:∀b,F0 b→b<W₀.heap.size)(gl:gI F0 W₀)(hX:cz (EF F0) W₀ xb (.aV [.aV (di n o vs c) 0] 0))(hP:cz (EF F0) W₀ pb (.aV [ax pre] 0)):
  xC Tryz.prog 165 #[xb,pb] (GR F0 n o.dJ pre) W₀:=by
 intro n' l W R hW hkeep hY
 have hargs:aU (EF F0) W (#[Value.func (.yield l) #[] #[]]++ #[xb,pb]).toList [.raw (.func (.yield l) #[] #[]),.aV [.aV (di n o vs c) 0] 0,.aV [ax pre] 0]:=
  aU.cons (.raw _) (aU.cons (hX.ext hW) (aU.cons (hP.ext hW) (aU.nil _ _)))
 have hF':∀b,F0 b→b<W.heap.size:=fun b hb=>Nat.lt_of_lt_of_le (hF b hb) hW.size
 have gl':gI F0 W:=gl.goes (E:=EF F0) (E':=EF F0) (.ext hW)
 refine callsIn_of_wp_marks Tryz.func165 rfl trivial ?_ rfl
 have hs0:=iA (N:=55) (Sat.start F0 W hF' gl') hargs (by simp)
 have hc0:nK W.heap.size 0 (EF F0) W (EF F0) W:=⟨rfl,cP.refl _ _,Below.refl _ _⟩
 refine wpIn_seq (piece (K:=fun s=>s=⟨[(1,.aV [.aV (di n o vs c) 0] 0),(2,.aV [ax pre] 0),(3,.aV [.raw (.func (.yield l) #[] #[])] 0)],[]⟩) hc0 hs0 ?_ ?_)
 ·skip
  refine ay (.a 1 rfl<|.k [1,2,3] rfl) ?_
  exact rfl
 rintro _ E1 a1 w1 rfl hs1 g1 b1
 refine wpIn_seq (wpIn_seq (piece (K:=fun s=>s=⟨[(1,.aV [.aV (di n o vs c) 0] 0),(2,.aV [ax pre] 0),(3,.aV [.raw (.func (.yield l) #[] #[])] 0),(12,flag true)],[]⟩) ⟨rfl,g1,b1⟩ hs1 ?_ ?_))
 ·skip
  refine ay (.a 5 rfl<|.v (yg rfl rfl rfl (decide_eq_true (by rw[ha];rfl))) rfl<|.k [1,2,3,12] rfl) ?_
  exact rfl
 rintro _ E2 a2 w2 rfl hs2 g2 b2
 refine wpIn_cond_true (dE (hs2.tmp 12 _ rfl)) ?_
 refine wpIn_seq ?_
 skip
 refine qT 12 20 [13,14,15,16,17,18,19,20,21,22,23,24] mixed (by kernel_rfl) (by kernel_rfl) (by kernel_rfl) rfl (hs2) (.a 4 rfl<|.v [16] (aL rfl (rfl)) rfl rfl<|.a 3 rfl<|.v [20] (aL rfl (rfl)) rfl rfl<|.a 1 rfl<|.v [22] (fm rfl (qC pre hpl)) rfl rfl<|.a 1 rfl<|.k [13,24] rfl) ?_
 intro a3 w3 hE3 hs3
 have hEW:Ext W w3:=Ext.trans b2 hE3
 have h24:=hs3.tmp 24 (.agg (dT n o.dJ pre)) rfl
 have hv:GR F0 n o.dJ pre (a3.eval (.tmp 24)) w3:=(rf n o.dJ pre).out _ F0 _ _ (fun b hb=>(hs3.sat.mm b).2 (.inl hb)) h24
 refine zV (x:=.tmp 13) (y:=.tmp 24) rfl rfl rfl (dE (hs3.tmp 13 _ rfl)) (hY _ _ w3 hEW hv) ?_
 rintro e w4 ⟨rfl,hr⟩
 refine⟨_,rfl,wpIn_ret ?_⟩
 show LeavesInM _ _ _ _ _ _ (a3.put (some 25) (.bool true)).defers _ _
 rw[show(a3.put (some 25) (.bool true)).defers=[] from hs3.jQ]
 exact⟨_,results_none rfl _ _ _,⟨_,rfl⟩,w3,w4,hEW,hr,Rest.refl _ _ _⟩
end
end PW
end Go.Proofs.YtnegbdpggideiaaGreatDoor
namespace Go.Proofs.YtnegbdpggideiaaGreatDoor
namespace PW
open Go.RowKit Go.Shelf cA Mem Net eS
attribute [local go_sem] Oper.semAt_some
theorem dQ.one{E:Env}{w:World}{ρ:Operand→Value}{k:Nat}{p:PV}{t:bZ}(h:cz E w (ρ (.tmp k)) p)(ht:dQ E w ρ t):dQ E w ρ ((k,p)::t):=ht.C7 h
theorem dQ.HY{E:Env}{w:World}{ρ:Operand→Value}:dQ E w ρ []:=fun k p h=>by cases h
theorem lC{a:Act}{k:Nat}{v:Value}(h:k<a.tmps.size):(a.put (some k) v).eval (.tmp k)=v:=by
 show(a.tmps.setIfInBounds k v).getD k undef=v
 simp[h]
theorem pJ{a:Act}{k j:Nat}{v:Value}(h:j≠k):(a.put (some k) v).eval (.tmp j)=a.eval (.tmp j):=by
 show(a.tmps.setIfInBounds k v).getD j undef=a.tmps.getD j undef
 simp[Array.getD_eq_getD_getElem?,Array.getElem?_setIfInBounds_ne (Ne.symm h)]
set_option maxRecDepth 100000 in
set_option maxHeartbeats 8000000 in
theorem En{n:Nat}{o:Out}{ys:List PV}{c:Int}{pre q:List Int}{a:Int}{e:Nat}{dJ:Int}(ha:o.aK=[a])(hpl:pre.length+1≤1000)[hv1:aG ys]{xb pb:Value}{W₀:World}{F0:Nat→Prop}(hF:∀b,F0 b→b<W₀.heap.size)(gl:gI F0 W₀)(hX:cz (EF F0) W₀ xb (.aV [.aV (di n o [.aV ys 0] c) 0] 0))(hP:cz (EF F0) W₀ pb (.aV [ax pre] 0))
  (hin:∀(xb' pb':Value) (W':World),(∀b,F0 b→b<W'.heap.size)→gI F0 W'→cz (EF F0) W' xb' (.aV [.aV ys 0] 0)→cz (EF F0) W' pb' (.aV [ax (pre++[a])] 0)→xC Tryz.prog 165 #[xb',pb'] (GR F0 e dJ ((pre++[a])++q)) W'):
  xC Tryz.prog 165 #[xb,pb] (GR F0 e dJ (pre++a::q)) W₀:=by
 intro n' l W R hW hkeep hY
 have hargs:aU (EF F0) W (#[Value.func (.yield l) #[] #[]]++ #[xb,pb]).toList [.raw (.func (.yield l) #[] #[]),.aV [.aV (di n o [.aV ys 0] c) 0] 0,.aV [ax pre] 0]:=
  aU.cons (.raw _) (aU.cons (hX.ext hW) (aU.cons (hP.ext hW) (aU.nil _ _)))
 have hF':∀b,F0 b→b<W.heap.size:=fun b hb=>Nat.lt_of_lt_of_le (hF b hb) hW.size
 have gl':gI F0 W:=gl.goes (E:=EF F0) (E':=EF F0) (.ext hW)
 refine callsIn_of_wp_marks Tryz.func165 rfl trivial ?_ rfl
 have hs0:=iA (N:=55) (Sat.start F0 W hF' gl') hargs (by simp)
 have hc0:nK W.heap.size 0 (EF F0) W (EF F0) W:=⟨rfl,cP.refl _ _,Below.refl _ _⟩
 refine wpIn_seq (piece (K:=fun s=>s=⟨[(1,.aV [.aV (di n o [.aV ys 0] c) 0] 0),(2,.aV [ax pre] 0),(3,.aV [.raw (.func (.yield l) #[] #[])] 0)],[]⟩) hc0 hs0 ?_ ?_)
 ·skip
  refine ay (.a 1 rfl<|.k [1,2,3] rfl) ?_
  exact rfl
 rintro _ E1 a1 w1 rfl hs1 g1 b1
 refine wpIn_seq (wpIn_seq (piece (K:=fun s=>s=⟨[(1,.aV [.aV (di n o [.aV ys 0] c) 0] 0),(2,.aV [ax pre] 0),(3,.aV [.raw (.func (.yield l) #[] #[])] 0),(12,flag false)],[]⟩) ⟨rfl,g1,b1⟩ hs1 ?_ ?_))
 ·skip
  refine ay (.a 5 rfl<|.v (yg rfl rfl rfl (decide_eq_false (by rw[ha];simp))) rfl<|.k [1,2,3,12] rfl) ?_
  exact rfl
 rintro _ E2 a2 w2 rfl hs2 g2 b2
 refine wpIn_cond_false (dE (hs2.tmp 12 _ rfl)) (wpIn_skip ?_)
 refine wpIn_seq (piece (K:=fun s=>s=⟨[(1,.aV [.aV (di n o [.aV ys 0] c) 0] 0),(2,.aV [ax pre] 0),(3,.aV [.raw (.func (.yield l) #[] #[])] 0),(29,ax o.aK),(30,num o.aK.length),(31,num 0)],[]⟩) ⟨rfl,g2,b2⟩ hs2 ?_ ?_)
 ·skip
  refine ay (.a 6 rfl<|.k [1,2,3,29,30,31] rfl) ?_
  exact rfl
 rintro _ E3 a3 w3 rfl hs3 g3 b3
 rw[ha]at hs3
 refine wpIn_block ?_
 refine wa (fun a' w'=>∃D W1 W2,a'.defers=[{target:=.collected D,args:= #[]}]∧a'.tmps.size=55∧a'.eval (.tmp 31)= .int .i64 1∧a'.eval (.tmp 30)= .int .i64 1∧w'.heap[D]? =some (.deferred (some []))∧Ext W W1∧R W1 W2∧eS.Rest W.heap.size W1.heap.size W2 w'∧W.heap.size≤D∧D<W1.heap.size) ?_ ?_
 ·
  refine wpIn_seq (piece (K:=fun s=>s=⟨[(1,.aV [.aV (di n o [.aV ys 0] c) 0] 0),(2,.aV [ax pre] 0),(3,.aV [.raw (.func (.yield l) #[] #[])] 0),(29,ax [a]),(30,num ([a]:List Int).length),(31,num 0),(32,flag true)],[]⟩) ⟨rfl,g3,b3⟩ hs3 ?_ ?_)
  ·skip
   refine ay (.a 1 rfl<|.k [1,2,3,29,30,31,32] rfl) ?_
   exact rfl
  rintro _ E4 a4 w4 rfl hs4 g4 b4
  refine wpIn_seq (wpIn_cond_true (dE (hs4.tmp 32 _ rfl)) (wpIn_skip ?_))
  refine wpIn_seq (wpIn_block ?_)
  refine wpIn_seq (piece (K:=fun s=>s=⟨[(1,.aV [.aV (di n o [.aV ys 0] c) 0] 0),(2,.aV [ax pre] 0),(3,.aV [.raw (.func (.yield l) #[] #[])] 0),(4,num 0),(5,num a),(30,num ([a]:List Int).length),(31,num 0)],[]⟩) ⟨rfl,g4,b4⟩ hs4 ?_ ?_)
  ·skip
   refine ay (.a 1 rfl<|.v (aI (0) rfl (by simp) (by simp)) rfl<|.v (aL rfl ((rfl:(aN [a])[0]? =some (num a)))) rfl<|.a 2 rfl<|.k [1,2,3,4,5,30,31] rfl) ?_
   exact rfl
  rintro _ E5 a5 w5 rfl hs5 g5 b5
  refine wpIn_seq (piece (L:=0) (K:=HD ys pre a l) ⟨rfl,g5,b5⟩ hs5 (DI ys pre a l n o c hpl) ?_)
  rintro⟨t6,σ6⟩ E6 a6 w6 ⟨hσ6,hsub6⟩ hs6 g6 b6
  simp only at hσ6 hsub6
  subst hσ6
  have ht6:=hs6.tmp.sub hsub6
  have hpl2:aG (aN (pre++[a])):=inferInstance
  have h48:=(aB.il (f:=165) (an.cons (aB.jc (i:=2) (k:=0) (blk:=.cells 147 [.aV ys 0]) (ys:=[.aV ys 0]) rfl (show an _ [.aV ys 0] [.aV ys 0] from an.pure))<|an.cons (aB.jc (i:=3) (k:=0) (blk:=.cells 37 [.own 1]) (ys:=[ax (pre++[a])]) rfl (an.cons (aB.ey (i:=1) rfl an.pure) an.nil)) an.nil)).rep hs6.sat (G:=F0) (fun b hb=>(hs6.sat.mm b).2 (.inl hb)) (fun b hb=>(hs6.sat.fb b hb).2) _ (ht6 48 _ rfl)
  have h3:cz (EF F0) w6 (a6.eval (.tmp 3)) (.aV [.raw (.func (.yield l) #[] #[])] 0):=(inferInstance:IsPure (.aV [.raw (.func (.yield l) #[] #[])] 0)).out _ F0 _ _ (fun b hb=>(hs6.sat.mm b).2 (.inl hb)) (ht6 3 _ rfl)
  have h30:a6.eval (.tmp 30)= .int .i64 1:=dE (ht6 30 _ rfl)
  have h31:a6.eval (.tmp 31)= .int .i64 0:=dE (ht6 31 _ rfl)
  have hd6:a6.defers=[]:=hs6.jQ
  have hz6:a6.tmps.size=55:=hs6.size
  have hE6:Ext W w6:=b6
  have hF6:∀b,F0 b→b<w6.heap.size:=fun b hb=>Nat.lt_of_lt_of_le (hF' b hb) hE6.size
  have gl6:gI F0 w6:=gl'.goes (E:=EF F0) (E':=EF F0) (.ext hE6)
  clear ht6 hs6 g6 b6 hsub6
  generalize hz48:a6.eval (.tmp 48)=z48 at h48
  cases h48 with
  |func _ cs _ hcl hcr=>
  obtain⟨cs⟩:=cs
  match cs,hcl,hcr with
  | [xb',pb'],_,hcr=>
  have hxb:=hcr 0 xb' _ rfl rfl
  have hpb:=hcr 1 pb' _ rfl rfl
  refine wpIn_block ?_
  refine kF hz48 (enters_of Tryz.func165 (by kernel_rfl) rfl) (GR.calm F0 e dJ ((pre++[a])++q)) (fun v A B h hE=>cz.ext hE h) (hin xb' pb' w6 hF6 gl6 hxb hpb) (Below.refl _ _) rfl (fun Wb W3=>∃Wc,Ext Wb Wc∧R Wc W3) ?_ ?_
  ·intro m l2 v W1 hl2 hloop hE1 hv
   obtain⟨rl,hrl⟩:=hloop
   obtain⟨arr6,ds6⟩:=a6
   simp only at hd6 hz6
   subst hd6
   have hF1:∀b,F0 b→b<W1.heap.size:=fun b hb=>Nat.lt_of_lt_of_le (hF6 b hb) hE1.size
   have gl1:gI F0 W1:=gl6.goes (E:=EF F0) (E':=EF F0) (.ext hE1)
   have hsA:dy F0 W1.heap.size 55 ⟨[(49,.agg (dT e dJ ((pre++[a])++q))),(3,.aV [.raw (.func (.yield l) #[] #[])] 0)],[]⟩ (EF F0) ((⟨arr6,[]⟩:Act).put (some 49) v) W1:=
    ⟨Sat.start F0 W1 hF1 gl1,dQ.put (dQ.one (h3.ext hE1) dQ.HY) hv (by simp[hz6]),rfl,by simp[Act.put,hz6]⟩
   rw[show({tmps:=(#[49].zip #[v]).foldl (fun t (p,v)=>t.setIfInBounds p v) arr6,defers:=[]}:Act)=(⟨arr6,[]⟩:Act).put (some 49) v from by simp[Act.put]]
   refine lA (m:=2) (K:=fun s=>s=⟨[(3,.aV [.raw (.func (.yield l) #[] #[])] 0),(6,.ptr 0 0)],[some (.cells 107 (dT e dJ ((pre++[a])++q)))]⟩) rfl rfl hsA rfl (by refine au 2 rfl ?_;refine aH [3,6] rfl ?_;rfl) ?_
   rintro _ Ea a7 Wa rfl hsB gB bB
   refine⟨bB,fun Wb hlb hEb hzb hoth hvb=>?_⟩
   have hla:Wa.heap[l2]? =some (.loop rl):=(bB.block _ (Array.getElem?_eq_some_iff.1 hrl).1).trans hrl
   have hpr:aG (dT e dJ ((pre++[a])++q)):=by unfold dT;infer_instance
   have r6:=((aB.jc (i:=0) (k:=0) (blk:=.cells 107 (dT e dJ ((pre++[a])++q))) (ys:=dT e dJ ((pre++[a])++q)) rfl (show an _ (dT e dJ ((pre++[a])++q)) (dT e dJ ((pre++[a])++q)) from an.pure)).rep hsB.sat (G:=F0) (fun b hb=>(hsB.sat.mm b).2 (.inl hb)) (fun b hb=>(hsB.sat.fb b hb).2) _ (hsB.tmp 6 _ rfl)).other hla hzb hoth
   have r3:=((inferInstance:IsPure (.aV [.raw (.func (.yield l) #[] #[])] 0)).out _ F0 _ _ (fun b hb=>(hsB.sat.mm b).2 (.inl hb)) (hsB.tmp 3 _ rfl)).other hla hzb hoth
   have hFb:∀b,F0 b→b<Wb.heap.size:=fun b hb=>Nat.lt_of_lt_of_le (hF6 b hb) hEb.size
   have glb:gI F0 Wb:=(gl1.goes (E:=EF F0) (E':=EF F0) (.ext (w':=Wa) bB)).other hla hoth
   have hsC:dy F0 Wb.heap.size 55 ⟨[(3,.aV [.raw (.func (.yield l) #[] #[])] 0),(6,.aV (dT e dJ ((pre++[a])++q)) 0)],[]⟩ (EF F0) a7 Wb:=
    ⟨Sat.start F0 Wb hFb glb,dQ.one r3 (dQ.one r6 dQ.HY),hsB.jQ,hsB.size⟩
   refine wpIn_block (wpIn_seq ?_)
   refine lA (m:=2) (K:=fun s=>s=⟨[(50,.raw (.func (.yield l) #[] #[])),(51,.agg (dT e dJ ((pre++[a])++q)))],[]⟩) rfl rfl hsC rfl (by refine au 2 rfl ?_;refine aH [50,51] rfl ?_;rfl) ?_
   rintro _ Ed a8 Wc rfl hsD gD bD
   have hEbc:Ext Wb Wc:=bD
   have hEWc:Ext W Wc:=(hE6.trans hEb).trans hEbc
   have h51:=(rf e dJ ((pre++[a])++q)).out _ F0 _ _ (fun b hb=>(hsD.sat.mm b).2 (.inl hb)) (hsD.tmp 51 _ rfl)
   rw[show(pre++[a])++q=pre++a::q by simp]at h51
   have hz8:a8.tmps.size=55:=hsD.size
   show wpOpsIn _ _ _ _ _ [2,3] a8 Wc
   refine AF (x:=.tmp 50) (y:=.tmp 51) rfl rfl rfl (dE (hsD.tmp 50 _ rfl)) (hY _ _ Wc hEWc h51) ?_
   rintro e4 W4 ⟨rfl,hr4⟩
   refine⟨_,rfl,?_⟩
   refine lE (.inr ⟨_,rfl⟩) rfl rfl (fun c e=>by cases e) (CD rfl (lC (by omega))) ?_
   refine wpIn_cond_false (lC (by simp[Act.put,hz8])) (wpIn_skip ?_)
   obtain⟨k1,k2⟩:=hkeep _ _ hr4
   have hs1:=hE6.size
   have hs2:=hEbc.size
   exact⟨⟨by omega,fun k h1 h2=>(k2 k (by omega) (by omega)).trans (hEbc.block k h2)⟩,Wc,hEbc,hr4⟩
  ·intro Wb W3 W' hEb hlt hle hrx hrest hD
   obtain⟨Wc,hEbc,hr⟩:=hrx
   have hs1:=hE6.size
   have hs2:=hEbc.size
   refine wpIn_region ?_
   refine lE (.inl rfl) rfl rfl (fun c e=>by cases e) (vy rfl (show Act.eval {a6 with defers:=_} (.tmp 31)=_ from h31) rfl (v:=.int .i64 1) (by simp[binOp,Op.intArith,jg (show In64 1 by unfold In64;omega)])) ?_
   refine lE (.inl rfl) rfl rfl (fun c e=>by cases e) (zr rfl) ?_
   refine⟨w6.heap.size,Wc,W3,by show _::a6.defers=_;rw[hd6],by show((a6.tmps.setIfInBounds 54 _).setIfInBounds 31 _).size=55;simp[hz6],?_,?_,hD,(hE6.trans hEb).trans hEbc,hr,hrest.wide hs1 hs2,hs1,by omega⟩
   ·refine(lC (k:=31) (by show 31<(a6.tmps.setIfInBounds 54 _).size;simp[hz6])).trans ?_
    exact lC (k:=54) (by show 54<a6.tmps.size;omega)
   ·refine(pJ (k:=31) (j:=30) (by decide)).trans ?_
    refine(pJ (k:=54) (j:=30) (by decide)).trans ?_
    exact h30
 ·rintro a' w' ⟨D,W1,W2,hd,hz,h31,h30,hD,hE,hR,hrest,hD1,hD2⟩
  refine wpIn_seq (wpIn_region ?_)
  refine lE (.inl rfl) rfl rfl (fun c e=>by cases e) (vy rfl h31 h30 (v:=.bool false) (by simp[binOp,Op.intCmp])) ?_
  have h32:(a'.put (some 32) (.bool false)).eval (.tmp 32)= .bool false:=by
   show(a'.tmps.setIfInBounds 32 _).getD 32 _=_
   simp[hz]
  refine wpIn_seq (wpIn_cond_false h32 (wpIn_exit ?_))
  show LeavesInM _ _ _ _ _ _ (a'.put (some 32) (.bool false)).defers _ _
  rw[show(a'.put (some 32) (.bool false)).defers=[{target:=.collected D,args:= #[]}] from hd]
  refine⟨by simp,.inl ⟨_,_,rfl,run_takeDeferred hD,?_⟩⟩
  exact⟨_,results_none rfl _ _ _,⟨_,rfl⟩,W1,W2,hE,hR,hrest.trans (Rest.put hD rfl hD1 hD2)⟩
end PW
end Go.Proofs.YtnegbdpggideiaaGreatDoor
namespace Go.Proofs.YtnegbdpggideiaaGreatDoor
namespace PW
open Go.RowKit Go.Shelf cA Mem Net eS
attribute [local go_sem] Oper.semAt_some
theorem xg{w:World}{a:Addr}{x:Value}(h:w.cell? a=some x):∃o,w.heap[a.block]? =some o∧o.isCells=true:=by
 unfold World.cell? at h
 cases ho:w.heap[a.block]? with
 |none=>rw[ho]at h;simp at h
 |some o=>exact⟨o,rfl,by rw[ho]at h;cases o<;>simp_all[Obj.isCells]⟩
theorem cz.cells{E:Env}{w w':World}(hz:w.heap.size≤w'.heap.size)(hc:∀(k:Nat) (o:Obj),w.heap[k]? =some o→o.isCells=true→w'.heap[k]? =some o){v:Value}{p:PV}(h:cz E w v p):cz E w' v p:=by
 have key:∀ {a:Addr} {x:Value},w.cell? a=some x→w'.cell? a=some x:=fun {a x} h=>by
  obtain⟨o,h1,h2⟩:=xg h
  rw[jx ((hc _ _ h1 h2).trans h1.symm)]
  exact h
 induction h with
 |any v=>exact .any v
 |raw v=>exact .raw v
 |b9=>exact .b9
 |empty a c h=>exact .empty a c h
 |slice b off n c cs xs h0 h1 h2 hb hM hcc hl2 _ ih=>exact .slice b off n c cs xs h0 h1 h2 (by omega) hM (fun i x hx=>key (hcc i x hx)) hl2 ih
 |aV b o' off cs xs hb hM hcc hl2 _ ih=>exact .aV b o' off cs xs (by omega) hM (fun i x hx=>key (hcc i x hx)) hl2 ih
 |agg cs xs hl2 _ ih=>exact .agg cs xs hl2 ih
 |tuple cs xs hl2 _ ih=>exact .tuple cs xs hl2 ih
 |func f cs xs hl2 _ ih=>exact .func f cs xs hl2 ih
 |ptr i off b hi h=>exact .ptr i off b hi h
 |own i hi v h hs=>exact .own i hi v h hs
set_option maxRecDepth 100000 in
set_option maxHeartbeats 8000000 in
theorem zj{xv pv:PV}[IsPure xv][IsPure pv]{e:Nat}{dJ:Int}{p:List Int}
    (hin:∀(F0:Nat→Prop) (xb pb:Value) (W':World),(∀b,F0 b→b<W'.heap.size)→gI F0 W'→cz (EF F0) W' xb xv→cz (EF F0) W' pb pv→xC Tryz.prog 165 #[xb,pb] (GR F0 e dJ p) W'):
    Can Tryz.prog 164 [.raw (.slice none 0 0),.func 165 [xv,pv]] (· = .slice 1 (dT e dJ p)):=by
  intro F0 w vs hF gl hR
  refine(callsIn_wide (n:=4)).1 ?_
  refine callsIn_of_wp_marks Tryz.func164 rfl trivial ?_ rfl
  have hs0:=iA (N:=13) (Sat.start F0 w hF gl) hR (by have:=hR.1;simp at this;omega)
  have hc0:nK w.heap.size 0 (EF F0) w (EF F0) w:=⟨rfl,cP.refl _ _,Below.refl _ _⟩
  refine wpIn_seq (piece (L:=0) (K:=fun s=>s=⟨[(1,.func 165 [xv,pv]),(2,.ptr 0 0)],[some (.cells 104 [.raw (.slice none 0 0)])]⟩) hc0 hs0 ?_ ?_)
  · skip
    refine ba<|ca (fw (xs:=[_]) rfl rfl rfl) rfl<|au 1 rfl<|aH [1,2] rfl ?_
    exact rfl
  rintro _ E1 a1 w1 rfl hs1 g1 b1
  refine wpIn_seq (wpIn_seq (piece (L:=0) (K:=fun s=>s=⟨[(2,.ptr 0 0),(6,.func 165 [xv,pv])],[some (.cells 104 [.raw (.slice none 0 0)])]⟩) ⟨rfl,g1,b1⟩ hs1 ?_ ?_))
  · skip
    refine ay (.a 1 rfl<|.k [2,6] rfl) ?_
    exact rfl
  rintro _ E2 a2 w2 rfl hs2 g2 b2
  have hE2:Ext w w2:=b2
  have hF2:∀b,F0 b→b<w2.heap.size:=fun b hb=>Nat.lt_of_lt_of_le (hF b hb) hE2.size
  have hM2:∀b,E2.M b→b<w2.heap.size:=fun b hb=>hs2.sat.lt hb
  obtain⟨B,cs0,hB,hBb,hBh,hBr⟩:=hs2.sat.blk 0 _ rfl
  have h6:=(inferInstance:IsPure (.func 165 [xv,pv])).out _ E2.M _ _ (fun b hb=>hb) (hs2.tmp 6 _ rfl)
  have h2:a2.eval (.tmp 2)= .pointer (some ⟨B,0,none⟩):=by
    have:=hs2.tmp 2 _ rfl
    generalize a2.eval (.tmp 2)=z at this
    cases this with
    |ptr _ _ b' _ h=>
      rcases h with h|⟨n',c',h⟩<;>rw[hB]at h<;>cases h
      rfl
  have hBl:B<w2.heap.size:=(Array.getElem?_eq_some_iff.1 hBh).1
  obtain⟨c0,rfl⟩:∃c0,cs0= #[c0]:=by
    obtain⟨cl⟩:=cs0
    match cl,hBr.1 with
    | [c0],_=>exact⟨c0,rfl⟩
  have hd2:=hs2.jQ
  have hz2:=hs2.size
  generalize hz48:a2.eval (.tmp 6)=z48 at h6
  cases h6 with
  |func _ cs _ hcl hcr=>
  obtain⟨cs⟩:=cs
  match cs,hcl,hcr with
  | [xb',pb'],_,hcr=>
  have hxb:=hcr 0 xb' _ rfl rfl
  have hpb:=hcr 1 pb' _ rfl rfl
  refine wpIn_block ?_
  refine kF hz48 (enters_of Tryz.func165 (by kernel_rfl) rfl) (GR.calm E2.M e dJ p) (fun v A B h hE=>cz.ext hE h) (hin E2.M xb' pb' w2 hM2 hs2.sat.gl hxb hpb) (Below.refl _ _) rfl (fun Wb W3=>∃c,W3.heap[B]? =some (.cells #[c] 104 (0,0))∧cz (EF F0) W3 c (.slice 1 (dT e dJ p))∧Below w.heap.size Wb W3) ?_ ?_
  · intro m l2 v W1 hl2 hloop hE1 hv
    obtain⟨rl,hrl⟩:=hloop
    have hpr:aG (dT e dJ p):=by unfold dT;infer_instance
    have hor:cq (dT e dJ p):=by unfold dT;infer_instance
    have h2t:=hs2.tmp.sub (t':=[(2,.ptr 0 0)]) (bh (ks:=[2]) rfl)
    obtain⟨arr2,ds2⟩:=a2
    simp only at hd2 hz2
    subst hd2
    have hvE:cz E2 W1 v (.agg (dT e dJ p)):=cz.back hv
    have hsA:dy F0 w.heap.size 13 ⟨[(7,.agg (dT e dJ p)),(2,.ptr 0 0)],[some (.cells 104 [.raw (.slice none 0 0)])]⟩ E2 ((⟨arr2,[]⟩:Act).put (some 7) v) W1:=
      ⟨hs2.sat.ext hE1,dQ.put (fun k q hk=>(h2t k q hk).ext hE1) hvE (by simp[hz2]),rfl,by simp[Act.put,hz2]⟩
    rw[show({tmps:=(#[7].zip #[v]).foldl (fun t (p,v)=>t.setIfInBounds p v) arr2,defers:=[]}:Act)=(⟨arr2,[]⟩:Act).put (some 7) v from by simp[Act.put]]
    refine lA (m:=2) (L:=E2.L) (K:=fun s=>s=⟨[(2,.ptr 0 0),(5,.aV (dT e dJ p) 0)],[some (.cells 104 [.raw (.slice none 0 0)]),none]⟩) rfl rfl hsA rfl (by
      refine au 2 rfl ?_
      refine GQ 1 (σ':=[some (.cells 104 [.raw (.slice none 0 0)]),none]) (t':=[(2,.ptr 0 0),(5,.aV (dT e dJ p) 0)]) (blk:=.cells 107 (dT e dJ p)) rfl ⟨rfl,rfl,fun j hj=>.inl (by match j,hj with|0,_=>rfl|1,h=>exact absurd rfl h|_+2,_=>rfl)⟩ (.cons 2 rfl (.same _)<|.cons 5 rfl (.ptr 0) .nil) ?_
      exact aO rfl) ?_
    rintro _ Ea a7 Wa rfl hsB gB bB
    have hEa:Ext W1 Wa:=by
      refine⟨bB.os,bB.tape,bB.output,bB.size,fun k hk=>?_⟩
      rcases Nat.lt_or_ge k w.heap.size with h|h
      · exact bB.block k h
      · by_cases hm:E2.M k
        · rcases (hsA.sat.mm k).1 hm with hf | ⟨i, blk, hi, hbk⟩
          · exact absurd (hF k hf) (by omega)
          · match i,hi with
            |0,hi=>
              cases hi
              rw[hB]at hbk
              cases hbk
              obtain⟨B1,c1,q1,_,q2,q3⟩:=hsA.sat.blk 0 _ rfl
              obtain⟨B2,c2,q4,_,q5,q6⟩:=hsB.sat.blk 0 _ rfl
              have e0:Ea.at_ 0=E2.at_ 0:=gB.at_ 0 (by rw[hsA.sat.len];simp)
              rw[hB]at q1
              rw[e0,hB]at q4
              cases q1
              cases q4
              rw[q2,q5]
              have:c1=c2:=by
                obtain⟨c1⟩:=c1
                obtain⟨c2⟩:=c2
                match c1,c2,q3,q6 with
                | [x1],[x2],q3,q6=>
                  have r1:=dE (q3.2 0 x1 _ rfl rfl)
                  have r2:=dE (q6.2 0 x2 _ rfl rfl)
                  rw[r1,r2]
              rw[this]
        · exact gB.heap k hk hm
    refine⟨hEa,fun Wb hlb hEb hzb hoth hvb=>?_⟩
    have hla:Wa.heap[l2]? =some (.loop rl):=(hEa.block _ (Array.getElem?_eq_some_iff.1 hrl).1).trans hrl
    have hsC:dy F0 w.heap.size 13 ⟨[(2,.ptr 0 0),(5,.aV (dT e dJ p) 0)],[some (.cells 104 [.raw (.slice none 0 0)]),none]⟩ Ea a7 Wb:=
      ⟨hsB.sat.other hla hzb hoth,hsB.tmp.other hla hzb hoth,hsB.jQ,hsB.size⟩
    refine wpIn_block ?_
    refine lA (m:=5) (L:=Ea.L) (K:=fun s=>s.σ=[some (.cells 104 [.own 3]),none,none,some (.row 107 3 1 (dT e dJ p))]) rfl rfl hsC rfl (by
      refine au 2 rfl ?_
      refine bz (aM (xs:=dT e dJ p) rfl (bE.sl.get rfl) ⟨Nat.le_of_ble_eq_true rfl,Nat.le_of_ble_eq_true rfl⟩ rfl rfl) rfl ?_
      refine CP 8 107 3 rfl ?_
      refine ca (aY (e:=107) (s:=3) (by':=40) (i:=2) (m:=1) (n:=0) (xs:=[]) (ys:=dT e dJ p) rfl (bE.rk.get rfl) rfl rfl rfl rfl ⟨by unfold maxLen;omega,by omega⟩) rfl ?_
      refine br (cH rfl (bE.tk.get rfl) rfl rfl rfl (Nat.le_of_ble_eq_true rfl)) rfl rfl ?_
      exact aO rfl) ?_
    rintro⟨t8,σ8⟩ E8 a8 W3 hσ8 hs8 g8 b8
    simp only at hσ8
    subst hσ8
    have e0:E8.at_ 0= .pointer (some ⟨B,0,none⟩):=by
      rw[g8.at_ 0 (by rw[hsC.sat.len];simp),gB.at_ 0 (by rw[hsA.sat.len];simp),hB]
    obtain⟨B',cs8,q1,_,q2,q3⟩:=hs8.sat.blk 0 _ rfl
    rw[e0]at q1
    cases q1
    obtain⟨cl8⟩:=cs8
    match cl8,q3 with
    | [c8],q3=>
    have hown:=q3.2 0 c8 _ rfl rfl
    have hrep:cz (EF F0) W3 c8 (.slice 1 (dT e dJ p)):=(aB.ey (i:=3) rfl (show an _ (dT e dJ p) (dT e dJ p) from an.pure)).rep hs8.sat (G:=F0) (fun b hb=>(hs8.sat.mm b).2 (.inl hb)) (fun b hb=>(hs8.sat.fb b hb).2) _ hown
    refine⟨⟨b8.size,fun k h1 h2=>g8.heap k h2 (fun hm=>?_)⟩,c8,q2,hrep,b8⟩
    rcases(hsC.sat.mm k).1 hm with hf|⟨i,blk,hi,hbk⟩
    · exact absurd (hF2 k hf) (by omega)
    · match i,hi with
      |0,hi=>
        rw[gB.at_ 0 (by rw[hsA.sat.len];simp),hB]at hbk
        cases hbk
        exact absurd (show w2.heap.size≤B from h1) (by omega)
      |1,hi=>cases hi
  · intro Wb W3 W' hEb hlt hle hrx hrest hD
    obtain⟨c,hc1,hc2,hc3⟩:=hrx
    have hcW:W'.heap[B]? =some (.cells #[c] 104 (0,0)):=hrest.cells _ _ hc1 rfl
    have hcell:W'.cell? ⟨B,0,none⟩=some c:=by simp[World.cell?,hcW]
    have hz2':a2.tmps.size=13:=hz2
    refine wpIn_seq (wpIn_region ?_)
    refine lE (.inl rfl) rfl rfl (fun c e=>by cases e) (AW rfl (bE.tk.get rfl) (show Act.eval {a2 with defers:=_} (.tmp 2)=_ from h2) hcell) ?_
    refine lE (.inl rfl) rfl rfl (fun c e=>by cases e) (uD rfl) ?_
    refine wpIn_ret ?_
    show LeavesInM _ _ _ _ _ _ (_::a2.defers) _ _
    rw[hd2]
    refine⟨by simp,.inl ⟨_,_,rfl,run_takeDeferred hD,?_⟩⟩
    refine⟨c,?_,c,rfl,?_,_,rfl,?_⟩
    · refine(results_tmp rfl _ _ _).trans ?_
      congr 1
      refine(lC (k:=4) (a:=Act.put {a2 with defers:=_} (some 12) c) (v:=_) (by show 4<(a2.tmps.setIfInBounds 12 c).size;simp[hz2'])).trans ?_
      exact lC (k:=12) (a:= {a2 with defers:=_}) (by show 12<a2.tmps.size;omega)
    · have h1:=hEb
      have hs1:=hE2.size
      refine⟨hrest.os.trans (hc3.os.trans (hEb.os.trans hE2.os)),hrest.tape.trans (hc3.tape.trans (hEb.tape.trans hE2.tape)),hrest.output.trans (hc3.output.trans (hEb.output.trans hE2.output)),?_,fun k hk=>?_⟩
      · have:=hrest.size;simp only[World.putObj_size];omega
      · rw[World.putObj_heap_other (by omega),hrest.block k (by omega) (.inl (by omega)),hc3.block k hk,hEb.block k (by omega),hE2.block k hk]
    · have hr1:=cz.cells hrest.size hrest.cells hc2
      have hrp:eS.Rest 0 (w2.heap.size+1) W' (W'.putObj w2.heap.size (.deferred none)):=Rest.put hD rfl (Nat.zero_le _) (Nat.lt_succ_self _)
      exact cz.cells hrp.size hrp.cells hr1
theorem vN{xv pv:PV}[IsPure xv][IsPure pv]{e:Nat}{dJ:Int}{p:List Int}
  (hin:∀(F0:Nat→Prop) (xb pb:Value) (W':World),(∀b,F0 b→b<W'.heap.size)→gI F0 W'→cz (EF F0) W' xb xv→cz (EF F0) W' pb pv→xC Tryz.prog 165 #[xb,pb] (GR F0 e dJ p) W'):
  Can Tryz.prog 127 [.func 165 [xv,pv]] (· = .slice 1 (dT e dJ p)):=by
 refine aF Tryz.func127 rfl Tryz.ntmps127 rfl ?_
 haveI:aG (dT e dJ p):=by unfold dT;infer_instance
 exact ab (.a 1 rfl<|.k [0] rfl)<|ab (.a 1 rfl<|.c rfl (zj hin) rfl<|.a 1 rfl<|.k [2] rfl)<|aq<|⟨_,_,aA.of rfl,aB.pure,rfl⟩
theorem qU(ys:List PV)[aG ys]:Can Tryz.prog 128 [.aV ys 0,.raw (.slice none 0 0)] (· = .func 165 [.aV [.aV ys 0] 0,.aV [ax []] 0]):=by
 refine aF Tryz.func128 rfl Tryz.ntmps128 rfl<|aQ<|ca (fw (xs:=[_]) rfl rfl rfl) rfl<|ca (fw (xs:=[_]) rfl rfl rfl) rfl<|au 1 rfl<|aH [2,3] rfl ?_
 exact ab (.a 2 rfl<|.k [4] rfl)<|aq<|⟨_,_,aA.of rfl,aB.il (an.cons (aB.jc (i:=0) (ys:=[.aV ys 0]) rfl (show an _ [.aV ys 0] [.aV ys 0] from an.pure))<|an.cons (aB.jc (i:=1) rfl (an.cons aB.b9 an.nil)) an.nil),rfl⟩
section
variable {T:ai} {tb:Nat→dR} {p0:fh} {Φ:Nat→Nat→List bW→Prop}
theorem Good.FZ{v:PV}{n:Nat}{s:List bW}{c:Int}(h:Good T tb p0 Φ v n s c):∃ys,v= .aV ys 0∧aG ys:=by
 obtain⟨vs,cs,e1,e2,e3,e4,e5⟩:=h.parts
 haveI:aG vs:=⟨fun i x hx=>by
  have hlt:=(List.getElem?_eq_some_iff.1 hx).1
  have:=(e5 i (by rw[←e2];exact hlt)).pure
  rw[List.getD_eq_getElem?_getD,hx]at this
  exact this⟩
 exact⟨_,e1,by unfold di;infer_instance⟩
theorem Ei(hL:Lone T tb p0 Φ):∀(u n:Nat) (s:List bW) (v:PV) (c:Int),Φ u n s→Good T tb p0 Φ v n s c→∃(p:List Int) (e:Nat) (dJ:Int),Br T tb p0 n s p e dJ∧dJ= -1∧p.length≤u∧c=1∧
  ∀pre:List Int,pre.length+u≤1000→∀(F0:Nat→Prop) (xb pb:Value) (W₀:World),(∀b,F0 b→b<W₀.heap.size)→gI F0 W₀→cz (EF F0) W₀ xb (.aV [v] 0)→cz (EF F0) W₀ pb (.aV [ax pre] 0)→xC Tryz.prog 165 #[xb,pb] (GR F0 e dJ (pre++p)) W₀:=by
 intro u
 induction u using Nat.strongRecOn with
 |_ u ih=>
 intro n s v c hΦ hg
 obtain⟨vs,cs,rfl,e2,e3,e4,e5⟩:=hg.parts
 have hone:=hL.one hΦ
 cases ha:(cb T tb p0 n s).aK with
 |nil=>
  have hvs:vs=[]:=List.eq_nil_of_length_eq_zero (by rw[e2,ha];rfl)
  subst hvs
  have hc:c=1:=by rw[e4,ha];rfl
  refine⟨[],n,(cb T tb p0 n s).dJ,.stop ha,hL.del hΦ ha,Nat.zero_le _,hc,fun pre hpl F0 xb pb W₀ hF gl hX hP=>?_⟩
  rw[List.append_nil]
  exact DS ha (by omega) hF gl hX hP
 |cons a l=>
  have hl:l=[]:=by
   rw[ha]at hone
   exact List.eq_nil_of_length_eq_zero (by simp only[List.length_cons]at hone;omega)
  subst hl
  have hmem:a∈(cb T tb p0 n s).aK:=by rw[ha];exact List.mem_singleton.2 rfl
  have hstep:∃b m:Nat,a=(b:Int)∧b<2*T.af.length∧aS T b=(m:Int)∧∃u',u'<u∧Φ u' m (cb T tb p0 n s).eY.stack:=by
   rcases hL.runs.step hΦ with h|⟨_,_,h⟩
   ·rw[ha]at h;cases h
   ·exact h a hmem
  obtain⟨b,m,hab,hb,hm,u',hu,hΦ'⟩:=hstep
  have h0:=e5 0 (by rw[ha];exact Nat.one_pos)
  rw[ha,List.getD_cons_zero,hab,Int.toNat_natCast,hm,Int.toNat_natCast]at h0
  match vs,cs,e2,e3,e4,h0 with
  | [],_,e2,_,_,_=>rw[ha]at e2;cases e2
  |_::_::_,_,e2,_,_,_=>rw[ha]at e2;simp at e2
  | [v1],[],_,e3,_,_=>rw[ha]at e3;cases e3
  | [v1],_::_::_,_,e3,_,_=>rw[ha]at e3;simp at e3
  | [v1],[c1],_,_,e4,h0=>
  rw[List.getD_cons_zero,List.getD_cons_zero]at h0
  obtain⟨ys,rfl,hys⟩:=h0.FZ
  obtain⟨q,e,dJ,i1,i2,i3,i4,i5⟩:=ih u' hu m _ _ _ hΦ' h0
  have hc:c=1:=by rw[e4,ha,i4];rfl
  refine⟨a::q,e,dJ,.go hmem (by rw[hab,Int.toNat_natCast];exact hm) i1,i2,by simp only[List.length_cons];omega,hc,fun pre hpl F0 xb pb W₀ hF gl hX hP=>?_⟩
  exact En ha (by omega) hF gl hX hP (fun xb' pb' W' hF' gl' hx hp=>i5 (pre++[a]) (by simp only[List.length_append,List.length_singleton];omega) F0 xb' pb' W' hF' gl' hx hp)
set_option maxHeartbeats 4000000 in
theorem Ba(hL:Lone T tb p0 Φ)(hv:ao T=true)(h12:T.nodes≤12){U:List (Nat×List bW)}(hU:∀ {u n s},Φ u n s→(n,s)∈U)(hUl:U.length≤1000000)(tbs:List dR)(htl:(tbs.length:Int)=T.nodes)(htb:∀n:Nat,(n:Int)<T.nodes→tbs[n]? =some (tb n))
  (hok:∀n:Nat,(n:Int)<T.nodes→(tb n).node=(n:Int)∧ef T (tb n)=true) {u n:Nat} {p:fh} (hΦ:Φ u n p.stack) (hu:u≤1000) (hp:ev p p.stack=ev p0 p.stack):
  Can Tryz.prog 77 [aP T,fR tbs,eJ p,num n] (fun r=>∃q e,Br T tb p0 n p.stack q e (-1)∧q.length≤u∧r= .tuple [.slice 1 (dT e (-1) q),num 0]):=by
 refine aF Tryz.func77 rfl Tryz.ntmps77 rfl<|ab (.a 4 rfl<|.k [1,3,4,6] rfl)<|aQ<|au 4 rfl<|cM rfl rfl (bS.mono (bS.F4 (wX hL.runs hv h12 hU hUl tbs htl htb hok hΦ hp)) (fun y σ' h=>?_))
 obtain⟨⟨v,c,L,rfl,hg,hLl,hall⟩,rfl⟩:=h
 refine au 7 rfl<|aH [10,12] rfl ?_
 obtain⟨q,e,dJ,hbr,rfl,hql,hc1,honce⟩:=Ei hL u n p.stack v c hΦ hg
 obtain⟨ys,hys,hyp⟩:=hg.FZ
 obtain⟨vs,cs,hvs,_,_,_,_⟩:=hg.parts
 have hon:=honce [] (by simp;omega)
 rw[List.nil_append]at hon
 subst hc1
 have hcol:Can Tryz.prog 127 [.func 165 [.aV [v] 0,.aV [ax []] 0]] (· = .slice 1 (dT e (-1) q)):=by
  haveI:=hg.pure
  exact vN hon
 subst hvs
 cases hys
 refine aj<|ab (.a 2 rfl<|.k [10,12,23] rfl)<|ah rfl (fun hc=>?_) (fun hc=>?_)
 ·cases hc
 ·refine ak<|aj<|ab (.a 3 rfl<|.v (aL rfl (rfl)) rfl<|.a 1 rfl<|.k [10,29] rfl)<|ah rfl (fun hc=>?_) (fun hc=>?_)
  ·cases hc
  ·refine ak<|ab (.a 1 rfl<|.c rfl (qU _) rfl<|.c rfl (hcol) rfl<|.a 2 rfl<|.k [8,9] rfl)<|aq ?_
   haveI:aG (dT e (-1) q):=by unfold dT;infer_instance
   exact⟨_,_,aA.of rfl,aB.pure (p:=.tuple [.slice 1 (dT e (-1) q),num 0]),q,e,hbr,hql,rfl⟩
end
end PW
end Go.Proofs.YtnegbdpggideiaaGreatDoor
namespace Go.Proofs.YtnegbdpggideiaaGreatDoor
namespace PW
open Go.RowKit cA Mem Net eS
section
variable {T:ai} {tb tb':Nat→dR} {p0:fh} {Φ:Nat→Nat→List bW→Prop}
theorem mA(h:∀u n s,Φ u n s→tb' n=tb n){u n:Nat}{s:List bW}(hΦ:Φ u n s):cb T tb' p0 n s=cb T tb p0 n s:=by unfold cb;rw[h u n s hΦ]
theorem iL.congr(h:∀u n s,Φ u n s→tb' n=tb n)(R:iL T tb p0 Φ):iL T tb' p0 Φ where
 node:=R.node
 small:=R.small
 step:=fun hΦ=>by
  rw[mA h hΦ]
  exact R.step hΦ
theorem Lone.congr(h:∀u n s,Φ u n s→tb' n=tb n)(R:Lone T tb p0 Φ):Lone T tb' p0 Φ where
 runs:=R.runs.congr h
 one:=fun hΦ=>by
  rw[mA h hΦ]
  exact R.one hΦ
 del:=fun hΦ ha=>by
  rw[mA h hΦ]at ha ⊢
  exact R.del hΦ ha
theorem Br.congr(h:∀u n s,Φ u n s→tb' n=tb n)(R:iL T tb p0 Φ){n e:Nat}{s:List bW}{q:List Int}{w:Int}(hb:Br T tb' p0 n s q e w):∀ {u},Φ u n s→Br T tb p0 n s q e w:=by
 induction hb with
 | @stop n s h0=>
  intro u hΦ
  rw[h _ _ _ hΦ]at h0 ⊢
  exact .stop h0
 | @go n m e s a p w ha hm hr ih=>
  intro u hΦ
  rw[h _ _ _ hΦ]at ha hr ih
  rcases R.step hΦ with h1|⟨_,_,h3⟩
  ·have h1':(fX T (tb n) (ev p0 s)).aK=[]:=h1
   rw[h1']at ha
   cases ha
  ·obtain⟨b,m',rfl,_,g3,u',_,g5⟩:=h3 a ha
   have:m'=m:=by rw[Int.toNat_natCast]at hm;omega
   subst this
   exact .go ha hm (ih g5)
end
noncomputable def FR(T:ai)(k x:Int)(l:List Int)(n:Nat):dR:=FP T k x n (jh l n)
theorem Dq{T:ai}{k x:Int}{l:List Int}{n:Nat}(h:¬Gn k x n):FR T k x l n=tU T (aT T k x) (fun n=>jh l n) n:=by
 unfold FR FP tU
 rw[if_neg (by rw[Ho.2 h];decide)]
theorem wS{T:ai}(hv:ao T=true){n:Nat}(hn:(n:Int)<T.nodes):ef T (yr T n)=true:=by
 unfold ef yr
 have h1:bu T (n:Int)=true:=aW.2 ⟨by omega,hn⟩
 have hN:=(aJ hv).nodes
 have h2:decide (((List.replicate T.nodes.toNat (⟨[],false,[]⟩:iw)).length:Int)=T.nodes)=true:=decide_eq_true (by rw[List.length_replicate];omega)
 have h3:eI T n (bm T n)=true:=qe (kL T n) fun _ ha=>iY.1 ha
 have h4:mv T n (List.replicate T.nodes.toNat (⟨[],false,[]⟩:iw))=true:=iM fun d e he=>by
  have:e=⟨[],false,[]⟩:=(List.mem_replicate.1 (List.mem_of_getElem? he)).2
  subst this
  unfold iO eI
  simp
 rw[hv,h1,h2,h3,h4]
 rfl
theorem Hd{T:ai}{k x:Int}{l:List Int}(hv:ao T=true)(h12:T.nodes≤12):∀n:Nat,(n:Int)<T.nodes→(FR T k x l n).node=(n:Int)∧ef T (FR T k x l n)=true:=fun n hn=>by
 unfold FR FP
 split
 ·exact⟨rfl,wS hv hn⟩
 ·have ht:=pr (D:=aT T k x) (M:=aT T k x) hv h12 hn (fK T k x) (fun a h=>h) (jh l n)
  exact⟨ht.node,ht.ok⟩
theorem D4{T:ai}{k x:Int}{l:List Int}{m n:Nat}(h:n<m):(qW T k x l m)[n]? =some (FR T k x l n):=by
 unfold qW FR
 rw[List.getElem?_map,List.getElem?_range h]
 rfl
section
variable {T:ai} {k x:Int} {l:List Int} {s d:Nat} {Φ:Nat→Nat→List bW→Prop}
end
end PW
end Go.Proofs.YtnegbdpggideiaaGreatDoor
namespace Go.Proofs.YtnegbdpggideiaaGreatDoor
namespace PW
open Go.RowKit cA Mem Net eS
theorem Can.mono{P:Program}{f:FuncId}{ps:List PV}{R R':PV→Prop}(h:Can P f ps R)(hr:∀r,R r→R' r):Can P f ps R':=fun F w vs h1 h2 h3=>(h F w vs h1 h2 h3).mono fun _ _ ⟨v,he,hx,r,hR,hv⟩=>⟨v,he,hx,r,hr r hR,hv⟩
section
variable {T:ai} {tb:Nat→dR} {p0:fh}
end
end PW
end Go.Proofs.YtnegbdpggideiaaGreatDoor
namespace Go.Proofs.YtnegbdpggideiaaGreatDoor
namespace PW
open Go.RowKit cA Mem Net eS
section
variable {T:ai} {k x:Int} {d:Nat} {st:Nat→Int} {p0:fh}
noncomputable def G1(T:ai)(tb:Nat→dR)(p0:fh)(n:Nat)(s:List bW):Nat→Nat×List bW
 |0=>(n,s)
 |j+1=>((aS T ((cb T tb p0 (G1 T tb p0 n s j).1 (G1 T tb p0 n s j).2).aK.getD 0 0).toNat).toNat,(cb T tb p0 (G1 T tb p0 n s j).1 (G1 T tb p0 n s j).2).eY.stack)
def GC(T:ai)(k x:Int)(d:Nat)(st:Nat→Int)(p0:fh)(n0:Nat)(s0:List bW)(tot u n:Nat)(s:List bW):Prop:=
 ∃(q:List Int) (j:Nat),gm T k x d n s q∧u=q.length∧j+q.length=tot∧G1 T (tU T (aT T k x) st) p0 n0 s0 j=(n,s)
theorem zq(hv:ao T=true)(h12:T.nodes≤12)(h16:T.af.length≤16)(hd:(d:Int)<T.nodes)(hp0:p0.dst=(d:Int)){n0 tot:Nat}{s0:List bW}:iL T (tU T (aT T k x) st) p0 (GC T k x d st p0 n0 s0 tot) where
 node:=fun⟨q,_,h,hu,_⟩=>(lj hv h12 h16 hd hp0 (st:=st)).node ⟨q,h,hu⟩
 small:=fun⟨q,_,h,hu,_⟩=>(lj hv h12 h16 hd hp0 (st:=st)).small ⟨q,h,hu⟩
 step:=fun {u n s} ⟨q,j,h1,h2,h6,h7⟩=>by
  cases q with
  |nil=>
   obtain⟨_,e2,_⟩:=gu hv h12 hd h1 (st n) (p:=ev p0 s) hp0 rfl
   exact .inl e2
  |cons c q=>
   obtain⟨b,m',s',g,e1,e2⟩:=fI hv h12 hd h1 (st n) (p:=ev p0 s) hp0 rfl rfl
   have e1':cb T (tU T (aT T k x) st) p0 n s=eA (ev p0 s) s' [c]:=e1
   refine .inr ⟨rH _ _ _,by rw[e1'];rfl,fun c' hc=>?_⟩
   rw[e1']at hc
   have hc:c'∈[c]:=hc
   rw[List.mem_singleton]at hc
   subst hc
   simp only[List.length_cons]at h2 h6
   refine⟨b,m',g.eq,g.gH,g.head,q.length,by omega,q,j+1,by rw[e1'];exact e2,rfl,by omega,?_⟩
   simp only[G1]
   rw[h7,e1']
   simp only[eA,List.getD_cons_zero]
   rw[g.eq,Int.toNat_natCast,g.head,Int.toNat_natCast]
theorem ug{n:Nat}{q:List Int}(hF:mI T (aT T k x) n q)(hn:(n:Int)<T.nodes)(hg:¬Gn k x n)(hend:b7 T n q=(d:Int))(hq:q.length≤32):gm T k x d n (eD T [] n q) q:=by
 have h:=tg hF hend q.length 0 n (by omega) (by omega) rfl
 refine⟨⟨aT T k x,fun _ h=>h,?_⟩,hn,hg,Nat.le_trans (tm _ _) hq⟩
 have e:fq ⟨1,(n:Int)⟩ (eD T [] n q)=eD T [] n q:=h.skip
 rw[e]
 exact h
end
theorem wM{T:ai}{k x:Int}{S:List Int}{n d:Nat}{q:List Int}(hv:ao T=true)(h12:T.nodes≤12)(h16:T.af.length≤16)(hS:(S.length:Int)=T.nodes)(hF:mI T (aT T k x) n q)(hn:(n:Int)<T.nodes)(hg:¬Gn k x n)(hend:b7 T n q=(d:Int))(hd:(d:Int)<T.nodes)(hq:q.length≤32):
  Can Tryz.prog 77 [aP T,fR (qW T k x S S.length),eJ ⟨0,n,d,0,eD T [] n q,0⟩,num n] (· = .tuple [.slice 1 (dT d (-1) q),num 0]):=by
 have hL0:=ug hF hn hg hend hq
 have hp0:(⟨0,(n:Int),(d:Int),0,eD T [] n q,0⟩:fh).dst=(d:Int):=rfl
 obtain⟨p0,hpe⟩:∃p:fh,(⟨0,(n:Int),(d:Int),0,eD T [] n q,0⟩:fh)=p:=⟨_,rfl⟩
 rw[hpe]at hp0
 have hlo:=(uv (k:=k) (x:=x) (st:=jh S) hv h12 h16 hd hp0).inter (zq (k:=k) (x:=x) (st:=jh S) hv h12 h16 hd hp0 (n0:=n) (s0:=eD T [] n q) (tot:=q.length))
 have hc:∀u m s',((∃q,gm T k x d m s' q∧u=q.length)∧∃v,GC T k x d (jh S) p0 n (eD T [] n q) q.length v m s')→FR T k x S m=tU T (aT T k x) (jh S) m:=fun u m s' ⟨⟨_,h,_⟩,_⟩=>Dq h.here
 have hlx:=Lone.congr hc hlo
 have htl:((qW T k x S S.length).length:Int)=T.nodes:=by rw[s7];exact hS
 have htb:∀m:Nat,(m:Int)<T.nodes→(qW T k x S S.length)[m]? =some (FR T k x S m):=fun m hm=>D4 (by omega)
 have hst:p0.stack=eD T [] n q:=by rw[←hpe]
 have hΦ:(∃q',gm T k x d n p0.stack q'∧q.length=q'.length)∧∃v,GC T k x d (jh S) p0 n (eD T [] n q) q.length v n p0.stack:=by
  rw[hst]
  exact⟨⟨q,hL0,rfl⟩,q.length,q,0,hL0,rfl,by omega,rfl⟩
 have hal:=Ba hlx hv h12 (U:=(List.range (q.length+1)).map (G1 T (tU T (aT T k x) (jh S)) p0 n (eD T [] n q))) (fun {u m s} ⟨_,v,q',j,_,_,hj,hch⟩=>List.mem_map.2 ⟨j,List.mem_range.2 (by omega),hch⟩) (by rw[List.length_map,List.length_range];omega) (qW T k x S S.length) htl htb (Hd hv h12) (p:=p0) hΦ (by omega) rfl
 rw[hpe]
 refine Can.mono hal fun r ⟨q1,e1,hbr,_,hr⟩=>?_
 have hb:=Br.congr hc hlo.runs hbr hΦ
 rw[hst]at hb
 obtain⟨i1,i2,_⟩:=zD hv h12 hd hp0 hb hL0
 rw[i1,i2]at hr
 exact hr
end PW
end Go.Proofs.YtnegbdpggideiaaGreatDoor
namespace Go.Proofs.YtnegbdpggideiaaGreatDoor
namespace PW
open Go.RowKit cA Mem Net eS
theorem pG{T:ai}:∀(n:Int) (q:List Int),0<q.length→b7 T n q=aS T (q.getD (q.length - 1) 0).toNat
 |n,[],h=>by simp at h
 |n,[a],_=>rfl
 |n,a::b::l,_=>by
  show b7 T (aS T a.toNat) (b::l)=_
  rw[pG _ (b::l) (by simp)]
  simp
theorem vY(T:ai)(tbs:List dR)(l:List bW)(n d:Nat)(q:List Int)(hv:ao T=true)(hq:q.length≤1000)(harc:∀a∈q,eR T a=true)(hend:b7 T n q=(d:Int))
  (hall:Can Tryz.prog 77 [aP T,fR tbs,eJ ⟨0,n,d,0,l,0⟩,num n] (· = .tuple [.slice 1 (dT d (-1) q),num 0])):
  Can Tryz.prog 22 [aP T,fR tbs,cn l,num n,ax q] (· =flag true):=by
 refine aF Tryz.func22 rfl Tryz.ntmps22 rfl<|ab (.a 2 rfl<|.k [1,2,3,4,5] rfl)<|ab (.a 2 rfl<|.k [1,2,3,4,5,11] rfl)<|aj<|ab (.a 3 rfl<|.k [1,2,3,4,5,11,17] rfl)<|ah rfl (fun h1=>?_) (fun h1=>?_)
 ·have hql:0<q.length:=by have:=tt h1;omega
  have hel:=pG (T:=T) (n:Int) q hql
  have ha:=harc _ (bU (d:=0) (show q.length - 1<q.length by omega))
  obtain⟨b,hb⟩:=Int.eq_ofNat_of_zero_le (cI.1 ha).1
  have hbl:b<2*T.af.length:=by have:=(cI.1 ha).2;omega
  have hhd:=qF T hv b hbl
  rw[hb,Int.toNat_natCast,hend]at hel
  rw[←hel]at hhd
  refine G0 mixed (by kernel_rfl) (.v [5] (ed rfl (rfl) rfl) rfl rfl<|.a 3 rfl<|.v [21] (aR rfl (hc:=(show((q.length:Nat):Int) - 1=((q.length - 1:Nat):Int) by omega))) rfl rfl<|.v [19,22] (aI ((q.length - 1)) rfl) rfl rfl<|.v [23] (aL rfl ((aD q (q.length - 1) (by omega)).trans (by rw[hb]))) rfl rfl<|.v [18,24] (fm rfl (hhd)) rfl rfl<|.a 1 rfl<|.k [1,2,3,4,5,11] rfl) ?_
  refine ab (.v (ed rfl (rfl) rfl) rfl<|.a 6 rfl<|.c rfl (hall) rfl<|.a 5 rfl<|.k [4,11,12,13] rfl)<|bC 10 (.raw (.bool (true))) [] rfl ?_ ?_
  ·exact .a 9 rfl<|.v (aI (0) rfl (by omega) (by decide)) rfl<|.a 1 rfl<|.v (aL rfl (rfl)) rfl<|.a 4 rfl<|.v (aI (0) rfl (by omega) (by decide)) rfl<|.a 1 rfl<|.v (aL rfl (rfl)) rfl<|.a 1 rfl<|.v (cC rfl (decide_eq_true rfl)) rfl<|.a 3 rfl<|.v (aI (0) rfl (by omega) (by decide)) rfl<|.a 1 rfl<|.v (aL rfl (rfl)) rfl<|.a 1 rfl<|.c rfl (sx q) rfl<|.a 2 rfl<|.k [10] rfl
  exact aq<|⟨_,_,aA.of rfl,aB.pure,rfl⟩
 ·have hq0:q=[]:=by
   have:=ff h1
   exact List.eq_nil_of_length_eq_zero (by omega)
  have hnd:(n:Int)=(d:Int):=by rw[hq0]at hend;exact hend
  have hnd:n=d:=by omega
  subst hnd
  refine ak<|ab (.v (ed rfl (rfl) rfl) rfl<|.a 6 rfl<|.c rfl (hall) rfl<|.a 5 rfl<|.k [4,11,12,13] rfl)<|bC 10 (.raw (.bool (true))) [] rfl ?_ ?_
  ·exact .a 9 rfl<|.v (aI (0) rfl (by omega) (by decide)) rfl<|.a 1 rfl<|.v (aL rfl (rfl)) rfl<|.a 4 rfl<|.v (aI (0) rfl (by omega) (by decide)) rfl<|.a 1 rfl<|.v (aL rfl (rfl)) rfl<|.a 1 rfl<|.v (cC rfl (decide_eq_true rfl)) rfl<|.a 3 rfl<|.v (aI (0) rfl (by omega) (by decide)) rfl<|.a 1 rfl<|.v (aL rfl (rfl)) rfl<|.a 1 rfl<|.c rfl (sx q) rfl<|.a 2 rfl<|.k [10] rfl
  exact aq<|⟨_,_,aA.of rfl,aB.pure,rfl⟩
end PW
end Go.Proofs.YtnegbdpggideiaaGreatDoor
namespace Go.Proofs.YtnegbdpggideiaaGreatDoor
namespace PW
open Go.RowKit cA Mem Net eS
def Hy(k:Nat):List mc:=(List.range k).map fun(i:Nat)=>⟨(i:Int),(((i+1) % 4:Nat):Int),1,1,3,1,0⟩
def tq:ai:=⟨4,[],Hy 4⟩
theorem Dz(k:Nat):Hy (k+1)=Hy k++[⟨(k:Int),(((k+1) % 4:Nat):Int),1,1,3,1,0⟩]:=by simp[Hy,List.range_succ]
theorem mP:ao tq=true:=by kernel_rfl
theorem sP:EO.ni tq []=true:=by kernel_rfl
theorem EP:aT tq 1 0=BK:=by kernel_rfl
def IK:dR:=⟨0,[⟨[],false,[]⟩,⟨[0],false,[]⟩,⟨[0,7],false,[]⟩,⟨[7],false,[]⟩],[]⟩
theorem zJ:gC tq [] 0=IK:=by
 unfold gC
 rw[show cO tq [] [0]=0 by kernel_rfl,if_pos rfl]
 exact(EO.Hx mP sP 0).trans (by kernel_rfl)
theorem Gu:sM tq BK 0=Gd:=(EO.GH mP sP (by kernel_rfl)).trans (by kernel_rfl)
theorem Hk:eD tq [] 0 [0,2]=[⟨1,1⟩,⟨1,2⟩]:=by
 show gU tq [] 0 [0,2] 2 0=_
 rw[EO.Bi mP sP]
 kernel_rfl
theorem uG:Can Tryz.prog 52 [] (· =aP tq):=by
 refine aF Tryz.func52 rfl Tryz.ntmps52 rfl<|aQ<|au 1 rfl<|aH [0] rfl ?_
 refine aQ<|au 3 rfl<|aH [0,1] rfl ?_
 refine cm 1 2 127 7 rfl rfl ?_
 refine aj<|ab (.a 1 rfl<|.k [0,1,2] rfl)<|av<|eZ [0,1,2] rfl<|bw (fun r s=>∃k,k≤4∧r=4 - k∧s=⟨[(0,.ptr 0 0),(1,.ptr 1 0),(2,num k)],[some (.cells 25 [num 0,.raw (.slice none 0 0),.raw (.slice none 0 0)]),some (.cells 25 [num 4,.raw (.slice none 0 0),.own 2]),some (.row 127 7 k (gd (Hy k)))]⟩) 4 ⟨0,by omega,by omega,rfl⟩ ?_
 rintro r s ⟨k,hk,rfl,rfl⟩
 refine aj<|ab (.a 2 rfl<|.k [0,1,2,5] rfl)<|ah rfl (fun hc=>?_) (fun hc=>?_)
 ·have hlt:k<4:=by have:=of_decide_eq_true hc;omega
  refine ak<|aj<|av<|ba<|au 4 rfl<|bz (aR rfl) rfl<|bz (mS rfl rfl rfl (by decide) ((show((k:Int)+1).tmod 4=(((k+1) % 4:Nat):Int) by rw[Int.tmod_eq_emod_of_nonneg (by omega)];omega))) rfl<|bz (Bd rfl (show Tryz.prog.built 125 [(0,.int .i64 1),(1,.int .i64 1)]=some #[.int .i64 1,.int .i64 1] by kernel_rfl)) rfl<|au 2 rfl<|ca (aY rfl (bE.rk.get rfl) rfl rfl rfl rfl (by unfold maxLen;omega)) rfl<|au 2 rfl ?_
  refine cE [0,1,3] (.c 0<|.c 1<|.c 2<|.nil) (.kept rfl (.cells (az.c<|az.c<|az.c<|az.nil))<|.kept rfl (.cells (az.c<|az.c<|az.c<|az.nil))<|.kept rfl (.dr rfl (show _=gd (Hy (k+1)) by rw[Dz];exact xn _ ⟨(k:Int),(((k+1) % 4:Nat):Int),1,1,3,1,0⟩))<|.nil) rfl rfl (aO ?_)
  refine ay (.a 1 rfl<|.v (aR rfl) rfl<|.a 1 rfl<|.k [0,1,2] rfl) ?_
  exact⟨4 - (k+1),by omega,k+1,by omega,rfl,rfl⟩
 ·have hke:k=4:=by have:=of_decide_eq_false hc;omega
  subst hke
  refine bn<|aQ<|au 2 rfl<|aH [0] rfl ?_
  exact aq<|⟨_,_,aA.of rfl,aB.jb (an.cons aB.pure<|an.cons aB.b9<|an.cons (aB.ey rfl an.pure) an.nil),rfl⟩
theorem An(T:ai)(L:List dR)(n:Int)(hv:ao T=true)(hL:(L.length:Int)≠T.nodes):Can Tryz.prog 157 [aP T,fR L,num n] (· =num 1):=by
 obtain⟨q2,hq2⟩:∃q,decide ((L.length:Int)≠T.nodes)=q:=⟨_,rfl⟩
 have hq2t:q2=true:=by rw[←hq2];exact decide_eq_true hL
 have hva:=de T
 rw[hv]at hva
 refine aF Tryz.func157 rfl Tryz.ntmps157 rfl<|ab (.a 2 rfl<|.k [1,2,3] rfl)<|aj<|bC 18 (.raw (.bool (q2))) [1,2,3] rfl ?_ ?_
 ·exact .a 1 rfl<|.c rfl (hva) rfl<|.a 5 rfl<|.v (aL rfl (rfl)) rfl<|.v (cC rfl (hq2)) rfl<|.a 1 rfl<|.k [18,1,2,3] rfl
 refine ah rfl (fun hc=>?_) (fun hc=>?_)
 ·exact ab (.a 1 rfl<|.k [6] rfl)<|aq<|⟨_,_,aA.of rfl,aB.pure,rfl⟩
 ·exact absurd hc (by rw[hq2t];simp)
theorem xo(T:ai)(L:List dR)(p:fh)(n:Int)(hv:ao T=true)(hL:(L.length:Int)≠T.nodes):Can Tryz.prog 115 [aP T,fR L,eJ p,num n] (· = .tuple [.raw (.pointer none),.slice 0 [],num 1]):=by
 have hck:=An T L n hv hL
 refine aF Tryz.func115 rfl Tryz.ntmps115 rfl<|aQ<|au 6 rfl<|aH [3,4,5,6,9] rfl ?_
 refine aj<|ab (.a 3 rfl<|.c rfl (hck) rfl<|.a 1 rfl<|.k [3,4,5,6,9,11] rfl)<|ab (.a 2 rfl<|.k [3,4,5,6,9,11,20] rfl)<|ah rfl (fun hc=>?_) (fun hc=>?_)
 ·refine aQ<|au 4 rfl<|aH [8,9,10] rfl ?_
  exact aq<|⟨_,_,aA.of rfl,aB.bG (an.cons aB.pure<|an.cons aB.b9<|an.cons aB.pure an.nil),rfl⟩
 ·cases hc
theorem Fb(T:ai)(L:List dR)(p:fh)(n:Int)(hv:ao T=true)(hL:(L.length:Int)≠T.nodes):Can Tryz.prog 56 [aP T,fR L,eJ p,num n] (· = .tuple [flag false,num 1]):=by
 have hs:=xo T L p n hv hL
 refine aF Tryz.func56 rfl Tryz.ntmps56 rfl<|ab (.a 4 rfl<|.k [1,3,4,6] rfl)<|ab (.v (ed rfl (rfl) rfl) rfl<|.a 3 rfl<|.c rfl (hs) rfl<|.a 7 rfl<|.k [11,12] rfl)<|aj<|ab (.a 2 rfl<|.k [11,12,25] rfl)<|ah rfl (fun hc=>?_) (fun hc=>?_)
 ·exact ab (.a 3 rfl<|.k [8,9] rfl)<|aq<|⟨_,_,aA.of rfl,aB.pure,rfl⟩
 ·cases hc
set_option maxHeartbeats 2000000 in
theorem tN:Can Tryz.prog 13 [] (· =flag true):=by
 have hR:=mJ tq [] 0
 rw[zJ,show cO tq [] [0]=0 by kernel_rfl]at hR
 have hE:=sz tq [] [0,2] 0 (by decide) (by decide) (by decide)
 rw[Hk,show ei tq [] 0 [0,2]=0 by kernel_rfl]at hE
 have hE:Can Tryz.prog 54 [aP tq,bf [],ax [0,2],num 0] (· = .tuple [cn [⟨1,1⟩,⟨1,2⟩],num 0]):=hE
 have hT:=sd tq 1 0 0 (by decide)
 rw[show(if dL tq 1 0=0 then(if bu tq 0 then(0:Int) else 2) else 1)=0 by kernel_rfl,EP,show((0:Int).toNat)=0 from rfl,Gu]at hT
 have hT:Can Tryz.prog 55 [aP tq,cu 1 0,num 0] (· = .tuple [fA Gd,num 0]):=hT
 have hW:=Fb tq [IK] ⟨0,0,2,0,[],0⟩ 0 mP (by decide)
 refine aF Tryz.func13 rfl Tryz.ntmps13 rfl<|ab (.a 1 rfl<|.k [] rfl)<|aQ<|ek rfl (uG) rfl<|au 2 rfl<|aH [1] rfl ?_
 refine aQ<|au 1 rfl<|bz (vd rfl (an.cons aB.pure<|an.cons aB.b9<|an.cons aB.pure an.nil) (hR)) rfl<|au 6 rfl<|aH [1,2,3] rfl ?_
 refine ab (.a 2 rfl<|.v (vd rfl (an.cons aB.pure<|an.cons aB.b9<|an.cons (aB.pure (p:=ax [0,2]))<|an.cons aB.pure an.nil) (hE)) rfl<|.a 5 rfl<|.k [1,2,3,4,5] rfl)<|aQ<|au 2 rfl<|ek rfl (hT) rfl<|au 6 rfl<|aH [1,2,3,4,5,6,7] rfl ?_
 refine aj<|bC 63 (.raw (.bool (false))) [1,2,6] rfl ?_ ?_
 ·exact .a 25 rfl<|.v (aI (6) rfl (by omega) (by decide)) rfl<|.a 1 rfl<|.v (aL rfl ((show _=some (ax [0,7]) from rfl))) rfl<|.a 8 rfl<|.k [63,1,2,6] rfl
 refine ah rfl (fun hc=>?_) (fun hc=>?_)
 ·cases hc
 ·refine ak<|ab (.a 4 rfl<|.v (vd rfl (an.cons aB.pure<|an.cons (aB.pure (p:=fR [IK]))<|an.cons (aB.jb (an.cons aB.pure<|an.cons aB.pure<|an.cons aB.pure<|an.cons aB.pure<|an.cons aB.b9<|an.cons aB.pure an.nil))<|an.cons aB.pure an.nil) (hW)) rfl<|.a 5 rfl<|.k [6,8,9] rfl)<|bC 0 (.raw (.bool (true))) [] rfl ?_ ?_
  ·exact .a 9 rfl<|.v (aI (3) rfl (by omega) (by decide)) rfl<|.a 1 rfl<|.v (aL rfl ((show _=some (flag true) from rfl))) rfl<|.a 4 rfl<|.v (aI (3) rfl (by omega) (by decide)) rfl<|.a 1 rfl<|.v (aL rfl ((show _=some (ax [7]) from rfl))) rfl<|.a 6 rfl<|.v (aI (3) rfl (by omega) (by decide)) rfl<|.a 1 rfl<|.v (aL rfl ((show _=some (ax [7]) from rfl))) rfl<|.v (aI (0) rfl (by omega) (by decide)) rfl<|.v (aL rfl ((show _=some (num 7) from rfl))) rfl<|.a 3 rfl<|.k [0] rfl
  exact aq<|⟨_,_,aA.of rfl,aB.pure,rfl⟩
end PW
end Go.Proofs.YtnegbdpggideiaaGreatDoor
namespace Go.Proofs.YtnegbdpggideiaaGreatDoor
namespace PW
open Go.RowKit cA Mem Net eS
theorem zF(k x n:Int):Can Tryz.prog 81 [cu k x,num n] (· =flag (qL k x n)):=by
 obtain⟨q1,hq1⟩:∃q,decide (k=2)=q:=⟨_,rfl⟩
 obtain⟨q2,hq2⟩:∃q,decide (x=n)=q:=⟨_,rfl⟩
 unfold qL
 rw[hq1,hq2]
 refine aF Tryz.func81 rfl Tryz.ntmps81 rfl<|ab (.a 2 rfl<|.k [1,2] rfl)<|bC 4 (.raw (.bool (q1&&q2))) [] rfl ?_ ?_
 ·refine .a 2 rfl<|.v (cC rfl (hq1)) rfl<|.a 1 rfl<|?_
  cases q1
  ·exact .a 6 rfl<|.k [4] rfl
  ·exact .a 3 rfl<|.v (cC rfl (hq2)) rfl<|.a 2 rfl<|.k [4] rfl
 exact aq<|⟨_,_,aA.of rfl,aB.pure,rfl⟩
theorem Fv(T:ai)(k x:Int)(n:Nat):decide (((cG (aT T k x) (bm T n)).length:Int)>0)=qM T k x n:=by
 unfold qM
 cases h:(List.range (2*T.af.length)).any fun a=>aX (aT T k x) a&&decide (bq T a=(n:Int))with
 |true=>
  obtain⟨a,h1,h2⟩:=List.any_eq_true.1 h
  obtain⟨h3,h4⟩:=Bool.and_eq_true_iff.1 h2
  have h1:=List.mem_range.1 h1
  have hm:(a:Int)∈cG (aT T k x) (bm T n):=by
   refine List.mem_filter.2 ⟨iY.2 ⟨by rw[cI];omega,by rw[Int.toNat_natCast];exact of_decide_eq_true h4⟩,by rw[Int.toNat_natCast];exact h3⟩
  have:=List.length_pos_of_mem hm
  exact decide_eq_true (by omega)
 |false=>
  refine decide_eq_false fun hp=>?_
  obtain⟨a,ha⟩:=List.exists_mem_of_length_pos (show 0<(cG (aT T k x) (bm T n)).length by omega)
  obtain⟨h1,h2⟩:=List.mem_filter.1 ha
  obtain⟨h3,h4⟩:=iY.1 h1
  obtain⟨h5,h6⟩:=cI.1 h3
  have:=List.any_eq_false.1 h a.toNat (List.mem_range.2 (by omega))
  rw[h2,decide_eq_true h4]at this
  exact this rfl
theorem zh(T:ai)(k x:Int)(n:Nat)(hvc:(ao T&&bV T k x)=true):Can Tryz.prog 64 [aP T,cu k x,num n] (· =flag (!qL k x n&&qM T k x n)):=by
 obtain⟨g,hg⟩:∃g,qL k x n=g:=⟨_,rfl⟩
 obtain⟨c,hc'⟩:∃c,qM T k x n=c:=⟨_,rfl⟩
 have hcd:=(Fv T k x n).trans hc'
 rw[hg,hc']
 refine aF Tryz.func64 rfl Tryz.ntmps64 rfl<|ab (.a 3 rfl<|.k [2,3,4] rfl)<|ab (.a 3 rfl<|.c rfl (zc T k x n hvc) rfl<|.a 5 rfl<|.k [2,4,7] rfl)<|bC 6 (.raw (.bool (!g &&c))) [] rfl ?_ ?_
 ·refine .a 2 rfl<|.c rfl (hg▸zF k x n) rfl<|.a 2 rfl<|?_
  cases g
  ·exact .a 2 rfl<|.v (cC rfl (hcd)) rfl<|.a 2 rfl<|.k [6] rfl
  ·exact .a 5 rfl<|.k [6] rfl
 exact aq<|⟨_,_,aA.of rfl,aB.pure,rfl⟩
end PW
end Go.Proofs.YtnegbdpggideiaaGreatDoor
