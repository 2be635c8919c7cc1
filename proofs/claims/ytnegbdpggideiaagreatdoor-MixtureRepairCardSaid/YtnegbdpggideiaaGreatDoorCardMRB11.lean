/- Texts of the proof, part 11. -/
import Derived.Test.YtnegbdpggideiaaGreatDoorCardMRB10
set_option linter.unusedVariables false
set_option linter.unusedSimpArgs false
set_option maxRecDepth 10000
set_option maxHeartbeats 1000000
namespace Go.Proofs.YtnegbdpggideiaaGreatDoor
namespace PW
open Go.RowKit cH Mem Net fw
theorem xK(T:an)(D:List Bool)(n:Int)(hch0:cf T D [n]=0):bS Tryz.prog 53 [aN T,aQ D,num n] [] (fun r σ'=>r= .tuple [.agg [num n,.own 2,.own 3],num 0]∧σ'=[some (.cells 56 [num n,.own 2,.own 3]),some (.cells 56 [num n,.own 2,.own 3]),some (.row 76 3 T.nodes.toNat (di (oR T D n.toNat T.nodes.toNat))),some (.row 3 1 (cr D (bG T n)).length (aR (cr D (bG T n))))]):=by
 refine cw Tryz.func53 rfl Tryz.ntmps53 rfl<|aP<|av 3 rfl<|aG [1,2,3,6] rfl ?_
 refine ah ?_
 obtain⟨q1,hq1⟩:∃q,ao T=q:=⟨_,rfl⟩
 obtain⟨q2,hq2⟩:∃q,bN T D=q:=⟨_,rfl⟩
 refine bu 22 (.raw (.bool ((!q1)||(!q2)))) [1,2,3,6] rfl ?_ ?_
 ·refine .a 1 rfl<|.c rfl (hq1▸eC T) rfl<|.a 2 rfl<|?_
  cases q1
  ·exact .a 5 rfl<|.k [22,1,2,3,6] rfl
  ·exact .a 2 rfl<|.c rfl (hq2▸lM T D (by have:=bJ hq1;omega)) rfl<|.a 2 rfl<|.k [22,1,2,3,6] rfl
 refine ag rfl (fun hc=>?_) (fun hc=>?_)
 ·have hch:cf T D [n]=1:=by
   unfold cf
   rw[hq1,hq2,if_neg]
   revert hc
   cases q1<;>cases q2<;>simp
  exact absurd hch0 (by rw[hch];decide)
 ·have hok:(ao T&&bN T D)=true:=by
   rw[hq1,hq2]
   revert hc
   cases q1<;>cases q2<;>simp
  clear hc hq1 hq2
  refine ai<|ah<|ab (.a 2 rfl<|.c rfl (dv T n) rfl<|.a 1 rfl<|.k [1,2,3,6,27] rfl)<|ag rfl (fun hc=>?_) (fun hc=>?_)
  ·have hn:bd T n=false:=by revert hc;cases bd T n<;>simp
   have hch:cf T D [n]=2:=by
    unfold cf
    rw[if_pos hok,if_neg]
    simp[hn]
   exact absurd hch0 (by rw[hch];decide)
  ·have hn:bd T n=true:=by revert hc;cases bd T n<;>simp
   have hch:cf T D [n]=0:=by
    unfold cf
    rw[if_pos hok,if_pos]
    simp[hn]
   obtain⟨hv,hf⟩:=Bool.and_eq_true_iff.1 hok
   rw[aT]at hn
   obtain⟨m,rfl⟩:=Int.eq_ofNat_of_zero_le hn.1
   obtain⟨N,hN⟩:∃N:Nat,T.nodes=(N:Int):=⟨T.nodes.toNat,by omega⟩
   have hN64:N≤64:=by have:=(aM hv).nodes;omega
   have hll:=bJ hv
   refine ai<|aP<|av 4 rfl<|aG [1,2,3,6,8] rfl ?_
   refine cn 1 1 76 3 rfl rfl ?_
   refine cn 1 2 3 1 rfl rfl ?_
   refine ah<|ab (.a 1 rfl<|.v (aL rfl ((show some (num T.nodes)=some (num (N:Int)) by rw[hN]))) rfl<|.a 1 rfl<|.k [1,2,3,6,8,32,33] rfl)<|au<|eu [1,2,3,6,8,32,33] rfl<|bf (fun r s=>∃j,j≤N∧r=N - j∧s=⟨[(1,aQ D),(2,num m),(3,.aY (bq T) 0),(6,.ptr 0 0),(8,.ptr 1 0),(32,num N),(33,num j)],[some (.cells 56 [num 0,.raw (.slice none 0 0),.raw (.slice none 0 0)]),some (.cells 56 [num m,.own 2,.own 3]),some (.row 76 3 j (di (oR T D m j))),some (.row 3 1 0 [])]⟩) N ⟨0,by omega,by omega,rfl⟩ ?_
   rintro r s ⟨j,hj,rfl,rfl⟩
   refine ab (.a 1 rfl<|.k [1,2,3,6,8,32,33,34] rfl)<|ah<|ag rfl (fun hc=>?_) (fun hc=>?_)
   ·have hlt:j<N:=by have:=of_decide_eq_true hc;omega
    have hne:bV T D (m:Int) (j:Int)=0:=by
     have hnb:bd T (j:Int)=true:=aT.2 ⟨by omega,by omega⟩
     have hch':cf T D [(j:Int)]=0:=by
      unfold cf
      rw[if_pos hok,if_pos]
      simp[hnb]
     unfold bV
     rw[if_pos hch',if_pos (aT.2 hn)]
    have hnx:Can Tryz.prog 109 [aN T,aQ D,num m,num j] (· = .tuple [aw (aX T D m j),num 0]):=by
     have h:=sd T D (m:Int) (j:Int)
     rw[hne]at h
     exact h
    refine ai<|ah<|au<|ab (.a 2 rfl<|.k [1,2,3,6,8,9,32,33] rfl)<|ab (.a 4 rfl<|.c rfl (hnx) rfl<|.a 5 rfl<|.k [1,2,3,6,8,10,32,33] rfl)<|bF<|av 3 rfl<|bC (EO (ia (xs:=[_,_,_]) rfl (bI.st.get rfl) rfl rfl) (kB.fR (.cons (kB.refl _)<|.cons (kB.refl _)<|.cons kB.bT .nil))) rfl<|av 1 rfl<|cp (bA rfl (bI.rk.get rfl) rfl rfl rfl rfl (by unfold maxLen;omega)) rfl<|av 2 rfl ?_
    refine dD [0,1,4,3] (.c 1<|.c 2<|.c 3<|.c 6<|.c 8<|.c 32<|.c 33<|.nil) (.kept rfl (.cells (aF.c<|aF.c<|aF.c<|aF.nil))<|.kept rfl (.cells (aF.c<|aF.c<|aF.c<|aF.nil))<|.kept rfl (.eJ rfl (show _=di (oR T D m (j+1)) by rw[xQ];exact kM _ ⟨aX T D m j,false,[]⟩))<|.kept rfl (.row aF.pure)<|.nil) rfl rfl (bc ?_)
    refine az (.v (aS rfl) rfl<|.a 1 rfl<|.k [1,2,3,6,8,32,33] rfl) ?_
    exact⟨N - (j+1),by omega,j+1,by omega,rfl,rfl⟩
   ·have hje:j=N:=by have:=of_decide_eq_false hc;omega
    subst hje
    refine ba<|ah ?_
    have hol:(bG T m).length≤512:=Nat.le_trans (ee T m _) (by omega)
    refine ab (.a 2 rfl<|.c rfl (oh T hll _) rfl<|.a 2 rfl<|.k [1,6,8,54,55,56] rfl)<|au<|eu [1,6,8,54,55,56] rfl<|bf (fun r s=>∃i,i≤(bG T m).length∧r=(bG T m).length - i∧s=⟨[(1,aQ D),(6,.ptr 0 0),(8,.ptr 1 0),(54,aw (bG T m)),(55,num (bG T m).length),(56,num i)],[some (.cells 56 [num 0,.raw (.slice none 0 0),.raw (.slice none 0 0)]),some (.cells 56 [num m,.own 2,.own 3]),some (.row 76 3 j (di (oR T D m j))),some (.row 3 1 (cr D ((bG T m).take i)).length (aR (cr D ((bG T m).take i))))]⟩) (bG T m).length ⟨0,by omega,by omega,rfl⟩ ?_
    rintro r s ⟨i,hi,rfl,rfl⟩
    refine ab (.a 1 rfl<|.k [1,6,8,54,55,56,57] rfl)<|ah<|ag rfl (fun hc=>?_) (fun hc=>?_)
    ·have hlt:i<(bG T m).length:=by have:=of_decide_eq_true hc;omega
     obtain⟨h0,h1⟩:=jz (bO (d:=0) hlt)
     obtain⟨a,ha⟩:=Int.eq_ofNat_of_zero_le h0
     have hDl:D.length=0∨a<D.length:=by simp only[bN,decide_eq_true_eq]at hf;omega
     have hstep:cr D ((bG T m).take (i+1))=cr D ((bG T m).take i)++(if aI D a then [(a:Int)] else []):=by
      unfold cr
      rw[dc _ i 0 hlt,List.filter_append,ha]
      simp only[List.filter_cons,List.filter_nil,Int.toNat_natCast]
     have hdl:(cr D ((bG T m).take i)).length≤1000:=Nat.le_trans (List.length_filter_le _ _) (by rw[List.length_take];have:=ee T m (2*T.ae.length);unfold bG at*;omega)
     refine ai<|ah<|au<|ab (.v (aJ (i) rfl) rfl<|.v (aL rfl ((ax _ i hlt).trans (by rw[ha]))) rfl<|.a 1 rfl<|.k [1,6,8,13,54,55,56] rfl)<|ab (.a 2 rfl<|.c rfl (jE D a hDl) rfl<|.k [1,6,8,13,54,55,56,62] rfl)<|ag rfl (fun hcd=>?_) (fun hcd=>?_)
     ·rw[hcd,if_pos rfl]at hstep
      refine bF<|av 4 rfl<|cp (bA rfl (bI.rk.get rfl) rfl rfl rfl rfl (by unfold maxLen;omega)) rfl<|av 2 rfl ?_
      refine dD [0,1,2,4] (.c 1<|.c 6<|.c 8<|.c 54<|.c 55<|.c 56<|.nil) (.kept rfl (.cells (aF.c<|aF.c<|aF.c<|aF.nil))<|.kept rfl (.cells (aF.c<|aF.c<|aF.c<|aF.nil))<|.kept rfl (.row aF.pure)<|.kept rfl (.eJ rfl (cN _ _))<|.nil) rfl rfl (bc ?_)
      refine az (.v (aS rfl) rfl<|.a 1 rfl<|.k [1,6,8,54,55,56] rfl) ?_
      refine⟨(bG T m).length - (i+1),by omega,i+1,by omega,rfl,?_⟩
      rw[hstep]
      first
       |rfl
       |(simp only[List.length_append,List.length_singleton];rfl)
     ·rw[hcd,if_neg (by simp),List.append_nil]at hstep
      refine ai<|az (.v (aS rfl) rfl<|.a 1 rfl<|.k [1,6,8,54,55,56] rfl) ?_
      refine⟨(bG T m).length - (i+1),by omega,i+1,by omega,rfl,?_⟩
      rw[hstep]
      first
       |rfl
       |(simp only[List.length_append,List.length_singleton];rfl)
    ·have hie:i=(bG T m).length:=by have:=of_decide_eq_false hc;omega
     subst hie
     refine ba<|aP<|bC (eR (ys:=[num m,.own 2,.own 3]) rfl (bI.tk.get rfl) rfl rfl rfl rfl) rfl<|av 2 rfl<|aG [6,7] rfl ?_
     refine aq<|⟨_,aA.of rfl,rfl,?_⟩
     have hjN:T.nodes.toNat=j:=by omega
     rw[List.take_length,Int.toNat_natCast,hjN]
     rfl
def iW(e:Int)(x:ef):PV:=.tuple [fZ (if e=0 then x else⟨0,[],[]⟩),num e]
theorem mK{T:an}{D:List Bool}{n d:Int}(hv:ao T=true)(hf:bN T D=true)(hn:bd T n=true)(hd:bd T d=true):bV T D n d=0:=by
 unfold bV cf
 rw[hv,hf,hn]
 simp[hd]
def jy(M:List Bool)(T:an)(n:Int)(k:Nat):List Int:=((List.range k).filter fun a=>aI M a&&decide (aZ T a=n)).map Int.ofNat
def gQ(T:an)(M:List Bool)(n:Int)(k:Nat):List Bool:=(List.range (2*T.ae.length)).map fun a=>decide (a<k)&&(aI M a&&decide (aZ T a=n))
theorem Gx(M:List Bool)(T:an)(n:Int):jy M T n (2*T.ae.length)=cr M (bG T n):=by
 unfold jy cr bG gw
 rw[List.filter_map,List.filter_filter]
 congr 1
theorem Hm(M:List Bool)(T:an)(n:Int)(k:Nat):(jy M T n k).length≤k:=by
 unfold jy
 rw[List.length_map]
 exact Nat.le_trans (List.length_filter_le _ _) (by simp)
theorem G7{M:List Bool}{T:an}{n:Int}{k:Nat}(h:(aI M k&&decide (aZ T k=n))=true):jy M T n (k+1)=jy M T n k++[(k:Int)]:=by
 simp only[jy,List.range_succ,List.filter_append,List.map_append]
 rw[List.filter_cons_of_pos (by simpa using h)]
 rfl
theorem IG{M:List Bool}{T:an}{n:Int}{k:Nat}(h:(aI M k&&decide (aZ T k=n))=false):jy M T n (k+1)=jy M T n k:=by
 simp only[jy,List.range_succ,List.filter_append,List.map_append]
 rw[List.filter_cons_of_neg (by simpa using h)]
 simp
theorem CB(T:an)(M:List Bool)(n:Int)(k:Nat):(gQ T M n k).length=2*T.ae.length:=by simp[gQ]
theorem yp(T:an)(M:List Bool)(n:Int):gQ T M n 0=List.replicate (2*T.ae.length) false:=by
 unfold gQ
 apply List.ext_getElem (by simp)
 intro i h1 h2
 simp
theorem B0{T:an}{M:List Bool}{n:Int}{k:Nat}(h:(aI M k&&decide (aZ T k=n))=true):(gQ T M n k).set k true=gQ T M n (k+1):=by
 apply List.ext_getElem (by simp[gQ])
 intro i h1 h2
 rw[List.getElem_set]
 by_cases e:k=i
 ·subst e
  simp only[gQ,List.getElem_map,List.getElem_range,if_true]
  rw[h,decide_eq_true (by omega)];rfl
 ·rw[if_neg e]
  simp only[gQ,List.getElem_map,List.getElem_range]
  rw[show decide (i<k+1)=decide (i<k) from decide_eq_decide.2 (by omega)]
theorem EM{T:an}{M:List Bool}{n:Int}{k:Nat}(h:(aI M k&&decide (aZ T k=n))=false):gQ T M n (k+1)=gQ T M n k:=by
 unfold gQ
 refine List.map_congr_left fun a _=>?_
 by_cases e:a=k
 ·subst e;rw[h];simp
 ·rw[show decide (a<k+1)=decide (a<k) from decide_eq_decide.2 (by omega)]
theorem A3(T:an)(M:List Bool)(n:Int):gQ T M n (2*T.ae.length)=dr T M n:=by
 unfold gQ dr
 refine List.map_congr_left fun a ha=>?_
 rw[decide_eq_true (List.mem_range.1 ha),Bool.true_and]
theorem ed{M:List Bool}{a:Nat}:M.getD a false=aI M a:=by
 unfold aI
 by_cases h:M.length=0
 ·have:M=[]:=List.eq_nil_of_length_eq_zero h
  subst this;simp
 ·first
   |rfl
   |simp[h]
theorem tn(T:an)(k x n:Int)(hm:(ao T&&bZ T k x)=true):Can Tryz.prog 95 [aN T,bW k x,num n] (· = .tuple [aw (cr (aC T k x) (bG T n)),aQ (dr T (aC T k x) n)]):=by
 obtain⟨hv,hc⟩:=Bool.and_eq_true_iff.1 hm
 have hll:=bJ hv
 have hmk:=mV T k x
 unfold iM da at hmk
 rw[if_pos hm,if_pos rfl]at hmk
 obtain⟨M,hM⟩:∃M,aC T k x=M:=⟨_,rfl⟩
 have hMl:M.length=2*T.ae.length:=by rw[←hM];exact ez T k x
 rw[hM]at hmk ⊢
 refine aE Tryz.func95 rfl Tryz.ntmps95 rfl<|ab (.a 4 rfl<|.k [2,3,4] rfl)<|ab (.a 2 rfl<|.c rfl (hmk) rfl<|.a 5 rfl<|.k [2,3,8] rfl)<|aP<|av 2 rfl<|cp (dF rfl (bI.rk.get rfl) rfl rfl (show(M.length:Int)=((2*T.ae.length:Nat):Int) by omega) (show(M.length:Int)=((2*T.ae.length:Nat):Int) by omega) ⟨by unfold maxLen;omega,by omega⟩) rfl<|av 1 rfl<|aG [2,3,8,10] rfl ?_
 refine ab (.a 1 rfl<|.k [2,3,8,10,11] rfl)<|fp 11 3 1 rfl ?_
 refine er (σ':=[some (.row 4 1 (2*T.ae.length) (bQ (gQ T M n 0))),some (.row 3 1 0 [])]) (by rw[yp,←iA];rfl) ?_
 refine ah<|ab (.a 1 rfl<|.k [2,3,8,10,11,12] rfl)<|au<|eu [2,3,8,10,11,12] rfl<|bf (fun r st=>∃a:Nat,a≤2*T.ae.length∧r=2*T.ae.length - a∧st=⟨[(2,num n),(3,.aY (bq T) 0),(8,aQ M),(10,.own 0),(11,.own 1),(12,num a)],[some (.row 4 1 (2*T.ae.length) (bQ (gQ T M n a))),some (.row 3 1 (jy M T n a).length (aR (jy M T n a)))]⟩) (2*T.ae.length) ⟨0,by omega,by omega,rfl⟩ ?_
 rintro r st ⟨a,ha,rfl,rfl⟩
 refine ah<|ab (.a 4 rfl<|.k [2,3,8,10,11,12,25] rfl)<|ag rfl (fun h1=>?_) (fun h1=>?_)
 ·have hlt:a<2*T.ae.length:=by have:=tt h1;omega
  have hal:(gQ T M n a).length=2*T.ae.length:=CB T M n a
  have hdl:(jy M T n a).length≤512:=Nat.le_trans (Hm M T n a) (by omega)
  refine ai<|ah<|au ?_
  obtain⟨c1,hc1⟩:∃q,aI M a=q:=⟨_,rfl⟩
  obtain⟨c2,hc2⟩:∃q,decide (aZ T a=n)=q:=⟨_,rfl⟩
  refine bu 38 (.raw (.bool (c1&&c2))) [2,3,8,10,11,12] rfl ?_ ?_
  ·refine .a 2 rfl<|.v (aJ (a) rfl) rfl<|.v (aL rfl (show _=some (flag c1) by rw[cF _ a (by omega),ed,hc1])) rfl<|.a 1 rfl<|?_
   cases c1
   ·exact .a 6 rfl<|.k [38,2,3,8,10,11,12] rfl
   ·exact .a 2 rfl<|.c rfl (eN T hv a hlt) rfl<|.a 1 rfl<|.v (b9 rfl (hc2)) rfl<|.a 1 rfl<|.k [38,2,3,8,10,11,12] rfl
  refine ag rfl (fun h2=>?_) (fun h2=>?_)
  ·have h2:(aI M a&&decide (aZ T a=n))=true:=by rw[hc1,hc2];exact h2
   have hs1:=G7 h2
   have hs2:=B0 h2
   refine aP<|av 3 rfl<|cp (bA rfl (bI.rk.get rfl) rfl rfl rfl rfl (by unfold maxLen;omega)) rfl<|av 1 rfl ?_
   refine dD [0,2] (.c 2<|.c 3<|.c 8<|.c 10<|.c 11<|.c 12<|.nil) (.kept rfl (.row aF.pure)<|.kept rfl (.eJ rfl (cN _ _))<|.nil) rfl rfl (bc ?_)
   refine bF<|av 2 rfl<|bC (aJ (a) rfl) rfl<|bg ((by first|exact bE rfl (bI.tk.get rfl) rfl rfl rfl (by first|omega|(simp;omega))|exact aV rfl (bI.tk.get rfl) rfl rfl rfl (by first|omega|(simp;omega)))) rfl rfl<|aG [2,3,8,10,11,12] rfl ?_
   refine er (σ':=[some (.row 4 1 (2*T.ae.length) (bQ (gQ T M n (a+1)))),some (.row 3 1 (jy M T n (a+1)).length (aR (jy M T n (a+1))))]) (by rw[←hs2,hs1,List.length_append];rfl) ?_
   refine az (.a 1 rfl<|.v (aS rfl) rfl<|.a 1 rfl<|.k [2,3,8,10,11,12] rfl) ?_
   first
    |exact⟨2*T.ae.length - (a+1),by omega,a+1,by omega,rfl,rfl⟩
    |exact⟨2*T.ae.length - (a+1),by omega,a+1,by omega,rfl,by rw[hs1,hs2];rfl⟩
  ·have h2:(aI M a&&decide (aZ T a=n))=false:=by rw[hc1,hc2];exact h2
   have hs1:=IG h2
   have hs2:=EM h2
   refine ai<|az (.a 1 rfl<|.v (aS rfl) rfl<|.a 1 rfl<|.k [2,3,8,10,11,12] rfl) ?_
   first
    |exact⟨2*T.ae.length - (a+1),by omega,a+1,by omega,rfl,rfl⟩
    |exact⟨2*T.ae.length - (a+1),by omega,a+1,by omega,rfl,by rw[hs1,hs2];rfl⟩
 ·have hae:a=2*T.ae.length:=by have:=ff h1;omega
  subst hae
  refine ba<|ab (.a 4 rfl<|.k [6,7] rfl)<|aq<|⟨_,_,aA.of rfl,aB.bx (aj.cons (aB.eH rfl aj.pure) (aj.cons (aB.eH rfl aj.pure) aj.nil)),?_⟩
  rw[Gx,A3]
  unfold aw aQ
  rw[show(dr T M n).length=2*T.ae.length by simp[dr]]
end PW
end Go.Proofs.YtnegbdpggideiaaGreatDoor
namespace Go.Proofs.YtnegbdpggideiaaGreatDoor
namespace PW
open Go.RowKit cH Mem
structure GD where
 p:PV
 r:Option Nat
 lo:Nat
 hi:Nat
section
variable {P:Program} {N L:Nat}
inductive GK (P:Program) (N:Nat) (ops:Array Oper) (σs:List cm) (T:cd) (o:Oper):GD→Prop
 |val {p:PV} {d lo hi:Nat} (ks:List Nat) (hks:(ks.all fun k=>(o.looksAt ops).contains k)=true) (hw:eX ops T o=some true) (hy:∀r σ,lo≤r→r≤hi→σs[r]? =some σ→br P σ (gG T ks) o p) (hd:o.dst=some d) (hN:Nat.blt d N=true):GK P N ops σs T o ⟨p,none,lo,hi⟩
 |skip {d lo hi:Nat} (hw:eX ops T o=some false) (hd:o.dst=some d) (hN:Nat.blt d N=true):GK P N ops σs T o ⟨.raw undef,none,lo,hi⟩
 |HL {p:PV} {d r lo hi:Nat} {σ σ':cm} (ks:List Nat) (hks:(ks.all fun k=>(o.looksAt ops).contains k)=true) (hw:eX ops T o=some true) (h1:σs[r]? =some σ) (h2:σs[r+1]? =some σ') (hy:cS P σ (gG T ks) o p σ') (hd:o.dst=some d) (hN:Nat.blt d N=true):GK P N ops σs T o ⟨p,some r,lo,hi⟩
 |p9 {p:PV} {r lo hi:Nat} {σ σ':cm} (ks:List Nat) (hks:(ks.all fun k=>(o.looksAt ops).contains k)=true) (hw:eX ops T o=some true) (h1:σs[r]? =some σ) (h2:σs[r+1]? =some σ') (hy:cS P σ (gG T ks) o p σ') (hd:o.dst=none):GK P N ops σs T o ⟨p,some r,lo,hi⟩
inductive GL (P:Program) (N:Nat) (ops:Array Oper) (σs:List cm) (T:cd):List Oper→List GD→Prop
 |nil:GL P N ops σs T [] []
 |cons {o:Oper} {g:GD} {l:List Oper} {gs:List GD}:GK P N ops σs T o g→GL P N ops σs T l gs→GL P N ops σs T (o::l) (g::gs)
theorem GL.get{ops:Array Oper}{σs:List cm}{T:cd}:∀ {l:List Oper} {gs:List GD},GL P N ops σs T l gs→gs.length=l.length∧∀(i:Nat) o g,l[i]? =some o→gs[i]? =some g→GK P N ops σs T o g
 |_,_,.nil=>⟨rfl,fun i o g h=>by simp at h⟩
 |_,_,.cons h hs=>by
  obtain⟨h1,h2⟩:=hs.get
  refine⟨by simp[h1],fun i o g ho hg=>?_⟩
  cases i with
  |zero=>simp at ho hg;subst ho;subst hg;exact h
  |succ i=>exact h2 i o g (by simpa using ho) (by simpa using hg)
def kd(gs:List GD)(i:Nat):Option Nat:=(gs[i]?).bind (·.r)
def FX(ops:Array Oper)(f m:Nat)(gs:List GD):Bool:=
  Nat.beq gs.length ops.size&&
  ((List.range ops.size).all fun i=>(lK ops i).all fun k=>decide (k<i))&&
  ((List.range ops.size).all fun i=>(List.range i).all fun j=>(cu ops i).isNone||cu ops i !=cu ops j)&&
  ((List.range ops.size).all fun j=>(ej ops j).all fun k=>(List.range ops.size).all fun i=>cu ops i !=some k||fe ops f j i)&&
  ((List.range ops.size).all fun i => match gs[i]? with
    |some ⟨_,some r,_,_⟩=>decide (r<m)&&(Nat.beq r 0||(List.range ops.size).any fun j=>kd gs j==some (r - 1)&&fe ops f i j)
    |some ⟨_,none,lo,hi⟩=>(Nat.beq lo 0||(List.range ops.size).any fun j=>kd gs j==some (lo - 1)&&fe ops f i j)&&(Nat.ble m hi||(List.range ops.size).any fun j=>kd gs j==some hi&&fe ops f j i)
    |none=>false)&&
  ((List.range ops.size).all fun i=>(List.range i).all fun j=>(kd gs i).isNone||kd gs i !=kd gs j)&&
  ((List.range m).all fun r=>(List.range ops.size).any fun j=>kd gs j==some r)
structure JN (ops:Array Oper) (f m:Nat) (gs:List GD):Prop where
 len:gs.length=ops.size
 lK:∀i,i<ops.size→∀k∈lK ops i,k<i
 ss:∀i j d,i<ops.size→j<ops.size→cu ops i=some d→cu ops j=some d→i=j
 rd:∀j,j<ops.size→∀k∈ej ops j,∀i,i<ops.size→cu ops i=some k→fe ops f j i=true
 HL:∀(i:Nat) g r,gs[i]? =some g→g.r=some r→r<m∧(r=0∨∃j,j<ops.size∧kd gs j=some (r - 1)∧fe ops f i j=true)
 quiet:∀(i:Nat) g,gs[i]? =some g→g.r=none→(g.lo=0∨∃j,j<ops.size∧kd gs j=some (g.lo - 1)∧fe ops f i j=true)∧(m≤g.hi∨∃j,j<ops.size∧kd gs j=some g.hi∧fe ops f j i=true)
 one:∀i j r,i<ops.size→j<ops.size→kd gs i=some r→kd gs j=some r→i=j
 has:∀r,r<m→∃j,j<ops.size∧kd gs j=some r
theorem Dd{ops:Array Oper}{f m:Nat}{gs:List GD}(h:FX ops f m gs=true):JN ops f m gs:=by
 unfold FX at h
 simp only[Bool.and_eq_true]at h
 obtain⟨⟨⟨⟨⟨⟨h1,h2⟩,h3⟩,h4⟩,h5⟩,h6⟩,h7⟩:=h
 have hl:gs.length=ops.size:=Nat.eq_of_beq_eq_true h1
 have all:∀ {n:Nat} {p:Nat→Bool},(List.range n).all p=true→∀i,i<n→p i=true:=fun h i hi=>List.all_eq_true.1 h i (List.mem_range.2 hi)
 have any:∀ {n:Nat} {p:Nat→Bool},(List.range n).any p=true→∃i,i<n∧p i=true:=fun h=>by
  obtain⟨i,hi,hp⟩:=List.any_eq_true.1 h
  exact⟨i,List.mem_range.1 hi,hp⟩
 have s3:∀i j d,i<ops.size→j<i→cu ops i=some d→cu ops j=some d→False:=fun i j d hi hj e1 e2=>by
  have:=all (all h3 i hi) j hj
  rw[e1,e2]at this
  simp at this
 have s6:∀i j r,i<ops.size→j<i→kd gs i=some r→kd gs j=some r→False:=fun i j r hi hj e1 e2=>by
  have:=all (all h6 i hi) j hj
  rw[e1,e2]at this
  simp at this
 refine⟨hl,fun i hi k hk=>?_,fun i j d hi hj e1 e2=>?_,fun j hj k hk i hi hd=>?_,fun i g r hg hr=>?_,fun i g hg hr=>?_,fun i j r hi hj e1 e2=>?_,fun r hr=>?_⟩
 ·have:=List.all_eq_true.1 (all h2 i hi) k hk;simpa using this
 ·rcases Nat.lt_trichotomy i j with h|h|h
  ·exact(s3 j i d hj h e2 e1).elim
  ·exact h
  ·exact(s3 i j d hi h e1 e2).elim
 ·have:=all (List.all_eq_true.1 (all h4 j hj) k hk) i hi
  rw[hd]at this
  simpa using this
 ·have hi:i<ops.size:=by rw[←hl];exact(List.getElem?_eq_some_iff.1 hg).1
  have:=all h5 i hi
  obtain⟨p,r',lo,hi'⟩:=g
  simp only at hr
  subst hr
  rw[hg]at this
  simp only[Bool.and_eq_true,decide_eq_true_eq,Bool.or_eq_true]at this
  refine⟨this.1,?_⟩
  rcases this.2 with h|h
  ·exact .inl (Nat.eq_of_beq_eq_true h)
  ·obtain⟨j,hj,h'⟩:=any h
   simp only[Bool.and_eq_true,beq_iff_eq]at h'
   exact .inr ⟨j,hj,h'.1,h'.2⟩
 ·have hi:i<ops.size:=by rw[←hl];exact(List.getElem?_eq_some_iff.1 hg).1
  have:=all h5 i hi
  obtain⟨p,r',lo,hi'⟩:=g
  simp only at hr
  subst hr
  rw[hg]at this
  simp only[Bool.and_eq_true,Bool.or_eq_true]at this
  refine⟨?_,?_⟩
  ·rcases this.1 with h|h
   ·exact .inl (Nat.eq_of_beq_eq_true h)
   ·obtain⟨j,hj,h'⟩:=any h
    simp only[Bool.and_eq_true,beq_iff_eq]at h'
    exact .inr ⟨j,hj,h'.1,h'.2⟩
  ·rcases this.2 with h|h
   ·exact .inl (Nat.ble_eq.mp h)
   ·obtain⟨j,hj,h'⟩:=any h
    simp only[Bool.and_eq_true,beq_iff_eq]at h'
    exact .inr ⟨j,hj,h'.1,h'.2⟩
 ·rcases Nat.lt_trichotomy i j with h|h|h
  ·exact(s6 j i r hj h e2 e1).elim
  ·exact h
  ·exact(s6 i j r hi h e1 e2).elim
 ·obtain⟨j,hj,h⟩:=any (all h7 r hr)
  exact⟨j,hj,by simpa using h⟩
structure G1 (base N:Nat) (F:Nat→Prop) (l:List Oper) (gs:List GD) (σs:List cm) (t:cd) (ls:Array Bool) (r:Nat) (E:Env) (a:Act) (w:World):Prop where
 size:ls.size=l.length
 down:Down l.toArray ls
 rk:∀i s,i<l.length→kd gs i=some s→(ls.getD i true=true↔s<r)
 sat:∃σ,σs[r]? =some σ∧Sat F base σ E w
 kD:a.defers=[]
 tmps:a.tmps.size=N
 t0:ek E w a.eval t
 lu:∀j d g,j<l.length→ls.getD j true=true→cu l.toArray j=some d→gs[j]? =some g→cG E w (a.eval (.tmp d)) g.p
theorem zu(ls:Array Bool)(i j:Nat)(b:Bool)(hi:i<ls.size):(ls.setIfInBounds i true).getD j b=if j=i then true else ls.getD j b:=by
 by_cases e:j=i
 ·subst e;simp[hi]
 ·rw[if_neg e]
  simp only[Array.getD_eq_getD_getElem?,Array.getElem?_setIfInBounds_ne (Ne.symm e)]
theorem Fe{ls:Array Bool}{i:Nat}(hi:i<ls.size)(b c:Bool):ls.getD i b=ls.getD i c:=by simp[hi]
section
variable {l:List Oper} {gs:List GD} {σs:List cm} {t T:cd} {f m base:Nat} {F:Nat→Prop}
theorem G1.reach(hG:JN l.toArray f m gs){ls:Array Bool}{r:Nat}{E:Env}{a:Act}{w:World}(h:G1 base N F l gs σs t ls r E a w){i j:Nat}(hi:i<l.length)(hr:fe l.toArray f i j=true)(hk:∀k∈lK l.toArray i,ls.getD k false=true):ls.getD j true=true:=by
 have:=ei (by rw[h.size];simp) h.down (fun i hi=>hG.lK i hi) f i j (by simpa using hi) hr hk
 by_cases hj:j<ls.size
 ·rw[Fe hj true false];exact this
 ·simp[hj]
theorem G1.looks(hG:JN l.toArray f m gs)(hT:nM l (gs.map (·.p)) t=T){ls:Array Bool}{r:Nat}{E:Env}{a:Act}{w:World}(h:G1 base N F l gs σs t ls r E a w){i:Nat}(hi:i<l.length)(hk:∀k∈lK l.toArray i,ls.getD k false=true):
  ∀k∈ej l.toArray i,∀p,look k T=some p→cG E w (a.eval (.tmp k)) p:=fun k hks p hp=>by
 rw[←hT]at hp
 rcases lH _ _ _ k p hp with⟨j,o,h1,h2,h3⟩|h'
 ·rw[List.getElem?_map,Option.map_eq_some_iff]at h3
  obtain⟨g,hg,rfl⟩:=h3
  have hj:j<l.length:=(List.getElem?_eq_some_iff.1 h1).1
  have hd:cu l.toArray j=some k:=by simp only[cu,List.getElem?_toArray,h1,Option.bind_some,h2]
  have hr:=hG.rd i (by simpa using hi) k hks j (by simpa using hj) hd
  exact h.lu j k g hj (h.reach hG hi hr hk) hd hg
 ·exact h.t0 k p h'
theorem G1.put(hG:JN l.toArray f m gs)(hfr:∀i d,i<l.length→cu l.toArray i=some d→look d t=none){ls:Array Bool}{r r':Nat}{E E':Env}{a:Act}{w w':World}(h:G1 base N F l gs σs t ls r E a w){i:Nat}{g:GD}{v:Value}(hi:i<l.length)(hu:ls.getD i true=false)(hk:∀k∈lK l.toArray i,ls.getD k false=true)(hg:gs[i]? =some g)(hgo:cX E w E' w')
  (hs:∃σ,σs[r']? =some σ∧Sat F base σ E' w') (hr:(g.r=none∧r'=r)∨(g.r=some r∧r'=r+1)) {o:Oper} (ho:l[i]? =some o) (hdN:∀d,o.dst=some d→d<N) (hv:∀d,o.dst=some d→cG E' w' v g.p):
  G1 base N F l gs σs t (ls.setIfInBounds i true) r' E' (a.put o.dst v) w':=by
 have hil:i<ls.size:=by rw[h.size];exact hi
 have hrk:kd gs i=g.r:=by simp only[kd,hg,Option.bind_some]
 have hdi:cu l.toArray i=o.dst:=by simp only[cu,List.getElem?_toArray,ho,Option.bind_some]
 refine⟨by simpa using h.size,fun j hj hjs k hkj=>?_,fun j s hj hs'=>?_,hs,by cases o.dst<;>simpa[Act.put]using h.kD,by cases o.dst<;>simpa[Act.put]using h.tmps,fun k p hkp=>?_,fun j d g' hj hjl hd hg'=>?_⟩
 ·rw[zu _ _ _ _ hil]at hj ⊢
  split
  ·rfl
  ·by_cases e:j=i
   ·subst e;exact hk k hkj
   ·rw[if_neg e]at hj
    exact h.down j hj hjs k hkj
 ·rw[zu _ _ _ _ hil]
  by_cases e:j=i
  ·subst e
   rw[if_pos rfl]
   rw[hrk]at hs'
   rcases hr with⟨h1,_⟩|⟨h1,h2⟩
   ·rw[h1]at hs';cases hs'
   ·rw[h1]at hs';cases hs';exact⟨fun _=>by omega,fun _=>rfl⟩
  ·rw[if_neg e,h.rk j s hj hs']
   rcases hr with⟨_,h2⟩|⟨h1,h2⟩
   ·rw[h2]
   ·have:s≠r:=fun e'=>e (hG.one j i r (by simpa using hj) (by simpa using hi) (by rw[hs',e']) (by rw[hrk,h1]))
    omega
 ·have hne:∀d,o.dst=some d→k≠d:=fun d hd e=>by
   subst e
   rw[hfr i k hi (by rw[hdi,hd])]at hkp;cases hkp
  have:(a.put o.dst v).eval (.tmp k)=a.eval (.tmp k):=Act.eval_put fun d hd heq=>by cases heq;exact hne _ hd rfl
  rw[this]
  exact(h.t0 k p hkp).goes hgo
 ·rw[zu _ _ _ _ hil]at hjl
  by_cases e:j=i
  ·subst e
   rw[hdi]at hd
   rw[hg]at hg';cases hg'
   rw[hd,jB a (by rw[h.tmps];exact hdN d hd),if_pos rfl]
   exact hv d hd
  ·rw[if_neg e]at hjl
   have hne:∀d',o.dst=some d'→d≠d':=fun d' hd' e'=>by
    subst e'
    exact e (hG.ss j i d (by simpa using hj) (by simpa using hi) hd (by rw[hdi,hd']))
   have:(a.put o.dst v).eval (.tmp d)=a.eval (.tmp d):=Act.eval_put fun d' hd' heq=>by cases heq;exact hne _ hd' rfl
   rw[this]
   exact(h.lu j d g' hj hjl hd hg').goes hgo
theorem FW(hG:JN l.toArray f m gs)(hT:nM l (gs.map (·.p)) t=T)(hfr:∀i d,i<l.length→cu l.toArray i=some d→look d t=none)(hL:GL P N l.toArray σs T l gs){σm:cm}(hm:σs[m]? =some σm){Q:Exit→Act→World→Prop}{E₀:Env}{w₀:World}(hq:∀a' w' E',Sat F base σm E' w'→ek E' w' a'.eval T→a'.defers=[]→a'.tmps.size=N→cX E₀ w₀ E' w'→Below base w₀ w'→Q .normal a' w'):
  ∀(fuel:Nat) (ls:Array Bool) (r:Nat) (E:Env) (a:Act) (w:World),G1 base N F l gs σs t ls r E a w→bP ls l.length=fuel→cX E₀ w₀ E w→Below base w₀ w→r≤m→wpAny P .any l.toArray Q fuel ls a w:=by
 obtain⟨hgl,hget⟩:=hL.get
 intro fuel
 induction fuel with
 |zero=>
  intro ls r E a w h hu hgo hb hrm
  have hall:=cY hu
  have hrm':r=m:=by
   rcases Nat.lt_or_ge r m with h'|h'
   ·obtain⟨j,hj,hjr⟩:=hG.has r h'
    have hj:j<l.length:=by simpa using hj
    have:=(h.rk j r hj hjr).1 (hall j hj)
    omega
   ·omega
  subst hrm'
  refine⟨List.eq_nil_iff_forall_not_mem.2 fun i hi=>?_,?_⟩
  ·obtain⟨h1,h2,_⟩:=cC.1 hi
   rw[hall i (by simpa using h1)]at h2;cases h2
  ·obtain⟨σ,hσ,hs⟩:=h.sat
   rw[hm]at hσ;cases hσ
   refine hq a w E hs (fun k p hkp=>?_) h.kD h.tmps hgo hb
   rw[←hT]at hkp
   rcases lH _ _ _ k p hkp with⟨j,o,h1,h2,h3⟩|h'
   ·rw[List.getElem?_map,Option.map_eq_some_iff]at h3
    obtain⟨g,hg,rfl⟩:=h3
    have hj:j<l.length:=(List.getElem?_eq_some_iff.1 h1).1
    exact h.lu j k g hj (hall j hj) (by simp only[cu,List.getElem?_toArray,h1,Option.bind_some,h2]) hg
   ·exact h.t0 k p h'
 |succ fuel ih=>
  intro ls r E a w h hu hgo hb hrm
  obtain⟨i0,hi0,hi1,hi2⟩:=fF (ls:=ls) (m:=l.length) (by omega)
  have hi0r:i0∈Region.ready .any l.toArray ls:=cC.2 ⟨by simpa using hi0,hi1,fun k hk=>by
   have:=hG.lK i0 (by simpa using hi0) k hk
   rw[Fe (by rw[h.size];omega) false true];exact hi2 k this⟩
  refine⟨fun h0=>absurd hi0r (by rw[h0];simp),fun i hi=>?_⟩
  obtain⟨h1,h2,h3⟩:=cC.1 hi
  have hil:i<l.length:=by simpa using h1
  have ho:l[i]? =some l[i]:=by simp[hil]
  have hgi:gs[i]? =some (gs[i]'(by omega)):=by simp
  have hK:=hget i _ _ ho hgi
  generalize hgg:gs[i]'(by omega)=g at hgi hK
  generalize hoo:l[i]=o at ho hK
  have hlk:=h.looks hG hT hil h3
  have hlo:ej l.toArray i=o.looksAt l.toArray:=by simp only[ej,List.getElem?_toArray,ho]
  rw[hlo]at hlk
  have hpk:∀ks:List Nat,(ks.all fun k=>(o.looksAt l.toArray).contains k)=true→ek E w a.eval (gG T ks):=fun ks hks k p hkp=>by
   obtain⟨e1,e2⟩:=jf ks k p hkp
   exact hlk k (by have:=List.all_eq_true.1 hks k e1;simpa using this) p e2
  have hwant:∀b,eX l.toArray T o=some b→Region.wanted o (yielded l.toArray a.tmps)=b:=fun b hb=>by
   rw[i6];exact lX (fun k hk p hp=>hlk k hk p hp) hb
  have hun:bP (ls.setIfInBounds i true) l.length=fuel:=by have:=fG h2 hil (by rw[h.size];omega);omega
  unfold wpOp
  have ho':l.toArray[i]? =some o:=by simpa using ho
  simp only[ho']
  have hrk:kd gs i=g.r:=by simp only[kd,hgi,Option.bind_some]
  cases hK with
  | @val p d lo hi ks hks hw hy hd hN=>
   rw[hwant true hw,if_pos rfl]
   left
   obtain⟨σ,hσ,hs⟩:=h.sat
   obtain⟨q1,q2⟩:=hG.quiet i _ hgi rfl
   have hlo':lo≤r:=by
    rcases q1 with e|⟨j,hj,hj1,hj2⟩
    ·simp only at e;omega
    ·have:=(h.rk j _ (by simpa using hj) hj1).1 (h.reach hG hil hj2 h3)
     simp only at this;omega
   have hhi':r≤hi:=by
    rcases q2 with e|⟨j,hj,hj1,hj2⟩
    ·simp only at e;omega
    ·rcases Nat.lt_or_ge hi r with h'|h'
     ·have hjl:j<l.length:=by simpa using hj
      have e1:=(h.rk j _ hjl hj1).2 h'
      have e2:=h.reach hG hjl hj2 (h.down j e1 hj)
      rw[h2]at e2;cases e2
     ·exact h'
   refine qo (hy r σ hlo' hhi' hσ F base E a.eval w (gz a) hs (hpk ks hks)) fun v w' hE hv=>?_
   exact ih _ r E _ w' (h.put hG hfr hil h2 h3 hgi (.ext hE) ⟨σ,hσ,hs.ext hE⟩ (.inl ⟨rfl,rfl⟩) ho (fun d' hd'=>by rw[hd]at hd';cases hd';exact Nat.blt_eq.mp hN) (fun _ _=>hv)) hun (hgo.trans (.ext hE)) (hb.trans (Below.iP hE hs.bl)) hrm
  | @skip d lo hi hw hd hN=>
   rw[hwant false hw,if_neg (by simp)]
   exact ih _ r E _ w (h.put hG hfr hil h2 h3 hgi (cX.refl _ _) h.sat (.inl ⟨rfl,rfl⟩) ho (fun d' hd'=>by rw[hd]at hd';cases hd';exact Nat.blt_eq.mp hN) (fun _ _=>.raw _)) hun hgo hb hrm
  | @HL p d r0 lo hi σ σ' ks hks hw e1 e2 hy hd hN=>
   rw[hwant true hw,if_pos rfl]
   left
   obtain⟨q1,q2⟩:=hG.HL i _ r0 hgi rfl
   have hr0:r0=r:=by
    have n1:¬r0<r:=fun h'=>by
     have:=(h.rk i r0 hil hrk).2 h'
     rw[h2]at this;cases this
    rcases q2 with e|⟨j,hj,hj1,hj2⟩
    ·omega
    ·have:=(h.rk j _ (by simpa using hj) hj1).1 (h.reach hG hil hj2 h3)
     omega
   subst hr0
   obtain⟨σ0,hσ,hs⟩:=h.sat
   rw[e1]at hσ;cases hσ
   obtain⟨v,w',E',hr,k1,k2,k3,k4⟩:=hy F base E a.eval w (gz a) hs (hpk ks hks)
   have hn':=ih _ (r0+1) E' (a.put o.dst v) w' (h.put hG hfr hil h2 h3 hgi k2 ⟨σ',e2,k1⟩ (.inr ⟨rfl,rfl⟩) ho (fun d' hd'=>by rw[hd]at hd';cases hd';exact Nat.blt_eq.mp hN) (fun _ _=>k4)) hun (hgo.trans k2) (hb.trans k3) (by omega)
   unfold Oper.wp
   rcases hr with hr|⟨rfl,hr⟩
   ·rw[hr];exact hn'
   ·rw[hr];exact hn'
  | @p9 p r0 lo hi σ σ' ks hks hw e1 e2 hy hd=>
   rw[hwant true hw,if_pos rfl]
   left
   obtain⟨q1,q2⟩:=hG.HL i _ r0 hgi rfl
   have hr0:r0=r:=by
    have n1:¬r0<r:=fun h'=>by
     have:=(h.rk i r0 hil hrk).2 h'
     rw[h2]at this;cases this
    rcases q2 with e|⟨j,hj,hj1,hj2⟩
    ·omega
    ·have:=(h.rk j _ (by simpa using hj) hj1).1 (h.reach hG hil hj2 h3)
     omega
   subst hr0
   obtain⟨σ0,hσ,hs⟩:=h.sat
   rw[e1]at hσ;cases hσ
   obtain⟨v,w',E',hr,k1,k2,k3,k4⟩:=hy F base E a.eval w (gz a) hs (hpk ks hks)
   have hn':=ih _ (r0+1) E' (a.put o.dst v) w' (h.put hG hfr hil h2 h3 hgi k2 ⟨σ',e2,k1⟩ (.inr ⟨rfl,rfl⟩) ho (fun d' hd'=>by rw[hd]at hd';cases hd') (fun d' hd'=>by rw[hd]at hd';cases hd')) hun (hgo.trans k2) (hb.trans k3) (by omega)
   unfold Oper.wp
   rcases hr with hr|⟨rfl,hr⟩
   ·rw[hr];exact hn'
   ·rw[hr];exact hn'
end
theorem oc:∀(n k:Nat),k≤n→bP (Array.replicate n false) k=k
 |n,0,_=>rfl
 |n,k+1,h=>by
  simp only[bP]
  rw[oc n k (by omega)]
  simp[show k<n by omega]
theorem yi{id:Nat}{l:List Oper}{t t':cd}{σ σm:cm}{Q:Exit→St→Prop}(f m:Nat)(σs:List cm)(gs:List GD)(T:cd)(hm:P.follows .mixedOrders=true)(hB:FX l.toArray f m gs=true)(hT:nM l (gs.map (·.p)) t=T)(hfr:(l.all fun o=>o.dst.all fun d=>(look d t).isNone)=true)(h0:σs[0]? =some σ)(h1:σs[m]? =some σm)
  (hL:GL P N l.toArray σs T l gs) (hsub:Sub T t') (hq:Q .normal ⟨t',σm⟩):W P N L (.region id l.toArray true) ⟨t,σ⟩ Q:=fun F base E₀ w₀ E a w hc hs=>by
 have hG:=Dd hB
 have hE:Ext w {w with drawn:=w.drawn+1}:=⟨rfl,rfl,rfl,Nat.le_refl _,fun _ _=>rfl⟩
 refine wp_region_any hm ?_
 have hfr':∀i d,i<l.length→cu l.toArray i=some d→look d t=none:=fun i d hi hd=>by
  have ho:l[i]? =some l[i]:=by simp[hi]
  simp only[cu,List.getElem?_toArray,ho,Option.bind_some]at hd
  have:=List.all_eq_true.1 hfr _ (List.mem_of_getElem? ho)
  rw[hd]at this
  simpa using this
 have hg0:G1 base N F l gs σs t (Array.replicate l.length false) 0 E a {w with drawn:=w.drawn+1}:=by
  have hrep:∀i,i<l.length→(Array.replicate l.length false).getD i true=false:=fun i hi=>by simp[hi]
  refine⟨by simp,fun i hi hi'=>?_,fun i s hi _=>?_,⟨σ,h0,hs.sat.ext hE⟩,hs.kD,hs.size,hs.tmp.goes (.ext hE),fun j d g hj hjl=>?_⟩
  ·rw[hrep i (by simpa using hi')]at hi;cases hi
  ·rw[hrep i hi];simp
  ·rw[hrep j hj]at hjl;cases hjl
 have:=FW (Q:=fun e a' w'=>o5 F base N E₀ w₀ (Q e) a' w') hG hT hfr' hL h1 (E₀:=E₀) (w₀:=w₀) (fun a' w' E' k1 k2 k3 k4 k5 k6=>⟨⟨t',σm⟩,E',hq,⟨k1,k2.sub hsub,k3,k4⟩,k5,k6⟩) l.length _ 0 E a _ hg0 (oc _ _ (Nat.le_refl _)) (hc.g.trans (.ext hE)) (hc.b.trans (Below.iP hE hs.sat.bl)) (Nat.zero_le _)
 simpa using this
theorem ID{id:Nat}{l:List Oper}{y:Code}{t t':cd}{σ σm:cm}{Q:Exit→St→Prop}(f m:Nat)(σs:List cm)(gs:List GD)(T:cd)(hm:P.follows .mixedOrders=true)(hB:FX l.toArray f m gs=true)(hT:nM l (gs.map (·.p)) t=T)(hfr:(l.all fun o=>o.dst.all fun d=>(look d t).isNone)=true)(h0:σs[0]? =some σ)(h1:σs[m]? =some σm)
  (hL:GL P N l.toArray σs T l gs) (hsub:Sub T t') (hq:W P N L y ⟨t',σm⟩ Q):W P N L (.seq (.region id l.toArray true) y) ⟨t,σ⟩ Q:=ah (yi f m σs gs T hm hB hT hfr h0 h1 hL hsub hq)
theorem yz{P:Program}{σs:List cm}{t:cd}{o:Oper}{p:PV}{lo hi:Nat}(h:∀σ∈(σs.drop lo).take (hi+1 - lo),br P σ t o p):∀r σ,lo≤r→r≤hi→σs[r]? =some σ→br P σ t o p:=fun r σ h1 h2 hs=>by
 refine h σ (List.mem_of_getElem? (i:=r - lo) ?_)
 rw[List.getElem?_take,if_pos (by omega),List.getElem?_drop,show lo+(r - lo)=r by omega]
 exact hs
theorem gY{α:Type}{p:α→Prop}:∀x∈([]:List α),p x:=fun _ h=>by cases h
theorem fq{α:Type}{p:α→Prop}{a:α}{l:List α}(h:p a)(hs:∀x∈l,p x):∀x∈a::l,p x:=fun x hx=>by
 rcases List.mem_cons.1 hx with rfl|h'
 ·exact h
 ·exact hs x h'
end
end PW
end Go.Proofs.YtnegbdpggideiaaGreatDoor
namespace Go.Proofs.YtnegbdpggideiaaGreatDoor
namespace PW
open Go.RowKit cH Mem Net fw
theorem CY{P:Program}{N L:Nat}{x:Code}{st:St}{Q:Exit→St→Prop}{Q1:St→Prop}(h:W P N L x st (HZ Q1))(k:∀s,Q1 s→Q .normal s):W P N L x st Q:=
 h.mono fun e s hq=>by cases e<;>first|exact k s hq|exact hq.elim
theorem tp{T:an}(hv:ao T=true)(D:List Bool)(n d:Nat):(aX T D n d).length≤512:=by
 have hl:=bJ hv
 unfold aX
 split
 ·simp
 ·exact Nat.le_trans (List.length_filter_le _ _) (Nat.le_trans (ee T n _) (by omega))
theorem kH(T:an)(D:List Bool)(n d:Int):Can Tryz.prog 84 [aN T,aQ D,num n,num d] (· =flag (gh T D n d)):=by
 obtain⟨q,hq⟩:∃q,decide (fM T D n d=0)=q:=⟨_,rfl⟩
 unfold gh
 rw[hq]
 exact aE Tryz.func84 rfl Tryz.ntmps84 rfl<|ab (.a 2 rfl<|.k [1,2,3,4] rfl)<|ab (.a 4 rfl<|.c rfl (mg T D n d) rfl<|.a 5 rfl<|.k [10] rfl)<|ab (.a 1 rfl<|.v (b9 rfl (hq)) rfl<|.a 1 rfl<|.k [8] rfl)<|aq<|⟨_,_,aA.of rfl,aB.pure,rfl⟩
def gm(T:an)(k x:Int):List Bool:=if da T k x=0 then aC T k x else []
theorem se{T:an}{k x:Int}(h:(ao T&&bZ T k x)=true):gm T k x=aC T k x:=by
 unfold gm da
 rw[if_pos h,if_pos rfl]
theorem og(T:an)(k x n d:Int):Can Tryz.prog 98 [aN T,bW k x,num n,num d] (· =flag (gh T (gm T k x) n d)):=by
 have hmk:=mV T k x
 unfold iM at hmk
 exact aE Tryz.func98 rfl Tryz.ntmps98 rfl<|ab (.a 3 rfl<|.k [2,3,4,5] rfl)<|ab (.a 2 rfl<|.c rfl (hmk) rfl<|.a 5 rfl<|.k [2,3,4,9] rfl)<|ab (.a 4 rfl<|.c rfl (kH T (gm T k x) n d) rfl<|.a 1 rfl<|.k [8] rfl)<|aq<|⟨_,_,aA.of rfl,aB.pure,rfl⟩
theorem Aq{T:an}(hv:ao T=true){a:Nat}(ha:a<2*T.ae.length)(h:0<ga T a):(ao T&&bZ T 3 (ga T a))=true:=by
 have:=sR hv ha
 rw[hv]
 unfold bZ
 simp only[if_neg (show ¬(3:Int)=1 by decide),if_neg (show ¬(3:Int)=2 by decide),if_true,Bool.true_and,Bool.and_eq_true,decide_eq_true_eq]
 exact⟨by omega,by omega⟩
theorem vQ{T:an}(hv:ao T=true){a:Nat}(ha:a<2*T.ae.length):(ao T&&bZ T 2 (aW T a))=true:=by
 obtain⟨h0,h1⟩:=(aM hv).head a ha
 rw[hv]
 unfold bZ
 simp only[if_neg (show ¬(2:Int)=1 by decide),if_true,Bool.true_and]
 exact aT.2 ⟨h0,h1⟩
theorem oT(T:an)(a:Nat)(d:Int)(hv:ao T=true)(ha:a<2*T.ae.length)(hd:0≤d∧d<T.nodes):Can Tryz.prog 45 [aN T,num a,num d] (· = .tuple [bW (cA T a d).1 (cA T a d).2,num 0]):=by
 have hll:=bJ hv
 have hi:a / 2<T.ae.length:=by omega
 obtain⟨g,hg⟩:∃g,ga T a=g:=⟨_,rfl⟩
 obtain⟨h,hh⟩:∃h,aW T a=h:=⟨_,rfl⟩
 obtain⟨m,hm⟩:∃m,aZ T a=m:=⟨_,rfl⟩
 have hgv:=Aq hv ha
 have hnv:=vQ hv ha
 have hrh:=gR T hv a ha
 have hrt:=eN T hv a ha
 have hgl:(cB T.ae (a / 2)).uz=g:=hg
 rw[hh]at hnv hrh
 rw[hg]at hgv
 rw[hm]at hrt
 obtain⟨c1,hc1⟩:∃q,decide (0<g)=q:=⟨_,rfl⟩
 obtain⟨c2,hc2⟩:∃q,gh T (gm T 3 g) m d=q:=⟨_,rfl⟩
 obtain⟨c3,hc3⟩:∃q,decide (h≠d)=q:=⟨_,rfl⟩
 obtain⟨c4,hc4⟩:∃q,gh T (gm T 2 h) m d=q:=⟨_,rfl⟩
 have hA:cA T a d=if(c1&&c2)=true then(3,g) else if(c3&&c4)=true then(2,h) else(1,((a / 2:Nat):Int)):=by
  unfold cA
  rw[hg,hh,hm,hc1,hc3,←se hnv,hc4]
  congr 1
  cases c1 with
  |false=>rfl
  |true=>rw[←se (hgv (tt hc1)),hc2]
 have hw1:=og T 3 g m d
 rw[hc2]at hw1
 have hw2:=og T 2 h m d
 rw[hc4]at hw2
 rw[hA]
 refine aE Tryz.func45 rfl Tryz.ntmps45 rfl<|aP<|av 3 rfl<|aG [1,2,3,6] rfl ?_
 refine ah<|ab (.a 1 rfl<|.c rfl (hv▸fX T) rfl<|.a 1 rfl<|.k [1,2,3,6,14] rfl)<|ag rfl (fun h1=>?_) (fun h1=>?_)
 ·exact absurd h1 (by decide)
 ·clear h1
  refine ai<|ah<|bu 35 (.raw (.bool (false))) [1,2,3,6] rfl ?_ ?_
  ·exact .a 1 rfl<|.v (b9 rfl (show decide ((a:Int)<0)=false from decide_eq_false (by omega))) rfl<|.a 5 rfl<|.v (aS rfl (hc:=rfl)) rfl<|.v (b9 rfl (show decide (2*(T.ae.length:Int)≤(a:Int))=false from decide_eq_false (by omega))) rfl<|.a 3 rfl<|.v (b9 rfl (show decide (d<0)=false from decide_eq_false (by omega))) rfl<|.a 5 rfl<|.v (b9 rfl (show decide (T.nodes≤d)=false from decide_eq_false (by omega))) rfl<|.a 1 rfl<|.k [35,1,2,3,6] rfl
  refine ag rfl (fun h1=>?_) (fun h1=>?_)
  ·exact absurd h1 (by decide)
  ·clear h1
   refine ai<|dY mixed (by kernel_rfl) (.a 2 rfl<|.v [37,38] (dJ rfl (hrt)) rfl rfl<|.a 2 rfl<|.v [40,41] (dJ rfl (hrh)) rfl rfl<|.a 2 rfl<|.k [1,2,3,6,8,9] rfl) ?_
   refine aP<|av 3 rfl<|bC (iQ rfl rfl rfl (by decide) ((show(a:Int).tdiv 2=((a / 2:Nat):Int) by rw[Int.tdiv_eq_ediv_of_nonneg (by omega)];omega)) (by unfold In64;omega)) rfl<|bC (aJ ((a / 2*7)) rfl) rfl<|av 1 rfl<|bC (aL rfl ((eG T.ae (a / 2) 6 hi (by omega)).trans (show(jK (cB T.ae (a / 2)))[6]? =some (num g) by rw[←hgl];rfl))) rfl<|av 3 rfl<|aG [1,2,3,6,8,9,10] rfl ?_
   refine aP<|av 4 rfl<|aG [1,2,3,6,8,9,10,11] rfl ?_
   refine ah<|au<|bu 53 (.raw (.bool (c1&&c2))) [1,2,3,6,8,9,10,11] rfl ?_ ?_
   ·refine .a 2 rfl<|.v (b9 rfl (hc1)) rfl<|.a 1 rfl<|?_
    cases c1
    ·exact .a 7 rfl<|.k [53,1,2,3,6,8,9,10,11] rfl
    ·exact .a 4 rfl<|.c rfl (hw1) rfl<|.a 2 rfl<|.k [53,1,2,3,6,8,9,10,11] rfl
   refine ag rfl (fun h1=>?_) (fun h1=>?_)
   ·rw[if_pos h1]
    refine aP<|av 3 rfl<|aG [6,7] rfl ?_
    exact aq<|⟨_,_,aA.of rfl,aB.pure (p:=.tuple [bW 3 g,num 0]),rfl⟩
   ·rw[if_neg (by rw[h1];simp)]
    refine bu 65 (.raw (.bool (c3&&c4))) [1,6,11] rfl ?_ ?_
    ·refine .a 2 rfl<|.v (b9 rfl (hc3)) rfl<|.a 1 rfl<|?_
     cases c3
     ·exact .a 7 rfl<|.k [65,1,6,11] rfl
     ·exact .a 4 rfl<|.c rfl (hw2) rfl<|.a 2 rfl<|.k [65,1,6,11] rfl
    refine ag rfl (fun h2=>?_) (fun h2=>?_)
    ·rw[if_pos h2]
     refine aP<|av 3 rfl<|aG [6,7] rfl ?_
     exact aq<|⟨_,_,aA.of rfl,aB.pure (p:=.tuple [bW 2 h,num 0]),rfl⟩
    ·rw[if_neg (by rw[h2];simp)]
     refine ai<|aP<|av 1 rfl<|bC (iQ rfl rfl rfl (by decide) ((show(a:Int).tdiv 2=((a / 2:Nat):Int) by rw[Int.tdiv_eq_ediv_of_nonneg (by omega)];omega)) (by unfold In64;omega)) rfl<|av 3 rfl<|aG [6,7] rfl ?_
     exact aq<|⟨_,_,aA.of rfl,aB.pure (p:=.tuple [bW 1 ((a / 2:Nat):Int),num 0]),rfl⟩
theorem xX(T:an)(n d:Nat)(hv:ao T=true)(hn:(n:Int)<T.nodes)(hd:(d:Int)<T.nodes):Can Tryz.prog 138 [aN T,aQ [],num n,num d] (· =aw (aX T [] n d)):=by
 have hll:=bJ hv
 have he:cf T [] [(d:Int)]=0:=by
  unfold cf
  rw[hv,fU]
  simp[aT.2 (show 0≤(d:Int)∧(d:Int)<T.nodes by omega)]
 have hrd:=gU T [] (d:Int)
 rw[he,Int.toNat_natCast]at hrd
 unfold dh at hrd
 rw[if_pos rfl]at hrd
 obtain⟨hb1,hb2⟩:=cI (D:=[]) hv (dir:=false) hd
 rw[←pg T [] n d hv hn]
 generalize bn T [] d false=L at*
 refine aE Tryz.func138 rfl Tryz.ntmps138 rfl<|ab (.a 2 rfl<|.k [1,2,3,4] rfl)<|ab (.a 3 rfl<|.c rfl (hrd) rfl<|.a 5 rfl<|.k [1,2,3,4,9,10] rfl)<|ab (.a 1 rfl<|.k [1,2,3,4,9,10,11] rfl)<|fp 11 3 1 rfl ?_
 refine ah<|ab (.a 1 rfl<|.k [1,2,3,4,9,10,11,12] rfl)<|au<|eu [1,2,3,4,9,10,11,12] rfl<|bf (fun r s=>∃k,k≤2*T.ae.length∧r=2*T.ae.length - k∧s=⟨[(1,aQ []),(2,num n),(3,num d),(4,.aY (bq T) 0),(9,aw L),(10,num 0),(11,.own 0),(12,num k)],[some (.row 3 1 (fE T [] L n d k).length (aR (fE T [] L n d k)))]⟩) (2*T.ae.length) ⟨0,by omega,by omega,rfl⟩ ?_
 rintro r s ⟨k,hk,rfl,rfl⟩
 obtain⟨p0,hp0⟩:∃q,decide ((k:Int)<2*(T.ae.length:Int))=q:=⟨_,rfl⟩
 refine ah<|bu 29 (.raw (.bool (p0))) [1,2,3,4,9,10,11,12] rfl ?_ ?_
 ·exact .a 1 rfl<|.v (b9 rfl (show decide ((0:Int)=0)=true from rfl)) rfl<|.a 5 rfl<|.v (aS rfl (hc:=rfl)) rfl<|.v (b9 rfl (hp0)) rfl<|.a 1 rfl<|.k [29,1,2,3,4,9,10,11,12] rfl
 refine ag rfl (fun h1=>?_) (fun h1=>?_)
 ·have hlt:k<2*T.ae.length:=by rw[h1]at hp0;have:=tt hp0;omega
  have hlen:=pN T [] L n d k
  have hst:=nW T [] L n d k
  clear h1 hp0
  refine ai<|ah<|au ?_
  obtain⟨p1,hp1⟩:∃q,decide (aZ T k=(n:Int))=q:=⟨_,rfl⟩
  obtain⟨p2,hp2⟩:∃q,vI T [] L k d=q:=⟨_,rfl⟩
  refine bu 44 (.raw (.bool (p1&&p2))) [1,2,3,4,9,10,11,12] rfl ?_ ?_
  ·refine .a 2 rfl<|.c rfl (eN T hv k hlt) rfl<|.a 1 rfl<|.v (b9 rfl (hp1)) rfl<|.a 1 rfl<|?_
   cases p1
   ·exact .a 7 rfl<|.k [44,1,2,3,4,9,10,11,12] rfl
   ·exact .a 5 rfl<|.c rfl (hp2▸uL T [] L k d hv (fU T) hb1 hb2 hlt) rfl<|.a 1 rfl<|.k [44,1,2,3,4,9,10,11,12] rfl
  refine ag rfl (fun h2=>?_) (fun h2=>?_)
  ·rw[hp1,hp2,h2,if_pos rfl]at hst
   refine bF<|av 3 rfl<|cp (bA rfl (bI.rk.get rfl) rfl rfl rfl rfl (by unfold maxLen;omega)) rfl<|av 1 rfl ?_
   refine dD [1] (.c 1<|.c 2<|.c 3<|.c 4<|.c 9<|.c 10<|.c 11<|.c 12<|.nil) (.kept rfl (.eJ rfl (cN _ _))<|.nil) rfl rfl (bc ?_)
   refine az (.a 1 rfl<|.v (aS rfl) rfl<|.a 1 rfl<|.k [1,2,3,4,9,10,11,12] rfl) ?_
   refine⟨2*T.ae.length - (k+1),by omega,k+1,by omega,rfl,?_⟩
   rw[hst]
   first
    |rfl
    |(simp only[List.length_append,List.length_singleton];rfl)
  ·rw[hp1,hp2,h2,if_neg (by simp),List.append_nil]at hst
   refine ai<|az (.a 1 rfl<|.v (aS rfl) rfl<|.a 1 rfl<|.k [1,2,3,4,9,10,11,12] rfl) ?_
   refine⟨2*T.ae.length - (k+1),by omega,k+1,by omega,rfl,?_⟩
   rw[hst]
   first
    |rfl
    |(simp only[List.length_append,List.length_singleton];rfl)
 ·have hke:k=2*T.ae.length:=by rw[h1]at hp0;have:=ff hp0;omega
  subst hke
  clear hp0 h1
  exact ba<|ab (.a 2 rfl<|.k [8] rfl)<|aq<|⟨_,_,aA.of rfl,aB.eH rfl aj.pure,rfl⟩
theorem yA(T:an)(k x:Int)(hm:(ao T&&bZ T k x)=true)(σ:cm):bS Tryz.prog 32 [aN T,bW k x] σ (fun r σ'=>r= .tuple [.own σ.length,num 0]∧σ'=σ++[iZ (aC T k x)]):=by
 refine bS.frame (bS.mono (rU T k x) ?_)
 rintro r σ' (⟨h1,_⟩|⟨_,rfl,rfl⟩)
 ·rw[hm]at h1;cases h1
 ·exact⟨[.row 4 1 (aC T k x).length (bQ (aC T k x))],rfl,_,_,Up.bx (kC.cons (Up.own rfl) (kC.cons Up.pure kC.nil)),mf.cons (.row kC.pure) mf.nil,by simp,rfl⟩
def jD(T:an)(D E:List Bool)(k:Nat):List Bool:=(List.range (2*T.ae.length)).map fun a=>if a<k then aI D a||aI E a else aI D a
theorem ou(T:an)(D E:List Bool)(k:Nat):(jD T D E k).length=2*T.ae.length:=by simp[jD]
theorem oJ{T:an}{D E:List Bool}{k i:Nat}(h:i<(jD T D E k).length):(jD T D E k)[i]=if i<k then aI D i||aI E i else aI D i:=by simp[jD]
theorem Ad{M:List Bool}{a:Nat}(h:a<M.length):aI M a=M[a]:=by rw[←ed];simp[h]
theorem ti{T:an}{D E:List Bool}(h:D.length=2*T.ae.length):jD T D E 0=D:=by
 apply List.ext_getElem (by rw[ou,h])
 intro i h1 h2
 rw[oJ,if_neg (by omega),Ad h2]
theorem wF(T:an)(D E:List Bool):jD T D E (2*T.ae.length)=orM T D E:=by
 unfold jD orM
 exact List.map_congr_left fun a ha=>if_pos (List.mem_range.1 ha)
theorem tK(T:an)(D E:List Bool)(k:Nat):(jD T D E k).set k (aI D k||aI E k)=jD T D E (k+1):=by
 apply List.ext_getElem (by simp[jD])
 intro i h1 h2
 rw[List.getElem_set,oJ,oJ]
 by_cases e:k=i
 ·subst e;rw[if_pos rfl,if_pos (by omega)]
 ·rw[if_neg e]
  by_cases h:i<k
  ·rw[if_pos h,if_pos (by omega)]
  ·rw[if_neg h,if_neg (by omega)]
theorem Aw{T:an}{D E:List Bool}{k:Nat}(h:k<2*T.ae.length):(jD T D E k).getD k false=aI D k:=by
 have hk:k<(jD T D E k).length:=by rw[ou];exact h
 rw[List.getD_eq_getElem?_getD,List.getElem?_eq_getElem hk,Option.getD_some,oJ,if_neg (by omega)]
def A5(o:Option Int):Int:=match o with|some a=>a|none=> -1
theorem C3(own:List Bool)(l:List Int)(i:Nat)(h:i<l.length):ev own (l.take (i+1))=(ev own (l.take i)).or (if aI own (l.getD i 0).toNat then some (l.getD i 0) else none):=by
 unfold ev
 rw[dc l i 0 h,List.find?_append]
 congr 1
 simp only[List.find?_cons,List.find?_nil]
 cases aI own (l.getD i 0).toNat<;>rfl
set_option maxHeartbeats 2000000 in
theorem Fc(T:an)(own:List Bool)(n d:Nat)(hv:ao T=true)(hfo:own.length=2*T.ae.length)(hn:(n:Int)<T.nodes)(hd:(d:Int)<T.nodes)(h12:T.nodes≤12):Can Tryz.prog 96 [aN T,aQ own,num n,num d] (· =rM (gN T own n d)):=by
 have hll:=bJ hv
 have hof:bN T own=true:=by unfold bN;rw[hfo];simp
 have hnb:bd T (n:Int)=true:=aT.2 ⟨by omega,hn⟩
 have hdb:bd T (d:Int)=true:=aT.2 ⟨by omega,hd⟩
 have htw:=xX T n d hv hn hd
 have hlen:=tp hv [] n d
 have hmem:∀a∈aX T [] n d,∃k:Nat,a=(k:Int)∧k<2*T.ae.length:=fun a ha=>by
  obtain⟨k,hk,hkn⟩:=cL ha
  exact⟨k,hk,hkn.eU⟩
 unfold gN
 obtain⟨l,hl⟩:∃l,aX T [] n d=l:=⟨_,rfl⟩
 rw[hl]at htw hlen hmem ⊢
 refine aE Tryz.func96 rfl Tryz.ntmps96 rfl<|aP<|av 2 rfl<|aG [1,2,3,4,8] rfl ?_
 refine ab (.a 3 rfl<|.v (sn rfl (aj.cons aB.pure<|aj.cons aB.bT<|aj.cons aB.pure<|aj.cons aB.pure aj.nil) (htw)) rfl<|.a 1 rfl<|.k [1,2,3,4,8,9] rfl)<|ab (.a 1 rfl<|.k [1,2,3,4,8,9,10] rfl)<|ah<|ab (.a 1 rfl<|.k [1,2,3,4,8,9,10,11] rfl)<|au<|eu [1,2,3,4,8,9,10,11] rfl<|bf (fun r s=>∃i,i≤l.length∧r=l.length - i∧s=⟨[(1,aQ own),(2,num n),(3,num d),(4,.aY (bq T) 0),(8,.ptr 0 0),(9,aw l),(10,num (A5 (ev own (l.take i)))),(11,num i)],[some (.cells 76 [.raw (.slice none 0 0),flag false,.raw (.slice none 0 0)])]⟩) l.length ⟨0,by omega,by omega,rfl⟩ ?_
 rintro r s ⟨i,hi,rfl,rfl⟩
 refine ah<|ab (.a 4 rfl<|.k [1,2,3,4,8,9,10,11,26] rfl)<|ag rfl (fun h1=>?_) (fun h1=>?_)
 ·have hlt:i<l.length:=by have:=tt h1;omega
  obtain⟨k,hk,hkl⟩:=hmem _ (bO (d:=0) hlt)
  have hst:=C3 own l i hlt
  rw[hk,Int.toNat_natCast]at hst
  clear h1
  refine ai<|ah<|au ?_
  obtain⟨c1,hc1⟩:∃q,decide (A5 (ev own (l.take i))<0)=q:=⟨_,rfl⟩
  obtain⟨c2,hc2⟩:∃q,aI own k=q:=⟨_,rfl⟩
  have hh:(ev own (l.take i)=none∧c1=true)∨∃b,ev own (l.take i)=some b∧c1=false:=by
   cases hx:ev own (l.take i)with
   |none=>rw[hx]at hc1;exact .inl ⟨rfl,by rw[←hc1];rfl⟩
   |some b=>
    refine .inr ⟨b,rfl,?_⟩
    obtain⟨k',hk',_⟩:=hmem b (List.mem_of_mem_take (iw hx).1)
    rw[←hc1,hx]
    exact decide_eq_false (by show ¬b<0;omega)
  refine bu 39 (.raw (.bool (c1&&c2))) [1,2,3,4,8,9,10,11] rfl ?_ ?_
  ·refine .a 1 rfl<|.v (b9 rfl (hc1)) rfl<|.a 1 rfl<|?_
   cases c1
   ·exact .a 8 rfl<|.k [39,1,2,3,4,8,9,10,11] rfl
   ·exact .a 3 rfl<|.v (aJ (i) rfl) rfl<|.v (aL rfl ((ax l i hlt).trans (by rw[hk]))) rfl<|.v (aJ (k) rfl) rfl<|.v (aL rfl ((show _=some (flag c2) by rw[cF _ k (by omega),ed,hc2]))) rfl<|.a 1 rfl<|.k [39,1,2,3,4,8,9,10,11] rfl
  refine ag rfl (fun h2=>?_) (fun h2=>?_)
  ·have hnew:A5 (ev own (l.take (i+1)))=(k:Int):=by
    rcases hh with⟨h,rfl⟩|⟨b,h,rfl⟩
    ·rw[hst,h,hc2];cases h2;rfl
    ·cases h2
   refine az (.a 2 rfl<|.v (aJ (i) rfl) rfl<|.v (aL rfl ((ax l i hlt).trans (by rw[hk]))) rfl<|.a 1 rfl<|.k [1,2,3,4,8,9,10,11] rfl) ?_
   refine az (.a 1 rfl<|.v (aS rfl) rfl<|.a 1 rfl<|.k [1,2,3,4,8,9,10,11] rfl) ?_
   exact⟨l.length - (i+1),by omega,i+1,by omega,rfl,by rw[hnew];rfl⟩
  ·have hnew:A5 (ev own (l.take (i+1)))=A5 (ev own (l.take i)):=by
    rcases hh with⟨h,rfl⟩|⟨b,h,rfl⟩
    ·have h2:c2=false:=h2
     rw[hst,h,hc2,h2];rfl
    ·rw[hst,h];rfl
   refine ai<|az (.a 1 rfl<|.v (aS rfl) rfl<|.a 1 rfl<|.k [1,2,3,4,8,9,10,11] rfl) ?_
   exact⟨l.length - (i+1),by omega,i+1,by omega,rfl,by rw[hnew];rfl⟩
 ·have hie:i=l.length:=by have:=ff h1;omega
  subst hie
  rw[List.take_length]
  clear h1
  refine ba<|ah<|ab (.a 2 rfl<|.k [1,2,3,4,8,9,10,45] rfl)<|ag rfl (fun h3=>?_) (fun h3=>?_)
  ·have hno:ev own l=none:=by
    cases hx:ev own l with
    |none=>rfl
    |some b=>
     rw[hx]at h3
     obtain⟨k',hk',_⟩:=hmem b (iw hx).1
     exact absurd (tt h3) (by show ¬b<0;omega)
   rw[hno]
   refine aP<|av 3 rfl<|aG [8] rfl ?_
   exact aq<|⟨_,_,aA.of rfl,aB.fR (aj.cons (aB.pure (p:=aw l))<|aj.cons aB.pure<|aj.cons aB.bT aj.nil),rfl⟩
  ·obtain⟨a,ha⟩:∃a,ev own l=some a:=by
    cases hx:ev own l with
    |none=>rw[hx]at h3;exact absurd h3 (by decide)
    |some b=>exact⟨b,rfl⟩
   obtain⟨k,rfl,hk⟩:=hmem a (iw ha).1
   rw[ha]
   simp only[A5]
   rw[Int.toNat_natCast]
   have hcm:(ao T&&bZ T (cA T k d).1 (cA T k d).2)=true:=by rw[hv,ow hv hk];rfl
   have hcn:=oT T k d hv hk ⟨by omega,hd⟩
   have hmk:=fun σ=>yA T (cA T k d).1 (cA T k d).2 hcm σ
   have hmx:lr T own n d k=if gh T (orM T (aC T (cA T k d).1 (cA T k d).2) own) n d=true then orM T (aC T (cA T k d).1 (cA T k d).2) own else own:=rfl
   generalize cA T k (d:Int)=cx at*
   obtain⟨ck,cy⟩:=cx
   simp only at hcm hcn hmk hmx
   have hMl:=ez T ck cy
   obtain⟨M,hM⟩:∃M,aC T ck cy=M:=⟨_,rfl⟩
   rw[hM]at hmk hmx hMl
   have hre:=yq T (lr T own n d k) n d h12
   rw[mK hv (ke hof k) hnb hdb]at hre
   clear h3 hmem
   refine ai<|aP<|av 3 rfl<|ec rfl (hcn) rfl<|av 6 rfl<|aG [1,2,3,4,8,12] rfl ?_
   refine aP<|av 2 rfl<|cP rfl rfl (bS.mono (hmk _) (fun r σ' h=>?_))
   obtain⟨rfl,rfl⟩:=h
   refine av 5 rfl<|aG [1,2,3,4,8,14] rfl ?_
   refine ah<|ab (.a 1 rfl<|.k [1,2,3,4,8,14,16] rfl)<|er (σ':=[some (.cells 76 [.raw (.slice none 0 0),flag false,.raw (.slice none 0 0)]),some (.cells 33 [num ck,num cy]),iZ (jD T M own 0)]) (by rw[ti hMl];rfl) ?_
   refine au<|eu [1,2,3,4,8,14,16] rfl<|bf (fun r s=>∃a,a≤2*T.ae.length∧r=2*T.ae.length - a∧s=⟨[(1,aQ own),(2,num n),(3,num d),(4,.aY (bq T) 0),(8,.ptr 0 0),(14,.own 2),(16,num a)],[some (.cells 76 [.raw (.slice none 0 0),flag false,.raw (.slice none 0 0)]),some (.cells 33 [num ck,num cy]),iZ (jD T M own a)]⟩) (2*T.ae.length) ⟨0,by omega,by omega,rfl⟩ ?_
   rintro r s ⟨a,ha2,rfl,rfl⟩
   have hol:=ou T M own a
   refine ah<|ab (.a 4 rfl<|.k [1,2,3,4,8,14,16,64] rfl)<|ag rfl (fun h4=>?_) (fun h4=>?_)
   ·have hlt:a<2*T.ae.length:=by have:=tt h4;omega
    have hst:=tK T M own a
    have hat:=Aw (T:=T) (D:=M) (E:=own) hlt
    clear h4
    refine ai<|ah<|au ?_
    obtain⟨c1,hc1⟩:∃q,aI M a=q:=⟨_,rfl⟩
    obtain⟨c2,hc2⟩:∃q,aI own a=q:=⟨_,rfl⟩
    rw[hc1,hc2]at hst
    rw[hc1]at hat
    refine CY (Q1:=fun st=>st=⟨[(1,aQ own),(2,num n),(3,num d),(4,.aY (bq T) 0),(8,.ptr 0 0),(14,.own 2),(16,num a)],[some (.cells 76 [.raw (.slice none 0 0),flag false,.raw (.slice none 0 0)]),some (.cells 33 [num ck,num cy]),iZ (jD T M own (a+1))]⟩) ?_ ?_
    ·cases c1
     ·refine bF<|av 4 rfl<|bC (aJ (a) rfl) rfl<|bC (aL rfl ((show(bQ (jD T M own a))[a]? =some (flag false) by rw[cF _ a (by omega),hat]))) rfl<|av 3 rfl<|bC (aJ (a) rfl) rfl<|bC (aL rfl ((show(bQ own)[a]? =some (flag c2) by rw[cF _ a (by omega),ed,hc2]))) rfl<|av 1 rfl<|bC (aJ (a) rfl) rfl<|bg ((by first|exact bE rfl (bI.tk.get rfl) rfl rfl rfl (by first|omega|(simp;omega))|exact aV rfl (bI.tk.get rfl) rfl rfl rfl (by first|omega|(simp;omega)))) rfl rfl<|aG [1,2,3,4,8,14,16] rfl ?_
      rw[←hst]
      unfold iZ
      rw[List.length_set]
      rfl
     ·refine bF<|av 4 rfl<|bC (aJ (a) rfl) rfl<|bC (aL rfl ((show(bQ (jD T M own a))[a]? =some (flag true) by rw[cF _ a (by omega),hat]))) rfl<|av 6 rfl<|bC (aJ (a) rfl) rfl<|bg ((by first|exact bE rfl (bI.tk.get rfl) rfl rfl rfl (by first|omega|(simp;omega))|exact aV rfl (bI.tk.get rfl) rfl rfl rfl (by first|omega|(simp;omega)))) rfl rfl<|aG [1,2,3,4,8,14,16] rfl ?_
      rw[←hst]
      unfold iZ
      rw[List.length_set]
      rfl
    rintro _ rfl
    refine az (.a 1 rfl<|.v (aS rfl) rfl<|.a 1 rfl<|.k [1,2,3,4,8,14,16] rfl) ?_
    exact⟨2*T.ae.length - (a+1),by omega,a+1,by omega,rfl,rfl⟩
   ·have hae:a=2*T.ae.length:=by have:=ff h4;omega
    subst hae
    rw[wF]
    clear h4
    refine ba<|ah<|zl 14 2 rfl rfl ?_
    refine dx [0] (.c 1<|.c 2<|.c 3<|.c 4<|.c 8<|.c 14<|.nil) (.kept rfl (.cells (aF.c<|aF.c<|aF.c<|aF.nil))<|.nil) rfl rfl ?_
    obtain⟨q,hq⟩:∃q,gh T (orM T M own) n d=q:=⟨_,rfl⟩
    rw[hq]at hmx
    refine ab (.a 4 rfl<|.c rfl (hq▸kH T (orM T M own) n d) rfl<|.a 1 rfl<|.k [1,2,3,4,8,14,85] rfl)<|ag rfl (fun h5=>?_) (fun h5=>?_)
    ·have h5:q=false:=by simpa using h5
     rw[h5,if_neg (by simp)]at hmx
     rw[hmx]at hre ⊢
     refine az (.a 2 rfl<|.k [2,3,4,8,14] rfl) ?_
     refine aP<|av 4 rfl<|ec rfl (hre) rfl<|av 6 rfl<|aG [8,17] rfl ?_
     refine aP<|av 2 rfl<|aG [8] rfl ?_
     exact aq<|⟨_,_,aA.of rfl,aB.pure (p:=rM _),rfl⟩
    ·have h5:q=true:=by simpa using h5
     rw[h5,if_pos rfl]at hmx
     rw[hmx]at hre ⊢
     refine ai<|aP<|av 4 rfl<|ec rfl (hre) rfl<|av 6 rfl<|aG [8,17] rfl ?_
     refine aP<|av 2 rfl<|aG [8] rfl ?_
     exact aq<|⟨_,_,aA.of rfl,aB.pure (p:=rM _),rfl⟩
theorem Cs(T:an)(k x n:Int)(h12:T.nodes≤12):Can Tryz.prog 43 [aN T,bW k x,num n] (· =iW (if da T k x=0 then(if bd T n then 0 else 2) else 1) (kV T (aC T k x) n.toNat)):=by
 obtain⟨q0,hq0⟩:∃q,(ao T&&bZ T k x)=q:=⟨_,rfl⟩
 refine aE Tryz.func43 rfl Tryz.ntmps43 rfl<|aP<|av 4 rfl<|aG [2,3,4,6] rfl ?_
 refine ah<|ab (.a 2 rfl<|.c rfl (hq0▸fD T k x) rfl<|.a 1 rfl<|.k [2,3,4,6,15] rfl)<|ag rfl (fun h1=>?_) (fun h1=>?_)
 ·have h1:q0=false:=by simpa using h1
  have he:da T k x=1:=by unfold da;rw[hq0,h1];rfl
  rw[he]
  refine aP<|av 3 rfl<|aG [6,7] rfl ?_
  exact aq<|⟨_,_,aA.of rfl,aB.bx (aj.cons (aB.fR (aj.cons aB.pure<|aj.cons aB.bT<|aj.cons aB.bT aj.nil)) (aj.cons aB.pure aj.nil)),rfl⟩
 ·have h1:q0=true:=by simpa using h1
  subst h1
  have he:da T k x=0:=by unfold da;rw[if_pos hq0]
  rw[he,if_pos rfl]
  obtain⟨hv,hc⟩:=Bool.and_eq_true_iff.1 hq0
  have hll:=bJ hv
  refine ai<|ah ?_
  obtain⟨q1,hq1⟩:∃q,decide (n<0)=q:=⟨_,rfl⟩
  obtain⟨q2,hq2⟩:∃q,decide (T.nodes≤n)=q:=⟨_,rfl⟩
  have hnb:bd T n= !(q1||q2):=by rw[←hq1,←hq2];unfold bd;by_cases h1:n<0<;>by_cases h2:T.nodes≤n<;>simp[h1,h2]<;>omega
  refine bu 24 (.raw (.bool (q1||q2))) [2,3,4,6] rfl ?_ ?_
  ·refine .a 1 rfl<|.v (b9 rfl (hq1)) rfl<|.a 1 rfl<|?_
   cases q1
   ·exact .a 3 rfl<|.v (b9 rfl (hq2)) rfl<|.a 1 rfl<|.k [24,2,3,4,6] rfl
   ·exact .a 5 rfl<|.k [24,2,3,4,6] rfl
  refine ag rfl (fun h2=>?_) (fun h2=>?_)
  ·have hn:bd T n=false:=by rw[hnb,h2];rfl
   rw[hn]
   refine aP<|av 3 rfl<|aG [6,7] rfl ?_
   exact aq<|⟨_,_,aA.of rfl,aB.bx (aj.cons (aB.fR (aj.cons aB.pure<|aj.cons aB.bT<|aj.cons aB.bT aj.nil)) (aj.cons aB.pure aj.nil)),rfl⟩
  ·have hn:bd T n=true:=by rw[hnb,h2];rfl
   rw[hn,if_pos rfl]
   rw[aT]at hn
   obtain⟨m,rfl⟩:=Int.eq_ofNat_of_zero_le hn.1
   rw[Int.toNat_natCast]
   obtain⟨N,hN⟩:∃N:Nat,T.nodes=(N:Int):=⟨T.nodes.toNat,by omega⟩
   have hdw:=tn T k x m hq0
   obtain⟨M,hM⟩:∃M,aC T k x=M:=⟨_,rfl⟩
   rw[hM]at hdw ⊢
   unfold kV
   have hol:(dr T M m).length=2*T.ae.length:=by simp[dr]
   obtain⟨own,hown⟩:∃own,dr T M m=own:=⟨_,rfl⟩
   rw[hown]at hdw hol ⊢
   refine ai<|ab (.a 3 rfl<|.c rfl (hdw) rfl<|.a 5 rfl<|.k [2,3,6,8,9] rfl)<|aP<|av 2 rfl<|bC (EO (ia (xs:=[_,_,_]) rfl (bI.st.get rfl) rfl rfl) (kB.refl _)) rfl<|av 2 rfl<|aG [2,3,6,9,10] rfl ?_
   refine cn 1 1 76 3 rfl rfl ?_
   refine ah<|ab (.a 1 rfl<|.k [2,3,6,9,10,11] rfl)<|au<|eu [2,3,6,9,10,11] rfl<|bf (fun r s=>∃j,j≤N∧r=N - j∧s=⟨[(2,num m),(3,.aY (bq T) 0),(6,.ptr 0 0),(9,aQ own),(10,.ptr 1 0),(11,num j)],[some (.cells 56 [num 0,.raw (.slice none 0 0),.raw (.slice none 0 0)]),some (.cells 56 [num m,.own 2,aw (cr M (bG T m))]),some (.row 76 3 j (di (lT T own m j)))]⟩) N ⟨0,by omega,by omega,rfl⟩ ?_
   rintro r s ⟨j,hj,rfl,rfl⟩
   refine ah<|ab (.a 2 rfl<|.v (aL rfl ((show some (num T.nodes)=some (num (N:Int)) by rw[hN]))) rfl<|.a 1 rfl<|.k [2,3,6,9,10,11,39] rfl)<|ag rfl (fun h3=>?_) (fun h3=>?_)
   ·have hlt:j<N:=by have:=tt h3;omega
    have hre:=Fc T own m j hv hol hn.2 (by omega) h12
    refine ai<|ah<|au<|dp 8 20 mixed (
     .val [10] rfl (bH rfl) rfl rfl<|
     .val [42] rfl (bH rfl) rfl rfl<|
     .val [3] rfl (bH rfl) rfl rfl<|
     .val [9] rfl (bH rfl) rfl rfl<|
     .val [2] rfl (bH rfl) rfl rfl<|
     .val [11] rfl (bH rfl) rfl rfl<|
     .val [44,45,46,47] rfl (dJ rfl (hre)) rfl rfl<|
     .val [48] rfl (bH rfl) rfl rfl<|
     .nil) (by kernel_rfl) rfl rfl (bm (ks:=[2,3,6,9,10,11,43,49]) rfl) ?_
    refine cp (bA rfl (bI.rk.get rfl) rfl rfl rfl rfl (by unfold maxLen;omega)) rfl<|av 2 rfl ?_
    refine dD [0,1,3] (.c 2<|.c 3<|.c 6<|.c 9<|.c 10<|.c 11<|.nil) (.kept rfl (.cells (aF.c<|aF.c<|aF.c<|aF.nil))<|.kept rfl (.cells (aF.c<|aF.c<|aF.c<|aF.nil))<|.kept rfl (.eJ rfl (show _=di (lT T own m (j+1)) by rw[tO];exact kM _ _))<|.nil) rfl rfl (bc ?_)
    refine az (.a 1 rfl<|.v (aS rfl) rfl<|.a 1 rfl<|.k [2,3,6,9,10,11] rfl) ?_
    exact⟨N - (j+1),by omega,j+1,by omega,rfl,rfl⟩
   ·have hje:j=N:=by have:=ff h3;omega
    subst hje
    refine ba<|aP<|bC (eR (ys:=[num m,.own 2,aw (cr M (bG T m))]) rfl (bI.tk.get rfl) rfl rfl rfl rfl) rfl<|av 2 rfl<|aG [6,7] rfl ?_
    refine aq<|⟨_,_,aA.of rfl,aB.bx (aj.cons (aB.fR (aj.cons aB.pure<|aj.cons (aB.eH rfl aj.pure)<|aj.cons aB.pure aj.nil)) (aj.cons aB.pure aj.nil)),?_⟩
    unfold iW fZ fN jT aw
    rw[if_pos rfl,mb,show T.nodes.toNat=j by omega]
end PW
end Go.Proofs.YtnegbdpggideiaaGreatDoor
namespace Go.Proofs.YtnegbdpggideiaaGreatDoor
namespace PW
open Go.RowKit cH Mem Net
theorem BE(rs:List (List Int))(i:Nat)(hi:i<rs.length):Can Tryz.prog 204 ([num i]++[.aY [jt rs] 0]) (· =aw (rs.getD i [])):=by
 exact aE Tryz.func204 rfl Tryz.ntmps204 rfl<|ab (.a 1 rfl<|.k [0,1] rfl)<|ab (.a 2 rfl<|.v (aJ (i) rfl) rfl<|.v (aL rfl ((show(rs.map aw)[i]? =some (aw (rs.getD i [])) by simp[hi]))) rfl<|.a 1 rfl<|.k [3] rfl)<|aq<|⟨_,_,aA.of rfl,aB.pure,rfl⟩
theorem Cr(T:an)(a:Nat)(ha:a<2*T.ae.length)(hl:T.ae.length≤4611686018427387902):Can Tryz.prog 205 ([num a]++[.aY (bq T) 0]) (· =num (aW T a)):=by
 exact aE Tryz.func205 rfl Tryz.ntmps205 rfl<|ab (.a 1 rfl<|.k [0,1] rfl)<|ab (.a 2 rfl<|.c rfl (fQ T a ha hl) rfl<|.a 1 rfl<|.k [3] rfl)<|aq<|⟨_,_,aA.of rfl,aB.pure,rfl⟩
theorem DC(T:an)(D:List Bool)(d:Int):Can Tryz.prog 180 [aN T,aQ D,num d] (· =dh (cf T D [d]) (bn T D d.toNat true)):=by
 refine aE Tryz.func180 rfl Tryz.ntmps180 rfl<|ab (.a 3 rfl<|.k [1,2,3] rfl)<|ah<|ab (.a 4 rfl<|.c rfl (pz T D [d] (by simp)) rfl<|.a 1 rfl<|.k [1,2,3,8] rfl)<|ab (.a 2 rfl<|.k [1,2,3,8,17] rfl)<|ag rfl (fun hc=>?_) (fun hc=>?_)
 ·have he:cf T D [d]≠0:=of_decide_eq_true hc
  exact ab (.a 3 rfl<|.k [6,7] rfl)<|aq<|⟨_,_,aA.of rfl,aB.bx (aj.cons aB.bT (aj.cons aB.pure aj.nil)),by unfold dh;rw[if_neg he];rfl⟩
 ·have he:cf T D [d]=0:=by have:=of_decide_eq_false hc;omega
  have hok:(ao T&&bN T D)=true∧bd T d=true:=by
   unfold cf at he
   split at he
   ·rename_i h1
    split at he
    ·rename_i h2;exact⟨h1,by simpa using h2⟩
    ·omega
   ·omega
  obtain⟨hvf,hnd⟩:=hok
  obtain⟨hv,hf⟩:=Bool.and_eq_true_iff.1 hvf
  have hd:0≤d∧d<T.nodes:=by simpa[bd]using hnd
  obtain⟨n,rfl⟩:=Int.eq_ofNat_of_zero_le hd.1
  have hS:=aM hv
  refine ai<|aP<|av 1 rfl<|ec rfl (lA T hv) rfl<|av 2 rfl<|aG [1,2,3,9] rfl ?_
  refine aP<|av 3 rfl<|bC (dS rfl rfl) rfl<|av 4 rfl<|aG [10] rfl ?_
  refine xW (.cons 10 rfl (aB.jJ rfl (aj.cons aB.pure<|aj.cons aB.pure<|aj.cons aB.pure<|aj.cons aB.pure<|aj.cons aB.pure<|aj.cons (aB.iO (aj.cons (aB.jJ rfl (aj.cons aB.pure aj.nil)) aj.nil))<|aj.cons aB.pure aj.nil)) .nil) ?_
  exact ab (.a 1 rfl<|.c rfl (AS T D n true 204 205 [.aY [jt (du (aZ T) T.nodes.toNat (2*T.ae.length))] 0] [.aY (bq T) 0] hv hf hd.2 (by kernel_rfl) (by kernel_rfl) (fun i hi=>by have h:=BE (du (aZ T) T.nodes.toNat (2*T.ae.length)) i (by rw[eY];omega);rw[jc _ _ _ _ (by omega)]at h;exact h) (fun a ha=>Cr T a ha (by have:=bJ hv;omega))) rfl<|.a 2 rfl<|.k [6,7] rfl)<|aq<|⟨_,_,aA.of rfl,aB.pure,by unfold dh;rw[if_pos he,he];rfl⟩
end PW
end Go.Proofs.YtnegbdpggideiaaGreatDoor
namespace Go.Proofs.YtnegbdpggideiaaGreatDoor
namespace PW
open Go.RowKit cH Mem Net fw
theorem A1{P:Program}{N L:Nat}{id:Nat}{l:List Oper}{y:Code}{st:St}{Q:Exit→St→Prop}(t':cd)(σ':cm)(t'':cd)(σ'':cm)(hm:P.follows .mixedOrders=true)(h:WA P N L l.toArray l.length (Array.replicate l.length false) st (fun s=>(s.σ=σ'∧Sub s.t t')∨(s.σ=σ''∧Sub s.t t'')))(hr:W P N L y ⟨t',σ'⟩ Q→W P N L y ⟨t'',σ''⟩ Q)(hq:W P N L y ⟨t',σ'⟩ Q):W P N L (.seq (.region id l.toArray true) y) st Q:=
 py hm (h.mono fun s hs=>by
  obtain⟨t,σ⟩:=s
  rcases hs with⟨h1,h2⟩|⟨h1,h2⟩
  ·subst h1;exact lf h2 hq
  ·subst h1;exact lf h2 (hr hq))
theorem zS(T:an)(k x:Int):bN T (gm T k x)=true:=by
 unfold gm
 split
 ·exact db T k x
 ·exact fU T
theorem Fa(T:an)(k x:Int)(n:Nat)(hv:ao T=true)(hn:(n:Int)<T.nodes):Can Tryz.prog 179 ([bW k x]++[.aY (bq T) 0,.aY [num n] 0]) (· =aw (bn T (gm T k x) n true)):=by
 have hmk:=mh T k x
 unfold iM at hmk
 have hfr:=DC T (gm T k x) n
 have hch:cf T (gm T k x) [(n:Int)]=0:=by
  unfold cf
  rw[hv,zS]
  simp[aT.2 (show 0≤(n:Int)∧(n:Int)<T.nodes by omega)]
 rw[hch]at hfr
 unfold dh at hfr
 rw[if_pos rfl,Int.toNat_natCast]at hfr
 exact aE Tryz.func179 rfl Tryz.ntmps179 rfl<|ab (.a 2 rfl<|.k [1,2,3] rfl)<|ab (.a 2 rfl<|.c rfl (hmk) rfl<|.a 5 rfl<|.k [1,2,5] rfl)<|ab (.a 3 rfl<|.c rfl (hfr) rfl<|.a 5 rfl<|.k [7] rfl)<|ab (.a 2 rfl<|.k [4] rfl)<|aq<|⟨_,_,aA.of rfl,aB.pure,rfl⟩
theorem DA(g:Int)(L:List Int)(d:Nat)(c2:Bool)(hL:0<g→d<L.length∧decide (0≤L.getD d 0)=c2):Can Tryz.prog 181 ([num d]++[.aY (ct 3 g) 0,.aY [aw L] 0]) (· = .tuple [bW 3 g,flag (decide (0<g)&&c2)]):=by
 obtain⟨c1,hc1⟩:∃q,decide (0<g)=q:=⟨_,rfl⟩
 rw[hc1]
 refine aE Tryz.func181 rfl Tryz.ntmps181 rfl<|aP<|av 2 rfl<|aG [0,1,2,4] rfl ?_
 refine vy (Q1:=fun st=>st=⟨[(4,.ptr 0 0),(5,flag (c1&&c2))],[some (.cells 33 (ct 3 g))]⟩) ?_ ?_
 ·cases c1
  ·refine yi 20 1 ([some (.cells 33 [num 0,num 0])]::[some (.cells 33 (ct 3 g))]::[]) (⟨_,none,0,0⟩::⟨_,none,0,0⟩::⟨_,none,0,0⟩::⟨_,none,0,0⟩::⟨_,none,0,0⟩::⟨_,none,0,1⟩::⟨_,none,0,1⟩::⟨_,none,0,1⟩::⟨_,none,0,1⟩::⟨_,none,0,1⟩::⟨_,none,0,1⟩::⟨_,some 0,0,0⟩::⟨_,none,1,1⟩::[]) _ mixed ?grd1 rfl rfl rfl rfl (.cons (.val [1] rfl rfl (yz (fq (bH rfl) gY)) rfl rfl)<|.cons (.val [1] rfl rfl (yz (fq (bH rfl) gY)) rfl rfl)<|.cons (.val [7] rfl rfl (yz (fq (bH rfl) gY)) rfl rfl)<|.cons (.val [8] rfl rfl (yz (fq (b9 rfl (hc1)) gY)) rfl rfl)<|.cons (.val [9] rfl rfl (yz (fq (bH rfl) gY)) rfl rfl)<|.cons (.skip rfl rfl rfl)<|.cons (.skip rfl rfl rfl)<|.cons (.skip rfl rfl rfl)<|.cons (.skip rfl rfl rfl)<|.cons (.skip rfl rfl rfl)<|.cons (.val [10,15] rfl rfl (yz (fq (bH rfl) (fq (bH rfl) gY))) rfl rfl)<|.cons (.p9 [4,6] rfl rfl rfl rfl (dX rfl) rfl)<|.cons (.val [16] rfl rfl (yz (fq (bH rfl) gY)) rfl rfl) .nil) (bm (ks:=[4,5]) rfl) ?_
   case grd1=>kernel_rfl
   rfl
  ·refine yi 20 1 ([some (.cells 33 [num 0,num 0])]::[some (.cells 33 (ct 3 g))]::[]) (⟨_,none,0,0⟩::⟨_,none,0,0⟩::⟨_,none,0,0⟩::⟨_,none,0,0⟩::⟨_,none,0,0⟩::⟨_,none,0,1⟩::⟨_,none,0,1⟩::⟨_,none,0,1⟩::⟨_,none,0,1⟩::⟨_,none,0,1⟩::⟨_,none,0,1⟩::⟨_,some 0,0,0⟩::⟨_,none,1,1⟩::[]) _ mixed ?grd2 rfl rfl rfl rfl (.cons (.val [1] rfl rfl (yz (fq (bH rfl) gY)) rfl rfl)<|.cons (.val [1] rfl rfl (yz (fq (bH rfl) gY)) rfl rfl)<|.cons (.val [7] rfl rfl (yz (fq (bH rfl) gY)) rfl rfl)<|.cons (.val [8] rfl rfl (yz (fq (b9 rfl (hc1)) gY)) rfl rfl)<|.cons (.val [9] rfl rfl (yz (fq (bH rfl) gY)) rfl rfl)<|.cons (.val [2] rfl rfl (yz (fq (bH rfl) (fq (bH rfl) gY))) rfl rfl)<|.cons (.val [0] rfl rfl (yz (fq (bH rfl) (fq (bH rfl) gY))) rfl rfl)<|.cons (.val [11,12] rfl rfl (yz (fq (aJ (d) rfl (by omega) (by have:=(hL (tt hc1)).1;omega)) (fq (aJ (d) rfl (by omega) (by have:=(hL (tt hc1)).1;omega)) gY))) rfl rfl)<|.cons (.val [13] rfl rfl (yz (fq (aL rfl (ax L d (hL (tt hc1)).1)) (fq (aL rfl (ax L d (hL (tt hc1)).1)) gY))) rfl rfl)<|.cons (.val [14] rfl rfl (yz (fq (b9 rfl ((hL (tt hc1)).2)) (fq (b9 rfl ((hL (tt hc1)).2)) gY))) rfl rfl)<|.cons (.val [10,15] rfl rfl (yz (fq (bH rfl) (fq (bH rfl) gY))) rfl rfl)<|.cons (.p9 [4,6] rfl rfl rfl rfl (dX rfl) rfl)<|.cons (.val [16] rfl rfl (yz (fq (bH rfl) gY)) rfl rfl) .nil) (bm (ks:=[4,5]) rfl) ?_
   case grd2=>kernel_rfl
   rfl
 rintro _ rfl
 exact aq<|⟨_,_,aA.of rfl,aB.pure (p:=.tuple [bW 3 g,flag (c1&&c2)]),rfl⟩
theorem DQ(h:Int)(L:List Int)(d:Nat)(c2:Bool)(hd:d<L.length)(hL:decide (0≤L.getD d 0)=c2):Can Tryz.prog 182 ([num d]++[.aY (ct 2 h) 0,.aY [num h] 0,.aY [aw L] 0]) (· = .tuple [bW 2 h,flag (decide (h≠d)&&c2)]):=by
 obtain⟨c1,hc1⟩:∃q,decide ((d:Int)≠h)=q:=⟨_,rfl⟩
 have hc1':decide (h≠(d:Int))=c1:=by rw[←hc1];exact decide_eq_decide.2 ⟨fun e=>e.symm,fun e=>e.symm⟩
 rw[hc1']
 refine aE Tryz.func182 rfl Tryz.ntmps182 rfl<|aP<|av 2 rfl<|aG [0,1,2,3,5] rfl ?_
 refine vy (Q1:=fun st=>st=⟨[(5,.ptr 0 0),(6,flag (c1&&c2))],[some (.cells 33 (ct 2 h))]⟩) ?_ ?_
 ·cases c1
  ·refine yi 20 1 ([some (.cells 33 [num 0,num 0])]::[some (.cells 33 (ct 2 h))]::[]) (⟨_,none,0,0⟩::⟨_,none,0,0⟩::⟨_,none,0,0⟩::⟨_,none,0,0⟩::⟨_,none,0,0⟩::⟨_,none,0,1⟩::⟨_,none,0,1⟩::⟨_,none,0,1⟩::⟨_,none,0,1⟩::⟨_,none,0,1⟩::⟨_,none,0,1⟩::⟨_,some 0,0,0⟩::⟨_,none,1,1⟩::[]) _ mixed ?grd3 rfl rfl rfl rfl (.cons (.val [1] rfl rfl (yz (fq (bH rfl) gY)) rfl rfl)<|.cons (.val [0] rfl rfl (yz (fq (bH rfl) gY)) rfl rfl)<|.cons (.val [2] rfl rfl (yz (fq (bH rfl) gY)) rfl rfl)<|.cons (.val [8,9] rfl rfl (yz (fq (b9 rfl (hc1)) gY)) rfl rfl)<|.cons (.val [10] rfl rfl (yz (fq (bH rfl) gY)) rfl rfl)<|.cons (.skip rfl rfl rfl)<|.cons (.skip rfl rfl rfl)<|.cons (.skip rfl rfl rfl)<|.cons (.skip rfl rfl rfl)<|.cons (.skip rfl rfl rfl)<|.cons (.val [11,16] rfl rfl (yz (fq (bH rfl) (fq (bH rfl) gY))) rfl rfl)<|.cons (.p9 [5,7] rfl rfl rfl rfl (dX rfl) rfl)<|.cons (.val [17] rfl rfl (yz (fq (bH rfl) gY)) rfl rfl) .nil) (bm (ks:=[5,6]) rfl) ?_
   case grd3=>kernel_rfl
   rfl
  ·refine yi 20 1 ([some (.cells 33 [num 0,num 0])]::[some (.cells 33 (ct 2 h))]::[]) (⟨_,none,0,0⟩::⟨_,none,0,0⟩::⟨_,none,0,0⟩::⟨_,none,0,0⟩::⟨_,none,0,0⟩::⟨_,none,0,1⟩::⟨_,none,0,1⟩::⟨_,none,0,1⟩::⟨_,none,0,1⟩::⟨_,none,0,1⟩::⟨_,none,0,1⟩::⟨_,some 0,0,0⟩::⟨_,none,1,1⟩::[]) _ mixed ?grd4 rfl rfl rfl rfl (.cons (.val [1] rfl rfl (yz (fq (bH rfl) gY)) rfl rfl)<|.cons (.val [0] rfl rfl (yz (fq (bH rfl) gY)) rfl rfl)<|.cons (.val [2] rfl rfl (yz (fq (bH rfl) gY)) rfl rfl)<|.cons (.val [8,9] rfl rfl (yz (fq (b9 rfl (hc1)) gY)) rfl rfl)<|.cons (.val [10] rfl rfl (yz (fq (bH rfl) gY)) rfl rfl)<|.cons (.val [3] rfl rfl (yz (fq (bH rfl) (fq (bH rfl) gY))) rfl rfl)<|.cons (.val [0] rfl rfl (yz (fq (bH rfl) (fq (bH rfl) gY))) rfl rfl)<|.cons (.val [12,13] rfl rfl (yz (fq (aJ (d) rfl) (fq (aJ (d) rfl) gY))) rfl rfl)<|.cons (.val [14] rfl rfl (yz (fq (aL rfl (ax L d hd)) (fq (aL rfl (ax L d hd)) gY))) rfl rfl)<|.cons (.val [15] rfl rfl (yz (fq (b9 rfl (hL)) (fq (b9 rfl (hL)) gY))) rfl rfl)<|.cons (.val [11,16] rfl rfl (yz (fq (bH rfl) (fq (bH rfl) gY))) rfl rfl)<|.cons (.p9 [5,7] rfl rfl rfl rfl (dX rfl) rfl)<|.cons (.val [17] rfl rfl (yz (fq (bH rfl) gY)) rfl rfl) .nil) (bm (ks:=[5,6]) rfl) ?_
   case grd4=>kernel_rfl
   rfl
 rintro _ rfl
 exact aq<|⟨_,_,aA.of rfl,aB.pure (p:=.tuple [bW 2 h,flag (c1&&c2)]),rfl⟩
def F2(g:Int)(L:List Int):PV:=.func 181 [.aY (ct 3 g) 0,.aY [aw L] 0]
def F3(h:Int)(L:List Int):PV:=.func 182 [.aY (ct 2 h) 0,.aY [num h] 0,.aY [aw L] 0]
def jZ(g h k:Int)(L M:List Int):List PV:=[.aY [.slice 2 [F2 g L,F3 h M]] 0,.aY (ct 1 k) 0]
instance (g:Int) (L:List Int):IsPure (F2 g L):=by unfold F2;infer_instance
instance (g:Int) (L:List Int):IsPure (F3 g L):=by unfold F3;infer_instance
instance (g h k:Int) (L M:List Int):aO (jZ g h k L M):=by unfold jZ;infer_instance
theorem C7(g h k:Int)(L M:List Int)(d:Nat)(c2 c4:Bool)(hL:0<g→d<L.length∧decide (0≤L.getD d 0)=c2)(hd:d<M.length)(hM:decide (0≤M.getD d 0)=c4):Can Tryz.prog 183 ([num d]++jZ g h k L M) (· =if(decide (0<g)&&c2)=true then bW 3 g else if(decide (h≠d)&&c4)=true then bW 2 h else bW 1 k):=by
 have h2:=DA g L d c2 hL
 have h3:=DQ h M d c4 hd hM
 obtain⟨o1,ho1⟩:∃o,(decide (0<g)&&c2)=o:=⟨_,rfl⟩
 obtain⟨o2,ho2⟩:∃o,(decide (h≠(d:Int))&&c4)=o:=⟨_,rfl⟩
 rw[ho1]at h2 ⊢
 rw[ho2]at h3 ⊢
 have hrule:∀i,i<2→∃f cap,[F2 g L,F3 h M][i]? =some (.func f cap)∧enters Tryz.prog f=true∧aO ([num d]++cap)∧Can Tryz.prog f ([num d]++cap) (· = .tuple [if i=0 then bW 3 g else bW 2 h,flag (if i=0 then o1 else o2)]):=fun i hi=>by
  match i,hi with
  |0,_=>exact⟨_,_,rfl,by kernel_rfl,inferInstance,h2⟩
  |1,_=>exact⟨_,_,rfl,by kernel_rfl,inferInstance,h3⟩
 unfold jZ
 refine aE Tryz.func183 rfl Tryz.ntmps183 rfl<|aP<|av 1 rfl<|aG [0,1,2,4] rfl ?_
 refine ah<|ab (.a 3 rfl<|.k [0,2,4,9,10,11] rfl)<|au<|eu [0,2,4,9,10,11] rfl<|bf (fun r s=>∃i,i≤2∧r=2 - i∧(1≤i→o1=false)∧(i=2→o2=false)∧s=⟨[(0,num d),(2,.aY (ct 1 k) 0),(4,.ptr 0 0),(9,.slice 2 [F2 g L,F3 h M]),(10,num 2),(11,num i)],[some (.cells 33 [num 0,num 0])]⟩) 2 ⟨0,by omega,by omega,fun h=>by omega,fun h=>by omega,rfl⟩ ?_
 rintro r s ⟨i,hi,rfl,hi1,hi2,rfl⟩
 refine ab (.a 1 rfl<|.k [0,2,4,9,10,11,12] rfl)<|ah<|ag rfl (fun h1=>?_) (fun h1=>?_)
 ·have hlt:i<2:=by have:=tt h1;omega
  obtain⟨f,cap,hf,hen,hpu,hcan⟩:=hrule i hlt
  obtain⟨kx,kn,hkx⟩:∃kx kn,(if i=0 then bW 3 g else bW 2 h)=bW kx kn:=by
   split
   ·exact⟨_,_,rfl⟩
   ·exact⟨_,_,rfl⟩
  obtain⟨o,ho⟩:∃o,(if i=0 then o1 else o2)=o:=⟨_,rfl⟩
  rw[ho,hkx]at hcan
  haveI:=hpu
  refine ai<|ah<|au<|ab (.v (aJ (i) rfl) rfl<|.v (aL rfl (hf)) rfl<|.a 1 rfl<|.k [0,2,4,6,9,10,11] rfl)<|aP<|av 2 rfl<|bC (sg rfl hen rfl rfl hcan) rfl<|av 6 rfl<|aG [0,2,4,7,8,9,10,11] rfl ?_
  refine ab (.a 1 rfl<|.k [0,2,4,7,9,10,11,21] rfl)<|ag rfl (fun h2=>?_) (fun h2=>?_)
  ·subst h2
   refine aP<|av 2 rfl<|aG [4] rfl ?_
   refine aq<|⟨_,_,aA.of rfl,aB.pure (p:=bW kx kn),?_⟩
   rw[←hkx]
   by_cases e:i=0
   ·rw[if_pos e]at ho ⊢
    rw[if_pos ho]
   ·rw[if_neg e]at ho ⊢
    rw[if_neg (by rw[hi1 (by omega)];simp),if_pos ho]
  ·subst h2
   refine ai<|dx [0] (.c 0<|.c 2<|.c 4<|.c 9<|.c 10<|.c 11<|.nil) (.kept rfl (.cells aF.pure)<|.nil) rfl rfl ?_
   refine az (.v (aS rfl) rfl<|.a 1 rfl<|.k [0,2,4,9,10,11] rfl) ?_
   refine⟨2 - (i+1),by omega,i+1,by omega,rfl,fun _=>?_,fun e=>?_,rfl⟩
   ·by_cases e:i=0
    ·rw[if_pos e]at ho;exact ho
    ·exact hi1 (by omega)
   ·rw[if_neg (by omega)]at ho;exact ho
 ·have hie:i=2:=by have:=ff h1;omega
  subst hie
  rw[if_neg (by rw[hi1 (by omega)];simp),if_neg (by rw[hi2 rfl];simp)]
  refine ba<|aP<|av 2 rfl<|aG [4] rfl ?_
  exact aq<|⟨_,_,aA.of rfl,aB.pure (p:=bW 1 k),rfl⟩
noncomputable def HU(T:an)(a:Nat):List Int:=if 0<ga T a then bn T (gm T 3 (ga T a)) (aZ T a).toNat true else []
noncomputable def H7(T:an)(a:Nat):List Int:=bn T (gm T 2 (aW T a)) (aZ T a).toNat true
set_option maxHeartbeats 4000000 in
theorem yB(T:an)(a:Nat)(hv:ao T=true)(ha:a<2*T.ae.length):Can Tryz.prog 155 [aN T,num a] (· = .func 183 (jZ (ga T a) (aW T a) ((a / 2:Nat):Int) (HU T a) (H7 T a))):=by
 have hll:=bJ hv
 have hi:a / 2<T.ae.length:=by omega
 have hS:=aM hv
 have htl:=jn T a ha
 have hhd:=fQ T a ha (by omega)
 obtain⟨n,hn⟩:=Int.eq_ofNat_of_zero_le (hS.tail a ha).1
 have hnN:(n:Int)<T.nodes:=by rw[←hn];exact(hS.tail a ha).2
 have hL:HU T a=if 0<ga T a then bn T (gm T 3 (ga T a)) n true else []:=by unfold HU;rw[hn,Int.toNat_natCast]
 have hM:H7 T a=bn T (gm T 2 (aW T a)) n true:=by unfold H7;rw[hn,Int.toNat_natCast]
 rw[hn]at htl
 obtain⟨h,hh⟩:∃h,aW T a=h:=⟨_,rfl⟩
 obtain⟨g,hg⟩:∃g,ga T a=g:=⟨_,rfl⟩
 have hgl:(cB T.ae (a / 2)).uz=g:=hg
 rw[hh]at hhd hM
 rw[hg]at hL
 rw[hL,hM,hh,hg]
 have h1:=fun k x=>Fa T k x n hv hnN
 obtain⟨c1,hc1⟩:∃q,decide (0<g)=q:=⟨_,rfl⟩
 refine aE Tryz.func155 rfl Tryz.ntmps155 rfl<|ab (.a 2 rfl<|.k [1,2] rfl)<|A1 ([(1,num a),(2,.aY (bq T) 0),(5,.ptr 0 0),(6,.ptr 1 0)]) ([some (.cells 3 [num n]),some (.cells 3 [num h])]) ([(1,num a),(2,.aY (bq T) 0),(5,.ptr 1 0),(6,.ptr 0 0)]) ([some (.cells 3 [num h]),some (.cells 3 [num n])]) mixed ?_ (fun hh=>dx [1,0] (.c 1<|.c 2<|.c 5<|.c 6<|.nil) (.kept rfl (.cells aF.pure)<|.kept rfl (.cells aF.pure)<|.nil) rfl rfl hh) ?_
 ·refine uN [[(1,num a),(2,.aY (bq T) 0),(14,aN T),(15,num a),(16,num n),(17,aN T),(18,num a),(19,num h)],[(1,num a),(2,.aY (bq T) 0),(5,.ptr 0 0),(14,aN T),(15,num a),(16,num n),(17,aN T),(18,num a),(19,num h)],[(1,num a),(2,.aY (bq T) 0),(6,.ptr 0 0),(14,aN T),(15,num a),(16,num n),(17,aN T),(18,num a),(19,num h)],[(1,num a),(2,.aY (bq T) 0),(5,.ptr 0 0),(6,.ptr 1 0),(14,aN T),(15,num a),(16,num n),(17,aN T),(18,num a),(19,num h)],[(1,num a),(2,.aY (bq T) 0),(5,.ptr 1 0),(6,.ptr 0 0),(14,aN T),(15,num a),(16,num n),(17,aN T),(18,num a),(19,num h)]] [[],[some (.cells 3 [num n]),some (.cells 3 [num h])],[some (.cells 3 [num n]),some (.cells 3 [num 0])],[some (.cells 3 [num 0]),some (.cells 3 [num 0])],[some (.cells 3 [num 0])],[some (.cells 3 [num h]),some (.cells 3 [num n])],[some (.cells 3 [num 0]),some (.cells 3 [num n])]] [1,2] rfl (by kernel_rfl) (fun M hi ho=>?_)
  have μ0:M 0 1023 3 [1,2,5,6] 1:=hi<|sj rfl (by kernel_rfl) (.inl ⟨rfl,bm (ks:=[1,2,5,6]) rfl⟩)
  have μ1:M 1 511 3 [1,2,5,6,19] 2:=hi<|aa [(9,1023)] rfl (by kernel_rfl)<|po rfl rfl (dX rfl) rfl rfl (ho μ0) rfl rfl af
  have μ2:M 2 255 3 [1,2,5,6,16,19] 3:=hi<|aa [(8,511)] rfl (by kernel_rfl)<|po rfl rfl (dX rfl) rfl rfl (ho μ1) rfl rfl af
  have μ3:M 3 127 1 [1,2,5,16,19] 4:=hi<|aa [(7,255)] rfl (by kernel_rfl)<|cc rfl rfl (dX rfl) rfl (ho μ2) rfl rfl af
  have μ4:M 0 1023 4 [1,2,5,6] 5:=hi<|sj rfl (by kernel_rfl) (.inr ⟨rfl,bm (ks:=[1,2,5,6]) rfl⟩)
  have μ5:M 1 511 4 [1,2,5,6,19] 6:=hi<|aa [(9,1023)] rfl (by kernel_rfl)<|po rfl rfl (dX rfl) rfl rfl (ho μ4) rfl rfl af
  have μ6:M 2 255 4 [1,2,5,6,16,19] 3:=hi<|aa [(8,511)] rfl (by kernel_rfl)<|po rfl rfl (dX rfl) rfl rfl (ho μ5) rfl rfl af
  have μ7:M 3 191 2 [1,2,6,16,19] 4:=hi<|aa [(6,255)] rfl (by kernel_rfl)<|cc rfl rfl (dX rfl) rfl (ho μ6) rfl rfl af
  have μ8:M 4 63 0 [1,2,16,19] 0:=hi<|aa [(6,127),(7,191)] rfl (by kernel_rfl)<|cc rfl rfl (dX rfl) rfl (ho μ3) rfl rfl<|cc rfl rfl (dX rfl) rfl (ho μ7) rfl rfl af
  have μ9:M 3 223 3 [1,2,5,6,16,17,18] 3:=hi<|aa [(5,255)] rfl (by kernel_rfl)<|bp rfl rfl (dJ rfl (hhd)) rfl (ho μ2) rfl rfl af
  have μ10:M 4 95 1 [1,2,5,16,17,18] 4:=hi<|aa [(5,127),(7,223)] rfl (by kernel_rfl)<|bp rfl rfl (dJ rfl (hhd)) rfl (ho μ3) rfl rfl<|cc rfl rfl (dX rfl) rfl (ho μ9) rfl rfl af
  have μ11:M 3 223 4 [1,2,5,6,16,17,18] 3:=hi<|aa [(5,255)] rfl (by kernel_rfl)<|bp rfl rfl (dJ rfl (hhd)) rfl (ho μ6) rfl rfl af
  have μ12:M 4 159 2 [1,2,6,16,17,18] 4:=hi<|aa [(5,191),(6,223)] rfl (by kernel_rfl)<|bp rfl rfl (dJ rfl (hhd)) rfl (ho μ7) rfl rfl<|cc rfl rfl (dX rfl) rfl (ho μ11) rfl rfl af
  have μ13:M 5 31 0 [1,2,16,17,18] 0:=hi<|aa [(5,63),(6,95),(7,159)] rfl (by kernel_rfl)<|bp rfl rfl (dJ rfl (hhd)) rfl (ho μ8) rfl rfl<|cc rfl rfl (dX rfl) rfl (ho μ10) rfl rfl<|cc rfl rfl (dX rfl) rfl (ho μ12) rfl rfl af
  have μ14:M 4 207 3 [1,2,5,6,16,17] 3:=hi<|aa [(4,223)] rfl (by kernel_rfl)<|ak (ho μ9) rfl rfl af
  have μ15:M 5 79 1 [1,2,5,16,17] 4:=hi<|aa [(4,95),(7,207)] rfl (by kernel_rfl)<|ak (ho μ10) rfl rfl<|cc rfl rfl (dX rfl) rfl (ho μ14) rfl rfl af
  have μ16:M 4 207 4 [1,2,5,6,16,17] 3:=hi<|aa [(4,223)] rfl (by kernel_rfl)<|ak (ho μ11) rfl rfl af
  have μ17:M 5 143 2 [1,2,6,16,17] 4:=hi<|aa [(4,159),(6,207)] rfl (by kernel_rfl)<|ak (ho μ12) rfl rfl<|cc rfl rfl (dX rfl) rfl (ho μ16) rfl rfl af
  have μ18:M 6 15 0 [1,2,16,17] 0:=hi<|aa [(4,31),(6,79),(7,143)] rfl (by kernel_rfl)<|ak (ho μ13) rfl rfl<|cc rfl rfl (dX rfl) rfl (ho μ15) rfl rfl<|cc rfl rfl (dX rfl) rfl (ho μ17) rfl rfl af
  have μ19:M 4 215 3 [1,2,5,6,16,18] 3:=hi<|aa [(3,223)] rfl (by kernel_rfl)<|ak (ho μ9) rfl rfl af
  have μ20:M 5 87 1 [1,2,5,16,18] 4:=hi<|aa [(3,95),(7,215)] rfl (by kernel_rfl)<|ak (ho μ10) rfl rfl<|cc rfl rfl (dX rfl) rfl (ho μ19) rfl rfl af
  have μ21:M 4 215 4 [1,2,5,6,16,18] 3:=hi<|aa [(3,223)] rfl (by kernel_rfl)<|ak (ho μ11) rfl rfl af
  have μ22:M 5 151 2 [1,2,6,16,18] 4:=hi<|aa [(3,159),(6,215)] rfl (by kernel_rfl)<|ak (ho μ12) rfl rfl<|cc rfl rfl (dX rfl) rfl (ho μ21) rfl rfl af
  have μ23:M 6 23 0 [1,2,16,18] 0:=hi<|aa [(3,31),(6,87),(7,151)] rfl (by kernel_rfl)<|ak (ho μ13) rfl rfl<|cc rfl rfl (dX rfl) rfl (ho μ20) rfl rfl<|cc rfl rfl (dX rfl) rfl (ho μ22) rfl rfl af
  have μ24:M 5 199 3 [1,2,5,6,16] 3:=hi<|aa [(3,207),(4,215)] rfl (by kernel_rfl)<|ak (ho μ14) rfl rfl<|ak (ho μ19) rfl rfl af
  have μ25:M 6 71 1 [1,2,5,16] 4:=hi<|aa [(3,79),(4,87),(7,199)] rfl (by kernel_rfl)<|ak (ho μ15) rfl rfl<|ak (ho μ20) rfl rfl<|cc rfl rfl (dX rfl) rfl (ho μ24) rfl rfl af
  have μ26:M 5 199 4 [1,2,5,6,16] 3:=hi<|aa [(3,207),(4,215)] rfl (by kernel_rfl)<|ak (ho μ16) rfl rfl<|ak (ho μ21) rfl rfl af
  have μ27:M 6 135 2 [1,2,6,16] 4:=hi<|aa [(3,143),(4,151),(6,199)] rfl (by kernel_rfl)<|ak (ho μ17) rfl rfl<|ak (ho μ22) rfl rfl<|cc rfl rfl (dX rfl) rfl (ho μ26) rfl rfl af
  have μ28:M 7 7 0 [1,2,16] 0:=hi<|aa [(3,15),(4,23),(6,71),(7,135)] rfl (by kernel_rfl)<|ak (ho μ18) rfl rfl<|ak (ho μ23) rfl rfl<|cc rfl rfl (dX rfl) rfl (ho μ25) rfl rfl<|cc rfl rfl (dX rfl) rfl (ho μ27) rfl rfl af
  have μ29:M 4 219 3 [1,2,5,6,14,15,17,18] 3:=hi<|aa [(2,223)] rfl (by kernel_rfl)<|bp rfl rfl (dJ rfl (htl)) rfl (ho μ9) rfl rfl af
  have μ30:M 5 91 1 [1,2,5,14,15,17,18] 4:=hi<|aa [(2,95),(7,219)] rfl (by kernel_rfl)<|bp rfl rfl (dJ rfl (htl)) rfl (ho μ10) rfl rfl<|cc rfl rfl (dX rfl) rfl (ho μ29) rfl rfl af
  have μ31:M 4 219 4 [1,2,5,6,14,15,17,18] 3:=hi<|aa [(2,223)] rfl (by kernel_rfl)<|bp rfl rfl (dJ rfl (htl)) rfl (ho μ11) rfl rfl af
  have μ32:M 5 155 2 [1,2,6,14,15,17,18] 4:=hi<|aa [(2,159),(6,219)] rfl (by kernel_rfl)<|bp rfl rfl (dJ rfl (htl)) rfl (ho μ12) rfl rfl<|cc rfl rfl (dX rfl) rfl (ho μ31) rfl rfl af
  have μ33:M 6 27 0 [1,2,14,15,17,18] 0:=hi<|aa [(2,31),(6,91),(7,155)] rfl (by kernel_rfl)<|bp rfl rfl (dJ rfl (htl)) rfl (ho μ13) rfl rfl<|cc rfl rfl (dX rfl) rfl (ho μ30) rfl rfl<|cc rfl rfl (dX rfl) rfl (ho μ32) rfl rfl af
  have μ34:M 5 203 3 [1,2,5,6,14,15,17] 3:=hi<|aa [(2,207),(4,219)] rfl (by kernel_rfl)<|bp rfl rfl (dJ rfl (htl)) rfl (ho μ14) rfl rfl<|ak (ho μ29) rfl rfl af
  have μ35:M 6 75 1 [1,2,5,14,15,17] 4:=hi<|aa [(2,79),(4,91),(7,203)] rfl (by kernel_rfl)<|bp rfl rfl (dJ rfl (htl)) rfl (ho μ15) rfl rfl<|ak (ho μ30) rfl rfl<|cc rfl rfl (dX rfl) rfl (ho μ34) rfl rfl af
  have μ36:M 5 203 4 [1,2,5,6,14,15,17] 3:=hi<|aa [(2,207),(4,219)] rfl (by kernel_rfl)<|bp rfl rfl (dJ rfl (htl)) rfl (ho μ16) rfl rfl<|ak (ho μ31) rfl rfl af
  have μ37:M 6 139 2 [1,2,6,14,15,17] 4:=hi<|aa [(2,143),(4,155),(6,203)] rfl (by kernel_rfl)<|bp rfl rfl (dJ rfl (htl)) rfl (ho μ17) rfl rfl<|ak (ho μ32) rfl rfl<|cc rfl rfl (dX rfl) rfl (ho μ36) rfl rfl af
  have μ38:M 7 11 0 [1,2,14,15,17] 0:=hi<|aa [(2,15),(4,27),(6,75),(7,139)] rfl (by kernel_rfl)<|bp rfl rfl (dJ rfl (htl)) rfl (ho μ18) rfl rfl<|ak (ho μ33) rfl rfl<|cc rfl rfl (dX rfl) rfl (ho μ35) rfl rfl<|cc rfl rfl (dX rfl) rfl (ho μ37) rfl rfl af
  have μ39:M 5 211 3 [1,2,5,6,14,15,18] 3:=hi<|aa [(2,215),(3,219)] rfl (by kernel_rfl)<|bp rfl rfl (dJ rfl (htl)) rfl (ho μ19) rfl rfl<|ak (ho μ29) rfl rfl af
  have μ40:M 6 83 1 [1,2,5,14,15,18] 4:=hi<|aa [(2,87),(3,91),(7,211)] rfl (by kernel_rfl)<|bp rfl rfl (dJ rfl (htl)) rfl (ho μ20) rfl rfl<|ak (ho μ30) rfl rfl<|cc rfl rfl (dX rfl) rfl (ho μ39) rfl rfl af
  have μ41:M 5 211 4 [1,2,5,6,14,15,18] 3:=hi<|aa [(2,215),(3,219)] rfl (by kernel_rfl)<|bp rfl rfl (dJ rfl (htl)) rfl (ho μ21) rfl rfl<|ak (ho μ31) rfl rfl af
  have μ42:M 6 147 2 [1,2,6,14,15,18] 4:=hi<|aa [(2,151),(3,155),(6,211)] rfl (by kernel_rfl)<|bp rfl rfl (dJ rfl (htl)) rfl (ho μ22) rfl rfl<|ak (ho μ32) rfl rfl<|cc rfl rfl (dX rfl) rfl (ho μ41) rfl rfl af
  have μ43:M 7 19 0 [1,2,14,15,18] 0:=hi<|aa [(2,23),(3,27),(6,83),(7,147)] rfl (by kernel_rfl)<|bp rfl rfl (dJ rfl (htl)) rfl (ho μ23) rfl rfl<|ak (ho μ33) rfl rfl<|cc rfl rfl (dX rfl) rfl (ho μ40) rfl rfl<|cc rfl rfl (dX rfl) rfl (ho μ42) rfl rfl af
  have μ44:M 6 195 3 [1,2,5,6,14,15] 3:=hi<|aa [(2,199),(3,203),(4,211)] rfl (by kernel_rfl)<|bp rfl rfl (dJ rfl (htl)) rfl (ho μ24) rfl rfl<|ak (ho μ34) rfl rfl<|ak (ho μ39) rfl rfl af
  have μ45:M 7 67 1 [1,2,5,14,15] 4:=hi<|aa [(2,71),(3,75),(4,83),(7,195)] rfl (by kernel_rfl)<|bp rfl rfl (dJ rfl (htl)) rfl (ho μ25) rfl rfl<|ak (ho μ35) rfl rfl<|ak (ho μ40) rfl rfl<|cc rfl rfl (dX rfl) rfl (ho μ44) rfl rfl af
  have μ46:M 6 195 4 [1,2,5,6,14,15] 3:=hi<|aa [(2,199),(3,203),(4,211)] rfl (by kernel_rfl)<|bp rfl rfl (dJ rfl (htl)) rfl (ho μ26) rfl rfl<|ak (ho μ36) rfl rfl<|ak (ho μ41) rfl rfl af
  have μ47:M 7 131 2 [1,2,6,14,15] 4:=hi<|aa [(2,135),(3,139),(4,147),(6,195)] rfl (by kernel_rfl)<|bp rfl rfl (dJ rfl (htl)) rfl (ho μ27) rfl rfl<|ak (ho μ37) rfl rfl<|ak (ho μ42) rfl rfl<|cc rfl rfl (dX rfl) rfl (ho μ46) rfl rfl af
  have μ48:M 8 3 0 [1,2,14,15] 0:=hi<|aa [(2,7),(3,11),(4,19),(6,67),(7,131)] rfl (by kernel_rfl)<|bp rfl rfl (dJ rfl (htl)) rfl (ho μ28) rfl rfl<|ak (ho μ38) rfl rfl<|ak (ho μ43) rfl rfl<|cc rfl rfl (dX rfl) rfl (ho μ45) rfl rfl<|cc rfl rfl (dX rfl) rfl (ho μ47) rfl rfl af
  have μ49:M 5 217 3 [1,2,5,6,14,17,18] 3:=hi<|aa [(1,219)] rfl (by kernel_rfl)<|ak (ho μ29) rfl rfl af
  have μ50:M 6 89 1 [1,2,5,14,17,18] 4:=hi<|aa [(1,91),(7,217)] rfl (by kernel_rfl)<|ak (ho μ30) rfl rfl<|cc rfl rfl (dX rfl) rfl (ho μ49) rfl rfl af
  have μ51:M 5 217 4 [1,2,5,6,14,17,18] 3:=hi<|aa [(1,219)] rfl (by kernel_rfl)<|ak (ho μ31) rfl rfl af
  have μ52:M 6 153 2 [1,2,6,14,17,18] 4:=hi<|aa [(1,155),(6,217)] rfl (by kernel_rfl)<|ak (ho μ32) rfl rfl<|cc rfl rfl (dX rfl) rfl (ho μ51) rfl rfl af
  have μ53:M 7 25 0 [1,2,14,17,18] 0:=hi<|aa [(1,27),(6,89),(7,153)] rfl (by kernel_rfl)<|ak (ho μ33) rfl rfl<|cc rfl rfl (dX rfl) rfl (ho μ50) rfl rfl<|cc rfl rfl (dX rfl) rfl (ho μ52) rfl rfl af
  have μ54:M 6 201 3 [1,2,5,6,14,17] 3:=hi<|aa [(1,203),(4,217)] rfl (by kernel_rfl)<|ak (ho μ34) rfl rfl<|ak (ho μ49) rfl rfl af
  have μ55:M 7 73 1 [1,2,5,14,17] 4:=hi<|aa [(1,75),(4,89),(7,201)] rfl (by kernel_rfl)<|ak (ho μ35) rfl rfl<|ak (ho μ50) rfl rfl<|cc rfl rfl (dX rfl) rfl (ho μ54) rfl rfl af
  have μ56:M 6 201 4 [1,2,5,6,14,17] 3:=hi<|aa [(1,203),(4,217)] rfl (by kernel_rfl)<|ak (ho μ36) rfl rfl<|ak (ho μ51) rfl rfl af
  have μ57:M 7 137 2 [1,2,6,14,17] 4:=hi<|aa [(1,139),(4,153),(6,201)] rfl (by kernel_rfl)<|ak (ho μ37) rfl rfl<|ak (ho μ52) rfl rfl<|cc rfl rfl (dX rfl) rfl (ho μ56) rfl rfl af
  have μ58:M 8 9 0 [1,2,14,17] 0:=hi<|aa [(1,11),(4,25),(6,73),(7,137)] rfl (by kernel_rfl)<|ak (ho μ38) rfl rfl<|ak (ho μ53) rfl rfl<|cc rfl rfl (dX rfl) rfl (ho μ55) rfl rfl<|cc rfl rfl (dX rfl) rfl (ho μ57) rfl rfl af
  have μ59:M 6 209 3 [1,2,5,6,14,18] 3:=hi<|aa [(1,211),(3,217)] rfl (by kernel_rfl)<|ak (ho μ39) rfl rfl<|ak (ho μ49) rfl rfl af
  have μ60:M 7 81 1 [1,2,5,14,18] 4:=hi<|aa [(1,83),(3,89),(7,209)] rfl (by kernel_rfl)<|ak (ho μ40) rfl rfl<|ak (ho μ50) rfl rfl<|cc rfl rfl (dX rfl) rfl (ho μ59) rfl rfl af
  have μ61:M 6 209 4 [1,2,5,6,14,18] 3:=hi<|aa [(1,211),(3,217)] rfl (by kernel_rfl)<|ak (ho μ41) rfl rfl<|ak (ho μ51) rfl rfl af
  have μ62:M 7 145 2 [1,2,6,14,18] 4:=hi<|aa [(1,147),(3,153),(6,209)] rfl (by kernel_rfl)<|ak (ho μ42) rfl rfl<|ak (ho μ52) rfl rfl<|cc rfl rfl (dX rfl) rfl (ho μ61) rfl rfl af
  have μ63:M 8 17 0 [1,2,14,18] 0:=hi<|aa [(1,19),(3,25),(6,81),(7,145)] rfl (by kernel_rfl)<|ak (ho μ43) rfl rfl<|ak (ho μ53) rfl rfl<|cc rfl rfl (dX rfl) rfl (ho μ60) rfl rfl<|cc rfl rfl (dX rfl) rfl (ho μ62) rfl rfl af
  have μ64:M 7 193 3 [1,2,5,6,14] 3:=hi<|aa [(1,195),(3,201),(4,209)] rfl (by kernel_rfl)<|ak (ho μ44) rfl rfl<|ak (ho μ54) rfl rfl<|ak (ho μ59) rfl rfl af
  have μ65:M 8 65 1 [1,2,5,14] 4:=hi<|aa [(1,67),(3,73),(4,81),(7,193)] rfl (by kernel_rfl)<|ak (ho μ45) rfl rfl<|ak (ho μ55) rfl rfl<|ak (ho μ60) rfl rfl<|cc rfl rfl (dX rfl) rfl (ho μ64) rfl rfl af
  have μ66:M 7 193 4 [1,2,5,6,14] 3:=hi<|aa [(1,195),(3,201),(4,209)] rfl (by kernel_rfl)<|ak (ho μ46) rfl rfl<|ak (ho μ56) rfl rfl<|ak (ho μ61) rfl rfl af
  have μ67:M 8 129 2 [1,2,6,14] 4:=hi<|aa [(1,131),(3,137),(4,145),(6,193)] rfl (by kernel_rfl)<|ak (ho μ47) rfl rfl<|ak (ho μ57) rfl rfl<|ak (ho μ62) rfl rfl<|cc rfl rfl (dX rfl) rfl (ho μ66) rfl rfl af
  have μ68:M 9 1 0 [1,2,14] 0:=hi<|aa [(1,3),(3,9),(4,17),(6,65),(7,129)] rfl (by kernel_rfl)<|ak (ho μ48) rfl rfl<|ak (ho μ58) rfl rfl<|ak (ho μ63) rfl rfl<|cc rfl rfl (dX rfl) rfl (ho μ65) rfl rfl<|cc rfl rfl (dX rfl) rfl (ho μ67) rfl rfl af
  have μ69:M 5 218 3 [1,2,5,6,15,17,18] 3:=hi<|aa [(0,219)] rfl (by kernel_rfl)<|ak (ho μ29) rfl rfl af
  have μ70:M 6 90 1 [1,2,5,15,17,18] 4:=hi<|aa [(0,91),(7,218)] rfl (by kernel_rfl)<|ak (ho μ30) rfl rfl<|cc rfl rfl (dX rfl) rfl (ho μ69) rfl rfl af
  have μ71:M 5 218 4 [1,2,5,6,15,17,18] 3:=hi<|aa [(0,219)] rfl (by kernel_rfl)<|ak (ho μ31) rfl rfl af
  have μ72:M 6 154 2 [1,2,6,15,17,18] 4:=hi<|aa [(0,155),(6,218)] rfl (by kernel_rfl)<|ak (ho μ32) rfl rfl<|cc rfl rfl (dX rfl) rfl (ho μ71) rfl rfl af
  have μ73:M 7 26 0 [1,2,15,17,18] 0:=hi<|aa [(0,27),(6,90),(7,154)] rfl (by kernel_rfl)<|ak (ho μ33) rfl rfl<|cc rfl rfl (dX rfl) rfl (ho μ70) rfl rfl<|cc rfl rfl (dX rfl) rfl (ho μ72) rfl rfl af
  have μ74:M 6 202 3 [1,2,5,6,15,17] 3:=hi<|aa [(0,203),(4,218)] rfl (by kernel_rfl)<|ak (ho μ34) rfl rfl<|ak (ho μ69) rfl rfl af
  have μ75:M 7 74 1 [1,2,5,15,17] 4:=hi<|aa [(0,75),(4,90),(7,202)] rfl (by kernel_rfl)<|ak (ho μ35) rfl rfl<|ak (ho μ70) rfl rfl<|cc rfl rfl (dX rfl) rfl (ho μ74) rfl rfl af
  have μ76:M 6 202 4 [1,2,5,6,15,17] 3:=hi<|aa [(0,203),(4,218)] rfl (by kernel_rfl)<|ak (ho μ36) rfl rfl<|ak (ho μ71) rfl rfl af
  have μ77:M 7 138 2 [1,2,6,15,17] 4:=hi<|aa [(0,139),(4,154),(6,202)] rfl (by kernel_rfl)<|ak (ho μ37) rfl rfl<|ak (ho μ72) rfl rfl<|cc rfl rfl (dX rfl) rfl (ho μ76) rfl rfl af
  have μ78:M 8 10 0 [1,2,15,17] 0:=hi<|aa [(0,11),(4,26),(6,74),(7,138)] rfl (by kernel_rfl)<|ak (ho μ38) rfl rfl<|ak (ho μ73) rfl rfl<|cc rfl rfl (dX rfl) rfl (ho μ75) rfl rfl<|cc rfl rfl (dX rfl) rfl (ho μ77) rfl rfl af
  have μ79:M 6 210 3 [1,2,5,6,15,18] 3:=hi<|aa [(0,211),(3,218)] rfl (by kernel_rfl)<|ak (ho μ39) rfl rfl<|ak (ho μ69) rfl rfl af
  have μ80:M 7 82 1 [1,2,5,15,18] 4:=hi<|aa [(0,83),(3,90),(7,210)] rfl (by kernel_rfl)<|ak (ho μ40) rfl rfl<|ak (ho μ70) rfl rfl<|cc rfl rfl (dX rfl) rfl (ho μ79) rfl rfl af
  have μ81:M 6 210 4 [1,2,5,6,15,18] 3:=hi<|aa [(0,211),(3,218)] rfl (by kernel_rfl)<|ak (ho μ41) rfl rfl<|ak (ho μ71) rfl rfl af
  have μ82:M 7 146 2 [1,2,6,15,18] 4:=hi<|aa [(0,147),(3,154),(6,210)] rfl (by kernel_rfl)<|ak (ho μ42) rfl rfl<|ak (ho μ72) rfl rfl<|cc rfl rfl (dX rfl) rfl (ho μ81) rfl rfl af
  have μ83:M 8 18 0 [1,2,15,18] 0:=hi<|aa [(0,19),(3,26),(6,82),(7,146)] rfl (by kernel_rfl)<|ak (ho μ43) rfl rfl<|ak (ho μ73) rfl rfl<|cc rfl rfl (dX rfl) rfl (ho μ80) rfl rfl<|cc rfl rfl (dX rfl) rfl (ho μ82) rfl rfl af
  have μ84:M 7 194 3 [1,2,5,6,15] 3:=hi<|aa [(0,195),(3,202),(4,210)] rfl (by kernel_rfl)<|ak (ho μ44) rfl rfl<|ak (ho μ74) rfl rfl<|ak (ho μ79) rfl rfl af
  have μ85:M 8 66 1 [1,2,5,15] 4:=hi<|aa [(0,67),(3,74),(4,82),(7,194)] rfl (by kernel_rfl)<|ak (ho μ45) rfl rfl<|ak (ho μ75) rfl rfl<|ak (ho μ80) rfl rfl<|cc rfl rfl (dX rfl) rfl (ho μ84) rfl rfl af
  have μ86:M 7 194 4 [1,2,5,6,15] 3:=hi<|aa [(0,195),(3,202),(4,210)] rfl (by kernel_rfl)<|ak (ho μ46) rfl rfl<|ak (ho μ76) rfl rfl<|ak (ho μ81) rfl rfl af
  have μ87:M 8 130 2 [1,2,6,15] 4:=hi<|aa [(0,131),(3,138),(4,146),(6,194)] rfl (by kernel_rfl)<|ak (ho μ47) rfl rfl<|ak (ho μ77) rfl rfl<|ak (ho μ82) rfl rfl<|cc rfl rfl (dX rfl) rfl (ho μ86) rfl rfl af
  have μ88:M 9 2 0 [1,2,15] 0:=hi<|aa [(0,3),(3,10),(4,18),(6,66),(7,130)] rfl (by kernel_rfl)<|ak (ho μ48) rfl rfl<|ak (ho μ78) rfl rfl<|ak (ho μ83) rfl rfl<|cc rfl rfl (dX rfl) rfl (ho μ85) rfl rfl<|cc rfl rfl (dX rfl) rfl (ho μ87) rfl rfl af
  have μ89:M 6 216 3 [1,2,5,6,17,18] 3:=hi<|aa [(0,217),(1,218)] rfl (by kernel_rfl)<|ak (ho μ49) rfl rfl<|ak (ho μ69) rfl rfl af
  have μ90:M 7 88 1 [1,2,5,17,18] 4:=hi<|aa [(0,89),(1,90),(7,216)] rfl (by kernel_rfl)<|ak (ho μ50) rfl rfl<|ak (ho μ70) rfl rfl<|cc rfl rfl (dX rfl) rfl (ho μ89) rfl rfl af
  have μ91:M 6 216 4 [1,2,5,6,17,18] 3:=hi<|aa [(0,217),(1,218)] rfl (by kernel_rfl)<|ak (ho μ51) rfl rfl<|ak (ho μ71) rfl rfl af
  have μ92:M 7 152 2 [1,2,6,17,18] 4:=hi<|aa [(0,153),(1,154),(6,216)] rfl (by kernel_rfl)<|ak (ho μ52) rfl rfl<|ak (ho μ72) rfl rfl<|cc rfl rfl (dX rfl) rfl (ho μ91) rfl rfl af
  have μ93:M 8 24 0 [1,2,17,18] 0:=hi<|aa [(0,25),(1,26),(6,88),(7,152)] rfl (by kernel_rfl)<|ak (ho μ53) rfl rfl<|ak (ho μ73) rfl rfl<|cc rfl rfl (dX rfl) rfl (ho μ90) rfl rfl<|cc rfl rfl (dX rfl) rfl (ho μ92) rfl rfl af
  have μ94:M 7 200 3 [1,2,5,6,17] 3:=hi<|aa [(0,201),(1,202),(4,216)] rfl (by kernel_rfl)<|ak (ho μ54) rfl rfl<|ak (ho μ74) rfl rfl<|ak (ho μ89) rfl rfl af
  have μ95:M 8 72 1 [1,2,5,17] 4:=hi<|aa [(0,73),(1,74),(4,88),(7,200)] rfl (by kernel_rfl)<|ak (ho μ55) rfl rfl<|ak (ho μ75) rfl rfl<|ak (ho μ90) rfl rfl<|cc rfl rfl (dX rfl) rfl (ho μ94) rfl rfl af
  have μ96:M 7 200 4 [1,2,5,6,17] 3:=hi<|aa [(0,201),(1,202),(4,216)] rfl (by kernel_rfl)<|ak (ho μ56) rfl rfl<|ak (ho μ76) rfl rfl<|ak (ho μ91) rfl rfl af
  have μ97:M 8 136 2 [1,2,6,17] 4:=hi<|aa [(0,137),(1,138),(4,152),(6,200)] rfl (by kernel_rfl)<|ak (ho μ57) rfl rfl<|ak (ho μ77) rfl rfl<|ak (ho μ92) rfl rfl<|cc rfl rfl (dX rfl) rfl (ho μ96) rfl rfl af
  have μ98:M 9 8 0 [1,2,17] 0:=hi<|aa [(0,9),(1,10),(4,24),(6,72),(7,136)] rfl (by kernel_rfl)<|ak (ho μ58) rfl rfl<|ak (ho μ78) rfl rfl<|ak (ho μ93) rfl rfl<|cc rfl rfl (dX rfl) rfl (ho μ95) rfl rfl<|cc rfl rfl (dX rfl) rfl (ho μ97) rfl rfl af
  have μ99:M 7 208 3 [1,2,5,6,18] 3:=hi<|aa [(0,209),(1,210),(3,216)] rfl (by kernel_rfl)<|ak (ho μ59) rfl rfl<|ak (ho μ79) rfl rfl<|ak (ho μ89) rfl rfl af
  have μ100:M 8 80 1 [1,2,5,18] 4:=hi<|aa [(0,81),(1,82),(3,88),(7,208)] rfl (by kernel_rfl)<|ak (ho μ60) rfl rfl<|ak (ho μ80) rfl rfl<|ak (ho μ90) rfl rfl<|cc rfl rfl (dX rfl) rfl (ho μ99) rfl rfl af
  have μ101:M 7 208 4 [1,2,5,6,18] 3:=hi<|aa [(0,209),(1,210),(3,216)] rfl (by kernel_rfl)<|ak (ho μ61) rfl rfl<|ak (ho μ81) rfl rfl<|ak (ho μ91) rfl rfl af
  have μ102:M 8 144 2 [1,2,6,18] 4:=hi<|aa [(0,145),(1,146),(3,152),(6,208)] rfl (by kernel_rfl)<|ak (ho μ62) rfl rfl<|ak (ho μ82) rfl rfl<|ak (ho μ92) rfl rfl<|cc rfl rfl (dX rfl) rfl (ho μ101) rfl rfl af
  have μ103:M 9 16 0 [1,2,18] 0:=hi<|aa [(0,17),(1,18),(3,24),(6,80),(7,144)] rfl (by kernel_rfl)<|ak (ho μ63) rfl rfl<|ak (ho μ83) rfl rfl<|ak (ho μ93) rfl rfl<|cc rfl rfl (dX rfl) rfl (ho μ100) rfl rfl<|cc rfl rfl (dX rfl) rfl (ho μ102) rfl rfl af
  have μ104:M 8 192 3 [1,2,5,6] 3:=hi<|aa [(0,193),(1,194),(3,200),(4,208)] rfl (by kernel_rfl)<|ak (ho μ64) rfl rfl<|ak (ho μ84) rfl rfl<|ak (ho μ94) rfl rfl<|ak (ho μ99) rfl rfl af
  have μ105:M 9 64 1 [1,2,5] 4:=hi<|aa [(0,65),(1,66),(3,72),(4,80),(7,192)] rfl (by kernel_rfl)<|ak (ho μ65) rfl rfl<|ak (ho μ85) rfl rfl<|ak (ho μ95) rfl rfl<|ak (ho μ100) rfl rfl<|cc rfl rfl (dX rfl) rfl (ho μ104) rfl rfl af
  have μ106:M 8 192 4 [1,2,5,6] 3:=hi<|aa [(0,193),(1,194),(3,200),(4,208)] rfl (by kernel_rfl)<|ak (ho μ66) rfl rfl<|ak (ho μ86) rfl rfl<|ak (ho μ96) rfl rfl<|ak (ho μ101) rfl rfl af
  have μ107:M 9 128 2 [1,2,6] 4:=hi<|aa [(0,129),(1,130),(3,136),(4,144),(6,192)] rfl (by kernel_rfl)<|ak (ho μ67) rfl rfl<|ak (ho μ87) rfl rfl<|ak (ho μ97) rfl rfl<|ak (ho μ102) rfl rfl<|cc rfl rfl (dX rfl) rfl (ho μ106) rfl rfl af
  have μ108:M 10 0 0 [1,2] 0:=hi<|aa [(0,1),(1,2),(3,8),(4,16),(6,64),(7,128)] rfl (by kernel_rfl)<|ak (ho μ68) rfl rfl<|ak (ho μ88) rfl rfl<|ak (ho μ98) rfl rfl<|ak (ho μ103) rfl rfl<|cc rfl rfl (dX rfl) rfl (ho μ105) rfl rfl<|cc rfl rfl (dX rfl) rfl (ho μ107) rfl rfl af
  exact μ108
 refine aP<|av 3 rfl<|bC (iQ rfl rfl rfl (by decide) ((show(a:Int).tdiv 2=((a / 2:Nat):Int) by rw[Int.tdiv_eq_ediv_of_nonneg (by omega)];omega)) (by unfold In64;omega)) rfl<|bC (aJ ((a / 2*7)) rfl) rfl<|av 1 rfl<|bC (aL rfl ((eG T.ae (a / 2) 6 hi (by omega)).trans (show(jK (cB T.ae (a / 2)))[6]? =some (num g) by rw[←hgl];rfl))) rfl<|av 3 rfl<|aG [1,2,5,6,7] rfl ?_
 refine aP<|av 4 rfl<|aG [1,2,5,6,7,8] rfl ?_
 refine aP<|av 1 rfl<|bC (iQ rfl rfl rfl (by decide) ((show(a:Int).tdiv 2=((a / 2:Nat):Int) by rw[Int.tdiv_eq_ediv_of_nonneg (by omega)];omega)) (by unfold In64;omega)) rfl<|av 3 rfl<|aG [2,5,6,7,8,9] rfl ?_
 refine gi (xs:=[num n]) 5 0 0 rfl rfl ?_
 refine gi (xs:=[num h]) 6 1 0 rfl rfl ?_
 refine gi (xs:=ct 3 g) 7 2 0 rfl rfl ?_
 refine gi (xs:=ct 2 h) 8 3 0 rfl rfl ?_
 refine gi (xs:=ct 1 ((a / 2:Nat):Int)) 9 4 0 rfl rfl ?_
 refine dx [] (.c 2<|.c 5<|.c 6<|.c 7<|.c 8<|.c 9<|.nil) .nil rfl rfl ?_
 refine ab (.v (dS rfl rfl) rfl<|.a 1 rfl<|.k [6,7,8,9,10] rfl)<|aP<|av 1 rfl<|aG [6,7,8,9,10,11] rfl ?_
 refine ah<|bu 36 (.raw (.bool (c1))) [6,7,8,9,10,11] rfl ?_ ?_
 ·exact .a 2 rfl<|.v (b9 rfl (hc1)) rfl<|.k [36,6,7,8,9,10,11] rfl
 refine ag rfl (fun h2=>?_) (fun h2=>?_)
 ·have hg0:0<g:=tt (by rw[hc1,h2])
  rw[if_pos hg0]
  refine bF<|av 2 rfl<|ec rfl (h1 3 g) rfl<|av 1 rfl<|aG [6,7,8,9,10,11] rfl ?_
  refine aP<|av 2 rfl<|ec rfl (h1 2 h) rfl<|av 2 rfl<|aG [6,7,8,9,11,12] rfl ?_
  refine aP<|bC (dS rfl rfl) rfl<|bC (dS rfl rfl) rfl<|cp (iX (xs:=[_,_]) rfl (bI.sl.get rfl) ⟨Nat.le_of_ble_eq_true rfl,Nat.le_of_ble_eq_true rfl⟩ rfl rfl) rfl<|av 2 rfl<|aG [9,13] rfl ?_
  refine ab (.v (dS rfl rfl) rfl<|.a 1 rfl<|.k [4] rfl)<|aq ?_
  unfold jZ F2 F3
  first
   |exact⟨_,_,aA.of rfl,aB.iO (aj.cons (aB.jJ rfl (aj.cons (aB.eH rfl (aj.cons (aB.iO (aj.cons aB.pure<|aj.cons (aB.jJ rfl (aj.cons (aB.pure (p:=aw _)) aj.nil)) aj.nil))<|aj.cons (aB.iO (aj.cons aB.pure<|aj.cons aB.pure<|aj.cons (aB.jJ rfl (aj.cons (aB.pure (p:=aw _)) aj.nil)) aj.nil)) aj.nil)) aj.nil))<|aj.cons aB.pure aj.nil),rfl⟩
   |exact⟨_,_,aA.of rfl,aB.iO (aj.cons (aB.jJ rfl (aj.cons (aB.eH rfl (aj.cons (aB.iO (aj.cons aB.pure<|aj.cons (aB.jJ rfl (aj.cons aB.bT aj.nil)) aj.nil))<|aj.cons (aB.iO (aj.cons aB.pure<|aj.cons aB.pure<|aj.cons (aB.jJ rfl (aj.cons (aB.pure (p:=aw _)) aj.nil)) aj.nil)) aj.nil)) aj.nil))<|aj.cons aB.pure aj.nil),rfl⟩
 ·have hg0:¬0<g:=ff (by rw[hc1,h2])
  rw[if_neg hg0]
  refine ai<|aP<|av 2 rfl<|ec rfl (h1 2 h) rfl<|av 2 rfl<|aG [6,7,8,9,11,12] rfl ?_
  refine aP<|bC (dS rfl rfl) rfl<|bC (dS rfl rfl) rfl<|cp (iX (xs:=[_,_]) rfl (bI.sl.get rfl) ⟨Nat.le_of_ble_eq_true rfl,Nat.le_of_ble_eq_true rfl⟩ rfl rfl) rfl<|av 2 rfl<|aG [9,13] rfl ?_
  refine ab (.v (dS rfl rfl) rfl<|.a 1 rfl<|.k [4] rfl)<|aq ?_
  unfold jZ F2 F3
  first
   |exact⟨_,_,aA.of rfl,aB.iO (aj.cons (aB.jJ rfl (aj.cons (aB.eH rfl (aj.cons (aB.iO (aj.cons aB.pure<|aj.cons (aB.jJ rfl (aj.cons (aB.pure (p:=aw _)) aj.nil)) aj.nil))<|aj.cons (aB.iO (aj.cons aB.pure<|aj.cons aB.pure<|aj.cons (aB.jJ rfl (aj.cons (aB.pure (p:=aw _)) aj.nil)) aj.nil)) aj.nil)) aj.nil))<|aj.cons aB.pure aj.nil),rfl⟩
   |exact⟨_,_,aA.of rfl,aB.iO (aj.cons (aB.jJ rfl (aj.cons (aB.eH rfl (aj.cons (aB.iO (aj.cons aB.pure<|aj.cons (aB.jJ rfl (aj.cons aB.bT aj.nil)) aj.nil))<|aj.cons (aB.iO (aj.cons aB.pure<|aj.cons aB.pure<|aj.cons (aB.jJ rfl (aj.cons (aB.pure (p:=aw _)) aj.nil)) aj.nil)) aj.nil)) aj.nil))<|aj.cons aB.pure aj.nil),rfl⟩
end PW
end Go.Proofs.YtnegbdpggideiaaGreatDoor
