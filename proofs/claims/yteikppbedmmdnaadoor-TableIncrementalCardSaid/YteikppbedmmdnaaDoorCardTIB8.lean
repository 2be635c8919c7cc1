/- Texts of the proof, part 8. -/
import Derived.Laws.StructEq
import Derived.Lib.AppendStr
import Derived.Lib.UnsafeStr
import Derived.Lib.Builder
import Derived.Shelf.Strings.Builder1
import Derived.Shelf.Strings.Builder2
import Derived.Shelf.Strings.OnBuilder
import Derived.Shelf.Strings.BuilderF
import Derived.Shelf.Strings.BuilderK
import Derived.Shelf.Strings.Builder2Cap
import Derived.Shelf.Strconv.Itoa0
import Derived.Shelf.Strconv.Itoa1
import Derived.Shelf.LaysM
import Derived.Shelf.Strconv.Itoa2
import Derived.Shelf.Strconv.Itoa3
import Derived.Shelf.Strings.BuilderCap
import Derived.Test.YteikppbedmmdnaaDoorProg
import Derived.Test.YteikppbedmmdnaaDoorCardTIB7
set_option linter.unusedVariables false
set_option linter.unusedSimpArgs false
set_option maxRecDepth 10000
set_option maxHeartbeats 1000000
namespace Go.Proofs.YteikppbedmmdnaaDoor
namespace PW
section
open Go.RowKit cX Mem Net Heap
def dG(T:au):au:= {T with over:=if T.over.length=0 then List.replicate T.nodes.toNat false else T.over}
def fq(T:au)(D:List Bool):List Bool:=if D.length=0 then List.replicate (2*T.aa.length) false else D
theorem nS(n a:Nat):(List.replicate n false).getD a false=false:=by
 rw[List.getD_eq_getElem?_getD,List.getElem?_replicate]
 split<;>rfl
theorem pU(T:au)(x:Nat):cU (dG T) x=cU T x:=by
 unfold cU dG
 by_cases h:T.over.length=0
 ·simp only[if_pos h]
  rw[nS,List.eq_nil_of_length_eq_zero h]
  rfl
 ·simp only[if_neg h]
theorem qf(T:au)(D:List Bool)(a:Nat):db (fq T D) a=db D a:=by
 unfold db fq
 by_cases h:D.length=0
 ·rw[if_pos h,nS,List.eq_nil_of_length_eq_zero h]
  rfl
 ·rw[if_neg h]
theorem nt{T:au}{D:List Bool}{d N:Nat}(hv:aW T=true)(hf:b8 T D=true)(hN:T.nodes=(N:Int))(hd:d<N):eI (dG T) (fq T D) N d:=by
 have hb:=cr hv
 have hf':D.length=0∨D.length=2*T.aa.length:=by simpa[b8]using hf
 refine⟨?_,hN,?_,?_,hd⟩
 ·unfold aW at hv ⊢
  simp only[Bool.and_eq_true]at hv ⊢
  obtain⟨⟨⟨h1,h2⟩,h3⟩,h4⟩:=hv
  refine⟨⟨⟨h1,h2⟩,?_⟩,h4⟩
  simp only[dG]
  by_cases h:T.over.length=0
  ·simp[h];right;omega
  ·simp only[if_neg h];exact h3
 ·show(fq T D).length=2*T.aa.length
  unfold fq
  split
  ·simp
  ·rename_i h;exact hf'.resolve_left h
 ·unfold dG
  simp only
  split
  ·simp;omega
  ·rename_i h
   have:=hb.2.2.2.resolve_left h
   omega
theorem qg{T:au}{D:List Bool}{d:Nat}(hv:aW T=true)(hd:(d:Int)<T.nodes)(hv':aW (dG T)=true):aP (dG T) (fq T D) d false=aP T D d false:=by
 have h:=ik (bz hv) D false hd
 have hw:∀a,Net.Way (dG T) (fq T D) d false (aP T D d false) a↔Net.Way T D d false (aP T D d false) a:=fun a=>by
  unfold Net.Way
  rw[qf,show bH (dG T) false a=bH T false a from rfl,pU]
 refine eE (bz hv') ⟨h.len,h.root,h.ge,fun a ha hw'=>h.closed a ha ((hw a).1 hw'),fun x hx h0=>(h.eU x hx h0).imp id fun⟨a,h1,h2,h3,h4⟩=>⟨a,h1,h2,(hw a).2 h3,h4⟩⟩
theorem vg:(Tryd.prog.info? 4).map (·.size)=some 1:=by kernel_rfl
theorem ow(T:au)(D:List Bool)(d:Int)(he:bW T D [d]≠0):aG Tryd.prog 6 [bI T,br D,num d] [] (fun r σ'=>r= .tuple [.raw (.pointer none),num (bW T D [d])]∧σ'=[]):=by
 have hds:aG Tryd.prog 17 [bI T,br D,num d] [] (fun r σ'=>r= .tuple [.raw (.slice none 0 0),num (bW T D [d])]∧σ'=[]):=(lC T D d).mono fun r σ' h=>by
  rcases h with⟨_,h⟩|⟨h,_⟩
  ·exact h
  ·exact absurd h he
 refine bc Tryd.func6 I Tryd.ntmps6 I<|ag (.a 3 I<|.k [1,2,3] I)<|a7<|ax 3 I<|bh I I (aG.mono hds (fun _ σ' h=>?_))
 obtain⟨rfl,rfl⟩:=h
 refine ax 5 I<|aO [1,2,3,8,9] I ?_
 refine al<|ag (.a 2 I<|.k [1,2,3,8,9,19] I)<|ak I (fun hc=>?_) (fun hc=>?_)
 ·exact ag (.a 3 I<|.k [6,7] I)<|aF<|⟨_,aK.of I,rfl,rfl⟩
 ·exact absurd (of_decide_eq_false hc) (by simpa using he)
set_option maxHeartbeats 4000000 in
theorem qe(T:au)(D:List Bool)(d N:Nat)(he:bW T D [(d:Int)]=0)(hN:T.nodes=(N:Int)):aG Tryd.prog 6 [bI T,br D,num d] [] (fun r σ'=>r= .tuple [.ptr 0 0,num 0]∧σ'=bZ (dG T) (fq T D) d N (aP (dG T) (fq T D) d false) (num 0)):=by
 obtain⟨hv,hf,hnd⟩:=fU he
 have hdn:=cI.1 (hnd _ (List.mem_singleton.2 rfl))
 have hb:=cr hv
 have hfd:D.length=0∨D.length=2*T.aa.length:=by simpa[b8]using hf
 have hT:=nt hv hf hN (d:=d) (by omega)
 rw[qg hv hdn.2 hT.valid]
 have hdl:(aP T D d false).length=N:=by have:=(ik (bz hv) D false hdn.2).len;omega
 have hds:aG Tryd.prog 17 [bI T,br D,num d] [] (fun r σ'=>r= .tuple [.own 0,num 0]∧σ'=[some (.row 3 1 N (aI (aP T D d false)))]):=(lC T D d).mono fun r σ' h=>by
  rcases h with⟨h,_⟩|⟨_,h1,h2⟩
  ·exact absurd he h
  ·rw[Int.toNat_natCast,hdl]at h2
   exact⟨h1,h2⟩
 have hcl:=jv T (by omega) (by omega) [some (.row 3 1 N (aI (aP T D d false)))]
 have hl2:(2*(T.aa.length:Int))=((2*T.aa.length:Nat):Int):=by omega
 refine bc Tryd.func6 I Tryd.ntmps6 I<|ag (.a 3 I<|.k [1,2,3] I)<|a7<|ax 3 I<|bh I I (aG.mono hds (fun _ σ' h=>?_))
 obtain⟨rfl,rfl⟩:=h
 refine ax 5 I<|aO [1,2,3,8,9] I ?_
 refine al<|ag (.a 2 I<|.k [1,2,3,8,9,19] I)<|ak I (fun hc=>?_) (fun hc=>?_)
 ·exact absurd rfl (of_decide_eq_true hc)
 ·refine an<|fL (aQ (ks:=[1,2,3,8]) I) ?_
  refine jM ([(1,br D),(3,.bY (da T) 0),(10,.ptr 6 0)]) ([some (.row 3 1 N (aI (aP T D d false))),some (.cells 25 [num T.nodes,.own 3,.own 4]),some (.cells 25 [num T.nodes,.own 3,.own 4]),some (.row 4 1 T.over.length (aT T.over)),some (.row 54 7 T.aa.length (bA T.aa)),some (.row 4 1 (2*T.aa.length) (cz [.raw (.bool false)] (2*T.aa.length))),some (.cells 63 [num T.nodes,.own 3,.own 4,.own 5,num d,.own 0,num 0])]) mixed ?_ ?_
  ·refine uh [[(1,br D),(2,num d),(3,.bY (da T) 0),(8,.own 0),(10,.ptr 6 0),(21,bI T),(22,.agg [num T.nodes,.own 3,.own 4]),(23,bI T),(24,num (2*(T.aa.length:Int))),(25,.own 5),(26,num d),(27,.own 0),(28,.agg [num T.nodes,.own 3,.own 4,.own 5,num d,.own 0,num 0]),(29,.ptr 6 0)]] [[some (.row 3 1 N (aI (aP T D d false)))],[some (.row 3 1 N (aI (aP T D d false))),some (.cells 25 [num T.nodes,.own 3,.own 4]),some (.cells 25 [num T.nodes,.own 3,.own 4]),some (.row 4 1 T.over.length (aT T.over)),some (.row 54 7 T.aa.length (bA T.aa))],[some (.row 3 1 N (aI (aP T D d false))),some (.cells 25 [num T.nodes,.own 3,.own 4]),some (.cells 25 [num T.nodes,.own 3,.own 4]),some (.row 4 1 T.over.length (aT T.over)),some (.row 54 7 T.aa.length (bA T.aa)),some (.row 4 1 (2*T.aa.length) (cz [.raw (.bool false)] (2*T.aa.length)))],[some (.row 3 1 N (aI (aP T D d false))),some (.cells 25 [num T.nodes,.own 3,.own 4]),some (.cells 25 [num T.nodes,.own 3,.own 4]),some (.row 4 1 T.over.length (aT T.over)),some (.row 54 7 T.aa.length (bA T.aa)),some (.row 4 1 (2*T.aa.length) (cz [.raw (.bool false)] (2*T.aa.length))),some (.cells 63 [num T.nodes,.own 3,.own 4,.own 5,num d,.own 0,num 0])]] [1,2,3,8] I (by kernel_rfl) (fun M hi ho=>?_)
   have μ0:M 0 1023 0 [1,3,10] 3:=hi<|uB I (by kernel_rfl) (⟨rfl,aQ (ks:=[1,3,10]) I⟩)
   have μ1:M 1 511 0 [1,3,29] 3:=hi<|bd [(9,1023)] I<|bP (ho μ0) I I bC
   have μ2:M 2 255 0 [1,3,28] 2:=hi<|bd [(8,511)] I<|qV I I (fQ I I I) I (ho μ1) I I bC
   have μ3:M 3 127 0 [1,3,22,25,26,27] 2:=hi<|bd [(7,255)] I<|bP (ho μ2) I I bC
   have μ4:M 4 63 0 [1,3,8,22,25,26] 2:=hi<|bd [(6,127)] I<|bP (ho μ3) I I bC
   have μ5:M 4 95 0 [1,2,3,22,25,27] 2:=hi<|bd [(5,127)] I<|bP (ho μ3) I I bC
   have μ6:M 5 31 0 [1,2,3,8,22,25] 2:=hi<|bd [(5,63),(6,95)] I<|bP (ho μ4) I I<|bP (ho μ5) I I bC
   have μ7:M 4 111 0 [1,3,22,24,26,27] 1:=hi<|bd [(4,127)] I<|qV I I (b9 I (bB.rk.get I) I I hl2 hl2 ⟨by unfold maxLen;omega,by omega⟩) I (ho μ3) I I bC
   have μ8:M 5 47 0 [1,3,8,22,24,26] 1:=hi<|bd [(4,63),(6,111)] I<|qV I I (b9 I (bB.rk.get I) I I hl2 hl2 ⟨by unfold maxLen;omega,by omega⟩) I (ho μ4) I I<|bP (ho μ7) I I bC
   have μ9:M 5 79 0 [1,2,3,22,24,27] 1:=hi<|bd [(4,95),(5,111)] I<|qV I I (b9 I (bB.rk.get I) I I hl2 hl2 ⟨by unfold maxLen;omega,by omega⟩) I (ho μ5) I I<|bP (ho μ7) I I bC
   have μ10:M 6 15 0 [1,2,3,8,22,24] 1:=hi<|bd [(4,31),(5,47),(6,79)] I<|qV I I (b9 I (bB.rk.get I) I I hl2 hl2 ⟨by unfold maxLen;omega,by omega⟩) I (ho μ6) I I<|bP (ho μ8) I I<|bP (ho μ9) I I bC
   have μ11:M 5 103 0 [1,3,22,23,26,27] 1:=hi<|bd [(3,111)] I<|rr I I (fu I (c8 T (by omega))) I (ho μ7) I I bC
   have μ12:M 6 39 0 [1,3,8,22,23,26] 1:=hi<|bd [(3,47),(6,103)] I<|rr I I (fu I (c8 T (by omega))) I (ho μ8) I I<|bP (ho μ11) I I bC
   have μ13:M 6 71 0 [1,2,3,22,23,27] 1:=hi<|bd [(3,79),(5,103)] I<|rr I I (fu I (c8 T (by omega))) I (ho μ9) I I<|bP (ho μ11) I I bC
   have μ14:M 7 7 0 [1,2,3,8,22,23] 1:=hi<|bd [(3,15),(5,39),(6,71)] I<|rr I I (fu I (c8 T (by omega))) I (ho μ10) I I<|bP (ho μ12) I I<|bP (ho μ13) I I bC
   have μ15:M 6 99 0 [1,3,22,26,27] 1:=hi<|bd [(2,103)] I<|bP (ho μ11) I I bC
   have μ16:M 7 35 0 [1,3,8,22,26] 1:=hi<|bd [(2,39),(6,99)] I<|bP (ho μ12) I I<|bP (ho μ15) I I bC
   have μ17:M 7 67 0 [1,2,3,22,27] 1:=hi<|bd [(2,71),(5,99)] I<|bP (ho μ13) I I<|bP (ho μ15) I I bC
   have μ18:M 8 3 0 [1,2,3,8,22] 1:=hi<|bd [(2,7),(5,35),(6,67)] I<|bP (ho μ14) I I<|bP (ho μ16) I I<|bP (ho μ17) I I bC
   have μ19:M 6 101 0 [1,3,21,23,26,27] 0:=hi<|bd [(1,103)] I<|nq I I I I hcl (ho μ11) I I bC
   have μ20:M 7 37 0 [1,3,8,21,23,26] 0:=hi<|bd [(1,39),(6,101)] I<|nq I I I I hcl (ho μ12) I I<|bP (ho μ19) I I bC
   have μ21:M 7 69 0 [1,2,3,21,23,27] 0:=hi<|bd [(1,71),(5,101)] I<|nq I I I I hcl (ho μ13) I I<|bP (ho μ19) I I bC
   have μ22:M 8 5 0 [1,2,3,8,21,23] 0:=hi<|bd [(1,7),(5,37),(6,69)] I<|nq I I I I hcl (ho μ14) I I<|bP (ho μ20) I I<|bP (ho μ21) I I bC
   have μ23:M 7 97 0 [1,3,21,26,27] 0:=hi<|bd [(1,99),(2,101)] I<|nq I I I I hcl (ho μ15) I I<|bP (ho μ19) I I bC
   have μ24:M 8 33 0 [1,3,8,21,26] 0:=hi<|bd [(1,35),(2,37),(6,97)] I<|nq I I I I hcl (ho μ16) I I<|bP (ho μ20) I I<|bP (ho μ23) I I bC
   have μ25:M 8 65 0 [1,2,3,21,27] 0:=hi<|bd [(1,67),(2,69),(5,97)] I<|nq I I I I hcl (ho μ17) I I<|bP (ho μ21) I I<|bP (ho μ23) I I bC
   have μ26:M 9 1 0 [1,2,3,8,21] 0:=hi<|bd [(1,3),(2,5),(5,33),(6,65)] I<|nq I I I I hcl (ho μ18) I I<|bP (ho μ22) I I<|bP (ho μ24) I I<|bP (ho μ25) I I bC
   have μ27:M 7 100 0 [1,3,23,26,27] 0:=hi<|bd [(0,101)] I<|bP (ho μ19) I I bC
   have μ28:M 8 36 0 [1,3,8,23,26] 0:=hi<|bd [(0,37),(6,100)] I<|bP (ho μ20) I I<|bP (ho μ27) I I bC
   have μ29:M 8 68 0 [1,2,3,23,27] 0:=hi<|bd [(0,69),(5,100)] I<|bP (ho μ21) I I<|bP (ho μ27) I I bC
   have μ30:M 9 4 0 [1,2,3,8,23] 0:=hi<|bd [(0,5),(5,36),(6,68)] I<|bP (ho μ22) I I<|bP (ho μ28) I I<|bP (ho μ29) I I bC
   have μ31:M 8 96 0 [1,3,26,27] 0:=hi<|bd [(0,97),(2,100)] I<|bP (ho μ23) I I<|bP (ho μ27) I I bC
   have μ32:M 9 32 0 [1,3,8,26] 0:=hi<|bd [(0,33),(2,36),(6,96)] I<|bP (ho μ24) I I<|bP (ho μ28) I I<|bP (ho μ31) I I bC
   have μ33:M 9 64 0 [1,2,3,27] 0:=hi<|bd [(0,65),(2,68),(5,96)] I<|bP (ho μ25) I I<|bP (ho μ29) I I<|bP (ho μ31) I I bC
   have μ34:M 10 0 0 [1,2,3,8] 0:=hi<|bd [(0,1),(2,4),(5,32),(6,64)] I<|bP (ho μ26) I I<|bP (ho μ30) I I<|bP (ho μ32) I I<|bP (ho μ33) I I bC
   exact μ34
  refine bO [6,3,4,5,0] (σ':=bZ T (List.replicate (2*T.aa.length) false) d N (aP T D d false) (num 0)) (.c 1<|.c 3<|.c 10 .nil) (.kept rfl (.cells (ab.c<|ab.c<|ab.c<|ab.c<|ab.c<|ab.c<|ab.c ab.nil))<|.kept rfl (.row ab.pure)<|.kept rfl (.row ab.pure)<|.kept rfl (.dX (by simp) (jr _))<|.kept rfl (.row ab.pure) .nil) I I ?_
  refine a7<|ax 5 I<|bD (oB I Tryd.underlying22 vg rfl (show _=some (some (cy.row 4 1 (2*T.aa.length) (aT (List.replicate (2*T.aa.length) false)))) by simp[bZ]) I hfd) I<|aO [3,10] I ?_
  refine dI (σ':=bZ T (fq T D) d N (aP T D d false) (num 0)) (by
   have e:(fq T D).length=2*T.aa.length:=by have:=hT.mask;exact this
   unfold bZ
   rw[e]
   rfl) ?_
  refine al<|ag (.a 7 I<|.k [3,10,42] I)<|ak I (fun hc=>?_) (fun hc=>?_)
  ·have h0:T.over.length=0:=by have:=of_decide_eq_true hc;omega
   have hfo:(dG T).over=List.replicate N false:=by unfold dG;rw[show T.nodes.toNat=N by omega];exact if_pos h0
   have hzo:cz (List.map PV.raw [Value.bool false]) N=aT (dG T).over:=by rw[hfo];exact jr N
   have hol:(dG T).over.length=N:=by rw[hfo];simp
   refine aR<|ax 3 I<|bD (b9 I (bB.rk.get I) I I hN hN ⟨by unfold maxLen;omega,by omega⟩) I<|ax 4 I<|aO [10] I ?_
   refine bO [0,5,2,3,4] (σ':=bZ (dG T) (fq T D) d N (aP T D d false) (num 0)) (.c 10 .nil) (.kept rfl (.cells (ab.c<|ab.c<|ab.c<|ab.c<|ab.c<|ab.c<|ab.c ab.nil))<|.kept rfl (.dX hol.symm hzo)<|.kept rfl (.row ab.pure)<|.kept rfl (.row ab.pure)<|.kept rfl (.row ab.pure) .nil) I I ?_
   exact ag (.a 3 I<|.k [6,7] I)<|aF<|⟨_,aK.of I,rfl,rfl⟩
  ·have h0:T.over.length≠0:=fun e=>by rw[e]at hc;cases hc
   have hfu:dG T=T:=by unfold dG;rw[if_neg h0]
   rw[hfu]
   exact an<|ag (.a 3 I<|.k [6,7] I)<|aF<|⟨_,aK.of I,rfl,rfl⟩
theorem rI{T:au}{D:List Bool}{N d:Nat}(hT:eI T D N d)(v tch:PV)[IsPure v][IsPure tch]:aG Tryd.prog 11 [.bY (ew T D d v tch) 0] [] (fun r σ'=>Nw σ' r (bI T)):=by
 have hb:=cr hT.valid
 have hN:=hT.nodes
 have ho:=hT.over
 refine bc Tryd.func11 I Tryd.ntmps11 I<|a7<|ax 1 I<|aO [0,2] I ?_
 refine al<|ag (.a 2 I<|.k [0,2,4] I)<|ak I (fun hc=>?_) (fun hc=>?_)
 ·cases hc
 ·refine an<|a7<|ax 4 I<|bh I I (aG.mono (jv T (by omega) (by omega) _) (fun _ σ' h=>?_))
  obtain⟨rfl,rfl⟩:=h
  refine ax 1 I<|aO [2] I ?_
  exact aF<|⟨_,aK.of I,Nw.fv (l2.cons Nw.flat<|l2.cons (Nw.du rfl l2.flat)<|l2.cons (Nw.du rfl l2.flat) l2.nil)⟩
theorem qI{T:au}{D:List Bool}{N d:Nat}(hT:eI T D N d)(v tch:PV)[IsPure v][IsPure tch]:aG Tryd.prog 12 [.bY (ew T D d v tch) 0] [] (fun r σ'=>Nw σ' r (br D)):=by
 have hb:=cr hT.valid
 have hm:=hT.mask
 refine bc Tryd.func12 I Tryd.ntmps12 I<|ag (.a 1 I<|.k [0] I)<|al<|ag (.a 2 I<|.k [0,4] I)<|ak I (fun hc=>?_) (fun hc=>?_)
 ·cases hc
 ·refine an<|a7<|ax 4 I<|bh I I (aG.mono (jj D (by omega) _) (fun _ σ' h=>?_))
  obtain⟨rfl,rfl⟩:=h
  refine ax 1 I<|aO [2] I ?_
  exact aF<|⟨_,aK.of I,Nw.du rfl l2.flat⟩
theorem qy{T:au}{D:List Bool}{d a h:Nat}{L:List Int}{dn:Int}(hh:aA T a=(h:Int))(hhL:h<L.length){p1 p2 p3:Bool}(h1:jU T D d a=p1)(h2:decide (0≤at' L (h:Int))=p2)(h3:decide (at' L (h:Int)+bg T a=dn)=p3):jY T D L dn d a=((p1&&p2)&&p3):=by
 have e:L.getD h 0=at' L (h:Int):=by simp[at',List.getD_eq_getElem?_getD,hhL]
 have e2:decide (at' L (h:Int)<0)= !p2 :=by rw[←h2,Bool.eq_iff_iff];simp
 unfold jY
 rw[hh,Int.toNat_natCast,e,h3,e2,←h1]
 unfold jU
 rw[hh,Int.toNat_natCast,decide_not]
 cases db D a<;>cases cU T h<;>cases decide ((h:Int)=(d:Int))<;>cases p2<;>cases p3<;>rfl
theorem ru{T:au}{D:List Bool}{N d:Nat}(hT:eI T D N d)(n:Nat)(hn:n<N):eY T D n d=if n=d∨at' (aP T D d false) (n:Int)<0 then [] else cT T D (aP T D d false) (at' (aP T D d false) (n:Int)) d (b6 T n):=by
 have hl:=hT.len
 have e:(aP T D d false).getD n 0=at' (aP T D d false) (n:Int):=by simp[at',List.getD_eq_getElem?_getD,show n<(aP T D d false).length by omega]
 unfold eY
 rw[e]
set_option maxHeartbeats 2000000 in
theorem qi{T:au}{D:List Bool}{N d:Nat}(hT:eI T D N d)(tch:PV)[IsPure tch](n:Nat)(hn:n<N):aG Tryd.prog 14 [.bY (ew T D d (aL (aP T D d false)) tch) 0,num n] [] (fun r σ'=>Nw σ' r (aL (eY T D n d))):=by
 have hb:=cr hT.valid
 have hll:=cq hT.valid
 have hS:=hT.sound
 have hN:=hT.nodes
 have hm:=hT.mask
 have hl:=hT.len
 have hout:(b6 T n).length≤2*T.aa.length:=eT T n _
 have hub:=hT.ub
 have hge:=hT.oF.ge
 rw[ru hT n hn]
 obtain⟨out,ho⟩:∃l,aP T D d false=l:=⟨_,rfl⟩
 rw[ho]at hl hub hge ⊢
 obtain⟨dn,hdn⟩:∃z,at' out (n:Int)=z:=⟨_,rfl⟩
 rw[hdn]
 obtain⟨p1,hp1⟩:∃q,bL T (n:Int)=q:=⟨_,rfl⟩
 obtain⟨p2,hp2⟩:∃q,decide ((n:Int)=(d:Int))=q:=⟨_,rfl⟩
 obtain⟨p3,hp3⟩:∃q,decide (dn<0)=q:=⟨_,rfl⟩
 have hn1:p1=true:=by rw[←hp1];exact cI.2 (by omega)
 refine bc Tryd.func14 I Tryd.ntmps14 I<|ag (.a 1 I<|.k [0,1] I)<|al<|bF 37 (.raw (.bool ((!p1 ||p2)||p3))) [0,1] I ?_ ?_
 ·refine .a 8 I<|.c rfl (hp1▸eu T n) I<|.a 3 I<|?_
  cases p1
  ·exact .a 17 I<|.k [37,0,1] I
  ·refine .a 5 I<|.v (cJ I (hp2)) I<|.a 2 I<|?_
   cases p2
   ·exact .a 5 I<|.v (aY (n) I) I<|.v (aV I ((dD out n (by omega)).trans (by rw[hdn]))) I<|.v (cJ I (hp3)) I<|.a 1 I<|.k [37,0,1] I
   ·exact .a 9 I<|.k [37,0,1] I
 refine ak I (fun hc=>?_) (fun hc=>?_)
 ·have hz:n=d∨dn<0:=by
   rw[hn1]at hc
   rcases Bool.or_eq_true_iff.1 hc with h|h
   ·have h2:p2=true:=by simpa using h
    rw[h2]at hp2;exact .inl (by have:=of_decide_eq_true hp2;omega)
   ·rw[h]at hp3;exact .inr (of_decide_eq_true hp3)
  exact ag (.a 1 I<|.k [4] I)<|aF<|⟨_,aK.of I,by rw[if_pos hz];exact Nw.cd⟩
 ·have hz:¬(n=d∨dn<0):=by
   obtain⟨h,h3⟩:=Bool.or_eq_false_iff.1 hc
   obtain⟨_,h2⟩:=Bool.or_eq_false_iff.1 h
   rw[h2]at hp2
   rw[h3]at hp3
   have:=of_decide_eq_false hp2
   have:=of_decide_eq_false hp3
   omega
  clear hc
  refine an<|ag (.a 1 I<|.k [0,1,5] I)<|ee 5 3 1 I ?_
  refine al<|ag (.a 5 I<|.c rfl (l4 T (by omega) n) I<|.a 2 I<|.k [0,1,5,43,44,45] I)<|aw<|fx [0,1,5,43,44,45] I<|bx (fun r s=>∃i,i≤(b6 T n).length∧r=(b6 T n).length - i∧s=⟨[(0,.bY (ew T D d (aL out) tch) 0),(1,num n),(5,.own 0),(43,aL (b6 T n)),(44,num (b6 T n).length),(45,num i)],[some (.row 3 1 (cT T D out dn d ((b6 T n).take i)).length (aI (cT T D out dn d ((b6 T n).take i))))]⟩) (b6 T n).length ⟨0,by omega,by omega,rfl⟩ ?_
  rintro r s ⟨i,hi,rfl,rfl⟩
  refine ag (.a 1 I<|.k [0,1,5,43,44,45,46] I)<|al<|ak I (fun hc=>?_) (fun hc=>?_)
  ·have hlt:i<(b6 T n).length:=by have:=of_decide_eq_true hc;omega
   obtain⟨a0,a1⟩:=j2 (c7 (d:=0) hlt)
   obtain⟨a,ha⟩:=Int.eq_ofNat_of_zero_le a0
   have ham:a<2*T.aa.length:=by omega
   obtain⟨hd0,hhN⟩:=hS.head a ham
   obtain⟨m,hm2⟩:=Int.eq_ofNat_of_zero_le hd0
   have hmN:m<N:=by omega
   have hcb:=hS.cost a ham
   have hu1:=hub m (by omega)
   have hu2:=hge m (by omega)
   obtain⟨p4,hp4⟩:∃q,jU T D d a=q:=⟨_,rfl⟩
   obtain⟨p5,hp5⟩:∃q,decide (0≤at' out (m:Int))=q:=⟨_,rfl⟩
   obtain⟨p6,hp6⟩:∃q,decide (at' out (m:Int)+bg T a=dn)=q:=⟨_,rfl⟩
   have hpass:=qy hm2 (by omega) hp4 hp5 hp6
   have hstep:cT T D out dn d ((b6 T n).take (i+1))=cT T D out dn d ((b6 T n).take i)++(if jY T D out dn d a then [(a:Int)] else []):=by
    unfold cT
    rw[List.take_add_one,List.filter_append,show(b6 T n)[i]? =some (a:Int) by rw[←ha,List.getD_eq_getElem?_getD];simp[hlt]]
    congr 1
    simp only[Option.toList_some,List.filter_cons,List.filter_nil,Int.toNat_natCast]
   have hlen:(cT T D out dn d ((b6 T n).take i)).length≤100000:=Nat.le_trans (List.length_filter_le _ _) (by rw[List.length_take];omega)
   have huc:=gx hT (aL out) tch a ham
   rw[hp4]at huc
   refine an<|al<|aw<|ag (.v (aY (i) I) I<|.v (aV I ((aN _ i hlt).trans (by rw[ha]))) I<|.a 1 I<|.k [0,1,5,7,43,44,45] I)<|ag (.a 5 I<|.c rfl (hm2▸e0 T a ham (by omega)) I<|.a 1 I<|.k [0,1,5,7,8,43,44,45] I)<|nW mixed (by kernel_rfl) 91 (.raw (.bool ((p4&&p5)&&p6))) [0,1,5,7,43,44,45] I ?_ ?_
   ·refine .a 2 I<|.v [55,56] (fu I (huc)) I I<|.a 1 I<|?_
    cases p4
    ·exact .a 33 I<|.k [91,0,1,5,7,43,44,45] I
    ·refine .a 5 I<|.v [62,63] (aY (m) I) I I<|.v [64] (aV I (dD out m (by omega))) I I<|.v [65] (cJ I (hp5)) I I<|.a 2 I<|?_
     cases p5
     ·exact .a 23 I<|.k [91,0,1,5,7,43,44,45] I
     ·exact .a 5 I<|.v [72,73] (aY (m) I) I I<|.v [74] (aV I (dD out m (by omega))) I I<|.a 5 I<|.v [79,80] (fu I (eW T a ham)) I I<|.v [75,81] (bw I (hn:=by unfold In64;omega)) I I<|.a 5 I<|.v [86,87] (aY (n) I) I I<|.v [88] (aV I ((dD out n (by omega)).trans (by rw[hdn]))) I I<|.v [82,89] (cJ I (hp6)) I I<|.a 1 I<|.k [91,0,1,5,7,43,44,45] I
   refine ak I (fun hc=>?_) (fun hc=>?_)
   ·have hst:cT T D out dn d ((b6 T n).take (i+1))=cT T D out dn d ((b6 T n).take i)++[(a:Int)]:=by rw[hstep,hpass,hc];rfl
    refine aR<|ax 3 I<|bD (aU I (bB.rk.get I) I I I I (by unfold maxLen;omega)) I<|ax 1 I ?_
    refine eb [1] (.c 0<|.c 1<|.c 5<|.c 43<|.c 44<|.c 45<|.nil) (.kept rfl (.dX rfl (dL _ _))<|.nil) I I (af ?_)
    refine aD (.v (bw I) I<|.a 1 I<|.k [0,1,5,43,44,45] I) ?_
    refine⟨(b6 T n).length - (i+1),by omega,i+1,by omega,rfl,?_⟩
    rw[hst]
    first
     |rfl
     |(simp only[List.length_append,List.length_singleton];rfl)
   ·have hst:cT T D out dn d ((b6 T n).take (i+1))=cT T D out dn d ((b6 T n).take i):=by rw[hstep,hpass,hc];simp
    refine an<|aD (.v (bw I) I<|.a 1 I<|.k [0,1,5,43,44,45] I) ?_
    refine⟨(b6 T n).length - (i+1),by omega,i+1,by omega,rfl,?_⟩
    rw[hst]
    first
     |rfl
     |(simp only[List.length_append,List.length_singleton];rfl)
  ·have hie:i=(b6 T n).length:=by have:=of_decide_eq_false hc;omega
   exact bn<|ag (.a 2 I<|.k [4] I)<|aF<|⟨_,aK.of I,by rw[if_neg hz,show cT T D out dn d (b6 T n)=cT T D out dn d ((b6 T n).take i) by rw[hie,List.take_length]];exact Nw.du rfl l2.flat⟩
def iP(b:Nat)(T:au)(D:List Bool)(d N:Nat)(out:List Int)(tch:PV):ba:=[some (.cells 63 [num T.nodes,.own (b+1),.own (b+2),.own (b+3),num d,.own (b+4),tch]),some (.row 4 1 T.over.length (aT T.over)),some (.row 54 7 T.aa.length (bA T.aa)),some (.row 4 1 D.length (aT D)),some (.row 3 1 N (aI out))]
def ni(b:Nat):List Nat:=[b,b+1,b+2,b+3,b+4]
section
variable {A C:ba} {b:Nat} {T T':au} {D D':List Bool} {d N:Nat} {out out':List Int} {tch tch':PV}
theorem fZ(h:A.length=b)(k:Nat)(hk:k<5):(A++(iP b T D d N out tch++C))[b+k]? =(iP b T D d N out tch)[k]? :=by
 rw[List.getElem?_append_right (by omega),show b+k - A.length=k by omega,List.getElem?_append_left (by simp[iP];omega)]
theorem fj:(A++(iP b T D d N out tch++C)).length=A.length+5+C.length:=by simp[iP];omega
theorem sQ(h:A.length=b)(tc:Int):rl (A++(iP b T D d N out (num tc)++C)) (ni b) (un (ni b) (bZ T D d N out (num tc))) (bZ T D d N out (num tc)) (ni b):=
 .kept (fZ h 0 (by omega)) (.cells (cR.cons .pure<|cR.cons (Vw.own rfl)<|cR.cons (Vw.own rfl)<|cR.cons (Vw.own rfl)<|cR.cons .pure<|cR.cons (Vw.own rfl)<|cR.cons .pure cR.nil))<|.kept (fZ h 1 (by omega)) (.row cR.pure)<|.kept (fZ h 2 (by omega)) (.row cR.pure)<|.kept (fZ h 3 (by omega)) (.row cR.pure)<|.kept (fZ h 4 (by omega)) (.row cR.pure) .nil
theorem sc(h:A.length=b)(tc tc':Int):vy (A++(iP b T D d N out (num tc)++C)) (ni b) (bZ T D d N out (num tc)) (bZ T' D' d N out' (num tc')) (A++(iP b T' D' d N out' (num tc')++C)):=by
 refine⟨by rw[fj,fj];simp[bZ,ni],fun i b2 hb2=>?_⟩
 have hu:∀i,i<b∨b+5≤i→un (ni b) (bZ T D d N out (num tc)) i=true:=fun i hi=>by
  have e:∀j,b≤j→j<b+5→Nat.beq j i=false:=fun j h1 h2=>by
   rw[Bool.eq_false_iff];intro h;have:=Nat.eq_of_beq_eq_true h;omega
  simp[ni,bZ,un,e b (by omega) (by omega),e (b+1) (by omega) (by omega),e (b+2) (by omega) (by omega),e (b+3) (by omega) (by omega),e (b+4) (by omega) (by omega)]
 by_cases h1:i<b
 ·left
  refine⟨by rw[fj];omega,hu i (.inl h1),?_⟩
  rw[List.getElem?_append_left (by omega)]at hb2 ⊢
  exact hb2
 ·by_cases h2:b+5≤i
  ·left
   have hl:=(List.getElem?_eq_some_iff.1 hb2).1
   rw[fj]at hl
   refine⟨by rw[fj];exact hl,hu i (.inr h2),?_⟩
   rw[List.getElem?_append_right (by omega),List.getElem?_append_right (by simp[iP];omega)]at hb2 ⊢
   exact hb2
  ·right
   obtain⟨k,rfl⟩:∃k,i=b+k:=⟨i - b,by omega⟩
   have hk:k<5:=by omega
   rw[fZ h k hk]at hb2
   have hbk:∀j,j<5→bk (ni b) (A++(iP b T D d N out (num tc)++C)).length j=b+j:=fun j hj=>by
    unfold bk
    rw[if_pos (by simpa[ni]using hj)]
    match j,hj with
    |0,_=>rfl
    |1,_=>rfl
    |2,_=>rfl
    |3,_=>rfl
    |4,_=>rfl
   have hlt:b+k<(A++(iP b T D d N out (num tc)++C)).length:=by rw[fj];omega
   match k,hb2,hlt with
   |0,hb2,hlt=>cases hb2;exact⟨0,_,rfl,.cells (ed.cons .flat<|ed.cons (Mv.own (hbk 1 (by omega)))<|ed.cons (Mv.own (hbk 2 (by omega)))<|ed.cons (Mv.own (hbk 3 (by omega)))<|ed.cons .flat<|ed.cons (Mv.own (hbk 4 (by omega)))<|ed.cons .flat ed.nil),.inl ⟨by simp[ni],hlt,rfl⟩⟩
   |1,hb2,hlt=>cases hb2;exact⟨1,_,rfl,.row ed.flat,.inl ⟨by simp[ni],hlt,rfl⟩⟩
   |2,hb2,hlt=>cases hb2;exact⟨2,_,rfl,.row ed.flat,.inl ⟨by simp[ni],hlt,rfl⟩⟩
   |3,hb2,hlt=>cases hb2;exact⟨3,_,rfl,.row ed.flat,.inl ⟨by simp[ni],hlt,rfl⟩⟩
   |4,hb2,hlt=>cases hb2;exact⟨4,_,rfl,.row ed.flat,.inl ⟨by simp[ni],hlt,rfl⟩⟩
theorem iQ{f:FuncId}{qs:List PV}[av qs]{e tc:Int}(hA:A.length=b)(h:aG Tryd.prog f (.ptr 0 0::qs) (bZ T D d N out (num tc)) (fun r σ'=>∃tc',r=num e∧σ'=bZ T' D' d N out' (num tc'))):
  aG Tryd.prog f (.ptr b 0::qs) (A++(iP b T D d N out (num tc)++C)) (fun r σ'=>∃tc',r=num e∧σ'=A++(iP b T' D' d N out' (num tc')++C)):=by
 refine aG.view (ni b) (by simp[ni,dh]) (cR.cons (Vw.ptr rfl) cR.pure) (sQ hA tc) (by rw[fj];simp[ni];omega) (aG.mono h ?_)
 rintro r σ1 ⟨tc',rfl,rfl⟩
 exact⟨_,_,.flat,sc hA tc tc',tc',rfl,rfl⟩
end
end
section
open Go.RowKit cX Mem Net
structure tQ where
 kind:Int
 num:Int
deriving DecidableEq
structure ky where
 ay:List Int
 rep:Bool
 push:List tQ
structure kL where
 node:Int
 ct:List ky
 down:List Int
def ux(s:tQ):List PV:=[num s.kind,num s.num]
def tU(l:List tQ):List PV:=l.flatMap ux
def nm(l:List tQ):PV:=.slice l.length (tU l)
def jA(e:ky):List PV:=[aL e.ay,flag e.rep,nm e.push]
def gn(l:List ky):List PV:=l.flatMap jA
def jm(l:List ky):PV:=.slice l.length (gn l)
def jz(t:kL):List PV:=[num t.node,jm t.ct,aL t.down]
def qq(t:kL):PV:=.agg (jz t)
def ju(l:List kL):List PV:=l.flatMap jz
def qS(l:List kL):PV:=.slice l.length (ju l)
instance (s:tQ):av (ux s):=by unfold ux;infer_instance
instance (l:List tQ):av (tU l):=av.flatMap _ _ fun _=>inferInstance
instance (l:List tQ):IsPure (nm l):=by unfold nm;infer_instance
instance (l:List tQ):dj (nm l):=by unfold nm;infer_instance
instance (e:ky):av (jA e):=by unfold jA;infer_instance
instance (e:ky):bV (jA e):=by unfold jA;infer_instance
instance (l:List ky):av (gn l):=av.flatMap _ _ fun _=>inferInstance
instance (l:List ky):IsPure (jm l):=by unfold jm;infer_instance
instance (l:List ky):dj (jm l):=by unfold jm;infer_instance
instance (t:kL):av (jz t):=by unfold jz;infer_instance
instance (t:kL):IsPure (qq t):=by unfold qq;infer_instance
instance (l:List kL):av (ju l):=av.flatMap _ _ fun _=>inferInstance
theorem ob(l:List ky)(e:ky):gn l++jA e=gn (l++[e]):=by simp[gn]
theorem om(l:List kL)(e:kL):ju l++jz e=ju (l++[e]):=by simp[ju]
theorem flat_get{α:Type}(f:α→List PV)(s:Nat)(hf:∀a,(f a).length=s):∀(l:List α) (i j:Nat) (a:α),l[i]? =some a→j<s→(l.flatMap f)[i*s+j]? =(f a)[j]?
 | [],i,j,a,h,_=>by simp at h
 |b::l,0,j,a,h,hj=>by
  simp at h;subst h
  rw[List.flatMap_cons,Nat.zero_mul,Nat.zero_add,List.getElem?_append_left (by rw[hf];exact hj)]
 |b::l,i+1,j,a,h,hj=>by
  have:=flat_get f s hf l i j a (by simpa using h) hj
  have e1:(i+1)*s=i*s+s:=Nat.succ_mul i s
  have e2:(i+1)*s+j - s=i*s+j:=by omega
  have e3:(f b).length≤(i+1)*s+j:=by rw[hf];omega
  rw[List.flatMap_cons,List.getElem?_append_right e3,hf,e2,this]
theorem iJ{α:Type}(f:α→List PV)(s:Nat)(hf:∀a,(f a).length=s):∀(l:List α) (i:Nat) (a:α),l[i]? =some a→((l.flatMap f).drop (i*s)).take s=f a
 | [],i,a,h=>by simp at h
 |b::l,0,a,h=>by
  simp at h;subst h
  rw[List.flatMap_cons,Nat.zero_mul,List.drop_zero]
  exact List.take_left' (hf b)
 |b::l,i+1,a,h=>by
  have:=iJ f s hf l i a (by simpa using h)
  have e1:(i+1)*s=s+i*s:=by rw[Nat.succ_mul];omega
  rw[List.flatMap_cons,e1,←List.drop_drop,List.drop_left' (hf b),this]
theorem qR(l:List ky)(i j:Nat)(e:ky)(h:l[i]? =some e)(hj:j<3):(gn l)[i*3+j]? =(jA e)[j]? :=flat_get jA 3 (fun _=>rfl) l i j e h hj
theorem p8(l:List ky)(i:Nat)(e:ky)(h:l[i]? =some e):((gn l).drop (i*3)).take 3=jA e:=iJ jA 3 (fun _=>rfl) l i e h
theorem vu{P:Program}{σ:ba}{t:bo}{o:Oper}{p q:PV}(h:aH P σ t o p)(hl:mD p q):aH P σ t o q:=fun F base E ρ w hρ hS hT=>by
 have:=h F base E ρ w hρ hS hT
 generalize (execOp ρ o).run P w=x at*
 cases x with
 |ok n w'=>
  cases n with
  |value v=>exact⟨this.1,hl _ _ _ this.2⟩
  |skip=>exact⟨this.1,hl _ _ _ this.2⟩
  |enter f args=>exact⟨this.1,Calls.mono this.2 (fun e w'' ⟨x,h1,h2,h3⟩=>⟨x,h1,h2,hl _ _ _ h3⟩)⟩
  |_=>exact this
 |halt x w'=>exact this
def qD(xs ys:List PV):Prop:=xs.length=ys.length∧∀(i:Nat) x y,xs[i]? =some x→ys[i]? =some y→mD x y
theorem qD.nil:qD [] []:=⟨rfl,fun i x y h=>by simp at h⟩
theorem qD.cons{x y:PV}{xs ys:List PV}(h:mD x y)(hs:qD xs ys):qD (x::xs) (y::ys):=⟨by simp[hs.1],fun j a b h1 h2=>by
 cases j with
 |zero=>simp at h1 h2;subst h1;subst h2;exact h
 |succ j=>exact hs.2 j a b (by simpa using h1) (by simpa using h2)⟩
theorem mD.fv{xs ys:List PV}(h:qD xs ys):mD (.agg xs) (.agg ys):=fun E w v hv=>by
 cases hv with
 |agg cs _ hl hr=>exact .agg cs ys (hl.trans h.1) (fun i c u h1 h2=>by
   have hi:i<xs.length:=by rw[h.1];exact(List.getElem?_eq_some_iff.1 h2).1
   exact h.2 i xs[i] u (by simp[hi]) h2 E w c (hr i c _ h1 (by simp[hi])))
noncomputable def oM(T:au)(D:List Bool)(n k:Nat):List ky:=(List.range k).map fun d=>⟨eY T D n d,false,[]⟩
def iA(D:List Bool)(l:List Int):List Int:=l.filter fun a=>db D a.toNat
noncomputable def dQ(T:au)(D:List Bool)(n:Nat):kL:=⟨n,oM T D n T.nodes.toNat,iA D (b6 T n)⟩
noncomputable def eF(T:au)(D:List Bool)(n:Int):kL:=if bW T D [n]=0 then dQ T D n.toNat else⟨0,[],[]⟩
theorem rE(T:au)(D:List Bool)(n k:Nat):oM T D n (k+1)=oM T D n k++[⟨eY T D n k,false,[]⟩]:=by simp[oM,List.range_succ]
theorem po(T:au)(D:List Bool)(n k:Nat):(oM T D n k).length=k:=by simp[oM]
deriving instance DecidableEq for ky
deriving instance DecidableEq for kL
end
section
open Go.RowKit cX Mem
section
variable {P:Program} {σ:ba} {t:bo} {o:Oper}
def cD(l:List UInt8):List PV:=l.map fun b=>.raw (.int .u8 b.toNat)
instance (l:List UInt8):av (cD l):=av.map _ _ fun _=>inferInstance
theorem eO(a b:List UInt8):cD a++cD b=cD (a++b):=by simp[cD]
theorem gT{w:World}(base:Nat)(t u ty e:TypeId)(i:TypeInfo)(ht:P.underlying t=some (.slice e))(hu:P.underlying u=some .string)(hi:P.info? e=some i)(hz:i.zero=some (.int .u8 0))
  (hsize:i.size=1) (hby:i.bytes=1) (v:Value) (n:Nat) (xs:List Value) (hown:w.ownsRow base e 1 v n xs) (s:ByteArray)
  (h63:n+s.size≤maxLen) (hbytes:n+s.size≤140737488355328) (hbase:base≤w.heap.size):
  ∃v' w',(Builtin.append_ #[t,u] ty #[v,.string s]).run P w= .ok v' w'∧w'.ownsRow base e 1 v' (n+s.size) (xs++Lib.strCells s)∧w.grownBy w' v.ownBlock∧(v'.ownBlock=v.ownBlock∨v'.ownBlock=some w.heap.size):=by
 obtain⟨v',w',hr,h2,h3,h4⟩:=Lib.run_append_own_string (P:=P) w base t u ty e i ht hu hi hz hsize hby v n xs hown s h63 hbytes hbase
 refine⟨v',w',hr,h2,h3,?_⟩
 have hsmall:n+s.size≤9223372036854775807:=by simp only[maxLen]at h63;omega
 rcases hown.2 with⟨rfl,rfl⟩|⟨g,cap,cur,rfl,hbg,hg,hnc,hcm,hcs,htake⟩
 ·by_cases hm:s.size=0
  ·rw[h4.2 ⟨rfl,hm⟩];exact .inl rfl
  ·have hr':=run_append_nil_string (P:=P) w t u ty e i (.int .u8 0) ht hu hi hz s (by omega) (by omega) (by rw[hby];omega)
   rw[hr']at hr
   cases hr
   exact .inr rfl
 ·by_cases hroom:n+s.size≤cap
  ·have hr':=Lib.run_append_room_string (P:=P) w t u ty e i ht hu hi hsize g n cap cur hg s hroom (by rw[hcs];omega)
   rw[hr']at hr
   cases hr
   exact .inl rfl
  ·have holds:∀(j:Nat) u,xs[j]? =some u→w.cell? ((⟨g,0,none⟩:Addr).add j)=some u:=hown.cells (g:=g) I
   have hr':=Lib.run_append_grow_string (P:=P) w t u ty e i (.int .u8 0) ht hu hi hz ⟨g,0,none⟩ n cap xs (by rw[hsize];exact hown.1) holds s (by omega) (by omega) (growslice_fits (by omega) (by rw[hby];omega))
   rw[hr']at hr
   cases hr
   exact .inr rfl
def pa(P:Program)(ty sy:TypeId):Option TypeId:=
 match P.underlying ty,P.underlying sy with
 |some (.slice e),some .string=>match P.info? e with
  |some i=>match i.zero with
   |some (.int .u8 0)=>bif Nat.beq i.size 1&&Nat.beq i.bytes 1 then some e else none
   |_=>none
  |none=>none
 |_,_=>none
theorem nX{ty sy e:TypeId}(h:pa P ty sy=some e):P.underlying ty=some (.slice e)∧P.underlying sy=some .string∧∃i,P.info? e=some i∧i.zero=some (.int .u8 0)∧i.size=1∧i.bytes=1:=by
 unfold pa at h
 split at h
 ·rename_i e' h1 h2
  split at h
  ·rename_i i hi
   split at h
   ·rename_i hz
    rw[Bool.cond_eq_ite]at h
    split at h
    ·rename_i hb
     cases h
     obtain⟨b1,b2⟩:=Bool.and_eq_true_iff.1 hb
     exact⟨h1,h2,i,hi,hz,Nat.eq_of_beq_eq_true b1,Nat.eq_of_beq_eq_true b2⟩
    ·cases h
   ·cases h
  ·cases h
 ·cases h
theorem nr{ty sy e n i:Nat}{xs:List PV}{x y:Operand}{s:ByteArray}(ho:o.op= .call {callee:=.builtin .append,args:= #[x,y],argTypes:= #[ty,sy]})(hk:pa P ty sy=some e)(hx:aj t x=some (.own i))(hi:σ[i]? =some (some (.row e 1 n xs)))
  (hy:aj t y=some (.raw (.string s))) (hn:n+s.size≤140737488355328):
  dN P σ t o (.own σ.length) (σ.set i none++[some (.row e 1 (n+s.size) (xs++cD s.data.toList))]):=by
 intro F base E ρ w hρ hS hT
 have h1:=ae hρ hT hx
 have h2:=ae hρ hT hy
 generalize hz1:ρ x=v at h1
 generalize hz2:ρ y=u at h2
 cases h2
 obtain⟨hu,hu2,inf,hinf,hz,hs,hby⟩:=nX hk
 cases h1 with
 |own _ hiL _ hat hone=>
  obtain⟨cs,k1,k2⟩:=hS.blk i _ hi
  rw[hat]at k1
  have hob:az (E.at_ i)=v.ownBlock:=by rw[hat];exact di k1
  obtain⟨v',w',hrun,hown,hg,hw⟩:=gT (P:=P) (w:=w) base ty sy o.type e inf hu hu2 hinf hz hs hby v n cs k1 s (by unfold maxLen;omega) hn hS.bl
  have hr:(execOp ρ o).run P w= .ok (.value v') w':=by
   simp only[execOp,ho,resolve,invoke,builtin,Sem.run_bind,Sem.run_pure,Result.andThen_ok,List.map_toArray,List.map_cons,List.map_nil,hz1,hz2,hrun]
  have hnw:aB E w (Lib.strCells s) (cD s.data.toList):=by
   refine⟨by simp[Lib.strCells,cD],fun j c u h1 h2=>?_⟩
   simp only[Lib.strCells,cD,List.getElem?_map,Option.map_eq_some_iff]at h1 h2
   obtain⟨b,hb,rfl⟩:=h1
   obtain⟨b',hb',rfl⟩:=h2
   rw[hb]at hb'
   cases hb'
   exact .raw _
  have hv':∀b,az v'=some b→az (E.at_ i)=some b∨w.heap.size≤b:=fun b hb=>by
   rw[di hown]at hb
   rcases hw with h|h
   ·rw[hob,←h];exact .inl hb
   ·rw[h]at hb;cases hb;exact .inr (Nat.le_refl _)
  obtain⟨a1,a2⟩:=hS.swap (w':=w') (blk:=.row e 1 (n+s.size) (xs++cD s.data.toList)) hi hg.size (fun k hk hne=>hg.block k hk (by rw[←hob];exact Ne.symm hne)) hv' (fun E' g=>⟨cs++Lib.strCells s,hown,(k2.append hnw).goes g⟩)
  refine⟨v',w',_,.inl hr,a1,a2,⟨hg.os,hg.tape,hg.output,hg.size,fun k hk=>hg.block k (Nat.lt_of_lt_of_le hk hS.bl) (fun e=>?_)⟩,.own σ.length (by simp[Env.push,Env.kill,hS.len]) v' (by simp[Env.push,Env.kill,hS.len]) ?_⟩
  ·have:=(k1.lt k e.symm).1;omega
  ·rcases hown.2 with⟨rfl,_⟩|⟨g',cap,cur,rfl,_⟩<;>rfl
theorem Sat.drop{F:Nat→Prop}{base:Nat}{E:Env}{w w':World}(hS:Sat F base σ E w){j g:Nat}{bj:cy}(hj:σ[j]? =some (some bj))(hb:az (E.at_ j)=some g)(hs:w.heap.size≤w'.heap.size)(ho:∀k,k<w.heap.size→k≠g→w'.heap[k]? =w.heap[k]?):
  Sat F base (σ.set j none) (E.kill j) w'∧bJ E w (E.kill j) w':=by
 have hgM:E.M g:=(hS.mm g).2 (.inr ⟨j,bj,hj,hb⟩)
 obtain⟨k1,_⟩:=hS.kill j hj
 have g':bJ E w (E.kill j) w':=⟨Nat.le_refl _,fun _ _=>rfl,fun b _ hM h=>hM h.1,hs,fun k hk hM=>ho k hk (fun e=>hM (by rw[e];exact hgM))⟩
 refine⟨⟨Nat.le_trans hS.bl hs,fun b hb'=>⟨Nat.lt_of_lt_of_le (k1.fb b hb').1 hs,(k1.fb b hb').2⟩,k1.len,k1.mm,fun i bl hi=>?_,k1.inj,hS.gl.goes g'⟩,g'⟩
 obtain⟨hne,h3⟩:=eA hi
 exact(hS.blk i bl h3).goes g' (fun k hk=>ho k ((hS.blk i bl h3).lt hk).2 (fun e=>hne (hS.inj i j bl bj g h3 hj (by rw[←e];exact hk) hb)))
theorem qO{ty:TypeId}{x:Operand}{s:ByteArray}(ho:o.op= .call {callee:=.builtin .len,args:= #[x],argTypes:= #[ty]})(hu:P.underlying ty=some .string)(hx:aj t x=some (.raw (.string s))):aH P σ t o (.raw (.int .i64 s.size)):=by
 intro F base E ρ w hρ _ hT
 have h1:=ae hρ hT hx
 generalize hz:ρ x=z at h1
 cases h1
 simp[execOp,ho,resolve,invoke,builtin,Builtin.len_,hz,run_underlying hu,goInt]
 exact aJ (.raw _)
theorem nG{ty:TypeId}{x:Operand}{j e s n:Nat}{xs:List PV}(ho:o.op= .call {callee:=.builtin .unsafeSliceData,args:= #[x],argTypes:= #[ty]})(hx:aj t x=some (.own j))(hj:σ[j]? =some (some (.row e s n xs)))(hn:0<n):aH P σ t o (.ptr j 0):=by
 intro F base E ρ w hρ hS hT
 have h1:=ae hρ hT hx
 generalize hz:ρ x=z at h1
 cases h1 with
 |own _ hi _ h hone=>
  obtain⟨cs,k1,_⟩:=hS.blk j _ hj
  rw[h]at k1
  rcases k1.2 with⟨_,h0⟩|⟨g,cap,cur,hv,_,_,hnc,_⟩
  ·omega
  ·subst hv
   have:=Lib.run_unsafeSliceData_row (P:=P) w #[ty] o.type ⟨g,0,none⟩ n cap (by omega)
   simp only[execOp,ho,resolve,invoke,builtin,Sem.run_bind,Sem.run_pure,Result.andThen_ok,List.map_toArray,List.map_cons,List.map_nil,hz,this]
   exact aJ (.ptr j 0 g hi (.inr ⟨n,cap,h⟩))
theorem nx{pt it:TypeId}{x y:Operand}{j e:Nat}{l:List UInt8}(ho:o.op= .call {callee:=.builtin .unsafeString,args:= #[x,y],argTypes:= #[pt,it]})(hp:P.underlying pt=some (.pointer e))(hc:P.cellsOf e=1)(hx:aj t x=some (.ptr j 0))(hy:aj t y=some (.raw (.int .i64 l.length)))(hj:σ[j]? =some (some (.row e 1 l.length (cD l))))(hl:0<l.length):
  dN P σ t o (.raw (.string ⟨l.toArray⟩)) (σ.set j none):=by
 intro F base E ρ w hρ hS hT
 have h1:=ae hρ hT hx
 have h2:=ae hρ hT hy
 generalize hz:ρ x=z at h1
 generalize hz':ρ y=z' at h2
 cases h2
 cases h1 with
 |ptr _ _ b hi h=>
  obtain⟨cs,k1,k2⟩:=hS.blk j _ hj
  have hcs:cs=Lib.byteCells l:=by
   apply List.ext_getElem?
   intro i
   by_cases hi':i<l.length
   ·have h3:=k2.2 i (cs[i]'(by rw[k2.1];simpa[cD]using hi')) (.raw (.int .u8 (l[i]).toNat)) (by simp) (by simp[cD,hi'])
    have h4:cs[i]'(by rw[k2.1];simpa[cD]using hi')= .int .u8 (l[i]).toNat:=by
     generalize cs[i]'(by rw[k2.1];simpa[cD]using hi')=q at h3
     cases h3;rfl
    rw[List.getElem?_eq_getElem (by rw[k2.1];simpa[cD]using hi'),h4]
    simp[Lib.byteCells,hi']
   ·rw[List.getElem?_eq_none (by rw[k2.1];simp[cD];omega),List.getElem?_eq_none (by simp[Lib.byteCells];omega)]
  subst hcs
  have k3:=k1
  rcases k1.2 with⟨hv,h0⟩|⟨g,cap,cur,hv,hbg,hg,hnc,hcm,hsz,htk⟩
  ·omega
  ·have hbeq:b=g:=by
    rcases h with h|⟨n,c,h⟩
    ·rw[hv]at h;cases h
    ·rw[hv]at h;cases h;rfl
   subst hbeq
   have ca:az (E.at_ j)=some b:=by rw[hv];rfl
   have hrun:=Lib.run_unsafeString_row (P:=P) w pt it o.type e hp hc b cur.size (by simp[World.shape?,hg]) l (by intro e';rw[e']at hl;simp at hl) (by omega) (by unfold maxLen at hcm;omega) (fun i x hx'=>k3.cells (g:=b) (by rw[hv];rfl) i (.int .u8 x.toNat) (by simp[Lib.byteCells,hx']))
   have hr:(execOp ρ o).run P w= .ok (.value (.string ⟨l.toArray⟩)) (w.freeze ⟨b,0,none⟩ l.length):=by
    simp only[execOp,ho,resolve,invoke,builtin,Sem.run_bind,Sem.run_pure,Result.andThen_ok,List.map_toArray,List.map_cons,List.map_nil,hz,hz',hrun]
   have hfz:∀k,k≠b→(w.freeze ⟨b,0,none⟩ l.length).heap[k]? =w.heap[k]? :=fun k hk=>by
    unfold World.freeze
    split
    ·rfl
    ·simp only[Array.getElem?_modify]
     rw[if_neg (Ne.symm hk)]
   have hsz':w.heap.size≤(w.freeze ⟨b,0,none⟩ l.length).heap.size:=by
    unfold World.freeze
    split<;>simp
   obtain⟨a1,a2⟩:=Sat.drop (w':=w.freeze ⟨b,0,none⟩ l.length) hS hj ca hsz' (fun k _ hk=>hfz k hk)
   exact⟨_,_,_,.inl hr,a1,a2,Lib.below_freeze (Below.refl base w) (p:=⟨b,0,none⟩) hbg _,.raw _⟩
theorem gP{x y:Operand}{ty tz:TypeId}(ho:o.op= .binOp .eql ty x y tz)(hk:kD P ty=true)(hx:aj t x=some (.raw (.pointer none)))(hy:aj t y=some (.raw (.pointer none))):aH P σ t o (.raw (.bool true)):=by
 refine pq ho hx hy fun w=>?_
 unfold kD at hk
 split at hk
 ·rename_i e hu
  have key:∀d,(Op.equalIn (d+1) ty (.pointer none) (.pointer none)).run P w= .ok true w:=fun d=>by
   simp only[Op.equalIn,Sem.run_bind,run_underlying hu,Result.andThen_ok,Sem.run_pure,Option.isNone_none]
  have:=key 9999
  simp only[Nat.reduceAdd]at this
  simp[eqGuard,binOp,Op.equal,Op.maxDepth,this]
 ·cases hk
theorem lb{x y:Operand}{ty te tz:TypeId}{i k:Nat}{ji:TypeInfo}(ho:o.op= .binOp .neq ty x y tz)(hp:P.underlying ty=some (.pointer te))(hte:P.info? te=some ji)(hx:aj t x=some (.ptr i k))(hy:aj t y=some (.ptr i k)):aH P σ t o (.raw (.bool false)):=by
 intro F base E ρ w hρ hS hT
 have h1:=ae hρ hT hx
 have h2:=ae hρ hT hy
 have he:ρ x=ρ y:=nD.vH E w _ _ h1 h2
 generalize hz:ρ x=z at h1
 have hz':ρ y=z:=by rw[←he,hz]
 cases h1 with
 |ptr _ _ b hi h=>
  have hb:=Lib.run_neq_ptr_same (P:=P) w ⟨b,k,none⟩ hp hte
  have hr:(execOp ρ o).run P w= .ok (.value (.bool false)) w:=by
   simp only[execOp,ho,hz,hz',Sem.run_bind,Sem.run_pure]
   have hg:(eqGuard .neq ty x y (.pointer (some ⟨b,k,none⟩)) (.pointer (some ⟨b,k,none⟩))).run P w= .ok () w:=rfl
   rw[hg]
   simp only[Result.andThen_ok,hb]
  rw[hr]
  exact aJ (.raw _)
theorem kl{src dst te ty:TypeId}{x:Operand}{i:Nat}{ji:TypeInfo}{xs:List PV}(ho:o.op= .convert src dst x)(hs:P.underlying src=some (.pointer te))(hd:P.underlying dst=some .unsafePointer)(ht:P.info? te=some ji)(hj:ji.size≠0)(hx:aj t x=some (.ptr i 0))(hi:σ[i]? =some (some (.cells ty xs)))(hl:0<xs.length):aH P σ t o (.ptr i 0):=by
 intro F base E ρ w hρ hS hT
 have h1:=ae hρ hT hx
 have h1':=h1
 generalize hz:ρ x=z at h1 h1'
 obtain⟨b,cs,k1,k2,k3,k4⟩:=hS.blk i _ hi
 cases h1 with
 |ptr _ _ b' hi' h=>
  have hb:b'=b:=by
   rcases h with h|⟨n,c,h⟩<;>rw[k1]at h<;>cases h
   rfl
  subst hb
  have:=Lib.run_to_unsafe (P:=P) w ⟨b',0,none⟩ hs hd ht hj (e:=ty) (cells:=cs.size) (by simp[World.shape?,k3]) (by have:=k4.1;simp at this ⊢;omega)
  simp only[execOp,ho,hz,Sem.run_bind,this,Result.andThen_ok,Sem.run_pure]
  exact aJ h1'
theorem ig{src dst u ty:TypeId}{x:Operand}{i:Nat}{ji:TypeInfo}{xs:List PV}(ho:o.op= .convert src dst x)(hs:P.underlying src=some .unsafePointer)(hd:P.underlying dst=some (.pointer u))(ht:P.info? u=some ji)(hx:aj t x=some (.ptr i 0))(hi:σ[i]? =some (some (.cells ty xs)))(hl:liesAt P P.depth ty (xs.length / P.cellsOf ty) 0 u 1=true):aH P σ t o (.ptr i 0):=by
 intro F base E ρ w hρ hS hT
 have h1:=ae hρ hT hx
 have h1':=h1
 generalize hz:ρ x=z at h1 h1'
 obtain⟨b,cs,k1,k2,k3,k4⟩:=hS.blk i _ hi
 cases h1 with
 |ptr _ _ b' hi' h=>
  have hb:b'=b:=by
   rcases h with h|⟨n,c,h⟩<;>rw[k1]at h<;>cases h
   rfl
  subst hb
  have hsz:cs.size=xs.length:=by have:=k4.1;simpa using this
  have:=Lib.run_from_unsafe (P:=P) w ⟨b',0,none⟩ hs hd ht (e:=ty) (cells:=cs.size) (by simp[World.shape?,k3]) (by rw[hsz];exact hl)
  simp only[execOp,ho,hz,Sem.run_bind,this,Result.andThen_ok,Sem.run_pure]
  exact aJ h1'
theorem kd{f:FuncId}{x a:Operand}{ats:Array TypeId}{p:PV}(ho:o.op= .call {callee:=.value x,args:= #[a],argTypes:=ats})(hx:aj t x=some (.func f []))(ha:aj t a=some p)(hr:∀v w,(callFunc f #[v]).run P w= .ok (.value v) w):aH P σ t o p:=by
 intro F base E ρ w hρ hS hT
 have h1:=ae hρ hT hx
 have h2:=ae hρ hT ha
 generalize hz:ρ x=z at h1
 cases h1 with
 |func _ cs _ hl hr'=>
  have hcs:cs= #[]:=Array.eq_empty_of_size_eq_zero (by simpa using hl)
  subst hcs
  have h3:(execOp ρ o).run P w= .ok (.value (ρ a)) w:=by
   have:=hr (ρ a) w
   simp[execOp,ho,resolve,hz,Deferred.ofValue,invoke,this]
  rw[h3]
  exact aJ h2
end
end
end PW
end Go.Proofs.YteikppbedmmdnaaDoor
namespace Go.Proofs
open Go.Shelf
def Tryd.jx:Go.Shelf.Ren:=⟨fun|156=>52|165=>64|166=>51|169=>37|240=>63|241=>69|276=>68|277=>76|n=>n,fun|31=>81|9=>9|3=>3|4=>4|0=>0|20=>20|72=>78|76=>103|70=>75|37=>76|75=>102|127=>108|164=>121|5=>5|80=>86|n=>n,fun|n=>n⟩
theorem Tryd.o7:Go.Proofs.Lays.n156 Tryd.prog Tryd.jx:= {
 mixed:=by kernel_rfl
 f156:=Tryd.func52.trans (congrArg some (by kernel_rfl))
 f165:=Tryd.func64.trans (congrArg some (by kernel_rfl))
 f166:=Tryd.func51.trans (congrArg some (by kernel_rfl))
 f169:=Tryd.func37.trans (congrArg some (by kernel_rfl))
 f240:=Tryd.func63.trans (congrArg some (by kernel_rfl))
 f241:=Tryd.func69.trans (congrArg some (by kernel_rfl))
 f276:=Tryd.func68.trans (congrArg some (by kernel_rfl))
 f277:=Tryd.func76.trans (congrArg some (by kernel_rfl))
 t0:=Tryd.underlying0
 a0:=Tryd.isAgg0
 z0:=Tryd.sizeOf0
 v0:=Tryd.zeroValue0
 t3:=Tryd.underlying3
 a3:=Tryd.isAgg3
 z3:=Tryd.sizeOf3
 v3:=Tryd.zeroValue3
 t4:=Tryd.underlying4
 a4:=Tryd.isAgg4
 z4:=Tryd.sizeOf4
 v4:=Tryd.zeroValue4
 t9:=Tryd.underlying9
 a9:=Tryd.isAgg9
 z9:=Tryd.sizeOf9
 v9:=Tryd.zeroValue9
 t20:=Tryd.underlying20
 a20:=Tryd.isAgg20
 z20:=Tryd.sizeOf20
 v20:=Tryd.zeroValue20
 t31:=Tryd.underlying81
 a31:=Tryd.isAgg81
 z31:=Tryd.sizeOf81
 v31:=Tryd.zeroValue81
 t37:=Tryd.underlying76
 a37:=Tryd.isAgg76
 z37:=Tryd.sizeOf76
 v37:=Tryd.zeroValue76
 t70:=Tryd.underlying75
 a70:=Tryd.isAgg75
 z70:=Tryd.sizeOf75
 v70:=Tryd.zeroValue75
 t72:=Tryd.underlying78
 a72:=Tryd.isAgg78
 z72:=Tryd.sizeOf78
 v72:=Tryd.zeroValue78
 t75:=Tryd.underlying102
 a75:=Tryd.isAgg102
 z75:=Tryd.sizeOf102
 v75:=Tryd.zeroValue102
 t76:=Tryd.underlying103
 a76:=Tryd.isAgg103
 z76:=Tryd.sizeOf103
 v76:=Tryd.zeroValue103
 t127:=Tryd.underlying108
 a127:=Tryd.isAgg108
 z127:=Tryd.sizeOf108
 v127:=Tryd.zeroValue108
 t164:=Tryd.underlying121
 a164:=Tryd.isAgg121
 z164:=Tryd.sizeOf121
 v164:=Tryd.zeroValue121}
theorem Tryd.eJ:Builder.Extra Tryd.prog Tryd.jx:= {
 sizeBuilder:=by kernel_rfl
 liesBuilder:=by kernel_rfl
 t5:=Tryd.underlying5
 a5:=Tryd.isAgg5
 z5:=Tryd.sizeOf5
 v5:=Tryd.zeroValue5
 infoByte:=by kernel_rfl
 cellsByte:=by kernel_rfl
 sizeByte:=by kernel_rfl
 neB5:=by decide}
open Go.RowKit in
theorem Tryd.strings_Join_none(a:Option Addr)(c:Nat)(sep:ByteArray)(w:World):
  Calls Tryd.prog 52 #[.slice a 0 c,.string sep] w fun e w'=>e= .returned (.string ⟨#[]⟩)∧w'=w:=Any.strings_Join_none Tryd.o7 Tryd.eJ a c sep w
open Go.RowKit in
theorem Tryd.strings_Join(bk o c:Nat)(xs:List ByteArray)(sep:ByteArray)(w:World)(hcells:∀(j:Nat) x,xs[j]? =some x→w.cell? ⟨bk,o+j,none⟩=some (.string x))(hbk:bk<w.heap.size)(hN:xs.length≤140737488355328)(hcap:xs.length≤c)(hlen:(Lib.join (xs.map (·.data.toList)) sep.data.toList).length≤140737488355328):
  Calls Tryd.prog 52 #[.slice (some ⟨bk,o,none⟩) xs.length c,.string sep] w fun e w'=>e= .returned (.string ⟨(Lib.join (xs.map (·.data.toList)) sep.data.toList).toArray⟩)∧Below w.heap.size w w':=Any.strings_Join Tryd.o7 Tryd.eJ bk o c xs sep w hcells hbk hN hcap hlen
def Tryd.tx:Go.Shelf.Ren:=⟨fun|246=>65|283=>70|284=>71|285=>72|286=>73|129=>78|317=>77|318=>79|319=>80|320=>81|337=>82|338=>83|n=>n,fun|2=>2|3=>3|9=>9|4=>4|171=>123|0=>0|53=>124|37=>76|5=>5|173=>127|212=>132|51=>133|20=>20|213=>134|46=>135|232=>138|233=>139|n=>n,fun|17=>0|18=>2|19=>3|n=>n⟩
def Tryd.sX:Go.Shelf.Ren:=⟨fun|243=>54|246=>65|283=>70|284=>71|285=>72|286=>73|129=>78|317=>77|318=>79|319=>80|320=>81|337=>82|338=>83|n=>n,fun|3=>3|9=>9|2=>2|4=>4|171=>123|0=>0|53=>124|37=>76|5=>5|173=>127|212=>132|51=>133|20=>20|213=>134|46=>135|232=>138|233=>139|n=>n,fun|17=>0|18=>2|19=>3|n=>n⟩
def Tryd.td:Go.Shelf.Ren:=⟨fun|171=>34|243=>54|246=>65|283=>70|284=>71|285=>72|286=>73|129=>78|317=>77|318=>79|319=>80|320=>81|337=>82|338=>83|n=>n,fun|3=>3|9=>9|2=>2|4=>4|171=>123|0=>0|53=>124|37=>76|5=>5|173=>127|212=>132|51=>133|20=>20|213=>134|46=>135|232=>138|233=>139|n=>n,fun|17=>0|18=>2|19=>3|n=>n⟩
def Tryd.nI:Go.Shelf.Ren:=⟨fun|171=>34|243=>54|246=>65|283=>70|284=>71|285=>72|286=>73|129=>78|317=>77|318=>79|319=>80|320=>81|337=>82|338=>83|n=>n,fun|3=>3|9=>9|2=>2|4=>4|171=>123|0=>0|53=>124|37=>76|5=>5|173=>127|212=>132|51=>133|20=>20|213=>134|46=>135|232=>138|233=>139|n=>n,fun|17=>0|18=>2|19=>3|n=>n⟩
theorem Tryd.ti:Go.Proofs.Lays.n171 Tryd.prog Tryd.nI:= {
 mixed:=by kernel_rfl
 f129:=Tryd.func78.trans (congrArg some (by kernel_rfl))
 f171:=Tryd.func34.trans (congrArg some (by kernel_rfl))
 f243:=Tryd.func54.trans (congrArg some (by kernel_rfl))
 f246:=Tryd.func65.trans (congrArg some (by kernel_rfl))
 f283:=Tryd.func70.trans (congrArg some (by kernel_rfl))
 f284:=Tryd.func71.trans (congrArg some (by kernel_rfl))
 f285:=Tryd.func72.trans (congrArg some (by kernel_rfl))
 f286:=Tryd.func73.trans (congrArg some (by kernel_rfl))
 f317:=Tryd.func77.trans (congrArg some (by kernel_rfl))
 f318:=Tryd.func79.trans (congrArg some (by kernel_rfl))
 f319:=Tryd.func80.trans (congrArg some (by kernel_rfl))
 f320:=Tryd.func81.trans (congrArg some (by kernel_rfl))
 f337:=Tryd.func82.trans (congrArg some (by kernel_rfl))
 f338:=Tryd.func83.trans (congrArg some (by kernel_rfl))
 t0:=Tryd.underlying0
 a0:=Tryd.isAgg0
 z0:=Tryd.sizeOf0
 v0:=Tryd.zeroValue0
 t2:=Tryd.underlying2
 a2:=Tryd.isAgg2
 z2:=Tryd.sizeOf2
 v2:=Tryd.zeroValue2
 t3:=Tryd.underlying3
 a3:=Tryd.isAgg3
 z3:=Tryd.sizeOf3
 v3:=Tryd.zeroValue3
 t4:=Tryd.underlying4
 a4:=Tryd.isAgg4
 z4:=Tryd.sizeOf4
 v4:=Tryd.zeroValue4
 t5:=Tryd.underlying5
 a5:=Tryd.isAgg5
 z5:=Tryd.sizeOf5
 v5:=Tryd.zeroValue5
 t9:=Tryd.underlying9
 a9:=Tryd.isAgg9
 z9:=Tryd.sizeOf9
 v9:=Tryd.zeroValue9
 t20:=Tryd.underlying20
 a20:=Tryd.isAgg20
 z20:=Tryd.sizeOf20
 v20:=Tryd.zeroValue20
 t37:=Tryd.underlying76
 a37:=Tryd.isAgg76
 z37:=Tryd.sizeOf76
 v37:=Tryd.zeroValue76
 t46:=Tryd.underlying135
 a46:=Tryd.isAgg135
 z46:=Tryd.sizeOf135
 v46:=Tryd.zeroValue135
 t51:=Tryd.underlying133
 a51:=Tryd.isAgg133
 z51:=Tryd.sizeOf133
 v51:=Tryd.zeroValue133
 t53:=Tryd.underlying124
 a53:=Tryd.isAgg124
 z53:=Tryd.sizeOf124
 v53:=Tryd.zeroValue124
 t171:=Tryd.underlying123
 a171:=Tryd.isAgg123
 z171:=Tryd.sizeOf123
 v171:=Tryd.zeroValue123
 t173:=Tryd.underlying127
 a173:=Tryd.isAgg127
 z173:=Tryd.sizeOf127
 v173:=Tryd.zeroValue127
 t212:=Tryd.underlying132
 a212:=Tryd.isAgg132
 z212:=Tryd.sizeOf132
 v212:=Tryd.zeroValue132
 t213:=Tryd.underlying134
 a213:=Tryd.isAgg134
 z213:=Tryd.sizeOf134
 t232:=Tryd.underlying138
 a232:=Tryd.isAgg138
 z232:=Tryd.sizeOf138
 v232:=Tryd.zeroValue138
 t233:=Tryd.underlying139
 a233:=Tryd.isAgg139
 z233:=Tryd.sizeOf139
 v233:=Tryd.zeroValue139
 g17:=by kernel_rfl
 g18:=by kernel_rfl
 g19:=by kernel_rfl}
open Go.RowKit Go.Sort Go.Lib in
theorem Tryd.strconv_Itoa_small(i:Nat)(hi:i<100)(w:World):
  Calls Tryd.prog 34 #[.int .i64 i] w fun e w'=>e= .returned (.string ⟨(Lib.decDigits i).toArray⟩)∧w'=w:=Any.strconv_Itoa_small Tryd.ti i hi w
end Go.Proofs
namespace Go.Proofs.YteikppbedmmdnaaDoor
namespace PW
section
open Go.RowKit cX Mem
def ku(j:Nat)(u:Bool)(l:List UInt8):ba:=some (.cells 78 [if u then .ptr 0 0 else .raw (.pointer none),.own j])::(List.replicate (j - 1) none++[some (.row 5 1 l.length (cD l))])
theorem nQ:∃i,Tryd.prog.info? 78=some i∧i.size=2:=by
 have h:(Tryd.prog.info? 78).map (·.size)=some 2:=by kernel_rfl
 obtain⟨i,h1,h2⟩:=Option.map_eq_some_iff.1 h
 exact⟨i,h1,h2⟩
theorem hZ(v:Value)(w:World):(callFunc 68 #[v]).run Tryd.prog w= .ok (.value v) w:=by
 rw[run_callFunc_extern Tryd.func68 (by kernel_rfl) (by kernel_rfl) (by kernel_rfl) (e:=Extern.AbiNoEscape.same) (by kernel_rfl),Lib.run_noEscape]
 rfl
theorem oS:pa Tryd.prog 76 9=some 5:=by kernel_rfl
theorem pC(u:Bool)(l:List UInt8):aG Tryd.prog 63 [.ptr 0 0] (ku 1 u l) (fun _ σ'=>σ'=ku 1 true l):=by
 obtain⟨ji,hji,hjs⟩:=nQ
 refine bc Tryd.func63 I Tryd.ntmps63 I ?_
 cases u
 ·refine a7<|aC (cA I I) I I I ?_
  refine aC (dB I I) I I I ?_
  refine aC (bb I) I I I ?_
  refine aC (dt I (bB.tk.get I) I I I) I I I ?_
  refine aC (gP I (bB.pk.get I) I I) I I I (af ?_)
  refine o3 I ?_
  refine aR<|aC (cA I I) I I I ?_
  refine aC (cA I I) I I I ?_
  refine aC (kl I Tryd.underlying75 Tryd.underlying121 hji (by rw[hjs];decide) I I (by decide)) I I I ?_
  refine aC (kd I I I hZ) I I I ?_
  refine aC (ig I Tryd.underlying121 Tryd.underlying75 hji rfl rfl (by kernel_rfl)) I I I ?_
  refine aC (dB I I) I I I ?_
  refine aC (bb I) I I I ?_
  refine bq (dy I (bB.tk.get I) I I I (Nat.le_of_ble_eq_true rfl)) I I (af ?_)
  exact⟨_,.nil,rfl⟩
 ·refine a7<|aC (cA I I) I I I ?_
  refine aC (dB I I) I I I ?_
  refine aC (bb I) I I I ?_
  refine aC (dt I (bB.tk.get I) I I I) I I I ?_
  refine aC (jR I (bB.pk.get I) I I) I I I (af ?_)
  refine jG I ?_
  refine a7<|aC (cA I I) I I I ?_
  refine aC (dB I I) I I I ?_
  refine aC (bb I) I I I ?_
  refine aC (dt I (bB.tk.get I) I I I) I I I ?_
  refine aC (cA I I) I I I ?_
  refine aC (lb I Tryd.underlying75 hji rfl rfl) I I I (af ?_)
  refine jG I ?_
  exact an ⟨_,.nil,rfl⟩
theorem u5(u:Bool)(l:List UInt8)(s:ByteArray)(hn:l.length+s.size≤1000000000):aG Tryd.prog 51 [.ptr 0 0,.raw (.string s)] (ku 1 u l) (fun _ σ'=>σ'=ku 2 true (l++s.data.toList)):=by
 refine bc Tryd.func51 I Tryd.ntmps51 I<|ag (.a 2 I<|.k [0,1] I)<|a7<|ax 1 I<|bh I I (aG.mono (pC u l) (fun _ σ' h=>?_))
 subst h
 refine aO [0,1] I ?_
 refine a7<|ax 6 I<|bD (nr I oS rfl rfl rfl (by omega)) I<|ax 3 I<|aO [1] I ?_
 refine ag (.a 1 I<|.v (qO I Tryd.underlying9 rfl) I<|.a 2 I<|.k [4,5] I)<|aF<|⟨_,aK.of I,?_⟩
 have hl:(l++s.data.toList).length=l.length+s.size:=by simp
 unfold ku
 rw[hl,←eO]
 rfl
theorem vv(u:Bool)(l:List UInt8)(c:UInt8)(hn:l.length≤1000000000):aG Tryd.prog 53 [.ptr 0 0,.raw (.int .u8 c.toNat)] (ku 1 u l) (fun _ σ'=>σ'=ku 2 true (l++[c])):=by
 refine bc Tryd.func53 I Tryd.ntmps53 I<|ag (.a 1 I<|.k [0,1] I)<|a7<|ax 1 I<|bh I I (aG.mono (pC u l) (fun _ σ' h=>?_))
 subst h
 refine aO [0,1] I ?_
 refine a7<|ax 7 I<|bD (aU I (bB.rk.get I) I I I I (by unfold maxLen;omega)) I<|ax 3 I<|aO [] I ?_
 refine ag (.a 1 I<|.k [4] I)<|aF<|⟨_,aK.of I,?_⟩
 unfold ku
 rw[←eO]
 simp only[List.length_append,List.length_singleton]
 rfl
theorem sU(u:Bool)(l:List UInt8):aG Tryd.prog 63 [.ptr 0 0] (ku 2 u l) (fun _ σ'=>σ'=ku 2 true l):=by
 obtain⟨ji,hji,hjs⟩:=nQ
 refine bc Tryd.func63 I Tryd.ntmps63 I ?_
 cases u
 ·refine a7<|aC (cA I I) I I I ?_
  refine aC (dB I I) I I I ?_
  refine aC (bb I) I I I ?_
  refine aC (dt I (bB.tk.get I) I I I) I I I ?_
  refine aC (gP I (bB.pk.get I) I I) I I I (af ?_)
  refine o3 I ?_
  refine aR<|aC (cA I I) I I I ?_
  refine aC (cA I I) I I I ?_
  refine aC (kl I Tryd.underlying75 Tryd.underlying121 hji (by rw[hjs];decide) I I (by decide)) I I I ?_
  refine aC (kd I I I hZ) I I I ?_
  refine aC (ig I Tryd.underlying121 Tryd.underlying75 hji rfl rfl (by kernel_rfl)) I I I ?_
  refine aC (dB I I) I I I ?_
  refine aC (bb I) I I I ?_
  refine bq (dy I (bB.tk.get I) I I I (Nat.le_of_ble_eq_true rfl)) I I (af ?_)
  exact⟨_,.nil,rfl⟩
 ·refine a7<|aC (cA I I) I I I ?_
  refine aC (dB I I) I I I ?_
  refine aC (bb I) I I I ?_
  refine aC (dt I (bB.tk.get I) I I I) I I I ?_
  refine aC (jR I (bB.pk.get I) I I) I I I (af ?_)
  refine jG I ?_
  refine a7<|aC (cA I I) I I I ?_
  refine aC (dB I I) I I I ?_
  refine aC (bb I) I I I ?_
  refine aC (dt I (bB.tk.get I) I I I) I I I ?_
  refine aC (cA I I) I I I ?_
  refine aC (lb I Tryd.underlying75 hji rfl rfl) I I I (af ?_)
  refine jG I ?_
  exact an ⟨_,.nil,rfl⟩
theorem ur(u:Bool)(l:List UInt8)(c:UInt8)(hn:l.length≤1000000000):aG Tryd.prog 53 [.ptr 0 0,.raw (.int .u8 c.toNat)] (ku 2 u l) (fun _ σ'=>σ'=ku 3 true (l++[c])):=by
 refine bc Tryd.func53 I Tryd.ntmps53 I<|ag (.a 1 I<|.k [0,1] I)<|a7<|ax 1 I<|bh I I (aG.mono (sU u l) (fun _ σ' h=>?_))
 subst h
 refine aO [0,1] I ?_
 refine a7<|ax 7 I<|bD (aU I (bB.rk.get I) I I I I (by unfold maxLen;omega)) I<|ax 3 I<|aO [] I ?_
 refine ag (.a 1 I<|.k [4] I)<|aF<|⟨_,aK.of I,?_⟩
 unfold ku
 rw[←eO]
 simp only[List.length_append,List.length_singleton]
 rfl
theorem pB(u:Bool)(l:List UInt8)(hl:0<l.length):aG Tryd.prog 37 [.ptr 0 0] (ku 1 u l) (fun r _=>r= .raw (.string ⟨l.toArray⟩)):=by
 refine bc Tryd.func37 I Tryd.ntmps37 I ?_
 cases u
 all_goals
  refine ag (.a 1 I<|.k [0] I)<|o2 10 20 mixed (
   .val [0] I (bb I) I I<|
   .val [3] I (bb I) I I<|
   .val [4] I (bb I) I I<|
   .val [5] I (bb I) I I<|
   .val [6] I (nG I I I hl) I I<|
   .val [0] I (bb I) I I<|
   .val [8] I (bb I) I I<|
   .val [9] I (bb I) I I<|
   .val [10] I (bb I) I I<|
   .val [11] I (bb I) I I<|
   .nil) (by kernel_rfl) I I (aQ (ks:=[7,12]) I) ?_
  refine bD (nx I Tryd.underlying108 (by kernel_rfl) I I I hl) I<|ax 1 I<|aO [2] I ?_
  exact aF<|⟨_,aK.of I,rfl⟩
def i7(l:List UInt8):PV:=.raw (.string ⟨l.toArray⟩)
theorem cW(i:Nat)(hi:i<100):Can Tryd.prog 34 [num i] (· =i7 (Lib.decDigits i)):=fun F w vs _ _ hR=>by
 obtain⟨v,rfl,h1⟩:=u0 hR
 cases jI h1
 refine(Tryd.strconv_Itoa_small i hi w).mono ?_
 rintro e w' ⟨rfl,rfl⟩
 exact⟨_,rfl,Ext.refl _,_,rfl,.raw _⟩
def cj(L:List (List UInt8)):List PV:=L.map i7
def jt(L:List (List UInt8)):PV:=.slice L.length (cj L)
instance (l:List UInt8):IsPure (i7 l):=by unfold i7;infer_instance
instance (l:List UInt8):dj (i7 l):=by unfold i7;infer_instance
instance (L:List (List UInt8)):av (cj L):=av.map _ _ fun _=>inferInstance
instance (L:List (List UInt8)):bV (cj L):=bV.map _ _ fun _=>inferInstance
instance (L:List (List UInt8)):IsPure (jt L):=by unfold jt;infer_instance
theorem sG(L:List (List UInt8))(sep:List UInt8)(hLl:L.length≤1000000)(hlen:(Lib.join L sep).length≤140737488355328):Can Tryd.prog 52 [jt L,i7 sep] (· =i7 (Lib.join L sep)):=fun F w vs _ _ hR=>by
 obtain⟨v,u,rfl,h1,h2⟩:=uZ hR
 cases jI h2
 have hmap:(L.map fun l=>(⟨l.toArray⟩:ByteArray)).map (·.data.toList)=L:=by simp[Function.comp_def]
 unfold jt at h1
 generalize hn:L.length=n at h1
 generalize hys:cj L=ys at h1
 have none_case:∀(a:Option Addr) (c:Nat),L=[]→Calls Tryd.prog 52 #[.slice a 0 c,.string ⟨sep.toArray⟩] w (vm (fun x w'=>∃r,r=i7 (Lib.join L sep)∧bK (EF F) w' x r) w):=fun a c hL=>by
  subst hL
  refine(Tryd.strings_Join_none a c ⟨sep.toArray⟩ w).mono ?_
  rintro e w' ⟨rfl,rfl⟩
  exact⟨_,rfl,Ext.refl _,_,rfl,.raw _⟩
 cases h1 with
 |cd=>exact none_case none 0 (List.eq_nil_of_length_eq_zero hn)
 |empty a c hc=>exact none_case (some a) c (List.eq_nil_of_length_eq_zero hn)
 |slice b off _ c cs _ h0 h1 h2 hb hM hc hl hr=>
  have hcell:∀(j:Nat) x,(L.map fun l=>(⟨l.toArray⟩:ByteArray))[j]? =some x→w.cell? ⟨b,off+j,none⟩=some (.string x):=fun j x hx=>by
   simp only[List.getElem?_map,Option.map_eq_some_iff]at hx
   obtain⟨l,hl1,rfl⟩:=hx
   have hj:j<cs.length:=by rw[hl,←hys];simp[cj];exact(List.getElem?_eq_some_iff.1 hl1).1
   have h3:=hr j cs[j] (i7 l) (by simp[hj]) (by simp[←hys,cj,hl1])
   have h4:cs[j]= .string ⟨l.toArray⟩:=jI h3
   exact hc j _ (by simp[hj,h4])
  have h5:=Tryd.strings_Join b off c (L.map fun l=>(⟨l.toArray⟩:ByteArray)) ⟨sep.toArray⟩ w hcell hb (by simp only[List.length_map];omega) (by simpa[hn]using h1) (by rw[hmap];exact hlen)
  rw[hmap,List.length_map,hn]at h5
  refine h5.mono ?_
  rintro e w' ⟨rfl,hB⟩
  exact⟨_,rfl,⟨hB.os,hB.tape,hB.output,hB.size,hB.block⟩,_,rfl,.raw _⟩
def cG(L:List (List UInt8)):List UInt8:=Lib.join L [32]++[10]
theorem kc(u:Bool)(l:List UInt8)(L:List (List UInt8))(hL:L.length≤1000000)(hn:l.length+(cG L).length≤1000000000):aG Tryd.prog 33 [.ptr 0 0,jt L] (ku 1 u l) (fun _ σ'=>σ'=ku 2 true (l++cG L)):=by
 have hj:(cG L).length=(Lib.join L [32]).length+1:=by simp[cG]
 refine bc Tryd.func33 I Tryd.ntmps33 I<|a7<|ax 2 I<|nZ I (sG L [32] hL (by omega)) I<|bh I I (aG.mono (u5 u l ⟨(Lib.join L [32]).toArray⟩ (show l.length+(Lib.join L [32]).toArray.size≤1000000000 by simp;omega)) (fun _ σ' h=>?_))
 subst h
 refine aO [0] I ?_
 refine aR<|ax 1 I<|bh I I (aG.mono (ur true (l++Lib.join L [32]) 10 (by simp;omega)) (fun _ σ' h=>?_))
 subst h
 refine eb [0,1,3] (.nil) (.kept rfl (.cells (ab.c<|ab.c<|ab.nil))<|.gone<|.kept rfl (.row ab.pure)<|.nil) I I (af ?_)
 refine⟨_,aK.of I,?_⟩
 unfold cG
 rw[←List.append_assoc]
 rfl
def ch(l:List Int):List (List UInt8):=l.map fun n=>Lib.decDigits n.toNat
theorem nU(L:List (List UInt8))(x:List UInt8):cj L++[i7 x]=cj (L++[x]):=by simp[cj]
theorem aX(l:List Int)(hl:l.length≤1000)(hs:∀n∈l,0≤n∧n<100):Can Tryd.prog 35 [aL l] (· =jt (ch l)):=by
 refine bE Tryd.func35 I Tryd.ntmps35 I<|ag (.a 1 I<|.k [0] I)<|ag (.a 1 I<|.k [0,3] I)<|ee 3 9 1 I ?_
 refine al<|ag (.a 3 I<|.k [3,6,7,8] I)<|aw<|fx [3,6,7,8] I<|bx (fun r s=>∃i,i≤l.length∧r=l.length - i∧s=⟨[(3,.own 0),(6,aL l),(7,num l.length),(8,num i)],[some (.row 9 1 i (cj (ch (l.take i))))]⟩) l.length ⟨0,by omega,by omega,rfl⟩ ?_
 rintro r s ⟨i,hi,rfl,rfl⟩
 refine ag (.a 1 I<|.k [3,6,7,8,9] I)<|al<|ak I (fun hc=>?_) (fun hc=>?_)
 ·have hlt:i<l.length:=by have:=of_decide_eq_true hc;omega
  obtain⟨h0,h1⟩:=hs _ (c7 (d:=0) hlt)
  obtain⟨a,ha⟩:=Int.eq_ofNat_of_zero_le h0
  have hst:ch (l.take (i+1))=ch (l.take i)++[Lib.decDigits a]:=by
   unfold ch
   rw[ef l i 0 hlt,List.map_append,ha]
   rfl
  refine an<|al<|aw<|ag (.v (aY (i) I) I<|.v (aV I ((aN l i hlt).trans (by rw[ha]))) I<|.a 1 I<|.k [3,5,6,7,8] I)<|aR<|ax 2 I<|nZ I (cW a (by omega)) I<|ax 1 I<|bD (aU I (bB.rk.get I) I I I I (by unfold maxLen;omega)) I<|ax 1 I ?_
  refine eb [1] (.c 3<|.c 6<|.c 7<|.c 8<|.nil) (.kept rfl (.dX rfl (nU _ _))<|.nil) I I (af ?_)
  refine aD (.v (bw I) I<|.a 1 I<|.k [3,6,7,8] I) ?_
  refine⟨l.length - (i+1),by omega,i+1,by omega,rfl,?_⟩
  rw[hst]
  rfl
 ·have hie:i=l.length:=by have:=of_decide_eq_false hc;omega
  subst hie
  refine bn<|ag (.a 2 I<|.k [2] I)<|aF<|⟨_,_,aK.of I,aZ.du rfl aq.pure,?_⟩
  rw[List.take_length]
  unfold jt
  rw[show(ch l).length=l.length by simp[ch]]
structure Small (x:kL):Prop where
 node:0≤x.node∧x.node<100
 ct:x.ct.length≤90
 vY:∀e∈x.ct,e.rep=false∧e.ay.length≤90∧∀a∈e.ay,0≤a∧a<100
 down:x.down.length≤90∧∀a∈x.down,0≤a∧a<100
def qx(d:Nat)(e:ky):List UInt8:=if e.ay=[] then [] else cG ([[116,111],Lib.decDigits d,[111,118,101,114]]++ch e.ay)
def eL(l:List ky)(k:Nat):List UInt8:=(List.range k).flatMap fun d=>qx d (l.getD d ⟨[],false,[]⟩)
def mS(l:List Int):List UInt8:=if l=[] then [] else cG ([100,111,119,110]::ch l)
def o5(x:kL):List UInt8:=cG [[116,97,98,108,101],Lib.decDigits x.node.toNat]++eL x.ct x.ct.length++mS x.down
theorem oE(l:List ky)(k:Nat)(e:ky)(h:l[k]? =some e):eL l (k+1)=eL l k++qx k e:=by
 unfold eL
 rw[List.range_succ,List.flatMap_append]
 simp[h]
theorem l9{P:Program}{M:Nat}{c:Code}{t:bo}{Q:Exit→St→Prop}{l:List UInt8}(hT:gw [0,2] t t)(h:W P M 0 c ⟨t,ku 1 true l⟩ Q):W P M 0 c ⟨t,ku 2 true l⟩ Q:=
 bO [0,2] hT (.kept rfl (.cells (ab.cons (Ren.ptr (i:=0) I)<|ab.cons (Ren.own (i:=1) I) ab.nil))<|.kept rfl (.row ab.pure)<|.nil) I I h
set_option maxHeartbeats 4000000 in
theorem ou(x:kL)(hx:Small x)(hlen:∀k,k≤x.ct.length→(cG [[116,97,98,108,101],Lib.decDigits x.node.toNat]).length+(eL x.ct k).length≤100000000)(hline:∀d e,x.ct[d]? =some e→(cG ([[116,111],Lib.decDigits d,[111,118,101,114]]++ch e.ay)).length≤100000000)(hdl:(cG ([100,111,119,110]::ch x.down)).length≤100000000):
  Can Tryd.prog 16 [qq x] (· =i7 (o5 x)):=by
 have hxe:=hx.ct
 obtain⟨nd,hnd⟩:=Int.eq_ofNat_of_zero_le hx.node.1
 have hnd1:nd<100:=by have:=hx.node.2;omega
 have hl0:=hlen 0 (by omega)
 rw[show x.node.toNat=nd by omega]at hl0
 refine bE Tryd.func16 I Tryd.ntmps16 I<|ag (.a 2 I<|.k [1] I)<|a7<|ax 1 I<|aO [1,3] I ?_
 refine cf 0 1 5 1 I I ?_
 refine dI (σ':=ku 1 false []) I ?_
 refine a7<|ax 1 I<|aM (aV I ((show some (num x.node)=some (num (nd:Int)) by rw[hnd]))) I<|nZ I (cW nd hnd1) I<|ax 1 I<|bh I I (aG.mono (kc false [] [[116,97,98,108,101],Lib.decDigits nd] (by simp) (by simp only[List.length_nil];omega)) (fun _ σ' h=>?_))
 subst h
 refine aO [1,3] I ?_
 refine l9 (.cons 1 I Ren.pure<|.cons 3 I (Ren.ptr (i:=0) I)<|.nil) ?_
 refine al<|ag (.a 4 I<|.k [1,3,15,16,17] I)<|aw<|fx [1,3,15,16,17] I<|bx (fun r s=>∃k,k≤x.ct.length∧r=x.ct.length - k∧s=⟨[(1,.bY (jz x) 0),(3,.ptr 0 0),(15,jm x.ct),(16,num x.ct.length),(17,num k)],ku 1 true (cG [[116,97,98,108,101],Lib.decDigits nd]++eL x.ct k)⟩) x.ct.length ⟨0,by omega,by omega,by simp only[eL,List.range_zero,List.flatMap_nil,List.append_nil,List.nil_append];rfl⟩ ?_
 rintro r s ⟨k,hk,rfl,rfl⟩
 refine ag (.a 1 I<|.k [1,3,15,16,17,18] I)<|al<|ak I (fun hc=>?_) (fun hc=>?_)
 ·have hlt:k<x.ct.length:=by have:=of_decide_eq_true hc;omega
  obtain⟨e,he⟩:∃e,x.ct[k]? =some e:=⟨x.ct[k],by simp[hlt]⟩
  obtain⟨hrep,hal,has⟩:=hx.vY e (List.mem_of_getElem? he)
  have hst:=oE x.ct k e he
  have hlk:=hlen k (by omega)
  rw[show x.node.toNat=nd by omega]at hlk
  have hlk2:=hline k e he
  refine an<|al<|aw<|a7<|ax 1 I<|aM (aY (k*3) I) I<|aM (fc I (bB.tk.get I) I (p8 x.ct k e he) I) I<|ax 2 I<|bq (pv I (bB.tk.get I) I I I I I (Nat.le_of_ble_eq_true rfl)) I I<|aO [1,3,4,5,15,16,17] I ?_
  refine dI (σ':=ku 1 true (cG [[116,97,98,108,101],Lib.decDigits nd]++eL x.ct k)++[some (.cells 49 (jA e))]) I ?_
  refine lW 5 2 0 I I ?_
  refine bO [0,1] (.cons 1 I Ren.pure<|.cons 3 I (Ren.ptr (i:=0) I)<|.cons 4 I Ren.pure<|.cons 5 I Ren.pure<|.cons 15 I Ren.pure<|.cons 16 I Ren.pure<|.cons 17 I Ren.pure<|.nil) (.kept rfl (.cells (ab.cons (Ren.ptr (i:=0) I)<|ab.cons (Ren.own (i:=1) I) ab.nil))<|.kept rfl (.row ab.pure)<|.nil) I I ?_
  refine al<|ag (.a 1 I<|.v (aV I (rfl)) I<|.a 2 I<|.k [1,3,4,5,15,16,17,25] I)<|ak I (fun hc=>?_) (fun hc=>?_)
  ·have harc:e.ay=[]:=List.eq_nil_of_length_eq_zero (by have:=of_decide_eq_true hc;omega)
   rw[show qx k e=[] by unfold qx;rw[if_pos harc],List.append_nil]at hst
   refine bn<|aD (.v (bw I) I<|.a 1 I<|.k [1,3,15,16,17] I) ?_
   refine⟨x.ct.length - (k+1),by omega,k+1,by omega,rfl,?_⟩
   rw[hst]
   first
    |rfl
    |(rw[←List.append_assoc];rfl)
  ·have harc:e.ay≠[]:=fun h=>by have:=of_decide_eq_false hc;rw[h]at this;exact this rfl
   rw[show qx k e=cG ([[116,111],Lib.decDigits k,[111,118,101,114]]++ch e.ay) by unfold qx;rw[if_neg harc]]at hst
   have hnl:(ch e.ay).length=e.ay.length:=by simp[ch]
   refine an<|jM ([(1,.bY (jz x) 0),(3,.ptr 0 0),(5,.bY (jA e) 0),(6,.own 3),(15,jm x.ct),(16,num x.ct.length),(17,num k)]) ([some (.cells 78 [.ptr 0 0,.own 1]),some (.row 5 1 (cG [[116,97,98,108,101],Lib.decDigits nd]++eL x.ct k).length (cD (cG [[116,97,98,108,101],Lib.decDigits nd]++eL x.ct k))),none,some (.row 9 1 (3+(ch e.ay).length) (cj ([[116,111],Lib.decDigits k,[111,118,101,114]]++ch e.ay)))]) mixed ?_ ?_
   ·refine ah 0 [3] (by kernel_rfl) ?_
    refine ad I I (aM (bb I) I (af ?_)) ?_
    ·refine ah 1 [3] (by kernel_rfl) ?_
     refine ad I I (aM (fu I (cW k (by omega))) I (af ?_)) ?_
     ·refine ah 2 [3] (by kernel_rfl) ?_
      refine ad I I (bD (a8 (xs:=[_,_,_]) I (bB.sl.get I) ⟨Nat.le_of_ble_eq_true rfl,Nat.le_of_ble_eq_true rfl⟩ rfl rfl) I (af ?_)) ?_
      ·refine ah 3 [] (by kernel_rfl) ?_
       refine ad I I (aM (bb I) I (af ?_)) ai
       refine ah 4 [] (by kernel_rfl) ?_
       refine ad I I (aM (aV I (rfl)) I (af ?_)) ai
       refine ah 5 [] (by kernel_rfl) ?_
       refine ad I I (aM (fu I (aX e.ay (by omega) has)) I (af ?_)) ai
       refine ah 6 [] (by kernel_rfl) ?_
       refine ad I I (bD (aU I (bB.rk.get I) I I I (by simp[cj]) ⟨by unfold maxLen;omega,by omega⟩) I (af ?_)) ai
       refine ah 7 [] (by kernel_rfl) ?_
       refine ad I I (aM (bb I) I (af ?_)) ai
       exact b7 (by kernel_rfl) ⟨rfl,aQ (ks:=[1,3,5,6,15,16,17]) I⟩
      refine ad I I (aM (bb I) I (af ?_)) ai
      refine ah 2 [4] (by kernel_rfl) ?_
      refine ad I I (bD (a8 (xs:=[_,_,_]) I (bB.sl.get I) ⟨Nat.le_of_ble_eq_true rfl,Nat.le_of_ble_eq_true rfl⟩ rfl rfl) I (af ?_)) ?_
      ·refine ah 4 [] (by kernel_rfl) ?_
       refine ad I I (aM (aV I (rfl)) I (af ?_)) ai
       refine ah 5 [] (by kernel_rfl) ?_
       refine ad I I (aM (fu I (aX e.ay (by omega) has)) I (af ?_)) ai
       refine ah 6 [] (by kernel_rfl) ?_
       refine ad I I (bD (aU I (bB.rk.get I) I I I (by simp[cj]) ⟨by unfold maxLen;omega,by omega⟩) I (af ?_)) ai
       refine ah 7 [] (by kernel_rfl) ?_
       refine ad I I (aM (bb I) I (af ?_)) ai
       exact b7 (by kernel_rfl) ⟨rfl,aQ (ks:=[1,3,5,6,15,16,17]) I⟩
      refine ad I I (aM (aV I (rfl)) I (af ?_)) ai
      refine ah 2 [5] (by kernel_rfl) ?_
      refine ad I I (bD (a8 (xs:=[_,_,_]) I (bB.sl.get I) ⟨Nat.le_of_ble_eq_true rfl,Nat.le_of_ble_eq_true rfl⟩ rfl rfl) I (af ?_)) ?_
      ·refine ah 5 [] (by kernel_rfl) ?_
       refine ad I I (aM (fu I (aX e.ay (by omega) has)) I (af ?_)) ai
       refine ah 6 [] (by kernel_rfl) ?_
       refine ad I I (bD (aU I (bB.rk.get I) I I I (by simp[cj]) ⟨by unfold maxLen;omega,by omega⟩) I (af ?_)) ai
       refine ah 7 [] (by kernel_rfl) ?_
       refine ad I I (aM (bb I) I (af ?_)) ai
       exact b7 (by kernel_rfl) ⟨rfl,aQ (ks:=[1,3,5,6,15,16,17]) I⟩
      refine ad I I (aM (fu I (aX e.ay (by omega) has)) I (af ?_)) ai
      refine ah 2 [] (by kernel_rfl) ?_
      refine ad I I (bD (a8 (xs:=[_,_,_]) I (bB.sl.get I) ⟨Nat.le_of_ble_eq_true rfl,Nat.le_of_ble_eq_true rfl⟩ rfl rfl) I (af ?_)) ai
      refine ah 6 [] (by kernel_rfl) ?_
      refine ad I I (bD (aU I (bB.rk.get I) I I I (by simp[cj]) ⟨by unfold maxLen;omega,by omega⟩) I (af ?_)) ai
      refine ah 7 [] (by kernel_rfl) ?_
      refine ad I I (aM (bb I) I (af ?_)) ai
      exact b7 (by kernel_rfl) ⟨rfl,aQ (ks:=[1,3,5,6,15,16,17]) I⟩
     refine ad I I (aM (bb I) I (af ?_)) ai
     refine ah 1 [4] (by kernel_rfl) ?_
     refine ad I I (aM (fu I (cW k (by omega))) I (af ?_)) ?_
     ·refine ah 2 [4] (by kernel_rfl) ?_
      refine ad I I (bD (a8 (xs:=[_,_,_]) I (bB.sl.get I) ⟨Nat.le_of_ble_eq_true rfl,Nat.le_of_ble_eq_true rfl⟩ rfl rfl) I (af ?_)) ?_
      ·refine ah 4 [] (by kernel_rfl) ?_
       refine ad I I (aM (aV I (rfl)) I (af ?_)) ai
       refine ah 5 [] (by kernel_rfl) ?_
       refine ad I I (aM (fu I (aX e.ay (by omega) has)) I (af ?_)) ai
       refine ah 6 [] (by kernel_rfl) ?_
       refine ad I I (bD (aU I (bB.rk.get I) I I I (by simp[cj]) ⟨by unfold maxLen;omega,by omega⟩) I (af ?_)) ai
       refine ah 7 [] (by kernel_rfl) ?_
       refine ad I I (aM (bb I) I (af ?_)) ai
       exact b7 (by kernel_rfl) ⟨rfl,aQ (ks:=[1,3,5,6,15,16,17]) I⟩
      refine ad I I (aM (aV I (rfl)) I (af ?_)) ai
      refine ah 2 [5] (by kernel_rfl) ?_
      refine ad I I (bD (a8 (xs:=[_,_,_]) I (bB.sl.get I) ⟨Nat.le_of_ble_eq_true rfl,Nat.le_of_ble_eq_true rfl⟩ rfl rfl) I (af ?_)) ?_
      ·refine ah 5 [] (by kernel_rfl) ?_
       refine ad I I (aM (fu I (aX e.ay (by omega) has)) I (af ?_)) ai
       refine ah 6 [] (by kernel_rfl) ?_
       refine ad I I (bD (aU I (bB.rk.get I) I I I (by simp[cj]) ⟨by unfold maxLen;omega,by omega⟩) I (af ?_)) ai
       refine ah 7 [] (by kernel_rfl) ?_
       refine ad I I (aM (bb I) I (af ?_)) ai
       exact b7 (by kernel_rfl) ⟨rfl,aQ (ks:=[1,3,5,6,15,16,17]) I⟩
      refine ad I I (aM (fu I (aX e.ay (by omega) has)) I (af ?_)) ai
      refine ah 2 [] (by kernel_rfl) ?_
      refine ad I I (bD (a8 (xs:=[_,_,_]) I (bB.sl.get I) ⟨Nat.le_of_ble_eq_true rfl,Nat.le_of_ble_eq_true rfl⟩ rfl rfl) I (af ?_)) ai
      refine ah 6 [] (by kernel_rfl) ?_
      refine ad I I (bD (aU I (bB.rk.get I) I I I (by simp[cj]) ⟨by unfold maxLen;omega,by omega⟩) I (af ?_)) ai
      refine ah 7 [] (by kernel_rfl) ?_
      refine ad I I (aM (bb I) I (af ?_)) ai
      exact b7 (by kernel_rfl) ⟨rfl,aQ (ks:=[1,3,5,6,15,16,17]) I⟩
     refine ad I I (aM (aV I (rfl)) I (af ?_)) ai
     refine ah 1 [] (by kernel_rfl) ?_
     refine ad I I (aM (fu I (cW k (by omega))) I (af ?_)) ai
     refine ah 2 [5] (by kernel_rfl) ?_
     refine ad I I (bD (a8 (xs:=[_,_,_]) I (bB.sl.get I) ⟨Nat.le_of_ble_eq_true rfl,Nat.le_of_ble_eq_true rfl⟩ rfl rfl) I (af ?_)) ?_
     ·refine ah 5 [] (by kernel_rfl) ?_
      refine ad I I (aM (fu I (aX e.ay (by omega) has)) I (af ?_)) ai
      refine ah 6 [] (by kernel_rfl) ?_
      refine ad I I (bD (aU I (bB.rk.get I) I I I (by simp[cj]) ⟨by unfold maxLen;omega,by omega⟩) I (af ?_)) ai
      refine ah 7 [] (by kernel_rfl) ?_
      refine ad I I (aM (bb I) I (af ?_)) ai
      exact b7 (by kernel_rfl) ⟨rfl,aQ (ks:=[1,3,5,6,15,16,17]) I⟩
     refine ad I I (aM (fu I (aX e.ay (by omega) has)) I (af ?_)) ai
     refine ah 2 [] (by kernel_rfl) ?_
     refine ad I I (bD (a8 (xs:=[_,_,_]) I (bB.sl.get I) ⟨Nat.le_of_ble_eq_true rfl,Nat.le_of_ble_eq_true rfl⟩ rfl rfl) I (af ?_)) ai
     refine ah 6 [] (by kernel_rfl) ?_
     refine ad I I (bD (aU I (bB.rk.get I) I I I (by simp[cj]) ⟨by unfold maxLen;omega,by omega⟩) I (af ?_)) ai
     refine ah 7 [] (by kernel_rfl) ?_
     refine ad I I (aM (bb I) I (af ?_)) ai
     exact b7 (by kernel_rfl) ⟨rfl,aQ (ks:=[1,3,5,6,15,16,17]) I⟩
    refine ad I I (aM (bb I) I (af ?_)) ai
    refine ah 0 [4] (by kernel_rfl) ?_
    refine ad I I (aM (bb I) I (af ?_)) ?_
    ·refine ah 1 [4] (by kernel_rfl) ?_
     refine ad I I (aM (fu I (cW k (by omega))) I (af ?_)) ?_
     ·refine ah 2 [4] (by kernel_rfl) ?_
      refine ad I I (bD (a8 (xs:=[_,_,_]) I (bB.sl.get I) ⟨Nat.le_of_ble_eq_true rfl,Nat.le_of_ble_eq_true rfl⟩ rfl rfl) I (af ?_)) ?_
      ·refine ah 4 [] (by kernel_rfl) ?_
       refine ad I I (aM (aV I (rfl)) I (af ?_)) ai
       refine ah 5 [] (by kernel_rfl) ?_
       refine ad I I (aM (fu I (aX e.ay (by omega) has)) I (af ?_)) ai
       refine ah 6 [] (by kernel_rfl) ?_
       refine ad I I (bD (aU I (bB.rk.get I) I I I (by simp[cj]) ⟨by unfold maxLen;omega,by omega⟩) I (af ?_)) ai
       refine ah 7 [] (by kernel_rfl) ?_
       refine ad I I (aM (bb I) I (af ?_)) ai
       exact b7 (by kernel_rfl) ⟨rfl,aQ (ks:=[1,3,5,6,15,16,17]) I⟩
      refine ad I I (aM (aV I (rfl)) I (af ?_)) ai
      refine ah 2 [5] (by kernel_rfl) ?_
      refine ad I I (bD (a8 (xs:=[_,_,_]) I (bB.sl.get I) ⟨Nat.le_of_ble_eq_true rfl,Nat.le_of_ble_eq_true rfl⟩ rfl rfl) I (af ?_)) ?_
      ·refine ah 5 [] (by kernel_rfl) ?_
       refine ad I I (aM (fu I (aX e.ay (by omega) has)) I (af ?_)) ai
       refine ah 6 [] (by kernel_rfl) ?_
       refine ad I I (bD (aU I (bB.rk.get I) I I I (by simp[cj]) ⟨by unfold maxLen;omega,by omega⟩) I (af ?_)) ai
       refine ah 7 [] (by kernel_rfl) ?_
       refine ad I I (aM (bb I) I (af ?_)) ai
       exact b7 (by kernel_rfl) ⟨rfl,aQ (ks:=[1,3,5,6,15,16,17]) I⟩
      refine ad I I (aM (fu I (aX e.ay (by omega) has)) I (af ?_)) ai
      refine ah 2 [] (by kernel_rfl) ?_
      refine ad I I (bD (a8 (xs:=[_,_,_]) I (bB.sl.get I) ⟨Nat.le_of_ble_eq_true rfl,Nat.le_of_ble_eq_true rfl⟩ rfl rfl) I (af ?_)) ai
      refine ah 6 [] (by kernel_rfl) ?_
      refine ad I I (bD (aU I (bB.rk.get I) I I I (by simp[cj]) ⟨by unfold maxLen;omega,by omega⟩) I (af ?_)) ai
      refine ah 7 [] (by kernel_rfl) ?_
      refine ad I I (aM (bb I) I (af ?_)) ai
      exact b7 (by kernel_rfl) ⟨rfl,aQ (ks:=[1,3,5,6,15,16,17]) I⟩
     refine ad I I (aM (aV I (rfl)) I (af ?_)) ai
     refine ah 1 [] (by kernel_rfl) ?_
     refine ad I I (aM (fu I (cW k (by omega))) I (af ?_)) ai
     refine ah 2 [5] (by kernel_rfl) ?_
     refine ad I I (bD (a8 (xs:=[_,_,_]) I (bB.sl.get I) ⟨Nat.le_of_ble_eq_true rfl,Nat.le_of_ble_eq_true rfl⟩ rfl rfl) I (af ?_)) ?_
     ·refine ah 5 [] (by kernel_rfl) ?_
      refine ad I I (aM (fu I (aX e.ay (by omega) has)) I (af ?_)) ai
      refine ah 6 [] (by kernel_rfl) ?_
      refine ad I I (bD (aU I (bB.rk.get I) I I I (by simp[cj]) ⟨by unfold maxLen;omega,by omega⟩) I (af ?_)) ai
      refine ah 7 [] (by kernel_rfl) ?_
      refine ad I I (aM (bb I) I (af ?_)) ai
      exact b7 (by kernel_rfl) ⟨rfl,aQ (ks:=[1,3,5,6,15,16,17]) I⟩
     refine ad I I (aM (fu I (aX e.ay (by omega) has)) I (af ?_)) ai
     refine ah 2 [] (by kernel_rfl) ?_
     refine ad I I (bD (a8 (xs:=[_,_,_]) I (bB.sl.get I) ⟨Nat.le_of_ble_eq_true rfl,Nat.le_of_ble_eq_true rfl⟩ rfl rfl) I (af ?_)) ai
     refine ah 6 [] (by kernel_rfl) ?_
     refine ad I I (bD (aU I (bB.rk.get I) I I I (by simp[cj]) ⟨by unfold maxLen;omega,by omega⟩) I (af ?_)) ai
     refine ah 7 [] (by kernel_rfl) ?_
     refine ad I I (aM (bb I) I (af ?_)) ai
     exact b7 (by kernel_rfl) ⟨rfl,aQ (ks:=[1,3,5,6,15,16,17]) I⟩
    refine ad I I (aM (aV I (rfl)) I (af ?_)) ai
    refine ah 0 [] (by kernel_rfl) ?_
    refine ad I I (aM (bb I) I (af ?_)) ai
    refine ah 1 [] (by kernel_rfl) ?_
    refine ad I I (aM (fu I (cW k (by omega))) I (af ?_)) ai
    refine ah 2 [5] (by kernel_rfl) ?_
    refine ad I I (bD (a8 (xs:=[_,_,_]) I (bB.sl.get I) ⟨Nat.le_of_ble_eq_true rfl,Nat.le_of_ble_eq_true rfl⟩ rfl rfl) I (af ?_)) ?_
    ·refine ah 5 [] (by kernel_rfl) ?_
     refine ad I I (aM (fu I (aX e.ay (by omega) has)) I (af ?_)) ai
     refine ah 6 [] (by kernel_rfl) ?_
     refine ad I I (bD (aU I (bB.rk.get I) I I I (by simp[cj]) ⟨by unfold maxLen;omega,by omega⟩) I (af ?_)) ai
     refine ah 7 [] (by kernel_rfl) ?_
     refine ad I I (aM (bb I) I (af ?_)) ai
     exact b7 (by kernel_rfl) ⟨rfl,aQ (ks:=[1,3,5,6,15,16,17]) I⟩
    refine ad I I (aM (fu I (aX e.ay (by omega) has)) I (af ?_)) ai
    refine ah 2 [] (by kernel_rfl) ?_
    refine ad I I (bD (a8 (xs:=[_,_,_]) I (bB.sl.get I) ⟨Nat.le_of_ble_eq_true rfl,Nat.le_of_ble_eq_true rfl⟩ rfl rfl) I (af ?_)) ai
    refine ah 6 [] (by kernel_rfl) ?_
    refine ad I I (bD (aU I (bB.rk.get I) I I I (by simp[cj]) ⟨by unfold maxLen;omega,by omega⟩) I (af ?_)) ai
    refine ah 7 [] (by kernel_rfl) ?_
    refine ad I I (aM (bb I) I (af ?_)) ai
    exact b7 (by kernel_rfl) ⟨rfl,aQ (ks:=[1,3,5,6,15,16,17]) I⟩
   refine rW 6 3 I I ?_
   rw[show 3+(ch e.ay).length=([[116,111],Lib.decDigits k,[111,118,101,114]]++ch e.ay).length by simp;omega]
   refine bO [0,1] (.cons 1 I Ren.pure<|.cons 3 I (Ren.ptr (i:=0) I)<|.cons 5 I Ren.pure<|.cons 6 I Ren.pure<|.cons 15 I Ren.pure<|.cons 16 I Ren.pure<|.cons 17 I Ren.pure<|.nil) (.kept rfl (.cells (ab.cons (Ren.ptr (i:=0) I)<|ab.cons (Ren.own (i:=1) I) ab.nil))<|.kept rfl (.row ab.pure)<|.nil) I I ?_
   refine dI (σ':=ku 1 true (cG [[116,97,98,108,101],Lib.decDigits nd]++eL x.ct k)) I ?_
   refine al<|ag (.a 1 I<|.v (aV I ((show some (flag e.rep)=some (flag false) by rw[hrep]))) I<|.k [1,3,5,6,15,16,17,34] I)<|ak I (fun hc=>?_) (fun hc=>?_)
   ·cases hc
   ·refine an<|aR<|ax 1 I<|bh I I (aG.mono (kc true (cG [[116,97,98,108,101],Lib.decDigits nd]++eL x.ct k) ([[116,111],Lib.decDigits k,[111,118,101,114]]++ch e.ay) (by simp[hnl];omega) (by simp only[List.length_append]at*;omega)) (fun _ σ' h=>?_))
    subst h
    refine aO [1,3,15,16,17] I ?_
    refine l9 (.cons 1 I Ren.pure<|.cons 3 I (Ren.ptr (i:=0) I)<|.cons 15 I Ren.pure<|.cons 16 I Ren.pure<|.cons 17 I Ren.pure<|.nil) ?_
    refine aD (.v (bw I) I<|.a 1 I<|.k [1,3,15,16,17] I) ?_
    refine⟨x.ct.length - (k+1),by omega,k+1,by omega,rfl,?_⟩
    rw[hst]
    first
     |rfl
     |(rw[←List.append_assoc];rfl)
 ·have hke:k=x.ct.length:=by have:=of_decide_eq_false hc;omega
  refine bn<|al<|ag (.a 1 I<|.v (aV I (rfl)) I<|.a 2 I<|.k [1,3,57] I)<|ak I (fun hc=>?_) (fun hc=>?_)
  ·have hdn:x.down≠[]:=fun h=>by have:=of_decide_eq_true hc;rw[h]at this;simp at this
   have hdt:mS x.down=cG ([100,111,119,110]::ch x.down):=by unfold mS;rw[if_neg hdn]
   have hnl:(ch x.down).length=x.down.length:=by simp[ch]
   have hd1:=hx.down.1
   have hlk:=hlen k (by omega)
   rw[show x.node.toNat=nd by omega]at hlk
   have h1n:1+(ch x.down).length=([100,111,119,110]::ch x.down).length:=by simp;omega
   refine aR<|bD (a8 (xs:=[_]) I (bB.sl.get I) ⟨Nat.le_of_ble_eq_true rfl,Nat.le_of_ble_eq_true rfl⟩ rfl rfl) I<|ax 1 I<|aM (aV I (rfl)) I<|nZ I (aX x.down (by omega) hx.down.2) I<|bD (aU I (bB.rk.get I) I I I (by simp[cj]) ⟨by unfold maxLen;omega,by omega⟩) I ?_
   (refine ta 62 3 I I ?_;rw[h1n];refine eb [0,1] (.cons 3 I (Ren.ptr (i:=0) I)<|.cons 62 I (Ren.pure (p:=jt ([100,111,119,110]::ch x.down)))<|.nil) (.kept rfl (.cells (ab.cons (Ren.ptr (i:=0) I)<|ab.cons (Ren.own (i:=1) I) ab.nil))<|.kept rfl (.row ab.pure)<|.nil) I I ?_)
   refine bh I I (aG.mono (kc true (cG [[116,97,98,108,101],Lib.decDigits nd]++eL x.ct k) ([100,111,119,110]::ch x.down) (by simp[hnl];omega) (by simp only[List.length_append]at*;omega)) (fun _ σ' h=>?_))
   subst h
   refine aO [3] I ?_
   refine l9 (.cons 3 I (Ren.ptr (i:=0) I)<|.nil) ?_
   refine a7<|bh I I (aG.mono (pB true _ (by simp[cG];omega)) (fun _ σ' h=>?_))
   subst h
   refine ax 1 I<|aO [2] I ?_
   refine aF<|⟨_,_,aK.of I,aZ.pure,?_⟩
   unfold o5
   rw[hdt,show x.node.toNat=nd by omega,←hke]
   first
    |rfl
    |(rw[List.append_nil];rfl)
  ·have hdn:x.down=[]:=List.eq_nil_of_length_eq_zero (by have:=of_decide_eq_false hc;omega)
   have hdt:mS x.down=[]:=by unfold mS;rw[if_pos hdn]
   refine an<|a7<|bh I I (aG.mono (pB true _ (by simp[cG];omega)) (fun _ σ' h=>?_))
   subst h
   refine ax 1 I<|aO [2] I ?_
   refine aF<|⟨_,_,aK.of I,aZ.pure,?_⟩
   unfold o5
   rw[hdt,show x.node.toNat=nd by omega,←hke]
   first
    |rfl
    |(rw[List.append_nil];rfl)
open Net
def kh(k:Nat):List fw:=(List.range k).map fun(i:Nat)=>⟨(i:Int),(((i+1) % 4:Nat):Int),1,1,0,1,0⟩
def cb:au:=⟨4,[],kh 4⟩
def jd(d:Nat):List Int:=match d with
 |0=>[0,1,2,1]
 |1=>[1,0,1,2]
 |2=>[2,1,0,1]
 |_=>[1,2,1,0]
theorem oH:aW cb=true:=by kernel_rfl
def tr(T:au)(n:Nat)(out:List Int)(a:Nat):Bool:=decide (0≤at' out (bH T false a))&&(decide (bH T false a=(n:Int))|| !cU T (bH T false a).toNat)
def ly(n:Nat)(out:List Int):Bool:=
 decide (out.length=4)&&decide (at' out (n:Int)=0)&&(List.range 4).all (fun x=>decide (0≤at' out (x:Int)))&&
 (List.range 8).all (fun a=> !tr cb n out a||(decide (0≤at' out (cS cb false a))&&decide (at' out (cS cb false a)≤at' out (bH cb false a)+bg cb a)))&&
 (List.range 4).all (fun x=>decide (x=n)||(List.range 8).any fun a=>decide (cS cb false a=(x:Int))&&tr cb n out a&&decide (at' out (x:Int)=at' out (bH cb false a)+bg cb a))
theorem oY(n:Nat)(out:List Int)(a:Nat):Net.Way cb [] n false out a↔tr cb n out a=true:=by
 unfold Net.Way tr
 have:db [] a=false:=by simp[db]
 simp[this]
theorem sS{n:Nat}{out:List Int}(h:ly n out=true):cC cb [] n false out:=by
 simp only[ly,Bool.and_eq_true,decide_eq_true_eq,List.all_eq_true,List.mem_range,Bool.or_eq_true,Bool.not_eq_true',List.any_eq_true]at h
 obtain⟨⟨⟨⟨h1,h2⟩,h3⟩,h4⟩,h5⟩:=h
 refine⟨by rw[h1];rfl,h2,fun x hx=>?_,fun a ha hw=>?_,fun x hx _=>?_⟩
 ·have:=h3 x (by have:cb.nodes=4:=rfl;omega);omega
 ·rcases h4 a (by have:cb.aa.length=4:=rfl;omega)with h|h
  ·rw[(oY n out a).1 hw]at h;cases h
  ·exact h
 ·rcases h5 x (by have:cb.nodes=4:=rfl;omega)with h|⟨a,ha,⟨h6,h7⟩,h8⟩
  ·exact .inl h
  ·exact .inr ⟨a,by have:cb.aa.length=4:=rfl;omega,h6,(oY n out a).2 h7,h8⟩
theorem qa(d:Nat)(hd:d<4):aP cb [] d false=jd d:=by
 refine eE (bz oH) (sS ?_)
 match d,hd with
 |0,_=>exact(show ly 0 (jd 0)=true by kernel_rfl)
 |1,_=>exact(show ly 1 (jd 1)=true by kernel_rfl)
 |2,_=>exact(show ly 2 (jd 2)=true by kernel_rfl)
 |3,_=>exact(show ly 3 (jd 3)=true by kernel_rfl)
theorem oP(l:List fw)(e:fw):bA l++eS e=bA (l++[e]):=by simp[bA]
theorem ox(k:Nat):kh (k+1)=kh k++[⟨(k:Int),(((k+1) % 4:Nat):Int),1,1,0,1,0⟩]:=by simp[kh,List.range_succ]
theorem rY{P:Program}{σ:ba}{t:bo}{o:Oper}{ty:TypeId}{v0 v1 c0 c1:Value}(ho:o.op= .build ty #[(0,.const v0),(1,.const v1)])(hb:P.built ty [(0,v0),(1,v1)]=some #[c0,c1]):aH P σ t o (.agg [.raw c0,.raw c1]):=by
 intro F base E ρ w hρ hS hT
 have hrun:=run_build (P:=P) w ty #[(0,v0),(1,v1)] #[c0,c1] hb
 have h0:ρ (.const v0)=v0:=hρ.const v0
 have h1:ρ (.const v1)=v1:=hρ.const v1
 have hr:(execOp ρ o).run P w= .ok (.value (.agg #[c0,c1])) w:=by
  simp only[execOp,ho,Sem.run_bind,List.map_toArray,List.map_cons,List.map_nil,h0,h1,hrun,Result.andThen_ok,Sem.run_pure]
 rw[hr]
 refine aJ (.agg #[c0,c1] _ rfl (fun i x u k1 k2=>?_))
 match i,k1,k2 with
 |0,k1,k2=>simp at k1 k2;subst k1;subst k2;exact .raw _
 |1,k1,k2=>simp at k1 k2;subst k1;subst k2;exact .raw _
 |_+2,k1,k2=>simp at k2
end
section
open Net
def pf(d:Nat):List Int:=if 0=d∨(jd d).getD 0 0<0 then [] else cT cb [] (jd d) ((jd d).getD 0 0) d (b6 cb ((0:Nat):Int))
def cc:kL:=⟨0,[⟨[],false,[]⟩,⟨[0],false,[]⟩,⟨[0,7],false,[]⟩,⟨[7],false,[]⟩],[]⟩
theorem ga(d:Nat)(hd:d<4):eY cb [] 0 d=((cc.ct.getD d ⟨[],false,[]⟩).ay):=by
 unfold eY
 rw[qa d hd]
 match d,hd with
 |0,_=>exact(show pf 0=[] by kernel_rfl)
 |1,_=>exact(show pf 1=[0] by kernel_rfl)
 |2,_=>exact(show pf 2=[0,7] by kernel_rfl)
 |3,_=>exact(show pf 3=[7] by kernel_rfl)
theorem nf:eF cb [] 0=cc:=by
 unfold eF
 rw[if_pos (show bW cb [] [0]=0 by kernel_rfl)]
 unfold dQ
 have h:oM cb [] 0 4=cc.ct:=by
  unfold oM
  simp only[List.range,List.range.loop,List.map_cons,List.map_nil,ga 0 (by omega),ga 1 (by omega),ga 2 (by omega),ga 3 (by omega)]
  rfl
 show(⟨((0:Nat):Int),oM cb [] 0 4,iA [] (b6 cb 0)⟩:kL)=cc
 rw[h]
 have h2:iA [] (b6 cb 0)=[]:=by kernel_rfl
 rw[h2]
 rfl
def iK:List UInt8:=[116,97,98,108,101,32,48,10,116,111,32,49,32,111,118,101,114,32,48,10,116,111,32,50,32,111,118,101,114,32,48,32,55,10,116,111,32,51,32,111,118,101,114,32,55,10]
theorem pP:o5 cc=iK:=by kernel_rfl
open Go.RowKit cX Mem
theorem jV(T:au)(D:List Bool)(n:Int):Can Tryd.prog 15 [bI T,br D,num n] (· = .tuple [qq (eF T D n),num (bW T D [n])]):=by
 refine bE Tryd.func15 I Tryd.ntmps15 I<|a7<|ax 3 I<|aO [1,2,3,6] I ?_
 refine al ?_
 obtain⟨q1,hq1⟩:∃q,aW T=q:=⟨_,rfl⟩
 obtain⟨q2,hq2⟩:∃q,b8 T D=q:=⟨_,rfl⟩
 refine bF 22 (.raw (.bool ((!q1)||(!q2)))) [1,2,3,6] I ?_ ?_
 ·refine .a 1 I<|.c rfl (hq1▸iO T) I<|.a 2 I<|?_
  cases q1
  ·exact .a 5 I<|.k [22,1,2,3,6] I
  ·exact .a 2 I<|.c rfl (hq2▸j6 T D (by have:=cq hq1;omega)) I<|.a 2 I<|.k [22,1,2,3,6] I
 refine ak I (fun hc=>?_) (fun hc=>?_)
 ·have hch:bW T D [n]=1:=by
   unfold bW
   rw[hq1,hq2,if_neg]
   revert hc
   cases q1<;>cases q2<;>simp
  refine a7<|ax 3 I<|aO [6,7] I ?_
  exact aF<|⟨_,_,aK.of I,aZ.eo (aq.cons (aZ.fv (aq.cons aZ.pure<|aq.cons aZ.cd<|aq.cons aZ.cd aq.nil)) (aq.cons aZ.pure aq.nil)),by unfold eF;rw[hch];rfl⟩
 ·have hok:(aW T&&b8 T D)=true:=by
   rw[hq1,hq2]
   revert hc
   cases q1<;>cases q2<;>simp
  clear hc hq1 hq2
  refine an<|al<|ag (.a 2 I<|.c rfl (eu T n) I<|.a 1 I<|.k [1,2,3,6,27] I)<|ak I (fun hc=>?_) (fun hc=>?_)
  ·have hn:bL T n=false:=by revert hc;cases bL T n<;>simp
   have hch:bW T D [n]=2:=by
    unfold bW
    rw[if_pos hok,if_neg]
    simp[hn]
   refine a7<|ax 3 I<|aO [6,7] I ?_
   exact aF<|⟨_,_,aK.of I,aZ.eo (aq.cons (aZ.fv (aq.cons aZ.pure<|aq.cons aZ.cd<|aq.cons aZ.cd aq.nil)) (aq.cons aZ.pure aq.nil)),by unfold eF;rw[hch];rfl⟩
  ·have hn:bL T n=true:=by revert hc;cases bL T n<;>simp
   have hch:bW T D [n]=0:=by
    unfold bW
    rw[if_pos hok,if_pos]
    simp[hn]
   obtain⟨hv,hf⟩:=Bool.and_eq_true_iff.1 hok
   rw[cI]at hn
   obtain⟨m,rfl⟩:=Int.eq_ofNat_of_zero_le hn.1
   obtain⟨N,hN⟩:∃N:Nat,T.nodes=(N:Int):=⟨T.nodes.toNat,by omega⟩
   have hN64:N≤64:=by have:=(bz hv).nodes;omega
   have hll:=cq hv
   refine an<|a7<|ax 4 I<|aO [1,2,3,6,8] I ?_
   refine cf 1 1 49 3 I I ?_
   refine cf 1 2 3 1 I I ?_
   refine al<|ag (.a 1 I<|.v (aV I ((show some (num T.nodes)=some (num (N:Int)) by rw[hN]))) I<|.a 1 I<|.k [1,2,3,6,8,32,33] I)<|aw<|fx [1,2,3,6,8,32,33] I<|bx (fun r s=>∃j,j≤N∧r=N - j∧s=⟨[(1,br D),(2,num m),(3,.bY (da T) 0),(6,.ptr 0 0),(8,.ptr 1 0),(32,num N),(33,num j)],[some (.cells 45 [num 0,.raw (.slice none 0 0),.raw (.slice none 0 0)]),some (.cells 45 [num m,.own 2,.own 3]),some (.row 49 3 j (gn (oM T D m j))),some (.row 3 1 0 [])]⟩) N ⟨0,by omega,by omega,rfl⟩ ?_
   rintro r s ⟨j,hj,rfl,rfl⟩
   refine ag (.a 1 I<|.k [1,2,3,6,8,32,33,34] I)<|al<|ak I (fun hc=>?_) (fun hc=>?_)
   ·have hlt:j<N:=by have:=of_decide_eq_true hc;omega
    have hne:fD T D (m:Int) (j:Int)=0:=by
     have hnb:bL T (j:Int)=true:=cI.2 ⟨by omega,by omega⟩
     have hch':bW T D [(j:Int)]=0:=by
      unfold bW
      rw[if_pos hok,if_pos]
      simp[hnb]
     unfold fD
     rw[if_pos hch',if_pos (cI.2 hn)]
    have hnx:Can Tryd.prog 31 [bI T,br D,num m,num j] (· = .tuple [aL (eY T D m j),num 0]):=by
     have h:=rP T D (m:Int) (j:Int)
     rw[hne]at h
     exact h
    refine an<|al<|aw<|ag (.a 2 I<|.k [1,2,3,6,8,9,32,33] I)<|ag (.a 4 I<|.c rfl (hnx) I<|.a 5 I<|.k [1,2,3,6,8,10,32,33] I)<|aR<|ax 3 I<|aM (vu (eK (xs:=[_,_,_]) I (bB.st.get I) I I) (mD.fv (.cons (mD.refl _)<|.cons (mD.refl _)<|.cons mD.cd .nil))) I<|ax 1 I<|bD (aU I (bB.rk.get I) I I I I (by unfold maxLen;omega)) I<|ax 2 I ?_
    refine eb [0,1,4,3] (.c 1<|.c 2<|.c 3<|.c 6<|.c 8<|.c 32<|.c 33<|.nil) (.kept rfl (.cells (ab.c<|ab.c<|ab.c<|ab.nil))<|.kept rfl (.cells (ab.c<|ab.c<|ab.c<|ab.nil))<|.kept rfl (.dX rfl (show _=gn (oM T D m (j+1)) by rw[rE];exact ob _ ⟨eY T D m j,false,[]⟩))<|.kept rfl (.row ab.pure)<|.nil) I I (af ?_)
    refine aD (.v (bw I) I<|.a 1 I<|.k [1,2,3,6,8,32,33] I) ?_
    exact⟨N - (j+1),by omega,j+1,by omega,rfl,rfl⟩
   ·have hje:j=N:=by have:=of_decide_eq_false hc;omega
    subst hje
    refine bn<|al ?_
    have hol:(b6 T m).length≤512:=Nat.le_trans (eT T m _) (by omega)
    refine ag (.a 2 I<|.c rfl (l4 T hll _) I<|.a 2 I<|.k [1,6,8,54,55,56] I)<|aw<|fx [1,6,8,54,55,56] I<|bx (fun r s=>∃i,i≤(b6 T m).length∧r=(b6 T m).length - i∧s=⟨[(1,br D),(6,.ptr 0 0),(8,.ptr 1 0),(54,aL (b6 T m)),(55,num (b6 T m).length),(56,num i)],[some (.cells 45 [num 0,.raw (.slice none 0 0),.raw (.slice none 0 0)]),some (.cells 45 [num m,.own 2,.own 3]),some (.row 49 3 j (gn (oM T D m j))),some (.row 3 1 (iA D ((b6 T m).take i)).length (aI (iA D ((b6 T m).take i))))]⟩) (b6 T m).length ⟨0,by omega,by omega,rfl⟩ ?_
    rintro r s ⟨i,hi,rfl,rfl⟩
    refine ag (.a 1 I<|.k [1,6,8,54,55,56,57] I)<|al<|ak I (fun hc=>?_) (fun hc=>?_)
    ·have hlt:i<(b6 T m).length:=by have:=of_decide_eq_true hc;omega
     obtain⟨h0,h1⟩:=j2 (c7 (d:=0) hlt)
     obtain⟨a,ha⟩:=Int.eq_ofNat_of_zero_le h0
     have hDl:D.length=0∨a<D.length:=by simp only[b8,decide_eq_true_eq]at hf;omega
     have hstep:iA D ((b6 T m).take (i+1))=iA D ((b6 T m).take i)++(if db D a then [(a:Int)] else []):=by
      unfold iA
      rw[ef _ i 0 hlt,List.filter_append,ha]
      simp only[List.filter_cons,List.filter_nil,Int.toNat_natCast]
     have hdl:(iA D ((b6 T m).take i)).length≤1000:=Nat.le_trans (List.length_filter_le _ _) (by rw[List.length_take];have:=eT T m (2*T.aa.length);unfold b6 at*;omega)
     refine an<|al<|aw<|ag (.v (aY (i) I) I<|.v (aV I ((aN _ i hlt).trans (by rw[ha]))) I<|.a 1 I<|.k [1,6,8,13,54,55,56] I)<|ag (.a 2 I<|.c rfl (ie D a hDl) I<|.k [1,6,8,13,54,55,56,62] I)<|ak I (fun hcd=>?_) (fun hcd=>?_)
     ·rw[hcd,if_pos rfl]at hstep
      refine aR<|ax 4 I<|bD (aU I (bB.rk.get I) I I I I (by unfold maxLen;omega)) I<|ax 2 I ?_
      refine eb [0,1,2,4] (.c 1<|.c 6<|.c 8<|.c 54<|.c 55<|.c 56<|.nil) (.kept rfl (.cells (ab.c<|ab.c<|ab.c<|ab.nil))<|.kept rfl (.cells (ab.c<|ab.c<|ab.c<|ab.nil))<|.kept rfl (.row ab.pure)<|.kept rfl (.dX rfl (dL _ _))<|.nil) I I (af ?_)
      refine aD (.v (bw I) I<|.a 1 I<|.k [1,6,8,54,55,56] I) ?_
      refine⟨(b6 T m).length - (i+1),by omega,i+1,by omega,rfl,?_⟩
      rw[hstep]
      first
       |rfl
       |(simp only[List.length_append,List.length_singleton];rfl)
     ·rw[hcd,if_neg (by simp),List.append_nil]at hstep
      refine an<|aD (.v (bw I) I<|.a 1 I<|.k [1,6,8,54,55,56] I) ?_
      refine⟨(b6 T m).length - (i+1),by omega,i+1,by omega,rfl,?_⟩
      rw[hstep]
      first
       |rfl
       |(simp only[List.length_append,List.length_singleton];rfl)
    ·have hie:i=(b6 T m).length:=by have:=of_decide_eq_false hc;omega
     subst hie
     refine bn<|a7<|aM (fk (ys:=[num m,.own 2,.own 3]) I (bB.tk.get I) I I I I) I<|ax 2 I<|aO [6,7] I ?_
     refine aF<|⟨_,_,aK.of I,aZ.eo (aq.cons (aZ.fv (aq.cons aZ.pure<|aq.cons (aZ.du rfl aq.pure)<|aq.cons (aZ.du rfl aq.pure) aq.nil)) (aq.cons aZ.pure aq.nil)),?_⟩
     unfold eF
     rw[hch,if_pos rfl,List.take_length]
     unfold dQ qq jz jm aL
     rw[po,show T.nodes.toNat=j by omega]
     rfl
theorem oU:Small cc:=by
 refine⟨by decide,by decide,fun e he=>?_,by decide,fun a ha=>by cases ha⟩
 simp[cc]at he
 rcases he with rfl|rfl|rfl|rfl<;>simp
theorem qc:(List.range 5).all (fun k=>Nat.ble ((cG [[116,97,98,108,101],Lib.decDigits cc.node.toNat]).length+(eL cc.ct k).length) 100000000)=true:=by kernel_rfl
theorem qm:(List.range 4).all (fun d=>Nat.ble (cG ([[116,111],Lib.decDigits d,[111,118,101,114]]++ch (cc.ct.getD d ⟨[],false,[]⟩).ay)).length 100000000)=true:=by kernel_rfl
theorem qz:Nat.ble (cG ([100,111,119,110]::ch cc.down)).length 100000000=true:=by kernel_rfl
theorem kK:Can Tryd.prog 16 [qq cc] (· =i7 iK):=by
 rw[←pP]
 refine ou cc oU (fun k hk=>?_) (fun d e he=>?_) (Nat.le_of_ble_eq_true qz)
 ·have h4:k≤4:=hk
  exact Nat.le_of_ble_eq_true (List.all_eq_true.1 qc k (List.mem_range.2 (by omega)))
 ·have hd:d<cc.ct.length:=(List.getElem?_eq_some_iff.1 he).1
  have h4:d<4:=hd
  have h:=Nat.le_of_ble_eq_true (List.all_eq_true.1 qm d (List.mem_range.2 h4))
  rw[show cc.ct.getD d ⟨[],false,[]⟩=e by rw[List.getD_eq_getElem?_getD,he];rfl]at h
  exact h
theorem lV:Can Tryd.prog 4 [] (· =flag true):=by
 have hro:=jV cb [] 0
 rw[nf,show bW cb [] [0]=0 by kernel_rfl]at hro
 refine bE Tryd.func4 I Tryd.ntmps4 I<|ag (.a 1 I<|.k [] I)<|ag (.a 1 I<|.k [1] I)<|ee 1 54 7 I ?_
 refine al<|ag (.a 1 I<|.k [1,5] I)<|aw<|fx [1,5] I<|bx (fun r s=>∃k,k≤4∧r=4 - k∧s=⟨[(1,.own 0),(5,num k)],[some (.row 54 7 k (bA (kh k)))]⟩) 4 ⟨0,by omega,by omega,rfl⟩ ?_
 rintro r s ⟨k,hk,rfl,rfl⟩
 refine ag (.a 1 I<|.k [1,5,6] I)<|al<|ak I (fun hc=>?_) (fun hc=>?_)
 ·have hlt:k<4:=by have:=of_decide_eq_true hc;omega
  refine an<|al<|aw<|ag (.a 2 I<|.k [1,2,5] I)<|aR<|ax 3 I<|aM (bw I) I<|aM (pg I I I (by decide) ((show((k:Int)+1).tmod 4=(((k+1) % 4:Nat):Int) by rw[Int.tmod_eq_emod_of_nonneg (by omega)];omega))) I<|aM (rY I (show Tryd.prog.built 52 [(0,.int .i64 1),(1,.int .i64 1)]=some #[.int .i64 1,.int .i64 1] by kernel_rfl)) I<|ax 2 I<|bD (aU I (bB.rk.get I) I I I I (by unfold maxLen;omega)) I<|ax 1 I ?_
  refine eb [1] (.c 1<|.c 5<|.nil) (.kept rfl (.dX rfl (show _=bA (kh (k+1)) by rw[ox];exact oP _ ⟨(k:Int),(((k+1) % 4:Nat):Int),1,1,0,1,0⟩))<|.nil) I I (af ?_)
  refine aD (.v (bw I) I<|.a 1 I<|.k [1,5] I) ?_
  exact⟨4 - (k+1),by omega,k+1,by omega,rfl,rfl⟩
 ·have hke:k=4:=by have:=of_decide_eq_false hc;omega
  subst hke
  refine rW 1 0 I I ?_
  refine bO [] (.cons 1 I (Ren.pure (p:=.slice 4 (bA (kh 4)))) .nil) .nil rfl rfl ?_
  refine bn<|a7<|ax 2 I<|aM (vA I (aq.cons (aZ.fv (aq.cons aZ.pure<|aq.cons aZ.cd<|aq.cons aZ.pure aq.nil))<|aq.cons aZ.cd<|aq.cons aZ.pure aq.nil) (hro)) I<|ax 6 I<|aO [3,4] I ?_
  refine dI (σ':=[some (.cells 45 (jz cc))]) I ?_
  refine lW 3 0 0 I I ?_
  refine bO [] (.cons 3 I (Ren.pure (p:=.bY (jz cc) 0))<|.cons 4 I Ren.pure .nil) .nil rfl rfl ?_
  refine bF 0 (.raw (.bool (true))) [] I ?_ ?_
  ·exact .a 4 I<|.c rfl (kK) I<|.v (sk I I I (beq_self_eq_true (ByteArray.toList ⟨iK.toArray⟩))) I<|.a 2 I<|.k [0] I
  exact aF<|⟨_,_,aK.of I,aZ.pure,rfl⟩
end
end PW
end Go.Proofs.YteikppbedmmdnaaDoor
