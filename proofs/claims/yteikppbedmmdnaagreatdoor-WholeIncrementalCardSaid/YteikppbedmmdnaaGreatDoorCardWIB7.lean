/- Texts of the proof, part 7. -/
import Derived.RangeFuncFrom
import Derived.MapKept
import Derived.Scope
import Derived.Lib.SliceRun
import Derived.ChangeKeysEq
import Derived.Test.YteikppbedmmdnaaGreatDoorCardWIB6
set_option linter.unusedVariables false
set_option linter.unusedSimpArgs false
set_option maxRecDepth 10000
set_option maxHeartbeats 1000000
namespace Go.Proofs.YteikppbedmmdnaaGreatDoor
namespace PW
section
open Go.RowKit cj Mem Net
def IW:Code→Option (Array Oper)
 | .block _ (.region _ ops _)=>some ops
 |_=>none
def rT:Code→Option (Operand×Array Tmp×Code×Code)
 | .rangeFunc g ps a b=>some (g,ps,a,b)
 | .seq x y=>(rT x).orElse fun _=>rT y
 | .cond _ x y=>(rT x).orElse fun _=>rT y
 | .block _ x=>rT x
 | .loop x=>rT x
 |_=>none
def opsOf(f:Func):Array Oper:=(((f.body.bind rT).bind fun x=>IW x.2.2.2).getD #[])
set_option maxHeartbeats 4000000 in
theorem IV(M:List Bool)(i:Nat)(hi:2*i+1<M.length)(hM:M.length≤1000):WA Tryz.prog 41 2 (opsOf Tryz.f75) 11 #[false,false,false,false,false,false,false,false,false,false,false] ⟨[(6,.ptr 1 0),(9,num i)],[some (.row 4 1 M.length (bb M)),some (.cells 22 [.own 0])]⟩ (fun s=>s.σ=[some (.row 4 1 M.length (bb ((M.set (2*i) true).set (2*i+1) true))),some (.cells 22 [.own 0])]):=by
 have hl1:(M.set (2*i) true).length=M.length:=by simp
 refine o8 [[(6,.ptr 1 0),(9,num i),(30,.own 0),(31,num i),(32,num ((2*i:Nat):Int)),(33,.own 0),(34,num i),(35,num ((2*i:Nat):Int)),(36,num ((2*i+1:Nat):Int)),(37,.ptr 0 (2*i)),(38,.ptr 0 (2*i+1))]] [[some (.row 4 1 M.length (bb M)),some (.cells 22 [.own 0])],[some (.row 4 1 M.length (bb (M.set (2*i) true))),some (.cells 22 [.own 0])],[some (.row 4 1 M.length (bb ((M.set (2*i) true).set (2*i+1) true))),some (.cells 22 [.own 0])]] [6,9] I (by kernel_rfl) (fun M hi ho=>?_)
 have μ0:M 0 2047 0 [] 2:=hi<|nk I (by kernel_rfl) (rfl)
 have μ1:M 1 1023 0 [38] 1:=hi<|aa [(10,2047)] I<|nM I I (aX I (bG.tk.get I) I I I (by simp;omega)) I I (ho μ0) I I ab
 have μ2:M 2 511 0 [33,36] 1:=hi<|aa [(9,1023)] I<|aQ I I (aJ (2*i+1) I) I (ho μ1) I I ab
 have μ3:M 3 255 0 [33,36,37] 0:=hi<|aa [(8,511)] I<|nM I I (aX I (bG.tk.get I) I I I (by omega)) I I (ho μ2) I I ab
 have μ4:M 4 127 0 [30,32,33,36] 0:=hi<|aa [(7,255)] I<|aQ I I (aJ (2*i) I) I (ho μ3) I I ab
 have μ5:M 3 447 0 [33,35] 1:=hi<|aa [(6,511)] I<|aQ I I (aU I (hc:=show((2*i:Nat):Int)+1=((2*i+1:Nat):Int) by omega) (hn:=by unfold In64;omega)) I (ho μ2) I I ab
 have μ6:M 4 191 0 [33,35,37] 0:=hi<|aa [(6,255),(8,447)] I<|aQ I I (aU I (hc:=show((2*i:Nat):Int)+1=((2*i+1:Nat):Int) by omega) (hn:=by unfold In64;omega)) I (ho μ3) I I<|nM I I (aX I (bG.tk.get I) I I I (by omega)) I I (ho μ5) I I ab
 have μ7:M 5 63 0 [30,32,33,35] 0:=hi<|aa [(6,127),(7,191)] I<|aQ I I (aU I (hc:=show((2*i:Nat):Int)+1=((2*i+1:Nat):Int) by omega) (hn:=by unfold In64;omega)) I (ho μ4) I I<|aQ I I (aJ (2*i) I) I (ho μ6) I I ab
 have μ8:M 4 415 0 [33,34] 1:=hi<|aa [(5,447)] I<|aQ I I (aU I (hc:=show(2:Int)*(i:Int)=((2*i:Nat):Int) by omega) (hn:=by unfold In64;omega)) I (ho μ5) I I ab
 have μ9:M 5 159 0 [33,34,37] 0:=hi<|aa [(5,191),(8,415)] I<|aQ I I (aU I (hc:=show(2:Int)*(i:Int)=((2*i:Nat):Int) by omega) (hn:=by unfold In64;omega)) I (ho μ6) I I<|nM I I (aX I (bG.tk.get I) I I I (by omega)) I I (ho μ8) I I ab
 have μ10:M 6 31 0 [30,32,33,34] 0:=hi<|aa [(5,63),(7,159)] I<|aQ I I (aU I (hc:=show(2:Int)*(i:Int)=((2*i:Nat):Int) by omega) (hn:=by unfold In64;omega)) I (ho μ7) I I<|aQ I I (aJ (2*i) I) I (ho μ9) I I ab
 have μ11:M 5 399 0 [9,33] 1:=hi<|aa [(4,415)] I<|ag (ho μ8) I I ab
 have μ12:M 6 143 0 [9,33,37] 0:=hi<|aa [(4,159),(8,399)] I<|ag (ho μ9) I I<|nM I I (aX I (bG.tk.get I) I I I (by omega)) I I (ho μ11) I I ab
 have μ13:M 7 15 0 [9,30,32,33] 0:=hi<|aa [(4,31),(7,143)] I<|ag (ho μ10) I I<|aQ I I (aJ (2*i) I) I (ho μ12) I I ab
 have μ14:M 3 503 0 [6,36] 1:=hi<|aa [(3,511)] I<|ag (ho μ2) I I ab
 have μ15:M 4 247 0 [6,36,37] 0:=hi<|aa [(3,255),(8,503)] I<|ag (ho μ3) I I<|nM I I (aX I (bG.tk.get I) I I I (by omega)) I I (ho μ14) I I ab
 have μ16:M 5 119 0 [6,30,32,36] 0:=hi<|aa [(3,127),(7,247)] I<|ag (ho μ4) I I<|aQ I I (aJ (2*i) I) I (ho μ15) I I ab
 have μ17:M 4 439 0 [6,35] 1:=hi<|aa [(3,447),(6,503)] I<|ag (ho μ5) I I<|aQ I I (aU I (hc:=show((2*i:Nat):Int)+1=((2*i+1:Nat):Int) by omega) (hn:=by unfold In64;omega)) I (ho μ14) I I ab
 have μ18:M 5 183 0 [6,35,37] 0:=hi<|aa [(3,191),(6,247),(8,439)] I<|ag (ho μ6) I I<|aQ I I (aU I (hc:=show((2*i:Nat):Int)+1=((2*i+1:Nat):Int) by omega) (hn:=by unfold In64;omega)) I (ho μ15) I I<|nM I I (aX I (bG.tk.get I) I I I (by omega)) I I (ho μ17) I I ab
 have μ19:M 6 55 0 [6,30,32,35] 0:=hi<|aa [(3,63),(6,119),(7,183)] I<|ag (ho μ7) I I<|aQ I I (aU I (hc:=show((2*i:Nat):Int)+1=((2*i+1:Nat):Int) by omega) (hn:=by unfold In64;omega)) I (ho μ16) I I<|aQ I I (aJ (2*i) I) I (ho μ18) I I ab
 have μ20:M 5 407 0 [6,34] 1:=hi<|aa [(3,415),(5,439)] I<|ag (ho μ8) I I<|aQ I I (aU I (hc:=show(2:Int)*(i:Int)=((2*i:Nat):Int) by omega) (hn:=by unfold In64;omega)) I (ho μ17) I I ab
 have μ21:M 6 151 0 [6,34,37] 0:=hi<|aa [(3,159),(5,183),(8,407)] I<|ag (ho μ9) I I<|aQ I I (aU I (hc:=show(2:Int)*(i:Int)=((2*i:Nat):Int) by omega) (hn:=by unfold In64;omega)) I (ho μ18) I I<|nM I I (aX I (bG.tk.get I) I I I (by omega)) I I (ho μ20) I I ab
 have μ22:M 7 23 0 [6,30,32,34] 0:=hi<|aa [(3,31),(5,55),(7,151)] I<|ag (ho μ10) I I<|aQ I I (aU I (hc:=show(2:Int)*(i:Int)=((2*i:Nat):Int) by omega) (hn:=by unfold In64;omega)) I (ho μ19) I I<|aQ I I (aJ (2*i) I) I (ho μ21) I I ab
 have μ23:M 6 391 0 [6,9] 1:=hi<|aa [(3,399),(4,407)] I<|ag (ho μ11) I I<|ag (ho μ20) I I ab
 have μ24:M 7 135 0 [6,9,37] 0:=hi<|aa [(3,143),(4,151),(8,391)] I<|ag (ho μ12) I I<|ag (ho μ21) I I<|nM I I (aX I (bG.tk.get I) I I I (by omega)) I I (ho μ23) I I ab
 have μ25:M 8 7 0 [6,9,30,32] 0:=hi<|aa [(3,15),(4,23),(7,135)] I<|ag (ho μ13) I I<|ag (ho μ22) I I<|aQ I I (aJ (2*i) I) I (ho μ24) I I ab
 have μ26:M 5 123 0 [30,31,33,36] 0:=hi<|aa [(2,127)] I<|aQ I I (aU I (hc:=show(2:Int)*(i:Int)=((2*i:Nat):Int) by omega) (hn:=by unfold In64;omega)) I (ho μ4) I I ab
 have μ27:M 6 59 0 [30,31,33,35] 0:=hi<|aa [(2,63),(6,123)] I<|aQ I I (aU I (hc:=show(2:Int)*(i:Int)=((2*i:Nat):Int) by omega) (hn:=by unfold In64;omega)) I (ho μ7) I I<|aQ I I (aU I (hc:=show((2*i:Nat):Int)+1=((2*i+1:Nat):Int) by omega) (hn:=by unfold In64;omega)) I (ho μ26) I I ab
 have μ28:M 7 27 0 [30,31,33,34] 0:=hi<|aa [(2,31),(5,59)] I<|aQ I I (aU I (hc:=show(2:Int)*(i:Int)=((2*i:Nat):Int) by omega) (hn:=by unfold In64;omega)) I (ho μ10) I I<|aQ I I (aU I (hc:=show(2:Int)*(i:Int)=((2*i:Nat):Int) by omega) (hn:=by unfold In64;omega)) I (ho μ27) I I ab
 have μ29:M 8 11 0 [9,30,31,33] 0:=hi<|aa [(2,15),(4,27)] I<|aQ I I (aU I (hc:=show(2:Int)*(i:Int)=((2*i:Nat):Int) by omega) (hn:=by unfold In64;omega)) I (ho μ13) I I<|ag (ho μ28) I I ab
 have μ30:M 6 115 0 [6,30,31,36] 0:=hi<|aa [(2,119),(3,123)] I<|aQ I I (aU I (hc:=show(2:Int)*(i:Int)=((2*i:Nat):Int) by omega) (hn:=by unfold In64;omega)) I (ho μ16) I I<|ag (ho μ26) I I ab
 have μ31:M 7 51 0 [6,30,31,35] 0:=hi<|aa [(2,55),(3,59),(6,115)] I<|aQ I I (aU I (hc:=show(2:Int)*(i:Int)=((2*i:Nat):Int) by omega) (hn:=by unfold In64;omega)) I (ho μ19) I I<|ag (ho μ27) I I<|aQ I I (aU I (hc:=show((2*i:Nat):Int)+1=((2*i+1:Nat):Int) by omega) (hn:=by unfold In64;omega)) I (ho μ30) I I ab
 have μ32:M 8 19 0 [6,30,31,34] 0:=hi<|aa [(2,23),(3,27),(5,51)] I<|aQ I I (aU I (hc:=show(2:Int)*(i:Int)=((2*i:Nat):Int) by omega) (hn:=by unfold In64;omega)) I (ho μ22) I I<|ag (ho μ28) I I<|aQ I I (aU I (hc:=show(2:Int)*(i:Int)=((2*i:Nat):Int) by omega) (hn:=by unfold In64;omega)) I (ho μ31) I I ab
 have μ33:M 9 3 0 [6,9,30,31] 0:=hi<|aa [(2,7),(3,11),(4,19)] I<|aQ I I (aU I (hc:=show(2:Int)*(i:Int)=((2*i:Nat):Int) by omega) (hn:=by unfold In64;omega)) I (ho μ25) I I<|ag (ho μ29) I I<|ag (ho μ32) I I ab
 have μ34:M 6 121 0 [9,30,33,36] 0:=hi<|aa [(1,123)] I<|ag (ho μ26) I I ab
 have μ35:M 7 57 0 [9,30,33,35] 0:=hi<|aa [(1,59),(6,121)] I<|ag (ho μ27) I I<|aQ I I (aU I (hc:=show((2*i:Nat):Int)+1=((2*i+1:Nat):Int) by omega) (hn:=by unfold In64;omega)) I (ho μ34) I I ab
 have μ36:M 8 25 0 [9,30,33,34] 0:=hi<|aa [(1,27),(5,57)] I<|ag (ho μ28) I I<|aQ I I (aU I (hc:=show(2:Int)*(i:Int)=((2*i:Nat):Int) by omega) (hn:=by unfold In64;omega)) I (ho μ35) I I ab
 have μ37:M 9 9 0 [9,30,33] 0:=hi<|aa [(1,11),(4,25)] I<|ag (ho μ29) I I<|ag (ho μ36) I I ab
 have μ38:M 7 113 0 [6,9,30,36] 0:=hi<|aa [(1,115),(3,121)] I<|ag (ho μ30) I I<|ag (ho μ34) I I ab
 have μ39:M 8 49 0 [6,9,30,35] 0:=hi<|aa [(1,51),(3,57),(6,113)] I<|ag (ho μ31) I I<|ag (ho μ35) I I<|aQ I I (aU I (hc:=show((2*i:Nat):Int)+1=((2*i+1:Nat):Int) by omega) (hn:=by unfold In64;omega)) I (ho μ38) I I ab
 have μ40:M 9 17 0 [6,9,30,34] 0:=hi<|aa [(1,19),(3,25),(5,49)] I<|ag (ho μ32) I I<|ag (ho μ36) I I<|aQ I I (aU I (hc:=show(2:Int)*(i:Int)=((2*i:Nat):Int) by omega) (hn:=by unfold In64;omega)) I (ho μ39) I I ab
 have μ41:M 10 1 0 [6,9,30] 0:=hi<|aa [(1,3),(3,9),(4,17)] I<|ag (ho μ33) I I<|ag (ho μ37) I I<|ag (ho μ40) I I ab
 have μ42:M 5 126 0 [6,32,33,36] 0:=hi<|aa [(0,127)] I<|ag (ho μ4) I I ab
 have μ43:M 6 62 0 [6,32,33,35] 0:=hi<|aa [(0,63),(6,126)] I<|ag (ho μ7) I I<|aQ I I (aU I (hc:=show((2*i:Nat):Int)+1=((2*i+1:Nat):Int) by omega) (hn:=by unfold In64;omega)) I (ho μ42) I I ab
 have μ44:M 7 30 0 [6,32,33,34] 0:=hi<|aa [(0,31),(5,62)] I<|ag (ho μ10) I I<|aQ I I (aU I (hc:=show(2:Int)*(i:Int)=((2*i:Nat):Int) by omega) (hn:=by unfold In64;omega)) I (ho μ43) I I ab
 have μ45:M 8 14 0 [6,9,32,33] 0:=hi<|aa [(0,15),(4,30)] I<|ag (ho μ13) I I<|ag (ho μ44) I I ab
 have μ46:M 6 118 0 [6,32,36] 0:=hi<|aa [(0,119),(3,126)] I<|ag (ho μ16) I I<|ag (ho μ42) I I ab
 have μ47:M 7 54 0 [6,32,35] 0:=hi<|aa [(0,55),(3,62),(6,118)] I<|ag (ho μ19) I I<|ag (ho μ43) I I<|aQ I I (aU I (hc:=show((2*i:Nat):Int)+1=((2*i+1:Nat):Int) by omega) (hn:=by unfold In64;omega)) I (ho μ46) I I ab
 have μ48:M 8 22 0 [6,32,34] 0:=hi<|aa [(0,23),(3,30),(5,54)] I<|ag (ho μ22) I I<|ag (ho μ44) I I<|aQ I I (aU I (hc:=show(2:Int)*(i:Int)=((2*i:Nat):Int) by omega) (hn:=by unfold In64;omega)) I (ho μ47) I I ab
 have μ49:M 9 6 0 [6,9,32] 0:=hi<|aa [(0,7),(3,14),(4,22)] I<|ag (ho μ25) I I<|ag (ho μ45) I I<|ag (ho μ48) I I ab
 have μ50:M 6 122 0 [6,31,33,36] 0:=hi<|aa [(0,123),(2,126)] I<|ag (ho μ26) I I<|aQ I I (aU I (hc:=show(2:Int)*(i:Int)=((2*i:Nat):Int) by omega) (hn:=by unfold In64;omega)) I (ho μ42) I I ab
 have μ51:M 7 58 0 [6,31,33,35] 0:=hi<|aa [(0,59),(2,62),(6,122)] I<|ag (ho μ27) I I<|aQ I I (aU I (hc:=show(2:Int)*(i:Int)=((2*i:Nat):Int) by omega) (hn:=by unfold In64;omega)) I (ho μ43) I I<|aQ I I (aU I (hc:=show((2*i:Nat):Int)+1=((2*i+1:Nat):Int) by omega) (hn:=by unfold In64;omega)) I (ho μ50) I I ab
 have μ52:M 8 26 0 [6,31,33,34] 0:=hi<|aa [(0,27),(2,30),(5,58)] I<|ag (ho μ28) I I<|aQ I I (aU I (hc:=show(2:Int)*(i:Int)=((2*i:Nat):Int) by omega) (hn:=by unfold In64;omega)) I (ho μ44) I I<|aQ I I (aU I (hc:=show(2:Int)*(i:Int)=((2*i:Nat):Int) by omega) (hn:=by unfold In64;omega)) I (ho μ51) I I ab
 have μ53:M 9 10 0 [6,9,31,33] 0:=hi<|aa [(0,11),(2,14),(4,26)] I<|ag (ho μ29) I I<|aQ I I (aU I (hc:=show(2:Int)*(i:Int)=((2*i:Nat):Int) by omega) (hn:=by unfold In64;omega)) I (ho μ45) I I<|ag (ho μ52) I I ab
 have μ54:M 7 114 0 [6,31,36] 0:=hi<|aa [(0,115),(2,118),(3,122)] I<|ag (ho μ30) I I<|aQ I I (aU I (hc:=show(2:Int)*(i:Int)=((2*i:Nat):Int) by omega) (hn:=by unfold In64;omega)) I (ho μ46) I I<|ag (ho μ50) I I ab
 have μ55:M 8 50 0 [6,31,35] 0:=hi<|aa [(0,51),(2,54),(3,58),(6,114)] I<|ag (ho μ31) I I<|aQ I I (aU I (hc:=show(2:Int)*(i:Int)=((2*i:Nat):Int) by omega) (hn:=by unfold In64;omega)) I (ho μ47) I I<|ag (ho μ51) I I<|aQ I I (aU I (hc:=show((2*i:Nat):Int)+1=((2*i+1:Nat):Int) by omega) (hn:=by unfold In64;omega)) I (ho μ54) I I ab
 have μ56:M 9 18 0 [6,31,34] 0:=hi<|aa [(0,19),(2,22),(3,26),(5,50)] I<|ag (ho μ32) I I<|aQ I I (aU I (hc:=show(2:Int)*(i:Int)=((2*i:Nat):Int) by omega) (hn:=by unfold In64;omega)) I (ho μ48) I I<|ag (ho μ52) I I<|aQ I I (aU I (hc:=show(2:Int)*(i:Int)=((2*i:Nat):Int) by omega) (hn:=by unfold In64;omega)) I (ho μ55) I I ab
 have μ57:M 10 2 0 [6,9,31] 0:=hi<|aa [(0,3),(2,6),(3,10),(4,18)] I<|ag (ho μ33) I I<|aQ I I (aU I (hc:=show(2:Int)*(i:Int)=((2*i:Nat):Int) by omega) (hn:=by unfold In64;omega)) I (ho μ49) I I<|ag (ho μ53) I I<|ag (ho μ56) I I ab
 have μ58:M 7 120 0 [6,9,33,36] 0:=hi<|aa [(0,121),(1,122)] I<|ag (ho μ34) I I<|ag (ho μ50) I I ab
 have μ59:M 8 56 0 [6,9,33,35] 0:=hi<|aa [(0,57),(1,58),(6,120)] I<|ag (ho μ35) I I<|ag (ho μ51) I I<|aQ I I (aU I (hc:=show((2*i:Nat):Int)+1=((2*i+1:Nat):Int) by omega) (hn:=by unfold In64;omega)) I (ho μ58) I I ab
 have μ60:M 9 24 0 [6,9,33,34] 0:=hi<|aa [(0,25),(1,26),(5,56)] I<|ag (ho μ36) I I<|ag (ho μ52) I I<|aQ I I (aU I (hc:=show(2:Int)*(i:Int)=((2*i:Nat):Int) by omega) (hn:=by unfold In64;omega)) I (ho μ59) I I ab
 have μ61:M 10 8 0 [6,9,33] 0:=hi<|aa [(0,9),(1,10),(4,24)] I<|ag (ho μ37) I I<|ag (ho μ53) I I<|ag (ho μ60) I I ab
 have μ62:M 8 112 0 [6,9,36] 0:=hi<|aa [(0,113),(1,114),(3,120)] I<|ag (ho μ38) I I<|ag (ho μ54) I I<|ag (ho μ58) I I ab
 have μ63:M 9 48 0 [6,9,35] 0:=hi<|aa [(0,49),(1,50),(3,56),(6,112)] I<|ag (ho μ39) I I<|ag (ho μ55) I I<|ag (ho μ59) I I<|aQ I I (aU I (hc:=show((2*i:Nat):Int)+1=((2*i+1:Nat):Int) by omega) (hn:=by unfold In64;omega)) I (ho μ62) I I ab
 have μ64:M 10 16 0 [6,9,34] 0:=hi<|aa [(0,17),(1,18),(3,24),(5,48)] I<|ag (ho μ40) I I<|ag (ho μ56) I I<|ag (ho μ60) I I<|aQ I I (aU I (hc:=show(2:Int)*(i:Int)=((2*i:Nat):Int) by omega) (hn:=by unfold In64;omega)) I (ho μ63) I I ab
 have μ65:M 11 0 0 [6,9] 0:=hi<|aa [(0,1),(1,2),(3,8),(4,16)] I<|ag (ho μ41) I I<|ag (ho μ57) I I<|ag (ho μ61) I I<|ag (ho μ64) I I ab
 exact μ65
open Go.Shelf eX
attribute [local go_sem] Oper.semAt_some
def eh(k x:Int):List PV:=[num k,num x]
def dX(k x:Int):PV:=.agg (eh k x)
instance (k x:Int):aI (eh k x):=by unfold eh;infer_instance
instance (k x:Int):IsPure (dX k x):=by unfold dX;infer_instance
def ek(T:ah)(k x:Int):Bool:=if k=1 then decide (0≤x)&&decide (x<(T.ae.length:Int)) else if k=2 then bH T x else if k=3 then decide (1≤x)&&decide (x≤64) else false
theorem pH(T:ah)(k x:Int):Can Tryz.prog 99 [aZ T,dX k x] (· =flag (ek T k x)):=by
 obtain⟨q1,h1⟩:∃q,decide (0≤x)=q:=⟨_,rfl⟩
 obtain⟨q2,h2⟩:∃q,decide (x<(T.ae.length:Int))=q:=⟨_,rfl⟩
 obtain⟨q3,h3⟩:∃q,decide (1≤x)=q:=⟨_,rfl⟩
 obtain⟨q4,h4⟩:∃q,decide (x≤64)=q:=⟨_,rfl⟩
 have hB:ek T k x=if k=1 then(q1&&q2) else if k=2 then bH T x else if k=3 then(q3&&q4) else false:=by unfold ek;rw[h1,h2,h3,h4]
 rw[hB]
 refine aT Tryz.func99 I Tryz.ntmps99 I<|af (.a 3 I<|.k [2,3] I)<|an<|af (.a 2 I<|.k [2,3,6] I)<|ay<|af (.a 2 I<|.k [2,3,6,7] I)<|aj I (fun hk1=>?_) (fun hk1=>?_)
 ·have k1:k=1:=tt hk1
  refine bP 4 (.raw (.bool (q1&&q2))) [] I ?_ ?_
  ·refine .a 2 I<|.v (cD I (h1)) I<|.a 1 I<|?_
   cases q1
   ·exact .a 8 I<|.k [4] I
   ·exact .a 5 I<|.v (cD I (h2)) I<|.a 2 I<|.k [4] I
  exact az<|⟨_,_,aE.of I,aD.pure,by rw[if_pos k1];rfl⟩
 ·have k1:¬k=1:=ff hk1
  refine af (.a 2 I<|.k [2,3,6,20] I)<|aj I (fun hk2=>?_) (fun hk2=>?_)
  ·have k2:k=2:=tt hk2
   exact af (.a 3 I<|.c rfl (dy T x) I<|.a 1 I<|.k [4] I)<|az<|⟨_,_,aE.of I,aD.pure,by rw[if_neg k1,if_pos k2];rfl⟩
  ·have k2:¬k=2:=ff hk2
   refine af (.a 2 I<|.k [3,26] I)<|aj I (fun hk3=>?_) (fun hk3=>?_)
   ·have k3:k=3:=tt hk3
    refine bP 4 (.raw (.bool (q3&&q4))) [] I ?_ ?_
    ·refine .a 2 I<|.v (cD I (h3)) I<|.a 1 I<|?_
     cases q3
     ·exact .a 5 I<|.k [4] I
     ·exact .a 2 I<|.v (cD I (h4)) I<|.a 2 I<|.k [4] I
    exact az<|⟨_,_,aE.of I,aD.pure,by rw[if_neg k1,if_neg k2,if_pos k3];rfl⟩
   ·have k3:¬k=3:=ff hk3
    exact ak<|af (.a 1 I<|.k [4] I)<|az<|⟨_,_,aE.of I,aD.pure,by rw[if_neg k1,if_neg k2,if_neg k3];rfl⟩
set_option maxRecDepth 100000 in
theorem FH(c0 c1 c2:Value)(k x:Int)(n:Nat)(w:World):CallsIn Fence.wide n Tryz.prog 100 #[.agg #[c0,c1,c2],.agg #[.int .i64 k,.int .i64 x]] w fun e w'=>
  e= .returned (.func (.func 121) #[] #[.pointer (some ⟨w.heap.size,0,none⟩),.pointer (some ⟨w.heap.size+1,0,none⟩)])∧w'=(w.alloc (.cells #[c0,c1,c2] 25)).alloc (.cells #[.int .i64 k,.int .i64 x] 69):=by
 refine callsIn_of_wp Tryz.func100 I trivial ?_ rfl
 simp only[Tryz.ntmps100,List.size_toArray,List.length_cons,List.length_nil,Nat.reduceAdd,Nat.reduceSub,Array.replicate_succ,Array.replicate_zero,List.push_toArray,List.append_toArray,List.nil_append,List.cons_append]
 gi_wp2
 go_ret
 exact⟨rfl,rfl⟩
def H8(W:World)(b off:Nat)(L:List jt):Prop:=∀i,i<L.length→W.cell? ⟨b,off+i*7,none⟩=some (.int .i64 (cw L i).a)∧W.cell? ⟨b,off+i*7+1,none⟩=some (.int .i64 (cw L i).b)∧W.cell? ⟨b,off+i*7+2,none⟩=some (.int .i64 (cw L i).c0)∧W.cell? ⟨b,off+i*7+3,none⟩=some (.int .i64 (cw L i).c1)∧W.cell? ⟨b,off+i*7+4,none⟩=some (.int .i64 (cw L i).cap)∧W.cell? ⟨b,off+i*7+5,none⟩=some (.int .i64 (cw L i).fj)∧W.cell? ⟨b,off+i*7+6,none⟩=some (.int .i64 (cw L i).wE)
set_option maxRecDepth 100000 in
theorem BF(n l Bt Bc cap:Nat)(ad:Option Addr)(J:List (eX.Ix 0)→World→Prop)(W:World)(hBt:W.cell? ⟨Bt,2,none⟩=some (.slice ad 0 cap))(h0:J [] W):
  CallsIn Fence.wide n Tryz.prog 121 #[.func (.yield l) #[] #[],.pointer (some ⟨Bt,0,none⟩),.pointer (some ⟨Bc,0,none⟩)] W fun e W'=>(∃v,e= .returned v)∧J [] W':=by
 refine callsIn_of_wp Tryz.func121 I trivial ?_ rfl
 simp only[Tryz.ntmps121,List.size_toArray,List.length_cons,List.length_nil,Nat.reduceAdd,Nat.reduceSub,Array.replicate_succ,Array.replicate_zero,List.push_toArray,List.append_toArray,List.nil_append,List.cons_append]
 gi_wp2
 gi_loopw [10] (fun i wr=>i= .int .i64 0∧J [] wr) (fun _ _=>0)
 case atStart=>exact⟨rfl,h0⟩
 case round=>
  obtain⟨rfl,hJs⟩:=hrel
  gi_wp2
  go_end0
  exact⟨⟨_,rfl⟩,hJs⟩
def Kl(n₁ G:Nat)(W:World)(v:Value)(L:List jt):Prop:=(∃ad cap,v= .slice ad 0 cap∧L=[])∨∃b off cap,v= .slice (some ⟨b,off,none⟩) L.length cap∧b<n₁∧b≠G∧H8 W b off L
theorem wz(T:ah)(k x:Int)(hk:k=1∨k=2∨k=3)(hl:T.ae.length≤1000)(n Bt Bc G:Nat)(hn:1≤n)(v:Value)(w:World)(hBtl:Bt<w.heap.size)(hBcl:Bc<w.heap.size)(hBcG:Bc≠G)
  (hBt:w.cell? ⟨Bt,2,none⟩=some v) (hBk:w.cell? ⟨Bc,0,none⟩=some (.int .i64 k)) (hBx:w.cell? ⟨Bc,1,none⟩=some (.int .i64 x)) (hv:Kl w.heap.size G w v T.ae):
  SeqStopsK Fence.wide n Tryz.prog 121 #[.pointer (some ⟨Bt,0,none⟩),.pointer (some ⟨Bc,0,none⟩)] (fun i:eX.Ix T.ae.length=> #[Value.int .i64 (i.1:Int)]) (Kp G w.heap.size) (fun ys=>ys=kG (dj k x T.ae) T.ae.length T.ae.length) (fun _=>True) T.ae.length w:=fun l J Jx W hW hA _ hY h0=>by
 have kt:=(hW.cell (p:=⟨Bt,2,none⟩) hBtl).trans hBt
 have kk:=(hW.cell (p:=⟨Bc,0,none⟩) hBcl).trans hBk
 have kx:=(hW.cell (p:=⟨Bc,1,none⟩) hBcl).trans hBx
 rcases hv with⟨ad,cap,rfl,hL⟩|⟨b,off,cap,rfl,hb,hbG,hc⟩
 ·generalize T.ae=L at*
  subst hL
  exact(BF n l Bt Bc cap ad J W kt h0).mono fun e W' h=>⟨h.1,.inl ⟨_,rfl,h.2⟩⟩
 ·have hc2:H8 W b off T.ae:=fun i hi=>by
   obtain⟨a0,a1,a2,a3,a4,a5,a6⟩:=hc i hi
   exact⟨(hW.cell (p:=⟨b,_,none⟩) hb).trans a0,(hW.cell (p:=⟨b,_,none⟩) hb).trans a1,(hW.cell (p:=⟨b,_,none⟩) hb).trans a2,(hW.cell (p:=⟨b,_,none⟩) hb).trans a3,(hW.cell (p:=⟨b,_,none⟩) hb).trans a4,(hW.cell (p:=⟨b,_,none⟩) hb).trans a5,(hW.cell (p:=⟨b,_,none⟩) hb).trans a6⟩
  have fin:∀ {e:Ending} {W':World},(∃v,e= .returned v)∧((∃ys,ys=kG (dj k x T.ae) T.ae.length T.ae.length∧J ys W')∨(∃pre,Jx pre W'))→(∃v,e= .returned v)∧((∃xs,xs=kG (dj k x T.ae) T.ae.length T.ae.length∧J xs W')∨(∃pre,True∧Jx pre W')):=fun h=>⟨h.1,h.2.imp id fun⟨pre,h⟩=>⟨pre,trivial,h⟩⟩
  rcases hk with rfl|rfl|rfl
  ·exact(BD Fence.wide n trivial rfl hn l Bt Bc G w.heap.size b off cap T.ae x hl hb hbG hBcl hBcG J Jx hY W kt kk kx hc2 hW.size hA h0).mono fun e W' h=>fin h
  ·exact(CR Fence.wide n trivial rfl hn l Bt Bc G w.heap.size b off cap T.ae x hl hb hbG hBcl hBcG J Jx hY W kt kk kx hc2 hW.size hA h0).mono fun e W' h=>fin h
  ·exact(Bp Fence.wide n trivial rfl hn l Bt Bc G w.heap.size b off cap T.ae x hl hb hbG hBcl hBcG J Jx hY W kt kk kx hc2 hW.size hA h0).mono fun e W' h=>fin h
theorem tZ{E:Env}{w:World}:∀ {cs:List Value} {M:List Bool},aV E w cs (bb M)→cs=M.map Value.bool
 | [],[],_=>rfl
 | [],b::M,h=>by have:=h.1;simp[bb]at this
 |c::cs,[],h=>by have:=h.1;simp[bb]at this
 |c::cs,b::M,h=>by
  have h0:=eF (h.2 0 c (flag b) I I)
  have h1:aV E w cs (bb M):=⟨by have:=h.1;simpa[bb]using this,fun i x u k1 k2=>h.2 (i+1) x u (by simpa using k1) (by simpa[bb]using k2)⟩
  rw[tZ h1,h0]
  rfl
theorem po{E:Env}{w:World}:∀(M:List Bool),aV E w (M.map Value.bool) (bb M)
 | []=>aV.nil _ _
 |b::M=>aV.cons (.raw _) (po M)
def C5{N:Nat}(n:Nat)(l:List (eX.Ix N)):List Bool:=l.foldl (fun M i=>(M.set (2*i.1) true).set (2*i.1+1) true) (List.replicate n false)
theorem wA{N n:Nat}(l:List (eX.Ix N))(i:eX.Ix N):C5 n (l++[i])=((C5 n l).set (2*i.1) true).set (2*i.1+1) true:=by unfold C5;rw[List.foldl_append];rfl
theorem vc{N n:Nat}(l:List (eX.Ix N)):(C5 n l).length=n:=by
 unfold C5
 suffices h:∀M:List Bool,(l.foldl (fun M (i:eX.Ix N)=>(M.set (2*i.1) true).set (2*i.1+1) true) M).length=M.length by rw[h];simp
 induction l with
 |nil=>intro M;rfl
 |cons a l ih=>intro M;rw[List.foldl_cons,ih];simp
def cA(T:ah)(k x:Int):List Bool:=(List.range (2*T.ae.length)).map fun a=>dj k x T.ae (a / 2)
theorem yo(p:Nat→Bool)(N:Nat):∀k,k≤N→∀a,a<2*N→(C5 (2*N) (kG p N k))[a]? =some (decide (a / 2<k)&&p (a / 2))
 |0,_,a,ha=>by
  show(List.replicate (2*N) false)[a]? =_
  rw[List.getElem?_replicate,if_pos ha]
  simp
 |k+1,hk,a,ha=>by
  have ih:=yo p N k (by omega) a ha
  have hl:=vc (n:=2*N) (kG p N k)
  cases hp:p k with
  |false=>
   rw[vH hp,ih]
   by_cases e:a / 2=k
   ·rw[e,hp];simp
   ·rw[show decide (a / 2<k+1)=decide (a / 2<k) from decide_eq_decide.2 (by omega)]
  |true=>
   rw[oO hp (by omega),wA]
   simp only
   rw[List.getElem?_set]
   by_cases e1:2*k+1=a
   ·rw[if_pos e1,if_pos (by simp;omega),show a / 2=k by omega,hp]
    simp
   ·rw[if_neg e1,List.getElem?_set]
    by_cases e2:2*k=a
    ·rw[if_pos e2,if_pos (by omega),show a / 2=k by omega,hp]
     simp
    ·rw[if_neg e2,ih,show decide (a / 2<k+1)=decide (a / 2<k) from decide_eq_decide.2 (by omega)]
theorem HW(T:ah)(k x:Int):C5 (2*T.ae.length) (kG (dj k x T.ae) T.ae.length T.ae.length)=cA T k x:=by
 apply List.ext_getElem?
 intro a
 by_cases ha:a<2*T.ae.length
 ·rw[yo _ _ _ (Nat.le_refl _) a ha]
  unfold cA
  rw[List.getElem?_map,List.getElem?_range ha]
  have:a / 2<T.ae.length:=by omega
  simp[this]
 ·rw[List.getElem?_eq_none (by rw[vc];omega),List.getElem?_eq_none (by unfold cA;simp;omega)]
structure lM (base n B:Nat) (v:Value) (Mm:Nat→Prop) (M:List Bool) (W:World):Prop where
 bl:base≤W.heap.size
 row:W.ownsRow base 4 1 v n (M.map Value.bool)
 box:W.heap[B]? =some (.cells #[v] 22 (0,0))
 gl:iC Mm W
theorem wF{W W':World}{base e n:Nat}{v:Value}{xs:List Value}(h:W.ownsRow base e 1 v n xs)(hs:∀(g:Nat) (o:Array Value),W.heap[g]? =some (Obj.cells o e (0,0))→W'.heap[g]? =W.heap[g]?):W'.ownsRow base e 1 v n xs:=by
 refine⟨h.1,h.2.imp id ?_⟩
 rintro⟨g,cap,cur,h1,h2,h3,h4⟩
 exact⟨g,cap,cur,h1,h2,(hs g cur h3).trans h3,h4⟩
theorem lM.same{base n B:Nat}{v:Value}{Mm:Nat→Prop}{M:List Bool}{W W':World}(h:lM base n B v Mm M W)(hz:W.heap.size≤W'.heap.size)(hs:∀(b:Nat) (cs:Array Value) (t:TypeId) (fz:Nat×Nat),W.heap[b]? =some (Obj.cells cs t fz)→W'.heap[b]? =W.heap[b]?):lM base n B v Mm M W':=
 ⟨Nat.le_trans h.bl hz,wF h.row (fun g o hg=>hs g o _ _ hg),(hs B _ _ _ h.box).trans h.box,fun g cs hg=>by
  obtain⟨h1,t,fz,h2⟩:=h.gl g cs hg
  exact⟨h1,t,fz,(hs g _ _ _ h2).trans h2⟩⟩
theorem lM.grown{base n B:Nat}{v:Value}{Mm:Nat→Prop}{M:List Bool}{W W':World}{row:Option Nat}(h:lM base n B v Mm M W)(hg:W.grownBy W' row)(hr:∀r,row=some r→∃o:Obj,W.heap[r]? =some o∧o.isCells=false):lM base n B v Mm M W':=
 h.same hg.size fun b cs t fz hb=>hg.block b (Array.getElem?_eq_some_iff.1 hb).1 fun e=>by
  obtain⟨o,h1,h2⟩:=hr b e.symm
  rw[hb]at h1
  cases h1
  cases h2
theorem lM.sat{base n B:Nat}{E:Env}{M:List Bool}{W W0:World}{bi:cK}{s0:Option cK}(hS:Sat (fun _=>False) base [some bi,s0] E W0)(hs0:s0=some (.cells 22 [.own 0]))(hbi:∃e s m ys,bi= .row e s m ys)(hB:E.at_ 1= .pointer (some ⟨B,0,none⟩))(hBb:base≤B)(hone:(E.at_ 0).oneCell'=true)(h:lM base n B (E.at_ 0) E.M M W):Sat (fun _=>False) base [some (.row 4 1 n (bb M)),some (.cells 22 [.own 0])] E W:=by
 subst hs0
 have hL:E.L=2:=hS.len
 have D9:∀(i:Nat) blk,[some (cK.row 4 1 n (bb M)),some (.cells 22 [.own 0])][i]? =some (some blk)→∃blk',[some bi,some (cK.cells 22 [.own 0])][i]? =some (some blk'):=fun i blk h=>by
  match i,h with
  |0,_=>exact⟨_,rfl⟩
  |1,_=>exact⟨_,rfl⟩
  |_+2,h=>simp at h
 have new:∀(i:Nat) blk,[some bi,some (cK.cells 22 [.own 0])][i]? =some (some blk)→∃blk',[some (cK.row 4 1 n (bb M)),some (.cells 22 [.own 0])][i]? =some (some blk'):=fun i blk h=>by
  match i,h with
  |0,_=>exact⟨_,rfl⟩
  |1,_=>exact⟨_,rfl⟩
  |_+2,h=>simp at h
 refine⟨h.bl,fun b hb=>hb.elim,hL,fun b=>?_,fun i blk hi=>?_,fun i j bi' bj b h1 h2 h3 h4=>?_,h.gl⟩
 ·rw[hS.mm b]
  constructor
  ·rintro(h|⟨i,blk,h1,h2⟩)
   ·exact .inl h
   ·obtain⟨blk',h3⟩:=new i blk h1;exact .inr ⟨i,blk',h3,h2⟩
  ·rintro(h|⟨i,blk,h1,h2⟩)
   ·exact .inl h
   ·obtain⟨blk',h3⟩:=D9 i blk h1;exact .inr ⟨i,blk',h3,h2⟩
 ·match i,hi with
  |0,hi=>cases hi;exact⟨_,h.row,po M⟩
  |1,hi=>cases hi;exact⟨B,_,hB,hBb,h.box,aV.cons (.own 0 (by omega) _ rfl hone) (aV.nil _ _)⟩
  |_+2,hi=>simp at hi
 ·obtain⟨b1,e1⟩:=D9 i bi' h1
  obtain⟨b2,e2⟩:=D9 j bj h2
  exact hS.inj i j b1 b2 b e1 e2 h3 h4
theorem lM.of{base n B:Nat}{E:Env}{M:List Bool}{W:World}(hS:Sat (fun _=>False) base [some (.row 4 1 n (bb M)),some (.cells 22 [.own 0])] E W)(hB:E.at_ 1= .pointer (some ⟨B,0,none⟩)):lM base n B (E.at_ 0) E.M M W∧(E.at_ 0).oneCell'=true:=by
 obtain⟨cs,h1,h2⟩:=hS.blk 0 _ rfl
 rw[tZ h2]at h1
 obtain⟨b,cs1,k1,k2,k3,k4⟩:=hS.blk 1 _ rfl
 have hbB:b=B:=by rw[hB]at k1;cases k1;rfl
 subst hbB
 obtain⟨cl⟩:=cs1
 match cl,k4 with
 | [],k4=>have:=k4.1;simp at this
 |_::_::_,k4=>have:=k4.1;simp at this
 | [u],k4=>
  have hu:=k4.2 0 u _ rfl rfl
  cases hu with
  |own _ _ _ hu ho=>
   subst hu
   exact⟨⟨hS.bl,h1,k3,hS.gl⟩,ho⟩
theorem GH(w:World)(a b:Value)(t:TypeId):(w.alloc (.cells #[a,b] t)).cell? ⟨w.heap.size,0,none⟩=some a∧(w.alloc (.cells #[a,b] t)).cell? ⟨w.heap.size,1,none⟩=some b:=by
 unfold World.cell?
 simp only[World.alloc_heap_new]
 exact⟨rfl,rfl⟩
theorem Ll(w:World)(a b c:Value)(t:TypeId):(w.alloc (.cells #[a,b,c] t)).cell? ⟨w.heap.size,2,none⟩=some c:=by
 unfold World.cell?
 simp only[World.alloc_heap_new]
 rfl
attribute [local go_sem] Oper.semAt_some
def DQ(K:St→Prop):Exit→St→Prop
 | .normal,s=>K s
 |_,_=>False
theorem piece{P:Program}{N L n:Nat}{c:Code}{st:St}{K:St→Prop}{F:Nat→Prop}{base:Nat}{E₀ E:Env}{w₀ w:World}{a:Act}{Q:Exit→Act→World→Prop}(hc:px base L E₀ w₀ E w)(hs:cY F base N st E a w)(h:W P N L c st (DQ K))(hq:∀s E' a' w',K s→cY F base N s E' a' w'→cp E₀ w₀ E' w'→Below base w₀ w'→Q .normal a' w'):c.wpIn Fence.wide n P Q a w:=
 wpIn_wide.2 (wp_mono (h F base E₀ w₀ E a w hc hs) fun e a' w' ⟨s,E',k1,k2,k3,k4⟩=>by
  cases e<;>first|exact hq s E' a' w' k1 k2 k3 k4|exact k1.elim)
def uB:Op→Bool
 | .defer _=>true
 |_=>false
theorem DB{ops:Array Oper}(h:(ops.all fun o=> !uB o.op)=true)(i:Nat)(o:Oper)(ho:ops[i]? =some o)(c:Call):o.op≠ .defer c:=fun e=>by
 have:=Array.all_eq_true'.1 h o (Array.mem_of_getElem? ho)
 rw[e]at this
 cases this
theorem GV{E:Env}{w w':World}{v:Value}{L:List jt}{n₁ G:Nat}(h:cu E w v (.slice L.length (ct L)))(hE:Ext w w')(hG:G=n₁∨E.M G)(hlt:∀b,E.M b→b<w.heap.size)(hn:w'.heap.size=n₁:=by rfl):Kl n₁ G w' v L:=by
 generalize hn1:L.length=m at h
 generalize hxs:ct L=xs at h
 cases h with
 |cc=>exact .inl ⟨none,0,rfl,List.eq_nil_of_length_eq_zero hn1⟩
 |empty a c _=>exact .inl ⟨some a,c,rfl,List.eq_nil_of_length_eq_zero hn1⟩
 |slice b off _ c cs _ h0 h1 h2 hb hM hc hl hr=>
  subst hn1
  subst hxs
  have hz:=hE.size
  refine .inr ⟨b,off,c,rfl,by omega,fun e=>?_,fun i hi=>?_⟩
  ·subst e
   rcases hG with h|h
   ·omega
   ·exact hM h
  ·have key:∀j v,(iQ (cw L i))[j]? =some (.raw v)→j<7→w'.cell? ⟨b,off+(i*7+j),none⟩=some v:=fun j v hj h7=>by
    have e:=fr L i j hi h7
    rw[hj]at e
    have hlt:i*7+j<cs.length:=by rw[hl];exact(List.getElem?_eq_some_iff.1 e).1
    have hcs:cs[i*7+j]? =some cs[i*7+j]:=List.getElem?_eq_getElem hlt
    have:=eF (hr _ _ _ hcs e)
    rw[this]at hcs
    exact hE.cell (hc _ _ hcs)
   have k0:=key 0 _ rfl (by omega)
   have k1:=key 1 _ rfl (by omega)
   have k2:=key 2 _ rfl (by omega)
   have k3:=key 3 _ rfl (by omega)
   have k4:=key 4 _ rfl (by omega)
   have k5:=key 5 _ rfl (by omega)
   have k6:=key 6 _ rfl (by omega)
   simp only[←Nat.add_assoc,Nat.add_zero]at k0 k1 k2 k3 k4 k5 k6
   exact⟨k0,k1,k2,k3,k4,k5,k6⟩
theorem Dc{P:Program}{F:Fence}{n:Nat}{c:Code}{Q:Exit→Act→World→Prop}{a:Act}{w:World}(Fin:Act→World→Prop)(h1:c.wpIn F n P (Exit.then Fin Q) a w)(h2:∀a' w',Fin a' w'→c.wpIn F n P (Exit.then (fun _ _=>False) Q) a' w'):(Code.loop c).wpIn F n P Q a w:=by
 have mono:∀ {K K':Act→World→Prop} {a:Act} {w:World},(∀a w,K a w→K' a w)→c.wpIn F n P (Exit.then K Q) a w→c.wpIn F n P (Exit.then K' Q) a w:=fun hk h b k cs hro hb hr=>by
  obtain⟨e,a',w',q,r⟩:=h b k cs hro hb hr
  exact⟨e,a',w',by cases e<;>first|exact hk _ _ q|exact q,r⟩
 classical
 by_cases hf:Fin a w
 ·exact wpIn_loop Fin (fun _ _=>0) hf (fun a w h=>mono (fun _ _ h=>h.elim) (h2 a w h))
 ·refine wpIn_loop (fun a' w'=>(a'=a∧w'=w)∨Fin a' w') (fun a' w'=>if Fin a' w' then 0 else 1) (.inl ⟨rfl,rfl⟩) ?_
  rintro a' w' (⟨rfl,rfl⟩|h)
  ·exact mono (fun a'' w'' h=>⟨.inr h,by rw[if_pos h,if_neg hf];exact Nat.one_pos⟩) h1
  ·exact mono (fun _ _ h=>h.elim) (h2 a' w' h)
theorem bZ{α:Type}{l:List α}{n:Nat}(h:l.length=n+1):∃a t,l=a::t∧t.length=n:=by
 cases l with
 |nil=>simp at h
 |cons a t=>exact⟨a,t,rfl,by simpa using h⟩
set_option maxRecDepth 100000 in
set_option maxHeartbeats 4000000 in
theorem BO(T:ah)(k x:Int)(hv:au T=true)(hc:ek T k x=true)(w:World)(vs:Array Value)(hR:aV (EF fun _=>False) w vs.toList [aZ T,.slice 1 (eh k x)])(gl:iC (fun _=>False) w):
  Calls Tryz.prog 75 vs w fun e w'=>∃v,e= .returned (.tuple #[v,.int .i64 0])∧Ext w w'∧w'.ownsRow w.heap.size 4 1 v (2*T.ae.length) ((cA T k x).map Value.bool):=by
 have hll:=bX hv
 have hS:=Sat.start (fun _=>False) w (fun _ h=>h.elim) gl
 refine(callsIn_wide (n:=4)).1 ?_
 refine callsIn_of_wp_marks Tryz.func75 I trivial ?_ rfl
 have hs0:=iW (N:=41) hS hR (by have:=hR.1;simp at this;omega)
 have hc0:px w.heap.size 0 (EF fun _=>False) w (EF fun _=>False) w:=⟨rfl,cp.refl _ _,Below.refl _ _⟩
 refine wpIn_seq (piece (K:=fun s=>s=⟨[(1,.slice 1 (eh k x)),(2,.bg (bI T) 0)],[]⟩) hc0 hs0 ?_ ?_)
 ·skip
  refine aF (.a 3 I<|.k [1,2] I) ?_
  exact rfl
 rintro _ E1 a1 w1 rfl hs1 g1 b1
 refine wpIn_seq (piece (K:=fun s=>s=⟨[(1,.slice 1 (eh k x)),(2,.bg (bI T) 0)],[]⟩) ⟨rfl,g1,b1⟩ hs1 ?_ ?_)
 ·skip
  refine af (.a 1 I<|.c rfl (eo T) I<|.a 1 I<|.k [1,2,12] I) ?_
  rw[hv]
  refine aj I (fun hc=>?_) (fun hc=>?_)
  ·cases hc
  ·refine eY [1,2] I (ak ?_)
   exact rfl
 rintro _ E2 a2 w2 rfl hs2 g2 b2
 refine wpIn_seq (piece (K:=fun s=>s=⟨[(1,.slice 1 (eh k x)),(2,.bg (bI T) 0),(6,.ptr 1 0)],[some (.row 4 1 (2*T.ae.length) (bb (List.replicate (2*T.ae.length) false))),some (.cells 22 [.own 0])]⟩) ⟨rfl,g2,b2⟩ hs2 ?_ ?_)
 ·skip
  refine bx<|ax 1 I<|fC I (dY T (by omega)) I<|cg (da I (bG.rk.get I) I I (show 2*(T.ae.length:Int)=((2*T.ae.length:Nat):Int) by omega) (show 2*(T.ae.length:Int)=((2*T.ae.length:Nat):Int) by omega) ⟨by unfold maxLen;omega,by omega⟩) I<|ax 2 I<|aH [1,2,6] I ?_
  rw[←jN]
  rfl
 rintro _ E3 a3 w3 rfl hs3 g3 b3
 obtain⟨n,hn⟩:∃n,2*T.ae.length=n:=⟨_,rfl⟩
 rw[hn]at hs3
 obtain⟨B,cs1,hB,hBb,hBh,hBr⟩:=hs3.sat.blk 1 _ rfl
 obtain⟨cs0,hrow,hcs0⟩:=hs3.sat.blk 0 _ rfl
 have t1:=hs3.tmp 1 _ rfl
 have t2:=hs3.tmp 2 _ rfl
 have t6:=hs3.tmp 6 _ rfl
 have hsz:=hs3.size
 have hdf:=hs3.jL
 obtain⟨arr,ds⟩:=a3
 simp only at hdf hsz
 subst hdf
 obtain⟨al⟩:=arr
 replace hsz:al.length=41:=by simpa using hsz
 obtain⟨x0,z0,e0,k0⟩:=bZ (n:=40) hsz
 obtain⟨x1,z1,e1,k1⟩:=bZ (n:=39) k0
 obtain⟨x2,z2,e2,k2⟩:=bZ (n:=38) k1
 obtain⟨x3,z3,e3,k3⟩:=bZ (n:=37) k2
 obtain⟨x4,z4,e4,k4⟩:=bZ (n:=36) k3
 obtain⟨x5,z5,e5,k5⟩:=bZ (n:=35) k4
 obtain⟨x6,z6,e6,k6⟩:=bZ (n:=34) k5
 obtain⟨x7,z7,e7,k7⟩:=bZ (n:=33) k6
 obtain⟨x8,z8,e8,k8⟩:=bZ (n:=32) k7
 obtain⟨x9,z9,e9,k9⟩:=bZ (n:=31) k8
 obtain⟨x10,z10,e10,k10⟩:=bZ (n:=30) k9
 obtain⟨x11,z11,e11,k11⟩:=bZ (n:=29) k10
 obtain⟨x12,z12,e12,k12⟩:=bZ (n:=28) k11
 obtain⟨x13,z13,e13,k13⟩:=bZ (n:=27) k12
 obtain⟨x14,z14,e14,k14⟩:=bZ (n:=26) k13
 obtain⟨x15,z15,e15,k15⟩:=bZ (n:=25) k14
 obtain⟨x16,z16,e16,k16⟩:=bZ (n:=24) k15
 obtain⟨x17,z17,e17,k17⟩:=bZ (n:=23) k16
 obtain⟨x18,z18,e18,k18⟩:=bZ (n:=22) k17
 obtain⟨x19,z19,e19,k19⟩:=bZ (n:=21) k18
 obtain⟨x20,z20,e20,k20⟩:=bZ (n:=20) k19
 obtain⟨x21,z21,e21,k21⟩:=bZ (n:=19) k20
 obtain⟨x22,z22,e22,k22⟩:=bZ (n:=18) k21
 obtain⟨x23,z23,e23,k23⟩:=bZ (n:=17) k22
 obtain⟨x24,z24,e24,k24⟩:=bZ (n:=16) k23
 obtain⟨x25,z25,e25,k25⟩:=bZ (n:=15) k24
 obtain⟨x26,z26,e26,k26⟩:=bZ (n:=14) k25
 obtain⟨x27,z27,e27,k27⟩:=bZ (n:=13) k26
 obtain⟨x28,z28,e28,k28⟩:=bZ (n:=12) k27
 obtain⟨x29,z29,e29,k29⟩:=bZ (n:=11) k28
 obtain⟨x30,z30,e30,k30⟩:=bZ (n:=10) k29
 obtain⟨x31,z31,e31,k31⟩:=bZ (n:=9) k30
 obtain⟨x32,z32,e32,k32⟩:=bZ (n:=8) k31
 obtain⟨x33,z33,e33,k33⟩:=bZ (n:=7) k32
 obtain⟨x34,z34,e34,k34⟩:=bZ (n:=6) k33
 obtain⟨x35,z35,e35,k35⟩:=bZ (n:=5) k34
 obtain⟨x36,z36,e36,k36⟩:=bZ (n:=4) k35
 obtain⟨x37,z37,e37,k37⟩:=bZ (n:=3) k36
 obtain⟨x38,z38,e38,k38⟩:=bZ (n:=2) k37
 obtain⟨x39,z39,e39,k39⟩:=bZ (n:=1) k38
 obtain⟨x40,z40,e40,k40⟩:=bZ (n:=0) k39
 have e41:=List.eq_nil_of_length_eq_zero k40
 subst e41
 subst e40
 subst e39
 subst e38
 subst e37
 subst e36
 subst e35
 subst e34
 subst e33
 subst e32
 subst e31
 subst e30
 subst e29
 subst e28
 subst e27
 subst e26
 subst e25
 subst e24
 subst e23
 subst e22
 subst e21
 subst e20
 subst e19
 subst e18
 subst e17
 subst e16
 subst e15
 subst e14
 subst e13
 subst e12
 subst e11
 subst e10
 subst e9
 subst e8
 subst e7
 subst e6
 subst e5
 subst e4
 subst e3
 subst e2
 subst e1
 subst e0
 clear k0 k1 k2 k3 k4 k5 k6 k7 k8 k9 k10 k11 k12 k13 k14 k15 k16 k17 k18 k19 k20 k21 k22 k23 k24 k25 k26 k27 k28 k29 k30 k31 k32 k33 k34 k35 k36 k37 k38 k39 k40 hsz
 skip
 have e1:Act.eval ⟨⟨[x0,x1,x2,x3,x4,x5,x6,x7,x8,x9,x10,x11,x12,x13,x14,x15,x16,x17,x18,x19,x20,x21,x22,x23,x24,x25,x26,x27,x28,x29,x30,x31,x32,x33,x34,x35,x36,x37,x38,x39,x40]⟩,[]⟩ (.tmp 1)=x1:=rfl
 have e2:Act.eval ⟨⟨[x0,x1,x2,x3,x4,x5,x6,x7,x8,x9,x10,x11,x12,x13,x14,x15,x16,x17,x18,x19,x20,x21,x22,x23,x24,x25,x26,x27,x28,x29,x30,x31,x32,x33,x34,x35,x36,x37,x38,x39,x40]⟩,[]⟩ (.tmp 2)=x2:=rfl
 have e6:Act.eval ⟨⟨[x0,x1,x2,x3,x4,x5,x6,x7,x8,x9,x10,x11,x12,x13,x14,x15,x16,x17,x18,x19,x20,x21,x22,x23,x24,x25,x26,x27,x28,x29,x30,x31,x32,x33,x34,x35,x36,x37,x38,x39,x40]⟩,[]⟩ (.tmp 6)=x6:=rfl
 rw[e1]at t1
 rw[e2]at t2
 rw[e6]at t6
 clear e1 e2 e6
 cases t1 with
 |slice lb lo _ lcap lcs _ _ hl1 hl2 hlb hlM hlc hll' hlr=>
  match lcs,hll',hlc,hlr with
  | [u0,u1],_,hlc,hlr=>
   have hu0:=eF (hlr 0 u0 _ rfl rfl)
   have hu1:=eF (hlr 1 u1 _ rfl rfl)
   subst hu0
   subst hu1
   have l0:=hlc 0 _ rfl
   have l1:=hlc 1 _ rfl
   clear hlc hlr
   cases t2 with
   |bg bt bo off tcs _ htb htM htc htl htr=>
    match tcs,htl,htc,htr with
    | [c0,c1,c2],_,htc,htr=>
     have m0:=htc 0 _ rfl
     have m1:=htc 1 _ rfl
     have m2:=htc 2 _ rfl
     have hT3:aV E3 w3 [c0,c1,c2] (bI T):=⟨rfl,htr⟩
     cases t6 with
     |ptr _ _ B' _ h6=>
      have hBB:B'=B:=by
       rcases h6 with h6|⟨n',c',h6⟩
       ·rw[hB]at h6;cases h6;rfl
       ·rw[hB]at h6;cases h6
      subst hBB
      clear h6
      simp only[Nat.add_zero]at l0 l1 m0 m1 m2 ⊢
      have hcw:=pH T k x
      rw[hc]at hcw
      have E34:Ext w3 (w3.alloc (.cells #[.int .i64 k,.int .i64 x] 69)):=(Ext.refl w3).alloc _
      have hwi:=(callsIn_wide (n:=3)).2 (hcw (fun _=>False) (w3.alloc (.cells #[.int .i64 k,.int .i64 x] 69)) #[.agg #[c0,c1,c2],.agg #[.int .i64 k,.int .i64 x]] (fun _ h=>h.elim) ((hs3.sat.gl.sub (fun _ h=>h.elim)).goes (E:=EF fun _=>False) (E':=EF fun _=>False) (.ext E34)) (aV.cons (.agg _ _ rfl (fun j z u k1 k2=>((hT3.pure (fun _ h=>h.elim):aV (EF fun _=>False) w3 [c0,c1,c2] (bI T)).2 j z u (by simpa using k1) k2).goes (.ext E34))) (aV.cons (.agg _ _ rfl (fun j z u k1 k2=>(aV.cons (.raw _) (aV.cons (.raw _) (aV.nil _ _)):aV (EF fun _=>False) _ [.int .i64 k,.int .i64 x] (eh k x)).2 j z u (by simpa using k1) k2)) (aV.nil _ _))))
      gi_wp2
      refine Dc (fun a' w'=>∃(y0 y1 y2 y3 y4 y5 y7 y8 y9 y10 y11 y12 y13 y14 y15 y16 y19 y20 y21 y22 y23 y24 y25 y26 y27 y28 y29 y30 y31 y32 y33 y34 y35 y36 y37 y38 y39 y40:Value) (D:Nat),a'=⟨#[y0,y1,y2,y3,y4,y5,Value.pointer (some ⟨B',0,none⟩),y7,y8,y9,y10,y11,y12,y13,y14,y15,y16,Value.int .i64 1,Value.int .i64 1,y19,y20,y21,y22,y23,y24,y25,y26,y27,y28,y29,y30,y31,y32,y33,y34,y35,y36,y37,y38,y39,y40],[⟨.collected D,#[]⟩]⟩∧lM w.heap.size n B' (E3.at_ 0) E3.M (cA T k x) w'∧Below w.heap.size w w'∧w.heap.size≤D∧w'.heap[D]? =some (.deferred (some []))) ?_ ?_
      ·gi_wp2
       refine⟨trivial,hwi.mono ?_⟩
       rintro e w5 ⟨v5,rfl,hE5,r,rfl,hv5⟩
       cases hv5
       have q0:w5.cell? ⟨bt,bo,none⟩=some c0:=hE5.cell (il _ m0)
       have q1:w5.cell? ⟨bt,bo+1,none⟩=some c1:=hE5.cell (il _ m1)
       have q2:w5.cell? ⟨bt,bo+2,none⟩=some c2:=hE5.cell (il _ m2)
       have q3:w5.cell? ⟨w3.heap.size,0,none⟩=some (.int .i64 k):=hE5.cell (GH w3 _ _ _).1
       have q4:w5.cell? ⟨w3.heap.size,1,none⟩=some (.int .i64 x):=hE5.cell (GH w3 _ _ _).2
       gi_wp2
       refine⟨trivial,(FH c0 c1 c2 k x 3 w5).mono ?_⟩
       rintro e w6 ⟨rfl,rfl⟩
       gi_wp2
       have E35:Ext w3 w5:=E34.trans hE5
       have hz5:=E35.size
       have E56:Ext w5 ((w5.alloc (.cells #[c0,c1,c2] 25)).alloc (.cells #[.int .i64 k,.int .i64 x] 69)):=((Ext.refl w5).alloc _).alloc _
       have hz6:((w5.alloc (.cells #[c0,c1,c2] 25)).alloc (.cells #[.int .i64 k,.int .i64 x] 69)).heap.size=w5.heap.size+2:=by simp
       have p2:((w5.alloc (.cells #[c0,c1,c2] 25)).alloc (.cells #[.int .i64 k,.int .i64 x] 69)).cell? ⟨w5.heap.size,2,none⟩=some c2:=il _ (Ll w5 _ _ _ _)
       have p3:((w5.alloc (.cells #[c0,c1,c2] 25)).alloc (.cells #[.int .i64 k,.int .i64 x] 69)).cell? ⟨w5.heap.size+1,0,none⟩=some (.int .i64 k):=by
        have:=(GH (w5.alloc (.cells #[c0,c1,c2] 25)) (.int .i64 k) (.int .i64 x) 69).1
        rwa [World.size_alloc]at this
       have p4:((w5.alloc (.cells #[c0,c1,c2] 25)).alloc (.cells #[.int .i64 k,.int .i64 x] 69)).cell? ⟨w5.heap.size+1,1,none⟩=some (.int .i64 x):=by
        have:=(GH (w5.alloc (.cells #[c0,c1,c2] 25)) (.int .i64 k) (.int .i64 x) 69).2
        rwa [World.size_alloc]at this
       generalize (w5.alloc (.cells #[c0,c1,c2] 25)).alloc (.cells #[.int .i64 k,.int .i64 x] 69)=w6 at*
       have E36:Ext w3 w6:=E35.trans E56
       obtain⟨hU3,hone⟩:=lM.of hs3.sat hB
       have hU6:lM w.heap.size n B' (E3.at_ 0) E3.M (List.replicate n false) w6:=hU3.same E36.size (fun b cs t fz hb=>E36.block b (Array.getElem?_eq_some_iff.1 hb).1)
       have hL3:E3.L=2:=hs3.sat.len
       obtain⟨G,hGv,hGM⟩:∃G,(∀b,aY (E3.at_ 0)=some b→b=G)∧(G=w6.heap.size∨E3.M G):=by
        cases hbo:aY (E3.at_ 0)with
        |none=>exact⟨_,fun b h=>(by cases h),.inl rfl⟩
        |some g=>exact⟨g,fun b h=>(by cases h;rfl),.inr ((hs3.sat.mm g).2 (.inr ⟨0,_,rfl,hbo⟩))⟩
       have hlk:=GV (n₁:=w6.heap.size) (hT3.2 2 c2 _ rfl rfl) E36 hGM (fun b hb=>hs3.sat.lt hb)
       have hGc:w5.heap.size+1≠G:=by
        rcases hGM with h|h
        ·omega
        ·have:=hs3.sat.lt h;omega
       have hk3:k=1∨k=2∨k=3:=by
        unfold ek at hc
        split at hc
        ·exact .inl ‹_›
        ·split at hc
         ·exact .inr (.inl ‹_›)
         ·split at hc
          ·exact .inr (.inr ‹_›)
          ·cases hc
       refine wpIn_rangeFunc_ownF (α:=eX.Ix T.ae.length) I (by omega) (gf:=121) (lb:= #[.pointer (some ⟨w5.heap.size,0,none⟩),.pointer (some ⟨w5.heap.size+1,0,none⟩)]) I trivial (enters_of Tryz.func121 (by kernel_rfl) I)
        (encs:=fun i=> #[Value.int .i64 (i.1:Int)]) (wz T k x hk3 (by omega) 3 w5.heap.size (w5.heap.size+1) G (by omega) c2 w6 (by omega) (by omega) hGc p2 p3 p4 hlk) (fun h1 h2=>h1.trans h2) (fun W l o o' hl ho _ _=>⟨(grownBy_putObj' W l o').size,fun b h1 _=>(grownBy_putObj' W l o').block b (by have:=(Array.getElem?_eq_some_iff.1 ho).1;omega) (fun e=>by cases e;omega)⟩) (Below.refl _ _) (fun _=>rfl)
        (fun l W=>lM w.heap.size n B' (E3.at_ 0) E3.M (C5 n l) W∧Kp G w6.heap.size w6 W∧Below w.heap.size w W) (fun _ _ _=>False)
        (fun s W W' row hs hg hr=>⟨hs.1.grown hg (fun r e=>(hr r e).2),⟨Nat.le_trans hs.2.1.size hg.size,fun b h1 h2=>(hg.block b (by have:=hs.2.1.size;omega) (fun e=>by have:=(hr b e.symm).1;omega)).trans (hs.2.1.block b h1 h2)⟩,hs.2.2.trans ⟨hg.os,hg.tape,hg.output,hg.size,fun b h1=>hg.block b (by have:=hs.1.bl;omega) (fun e=>by have:=(hr b e.symm).1;have:=hU6.bl;omega)⟩⟩)
        (fun _ _ _ _ _ h _ _=>h) ⟨hU6,Kp.refl _ _ _,b3.trans (Below.fB E36 hs3.sat.bl)⟩
        (fun i=>⟨#[x0,Value.slice (some ⟨lb,lo,none⟩) 1 lcap,Value.pointer (some ⟨bt,bo,none⟩),x3,x4,x5,Value.pointer (some ⟨B',0,none⟩),x7,Value.pointer (some ⟨w3.heap.size,0,none⟩),Value.int .i64 (i.1:Int),x10,x11,x12,x13,x14,x15,Value.slice (some ⟨lb,lo,none⟩) 1 lcap,Value.int .i64 1,Value.int .i64 0,Value.bool true,Value.pointer (some ⟨lb,lo,none⟩),Value.agg #[.int .i64 k,.int .i64 x],Value.agg #[c0,c1,c2],Value.agg #[.int .i64 k,.int .i64 x],Value.bool true,Value.bool false,Value.agg #[c0,c1,c2],Value.agg #[.int .i64 k,.int .i64 x],Value.func (.func 121) #[] #[.pointer (some ⟨w5.heap.size,0,none⟩),.pointer (some ⟨w5.heap.size+1,0,none⟩)],Value.int .i64 (i.1:Int),x30,x31,x32,x33,x34,x35,x36,x37,x38,x39,x40],[]⟩) ?assign ?body ?done ?stop
       case assign=>
        intro l i W K hK
        gi_wp2
        exact hK
       case body=>
        rintro l pre i W ⟨hU,hK,hb⟩ hlt
        have hMl:=vc (n:=n) pre
        have hi2:=i.2
        have hb11:=IV (C5 n pre) i.1 (by rw[hMl];omega) (by rw[hMl];omega)
        rw[hMl,←wA]at hb11
        have hUd:lM w.heap.size n B' (E3.at_ 0) E3.M (C5 n pre) {W with drawn:=W.drawn+1}:=hU.same (Nat.le_refl _) (fun _ _ _ _ _=>rfl)
        have hsat:=hUd.sat hs3.sat rfl ⟨_,_,_,_,rfl⟩ hB hBb hone
        refine wpIn_block (wpIn_region_any mixed (jI (fun j o ho c=>?_) ?_ _ _ _ _ (hb11.any (fun _=>False) w.heap.size E3 {W with drawn:=W.drawn+1} E3 _ {W with drawn:=W.drawn+1} ⟨hL3,cp.refl _ _,Below.refl _ _⟩ ⟨hsat,?_,rfl,rfl⟩ _ ?_)))
        ·exact DB (by kernel_rfl) j o ho c
        ·rintro⟨a',w',h⟩
         exact h
        ·intro k' p' hk'
         simp only[look,Bool.cond_eq_ite]at hk'
         split at hk'
         ·rename_i he
          have:=Nat.eq_of_beq_eq_true he
          subst this
          cases hk'
          exact .ptr 1 0 B' (by omega) (.inl hB)
         ·split at hk'
          ·rename_i he
           have:=Nat.eq_of_beq_eq_true he
           subst this
           cases hk'
           exact .raw _
          ·cases hk'
        ·rintro a' w' ⟨⟨t',σ'⟩,E',hσ,hs',hg',hb'⟩
         simp only at hσ
         subst hσ
         have hB'2:E'.at_ 1= .pointer (some ⟨B',0,none⟩):=(hg'.at_ 1 (by omega)).trans hB
         have hv':E'.at_ 0=E3.at_ 0:=hg'.at_ 0 (by omega)
         obtain⟨hU',_⟩:=lM.of hs'.sat hB'2
         rw[hv']at hU'
         have hMM:∀b,E3.M b→E'.M b:=fun b hb=>by
          rcases(hs3.sat.mm b).1 hb with h|⟨j,blk,h1,h2⟩
          ·exact h.elim
          ·match j,h1 with
           |0,_=>exact(hs'.sat.mm b).2 (.inr ⟨0,_,rfl,by rw[hv'];exact h2⟩)
           |1,_=>exact(hs'.sat.mm b).2 (.inr ⟨1,_,rfl,by rw[hg'.at_ 1 (by omega)];exact h2⟩)
           |_+2,h1=>simp at h1
         have hown:∀b,E3.M b→aY (E3.at_ 0)=some b∨b=B':=fun b hb=>by
          rcases(hs3.sat.mm b).1 hb with h|⟨j,blk,h1,h2⟩
          ·exact h.elim
          ·match j,h1 with
           |0,_=>exact .inl h2
           |1,_=>rw[hB]at h2;cases h2;exact .inr rfl
           |_+2,h1=>simp at h1
         have hfin:lM w.heap.size n B' (E3.at_ 0) E3.M (C5 n (pre++[i])) w':=⟨hU'.bl,hU'.row,hU'.box,hU'.gl.sub hMM⟩
         have hzW:w6.heap.size≤W.heap.size:=hK.size
         have hkp:Kp G w6.heap.size W w':=⟨hg'.size,fun b h1 h2=>by
          by_cases hm:E3.M b
          ·rcases hown b hm with h|h
           ·exact absurd (hGv b h) h2
           ·rw[h,hU'.box,hU.box]
          ·exact hg'.heap b (show b<W.heap.size by omega) hm⟩
         refine⟨⟨hg'.size,fun b o hb ho=>?_⟩,hkp,hfin,hK.trans hkp,hb.trans ⟨hb'.os,hb'.tape,hb'.output,hb'.size,hb'.block⟩⟩
         have hnm:¬E3.M b:=fun hm=>by
          rcases hown b hm with h|h
          ·rcases hU.row.2 with⟨h1,_⟩|⟨g,cap,cur,h1,_,h3,_⟩
           ·rw[h1]at h;cases h
           ·rw[h1]at h
            cases h
            rw[h3]at hb
            cases hb
            cases ho
          ·rw[h,hU.box]at hb
           cases hb
           cases ho
         rw[hg'.heap b (Array.getElem?_eq_some_iff.1 hb).1 hnm]
         exact hb
       case done=>
        rintro D ys W hD rfl ⟨hU,hK,hb⟩ hDh
        have hmk:C5 n (kG (dj k x T.ae) T.ae.length T.ae.length)=cA T k x:=by rw[←hn];exact HW T k x
        rw[hmk]at hU
        gi_wp2
        exact⟨_,_,_,_,_,_,_,_,_,_,_,_,_,_,_,_,_,_,_,_,_,_,_,_,_,_,_,_,_,_,_,_,_,_,_,_,_,_,D,rfl,hU,hb,by have:=hU6.bl;omega,hDh⟩
       case stop=>
        rintro D c pre W _ _ h _
        exact h.elim
      ·rintro a' w' ⟨y0,y1,y2,y3,y4,y5,y7,y8,y9,y10,y11,y12,y13,y14,y15,y16,y19,y20,y21,y22,y23,y24,y25,y26,y27,y28,y29,y30,y31,y32,y33,y34,y35,y36,y37,y38,y39,y40,D,rfl,hU,hb,hD,hDh⟩
       have hbx:w'.cell? ⟨B',0,none⟩=some (E3.at_ 0):=by
        unfold World.cell?
        simp only[hU.box]
        rfl
       gi_wp2
       have hput:=grownBy_putObj' w' D (.deferred none)
       have hnd:∀(g:Nat) (o:Array Value) (e:TypeId),w'.heap[g]? =some (Obj.cells o e (0,0))→(w'.putObj D (.deferred none)).heap[g]? =w'.heap[g]? :=fun g o e hg=>hput.block g (Array.getElem?_eq_some_iff.1 hg).1 (fun h=>by cases h;rw[hDh]at hg;cases hg)
       refine⟨by simp,.inl ⟨_,_,rfl,run_takeDeferred hDh,?_⟩⟩
       rw[hn]
       exact⟨_,results_tmp2 rfl _ _ _,E3.at_ 0,rfl,hb.trans ⟨hput.os,hput.tape,hput.output,hput.size,fun b h1=>hput.block b (by have:=hU.bl;omega) (fun h=>by cases h;omega)⟩,wF hU.row (fun g o hg=>hnd g o _ hg)⟩
end
section
open Go.RowKit cj Mem Net eX
theorem Can.LH{P:Program}{f:FuncId}{ps:List PV}{R:PV→bN→Prop}{S:PV→Prop}(h:aW P f ps [] R)(hR:∀r σ',R r σ'→∃q,aD σ' r q∧S q):Can P f ps S:=fun F w vs hF hG hr=>by
 refine(h F w.heap.size (EF F) w vs (Sat.start F w hF hG) hr).mono ?_
 rintro e w' ⟨v,r,σ',E',rfl,h1,h2,h3,h4,h5⟩
 obtain⟨q,k1,k2⟩:=hR r σ' h1
 exact⟨v,rfl,h4,q,k2,k1.rep h2 (fun b hb=>(h2.mm b).2 (.inl hb)) (fun b hb=>(h2.fb b hb).2) v h5⟩
theorem zO(T:ah)(k x:Int)(hv:au T=true)(hc:ek T k x=true):aW Tryz.prog 75 [aZ T,.slice 1 (eh k x)] [] (fun r σ'=>r= .tuple [.own 0,num 0]∧σ'=[some (.row 4 1 (2*T.ae.length) (bb (cA T k x)))]):=fun F base E w vs hS hR=>by
 refine(BO T k x hv hc w vs (hR.pure (fun _ h=>h.elim)) (hS.gl.sub fun _ h=>h.elim)).mono ?_
 rintro e w' ⟨v,rfl,hE,hrow⟩
 have hrow2:w'.ownsRow base 4 1 v (2*T.ae.length) ((cA T k x).map Value.bool):=⟨hrow.1,hrow.2.imp id fun⟨g,cap,cur,h1,h2,h3⟩=>⟨g,cap,cur,h1,Nat.le_trans hS.bl h2,h3⟩⟩
 have hnew:∀b,aY v=some b→w.heap.size≤b∧b<w'.heap.size:=fun b hb=>by
  rcases hrow.2 with⟨h1,_⟩|⟨g,cap,cur,h1,h2,h3,_⟩
  ·rw[h1]at hb;cases hb
  ·rw[h1]at hb
   cases hb
   exact⟨h2,(Array.getElem?_eq_some_iff.1 h3).1⟩
 have hone:v.oneCell'=true:=by
  rcases hrow.2 with⟨h1,_⟩|⟨g,cap,cur,h1,h2,h3,_⟩<;>rw[h1]<;>rfl
 have hL:E.L=0:=hS.len
 have hp:=hS.push hE (v:=v) (blk:=.row 4 1 (2*T.ae.length) (bb (cA T k x))) (fun b h=>(hnew b h).1) ⟨_,hrow2,po _⟩
 refine⟨_,_,_,E.push v,rfl,⟨rfl,rfl⟩,hp.1,hp.2,Below.fB hE hS.bl,.tuple _ _ rfl (fun i c u h1 h2=>?_)⟩
 match i,h1,h2 with
 |0,h1,h2=>
  simp at h1 h2
  subst h1
  subst h2
  exact .own 0 (by show 0<E.L+1;omega) _ (by simp[Env.push,hL]) hone
 |1,h1,h2=>
  simp at h1 h2
  subst h1
  subst h2
  exact .raw _
 |_+2,h1,h2=>simp at h2
def jG(T:ah)(k x:Int):Int:=if(au T&&ek T k x)=true then 0 else 1
def sd(e:Int)(L:List Bool):PV:=.tuple [bq (if e=0 then L else []),num e]
theorem mL(T:ah)(k x:Int):(cA T k x).length=2*T.ae.length:=by simp[cA]
theorem yU(T:ah)(k x:Int)(hno:(au T&&ek T k x)=false):Can Tryz.prog 75 [aZ T,.slice 1 (eh k x)] (· =sd 1 []):=by
 refine aT Tryz.func75 I Tryz.ntmps75 I<|af (.a 3 I<|.k [1,2] I)<|an<|af (.a 1 I<|.c rfl (eo T) I<|.a 1 I<|.k [1,2,12] I)<|aj I (fun h1=>?_) (fun h1=>?_)
 ·skip
  exact af (.a 2 I<|.k [4,5] I)<|az<|⟨_,_,aE.of I,aD.bY (ai.cons aD.cc (ai.cons aD.pure ai.nil)),rfl⟩
 ·have hv:au T=true:=by simpa using h1
  have hc:ek T k x=false:=by rw[hv,Bool.true_and]at hno;exact hno
  have hll:=bX hv
  have hcw:=pH T k x
  rw[hc]at hcw
  refine ak<|aR<|ax 1 I<|fC I (dY T (by omega)) I<|cg (da I (bG.rk.get I) I I (show 2*(T.ae.length:Int)=((2*T.ae.length:Nat):Int) by omega) (show 2*(T.ae.length:Int)=((2*T.ae.length:Nat):Int) by omega) ⟨by unfold maxLen;omega,by omega⟩) I<|ax 2 I<|aH [1,2,6] I ?_
  refine an<|af (.a 3 I<|.k [2,6,16,17,18] I)<|ay<|eY [2,6,16,17,18] I<|br (fun r st=>st=⟨[(2,.bg (bI T) 0),(6,.ptr 1 0),(16,.slice 1 (eh k x)),(17,num 1),(18,num 0)],[some (.row 4 1 (2*T.ae.length) (dB [.raw (.bool false)] (2*T.ae.length))),some (.cells 22 [.own 0])]⟩) 0 I ?_
  rintro r st rfl
  refine af (.a 1 I<|.k [2,6,16,17,18,19] I)<|an<|aj I (fun h2=>?_) (fun h2=>?_)
  ·skip
   refine ak<|an<|ay<|aR<|bw (aJ (0) I) I<|bw (ju I ((show((eh k x).drop 0).take 2=eh k x from rfl)) I) I<|ax 2 I<|aH [2,6,8,16,17,18] I ?_
   refine an<|af (.a 2 I<|.c rfl (hcw) I<|.a 1 I<|.k [2,6,8,16,17,18,25] I)<|aj I (fun h3=>?_) (fun h3=>?_)
   ·skip
    exact af (.a 2 I<|.k [4,5] I)<|az<|⟨_,_,aE.of I,aD.bY (ai.cons aD.cc (ai.cons aD.pure ai.nil)),rfl⟩
   ·exact absurd h3 (by decide)
  ·exact absurd h2 (by decide)
theorem td(T:ah)(k x:Int)(hv:au T=true)(hc:ek T k x=true):aW Tryz.prog 52 [aZ T,dX k x] [] (fun r σ'=>r= .tuple [.own 0,num 0]∧σ'=[some (.row 4 1 (2*T.ae.length) (bb (cA T k x)))]):=by
 refine bO Tryz.func52 I Tryz.ntmps52 I<|af (.a 4 I<|.k [2,3] I)<|aR<|ax 3 I<|b7 I I (aW.mono (zO T k x hv hc) (fun r σ' h=>?_))
 obtain⟨rfl,rfl⟩:=h
 refine ax 4 I<|aH [4,5] I ?_
 exact az<|⟨_,aE.of I,rfl,rfl⟩
theorem wT(T:ah)(k x:Int):Can Tryz.prog 52 [aZ T,dX k x] (· =sd (jG T k x) (cA T k x)):=by
 cases hno:(au T&&ek T k x)with
 |true=>
  obtain⟨hv,hc⟩:=Bool.and_eq_true_iff.1 hno
  refine Can.LH (td T k x hv hc) ?_
  rintro r σ' ⟨rfl,rfl⟩
  refine⟨_,aD.bY (ai.cons (aD.dA rfl ai.pure) (ai.cons aD.pure ai.nil)),?_⟩
  unfold sd jG bq
  rw[if_pos hno,if_pos rfl,mL]
 |false=>
  have he:jG T k x=1:=by unfold jG;rw[if_neg (by rw[hno];simp)]
  rw[he]
  exact aT Tryz.func52 I Tryz.ntmps52 I<|af (.a 4 I<|.k [2,3] I)<|af (.a 3 I<|.c rfl (yU T k x hno) I<|.a 4 I<|.k [4,5] I)<|az<|⟨_,_,aE.of I,aD.pure,rfl⟩
def vK(L:List Bool):Option cK:=some (.row 4 1 L.length (bb L))
end
section
open Go.RowKit cj Mem
structure gm (P:Program) (kt:TypeId) {κ:Type} [DecidableEq κ] (enc:κ→Value):Prop where
 nI:∀e a w,(Instr.checkKey e 10000 kt (enc a)).run P w= .ok () w
 eql:∀a b w,(Op.equal kt (enc a) (enc b)).run P w= .ok (decide (a=b)) w
 now:∃d,P.underlying kt=some d∧((∀a b,Instr.sameNow d (enc a) (enc b)=some (decide (a=b)))∨∀a b,Instr.sameNow d (enc a) (enc b)=none)
 bits:∀a,Instr.sameBits 10000 (enc a) (enc a)=true
section
variable {P:Program} {kt:TypeId} {κ:Type} [DecidableEq κ] {enc:κ→Value}
def fY(k:κ):List κ→Nat→Option Nat
 | [],_=>none
 |a::l,i=>if k=a then some i else fY k l (i+1)
theorem jd{k:κ}:∀ {l:List κ} {i j:Nat},fY k l i=some j→i≤j∧l[j - i]? =some k
 | [],i,j,h=>by cases h
 |a::l,i,j,h=>by
  simp only[fY]at h
  split at h
  ·rename_i he;cases h;subst he;simp
  ·obtain⟨h1,h2⟩:=jd h
   refine⟨by omega,?_⟩
   rw[show j - i=(j - (i+1))+1 by omega]
   simpa using h2
theorem wK{d:TypeDesc}(hn:∀a b,Instr.sameNow d (enc a) (enc b)=some (decide (a=b)))(k:κ):∀(ks:List κ) (es:List MapEntry) (i:Nat),es.map (·.key)=ks.map enc→
  Instr.findNow d (enc k) es i=some ((fY k ks i).bind fun j=>(es[j - i]?).map fun e=>(j,e.val))
 | [],[],i,_=>rfl
 | [],_::_,i,h=>by simp at h
 |_::_,[],i,h=>by simp at h
 |a::ks,e::es,i,h=>by
  simp only[List.map_cons,List.cons.injEq]at h
  simp only[Instr.findNow,h.1,hn,fY]
  by_cases hk:k=a
  ·rw[decide_eq_true hk,if_pos hk];simp
  ·rw[decide_eq_false hk,if_neg hk]
   simp only[wK hn k ks es (i+1) h.2]
   congr 1
   cases hf:fY k ks (i+1)with
   |none=>rfl
   |some j=>
    obtain⟨h1,_⟩:=jd hf
    simp only[Option.bind_some]
    rw[show j - i=(j - (i+1))+1 by omega]
    simp
theorem wJ(hk:gm P kt enc)(k:κ)(w:World):∀(ks:List κ) (es:List MapEntry) (i:Nat),es.map (·.key)=ks.map enc→
  (Instr.findAsking kt (enc k) es i).run P w= .ok ((fY k ks i).bind fun j=>(es[j - i]?).map fun e=>(j,e.val)) w
 | [],[],i,_=>rfl
 | [],_::_,i,h=>by simp at h
 |_::_,[],i,h=>by simp at h
 |a::ks,e::es,i,h=>by
  simp only[List.map_cons,List.cons.injEq]at h
  simp only[Instr.findAsking,Sem.run_bind,h.1,hk.eql,Result.andThen_ok,fY]
  by_cases hka:k=a
  ·rw[if_pos (by simpa using hka),if_pos hka];simp
  ·rw[if_neg (by simpa using hka),if_neg hka,wJ hk k w ks es (i+1) h.2]
   congr 1
   cases hf:fY k ks (i+1)with
   |none=>rfl
   |some j=>
    obtain⟨h1,_⟩:=jd hf
    simp only[Option.bind_some]
    rw[show j - i=(j - (i+1))+1 by omega]
    simp
theorem yd(hk:gm P kt enc)(k:κ)(w:World)(ks:List κ)(es:List MapEntry)(h:es.map (·.key)=ks.map enc):(Instr.findKey kt (enc k) es).run P w= .ok ((fY k ks 0).bind fun j=>(es[j]?).map fun e=>(j,e.val)) w:=by
 obtain⟨d,hd,hn|hn⟩:=hk.now
 ·have:=wK hn k ks es 0 h
  simp only[Instr.findKey,Sem.run_bind,run_underlying hd,Result.andThen_ok,this]
  simp
 ·have ha:=wJ hk k w ks es 0 h
  simp only[Instr.findKey,Sem.run_bind,run_underlying hd,Result.andThen_ok]
  cases es with
  |nil=>
   have:ks=[]:=by cases ks with|nil=>rfl|cons=>simp at h
   subst this
   rfl
  |cons e es=>
   cases ks with
   |nil=>simp at h
   |cons a ks=>
    simp only[List.map_cons,List.cons.injEq]at h
    have h0:Instr.findNow d (enc k) (e::es) 0=none:=by simp only[Instr.findNow,h.1,hn]
    rw[h0]
    simpa using ha
def eA(enc:κ→Value)(l:List (κ×PV)):List (Value×PV):=l.map fun x=>(enc x.1,x.2)
def cV(k:κ):List (κ×PV)→Option PV
 | []=>none
 |(a,p)::l=>if k=a then some p else cV k l
def gJ(k:κ)(p:PV):List (κ×PV)→List (κ×PV)
 | []=>[(k,p)]
 |(a,q)::l=>if k=a then(a,p)::l else(a,q)::gJ k p l
theorem zl{k:κ}{l:List (κ×PV)}:cV k l=(fY k (l.map (·.1)) 0).bind fun j=>(l[j]?).map (·.2):=by
 suffices h:∀(i:Nat),cV k l=(fY k (l.map (·.1)) i).bind fun j=>(l[j - i]?).map (·.2) by simpa using h 0
 induction l with
 |nil=>intro i;rfl
 |cons x l ih=>
  intro i
  obtain⟨a,p⟩:=x
  simp only[cV,List.map_cons,fY]
  split
  ·simp
  ·rw[ih (i+1)]
   cases hf:fY k (l.map (·.1)) (i+1)with
   |none=>rfl
   |some j=>
    obtain⟨h1,_⟩:=jd hf
    simp only[Option.bind_some]
    rw[show j - i=(j - (i+1))+1 by omega]
    simp
theorem BP{k:κ}{p:PV}{l:List (κ×PV)}:gJ k p l=match fY k (l.map (·.1)) 0 with|some j=>l.set j (k,p)|none=>l++[(k,p)]:=by
 suffices h:∀(i:Nat),gJ k p l=match fY k (l.map (·.1)) i with|some j=>l.set (j - i) (k,p)|none=>l++[(k,p)] by simpa using h 0
 induction l with
 |nil=>intro i;rfl
 |cons x l ih=>
  intro i
  obtain⟨a,q⟩:=x
  simp only[gJ,List.map_cons,fY]
  split
  ·rename_i he;subst he;simp
  ·rw[ih (i+1)]
   cases hf:fY k (l.map (·.1)) (i+1)with
   |none=>rfl
   |some j=>
    obtain⟨h1,_⟩:=jd hf
    simp only
    rw[show j - i=(j - (i+1))+1 by omega]
    simp
theorem rQ{k:κ}{p:PV}{l:List (κ×PV)}{x:κ×PV}(h:x∈gJ k p l):x=(k,p)∨x∈l:=by
 induction l with
 |nil=>simpa[gJ]using h
 |cons y l ih=>
  obtain⟨a,q⟩:=y
  simp only[gJ]at h
  split at h
  ·rename_i he
   subst he
   cases h with
   |head=>exact .inl rfl
   |tail _ h=>exact .inr (List.mem_cons_of_mem _ h)
  ·cases h with
   |head=>exact .inr (List.mem_cons_self ..)
   |tail _ h=>
    rcases ih h with h|h
    ·exact .inl h
    ·exact .inr (List.mem_cons_of_mem _ h)
theorem iX{k:κ}{p:PV}{l:List (κ×PV)}(h:cV k l=some p):(k,p)∈l:=by
 induction l with
 |nil=>cases h
 |cons y l ih=>
  obtain⟨a,q⟩:=y
  simp only[cV]at h
  split at h
  ·rename_i he;subst he;cases h;exact List.mem_cons_self ..
  ·exact List.mem_cons_of_mem _ (ih h)
def tP(p:PV)(v:Value):Prop:=∀E w u,cu E w u p→u=v
theorem jS(v:Value):tP (.raw v) v:=fun _ _ _ h=>by cases h;rfl
theorem qz(a b:Value):tP (.agg [.raw a,.raw b]) (.agg #[a,b]):=fun E w u h=>by
 cases h with
 |agg cs _ hl hr=>
  obtain⟨l⟩:=cs
  match l,hl,hr with
  | [x,y],_,hr=>
   have h0:=hr 0 x _ rfl rfl
   have h1:=hr 1 y _ rfl rfl
   cases h0;cases h1;rfl
  | [],hl,_=>simp at hl
  | [_],hl,_=>simp at hl
  |_::_::_::_,hl,_=>simp at hl
def qM(P:Program)(mt:TypeId):Option (TypeId×TypeId):=match P.underlying mt with|some (.map k e)=>some (k,e)|_=>none
theorem kp{mt kt et:TypeId}(h:qM P mt=some (kt,et)):P.underlying mt=some (.map kt et):=by
 unfold qM at h
 split at h
 ·rename_i hu;cases h;exact hu
 ·cases h
def Gc(P:Program)(t:TypeId):Option Value:=match P.info? t with|some i=>i.zero|none=>none
theorem xJ{et:TypeId}{z:Value}(h:Gc P et=some z)(w:World):(zeroValue et).run P w= .ok z w:=by
 unfold Gc at h
 split at h
 ·rename_i i hi;simp[zeroValue,typeInfo,hi,h]
 ·cases h
variable {σ:bN} {t:b9} {o:Oper}
theorem sZ(hK:gm P kt enc){F:Nat→Prop}{base:Nat}{E:Env}{w:World}{i mt et:Nat}{l:List (κ×PV)}{v z:Value}(hS:Sat F base σ E w)(hm:qM P mt=some (kt,et))(hz:Gc P et=some z)(hv:cu E w v (.own i))(hi:σ[i]? =some (some (.mp (eA enc l))))(k:κ)(ok:Bool):
  ∃u,(Instr.lookup mt v (enc k) ok).run P w= .ok (if ok then .tuple #[u,.bool (cV k l).isSome] else u) w∧cu E w u ((cV k l).getD (.raw z)):=by
 cases hv with
 |own _ hiL _ hat _=>
  obtain⟨r,es,ck,hr,hb,hheap,hkey,hval⟩:=hS.blk i _ hi
  rw[hat]at hr
  subst hr
  have hkey':es.toList.map (·.key)=(l.map (·.1)).map enc:=by rw[hkey];simp[eA]
  have hf:=yd hK k w (l.map (·.1)) es.toList hkey'
  have hvl:(eA enc l).map (·.2)=l.map (·.2):=by simp[eA]
  rw[hvl]at hval
  have hlk:=zl (k:=k) (l:=l)
  cases hfi:fY k (l.map (·.1)) 0 with
  |none=>
   rw[hfi]at hf hlk
   simp only[Option.bind_none]at hf hlk
   refine⟨z,?_,by rw[hlk];exact .raw z⟩
   simp only[Instr.lookup,Sem.run_bind,run_underlying (kp hm),Result.andThen_ok,MapKept.run_getObj_map hheap,Sem.run_pure,hK.nI,hf,xJ hz,hlk]
   rfl
  |some j=>
   obtain⟨_,hj⟩:=jd hfi
   simp only[Nat.sub_zero]at hj
   have hjl:j<l.length:=by have:=(List.getElem?_eq_some_iff.1 hj).1;simpa using this
   have hje:j<es.toList.length:=by have:=congrArg List.length hkey';simp at this;rw[Array.length_toList];omega
   rw[hfi]at hf hlk
   simp only[Option.bind_some,List.getElem?_eq_getElem hje,List.getElem?_eq_getElem hjl,Option.map_some]at hf hlk
   refine⟨es.toList[j].val,?_,?_⟩
   ·simp only[Instr.lookup,Sem.run_bind,run_underlying (kp hm),Result.andThen_ok,MapKept.run_getObj_map hheap,Sem.run_pure,hK.nI,hf,hlk]
    rfl
   ·rw[hlk]
    exact hval.2 j _ _ (by rw[List.getElem?_map,List.getElem?_eq_getElem hje];rfl) (by simp[hjl])
theorem o3(hK:gm P kt enc){i mt et:Nat}{x ix:Operand}{l:List (κ×PV)}{z:Value}{k:κ}{pk r:PV}(ho:o.op= .lookup mt x ix false)(hm:qM P mt=some (kt,et))(hz:Gc P et=some z)(hx:aA t x=some (.own i))(hi:σ[i]? =some (some (.mp (eA enc l))))(hp:aA t ix=some pk)(hk:tP pk (enc k))(hr:(cV k l).getD (.raw z)=r):bh P σ t o r:=by
 intro F base E ρ w hρ hS hT
 have h1:=aq hρ hT hx
 have h2:=hk _ _ _ (aq hρ hT hp)
 obtain⟨u,hu,hR⟩:=sZ hK hS hm hz h1 hi k false
 simp only[execOp,ho,h2,Sem.run_bind,hu,Result.andThen_ok,Sem.run_pure,Bool.false_eq_true,if_false]
 exact bd (by rw[←hr];exact hR)
theorem A5(hK:gm P kt enc){i mt et:Nat}{x ix:Operand}{l:List (κ×PV)}{z:Value}{k:κ}{pk r:PV}{q:Bool}(ho:o.op= .lookup mt x ix true)(hm:qM P mt=some (kt,et))(hz:Gc P et=some z)(hx:aA t x=some (.own i))(hi:σ[i]? =some (some (.mp (eA enc l))))(hp:aA t ix=some pk)(hk:tP pk (enc k))(hr:(cV k l).getD (.raw z)=r)(hq:(cV k l).isSome=q):bh P σ t o (.tuple [r,.raw (.bool q)]):=by
 intro F base E ρ w hρ hS hT
 have h1:=aq hρ hT hx
 have h2:=hk _ _ _ (aq hρ hT hp)
 obtain⟨u,hu,hR⟩:=sZ hK hS hm hz h1 hi k true
 simp only[execOp,ho,h2,Sem.run_bind,hu,Result.andThen_ok,Sem.run_pure,if_true]
 refine bd (.tuple #[u,.bool (cV k l).isSome] _ rfl fun i x p k1 k2=>?_)
 match i,k1,k2 with
 |0,k1,k2=>cases k1;cases k2;rw[←hr];exact hR
 |1,k1,k2=>cases k1;cases k2;rw[hq];exact .raw _
 |_+2,_,k2=>simp at k2
theorem oR{α:Type}(a:Array α)(i j:Nat)(v:α):(a.setIfInBounds i v)[j]? =if i=j∧i<a.size then some v else a[j]? :=by
 rw[Array.getElem?_setIfInBounds]
 by_cases h:i=j
 ·subst h
  by_cases h2:i<a.size
  ·simp[h2]
  ·simp[h2]
 ·simp[h]
theorem lF(hK:gm P kt enc){i mt et:Nat}{x ix y:Operand}{l:List (κ×PV)}{k:κ}{pk p:PV}(ho:o.op= .mapUpdate mt x ix y)(hm:qM P mt=some (kt,et))(hx:aA t x=some (.own i))(hi:σ[i]? =some (some (.mp (eA enc l))))(hp:aA t ix=some pk)(hk:tP pk (enc k))(hy:aA t y=some p):
  cM P σ t o (.raw undef) (σ.set i (some (.mp (eA enc (gJ k p l))))):=by
 intro F base E ρ w hρ hS hT
 have h1:=aq hρ hT hx
 have h2:=hk _ _ _ (aq hρ hT hp)
 have h3:=aq hρ hT hy
 generalize hz:ρ x=v at h1
 cases h1 with
 |own _ hiL _ hat _=>
  obtain⟨r,es,ck,hr,hb,hheap,hkey,hval⟩:=hS.blk i _ hi
  have hbk:aY (E.at_ i)=some r:=by rw[hr];rfl
  have hsz:r<w.heap.size:=(Array.getElem?_eq_some_iff.1 hheap).1
  rw[hat]at hr
  subst hr
  have hkey':es.toList.map (·.key)=(l.map (·.1)).map enc:=by rw[hkey];simp[eA]
  have hf:=yd hK k w (l.map (·.1)) es.toList hkey'
  have hvl:(eA enc l).map (·.2)=l.map (·.2):=by simp[eA]
  rw[hvl]at hval
  have fin:∀(es':Array MapEntry) (ck':Nat),(Instr.mapUpdate mt (.map (some r)) (enc k) (ρ y)).run P w= .ok () {w with heap:=w.heap.setIfInBounds r (.map es' ck')}→
    es'.toList.map (·.key)=(gJ k p l).map (fun a=>enc a.1)→aV E w (es'.toList.map (·.val)) ((gJ k p l).map (·.2))→
    ∃v w' E',((execOp ρ o).run P w= .ok (.value v) w'∨(v=undef∧(execOp ρ o).run P w= .ok .skip w'))∧Sat F base (σ.set i (some (.mp (eA enc (gJ k p l))))) E' w'∧cp E w E' w'∧Below base w w'∧cu E' w' v (.raw undef):=fun es' ck' hrun hk' hv'=>by
   have oth:∀j,j<w.heap.size→j≠r→({w with heap:=w.heap.setIfInBounds r (.map es' ck')}:World).heap[j]? =w.heap[j]? :=fun j _ hj=>by
    show(w.heap.setIfInBounds r (.map es' ck'))[j]? =_
    rw[oR,if_neg (by rintro⟨rfl,_⟩;exact hj rfl)]
   have hs':w.heap.size≤({w with heap:=w.heap.setIfInBounds r (.map es' ck')}:World).heap.size:=by simp
   have hrM:E.M r:=(hS.mm r).2 (.inr ⟨i,_,hi,hbk⟩)
   have g:cp E w E {w with heap:=w.heap.setIfInBounds r (.map es' ck')}:=⟨Nat.le_refl _,fun _ _=>rfl,fun _ _ h=>h,hs',fun j hj hM=>oth j hj (fun e=>hM (by rw[e];exact hrM))⟩
   have hn:=hS.BA (bi':=.mp (eA enc (gJ k p l))) hi hbk hs' oth ⟨r,es',ck',hat,hb,by
     show(w.heap.setIfInBounds r (.map es' ck'))[r]? =_
     rw[oR,if_pos ⟨rfl,hsz⟩],by rw[hk'];simp[eA],by
     have:(eA enc (gJ k p l)).map (·.2)=(gJ k p l).map (·.2):=by simp[eA]
     rw[this];exact hv'.goes g⟩
   refine⟨undef,_,E,.inr ⟨rfl,?_⟩,hn.1,hn.2,⟨rfl,rfl,rfl,hs',fun j hj=>oth j (Nat.lt_of_lt_of_le hj hS.bl) (by omega)⟩,.raw _⟩
   simp only[execOp,ho,hz,h2,Sem.run_bind,hrun,Result.andThen_ok,Sem.run_pure]
  have hsm:=BP (k:=k) (p:=p) (l:=l)
  cases hfi:fY k (l.map (·.1)) 0 with
  |none=>
   rw[hfi]at hf hsm
   simp only[Option.bind_none]at hf hsm
   refine fin (es.push {key:=enc k,val:=ρ y,born:=ck}) (ck+1) ?_ ?_ ?_
   ·simp only[Instr.mapUpdate,Sem.run_bind,run_underlying (kp hm),Result.andThen_ok,MapKept.run_getObj_map hheap,hK.nI,hf,MapKept.run_setObj_map _ hheap]
   ·rw[hsm];simp[hkey',List.map_map,Function.comp_def]
   ·rw[hsm]
    simp only[Array.toList_push,List.map_append,List.map_cons,List.map_nil]
    exact hval.append (aV.cons h3 (aV.nil _ _))
  |some j=>
   obtain⟨_,hj⟩:=jd hfi
   simp only[Nat.sub_zero]at hj
   have hjl:j<l.length:=by have:=(List.getElem?_eq_some_iff.1 hj).1;simpa using this
   have hje:j<es.toList.length:=by have:=congrArg List.length hkey';simp at this;rw[Array.length_toList];omega
   have hje':j<es.size:=by simpa using hje
   have hlj:l[j].1=k:=by have:=List.getElem?_eq_some_iff.1 hj;obtain⟨h,e⟩:=this;simpa using e
   have hkj:es[j].key=enc k:=by
    have:=congrArg (·[j]?) hkey'
    simp only[List.getElem?_map,List.getElem?_eq_getElem hje,List.getElem?_eq_getElem hjl,Option.map_some,Option.some.injEq,hlj]at this
    simpa using this
   rw[hfi]at hf hsm
   simp only[Option.bind_some,List.getElem?_eq_getElem hje,Option.map_some]at hf hsm
   refine fin (es.modify j fun e=> {e with key:=enc k,val:=ρ y}) ck ?_ ?_ ?_
   ·have hks:(Instr.keyThatStays ((Option.map (fun x=>x.key) es[j]?).getD (enc k)) (enc k)).run P w= .ok (enc k) w:=by
     rw[Array.getElem?_eq_getElem hje',Option.map_some,Option.getD_some,hkj]
     simp only[Instr.keyThatStays,hK.bits,if_true,Sem.run_pure]
    simp only[Instr.mapUpdate,Sem.run_bind,run_underlying (kp hm),Result.andThen_ok,MapKept.run_getObj_map hheap,hK.nI,hf,hks,MapKept.run_setObj_map _ hheap]
   ·rw[hsm]
    refine List.ext_getElem? fun n=>?_
    simp only[List.getElem?_map,Array.getElem?_toList,Array.getElem?_modify,List.getElem?_set]
    by_cases hn:j=n
    ·subst hn
     simp[hje',hjl]
    ·have:=congrArg (·[n]?) hkey'
     simp only[List.getElem?_map,Array.getElem?_toList]at this
     simp only[if_neg hn,this,Option.map_map,Function.comp_def]
   ·rw[hsm]
    have hR:=hval.set j h3
    have e1:(es.modify j fun e=> {e with key:=enc k,val:=ρ y}).toList.map (·.val)=(es.toList.map (·.val)).set j (ρ y):=by
     refine List.ext_getElem? fun n=>?_
     simp only[List.getElem?_map,Array.getElem?_toList,Array.getElem?_modify,List.getElem?_set]
     by_cases hn:j=n
     ·subst hn
      simp[hje']
     ·simp only[if_neg hn]
    have e2:(l.set j (k,p)).map (·.2)=(l.map (·.2)).set j p:=by rw[List.map_set]
    rw[e1,e2]
    exact hR
omit [DecidableEq κ] in
theorem kl{mt:TypeId}(enc:κ→Value)(ho:o.op= .makeMap mt none):cM P σ t o (.own σ.length) (σ++[some (.mp (eA enc ([]:List (κ×PV))))]):=by
 intro F base E ρ w hρ hS hT
 have hr:(execOp ρ o).run P w= .ok (.value (.map (some w.heap.size))) (w.alloc (.map #[] 0)):=by
  simp[execOp,ho,Instr.makeMap]
 have hE:Ext w (w.alloc (.map #[] 0)):=(Ext.refl w).alloc _
 have hp:=hS.push hE (v:=.map (some w.heap.size)) (blk:=.mp (eA enc ([]:List (κ×PV)))) (fun b h=>by simp[aY]at h;omega) ⟨w.heap.size,#[],0,rfl,hS.bl,heap_alloc_new _ _,rfl,aV.nil _ _⟩
 exact⟨_,_,_,.inl hr,hp.1,hp.2,Below.fB hE hS.bl,.own σ.length (by simp[Env.push,hS.len]) _ (by simp[Env.push,hS.len]) I⟩
end
section
variable {P:Program} {σ:bN} {t:b9} {o:Oper} {N L:Nat}
def Le(Q:Exit→St→Prop):Exit→St→Prop
 | .goto _,_=>False
 |e,s=>Q e s
theorem AX{c:Code}{st:St}{Q:Exit→St→Prop}(h:W P N L c st (Le Q)):W P N L (.scope c) st Q:=fun F base E₀ w₀ E a w hc hs=>by
 refine wp_scope_straight (wp_mono (h F base E₀ w₀ E a w hc hs) ?_)
 rintro e a' w' ⟨s,E',h1,h2⟩
 cases e with
 |goto l=>exact h1.elim
 |normal=>exact⟨s,E',h1,h2⟩
 |exit _=>exact⟨s,E',h1,h2⟩
 |ret=>exact⟨s,E',h1,h2⟩
 |panic _=>exact⟨s,E',h1,h2⟩
 |outgrown=>exact⟨s,E',h1,h2⟩
theorem A4{l:Nat}{st:St}{Q:Exit→St→Prop}(h:Q .normal st):W P N L (.label l) st Q:=fun _ _ _ _ E _ _ hc hs=>wp_label ⟨st,E,h,hs,hc.g,hc.b⟩
theorem Bu{x:Operand}{k:Nat}{xs:List PV}{p:PV}(ho:o.op= .extract x k)(hx:aA t x=some (.tuple xs))(hp:xs[k]? =some p):lP P t o p:=fun E ρ w hρ hT=>by
 have h1:=aq hρ hT hx
 generalize hz:ρ x=z at h1
 cases h1 with
 |tuple cs _ hl hr=>
  obtain⟨c,hcc,hcr⟩:=aV.get (E:=E) (w:=w) (cs:=cs.toList) ⟨by simpa using hl,fun i x u h1 h2=>hr i x u (by simpa using h1) h2⟩ hp
  have hcc':cs[k]? =some c:=by simpa using hcc
  exact⟨c,fun w'=>by simp only[execOp,ho,hz,Instr.extract,hcc',Sem.run_bind,Sem.run_pure,Result.andThen_ok],hcr⟩
theorem AI{x y:Operand}{ats:Array TypeId}{a b c:Int}(ho:o.op= .call {callee:=.builtin .min,args:= #[x,y],argTypes:=ats})(hx:aA t x=some (.raw (.int .i64 a)))(hy:aA t y=some (.raw (.int .i64 b)))(hc:min a b=c):bh P σ t o (.raw (.int .i64 c)):=by
 intro F base E ρ w hρ _ hT
 have h1:=aq hρ hT hx
 have h2:=aq hρ hT hy
 generalize hz:ρ x=z at h1
 generalize hz':ρ y=z' at h2
 cases h1
 cases h2
 have he:(if b<a then b else a)=c:=by rw[←hc];by_cases h:b<a<;>simp[h]<;>omega
 simp[execOp,ho,resolve,invoke,builtin,Builtin.min_,Builtin.min2,hz,hz',he]
 exact bd (.raw _)
def qe(P:Program)(ty:TypeId):Bool:=match P.underlying ty with|some (.slice _)=>true|_=>false
theorem mB{ty:TypeId}(h:qe P ty=true):∃e,P.underlying ty=some (.slice e):=by
 unfold qe at h
 split at h
 ·rename_i e hu;exact⟨e,hu⟩
 ·cases h
theorem Gp{x y:Operand}{ty tz:TypeId}(ho:o.op= .binOp .eql ty x y tz)(hk:qe P ty=true)(hx:aA t x=some (.raw (.slice none 0 0)))(hy:aA t y=some (.raw (.slice none 0 0))):bh P σ t o (.raw (.bool true)):=by
 obtain⟨e,hu⟩:=mB hk
 refine wR ho hx hy fun w=>?_
 have:=Lib.run_eql_slice_nil w ty e none 0 0 0 0 hu
 have hg:∀a n c b m d,(eqGuard .eql ty x y (.slice a n c) (.slice b m d)).run P w= .ok () w:=fun _ _ _ _ _ _=>rfl
 simp only[Sem.run_bind,hg,Result.andThen_ok,this]
 rfl
theorem je{x y:Operand}{ty tz:TypeId}{n:Nat}{xs:List PV}(ho:o.op= .binOp .eql ty x y tz)(hk:qe P ty=true)(hx:aA t x=some (.slice n xs))(hy:aA t y=some (.raw (.slice none 0 0)))(hn:0<n):bh P σ t o (.raw (.bool false)):=by
 obtain⟨e,hu⟩:=mB hk
 intro F base E ρ w hρ _ hT
 have h1:=aq hρ hT hx
 have h2:=aq hρ hT hy
 generalize hz:ρ x=z at h1
 generalize hz':ρ y=z' at h2
 cases h2
 have hv:∃a c,z= .slice (some a) n c:=by
  cases h1 with
  |cc=>omega
  |empty=>omega
  |slice b off _ c cs _ h0=>exact⟨_,_,rfl⟩
 obtain⟨a,c,rfl⟩:=hv
 have:=Lib.run_eql_slice_nil w ty e (some a) n c 0 0 hu
 have hg:∀a n c b m d,(eqGuard .eql ty x y (.slice a n c) (.slice b m d)).run P w= .ok () w:=fun _ _ _ _ _ _=>rfl
 simp only[execOp,ho,hz,hz',Sem.run_bind,Sem.run_pure,Result.andThen_ok,hg,this]
 exact bd (.raw _)
end
open Net
theorem aW.It{P:Program}{f:FuncId}{ps:List PV}{σ:bN}{R:PV→Prop}(h:Can P f ps R)[aI ps]:aW P f ps σ (fun r σ'=>R r∧σ'=σ):=fun F base E w vs hS hR=>by
 refine(h E.M w vs (fun b hb=>hS.lt hb) hS.gl (hR.pure (fun _ h=>h))).mono ?_
 rintro e w' ⟨v,rfl,hE,r,hr,hv⟩
 exact⟨v,r,σ,E,rfl,⟨hr,rfl⟩,hS.ext hE,.ext hE,Below.fB hE hS.bl,hv.back⟩
section
variable {T:ah} {D:List Bool} {d:Nat}
structure zt (T:ah) (D:List Bool) (d:Nat) (O:List Int):Prop where
 nodup:O.Nodup
 mem:∀x,x∈O↔∃k:Nat,x=(k:Int)∧(k:Int)<T.nodes∧0≤dN T D d k
 pair:O.Pairwise fun x y=>dN T D d y.toNat≤dN T D d x.toNat
theorem zt.of(hv:au T=true)(hd:(d:Int)<T.nodes){O:List Int}(h1:O.Perm (pB (aO T D d false) (aO T D d false).length))(h2:O.Pairwise (sK (aO T D d false))):zt T D d O:=by
 obtain⟨hb1,_⟩:=eD (D:=D) hv (dir:=false) hd
 refine⟨h1.nodup_iff.2 (zH _ _),fun x=>?_,h2.imp fun {x y} h=>?_⟩
 ·rw[h1.mem_iff,wO]
  constructor
  ·rintro⟨k,e,h3,h4⟩;exact⟨k,e,by omega,h4⟩
  ·rintro⟨k,e,h3,h4⟩;exact⟨k,e,by omega,h4⟩
 ·unfold sK at h
  show(aO T D d false).getD _ 0≤(aO T D d false).getD _ 0
  omega
noncomputable def lf(T:ah)(D:List Bool)(d:Nat)(c:Int)(l:List Int):Int:=l.foldl (fun c a=>min 2 (c+dL T D d (aB T a.toNat).toNat)) c
structure pf (T:ah) (D:List Bool) (d:Nat) (R cs:List Int) (i:Nat):Prop where
 len:(cs.length:Int)=T.nodes
 val:∀m:Nat,(m:Int)<T.nodes→cs.getD m 0=if m=d then 1 else if(m:Int)∈R.take i then dL T D d m else 0
theorem pf.start(hd:(d:Int)<T.nodes)(R:List Int):pf T D d R ((List.replicate T.nodes.toNat 0).set d 1) 0:=by
 refine⟨by simp;omega,fun m hm=>?_⟩
 rw[List.getD_eq_getElem?_getD,List.getElem?_set]
 by_cases h:d=m
 ·subst h;rw[if_pos rfl,if_pos (by simp;omega),if_pos rfl];rfl
 ·rw[if_neg h,if_neg (fun e=>h e.symm),List.getElem?_replicate,if_pos (by omega)];rfl
theorem pf.next(hv:au T=true)(hd:(d:Int)<T.nodes){O cs:List Int}{i m a y:Nat}(hO:zt T D d O)(h:pf T D d O.reverse cs i)(hi:i<O.reverse.length)(hm:O.reverse.getD i 0=(m:Int))(ha:(a:Int)∈bz T D m d)(hy:aB T a=(y:Int)):cs.getD y 0=dL T D d y∧y≠m∧(y:Int)<T.nodes:=by
 obtain⟨b,hb,hn⟩:=cT ha
 have hba:b=a:=by omega
 subst hba
 obtain⟨y',hy',hyN⟩:=di hv hn.iu
 have:y'=y:=by omega
 subst this
 have hdy:=hn.dN hy
 have hc:=(aM hv).cost b hn.iu
 refine⟨?_,fun e=>by subst e;omega,hyN⟩
 rw[h.val y' hyN]
 by_cases hyd:y'=d
 ·subst hyd;rw[if_pos rfl,oQ]
 ·rw[if_neg hyd,if_pos ?_]
  have hyO:(y':Int)∈O.reverse:=List.mem_reverse.2 ((hO.mem _).2 ⟨y',rfl,hyN,hdy.1⟩)
  have hs:O.reverse=O.reverse.take i++(m:Int)::O.reverse.drop (i+1):=by rw[←hm,←drop_cons _ _ hi,List.take_append_drop]
  have hp:O.reverse.Pairwise fun x y=>dN T D d x.toNat≤dN T D d y.toNat:=List.pairwise_reverse.2 hO.pair
  rw[hs]at hp hyO
  rcases List.mem_append.1 hyO with h1|h1
  ·exact h1
  ·exfalso
   have hp2:=(List.pairwise_append.1 hp).2.1
   rcases List.mem_cons.1 h1 with h2|h2
   ·have:y'=m:=by omega
    subst this;omega
   ·have:=(List.pairwise_cons.1 hp2).1 _ h2
    simp only[Int.toNat_natCast]at this
    omega
theorem pf.fresh{O cs:List Int}{i m:Nat}(hO:zt T D d O)(h:pf T D d O.reverse cs i)(hi:i<O.reverse.length)(hm:O.reverse.getD i 0=(m:Int)):(m:Int)<T.nodes∧0≤dN T D d m∧cs.getD m 0=if m=d then 1 else 0:=by
 have hmO:(m:Int)∈O.reverse:=by rw[←hm];exact cf hi
 obtain⟨k,hk,hkN,hk0⟩:=(hO.mem _).1 (List.mem_reverse.1 hmO)
 have:k=m:=by omega
 subst this
 refine⟨hkN,hk0,?_⟩
 rw[h.val k hkN]
 have hs:O.reverse=O.reverse.take i++(k:Int)::O.reverse.drop (i+1):=by rw[←hm,←drop_cons _ _ hi,List.take_append_drop]
 have hn:O.reverse.Nodup:=List.pairwise_reverse.2 (hO.nodup.imp fun h=>fun e=>h e.symm)
 rw[hs]at hn
 have hnot:¬(k:Int)∈O.reverse.take i:=fun h1=>(List.pairwise_append.1 hn).2.2 _ h1 (k:Int) (by simp) I
 rw[if_neg hnot]
theorem pf.step(hv:au T=true)(hd:(d:Int)<T.nodes){O cs:List Int}{i m:Nat}(hO:zt T D d O)(h:pf T D d O.reverse cs i)(hi:i<O.reverse.length)(hm:O.reverse.getD i 0=(m:Int)):pf T D d O.reverse (cs.set m (lf T D d (cs.getD m 0) (bz T D m d))) (i+1):=by
 obtain⟨hmN,_,hf⟩:=h.fresh hO hi hm
 have hml:m<cs.length:=by have:=h.len;omega
 refine⟨by simpa using h.len,fun x hx=>?_⟩
 rw[List.getD_eq_getElem?_getD,List.getElem?_set,dr _ _ 0 hi,hm]
 by_cases hxm:m=x
 ·subst hxm
  rw[if_pos rfl,if_pos hml,Option.getD_some,hf]
  by_cases hmd:m=d
  ·subst hmd;rw[if_pos rfl,if_pos rfl,mo];rfl
  ·rw[if_neg hmd,if_neg hmd,if_pos (by simp),ru hv hd hmN hmd];rfl
 ·rw[if_neg hxm,←List.getD_eq_getElem?_getD,h.val x hx]
  by_cases hxd:x=d
  ·rw[if_pos hxd,if_pos hxd]
  ·rw[if_neg hxd,if_neg hxd]
   have:(x:Int)∈O.reverse.take i++[(m:Int)]↔(x:Int)∈O.reverse.take i:=by
    simp only[List.mem_append,List.mem_singleton]
    exact⟨fun h=>h.elim id (fun e=>absurd e (by omega)),.inl⟩
   by_cases h1:(x:Int)∈O.reverse.take i
   ·rw[if_pos h1,if_pos (this.2 h1)]
   ·rw[if_neg h1,if_neg (fun h2=>h1 (this.1 h2))]
theorem pf.done(hv:au T=true)(hd:(d:Int)<T.nodes){O cs:List Int}{n:Nat}(hO:zt T D d O)(h:pf T D d O.reverse cs O.reverse.length)(hn:(n:Int)<T.nodes):cs.getD n 0=dL T D d n:=by
 rw[h.val n hn,List.take_length]
 by_cases hnd:n=d
 ·subst hnd;rw[if_pos rfl,oQ]
 ·rw[if_neg hnd]
  by_cases h1:(n:Int)∈O.reverse
  ·rw[if_pos h1]
  ·rw[if_neg h1]
   refine(Ak hv hd hn (Int.not_le.1 fun h0=>h1 (List.mem_reverse.2 ((hO.mem _).2 ⟨n,rfl,hn,h0⟩)))).symm
theorem yY(c:Int):lf T D d c []=c:=rfl
theorem zF(c:Int)(l:List Int)(k a:Nat)(hk:k<l.length)(ha:l.getD k 0=(a:Int)):lf T D d c (l.take (k+1))=min 2 (lf T D d c (l.take k)+dL T D d (aB T a).toNat):=by
 unfold lf
 rw[dr _ _ 0 hk,List.foldl_append,ha]
 rfl
theorem wX(hv:au T=true)(hd:(d:Int)<T.nodes)(c:Int)(h0:0≤c)(h2:c≤2)(l:List Int):0≤lf T D d c l∧lf T D d c l≤2:=oz _ (fun a=>(kM hv hd _).1) l c h0 h2
theorem Fz(cs:List Int)(m:Nat)(hm:m<cs.length):cs.set m (cs.getD m 0)=cs:=by
 rw[List.getD_eq_getElem?_getD,List.getElem?_eq_getElem hm,Option.getD_some,List.set_getElem_self]
end
def Jr(T:ah)(D:List Bool)(n d:Int)(c:Int):PV:=.tuple [num (if cF T D n d=0 then c else 0),num (cF T D n d)]
set_option maxHeartbeats 2000000 in
theorem Cs(T:ah)(D:List Bool)(n d:Int)(h12:T.nodes≤12):Can Tryz.prog 98 [aZ T,bq D,num n,num d,num 2] (· =Jr T D n d (dL T D d.toNat n.toNat)):=by
 refine aT Tryz.func98 I Tryz.ntmps98 I<|af (.a 3 I<|.k [1,2,3,4,5] I)<|af (.a 4 I<|.c rfl (sX T D n d) I<|.a 5 I<|.k [1,2,3,4,5,12,13] I)<|an<|af (.a 2 I<|.k [1,2,3,4,5,12,13,31] I)<|aj I (fun hc=>?_) (fun hc=>?_)
 ·have he:cF T D n d≠0:=tt hc
  exact af (.a 3 I<|.k [10,11] I)<|az<|⟨_,_,aE.of I,aD.pure,by unfold Jr;rw[if_neg he];rfl⟩
 ·have he:cF T D n d=0:=Classical.byContradiction (ff hc)
  rw[he]
  obtain⟨hv,hf,hn,hd⟩:=fQ he
  rw[bu]at hn hd
  obtain⟨n,rfl⟩:=Int.eq_ofNat_of_zero_le hn.1
  obtain⟨d,rfl⟩:=Int.eq_ofNat_of_zero_le hd.1
  have hn:=hn.2
  have hd:=hd.2
  have hll:=bX hv
  have hS:=aM hv
  obtain⟨hb1,hb2⟩:=eD (D:=D) hv (dir:=false) hd
  obtain⟨N,hN⟩:∃N:Nat,T.nodes=(N:Int):=⟨T.nodes.toNat,by omega⟩
  have hNt:T.nodes.toNat=N:=by omega
  refine ak<|an<|af (.a 2 I<|.k [1,2,3,4,5,12,34] I)<|aj I (fun hc=>?_) (fun hc=>?_)
  ·cases hc
  ·refine ak<|af (.a 1 I<|.c rfl (lY T hv) I<|.a 1 I<|.k [1,2,3,4,5,12,14] I)<|aR<|ax 2 I<|cg (da I (bG.rk.get I) I I hN hN ⟨by unfold maxLen;omega,by omega⟩) I<|ax 1 I<|aH [1,2,3,4,5,12,14,15] I ?_
   refine dF (σ':=[eZ (List.replicate N 0)]) (by unfold eZ;rw[List.length_replicate,←cU];rfl) ?_
   refine aR<|ax 3 I<|bw (AI (c:=1) I I I I) I<|bw (aJ (d) I (by omega) (by rw[List.length_replicate];omega)) I<|ba ((by first|exact bM I (bG.tk.get I) I I I (by first|omega|(simp;omega))|exact aX I (bG.tk.get I) I I I (by first|omega|(simp;omega)))) I I<|aH [1,2,3,4,5,12,14,15] I ?_
   refine dF (σ':=[eZ ((List.replicate T.nodes.toNat 0).set d 1)]) ?_ ?_
   ·rw[hNt];unfold eZ;simp only[List.length_set,List.length_replicate];rfl
   have hI0:=pf.start (D:=D) hd
   generalize (List.replicate T.nodes.toNat (0:Int)).set d 1=cs0 at hI0
   refine aR<|ax 1 I<|b7 I I (aW.mono (yI (aO T D d false) cs0 (by omega)) (fun _ σ' h=>?_))
   obtain⟨O,hO1,hO2,rfl,rfl⟩:=h
   refine ax 1 I<|aH [1,2,3,4,5,12,14,15,16] I ?_
   have hO:=zt.of hv hd hO1 hO2
   have hOl:O.length≤12:=by have:=hO1.length_eq;have:=xQ (aO T D d false) (aO T D d false).length;omega
   refine aR<|ax 1 I<|b7 I I (aW.mono (wM O (eZ cs0) hOl) (fun _ σ' h=>?_))
   subst h
   refine aH [1,2,3,4,5,12,14,15,16] I ?_
   refine an<|af (.a 3 I<|.k [1,2,3,4,5,12,14,15,49,50,51] I)<|ay<|eY [1,2,3,4,5,12,14,15,49,50,51] I<|br (fun r st=>∃(cs:List Int) (i:Nat),i≤O.reverse.length∧r=O.reverse.length - i∧pf T D d O.reverse cs i∧st=⟨[(1,bq D),(2,num n),(3,num d),(4,num 2),(5,.bg (bI T) 0),(12,aw (aO T D d false)),(14,ew (ca (aN T) T.nodes.toNat (2*T.ae.length))),(15,.own 0),(49,.own 1),(50,num O.reverse.length),(51,num i)],[eZ cs,eZ O.reverse]⟩) O.reverse.length ⟨cs0,0,by omega,by omega,hI0 _,rfl⟩ ?_
   rintro r st ⟨cs,i,hi,rfl,hI,rfl⟩
   have hRl:O.reverse.length≤12:=by simpa using hOl
   refine af (.a 1 I<|.k [1,2,3,4,5,12,14,15,49,50,51,52] I)<|an<|aj I (fun hx=>?_) (fun hx=>?_)
   ·have hlt:i<O.reverse.length:=by have:=tt hx;omega
    obtain⟨m,hm⟩:∃m:Nat,O.reverse.getD i 0=(m:Int):=by
     obtain⟨k,hk,_⟩:=(hO.mem _).1 (List.mem_reverse.1 (cf (d:=0) hlt))
     exact⟨k,hk⟩
    obtain⟨hmN,hm0,hf0⟩:=hI.fresh hO hlt hm
    have hcl:=hI.len
    have hrow:=wo T m (by omega)
    have hnx:=tA T D (aO T D d false) (bW T m) m d hv hf hb1 hb2 hmN hd (fun a ha=>ko ha) (Nat.le_trans (eM T m _) (by omega))
    have hnx:Can Tryz.prog 72 [aZ T,bq D,aw (aO T D d false),aw (bW T m),num m,num d] (· =aw (bz T D m d)):=hnx
    have hnl:(bz T D m d).length≤512:=by
     have h1:(bz T D m d).length≤(bW T m).length:=by unfold bz eB;split;simp;exact List.length_filter_le _ _
     exact Nat.le_trans h1 (Nat.le_trans (eM T m _) (by omega))
    have hset:=Fz cs m (by omega)
    have hcr:0≤cs.getD m 0∧cs.getD m 0≤2:=by rw[hf0];split<;>omega
    refine ak<|an<|ay<|af (.v (aJ (i) I) I<|.v (aK I ((aC _ i hlt).trans (by rw[hm]))) I<|.a 1 I<|.k [1,2,3,4,5,12,14,15,18,49,50,51] I)<|fZ mixed (by kernel_rfl) (.a 5 I<|.v [58,59] (aJ (m) I (by omega) (by rw[cQ];omega)) I I<|.v [60] (aK I ((uf _ m (by rw[cQ];omega)).trans (by rw[hrow]))) I I<|.a 2 I<|.v [55,56,57,61,62,63] (eW I (hnx)) I I<|.a 2 I<|.k [1,2,3,4,5,12,14,15,18,49,50,51,64,65,66] I) ?_
    refine ay<|eY [1,2,3,4,5,12,14,15,18,49,50,51,64,65,66] I<|br (fun r st=>∃k:Nat,k≤(bz T D m d).length∧r=(bz T D m d).length - k∧st=⟨[(1,bq D),(2,num n),(3,num d),(4,num 2),(5,.bg (bI T) 0),(12,aw (aO T D d false)),(14,ew (ca (aN T) T.nodes.toNat (2*T.ae.length))),(15,.own 0),(18,num m),(49,.own 1),(50,num O.reverse.length),(51,num i),(64,aw (bz T D m d)),(65,num (bz T D m d).length),(66,num k)],[eZ (cs.set m (lf T D d (cs.getD m 0) ((bz T D m d).take k))),eZ O.reverse]⟩) (bz T D m d).length ⟨0,by omega,by omega,by rw[List.take_zero,yY,hset];rfl⟩ ?_
    rintro r st ⟨k,hk,rfl,rfl⟩
    have hfr:=wX (D:=D) hv hd (cs.getD m 0) hcr.1 hcr.2 ((bz T D m d).take k)
    have hfst:=zF (T:=T) (D:=D) (d:=d) (cs.getD m 0) (bz T D m d) k
    generalize hd12:lf T D d (cs.getD m 0) ((bz T D m d).take k)=c at hfr hfst
    refine af (.a 1 I<|.k [1,2,3,4,5,12,14,15,18,49,50,51,64,65,66,67] I)<|an<|aj I (fun hy=>?_) (fun hy=>?_)
    ·have hkl:k<(bz T D m d).length:=by have:=tt hy;omega
     obtain⟨a,ha,han⟩:=cT (cf (d:=0) hkl)
     have hmem:(a:Int)∈bz T D m d:=by rw[←ha];exact cf hkl
     obtain⟨y,hyh,hyN⟩:=di hv han.iu
     obtain⟨hcy,hym,_⟩:=hI.next hv hd hO hlt hm hmem hyh
     have hh:=ed T a han.iu (by omega)
     rw[hyh]at hh
     have hcyr:=kM (D:=D) hv hd y
     have hg1:(cs.set m c).getD y 0=dL T D d y:=by rw[←hcy,List.getD_eq_getElem?_getD,List.getElem?_set,if_neg (fun e=>hym e.symm),←List.getD_eq_getElem?_getD]
     have hg2:(cs.set m c).getD m 0=c:=by rw[List.getD_eq_getElem?_getD,List.getElem?_set,if_pos rfl,if_pos (by omega)];rfl
     have hfst:=hfst a hkl ha
     rw[hyh,Int.toNat_natCast]at hfst
     refine ak<|an<|ay<|af (.v (aJ (k) I) I<|.v (aK I ((aC _ k hkl).trans (by rw[ha]))) I<|.a 1 I<|.k [1,2,3,4,5,12,14,15,18,20,49,50,51,64,65,66] I)<|af (.a 3 I<|.c rfl (hh) I<|.v (aJ (y) I (by omega) (by simp only[List.length_set];omega)) I<|.v (aK I ((aC _ y (by simp only[List.length_set];omega)).trans (by rw[hg1]))) I<|.a 1 I<|.k [1,2,3,4,5,12,14,15,18,21,49,50,51,64,65,66] I)<|af (.a 4 I<|.v (aJ (m) I (by omega) (by simp only[List.length_set];omega)) I<|.v (aK I ((aC _ m (by simp only[List.length_set];omega)).trans (by rw[hg2]))) I<|.v (aU I) I<|.a 1 I<|.k [1,2,3,4,5,12,14,15,18,21,49,50,51,64,65,66,83] I)<|aj I (fun hz=>?_) (fun hz=>?_)
     ·have hv2:lf T D d (cs.getD m 0) ((bz T D m d).take (k+1))=2:=by have:=tt hz;omega
      refine bx<|ax 3 I<|bw (aJ (m) I (by omega) (by simp only[List.length_set];omega)) I<|ba ((by first|exact bM I (bG.tk.get I) I I I (by first|omega|(simp;omega))|exact aX I (bG.tk.get I) I I I (by first|omega|(simp;omega)))) I I<|aH [1,2,3,4,5,12,14,15,18,49,50,51,64,65,66] I ?_
      refine aF (.v (aU I) I<|.a 1 I<|.k [1,2,3,4,5,12,14,15,18,49,50,51,64,65,66] I) ?_
      refine⟨(bz T D m d).length - (k+1),by omega,k+1,by omega,rfl,?_⟩
      rw[hv2]
      unfold eZ
      simp only[List.length_set,List.set_set]
      rfl
     ·have hv2:lf T D d (cs.getD m 0) ((bz T D m d).take (k+1))=c+dL T D d y:=by have:=ff hz;omega
      refine bx<|ax 2 I<|bw (aJ (m) I (by omega) (by simp only[List.length_set];omega)) I<|bw (aK I ((aC _ m (by simp only[List.length_set];omega)).trans (by rw[hg2]))) I<|ax 1 I<|bw (aU I) I<|bw (aJ (m) I (by omega) (by simp only[List.length_set];omega)) I<|ba ((by first|exact bM I (bG.tk.get I) I I I (by first|omega|(simp;omega))|exact aX I (bG.tk.get I) I I I (by first|omega|(simp;omega)))) I I<|aH [1,2,3,4,5,12,14,15,18,49,50,51,64,65,66] I ?_
      refine aF (.v (aU I) I<|.a 1 I<|.k [1,2,3,4,5,12,14,15,18,49,50,51,64,65,66] I) ?_
      refine⟨(bz T D m d).length - (k+1),by omega,k+1,by omega,rfl,?_⟩
      rw[hv2]
      unfold eZ
      simp only[List.length_set,List.set_set]
      rfl
    ·have hke:k=(bz T D m d).length:=by have:=ff hy;omega
     refine bp<|aF (.v (aU I) I<|.a 1 I<|.k [1,2,3,4,5,12,14,15,49,50,51] I) ?_
     have hI2:=hI.step hv hd hO hlt hm
     rw[hke,List.take_length]at hd12
     exact⟨O.reverse.length - (i+1),by omega,cs.set m (lf T D d (cs.getD m 0) (bz T D m d)),i+1,by omega,rfl,hI2,by rw[hd12];rfl⟩
   ·have hie:i=O.reverse.length:=by have:=ff hx;omega
    subst hie
    have hres:=hI.done hv hd hO hn
    have hcl:=hI.len
    exact bp<|af (.a 2 I<|.v (aJ (n) I) I<|.v (aK I ((aC cs n (by omega)).trans (by rw[hres]))) I<|.a 2 I<|.k [10,11] I)<|az<|⟨_,_,aE.of I,aD.pure,by unfold Jr;rw[he,if_pos rfl];rfl⟩
theorem Cd(T:ah)(D:List Bool)(n d:Int):fw T D n d=(decide (cF T D n d=0)&&decide ((if cF T D n d=0 then dL T D d.toNat n.toNat else 0)=1)):=by
 unfold fw
 by_cases h:cF T D n d=0
 ·rw[if_pos h]
 ·simp[h]
set_option maxHeartbeats 2000000 in
theorem rH(T:ah)(D:List Bool)(n d:Int)(h12:T.nodes≤12):Can Tryz.prog 74 [aZ T,bq D,num n,num d] (· =flag (fw T D n d)):=by
 rw[Cd]
 obtain⟨q1,hq1⟩:∃q,decide (cF T D n d=0)=q:=⟨_,rfl⟩
 obtain⟨q2,hq2⟩:∃q,decide ((if cF T D n d=0 then dL T D d.toNat n.toNat else 0)=1)=q:=⟨_,rfl⟩
 rw[hq1,hq2]
 refine aT Tryz.func74 I Tryz.ntmps74 I<|af (.a 2 I<|.k [1,2,3,4] I)<|af (.a 4 I<|.c rfl (Cs T D n d h12) I<|.a 5 I<|.k [9,10] I)<|bP 8 (.raw (.bool (q1&&q2))) [] I ?_ ?_
 ·refine .a 1 I<|.v (cD I (hq1)) I<|.a 1 I<|?_
  cases q1
  ·exact .a 4 I<|.k [8] I
  ·exact .a 1 I<|.v (cD I (hq2)) I<|.a 2 I<|.k [8] I
 exact az<|⟨_,_,aE.of I,aD.pure,rfl⟩
structure Jc (L out:List Int) (i:Nat) (b:Int):Prop where
 none:b<0→∀k:Nat,k<i→0≤L.getD k 0→(k:Int)∈out
 some:∀n:Nat,b=(n:Int)→n<i∧0≤L.getD n 0∧¬(n:Int)∈out∧∀k:Nat,k<i→0≤L.getD k 0→¬(k:Int)∈out→L.getD k 0≤L.getD n 0
theorem Jc.no{L out:List Int}{i:Nat}{b:Int}(h:Jc L out i b)(h1:¬(0≤L.getD i 0∧¬(i:Int)∈out∧(b<0∨∃n:Nat,b=(n:Int)∧L.getD n 0<L.getD i 0))):Jc L out (i+1) b:=by
 refine⟨fun hb k hk hk0=>?_,fun n hn=>?_⟩
 ·by_cases hki:k=i
  ·subst hki;exact Classical.byContradiction fun ho=>h1 ⟨hk0,ho,.inl hb⟩
  ·exact h.none hb k (by omega) hk0
 ·obtain⟨a1,a2,a3,a4⟩:=h.some n hn
  refine⟨by omega,a2,a3,fun k hk hk0 hko=>?_⟩
  by_cases hki:k=i
  ·subst hki;exact Int.not_lt.1 fun hl=>h1 ⟨hk0,hko,.inr ⟨n,hn,hl⟩⟩
  ·exact a4 k (by omega) hk0 hko
structure Part (L out:List Int):Prop where
 nodup:out.Nodup
 mem:∀x∈out,∃k:Nat,x=(k:Int)∧k<L.length∧0≤L.getD k 0
 pair:out.Pairwise fun x y=>L.getD y.toNat 0≤L.getD x.toNat 0
 rest:∀x∈out,∀k:Nat,k<L.length→0≤L.getD k 0→¬(k:Int)∈out→L.getD k 0≤L.getD x.toNat 0
theorem Part.len{L out:List Int}(h:Part L out):out.length≤L.length:=by
 have h1:=rF L.length (out.map Int.toNat) (by
  unfold List.Nodup
  rw[List.pairwise_map]
  refine List.Pairwise.imp_of_mem ?_ h.nodup
  intro a b ha hb hne e
  obtain⟨k,rfl,_⟩:=h.mem a ha
  obtain⟨k',rfl,_⟩:=h.mem b hb
  simp only[Int.toNat_natCast]at e
  exact hne (by rw[e])) (fun x hx=>by
  obtain⟨y,hy,rfl⟩:=List.mem_map.1 hx
  obtain⟨k,rfl,hk,_⟩:=h.mem y hy
  simpa using hk)
 simpa using h1
end
section
open Go.RowKit cj Mem
section
variable {P:Program} {kt e:TypeId}
theorem AZ(a b:Int):(a==b)=decide (a=b):=Bool.eq_iff_iff.2 (by simp)
theorem Ae(b:Bool)(n:Nat)(hu:P.underlying kt=some (.int .i64))(a:Int)(w:World):(Instr.checkKey b (n+1) kt (.int .i64 a)).run P w= .ok () w:=by
 simp only[Instr.checkKey,Sem.run_bind,run_underlying hu,Result.andThen_ok,Sem.run_pure]
theorem eq_int(n:Nat)(hu:P.underlying kt=some (.int .i64))(a b:Int)(w:World):(Op.equalIn (n+1) kt (.int .i64 a) (.int .i64 b)).run P w= .ok (decide (a=b)) w:=by
 simp only[Op.equalIn,Sem.run_bind,run_underlying hu,Result.andThen_ok,if_true,Sem.run_pure,AZ]
theorem FZ(hu:P.underlying kt=some (.int .i64)):gm P kt (fun n:Int=>Value.int .i64 n) where
 nI:=fun b a w=>Ae b 9999 hu a w
 eql:=fun a b w=>eq_int _ hu a b w
 now:=⟨_,hu,.inl fun a b=>by simp only[Instr.sameNow,if_true,AZ]⟩
 bits:=fun a=>by unfold Instr.sameBits;simp
theorem oB(he:P.underlying e=some (.int .i64)){xs:Array Value}{off:Nat}{v:Value}(hx:xs[off]? =some v)(w:World):(Go.part e xs off).run P w= .ok v w:=by
 simp[Go.part,isAgg,run_underlying he,hx]
abbrev pS(p:Int×Int):Array Value:= #[.int .i64 p.1,.int .i64 p.2]
theorem H9(he:P.underlying e=some (.int .i64))(a:Int×Int)(w:World):(Go.part e (pS a) 0).run P w= .ok (.int .i64 a.1) w:=oB he rfl w
theorem ts(he:P.underlying e=some (.int .i64))(a:Int×Int)(w:World):(Go.part e (pS a) 1).run P w= .ok (.int .i64 a.2) w:=oB he rfl w
theorem Du{i:TypeInfo}(hu:P.underlying kt=some (.array 2 e))(he:P.underlying e=some (.int .i64))(hi:P.info? e=some i)(hs:i.size=1)(b:Bool)(n:Nat)(a:Int×Int)(w:World):(Instr.checkKey b (n+1+1) kt (.agg (pS a))).run P w= .ok () w:=by
 have hz:(sizeOf e).run P w= .ok 1 w:=by simp[sizeOf,typeInfo,program,Sem.run,hi,hs]
 have hr:List.range' 0 2=[0,1]:=rfl
 rw[Instr.checkKey]
 simp only[Sem.run_bind,run_underlying hu,Result.andThen_ok]
 simp only[Std.Legacy.Range.forIn_eq_forIn_range',Std.Legacy.Range.size,Nat.sub_zero,Nat.add_one_sub_one,Nat.div_one]
 rw[hr]
 simp only[List.forIn_cons,List.forIn_nil,Sem.run_bind,hz,Result.andThen_ok,Sem.run_pure,Nat.mul_one,H9 he,ts he,Ae b n he]
theorem Gq{i:TypeInfo}(hu:P.underlying kt=some (.array 2 e))(he:P.underlying e=some (.int .i64))(hi:P.info? e=some i)(hs:i.size=1)(n:Nat)(a b:Int×Int)(w:World):(Op.equalIn (n+1+1) kt (.agg (pS a)) (.agg (pS b))).run P w= .ok (decide (a=b)) w:=by
 have hsz:P.cellsOf e=1:=by simp[Program.cellsOf,hi,hs]
 rw[run_equalIn_array w (n+1) _ _ hu hi,hsz]
 show(Op.eqItems (n+1) e 1 _ _ [0,1]).run P w=_
 simp only[Op.eqItems,Sem.run_bind,Nat.mul_one,H9 he,ts he,Result.andThen_ok,eq_int n he,Sem.run_pure]
 obtain⟨a1,a2⟩:=a
 obtain⟨b1,b2⟩:=b
 by_cases h1:a1=b1<;>by_cases h2:a2=b2<;>simp[h1,h2,Sem.run_bind,ts he,eq_int n he,Op.eqItems]
theorem Ge{i:TypeInfo}(hu:P.underlying kt=some (.array 2 e))(he:P.underlying e=some (.int .i64))(hi:P.info? e=some i)(hs:i.size=1):gm P kt (fun p:Int×Int=>Value.agg (pS p)) where
 nI:=fun b a w=>Du hu he hi hs b 9998 a w
 eql:=fun a b w=>Gq hu he hi hs 9998 a b w
 now:=⟨_,hu,.inr fun a b=>by simp only[Instr.sameNow]⟩
 bits:=fun a=>by
  have h:=fun(n:Nat) (x:Int)=>show Instr.sameBits n (.int .i64 x) (.int .i64 x)=true by unfold Instr.sameBits;simp
  show Instr.sameBits (9999+1) _ _=true
  rw[Instr.sameBits]
  simp only[List.zip_cons_cons,List.all_cons,h]
  rfl
end
end
end PW
end Go.Proofs.YteikppbedmmdnaaGreatDoor
