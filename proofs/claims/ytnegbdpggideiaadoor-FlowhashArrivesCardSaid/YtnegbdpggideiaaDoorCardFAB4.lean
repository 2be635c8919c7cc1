/- Texts of the proof, part 4. -/
import Derived.Laws.Bits64
import Derived.Test.YtnegbdpggideiaaDoorProg
import Derived.WalkKit
import Derived.ProofKit
import Derived.Lib.Hide
import Derived.Below
import Derived.RangeFuncNested
import Derived.RangeFuncBound
import Derived.RangeFuncCalls
import Derived.RangeFuncLeaves
import Derived.Shelf.Abstract
import Derived.Shelf.RegionOpen
import Derived.OwnWalkIn
import Derived.TacticsInMore
import Derived.LoopNIn
import Derived.LoopIn
import Derived.RangeFuncFrom
import Derived.Test.YtnegbdpggideiaaDoorCardFAB3
set_option linter.unusedVariables false
set_option linter.unusedSimpArgs false
set_option maxRecDepth 10000
set_option maxHeartbeats 1000000
namespace Go.Proofs.YtnegbdpggideiaaDoor
namespace kb
def yB(f n a:Int):Int:=
 IntKind.u64.wrap (IntKind.u64.wrap (IntKind.u64.wrap (IntKind.u64.wrap f*11400714819323198485)+IntKind.u64.wrap (IntKind.u64.wrap n*13787848793156543929))+IntKind.u64.wrap (IntKind.u64.wrap a*10723151780598845931))
def rA(x s c:Int):Int:=IntKind.u64.wrap (bits BinOp.xor IntKind.u64 x (x / s)*c)
def mB(x:Int):Int:=bits BinOp.xor IntKind.u64 x (x / 2147483648)
def wt(f n a:Int):Int:=mB (rA (rA (yB f n a) 1073741824 13787848793156543929) 134217728 10723151780598845931)
theorem vX(x:Int):0≤IntKind.u64.wrap x∧IntKind.u64.wrap x<18446744073709551616:=by
 rw[IntKind.wrap_u64];omega
theorem vk(x y:Int):0≤bits .xor .u64 x y∧bits .xor .u64 x y<18446744073709551616:=vX _
theorem uA(x:Int):0≤mB x∧mB x<18446744073709551616:=vk _ _
theorem pQ(x:Int):IntKind.u64.wrap (mB x)=mB x:=by
 have h:=uA x
 rw[IntKind.wrap_u64];omega
theorem o1(f n a:Int):mB (rA (rA (yB f n a) 1073741824 13787848793156543929) 134217728 10723151780598845931)=wt f n a:=rfl
attribute [irreducible] wt
def fY(a b:Int):Int:=if a<b then -1 else if b<a then 1 else 0
theorem qj(a b:Int)(h1:b≤a)(h2:a≤b):0=fY a b:=by
 unfold fY;rw[if_neg (by omega),if_neg (by omega)]
def tQ(a b:Int):Int:=if a=0 then b else a
def mI(f n a b:Int):Int:=
 tQ (fY (wt f n a) (wt f n b)) (fY b a)
def pick(f n best x:Int):Int:=if 0<mI f n x best then x else best
def choose(f n:Int):List Int→Int
 | []=> -1
 |h::t=>t.foldl (pick f n) h
def nth(L:List Int)(i:Nat):Int:=L.getD i 0
theorem se(L:List Int)(k:Nat)(h:k<L.length):L.take (k+1)=L.take k++[nth L k]:=by
 rw[List.take_succ_eq_append_getElem h];simp[nth,h]
theorem pb(g:Int→Int→Int)(h x:Int)(t:List Int):List.foldl g h (t++[x])=g (List.foldl g h t) x:=by rw[List.foldl_append];rfl
theorem dM(f n h:Int)(t:List Int):choose f n (h::t)=t.foldl (pick f n) h:=by rw[choose]
theorem nB(f n:Int)(L:List Int)(hL:1≤L.length)(x:Int):choose f n (L++[x])=pick f n (choose f n L) x:=by
 cases L with
 |nil=>simp at hL
 |cons h t=>exact(dM f n h (t++[x])).trans ((pb (pick f n) h x t).trans (congrArg (fun z=>pick f n z x) (dM f n h t).symm))
theorem o3(f n:Int)(L:List Int)(h:1≤L.length):choose f n (L.take 1)=nth L 0:=by
 cases L with
 |nil=>simp at h
 |cons a t=>exact dM f n a []
theorem oK(f n:Int)(L:List Int)(k:Nat)(h1:1≤k)(h:k<L.length):choose f n (L.take (k+1))=pick f n (choose f n (L.take k)) (nth L k):=by
 rw[se L k h,nB f n _ (by simp;omega)]
theorem lh(f n b x:Int)(h:0<mI f n x b):pick f n b x=x:=by unfold pick;first|rw[if_pos h]|rw[if_neg h]
theorem mH(f n b x:Int)(h:¬0<mI f n x b):pick f n b x=b:=by unfold pick;first|rw[if_pos h]|rw[if_neg h]
theorem vr(f n b x:Int)(h:wt f n b<wt f n x):pick f n b x=x:=by
 apply lh;unfold mI tQ fY;rw[if_neg (by omega:¬wt f n x<wt f n b),if_pos h,if_neg (by decide)];decide
theorem vA(f n b x:Int)(h:wt f n x<wt f n b):pick f n b x=b:=by
 apply mH;unfold mI tQ fY;rw[if_pos h,if_neg (by decide)];decide
theorem p6(f n b x:Int)(h:wt f n x=wt f n b)(h2:x<b):pick f n b x=x:=by
 apply lh;unfold mI tQ fY;rw[if_neg (by omega:¬wt f n x<wt f n b),if_neg (by omega:¬wt f n b<wt f n x),if_pos rfl,if_neg (by omega),if_pos h2];decide
theorem qf(f n b x:Int)(h:wt f n x=wt f n b)(h2:¬x<b):pick f n b x=b:=by
 apply mH;unfold mI tQ fY;rw[if_neg (by omega:¬wt f n x<wt f n b),if_neg (by omega:¬wt f n b<wt f n x),if_pos rfl]
 by_cases h3:b<x
 ·rw[if_pos h3];decide
 ·rw[if_neg h3,if_neg h2];decide
theorem wJ:wt 0 0 0=0:=by rw[←o1];decide+kernel
theorem pR(f n:Int):choose f n []= -1:=by rw[choose]
theorem lL(f n x:Int):choose f n [x]=x:=by rw[dM,List.foldl_nil]
end kb
end Go.Proofs.YtnegbdpggideiaaDoor
namespace Go.Proofs.YtnegbdpggideiaaDoor
namespace kb
open Go.ChangeShapes Go.WideShapes Go.ChangeAt Go.RowKit
set_option maxRecDepth 100000
theorem dv{k:IntKind}{a b:Int}(h:a=b):Ending.returned (.int k a)= .returned (.int k b):=by rw[h]
theorem uO{k:IntKind}{a b:Int}(h:a=b):Value.int k a= .int k b:=by rw[h]
theorem fJ(a0 a1 a2:Int)(w:World):
  Calls Tryd.prog 26 #[.int .i64 a0,.int .i64 a1,.int .i64 a2] w fun e w'=>e= .returned (.int .u64 (wt a0 a1 a2))∧w=w':=by
 go_enter Tryd.func26,Tryd.ntmps26
 go_wp2
 go_ret
 exact⟨dv (o1 a0 a1 a2),rfl⟩
theorem lI(a0 a1 a2:Int)(w:World):
  Calls Tryd.prog 27 #[.int .i64 a0,.int .i64 a1,.int .i64 a2] w fun e w'=>e= .returned (.int .u64 (wt a0 a1 a2))∧w=w':=by
 have h1:=pQ (rA (rA (yB a0 a1 a2) 1073741824 13787848793156543929) 134217728 10723151780598845931)
 have H1:=Lib.hid h1
 clear h1
 go_enter Tryd.func27,Tryd.ntmps27
 go_wp2
 go_ret
 exact⟨dv (H1.out.trans (o1 a0 a1 a2)),rfl⟩
theorem uh(a b:Int)(w:World):
  Calls Tryd.prog 40 #[.int .u64 a,.int .u64 b] w fun e w'=>e= .returned (.int .i64 (fY a b))∧w=w':=by
 by_cases h1:a<b
 ·go_enter Tryd.func40,Tryd.ntmps40
  go_wp2
  go_ret
  exact⟨dv (by simp[fY,h1]),rfl⟩
 ·by_cases h2:b<a
  ·go_enter Tryd.func40,Tryd.ntmps40
   go_wp2
   go_ret
   exact⟨dv (by simp[fY,h1,h2]),rfl⟩
  ·go_enter Tryd.func40,Tryd.ntmps40
   go_wp2
   go_ret
   exact⟨dv (qj a b (by omega) (by omega)),rfl⟩
theorem pj(a b:Int)(w:World):
  Calls Tryd.prog 41 #[.int .i64 a,.int .i64 b] w fun e w'=>e= .returned (.int .i64 (fY a b))∧w=w':=by
 by_cases h1:a<b
 ·go_enter Tryd.func41,Tryd.ntmps41
  go_wp2
  go_ret
  exact⟨dv (by simp[fY,h1]),rfl⟩
 ·by_cases h2:b<a
  ·go_enter Tryd.func41,Tryd.ntmps41
   go_wp2
   go_ret
   exact⟨dv (by simp[fY,h1,h2]),rfl⟩
  ·go_enter Tryd.func41,Tryd.ntmps41
   go_wp2
   go_ret
   exact⟨dv (qj a b (by omega) (by omega)),rfl⟩
theorem wI(a b:Int)(B off:Nat)(c:Nat)(w:World)(h0:w.cell? ⟨B,off,none⟩=some (.int .i64 a))(h1:w.cell? ⟨B,off+1,none⟩=some (.int .i64 b)):
  Calls Tryd.prog 39 #[.slice (some ⟨B,off,none⟩) 2 c] w fun e w'=>e= .returned (.int .i64 (tQ a b))∧w=w':=by
 by_cases ha:a=0
 ·have hor:=Lib.hid (show b=tQ a b by simp[tQ,ha])
  have ha':(a !=0)=false:=by simp[ha]
  by_cases hb:b=0
  ·have hb':(b !=0)=false:=by simp[hb]
   have hz:=Lib.hid (show 0=tQ a b by rw[←hor.out,hb])
   clear ha hb
   go_enter Tryd.func39,Tryd.ntmps39
   go_wp2
   refine wp_loop_rounds 3 ?_
   rw[rounds_succ]
   go_wp2
   rw[rounds_succ]
   go_wp2
   rw[rounds_succ]
   go_wp2
   go_ret
   exact⟨dv hz.out,rfl⟩
  ·have hb':(b !=0)=true:=by simp[hb]
   clear ha hb
   go_enter Tryd.func39,Tryd.ntmps39
   go_wp2
   refine wp_loop_rounds 2 ?_
   rw[rounds_succ]
   go_wp2
   rw[rounds_succ]
   go_wp2
   go_ret
   exact⟨dv hor.out,rfl⟩
 ·have hor:=Lib.hid (show a=tQ a b by simp[tQ,ha])
  have ha':(a !=0)=true:=by simp[ha]
  clear ha
  go_enter Tryd.func39,Tryd.ntmps39
  go_wp2
  refine wp_loop_rounds 1 ?_
  rw[rounds_succ]
  go_wp2
  go_ret
  exact⟨dv hor.out,rfl⟩
open aN in
theorem ny(f n a b:Int)(pf pn:Addr)(w:World)(h0:w.cell? pf=some (.int .i64 f))(h1:w.cell? pn=some (.int .i64 n)):
  Calls Tryd.prog 38 #[.int .i64 a,.int .i64 b,.pointer (some pf),.pointer (some pn)] w fun e w'=>e= .returned (.int .i64 (mI f n a b))∧Ext w w':=by
 go_enter Tryd.func38,Tryd.ntmps38
 go_wp2_with fail
 refine aN.ic (fun w=>(w.cell? pf=some (.int .i64 f))∧(w.cell? pn=some (.int .i64 n))) [7,8,9,10,11,12,13,14,15,16,17,18,19,20,6] (fun w w' hE h=>⟨hE.cell h.1,hE.cell h.2⟩) (⟨by assumption,by assumption⟩) (by kernel_rfl) (by kernel_rfl) (by kernel_rfl) ?_
 refine aN.ca ?_
 apply Exists.intro
 refine⟨?_,?_⟩
 ·intro ρ w₁ hρ hC hs
  have e2:=hs 2 (by decide)
  have hc:=hρ.const
  have hf:=hρ.func
  have hg:=hρ.gY
  clear hs hρ
  change ρ (.tmp 2)=_ at e2
  obtain⟨hE,⟨hS1,hS2⟩⟩:=hC
  refine aN.bt rfl ?_
  clear hf
  go_simp
  exact⟨aN.Ext.refl _,rfl⟩
 refine aN.ca ?_
 apply Exists.intro
 refine⟨?_,?_⟩
 ·intro ρ w₁ hρ hC hs
  have e3:=hs 3 (by decide)
  have hc:=hρ.const
  have hf:=hρ.func
  have hg:=hρ.gY
  clear hs hρ
  change ρ (.tmp 3)=_ at e3
  obtain⟨hE,⟨hS1,hS2⟩⟩:=hC
  refine aN.bt rfl ?_
  clear hf
  go_simp
  exact⟨aN.Ext.refl _,rfl⟩
 refine aN.ca ?_
 apply Exists.intro
 refine⟨?_,?_⟩
 ·intro ρ w₁ hρ hC hs
  have e0:=hs 0 (by decide)
  have hc:=hρ.const
  have hf:=hρ.func
  have hg:=hρ.gY
  clear hs hρ
  change ρ (.tmp 0)=_ at e0
  obtain⟨hE,⟨hS1,hS2⟩⟩:=hC
  refine aN.bt rfl ?_
  clear hf
  go_simp
  exact⟨aN.Ext.refl _,rfl⟩
 refine aN.ca ?_
 apply Exists.intro
 refine⟨?_,?_⟩
 ·intro ρ w₁ hρ hC hs
  have e7:=hs 7 (by decide)
  have e8:=hs 8 (by decide)
  have e9:=hs 9 (by decide)
  have hc:=hρ.const
  have hf:=hρ.func
  have hg:=hρ.gY
  clear hs hρ
  change ρ (.tmp 7)=_ at e7
  change ρ (.tmp 8)=_ at e8
  change ρ (.tmp 9)=_ at e9
  obtain⟨hE,⟨hS1,hS2⟩⟩:=hC
  refine aN.bt rfl ?_
  rw[aN.du hf]
  clear hf
  go_simp
  refine⟨aN.Ext.refl _,?_⟩
  with_reducible exact gj (fJ _ _ _ _)
 refine aN.ca ?_
 apply Exists.intro
 refine⟨?_,?_⟩
 ·intro ρ w₁ hρ hC hs
  have e2:=hs 2 (by decide)
  have hc:=hρ.const
  have hf:=hρ.func
  have hg:=hρ.gY
  clear hs hρ
  change ρ (.tmp 2)=_ at e2
  obtain⟨hE,⟨hS1,hS2⟩⟩:=hC
  refine aN.bt rfl ?_
  clear hf
  go_simp
  exact⟨aN.Ext.refl _,rfl⟩
 refine aN.ca ?_
 apply Exists.intro
 refine⟨?_,?_⟩
 ·intro ρ w₁ hρ hC hs
  have e3:=hs 3 (by decide)
  have hc:=hρ.const
  have hf:=hρ.func
  have hg:=hρ.gY
  clear hs hρ
  change ρ (.tmp 3)=_ at e3
  obtain⟨hE,⟨hS1,hS2⟩⟩:=hC
  refine aN.bt rfl ?_
  clear hf
  go_simp
  exact⟨aN.Ext.refl _,rfl⟩
 refine aN.ca ?_
 apply Exists.intro
 refine⟨?_,?_⟩
 ·intro ρ w₁ hρ hC hs
  have e1:=hs 1 (by decide)
  have hc:=hρ.const
  have hf:=hρ.func
  have hg:=hρ.gY
  clear hs hρ
  change ρ (.tmp 1)=_ at e1
  obtain⟨hE,⟨hS1,hS2⟩⟩:=hC
  refine aN.bt rfl ?_
  clear hf
  go_simp
  exact⟨aN.Ext.refl _,rfl⟩
 refine aN.ca ?_
 apply Exists.intro
 refine⟨?_,?_⟩
 ·intro ρ w₁ hρ hC hs
  have e11:=hs 11 (by decide)
  have e12:=hs 12 (by decide)
  have e13:=hs 13 (by decide)
  have hc:=hρ.const
  have hf:=hρ.func
  have hg:=hρ.gY
  clear hs hρ
  change ρ (.tmp 11)=_ at e11
  change ρ (.tmp 12)=_ at e12
  change ρ (.tmp 13)=_ at e13
  obtain⟨hE,⟨hS1,hS2⟩⟩:=hC
  refine aN.bt rfl ?_
  rw[aN.du hf]
  clear hf
  go_simp
  refine⟨aN.Ext.refl _,?_⟩
  with_reducible exact gj (fJ _ _ _ _)
 refine aN.ca ?_
 apply Exists.intro
 refine⟨?_,?_⟩
 ·intro ρ w₁ hρ hC hs
  have e10:=hs 10 (by decide)
  have e14:=hs 14 (by decide)
  have hc:=hρ.const
  have hf:=hρ.func
  have hg:=hρ.gY
  clear hs hρ
  change ρ (.tmp 10)=_ at e10
  change ρ (.tmp 14)=_ at e14
  obtain⟨hE,⟨hS1,hS2⟩⟩:=hC
  refine aN.bt rfl ?_
  rw[aN.du hf]
  clear hf
  go_simp
  refine⟨aN.Ext.refl _,?_⟩
  with_reducible exact gj (uh _ _ _)
 refine aN.ca ?_
 apply Exists.intro
 refine⟨?_,?_⟩
 ·intro ρ w₁ hρ hC hs
  have e1:=hs 1 (by decide)
  have hc:=hρ.const
  have hf:=hρ.func
  have hg:=hρ.gY
  clear hs hρ
  change ρ (.tmp 1)=_ at e1
  obtain⟨hE,⟨hS1,hS2⟩⟩:=hC
  refine aN.bt rfl ?_
  clear hf
  go_simp
  exact⟨aN.Ext.refl _,rfl⟩
 refine aN.ca ?_
 apply Exists.intro
 refine⟨?_,?_⟩
 ·intro ρ w₁ hρ hC hs
  have e0:=hs 0 (by decide)
  have hc:=hρ.const
  have hf:=hρ.func
  have hg:=hρ.gY
  clear hs hρ
  change ρ (.tmp 0)=_ at e0
  obtain⟨hE,⟨hS1,hS2⟩⟩:=hC
  refine aN.bt rfl ?_
  clear hf
  go_simp
  exact⟨aN.Ext.refl _,rfl⟩
 refine aN.ca ?_
 apply Exists.intro
 refine⟨?_,?_⟩
 ·intro ρ w₁ hρ hC hs
  have e16:=hs 16 (by decide)
  have e17:=hs 17 (by decide)
  have hc:=hρ.const
  have hf:=hρ.func
  have hg:=hρ.gY
  clear hs hρ
  change ρ (.tmp 16)=_ at e16
  change ρ (.tmp 17)=_ at e17
  obtain⟨hE,⟨hS1,hS2⟩⟩:=hC
  refine aN.bt rfl ?_
  rw[aN.du hf]
  clear hf
  go_simp
  refine⟨aN.Ext.refl _,?_⟩
  with_reducible exact gj (pj _ _ _)
 refine aN.sj (fun v w=>∃g,v= .slice (some ⟨g,0,none⟩) 2 2∧w.cell? ⟨g,0,none⟩=some (.int .i64 (fY (wt f n a) (wt f n b)))∧w.cell? ⟨g,1,none⟩=some (.int .i64 (fY b a))) (fun v w w' hE ⟨g,h1,h2,h3⟩=>⟨g,h1,hE.cell h2,hE.cell h3⟩) ?_ ?_
 ·intro ρ w₁ hρ hC hs
  have e15:=hs 15 (by decide)
  have e18:=hs 18 (by decide)
  have hc:=hρ.const
  have hf:=hρ.func
  have hg:=hρ.gY
  clear hs hρ
  change ρ (.tmp 15)=_ at e15
  change ρ (.tmp 18)=_ at e18
  obtain⟨hE,⟨hS1,hS2⟩⟩:=hC
  refine aN.bt rfl ?_
  clear hf
  go_simp
  exact⟨(Ext.refl _).alloc _,_,rfl,by simp[go_sem],by simp[go_sem]⟩
 refine aN.ca ?_
 apply Exists.intro
 refine⟨?_,?_⟩
 ·intro ρ w₁ hρ hC hs
  have e19:=hs 19 (by decide)
  have hc:=hρ.const
  have hf:=hρ.func
  have hg:=hρ.gY
  clear hs hρ
  obtain⟨g,e19,c1,c2⟩:=e19
  obtain⟨hE,⟨hS1,hS2⟩⟩:=hC
  refine aN.bt rfl ?_
  rw[aN.du hf]
  clear hf
  go_simp
  refine⟨aN.Ext.refl _,?_⟩
  with_reducible exact gj (wI _ _ _ _ _ _ c1 c2)
 refine aN.ca ?_
 apply Exists.intro
 refine⟨?_,?_⟩
 ·intro ρ w₁ hρ hC hs
  have e20:=hs 20 (by decide)
  have hc:=hρ.const
  have hf:=hρ.func
  have hg:=hρ.gY
  clear hs hρ
  change ρ (.tmp 20)=_ at e20
  obtain⟨hE,⟨hS1,hS2⟩⟩:=hC
  refine aN.bt rfl ?_
  clear hf
  go_simp
  exact⟨aN.Ext.refl _,rfl⟩
 refine aN.q9 ?_
 intro w₁ hE hS
 obtain⟨hS1,hS2⟩:=hS
 refine aN.bO _ rfl ?_
 refine aN.bO _ rfl ?_
 refine aN.bO _ rfl ?_
 refine aN.bO _ rfl ?_
 refine aN.bO _ rfl ?_
 refine aN.bO _ rfl ?_
 refine aN.bO _ rfl ?_
 refine aN.bO _ rfl ?_
 refine aN.bO _ rfl ?_
 refine aN.bO _ rfl ?_
 refine aN.bO _ rfl ?_
 refine aN.bO _ rfl ?_
 refine aN.sx (fun x19 h19=>?_)
 change _ at h19
 refine aN.bO _ rfl ?_
 refine aN.bO _ rfl ?_
 show _
 simp only[aN.jo,List.setIfInBounds_toArray,List.set_cons_succ,List.set_cons_zero]
 go_wp2
 go_ret
 exact⟨rfl,hE⟩
open aN in
theorem ob(f n:Int)(pf pn:Addr)(w:World)(h0:w.cell? pf=some (.int .i64 f))(h1:w.cell? pn=some (.int .i64 n))(b off m c:Nat)(L:List Int)(hL:L.length=m)(hm1:1≤m)(hm:m≤9223372036854775807)
  (hc:∀i,i<m→w.cell? ⟨b,off+i,none⟩=some (.int .i64 (nth L i))):
  Calls Tryd.prog 37 #[.slice (some ⟨b,off,none⟩) m c,.func (.func 38) #[] #[.pointer (some pf),.pointer (some pn)]] w (wR (fun v _=>v= .int .i64 (choose f n L)) w):=by
 have hc0:w.cell? ⟨b,off,none⟩=some (.int .i64 (nth L 0)):=hc 0 (by omega)
 have HL:=Lib.hid hL
 have HC:=Lib.hid hc
 have hdec:decide ((m:Int)<1)=false:=by simp;omega
 clear hL hc
 go_enter Tryd.func37,Tryd.ntmps37
 go_wp2_with fail
 go_loopw [5,6] (fun v i wr=>∃k:Nat,1≤k∧k≤m∧i= .int .i64 k∧v= .int .i64 (choose f n (L.take k))∧Ext w wr) (fun _ i _=>m - (intOf i).toNat)
 case atStart=>exact⟨1,by omega,by omega,rfl,by rw[o3 f n L (by rw[HL.out];exact hm1)],Ext.refl _⟩
 case round=>
  obtain⟨k,hk1,hk2,rfl,rfl,hE⟩:=hrel
  by_cases hlt:k<m
  ·have hcell:=hE.cell (HC.out k hlt)
   have hp0:=hE.cell h0
   have hp1:=hE.cell h1
   have HS:=Lib.hid (oK f n L k hk1 (by rw[HL.out];exact hlt))
   by_cases hcmp:0<mI f n (nth L k) (choose f n (L.take k))
   ·have HP:=Lib.hid (lh f n _ _ hcmp)
    go_wp2_with fail
    refine(ny f n _ _ pf pn _ hp0 hp1).mono ?_
    rintro e w1 ⟨rfl,hE1⟩
    have hcell1:=hE1.cell hcell
    go_wp2_with fail
    go_roundw
    case rel=>exact⟨k+1,by omega,by omega,by go_num,by rw[HS.out,HP.out],hE.trans hE1⟩
    case measure=>simp[intOf];omega
   ·have HP:=Lib.hid (mH f n _ _ hcmp)
    go_wp2_with fail
    refine(ny f n _ _ pf pn _ hp0 hp1).mono ?_
    rintro e w1 ⟨rfl,hE1⟩
    have hcell1:=hE1.cell hcell
    go_wp2_with fail
    go_roundw
    case rel=>exact⟨k+1,by omega,by omega,by go_num,by rw[HS.out,HP.out],hE.trans hE1⟩
    case measure=>simp[intOf];omega
  ·have HT:=Lib.hid (show L.take k=L from List.take_of_length_le (by rw[HL.out];omega))
   go_wp2_with fail
   go_ret
   exact⟨_,rfl,hE,uO (by rw[HT.out])⟩
def vH(w:World)(v:Value)(L:List Int):Prop:=Mem.Row w v L.length (Mem.ints L)
theorem au(L:List Int)(i:Nat)(h:i<L.length):(Mem.ints L)[i]? =some (.int .i64 (nth L i)):=by
 simp[Mem.ints,nth,h]
theorem vH.cases{w:World}{v:Value}{L:List Int}(h:vH w v L):(L=[]∧∃a c,v= .slice a 0 c∧c≤9223372036854775807)∨
  (0<L.length∧∃b off c,v= .slice (some ⟨b,off,none⟩) L.length c∧L.length≤c∧c≤9223372036854775807∧∀i,i<L.length→w.cell? ⟨b,off+i,none⟩=some (.int .i64 (nth L i))):=by
 rcases h with⟨h0,_,rfl|⟨a,c,rfl,hc⟩⟩|⟨h0,b,off,c,h1,h2,h3,h4⟩
 ·exact .inl ⟨List.length_eq_zero_iff.1 h0,_,0,rfl,by omega⟩
 ·exact .inl ⟨List.length_eq_zero_iff.1 h0,_,_,rfl,hc⟩
 ·exact .inr ⟨h0,b,off,c,h1,h2,h3,fun i hi=>h4 i _ (au L i hi)⟩
open aN in
theorem iA(f n:Int)(v:Value)(L:List Int)(w:World)(h:vH w v L):
  Calls Tryd.prog 16 #[.int .i64 f,.int .i64 n,v] w (wR (fun v _=>v= .int .i64 (choose f n L)) w):=by
 rcases h.cases with⟨rfl,a,c,rfl,_⟩|⟨h0,b,off,c,rfl,hlc,hcm,hc⟩
 all_goals clear h
 ·go_enter Tryd.func16,Tryd.ntmps16
  go_wp2_with fail
  go_ret
  exact⟨_,rfl,((Ext.refl _).alloc _).alloc _,rfl⟩
 ·have HC:=Lib.hid hc
  clear hc
  obtain⟨m,hm⟩:∃m,L.length=m:=⟨_,rfl⟩
  rw[hm]at hlc h0 ⊢
  have HM:=Lib.hid hm
  clear hm
  have hne:((m:Int)==0)=false:=by simp;omega
  go_enter Tryd.func16,Tryd.ntmps16
  go_wp2_with fail
  refine(ob f n _ _ _ ?_ ?_ b off m c L HM.out (by omega) (by omega) ?_).mono ?_
  ·simp[go_sem]
  ·simp[go_sem]
  ·intro i hi
   exact(((Ext.refl w).alloc _).alloc _).cell (HC.out i (by rw[HM.out];exact hi))
  ·rintro e w1 ⟨x,rfl,hE,rfl⟩
   go_wp2_with fail
   go_ret
   exact⟨_,rfl,(((Ext.refl _).alloc _).alloc _).trans hE,rfl⟩
open aN in
open aN in
open aN in
theorem r6(w:World):Calls Tryd.prog 10 #[] w (wR (fun v _=>v= .bool true) w):=by
 have HZ:=Lib.hid wJ
 go_enter Tryd.func10,Tryd.ntmps10
 go_wp2_with fail
 refine(fJ 0 0 0 _).mono ?_
 rintro e w' ⟨rfl,rfl⟩
 rw[HZ.out]
 go_wp2_with fail
 refine(iA 5 1 _ [] _ (.inl ⟨rfl,rfl,.inl rfl⟩)).mono ?_
 rintro e w1 ⟨x,rfl,hE1,rfl⟩
 rw[pR]
 go_wp2_with fail
 refine(iA 5 1 _ [7] _ (.inr ⟨by decide,w1.heap.size,0,1,rfl,by decide,by decide,?_⟩)).mono ?_
 ·intro i u hi
  cases i with
  |zero=>simp[Mem.ints]at hi;subst hi;simp[go_sem]
  |succ i=>simp[Mem.ints]at hi
 rintro e w2 ⟨x,rfl,hE2,rfl⟩
 rw[lL]
 go_wp2_with fail
 refine(fJ 1 0 0 _).mono ?_
 rintro e w' ⟨rfl,rfl⟩
 go_wp2_with fail
 refine(lI 1 0 0 _).mono ?_
 rintro e w' ⟨rfl,rfl⟩
 generalize wt 1 0 0=q
 go_wp2_with fail
 go_ret
 exact⟨_,rfl,hE1.trans (((Ext.refl _).alloc _).trans hE2),rfl⟩
end kb
end Go.Proofs.YtnegbdpggideiaaDoor
namespace Go.Proofs.YtnegbdpggideiaaDoor
namespace kb
def le(f n y x:Int):Prop:=wt f n y<wt f n x∨(wt f n y=wt f n x∧x≤y)
theorem le_refl(f n x:Int):le f n x x:=.inr ⟨rfl,Int.le_refl x⟩
theorem le_trans{f n a b c:Int}(h:le f n a b)(k:le f n b c):le f n a c:=by
 unfold le at*;omega
theorem oO(f n b x:Int):(pick f n b x=x∧le f n b x)∨(pick f n b x=b∧le f n x b):=by
 rcases Int.lt_trichotomy (wt f n b) (wt f n x)with h|h|h
 ·exact .inl ⟨vr f n b x h,.inl h⟩
 ·by_cases hx:x<b
  ·exact .inl ⟨p6 f n b x h.symm hx,.inr ⟨h,by omega⟩⟩
  ·exact .inr ⟨qf f n b x h.symm hx,.inr ⟨h.symm,by omega⟩⟩
 ·exact .inr ⟨vA f n b x h,.inl h⟩
theorem ml(f n:Int):∀(t:List Int) (b:Int),(t.foldl (pick f n) b=b∨t.foldl (pick f n) b∈t)∧le f n b (t.foldl (pick f n) b)∧∀y∈t,le f n y (t.foldl (pick f n) b)
 | [],b=>by rw[List.foldl_nil];exact⟨.inl rfl,le_refl f n b,fun y hy=>by cases hy⟩
 |x::t,b=>by
  rw[List.foldl_cons]
  obtain⟨h1,h2,h3⟩:=ml f n t (pick f n b x)
  rcases oO f n b x with⟨hp,hl⟩|⟨hp,hl⟩
  ·rw[hp]at h1 h2 h3 ⊢
   refine⟨?_,le_trans hl h2,fun y hy=>?_⟩
   ·rcases h1 with h1|h1
    ·rw[h1];exact .inr (List.mem_cons_self ..)
    ·exact .inr (List.mem_cons_of_mem _ h1)
   ·rcases List.mem_cons.1 hy with rfl|hy
    ·exact h2
    ·exact h3 y hy
  ·rw[hp]at h1 h2 h3 ⊢
   refine⟨?_,h2,fun y hy=>?_⟩
   ·rcases h1 with h1|h1
    ·exact .inl h1
    ·exact .inr (List.mem_cons_of_mem _ h1)
   ·rcases List.mem_cons.1 hy with rfl|hy
    ·exact le_trans hl h2
    ·exact h3 y hy
theorem choose_spec(f n:Int)(L:List Int)(h:L≠[]):choose f n L∈L∧∀y∈L,le f n y (choose f n L):=by
 cases L with
 |nil=>exact absurd rfl h
 |cons x t=>
  rw[dM]
  obtain⟨h1,h2,h3⟩:=ml f n t x
  refine⟨?_,fun y hy=>?_⟩
  ·rcases h1 with h1|h1
   ·rw[h1];exact List.mem_cons_self ..
   ·exact List.mem_cons_of_mem _ h1
  ·rcases List.mem_cons.1 hy with rfl|hy
   ·exact h2
   ·exact h3 y hy
end kb
end Go.Proofs.YtnegbdpggideiaaDoor
namespace Go.Proofs.YtnegbdpggideiaaDoor
namespace PW
open Go.RowKit aN Mem
section
variable {P:Program} {N L:Nat} {ops:Array Oper}
def WA(P:Program)(N L:Nat)(ops:Array Oper):Nat→Array Bool→St→(St→Prop)→Prop
 |0,ls,st,K=>Region.ready .any ops ls=[]∧K st
 |n+1,ls,st,K=>Region.ready .any ops ls≠[]∧∀i∈Region.ready .any ops ls,∃o,ops[i]? =some o∧o.guard=none∧WR P N L [o].toArray [o] st (fun s=>WA P N L ops n (ls.setIfInBounds i true) s K)
def yf(P:Program)(N L:Nat)(ops:Array Oper)(n:Nat)(ls:Array Bool)(st:St)(K:St→Prop)(is:List Nat):Prop:=
 ∀i∈is,∃o,ops[i]? =some o∧o.guard=none∧WR P N L [o].toArray [o] st (fun s=>WA P N L ops n (ls.setIfInBounds i true) s K)
theorem jN{ls:Array Bool}{st:St}{K:St→Prop}(h:Region.ready .any ops ls=[])(hk:K st):WA P N L ops 0 ls st K:=⟨h,hk⟩
theorem aT{n:Nat}{ls:Array Bool}{st:St}{K:St→Prop}(i:Nat)(is:List Nat)(h:Region.ready .any ops ls=i::is)(hk:yf P N L ops n ls st K (i::is)):WA P N L ops (n+1) ls st K:=
 ⟨by rw[h];simp,fun j hj=>hk j (by rw[←h];exact hj)⟩
theorem aU{n:Nat}{ls:Array Bool}{st:St}{K:St→Prop}:yf P N L ops n ls st K []:=fun i hi=>by simp at hi
theorem aD{n:Nat}{ls:Array Bool}{st:St}{K:St→Prop}{i:Nat}{is:List Nat}{o:Oper}(ho:ops[i]? =some o)(hg:o.guard=none)(h:WR P N L [o].toArray [o] st (fun s=>WA P N L ops n (ls.setIfInBounds i true) s K))(hs:yf P N L ops n ls st K is):yf P N L ops n ls st K (i::is):=fun j hj=>by
 rcases List.mem_cons.1 hj with rfl|hj
 ·exact⟨o,ho,hg,h⟩
 ·exact hs j hj
def wh(K:Act→World→Prop)(Q:Exit→Act→World→Prop):Exit→Act→World→Prop
 | .normal,a,w=>K a w
 |e,a,w=>Q e a w
theorem nc{o:Oper}{a:Act}{w:World}{K K' K'':Act→World→Prop}{Q:Exit→Act→World→Prop}(h:∀a w,K a w→K' a w)(hh:o.wp P a w K (wh K'' Q)):o.wp P a w K' Q:=by
 unfold Oper.wp at*
 generalize (execOp a.eval o).run P w=x at*
 cases x with
 |ok n w'=>
  cases n<;>simp only[Oper.upon]at hh ⊢ <;>
   first
    |exact h _ _ hh
    |exact Calls.mono hh (fun e w'' he=>by cases e<;>first|exact h _ _ he|exact he)
    |exact Rows.mono hh (fun _ _ he=>h _ _ he)
 |halt x w'=>cases x<;>simp only[Oper.upon]at hh ⊢ <;>exact hh
theorem WA.any:∀ {n:Nat} {ls:Array Bool} {st:St} {K:St→Prop},WA P N L ops n ls st K→∀F base E₀ w₀ E a w,nR base L E₀ w₀ E w→dt F base N st E a w→∀(Q:Exit→Act→World→Prop),(∀a' w',lH F base N E₀ w₀ K a' w'→Q .normal a' w')→wpAny P .any ops Q n ls a w
 |0,ls,st,K,h,F,base,E₀,w₀,E,a,w,hc,hs,Q,hQ=>⟨h.1,hQ a w ⟨st,E,h.2,hs,hc.g,hc.b⟩⟩
 |n+1,ls,st,K,h,F,base,E₀,w₀,E,a,w,hc,hs,Q,hQ=>by
  refine⟨fun h0=>absurd h0 h.1,fun i hi=>?_⟩
  obtain⟨o,ho,hg,hw⟩:=h.2 i hi
  have h1:=hw F base E₀ w₀ E a w hc hs (wh (wpAny P .any ops Q n (ls.setIfInBounds i true)) Q) 0 (fun a' w' ⟨s,E',k1,k2,k3,k4⟩=>by
   show wpAny P .any ops Q n (ls.setIfInBounds i true) a' w'
   exact WA.any k1 F base E₀ w₀ E' a' w' ⟨hc.L,k3,k4⟩ k2 Q hQ) (fun j=>by simp)
  simp only[List.length_singleton]at h1
  rw[List.range'_succ,wpOps_cons]at h1
  unfold wpOp at h1 ⊢
  have hw1:∀y,Region.wanted o y=true:=fun y=>by unfold Region.wanted;rw[hg]
  simp only[List.getElem?_toArray,List.getElem?_cons_zero,hw1,if_true]at h1
  simp only[ho,hw1,if_true]
  rcases h1 with h1|⟨h1,h2⟩
  ·exact .inl (nc (fun a w h=>h) h1)
  ·exact .inr ⟨h1,h2⟩
theorem uw{id:Nat}{l:List Oper}{st:St}{Q:Exit→St→Prop}(hm:P.follows .mixedOrders=true)(h:WA P N L l.toArray l.length (Array.replicate l.length false) st (fun s=>Q .normal s)):W P N L (.region id l.toArray true) st Q:=fun F base E₀ w₀ E a w hc hs=>by
 refine wp_region_any hm ?_
 have hE:Ext w {w with drawn:=w.drawn+1}:=⟨rfl,rfl,rfl,Nat.le_refl _,fun _ _=>rfl⟩
 have:=h.any F base E₀ w₀ E a {w with drawn:=w.drawn+1} (hc.on (.ext hE) (Below.fq hE hs.sat.bl)) ⟨hs.sat.ext hE,hs.tmp.goes (.ext hE),hs.jq,hs.size⟩ (fun e a' w'=>lH F base N E₀ w₀ (Q e) a' w') (fun a' w' h=>h)
 simpa using this
theorem rR{id:Nat}{l:List Oper}{y:Code}{st:St}{Q:Exit→St→Prop}(hm:P.follows .mixedOrders=true)(h:WA P N L l.toArray l.length (Array.replicate l.length false) st (fun s=>W P N L y s Q)):W P N L (.seq (.region id l.toArray true) y) st Q:=ak (uw hm h)
theorem l3{α:Type}{l:List α}{k:Nat}{x:α}(h:l[k]? =some x):l.set k x=l:=by
 obtain⟨hk,rfl⟩:=List.getElem?_eq_some_iff.1 h
 simp
theorem bU{c:Code}{t:a7}{σ:bo}{Q:Exit→St→Prop}(i k e s:Nat){ty:TypeId}{xs:List PV}(hi:σ[i]? =some (some (.cells ty xs)))(hk:xs[k]? =some (.raw (.slice none 0 0)))
  (h:W P N L c ⟨t,(σ++[some (cB.row e s 0 [])]).set i (some (.cells ty (xs.set k (.own σ.length))))⟩ Q):W P N L c ⟨t,σ⟩ Q:=fun F base E₀ w₀ E a w hc hs=>by
 obtain⟨a1,a2,a3⟩:=sZ hs.sat e s
 have hil:=(List.getElem?_eq_some_iff.1 hi).1
 have hi':(σ++[some (cB.row e s 0 [])])[i]? =some (some (.cells ty xs)):=by rw[List.getElem?_append_left hil];exact hi
 obtain⟨b,cs,hb,h1,h2,h3⟩:=a1.blk i _ hi'
 obtain⟨cv,hcv,hrep⟩:=h3.get hk
 cases hrep
 obtain⟨b1,b2⟩:=a1.tg hi' (b:=b) (by rw[hb];rfl) (Nat.le_refl _) (fun _ _ _=>rfl) (bi':=.cells ty (xs.set k (.own σ.length))) ⟨b,cs,hb,h1,h2,by
  have:=h3.set k a3
  rw[l3 hcv]at this
  exact this⟩
 exact h F base E₀ w₀ _ a w (hc.on (a2.trans b2) (Below.refl _ _)) ⟨b1,(hs.tmp.goes a2).goes b2,hs.jq,hs.size⟩
inductive sr (σ:bo) (t:a7):a7→Prop
 |nil:sr σ t []
 |cons {t':a7} (k:Nat) {p q:PV}:look k t=some p→ay σ p q→sr σ t t'→sr σ t ((k,q)::t')
theorem sr.get{σ:bo}{t t':a7}(h:sr σ t t'):∀k q,look k t'=some q→∃p,look k t=some p∧ay σ p q:=by
 induction h with
 |nil=>intro k q h;cases h
 |cons k h1 h2 _ ih=>
  intro j q hj
  simp only[look]at hj
  rw[Bool.cond_eq_ite]at hj
  split at hj
  ·rename_i he
   have:=Nat.eq_of_beq_eq_true he
   subst this
   cases hj
   exact⟨_,h1,h2⟩
  ·exact ih j q hj
theorem uo{c:Code}{t t':a7}{σ:bo}{Q:Exit→St→Prop}(hT:sr σ t t')(h:W P N 0 c ⟨t',[]⟩ Q):W P N 0 c ⟨t,σ⟩ Q:=fun F base E₀ w₀ E a w hc hs=>by
 have hF:∀b,F b→E.M b:=fun b hb=>(hs.sat.mm b).2 (.inl hb)
 refine h F base E₀ w₀ (EF F) a w ⟨hc.L,⟨by rw[hc.L];exact Nat.zero_le _,fun i hi=>by rw[hc.L]at hi;omega,fun b h1 h2 hf=>hc.g.M b h1 h2 (hF b hf),hc.g.size,hc.g.heap⟩,hc.b⟩
  ⟨⟨hs.sat.bl,fun b hb=>⟨(hs.sat.fb b hb).1,fun i blk h=>by simp at h⟩,rfl,fun b=>by simp[EF],fun i blk h=>by simp at h,fun i j bi bj b h=>by simp at h,hs.sat.gl.sub hF⟩,fun k q hq=>?_,hs.jq,hs.size⟩
 obtain⟨p,h1,h2⟩:=hT.get k q hq
 exact h2.rep hs.sat hF (fun b hb=>(hs.sat.fb b hb).2) _ (hs.tmp k p h1)
end
end PW
end Go.Proofs.YtnegbdpggideiaaDoor
namespace Go.Proofs.YtnegbdpggideiaaDoor
namespace PW
open Go.RowKit aN Mem
section
variable {P:Program} {N L:Nat} {ops:Array Oper} {Φ:lU} {Ts:List a7} {Ss:List bo} {K:St→Prop}
variable {n i z j k:Nat} {ks:List Nat} {o:Oper} {t t':a7} {σ σ':bo} {l:List (Nat×Nat)} {p:PV} {d:Nat}
end
end PW
end Go.Proofs.YtnegbdpggideiaaDoor
namespace Go.Proofs.YtnegbdpggideiaaDoor
namespace eB
open Go.RowKit Go.Shelf Net
attribute [local go_sem] Oper.semAt_some
structure Kp (G n:Nat) (W W':World):Prop where
 size:W.heap.size≤W'.heap.size
 block:∀b,b<n→b≠G→W'.heap[b]? =W.heap[b]?
theorem Kp.cell{G n:Nat}{W W':World}(h:Kp G n W W'){p:Addr}(hb:p.block<n)(hG:p.block≠G):W'.cell? p=W.cell? p:=World.cell?_of_block (h.block _ hb hG)
theorem Kp.alloc{G n:Nat}{W:World}(h:n≤W.heap.size)(o:Obj):Kp G n W (W.alloc o):=⟨by simp,fun b h1 _=>Below.heap_alloc _ _ _ (by omega)⟩
def sO(k x:Int)(L:List la)(i:Nat):Bool:=if k=1 then decide ((i:Int)=x) else if k=2 then decide ((dh L i).a=x)||decide ((dh L i).b=x) else decide ((dh L i).we=x)
end eB
end Go.Proofs.YtnegbdpggideiaaDoor
namespace Go.Proofs.YtnegbdpggideiaaDoor
namespace PW
open Go.RowKit aN Mem
section
variable {P:Program} {N L:Nat}
theorem qU(p:PV)(n:Nat):db [p] n=List.replicate n p:=by
 induction n with
 |zero=>rfl
 |succ n ih=>simp only[db,ih,List.replicate_succ];rfl
theorem ft.of{fs:List Nat}{σ:bo}:∀(σ':bo) (js:List Nat),σ'.length=js.length→(∀(i:Nat) b' j,σ'[i]? =some (some b')→js[i]? =some j→∃b,σ[j]? =some (some b)∧pz fs b' b)→ft fs σ σ' js
 | [],[],_,_=>.nil
 |none::σ',j::js,hl,h=>.gone (ft.of σ' js (by simpa using hl) (fun i b' k h1 h2=>h (i+1) b' k (by simpa using h1) (by simpa using h2)))
 |some b'::σ',j::js,hl,h=>by
  obtain⟨b,h1,h2⟩:=h 0 b' j rfl rfl
  exact .kept h1 h2 (ft.of σ' js (by simpa using hl) (fun i b' k h1 h2=>h (i+1) b' k (by simpa using h1) (by simpa using h2)))
 | [],_::_,hl,_=>by simp at hl
 |_::_,[],hl,_=>by simp at hl
theorem l5:∀(l:List Nat),l.Nodup→fg l=true
 | [],_=>rfl
 |x::l,h=>by
  rw[List.nodup_cons]at h
  simp[fg,h.1,l5 l h.2]
theorem pr{c:Code}{t:a7}{σ:bo}{Q:Exit→St→Prop}(i k e s:Nat){e1 s1 n:Nat}{xs:List PV}(hi:σ[i]? =some (some (.row e1 s1 n xs)))(hk:xs[k]? =some (.raw (.slice none 0 0)))
  (h:W P N L c ⟨t,(σ++[some (cB.row e s 0 [])]).set i (some (.row e1 s1 n (xs.set k (.own σ.length))))⟩ Q):W P N L c ⟨t,σ⟩ Q:=fun F base E₀ w₀ E a w hc hs=>by
 obtain⟨a1,a2,a3⟩:=sZ hs.sat e s
 have hil:=(List.getElem?_eq_some_iff.1 hi).1
 have hi':(σ++[some (cB.row e s 0 [])])[i]? =some (some (.row e1 s1 n xs)):=by rw[List.getElem?_append_left hil];exact hi
 obtain⟨cs,h2,h3⟩:=a1.blk i _ hi'
 obtain⟨cv,hcv,hrep⟩:=h3.get hk
 cases hrep
 have hb:∃b,aB ((E.push (.slice none 0 0)).at_ i)=some b:=by
  rcases h2.2 with hz|⟨g,cap,cur,hv,_⟩
  ·have h4:=h2.1
   rw[hz.2,Nat.zero_mul]at h4
   rw[List.eq_nil_of_length_eq_zero h4]at hcv
   simp at hcv
  ·exact⟨g,by rw[hv];rfl⟩
 obtain⟨b,hb⟩:=hb
 obtain⟨b1,b2⟩:=a1.tg hi' (b:=b) hb (Nat.le_refl _) (fun _ _ _=>rfl) (bi':=.row e1 s1 n (xs.set k (.own σ.length))) ⟨cs,h2,by
  have:=h3.set k a3
  rw[l3 hcv]at this
  exact this⟩
 exact h F base E₀ w₀ _ a w (hc.on (a2.trans b2) (Below.refl _ _)) ⟨b1,(hs.tmp.goes a2).goes b2,hs.jq,hs.size⟩
def dq(n:Nat):List PV:=(List.range n).map fun i=>.own (i+1)
def gr(e1 e:TypeId)(rs:List (List Int)):bo:=some (.row e1 1 rs.length (dq rs.length))::rs.map fun r=>some (.row e 1 r.length (aG r))
def jm(e1 e n k:Nat):bo:=some (.row e1 1 n (dq k++List.replicate (n - k) (PV.raw (.slice none 0 0))))::List.replicate k (some (.row e 1 0 []))
theorem qA{c:Code}{t:a7}{Q:Exit→St→Prop}(e1 e n:Nat)(h:W P N L c ⟨t,jm e1 e n n⟩ Q):∀m k,k+m=n→W P N L c ⟨t,jm e1 e n k⟩ Q
  | 0, k, hk => by obtain rfl : k = n := by omega
                   exact h
  |m+1,k,hk=>by
    have ih:=qA e1 e n h m (k+1) (by omega)
    have hol:(dq k).length=k:=by simp[dq]
    refine pr 0 k e 1 (e1:=e1) (s1:=1) (n:=n) (xs:=dq k++List.replicate (n - k) (PV.raw (.slice none 0 0))) rfl ?_ ?_
    · rw[List.getElem?_append_right (by omega),hol,List.getElem?_replicate,if_pos (by omega)]
    · have e2:(jm e1 e n k++[some (cB.row e 1 0 [])]).set 0 (some (.row e1 1 n ((dq k++List.replicate (n - k) (PV.raw (.slice none 0 0))).set k (.own (jm e1 e n k).length))))=jm e1 e n (k+1):=by
        unfold jm
        simp only[List.cons_append,List.set_cons_zero,List.length_cons,List.length_replicate]
        congr 3
        · rw[List.set_append_right _ _ (by omega),hol,Nat.sub_self,show n - k=(n - (k+1))+1 by omega,List.replicate_succ,List.set_cons_zero]
          unfold dq
          rw[List.range_succ,List.map_append]
          simp
        · rw[List.replicate_succ']
      rw[e2];exact ih
theorem nO{c:Code}{t:a7}{Q:Exit→St→Prop}(e1 e n:Nat)(h:W P N L c ⟨t,gr e1 e (List.replicate n [])⟩ Q):W P N L c ⟨t,[some (.row e1 1 n (db [.raw (.slice none 0 0)] n))]⟩ Q:=by
 have:=qA (P:=P) (N:=N) (L:=L) (c:=c) (t:=t) (Q:=Q) e1 e n (by
  have e2:jm e1 e n n=gr e1 e (List.replicate n []):=by
   unfold jm gr
   simp[aG]
  rw[e2];exact h) n 0 (by omega)
 rw[qU]
 simpa[jm,dq]using this
def vJ(n k:Nat):List Nat:=0::(List.range n).map fun i=>if i=k then n+1 else i+1
theorem rJ(n k:Nat):fg (vJ n k)=true:=by
 apply l5
 unfold vJ
 rw[List.nodup_cons]
 constructor
 ·simp only[List.mem_map,not_exists,not_and]
  intro i _ h
  split at h<;>omega
 ·rw[List.nodup_iff_pairwise_ne,List.pairwise_map]
  refine List.Pairwise.imp_of_mem ?_ (List.nodup_iff_pairwise_ne.1 List.nodup_range)
  intro i j hi hj hij h
  have:=List.mem_range.1 hi
  have:=List.mem_range.1 hj
  split at h<;>split at h<;>omega
theorem mZ(n k i:Nat)(hi:i<n):(vJ n k)[i+1]? =some (if i=k then n+1 else i+1):=by
 unfold vJ
 simp[hi]
theorem iQ(n i:Nat)(hi:i<n):(dq n)[i]? =some (.own (i+1)):=by simp[dq,hi]
theorem iN(e1 e:TypeId)(rs:List (List Int))(k:Nat)(hk:k<rs.length):(gr e1 e rs)[k+1]? =some (some (.row e 1 (rs.getD k []).length (aG (rs.getD k [])))):=by
 unfold gr
 simp[hk]
theorem s9(e1 e:TypeId)(rs:List (List Int))(k:Nat)(hk:k<rs.length)(x:Int):
  ft (vJ rs.length k) (((gr e1 e rs).set (k+1) none++[some (cB.row e 1 ((rs.getD k []).length+1) (aG (rs.getD k [])++[.raw (.int .i64 x)]))]).set 0 (some (.row e1 1 rs.length (over (dq rs.length) k [.own (gr e1 e rs).length])))) (gr e1 e (rs.set k (rs.getD k []++[x]))) (vJ rs.length k):=by
 have hol:(dq rs.length).length=rs.length:=by simp[dq]
 have hlen:(gr e1 e rs).length=rs.length+1:=by simp[gr]
 have hov:over (dq rs.length) k [.own (gr e1 e rs).length]=(dq rs.length).set k (.own (rs.length+1)):=by
  unfold over
  rw[hlen,List.set_eq_take_append_cons_drop,if_pos (by omega)]
  simp
 rw[hov]
 apply ft.of
 ·simp[gr,vJ]
 ·intro i b' j h1 h2
  cases i with
  |zero=>
   simp only[gr,List.getElem?_cons_zero,Option.some.injEq,List.length_set]at h1
   simp only[vJ,List.getElem?_cons_zero,Option.some.injEq]at h2
   subst h1;subst h2
   refine⟨.row e1 1 rs.length ((dq rs.length).set k (.own (rs.length+1))),by simp[gr],.row ⟨by simp,fun i a b k1 k2=>?_⟩⟩
   have hi:i<rs.length:=by have:=(List.getElem?_eq_some_iff.1 k1).1;omega
   rw[iQ _ _ hi]at k1
   cases k1
   rw[List.getElem?_set]at k2
   split at k2
   ·rename_i e';subst e'
    rw[if_pos (by omega)]at k2
    cases k2
    exact .own (by rw[mZ _ _ _ hi,if_pos rfl])
   ·rename_i e'
    rw[iQ _ _ hi]at k2
    cases k2
    exact .own (by rw[mZ _ _ _ hi,if_neg (Ne.symm e')])
  |succ i=>
   have hi:i<rs.length:=by
    have:=(List.getElem?_eq_some_iff.1 h1).1
    simp[gr]at this
    exact this
   rw[iN _ _ _ _ (by simpa using hi)]at h1
   rw[mZ _ _ _ hi]at h2
   cases h1
   by_cases e':i=k
   ·rw[if_pos e']at h2
    cases h2
    subst e'
    refine⟨.row e 1 ((rs.getD i []).length+1) (aG (rs.getD i [])++[.raw (.int .i64 x)]),?_,?_⟩
    ·rw[List.getElem?_set_ne (by omega),List.getElem?_append_right (by simp[hlen])]
     simp[hlen]
    ·have hg:(rs.set i (rs.getD i []++[x])).getD i []=rs.getD i []++[x]:=by simp[List.getD_eq_getElem?_getD,hi]
     rw[hg,eF]
     exact .eR (by simp) rfl
   ·rw[if_neg e']at h2
    cases h2
    refine⟨.row e 1 (rs.getD i []).length (aG (rs.getD i [])),?_,?_⟩
    ·rw[List.getElem?_set_ne (by omega),List.getElem?_append_left (by simp[hlen];omega),List.getElem?_set_ne (by omega),iN _ _ _ _ hi]
    ·have hg:(rs.set k (rs.getD k []++[x])).getD i []=rs.getD i []:=by simp[List.getD_eq_getElem?_getD,List.getElem?_set,Ne.symm e']
     rw[hg]
     exact .row aL.pure
def jU(rs:List (List Int)):PV:=.slice rs.length (rs.map aJ)
instance (rs:List (List Int)):ao (rs.map aJ):=ao.map _ _ fun _=>inferInstance
instance (rs:List (List Int)):IsPure (jU rs):=by unfold jU;infer_instance
theorem ur(e1 e:TypeId)(rs:List (List Int)):ay (gr e1 e rs) (.own 0) (jU rs):=by
 refine ay.gZ rfl ⟨by simp[dq],fun i a b h1 h2=>?_⟩
 have hi:i<rs.length:=by have:=(List.getElem?_eq_some_iff.1 h2).1;simpa using this
 rw[iQ _ _ hi]at h1
 cases h1
 have:b=aJ (rs.getD i []):=by simpa[hi]using h2.symm
 subst this
 exact ay.gZ (iN e1 e rs i hi) al.pure
def cH(f:Nat→Int)(n k:Nat):List (List Int):=(List.range n).map fun(m:Nat)=>((List.range k).filter fun a=>decide (f a=(m:Int))).map Int.ofNat
theorem gI(f:Nat→Int)(n k:Nat):(cH f n k).length=n:=by simp[cH]
theorem jO(f:Nat→Int)(n k m:Nat)(hm:m<n):(cH f n k).getD m []=((List.range k).filter fun a=>decide (f a=(m:Int))).map Int.ofNat:=by simp[cH,hm]
theorem oZ(f:Nat→Int)(n:Nat):cH f n 0=List.replicate n []:=by
 apply List.ext_getElem?
 intro i
 simp only[cH,List.range_zero,List.filter_nil,List.map_nil,List.getElem?_map,List.getElem?_replicate]
 by_cases h:i<n<;>simp[h]
theorem pN(f:Nat→Int)(n k m:Nat)(hm:f k=(m:Int))(hmn:m<n):cH f n (k+1)=(cH f n k).set m ((cH f n k).getD m []++[(k:Int)]):=by
 apply List.ext_getElem?
 intro i
 rw[List.getElem?_set]
 by_cases h:i<n
 ·have hl:i<(cH f n k).length:=by rw[gI];exact h
  by_cases e:m=i
  ·subst e
   rw[if_pos rfl,if_pos hl,jO _ _ _ _ h]
   simp[cH,h,List.range_succ,List.filter_append,hm]
  ·rw[if_neg e]
   simp[cH,h,List.range_succ,List.filter_append,hm]
   omega
 ·have hl:¬i<(cH f n k).length:=by rw[gI];exact h
  have:(cH f n (k+1))[i]? =none:=by simp[cH,h]
  rw[this]
  split
  ·rw[if_neg (by omega)]
  ·simp[cH,h]
end
end PW
end Go.Proofs.YtnegbdpggideiaaDoor
namespace Go.Proofs.YtnegbdpggideiaaDoor
namespace PW
open Go.RowKit aN Mem Net
theorem w8{P:Program}{σ:bo}{t:a7}{o:Oper}{x y:Operand}{ty tz:TypeId}{a:Nat}(ho:o.op= .binOp .xor ty x y tz)(hx:ah t x=some (num a))(hy:ah t y=some (num 1))(ha:a<9223372036854775806):az P σ t o (num (flip a:Int)):=
 fN ho hx hy fun w=>by
  have h:IntKind.i64.wrap ((BitVec.ofInt IntKind.i64.bits (a:Int) ^^^ BitVec.ofInt IntKind.i64.bits 1).toNat:Int)=(flip a:Int):=vS a ha
  simp only[binOp,Op.intBits,h]
  rfl
theorem p7(a:Nat):((a:Int)).tdiv 2=((a / 2:Nat):Int):=rfl
theorem tL(a:Nat):((a:Int)).tmod 2=((a % 2:Nat):Int):=rfl
theorem aV{T:ab}{n:Int}:aS T n=true↔0≤n∧n<T.nodes:=by simp[aS]
theorem bJ{T:ab}(h:aj T=true):T.aa.length≤256:=(eP h).2.2.1
theorem tt{b:Prop}[Decidable b](h:decide b=true):b:=of_decide_eq_true h
theorem ff{b:Prop}[Decidable b](h:decide b=false):¬b:=of_decide_eq_false h
theorem iJ{E:Env}{w:World}{v:Value}{n:Nat}{xs:List PV}(h:bC E w v (.slice n xs)):n≤maxLen:=by
 obtain⟨a,c,_,h1,h2⟩:=nq h
 omega
theorem nt{P:Program}{f:FuncId}{ps:List PV}{R:PV→Prop}(h:(∃E w vs,aw E w vs ps)→Can P f ps R):Can P f ps R:=fun F w vs hF hG hR=>h ⟨_,_,_,hR⟩ F w vs hF hG hR
theorem nz{P:Program}{f:FuncId}{T:ab}{ps:List PV}{R:PV→Prop}(h:T.aa.length≤maxLen→T.over.length≤maxLen→Can P f (a6 T::ps) R):Can P f (a6 T::ps) R:=by
 refine nt fun⟨E,w,vs,hR⟩=>?_
 obtain⟨v,_,hv⟩:=hR.get (i:=0) rfl
 unfold a6 b5 at hv
 cases hv with
 |agg cs _ hl hr=>
  have hr:aw E w cs.toList _:=⟨by simpa using hl,fun i x u h1 h2=>hr i x u (by simpa using h1) h2⟩
  obtain⟨v1,_,h1⟩:=hr.get (i:=1) rfl
  obtain⟨v2,_,h2⟩:=hr.get (i:=2) rfl
  exact h (iJ h2) (iJ h1)
theorem iX(T:ab)(hl:T.aa.length≤4611686018427387903):Can Tryd.prog 63 [a6 T] (· =num (2*(T.aa.length:Int))):=by
 exact aI Tryd.func63 rfl Tryd.ntmps63 rfl<|af (.a 2 rfl<|.k [1] rfl)<|af (.a 3 rfl<|.v (bf rfl) rfl<|.a 1 rfl<|.k [2] rfl)<|an<|⟨_,_,ax.of rfl,ay.pure,rfl⟩
theorem jc(T:ab)(a:Nat)(ha:a<2*T.aa.length):Can Tryd.prog 68 [a6 T,num a] (· =num (bb T a)):=by
 have hi:a / 2<T.aa.length:=by omega
 refine nz fun hm _=>?_
 unfold maxLen at hm
 refine aI Tryd.func68 rfl Tryd.ntmps68 rfl<|af (.a 2 rfl<|.k [1,2] rfl)<|ak<|af (.a 1 rfl<|.v (kM rfl rfl rfl (by decide) (tL a)) rfl<|.a 1 rfl<|.k [1,2,7] rfl)<|ag rfl (fun hc=>?_) (fun hc=>?_)
 ·have h2:a % 2=0:=by have:=tt hc;omega
  unfold bb
  rw[if_pos h2]
  exact af (.a 3 rfl<|.v (ig rfl rfl rfl (by decide) (p7 a) (by unfold In64;omega)) rfl<|.v (aR (a / 2*7) rfl) rfl<|.a 1 rfl<|.v (aO rfl (dF T.aa (a / 2) 0 hi (by omega))) rfl<|.a 1 rfl<|.k [4] rfl)<|an<|⟨_,_,ax.of rfl,ay.pure,rfl⟩
 ·have h2:¬a % 2=0:=by have:=ff hc;omega
  unfold bb
  rw[if_neg h2]
  exact ai<|af (.a 3 rfl<|.v (ig rfl rfl rfl (by decide) (p7 a) (by unfold In64;omega)) rfl<|.v (aR (a / 2*7) rfl) rfl<|.a 1 rfl<|.v (aO rfl (dF T.aa (a / 2) 1 hi (by omega))) rfl<|.a 1 rfl<|.k [4] rfl)<|an<|⟨_,_,ax.of rfl,ay.pure,rfl⟩
theorem iT(T:ab)(a:Nat)(ha:a<2*T.aa.length)(hl:T.aa.length≤4611686018427387902):Can Tryd.prog 36 [a6 T,num a] (· =num (aK T a)):=by
 exact aI Tryd.func36 rfl Tryd.ntmps36 rfl<|af (.a 2 rfl<|.k [1,2] rfl)<|af (.a 2 rfl<|.v (w8 rfl rfl rfl (by omega)) rfl<|.c rfl (jc T (Net.flip a) (by unfold Net.flip;split<;>omega)) rfl<|.a 1 rfl<|.k [4] rfl)<|an<|⟨_,_,ax.of rfl,ay.pure,rfl⟩
theorem oq(T:ab)(a:Nat)(hi:a / 2<T.aa.length):(ia T.aa)[a / 2*7+2+a % 2]? =some (num (a8 T a)):=by
 rw[Nat.add_assoc,dF T.aa (a / 2) (2+a % 2) hi (by omega)]
 unfold a8
 rcases Nat.mod_two_eq_zero_or_one a with h|h<;>rw[h]
 ·rfl
 ·rfl
theorem oI(T:ab)(a:Nat)(ha:a<2*T.aa.length):Can Tryd.prog 88 [a6 T,num a] (· =num (a8 T a)):=by
 have hi:a / 2<T.aa.length:=by omega
 refine nz fun hm _=>?_
 unfold maxLen at hm
 exact aI Tryd.func88 rfl Tryd.ntmps88 rfl<|af (.a 2 rfl<|.k [1,2] rfl)<|af (.a 3 rfl<|.v (ig rfl rfl rfl (by decide) (p7 a) (by unfold In64;omega)) rfl<|.a 1 rfl<|.v (kM rfl rfl rfl (by decide) (tL a)) rfl<|.v (aR (a / 2*7) rfl) rfl<|.a 1 rfl<|.v (aR (a % 2) rfl) rfl<|.v (aO rfl (oq T a hi)) rfl<|.a 1 rfl<|.k [4] rfl)<|an<|⟨_,_,ax.of rfl,ay.pure,rfl⟩
theorem nD(T:ab)(n:Nat)(hn:T.over.length=0∨n<T.over.length):Can Tryd.prog 87 [a6 T,num n] (· =flag (bI T n)):=by
 obtain⟨p1,hp1⟩:∃q,decide (0<(T.over.length:Int))=q:=⟨_,rfl⟩
 obtain⟨p2,hp2⟩:∃q,T.over.getD n false=q:=⟨_,rfl⟩
 have he:bI T n=(p1&&p2):=by
  unfold bI
  cases p1
  ·have:=ff hp1
   rw[List.getD_eq_getElem?_getD,List.getElem?_eq_none (by omega)];rfl
  ·exact hp2
 rw[he]
 refine aI Tryd.func87 rfl Tryd.ntmps87 rfl<|af (.a 2 rfl<|.k [1,2] rfl)<|aY 4 (.raw (.bool (p1&&p2))) [] rfl ?_ ?_
 ·refine .a 3 rfl<|.v (bT rfl (hp1)) rfl<|.a 1 rfl<|?_
  cases p1
  ·exact .a 7 rfl<|.k [4] rfl
  ·exact .a 3 rfl<|.v (aR (n) rfl (by omega) (by have:=tt hp1;omega)) rfl<|.v (aO rfl (show _=some (flag p2) by rw[fD _ n (by have:=tt hp1;omega),hp2])) rfl<|.a 2 rfl<|.k [4] rfl
 exact an<|⟨_,_,ax.of rfl,ay.pure,rfl⟩
theorem cE(T:ab)(n:Int):Can Tryd.prog 47 [a6 T,num n] (· =flag (aS T n)):=by
 obtain⟨p1,hp1⟩:∃q,decide (0≤n)=q:=⟨_,rfl⟩
 obtain⟨p2,hp2⟩:∃q,decide (n<T.nodes)=q:=⟨_,rfl⟩
 have he:aS T n=(p1&&p2):=by rw[←hp1,←hp2];unfold aS;exact Bool.decide_and _ _
 rw[he]
 refine aI Tryd.func47 rfl Tryd.ntmps47 rfl<|af (.a 2 rfl<|.k [1,2] rfl)<|aY 4 (.raw (.bool (p1&&p2))) [] rfl ?_ ?_
 ·refine .a 1 rfl<|.v (bT rfl (hp1)) rfl<|.a 1 rfl<|?_
  cases p1
  ·exact .a 6 rfl<|.k [4] rfl
  ·exact .a 3 rfl<|.v (bT rfl (hp2)) rfl<|.a 2 rfl<|.k [4] rfl
 exact an<|⟨_,_,ax.of rfl,ay.pure,rfl⟩
theorem mJ(T:ab)(hl:T.aa.length≤4611686018427387903)(a:Int):Can Tryd.prog 67 [a6 T,num a] (· =flag (cX T a)):=by
 obtain⟨p1,hp1⟩:∃q,decide (0≤a)=q:=⟨_,rfl⟩
 obtain⟨p2,hp2⟩:∃q,decide (a<2*(T.aa.length:Int))=q:=⟨_,rfl⟩
 have he:cX T a=(p1&&p2):=by rw[←hp1,←hp2];unfold cX;exact Bool.decide_and _ _
 rw[he]
 refine aI Tryd.func67 rfl Tryd.ntmps67 rfl<|af (.a 2 rfl<|.k [1,2] rfl)<|aY 4 (.raw (.bool (p1&&p2))) [] rfl ?_ ?_
 ·refine .a 1 rfl<|.v (bT rfl (hp1)) rfl<|.a 1 rfl<|?_
  cases p1
  ·exact .a 6 rfl<|.k [4] rfl
  ·exact .a 2 rfl<|.c rfl (iX T hl) rfl<|.v (bT rfl (hp2)) rfl<|.a 2 rfl<|.k [4] rfl
 exact an<|⟨_,_,ax.of rfl,ay.pure,rfl⟩
theorem kV(T:ab)(D:List Bool)(hl:T.aa.length≤4611686018427387903):Can Tryd.prog 31 [a6 T,bA D] (· =flag (bw T D)):=by
 obtain⟨p1,hp1⟩:∃q,decide ((D.length:Int)=0)=q:=⟨_,rfl⟩
 obtain⟨p2,hp2⟩:∃q,decide ((D.length:Int)=2*(T.aa.length:Int))=q:=⟨_,rfl⟩
 have he:bw T D=(p1||p2):=by rw[←hp1,←hp2];unfold bw;rw[←Bool.decide_or];exact decide_eq_decide.2 (by omega)
 rw[he]
 refine aI Tryd.func31 rfl Tryd.ntmps31 rfl<|af (.a 2 rfl<|.k [1,2] rfl)<|aY 4 (.raw (.bool (p1||p2))) [] rfl ?_ ?_
 ·refine .a 2 rfl<|.v (bT rfl (hp1)) rfl<|.a 1 rfl<|?_
  cases p1
  ·exact .a 3 rfl<|.c rfl (iX T hl) rfl<|.v (bT rfl (hp2)) rfl<|.a 2 rfl<|.k [4] rfl
  ·exact .a 7 rfl<|.k [4] rfl
 exact an<|⟨_,_,ax.of rfl,ay.pure,rfl⟩
theorem qS{D:List Bool}{a:Nat}{p1 p2:Bool}(hp1:decide (0<(D.length:Int))=p1)(hp2:D.getD a false=p2):bG D a=(p1&&p2):=by
 unfold bG
 cases p1
 ·have:=ff hp1
  rw[List.getD_eq_getElem?_getD,List.getElem?_eq_none (by omega)];rfl
 ·exact hp2
theorem lx(D:List Bool)(a:Nat)(ha:D.length=0∨a<D.length):Can Tryd.prog 50 [bA D,num a] (· =flag (bG D a)):=by
 obtain⟨p1,hp1⟩:∃q,decide (0<(D.length:Int))=q:=⟨_,rfl⟩
 obtain⟨p2,hp2⟩:∃q,D.getD a false=q:=⟨_,rfl⟩
 rw[qS hp1 hp2]
 refine aI Tryd.func50 rfl Tryd.ntmps50 rfl<|af (.a 1 rfl<|.k [0,1] rfl)<|aY 4 (.raw (.bool (p1&&p2))) [] rfl ?_ ?_
 ·refine .a 2 rfl<|.v (bT rfl (hp1)) rfl<|.a 1 rfl<|?_
  cases p1
  ·exact .a 6 rfl<|.k [4] rfl
  ·exact .a 2 rfl<|.v (aR (a) rfl (by omega) (by have:=tt hp1;omega)) rfl<|.v (aO rfl (show _=some (flag p2) by rw[fD _ a (by have:=tt hp1;omega),hp2])) rfl<|.a 2 rfl<|.k [4] rfl
 exact an<|⟨_,_,ax.of rfl,ay.pure,rfl⟩
theorem dE(n lo hi:Int):Can Tryd.prog 62 [num n,num lo,num hi] (· =flag (aM n lo hi)):=by
 obtain⟨p1,hp1⟩:∃q,decide (lo≤n)=q:=⟨_,rfl⟩
 obtain⟨p2,hp2⟩:∃q,decide (n≤hi)=q:=⟨_,rfl⟩
 have he:aM n lo hi=(p1&&p2):=by rw[←hp1,←hp2];unfold aM;exact Bool.decide_and _ _
 rw[he]
 refine aI Tryd.func62 rfl Tryd.ntmps62 rfl<|af (.a 1 rfl<|.k [0,1,2] rfl)<|aY 6 (.raw (.bool (p1&&p2))) [] rfl ?_ ?_
 ·refine .a 2 rfl<|.v (bT rfl (hp1)) rfl<|.a 1 rfl<|?_
  cases p1
  ·exact .a 5 rfl<|.k [6] rfl
  ·exact .a 2 rfl<|.v (bT rfl (hp2)) rfl<|.a 2 rfl<|.k [6] rfl
 exact an<|⟨_,_,ax.of rfl,ay.pure,rfl⟩
set_option maxHeartbeats 2000000 in
theorem fp(T:ab):Can Tryd.prog 30 [a6 T] (· =flag (aj T)):=by
  obtain⟨p0,hp0⟩:∃q,aM T.nodes 1 64=q:=⟨_,rfl⟩
  obtain⟨p1,hp1⟩:∃q,decide ((T.over.length:Int)≠0)=q:=⟨_,rfl⟩
  obtain⟨p2,hp2⟩:∃q,decide ((T.over.length:Int)≠T.nodes)=q:=⟨_,rfl⟩
  obtain⟨p3,hp3⟩:∃q,decide (256<(T.aa.length:Int))=q:=⟨_,rfl⟩
  have hw:Can Tryd.prog 62 [num T.nodes,num 1,num 64] (· =flag p0):=by rw[←hp0];exact dE _ _ _
  refine aI Tryd.func30 rfl Tryd.ntmps30 rfl<|af (.a 2 rfl<|.k [1] rfl)<|ak<|aY 14 (.raw (.bool ((!p0)||p3))) [1] rfl ?_ ?_
  · refine .a 2 rfl<|.c rfl (hw) rfl<|.a 2 rfl<|?_
    cases p0
    · exact .a 5 rfl<|.k [14,1] rfl
    · exact .a 3 rfl<|.v (bT rfl (hp3)) rfl<|.a 1 rfl<|.k [14,1] rfl
  refine ag rfl (fun hc=>?_) (fun hc=>?_)
  · have hv:aj T=false:=by
      rcases Bool.or_eq_true_iff.1 hc with h|h
      · exact(dz T (.inl (by rw[hp0];simpa using h))).symm
      · rw[h]at hp3;exact(dz T (.inr (.inl (by have:=tt hp3;omega)))).symm
    rw[hv]
    exact af (.a 1 rfl<|.k [2] rfl)<|an<|⟨_,_,ax.of rfl,ay.pure,rfl⟩
  · obtain ⟨c1, c2⟩ := Bool.or_eq_false_iff.1 hc
    have h0:p0=true:=by simpa using c1
    rw[h0]at hp0
    rw[c2]at hp3
    have hle:T.aa.length≤256:=by have:=ff hp3;omega
    clear hw hc c1
    refine ai<|ak<|aY 26 (.raw (.bool (p1&&p2))) [1] rfl ?_ ?_
    · refine .a 3 rfl<|.v (bT rfl (hp1)) rfl<|.a 1 rfl<|?_
      cases p1
      · exact .a 7 rfl<|.k [26,1] rfl
      · exact .a 5 rfl<|.v (bT rfl (hp2)) rfl<|.a 1 rfl<|.k [26,1] rfl
    refine ag rfl (fun hc=>?_) (fun hc=>?_)
    · have hv:aj T=false:=by
        obtain⟨a1,a2⟩:=Bool.and_eq_true_iff.1 hc
        rw[a1]at hp1
        rw[a2]at hp2
        exact(dz T (.inr (.inr ⟨by have:=tt hp1;omega,tt hp2⟩))).symm
      rw[hv]
      exact af (.a 1 rfl<|.k [2] rfl)<|an<|⟨_,_,ax.of rfl,ay.pure,rfl⟩
    · have hov:T.over.length=0∨(T.over.length:Int)=T.nodes:=by
        rcases Bool.and_eq_false_iff.1 hc with h|h
        · rw[h]at hp1;exact .inl (by have:=ff hp1;omega)
        · rw[h]at hp2;exact .inr (by have:=ff hp2;omega)
      rw[kx T hp0 hle hov]
      clear hc hp1 hp2
      refine ai<|ak<|af (.a 4 rfl<|.k [1,29,30] rfl)<|aq<|iC [1,29,30] rfl<|br (fun r s=>∃k,k≤T.aa.length∧r=T.aa.length - k∧(T.aa.take k).all (eA T)=true∧s=⟨[(1,.b6 (b5 T) 0),(29,num T.aa.length),(30,num k)],[]⟩) T.aa.length ⟨0,by omega,by omega,by simp,rfl⟩ ?_
      rintro r s ⟨k,hk,rfl,hall,rfl⟩
      refine af (.a 1 rfl<|.k [1,29,30,31] rfl)<|ak<|ag rfl (fun hc=>?_) (fun hc=>?_)
      · have hlt:k<T.aa.length:=by have:=tt hc;omega
        have g:∀j,j<7→(ia T.aa)[k*7+j]? =(iy (dh T.aa k))[j]? :=fun j hj=>dF T.aa k j hlt hj
        obtain⟨q1,g1⟩:∃q,decide ((dh T.aa k).a=(dh T.aa k).b)=q:=⟨_,rfl⟩
        obtain⟨q2,g2⟩:∃q,aS T (dh T.aa k).a=q:=⟨_,rfl⟩
        obtain⟨q3,g3⟩:∃q,aS T (dh T.aa k).b=q:=⟨_,rfl⟩
        obtain⟨q4,g4⟩:∃q,aM (dh T.aa k).c0 1 65535=q:=⟨_,rfl⟩
        obtain⟨q5,g5⟩:∃q,aM (dh T.aa k).c1 1 65535=q:=⟨_,rfl⟩
        obtain⟨q6,g6⟩:∃q,aM (dh T.aa k).cap 0 1048576=q:=⟨_,rfl⟩
        obtain⟨q7,g7⟩:∃q,aM (dh T.aa k).ld 1 65536=q:=⟨_,rfl⟩
        obtain⟨q8,g8⟩:∃q,aM (dh T.aa k).we 0 64=q:=⟨_,rfl⟩
        have hOK:=lX (T:=T) (l:=dh T.aa k) (q1:=q1) (by rw[←g1];exact Bool.eq_iff_iff.2 (by simp)) g2 g3 g4 g5 g6 g7 g8
        have hall':=nw (eA T) T.aa k hlt
        have hno:=nZ (eA T) T.aa k hlt
        rw[hOK]at hall' hno
        have n2:=cE T (dh T.aa k).a
        rw[g2]at n2
        have n3:=cE T (dh T.aa k).b
        rw[g3]at n3
        have n4:=dE (dh T.aa k).c0 1 65535
        rw[g4]at n4
        have n5:=dE (dh T.aa k).c1 1 65535
        rw[g5]at n5
        have n6:=dE (dh T.aa k).cap 0 1048576
        rw[g6]at n6
        have n7:=dE (dh T.aa k).ld 1 65536
        rw[g7]at n7
        have n8:=dE (dh T.aa k).we 0 64
        rw[g8]at n8
        clear hOK g2 g3 g4 g5 g6 g7 g8
        refine ai<|ak<|aq<|af (.a 2 rfl<|.k [1,3,29,30] rfl)<|af (.a 3 rfl<|.v (aR (k*7) rfl) rfl<|.a 1 rfl<|.k [1,4,29,30] rfl)<|ak<|kB mixed (by kernel_rfl) 63 (.raw (.bool ((q1|| !q2)|| !q3))) [1,4,29,30] rfl ?_ ?_
        · refine .a 3 rfl<|.v [39] (aO rfl (g 0 (by omega))) rfl rfl<|.a 3 rfl<|.v [43] (aO rfl (g 1 (by omega))) rfl rfl<|.v [40,44] (bT rfl (g1)) rfl rfl<|.a 1 rfl<|?_
          cases q1
          · refine .a 4 rfl<|.v [50] (aO rfl (g 0 (by omega))) rfl rfl<|.v [47,51] (j8 rfl (n2)) rfl rfl<|.a 3 rfl<|?_
            cases q2
            · exact .a 8 rfl<|.k [63,1,4,29,30] rfl
            · exact .a 4 rfl<|.v [59] (aO rfl (g 1 (by omega))) rfl rfl<|.v [56,60] (j8 rfl (n3)) rfl rfl<|.a 2 rfl<|.k [63,1,4,29,30] rfl
          · exact .a 17 rfl<|.k [63,1,4,29,30] rfl
        refine ag rfl (fun hx=>?_) (fun hx=>?_)
        · have hno':=hno (by cases q1<;>cases q2<;>cases q3<;>simp_all)
          rw[hno']
          exact af (.a 1 rfl<|.k [2] rfl)<|an<|⟨_,_,ax.of rfl,ay.pure,rfl⟩
        · have e1:q1=false:=by cases q1<;>simp_all
          have e2:q2=true:=by cases q2<;>simp_all
          have e3:q3=true:=by cases q3<;>simp_all
          subst e1 e2 e3
          clear n2 n3 hx
          refine ai<|ak<|aY 79 (.raw (.bool ((!q4)|| !q5))) [1,4,29,30] rfl ?_ ?_
          · refine .a 3 rfl<|.v (aR (0) rfl) rfl<|.v (aO rfl (g 2 (by omega))) rfl<|.c rfl (n4) rfl<|.a 2 rfl<|?_
            cases q4
            · exact .a 8 rfl<|.k [79,1,4,29,30] rfl
            · exact .a 3 rfl<|.v (aR (1) rfl) rfl<|.v (aO rfl (g 3 (by omega))) rfl<|.c rfl (n5) rfl<|.a 2 rfl<|.k [79,1,4,29,30] rfl
          refine ag rfl (fun hx=>?_) (fun hx=>?_)
          · have hno':=hno (by cases q4<;>cases q5<;>simp_all)
            rw[hno']
            exact af (.a 1 rfl<|.k [2] rfl)<|an<|⟨_,_,ax.of rfl,ay.pure,rfl⟩
          · have e1:q4=true:=by cases q4<;>simp_all
            have e2:q5=true:=by cases q5<;>simp_all
            subst e1 e2
            clear n4 n5 hx
            refine ai<|aY 101 (.raw (.bool (((!q6)|| !q7)|| !q8))) [1,29,30] rfl ?_ ?_
            · refine .a 3 rfl<|.v (aO rfl (g 4 (by omega))) rfl<|.c rfl (n6) rfl<|.a 2 rfl<|?_
              cases q6
              · exact .a 15 rfl<|.k [101,1,29,30] rfl
              · refine .a 3 rfl<|.v (aO rfl (g 5 (by omega))) rfl<|.c rfl (n7) rfl<|.a 3 rfl<|?_
                cases q7
                · exact .a 7 rfl<|.k [101,1,29,30] rfl
                · exact .a 3 rfl<|.v (aO rfl (g 6 (by omega))) rfl<|.c rfl (n8) rfl<|.a 2 rfl<|.k [101,1,29,30] rfl
            refine ag rfl (fun hx=>?_) (fun hx=>?_)
            · have hno':=hno (by cases q6<;>cases q7<;>cases q8<;>simp_all)
              rw[hno']
              exact af (.a 1 rfl<|.k [2] rfl)<|an<|⟨_,_,ax.of rfl,ay.pure,rfl⟩
            · have e1:q6=true:=by cases q6<;>simp_all
              have e2:q7=true:=by cases q7<;>simp_all
              have e3:q8=true:=by cases q8<;>simp_all
              subst e1 e2 e3
              clear n6 n7 n8 hx
              refine ai<|aF (.v (bf rfl) rfl<|.a 1 rfl<|.k [1,29,30] rfl) ?_
              exact⟨T.aa.length - (k+1),by omega,k+1,by omega,rfl,by rw[hall',hall];rfl,rfl⟩
      · have hke:k=T.aa.length:=by have:=ff hc;omega
        subst hke
        rw[List.take_length]at hall
        rw[hall]
        exact bn<|af (.a 1 rfl<|.k [2] rfl)<|an<|⟨_,_,ax.of rfl,ay.pure,rfl⟩
end PW
end Go.Proofs.YtnegbdpggideiaaDoor
namespace Go.Proofs.YtnegbdpggideiaaDoor
namespace PW
open Go.RowKit aN Mem Net
section
variable {P:Program} {ops:Array Oper} {Q:Exit→Act→World→Prop}
end
end PW
end Go.Proofs.YtnegbdpggideiaaDoor
namespace Go.Proofs.YtnegbdpggideiaaDoor
namespace PW
open Go.RowKit aN Mem Net
end PW
end Go.Proofs.YtnegbdpggideiaaDoor
namespace Go.Proofs.YtnegbdpggideiaaDoor
namespace PW
open Go.RowKit Go.Shelf aN Mem Net eB
attribute [local go_sem] Oper.semAt_some
end PW
end Go.Proofs.YtnegbdpggideiaaDoor
namespace Go.Proofs.YtnegbdpggideiaaDoor
namespace PW
open Go.RowKit Go.Shelf aN Mem Net eB
theorem mE{E:Env}{w:World}:∀ {cs:List Value} {M:List Bool},aw E w cs (dX M)→cs=M.map Value.bool
 | [],[],_=>rfl
 | [],b::M,h=>by have:=h.1;simp[dX]at this
 |c::cs,[],h=>by have:=h.1;simp[dX]at this
 |c::cs,b::M,h=>by
  have h0:=dI (h.2 0 c (flag b) rfl rfl)
  have h1:aw E w cs (dX M):=⟨by have:=h.1;simpa[dX]using this,fun i x u k1 k2=>h.2 (i+1) x u (by simpa using k1) (by simpa[dX]using k2)⟩
  rw[mE h1,h0]
  rfl
def nx(T:ab)(k x:Int):List Bool:=(List.range (2*T.aa.length)).map fun a=>sO k x T.aa (a / 2)
structure tI (base n B:Nat) (v:Value) (Mm:Nat→Prop) (M:List Bool) (W:World):Prop where
 bl:base≤W.heap.size
 row:W.ownsRow base 4 1 v n (M.map Value.bool)
 box:W.heap[B]? =some (.cells #[v] 35 (0,0))
 gl:lB Mm W
theorem s5{W W':World}{base e n:Nat}{v:Value}{xs:List Value}(h:W.ownsRow base e 1 v n xs)(hs:∀(g:Nat) (o:Array Value),W.heap[g]? =some (Obj.cells o e (0,0))→W'.heap[g]? =W.heap[g]?):W'.ownsRow base e 1 v n xs:=by
 refine⟨h.1,h.2.imp id ?_⟩
 rintro⟨g,cap,cur,h1,h2,h3,h4⟩
 exact⟨g,cap,cur,h1,h2,(hs g cur h3).trans h3,h4⟩
theorem tI.same{base n B:Nat}{v:Value}{Mm:Nat→Prop}{M:List Bool}{W W':World}(h:tI base n B v Mm M W)(hz:W.heap.size≤W'.heap.size)(hs:∀(b:Nat) (cs:Array Value) (t:TypeId) (fz:Nat×Nat),W.heap[b]? =some (Obj.cells cs t fz)→W'.heap[b]? =W.heap[b]?):tI base n B v Mm M W':=
 ⟨Nat.le_trans h.bl hz,s5 h.row (fun g o hg=>hs g o _ _ hg),(hs B _ _ _ h.box).trans h.box,fun g cs hg=>by
  obtain⟨h1,t,fz,h2⟩:=h.gl g cs hg
  exact⟨h1,t,fz,(hs g _ _ _ h2).trans h2⟩⟩
theorem tI.of{base n B:Nat}{E:Env}{M:List Bool}{W:World}(hS:Sat (fun _=>False) base [some (.row 4 1 n (dX M)),some (.cells 35 [.own 0])] E W)(hB:E.at_ 1= .pointer (some ⟨B,0,none⟩)):tI base n B (E.at_ 0) E.M M W∧(E.at_ 0).oneCell'=true:=by
 obtain⟨cs,h1,h2⟩:=hS.blk 0 _ rfl
 rw[mE h2]at h1
 obtain⟨b,cs1,k1,k2,k3,k4⟩:=hS.blk 1 _ rfl
 have hbB:b=B:=by rw[hB]at k1;cases k1;rfl
 subst hbB
 obtain⟨cl⟩:=cs1
 match cl,k4 with
 | [],k4=>have:=k4.1;simp at this
 |_::_::_,k4=>have:=k4.1;simp at this
 | [u],k4=>
  have hu:=k4.2 0 u _ rfl rfl
  cases hu with
  |own _ _ _ hu ho=>
   subst hu
   exact⟨⟨hS.bl,h1,k3,hS.gl⟩,ho⟩
end PW
end Go.Proofs.YtnegbdpggideiaaDoor
namespace Go.Proofs.YtnegbdpggideiaaDoor
namespace PW
open Go.RowKit Go.Shelf aN Mem Net eB
attribute [local go_sem] Oper.semAt_some
end PW
end Go.Proofs.YtnegbdpggideiaaDoor
namespace Go.Proofs.YtnegbdpggideiaaDoor
namespace PW
open Go.RowKit aN Mem Net eB
end PW
end Go.Proofs.YtnegbdpggideiaaDoor
namespace Go.Proofs.YtnegbdpggideiaaDoor
namespace PW
open Go.RowKit aN Mem
section
variable {P:Program} {N L:Nat} {ops:Array Oper}
theorem mo{c:Code}{t:a7}{σ:bo}{Q:Exit→St→Prop}(k i off:Nat){ty:TypeId}{xs:List PV}(hk:look k t=some (.ptr i off))(hi:σ[i]? =some (some (.cells ty xs)))(h:W P N L c ⟨(k,.b6 xs off)::t,σ.set i none⟩ Q):W P N L c ⟨t,σ⟩ Q:=fun F base E₀ w₀ E a w hc hs=>by
 obtain⟨a1,a2⟩:=hs.sat.kill i hi
 have hv:=hs.tmp k _ hk
 obtain⟨b,cs,h1,h2,h3,h4⟩:=hs.sat.blk i _ hi
 have hp:bC (E.kill i) w (a.eval (.tmp k)) (.b6 xs off):=by
  generalize a.eval (.tmp k)=z at hv
  cases hv with
  |ptr _ _ b' hi' h=>
   have hb:b'=b:=by
    rcases h with h|⟨n,c,h⟩<;>rw[h1]at h<;>cases h
    rfl
   subst hb
   have:=bC.b6 (E:=E.kill i) (w:=w) b' 0 off cs.toList xs (Array.getElem?_eq_some_iff.1 h3).1 (fun hM=>hM.2 (by rw[h1];rfl)) (fun j x hx=>by rw[Nat.zero_add];unfold World.cell?;simp only[h3];simpa using hx) h4.1 (fun j x u k1 k2=>(h4.2 j x u k1 k2).goes a2)
   rw[Nat.zero_add]at this
   exact this
 exact h F base E₀ w₀ _ a w (hc.on a2 (Below.refl _ _)) ⟨a1,(hs.tmp.goes a2).xA hp,hs.jq,hs.size⟩
end
end PW
end Go.Proofs.YtnegbdpggideiaaDoor
namespace Go.Proofs.YtnegbdpggideiaaDoor
namespace PW
open Go.RowKit aN Mem Net
theorem cm(n lo hi:Int):Can Tryd.prog 58 [num n,num lo,num hi] (· =flag (aM n lo hi)):=by
 obtain⟨p1,hp1⟩:∃q,decide (lo≤n)=q:=⟨_,rfl⟩
 obtain⟨p2,hp2⟩:∃q,decide (n≤hi)=q:=⟨_,rfl⟩
 have he:aM n lo hi=(p1&&p2):=by rw[←hp1,←hp2];unfold aM;exact Bool.decide_and _ _
 rw[he]
 refine aI Tryd.func58 rfl Tryd.ntmps58 rfl<|af (.a 1 rfl<|.k [0,1,2] rfl)<|aY 6 (.raw (.bool (p1&&p2))) [] rfl ?_ ?_
 ·refine .a 2 rfl<|.v (bT rfl (hp1)) rfl<|.a 1 rfl<|?_
  cases p1
  ·exact .a 5 rfl<|.k [6] rfl
  ·exact .a 2 rfl<|.v (bT rfl (hp2)) rfl<|.a 2 rfl<|.k [6] rfl
 exact an<|⟨_,_,ax.of rfl,ay.pure,rfl⟩
set_option maxHeartbeats 2000000 in
theorem eD(T:ab):Can Tryd.prog 28 [a6 T] (· =flag (aj T)):=by
  obtain⟨p0,hp0⟩:∃q,aM T.nodes 1 64=q:=⟨_,rfl⟩
  obtain⟨p1,hp1⟩:∃q,decide ((T.over.length:Int)≠0)=q:=⟨_,rfl⟩
  obtain⟨p2,hp2⟩:∃q,decide ((T.over.length:Int)≠T.nodes)=q:=⟨_,rfl⟩
  obtain⟨p3,hp3⟩:∃q,decide (256<(T.aa.length:Int))=q:=⟨_,rfl⟩
  have hw:Can Tryd.prog 58 [num T.nodes,num 1,num 64] (· =flag p0):=by rw[←hp0];exact cm _ _ _
  refine aI Tryd.func28 rfl Tryd.ntmps28 rfl<|af (.a 2 rfl<|.k [1] rfl)<|ak<|aY 28 (.raw (.bool (((!p0)||(p1&&p2))||p3))) [1] rfl ?_ ?_
  · refine .a 2 rfl<|.c rfl (hw) rfl<|.a 2 rfl<|?_
    cases p0
    · exact .a 19 rfl<|.k [28,1] rfl
    · refine .a 3 rfl<|.v (bT rfl (hp1)) rfl<|.a 1 rfl<|?_
      cases p1
      · exact .a 12 rfl<|.v (bT rfl (hp3)) rfl<|.a 1 rfl<|.k [28,1] rfl
      · refine .a 5 rfl<|.v (bT rfl (hp2)) rfl<|.a 3 rfl<|?_
        cases p2
        · exact .a 3 rfl<|.v (bT rfl (hp3)) rfl<|.a 1 rfl<|.k [28,1] rfl
        · exact .a 5 rfl<|.k [28,1] rfl
  refine ag rfl (fun hc=>?_) (fun hc=>?_)
  · have hv:aj T=false:=by
      rcases Bool.or_eq_true_iff.1 hc with h|h
      · rcases Bool.or_eq_true_iff.1 h with h|h
        · exact(dz T (.inl (by rw[hp0];simpa using h))).symm
        · obtain⟨a1,a2⟩:=Bool.and_eq_true_iff.1 h
          rw[a1]at hp1
          rw[a2]at hp2
          exact(dz T (.inr (.inr ⟨by have:=tt hp1;omega,tt hp2⟩))).symm
      · rw[h]at hp3;exact(dz T (.inr (.inl (by have:=tt hp3;omega)))).symm
    rw[hv]
    exact af (.a 1 rfl<|.k [2] rfl)<|an<|⟨_,_,ax.of rfl,ay.pure,rfl⟩
  · obtain ⟨c1, c2⟩ := Bool.or_eq_false_iff.1 hc
    obtain⟨c1,c3⟩:=Bool.or_eq_false_iff.1 c1
    have h0:p0=true:=by simpa using c1
    rw[h0]at hp0
    rw[c2]at hp3
    have hle:T.aa.length≤256:=by have:=ff hp3;omega
    have hov:T.over.length=0∨(T.over.length:Int)=T.nodes:=by
      rcases Bool.and_eq_false_iff.1 c3 with h|h
      · rw[h]at hp1;exact .inl (by have:=ff hp1;omega)
      · rw[h]at hp2;exact .inr (by have:=ff hp2;omega)
    rw[kx T hp0 hle hov]
    have hnd:=iI hp0
    clear hw hc c1 c3 hp1 hp2
    refine ai<|ak<|af (.a 1 rfl<|.k [1,3] rfl)<|aq<|iC [1,3] rfl<|br (fun r s=>∃k,k≤T.aa.length∧r=T.aa.length - k∧(T.aa.take k).all (eA T)=true∧s=⟨[(1,.b6 (b5 T) 0),(3,num k)],[]⟩) T.aa.length ⟨0,by omega,by omega,by simp,rfl⟩ ?_
    rintro r s ⟨k,hk,rfl,hall,rfl⟩
    refine ak<|af (.a 5 rfl<|.k [1,3,33] rfl)<|ag rfl (fun hc=>?_) (fun hc=>?_)
    · have hlt:k<T.aa.length:=by have:=tt hc;omega
      obtain⟨q1,g1⟩:∃q,decide ((dh T.aa k).a=(dh T.aa k).b)=q:=⟨_,rfl⟩
      obtain⟨q2,g2⟩:∃q,aS T (dh T.aa k).a=q:=⟨_,rfl⟩
      obtain⟨q3,g3⟩:∃q,aS T (dh T.aa k).b=q:=⟨_,rfl⟩
      obtain⟨q4,g4⟩:∃q,aM (dh T.aa k).c0 1 65535=q:=⟨_,rfl⟩
      obtain⟨q5,g5⟩:∃q,aM (dh T.aa k).c1 1 65535=q:=⟨_,rfl⟩
      obtain⟨q6,g6⟩:∃q,aM (dh T.aa k).cap 0 1048576=q:=⟨_,rfl⟩
      obtain⟨q7,g7⟩:∃q,aM (dh T.aa k).ld 1 65536=q:=⟨_,rfl⟩
      obtain⟨q8,g8⟩:∃q,aM (dh T.aa k).we 0 64=q:=⟨_,rfl⟩
      have hOK:=lX (T:=T) (l:=dh T.aa k) (q1:=q1) (by rw[←g1];exact Bool.eq_iff_iff.2 (by simp)) g2 g3 g4 g5 g6 g7 g8
      have hall':=nw (eA T) T.aa k hlt
      have hno:=nZ (eA T) T.aa k hlt
      rw[hOK]at hall' hno
      have n2:=cm (dh T.aa k).a 0 (T.nodes - 1)
      rw[j3,g2]at n2
      have n3:=cm (dh T.aa k).b 0 (T.nodes - 1)
      rw[j3,g3]at n3
      have n4:=cm (dh T.aa k).c0 1 65535
      rw[g4]at n4
      have n5:=cm (dh T.aa k).c1 1 65535
      rw[g5]at n5
      have n6:=cm (dh T.aa k).cap 0 1048576
      rw[g6]at n6
      have n7:=cm (dh T.aa k).ld 1 65536
      rw[g7]at n7
      have n8:=cm (dh T.aa k).we 0 64
      rw[g8]at n8
      clear hOK g2 g3 g4 g5 g6 g7 g8
      refine ai<|ak<|aq<|aX<|av 3 rfl<|bZ (aR (k*7) rfl) rfl<|bZ (eZ rfl (sD T.aa k hlt) rfl) rfl<|av 2 rfl<|aQ [1,3,4] rfl ?_
      refine mo 4 0 0 rfl rfl ?_
      refine dO [] (.c 1<|.c 3<|.c 4 .nil) .nil rfl rfl ?_
      refine ak<|aY 77 (.raw (.bool (((((!q2)|| !q3)||q1)|| !q4)|| !q5))) [1,3,4] rfl ?_ ?_
      · refine .a 4 rfl<|.v (bf rfl) rfl<|.c rfl (n2) rfl<|.a 2 rfl<|?_
        cases q2
        · exact .a 29 rfl<|.k [77,1,3,4] rfl
        · refine .a 4 rfl<|.v (bf rfl) rfl<|.c rfl (n3) rfl<|.a 3 rfl<|?_
          cases q3
          · exact .a 20 rfl<|.k [77,1,3,4] rfl
          · refine .a 4 rfl<|.v (bT rfl (g1)) rfl<|.a 2 rfl<|?_
            cases q1
            · refine .a 1 rfl<|.v (aR (0) rfl) rfl<|.a 1 rfl<|.c rfl (n4) rfl<|.a 3 rfl<|?_
              cases q4
              · exact .a 6 rfl<|.k [77,1,3,4] rfl
              · exact .a 1 rfl<|.v (aR (1) rfl) rfl<|.a 1 rfl<|.c rfl (n5) rfl<|.a 2 rfl<|.k [77,1,3,4] rfl
            · exact .a 13 rfl<|.k [77,1,3,4] rfl
      refine ag rfl (fun hx=>?_) (fun hx=>?_)
      · have hno':=hno (by cases q1<;>cases q2<;>cases q3<;>cases q4<;>cases q5<;>simp_all)
        rw[hno']
        exact af (.a 1 rfl<|.k [2] rfl)<|an<|⟨_,_,ax.of rfl,ay.pure,rfl⟩
      · have e1:q1=false:=by cases q1<;>simp_all
        have e2:q2=true:=by cases q2<;>simp_all
        have e3:q3=true:=by cases q3<;>simp_all
        have e4:q4=true:=by cases q4<;>simp_all
        have e5:q5=true:=by cases q5<;>simp_all
        subst e1 e2 e3 e4 e5
        clear n2 n3 n4 n5 hx
        refine ai<|aY 93 (.raw (.bool (((!q6)|| !q7)|| !q8))) [1,3] rfl ?_ ?_
        · refine .a 2 rfl<|.c rfl (n6) rfl<|.a 2 rfl<|?_
          cases q6
          · exact .a 11 rfl<|.k [93,1,3] rfl
          · refine .a 2 rfl<|.c rfl (n7) rfl<|.a 3 rfl<|?_
            cases q7
            · exact .a 5 rfl<|.k [93,1,3] rfl
            · exact .a 2 rfl<|.c rfl (n8) rfl<|.a 2 rfl<|.k [93,1,3] rfl
        refine ag rfl (fun hx=>?_) (fun hx=>?_)
        · have hno':=hno (by cases q6<;>cases q7<;>cases q8<;>simp_all)
          rw[hno']
          exact af (.a 1 rfl<|.k [2] rfl)<|an<|⟨_,_,ax.of rfl,ay.pure,rfl⟩
        · have e1:q6=true:=by cases q6<;>simp_all
          have e2:q7=true:=by cases q7<;>simp_all
          have e3:q8=true:=by cases q8<;>simp_all
          subst e1 e2 e3
          clear n6 n7 n8 hx
          refine ai<|aF (.a 1 rfl<|.v (bf rfl) rfl<|.a 1 rfl<|.k [1,3] rfl) ?_
          exact⟨T.aa.length - (k+1),by omega,k+1,by omega,rfl,by rw[hall',hall];rfl,rfl⟩
    · have hke:k=T.aa.length:=by have:=ff hc;omega
      subst hke
      rw[List.take_length]at hall
      rw[hall]
      exact bn<|af (.a 1 rfl<|.k [2] rfl)<|an<|⟨_,_,ax.of rfl,ay.pure,rfl⟩
theorem gN(T:ab)(hv:aj T=true):Can Tryd.prog 42 [a6 T] (· =num (2*(T.aa.length:Int))):=by
 have hll:=bJ hv
 have h:=eD T
 rw[hv]at h
 refine aI Tryd.func42 rfl Tryd.ntmps42 rfl<|af (.a 2 rfl<|.k [1] rfl)<|ak<|af (.a 1 rfl<|.c rfl (h) rfl<|.a 1 rfl<|.k [1,5] rfl)<|ag rfl (fun hc=>?_) (fun hc=>?_)
 ·cases hc
 ·exact ai<|af (.a 3 rfl<|.v (bf rfl) rfl<|.a 1 rfl<|.k [2] rfl)<|an<|⟨_,_,ax.of rfl,ay.pure,rfl⟩
theorem iV{T:ab}{a:Int}{p1 p2:Bool}(hp1:decide (a<0)=p1)(hp2:decide (2*(T.aa.length:Int)≤a)=p2)(hc:(p1||p2)=true):¬(0≤a∧a<2*(T.aa.length:Int)):=by
 rcases Bool.or_eq_true_iff.1 hc with h|h
 ·rw[h]at hp1;have:=tt hp1;omega
 ·rw[h]at hp2;have:=tt hp2;omega
theorem gE{T:ab}{a:Int}{p1 p2:Bool}(hp1:decide (a<0)=p1)(hp2:decide (2*(T.aa.length:Int)≤a)=p2)(hc:(p1||p2)=false):0≤a∧a<2*(T.aa.length:Int):=by
 obtain⟨h1,h2⟩:=Bool.or_eq_false_iff.1 hc
 rw[h1]at hp1
 rw[h2]at hp2
 have:=ff hp1
 have:=ff hp2
 omega
theorem mf(T:ab)(hv:aj T=true)(a:Int):Can Tryd.prog 43 [a6 T,num a] (· =num (nA T a)):=by
 have hll:=bJ hv
 obtain⟨p1,hp1⟩:∃q,decide (a<0)=q:=⟨_,rfl⟩
 obtain⟨p2,hp2⟩:∃q,decide (2*(T.aa.length:Int)≤a)=q:=⟨_,rfl⟩
 refine aI Tryd.func43 rfl Tryd.ntmps43 rfl<|af (.a 2 rfl<|.k [1,2] rfl)<|ak<|aq<|aY 5 (.raw (.bool (p1||p2))) [1,2] rfl ?_ ?_
 ·refine .a 1 rfl<|.v (bT rfl (hp1)) rfl<|.a 1 rfl<|?_
  cases p1
  ·exact .a 2 rfl<|.c rfl (gN T hv) rfl<|.v (bT rfl (hp2)) rfl<|.a 2 rfl<|.k [5,1,2] rfl
  ·exact .a 6 rfl<|.k [5,1,2] rfl
 refine ag rfl (fun hc=>?_) (fun hc=>?_)
 ·unfold nA
  rw[if_neg (iV hp1 hp2 hc)]
  exact af (.a 1 rfl<|.k [4] rfl)<|an<|⟨_,_,ax.of rfl,ay.pure,rfl⟩
 ·have hy:=gE hp1 hp2 hc
  unfold nA
  rw[if_pos hy]
  clear hp1 hp2 hc
  obtain⟨a,rfl⟩:=Int.eq_ofNat_of_zero_le hy.1
  have hi:a / 2<T.aa.length:=by omega
  unfold bb
  rw[Int.toNat_natCast]
  refine af (.a 1 rfl<|.v (kM rfl rfl rfl (by decide) (tL a)) rfl<|.a 2 rfl<|.k [1,2,14] rfl)<|ag rfl (fun hc=>?_) (fun hc=>?_)
  ·have h2:a % 2=0:=by have:=tt hc;omega
   rw[if_pos h2]
   exact af (.a 3 rfl<|.v (ig rfl rfl rfl (by decide) (p7 a) (by unfold In64;omega)) rfl<|.v (aR (a / 2*7) rfl) rfl<|.a 1 rfl<|.v (aO rfl (dF T.aa (a / 2) 0 hi (by omega))) rfl<|.a 1 rfl<|.k [4] rfl)<|an<|⟨_,_,ax.of rfl,ay.pure,rfl⟩
  ·have h2:¬a % 2=0:=by have:=ff hc;omega
   rw[if_neg h2]
   exact ai<|af (.a 3 rfl<|.v (ig rfl rfl rfl (by decide) (p7 a) (by unfold In64;omega)) rfl<|.v (aR (a / 2*7) rfl) rfl<|.a 1 rfl<|.v (aO rfl (dF T.aa (a / 2) 1 hi (by omega))) rfl<|.a 1 rfl<|.k [4] rfl)<|an<|⟨_,_,ax.of rfl,ay.pure,rfl⟩
theorem vF(a:Nat):(((a / 2:Nat):Int)*2+1) - ((a % 2:Nat):Int)=((Net.flip a:Nat):Int):=by unfold Net.flip;split<;>omega
theorem rp(T:ab)(hv:aj T=true)(a:Int):Can Tryd.prog 46 [a6 T,num a] (· =num (og T a)):=by
 have hll:=bJ hv
 obtain⟨p1,hp1⟩:∃q,decide (a<0)=q:=⟨_,rfl⟩
 obtain⟨p2,hp2⟩:∃q,decide (2*(T.aa.length:Int)≤a)=q:=⟨_,rfl⟩
 refine aI Tryd.func46 rfl Tryd.ntmps46 rfl<|af (.a 2 rfl<|.k [1,2] rfl)<|ak<|aY 12 (.raw (.bool (p1||p2))) [1,2] rfl ?_ ?_
 ·refine .a 1 rfl<|.v (bT rfl (hp1)) rfl<|.a 1 rfl<|?_
  cases p1
  ·exact .a 2 rfl<|.c rfl (gN T hv) rfl<|.v (bT rfl (hp2)) rfl<|.a 1 rfl<|.k [12,1,2] rfl
  ·exact .a 5 rfl<|.k [12,1,2] rfl
 refine ag rfl (fun hc=>?_) (fun hc=>?_)
 ·unfold og
  rw[if_neg (iV hp1 hp2 hc)]
  exact af (.a 1 rfl<|.k [4] rfl)<|an<|⟨_,_,ax.of rfl,ay.pure,rfl⟩
 ·have hy:=gE hp1 hp2 hc
  unfold og
  rw[if_pos hy]
  clear hp1 hp2 hc
  obtain⟨a,rfl⟩:=Int.eq_ofNat_of_zero_le hy.1
  rw[Int.toNat_natCast]
  have ht:=mf T hv ((Net.flip a:Nat):Int)
  rw[l4 T (Net.flip a) (by unfold Net.flip;split<;>omega)]at ht
  exact ai<|af (.a 2 rfl<|.v (ig rfl rfl rfl (by decide) (p7 a) (by unfold In64;omega)) rfl<|.v (bf rfl) rfl<|.v (bf rfl) rfl<|.a 1 rfl<|.v (kM rfl rfl rfl (by decide) (tL a)) rfl<|.v (bf rfl (hc:=vF a) (hn:=by unfold In64 Net.flip;split<;>omega)) rfl<|.c rfl (ht) rfl<|.a 1 rfl<|.k [4] rfl)<|an<|⟨_,_,ax.of rfl,ay.pure,rfl⟩
theorem sh(T:ab)(hv:aj T=true)(a:Int):Can Tryd.prog 45 [a6 T,num a] (· =num (nI T a)):=by
 have hll:=bJ hv
 obtain⟨p1,hp1⟩:∃q,decide (a<0)=q:=⟨_,rfl⟩
 obtain⟨p2,hp2⟩:∃q,decide (2*(T.aa.length:Int)≤a)=q:=⟨_,rfl⟩
 refine aI Tryd.func45 rfl Tryd.ntmps45 rfl<|af (.a 2 rfl<|.k [1,2] rfl)<|ak<|aY 12 (.raw (.bool (p1||p2))) [1,2] rfl ?_ ?_
 ·refine .a 1 rfl<|.v (bT rfl (hp1)) rfl<|.a 1 rfl<|?_
  cases p1
  ·exact .a 2 rfl<|.c rfl (gN T hv) rfl<|.v (bT rfl (hp2)) rfl<|.a 1 rfl<|.k [12,1,2] rfl
  ·exact .a 5 rfl<|.k [12,1,2] rfl
 refine ag rfl (fun hc=>?_) (fun hc=>?_)
 ·unfold nI
  rw[if_neg (iV hp1 hp2 hc)]
  exact af (.a 1 rfl<|.k [4] rfl)<|an<|⟨_,_,ax.of rfl,ay.pure,rfl⟩
 ·have hy:=gE hp1 hp2 hc
  unfold nI
  rw[if_pos hy]
  clear hp1 hp2 hc
  obtain⟨a,rfl⟩:=Int.eq_ofNat_of_zero_le hy.1
  rw[Int.toNat_natCast]
  exact ai<|af (.a 3 rfl<|.v (ig rfl rfl rfl (by decide) (p7 a) (by unfold In64;omega)) rfl<|.a 1 rfl<|.v (kM rfl rfl rfl (by decide) (tL a)) rfl<|.v (aR (a / 2*7) rfl) rfl<|.a 1 rfl<|.v (aR (a % 2) rfl) rfl<|.v (aO rfl (oq T a (by omega))) rfl<|.a 1 rfl<|.k [4] rfl)<|an<|⟨_,_,ax.of rfl,ay.pure,rfl⟩
theorem kN(T:ab)(hv:aj T=true)(a:Nat)(ha:a<2*T.aa.length):Can Tryd.prog 43 [a6 T,num a] (· =num (bb T a)):=by rw[←l4 T a ha];exact mf T hv a
theorem kr(T:ab)(hv:aj T=true)(a:Nat)(ha:a<2*T.aa.length):Can Tryd.prog 46 [a6 T,num a] (· =num (aK T a)):=by rw[←si T a ha];exact rp T hv a
theorem iu(T:ab)(hv:aj T=true)(a:Nat)(ha:a<2*T.aa.length):Can Tryd.prog 45 [a6 T,num a] (· =num (a8 T a)):=by rw[←rG T a ha];exact sh T hv a
theorem mA(T:ab)(hv:aj T=true)(n:Nat):Can Tryd.prog 44 [a6 T,num n] (· =flag (bI T n)):=by
 have h:=eD T
 rw[hv]at h
 obtain⟨p1,hp1⟩:∃q,decide ((n:Int)<(T.over.length:Int))=q:=⟨_,rfl⟩
 obtain⟨p2,hp2⟩:∃q,T.over.getD n false=q:=⟨_,rfl⟩
 have he:bI T n=(p1&&p2):=by
  unfold bI
  cases p1
  ·have:=ff hp1
   rw[List.getD_eq_getElem?_getD,List.getElem?_eq_none (by omega)];rfl
  ·exact hp2
 rw[he]
 have h0:decide (0≤(n:Int))=true:=decide_eq_true (by omega)
 refine aI Tryd.func44 rfl Tryd.ntmps44 rfl<|af (.a 2 rfl<|.k [1,2] rfl)<|aY 4 (.raw (.bool (p1&&p2))) [] rfl ?_ ?_
 ·refine .a 1 rfl<|.c rfl (h) rfl<|.a 2 rfl<|.v (bT rfl h0) rfl<|.a 6 rfl<|.v (bT rfl (hp1)) rfl<|.a 2 rfl<|?_
  cases p1
  ·exact .a 7 rfl<|.k [4] rfl
  ·exact .a 3 rfl<|.v (aR (n) rfl (by omega) (by have:=tt hp1;omega)) rfl<|.v (aO rfl (show _=some (flag p2) by rw[fD _ n (by have:=tt hp1;omega),hp2])) rfl<|.a 2 rfl<|.k [4] rfl
 exact an<|⟨_,_,ax.of rfl,ay.pure,rfl⟩
theorem sn(T:ab)(D:List Bool):Can Tryd.prog 59 [a6 T,bA D] (· =flag (aj T&&bw T D)):=by
 obtain⟨p0,hp0⟩:∃q,aj T=q:=⟨_,rfl⟩
 have h:=eD T
 rw[hp0]at h
 obtain⟨p1,hp1⟩:∃q,decide ((D.length:Int)=0)=q:=⟨_,rfl⟩
 obtain⟨p2,hp2⟩:∃q,decide ((D.length:Int)=2*(T.aa.length:Int))=q:=⟨_,rfl⟩
 have he:bw T D=(p1||p2):=by rw[←hp1,←hp2];unfold bw;rw[←Bool.decide_or];exact decide_eq_decide.2 (by omega)
 rw[he,hp0]
 refine aI Tryd.func59 rfl Tryd.ntmps59 rfl<|af (.a 2 rfl<|.k [1,2] rfl)<|aY 4 (.raw (.bool (p0&&(p1||p2)))) [] rfl ?_ ?_
 ·refine .a 1 rfl<|.c rfl (h) rfl<|.a 1 rfl<|?_
  cases p0
  ·exact .a 14 rfl<|.k [4] rfl
  ·refine .a 2 rfl<|.v (bT rfl (hp1)) rfl<|.a 1 rfl<|?_
   cases p1
   ·exact .a 5 rfl<|.v (bf rfl (hn:=by have:=bJ hp0;unfold In64;omega)) rfl<|.v (bT rfl (hp2)) rfl<|.a 3 rfl<|.k [4] rfl
   ·exact .a 10 rfl<|.k [4] rfl
 exact an<|⟨_,_,ax.of rfl,ay.pure,rfl⟩
theorem qi(D:List Bool)(a:Nat)(ha:D.length=0∨a<D.length):Can Tryd.prog 60 [bA D,num a] (· =flag (!bG D a)):=by
 obtain⟨p1,hp1⟩:∃q,decide ((D.length:Int)=0)=q:=⟨_,rfl⟩
 obtain⟨p2,hp2⟩:∃q,D.getD a false=q:=⟨_,rfl⟩
 have he:(!bG D a)=(p1|| !p2):=by
  rw[qS (p1:= !p1) (by rw[←hp1];rw[←decide_not];exact decide_eq_decide.2 (by omega)) hp2]
  cases p1<;>cases p2<;>rfl
 rw[he]
 refine aI Tryd.func60 rfl Tryd.ntmps60 rfl<|af (.a 1 rfl<|.k [0,1] rfl)<|aY 4 (.raw (.bool (p1|| !p2))) [] rfl ?_ ?_
 ·refine .a 2 rfl<|.v (bT rfl (hp1)) rfl<|.a 1 rfl<|?_
  cases p1
  ·exact .a 2 rfl<|.v (aR (a) rfl (by omega) (by have:=ff hp1;omega)) rfl<|.v (aO rfl (show _=some (flag p2) by rw[fD _ a (by have:=ff hp1;omega),hp2])) rfl<|.a 3 rfl<|.k [4] rfl
  ·exact .a 7 rfl<|.k [4] rfl
 exact an<|⟨_,_,ax.of rfl,ay.pure,rfl⟩
theorem jh(T:ab)(hv:aj T=true)(n d:Nat):Can Tryd.prog 61 [a6 T,num n,num d] (· =flag (decide (n=d)|| !bI T n)):=by
 obtain⟨p1,hp1⟩:∃q,decide ((n:Int)=(d:Int))=q:=⟨_,rfl⟩
 obtain⟨p2,hp2⟩:∃q,bI T n=q:=⟨_,rfl⟩
 have he:decide (n=d)=p1:=by rw[←hp1];exact decide_eq_decide.2 (by omega)
 have h:=mA T hv n
 rw[hp2]at h
 rw[he,hp2]
 refine aI Tryd.func61 rfl Tryd.ntmps61 rfl<|af (.a 2 rfl<|.k [1,2,3] rfl)<|aY 6 (.raw (.bool (p1|| !p2))) [] rfl ?_ ?_
 ·refine .a 2 rfl<|.v (bT rfl (hp1)) rfl<|.a 1 rfl<|?_
  cases p1
  ·exact .a 2 rfl<|.c rfl (h) rfl<|.a 3 rfl<|.k [6] rfl
  ·exact .a 6 rfl<|.k [6] rfl
 exact an<|⟨_,_,ax.of rfl,ay.pure,rfl⟩
end PW
end Go.Proofs.YtnegbdpggideiaaDoor
namespace Go.Proofs.YtnegbdpggideiaaDoor
namespace Heap
def par(q:Nat):Nat:=(q - 1) / 2
theorem cC{q:Nat}(h:0<q):par q<q:=by unfold par;omega
theorem uV{p c:Nat}(h:0<c)(hc:par c=p):c=2*p+1∨c=2*p+2:=by unfold par at hc;omega
def kT(f:Nat→Int)(len:Nat):Prop:=∀q,0<q→q<len→f (par q)≤f q
def wz(f:Nat→Int)(len p:Nat):Prop:=0<p→∀c,0<c→c<len→par c=p→f (par p)≤f c
def iW(f:Nat→Int)(len p:Nat):Prop:=(∀q,0<q→q<len→q≠p→par q≠p→f (par q)≤f q)∧wz f len p
def mj(f:Nat→Int)(len p:Nat):Prop:=(∀q,0<q→q<len→par q≠p→f (par q)≤f q)∧wz f len p
def uM(f:Nat→Int)(p q x:Nat):Int:=if x=p then f q else if x=q then f p else f x
theorem nX(f:Nat→Int)(p q:Nat):uM f p q p=f q:=by simp[uM]
theorem xF(f:Nat→Int)(p q:Nat):uM f p q q=f p:=by
 unfold uM;split
 ·rename_i h;rw[h]
 ·simp
theorem fx(f:Nat→Int){p q x:Nat}(h1:x≠p)(h2:x≠q):uM f p q x=f x:=by simp[uM,h1,h2]
theorem sW{f:Nat→Int}{len p:Nat}(h:iW f len p)(hp:0<p)(hl:p<len)(_:f p<f (par p)):iW (uM f p (par p)) len (par p):=by
 have hpp:=cC hp
 refine⟨fun q h0 hq h1 h2=>?_,fun hg c h0 hc hpc=>?_⟩
 ·by_cases e:par q=p
  ·have hqp:=cC h0
   rw[e,nX,fx f (by omega) h1]
   exact h.2 hp q h0 hq e
  ·have hqp:q≠p:=fun e'=>h2 (by rw[e'])
   rw[fx f e h2,fx f hqp h1]
   exact h.1 q h0 hq hqp e
 ·have hgg:=cC hg
  rw[fx f (by omega) (by omega)]
  have h3:=h.1 (par p) hg (by omega) (by omega) (by omega)
  by_cases e:c=p
  ·rw[e,nX];exact h3
  ·have:=cC h0
   rw[fx f e (by omega)]
   have:=h.1 c h0 hc e (by omega)
   rw[hpc]at this
   omega
theorem qd{f:Nat→Int}{len p:Nat}(h:iW f len p)(hp:p=0∨f (par p)≤f p):mj f len p:=
 ⟨fun q h0 hq h2=>by
  by_cases e:q=p
  ·subst e
   rcases hp with h'|h'
   ·omega
   ·exact h'
  ·exact h.1 q h0 hq e h2,h.2⟩
theorem qg{f:Nat→Int}{len p:Nat}(h:mj f len p)(hk:∀c,0<c→c<len→par c=p→f p≤f c):kT f len:=fun q h0 hq=>by
 by_cases e:par q=p
 ·rw[e];exact hk q h0 hq e
 ·exact h.1 q h0 hq e
theorem qc{f:Nat→Int}{len p c:Nat}(h:mj f len p)(hc0:0<c)(hcl:c<len)(hcp:par c=p)(hlt:f c<f p)(hk:∀c',0<c'→c'<len→par c'=p→f c≤f c'):mj (uM f p c) len c:=by
 have hpc:=cC hc0
 refine⟨fun q h0 hq h2=>?_,fun _ d h0 hd hdc=>?_⟩
 ·have hqq:=cC h0
  by_cases e:par q=p
  ·rw[e,nX]
   by_cases e':q=c
   ·rw[e',xF];omega
   ·rw[fx f (by omega) e'];exact hk q h0 hq e
  ·rw[fx f e h2]
   by_cases e':q=p
   ·rw[e',nX]
    exact h.2 (by omega) c hc0 hcl hcp
   ·rw[fx f e' (fun e2=>e (by rw[e2];exact hcp))]
    exact h.1 q h0 hq e
 ·have hdd:=cC h0
  rw[hcp,nX,fx f (by omega) (by omega)]
  have:=h.1 d h0 hd (by omega)
  rw[hdc]at this
  exact this
theorem ri{f:Nat→Int}{len:Nat}(h:kT f len):∀q,q<len→f 0≤f q:=by
 intro q
 induction q using Nat.strongRecOn with
 |_ q ih=>
  intro hq
  by_cases e:q=0
  ·rw[e];exact Int.le_refl _
  ·have:=cC (q:=q) (by omega)
   exact Int.le_trans (ih (par q) this (by omega)) (h q (by omega) hq)
theorem nM{f g:Nat→Int}{len p:Nat}(h:kT f len)(he:∀q,q<len→q≠p→g q=f q)(hp:p<len):iW g len p:=by
 refine⟨fun q h0 hq h1 h2=>?_,fun hp0 c h0 hc hcp=>?_⟩
 ·have:=cC h0
  rw[he q hq h1,he (par q) (by omega) h2];exact h q h0 hq
 ·have:=cC h0
  have:=cC hp0
  rw[he (par p) (by omega) (by omega),he c hc (by omega)]
  have h1:=h c h0 hc
  rw[hcp]at h1
  exact Int.le_trans (h p hp0 hp) h1
theorem pS{f g:Nat→Int}{len:Nat}(h:kT f len)(he:∀q,q<len→g q=f q):iW g (len+1) len:=by
 refine⟨fun q h0 hq h1 _=>?_,fun hp0 c h0 hc hcp=>?_⟩
 ·have:=cC h0
  rw[he q (by omega),he (par q) (by omega)];exact h q h0 (by omega)
 ·have:=cC h0;omega
theorem px{f g:Nat→Int}{len:Nat}(h:kT f (len+1))(he:∀q,q<len→q≠0→g q=f q):iW g len 0:=by
 refine⟨fun q h0 hq h1 h2=>?_,fun hp0=>by omega⟩
 have:=cC h0
 rw[he q hq h1,he (par q) (by omega) h2];exact h q h0 (by omega)
def eb(K:List Int)(i:Int):Int:=K.getD i.toNat 0*65536+i
def rk(K O:List Int)(p:Nat):Int:=eb K (O.getD p 0)
theorem iY{K:List Int}{i j:Int}(hi:0≤i)(hi':i<65536)(hj:0≤j)(hj':j<65536):
  decide (eb K i<eb K j)=(if K.getD i.toNat 0=K.getD j.toNat 0 then decide (i<j) else decide (K.getD i.toNat 0<K.getD j.toNat 0)):=by
 unfold eb
 generalize K.getD i.toNat 0=a
 generalize K.getD j.toNat 0=b
 split
 ·simp only[decide_eq_decide];omega
 ·simp only[decide_eq_decide];omega
theorem sF{K:List Int}{i j:Int}(hi:0≤i)(hj':j<65536)(h:eb K i≤eb K j):K.getD i.toNat 0≤K.getD j.toNat 0:=by
 unfold eb at h;omega
def cr(O:List Int)(p q:Nat):List Int:=(O.set p (O.getD q 0)).set q (O.getD p 0)
theorem dG(O:List Int)(p q:Nat):(cr O p q).length=O.length:=by simp[cr]
theorem cg(L:List Int)(i j:Nat)(c:Int)(hi:i<L.length):(L.set i c).getD j 0=if j=i then c else L.getD j 0:=by
 simp only[List.getD_eq_getElem?_getD,List.getElem?_set]
 by_cases h:i=j
 ·subst h;simp[hi]
 ·rw[if_neg h,if_neg (Ne.symm h)]
theorem b8(O:List Int)(p q x:Nat)(hp:p<O.length)(hq:q<O.length):(cr O p q).getD x 0=if x=q then O.getD p 0 else if x=p then O.getD q 0 else O.getD x 0:=by
 unfold cr
 rw[cg _ _ _ _ (by simpa using hq),cg _ _ _ _ hp]
theorem qh(K O:List Int)(p q:Nat)(hp:p<O.length)(hq:q<O.length):rk K (cr O p q)=uM (rk K O) p q:=by
 funext x
 unfold rk uM
 rw[b8 O p q x hp hq]
 by_cases h1:x=q
 ·subst h1
  rw[if_pos rfl]
  by_cases h2:x=p
  ·rw[if_pos h2,h2]
  ·rw[if_neg h2,if_pos rfl]
 ·rw[if_neg h1]
  by_cases h2:x=p
  ·rw[if_pos h2,if_pos h2]
  ·rw[if_neg h2,if_neg h2,if_neg h1]
def cj(O:List Int)(i:Int):Prop:=∃p,p<O.length∧O.getD p 0=i
theorem gH(O:List Int)(p q:Nat)(hp:p<O.length)(hq:q<O.length)(i:Int):cj (cr O p q) i↔cj O i:=by
 unfold cj
 rw[dG]
 constructor
 ·rintro⟨x,hx,rfl⟩
  rw[b8 O p q x hp hq]
  split
  ·exact⟨p,hp,rfl⟩
  ·split
   ·exact⟨q,hq,rfl⟩
   ·exact⟨x,hx,rfl⟩
 ·rintro⟨x,hx,rfl⟩
  by_cases h1:x=p
  ·exact⟨q,hq,by rw[b8 O p q q hp hq,if_pos rfl,h1]⟩
  ·by_cases h2:x=q
   ·exact⟨p,hp,by
     rw[b8 O p q p hp hq]
     by_cases h3:p=q
     ·omega
     ·rw[if_neg h3,if_pos rfl,h2]⟩
   ·exact⟨x,hx,by rw[b8 O p q x hp hq,if_neg h2,if_neg h1]⟩
structure bP (N:Nat) (P O:List Int):Prop where
 len:P.length=N
 item:∀p,p<O.length→0≤O.getD p 0∧O.getD p 0<N∧P.getD (O.getD p 0).toNat 0=(p:Int)+1
 place:∀i,i<N→P.getD i 0=0∨∃p,p<O.length∧O.getD p 0=(i:Int)
theorem bP.inj{N:Nat}{P O:List Int}(h:bP N P O){p q:Nat}(hp:p<O.length)(hq:q<O.length)(he:O.getD p 0=O.getD q 0):p=q:=by
 have h1:=(h.item p hp).2.2
 have h2:=(h.item q hq).2.2
 rw[he]at h1
 omega
def dD(P O:List Int)(p q:Nat):List Int:=(P.set (O.getD q 0).toNat ((p:Int)+1)).set (O.getD p 0).toNat ((q:Int)+1)
theorem bP.swap{N:Nat}{P O:List Int}(h:bP N P O){p q:Nat}(hp:p<O.length)(hq:q<O.length):bP N (dD P O p q) (cr O p q):=by
 have ip:=h.item p hp
 have iq:=h.item q hq
 have hl:=h.len
 refine⟨by simp[dD,h.len],fun x hx=>?_,fun i hi=>?_⟩
 ·rw[dG]at hx
  have ix:=h.item x hx
  have e:∀j:Int,0≤j→j<N→(dD P O p q).getD j.toNat 0=if j=O.getD p 0 then(q:Int)+1 else if j=O.getD q 0 then(p:Int)+1 else P.getD j.toNat 0:=fun j h0 h1=>by
   unfold dD
   rw[cg _ _ _ _ (by rw[List.length_set];omega),cg _ _ _ _ (by omega)]
   have e1:(j.toNat=(O.getD p 0).toNat)=(j=O.getD p 0):=by apply propext;omega
   have e2:(j.toNat=(O.getD q 0).toNat)=(j=O.getD q 0):=by apply propext;omega
   simp only[e1,e2]
  rw[b8 O p q x hp hq]
  by_cases h1:x=q
  ·rw[if_pos h1,e _ ip.1 ip.2.1,if_pos rfl]
   exact⟨ip.1,ip.2.1,by rw[h1]⟩
  ·rw[if_neg h1]
   by_cases h2:x=p
   ·rw[if_pos h2,e _ iq.1 iq.2.1,if_neg (fun e=>by have:=h.inj hq hp e;omega),if_pos rfl]
    exact⟨iq.1,iq.2.1,by rw[h2]⟩
   ·rw[if_neg h2,e _ ix.1 ix.2.1,if_neg (fun e=>h2 (h.inj hx hp e)),if_neg (fun e=>h1 (h.inj hx hq e))]
    exact ix
 ·by_cases hH:cj O (i:Int)
  ·exact .inr ((gH O p q hp hq (i:Int)).2 hH)
  ·rcases h.place i hi with h0|h0
   ·refine .inl ?_
    unfold dD
    rw[cg _ _ _ _ (by rw[List.length_set];omega),cg _ _ _ _ (by omega),if_neg (fun e=>hH ⟨p,hp,by omega⟩),if_neg (fun e=>hH ⟨q,hq,by omega⟩)]
    exact h0
   ·exact absurd h0 hH
theorem bP.zero{N:Nat}{P O:List Int}(h:bP N P O){i:Nat}(hi:i<N):P.getD i 0=0↔¬cj O (i:Int):=by
 constructor
 ·rintro h0 ⟨p,hp,he⟩
  have:=(h.item p hp).2.2
  rw[he,Int.toNat_natCast,h0]at this
  omega
 ·intro hn
  rcases h.place i hi with h0|h0
  ·exact h0
  ·exact absurd h0 hn
theorem bP.push{N:Nat}{P O:List Int}(h:bP N P O){i:Nat}(hi:i<N)(hn:¬cj O (i:Int)):bP N (P.set i ((O.length:Int)+1)) (O++[(i:Int)]):=by
 have hl:=h.len
 refine⟨by simp[h.len],fun x hx=>?_,fun j hj=>?_⟩
 ·rw[cg _ _ _ _ (by omega)]
  by_cases h1:x<O.length
  ·have ix:=h.item x h1
   have e:(O++[(i:Int)]).getD x 0=O.getD x 0:=by simp[List.getD_eq_getElem?_getD,List.getElem?_append_left h1]
   rw[e,if_neg (fun e=>hn ⟨x,h1,by omega⟩)]
   exact ix
  ·have:x=O.length:=by simp at hx;omega
   subst this
   have e:(O++[(i:Int)]).getD O.length 0=i:=by simp
   rw[e,Int.toNat_natCast,if_pos rfl]
   exact⟨by omega,by omega,rfl⟩
 ·rw[cg _ _ _ _ (by omega)]
  by_cases hji:j=i
  ·exact .inr ⟨O.length,by simp,by simp[hji]⟩
  ·rw[if_neg hji]
   rcases h.place j hj with h0|⟨p,hp,he⟩
   ·exact .inl h0
   ·exact .inr ⟨p,by simp;omega,by simp[List.getD_eq_getElem?_getD,List.getElem?_append_left hp]at he ⊢;exact he⟩
theorem rB(O:List Int)(i j:Int):cj (O++[i]) j↔j=i∨cj O j:=by
 constructor
 ·rintro⟨p,hp,rfl⟩
  by_cases h1:p<O.length
  ·exact .inr ⟨p,h1,by simp[List.getD_eq_getElem?_getD,List.getElem?_append_left h1]⟩
  ·have:p=O.length:=by simp at hp;omega
   subst this
   exact .inl (by simp)
 ·rintro(rfl|⟨p,hp,rfl⟩)
  ·exact⟨O.length,by simp,by simp⟩
  ·exact⟨p,by simp;omega,by simp[List.getD_eq_getElem?_getD,List.getElem?_append_left hp]⟩
theorem gB(O:List Int)(m x:Nat)(h:x<m):(O.take m).getD x 0=O.getD x 0:=by
 simp[List.getD_eq_getElem?_getD,h]
theorem bP.pop{N:Nat}{P O:List Int}{m:Nat}(h:bP N P O)(hm:O.length=m+1):bP N (P.set (O.getD m 0).toNat 0) (O.take m):=by
 have hl:=h.len
 have im:=h.item m (by omega)
 refine⟨by simp[h.len],fun x hx=>?_,fun j hj=>?_⟩
 ·have hx':x<m:=by simp at hx;omega
  rw[gB O m x hx',cg _ _ _ _ (by omega)]
  have ix:=h.item x (by omega)
  rw[if_neg (fun e=>by have:=h.inj (p:=x) (q:=m) (by omega) (by omega) (by omega);omega)]
  exact ix
 ·rw[cg _ _ _ _ (by omega)]
  by_cases hjm:j=(O.getD m 0).toNat
  ·exact .inl (if_pos hjm)
  ·rw[if_neg hjm]
   rcases h.place j hj with h0|⟨p,hp,he⟩
   ·exact .inl h0
   ·have:p≠m:=fun e=>hjm (by rw[←e,he];rfl)
    exact .inr ⟨p,by simp;omega,by rw[gB O m p (by omega)];exact he⟩
theorem sK{N:Nat}{P O:List Int}{m:Nat}(h:bP N P O)(hm:O.length=m+1)(j:Int):cj (O.take m) j↔cj O j∧j≠O.getD m 0:=by
 constructor
 ·rintro⟨p,hp,rfl⟩
  have hp':p<m:=by simp at hp;omega
  rw[gB O m p hp']
  exact⟨⟨p,by omega,rfl⟩,fun e=>by have:=h.inj (p:=p) (q:=m) (by omega) (by omega) e;omega⟩
 ·rintro⟨⟨p,hp,rfl⟩,hne⟩
  have:p≠m:=fun e=>hne (by rw[e])
  exact⟨p,by simp;omega,gB O m p (by omega)⟩
theorem o7:∀(N m:Nat) (f:Nat→Nat),(∀p,p<m→f p<N)→(∀p q,p<m→q<m→f p=f q→p=q)→m≤N
 |0,m,f,h,_=>by
  rcases Nat.eq_zero_or_pos m with h0|h0
  ·omega
  ·have:=h 0 h0;omega
 |N+1,m,f,h,hi=>by
  by_cases hx:∃p,p<m∧f p=N
  ·obtain⟨p0,hp0,he⟩:=hx
   have:=o7 N (m - 1) (fun p=>if p=p0 then f (m - 1) else f p) (fun p hp=>by
    by_cases e:p=p0
    ·simp only[e,if_true]
     have h1:=h (m - 1) (by omega)
     have h2:f (m - 1)≠N:=fun e'=>by have:=hi (m - 1) p0 (by omega) hp0 (by omega);omega
     omega
    ·simp only[e,if_false]
     have h1:=h p (by omega)
     have h2:f p≠N:=fun e'=>e (hi p p0 (by omega) hp0 (by omega))
     omega) (fun p q hp hq hpq=>by
    by_cases e:p=p0<;>by_cases e':q=p0
    ·omega
    ·simp only[e,e',if_true,if_false]at hpq
     have:=hi (m - 1) q (by omega) (by omega) hpq
     omega
    ·simp only[e,e',if_true,if_false]at hpq
     have:=hi p (m - 1) (by omega) (by omega) hpq
     omega
    ·simp only[e,e',if_false]at hpq
     exact hi p q (by omega) (by omega) hpq)
   omega
  ·have:=o7 N m f (fun p hp=>by
    have h1:=h p hp
    have h2:f p≠N:=fun e=>hx ⟨p,hp,e⟩
    omega) hi
   omega
theorem eE{N:Nat}{P O:List Int}(h:bP N P O):O.length≤N:=
 o7 N O.length (fun p=>(O.getD p 0).toNat) (fun p hp=>by have:=h.item p hp;omega) (fun p q hp hq e=>by
  have h1:=h.item p hp
  have h2:=h.item q hq
  exact h.inj hp hq (by omega))
end Heap
end Go.Proofs.YtnegbdpggideiaaDoor
