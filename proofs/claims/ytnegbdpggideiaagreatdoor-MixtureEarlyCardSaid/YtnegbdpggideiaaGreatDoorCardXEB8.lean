/- Texts of the proof, part 8. -/
import Derived.MapKept
import Derived.Scope
import Derived.Lib.SliceRun
import Derived.ChangeKeysEq
import Derived.Test.YtnegbdpggideiaaGreatDoorCardXEB7
set_option linter.unusedVariables false
set_option linter.unusedSimpArgs false
set_option maxRecDepth 10000
set_option maxHeartbeats 1000000
namespace Go.Proofs.YtnegbdpggideiaaGreatDoor
namespace PW
section
open Go.RowKit cG Mem Net
section
variable {P:Program} {σ:cg} {t:cn} {o:Oper}
theorem zZ{src dst:TypeId}{x:Operand}{k k':IntKind}{a c:Int}{ty:TypeDesc}(ho:o.op= .convert src dst x)(hs:P.underlying src=some ty)(hd:P.underlying dst=some (.int k'))(hx:aG t x=some (.raw (.int k a)))(hc:k'.wrap a=c):bE P σ t o (.raw (.int k' c)):=by
 intro F base E ρ w hρ _ hT
 have h1:=aA hρ hT hx
 generalize hz:ρ x=z at h1
 cases h1
 have h2:(convert src dst (.int k a)).run P w= .ok (.int k' c) w:=by
  simp[convert,Sem.run_bind,run_underlying hs,run_underlying hd,Conv.intToInt,hc]
 simp only[execOp,ho,hz,Sem.run_bind,h2]
 exact bA (.raw _)
theorem HK{ty:TypeId}{x ix:Operand}{s:ByteArray}{k:IntKind}{i:Nat}{c:UInt8}(ho:o.op= .index ty x ix)(hu:P.underlying ty=some .string)(hx:aG t x=some (.raw (.string s)))(hix:aG t ix=some (.raw (.int k i)))(h3:s[i]? =some c):bE P σ t o (.raw (.int .u8 c.toNat)):=by
 intro F base E ρ w hρ _ hT
 have h1:=aA hρ hT hx
 have h1':=aA hρ hT hix
 generalize hz:ρ x=z at h1
 generalize hz':ρ ix=z' at h1'
 cases h1
 cases h1'
 have h2:(Instr.index ty (.string s) (.int k i)).run P w= .ok (.int .u8 c.toNat) w:=by
  have h4:(asIntOf (.int k (i:Int))).run P w= .ok (k,(i:Int)) w:=rfl
  simp[Instr.index,Sem.run_bind,run_underlying hu,h3,h4]
 simp only[execOp,ho,hz,hz',Sem.run_bind,h2]
 exact bA (.raw _)
theorem Hs{N L:Nat}{x y:Code}{st:St}{Q:Exit→St→Prop}{b:Bool}(h:W P N L (if b then x else y) st Q):W P N L (.cond (.const (.bool b)) x y) st Q:=fun F base E₀ w₀ E a w hcm hs=>
 wp_cond_split (show a.eval (.const (.bool b))= .bool b from rfl) (fun hb=>by subst hb;exact h F base E₀ w₀ E a w hcm hs) (fun hb=>by subst hb;exact h F base E₀ w₀ E a w hcm hs)
end
theorem u8_in(c:UInt8):In64 (c.toNat:Int):=by have:=c.toNat_lt;unfold In64;omega
theorem Jj(c:UInt8):In64 (0+(c.toNat:Int)):=by have:=c.toNat_lt;unfold In64;omega
theorem Ib(n:Nat)(h:n≤255):IntKind.u8.wrap (n:Int)=(n:Int):=by rw[IntKind.wrap_u8];omega
def xn(a b:Int):Int:=if a<b then -1 else if b<a then 1 else 0
theorem ug(a:Int):Can Tryz.prog 226 [num a] (· =flag false):=by
 exact aH Tryz.func226 I Tryz.ntmps226 I<|ab (.a 1 I<|.k [0] I)<|ab (.a 4 I<|.k [2] I)<|ao<|⟨_,_,az.of I,ay.pure,by simp;rfl⟩
theorem A1(a b:Int):Can Tryz.prog 218 [num a,num b] (· =num (xn a b)):=by
 refine aH Tryz.func218 I Tryz.ntmps218 I<|ab (.a 1 I<|.k [0,1] I)<|ab (.a 1 I<|.c rfl (ug a) I<|.a 1 I<|.k [0,1,5] I)<|ab (.a 1 I<|.c rfl (ug b) I<|.a 1 I<|.k [0,1,5,6] I)<|aj<|ab (.a 1 I<|.k [0,1,6,11] I)<|ag I (fun hc=>?_) (fun hc=>?_)
 ·cases hc
 ·refine ai<|aj<|ab (.a 1 I<|.k [0,1,13] I)<|ag I (fun hc=>?_) (fun hc=>?_)
  ·cases hc
  ·refine ai<|aj<|ab (.a 3 I<|.k [0,1,16] I)<|ag I (fun hc=>?_) (fun hc=>?_)
   ·have h1:a<b:=tt hc
    exact ab (.a 1 I<|.k [4] I)<|ao<|⟨_,_,az.of I,ay.pure,by unfold xn;rw[if_pos h1];rfl⟩
   ·have h1:¬a<b:=ff hc
    refine ai<|aj<|ab (.a 3 I<|.k [19] I)<|ag I (fun hy=>?_) (fun hy=>?_)
    ·have h2:b<a:=tt hy
     exact ab (.a 1 I<|.k [4] I)<|ao<|⟨_,_,az.of I,ay.pure,by unfold xn;rw[if_neg h1,if_pos h2];rfl⟩
    ·have h2:¬b<a:=ff hy
     exact ai<|ab (.a 1 I<|.k [4] I)<|ao<|⟨_,_,az.of I,ay.pure,by unfold xn;rw[if_neg h1,if_neg h2];rfl⟩
theorem JH(a b:Int):Can Tryz.prog 217 [.slice 2 [num a,num b]] (· =num (if a=0 then b else a)):=by
 refine aH Tryz.func217 I Tryz.ntmps217 I<|ab (.a 1 I<|.k [0] I)<|ab (.a 1 I<|.k [0,3] I)<|aj<|ab (.a 3 I<|.k [3,6,7,8] I)<|au<|eH [3,6,7,8] I<|bq (fun r st=>∃j:Nat,j≤2∧r=2 - j∧(0<j→a=0)∧(1<j→b=0)∧st=⟨[(3,num 0),(6,.slice 2 [num a,num b]),(7,num 2),(8,num j)],[]⟩) 2 ⟨0,by omega,by omega,by omega,by omega,rfl⟩ ?_
 rintro r st ⟨j,hj,rfl,ha,hb,rfl⟩
 refine ab (.a 1 I<|.k [3,6,7,8,9] I)<|aj<|ag I (fun hc=>?_) (fun hc=>?_)
 ·have hlt:j<2:=by have:=tt hc;omega
  obtain⟨v,hv,hv2⟩:∃v,[num a,num b][j]? =some (num v)∧v=(if j=0 then a else b):=by
   match j,hlt with
   |0,_=>exact⟨a,rfl,rfl⟩
   |1,_=>exact⟨b,rfl,rfl⟩
  refine ai<|aj<|au<|ab (.v (aN (j) I) I<|.v (aJ I (hv)) I<|.a 1 I<|.k [3,5,6,7,8] I)<|ab (.a 3 I<|.k [3,5,6,7,8,14] I)<|ag I (fun hy=>?_) (fun hy=>?_)
  ·have h1:v≠0:=tt hy
   refine ab (.a 2 I<|.k [2] I)<|ao<|⟨_,_,az.of I,ay.pure,congrArg num ?_⟩
   by_cases h0:j=0
   ·rw[if_pos h0]at hv2;rw[if_neg (by omega)];exact hv2
   ·rw[if_neg h0]at hv2;rw[if_pos (ha (by omega))];exact hv2
  ·have h1:v=0:=Classical.byContradiction (ff hy)
   refine ai<|aC (.v (aU I) I<|.a 1 I<|.k [3,6,7,8] I) ?_
   refine⟨2 - (j+1),by omega,j+1,by omega,rfl,fun _=>?_,fun h=>?_,rfl⟩
   ·by_cases h0:j=0
    ·rw[if_pos h0]at hv2;omega
    ·exact ha (by omega)
   ·rw[if_neg (by omega)]at hv2;omega
 ·have hj2:j=2:=by have:=ff hc;omega
  refine bd<|ab (.a 2 I<|.k [2] I)<|ao<|⟨_,_,az.of I,ay.pure,congrArg num ?_⟩
  rw[if_pos (ha (by omega))];exact(hb (by omega)).symm
def Ie(L:List Int)(a b:Nat):Int:=if xn (L.getD b 0) (L.getD a 0)=0 then xn a b else xn (L.getD b 0) (L.getD a 0)
theorem D5(L:List Int)(a b:Nat)(ha:a<L.length)(hb:b<L.length):Can Tryz.prog 216 [num a,num b,.bb [av L] 0] (· =num (Ie L a b)):=by
 refine aH Tryz.func216 I Tryz.ntmps216 I<|ab (.a 1 I<|.k [0,1,2] I)<|ep mixed (by kernel_rfl) (.a 2 I<|.v [6,7] (aN (b) I) I I<|.v [8] (aJ I (aB L b hb)) I I<|.a 2 I<|.v [10,11] (aN (a) I) I I<|.v [12] (aJ I (aB L a ha)) I I<|.v [9,13] (dU I (A1 _ _)) I I<|.a 2 I<|.v [15,16] (dU I (A1 _ _)) I I<|.a 1 I<|.v [18] (dU I (JH _ _)) I I<|.a 1 I<|.k [5] I) ?_
 exact ao<|⟨_,_,az.of I,ay.pure,rfl⟩
def IX(n:Nat):UInt8:=if n=0 then 0 else if n=1 then 1 else if n<4 then 2 else if n<8 then 3 else 4
theorem BF(n:Nat)(hn:n≤12):Can Tryz.prog 241 [.raw (.int .u64 n)] (· =num (IX n).toNat):=by
 refine aH Tryz.func241 I Tryz.ntmps241 I<|ab (.a 1 I<|.k [0,2] I)<|aj<|ab (.a 1 I<|.v (AT I I I I) I<|.k [0,2,4] I)<|ag I (fun hc=>?_) (fun hc=>?_)
 ·exact absurd (tt hc) (by omega)
 ·refine ai<|aj<|ab (.a 1 I<|.v (AT I I I I) I<|.k [0,2,8] I)<|ag I (fun hc=>?_) (fun hc=>?_)
  ·exact absurd (tt hc) (by omega)
  ·refine ai<|aj<|ab (.a 1 I<|.v (AT I I I I) I<|.k [0,2,14] I)<|ag I (fun hc=>?_) (fun hc=>?_)
   ·exact absurd (tt hc) (by omega)
   ·exact ai<|ab (.a 2 I<|.v (zZ I Tryz.underlying249 Tryz.underlying5 rfl (Ib n (by omega))) I<|.v (HK (c:=IX n) I Tryz.underlying9 rfl rfl (by rcases(show n=0∨n=1∨n=2∨n=3∨n=4∨n=5∨n=6∨n=7∨n=8∨n=9∨n=10∨n=11∨n=12 by omega)with h|h|h|h|h|h|h|h|h|h|h|h|h<;>subst h<;>rfl)) I<|.v (zZ I Tryz.underlying5 Tryz.underlying3 rfl (jR (u8_in _))) I<|.v (aU I (hn:=Jj _)) I<|.a 1 I<|.k [2] I)<|ao<|⟨_,_,az.of I,ay.pure,by rw[Int.zero_add];rfl⟩
theorem Gv(n:Nat)(hn:n≤12):Can Tryz.prog 225 [.raw (.int .u64 n)] (· =num (IX n).toNat):=by
 refine aH Tryz.func225 I Tryz.ntmps225 I<|ab (.a 1 I<|.k [0] I)<|aj (Hs (b:=false) ?_)
 exact ai<|ab (.a 1 I<|.c rfl (BF n hn) I<|.a 1 I<|.k [2] I)<|ao ⟨_,_,.cons (.tmp rfl) .nil,ay.pure,rfl⟩
def tX(L:List Int)(x y:Int):Prop:=L.getD y.toNat 0<L.getD x.toNat 0∨(L.getD y.toNat 0=L.getD x.toNat 0∧x≤y)
theorem BS{L:List Int}{x y z:Int}(h:tX L x y)(k:tX L y z):tX L x z:=by unfold tX at*;omega
theorem xT(L:List Int)(a b:Nat):Ie L a b<0↔¬tX L b a:=by
 unfold Ie xn tX
 simp only[Int.toNat_natCast]
 split<;>split<;>(try split)<;>omega
theorem JC(L:List Int){x y:Int}(h:¬tX L x y):tX L y x:=by unfold tX at*;omega
def G5(L ys:List Int)(i j:Nat):Prop:=∀p q,p<q→q≤i→q≠j→tX L (ys.getD p 0) (ys.getD q 0)
def Ih(L ys:List Int)(i:Nat):Prop:=∀p q,p<q→q<i→tX L (ys.getD p 0) (ys.getD q 0)
theorem Ih.ins{L ys:List Int}{i:Nat}(h:Ih L ys i):G5 L ys i i:=fun p q h1 h2 h3=>h p q h1 (by omega)
theorem G5.Kd{L ys:List Int}{i:Nat}(h:G5 L ys i 0):Ih L ys (i+1):=fun p q h1 h2=>h p q h1 (by omega) (by omega)
theorem G5.done{L ys:List Int}{i j:Nat}(h:G5 L ys i j)(hb:tX L (ys.getD (j - 1) 0) (ys.getD j 0)):Ih L ys (i+1):=fun p q h1 h2=>by
 by_cases hq:q=j
 ·subst hq
  by_cases hp:p=q - 1
  ·rw[hp];exact hb
  ·exact BS (h p (q - 1) (by omega) (by omega) (by omega)) hb
 ·exact h p q h1 (by omega) hq
theorem G5.swap{L ys:List Int}{i j:Nat}(h:G5 L ys i j)(h0:0<j)(hj:j≤i)(hi:i<ys.length)(hb:¬tX L (ys.getD (j - 1) 0) (ys.getD j 0)):G5 L (Heap.ed ys j (j - 1)) i (j - 1):=fun p q h1 h2 h3=>by
 rw[Heap.ec ys j (j - 1) p (by omega) (by omega),Heap.ec ys j (j - 1) q (by omega) (by omega),if_neg h3]
 by_cases hq:q=j
 ·rw[if_pos hq]
  by_cases hp:p=j - 1
  ·rw[if_pos hp];exact JC L hb
  ·rw[if_neg hp,if_neg (by omega)];exact h p (j - 1) (by omega) (by omega) (by omega)
 ·rw[if_neg hq]
  by_cases hp:p=j - 1
  ·rw[if_pos hp];exact h j q (by omega) h2 hq
  ·rw[if_neg hp]
   by_cases hp2:p=j
   ·rw[if_pos hp2];exact h (j - 1) q (by omega) h2 hq
   ·rw[if_neg hp2];exact h p q h1 h2 hq
theorem swap_perm(ys:List Int)(p q:Nat)(hp:p<ys.length)(hq:q<ys.length):(Heap.ed ys p q).Perm ys:=by
 have:= @List.set_set_perm _ ys p q hp hq
 unfold Heap.ed
 rw[List.getD_eq_getElem?_getD,List.getD_eq_getElem?_getD,List.getElem?_eq_getElem hp,List.getElem?_eq_getElem hq]
 exact this
theorem Ih.pair{L ys:List Int}(h:Ih L ys ys.length):ys.Pairwise (tX L):=by
 rw[List.pairwise_iff_getElem]
 intro i j hi hj hij
 have:=h i j hij hj
 rw[List.getD_eq_getElem?_getD,List.getD_eq_getElem?_getD,List.getElem?_eq_getElem hi,List.getElem?_eq_getElem hj]at this
 exact this
def fE(ys:List Int):Option cK:=some (.row 3 1 ys.length (aK ys))
abbrev Bs(L:List Int):PV:=.func 216 [.bb [av L] 0]
theorem C3(L xs:List Int)(c:Option cK)(hx:∀x∈xs,0≤x∧x<L.length)(hn:xs.length≤12):bU Tryz.prog 232 [.own 1,num 0,num xs.length,Bs L] [c,fE xs] (fun _ σ'=>∃ys,ys.Perm xs∧ys.Pairwise (tX L)∧σ'=[c,fE ys]):=by
 refine ct Tryz.func232 I Tryz.ntmps232 I<|ab (.a 1 I<|.v (aU I) I<|.a 1 I<|.k [0,1,2,3,8] I)<|au<|eH [0,1,2,3,8] I<|bq (fun r st=>∃(ys:List Int) (i:Nat),ys.Perm xs∧0<i∧Ih L ys i∧r=13 - i∧st=⟨[(0,.own 1),(1,num 0),(2,num xs.length),(3,Bs L),(8,num i)],[c,fE ys]⟩) 12 ⟨xs,1,.refl _,by omega,fun p q h1 h2=>by omega,rfl,rfl⟩ ?_
 rintro r st ⟨ys,i,hp,hi0,hs,rfl,rfl⟩
 have hyl:=hp.length_eq
 refine aj<|ab (.a 3 I<|.k [0,1,2,3,8,14] I)<|ag I (fun hc=>?_) (fun hc=>?_)
 ·have hlt:i<xs.length:=by have:=tt hc;omega
  refine ai<|aj<|au<|ab (.a 2 I<|.k [0,1,2,3,8,9] I)<|au<|eH [0,1,2,3,8,9] I<|bq (fun r st=>∃(ys:List Int) (j:Nat),ys.Perm xs∧j≤i∧G5 L ys i j∧r=j∧st=⟨[(0,.own 1),(1,num 0),(2,num xs.length),(3,Bs L),(8,num i),(9,num j)],[c,fE ys]⟩) i ⟨ys,i,hp,by omega,hs.ins,rfl,rfl⟩ ?_
  clear hp hs hyl
  rintro r st ⟨zs,j,hp,hji,hs,rfl,rfl⟩
  have hyl:=hp.length_eq
  refine aj ?_
  obtain⟨q1,hq1⟩:∃q,decide ((0:Int)<(r:Int))=q:=⟨_,rfl⟩
  have hel:∀k,k<zs.length→∃a:Nat,zs.getD k 0=(a:Int)∧a<L.length:=fun k hk=>by
   have h1:=hx _ (hp.mem_iff.1 (cr (d:=0) hk))
   exact⟨(zs.getD k 0).toNat,by omega,by omega⟩
  obtain⟨a,ha,haL⟩:=hel r (by omega)
  obtain⟨b,hb,hbL⟩:=hel (r - 1) (by omega)
  obtain⟨q2,hq2⟩:∃q,decide (Ie L a b<0)=q:=⟨_,rfl⟩
  refine iJ mixed (by kernel_rfl) 34 (.raw (.bool (q1&&q2))) [0,1,2,3,8,9] I ?_ ?_
  ·refine .a 2 I<|.v [18,19] (cf I (hq1)) I I<|.a 1 I<|?_
   cases q1
   ·exact .a 13 I<|.k [34,0,1,2,3,8,9] I
   ·exact .a 3 I<|.v [23,24] (aN (r) I) I I<|.v [25] (aJ I ((aB zs r (by omega)).trans (by rw[ha]))) I I<|.a 2 I<|.v [28] (aU I) I I<|.v [27,29] (aN ((r - 1)) I (by have:=tt hq1;omega) (by omega)) I I<|.v [30] (aJ I ((aB zs (r - 1) (by omega)).trans (by rw[hb]))) I I<|.v [22,26,31] (dU I (D5 L a b haL hbL)) I I<|.v [32] (cf I (hq2)) I I<|.a 1 I<|.k [34,0,1,2,3,8,9] I
  refine ag I (fun hy=>?_) (fun hy=>?_)
  ·obtain⟨c1,c2⟩:=Bool.and_eq_true_iff.1 hy
   rw[c1]at hq1
   rw[c2]at hq2
   have hr0:0<r:=by have:=tt hq1;omega
   have hnb:=(xT L a b).1 (tt hq2)
   rw[←ha,←hb]at hnb
   refine ai<|aj<|au<|dL 15 20 mixed (
    .val [0] I (aZ I) I I<|
    .val [9] I (aZ I) I I<|
    .late [0] I (ju rfl rfl) inferInstance rfl rfl<|
    .late [9] I (ju rfl rfl) inferInstance rfl rfl<|
    .late [40] I (Kk rfl rfl rfl rfl (by unfold In64;omega)) inferInstance rfl rfl<|
    .val [0] I (aZ I) I I<|
    .val [9] I (aZ I) I I<|
    .val [43] I (aU I) I I<|
    .val [42,44] I (aN ((r - 1)) I) I I<|
    .val [45] I (aJ I ((aB zs (r - 1) (by omega)).trans (by rw[hb]))) I I<|
    .val [0] I (aZ I) I I<|
    .val [9] I (aZ I) I I<|
    .val [47,48] I (aN (r) I) I I<|
    .val [49] I (aJ I ((aB zs r (by omega)).trans (by rw[ha]))) I I<|
    .val [37,38] I (aN (r) I) I I<|
    .nil) (by kernel_rfl) I I (aY (ks:=[0,1,2,3,8,9,39,41,46,50,51]) I) ?_
   refine bc ((by first|exact bN I (ba.tk.get I) I I I (by first|omega|(simp;omega))|exact bg I (ba.tk.get I) I I I (by first|omega|(simp;omega)))) I I<|bw (aN ((r - 1)) I) I<|bc ((by first|exact bN I (ba.tk.get I) I I I (by first|omega|(simp;omega))|exact bg I (ba.tk.get I) I I I (by first|omega|(simp;omega)))) I I<|aE [0,1,2,3,8,9] I ?_
   refine aC (.a 1 I<|.v (aU I) I<|.a 1 I<|.k [0,1,2,3,8,9] I) ?_
   refine⟨r - 1,by omega,Heap.ed zs r (r - 1),r - 1,(swap_perm zs r (r - 1) (by omega) (by omega)).trans hp,by omega,hs.swap hr0 hji (by omega) hnb,rfl,?_⟩
   unfold fE Heap.ed
   rw[ha,hb,show((r - 1:Nat):Int)=(r:Int) - 1 by omega]
   simp only[List.length_set]
   rfl
  ·have hso:Ih L zs (i+1):=by
    by_cases h0:r=0
    ·subst h0;exact hs.Kd
    ·refine hs.done ?_
     rw[ha,hb]
     refine Classical.byContradiction fun hn=>?_
     have:=(xT L a b).2 hn
     have e1:q1=true:=by rw[←hq1];exact decide_eq_true (by omega)
     have e2:q2=true:=by rw[←hq2];exact decide_eq_true this
     rw[e1,e2]at hy
     cases hy
   refine bd<|aC (.a 1 I<|.v (aU I) I<|.a 1 I<|.k [0,1,2,3,8] I) ?_
   exact⟨13 - (i+1),by omega,zs,i+1,hp,by omega,hso,rfl,rfl⟩
 ·have hge:ys.length≤i:=by have:=ff hc;omega
  exact bd<|⟨_,az.of I,ys,hp,Ih.pair (fun p q h1 h2=>hs p q h1 (by omega)),rfl⟩
theorem Ij(L xs:List Int)(c:Option cK)(k:Int)(hx:∀x∈xs,0≤x∧x<L.length)(hn:xs.length≤12):bU Tryz.prog 224 [.own 1,num 0,num xs.length,num k,Bs L] [c,fE xs] (fun _ σ'=>∃ys,ys.Perm xs∧ys.Pairwise (tX L)∧σ'=[c,fE ys]):=by
 refine ct Tryz.func224 I Tryz.ntmps224 I<|ab (.a 1 I<|.k [0,1,2,3,4,10] I)<|ab (.a 1 I<|.k [0,1,2,3,4,10,11] I)<|au<|bq (fun r st=>st=⟨[(0,.own 1),(1,num 0),(2,num xs.length),(3,num k),(4,Bs L),(10,flag true),(11,flag true)],[c,fE xs]⟩) 0 I ?_
 rintro r st rfl
 refine au<|ab (.a 2 I<|.v (aU I) I<|.a 1 I<|.k [0,1,2,3,4,10,11,12] I)<|aj<|ab (.a 2 I<|.k [0,1,2,3,4,10,11,12,25] I)<|ag (b:=decide ((xs.length:Int) - 0≤12)) I (fun _=>?_) (fun hc=>absurd (ff hc) (by omega))
 refine aO<|aw 4 I<|cN I I (bU.mono (C3 L xs c hx hn) (fun _ σ' h=>?_))
 obtain⟨ys,h1,h2,rfl⟩:=h
 refine aE [] I ?_
 exact ao ⟨_,.nil,ys,h1,h2,rfl⟩
theorem Bi(L xs:List Int)(c:Option cK)(hx:∀x∈xs,0≤x∧x<L.length)(hn:xs.length≤12):bU Tryz.prog 215 [.own 1,Bs L] [c,fE xs] (fun _ σ'=>∃ys,ys.Perm xs∧ys.Pairwise (tX L)∧σ'=[c,fE ys]):=by
 have hw:IntKind.u64.wrap (xs.length:Int)=(xs.length:Int):=by rw[IntKind.wrap_u64];omega
 refine ct Tryz.func215 I Tryz.ntmps215 I<|ab (.a 3 I<|.k [0,1,4] I)<|bI<|aw 3 I<|bw (zZ I Tryz.underlying3 Tryz.underlying247 rfl hw) I<|eW I (Gv xs.length hn) I<|aw 1 I<|cN I I (bU.mono (Ij L xs c _ hx hn) (fun _ σ' h=>?_))
 obtain⟨ys,h1,h2,rfl⟩:=h
 refine aE [] I ?_
 exact⟨_,az.of I,ys,h1,h2,rfl⟩
def pH(L:List Int)(i:Nat):List Int:=((List.range i).filter fun k=>decide (0≤L.getD k 0)).map Int.ofNat
theorem Bv(L:List Int)(i:Nat):pH L (i+1)=pH L i++(if 0≤L.getD i 0 then [(i:Int)] else []):=by
 unfold pH
 rw[List.range_succ,List.filter_append,List.map_append]
 congr 1
 by_cases h:0≤L.getD i 0
 ·rw[if_pos h,List.filter_cons,if_pos (by simpa using h)];rfl
 ·rw[if_neg h,List.filter_cons,if_neg (by simpa using h)];rfl
theorem yi(L:List Int)(i:Nat):(pH L i).length≤i:=by
 unfold pH
 rw[List.length_map]
 exact Nat.le_trans (List.length_filter_le _ _) (by simp)
theorem wF{L:List Int}{i:Nat}{x:Int}:x∈pH L i↔∃k:Nat,x=(k:Int)∧k<i∧0≤L.getD k 0:=by
 unfold pH
 simp only[List.mem_map,List.mem_filter,List.mem_range,decide_eq_true_eq]
 constructor
 ·rintro⟨k,⟨h1,h2⟩,rfl⟩;exact⟨k,rfl,h1,h2⟩
 ·rintro⟨k,rfl,h1,h2⟩;exact⟨k,⟨h1,h2⟩,rfl⟩
theorem yZ(L:List Int)(i:Nat):(pH L i).Nodup:=by
 unfold pH
 have h1:(List.range i).Pairwise (· ≠ ·):=List.nodup_range
 refine List.Pairwise.map Int.ofNat (fun a b h e=>h (by cases e;rfl)) (h1.filter _)
theorem zd(L cs:List Int)(hn:L.length≤12):bU Tryz.prog 202 [av L] [fE cs] (fun r σ'=>∃ys,ys.Perm (pH L L.length)∧ys.Pairwise (tX L)∧r= .own 1∧σ'=[fE cs,fE ys]):=by
 refine ct Tryz.func202 I Tryz.ntmps202 I<|ab (.a 2 I<|.k [1] I)<|ab (.a 1 I<|.k [1,3] I)<|gH 3 3 1 I ?_
 refine aj<|ab (.a 3 I<|.k [1,3,6,7,8] I)<|au<|eH [1,3,6,7,8] I<|bq (fun r st=>∃i,i≤L.length∧r=L.length - i∧st=⟨[(1,.bb [av L] 0),(3,.own 1),(6,av L),(7,num L.length),(8,num i)],[fE cs,fE (pH L i)]⟩) L.length ⟨0,by omega,by omega,rfl⟩ ?_
 rintro r st ⟨i,hi,rfl,rfl⟩
 have hhl:=yi L i
 refine ab (.a 1 I<|.k [1,3,6,7,8,9] I)<|aj<|ag I (fun hc=>?_) (fun hc=>?_)
 ·have hlt:i<L.length:=by have:=tt hc;omega
  have hst:=Bv L i
  refine ai<|aj<|au<|ab (.a 1 I<|.v (aN (i) I) I<|.v (aJ I (aB L i hlt)) I<|.a 2 I<|.k [1,3,4,5,6,7,8] I)<|ab (.a 2 I<|.k [1,3,4,6,7,8,14] I)<|ag I (fun hy=>?_) (fun hy=>?_)
  ·have h0:0≤L.getD i 0:=tt hy
   rw[if_pos h0]at hst
   refine bI<|aw 3 I<|b7 (bh I (ba.rk.get I) I I I I (by unfold maxLen;omega)) I<|aw 1 I ?_
   refine eR [0,2] (.c 1<|.c 3<|.c 6<|.c 7<|.c 8<|.nil) (.kept rfl (.row aI.pure)<|.kept rfl (.fF rfl (dE _ _))<|.nil) I I (bp ?_)
   refine aC (.v (aU I) I<|.a 1 I<|.k [1,3,6,7,8] I) ?_
   refine⟨L.length - (i+1),by omega,i+1,by omega,rfl,?_⟩
   rw[hst]
   first
    |rfl
    |(simp only[fE,List.length_append,List.length_singleton];rfl)
  ·have h0:¬0≤L.getD i 0:=ff hy
   rw[if_neg h0,List.append_nil]at hst
   refine ai<|aC (.v (aU I) I<|.a 1 I<|.k [1,3,6,7,8] I) ?_
   refine⟨L.length - (i+1),by omega,i+1,by omega,rfl,?_⟩
   rw[hst]
   first
    |rfl
    |(simp only[fE,List.length_append,List.length_singleton];rfl)
 ·have hie:i=L.length:=by have:=ff hc;omega
  subst hie
  refine bd<|aO<|aw 2 I<|cN I I (bU.mono (Bi L (pH L L.length) (fE cs) (fun x hx=>by obtain⟨k,rfl,h1,_⟩:=wF.1 hx;omega) (by omega)) (fun _ σ' h=>?_))
  obtain⟨ys,h1,h2,rfl⟩:=h
  refine aE [3] I ?_
  exact ab (.a 2 I<|.k [2] I)<|ao<|⟨_,az.of I,ys,h1,h2,rfl,rfl⟩
theorem wo(xs:List Int)(c:Option cK)(hn:xs.length≤12):bU Tryz.prog 203 [.own 1] [c,fE xs] (fun _ σ'=>σ'=[c,fE xs.reverse]):=by
 refine ct Tryz.func203 I Tryz.ntmps203 I<|ab (.a 2 I<|.v (aU I) I<|.a 2 I<|.k [0,2,3] I)<|au<|eH [0,2,3] I<|bq (fun r st=>∃(ys:List Int) (i:Nat),ys.length=xs.length∧2*i≤xs.length+1∧(∀k,k<xs.length→ys.getD k 0=if k<i∨xs.length - i≤k then xs.getD (xs.length - 1 - k) 0 else xs.getD k 0)∧r=xs.length+1 - i∧st=⟨[(0,.own 1),(2,num i),(3,num ((xs.length:Int) - 1 - i))],[c,fE ys]⟩) (xs.length+1) ⟨xs,0,rfl,by omega,fun k hk=>by rw[if_neg (by omega)],by omega,by simp⟩ ?_
 rintro r st ⟨ys,i,hl,hi,hk,rfl,rfl⟩
 refine aj<|ab (.a 3 I<|.k [0,2,3,9] I)<|ag I (fun hc=>?_) (fun hc=>?_)
 ·have hlt:2*i+1<xs.length:=by have:=tt hc;omega
  obtain⟨a,ha⟩:∃a,ys.getD i 0=a:=⟨_,rfl⟩
  obtain⟨b,hb⟩:∃b,ys.getD (xs.length - 1 - i) 0=b:=⟨_,rfl⟩
  refine ai<|aj<|au<|dL 13 20 mixed (
   .val [0] I (aZ I) I I<|
   .val [2] I (aZ I) I I<|
   .late [0] I (ju rfl rfl) inferInstance rfl rfl<|
   .late [3] I (ju rfl rfl) inferInstance rfl rfl<|
   .val [0] I (aZ I) I I<|
   .val [3] I (aZ I) I I<|
   .val [18,19] I (aN ((xs.length - 1 - i)) I) I I<|
   .val [20] I (aJ I ((aB ys (xs.length - 1 - i) (by omega)).trans (by rw[hb]))) I I<|
   .val [0] I (aZ I) I I<|
   .val [2] I (aZ I) I I<|
   .val [22,23] I (aN (i) I) I I<|
   .val [24] I (aJ I ((aB ys i (by omega)).trans (by rw[ha]))) I I<|
   .val [14,15] I (aN (i) I) I I<|
   .nil) (by kernel_rfl) I I (aY (ks:=[0,2,3,16,17,21,25,26]) I) ?_
  refine bc ((by first|exact bN I (ba.tk.get I) I I I (by first|omega|(simp;omega))|exact bg I (ba.tk.get I) I I I (by first|omega|(simp;omega)))) I I<|bw (aN ((xs.length - 1 - i)) I) I<|bc ((by first|exact bN I (ba.tk.get I) I I I (by first|omega|(simp;omega))|exact bg I (ba.tk.get I) I I I (by first|omega|(simp;omega)))) I I<|aE [0,2,3] I ?_
  refine aC (.a 1 I<|.v (aU I) I<|.a 1 I<|.v (aU I) I<|.a 2 I<|.k [0,2,3] I) ?_
  refine⟨xs.length+1 - (i+1),by omega,Heap.ed ys i (xs.length - 1 - i),i+1,by rw[Heap.gj];exact hl,by omega,fun k hkl=>?_,rfl,?_⟩
  ·rw[Heap.ec ys i (xs.length - 1 - i) k (by omega) (by omega)]
   by_cases h1:k=xs.length - 1 - i
   ·rw[if_pos h1,if_pos (by omega),hk i (by omega),if_neg (by omega),h1,show xs.length - 1 - (xs.length - 1 - i)=i by omega]
   ·rw[if_neg h1]
    by_cases h2:k=i
    ·rw[if_pos h2,if_pos (by omega),hk _ (by omega),if_neg (by omega),h2]
    ·rw[if_neg h2,hk k hkl]
     by_cases h3:k<i∨xs.length - i≤k
     ·rw[if_pos h3,if_pos (by omega)]
     ·rw[if_neg h3,if_neg (by omega)]
  ·unfold fE Heap.ed
   rw[ha,hb,show(xs.length:Int) - 1 - ((i+1:Nat):Int)=(xs.length:Int) - 1 - i - 1 by omega]
   simp only[List.length_set]
   rfl
 ·have hge:¬2*i+1<xs.length:=by have:=ff hc;omega
  refine bd<|⟨_,az.of I,?_⟩
  have:ys=xs.reverse:=by
   refine List.ext_getElem (by simp[hl]) fun k h1 h2=>?_
   have h3:=hk k (by omega)
   rw[List.getElem_reverse]
   have e1:ys.getD k 0=ys[k]:=by simp[h1]
   have e2:xs.getD (xs.length - 1 - k) 0=xs[xs.length - 1 - k]:=by rw[List.getD_eq_getElem?_getD,List.getElem?_eq_getElem (by omega)];rfl
   by_cases h4:k<i∨xs.length - i≤k
   ·rw[if_pos h4,e1,e2]at h3;exact h3
   ·rw[if_neg h4,e1]at h3
    rw[h3,←e2,show xs.length - 1 - k=k by omega]
  rw[this]
end
section
open Go.RowKit cG Mem
structure iN (P:Program) (kt:TypeId) {κ:Type} [DecidableEq κ] (enc:κ→Value):Prop where
 oK:∀e a w,(Instr.checkKey e 10000 kt (enc a)).run P w= .ok () w
 eql:∀a b w,(Op.equal kt (enc a) (enc b)).run P w= .ok (decide (a=b)) w
 now:∃d,P.underlying kt=some d∧((∀a b,Instr.sameNow d (enc a) (enc b)=some (decide (a=b)))∨∀a b,Instr.sameNow d (enc a) (enc b)=none)
 bits:∀a,Instr.sameBits 10000 (enc a) (enc a)=true
section
variable {P:Program} {kt:TypeId} {κ:Type} [DecidableEq κ] {enc:κ→Value}
def gz(k:κ):List κ→Nat→Option Nat
 | [],_=>none
 |a::l,i=>if k=a then some i else gz k l (i+1)
theorem jA{k:κ}:∀ {l:List κ} {i j:Nat},gz k l i=some j→i≤j∧l[j - i]? =some k
 | [],i,j,h=>by cases h
 |a::l,i,j,h=>by
  simp only[gz]at h
  split at h
  ·rename_i he;cases h;subst he;simp
  ·obtain⟨h1,h2⟩:=jA h
   refine⟨by omega,?_⟩
   rw[show j - i=(j - (i+1))+1 by omega]
   simpa using h2
theorem yf{d:TypeDesc}(hn:∀a b,Instr.sameNow d (enc a) (enc b)=some (decide (a=b)))(k:κ):∀(ks:List κ) (es:List MapEntry) (i:Nat),es.map (·.key)=ks.map enc→
  Instr.findNow d (enc k) es i=some ((gz k ks i).bind fun j=>(es[j - i]?).map fun e=>(j,e.val))
 | [],[],i,_=>rfl
 | [],_::_,i,h=>by simp at h
 |_::_,[],i,h=>by simp at h
 |a::ks,e::es,i,h=>by
  simp only[List.map_cons,List.cons.injEq]at h
  simp only[Instr.findNow,h.1,hn,gz]
  by_cases hk:k=a
  ·rw[decide_eq_true hk,if_pos hk];simp
  ·rw[decide_eq_false hk,if_neg hk]
   simp only[yf hn k ks es (i+1) h.2]
   congr 1
   cases hf:gz k ks (i+1)with
   |none=>rfl
   |some j=>
    obtain⟨h1,_⟩:=jA hf
    simp only[Option.bind_some]
    rw[show j - i=(j - (i+1))+1 by omega]
    simp
theorem xJ(hk:iN P kt enc)(k:κ)(w:World):∀(ks:List κ) (es:List MapEntry) (i:Nat),es.map (·.key)=ks.map enc→
  (Instr.findAsking kt (enc k) es i).run P w= .ok ((gz k ks i).bind fun j=>(es[j - i]?).map fun e=>(j,e.val)) w
 | [],[],i,_=>rfl
 | [],_::_,i,h=>by simp at h
 |_::_,[],i,h=>by simp at h
 |a::ks,e::es,i,h=>by
  simp only[List.map_cons,List.cons.injEq]at h
  simp only[Instr.findAsking,Sem.run_bind,h.1,hk.eql,Result.andThen_ok,gz]
  by_cases hka:k=a
  ·rw[if_pos (by simpa using hka),if_pos hka];simp
  ·rw[if_neg (by simpa using hka),if_neg hka,xJ hk k w ks es (i+1) h.2]
   congr 1
   cases hf:gz k ks (i+1)with
   |none=>rfl
   |some j=>
    obtain⟨h1,_⟩:=jA hf
    simp only[Option.bind_some]
    rw[show j - i=(j - (i+1))+1 by omega]
    simp
theorem wc(hk:iN P kt enc)(k:κ)(w:World)(ks:List κ)(es:List MapEntry)(h:es.map (·.key)=ks.map enc):(Instr.findKey kt (enc k) es).run P w= .ok ((gz k ks 0).bind fun j=>(es[j]?).map fun e=>(j,e.val)) w:=by
 obtain⟨d,hd,hn|hn⟩:=hk.now
 ·have:=yf hn k ks es 0 h
  simp only[Instr.findKey,Sem.run_bind,run_underlying hd,Result.andThen_ok,this]
  simp
 ·have ha:=xJ hk k w ks es 0 h
  simp only[Instr.findKey,Sem.run_bind,run_underlying hd,Result.andThen_ok]
  cases es with
  |nil=>
   have:ks=[]:=by cases ks with|nil=>rfl|cons=>simp at h
   subst this
   rfl
  |cons e es=>
   cases ks with
   |nil=>simp at h
   |cons a ks=>
    simp only[List.map_cons,List.cons.injEq]at h
    have h0:Instr.findNow d (enc k) (e::es) 0=none:=by simp only[Instr.findNow,h.1,hn]
    rw[h0]
    simpa using ha
def gg(enc:κ→Value)(l:List (κ×PV)):List (Value×PV):=l.map fun x=>(enc x.1,x.2)
def dF(k:κ):List (κ×PV)→Option PV
 | []=>none
 |(a,p)::l=>if k=a then some p else dF k l
def iL(k:κ)(p:PV):List (κ×PV)→List (κ×PV)
 | []=>[(k,p)]
 |(a,q)::l=>if k=a then(a,p)::l else(a,q)::iL k p l
theorem zh{k:κ}{l:List (κ×PV)}:dF k l=(gz k (l.map (·.1)) 0).bind fun j=>(l[j]?).map (·.2):=by
 suffices h:∀(i:Nat),dF k l=(gz k (l.map (·.1)) i).bind fun j=>(l[j - i]?).map (·.2) by simpa using h 0
 induction l with
 |nil=>intro i;rfl
 |cons x l ih=>
  intro i
  obtain⟨a,p⟩:=x
  simp only[dF,List.map_cons,gz]
  split
  ·simp
  ·rw[ih (i+1)]
   cases hf:gz k (l.map (·.1)) (i+1)with
   |none=>rfl
   |some j=>
    obtain⟨h1,_⟩:=jA hf
    simp only[Option.bind_some]
    rw[show j - i=(j - (i+1))+1 by omega]
    simp
theorem CP{k:κ}{p:PV}{l:List (κ×PV)}:iL k p l=match gz k (l.map (·.1)) 0 with|some j=>l.set j (k,p)|none=>l++[(k,p)]:=by
 suffices h:∀(i:Nat),iL k p l=match gz k (l.map (·.1)) i with|some j=>l.set (j - i) (k,p)|none=>l++[(k,p)] by simpa using h 0
 induction l with
 |nil=>intro i;rfl
 |cons x l ih=>
  intro i
  obtain⟨a,q⟩:=x
  simp only[iL,List.map_cons,gz]
  split
  ·rename_i he;subst he;simp
  ·rw[ih (i+1)]
   cases hf:gz k (l.map (·.1)) (i+1)with
   |none=>rfl
   |some j=>
    obtain⟨h1,_⟩:=jA hf
    simp only
    rw[show j - i=(j - (i+1))+1 by omega]
    simp
theorem qW{k:κ}{p:PV}{l:List (κ×PV)}{x:κ×PV}(h:x∈iL k p l):x=(k,p)∨x∈l:=by
 induction l with
 |nil=>simpa[iL]using h
 |cons y l ih=>
  obtain⟨a,q⟩:=y
  simp only[iL]at h
  split at h
  ·rename_i he
   subst he
   cases h with
   |head=>exact .inl rfl
   |tail _ h=>exact .inr (List.mem_cons_of_mem _ h)
  ·cases h with
   |head=>exact .inr (List.mem_cons_self ..)
   |tail _ h=>
    rcases ih h with h|h
    ·exact .inl h
    ·exact .inr (List.mem_cons_of_mem _ h)
theorem jj{k:κ}{p:PV}{l:List (κ×PV)}(h:dF k l=some p):(k,p)∈l:=by
 induction l with
 |nil=>cases h
 |cons y l ih=>
  obtain⟨a,q⟩:=y
  simp only[dF]at h
  split at h
  ·rename_i he;subst he;cases h;exact List.mem_cons_self ..
  ·exact List.mem_cons_of_mem _ (ih h)
def wL(p:PV)(v:Value):Prop:=∀E w u,cM E w u p→u=v
theorem pN(v:Value):wL (.raw v) v:=fun _ _ _ h=>by cases h;rfl
theorem qt(a b:Value):wL (.agg [.raw a,.raw b]) (.agg #[a,b]):=fun E w u h=>by
 cases h with
 |agg cs _ hl hr=>
  obtain⟨l⟩:=cs
  match l,hl,hr with
  | [x,y],_,hr=>
   have h0:=hr 0 x _ rfl rfl
   have h1:=hr 1 y _ rfl rfl
   cases h0;cases h1;rfl
  | [],hl,_=>simp at hl
  | [_],hl,_=>simp at hl
  |_::_::_::_,hl,_=>simp at hl
def vt(P:Program)(mt:TypeId):Option (TypeId×TypeId):=match P.underlying mt with|some (.map k e)=>some (k,e)|_=>none
theorem mM{mt kt et:TypeId}(h:vt P mt=some (kt,et)):P.underlying mt=some (.map kt et):=by
 unfold vt at h
 split at h
 ·rename_i hu;cases h;exact hu
 ·cases h
def IH(P:Program)(t:TypeId):Option Value:=match P.info? t with|some i=>i.zero|none=>none
theorem DN{et:TypeId}{z:Value}(h:IH P et=some z)(w:World):(zeroValue et).run P w= .ok z w:=by
 unfold IH at h
 split at h
 ·rename_i i hi;simp[zeroValue,typeInfo,hi,h]
 ·cases h
variable {σ:cg} {t:cn} {o:Oper}
theorem uk(hK:iN P kt enc){F:Nat→Prop}{base:Nat}{E:Env}{w:World}{i mt et:Nat}{l:List (κ×PV)}{v z:Value}(hS:Sat F base σ E w)(hm:vt P mt=some (kt,et))(hz:IH P et=some z)(hv:cM E w v (.own i))(hi:σ[i]? =some (some (.mp (gg enc l))))(k:κ)(ok:Bool):
  ∃u,(Instr.lookup mt v (enc k) ok).run P w= .ok (if ok then .tuple #[u,.bool (dF k l).isSome] else u) w∧cM E w u ((dF k l).getD (.raw z)):=by
 cases hv with
 |own _ hiL _ hat _=>
  obtain⟨r,es,ck,hr,hb,hheap,hkey,hval⟩:=hS.blk i _ hi
  rw[hat]at hr
  subst hr
  have hkey':es.toList.map (·.key)=(l.map (·.1)).map enc:=by rw[hkey];simp[gg]
  have hf:=wc hK k w (l.map (·.1)) es.toList hkey'
  have hvl:(gg enc l).map (·.2)=l.map (·.2):=by simp[gg]
  rw[hvl]at hval
  have hlk:=zh (k:=k) (l:=l)
  cases hfi:gz k (l.map (·.1)) 0 with
  |none=>
   rw[hfi]at hf hlk
   simp only[Option.bind_none]at hf hlk
   refine⟨z,?_,by rw[hlk];exact .raw z⟩
   simp only[Instr.lookup,Sem.run_bind,run_underlying (mM hm),Result.andThen_ok,MapKept.run_getObj_map hheap,Sem.run_pure,hK.oK,hf,DN hz,hlk]
   rfl
  |some j=>
   obtain⟨_,hj⟩:=jA hfi
   simp only[Nat.sub_zero]at hj
   have hjl:j<l.length:=by have:=(List.getElem?_eq_some_iff.1 hj).1;simpa using this
   have hje:j<es.toList.length:=by have:=congrArg List.length hkey';simp at this;rw[Array.length_toList];omega
   rw[hfi]at hf hlk
   simp only[Option.bind_some,List.getElem?_eq_getElem hje,List.getElem?_eq_getElem hjl,Option.map_some]at hf hlk
   refine⟨es.toList[j].val,?_,?_⟩
   ·simp only[Instr.lookup,Sem.run_bind,run_underlying (mM hm),Result.andThen_ok,MapKept.run_getObj_map hheap,Sem.run_pure,hK.oK,hf,hlk]
    rfl
   ·rw[hlk]
    exact hval.2 j _ _ (by rw[List.getElem?_map,List.getElem?_eq_getElem hje];rfl) (by simp[hjl])
theorem vR(hK:iN P kt enc){i mt et:Nat}{x ix:Operand}{l:List (κ×PV)}{z:Value}{k:κ}{pk r:PV}(ho:o.op= .lookup mt x ix false)(hm:vt P mt=some (kt,et))(hz:IH P et=some z)(hx:aG t x=some (.own i))(hi:σ[i]? =some (some (.mp (gg enc l))))(hp:aG t ix=some pk)(hk:wL pk (enc k))(hr:(dF k l).getD (.raw z)=r):bE P σ t o r:=by
 intro F base E ρ w hρ hS hT
 have h1:=aA hρ hT hx
 have h2:=hk _ _ _ (aA hρ hT hp)
 obtain⟨u,hu,hR⟩:=uk hK hS hm hz h1 hi k false
 simp only[execOp,ho,h2,Sem.run_bind,hu,Result.andThen_ok,Sem.run_pure,Bool.false_eq_true,if_false]
 exact bA (by rw[←hr];exact hR)
theorem Au(hK:iN P kt enc){i mt et:Nat}{x ix:Operand}{l:List (κ×PV)}{z:Value}{k:κ}{pk r:PV}{q:Bool}(ho:o.op= .lookup mt x ix true)(hm:vt P mt=some (kt,et))(hz:IH P et=some z)(hx:aG t x=some (.own i))(hi:σ[i]? =some (some (.mp (gg enc l))))(hp:aG t ix=some pk)(hk:wL pk (enc k))(hr:(dF k l).getD (.raw z)=r)(hq:(dF k l).isSome=q):bE P σ t o (.tuple [r,.raw (.bool q)]):=by
 intro F base E ρ w hρ hS hT
 have h1:=aA hρ hT hx
 have h2:=hk _ _ _ (aA hρ hT hp)
 obtain⟨u,hu,hR⟩:=uk hK hS hm hz h1 hi k true
 simp only[execOp,ho,h2,Sem.run_bind,hu,Result.andThen_ok,Sem.run_pure,if_true]
 refine bA (.tuple #[u,.bool (dF k l).isSome] _ rfl fun i x p k1 k2=>?_)
 match i,k1,k2 with
 |0,k1,k2=>cases k1;cases k2;rw[←hr];exact hR
 |1,k1,k2=>cases k1;cases k2;rw[hq];exact .raw _
 |_+2,_,k2=>simp at k2
theorem oG{α:Type}(a:Array α)(i j:Nat)(v:α):(a.setIfInBounds i v)[j]? =if i=j∧i<a.size then some v else a[j]? :=by
 rw[Array.getElem?_setIfInBounds]
 by_cases h:i=j
 ·subst h
  by_cases h2:i<a.size
  ·simp[h2]
  ·simp[h2]
 ·simp[h]
theorem oy(hK:iN P kt enc){i mt et:Nat}{x ix y:Operand}{l:List (κ×PV)}{k:κ}{pk p:PV}(ho:o.op= .mapUpdate mt x ix y)(hm:vt P mt=some (kt,et))(hx:aG t x=some (.own i))(hi:σ[i]? =some (some (.mp (gg enc l))))(hp:aG t ix=some pk)(hk:wL pk (enc k))(hy:aG t y=some p):
  cq P σ t o (.raw undef) (σ.set i (some (.mp (gg enc (iL k p l))))):=by
 intro F base E ρ w hρ hS hT
 have h1:=aA hρ hT hx
 have h2:=hk _ _ _ (aA hρ hT hp)
 have h3:=aA hρ hT hy
 generalize hz:ρ x=v at h1
 cases h1 with
 |own _ hiL _ hat _=>
  obtain⟨r,es,ck,hr,hb,hheap,hkey,hval⟩:=hS.blk i _ hi
  have hbk:bF (E.at_ i)=some r:=by rw[hr];rfl
  have hsz:r<w.heap.size:=(Array.getElem?_eq_some_iff.1 hheap).1
  rw[hat]at hr
  subst hr
  have hkey':es.toList.map (·.key)=(l.map (·.1)).map enc:=by rw[hkey];simp[gg]
  have hf:=wc hK k w (l.map (·.1)) es.toList hkey'
  have hvl:(gg enc l).map (·.2)=l.map (·.2):=by simp[gg]
  rw[hvl]at hval
  have fin:∀(es':Array MapEntry) (ck':Nat),(Instr.mapUpdate mt (.map (some r)) (enc k) (ρ y)).run P w= .ok () {w with heap:=w.heap.setIfInBounds r (.map es' ck')}→
    es'.toList.map (·.key)=(iL k p l).map (fun a=>enc a.1)→bf E w (es'.toList.map (·.val)) ((iL k p l).map (·.2))→
    ∃v w' E',((execOp ρ o).run P w= .ok (.value v) w'∨(v=undef∧(execOp ρ o).run P w= .ok .skip w'))∧Sat F base (σ.set i (some (.mp (gg enc (iL k p l))))) E' w'∧di E w E' w'∧Below base w w'∧cM E' w' v (.raw undef):=fun es' ck' hrun hk' hv'=>by
   have oth:∀j,j<w.heap.size→j≠r→({w with heap:=w.heap.setIfInBounds r (.map es' ck')}:World).heap[j]? =w.heap[j]? :=fun j _ hj=>by
    show(w.heap.setIfInBounds r (.map es' ck'))[j]? =_
    rw[oG,if_neg (by rintro⟨rfl,_⟩;exact hj rfl)]
   have hs':w.heap.size≤({w with heap:=w.heap.setIfInBounds r (.map es' ck')}:World).heap.size:=by simp
   have hrM:E.M r:=(hS.mm r).2 (.inr ⟨i,_,hi,hbk⟩)
   have g:di E w E {w with heap:=w.heap.setIfInBounds r (.map es' ck')}:=⟨Nat.le_refl _,fun _ _=>rfl,fun _ _ h=>h,hs',fun j hj hM=>oth j hj (fun e=>hM (by rw[e];exact hrM))⟩
   have hn:=hS.D9 (bi':=.mp (gg enc (iL k p l))) hi hbk hs' oth ⟨r,es',ck',hat,hb,by
     show(w.heap.setIfInBounds r (.map es' ck'))[r]? =_
     rw[oG,if_pos ⟨rfl,hsz⟩],by rw[hk'];simp[gg],by
     have:(gg enc (iL k p l)).map (·.2)=(iL k p l).map (·.2):=by simp[gg]
     rw[this];exact hv'.goes g⟩
   refine⟨undef,_,E,.inr ⟨rfl,?_⟩,hn.1,hn.2,⟨rfl,rfl,rfl,hs',fun j hj=>oth j (Nat.lt_of_lt_of_le hj hS.bl) (by omega)⟩,.raw _⟩
   simp only[execOp,ho,hz,h2,Sem.run_bind,hrun,Result.andThen_ok,Sem.run_pure]
  have hsm:=CP (k:=k) (p:=p) (l:=l)
  cases hfi:gz k (l.map (·.1)) 0 with
  |none=>
   rw[hfi]at hf hsm
   simp only[Option.bind_none]at hf hsm
   refine fin (es.push {key:=enc k,val:=ρ y,born:=ck}) (ck+1) ?_ ?_ ?_
   ·simp only[Instr.mapUpdate,Sem.run_bind,run_underlying (mM hm),Result.andThen_ok,MapKept.run_getObj_map hheap,hK.oK,hf,MapKept.run_setObj_map _ hheap]
   ·rw[hsm];simp[hkey',List.map_map,Function.comp_def]
   ·rw[hsm]
    simp only[Array.toList_push,List.map_append,List.map_cons,List.map_nil]
    exact hval.append (bf.cons h3 (bf.nil _ _))
  |some j=>
   obtain⟨_,hj⟩:=jA hfi
   simp only[Nat.sub_zero]at hj
   have hjl:j<l.length:=by have:=(List.getElem?_eq_some_iff.1 hj).1;simpa using this
   have hje:j<es.toList.length:=by have:=congrArg List.length hkey';simp at this;rw[Array.length_toList];omega
   have hje':j<es.size:=by simpa using hje
   have hlj:l[j].1=k:=by have:=List.getElem?_eq_some_iff.1 hj;obtain⟨h,e⟩:=this;simpa using e
   have hkj:es[j].key=enc k:=by
    have:=congrArg (·[j]?) hkey'
    simp only[List.getElem?_map,List.getElem?_eq_getElem hje,List.getElem?_eq_getElem hjl,Option.map_some,Option.some.injEq,hlj]at this
    simpa using this
   rw[hfi]at hf hsm
   simp only[Option.bind_some,List.getElem?_eq_getElem hje,Option.map_some]at hf hsm
   refine fin (es.modify j fun e=> {e with key:=enc k,val:=ρ y}) ck ?_ ?_ ?_
   ·have hks:(Instr.keyThatStays ((Option.map (fun x=>x.key) es[j]?).getD (enc k)) (enc k)).run P w= .ok (enc k) w:=by
     rw[Array.getElem?_eq_getElem hje',Option.map_some,Option.getD_some,hkj]
     simp only[Instr.keyThatStays,hK.bits,if_true,Sem.run_pure]
    simp only[Instr.mapUpdate,Sem.run_bind,run_underlying (mM hm),Result.andThen_ok,MapKept.run_getObj_map hheap,hK.oK,hf,hks,MapKept.run_setObj_map _ hheap]
   ·rw[hsm]
    refine List.ext_getElem? fun n=>?_
    simp only[List.getElem?_map,Array.getElem?_toList,Array.getElem?_modify,List.getElem?_set]
    by_cases hn:j=n
    ·subst hn
     simp[hje',hjl]
    ·have:=congrArg (·[n]?) hkey'
     simp only[List.getElem?_map,Array.getElem?_toList]at this
     simp only[if_neg hn,this,Option.map_map,Function.comp_def]
   ·rw[hsm]
    have hR:=hval.set j h3
    have e1:(es.modify j fun e=> {e with key:=enc k,val:=ρ y}).toList.map (·.val)=(es.toList.map (·.val)).set j (ρ y):=by
     refine List.ext_getElem? fun n=>?_
     simp only[List.getElem?_map,Array.getElem?_toList,Array.getElem?_modify,List.getElem?_set]
     by_cases hn:j=n
     ·subst hn
      simp[hje']
     ·simp only[if_neg hn]
    have e2:(l.set j (k,p)).map (·.2)=(l.map (·.2)).set j p:=by rw[List.map_set]
    rw[e1,e2]
    exact hR
omit [DecidableEq κ] in
theorem o7{mt:TypeId}(enc:κ→Value)(ho:o.op= .makeMap mt none):cq P σ t o (.own σ.length) (σ++[some (.mp (gg enc ([]:List (κ×PV))))]):=by
 intro F base E ρ w hρ hS hT
 have hr:(execOp ρ o).run P w= .ok (.value (.map (some w.heap.size))) (w.alloc (.map #[] 0)):=by
  simp[execOp,ho,Instr.makeMap]
 have hE:Ext w (w.alloc (.map #[] 0)):=(Ext.refl w).alloc _
 have hp:=hS.push hE (v:=.map (some w.heap.size)) (blk:=.mp (gg enc ([]:List (κ×PV)))) (fun b h=>by simp[bF]at h;omega) ⟨w.heap.size,#[],0,rfl,hS.bl,heap_alloc_new _ _,rfl,bf.nil _ _⟩
 exact⟨_,_,_,.inl hr,hp.1,hp.2,Below.iy hE hS.bl,.own σ.length (by simp[Env.push,hS.len]) _ (by simp[Env.push,hS.len]) I⟩
end
section
variable {P:Program} {σ:cg} {t:cn} {o:Oper} {N L:Nat}
def KY(Q:Exit→St→Prop):Exit→St→Prop
 | .goto _,_=>False
 |e,s=>Q e s
theorem AJ{c:Code}{st:St}{Q:Exit→St→Prop}(h:W P N L c st (KY Q)):W P N L (.scope c) st Q:=fun F base E₀ w₀ E a w hc hs=>by
 refine wp_scope_straight (wp_mono (h F base E₀ w₀ E a w hc hs) ?_)
 rintro e a' w' ⟨s,E',h1,h2⟩
 cases e with
 |goto l=>exact h1.elim
 |normal=>exact⟨s,E',h1,h2⟩
 |exit _=>exact⟨s,E',h1,h2⟩
 |ret=>exact⟨s,E',h1,h2⟩
 |panic _=>exact⟨s,E',h1,h2⟩
 |outgrown=>exact⟨s,E',h1,h2⟩
theorem AK{l:Nat}{st:St}{Q:Exit→St→Prop}(h:Q .normal st):W P N L (.label l) st Q:=fun _ _ _ _ E _ _ hc hs=>wp_label ⟨st,E,h,hs,hc.g,hc.b⟩
theorem tp{x:Operand}{k:Nat}{xs:List PV}{p:PV}(ho:o.op= .extract x k)(hx:aG t x=some (.tuple xs))(hp:xs[k]? =some p):mj P t o p:=fun E ρ w hρ hT=>by
 have h1:=aA hρ hT hx
 generalize hz:ρ x=z at h1
 cases h1 with
 |tuple cs _ hl hr=>
  obtain⟨c,hcc,hcr⟩:=bf.get (E:=E) (w:=w) (cs:=cs.toList) ⟨by simpa using hl,fun i x u h1 h2=>hr i x u (by simpa using h1) h2⟩ hp
  have hcc':cs[k]? =some c:=by simpa using hcc
  exact⟨c,fun w'=>by simp only[execOp,ho,hz,Instr.extract,hcc',Sem.run_bind,Sem.run_pure,Result.andThen_ok],hcr⟩
theorem td{x y:Operand}{ats:Array TypeId}{a b c:Int}(ho:o.op= .call {callee:=.builtin .min,args:= #[x,y],argTypes:=ats})(hx:aG t x=some (.raw (.int .i64 a)))(hy:aG t y=some (.raw (.int .i64 b)))(hc:min a b=c):bE P σ t o (.raw (.int .i64 c)):=by
 intro F base E ρ w hρ _ hT
 have h1:=aA hρ hT hx
 have h2:=aA hρ hT hy
 generalize hz:ρ x=z at h1
 generalize hz':ρ y=z' at h2
 cases h1
 cases h2
 have he:(if b<a then b else a)=c:=by rw[←hc];by_cases h:b<a<;>simp[h]<;>omega
 simp[execOp,ho,resolve,invoke,builtin,Builtin.min_,Builtin.min2,hz,hz',he]
 exact bA (.raw _)
def xh(P:Program)(ty:TypeId):Bool:=match P.underlying ty with|some (.slice _)=>true|_=>false
theorem pM{ty:TypeId}(h:xh P ty=true):∃e,P.underlying ty=some (.slice e):=by
 unfold xh at h
 split at h
 ·rename_i e hu;exact⟨e,hu⟩
 ·cases h
theorem Hx{x y:Operand}{ty tz:TypeId}(ho:o.op= .binOp .eql ty x y tz)(hk:xh P ty=true)(hx:aG t x=some (.raw (.slice none 0 0)))(hy:aG t y=some (.raw (.slice none 0 0))):bE P σ t o (.raw (.bool true)):=by
 obtain⟨e,hu⟩:=pM hk
 refine yd ho hx hy fun w=>?_
 have:=Lib.run_eql_slice_nil w ty e none 0 0 0 0 hu
 have hg:∀a n c b m d,(eqGuard .eql ty x y (.slice a n c) (.slice b m d)).run P w= .ok () w:=fun _ _ _ _ _ _=>rfl
 simp only[Sem.run_bind,hg,Result.andThen_ok,this]
 rfl
theorem oe{x y:Operand}{ty tz:TypeId}{n:Nat}{xs:List PV}(ho:o.op= .binOp .eql ty x y tz)(hk:xh P ty=true)(hx:aG t x=some (.slice n xs))(hy:aG t y=some (.raw (.slice none 0 0)))(hn:0<n):bE P σ t o (.raw (.bool false)):=by
 obtain⟨e,hu⟩:=pM hk
 intro F base E ρ w hρ _ hT
 have h1:=aA hρ hT hx
 have h2:=aA hρ hT hy
 generalize hz:ρ x=z at h1
 generalize hz':ρ y=z' at h2
 cases h2
 have hv:∃a c,z= .slice (some a) n c:=by
  cases h1 with
  |bM=>omega
  |empty=>omega
  |slice b off _ c cs _ h0=>exact⟨_,_,rfl⟩
 obtain⟨a,c,rfl⟩:=hv
 have:=Lib.run_eql_slice_nil w ty e (some a) n c 0 0 hu
 have hg:∀a n c b m d,(eqGuard .eql ty x y (.slice a n c) (.slice b m d)).run P w= .ok () w:=fun _ _ _ _ _ _=>rfl
 simp only[execOp,ho,hz,hz',Sem.run_bind,Sem.run_pure,Result.andThen_ok,hg,this]
 exact bA (.raw _)
end
open Net
theorem bU.yl{P:Program}{f:FuncId}{ps:List PV}{σ:cg}{R:PV→Prop}(h:Can P f ps R)[aL ps]:bU P f ps σ (fun r σ'=>R r∧σ'=σ):=fun F base E w vs hS hR=>by
 refine(h E.M w vs (fun b hb=>hS.lt hb) hS.gl (hR.pure (fun _ h=>h))).mono ?_
 rintro e w' ⟨v,rfl,hE,r,hr,hv⟩
 exact⟨v,r,σ,E,rfl,⟨hr,rfl⟩,hS.ext hE,.ext hE,Below.iy hE hS.bl,hv.back⟩
section
variable {T:ak} {D:List Bool} {d:Nat}
structure zR (T:ak) (D:List Bool) (d:Nat) (O:List Int):Prop where
 nodup:O.Nodup
 mem:∀x,x∈O↔∃k:Nat,x=(k:Int)∧(k:Int)<T.nodes∧0≤dN T D d k
 pair:O.Pairwise fun x y=>dN T D d y.toNat≤dN T D d x.toNat
theorem zR.of(hv:aq T=true)(hd:(d:Int)<T.nodes){O:List Int}(h1:O.Perm (pH (bG T D d false) (bG T D d false).length))(h2:O.Pairwise (tX (bG T D d false))):zR T D d O:=by
 obtain⟨hb1,_⟩:=dv (D:=D) hv (dir:=false) hd
 refine⟨h1.nodup_iff.2 (yZ _ _),fun x=>?_,h2.imp fun {x y} h=>?_⟩
 ·rw[h1.mem_iff,wF]
  constructor
  ·rintro⟨k,e,h3,h4⟩;exact⟨k,e,by omega,h4⟩
  ·rintro⟨k,e,h3,h4⟩;exact⟨k,e,by omega,h4⟩
 ·unfold tX at h
  show(bG T D d false).getD _ 0≤(bG T D d false).getD _ 0
  omega
noncomputable def lD(T:ak)(D:List Bool)(d:Nat)(c:Int)(l:List Int):Int:=l.foldl (fun c a=>min 2 (c+ei T D d (aS T a.toNat).toNat)) c
structure oU (T:ak) (D:List Bool) (d:Nat) (R cs:List Int) (i:Nat):Prop where
 len:(cs.length:Int)=T.nodes
 val:∀m:Nat,(m:Int)<T.nodes→cs.getD m 0=if m=d then 1 else if(m:Int)∈R.take i then ei T D d m else 0
theorem oU.start(hd:(d:Int)<T.nodes)(R:List Int):oU T D d R ((List.replicate T.nodes.toNat 0).set d 1) 0:=by
 refine⟨by simp;omega,fun m hm=>?_⟩
 rw[List.getD_eq_getElem?_getD,List.getElem?_set]
 by_cases h:d=m
 ·subst h;rw[if_pos rfl,if_pos (by simp;omega),if_pos rfl];rfl
 ·rw[if_neg h,if_neg (fun e=>h e.symm),List.getElem?_replicate,if_pos (by omega)];rfl
theorem oU.next(hv:aq T=true)(hd:(d:Int)<T.nodes){O cs:List Int}{i m a y:Nat}(hO:zR T D d O)(h:oU T D d O.reverse cs i)(hi:i<O.reverse.length)(hm:O.reverse.getD i 0=(m:Int))(ha:(a:Int)∈bH T D m d)(hy:aS T a=(y:Int)):cs.getD y 0=ei T D d y∧y≠m∧(y:Int)<T.nodes:=by
 obtain⟨b,hb,hn⟩:=cX ha
 have hba:b=a:=by omega
 subst hba
 obtain⟨y',hy',hyN⟩:=dT hv hn.fu
 have:y'=y:=by omega
 subst this
 have hdy:=hn.dN hy
 have hc:=(aM hv).cost b hn.fu
 refine⟨?_,fun e=>by subst e;omega,hyN⟩
 rw[h.val y' hyN]
 by_cases hyd:y'=d
 ·subst hyd;rw[if_pos rfl,oh]
 ·rw[if_neg hyd,if_pos ?_]
  have hyO:(y':Int)∈O.reverse:=List.mem_reverse.2 ((hO.mem _).2 ⟨y',rfl,hyN,hdy.1⟩)
  have hs:O.reverse=O.reverse.take i++(m:Int)::O.reverse.drop (i+1):=by rw[←hm,←drop_cons _ _ hi,List.take_append_drop]
  have hp:O.reverse.Pairwise fun x y=>dN T D d x.toNat≤dN T D d y.toNat:=List.pairwise_reverse.2 hO.pair
  rw[hs]at hp hyO
  rcases List.mem_append.1 hyO with h1|h1
  ·exact h1
  ·exfalso
   have hp2:=(List.pairwise_append.1 hp).2.1
   rcases List.mem_cons.1 h1 with h2|h2
   ·have:y'=m:=by omega
    subst this;omega
   ·have:=(List.pairwise_cons.1 hp2).1 _ h2
    simp only[Int.toNat_natCast]at this
    omega
theorem oU.fresh{O cs:List Int}{i m:Nat}(hO:zR T D d O)(h:oU T D d O.reverse cs i)(hi:i<O.reverse.length)(hm:O.reverse.getD i 0=(m:Int)):(m:Int)<T.nodes∧0≤dN T D d m∧cs.getD m 0=if m=d then 1 else 0:=by
 have hmO:(m:Int)∈O.reverse:=by rw[←hm];exact cr hi
 obtain⟨k,hk,hkN,hk0⟩:=(hO.mem _).1 (List.mem_reverse.1 hmO)
 have:k=m:=by omega
 subst this
 refine⟨hkN,hk0,?_⟩
 rw[h.val k hkN]
 have hs:O.reverse=O.reverse.take i++(k:Int)::O.reverse.drop (i+1):=by rw[←hm,←drop_cons _ _ hi,List.take_append_drop]
 have hn:O.reverse.Nodup:=List.pairwise_reverse.2 (hO.nodup.imp fun h=>fun e=>h e.symm)
 rw[hs]at hn
 have hnot:¬(k:Int)∈O.reverse.take i:=fun h1=>(List.pairwise_append.1 hn).2.2 _ h1 (k:Int) (by simp) I
 rw[if_neg hnot]
theorem oU.step(hv:aq T=true)(hd:(d:Int)<T.nodes){O cs:List Int}{i m:Nat}(hO:zR T D d O)(h:oU T D d O.reverse cs i)(hi:i<O.reverse.length)(hm:O.reverse.getD i 0=(m:Int)):oU T D d O.reverse (cs.set m (lD T D d (cs.getD m 0) (bH T D m d))) (i+1):=by
 obtain⟨hmN,_,hf⟩:=h.fresh hO hi hm
 have hml:m<cs.length:=by have:=h.len;omega
 refine⟨by simpa using h.len,fun x hx=>?_⟩
 rw[List.getD_eq_getElem?_getD,List.getElem?_set,dK _ _ 0 hi,hm]
 by_cases hxm:m=x
 ·subst hxm
  rw[if_pos rfl,if_pos hml,Option.getD_some,hf]
  by_cases hmd:m=d
  ·subst hmd;rw[if_pos rfl,if_pos rfl,jl];rfl
  ·rw[if_neg hmd,if_neg hmd,if_pos (by simp),su hv hd hmN hmd];rfl
 ·rw[if_neg hxm,←List.getD_eq_getElem?_getD,h.val x hx]
  by_cases hxd:x=d
  ·rw[if_pos hxd,if_pos hxd]
  ·rw[if_neg hxd,if_neg hxd]
   have:(x:Int)∈O.reverse.take i++[(m:Int)]↔(x:Int)∈O.reverse.take i:=by
    simp only[List.mem_append,List.mem_singleton]
    exact⟨fun h=>h.elim id (fun e=>absurd e (by omega)),.inl⟩
   by_cases h1:(x:Int)∈O.reverse.take i
   ·rw[if_pos h1,if_pos (this.2 h1)]
   ·rw[if_neg h1,if_neg (fun h2=>h1 (this.1 h2))]
theorem oU.done(hv:aq T=true)(hd:(d:Int)<T.nodes){O cs:List Int}{n:Nat}(hO:zR T D d O)(h:oU T D d O.reverse cs O.reverse.length)(hn:(n:Int)<T.nodes):cs.getD n 0=ei T D d n:=by
 rw[h.val n hn,List.take_length]
 by_cases hnd:n=d
 ·subst hnd;rw[if_pos rfl,oh]
 ·rw[if_neg hnd]
  by_cases h1:(n:Int)∈O.reverse
  ·rw[if_pos h1]
  ·rw[if_neg h1]
   refine(AN hv hd hn (Int.not_le.1 fun h0=>h1 (List.mem_reverse.2 ((hO.mem _).2 ⟨n,rfl,hn,h0⟩)))).symm
theorem zr(c:Int):lD T D d c []=c:=rfl
theorem yJ(c:Int)(l:List Int)(k a:Nat)(hk:k<l.length)(ha:l.getD k 0=(a:Int)):lD T D d c (l.take (k+1))=min 2 (lD T D d c (l.take k)+ei T D d (aS T a).toNat):=by
 unfold lD
 rw[dK _ _ 0 hk,List.foldl_append,ha]
 rfl
theorem xu(hv:aq T=true)(hd:(d:Int)<T.nodes)(c:Int)(h0:0≤c)(h2:c≤2)(l:List Int):0≤lD T D d c l∧lD T D d c l≤2:=oD _ (fun a=>(kY hv hd _).1) l c h0 h2
theorem FJ(cs:List Int)(m:Nat)(hm:m<cs.length):cs.set m (cs.getD m 0)=cs:=by
 rw[List.getD_eq_getElem?_getD,List.getElem?_eq_getElem hm,Option.getD_some,List.set_getElem_self]
end
def Jy(T:ak)(D:List Bool)(n d:Int)(c:Int):PV:=.tuple [num (if cu T D n d=0 then c else 0),num (cu T D n d)]
set_option maxHeartbeats 2000000 in
theorem Bf(T:ak)(D:List Bool)(n d:Int)(h12:T.nodes≤12):Can Tryz.prog 178 [aP T,bn D,num n,num d,num 2] (· =Jy T D n d (ei T D d.toNat n.toNat)):=by
 refine aH Tryz.func178 I Tryz.ntmps178 I<|ab (.a 3 I<|.k [1,2,3,4,5] I)<|ab (.a 4 I<|.c rfl (uK T D n d) I<|.a 5 I<|.k [1,2,3,4,5,12,13] I)<|aj<|ab (.a 2 I<|.k [1,2,3,4,5,12,13,31] I)<|ag I (fun hc=>?_) (fun hc=>?_)
 ·have he:cu T D n d≠0:=tt hc
  exact ab (.a 3 I<|.k [10,11] I)<|ao<|⟨_,_,az.of I,ay.pure,by unfold Jy;rw[if_neg he];rfl⟩
 ·have he:cu T D n d=0:=Classical.byContradiction (ff hc)
  rw[he]
  obtain⟨hv,hf,hn,hd⟩:=fM he
  rw[aT]at hn hd
  obtain⟨n,rfl⟩:=Int.eq_ofNat_of_zero_le hn.1
  obtain⟨d,rfl⟩:=Int.eq_ofNat_of_zero_le hd.1
  have hn:=hn.2
  have hd:=hd.2
  have hll:=bT hv
  have hS:=aM hv
  obtain⟨hb1,hb2⟩:=dv (D:=D) hv (dir:=false) hd
  obtain⟨N,hN⟩:∃N:Nat,T.nodes=(N:Int):=⟨T.nodes.toNat,by omega⟩
  have hNt:T.nodes.toNat=N:=by omega
  refine ai<|aj<|ab (.a 2 I<|.k [1,2,3,4,5,12,34] I)<|ag I (fun hc=>?_) (fun hc=>?_)
  ·cases hc
  ·refine ai<|ab (.a 1 I<|.c rfl (lZ T hv) I<|.a 1 I<|.k [1,2,3,4,5,12,14] I)<|aO<|aw 2 I<|b7 (dX I (ba.rk.get I) I I hN hN ⟨by unfold maxLen;omega,by omega⟩) I<|aw 1 I<|aE [1,2,3,4,5,12,14,15] I ?_
   refine eF (σ':=[fE (List.replicate N 0)]) (by unfold fE;rw[List.length_replicate,←db];rfl) ?_
   refine aO<|aw 3 I<|bw (td (c:=1) I I I I) I<|bw (aN (d) I (by omega) (by rw[List.length_replicate];omega)) I<|bc ((by first|exact bN I (ba.tk.get I) I I I (by first|omega|(simp;omega))|exact bg I (ba.tk.get I) I I I (by first|omega|(simp;omega)))) I I<|aE [1,2,3,4,5,12,14,15] I ?_
   refine eF (σ':=[fE ((List.replicate T.nodes.toNat 0).set d 1)]) ?_ ?_
   ·rw[hNt];unfold fE;simp only[List.length_set,List.length_replicate];rfl
   have hI0:=oU.start (D:=D) hd
   generalize (List.replicate T.nodes.toNat (0:Int)).set d 1=cs0 at hI0
   refine aO<|aw 1 I<|cN I I (bU.mono (zd (bG T D d false) cs0 (by omega)) (fun _ σ' h=>?_))
   obtain⟨O,hO1,hO2,rfl,rfl⟩:=h
   refine aw 1 I<|aE [1,2,3,4,5,12,14,15,16] I ?_
   have hO:=zR.of hv hd hO1 hO2
   have hOl:O.length≤12:=by have:=hO1.length_eq;have:=yi (bG T D d false) (bG T D d false).length;omega
   refine aO<|aw 1 I<|cN I I (bU.mono (wo O (fE cs0) hOl) (fun _ σ' h=>?_))
   subst h
   refine aE [1,2,3,4,5,12,14,15,16] I ?_
   refine aj<|ab (.a 3 I<|.k [1,2,3,4,5,12,14,15,49,50,51] I)<|au<|eH [1,2,3,4,5,12,14,15,49,50,51] I<|bq (fun r st=>∃(cs:List Int) (i:Nat),i≤O.reverse.length∧r=O.reverse.length - i∧oU T D d O.reverse cs i∧st=⟨[(1,bn D),(2,num n),(3,num d),(4,num 2),(5,.bb (bC T) 0),(12,av (bG T D d false)),(14,kC (dH (bm T) T.nodes.toNat (2*T.ae.length))),(15,.own 0),(49,.own 1),(50,num O.reverse.length),(51,num i)],[fE cs,fE O.reverse]⟩) O.reverse.length ⟨cs0,0,by omega,by omega,hI0 _,rfl⟩ ?_
   rintro r st ⟨cs,i,hi,rfl,hI,rfl⟩
   have hRl:O.reverse.length≤12:=by simpa using hOl
   refine ab (.a 1 I<|.k [1,2,3,4,5,12,14,15,49,50,51,52] I)<|aj<|ag I (fun hx=>?_) (fun hx=>?_)
   ·have hlt:i<O.reverse.length:=by have:=tt hx;omega
    obtain⟨m,hm⟩:∃m:Nat,O.reverse.getD i 0=(m:Int):=by
     obtain⟨k,hk,_⟩:=(hO.mem _).1 (List.mem_reverse.1 (cr (d:=0) hlt))
     exact⟨k,hk⟩
    obtain⟨hmN,hm0,hf0⟩:=hI.fresh hO hlt hm
    have hcl:=hI.len
    have hrow:=wJ T m (by omega)
    have hnx:=tD T D (bG T D d false) (bP T m) m d hv hf hb1 hb2 hmN hd (fun a ha=>kI ha) (Nat.le_trans (eT T m _) (by omega))
    have hnx:Can Tryz.prog 148 [aP T,bn D,av (bG T D d false),av (bP T m),num m,num d] (· =av (bH T D m d)):=hnx
    have hnl:(bH T D m d).length≤512:=by
     have h1:(bH T D m d).length≤(bP T m).length:=by unfold bH lB;split;simp;exact List.length_filter_le _ _
     exact Nat.le_trans h1 (Nat.le_trans (eT T m _) (by omega))
    have hset:=FJ cs m (by omega)
    have hcr:0≤cs.getD m 0∧cs.getD m 0≤2:=by rw[hf0];split<;>omega
    refine ai<|aj<|au<|ab (.v (aN (i) I) I<|.v (aJ I ((aB _ i hlt).trans (by rw[hm]))) I<|.a 1 I<|.k [1,2,3,4,5,12,14,15,18,49,50,51] I)<|ep mixed (by kernel_rfl) (.a 5 I<|.v [58,59] (aN (m) I (by omega) (by rw[fv];omega)) I I<|.v [60] (aJ I ((tR _ m (by rw[fv];omega)).trans (by rw[hrow]))) I I<|.a 2 I<|.v [55,56,57,61,62,63] (dU I (hnx)) I I<|.a 2 I<|.k [1,2,3,4,5,12,14,15,18,49,50,51,64,65,66] I) ?_
    refine au<|eH [1,2,3,4,5,12,14,15,18,49,50,51,64,65,66] I<|bq (fun r st=>∃k:Nat,k≤(bH T D m d).length∧r=(bH T D m d).length - k∧st=⟨[(1,bn D),(2,num n),(3,num d),(4,num 2),(5,.bb (bC T) 0),(12,av (bG T D d false)),(14,kC (dH (bm T) T.nodes.toNat (2*T.ae.length))),(15,.own 0),(18,num m),(49,.own 1),(50,num O.reverse.length),(51,num i),(64,av (bH T D m d)),(65,num (bH T D m d).length),(66,num k)],[fE (cs.set m (lD T D d (cs.getD m 0) ((bH T D m d).take k))),fE O.reverse]⟩) (bH T D m d).length ⟨0,by omega,by omega,by rw[List.take_zero,zr,hset];rfl⟩ ?_
    rintro r st ⟨k,hk,rfl,rfl⟩
    have hfr:=xu (D:=D) hv hd (cs.getD m 0) hcr.1 hcr.2 ((bH T D m d).take k)
    have hfst:=yJ (T:=T) (D:=D) (d:=d) (cs.getD m 0) (bH T D m d) k
    generalize hd12:lD T D d (cs.getD m 0) ((bH T D m d).take k)=c at hfr hfst
    refine ab (.a 1 I<|.k [1,2,3,4,5,12,14,15,18,49,50,51,64,65,66,67] I)<|aj<|ag I (fun hy=>?_) (fun hy=>?_)
    ·have hkl:k<(bH T D m d).length:=by have:=tt hy;omega
     obtain⟨a,ha,han⟩:=cX (cr (d:=0) hkl)
     have hmem:(a:Int)∈bH T D m d:=by rw[←ha];exact cr hkl
     obtain⟨y,hyh,hyN⟩:=dT hv han.fu
     obtain⟨hcy,hym,_⟩:=hI.next hv hd hO hlt hm hmem hyh
     have hh:=fZ T a han.fu (by omega)
     rw[hyh]at hh
     have hcyr:=kY (D:=D) hv hd y
     have hg1:(cs.set m c).getD y 0=ei T D d y:=by rw[←hcy,List.getD_eq_getElem?_getD,List.getElem?_set,if_neg (fun e=>hym e.symm),←List.getD_eq_getElem?_getD]
     have hg2:(cs.set m c).getD m 0=c:=by rw[List.getD_eq_getElem?_getD,List.getElem?_set,if_pos rfl,if_pos (by omega)];rfl
     have hfst:=hfst a hkl ha
     rw[hyh,Int.toNat_natCast]at hfst
     refine ai<|aj<|au<|ab (.v (aN (k) I) I<|.v (aJ I ((aB _ k hkl).trans (by rw[ha]))) I<|.a 1 I<|.k [1,2,3,4,5,12,14,15,18,20,49,50,51,64,65,66] I)<|ab (.a 3 I<|.c rfl (hh) I<|.v (aN (y) I (by omega) (by simp only[List.length_set];omega)) I<|.v (aJ I ((aB _ y (by simp only[List.length_set];omega)).trans (by rw[hg1]))) I<|.a 1 I<|.k [1,2,3,4,5,12,14,15,18,21,49,50,51,64,65,66] I)<|ab (.a 4 I<|.v (aN (m) I (by omega) (by simp only[List.length_set];omega)) I<|.v (aJ I ((aB _ m (by simp only[List.length_set];omega)).trans (by rw[hg2]))) I<|.v (aU I) I<|.a 1 I<|.k [1,2,3,4,5,12,14,15,18,21,49,50,51,64,65,66,83] I)<|ag I (fun hz=>?_) (fun hz=>?_)
     ·have hv2:lD T D d (cs.getD m 0) ((bH T D m d).take (k+1))=2:=by have:=tt hz;omega
      refine bI<|aw 3 I<|bw (aN (m) I (by omega) (by simp only[List.length_set];omega)) I<|bc ((by first|exact bN I (ba.tk.get I) I I I (by first|omega|(simp;omega))|exact bg I (ba.tk.get I) I I I (by first|omega|(simp;omega)))) I I<|aE [1,2,3,4,5,12,14,15,18,49,50,51,64,65,66] I ?_
      refine aC (.v (aU I) I<|.a 1 I<|.k [1,2,3,4,5,12,14,15,18,49,50,51,64,65,66] I) ?_
      refine⟨(bH T D m d).length - (k+1),by omega,k+1,by omega,rfl,?_⟩
      rw[hv2]
      unfold fE
      simp only[List.length_set,List.set_set]
      rfl
     ·have hv2:lD T D d (cs.getD m 0) ((bH T D m d).take (k+1))=c+ei T D d y:=by have:=ff hz;omega
      refine bI<|aw 2 I<|bw (aN (m) I (by omega) (by simp only[List.length_set];omega)) I<|bw (aJ I ((aB _ m (by simp only[List.length_set];omega)).trans (by rw[hg2]))) I<|aw 1 I<|bw (aU I) I<|bw (aN (m) I (by omega) (by simp only[List.length_set];omega)) I<|bc ((by first|exact bN I (ba.tk.get I) I I I (by first|omega|(simp;omega))|exact bg I (ba.tk.get I) I I I (by first|omega|(simp;omega)))) I I<|aE [1,2,3,4,5,12,14,15,18,49,50,51,64,65,66] I ?_
      refine aC (.v (aU I) I<|.a 1 I<|.k [1,2,3,4,5,12,14,15,18,49,50,51,64,65,66] I) ?_
      refine⟨(bH T D m d).length - (k+1),by omega,k+1,by omega,rfl,?_⟩
      rw[hv2]
      unfold fE
      simp only[List.length_set,List.set_set]
      rfl
    ·have hke:k=(bH T D m d).length:=by have:=ff hy;omega
     refine bd<|aC (.v (aU I) I<|.a 1 I<|.k [1,2,3,4,5,12,14,15,49,50,51] I) ?_
     have hI2:=hI.step hv hd hO hlt hm
     rw[hke,List.take_length]at hd12
     exact⟨O.reverse.length - (i+1),by omega,cs.set m (lD T D d (cs.getD m 0) (bH T D m d)),i+1,by omega,rfl,hI2,by rw[hd12];rfl⟩
   ·have hie:i=O.reverse.length:=by have:=ff hx;omega
    subst hie
    have hres:=hI.done hv hd hO hn
    have hcl:=hI.len
    exact bd<|ab (.a 2 I<|.v (aN (n) I) I<|.v (aJ I ((aB cs n (by omega)).trans (by rw[hres]))) I<|.a 2 I<|.k [10,11] I)<|ao<|⟨_,_,az.of I,ay.pure,by unfold Jy;rw[he,if_pos rfl];rfl⟩
theorem C6(T:ak)(D:List Bool)(n d:Int):fT T D n d=(decide (cu T D n d=0)&&decide ((if cu T D n d=0 then ei T D d.toNat n.toNat else 0)=1)):=by
 unfold fT
 by_cases h:cu T D n d=0
 ·rw[if_pos h]
 ·simp[h]
set_option maxHeartbeats 2000000 in
theorem rN(T:ak)(D:List Bool)(n d:Int)(h12:T.nodes≤12):Can Tryz.prog 152 [aP T,bn D,num n,num d] (· =flag (fT T D n d)):=by
 rw[C6]
 obtain⟨q1,hq1⟩:∃q,decide (cu T D n d=0)=q:=⟨_,rfl⟩
 obtain⟨q2,hq2⟩:∃q,decide ((if cu T D n d=0 then ei T D d.toNat n.toNat else 0)=1)=q:=⟨_,rfl⟩
 rw[hq1,hq2]
 refine aH Tryz.func152 I Tryz.ntmps152 I<|ab (.a 2 I<|.k [1,2,3,4] I)<|ab (.a 4 I<|.c rfl (Bf T D n d h12) I<|.a 5 I<|.k [9,10] I)<|bz 8 (.raw (.bool (q1&&q2))) [] I ?_ ?_
 ·refine .a 1 I<|.v (cf I (hq1)) I<|.a 1 I<|?_
  cases q1
  ·exact .a 4 I<|.k [8] I
  ·exact .a 1 I<|.v (cf I (hq2)) I<|.a 2 I<|.k [8] I
 exact ao<|⟨_,_,az.of I,ay.pure,rfl⟩
set_option maxHeartbeats 2000000 in
theorem HO(l:List Int)(n:Int)(hl:l.length≤100000):Can Tryz.prog 210 [av l,num n] (· =flag (decide (n∈l))):=by
 refine aH Tryz.func210 I Tryz.ntmps210 I<|ab (.a 1 I<|.k [0,1] I)<|aj<|ab (.a 1 I<|.k [0,1,5] I)<|au<|eH [0,1,5] I<|bq (fun r st=>∃i:Nat,i≤l.length∧r=l.length - i∧¬n∈l.take i∧st=⟨[(0,av l),(1,num n),(5,num i)],[]⟩) l.length ⟨0,by omega,by omega,by simp,rfl⟩ ?_
 rintro r st ⟨i,hi,rfl,hno,rfl⟩
 refine aj<|ab (.a 4 I<|.k [0,1,5,9] I)<|ag I (fun hc=>?_) (fun hc=>?_)
 ·have hlt:i<l.length:=by have:=tt hc;omega
  refine ai<|aj<|au<|ab (.a 2 I<|.v (aN (i) I) I<|.v (aJ I (aB l i hlt)) I<|.a 2 I<|.k [0,1,5,17] I)<|ag I (fun hy=>?_) (fun hy=>?_)
  ·have h1:l.getD i 0=n:=tt hy
   exact ab (.a 1 I<|.k [4] I)<|ao<|⟨_,_,az.of I,ay.pure,by rw[show decide (n∈l)=true from decide_eq_true (by rw[←h1];exact cr hlt)];rfl⟩
  ·have h1:¬l.getD i 0=n:=ff hy
   refine ai<|aC (.a 1 I<|.v (aU I) I<|.a 1 I<|.k [0,1,5] I) ?_
   refine⟨l.length - (i+1),by omega,i+1,by omega,rfl,fun h=>?_,rfl⟩
   rw[dK _ _ 0 hlt,List.mem_append,List.mem_singleton]at h
   exact h.elim hno (fun e=>h1 e.symm)
 ·have hie:i=l.length:=by have:=ff hc;omega
  subst hie
  rw[List.take_length]at hno
  exact bd<|ab (.a 1 I<|.k [4] I)<|ao<|⟨_,_,az.of I,ay.pure,by rw[show decide (n∈l)=false from decide_eq_false hno];rfl⟩
structure Ji (L out:List Int) (i:Nat) (b:Int):Prop where
 none:b<0→∀k:Nat,k<i→0≤L.getD k 0→(k:Int)∈out
 some:∀n:Nat,b=(n:Int)→n<i∧0≤L.getD n 0∧¬(n:Int)∈out∧∀k:Nat,k<i→0≤L.getD k 0→¬(k:Int)∈out→L.getD k 0≤L.getD n 0
theorem Ji.no{L out:List Int}{i:Nat}{b:Int}(h:Ji L out i b)(h1:¬(0≤L.getD i 0∧¬(i:Int)∈out∧(b<0∨∃n:Nat,b=(n:Int)∧L.getD n 0<L.getD i 0))):Ji L out (i+1) b:=by
 refine⟨fun hb k hk hk0=>?_,fun n hn=>?_⟩
 ·by_cases hki:k=i
  ·subst hki;exact Classical.byContradiction fun ho=>h1 ⟨hk0,ho,.inl hb⟩
  ·exact h.none hb k (by omega) hk0
 ·obtain⟨a1,a2,a3,a4⟩:=h.some n hn
  refine⟨by omega,a2,a3,fun k hk hk0 hko=>?_⟩
  by_cases hki:k=i
  ·subst hki;exact Int.not_lt.1 fun hl=>h1 ⟨hk0,hko,.inr ⟨n,hn,hl⟩⟩
  ·exact a4 k (by omega) hk0 hko
structure Part (L out:List Int):Prop where
 nodup:out.Nodup
 mem:∀x∈out,∃k:Nat,x=(k:Int)∧k<L.length∧0≤L.getD k 0
 pair:out.Pairwise fun x y=>L.getD y.toNat 0≤L.getD x.toNat 0
 rest:∀x∈out,∀k:Nat,k<L.length→0≤L.getD k 0→¬(k:Int)∈out→L.getD k 0≤L.getD x.toNat 0
theorem Part.len{L out:List Int}(h:Part L out):out.length≤L.length:=by
 have h1:=rU L.length (out.map Int.toNat) (by
  unfold List.Nodup
  rw[List.pairwise_map]
  refine List.Pairwise.imp_of_mem ?_ h.nodup
  intro a b ha hb hne e
  obtain⟨k,rfl,_⟩:=h.mem a ha
  obtain⟨k',rfl,_⟩:=h.mem b hb
  simp only[Int.toNat_natCast]at e
  exact hne (by rw[e])) (fun x hx=>by
  obtain⟨y,hy,rfl⟩:=List.mem_map.1 hx
  obtain⟨k,rfl,hk,_⟩:=h.mem y hy
  simpa using hk)
 simpa using h1
end
section
open Go.RowKit cG Mem
section
variable {P:Program} {kt e:TypeId}
theorem AE(a b:Int):(a==b)=decide (a=b):=Bool.eq_iff_iff.2 (by simp)
theorem Ao(b:Bool)(n:Nat)(hu:P.underlying kt=some (.int .i64))(a:Int)(w:World):(Instr.checkKey b (n+1) kt (.int .i64 a)).run P w= .ok () w:=by
 simp only[Instr.checkKey,Sem.run_bind,run_underlying hu,Result.andThen_ok,Sem.run_pure]
theorem eq_int(n:Nat)(hu:P.underlying kt=some (.int .i64))(a b:Int)(w:World):(Op.equalIn (n+1) kt (.int .i64 a) (.int .i64 b)).run P w= .ok (decide (a=b)) w:=by
 simp only[Op.equalIn,Sem.run_bind,run_underlying hu,Result.andThen_ok,if_true,Sem.run_pure,AE]
theorem I0(hu:P.underlying kt=some (.int .i64)):iN P kt (fun n:Int=>Value.int .i64 n) where
 oK:=fun b a w=>Ao b 9999 hu a w
 eql:=fun a b w=>eq_int _ hu a b w
 now:=⟨_,hu,.inl fun a b=>by simp only[Instr.sameNow,if_true,AE]⟩
 bits:=fun a=>by unfold Instr.sameBits;simp
theorem oR(he:P.underlying e=some (.int .i64)){xs:Array Value}{off:Nat}{v:Value}(hx:xs[off]? =some v)(w:World):(Go.part e xs off).run P w= .ok v w:=by
 simp[Go.part,isAgg,run_underlying he,hx]
abbrev pT(p:Int×Int):Array Value:= #[.int .i64 p.1,.int .i64 p.2]
theorem Ip(he:P.underlying e=some (.int .i64))(a:Int×Int)(w:World):(Go.part e (pT a) 0).run P w= .ok (.int .i64 a.1) w:=oR he rfl w
theorem tJ(he:P.underlying e=some (.int .i64))(a:Int×Int)(w:World):(Go.part e (pT a) 1).run P w= .ok (.int .i64 a.2) w:=oR he rfl w
theorem Em{i:TypeInfo}(hu:P.underlying kt=some (.array 2 e))(he:P.underlying e=some (.int .i64))(hi:P.info? e=some i)(hs:i.size=1)(b:Bool)(n:Nat)(a:Int×Int)(w:World):(Instr.checkKey b (n+1+1) kt (.agg (pT a))).run P w= .ok () w:=by
 have hz:(sizeOf e).run P w= .ok 1 w:=by simp[sizeOf,typeInfo,program,Sem.run,hi,hs]
 have hr:List.range' 0 2=[0,1]:=rfl
 rw[Instr.checkKey]
 simp only[Sem.run_bind,run_underlying hu,Result.andThen_ok]
 simp only[Std.Legacy.Range.forIn_eq_forIn_range',Std.Legacy.Range.size,Nat.sub_zero,Nat.add_one_sub_one,Nat.div_one]
 rw[hr]
 simp only[List.forIn_cons,List.forIn_nil,Sem.run_bind,hz,Result.andThen_ok,Sem.run_pure,Nat.mul_one,Ip he,tJ he,Ao b n he]
theorem Hq{i:TypeInfo}(hu:P.underlying kt=some (.array 2 e))(he:P.underlying e=some (.int .i64))(hi:P.info? e=some i)(hs:i.size=1)(n:Nat)(a b:Int×Int)(w:World):(Op.equalIn (n+1+1) kt (.agg (pT a)) (.agg (pT b))).run P w= .ok (decide (a=b)) w:=by
 have hsz:P.cellsOf e=1:=by simp[Program.cellsOf,hi,hs]
 rw[run_equalIn_array w (n+1) _ _ hu hi,hsz]
 show(Op.eqItems (n+1) e 1 _ _ [0,1]).run P w=_
 simp only[Op.eqItems,Sem.run_bind,Nat.mul_one,Ip he,tJ he,Result.andThen_ok,eq_int n he,Sem.run_pure]
 obtain⟨a1,a2⟩:=a
 obtain⟨b1,b2⟩:=b
 by_cases h1:a1=b1<;>by_cases h2:a2=b2<;>simp[h1,h2,Sem.run_bind,tJ he,eq_int n he,Op.eqItems]
theorem H8{i:TypeInfo}(hu:P.underlying kt=some (.array 2 e))(he:P.underlying e=some (.int .i64))(hi:P.info? e=some i)(hs:i.size=1):iN P kt (fun p:Int×Int=>Value.agg (pT p)) where
 oK:=fun b a w=>Em hu he hi hs b 9998 a w
 eql:=fun a b w=>Hq hu he hi hs 9998 a b w
 now:=⟨_,hu,.inr fun a b=>by simp only[Instr.sameNow]⟩
 bits:=fun a=>by
  have h:=fun(n:Nat) (x:Int)=>show Instr.sameBits n (.int .i64 x) (.int .i64 x)=true by unfold Instr.sameBits;simp
  show Instr.sameBits (9999+1) _ _=true
  rw[Instr.sameBits]
  simp only[List.zip_cons_cons,List.all_cons,h]
  rfl
end
open Net
theorem Gz:vt Tryz.prog 143=some (3,37):=by kernel_rfl
theorem Gc:vt Tryz.prog 144=some (125,4):=by kernel_rfl
theorem Lc:IH Tryz.prog 37=some (.slice none 0 0):=by kernel_rfl
theorem Lm:IH Tryz.prog 4=some (.bool false):=by kernel_rfl
theorem Kw:xh Tryz.prog 37=true:=by kernel_rfl
abbrev HP(n:Int):Value:=.int .i64 n
abbrev Gj(p:Int×Int):Value:=.agg (pT p)
theorem HI:iN Tryz.prog 3 HP:=I0 Tryz.underlying3
theorem HC:iN Tryz.prog 125 Gj:=by
 have h:(Tryz.prog.info? 3).map (·.size)=some 1:=by kernel_rfl
 obtain⟨i,h1,h2⟩:=Option.map_eq_some_iff.1 h
 exact H8 Tryz.underlying125 Tryz.underlying3 h1 h2
theorem Dl(a b:Int):Tryz.prog.built 125 [(0,.int .i64 a),(1,.int .i64 b)]=some #[.int .i64 a,.int .i64 b]:=by kernel_rfl
theorem Di{P:Program}{σ:cg}{t:cn}{o:Oper}{ty:TypeId}{x y:Operand}{a b:Int}(ho:o.op= .build ty #[(0,x),(1,y)])(hx:aG t x=some (num a))(hy:aG t y=some (num b))(hb:P.built ty [(0,.int .i64 a),(1,.int .i64 b)]=some #[.int .i64 a,.int .i64 b]):bE P σ t o (.agg [num a,num b]):=by
 intro F base E ρ w hρ hS hT
 have hrun:=run_build (P:=P) w ty #[(0,.int .i64 a),(1,.int .i64 b)] #[.int .i64 a,.int .i64 b] hb
 have h0:ρ x= .int .i64 a:=ek (aA hρ hT hx)
 have h1:ρ y= .int .i64 b:=ek (aA hρ hT hy)
 have hr:(execOp ρ o).run P w= .ok (.value (.agg #[.int .i64 a,.int .i64 b])) w:=by
  simp only[execOp,ho,Sem.run_bind,List.map_toArray,List.map_cons,List.map_nil,h0,h1,hrun,Result.andThen_ok,Sem.run_pure]
 rw[hr]
 refine bA (.agg #[.int .i64 a,.int .i64 b] _ rfl (fun i x u k1 k2=>?_))
 match i,k1,k2 with
 |0,k1,k2=>simp at k1 k2;subst k1;subst k2;exact .raw _
 |1,k1,k2=>simp at k1 k2;subst k1;subst k2;exact .raw _
 |_+2,k1,k2=>simp at k2
section
variable {κ:Type} [DecidableEq κ]
theorem uG(k:κ)(p:PV):∀l:List (κ×PV),dF k (iL k p l)=some p
 | []=>by simp[iL,dF]
 |(a,q)::l=>by
  unfold iL
  split
  ·rename_i h;simp[dF,h]
  ·rename_i h;simp only[dF,if_neg h];exact uG k p l
theorem FW{P:Program}{σ:cg}{t:cn}{o:Oper}{x y:Operand}{ty tz:TypeId}{m:Option PV}(ho:o.op= .binOp .eql ty x y tz)(hk:xh P ty=true)(hx:aG t x=some (m.getD (.raw (.slice none 0 0))))(hy:aG t y=some (.raw (.slice none 0 0)))(hm:∀v,m=some v→∃n xs,v= .slice n xs∧0<n):bE P σ t o (.raw (.bool m.isNone)):=by
 cases m with
 |none=>exact Hx ho hk hx hy
 |some v=>
  obtain⟨n,xs,rfl,hn⟩:=hm v rfl
  exact oe ho hk hx hy hn
end
def kr(T:ak)(D:List Bool)(dm:List (Int×PV)):Prop:=∀k v,(k,v)∈dm→∃d:Nat,k=(d:Int)∧(d:Int)<T.nodes∧v=av (bG T D d false)
def kO(T:ak)(D:List Bool)(um:List ((Int×Int)×PV)):Prop:=∀k v,(k,v)∈um→v=flag (fT T D k.1 k.2)
theorem kr.pure{T:ak}{D:List Bool}{dm:List (Int×PV)}(h:kr T D dm):lq (some (.mp (gg HP dm))):=fun b hb=>by
 cases hb
 refine⟨fun i u hu=>?_⟩
 have hm:=List.mem_of_getElem? hu
 simp only[gg,List.map_map,List.mem_map,Function.comp]at hm
 obtain⟨⟨k,v⟩,hkv,rfl⟩:=hm
 obtain⟨d,_,_,hv⟩:=h k v hkv
 show IsPure v
 rw[hv]
 infer_instance
theorem kO.pure{T:ak}{D:List Bool}{um:List ((Int×Int)×PV)}(h:kO T D um):lq (some (.mp (gg Gj um))):=fun b hb=>by
 cases hb
 refine⟨fun i u hu=>?_⟩
 have hm:=List.mem_of_getElem? hu
 simp only[gg,List.map_map,List.mem_map,Function.comp]at hm
 obtain⟨⟨k,v⟩,hkv,rfl⟩:=hm
 show IsPure v
 rw[h k v hkv]
 infer_instance
theorem kr.set{T:ak}{D:List Bool}{dm:List (Int×PV)}(h:kr T D dm){d:Nat}(hd:(d:Int)<T.nodes):kr T D (iL (d:Int) (av (bG T D d false)) dm):=fun k v hk=>by
 rcases qW hk with e|e
 ·cases e;exact⟨d,rfl,hd,rfl⟩
 ·exact h k v e
theorem kO.set{T:ak}{D:List Bool}{um:List ((Int×Int)×PV)}(h:kO T D um)(a b:Int):kO T D (iL (a,b) (flag (fT T D a b)) um):=fun k v hk=>by
 rcases qW hk with e|e
 ·cases e;rfl
 ·exact h k v e
theorem kr.look{T:ak}{D:List Bool}{dm:List (Int×PV)}(h:kr T D dm){d:Nat}{v:PV}(hl:dF (d:Int) dm=some v):v=av (bG T D d false):=by
 obtain⟨d',h1,_,h2⟩:=h _ _ (jj hl)
 have:d'=d:=by omega
 subst this
 exact h2
def vy(T:ak)(n:Int)(p:List Int):List Int:=n::p.map fun a=>aS T a.toNat
def vu(T:ak)(p:List Int):List Int:=(List.range (p.length+1)).map fun i=>dw T (p.take i)
theorem u7(T:ak)(n:Int)(p:List Int):(vy T n p).length=p.length+1:=by simp[vy]
theorem AD(T:ak)(p:List Int):(vu T p).length=p.length+1:=by simp[vu]
theorem Eu(T:ak)(n:Int)(p:List Int)(k:Nat)(h:k<p.length):vy T n (p.take (k+1))=vy T n (p.take k)++[aS T (p.getD k 0).toNat]:=by
 rw[dK p k 0 h];simp[vy]
theorem Ew(T:ak)(p:List Int)(k:Nat)(h:k<p.length):vu T (p.take (k+1))=vu T (p.take k)++[dw T (p.take (k+1))]:=by
 unfold vu
 rw[show(p.take (k+1)).length+1=(p.take k).length+1+1 by simp;omega,List.range_succ,List.map_append]
 congr 1
 ·refine List.map_congr_left fun i hi=>?_
  have:=List.mem_range.1 hi
  rw[List.take_take,List.take_take,Nat.min_eq_left (by simp at this;omega),Nat.min_eq_left (by simp at this;omega)]
 ·simp only[List.map_cons,List.map_nil,List.take_take]
  rw[Nat.min_eq_left (by simp;omega),show(p.take k).length+1=k+1 by simp;omega]
theorem vb(T:ak)(n:Int)(p:List Int)(i:Nat)(h:i≤p.length):(vy T n p).getD i 0=cO T n (p.take i):=by
 cases i with
 |zero=>rfl
 |succ i=>
  rw[gZ T n p i (by omega)]
  simp only[vy,List.getD_cons_succ]
  rw[List.getD_eq_getElem?_getD,List.getElem?_map,List.getElem?_eq_getElem (by omega),List.getD_eq_getElem?_getD,List.getElem?_eq_getElem (by omega)]
  rfl
theorem Am(T:ak)(p:List Int)(i:Nat)(h:i≤p.length):(vu T p).getD i 0=dw T (p.take i):=by
 unfold vu
 rw[List.getD_eq_getElem?_getD,List.getElem?_map,List.getElem?_range (by omega)]
 rfl
def fU(T:ak)(D:List Bool)(n:Int)(p:List Int):Int:=if(aq T&&bW T D)=true then(if fH T n p=0 then(if p.any (fun a=>aQ D a.toNat) then 7 else 0) else fH T n p) else 1
abbrev Lj(T:ak)(D:List Bool)(p:List Int)(i:Nat):Option cK:=some (.cells 146 (bC T++[bn D,av p,.own i,.own (i+1),.own (i+2),.own (i+3)]))
def B0(T:ak)(D:List Bool)(p ns cs:List Int)(dm:List (Int×PV))(um:List ((Int×Int)×PV)):cg:=
 [fE ns,fE cs,some (.mp (gg HP dm)),some (.mp (gg Gj um)),Lj T D p 0]
theorem nf{T:ak}:∀ {f:Bool} {n:Int} {l:List Int},eG T f n l=0→∀a∈l,eQ T a=true
 |f,n,[],_,a,ha=>by cases ha
 |f,n,b::l,h,a,ha=>by
  simp only[eG]at h
  split at h
  ·omega
  ·split at h
   ·omega
   ·rename_i h1 _
    rcases List.mem_cons.1 ha with rfl|ha
    ·simpa using h1
    ·exact nf h a ha
theorem nI{T:ak}{n:Int}{p:List Int}(h:fH T n p=0):aq T=true∧bu T n=true∧eG T true n p=0:=by
 unfold fH at h
 split at h
 ·rename_i h1
  split at h
  ·rename_i h2;exact⟨h1,h2,h⟩
  ·omega
 ·omega
theorem iu{T:ak}(hv:aq T=true){p:List Int}(ha:∀a∈p,eQ T a=true):∀k,k≤p.length→0≤dw T (p.take k)∧dw T (p.take k)≤65535*k
 |0,_=>by simp[ke]
 |k+1,h=>by
  have:=iu hv ha k (by omega)
  rw[nH T p k (by omega)]
  have:=(kg hv (ha _ (cr (d:=0) (show k<p.length by omega)))).1
  omega
set_option maxHeartbeats 2000000 in
theorem Ae(T:ak)(D:List Bool)(p:List Int)(n:Int)(hp:p.length≤1000)(hlk:T.ae.length≤256):bU Tryz.prog 111 [aP T,bn D,av p,num n] [] (fun r σ'=>(fU T D n p≠0∧r= .tuple [.raw (.pointer none),num (fU T D n p)])∨(fU T D n p=0∧r= .tuple [.ptr 4 0,num 0]∧σ'=B0 T D p (vy T n p) (vu T p) [] [])):=by
 obtain⟨q1,hq1⟩:∃q,aq T=q:=⟨_,rfl⟩
 obtain⟨q2,hq2⟩:∃q,bW T D=q:=⟨_,rfl⟩
 refine ct Tryz.func111 I Tryz.ntmps111 I<|ab (.a 3 I<|.k [1,2,3,4] I)<|aj<|bz 25 (.raw (.bool ((!q1)|| !q2))) [1,2,3,4] I ?_ ?_
 ·refine .a 1 I<|.c rfl (hq1▸eJ T) I<|.a 2 I<|?_
  cases q1
  ·exact .a 5 I<|.k [25,1,2,3,4] I
  ·exact .a 2 I<|.c rfl (hq2▸me T D (by omega)) I<|.a 2 I<|.k [25,1,2,3,4] I
 refine ag I (fun hc=>?_) (fun hc=>?_)
 ·have he:fU T D n p=1:=by unfold fU;rw[hq1,hq2];cases q1<;>cases q2<;>first|rfl|cases hc
  exact ab (.a 2 I<|.k [8,9] I)<|ao<|⟨_,az.of I,.inl ⟨by rw[he];decide,by rw[he];rfl⟩⟩
 ·have hv:aq T=true:=by rw[hq1];cases q1;cases hc;rfl
  have hf:bW T D=true:=by rw[hq2];cases q2;cases q1<;>cases hc;rfl
  have hvf:(aq T&&bW T D)=true:=by rw[hv,hf];rfl
  refine ai<|aj<|ab (.a 3 I<|.c rfl (wD T n p (by omega)) I<|.a 7 I<|.k [1,2,3,4,12] I)<|ab (.a 2 I<|.k [1,2,3,4,12,35] I)<|ag I (fun hx=>?_) (fun hx=>?_)
  ·have hx1:fH T n p≠0:=tt hx
   have he:fU T D n p=fH T n p:=by unfold fU;rw[if_pos hvf,if_neg hx1]
   exact ab (.a 3 I<|.k [8,9] I)<|ao<|⟨_,az.of I,.inl ⟨by rw[he];exact hx1,by rw[he];rfl⟩⟩
  ·have hx1:fH T n p=0:=Classical.byContradiction (ff hx)
   obtain⟨_,hn,hw⟩:=nI hx1
   have ha:=nf hw
   have hcb:=iu hv ha
   refine ai<|aO<|aw 4 I<|b7 (gO (xs:=[_]) I (ba.sl.get I) ⟨Nat.le_of_ble_eq_true rfl,Nat.le_of_ble_eq_true rfl⟩ rfl rfl) I<|b7 (gO (xs:=[_]) I (ba.sl.get I) ⟨Nat.le_of_ble_eq_true rfl,Nat.le_of_ble_eq_true rfl⟩ rfl rfl) I<|b7 (o7 HP rfl) I<|b7 (o7 Gj rfl) I<|aw 1 I<|b7 (fD I I I) I<|aw 1 I<|aE [1,2,4,13] I ?_
   refine ab (.a 1 I<|.k [1,2,4,13,14] I)<|aj<|ab (.a 3 I<|.k [1,4,13,14,47,48,49] I)<|au<|eH [1,4,13,14,47,48,49] I<|bq (fun r st=>∃k:Nat,k≤p.length∧r=p.length - k∧(∀a∈p.take k,aQ D a.toNat=false)∧st=⟨[(1,bn D),(4,.bb (bC T) 0),(13,.ptr 4 0),(14,num (dw T (p.take k))),(47,av p),(48,num p.length),(49,num k)],B0 T D p (vy T n (p.take k)) (vu T (p.take k)) [] []⟩) p.length ⟨0,by omega,by omega,by simp,rfl⟩ ?_
   rintro r st ⟨k,hk,rfl,hdn,rfl⟩
   have hck:=hcb k hk
   have hl1:=u7 T n (p.take k)
   have hl2:=AD T (p.take k)
   have hl3:(p.take k).length=k:=by simp;omega
   refine ab (.a 1 I<|.k [1,4,13,14,47,48,49,50] I)<|aj<|ag I (fun hy=>?_) (fun hy=>?_)
   ·have hlt:k<p.length:=by have:=tt hy;omega
    have hmem:=cr (d:=0) hlt
    have hab:=ha _ hmem
    obtain⟨hac,m,hm,hmN⟩:=kg hv hab
    have hst1:=Eu T n p k hlt
    have hst2:=Ew T p k hlt
    have hst3:=nH T p k hlt
    have hab2:=hab
    simp only[eQ,decide_eq_true_eq]at hab2
    obtain⟨a,hae⟩:∃a:Nat,p.getD k 0=(a:Int):=⟨(p.getD k 0).toNat,by omega⟩
    have ham:a<2*T.ae.length:=by omega
    have hD:D.length=0∨a<D.length:=by simp only[bW,decide_eq_true_eq]at hf;omega
    rw[hae,Int.toNat_natCast]at hm hac hst1 hst3
    have hh:=fZ T a ham (by omega)
    rw[hm]at hh
    refine ai<|aj<|au<|ab (.v (aN (k) I) I<|.v (aJ I ((aB p k hlt).trans (by rw[hae]))) I<|.a 1 I<|.k [1,4,13,14,16,47,48,49] I)<|aj<|ab (.a 2 I<|.c rfl (jy D a hD) I<|.k [1,4,13,14,16,47,48,49,55] I)<|ag I (fun hz=>?_) (fun hz=>?_)
    ·have he:fU T D n p=7:=by
      unfold fU
      rw[if_pos hvf,if_pos hx1,if_pos]
      exact List.any_eq_true.2 ⟨_,hmem,by rw[hae];exact hz⟩
     exact ab (.a 2 I<|.k [8,9] I)<|ao<|⟨_,az.of I,.inl ⟨by rw[he];decide,by rw[he];rfl⟩⟩
    ·have hdn2:∀a∈p.take (k+1),aQ D a.toNat=false:=fun x hx=>by
      rw[dK p k 0 hlt]at hx
      rcases List.mem_append.1 hx with h|h
      ·exact hdn x h
      ·simp only[List.mem_singleton]at h;rw[h,hae];exact hz
     refine ai<|ab (.a 3 I<|.c rfl (mn T a ham) I<|.v (aU I (hn:=by unfold In64;omega)) I<|.a 1 I<|.k [1,4,13,14,16,47,48,49] I)<|iw 9 20 mixed (
      .late [13] I (ju rfl rfl) inferInstance rfl rfl<|
      .val [13] I (aZ I) I I<|
      .val [62] I (aZ I) I I<|
      .val [63] I (aZ I) I I<|
      .val [64] I (aZ I) I I<|
      .val [4] I (aZ I) I I<|
      .val [16] I (aZ I) I I<|
      .val [66,67] I (dU I (hh)) I I<|
      .val [68] I (aZ I) I I<|
      .nil) (by kernel_rfl) I I (aY (ks:=[1,4,13,14,47,48,49,61,65,69]) I) ?_
     refine b7 (bh I (ba.rk.get I) I I I I (by unfold maxLen;omega)) I<|aw 3 I ?_
     refine eR [5,1,2,3,4] (.c 1<|.c 4<|.c 13<|.c 14<|.c 47<|.c 48<|.c 49<|.nil) (.kept rfl (.fF rfl (dE _ _))<|.kept rfl (.row aI.pure)<|.same (kr.pure (T:=T) (D:=D) (dm:=[]) (fun _ _ h=>by cases h)) I<|.same (kO.pure (T:=T) (D:=D) (um:=[]) (fun _ _ h=>by cases h)) I<|.kept rfl (.cells (aI.c<|aI.c<|aI.c<|aI.c<|aI.c<|aI.c<|aI.c<|aI.c<|aI.c<|aI.nil))<|.nil) I I (bp ?_)
     refine bI<|aw 7 I<|b7 (bh I (ba.rk.get I) I I I I (by unfold maxLen;omega)) I<|aw 3 I ?_
     refine eR [0,5,2,3,4] (.c 1<|.c 4<|.c 13<|.c 14<|.c 47<|.c 48<|.c 49<|.nil) (.kept rfl (.row aI.pure)<|.kept rfl (.fF rfl (dE _ _))<|.same (kr.pure (T:=T) (D:=D) (dm:=[]) (fun _ _ h=>by cases h)) I<|.same (kO.pure (T:=T) (D:=D) (um:=[]) (fun _ _ h=>by cases h)) I<|.kept rfl (.cells (aI.c<|aI.c<|aI.c<|aI.c<|aI.c<|aI.c<|aI.c<|aI.c<|aI.c<|aI.nil))<|.nil) I I (bp ?_)
     refine aC (.v (aU I) I<|.a 1 I<|.k [1,4,13,14,47,48,49] I) ?_
     refine⟨p.length - (k+1),by omega,k+1,by omega,rfl,hdn2,?_⟩
     rw[hst1,hst2,hst3,hm]
     unfold B0 fE
     simp only[List.length_append,List.length_singleton]
     rfl
   ·have hke:k=p.length:=by have:=ff hy;omega
    subst hke
    rw[List.take_length]at hdn
    refine bd<|ab (.a 3 I<|.k [8,9] I)<|ao<|⟨_,az.of I,.inr ⟨?_,rfl,by rw[List.take_length]⟩⟩
    unfold fU
    rw[if_pos hvf,if_pos hx1,if_neg]
    intro h
    obtain⟨x,hx,hx2⟩:=List.any_eq_true.1 h
    rw[hdn x hx]at hx2
    cases hx2
noncomputable def fI(T:ak)(D:List Bool)(n:Int)(p:List Int)(i j:Nat):Bool:=
 decide (dN T D (cO T n (p.take j)).toNat (cO T n (p.take i)).toNat=dw T (p.take j) - dw T (p.take i))&&fT T D (cO T n (p.take i)) (cO T n (p.take j))
theorem cE{T:ak}(hv:aq T=true){n:Int}(hn:bu T n=true){p:List Int}(ha:∀a∈p,eQ T a=true)(i:Nat)(hi:i≤p.length):∃u:Nat,cO T n (p.take i)=(u:Int)∧(u:Int)<T.nodes:=by
 cases i with
 |zero=>
  obtain⟨h0,h1⟩:=aT.1 hn
  obtain⟨u,hu⟩:=Int.eq_ofNat_of_zero_le h0
  exact⟨u,hu,by rw[←hu];exact h1⟩
 |succ i=>
  rw[gZ T n p i (by omega)]
  exact(kg hv (ha _ (cr (d:=0) (show i<p.length by omega)))).2
theorem vQ{T:ak}{D:List Bool}(hv:aq T=true)(hf:bW T D=true){d:Nat}(hd:(d:Int)<T.nodes):cD T D [(d:Int)]=0:=by
 unfold cD
 rw[hv,hf]
 have:bu T (d:Int)=true:=aT.2 ⟨by omega,hd⟩
 simp[this]
set_option maxHeartbeats 2000000 in
theorem xr(T:ak)(D:List Bool)(p:List Int)(n:Int)(dm:List (Int×PV))(um:List ((Int×Int)×PV))(x:Option cK)(hx:lq x)(hv:aq T=true)(hf:bW T D=true)(h12:T.nodes≤12)(hn:bu T n=true)(ha:∀a∈p,eQ T a=true)(hp:p.length≤1000)(i j:Nat)(hi:i≤p.length)(hj:j≤p.length)(hdm:kr T D dm)(hum:kO T D um):
    bU Tryz.prog 112 [.ptr 4 0,num i,num j] (B0 T D p (vy T n p) (vu T p) dm um++[x]) (fun r σ'=>r=flag (fI T D n p i j)∧∃dm' um',kr T D dm'∧kO T D um'∧σ'=B0 T D p (vy T n p) (vu T p) dm' um'++[x]):=by
  obtain⟨u,hu,huN⟩:=cE hv hn ha i hi
  obtain⟨y,hy,hyN⟩:=cE hv hn ha j hj
  have hcv:fI T D n p i j=(decide (dN T D y u=dw T (p.take j) - dw T (p.take i))&&fT T D u y):=by unfold fI;rw[hu,hy,Int.toNat_natCast,Int.toNat_natCast]
  rw[hcv]
  obtain⟨hb1,hb2⟩:=dv (D:=D) hv (dir:=false) hyN
  have hS:=aM hv
  have hNp:=hS.nodes
  have hdi:Can Tryz.prog 151 [aP T,bn D,num y] (· = .tuple [av (bG T D y false),num 0]):=by
    have h:=rj T D (y:Int)
    rw[vQ hv hf hyN]at h
    exact h
  have hci:=iu hv ha i hi
  have hcj:=iu hv ha j hj
  have hl1:=u7 T n p
  have hl2:=AD T p
  have hgi:=vb T n p i hi
  have hgj:=vb T n p j hj
  have hki:=Am T p i hi
  have hkj:=Am T p j hj
  rw[hu]at hgi
  rw[hy]at hgj
  have hmn:∀v,dF (y:Int) dm=some v→∃n xs,v= .slice n xs∧0<n:=fun v h=>⟨_,_,hdm.look h,by omega⟩
  refine ct Tryz.func112 I Tryz.ntmps112 I<|ab (.a 1 I<|.k [0,1,2] I)<|ep mixed (by kernel_rfl) (.a 5 I<|.v [15,16] (aN (i) I) I I<|.v [17] (aJ I ((aB _ i (by omega)).trans (by rw[hgi]))) I I<|.a 5 I<|.v [22,23] (aN (j) I) I I<|.v [24] (aJ I ((aB _ j (by omega)).trans (by rw[hgj]))) I I<|.a 2 I<|.k [0,1,2,7,8] I) ?_
  refine aj<|ab (.a 5 I<|.v (vR HI rfl Gz Lc rfl rfl rfl (pN _) I) I<|.v (FW I Kw rfl rfl hmn) I<|.k [0,1,2,7,8,32] I)<|ag I (fun h1=>?_) (fun h1=>?_)
  · obtain ⟨dm1, hdm1⟩ : ∃ z, iL (y : Int) (av (bG T D y false)) dm = z := ⟨_, rfl⟩
    have hdm2:kr T D dm1:=by rw[←hdm1];exact hdm.set hyN
    have hlk:dF (y:Int) dm1=some (av (bG T D y false)):=by rw[←hdm1];exact uG _ _ _
    refine dL 18 20 mixed (
      .val [0] I (aZ I) I I<|
      .val [34] I (aZ I) I I<|
      .val [35] I (aZ I) I I<|
      .val [36] I (aZ I) I I<|
      .val [8] I (aZ I) I I<|
      .val [0] I (aZ I) I I<|
      .val [39] I (aZ I) I I<|
      .val [40] I (aZ I) I I<|
      .val [41] I (aZ I) I I<|
      .val [0] I (aZ I) I I<|
      .val [43] I (aZ I) I I<|
      .val [44] I (aZ I) I I<|
      .val [45] I (aZ I) I I<|
      .val [8] I (aZ I) I I<|
      .val [42,46,47] I (dU I (hdi)) I I<|
      .val [48] I (aZ I) I I<|
      .val [33] I (aZ I) I I<|
      .late [33] I (tp rfl rfl rfl) inferInstance rfl rfl<|
      .nil) (by kernel_rfl) I I (aY (ks:=[0,1,2,7,8,37,38,49]) I) ?_
    refine bc (oy HI rfl Gz rfl rfl rfl (pN _) I) I I<|aE [0,1,2,7,8] I ?_
    refine eF (σ':=B0 T D p (vy T n p) (vu T p) dm1 um++[x]) (by rw[←hdm1];rfl) ?_
    refine aj<|ep mixed (by kernel_rfl) (.a 5 I<|.v [54,55] (vR HI rfl Gz Lc rfl rfl rfl (pN _) (by rw[hlk])) I I<|.a 1 I<|.v [56,57] (aN (u) I) I I<|.v [58] (aJ I (aB _ u (by omega))) I I<|.a 5 I<|.v [63,64] (aN (j) I) I I<|.v [65] (aJ I ((aB _ j (by omega)).trans (by rw[hkj]))) I I<|.a 5 I<|.v [70,71] (aN (i) I) I I<|.v [72] (aJ I ((aB _ i (by omega)).trans (by rw[hki]))) I I<|.v [66,73] (aU I) I I<|.a 1 I<|.k [0,7,8,75] I) ?_
    refine ag I (fun h2=>?_) (fun h2=>?_)
    · have h3:dN T D y u≠dw T (p.take j) - dw T (p.take i):=tt h2
      refine ab (.a 1 I<|.k [6] I)<|ao<|⟨_,az.of I,?_,_,_,hdm2,hum,rfl⟩
      rw[decide_eq_false h3]
      rfl
    · have h3:dN T D y u=dw T (p.take j) - dw T (p.take i):=Classical.byContradiction (ff h2)
      obtain⟨b,hb⟩:∃b:Bool,(dF ((u:Int),(y:Int)) um).getD (.raw (.bool false))=flag b:=by
        cases h:dF ((u:Int),(y:Int)) um with
        |none=>exact⟨false,rfl⟩
        |some v=>exact⟨_,hum _ _ (jj h)⟩
      refine ai<|aO<|aw 2 I<|bw (Di I I I (Dl _ _)) I<|aw 2 I<|aE [0,7,8,9] I ?_
      refine eF (σ':=B0 T D p (vy T n p) (vu T p) dm1 um++[x,some (.cells 125 [num u,num y])]) I ?_
      refine ep mixed (by kernel_rfl) (.a 5 I<|.v [83,84] (Au HC rfl Gc Lm rfl rfl rfl (qt _ _) hb rfl) I I<|.a 5 I<|.k [0,7,8,9,10,11] I) ?_
      refine aj<|ab (.a 2 I<|.k [0,7,8,9,10,89] I)<|ag I (fun h4=>?_) (fun h4=>?_)
      · obtain⟨um1,hum1⟩:∃z,iL ((u:Int),(y:Int)) (flag (fT T D u y)) um=z:=⟨_,rfl⟩
        have hum2:kO T D um1:=by rw[←hum1];exact hum.set u y
        refine ep mixed (by kernel_rfl) (.a 10 I<|.v [93,97,98,99] (dU I (rN T D u y h12)) I I<|.a 1 I<|.k [0,9,10] I) ?_
        refine dL 6 20 mixed (
          .val [0] I (aZ I) I I<|
          .val [101] I (aZ I) I I<|
          .val [102] I (aZ I) I I<|
          .val [103] I (aZ I) I I<|
          .val [9] I (aZ I) I I<|
          .val [10] I (aZ I) I I<|
          .nil) (by kernel_rfl) I I (aY (ks:=[10,104,105,106]) I) ?_
        refine bc (oy HC (k:=((u:Int),(y:Int))) I Gc rfl rfl rfl (qt (.int .i64 (u:Int)) (.int .i64 (y:Int))) I) I I<|aE [10] I ?_
        refine eF (σ':=B0 T D p (vy T n p) (vu T p) dm1 um1++[x,some (.cells 125 [num u,num y])]) (by rw[←hum1];rfl) ?_
        obtain⟨b,hbu⟩:∃b,b=fT T D u y:=⟨_,rfl⟩
        refine ab (.a 2 I<|.k [6] I)<|dI [0,1,2,3,4,5] (.c 6<|.nil) (.kept rfl (.row aI.pure)<|.kept rfl (.row aI.pure)<|.same (kr.pure hdm2) I<|.same (kO.pure hum2) I<|.kept rfl (.cells (aI.c<|aI.c<|aI.c<|aI.c<|aI.c<|aI.c<|aI.c<|aI.c<|aI.c<|aI.nil))<|.same hx rfl<|.nil) I I ?_
        refine ao<|⟨_,az.of I,?_,_,_,hdm2,hum2,rfl⟩
        rw[decide_eq_true h3,Bool.true_and]
        first
          |rfl
          |(rw[hbu];rfl)
      · have hbu:b=fT T D u y:=by
          cases h:dF ((u:Int),(y:Int)) um with
          |none=>rw[h]at h4;cases h4
          |some v=>
            rw[h,hum _ _ (jj h)]at hb
            have:=hb
            simp only[Option.getD_some]at this
            cases this
            rfl
        have hum2:=hum
        obtain⟨um1,hum1⟩:∃z,z=um:=⟨_,rfl⟩
        subst hum1
        refine ai<|ab (.a 2 I<|.k [6] I)<|dI [0,1,2,3,4,5] (.c 6<|.nil) (.kept rfl (.row aI.pure)<|.kept rfl (.row aI.pure)<|.same (kr.pure hdm2) I<|.same (kO.pure hum2) I<|.kept rfl (.cells (aI.c<|aI.c<|aI.c<|aI.c<|aI.c<|aI.c<|aI.c<|aI.c<|aI.c<|aI.nil))<|.same hx rfl<|.nil) I I ?_
        refine ao<|⟨_,az.of I,?_,_,_,hdm2,hum2,rfl⟩
        rw[decide_eq_true h3,Bool.true_and]
        first
          |rfl
          |(rw[hbu];rfl)
  · obtain ⟨v, hv1⟩ : ∃ v, dF (y : Int) dm = some v := by
      cases h:dF (y:Int) dm with
      |none=>rw[h]at h1;cases h1
      |some v=>exact⟨v,rfl⟩
    have hlk:dF (y:Int) dm=some (av (bG T D y false)):=by rw[hv1,hdm.look hv1]
    have hdm2:=hdm
    obtain⟨dm1,hdm1⟩:∃z,z=dm:=⟨_,rfl⟩
    subst hdm1
    refine ai<|aj<|ep mixed (by kernel_rfl) (.a 5 I<|.v [54,55] (vR HI rfl Gz Lc rfl rfl rfl (pN _) (by rw[hlk])) I I<|.a 1 I<|.v [56,57] (aN (u) I) I I<|.v [58] (aJ I (aB _ u (by omega))) I I<|.a 5 I<|.v [63,64] (aN (j) I) I I<|.v [65] (aJ I ((aB _ j (by omega)).trans (by rw[hkj]))) I I<|.a 5 I<|.v [70,71] (aN (i) I) I I<|.v [72] (aJ I ((aB _ i (by omega)).trans (by rw[hki]))) I I<|.v [66,73] (aU I) I I<|.a 1 I<|.k [0,7,8,75] I) ?_
    refine ag I (fun h2=>?_) (fun h2=>?_)
    · have h3:dN T D y u≠dw T (p.take j) - dw T (p.take i):=tt h2
      refine ab (.a 1 I<|.k [6] I)<|ao<|⟨_,az.of I,?_,_,_,hdm2,hum,rfl⟩
      rw[decide_eq_false h3]
      rfl
    · have h3:dN T D y u=dw T (p.take j) - dw T (p.take i):=Classical.byContradiction (ff h2)
      obtain⟨b,hb⟩:∃b:Bool,(dF ((u:Int),(y:Int)) um).getD (.raw (.bool false))=flag b:=by
        cases h:dF ((u:Int),(y:Int)) um with
        |none=>exact⟨false,rfl⟩
        |some v=>exact⟨_,hum _ _ (jj h)⟩
      refine ai<|aO<|aw 2 I<|bw (Di I I I (Dl _ _)) I<|aw 2 I<|aE [0,7,8,9] I ?_
      refine eF (σ':=B0 T D p (vy T n p) (vu T p) dm1 um++[x,some (.cells 125 [num u,num y])]) I ?_
      refine ep mixed (by kernel_rfl) (.a 5 I<|.v [83,84] (Au HC rfl Gc Lm rfl rfl rfl (qt _ _) hb rfl) I I<|.a 5 I<|.k [0,7,8,9,10,11] I) ?_
      refine aj<|ab (.a 2 I<|.k [0,7,8,9,10,89] I)<|ag I (fun h4=>?_) (fun h4=>?_)
      · obtain⟨um1,hum1⟩:∃z,iL ((u:Int),(y:Int)) (flag (fT T D u y)) um=z:=⟨_,rfl⟩
        have hum2:kO T D um1:=by rw[←hum1];exact hum.set u y
        refine ep mixed (by kernel_rfl) (.a 10 I<|.v [93,97,98,99] (dU I (rN T D u y h12)) I I<|.a 1 I<|.k [0,9,10] I) ?_
        refine dL 6 20 mixed (
          .val [0] I (aZ I) I I<|
          .val [101] I (aZ I) I I<|
          .val [102] I (aZ I) I I<|
          .val [103] I (aZ I) I I<|
          .val [9] I (aZ I) I I<|
          .val [10] I (aZ I) I I<|
          .nil) (by kernel_rfl) I I (aY (ks:=[10,104,105,106]) I) ?_
        refine bc (oy HC (k:=((u:Int),(y:Int))) I Gc rfl rfl rfl (qt (.int .i64 (u:Int)) (.int .i64 (y:Int))) I) I I<|aE [10] I ?_
        refine eF (σ':=B0 T D p (vy T n p) (vu T p) dm1 um1++[x,some (.cells 125 [num u,num y])]) (by rw[←hum1];rfl) ?_
        obtain⟨b,hbu⟩:∃b,b=fT T D u y:=⟨_,rfl⟩
        refine ab (.a 2 I<|.k [6] I)<|dI [0,1,2,3,4,5] (.c 6<|.nil) (.kept rfl (.row aI.pure)<|.kept rfl (.row aI.pure)<|.same (kr.pure hdm2) I<|.same (kO.pure hum2) I<|.kept rfl (.cells (aI.c<|aI.c<|aI.c<|aI.c<|aI.c<|aI.c<|aI.c<|aI.c<|aI.c<|aI.nil))<|.same hx rfl<|.nil) I I ?_
        refine ao<|⟨_,az.of I,?_,_,_,hdm2,hum2,rfl⟩
        rw[decide_eq_true h3,Bool.true_and]
        first
          |rfl
          |(rw[hbu];rfl)
      · have hbu:b=fT T D u y:=by
          cases h:dF ((u:Int),(y:Int)) um with
          |none=>rw[h]at h4;cases h4
          |some v=>
            rw[h,hum _ _ (jj h)]at hb
            have:=hb
            simp only[Option.getD_some]at this
            cases this
            rfl
        have hum2:=hum
        obtain⟨um1,hum1⟩:∃z,z=um:=⟨_,rfl⟩
        subst hum1
        refine ai<|ab (.a 2 I<|.k [6] I)<|dI [0,1,2,3,4,5] (.c 6<|.nil) (.kept rfl (.row aI.pure)<|.kept rfl (.row aI.pure)<|.same (kr.pure hdm2) I<|.same (kO.pure hum2) I<|.kept rfl (.cells (aI.c<|aI.c<|aI.c<|aI.c<|aI.c<|aI.c<|aI.c<|aI.c<|aI.c<|aI.nil))<|.same hx rfl<|.nil) I I ?_
        refine ao<|⟨_,az.of I,?_,_,_,hdm2,hum2,rfl⟩
        rw[decide_eq_true h3,Bool.true_and]
        first
          |rfl
          |(rw[hbu];rfl)
end
end PW
end Go.Proofs.YtnegbdpggideiaaGreatDoor
