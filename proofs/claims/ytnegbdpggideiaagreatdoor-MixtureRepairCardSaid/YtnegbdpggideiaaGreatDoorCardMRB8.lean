/- Texts of the proof, part 8. -/
import Derived.MapKept
import Derived.Scope
import Derived.Lib.SliceRun
import Derived.ChangeKeysEq
import Derived.Test.YtnegbdpggideiaaGreatDoorCardMRB7
set_option linter.unusedVariables false
set_option linter.unusedSimpArgs false
set_option maxRecDepth 10000
set_option maxHeartbeats 1000000
namespace Go.Proofs.YtnegbdpggideiaaGreatDoor
namespace PW
open Go.RowKit cH Mem Net
section
variable {P:Program} {σ:cm} {t:cd} {o:Oper}
theorem zQ{src dst:TypeId}{x:Operand}{k k':IntKind}{a c:Int}{ty:TypeDesc}(ho:o.op= .convert src dst x)(hs:P.underlying src=some ty)(hd:P.underlying dst=some (.int k'))(hx:aD t x=some (.raw (.int k a)))(hc:k'.wrap a=c):br P σ t o (.raw (.int k' c)):=by
 intro F base E ρ w hρ _ hT
 have h1:=ay hρ hT hx
 generalize hz:ρ x=z at h1
 cases h1
 have h2:(convert src dst (.int k a)).run P w= .ok (.int k' c) w:=by
  simp[convert,Sem.run_bind,run_underlying hs,run_underlying hd,Conv.intToInt,hc]
 simp only[execOp,ho,hz,Sem.run_bind,h2]
 exact bw (.raw _)
theorem Gr{ty:TypeId}{x ix:Operand}{s:ByteArray}{k:IntKind}{i:Nat}{c:UInt8}(ho:o.op= .index ty x ix)(hu:P.underlying ty=some .string)(hx:aD t x=some (.raw (.string s)))(hix:aD t ix=some (.raw (.int k i)))(h3:s[i]? =some c):br P σ t o (.raw (.int .u8 c.toNat)):=by
 intro F base E ρ w hρ _ hT
 have h1:=ay hρ hT hx
 have h1':=ay hρ hT hix
 generalize hz:ρ x=z at h1
 generalize hz':ρ ix=z' at h1'
 cases h1
 cases h1'
 have h2:(Instr.index ty (.string s) (.int k i)).run P w= .ok (.int .u8 c.toNat) w:=by
  have h4:(asIntOf (.int k (i:Int))).run P w= .ok (k,(i:Int)) w:=rfl
  simp[Instr.index,Sem.run_bind,run_underlying hu,h3,h4]
 simp only[execOp,ho,hz,hz',Sem.run_bind,h2]
 exact bw (.raw _)
theorem FP{N L:Nat}{x y:Code}{st:St}{Q:Exit→St→Prop}{b:Bool}(h:W P N L (if b then x else y) st Q):W P N L (.cond (.const (.bool b)) x y) st Q:=fun F base E₀ w₀ E a w hcm hs=>
 wp_cond_split (show a.eval (.const (.bool b))= .bool b from rfl) (fun hb=>by subst hb;exact h F base E₀ w₀ E a w hcm hs) (fun hb=>by subst hb;exact h F base E₀ w₀ E a w hcm hs)
end
theorem u8_in(c:UInt8):In64 (c.toNat:Int):=by have:=c.toNat_lt;unfold In64;omega
theorem IV(c:UInt8):In64 (0+(c.toNat:Int)):=by have:=c.toNat_lt;unfold In64;omega
theorem GB(n:Nat)(h:n≤255):IntKind.u8.wrap (n:Int)=(n:Int):=by rw[IntKind.wrap_u8];omega
def wX(a b:Int):Int:=if a<b then -1 else if b<a then 1 else 0
theorem tM(a:Int):Can Tryz.prog 226 [num a] (· =flag false):=by
 exact aE Tryz.func226 rfl Tryz.ntmps226 rfl<|ab (.a 1 rfl<|.k [0] rfl)<|ab (.a 4 rfl<|.k [2] rfl)<|aq<|⟨_,_,aA.of rfl,aB.pure,by simp;rfl⟩
theorem Ap(a b:Int):Can Tryz.prog 218 [num a,num b] (· =num (wX a b)):=by
 refine aE Tryz.func218 rfl Tryz.ntmps218 rfl<|ab (.a 1 rfl<|.k [0,1] rfl)<|ab (.a 1 rfl<|.c rfl (tM a) rfl<|.a 1 rfl<|.k [0,1,5] rfl)<|ab (.a 1 rfl<|.c rfl (tM b) rfl<|.a 1 rfl<|.k [0,1,5,6] rfl)<|ah<|ab (.a 1 rfl<|.k [0,1,6,11] rfl)<|ag rfl (fun hc=>?_) (fun hc=>?_)
 ·cases hc
 ·refine ai<|ah<|ab (.a 1 rfl<|.k [0,1,13] rfl)<|ag rfl (fun hc=>?_) (fun hc=>?_)
  ·cases hc
  ·refine ai<|ah<|ab (.a 3 rfl<|.k [0,1,16] rfl)<|ag rfl (fun hc=>?_) (fun hc=>?_)
   ·have h1:a<b:=tt hc
    exact ab (.a 1 rfl<|.k [4] rfl)<|aq<|⟨_,_,aA.of rfl,aB.pure,by unfold wX;rw[if_pos h1];rfl⟩
   ·have h1:¬a<b:=ff hc
    refine ai<|ah<|ab (.a 3 rfl<|.k [19] rfl)<|ag rfl (fun hy=>?_) (fun hy=>?_)
    ·have h2:b<a:=tt hy
     exact ab (.a 1 rfl<|.k [4] rfl)<|aq<|⟨_,_,aA.of rfl,aB.pure,by unfold wX;rw[if_neg h1,if_pos h2];rfl⟩
    ·have h2:¬b<a:=ff hy
     exact ai<|ab (.a 1 rfl<|.k [4] rfl)<|aq<|⟨_,_,aA.of rfl,aB.pure,by unfold wX;rw[if_neg h1,if_neg h2];rfl⟩
theorem IW(a b:Int):Can Tryz.prog 217 [.slice 2 [num a,num b]] (· =num (if a=0 then b else a)):=by
 refine aE Tryz.func217 rfl Tryz.ntmps217 rfl<|ab (.a 1 rfl<|.k [0] rfl)<|ab (.a 1 rfl<|.k [0,3] rfl)<|ah<|ab (.a 3 rfl<|.k [3,6,7,8] rfl)<|au<|eu [3,6,7,8] rfl<|bf (fun r st=>∃j:Nat,j≤2∧r=2 - j∧(0<j→a=0)∧(1<j→b=0)∧st=⟨[(3,num 0),(6,.slice 2 [num a,num b]),(7,num 2),(8,num j)],[]⟩) 2 ⟨0,by omega,by omega,by omega,by omega,rfl⟩ ?_
 rintro r st ⟨j,hj,rfl,ha,hb,rfl⟩
 refine ab (.a 1 rfl<|.k [3,6,7,8,9] rfl)<|ah<|ag rfl (fun hc=>?_) (fun hc=>?_)
 ·have hlt:j<2:=by have:=tt hc;omega
  obtain⟨v,hv,hv2⟩:∃v,[num a,num b][j]? =some (num v)∧v=(if j=0 then a else b):=by
   match j,hlt with
   |0,_=>exact⟨a,rfl,rfl⟩
   |1,_=>exact⟨b,rfl,rfl⟩
  refine ai<|ah<|au<|ab (.v (aJ (j) rfl) rfl<|.v (aL rfl (hv)) rfl<|.a 1 rfl<|.k [3,5,6,7,8] rfl)<|ab (.a 3 rfl<|.k [3,5,6,7,8,14] rfl)<|ag rfl (fun hy=>?_) (fun hy=>?_)
  ·have h1:v≠0:=tt hy
   refine ab (.a 2 rfl<|.k [2] rfl)<|aq<|⟨_,_,aA.of rfl,aB.pure,congrArg num ?_⟩
   by_cases h0:j=0
   ·rw[if_pos h0]at hv2;rw[if_neg (by omega)];exact hv2
   ·rw[if_neg h0]at hv2;rw[if_pos (ha (by omega))];exact hv2
  ·have h1:v=0:=Classical.byContradiction (ff hy)
   refine ai<|az (.v (aS rfl) rfl<|.a 1 rfl<|.k [3,6,7,8] rfl) ?_
   refine⟨2 - (j+1),by omega,j+1,by omega,rfl,fun _=>?_,fun h=>?_,rfl⟩
   ·by_cases h0:j=0
    ·rw[if_pos h0]at hv2;omega
    ·exact ha (by omega)
   ·rw[if_neg (by omega)]at hv2;omega
 ·have hj2:j=2:=by have:=ff hc;omega
  refine ba<|ab (.a 2 rfl<|.k [2] rfl)<|aq<|⟨_,_,aA.of rfl,aB.pure,congrArg num ?_⟩
  rw[if_pos (ha (by omega))];exact(hb (by omega)).symm
def FZ(L:List Int)(a b:Nat):Int:=if wX (L.getD b 0) (L.getD a 0)=0 then wX a b else wX (L.getD b 0) (L.getD a 0)
theorem ED(L:List Int)(a b:Nat)(ha:a<L.length)(hb:b<L.length):Can Tryz.prog 216 [num a,num b,.aY [aw L] 0] (· =num (FZ L a b)):=by
 refine aE Tryz.func216 rfl Tryz.ntmps216 rfl<|ab (.a 1 rfl<|.k [0,1,2] rfl)<|dY mixed (by kernel_rfl) (.a 2 rfl<|.v [6,7] (aJ (b) rfl) rfl rfl<|.v [8] (aL rfl (ax L b hb)) rfl rfl<|.a 2 rfl<|.v [10,11] (aJ (a) rfl) rfl rfl<|.v [12] (aL rfl (ax L a ha)) rfl rfl<|.v [9,13] (dJ rfl (Ap _ _)) rfl rfl<|.a 2 rfl<|.v [15,16] (dJ rfl (Ap _ _)) rfl rfl<|.a 1 rfl<|.v [18] (dJ rfl (IW _ _)) rfl rfl<|.a 1 rfl<|.k [5] rfl) ?_
 exact aq<|⟨_,_,aA.of rfl,aB.pure,rfl⟩
def IB(n:Nat):UInt8:=if n=0 then 0 else if n=1 then 1 else if n<4 then 2 else if n<8 then 3 else 4
theorem B9(n:Nat)(hn:n≤12):Can Tryz.prog 241 [.raw (.int .u64 n)] (· =num (IB n).toNat):=by
 refine aE Tryz.func241 rfl Tryz.ntmps241 rfl<|ab (.a 1 rfl<|.k [0,2] rfl)<|ah<|ab (.a 1 rfl<|.v (AB rfl rfl rfl rfl) rfl<|.k [0,2,4] rfl)<|ag rfl (fun hc=>?_) (fun hc=>?_)
 ·exact absurd (tt hc) (by omega)
 ·refine ai<|ah<|ab (.a 1 rfl<|.v (AB rfl rfl rfl rfl) rfl<|.k [0,2,8] rfl)<|ag rfl (fun hc=>?_) (fun hc=>?_)
  ·exact absurd (tt hc) (by omega)
  ·refine ai<|ah<|ab (.a 1 rfl<|.v (AB rfl rfl rfl rfl) rfl<|.k [0,2,14] rfl)<|ag rfl (fun hc=>?_) (fun hc=>?_)
   ·exact absurd (tt hc) (by omega)
   ·exact ai<|ab (.a 2 rfl<|.v (zQ rfl Tryz.underlying249 Tryz.underlying5 rfl (GB n (by omega))) rfl<|.v (Gr (c:=IB n) rfl Tryz.underlying9 rfl rfl (by rcases(show n=0∨n=1∨n=2∨n=3∨n=4∨n=5∨n=6∨n=7∨n=8∨n=9∨n=10∨n=11∨n=12 by omega)with h|h|h|h|h|h|h|h|h|h|h|h|h<;>subst h<;>rfl)) rfl<|.v (zQ rfl Tryz.underlying5 Tryz.underlying3 rfl (jP (u8_in _))) rfl<|.v (aS rfl (hn:=IV _)) rfl<|.a 1 rfl<|.k [2] rfl)<|aq<|⟨_,_,aA.of rfl,aB.pure,by rw[Int.zero_add];rfl⟩
theorem Hq(n:Nat)(hn:n≤12):Can Tryz.prog 225 [.raw (.int .u64 n)] (· =num (IB n).toNat):=by
 refine aE Tryz.func225 rfl Tryz.ntmps225 rfl<|ab (.a 1 rfl<|.k [0] rfl)<|ah (FP (b:=false) ?_)
 exact ai<|ab (.a 1 rfl<|.c rfl (B9 n hn) rfl<|.a 1 rfl<|.k [2] rfl)<|aq ⟨_,_,.cons (.tmp rfl) .nil,aB.pure,rfl⟩
def tj(L:List Int)(x y:Int):Prop:=L.getD y.toNat 0<L.getD x.toNat 0∨(L.getD y.toNat 0=L.getD x.toNat 0∧x≤y)
theorem Cg{L:List Int}{x y z:Int}(h:tj L x y)(k:tj L y z):tj L x z:=by unfold tj at*;omega
theorem xP(L:List Int)(a b:Nat):FZ L a b<0↔¬tj L b a:=by
 unfold FZ wX tj
 simp only[Int.toNat_natCast]
 split<;>split<;>(try split)<;>omega
theorem I6(L:List Int){x y:Int}(h:¬tj L x y):tj L y x:=by unfold tj at*;omega
def FY(L ys:List Int)(i j:Nat):Prop:=∀p q,p<q→q≤i→q≠j→tj L (ys.getD p 0) (ys.getD q 0)
def GM(L ys:List Int)(i:Nat):Prop:=∀p q,p<q→q<i→tj L (ys.getD p 0) (ys.getD q 0)
theorem GM.ins{L ys:List Int}{i:Nat}(h:GM L ys i):FY L ys i i:=fun p q h1 h2 h3=>h p q h1 (by omega)
theorem FY.Ji{L ys:List Int}{i:Nat}(h:FY L ys i 0):GM L ys (i+1):=fun p q h1 h2=>h p q h1 (by omega) (by omega)
theorem FY.done{L ys:List Int}{i j:Nat}(h:FY L ys i j)(hb:tj L (ys.getD (j - 1) 0) (ys.getD j 0)):GM L ys (i+1):=fun p q h1 h2=>by
 by_cases hq:q=j
 ·subst hq
  by_cases hp:p=q - 1
  ·rw[hp];exact hb
  ·exact Cg (h p (q - 1) (by omega) (by omega) (by omega)) hb
 ·exact h p q h1 (by omega) hq
theorem FY.swap{L ys:List Int}{i j:Nat}(h:FY L ys i j)(h0:0<j)(hj:j≤i)(hi:i<ys.length)(hb:¬tj L (ys.getD (j - 1) 0) (ys.getD j 0)):FY L (Heap.dU ys j (j - 1)) i (j - 1):=fun p q h1 h2 h3=>by
 rw[Heap.dO ys j (j - 1) p (by omega) (by omega),Heap.dO ys j (j - 1) q (by omega) (by omega),if_neg h3]
 by_cases hq:q=j
 ·rw[if_pos hq]
  by_cases hp:p=j - 1
  ·rw[if_pos hp];exact I6 L hb
  ·rw[if_neg hp,if_neg (by omega)];exact h p (j - 1) (by omega) (by omega) (by omega)
 ·rw[if_neg hq]
  by_cases hp:p=j - 1
  ·rw[if_pos hp];exact h j q (by omega) h2 hq
  ·rw[if_neg hp]
   by_cases hp2:p=j
   ·rw[if_pos hp2];exact h (j - 1) q (by omega) h2 hq
   ·rw[if_neg hp2];exact h p q h1 h2 hq
theorem swap_perm(ys:List Int)(p q:Nat)(hp:p<ys.length)(hq:q<ys.length):(Heap.dU ys p q).Perm ys:=by
 have:= @List.set_set_perm _ ys p q hp hq
 unfold Heap.dU
 rw[List.getD_eq_getElem?_getD,List.getD_eq_getElem?_getD,List.getElem?_eq_getElem hp,List.getElem?_eq_getElem hq]
 exact this
theorem GM.pair{L ys:List Int}(h:GM L ys ys.length):ys.Pairwise (tj L):=by
 rw[List.pairwise_iff_getElem]
 intro i j hi hj hij
 have:=h i j hij hj
 rw[List.getD_eq_getElem?_getD,List.getD_eq_getElem?_getD,List.getElem?_eq_getElem hi,List.getElem?_eq_getElem hj]at this
 exact this
def dW(ys:List Int):Option cZ:=some (.row 3 1 ys.length (aR ys))
abbrev Co(L:List Int):PV:=.func 216 [.aY [aw L] 0]
theorem Bp(L xs:List Int)(c:Option cZ)(hx:∀x∈xs,0≤x∧x<L.length)(hn:xs.length≤12):bS Tryz.prog 232 [.own 1,num 0,num xs.length,Co L] [c,dW xs] (fun _ σ'=>∃ys,ys.Perm xs∧ys.Pairwise (tj L)∧σ'=[c,dW ys]):=by
 refine cw Tryz.func232 rfl Tryz.ntmps232 rfl<|ab (.a 1 rfl<|.v (aS rfl) rfl<|.a 1 rfl<|.k [0,1,2,3,8] rfl)<|au<|eu [0,1,2,3,8] rfl<|bf (fun r st=>∃(ys:List Int) (i:Nat),ys.Perm xs∧0<i∧GM L ys i∧r=13 - i∧st=⟨[(0,.own 1),(1,num 0),(2,num xs.length),(3,Co L),(8,num i)],[c,dW ys]⟩) 12 ⟨xs,1,.refl _,by omega,fun p q h1 h2=>by omega,rfl,rfl⟩ ?_
 rintro r st ⟨ys,i,hp,hi0,hs,rfl,rfl⟩
 have hyl:=hp.length_eq
 refine ah<|ab (.a 3 rfl<|.k [0,1,2,3,8,14] rfl)<|ag rfl (fun hc=>?_) (fun hc=>?_)
 ·have hlt:i<xs.length:=by have:=tt hc;omega
  refine ai<|ah<|au<|ab (.a 2 rfl<|.k [0,1,2,3,8,9] rfl)<|au<|eu [0,1,2,3,8,9] rfl<|bf (fun r st=>∃(ys:List Int) (j:Nat),ys.Perm xs∧j≤i∧FY L ys i j∧r=j∧st=⟨[(0,.own 1),(1,num 0),(2,num xs.length),(3,Co L),(8,num i),(9,num j)],[c,dW ys]⟩) i ⟨ys,i,hp,by omega,hs.ins,rfl,rfl⟩ ?_
  clear hp hs hyl
  rintro r st ⟨zs,j,hp,hji,hs,rfl,rfl⟩
  have hyl:=hp.length_eq
  refine ah ?_
  obtain⟨q1,hq1⟩:∃q,decide ((0:Int)<(r:Int))=q:=⟨_,rfl⟩
  have hel:∀k,k<zs.length→∃a:Nat,zs.getD k 0=(a:Int)∧a<L.length:=fun k hk=>by
   have h1:=hx _ (hp.mem_iff.1 (bO (d:=0) hk))
   exact⟨(zs.getD k 0).toNat,by omega,by omega⟩
  obtain⟨a,ha,haL⟩:=hel r (by omega)
  obtain⟨b,hb,hbL⟩:=hel (r - 1) (by omega)
  obtain⟨q2,hq2⟩:∃q,decide (FZ L a b<0)=q:=⟨_,rfl⟩
  refine jA mixed (by kernel_rfl) 34 (.raw (.bool (q1&&q2))) [0,1,2,3,8,9] rfl ?_ ?_
  ·refine .a 2 rfl<|.v [18,19] (b9 rfl (hq1)) rfl rfl<|.a 1 rfl<|?_
   cases q1
   ·exact .a 13 rfl<|.k [34,0,1,2,3,8,9] rfl
   ·exact .a 3 rfl<|.v [23,24] (aJ (r) rfl) rfl rfl<|.v [25] (aL rfl ((ax zs r (by omega)).trans (by rw[ha]))) rfl rfl<|.a 2 rfl<|.v [28] (aS rfl) rfl rfl<|.v [27,29] (aJ ((r - 1)) rfl (by have:=tt hq1;omega) (by omega)) rfl rfl<|.v [30] (aL rfl ((ax zs (r - 1) (by omega)).trans (by rw[hb]))) rfl rfl<|.v [22,26,31] (dJ rfl (ED L a b haL hbL)) rfl rfl<|.v [32] (b9 rfl (hq2)) rfl rfl<|.a 1 rfl<|.k [34,0,1,2,3,8,9] rfl
  refine ag rfl (fun hy=>?_) (fun hy=>?_)
  ·obtain⟨c1,c2⟩:=Bool.and_eq_true_iff.1 hy
   rw[c1]at hq1
   rw[c2]at hq2
   have hr0:0<r:=by have:=tt hq1;omega
   have hnb:=(xP L a b).1 (tt hq2)
   rw[←ha,←hb]at hnb
   refine ai<|ah<|au<|dp 15 20 mixed (
    .val [0] rfl (bH rfl) rfl rfl<|
    .val [9] rfl (bH rfl) rfl rfl<|
    .late [0] rfl (lG rfl rfl) inferInstance rfl rfl<|
    .late [9] rfl (lG rfl rfl) inferInstance rfl rfl<|
    .late [40] rfl (Jv rfl rfl rfl rfl (by unfold In64;omega)) inferInstance rfl rfl<|
    .val [0] rfl (bH rfl) rfl rfl<|
    .val [9] rfl (bH rfl) rfl rfl<|
    .val [43] rfl (aS rfl) rfl rfl<|
    .val [42,44] rfl (aJ ((r - 1)) rfl) rfl rfl<|
    .val [45] rfl (aL rfl ((ax zs (r - 1) (by omega)).trans (by rw[hb]))) rfl rfl<|
    .val [0] rfl (bH rfl) rfl rfl<|
    .val [9] rfl (bH rfl) rfl rfl<|
    .val [47,48] rfl (aJ (r) rfl) rfl rfl<|
    .val [49] rfl (aL rfl ((ax zs r (by omega)).trans (by rw[ha]))) rfl rfl<|
    .val [37,38] rfl (aJ (r) rfl) rfl rfl<|
    .nil) (by kernel_rfl) rfl rfl (bm (ks:=[0,1,2,3,8,9,39,41,46,50,51]) rfl) ?_
   refine bg ((by first|exact bE rfl (bI.tk.get rfl) rfl rfl rfl (by first|omega|(simp;omega))|exact aV rfl (bI.tk.get rfl) rfl rfl rfl (by first|omega|(simp;omega)))) rfl rfl<|bC (aJ ((r - 1)) rfl) rfl<|bg ((by first|exact bE rfl (bI.tk.get rfl) rfl rfl rfl (by first|omega|(simp;omega))|exact aV rfl (bI.tk.get rfl) rfl rfl rfl (by first|omega|(simp;omega)))) rfl rfl<|aG [0,1,2,3,8,9] rfl ?_
   refine az (.a 1 rfl<|.v (aS rfl) rfl<|.a 1 rfl<|.k [0,1,2,3,8,9] rfl) ?_
   refine⟨r - 1,by omega,Heap.dU zs r (r - 1),r - 1,(swap_perm zs r (r - 1) (by omega) (by omega)).trans hp,by omega,hs.swap hr0 hji (by omega) hnb,rfl,?_⟩
   unfold dW Heap.dU
   rw[ha,hb,show((r - 1:Nat):Int)=(r:Int) - 1 by omega]
   simp only[List.length_set]
   rfl
  ·have hso:GM L zs (i+1):=by
    by_cases h0:r=0
    ·subst h0;exact hs.Ji
    ·refine hs.done ?_
     rw[ha,hb]
     refine Classical.byContradiction fun hn=>?_
     have:=(xP L a b).2 hn
     have e1:q1=true:=by rw[←hq1];exact decide_eq_true (by omega)
     have e2:q2=true:=by rw[←hq2];exact decide_eq_true this
     rw[e1,e2]at hy
     cases hy
   refine ba<|az (.a 1 rfl<|.v (aS rfl) rfl<|.a 1 rfl<|.k [0,1,2,3,8] rfl) ?_
   exact⟨13 - (i+1),by omega,zs,i+1,hp,by omega,hso,rfl,rfl⟩
 ·have hge:ys.length≤i:=by have:=ff hc;omega
  exact ba<|⟨_,aA.of rfl,ys,hp,GM.pair (fun p q h1 h2=>hs p q h1 (by omega)),rfl⟩
theorem FT(L xs:List Int)(c:Option cZ)(k:Int)(hx:∀x∈xs,0≤x∧x<L.length)(hn:xs.length≤12):bS Tryz.prog 224 [.own 1,num 0,num xs.length,num k,Co L] [c,dW xs] (fun _ σ'=>∃ys,ys.Perm xs∧ys.Pairwise (tj L)∧σ'=[c,dW ys]):=by
 refine cw Tryz.func224 rfl Tryz.ntmps224 rfl<|ab (.a 1 rfl<|.k [0,1,2,3,4,10] rfl)<|ab (.a 1 rfl<|.k [0,1,2,3,4,10,11] rfl)<|au<|bf (fun r st=>st=⟨[(0,.own 1),(1,num 0),(2,num xs.length),(3,num k),(4,Co L),(10,flag true),(11,flag true)],[c,dW xs]⟩) 0 rfl ?_
 rintro r st rfl
 refine au<|ab (.a 2 rfl<|.v (aS rfl) rfl<|.a 1 rfl<|.k [0,1,2,3,4,10,11,12] rfl)<|ah<|ab (.a 2 rfl<|.k [0,1,2,3,4,10,11,12,25] rfl)<|ag (b:=decide ((xs.length:Int) - 0≤12)) rfl (fun _=>?_) (fun hc=>absurd (ff hc) (by omega))
 refine aP<|av 4 rfl<|cP rfl rfl (bS.mono (Bp L xs c hx hn) (fun _ σ' h=>?_))
 obtain⟨ys,h1,h2,rfl⟩:=h
 refine aG [] rfl ?_
 exact aq ⟨_,.nil,ys,h1,h2,rfl⟩
theorem B7(L xs:List Int)(c:Option cZ)(hx:∀x∈xs,0≤x∧x<L.length)(hn:xs.length≤12):bS Tryz.prog 215 [.own 1,Co L] [c,dW xs] (fun _ σ'=>∃ys,ys.Perm xs∧ys.Pairwise (tj L)∧σ'=[c,dW ys]):=by
 have hw:IntKind.u64.wrap (xs.length:Int)=(xs.length:Int):=by rw[IntKind.wrap_u64];omega
 refine cw Tryz.func215 rfl Tryz.ntmps215 rfl<|ab (.a 3 rfl<|.k [0,1,4] rfl)<|bF<|av 3 rfl<|bC (zQ rfl Tryz.underlying3 Tryz.underlying247 rfl hw) rfl<|ec rfl (Hq xs.length hn) rfl<|av 1 rfl<|cP rfl rfl (bS.mono (FT L xs c _ hx hn) (fun _ σ' h=>?_))
 obtain⟨ys,h1,h2,rfl⟩:=h
 refine aG [] rfl ?_
 exact⟨_,aA.of rfl,ys,h1,h2,rfl⟩
def ph(L:List Int)(i:Nat):List Int:=((List.range i).filter fun k=>decide (0≤L.getD k 0)).map Int.ofNat
theorem Bo(L:List Int)(i:Nat):ph L (i+1)=ph L i++(if 0≤L.getD i 0 then [(i:Int)] else []):=by
 unfold ph
 rw[List.range_succ,List.filter_append,List.map_append]
 congr 1
 by_cases h:0≤L.getD i 0
 ·rw[if_pos h,List.filter_cons,if_pos (by simpa using h)];rfl
 ·rw[if_neg h,List.filter_cons,if_neg (by simpa using h)];rfl
theorem xc(L:List Int)(i:Nat):(ph L i).length≤i:=by
 unfold ph
 rw[List.length_map]
 exact Nat.le_trans (List.length_filter_le _ _) (by simp)
theorem wm{L:List Int}{i:Nat}{x:Int}:x∈ph L i↔∃k:Nat,x=(k:Int)∧k<i∧0≤L.getD k 0:=by
 unfold ph
 simp only[List.mem_map,List.mem_filter,List.mem_range,decide_eq_true_eq]
 constructor
 ·rintro⟨k,⟨h1,h2⟩,rfl⟩;exact⟨k,rfl,h1,h2⟩
 ·rintro⟨k,rfl,h1,h2⟩;exact⟨k,⟨h1,h2⟩,rfl⟩
theorem yI(L:List Int)(i:Nat):(ph L i).Nodup:=by
 unfold ph
 have h1:(List.range i).Pairwise (· ≠ ·):=List.nodup_range
 refine List.Pairwise.map Int.ofNat (fun a b h e=>h (by cases e;rfl)) (h1.filter _)
theorem yY(L cs:List Int)(hn:L.length≤12):bS Tryz.prog 202 [aw L] [dW cs] (fun r σ'=>∃ys,ys.Perm (ph L L.length)∧ys.Pairwise (tj L)∧r= .own 1∧σ'=[dW cs,dW ys]):=by
 refine cw Tryz.func202 rfl Tryz.ntmps202 rfl<|ab (.a 2 rfl<|.k [1] rfl)<|ab (.a 1 rfl<|.k [1,3] rfl)<|fp 3 3 1 rfl ?_
 refine ah<|ab (.a 3 rfl<|.k [1,3,6,7,8] rfl)<|au<|eu [1,3,6,7,8] rfl<|bf (fun r st=>∃i,i≤L.length∧r=L.length - i∧st=⟨[(1,.aY [aw L] 0),(3,.own 1),(6,aw L),(7,num L.length),(8,num i)],[dW cs,dW (ph L i)]⟩) L.length ⟨0,by omega,by omega,rfl⟩ ?_
 rintro r st ⟨i,hi,rfl,rfl⟩
 have hhl:=xc L i
 refine ab (.a 1 rfl<|.k [1,3,6,7,8,9] rfl)<|ah<|ag rfl (fun hc=>?_) (fun hc=>?_)
 ·have hlt:i<L.length:=by have:=tt hc;omega
  have hst:=Bo L i
  refine ai<|ah<|au<|ab (.a 1 rfl<|.v (aJ (i) rfl) rfl<|.v (aL rfl (ax L i hlt)) rfl<|.a 2 rfl<|.k [1,3,4,5,6,7,8] rfl)<|ab (.a 2 rfl<|.k [1,3,4,6,7,8,14] rfl)<|ag rfl (fun hy=>?_) (fun hy=>?_)
  ·have h0:0≤L.getD i 0:=tt hy
   rw[if_pos h0]at hst
   refine bF<|av 3 rfl<|cp (bA rfl (bI.rk.get rfl) rfl rfl rfl rfl (by unfold maxLen;omega)) rfl<|av 1 rfl ?_
   refine dD [0,2] (.c 1<|.c 3<|.c 6<|.c 7<|.c 8<|.nil) (.kept rfl (.row aF.pure)<|.kept rfl (.eJ rfl (cN _ _))<|.nil) rfl rfl (bc ?_)
   refine az (.v (aS rfl) rfl<|.a 1 rfl<|.k [1,3,6,7,8] rfl) ?_
   refine⟨L.length - (i+1),by omega,i+1,by omega,rfl,?_⟩
   rw[hst]
   first
    |rfl
    |(simp only[dW,List.length_append,List.length_singleton];rfl)
  ·have h0:¬0≤L.getD i 0:=ff hy
   rw[if_neg h0,List.append_nil]at hst
   refine ai<|az (.v (aS rfl) rfl<|.a 1 rfl<|.k [1,3,6,7,8] rfl) ?_
   refine⟨L.length - (i+1),by omega,i+1,by omega,rfl,?_⟩
   rw[hst]
   first
    |rfl
    |(simp only[dW,List.length_append,List.length_singleton];rfl)
 ·have hie:i=L.length:=by have:=ff hc;omega
  subst hie
  refine ba<|aP<|av 2 rfl<|cP rfl rfl (bS.mono (B7 L (ph L L.length) (dW cs) (fun x hx=>by obtain⟨k,rfl,h1,_⟩:=wm.1 hx;omega) (by omega)) (fun _ σ' h=>?_))
  obtain⟨ys,h1,h2,rfl⟩:=h
  refine aG [3] rfl ?_
  exact ab (.a 2 rfl<|.k [2] rfl)<|aq<|⟨_,aA.of rfl,ys,h1,h2,rfl,rfl⟩
theorem yc(xs:List Int)(c:Option cZ)(hn:xs.length≤12):bS Tryz.prog 203 [.own 1] [c,dW xs] (fun _ σ'=>σ'=[c,dW xs.reverse]):=by
 refine cw Tryz.func203 rfl Tryz.ntmps203 rfl<|ab (.a 2 rfl<|.v (aS rfl) rfl<|.a 2 rfl<|.k [0,2,3] rfl)<|au<|eu [0,2,3] rfl<|bf (fun r st=>∃(ys:List Int) (i:Nat),ys.length=xs.length∧2*i≤xs.length+1∧(∀k,k<xs.length→ys.getD k 0=if k<i∨xs.length - i≤k then xs.getD (xs.length - 1 - k) 0 else xs.getD k 0)∧r=xs.length+1 - i∧st=⟨[(0,.own 1),(2,num i),(3,num ((xs.length:Int) - 1 - i))],[c,dW ys]⟩) (xs.length+1) ⟨xs,0,rfl,by omega,fun k hk=>by rw[if_neg (by omega)],by omega,by simp⟩ ?_
 rintro r st ⟨ys,i,hl,hi,hk,rfl,rfl⟩
 refine ah<|ab (.a 3 rfl<|.k [0,2,3,9] rfl)<|ag rfl (fun hc=>?_) (fun hc=>?_)
 ·have hlt:2*i+1<xs.length:=by have:=tt hc;omega
  obtain⟨a,ha⟩:∃a,ys.getD i 0=a:=⟨_,rfl⟩
  obtain⟨b,hb⟩:∃b,ys.getD (xs.length - 1 - i) 0=b:=⟨_,rfl⟩
  refine ai<|ah<|au<|dp 13 20 mixed (
   .val [0] rfl (bH rfl) rfl rfl<|
   .val [2] rfl (bH rfl) rfl rfl<|
   .late [0] rfl (lG rfl rfl) inferInstance rfl rfl<|
   .late [3] rfl (lG rfl rfl) inferInstance rfl rfl<|
   .val [0] rfl (bH rfl) rfl rfl<|
   .val [3] rfl (bH rfl) rfl rfl<|
   .val [18,19] rfl (aJ ((xs.length - 1 - i)) rfl) rfl rfl<|
   .val [20] rfl (aL rfl ((ax ys (xs.length - 1 - i) (by omega)).trans (by rw[hb]))) rfl rfl<|
   .val [0] rfl (bH rfl) rfl rfl<|
   .val [2] rfl (bH rfl) rfl rfl<|
   .val [22,23] rfl (aJ (i) rfl) rfl rfl<|
   .val [24] rfl (aL rfl ((ax ys i (by omega)).trans (by rw[ha]))) rfl rfl<|
   .val [14,15] rfl (aJ (i) rfl) rfl rfl<|
   .nil) (by kernel_rfl) rfl rfl (bm (ks:=[0,2,3,16,17,21,25,26]) rfl) ?_
  refine bg ((by first|exact bE rfl (bI.tk.get rfl) rfl rfl rfl (by first|omega|(simp;omega))|exact aV rfl (bI.tk.get rfl) rfl rfl rfl (by first|omega|(simp;omega)))) rfl rfl<|bC (aJ ((xs.length - 1 - i)) rfl) rfl<|bg ((by first|exact bE rfl (bI.tk.get rfl) rfl rfl rfl (by first|omega|(simp;omega))|exact aV rfl (bI.tk.get rfl) rfl rfl rfl (by first|omega|(simp;omega)))) rfl rfl<|aG [0,2,3] rfl ?_
  refine az (.a 1 rfl<|.v (aS rfl) rfl<|.a 1 rfl<|.v (aS rfl) rfl<|.a 2 rfl<|.k [0,2,3] rfl) ?_
  refine⟨xs.length+1 - (i+1),by omega,Heap.dU ys i (xs.length - 1 - i),i+1,by rw[Heap.gj];exact hl,by omega,fun k hkl=>?_,rfl,?_⟩
  ·rw[Heap.dO ys i (xs.length - 1 - i) k (by omega) (by omega)]
   by_cases h1:k=xs.length - 1 - i
   ·rw[if_pos h1,if_pos (by omega),hk i (by omega),if_neg (by omega),h1,show xs.length - 1 - (xs.length - 1 - i)=i by omega]
   ·rw[if_neg h1]
    by_cases h2:k=i
    ·rw[if_pos h2,if_pos (by omega),hk _ (by omega),if_neg (by omega),h2]
    ·rw[if_neg h2,hk k hkl]
     by_cases h3:k<i∨xs.length - i≤k
     ·rw[if_pos h3,if_pos (by omega)]
     ·rw[if_neg h3,if_neg (by omega)]
  ·unfold dW Heap.dU
   rw[ha,hb,show(xs.length:Int) - 1 - ((i+1:Nat):Int)=(xs.length:Int) - 1 - i - 1 by omega]
   simp only[List.length_set]
   rfl
 ·have hge:¬2*i+1<xs.length:=by have:=ff hc;omega
  refine ba<|⟨_,aA.of rfl,?_⟩
  have:ys=xs.reverse:=by
   refine List.ext_getElem (by simp[hl]) fun k h1 h2=>?_
   have h3:=hk k (by omega)
   rw[List.getElem_reverse]
   have e1:ys.getD k 0=ys[k]:=by simp[h1]
   have e2:xs.getD (xs.length - 1 - k) 0=xs[xs.length - 1 - k]:=by rw[List.getD_eq_getElem?_getD,List.getElem?_eq_getElem (by omega)];rfl
   by_cases h4:k<i∨xs.length - i≤k
   ·rw[if_pos h4,e1,e2]at h3;exact h3
   ·rw[if_neg h4,e1]at h3
    rw[h3,←e2,show xs.length - 1 - k=k by omega]
  rw[this]
end PW
end Go.Proofs.YtnegbdpggideiaaGreatDoor
namespace Go.Proofs.YtnegbdpggideiaaGreatDoor
namespace PW
open Go.RowKit cH Mem
structure iI (P:Program) (kt:TypeId) {κ:Type} [DecidableEq κ] (enc:κ→Value):Prop where
 oQ:∀e a w,(Instr.checkKey e 10000 kt (enc a)).run P w= .ok () w
 eql:∀a b w,(Op.equal kt (enc a) (enc b)).run P w= .ok (decide (a=b)) w
 now:∃d,P.underlying kt=some d∧((∀a b,Instr.sameNow d (enc a) (enc b)=some (decide (a=b)))∨∀a b,Instr.sameNow d (enc a) (enc b)=none)
 bits:∀a,Instr.sameBits 10000 (enc a) (enc a)=true
section
variable {P:Program} {kt:TypeId} {κ:Type} [DecidableEq κ] {enc:κ→Value}
def gr(k:κ):List κ→Nat→Option Nat
 | [],_=>none
 |a::l,i=>if k=a then some i else gr k l (i+1)
theorem jH{k:κ}:∀ {l:List κ} {i j:Nat},gr k l i=some j→i≤j∧l[j - i]? =some k
 | [],i,j,h=>by cases h
 |a::l,i,j,h=>by
  simp only[gr]at h
  split at h
  ·rename_i he;cases h;subst he;simp
  ·obtain⟨h1,h2⟩:=jH h
   refine⟨by omega,?_⟩
   rw[show j - i=(j - (i+1))+1 by omega]
   simpa using h2
theorem wB{d:TypeDesc}(hn:∀a b,Instr.sameNow d (enc a) (enc b)=some (decide (a=b)))(k:κ):∀(ks:List κ) (es:List MapEntry) (i:Nat),es.map (·.key)=ks.map enc→
  Instr.findNow d (enc k) es i=some ((gr k ks i).bind fun j=>(es[j - i]?).map fun e=>(j,e.val))
 | [],[],i,_=>rfl
 | [],_::_,i,h=>by simp at h
 |_::_,[],i,h=>by simp at h
 |a::ks,e::es,i,h=>by
  simp only[List.map_cons,List.cons.injEq]at h
  simp only[Instr.findNow,h.1,hn,gr]
  by_cases hk:k=a
  ·rw[decide_eq_true hk,if_pos hk];simp
  ·rw[decide_eq_false hk,if_neg hk]
   simp only[wB hn k ks es (i+1) h.2]
   congr 1
   cases hf:gr k ks (i+1)with
   |none=>rfl
   |some j=>
    obtain⟨h1,_⟩:=jH hf
    simp only[Option.bind_some]
    rw[show j - i=(j - (i+1))+1 by omega]
    simp
theorem xO(hk:iI P kt enc)(k:κ)(w:World):∀(ks:List κ) (es:List MapEntry) (i:Nat),es.map (·.key)=ks.map enc→
  (Instr.findAsking kt (enc k) es i).run P w= .ok ((gr k ks i).bind fun j=>(es[j - i]?).map fun e=>(j,e.val)) w
 | [],[],i,_=>rfl
 | [],_::_,i,h=>by simp at h
 |_::_,[],i,h=>by simp at h
 |a::ks,e::es,i,h=>by
  simp only[List.map_cons,List.cons.injEq]at h
  simp only[Instr.findAsking,Sem.run_bind,h.1,hk.eql,Result.andThen_ok,gr]
  by_cases hka:k=a
  ·rw[if_pos (by simpa using hka),if_pos hka];simp
  ·rw[if_neg (by simpa using hka),if_neg hka,xO hk k w ks es (i+1) h.2]
   congr 1
   cases hf:gr k ks (i+1)with
   |none=>rfl
   |some j=>
    obtain⟨h1,_⟩:=jH hf
    simp only[Option.bind_some]
    rw[show j - i=(j - (i+1))+1 by omega]
    simp
theorem wx(hk:iI P kt enc)(k:κ)(w:World)(ks:List κ)(es:List MapEntry)(h:es.map (·.key)=ks.map enc):(Instr.findKey kt (enc k) es).run P w= .ok ((gr k ks 0).bind fun j=>(es[j]?).map fun e=>(j,e.val)) w:=by
 obtain⟨d,hd,hn|hn⟩:=hk.now
 ·have:=wB hn k ks es 0 h
  simp only[Instr.findKey,Sem.run_bind,run_underlying hd,Result.andThen_ok,this]
  simp
 ·have ha:=xO hk k w ks es 0 h
  simp only[Instr.findKey,Sem.run_bind,run_underlying hd,Result.andThen_ok]
  cases es with
  |nil=>
   have:ks=[]:=by cases ks with|nil=>rfl|cons=>simp at h
   subst this
   rfl
  |cons e es=>
   cases ks with
   |nil=>simp at h
   |cons a ks=>
    simp only[List.map_cons,List.cons.injEq]at h
    have h0:Instr.findNow d (enc k) (e::es) 0=none:=by simp only[Instr.findNow,h.1,hn]
    rw[h0]
    simpa using ha
def gb(enc:κ→Value)(l:List (κ×PV)):List (Value×PV):=l.map fun x=>(enc x.1,x.2)
def dq(k:κ):List (κ×PV)→Option PV
 | []=>none
 |(a,p)::l=>if k=a then some p else dq k l
def iF(k:κ)(p:PV):List (κ×PV)→List (κ×PV)
 | []=>[(k,p)]
 |(a,q)::l=>if k=a then(a,p)::l else(a,q)::iF k p l
theorem zm{k:κ}{l:List (κ×PV)}:dq k l=(gr k (l.map (·.1)) 0).bind fun j=>(l[j]?).map (·.2):=by
 suffices h:∀(i:Nat),dq k l=(gr k (l.map (·.1)) i).bind fun j=>(l[j - i]?).map (·.2) by simpa using h 0
 induction l with
 |nil=>intro i;rfl
 |cons x l ih=>
  intro i
  obtain⟨a,p⟩:=x
  simp only[dq,List.map_cons,gr]
  split
  ·simp
  ·rw[ih (i+1)]
   cases hf:gr k (l.map (·.1)) (i+1)with
   |none=>rfl
   |some j=>
    obtain⟨h1,_⟩:=jH hf
    simp only[Option.bind_some]
    rw[show j - i=(j - (i+1))+1 by omega]
    simp
theorem BG{k:κ}{p:PV}{l:List (κ×PV)}:iF k p l=match gr k (l.map (·.1)) 0 with|some j=>l.set j (k,p)|none=>l++[(k,p)]:=by
 suffices h:∀(i:Nat),iF k p l=match gr k (l.map (·.1)) i with|some j=>l.set (j - i) (k,p)|none=>l++[(k,p)] by simpa using h 0
 induction l with
 |nil=>intro i;rfl
 |cons x l ih=>
  intro i
  obtain⟨a,q⟩:=x
  simp only[iF,List.map_cons,gr]
  split
  ·rename_i he;subst he;simp
  ·rw[ih (i+1)]
   cases hf:gr k (l.map (·.1)) (i+1)with
   |none=>rfl
   |some j=>
    obtain⟨h1,_⟩:=jH hf
    simp only
    rw[show j - i=(j - (i+1))+1 by omega]
    simp
theorem sq{k:κ}{p:PV}{l:List (κ×PV)}{x:κ×PV}(h:x∈iF k p l):x=(k,p)∨x∈l:=by
 induction l with
 |nil=>simpa[iF]using h
 |cons y l ih=>
  obtain⟨a,q⟩:=y
  simp only[iF]at h
  split at h
  ·rename_i he
   subst he
   cases h with
   |head=>exact .inl rfl
   |tail _ h=>exact .inr (List.mem_cons_of_mem _ h)
  ·cases h with
   |head=>exact .inr (List.mem_cons_self ..)
   |tail _ h=>
    rcases ih h with h|h
    ·exact .inl h
    ·exact .inr (List.mem_cons_of_mem _ h)
theorem jd{k:κ}{p:PV}{l:List (κ×PV)}(h:dq k l=some p):(k,p)∈l:=by
 induction l with
 |nil=>cases h
 |cons y l ih=>
  obtain⟨a,q⟩:=y
  simp only[dq]at h
  split at h
  ·rename_i he;subst he;cases h;exact List.mem_cons_self ..
  ·exact List.mem_cons_of_mem _ (ih h)
def wD(p:PV)(v:Value):Prop:=∀E w u,cG E w u p→u=v
theorem o4(v:Value):wD (.raw v) v:=fun _ _ _ h=>by cases h;rfl
theorem qn(a b:Value):wD (.agg [.raw a,.raw b]) (.agg #[a,b]):=fun E w u h=>by
 cases h with
 |agg cs _ hl hr=>
  obtain⟨l⟩:=cs
  match l,hl,hr with
  | [x,y],_,hr=>
   have h0:=hr 0 x _ rfl rfl
   have h1:=hr 1 y _ rfl rfl
   cases h0;cases h1;rfl
  | [],hl,_=>simp at hl
  | [_],hl,_=>simp at hl
  |_::_::_::_,hl,_=>simp at hl
def uv(P:Program)(mt:TypeId):Option (TypeId×TypeId):=match P.underlying mt with|some (.map k e)=>some (k,e)|_=>none
theorem mR{mt kt et:TypeId}(h:uv P mt=some (kt,et)):P.underlying mt=some (.map kt et):=by
 unfold uv at h
 split at h
 ·rename_i hu;cases h;exact hu
 ·cases h
def Ic(P:Program)(t:TypeId):Option Value:=match P.info? t with|some i=>i.zero|none=>none
theorem C2{et:TypeId}{z:Value}(h:Ic P et=some z)(w:World):(zeroValue et).run P w= .ok z w:=by
 unfold Ic at h
 split at h
 ·rename_i i hi;simp[zeroValue,typeInfo,hi,h]
 ·cases h
variable {σ:cm} {t:cd} {o:Oper}
theorem ue(hK:iI P kt enc){F:Nat→Prop}{base:Nat}{E:Env}{w:World}{i mt et:Nat}{l:List (κ×PV)}{v z:Value}(hS:Sat F base σ E w)(hm:uv P mt=some (kt,et))(hz:Ic P et=some z)(hv:cG E w v (.own i))(hi:σ[i]? =some (some (.mp (gb enc l))))(k:κ)(ok:Bool):
  ∃u,(Instr.lookup mt v (enc k) ok).run P w= .ok (if ok then .tuple #[u,.bool (dq k l).isSome] else u) w∧cG E w u ((dq k l).getD (.raw z)):=by
 cases hv with
 |own _ hiL _ hat _=>
  obtain⟨r,es,ck,hr,hb,hheap,hkey,hval⟩:=hS.blk i _ hi
  rw[hat]at hr
  subst hr
  have hkey':es.toList.map (·.key)=(l.map (·.1)).map enc:=by rw[hkey];simp[gb]
  have hf:=wx hK k w (l.map (·.1)) es.toList hkey'
  have hvl:(gb enc l).map (·.2)=l.map (·.2):=by simp[gb]
  rw[hvl]at hval
  have hlk:=zm (k:=k) (l:=l)
  cases hfi:gr k (l.map (·.1)) 0 with
  |none=>
   rw[hfi]at hf hlk
   simp only[Option.bind_none]at hf hlk
   refine⟨z,?_,by rw[hlk];exact .raw z⟩
   simp only[Instr.lookup,Sem.run_bind,run_underlying (mR hm),Result.andThen_ok,MapKept.run_getObj_map hheap,Sem.run_pure,hK.oQ,hf,C2 hz,hlk]
   rfl
  |some j=>
   obtain⟨_,hj⟩:=jH hfi
   simp only[Nat.sub_zero]at hj
   have hjl:j<l.length:=by have:=(List.getElem?_eq_some_iff.1 hj).1;simpa using this
   have hje:j<es.toList.length:=by have:=congrArg List.length hkey';simp at this;rw[Array.length_toList];omega
   rw[hfi]at hf hlk
   simp only[Option.bind_some,List.getElem?_eq_getElem hje,List.getElem?_eq_getElem hjl,Option.map_some]at hf hlk
   refine⟨es.toList[j].val,?_,?_⟩
   ·simp only[Instr.lookup,Sem.run_bind,run_underlying (mR hm),Result.andThen_ok,MapKept.run_getObj_map hheap,Sem.run_pure,hK.oQ,hf,hlk]
    rfl
   ·rw[hlk]
    exact hval.2 j _ _ (by rw[List.getElem?_map,List.getElem?_eq_getElem hje];rfl) (by simp[hjl])
theorem uX(hK:iI P kt enc){i mt et:Nat}{x ix:Operand}{l:List (κ×PV)}{z:Value}{k:κ}{pk r:PV}(ho:o.op= .lookup mt x ix false)(hm:uv P mt=some (kt,et))(hz:Ic P et=some z)(hx:aD t x=some (.own i))(hi:σ[i]? =some (some (.mp (gb enc l))))(hp:aD t ix=some pk)(hk:wD pk (enc k))(hr:(dq k l).getD (.raw z)=r):br P σ t o r:=by
 intro F base E ρ w hρ hS hT
 have h1:=ay hρ hT hx
 have h2:=hk _ _ _ (ay hρ hT hp)
 obtain⟨u,hu,hR⟩:=ue hK hS hm hz h1 hi k false
 simp only[execOp,ho,h2,Sem.run_bind,hu,Result.andThen_ok,Sem.run_pure,Bool.false_eq_true,if_false]
 exact bw (by rw[←hr];exact hR)
theorem AT(hK:iI P kt enc){i mt et:Nat}{x ix:Operand}{l:List (κ×PV)}{z:Value}{k:κ}{pk r:PV}{q:Bool}(ho:o.op= .lookup mt x ix true)(hm:uv P mt=some (kt,et))(hz:Ic P et=some z)(hx:aD t x=some (.own i))(hi:σ[i]? =some (some (.mp (gb enc l))))(hp:aD t ix=some pk)(hk:wD pk (enc k))(hr:(dq k l).getD (.raw z)=r)(hq:(dq k l).isSome=q):br P σ t o (.tuple [r,.raw (.bool q)]):=by
 intro F base E ρ w hρ hS hT
 have h1:=ay hρ hT hx
 have h2:=hk _ _ _ (ay hρ hT hp)
 obtain⟨u,hu,hR⟩:=ue hK hS hm hz h1 hi k true
 simp only[execOp,ho,h2,Sem.run_bind,hu,Result.andThen_ok,Sem.run_pure,if_true]
 refine bw (.tuple #[u,.bool (dq k l).isSome] _ rfl fun i x p k1 k2=>?_)
 match i,k1,k2 with
 |0,k1,k2=>cases k1;cases k2;rw[←hr];exact hR
 |1,k1,k2=>cases k1;cases k2;rw[hq];exact .raw _
 |_+2,_,k2=>simp at k2
theorem nP{α:Type}(a:Array α)(i j:Nat)(v:α):(a.setIfInBounds i v)[j]? =if i=j∧i<a.size then some v else a[j]? :=by
 rw[Array.getElem?_setIfInBounds]
 by_cases h:i=j
 ·subst h
  by_cases h2:i<a.size
  ·simp[h2]
  ·simp[h2]
 ·simp[h]
theorem oO(hK:iI P kt enc){i mt et:Nat}{x ix y:Operand}{l:List (κ×PV)}{k:κ}{pk p:PV}(ho:o.op= .mapUpdate mt x ix y)(hm:uv P mt=some (kt,et))(hx:aD t x=some (.own i))(hi:σ[i]? =some (some (.mp (gb enc l))))(hp:aD t ix=some pk)(hk:wD pk (enc k))(hy:aD t y=some p):
  cS P σ t o (.raw undef) (σ.set i (some (.mp (gb enc (iF k p l))))):=by
 intro F base E ρ w hρ hS hT
 have h1:=ay hρ hT hx
 have h2:=hk _ _ _ (ay hρ hT hp)
 have h3:=ay hρ hT hy
 generalize hz:ρ x=v at h1
 cases h1 with
 |own _ hiL _ hat _=>
  obtain⟨r,es,ck,hr,hb,hheap,hkey,hval⟩:=hS.blk i _ hi
  have hbk:bz (E.at_ i)=some r:=by rw[hr];rfl
  have hsz:r<w.heap.size:=(Array.getElem?_eq_some_iff.1 hheap).1
  rw[hat]at hr
  subst hr
  have hkey':es.toList.map (·.key)=(l.map (·.1)).map enc:=by rw[hkey];simp[gb]
  have hf:=wx hK k w (l.map (·.1)) es.toList hkey'
  have hvl:(gb enc l).map (·.2)=l.map (·.2):=by simp[gb]
  rw[hvl]at hval
  have fin:∀(es':Array MapEntry) (ck':Nat),(Instr.mapUpdate mt (.map (some r)) (enc k) (ρ y)).run P w= .ok () {w with heap:=w.heap.setIfInBounds r (.map es' ck')}→
    es'.toList.map (·.key)=(iF k p l).map (fun a=>enc a.1)→bb E w (es'.toList.map (·.val)) ((iF k p l).map (·.2))→
    ∃v w' E',((execOp ρ o).run P w= .ok (.value v) w'∨(v=undef∧(execOp ρ o).run P w= .ok .skip w'))∧Sat F base (σ.set i (some (.mp (gb enc (iF k p l))))) E' w'∧cX E w E' w'∧Below base w w'∧cG E' w' v (.raw undef):=fun es' ck' hrun hk' hv'=>by
   have oth:∀j,j<w.heap.size→j≠r→({w with heap:=w.heap.setIfInBounds r (.map es' ck')}:World).heap[j]? =w.heap[j]? :=fun j _ hj=>by
    show(w.heap.setIfInBounds r (.map es' ck'))[j]? =_
    rw[nP,if_neg (by rintro⟨rfl,_⟩;exact hj rfl)]
   have hs':w.heap.size≤({w with heap:=w.heap.setIfInBounds r (.map es' ck')}:World).heap.size:=by simp
   have hrM:E.M r:=(hS.mm r).2 (.inr ⟨i,_,hi,hbk⟩)
   have g:cX E w E {w with heap:=w.heap.setIfInBounds r (.map es' ck')}:=⟨Nat.le_refl _,fun _ _=>rfl,fun _ _ h=>h,hs',fun j hj hM=>oth j hj (fun e=>hM (by rw[e];exact hrM))⟩
   have hn:=hS.Eg (bi':=.mp (gb enc (iF k p l))) hi hbk hs' oth ⟨r,es',ck',hat,hb,by
     show(w.heap.setIfInBounds r (.map es' ck'))[r]? =_
     rw[nP,if_pos ⟨rfl,hsz⟩],by rw[hk'];simp[gb],by
     have:(gb enc (iF k p l)).map (·.2)=(iF k p l).map (·.2):=by simp[gb]
     rw[this];exact hv'.goes g⟩
   refine⟨undef,_,E,.inr ⟨rfl,?_⟩,hn.1,hn.2,⟨rfl,rfl,rfl,hs',fun j hj=>oth j (Nat.lt_of_lt_of_le hj hS.bl) (by omega)⟩,.raw _⟩
   simp only[execOp,ho,hz,h2,Sem.run_bind,hrun,Result.andThen_ok,Sem.run_pure]
  have hsm:=BG (k:=k) (p:=p) (l:=l)
  cases hfi:gr k (l.map (·.1)) 0 with
  |none=>
   rw[hfi]at hf hsm
   simp only[Option.bind_none]at hf hsm
   refine fin (es.push {key:=enc k,val:=ρ y,born:=ck}) (ck+1) ?_ ?_ ?_
   ·simp only[Instr.mapUpdate,Sem.run_bind,run_underlying (mR hm),Result.andThen_ok,MapKept.run_getObj_map hheap,hK.oQ,hf,MapKept.run_setObj_map _ hheap]
   ·rw[hsm];simp[hkey',List.map_map,Function.comp_def]
   ·rw[hsm]
    simp only[Array.toList_push,List.map_append,List.map_cons,List.map_nil]
    exact hval.append (bb.cons h3 (bb.nil _ _))
  |some j=>
   obtain⟨_,hj⟩:=jH hfi
   simp only[Nat.sub_zero]at hj
   have hjl:j<l.length:=by have:=(List.getElem?_eq_some_iff.1 hj).1;simpa using this
   have hje:j<es.toList.length:=by have:=congrArg List.length hkey';simp at this;rw[Array.length_toList];omega
   have hje':j<es.size:=by simpa using hje
   have hlj:l[j].1=k:=by have:=List.getElem?_eq_some_iff.1 hj;obtain⟨h,e⟩:=this;simpa using e
   have hkj:es[j].key=enc k:=by
    have:=congrArg (·[j]?) hkey'
    simp only[List.getElem?_map,List.getElem?_eq_getElem hje,List.getElem?_eq_getElem hjl,Option.map_some,Option.some.injEq,hlj]at this
    simpa using this
   rw[hfi]at hf hsm
   simp only[Option.bind_some,List.getElem?_eq_getElem hje,Option.map_some]at hf hsm
   refine fin (es.modify j fun e=> {e with key:=enc k,val:=ρ y}) ck ?_ ?_ ?_
   ·have hks:(Instr.keyThatStays ((Option.map (fun x=>x.key) es[j]?).getD (enc k)) (enc k)).run P w= .ok (enc k) w:=by
     rw[Array.getElem?_eq_getElem hje',Option.map_some,Option.getD_some,hkj]
     simp only[Instr.keyThatStays,hK.bits,if_true,Sem.run_pure]
    simp only[Instr.mapUpdate,Sem.run_bind,run_underlying (mR hm),Result.andThen_ok,MapKept.run_getObj_map hheap,hK.oQ,hf,hks,MapKept.run_setObj_map _ hheap]
   ·rw[hsm]
    refine List.ext_getElem? fun n=>?_
    simp only[List.getElem?_map,Array.getElem?_toList,Array.getElem?_modify,List.getElem?_set]
    by_cases hn:j=n
    ·subst hn
     simp[hje',hjl]
    ·have:=congrArg (·[n]?) hkey'
     simp only[List.getElem?_map,Array.getElem?_toList]at this
     simp only[if_neg hn,this,Option.map_map,Function.comp_def]
   ·rw[hsm]
    have hR:=hval.set j h3
    have e1:(es.modify j fun e=> {e with key:=enc k,val:=ρ y}).toList.map (·.val)=(es.toList.map (·.val)).set j (ρ y):=by
     refine List.ext_getElem? fun n=>?_
     simp only[List.getElem?_map,Array.getElem?_toList,Array.getElem?_modify,List.getElem?_set]
     by_cases hn:j=n
     ·subst hn
      simp[hje']
     ·simp only[if_neg hn]
    have e2:(l.set j (k,p)).map (·.2)=(l.map (·.2)).set j p:=by rw[List.map_set]
    rw[e1,e2]
    exact hR
omit [DecidableEq κ] in
theorem pH{mt:TypeId}(enc:κ→Value)(ho:o.op= .makeMap mt none):cS P σ t o (.own σ.length) (σ++[some (.mp (gb enc ([]:List (κ×PV))))]):=by
 intro F base E ρ w hρ hS hT
 have hr:(execOp ρ o).run P w= .ok (.value (.map (some w.heap.size))) (w.alloc (.map #[] 0)):=by
  simp[execOp,ho,Instr.makeMap]
 have hE:Ext w (w.alloc (.map #[] 0)):=(Ext.refl w).alloc _
 have hp:=hS.push hE (v:=.map (some w.heap.size)) (blk:=.mp (gb enc ([]:List (κ×PV)))) (fun b h=>by simp[bz]at h;omega) ⟨w.heap.size,#[],0,rfl,hS.bl,heap_alloc_new _ _,rfl,bb.nil _ _⟩
 exact⟨_,_,_,.inl hr,hp.1,hp.2,Below.iP hE hS.bl,.own σ.length (by simp[Env.push,hS.len]) _ (by simp[Env.push,hS.len]) rfl⟩
end
section
variable {P:Program} {σ:cm} {t:cd} {o:Oper} {N L:Nat}
def Kc(Q:Exit→St→Prop):Exit→St→Prop
 | .goto _,_=>False
 |e,s=>Q e s
theorem Al{c:Code}{st:St}{Q:Exit→St→Prop}(h:W P N L c st (Kc Q)):W P N L (.scope c) st Q:=fun F base E₀ w₀ E a w hc hs=>by
 refine wp_scope_straight (wp_mono (h F base E₀ w₀ E a w hc hs) ?_)
 rintro e a' w' ⟨s,E',h1,h2⟩
 cases e with
 |goto l=>exact h1.elim
 |normal=>exact⟨s,E',h1,h2⟩
 |exit _=>exact⟨s,E',h1,h2⟩
 |ret=>exact⟨s,E',h1,h2⟩
 |panic _=>exact⟨s,E',h1,h2⟩
 |outgrown=>exact⟨s,E',h1,h2⟩
theorem Av{l:Nat}{st:St}{Q:Exit→St→Prop}(h:Q .normal st):W P N L (.label l) st Q:=fun _ _ _ _ E _ _ hc hs=>wp_label ⟨st,E,h,hs,hc.g,hc.b⟩
theorem tZ{x:Operand}{k:Nat}{xs:List PV}{p:PV}(ho:o.op= .extract x k)(hx:aD t x=some (.tuple xs))(hp:xs[k]? =some p):l7 P t o p:=fun E ρ w hρ hT=>by
 have h1:=ay hρ hT hx
 generalize hz:ρ x=z at h1
 cases h1 with
 |tuple cs _ hl hr=>
  obtain⟨c,hcc,hcr⟩:=bb.get (E:=E) (w:=w) (cs:=cs.toList) ⟨by simpa using hl,fun i x u h1 h2=>hr i x u (by simpa using h1) h2⟩ hp
  have hcc':cs[k]? =some c:=by simpa using hcc
  exact⟨c,fun w'=>by simp only[execOp,ho,hz,Instr.extract,hcc',Sem.run_bind,Sem.run_pure,Result.andThen_ok],hcr⟩
theorem sS{x y:Operand}{ats:Array TypeId}{a b c:Int}(ho:o.op= .call {callee:=.builtin .min,args:= #[x,y],argTypes:=ats})(hx:aD t x=some (.raw (.int .i64 a)))(hy:aD t y=some (.raw (.int .i64 b)))(hc:min a b=c):br P σ t o (.raw (.int .i64 c)):=by
 intro F base E ρ w hρ _ hT
 have h1:=ay hρ hT hx
 have h2:=ay hρ hT hy
 generalize hz:ρ x=z at h1
 generalize hz':ρ y=z' at h2
 cases h1
 cases h2
 have he:(if b<a then b else a)=c:=by rw[←hc];by_cases h:b<a<;>simp[h]<;>omega
 simp[execOp,ho,resolve,invoke,builtin,Builtin.min_,Builtin.min2,hz,hz',he]
 exact bw (.raw _)
def xC(P:Program)(ty:TypeId):Bool:=match P.underlying ty with|some (.slice _)=>true|_=>false
theorem oV{ty:TypeId}(h:xC P ty=true):∃e,P.underlying ty=some (.slice e):=by
 unfold xC at h
 split at h
 ·rename_i e hu;exact⟨e,hu⟩
 ·cases h
theorem Ga{x y:Operand}{ty tz:TypeId}(ho:o.op= .binOp .eql ty x y tz)(hk:xC P ty=true)(hx:aD t x=some (.raw (.slice none 0 0)))(hy:aD t y=some (.raw (.slice none 0 0))):br P σ t o (.raw (.bool true)):=by
 obtain⟨e,hu⟩:=oV hk
 refine wq ho hx hy fun w=>?_
 have:=Lib.run_eql_slice_nil w ty e none 0 0 0 0 hu
 have hg:∀a n c b m d,(eqGuard .eql ty x y (.slice a n c) (.slice b m d)).run P w= .ok () w:=fun _ _ _ _ _ _=>rfl
 simp only[Sem.run_bind,hg,Result.andThen_ok,this]
 rfl
theorem oE{x y:Operand}{ty tz:TypeId}{n:Nat}{xs:List PV}(ho:o.op= .binOp .eql ty x y tz)(hk:xC P ty=true)(hx:aD t x=some (.slice n xs))(hy:aD t y=some (.raw (.slice none 0 0)))(hn:0<n):br P σ t o (.raw (.bool false)):=by
 obtain⟨e,hu⟩:=oV hk
 intro F base E ρ w hρ _ hT
 have h1:=ay hρ hT hx
 have h2:=ay hρ hT hy
 generalize hz:ρ x=z at h1
 generalize hz':ρ y=z' at h2
 cases h2
 have hv:∃a c,z= .slice (some a) n c:=by
  cases h1 with
  |bT=>omega
  |empty=>omega
  |slice b off _ c cs _ h0=>exact⟨_,_,rfl⟩
 obtain⟨a,c,rfl⟩:=hv
 have:=Lib.run_eql_slice_nil w ty e (some a) n c 0 0 hu
 have hg:∀a n c b m d,(eqGuard .eql ty x y (.slice a n c) (.slice b m d)).run P w= .ok () w:=fun _ _ _ _ _ _=>rfl
 simp only[execOp,ho,hz,hz',Sem.run_bind,Sem.run_pure,Result.andThen_ok,hg,this]
 exact bw (.raw _)
end
end PW
end Go.Proofs.YtnegbdpggideiaaGreatDoor
namespace Go.Proofs.YtnegbdpggideiaaGreatDoor
namespace PW
open Go.RowKit cH Mem Net
theorem bS.xg{P:Program}{f:FuncId}{ps:List PV}{σ:cm}{R:PV→Prop}(h:Can P f ps R)[aO ps]:bS P f ps σ (fun r σ'=>R r∧σ'=σ):=fun F base E w vs hS hR=>by
 refine(h E.M w vs (fun b hb=>hS.lt hb) hS.gl (hR.pure (fun _ h=>h))).mono ?_
 rintro e w' ⟨v,rfl,hE,r,hr,hv⟩
 exact⟨v,r,σ,E,rfl,⟨hr,rfl⟩,hS.ext hE,.ext hE,Below.iP hE hS.bl,hv.back⟩
section
variable {T:an} {D:List Bool} {d:Nat}
structure uS (T:an) (D:List Bool) (d:Nat) (O:List Int):Prop where
 nodup:O.Nodup
 mem:∀x,x∈O↔∃k:Nat,x=(k:Int)∧(k:Int)<T.nodes∧0≤dN T D d k
 pair:O.Pairwise fun x y=>dN T D d y.toNat≤dN T D d x.toNat
theorem uS.of(hv:ao T=true)(hd:(d:Int)<T.nodes){O:List Int}(h1:O.Perm (ph (bn T D d false) (bn T D d false).length))(h2:O.Pairwise (tj (bn T D d false))):uS T D d O:=by
 obtain⟨hb1,_⟩:=cI (D:=D) hv (dir:=false) hd
 refine⟨h1.nodup_iff.2 (yI _ _),fun x=>?_,h2.imp fun {x y} h=>?_⟩
 ·rw[h1.mem_iff,wm]
  constructor
  ·rintro⟨k,e,h3,h4⟩;exact⟨k,e,by omega,h4⟩
  ·rintro⟨k,e,h3,h4⟩;exact⟨k,e,by omega,h4⟩
 ·unfold tj at h
  show(bn T D d false).getD _ 0≤(bn T D d false).getD _ 0
  omega
noncomputable def iN(T:an)(D:List Bool)(d:Nat)(c:Int)(l:List Int):Int:=l.foldl (fun c a=>min 2 (c+dB T D d (aW T a.toNat).toNat)) c
structure nE (T:an) (D:List Bool) (d:Nat) (R cs:List Int) (i:Nat):Prop where
 len:(cs.length:Int)=T.nodes
 val:∀m:Nat,(m:Int)<T.nodes→cs.getD m 0=if m=d then 1 else if(m:Int)∈R.take i then dB T D d m else 0
theorem nE.start(hd:(d:Int)<T.nodes)(R:List Int):nE T D d R ((List.replicate T.nodes.toNat 0).set d 1) 0:=by
 refine⟨by simp;omega,fun m hm=>?_⟩
 rw[List.getD_eq_getElem?_getD,List.getElem?_set]
 by_cases h:d=m
 ·subst h;rw[if_pos rfl,if_pos (by simp;omega),if_pos rfl];rfl
 ·rw[if_neg h,if_neg (fun e=>h e.symm),List.getElem?_replicate,if_pos (by omega)];rfl
theorem nE.next(hv:ao T=true)(hd:(d:Int)<T.nodes){O cs:List Int}{i m a y:Nat}(hO:uS T D d O)(h:nE T D d O.reverse cs i)(hi:i<O.reverse.length)(hm:O.reverse.getD i 0=(m:Int))(ha:(a:Int)∈aX T D m d)(hy:aW T a=(y:Int)):cs.getD y 0=dB T D d y∧y≠m∧(y:Int)<T.nodes:=by
 obtain⟨b,hb,hn⟩:=cL ha
 have hba:b=a:=by omega
 subst hba
 obtain⟨y',hy',hyN⟩:=dt hv hn.eU
 have:y'=y:=by omega
 subst this
 have hdy:=hn.dN hy
 have hc:=(aM hv).cost b hn.eU
 refine⟨?_,fun e=>by subst e;omega,hyN⟩
 rw[h.val y' hyN]
 by_cases hyd:y'=d
 ·subst hyd;rw[if_pos rfl,nU]
 ·rw[if_neg hyd,if_pos ?_]
  have hyO:(y':Int)∈O.reverse:=List.mem_reverse.2 ((hO.mem _).2 ⟨y',rfl,hyN,hdy.1⟩)
  have hs:O.reverse=O.reverse.take i++(m:Int)::O.reverse.drop (i+1):=by rw[←hm,←drop_cons _ _ hi,List.take_append_drop]
  have hp:O.reverse.Pairwise fun x y=>dN T D d x.toNat≤dN T D d y.toNat:=List.pairwise_reverse.2 hO.pair
  rw[hs]at hp hyO
  rcases List.mem_append.1 hyO with h1|h1
  ·exact h1
  ·exfalso
   have hp2:=(List.pairwise_append.1 hp).2.1
   rcases List.mem_cons.1 h1 with h2|h2
   ·have:y'=m:=by omega
    subst this;omega
   ·have:=(List.pairwise_cons.1 hp2).1 _ h2
    simp only[Int.toNat_natCast]at this
    omega
theorem nE.fresh{O cs:List Int}{i m:Nat}(hO:uS T D d O)(h:nE T D d O.reverse cs i)(hi:i<O.reverse.length)(hm:O.reverse.getD i 0=(m:Int)):(m:Int)<T.nodes∧0≤dN T D d m∧cs.getD m 0=if m=d then 1 else 0:=by
 have hmO:(m:Int)∈O.reverse:=by rw[←hm];exact bO hi
 obtain⟨k,hk,hkN,hk0⟩:=(hO.mem _).1 (List.mem_reverse.1 hmO)
 have:k=m:=by omega
 subst this
 refine⟨hkN,hk0,?_⟩
 rw[h.val k hkN]
 have hs:O.reverse=O.reverse.take i++(k:Int)::O.reverse.drop (i+1):=by rw[←hm,←drop_cons _ _ hi,List.take_append_drop]
 have hn:O.reverse.Nodup:=List.pairwise_reverse.2 (hO.nodup.imp fun h=>fun e=>h e.symm)
 rw[hs]at hn
 have hnot:¬(k:Int)∈O.reverse.take i:=fun h1=>(List.pairwise_append.1 hn).2.2 _ h1 (k:Int) (by simp) rfl
 rw[if_neg hnot]
theorem nE.step(hv:ao T=true)(hd:(d:Int)<T.nodes){O cs:List Int}{i m:Nat}(hO:uS T D d O)(h:nE T D d O.reverse cs i)(hi:i<O.reverse.length)(hm:O.reverse.getD i 0=(m:Int)):nE T D d O.reverse (cs.set m (iN T D d (cs.getD m 0) (aX T D m d))) (i+1):=by
 obtain⟨hmN,_,hf⟩:=h.fresh hO hi hm
 have hml:m<cs.length:=by have:=h.len;omega
 refine⟨by simpa using h.len,fun x hx=>?_⟩
 rw[List.getD_eq_getElem?_getD,List.getElem?_set,dc _ _ 0 hi,hm]
 by_cases hxm:m=x
 ·subst hxm
  rw[if_pos rfl,if_pos hml,Option.getD_some,hf]
  by_cases hmd:m=d
  ·subst hmd;rw[if_pos rfl,if_pos rfl,jb];rfl
  ·rw[if_neg hmd,if_neg hmd,if_pos (by simp),rA hv hd hmN hmd];rfl
 ·rw[if_neg hxm,←List.getD_eq_getElem?_getD,h.val x hx]
  by_cases hxd:x=d
  ·rw[if_pos hxd,if_pos hxd]
  ·rw[if_neg hxd,if_neg hxd]
   have:(x:Int)∈O.reverse.take i++[(m:Int)]↔(x:Int)∈O.reverse.take i:=by
    simp only[List.mem_append,List.mem_singleton]
    exact⟨fun h=>h.elim id (fun e=>absurd e (by omega)),.inl⟩
   by_cases h1:(x:Int)∈O.reverse.take i
   ·rw[if_pos h1,if_pos (this.2 h1)]
   ·rw[if_neg h1,if_neg (fun h2=>h1 (this.1 h2))]
theorem nE.done(hv:ao T=true)(hd:(d:Int)<T.nodes){O cs:List Int}{n:Nat}(hO:uS T D d O)(h:nE T D d O.reverse cs O.reverse.length)(hn:(n:Int)<T.nodes):cs.getD n 0=dB T D d n:=by
 rw[h.val n hn,List.take_length]
 by_cases hnd:n=d
 ·subst hnd;rw[if_pos rfl,nU]
 ·rw[if_neg hnd]
  by_cases h1:(n:Int)∈O.reverse
  ·rw[if_pos h1]
  ·rw[if_neg h1]
   refine(Am hv hd hn (Int.not_le.1 fun h0=>h1 (List.mem_reverse.2 ((hO.mem _).2 ⟨n,rfl,hn,h0⟩)))).symm
theorem rH(c:Int):iN T D d c []=c:=rfl
theorem ry(c:Int)(l:List Int)(k a:Nat)(hk:k<l.length)(ha:l.getD k 0=(a:Int)):iN T D d c (l.take (k+1))=min 2 (iN T D d c (l.take k)+dB T D d (aW T a).toNat):=by
 unfold iN
 rw[dc _ _ 0 hk,List.foldl_append,ha]
 rfl
theorem pO(hv:ao T=true)(hd:(d:Int)<T.nodes)(c:Int)(h0:0≤c)(h2:c≤2)(l:List Int):0≤iN T D d c l∧iN T D d c l≤2:=oq _ (fun a=>(ju hv hd _).1) l c h0 h2
theorem wh(cs:List Int)(m:Nat)(hm:m<cs.length):cs.set m (cs.getD m 0)=cs:=by
 rw[List.getD_eq_getElem?_getD,List.getElem?_eq_getElem hm,Option.getD_some,List.set_getElem_self]
end
def yw(T:an)(D:List Bool)(n d:Int)(c:Int):PV:=.tuple [num (if bV T D n d=0 then c else 0),num (bV T D n d)]
set_option maxHeartbeats 2000000 in
theorem Bu(T:an)(D:List Bool)(n d:Int)(h12:T.nodes≤12):Can Tryz.prog 178 [aN T,aQ D,num n,num d,num 2] (· =yw T D n d (dB T D d.toNat n.toNat)):=by
 refine aE Tryz.func178 rfl Tryz.ntmps178 rfl<|ab (.a 3 rfl<|.k [1,2,3,4,5] rfl)<|ab (.a 4 rfl<|.c rfl (tD T D n d) rfl<|.a 5 rfl<|.k [1,2,3,4,5,12,13] rfl)<|ah<|ab (.a 2 rfl<|.k [1,2,3,4,5,12,13,31] rfl)<|ag rfl (fun hc=>?_) (fun hc=>?_)
 ·have he:bV T D n d≠0:=tt hc
  exact ab (.a 3 rfl<|.k [10,11] rfl)<|aq<|⟨_,_,aA.of rfl,aB.pure,by unfold yw;rw[if_neg he];rfl⟩
 ·have he:bV T D n d=0:=Classical.byContradiction (ff hc)
  rw[he]
  obtain⟨hv,hf,hn,hd⟩:=eS he
  rw[aT]at hn hd
  obtain⟨n,rfl⟩:=Int.eq_ofNat_of_zero_le hn.1
  obtain⟨d,rfl⟩:=Int.eq_ofNat_of_zero_le hd.1
  have hn:=hn.2
  have hd:=hd.2
  have hll:=bJ hv
  have hS:=aM hv
  obtain⟨hb1,hb2⟩:=cI (D:=D) hv (dir:=false) hd
  obtain⟨N,hN⟩:∃N:Nat,T.nodes=(N:Int):=⟨T.nodes.toNat,by omega⟩
  have hNt:T.nodes.toNat=N:=by omega
  refine ai<|ah<|ab (.a 2 rfl<|.k [1,2,3,4,5,12,34] rfl)<|ag rfl (fun hc=>?_) (fun hc=>?_)
  ·cases hc
  ·refine ai<|ab (.a 1 rfl<|.c rfl (lA T hv) rfl<|.a 1 rfl<|.k [1,2,3,4,5,12,14] rfl)<|aP<|av 2 rfl<|cp (dF rfl (bI.rk.get rfl) rfl rfl hN hN ⟨by unfold maxLen;omega,by omega⟩) rfl<|av 1 rfl<|aG [1,2,3,4,5,12,14,15] rfl ?_
   refine er (σ':=[dW (List.replicate N 0)]) (by unfold dW;rw[List.length_replicate,←cO];rfl) ?_
   refine aP<|av 3 rfl<|bC (sS (c:=1) rfl rfl rfl rfl) rfl<|bC (aJ (d) rfl (by omega) (by rw[List.length_replicate];omega)) rfl<|bg ((by first|exact bE rfl (bI.tk.get rfl) rfl rfl rfl (by first|omega|(simp;omega))|exact aV rfl (bI.tk.get rfl) rfl rfl rfl (by first|omega|(simp;omega)))) rfl rfl<|aG [1,2,3,4,5,12,14,15] rfl ?_
   refine er (σ':=[dW ((List.replicate T.nodes.toNat 0).set d 1)]) ?_ ?_
   ·rw[hNt];unfold dW;simp only[List.length_set,List.length_replicate];rfl
   have hI0:=nE.start (D:=D) hd
   generalize (List.replicate T.nodes.toNat (0:Int)).set d 1=cs0 at hI0
   refine aP<|av 1 rfl<|cP rfl rfl (bS.mono (yY (bn T D d false) cs0 (by omega)) (fun _ σ' h=>?_))
   obtain⟨O,hO1,hO2,rfl,rfl⟩:=h
   refine av 1 rfl<|aG [1,2,3,4,5,12,14,15,16] rfl ?_
   have hO:=uS.of hv hd hO1 hO2
   have hOl:O.length≤12:=by have:=hO1.length_eq;have:=xc (bn T D d false) (bn T D d false).length;omega
   refine aP<|av 1 rfl<|cP rfl rfl (bS.mono (yc O (dW cs0) hOl) (fun _ σ' h=>?_))
   subst h
   refine aG [1,2,3,4,5,12,14,15,16] rfl ?_
   refine ah<|ab (.a 3 rfl<|.k [1,2,3,4,5,12,14,15,49,50,51] rfl)<|au<|eu [1,2,3,4,5,12,14,15,49,50,51] rfl<|bf (fun r st=>∃(cs:List Int) (i:Nat),i≤O.reverse.length∧r=O.reverse.length - i∧nE T D d O.reverse cs i∧st=⟨[(1,aQ D),(2,num n),(3,num d),(4,num 2),(5,.aY (bq T) 0),(12,aw (bn T D d false)),(14,jt (du (aZ T) T.nodes.toNat (2*T.ae.length))),(15,.own 0),(49,.own 1),(50,num O.reverse.length),(51,num i)],[dW cs,dW O.reverse]⟩) O.reverse.length ⟨cs0,0,by omega,by omega,hI0 _,rfl⟩ ?_
   rintro r st ⟨cs,i,hi,rfl,hI,rfl⟩
   have hRl:O.reverse.length≤12:=by simpa using hOl
   refine ab (.a 1 rfl<|.k [1,2,3,4,5,12,14,15,49,50,51,52] rfl)<|ah<|ag rfl (fun hx=>?_) (fun hx=>?_)
   ·have hlt:i<O.reverse.length:=by have:=tt hx;omega
    obtain⟨m,hm⟩:∃m:Nat,O.reverse.getD i 0=(m:Int):=by
     obtain⟨k,hk,_⟩:=(hO.mem _).1 (List.mem_reverse.1 (bO (d:=0) hlt))
     exact⟨k,hk⟩
    obtain⟨hmN,hm0,hf0⟩:=hI.fresh hO hlt hm
    have hcl:=hI.len
    have hrow:=wH T m (by omega)
    have hnx:=s7 T D (bn T D d false) (bG T m) m d hv hf hb1 hb2 hmN hd (fun a ha=>jz ha) (Nat.le_trans (ee T m _) (by omega))
    have hnx:Can Tryz.prog 148 [aN T,aQ D,aw (bn T D d false),aw (bG T m),num m,num d] (· =aw (aX T D m d)):=hnx
    have hnl:(aX T D m d).length≤512:=by
     have h1:(aX T D m d).length≤(bG T m).length:=by unfold aX jw;split;simp;exact List.length_filter_le _ _
     exact Nat.le_trans h1 (Nat.le_trans (ee T m _) (by omega))
    have hset:=wh cs m (by omega)
    have hcr:0≤cs.getD m 0∧cs.getD m 0≤2:=by rw[hf0];split<;>omega
    refine ai<|ah<|au<|ab (.v (aJ (i) rfl) rfl<|.v (aL rfl ((ax _ i hlt).trans (by rw[hm]))) rfl<|.a 1 rfl<|.k [1,2,3,4,5,12,14,15,18,49,50,51] rfl)<|dY mixed (by kernel_rfl) (.a 5 rfl<|.v [58,59] (aJ (m) rfl (by omega) (by rw[eY];omega)) rfl rfl<|.v [60] (aL rfl ((sM _ m (by rw[eY];omega)).trans (by rw[hrow]))) rfl rfl<|.a 2 rfl<|.v [55,56,57,61,62,63] (dJ rfl (hnx)) rfl rfl<|.a 2 rfl<|.k [1,2,3,4,5,12,14,15,18,49,50,51,64,65,66] rfl) ?_
    refine au<|eu [1,2,3,4,5,12,14,15,18,49,50,51,64,65,66] rfl<|bf (fun r st=>∃k:Nat,k≤(aX T D m d).length∧r=(aX T D m d).length - k∧st=⟨[(1,aQ D),(2,num n),(3,num d),(4,num 2),(5,.aY (bq T) 0),(12,aw (bn T D d false)),(14,jt (du (aZ T) T.nodes.toNat (2*T.ae.length))),(15,.own 0),(18,num m),(49,.own 1),(50,num O.reverse.length),(51,num i),(64,aw (aX T D m d)),(65,num (aX T D m d).length),(66,num k)],[dW (cs.set m (iN T D d (cs.getD m 0) ((aX T D m d).take k))),dW O.reverse]⟩) (aX T D m d).length ⟨0,by omega,by omega,by rw[List.take_zero,rH,hset];rfl⟩ ?_
    rintro r st ⟨k,hk,rfl,rfl⟩
    have hfr:=pO (D:=D) hv hd (cs.getD m 0) hcr.1 hcr.2 ((aX T D m d).take k)
    have hfst:=ry (T:=T) (D:=D) (d:=d) (cs.getD m 0) (aX T D m d) k
    generalize hd12:iN T D d (cs.getD m 0) ((aX T D m d).take k)=c at hfr hfst
    refine ab (.a 1 rfl<|.k [1,2,3,4,5,12,14,15,18,49,50,51,64,65,66,67] rfl)<|ah<|ag rfl (fun hy=>?_) (fun hy=>?_)
    ·have hkl:k<(aX T D m d).length:=by have:=tt hy;omega
     obtain⟨a,ha,han⟩:=cL (bO (d:=0) hkl)
     have hmem:(a:Int)∈aX T D m d:=by rw[←ha];exact bO hkl
     obtain⟨y,hyh,hyN⟩:=dt hv han.eU
     obtain⟨hcy,hym,_⟩:=hI.next hv hd hO hlt hm hmem hyh
     have hh:=fQ T a han.eU (by omega)
     rw[hyh]at hh
     have hcyr:=ju (D:=D) hv hd y
     have hg1:(cs.set m c).getD y 0=dB T D d y:=by rw[←hcy,List.getD_eq_getElem?_getD,List.getElem?_set,if_neg (fun e=>hym e.symm),←List.getD_eq_getElem?_getD]
     have hg2:(cs.set m c).getD m 0=c:=by rw[List.getD_eq_getElem?_getD,List.getElem?_set,if_pos rfl,if_pos (by omega)];rfl
     have hfst:=hfst a hkl ha
     rw[hyh,Int.toNat_natCast]at hfst
     refine ai<|ah<|au<|ab (.v (aJ (k) rfl) rfl<|.v (aL rfl ((ax _ k hkl).trans (by rw[ha]))) rfl<|.a 1 rfl<|.k [1,2,3,4,5,12,14,15,18,20,49,50,51,64,65,66] rfl)<|ab (.a 3 rfl<|.c rfl (hh) rfl<|.v (aJ (y) rfl (by omega) (by simp only[List.length_set];omega)) rfl<|.v (aL rfl ((ax _ y (by simp only[List.length_set];omega)).trans (by rw[hg1]))) rfl<|.a 1 rfl<|.k [1,2,3,4,5,12,14,15,18,21,49,50,51,64,65,66] rfl)<|ab (.a 4 rfl<|.v (aJ (m) rfl (by omega) (by simp only[List.length_set];omega)) rfl<|.v (aL rfl ((ax _ m (by simp only[List.length_set];omega)).trans (by rw[hg2]))) rfl<|.v (aS rfl) rfl<|.a 1 rfl<|.k [1,2,3,4,5,12,14,15,18,21,49,50,51,64,65,66,83] rfl)<|ag rfl (fun hz=>?_) (fun hz=>?_)
     ·have hv2:iN T D d (cs.getD m 0) ((aX T D m d).take (k+1))=2:=by have:=tt hz;omega
      refine bF<|av 3 rfl<|bC (aJ (m) rfl (by omega) (by simp only[List.length_set];omega)) rfl<|bg ((by first|exact bE rfl (bI.tk.get rfl) rfl rfl rfl (by first|omega|(simp;omega))|exact aV rfl (bI.tk.get rfl) rfl rfl rfl (by first|omega|(simp;omega)))) rfl rfl<|aG [1,2,3,4,5,12,14,15,18,49,50,51,64,65,66] rfl ?_
      refine az (.v (aS rfl) rfl<|.a 1 rfl<|.k [1,2,3,4,5,12,14,15,18,49,50,51,64,65,66] rfl) ?_
      refine⟨(aX T D m d).length - (k+1),by omega,k+1,by omega,rfl,?_⟩
      rw[hv2]
      unfold dW
      simp only[List.length_set,List.set_set]
      rfl
     ·have hv2:iN T D d (cs.getD m 0) ((aX T D m d).take (k+1))=c+dB T D d y:=by have:=ff hz;omega
      refine bF<|av 2 rfl<|bC (aJ (m) rfl (by omega) (by simp only[List.length_set];omega)) rfl<|bC (aL rfl ((ax _ m (by simp only[List.length_set];omega)).trans (by rw[hg2]))) rfl<|av 1 rfl<|bC (aS rfl) rfl<|bC (aJ (m) rfl (by omega) (by simp only[List.length_set];omega)) rfl<|bg ((by first|exact bE rfl (bI.tk.get rfl) rfl rfl rfl (by first|omega|(simp;omega))|exact aV rfl (bI.tk.get rfl) rfl rfl rfl (by first|omega|(simp;omega)))) rfl rfl<|aG [1,2,3,4,5,12,14,15,18,49,50,51,64,65,66] rfl ?_
      refine az (.v (aS rfl) rfl<|.a 1 rfl<|.k [1,2,3,4,5,12,14,15,18,49,50,51,64,65,66] rfl) ?_
      refine⟨(aX T D m d).length - (k+1),by omega,k+1,by omega,rfl,?_⟩
      rw[hv2]
      unfold dW
      simp only[List.length_set,List.set_set]
      rfl
    ·have hke:k=(aX T D m d).length:=by have:=ff hy;omega
     refine ba<|az (.v (aS rfl) rfl<|.a 1 rfl<|.k [1,2,3,4,5,12,14,15,49,50,51] rfl) ?_
     have hI2:=hI.step hv hd hO hlt hm
     rw[hke,List.take_length]at hd12
     exact⟨O.reverse.length - (i+1),by omega,cs.set m (iN T D d (cs.getD m 0) (aX T D m d)),i+1,by omega,rfl,hI2,by rw[hd12];rfl⟩
   ·have hie:i=O.reverse.length:=by have:=ff hx;omega
    subst hie
    have hres:=hI.done hv hd hO hn
    have hcl:=hI.len
    exact ba<|ab (.a 2 rfl<|.v (aJ (n) rfl) rfl<|.v (aL rfl ((ax cs n (by omega)).trans (by rw[hres]))) rfl<|.a 2 rfl<|.k [10,11] rfl)<|aq<|⟨_,_,aA.of rfl,aB.pure,by unfold yw;rw[he,if_pos rfl];rfl⟩
theorem s5(T:an)(D:List Bool)(n d:Int):eW T D n d=(decide (bV T D n d=0)&&decide ((if bV T D n d=0 then dB T D d.toNat n.toNat else 0)=1)):=by
 unfold eW
 by_cases h:bV T D n d=0
 ·rw[if_pos h]
 ·simp[h]
set_option maxHeartbeats 2000000 in
theorem sc(T:an)(D:List Bool)(n d:Int)(h12:T.nodes≤12):Can Tryz.prog 152 [aN T,aQ D,num n,num d] (· =flag (eW T D n d)):=by
 rw[s5]
 obtain⟨q1,hq1⟩:∃q,decide (bV T D n d=0)=q:=⟨_,rfl⟩
 obtain⟨q2,hq2⟩:∃q,decide ((if bV T D n d=0 then dB T D d.toNat n.toNat else 0)=1)=q:=⟨_,rfl⟩
 rw[hq1,hq2]
 refine aE Tryz.func152 rfl Tryz.ntmps152 rfl<|ab (.a 2 rfl<|.k [1,2,3,4] rfl)<|ab (.a 4 rfl<|.c rfl (Bu T D n d h12) rfl<|.a 5 rfl<|.k [9,10] rfl)<|bu 8 (.raw (.bool (q1&&q2))) [] rfl ?_ ?_
 ·refine .a 1 rfl<|.v (b9 rfl (hq1)) rfl<|.a 1 rfl<|?_
  cases q1
  ·exact .a 4 rfl<|.k [8] rfl
  ·exact .a 1 rfl<|.v (b9 rfl (hq2)) rfl<|.a 2 rfl<|.k [8] rfl
 exact aq<|⟨_,_,aA.of rfl,aB.pure,rfl⟩
set_option maxHeartbeats 2000000 in
theorem Hb(l:List Int)(n:Int)(hl:l.length≤100000):Can Tryz.prog 210 [aw l,num n] (· =flag (decide (n∈l))):=by
 refine aE Tryz.func210 rfl Tryz.ntmps210 rfl<|ab (.a 1 rfl<|.k [0,1] rfl)<|ah<|ab (.a 1 rfl<|.k [0,1,5] rfl)<|au<|eu [0,1,5] rfl<|bf (fun r st=>∃i:Nat,i≤l.length∧r=l.length - i∧¬n∈l.take i∧st=⟨[(0,aw l),(1,num n),(5,num i)],[]⟩) l.length ⟨0,by omega,by omega,by simp,rfl⟩ ?_
 rintro r st ⟨i,hi,rfl,hno,rfl⟩
 refine ah<|ab (.a 4 rfl<|.k [0,1,5,9] rfl)<|ag rfl (fun hc=>?_) (fun hc=>?_)
 ·have hlt:i<l.length:=by have:=tt hc;omega
  refine ai<|ah<|au<|ab (.a 2 rfl<|.v (aJ (i) rfl) rfl<|.v (aL rfl (ax l i hlt)) rfl<|.a 2 rfl<|.k [0,1,5,17] rfl)<|ag rfl (fun hy=>?_) (fun hy=>?_)
  ·have h1:l.getD i 0=n:=tt hy
   exact ab (.a 1 rfl<|.k [4] rfl)<|aq<|⟨_,_,aA.of rfl,aB.pure,by rw[show decide (n∈l)=true from decide_eq_true (by rw[←h1];exact bO hlt)];rfl⟩
  ·have h1:¬l.getD i 0=n:=ff hy
   refine ai<|az (.a 1 rfl<|.v (aS rfl) rfl<|.a 1 rfl<|.k [0,1,5] rfl) ?_
   refine⟨l.length - (i+1),by omega,i+1,by omega,rfl,fun h=>?_,rfl⟩
   rw[dc _ _ 0 hlt,List.mem_append,List.mem_singleton]at h
   exact h.elim hno (fun e=>h1 e.symm)
 ·have hie:i=l.length:=by have:=ff hc;omega
  subst hie
  rw[List.take_length]at hno
  exact ba<|ab (.a 1 rfl<|.k [4] rfl)<|aq<|⟨_,_,aA.of rfl,aB.pure,by rw[show decide (n∈l)=false from decide_eq_false hno];rfl⟩
structure pc (L out:List Int) (i:Nat) (b:Int):Prop where
 none:b<0→∀k:Nat,k<i→0≤L.getD k 0→(k:Int)∈out
 some:∀n:Nat,b=(n:Int)→n<i∧0≤L.getD n 0∧¬(n:Int)∈out∧∀k:Nat,k<i→0≤L.getD k 0→¬(k:Int)∈out→L.getD k 0≤L.getD n 0
theorem pc.start(L out:List Int):pc L out 0 (-1):=⟨fun _ k h=>by omega,fun n h=>by omega⟩
theorem pc.yes{L out:List Int}{i:Nat}{b:Int}(h:pc L out i b)(h1:0≤L.getD i 0)(h2:¬(i:Int)∈out)(h3:b<0∨∃n:Nat,b=(n:Int)∧L.getD n 0<L.getD i 0):pc L out (i+1) i:=by
 refine⟨fun h=>by omega,fun n hn=>?_⟩
 have:n=i:=by omega
 subst this
 refine⟨by omega,h1,h2,fun k hk hk0 hko=>?_⟩
 by_cases hki:k=n
 ·subst hki;omega
 ·rcases h3 with h3|⟨m,hm,hlt⟩
  ·exact absurd (h.none h3 k (by omega) hk0) hko
  ·have:=(h.some m hm).2.2.2 k (by omega) hk0 hko
   omega
theorem pc.no{L out:List Int}{i:Nat}{b:Int}(h:pc L out i b)(h1:¬(0≤L.getD i 0∧¬(i:Int)∈out∧(b<0∨∃n:Nat,b=(n:Int)∧L.getD n 0<L.getD i 0))):pc L out (i+1) b:=by
 refine⟨fun hb k hk hk0=>?_,fun n hn=>?_⟩
 ·by_cases hki:k=i
  ·subst hki;exact Classical.byContradiction fun ho=>h1 ⟨hk0,ho,.inl hb⟩
  ·exact h.none hb k (by omega) hk0
 ·obtain⟨a1,a2,a3,a4⟩:=h.some n hn
  refine⟨by omega,a2,a3,fun k hk hk0 hko=>?_⟩
  by_cases hki:k=i
  ·subst hki;exact Int.not_lt.1 fun hl=>h1 ⟨hk0,hko,.inr ⟨n,hn,hl⟩⟩
  ·exact a4 k (by omega) hk0 hko
structure Part (L out:List Int):Prop where
 nodup:out.Nodup
 mem:∀x∈out,∃k:Nat,x=(k:Int)∧k<L.length∧0≤L.getD k 0
 pair:out.Pairwise fun x y=>L.getD y.toNat 0≤L.getD x.toNat 0
 rest:∀x∈out,∀k:Nat,k<L.length→0≤L.getD k 0→¬(k:Int)∈out→L.getD k 0≤L.getD x.toNat 0
theorem Part.len{L out:List Int}(h:Part L out):out.length≤L.length:=by
 have h1:=ob L.length (out.map Int.toNat) (by
  unfold List.Nodup
  rw[List.pairwise_map]
  refine List.Pairwise.imp_of_mem ?_ h.nodup
  intro a b ha hb hne e
  obtain⟨k,rfl,_⟩:=h.mem a ha
  obtain⟨k',rfl,_⟩:=h.mem b hb
  simp only[Int.toNat_natCast]at e
  exact hne (by rw[e])) (fun x hx=>by
  obtain⟨y,hy,rfl⟩:=List.mem_map.1 hx
  obtain⟨k,rfl,hk,_⟩:=h.mem y hy
  simpa using hk)
 simpa using h1
theorem Part.snoc{L out:List Int}{n:Nat}(h:Part L out)(hb:pc L out L.length n):Part L (out++[(n:Int)]):=by
 obtain⟨a1,a2,a3,a4⟩:=hb.some n rfl
 refine⟨List.pairwise_append.2 ⟨h.nodup,by simp,fun a ha b hb e=>a3 (by simp at hb;rw[←hb,←e];exact ha)⟩,fun x hx=>?_,List.pairwise_append.2 ⟨h.pair,by simp,fun a ha b hb=>?_⟩,fun x hx k hk hk0 hko=>?_⟩
 ·rcases List.mem_append.1 hx with h1|h1
  ·exact h.mem x h1
  ·simp at h1;subst h1;exact⟨n,rfl,a1,a2⟩
 ·simp at hb;subst hb
  exact h.rest a ha n a1 a2 a3
 ·have hko':¬(k:Int)∈out:=fun h=>hko (List.mem_append.2 (.inl h))
  rcases List.mem_append.1 hx with h1|h1
  ·exact h.rest x h1 k hk hk0 hko'
  ·simp at h1;subst h1;rw[Int.toNat_natCast];exact a4 k hk hk0 hko'
def Kt(e:Int)(O:List Int):PV:=.tuple [aw O,num e]
set_option maxHeartbeats 2000000 in
theorem CP(T:an)(D:List Bool)(d:Nat)(h12:T.nodes≤12)(he:cf T D [(d:Int)]=0):Can Tryz.prog 246 [aN T,aQ D,num d] (fun r=>∃O,uS T D d O∧r=Kt 0 O):=by
 obtain⟨hv,hf,hd⟩:=pG he
 have hd:=(aT.1 (hd d (by simp))).2
 obtain⟨hb1,hb2⟩:=cI (D:=D) hv (dir:=false) hd
 have hrd:=gU T D (d:Int)
 rw[he]at hrd
 have hrd:Can Tryz.prog 36 [aN T,aQ D,num d] (· = .tuple [aw (bn T D d false),num 0]):=hrd
 have hfin:∀out,Part (bn T D d false) out→(∀k:Nat,k<(bn T D d false).length→0≤(bn T D d false).getD k 0→(k:Int)∈out)→uS T D d out:=fun out h h2=>
  ⟨h.nodup,fun x=>⟨fun hx=>by obtain⟨k,e,h3,h4⟩:=h.mem x hx;exact⟨k,e,by omega,h4⟩,by rintro⟨k,rfl,h3,h4⟩;exact h2 k (by omega) h4⟩,h.pair⟩
 generalize hLd:bn T D d false=L at hb1 hb2 hrd hfin
 obtain⟨N,hN⟩:∃N:Nat,T.nodes=(N:Int):=⟨L.length,by omega⟩
 have hNL:L.length=N:=by omega
 refine aE Tryz.func246 rfl Tryz.ntmps246 rfl<|ab (.a 3 rfl<|.k [1,2,3] rfl)<|ab (.a 3 rfl<|.c rfl (hrd) rfl<|.a 5 rfl<|.k [3,8,9] rfl)<|ah<|ab (.a 2 rfl<|.k [3,8,9,21] rfl)<|ag rfl (fun hc=>?_) (fun hc=>?_)
 ·cases hc
 ·refine ai<|ab (.a 1 rfl<|.k [3,8,10] rfl)<|fp 10 3 1 rfl ?_
  refine au<|eu [3,8,10] rfl<|bf (fun r st=>∃out,Part L out∧r=N - out.length∧st=⟨[(3,.aY (bq T) 0),(8,aw L),(10,.own 0)],[dW out]⟩) N ⟨[],⟨by simp,by simp,by simp,by simp⟩,by simp,rfl⟩ ?_
  rintro r st ⟨out,hP,rfl,rfl⟩
  have hol:=hP.len
  refine au<|ab (.a 1 rfl<|.k [3,8,10,11] rfl)<|ah<|ab (.a 1 rfl<|.k [3,8,10,11,12] rfl)<|au<|eu [3,8,10,11,12] rfl<|bf (fun r st=>∃(i:Nat) (b:Int),i≤N∧r=N - i∧pc L out i b∧ -1≤b∧st=⟨[(3,.aY (bq T) 0),(8,aw L),(10,.own 0),(11,num b),(12,num i)],[dW out]⟩) N ⟨0, -1,by omega,by omega,pc.start _ _,by omega,rfl⟩ ?_
  rintro r st ⟨i,b,hi,rfl,hB,hb1',rfl⟩
  refine ah<|ab (.a 2 rfl<|.v (aL rfl ((show some (num T.nodes)=some (num (N:Int)) by rw[hN]))) rfl<|.a 1 rfl<|.k [3,8,10,11,12,26] rfl)<|ag rfl (fun hc=>?_) (fun hc=>?_)
  ·have hlt:i<N:=by have:=tt hc;omega
   refine ai<|ah<|au ?_
   obtain⟨p1,hp1⟩:∃q,decide (0≤L.getD i 0)=q:=⟨_,rfl⟩
   obtain⟨p2,hp2⟩:∃q,decide ((i:Int)∈out)=q:=⟨_,rfl⟩
   obtain⟨p3,hp3⟩:∃q,decide (b<0)=q:=⟨_,rfl⟩
   obtain⟨p4,hp4⟩:∃q,decide (L.getD b.toNat 0<L.getD i 0)=q:=⟨_,rfl⟩
   refine jA mixed (by kernel_rfl) 54 (.raw (.bool ((p1&& !p2)&&(p3||p4)))) [3,8,10,11,12] rfl ?_ ?_
   ·refine .a 2 rfl<|.v [29,30] (aJ (i) rfl) rfl rfl<|.v [31] (aL rfl (ax L i (by omega))) rfl rfl<|.v [32] (b9 rfl (hp1)) rfl rfl<|.a 1 rfl<|?_
    cases p1
    ·exact .a 20 rfl<|.k [54,3,8,10,11,12] rfl
    ·refine .a 2 rfl<|.v [35,36] (G0 rfl (aj.cons (aB.eH rfl aj.pure) (aj.cons aB.pure aj.nil)) (hp2▸Hb out i (by omega))) rfl rfl<|.a 3 rfl<|?_
     cases p2
     ·refine .a 1 rfl<|.v [41] (b9 rfl (hp3)) rfl rfl<|.a 1 rfl<|?_
      cases p3
      ·exact .a 2 rfl<|.v [44,45] (aJ (i) rfl) rfl rfl<|.v [46] (aL rfl (ax L i (by omega))) rfl rfl<|.a 2 rfl<|.v [48,49] (aJ (b.toNat) rfl (by have:=ff hp3;omega) (by have:=ff hp3;have:=(hB.some b.toNat (by omega)).1;omega)) rfl rfl<|.v [50] (aL rfl (ax L b.toNat (by have:=ff hp3;have:=(hB.some b.toNat (by omega)).1;omega))) rfl rfl<|.v [47,51] (b9 rfl (hp4)) rfl rfl<|.a 2 rfl<|.k [54,3,8,10,11,12] rfl
      ·exact .a 11 rfl<|.k [54,3,8,10,11,12] rfl
     ·exact .a 14 rfl<|.k [54,3,8,10,11,12] rfl
   refine ag rfl (fun hy=>?_) (fun hy=>?_)
   ·have hB2:pc L out (i+1) i:=by
     simp only[Bool.and_eq_true,Bool.or_eq_true,Bool.not_eq_true']at hy
     obtain⟨⟨e1,e2⟩,e3⟩:=hy
     rw[e1]at hp1
     rw[e2]at hp2
     refine hB.yes (tt hp1) (ff hp2) ?_
     by_cases h0:b<0
     ·exact .inl h0
     ·rcases e3 with e3|e3
      ·rw[e3]at hp3;exact .inl (tt hp3)
      ·rw[e3]at hp4;exact .inr ⟨b.toNat,by omega,tt hp4⟩
    refine az (.a 2 rfl<|.k [3,8,10,11,12] rfl) ?_
    refine az (.a 1 rfl<|.v (aS rfl) rfl<|.a 1 rfl<|.k [3,8,10,11,12] rfl) ?_
    exact⟨N - (i+1),by omega,i+1,_,by omega,rfl,hB2,by omega,rfl⟩
   ·have hB2:pc L out (i+1) b:=hB.no (by
     rintro⟨e1,e2,e3⟩
     rw[decide_eq_true e1]at hp1
     rw[decide_eq_false e2]at hp2
     subst hp1
     subst hp2
     have:(p3||p4)=true:=by
      rcases e3 with e3|⟨n,rfl,e3⟩
      ·rw[decide_eq_true e3]at hp3;subst hp3;rfl
      ·rw[Int.toNat_natCast,decide_eq_true e3]at hp4;subst hp4;simp
     rw[this]at hy
     cases hy)
    refine ai<|az (.a 1 rfl<|.v (aS rfl) rfl<|.a 1 rfl<|.k [3,8,10,11,12] rfl) ?_
    exact⟨N - (i+1),by omega,i+1,_,by omega,rfl,hB2,by omega,rfl⟩
  ·have hie:i=N:=by have:=ff hc;omega
   rw[hie]at hB
   refine ba<|ah<|ab (.a 2 rfl<|.k [3,8,10,11,57] rfl)<|ag rfl (fun hz=>?_) (fun hz=>?_)
   ·have hall:=hB.none (tt hz)
    exact ab (.a 3 rfl<|.k [6,7] rfl)<|aq<|⟨_,_,aA.of rfl,aB.bx (aj.cons (aB.eH rfl aj.pure) (aj.cons aB.pure aj.nil)),out,hfin out hP (fun k hk=>hall k (by omega)),rfl⟩
   ·obtain⟨m,rfl⟩:=Int.eq_ofNat_of_zero_le (show 0≤b by have:=ff hz;omega)
    rw[←hNL]at hB
    have hP2:=hP.snoc hB
    have hl2:=hP2.len
    rw[List.length_append,List.length_singleton]at hl2
    refine ai<|bF<|av 3 rfl<|cp (bA rfl (bI.rk.get rfl) rfl rfl rfl rfl (by unfold maxLen;omega)) rfl<|av 1 rfl ?_
    refine dD [1] (.c 3<|.c 8<|.c 10<|.nil) (.kept rfl (.eJ rfl (cN _ _))<|.nil) rfl rfl (bc ?_)
    refine⟨N - (out.length+1),by omega,out++[(m:Int)],hP2,by simp,?_⟩
    unfold dW
    simp only[List.length_append,List.length_singleton]
set_option maxHeartbeats 2000000 in
theorem yP(T:an)(D:List Bool)(n d:Int)(h12:T.nodes≤12):Can Tryz.prog 231 [aN T,aQ D,num n,num d,num 2] (· =yw T D n d (dB T D d.toNat n.toNat)):=by
 obtain⟨g1,hg1⟩:∃q,decide (n<0)=q:=⟨_,rfl⟩
 obtain⟨g2,hg2⟩:∃q,decide (T.nodes≤n)=q:=⟨_,rfl⟩
 have hnb:bd T n= !(g1||g2):=by rw[←hg1,←hg2,←Bool.decide_or,←decide_not];unfold bd;exact decide_eq_decide.2 (by omega)
 refine aE Tryz.func231 rfl Tryz.ntmps231 rfl<|ab (.a 3 rfl<|.k [1,2,3,4,5] rfl)<|ab (.a 3 rfl<|.c rfl (gU T D d) rfl<|.a 5 rfl<|.k [1,2,3,4,5,12,13] rfl)<|ah<|ab (.a 2 rfl<|.k [1,2,3,4,5,12,13,29] rfl)<|ag rfl (fun hc=>?_) (fun hc=>?_)
 ·have he0:cf T D [d]≠0:=tt hc
  have he2:bV T D n d=cf T D [d]:=by unfold bV;rw[if_neg he0]
  exact ab (.a 3 rfl<|.k [10,11] rfl)<|aq<|⟨_,_,aA.of rfl,aB.pure,by unfold yw;rw[he2,if_neg he0];rfl⟩
 ·have he0:cf T D [d]=0:=Classical.byContradiction (ff hc)
  rw[he0,if_pos rfl]
  refine ai<|ah<|bu 38 (.raw (.bool (g1||g2))) [1,2,3,4,5,12] rfl ?_ ?_
  ·refine .a 1 rfl<|.v (b9 rfl (hg1)) rfl<|.a 1 rfl<|?_
   cases g1
   ·exact .a 3 rfl<|.v (b9 rfl (hg2)) rfl<|.a 1 rfl<|.k [38,1,2,3,4,5,12] rfl
   ·exact .a 5 rfl<|.k [38,1,2,3,4,5,12] rfl
  refine ag rfl (fun hy=>?_) (fun hy=>?_)
  ·have hn:bd T n=false:=by rw[hnb,hy];rfl
   have he:bV T D n d=2:=by unfold bV;rw[if_pos he0,hn];rfl
   exact ab (.a 2 rfl<|.k [10,11] rfl)<|aq<|⟨_,_,aA.of rfl,aB.pure,by unfold yw;rw[he];rfl⟩
  ·have hn:bd T n=true:=by rw[hnb,hy];rfl
   have he:bV T D n d=0:=by unfold bV;rw[if_pos he0,hn];rfl
   obtain⟨hv,hf,hn,hd⟩:=eS he
   rw[aT]at hn hd
   clear hnb hg1 hg2 hy
   obtain⟨n,rfl⟩:=Int.eq_ofNat_of_zero_le hn.1
   obtain⟨d,rfl⟩:=Int.eq_ofNat_of_zero_le hd.1
   simp only[Int.toNat_natCast]
   have hn:=hn.2
   have hd:=hd.2
   have hll:=bJ hv
   have hS:=aM hv
   obtain⟨hb1,hb2⟩:=cI (D:=D) hv (dir:=false) hd
   obtain⟨N,hN⟩:∃N:Nat,T.nodes=(N:Int):=⟨T.nodes.toNat,by omega⟩
   have hNt:T.nodes.toNat=N:=by omega
   refine ai<|ah<|ab (.a 2 rfl<|.k [1,2,3,4,5,12,40] rfl)<|ag rfl (fun hc=>?_) (fun hc=>?_)
   ·cases hc
   ·refine ai<|aP<|av 2 rfl<|cp (dF rfl (bI.rk.get rfl) rfl rfl hN hN ⟨by unfold maxLen;omega,by omega⟩) rfl<|av 1 rfl<|aG [1,2,3,4,5,12,14] rfl ?_
    refine er (σ':=[dW (List.replicate N 0)]) (by unfold dW;rw[List.length_replicate,←cO];rfl) ?_
    refine aP<|av 3 rfl<|bC (sS (c:=1) rfl rfl rfl rfl) rfl<|bC (aJ (d) rfl (by omega) (by rw[List.length_replicate];omega)) rfl<|bg ((by first|exact bE rfl (bI.tk.get rfl) rfl rfl rfl (by first|omega|(simp;omega))|exact aV rfl (bI.tk.get rfl) rfl rfl rfl (by first|omega|(simp;omega)))) rfl rfl<|aG [1,2,3,4,5,12,14] rfl ?_
    refine er (σ':=[dW ((List.replicate T.nodes.toNat 0).set d 1)]) ?_ ?_
    ·rw[hNt];unfold dW;simp only[List.length_set,List.length_replicate];rfl
    have hI0:=nE.start (D:=D) hd
    generalize (List.replicate T.nodes.toNat (0:Int)).set d 1=cs0 at hI0
    refine aP<|av 3 rfl<|cP rfl rfl (bS.mono (bS.xg (CP T D d h12 he0)) (fun _ σ' h=>?_))
    obtain⟨⟨O,hO,rfl⟩,rfl⟩:=h
    refine av 5 rfl<|aG [1,2,3,4,5,12,14,15] rfl ?_
    have hOl:O.length≤12:=by
     have h1:=ob N (O.map Int.toNat) (by
      unfold List.Nodup
      rw[List.pairwise_map]
      refine List.Pairwise.imp_of_mem ?_ hO.nodup
      intro a b ha hb hne e
      obtain⟨k,rfl,_⟩:=(hO.mem a).1 ha
      obtain⟨k',rfl,_⟩:=(hO.mem b).1 hb
      simp only[Int.toNat_natCast]at e
      exact hne (by rw[e])) (fun x hx=>by
      obtain⟨y,hy,rfl⟩:=List.mem_map.1 hx
      obtain⟨k,rfl,hk,_⟩:=(hO.mem y).1 hy
      rw[Int.toNat_natCast];omega)
     rw[List.length_map]at h1
     omega
    refine ah<|ab (.a 2 rfl<|.v (aS rfl) rfl<|.a 1 rfl<|.k [1,2,3,4,5,12,14,15,17] rfl)<|au<|eu [1,2,3,4,5,12,14,15,17] rfl<|bf (fun r st=>∃(cs:List Int) (i:Nat),i≤O.reverse.length∧r=O.reverse.length - i∧nE T D d O.reverse cs i∧st=⟨[(1,aQ D),(2,num n),(3,num d),(4,num 2),(5,.aY (bq T) 0),(12,aw (bn T D d false)),(14,.own 0),(15,aw O),(17,num ((O.length:Int) - 1 - i))],[dW cs]⟩) O.reverse.length ⟨cs0,0,by omega,by omega,hI0 _,by simp⟩ ?_
    rintro r st ⟨cs,i,hi,rfl,hI,rfl⟩
    have hRl:O.reverse.length=O.length:=by simp
    refine ah<|ab (.a 2 rfl<|.k [1,2,3,4,5,12,14,15,17,60] rfl)<|ag rfl (fun hx=>?_) (fun hx=>?_)
    ·have hlt:i<O.reverse.length:=by have:=tt hx;omega
     obtain⟨m,hm⟩:∃m:Nat,O.reverse.getD i 0=(m:Int):=by
      obtain⟨k,hk,_⟩:=(hO.mem _).1 (List.mem_reverse.1 (bO (d:=0) hlt))
      exact⟨k,hk⟩
     have hmO:O.getD (O.length - 1 - i) 0=(m:Int):=by
      rw[←hm,List.getD_eq_getElem?_getD,List.getD_eq_getElem?_getD,List.getElem?_reverse (by omega)]
     obtain⟨hmN,hm0,hf0⟩:=hI.fresh hO hlt hm
     have hcl:=hI.len
     have hnx:=yG T D (bn T D d false) m d hv hf hb1 hb2
     rw[pg T D m d hv hmN]at hnx
     have hnl:(aX T D m d).length≤512:=by
      have h1:(aX T D m d).length≤(bG T m).length:=by unfold aX jw;split;simp;exact List.length_filter_le _ _
      exact Nat.le_trans h1 (Nat.le_trans (ee T m _) (by omega))
     have hset:=wh cs m (by omega)
     have hcr:0≤cs.getD m 0∧cs.getD m 0≤2:=by rw[hf0];split<;>omega
     refine ai<|ah<|au<|dY mixed (by kernel_rfl) (.a 5 rfl<|.v [66,67] (aJ ((O.length - 1 - i)) rfl) rfl rfl<|.v [68] (aL rfl ((ax _ (O.length - 1 - i) (by omega)).trans (by rw[hmO]))) rfl rfl<|.a 1 rfl<|.v [63,64,65,69,70] (dJ rfl (hnx)) rfl rfl<|.a 1 rfl<|.k [1,2,3,4,5,12,14,15,17,18] rfl) ?_
     refine ab (.a 1 rfl<|.k [1,2,3,4,5,12,14,15,17,18,19] rfl)<|au<|eu [1,2,3,4,5,12,14,15,17,18,19] rfl<|bf (fun r st=>∃k:Nat,k≤(aX T D m d).length∧r=(aX T D m d).length - k∧st=⟨[(1,aQ D),(2,num n),(3,num d),(4,num 2),(5,.aY (bq T) 0),(12,aw (bn T D d false)),(14,.own 0),(15,aw O),(17,num ((O.length:Int) - 1 - i)),(18,aw (aX T D m d)),(19,num k)],[dW (cs.set m (iN T D d (cs.getD m 0) ((aX T D m d).take k)))]⟩) (aX T D m d).length ⟨0,by omega,by omega,by rw[List.take_zero,rH,hset];rfl⟩ ?_
     rintro r st ⟨k,hk,rfl,rfl⟩
     have hfr:=pO (D:=D) hv hd (cs.getD m 0) hcr.1 hcr.2 ((aX T D m d).take k)
     have hfst:=ry (T:=T) (D:=D) (d:=d) (cs.getD m 0) (aX T D m d) k
     generalize hd12:iN T D d (cs.getD m 0) ((aX T D m d).take k)=c at hfr hfst
     refine ah<|ab (.a 4 rfl<|.k [1,2,3,4,5,12,14,15,17,18,19,75] rfl)<|ag rfl (fun hy=>?_) (fun hy=>?_)
     ·have hkl:k<(aX T D m d).length:=by have:=tt hy;omega
      obtain⟨a,ha,han⟩:=cL (bO (d:=0) hkl)
      have hmem:(a:Int)∈aX T D m d:=by rw[←ha];exact bO hkl
      obtain⟨y,hyh,hyN⟩:=dt hv han.eU
      obtain⟨hcy,hym,_⟩:=hI.next hv hd hO hlt hm hmem hyh
      have hh:=gR T hv a han.eU
      rw[hyh]at hh
      have hcyr:=ju (D:=D) hv hd y
      have hg1:(cs.set m c).getD y 0=dB T D d y:=by rw[←hcy,List.getD_eq_getElem?_getD,List.getElem?_set,if_neg (fun e=>hym e.symm),←List.getD_eq_getElem?_getD]
      have hg2:(cs.set m c).getD m 0=c:=by rw[List.getD_eq_getElem?_getD,List.getElem?_set,if_pos rfl,if_pos (by omega)];rfl
      have hfst:=hfst a hkl ha
      rw[hyh,Int.toNat_natCast]at hfst
      have hv2:iN T D d (cs.getD m 0) ((aX T D m d).take (k+1))=c+min (dB T D d y) (2 - c):=by omega
      refine ai<|ah<|au<|dY mixed (by kernel_rfl) (.a 4 rfl<|.v [80,81] (aJ (k) rfl) rfl rfl<|.v [82] (aL rfl ((ax _ k hkl).trans (by rw[ha]))) rfl rfl<|.v [79,83] (dJ rfl (hh)) rfl rfl<|.v [78,84] (aJ (y) rfl (by omega) (by simp only[List.length_set];omega)) rfl rfl<|.v [85] (aL rfl ((ax _ y (by simp only[List.length_set];omega)).trans (by rw[hg1]))) rfl rfl<|.a 1 rfl<|.k [1,2,3,4,5,12,14,15,17,18,19,20] rfl) ?_
      refine dp 20 20 mixed (
       .val [14] rfl (bH rfl) rfl rfl<|
       .val [15] rfl (bH rfl) rfl rfl<|
       .val [17] rfl (bH rfl) rfl rfl<|
       .val [88,89] rfl (aJ ((O.length - 1 - i)) rfl) rfl rfl<|
       .val [90] rfl (aL rfl ((ax _ (O.length - 1 - i) (by omega)).trans (by rw[hmO]))) rfl rfl<|
       .val [87,91] rfl (aJ (m) rfl (by omega) (by simp only[List.length_set];omega)) rfl rfl<|
       .val [92] rfl (aL rfl ((ax _ m (by simp only[List.length_set];omega)).trans (by rw[hg2]))) rfl rfl<|
       .val [20] rfl (bH rfl) rfl rfl<|
       .val [4] rfl (bH rfl) rfl rfl<|
       .val [14] rfl (bH rfl) rfl rfl<|
       .val [15] rfl (bH rfl) rfl rfl<|
       .val [17] rfl (bH rfl) rfl rfl<|
       .val [97,98] rfl (aJ ((O.length - 1 - i)) rfl) rfl rfl<|
       .val [99] rfl (aL rfl ((ax _ (O.length - 1 - i) (by omega)).trans (by rw[hmO]))) rfl rfl<|
       .val [96,100] rfl (aJ (m) rfl (by omega) (by simp only[List.length_set];omega)) rfl rfl<|
       .val [101] rfl (aL rfl ((ax _ m (by simp only[List.length_set];omega)).trans (by rw[hg2]))) rfl rfl<|
       .val [95,102] rfl (aS rfl) rfl rfl<|
       .val [94,103] rfl (sS rfl rfl rfl rfl) rfl rfl<|
       .val [93,104] rfl (aS rfl (hn:=by unfold In64;omega)) rfl rfl<|
       .val [87,91] rfl (aJ (m) rfl (by omega) (by simp only[List.length_set];omega)) rfl rfl<|
       .nil) (by kernel_rfl) rfl rfl (bm (ks:=[1,2,3,4,5,12,14,15,17,18,19,105,106]) rfl) ?_
      refine bg ((by first|exact bE rfl (bI.tk.get rfl) rfl rfl rfl (by first|omega|(simp;omega))|exact aV rfl (bI.tk.get rfl) rfl rfl rfl (by first|omega|(simp;omega)))) rfl rfl<|aG [1,2,3,4,5,12,14,15,17,18,19] rfl ?_
      refine az (.a 1 rfl<|.v (aS rfl) rfl<|.a 1 rfl<|.k [1,2,3,4,5,12,14,15,17,18,19] rfl) ?_
      refine⟨(aX T D m d).length - (k+1),by omega,k+1,by omega,rfl,?_⟩
      rw[hv2]
      unfold dW
      simp only[List.length_set,List.set_set]
      rfl
     ·have hke:k=(aX T D m d).length:=by have:=ff hy;omega
      refine ba<|az (.a 1 rfl<|.v (aS rfl) rfl<|.a 1 rfl<|.k [1,2,3,4,5,12,14,15,17] rfl) ?_
      have hI2:=hI.step hv hd hO hlt hm
      rw[hke,List.take_length]at hd12
      exact⟨O.reverse.length - (i+1),by omega,cs.set m (iN T D d (cs.getD m 0) (aX T D m d)),i+1,by omega,rfl,hI2,by rw[hd12,show(O.length:Int) - 1 - ((i+1:Nat):Int)=(O.length:Int) - 1 - i - 1 by omega]⟩
    ·have hie:i=O.reverse.length:=by have:=ff hx;omega
     subst hie
     have hres:=hI.done hv hd hO hn
     have hcl:=hI.len
     exact ba<|ab (.a 2 rfl<|.v (aJ (n) rfl) rfl<|.v (aL rfl ((ax cs n (by omega)).trans (by rw[hres]))) rfl<|.a 2 rfl<|.k [10,11] rfl)<|aq<|⟨_,_,aA.of rfl,aB.pure,by unfold yw;rw[he,if_pos rfl];rfl⟩
set_option maxHeartbeats 2000000 in
theorem wU(T:an)(D:List Bool)(n d:Int)(h12:T.nodes≤12):Can Tryz.prog 221 [aN T,aQ D,num n,num d] (· =flag (eW T D n d)):=by
 rw[s5]
 obtain⟨q1,hq1⟩:∃q,decide (bV T D n d=0)=q:=⟨_,rfl⟩
 obtain⟨q2,hq2⟩:∃q,decide ((if bV T D n d=0 then dB T D d.toNat n.toNat else 0)=1)=q:=⟨_,rfl⟩
 rw[hq1,hq2]
 refine aE Tryz.func221 rfl Tryz.ntmps221 rfl<|ab (.a 2 rfl<|.k [1,2,3,4] rfl)<|ab (.a 4 rfl<|.c rfl (yP T D n d h12) rfl<|.a 5 rfl<|.k [9,10] rfl)<|bu 8 (.raw (.bool (q1&&q2))) [] rfl ?_ ?_
 ·refine .a 1 rfl<|.v (b9 rfl (hq1)) rfl<|.a 1 rfl<|?_
  cases q1
  ·exact .a 4 rfl<|.k [8] rfl
  ·exact .a 1 rfl<|.v (b9 rfl (hq2)) rfl<|.a 2 rfl<|.k [8] rfl
 exact aq<|⟨_,_,aA.of rfl,aB.pure,rfl⟩
end PW
end Go.Proofs.YtnegbdpggideiaaGreatDoor
namespace Go.Proofs.YtnegbdpggideiaaGreatDoor
namespace PW
open Go.RowKit cH Mem
section
variable {P:Program} {kt e:TypeId}
theorem AY(a b:Int):(a==b)=decide (a=b):=Bool.eq_iff_iff.2 (by simp)
theorem AI(b:Bool)(n:Nat)(hu:P.underlying kt=some (.int .i64))(a:Int)(w:World):(Instr.checkKey b (n+1) kt (.int .i64 a)).run P w= .ok () w:=by
 simp only[Instr.checkKey,Sem.run_bind,run_underlying hu,Result.andThen_ok,Sem.run_pure]
theorem eq_int(n:Nat)(hu:P.underlying kt=some (.int .i64))(a b:Int)(w:World):(Op.equalIn (n+1) kt (.int .i64 a) (.int .i64 b)).run P w= .ok (decide (a=b)) w:=by
 simp only[Op.equalIn,Sem.run_bind,run_underlying hu,Result.andThen_ok,if_true,Sem.run_pure,AY]
theorem IT(hu:P.underlying kt=some (.int .i64)):iI P kt (fun n:Int=>Value.int .i64 n) where
 oQ:=fun b a w=>AI b 9999 hu a w
 eql:=fun a b w=>eq_int _ hu a b w
 now:=⟨_,hu,.inl fun a b=>by simp only[Instr.sameNow,if_true,AY]⟩
 bits:=fun a=>by unfold Instr.sameBits;simp
theorem oC(he:P.underlying e=some (.int .i64)){xs:Array Value}{off:Nat}{v:Value}(hx:xs[off]? =some v)(w:World):(Go.part e xs off).run P w= .ok v w:=by
 simp[Go.part,isAgg,run_underlying he,hx]
abbrev pI(p:Int×Int):Array Value:= #[.int .i64 p.1,.int .i64 p.2]
theorem H9(he:P.underlying e=some (.int .i64))(a:Int×Int)(w:World):(Go.part e (pI a) 0).run P w= .ok (.int .i64 a.1) w:=oC he rfl w
theorem sO(he:P.underlying e=some (.int .i64))(a:Int×Int)(w:World):(Go.part e (pI a) 1).run P w= .ok (.int .i64 a.2) w:=oC he rfl w
theorem D3{i:TypeInfo}(hu:P.underlying kt=some (.array 2 e))(he:P.underlying e=some (.int .i64))(hi:P.info? e=some i)(hs:i.size=1)(b:Bool)(n:Nat)(a:Int×Int)(w:World):(Instr.checkKey b (n+1+1) kt (.agg (pI a))).run P w= .ok () w:=by
 have hz:(sizeOf e).run P w= .ok 1 w:=by simp[sizeOf,typeInfo,program,Sem.run,hi,hs]
 have hr:List.range' 0 2=[0,1]:=rfl
 rw[Instr.checkKey]
 simp only[Sem.run_bind,run_underlying hu,Result.andThen_ok]
 simp only[Std.Legacy.Range.forIn_eq_forIn_range',Std.Legacy.Range.size,Nat.sub_zero,Nat.add_one_sub_one,Nat.div_one]
 rw[hr]
 simp only[List.forIn_cons,List.forIn_nil,Sem.run_bind,hz,Result.andThen_ok,Sem.run_pure,Nat.mul_one,H9 he,sO he,AI b n he]
theorem Hk{i:TypeInfo}(hu:P.underlying kt=some (.array 2 e))(he:P.underlying e=some (.int .i64))(hi:P.info? e=some i)(hs:i.size=1)(n:Nat)(a b:Int×Int)(w:World):(Op.equalIn (n+1+1) kt (.agg (pI a)) (.agg (pI b))).run P w= .ok (decide (a=b)) w:=by
 have hsz:P.cellsOf e=1:=by simp[Program.cellsOf,hi,hs]
 rw[run_equalIn_array w (n+1) _ _ hu hi,hsz]
 show(Op.eqItems (n+1) e 1 _ _ [0,1]).run P w=_
 simp only[Op.eqItems,Sem.run_bind,Nat.mul_one,H9 he,sO he,Result.andThen_ok,eq_int n he,Sem.run_pure]
 obtain⟨a1,a2⟩:=a
 obtain⟨b1,b2⟩:=b
 by_cases h1:a1=b1<;>by_cases h2:a2=b2<;>simp[h1,h2,Sem.run_bind,sO he,eq_int n he,Op.eqItems]
theorem Gz{i:TypeInfo}(hu:P.underlying kt=some (.array 2 e))(he:P.underlying e=some (.int .i64))(hi:P.info? e=some i)(hs:i.size=1):iI P kt (fun p:Int×Int=>Value.agg (pI p)) where
 oQ:=fun b a w=>D3 hu he hi hs b 9998 a w
 eql:=fun a b w=>Hk hu he hi hs 9998 a b w
 now:=⟨_,hu,.inr fun a b=>by simp only[Instr.sameNow]⟩
 bits:=fun a=>by
  have h:=fun(n:Nat) (x:Int)=>show Instr.sameBits n (.int .i64 x) (.int .i64 x)=true by unfold Instr.sameBits;simp
  show Instr.sameBits (9999+1) _ _=true
  rw[Instr.sameBits]
  simp only[List.zip_cons_cons,List.all_cons,h]
  rfl
end
end PW
end Go.Proofs.YtnegbdpggideiaaGreatDoor
