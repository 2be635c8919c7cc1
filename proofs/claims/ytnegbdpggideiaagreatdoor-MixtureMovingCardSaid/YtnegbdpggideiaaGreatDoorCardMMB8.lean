/- Texts of the proof, part 8. -/
import Derived.MapKept
import Derived.Scope
import Derived.Lib.SliceRun
import Derived.ChangeKeysEq
import Derived.Test.YtnegbdpggideiaaGreatDoorCardMMB7
set_option linter.unusedVariables false
set_option linter.unusedSimpArgs false
set_option maxRecDepth 10000
set_option maxHeartbeats 1000000
namespace Go.Proofs.YtnegbdpggideiaaGreatDoor
namespace PW
open Go.RowKit cB Mem Net
section
variable {P:Program} {σ:cd} {t:bY} {o:Oper}
theorem qR{src dst:TypeId}{x:Operand}{k k':IntKind}{a c:Int}{ty:TypeDesc}(ho:o.op= .convert src dst x)(hs:P.underlying src=some ty)(hd:P.underlying dst=some (.int k'))(hx:aC t x=some (.raw (.int k a)))(hc:k'.wrap a=c):bm P σ t o (.raw (.int k' c)):=by
 intro F base E ρ w hρ _ hT
 have h1:=ax hρ hT hx
 generalize hz:ρ x=z at h1
 cases h1
 have h2:(convert src dst (.int k a)).run P w= .ok (.int k' c) w:=by
  simp[convert,Sem.run_bind,run_underlying hs,run_underlying hd,Conv.intToInt,hc]
 simp only[execOp,ho,hz,Sem.run_bind,h2]
 exact bh (.raw _)
theorem Fz{ty:TypeId}{x ix:Operand}{s:ByteArray}{k:IntKind}{i:Nat}{c:UInt8}(ho:o.op= .index ty x ix)(hu:P.underlying ty=some .string)(hx:aC t x=some (.raw (.string s)))(hix:aC t ix=some (.raw (.int k i)))(h3:s[i]? =some c):bm P σ t o (.raw (.int .u8 c.toNat)):=by
 intro F base E ρ w hρ _ hT
 have h1:=ax hρ hT hx
 have h1':=ax hρ hT hix
 generalize hz:ρ x=z at h1
 generalize hz':ρ ix=z' at h1'
 cases h1
 cases h1'
 have h2:(Instr.index ty (.string s) (.int k i)).run P w= .ok (.int .u8 c.toNat) w:=by
  have h4:(asIntOf (.int k (i:Int))).run P w= .ok (k,(i:Int)) w:=rfl
  simp[Instr.index,Sem.run_bind,run_underlying hu,h3,h4]
 simp only[execOp,ho,hz,hz',Sem.run_bind,h2]
 exact bh (.raw _)
theorem GJ{N L:Nat}{x y:Code}{st:St}{Q:Exit→St→Prop}{b:Bool}(h:W P N L (if b then x else y) st Q):W P N L (.cond (.const (.bool b)) x y) st Q:=fun F base E₀ w₀ E a w hcm hs=>
 wp_cond_split (show a.eval (.const (.bool b))= .bool b from rfl) (fun hb=>by subst hb;exact h F base E₀ w₀ E a w hcm hs) (fun hb=>by subst hb;exact h F base E₀ w₀ E a w hcm hs)
end
theorem u8_in(c:UInt8):In64 (c.toNat:Int):=by have:=c.toNat_lt;unfold In64;omega
theorem Ib(c:UInt8):In64 (0+(c.toNat:Int)):=by have:=c.toNat_lt;unfold In64;omega
theorem Fo(n:Nat)(h:n≤255):IntKind.u8.wrap (n:Int)=(n:Int):=by rw[IntKind.wrap_u8];omega
def vf(a b:Int):Int:=if a<b then -1 else if b<a then 1 else 0
theorem rZ(a:Int):Can Tryz.prog 226 [num a] (· =flag false):=by
 exact aE Tryz.func226 rfl Tryz.ntmps226 rfl<|ab (.a 1 rfl<|.k [0] rfl)<|ab (.a 4 rfl<|.k [2] rfl)<|aq<|⟨_,_,ay.of rfl,aB.pure,by simp;rfl⟩
theorem zu(a b:Int):Can Tryz.prog 218 [num a,num b] (· =num (vf a b)):=by
 refine aE Tryz.func218 rfl Tryz.ntmps218 rfl<|ab (.a 1 rfl<|.k [0,1] rfl)<|ab (.a 1 rfl<|.c rfl (rZ a) rfl<|.a 1 rfl<|.k [0,1,5] rfl)<|ab (.a 1 rfl<|.c rfl (rZ b) rfl<|.a 1 rfl<|.k [0,1,5,6] rfl)<|aj<|ab (.a 1 rfl<|.k [0,1,6,11] rfl)<|ah rfl (fun hc=>?_) (fun hc=>?_)
 ·cases hc
 ·refine ak<|aj<|ab (.a 1 rfl<|.k [0,1,13] rfl)<|ah rfl (fun hc=>?_) (fun hc=>?_)
  ·cases hc
  ·refine ak<|aj<|ab (.a 3 rfl<|.k [0,1,16] rfl)<|ah rfl (fun hc=>?_) (fun hc=>?_)
   ·have h1:a<b:=tt hc
    exact ab (.a 1 rfl<|.k [4] rfl)<|aq<|⟨_,_,ay.of rfl,aB.pure,by unfold vf;rw[if_pos h1];rfl⟩
   ·have h1:¬a<b:=ff hc
    refine ak<|aj<|ab (.a 3 rfl<|.k [19] rfl)<|ah rfl (fun hy=>?_) (fun hy=>?_)
    ·have h2:b<a:=tt hy
     exact ab (.a 1 rfl<|.k [4] rfl)<|aq<|⟨_,_,ay.of rfl,aB.pure,by unfold vf;rw[if_neg h1,if_pos h2];rfl⟩
    ·have h2:¬b<a:=ff hy
     exact ak<|ab (.a 1 rfl<|.k [4] rfl)<|aq<|⟨_,_,ay.of rfl,aB.pure,by unfold vf;rw[if_neg h1,if_neg h2];rfl⟩
theorem Ik(a b:Int):Can Tryz.prog 217 [.slice 2 [num a,num b]] (· =num (if a=0 then b else a)):=by
 refine aE Tryz.func217 rfl Tryz.ntmps217 rfl<|ab (.a 1 rfl<|.k [0] rfl)<|ab (.a 1 rfl<|.k [0,3] rfl)<|aj<|ab (.a 3 rfl<|.k [3,6,7,8] rfl)<|av<|ft [3,6,7,8] rfl<|br (fun r st=>∃j:Nat,j≤2∧r=2 - j∧(0<j→a=0)∧(1<j→b=0)∧st=⟨[(3,num 0),(6,.slice 2 [num a,num b]),(7,num 2),(8,num j)],[]⟩) 2 ⟨0,by omega,by omega,by omega,by omega,rfl⟩ ?_
 rintro r st ⟨j,hj,rfl,ha,hb,rfl⟩
 refine ab (.a 1 rfl<|.k [3,6,7,8,9] rfl)<|aj<|ah rfl (fun hc=>?_) (fun hc=>?_)
 ·have hlt:j<2:=by have:=tt hc;omega
  obtain⟨v,hv,hv2⟩:∃v,[num a,num b][j]? =some (num v)∧v=(if j=0 then a else b):=by
   match j,hlt with
   |0,_=>exact⟨a,rfl,rfl⟩
   |1,_=>exact⟨b,rfl,rfl⟩
  refine ak<|aj<|av<|ab (.v (aL (j) rfl) rfl<|.v (aN rfl (hv)) rfl<|.a 1 rfl<|.k [3,5,6,7,8] rfl)<|ab (.a 3 rfl<|.k [3,5,6,7,8,14] rfl)<|ah rfl (fun hy=>?_) (fun hy=>?_)
  ·have h1:v≠0:=tt hy
   refine ab (.a 2 rfl<|.k [2] rfl)<|aq<|⟨_,_,ay.of rfl,aB.pure,congrArg num ?_⟩
   by_cases h0:j=0
   ·rw[if_pos h0]at hv2;rw[if_neg (by omega)];exact hv2
   ·rw[if_neg h0]at hv2;rw[if_pos (ha (by omega))];exact hv2
  ·have h1:v=0:=Classical.byContradiction (ff hy)
   refine ak<|az (.v (aS rfl) rfl<|.a 1 rfl<|.k [3,6,7,8] rfl) ?_
   refine⟨2 - (j+1),by omega,j+1,by omega,rfl,fun _=>?_,fun h=>?_,rfl⟩
   ·by_cases h0:j=0
    ·rw[if_pos h0]at hv2;omega
    ·exact ha (by omega)
   ·rw[if_neg (by omega)]at hv2;omega
 ·have hj2:j=2:=by have:=ff hc;omega
  refine bg<|ab (.a 2 rfl<|.k [2] rfl)<|aq<|⟨_,_,ay.of rfl,aB.pure,congrArg num ?_⟩
  rw[if_pos (ha (by omega))];exact(hb (by omega)).symm
def GC(L:List Int)(a b:Nat):Int:=if vf (L.getD b 0) (L.getD a 0)=0 then vf a b else vf (L.getD b 0) (L.getD a 0)
theorem Cj(L:List Int)(a b:Nat)(ha:a<L.length)(hb:b<L.length):Can Tryz.prog 216 [num a,num b,.aX [aw L] 0] (· =num (GC L a b)):=by
 refine aE Tryz.func216 rfl Tryz.ntmps216 rfl<|ab (.a 1 rfl<|.k [0,1,2] rfl)<|ei mixed (by kernel_rfl) (.a 2 rfl<|.v [6,7] (aL (b) rfl) rfl rfl<|.v [8] (aN rfl (aA L b hb)) rfl rfl<|.a 2 rfl<|.v [10,11] (aL (a) rfl) rfl rfl<|.v [12] (aN rfl (aA L a ha)) rfl rfl<|.v [9,13] (dR rfl (zu _ _)) rfl rfl<|.a 2 rfl<|.v [15,16] (dR rfl (zu _ _)) rfl rfl<|.a 1 rfl<|.v [18] (dR rfl (Ik _ _)) rfl rfl<|.a 1 rfl<|.k [5] rfl) ?_
 exact aq<|⟨_,_,ay.of rfl,aB.pure,rfl⟩
def Ic(n:Nat):UInt8:=if n=0 then 0 else if n=1 then 1 else if n<4 then 2 else if n<8 then 3 else 4
theorem Bx(n:Nat)(hn:n≤12):Can Tryz.prog 241 [.raw (.int .u64 n)] (· =num (Ic n).toNat):=by
 refine aE Tryz.func241 rfl Tryz.ntmps241 rfl<|ab (.a 1 rfl<|.k [0,2] rfl)<|aj<|ab (.a 1 rfl<|.v (zz rfl rfl rfl rfl) rfl<|.k [0,2,4] rfl)<|ah rfl (fun hc=>?_) (fun hc=>?_)
 ·exact absurd (tt hc) (by omega)
 ·refine ak<|aj<|ab (.a 1 rfl<|.v (zz rfl rfl rfl rfl) rfl<|.k [0,2,8] rfl)<|ah rfl (fun hc=>?_) (fun hc=>?_)
  ·exact absurd (tt hc) (by omega)
  ·refine ak<|aj<|ab (.a 1 rfl<|.v (zz rfl rfl rfl rfl) rfl<|.k [0,2,14] rfl)<|ah rfl (fun hc=>?_) (fun hc=>?_)
   ·exact absurd (tt hc) (by omega)
   ·exact ak<|ab (.a 2 rfl<|.v (qR rfl Tryz.underlying249 Tryz.underlying5 rfl (Fo n (by omega))) rfl<|.v (Fz (c:=Ic n) rfl Tryz.underlying9 rfl rfl (by rcases(show n=0∨n=1∨n=2∨n=3∨n=4∨n=5∨n=6∨n=7∨n=8∨n=9∨n=10∨n=11∨n=12 by omega)with h|h|h|h|h|h|h|h|h|h|h|h|h<;>subst h<;>rfl)) rfl<|.v (qR rfl Tryz.underlying5 Tryz.underlying3 rfl (ju (u8_in _))) rfl<|.v (aS rfl (hn:=Ib _)) rfl<|.a 1 rfl<|.k [2] rfl)<|aq<|⟨_,_,ay.of rfl,aB.pure,by rw[Int.zero_add];rfl⟩
theorem GM(n:Nat)(hn:n≤12):Can Tryz.prog 225 [.raw (.int .u64 n)] (· =num (Ic n).toNat):=by
 refine aE Tryz.func225 rfl Tryz.ntmps225 rfl<|ab (.a 1 rfl<|.k [0] rfl)<|aj (GJ (b:=false) ?_)
 exact ak<|ab (.a 1 rfl<|.c rfl (Bx n hn) rfl<|.a 1 rfl<|.k [2] rfl)<|aq ⟨_,_,.cons (.tmp rfl) .nil,aB.pure,rfl⟩
def sg(L:List Int)(x y:Int):Prop:=L.getD y.toNat 0<L.getD x.toNat 0∨(L.getD y.toNat 0=L.getD x.toNat 0∧x≤y)
theorem AA{L:List Int}{x y z:Int}(h:sg L x y)(k:sg L y z):sg L x z:=by unfold sg at*;omega
theorem vu(L:List Int)(a b:Nat):GC L a b<0↔¬sg L b a:=by
 unfold GC vf sg
 simp only[Int.toNat_natCast]
 split<;>split<;>(try split)<;>omega
theorem Ip(L:List Int){x y:Int}(h:¬sg L x y):sg L y x:=by unfold sg at*;omega
def FH(L ys:List Int)(i j:Nat):Prop:=∀p q,p<q→q≤i→q≠j→sg L (ys.getD p 0) (ys.getD q 0)
def GO(L ys:List Int)(i:Nat):Prop:=∀p q,p<q→q<i→sg L (ys.getD p 0) (ys.getD q 0)
theorem GO.ins{L ys:List Int}{i:Nat}(h:GO L ys i):FH L ys i i:=fun p q h1 h2 h3=>h p q h1 (by omega)
theorem FH.IK{L ys:List Int}{i:Nat}(h:FH L ys i 0):GO L ys (i+1):=fun p q h1 h2=>h p q h1 (by omega) (by omega)
theorem FH.done{L ys:List Int}{i j:Nat}(h:FH L ys i j)(hb:sg L (ys.getD (j - 1) 0) (ys.getD j 0)):GO L ys (i+1):=fun p q h1 h2=>by
 by_cases hq:q=j
 ·subst hq
  by_cases hp:p=q - 1
  ·rw[hp];exact hb
  ·exact AA (h p (q - 1) (by omega) (by omega) (by omega)) hb
 ·exact h p q h1 (by omega) hq
theorem FH.swap{L ys:List Int}{i j:Nat}(h:FH L ys i j)(h0:0<j)(hj:j≤i)(hi:i<ys.length)(hb:¬sg L (ys.getD (j - 1) 0) (ys.getD j 0)):FH L (Heap.dP ys j (j - 1)) i (j - 1):=fun p q h1 h2 h3=>by
 rw[Heap.dG ys j (j - 1) p (by omega) (by omega),Heap.dG ys j (j - 1) q (by omega) (by omega),if_neg h3]
 by_cases hq:q=j
 ·rw[if_pos hq]
  by_cases hp:p=j - 1
  ·rw[if_pos hp];exact Ip L hb
  ·rw[if_neg hp,if_neg (by omega)];exact h p (j - 1) (by omega) (by omega) (by omega)
 ·rw[if_neg hq]
  by_cases hp:p=j - 1
  ·rw[if_pos hp];exact h j q (by omega) h2 hq
  ·rw[if_neg hp]
   by_cases hp2:p=j
   ·rw[if_pos hp2];exact h (j - 1) q (by omega) h2 hq
   ·rw[if_neg hp2];exact h p q h1 h2 hq
theorem swap_perm(ys:List Int)(p q:Nat)(hp:p<ys.length)(hq:q<ys.length):(Heap.dP ys p q).Perm ys:=by
 have:= @List.set_set_perm _ ys p q hp hq
 unfold Heap.dP
 rw[List.getD_eq_getElem?_getD,List.getD_eq_getElem?_getD,List.getElem?_eq_getElem hp,List.getElem?_eq_getElem hq]
 exact this
theorem GO.pair{L ys:List Int}(h:GO L ys ys.length):ys.Pairwise (sg L):=by
 rw[List.pairwise_iff_getElem]
 intro i j hi hj hij
 have:=h i j hij hj
 rw[List.getD_eq_getElem?_getD,List.getD_eq_getElem?_getD,List.getElem?_eq_getElem hi,List.getElem?_eq_getElem hj]at this
 exact this
def eY(ys:List Int):Option cT:=some (.row 3 1 ys.length (aO ys))
abbrev AS(L:List Int):PV:=.func 216 [.aX [aw L] 0]
theorem A4(L xs:List Int)(c:Option cT)(hx:∀x∈xs,0≤x∧x<L.length)(hn:xs.length≤12):bT Tryz.prog 232 [.own 1,num 0,num xs.length,AS L] [c,eY xs] (fun _ σ'=>∃ys,ys.Perm xs∧ys.Pairwise (sg L)∧σ'=[c,eY ys]):=by
 refine ct Tryz.func232 rfl Tryz.ntmps232 rfl<|ab (.a 1 rfl<|.v (aS rfl) rfl<|.a 1 rfl<|.k [0,1,2,3,8] rfl)<|av<|ft [0,1,2,3,8] rfl<|br (fun r st=>∃(ys:List Int) (i:Nat),ys.Perm xs∧0<i∧GO L ys i∧r=13 - i∧st=⟨[(0,.own 1),(1,num 0),(2,num xs.length),(3,AS L),(8,num i)],[c,eY ys]⟩) 12 ⟨xs,1,.refl _,by omega,fun p q h1 h2=>by omega,rfl,rfl⟩ ?_
 rintro r st ⟨ys,i,hp,hi0,hs,rfl,rfl⟩
 have hyl:=hp.length_eq
 refine aj<|ab (.a 3 rfl<|.k [0,1,2,3,8,14] rfl)<|ah rfl (fun hc=>?_) (fun hc=>?_)
 ·have hlt:i<xs.length:=by have:=tt hc;omega
  refine ak<|aj<|av<|ab (.a 2 rfl<|.k [0,1,2,3,8,9] rfl)<|av<|ft [0,1,2,3,8,9] rfl<|br (fun r st=>∃(ys:List Int) (j:Nat),ys.Perm xs∧j≤i∧FH L ys i j∧r=j∧st=⟨[(0,.own 1),(1,num 0),(2,num xs.length),(3,AS L),(8,num i),(9,num j)],[c,eY ys]⟩) i ⟨ys,i,hp,by omega,hs.ins,rfl,rfl⟩ ?_
  clear hp hs hyl
  rintro r st ⟨zs,j,hp,hji,hs,rfl,rfl⟩
  have hyl:=hp.length_eq
  refine aj ?_
  obtain⟨q1,hq1⟩:∃q,decide ((0:Int)<(r:Int))=q:=⟨_,rfl⟩
  have hel:∀k,k<zs.length→∃a:Nat,zs.getD k 0=(a:Int)∧a<L.length:=fun k hk=>by
   have h1:=hx _ (hp.mem_iff.1 (bX (d:=0) hk))
   exact⟨(zs.getD k 0).toNat,by omega,by omega⟩
  obtain⟨a,ha,haL⟩:=hel r (by omega)
  obtain⟨b,hb,hbL⟩:=hel (r - 1) (by omega)
  obtain⟨q2,hq2⟩:∃q,decide (GC L a b<0)=q:=⟨_,rfl⟩
  refine mE mixed (by kernel_rfl) 34 (.raw (.bool (q1&&q2))) [0,1,2,3,8,9] rfl ?_ ?_
  ·refine .a 2 rfl<|.v [18,19] (cb rfl (hq1)) rfl rfl<|.a 1 rfl<|?_
   cases q1
   ·exact .a 13 rfl<|.k [34,0,1,2,3,8,9] rfl
   ·exact .a 3 rfl<|.v [23,24] (aL (r) rfl) rfl rfl<|.v [25] (aN rfl ((aA zs r (by omega)).trans (by rw[ha]))) rfl rfl<|.a 2 rfl<|.v [28] (aS rfl) rfl rfl<|.v [27,29] (aL ((r - 1)) rfl (by have:=tt hq1;omega) (by omega)) rfl rfl<|.v [30] (aN rfl ((aA zs (r - 1) (by omega)).trans (by rw[hb]))) rfl rfl<|.v [22,26,31] (dR rfl (Cj L a b haL hbL)) rfl rfl<|.v [32] (cb rfl (hq2)) rfl rfl<|.a 1 rfl<|.k [34,0,1,2,3,8,9] rfl
  refine ah rfl (fun hy=>?_) (fun hy=>?_)
  ·obtain⟨c1,c2⟩:=Bool.and_eq_true_iff.1 hy
   rw[c1]at hq1
   rw[c2]at hq2
   have hr0:0<r:=by have:=tt hq1;omega
   have hnb:=(vu L a b).1 (tt hq2)
   rw[←ha,←hb]at hnb
   refine ak<|aj<|av<|dU 15 20 mixed (
    .val [0] rfl (bw rfl) rfl rfl<|
    .val [9] rfl (bw rfl) rfl rfl<|
    .late [0] rfl (mQ rfl rfl) inferInstance rfl rfl<|
    .late [9] rfl (mQ rfl rfl) inferInstance rfl rfl<|
    .late [40] rfl (IA rfl rfl rfl rfl (by unfold In64;omega)) inferInstance rfl rfl<|
    .val [0] rfl (bw rfl) rfl rfl<|
    .val [9] rfl (bw rfl) rfl rfl<|
    .val [43] rfl (aS rfl) rfl rfl<|
    .val [42,44] rfl (aL ((r - 1)) rfl) rfl rfl<|
    .val [45] rfl (aN rfl ((aA zs (r - 1) (by omega)).trans (by rw[hb]))) rfl rfl<|
    .val [0] rfl (bw rfl) rfl rfl<|
    .val [9] rfl (bw rfl) rfl rfl<|
    .val [47,48] rfl (aL (r) rfl) rfl rfl<|
    .val [49] rfl (aN rfl ((aA zs r (by omega)).trans (by rw[ha]))) rfl rfl<|
    .val [37,38] rfl (aL (r) rfl) rfl rfl<|
    .nil) (by kernel_rfl) rfl rfl (bd (ks:=[0,1,2,3,8,9,39,41,46,50,51]) rfl) ?_
   refine bc ((by first|exact bC rfl (bI.tk.get rfl) rfl rfl rfl (by first|omega|(simp;omega))|exact aW rfl (bI.tk.get rfl) rfl rfl rfl (by first|omega|(simp;omega)))) rfl rfl<|bE (aL ((r - 1)) rfl) rfl<|bc ((by first|exact bC rfl (bI.tk.get rfl) rfl rfl rfl (by first|omega|(simp;omega))|exact aW rfl (bI.tk.get rfl) rfl rfl rfl (by first|omega|(simp;omega)))) rfl rfl<|aH [0,1,2,3,8,9] rfl ?_
   refine az (.a 1 rfl<|.v (aS rfl) rfl<|.a 1 rfl<|.k [0,1,2,3,8,9] rfl) ?_
   refine⟨r - 1,by omega,Heap.dP zs r (r - 1),r - 1,(swap_perm zs r (r - 1) (by omega) (by omega)).trans hp,by omega,hs.swap hr0 hji (by omega) hnb,rfl,?_⟩
   unfold eY Heap.dP
   rw[ha,hb,show((r - 1:Nat):Int)=(r:Int) - 1 by omega]
   simp only[List.length_set]
   rfl
  ·have hso:GO L zs (i+1):=by
    by_cases h0:r=0
    ·subst h0;exact hs.IK
    ·refine hs.done ?_
     rw[ha,hb]
     refine Classical.byContradiction fun hn=>?_
     have:=(vu L a b).2 hn
     have e1:q1=true:=by rw[←hq1];exact decide_eq_true (by omega)
     have e2:q2=true:=by rw[←hq2];exact decide_eq_true this
     rw[e1,e2]at hy
     cases hy
   refine bg<|az (.a 1 rfl<|.v (aS rfl) rfl<|.a 1 rfl<|.k [0,1,2,3,8] rfl) ?_
   exact⟨13 - (i+1),by omega,zs,i+1,hp,by omega,hso,rfl,rfl⟩
 ·have hge:ys.length≤i:=by have:=ff hc;omega
  exact bg<|⟨_,ay.of rfl,ys,hp,GO.pair (fun p q h1 h2=>hs p q h1 (by omega)),rfl⟩
theorem GP(L xs:List Int)(c:Option cT)(k:Int)(hx:∀x∈xs,0≤x∧x<L.length)(hn:xs.length≤12):bT Tryz.prog 224 [.own 1,num 0,num xs.length,num k,AS L] [c,eY xs] (fun _ σ'=>∃ys,ys.Perm xs∧ys.Pairwise (sg L)∧σ'=[c,eY ys]):=by
 refine ct Tryz.func224 rfl Tryz.ntmps224 rfl<|ab (.a 1 rfl<|.k [0,1,2,3,4,10] rfl)<|ab (.a 1 rfl<|.k [0,1,2,3,4,10,11] rfl)<|av<|br (fun r st=>st=⟨[(0,.own 1),(1,num 0),(2,num xs.length),(3,num k),(4,AS L),(10,flag true),(11,flag true)],[c,eY xs]⟩) 0 rfl ?_
 rintro r st rfl
 refine av<|ab (.a 2 rfl<|.v (aS rfl) rfl<|.a 1 rfl<|.k [0,1,2,3,4,10,11,12] rfl)<|aj<|ab (.a 2 rfl<|.k [0,1,2,3,4,10,11,12,25] rfl)<|ah (b:=decide ((xs.length:Int) - 0≤12)) rfl (fun _=>?_) (fun hc=>absurd (ff hc) (by omega))
 refine aQ<|au 4 rfl<|cS rfl rfl (bT.mono (A4 L xs c hx hn) (fun _ σ' h=>?_))
 obtain⟨ys,h1,h2,rfl⟩:=h
 refine aH [] rfl ?_
 exact aq ⟨_,.nil,ys,h1,h2,rfl⟩
theorem zV(L xs:List Int)(c:Option cT)(hx:∀x∈xs,0≤x∧x<L.length)(hn:xs.length≤12):bT Tryz.prog 215 [.own 1,AS L] [c,eY xs] (fun _ σ'=>∃ys,ys.Perm xs∧ys.Pairwise (sg L)∧σ'=[c,eY ys]):=by
 have hw:IntKind.u64.wrap (xs.length:Int)=(xs.length:Int):=by rw[IntKind.wrap_u64];omega
 refine ct Tryz.func215 rfl Tryz.ntmps215 rfl<|ab (.a 3 rfl<|.k [0,1,4] rfl)<|bF<|au 3 rfl<|bE (qR rfl Tryz.underlying3 Tryz.underlying247 rfl hw) rfl<|eA rfl (GM xs.length hn) rfl<|au 1 rfl<|cS rfl rfl (bT.mono (GP L xs c _ hx hn) (fun _ σ' h=>?_))
 obtain⟨ys,h1,h2,rfl⟩:=h
 refine aH [] rfl ?_
 exact⟨_,ay.of rfl,ys,h1,h2,rfl⟩
def oT(L:List Int)(i:Nat):List Int:=((List.range i).filter fun k=>decide (0≤L.getD k 0)).map Int.ofNat
theorem Au(L:List Int)(i:Nat):oT L (i+1)=oT L i++(if 0≤L.getD i 0 then [(i:Int)] else []):=by
 unfold oT
 rw[List.range_succ,List.filter_append,List.map_append]
 congr 1
 by_cases h:0≤L.getD i 0
 ·rw[if_pos h,List.filter_cons,if_pos (by simpa using h)];rfl
 ·rw[if_neg h,List.filter_cons,if_neg (by simpa using h)];rfl
theorem wT(L:List Int)(i:Nat):(oT L i).length≤i:=by
 unfold oT
 rw[List.length_map]
 exact Nat.le_trans (List.length_filter_le _ _) (by simp)
theorem uV{L:List Int}{i:Nat}{x:Int}:x∈oT L i↔∃k:Nat,x=(k:Int)∧k<i∧0≤L.getD k 0:=by
 unfold oT
 simp only[List.mem_map,List.mem_filter,List.mem_range,decide_eq_true_eq]
 constructor
 ·rintro⟨k,⟨h1,h2⟩,rfl⟩;exact⟨k,rfl,h1,h2⟩
 ·rintro⟨k,rfl,h1,h2⟩;exact⟨k,⟨h1,h2⟩,rfl⟩
theorem xH(L:List Int)(i:Nat):(oT L i).Nodup:=by
 unfold oT
 have h1:(List.range i).Pairwise (· ≠ ·):=List.nodup_range
 refine List.Pairwise.map Int.ofNat (fun a b h e=>h (by cases e;rfl)) (h1.filter _)
theorem yx(L cs:List Int)(hn:L.length≤12):bT Tryz.prog 202 [aw L] [eY cs] (fun r σ'=>∃ys,ys.Perm (oT L L.length)∧ys.Pairwise (sg L)∧r= .own 1∧σ'=[eY cs,eY ys]):=by
 refine ct Tryz.func202 rfl Tryz.ntmps202 rfl<|ab (.a 2 rfl<|.k [1] rfl)<|ab (.a 1 rfl<|.k [1,3] rfl)<|gQ 3 3 1 rfl ?_
 refine aj<|ab (.a 3 rfl<|.k [1,3,6,7,8] rfl)<|av<|ft [1,3,6,7,8] rfl<|br (fun r st=>∃i,i≤L.length∧r=L.length - i∧st=⟨[(1,.aX [aw L] 0),(3,.own 1),(6,aw L),(7,num L.length),(8,num i)],[eY cs,eY (oT L i)]⟩) L.length ⟨0,by omega,by omega,rfl⟩ ?_
 rintro r st ⟨i,hi,rfl,rfl⟩
 have hhl:=wT L i
 refine ab (.a 1 rfl<|.k [1,3,6,7,8,9] rfl)<|aj<|ah rfl (fun hc=>?_) (fun hc=>?_)
 ·have hlt:i<L.length:=by have:=tt hc;omega
  have hst:=Au L i
  refine ak<|aj<|av<|ab (.a 1 rfl<|.v (aL (i) rfl) rfl<|.v (aN rfl (aA L i hlt)) rfl<|.a 2 rfl<|.k [1,3,4,5,6,7,8] rfl)<|ab (.a 2 rfl<|.k [1,3,4,6,7,8,14] rfl)<|ah rfl (fun hy=>?_) (fun hy=>?_)
  ·have h0:0≤L.getD i 0:=tt hy
   rw[if_pos h0]at hst
   refine bF<|au 3 rfl<|cn (bA rfl (bI.rk.get rfl) rfl rfl rfl rfl (by unfold maxLen;omega)) rfl<|au 1 rfl ?_
   refine ep [0,2] (.c 1<|.c 3<|.c 6<|.c 7<|.c 8<|.nil) (.kept rfl (.row aD.pure)<|.kept rfl (.fj rfl (df _ _))<|.nil) rfl rfl (aZ ?_)
   refine az (.v (aS rfl) rfl<|.a 1 rfl<|.k [1,3,6,7,8] rfl) ?_
   refine⟨L.length - (i+1),by omega,i+1,by omega,rfl,?_⟩
   rw[hst]
   first
    |rfl
    |(simp only[eY,List.length_append,List.length_singleton];rfl)
  ·have h0:¬0≤L.getD i 0:=ff hy
   rw[if_neg h0,List.append_nil]at hst
   refine ak<|az (.v (aS rfl) rfl<|.a 1 rfl<|.k [1,3,6,7,8] rfl) ?_
   refine⟨L.length - (i+1),by omega,i+1,by omega,rfl,?_⟩
   rw[hst]
   first
    |rfl
    |(simp only[eY,List.length_append,List.length_singleton];rfl)
 ·have hie:i=L.length:=by have:=ff hc;omega
  subst hie
  refine bg<|aQ<|au 2 rfl<|cS rfl rfl (bT.mono (zV L (oT L L.length) (eY cs) (fun x hx=>by obtain⟨k,rfl,h1,_⟩:=uV.1 hx;omega) (by omega)) (fun _ σ' h=>?_))
  obtain⟨ys,h1,h2,rfl⟩:=h
  refine aH [3] rfl ?_
  exact ab (.a 2 rfl<|.k [2] rfl)<|aq<|⟨_,ay.of rfl,ys,h1,h2,rfl,rfl⟩
theorem wo(xs:List Int)(c:Option cT)(hn:xs.length≤12):bT Tryz.prog 203 [.own 1] [c,eY xs] (fun _ σ'=>σ'=[c,eY xs.reverse]):=by
 refine ct Tryz.func203 rfl Tryz.ntmps203 rfl<|ab (.a 2 rfl<|.v (aS rfl) rfl<|.a 2 rfl<|.k [0,2,3] rfl)<|av<|ft [0,2,3] rfl<|br (fun r st=>∃(ys:List Int) (i:Nat),ys.length=xs.length∧2*i≤xs.length+1∧(∀k,k<xs.length→ys.getD k 0=if k<i∨xs.length - i≤k then xs.getD (xs.length - 1 - k) 0 else xs.getD k 0)∧r=xs.length+1 - i∧st=⟨[(0,.own 1),(2,num i),(3,num ((xs.length:Int) - 1 - i))],[c,eY ys]⟩) (xs.length+1) ⟨xs,0,rfl,by omega,fun k hk=>by rw[if_neg (by omega)],by omega,by simp⟩ ?_
 rintro r st ⟨ys,i,hl,hi,hk,rfl,rfl⟩
 refine aj<|ab (.a 3 rfl<|.k [0,2,3,9] rfl)<|ah rfl (fun hc=>?_) (fun hc=>?_)
 ·have hlt:2*i+1<xs.length:=by have:=tt hc;omega
  obtain⟨a,ha⟩:∃a,ys.getD i 0=a:=⟨_,rfl⟩
  obtain⟨b,hb⟩:∃b,ys.getD (xs.length - 1 - i) 0=b:=⟨_,rfl⟩
  refine ak<|aj<|av<|dU 13 20 mixed (
   .val [0] rfl (bw rfl) rfl rfl<|
   .val [2] rfl (bw rfl) rfl rfl<|
   .late [0] rfl (mQ rfl rfl) inferInstance rfl rfl<|
   .late [3] rfl (mQ rfl rfl) inferInstance rfl rfl<|
   .val [0] rfl (bw rfl) rfl rfl<|
   .val [3] rfl (bw rfl) rfl rfl<|
   .val [18,19] rfl (aL ((xs.length - 1 - i)) rfl) rfl rfl<|
   .val [20] rfl (aN rfl ((aA ys (xs.length - 1 - i) (by omega)).trans (by rw[hb]))) rfl rfl<|
   .val [0] rfl (bw rfl) rfl rfl<|
   .val [2] rfl (bw rfl) rfl rfl<|
   .val [22,23] rfl (aL (i) rfl) rfl rfl<|
   .val [24] rfl (aN rfl ((aA ys i (by omega)).trans (by rw[ha]))) rfl rfl<|
   .val [14,15] rfl (aL (i) rfl) rfl rfl<|
   .nil) (by kernel_rfl) rfl rfl (bd (ks:=[0,2,3,16,17,21,25,26]) rfl) ?_
  refine bc ((by first|exact bC rfl (bI.tk.get rfl) rfl rfl rfl (by first|omega|(simp;omega))|exact aW rfl (bI.tk.get rfl) rfl rfl rfl (by first|omega|(simp;omega)))) rfl rfl<|bE (aL ((xs.length - 1 - i)) rfl) rfl<|bc ((by first|exact bC rfl (bI.tk.get rfl) rfl rfl rfl (by first|omega|(simp;omega))|exact aW rfl (bI.tk.get rfl) rfl rfl rfl (by first|omega|(simp;omega)))) rfl rfl<|aH [0,2,3] rfl ?_
  refine az (.a 1 rfl<|.v (aS rfl) rfl<|.a 1 rfl<|.v (aS rfl) rfl<|.a 2 rfl<|.k [0,2,3] rfl) ?_
  refine⟨xs.length+1 - (i+1),by omega,Heap.dP ys i (xs.length - 1 - i),i+1,by rw[Heap.fQ];exact hl,by omega,fun k hkl=>?_,rfl,?_⟩
  ·rw[Heap.dG ys i (xs.length - 1 - i) k (by omega) (by omega)]
   by_cases h1:k=xs.length - 1 - i
   ·rw[if_pos h1,if_pos (by omega),hk i (by omega),if_neg (by omega),h1,show xs.length - 1 - (xs.length - 1 - i)=i by omega]
   ·rw[if_neg h1]
    by_cases h2:k=i
    ·rw[if_pos h2,if_pos (by omega),hk _ (by omega),if_neg (by omega),h2]
    ·rw[if_neg h2,hk k hkl]
     by_cases h3:k<i∨xs.length - i≤k
     ·rw[if_pos h3,if_pos (by omega)]
     ·rw[if_neg h3,if_neg (by omega)]
  ·unfold eY Heap.dP
   rw[ha,hb,show(xs.length:Int) - 1 - ((i+1:Nat):Int)=(xs.length:Int) - 1 - i - 1 by omega]
   simp only[List.length_set]
   rfl
 ·have hge:¬2*i+1<xs.length:=by have:=ff hc;omega
  refine bg<|⟨_,ay.of rfl,?_⟩
  have:ys=xs.reverse:=by
   refine List.ext_getElem (by simp[hl]) fun k h1 h2=>?_
   have h3:=hk k (by omega)
   rw[List.getElem_reverse]
   have e1:ys.getD k 0=ys[k]:=by simp[h1]
   have e2:xs.getD (xs.length - 1 - k) 0=xs[xs.length - 1 - k]:=by rw[List.getD_eq_getElem?_getD,List.getElem?_eq_getElem (by omega)];rfl
   by_cases h4:k<i∨xs.length - i≤k
   ·rw[if_pos h4,e1,e2]at h3;exact h3
   ·rw[if_neg h4,e1]at h3
    rw[h3,←e2,show xs.length - 1 - k=k by omega]
  rw[this]
end PW
end Go.Proofs.YtnegbdpggideiaaGreatDoor
namespace Go.Proofs.YtnegbdpggideiaaGreatDoor
namespace PW
open Go.RowKit cB Mem
structure hZ (P:Program) (kt:TypeId) {κ:Type} [DecidableEq κ] (enc:κ→Value):Prop where
 nC:∀e a w,(Instr.checkKey e 10000 kt (enc a)).run P w= .ok () w
 eql:∀a b w,(Op.equal kt (enc a) (enc b)).run P w= .ok (decide (a=b)) w
 now:∃d,P.underlying kt=some d∧((∀a b,Instr.sameNow d (enc a) (enc b)=some (decide (a=b)))∨∀a b,Instr.sameNow d (enc a) (enc b)=none)
 bits:∀a,Instr.sameBits 10000 (enc a) (enc a)=true
section
variable {P:Program} {kt:TypeId} {κ:Type} [DecidableEq κ] {enc:κ→Value}
def fO(k:κ):List κ→Nat→Option Nat
 | [],_=>none
 |a::l,i=>if k=a then some i else fO k l (i+1)
theorem iZ{k:κ}:∀ {l:List κ} {i j:Nat},fO k l i=some j→i≤j∧l[j - i]? =some k
 | [],i,j,h=>by cases h
 |a::l,i,j,h=>by
  simp only[fO]at h
  split at h
  ·rename_i he;cases h;subst he;simp
  ·obtain⟨h1,h2⟩:=iZ h
   refine⟨by omega,?_⟩
   rw[show j - i=(j - (i+1))+1 by omega]
   simpa using h2
theorem u5{d:TypeDesc}(hn:∀a b,Instr.sameNow d (enc a) (enc b)=some (decide (a=b)))(k:κ):∀(ks:List κ) (es:List MapEntry) (i:Nat),es.map (·.key)=ks.map enc→
  Instr.findNow d (enc k) es i=some ((fO k ks i).bind fun j=>(es[j - i]?).map fun e=>(j,e.val))
 | [],[],i,_=>rfl
 | [],_::_,i,h=>by simp at h
 |_::_,[],i,h=>by simp at h
 |a::ks,e::es,i,h=>by
  simp only[List.map_cons,List.cons.injEq]at h
  simp only[Instr.findNow,h.1,hn,fO]
  by_cases hk:k=a
  ·rw[decide_eq_true hk,if_pos hk];simp
  ·rw[decide_eq_false hk,if_neg hk]
   simp only[u5 hn k ks es (i+1) h.2]
   congr 1
   cases hf:fO k ks (i+1)with
   |none=>rfl
   |some j=>
    obtain⟨h1,_⟩:=iZ hf
    simp only[Option.bind_some]
    rw[show j - i=(j - (i+1))+1 by omega]
    simp
theorem wx(hk:hZ P kt enc)(k:κ)(w:World):∀(ks:List κ) (es:List MapEntry) (i:Nat),es.map (·.key)=ks.map enc→
  (Instr.findAsking kt (enc k) es i).run P w= .ok ((fO k ks i).bind fun j=>(es[j - i]?).map fun e=>(j,e.val)) w
 | [],[],i,_=>rfl
 | [],_::_,i,h=>by simp at h
 |_::_,[],i,h=>by simp at h
 |a::ks,e::es,i,h=>by
  simp only[List.map_cons,List.cons.injEq]at h
  simp only[Instr.findAsking,Sem.run_bind,h.1,hk.eql,Result.andThen_ok,fO]
  by_cases hka:k=a
  ·rw[if_pos (by simpa using hka),if_pos hka];simp
  ·rw[if_neg (by simpa using hka),if_neg hka,wx hk k w ks es (i+1) h.2]
   congr 1
   cases hf:fO k ks (i+1)with
   |none=>rfl
   |some j=>
    obtain⟨h1,_⟩:=iZ hf
    simp only[Option.bind_some]
    rw[show j - i=(j - (i+1))+1 by omega]
    simp
theorem vY(hk:hZ P kt enc)(k:κ)(w:World)(ks:List κ)(es:List MapEntry)(h:es.map (·.key)=ks.map enc):(Instr.findKey kt (enc k) es).run P w= .ok ((fO k ks 0).bind fun j=>(es[j]?).map fun e=>(j,e.val)) w:=by
 obtain⟨d,hd,hn|hn⟩:=hk.now
 ·have:=u5 hn k ks es 0 h
  simp only[Instr.findKey,Sem.run_bind,run_underlying hd,Result.andThen_ok,this]
  simp
 ·have ha:=wx hk k w ks es 0 h
  simp only[Instr.findKey,Sem.run_bind,run_underlying hd,Result.andThen_ok]
  cases es with
  |nil=>
   have:ks=[]:=by cases ks with|nil=>rfl|cons=>simp at h
   subst this
   rfl
  |cons e es=>
   cases ks with
   |nil=>simp at h
   |cons a ks=>
    simp only[List.map_cons,List.cons.injEq]at h
    have h0:Instr.findNow d (enc k) (e::es) 0=none:=by simp only[Instr.findNow,h.1,hn]
    rw[h0]
    simpa using ha
def fM(enc:κ→Value)(l:List (κ×PV)):List (Value×PV):=l.map fun x=>(enc x.1,x.2)
def dj(k:κ):List (κ×PV)→Option PV
 | []=>none
 |(a,p)::l=>if k=a then some p else dj k l
def ic(k:κ)(p:PV):List (κ×PV)→List (κ×PV)
 | []=>[(k,p)]
 |(a,q)::l=>if k=a then(a,p)::l else(a,q)::ic k p l
theorem xG{k:κ}{l:List (κ×PV)}:dj k l=(fO k (l.map (·.1)) 0).bind fun j=>(l[j]?).map (·.2):=by
 suffices h:∀(i:Nat),dj k l=(fO k (l.map (·.1)) i).bind fun j=>(l[j - i]?).map (·.2) by simpa using h 0
 induction l with
 |nil=>intro i;rfl
 |cons x l ih=>
  intro i
  obtain⟨a,p⟩:=x
  simp only[dj,List.map_cons,fO]
  split
  ·simp
  ·rw[ih (i+1)]
   cases hf:fO k (l.map (·.1)) (i+1)with
   |none=>rfl
   |some j=>
    obtain⟨h1,_⟩:=iZ hf
    simp only[Option.bind_some]
    rw[show j - i=(j - (i+1))+1 by omega]
    simp
theorem BA{k:κ}{p:PV}{l:List (κ×PV)}:ic k p l=match fO k (l.map (·.1)) 0 with|some j=>l.set j (k,p)|none=>l++[(k,p)]:=by
 suffices h:∀(i:Nat),ic k p l=match fO k (l.map (·.1)) i with|some j=>l.set (j - i) (k,p)|none=>l++[(k,p)] by simpa using h 0
 induction l with
 |nil=>intro i;rfl
 |cons x l ih=>
  intro i
  obtain⟨a,q⟩:=x
  simp only[ic,List.map_cons,fO]
  split
  ·rename_i he;subst he;simp
  ·rw[ih (i+1)]
   cases hf:fO k (l.map (·.1)) (i+1)with
   |none=>rfl
   |some j=>
    obtain⟨h1,_⟩:=iZ hf
    simp only
    rw[show j - i=(j - (i+1))+1 by omega]
    simp
theorem qU{k:κ}{p:PV}{l:List (κ×PV)}{x:κ×PV}(h:x∈ic k p l):x=(k,p)∨x∈l:=by
 induction l with
 |nil=>simpa[ic]using h
 |cons y l ih=>
  obtain⟨a,q⟩:=y
  simp only[ic]at h
  split at h
  ·rename_i he
   subst he
   cases h with
   |head=>exact .inl rfl
   |tail _ h=>exact .inr (List.mem_cons_of_mem _ h)
  ·cases h with
   |head=>exact .inr (List.mem_cons_self ..)
   |tail _ h=>
    rcases ih h with h|h
    ·exact .inl h
    ·exact .inr (List.mem_cons_of_mem _ h)
theorem iK{k:κ}{p:PV}{l:List (κ×PV)}(h:dj k l=some p):(k,p)∈l:=by
 induction l with
 |nil=>cases h
 |cons y l ih=>
  obtain⟨a,q⟩:=y
  simp only[dj]at h
  split at h
  ·rename_i he;subst he;cases h;exact List.mem_cons_self ..
  ·exact List.mem_cons_of_mem _ (ih h)
def vQ(p:PV)(v:Value):Prop:=∀E w u,cD E w u p→u=v
theorem oz(v:Value):vQ (.raw v) v:=fun _ _ _ h=>by cases h;rfl
theorem pM(a b:Value):vQ (.agg [.raw a,.raw b]) (.agg #[a,b]):=fun E w u h=>by
 cases h with
 |agg cs _ hl hr=>
  obtain⟨l⟩:=cs
  match l,hl,hr with
  | [x,y],_,hr=>
   have h0:=hr 0 x _ rfl rfl
   have h1:=hr 1 y _ rfl rfl
   cases h0;cases h1;rfl
  | [],hl,_=>simp at hl
  | [_],hl,_=>simp at hl
  |_::_::_::_,hl,_=>simp at hl
def tu(P:Program)(mt:TypeId):Option (TypeId×TypeId):=match P.underlying mt with|some (.map k e)=>some (k,e)|_=>none
theorem l7{mt kt et:TypeId}(h:tu P mt=some (kt,et)):P.underlying mt=some (.map kt et):=by
 unfold tu at h
 split at h
 ·rename_i hu;cases h;exact hu
 ·cases h
def Hk(P:Program)(t:TypeId):Option Value:=match P.info? t with|some i=>i.zero|none=>none
theorem DW{et:TypeId}{z:Value}(h:Hk P et=some z)(w:World):(zeroValue et).run P w= .ok z w:=by
 unfold Hk at h
 split at h
 ·rename_i i hi;simp[zeroValue,typeInfo,hi,h]
 ·cases h
variable {σ:cd} {t:bY} {o:Oper}
theorem rY(hK:hZ P kt enc){F:Nat→Prop}{base:Nat}{E:Env}{w:World}{i mt et:Nat}{l:List (κ×PV)}{v z:Value}(hS:Sat F base σ E w)(hm:tu P mt=some (kt,et))(hz:Hk P et=some z)(hv:cD E w v (.own i))(hi:σ[i]? =some (some (.mp (fM enc l))))(k:κ)(ok:Bool):
  ∃u,(Instr.lookup mt v (enc k) ok).run P w= .ok (if ok then .tuple #[u,.bool (dj k l).isSome] else u) w∧cD E w u ((dj k l).getD (.raw z)):=by
 cases hv with
 |own _ hiL _ hat _=>
  obtain⟨r,es,ck,hr,hb,hheap,hkey,hval⟩:=hS.blk i _ hi
  rw[hat]at hr
  subst hr
  have hkey':es.toList.map (·.key)=(l.map (·.1)).map enc:=by rw[hkey];simp[fM]
  have hf:=vY hK k w (l.map (·.1)) es.toList hkey'
  have hvl:(fM enc l).map (·.2)=l.map (·.2):=by simp[fM]
  rw[hvl]at hval
  have hlk:=xG (k:=k) (l:=l)
  cases hfi:fO k (l.map (·.1)) 0 with
  |none=>
   rw[hfi]at hf hlk
   simp only[Option.bind_none]at hf hlk
   refine⟨z,?_,by rw[hlk];exact .raw z⟩
   simp only[Instr.lookup,Sem.run_bind,run_underlying (l7 hm),Result.andThen_ok,MapKept.run_getObj_map hheap,Sem.run_pure,hK.nC,hf,DW hz,hlk]
   rfl
  |some j=>
   obtain⟨_,hj⟩:=iZ hfi
   simp only[Nat.sub_zero]at hj
   have hjl:j<l.length:=by have:=(List.getElem?_eq_some_iff.1 hj).1;simpa using this
   have hje:j<es.toList.length:=by have:=congrArg List.length hkey';simp at this;rw[Array.length_toList];omega
   rw[hfi]at hf hlk
   simp only[Option.bind_some,List.getElem?_eq_getElem hje,List.getElem?_eq_getElem hjl,Option.map_some]at hf hlk
   refine⟨es.toList[j].val,?_,?_⟩
   ·simp only[Instr.lookup,Sem.run_bind,run_underlying (l7 hm),Result.andThen_ok,MapKept.run_getObj_map hheap,Sem.run_pure,hK.nC,hf,hlk]
    rfl
   ·rw[hlk]
    exact hval.2 j _ _ (by rw[List.getElem?_map,List.getElem?_eq_getElem hje];rfl) (by simp[hjl])
theorem tO(hK:hZ P kt enc){i mt et:Nat}{x ix:Operand}{l:List (κ×PV)}{z:Value}{k:κ}{pk r:PV}(ho:o.op= .lookup mt x ix false)(hm:tu P mt=some (kt,et))(hz:Hk P et=some z)(hx:aC t x=some (.own i))(hi:σ[i]? =some (some (.mp (fM enc l))))(hp:aC t ix=some pk)(hk:vQ pk (enc k))(hr:(dj k l).getD (.raw z)=r):bm P σ t o r:=by
 intro F base E ρ w hρ hS hT
 have h1:=ax hρ hT hx
 have h2:=hk _ _ _ (ax hρ hT hp)
 obtain⟨u,hu,hR⟩:=rY hK hS hm hz h1 hi k false
 simp only[execOp,ho,h2,Sem.run_bind,hu,Result.andThen_ok,Sem.run_pure,Bool.false_eq_true,if_false]
 exact bh (by rw[←hr];exact hR)
theorem zx(hK:hZ P kt enc){i mt et:Nat}{x ix:Operand}{l:List (κ×PV)}{z:Value}{k:κ}{pk r:PV}{q:Bool}(ho:o.op= .lookup mt x ix true)(hm:tu P mt=some (kt,et))(hz:Hk P et=some z)(hx:aC t x=some (.own i))(hi:σ[i]? =some (some (.mp (fM enc l))))(hp:aC t ix=some pk)(hk:vQ pk (enc k))(hr:(dj k l).getD (.raw z)=r)(hq:(dj k l).isSome=q):bm P σ t o (.tuple [r,.raw (.bool q)]):=by
 intro F base E ρ w hρ hS hT
 have h1:=ax hρ hT hx
 have h2:=hk _ _ _ (ax hρ hT hp)
 obtain⟨u,hu,hR⟩:=rY hK hS hm hz h1 hi k true
 simp only[execOp,ho,h2,Sem.run_bind,hu,Result.andThen_ok,Sem.run_pure,if_true]
 refine bh (.tuple #[u,.bool (dj k l).isSome] _ rfl fun i x p k1 k2=>?_)
 match i,k1,k2 with
 |0,k1,k2=>cases k1;cases k2;rw[←hr];exact hR
 |1,k1,k2=>cases k1;cases k2;rw[hq];exact .raw _
 |_+2,_,k2=>simp at k2
theorem nH{α:Type}(a:Array α)(i j:Nat)(v:α):(a.setIfInBounds i v)[j]? =if i=j∧i<a.size then some v else a[j]? :=by
 rw[Array.getElem?_setIfInBounds]
 by_cases h:i=j
 ·subst h
  by_cases h2:i<a.size
  ·simp[h2]
  ·simp[h2]
 ·simp[h]
theorem nV(hK:hZ P kt enc){i mt et:Nat}{x ix y:Operand}{l:List (κ×PV)}{k:κ}{pk p:PV}(ho:o.op= .mapUpdate mt x ix y)(hm:tu P mt=some (kt,et))(hx:aC t x=some (.own i))(hi:σ[i]? =some (some (.mp (fM enc l))))(hp:aC t ix=some pk)(hk:vQ pk (enc k))(hy:aC t y=some p):
  cJ P σ t o (.raw undef) (σ.set i (some (.mp (fM enc (ic k p l))))):=by
 intro F base E ρ w hρ hS hT
 have h1:=ax hρ hT hx
 have h2:=hk _ _ _ (ax hρ hT hp)
 have h3:=ax hρ hT hy
 generalize hz:ρ x=v at h1
 cases h1 with
 |own _ hiL _ hat _=>
  obtain⟨r,es,ck,hr,hb,hheap,hkey,hval⟩:=hS.blk i _ hi
  have hbk:bq (E.at_ i)=some r:=by rw[hr];rfl
  have hsz:r<w.heap.size:=(Array.getElem?_eq_some_iff.1 hheap).1
  rw[hat]at hr
  subst hr
  have hkey':es.toList.map (·.key)=(l.map (·.1)).map enc:=by rw[hkey];simp[fM]
  have hf:=vY hK k w (l.map (·.1)) es.toList hkey'
  have hvl:(fM enc l).map (·.2)=l.map (·.2):=by simp[fM]
  rw[hvl]at hval
  have fin:∀(es':Array MapEntry) (ck':Nat),(Instr.mapUpdate mt (.map (some r)) (enc k) (ρ y)).run P w= .ok () {w with heap:=w.heap.setIfInBounds r (.map es' ck')}→
    es'.toList.map (·.key)=(ic k p l).map (fun a=>enc a.1)→aU E w (es'.toList.map (·.val)) ((ic k p l).map (·.2))→
    ∃v w' E',((execOp ρ o).run P w= .ok (.value v) w'∨(v=undef∧(execOp ρ o).run P w= .ok .skip w'))∧Sat F base (σ.set i (some (.mp (fM enc (ic k p l))))) E' w'∧cQ E w E' w'∧Below base w w'∧cD E' w' v (.raw undef):=fun es' ck' hrun hk' hv'=>by
   have oth:∀j,j<w.heap.size→j≠r→({w with heap:=w.heap.setIfInBounds r (.map es' ck')}:World).heap[j]? =w.heap[j]? :=fun j _ hj=>by
    show(w.heap.setIfInBounds r (.map es' ck'))[j]? =_
    rw[nH,if_neg (by rintro⟨rfl,_⟩;exact hj rfl)]
   have hs':w.heap.size≤({w with heap:=w.heap.setIfInBounds r (.map es' ck')}:World).heap.size:=by simp
   have hrM:E.M r:=(hS.mm r).2 (.inr ⟨i,_,hi,hbk⟩)
   have g:cQ E w E {w with heap:=w.heap.setIfInBounds r (.map es' ck')}:=⟨Nat.le_refl _,fun _ _=>rfl,fun _ _ h=>h,hs',fun j hj hM=>oth j hj (fun e=>hM (by rw[e];exact hrM))⟩
   have hn:=hS.Di (bi':=.mp (fM enc (ic k p l))) hi hbk hs' oth ⟨r,es',ck',hat,hb,by
     show(w.heap.setIfInBounds r (.map es' ck'))[r]? =_
     rw[nH,if_pos ⟨rfl,hsz⟩],by rw[hk'];simp[fM],by
     have:(fM enc (ic k p l)).map (·.2)=(ic k p l).map (·.2):=by simp[fM]
     rw[this];exact hv'.goes g⟩
   refine⟨undef,_,E,.inr ⟨rfl,?_⟩,hn.1,hn.2,⟨rfl,rfl,rfl,hs',fun j hj=>oth j (Nat.lt_of_lt_of_le hj hS.bl) (by omega)⟩,.raw _⟩
   simp only[execOp,ho,hz,h2,Sem.run_bind,hrun,Result.andThen_ok,Sem.run_pure]
  have hsm:=BA (k:=k) (p:=p) (l:=l)
  cases hfi:fO k (l.map (·.1)) 0 with
  |none=>
   rw[hfi]at hf hsm
   simp only[Option.bind_none]at hf hsm
   refine fin (es.push {key:=enc k,val:=ρ y,born:=ck}) (ck+1) ?_ ?_ ?_
   ·simp only[Instr.mapUpdate,Sem.run_bind,run_underlying (l7 hm),Result.andThen_ok,MapKept.run_getObj_map hheap,hK.nC,hf,MapKept.run_setObj_map _ hheap]
   ·rw[hsm];simp[hkey',List.map_map,Function.comp_def]
   ·rw[hsm]
    simp only[Array.toList_push,List.map_append,List.map_cons,List.map_nil]
    exact hval.append (aU.cons h3 (aU.nil _ _))
  |some j=>
   obtain⟨_,hj⟩:=iZ hfi
   simp only[Nat.sub_zero]at hj
   have hjl:j<l.length:=by have:=(List.getElem?_eq_some_iff.1 hj).1;simpa using this
   have hje:j<es.toList.length:=by have:=congrArg List.length hkey';simp at this;rw[Array.length_toList];omega
   have hje':j<es.size:=by simpa using hje
   have hlj:l[j].1=k:=by have:=List.getElem?_eq_some_iff.1 hj;obtain⟨h,e⟩:=this;simpa using e
   have hkj:es[j].key=enc k:=by
    have:=congrArg (·[j]?) hkey'
    simp only[List.getElem?_map,List.getElem?_eq_getElem hje,List.getElem?_eq_getElem hjl,Option.map_some,Option.some.injEq,hlj]at this
    simpa using this
   rw[hfi]at hf hsm
   simp only[Option.bind_some,List.getElem?_eq_getElem hje,Option.map_some]at hf hsm
   refine fin (es.modify j fun e=> {e with key:=enc k,val:=ρ y}) ck ?_ ?_ ?_
   ·have hks:(Instr.keyThatStays ((Option.map (fun x=>x.key) es[j]?).getD (enc k)) (enc k)).run P w= .ok (enc k) w:=by
     rw[Array.getElem?_eq_getElem hje',Option.map_some,Option.getD_some,hkj]
     simp only[Instr.keyThatStays,hK.bits,if_true,Sem.run_pure]
    simp only[Instr.mapUpdate,Sem.run_bind,run_underlying (l7 hm),Result.andThen_ok,MapKept.run_getObj_map hheap,hK.nC,hf,hks,MapKept.run_setObj_map _ hheap]
   ·rw[hsm]
    refine List.ext_getElem? fun n=>?_
    simp only[List.getElem?_map,Array.getElem?_toList,Array.getElem?_modify,List.getElem?_set]
    by_cases hn:j=n
    ·subst hn
     simp[hje',hjl]
    ·have:=congrArg (·[n]?) hkey'
     simp only[List.getElem?_map,Array.getElem?_toList]at this
     simp only[if_neg hn,this,Option.map_map,Function.comp_def]
   ·rw[hsm]
    have hR:=hval.set j h3
    have e1:(es.modify j fun e=> {e with key:=enc k,val:=ρ y}).toList.map (·.val)=(es.toList.map (·.val)).set j (ρ y):=by
     refine List.ext_getElem? fun n=>?_
     simp only[List.getElem?_map,Array.getElem?_toList,Array.getElem?_modify,List.getElem?_set]
     by_cases hn:j=n
     ·subst hn
      simp[hje']
     ·simp only[if_neg hn]
    have e2:(l.set j (k,p)).map (·.2)=(l.map (·.2)).set j p:=by rw[List.map_set]
    rw[e1,e2]
    exact hR
omit [DecidableEq κ] in
theorem ox{mt:TypeId}(enc:κ→Value)(ho:o.op= .makeMap mt none):cJ P σ t o (.own σ.length) (σ++[some (.mp (fM enc ([]:List (κ×PV))))]):=by
 intro F base E ρ w hρ hS hT
 have hr:(execOp ρ o).run P w= .ok (.value (.map (some w.heap.size))) (w.alloc (.map #[] 0)):=by
  simp[execOp,ho,Instr.makeMap]
 have hE:Ext w (w.alloc (.map #[] 0)):=(Ext.refl w).alloc _
 have hp:=hS.push hE (v:=.map (some w.heap.size)) (blk:=.mp (fM enc ([]:List (κ×PV)))) (fun b h=>by simp[bq]at h;omega) ⟨w.heap.size,#[],0,rfl,hS.bl,heap_alloc_new _ _,rfl,aU.nil _ _⟩
 exact⟨_,_,_,.inl hr,hp.1,hp.2,Below.iv hE hS.bl,.own σ.length (by simp[Env.push,hS.len]) _ (by simp[Env.push,hS.len]) rfl⟩
end
section
variable {P:Program} {σ:cd} {t:bY} {o:Oper} {N L:Nat}
def JA(Q:Exit→St→Prop):Exit→St→Prop
 | .goto _,_=>False
 |e,s=>Q e s
theorem zt{c:Code}{st:St}{Q:Exit→St→Prop}(h:W P N L c st (JA Q)):W P N L (.scope c) st Q:=fun F base E₀ w₀ E a w hc hs=>by
 refine wp_scope_straight (wp_mono (h F base E₀ w₀ E a w hc hs) ?_)
 rintro e a' w' ⟨s,E',h1,h2⟩
 cases e with
 |goto l=>exact h1.elim
 |normal=>exact⟨s,E',h1,h2⟩
 |exit _=>exact⟨s,E',h1,h2⟩
 |ret=>exact⟨s,E',h1,h2⟩
 |panic _=>exact⟨s,E',h1,h2⟩
 |outgrown=>exact⟨s,E',h1,h2⟩
theorem zB{l:Nat}{st:St}{Q:Exit→St→Prop}(h:Q .normal st):W P N L (.label l) st Q:=fun _ _ _ _ E _ _ hc hs=>wp_label ⟨st,E,h,hs,hc.g,hc.b⟩
theorem sC{x:Operand}{k:Nat}{xs:List PV}{p:PV}(ho:o.op= .extract x k)(hx:aC t x=some (.tuple xs))(hp:xs[k]? =some p):kQ P t o p:=fun E ρ w hρ hT=>by
 have h1:=ax hρ hT hx
 generalize hz:ρ x=z at h1
 cases h1 with
 |tuple cs _ hl hr=>
  obtain⟨c,hcc,hcr⟩:=aU.get (E:=E) (w:=w) (cs:=cs.toList) ⟨by simpa using hl,fun i x u h1 h2=>hr i x u (by simpa using h1) h2⟩ hp
  have hcc':cs[k]? =some c:=by simpa using hcc
  exact⟨c,fun w'=>by simp only[execOp,ho,hz,Instr.extract,hcc',Sem.run_bind,Sem.run_pure,Result.andThen_ok],hcr⟩
theorem zS{x y:Operand}{ats:Array TypeId}{a b c:Int}(ho:o.op= .call {callee:=.builtin .min,args:= #[x,y],argTypes:=ats})(hx:aC t x=some (.raw (.int .i64 a)))(hy:aC t y=some (.raw (.int .i64 b)))(hc:min a b=c):bm P σ t o (.raw (.int .i64 c)):=by
 intro F base E ρ w hρ _ hT
 have h1:=ax hρ hT hx
 have h2:=ax hρ hT hy
 generalize hz:ρ x=z at h1
 generalize hz':ρ y=z' at h2
 cases h1
 cases h2
 have he:(if b<a then b else a)=c:=by rw[←hc];by_cases h:b<a<;>simp[h]<;>omega
 simp[execOp,ho,resolve,invoke,builtin,Builtin.min_,Builtin.min2,hz,hz',he]
 exact bh (.raw _)
def wF(P:Program)(ty:TypeId):Bool:=match P.underlying ty with|some (.slice _)=>true|_=>false
theorem oc{ty:TypeId}(h:wF P ty=true):∃e,P.underlying ty=some (.slice e):=by
 unfold wF at h
 split at h
 ·rename_i e hu;exact⟨e,hu⟩
 ·cases h
theorem F6{x y:Operand}{ty tz:TypeId}(ho:o.op= .binOp .eql ty x y tz)(hk:wF P ty=true)(hx:aC t x=some (.raw (.slice none 0 0)))(hy:aC t y=some (.raw (.slice none 0 0))):bm P σ t o (.raw (.bool true)):=by
 obtain⟨e,hu⟩:=oc hk
 refine wJ ho hx hy fun w=>?_
 have:=Lib.run_eql_slice_nil w ty e none 0 0 0 0 hu
 have hg:∀a n c b m d,(eqGuard .eql ty x y (.slice a n c) (.slice b m d)).run P w= .ok () w:=fun _ _ _ _ _ _=>rfl
 simp only[Sem.run_bind,hg,Result.andThen_ok,this]
 rfl
theorem nG{x y:Operand}{ty tz:TypeId}{n:Nat}{xs:List PV}(ho:o.op= .binOp .eql ty x y tz)(hk:wF P ty=true)(hx:aC t x=some (.slice n xs))(hy:aC t y=some (.raw (.slice none 0 0)))(hn:0<n):bm P σ t o (.raw (.bool false)):=by
 obtain⟨e,hu⟩:=oc hk
 intro F base E ρ w hρ _ hT
 have h1:=ax hρ hT hx
 have h2:=ax hρ hT hy
 generalize hz:ρ x=z at h1
 generalize hz':ρ y=z' at h2
 cases h2
 have hv:∃a c,z= .slice (some a) n c:=by
  cases h1 with
  |bZ=>omega
  |empty=>omega
  |slice b off _ c cs _ h0=>exact⟨_,_,rfl⟩
 obtain⟨a,c,rfl⟩:=hv
 have:=Lib.run_eql_slice_nil w ty e (some a) n c 0 0 hu
 have hg:∀a n c b m d,(eqGuard .eql ty x y (.slice a n c) (.slice b m d)).run P w= .ok () w:=fun _ _ _ _ _ _=>rfl
 simp only[execOp,ho,hz,hz',Sem.run_bind,Sem.run_pure,Result.andThen_ok,hg,this]
 exact bh (.raw _)
end
end PW
end Go.Proofs.YtnegbdpggideiaaGreatDoor
namespace Go.Proofs.YtnegbdpggideiaaGreatDoor
namespace PW
open Go.RowKit cB Mem Net
theorem bT.Dz{P:Program}{f:FuncId}{ps:List PV}{σ:cd}{R:PV→Prop}(h:Can P f ps R)[aJ ps]:bT P f ps σ (fun r σ'=>R r∧σ'=σ):=fun F base E w vs hS hR=>by
 refine(h E.M w vs (fun b hb=>hS.lt hb) hS.gl (hR.pure (fun _ h=>h))).mono ?_
 rintro e w' ⟨v,rfl,hE,r,hr,hv⟩
 exact⟨v,r,σ,E,rfl,⟨hr,rfl⟩,hS.ext hE,.ext hE,Below.iv hE hS.bl,hv.back⟩
section
variable {T:ai} {D:List Bool} {d:Nat}
structure xM (T:ai) (D:List Bool) (d:Nat) (O:List Int):Prop where
 nodup:O.Nodup
 mem:∀x,x∈O↔∃k:Nat,x=(k:Int)∧(k:Int)<T.nodes∧0≤dN T D d k
 pair:O.Pairwise fun x y=>dN T D d y.toNat≤dN T D d x.toNat
theorem xM.of(hv:ao T=true)(hd:(d:Int)<T.nodes){O:List Int}(h1:O.Perm (oT (bu T D d false) (bu T D d false).length))(h2:O.Pairwise (sg (bu T D d false))):xM T D d O:=by
 obtain⟨hb1,_⟩:=dq (D:=D) hv (dir:=false) hd
 refine⟨h1.nodup_iff.2 (xH _ _),fun x=>?_,h2.imp fun {x y} h=>?_⟩
 ·rw[h1.mem_iff,uV]
  constructor
  ·rintro⟨k,e,h3,h4⟩;exact⟨k,e,by omega,h4⟩
  ·rintro⟨k,e,h3,h4⟩;exact⟨k,e,by omega,h4⟩
 ·unfold sg at h
  show(bu T D d false).getD _ 0≤(bu T D d false).getD _ 0
  omega
noncomputable def kB(T:ai)(D:List Bool)(d:Nat)(c:Int)(l:List Int):Int:=l.foldl (fun c a=>min 2 (c+dK T D d (aT T a.toNat).toNat)) c
structure oU (T:ai) (D:List Bool) (d:Nat) (R cs:List Int) (i:Nat):Prop where
 len:(cs.length:Int)=T.nodes
 val:∀m:Nat,(m:Int)<T.nodes→cs.getD m 0=if m=d then 1 else if(m:Int)∈R.take i then dK T D d m else 0
theorem oU.start(hd:(d:Int)<T.nodes)(R:List Int):oU T D d R ((List.replicate T.nodes.toNat 0).set d 1) 0:=by
 refine⟨by simp;omega,fun m hm=>?_⟩
 rw[List.getD_eq_getElem?_getD,List.getElem?_set]
 by_cases h:d=m
 ·subst h;rw[if_pos rfl,if_pos (by simp;omega),if_pos rfl];rfl
 ·rw[if_neg h,if_neg (fun e=>h e.symm),List.getElem?_replicate,if_pos (by omega)];rfl
theorem oU.next(hv:ao T=true)(hd:(d:Int)<T.nodes){O cs:List Int}{i m a y:Nat}(hO:xM T D d O)(h:oU T D d O.reverse cs i)(hi:i<O.reverse.length)(hm:O.reverse.getD i 0=(m:Int))(ha:(a:Int)∈bz T D m d)(hy:aT T a=(y:Int)):cs.getD y 0=dK T D d y∧y≠m∧(y:Int)<T.nodes:=by
 obtain⟨b,hb,hn⟩:=cP ha
 have hba:b=a:=by omega
 subst hba
 obtain⟨y',hy',hyN⟩:=dB hv hn.fx
 have:y'=y:=by omega
 subst this
 have hdy:=hn.dN hy
 have hc:=(aK hv).cost b hn.fx
 refine⟨?_,fun e=>by subst e;omega,hyN⟩
 rw[h.val y' hyN]
 by_cases hyd:y'=d
 ·subst hyd;rw[if_pos rfl,nh]
 ·rw[if_neg hyd,if_pos ?_]
  have hyO:(y':Int)∈O.reverse:=List.mem_reverse.2 ((hO.mem _).2 ⟨y',rfl,hyN,hdy.1⟩)
  have hs:O.reverse=O.reverse.take i++(m:Int)::O.reverse.drop (i+1):=by rw[←hm,←drop_cons _ _ hi,List.take_append_drop]
  have hp:O.reverse.Pairwise fun x y=>dN T D d x.toNat≤dN T D d y.toNat:=List.pairwise_reverse.2 hO.pair
  rw[hs]at hp hyO
  rcases List.mem_append.1 hyO with h1|h1
  ·exact h1
  ·exfalso
   have hp2:=(List.pairwise_append.1 hp).2.1
   rcases List.mem_cons.1 h1 with h2|h2
   ·have:y'=m:=by omega
    subst this;omega
   ·have:=(List.pairwise_cons.1 hp2).1 _ h2
    simp only[Int.toNat_natCast]at this
    omega
theorem oU.fresh{O cs:List Int}{i m:Nat}(hO:xM T D d O)(h:oU T D d O.reverse cs i)(hi:i<O.reverse.length)(hm:O.reverse.getD i 0=(m:Int)):(m:Int)<T.nodes∧0≤dN T D d m∧cs.getD m 0=if m=d then 1 else 0:=by
 have hmO:(m:Int)∈O.reverse:=by rw[←hm];exact bX hi
 obtain⟨k,hk,hkN,hk0⟩:=(hO.mem _).1 (List.mem_reverse.1 hmO)
 have:k=m:=by omega
 subst this
 refine⟨hkN,hk0,?_⟩
 rw[h.val k hkN]
 have hs:O.reverse=O.reverse.take i++(k:Int)::O.reverse.drop (i+1):=by rw[←hm,←drop_cons _ _ hi,List.take_append_drop]
 have hn:O.reverse.Nodup:=List.pairwise_reverse.2 (hO.nodup.imp fun h=>fun e=>h e.symm)
 rw[hs]at hn
 have hnot:¬(k:Int)∈O.reverse.take i:=fun h1=>(List.pairwise_append.1 hn).2.2 _ h1 (k:Int) (by simp) rfl
 rw[if_neg hnot]
theorem oU.step(hv:ao T=true)(hd:(d:Int)<T.nodes){O cs:List Int}{i m:Nat}(hO:xM T D d O)(h:oU T D d O.reverse cs i)(hi:i<O.reverse.length)(hm:O.reverse.getD i 0=(m:Int)):oU T D d O.reverse (cs.set m (kB T D d (cs.getD m 0) (bz T D m d))) (i+1):=by
 obtain⟨hmN,_,hf⟩:=h.fresh hO hi hm
 have hml:m<cs.length:=by have:=h.len;omega
 refine⟨by simpa using h.len,fun x hx=>?_⟩
 rw[List.getD_eq_getElem?_getD,List.getElem?_set,dH _ _ 0 hi,hm]
 by_cases hxm:m=x
 ·subst hxm
  rw[if_pos rfl,if_pos hml,Option.getD_some,hf]
  by_cases hmd:m=d
  ·subst hmd;rw[if_pos rfl,if_pos rfl,iO];rfl
  ·rw[if_neg hmd,if_neg hmd,if_pos (by simp),qq hv hd hmN hmd];rfl
 ·rw[if_neg hxm,←List.getD_eq_getElem?_getD,h.val x hx]
  by_cases hxd:x=d
  ·rw[if_pos hxd,if_pos hxd]
  ·rw[if_neg hxd,if_neg hxd]
   have:(x:Int)∈O.reverse.take i++[(m:Int)]↔(x:Int)∈O.reverse.take i:=by
    simp only[List.mem_append,List.mem_singleton]
    exact⟨fun h=>h.elim id (fun e=>absurd e (by omega)),.inl⟩
   by_cases h1:(x:Int)∈O.reverse.take i
   ·rw[if_pos h1,if_pos (this.2 h1)]
   ·rw[if_neg h1,if_neg (fun h2=>h1 (this.1 h2))]
theorem oU.done(hv:ao T=true)(hd:(d:Int)<T.nodes){O cs:List Int}{n:Nat}(hO:xM T D d O)(h:oU T D d O.reverse cs O.reverse.length)(hn:(n:Int)<T.nodes):cs.getD n 0=dK T D d n:=by
 rw[h.val n hn,List.take_length]
 by_cases hnd:n=d
 ·subst hnd;rw[if_pos rfl,nh]
 ·rw[if_neg hnd]
  by_cases h1:(n:Int)∈O.reverse
  ·rw[if_pos h1]
  ·rw[if_neg h1]
   refine(ze hv hd hn (Int.not_le.1 fun h0=>h1 (List.mem_reverse.2 ((hO.mem _).2 ⟨n,rfl,hn,h0⟩)))).symm
theorem yK(c:Int):kB T D d c []=c:=rfl
theorem yG(c:Int)(l:List Int)(k a:Nat)(hk:k<l.length)(ha:l.getD k 0=(a:Int)):kB T D d c (l.take (k+1))=min 2 (kB T D d c (l.take k)+dK T D d (aT T a).toNat):=by
 unfold kB
 rw[dH _ _ 0 hk,List.foldl_append,ha]
 rfl
theorem vb(hv:ao T=true)(hd:(d:Int)<T.nodes)(c:Int)(h0:0≤c)(h2:c≤2)(l:List Int):0≤kB T D d c l∧kB T D d c l≤2:=nI _ (fun a=>(ko hv hd _).1) l c h0 h2
theorem Cc(cs:List Int)(m:Nat)(hm:m<cs.length):cs.set m (cs.getD m 0)=cs:=by
 rw[List.getD_eq_getElem?_getD,List.getElem?_eq_getElem hm,Option.getD_some,List.set_getElem_self]
end
def Io(T:ai)(D:List Bool)(n d:Int)(c:Int):PV:=.tuple [num (if cc T D n d=0 then c else 0),num (cc T D n d)]
set_option maxHeartbeats 2000000 in
theorem Ac(T:ai)(D:List Bool)(n d:Int)(h12:T.nodes≤12):Can Tryz.prog 178 [aP T,aY D,num n,num d,num 2] (· =Io T D n d (dK T D d.toNat n.toNat)):=by
 refine aE Tryz.func178 rfl Tryz.ntmps178 rfl<|ab (.a 3 rfl<|.k [1,2,3,4,5] rfl)<|ab (.a 4 rfl<|.c rfl (sV T D n d) rfl<|.a 5 rfl<|.k [1,2,3,4,5,12,13] rfl)<|aj<|ab (.a 2 rfl<|.k [1,2,3,4,5,12,13,31] rfl)<|ah rfl (fun hc=>?_) (fun hc=>?_)
 ·have he:cc T D n d≠0:=tt hc
  exact ab (.a 3 rfl<|.k [10,11] rfl)<|aq<|⟨_,_,ay.of rfl,aB.pure,by unfold Io;rw[if_neg he];rfl⟩
 ·have he:cc T D n d=0:=Classical.byContradiction (ff hc)
  rw[he]
  obtain⟨hv,hf,hn,hd⟩:=fm he
  rw[aV]at hn hd
  obtain⟨n,rfl⟩:=Int.eq_ofNat_of_zero_le hn.1
  obtain⟨d,rfl⟩:=Int.eq_ofNat_of_zero_le hd.1
  have hn:=hn.2
  have hd:=hd.2
  have hll:=bO hv
  have hS:=aK hv
  obtain⟨hb1,hb2⟩:=dq (D:=D) hv (dir:=false) hd
  obtain⟨N,hN⟩:∃N:Nat,T.nodes=(N:Int):=⟨T.nodes.toNat,by omega⟩
  have hNt:T.nodes.toNat=N:=by omega
  refine ak<|aj<|ab (.a 2 rfl<|.k [1,2,3,4,5,12,34] rfl)<|ah rfl (fun hc=>?_) (fun hc=>?_)
  ·cases hc
  ·refine ak<|ab (.a 1 rfl<|.c rfl (lC T hv) rfl<|.a 1 rfl<|.k [1,2,3,4,5,12,14] rfl)<|aQ<|au 2 rfl<|cn (dD rfl (bI.rk.get rfl) rfl rfl hN hN ⟨by unfold maxLen;omega,by omega⟩) rfl<|au 1 rfl<|aH [1,2,3,4,5,12,14,15] rfl ?_
   refine ej (σ':=[eY (List.replicate N 0)]) (by unfold eY;rw[List.length_replicate,←cN];rfl) ?_
   refine aQ<|au 3 rfl<|bE (zS (c:=1) rfl rfl rfl rfl) rfl<|bE (aL (d) rfl (by omega) (by rw[List.length_replicate];omega)) rfl<|bc ((by first|exact bC rfl (bI.tk.get rfl) rfl rfl rfl (by first|omega|(simp;omega))|exact aW rfl (bI.tk.get rfl) rfl rfl rfl (by first|omega|(simp;omega)))) rfl rfl<|aH [1,2,3,4,5,12,14,15] rfl ?_
   refine ej (σ':=[eY ((List.replicate T.nodes.toNat 0).set d 1)]) ?_ ?_
   ·rw[hNt];unfold eY;simp only[List.length_set,List.length_replicate];rfl
   have hI0:=oU.start (D:=D) hd
   generalize (List.replicate T.nodes.toNat (0:Int)).set d 1=cs0 at hI0
   refine aQ<|au 1 rfl<|cS rfl rfl (bT.mono (yx (bu T D d false) cs0 (by omega)) (fun _ σ' h=>?_))
   obtain⟨O,hO1,hO2,rfl,rfl⟩:=h
   refine au 1 rfl<|aH [1,2,3,4,5,12,14,15,16] rfl ?_
   have hO:=xM.of hv hd hO1 hO2
   have hOl:O.length≤12:=by have:=hO1.length_eq;have:=wT (bu T D d false) (bu T D d false).length;omega
   refine aQ<|au 1 rfl<|cS rfl rfl (bT.mono (wo O (eY cs0) hOl) (fun _ σ' h=>?_))
   subst h
   refine aH [1,2,3,4,5,12,14,15,16] rfl ?_
   refine aj<|ab (.a 3 rfl<|.k [1,2,3,4,5,12,14,15,49,50,51] rfl)<|av<|ft [1,2,3,4,5,12,14,15,49,50,51] rfl<|br (fun r st=>∃(cs:List Int) (i:Nat),i≤O.reverse.length∧r=O.reverse.length - i∧oU T D d O.reverse cs i∧st=⟨[(1,aY D),(2,num n),(3,num d),(4,num 2),(5,.aX (bx T) 0),(12,aw (bu T D d false)),(14,iY (dr (bb T) T.nodes.toNat (2*T.af.length))),(15,.own 0),(49,.own 1),(50,num O.reverse.length),(51,num i)],[eY cs,eY O.reverse]⟩) O.reverse.length ⟨cs0,0,by omega,by omega,hI0 _,rfl⟩ ?_
   rintro r st ⟨cs,i,hi,rfl,hI,rfl⟩
   have hRl:O.reverse.length≤12:=by simpa using hOl
   refine ab (.a 1 rfl<|.k [1,2,3,4,5,12,14,15,49,50,51,52] rfl)<|aj<|ah rfl (fun hx=>?_) (fun hx=>?_)
   ·have hlt:i<O.reverse.length:=by have:=tt hx;omega
    obtain⟨m,hm⟩:∃m:Nat,O.reverse.getD i 0=(m:Int):=by
     obtain⟨k,hk,_⟩:=(hO.mem _).1 (List.mem_reverse.1 (bX (d:=0) hlt))
     exact⟨k,hk⟩
    obtain⟨hmN,hm0,hf0⟩:=hI.fresh hO hlt hm
    have hcl:=hI.len
    have hrow:=vS T m (by omega)
    have hnx:=sX T D (bu T D d false) (bJ T m) m d hv hf hb1 hb2 hmN hd (fun a ha=>jX ha) (Nat.le_trans (ek T m _) (by omega))
    have hnx:Can Tryz.prog 148 [aP T,aY D,aw (bu T D d false),aw (bJ T m),num m,num d] (· =aw (bz T D m d)):=hnx
    have hnl:(bz T D m d).length≤512:=by
     have h1:(bz T D m d).length≤(bJ T m).length:=by unfold bz kC;split;simp;exact List.length_filter_le _ _
     exact Nat.le_trans h1 (Nat.le_trans (ek T m _) (by omega))
    have hset:=Cc cs m (by omega)
    have hcr:0≤cs.getD m 0∧cs.getD m 0≤2:=by rw[hf0];split<;>omega
    refine ak<|aj<|av<|ab (.v (aL (i) rfl) rfl<|.v (aN rfl ((aA _ i hlt).trans (by rw[hm]))) rfl<|.a 1 rfl<|.k [1,2,3,4,5,12,14,15,18,49,50,51] rfl)<|ei mixed (by kernel_rfl) (.a 5 rfl<|.v [58,59] (aL (m) rfl (by omega) (by rw[eM];omega)) rfl rfl<|.v [60] (aN rfl ((sj _ m (by rw[eM];omega)).trans (by rw[hrow]))) rfl rfl<|.a 2 rfl<|.v [55,56,57,61,62,63] (dR rfl (hnx)) rfl rfl<|.a 2 rfl<|.k [1,2,3,4,5,12,14,15,18,49,50,51,64,65,66] rfl) ?_
    refine av<|ft [1,2,3,4,5,12,14,15,18,49,50,51,64,65,66] rfl<|br (fun r st=>∃k:Nat,k≤(bz T D m d).length∧r=(bz T D m d).length - k∧st=⟨[(1,aY D),(2,num n),(3,num d),(4,num 2),(5,.aX (bx T) 0),(12,aw (bu T D d false)),(14,iY (dr (bb T) T.nodes.toNat (2*T.af.length))),(15,.own 0),(18,num m),(49,.own 1),(50,num O.reverse.length),(51,num i),(64,aw (bz T D m d)),(65,num (bz T D m d).length),(66,num k)],[eY (cs.set m (kB T D d (cs.getD m 0) ((bz T D m d).take k))),eY O.reverse]⟩) (bz T D m d).length ⟨0,by omega,by omega,by rw[List.take_zero,yK,hset];rfl⟩ ?_
    rintro r st ⟨k,hk,rfl,rfl⟩
    have hfr:=vb (D:=D) hv hd (cs.getD m 0) hcr.1 hcr.2 ((bz T D m d).take k)
    have hfst:=yG (T:=T) (D:=D) (d:=d) (cs.getD m 0) (bz T D m d) k
    generalize hd12:kB T D d (cs.getD m 0) ((bz T D m d).take k)=c at hfr hfst
    refine ab (.a 1 rfl<|.k [1,2,3,4,5,12,14,15,18,49,50,51,64,65,66,67] rfl)<|aj<|ah rfl (fun hy=>?_) (fun hy=>?_)
    ·have hkl:k<(bz T D m d).length:=by have:=tt hy;omega
     obtain⟨a,ha,han⟩:=cP (bX (d:=0) hkl)
     have hmem:(a:Int)∈bz T D m d:=by rw[←ha];exact bX hkl
     obtain⟨y,hyh,hyN⟩:=dB hv han.fx
     obtain⟨hcy,hym,_⟩:=hI.next hv hd hO hlt hm hmem hyh
     have hh:=fH T a han.fx (by omega)
     rw[hyh]at hh
     have hcyr:=ko (D:=D) hv hd y
     have hg1:(cs.set m c).getD y 0=dK T D d y:=by rw[←hcy,List.getD_eq_getElem?_getD,List.getElem?_set,if_neg (fun e=>hym e.symm),←List.getD_eq_getElem?_getD]
     have hg2:(cs.set m c).getD m 0=c:=by rw[List.getD_eq_getElem?_getD,List.getElem?_set,if_pos rfl,if_pos (by omega)];rfl
     have hfst:=hfst a hkl ha
     rw[hyh,Int.toNat_natCast]at hfst
     refine ak<|aj<|av<|ab (.v (aL (k) rfl) rfl<|.v (aN rfl ((aA _ k hkl).trans (by rw[ha]))) rfl<|.a 1 rfl<|.k [1,2,3,4,5,12,14,15,18,20,49,50,51,64,65,66] rfl)<|ab (.a 3 rfl<|.c rfl (hh) rfl<|.v (aL (y) rfl (by omega) (by simp only[List.length_set];omega)) rfl<|.v (aN rfl ((aA _ y (by simp only[List.length_set];omega)).trans (by rw[hg1]))) rfl<|.a 1 rfl<|.k [1,2,3,4,5,12,14,15,18,21,49,50,51,64,65,66] rfl)<|ab (.a 4 rfl<|.v (aL (m) rfl (by omega) (by simp only[List.length_set];omega)) rfl<|.v (aN rfl ((aA _ m (by simp only[List.length_set];omega)).trans (by rw[hg2]))) rfl<|.v (aS rfl) rfl<|.a 1 rfl<|.k [1,2,3,4,5,12,14,15,18,21,49,50,51,64,65,66,83] rfl)<|ah rfl (fun hz=>?_) (fun hz=>?_)
     ·have hv2:kB T D d (cs.getD m 0) ((bz T D m d).take (k+1))=2:=by have:=tt hz;omega
      refine bF<|au 3 rfl<|bE (aL (m) rfl (by omega) (by simp only[List.length_set];omega)) rfl<|bc ((by first|exact bC rfl (bI.tk.get rfl) rfl rfl rfl (by first|omega|(simp;omega))|exact aW rfl (bI.tk.get rfl) rfl rfl rfl (by first|omega|(simp;omega)))) rfl rfl<|aH [1,2,3,4,5,12,14,15,18,49,50,51,64,65,66] rfl ?_
      refine az (.v (aS rfl) rfl<|.a 1 rfl<|.k [1,2,3,4,5,12,14,15,18,49,50,51,64,65,66] rfl) ?_
      refine⟨(bz T D m d).length - (k+1),by omega,k+1,by omega,rfl,?_⟩
      rw[hv2]
      unfold eY
      simp only[List.length_set,List.set_set]
      rfl
     ·have hv2:kB T D d (cs.getD m 0) ((bz T D m d).take (k+1))=c+dK T D d y:=by have:=ff hz;omega
      refine bF<|au 2 rfl<|bE (aL (m) rfl (by omega) (by simp only[List.length_set];omega)) rfl<|bE (aN rfl ((aA _ m (by simp only[List.length_set];omega)).trans (by rw[hg2]))) rfl<|au 1 rfl<|bE (aS rfl) rfl<|bE (aL (m) rfl (by omega) (by simp only[List.length_set];omega)) rfl<|bc ((by first|exact bC rfl (bI.tk.get rfl) rfl rfl rfl (by first|omega|(simp;omega))|exact aW rfl (bI.tk.get rfl) rfl rfl rfl (by first|omega|(simp;omega)))) rfl rfl<|aH [1,2,3,4,5,12,14,15,18,49,50,51,64,65,66] rfl ?_
      refine az (.v (aS rfl) rfl<|.a 1 rfl<|.k [1,2,3,4,5,12,14,15,18,49,50,51,64,65,66] rfl) ?_
      refine⟨(bz T D m d).length - (k+1),by omega,k+1,by omega,rfl,?_⟩
      rw[hv2]
      unfold eY
      simp only[List.length_set,List.set_set]
      rfl
    ·have hke:k=(bz T D m d).length:=by have:=ff hy;omega
     refine bg<|az (.v (aS rfl) rfl<|.a 1 rfl<|.k [1,2,3,4,5,12,14,15,49,50,51] rfl) ?_
     have hI2:=hI.step hv hd hO hlt hm
     rw[hke,List.take_length]at hd12
     exact⟨O.reverse.length - (i+1),by omega,cs.set m (kB T D d (cs.getD m 0) (bz T D m d)),i+1,by omega,rfl,hI2,by rw[hd12];rfl⟩
   ·have hie:i=O.reverse.length:=by have:=ff hx;omega
    subst hie
    have hres:=hI.done hv hd hO hn
    have hcl:=hI.len
    exact bg<|ab (.a 2 rfl<|.v (aL (n) rfl) rfl<|.v (aN rfl ((aA cs n (by omega)).trans (by rw[hres]))) rfl<|.a 2 rfl<|.k [10,11] rfl)<|aq<|⟨_,_,ay.of rfl,aB.pure,by unfold Io;rw[he,if_pos rfl];rfl⟩
theorem BK(T:ai)(D:List Bool)(n d:Int):fy T D n d=(decide (cc T D n d=0)&&decide ((if cc T D n d=0 then dK T D d.toNat n.toNat else 0)=1)):=by
 unfold fy
 by_cases h:cc T D n d=0
 ·rw[if_pos h]
 ·simp[h]
set_option maxHeartbeats 2000000 in
theorem p8(T:ai)(D:List Bool)(n d:Int)(h12:T.nodes≤12):Can Tryz.prog 152 [aP T,aY D,num n,num d] (· =flag (fy T D n d)):=by
 rw[BK]
 obtain⟨q1,hq1⟩:∃q,decide (cc T D n d=0)=q:=⟨_,rfl⟩
 obtain⟨q2,hq2⟩:∃q,decide ((if cc T D n d=0 then dK T D d.toNat n.toNat else 0)=1)=q:=⟨_,rfl⟩
 rw[hq1,hq2]
 refine aE Tryz.func152 rfl Tryz.ntmps152 rfl<|ab (.a 2 rfl<|.k [1,2,3,4] rfl)<|ab (.a 4 rfl<|.c rfl (Ac T D n d h12) rfl<|.a 5 rfl<|.k [9,10] rfl)<|bp 8 (.raw (.bool (q1&&q2))) [] rfl ?_ ?_
 ·refine .a 1 rfl<|.v (cb rfl (hq1)) rfl<|.a 1 rfl<|?_
  cases q1
  ·exact .a 4 rfl<|.k [8] rfl
  ·exact .a 1 rfl<|.v (cb rfl (hq2)) rfl<|.a 2 rfl<|.k [8] rfl
 exact aq<|⟨_,_,ay.of rfl,aB.pure,rfl⟩
structure Il (L out:List Int) (i:Nat) (b:Int):Prop where
 none:b<0→∀k:Nat,k<i→0≤L.getD k 0→(k:Int)∈out
 some:∀n:Nat,b=(n:Int)→n<i∧0≤L.getD n 0∧¬(n:Int)∈out∧∀k:Nat,k<i→0≤L.getD k 0→¬(k:Int)∈out→L.getD k 0≤L.getD n 0
theorem Il.no{L out:List Int}{i:Nat}{b:Int}(h:Il L out i b)(h1:¬(0≤L.getD i 0∧¬(i:Int)∈out∧(b<0∨∃n:Nat,b=(n:Int)∧L.getD n 0<L.getD i 0))):Il L out (i+1) b:=by
 refine⟨fun hb k hk hk0=>?_,fun n hn=>?_⟩
 ·by_cases hki:k=i
  ·subst hki;exact Classical.byContradiction fun ho=>h1 ⟨hk0,ho,.inl hb⟩
  ·exact h.none hb k (by omega) hk0
 ·obtain⟨a1,a2,a3,a4⟩:=h.some n hn
  refine⟨by omega,a2,a3,fun k hk hk0 hko=>?_⟩
  by_cases hki:k=i
  ·subst hki;exact Int.not_lt.1 fun hl=>h1 ⟨hk0,hko,.inr ⟨n,hn,hl⟩⟩
  ·exact a4 k (by omega) hk0 hko
structure Part (L out:List Int):Prop where
 nodup:out.Nodup
 mem:∀x∈out,∃k:Nat,x=(k:Int)∧k<L.length∧0≤L.getD k 0
 pair:out.Pairwise fun x y=>L.getD y.toNat 0≤L.getD x.toNat 0
 rest:∀x∈out,∀k:Nat,k<L.length→0≤L.getD k 0→¬(k:Int)∈out→L.getD k 0≤L.getD x.toNat 0
theorem Part.len{L out:List Int}(h:Part L out):out.length≤L.length:=by
 have h1:=qL L.length (out.map Int.toNat) (by
  unfold List.Nodup
  rw[List.pairwise_map]
  refine List.Pairwise.imp_of_mem ?_ h.nodup
  intro a b ha hb hne e
  obtain⟨k,rfl,_⟩:=h.mem a ha
  obtain⟨k',rfl,_⟩:=h.mem b hb
  simp only[Int.toNat_natCast]at e
  exact hne (by rw[e])) (fun x hx=>by
  obtain⟨y,hy,rfl⟩:=List.mem_map.1 hx
  obtain⟨k,rfl,hk,_⟩:=h.mem y hy
  simpa using hk)
 simpa using h1
end PW
end Go.Proofs.YtnegbdpggideiaaGreatDoor
namespace Go.Proofs.YtnegbdpggideiaaGreatDoor
namespace PW
open Go.RowKit cB Mem
section
variable {P:Program} {kt e:TypeId}
theorem yY(a b:Int):(a==b)=decide (a=b):=Bool.eq_iff_iff.2 (by simp)
theorem zm(b:Bool)(n:Nat)(hu:P.underlying kt=some (.int .i64))(a:Int)(w:World):(Instr.checkKey b (n+1) kt (.int .i64 a)).run P w= .ok () w:=by
 simp only[Instr.checkKey,Sem.run_bind,run_underlying hu,Result.andThen_ok,Sem.run_pure]
theorem eq_int(n:Nat)(hu:P.underlying kt=some (.int .i64))(a b:Int)(w:World):(Op.equalIn (n+1) kt (.int .i64 a) (.int .i64 b)).run P w= .ok (decide (a=b)) w:=by
 simp only[Op.equalIn,Sem.run_bind,run_underlying hu,Result.andThen_ok,if_true,Sem.run_pure,yY]
theorem Ig(hu:P.underlying kt=some (.int .i64)):hZ P kt (fun n:Int=>Value.int .i64 n) where
 nC:=fun b a w=>zm b 9999 hu a w
 eql:=fun a b w=>eq_int _ hu a b w
 now:=⟨_,hu,.inl fun a b=>by simp only[Instr.sameNow,if_true,yY]⟩
 bits:=fun a=>by unfold Instr.sameBits;simp
theorem nu(he:P.underlying e=some (.int .i64)){xs:Array Value}{off:Nat}{v:Value}(hx:xs[off]? =some v)(w:World):(Go.part e xs off).run P w= .ok v w:=by
 simp[Go.part,isAgg,run_underlying he,hx]
abbrev po(p:Int×Int):Array Value:= #[.int .i64 p.1,.int .i64 p.2]
theorem Hn(he:P.underlying e=some (.int .i64))(a:Int×Int)(w:World):(Go.part e (po a) 0).run P w= .ok (.int .i64 a.1) w:=nu he rfl w
theorem sJ(he:P.underlying e=some (.int .i64))(a:Int×Int)(w:World):(Go.part e (po a) 1).run P w= .ok (.int .i64 a.2) w:=nu he rfl w
theorem Cm{i:TypeInfo}(hu:P.underlying kt=some (.array 2 e))(he:P.underlying e=some (.int .i64))(hi:P.info? e=some i)(hs:i.size=1)(b:Bool)(n:Nat)(a:Int×Int)(w:World):(Instr.checkKey b (n+1+1) kt (.agg (po a))).run P w= .ok () w:=by
 have hz:(sizeOf e).run P w= .ok 1 w:=by simp[sizeOf,typeInfo,program,Sem.run,hi,hs]
 have hr:List.range' 0 2=[0,1]:=rfl
 rw[Instr.checkKey]
 simp only[Sem.run_bind,run_underlying hu,Result.andThen_ok]
 simp only[Std.Legacy.Range.forIn_eq_forIn_range',Std.Legacy.Range.size,Nat.sub_zero,Nat.add_one_sub_one,Nat.div_one]
 rw[hr]
 simp only[List.forIn_cons,List.forIn_nil,Sem.run_bind,hz,Result.andThen_ok,Sem.run_pure,Nat.mul_one,Hn he,sJ he,zm b n he]
theorem E7{i:TypeInfo}(hu:P.underlying kt=some (.array 2 e))(he:P.underlying e=some (.int .i64))(hi:P.info? e=some i)(hs:i.size=1)(n:Nat)(a b:Int×Int)(w:World):(Op.equalIn (n+1+1) kt (.agg (po a)) (.agg (po b))).run P w= .ok (decide (a=b)) w:=by
 have hsz:P.cellsOf e=1:=by simp[Program.cellsOf,hi,hs]
 rw[run_equalIn_array w (n+1) _ _ hu hi,hsz]
 show(Op.eqItems (n+1) e 1 _ _ [0,1]).run P w=_
 simp only[Op.eqItems,Sem.run_bind,Nat.mul_one,Hn he,sJ he,Result.andThen_ok,eq_int n he,Sem.run_pure]
 obtain⟨a1,a2⟩:=a
 obtain⟨b1,b2⟩:=b
 by_cases h1:a1=b1<;>by_cases h2:a2=b2<;>simp[h1,h2,Sem.run_bind,sJ he,eq_int n he,Op.eqItems]
theorem FZ{i:TypeInfo}(hu:P.underlying kt=some (.array 2 e))(he:P.underlying e=some (.int .i64))(hi:P.info? e=some i)(hs:i.size=1):hZ P kt (fun p:Int×Int=>Value.agg (po p)) where
 nC:=fun b a w=>Cm hu he hi hs b 9998 a w
 eql:=fun a b w=>E7 hu he hi hs 9998 a b w
 now:=⟨_,hu,.inr fun a b=>by simp only[Instr.sameNow]⟩
 bits:=fun a=>by
  have h:=fun(n:Nat) (x:Int)=>show Instr.sameBits n (.int .i64 x) (.int .i64 x)=true by unfold Instr.sameBits;simp
  show Instr.sameBits (9999+1) _ _=true
  rw[Instr.sameBits]
  simp only[List.zip_cons_cons,List.all_cons,h]
  rfl
end
end PW
end Go.Proofs.YtnegbdpggideiaaGreatDoor
namespace Go.Proofs.YtnegbdpggideiaaGreatDoor
namespace PW
open Go.RowKit cB Mem Net
theorem Fk:tu Tryz.prog 143=some (3,37):=by kernel_rfl
theorem FK:tu Tryz.prog 144=some (125,4):=by kernel_rfl
theorem JO:Hk Tryz.prog 37=some (.slice none 0 0):=by kernel_rfl
theorem JV:Hk Tryz.prog 4=some (.bool false):=by kernel_rfl
theorem I2:wF Tryz.prog 37=true:=by kernel_rfl
abbrev EJ(n:Int):Value:=.int .i64 n
abbrev EU(p:Int×Int):Value:=.agg (po p)
theorem F1:hZ Tryz.prog 3 EJ:=Ig Tryz.underlying3
theorem FV:hZ Tryz.prog 125 EU:=by
 have h:(Tryz.prog.info? 3).map (·.size)=some 1:=by kernel_rfl
 obtain⟨i,h1,h2⟩:=Option.map_eq_some_iff.1 h
 exact FZ Tryz.underlying125 Tryz.underlying3 h1 h2
theorem Ey(a b:Int):Tryz.prog.built 125 [(0,.int .i64 a),(1,.int .i64 b)]=some #[.int .i64 a,.int .i64 b]:=by kernel_rfl
theorem CF{P:Program}{σ:cd}{t:bY}{o:Oper}{ty:TypeId}{x y:Operand}{a b:Int}(ho:o.op= .build ty #[(0,x),(1,y)])(hx:aC t x=some (num a))(hy:aC t y=some (num b))(hb:P.built ty [(0,.int .i64 a),(1,.int .i64 b)]=some #[.int .i64 a,.int .i64 b]):bm P σ t o (.agg [num a,num b]):=by
 intro F base E ρ w hρ hS hT
 have hrun:=run_build (P:=P) w ty #[(0,.int .i64 a),(1,.int .i64 b)] #[.int .i64 a,.int .i64 b] hb
 have h0:ρ x= .int .i64 a:=dQ (ax hρ hT hx)
 have h1:ρ y= .int .i64 b:=dQ (ax hρ hT hy)
 have hr:(execOp ρ o).run P w= .ok (.value (.agg #[.int .i64 a,.int .i64 b])) w:=by
  simp only[execOp,ho,Sem.run_bind,List.map_toArray,List.map_cons,List.map_nil,h0,h1,hrun,Result.andThen_ok,Sem.run_pure]
 rw[hr]
 refine bh (.agg #[.int .i64 a,.int .i64 b] _ rfl (fun i x u k1 k2=>?_))
 match i,k1,k2 with
 |0,k1,k2=>simp at k1 k2;subst k1;subst k2;exact .raw _
 |1,k1,k2=>simp at k1 k2;subst k1;subst k2;exact .raw _
 |_+2,k1,k2=>simp at k2
section
variable {κ:Type} [DecidableEq κ]
theorem sI(k:κ)(p:PV):∀l:List (κ×PV),dj k (ic k p l)=some p
 | []=>by simp[ic,dj]
 |(a,q)::l=>by
  unfold ic
  split
  ·rename_i h;simp[dj,h]
  ·rename_i h;simp only[dj,if_neg h];exact sI k p l
theorem D2{P:Program}{σ:cd}{t:bY}{o:Oper}{x y:Operand}{ty tz:TypeId}{m:Option PV}(ho:o.op= .binOp .eql ty x y tz)(hk:wF P ty=true)(hx:aC t x=some (m.getD (.raw (.slice none 0 0))))(hy:aC t y=some (.raw (.slice none 0 0)))(hm:∀v,m=some v→∃n xs,v= .slice n xs∧0<n):bm P σ t o (.raw (.bool m.isNone)):=by
 cases m with
 |none=>exact F6 ho hk hx hy
 |some v=>
  obtain⟨n,xs,rfl,hn⟩:=hm v rfl
  exact nG ho hk hx hy hn
end
def jU(T:ai)(D:List Bool)(dm:List (Int×PV)):Prop:=∀k v,(k,v)∈dm→∃d:Nat,k=(d:Int)∧(d:Int)<T.nodes∧v=aw (bu T D d false)
def ke(T:ai)(D:List Bool)(um:List ((Int×Int)×PV)):Prop:=∀k v,(k,v)∈um→v=flag (fy T D k.1 k.2)
theorem jU.pure{T:ai}{D:List Bool}{dm:List (Int×PV)}(h:jU T D dm):kG (some (.mp (fM EJ dm))):=fun b hb=>by
 cases hb
 refine⟨fun i u hu=>?_⟩
 have hm:=List.mem_of_getElem? hu
 simp only[fM,List.map_map,List.mem_map,Function.comp]at hm
 obtain⟨⟨k,v⟩,hkv,rfl⟩:=hm
 obtain⟨d,_,_,hv⟩:=h k v hkv
 show IsPure v
 rw[hv]
 infer_instance
theorem ke.pure{T:ai}{D:List Bool}{um:List ((Int×Int)×PV)}(h:ke T D um):kG (some (.mp (fM EU um))):=fun b hb=>by
 cases hb
 refine⟨fun i u hu=>?_⟩
 have hm:=List.mem_of_getElem? hu
 simp only[fM,List.map_map,List.mem_map,Function.comp]at hm
 obtain⟨⟨k,v⟩,hkv,rfl⟩:=hm
 show IsPure v
 rw[h k v hkv]
 infer_instance
theorem jU.set{T:ai}{D:List Bool}{dm:List (Int×PV)}(h:jU T D dm){d:Nat}(hd:(d:Int)<T.nodes):jU T D (ic (d:Int) (aw (bu T D d false)) dm):=fun k v hk=>by
 rcases qU hk with e|e
 ·cases e;exact⟨d,rfl,hd,rfl⟩
 ·exact h k v e
theorem ke.set{T:ai}{D:List Bool}{um:List ((Int×Int)×PV)}(h:ke T D um)(a b:Int):ke T D (ic (a,b) (flag (fy T D a b)) um):=fun k v hk=>by
 rcases qU hk with e|e
 ·cases e;rfl
 ·exact h k v e
theorem jU.look{T:ai}{D:List Bool}{dm:List (Int×PV)}(h:jU T D dm){d:Nat}{v:PV}(hl:dj (d:Int) dm=some v):v=aw (bu T D d false):=by
 obtain⟨d',h1,_,h2⟩:=h _ _ (iK hl)
 have:d'=d:=by omega
 subst this
 exact h2
def ui(T:ai)(n:Int)(p:List Int):List Int:=n::p.map fun a=>aT T a.toNat
def tv(T:ai)(p:List Int):List Int:=(List.range (p.length+1)).map fun i=>cY T (p.take i)
theorem tV(T:ai)(n:Int)(p:List Int):(ui T n p).length=p.length+1:=by simp[ui]
theorem zf(T:ai)(p:List Int):(tv T p).length=p.length+1:=by simp[tv]
theorem DS(T:ai)(n:Int)(p:List Int)(k:Nat)(h:k<p.length):ui T n (p.take (k+1))=ui T n (p.take k)++[aT T (p.getD k 0).toNat]:=by
 rw[dH p k 0 h];simp[ui]
theorem C8(T:ai)(p:List Int)(k:Nat)(h:k<p.length):tv T (p.take (k+1))=tv T (p.take k)++[cY T (p.take (k+1))]:=by
 unfold tv
 rw[show(p.take (k+1)).length+1=(p.take k).length+1+1 by simp;omega,List.range_succ,List.map_append]
 congr 1
 ·refine List.map_congr_left fun i hi=>?_
  have:=List.mem_range.1 hi
  rw[List.take_take,List.take_take,Nat.min_eq_left (by simp at this;omega),Nat.min_eq_left (by simp at this;omega)]
 ·simp only[List.map_cons,List.map_nil,List.take_take]
  rw[Nat.min_eq_left (by simp;omega),show(p.take k).length+1=k+1 by simp;omega]
theorem uH(T:ai)(n:Int)(p:List Int)(i:Nat)(h:i≤p.length):(ui T n p).getD i 0=cE T n (p.take i):=by
 cases i with
 |zero=>rfl
 |succ i=>
  rw[gA T n p i (by omega)]
  simp only[ui,List.getD_cons_succ]
  rw[List.getD_eq_getElem?_getD,List.getElem?_map,List.getElem?_eq_getElem (by omega),List.getD_eq_getElem?_getD,List.getElem?_eq_getElem (by omega)]
  rfl
theorem zg(T:ai)(p:List Int)(i:Nat)(h:i≤p.length):(tv T p).getD i 0=cY T (p.take i):=by
 unfold tv
 rw[List.getD_eq_getElem?_getD,List.getElem?_map,List.getElem?_range (by omega)]
 rfl
def fA(T:ai)(D:List Bool)(n:Int)(p:List Int):Int:=if(ao T&&bP T D)=true then(if fe T n p=0 then(if p.any (fun a=>aM D a.toNat) then 7 else 0) else fe T n p) else 1
abbrev JR(T:ai)(D:List Bool)(p:List Int)(i:Nat):Option cT:=some (.cells 146 (bx T++[aY D,aw p,.own i,.own (i+1),.own (i+2),.own (i+3)]))
def BS(T:ai)(D:List Bool)(p ns cs:List Int)(dm:List (Int×PV))(um:List ((Int×Int)×PV)):cd:=
 [eY ns,eY cs,some (.mp (fM EJ dm)),some (.mp (fM EU um)),JR T D p 0]
theorem lJ{T:ai}:∀ {f:Bool} {n:Int} {l:List Int},ec T f n l=0→∀a∈l,fB T a=true
 |f,n,[],_,a,ha=>by cases ha
 |f,n,b::l,h,a,ha=>by
  simp only[ec]at h
  split at h
  ·omega
  ·split at h
   ·omega
   ·rename_i h1 _
    rcases List.mem_cons.1 ha with rfl|ha
    ·simpa using h1
    ·exact lJ h a ha
theorem mI{T:ai}{n:Int}{p:List Int}(h:fe T n p=0):ao T=true∧bn T n=true∧ec T true n p=0:=by
 unfold fe at h
 split at h
 ·rename_i h1
  split at h
  ·rename_i h2;exact⟨h1,h2,h⟩
  ·omega
 ·omega
theorem gO{T:ai}(hv:ao T=true){p:List Int}(ha:∀a∈p,fB T a=true):∀k,k≤p.length→0≤cY T (p.take k)∧cY T (p.take k)≤65535*k
 |0,_=>by simp[jP]
 |k+1,h=>by
  have:=gO hv ha k (by omega)
  rw[mX T p k (by omega)]
  have:=(jG hv (ha _ (bX (d:=0) (show k<p.length by omega)))).1
  omega
set_option maxHeartbeats 2000000 in
theorem xk(T:ai)(D:List Bool)(p:List Int)(n:Int)(hp:p.length≤1000)(hlk:T.af.length≤256):bT Tryz.prog 111 [aP T,aY D,aw p,num n] [] (fun r σ'=>(fA T D n p≠0∧r= .tuple [.raw (.pointer none),num (fA T D n p)])∨(fA T D n p=0∧r= .tuple [.ptr 4 0,num 0]∧σ'=BS T D p (ui T n p) (tv T p) [] [])):=by
 obtain⟨q1,hq1⟩:∃q,ao T=q:=⟨_,rfl⟩
 obtain⟨q2,hq2⟩:∃q,bP T D=q:=⟨_,rfl⟩
 refine ct Tryz.func111 rfl Tryz.ntmps111 rfl<|ab (.a 3 rfl<|.k [1,2,3,4] rfl)<|aj<|bp 25 (.raw (.bool ((!q1)|| !q2))) [1,2,3,4] rfl ?_ ?_
 ·refine .a 1 rfl<|.c rfl (hq1▸eh T) rfl<|.a 2 rfl<|?_
  cases q1
  ·exact .a 5 rfl<|.k [25,1,2,3,4] rfl
  ·exact .a 2 rfl<|.c rfl (hq2▸kY T D (by omega)) rfl<|.a 2 rfl<|.k [25,1,2,3,4] rfl
 refine ah rfl (fun hc=>?_) (fun hc=>?_)
 ·have he:fA T D n p=1:=by unfold fA;rw[hq1,hq2];cases q1<;>cases q2<;>first|rfl|cases hc
  exact ab (.a 2 rfl<|.k [8,9] rfl)<|aq<|⟨_,ay.of rfl,.inl ⟨by rw[he];decide,by rw[he];rfl⟩⟩
 ·have hv:ao T=true:=by rw[hq1];cases q1;cases hc;rfl
  have hf:bP T D=true:=by rw[hq2];cases q2;cases q1<;>cases hc;rfl
  have hvf:(ao T&&bP T D)=true:=by rw[hv,hf];rfl
  refine ak<|aj<|ab (.a 3 rfl<|.c rfl (uN T n p (by omega)) rfl<|.a 7 rfl<|.k [1,2,3,4,12] rfl)<|ab (.a 2 rfl<|.k [1,2,3,4,12,35] rfl)<|ah rfl (fun hx=>?_) (fun hx=>?_)
  ·have hx1:fe T n p≠0:=tt hx
   have he:fA T D n p=fe T n p:=by unfold fA;rw[if_pos hvf,if_neg hx1]
   exact ab (.a 3 rfl<|.k [8,9] rfl)<|aq<|⟨_,ay.of rfl,.inl ⟨by rw[he];exact hx1,by rw[he];rfl⟩⟩
  ·have hx1:fe T n p=0:=Classical.byContradiction (ff hx)
   obtain⟨_,hn,hw⟩:=mI hx1
   have ha:=lJ hw
   have hcb:=gO hv ha
   refine ak<|aQ<|au 4 rfl<|cn (iF (xs:=[_]) rfl (bI.sl.get rfl) ⟨Nat.le_of_ble_eq_true rfl,Nat.le_of_ble_eq_true rfl⟩ rfl rfl) rfl<|cn (iF (xs:=[_]) rfl (bI.sl.get rfl) ⟨Nat.le_of_ble_eq_true rfl,Nat.le_of_ble_eq_true rfl⟩ rfl rfl) rfl<|cn (ox EJ rfl) rfl<|cn (ox EU rfl) rfl<|au 1 rfl<|cn (fF rfl rfl rfl) rfl<|au 1 rfl<|aH [1,2,4,13] rfl ?_
   refine ab (.a 1 rfl<|.k [1,2,4,13,14] rfl)<|aj<|ab (.a 3 rfl<|.k [1,4,13,14,47,48,49] rfl)<|av<|ft [1,4,13,14,47,48,49] rfl<|br (fun r st=>∃k:Nat,k≤p.length∧r=p.length - k∧(∀a∈p.take k,aM D a.toNat=false)∧st=⟨[(1,aY D),(4,.aX (bx T) 0),(13,.ptr 4 0),(14,num (cY T (p.take k))),(47,aw p),(48,num p.length),(49,num k)],BS T D p (ui T n (p.take k)) (tv T (p.take k)) [] []⟩) p.length ⟨0,by omega,by omega,by simp,rfl⟩ ?_
   rintro r st ⟨k,hk,rfl,hdn,rfl⟩
   have hck:=hcb k hk
   have hl1:=tV T n (p.take k)
   have hl2:=zf T (p.take k)
   have hl3:(p.take k).length=k:=by simp;omega
   refine ab (.a 1 rfl<|.k [1,4,13,14,47,48,49,50] rfl)<|aj<|ah rfl (fun hy=>?_) (fun hy=>?_)
   ·have hlt:k<p.length:=by have:=tt hy;omega
    have hmem:=bX (d:=0) hlt
    have hab:=ha _ hmem
    obtain⟨hac,m,hm,hmN⟩:=jG hv hab
    have hst1:=DS T n p k hlt
    have hst2:=C8 T p k hlt
    have hst3:=mX T p k hlt
    have hab2:=hab
    simp only[fB,decide_eq_true_eq]at hab2
    obtain⟨a,hae⟩:∃a:Nat,p.getD k 0=(a:Int):=⟨(p.getD k 0).toNat,by omega⟩
    have ham:a<2*T.af.length:=by omega
    have hD:D.length=0∨a<D.length:=by simp only[bP,decide_eq_true_eq]at hf;omega
    rw[hae,Int.toNat_natCast]at hm hac hst1 hst3
    have hh:=fH T a ham (by omega)
    rw[hm]at hh
    refine ak<|aj<|av<|ab (.v (aL (k) rfl) rfl<|.v (aN rfl ((aA p k hlt).trans (by rw[hae]))) rfl<|.a 1 rfl<|.k [1,4,13,14,16,47,48,49] rfl)<|aj<|ab (.a 2 rfl<|.c rfl (je D a hD) rfl<|.k [1,4,13,14,16,47,48,49,55] rfl)<|ah rfl (fun hz=>?_) (fun hz=>?_)
    ·have he:fA T D n p=7:=by
      unfold fA
      rw[if_pos hvf,if_pos hx1,if_pos]
      exact List.any_eq_true.2 ⟨_,hmem,by rw[hae];exact hz⟩
     exact ab (.a 2 rfl<|.k [8,9] rfl)<|aq<|⟨_,ay.of rfl,.inl ⟨by rw[he];decide,by rw[he];rfl⟩⟩
    ·have hdn2:∀a∈p.take (k+1),aM D a.toNat=false:=fun x hx=>by
      rw[dH p k 0 hlt]at hx
      rcases List.mem_append.1 hx with h|h
      ·exact hdn x h
      ·simp only[List.mem_singleton]at h;rw[h,hae];exact hz
     refine ak<|ab (.a 3 rfl<|.c rfl (lf T a ham) rfl<|.v (aS rfl (hn:=by unfold In64;omega)) rfl<|.a 1 rfl<|.k [1,4,13,14,16,47,48,49] rfl)<|lj 9 20 mixed (
      .late [13] rfl (mQ rfl rfl) inferInstance rfl rfl<|
      .val [13] rfl (bw rfl) rfl rfl<|
      .val [62] rfl (bw rfl) rfl rfl<|
      .val [63] rfl (bw rfl) rfl rfl<|
      .val [64] rfl (bw rfl) rfl rfl<|
      .val [4] rfl (bw rfl) rfl rfl<|
      .val [16] rfl (bw rfl) rfl rfl<|
      .val [66,67] rfl (dR rfl (hh)) rfl rfl<|
      .val [68] rfl (bw rfl) rfl rfl<|
      .nil) (by kernel_rfl) rfl rfl (bd (ks:=[1,4,13,14,47,48,49,61,65,69]) rfl) ?_
     refine cn (bA rfl (bI.rk.get rfl) rfl rfl rfl rfl (by unfold maxLen;omega)) rfl<|au 3 rfl ?_
     refine ep [5,1,2,3,4] (.c 1<|.c 4<|.c 13<|.c 14<|.c 47<|.c 48<|.c 49<|.nil) (.kept rfl (.fj rfl (df _ _))<|.kept rfl (.row aD.pure)<|.same (jU.pure (T:=T) (D:=D) (dm:=[]) (fun _ _ h=>by cases h)) rfl<|.same (ke.pure (T:=T) (D:=D) (um:=[]) (fun _ _ h=>by cases h)) rfl<|.kept rfl (.cells (aD.c<|aD.c<|aD.c<|aD.c<|aD.c<|aD.c<|aD.c<|aD.c<|aD.c<|aD.nil))<|.nil) rfl rfl (aZ ?_)
     refine bF<|au 7 rfl<|cn (bA rfl (bI.rk.get rfl) rfl rfl rfl rfl (by unfold maxLen;omega)) rfl<|au 3 rfl ?_
     refine ep [0,5,2,3,4] (.c 1<|.c 4<|.c 13<|.c 14<|.c 47<|.c 48<|.c 49<|.nil) (.kept rfl (.row aD.pure)<|.kept rfl (.fj rfl (df _ _))<|.same (jU.pure (T:=T) (D:=D) (dm:=[]) (fun _ _ h=>by cases h)) rfl<|.same (ke.pure (T:=T) (D:=D) (um:=[]) (fun _ _ h=>by cases h)) rfl<|.kept rfl (.cells (aD.c<|aD.c<|aD.c<|aD.c<|aD.c<|aD.c<|aD.c<|aD.c<|aD.c<|aD.nil))<|.nil) rfl rfl (aZ ?_)
     refine az (.v (aS rfl) rfl<|.a 1 rfl<|.k [1,4,13,14,47,48,49] rfl) ?_
     refine⟨p.length - (k+1),by omega,k+1,by omega,rfl,hdn2,?_⟩
     rw[hst1,hst2,hst3,hm]
     unfold BS eY
     simp only[List.length_append,List.length_singleton]
     rfl
   ·have hke:k=p.length:=by have:=ff hy;omega
    subst hke
    rw[List.take_length]at hdn
    refine bg<|ab (.a 3 rfl<|.k [8,9] rfl)<|aq<|⟨_,ay.of rfl,.inr ⟨?_,rfl,by rw[List.take_length]⟩⟩
    unfold fA
    rw[if_pos hvf,if_pos hx1,if_neg]
    intro h
    obtain⟨x,hx,hx2⟩:=List.any_eq_true.1 h
    rw[hdn x hx]at hx2
    cases hx2
noncomputable def fr(T:ai)(D:List Bool)(n:Int)(p:List Int)(i j:Nat):Bool:=
 decide (dN T D (cE T n (p.take j)).toNat (cE T n (p.take i)).toNat=cY T (p.take j) - cY T (p.take i))&&fy T D (cE T n (p.take i)) (cE T n (p.take j))
theorem cq{T:ai}(hv:ao T=true){n:Int}(hn:bn T n=true){p:List Int}(ha:∀a∈p,fB T a=true)(i:Nat)(hi:i≤p.length):∃u:Nat,cE T n (p.take i)=(u:Int)∧(u:Int)<T.nodes:=by
 cases i with
 |zero=>
  obtain⟨h0,h1⟩:=aV.1 hn
  obtain⟨u,hu⟩:=Int.eq_ofNat_of_zero_le h0
  exact⟨u,hu,by rw[←hu];exact h1⟩
 |succ i=>
  rw[gA T n p i (by omega)]
  exact(jG hv (ha _ (bX (d:=0) (show i<p.length by omega)))).2
theorem tF{T:ai}{D:List Bool}(hv:ao T=true)(hf:bP T D=true){d:Nat}(hd:(d:Int)<T.nodes):cw T D [(d:Int)]=0:=by
 unfold cw
 rw[hv,hf]
 have:bn T (d:Int)=true:=aV.2 ⟨by omega,hd⟩
 simp[this]
set_option maxHeartbeats 2000000 in
theorem vW(T:ai)(D:List Bool)(p:List Int)(n:Int)(dm:List (Int×PV))(um:List ((Int×Int)×PV))(x:Option cT)(hx:kG x)(hv:ao T=true)(hf:bP T D=true)(h12:T.nodes≤12)(hn:bn T n=true)(ha:∀a∈p,fB T a=true)(hp:p.length≤1000)(i j:Nat)(hi:i≤p.length)(hj:j≤p.length)(hdm:jU T D dm)(hum:ke T D um):
    bT Tryz.prog 112 [.ptr 4 0,num i,num j] (BS T D p (ui T n p) (tv T p) dm um++[x]) (fun r σ'=>r=flag (fr T D n p i j)∧∃dm' um',jU T D dm'∧ke T D um'∧σ'=BS T D p (ui T n p) (tv T p) dm' um'++[x]):=by
  obtain⟨u,hu,huN⟩:=cq hv hn ha i hi
  obtain⟨y,hy,hyN⟩:=cq hv hn ha j hj
  have hcv:fr T D n p i j=(decide (dN T D y u=cY T (p.take j) - cY T (p.take i))&&fy T D u y):=by unfold fr;rw[hu,hy,Int.toNat_natCast,Int.toNat_natCast]
  rw[hcv]
  obtain⟨hb1,hb2⟩:=dq (D:=D) hv (dir:=false) hyN
  have hS:=aK hv
  have hNp:=hS.nodes
  have hdi:Can Tryz.prog 151 [aP T,aY D,num y] (· = .tuple [aw (bu T D y false),num 0]):=by
    have h:=qu T D (y:Int)
    rw[tF hv hf hyN]at h
    exact h
  have hci:=gO hv ha i hi
  have hcj:=gO hv ha j hj
  have hl1:=tV T n p
  have hl2:=zf T p
  have hgi:=uH T n p i hi
  have hgj:=uH T n p j hj
  have hki:=zg T p i hi
  have hkj:=zg T p j hj
  rw[hu]at hgi
  rw[hy]at hgj
  have hmn:∀v,dj (y:Int) dm=some v→∃n xs,v= .slice n xs∧0<n:=fun v h=>⟨_,_,hdm.look h,by omega⟩
  refine ct Tryz.func112 rfl Tryz.ntmps112 rfl<|ab (.a 1 rfl<|.k [0,1,2] rfl)<|ei mixed (by kernel_rfl) (.a 5 rfl<|.v [15,16] (aL (i) rfl) rfl rfl<|.v [17] (aN rfl ((aA _ i (by omega)).trans (by rw[hgi]))) rfl rfl<|.a 5 rfl<|.v [22,23] (aL (j) rfl) rfl rfl<|.v [24] (aN rfl ((aA _ j (by omega)).trans (by rw[hgj]))) rfl rfl<|.a 2 rfl<|.k [0,1,2,7,8] rfl) ?_
  refine aj<|ab (.a 5 rfl<|.v (tO F1 rfl Fk JO rfl rfl rfl (oz _) rfl) rfl<|.v (D2 rfl I2 rfl rfl hmn) rfl<|.k [0,1,2,7,8,32] rfl)<|ah rfl (fun h1=>?_) (fun h1=>?_)
  · obtain ⟨dm1, hdm1⟩ : ∃ z, ic (y : Int) (aw (bu T D y false)) dm = z := ⟨_, rfl⟩
    have hdm2:jU T D dm1:=by rw[←hdm1];exact hdm.set hyN
    have hlk:dj (y:Int) dm1=some (aw (bu T D y false)):=by rw[←hdm1];exact sI _ _ _
    refine dU 18 20 mixed (
      .val [0] rfl (bw rfl) rfl rfl<|
      .val [34] rfl (bw rfl) rfl rfl<|
      .val [35] rfl (bw rfl) rfl rfl<|
      .val [36] rfl (bw rfl) rfl rfl<|
      .val [8] rfl (bw rfl) rfl rfl<|
      .val [0] rfl (bw rfl) rfl rfl<|
      .val [39] rfl (bw rfl) rfl rfl<|
      .val [40] rfl (bw rfl) rfl rfl<|
      .val [41] rfl (bw rfl) rfl rfl<|
      .val [0] rfl (bw rfl) rfl rfl<|
      .val [43] rfl (bw rfl) rfl rfl<|
      .val [44] rfl (bw rfl) rfl rfl<|
      .val [45] rfl (bw rfl) rfl rfl<|
      .val [8] rfl (bw rfl) rfl rfl<|
      .val [42,46,47] rfl (dR rfl (hdi)) rfl rfl<|
      .val [48] rfl (bw rfl) rfl rfl<|
      .val [33] rfl (bw rfl) rfl rfl<|
      .late [33] rfl (sC rfl rfl rfl) inferInstance rfl rfl<|
      .nil) (by kernel_rfl) rfl rfl (bd (ks:=[0,1,2,7,8,37,38,49]) rfl) ?_
    refine bc (nV F1 rfl Fk rfl rfl rfl (oz _) rfl) rfl rfl<|aH [0,1,2,7,8] rfl ?_
    refine ej (σ':=BS T D p (ui T n p) (tv T p) dm1 um++[x]) (by rw[←hdm1];rfl) ?_
    refine aj<|ei mixed (by kernel_rfl) (.a 5 rfl<|.v [54,55] (tO F1 rfl Fk JO rfl rfl rfl (oz _) (by rw[hlk])) rfl rfl<|.a 1 rfl<|.v [56,57] (aL (u) rfl) rfl rfl<|.v [58] (aN rfl (aA _ u (by omega))) rfl rfl<|.a 5 rfl<|.v [63,64] (aL (j) rfl) rfl rfl<|.v [65] (aN rfl ((aA _ j (by omega)).trans (by rw[hkj]))) rfl rfl<|.a 5 rfl<|.v [70,71] (aL (i) rfl) rfl rfl<|.v [72] (aN rfl ((aA _ i (by omega)).trans (by rw[hki]))) rfl rfl<|.v [66,73] (aS rfl) rfl rfl<|.a 1 rfl<|.k [0,7,8,75] rfl) ?_
    refine ah rfl (fun h2=>?_) (fun h2=>?_)
    · have h3:dN T D y u≠cY T (p.take j) - cY T (p.take i):=tt h2
      refine ab (.a 1 rfl<|.k [6] rfl)<|aq<|⟨_,ay.of rfl,?_,_,_,hdm2,hum,rfl⟩
      rw[decide_eq_false h3]
      rfl
    · have h3:dN T D y u=cY T (p.take j) - cY T (p.take i):=Classical.byContradiction (ff h2)
      obtain⟨b,hb⟩:∃b:Bool,(dj ((u:Int),(y:Int)) um).getD (.raw (.bool false))=flag b:=by
        cases h:dj ((u:Int),(y:Int)) um with
        |none=>exact⟨false,rfl⟩
        |some v=>exact⟨_,hum _ _ (iK h)⟩
      refine ak<|aQ<|au 2 rfl<|bE (CF rfl rfl rfl (Ey _ _)) rfl<|au 2 rfl<|aH [0,7,8,9] rfl ?_
      refine ej (σ':=BS T D p (ui T n p) (tv T p) dm1 um++[x,some (.cells 125 [num u,num y])]) rfl ?_
      refine ei mixed (by kernel_rfl) (.a 5 rfl<|.v [83,84] (zx FV rfl FK JV rfl rfl rfl (pM _ _) hb rfl) rfl rfl<|.a 5 rfl<|.k [0,7,8,9,10,11] rfl) ?_
      refine aj<|ab (.a 2 rfl<|.k [0,7,8,9,10,89] rfl)<|ah rfl (fun h4=>?_) (fun h4=>?_)
      · obtain⟨um1,hum1⟩:∃z,ic ((u:Int),(y:Int)) (flag (fy T D u y)) um=z:=⟨_,rfl⟩
        have hum2:ke T D um1:=by rw[←hum1];exact hum.set u y
        refine ei mixed (by kernel_rfl) (.a 10 rfl<|.v [93,97,98,99] (dR rfl (p8 T D u y h12)) rfl rfl<|.a 1 rfl<|.k [0,9,10] rfl) ?_
        refine dU 6 20 mixed (
          .val [0] rfl (bw rfl) rfl rfl<|
          .val [101] rfl (bw rfl) rfl rfl<|
          .val [102] rfl (bw rfl) rfl rfl<|
          .val [103] rfl (bw rfl) rfl rfl<|
          .val [9] rfl (bw rfl) rfl rfl<|
          .val [10] rfl (bw rfl) rfl rfl<|
          .nil) (by kernel_rfl) rfl rfl (bd (ks:=[10,104,105,106]) rfl) ?_
        refine bc (nV FV (k:=((u:Int),(y:Int))) rfl FK rfl rfl rfl (pM (.int .i64 (u:Int)) (.int .i64 (y:Int))) rfl) rfl rfl<|aH [10] rfl ?_
        refine ej (σ':=BS T D p (ui T n p) (tv T p) dm1 um1++[x,some (.cells 125 [num u,num y])]) (by rw[←hum1];rfl) ?_
        obtain⟨b,hbu⟩:∃b,b=fy T D u y:=⟨_,rfl⟩
        refine ab (.a 2 rfl<|.k [6] rfl)<|cZ [0,1,2,3,4,5] (.c 6<|.nil) (.kept rfl (.row aD.pure)<|.kept rfl (.row aD.pure)<|.same (jU.pure hdm2) rfl<|.same (ke.pure hum2) rfl<|.kept rfl (.cells (aD.c<|aD.c<|aD.c<|aD.c<|aD.c<|aD.c<|aD.c<|aD.c<|aD.c<|aD.nil))<|.same hx rfl<|.nil) rfl rfl ?_
        refine aq<|⟨_,ay.of rfl,?_,_,_,hdm2,hum2,rfl⟩
        rw[decide_eq_true h3,Bool.true_and]
        first
          |rfl
          |(rw[hbu];rfl)
      · have hbu:b=fy T D u y:=by
          cases h:dj ((u:Int),(y:Int)) um with
          |none=>rw[h]at h4;cases h4
          |some v=>
            rw[h,hum _ _ (iK h)]at hb
            have:=hb
            simp only[Option.getD_some]at this
            cases this
            rfl
        have hum2:=hum
        obtain⟨um1,hum1⟩:∃z,z=um:=⟨_,rfl⟩
        subst hum1
        refine ak<|ab (.a 2 rfl<|.k [6] rfl)<|cZ [0,1,2,3,4,5] (.c 6<|.nil) (.kept rfl (.row aD.pure)<|.kept rfl (.row aD.pure)<|.same (jU.pure hdm2) rfl<|.same (ke.pure hum2) rfl<|.kept rfl (.cells (aD.c<|aD.c<|aD.c<|aD.c<|aD.c<|aD.c<|aD.c<|aD.c<|aD.c<|aD.nil))<|.same hx rfl<|.nil) rfl rfl ?_
        refine aq<|⟨_,ay.of rfl,?_,_,_,hdm2,hum2,rfl⟩
        rw[decide_eq_true h3,Bool.true_and]
        first
          |rfl
          |(rw[hbu];rfl)
  · obtain ⟨v, hv1⟩ : ∃ v, dj (y : Int) dm = some v := by
      cases h:dj (y:Int) dm with
      |none=>rw[h]at h1;cases h1
      |some v=>exact⟨v,rfl⟩
    have hlk:dj (y:Int) dm=some (aw (bu T D y false)):=by rw[hv1,hdm.look hv1]
    have hdm2:=hdm
    obtain⟨dm1,hdm1⟩:∃z,z=dm:=⟨_,rfl⟩
    subst hdm1
    refine ak<|aj<|ei mixed (by kernel_rfl) (.a 5 rfl<|.v [54,55] (tO F1 rfl Fk JO rfl rfl rfl (oz _) (by rw[hlk])) rfl rfl<|.a 1 rfl<|.v [56,57] (aL (u) rfl) rfl rfl<|.v [58] (aN rfl (aA _ u (by omega))) rfl rfl<|.a 5 rfl<|.v [63,64] (aL (j) rfl) rfl rfl<|.v [65] (aN rfl ((aA _ j (by omega)).trans (by rw[hkj]))) rfl rfl<|.a 5 rfl<|.v [70,71] (aL (i) rfl) rfl rfl<|.v [72] (aN rfl ((aA _ i (by omega)).trans (by rw[hki]))) rfl rfl<|.v [66,73] (aS rfl) rfl rfl<|.a 1 rfl<|.k [0,7,8,75] rfl) ?_
    refine ah rfl (fun h2=>?_) (fun h2=>?_)
    · have h3:dN T D y u≠cY T (p.take j) - cY T (p.take i):=tt h2
      refine ab (.a 1 rfl<|.k [6] rfl)<|aq<|⟨_,ay.of rfl,?_,_,_,hdm2,hum,rfl⟩
      rw[decide_eq_false h3]
      rfl
    · have h3:dN T D y u=cY T (p.take j) - cY T (p.take i):=Classical.byContradiction (ff h2)
      obtain⟨b,hb⟩:∃b:Bool,(dj ((u:Int),(y:Int)) um).getD (.raw (.bool false))=flag b:=by
        cases h:dj ((u:Int),(y:Int)) um with
        |none=>exact⟨false,rfl⟩
        |some v=>exact⟨_,hum _ _ (iK h)⟩
      refine ak<|aQ<|au 2 rfl<|bE (CF rfl rfl rfl (Ey _ _)) rfl<|au 2 rfl<|aH [0,7,8,9] rfl ?_
      refine ej (σ':=BS T D p (ui T n p) (tv T p) dm1 um++[x,some (.cells 125 [num u,num y])]) rfl ?_
      refine ei mixed (by kernel_rfl) (.a 5 rfl<|.v [83,84] (zx FV rfl FK JV rfl rfl rfl (pM _ _) hb rfl) rfl rfl<|.a 5 rfl<|.k [0,7,8,9,10,11] rfl) ?_
      refine aj<|ab (.a 2 rfl<|.k [0,7,8,9,10,89] rfl)<|ah rfl (fun h4=>?_) (fun h4=>?_)
      · obtain⟨um1,hum1⟩:∃z,ic ((u:Int),(y:Int)) (flag (fy T D u y)) um=z:=⟨_,rfl⟩
        have hum2:ke T D um1:=by rw[←hum1];exact hum.set u y
        refine ei mixed (by kernel_rfl) (.a 10 rfl<|.v [93,97,98,99] (dR rfl (p8 T D u y h12)) rfl rfl<|.a 1 rfl<|.k [0,9,10] rfl) ?_
        refine dU 6 20 mixed (
          .val [0] rfl (bw rfl) rfl rfl<|
          .val [101] rfl (bw rfl) rfl rfl<|
          .val [102] rfl (bw rfl) rfl rfl<|
          .val [103] rfl (bw rfl) rfl rfl<|
          .val [9] rfl (bw rfl) rfl rfl<|
          .val [10] rfl (bw rfl) rfl rfl<|
          .nil) (by kernel_rfl) rfl rfl (bd (ks:=[10,104,105,106]) rfl) ?_
        refine bc (nV FV (k:=((u:Int),(y:Int))) rfl FK rfl rfl rfl (pM (.int .i64 (u:Int)) (.int .i64 (y:Int))) rfl) rfl rfl<|aH [10] rfl ?_
        refine ej (σ':=BS T D p (ui T n p) (tv T p) dm1 um1++[x,some (.cells 125 [num u,num y])]) (by rw[←hum1];rfl) ?_
        obtain⟨b,hbu⟩:∃b,b=fy T D u y:=⟨_,rfl⟩
        refine ab (.a 2 rfl<|.k [6] rfl)<|cZ [0,1,2,3,4,5] (.c 6<|.nil) (.kept rfl (.row aD.pure)<|.kept rfl (.row aD.pure)<|.same (jU.pure hdm2) rfl<|.same (ke.pure hum2) rfl<|.kept rfl (.cells (aD.c<|aD.c<|aD.c<|aD.c<|aD.c<|aD.c<|aD.c<|aD.c<|aD.c<|aD.nil))<|.same hx rfl<|.nil) rfl rfl ?_
        refine aq<|⟨_,ay.of rfl,?_,_,_,hdm2,hum2,rfl⟩
        rw[decide_eq_true h3,Bool.true_and]
        first
          |rfl
          |(rw[hbu];rfl)
      · have hbu:b=fy T D u y:=by
          cases h:dj ((u:Int),(y:Int)) um with
          |none=>rw[h]at h4;cases h4
          |some v=>
            rw[h,hum _ _ (iK h)]at hb
            have:=hb
            simp only[Option.getD_some]at this
            cases this
            rfl
        have hum2:=hum
        obtain⟨um1,hum1⟩:∃z,z=um:=⟨_,rfl⟩
        subst hum1
        refine ak<|ab (.a 2 rfl<|.k [6] rfl)<|cZ [0,1,2,3,4,5] (.c 6<|.nil) (.kept rfl (.row aD.pure)<|.kept rfl (.row aD.pure)<|.same (jU.pure hdm2) rfl<|.same (ke.pure hum2) rfl<|.kept rfl (.cells (aD.c<|aD.c<|aD.c<|aD.c<|aD.c<|aD.c<|aD.c<|aD.c<|aD.c<|aD.nil))<|.same hx rfl<|.nil) rfl rfl ?_
        refine aq<|⟨_,ay.of rfl,?_,_,_,hdm2,hum2,rfl⟩
        rw[decide_eq_true h3,Bool.true_and]
        first
          |rfl
          |(rw[hbu];rfl)
end PW
end Go.Proofs.YtnegbdpggideiaaGreatDoor
