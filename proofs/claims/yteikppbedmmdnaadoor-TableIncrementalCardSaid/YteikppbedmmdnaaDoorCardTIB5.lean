/- Texts of the proof, part 5. -/
import Derived.MapKept
import Derived.Scope
import Derived.Lib.SliceRun
import Derived.Test.YteikppbedmmdnaaDoorCardTIB4
set_option linter.unusedVariables false
set_option linter.unusedSimpArgs false
set_option maxRecDepth 10000
set_option maxHeartbeats 1000000
namespace Go.Proofs.YteikppbedmmdnaaDoor
namespace PW
section
open Go.RowKit cX Mem Net Heap
def cL(b:Bool)(d:Option cy)(N n:Nat)(K P O:List Int):ba:=
 match b with
 |false=>[d,some (.cells 120 [.own 2,.own 3,.own 4]),some (.row 3 1 N (aI K)),some (.row 3 1 N (aI P)),some (.row 3 1 n (aI O))]
 |true=>[d,some (.cells 120 [.own 2,.own 3,.own 5]),some (.row 3 1 N (aI K)),some (.row 3 1 N (aI P)),none,some (.row 3 1 n (aI O))]
def uW:cy→Prop
 | .cells _ xs=>av xs
 | .row _ _ _ xs=>av xs
 | .mp kv=>av (kv.map (·.2))
def gk(d:Option cy):Prop:=∀b,d=some b→uW b
theorem eR.same{fs:List Nat}{σ σ':ba}{js:List Nat}{j:Nat}{d:Option cy}(hd:gk d)(h:σ[j]? =some d)(hs:eR fs σ σ' js):eR fs σ (d::σ') (j::js):=by
 cases d with
 |none=>exact .gone hs
 |some b=>
  have hb:=hd b rfl
  cases b with
  |cells ty xs=>haveI:av xs:=hd _ rfl;exact .kept h (.cells ab.pure) hs
  |row e s n xs=>haveI:av xs:=hd _ rfl;exact .kept h (.row ab.pure) hs
  |mp kv=>haveI:av (kv.map (·.2)):=hd _ rfl;exact .kept h .mp hs
def kx(K P O:List Int):PV:=.bY [aL K,aL P,aL O] 0
theorem gX(b:Bool)(d:Option cy){N n:Nat}{K P O:List Int}(hK:K.length=N)(hP:P.length=N)(hO:O.length=n):aZ (cL b d N n K P O) (.ptr 1 0) (kx K P O):=by
 subst hK;subst hO
 unfold kx aL
 rw[hP]
 cases b<;>exact aZ.ot rfl (aq.cons (aZ.du rfl aq.pure) (aq.cons (aZ.du rfl aq.pure) (aq.cons (aZ.du rfl aq.pure) aq.nil)))
theorem e6{N:Nat}{P O:List Int}(h:bU N P O){p:Nat}(hp:p<O.length):∃i:Nat,O.getD p 0=(i:Int)∧i<N:=by
 obtain⟨h1,h2,_⟩:=h.item p hp
 exact⟨(O.getD p 0).toNat,by omega,by omega⟩
theorem jW{N:Nat}(K P O:List Int)(hP:bU N P O)(hK:K.length=N)(hN:N≤65536)(p q:Nat)(hp:p<O.length)(hq:q<O.length):
  Can Tryd.prog 74 [kx K P O,num p,num q] (· =flag (decide (rk K O p<rk K O q))):=by
 obtain⟨i,hi,hi'⟩:=e6 hP hp
 obtain⟨j,hj,hj'⟩:=e6 hP hq
 have hr:decide (rk K O p<rk K O q)=if K.getD i 0=K.getD j 0 then decide ((i:Int)<(j:Int)) else decide (K.getD i 0<K.getD j 0):=by
  unfold rk
  rw[hi,hj,s8 (by omega) (by omega) (by omega) (by omega),Int.toNat_natCast,Int.toNat_natCast]
 refine bE Tryd.func74 I Tryd.ntmps74 I<|ag (.a 1 I<|.k [0,1,2] I)<|jk mixed (by kernel_rfl) (.a 5 I<|.v [12,13] (aY (p) I) I I<|.v [14] (aV I ((aN O p hp).trans (by rw[hi]))) I I<|.a 5 I<|.v [19,20] (aY (q) I) I I<|.v [21] (aV I ((aN O q hq).trans (by rw[hj]))) I I<|.a 2 I<|.k [0,7,8] I) ?_
 refine al<|jk mixed (by kernel_rfl) (.a 5 I<|.v [26,27] (aY (i) I) I I<|.v [28] (aV I (aN K i (by omega))) I I<|.a 5 I<|.v [33,34] (aY (j) I) I I<|.v [35] (aV I (aN K j (by omega))) I I<|.a 1 I<|.k [0,7,8,37] I) ?_
 refine ak I (fun hc=>?_) (fun hc=>?_)
 ·have:=of_decide_eq_true hc
  rw[if_neg this]at hr
  refine jk mixed (by kernel_rfl) (.a 5 I<|.v [41,42] (aY (i) I) I I<|.v [43] (aV I (aN K i (by omega))) I I<|.a 5 I<|.v [48,49] (aY (j) I) I I<|.v [50] (aV I (aN K j (by omega))) I I<|.a 2 I<|.k [6] I) ?_
  exact aF<|⟨_,_,aK.of I,aZ.pure,by rw[hr];rfl⟩
 ·have:=of_decide_eq_false hc
  rw[if_pos (by simpa using this)]at hr
  exact an<|ag (.a 4 I<|.k [6] I)<|aF<|⟨_,_,aK.of I,aZ.pure,by rw[hr];rfl⟩
theorem kb{N n:Nat}(b:Bool)(d:Option cy)(K P O:List Int)(hP:bU N P O)(hO:O.length=n)(hN:N≤65536)(p q:Nat)(hp:p<O.length)(hq:q<O.length):
  aG Tryd.prog 75 [.ptr 1 0,num p,num q] (cL b d N n K P O) (fun _ σ'=>σ'=cL b d N n K (dM P O p q) (cO O p q)):=by
 obtain⟨i,hi,hi'⟩:=e6 hP hp
 obtain⟨j,hj,hj'⟩:=e6 hP hq
 have hlen:=eC hP
 have hPl:=hP.len
 have gp:(cO O p q).getD p 0=j:=by
  rw[cK O p q p hp hq]
  by_cases h:p=q
  ·rw[if_pos h];subst h;omega
  ·rw[if_neg h,if_pos rfl,hj]
 have gq:(cO O p q).getD q 0=i:=by rw[cK O p q q hp hq,if_pos rfl,hi]
 have hsw:cO O p q=(O.set p (j:Int)).set q (i:Int):=by unfold cO;rw[hi,hj]
 rw[hsw]at gp gq
 refine bc Tryd.func75 I Tryd.ntmps75 I ?_
 cases b
 all_goals
  refine o2 25 20 mixed (
   .val [0] I (bb I) I I<|
   .val [6] I (bb I) I I<|
   .val [7] I (bb I) I I<|
   .val [8] I (bb I) I I<|
   .val [1] I (bb I) I I<|
   .val [0] I (bb I) I I<|
   .val [11] I (bb I) I I<|
   .val [12] I (bb I) I I<|
   .val [13] I (bb I) I I<|
   .late [2] I (qW rfl rfl) inferInstance rfl rfl<|
   .val [0] I (bb I) I I<|
   .val [16] I (bb I) I I<|
   .val [17] I (bb I) I I<|
   .val [18] I (bb I) I I<|
   .val [2] I (bb I) I I<|
   .val [19,20] I (aY (q) I) I I<|
   .val [21] I (aV I ((aN O q hq).trans (by rw[hj]))) I I<|
   .val [0] I (bb I) I I<|
   .val [23] I (bb I) I I<|
   .val [24] I (bb I) I I<|
   .val [25] I (bb I) I I<|
   .val [1] I (bb I) I I<|
   .val [26,27] I (aY (p) I) I I<|
   .val [28] I (aV I ((aN O p hp).trans (by rw[hi]))) I I<|
   .val [9,10] I (aY (p) I) I I<|
   .nil) (by kernel_rfl) I I (aQ (ks:=[0,1,2,14,15,22,29,30]) I) ?_
  refine bq ((by first|exact bu I (bB.tk.get I) I I I (by first|omega|(simp;omega))|exact bm I (bB.tk.get I) I I I (by first|omega|(simp;omega)))) I I<|aM (aY (q) I) I<|bq ((by first|exact bu I (bB.tk.get I) I I I (by first|omega|(simp;omega))|exact bm I (bB.tk.get I) I I I (by first|omega|(simp;omega)))) I I<|aO [0,1,2] I ?_
  refine o2 14 20 mixed (
   .val [0] I (bb I) I I<|
   .val [32] I (bb I) I I<|
   .val [33] I (bb I) I I<|
   .val [34] I (bb I) I I<|
   .val [0] I (bb I) I I<|
   .val [36] I (bb I) I I<|
   .val [37] I (bb I) I I<|
   .val [38] I (bb I) I I<|
   .val [1] I (bb I) I I<|
   .val [39,40] I (aY (p) I) I I<|
   .val [41] I (aV I ((aN ((O.set p (j:Int)).set q (i:Int)) p (by simpa using hp)).trans (by rw[gp]))) I I<|
   .val [1] I (bb I) I I<|
   .val [43] I (bw I) I I<|
   .val [35,42] I (aY (j) I) I I<|
   .nil) (by kernel_rfl) I I (aQ (ks:=[0,2,44,45]) I) ?_
  refine bq ((by first|exact bu I (bB.tk.get I) I I I (by first|omega|(simp;omega))|exact bm I (bB.tk.get I) I I I (by first|omega|(simp;omega)))) I I<|aO [0,2] I ?_
  refine gb 14 20 mixed (
   .val [0] I (bb I) I I<|
   .val [46] I (bb I) I I<|
   .val [47] I (bb I) I I<|
   .val [48] I (bb I) I I<|
   .val [0] I (bb I) I I<|
   .val [50] I (bb I) I I<|
   .val [51] I (bb I) I I<|
   .val [52] I (bb I) I I<|
   .val [2] I (bb I) I I<|
   .val [53,54] I (aY (q) I) I I<|
   .val [55] I (aV I ((aN ((O.set p (j:Int)).set q (i:Int)) q (by simpa using hq)).trans (by rw[gq]))) I I<|
   .val [2] I (bb I) I I<|
   .val [57] I (bw I) I I<|
   .val [49,56] I (aY (i) I) I I<|
   .nil) (by kernel_rfl) I I (aQ (ks:=[58,59]) I) ?_
  refine bq ((by first|exact bu I (bB.tk.get I) I I I (by first|omega|(simp;omega))|exact bm I (bB.tk.get I) I I I (by first|omega|(simp;omega)))) I I<|aO [] I ?_
  refine⟨_,aK.of I,?_⟩
  unfold dM
  rw[hi,hj,hsw]
  rfl
theorem qY(p:Nat)(h:0<p):((p:Int) - 1).tdiv 2=((par p:Nat):Int):=by
 rw[Int.tdiv_eq_ediv_of_nonneg (by omega)];unfold par;omega
theorem oZ{σ:ba}{K P O:List Int}(h:aZ σ (.ptr 1 0) (kx K P O))(p q:Int):aq σ ([.ptr 1 0,num p,num q]++[]) [kx K P O,num p,num q]:=aq.cons h (aq.cons aZ.pure (aq.cons aZ.pure aq.nil))
theorem gy{N n:Nat}(b:Bool)(d:Option cy)(K P O:List Int)(hP:bU N P O)(hO:O.length=n)(hK:K.length=N)(hN:N≤65536)(p:Nat)(hp:p<n)(hL:iF (rk K O) n p):
  aG Tryd.prog 66 [.ptr 1 0,num p] (cL b d N n K P O) (fun _ σ'=>∃P' O',σ'=cL b d N n K P' O'∧bU N P' O'∧O'.length=n∧j9 (rk K O') n∧∀i,bf O' i↔bf O i):=by
 have hlen:=eC hP
 refine bc Tryd.func66 I Tryd.ntmps66 I ?_
 cases b
 all_goals
  refine al<|aw<|fx [0,1] I<|bx (fun r s=>∃P' O' p',bU N P' O'∧O'.length=n∧iF (rk K O') n p'∧p'<n∧(∀i,bf O' i↔bf O i)∧r=p'∧s=⟨[(0,.ptr 1 0),(1,num p')],cL _ d N n K P' O'⟩) p ⟨P,O,p,hP,hO,hL,hp,fun _=>Iff.rfl,rfl,rfl⟩ ?_
  rintro r s ⟨P',O',p',hP',hO',hL',hp',hH',rfl,rfl⟩
  refine al ?_
  obtain⟨q1,hq1⟩:∃q,decide ((0:Int)<(r:Int))=q:=⟨_,rfl⟩
  obtain⟨q2,hq2⟩:∃q,decide (rk K O' r<rk K O' (par r))=q:=⟨_,rfl⟩
  refine bF 15 (.raw (.bool (q1&&q2))) [0,1] I ?_ ?_
  ·refine .a 1 I<|.v (cJ I (hq1)) I<|.a 1 I<|?_
   cases q1
   ·exact .a 7 I<|.k [15,0,1] I
   ·exact .a 3 I<|.v (bw I) I<|.v (jP I I I (by decide) (qY r (by have:=of_decide_eq_true hq1;omega)) (by unfold In64 par;omega)) I<|.v (iG I (oZ (gX _ d hK hP'.len hO') _ _) (hq2▸jW K P' O' hP' hK hN r (par r) (by omega) (by have:=of_decide_eq_true hq1;have:=cV (q:=r) (by omega);omega))) I<|.a 1 I<|.k [15,0,1] I
  refine ak I (fun hc=>?_) (fun hc=>?_)
  ·obtain⟨c1,c2⟩:=Bool.and_eq_true_iff.1 hc
   rw[c1]at hq1
   rw[c2]at hq2
   have hr0:0<r:=by have:=of_decide_eq_true hq1;omega
   have hlt:=of_decide_eq_true hq2
   have hpl:=cV hr0
   refine an<|aw<|a7<|ax 3 I<|aM (bw I) I<|aM (jP I I I (by decide) (qY r hr0) (by unfold In64;omega)) I<|bh I I (aG.mono (kb _ d K P' O' hP' hO' hN r (par r) (by omega) (by omega)) (fun _ σ' h=>?_))
   subst h
   refine aO [0,1] I ?_
   refine aD (.a 1 I<|.v (bw I) I<|.v (jP I I I (by decide) (qY r hr0) (by unfold In64;omega)) I<|.a 1 I<|.k [0,1] I) ?_
   refine⟨par r,hpl,dM P' O' r (par r),cO O' r (par r),par r,hP'.swap (by omega) (by omega),by rw[dO];exact hO',?_,by omega,fun i=>(fX O' r (par r) (by omega) (by omega) i).trans (hH' i),rfl,rfl⟩
   rw[ph K O' r (par r) (by omega) (by omega)]
   exact sJ hL' hr0 hp' hlt
  ·have hdn:lD (rk K O') n r:=oo hL' (by
    by_cases h0:r=0
    ·exact .inl h0
    ·refine .inr ?_
     have h1:q1=true:=by rw[←hq1];simp;omega
     rw[h1]at hc
     simp only[Bool.true_and]at hc
     rw[hc]at hq2
     have:=of_decide_eq_false hq2
     omega)
   clear hL' hq1 hq2 hc
   refine bn<|aw<|fx [0,1] I<|bx (fun r s=>∃P' O' p',bU N P' O'∧O'.length=n∧lD (rk K O') n p'∧p'<n∧(∀i,bf O' i↔bf O i)∧r=n - p'∧s=⟨[(0,.ptr 1 0),(1,num p')],cL _ d N n K P' O'⟩) (n - r) ⟨P',O',r,hP',hO',hdn,hp',hH',rfl,rfl⟩ ?_
   clear hP' hO' hdn hH' P' O' hp' r
   rintro r s ⟨P',O',p',hP',hO',hdn,hp',hH',rfl,rfl⟩
   refine aw<|ag (.a 2 I<|.k [0,1,4] I)<|al<|ag (.a 1 I<|.v (bw I) I<|.v (bw I) I<|.a 1 I<|.k [0,1,4,5] I)<|aw<|fx [0,1,4,5] I<|bx (fun r s=>∃c l,2*p'+1≤c∧c≤2*p'+3∧r=2*p'+3 - c∧l<n∧(l=p'∨(par l=p'∧0<l∧rk K O' l<rk K O' p'))∧(∀x,2*p'+1≤x→x<c→x<n→rk K O' l≤rk K O' x)∧s=⟨[(0,.ptr 1 0),(1,num p'),(4,num l),(5,num c)],cL _ d N n K P' O'⟩) 2 ⟨2*p'+1,p',by omega,by omega,by omega,hp',.inl rfl,fun x h1 h2=>by omega,rfl⟩ ?_
   rintro r s ⟨c,l,hc1,hc2,rfl,hl,hl2,hl3,rfl⟩
   refine al ?_
   obtain⟨q1,hq1⟩:∃q,decide ((c:Int)≤2*(p':Int)+2)=q:=⟨_,rfl⟩
   obtain⟨q2,hq2⟩:∃q,decide ((c:Int)<(n:Int))=q:=⟨_,rfl⟩
   refine bF 42 (.raw (.bool (q1&&q2))) [0,1,4,5] I ?_ ?_
   ·refine .a 2 I<|.v (bw I) I<|.v (bw I) I<|.v (cJ I (hq1)) I<|.a 1 I<|?_
    cases q1
    ·exact .a 8 I<|.k [42,0,1,4,5] I
    ·exact .a 6 I<|.v (cJ I (hq2)) I<|.a 1 I<|.k [42,0,1,4,5] I
   refine ak I (fun hc=>?_) (fun hc=>?_)
   ·obtain⟨c1,c2⟩:=Bool.and_eq_true_iff.1 hc
    rw[c1]at hq1
    rw[c2]at hq2
    have hcn:c<n:=by have:=of_decide_eq_true hq2;omega
    have hc4:c≤2*p'+2:=by have:=of_decide_eq_true hq1;omega
    have hpc:par c=p':=by unfold par;omega
    refine an<|al<|aw<|ag (.a 3 I<|.v (iG I (oZ (gX _ d hK hP'.len hO') _ _) (jW K P' O' hP' hK hN c l (by omega) (by omega))) I<|.k [0,1,4,5,48] I)<|ak I (fun hb=>?_) (fun hb=>?_)
    ·have hb':=of_decide_eq_true hb
     refine aD (.a 2 I<|.k [0,1,4,5] I) ?_
     refine aD (.a 1 I<|.v (bw I) I<|.a 1 I<|.k [0,1,4,5] I) ?_
     first
      |exact⟨2*p'+3 - (c+1),by omega,c+1,c,by omega,by omega,rfl,hcn,.inr ⟨hpc,by omega,by rcases hl2 with h|h;(rw[h]at hb';exact hb');omega⟩,fun x h1 h2 h3=>by by_cases e:x=c;(rw[e];exact Int.le_refl _);(have:=hl3 x h1 (by omega) h3;omega),rfl⟩
      |exact⟨2*p'+3 - (c+1),by omega,c+1,l,by omega,by omega,rfl,hl,hl2,fun x h1 h2 h3=>by by_cases e:x=c;(rw[e];omega);exact hl3 x h1 (by omega) h3,rfl⟩
    ·have hb':=of_decide_eq_false hb
     refine an<|aD (.a 1 I<|.v (bw I) I<|.a 1 I<|.k [0,1,4,5] I) ?_
     first
      |exact⟨2*p'+3 - (c+1),by omega,c+1,c,by omega,by omega,rfl,hcn,.inr ⟨hpc,by omega,by rcases hl2 with h|h;(rw[h]at hb';exact hb');omega⟩,fun x h1 h2 h3=>by by_cases e:x=c;(rw[e];exact Int.le_refl _);(have:=hl3 x h1 (by omega) h3;omega),rfl⟩
      |exact⟨2*p'+3 - (c+1),by omega,c+1,l,by omega,by omega,rfl,hl,hl2,fun x h1 h2 h3=>by by_cases e:x=c;(rw[e];omega);exact hl3 x h1 (by omega) h3,rfl⟩
   ·have hmin:∀x,0<x→x<n→par x=p'→rk K O' l≤rk K O' x:=fun x h0 hx hpx=>by
     refine hl3 x (by unfold par at hpx;omega) ?_ hx
     rcases Nat.lt_or_ge x c with h|h
     ·exact h
     ·exfalso
      have hx2:=tu h0 hpx
      have h1:q1=true:=by rw[←hq1];simp;omega
      rw[h1]at hc
      simp only[Bool.true_and]at hc
      rw[hc]at hq2
      have:=of_decide_eq_false hq2
      omega
    clear hc hq1 hq2 hl3
    refine bn<|al<|ag (.a 3 I<|.k [0,1,4,52] I)<|ak I (fun hc=>?_) (fun hc=>?_)
    ·have hlp:l=p':=by have:=of_decide_eq_true hc;omega
     refine aF<|⟨_,aK.of I,P',O',rfl,hP',hO',?_,hH'⟩
     refine og hdn fun x h0 hx hpx=>?_
     have:=hmin x h0 hx hpx
     rw[hlp]at this
     exact this
    ·have hlp:l≠p':=by have:=of_decide_eq_false hc;omega
     obtain⟨hlp1,hl0,hllt⟩:=hl2.resolve_left hlp
     refine an<|a7<|ax 3 I<|bh I I (aG.mono (kb _ d K P' O' hP' hO' hN p' l (by omega) (by omega)) (fun _ σ' h=>?_))
     subst h
     refine aO [0,4] I ?_
     refine aD (.a 2 I<|.k [0,1] I) ?_
     have hpl:=cV hl0
     refine⟨n - l,by omega,dM P' O' p' l,cO O' p' l,l,hP'.swap (by omega) (by omega),by rw[dO];exact hO',?_,hl,fun i=>(fX O' p' l (by omega) (by omega) i).trans (hH' i),rfl,rfl⟩
     rw[ph K O' p' l (by omega) (by omega)]
     exact n0 hdn hl0 hl hlp1 hllt hmin
def iH(N n:Nat)(K P O:List Int):Prop:=bU N P O∧O.length=n∧K.length=N∧j9 (rk K O) n
theorem ry{N n:Nat}(d:Option cy)(hd:gk d)(K P O:List Int)(h:iH N (n+1) K P O)(hN:N≤65536)(i:Nat)(hi:O.getD 0 0=(i:Int)):
  aG Tryd.prog 67 [.ptr 1 0,num 0] (cL false d N (n+1) K P O) (fun _ σ'=>∃P' O',σ'=cL true d N n (K.set i 0) P' O'∧iH N n (K.set i 0) P' O'∧∀j,bf O' j↔bf O j∧j≠(i:Int)):=by
 obtain⟨hP,hO,hK,hH⟩:=h
 have hlen:=eC hP
 have hiN:i<N:=by have:=(hP.item 0 (by omega)).2.1;rw[hi]at this;omega
 have hPs:=hP.swap (p:=0) (q:=n) (by omega) (by omega)
 have hg:(cO O 0 n).getD n 0=(i:Int):=by rw[cK O 0 n n (by omega) (by omega),if_pos rfl,hi]
 have hPp:=hPs.pop (m:=n) (by rw[dO];exact hO)
 rw[hg,Int.toNat_natCast]at hPp
 have hheld:∀j,bf ((cO O 0 n).take n) j↔bf O j∧j≠(i:Int):=fun j=>by
  rw[rj hPs (by rw[dO];exact hO) j,hg,fX O 0 n (by omega) (by omega)]
 have hOt:((cO O 0 n).take n).length=n:=by rw[List.length_take,dO];omega
 have hPll:(dM P O 0 n).length=N:=hPs.len
 have hrk:∀x,x<n→x≠0→rk (K.set i 0) ((cO O 0 n).take n) x=rk K O x:=fun x hx hx0=>by
  unfold rk
  rw[fO _ _ _ hx,cK O 0 n x (by omega) (by omega),if_neg (by omega),if_neg hx0]
  unfold mb
  have hne:(O.getD x 0).toNat≠i:=fun e=>by
   have h1:=hP.item x (by omega)
   have:=hP.inj (p:=x) (q:=0) (by omega) (by omega) (by rw[hi];omega)
   omega
  rw[cm _ _ _ _ (by omega),if_neg hne]
 have hloose:iF (rk (K.set i 0) ((cO O 0 n).take n)) n 0:=oQ hH hrk
 refine bc Tryd.func67 I Tryd.ntmps67 I<|ag (.a 5 I<|.v (bw I (hc:=(show(((n+1:Nat):Int)) - 1=(n:Int) by omega))) I<|.a 1 I<|.k [0,1,4] I)<|ag (.a 5 I<|.v (aY (0) I) I<|.v (aV I ((aN O 0 (by omega)).trans (by rw[hi]))) I<|.a 1 I<|.k [0,1,4,5] I)<|a7<|ax 3 I<|bh I I (aG.mono (kb false d K P O hP hO hN 0 n (by omega) (by omega)) (fun _ σ' h=>?_))
 subst h
 refine aO [0,1,4,5] I ?_
 refine a7<|ax 6 I<|bD (mn I (bB.el.get I) I I I I (by omega)) I<|ax 3 I ?_
 refine eb [0,1,2,3,4,5] (.c 0<|.c 1<|.c 4<|.c 5<|.nil) (.same hd rfl<|.kept rfl (.cells (ab.c<|ab.c<|ab.c<|ab.nil))<|.kept rfl (.row ab.pure)<|.kept rfl (.row ab.pure)<|.gone<|.kept rfl (.dX rfl (show(aI (cO O 0 n)).take (n*1)=aI ((cO O 0 n).take n) by rw[Nat.mul_one];unfold aI;rw[List.map_take]))<|.nil) I I (af ?_)
 refine o2 11 20 mixed (
  .val [0] I (bb I) I I<|
  .val [32] I (bb I) I I<|
  .val [33] I (bb I) I I<|
  .val [34] I (bb I) I I<|
  .val [5] I (bb I) I I<|
  .val [0] I (bb I) I I<|
  .val [37] I (bb I) I I<|
  .val [38] I (bb I) I I<|
  .val [39] I (bb I) I I<|
  .late [5] I (qW rfl rfl) inferInstance rfl rfl<|
  .val [35,36] I (aY (i) I) I I<|
  .nil) (by kernel_rfl) I I (aQ (ks:=[0,1,4,40,41,42]) I) ?_
 refine bq ((by first|exact bu I (bB.tk.get I) I I I (by first|omega|(simp;omega))|exact bm I (bB.tk.get I) I I I (by first|omega|(simp;omega)))) I I<|aM (aY (i) I) I<|bq ((by first|exact bu I (bB.tk.get I) I I I (by first|omega|(simp;omega))|exact bm I (bB.tk.get I) I I I (by first|omega|(simp;omega)))) I I<|aO [0,1,4] I ?_
 refine ag (.a 3 I<|.k [0,1,46] I)<|ak I (fun hc=>?_) (fun hc=>?_)
 ·have hn0:0<n:=by have:=of_decide_eq_true hc;omega
  refine aR<|ax 2 I<|bh I I (aG.mono (gy true d (K.set i 0) ((dM P O 0 n).set i 0) ((cO O 0 n).take n) hPp hOt (by simpa using hK) hN 0 hn0 hloose) (fun _ σ' h=>?_))
  obtain⟨P',O',rfl,h1,h2,h3,h4⟩:=h
  refine aO [] I ?_
  first
   |exact⟨_,aK.of rfl,P',O',rfl,⟨h1,h2,by simpa using hK,h3⟩,fun j=>(h4 j).trans (hheld j)⟩
   |exact⟨_,aK.of rfl,(dM P O 0 n).set i 0,(cO O 0 n).take n,rfl,⟨hPp,hOt,by simpa using hK,fun q h0 hq=>by omega⟩,hheld⟩
 ·have hn0:n=0:=by have:=of_decide_eq_false hc;omega
  refine an ?_
  first
   |exact⟨_,aK.of rfl,P',O',rfl,⟨h1,h2,by simpa using hK,h3⟩,fun j=>(h4 j).trans (hheld j)⟩
   |exact⟨_,aK.of rfl,(dM P O 0 n).set i 0,(cO O 0 n).take n,rfl,⟨hPp,hOt,by simpa using hK,fun q h0 hq=>by omega⟩,hheld⟩
theorem l6{N:Nat}(K P O:List Int)(hP:P.length=N)(hK:K.length=N)(hN:N≤65536)(i:Nat)(hi:i<N):
  Can Tryd.prog 60 [kx K P O,num i] (· = .tuple [num (if P.getD i 0=0 then 0 else K.getD i 0),flag (!decide (P.getD i 0=0))]):=by
 refine bE Tryd.func60 I Tryd.ntmps60 I<|ag (.a 2 I<|.k [0,1] I)<|al ?_
 obtain⟨q1,hq1⟩:∃q,decide ((i:Int)<0)=q:=⟨_,rfl⟩
 obtain⟨q2,hq2⟩:∃q,decide ((K.length:Int)≤(i:Int))=q:=⟨_,rfl⟩
 obtain⟨q3,hq3⟩:∃q,decide (P.getD i 0=0)=q:=⟨_,rfl⟩
 refine bF 30 (.raw (.bool (q1||q2||q3))) [0,1] I ?_ ?_
 ·refine .a 4 I<|.v (cJ I (hq1)) I<|.a 2 I<|?_
  cases q1
  ·refine .a 6 I<|.v (cJ I (hq2)) I<|.a 2 I<|?_
   cases q2
   ·exact .a 5 I<|.v (aY (i) I) I<|.v (aV I (aN P i (by omega))) I<|.v (cJ I (hq3)) I<|.a 1 I<|.k [30,0,1] I
   ·exact .a 9 I<|.k [30,0,1] I
  ·exact .a 18 I<|.k [30,0,1] I
 refine ak I (fun hc=>?_) (fun hc=>?_)
 ·have h1:q1=false:=by rw[←hq1];simp
  have h2:q2=false:=by rw[←hq2];simp;omega
  rw[h1,h2]at hc
  simp only[Bool.false_or]at hc
  rw[hc]at hq3
  refine ag (.a 2 I<|.k [4,5] I)<|aF<|⟨_,_,aK.of I,aZ.pure,?_⟩
  rw[hq3]
  first
   |(rw[if_pos (of_decide_eq_true hq3)];rfl)
   |(rw[if_neg (of_decide_eq_false hq3)];rfl)
 ·have hc3:q3=false:=by revert hc;cases q3<;>simp
  rw[hc3]at hq3
  refine an<|ag (.a 5 I<|.v (aY (i) I) I<|.v (aV I (aN K i (by omega))) I<|.a 2 I<|.k [4,5] I)<|aF<|⟨_,_,aK.of I,aZ.pure,?_⟩
  rw[hq3]
  first
   |(rw[if_pos (of_decide_eq_true hq3)];rfl)
   |(rw[if_neg (of_decide_eq_false hq3)];rfl)
theorem sV{N n:Nat}(d:Option cy)(hd:gk d)(K P O:List Int)(h:iH N n K P O)(hN:N≤65536):
  aG Tryd.prog 58 [.ptr 1 0] (cL false d N n K P O) (fun r σ'=>(n=0∧r= .tuple [num 0,num 0,flag false]∧σ'=cL false d N n K P O)∨
   ∃(n' i:Nat) (P' O':List Int),n=n'+1∧i<N∧O.getD 0 0=(i:Int)∧r= .tuple [num i,num (K.getD i 0),flag true]∧σ'=cL true d N n' (K.set i 0) P' O'∧iH N n' (K.set i 0) P' O'∧∀j,bf O' j↔bf O j∧j≠(i:Int)):=by
 have h':=h
 obtain⟨hP,hO,hK,hH⟩:=h'
 refine bc Tryd.func58 I Tryd.ntmps58 I<|ag (.a 3 I<|.k [0] I)<|al ?_
 obtain⟨q1,hq1⟩:∃q,decide ((n:Int)=0)=q:=⟨_,rfl⟩
 refine bF 14 (.raw (.bool (q1))) [0] I ?_ ?_
 ·exact .a 8 I<|.v (cJ I (hq1)) I<|.a 1 I<|.k [14,0] I
 refine ak I (fun hc=>?_) (fun hc=>?_)
 ·have hn0:n=0:=by rw[hc]at hq1;have:=of_decide_eq_true hq1;omega
  refine ag (.a 3 I<|.k [2,3,4] I)<|aF ?_
  first
   |exact⟨_,aK.of rfl,.inl ⟨hn0,rfl,rfl⟩⟩
   |exact⟨_,aK.of rfl,.inr ⟨n',i,P',O',rfl,hiN,hi,rfl,rfl,h1,h2⟩⟩
 ·have hn0:n≠0:=by rw[hc]at hq1;have:=of_decide_eq_false hq1;omega
  obtain⟨n',rfl⟩:∃n',n=n'+1:=⟨n - 1,by omega⟩
  obtain⟨i,hi,hiN⟩:=e6 hP (p:=0) (by omega)
  refine an<|ag (.a 4 I<|.v (aY (0) I) I<|.v (aV I ((aN O 0 (by omega)).trans (by rw[hi]))) I<|.a 1 I<|.k [0,2] I)<|ag (.a 5 I<|.v (aY (i) I) I<|.v (aV I (aN K i (by omega))) I<|.a 1 I<|.k [0,2,3] I)<|a7<|ax 1 I<|bh I I (aG.mono (ry d hd K P O h hN i hi) (fun _ σ' h=>?_))
  obtain⟨P',O',rfl,h1,h2⟩:=h
  refine aO [2,3] I ?_
  refine ag (.a 5 I<|.k [2,3,4] I)<|aF ?_
  first
   |exact⟨_,aK.of rfl,.inl ⟨hn0,rfl,rfl⟩⟩
   |exact⟨_,aK.of rfl,.inr ⟨n',i,P',O',rfl,hiN,hi,rfl,rfl,h1,h2⟩⟩
theorem rJ{N:Nat}{P O:List Int}(hP:bU N P O){i:Nat}(hi:i<N)(h:P.getD i 0≠0):∃p,p<O.length∧O.getD p 0=(i:Int)∧P.getD i 0=(p:Int)+1:=by
 rcases hP.place i hi with h0|⟨p,hp,he⟩
 ·exact absurd h0 h
 ·have:=(hP.item p hp).2.2
  rw[he,Int.toNat_natCast]at this
  exact⟨p,hp,he,this⟩
theorem rp{N:Nat}{K P O:List Int}(hP:bU N P O)(hK:K.length=N){i:Nat}(hi:i<N)(c:Int){x:Nat}(hx:x<O.length)(hne:O.getD x 0≠(i:Int)):rk (K.set i c) O x=rk K O x:=by
 unfold rk mb
 have h1:=hP.item x hx
 rw[cm _ _ _ _ (by omega),if_neg (by omega)]
theorem iw{N n:Nat}(d:Option cy)(hd:gk d)(K P O:List Int)(h:iH N n K P O)(hN:N≤65536)(i:Nat)(hi:i<N)(key:Int):
  aG Tryd.prog 57 [.ptr 1 0,num i,num key] (cL false d N n K P O) (fun r σ'=>∃(b:Bool) (n':Nat) (P' O':List Int),σ'=cL b d N n' (K.set i key) P' O'∧iH N n' (K.set i key) P' O'∧∀j,bf O' j↔bf O j∨j=(i:Int)):=by
 obtain⟨hP,hO,hK,hH⟩:=h
 have hlen:=eC hP
 have hPl:=hP.len
 refine bc Tryd.func57 I Tryd.ntmps57 I<|ag (.a 1 I<|.k [0,1,2] I)<|al<|ag (.a 2 I<|.k [0,1,2,8] I)<|ak I (fun hc=>?_) (fun hc=>?_)
 ·cases hc
 ·refine an<|al ?_
  obtain⟨q1,hq1⟩:∃q,decide ((i:Int)<0)=q:=⟨_,rfl⟩
  obtain⟨q2,hq2⟩:∃q,decide ((N:Int)≤(i:Int))=q:=⟨_,rfl⟩
  refine bF 19 (.raw (.bool (q1||q2))) [0,1,2] I ?_ ?_
  ·refine .a 1 I<|.v (cJ I (hq1)) I<|.a 1 I<|?_
   cases q1
   ·exact .a 6 I<|.v (cJ I (hq2)) I<|.a 1 I<|.k [19,0,1,2] I
   ·exact .a 8 I<|.k [19,0,1,2] I
  refine ak I (fun hc=>?_) (fun hc=>?_)
  ·have h1:q1=false:=by rw[←hq1];simp
   have h2:q2=false:=by rw[←hq2];simp;omega
   rw[h1,h2]at hc
   cases hc
  ·refine an<|a7<|ax 6 I<|aM (aY (i) I) I<|bq ((by first|exact bu I (bB.tk.get I) I I I (by first|omega|(simp;omega))|exact bm I (bB.tk.get I) I I I (by first|omega|(simp;omega)))) I I<|aO [0,1] I ?_
   refine al<|ag (.a 5 I<|.v (aY (i) I) I<|.v (aV I (aN P i (by omega))) I<|.a 1 I<|.k [0,1,34] I)<|ak I (fun hc=>?_) (fun hc=>?_)
   ·have hp0:P.getD i 0=0:=of_decide_eq_true hc
    have hnh:=(hP.zero hi).1 hp0
    have hPp:=hP.push hi hnh
    have hOl:(O++[(i:Int)]).length=n+1:=by simp[hO]
    rw[hO]at hPp
    have hPi2:(P.set i ((n:Int)+1)).getD i 0=(n:Int)+1:=by rw[cm _ _ _ _ (by omega),if_pos rfl]
    have hlt2:i<(P.set i ((n:Int)+1)).length:=by simp;omega
    have hsb:((n:Int)+1) - 1=(n:Int):=by omega
    have hnb:n<N:=by have:=eC hPp;simp at this;omega
    have hset:=gy true d (K.set i key) (P.set i ((n:Int)+1)) (O++[(i:Int)]) hPp hOl (by simpa using hK) hN n (by omega) (n9 hH fun q hq=>by
     have e:(O++[(i:Int)]).getD q 0=O.getD q 0:=by simp[List.getD_eq_getElem?_getD,List.getElem?_append_left (show q<O.length by omega)]
     have:=rp hP hK hi key (x:=q) (by omega) (fun e=>hnh ⟨q,by omega,e⟩)
     unfold rk at this ⊢
     rw[e];exact this)
    have hfin:∀j,bf (O++[(i:Int)]) j↔bf O j∨j=(i:Int):=fun j=>(pS O i j).trans Or.comm
    refine a7<|ax 7 I<|bD (aU I (bB.rk.get I) I I I I (by unfold maxLen;omega)) I<|ax 3 I ?_
    refine eb [0,1,2,3,4,5] (.c 0<|.c 1<|.nil) (.same hd rfl<|.kept rfl (.cells (ab.c<|ab.c<|ab.c<|ab.nil))<|.kept rfl (.row ab.pure)<|.kept rfl (.row ab.pure)<|.gone<|.kept rfl (.dX rfl (dL _ _))<|.nil) I I (af ?_)
    refine gb 11 20 mixed (
     .val [0] I (bb I) I I<|
     .val [45] I (bb I) I I<|
     .val [46] I (bb I) I I<|
     .val [47] I (bb I) I I<|
     .val [1] I (bb I) I I<|
     .val [0] I (bb I) I I<|
     .val [50] I (bb I) I I<|
     .val [51] I (bb I) I I<|
     .val [52] I (bb I) I I<|
     .val [53] I (bb I) I I<|
     .val [48,49] I (aY (i) I) I I<|
     .nil) (by kernel_rfl) I I (aQ (ks:=[0,1,54,55]) I) ?_
    refine bq ((by first|exact bu I (bB.tk.get I) I I I (by first|omega|(simp;omega))|exact bm I (bB.tk.get I) I I I (by first|omega|(simp;omega)))) I I<|aO [0,1] I ?_
    refine a7<|ax 6 I<|aM (aY (i) I) I<|aM (aV I ((aN _ i hlt2).trans (congrArg (fun z=>some (PV.raw (.int .i64 z))) hPi2))) I<|aM (bw I (hc:=hsb)) I<|bh I I (aG.mono hset (fun _ σ' h=>?_))
    obtain⟨P',O',rfl,h1,h2,h3,h4⟩:=h
    refine aO [] I ?_
    refine ag (.a 1 I<|.k [6] I)<|aF ?_
    first
     |exact⟨_,aK.of rfl,true,_,P',O',rfl,⟨h1,h2,by simpa using hK,h3⟩,fun j=>(h4 j).trans (hfin j)⟩
     |exact⟨_,aK.of rfl,false,_,P',O',rfl,⟨h1,h2,by simpa using hK,h3⟩,fun j=>(h4 j).trans (hfin j)⟩
   ·have hp0:P.getD i 0≠0:=of_decide_eq_false hc
    obtain⟨p,hp,hpi,hPi2⟩:=rJ hP hi hp0
    have hlt2:i<P.length:=by omega
    have hsb:((p:Int)+1) - 1=(p:Int):=by omega
    have hset:=gy false d (K.set i key) P O hP hO (by simpa using hK) hN p (by omega) (mT hH (fun q hq hqp=>rp hP hK hi key (x:=q) (by omega) (fun e=>hqp (hP.inj (by omega) hp (by rw[e,hpi])))) (by omega))
    have hfin:∀j,bf O j↔bf O j∨j=(i:Int):=fun j=>⟨.inl,fun h=>h.elim id fun e=>⟨p,hp,by rw[hpi,e]⟩⟩
    refine an<|a7<|ax 6 I<|aM (aY (i) I) I<|aM (aV I ((aN _ i hlt2).trans (congrArg (fun z=>some (PV.raw (.int .i64 z))) hPi2))) I<|aM (bw I (hc:=hsb)) I<|bh I I (aG.mono hset (fun _ σ' h=>?_))
    obtain⟨P',O',rfl,h1,h2,h3,h4⟩:=h
    refine aO [] I ?_
    refine ag (.a 1 I<|.k [6] I)<|aF ?_
    first
     |exact⟨_,aK.of rfl,true,_,P',O',rfl,⟨h1,h2,by simpa using hK,h3⟩,fun j=>(h4 j).trans (hfin j)⟩
     |exact⟨_,aK.of rfl,false,_,P',O',rfl,⟨h1,h2,by simpa using hK,h3⟩,fun j=>(h4 j).trans (hfin j)⟩
theorem ml(N:Nat)(d:Option cy)(hd:gk d)(hN:N≤65536):
  aG Tryd.prog 56 [num N] [d] (fun r σ'=>r= .tuple [.ptr 1 0,num 0]∧σ'=cL false d N 0 (List.replicate N 0) (List.replicate N 0) []):=by
 refine bc Tryd.func56 I Tryd.ntmps56 I<|ag (.a 2 I<|.k [0] I) ?_
 obtain⟨q1,hq1⟩:∃q,decide ((N:Int)<0)=q:=⟨_,rfl⟩
 obtain⟨q2,hq2⟩:∃q,decide ((65536:Int)<(N:Int))=q:=⟨_,rfl⟩
 refine al<|bF 9 (.raw (.bool (q1||q2))) [0] I ?_ ?_
 ·refine .a 1 I<|.v (cJ I (hq1)) I<|.a 1 I<|?_
  cases q1
  ·exact .a 1 I<|.v (cJ I (hq2)) I<|.a 1 I<|.k [9,0] I
  ·exact .a 3 I<|.k [9,0] I
 have h1:q1=false:=by rw[←hq1];simp
 have h2:q2=false:=by rw[←hq2];simp;omega
 refine ak (b:=q1||q2) I (fun hc=>?_) (fun hc=>?_)
 ·rw[h1,h2]at hc
  cases hc
 ·clear hc hq1 hq2 h1 h2
  refine an<|lA mixed ?_
  have hfin:W Tryd.prog 16 1 .ret ⟨[(2,.ptr 1 0),(3,num 0)],cL false d N 0 (List.replicate N 0) (List.replicate N 0) []⟩ (vh Tryd.prog Tryd.f56 (fun r σ'=>r= .tuple [.ptr 1 0,num 0]∧σ'=cL false d N 0 (List.replicate N 0) (List.replicate N 0) [])):=
   aF ⟨_,.cons (.tmp rfl) (.cons (.tmp rfl) .nil),rfl,rfl⟩
  refine ah 0 [2] (by kernel_rfl) ?_
  refine ad I I (aC (cA I I) I I I (af ?_)) ?_
  ·refine ah 1 [2] (by kernel_rfl) ?_
   refine ad I I (bR (b9 I (bB.rk.get I) I I I I ⟨by unfold maxLen;omega,by omega⟩) I I I (af ?_)) ?_
   ·refine ah 2 [] (by kernel_rfl) ?_
    refine ad I I (aC (cA I I) I I I (af ?_)) ai
    refine ah 3 [] (by kernel_rfl) ?_
    refine ad I I (bR (b9 I (bB.rk.get I) I I I I ⟨by unfold maxLen;omega,by omega⟩) I I I (af ?_)) ai
    refine ah 4 [] (by kernel_rfl) ?_
    refine ad I I (aC (eK (xs:=[_,_,_]) I (bB.st.get I) I I) I I I (af ?_)) ai
    refine ah 5 [] (by kernel_rfl) ?_
    refine ad I I (bR (fQ I I I) I I I (af ?_)) ai
    refine ah 6 [] (by kernel_rfl) ?_
    refine ad I I (aC (cp I I) I I I (af ?_)) ai
    refine ah 7 [] (by kernel_rfl) ?_
    refine ad I I (aC (cp I I) I I I (af ?_)) ai
    refine b7 (by kernel_rfl) ?_
    refine cf 3 2 3 1 I I ?_
    exact bO [0,3,1,2,4] (.cons 2 I (Ren.ptr (i:=1) I)<|.cons 3 I Ren.pure<|.nil) (.same hd rfl<|.kept rfl (.cells (ab.cons (Ren.own (i:=2) I)<|ab.cons (Ren.own (i:=3) I)<|ab.cons (Ren.own (i:=4) I) ab.nil))<|.kept rfl (.dX rfl (bN N))<|.kept rfl (.dX rfl (bN N))<|.kept rfl (.row ab.pure)<|.nil) I I hfin
   refine ad I I (aC (cA I I) I I I (af ?_)) ai
   refine ah 1 [3] (by kernel_rfl) ?_
   refine ad I I (bR (b9 I (bB.rk.get I) I I I I ⟨by unfold maxLen;omega,by omega⟩) I I I (af ?_)) ?_
   ·refine ah 3 [] (by kernel_rfl) ?_
    refine ad I I (bR (b9 I (bB.rk.get I) I I I I ⟨by unfold maxLen;omega,by omega⟩) I I I (af ?_)) ai
    refine ah 4 [] (by kernel_rfl) ?_
    refine ad I I (aC (eK (xs:=[_,_,_]) I (bB.st.get I) I I) I I I (af ?_)) ai
    refine ah 5 [] (by kernel_rfl) ?_
    refine ad I I (bR (fQ I I I) I I I (af ?_)) ai
    refine ah 6 [] (by kernel_rfl) ?_
    refine ad I I (aC (cp I I) I I I (af ?_)) ai
    refine ah 7 [] (by kernel_rfl) ?_
    refine ad I I (aC (cp I I) I I I (af ?_)) ai
    refine b7 (by kernel_rfl) ?_
    refine cf 3 2 3 1 I I ?_
    exact bO [0,3,1,2,4] (.cons 2 I (Ren.ptr (i:=1) I)<|.cons 3 I Ren.pure<|.nil) (.same hd rfl<|.kept rfl (.cells (ab.cons (Ren.own (i:=2) I)<|ab.cons (Ren.own (i:=3) I)<|ab.cons (Ren.own (i:=4) I) ab.nil))<|.kept rfl (.dX rfl (bN N))<|.kept rfl (.dX rfl (bN N))<|.kept rfl (.row ab.pure)<|.nil) I I hfin
   refine ad I I (bR (b9 I (bB.rk.get I) I I I I ⟨by unfold maxLen;omega,by omega⟩) I I I (af ?_)) ai
   refine ah 1 [] (by kernel_rfl) ?_
   refine ad I I (bR (b9 I (bB.rk.get I) I I I I ⟨by unfold maxLen;omega,by omega⟩) I I I (af ?_)) ai
   refine ah 4 [] (by kernel_rfl) ?_
   refine ad I I (aC (eK (xs:=[_,_,_]) I (bB.st.get I) I I) I I I (af ?_)) ai
   refine ah 5 [] (by kernel_rfl) ?_
   refine ad I I (bR (fQ I I I) I I I (af ?_)) ai
   refine ah 6 [] (by kernel_rfl) ?_
   refine ad I I (aC (cp I I) I I I (af ?_)) ai
   refine ah 7 [] (by kernel_rfl) ?_
   refine ad I I (aC (cp I I) I I I (af ?_)) ai
   refine b7 (by kernel_rfl) ?_
   refine cf 3 2 3 1 I I ?_
   exact bO [0,3,2,1,4] (.cons 2 I (Ren.ptr (i:=1) I)<|.cons 3 I Ren.pure<|.nil) (.same hd rfl<|.kept rfl (.cells (ab.cons (Ren.own (i:=2) I)<|ab.cons (Ren.own (i:=3) I)<|ab.cons (Ren.own (i:=4) I) ab.nil))<|.kept rfl (.dX rfl (bN N))<|.kept rfl (.dX rfl (bN N))<|.kept rfl (.row ab.pure)<|.nil) I I hfin
  refine ad I I (aC (cA I I) I I I (af ?_)) ai
  refine ah 0 [3] (by kernel_rfl) ?_
  refine ad I I (aC (cA I I) I I I (af ?_)) ?_
  ·refine ah 1 [3] (by kernel_rfl) ?_
   refine ad I I (bR (b9 I (bB.rk.get I) I I I I ⟨by unfold maxLen;omega,by omega⟩) I I I (af ?_)) ?_
   ·refine ah 3 [] (by kernel_rfl) ?_
    refine ad I I (bR (b9 I (bB.rk.get I) I I I I ⟨by unfold maxLen;omega,by omega⟩) I I I (af ?_)) ai
    refine ah 4 [] (by kernel_rfl) ?_
    refine ad I I (aC (eK (xs:=[_,_,_]) I (bB.st.get I) I I) I I I (af ?_)) ai
    refine ah 5 [] (by kernel_rfl) ?_
    refine ad I I (bR (fQ I I I) I I I (af ?_)) ai
    refine ah 6 [] (by kernel_rfl) ?_
    refine ad I I (aC (cp I I) I I I (af ?_)) ai
    refine ah 7 [] (by kernel_rfl) ?_
    refine ad I I (aC (cp I I) I I I (af ?_)) ai
    refine b7 (by kernel_rfl) ?_
    refine cf 3 2 3 1 I I ?_
    exact bO [0,3,1,2,4] (.cons 2 I (Ren.ptr (i:=1) I)<|.cons 3 I Ren.pure<|.nil) (.same hd rfl<|.kept rfl (.cells (ab.cons (Ren.own (i:=2) I)<|ab.cons (Ren.own (i:=3) I)<|ab.cons (Ren.own (i:=4) I) ab.nil))<|.kept rfl (.dX rfl (bN N))<|.kept rfl (.dX rfl (bN N))<|.kept rfl (.row ab.pure)<|.nil) I I hfin
   refine ad I I (bR (b9 I (bB.rk.get I) I I I I ⟨by unfold maxLen;omega,by omega⟩) I I I (af ?_)) ai
   refine ah 1 [] (by kernel_rfl) ?_
   refine ad I I (bR (b9 I (bB.rk.get I) I I I I ⟨by unfold maxLen;omega,by omega⟩) I I I (af ?_)) ai
   refine ah 4 [] (by kernel_rfl) ?_
   refine ad I I (aC (eK (xs:=[_,_,_]) I (bB.st.get I) I I) I I I (af ?_)) ai
   refine ah 5 [] (by kernel_rfl) ?_
   refine ad I I (bR (fQ I I I) I I I (af ?_)) ai
   refine ah 6 [] (by kernel_rfl) ?_
   refine ad I I (aC (cp I I) I I I (af ?_)) ai
   refine ah 7 [] (by kernel_rfl) ?_
   refine ad I I (aC (cp I I) I I I (af ?_)) ai
   refine b7 (by kernel_rfl) ?_
   refine cf 3 2 3 1 I I ?_
   exact bO [0,3,2,1,4] (.cons 2 I (Ren.ptr (i:=1) I)<|.cons 3 I Ren.pure<|.nil) (.same hd rfl<|.kept rfl (.cells (ab.cons (Ren.own (i:=2) I)<|ab.cons (Ren.own (i:=3) I)<|ab.cons (Ren.own (i:=4) I) ab.nil))<|.kept rfl (.dX rfl (bN N))<|.kept rfl (.dX rfl (bN N))<|.kept rfl (.row ab.pure)<|.nil) I I hfin
  refine ad I I (bR (b9 I (bB.rk.get I) I I I I ⟨by unfold maxLen;omega,by omega⟩) I I I (af ?_)) ai
  refine ah 0 [] (by kernel_rfl) ?_
  refine ad I I (aC (cA I I) I I I (af ?_)) ai
  refine ah 1 [] (by kernel_rfl) ?_
  refine ad I I (bR (b9 I (bB.rk.get I) I I I I ⟨by unfold maxLen;omega,by omega⟩) I I I (af ?_)) ai
  refine ah 4 [] (by kernel_rfl) ?_
  refine ad I I (aC (eK (xs:=[_,_,_]) I (bB.st.get I) I I) I I I (af ?_)) ai
  refine ah 5 [] (by kernel_rfl) ?_
  refine ad I I (bR (fQ I I I) I I I (af ?_)) ai
  refine ah 6 [] (by kernel_rfl) ?_
  refine ad I I (aC (cp I I) I I I (af ?_)) ai
  refine ah 7 [] (by kernel_rfl) ?_
  refine ad I I (aC (cp I I) I I I (af ?_)) ai
  refine b7 (by kernel_rfl) ?_
  refine cf 3 2 3 1 I I ?_
  exact bO [0,3,2,1,4] (.cons 2 I (Ren.ptr (i:=1) I)<|.cons 3 I Ren.pure<|.nil) (.same hd rfl<|.kept rfl (.cells (ab.cons (Ren.own (i:=2) I)<|ab.cons (Ren.own (i:=3) I)<|ab.cons (Ren.own (i:=4) I) ab.nil))<|.kept rfl (.dX rfl (bN N))<|.kept rfl (.dX rfl (bN N))<|.kept rfl (.row ab.pure)<|.nil) I I hfin
end
section
open Go.RowKit cX Mem
section
variable {P:Program} {N L:Nat}
theorem qC(p:PV)(n:Nat):cz [p] n=List.replicate n p:=by
 induction n with
 |zero=>rfl
 |succ n ih=>simp only[cz,ih,List.replicate_succ];rfl
theorem eR.of{fs:List Nat}{σ:ba}:∀(σ':ba) (js:List Nat),σ'.length=js.length→(∀(i:Nat) b' j,σ'[i]? =some (some b')→js[i]? =some j→∃b,σ[j]? =some (some b)∧oz fs b' b)→eR fs σ σ' js
 | [],[],_,_=>.nil
 |none::σ',j::js,hl,h=>.gone (eR.of σ' js (by simpa using hl) (fun i b' k h1 h2=>h (i+1) b' k (by simpa using h1) (by simpa using h2)))
 |some b'::σ',j::js,hl,h=>by
  obtain⟨b,h1,h2⟩:=h 0 b' j rfl rfl
  exact .kept h1 h2 (eR.of σ' js (by simpa using hl) (fun i b' k h1 h2=>h (i+1) b' k (by simpa using h1) (by simpa using h2)))
 | [],_::_,hl,_=>by simp at hl
 |_::_,[],hl,_=>by simp at hl
theorem lE:∀(l:List Nat),l.Nodup→dh l=true
 | [],_=>rfl
 |x::l,h=>by
  rw[List.nodup_cons]at h
  simp[dh,h.1,lE l h.2]
theorem oe{c:Code}{t:bo}{σ:ba}{Q:Exit→St→Prop}(i k e s:Nat){e1 s1 n:Nat}{xs:List PV}(hi:σ[i]? =some (some (.row e1 s1 n xs)))(hk:xs[k]? =some (.raw (.slice none 0 0)))
  (h:W P N L c ⟨t,(σ++[some (cy.row e s 0 [])]).set i (some (.row e1 s1 n (xs.set k (.own σ.length))))⟩ Q):W P N L c ⟨t,σ⟩ Q:=fun F base E₀ w₀ E a w hc hs=>by
 obtain⟨a1,a2,a3⟩:=sa hs.sat e s
 have hil:=(List.getElem?_eq_some_iff.1 hi).1
 have hi':(σ++[some (cy.row e s 0 [])])[i]? =some (some (.row e1 s1 n xs)):=by rw[List.getElem?_append_left hil];exact hi
 obtain⟨cs,h2,h3⟩:=a1.blk i _ hi'
 obtain⟨cv,hcv,hrep⟩:=h3.get hk
 cases hrep
 have hb:∃b,az ((E.push (.slice none 0 0)).at_ i)=some b:=by
  rcases h2.2 with hz|⟨g,cap,cur,hv,_⟩
  ·have h4:=h2.1
   rw[hz.2,Nat.zero_mul]at h4
   rw[List.eq_nil_of_length_eq_zero h4]at hcv
   simp at hcv
  ·exact⟨g,by rw[hv];rfl⟩
 obtain⟨b,hb⟩:=hb
 obtain⟨b1,b2⟩:=a1.qh hi' (b:=b) hb (Nat.le_refl _) (fun _ _ _=>rfl) (bi':=.row e1 s1 n (xs.set k (.own σ.length))) ⟨cs,h2,by
  have:=h3.set k a3
  rw[lF hcv]at this
  exact this⟩
 exact h F base E₀ w₀ _ a w (hc.on (a2.trans b2) (Below.refl _ _)) ⟨b1,(hs.tmp.goes a2).goes b2,hs.gI,hs.size⟩
def cN(n:Nat):List PV:=(List.range n).map fun i=>.own (i+1)
def eV(e1 e:TypeId)(rs:List (List Int)):ba:=some (.row e1 1 rs.length (cN rs.length))::rs.map fun r=>some (.row e 1 r.length (aI r))
def gV(e1 e n k:Nat):ba:=some (.row e1 1 n (cN k++List.replicate (n - k) (PV.raw (.slice none 0 0))))::List.replicate k (some (.row e 1 0 []))
theorem o9{c:Code}{t:bo}{Q:Exit→St→Prop}(e1 e n:Nat)(h:W P N L c ⟨t,gV e1 e n n⟩ Q):∀m k,k+m=n→W P N L c ⟨t,gV e1 e n k⟩ Q
  | 0, k, hk => by obtain rfl : k = n := by omega
                   exact h
  |m+1,k,hk=>by
    have ih:=o9 e1 e n h m (k+1) (by omega)
    have hol:(cN k).length=k:=by simp[cN]
    refine oe 0 k e 1 (e1:=e1) (s1:=1) (n:=n) (xs:=cN k++List.replicate (n - k) (PV.raw (.slice none 0 0))) I ?_ ?_
    · rw[List.getElem?_append_right (by omega),hol,List.getElem?_replicate,if_pos (by omega)]
    · have e2:(gV e1 e n k++[some (cy.row e 1 0 [])]).set 0 (some (.row e1 1 n ((cN k++List.replicate (n - k) (PV.raw (.slice none 0 0))).set k (.own (gV e1 e n k).length))))=gV e1 e n (k+1):=by
        unfold gV
        simp only[List.cons_append,List.set_cons_zero,List.length_cons,List.length_replicate]
        congr 3
        · rw[List.set_append_right _ _ (by omega),hol,Nat.sub_self,show n - k=(n - (k+1))+1 by omega,List.replicate_succ,List.set_cons_zero]
          unfold cN
          rw[List.range_succ,List.map_append]
          simp
        · rw[List.replicate_succ']
      rw[e2];exact ih
theorem fR{c:Code}{t:bo}{Q:Exit→St→Prop}(e1 e n:Nat)(h:W P N L c ⟨t,eV e1 e (List.replicate n [])⟩ Q):W P N L c ⟨t,[some (.row e1 1 n (cz [.raw (.slice none 0 0)] n))]⟩ Q:=by
 have:=o9 (P:=P) (N:=N) (L:=L) (c:=c) (t:=t) (Q:=Q) e1 e n (by
  have e2:gV e1 e n n=eV e1 e (List.replicate n []):=by
   unfold gV eV
   simp[aI]
  rw[e2];exact h) n 0 (by omega)
 rw[qC]
 simpa[gV,cN]using this
def qN(n k:Nat):List Nat:=0::(List.range n).map fun i=>if i=k then n+1 else i+1
theorem iT(n k:Nat):dh (qN n k)=true:=by
 apply lE
 unfold qN
 rw[List.nodup_cons]
 constructor
 ·simp only[List.mem_map,not_exists,not_and]
  intro i _ h
  split at h<;>omega
 ·rw[List.nodup_iff_pairwise_ne,List.pairwise_map]
  refine List.Pairwise.imp_of_mem ?_ (List.nodup_iff_pairwise_ne.1 List.nodup_range)
  intro i j hi hj hij h
  have:=List.mem_range.1 hi
  have:=List.mem_range.1 hj
  split at h<;>split at h<;>omega
theorem ma(n k i:Nat)(hi:i<n):(qN n k)[i+1]? =some (if i=k then n+1 else i+1):=by
 unfold qN
 simp[hi]
theorem ep(n i:Nat)(hi:i<n):(cN n)[i]? =some (.own (i+1)):=by simp[cN,hi]
theorem ey(e1 e:TypeId)(rs:List (List Int))(k:Nat)(hk:k<rs.length):(eV e1 e rs)[k+1]? =some (some (.row e 1 (rs.getD k []).length (aI (rs.getD k [])))):=by
 unfold eV
 simp[hk]
theorem jT(e1 e:TypeId)(rs:List (List Int))(k:Nat)(hk:k<rs.length)(x:Int):
  eR (qN rs.length k) (((eV e1 e rs).set (k+1) none++[some (cy.row e 1 ((rs.getD k []).length+1) (aI (rs.getD k [])++[.raw (.int .i64 x)]))]).set 0 (some (.row e1 1 rs.length (over (cN rs.length) k [.own (eV e1 e rs).length])))) (eV e1 e (rs.set k (rs.getD k []++[x]))) (qN rs.length k):=by
 have hol:(cN rs.length).length=rs.length:=by simp[cN]
 have hlen:(eV e1 e rs).length=rs.length+1:=by simp[eV]
 have hov:over (cN rs.length) k [.own (eV e1 e rs).length]=(cN rs.length).set k (.own (rs.length+1)):=by
  unfold over
  rw[hlen,List.set_eq_take_append_cons_drop,if_pos (by omega)]
  simp
 rw[hov]
 apply eR.of
 ·simp[eV,qN]
 ·intro i b' j h1 h2
  cases i with
  |zero=>
   simp only[eV,List.getElem?_cons_zero,Option.some.injEq,List.length_set]at h1
   simp only[qN,List.getElem?_cons_zero,Option.some.injEq]at h2
   subst h1;subst h2
   refine⟨.row e1 1 rs.length ((cN rs.length).set k (.own (rs.length+1))),by simp[eV],.row ⟨by simp,fun i a b k1 k2=>?_⟩⟩
   have hi:i<rs.length:=by have:=(List.getElem?_eq_some_iff.1 k1).1;omega
   rw[ep _ _ hi]at k1
   cases k1
   rw[List.getElem?_set]at k2
   split at k2
   ·rename_i e';subst e'
    rw[if_pos (by omega)]at k2
    cases k2
    exact .own (by rw[ma _ _ _ hi,if_pos rfl])
   ·rename_i e'
    rw[ep _ _ hi]at k2
    cases k2
    exact .own (by rw[ma _ _ _ hi,if_neg (Ne.symm e')])
  |succ i=>
   have hi:i<rs.length:=by
    have:=(List.getElem?_eq_some_iff.1 h1).1
    simp[eV]at this
    exact this
   rw[ey _ _ _ _ (by simpa using hi)]at h1
   rw[ma _ _ _ hi]at h2
   cases h1
   by_cases e':i=k
   ·rw[if_pos e']at h2
    cases h2
    subst e'
    refine⟨.row e 1 ((rs.getD i []).length+1) (aI (rs.getD i [])++[.raw (.int .i64 x)]),?_,?_⟩
    ·rw[List.getElem?_set_ne (by omega),List.getElem?_append_right (by simp[hlen])]
     simp[hlen]
    ·have hg:(rs.set i (rs.getD i []++[x])).getD i []=rs.getD i []++[x]:=by simp[List.getD_eq_getElem?_getD,hi]
     rw[hg,dL]
     exact .dX (by simp) I
   ·rw[if_neg e']at h2
    cases h2
    refine⟨.row e 1 (rs.getD i []).length (aI (rs.getD i [])),?_,?_⟩
    ·rw[List.getElem?_set_ne (by omega),List.getElem?_append_left (by simp[hlen];omega),List.getElem?_set_ne (by omega),ey _ _ _ _ hi]
    ·have hg:(rs.set k (rs.getD k []++[x])).getD i []=rs.getD i []:=by simp[List.getD_eq_getElem?_getD,List.getElem?_set,Ne.symm e']
     rw[hg]
     exact .row ab.pure
def dr(rs:List (List Int)):PV:=.slice rs.length (rs.map aL)
instance (rs:List (List Int)):av (rs.map aL):=av.map _ _ fun _=>inferInstance
instance (rs:List (List Int)):IsPure (dr rs):=by unfold dr;infer_instance
theorem r8(e1 e:TypeId)(rs:List (List Int)):aZ (eV e1 e rs) (.own 0) (dr rs):=by
 refine aZ.du rfl ⟨by simp[cN],fun i a b h1 h2=>?_⟩
 have hi:i<rs.length:=by have:=(List.getElem?_eq_some_iff.1 h2).1;simpa using this
 rw[ep _ _ hi]at h1
 cases h1
 have:b=aL (rs.getD i []):=by simpa[hi]using h2.symm
 subst this
 exact aZ.du (ey e1 e rs i hi) aq.pure
def bp(f:Nat→Int)(n k:Nat):List (List Int):=(List.range n).map fun(m:Nat)=>((List.range k).filter fun a=>decide (f a=(m:Int))).map Int.ofNat
theorem cw(f:Nat→Int)(n k:Nat):(bp f n k).length=n:=by simp[bp]
theorem cH(f:Nat→Int)(n k m:Nat)(hm:m<n):(bp f n k).getD m []=((List.range k).filter fun a=>decide (f a=(m:Int))).map Int.ofNat:=by simp[bp,hm]
theorem gJ(f:Nat→Int)(n:Nat):bp f n 0=List.replicate n []:=by
 apply List.ext_getElem?
 intro i
 simp only[bp,List.range_zero,List.filter_nil,List.map_nil,List.getElem?_map,List.getElem?_replicate]
 by_cases h:i<n<;>simp[h]
theorem gC(f:Nat→Int)(n k m:Nat)(hm:f k=(m:Int))(hmn:m<n):bp f n (k+1)=(bp f n k).set m ((bp f n k).getD m []++[(k:Int)]):=by
 apply List.ext_getElem?
 intro i
 rw[List.getElem?_set]
 by_cases h:i<n
 ·have hl:i<(bp f n k).length:=by rw[cw];exact h
  by_cases e:m=i
  ·subst e
   rw[if_pos rfl,if_pos hl,cH _ _ _ _ h]
   simp[bp,h,List.range_succ,List.filter_append,hm]
  ·rw[if_neg e]
   simp[bp,h,List.range_succ,List.filter_append,hm]
   omega
 ·have hl:¬i<(bp f n k).length:=by rw[cw];exact h
  have:(bp f n (k+1))[i]? =none:=by simp[bp,h]
  rw[this]
  split
  ·rw[if_neg (by omega)]
  ·simp[bp,h]
end
open Net
theorem uI{P:Program}{σ:ba}{t:bo}{o:Oper}{x y:Operand}{ty tz:TypeId}{a:Nat}(ho:o.op= .binOp .xor ty x y tz)(hx:aj t x=some (num a))(hy:aj t y=some (num 1))(ha:a<9223372036854775806):aH P σ t o (num (flip a:Int)):=
 ft ho hx hy fun w=>by
  have h:IntKind.i64.wrap ((BitVec.ofInt IntKind.i64.bits (a:Int) ^^^ BitVec.ofInt IntKind.i64.bits 1).toNat:Int)=(flip a:Int):=tb a ha
  simp only[binOp,Op.intBits,h]
  rfl
theorem tK(a:Nat):((a:Int)).tdiv 2=((a / 2:Nat):Int):=rfl
theorem uu(a:Nat):((a:Int)).tmod 2=((a % 2:Nat):Int):=rfl
theorem cI{T:au}{n:Int}:bL T n=true↔0≤n∧n<T.nodes:=by simp[bL]
theorem cq{T:au}(h:aW T=true):T.aa.length≤256:=(cr h).2.2.1
theorem tt{b:Prop}[Decidable b](h:decide b=true):b:=of_decide_eq_true h
theorem ff{b:Prop}[Decidable b](h:decide b=false):¬b:=of_decide_eq_false h
theorem lY{E:Env}{w:World}{v:Value}{n:Nat}{xs:List PV}(h:bK E w v (.slice n xs)):n≤maxLen:=by
 obtain⟨a,c,_,h1,h2⟩:=pr h
 omega
theorem pK{P:Program}{f:FuncId}{ps:List PV}{R:PV→Prop}(h:(∃E w vs,aB E w vs ps)→Can P f ps R):Can P f ps R:=fun F w vs hF hG hR=>h ⟨_,_,_,hR⟩ F w vs hF hG hR
theorem nj{P:Program}{f:FuncId}{T:au}{ps:List PV}{R:PV→Prop}(h:T.aa.length≤maxLen→T.over.length≤maxLen→Can P f (bI T::ps) R):Can P f (bI T::ps) R:=by
 refine pK fun⟨E,w,vs,hR⟩=>?_
 obtain⟨v,_,hv⟩:=hR.get (i:=0) I
 unfold bI da at hv
 cases hv with
 |agg cs _ hl hr=>
  have hr:aB E w cs.toList _:=⟨by simpa using hl,fun i x u h1 h2=>hr i x u (by simpa using h1) h2⟩
  obtain⟨v1,_,h1⟩:=hr.get (i:=1) I
  obtain⟨v2,_,h2⟩:=hr.get (i:=2) I
  exact h (lY h2) (lY h1)
theorem c8(T:au)(hl:T.aa.length≤4611686018427387903):Can Tryd.prog 19 [bI T] (· =num (2*(T.aa.length:Int))):=by
 exact bE Tryd.func19 I Tryd.ntmps19 I<|ag (.a 2 I<|.k [1] I)<|ag (.a 3 I<|.v (bw I) I<|.a 1 I<|.k [2] I)<|aF<|⟨_,_,aK.of I,aZ.pure,rfl⟩
theorem dV(T:au)(a:Nat)(ha:a<2*T.aa.length):Can Tryd.prog 41 [bI T,num a] (· =num (aE T a)):=by
 have hi:a / 2<T.aa.length:=by omega
 refine nj fun hm _=>?_
 unfold maxLen at hm
 refine bE Tryd.func41 I Tryd.ntmps41 I<|ag (.a 2 I<|.k [1,2] I)<|al<|ag (.a 1 I<|.v (pg I I I (by decide) (uu a)) I<|.a 1 I<|.k [1,2,7] I)<|ak I (fun hc=>?_) (fun hc=>?_)
 ·have h2:a % 2=0:=by have:=tt hc;omega
  unfold aE
  rw[if_pos h2]
  exact ag (.a 3 I<|.v (jP I I I (by decide) (tK a) (by unfold In64;omega)) I<|.v (aY (a / 2*7) I) I<|.a 1 I<|.v (aV I (fV T.aa (a / 2) 0 hi (by omega))) I<|.a 1 I<|.k [4] I)<|aF<|⟨_,_,aK.of I,aZ.pure,rfl⟩
 ·have h2:¬a % 2=0:=by have:=ff hc;omega
  unfold aE
  rw[if_neg h2]
  exact an<|ag (.a 3 I<|.v (jP I I I (by decide) (tK a) (by unfold In64;omega)) I<|.v (aY (a / 2*7) I) I<|.a 1 I<|.v (aV I (fV T.aa (a / 2) 1 hi (by omega))) I<|.a 1 I<|.k [4] I)<|aF<|⟨_,_,aK.of I,aZ.pure,rfl⟩
theorem e0(T:au)(a:Nat)(ha:a<2*T.aa.length)(hl:T.aa.length≤4611686018427387902):Can Tryd.prog 28 [bI T,num a] (· =num (aA T a)):=by
 exact bE Tryd.func28 I Tryd.ntmps28 I<|ag (.a 2 I<|.k [1,2] I)<|ag (.a 2 I<|.v (uI I I I (by omega)) I<|.c rfl (dV T (Net.flip a) (by unfold Net.flip;split<;>omega)) I<|.a 1 I<|.k [4] I)<|aF<|⟨_,_,aK.of I,aZ.pure,rfl⟩
theorem sq(T:au)(a:Nat)(hi:a / 2<T.aa.length):(bA T.aa)[a / 2*7+2+a % 2]? =some (num (bg T a)):=by
 rw[Nat.add_assoc,fV T.aa (a / 2) (2+a % 2) hi (by omega)]
 unfold bg
 rcases Nat.mod_two_eq_zero_or_one a with h|h<;>rw[h]
 ·rfl
 ·rfl
theorem eW(T:au)(a:Nat)(ha:a<2*T.aa.length):Can Tryd.prog 30 [bI T,num a] (· =num (bg T a)):=by
 have hi:a / 2<T.aa.length:=by omega
 refine nj fun hm _=>?_
 unfold maxLen at hm
 exact bE Tryd.func30 I Tryd.ntmps30 I<|ag (.a 2 I<|.k [1,2] I)<|ag (.a 3 I<|.v (jP I I I (by decide) (tK a) (by unfold In64;omega)) I<|.a 1 I<|.v (pg I I I (by decide) (uu a)) I<|.v (aY (a / 2*7) I) I<|.a 1 I<|.v (aY (a % 2) I) I<|.v (aV I (sq T a hi)) I<|.a 1 I<|.k [4] I)<|aF<|⟨_,_,aK.of I,aZ.pure,rfl⟩
theorem ke(T:au)(n:Nat)(hn:T.over.length=0∨n<T.over.length):Can Tryd.prog 59 [bI T,num n] (· =flag (cU T n)):=by
 obtain⟨p1,hp1⟩:∃q,decide (0<(T.over.length:Int))=q:=⟨_,rfl⟩
 obtain⟨p2,hp2⟩:∃q,T.over.getD n false=q:=⟨_,rfl⟩
 have he:cU T n=(p1&&p2):=by
  unfold cU
  cases p1
  ·have:=ff hp1
   rw[List.getD_eq_getElem?_getD,List.getElem?_eq_none (by omega)];rfl
  ·exact hp2
 rw[he]
 refine bE Tryd.func59 I Tryd.ntmps59 I<|ag (.a 2 I<|.k [1,2] I)<|bF 4 (.raw (.bool (p1&&p2))) [] I ?_ ?_
 ·refine .a 3 I<|.v (cJ I (hp1)) I<|.a 1 I<|?_
  cases p1
  ·exact .a 7 I<|.k [4] I
  ·exact .a 3 I<|.v (aY (n) I (by omega) (by have:=tt hp1;omega)) I<|.v (aV I (show _=some (flag p2) by rw[fg _ n (by have:=tt hp1;omega),hp2])) I<|.a 2 I<|.k [4] I
 exact aF<|⟨_,_,aK.of I,aZ.pure,rfl⟩
theorem eu(T:au)(n:Int):Can Tryd.prog 22 [bI T,num n] (· =flag (bL T n)):=by
 obtain⟨p1,hp1⟩:∃q,decide (0≤n)=q:=⟨_,rfl⟩
 obtain⟨p2,hp2⟩:∃q,decide (n<T.nodes)=q:=⟨_,rfl⟩
 have he:bL T n=(p1&&p2):=by rw[←hp1,←hp2];unfold bL;exact Bool.decide_and _ _
 rw[he]
 refine bE Tryd.func22 I Tryd.ntmps22 I<|ag (.a 2 I<|.k [1,2] I)<|bF 4 (.raw (.bool (p1&&p2))) [] I ?_ ?_
 ·refine .a 1 I<|.v (cJ I (hp1)) I<|.a 1 I<|?_
  cases p1
  ·exact .a 6 I<|.k [4] I
  ·exact .a 3 I<|.v (cJ I (hp2)) I<|.a 2 I<|.k [4] I
 exact aF<|⟨_,_,aK.of I,aZ.pure,rfl⟩
theorem pA(T:au)(hl:T.aa.length≤4611686018427387903)(a:Int):Can Tryd.prog 20 [bI T,num a] (· =flag (kC T a)):=by
 obtain⟨p1,hp1⟩:∃q,decide (0≤a)=q:=⟨_,rfl⟩
 obtain⟨p2,hp2⟩:∃q,decide (a<2*(T.aa.length:Int))=q:=⟨_,rfl⟩
 have he:kC T a=(p1&&p2):=by rw[←hp1,←hp2];unfold kC;exact Bool.decide_and _ _
 rw[he]
 refine bE Tryd.func20 I Tryd.ntmps20 I<|ag (.a 2 I<|.k [1,2] I)<|bF 4 (.raw (.bool (p1&&p2))) [] I ?_ ?_
 ·refine .a 1 I<|.v (cJ I (hp1)) I<|.a 1 I<|?_
  cases p1
  ·exact .a 6 I<|.k [4] I
  ·exact .a 2 I<|.c rfl (c8 T hl) I<|.v (cJ I (hp2)) I<|.a 2 I<|.k [4] I
 exact aF<|⟨_,_,aK.of I,aZ.pure,rfl⟩
theorem j6(T:au)(D:List Bool)(hl:T.aa.length≤4611686018427387903):Can Tryd.prog 25 [bI T,br D] (· =flag (b8 T D)):=by
 obtain⟨p1,hp1⟩:∃q,decide ((D.length:Int)=0)=q:=⟨_,rfl⟩
 obtain⟨p2,hp2⟩:∃q,decide ((D.length:Int)=2*(T.aa.length:Int))=q:=⟨_,rfl⟩
 have he:b8 T D=(p1||p2):=by rw[←hp1,←hp2];unfold b8;rw[←Bool.decide_or];exact decide_eq_decide.2 (by omega)
 rw[he]
 refine bE Tryd.func25 I Tryd.ntmps25 I<|ag (.a 2 I<|.k [1,2] I)<|bF 4 (.raw (.bool (p1||p2))) [] I ?_ ?_
 ·refine .a 2 I<|.v (cJ I (hp1)) I<|.a 1 I<|?_
  cases p1
  ·exact .a 3 I<|.c rfl (c8 T hl) I<|.v (cJ I (hp2)) I<|.a 2 I<|.k [4] I
  ·exact .a 7 I<|.k [4] I
 exact aF<|⟨_,_,aK.of I,aZ.pure,rfl⟩
theorem tL{D:List Bool}{a:Nat}{p1 p2:Bool}(hp1:decide (0<(D.length:Int))=p1)(hp2:D.getD a false=p2):db D a=(p1&&p2):=by
 unfold db
 cases p1
 ·have:=ff hp1
  rw[List.getD_eq_getElem?_getD,List.getElem?_eq_none (by omega)];rfl
 ·exact hp2
theorem ie(D:List Bool)(a:Nat)(ha:D.length=0∨a<D.length):Can Tryd.prog 32 [br D,num a] (· =flag (db D a)):=by
 obtain⟨p1,hp1⟩:∃q,decide (0<(D.length:Int))=q:=⟨_,rfl⟩
 obtain⟨p2,hp2⟩:∃q,D.getD a false=q:=⟨_,rfl⟩
 rw[tL hp1 hp2]
 refine bE Tryd.func32 I Tryd.ntmps32 I<|ag (.a 1 I<|.k [0,1] I)<|bF 4 (.raw (.bool (p1&&p2))) [] I ?_ ?_
 ·refine .a 2 I<|.v (cJ I (hp1)) I<|.a 1 I<|?_
  cases p1
  ·exact .a 6 I<|.k [4] I
  ·exact .a 2 I<|.v (aY (a) I (by omega) (by have:=tt hp1;omega)) I<|.v (aV I (show _=some (flag p2) by rw[fg _ a (by have:=tt hp1;omega),hp2])) I<|.a 2 I<|.k [4] I
 exact aF<|⟨_,_,aK.of I,aZ.pure,rfl⟩
theorem dP(n lo hi:Int):Can Tryd.prog 48 [num n,num lo,num hi] (· =flag (bG n lo hi)):=by
 obtain⟨p1,hp1⟩:∃q,decide (lo≤n)=q:=⟨_,rfl⟩
 obtain⟨p2,hp2⟩:∃q,decide (n≤hi)=q:=⟨_,rfl⟩
 have he:bG n lo hi=(p1&&p2):=by rw[←hp1,←hp2];unfold bG;exact Bool.decide_and _ _
 rw[he]
 refine bE Tryd.func48 I Tryd.ntmps48 I<|ag (.a 1 I<|.k [0,1,2] I)<|bF 6 (.raw (.bool (p1&&p2))) [] I ?_ ?_
 ·refine .a 2 I<|.v (cJ I (hp1)) I<|.a 1 I<|?_
  cases p1
  ·exact .a 5 I<|.k [6] I
  ·exact .a 2 I<|.v (cJ I (hp2)) I<|.a 2 I<|.k [6] I
 exact aF<|⟨_,_,aK.of I,aZ.pure,rfl⟩
set_option maxHeartbeats 2000000 in
theorem iO(T:au):Can Tryd.prog 24 [bI T] (· =flag (aW T)):=by
  obtain⟨p0,hp0⟩:∃q,bG T.nodes 1 64=q:=⟨_,rfl⟩
  obtain⟨p1,hp1⟩:∃q,decide ((T.over.length:Int)≠0)=q:=⟨_,rfl⟩
  obtain⟨p2,hp2⟩:∃q,decide ((T.over.length:Int)≠T.nodes)=q:=⟨_,rfl⟩
  obtain⟨p3,hp3⟩:∃q,decide (256<(T.aa.length:Int))=q:=⟨_,rfl⟩
  have hw:Can Tryd.prog 48 [num T.nodes,num 1,num 64] (· =flag p0):=by rw[←hp0];exact dP _ _ _
  refine bE Tryd.func24 I Tryd.ntmps24 I<|ag (.a 2 I<|.k [1] I)<|al<|bF 14 (.raw (.bool ((!p0)||p3))) [1] I ?_ ?_
  · refine .a 2 I<|.c rfl (hw) I<|.a 2 I<|?_
    cases p0
    · exact .a 5 I<|.k [14,1] I
    · exact .a 3 I<|.v (cJ I (hp3)) I<|.a 1 I<|.k [14,1] I
  refine ak I (fun hc=>?_) (fun hc=>?_)
  · have hv:aW T=false:=by
      rcases Bool.or_eq_true_iff.1 hc with h|h
      · exact(gL T (.inl (by rw[hp0];simpa using h))).symm
      · rw[h]at hp3;exact(gL T (.inr (.inl (by have:=tt hp3;omega)))).symm
    rw[hv]
    exact ag (.a 1 I<|.k [2] I)<|aF<|⟨_,_,aK.of I,aZ.pure,rfl⟩
  · obtain ⟨c1, c2⟩ := Bool.or_eq_false_iff.1 hc
    have h0:p0=true:=by simpa using c1
    rw[h0]at hp0
    rw[c2]at hp3
    have hle:T.aa.length≤256:=by have:=ff hp3;omega
    clear hw hc c1
    refine an<|al<|bF 26 (.raw (.bool (p1&&p2))) [1] I ?_ ?_
    · refine .a 3 I<|.v (cJ I (hp1)) I<|.a 1 I<|?_
      cases p1
      · exact .a 7 I<|.k [26,1] I
      · exact .a 5 I<|.v (cJ I (hp2)) I<|.a 1 I<|.k [26,1] I
    refine ak I (fun hc=>?_) (fun hc=>?_)
    · have hv:aW T=false:=by
        obtain⟨a1,a2⟩:=Bool.and_eq_true_iff.1 hc
        rw[a1]at hp1
        rw[a2]at hp2
        exact(gL T (.inr (.inr ⟨by have:=tt hp1;omega,tt hp2⟩))).symm
      rw[hv]
      exact ag (.a 1 I<|.k [2] I)<|aF<|⟨_,_,aK.of I,aZ.pure,rfl⟩
    · have hov:T.over.length=0∨(T.over.length:Int)=T.nodes:=by
        rcases Bool.and_eq_false_iff.1 hc with h|h
        · rw[h]at hp1;exact .inl (by have:=ff hp1;omega)
        · rw[h]at hp2;exact .inr (by have:=ff hp2;omega)
      rw[oq T hp0 hle hov]
      clear hc hp1 hp2
      refine an<|al<|ag (.a 4 I<|.k [1,29,30] I)<|aw<|fx [1,29,30] I<|bx (fun r s=>∃k,k≤T.aa.length∧r=T.aa.length - k∧(T.aa.take k).all (eh T)=true∧s=⟨[(1,.bY (da T) 0),(29,num T.aa.length),(30,num k)],[]⟩) T.aa.length ⟨0,by omega,by omega,by simp,rfl⟩ ?_
      rintro r s ⟨k,hk,rfl,hall,rfl⟩
      refine ag (.a 1 I<|.k [1,29,30,31] I)<|al<|ak I (fun hc=>?_) (fun hc=>?_)
      · have hlt:k<T.aa.length:=by have:=tt hc;omega
        have g:∀j,j<7→(bA T.aa)[k*7+j]? =(eS (eD T.aa k))[j]? :=fun j hj=>fV T.aa k j hlt hj
        obtain⟨q1,g1⟩:∃q,decide ((eD T.aa k).a=(eD T.aa k).b)=q:=⟨_,rfl⟩
        obtain⟨q2,g2⟩:∃q,bL T (eD T.aa k).a=q:=⟨_,rfl⟩
        obtain⟨q3,g3⟩:∃q,bL T (eD T.aa k).b=q:=⟨_,rfl⟩
        obtain⟨q4,g4⟩:∃q,bG (eD T.aa k).c0 1 65535=q:=⟨_,rfl⟩
        obtain⟨q5,g5⟩:∃q,bG (eD T.aa k).c1 1 65535=q:=⟨_,rfl⟩
        obtain⟨q6,g6⟩:∃q,bG (eD T.aa k).cap 0 1048576=q:=⟨_,rfl⟩
        obtain⟨q7,g7⟩:∃q,bG (eD T.aa k).nw 1 65536=q:=⟨_,rfl⟩
        obtain⟨q8,g8⟩:∃q,bG (eD T.aa k).vd 0 64=q:=⟨_,rfl⟩
        have hOK:=qH (T:=T) (l:=eD T.aa k) (q1:=q1) (by rw[←g1];exact Bool.eq_iff_iff.2 (by simp)) g2 g3 g4 g5 g6 g7 g8
        have hall':=su (eh T) T.aa k hlt
        have hno:=rH (eh T) T.aa k hlt
        rw[hOK]at hall' hno
        have n2:=eu T (eD T.aa k).a
        rw[g2]at n2
        have n3:=eu T (eD T.aa k).b
        rw[g3]at n3
        have n4:=dP (eD T.aa k).c0 1 65535
        rw[g4]at n4
        have n5:=dP (eD T.aa k).c1 1 65535
        rw[g5]at n5
        have n6:=dP (eD T.aa k).cap 0 1048576
        rw[g6]at n6
        have n7:=dP (eD T.aa k).nw 1 65536
        rw[g7]at n7
        have n8:=dP (eD T.aa k).vd 0 64
        rw[g8]at n8
        clear hOK g2 g3 g4 g5 g6 g7 g8
        refine an<|al<|aw<|ag (.a 2 I<|.k [1,3,29,30] I)<|ag (.a 3 I<|.v (aY (k*7) I) I<|.a 1 I<|.k [1,4,29,30] I)<|al<|nW mixed (by kernel_rfl) 63 (.raw (.bool ((q1|| !q2)|| !q3))) [1,4,29,30] I ?_ ?_
        · refine .a 3 I<|.v [39] (aV I (g 0 (by omega))) I I<|.a 3 I<|.v [43] (aV I (g 1 (by omega))) I I<|.v [40,44] (cJ I (g1)) I I<|.a 1 I<|?_
          cases q1
          · refine .a 4 I<|.v [50] (aV I (g 0 (by omega))) I I<|.v [47,51] (fu I (n2)) I I<|.a 3 I<|?_
            cases q2
            · exact .a 8 I<|.k [63,1,4,29,30] I
            · exact .a 4 I<|.v [59] (aV I (g 1 (by omega))) I I<|.v [56,60] (fu I (n3)) I I<|.a 2 I<|.k [63,1,4,29,30] I
          · exact .a 17 I<|.k [63,1,4,29,30] I
        refine ak I (fun hx=>?_) (fun hx=>?_)
        · have hno':=hno (by cases q1<;>cases q2<;>cases q3<;>simp_all)
          rw[hno']
          exact ag (.a 1 I<|.k [2] I)<|aF<|⟨_,_,aK.of I,aZ.pure,rfl⟩
        · have e1:q1=false:=by cases q1<;>simp_all
          have e2:q2=true:=by cases q2<;>simp_all
          have e3:q3=true:=by cases q3<;>simp_all
          subst e1 e2 e3
          clear n2 n3 hx
          refine an<|al<|bF 79 (.raw (.bool ((!q4)|| !q5))) [1,4,29,30] I ?_ ?_
          · refine .a 3 I<|.v (aY (0) I) I<|.v (aV I (g 2 (by omega))) I<|.c rfl (n4) I<|.a 2 I<|?_
            cases q4
            · exact .a 8 I<|.k [79,1,4,29,30] I
            · exact .a 3 I<|.v (aY (1) I) I<|.v (aV I (g 3 (by omega))) I<|.c rfl (n5) I<|.a 2 I<|.k [79,1,4,29,30] I
          refine ak I (fun hx=>?_) (fun hx=>?_)
          · have hno':=hno (by cases q4<;>cases q5<;>simp_all)
            rw[hno']
            exact ag (.a 1 I<|.k [2] I)<|aF<|⟨_,_,aK.of I,aZ.pure,rfl⟩
          · have e1:q4=true:=by cases q4<;>simp_all
            have e2:q5=true:=by cases q5<;>simp_all
            subst e1 e2
            clear n4 n5 hx
            refine an<|bF 101 (.raw (.bool (((!q6)|| !q7)|| !q8))) [1,29,30] I ?_ ?_
            · refine .a 3 I<|.v (aV I (g 4 (by omega))) I<|.c rfl (n6) I<|.a 2 I<|?_
              cases q6
              · exact .a 15 I<|.k [101,1,29,30] I
              · refine .a 3 I<|.v (aV I (g 5 (by omega))) I<|.c rfl (n7) I<|.a 3 I<|?_
                cases q7
                · exact .a 7 I<|.k [101,1,29,30] I
                · exact .a 3 I<|.v (aV I (g 6 (by omega))) I<|.c rfl (n8) I<|.a 2 I<|.k [101,1,29,30] I
            refine ak I (fun hx=>?_) (fun hx=>?_)
            · have hno':=hno (by cases q6<;>cases q7<;>cases q8<;>simp_all)
              rw[hno']
              exact ag (.a 1 I<|.k [2] I)<|aF<|⟨_,_,aK.of I,aZ.pure,rfl⟩
            · have e1:q6=true:=by cases q6<;>simp_all
              have e2:q7=true:=by cases q7<;>simp_all
              have e3:q8=true:=by cases q8<;>simp_all
              subst e1 e2 e3
              clear n6 n7 n8 hx
              refine an<|aD (.v (bw I) I<|.a 1 I<|.k [1,29,30] I) ?_
              exact⟨T.aa.length - (k+1),by omega,k+1,by omega,rfl,by rw[hall',hall];rfl,rfl⟩
      · have hke:k=T.aa.length:=by have:=ff hc;omega
        subst hke
        rw[List.take_length]at hall
        rw[hall]
        exact bn<|ag (.a 1 I<|.k [2] I)<|aF<|⟨_,_,aK.of I,aZ.pure,rfl⟩
end
section
open Go.RowKit cX Mem
section
variable {P:Program} {N L:Nat} {ops:Array Oper}
theorem WA.mono:∀ {n:Nat} {ls:Array Bool} {st:St} {K K':St→Prop},WA P N L ops n ls st K→(∀s,K s→K' s)→WA P N L ops n ls st K'
 |0,_,_,_,_,h,hk=>⟨h.1,hk _ h.2⟩
 |_+1,_,_,_,_,h,hk=>⟨h.1,fun i hi=>by
   obtain⟨o,h1,h2,h3⟩:=h.2 i hi
   exact⟨o,h1,h2,h3.mono fun s hs=>WA.mono hs hk⟩⟩
theorem jM{id:Nat}{l:List Oper}{y:Code}{st:St}{Q:Exit→St→Prop}(t':bo)(σ':ba)(hm:P.follows .mixedOrders=true)(h:WA P N L l.toArray l.length (Array.replicate l.length false) st (fun s=>s.σ=σ'∧Sub s.t t'))(hq:W P N L y ⟨t',σ'⟩ Q):W P N L (.seq (.region id l.toArray true) y) st Q:=
 lA hm (h.mono fun s hs=>by
  obtain⟨t,σ⟩:=s
  obtain⟨h1,h2⟩:=hs
  subst h1
  exact fL h2 hq)
theorem Sat.seal{F:Nat→Prop}{base:Nat}{σ:ba}{E:Env}{w:World}(hS:Sat F base σ E w){i e s n:Nat}{xs:List PV}(hi:σ[i]? =some (some (.row e s n xs))){v:Value}(hv:bK E w v (.own i)):bK (E.kill i) w v (.slice n xs):=by
 obtain⟨_,g⟩:=hS.kill i hi
 cases hv with
 |own _ hiL _ h _=>
  obtain⟨cs,k1,k2⟩:=hS.blk i _ hi
  rw[h]at k1
  have k3:=k1
  rcases k1.2 with⟨rfl,h0⟩|⟨b,cap,cur,rfl,hb,hg,hn,hc,hs',ht⟩
  ·subst h0
   have:xs=[]:=by
    have:=k3.1;simp at this;subst this
    exact List.eq_nil_of_length_eq_zero k2.1.symm
   subst this
   exact .cd
  ·by_cases h0:n=0
   ·subst h0
    have:xs=[]:=by
     have:=k3.1;simp at this;subst this
     exact List.eq_nil_of_length_eq_zero k2.1.symm
    subst this
    exact .empty _ _ hc
   ·refine .slice b 0 n cap cs xs (by omega) hn hc (Array.getElem?_eq_some_iff.1 hg).1 (fun hM=>hM.2 (by rw[h];rfl)) (fun j x hx=>?_) k2.1 (fun j x u h1 h2=>(k2.2 j x u h1 h2).goes g)
    have:=k3.cells (g:=b) I j x hx
    rw[Addr.add_lit]at this
    exact this
theorem rW{c:Code}{t:bo}{σ:ba}{Q:Exit→St→Prop}(k i:Nat){e s n:Nat}{xs:List PV}(hk:look k t=some (.own i))(hi:σ[i]? =some (some (.row e s n xs)))(h:W P N L c ⟨(k,.slice n xs)::t,σ.set i none⟩ Q):W P N L c ⟨t,σ⟩ Q:=fun F base E₀ w₀ E a w hc hs=>by
 obtain⟨a1,a2⟩:=hs.sat.kill i hi
 exact h F base E₀ w₀ _ a w (hc.on a2 (Below.refl _ _)) ⟨a1,(hs.tmp.goes a2).th (hs.sat.seal hi (hs.tmp k _ hk)),hs.gI,hs.size⟩
theorem ta{l:List Oper}{t:bo}{σ:ba}{K:St→Prop}(k i:Nat){e s n:Nat}{xs:List PV}(hk:look k t=some (.own i))(hi:σ[i]? =some (some (.row e s n xs)))(h:WR P N L ops l ⟨(k,.slice n xs)::t,σ.set i none⟩ K):WR P N L ops l ⟨t,σ⟩ K:=by
 intro F base E₀ w₀ E a w hc hs Q j hQ hl
 obtain⟨a1,a2⟩:=hs.sat.kill i hi
 exact h F base E₀ w₀ _ a w (hc.on a2 (Below.refl _ _)) ⟨a1,(hs.tmp.goes a2).th (hs.sat.seal hi (hs.tmp k _ hk)),hs.gI,hs.size⟩ Q j hQ hl
theorem lW{c:Code}{t:bo}{σ:ba}{Q:Exit→St→Prop}(k i off:Nat){ty:TypeId}{xs:List PV}(hk:look k t=some (.ptr i off))(hi:σ[i]? =some (some (.cells ty xs)))(h:W P N L c ⟨(k,.bY xs off)::t,σ.set i none⟩ Q):W P N L c ⟨t,σ⟩ Q:=fun F base E₀ w₀ E a w hc hs=>by
 obtain⟨a1,a2⟩:=hs.sat.kill i hi
 have hv:=hs.tmp k _ hk
 obtain⟨b,cs,h1,h2,h3,h4⟩:=hs.sat.blk i _ hi
 have hp:bK (E.kill i) w (a.eval (.tmp k)) (.bY xs off):=by
  generalize a.eval (.tmp k)=z at hv
  cases hv with
  |ptr _ _ b' hi' h=>
   have hb:b'=b:=by
    rcases h with h|⟨n,c,h⟩<;>rw[h1]at h<;>cases h
    rfl
   subst hb
   have:=bK.bY (E:=E.kill i) (w:=w) b' 0 off cs.toList xs (Array.getElem?_eq_some_iff.1 h3).1 (fun hM=>hM.2 (by rw[h1];rfl)) (fun j x hx=>by rw[Nat.zero_add];unfold World.cell?;simp only[h3];simpa using hx) h4.1 (fun j x u k1 k2=>(h4.2 j x u k1 k2).goes a2)
   rw[Nat.zero_add]at this
   exact this
 exact h F base E₀ w₀ _ a w (hc.on a2 (Below.refl _ _)) ⟨a1,(hs.tmp.goes a2).th hp,hs.gI,hs.size⟩
end
open Net
theorem qJ(L M:List Int):Can Tryd.prog 13 [aL L,aL M] (· =flag (iD L M)):=by
 refine pK fun⟨E,w,vs,hR⟩=>?_
 obtain⟨v,_,hv⟩:=hR.get (i:=0) I
 have hm:=lY hv
 unfold maxLen at hm
 refine bE Tryd.func13 I Tryd.ntmps13 I<|ag (.a 1 I<|.k [0,1] I)<|al<|ag (.a 5 I<|.k [0,1,10] I)<|ak I (fun hc=>?_) (fun hc=>?_)
 ·rw[←sC L M (by have:=tt hc;omega)]
  exact ag (.a 1 I<|.k [4] I)<|aF<|⟨_,_,aK.of I,aZ.pure,rfl⟩
 ·have hlen:M.length=L.length:=by have:=ff hc;omega
  refine an<|al<|ag (.a 1 I<|.k [0,1,5] I)<|aw<|fx [0,1,5] I<|bx (fun r s=>∃k,k≤L.length∧r=L.length - k∧(∀i,i<k→L.getD i 0=M.getD i 0)∧s=⟨[(0,aL L),(1,aL M),(5,num k)],[]⟩) L.length ⟨0,by omega,by omega,fun i hi=>by omega,rfl⟩ ?_
  rintro r s ⟨k,hk,rfl,hall,rfl⟩
  refine al<|ag (.a 4 I<|.k [0,1,5,14] I)<|ak I (fun hc=>?_) (fun hc=>?_)
  ·have hlt:k<L.length:=by have:=tt hc;omega
   refine an<|al<|aw<|jk mixed (by kernel_rfl) (.a 2 I<|.v [17,18] (aY (k) I) I I<|.v [19] (aV I (aN L k hlt)) I I<|.a 2 I<|.v [21,22] (aY (k) I) I I<|.v [23] (aV I (aN M k (by omega))) I I<|.a 1 I<|.k [0,1,5,25] I) ?_
   refine ak I (fun hx=>?_) (fun hx=>?_)
   ·rw[←tJ L M k (tt hx)]
    exact ag (.a 1 I<|.k [4] I)<|aF<|⟨_,_,aK.of I,aZ.pure,rfl⟩
   ·have hx':L.getD k 0=M.getD k 0:=by have:=ff hx;omega
    refine an<|aD (.a 1 I<|.v (bw I) I<|.a 1 I<|.k [0,1,5] I) ?_
    refine⟨L.length - (k+1),by omega,k+1,by omega,rfl,fun i hi=>?_,rfl⟩
    by_cases h:i=k
    ·rw[h];exact hx'
    ·exact hall i (by omega)
  ·have hke:k=L.length:=by have:=ff hc;omega
   rw[←rL L M hlen (fun i hi=>hall i (by omega))]
   exact bn<|ag (.a 1 I<|.k [4] I)<|aF<|⟨_,_,aK.of I,aZ.pure,rfl⟩
theorem gW(T:au)(hv:aW T=true):Can Tryd.prog 23 [bI T] (· =dr (bp (aA T) T.nodes.toNat (2*T.aa.length))):=by
 have hbd:=cr hv
 have hS:=bz hv
 obtain⟨n,hn⟩:∃n:Nat,T.nodes=(n:Int):=⟨T.nodes.toNat,by omega⟩
 rw[show T.nodes.toNat=n by omega]
 refine bE Tryd.func23 I Tryd.ntmps23 I<|ag (.a 2 I<|.k [1] I)<|a7<|ax 2 I<|bD (b9 I (bB.rk.get I) I I hn hn ⟨by unfold maxLen;omega,by omega⟩) I<|ax 1 I<|aO [1,3] I ?_
 refine fR 43 3 n ?_
 refine al<|ag (.a 1 I<|.c rfl (c8 T (by omega)) I<|.a 1 I<|.k [1,3,10,11] I)<|aw<|fx [1,3,10,11] I<|bx (fun r s=>∃k,k≤2*T.aa.length∧r=2*T.aa.length - k∧s=⟨[(1,.bY (da T) 0),(3,.own 0),(10,num (2*(T.aa.length:Int))),(11,num k)],eV 43 3 (bp (aA T) n k)⟩) (2*T.aa.length) ⟨0,by omega,by omega,by rw[gJ];rfl⟩ ?_
 rintro r s ⟨k,hk,rfl,rfl⟩
 refine ag (.a 1 I<|.k [1,3,10,11,12] I)<|al<|ak I (fun hc=>?_) (fun hc=>?_)
 ·have hlt:k<2*T.aa.length:=by have:=of_decide_eq_true hc;omega
  obtain⟨hd0,hhN⟩:=hS.head k hlt
  obtain⟨m,hm⟩:=Int.eq_ofNat_of_zero_le hd0
  have hmn:m<n:=by omega
  have hrl:=cw (aA T) n k
  have hgl:((bp (aA T) n k).getD m []).length≤k:=by
   rw[cH _ _ _ _ hmn]
   simp only[List.length_map]
   exact Nat.le_trans (List.length_filter_le _ _) (by simp)
  refine an<|al<|aw<|ag (.a 2 I<|.k [1,3,4,10,11] I)<|ag (.a 2 I<|.c rfl (hm▸e0 T k hlt (by omega)) I<|.a 1 I<|.k [1,3,4,5,10,11] I)<|aR<|ax 4 I<|aM (aY (m) I) I<|aM (aV I (ep _ m (by omega))) I<|ax 2 I<|bD (aU I (bB.rk.get I) I (ey _ _ _ m (by omega)) I I ⟨by unfold maxLen;omega,by omega⟩) I<|aM (aY (m) I) I<|bq (dy I (bB.tk.get I) I I I (by show m<(cN _).length;simp[cN];omega)) I I<|aO [1,3,10,11] I ?_
  refine bO (qN (bp (aA T) n k).length m) (.cons 1 I Ren.pure<|.cons 3 I (Ren.own (i:=0) I)<|.cons 10 I Ren.pure<|.cons 11 I Ren.pure<|.nil) (jT 43 3 (bp (aA T) n k) m (by omega) (k:Int)) (iT _ _) I ?_
  rw[←gC (aA T) n k m hm hmn]
  refine aD (.v (bw I) I<|.a 1 I<|.k [1,3,10,11] I) ?_
  exact⟨2*T.aa.length - (k+1),by omega,k+1,by omega,rfl,rfl⟩
 ·have hke:k=2*T.aa.length:=by have:=of_decide_eq_false hc;omega
  subst hke
  exact bn<|ag (.a 2 I<|.k [2] I)<|aF<|⟨_,_,aK.of I,r8 _ _ _,rfl⟩
open Heap
theorem s5{N n:Nat}{K P O:List Int}(h:iH N n K P O)(hN:N≤65536){i:Nat}(hi:O.getD 0 0=(i:Int))(j:Nat)(hj:bf O (j:Int)):K.getD i 0≤K.getD j 0:=by
 obtain⟨hP,hO,hK,hH⟩:=h
 obtain⟨p,hp,he⟩:=hj
 have h1:=qd hH p (by omega)
 unfold rk at h1
 rw[hi,he]at h1
 have h2:=hP.item p hp
 have:=qM (by omega) (by omega) h1
 simpa using this
theorem jC(N:Nat):iH N 0 (List.replicate N 0) (List.replicate N 0) []:=
 ⟨⟨by simp,fun p hp=>by simp at hp,fun i hi=>.inl (by simp[List.getD_eq_getElem?_getD,List.getElem?_replicate,hi])⟩,rfl,by simp,fun q _ hq=>by omega⟩
theorem i6{P:Program}{M:Nat}{c:Code}{t:bo}{Q:Exit→St→Prop}{b:Bool}{d:Option cy}{N n:Nat}{K Pl O:List Int}(hd:gk d)(hT:gw [0,1,2,3,5] t t)(h:W P M 0 c ⟨t,cL false d N n K Pl O⟩ Q):W P M 0 c ⟨t,cL b d N n K Pl O⟩ Q:=by
 cases b
 ·exact h
 ·exact bO [0,1,2,3,5] hT (.same hd rfl<|.kept rfl (.cells (ab.cons (Ren.own (i:=2) I)<|ab.cons (Ren.own (i:=3) I)<|ab.cons (Ren.own (i:=4) I) ab.nil))<|.kept rfl (.row ab.pure)<|.kept rfl (.row ab.pure)<|.kept rfl (.row ab.pure)<|.nil) I I h
theorem dI{P:Program}{M L:Nat}{c:Code}{t:bo}{Q:Exit→St→Prop}{σ σ':ba}(he:σ=σ')(h:W P M L c ⟨t,σ'⟩ Q):W P M L c ⟨t,σ⟩ Q:=by subst he;exact h
theorem lX{N n:Nat}(d:Option cy)(hd:gk d)(K P O:List Int)(h:iH N n K P O)(hN:N≤65536):
  aG Tryd.prog 58 [.ptr 1 0] (cL false d N n K P O) (fun r σ'=>∃(b ok:Bool) (i n':Nat) (key:Int) (K' P' O':List Int),r= .tuple [num i,num key,flag ok]∧σ'=cL b d N n' K' P' O'∧
   ((ok=false∧n=0)∨(ok=true∧i<N∧bf O (i:Int)∧(∀j:Nat,bf O (j:Int)→K.getD i 0≤K.getD j 0)∧key=K.getD i 0∧K'=K.set i 0∧iH N n' K' P' O'∧∀j:Nat,bf O' (j:Int)↔bf O (j:Int)∧j≠i))):=by
 refine(sV d hd K P O h hN).mono fun r σ' hr=>?_
 rcases hr with⟨h1,rfl,rfl⟩|⟨n',i,P',O',h1,h2,h3,rfl,rfl,h4,h5⟩
 ·exact⟨false,false,0,n,0,K,P,O,rfl,rfl,.inl ⟨rfl,h1⟩⟩
 ·refine⟨true,true,i,n',K.getD i 0,K.set i 0,P',O',rfl,rfl,.inr ⟨rfl,h2,⟨0,by have:=h.2.1;omega,h3⟩,s5 h hN h3,rfl,rfl,h4,fun j=>(h5 j).trans ?_⟩⟩
  constructor<;>rintro⟨a,b⟩<;>exact⟨a,by omega⟩
def dS(T:au)(D:List Bool)(n:Nat)(f1 f2:FuncId)(cap1 cap2:List PV):List PV:=[.raw (.int .i64 T.nodes),br T.over,.slice T.aa.length (bA T.aa),br D,num n,.func f1 cap1,.func f2 cap2]
instance (T:au) (D:List Bool) (n:Nat) (f1 f2:FuncId) (cap1 cap2:List PV) [av cap1] [av cap2]:av (dS T D n f1 f2 cap1 cap2):=by unfold dS;infer_instance
def ao(T:au)(dir:Bool)(i:Nat):List Int:=((List.range (2*T.aa.length)).filter fun a=>decide (bH T dir a=(i:Int))).map Int.ofNat
theorem df(T:au)(dir:Bool)(i:Nat)(a:Nat):(a:Int)∈ao T dir i↔a<2*T.aa.length∧bH T dir a=(i:Int):=by
 unfold ao
 simp only[List.mem_map,List.mem_filter,List.mem_range,decide_eq_true_eq]
 constructor
 ·rintro⟨b,h,e⟩
  have:b=a:=Int.ofNat.inj e
  subst this;exact h
 ·intro h;exact⟨a,h,rfl⟩
theorem ev(T:au)(dir:Bool)(i k:Nat)(h:k<(ao T dir i).length):∃a:Nat,(ao T dir i).getD k 0=(a:Int)∧a<2*T.aa.length∧bH T dir a=(i:Int):=by
 have hm:(ao T dir i).getD k 0∈ao T dir i:=c7 h
 have:∃a:Nat,(ao T dir i).getD k 0=(a:Int):=by
  unfold ao at hm ⊢
  obtain⟨b,_,e⟩:=List.mem_map.1 hm
  exact⟨b,e.symm⟩
 obtain⟨a,ha⟩:=this
 rw[ha]at hm
 exact⟨a,ha,(df T dir i a).1 hm⟩
theorem dK(T:au)(dir:Bool)(i:Nat):(ao T dir i).length≤2*T.aa.length:=by
 unfold ao
 rw[List.length_map]
 exact Nat.le_trans (List.length_filter_le _ _) (by simp)
theorem mI(N k:Nat)(h:k<N):(List.replicate k (-1:Int)++List.replicate (N - k) 0).set k (-1)=List.replicate (k+1) (-1)++List.replicate (N - (k+1)) 0:=by
 rw[List.set_append_right _ _ (by simp),List.length_replicate,Nat.sub_self,show N - k=(N - (k+1))+1 by omega,List.replicate_succ,List.set_cons_zero,List.replicate_succ',List.append_assoc]
 rfl
theorem fy(N:Nat):cz [.raw (.int .i64 0)] N=aI (List.replicate 0 (-1)++List.replicate (N - 0) 0):=by simpa using bN N
theorem cP(n:Nat)(L:List Int):gk (some (.row 3 1 n (aI L))):=fun b h=>by
 cases h
 exact inferInstanceAs (av (aI L))
theorem ra{σ:ba}{K P O:List Int}(h:aZ σ (.ptr 1 0) (kx K P O))(p:Int):aq σ ([.ptr 1 0,num p]++[]) [kx K P O,num p]:=aq.cons h (aq.cons aZ.pure aq.nil)
set_option maxHeartbeats 4000000 in
theorem sP(T:au)(D:List Bool)(n:Nat)(dir:Bool)(f1 f2:FuncId)(cap1 cap2:List PV)[av cap1][av cap2](hv:aW T=true)(hf:b8 T D=true)(hn:(n:Int)<T.nodes)(he1:enters Tryd.prog f1=true)(he2:enters Tryd.prog f2=true)
  (h1:∀i:Nat,(i:Int)<T.nodes→Can Tryd.prog f1 ([num i]++cap1) (· =aL (ao T dir i))) (h2:∀a:Nat,a<2*T.aa.length→Can Tryd.prog f2 ([num a]++cap2) (· =num (cS T dir a))):
  Can Tryd.prog 42 [.agg (dS T D n f1 f2 cap1 cap2)] (· =aL (aP T D n dir)):=by
 have hbd:=cr hv
 have hS:=bz hv
 obtain⟨N,hN⟩:∃N:Nat,T.nodes=(N:Int):=⟨T.nodes.toNat,by omega⟩
 have hN64:N≤64:=by have:=hS.nodes;omega
 have hnN:n<N:=by omega
 refine bE Tryd.func42 I Tryd.ntmps42 I<|ag (.a 2 I<|.k [1] I)<|a7<|ax 3 I<|bD (b9 I (bB.rk.get I) I I hN hN ⟨by unfold maxLen;omega,by omega⟩) I<|ax 1 I<|aO [1,3] I ?_
 refine al<|ag (.a 3 I<|.k [1,3,21,22] I)<|aw<|fx [1,3,21,22] I<|bx (fun r s=>∃k,k≤N∧r=N - k∧s=⟨[(1,.bY (dS T D n f1 f2 cap1 cap2) 0),(3,.own 0),(21,num N),(22,num k)],[some (.row 3 1 N (aI (List.replicate k (-1)++List.replicate (N - k) 0)))]⟩) N ⟨0,by omega,by omega,by rw[←fy N];rfl⟩ ?_
 rintro r s ⟨k,hk,rfl,rfl⟩
 refine ag (.a 1 I<|.k [1,3,21,22,23] I)<|al<|ak I (fun hc=>?_) (fun hc=>?_)
 ·have hlt:k<N:=by have:=of_decide_eq_true hc;omega
  refine an<|al<|aw<|ag (.a 2 I<|.k [1,3,4,21,22] I)<|aR<|ax 2 I<|aM (aY (k) I) I<|bq ((by first|exact bu I (bB.tk.get I) I I I (by first|omega|(simp;omega))|exact bm I (bB.tk.get I) I I I (by first|omega|(simp;omega)))) I I<|aO [1,3,21,22] I ?_
  refine dI (σ':=[some (.row 3 1 N (aI (List.replicate (k+1) (-1)++List.replicate (N - (k+1)) 0)))]) (by rw[←mI N k hlt];rfl) ?_
  refine aD (.v (bw I) I<|.a 1 I<|.k [1,3,21,22] I) ?_
  exact⟨N - (k+1),by omega,k+1,by omega,rfl,rfl⟩
 ·have hke:k=N:=by have:=of_decide_eq_false hc;omega
  subst hke
  refine dI (σ':=[some (.row 3 1 k (aI (List.replicate k (-1))))]) (by simp) ?_
  refine bn<|a7<|ax 2 I<|aM (aV I ((show some (num T.nodes)=some (num (k:Int)) by rw[hN]))) I<|bh I I (aG.mono (ml k (some (.row 3 1 k (aI (List.replicate k (-1))))) (cP _ _) (by omega)) (fun _ σ' h=>?_))
  obtain⟨rfl,rfl⟩:=h
  refine ax 5 I<|aO [1,3,5] I ?_
  refine a7<|ax 3 I<|bh I I (aG.mono (iw (some (.row 3 1 k (aI (List.replicate k (-1))))) (cP _ _) _ _ _ (jC k) (by omega) n hnN 0) (fun _ σ' h=>?_))
  obtain⟨b,n1,P1,O1,rfl,hok,hheld⟩:=h
  refine aO [1,3,5] I ?_
  refine i6 (cP _ _) (.cons 1 I Ren.pure<|.cons 3 I (Ren.own (i:=0) I)<|.cons 5 I (Ren.ptr (i:=1) I)<|.nil) ?_
  have hD0:=lO (T:=T) (D:=D) (N:=k) (n:=n) (dir:=dir) hN.symm hnN (K:=(List.replicate k (0:Int)).set n 0) (H:=fun y=>bf O1 (y:Int)) (by rw[l8 _ _ _ _ (by simpa using hnN),if_pos rfl]) (fun y=>(hheld y).trans ⟨fun h=>h.elim (fun⟨p,hp,_⟩=>by simp at hp) (fun e=>by omega),fun e=>.inr (by omega)⟩)
  generalize (List.replicate k (0:Int)).set n 0=K1 at hok hD0
  generalize List.replicate k (-1:Int)=out1 at hD0
  clear hheld
  refine aw<|fx [1,3,5] I<|bx (fun r s=>∃out K P O q,lT T D n dir out K (fun y=>bf O (y:Int)) (fun _=>False)∧iH k q K P O∧r=k+1 - dF out∧s=⟨[(1,.bY (dS T D n f1 f2 cap1 cap2) 0),(3,.own 0),(5,.ptr 1 0)],cL false (some (.row 3 1 k (aI out))) k q K P O⟩) (k+1 - dF out1) ⟨out1,K1,P1,O1,n1,hD0,hok,rfl,rfl⟩ ?_
  clear hD0 hok out1 K1 P1 O1 n1 b
  rintro r s ⟨out,K,P,O,q,hD,hok,rfl,rfl⟩
  refine aw<|a7<|ax 1 I<|bh I I (aG.mono (lX (some (.row 3 1 k (aI out))) (cP _ _) K P O hok (by omega)) (fun _ σ' h=>?_))
  obtain⟨b,ok,i,n1,key,K1,P1,O1,rfl,rfl,hpop⟩:=h
  refine ax 7 I<|aO [1,3,5,7,8,9] I ?_
  refine i6 (cP _ _) (.cons 1 I Ren.pure<|.cons 3 I (Ren.own (i:=0) I)<|.cons 5 I (Ren.ptr (i:=1) I)<|.cons 7 I Ren.pure<|.cons 8 I Ren.pure<|.cons 9 I Ren.pure<|.nil) ?_
  refine al<|ag (.a 2 I<|.k [1,3,5,7,8,47] I)<|ak I (fun hc=>?_) (fun hc=>?_)
  ·have hok0:ok=false:=by cases ok;rfl;cases hc
   have hq0:q=0:=by
    rcases hpop with⟨_,h⟩|⟨h,_⟩
    ·exact h
    ·rw[hok0]at h;cases h
   have hdist:aP T D n dir=out:=eE hS (pn hD (fun y ⟨p,hp,_⟩=>by have:=hok.2.1;omega))
   exact ag (.a 2 I<|.k [2] I)<|aF<|⟨_,_,aK.of I,aZ.du rfl aq.pure,by rw[hdist];unfold aL;rw[show out.length=k by have:=hD.len;omega]⟩
  ·have hok1:ok=true:=by cases ok;cases hc;rfl
   rcases hpop with⟨h,_⟩|⟨_,hiN,hHi,hmin,rfl,rfl,hok',hH'⟩
   ·rw[hok1]at h;cases h
   obtain⟨hD1,hcnt,htop,hati,hk0,hku⟩:=pj hS hD hHi hmin (by rw[hok.2.2.1];exact hiN) hH'
   have hol:out.length=k:=by have:=hD.len;omega
   have hcl:=dJ (out.set i (K.getD i 0))
   have hiT:(i:Int)<T.nodes:=by omega
   refine an<|a7<|ax 3 I<|aM (aY (i) I) I<|bq ((by first|exact bu I (bB.tk.get I) I I I (by first|omega|(simp;omega))|exact bm I (bB.tk.get I) I I I (by first|omega|(simp;omega)))) I I<|aO [1,3,5,7,8] I ?_
   refine dI (σ':=cL false (some (.row 3 1 k (aI (out.set i (K.getD i 0))))) k n1 (K.set i 0) P1 O1) I ?_
   have ho1:(out.set i (K.getD i 0)).length=k:=by simpa using hol
   have hmeas:k+1 - dF (out.set i (K.getD i 0))<k+1 - dF out:=by have:=dJ (out.set i (K.getD i 0));omega
   generalize K.getD i 0=d at hD1 hcnt htop hati hk0 hku ho1 hcl hmeas
   generalize out.set i d=out1 at hD1 hcnt htop hati ho1 hcl hmeas
   generalize K.set i 0=K1 at hD1 hok'
   refine al ?_
   obtain⟨q1,hq1⟩:∃q,decide ((i:Int)≠(n:Int))=q:=⟨_,rfl⟩
   obtain⟨q2,hq2⟩:∃q,cU T i=q:=⟨_,rfl⟩
   have hov:T.over.length=0∨i<T.over.length:=by have:=hbd.2.2.2;omega
   refine bF 62 (.raw (.bool (q1&&q2))) [1,3,5,7,8] I ?_ ?_
   ·refine .a 3 I<|.v (cJ I (hq1)) I<|.a 1 I<|?_
    cases q1
    ·exact .a 5 I<|.k [62,1,3,5,7,8] I
    ·exact .a 3 I<|.c rfl (hq2▸ke T i hov) I<|.a 1 I<|.k [62,1,3,5,7,8] I
   refine ak I (fun hc=>?_) (fun hc=>?_)
   ·obtain⟨c1,c2⟩:=Bool.and_eq_true_iff.1 hc
    rw[c1]at hq1
    rw[c2]at hq2
    have hDe:=nJ hD1 (by have:=of_decide_eq_true hq1;omega) hq2
    refine fL (.cons (k:=1) I<|.cons (k:=3) I<|.cons (k:=5) I<|Sub.nil _) ?_
    refine bn ?_
    first
     |exact⟨_,hmeas,out1,K2,P2,O2,q2,hDe,hok2,rfl,rfl⟩
     |exact⟨_,hmeas,out1,K1,P1,O1,n1,hDe,hok',rfl,rfl⟩
   ·have hfree:i=n∨cU T i=false:=by
     by_cases e:i=n
     ·exact .inl e
     ·right
      have:q1=true:=by rw[←hq1];simp;omega
      rw[this,Bool.true_and]at hc
      rw[hq2,hc]
    clear hq1 hq2 hc
    refine an<|ag (.a 3 I<|.v (ka I he1 rfl rfl (h1 i hiT)) I<|.a 2 I<|.k [1,3,5,8,66,67,68] I) ?_
    have hll:=dK T dir i
    have hD2:lT T D n dir out1 K1 (fun y=>bf O1 (y:Int)) (fun a=>bH T dir a=(i:Int)∧(a:Int)∉(ao T dir i).take 0):=⟨hD1.len,hD1.ge,hD1.root,hD1.kS,hD1.mono,hD1.eH,hD1.eU,fun a ha hs=>hD1.closed a ha (fun e=>hs ⟨e,by simp⟩),hD1.ub,hD1.pd⟩
    refine aw<|fx [1,3,5,8,66,67,68] I<|bx (fun r s=>∃j K P O q,j≤(ao T dir i).length∧lT T D n dir out1 K (fun y=>bf O (y:Int)) (fun a=>bH T dir a=(i:Int)∧(a:Int)∉(ao T dir i).take j)∧iH k q K P O∧r=(ao T dir i).length - j∧s=⟨[(1,.bY (dS T D n f1 f2 cap1 cap2) 0),(3,.own 0),(5,.ptr 1 0),(8,num d),(66,aL (ao T dir i)),(67,num (ao T dir i).length),(68,num j)],cL false (some (.row 3 1 k (aI out1))) k q K P O⟩) (ao T dir i).length ⟨0,K1,P1,O1,n1,by omega,hD2,hok',rfl,rfl⟩ ?_
    clear hD2 hok' hD1 K1 P1 O1 n1 hH' hmin hHi hD hok
    rintro r s ⟨j,K2,P2,O2,q2,hj,hD2,hok2,rfl,rfl⟩
    refine ag (.a 1 I<|.k [1,3,5,8,66,67,68,69] I)<|al<|ak I (fun hc=>?_) (fun hc=>?_)
    ·have hlt:j<(ao T dir i).length:=by have:=of_decide_eq_true hc;omega
     obtain⟨a,ha,ham,hay⟩:=ev T dir i j hlt
     obtain⟨m,hm⟩:=Int.eq_ofNat_of_zero_le (hS.x dir a ham).1
     have hmN:m<k:=by have:=(hS.x dir a ham).2;omega
     have hcb:=hS.cost a ham
     have hDl:D.length=0∨a<D.length:=by simp only[b8,decide_eq_true_eq]at hf;omega
     have hSS:∀b,b<2*T.aa.length→(bH T dir b=(i:Int)∧(b:Int)∉(ao T dir i).take j)→(bH T dir b=(i:Int)∧(b:Int)∉(ao T dir i).take (j+1))∨b=a:=fun b _ ⟨e1,e2⟩=>by
      by_cases e:b=a
      ·exact .inr e
      ·left
       refine⟨e1,fun hm'=>?_⟩
       rw[ef _ j 0 hlt,ha]at hm'
       rcases List.mem_append.1 hm' with h|h
       ·exact e2 h
       ·simp at h;exact e (by omega)
     have hayi:at' out1 (bH T dir a)=d:=by rw[hay];exact hati
     have hga:out1.getD m 0=at' out1 (m:Int):=by simp[at',List.getD_eq_getElem?_getD,show m<out1.length by omega]
     refine an<|al<|aw<|ag (.v (aY (j) I) I<|.v (aV I ((aN _ j hlt).trans (by rw[ha]))) I<|.a 1 I<|.k [1,3,5,8,11,66,67,68] I)<|ag (.a 3 I<|.v (ka I he2 rfl rfl (hm▸h2 a ham)) I<|.a 1 I<|.k [1,3,5,8,11,12,66,67,68] I)<|al ?_
     obtain⟨p1,hp1⟩:∃q,db D a=q:=⟨_,rfl⟩
     obtain⟨p2,hp2⟩:∃q,decide (0≤out1.getD m 0)=q:=⟨_,rfl⟩
     refine bF 86 (.raw (.bool (p1||p2))) [1,3,5,8,11,12,66,67,68] I ?_ ?_
     ·refine .a 3 I<|.c rfl (hp1▸ie D a hDl) I<|.a 1 I<|?_
      cases p1
      ·exact .a 2 I<|.v (aY (m) I) I<|.v (aV I (aN out1 m (by omega))) I<|.v (cJ I (hp2)) I<|.a 1 I<|.k [86,1,3,5,8,11,12,66,67,68] I
      ·exact .a 6 I<|.k [86,1,3,5,8,11,12,66,67,68] I
     refine ak I (fun hc=>?_) (fun hc=>?_)
     ·have hD3:=jD (S':=fun b=>bH T dir b=(i:Int)∧(b:Int)∉(ao T dir i).take (j+1)) hD2 hSS (fun hw=>.inl (by
       rcases Bool.or_eq_true_iff.1 hc with h|h
       ·rw[hw.1]at hp1;rw[h]at hp1;cases hp1
       ·rw[h]at hp2
        have h3:=of_decide_eq_true hp2
        rw[hga]at h3
        rw[hm,hayi]
        have:=htop m (by omega)
        exact⟨h3,by omega⟩))
      refine bn<|aD (.v (bw I) I<|.a 1 I<|.k [1,3,5,8,66,67,68] I) ?_
      first
       |exact⟨(ao T dir i).length - (j+1),by omega,j+1,_,P3,O3,n3,by omega,hD3,hok3,rfl,rfl⟩
       |exact⟨(ao T dir i).length - (j+1),by omega,j+1,K2,P2,O2,q2,by omega,hD3,hok2,rfl,rfl⟩
     ·obtain⟨c1,c2⟩:=Bool.or_eq_false_iff.1 hc
      rw[c1]at hp1
      rw[c2]at hp2
      have hmneg:at' out1 (m:Int)<0:=by have:=of_decide_eq_false hp2;rw[hga]at this;omega
      have hway:Net.Way T D n dir out1 a:=⟨hp1,by rw[hayi];exact hk0,by rw[hay,Int.toNat_natCast];rcases hfree with h|h;(exact .inl (by rw[h]));exact .inr h⟩
      refine an<|ag (.a 4 I<|.c rfl (eW T a ham) I<|.v (bw I) I<|.a 1 I<|.k [1,3,5,8,12,13,66,67,68] I) ?_
      obtain⟨p3,hp3⟩:∃q,(!decide (P2.getD m 0=0))=q:=⟨_,rfl⟩
      obtain⟨kv,hkv⟩:∃z,(if P2.getD m 0=0 then 0 else K2.getD m 0)=z:=⟨_,rfl⟩
      have hkc:=l6 K2 P2 O2 hok2.1.len hok2.2.2.1 (by omega) m hmN
      rw[hp3,hkv]at hkc
      refine ag (.a 2 I<|.v (iG I (ra (gX false _ hok2.2.2.1 hok2.1.len hok2.2.1) _) (hkc)) I<|.a 5 I<|.k [1,3,5,8,12,13,14,15,66,67,68] I) ?_
      obtain⟨p4,hp4⟩:∃q,decide (d+bg T a<kv)=q:=⟨_,rfl⟩
      refine bF 105 (.raw (.bool ((!p3)||p4))) [1,3,5,8,12,13,66,67,68] I ?_ ?_
      ·refine .a 3 I<|?_
       cases p3
       ·exact .a 4 I<|.k [105,1,3,5,8,12,13,66,67,68] I
       ·exact .a 2 I<|.v (cJ I (hp4)) I<|.a 1 I<|.k [105,1,3,5,8,12,13,66,67,68] I
      refine ak I (fun hc=>?_) (fun hc=>?_)
      ·have hnew:¬bf O2 (m:Int)∨at' out1 (bH T dir a)+bg T a<K2.getD m 0:=by
        rw[hayi]
        by_cases e:P2.getD m 0=0
        ·exact .inl ((hok2.1.zero hmN).1 e)
        ·right
         have h3:p3=true:=by rw[←hp3];simp only[e];rfl
         rw[h3]at hc
         have h4:p4=true:=by simpa using hc
         rw[h4]at hp4
         have:=of_decide_eq_true hp4
         rw[if_neg e]at hkv
         omega
       refine aR<|ax 3 I<|bh I I (aG.mono (iw (some (.row 3 1 k (aI out1))) (cP _ _) K2 P2 O2 hok2 (by omega) m hmN (d+bg T a)) (fun _ σ' h=>?_))
       obtain⟨b3,n3,P3,O3,rfl,hok3,hH3⟩:=h
       refine aO [1,3,5,8,66,67,68] I ?_
       refine i6 (cP _ _) (.cons 1 I Ren.pure<|.cons 3 I (Ren.own (i:=0) I)<|.cons 5 I (Ren.ptr (i:=1) I)<|.cons 8 I Ren.pure<|.cons 66 I Ren.pure<|.cons 67 I Ren.pure<|.cons 68 I Ren.pure<|.nil) ?_
       have hD3:=o0 (S':=fun b=>bH T dir b=(i:Int)∧(b:Int)∉(ao T dir i).take (j+1)) (H':=fun y=>bf O3 (y:Int)) hS hD2 ham hSS hway hm hmneg (fun x hx=>by rw[hayi];exact htop x hx) (by rw[hayi];omega) hnew (by rw[hok2.2.2.1];exact hmN) (fun y=>(hH3 y).trans ⟨fun h=>h.imp id (fun e=>by omega),fun h=>h.imp id (fun e=>by omega)⟩)
       rw[hayi]at hD3
       refine aD (.v (bw I) I<|.a 1 I<|.k [1,3,5,8,66,67,68] I) ?_
       first
        |exact⟨(ao T dir i).length - (j+1),by omega,j+1,_,P3,O3,n3,by omega,hD3,hok3,rfl,rfl⟩
        |exact⟨(ao T dir i).length - (j+1),by omega,j+1,K2,P2,O2,q2,by omega,hD3,hok2,rfl,rfl⟩
      ·obtain⟨c3,c4⟩:=Bool.or_eq_false_iff.1 hc
       have h3:p3=true:=by cases p3;cases c3;rfl
       rw[h3]at hp3
       rw[c4]at hp4
       have e:P2.getD m 0≠0:=fun e=>by rw[e]at hp3;cases hp3
       have hD3:=jD (S':=fun b=>bH T dir b=(i:Int)∧(b:Int)∉(ao T dir i).take (j+1)) hD2 hSS (fun hw=>.inr (by
        rw[hm,Int.toNat_natCast,hayi]
        refine⟨Classical.byContradiction fun hh=>e ((hok2.1.zero hmN).2 hh),?_⟩
        rw[if_neg e]at hkv
        have:=of_decide_eq_false hp4
        omega))
       refine an<|aD (.v (bw I) I<|.a 1 I<|.k [1,3,5,8,66,67,68] I) ?_
       first
        |exact⟨(ao T dir i).length - (j+1),by omega,j+1,_,P3,O3,n3,by omega,hD3,hok3,rfl,rfl⟩
        |exact⟨(ao T dir i).length - (j+1),by omega,j+1,K2,P2,O2,q2,by omega,hD3,hok2,rfl,rfl⟩
    ·have hje:j=(ao T dir i).length:=by have:=of_decide_eq_false hc;omega
     have hDe:lT T D n dir out1 K2 (fun y=>bf O2 (y:Int)) (fun _=>False):=⟨hD2.len,hD2.ge,hD2.root,hD2.kS,hD2.mono,hD2.eH,hD2.eU,fun a ha _=>hD2.closed a ha (fun⟨e1,e2⟩=>e2 (by rw[hje,List.take_length];exact(df T dir i a).2 ⟨ha,e1⟩)),hD2.ub,hD2.pd⟩
     refine fL (.cons (k:=1) I<|.cons (k:=3) I<|.cons (k:=5) I<|Sub.nil _) ?_
     refine bn ?_
     first
      |exact⟨_,hmeas,out1,K2,P2,O2,q2,hDe,hok2,rfl,rfl⟩
      |exact⟨_,hmeas,out1,K1,P1,O1,n1,hDe,hok',rfl,rfl⟩
end
section
open Go.RowKit cX Mem
structure fB (P:Program) (kt:TypeId) {κ:Type} [DecidableEq κ] (enc:κ→Value):Prop where
 uL:∀e a w,(Instr.checkKey e 10000 kt (enc a)).run P w= .ok () w
 eql:∀a b w,(Op.equal kt (enc a) (enc b)).run P w= .ok (decide (a=b)) w
 now:∃d,P.underlying kt=some d∧((∀a b,Instr.sameNow d (enc a) (enc b)=some (decide (a=b)))∨∀a b,Instr.sameNow d (enc a) (enc b)=none)
 bits:∀a,Instr.sameBits 10000 (enc a) (enc a)=true
section
variable {P:Program} {kt:TypeId} {κ:Type} [DecidableEq κ] {enc:κ→Value}
def dm(k:κ):List κ→Nat→Option Nat
 | [],_=>none
 |a::l,i=>if k=a then some i else dm k l (i+1)
theorem ez{k:κ}:∀ {l:List κ} {i j:Nat},dm k l i=some j→i≤j∧l[j - i]? =some k
 | [],i,j,h=>by cases h
 |a::l,i,j,h=>by
  simp only[dm]at h
  split at h
  ·rename_i he;cases h;subst he;simp
  ·obtain⟨h1,h2⟩:=ez h
   refine⟨by omega,?_⟩
   rw[show j - i=(j - (i+1))+1 by omega]
   simpa using h2
theorem nA{d:TypeDesc}(hn:∀a b,Instr.sameNow d (enc a) (enc b)=some (decide (a=b)))(k:κ):∀(ks:List κ) (es:List MapEntry) (i:Nat),es.map (·.key)=ks.map enc→
  Instr.findNow d (enc k) es i=some ((dm k ks i).bind fun j=>(es[j - i]?).map fun e=>(j,e.val))
 | [],[],i,_=>rfl
 | [],_::_,i,h=>by simp at h
 |_::_,[],i,h=>by simp at h
 |a::ks,e::es,i,h=>by
  simp only[List.map_cons,List.cons.injEq]at h
  simp only[Instr.findNow,h.1,hn,dm]
  by_cases hk:k=a
  ·rw[decide_eq_true hk,if_pos hk];simp
  ·rw[decide_eq_false hk,if_neg hk]
   simp only[nA hn k ks es (i+1) h.2]
   congr 1
   cases hf:dm k ks (i+1)with
   |none=>rfl
   |some j=>
    obtain⟨h1,_⟩:=ez hf
    simp only[Option.bind_some]
    rw[show j - i=(j - (i+1))+1 by omega]
    simp
theorem mN(hk:fB P kt enc)(k:κ)(w:World):∀(ks:List κ) (es:List MapEntry) (i:Nat),es.map (·.key)=ks.map enc→
  (Instr.findAsking kt (enc k) es i).run P w= .ok ((dm k ks i).bind fun j=>(es[j - i]?).map fun e=>(j,e.val)) w
 | [],[],i,_=>rfl
 | [],_::_,i,h=>by simp at h
 |_::_,[],i,h=>by simp at h
 |a::ks,e::es,i,h=>by
  simp only[List.map_cons,List.cons.injEq]at h
  simp only[Instr.findAsking,Sem.run_bind,h.1,hk.eql,Result.andThen_ok,dm]
  by_cases hka:k=a
  ·rw[if_pos (by simpa using hka),if_pos hka];simp
  ·rw[if_neg (by simpa using hka),if_neg hka,mN hk k w ks es (i+1) h.2]
   congr 1
   cases hf:dm k ks (i+1)with
   |none=>rfl
   |some j=>
    obtain⟨h1,_⟩:=ez hf
    simp only[Option.bind_some]
    rw[show j - i=(j - (i+1))+1 by omega]
    simp
theorem mW(hk:fB P kt enc)(k:κ)(w:World)(ks:List κ)(es:List MapEntry)(h:es.map (·.key)=ks.map enc):(Instr.findKey kt (enc k) es).run P w= .ok ((dm k ks 0).bind fun j=>(es[j]?).map fun e=>(j,e.val)) w:=by
 obtain⟨d,hd,hn|hn⟩:=hk.now
 ·have:=nA hn k ks es 0 h
  simp only[Instr.findKey,Sem.run_bind,run_underlying hd,Result.andThen_ok,this]
  simp
 ·have ha:=mN hk k w ks es 0 h
  simp only[Instr.findKey,Sem.run_bind,run_underlying hd,Result.andThen_ok]
  cases es with
  |nil=>
   have:ks=[]:=by cases ks with|nil=>rfl|cons=>simp at h
   subst this
   rfl
  |cons e es=>
   cases ks with
   |nil=>simp at h
   |cons a ks=>
    simp only[List.map_cons,List.cons.injEq]at h
    have h0:Instr.findNow d (enc k) (e::es) 0=none:=by simp only[Instr.findNow,h.1,hn]
    rw[h0]
    simpa using ha
def dU(enc:κ→Value)(l:List (κ×PV)):List (Value×PV):=l.map fun x=>(enc x.1,x.2)
def gm(k:κ):List (κ×PV)→Option PV
 | []=>none
 |(a,p)::l=>if k=a then some p else gm k l
def gH(k:κ)(p:PV):List (κ×PV)→List (κ×PV)
 | []=>[(k,p)]
 |(a,q)::l=>if k=a then(a,p)::l else(a,q)::gH k p l
theorem od{k:κ}{l:List (κ×PV)}:gm k l=(dm k (l.map (·.1)) 0).bind fun j=>(l[j]?).map (·.2):=by
 suffices h:∀(i:Nat),gm k l=(dm k (l.map (·.1)) i).bind fun j=>(l[j - i]?).map (·.2) by simpa using h 0
 induction l with
 |nil=>intro i;rfl
 |cons x l ih=>
  intro i
  obtain⟨a,p⟩:=x
  simp only[gm,List.map_cons,dm]
  split
  ·simp
  ·rw[ih (i+1)]
   cases hf:dm k (l.map (·.1)) (i+1)with
   |none=>rfl
   |some j=>
    obtain⟨h1,_⟩:=ez hf
    simp only[Option.bind_some]
    rw[show j - i=(j - (i+1))+1 by omega]
    simp
theorem pZ{k:κ}{p:PV}{l:List (κ×PV)}:gH k p l=match dm k (l.map (·.1)) 0 with|some j=>l.set j (k,p)|none=>l++[(k,p)]:=by
 suffices h:∀(i:Nat),gH k p l=match dm k (l.map (·.1)) i with|some j=>l.set (j - i) (k,p)|none=>l++[(k,p)] by simpa using h 0
 induction l with
 |nil=>intro i;rfl
 |cons x l ih=>
  intro i
  obtain⟨a,q⟩:=x
  simp only[gH,List.map_cons,dm]
  split
  ·rename_i he;subst he;simp
  ·rw[ih (i+1)]
   cases hf:dm k (l.map (·.1)) (i+1)with
   |none=>rfl
   |some j=>
    obtain⟨h1,_⟩:=ez hf
    simp only
    rw[show j - i=(j - (i+1))+1 by omega]
    simp
def pJ(p:PV)(v:Value):Prop:=∀E w u,bK E w u p→u=v
theorem mz(v:Value):pJ (.raw v) v:=fun _ _ _ h=>by cases h;rfl
def oy(P:Program)(mt:TypeId):Option (TypeId×TypeId):=match P.underlying mt with|some (.map k e)=>some (k,e)|_=>none
theorem eP{mt kt et:TypeId}(h:oy P mt=some (kt,et)):P.underlying mt=some (.map kt et):=by
 unfold oy at h
 split at h
 ·rename_i hu;cases h;exact hu
 ·cases h
def uK(P:Program)(t:TypeId):Option Value:=match P.info? t with|some i=>i.zero|none=>none
theorem mL{et:TypeId}{z:Value}(h:uK P et=some z)(w:World):(zeroValue et).run P w= .ok z w:=by
 unfold uK at h
 split at h
 ·rename_i i hi;simp[zeroValue,typeInfo,hi,h]
 ·cases h
variable {σ:ba} {t:bo} {o:Oper}
theorem qn(hK:fB P kt enc){F:Nat→Prop}{base:Nat}{E:Env}{w:World}{i mt et:Nat}{l:List (κ×PV)}{v z:Value}(hS:Sat F base σ E w)(hm:oy P mt=some (kt,et))(hz:uK P et=some z)(hv:bK E w v (.own i))(hi:σ[i]? =some (some (.mp (dU enc l))))(k:κ)(ok:Bool):
  ∃u,(Instr.lookup mt v (enc k) ok).run P w= .ok (if ok then .tuple #[u,.bool (gm k l).isSome] else u) w∧bK E w u ((gm k l).getD (.raw z)):=by
 cases hv with
 |own _ hiL _ hat _=>
  obtain⟨r,es,ck,hr,hb,hheap,hkey,hval⟩:=hS.blk i _ hi
  rw[hat]at hr
  subst hr
  have hkey':es.toList.map (·.key)=(l.map (·.1)).map enc:=by rw[hkey];simp[dU]
  have hf:=mW hK k w (l.map (·.1)) es.toList hkey'
  have hvl:(dU enc l).map (·.2)=l.map (·.2):=by simp[dU]
  rw[hvl]at hval
  have hlk:=od (k:=k) (l:=l)
  cases hfi:dm k (l.map (·.1)) 0 with
  |none=>
   rw[hfi]at hf hlk
   simp only[Option.bind_none]at hf hlk
   refine⟨z,?_,by rw[hlk];exact .raw z⟩
   simp only[Instr.lookup,Sem.run_bind,run_underlying (eP hm),Result.andThen_ok,MapKept.run_getObj_map hheap,Sem.run_pure,hK.uL,hf,mL hz,hlk]
   rfl
  |some j=>
   obtain⟨_,hj⟩:=ez hfi
   simp only[Nat.sub_zero]at hj
   have hjl:j<l.length:=by have:=(List.getElem?_eq_some_iff.1 hj).1;simpa using this
   have hje:j<es.toList.length:=by have:=congrArg List.length hkey';simp at this;rw[Array.length_toList];omega
   rw[hfi]at hf hlk
   simp only[Option.bind_some,List.getElem?_eq_getElem hje,List.getElem?_eq_getElem hjl,Option.map_some]at hf hlk
   refine⟨es.toList[j].val,?_,?_⟩
   ·simp only[Instr.lookup,Sem.run_bind,run_underlying (eP hm),Result.andThen_ok,MapKept.run_getObj_map hheap,Sem.run_pure,hK.uL,hf,hlk]
    rfl
   ·rw[hlk]
    exact hval.2 j _ _ (by rw[List.getElem?_map,List.getElem?_eq_getElem hje];rfl) (by simp[hjl])
theorem sw(hK:fB P kt enc){i mt et:Nat}{x ix:Operand}{l:List (κ×PV)}{z:Value}{k:κ}{pk r:PV}(ho:o.op= .lookup mt x ix false)(hm:oy P mt=some (kt,et))(hz:uK P et=some z)(hx:aj t x=some (.own i))(hi:σ[i]? =some (some (.mp (dU enc l))))(hp:aj t ix=some pk)(hk:pJ pk (enc k))(hr:(gm k l).getD (.raw z)=r):aH P σ t o r:=by
 intro F base E ρ w hρ hS hT
 have h1:=ae hρ hT hx
 have h2:=hk _ _ _ (ae hρ hT hp)
 obtain⟨u,hu,hR⟩:=qn hK hS hm hz h1 hi k false
 simp only[execOp,ho,h2,Sem.run_bind,hu,Result.andThen_ok,Sem.run_pure,Bool.false_eq_true,if_false]
 exact aJ (by rw[←hr];exact hR)
theorem iz{α:Type}(a:Array α)(i j:Nat)(v:α):(a.setIfInBounds i v)[j]? =if i=j∧i<a.size then some v else a[j]? :=by
 rw[Array.getElem?_setIfInBounds]
 by_cases h:i=j
 ·subst h
  by_cases h2:i<a.size
  ·simp[h2]
  ·simp[h2]
 ·simp[h]
theorem rv(hK:fB P kt enc){i mt et:Nat}{x ix y:Operand}{l:List (κ×PV)}{k:κ}{pk p:PV}(ho:o.op= .mapUpdate mt x ix y)(hm:oy P mt=some (kt,et))(hx:aj t x=some (.own i))(hi:σ[i]? =some (some (.mp (dU enc l))))(hp:aj t ix=some pk)(hk:pJ pk (enc k))(hy:aj t y=some p):
  dN P σ t o (.raw undef) (σ.set i (some (.mp (dU enc (gH k p l))))):=by
 intro F base E ρ w hρ hS hT
 have h1:=ae hρ hT hx
 have h2:=hk _ _ _ (ae hρ hT hp)
 have h3:=ae hρ hT hy
 generalize hz:ρ x=v at h1
 cases h1 with
 |own _ hiL _ hat _=>
  obtain⟨r,es,ck,hr,hb,hheap,hkey,hval⟩:=hS.blk i _ hi
  have hbk:az (E.at_ i)=some r:=by rw[hr];rfl
  have hsz:r<w.heap.size:=(Array.getElem?_eq_some_iff.1 hheap).1
  rw[hat]at hr
  subst hr
  have hkey':es.toList.map (·.key)=(l.map (·.1)).map enc:=by rw[hkey];simp[dU]
  have hf:=mW hK k w (l.map (·.1)) es.toList hkey'
  have hvl:(dU enc l).map (·.2)=l.map (·.2):=by simp[dU]
  rw[hvl]at hval
  have fin:∀(es':Array MapEntry) (ck':Nat),(Instr.mapUpdate mt (.map (some r)) (enc k) (ρ y)).run P w= .ok () {w with heap:=w.heap.setIfInBounds r (.map es' ck')}→
    es'.toList.map (·.key)=(gH k p l).map (fun a=>enc a.1)→aB E w (es'.toList.map (·.val)) ((gH k p l).map (·.2))→
    ∃v w' E',((execOp ρ o).run P w= .ok (.value v) w'∨(v=undef∧(execOp ρ o).run P w= .ok .skip w'))∧Sat F base (σ.set i (some (.mp (dU enc (gH k p l))))) E' w'∧bJ E w E' w'∧Below base w w'∧bK E' w' v (.raw undef):=fun es' ck' hrun hk' hv'=>by
   have oth:∀j,j<w.heap.size→j≠r→({w with heap:=w.heap.setIfInBounds r (.map es' ck')}:World).heap[j]? =w.heap[j]? :=fun j _ hj=>by
    show(w.heap.setIfInBounds r (.map es' ck'))[j]? =_
    rw[iz,if_neg (by rintro⟨rfl,_⟩;exact hj rfl)]
   have hs':w.heap.size≤({w with heap:=w.heap.setIfInBounds r (.map es' ck')}:World).heap.size:=by simp
   have hrM:E.M r:=(hS.mm r).2 (.inr ⟨i,_,hi,hbk⟩)
   have g:bJ E w E {w with heap:=w.heap.setIfInBounds r (.map es' ck')}:=⟨Nat.le_refl _,fun _ _=>rfl,fun _ _ h=>h,hs',fun j hj hM=>oth j hj (fun e=>hM (by rw[e];exact hrM))⟩
   have hn:=hS.qh (bi':=.mp (dU enc (gH k p l))) hi hbk hs' oth ⟨r,es',ck',hat,hb,by
     show(w.heap.setIfInBounds r (.map es' ck'))[r]? =_
     rw[iz,if_pos ⟨rfl,hsz⟩],by rw[hk'];simp[dU],by
     have:(dU enc (gH k p l)).map (·.2)=(gH k p l).map (·.2):=by simp[dU]
     rw[this];exact hv'.goes g⟩
   refine⟨undef,_,E,.inr ⟨rfl,?_⟩,hn.1,hn.2,⟨rfl,rfl,rfl,hs',fun j hj=>oth j (Nat.lt_of_lt_of_le hj hS.bl) (by omega)⟩,.raw _⟩
   simp only[execOp,ho,hz,h2,Sem.run_bind,hrun,Result.andThen_ok,Sem.run_pure]
  have hsm:=pZ (k:=k) (p:=p) (l:=l)
  cases hfi:dm k (l.map (·.1)) 0 with
  |none=>
   rw[hfi]at hf hsm
   simp only[Option.bind_none]at hf hsm
   refine fin (es.push {key:=enc k,val:=ρ y,born:=ck}) (ck+1) ?_ ?_ ?_
   ·simp only[Instr.mapUpdate,Sem.run_bind,run_underlying (eP hm),Result.andThen_ok,MapKept.run_getObj_map hheap,hK.uL,hf,MapKept.run_setObj_map _ hheap]
   ·rw[hsm];simp[hkey',List.map_map,Function.comp_def]
   ·rw[hsm]
    simp only[Array.toList_push,List.map_append,List.map_cons,List.map_nil]
    exact hval.append (aB.cons h3 (aB.nil _ _))
  |some j=>
   obtain⟨_,hj⟩:=ez hfi
   simp only[Nat.sub_zero]at hj
   have hjl:j<l.length:=by have:=(List.getElem?_eq_some_iff.1 hj).1;simpa using this
   have hje:j<es.toList.length:=by have:=congrArg List.length hkey';simp at this;rw[Array.length_toList];omega
   have hje':j<es.size:=by simpa using hje
   have hlj:l[j].1=k:=by have:=List.getElem?_eq_some_iff.1 hj;obtain⟨h,e⟩:=this;simpa using e
   have hkj:es[j].key=enc k:=by
    have:=congrArg (·[j]?) hkey'
    simp only[List.getElem?_map,List.getElem?_eq_getElem hje,List.getElem?_eq_getElem hjl,Option.map_some,Option.some.injEq,hlj]at this
    simpa using this
   rw[hfi]at hf hsm
   simp only[Option.bind_some,List.getElem?_eq_getElem hje,Option.map_some]at hf hsm
   refine fin (es.modify j fun e=> {e with key:=enc k,val:=ρ y}) ck ?_ ?_ ?_
   ·have hks:(Instr.keyThatStays ((Option.map (fun x=>x.key) es[j]?).getD (enc k)) (enc k)).run P w= .ok (enc k) w:=by
     rw[Array.getElem?_eq_getElem hje',Option.map_some,Option.getD_some,hkj]
     simp only[Instr.keyThatStays,hK.bits,if_true,Sem.run_pure]
    simp only[Instr.mapUpdate,Sem.run_bind,run_underlying (eP hm),Result.andThen_ok,MapKept.run_getObj_map hheap,hK.uL,hf,hks,MapKept.run_setObj_map _ hheap]
   ·rw[hsm]
    refine List.ext_getElem? fun n=>?_
    simp only[List.getElem?_map,Array.getElem?_toList,Array.getElem?_modify,List.getElem?_set]
    by_cases hn:j=n
    ·subst hn
     simp[hje',hjl]
    ·have:=congrArg (·[n]?) hkey'
     simp only[List.getElem?_map,Array.getElem?_toList]at this
     simp only[if_neg hn,this,Option.map_map,Function.comp_def]
   ·rw[hsm]
    have hR:=hval.set j h3
    have e1:(es.modify j fun e=> {e with key:=enc k,val:=ρ y}).toList.map (·.val)=(es.toList.map (·.val)).set j (ρ y):=by
     refine List.ext_getElem? fun n=>?_
     simp only[List.getElem?_map,Array.getElem?_toList,Array.getElem?_modify,List.getElem?_set]
     by_cases hn:j=n
     ·subst hn
      simp[hje']
     ·simp only[if_neg hn]
    have e2:(l.set j (k,p)).map (·.2)=(l.map (·.2)).set j p:=by rw[List.map_set]
    rw[e1,e2]
    exact hR
omit [DecidableEq κ] in
theorem lj{mt:TypeId}(enc:κ→Value)(ho:o.op= .makeMap mt none):dN P σ t o (.own σ.length) (σ++[some (.mp (dU enc ([]:List (κ×PV))))]):=by
 intro F base E ρ w hρ hS hT
 have hr:(execOp ρ o).run P w= .ok (.value (.map (some w.heap.size))) (w.alloc (.map #[] 0)):=by
  simp[execOp,ho,Instr.makeMap]
 have hE:Ext w (w.alloc (.map #[] 0)):=(Ext.refl w).alloc _
 have hp:=hS.push hE (v:=.map (some w.heap.size)) (blk:=.mp (dU enc ([]:List (κ×PV)))) (fun b h=>by simp[az]at h;omega) ⟨w.heap.size,#[],0,rfl,hS.bl,heap_alloc_new _ _,rfl,aB.nil _ _⟩
 exact⟨_,_,_,.inl hr,hp.1,hp.2,Below.eX hE hS.bl,.own σ.length (by simp[Env.push,hS.len]) _ (by simp[Env.push,hS.len]) I⟩
end
section
variable {P:Program} {σ:ba} {t:bo} {o:Oper} {N L:Nat}
def oO(P:Program)(ty:TypeId):Bool:=match P.underlying ty with|some (.slice _)=>true|_=>false
theorem lh{ty:TypeId}(h:oO P ty=true):∃e,P.underlying ty=some (.slice e):=by
 unfold oO at h
 split at h
 ·rename_i e hu;exact⟨e,hu⟩
 ·cases h
theorem j3{x y:Operand}{ty tz:TypeId}{n:Nat}{xs:List PV}(ho:o.op= .binOp .eql ty x y tz)(hk:oO P ty=true)(hx:aj t x=some (.slice n xs))(hy:aj t y=some (.raw (.slice none 0 0)))(hn:0<n):aH P σ t o (.raw (.bool false)):=by
 obtain⟨e,hu⟩:=lh hk
 intro F base E ρ w hρ _ hT
 have h1:=ae hρ hT hx
 have h2:=ae hρ hT hy
 generalize hz:ρ x=z at h1
 generalize hz':ρ y=z' at h2
 cases h2
 have hv:∃a c,z= .slice (some a) n c:=by
  cases h1 with
  |cd=>omega
  |empty=>omega
  |slice b off _ c cs _ h0=>exact⟨_,_,rfl⟩
 obtain⟨a,c,rfl⟩:=hv
 have:=Lib.run_eql_slice_nil w ty e (some a) n c 0 0 hu
 have hg:∀a n c b m d,(eqGuard .eql ty x y (.slice a n c) (.slice b m d)).run P w= .ok () w:=fun _ _ _ _ _ _=>rfl
 simp only[execOp,ho,hz,hz',Sem.run_bind,Sem.run_pure,Result.andThen_ok,hg,this]
 exact aJ (.raw _)
end
end
end PW
end Go.Proofs.YteikppbedmmdnaaDoor
