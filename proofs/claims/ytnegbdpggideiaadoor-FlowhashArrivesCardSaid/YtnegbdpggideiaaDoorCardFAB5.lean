/- Texts of the proof, part 5. -/
import Derived.Test.YtnegbdpggideiaaDoorCardFAB4
set_option linter.unusedVariables false
set_option linter.unusedSimpArgs false
set_option maxRecDepth 10000
set_option maxHeartbeats 1000000
namespace Go.Proofs.YtnegbdpggideiaaDoor
namespace PW
open Go.RowKit aN Mem Net Heap
def dY(b:Bool)(d:Option cB)(N n:Nat)(K P O:List Int):bo:=
 match b with
 |false=>[d,some (.cells 158 [.own 2,.own 3,.own 4]),some (.row 3 1 N (aG K)),some (.row 3 1 N (aG P)),some (.row 3 1 n (aG O))]
 |true=>[d,some (.cells 158 [.own 2,.own 3,.own 5]),some (.row 3 1 N (aG K)),some (.row 3 1 N (aG P)),none,some (.row 3 1 n (aG O))]
def xR:cB→Prop
 | .cells _ xs=>ao xs
 | .row _ _ _ xs=>ao xs
 | .mp kv=>ao (kv.map (·.2))
def fR(d:Option cB):Prop:=∀b,d=some b→xR b
theorem ft.same{fs:List Nat}{σ σ':bo}{js:List Nat}{j:Nat}{d:Option cB}(hd:fR d)(h:σ[j]? =some d)(hs:ft fs σ σ' js):ft fs σ (d::σ') (j::js):=by
 cases d with
 |none=>exact .gone hs
 |some b=>
  have hb:=hd b rfl
  cases b with
  |cells ty xs=>haveI:ao xs:=hd _ rfl;exact .kept h (.cells aL.pure) hs
  |row e s n xs=>haveI:ao xs:=hd _ rfl;exact .kept h (.row aL.pure) hs
  |mp kv=>haveI:ao (kv.map (·.2)):=hd _ rfl;exact .kept h .mp hs
def nE(K P O:List Int):PV:=.b6 [aJ K,aJ P,aJ O] 0
theorem ln(b:Bool)(d:Option cB){N n:Nat}{K P O:List Int}(hK:K.length=N)(hP:P.length=N)(hO:O.length=n):ay (dY b d N n K P O) (.ptr 1 0) (nE K P O):=by
 subst hK;subst hO
 unfold nE aJ
 rw[hP]
 cases b<;>exact ay.wF rfl (al.cons (ay.gZ rfl al.pure) (al.cons (ay.gZ rfl al.pure) (al.cons (ay.gZ rfl al.pure) al.nil)))
theorem fr{N:Nat}{P O:List Int}(h:bP N P O){p:Nat}(hp:p<O.length):∃i:Nat,O.getD p 0=(i:Int)∧i<N:=by
 obtain⟨h1,h2,_⟩:=h.item p hp
 exact⟨(O.getD p 0).toNat,by omega,by omega⟩
theorem kF{N:Nat}(K P O:List Int)(hP:bP N P O)(hK:K.length=N)(hN:N≤65536)(p q:Nat)(hp:p<O.length)(hq:q<O.length):
  Can Tryd.prog 116 [nE K P O,num p,num q] (· =flag (decide (rk K O p<rk K O q))):=by
 obtain⟨i,hi,hi'⟩:=fr hP hp
 obtain⟨j,hj,hj'⟩:=fr hP hq
 have hr:decide (rk K O p<rk K O q)=if K.getD i 0=K.getD j 0 then decide ((i:Int)<(j:Int)) else decide (K.getD i 0<K.getD j 0):=by
  unfold rk
  rw[hi,hj,iY (by omega) (by omega) (by omega) (by omega),Int.toNat_natCast,Int.toNat_natCast]
 refine aI Tryd.func116 rfl Tryd.ntmps116 rfl<|af (.a 1 rfl<|.k [0,1,2] rfl)<|gC mixed (by kernel_rfl) (.a 5 rfl<|.v [12,13] (aR (p) rfl) rfl rfl<|.v [14] (aO rfl ((au O p hp).trans (by rw[hi]))) rfl rfl<|.a 5 rfl<|.v [19,20] (aR (q) rfl) rfl rfl<|.v [21] (aO rfl ((au O q hq).trans (by rw[hj]))) rfl rfl<|.a 2 rfl<|.k [0,7,8] rfl) ?_
 refine ak<|gC mixed (by kernel_rfl) (.a 5 rfl<|.v [26,27] (aR (i) rfl) rfl rfl<|.v [28] (aO rfl (au K i (by omega))) rfl rfl<|.a 5 rfl<|.v [33,34] (aR (j) rfl) rfl rfl<|.v [35] (aO rfl (au K j (by omega))) rfl rfl<|.a 1 rfl<|.k [0,7,8,37] rfl) ?_
 refine ag rfl (fun hc=>?_) (fun hc=>?_)
 ·have:=of_decide_eq_true hc
  rw[if_neg this]at hr
  refine gC mixed (by kernel_rfl) (.a 5 rfl<|.v [41,42] (aR (i) rfl) rfl rfl<|.v [43] (aO rfl (au K i (by omega))) rfl rfl<|.a 5 rfl<|.v [48,49] (aR (j) rfl) rfl rfl<|.v [50] (aO rfl (au K j (by omega))) rfl rfl<|.a 2 rfl<|.k [6] rfl) ?_
  exact an<|⟨_,_,ax.of rfl,ay.pure,by rw[hr];rfl⟩
 ·have:=of_decide_eq_false hc
  rw[if_pos (by simpa using this)]at hr
  exact ai<|af (.a 4 rfl<|.k [6] rfl)<|an<|⟨_,_,ax.of rfl,ay.pure,by rw[hr];rfl⟩
theorem kn{N n:Nat}(b:Bool)(d:Option cB)(K P O:List Int)(hP:bP N P O)(hO:O.length=n)(hN:N≤65536)(p q:Nat)(hp:p<O.length)(hq:q<O.length):
  bQ Tryd.prog 117 [.ptr 1 0,num p,num q] (dY b d N n K P O) (fun _ σ'=>σ'=dY b d N n K (dD P O p q) (cr O p q)):=by
 obtain⟨i,hi,hi'⟩:=fr hP hp
 obtain⟨j,hj,hj'⟩:=fr hP hq
 have hlen:=eE hP
 have hPl:=hP.len
 have gp:(cr O p q).getD p 0=j:=by
  rw[b8 O p q p hp hq]
  by_cases h:p=q
  ·rw[if_pos h];subst h;omega
  ·rw[if_neg h,if_pos rfl,hj]
 have gq:(cr O p q).getD q 0=i:=by rw[b8 O p q q hp hq,if_pos rfl,hi]
 have hsw:cr O p q=(O.set p (j:Int)).set q (i:Int):=by unfold cr;rw[hi,hj]
 rw[hsw]at gp gq
 refine cL Tryd.func117 rfl Tryd.ntmps117 rfl ?_
 cases b
 all_goals
  refine jY 25 20 mixed (
   .val [0] rfl (bp rfl) rfl rfl<|
   .val [6] rfl (bp rfl) rfl rfl<|
   .val [7] rfl (bp rfl) rfl rfl<|
   .val [8] rfl (bp rfl) rfl rfl<|
   .val [1] rfl (bp rfl) rfl rfl<|
   .val [0] rfl (bp rfl) rfl rfl<|
   .val [11] rfl (bp rfl) rfl rfl<|
   .val [12] rfl (bp rfl) rfl rfl<|
   .val [13] rfl (bp rfl) rfl rfl<|
   .late [2] rfl (tE rfl rfl) inferInstance rfl rfl<|
   .val [0] rfl (bp rfl) rfl rfl<|
   .val [16] rfl (bp rfl) rfl rfl<|
   .val [17] rfl (bp rfl) rfl rfl<|
   .val [18] rfl (bp rfl) rfl rfl<|
   .val [2] rfl (bp rfl) rfl rfl<|
   .val [19,20] rfl (aR (q) rfl) rfl rfl<|
   .val [21] rfl (aO rfl ((au O q hq).trans (by rw[hj]))) rfl rfl<|
   .val [0] rfl (bp rfl) rfl rfl<|
   .val [23] rfl (bp rfl) rfl rfl<|
   .val [24] rfl (bp rfl) rfl rfl<|
   .val [25] rfl (bp rfl) rfl rfl<|
   .val [1] rfl (bp rfl) rfl rfl<|
   .val [26,27] rfl (aR (p) rfl) rfl rfl<|
   .val [28] rfl (aO rfl ((au O p hp).trans (by rw[hi]))) rfl rfl<|
   .val [9,10] rfl (aR (p) rfl) rfl rfl<|
   .nil) (by kernel_rfl) rfl rfl (bm (ks:=[0,1,2,14,15,22,29,30]) rfl) ?_
  refine bE ((by first|exact bh rfl (cb.tk.get rfl) rfl rfl rfl (by first|omega|(simp;omega))|exact bc rfl (cb.tk.get rfl) rfl rfl rfl (by first|omega|(simp;omega)))) rfl rfl<|bZ (aR (q) rfl) rfl<|bE ((by first|exact bh rfl (cb.tk.get rfl) rfl rfl rfl (by first|omega|(simp;omega))|exact bc rfl (cb.tk.get rfl) rfl rfl rfl (by first|omega|(simp;omega)))) rfl rfl<|aQ [0,1,2] rfl ?_
  refine jY 14 20 mixed (
   .val [0] rfl (bp rfl) rfl rfl<|
   .val [32] rfl (bp rfl) rfl rfl<|
   .val [33] rfl (bp rfl) rfl rfl<|
   .val [34] rfl (bp rfl) rfl rfl<|
   .val [0] rfl (bp rfl) rfl rfl<|
   .val [36] rfl (bp rfl) rfl rfl<|
   .val [37] rfl (bp rfl) rfl rfl<|
   .val [38] rfl (bp rfl) rfl rfl<|
   .val [1] rfl (bp rfl) rfl rfl<|
   .val [39,40] rfl (aR (p) rfl) rfl rfl<|
   .val [41] rfl (aO rfl ((au ((O.set p (j:Int)).set q (i:Int)) p (by simpa using hp)).trans (by rw[gp]))) rfl rfl<|
   .val [1] rfl (bp rfl) rfl rfl<|
   .val [43] rfl (bf rfl) rfl rfl<|
   .val [35,42] rfl (aR (j) rfl) rfl rfl<|
   .nil) (by kernel_rfl) rfl rfl (bm (ks:=[0,2,44,45]) rfl) ?_
  refine bE ((by first|exact bh rfl (cb.tk.get rfl) rfl rfl rfl (by first|omega|(simp;omega))|exact bc rfl (cb.tk.get rfl) rfl rfl rfl (by first|omega|(simp;omega)))) rfl rfl<|aQ [0,2] rfl ?_
  refine jD 14 20 mixed (
   .val [0] rfl (bp rfl) rfl rfl<|
   .val [46] rfl (bp rfl) rfl rfl<|
   .val [47] rfl (bp rfl) rfl rfl<|
   .val [48] rfl (bp rfl) rfl rfl<|
   .val [0] rfl (bp rfl) rfl rfl<|
   .val [50] rfl (bp rfl) rfl rfl<|
   .val [51] rfl (bp rfl) rfl rfl<|
   .val [52] rfl (bp rfl) rfl rfl<|
   .val [2] rfl (bp rfl) rfl rfl<|
   .val [53,54] rfl (aR (q) rfl) rfl rfl<|
   .val [55] rfl (aO rfl ((au ((O.set p (j:Int)).set q (i:Int)) q (by simpa using hq)).trans (by rw[gq]))) rfl rfl<|
   .val [2] rfl (bp rfl) rfl rfl<|
   .val [57] rfl (bf rfl) rfl rfl<|
   .val [49,56] rfl (aR (i) rfl) rfl rfl<|
   .nil) (by kernel_rfl) rfl rfl (bm (ks:=[58,59]) rfl) ?_
  refine bE ((by first|exact bh rfl (cb.tk.get rfl) rfl rfl rfl (by first|omega|(simp;omega))|exact bc rfl (cb.tk.get rfl) rfl rfl rfl (by first|omega|(simp;omega)))) rfl rfl<|aQ [] rfl ?_
  refine⟨_,ax.of rfl,?_⟩
  unfold dD
  rw[hi,hj,hsw]
  rfl
theorem ug(p:Nat)(h:0<p):((p:Int) - 1).tdiv 2=((par p:Nat):Int):=by
 rw[Int.tdiv_eq_ediv_of_nonneg (by omega)];unfold par;omega
theorem qu{σ:bo}{K P O:List Int}(h:ay σ (.ptr 1 0) (nE K P O))(p q:Int):al σ ([.ptr 1 0,num p,num q]++[]) [nE K P O,num p,num q]:=al.cons h (al.cons ay.pure (al.cons ay.pure al.nil))
theorem ir{N n:Nat}(b:Bool)(d:Option cB)(K P O:List Int)(hP:bP N P O)(hO:O.length=n)(hK:K.length=N)(hN:N≤65536)(p:Nat)(hp:p<n)(hL:iW (rk K O) n p):
  bQ Tryd.prog 114 [.ptr 1 0,num p] (dY b d N n K P O) (fun _ σ'=>∃P' O',σ'=dY b d N n K P' O'∧bP N P' O'∧O'.length=n∧kT (rk K O') n∧∀i,cj O' i↔cj O i):=by
 have hlen:=eE hP
 refine cL Tryd.func114 rfl Tryd.ntmps114 rfl ?_
 cases b
 all_goals
  refine ak<|aq<|iC [0,1] rfl<|br (fun r s=>∃P' O' p',bP N P' O'∧O'.length=n∧iW (rk K O') n p'∧p'<n∧(∀i,cj O' i↔cj O i)∧r=p'∧s=⟨[(0,.ptr 1 0),(1,num p')],dY _ d N n K P' O'⟩) p ⟨P,O,p,hP,hO,hL,hp,fun _=>Iff.rfl,rfl,rfl⟩ ?_
  rintro r s ⟨P',O',p',hP',hO',hL',hp',hH',rfl,rfl⟩
  refine ak ?_
  obtain⟨q1,hq1⟩:∃q,decide ((0:Int)<(r:Int))=q:=⟨_,rfl⟩
  obtain⟨q2,hq2⟩:∃q,decide (rk K O' r<rk K O' (par r))=q:=⟨_,rfl⟩
  refine aY 15 (.raw (.bool (q1&&q2))) [0,1] rfl ?_ ?_
  ·refine .a 1 rfl<|.v (bT rfl (hq1)) rfl<|.a 1 rfl<|?_
   cases q1
   ·exact .a 7 rfl<|.k [15,0,1] rfl
   ·exact .a 3 rfl<|.v (bf rfl) rfl<|.v (ig rfl rfl rfl (by decide) (ug r (by have:=of_decide_eq_true hq1;omega)) (by unfold In64 par;omega)) rfl<|.v (wC rfl (qu (ln _ d hK hP'.len hO') _ _) (hq2▸kF K P' O' hP' hK hN r (par r) (by omega) (by have:=of_decide_eq_true hq1;have:=cC (q:=r) (by omega);omega))) rfl<|.a 1 rfl<|.k [15,0,1] rfl
  refine ag rfl (fun hc=>?_) (fun hc=>?_)
  ·obtain⟨c1,c2⟩:=Bool.and_eq_true_iff.1 hc
   rw[c1]at hq1
   rw[c2]at hq2
   have hr0:0<r:=by have:=of_decide_eq_true hq1;omega
   have hlt:=of_decide_eq_true hq2
   have hpl:=cC hr0
   refine ai<|aq<|aX<|av 3 rfl<|bZ (bf rfl) rfl<|bZ (ig rfl rfl rfl (by decide) (ug r hr0) (by unfold In64;omega)) rfl<|cG rfl rfl (bQ.mono (kn _ d K P' O' hP' hO' hN r (par r) (by omega) (by omega)) (fun _ σ' h=>?_))
   subst h
   refine aQ [0,1] rfl ?_
   refine aF (.a 1 rfl<|.v (bf rfl) rfl<|.v (ig rfl rfl rfl (by decide) (ug r hr0) (by unfold In64;omega)) rfl<|.a 1 rfl<|.k [0,1] rfl) ?_
   refine⟨par r,hpl,dD P' O' r (par r),cr O' r (par r),par r,hP'.swap (by omega) (by omega),by rw[dG];exact hO',?_,by omega,fun i=>(gH O' r (par r) (by omega) (by omega) i).trans (hH' i),rfl,rfl⟩
   rw[qh K O' r (par r) (by omega) (by omega)]
   exact sW hL' hr0 hp' hlt
  ·have hdn:mj (rk K O') n r:=qd hL' (by
    by_cases h0:r=0
    ·exact .inl h0
    ·refine .inr ?_
     have h1:q1=true:=by rw[←hq1];simp;omega
     rw[h1]at hc
     simp only[Bool.true_and]at hc
     rw[hc]at hq2
     have:=of_decide_eq_false hq2
     omega)
   clear hL' hq1 hq2 hc
   refine bn<|aq<|iC [0,1] rfl<|br (fun r s=>∃P' O' p',bP N P' O'∧O'.length=n∧mj (rk K O') n p'∧p'<n∧(∀i,cj O' i↔cj O i)∧r=n - p'∧s=⟨[(0,.ptr 1 0),(1,num p')],dY _ d N n K P' O'⟩) (n - r) ⟨P',O',r,hP',hO',hdn,hp',hH',rfl,rfl⟩ ?_
   clear hP' hO' hdn hH' P' O' hp' r
   rintro r s ⟨P',O',p',hP',hO',hdn,hp',hH',rfl,rfl⟩
   refine aq<|af (.a 2 rfl<|.k [0,1,4] rfl)<|ak<|af (.a 1 rfl<|.v (bf rfl) rfl<|.v (bf rfl) rfl<|.a 1 rfl<|.k [0,1,4,5] rfl)<|aq<|iC [0,1,4,5] rfl<|br (fun r s=>∃c l,2*p'+1≤c∧c≤2*p'+3∧r=2*p'+3 - c∧l<n∧(l=p'∨(par l=p'∧0<l∧rk K O' l<rk K O' p'))∧(∀x,2*p'+1≤x→x<c→x<n→rk K O' l≤rk K O' x)∧s=⟨[(0,.ptr 1 0),(1,num p'),(4,num l),(5,num c)],dY _ d N n K P' O'⟩) 2 ⟨2*p'+1,p',by omega,by omega,by omega,hp',.inl rfl,fun x h1 h2=>by omega,rfl⟩ ?_
   rintro r s ⟨c,l,hc1,hc2,rfl,hl,hl2,hl3,rfl⟩
   refine ak ?_
   obtain⟨q1,hq1⟩:∃q,decide ((c:Int)≤2*(p':Int)+2)=q:=⟨_,rfl⟩
   obtain⟨q2,hq2⟩:∃q,decide ((c:Int)<(n:Int))=q:=⟨_,rfl⟩
   refine aY 42 (.raw (.bool (q1&&q2))) [0,1,4,5] rfl ?_ ?_
   ·refine .a 2 rfl<|.v (bf rfl) rfl<|.v (bf rfl) rfl<|.v (bT rfl (hq1)) rfl<|.a 1 rfl<|?_
    cases q1
    ·exact .a 8 rfl<|.k [42,0,1,4,5] rfl
    ·exact .a 6 rfl<|.v (bT rfl (hq2)) rfl<|.a 1 rfl<|.k [42,0,1,4,5] rfl
   refine ag rfl (fun hc=>?_) (fun hc=>?_)
   ·obtain⟨c1,c2⟩:=Bool.and_eq_true_iff.1 hc
    rw[c1]at hq1
    rw[c2]at hq2
    have hcn:c<n:=by have:=of_decide_eq_true hq2;omega
    have hc4:c≤2*p'+2:=by have:=of_decide_eq_true hq1;omega
    have hpc:par c=p':=by unfold par;omega
    refine ai<|ak<|aq<|af (.a 3 rfl<|.v (wC rfl (qu (ln _ d hK hP'.len hO') _ _) (kF K P' O' hP' hK hN c l (by omega) (by omega))) rfl<|.k [0,1,4,5,48] rfl)<|ag rfl (fun hb=>?_) (fun hb=>?_)
    ·have hb':=of_decide_eq_true hb
     refine aF (.a 2 rfl<|.k [0,1,4,5] rfl) ?_
     refine aF (.a 1 rfl<|.v (bf rfl) rfl<|.a 1 rfl<|.k [0,1,4,5] rfl) ?_
     first
      |exact⟨2*p'+3 - (c+1),by omega,c+1,c,by omega,by omega,rfl,hcn,.inr ⟨hpc,by omega,by rcases hl2 with h|h;(rw[h]at hb';exact hb');omega⟩,fun x h1 h2 h3=>by by_cases e:x=c;(rw[e];exact Int.le_refl _);(have:=hl3 x h1 (by omega) h3;omega),rfl⟩
      |exact⟨2*p'+3 - (c+1),by omega,c+1,l,by omega,by omega,rfl,hl,hl2,fun x h1 h2 h3=>by by_cases e:x=c;(rw[e];omega);exact hl3 x h1 (by omega) h3,rfl⟩
    ·have hb':=of_decide_eq_false hb
     refine ai<|aF (.a 1 rfl<|.v (bf rfl) rfl<|.a 1 rfl<|.k [0,1,4,5] rfl) ?_
     first
      |exact⟨2*p'+3 - (c+1),by omega,c+1,c,by omega,by omega,rfl,hcn,.inr ⟨hpc,by omega,by rcases hl2 with h|h;(rw[h]at hb';exact hb');omega⟩,fun x h1 h2 h3=>by by_cases e:x=c;(rw[e];exact Int.le_refl _);(have:=hl3 x h1 (by omega) h3;omega),rfl⟩
      |exact⟨2*p'+3 - (c+1),by omega,c+1,l,by omega,by omega,rfl,hl,hl2,fun x h1 h2 h3=>by by_cases e:x=c;(rw[e];omega);exact hl3 x h1 (by omega) h3,rfl⟩
   ·have hmin:∀x,0<x→x<n→par x=p'→rk K O' l≤rk K O' x:=fun x h0 hx hpx=>by
     refine hl3 x (by unfold par at hpx;omega) ?_ hx
     rcases Nat.lt_or_ge x c with h|h
     ·exact h
     ·exfalso
      have hx2:=uV h0 hpx
      have h1:q1=true:=by rw[←hq1];simp;omega
      rw[h1]at hc
      simp only[Bool.true_and]at hc
      rw[hc]at hq2
      have:=of_decide_eq_false hq2
      omega
    clear hc hq1 hq2 hl3
    refine bn<|ak<|af (.a 3 rfl<|.k [0,1,4,52] rfl)<|ag rfl (fun hc=>?_) (fun hc=>?_)
    ·have hlp:l=p':=by have:=of_decide_eq_true hc;omega
     refine an<|⟨_,ax.of rfl,P',O',rfl,hP',hO',?_,hH'⟩
     refine qg hdn fun x h0 hx hpx=>?_
     have:=hmin x h0 hx hpx
     rw[hlp]at this
     exact this
    ·have hlp:l≠p':=by have:=of_decide_eq_false hc;omega
     obtain⟨hlp1,hl0,hllt⟩:=hl2.resolve_left hlp
     refine ai<|aX<|av 3 rfl<|cG rfl rfl (bQ.mono (kn _ d K P' O' hP' hO' hN p' l (by omega) (by omega)) (fun _ σ' h=>?_))
     subst h
     refine aQ [0,4] rfl ?_
     refine aF (.a 2 rfl<|.k [0,1] rfl) ?_
     have hpl:=cC hl0
     refine⟨n - l,by omega,dD P' O' p' l,cr O' p' l,l,hP'.swap (by omega) (by omega),by rw[dG];exact hO',?_,hl,fun i=>(gH O' p' l (by omega) (by omega) i).trans (hH' i),rfl,rfl⟩
     rw[qh K O' p' l (by omega) (by omega)]
     exact qc hdn hl0 hl hlp1 hllt hmin
def sC(N n:Nat)(K P O:List Int):Prop:=bP N P O∧O.length=n∧K.length=N∧kT (rk K O) n
theorem uj{N n:Nat}(d:Option cB)(hd:fR d)(K P O:List Int)(h:sC N (n+1) K P O)(hN:N≤65536)(i:Nat)(hi:O.getD 0 0=(i:Int)):
  bQ Tryd.prog 115 [.ptr 1 0,num 0] (dY false d N (n+1) K P O) (fun _ σ'=>∃P' O',σ'=dY true d N n (K.set i 0) P' O'∧sC N n (K.set i 0) P' O'∧∀j,cj O' j↔cj O j∧j≠(i:Int)):=by
 obtain⟨hP,hO,hK,hH⟩:=h
 have hlen:=eE hP
 have hiN:i<N:=by have:=(hP.item 0 (by omega)).2.1;rw[hi]at this;omega
 have hPs:=hP.swap (p:=0) (q:=n) (by omega) (by omega)
 have hg:(cr O 0 n).getD n 0=(i:Int):=by rw[b8 O 0 n n (by omega) (by omega),if_pos rfl,hi]
 have hPp:=hPs.pop (m:=n) (by rw[dG];exact hO)
 rw[hg,Int.toNat_natCast]at hPp
 have hheld:∀j,cj ((cr O 0 n).take n) j↔cj O j∧j≠(i:Int):=fun j=>by
  rw[sK hPs (by rw[dG];exact hO) j,hg,gH O 0 n (by omega) (by omega)]
 have hOt:((cr O 0 n).take n).length=n:=by rw[List.length_take,dG];omega
 have hPll:(dD P O 0 n).length=N:=hPs.len
 have hrk:∀x,x<n→x≠0→rk (K.set i 0) ((cr O 0 n).take n) x=rk K O x:=fun x hx hx0=>by
  unfold rk
  rw[gB _ _ _ hx,b8 O 0 n x (by omega) (by omega),if_neg (by omega),if_neg hx0]
  unfold eb
  have hne:(O.getD x 0).toNat≠i:=fun e=>by
   have h1:=hP.item x (by omega)
   have:=hP.inj (p:=x) (q:=0) (by omega) (by omega) (by rw[hi];omega)
   omega
  rw[cg _ _ _ _ (by omega),if_neg hne]
 have hloose:iW (rk (K.set i 0) ((cr O 0 n).take n)) n 0:=px hH hrk
 refine cL Tryd.func115 rfl Tryd.ntmps115 rfl<|af (.a 5 rfl<|.v (bf rfl (hc:=(show(((n+1:Nat):Int)) - 1=(n:Int) by omega))) rfl<|.a 1 rfl<|.k [0,1,4] rfl)<|af (.a 5 rfl<|.v (aR (0) rfl) rfl<|.v (aO rfl ((au O 0 (by omega)).trans (by rw[hi]))) rfl<|.a 1 rfl<|.k [0,1,4,5] rfl)<|aX<|av 3 rfl<|cG rfl rfl (bQ.mono (kn false d K P O hP hO hN 0 n (by omega) (by omega)) (fun _ σ' h=>?_))
 subst h
 refine aQ [0,1,4,5] rfl ?_
 refine aX<|av 6 rfl<|dJ (iU rfl (cb.el.get rfl) rfl rfl rfl rfl (by omega)) rfl<|av 3 rfl ?_
 refine gm [0,1,2,3,4,5] (.c 0<|.c 1<|.c 4<|.c 5<|.nil) (.same hd rfl<|.kept rfl (.cells (aL.c<|aL.c<|aL.c<|aL.nil))<|.kept rfl (.row aL.pure)<|.kept rfl (.row aL.pure)<|.gone<|.kept rfl (.eR rfl (show(aG (cr O 0 n)).take (n*1)=aG ((cr O 0 n).take n) by rw[Nat.mul_one];unfold aG;rw[List.map_take]))<|.nil) rfl rfl (aH ?_)
 refine jY 11 20 mixed (
  .val [0] rfl (bp rfl) rfl rfl<|
  .val [32] rfl (bp rfl) rfl rfl<|
  .val [33] rfl (bp rfl) rfl rfl<|
  .val [34] rfl (bp rfl) rfl rfl<|
  .val [5] rfl (bp rfl) rfl rfl<|
  .val [0] rfl (bp rfl) rfl rfl<|
  .val [37] rfl (bp rfl) rfl rfl<|
  .val [38] rfl (bp rfl) rfl rfl<|
  .val [39] rfl (bp rfl) rfl rfl<|
  .late [5] rfl (tE rfl rfl) inferInstance rfl rfl<|
  .val [35,36] rfl (aR (i) rfl) rfl rfl<|
  .nil) (by kernel_rfl) rfl rfl (bm (ks:=[0,1,4,40,41,42]) rfl) ?_
 refine bE ((by first|exact bh rfl (cb.tk.get rfl) rfl rfl rfl (by first|omega|(simp;omega))|exact bc rfl (cb.tk.get rfl) rfl rfl rfl (by first|omega|(simp;omega)))) rfl rfl<|bZ (aR (i) rfl) rfl<|bE ((by first|exact bh rfl (cb.tk.get rfl) rfl rfl rfl (by first|omega|(simp;omega))|exact bc rfl (cb.tk.get rfl) rfl rfl rfl (by first|omega|(simp;omega)))) rfl rfl<|aQ [0,1,4] rfl ?_
 refine af (.a 3 rfl<|.k [0,1,46] rfl)<|ag rfl (fun hc=>?_) (fun hc=>?_)
 ·have hn0:0<n:=by have:=of_decide_eq_true hc;omega
  refine bK<|av 2 rfl<|cG rfl rfl (bQ.mono (ir true d (K.set i 0) ((dD P O 0 n).set i 0) ((cr O 0 n).take n) hPp hOt (by simpa using hK) hN 0 hn0 hloose) (fun _ σ' h=>?_))
  obtain⟨P',O',rfl,h1,h2,h3,h4⟩:=h
  refine aQ [] rfl ?_
  first
   |exact⟨_,ax.of rfl,P',O',rfl,⟨h1,h2,by simpa using hK,h3⟩,fun j=>(h4 j).trans (hheld j)⟩
   |exact⟨_,ax.of rfl,(dD P O 0 n).set i 0,(cr O 0 n).take n,rfl,⟨hPp,hOt,by simpa using hK,fun q h0 hq=>by omega⟩,hheld⟩
 ·have hn0:n=0:=by have:=of_decide_eq_false hc;omega
  refine ai ?_
  first
   |exact⟨_,ax.of rfl,P',O',rfl,⟨h1,h2,by simpa using hK,h3⟩,fun j=>(h4 j).trans (hheld j)⟩
   |exact⟨_,ax.of rfl,(dD P O 0 n).set i 0,(cr O 0 n).take n,rfl,⟨hPp,hOt,by simpa using hK,fun q h0 hq=>by omega⟩,hheld⟩
theorem vf{N:Nat}(K P O:List Int)(hP:P.length=N)(hK:K.length=N)(hN:N≤65536)(i:Nat)(hi:i<N):
  Can Tryd.prog 111 [nE K P O,num i] (· = .tuple [num (if P.getD i 0=0 then 0 else K.getD i 0),flag (!decide (P.getD i 0=0))]):=by
 refine aI Tryd.func111 rfl Tryd.ntmps111 rfl<|af (.a 2 rfl<|.k [0,1] rfl)<|ak ?_
 obtain⟨q1,hq1⟩:∃q,decide ((i:Int)<0)=q:=⟨_,rfl⟩
 obtain⟨q2,hq2⟩:∃q,decide ((K.length:Int)≤(i:Int))=q:=⟨_,rfl⟩
 obtain⟨q3,hq3⟩:∃q,decide (P.getD i 0=0)=q:=⟨_,rfl⟩
 refine aY 30 (.raw (.bool (q1||q2||q3))) [0,1] rfl ?_ ?_
 ·refine .a 4 rfl<|.v (bT rfl (hq1)) rfl<|.a 2 rfl<|?_
  cases q1
  ·refine .a 6 rfl<|.v (bT rfl (hq2)) rfl<|.a 2 rfl<|?_
   cases q2
   ·exact .a 5 rfl<|.v (aR (i) rfl) rfl<|.v (aO rfl (au P i (by omega))) rfl<|.v (bT rfl (hq3)) rfl<|.a 1 rfl<|.k [30,0,1] rfl
   ·exact .a 9 rfl<|.k [30,0,1] rfl
  ·exact .a 18 rfl<|.k [30,0,1] rfl
 refine ag rfl (fun hc=>?_) (fun hc=>?_)
 ·have h1:q1=false:=by rw[←hq1];simp
  have h2:q2=false:=by rw[←hq2];simp;omega
  rw[h1,h2]at hc
  simp only[Bool.false_or]at hc
  rw[hc]at hq3
  refine af (.a 2 rfl<|.k [4,5] rfl)<|an<|⟨_,_,ax.of rfl,ay.pure,?_⟩
  rw[hq3]
  first
   |(rw[if_pos (of_decide_eq_true hq3)];rfl)
   |(rw[if_neg (of_decide_eq_false hq3)];rfl)
 ·have hc3:q3=false:=by revert hc;cases q3<;>simp
  rw[hc3]at hq3
  refine ai<|af (.a 5 rfl<|.v (aR (i) rfl) rfl<|.v (aO rfl (au K i (by omega))) rfl<|.a 2 rfl<|.k [4,5] rfl)<|an<|⟨_,_,ax.of rfl,ay.pure,?_⟩
  rw[hq3]
  first
   |(rw[if_pos (of_decide_eq_true hq3)];rfl)
   |(rw[if_neg (of_decide_eq_false hq3)];rfl)
theorem uQ{N n:Nat}(d:Option cB)(hd:fR d)(K P O:List Int)(h:sC N n K P O)(hN:N≤65536):
  bQ Tryd.prog 110 [.ptr 1 0] (dY false d N n K P O) (fun r σ'=>(n=0∧r= .tuple [num 0,num 0,flag false]∧σ'=dY false d N n K P O)∨
   ∃(n' i:Nat) (P' O':List Int),n=n'+1∧i<N∧O.getD 0 0=(i:Int)∧r= .tuple [num i,num (K.getD i 0),flag true]∧σ'=dY true d N n' (K.set i 0) P' O'∧sC N n' (K.set i 0) P' O'∧∀j,cj O' j↔cj O j∧j≠(i:Int)):=by
 have h':=h
 obtain⟨hP,hO,hK,hH⟩:=h'
 refine cL Tryd.func110 rfl Tryd.ntmps110 rfl<|af (.a 3 rfl<|.k [0] rfl)<|ak ?_
 obtain⟨q1,hq1⟩:∃q,decide ((n:Int)=0)=q:=⟨_,rfl⟩
 refine aY 14 (.raw (.bool (q1))) [0] rfl ?_ ?_
 ·exact .a 8 rfl<|.v (bT rfl (hq1)) rfl<|.a 1 rfl<|.k [14,0] rfl
 refine ag rfl (fun hc=>?_) (fun hc=>?_)
 ·have hn0:n=0:=by rw[hc]at hq1;have:=of_decide_eq_true hq1;omega
  refine af (.a 3 rfl<|.k [2,3,4] rfl)<|an ?_
  first
   |exact⟨_,ax.of rfl,.inl ⟨hn0,rfl,rfl⟩⟩
   |exact⟨_,ax.of rfl,.inr ⟨n',i,P',O',rfl,hiN,hi,rfl,rfl,h1,h2⟩⟩
 ·have hn0:n≠0:=by rw[hc]at hq1;have:=of_decide_eq_false hq1;omega
  obtain⟨n',rfl⟩:∃n',n=n'+1:=⟨n - 1,by omega⟩
  obtain⟨i,hi,hiN⟩:=fr hP (p:=0) (by omega)
  refine ai<|af (.a 4 rfl<|.v (aR (0) rfl) rfl<|.v (aO rfl ((au O 0 (by omega)).trans (by rw[hi]))) rfl<|.a 1 rfl<|.k [0,2] rfl)<|af (.a 5 rfl<|.v (aR (i) rfl) rfl<|.v (aO rfl (au K i (by omega))) rfl<|.a 1 rfl<|.k [0,2,3] rfl)<|aX<|av 1 rfl<|cG rfl rfl (bQ.mono (uj d hd K P O h hN i hi) (fun _ σ' h=>?_))
  obtain⟨P',O',rfl,h1,h2⟩:=h
  refine aQ [2,3] rfl ?_
  refine af (.a 5 rfl<|.k [2,3,4] rfl)<|an ?_
  first
   |exact⟨_,ax.of rfl,.inl ⟨hn0,rfl,rfl⟩⟩
   |exact⟨_,ax.of rfl,.inr ⟨n',i,P',O',rfl,hiN,hi,rfl,rfl,h1,h2⟩⟩
theorem tr{N:Nat}{P O:List Int}(hP:bP N P O){i:Nat}(hi:i<N)(h:P.getD i 0≠0):∃p,p<O.length∧O.getD p 0=(i:Int)∧P.getD i 0=(p:Int)+1:=by
 rcases hP.place i hi with h0|⟨p,hp,he⟩
 ·exact absurd h0 h
 ·have:=(hP.item p hp).2.2
  rw[he,Int.toNat_natCast]at this
  exact⟨p,hp,he,this⟩
theorem tv{N:Nat}{K P O:List Int}(hP:bP N P O)(hK:K.length=N){i:Nat}(hi:i<N)(c:Int){x:Nat}(hx:x<O.length)(hne:O.getD x 0≠(i:Int)):rk (K.set i c) O x=rk K O x:=by
 unfold rk eb
 have h1:=hP.item x hx
 rw[cg _ _ _ _ (by omega),if_neg (by omega)]
theorem qC{N n:Nat}(d:Option cB)(hd:fR d)(K P O:List Int)(h:sC N n K P O)(hN:N≤65536)(i:Nat)(hi:i<N)(key:Int):
  bQ Tryd.prog 109 [.ptr 1 0,num i,num key] (dY false d N n K P O) (fun r σ'=>∃(b:Bool) (n':Nat) (P' O':List Int),σ'=dY b d N n' (K.set i key) P' O'∧sC N n' (K.set i key) P' O'∧∀j,cj O' j↔cj O j∨j=(i:Int)):=by
 obtain⟨hP,hO,hK,hH⟩:=h
 have hlen:=eE hP
 have hPl:=hP.len
 refine cL Tryd.func109 rfl Tryd.ntmps109 rfl<|af (.a 1 rfl<|.k [0,1,2] rfl)<|ak<|af (.a 2 rfl<|.k [0,1,2,8] rfl)<|ag rfl (fun hc=>?_) (fun hc=>?_)
 ·cases hc
 ·refine ai<|ak ?_
  obtain⟨q1,hq1⟩:∃q,decide ((i:Int)<0)=q:=⟨_,rfl⟩
  obtain⟨q2,hq2⟩:∃q,decide ((N:Int)≤(i:Int))=q:=⟨_,rfl⟩
  refine aY 19 (.raw (.bool (q1||q2))) [0,1,2] rfl ?_ ?_
  ·refine .a 1 rfl<|.v (bT rfl (hq1)) rfl<|.a 1 rfl<|?_
   cases q1
   ·exact .a 6 rfl<|.v (bT rfl (hq2)) rfl<|.a 1 rfl<|.k [19,0,1,2] rfl
   ·exact .a 8 rfl<|.k [19,0,1,2] rfl
  refine ag rfl (fun hc=>?_) (fun hc=>?_)
  ·have h1:q1=false:=by rw[←hq1];simp
   have h2:q2=false:=by rw[←hq2];simp;omega
   rw[h1,h2]at hc
   cases hc
  ·refine ai<|aX<|av 6 rfl<|bZ (aR (i) rfl) rfl<|bE ((by first|exact bh rfl (cb.tk.get rfl) rfl rfl rfl (by first|omega|(simp;omega))|exact bc rfl (cb.tk.get rfl) rfl rfl rfl (by first|omega|(simp;omega)))) rfl rfl<|aQ [0,1] rfl ?_
   refine ak<|af (.a 5 rfl<|.v (aR (i) rfl) rfl<|.v (aO rfl (au P i (by omega))) rfl<|.a 1 rfl<|.k [0,1,34] rfl)<|ag rfl (fun hc=>?_) (fun hc=>?_)
   ·have hp0:P.getD i 0=0:=of_decide_eq_true hc
    have hnh:=(hP.zero hi).1 hp0
    have hPp:=hP.push hi hnh
    have hOl:(O++[(i:Int)]).length=n+1:=by simp[hO]
    rw[hO]at hPp
    have hPi2:(P.set i ((n:Int)+1)).getD i 0=(n:Int)+1:=by rw[cg _ _ _ _ (by omega),if_pos rfl]
    have hlt2:i<(P.set i ((n:Int)+1)).length:=by simp;omega
    have hsb:((n:Int)+1) - 1=(n:Int):=by omega
    have hnb:n<N:=by have:=eE hPp;simp at this;omega
    have hset:=ir true d (K.set i key) (P.set i ((n:Int)+1)) (O++[(i:Int)]) hPp hOl (by simpa using hK) hN n (by omega) (pS hH fun q hq=>by
     have e:(O++[(i:Int)]).getD q 0=O.getD q 0:=by simp[List.getD_eq_getElem?_getD,List.getElem?_append_left (show q<O.length by omega)]
     have:=tv hP hK hi key (x:=q) (by omega) (fun e=>hnh ⟨q,by omega,e⟩)
     unfold rk at this ⊢
     rw[e];exact this)
    have hfin:∀j,cj (O++[(i:Int)]) j↔cj O j∨j=(i:Int):=fun j=>(rB O i j).trans Or.comm
    refine aX<|av 7 rfl<|dJ (ct rfl (cb.rk.get rfl) rfl rfl rfl rfl (by unfold maxLen;omega)) rfl<|av 3 rfl ?_
    refine gm [0,1,2,3,4,5] (.c 0<|.c 1<|.nil) (.same hd rfl<|.kept rfl (.cells (aL.c<|aL.c<|aL.c<|aL.nil))<|.kept rfl (.row aL.pure)<|.kept rfl (.row aL.pure)<|.gone<|.kept rfl (.eR rfl (eF _ _))<|.nil) rfl rfl (aH ?_)
    refine jD 11 20 mixed (
     .val [0] rfl (bp rfl) rfl rfl<|
     .val [45] rfl (bp rfl) rfl rfl<|
     .val [46] rfl (bp rfl) rfl rfl<|
     .val [47] rfl (bp rfl) rfl rfl<|
     .val [1] rfl (bp rfl) rfl rfl<|
     .val [0] rfl (bp rfl) rfl rfl<|
     .val [50] rfl (bp rfl) rfl rfl<|
     .val [51] rfl (bp rfl) rfl rfl<|
     .val [52] rfl (bp rfl) rfl rfl<|
     .val [53] rfl (bp rfl) rfl rfl<|
     .val [48,49] rfl (aR (i) rfl) rfl rfl<|
     .nil) (by kernel_rfl) rfl rfl (bm (ks:=[0,1,54,55]) rfl) ?_
    refine bE ((by first|exact bh rfl (cb.tk.get rfl) rfl rfl rfl (by first|omega|(simp;omega))|exact bc rfl (cb.tk.get rfl) rfl rfl rfl (by first|omega|(simp;omega)))) rfl rfl<|aQ [0,1] rfl ?_
    refine aX<|av 6 rfl<|bZ (aR (i) rfl) rfl<|bZ (aO rfl ((au _ i hlt2).trans (congrArg (fun z=>some (PV.raw (.int .i64 z))) hPi2))) rfl<|bZ (bf rfl (hc:=hsb)) rfl<|cG rfl rfl (bQ.mono hset (fun _ σ' h=>?_))
    obtain⟨P',O',rfl,h1,h2,h3,h4⟩:=h
    refine aQ [] rfl ?_
    refine af (.a 1 rfl<|.k [6] rfl)<|an ?_
    first
     |exact⟨_,ax.of rfl,true,_,P',O',rfl,⟨h1,h2,by simpa using hK,h3⟩,fun j=>(h4 j).trans (hfin j)⟩
     |exact⟨_,ax.of rfl,false,_,P',O',rfl,⟨h1,h2,by simpa using hK,h3⟩,fun j=>(h4 j).trans (hfin j)⟩
   ·have hp0:P.getD i 0≠0:=of_decide_eq_false hc
    obtain⟨p,hp,hpi,hPi2⟩:=tr hP hi hp0
    have hlt2:i<P.length:=by omega
    have hsb:((p:Int)+1) - 1=(p:Int):=by omega
    have hset:=ir false d (K.set i key) P O hP hO (by simpa using hK) hN p (by omega) (nM hH (fun q hq hqp=>tv hP hK hi key (x:=q) (by omega) (fun e=>hqp (hP.inj (by omega) hp (by rw[e,hpi])))) (by omega))
    have hfin:∀j,cj O j↔cj O j∨j=(i:Int):=fun j=>⟨.inl,fun h=>h.elim id fun e=>⟨p,hp,by rw[hpi,e]⟩⟩
    refine ai<|aX<|av 6 rfl<|bZ (aR (i) rfl) rfl<|bZ (aO rfl ((au _ i hlt2).trans (congrArg (fun z=>some (PV.raw (.int .i64 z))) hPi2))) rfl<|bZ (bf rfl (hc:=hsb)) rfl<|cG rfl rfl (bQ.mono hset (fun _ σ' h=>?_))
    obtain⟨P',O',rfl,h1,h2,h3,h4⟩:=h
    refine aQ [] rfl ?_
    refine af (.a 1 rfl<|.k [6] rfl)<|an ?_
    first
     |exact⟨_,ax.of rfl,true,_,P',O',rfl,⟨h1,h2,by simpa using hK,h3⟩,fun j=>(h4 j).trans (hfin j)⟩
     |exact⟨_,ax.of rfl,false,_,P',O',rfl,⟨h1,h2,by simpa using hK,h3⟩,fun j=>(h4 j).trans (hfin j)⟩
end PW
end Go.Proofs.YtnegbdpggideiaaDoor
namespace Go.Proofs.YtnegbdpggideiaaDoor
namespace PW
open Go.RowKit aN Mem Net Heap
theorem vW(N:Nat)(d:Option cB)(hd:fR d)(hN:N≤65536):
  bQ Tryd.prog 108 [num N] [d] (fun r σ'=>r= .tuple [.ptr 1 0,num 0]∧σ'=dY false d N 0 (List.replicate N 0) (List.replicate N 0) []):=by
 refine cL Tryd.func108 rfl Tryd.ntmps108 rfl<|af (.a 2 rfl<|.k [0] rfl) ?_
 obtain⟨q1,hq1⟩:∃q,decide ((N:Int)<0)=q:=⟨_,rfl⟩
 obtain⟨q2,hq2⟩:∃q,decide ((65536:Int)<(N:Int))=q:=⟨_,rfl⟩
 refine ak<|aY 9 (.raw (.bool (q1||q2))) [0] rfl ?_ ?_
 ·refine .a 1 rfl<|.v (bT rfl (hq1)) rfl<|.a 1 rfl<|?_
  cases q1
  ·exact .a 1 rfl<|.v (bT rfl (hq2)) rfl<|.a 1 rfl<|.k [9,0] rfl
  ·exact .a 3 rfl<|.k [9,0] rfl
 have h1:q1=false:=by rw[←hq1];simp
 have h2:q2=false:=by rw[←hq2];simp;omega
 refine ag (b:=q1||q2) rfl (fun hc=>?_) (fun hc=>?_)
 ·rw[h1,h2]at hc
  cases hc
 ·clear hc hq1 hq2 h1 h2
  refine ai<|rR mixed ?_
  have hfin:W Tryd.prog 16 1 .ret ⟨[(2,.ptr 1 0),(3,num 0)],dY false d N 0 (List.replicate N 0) (List.replicate N 0) []⟩ (xE Tryd.prog Tryd.f108 (fun r σ'=>r= .tuple [.ptr 1 0,num 0]∧σ'=dY false d N 0 (List.replicate N 0) (List.replicate N 0) [])):=
   an ⟨_,.cons (.tmp rfl) (.cons (.tmp rfl) .nil),rfl,rfl⟩
  refine aT 0 [2] (by kernel_rfl) ?_
  refine aD rfl rfl (aE (cO rfl rfl) rfl rfl rfl (aH ?_)) ?_
  ·refine aT 1 [2] (by kernel_rfl) ?_
   refine aD rfl rfl (bN (cW rfl (cb.rk.get rfl) rfl rfl rfl rfl ⟨by unfold maxLen;omega,by omega⟩) rfl rfl rfl (aH ?_)) ?_
   ·refine aT 2 [] (by kernel_rfl) ?_
    refine aD rfl rfl (aE (cO rfl rfl) rfl rfl rfl (aH ?_)) aU
    refine aT 3 [] (by kernel_rfl) ?_
    refine aD rfl rfl (bN (cW rfl (cb.rk.get rfl) rfl rfl rfl rfl ⟨by unfold maxLen;omega,by omega⟩) rfl rfl rfl (aH ?_)) aU
    refine aT 4 [] (by kernel_rfl) ?_
    refine aD rfl rfl (aE (eg (xs:=[_,_,_]) rfl (cb.st.get rfl) rfl rfl) rfl rfl rfl (aH ?_)) aU
    refine aT 5 [] (by kernel_rfl) ?_
    refine aD rfl rfl (bN (iG rfl rfl rfl) rfl rfl rfl (aH ?_)) aU
    refine aT 6 [] (by kernel_rfl) ?_
    refine aD rfl rfl (aE (cf rfl rfl) rfl rfl rfl (aH ?_)) aU
    refine aT 7 [] (by kernel_rfl) ?_
    refine aD rfl rfl (aE (cf rfl rfl) rfl rfl rfl (aH ?_)) aU
    refine jN (by kernel_rfl) ?_
    refine bU 3 2 3 1 rfl rfl ?_
    exact dO [0,3,1,2,4] (.cons 2 rfl (Ren.ptr (i:=1) rfl)<|.cons 3 rfl Ren.pure<|.nil) (.same hd rfl<|.kept rfl (.cells (aL.cons (Ren.own (i:=2) rfl)<|aL.cons (Ren.own (i:=3) rfl)<|aL.cons (Ren.own (i:=4) rfl) aL.nil))<|.kept rfl (.eR rfl (bB N))<|.kept rfl (.eR rfl (bB N))<|.kept rfl (.row aL.pure)<|.nil) rfl rfl hfin
   refine aD rfl rfl (aE (cO rfl rfl) rfl rfl rfl (aH ?_)) aU
   refine aT 1 [3] (by kernel_rfl) ?_
   refine aD rfl rfl (bN (cW rfl (cb.rk.get rfl) rfl rfl rfl rfl ⟨by unfold maxLen;omega,by omega⟩) rfl rfl rfl (aH ?_)) ?_
   ·refine aT 3 [] (by kernel_rfl) ?_
    refine aD rfl rfl (bN (cW rfl (cb.rk.get rfl) rfl rfl rfl rfl ⟨by unfold maxLen;omega,by omega⟩) rfl rfl rfl (aH ?_)) aU
    refine aT 4 [] (by kernel_rfl) ?_
    refine aD rfl rfl (aE (eg (xs:=[_,_,_]) rfl (cb.st.get rfl) rfl rfl) rfl rfl rfl (aH ?_)) aU
    refine aT 5 [] (by kernel_rfl) ?_
    refine aD rfl rfl (bN (iG rfl rfl rfl) rfl rfl rfl (aH ?_)) aU
    refine aT 6 [] (by kernel_rfl) ?_
    refine aD rfl rfl (aE (cf rfl rfl) rfl rfl rfl (aH ?_)) aU
    refine aT 7 [] (by kernel_rfl) ?_
    refine aD rfl rfl (aE (cf rfl rfl) rfl rfl rfl (aH ?_)) aU
    refine jN (by kernel_rfl) ?_
    refine bU 3 2 3 1 rfl rfl ?_
    exact dO [0,3,1,2,4] (.cons 2 rfl (Ren.ptr (i:=1) rfl)<|.cons 3 rfl Ren.pure<|.nil) (.same hd rfl<|.kept rfl (.cells (aL.cons (Ren.own (i:=2) rfl)<|aL.cons (Ren.own (i:=3) rfl)<|aL.cons (Ren.own (i:=4) rfl) aL.nil))<|.kept rfl (.eR rfl (bB N))<|.kept rfl (.eR rfl (bB N))<|.kept rfl (.row aL.pure)<|.nil) rfl rfl hfin
   refine aD rfl rfl (bN (cW rfl (cb.rk.get rfl) rfl rfl rfl rfl ⟨by unfold maxLen;omega,by omega⟩) rfl rfl rfl (aH ?_)) aU
   refine aT 1 [] (by kernel_rfl) ?_
   refine aD rfl rfl (bN (cW rfl (cb.rk.get rfl) rfl rfl rfl rfl ⟨by unfold maxLen;omega,by omega⟩) rfl rfl rfl (aH ?_)) aU
   refine aT 4 [] (by kernel_rfl) ?_
   refine aD rfl rfl (aE (eg (xs:=[_,_,_]) rfl (cb.st.get rfl) rfl rfl) rfl rfl rfl (aH ?_)) aU
   refine aT 5 [] (by kernel_rfl) ?_
   refine aD rfl rfl (bN (iG rfl rfl rfl) rfl rfl rfl (aH ?_)) aU
   refine aT 6 [] (by kernel_rfl) ?_
   refine aD rfl rfl (aE (cf rfl rfl) rfl rfl rfl (aH ?_)) aU
   refine aT 7 [] (by kernel_rfl) ?_
   refine aD rfl rfl (aE (cf rfl rfl) rfl rfl rfl (aH ?_)) aU
   refine jN (by kernel_rfl) ?_
   refine bU 3 2 3 1 rfl rfl ?_
   exact dO [0,3,2,1,4] (.cons 2 rfl (Ren.ptr (i:=1) rfl)<|.cons 3 rfl Ren.pure<|.nil) (.same hd rfl<|.kept rfl (.cells (aL.cons (Ren.own (i:=2) rfl)<|aL.cons (Ren.own (i:=3) rfl)<|aL.cons (Ren.own (i:=4) rfl) aL.nil))<|.kept rfl (.eR rfl (bB N))<|.kept rfl (.eR rfl (bB N))<|.kept rfl (.row aL.pure)<|.nil) rfl rfl hfin
  refine aD rfl rfl (aE (cO rfl rfl) rfl rfl rfl (aH ?_)) aU
  refine aT 0 [3] (by kernel_rfl) ?_
  refine aD rfl rfl (aE (cO rfl rfl) rfl rfl rfl (aH ?_)) ?_
  ·refine aT 1 [3] (by kernel_rfl) ?_
   refine aD rfl rfl (bN (cW rfl (cb.rk.get rfl) rfl rfl rfl rfl ⟨by unfold maxLen;omega,by omega⟩) rfl rfl rfl (aH ?_)) ?_
   ·refine aT 3 [] (by kernel_rfl) ?_
    refine aD rfl rfl (bN (cW rfl (cb.rk.get rfl) rfl rfl rfl rfl ⟨by unfold maxLen;omega,by omega⟩) rfl rfl rfl (aH ?_)) aU
    refine aT 4 [] (by kernel_rfl) ?_
    refine aD rfl rfl (aE (eg (xs:=[_,_,_]) rfl (cb.st.get rfl) rfl rfl) rfl rfl rfl (aH ?_)) aU
    refine aT 5 [] (by kernel_rfl) ?_
    refine aD rfl rfl (bN (iG rfl rfl rfl) rfl rfl rfl (aH ?_)) aU
    refine aT 6 [] (by kernel_rfl) ?_
    refine aD rfl rfl (aE (cf rfl rfl) rfl rfl rfl (aH ?_)) aU
    refine aT 7 [] (by kernel_rfl) ?_
    refine aD rfl rfl (aE (cf rfl rfl) rfl rfl rfl (aH ?_)) aU
    refine jN (by kernel_rfl) ?_
    refine bU 3 2 3 1 rfl rfl ?_
    exact dO [0,3,1,2,4] (.cons 2 rfl (Ren.ptr (i:=1) rfl)<|.cons 3 rfl Ren.pure<|.nil) (.same hd rfl<|.kept rfl (.cells (aL.cons (Ren.own (i:=2) rfl)<|aL.cons (Ren.own (i:=3) rfl)<|aL.cons (Ren.own (i:=4) rfl) aL.nil))<|.kept rfl (.eR rfl (bB N))<|.kept rfl (.eR rfl (bB N))<|.kept rfl (.row aL.pure)<|.nil) rfl rfl hfin
   refine aD rfl rfl (bN (cW rfl (cb.rk.get rfl) rfl rfl rfl rfl ⟨by unfold maxLen;omega,by omega⟩) rfl rfl rfl (aH ?_)) aU
   refine aT 1 [] (by kernel_rfl) ?_
   refine aD rfl rfl (bN (cW rfl (cb.rk.get rfl) rfl rfl rfl rfl ⟨by unfold maxLen;omega,by omega⟩) rfl rfl rfl (aH ?_)) aU
   refine aT 4 [] (by kernel_rfl) ?_
   refine aD rfl rfl (aE (eg (xs:=[_,_,_]) rfl (cb.st.get rfl) rfl rfl) rfl rfl rfl (aH ?_)) aU
   refine aT 5 [] (by kernel_rfl) ?_
   refine aD rfl rfl (bN (iG rfl rfl rfl) rfl rfl rfl (aH ?_)) aU
   refine aT 6 [] (by kernel_rfl) ?_
   refine aD rfl rfl (aE (cf rfl rfl) rfl rfl rfl (aH ?_)) aU
   refine aT 7 [] (by kernel_rfl) ?_
   refine aD rfl rfl (aE (cf rfl rfl) rfl rfl rfl (aH ?_)) aU
   refine jN (by kernel_rfl) ?_
   refine bU 3 2 3 1 rfl rfl ?_
   exact dO [0,3,2,1,4] (.cons 2 rfl (Ren.ptr (i:=1) rfl)<|.cons 3 rfl Ren.pure<|.nil) (.same hd rfl<|.kept rfl (.cells (aL.cons (Ren.own (i:=2) rfl)<|aL.cons (Ren.own (i:=3) rfl)<|aL.cons (Ren.own (i:=4) rfl) aL.nil))<|.kept rfl (.eR rfl (bB N))<|.kept rfl (.eR rfl (bB N))<|.kept rfl (.row aL.pure)<|.nil) rfl rfl hfin
  refine aD rfl rfl (bN (cW rfl (cb.rk.get rfl) rfl rfl rfl rfl ⟨by unfold maxLen;omega,by omega⟩) rfl rfl rfl (aH ?_)) aU
  refine aT 0 [] (by kernel_rfl) ?_
  refine aD rfl rfl (aE (cO rfl rfl) rfl rfl rfl (aH ?_)) aU
  refine aT 1 [] (by kernel_rfl) ?_
  refine aD rfl rfl (bN (cW rfl (cb.rk.get rfl) rfl rfl rfl rfl ⟨by unfold maxLen;omega,by omega⟩) rfl rfl rfl (aH ?_)) aU
  refine aT 4 [] (by kernel_rfl) ?_
  refine aD rfl rfl (aE (eg (xs:=[_,_,_]) rfl (cb.st.get rfl) rfl rfl) rfl rfl rfl (aH ?_)) aU
  refine aT 5 [] (by kernel_rfl) ?_
  refine aD rfl rfl (bN (iG rfl rfl rfl) rfl rfl rfl (aH ?_)) aU
  refine aT 6 [] (by kernel_rfl) ?_
  refine aD rfl rfl (aE (cf rfl rfl) rfl rfl rfl (aH ?_)) aU
  refine aT 7 [] (by kernel_rfl) ?_
  refine aD rfl rfl (aE (cf rfl rfl) rfl rfl rfl (aH ?_)) aU
  refine jN (by kernel_rfl) ?_
  refine bU 3 2 3 1 rfl rfl ?_
  exact dO [0,3,2,1,4] (.cons 2 rfl (Ren.ptr (i:=1) rfl)<|.cons 3 rfl Ren.pure<|.nil) (.same hd rfl<|.kept rfl (.cells (aL.cons (Ren.own (i:=2) rfl)<|aL.cons (Ren.own (i:=3) rfl)<|aL.cons (Ren.own (i:=4) rfl) aL.nil))<|.kept rfl (.eR rfl (bB N))<|.kept rfl (.eR rfl (bB N))<|.kept rfl (.row aL.pure)<|.nil) rfl rfl hfin
end PW
end Go.Proofs.YtnegbdpggideiaaDoor
namespace Go.Proofs.YtnegbdpggideiaaDoor
namespace Net
def cP(T:ab)(dir:Bool)(a:Nat):Int:=if dir then aK T a else bb T a
def bz(T:ab)(dir:Bool)(a:Nat):Int:=if dir then bb T a else aK T a
def at'(l:List Int)(x:Int):Int:=l.getD x.toNat (-1)
def Way(T:ab)(D:List Bool)(n:Nat)(dir:Bool)(out:List Int)(a:Nat):Prop:=
 bG D a=false∧0≤at' out (bz T dir a)∧(bz T dir a=(n:Int)∨bI T (bz T dir a).toNat=false)
structure dV (T:ab) (D:List Bool) (n:Nat) (dir:Bool) (out:List Int):Prop where
 len:(out.length:Int)=T.nodes
 root:at' out (n:Int)=0
 ge:∀x:Nat,(x:Int)<T.nodes→ -1≤at' out (x:Int)
 closed:∀a,a<2*T.aa.length→Way T D n dir out a→0≤at' out (cP T dir a)∧at' out (cP T dir a)≤at' out (bz T dir a)+a8 T a
 jF:∀x:Nat,(x:Int)<T.nodes→0≤at' out (x:Int)→x=n∨∃a,a<2*T.aa.length∧cP T dir a=(x:Int)∧Way T D n dir out a∧at' out (x:Int)=at' out (bz T dir a)+a8 T a
structure Sound (T:ab):Prop where
 cost:∀a,a<2*T.aa.length→1≤a8 T a∧a8 T a≤65535
 tail:∀a,a<2*T.aa.length→0≤bb T a∧bb T a<T.nodes
 head:∀a,a<2*T.aa.length→0≤aK T a∧aK T a<T.nodes
 nodes:1≤T.nodes∧T.nodes≤64
theorem Sound.x{T:ab}(h:Sound T)(dir:Bool)(a:Nat)(ha:a<2*T.aa.length):0≤cP T dir a∧cP T dir a<T.nodes:=by
 unfold cP;cases dir
 ·exact h.tail a ha
 ·exact h.head a ha
theorem Sound.y{T:ab}(h:Sound T)(dir:Bool)(a:Nat)(ha:a<2*T.aa.length):0≤bz T dir a∧bz T dir a<T.nodes:=by
 unfold bz;cases dir
 ·exact h.head a ha
 ·exact h.tail a ha
theorem mS{T:ab}(hT:Sound T){D:List Bool}{n:Nat}{dir:Bool}{out out':List Int}(h:dV T D n dir out)(h':dV T D n dir out'):
  ∀(k:Nat) (x:Nat),(x:Int)<T.nodes→at' out (x:Int)=(k:Int)→0≤at' out' (x:Int)∧at' out' (x:Int)≤at' out (x:Int):=by
 intro k
 induction k using Nat.strongRecOn with
 |_ k ih=>
  intro x hx hk
  rcases h.jF x hx (by omega)with rfl|⟨a,ha,hax,⟨w1,w2,w3⟩,he⟩
  ·rw[h'.root];omega
  ·have hc:=hT.cost a ha
   obtain⟨y,hy⟩:=Int.eq_ofNat_of_zero_le (hT.y dir a ha).1
   have hyn:=(hT.y dir a ha).2
   rw[hy]at w2 w3 he hyn
   obtain⟨j,hj⟩:=Int.eq_ofNat_of_zero_le w2
   have hlt:j<k:=by omega
   have h1:=ih j hlt y hyn hj
   have h2:=h'.closed a ha ⟨w1,by rw[hy];exact h1.1,by rw[hy];exact w3⟩
   rw[hax,hy]at h2
   exact⟨h2.1,by omega⟩
theorem tU(out:List Int)(x:Nat)(hx:x<out.length):at' out (x:Int)=out[x]:=by
 simp[at',hx]
theorem n9{T:ab}(hT:Sound T){D:List Bool}{n:Nat}{dir:Bool}{out out':List Int}(h:dV T D n dir out)(h':dV T D n dir out'):out=out':=by
 have hl:out.length=out'.length:=by have:=h.len;have:=h'.len;omega
 refine List.ext_getElem hl fun x h1 h2=>?_
 have hx:(x:Int)<T.nodes:=by have:=h.len;omega
 rw[←tU out x h1,←tU out' x h2]
 have g1:=h.ge x hx
 have g2:=h'.ge x hx
 by_cases c1:0≤at' out (x:Int)
 ·obtain⟨k,hk⟩:=Int.eq_ofNat_of_zero_le c1
  have a1:=mS hT h h' k x hx hk
  obtain⟨k',hk'⟩:=Int.eq_ofNat_of_zero_le a1.1
  have a2:=mS hT h' h k' x hx hk'
  omega
 ·by_cases c2:0≤at' out' (x:Int)
  ·obtain⟨k,hk⟩:=Int.eq_ofNat_of_zero_le c2
   have a1:=mS hT h' h k x hx hk
   omega
  ·omega
open Classical in
noncomputable def bH(T:ab)(D:List Bool)(n:Nat)(dir:Bool):List Int:=if h:∃out,dV T D n dir out then h.choose else []
theorem gf{T:ab}(hT:Sound T){D:List Bool}{n:Nat}{dir:Bool}{out:List Int}(h:dV T D n dir out):bH T D n dir=out:=by
 unfold bH
 rw[dif_pos ⟨out,h⟩]
 exact n9 hT (Exists.choose_spec (⟨out,h⟩:∃out,dV T D n dir out)) h
end Net
end Go.Proofs.YtnegbdpggideiaaDoor
namespace Go.Proofs.YtnegbdpggideiaaDoor
namespace Net
def gX:List Int→Nat
 | []=>0
 |v::l=>(if 0≤v then 1 else 0)+gX l
theorem jI(l:List Int):gX l≤l.length:=by
 induction l with
 |nil=>exact Nat.le_refl _
 |cons v l ih=>simp only[gX,List.length_cons];split<;>omega
theorem ke:∀(l:List Int) (i:Nat) (c:Int),i<l.length→0≤c→gX (l.set i c)=gX l+(if 0≤l.getD i (-1) then 0 else 1)
 | [],i,c,h,_=>by simp at h
 |v::l,0,c,_,hc=>by
  simp only[List.set_cons_zero,gX,List.getD_cons_zero]
  rw[if_pos hc]
  by_cases h:0≤v
  ·rw[if_pos h,if_pos h];omega
  ·rw[if_neg h,if_neg h];omega
 |v::l,i+1,c,h,hc=>by
  simp only[List.set_cons_succ,gX,List.getD_cons_succ]
  rw[ke l i c (by simpa using h) hc]
  omega
def xn(v:Int):Nat:=if v<0 then 4194241 else v.toNat
def mu:List Int→Nat
 | []=>0
 |v::l=>xn v+mu l
theorem sU:∀(l:List Int) (i:Nat) (c:Int),i<l.length→mu (l.set i c)+xn (l.getD i (-1))=mu l+xn c
 | [],i,c,h=>by simp at h
 |v::l,0,c,_=>by simp only[List.set_cons_zero,mu,List.getD_cons_zero];omega
 |v::l,i+1,c,h=>by
  have:=sU l i c (by simpa using h)
  simp only[List.set_cons_succ,mu,List.getD_cons_succ]
  omega
structure Inv (T:ab) (D:List Bool) (n:Nat) (dir:Bool) (out:List Int):Prop where
 len:(out.length:Int)=T.nodes
 root:at' out (n:Int)=0
 ge:∀x:Nat,(x:Int)<T.nodes→ -1≤at' out (x:Int)
 xz:∀x:Nat,(x:Int)<T.nodes→at' out (x:Int)≤65535*(gX out:Int)
 jF:∀x:Nat,(x:Int)<T.nodes→0≤at' out (x:Int)→x=n∨∃a,a<2*T.aa.length∧cP T dir a=(x:Int)∧Way T D n dir out a∧at' out (bz T dir a)+a8 T a≤at' out (x:Int)
def fM(T:ab)(D:List Bool)(n:Nat)(dir:Bool)(out:List Int)(a:Nat):Prop:=
 Way T D n dir out a∧(at' out (cP T dir a)<0∨at' out (bz T dir a)+a8 T a<at' out (cP T dir a))
def oS(T:ab)(dir:Bool)(out:List Int)(a:Nat):List Int:=out.set (cP T dir a).toNat (at' out (bz T dir a)+a8 T a)
theorem ph(out:List Int)(x y:Nat)(c:Int)(hx:x<out.length):at' (out.set x c) (y:Int)=if y=x then c else at' out (y:Int):=by
 simp only[at',Int.toNat_natCast,List.getD_eq_getElem?_getD,List.getElem?_set]
 by_cases h:x=y
 ·subst h;simp[hx]
 ·rw[if_neg h,if_neg (Ne.symm h)]
theorem lp{T:ab}(hT:Sound T){D:List Bool}{n:Nat}{dir:Bool}{out:List Int}(h:Inv T D n dir out)(a:Nat)(ha:a<2*T.aa.length)(hg:fM T D n dir out a):
  Inv T D n dir (oS T dir out a)∧mu (oS T dir out a)<mu out:=by
 obtain⟨⟨w1,w2,w3⟩,hb⟩:=hg
 have hc:=hT.cost a ha
 obtain⟨x,hx⟩:=Int.eq_ofNat_of_zero_le (hT.x dir a ha).1
 obtain⟨y,hy⟩:=Int.eq_ofNat_of_zero_le (hT.y dir a ha).1
 have hxn:=(hT.x dir a ha).2
 have hyn:=(hT.y dir a ha).2
 unfold oS
 rw[hx,hy,Int.toNat_natCast]
 rw[hx,hy]at hb
 rw[hy]at w2 w3
 rw[hx]at hxn
 rw[hy]at hyn
 have hlen:=h.len
 have hxl:x<out.length:=by omega
 generalize hcc:at' out (y:Int)+a8 T a=c at*
 have hby:=h.xz y hyn
 have hxr:x≠n:=fun e=>by
  rw[e,h.root]at hb
  omega
 have hcs:=ke out x c hxl (by omega)
 have hgx:out.getD x (-1)=at' out (x:Int):=by simp[at']
 rw[hgx]at hcs
 have at1:=fun z=>ph out x z c hxl
 have reach:∀z:Nat,(z:Int)<T.nodes→0≤at' out (z:Int)→0≤at' (out.set x c) (z:Int):=fun z _ hz=>by
  rw[at1 z];split<;>omega
 have less:∀z:Nat,(z:Int)<T.nodes→0≤at' out (z:Int)→at' (out.set x c) (z:Int)≤at' out (z:Int):=fun z _ hz=>by
  rw[at1 z]
  split
  ·rename_i e;subst e;omega
  ·omega
 have yI:∀b,b<2*T.aa.length→Way T D n dir out b→Way T D n dir (out.set x c) b:=fun b hbl ⟨v1,v2,v3⟩=>by
  obtain⟨z,hz⟩:=Int.eq_ofNat_of_zero_le (hT.y dir b hbl).1
  have hzn:=(hT.y dir b hbl).2
  refine⟨v1,?_,v3⟩
  rw[hz]at v2 hzn ⊢
  exact reach z hzn v2
 refine⟨⟨by rw[List.length_set];exact hlen,?_,fun z hz=>?_,fun z hz=>?_,fun z hz h0=>?_⟩,?_⟩
 ·rw[at1 n,if_neg (Ne.symm hxr)];exact h.root
 ·rw[at1 z];split
  ·omega
  ·exact h.ge z hz
 ·rw[at1 z]
  have hbz:=h.xz z hz
  have:(gX out:Int)≤(gX (out.set x c):Int):=by rw[hcs];split<;>omega
  split
  ·rw[hcs]
   rename_i e
   subst e
   by_cases hr:0≤at' out (z:Int)
   ·rw[if_pos hr];omega
   ·rw[if_neg hr];omega
  ·omega
 ·by_cases e:z=x
  ·subst e
   refine .inr ⟨a,ha,hx,yI a ha ⟨w1,by rw[hy];exact w2,by rw[hy];exact w3⟩,?_⟩
   rw[hy,at1 z,if_pos rfl]
   have:=less y hyn w2
   omega
  ·rw[at1 z,if_neg e]at h0
   rcases h.jF z hz h0 with e2|⟨b,hbl,hbx,hbw,hbe⟩
   ·exact .inl e2
   ·refine .inr ⟨b,hbl,hbx,yI b hbl hbw,?_⟩
    rw[at1 z,if_neg e]
    obtain⟨u,hu⟩:=Int.eq_ofNat_of_zero_le (hT.y dir b hbl).1
    have hun:=(hT.y dir b hbl).2
    have hw2:=hbw.2.1
    rw[hu]at hun hbe hw2 ⊢
    have:=less u hun hw2
    omega
 ·have hm:=sU out x c hxl
  rw[hgx]at hm
  have hcl:=jI out
  have hnn:=hT.nodes
  have hcb:c≤4194240:=by
   rcases hb with hb|hb
   ·have hlt:gX out<out.length:=by
     have:=jI (out.set x c)
     rw[List.length_set,hcs,if_neg (by omega)]at this
     omega
    omega
   ·have:=h.xz x hxn;omega
  have hw1:xn c=c.toNat:=by unfold xn;rw[if_neg (by omega)]
  have hw2:xn (at' out (x:Int))=if at' out (x:Int)<0 then 4194241 else(at' out (x:Int)).toNat:=rfl
  rw[hw1,hw2]at hm
  rcases hb with hb|hb
  ·rw[if_pos hb]at hm;omega
  ·by_cases hr:at' out (x:Int)<0
   ·rw[if_pos hr]at hm;omega
   ·rw[if_neg hr]at hm;omega
theorem oB{T:ab}{D:List Bool}{n:Nat}{dir:Bool}{out:List Int}(h:Inv T D n dir out)(hn:∀a,a<2*T.aa.length→¬fM T D n dir out a):dV T D n dir out:=by
 have closed:∀a,a<2*T.aa.length→Way T D n dir out a→0≤at' out (cP T dir a)∧at' out (cP T dir a)≤at' out (bz T dir a)+a8 T a:=fun a ha hw=>by
  have:=hn a ha
  unfold fM at this
  have h2:¬(at' out (cP T dir a)<0∨at' out (bz T dir a)+a8 T a<at' out (cP T dir a)):=fun e=>this ⟨hw,e⟩
  omega
 refine⟨h.len,h.root,h.ge,closed,fun x hx h0=>?_⟩
 rcases h.jF x hx h0 with e|⟨a,ha,hax,hw,he⟩
 ·exact .inl e
 ·refine .inr ⟨a,ha,hax,hw,?_⟩
  have:=closed a ha hw
  rw[hax]at this
  omega
def start(N n:Nat):List Int:=(List.replicate N (-1)).set n 0
theorem iM(N n:Nat)(hn:n<N)(x:Nat)(hx:x<N):at' (start N n) (x:Int)=if x=n then 0 else -1:=by
 unfold start
 rw[ph _ n x 0 (by simpa using hn)]
 split
 ·rfl
 ·simp[at',hx]
theorem jE{T:ab}{D:List Bool}{N n:Nat}{dir:Bool}(hN:(N:Int)=T.nodes)(hn:n<N):Inv T D n dir (start N n):=by
 have hc:1≤gX (start N n):=by
  unfold start
  rw[ke _ n 0 (by simpa using hn) (by omega)]
  have:(List.replicate N (-1:Int)).getD n (-1)= -1:=by simp[hn]
  rw[this]
  simp
 refine⟨by simp[start];exact hN,by rw[iM N n hn n hn,if_pos rfl],fun x hx=>?_,fun x hx=>?_,fun x hx h0=>?_⟩
 ·rw[iM N n hn x (by omega)];split<;>omega
 ·rw[iM N n hn x (by omega)];split<;>omega
 ·rw[iM N n hn x (by omega)]at h0
  by_cases e:x=n
  ·exact .inl e
  ·rw[if_neg e]at h0;omega
theorem ga{T:ab}(hT:Sound T){D:List Bool}{n:Nat}{dir:Bool}:∀(k:Nat) (out:List Int),mu out=k→Inv T D n dir out→∃out',dV T D n dir out'∧Inv T D n dir out':=by
 intro k
 induction k using Nat.strongRecOn with
 |_ k ih=>
  intro out hk hi
  by_cases h:∃a,a<2*T.aa.length∧fM T D n dir out a
  ·obtain⟨a,ha,hg⟩:=h
   obtain⟨h1,h2⟩:=lp hT hi a ha hg
   exact ih _ (by omega) _ rfl h1
  ·exact⟨out,oB hi fun a ha hg=>h ⟨a,ha,hg⟩,hi⟩
theorem lu{T:ab}(hT:Sound T)(D:List Bool){n:Nat}(dir:Bool)(hn:(n:Int)<T.nodes):dV T D n dir (bH T D n dir):=by
 obtain⟨N,hN⟩:=Int.eq_ofNat_of_zero_le (by have:=hT.nodes.1;omega:0≤T.nodes)
 obtain⟨out,ho,_⟩:=ga hT _ (start N n) rfl (jE (D:=D) (dir:=dir) hN.symm (by omega))
 rw[gf hT ho]
 exact ho
theorem rM{T:ab}(hT:Sound T)(D:List Bool){n:Nat}(dir:Bool)(hn:(n:Int)<T.nodes):Inv T D n dir (bH T D n dir):=by
 obtain⟨N,hN⟩:=Int.eq_ofNat_of_zero_le (by have:=hT.nodes.1;omega:0≤T.nodes)
 obtain⟨out,ho,hi⟩:=ga hT _ (start N n) rfl (jE (D:=D) (dir:=dir) hN.symm (by omega))
 rw[gf hT ho]
 exact hi
end Net
end Go.Proofs.YtnegbdpggideiaaDoor
namespace Go.Proofs.YtnegbdpggideiaaDoor
namespace Net
theorem aC{T:ab}(h:aj T=true):Sound T:=by
 have hb:=eP h
 have lk:∀i,i<T.aa.length→(0≤(dh T.aa i).a∧(dh T.aa i).a<T.nodes)∧(0≤(dh T.aa i).b∧(dh T.aa i).b<T.nodes)∧(1≤(dh T.aa i).c0∧(dh T.aa i).c0≤65535)∧(1≤(dh T.aa i).c1∧(dh T.aa i).c1≤65535):=fun i hi=>by
  have:=pL h i hi
  simp only[eA,aS,aM,Bool.and_eq_true,decide_eq_true_eq]at this
  obtain⟨⟨⟨⟨⟨⟨⟨_,h1⟩,h2⟩,h3⟩,h4⟩,_⟩,_⟩,_⟩:=this
  exact⟨h1,h2,h3,h4⟩
 have fl:∀a,a<2*T.aa.length→flip a<2*T.aa.length:=fun a ha=>by unfold flip;split<;>omega
 have tl:∀a,a<2*T.aa.length→0≤bb T a∧bb T a<T.nodes:=fun a ha=>by
  have:=lk (a / 2) (by omega)
  unfold bb;split
  ·exact this.1
  ·exact this.2.1
 refine⟨fun a ha=>?_,tl,fun a ha=>tl _ (fl a ha),⟨hb.1,hb.2.1⟩⟩
 have:=lk (a / 2) (by omega)
 unfold a8;split
 ·exact this.2.2.1
 ·exact this.2.2.2
def dU(N k:Nat):List Int:=List.replicate k (-1)++List.replicate (N - k) 0
theorem oD(N k:Nat)(h:k<N):(dU N k).set k (-1)=dU N (k+1):=by
 unfold dU
 rw[List.set_append_right _ _ (by simp)]
 rw[List.length_replicate,Nat.sub_self,show N - k=(N - (k+1))+1 by omega,List.replicate_succ,List.set_cons_zero,List.replicate_succ',List.append_assoc]
 rfl
theorem pT(N n:Nat):(dU N N).set n 0=start N n:=by simp[dU,start]
theorem Inv.ub{T:ab}{D:List Bool}{n:Nat}{dir:Bool}{out:List Int}(h:Inv T D n dir out)(x:Nat)(hx:(x:Int)<T.nodes)(hN:T.nodes≤64):at' out (x:Int)≤4194240:=by
 have h1:=h.xz x hx
 have h2:=jI out
 have h3:=h.len
 omega
end Net
end Go.Proofs.YtnegbdpggideiaaDoor
namespace Go.Proofs.YtnegbdpggideiaaDoor
namespace PW
open Go.RowKit aN Mem Net
theorem nb(T:ab)(hv:aj T=true):Can Tryd.prog 98 [a6 T] (· =jU (cH (aK T) T.nodes.toNat (2*T.aa.length))):=by
 have hbd:=eP hv
 have hS:=aC hv
 obtain⟨n,hn⟩:∃n:Nat,T.nodes=(n:Int):=⟨T.nodes.toNat,by omega⟩
 rw[show T.nodes.toNat=n by omega]
 refine aI Tryd.func98 rfl Tryd.ntmps98 rfl<|af (.a 2 rfl<|.k [1] rfl)<|aX<|av 2 rfl<|dJ (cW rfl (cb.rk.get rfl) rfl rfl hn hn ⟨by unfold maxLen;omega,by omega⟩) rfl<|av 1 rfl<|aQ [1,3] rfl ?_
 refine nO 23 3 n ?_
 refine ak<|af (.a 1 rfl<|.c rfl (iX T (by omega)) rfl<|.a 1 rfl<|.k [1,3,10,11] rfl)<|aq<|iC [1,3,10,11] rfl<|br (fun r s=>∃k,k≤2*T.aa.length∧r=2*T.aa.length - k∧s=⟨[(1,.b6 (b5 T) 0),(3,.own 0),(10,num (2*(T.aa.length:Int))),(11,num k)],gr 23 3 (cH (aK T) n k)⟩) (2*T.aa.length) ⟨0,by omega,by omega,by rw[oZ];rfl⟩ ?_
 rintro r s ⟨k,hk,rfl,rfl⟩
 refine af (.a 1 rfl<|.k [1,3,10,11,12] rfl)<|ak<|ag rfl (fun hc=>?_) (fun hc=>?_)
 ·have hlt:k<2*T.aa.length:=by have:=of_decide_eq_true hc;omega
  obtain⟨hd0,hhN⟩:=hS.head k hlt
  obtain⟨m,hm⟩:=Int.eq_ofNat_of_zero_le hd0
  have hmn:m<n:=by omega
  have hrl:=gI (aK T) n k
  have hgl:((cH (aK T) n k).getD m []).length≤k:=by
   rw[jO _ _ _ _ hmn]
   simp only[List.length_map]
   exact Nat.le_trans (List.length_filter_le _ _) (by simp)
  refine ai<|ak<|aq<|af (.a 2 rfl<|.k [1,3,4,10,11] rfl)<|af (.a 2 rfl<|.c rfl (hm▸iT T k hlt (by omega)) rfl<|.a 1 rfl<|.k [1,3,4,5,10,11] rfl)<|bK<|av 4 rfl<|bZ (aR (m) rfl) rfl<|bZ (aO rfl (iQ _ m (by omega))) rfl<|av 2 rfl<|dJ (ct rfl (cb.rk.get rfl) rfl (iN _ _ _ m (by omega)) rfl rfl ⟨by unfold maxLen;omega,by omega⟩) rfl<|bZ (aR (m) rfl) rfl<|bE (ll rfl (cb.tk.get rfl) rfl rfl rfl (by show m<(dq _).length;simp[dq];omega)) rfl rfl<|aQ [1,3,10,11] rfl ?_
  refine dO (vJ (cH (aK T) n k).length m) (.cons 1 rfl Ren.pure<|.cons 3 rfl (Ren.own (i:=0) rfl)<|.cons 10 rfl Ren.pure<|.cons 11 rfl Ren.pure<|.nil) (s9 23 3 (cH (aK T) n k) m (by omega) (k:Int)) (rJ _ _) rfl ?_
  rw[←pN (aK T) n k m hm hmn]
  refine aF (.v (bf rfl) rfl<|.a 1 rfl<|.k [1,3,10,11] rfl) ?_
  exact⟨2*T.aa.length - (k+1),by omega,k+1,by omega,rfl,rfl⟩
 ·have hke:k=2*T.aa.length:=by have:=of_decide_eq_false hc;omega
  subst hke
  exact bn<|af (.a 2 rfl<|.k [2] rfl)<|an<|⟨_,_,ax.of rfl,ur _ _ _,rfl⟩
end PW
end Go.Proofs.YtnegbdpggideiaaDoor
namespace Go.Proofs.YtnegbdpggideiaaDoor
namespace Net
structure oL (T:ab) (D:List Bool) (n:Nat) (dir:Bool) (out K:List Int) (H:Nat→Prop) (S:Nat→Prop):Prop where
 len:(out.length:Int)=T.nodes
 ge:∀x:Nat,(x:Int)<T.nodes→ -1≤at' out (x:Int)
 root:at' out (n:Int)=0∨(H n∧K.getD n 0=0)
 lJ:∀y,H y→(y:Int)<T.nodes∧at' out (y:Int)= -1
 mono:∀x y:Nat,(x:Int)<T.nodes→H y→at' out (x:Int)≤K.getD y 0
 j7:∀y,H y→(y=n∧K.getD y 0=0)∨∃a,a<2*T.aa.length∧cP T dir a=(y:Int)∧Way T D n dir out a∧K.getD y 0=at' out (bz T dir a)+a8 T a
 jF:∀x:Nat,(x:Int)<T.nodes→0≤at' out (x:Int)→x=n∨∃a,a<2*T.aa.length∧cP T dir a=(x:Int)∧Way T D n dir out a∧at' out (x:Int)=at' out (bz T dir a)+a8 T a
 closed:∀a,a<2*T.aa.length→¬S a→Way T D n dir out a→(0≤at' out (cP T dir a)∧at' out (cP T dir a)≤at' out (bz T dir a)+a8 T a)∨(H (cP T dir a).toNat∧K.getD (cP T dir a).toNat 0≤at' out (bz T dir a)+a8 T a)
 ub:∀x:Nat,(x:Int)<T.nodes→at' out (x:Int)≤65535*(gX out:Int)
 xc:∀y,H y→K.getD y 0≤65535*(gX out:Int)
theorem oL.key{T:ab}(hT:Sound T){D:List Bool}{n:Nat}{dir:Bool}{out K:List Int}{H S:Nat→Prop}(h:oL T D n dir out K H S){y:Nat}(hy:H y):0≤K.getD y 0:=by
 rcases h.j7 y hy with⟨_,h0⟩|⟨a,ha,_,hw,he⟩
 ·omega
 ·have:=hT.cost a ha
  have:=hw.2.1
  omega
theorem wN(L:List Int)(i j:Nat)(c:Int)(hi:i<L.length):(L.set i c).getD j 0=if j=i then c else L.getD j 0:=by
 by_cases h:j=i
 ·subst h;simp[List.getD_eq_getElem?_getD,hi]
 ·simp[List.getD_eq_getElem?_getD,List.getElem?_set,Ne.symm h,h]
theorem qw(N:Nat):gX (List.replicate N (-1))=0:=by
 induction N with
 |zero=>rfl
 |succ N ih=>rw[List.replicate_succ];simp[gX,ih]
theorem kP(N x:Nat):at' (List.replicate N (-1)) (x:Int)= -1:=by
 unfold at'
 rw[List.getD_eq_getElem?_getD,List.getElem?_replicate]
 split<;>rfl
theorem rv{T:ab}{D:List Bool}{N n:Nat}{dir:Bool}(hN:(N:Int)=T.nodes)(hn:n<N){K:List Int}{H:Nat→Prop}(hK:K.getD n 0=0)(hH:∀y,H y↔y=n):oL T D n dir (List.replicate N (-1)) K H (fun _=>False) where
 len:=by simpa using hN
 ge x _:=by rw[kP];omega
 root:=.inr ⟨(hH n).2 rfl,hK⟩
 lJ y hy:=by have:=(hH y).1 hy;subst this;exact⟨by omega,kP N y⟩
 mono x y _ hy:=by have:=(hH y).1 hy;subst this;rw[kP,hK];omega
 j7 y hy:=by have:=(hH y).1 hy;subst this;exact .inl ⟨rfl,hK⟩
 jF x _ h:=by rw[kP]at h;omega
 closed a _ _ hw:=by
  have:=hw.2.1
  have h2:at' (List.replicate N (-1)) (bz T dir a)= -1:=by
   unfold at'
   rw[List.getD_eq_getElem?_getD,List.getElem?_replicate]
   split<;>rfl
  rw[h2]at this;omega
 ub x _:=by rw[kP,qw];omega
 xc y hy:=by have:=(hH y).1 hy;subst this;rw[hK,qw];omega
theorem vD{T:ab}(hT:Sound T){D:List Bool}{n:Nat}{dir:Bool}{out K:List Int}{H:Nat→Prop}(h:oL T D n dir out K H (fun _=>False)){i:Nat}(hi:H i)(hmin:∀j,H j→K.getD i 0≤K.getD j 0)(hKl:i<K.length){H':Nat→Prop}(hH':∀j,H' j↔H j∧j≠i):
  oL T D n dir (out.set i (K.getD i 0)) (K.set i 0) H' (fun a=>bz T dir a=(i:Int))∧gX (out.set i (K.getD i 0))=gX out+1∧(∀x:Nat,(x:Int)<T.nodes→at' (out.set i (K.getD i 0)) (x:Int)≤K.getD i 0)∧at' (out.set i (K.getD i 0)) (i:Int)=K.getD i 0∧0≤K.getD i 0∧K.getD i 0≤65535*(gX out:Int):=by
 obtain⟨hin,hineg⟩:=h.lJ i hi
 have hil:i<out.length:=by have:=h.len;omega
 have hd:=h.key hT hi
 have hdu:=h.xc i hi
 have hat:=fun x:Nat=>ph out i x (K.getD i 0) hil
 have hK:∀j,j≠i→(K.set i 0).getD j 0=K.getD j 0:=fun j hj=>by rw[wN _ _ _ _ hKl,if_neg hj]
 have hcnt:gX (out.set i (K.getD i 0))=gX out+1:=by
  rw[ke out i _ hil hd,if_neg]
  have:out.getD i (-1)=at' out (i:Int):=by simp[at']
  rw[this,hineg];omega
 have hy:∀a,a<2*T.aa.length→Way T D n dir out a→Way T D n dir (out.set i (K.getD i 0)) a∧at' (out.set i (K.getD i 0)) (bz T dir a)=at' out (bz T dir a):=fun a ha hw=>by
  obtain⟨y,hy⟩:=Int.eq_ofNat_of_zero_le (hT.y dir a ha).1
  have hne:y≠i:=fun e=>by
   have:=hw.2.1
   rw[hy,e,hineg]at this;omega
  have e1:at' (out.set i (K.getD i 0)) (bz T dir a)=at' out (bz T dir a):=by rw[hy,hat y,if_neg hne]
  exact⟨⟨hw.1,by rw[e1];exact hw.2.1,hw.2.2⟩,e1⟩
 refine⟨⟨by simpa using h.len,fun x hx=>?_,?_,fun y hy'=>?_,fun x y hx hy'=>?_,fun y hy'=>?_,fun x hx h0=>?_,fun a ha hs hw=>?_,fun x hx=>?_,fun y hy'=>?_⟩,hcnt,fun x hx=>?_,by rw[hat i,if_pos rfl],hd,hdu⟩
 ·rw[hat x];split
  ·omega
  ·exact h.ge x hx
 ·by_cases e:n=i
  ·subst e
   left
   rw[hat n,if_pos rfl]
   rcases h.root with h0|⟨_,h0⟩
   ·omega
   ·exact h0
  ·rcases h.root with h0|⟨h1,h0⟩
   ·left;rw[hat n,if_neg e];exact h0
   ·right;exact⟨(hH' n).2 ⟨h1,e⟩,by rw[hK n e];exact h0⟩
 ·obtain⟨h1,h2⟩:=(hH' y).1 hy'
  obtain⟨h3,h4⟩:=h.lJ y h1
  exact⟨h3,by rw[hat y,if_neg h2];exact h4⟩
 ·obtain⟨h1,h2⟩:=(hH' y).1 hy'
  rw[hat x,hK y h2]
  split
  ·exact hmin y h1
  ·exact h.mono x y hx h1
 ·obtain⟨h1,h2⟩:=(hH' y).1 hy'
  rw[hK y h2]
  rcases h.j7 y h1 with h3|⟨a,ha,hx,hw,he⟩
  ·exact .inl h3
  ·obtain⟨k1,k2⟩:=hy a ha hw
   exact .inr ⟨a,ha,hx,k1,by rw[k2];exact he⟩
 ·rw[hat x]at h0 ⊢
  by_cases e:x=i
  ·subst e
   rw[if_pos rfl]
   rcases h.j7 x hi with⟨h3,_⟩|⟨a,ha,hx,hw,he⟩
   ·exact .inl h3
   ·obtain⟨k1,k2⟩:=hy a ha hw
    exact .inr ⟨a,ha,hx,k1,by rw[k2];exact he⟩
  ·rw[if_neg e]at h0 ⊢
   rcases h.jF x hx h0 with h3|⟨a,ha,hx,hw,he⟩
   ·exact .inl h3
   ·obtain⟨k1,k2⟩:=hy a ha hw
    exact .inr ⟨a,ha,hx,k1,by rw[k2];exact he⟩
 ·obtain⟨y,hya⟩:=Int.eq_ofNat_of_zero_le (hT.y dir a ha).1
  have hne:y≠i:=fun e=>hs (by rw[hya,e])
  have e1:at' (out.set i (K.getD i 0)) (bz T dir a)=at' out (bz T dir a):=by rw[hya,hat y,if_neg hne]
  have hw0:Way T D n dir out a:=⟨hw.1,by rw[←e1];exact hw.2.1,hw.2.2⟩
  obtain⟨x,hxa⟩:=Int.eq_ofNat_of_zero_le (hT.x dir a ha).1
  have hc:=h.closed a ha (fun f=>f) hw0
  rw[e1]
  rw[hxa]at hc ⊢
  rw[Int.toNat_natCast]at hc ⊢
  rw[hat x]
  by_cases e:x=i
  ·subst e
   left
   rw[if_pos rfl]
   rcases hc with⟨h1,_⟩|⟨_,h2⟩
   ·rw[hineg]at h1;omega
   ·exact⟨hd,h2⟩
  ·rw[if_neg e]
   rcases hc with h1|⟨h1,h2⟩
   ·exact .inl h1
   ·exact .inr ⟨(hH' x).2 ⟨h1,e⟩,by rw[hK x e];exact h2⟩
 ·rw[hat x,hcnt]
  split
  ·omega
  ·have:=h.ub x hx;omega
 ·obtain⟨h1,h2⟩:=(hH' y).1 hy'
  rw[hK y h2,hcnt]
  have:=h.xc y h1;omega
 ·rw[hat x]
  split
  ·omega
  ·exact h.mono x i hx hi
theorem tN{T:ab}{D:List Bool}{n:Nat}{dir:Bool}{out K:List Int}{H:Nat→Prop}{i:Nat}(h:oL T D n dir out K H (fun a=>bz T dir a=(i:Int)))(hi:i≠n)(ho:bI T i=true):oL T D n dir out K H (fun _=>False):=
 {h with closed:=fun a ha _ hw=>h.closed a ha (fun e=>by
   rcases hw.2.2 with h1|h1
   ·rw[h1]at e;exact hi (by omega)
   ·rw[e,Int.toNat_natCast,ho]at h1;cases h1) hw}
theorem qv{T:ab}{D:List Bool}{n:Nat}{dir:Bool}{out K:List Int}{H S S':Nat→Prop}(h:oL T D n dir out K H S){a:Nat}(hS:∀b,b<2*T.aa.length→S b→S' b∨b=a)
  (hc:Way T D n dir out a→(0≤at' out (cP T dir a)∧at' out (cP T dir a)≤at' out (bz T dir a)+a8 T a)∨(H (cP T dir a).toNat∧K.getD (cP T dir a).toNat 0≤at' out (bz T dir a)+a8 T a)):oL T D n dir out K H S':=
 ⟨h.len,h.ge,h.root,h.lJ,h.mono,h.j7,h.jF,fun b hb hs hw=>by
   by_cases e:b=a
   ·subst e
    exact hc hw
   ·exact h.closed b hb (fun hb'=>(hS b hb hb').elim hs e) hw,h.ub,h.xc⟩
theorem vP{T:ab}(hT:Sound T){D:List Bool}{n:Nat}{dir:Bool}{out K:List Int}{H H' S S':Nat→Prop}(h:oL T D n dir out K H S){a m:Nat}(ha:a<2*T.aa.length)(hS:∀b,b<2*T.aa.length→S b→S' b∨b=a)
  (hw:Way T D n dir out a) (hm:cP T dir a=(m:Int)) (lJ:at' out (m:Int)<0) (htop:∀x:Nat,(x:Int)<T.nodes→at' out (x:Int)≤at' out (bz T dir a)) (hub:at' out (bz T dir a)+65535≤65535*(gX out:Int))
  (hnew:¬H m∨at' out (bz T dir a)+a8 T a<K.getD m 0) (hml:m<K.length) (hH':∀j,H' j↔H j∨j=m):
  oL T D n dir out (K.set m (at' out (bz T dir a)+a8 T a)) H' S':=by
 have hc:=hT.cost a ha
 have hmN:(m:Int)<T.nodes:=by have:=(hT.x dir a ha).2;omega
 have hK:∀j,(K.set m (at' out (bz T dir a)+a8 T a)).getD j 0=if j=m then at' out (bz T dir a)+a8 T a else K.getD j 0:=fun j=>wN _ _ _ _ hml
 have hy0:=hw.2.1
 refine⟨h.len,h.ge,?_,fun y hy=>?_,fun x y hx hy=>?_,fun y hy=>?_,h.jF,fun b hb hs hwb=>?_,h.ub,fun y hy=>?_⟩
 ·rcases h.root with h0|⟨h1,h0⟩
  ·exact .inl h0
  ·right
   refine⟨(hH' n).2 (.inl h1),?_⟩
   rw[hK n,if_neg,h0]
   intro e
   subst e
   rcases hnew with h2|h2
   ·exact h2 h1
   ·omega
 ·rcases(hH' y).1 hy with h1|rfl
  ·exact h.lJ y h1
  ·have:=h.ge y hmN
   exact⟨hmN,by omega⟩
 ·rw[hK y]
  have:=htop x hx
  split
  ·omega
  ·rename_i e
   exact h.mono x y hx (((hH' y).1 hy).resolve_right e)
 ·rw[hK y]
  by_cases e:y=m
  ·subst e
   rw[if_pos rfl]
   exact .inr ⟨a,ha,hm,hw,rfl⟩
  ·rw[if_neg e]
   exact h.j7 y (((hH' y).1 hy).resolve_right e)
 ·obtain⟨x,hx⟩:=Int.eq_ofNat_of_zero_le (hT.x dir b hb).1
  by_cases e:b=a
  ·subst e
   right
   rw[hm,Int.toNat_natCast]
   exact⟨(hH' m).2 (.inr rfl),by rw[hK m,if_pos rfl];exact Int.le_refl _⟩
  ·have h1:=h.closed b hb (fun hb'=>(hS b hb hb').elim hs e) hwb
   rw[hx,Int.toNat_natCast]at h1 ⊢
   rcases h1 with h1|⟨h1,h2⟩
   ·exact .inl h1
   ·right
    refine⟨(hH' x).2 (.inl h1),?_⟩
    rw[hK x]
    split
    ·rename_i e'
     subst e'
     rcases hnew with h3|h3
     ·exact absurd h1 h3
     ·omega
    ·exact h2
 ·rw[hK y]
  split
  ·omega
  ·rename_i e
   exact h.xc y (((hH' y).1 hy).resolve_right e)
theorem vy{T:ab}{D:List Bool}{n:Nat}{dir:Bool}{out K:List Int}{H:Nat→Prop}(h:oL T D n dir out K H (fun _=>False))(hH:∀y,¬H y):dV T D n dir out:=
 ⟨h.len,h.root.resolve_right (fun k=>hH n k.1),h.ge,fun a ha hw=>(h.closed a ha (fun f=>f) hw).resolve_right (fun k=>hH _ k.1),h.jF⟩
end Net
end Go.Proofs.YtnegbdpggideiaaDoor
namespace Go.Proofs.YtnegbdpggideiaaDoor
namespace PW
open Go.RowKit aN Mem Net Heap
theorem ve{N n:Nat}{K P O:List Int}(h:sC N n K P O)(hN:N≤65536){i:Nat}(hi:O.getD 0 0=(i:Int))(j:Nat)(hj:cj O (j:Int)):K.getD i 0≤K.getD j 0:=by
 obtain⟨hP,hO,hK,hH⟩:=h
 obtain⟨p,hp,he⟩:=hj
 have h1:=ri hH p (by omega)
 unfold rk at h1
 rw[hi,he]at h1
 have h2:=hP.item p hp
 have:=sF (by omega) (by omega) h1
 simpa using this
theorem vB(N:Nat):sC N 0 (List.replicate N 0) (List.replicate N 0) []:=
 ⟨⟨by simp,fun p hp=>by simp at hp,fun i hi=>.inl (by simp[List.getD_eq_getElem?_getD,List.getElem?_replicate,hi])⟩,rfl,by simp,fun q _ hq=>by omega⟩
theorem pG{P:Program}{M:Nat}{c:Code}{t:a7}{Q:Exit→St→Prop}{b:Bool}{d:Option cB}{N n:Nat}{K Pl O:List Int}(hd:fR d)(hT:ij [0,1,2,3,5] t t)(h:W P M 0 c ⟨t,dY false d N n K Pl O⟩ Q):W P M 0 c ⟨t,dY b d N n K Pl O⟩ Q:=by
 cases b
 ·exact h
 ·exact dO [0,1,2,3,5] hT (.same hd rfl<|.kept rfl (.cells (aL.cons (Ren.own (i:=2) rfl)<|aL.cons (Ren.own (i:=3) rfl)<|aL.cons (Ren.own (i:=4) rfl) aL.nil))<|.kept rfl (.row aL.pure)<|.kept rfl (.row aL.pure)<|.kept rfl (.row aL.pure)<|.nil) rfl rfl h
theorem kK{P:Program}{M L:Nat}{c:Code}{t:a7}{Q:Exit→St→Prop}{σ σ':bo}(he:σ=σ')(h:W P M L c ⟨t,σ'⟩ Q):W P M L c ⟨t,σ⟩ Q:=by subst he;exact h
theorem vY{N n:Nat}(d:Option cB)(hd:fR d)(K P O:List Int)(h:sC N n K P O)(hN:N≤65536):
  bQ Tryd.prog 110 [.ptr 1 0] (dY false d N n K P O) (fun r σ'=>∃(b ok:Bool) (i n':Nat) (key:Int) (K' P' O':List Int),r= .tuple [num i,num key,flag ok]∧σ'=dY b d N n' K' P' O'∧
   ((ok=false∧n=0)∨(ok=true∧i<N∧cj O (i:Int)∧(∀j:Nat,cj O (j:Int)→K.getD i 0≤K.getD j 0)∧key=K.getD i 0∧K'=K.set i 0∧sC N n' K' P' O'∧∀j:Nat,cj O' (j:Int)↔cj O (j:Int)∧j≠i))):=by
 refine(uQ d hd K P O h hN).mono fun r σ' hr=>?_
 rcases hr with⟨h1,rfl,rfl⟩|⟨n',i,P',O',h1,h2,h3,rfl,rfl,h4,h5⟩
 ·exact⟨false,false,0,n,0,K,P,O,rfl,rfl,.inl ⟨rfl,h1⟩⟩
 ·refine⟨true,true,i,n',K.getD i 0,K.set i 0,P',O',rfl,rfl,.inr ⟨rfl,h2,⟨0,by have:=h.2.1;omega,h3⟩,ve h hN h3,rfl,rfl,h4,fun j=>(h5 j).trans ?_⟩⟩
  constructor<;>rintro⟨a,b⟩<;>exact⟨a,by omega⟩
def gO(T:ab)(D:List Bool)(n:Nat)(f1 f2:FuncId)(cap1 cap2:List PV):List PV:=[.raw (.int .i64 T.nodes),bA T.over,.slice T.aa.length (ia T.aa),bA D,num n,.func f1 cap1,.func f2 cap2]
instance (T:ab) (D:List Bool) (n:Nat) (f1 f2:FuncId) (cap1 cap2:List PV) [ao cap1] [ao cap2]:ao (gO T D n f1 f2 cap1 cap2):=by unfold gO;infer_instance
def bu(T:ab)(dir:Bool)(i:Nat):List Int:=((List.range (2*T.aa.length)).filter fun a=>decide (bz T dir a=(i:Int))).map Int.ofNat
theorem lC(T:ab)(dir:Bool)(i:Nat)(a:Nat):(a:Int)∈bu T dir i↔a<2*T.aa.length∧bz T dir a=(i:Int):=by
 unfold bu
 simp only[List.mem_map,List.mem_filter,List.mem_range,decide_eq_true_eq]
 constructor
 ·rintro⟨b,h,e⟩
  have:b=a:=Int.ofNat.inj e
  subst this;exact h
 ·intro h;exact⟨a,h,rfl⟩
theorem o5(T:ab)(dir:Bool)(i k:Nat)(h:k<(bu T dir i).length):∃a:Nat,(bu T dir i).getD k 0=(a:Int)∧a<2*T.aa.length∧bz T dir a=(i:Int):=by
 have hm:(bu T dir i).getD k 0∈bu T dir i:=cS h
 have:∃a:Nat,(bu T dir i).getD k 0=(a:Int):=by
  unfold bu at hm ⊢
  obtain⟨b,_,e⟩:=List.mem_map.1 hm
  exact⟨b,e.symm⟩
 obtain⟨a,ha⟩:=this
 rw[ha]at hm
 exact⟨a,ha,(lC T dir i a).1 hm⟩
theorem pH(T:ab)(dir:Bool)(i:Nat):(bu T dir i).length≤2*T.aa.length:=by
 unfold bu
 rw[List.length_map]
 exact Nat.le_trans (List.length_filter_le _ _) (by simp)
theorem uv(N k:Nat)(h:k<N):(List.replicate k (-1:Int)++List.replicate (N - k) 0).set k (-1)=List.replicate (k+1) (-1)++List.replicate (N - (k+1)) 0:=by
 rw[List.set_append_right _ _ (by simp),List.length_replicate,Nat.sub_self,show N - k=(N - (k+1))+1 by omega,List.replicate_succ,List.set_cons_zero,List.replicate_succ',List.append_assoc]
 rfl
theorem kp(N:Nat):db [.raw (.int .i64 0)] N=aG (List.replicate 0 (-1)++List.replicate (N - 0) 0):=by simpa using bB N
theorem fC(n:Nat)(L:List Int):fR (some (.row 3 1 n (aG L))):=fun b h=>by
 cases h
 exact inferInstanceAs (ao (aG L))
theorem wY{σ:bo}{K P O:List Int}(h:ay σ (.ptr 1 0) (nE K P O))(p:Int):al σ ([.ptr 1 0,num p]++[]) [nE K P O,num p]:=al.cons h (al.cons ay.pure al.nil)
set_option maxHeartbeats 4000000 in
theorem vL(T:ab)(D:List Bool)(n:Nat)(dir:Bool)(f1 f2:FuncId)(cap1 cap2:List PV)[ao cap1][ao cap2](hv:aj T=true)(hf:bw T D=true)(hn:(n:Int)<T.nodes)(he1:enters Tryd.prog f1=true)(he2:enters Tryd.prog f2=true)
  (h1:∀i:Nat,(i:Int)<T.nodes→Can Tryd.prog f1 ([num i]++cap1) (· =aJ (bu T dir i))) (h2:∀a:Nat,a<2*T.aa.length→Can Tryd.prog f2 ([num a]++cap2) (· =num (cP T dir a))):
  Can Tryd.prog 101 [.agg (gO T D n f1 f2 cap1 cap2)] (· =aJ (bH T D n dir)):=by
 have hbd:=eP hv
 have hS:=aC hv
 obtain⟨N,hN⟩:∃N:Nat,T.nodes=(N:Int):=⟨T.nodes.toNat,by omega⟩
 have hN64:N≤64:=by have:=hS.nodes;omega
 have hnN:n<N:=by omega
 refine aI Tryd.func101 rfl Tryd.ntmps101 rfl<|af (.a 2 rfl<|.k [1] rfl)<|aX<|av 3 rfl<|dJ (cW rfl (cb.rk.get rfl) rfl rfl hN hN ⟨by unfold maxLen;omega,by omega⟩) rfl<|av 1 rfl<|aQ [1,3] rfl ?_
 refine ak<|af (.a 3 rfl<|.k [1,3,21,22] rfl)<|aq<|iC [1,3,21,22] rfl<|br (fun r s=>∃k,k≤N∧r=N - k∧s=⟨[(1,.b6 (gO T D n f1 f2 cap1 cap2) 0),(3,.own 0),(21,num N),(22,num k)],[some (.row 3 1 N (aG (List.replicate k (-1)++List.replicate (N - k) 0)))]⟩) N ⟨0,by omega,by omega,by rw[←kp N];rfl⟩ ?_
 rintro r s ⟨k,hk,rfl,rfl⟩
 refine af (.a 1 rfl<|.k [1,3,21,22,23] rfl)<|ak<|ag rfl (fun hc=>?_) (fun hc=>?_)
 ·have hlt:k<N:=by have:=of_decide_eq_true hc;omega
  refine ai<|ak<|aq<|af (.a 2 rfl<|.k [1,3,4,21,22] rfl)<|bK<|av 2 rfl<|bZ (aR (k) rfl) rfl<|bE ((by first|exact bh rfl (cb.tk.get rfl) rfl rfl rfl (by first|omega|(simp;omega))|exact bc rfl (cb.tk.get rfl) rfl rfl rfl (by first|omega|(simp;omega)))) rfl rfl<|aQ [1,3,21,22] rfl ?_
  refine kK (σ':=[some (.row 3 1 N (aG (List.replicate (k+1) (-1)++List.replicate (N - (k+1)) 0)))]) (by rw[←uv N k hlt];rfl) ?_
  refine aF (.v (bf rfl) rfl<|.a 1 rfl<|.k [1,3,21,22] rfl) ?_
  exact⟨N - (k+1),by omega,k+1,by omega,rfl,rfl⟩
 ·have hke:k=N:=by have:=of_decide_eq_false hc;omega
  subst hke
  refine kK (σ':=[some (.row 3 1 k (aG (List.replicate k (-1))))]) (by simp) ?_
  refine bn<|aX<|av 2 rfl<|bZ (aO rfl ((show some (num T.nodes)=some (num (k:Int)) by rw[hN]))) rfl<|cG rfl rfl (bQ.mono (vW k (some (.row 3 1 k (aG (List.replicate k (-1))))) (fC _ _) (by omega)) (fun _ σ' h=>?_))
  obtain⟨rfl,rfl⟩:=h
  refine av 5 rfl<|aQ [1,3,5] rfl ?_
  refine aX<|av 3 rfl<|cG rfl rfl (bQ.mono (qC (some (.row 3 1 k (aG (List.replicate k (-1))))) (fC _ _) _ _ _ (vB k) (by omega) n hnN 0) (fun _ σ' h=>?_))
  obtain⟨b,n1,P1,O1,rfl,hok,hheld⟩:=h
  refine aQ [1,3,5] rfl ?_
  refine pG (fC _ _) (.cons 1 rfl Ren.pure<|.cons 3 rfl (Ren.own (i:=0) rfl)<|.cons 5 rfl (Ren.ptr (i:=1) rfl)<|.nil) ?_
  have hD0:=rv (T:=T) (D:=D) (N:=k) (n:=n) (dir:=dir) hN.symm hnN (K:=(List.replicate k (0:Int)).set n 0) (H:=fun y=>cj O1 (y:Int)) (by rw[wN _ _ _ _ (by simpa using hnN),if_pos rfl]) (fun y=>(hheld y).trans ⟨fun h=>h.elim (fun⟨p,hp,_⟩=>by simp at hp) (fun e=>by omega),fun e=>.inr (by omega)⟩)
  generalize (List.replicate k (0:Int)).set n 0=K1 at hok hD0
  generalize List.replicate k (-1:Int)=out1 at hD0
  clear hheld
  refine aq<|iC [1,3,5] rfl<|br (fun r s=>∃out K P O q,oL T D n dir out K (fun y=>cj O (y:Int)) (fun _=>False)∧sC k q K P O∧r=k+1 - gX out∧s=⟨[(1,.b6 (gO T D n f1 f2 cap1 cap2) 0),(3,.own 0),(5,.ptr 1 0)],dY false (some (.row 3 1 k (aG out))) k q K P O⟩) (k+1 - gX out1) ⟨out1,K1,P1,O1,n1,hD0,hok,rfl,rfl⟩ ?_
  clear hD0 hok out1 K1 P1 O1 n1 b
  rintro r s ⟨out,K,P,O,q,hD,hok,rfl,rfl⟩
  refine aq<|aX<|av 1 rfl<|cG rfl rfl (bQ.mono (vY (some (.row 3 1 k (aG out))) (fC _ _) K P O hok (by omega)) (fun _ σ' h=>?_))
  obtain⟨b,ok,i,n1,key,K1,P1,O1,rfl,rfl,hpop⟩:=h
  refine av 7 rfl<|aQ [1,3,5,7,8,9] rfl ?_
  refine pG (fC _ _) (.cons 1 rfl Ren.pure<|.cons 3 rfl (Ren.own (i:=0) rfl)<|.cons 5 rfl (Ren.ptr (i:=1) rfl)<|.cons 7 rfl Ren.pure<|.cons 8 rfl Ren.pure<|.cons 9 rfl Ren.pure<|.nil) ?_
  refine ak<|af (.a 2 rfl<|.k [1,3,5,7,8,47] rfl)<|ag rfl (fun hc=>?_) (fun hc=>?_)
  ·have hok0:ok=false:=by cases ok;rfl;cases hc
   have hq0:q=0:=by
    rcases hpop with⟨_,h⟩|⟨h,_⟩
    ·exact h
    ·rw[hok0]at h;cases h
   have hdist:bH T D n dir=out:=gf hS (vy hD (fun y ⟨p,hp,_⟩=>by have:=hok.2.1;omega))
   exact af (.a 2 rfl<|.k [2] rfl)<|an<|⟨_,_,ax.of rfl,ay.gZ rfl al.pure,by rw[hdist];unfold aJ;rw[show out.length=k by have:=hD.len;omega]⟩
  ·have hok1:ok=true:=by cases ok;cases hc;rfl
   rcases hpop with⟨h,_⟩|⟨_,hiN,hHi,hmin,rfl,rfl,hok',hH'⟩
   ·rw[hok1]at h;cases h
   obtain⟨hD1,hcnt,htop,hati,hk0,hku⟩:=vD hS hD hHi hmin (by rw[hok.2.2.1];exact hiN) hH'
   have hol:out.length=k:=by have:=hD.len;omega
   have hcl:=jI (out.set i (K.getD i 0))
   have hiT:(i:Int)<T.nodes:=by omega
   refine ai<|aX<|av 3 rfl<|bZ (aR (i) rfl) rfl<|bE ((by first|exact bh rfl (cb.tk.get rfl) rfl rfl rfl (by first|omega|(simp;omega))|exact bc rfl (cb.tk.get rfl) rfl rfl rfl (by first|omega|(simp;omega)))) rfl rfl<|aQ [1,3,5,7,8] rfl ?_
   refine kK (σ':=dY false (some (.row 3 1 k (aG (out.set i (K.getD i 0))))) k n1 (K.set i 0) P1 O1) rfl ?_
   have ho1:(out.set i (K.getD i 0)).length=k:=by simpa using hol
   have hmeas:k+1 - gX (out.set i (K.getD i 0))<k+1 - gX out:=by have:=jI (out.set i (K.getD i 0));omega
   generalize K.getD i 0=d at hD1 hcnt htop hati hk0 hku ho1 hcl hmeas
   generalize out.set i d=out1 at hD1 hcnt htop hati ho1 hcl hmeas
   generalize K.set i 0=K1 at hD1 hok'
   refine ak ?_
   obtain⟨q1,hq1⟩:∃q,decide ((i:Int)≠(n:Int))=q:=⟨_,rfl⟩
   obtain⟨q2,hq2⟩:∃q,bI T i=q:=⟨_,rfl⟩
   have hov:T.over.length=0∨i<T.over.length:=by have:=hbd.2.2.2;omega
   refine aY 62 (.raw (.bool (q1&&q2))) [1,3,5,7,8] rfl ?_ ?_
   ·refine .a 3 rfl<|.v (bT rfl (hq1)) rfl<|.a 1 rfl<|?_
    cases q1
    ·exact .a 5 rfl<|.k [62,1,3,5,7,8] rfl
    ·exact .a 3 rfl<|.c rfl (hq2▸nD T i hov) rfl<|.a 1 rfl<|.k [62,1,3,5,7,8] rfl
   refine ag rfl (fun hc=>?_) (fun hc=>?_)
   ·obtain⟨c1,c2⟩:=Bool.and_eq_true_iff.1 hc
    rw[c1]at hq1
    rw[c2]at hq2
    have hDe:=tN hD1 (by have:=of_decide_eq_true hq1;omega) hq2
    refine lZ (.cons (k:=1) rfl<|.cons (k:=3) rfl<|.cons (k:=5) rfl<|Sub.nil _) ?_
    refine bn ?_
    first
     |exact⟨_,hmeas,out1,K2,P2,O2,q2,hDe,hok2,rfl,rfl⟩
     |exact⟨_,hmeas,out1,K1,P1,O1,n1,hDe,hok',rfl,rfl⟩
   ·have hfree:i=n∨bI T i=false:=by
     by_cases e:i=n
     ·exact .inl e
     ·right
      have:q1=true:=by rw[←hq1];simp;omega
      rw[this,Bool.true_and]at hc
      rw[hq2,hc]
    clear hq1 hq2 hc
    refine ai<|af (.a 3 rfl<|.v (pP rfl he1 rfl rfl (h1 i hiT)) rfl<|.a 2 rfl<|.k [1,3,5,8,66,67,68] rfl) ?_
    have hll:=pH T dir i
    have hD2:oL T D n dir out1 K1 (fun y=>cj O1 (y:Int)) (fun a=>bz T dir a=(i:Int)∧(a:Int)∉(bu T dir i).take 0):=⟨hD1.len,hD1.ge,hD1.root,hD1.lJ,hD1.mono,hD1.j7,hD1.jF,fun a ha hs=>hD1.closed a ha (fun e=>hs ⟨e,by simp⟩),hD1.ub,hD1.xc⟩
    refine aq<|iC [1,3,5,8,66,67,68] rfl<|br (fun r s=>∃j K P O q,j≤(bu T dir i).length∧oL T D n dir out1 K (fun y=>cj O (y:Int)) (fun a=>bz T dir a=(i:Int)∧(a:Int)∉(bu T dir i).take j)∧sC k q K P O∧r=(bu T dir i).length - j∧s=⟨[(1,.b6 (gO T D n f1 f2 cap1 cap2) 0),(3,.own 0),(5,.ptr 1 0),(8,num d),(66,aJ (bu T dir i)),(67,num (bu T dir i).length),(68,num j)],dY false (some (.row 3 1 k (aG out1))) k q K P O⟩) (bu T dir i).length ⟨0,K1,P1,O1,n1,by omega,hD2,hok',rfl,rfl⟩ ?_
    clear hD2 hok' hD1 K1 P1 O1 n1 hH' hmin hHi hD hok
    rintro r s ⟨j,K2,P2,O2,q2,hj,hD2,hok2,rfl,rfl⟩
    refine af (.a 1 rfl<|.k [1,3,5,8,66,67,68,69] rfl)<|ak<|ag rfl (fun hc=>?_) (fun hc=>?_)
    ·have hlt:j<(bu T dir i).length:=by have:=of_decide_eq_true hc;omega
     obtain⟨a,ha,ham,hay⟩:=o5 T dir i j hlt
     obtain⟨m,hm⟩:=Int.eq_ofNat_of_zero_le (hS.x dir a ham).1
     have hmN:m<k:=by have:=(hS.x dir a ham).2;omega
     have hcb:=hS.cost a ham
     have hDl:D.length=0∨a<D.length:=by simp only[bw,decide_eq_true_eq]at hf;omega
     have hSS:∀b,b<2*T.aa.length→(bz T dir b=(i:Int)∧(b:Int)∉(bu T dir i).take j)→(bz T dir b=(i:Int)∧(b:Int)∉(bu T dir i).take (j+1))∨b=a:=fun b _ ⟨e1,e2⟩=>by
      by_cases e:b=a
      ·exact .inr e
      ·left
       refine⟨e1,fun hm'=>?_⟩
       rw[fk _ j 0 hlt,ha]at hm'
       rcases List.mem_append.1 hm' with h|h
       ·exact e2 h
       ·simp at h;exact e (by omega)
     have hayi:at' out1 (bz T dir a)=d:=by rw[hay];exact hati
     have hga:out1.getD m 0=at' out1 (m:Int):=by simp[at',List.getD_eq_getElem?_getD,show m<out1.length by omega]
     refine ai<|ak<|aq<|af (.v (aR (j) rfl) rfl<|.v (aO rfl ((au _ j hlt).trans (by rw[ha]))) rfl<|.a 1 rfl<|.k [1,3,5,8,11,66,67,68] rfl)<|af (.a 3 rfl<|.v (pP rfl he2 rfl rfl (hm▸h2 a ham)) rfl<|.a 1 rfl<|.k [1,3,5,8,11,12,66,67,68] rfl)<|ak ?_
     obtain⟨p1,hp1⟩:∃q,bG D a=q:=⟨_,rfl⟩
     obtain⟨p2,hp2⟩:∃q,decide (0≤out1.getD m 0)=q:=⟨_,rfl⟩
     refine aY 86 (.raw (.bool (p1||p2))) [1,3,5,8,11,12,66,67,68] rfl ?_ ?_
     ·refine .a 3 rfl<|.c rfl (hp1▸lx D a hDl) rfl<|.a 1 rfl<|?_
      cases p1
      ·exact .a 2 rfl<|.v (aR (m) rfl) rfl<|.v (aO rfl (au out1 m (by omega))) rfl<|.v (bT rfl (hp2)) rfl<|.a 1 rfl<|.k [86,1,3,5,8,11,12,66,67,68] rfl
      ·exact .a 6 rfl<|.k [86,1,3,5,8,11,12,66,67,68] rfl
     refine ag rfl (fun hc=>?_) (fun hc=>?_)
     ·have hD3:=qv (S':=fun b=>bz T dir b=(i:Int)∧(b:Int)∉(bu T dir i).take (j+1)) hD2 hSS (fun hw=>.inl (by
       rcases Bool.or_eq_true_iff.1 hc with h|h
       ·rw[hw.1]at hp1;rw[h]at hp1;cases hp1
       ·rw[h]at hp2
        have h3:=of_decide_eq_true hp2
        rw[hga]at h3
        rw[hm,hayi]
        have:=htop m (by omega)
        exact⟨h3,by omega⟩))
      refine bn<|aF (.v (bf rfl) rfl<|.a 1 rfl<|.k [1,3,5,8,66,67,68] rfl) ?_
      first
       |exact⟨(bu T dir i).length - (j+1),by omega,j+1,_,P3,O3,n3,by omega,hD3,hok3,rfl,rfl⟩
       |exact⟨(bu T dir i).length - (j+1),by omega,j+1,K2,P2,O2,q2,by omega,hD3,hok2,rfl,rfl⟩
     ·obtain⟨c1,c2⟩:=Bool.or_eq_false_iff.1 hc
      rw[c1]at hp1
      rw[c2]at hp2
      have hmneg:at' out1 (m:Int)<0:=by have:=of_decide_eq_false hp2;rw[hga]at this;omega
      have hway:Net.Way T D n dir out1 a:=⟨hp1,by rw[hayi];exact hk0,by rw[hay,Int.toNat_natCast];rcases hfree with h|h;(exact .inl (by rw[h]));exact .inr h⟩
      refine ai<|af (.a 4 rfl<|.c rfl (oI T a ham) rfl<|.v (bf rfl) rfl<|.a 1 rfl<|.k [1,3,5,8,12,13,66,67,68] rfl) ?_
      obtain⟨p3,hp3⟩:∃q,(!decide (P2.getD m 0=0))=q:=⟨_,rfl⟩
      obtain⟨kv,hkv⟩:∃z,(if P2.getD m 0=0 then 0 else K2.getD m 0)=z:=⟨_,rfl⟩
      have hkc:=vf K2 P2 O2 hok2.1.len hok2.2.2.1 (by omega) m hmN
      rw[hp3,hkv]at hkc
      refine af (.a 2 rfl<|.v (wC rfl (wY (ln false _ hok2.2.2.1 hok2.1.len hok2.2.1) _) (hkc)) rfl<|.a 5 rfl<|.k [1,3,5,8,12,13,14,15,66,67,68] rfl) ?_
      obtain⟨p4,hp4⟩:∃q,decide (d+a8 T a<kv)=q:=⟨_,rfl⟩
      refine aY 105 (.raw (.bool ((!p3)||p4))) [1,3,5,8,12,13,66,67,68] rfl ?_ ?_
      ·refine .a 3 rfl<|?_
       cases p3
       ·exact .a 4 rfl<|.k [105,1,3,5,8,12,13,66,67,68] rfl
       ·exact .a 2 rfl<|.v (bT rfl (hp4)) rfl<|.a 1 rfl<|.k [105,1,3,5,8,12,13,66,67,68] rfl
      refine ag rfl (fun hc=>?_) (fun hc=>?_)
      ·have hnew:¬cj O2 (m:Int)∨at' out1 (bz T dir a)+a8 T a<K2.getD m 0:=by
        rw[hayi]
        by_cases e:P2.getD m 0=0
        ·exact .inl ((hok2.1.zero hmN).1 e)
        ·right
         have h3:p3=true:=by rw[←hp3];simp only[e];rfl
         rw[h3]at hc
         have h4:p4=true:=by simpa using hc
         rw[h4]at hp4
         have:=of_decide_eq_true hp4
         rw[if_neg e]at hkv
         omega
       refine bK<|av 3 rfl<|cG rfl rfl (bQ.mono (qC (some (.row 3 1 k (aG out1))) (fC _ _) K2 P2 O2 hok2 (by omega) m hmN (d+a8 T a)) (fun _ σ' h=>?_))
       obtain⟨b3,n3,P3,O3,rfl,hok3,hH3⟩:=h
       refine aQ [1,3,5,8,66,67,68] rfl ?_
       refine pG (fC _ _) (.cons 1 rfl Ren.pure<|.cons 3 rfl (Ren.own (i:=0) rfl)<|.cons 5 rfl (Ren.ptr (i:=1) rfl)<|.cons 8 rfl Ren.pure<|.cons 66 rfl Ren.pure<|.cons 67 rfl Ren.pure<|.cons 68 rfl Ren.pure<|.nil) ?_
       have hD3:=vP (S':=fun b=>bz T dir b=(i:Int)∧(b:Int)∉(bu T dir i).take (j+1)) (H':=fun y=>cj O3 (y:Int)) hS hD2 ham hSS hway hm hmneg (fun x hx=>by rw[hayi];exact htop x hx) (by rw[hayi];omega) hnew (by rw[hok2.2.2.1];exact hmN) (fun y=>(hH3 y).trans ⟨fun h=>h.imp id (fun e=>by omega),fun h=>h.imp id (fun e=>by omega)⟩)
       rw[hayi]at hD3
       refine aF (.v (bf rfl) rfl<|.a 1 rfl<|.k [1,3,5,8,66,67,68] rfl) ?_
       first
        |exact⟨(bu T dir i).length - (j+1),by omega,j+1,_,P3,O3,n3,by omega,hD3,hok3,rfl,rfl⟩
        |exact⟨(bu T dir i).length - (j+1),by omega,j+1,K2,P2,O2,q2,by omega,hD3,hok2,rfl,rfl⟩
      ·obtain⟨c3,c4⟩:=Bool.or_eq_false_iff.1 hc
       have h3:p3=true:=by cases p3;cases c3;rfl
       rw[h3]at hp3
       rw[c4]at hp4
       have e:P2.getD m 0≠0:=fun e=>by rw[e]at hp3;cases hp3
       have hD3:=qv (S':=fun b=>bz T dir b=(i:Int)∧(b:Int)∉(bu T dir i).take (j+1)) hD2 hSS (fun hw=>.inr (by
        rw[hm,Int.toNat_natCast,hayi]
        refine⟨Classical.byContradiction fun hh=>e ((hok2.1.zero hmN).2 hh),?_⟩
        rw[if_neg e]at hkv
        have:=of_decide_eq_false hp4
        omega))
       refine ai<|aF (.v (bf rfl) rfl<|.a 1 rfl<|.k [1,3,5,8,66,67,68] rfl) ?_
       first
        |exact⟨(bu T dir i).length - (j+1),by omega,j+1,_,P3,O3,n3,by omega,hD3,hok3,rfl,rfl⟩
        |exact⟨(bu T dir i).length - (j+1),by omega,j+1,K2,P2,O2,q2,by omega,hD3,hok2,rfl,rfl⟩
    ·have hje:j=(bu T dir i).length:=by have:=of_decide_eq_false hc;omega
     have hDe:oL T D n dir out1 K2 (fun y=>cj O2 (y:Int)) (fun _=>False):=⟨hD2.len,hD2.ge,hD2.root,hD2.lJ,hD2.mono,hD2.j7,hD2.jF,fun a ha _=>hD2.closed a ha (fun⟨e1,e2⟩=>e2 (by rw[hje,List.take_length];exact(lC T dir i a).2 ⟨ha,e1⟩)),hD2.ub,hD2.xc⟩
     refine lZ (.cons (k:=1) rfl<|.cons (k:=3) rfl<|.cons (k:=5) rfl<|Sub.nil _) ?_
     refine bn ?_
     first
      |exact⟨_,hmeas,out1,K2,P2,O2,q2,hDe,hok2,rfl,rfl⟩
      |exact⟨_,hmeas,out1,K1,P1,O1,n1,hDe,hok',rfl,rfl⟩
end PW
end Go.Proofs.YtnegbdpggideiaaDoor
namespace Go.Proofs.YtnegbdpggideiaaDoor
namespace PW
open Go.RowKit aN Mem Net eB
end PW
end Go.Proofs.YtnegbdpggideiaaDoor
namespace Go.Proofs.YtnegbdpggideiaaDoor
namespace PW
open Go.RowKit aN Mem Net
def mq(T:ab)(D:List Bool)(L:List Int)(dn:Int)(d a:Nat):Bool:=
 !(bG D a||decide (L.getD (aK T a).toNat 0<0)||(decide (aK T a≠(d:Int))&&bI T (aK T a).toNat))&&decide (L.getD (aK T a).toNat 0+a8 T a=dn)
def gi(T:ab)(D:List Bool)(L:List Int)(dn:Int)(d:Nat)(l:List Int):List Int:=l.filter fun a=>mq T D L dn d a.toNat
theorem rm(T:ab)(D:List Bool)(L lv:List Int)(n d:Nat)(hv:aj T=true)(hf:bw T D=true)(hL:(L.length:Int)=T.nodes)(hub:∀x∈L, -1≤x∧x≤4194240)(hn:(n:Int)<T.nodes)(hd:(d:Int)<T.nodes)
    (hlv:∀a∈lv,0≤a∧a<2*(T.aa.length:Int)) (hll:lv.length≤100000):
    Can Tryd.prog 77 [a6 T,bA D,aJ L,aJ lv,num n,num d] (· =aJ (if n=d∨L.getD n 0<0 then [] else gi T D L (L.getD n 0) d lv)):=by
  have hbd:=eP hv
  have hS:=aC hv
  have hnL:n<L.length:=by omega
  refine aI Tryd.func77 rfl Tryd.ntmps77 rfl<|af (.a 2 rfl<|.k [1,2,3,4,5,6] rfl)<|af (.a 1 rfl<|.k [1,2,3,4,5,6,13] rfl) ?_
  obtain⟨q1,hq1⟩:∃q,decide ((n:Int)=(d:Int))=q:=⟨_,rfl⟩
  obtain⟨q2,hq2⟩:∃q,decide (L.getD n 0<0)=q:=⟨_,rfl⟩
  refine ak<|aY 26 (.raw (.bool (q1||q2))) [1,2,3,4,5,6,13] rfl ?_ ?_
  · refine .a 2 rfl<|.v (bT rfl (hq1)) rfl<|.a 1 rfl<|?_
    cases q1
    · exact .a 2 rfl<|.v (aR (n) rfl) rfl<|.v (aO rfl (au L n hnL)) rfl<|.v (bT rfl (hq2)) rfl<|.a 1 rfl<|.k [26,1,2,3,4,5,6,13] rfl
    · exact .a 6 rfl<|.k [26,1,2,3,4,5,6,13] rfl
  refine ag (b:=q1||q2) rfl (fun hc=>?_) (fun hc=>?_)
  · have:n=d∨L.getD n 0<0:=by
      rcases Bool.or_eq_true_iff.1 hc with h|h
      · rw[h]at hq1;exact .inl (by have:=of_decide_eq_true hq1;omega)
      · rw[h]at hq2;exact .inr (of_decide_eq_true hq2)
    rw[if_pos this]
    refine af (.a 2 rfl<|.k [12] rfl)<|an ⟨_,_,.cons (.tmp rfl) .nil,ay.bY,rfl⟩
  · obtain ⟨c1, c2⟩ := Bool.or_eq_false_iff.1 hc
    rw[c1]at hq1
    rw[c2]at hq2
    have hnd:¬(n=d∨L.getD n 0<0):=by
      have:=of_decide_eq_false hq1
      have:=of_decide_eq_false hq2
      omega
    rw[if_neg hnd]
    refine ai<|ak<|af (.a 3 rfl<|.k [1,2,4,5,6,13,28,29,30] rfl)<|kd 13 3 1 rfl ?_
    refine aq<|lZ (.cons (k:=1) rfl<|.cons (k:=2) rfl<|.cons (k:=4) rfl<|.cons (k:=5) rfl<|.cons (k:=6) rfl<|.cons (k:=13) rfl<|.cons (k:=28) rfl<|.cons (k:=29) rfl<|.cons (k:=30) rfl<|Sub.nil _) ?_
    refine br (fun r s=>∃i,i≤lv.length∧r=lv.length - i∧s=⟨[(1,bA D),(2,aJ L),(4,num n),(5,num d),(6,.b6 (b5 T) 0),(13,.own 0),(28,aJ lv),(29,num lv.length),(30,num i)],[some (.row 3 1 (gi T D L (L.getD n 0) d (lv.take i)).length (aG (gi T D L (L.getD n 0) d (lv.take i))))]⟩) lv.length ⟨0,by omega,by omega,?_⟩ ?_
    · simp only[List.take_zero,gi,List.filter_nil]
      rfl
    · rintro r s ⟨i,hi,rfl,rfl⟩
      refine af (.a 1 rfl<|.k [1,2,4,5,6,13,28,29,30,31] rfl)<|ak<|ag (b:=decide ((i:Int)<(lv.length:Int))) rfl (fun hc=>?_) (fun hc=>?_)
      · have hlt:i<lv.length:=by have:=of_decide_eq_true hc;omega
        refine ai ?_
        obtain⟨a,ha⟩:∃a:Nat,lv.getD i 0=(a:Int):=Int.eq_ofNat_of_zero_le (hlv _ (cS hlt)).1
        have ham:a<2*T.aa.length:=by
          have:=(hlv (lv.getD i 0) (cS hlt)).2
          omega
        have hstep:gi T D L (L.getD n 0) d (lv.take (i+1))=gi T D L (L.getD n 0) d (lv.take i)++(if mq T D L (L.getD n 0) d a then [(a:Int)] else []):=by
          unfold gi
          rw[List.take_add_one,List.filter_append,show lv[i]? =some (a:Int) by rw[←ha,List.getD_eq_getElem?_getD];simp[hlt]]
          congr 1
          simp only[Option.toList_some,List.filter_cons,List.filter_nil,Int.toNat_natCast]
        have hlen:(gi T D L (L.getD n 0) d (lv.take i)).length≤100000:=Nat.le_trans (List.length_filter_le _ _) (by rw[List.length_take];omega)
        obtain⟨hd0,hhN⟩:=hS.head a ham
        obtain⟨h,hh⟩:=Int.eq_ofNat_of_zero_le hd0
        have hhL:h<L.length:=by omega
        have hub1: -1≤L.getD h 0∧L.getD h 0≤4194240:=hub _ (cS hhL)
        have hcb:=hS.cost a ham
        have hDl:D.length=0∨a<D.length:=by simp only[bw,decide_eq_true_eq]at hf;omega
        have hov:T.over.length=0∨h<T.over.length:=by have:=hbd.2.2.2;omega
        refine ak<|aq<|af (.v (aR (i) rfl) rfl<|.v (aO rfl ((au lv i hlt).trans (by rw[ha]))) rfl<|.a 1 rfl<|.k [1,2,4,5,6,13,15,28,29,30] rfl)<|af (.a 2 rfl<|.c rfl (hh▸iT T a ham (by omega)) rfl<|.a 1 rfl<|.k [1,2,4,5,6,13,15,16,28,29,30] rfl) ?_
        obtain⟨p1,hp1⟩:∃q,bG D a=q:=⟨_,rfl⟩
        obtain⟨p2,hp2⟩:∃q,decide (L.getD h 0<0)=q:=⟨_,rfl⟩
        obtain⟨p3,hp3⟩:∃q,decide ((h:Int)≠(d:Int))=q:=⟨_,rfl⟩
        obtain⟨p4,hp4⟩:∃q,bI T h=q:=⟨_,rfl⟩
        obtain⟨p5,hp5⟩:∃q,decide (L.getD h 0+a8 T a=L.getD n 0)=q:=⟨_,rfl⟩
        have hpass:mq T D L (L.getD n 0) d a=(!((p1||p2)||(p3&&p4))&&p5):=by
          unfold mq;rw[hh,Int.toNat_natCast,hp1,hp2,hp3,hp4,hp5]
        refine ak<|aY 56 (.raw (.bool ((p1||p2)||(p3&&p4)))) [1,2,4,5,6,13,15,16,28,29,30] rfl ?_ ?_
        · refine .a 2 rfl<|.c rfl (hp1▸lx D a hDl) rfl<|.a 1 rfl<|?_
          cases p1
          · refine .a 2 rfl<|.v (aR (h) rfl) rfl<|.v (aO rfl (au L h hhL)) rfl<|.v (bT rfl (hp2)) rfl<|.a 2 rfl<|?_
            cases p2
            · refine .a 2 rfl<|.v (bT rfl (hp3)) rfl<|.a 1 rfl<|?_
              cases p3
              · exact .a 5 rfl<|.k [56,1,2,4,5,6,13,15,16,28,29,30] rfl
              · exact .a 2 rfl<|.c rfl (hp4▸nD T h hov) rfl<|.a 2 rfl<|.k [56,1,2,4,5,6,13,15,16,28,29,30] rfl
            · exact .a 9 rfl<|.k [56,1,2,4,5,6,13,15,16,28,29,30] rfl
          · exact .a 16 rfl<|.k [56,1,2,4,5,6,13,15,16,28,29,30] rfl
        refine ag (b:=(p1||p2)||(p3&&p4)) rfl (fun hc=>?_) (fun hc=>?_)
        · rw[hc]at hpass
          refine bn<|aF (.v (bf rfl) rfl<|.a 1 rfl<|.k [1,2,4,5,6,13,28,29,30] rfl) ?_
          refine⟨lv.length - (i+1),by omega,i+1,by omega,rfl,?_⟩
          rw[hstep,hpass]
          simp only[Bool.not_true,Bool.false_and,Bool.false_eq_true,if_false,List.append_nil]
          rfl
        · rw[hc]at hpass
          refine ai<|gC mixed (by kernel_rfl) (.a 2 rfl<|.v [57,58] (aR (h) rfl) rfl rfl<|.v [59] (aO rfl (au L h hhL)) rfl rfl<|.a 2 rfl<|.v [61,62] (j8 rfl (oI T a ham)) rfl rfl<|.v [60,63] (bf rfl) rfl rfl<|.a 2 rfl<|.v [65,66] (aR (n) rfl) rfl rfl<|.v [67] (aO rfl (au L n hnL)) rfl rfl<|.v [64,68] (bT rfl (hp5)) rfl rfl<|.k [1,2,4,5,6,13,15,28,29,30,69] rfl) ?_
          refine ag (b:=p5) rfl (fun hc5=>?_) (fun hc5=>?_)
          · rw[hc5]at hpass
            refine bK<|av 3 rfl<|dJ (ct rfl (cb.rk.get rfl) rfl rfl rfl rfl (by unfold maxLen;omega)) rfl<|av 1 rfl ?_
            refine gm [1] (.c 1<|.c 2<|.c 4<|.c 5<|.c 6<|.c 13<|.c 28<|.c 29<|.c 30<|.nil) (.kept rfl (.eR rfl (eF _ _))<|.nil) rfl rfl (aH ?_)
            refine aF (.v (bf rfl) rfl<|.a 1 rfl<|.k [1,2,4,5,6,13,28,29,30] rfl) ?_
            refine⟨lv.length - (i+1),by omega,i+1,by omega,rfl,?_⟩
            rw[hstep,hpass]
            simp only[Bool.not_false,Bool.true_and,if_true,List.length_append,List.length_singleton]
            rfl
          · rw[hc5]at hpass
            refine ai<|aF (.v (bf rfl) rfl<|.a 1 rfl<|.k [1,2,4,5,6,13,28,29,30] rfl) ?_
            refine⟨lv.length - (i+1),by omega,i+1,by omega,rfl,?_⟩
            rw[hstep,hpass]
            simp only[Bool.not_false,Bool.true_and,Bool.false_eq_true,if_false,List.append_nil]
            rfl
      · have:i=lv.length:=by have:=of_decide_eq_false hc;omega
        subst this
        rw[List.take_length]
        exact bn<|af (.a 2 rfl<|.k [12] rfl)<|an ⟨_,_,.cons (.tmp rfl) .nil,ay.gZ rfl al.pure,rfl⟩
end PW
end Go.Proofs.YtnegbdpggideiaaDoor
namespace Go.Proofs.YtnegbdpggideiaaDoor
namespace PW
open Go.RowKit aN Mem Net Heap
instance (rs:List (List Int)):cN (jU rs):=by unfold jU;infer_instance
instance (T:ab):ba (b5 T):=by unfold b5;infer_instance
def bX(T:ab)(D:List Bool)(ns:List Int):Int:=if aj T&&bw T D then(if ns.all (aS T) then 0 else 2) else 1
theorem rX(T:ab)(D:List Bool)(ns:List Int)(hns:ns.length≤1000):Can Tryd.prog 97 [a6 T,bA D,aJ ns] (· =num (bX T D ns)):=by
 refine aI Tryd.func97 rfl Tryd.ntmps97 rfl<|af (.a 2 rfl<|.k [1,2,3] rfl)<|ak ?_
 obtain⟨q1,hq1⟩:∃q,aj T=q:=⟨_,rfl⟩
 obtain⟨q2,hq2⟩:∃q,bw T D=q:=⟨_,rfl⟩
 refine aY 17 (.raw (.bool ((!q1)||(!q2)))) [2,3] rfl ?_ ?_
 ·refine .a 1 rfl<|.c rfl (hq1▸fp T) rfl<|.a 2 rfl<|?_
  cases q1
  ·exact .a 5 rfl<|.k [17,2,3] rfl
  ·exact .a 2 rfl<|.c rfl (hq2▸kV T D (by have:=bJ hq1;omega)) rfl<|.a 2 rfl<|.k [17,2,3] rfl
 refine ag rfl (fun hc=>?_) (fun hc=>?_)
 ·have hch:bX T D ns=1:=by
   unfold bX
   rw[hq1,hq2,if_neg]
   revert hc
   cases q1<;>cases q2<;>simp
  exact af (.a 1 rfl<|.k [6] rfl)<|an<|⟨_,_,ax.of rfl,ay.pure,by rw[hch];rfl⟩
 ·have hok:(aj T&&bw T D)=true:=by
   rw[hq1,hq2]
   revert hc
   cases q1<;>cases q2<;>simp
  refine ai<|ak<|af (.a 3 rfl<|.k [3,18,19,20] rfl)<|aq<|iC [3,18,19,20] rfl<|br (fun r s=>∃i,i≤ns.length∧(ns.take i).all (aS T)=true∧r=ns.length - i∧s=⟨[(3,.b6 (b5 T) 0),(18,aJ ns),(19,num ns.length),(20,num i)],[]⟩) ns.length ⟨0,by omega,by simp,by omega,rfl⟩ ?_
  rintro r s ⟨i,hi,hall,rfl,rfl⟩
  refine af (.a 1 rfl<|.k [3,18,19,20,21] rfl)<|ak<|ag rfl (fun hc=>?_) (fun hc=>?_)
  ·have hlt:i<ns.length:=by have:=of_decide_eq_true hc;omega
   refine ai<|ak<|aq<|af (.v (aR (i) rfl) rfl<|.v (aO rfl (au ns i hlt)) rfl<|.a 1 rfl<|.k [3,8,18,19,20] rfl)<|af (.a 2 rfl<|.c rfl (cE T _) rfl<|.a 1 rfl<|.k [3,18,19,20,27] rfl)<|ag rfl (fun hc=>?_) (fun hc=>?_)
   ·have hch:bX T D ns=2:=by
     unfold bX
     rw[if_pos hok,if_neg]
     intro h
     have h1:=List.all_eq_true.1 h _ (cS (d:=0) hlt)
     rw[h1]at hc
     cases hc
    exact af (.a 1 rfl<|.k [6] rfl)<|an<|⟨_,_,ax.of rfl,ay.pure,by rw[hch];rfl⟩
   ·have hall':(ns.take (i+1)).all (aS T)=true:=by
     rw[fk ns i 0 hlt,List.all_append,hall]
     have:aS T (ns.getD i 0)=true:=by revert hc;cases aS T (ns.getD i 0)<;>simp
     simp only[List.all_cons,this,List.all_nil,Bool.and_self]
    refine ai<|aF (.v (bf rfl) rfl<|.a 1 rfl<|.k [3,18,19,20] rfl) ?_
    exact⟨ns.length - (i+1),by omega,i+1,by omega,hall',rfl,rfl⟩
  ·have hie:i=ns.length:=by have:=of_decide_eq_false hc;omega
   refine bn<|af (.a 1 rfl<|.k [6] rfl)<|an<|⟨_,_,ax.of rfl,ay.pure,?_⟩
   unfold bX
   rw[if_pos hok,if_pos (by rw[hie,List.take_length]at hall;exact hall)]
   rfl
theorem rF(rs:List (List Int))(i:Nat)(hi:i<rs.length):Can Tryd.prog 99 ([num i]++[.b6 [jU rs] 0]) (· =aJ (rs.getD i [])):=by
 exact aI Tryd.func99 rfl Tryd.ntmps99 rfl<|af (.a 1 rfl<|.k [0,1] rfl)<|af (.a 2 rfl<|.v (aR (i) rfl) rfl<|.v (aO rfl ((show(rs.map aJ)[i]? =some (aJ (rs.getD i [])) by simp[hi]))) rfl<|.a 1 rfl<|.k [3] rfl)<|an<|⟨_,_,ax.of rfl,ay.pure,rfl⟩
theorem rr(T:ab)(a:Nat)(ha:a<2*T.aa.length):Can Tryd.prog 100 ([num a]++[.b6 (b5 T) 0]) (· =num (bb T a)):=by
 exact aI Tryd.func100 rfl Tryd.ntmps100 rfl<|af (.a 1 rfl<|.k [0,1] rfl)<|af (.a 2 rfl<|.c rfl (jc T a ha) rfl<|.a 1 rfl<|.k [3] rfl)<|an<|⟨_,_,ax.of rfl,ay.pure,rfl⟩
def dL(e:Int)(l:List Int):PV:=.tuple [aJ (if e=0 then l else []),num e]
instance (e:Int) (l:List Int):IsPure (dL e l):=by unfold dL;infer_instance
theorem sM(T:ab)(D:List Bool)(d:Int):Can Tryd.prog 86 [a6 T,bA D,num d] (· =dL (bX T D [d]) (bH T D d.toNat false)):=by
 refine aI Tryd.func86 rfl Tryd.ntmps86 rfl<|af (.a 3 rfl<|.k [1,2,3] rfl)<|ak<|af (.a 4 rfl<|.c rfl (rX T D [d] (by simp)) rfl<|.a 1 rfl<|.k [1,2,3,8] rfl)<|af (.a 2 rfl<|.k [1,2,3,8,17] rfl)<|ag rfl (fun hc=>?_) (fun hc=>?_)
 ·have he:bX T D [d]≠0:=of_decide_eq_true hc
  exact af (.a 3 rfl<|.k [6,7] rfl)<|an<|⟨_,_,ax.of rfl,ay.bq (al.cons ay.bY (al.cons ay.pure al.nil)),by unfold dL;rw[if_neg he];rfl⟩
 ·have he:bX T D [d]=0:=by have:=of_decide_eq_false hc;omega
  have hok:(aj T&&bw T D)=true∧aS T d=true:=by
   unfold bX at he
   split at he
   ·rename_i h1
    split at he
    ·rename_i h2;exact⟨h1,by simpa using h2⟩
    ·omega
   ·omega
  obtain⟨hvf,hnd⟩:=hok
  obtain⟨hv,hf⟩:=Bool.and_eq_true_iff.1 hvf
  have hd:0≤d∧d<T.nodes:=by simpa[aS]using hnd
  obtain⟨n,rfl⟩:=Int.eq_ofNat_of_zero_le hd.1
  have hS:=aC hv
  refine ai<|aX<|av 1 rfl<|fu rfl (nb T hv) rfl<|av 2 rfl<|aQ [1,2,3,9] rfl ?_
  refine aX<|av 3 rfl<|bZ (k8 rfl rfl) rfl<|av 4 rfl<|aQ [10] rfl ?_
  refine uo (.cons 10 rfl (ay.wF rfl (al.cons ay.pure<|al.cons ay.pure<|al.cons ay.pure<|al.cons ay.pure<|al.cons ay.pure<|al.cons (ay.xO (al.cons (ay.wF rfl (al.cons ay.pure al.nil)) al.nil))<|al.cons ay.pure al.nil)) .nil) ?_
  exact af (.a 1 rfl<|.c rfl (vL T D n false 99 100 [.b6 [jU (cH (aK T) T.nodes.toNat (2*T.aa.length))] 0] [.b6 (b5 T) 0] hv hf hd.2 (by kernel_rfl) (by kernel_rfl) (fun i hi=>by have h:=rF (cH (aK T) T.nodes.toNat (2*T.aa.length)) i (by rw[gI];omega);rw[jO _ _ _ _ (by omega)]at h;exact h) (fun a ha=>rr T a ha)) rfl<|.a 2 rfl<|.k [6,7] rfl)<|an<|⟨_,_,ax.of rfl,ay.pure,by unfold dL;rw[if_pos he,he];rfl⟩
end PW
end Go.Proofs.YtnegbdpggideiaaDoor
namespace Go.Proofs.YtnegbdpggideiaaDoor
namespace PW
open Go.RowKit aN Mem Net Heap
theorem qR(T:ab)(hl:T.aa.length≤256)(n:Int):Can Tryd.prog 49 [a6 T,num n] (· =aJ (cU T n)):=by
 refine aI Tryd.func49 rfl Tryd.ntmps49 rfl<|af (.a 2 rfl<|.k [1,2] rfl)<|af (.a 1 rfl<|.k [1,2,5] rfl)<|kd 5 3 1 rfl ?_
 refine ak<|af (.a 1 rfl<|.c rfl (iX T (by omega)) rfl<|.a 1 rfl<|.k [1,2,5,8,9] rfl)<|aq<|iC [1,2,5,8,9] rfl<|br (fun r s=>∃k,k≤2*T.aa.length∧r=2*T.aa.length - k∧s=⟨[(1,num n),(2,.b6 (b5 T) 0),(5,.own 0),(8,num (2*(T.aa.length:Int))),(9,num k)],[some (.row 3 1 (eU T n k).length (aG (eU T n k)))]⟩) (2*T.aa.length) ⟨0,by omega,by omega,rfl⟩ ?_
 rintro r s ⟨k,hk,rfl,rfl⟩
 refine af (.a 1 rfl<|.k [1,2,5,8,9,10] rfl)<|ak<|ag rfl (fun hc=>?_) (fun hc=>?_)
 ·have hlt:k<2*T.aa.length:=by have:=of_decide_eq_true hc;omega
  have hlen:=gP T n k
  refine ai<|ak<|aq<|af (.a 2 rfl<|.k [1,2,5,6,8,9] rfl)<|af (.a 2 rfl<|.c rfl (jc T k hlt) rfl<|.a 2 rfl<|.k [1,2,5,6,8,9,16] rfl)<|ag rfl (fun hc=>?_) (fun hc=>?_)
  ·have hst:=rZ T n k (by simpa using of_decide_eq_true hc)
   refine bK<|av 3 rfl<|dJ (ct rfl (cb.rk.get rfl) rfl rfl rfl rfl (by unfold maxLen;omega)) rfl<|av 1 rfl ?_
   refine gm [1] (.c 1<|.c 2<|.c 5<|.c 8<|.c 9<|.nil) (.kept rfl (.eR rfl (eF _ _))<|.nil) rfl rfl (aH ?_)
   refine aF (.v (bf rfl) rfl<|.a 1 rfl<|.k [1,2,5,8,9] rfl) ?_
   refine⟨2*T.aa.length - (k+1),by omega,k+1,by omega,rfl,?_⟩
   rw[hst]
   first
    |rfl
    |(simp only[List.length_append,List.length_singleton];rfl)
  ·have hst:=sS T n k (by simpa using of_decide_eq_false hc)
   refine ai<|aF (.v (bf rfl) rfl<|.a 1 rfl<|.k [1,2,5,8,9] rfl) ?_
   refine⟨2*T.aa.length - (k+1),by omega,k+1,by omega,rfl,?_⟩
   rw[hst]
   first
    |rfl
    |(simp only[List.length_append,List.length_singleton];rfl)
 ·have hke:k=2*T.aa.length:=by have:=of_decide_eq_false hc;omega
  subst hke
  exact bn<|af (.a 2 rfl<|.k [4] rfl)<|an<|⟨_,_,ax.of rfl,ay.gZ rfl al.pure,rfl⟩
def cy(T:ab)(D:List Bool)(n d:Int):Int:=if bX T D [d]=0 then(if aS T n then 0 else 2) else bX T D [d]
theorem qZ(T:ab)(D:List Bool)(n d:Int):Can Tryd.prog 76 [a6 T,bA D,num n,num d] (· =dL (cy T D n d) (bH T D d.toNat false)):=by
 refine aI Tryd.func76 rfl Tryd.ntmps76 rfl<|af (.a 3 rfl<|.k [1,2,3,4] rfl)<|af (.a 3 rfl<|.c rfl (sM T D d) rfl<|.a 5 rfl<|.k [2,4,10,11] rfl)<|ak<|af (.a 2 rfl<|.k [2,4,10,11,20] rfl)<|ag rfl (fun hc=>?_) (fun hc=>?_)
 ·have he:bX T D [d]≠0:=of_decide_eq_true hc
  exact af (.a 3 rfl<|.k [8,9] rfl)<|an<|⟨_,_,ax.of rfl,ay.bq (al.cons ay.bY (al.cons ay.pure al.nil)),by unfold dL cy;rw[if_neg he,if_neg he];rfl⟩
 ·have he:bX T D [d]=0:=by have:=of_decide_eq_false hc;omega
  refine ai<|ak<|af (.a 2 rfl<|.c rfl (cE T n) rfl<|.a 1 rfl<|.k [10,25] rfl)<|ag rfl (fun hc=>?_) (fun hc=>?_)
  ·have hn:aS T n=false:=by revert hc;cases aS T n<;>simp
   exact af (.a 2 rfl<|.k [8,9] rfl)<|an<|⟨_,_,ax.of rfl,ay.bq (al.cons ay.bY (al.cons ay.pure al.nil)),by unfold dL cy;rw[if_pos he,hn];rfl⟩
  ·have hn:aS T n=true:=by revert hc;cases aS T n<;>simp
   exact ai<|af (.a 3 rfl<|.k [8,9] rfl)<|an<|⟨_,_,ax.of rfl,ay.pure,by unfold dL cy;simp only[he,hn,if_true];rfl⟩
theorem rL{T:ab}{D:List Bool}{ns:List Int}(he:bX T D ns=0):aj T=true∧bw T D=true∧∀n∈ns,aS T n=true:=by
 unfold bX at he
 split at he
 ·rename_i h1
  split at he
  ·rename_i h2
   obtain⟨a,b⟩:=Bool.and_eq_true_iff.1 h1
   exact⟨a,b,List.all_eq_true.1 h2⟩
  ·omega
 ·omega
theorem fB{T:ab}{D:List Bool}{n d:Int}(he:cy T D n d=0):aj T=true∧bw T D=true∧aS T n=true∧aS T d=true:=by
 unfold cy at he
 split at he
 ·rename_i h1
  obtain⟨a,b,c⟩:=rL h1
  split at he
  ·rename_i h2;exact⟨a,b,h2,c d (by simp)⟩
  ·omega
 ·omega
theorem eV{T:ab}{D:List Bool}(hv:aj T=true){d:Nat}{dir:Bool}(hd:(d:Int)<T.nodes):((bH T D d dir).length:Int)=T.nodes∧∀x∈bH T D d dir, -1≤x∧x≤4194240:=by
 have hS:=aC hv
 have hI:=rM hS D dir hd
 refine⟨hI.len,fun x hx=>?_⟩
 obtain⟨i,hi,rfl⟩:=List.getElem_of_mem hx
 have hin:(i:Int)<T.nodes:=by have:=hI.len;omega
 have h1:=hI.ge i hin
 have h2:=hI.xz i hin
 have h3:=jI (bH T D d dir)
 have h4:=hS.nodes
 have h5:=hI.len
 rw[tU _ i hi]at h1 h2
 omega
noncomputable def bx(T:ab)(D:List Bool)(n d:Nat):List Int:=
 if n=d∨(bH T D d false).getD n 0<0 then [] else gi T D (bH T D d false) ((bH T D d false).getD n 0) d (cU T n)
theorem oH{T:ab}{n:Int}{a:Int}(h:a∈cU T n):0≤a∧a<2*(T.aa.length:Int):=by
 unfold cU eU at h
 obtain⟨b,hb,rfl⟩:=List.mem_map.1 h
 have:=(List.mem_filter.1 hb).1
 have:=List.mem_range.1 this
 simp;omega
theorem tJ(T:ab)(D:List Bool)(n d:Int):Can Tryd.prog 48 [a6 T,bA D,num n,num d] (· =dL (cy T D n d) (bx T D n.toNat d.toNat)):=by
 refine aI Tryd.func48 rfl Tryd.ntmps48 rfl<|af (.a 3 rfl<|.k [1,2,3,4] rfl)<|af (.a 4 rfl<|.c rfl (qZ T D n d) rfl<|.a 5 rfl<|.k [1,2,3,4,10,11] rfl)<|ak<|af (.a 2 rfl<|.k [1,2,3,4,10,11,21] rfl)<|ag rfl (fun hc=>?_) (fun hc=>?_)
 ·have he:cy T D n d≠0:=of_decide_eq_true hc
  exact af (.a 3 rfl<|.k [8,9] rfl)<|an<|⟨_,_,ax.of rfl,ay.bq (al.cons ay.bY (al.cons ay.pure al.nil)),by unfold dL;rw[if_neg he];rfl⟩
 ·have he:cy T D n d=0:=by have:=of_decide_eq_false hc;omega
  rw[he]
  obtain⟨hv,hf,hn,hd⟩:=fB he
  rw[aV]at hn hd
  obtain⟨n,rfl⟩:=Int.eq_ofNat_of_zero_le hn.1
  obtain⟨d,rfl⟩:=Int.eq_ofNat_of_zero_le hd.1
  have hll:=bJ hv
  obtain⟨hb1,hb2⟩:=eV (D:=D) hv (dir:=false) hd.2
  refine ai<|gC mixed (by kernel_rfl) (.a 5 rfl<|.v [26,27] (j8 rfl (qR T hll _)) rfl rfl<|.a 2 rfl<|.v [23,24,25,28,29,30] (j8 rfl (rm T D (bH T D d false) (cU T n) n d hv hf hb1 hb2 hn.2 hd.2 (fun a ha=>oH ha) (Nat.le_trans (gP T n _) (by omega)))) rfl rfl<|.a 2 rfl<|.k [8,9] rfl) ?_
  exact an<|⟨_,_,ax.of rfl,ay.pure,rfl⟩
end PW
end Go.Proofs.YtnegbdpggideiaaDoor
