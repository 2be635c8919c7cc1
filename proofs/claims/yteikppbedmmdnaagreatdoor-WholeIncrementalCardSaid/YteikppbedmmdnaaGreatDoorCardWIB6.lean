/- Texts of the proof, part 6. -/
import Derived.RangeFuncNested
import Derived.RangeFuncBound
import Derived.RangeFuncCalls
import Derived.RangeFuncLeaves
import Derived.Shelf.Abstract
import Derived.Shelf.RegionOpen
import Derived.WalkKit
import Derived.OwnWalkIn
import Derived.TacticsInMore
import Derived.LoopNIn
import Derived.LoopIn
import Derived.Test.YteikppbedmmdnaaGreatDoorCardWIB5
set_option linter.unusedVariables false
set_option linter.unusedSimpArgs false
set_option maxRecDepth 10000
set_option maxHeartbeats 1000000
namespace Go.Proofs.YteikppbedmmdnaaGreatDoor
namespace PW
section
open Go.RowKit cj Mem Net
theorem pN(T:ah)(n:Int):(bW T n).Pairwise (· < ·):=by
 unfold bW iN
 refine List.Pairwise.map _ (fun a b h=>?_) ((List.pairwise_lt_range (n:=2*T.ae.length)).filter _)
 show(a:Int)<(b:Int)
 omega
theorem nV{T:ah}{n:Int}{a:Int}:a∈bW T n↔dS T a=true∧aN T a.toNat=n:=by
 unfold bW iN
 rw[List.mem_map,dh]
 constructor
 ·rintro⟨b,hb,rfl⟩
  obtain⟨h1,h2⟩:=List.mem_filter.1 hb
  have:=List.mem_range.1 h1
  refine⟨⟨by simp,by simp;omega⟩,by simpa using h2⟩
 ·rintro⟨⟨h0,h1⟩,h2⟩
  refine⟨a.toNat,List.mem_filter.2 ⟨List.mem_range.2 (by omega),by simpa using h2⟩,by simp;omega⟩
theorem F6{T:ah}{n:Int}{L:List Int}(hs:L.Pairwise (· < ·))(hm:∀a∈L,dS T a=true∧aN T a.toNat=n):iE T n L=true:=decide_eq_true fun i hi=>by
 have h1:=hm _ (cf (d:=0) hi)
 refine⟨h1.1,h1.2,fun h0=>?_⟩
 have:=List.pairwise_iff_getElem.1 hs (i - 1) i (by omega) hi (by omega)
 rw[List.getD_eq_getElem?_getD,List.getD_eq_getElem?_getD,List.getElem?_eq_getElem hi,List.getElem?_eq_getElem (by omega:i - 1<L.length)]
 exact this
theorem ur(T:ah)(n:Int)(p:Int→Bool):iE T n ((bW T n).filter p)=true:=F6 ((pN T n).filter p) fun _ ha=>nV.1 (List.mem_filter.1 ha).1
theorem zq(T:ah)(D:List Bool)(n d:Nat):iE T n (bz T D n d)=true:=by
 unfold bz
 split
 ·exact decide_eq_true fun i hi=>by simp at hi
 ·exact ur T n _
theorem mo(T:ah)(D:List Bool)(n:Nat):bz T D n n=[]:=by unfold bz;rw[if_pos (.inl rfl)]
theorem kP{T:ah}{D:List Bool}(hv:au T=true){n:Nat}(hn:(n:Int)<T.nodes):fA T (dW T D n)=true:=by
 unfold fA dW
 have h1:bH T (n:Int)=true:=bu.2 ⟨by omega,hn⟩
 have hN:=(aM hv).nodes
 have h2:decide (((vR T D n T.nodes.toNat).length:Int)=T.nodes)=true:=decide_eq_true (by rw[vt];omega)
 have h3:iE T n (fX D (bW T n))=true:=ur T n _
 have h4:uU T n (vR T D n T.nodes.toNat)=true:=qE fun d e he=>by
  unfold vR at he
  rw[List.getElem?_map,Option.map_eq_some_iff]at he
  obtain⟨d',hd',rfl⟩:=he
  have hd:d'=d:=by
   have:=List.getElem?_eq_some_iff.1 hd'
   obtain⟨h,h'⟩:=this
   simpa using h'.symm
  subst hd
  unfold oh
  simp only[zq,Bool.true_and]
  by_cases hdn:d'=n
  ·subst hdn;rw[mo];simp
  ·rw[decide_eq_false (by omega)];simp
 rw[hv,h1,h2,h3,h4]
 rfl
theorem nO{T:ah}{D:List Bool}(hv:au T=true){d x:Nat}(hd:(d:Int)<T.nodes)(hx:(x:Int)<T.nodes):(aO T D d false).getD x 0=at' (aO T D d false) (x:Int):=by
 have hl:=(eD (D:=D) hv (dir:=false) hd).1
 unfold at'
 rw[Int.toNat_natCast,List.getD_eq_getElem?_getD,List.getD_eq_getElem?_getD,List.getElem?_eq_getElem (by omega)]
 rfl
structure gW (T:ah) (D:List Bool) (n d a:Nat):Prop where
 iu:a<2*T.ae.length
 tail:aN T a=(n:Int)
 up:bF D a=false
 ne:n≠d
 reach:0≤(aO T D d false).getD (aB T a).toNat 0
 pass:aB T a=(d:Int)∨cL T (aB T a).toNat=false
 sum:(aO T D d false).getD n 0=(aO T D d false).getD (aB T a).toNat 0+bS T a
theorem cT{T:ah}{D:List Bool}{n d:Nat}{a:Int}(h:a∈bz T D n d):∃k:Nat,a=k∧gW T D n d k:=by
 unfold bz at h
 split at h
 ·simp at h
 ·rename_i hne
  obtain⟨h1,h2⟩:=List.mem_filter.1 h
  obtain⟨h3,h4⟩:=nV.1 h1
  obtain⟨h5,h6⟩:=dh.1 h3
  obtain⟨k,rfl⟩:=Int.eq_ofNat_of_zero_le h5
  rw[Int.toNat_natCast]at h2 h4
  unfold fV at h2
  simp only[Bool.and_eq_true,Bool.not_eq_true',Bool.or_eq_false_iff,decide_eq_true_eq,decide_eq_false_iff_not]at h2
  obtain⟨⟨⟨g1,g2⟩,g3⟩,g4⟩:=h2
  refine⟨k,rfl,by omega,h4,g1,fun e=>hne (.inl e),by omega,?_,by omega⟩
  rcases Bool.and_eq_false_iff.1 g3 with g|g
  ·exact .inl (Classical.byContradiction (ff g))
  ·exact .inr g
theorem fN{T:ah}{D:List Bool}{n d k:Nat}(h:gW T D n d k)(hc:1≤bS T k):(k:Int)∈bz T D n d:=by
 have hs:=h.sum
 have hr:=h.reach
 unfold bz
 rw[if_neg (by rintro(e|e);exact h.ne e;omega)]
 refine List.mem_filter.2 ⟨nV.2 ⟨dh.2 ⟨by omega,by have:=h.iu;omega⟩,h.tail⟩,?_⟩
 unfold fV
 rw[Int.toNat_natCast]
 simp only[Bool.and_eq_true,Bool.not_eq_true',Bool.or_eq_false_iff,decide_eq_true_eq,decide_eq_false_iff_not]
 refine⟨⟨⟨h.up,by omega⟩,?_⟩,by omega⟩
 rcases h.pass with g|g
 ·rw[decide_eq_false (by simpa using g)];rfl
 ·rw[g,Bool.and_false]
theorem kC{T:ah}{D:List Bool}(hv:au T=true){n d:Nat}(hn:(n:Int)<T.nodes)(hd:(d:Int)<T.nodes)(hne:n≠d)(h0:0≤(aO T D d false).getD n 0):∃k,gW T D n d k:=by
 have hS:=aM hv
 have hI:=fI hS D false hd
 have e1:=nO (D:=D) hv hd hn
 rcases hI.jh n hn (by rw[←e1];exact h0)with h|⟨a,ha,hx,⟨w1,w2,w3⟩,hs⟩
 ·exact absurd h hne
 ·have hh:=hS.head a ha
  obtain⟨y,hy⟩:=Int.eq_ofNat_of_zero_le hh.1
  have e2:=nO (D:=D) hv hd (x:=y) (by omega)
  simp only[eK,cz,Bool.false_eq_true,if_false]at hx w2 w3 hs
  rw[hy]at w2 w3 hs
  refine⟨a,ha,hx,w1,hne,?_,?_,?_⟩
  ·rw[hy,Int.toNat_natCast,e2];exact w2
  ·rw[hy];exact w3
  ·rw[hy,Int.toNat_natCast,e1,e2];exact hs
theorem B2{T:ah}{D:List Bool}(hv:au T=true){d:Nat}(hd:(d:Int)<T.nodes):(aO T D d false).getD d 0=0:=by
 rw[nO hv hd hd]
 exact(fI (aM hv) D false hd).root
noncomputable def dN(T:ah)(D:List Bool)(d x:Nat):Int:=(aO T D d false).getD x 0
def cP(T:ah)(p:List Int):Int:=p.foldr (fun a c=>bS T a.toNat+c) 0
theorem gR(T:ah):cP T []=0:=rfl
theorem fR(T:ah)(a:Int)(p:List Int):cP T (a::p)=bS T a.toNat+cP T p:=rfl
theorem gj(T:ah)(p q:List Int):cP T (p++q)=cP T p+cP T q:=by
 induction p with
 |nil=>simp[gR]
 |cons a p ih=>rw[List.cons_append,fR,fR,ih];omega
inductive SP (T:ah) (D:List Bool) (d:Nat):Nat→List Int→Prop
 |nil:SP T D d d []
 |cons {n a m:Nat} {p:List Int}:gW T D n d a→aB T a=(m:Int)→SP T D d m p→SP T D d n ((a:Int)::p)
inductive Ch (T:ah) (D:List Bool) (d:Nat):Nat→List Int→Prop
 |nil:Ch T D d d []
 |cons {n a m:Nat} {p:List Int}:a<2*T.ae.length→aN T a=(n:Int)→bF D a=false→aB T a=(m:Int)→(p=[]∨cL T m=false)→Ch T D d m p→Ch T D d n ((a:Int)::p)
theorem rF:∀(N:Nat) (l:List Nat),l.Nodup→(∀x∈l,x<N)→l.length≤N
 |0,l,_,h=>by
  cases l with
  |nil=>simp
  |cons a l=>have:=h a (by simp);omega
 |N+1,l,hn,h=>by
  have h1:=rF N (l.erase N) (hn.erase N) (fun x hx=>by
   have h2:=(List.Nodup.mem_erase_iff hn).1 hx
   have:=h x h2.2
   have:=h2.1
   omega)
  rw[List.length_erase]at h1
  split at h1<;>omega
section
variable {T:ah} {D:List Bool} {d:Nat}
theorem di(hv:au T=true){a:Nat}(ha:a<2*T.ae.length):∃m:Nat,aB T a=(m:Int)∧(m:Int)<T.nodes:=by
 obtain⟨h0,h1⟩:=(aM hv).head a ha
 obtain⟨m,hm⟩:=Int.eq_ofNat_of_zero_le h0
 exact⟨m,hm,by rw[←hm];exact h1⟩
theorem kZ(hv:au T=true)(hd:(d:Int)<T.nodes):dN T D d d=0:=B2 hv hd
theorem Kg(hv:au T=true)(hd:(d:Int)<T.nodes){x:Nat}(hx:(x:Int)<T.nodes): -1≤dN T D d x∧dN T D d x≤4194240:=by
 obtain⟨h1,h2⟩:=eD (D:=D) hv (dir:=false) hd
 exact h2 _ (cf (by omega))
theorem gW.dN{n a m:Nat}(h:gW T D n d a)(hm:aB T a=(m:Int)):0≤dN T D d m∧dN T D d n=dN T D d m+bS T a:=by
 have h1:=h.reach
 have h2:=h.sum
 rw[hm,Int.toNat_natCast]at h1 h2
 exact⟨h1,h2⟩
theorem gW.node(hv:au T=true){n a:Nat}(h:gW T D n d a):(n:Int)<T.nodes:=by rw[←h.tail];exact((aM hv).tail a h.iu).2
theorem SP.node(hv:au T=true)(hd:(d:Int)<T.nodes){n:Nat}{p:List Int}(h:SP T D d n p):(n:Int)<T.nodes:=by
 cases h with
 |nil=>exact hd
 |cons h1 _ _=>exact h1.node hv
theorem SP.cost(hv:au T=true)(hd:(d:Int)<T.nodes){n:Nat}{p:List Int}(h:SP T D d n p):dN T D d n=cP T p∧0≤dN T D d n:=by
 induction h with
 |nil=>rw[kZ hv hd];exact⟨rfl,Int.le_refl _⟩
 |cons h1 hm _ ih=>
  obtain⟨g1,g2⟩:=h1.dN hm
  have:=(aM hv).cost _ h1.iu
  rw[fR,Int.toNat_natCast]
  omega
theorem SP.self{p:List Int}(h:SP T D d d p):p=[]:=by
 cases h with
 |nil=>rfl
 |cons h1 _ _=>exact absurd rfl h1.ne
theorem SP.len(hv:au T=true)(hd:(d:Int)<T.nodes){n:Nat}{p:List Int}(h:SP T D d n p):(p.length:Int)≤dN T D d n:=by
 induction h with
 |nil=>rw[kZ hv hd];simp
 |cons h1 hm _ ih=>
  obtain⟨g1,g2⟩:=h1.dN hm
  have:=(aM hv).cost _ h1.iu
  simp only[List.length_cons]
  omega
theorem SP.ch{n:Nat}{p:List Int}(h:SP T D d n p):Ch T D d n p:=by
 induction h with
 |nil=>exact .nil
 | @cons n a m p h1 hm hp ih=>
  refine .cons h1.iu h1.tail h1.up hm ?_ ih
  rcases h1.pass with hx|hx
  ·have:m=d:=by rw[hm]at hx;omega
   subst this
   exact .inl hp.self
  ·rw[hm,Int.toNat_natCast]at hx;exact .inr hx
theorem Dn(hv:au T=true)(hd:(d:Int)<T.nodes){n a m:Nat}(ha:a<2*T.ae.length)(ht:aN T a=(n:Int))(hu:bF D a=false)(hm:aB T a=(m:Int))(ho:m=d∨cL T m=false)(h0:0≤dN T D d m):0≤dN T D d n∧dN T D d n≤dN T D d m+bS T a:=by
 have hS:=aM hv
 have hI:=fI hS D false hd
 have hmN:(m:Int)<T.nodes:=by rw[←hm];exact(hS.head a ha).2
 have hnN:(n:Int)<T.nodes:=by rw[←ht];exact(hS.tail a ha).2
 have e1:=nO (D:=D) hv hd hnN
 have e2:=nO (D:=D) hv hd hmN
 have:=hI.closed a ha ⟨hu,by simp only[cz,Bool.false_eq_true,if_false];rw[hm,←e2];exact h0,by
  simp only[cz,Bool.false_eq_true,if_false];rw[hm]
  rcases ho with h|h
  ·exact .inl (by rw[h])
  ·exact .inr (by simpa using h)⟩
 simp only[eK,cz,Bool.false_eq_true,if_false]at this
 rw[hm,ht,←e1,←e2]at this
 exact this
theorem Ch.node(hv:au T=true)(hd:(d:Int)<T.nodes){n:Nat}{p:List Int}(h:Ch T D d n p):(n:Int)<T.nodes:=by
 cases h with
 |nil=>exact hd
 |cons h1 ht _ _ _ _=>rw[←ht];exact((aM hv).tail _ h1).2
theorem Ch.to{n:Nat}{p:List Int}(h:Ch T D d n p):p=[]→n=d:=by
 cases h with
 |nil=>intro _;rfl
 |cons=>intro h;cases h
theorem Ch.le(hv:au T=true)(hd:(d:Int)<T.nodes){n:Nat}{p:List Int}(h:Ch T D d n p):0≤dN T D d n∧dN T D d n≤cP T p:=by
 induction h with
 |nil=>rw[kZ hv hd];exact⟨Int.le_refl _,Int.le_refl _⟩
 | @cons n a m p ha ht hu hm ho hp ih=>
  have:=Dn hv hd ha ht hu hm (by rcases ho with h|h;exact .inl (hp.to h);exact .inr h) ih.1
  rw[fR,Int.toNat_natCast]
  omega
theorem Ch.sp(hv:au T=true)(hd:(d:Int)<T.nodes){n:Nat}{p:List Int}(h:Ch T D d n p)(hc:dN T D d n=cP T p):SP T D d n p:=by
 induction h with
 |nil=>exact .nil
 | @cons n a m p ha ht hu hm ho hp ih=>
  have ho':m=d∨cL T m=false:=by rcases ho with h|h;exact .inl (hp.to h);exact .inr h
  have h1:=hp.le hv hd
  have h2:=Dn hv hd ha ht hu hm ho' h1.1
  rw[fR,Int.toNat_natCast]at hc
  have h3:=(aM hv).cost a ha
  refine .cons ⟨ha,ht,hu,?_,?_,?_,?_⟩ hm (ih (by omega))
  ·rintro rfl;rw[kZ hv hd]at hc h2;omega
  ·rw[hm,Int.toNat_natCast];exact h1.1
  ·rw[hm];rcases ho' with h|h;exact .inl (by rw[h]);exact .inr (by simpa using h)
  ·rw[hm,Int.toNat_natCast];show dN T D d n=dN T D d m+bS T a;omega
noncomputable def gv(T:ah)(D:List Bool)(d:Nat):Nat→Nat→List Int
 |0,_=>[]
 |f+1,n=>match bz T D n d with
  | []=>[]
  |a::_=>a::gv T D d f (aB T a.toNat).toNat
noncomputable def df(T:ah)(D:List Bool)(n d:Nat):List Int:=gv T D d (dN T D d n).toNat n
theorem sb{n:Nat}(h:dN T D d n<0):bz T D n d=[]:=by unfold bz;rw[if_pos (.inr h)]
theorem wZ(hv:au T=true)(hd:(d:Int)<T.nodes):∀(f n:Nat),(n:Int)<T.nodes→0≤dN T D d n→dN T D d n≤f→SP T D d n (gv T D d f n)
 |f,n,hn,h0,hf=>by
  by_cases hne:n=d
  ·subst hne
   have:gv T D n f n=[]:=by cases f with|zero=>rfl|succ f=>simp only[gv,mo]
   rw[this];exact .nil
  ·obtain⟨k,hk⟩:=kC (D:=D) hv hn hd hne h0
   cases f with
   |zero=>
    obtain⟨m,hm,_⟩:=di hv hk.iu
    have:=hk.dN hm
    have:=(aM hv).cost k hk.iu
    omega
   |succ f=>
    simp only[gv]
    have hmem:=fN hk ((aM hv).cost k hk.iu).1
    cases hx:bz T D n d with
    |nil=>rw[hx]at hmem;cases hmem
    |cons a l=>
     obtain⟨b,hb,hbn⟩:=cT (T:=T) (D:=D) (n:=n) (d:=d) (a:=a) (by rw[hx];simp)
     subst hb
     obtain⟨m,hm,hmN⟩:=di hv hbn.iu
     have g:=hbn.dN hm
     have:=(aM hv).cost b hbn.iu
     simp only[Int.toNat_natCast,hm]
     exact .cons hbn hm (wZ hv hd f m hmN g.1 (by omega))
theorem eL(hv:au T=true)(hd:(d:Int)<T.nodes){n:Nat}(hn:(n:Int)<T.nodes)(h0:0≤dN T D d n):SP T D d n (df T D n d):=wZ hv hd _ n hn h0 (by omega)
noncomputable def mX(T:ah)(D:List Bool)(d:Nat):Nat→Nat→Int
 |0,m=>if m=d then 1 else 0
 |f+1,m=>if m=d then 1 else(bz T D m d).foldl (fun c a=>min 2 (c+mX T D d f (aB T a.toNat).toNat)) 0
noncomputable def dL(T:ah)(D:List Bool)(d m:Nat):Int:=mX T D d (dN T D d m).toNat m
theorem foldl_congr{α β:Type}{f g:α→β→α}:∀ {l:List β} {a:α},(∀a b,b∈l→f a b=g a b)→l.foldl f a=l.foldl g a
 | [],_,_=>rfl
 |b::l,a,h=>by simp only[List.foldl_cons,h a b (by simp)];exact foldl_congr fun a c hc=>h a c (by simp[hc])
theorem my(hv:au T=true)(hd:(d:Int)<T.nodes):∀(K m f:Nat),(m:Int)<T.nodes→dN T D d m≤K→dN T D d m≤f→mX T D d f m=dL T D d m
 |K,m,f,hmN,hK,hf=>by
  unfold dL
  by_cases hmd:m=d
  ·subst hmd
   cases f<;>cases(dN T D m m).toNat<;>simp[mX]
  ·by_cases h0:dN T D d m<0
   ·have hx:=sb h0
    rw[show(dN T D d m).toNat=0 by omega]
    cases f<;>simp[mX,hmd,hx]
   ·obtain⟨k,hk⟩:=kC (D:=D) hv hmN hd hmd (by show 0≤dN T D d m;omega)
    have hpos:0<dN T D d m:=by
     obtain⟨m',hm',_⟩:=di hv hk.iu
     have:=hk.dN hm'
     have:=(aM hv).cost k hk.iu
     omega
    obtain⟨g,hg⟩:∃g,(dN T D d m).toNat=g+1:=⟨(dN T D d m).toNat - 1,by omega⟩
    cases f with
    |zero=>omega
    |succ f=>
     cases K with
     |zero=>omega
     |succ K=>
      rw[hg]
      simp only[mX,if_neg hmd]
      refine foldl_congr fun c a ha=>?_
      obtain⟨b,rfl,hbn⟩:=cT ha
      obtain⟨m',hm',hmN'⟩:=di hv hbn.iu
      have g1:=hbn.dN hm'
      have g2:=(aM hv).cost b hbn.iu
      rw[Int.toNat_natCast,hm',Int.toNat_natCast,my hv hd K m' f hmN' (by omega) (by omega),my hv hd K m' g hmN' (by omega) (by omega)]
theorem oQ(m:Nat):dL T D m m=1:=by unfold dL;cases(dN T D m m).toNat<;>simp[mX]
theorem ru(hv:au T=true)(hd:(d:Int)<T.nodes){m:Nat}(hmN:(m:Int)<T.nodes)(hmd:m≠d):dL T D d m=(bz T D m d).foldl (fun c a=>min 2 (c+dL T D d (aB T a.toNat).toNat)) 0:=by
 by_cases h0:dN T D d m<0
 ·unfold dL
  rw[sb h0,show(dN T D d m).toNat=0 by omega]
  simp[mX,hmd]
 ·have h1:=my (D:=D) hv hd (dN T D d m).toNat m ((dN T D d m).toNat+1) hmN (by omega) (by omega)
  rw[←h1]
  simp only[mX,if_neg hmd]
  refine foldl_congr fun c a ha=>?_
  obtain⟨b,rfl,hbn⟩:=cT ha
  obtain⟨m',hm',hmN'⟩:=di hv hbn.iu
  have g1:=hbn.dN hm'
  have g2:=(aM hv).cost b hbn.iu
  rw[Int.toNat_natCast,hm',Int.toNat_natCast,my hv hd (dN T D d m).toNat m' _ hmN' (by omega) (by omega)]
theorem Ak(hv:au T=true)(hd:(d:Int)<T.nodes){m:Nat}(hmN:(m:Int)<T.nodes)(h0:dN T D d m<0):dL T D d m=0:=by
 have hmd:m≠d:=by rintro rfl;rw[kZ hv hd]at h0;omega
 rw[ru hv hd hmN hmd,sb h0];rfl
theorem oz(g:Int→Int)(hg:∀a,0≤g a):∀(l:List Int) (c:Int),0≤c→c≤2→0≤l.foldl (fun c a=>min 2 (c+g a)) c∧l.foldl (fun c a=>min 2 (c+g a)) c≤2
 | [],c,h0,h2=>⟨h0,h2⟩
 |a::l,c,h0,h2=>by
  have:=hg a
  exact oz g hg l _ (show 0≤min 2 (c+g a) by omega) (show min 2 (c+g a)≤2 by omega)
theorem rP(g:Int→Int)(hg:∀a,0≤g a):∀(l:List Int) (c:Int),c≤2→c≤l.foldl (fun c a=>min 2 (c+g a)) c
 | [],c,_=>Int.le_refl _
 |a::l,c,h2=>by
  have:=hg a
  have:=rP g hg l (min 2 (c+g a)) (by omega)
  simp only[List.foldl_cons]
  omega
theorem tO(hv:au T=true)(hd:(d:Int)<T.nodes):∀(f m:Nat),0≤mX T D d f m∧mX T D d f m≤2
 |0,m=>by simp only[mX];split<;>omega
 |f+1,m=>by
  simp only[mX]
  split
  ·omega
  ·exact oz (fun a=>mX T D d f (aB T a.toNat).toNat) (fun a=>(tO hv hd f _).1) _ 0 (by omega) (by omega)
theorem kM(hv:au T=true)(hd:(d:Int)<T.nodes)(m:Nat):0≤dL T D d m∧dL T D d m≤2:=tO hv hd _ m
theorem AK(hv:au T=true)(hd:(d:Int)<T.nodes):∀(K m:Nat),(m:Int)<T.nodes→0≤dN T D d m→dN T D d m≤K→1≤dL T D d m
 |K,m,hmN,h0,hK=>by
  by_cases hmd:m=d
  ·subst hmd;rw[oQ];omega
  ·obtain⟨k,hk⟩:=kC (D:=D) hv hmN hd hmd h0
   have hmem:=fN hk ((aM hv).cost k hk.iu).1
   obtain⟨m',hm',hmN'⟩:=di hv hk.iu
   have g1:=hk.dN hm'
   have g2:=(aM hv).cost k hk.iu
   cases K with
   |zero=>omega
   |succ K=>
    have hp:=AK hv hd K m' hmN' g1.1 (by omega)
    rw[ru hv hd hmN hmd]
    obtain⟨l1,l2,hl⟩:=List.append_of_mem hmem
    rw[hl,List.foldl_append,List.foldl_cons]
    have hg:∀a:Int,0≤dL T D d (aB T a.toNat).toNat:=fun a=>(kM hv hd _).1
    have a1:=oz (fun a=>dL T D d (aB T a.toNat).toNat) hg l1 0 (by omega) (by omega)
    have a2:=rP (fun a=>dL T D d (aB T a.toNat).toNat) hg l2 (min 2 (l1.foldl (fun c a=>min 2 (c+dL T D d (aB T a.toNat).toNat)) 0+dL T D d (aB T (k:Int).toNat).toNat)) (by omega)
    rw[Int.toNat_natCast,hm',Int.toNat_natCast]at a2
    rw[Int.toNat_natCast,hm',Int.toNat_natCast]
    omega
theorem uO(hv:au T=true)(hd:(d:Int)<T.nodes){m:Nat}(hmN:(m:Int)<T.nodes)(hmd:m≠d)(h:dL T D d m=1):∃a:Nat,bz T D m d=[(a:Int)]∧gW T D m d a∧∀k:Nat,aB T a=(k:Int)→dL T D d k=1:=by
 rw[ru hv hd hmN hmd]at h
 have hg:∀a:Int,0≤dL T D d (aB T a.toNat).toNat:=fun a=>(kM hv hd _).1
 have hone:∀a∈bz T D m d,1≤dL T D d (aB T a.toNat).toNat:=fun a ha=>by
  obtain⟨b,rfl,hb⟩:=cT ha
  obtain⟨m',hm',hmN'⟩:=di hv hb.iu
  have g1:=hb.dN hm'
  rw[Int.toNat_natCast,hm',Int.toNat_natCast]
  exact AK hv hd (dN T D d m').toNat m' hmN' g1.1 (by omega)
 cases hx:bz T D m d with
 |nil=>rw[hx]at h;simp at h
 |cons a l=>
  obtain⟨b,rfl,hb⟩:=cT (T:=T) (D:=D) (n:=m) (d:=d) (a:=a) (by rw[hx];simp)
  have h1:=hone b (by rw[hx];simp)
  rw[hx,List.foldl_cons]at h
  cases l with
  |nil=>
   refine⟨b,rfl,hb,fun k hk=>?_⟩
   simp only[List.foldl_nil,Int.toNat_natCast,hk]at h h1
   omega
  |cons a2 l=>
   have h2:=hone a2 (by rw[hx];simp)
   rw[List.foldl_cons]at h
   have:=rP (fun a=>dL T D d (aB T a.toNat).toNat) hg l (min 2 (min 2 (0+dL T D d (aB T (b:Int).toNat).toNat)+dL T D d (aB T a2.toNat).toNat)) (by omega)
   omega
theorem zR(hv:au T=true)(hd:(d:Int)<T.nodes){m a k:Nat}(hmN:(m:Int)<T.nodes)(hmd:m≠d)(hx:bz T D m d=[(a:Int)])(hk:aB T a=(k:Int))(h:dL T D d k=1):dL T D d m=1:=by
 rw[ru hv hd hmN hmd,hx]
 simp only[List.foldl_cons,List.foldl_nil,Int.toNat_natCast,hk,h]
 omega
theorem SP.unique(hv:au T=true)(hd:(d:Int)<T.nodes){n:Nat}{p q:List Int}(h:SP T D d n p)(hq:SP T D d n q)(hc:dL T D d n=1):p=q:=by
 induction h generalizing q with
 |nil=>exact hq.self.symm
 | @cons n a m p h1 hm hp ih=>
  cases hq with
  |nil=>exact absurd rfl h1.ne
  | @cons _ a' m' q h1' hm' hq=>
   obtain⟨b,hb,_,hb2⟩:=uO hv hd (h1.node hv) h1.ne hc
   have e1:=fN h1 ((aM hv).cost a h1.iu).1
   have e2:=fN h1' ((aM hv).cost a' h1'.iu).1
   rw[hb]at e1 e2
   simp only[List.mem_singleton]at e1 e2
   have ea:a=b:=by omega
   have ea':a'=b:=by omega
   subst ea
   subst ea'
   have em:m=m':=by rw[hm]at hm';omega
   subst em
   rw[ih hq (hb2 m hm)]
noncomputable def fw(T:ah)(D:List Bool)(n d:Int):Bool:=decide (cF T D n d=0)&&decide (dL T D d.toNat n.toNat=1)
theorem SP.Fv(hv:au T=true)(hd:(d:Int)<T.nodes){n:Nat}{p:List Int}(h:SP T D d n p):(p.length:Int)<T.nodes:=by
 have key:∃l:List Nat,l.length=p.length+1∧l.Nodup∧(∀x∈l,(x:Int)<T.nodes∧dN T D d x≤dN T D d n):=by
  induction h with
  |nil=>exact⟨[d],rfl,by simp,fun x hx=>by simp at hx;subst hx;exact⟨hd,Int.le_refl _⟩⟩
  | @cons n a m p h1 hm hp ih=>
   obtain⟨l,e1,e2,e3⟩:=ih
   have g1:=h1.dN hm
   have g2:=(aM hv).cost a h1.iu
   refine⟨n::l,by simp[e1],List.nodup_cons.2 ⟨fun hn=>by have:=(e3 n hn).2;omega,e2⟩,fun x hx=>?_⟩
   cases hx with
   |head=>exact⟨h1.node hv,Int.le_refl _⟩
   |tail _ hx=>have:=e3 x hx;exact⟨this.1,by omega⟩
 obtain⟨l,e1,e2,e3⟩:=key
 have hN:=(aM hv).nodes
 have:=rF T.nodes.toNat l e2 (fun x hx=>by have:=(e3 x hx).1;omega)
 omega
end
def dp(T:ah):Bool→Int→List Int→Int
 |_,_,[]=>0
 |f,n,a::l=>if dS T a=false then 2 else if aN T a.toNat≠n∨(f=false∧cL T n.toNat=true) then 4 else dp T false (aB T a.toNat) l
def dK(T:ah)(n:Int)(l:List Int):Int:=if au T then(if bH T n then dp T true n l else 2) else 1
def cE(T:ah):Int→List Int→Int
 |n,[]=>n
 |_,a::l=>cE T (aB T a.toNat) l
def kd(T:ah)(n:Int)(l:List Int):PV:=.tuple [num (if dK T n l=0 then cE T n l else 0),num (if dK T n l=0 then cP T l else 0),num (dK T n l)]
theorem lO(T:ah):∀(n:Int) (l m:List Int),cE T n (l++m)=cE T (cE T n l) m
 |_,[],_=>rfl
 |_,a::l,m=>lO T _ l m
theorem drop_cons(l:List Int)(k:Nat)(h:k<l.length):l.drop k=l.getD k 0::l.drop (k+1):=by
 rw[List.drop_eq_getElem_cons h,List.getD_eq_getElem?_getD,List.getElem?_eq_getElem h];rfl
theorem gU(T:ah)(n:Int)(l:List Int)(k:Nat)(h:k<l.length):cE T n (l.take (k+1))=aB T (l.getD k 0).toNat:=by
 rw[dr l k 0 h,lO];rfl
theorem ku(T:ah)(l:List Int)(k:Nat)(h:k<l.length):cP T (l.take (k+1))=cP T (l.take k)+bS T (l.getD k 0).toNat:=by
 rw[dr l k 0 h,gj];simp[fR,gR]
theorem mv{T:ah}{f:Bool}{n a:Int}{l:List Int}(h1:dS T a=true)(h2:aN T a.toNat=n)(h3:f=true∨cL T n.toNat=false):dp T f n (a::l)=dp T false (aB T a.toNat) l:=by
 simp only[dp]
 rw[if_neg (by rw[h1];simp),if_neg]
 rintro(h|⟨h,h'⟩)
 ·exact h h2
 ·rcases h3 with h3|h3
  ·rw[h3]at h;cases h
  ·rw[h3]at h';cases h'
theorem wa{T:ah}{f:Bool}{n a:Int}{l:List Int}(h1:dS T a=true)(h2:aN T a.toNat≠n∨(f=false∧cL T n.toNat=true)):dp T f n (a::l)=4:=by
 simp only[dp]
 rw[if_neg (by rw[h1];simp),if_pos h2]
theorem CX(T:ah)(hl:T.ae.length≤4611686018427387902)(a:Int)(h:dS T a=true):Can Tryz.prog 37 [aZ T,num a] (· =num (aB T a.toNat)):=by
 obtain⟨h0,h1⟩:=dh.1 h
 obtain⟨a,rfl⟩:=Int.eq_ofNat_of_zero_le h0
 exact ed T a (by omega) hl
theorem BX(T:ah)(a:Int)(h:dS T a=true):Can Tryz.prog 39 [aZ T,num a] (· =num (bS T a.toNat)):=by
 obtain⟨h0,h1⟩:=dh.1 h
 obtain⟨a,rfl⟩:=Int.eq_ofNat_of_zero_le h0
 exact gi T a (by omega)
theorem zT(T:ah)(hv:au T=true)(a:Int)(h:dS T a=true):Can Tryz.prog 44 [aZ T,num a] (· =num (aN T a.toNat)):=by
 obtain⟨h0,h1⟩:=dh.1 h
 obtain⟨a,rfl⟩:=Int.eq_ofNat_of_zero_le h0
 exact zi T hv a (by omega)
theorem zN(T:ah)(hv:au T=true)(a:Int)(h:dS T a=true):Can Tryz.prog 47 [aZ T,num a] (· =num (aB T a.toNat)):=by
 obtain⟨h0,h1⟩:=dh.1 h
 obtain⟨a,rfl⟩:=Int.eq_ofNat_of_zero_le h0
 exact zx T hv a (by omega)
theorem zg(T:ah)(hv:au T=true)(a:Int)(h:dS T a=true):Can Tryz.prog 46 [aZ T,num a] (· =num (bS T a.toNat)):=by
 obtain⟨h0,h1⟩:=dh.1 h
 obtain⟨a,rfl⟩:=Int.eq_ofNat_of_zero_le h0
 exact zZ T hv a (by omega)
theorem iT{T:ah}(hv:au T=true){a:Int}(h:dS T a=true):(1≤bS T a.toNat∧bS T a.toNat≤65535)∧∃m:Nat,aB T a.toNat=(m:Int)∧(m:Int)<T.nodes:=by
 obtain⟨h0,h1⟩:=dh.1 h
 have hl:a.toNat<2*T.ae.length:=by omega
 exact⟨(aM hv).cost _ hl,di hv hl⟩
theorem Aw{T:ah}(hv:au T=true){x:Nat}(hx:(x:Int)<T.nodes):T.over.length=0∨x<T.over.length:=by have:=(dz hv).2.2.2;omega
theorem xG(T:ah)(n:Int)(l:List Int)(hl:l.length≤1000000):Can Tryz.prog 73 [aZ T,num n,aw l] (· =kd T n l):=by
 refine aT Tryz.func73 I Tryz.ntmps73 I<|af (.a 4 I<|.k [1,2,3,7] I)<|an<|af (.a 1 I<|.c rfl (eo T) I<|.a 1 I<|.k [1,2,3,7,13] I)<|aj I (fun hc=>?_) (fun hc=>?_)
 ·have hv:au T=false:=by simpa using hc
  have hX:dK T n l=1:=by unfold dK;rw[hv];rfl
  unfold kd
  rw[hX]
  exact af (.a 3 I<|.k [6,7,8] I)<|az<|⟨_,_,aE.of I,aD.pure,rfl⟩
 ·have hv:au T=true:=by simpa using hc
  have hll:=bX hv
  refine ak<|an<|af (.a 2 I<|.c rfl (dy T n) I<|.a 1 I<|.k [1,2,3,7,17] I)<|aj I (fun hc=>?_) (fun hc=>?_)
  ·have hn:bH T n=false:=by simpa using hc
   have hX:dK T n l=2:=by unfold dK;rw[hv,hn];rfl
   unfold kd
   rw[hX]
   exact af (.a 3 I<|.k [6,7,8] I)<|az<|⟨_,_,aE.of I,aD.pure,rfl⟩
  ·have hn:bH T n=true:=by simpa using hc
   have hX:dK T n l=dp T true n l:=by unfold dK;rw[hv,hn];rfl
   obtain⟨hn0,hn1⟩:=bu.1 hn
   obtain⟨n,rfl⟩:=Int.eq_ofNat_of_zero_le hn0
   refine ak<|af (.a 2 I<|.k [2,3,6,7] I)<|an<|af (.a 3 I<|.k [3,6,7,19,20,21] I)<|ay<|eY [3,6,7,19,20,21] I<|br (fun r s=>∃(k x:Nat),k≤l.length∧r=l.length - k∧cE T n (l.take k)=(x:Int)∧(x:Int)<T.nodes∧0≤cP T (l.take k)∧cP T (l.take k)≤65535*(k:Int)∧dp T true n l=dp T (decide (k=0)) x (l.drop k)∧s=⟨[(3,.bg (bI T) 0),(6,num x),(7,num (cP T (l.take k))),(19,aw l),(20,num l.length),(21,num k)],[]⟩) l.length ⟨0,n,by omega,by omega,rfl,hn1,by simp[gR],by simp[gR],rfl,rfl⟩ ?_
   rintro r s ⟨k,x,hk,rfl,hx,hxN,hc0,hc1,hw,rfl⟩
   refine af (.a 1 I<|.k [3,6,7,19,20,21,22] I)<|an<|aj I (fun hy=>?_) (fun hy=>?_)
   ·have hlt:k<l.length:=by have:=tt hy;omega
    rw[drop_cons l k hlt]at hw
    obtain⟨p1,hp1⟩:∃q,dS T (l.getD k 0)=q:=⟨_,rfl⟩
    have ha:=mN T (by omega) (l.getD k 0)
    rw[hp1]at ha
    refine ak<|an<|ay<|af (.a 1 I<|.v (aJ (k) I) I<|.v (aK I (aC l k hlt)) I<|.a 2 I<|.k [3,6,7,9,10,19,20,21] I)<|an<|af (.a 2 I<|.c rfl (ha) I<|.a 1 I<|.k [3,6,7,9,10,19,20,21,29] I)<|aj I (fun hz=>?_) (fun hz=>?_)
    ·have h1:p1=false:=by simpa using hz
     subst h1
     have hw2:dp T true n l=2:=by rw[hw];simp only[dp];rw[if_pos hp1]
     unfold kd
     rw[hX,hw2]
     exact af (.a 3 I<|.k [6,7,8] I)<|az<|⟨_,_,aE.of I,aD.pure,rfl⟩
    ·have h1:p1=true:=by simpa using hz
     subst h1
     obtain⟨⟨hco0,hco1⟩,y,hyh,hyN⟩:=iT hv hp1
     have hsN:=gU T n l k hlt
     have hsC:=ku T l k hlt
     obtain⟨p2,hp2⟩:∃q,decide (aN T (l.getD k 0).toNat≠(x:Int))=q:=⟨_,rfl⟩
     obtain⟨p3,hp3⟩:∃q,decide (0<(k:Int))=q:=⟨_,rfl⟩
     obtain⟨p4,hp4⟩:∃q,cL T x=q:=⟨_,rfl⟩
     refine ak<|an<|bP 43 (.raw (.bool (p2||(p3&&p4)))) [3,7,10,19,20,21] I ?_ ?_
     ·refine .a 2 I<|.c rfl (pz T _ hp1) I<|.a 1 I<|.v (cD I (hp2)) I<|.a 1 I<|?_
      cases p2
      ·refine .a 1 I<|.v (cD I (hp3)) I<|.a 1 I<|?_
       cases p3
       ·exact .a 5 I<|.k [43,3,7,10,19,20,21] I
       ·exact .a 2 I<|.c rfl (hp4▸lK T x (Aw hv hxN)) I<|.a 2 I<|.k [43,3,7,10,19,20,21] I
      ·exact .a 8 I<|.k [43,3,7,10,19,20,21] I
     refine aj I (fun hb=>?_) (fun hb=>?_)
     ·have hw4:dp T true n l=4:=by
       rw[hw]
       refine wa hp1 ?_
       rcases Bool.or_eq_true_iff.1 hb with h|h
       ·rw[h]at hp2;exact .inl (tt hp2)
       ·obtain⟨h3,h4⟩:=Bool.and_eq_true_iff.1 h
        rw[h3]at hp3
        rw[h4]at hp4
        exact .inr ⟨decide_eq_false (by have:=tt hp3;omega),by rw[Int.toNat_natCast];exact hp4⟩
      unfold kd
      rw[hX,hw4]
      exact af (.a 3 I<|.k [6,7,8] I)<|az<|⟨_,_,aE.of I,aD.pure,rfl⟩
     ·obtain⟨b2,b3⟩:=Bool.or_eq_false_iff.1 hb
      rw[b2]at hp2
      have ht:aN T (l.getD k 0).toNat=(x:Int):=Classical.byContradiction (ff hp2)
      have hws:=mv (T:=T) (f:=decide (k=0)) (n:=(x:Int)) (l:=l.drop (k+1)) hp1 ht (by
       rcases Bool.and_eq_false_iff.1 b3 with h|h
       ·rw[h]at hp3;exact .inl (decide_eq_true (by have:=ff hp3;omega))
       ·rw[h]at hp4;exact .inr (by rw[Int.toNat_natCast];exact hp4))
      rw[hws,hyh]at hw
      have hh:=CX T (by omega) _ hp1
      rw[hyh]at hh
      refine ak<|af (.a 2 I<|.c rfl (hh) I<|.a 1 I<|.k [3,6,7,10,19,20,21] I)<|aF (.a 3 I<|.c rfl (BX T _ hp1) I<|.v (aU I (hc:=hsC.symm) (hn:=by unfold In64;omega)) I<|.a 1 I<|.k [3,6,7,19,20,21] I) ?_
      refine aF (.v (aU I) I<|.a 1 I<|.k [3,6,7,19,20,21] I) ?_
      exact⟨l.length - (k+1),by omega,k+1,y,by omega,rfl,by rw[hsN,hyh],hyN,by omega,by omega,by rw[hw];rfl,rfl⟩
   ·have hke:k=l.length:=by have:=ff hy;omega
    subst hke
    rw[List.drop_length]at hw
    rw[List.take_length]at hx ⊢
    unfold kd
    rw[hX,hw]
    simp only[dp,if_true]
    rw[hx]
    exact bp<|af (.a 5 I<|.k [6,7,8] I)<|az<|⟨_,_,aE.of I,aD.pure,rfl⟩
theorem CI(T:ah)(n:Int)(l:List Int)(hl:l.length≤1000000):Can Tryz.prog 17 [aZ T,num n,aw l] (· =kd T n l):=by
 obtain⟨g1,hg1⟩:∃q,decide (n<0)=q:=⟨_,rfl⟩
 obtain⟨g2,hg2⟩:∃q,decide (T.nodes≤n)=q:=⟨_,rfl⟩
 have hnb:bH T n= !(g1||g2):=by rw[←hg1,←hg2,←Bool.decide_or,←decide_not];unfold bH;exact decide_eq_decide.2 (by omega)
 refine aT Tryz.func17 I Tryz.ntmps17 I<|af (.a 4 I<|.k [1,2,3] I)<|an<|af (.a 1 I<|.c rfl (i7 T) I<|.a 1 I<|.k [1,2,3,13] I)<|aj I (fun hc=>?_) (fun hc=>?_)
 ·have hv:au T=false:=by simpa using hc
  have hX:dK T n l=1:=by unfold dK;rw[hv];rfl
  unfold kd
  rw[hX]
  exact af (.a 3 I<|.k [6,7,8] I)<|az<|⟨_,_,aE.of I,aD.pure,rfl⟩
 ·have hv:au T=true:=by simpa using hc
  have hll:=bX hv
  refine ak<|an<|bP 21 (.raw (.bool (g1||g2))) [1,2,3] I ?_ ?_
  ·refine .a 1 I<|.v (cD I (hg1)) I<|.a 1 I<|?_
   cases g1
   ·exact .a 3 I<|.v (cD I (hg2)) I<|.a 1 I<|.k [21,1,2,3] I
   ·exact .a 5 I<|.k [21,1,2,3] I
  refine aj I (fun hc=>?_) (fun hc=>?_)
  ·have hn:bH T n=false:=by rw[hnb,hc];rfl
   have hX:dK T n l=2:=by unfold dK;rw[hv,hn];rfl
   unfold kd
   rw[hX]
   exact af (.a 3 I<|.k [6,7,8] I)<|az<|⟨_,_,aE.of I,aD.pure,rfl⟩
  ·have hn:bH T n=true:=by rw[hnb,hc];rfl
   have hX:dK T n l=dp T true n l:=by unfold dK;rw[hv,hn];rfl
   obtain⟨hn0,hn1⟩:=bu.1 hn
   clear hnb hg1 hg2 hc
   obtain⟨n,rfl⟩:=Int.eq_ofNat_of_zero_le hn0
   refine ak<|af (.a 1 I<|.k [1,2,3,9] I)<|an<|af (.a 1 I<|.k [1,2,3,9,10] I)<|ay<|eY [1,2,3,9,10] I<|br (fun r s=>∃(k x:Nat),k≤l.length∧r=l.length - k∧cE T n (l.take k)=(x:Int)∧(x:Int)<T.nodes∧0≤cP T (l.take k)∧cP T (l.take k)≤65535*(k:Int)∧dp T true n l=dp T (decide (k=0)) x (l.drop k)∧s=⟨[(1,num x),(2,aw l),(3,.bg (bI T) 0),(9,num (cP T (l.take k))),(10,num k)],[]⟩) l.length ⟨0,n,by omega,by omega,rfl,hn1,by simp[gR],by simp[gR],rfl,rfl⟩ ?_
   rintro r s ⟨k,x,hk,rfl,hx,hxN,hc0,hc1,hw,rfl⟩
   refine an<|af (.a 4 I<|.k [1,2,3,9,10,25] I)<|aj I (fun hy=>?_) (fun hy=>?_)
   ·have hlt:k<l.length:=by have:=tt hy;omega
    rw[drop_cons l k hlt]at hw
    obtain⟨p1,hp1⟩:∃q,decide (l.getD k 0<0)=q:=⟨_,rfl⟩
    obtain⟨p5,hp5⟩:∃q,decide (2*(T.ae.length:Int)≤l.getD k 0)=q:=⟨_,rfl⟩
    refine ak<|an<|ay<|an<|nG mixed (by kernel_rfl) 41 (.raw (.bool (p1||p5))) [1,2,3,9,10] I ?_ ?_
    ·refine .a 2 I<|.v [28,29] (aJ (k) I) I I<|.v [30] (aK I (aC l k hlt)) I I<|.v [31] (cD I (hp1)) I I<|.a 1 I<|?_
     cases p1
     ·exact .a 2 I<|.v [34,35] (aJ (k) I) I I<|.v [36] (aK I (aC l k hlt)) I I<|.a 1 I<|.v [38] (eW I (mz T hv)) I I<|.v [37,39] (cD I (hp5)) I I<|.a 1 I<|.k [41,1,2,3,9,10] I
     ·exact .a 8 I<|.k [41,1,2,3,9,10] I
    refine aj I (fun hz=>?_) (fun hz=>?_)
    ·have hna:=oJ hp1 hp5 hz
     have hw2:dp T true n l=2:=by rw[hw];simp only[dp];rw[if_pos (by unfold dS;exact decide_eq_false hna)]
     unfold kd
     rw[hX,hw2]
     exact af (.a 3 I<|.k [6,7,8] I)<|az<|⟨_,_,aE.of I,aD.pure,rfl⟩
    ·have hpa:dS T (l.getD k 0)=true:=dh.2 (mw hp1 hp5 hz)
     obtain⟨⟨hco0,hco1⟩,y,hyh,hyN⟩:=iT hv hpa
     have hsN:=gU T n l k hlt
     have hsC:=ku T l k hlt
     obtain⟨p2,hp2⟩:∃q,decide (aN T (l.getD k 0).toNat≠(x:Int))=q:=⟨_,rfl⟩
     obtain⟨p3,hp3⟩:∃q,decide (0<(k:Int))=q:=⟨_,rfl⟩
     obtain⟨p4,hp4⟩:∃q,cL T x=q:=⟨_,rfl⟩
     refine ak<|an<|nG mixed (by kernel_rfl) 58 (.raw (.bool (p2||(p3&&p4)))) [2,3,9,10] I ?_ ?_
     ·refine .a 3 I<|.v [43,44] (aJ (k) I) I I<|.v [45] (aK I (aC l k hlt)) I I<|.v [42,46] (eW I (zT T hv _ hpa)) I I<|.a 1 I<|.v [47,48] (cD I (hp2)) I I<|.a 1 I<|?_
      cases p2
      ·refine .a 1 I<|.v [51] (cD I (hp3)) I I<|.a 1 I<|?_
       cases p3
       ·exact .a 5 I<|.k [58,2,3,9,10] I
       ·exact .a 2 I<|.v [54,55] (eW I (hp4▸C0 T hv x)) I I<|.a 2 I<|.k [58,2,3,9,10] I
      ·exact .a 8 I<|.k [58,2,3,9,10] I
     refine aj I (fun hb=>?_) (fun hb=>?_)
     ·have hw4:dp T true n l=4:=by
       rw[hw]
       refine wa hpa ?_
       rcases Bool.or_eq_true_iff.1 hb with h|h
       ·rw[h]at hp2;exact .inl (tt hp2)
       ·obtain⟨h3,h4⟩:=Bool.and_eq_true_iff.1 h
        rw[h3]at hp3
        rw[h4]at hp4
        exact .inr ⟨decide_eq_false (by have:=tt hp3;omega),by rw[Int.toNat_natCast];exact hp4⟩
      unfold kd
      rw[hX,hw4]
      exact af (.a 3 I<|.k [6,7,8] I)<|az<|⟨_,_,aE.of I,aD.pure,rfl⟩
     ·obtain⟨b2,b3⟩:=Bool.or_eq_false_iff.1 hb
      rw[b2]at hp2
      have ht:aN T (l.getD k 0).toNat=(x:Int):=Classical.byContradiction (ff hp2)
      have hws:=mv (T:=T) (f:=decide (k=0)) (n:=(x:Int)) (l:=l.drop (k+1)) hpa ht (by
       rcases Bool.and_eq_false_iff.1 b3 with h|h
       ·rw[h]at hp3;exact .inl (decide_eq_true (by have:=ff hp3;omega))
       ·rw[h]at hp4;exact .inr (by rw[Int.toNat_natCast];exact hp4))
      rw[hws,hyh]at hw
      have hh:=zN T hv _ hpa
      rw[hyh]at hh
      refine ak<|fZ mixed (by kernel_rfl) (.a 4 I<|.v [61,62] (aJ (k) I) I I<|.v [63] (aK I (aC l k hlt)) I I<|.v [60,64] (eW I (zg T hv _ hpa)) I I<|.v [59,65] (aU I (hc:=hsC.symm) (hn:=by unfold In64;omega)) I I<|.a 1 I<|.k [2,3,9,10] I) ?_
      refine J3 mixed (by kernel_rfl) (.a 3 I<|.v [68,69] (aJ (k) I) I I<|.v [70] (aK I (aC l k hlt)) I I<|.v [67,71] (eW I (hh)) I I<|.a 1 I<|.k [1,2,3,9,10] I) ?_
      refine aF (.a 1 I<|.v (aU I) I<|.a 1 I<|.k [1,2,3,9,10] I) ?_
      exact⟨l.length - (k+1),by omega,k+1,y,by omega,rfl,by rw[hsN,hyh],hyN,by omega,by omega,by rw[hw];rfl,rfl⟩
   ·have hke:k=l.length:=by have:=ff hy;omega
    subst hke
    rw[List.drop_length]at hw
    rw[List.take_length]at hx ⊢
    unfold kd
    rw[hX,hw]
    simp only[dp,if_true]
    rw[hx]
    exact bp<|af (.a 5 I<|.k [6,7,8] I)<|az<|⟨_,_,aE.of I,aD.pure,rfl⟩
theorem lY(T:ah)(hv:au T=true):Can Tryz.prog 61 [aZ T] (· =ew (ca (aN T) T.nodes.toNat (2*T.ae.length))):=by
 have hbd:=dz hv
 have hS:=aM hv
 obtain⟨n,hn⟩:∃n:Nat,T.nodes=(n:Int):=⟨T.nodes.toNat,by omega⟩
 rw[show T.nodes.toNat=n by omega]
 refine aT Tryz.func61 I Tryz.ntmps61 I<|af (.a 2 I<|.k [1] I)<|aR<|ax 2 I<|cg (da I (bG.rk.get I) I I hn hn ⟨by unfold maxLen;omega,by omega⟩) I<|ax 1 I<|aH [1,3] I ?_
 refine jK 43 3 n ?_
 refine an<|af (.a 1 I<|.c rfl (dY T (by omega)) I<|.a 1 I<|.k [1,3,10,11] I)<|ay<|eY [1,3,10,11] I<|br (fun r s=>∃k,k≤2*T.ae.length∧r=2*T.ae.length - k∧s=⟨[(1,.bg (bI T) 0),(3,.own 0),(10,num (2*(T.ae.length:Int))),(11,num k)],jR 43 3 (ca (aN T) n k)⟩) (2*T.ae.length) ⟨0,by omega,by omega,by rw[kL];rfl⟩ ?_
 rintro r s ⟨k,hk,rfl,rfl⟩
 refine af (.a 1 I<|.k [1,3,10,11,12] I)<|an<|aj I (fun hc=>?_) (fun hc=>?_)
 ·have hlt:k<2*T.ae.length:=by have:=of_decide_eq_true hc;omega
  obtain⟨hd0,hhN⟩:=hS.tail k hlt
  obtain⟨m,hm⟩:=Int.eq_ofNat_of_zero_le hd0
  have hmn:m<n:=by omega
  have hrl:=cQ (aN T) n k
  have hgl:((ca (aN T) n k).getD m []).length≤k:=by
   rw[dH _ _ _ _ hmn]
   simp only[List.length_map]
   exact Nat.le_trans (List.length_filter_le _ _) (by simp)
  refine ak<|an<|ay<|af (.a 2 I<|.k [1,3,4,10,11] I)<|af (.a 2 I<|.c rfl (hm▸fp T k hlt) I<|.a 1 I<|.k [1,3,4,5,10,11] I)<|bx<|ax 4 I<|bw (aJ (m) I) I<|bw (aK I (iz _ m (by omega))) I<|ax 2 I<|cg (bC I (bG.rk.get I) I (iv _ _ _ m (by omega)) I I ⟨by unfold maxLen;omega,by omega⟩) I<|bw (aJ (m) I) I<|ba (cm I (bG.tk.get I) I I I (by show m<(eC _).length;simp[eC];omega)) I I<|aH [1,3,10,11] I ?_
  refine cJ (C6 (ca (aN T) n k).length m) (.cons 1 I Ren.pure<|.cons 3 I (Ren.own (i:=0) I)<|.cons 10 I Ren.pure<|.cons 11 I Ren.pure<|.nil) (ow 43 3 (ca (aN T) n k) m (by omega) (k:Int)) (mM _ _) I ?_
  rw[←kX (aN T) n k m hm hmn]
  refine aF (.v (aU I) I<|.a 1 I<|.k [1,3,10,11] I) ?_
  exact⟨2*T.ae.length - (k+1),by omega,k+1,by omega,rfl,rfl⟩
 ·have hke:k=2*T.ae.length:=by have:=of_decide_eq_false hc;omega
  subst hke
  exact bp<|af (.a 2 I<|.k [2] I)<|az<|⟨_,_,aE.of I,v8 _ _ _,rfl⟩
theorem wo(T:ah)(m:Nat)(hm:m<T.nodes.toNat):(ca (aN T) T.nodes.toNat (2*T.ae.length)).getD m []=bW T m:=by
 rw[dH _ _ _ _ hm]
 unfold bW iN
 exact congrArg (List.map Int.ofNat) (List.filter_congr fun a _=>Bool.eq_iff_iff.2 (by simp))
theorem uf(rs:List (List Int))(i:Nat)(h:i<rs.length):(rs.map aw)[i]? =some (aw (rs.getD i [])):=by simp[h]
theorem Hl(T:ah)(D:List Bool)(s d:Int):cX T D [s,d]=cF T D s d:=by
 unfold cF cX
 by_cases h:(au T&&bR T D)=true
 ·rw[if_pos h]
  by_cases hs:bH T s=true<;>by_cases hd:bH T d=true<;>simp[h,hs,hd]
 ·rw[if_neg h]
  have:(au T&&bR T D)=false:=by simpa using h
  simp[this]
noncomputable def jy(T:ah)(D:List Bool)(s d:Int):Int:=if cF T D s d=0 then(if dN T D d.toNat s.toNat<0 then 11 else 0) else cF T D s d
theorem yZ{T:ah}{D:List Bool}{m d j:Nat}(hne:m≠d)(h0:0≤dN T D d m)(hj:j<(bW T m).length)(hno:∀i,i<j→fV T D (aO T D d false) (dN T D d m) d ((bW T m).getD i 0).toNat=false)(hy:fV T D (aO T D d false) (dN T D d m) d ((bW T m).getD j 0).toNat=true):∃l,bz T D m d=(bW T m).getD j 0::l:=by
 unfold bz
 rw[if_neg (by rintro(h|h);exact hne h;exact absurd h (by show ¬dN T D d m<0;omega))]
 have h1:((bW T m).take j).filter (fun a=>fV T D (aO T D d false) (dN T D d m) d a.toNat)=[]:=by
  rw[List.filter_eq_nil_iff]
  intro a ha
  obtain⟨i,hi,rfl⟩:=List.getElem_of_mem ha
  have hij:i<j:=by rw[List.length_take]at hi;omega
  have:=hno i hij
  rw[List.getD_eq_getElem?_getD,List.getElem?_eq_getElem (by omega),Option.getD_some]at this
  rw[List.getElem_take,this]
  simp
 have hs:bW T m=(bW T m).take j++(bW T m).getD j 0::(bW T m).drop (j+1):=by rw[←drop_cons _ _ hj,List.take_append_drop]
 have h2:(bW T m).filter (fun a:Int=>fV T D (aO T D d false) (dN T D d m) d a.toNat)=(bW T m).getD j 0::((bW T m).drop (j+1)).filter (fun a:Int=>fV T D (aO T D d false) (dN T D d m) d a.toNat):=by
  refine(congrArg (List.filter fun a:Int=>fV T D (aO T D d false) (dN T D d m) d a.toNat) hs).trans ?_
  rw[List.filter_append,h1,List.nil_append,List.filter_cons,if_pos hy]
 exact⟨_,h2⟩
theorem zc{T:ah}{D:List Bool}{m d f:Nat}{a:Int}{l:List Int}(h:bz T D m d=a::l):gv T D d (f+1) m=a::gv T D d f (aB T a.toNat).toNat:=by simp only[gv,h]
theorem Ex{T:ah}{D:List Bool}(hv:au T=true){m d:Nat}(hm:(m:Int)<T.nodes)(hd:(d:Int)<T.nodes)(hne:m≠d)(h0:0≤dN T D d m)(hno:∀i,i<(bW T m).length→fV T D (aO T D d false) (dN T D d m) d ((bW T m).getD i 0).toNat=false):False:=by
 obtain⟨k,hk⟩:=kC (D:=D) hv hm hd hne h0
 have:=fN hk ((aM hv).cost k hk.iu).1
 unfold bz at this
 rw[if_neg (by rintro(h|h);exact hne h;exact absurd h (by show ¬dN T D d m<0;omega))]at this
 obtain⟨h1,h2⟩:=List.mem_filter.1 this
 obtain⟨i,hi,he⟩:=List.getElem_of_mem h1
 have h3:=hno i hi
 rw[List.getD_eq_getElem?_getD,List.getElem?_eq_getElem hi,Option.getD_some,he]at h3
 have h2':fV T D (aO T D d false) (dN T D d m) d (k:Int).toNat=true:=h2
 rw[h3]at h2'
 cases h2'
set_option maxHeartbeats 2000000 in
theorem tH(T:ah)(D:List Bool)(s d:Int):Can Tryz.prog 124 [aZ T,bq D,num s,num d] (· =gu (jy T D s d) (df T D s.toNat d.toNat)):=by
 have hch:=mP T D [s,d] (by simp)
 rw[Hl]at hch
 refine aT Tryz.func124 I Tryz.ntmps124 I<|af (.a 3 I<|.k [1,2,3,4] I)<|an<|af (.a 5 I<|.c rfl (hch) I<|.a 1 I<|.k [1,2,3,4,10] I)<|af (.a 2 I<|.k [1,2,3,4,10,26] I)<|aj I (fun hc=>?_) (fun hc=>?_)
 ·have he:cF T D s d≠0:=tt hc
  exact af (.a 3 I<|.k [8,9] I)<|az<|⟨_,_,aE.of I,aD.bY (ai.cons aD.cc (ai.cons aD.pure ai.nil)),by unfold gu jy;rw[if_neg he,if_neg he];rfl⟩
 ·have he:cF T D s d=0:=Classical.byContradiction (ff hc)
  obtain⟨hv,hf,hns,hnd⟩:=fQ he
  obtain⟨hs0,hs1⟩:=bu.1 hns
  obtain⟨hd0,hd1⟩:=bu.1 hnd
  obtain⟨s,rfl⟩:=Int.eq_ofNat_of_zero_le hs0
  obtain⟨d,rfl⟩:=Int.eq_ofNat_of_zero_le hd0
  have hdi:Can Tryz.prog 25 [aZ T,bq D,num d] (· = .tuple [aw (aO T D d false),num 0]):=by
   have h:=rO T D (d:Int)
   rw[show cX T D [(d:Int)]=0 by unfold cF at he;split at he;assumption;assumption]at h
   exact h
  have hS:=aM hv
  have hN:=hS.nodes
  have hll:=bX hv
  obtain⟨hb1,hb2⟩:=eD (D:=D) hv (dir:=false) hd1
  refine ak<|af (.a 3 I<|.c rfl (hdi) I<|.a 5 I<|.k [1,2,3,4,11] I)<|an<|af (.a 2 I<|.v (aJ (s) I) I<|.v (aK I (aC _ s (by omega))) I<|.a 1 I<|.k [1,2,3,4,11,39] I)<|aj I (fun hc=>?_) (fun hc=>?_)
  ·have h0:dN T D d s<0:=tt hc
   exact af (.a 2 I<|.k [8,9] I)<|az<|⟨_,_,aE.of I,aD.bY (ai.cons aD.cc (ai.cons aD.pure ai.nil)),by unfold gu jy;simp only[Int.toNat_natCast];rw[if_pos he,if_pos h0];rfl⟩
  ·have h0:0≤dN T D d s:=by have:=ff hc;show 0≤(aO T D d false).getD s 0;omega
   have hE:jy T D (s:Int) (d:Int)=0:=by unfold jy;simp only[Int.toNat_natCast];rw[if_pos he,if_neg (by omega)]
   rw[hE]
   refine ak<|af (.a 1 I<|.c rfl (lY T hv) I<|.a 1 I<|.k [1,2,3,4,11,13] I)<|af (.a 1 I<|.k [1,2,3,4,11,13,14] I)<|fM 14 3 1 I ?_
   refine an<|af (.a 2 I<|.k [1,3,4,11,13,14,15] I)<|ay<|eY [1,3,4,11,13,14,15] I<|br (fun r st=>∃(p:List Int) (m f:Nat),(m:Int)<T.nodes∧0≤dN T D d m∧dN T D d m≤f∧r=(dN T D d m).toNat∧(p.length:Int)+dN T D d m≤dN T D d s∧df T D s d=p++gv T D d f m∧st=⟨[(1,bq D),(3,num d),(4,.bg (bI T) 0),(11,aw (aO T D d false)),(13,ew (ca (aN T) T.nodes.toNat (2*T.ae.length))),(14,.own 0),(15,num m)],[some (.row 3 1 p.length (aL p))]⟩) (dN T D d s).toNat ⟨[],s,(dN T D d s).toNat,hs1,h0,by omega,rfl,by simp,rfl,rfl⟩ ?_
   rintro r st ⟨p,m,f,hm,hm0,hmf,rfl,hpl,hp,rfl⟩
   refine an<|af (.a 3 I<|.k [1,3,4,11,13,14,15,45] I)<|aj I (fun hy=>?_) (fun hy=>?_)
   ·have hne:m≠d:=by have:=tt hy;omega
    have hml:m<(aO T D d false).length:=by omega
    have hrow:=wo T m (by omega)
    have hbnd:=(Kg (D:=D) hv hd1 hs1).2
    have hol:(bW T m).length≤512:=Nat.le_trans (eM T m _) (by omega)
    refine ak<|ay<|af (.a 2 I<|.v (aJ (m) I (by omega) (by rw[cQ];omega)) I<|.v (aK I ((uf _ m (by rw[cQ];omega)).trans (by rw[hrow]))) I<|.a 2 I<|.k [1,3,4,11,13,14,15,49,50,51] I)<|ay<|eY [1,3,4,11,13,14,15,49,50,51] I<|br (fun r st=>∃j:Nat,j≤(bW T m).length∧r=(bW T m).length - j∧(∀i,i<j→fV T D (aO T D d false) (dN T D d m) d ((bW T m).getD i 0).toNat=false)∧st=⟨[(1,bq D),(3,num d),(4,.bg (bI T) 0),(11,aw (aO T D d false)),(13,ew (ca (aN T) T.nodes.toNat (2*T.ae.length))),(14,.own 0),(15,num m),(49,aw (bW T m)),(50,num (bW T m).length),(51,num j)],[some (.row 3 1 p.length (aL p))]⟩) (bW T m).length ⟨0,by omega,by omega,fun i hi=>by omega,rfl⟩ ?_
    rintro r st ⟨j,hj,rfl,hno,rfl⟩
    refine af (.a 1 I<|.k [1,3,4,11,13,14,15,49,50,51,52] I)<|an<|aj I (fun hz=>?_) (fun hz=>?_)
    ·have hlt:j<(bW T m).length:=by have:=tt hz;omega
     obtain⟨ha0,ha1⟩:=ko (cf (d:=0) hlt)
     obtain⟨a,ha⟩:=Int.eq_ofNat_of_zero_le ha0
     have ham:a<2*T.ae.length:=by omega
     obtain⟨y,hyh,hyN⟩:=di hv ham
     have hyl:y<(aO T D d false).length:=by omega
     have hh:=ed T a ham (by omega)
     rw[hyh]at hh
     have hD:D.length=0∨a<D.length:=by simp only[bR,decide_eq_true_eq]at hf;omega
     obtain⟨p1,hp1⟩:∃q,bF D a=q:=⟨_,rfl⟩
     obtain⟨p2,hp2⟩:∃q,decide ((aO T D d false).getD y 0<0)=q:=⟨_,rfl⟩
     obtain⟨p3,hp3⟩:∃q,decide ((y:Int)≠(d:Int))=q:=⟨_,rfl⟩
     obtain⟨p4,hp4⟩:∃q,cL T y=q:=⟨_,rfl⟩
     have hpass:∀b,fV T D (aO T D d false) (dN T D d m) d ((bW T m).getD j 0).toNat=b↔(!((p1||p2)||(p3&&p4))&&decide ((aO T D d false).getD y 0+bS T a=dN T D d m))=b:=fun b=>by
      unfold fV
      rw[ha,Int.toNat_natCast,hyh,Int.toNat_natCast,hp1,hp2,hp3,hp4]
     refine ak<|an<|ay<|af (.v (aJ (j) I) I<|.v (aK I ((aC _ j hlt).trans (by rw[ha]))) I<|.a 1 I<|.k [1,3,4,11,13,14,15,17,49,50,51] I)<|af (.a 2 I<|.c rfl (hh) I<|.a 1 I<|.k [1,3,4,11,13,14,15,17,18,49,50,51] I)<|an<|bP 77 (.raw (.bool ((p1||p2)||(p3&&p4)))) [1,3,4,11,13,14,15,17,18,49,50,51] I ?_ ?_
     ·refine .a 2 I<|.c rfl (hp1▸jl D a hD) I<|.a 1 I<|?_
      cases p1
      ·refine .a 2 I<|.v (aJ (y) I) I<|.v (aK I (aC _ y hyl)) I<|.v (cD I (hp2)) I<|.a 2 I<|?_
       cases p2
       ·refine .a 2 I<|.v (cD I (hp3)) I<|.a 1 I<|?_
        cases p3
        ·exact .a 5 I<|.k [77,1,3,4,11,13,14,15,17,18,49,50,51] I
        ·exact .a 2 I<|.c rfl (hp4▸lK T y (Aw hv hyN)) I<|.a 2 I<|.k [77,1,3,4,11,13,14,15,17,18,49,50,51] I
       ·exact .a 9 I<|.k [77,1,3,4,11,13,14,15,17,18,49,50,51] I
      ·exact .a 16 I<|.k [77,1,3,4,11,13,14,15,17,18,49,50,51] I
     refine aj I (fun hk=>?_) (fun hk=>?_)
     ·have hnp:=(hpass false).2 (by rw[hk];rfl)
      refine bp<|aF (.v (aU I) I<|.a 1 I<|.k [1,3,4,11,13,14,15,49,50,51] I) ?_
      refine⟨(bW T m).length - (j+1),by omega,j+1,by omega,rfl,fun i hi=>?_,rfl⟩
      by_cases h:i=j
      ·rw[h];exact hnp
      ·exact hno i (by omega)
     ·skip
      refine ak ?_
      have hy4:=hb2 _ (cf (d:=0) hyl)
      have hc4:=hS.cost a ham
      refine fZ mixed (by kernel_rfl) (.a 2 I<|.v [78,79] (aJ (y) I) I I<|.v [80] (aK I (aC _ y hyl)) I I<|.a 2 I<|.v [82,83] (eW I (gi T a ham)) I I<|.v [81,84] (aU I (hn:=by unfold In64;omega)) I I<|.a 2 I<|.v [86,87] (aJ (m) I) I I<|.v [88] (aK I (aC _ m hml)) I I<|.a 1 I<|.k [1,3,4,11,13,14,15,17,18,49,50,51,90] I) ?_
      refine aj I (fun hq=>?_) (fun hq=>?_)
      ·have hyes:=(hpass true).2 (by rw[hk];exact decide_eq_true (tt hq))
       obtain⟨l,hl⟩:=yZ hne hm0 hlt hno hyes
       obtain⟨b,hb,hbn⟩:=cT (T:=T) (D:=D) (n:=m) (d:=d) (a:=(bW T m).getD j 0) (by rw[hl];simp)
       have hba:b=a:=by omega
       subst hba
       have hdy:=hbn.dN hyh
       refine aR<|ax 3 I<|cg (bC I (bG.rk.get I) I I I I (by unfold maxLen;omega)) I<|ax 1 I ?_
       refine eQ [1] (.c 1<|.c 3<|.c 4<|.c 11<|.c 13<|.c 14<|.c 18<|.nil) (.kept rfl (.fk rfl (dJ _ _))<|.nil) I I (bf ?_)
       refine af (.a 2 I<|.k [1,3,4,11,13,14,15] I)<|bp ?_
       cases f with
       |zero=>omega
       |succ f=>
        refine⟨(dN T D d y).toNat,by omega,p++[(b:Int)],y,f,hyN,hdy.1,by omega,rfl,by simp;omega,?_,by simp⟩
        rw[hp,zc hl,ha,Int.toNat_natCast,hyh,Int.toNat_natCast,List.append_assoc]
        rfl
      ·have hnp:=(hpass false).2 (by rw[hk,Bool.and_eq_false_iff];exact .inr (decide_eq_false (ff hq)))
       refine ak<|aF (.v (aU I) I<|.a 1 I<|.k [1,3,4,11,13,14,15,49,50,51] I) ?_
       refine⟨(bW T m).length - (j+1),by omega,j+1,by omega,rfl,fun i hi=>?_,rfl⟩
       by_cases h:i=j
       ·rw[h];exact hnp
       ·exact hno i (by omega)
    ·exact absurd (Ex hv hm hd1 hne hm0 (fun i hi=>hno i (by have:=ff hz;omega))) (fun h=>h)
   ·have hmd:m=d:=by have:=ff hy;omega
    subst hmd
    have hfin:gv T D m f m=[]:=by cases f with|zero=>rfl|succ f=>simp only[gv,mo]
    rw[hfin,List.append_nil]at hp
    exact bp<|af (.a 3 I<|.k [8,9] I)<|az<|⟨_,_,aE.of I,aD.bY (ai.cons (aD.dA rfl ai.pure) (ai.cons aD.pure ai.nil)),by unfold gu;rw[if_pos rfl];simp only[Int.toNat_natCast];rw[hp];rfl⟩
theorem qa(T:ah)(D:List Bool)(m d:Nat):(bz T D m d).Pairwise (· < ·):=by
 unfold bz
 split
 ·exact List.Pairwise.nil
 ·exact(pN T m).filter _
section
variable {P:Program} {σ:bN} {t:b9} {o:Oper}
theorem nu{src dst:TypeId}{x:Operand}{k k':IntKind}{a c:Int}{ty:TypeDesc}(ho:o.op= .convert src dst x)(hs:P.underlying src=some ty)(hd:P.underlying dst=some (.int k'))(hx:aA t x=some (.raw (.int k a)))(hc:k'.wrap a=c):bh P σ t o (.raw (.int k' c)):=by
 intro F base E ρ w hρ _ hT
 have h1:=aq hρ hT hx
 generalize hz:ρ x=z at h1
 cases h1
 have h2:(convert src dst (.int k a)).run P w= .ok (.int k' c) w:=by
  simp[convert,Sem.run_bind,run_underlying hs,run_underlying hd,Conv.intToInt,hc]
 simp only[execOp,ho,hz,Sem.run_bind,h2]
 exact bd (.raw _)
theorem HZ{ty:TypeId}{x ix:Operand}{s:ByteArray}{k:IntKind}{i:Nat}{c:UInt8}(ho:o.op= .index ty x ix)(hu:P.underlying ty=some .string)(hx:aA t x=some (.raw (.string s)))(hix:aA t ix=some (.raw (.int k i)))(h3:s[i]? =some c):bh P σ t o (.raw (.int .u8 c.toNat)):=by
 intro F base E ρ w hρ _ hT
 have h1:=aq hρ hT hx
 have h1':=aq hρ hT hix
 generalize hz:ρ x=z at h1
 generalize hz':ρ ix=z' at h1'
 cases h1
 cases h1'
 have h2:(Instr.index ty (.string s) (.int k i)).run P w= .ok (.int .u8 c.toNat) w:=by
  have h4:(asIntOf (.int k (i:Int))).run P w= .ok (k,(i:Int)) w:=rfl
  simp[Instr.index,Sem.run_bind,run_underlying hu,h3,h4]
 simp only[execOp,ho,hz,hz',Sem.run_bind,h2]
 exact bd (.raw _)
theorem GA{N L:Nat}{x y:Code}{st:St}{Q:Exit→St→Prop}{b:Bool}(h:W P N L (if b then x else y) st Q):W P N L (.cond (.const (.bool b)) x y) st Q:=fun F base E₀ w₀ E a w hcm hs=>
 wp_cond_split (show a.eval (.const (.bool b))= .bool b from rfl) (fun hb=>by subst hb;exact h F base E₀ w₀ E a w hcm hs) (fun hb=>by subst hb;exact h F base E₀ w₀ E a w hcm hs)
end
theorem u8_in(c:UInt8):In64 (c.toNat:Int):=by have:=c.toNat_lt;unfold In64;omega
theorem Jz(c:UInt8):In64 (0+(c.toNat:Int)):=by have:=c.toNat_lt;unfold In64;omega
theorem HP(n:Nat)(h:n≤255):IntKind.u8.wrap (n:Int)=(n:Int):=by rw[IntKind.wrap_u8];omega
def wm(a b:Int):Int:=if a<b then -1 else if b<a then 1 else 0
theorem sM(a:Int):Can Tryz.prog 144 [num a] (· =flag false):=by
 exact aT Tryz.func144 I Tryz.ntmps144 I<|af (.a 1 I<|.k [0] I)<|af (.a 4 I<|.k [2] I)<|az<|⟨_,_,aE.of I,aD.pure,by simp;rfl⟩
theorem AL(a b:Int):Can Tryz.prog 136 [num a,num b] (· =num (wm a b)):=by
 refine aT Tryz.func136 I Tryz.ntmps136 I<|af (.a 1 I<|.k [0,1] I)<|af (.a 1 I<|.c rfl (sM a) I<|.a 1 I<|.k [0,1,5] I)<|af (.a 1 I<|.c rfl (sM b) I<|.a 1 I<|.k [0,1,5,6] I)<|an<|af (.a 1 I<|.k [0,1,6,11] I)<|aj I (fun hc=>?_) (fun hc=>?_)
 ·cases hc
 ·refine ak<|an<|af (.a 1 I<|.k [0,1,13] I)<|aj I (fun hc=>?_) (fun hc=>?_)
  ·cases hc
  ·refine ak<|an<|af (.a 3 I<|.k [0,1,16] I)<|aj I (fun hc=>?_) (fun hc=>?_)
   ·have h1:a<b:=tt hc
    exact af (.a 1 I<|.k [4] I)<|az<|⟨_,_,aE.of I,aD.pure,by unfold wm;rw[if_pos h1];rfl⟩
   ·have h1:¬a<b:=ff hc
    refine ak<|an<|af (.a 3 I<|.k [19] I)<|aj I (fun hy=>?_) (fun hy=>?_)
    ·have h2:b<a:=tt hy
     exact af (.a 1 I<|.k [4] I)<|az<|⟨_,_,aE.of I,aD.pure,by unfold wm;rw[if_neg h1,if_pos h2];rfl⟩
    ·have h2:¬b<a:=ff hy
     exact ak<|af (.a 1 I<|.k [4] I)<|az<|⟨_,_,aE.of I,aD.pure,by unfold wm;rw[if_neg h1,if_neg h2];rfl⟩
theorem IH(a b:Int):Can Tryz.prog 135 [.slice 2 [num a,num b]] (· =num (if a=0 then b else a)):=by
 refine aT Tryz.func135 I Tryz.ntmps135 I<|af (.a 1 I<|.k [0] I)<|af (.a 1 I<|.k [0,3] I)<|an<|af (.a 3 I<|.k [3,6,7,8] I)<|ay<|eY [3,6,7,8] I<|br (fun r st=>∃j:Nat,j≤2∧r=2 - j∧(0<j→a=0)∧(1<j→b=0)∧st=⟨[(3,num 0),(6,.slice 2 [num a,num b]),(7,num 2),(8,num j)],[]⟩) 2 ⟨0,by omega,by omega,by omega,by omega,rfl⟩ ?_
 rintro r st ⟨j,hj,rfl,ha,hb,rfl⟩
 refine af (.a 1 I<|.k [3,6,7,8,9] I)<|an<|aj I (fun hc=>?_) (fun hc=>?_)
 ·have hlt:j<2:=by have:=tt hc;omega
  obtain⟨v,hv,hv2⟩:∃v,[num a,num b][j]? =some (num v)∧v=(if j=0 then a else b):=by
   match j,hlt with
   |0,_=>exact⟨a,rfl,rfl⟩
   |1,_=>exact⟨b,rfl,rfl⟩
  refine ak<|an<|ay<|af (.v (aJ (j) I) I<|.v (aK I (hv)) I<|.a 1 I<|.k [3,5,6,7,8] I)<|af (.a 3 I<|.k [3,5,6,7,8,14] I)<|aj I (fun hy=>?_) (fun hy=>?_)
  ·have h1:v≠0:=tt hy
   refine af (.a 2 I<|.k [2] I)<|az<|⟨_,_,aE.of I,aD.pure,congrArg num ?_⟩
   by_cases h0:j=0
   ·rw[if_pos h0]at hv2;rw[if_neg (by omega)];exact hv2
   ·rw[if_neg h0]at hv2;rw[if_pos (ha (by omega))];exact hv2
  ·have h1:v=0:=Classical.byContradiction (ff hy)
   refine ak<|aF (.v (aU I) I<|.a 1 I<|.k [3,6,7,8] I) ?_
   refine⟨2 - (j+1),by omega,j+1,by omega,rfl,fun _=>?_,fun h=>?_,rfl⟩
   ·by_cases h0:j=0
    ·rw[if_pos h0]at hv2;omega
    ·exact ha (by omega)
   ·rw[if_neg (by omega)]at hv2;omega
 ·have hj2:j=2:=by have:=ff hc;omega
  refine bp<|af (.a 2 I<|.k [2] I)<|az<|⟨_,_,aE.of I,aD.pure,congrArg num ?_⟩
  rw[if_pos (ha (by omega))];exact(hb (by omega)).symm
def Ho(L:List Int)(a b:Nat):Int:=if wm (L.getD b 0) (L.getD a 0)=0 then wm a b else wm (L.getD b 0) (L.getD a 0)
theorem EA(L:List Int)(a b:Nat)(ha:a<L.length)(hb:b<L.length):Can Tryz.prog 134 [num a,num b,.bg [aw L] 0] (· =num (Ho L a b)):=by
 refine aT Tryz.func134 I Tryz.ntmps134 I<|af (.a 1 I<|.k [0,1,2] I)<|fZ mixed (by kernel_rfl) (.a 2 I<|.v [6,7] (aJ (b) I) I I<|.v [8] (aK I (aC L b hb)) I I<|.a 2 I<|.v [10,11] (aJ (a) I) I I<|.v [12] (aK I (aC L a ha)) I I<|.v [9,13] (eW I (AL _ _)) I I<|.a 2 I<|.v [15,16] (eW I (AL _ _)) I I<|.a 1 I<|.v [18] (eW I (IH _ _)) I I<|.a 1 I<|.k [5] I) ?_
 exact az<|⟨_,_,aE.of I,aD.pure,rfl⟩
def Jy(n:Nat):UInt8:=if n=0 then 0 else if n=1 then 1 else if n<4 then 2 else if n<8 then 3 else 4
theorem CS(n:Nat)(hn:n≤12):Can Tryz.prog 146 [.raw (.int .u64 n)] (· =num (Jy n).toNat):=by
 refine aT Tryz.func146 I Tryz.ntmps146 I<|af (.a 1 I<|.k [0,2] I)<|an<|af (.a 1 I<|.v (A2 I I I I) I<|.k [0,2,4] I)<|aj I (fun hc=>?_) (fun hc=>?_)
 ·exact absurd (tt hc) (by omega)
 ·refine ak<|an<|af (.a 1 I<|.v (A2 I I I I) I<|.k [0,2,8] I)<|aj I (fun hc=>?_) (fun hc=>?_)
  ·exact absurd (tt hc) (by omega)
  ·refine ak<|an<|af (.a 1 I<|.v (A2 I I I I) I<|.k [0,2,14] I)<|aj I (fun hc=>?_) (fun hc=>?_)
   ·exact absurd (tt hc) (by omega)
   ·exact ak<|af (.a 2 I<|.v (nu I Tryz.underlying202 Tryz.underlying5 rfl (HP n (by omega))) I<|.v (HZ (c:=Jy n) I Tryz.underlying9 rfl rfl (by rcases(show n=0∨n=1∨n=2∨n=3∨n=4∨n=5∨n=6∨n=7∨n=8∨n=9∨n=10∨n=11∨n=12 by omega)with h|h|h|h|h|h|h|h|h|h|h|h|h<;>subst h<;>rfl)) I<|.v (nu I Tryz.underlying5 Tryz.underlying3 rfl (jF (u8_in _))) I<|.v (aU I (hn:=Jz _)) I<|.a 1 I<|.k [2] I)<|az<|⟨_,_,aE.of I,aD.pure,by rw[Int.zero_add];rfl⟩
theorem GY(n:Nat)(hn:n≤12):Can Tryz.prog 143 [.raw (.int .u64 n)] (· =num (Jy n).toNat):=by
 refine aT Tryz.func143 I Tryz.ntmps143 I<|af (.a 1 I<|.k [0] I)<|an (GA (b:=false) ?_)
 exact ak<|af (.a 1 I<|.c rfl (CS n hn) I<|.a 1 I<|.k [2] I)<|az ⟨_,_,.cons (.tmp rfl) .nil,aD.pure,rfl⟩
def sK(L:List Int)(x y:Int):Prop:=L.getD y.toNat 0<L.getD x.toNat 0∨(L.getD y.toNat 0=L.getD x.toNat 0∧x≤y)
theorem Cm{L:List Int}{x y z:Int}(h:sK L x y)(k:sK L y z):sK L x z:=by unfold sK at*;omega
theorem xr(L:List Int)(a b:Nat):Ho L a b<0↔¬sK L b a:=by
 unfold Ho wm sK
 simp only[Int.toNat_natCast]
 split<;>split<;>(try split)<;>omega
theorem Jn(L:List Int){x y:Int}(h:¬sK L x y):sK L y x:=by unfold sK at*;omega
def Hw(L ys:List Int)(i j:Nat):Prop:=∀p q,p<q→q≤i→q≠j→sK L (ys.getD p 0) (ys.getD q 0)
def Hq(L ys:List Int)(i:Nat):Prop:=∀p q,p<q→q<i→sK L (ys.getD p 0) (ys.getD q 0)
theorem Hq.ins{L ys:List Int}{i:Nat}(h:Hq L ys i):Hw L ys i i:=fun p q h1 h2 h3=>h p q h1 (by omega)
theorem Hw.JX{L ys:List Int}{i:Nat}(h:Hw L ys i 0):Hq L ys (i+1):=fun p q h1 h2=>h p q h1 (by omega) (by omega)
theorem Hw.done{L ys:List Int}{i j:Nat}(h:Hw L ys i j)(hb:sK L (ys.getD (j - 1) 0) (ys.getD j 0)):Hq L ys (i+1):=fun p q h1 h2=>by
 by_cases hq:q=j
 ·subst hq
  by_cases hp:p=q - 1
  ·rw[hp];exact hb
  ·exact Cm (h p (q - 1) (by omega) (by omega) (by omega)) hb
 ·exact h p q h1 (by omega) hq
theorem Hw.swap{L ys:List Int}{i j:Nat}(h:Hw L ys i j)(h0:0<j)(hj:j≤i)(hi:i<ys.length)(hb:¬sK L (ys.getD (j - 1) 0) (ys.getD j 0)):Hw L (Heap.dI ys j (j - 1)) i (j - 1):=fun p q h1 h2 h3=>by
 rw[Heap.dG ys j (j - 1) p (by omega) (by omega),Heap.dG ys j (j - 1) q (by omega) (by omega),if_neg h3]
 by_cases hq:q=j
 ·rw[if_pos hq]
  by_cases hp:p=j - 1
  ·rw[if_pos hp];exact Jn L hb
  ·rw[if_neg hp,if_neg (by omega)];exact h p (j - 1) (by omega) (by omega) (by omega)
 ·rw[if_neg hq]
  by_cases hp:p=j - 1
  ·rw[if_pos hp];exact h j q (by omega) h2 hq
  ·rw[if_neg hp]
   by_cases hp2:p=j
   ·rw[if_pos hp2];exact h (j - 1) q (by omega) h2 hq
   ·rw[if_neg hp2];exact h p q h1 h2 hq
theorem swap_perm(ys:List Int)(p q:Nat)(hp:p<ys.length)(hq:q<ys.length):(Heap.dI ys p q).Perm ys:=by
 have:= @List.set_set_perm _ ys p q hp hq
 unfold Heap.dI
 rw[List.getD_eq_getElem?_getD,List.getD_eq_getElem?_getD,List.getElem?_eq_getElem hp,List.getElem?_eq_getElem hq]
 exact this
theorem Hq.pair{L ys:List Int}(h:Hq L ys ys.length):ys.Pairwise (sK L):=by
 rw[List.pairwise_iff_getElem]
 intro i j hi hj hij
 have:=h i j hij hj
 rw[List.getD_eq_getElem?_getD,List.getD_eq_getElem?_getD,List.getElem?_eq_getElem hi,List.getElem?_eq_getElem hj]at this
 exact this
def eZ(ys:List Int):Option cK:=some (.row 3 1 ys.length (aL ys))
abbrev CE(L:List Int):PV:=.func 134 [.bg [aw L] 0]
theorem BL(L xs:List Int)(c:Option cK)(hx:∀x∈xs,0≤x∧x<L.length)(hn:xs.length≤12):aW Tryz.prog 150 [.own 1,num 0,num xs.length,CE L] [c,eZ xs] (fun _ σ'=>∃ys,ys.Perm xs∧ys.Pairwise (sK L)∧σ'=[c,eZ ys]):=by
 refine bO Tryz.func150 I Tryz.ntmps150 I<|af (.a 1 I<|.v (aU I) I<|.a 1 I<|.k [0,1,2,3,8] I)<|ay<|eY [0,1,2,3,8] I<|br (fun r st=>∃(ys:List Int) (i:Nat),ys.Perm xs∧0<i∧Hq L ys i∧r=13 - i∧st=⟨[(0,.own 1),(1,num 0),(2,num xs.length),(3,CE L),(8,num i)],[c,eZ ys]⟩) 12 ⟨xs,1,.refl _,by omega,fun p q h1 h2=>by omega,rfl,rfl⟩ ?_
 rintro r st ⟨ys,i,hp,hi0,hs,rfl,rfl⟩
 have hyl:=hp.length_eq
 refine an<|af (.a 3 I<|.k [0,1,2,3,8,14] I)<|aj I (fun hc=>?_) (fun hc=>?_)
 ·have hlt:i<xs.length:=by have:=tt hc;omega
  refine ak<|an<|ay<|af (.a 2 I<|.k [0,1,2,3,8,9] I)<|ay<|eY [0,1,2,3,8,9] I<|br (fun r st=>∃(ys:List Int) (j:Nat),ys.Perm xs∧j≤i∧Hw L ys i j∧r=j∧st=⟨[(0,.own 1),(1,num 0),(2,num xs.length),(3,CE L),(8,num i),(9,num j)],[c,eZ ys]⟩) i ⟨ys,i,hp,by omega,hs.ins,rfl,rfl⟩ ?_
  clear hp hs hyl
  rintro r st ⟨zs,j,hp,hji,hs,rfl,rfl⟩
  have hyl:=hp.length_eq
  refine an ?_
  obtain⟨q1,hq1⟩:∃q,decide ((0:Int)<(r:Int))=q:=⟨_,rfl⟩
  have hel:∀k,k<zs.length→∃a:Nat,zs.getD k 0=(a:Int)∧a<L.length:=fun k hk=>by
   have h1:=hx _ (hp.mem_iff.1 (cf (d:=0) hk))
   exact⟨(zs.getD k 0).toNat,by omega,by omega⟩
  obtain⟨a,ha,haL⟩:=hel r (by omega)
  obtain⟨b,hb,hbL⟩:=hel (r - 1) (by omega)
  obtain⟨q2,hq2⟩:∃q,decide (Ho L a b<0)=q:=⟨_,rfl⟩
  refine nG mixed (by kernel_rfl) 34 (.raw (.bool (q1&&q2))) [0,1,2,3,8,9] I ?_ ?_
  ·refine .a 2 I<|.v [18,19] (cD I (hq1)) I I<|.a 1 I<|?_
   cases q1
   ·exact .a 13 I<|.k [34,0,1,2,3,8,9] I
   ·exact .a 3 I<|.v [23,24] (aJ (r) I) I I<|.v [25] (aK I ((aC zs r (by omega)).trans (by rw[ha]))) I I<|.a 2 I<|.v [28] (aU I) I I<|.v [27,29] (aJ ((r - 1)) I (by have:=tt hq1;omega) (by omega)) I I<|.v [30] (aK I ((aC zs (r - 1) (by omega)).trans (by rw[hb]))) I I<|.v [22,26,31] (eW I (EA L a b haL hbL)) I I<|.v [32] (cD I (hq2)) I I<|.a 1 I<|.k [34,0,1,2,3,8,9] I
  refine aj I (fun hy=>?_) (fun hy=>?_)
  ·obtain⟨c1,c2⟩:=Bool.and_eq_true_iff.1 hy
   rw[c1]at hq1
   rw[c2]at hq2
   have hr0:0<r:=by have:=tt hq1;omega
   have hnb:=(xr L a b).1 (tt hq2)
   rw[←ha,←hb]at hnb
   refine ak<|an<|ay<|dR 15 20 mixed (
    .val [0] I (bn I) I I<|
    .val [9] I (bn I) I I<|
    .late [0] I (nz rfl rfl) inferInstance rfl rfl<|
    .late [9] I (nz rfl rfl) inferInstance rfl rfl<|
    .late [40] I (Kc rfl rfl rfl rfl (by unfold In64;omega)) inferInstance rfl rfl<|
    .val [0] I (bn I) I I<|
    .val [9] I (bn I) I I<|
    .val [43] I (aU I) I I<|
    .val [42,44] I (aJ ((r - 1)) I) I I<|
    .val [45] I (aK I ((aC zs (r - 1) (by omega)).trans (by rw[hb]))) I I<|
    .val [0] I (bn I) I I<|
    .val [9] I (bn I) I I<|
    .val [47,48] I (aJ (r) I) I I<|
    .val [49] I (aK I ((aC zs r (by omega)).trans (by rw[ha]))) I I<|
    .val [37,38] I (aJ (r) I) I I<|
    .nil) (by kernel_rfl) I I (bm (ks:=[0,1,2,3,8,9,39,41,46,50,51]) I) ?_
   refine ba ((by first|exact bM I (bG.tk.get I) I I I (by first|omega|(simp;omega))|exact aX I (bG.tk.get I) I I I (by first|omega|(simp;omega)))) I I<|bw (aJ ((r - 1)) I) I<|ba ((by first|exact bM I (bG.tk.get I) I I I (by first|omega|(simp;omega))|exact aX I (bG.tk.get I) I I I (by first|omega|(simp;omega)))) I I<|aH [0,1,2,3,8,9] I ?_
   refine aF (.a 1 I<|.v (aU I) I<|.a 1 I<|.k [0,1,2,3,8,9] I) ?_
   refine⟨r - 1,by omega,Heap.dI zs r (r - 1),r - 1,(swap_perm zs r (r - 1) (by omega) (by omega)).trans hp,by omega,hs.swap hr0 hji (by omega) hnb,rfl,?_⟩
   unfold eZ Heap.dI
   rw[ha,hb,show((r - 1:Nat):Int)=(r:Int) - 1 by omega]
   simp only[List.length_set]
   rfl
  ·have hso:Hq L zs (i+1):=by
    by_cases h0:r=0
    ·subst h0;exact hs.JX
    ·refine hs.done ?_
     rw[ha,hb]
     refine Classical.byContradiction fun hn=>?_
     have:=(xr L a b).2 hn
     have e1:q1=true:=by rw[←hq1];exact decide_eq_true (by omega)
     have e2:q2=true:=by rw[←hq2];exact decide_eq_true this
     rw[e1,e2]at hy
     cases hy
   refine bp<|aF (.a 1 I<|.v (aU I) I<|.a 1 I<|.k [0,1,2,3,8] I) ?_
   exact⟨13 - (i+1),by omega,zs,i+1,hp,by omega,hso,rfl,rfl⟩
 ·have hge:ys.length≤i:=by have:=ff hc;omega
  exact bp<|⟨_,aE.of I,ys,hp,Hq.pair (fun p q h1 h2=>hs p q h1 (by omega)),rfl⟩
theorem HT(L xs:List Int)(c:Option cK)(k:Int)(hx:∀x∈xs,0≤x∧x<L.length)(hn:xs.length≤12):aW Tryz.prog 142 [.own 1,num 0,num xs.length,num k,CE L] [c,eZ xs] (fun _ σ'=>∃ys,ys.Perm xs∧ys.Pairwise (sK L)∧σ'=[c,eZ ys]):=by
 refine bO Tryz.func142 I Tryz.ntmps142 I<|af (.a 1 I<|.k [0,1,2,3,4,10] I)<|af (.a 1 I<|.k [0,1,2,3,4,10,11] I)<|ay<|br (fun r st=>st=⟨[(0,.own 1),(1,num 0),(2,num xs.length),(3,num k),(4,CE L),(10,flag true),(11,flag true)],[c,eZ xs]⟩) 0 I ?_
 rintro r st rfl
 refine ay<|af (.a 2 I<|.v (aU I) I<|.a 1 I<|.k [0,1,2,3,4,10,11,12] I)<|an<|af (.a 2 I<|.k [0,1,2,3,4,10,11,12,25] I)<|aj (b:=decide ((xs.length:Int) - 0≤12)) I (fun _=>?_) (fun hc=>absurd (ff hc) (by omega))
 refine aR<|ax 4 I<|b7 I I (aW.mono (BL L xs c hx hn) (fun _ σ' h=>?_))
 obtain⟨ys,h1,h2,rfl⟩:=h
 refine aH [] I ?_
 exact az ⟨_,.nil,ys,h1,h2,rfl⟩
theorem CP(L xs:List Int)(c:Option cK)(hx:∀x∈xs,0≤x∧x<L.length)(hn:xs.length≤12):aW Tryz.prog 133 [.own 1,CE L] [c,eZ xs] (fun _ σ'=>∃ys,ys.Perm xs∧ys.Pairwise (sK L)∧σ'=[c,eZ ys]):=by
 have hw:IntKind.u64.wrap (xs.length:Int)=(xs.length:Int):=by rw[IntKind.wrap_u64];omega
 refine bO Tryz.func133 I Tryz.ntmps133 I<|af (.a 3 I<|.k [0,1,4] I)<|bx<|ax 3 I<|bw (nu I Tryz.underlying3 Tryz.underlying209 rfl hw) I<|fC I (GY xs.length hn) I<|ax 1 I<|b7 I I (aW.mono (HT L xs c _ hx hn) (fun _ σ' h=>?_))
 obtain⟨ys,h1,h2,rfl⟩:=h
 refine aH [] I ?_
 exact⟨_,aE.of I,ys,h1,h2,rfl⟩
def pB(L:List Int)(i:Nat):List Int:=((List.range i).filter fun k=>decide (0≤L.getD k 0)).map Int.ofNat
theorem BU(L:List Int)(i:Nat):pB L (i+1)=pB L i++(if 0≤L.getD i 0 then [(i:Int)] else []):=by
 unfold pB
 rw[List.range_succ,List.filter_append,List.map_append]
 congr 1
 by_cases h:0≤L.getD i 0
 ·rw[if_pos h,List.filter_cons,if_pos (by simpa using h)];rfl
 ·rw[if_neg h,List.filter_cons,if_neg (by simpa using h)];rfl
theorem xQ(L:List Int)(i:Nat):(pB L i).length≤i:=by
 unfold pB
 rw[List.length_map]
 exact Nat.le_trans (List.length_filter_le _ _) (by simp)
theorem wO{L:List Int}{i:Nat}{x:Int}:x∈pB L i↔∃k:Nat,x=(k:Int)∧k<i∧0≤L.getD k 0:=by
 unfold pB
 simp only[List.mem_map,List.mem_filter,List.mem_range,decide_eq_true_eq]
 constructor
 ·rintro⟨k,⟨h1,h2⟩,rfl⟩;exact⟨k,rfl,h1,h2⟩
 ·rintro⟨k,rfl,h1,h2⟩;exact⟨k,⟨h1,h2⟩,rfl⟩
theorem zH(L:List Int)(i:Nat):(pB L i).Nodup:=by
 unfold pB
 have h1:(List.range i).Pairwise (· ≠ ·):=List.nodup_range
 refine List.Pairwise.map Int.ofNat (fun a b h e=>h (by cases e;rfl)) (h1.filter _)
theorem yI(L cs:List Int)(hn:L.length≤12):aW Tryz.prog 119 [aw L] [eZ cs] (fun r σ'=>∃ys,ys.Perm (pB L L.length)∧ys.Pairwise (sK L)∧r= .own 1∧σ'=[eZ cs,eZ ys]):=by
 refine bO Tryz.func119 I Tryz.ntmps119 I<|af (.a 2 I<|.k [1] I)<|af (.a 1 I<|.k [1,3] I)<|fM 3 3 1 I ?_
 refine an<|af (.a 3 I<|.k [1,3,6,7,8] I)<|ay<|eY [1,3,6,7,8] I<|br (fun r st=>∃i,i≤L.length∧r=L.length - i∧st=⟨[(1,.bg [aw L] 0),(3,.own 1),(6,aw L),(7,num L.length),(8,num i)],[eZ cs,eZ (pB L i)]⟩) L.length ⟨0,by omega,by omega,rfl⟩ ?_
 rintro r st ⟨i,hi,rfl,rfl⟩
 have hhl:=xQ L i
 refine af (.a 1 I<|.k [1,3,6,7,8,9] I)<|an<|aj I (fun hc=>?_) (fun hc=>?_)
 ·have hlt:i<L.length:=by have:=tt hc;omega
  have hst:=BU L i
  refine ak<|an<|ay<|af (.a 1 I<|.v (aJ (i) I) I<|.v (aK I (aC L i hlt)) I<|.a 2 I<|.k [1,3,4,5,6,7,8] I)<|af (.a 2 I<|.k [1,3,4,6,7,8,14] I)<|aj I (fun hy=>?_) (fun hy=>?_)
  ·have h0:0≤L.getD i 0:=tt hy
   rw[if_pos h0]at hst
   refine bx<|ax 3 I<|cg (bC I (bG.rk.get I) I I I I (by unfold maxLen;omega)) I<|ax 1 I ?_
   refine eQ [0,2] (.c 1<|.c 3<|.c 6<|.c 7<|.c 8<|.nil) (.kept rfl (.row ao.pure)<|.kept rfl (.fk rfl (dJ _ _))<|.nil) I I (bf ?_)
   refine aF (.v (aU I) I<|.a 1 I<|.k [1,3,6,7,8] I) ?_
   refine⟨L.length - (i+1),by omega,i+1,by omega,rfl,?_⟩
   rw[hst]
   first
    |rfl
    |(simp only[eZ,List.length_append,List.length_singleton];rfl)
  ·have h0:¬0≤L.getD i 0:=ff hy
   rw[if_neg h0,List.append_nil]at hst
   refine ak<|aF (.v (aU I) I<|.a 1 I<|.k [1,3,6,7,8] I) ?_
   refine⟨L.length - (i+1),by omega,i+1,by omega,rfl,?_⟩
   rw[hst]
   first
    |rfl
    |(simp only[eZ,List.length_append,List.length_singleton];rfl)
 ·have hie:i=L.length:=by have:=ff hc;omega
  subst hie
  refine bp<|aR<|ax 2 I<|b7 I I (aW.mono (CP L (pB L L.length) (eZ cs) (fun x hx=>by obtain⟨k,rfl,h1,_⟩:=wO.1 hx;omega) (by omega)) (fun _ σ' h=>?_))
  obtain⟨ys,h1,h2,rfl⟩:=h
  refine aH [3] I ?_
  exact af (.a 2 I<|.k [2] I)<|az<|⟨_,aE.of I,ys,h1,h2,rfl,rfl⟩
theorem wM(xs:List Int)(c:Option cK)(hn:xs.length≤12):aW Tryz.prog 120 [.own 1] [c,eZ xs] (fun _ σ'=>σ'=[c,eZ xs.reverse]):=by
 refine bO Tryz.func120 I Tryz.ntmps120 I<|af (.a 2 I<|.v (aU I) I<|.a 2 I<|.k [0,2,3] I)<|ay<|eY [0,2,3] I<|br (fun r st=>∃(ys:List Int) (i:Nat),ys.length=xs.length∧2*i≤xs.length+1∧(∀k,k<xs.length→ys.getD k 0=if k<i∨xs.length - i≤k then xs.getD (xs.length - 1 - k) 0 else xs.getD k 0)∧r=xs.length+1 - i∧st=⟨[(0,.own 1),(2,num i),(3,num ((xs.length:Int) - 1 - i))],[c,eZ ys]⟩) (xs.length+1) ⟨xs,0,rfl,by omega,fun k hk=>by rw[if_neg (by omega)],by omega,by simp⟩ ?_
 rintro r st ⟨ys,i,hl,hi,hk,rfl,rfl⟩
 refine an<|af (.a 3 I<|.k [0,2,3,9] I)<|aj I (fun hc=>?_) (fun hc=>?_)
 ·have hlt:2*i+1<xs.length:=by have:=tt hc;omega
  obtain⟨a,ha⟩:∃a,ys.getD i 0=a:=⟨_,rfl⟩
  obtain⟨b,hb⟩:∃b,ys.getD (xs.length - 1 - i) 0=b:=⟨_,rfl⟩
  refine ak<|an<|ay<|dR 13 20 mixed (
   .val [0] I (bn I) I I<|
   .val [2] I (bn I) I I<|
   .late [0] I (nz rfl rfl) inferInstance rfl rfl<|
   .late [3] I (nz rfl rfl) inferInstance rfl rfl<|
   .val [0] I (bn I) I I<|
   .val [3] I (bn I) I I<|
   .val [18,19] I (aJ ((xs.length - 1 - i)) I) I I<|
   .val [20] I (aK I ((aC ys (xs.length - 1 - i) (by omega)).trans (by rw[hb]))) I I<|
   .val [0] I (bn I) I I<|
   .val [2] I (bn I) I I<|
   .val [22,23] I (aJ (i) I) I I<|
   .val [24] I (aK I ((aC ys i (by omega)).trans (by rw[ha]))) I I<|
   .val [14,15] I (aJ (i) I) I I<|
   .nil) (by kernel_rfl) I I (bm (ks:=[0,2,3,16,17,21,25,26]) I) ?_
  refine ba ((by first|exact bM I (bG.tk.get I) I I I (by first|omega|(simp;omega))|exact aX I (bG.tk.get I) I I I (by first|omega|(simp;omega)))) I I<|bw (aJ ((xs.length - 1 - i)) I) I<|ba ((by first|exact bM I (bG.tk.get I) I I I (by first|omega|(simp;omega))|exact aX I (bG.tk.get I) I I I (by first|omega|(simp;omega)))) I I<|aH [0,2,3] I ?_
  refine aF (.a 1 I<|.v (aU I) I<|.a 1 I<|.v (aU I) I<|.a 2 I<|.k [0,2,3] I) ?_
  refine⟨xs.length+1 - (i+1),by omega,Heap.dI ys i (xs.length - 1 - i),i+1,by rw[Heap.gd];exact hl,by omega,fun k hkl=>?_,rfl,?_⟩
  ·rw[Heap.dG ys i (xs.length - 1 - i) k (by omega) (by omega)]
   by_cases h1:k=xs.length - 1 - i
   ·rw[if_pos h1,if_pos (by omega),hk i (by omega),if_neg (by omega),h1,show xs.length - 1 - (xs.length - 1 - i)=i by omega]
   ·rw[if_neg h1]
    by_cases h2:k=i
    ·rw[if_pos h2,if_pos (by omega),hk _ (by omega),if_neg (by omega),h2]
    ·rw[if_neg h2,hk k hkl]
     by_cases h3:k<i∨xs.length - i≤k
     ·rw[if_pos h3,if_pos (by omega)]
     ·rw[if_neg h3,if_neg (by omega)]
  ·unfold eZ Heap.dI
   rw[ha,hb,show(xs.length:Int) - 1 - ((i+1:Nat):Int)=(xs.length:Int) - 1 - i - 1 by omega]
   simp only[List.length_set]
   rfl
 ·have hge:¬2*i+1<xs.length:=by have:=ff hc;omega
  refine bp<|⟨_,aE.of I,?_⟩
  have:ys=xs.reverse:=by
   refine List.ext_getElem (by simp[hl]) fun k h1 h2=>?_
   have h3:=hk k (by omega)
   rw[List.getElem_reverse]
   have e1:ys.getD k 0=ys[k]:=by simp[h1]
   have e2:xs.getD (xs.length - 1 - k) 0=xs[xs.length - 1 - k]:=by rw[List.getD_eq_getElem?_getD,List.getElem?_eq_getElem (by omega)];rfl
   by_cases h4:k<i∨xs.length - i≤k
   ·rw[if_pos h4,e1,e2]at h3;exact h3
   ·rw[if_neg h4,e1]at h3
    rw[h3,←e2,show xs.length - 1 - k=k by omega]
  rw[this]
def G8(a:Nat):PV:=.raw (.int .u8 (a:Int))
section
variable {P:Program} {σ:bN} {t:b9} {o:Oper}
theorem wrap_small{a:Nat}(h:a<256):IntKind.i64.wrap (a:Int)=(a:Int):=by
 have h1:(a:Int) % 18446744073709551616=(a:Int):=by omega
 have h2:¬(9223372036854775808≤(a:Int)):=by omega
 show(if(true&&decide ((a:Int) % 18446744073709551616≥9223372036854775808))=true then(a:Int) % 18446744073709551616 - 18446744073709551616 else(a:Int) % 18446744073709551616)=a
 rw[h1,Bool.true_and,if_neg (by rw[decide_eq_true_eq];exact h2)]
end
open Go.WideShapes Go.ChangeShapes
section
variable {H:Type} {enc:TypeId×Value→H} {W:World}
end
end
section
open Go.RowKit cj Mem
section
variable {P:Program} {N L:Nat} {ops:Array Oper} {Φ:si} {Ts:List b9} {Ss:List bN} {K:St→Prop}
def AM:Nat→Nat→List Bool
 |0,_=>[]
 |n+1,z=>Nat.beq (z % 2) 1::AM n (z / 2)
def nW(n z:Nat):Array Bool:=(AM n z).toArray
def IC(ops:Array Oper)(z:Nat)(l:List (Nat×Nat)):Bool:=
 !l.isEmpty &&(Region.ready .any ops (nW ops.size z)==l.map (·.1))&&l.all fun p=>(AM ops.size z).set p.1 true==AM ops.size p.2
def uw(Ts:List b9)(Ss:List bN)(j:Nat)(ks:List Nat)(k:Nat):Option St:=
 match Ts[j]? with
 |some T=>match jc T ks with
  |some t=>match Ss[k]? with
   |some σ=>some ⟨t,σ⟩
   |none=>none
  |none=>none
 |none=>none
def WZ(P:Program)(N L:Nat)(ops:Array Oper)(Ts:List b9)(Ss:List bN)(K:St→Prop)(n z j:Nat)(ks:List Nat)(k:Nat):Prop:=
 ∀st,uw Ts Ss j ks k=some st→WA P N L ops n (nW ops.size z) st K
def AR(P:Program)(N L:Nat)(ops:Array Oper)(K:St→Prop)(n:Nat)(st:St)(l:List (Nat×Nat)):Prop:=
 ∀p∈l,∃o,ops[p.1]? =some o∧o.guard=none∧WR P N L [o].toArray [o] st (fun s=>WA P N L ops n (nW ops.size p.2) s K)
theorem o8{n:Nat}{ls:Array Bool}{st:St}(Ts:List b9)(Ss:List bN)(ks:List Nat)(hr:uw Ts Ss 0 ks 0=some st)(hl:ls=nW ops.size 0)(h:∀M:Nat→Nat→Nat→List Nat→Nat→Prop,(∀ {n z j ks k},WZ P N L ops Ts Ss K n z j ks k→M n z j ks k)→(∀ {n z j ks k},M n z j ks k→WZ P N L ops Ts Ss K n z j ks k)→M n 0 0 ks 0):WA P N L ops n ls st K:=by
 have:=h (WZ P N L ops Ts Ss K) id id st hr
 rwa [←hl]at this
theorem nk{z j k:Nat}{ks:List Nat}{st:St}(hr:uw Ts Ss j ks k=some st)(hz:Region.ready .any ops (nW ops.size z)=[])(hk:K st):WZ P N L ops Ts Ss K 0 z j ks k:=fun s hs=>by
 rw[hr]at hs
 cases hs
 exact jP hz hk
theorem aa{n z j k:Nat}{ks:List Nat}{st:St}(l:List (Nat×Nat))(hr:uw Ts Ss j ks k=some st)(h:AR P N L ops K n st l)(hl:IC ops z l=true:=by kernel_rfl):WZ P N L ops Ts Ss K (n+1) z j ks k:=fun s hs=>by
 rw[hr]at hs
 cases hs
 unfold IC at hl
 simp only[Bool.and_eq_true,List.all_eq_true]at hl
 obtain⟨⟨h0,h1⟩,h2⟩:=hl
 have h1:=eq_of_beq h1
 refine⟨?_,fun i hi=>?_⟩
 ·rw[h1]
  intro e
  cases l with
  |nil=>simp at h0
  |cons a l=>simp at e
 ·rw[h1]at hi
  obtain⟨p,hp,rfl⟩:=List.mem_map.1 hi
  obtain⟨o,e1,e2,e3⟩:=h p hp
  refine⟨o,e1,e2,?_⟩
  have e:(nW ops.size z).setIfInBounds p.1 true=nW ops.size p.2:=by
   unfold nW
   rw[←eq_of_beq (h2 p hp)]
   simp
  rw[e]
  exact e3
theorem ab{n:Nat}{st:St}:AR P N L ops K n st []:=fun p hp=>by simp at hp
theorem qq{n i z:Nat}{st:St}{o:Oper}{l:List (Nat×Nat)}(ho:ops[i]? =some o)(hg:o.guard=none)(h:WR P N L [o].toArray [o] st (fun s=>WA P N L ops n (nW ops.size z) s K))(hs:AR P N L ops K n st l):AR P N L ops K n st ((i,z)::l):=fun p hp=>by
 rcases List.mem_cons.1 hp with rfl|hp
 ·exact⟨o,ho,hg,h⟩
 ·exact hs p hp
variable {n i z j k:Nat} {ks:List Nat} {o:Oper} {t t':b9} {σ σ':bN} {l:List (Nat×Nat)} {p:PV} {d:Nat}
theorem aQ(ho:ops[i]? =some o)(hg:o.guard=none)(hy:bh P σ t o p)(hd:dk N [o].toArray t o=some d)(ha:WZ P N L ops Ts Ss K n z j ks k)(hr:uw Ts Ss j ks k=some ⟨t',σ⟩)(hk:jc ((d,p)::t) ks=some t')(hs:AR P N L ops K n ⟨t,σ⟩ l):AR P N L ops K n ⟨t,σ⟩ ((i,z)::l):=
 qq ho hg (bw hy hd (aH ks hk (ha _ hr))) hs
theorem bL(ho:ops[i]? =some o)(hg:o.guard=none)(hy:cM P σ t o p σ')(hd:dk N [o].toArray t o=some d)(ha:WZ P N L ops Ts Ss K n z j ks k)(hr:uw Ts Ss j ks k=some ⟨t',σ'⟩)(hk:jc ((d,p)::t) ks=some t')(hs:AR P N L ops K n ⟨t,σ⟩ l):AR P N L ops K n ⟨t,σ⟩ ((i,z)::l):=
 qq ho hg (cg hy hd (aH ks hk (ha _ hr))) hs
theorem nM(ho:ops[i]? =some o)(hg:o.guard=none)(hy:cM P σ t o p σ')(hd:o.dst=none)(hw:dP [o].toArray t o=some true)(ha:WZ P N L ops Ts Ss K n z j ks k)(hr:uw Ts Ss j ks k=some ⟨t',σ'⟩)(hk:jc t ks=some t')(hs:AR P N L ops K n ⟨t,σ⟩ l):AR P N L ops K n ⟨t,σ⟩ ((i,z)::l):=
 qq ho hg (ba hy hd hw (aH ks hk (ha _ hr))) hs
theorem dO[Has P Φ]{f:Nat}{ps:List PV}(ho:ops[i]? =some o)(hg:o.guard=none)(hf:nj Φ t o.op=some (f,ps))(hd:dk N [o].toArray t o=some d)(hc:aW P f ps σ (fun r s=>r=p∧s=σ'))(ha:WZ P N L ops Ts Ss K n z j ks k)(hr:uw Ts Ss j ks k=some ⟨t',σ'⟩)(hk:jc ((d,p)::t) ks=some t')(hs:AR P N L ops K n ⟨t,σ⟩ l):AR P N L ops K n ⟨t,σ⟩ ((i,z)::l):=
 qq ho hg (b7 hf hd (aW.mono hc (fun r s h=>by obtain⟨rfl,rfl⟩:=h;exact aH ks hk (ha _ hr)))) hs
def Ig(Φ:si)(ops:Array Oper)(N:Nat)(t:b9)(σ:bN)(i:Nat)(ks:List Nat):Option b9:=
 match ops[i]? with
 |some o=>match o.guard with
  |none=>match fK Φ σ t o.op with
   |some p=>match dk N [o].toArray t o with
    |some d=>jc ((d,p)::t) ks
    |none=>none
   |none=>none
  |some _=>none
 |none=>none
theorem ag[hP:Has P Φ](ha:WZ P N L ops Ts Ss K n z j ks k)(hr:uw Ts Ss j ks k=some ⟨t',σ⟩)(h:Ig Φ ops N t σ i ks=some t')(hs:AR P N L ops K n ⟨t,σ⟩ l):AR P N L ops K n ⟨t,σ⟩ ((i,z)::l):=by
 unfold Ig at h
 split at h
 ·rename_i o ho
  split at h
  ·rename_i hg
   split at h
   ·rename_i p hp
    split at h
    ·rename_i d hd
     exact aQ ho hg (bn hp) hd ha hr h hs
    ·cases h
   ·cases h
  ·cases h
 ·cases h
end
end
end PW
end Go.Proofs.YteikppbedmmdnaaGreatDoor
namespace Go.Proofs.YteikppbedmmdnaaGreatDoor
namespace eX
section
open Go.RowKit Go.Shelf Net
attribute [local go_sem] Oper.semAt_some
structure Kp (G n:Nat) (W W':World):Prop where
 size:W.heap.size≤W'.heap.size
 block:∀b,b<n→b≠G→W'.heap[b]? =W.heap[b]?
theorem Kp.refl(G n:Nat)(W:World):Kp G n W W:=⟨Nat.le_refl _,fun _ _ _=>rfl⟩
theorem Kp.trans{G n:Nat}{A B C:World}(h:Kp G n A B)(k:Kp G n B C):Kp G n A C:=⟨Nat.le_trans h.size k.size,fun b h1 h2=>(k.block b h1 h2).trans (h.block b h1 h2)⟩
theorem Kp.cell{G n:Nat}{W W':World}(h:Kp G n W W'){p:Addr}(hb:p.block<n)(hG:p.block≠G):W'.cell? p=W.cell? p:=World.cell?_of_block (h.block _ hb hG)
theorem il{W:World}{a:Addr}{v:Value}(o:Obj)(h:W.cell? a=some v):(W.alloc o).cell? a=some v:=cell_kept h (World.grownBy_alloc W o none) (fun r e=>by cases e)
theorem Kp.alloc{G n:Nat}{W:World}(h:n≤W.heap.size)(o:Obj):Kp G n W (W.alloc o):=⟨by simp,fun b h1 _=>Below.heap_alloc _ _ _ (by omega)⟩
def dj(k x:Int)(L:List jt)(i:Nat):Bool:=if k=1 then decide ((i:Int)=x) else if k=2 then decide ((cw L i).a=x)||decide ((cw L i).b=x) else decide ((cw L i).wE=x)
abbrev Ix(N:Nat):= {i:Nat // i<N}
def kG(p:Nat→Bool)(N:Nat):Nat→List (Ix N)
 |0=>[]
 |k+1=>if h:p k=true∧k<N then kG p N k++[⟨k,h.2⟩] else kG p N k
theorem nK(p:Nat→Bool)(N:Nat):∀k,(kG p N k).length≤k
 |0=>Nat.le_refl _
 |k+1=>by
  simp only[kG]
  have:=nK p N k
  split
  ·simp;omega
  ·omega
theorem oO{p:Nat→Bool}{N k:Nat}(h:p k=true)(hk:k<N):kG p N (k+1)=kG p N k++[⟨k,hk⟩]:=by simp only[kG];rw[dif_pos ⟨h,hk⟩]
theorem vH{p:Nat→Bool}{N k:Nat}(h:p k=false):kG p N (k+1)=kG p N k:=by simp only[kG];rw[dif_neg (by rw[h];simp)]
set_option maxRecDepth 100000 in
set_option maxHeartbeats 4000000 in
theorem BD(F:Fence)(n:Nat)(hf:F.fn 121)(hro:F.round=none)(hn:1≤n)(l Bt Bc G n₁ b off cap:Nat)(L:List jt)(x:Int)(hreach:L.length≤1000)(hb:b<n₁)(hbG:b≠G)(hc1:Bc<n₁)(hcG:Bc≠G)(J Jx:List (Ix L.length)→World→Prop)
  (hY:∀pre (i:Ix L.length) W,J pre W→pre.length<L.length→YieldAt F (n - 1) Tryz.prog l #[.int .i64 (i.1:Int)] W fun e W'=>
   (e= .returned (.bool true)∧J (pre++[i]) W'∧Kp G n₁ W W')∨(e= .returned (.bool false)∧Jx (pre++[i]) W'))
  (W:World) (hBt:W.cell? ⟨Bt,2,none⟩=some (.slice (some ⟨b,off,none⟩) L.length cap)) (hBk:W.cell? ⟨Bc,0,none⟩=some (.int .i64 1)) (hBx:W.cell? ⟨Bc,1,none⟩=some (.int .i64 x))
  (hcs:∀i,i<L.length→W.cell? ⟨b,off+i*7,none⟩=some (.int .i64 (cw L i).a)∧W.cell? ⟨b,off+i*7+1,none⟩=some (.int .i64 (cw L i).b)∧W.cell? ⟨b,off+i*7+2,none⟩=some (.int .i64 (cw L i).c0)∧W.cell? ⟨b,off+i*7+3,none⟩=some (.int .i64 (cw L i).c1)∧W.cell? ⟨b,off+i*7+4,none⟩=some (.int .i64 (cw L i).cap)∧W.cell? ⟨b,off+i*7+5,none⟩=some (.int .i64 (cw L i).fj)∧W.cell? ⟨b,off+i*7+6,none⟩=some (.int .i64 (cw L i).wE))
  (hsz:n₁≤W.heap.size) (hA:AbidesFrom W.heap.size J) (h0:J [] W):
  CallsIn F n Tryz.prog 121 #[.func (.yield l) #[] #[],.pointer (some ⟨Bt,0,none⟩),.pointer (some ⟨Bc,0,none⟩)] W fun e W'=>(∃v,e= .returned v)∧
   ((∃ys,ys=kG (dj 1 x L) L.length L.length∧J ys W')∨(∃pre,Jx pre W')):=by
 refine callsIn_of_wp Tryz.func121 I hf ?_ hro
 simp only[Tryz.ntmps121,List.size_toArray,List.length_cons,List.length_nil,Nat.reduceAdd,Nat.reduceSub,Array.replicate_succ,Array.replicate_zero,List.push_toArray,List.append_toArray,List.nil_append,List.cons_append]
 gi_wp2
 gi_loopw [10] (fun i wr=>∃k:Nat,k≤L.length∧i= .int .i64 k∧J (kG (dj 1 x L) L.length k) wr∧Kp G n₁ W wr)
  (fun i _=>L.length - (intOf i).toNat)
 case atStart=>exact⟨0,Nat.zero_le _,rfl,h0,Kp.refl _ _ _⟩
 case round=>
  obtain⟨k,hk,rfl,hJs,hnx⟩:=hrel
  by_cases hlt:k<L.length
  ·obtain⟨a0,a1,a2,a3,a4,a5,a6⟩:=hcs k hlt
   have b0:=(hnx.cell (p:=⟨b,off+k*7,none⟩) hb hbG).trans a0
   have b1:=(hnx.cell (p:=⟨b,off+k*7+1,none⟩) hb hbG).trans a1
   have b2:=(hnx.cell (p:=⟨b,off+k*7+2,none⟩) hb hbG).trans a2
   have b3:=(hnx.cell (p:=⟨b,off+k*7+3,none⟩) hb hbG).trans a3
   have b4:=(hnx.cell (p:=⟨b,off+k*7+4,none⟩) hb hbG).trans a4
   have b5:=(hnx.cell (p:=⟨b,off+k*7+5,none⟩) hb hbG).trans a5
   have b6:=(hnx.cell (p:=⟨b,off+k*7+6,none⟩) hb hbG).trans a6
   have c0:=(hnx.cell (p:=⟨Bc,0,none⟩) hc1 hcG).trans hBk
   have c1:=(hnx.cell (p:=⟨Bc,1,none⟩) hc1 hcG).trans hBx
   clear a0 a1 a2 a3 a4 a5 a6
   obtain⟨fa,hfa⟩:∃v,(cw L k).a=v:=⟨_,rfl⟩
   obtain⟨fb,hfb⟩:∃v,(cw L k).b=v:=⟨_,rfl⟩
   obtain⟨fg,hfg⟩:∃v,(cw L k).wE=v:=⟨_,rfl⟩
   rw[hfa]at b0
   rw[hfb]at b1
   rw[hfg]at b6
   have d0:=il (.cells #[.int .i64 fa,.int .i64 fb,.int .i64 (cw L k).c0,.int .i64 (cw L k).c1,.int .i64 (cw L k).cap,.int .i64 (cw L k).fj,.int .i64 fg] 82) c0
   have d1:=il (.cells #[.int .i64 fa,.int .i64 fb,.int .i64 (cw L k).c0,.int .i64 (cw L k).c1,.int .i64 (cw L k).cap,.int .i64 (cw L k).fj,.int .i64 fg] 82) c1
   have hJ2:J (kG (dj 1 x L) L.length k) (wr.alloc (.cells #[.int .i64 fa,.int .i64 fb,.int .i64 (cw L k).c0,.int .i64 (cw L k).c1,.int .i64 (cw L k).cap,.int .i64 (cw L k).fj,.int .i64 fg] 82)):=hA _ _ _ none hJs (World.grownBy_alloc _ _ none) (fun r e=>by cases e)
   have hK2:Kp G n₁ W (wr.alloc (.cells #[.int .i64 fa,.int .i64 fb,.int .i64 (cw L k).c0,.int .i64 (cw L k).c1,.int .i64 (cw L k).cap,.int .i64 (cw L k).fj,.int .i64 fg] 82)):=hnx.trans (Kp.alloc (by have:=hnx.size;omega) _)
   by_cases hp:(k:Int)=x
   ·subst hp
    obtain⟨fn,tmps,assign,body,hy,hR⟩:=hY _ ⟨k,hlt⟩ _ hJ2 (by have:=nK (dj 1 (k:Int) L) L.length k;omega)
    dsimp only at hy
    have hpk:dj 1 (k:Int) L k=true:=by unfold dj;simp
    gi_wp2
    refine hR.mono ?_
    rintro e W3 (⟨rfl,hJ3,hk3⟩|⟨rfl,hJx3⟩)
    ·gi_wp2
     go_roundw
     case rel=>exact⟨k+1,by omega,by simp,by rw[oO hpk hlt];exact hJ3,hK2.trans hk3⟩
     case measure=>simp[intOf];omega
    ·gi_wp2
     refine bodyPost_ret (results_none rfl _ _ _) I ?_
     exact⟨⟨_,rfl⟩,.inr ⟨_,hJx3⟩⟩
   ·have hpk:dj 1 x L k=false:=by unfold dj;simp[hfa,hfb,hfg,hp]
    gi_wp2
    refine⟨fun _ h=>(by cases h),?_⟩
    gi_wp2
    go_roundw
    case rel=>exact⟨k+1,by omega,by simp,by rw[vH hpk];exact hJ2,hK2⟩
    case measure=>simp[intOf];omega
  ·obtain rfl:k=L.length:=by omega
   gi_wp2
   go_end0
   exact⟨⟨_,rfl⟩,.inl ⟨_,rfl,hJs⟩⟩
set_option maxRecDepth 100000 in
set_option maxHeartbeats 4000000 in
theorem CR(F:Fence)(n:Nat)(hf:F.fn 121)(hro:F.round=none)(hn:1≤n)(l Bt Bc G n₁ b off cap:Nat)(L:List jt)(x:Int)(hreach:L.length≤1000)(hb:b<n₁)(hbG:b≠G)(hc1:Bc<n₁)(hcG:Bc≠G)(J Jx:List (Ix L.length)→World→Prop)
  (hY:∀pre (i:Ix L.length) W,J pre W→pre.length<L.length→YieldAt F (n - 1) Tryz.prog l #[.int .i64 (i.1:Int)] W fun e W'=>
   (e= .returned (.bool true)∧J (pre++[i]) W'∧Kp G n₁ W W')∨(e= .returned (.bool false)∧Jx (pre++[i]) W'))
  (W:World) (hBt:W.cell? ⟨Bt,2,none⟩=some (.slice (some ⟨b,off,none⟩) L.length cap)) (hBk:W.cell? ⟨Bc,0,none⟩=some (.int .i64 2)) (hBx:W.cell? ⟨Bc,1,none⟩=some (.int .i64 x))
  (hcs:∀i,i<L.length→W.cell? ⟨b,off+i*7,none⟩=some (.int .i64 (cw L i).a)∧W.cell? ⟨b,off+i*7+1,none⟩=some (.int .i64 (cw L i).b)∧W.cell? ⟨b,off+i*7+2,none⟩=some (.int .i64 (cw L i).c0)∧W.cell? ⟨b,off+i*7+3,none⟩=some (.int .i64 (cw L i).c1)∧W.cell? ⟨b,off+i*7+4,none⟩=some (.int .i64 (cw L i).cap)∧W.cell? ⟨b,off+i*7+5,none⟩=some (.int .i64 (cw L i).fj)∧W.cell? ⟨b,off+i*7+6,none⟩=some (.int .i64 (cw L i).wE))
  (hsz:n₁≤W.heap.size) (hA:AbidesFrom W.heap.size J) (h0:J [] W):
  CallsIn F n Tryz.prog 121 #[.func (.yield l) #[] #[],.pointer (some ⟨Bt,0,none⟩),.pointer (some ⟨Bc,0,none⟩)] W fun e W'=>(∃v,e= .returned v)∧
   ((∃ys,ys=kG (dj 2 x L) L.length L.length∧J ys W')∨(∃pre,Jx pre W')):=by
 refine callsIn_of_wp Tryz.func121 I hf ?_ hro
 simp only[Tryz.ntmps121,List.size_toArray,List.length_cons,List.length_nil,Nat.reduceAdd,Nat.reduceSub,Array.replicate_succ,Array.replicate_zero,List.push_toArray,List.append_toArray,List.nil_append,List.cons_append]
 gi_wp2
 gi_loopw [10] (fun i wr=>∃k:Nat,k≤L.length∧i= .int .i64 k∧J (kG (dj 2 x L) L.length k) wr∧Kp G n₁ W wr)
  (fun i _=>L.length - (intOf i).toNat)
 case atStart=>exact⟨0,Nat.zero_le _,rfl,h0,Kp.refl _ _ _⟩
 case round=>
  obtain⟨k,hk,rfl,hJs,hnx⟩:=hrel
  by_cases hlt:k<L.length
  ·obtain⟨a0,a1,a2,a3,a4,a5,a6⟩:=hcs k hlt
   have b0:=(hnx.cell (p:=⟨b,off+k*7,none⟩) hb hbG).trans a0
   have b1:=(hnx.cell (p:=⟨b,off+k*7+1,none⟩) hb hbG).trans a1
   have b2:=(hnx.cell (p:=⟨b,off+k*7+2,none⟩) hb hbG).trans a2
   have b3:=(hnx.cell (p:=⟨b,off+k*7+3,none⟩) hb hbG).trans a3
   have b4:=(hnx.cell (p:=⟨b,off+k*7+4,none⟩) hb hbG).trans a4
   have b5:=(hnx.cell (p:=⟨b,off+k*7+5,none⟩) hb hbG).trans a5
   have b6:=(hnx.cell (p:=⟨b,off+k*7+6,none⟩) hb hbG).trans a6
   have c0:=(hnx.cell (p:=⟨Bc,0,none⟩) hc1 hcG).trans hBk
   have c1:=(hnx.cell (p:=⟨Bc,1,none⟩) hc1 hcG).trans hBx
   clear a0 a1 a2 a3 a4 a5 a6
   obtain⟨fa,hfa⟩:∃v,(cw L k).a=v:=⟨_,rfl⟩
   obtain⟨fb,hfb⟩:∃v,(cw L k).b=v:=⟨_,rfl⟩
   obtain⟨fg,hfg⟩:∃v,(cw L k).wE=v:=⟨_,rfl⟩
   rw[hfa]at b0
   rw[hfb]at b1
   rw[hfg]at b6
   have d0:=il (.cells #[.int .i64 fa,.int .i64 fb,.int .i64 (cw L k).c0,.int .i64 (cw L k).c1,.int .i64 (cw L k).cap,.int .i64 (cw L k).fj,.int .i64 fg] 82) c0
   have d1:=il (.cells #[.int .i64 fa,.int .i64 fb,.int .i64 (cw L k).c0,.int .i64 (cw L k).c1,.int .i64 (cw L k).cap,.int .i64 (cw L k).fj,.int .i64 fg] 82) c1
   have hJ2:J (kG (dj 2 x L) L.length k) (wr.alloc (.cells #[.int .i64 fa,.int .i64 fb,.int .i64 (cw L k).c0,.int .i64 (cw L k).c1,.int .i64 (cw L k).cap,.int .i64 (cw L k).fj,.int .i64 fg] 82)):=hA _ _ _ none hJs (World.grownBy_alloc _ _ none) (fun r e=>by cases e)
   have hK2:Kp G n₁ W (wr.alloc (.cells #[.int .i64 fa,.int .i64 fb,.int .i64 (cw L k).c0,.int .i64 (cw L k).c1,.int .i64 (cw L k).cap,.int .i64 (cw L k).fj,.int .i64 fg] 82)):=hnx.trans (Kp.alloc (by have:=hnx.size;omega) _)
   by_cases hp:fa=x
   ·subst hp
    obtain⟨fn,tmps,assign,body,hy,hR⟩:=hY _ ⟨k,hlt⟩ _ hJ2 (by have:=nK (dj 2 fa L) L.length k;omega)
    dsimp only at hy
    have hpk:dj 2 fa L k=true:=by unfold dj;simp[hfa,hfb,hfg]
    gi_wp2
    refine hR.mono ?_
    rintro e W3 (⟨rfl,hJ3,hk3⟩|⟨rfl,hJx3⟩)
    ·gi_wp2
     go_roundw
     case rel=>exact⟨k+1,by omega,by simp,by rw[oO hpk hlt];exact hJ3,hK2.trans hk3⟩
     case measure=>simp[intOf];omega
    ·gi_wp2
     refine bodyPost_ret (results_none rfl _ _ _) I ?_
     exact⟨⟨_,rfl⟩,.inr ⟨_,hJx3⟩⟩
   ·by_cases hq:fb=x
    ·subst hq
     obtain⟨fn,tmps,assign,body,hy,hR⟩:=hY _ ⟨k,hlt⟩ _ hJ2 (by have:=nK (dj 2 fb L) L.length k;omega)
     dsimp only at hy
     have hpk:dj 2 fb L k=true:=by unfold dj;simp[hfa,hfb,hfg]
     gi_wp2
     refine hR.mono ?_
     rintro e W3 (⟨rfl,hJ3,hk3⟩|⟨rfl,hJx3⟩)
     ·gi_wp2
      go_roundw
      case rel=>exact⟨k+1,by omega,by simp,by rw[oO hpk hlt];exact hJ3,hK2.trans hk3⟩
      case measure=>simp[intOf];omega
     ·gi_wp2
      refine bodyPost_ret (results_none rfl _ _ _) I ?_
      exact⟨⟨_,rfl⟩,.inr ⟨_,hJx3⟩⟩
    ·have hpk:dj 2 x L k=false:=by unfold dj;simp[hfa,hfb,hfg,hp,hq]
     gi_wp2
     refine⟨fun _ h=>(by cases h),?_⟩
     gi_wp2
     go_roundw
     case rel=>exact⟨k+1,by omega,by simp,by rw[vH hpk];exact hJ2,hK2⟩
     case measure=>simp[intOf];omega
  ·obtain rfl:k=L.length:=by omega
   gi_wp2
   go_end0
   exact⟨⟨_,rfl⟩,.inl ⟨_,rfl,hJs⟩⟩
set_option maxRecDepth 100000 in
set_option maxHeartbeats 4000000 in
theorem Bp(F:Fence)(n:Nat)(hf:F.fn 121)(hro:F.round=none)(hn:1≤n)(l Bt Bc G n₁ b off cap:Nat)(L:List jt)(x:Int)(hreach:L.length≤1000)(hb:b<n₁)(hbG:b≠G)(hc1:Bc<n₁)(hcG:Bc≠G)(J Jx:List (Ix L.length)→World→Prop)
  (hY:∀pre (i:Ix L.length) W,J pre W→pre.length<L.length→YieldAt F (n - 1) Tryz.prog l #[.int .i64 (i.1:Int)] W fun e W'=>
   (e= .returned (.bool true)∧J (pre++[i]) W'∧Kp G n₁ W W')∨(e= .returned (.bool false)∧Jx (pre++[i]) W'))
  (W:World) (hBt:W.cell? ⟨Bt,2,none⟩=some (.slice (some ⟨b,off,none⟩) L.length cap)) (hBk:W.cell? ⟨Bc,0,none⟩=some (.int .i64 3)) (hBx:W.cell? ⟨Bc,1,none⟩=some (.int .i64 x))
  (hcs:∀i,i<L.length→W.cell? ⟨b,off+i*7,none⟩=some (.int .i64 (cw L i).a)∧W.cell? ⟨b,off+i*7+1,none⟩=some (.int .i64 (cw L i).b)∧W.cell? ⟨b,off+i*7+2,none⟩=some (.int .i64 (cw L i).c0)∧W.cell? ⟨b,off+i*7+3,none⟩=some (.int .i64 (cw L i).c1)∧W.cell? ⟨b,off+i*7+4,none⟩=some (.int .i64 (cw L i).cap)∧W.cell? ⟨b,off+i*7+5,none⟩=some (.int .i64 (cw L i).fj)∧W.cell? ⟨b,off+i*7+6,none⟩=some (.int .i64 (cw L i).wE))
  (hsz:n₁≤W.heap.size) (hA:AbidesFrom W.heap.size J) (h0:J [] W):
  CallsIn F n Tryz.prog 121 #[.func (.yield l) #[] #[],.pointer (some ⟨Bt,0,none⟩),.pointer (some ⟨Bc,0,none⟩)] W fun e W'=>(∃v,e= .returned v)∧
   ((∃ys,ys=kG (dj 3 x L) L.length L.length∧J ys W')∨(∃pre,Jx pre W')):=by
 refine callsIn_of_wp Tryz.func121 I hf ?_ hro
 simp only[Tryz.ntmps121,List.size_toArray,List.length_cons,List.length_nil,Nat.reduceAdd,Nat.reduceSub,Array.replicate_succ,Array.replicate_zero,List.push_toArray,List.append_toArray,List.nil_append,List.cons_append]
 gi_wp2
 gi_loopw [10] (fun i wr=>∃k:Nat,k≤L.length∧i= .int .i64 k∧J (kG (dj 3 x L) L.length k) wr∧Kp G n₁ W wr)
  (fun i _=>L.length - (intOf i).toNat)
 case atStart=>exact⟨0,Nat.zero_le _,rfl,h0,Kp.refl _ _ _⟩
 case round=>
  obtain⟨k,hk,rfl,hJs,hnx⟩:=hrel
  by_cases hlt:k<L.length
  ·obtain⟨a0,a1,a2,a3,a4,a5,a6⟩:=hcs k hlt
   have b0:=(hnx.cell (p:=⟨b,off+k*7,none⟩) hb hbG).trans a0
   have b1:=(hnx.cell (p:=⟨b,off+k*7+1,none⟩) hb hbG).trans a1
   have b2:=(hnx.cell (p:=⟨b,off+k*7+2,none⟩) hb hbG).trans a2
   have b3:=(hnx.cell (p:=⟨b,off+k*7+3,none⟩) hb hbG).trans a3
   have b4:=(hnx.cell (p:=⟨b,off+k*7+4,none⟩) hb hbG).trans a4
   have b5:=(hnx.cell (p:=⟨b,off+k*7+5,none⟩) hb hbG).trans a5
   have b6:=(hnx.cell (p:=⟨b,off+k*7+6,none⟩) hb hbG).trans a6
   have c0:=(hnx.cell (p:=⟨Bc,0,none⟩) hc1 hcG).trans hBk
   have c1:=(hnx.cell (p:=⟨Bc,1,none⟩) hc1 hcG).trans hBx
   clear a0 a1 a2 a3 a4 a5 a6
   obtain⟨fa,hfa⟩:∃v,(cw L k).a=v:=⟨_,rfl⟩
   obtain⟨fb,hfb⟩:∃v,(cw L k).b=v:=⟨_,rfl⟩
   obtain⟨fg,hfg⟩:∃v,(cw L k).wE=v:=⟨_,rfl⟩
   rw[hfa]at b0
   rw[hfb]at b1
   rw[hfg]at b6
   have d0:=il (.cells #[.int .i64 fa,.int .i64 fb,.int .i64 (cw L k).c0,.int .i64 (cw L k).c1,.int .i64 (cw L k).cap,.int .i64 (cw L k).fj,.int .i64 fg] 82) c0
   have d1:=il (.cells #[.int .i64 fa,.int .i64 fb,.int .i64 (cw L k).c0,.int .i64 (cw L k).c1,.int .i64 (cw L k).cap,.int .i64 (cw L k).fj,.int .i64 fg] 82) c1
   have hJ2:J (kG (dj 3 x L) L.length k) (wr.alloc (.cells #[.int .i64 fa,.int .i64 fb,.int .i64 (cw L k).c0,.int .i64 (cw L k).c1,.int .i64 (cw L k).cap,.int .i64 (cw L k).fj,.int .i64 fg] 82)):=hA _ _ _ none hJs (World.grownBy_alloc _ _ none) (fun r e=>by cases e)
   have hK2:Kp G n₁ W (wr.alloc (.cells #[.int .i64 fa,.int .i64 fb,.int .i64 (cw L k).c0,.int .i64 (cw L k).c1,.int .i64 (cw L k).cap,.int .i64 (cw L k).fj,.int .i64 fg] 82)):=hnx.trans (Kp.alloc (by have:=hnx.size;omega) _)
   by_cases hp:fg=x
   ·subst hp
    obtain⟨fn,tmps,assign,body,hy,hR⟩:=hY _ ⟨k,hlt⟩ _ hJ2 (by have:=nK (dj 3 fg L) L.length k;omega)
    dsimp only at hy
    have hpk:dj 3 fg L k=true:=by unfold dj;simp[hfa,hfb,hfg]
    gi_wp2
    refine hR.mono ?_
    rintro e W3 (⟨rfl,hJ3,hk3⟩|⟨rfl,hJx3⟩)
    ·gi_wp2
     go_roundw
     case rel=>exact⟨k+1,by omega,by simp,by rw[oO hpk hlt];exact hJ3,hK2.trans hk3⟩
     case measure=>simp[intOf];omega
    ·gi_wp2
     refine bodyPost_ret (results_none rfl _ _ _) I ?_
     exact⟨⟨_,rfl⟩,.inr ⟨_,hJx3⟩⟩
   ·have hpk:dj 3 x L k=false:=by unfold dj;simp[hfa,hfb,hfg,hp]
    gi_wp2
    refine⟨fun _ h=>(by cases h),?_⟩
    gi_wp2
    go_roundw
    case rel=>exact⟨k+1,by omega,by simp,by rw[vH hpk];exact hJ2,hK2⟩
    case measure=>simp[intOf];omega
  ·obtain rfl:k=L.length:=by omega
   gi_wp2
   go_end0
   exact⟨⟨_,rfl⟩,.inl ⟨_,rfl,hJs⟩⟩
end
end eX
end Go.Proofs.YteikppbedmmdnaaGreatDoor
namespace Go.Proofs.YteikppbedmmdnaaGreatDoor
namespace PW
section
open Go.RowKit cj Mem Net
section
variable {P:Program} {ops:Array Oper} {Q:Exit→Act→World→Prop}
theorem zB{l n:Nat}{o:Oper}{a:Act}{w:World}{K K':Act→World→Prop}(hnd:∀c,o.op≠ .defer c)(hL:¬LetsOut Q)(hK:∀a w,K a w→K' a w)(h:o.wp P a w K Q):o.wpIn (Fence.wide.inRound l) n P a w K' Q:=by
 refine⟨fun _ _=>trivial,?_⟩
 rw[Fence.inRound_round,Oper.semAt_eq _ _ _ hnd]
 unfold Oper.wp at h
 generalize (execOp a.eval o).run P w=x at*
 cases x with
 |ok x w'=>
  cases x<;>simp only[Oper.uponIn,Oper.upon]at h ⊢
  case value v=>exact hK _ _ h
  case skip=>exact hK _ _ h
  case defer d=>exact hK _ _ h
  case enter f args=>exact⟨fun h=>by simp[Fence.wide]at h,CallsIn.inRound l (callsIn_wide.2 (h.mono fun e w'' he=>by cases e<;>first|exact hK _ _ he|exact he))⟩
  case row r args=>exact⟨fun h=>by simp[Fence.wide]at h,fun c cs _=>by
   obtain⟨v,w',r,s⟩:=h c cs
   exact⟨v,w',hK _ _ r,stepsIn_wide.2 s⟩⟩
  all_goals exact h.elim
 |halt x w'=>cases x<;>simp only[Oper.uponIn,Oper.upon]at h ⊢ <;>exact h
theorem jI{l n:Nat}(hnd:∀(i:Nat) (o:Oper),ops[i]? =some o→∀c,o.op≠ .defer c)(hL:¬LetsOut Q):∀(fuel:Nat) (ls:Array Bool) (a:Act) (w:World),wpAny P .any ops Q fuel ls a w→wpAnyIn (Fence.wide.inRound l) n P .any ops Q fuel ls a w
 |0,ls,a,w,h=>h
 |fuel+1,ls,a,w,h=>by
  refine⟨h.1,fun i hi=>?_⟩
  have h2:=h.2 i hi
  unfold wpOp at h2
  unfold wpOpIn
  cases ho:ops[i]? with
  |none=>rw[ho]at h2;exact jI hnd hL fuel _ a w h2
  |some o=>
   rw[ho]at h2
   simp only at h2 ⊢
   split
   ·rename_i hw
    rw[if_pos hw]at h2
    rcases h2 with h2|h2
    ·exact zB (hnd i o ho) hL (fun a w h=>jI hnd hL fuel _ a w h) h2
    ·exact absurd h2.2 hL
   ·rename_i hw
    rw[if_neg hw]at h2
    exact⟨fun _ _=>trivial,jI hnd hL fuel _ _ w h2⟩
end
end
end PW
end Go.Proofs.YteikppbedmmdnaaGreatDoor
