/- Texts of the proof, part 10. -/
import Derived.RangeFuncBox
import Derived.Lib.ItoaNum
import Derived.Test.YteikppbedmmdnaaGreatDoorCardWIB9
set_option linter.unusedVariables false
set_option linter.unusedSimpArgs false
set_option maxRecDepth 10000
set_option maxHeartbeats 1000000
namespace Go.Proofs.YteikppbedmmdnaaGreatDoor
namespace PW
section
open Go.RowKit cj Mem Net eX
theorem Cx{P:Program}{N L:Nat}{id:Nat}{l:List Oper}{y:Code}{st:St}{Q:Exit→St→Prop}(t':b9)(σ':bN)(t'':b9)(σ'':bN)(hm:P.follows .mixedOrders=true)(h:WA P N L l.toArray l.length (Array.replicate l.length false) st (fun s=>(s.σ=σ'∧Sub s.t t')∨(s.σ=σ''∧Sub s.t t'')))(hr:W P N L y ⟨t',σ'⟩ Q→W P N L y ⟨t'',σ''⟩ Q)(hq:W P N L y ⟨t',σ'⟩ Q):W P N L (.seq (.region id l.toArray true) y) st Q:=
 pa hm (h.mono fun s hs=>by
  obtain⟨t,σ⟩:=s
  rcases hs with⟨h1,h2⟩|⟨h1,h2⟩
  ·subst h1;exact iJ h2 hq
  ·subst h1;exact iJ h2 (hr hq))
theorem yX(T:ah)(k x:Int):bR T (iL T k x)=true:=by
 unfold iL
 split
 ·exact tU T k x
 ·exact lQ T
theorem DD(T:ah)(k x:Int)(n:Nat)(hv:au T=true)(hn:(n:Int)<T.nodes):Can Tryz.prog 101 ([dX k x]++[.bg (bI T) 0,.bg [num n] 0]) (· =aw (aO T (iL T k x) n true)):=by
 have hmk:=wT T k x
 unfold sd at hmk
 have hfr:=D4 T (iL T k x) n
 have hch:cX T (iL T k x) [(n:Int)]=0:=by
  unfold cX
  rw[hv,yX]
  simp[bu.2 (show 0≤(n:Int)∧(n:Int)<T.nodes by omega)]
 rw[hch]at hfr
 unfold gu at hfr
 rw[if_pos rfl,Int.toNat_natCast]at hfr
 exact aT Tryz.func101 I Tryz.ntmps101 I<|af (.a 2 I<|.k [1,2,3] I)<|af (.a 2 I<|.c rfl (hmk) I<|.a 5 I<|.k [1,2,5] I)<|af (.a 3 I<|.c rfl (hfr) I<|.a 5 I<|.k [7] I)<|af (.a 2 I<|.k [4] I)<|az<|⟨_,_,aE.of I,aD.pure,rfl⟩
theorem FV(g:Int)(L:List Int)(d:Nat)(c2:Bool)(hL:0<g→d<L.length∧decide (0≤L.getD d 0)=c2):Can Tryz.prog 103 ([num d]++[.bg (eh 3 g) 0,.bg [aw L] 0]) (· = .tuple [dX 3 g,flag (decide (0<g)&&c2)]):=by
 obtain⟨c1,hc1⟩:∃q,decide (0<g)=q:=⟨_,rfl⟩
 rw[hc1]
 refine aT Tryz.func103 I Tryz.ntmps103 I<|aR<|ax 2 I<|aH [0,1,2,4] I ?_
 refine vp (Q1:=fun st=>st=⟨[(4,.ptr 0 0),(5,flag (c1&&c2))],[some (.cells 69 (eh 3 g))]⟩) ?_ ?_
 ·cases c1
  ·refine wy 20 1 ([some (.cells 69 [num 0,num 0])]::[some (.cells 69 (eh 3 g))]::[]) (⟨_,none,0,0⟩::⟨_,none,0,0⟩::⟨_,none,0,0⟩::⟨_,none,0,0⟩::⟨_,none,0,0⟩::⟨_,none,0,1⟩::⟨_,none,0,1⟩::⟨_,none,0,1⟩::⟨_,none,0,1⟩::⟨_,none,0,1⟩::⟨_,none,0,1⟩::⟨_,some 0,0,0⟩::⟨_,none,1,1⟩::[]) _ mixed ?grd1 rfl rfl rfl rfl (.cons (.val [1] I I (yz (cC (bn I) ez)) I I)<|.cons (.val [1] I I (yz (cC (bn I) ez)) I I)<|.cons (.val [7] I I (yz (cC (bn I) ez)) I I)<|.cons (.val [8] I I (yz (cC (cD I (hc1)) ez)) I I)<|.cons (.val [9] I I (yz (cC (bn I) ez)) I I)<|.cons (.skip rfl rfl rfl)<|.cons (.skip rfl rfl rfl)<|.cons (.skip rfl rfl rfl)<|.cons (.skip rfl rfl rfl)<|.cons (.skip rfl rfl rfl)<|.cons (.val [10,15] I I (yz (cC (bn I) (cC (bn I) ez))) I I)<|.cons (.jM [4,6] I I I I (cW I) I)<|.cons (.val [16] I I (yz (cC (bn I) ez)) I I) .nil) (bm (ks:=[4,5]) I) ?_
   case grd1=>kernel_rfl
   rfl
  ·refine wy 20 1 ([some (.cells 69 [num 0,num 0])]::[some (.cells 69 (eh 3 g))]::[]) (⟨_,none,0,0⟩::⟨_,none,0,0⟩::⟨_,none,0,0⟩::⟨_,none,0,0⟩::⟨_,none,0,0⟩::⟨_,none,0,1⟩::⟨_,none,0,1⟩::⟨_,none,0,1⟩::⟨_,none,0,1⟩::⟨_,none,0,1⟩::⟨_,none,0,1⟩::⟨_,some 0,0,0⟩::⟨_,none,1,1⟩::[]) _ mixed ?grd2 rfl rfl rfl rfl (.cons (.val [1] I I (yz (cC (bn I) ez)) I I)<|.cons (.val [1] I I (yz (cC (bn I) ez)) I I)<|.cons (.val [7] I I (yz (cC (bn I) ez)) I I)<|.cons (.val [8] I I (yz (cC (cD I (hc1)) ez)) I I)<|.cons (.val [9] I I (yz (cC (bn I) ez)) I I)<|.cons (.val [2] I I (yz (cC (bn I) (cC (bn I) ez))) I I)<|.cons (.val [0] I I (yz (cC (bn I) (cC (bn I) ez))) I I)<|.cons (.val [11,12] I I (yz (cC (aJ (d) I (by omega) (by have:=(hL (tt hc1)).1;omega)) (cC (aJ (d) I (by omega) (by have:=(hL (tt hc1)).1;omega)) ez))) I I)<|.cons (.val [13] I I (yz (cC (aK I (aC L d (hL (tt hc1)).1)) (cC (aK I (aC L d (hL (tt hc1)).1)) ez))) I I)<|.cons (.val [14] I I (yz (cC (cD I ((hL (tt hc1)).2)) (cC (cD I ((hL (tt hc1)).2)) ez))) I I)<|.cons (.val [10,15] I I (yz (cC (bn I) (cC (bn I) ez))) I I)<|.cons (.jM [4,6] I I I I (cW I) I)<|.cons (.val [16] I I (yz (cC (bn I) ez)) I I) .nil) (bm (ks:=[4,5]) I) ?_
   case grd2=>kernel_rfl
   rfl
 rintro _ rfl
 exact az<|⟨_,_,aE.of I,aD.pure (p:=.tuple [dX 3 g,flag (c1&&c2)]),rfl⟩
theorem Fk(h:Int)(L:List Int)(d:Nat)(c2:Bool)(hd:d<L.length)(hL:decide (0≤L.getD d 0)=c2):Can Tryz.prog 104 ([num d]++[.bg (eh 2 h) 0,.bg [num h] 0,.bg [aw L] 0]) (· = .tuple [dX 2 h,flag (decide (h≠d)&&c2)]):=by
 obtain⟨c1,hc1⟩:∃q,decide ((d:Int)≠h)=q:=⟨_,rfl⟩
 have hc1':decide (h≠(d:Int))=c1:=by rw[←hc1];exact decide_eq_decide.2 ⟨fun e=>e.symm,fun e=>e.symm⟩
 rw[hc1']
 refine aT Tryz.func104 I Tryz.ntmps104 I<|aR<|ax 2 I<|aH [0,1,2,3,5] I ?_
 refine vp (Q1:=fun st=>st=⟨[(5,.ptr 0 0),(6,flag (c1&&c2))],[some (.cells 69 (eh 2 h))]⟩) ?_ ?_
 ·cases c1
  ·refine wy 20 1 ([some (.cells 69 [num 0,num 0])]::[some (.cells 69 (eh 2 h))]::[]) (⟨_,none,0,0⟩::⟨_,none,0,0⟩::⟨_,none,0,0⟩::⟨_,none,0,0⟩::⟨_,none,0,0⟩::⟨_,none,0,1⟩::⟨_,none,0,1⟩::⟨_,none,0,1⟩::⟨_,none,0,1⟩::⟨_,none,0,1⟩::⟨_,none,0,1⟩::⟨_,some 0,0,0⟩::⟨_,none,1,1⟩::[]) _ mixed ?grd3 rfl rfl rfl rfl (.cons (.val [1] I I (yz (cC (bn I) ez)) I I)<|.cons (.val [0] I I (yz (cC (bn I) ez)) I I)<|.cons (.val [2] I I (yz (cC (bn I) ez)) I I)<|.cons (.val [8,9] I I (yz (cC (cD I (hc1)) ez)) I I)<|.cons (.val [10] I I (yz (cC (bn I) ez)) I I)<|.cons (.skip rfl rfl rfl)<|.cons (.skip rfl rfl rfl)<|.cons (.skip rfl rfl rfl)<|.cons (.skip rfl rfl rfl)<|.cons (.skip rfl rfl rfl)<|.cons (.val [11,16] I I (yz (cC (bn I) (cC (bn I) ez))) I I)<|.cons (.jM [5,7] I I I I (cW I) I)<|.cons (.val [17] I I (yz (cC (bn I) ez)) I I) .nil) (bm (ks:=[5,6]) I) ?_
   case grd3=>kernel_rfl
   rfl
  ·refine wy 20 1 ([some (.cells 69 [num 0,num 0])]::[some (.cells 69 (eh 2 h))]::[]) (⟨_,none,0,0⟩::⟨_,none,0,0⟩::⟨_,none,0,0⟩::⟨_,none,0,0⟩::⟨_,none,0,0⟩::⟨_,none,0,1⟩::⟨_,none,0,1⟩::⟨_,none,0,1⟩::⟨_,none,0,1⟩::⟨_,none,0,1⟩::⟨_,none,0,1⟩::⟨_,some 0,0,0⟩::⟨_,none,1,1⟩::[]) _ mixed ?grd4 rfl rfl rfl rfl (.cons (.val [1] I I (yz (cC (bn I) ez)) I I)<|.cons (.val [0] I I (yz (cC (bn I) ez)) I I)<|.cons (.val [2] I I (yz (cC (bn I) ez)) I I)<|.cons (.val [8,9] I I (yz (cC (cD I (hc1)) ez)) I I)<|.cons (.val [10] I I (yz (cC (bn I) ez)) I I)<|.cons (.val [3] I I (yz (cC (bn I) (cC (bn I) ez))) I I)<|.cons (.val [0] I I (yz (cC (bn I) (cC (bn I) ez))) I I)<|.cons (.val [12,13] I I (yz (cC (aJ (d) I) (cC (aJ (d) I) ez))) I I)<|.cons (.val [14] I I (yz (cC (aK I (aC L d hd)) (cC (aK I (aC L d hd)) ez))) I I)<|.cons (.val [15] I I (yz (cC (cD I (hL)) (cC (cD I (hL)) ez))) I I)<|.cons (.val [11,16] I I (yz (cC (bn I) (cC (bn I) ez))) I I)<|.cons (.jM [5,7] I I I I (cW I) I)<|.cons (.val [17] I I (yz (cC (bn I) ez)) I I) .nil) (bm (ks:=[5,6]) I) ?_
   case grd4=>kernel_rfl
   rfl
 rintro _ rfl
 exact az<|⟨_,_,aE.of I,aD.pure (p:=.tuple [dX 2 h,flag (c1&&c2)]),rfl⟩
def F2(g:Int)(L:List Int):PV:=.func 103 [.bg (eh 3 g) 0,.bg [aw L] 0]
def F3(h:Int)(L:List Int):PV:=.func 104 [.bg (eh 2 h) 0,.bg [num h] 0,.bg [aw L] 0]
def ke(g h k:Int)(L M:List Int):List PV:=[.bg [.slice 2 [F2 g L,F3 h M]] 0,.bg (eh 1 k) 0]
instance (g:Int) (L:List Int):IsPure (F2 g L):=by unfold F2;infer_instance
instance (g:Int) (L:List Int):IsPure (F3 g L):=by unfold F3;infer_instance
instance (g h k:Int) (L M:List Int):aI (ke g h k L M):=by unfold ke;infer_instance
theorem EO(g h k:Int)(L M:List Int)(d:Nat)(c2 c4:Bool)(hL:0<g→d<L.length∧decide (0≤L.getD d 0)=c2)(hd:d<M.length)(hM:decide (0≤M.getD d 0)=c4):Can Tryz.prog 105 ([num d]++ke g h k L M) (· =if(decide (0<g)&&c2)=true then dX 3 g else if(decide (h≠d)&&c4)=true then dX 2 h else dX 1 k):=by
 have h2:=FV g L d c2 hL
 have h3:=Fk h M d c4 hd hM
 obtain⟨o1,ho1⟩:∃o,(decide (0<g)&&c2)=o:=⟨_,rfl⟩
 obtain⟨o2,ho2⟩:∃o,(decide (h≠(d:Int))&&c4)=o:=⟨_,rfl⟩
 rw[ho1]at h2 ⊢
 rw[ho2]at h3 ⊢
 have hrule:∀i,i<2→∃f cap,[F2 g L,F3 h M][i]? =some (.func f cap)∧enters Tryz.prog f=true∧aI ([num d]++cap)∧Can Tryz.prog f ([num d]++cap) (· = .tuple [if i=0 then dX 3 g else dX 2 h,flag (if i=0 then o1 else o2)]):=fun i hi=>by
  match i,hi with
  |0,_=>exact⟨_,_,rfl,by kernel_rfl,inferInstance,h2⟩
  |1,_=>exact⟨_,_,rfl,by kernel_rfl,inferInstance,h3⟩
 unfold ke
 refine aT Tryz.func105 I Tryz.ntmps105 I<|aR<|ax 1 I<|aH [0,1,2,4] I ?_
 refine an<|af (.a 3 I<|.k [0,2,4,9,10,11] I)<|ay<|eY [0,2,4,9,10,11] I<|br (fun r s=>∃i,i≤2∧r=2 - i∧(1≤i→o1=false)∧(i=2→o2=false)∧s=⟨[(0,num d),(2,.bg (eh 1 k) 0),(4,.ptr 0 0),(9,.slice 2 [F2 g L,F3 h M]),(10,num 2),(11,num i)],[some (.cells 69 [num 0,num 0])]⟩) 2 ⟨0,by omega,by omega,fun h=>by omega,fun h=>by omega,rfl⟩ ?_
 rintro r s ⟨i,hi,rfl,hi1,hi2,rfl⟩
 refine af (.a 1 I<|.k [0,2,4,9,10,11,12] I)<|an<|aj I (fun h1=>?_) (fun h1=>?_)
 ·have hlt:i<2:=by have:=tt h1;omega
  obtain⟨f,cap,hf,hen,hpu,hcan⟩:=hrule i hlt
  obtain⟨kx,kn,hkx⟩:∃kx kn,(if i=0 then dX 3 g else dX 2 h)=dX kx kn:=by
   split
   ·exact⟨_,_,rfl⟩
   ·exact⟨_,_,rfl⟩
  obtain⟨o,ho⟩:∃o,(if i=0 then o1 else o2)=o:=⟨_,rfl⟩
  rw[ho,hkx]at hcan
  haveI:=hpu
  refine ak<|an<|ay<|af (.v (aJ (i) I) I<|.v (aK I (hf)) I<|.a 1 I<|.k [0,2,4,6,9,10,11] I)<|aR<|ax 2 I<|bw (pq I hen rfl rfl hcan) I<|ax 6 I<|aH [0,2,4,7,8,9,10,11] I ?_
  refine af (.a 1 I<|.k [0,2,4,7,9,10,11,21] I)<|aj I (fun h2=>?_) (fun h2=>?_)
  ·subst h2
   refine aR<|ax 2 I<|aH [4] I ?_
   refine az<|⟨_,_,aE.of I,aD.pure (p:=dX kx kn),?_⟩
   rw[←hkx]
   by_cases e:i=0
   ·rw[if_pos e]at ho ⊢
    rw[if_pos ho]
   ·rw[if_neg e]at ho ⊢
    rw[if_neg (by rw[hi1 (by omega)];simp),if_pos ho]
  ·subst h2
   refine ak<|cJ [0] (.c 0<|.c 2<|.c 4<|.c 9<|.c 10<|.c 11<|.nil) (.kept rfl (.cells ao.pure)<|.nil) I I ?_
   refine aF (.v (aU I) I<|.a 1 I<|.k [0,2,4,9,10,11] I) ?_
   refine⟨2 - (i+1),by omega,i+1,by omega,rfl,fun _=>?_,fun e=>?_,rfl⟩
   ·by_cases e:i=0
    ·rw[if_pos e]at ho;exact ho
    ·exact hi1 (by omega)
   ·rw[if_neg (by omega)]at ho;exact ho
 ·have hie:i=2:=by have:=ff h1;omega
  subst hie
  rw[if_neg (by rw[hi1 (by omega)];simp),if_neg (by rw[hi2 rfl];simp)]
  refine bp<|aR<|ax 2 I<|aH [4] I ?_
  exact az<|⟨_,_,aE.of I,aD.pure (p:=dX 1 k),rfl⟩
noncomputable def Iy(T:ah)(a:Nat):List Int:=if 0<gh T a then aO T (iL T 3 (gh T a)) (aN T a).toNat true else []
noncomputable def Im(T:ah)(a:Nat):List Int:=aO T (iL T 2 (aB T a)) (aN T a).toNat true
set_option maxHeartbeats 4000000 in
theorem zM(T:ah)(a:Nat)(hv:au T=true)(ha:a<2*T.ae.length):Can Tryz.prog 78 [aZ T,num a] (· = .func 105 (ke (gh T a) (aB T a) ((a / 2:Nat):Int) (Iy T a) (Im T a))):=by
 have hll:=bX hv
 have hi:a / 2<T.ae.length:=by omega
 have hS:=aM hv
 have htl:=fp T a ha
 have hhd:=ed T a ha (by omega)
 obtain⟨n,hn⟩:=Int.eq_ofNat_of_zero_le (hS.tail a ha).1
 have hnN:(n:Int)<T.nodes:=by rw[←hn];exact(hS.tail a ha).2
 have hL:Iy T a=if 0<gh T a then aO T (iL T 3 (gh T a)) n true else []:=by unfold Iy;rw[hn,Int.toNat_natCast]
 have hM:Im T a=aO T (iL T 2 (aB T a)) n true:=by unfold Im;rw[hn,Int.toNat_natCast]
 rw[hn]at htl
 obtain⟨h,hh⟩:∃h,aB T a=h:=⟨_,rfl⟩
 obtain⟨g,hg⟩:∃g,gh T a=g:=⟨_,rfl⟩
 have hgl:(cw T.ae (a / 2)).wE=g:=hg
 rw[hh]at hhd hM
 rw[hg]at hL
 rw[hL,hM,hh,hg]
 have h1:=fun k x=>DD T k x n hv hnN
 obtain⟨c1,hc1⟩:∃q,decide (0<g)=q:=⟨_,rfl⟩
 refine aT Tryz.func78 I Tryz.ntmps78 I<|af (.a 2 I<|.k [1,2] I)<|Cx ([(1,num a),(2,.bg (bI T) 0),(5,.ptr 0 0),(6,.ptr 1 0)]) ([some (.cells 3 [num n]),some (.cells 3 [num h])]) ([(1,num a),(2,.bg (bI T) 0),(5,.ptr 1 0),(6,.ptr 0 0)]) ([some (.cells 3 [num h]),some (.cells 3 [num n])]) mixed ?_ (fun hh=>cJ [1,0] (.c 1<|.c 2<|.c 5<|.c 6<|.nil) (.kept rfl (.cells ao.pure)<|.kept rfl (.cells ao.pure)<|.nil) I I hh) ?_
 ·refine o8 [[(1,num a),(2,.bg (bI T) 0),(14,aZ T),(15,num a),(16,num n),(17,aZ T),(18,num a),(19,num h)],[(1,num a),(2,.bg (bI T) 0),(5,.ptr 0 0),(14,aZ T),(15,num a),(16,num n),(17,aZ T),(18,num a),(19,num h)],[(1,num a),(2,.bg (bI T) 0),(6,.ptr 0 0),(14,aZ T),(15,num a),(16,num n),(17,aZ T),(18,num a),(19,num h)],[(1,num a),(2,.bg (bI T) 0),(5,.ptr 0 0),(6,.ptr 1 0),(14,aZ T),(15,num a),(16,num n),(17,aZ T),(18,num a),(19,num h)],[(1,num a),(2,.bg (bI T) 0),(5,.ptr 1 0),(6,.ptr 0 0),(14,aZ T),(15,num a),(16,num n),(17,aZ T),(18,num a),(19,num h)]] [[],[some (.cells 3 [num n]),some (.cells 3 [num h])],[some (.cells 3 [num n]),some (.cells 3 [num 0])],[some (.cells 3 [num 0]),some (.cells 3 [num 0])],[some (.cells 3 [num 0])],[some (.cells 3 [num h]),some (.cells 3 [num n])],[some (.cells 3 [num 0]),some (.cells 3 [num n])]] [1,2] I (by kernel_rfl) (fun M hi ho=>?_)
  have μ0:M 0 1023 3 [1,2,5,6] 1:=hi<|nk I (by kernel_rfl) (.inl ⟨rfl,bm (ks:=[1,2,5,6]) I⟩)
  have μ1:M 1 511 3 [1,2,5,6,19] 2:=hi<|aa [(9,1023)] I<|nM I I (cW I) I I (ho μ0) I I ab
  have μ2:M 2 255 3 [1,2,5,6,16,19] 3:=hi<|aa [(8,511)] I<|nM I I (cW I) I I (ho μ1) I I ab
  have μ3:M 3 127 1 [1,2,5,16,19] 4:=hi<|aa [(7,255)] I<|bL I I (cW I) I (ho μ2) I I ab
  have μ4:M 0 1023 4 [1,2,5,6] 5:=hi<|nk I (by kernel_rfl) (.inr ⟨rfl,bm (ks:=[1,2,5,6]) I⟩)
  have μ5:M 1 511 4 [1,2,5,6,19] 6:=hi<|aa [(9,1023)] I<|nM I I (cW I) I I (ho μ4) I I ab
  have μ6:M 2 255 4 [1,2,5,6,16,19] 3:=hi<|aa [(8,511)] I<|nM I I (cW I) I I (ho μ5) I I ab
  have μ7:M 3 191 2 [1,2,6,16,19] 4:=hi<|aa [(6,255)] I<|bL I I (cW I) I (ho μ6) I I ab
  have μ8:M 4 63 0 [1,2,16,19] 0:=hi<|aa [(6,127),(7,191)] I<|bL I I (cW I) I (ho μ3) I I<|bL I I (cW I) I (ho μ7) I I ab
  have μ9:M 3 223 3 [1,2,5,6,16,17,18] 3:=hi<|aa [(5,255)] I<|aQ I I (eW I (hhd)) I (ho μ2) I I ab
  have μ10:M 4 95 1 [1,2,5,16,17,18] 4:=hi<|aa [(5,127),(7,223)] I<|aQ I I (eW I (hhd)) I (ho μ3) I I<|bL I I (cW I) I (ho μ9) I I ab
  have μ11:M 3 223 4 [1,2,5,6,16,17,18] 3:=hi<|aa [(5,255)] I<|aQ I I (eW I (hhd)) I (ho μ6) I I ab
  have μ12:M 4 159 2 [1,2,6,16,17,18] 4:=hi<|aa [(5,191),(6,223)] I<|aQ I I (eW I (hhd)) I (ho μ7) I I<|bL I I (cW I) I (ho μ11) I I ab
  have μ13:M 5 31 0 [1,2,16,17,18] 0:=hi<|aa [(5,63),(6,95),(7,159)] I<|aQ I I (eW I (hhd)) I (ho μ8) I I<|bL I I (cW I) I (ho μ10) I I<|bL I I (cW I) I (ho μ12) I I ab
  have μ14:M 4 207 3 [1,2,5,6,16,17] 3:=hi<|aa [(4,223)] I<|ag (ho μ9) I I ab
  have μ15:M 5 79 1 [1,2,5,16,17] 4:=hi<|aa [(4,95),(7,207)] I<|ag (ho μ10) I I<|bL I I (cW I) I (ho μ14) I I ab
  have μ16:M 4 207 4 [1,2,5,6,16,17] 3:=hi<|aa [(4,223)] I<|ag (ho μ11) I I ab
  have μ17:M 5 143 2 [1,2,6,16,17] 4:=hi<|aa [(4,159),(6,207)] I<|ag (ho μ12) I I<|bL I I (cW I) I (ho μ16) I I ab
  have μ18:M 6 15 0 [1,2,16,17] 0:=hi<|aa [(4,31),(6,79),(7,143)] I<|ag (ho μ13) I I<|bL I I (cW I) I (ho μ15) I I<|bL I I (cW I) I (ho μ17) I I ab
  have μ19:M 4 215 3 [1,2,5,6,16,18] 3:=hi<|aa [(3,223)] I<|ag (ho μ9) I I ab
  have μ20:M 5 87 1 [1,2,5,16,18] 4:=hi<|aa [(3,95),(7,215)] I<|ag (ho μ10) I I<|bL I I (cW I) I (ho μ19) I I ab
  have μ21:M 4 215 4 [1,2,5,6,16,18] 3:=hi<|aa [(3,223)] I<|ag (ho μ11) I I ab
  have μ22:M 5 151 2 [1,2,6,16,18] 4:=hi<|aa [(3,159),(6,215)] I<|ag (ho μ12) I I<|bL I I (cW I) I (ho μ21) I I ab
  have μ23:M 6 23 0 [1,2,16,18] 0:=hi<|aa [(3,31),(6,87),(7,151)] I<|ag (ho μ13) I I<|bL I I (cW I) I (ho μ20) I I<|bL I I (cW I) I (ho μ22) I I ab
  have μ24:M 5 199 3 [1,2,5,6,16] 3:=hi<|aa [(3,207),(4,215)] I<|ag (ho μ14) I I<|ag (ho μ19) I I ab
  have μ25:M 6 71 1 [1,2,5,16] 4:=hi<|aa [(3,79),(4,87),(7,199)] I<|ag (ho μ15) I I<|ag (ho μ20) I I<|bL I I (cW I) I (ho μ24) I I ab
  have μ26:M 5 199 4 [1,2,5,6,16] 3:=hi<|aa [(3,207),(4,215)] I<|ag (ho μ16) I I<|ag (ho μ21) I I ab
  have μ27:M 6 135 2 [1,2,6,16] 4:=hi<|aa [(3,143),(4,151),(6,199)] I<|ag (ho μ17) I I<|ag (ho μ22) I I<|bL I I (cW I) I (ho μ26) I I ab
  have μ28:M 7 7 0 [1,2,16] 0:=hi<|aa [(3,15),(4,23),(6,71),(7,135)] I<|ag (ho μ18) I I<|ag (ho μ23) I I<|bL I I (cW I) I (ho μ25) I I<|bL I I (cW I) I (ho μ27) I I ab
  have μ29:M 4 219 3 [1,2,5,6,14,15,17,18] 3:=hi<|aa [(2,223)] I<|aQ I I (eW I (htl)) I (ho μ9) I I ab
  have μ30:M 5 91 1 [1,2,5,14,15,17,18] 4:=hi<|aa [(2,95),(7,219)] I<|aQ I I (eW I (htl)) I (ho μ10) I I<|bL I I (cW I) I (ho μ29) I I ab
  have μ31:M 4 219 4 [1,2,5,6,14,15,17,18] 3:=hi<|aa [(2,223)] I<|aQ I I (eW I (htl)) I (ho μ11) I I ab
  have μ32:M 5 155 2 [1,2,6,14,15,17,18] 4:=hi<|aa [(2,159),(6,219)] I<|aQ I I (eW I (htl)) I (ho μ12) I I<|bL I I (cW I) I (ho μ31) I I ab
  have μ33:M 6 27 0 [1,2,14,15,17,18] 0:=hi<|aa [(2,31),(6,91),(7,155)] I<|aQ I I (eW I (htl)) I (ho μ13) I I<|bL I I (cW I) I (ho μ30) I I<|bL I I (cW I) I (ho μ32) I I ab
  have μ34:M 5 203 3 [1,2,5,6,14,15,17] 3:=hi<|aa [(2,207),(4,219)] I<|aQ I I (eW I (htl)) I (ho μ14) I I<|ag (ho μ29) I I ab
  have μ35:M 6 75 1 [1,2,5,14,15,17] 4:=hi<|aa [(2,79),(4,91),(7,203)] I<|aQ I I (eW I (htl)) I (ho μ15) I I<|ag (ho μ30) I I<|bL I I (cW I) I (ho μ34) I I ab
  have μ36:M 5 203 4 [1,2,5,6,14,15,17] 3:=hi<|aa [(2,207),(4,219)] I<|aQ I I (eW I (htl)) I (ho μ16) I I<|ag (ho μ31) I I ab
  have μ37:M 6 139 2 [1,2,6,14,15,17] 4:=hi<|aa [(2,143),(4,155),(6,203)] I<|aQ I I (eW I (htl)) I (ho μ17) I I<|ag (ho μ32) I I<|bL I I (cW I) I (ho μ36) I I ab
  have μ38:M 7 11 0 [1,2,14,15,17] 0:=hi<|aa [(2,15),(4,27),(6,75),(7,139)] I<|aQ I I (eW I (htl)) I (ho μ18) I I<|ag (ho μ33) I I<|bL I I (cW I) I (ho μ35) I I<|bL I I (cW I) I (ho μ37) I I ab
  have μ39:M 5 211 3 [1,2,5,6,14,15,18] 3:=hi<|aa [(2,215),(3,219)] I<|aQ I I (eW I (htl)) I (ho μ19) I I<|ag (ho μ29) I I ab
  have μ40:M 6 83 1 [1,2,5,14,15,18] 4:=hi<|aa [(2,87),(3,91),(7,211)] I<|aQ I I (eW I (htl)) I (ho μ20) I I<|ag (ho μ30) I I<|bL I I (cW I) I (ho μ39) I I ab
  have μ41:M 5 211 4 [1,2,5,6,14,15,18] 3:=hi<|aa [(2,215),(3,219)] I<|aQ I I (eW I (htl)) I (ho μ21) I I<|ag (ho μ31) I I ab
  have μ42:M 6 147 2 [1,2,6,14,15,18] 4:=hi<|aa [(2,151),(3,155),(6,211)] I<|aQ I I (eW I (htl)) I (ho μ22) I I<|ag (ho μ32) I I<|bL I I (cW I) I (ho μ41) I I ab
  have μ43:M 7 19 0 [1,2,14,15,18] 0:=hi<|aa [(2,23),(3,27),(6,83),(7,147)] I<|aQ I I (eW I (htl)) I (ho μ23) I I<|ag (ho μ33) I I<|bL I I (cW I) I (ho μ40) I I<|bL I I (cW I) I (ho μ42) I I ab
  have μ44:M 6 195 3 [1,2,5,6,14,15] 3:=hi<|aa [(2,199),(3,203),(4,211)] I<|aQ I I (eW I (htl)) I (ho μ24) I I<|ag (ho μ34) I I<|ag (ho μ39) I I ab
  have μ45:M 7 67 1 [1,2,5,14,15] 4:=hi<|aa [(2,71),(3,75),(4,83),(7,195)] I<|aQ I I (eW I (htl)) I (ho μ25) I I<|ag (ho μ35) I I<|ag (ho μ40) I I<|bL I I (cW I) I (ho μ44) I I ab
  have μ46:M 6 195 4 [1,2,5,6,14,15] 3:=hi<|aa [(2,199),(3,203),(4,211)] I<|aQ I I (eW I (htl)) I (ho μ26) I I<|ag (ho μ36) I I<|ag (ho μ41) I I ab
  have μ47:M 7 131 2 [1,2,6,14,15] 4:=hi<|aa [(2,135),(3,139),(4,147),(6,195)] I<|aQ I I (eW I (htl)) I (ho μ27) I I<|ag (ho μ37) I I<|ag (ho μ42) I I<|bL I I (cW I) I (ho μ46) I I ab
  have μ48:M 8 3 0 [1,2,14,15] 0:=hi<|aa [(2,7),(3,11),(4,19),(6,67),(7,131)] I<|aQ I I (eW I (htl)) I (ho μ28) I I<|ag (ho μ38) I I<|ag (ho μ43) I I<|bL I I (cW I) I (ho μ45) I I<|bL I I (cW I) I (ho μ47) I I ab
  have μ49:M 5 217 3 [1,2,5,6,14,17,18] 3:=hi<|aa [(1,219)] I<|ag (ho μ29) I I ab
  have μ50:M 6 89 1 [1,2,5,14,17,18] 4:=hi<|aa [(1,91),(7,217)] I<|ag (ho μ30) I I<|bL I I (cW I) I (ho μ49) I I ab
  have μ51:M 5 217 4 [1,2,5,6,14,17,18] 3:=hi<|aa [(1,219)] I<|ag (ho μ31) I I ab
  have μ52:M 6 153 2 [1,2,6,14,17,18] 4:=hi<|aa [(1,155),(6,217)] I<|ag (ho μ32) I I<|bL I I (cW I) I (ho μ51) I I ab
  have μ53:M 7 25 0 [1,2,14,17,18] 0:=hi<|aa [(1,27),(6,89),(7,153)] I<|ag (ho μ33) I I<|bL I I (cW I) I (ho μ50) I I<|bL I I (cW I) I (ho μ52) I I ab
  have μ54:M 6 201 3 [1,2,5,6,14,17] 3:=hi<|aa [(1,203),(4,217)] I<|ag (ho μ34) I I<|ag (ho μ49) I I ab
  have μ55:M 7 73 1 [1,2,5,14,17] 4:=hi<|aa [(1,75),(4,89),(7,201)] I<|ag (ho μ35) I I<|ag (ho μ50) I I<|bL I I (cW I) I (ho μ54) I I ab
  have μ56:M 6 201 4 [1,2,5,6,14,17] 3:=hi<|aa [(1,203),(4,217)] I<|ag (ho μ36) I I<|ag (ho μ51) I I ab
  have μ57:M 7 137 2 [1,2,6,14,17] 4:=hi<|aa [(1,139),(4,153),(6,201)] I<|ag (ho μ37) I I<|ag (ho μ52) I I<|bL I I (cW I) I (ho μ56) I I ab
  have μ58:M 8 9 0 [1,2,14,17] 0:=hi<|aa [(1,11),(4,25),(6,73),(7,137)] I<|ag (ho μ38) I I<|ag (ho μ53) I I<|bL I I (cW I) I (ho μ55) I I<|bL I I (cW I) I (ho μ57) I I ab
  have μ59:M 6 209 3 [1,2,5,6,14,18] 3:=hi<|aa [(1,211),(3,217)] I<|ag (ho μ39) I I<|ag (ho μ49) I I ab
  have μ60:M 7 81 1 [1,2,5,14,18] 4:=hi<|aa [(1,83),(3,89),(7,209)] I<|ag (ho μ40) I I<|ag (ho μ50) I I<|bL I I (cW I) I (ho μ59) I I ab
  have μ61:M 6 209 4 [1,2,5,6,14,18] 3:=hi<|aa [(1,211),(3,217)] I<|ag (ho μ41) I I<|ag (ho μ51) I I ab
  have μ62:M 7 145 2 [1,2,6,14,18] 4:=hi<|aa [(1,147),(3,153),(6,209)] I<|ag (ho μ42) I I<|ag (ho μ52) I I<|bL I I (cW I) I (ho μ61) I I ab
  have μ63:M 8 17 0 [1,2,14,18] 0:=hi<|aa [(1,19),(3,25),(6,81),(7,145)] I<|ag (ho μ43) I I<|ag (ho μ53) I I<|bL I I (cW I) I (ho μ60) I I<|bL I I (cW I) I (ho μ62) I I ab
  have μ64:M 7 193 3 [1,2,5,6,14] 3:=hi<|aa [(1,195),(3,201),(4,209)] I<|ag (ho μ44) I I<|ag (ho μ54) I I<|ag (ho μ59) I I ab
  have μ65:M 8 65 1 [1,2,5,14] 4:=hi<|aa [(1,67),(3,73),(4,81),(7,193)] I<|ag (ho μ45) I I<|ag (ho μ55) I I<|ag (ho μ60) I I<|bL I I (cW I) I (ho μ64) I I ab
  have μ66:M 7 193 4 [1,2,5,6,14] 3:=hi<|aa [(1,195),(3,201),(4,209)] I<|ag (ho μ46) I I<|ag (ho μ56) I I<|ag (ho μ61) I I ab
  have μ67:M 8 129 2 [1,2,6,14] 4:=hi<|aa [(1,131),(3,137),(4,145),(6,193)] I<|ag (ho μ47) I I<|ag (ho μ57) I I<|ag (ho μ62) I I<|bL I I (cW I) I (ho μ66) I I ab
  have μ68:M 9 1 0 [1,2,14] 0:=hi<|aa [(1,3),(3,9),(4,17),(6,65),(7,129)] I<|ag (ho μ48) I I<|ag (ho μ58) I I<|ag (ho μ63) I I<|bL I I (cW I) I (ho μ65) I I<|bL I I (cW I) I (ho μ67) I I ab
  have μ69:M 5 218 3 [1,2,5,6,15,17,18] 3:=hi<|aa [(0,219)] I<|ag (ho μ29) I I ab
  have μ70:M 6 90 1 [1,2,5,15,17,18] 4:=hi<|aa [(0,91),(7,218)] I<|ag (ho μ30) I I<|bL I I (cW I) I (ho μ69) I I ab
  have μ71:M 5 218 4 [1,2,5,6,15,17,18] 3:=hi<|aa [(0,219)] I<|ag (ho μ31) I I ab
  have μ72:M 6 154 2 [1,2,6,15,17,18] 4:=hi<|aa [(0,155),(6,218)] I<|ag (ho μ32) I I<|bL I I (cW I) I (ho μ71) I I ab
  have μ73:M 7 26 0 [1,2,15,17,18] 0:=hi<|aa [(0,27),(6,90),(7,154)] I<|ag (ho μ33) I I<|bL I I (cW I) I (ho μ70) I I<|bL I I (cW I) I (ho μ72) I I ab
  have μ74:M 6 202 3 [1,2,5,6,15,17] 3:=hi<|aa [(0,203),(4,218)] I<|ag (ho μ34) I I<|ag (ho μ69) I I ab
  have μ75:M 7 74 1 [1,2,5,15,17] 4:=hi<|aa [(0,75),(4,90),(7,202)] I<|ag (ho μ35) I I<|ag (ho μ70) I I<|bL I I (cW I) I (ho μ74) I I ab
  have μ76:M 6 202 4 [1,2,5,6,15,17] 3:=hi<|aa [(0,203),(4,218)] I<|ag (ho μ36) I I<|ag (ho μ71) I I ab
  have μ77:M 7 138 2 [1,2,6,15,17] 4:=hi<|aa [(0,139),(4,154),(6,202)] I<|ag (ho μ37) I I<|ag (ho μ72) I I<|bL I I (cW I) I (ho μ76) I I ab
  have μ78:M 8 10 0 [1,2,15,17] 0:=hi<|aa [(0,11),(4,26),(6,74),(7,138)] I<|ag (ho μ38) I I<|ag (ho μ73) I I<|bL I I (cW I) I (ho μ75) I I<|bL I I (cW I) I (ho μ77) I I ab
  have μ79:M 6 210 3 [1,2,5,6,15,18] 3:=hi<|aa [(0,211),(3,218)] I<|ag (ho μ39) I I<|ag (ho μ69) I I ab
  have μ80:M 7 82 1 [1,2,5,15,18] 4:=hi<|aa [(0,83),(3,90),(7,210)] I<|ag (ho μ40) I I<|ag (ho μ70) I I<|bL I I (cW I) I (ho μ79) I I ab
  have μ81:M 6 210 4 [1,2,5,6,15,18] 3:=hi<|aa [(0,211),(3,218)] I<|ag (ho μ41) I I<|ag (ho μ71) I I ab
  have μ82:M 7 146 2 [1,2,6,15,18] 4:=hi<|aa [(0,147),(3,154),(6,210)] I<|ag (ho μ42) I I<|ag (ho μ72) I I<|bL I I (cW I) I (ho μ81) I I ab
  have μ83:M 8 18 0 [1,2,15,18] 0:=hi<|aa [(0,19),(3,26),(6,82),(7,146)] I<|ag (ho μ43) I I<|ag (ho μ73) I I<|bL I I (cW I) I (ho μ80) I I<|bL I I (cW I) I (ho μ82) I I ab
  have μ84:M 7 194 3 [1,2,5,6,15] 3:=hi<|aa [(0,195),(3,202),(4,210)] I<|ag (ho μ44) I I<|ag (ho μ74) I I<|ag (ho μ79) I I ab
  have μ85:M 8 66 1 [1,2,5,15] 4:=hi<|aa [(0,67),(3,74),(4,82),(7,194)] I<|ag (ho μ45) I I<|ag (ho μ75) I I<|ag (ho μ80) I I<|bL I I (cW I) I (ho μ84) I I ab
  have μ86:M 7 194 4 [1,2,5,6,15] 3:=hi<|aa [(0,195),(3,202),(4,210)] I<|ag (ho μ46) I I<|ag (ho μ76) I I<|ag (ho μ81) I I ab
  have μ87:M 8 130 2 [1,2,6,15] 4:=hi<|aa [(0,131),(3,138),(4,146),(6,194)] I<|ag (ho μ47) I I<|ag (ho μ77) I I<|ag (ho μ82) I I<|bL I I (cW I) I (ho μ86) I I ab
  have μ88:M 9 2 0 [1,2,15] 0:=hi<|aa [(0,3),(3,10),(4,18),(6,66),(7,130)] I<|ag (ho μ48) I I<|ag (ho μ78) I I<|ag (ho μ83) I I<|bL I I (cW I) I (ho μ85) I I<|bL I I (cW I) I (ho μ87) I I ab
  have μ89:M 6 216 3 [1,2,5,6,17,18] 3:=hi<|aa [(0,217),(1,218)] I<|ag (ho μ49) I I<|ag (ho μ69) I I ab
  have μ90:M 7 88 1 [1,2,5,17,18] 4:=hi<|aa [(0,89),(1,90),(7,216)] I<|ag (ho μ50) I I<|ag (ho μ70) I I<|bL I I (cW I) I (ho μ89) I I ab
  have μ91:M 6 216 4 [1,2,5,6,17,18] 3:=hi<|aa [(0,217),(1,218)] I<|ag (ho μ51) I I<|ag (ho μ71) I I ab
  have μ92:M 7 152 2 [1,2,6,17,18] 4:=hi<|aa [(0,153),(1,154),(6,216)] I<|ag (ho μ52) I I<|ag (ho μ72) I I<|bL I I (cW I) I (ho μ91) I I ab
  have μ93:M 8 24 0 [1,2,17,18] 0:=hi<|aa [(0,25),(1,26),(6,88),(7,152)] I<|ag (ho μ53) I I<|ag (ho μ73) I I<|bL I I (cW I) I (ho μ90) I I<|bL I I (cW I) I (ho μ92) I I ab
  have μ94:M 7 200 3 [1,2,5,6,17] 3:=hi<|aa [(0,201),(1,202),(4,216)] I<|ag (ho μ54) I I<|ag (ho μ74) I I<|ag (ho μ89) I I ab
  have μ95:M 8 72 1 [1,2,5,17] 4:=hi<|aa [(0,73),(1,74),(4,88),(7,200)] I<|ag (ho μ55) I I<|ag (ho μ75) I I<|ag (ho μ90) I I<|bL I I (cW I) I (ho μ94) I I ab
  have μ96:M 7 200 4 [1,2,5,6,17] 3:=hi<|aa [(0,201),(1,202),(4,216)] I<|ag (ho μ56) I I<|ag (ho μ76) I I<|ag (ho μ91) I I ab
  have μ97:M 8 136 2 [1,2,6,17] 4:=hi<|aa [(0,137),(1,138),(4,152),(6,200)] I<|ag (ho μ57) I I<|ag (ho μ77) I I<|ag (ho μ92) I I<|bL I I (cW I) I (ho μ96) I I ab
  have μ98:M 9 8 0 [1,2,17] 0:=hi<|aa [(0,9),(1,10),(4,24),(6,72),(7,136)] I<|ag (ho μ58) I I<|ag (ho μ78) I I<|ag (ho μ93) I I<|bL I I (cW I) I (ho μ95) I I<|bL I I (cW I) I (ho μ97) I I ab
  have μ99:M 7 208 3 [1,2,5,6,18] 3:=hi<|aa [(0,209),(1,210),(3,216)] I<|ag (ho μ59) I I<|ag (ho μ79) I I<|ag (ho μ89) I I ab
  have μ100:M 8 80 1 [1,2,5,18] 4:=hi<|aa [(0,81),(1,82),(3,88),(7,208)] I<|ag (ho μ60) I I<|ag (ho μ80) I I<|ag (ho μ90) I I<|bL I I (cW I) I (ho μ99) I I ab
  have μ101:M 7 208 4 [1,2,5,6,18] 3:=hi<|aa [(0,209),(1,210),(3,216)] I<|ag (ho μ61) I I<|ag (ho μ81) I I<|ag (ho μ91) I I ab
  have μ102:M 8 144 2 [1,2,6,18] 4:=hi<|aa [(0,145),(1,146),(3,152),(6,208)] I<|ag (ho μ62) I I<|ag (ho μ82) I I<|ag (ho μ92) I I<|bL I I (cW I) I (ho μ101) I I ab
  have μ103:M 9 16 0 [1,2,18] 0:=hi<|aa [(0,17),(1,18),(3,24),(6,80),(7,144)] I<|ag (ho μ63) I I<|ag (ho μ83) I I<|ag (ho μ93) I I<|bL I I (cW I) I (ho μ100) I I<|bL I I (cW I) I (ho μ102) I I ab
  have μ104:M 8 192 3 [1,2,5,6] 3:=hi<|aa [(0,193),(1,194),(3,200),(4,208)] I<|ag (ho μ64) I I<|ag (ho μ84) I I<|ag (ho μ94) I I<|ag (ho μ99) I I ab
  have μ105:M 9 64 1 [1,2,5] 4:=hi<|aa [(0,65),(1,66),(3,72),(4,80),(7,192)] I<|ag (ho μ65) I I<|ag (ho μ85) I I<|ag (ho μ95) I I<|ag (ho μ100) I I<|bL I I (cW I) I (ho μ104) I I ab
  have μ106:M 8 192 4 [1,2,5,6] 3:=hi<|aa [(0,193),(1,194),(3,200),(4,208)] I<|ag (ho μ66) I I<|ag (ho μ86) I I<|ag (ho μ96) I I<|ag (ho μ101) I I ab
  have μ107:M 9 128 2 [1,2,6] 4:=hi<|aa [(0,129),(1,130),(3,136),(4,144),(6,192)] I<|ag (ho μ67) I I<|ag (ho μ87) I I<|ag (ho μ97) I I<|ag (ho μ102) I I<|bL I I (cW I) I (ho μ106) I I ab
  have μ108:M 10 0 0 [1,2] 0:=hi<|aa [(0,1),(1,2),(3,8),(4,16),(6,64),(7,128)] I<|ag (ho μ68) I I<|ag (ho μ88) I I<|ag (ho μ98) I I<|ag (ho μ103) I I<|bL I I (cW I) I (ho μ105) I I<|bL I I (cW I) I (ho μ107) I I ab
  exact μ108
 refine aR<|ax 3 I<|bw (kf I I I (by decide) ((show(a:Int).tdiv 2=((a / 2:Nat):Int) by rw[Int.tdiv_eq_ediv_of_nonneg (by omega)];omega)) (by unfold In64;omega)) I<|bw (aJ ((a / 2*7)) I) I<|ax 1 I<|bw (aK I ((fr T.ae (a / 2) 6 hi (by omega)).trans (show(iQ (cw T.ae (a / 2)))[6]? =some (num g) by rw[←hgl];rfl))) I<|ax 3 I<|aH [1,2,5,6,7] I ?_
 refine aR<|ax 4 I<|aH [1,2,5,6,7,8] I ?_
 refine aR<|ax 1 I<|bw (kf I I I (by decide) ((show(a:Int).tdiv 2=((a / 2:Nat):Int) by rw[Int.tdiv_eq_ediv_of_nonneg (by omega)];omega)) (by unfold In64;omega)) I<|ax 3 I<|aH [2,5,6,7,8,9] I ?_
 refine iV (xs:=[num n]) 5 0 0 I I ?_
 refine iV (xs:=[num h]) 6 1 0 I I ?_
 refine iV (xs:=eh 3 g) 7 2 0 I I ?_
 refine iV (xs:=eh 2 h) 8 3 0 I I ?_
 refine iV (xs:=eh 1 ((a / 2:Nat):Int)) 9 4 0 I I ?_
 refine cJ [] (.c 2<|.c 5<|.c 6<|.c 7<|.c 8<|.c 9<|.nil) .nil rfl rfl ?_
 refine af (.v (dw I I) I<|.a 1 I<|.k [6,7,8,9,10] I)<|aR<|ax 1 I<|aH [6,7,8,9,10,11] I ?_
 refine an<|bP 36 (.raw (.bool (c1))) [6,7,8,9,10,11] I ?_ ?_
 ·exact .a 2 I<|.v (cD I (hc1)) I<|.k [36,6,7,8,9,10,11] I
 refine aj I (fun h2=>?_) (fun h2=>?_)
 ·have hg0:0<g:=tt (by rw[hc1,h2])
  rw[if_pos hg0]
  refine bx<|ax 2 I<|fC I (h1 3 g) I<|ax 1 I<|aH [6,7,8,9,10,11] I ?_
  refine aR<|ax 2 I<|fC I (h1 2 h) I<|ax 2 I<|aH [6,7,8,9,11,12] I ?_
  refine aR<|bw (dw I I) I<|bw (dw I I) I<|cg (iP (xs:=[_,_]) I (bG.sl.get I) ⟨Nat.le_of_ble_eq_true rfl,Nat.le_of_ble_eq_true rfl⟩ rfl rfl) I<|ax 2 I<|aH [9,13] I ?_
  refine af (.v (dw I I) I<|.a 1 I<|.k [4] I)<|az ?_
  unfold ke F2 F3
  first
   |exact⟨_,_,aE.of I,aD.fy (ai.cons (aD.gC rfl (ai.cons (aD.dA rfl (ai.cons (aD.fy (ai.cons aD.pure<|ai.cons (aD.gC rfl (ai.cons (aD.pure (p:=aw _)) ai.nil)) ai.nil))<|ai.cons (aD.fy (ai.cons aD.pure<|ai.cons aD.pure<|ai.cons (aD.gC rfl (ai.cons (aD.pure (p:=aw _)) ai.nil)) ai.nil)) ai.nil)) ai.nil))<|ai.cons aD.pure ai.nil),rfl⟩
   |exact⟨_,_,aE.of I,aD.fy (ai.cons (aD.gC rfl (ai.cons (aD.dA rfl (ai.cons (aD.fy (ai.cons aD.pure<|ai.cons (aD.gC rfl (ai.cons aD.cc ai.nil)) ai.nil))<|ai.cons (aD.fy (ai.cons aD.pure<|ai.cons aD.pure<|ai.cons (aD.gC rfl (ai.cons (aD.pure (p:=aw _)) ai.nil)) ai.nil)) ai.nil)) ai.nil))<|ai.cons aD.pure ai.nil),rfl⟩
 ·have hg0:¬0<g:=ff (by rw[hc1,h2])
  rw[if_neg hg0]
  refine ak<|aR<|ax 2 I<|fC I (h1 2 h) I<|ax 2 I<|aH [6,7,8,9,11,12] I ?_
  refine aR<|bw (dw I I) I<|bw (dw I I) I<|cg (iP (xs:=[_,_]) I (bG.sl.get I) ⟨Nat.le_of_ble_eq_true rfl,Nat.le_of_ble_eq_true rfl⟩ rfl rfl) I<|ax 2 I<|aH [9,13] I ?_
  refine af (.v (dw I I) I<|.a 1 I<|.k [4] I)<|az ?_
  unfold ke F2 F3
  first
   |exact⟨_,_,aE.of I,aD.fy (ai.cons (aD.gC rfl (ai.cons (aD.dA rfl (ai.cons (aD.fy (ai.cons aD.pure<|ai.cons (aD.gC rfl (ai.cons (aD.pure (p:=aw _)) ai.nil)) ai.nil))<|ai.cons (aD.fy (ai.cons aD.pure<|ai.cons aD.pure<|ai.cons (aD.gC rfl (ai.cons (aD.pure (p:=aw _)) ai.nil)) ai.nil)) ai.nil)) ai.nil))<|ai.cons aD.pure ai.nil),rfl⟩
   |exact⟨_,_,aE.of I,aD.fy (ai.cons (aD.gC rfl (ai.cons (aD.dA rfl (ai.cons (aD.fy (ai.cons aD.pure<|ai.cons (aD.gC rfl (ai.cons aD.cc ai.nil)) ai.nil))<|ai.cons (aD.fy (ai.cons aD.pure<|ai.cons aD.pure<|ai.cons (aD.gC rfl (ai.cons (aD.pure (p:=aw _)) ai.nil)) ai.nil)) ai.nil)) ai.nil))<|ai.cons aD.pure ai.nil),rfl⟩
theorem BG{T:ah}{k x:Int}(h:jG T k x=0):(au T&&ek T k x)=true:=by
 unfold jG at h
 split at h
 ·assumption
 ·omega
theorem DK{T:ah}{k x:Int}(h:jG T k x≠0):jG T k x=1:=by
 unfold jG at*
 split
 ·rename_i h';rw[if_pos h']at h;exact absurd rfl h
 ·rfl
theorem yi{T:ah}{a:Nat}(hv:au T=true)(ha:a<2*T.ae.length){d:Nat}(hd:(d:Int)<T.nodes){n:Nat}(hn:aN T a=(n:Int))(k x:Int)(hm:(au T&&ek T k x)=true):d<(aO T (iL T k x) n true).length∧decide (0≤(aO T (iL T k x) n true).getD d 0)=mU T (cA T k x) (aN T a) d:=by
 have hnN:(n:Int)<T.nodes:=by rw[←hn];exact((aM hv).tail a ha).2
 have hl:=(eD (D:=iL T k x) hv (dir:=true) hnN).1
 refine⟨by omega,?_⟩
 rw[hn,DY hm,Bool.eq_iff_iff,decide_eq_true_eq,GS hv (tU T k x) hnN hd,HE hv hnN hd]
theorem Ht(T:ah)(a d:Nat)(hv:au T=true)(ha:a<2*T.ae.length)(hd:(d:Int)<T.nodes):Can Tryz.prog 105 ([num d]++ke (gh T a) (aB T a) ((a / 2:Nat):Int) (Iy T a) (Im T a)) (· =dX (jk T a d).1 (jk T a d).2):=by
 obtain⟨n,hn⟩:=Int.eq_ofNat_of_zero_le ((aM hv).tail a ha).1
 have hnt:(aN T a).toNat=n:=by omega
 have h2:=yi hv ha hd hn 2 (aB T a) (EJ hv ha)
 have hM:Im T a=aO T (iL T 2 (aB T a)) n true:=by unfold Im;rw[hnt]
 have hL:0<gh T a→Iy T a=aO T (iL T 3 (gh T a)) n true:=fun h=>by unfold Iy;rw[if_pos h,hnt]
 have h:=EO (gh T a) (aB T a) ((a / 2:Nat):Int) (Iy T a) (Im T a) d (mU T (cA T 3 (gh T a)) (aN T a) d) (mU T (cA T 2 (aB T a)) (aN T a) d)
  (fun hg=>by rw[hL hg];exact yi hv ha hd hn 3 (gh T a) (HJ hv ha hg)) (by rw[hM];exact h2.1) (by rw[hM];exact h2.2)
 have e:(if(decide (0<gh T a)&&mU T (cA T 3 (gh T a)) (aN T a) d)=true then dX 3 (gh T a) else if(decide (aB T a≠(d:Int))&&mU T (cA T 2 (aB T a)) (aN T a) d)=true then dX 2 (aB T a) else dX 1 ((a / 2:Nat):Int))=dX (jk T a d).1 (jk T a d).2:=by
  unfold jk
  split
  ·rfl
  ·split<;>rfl
 rw[e]at h
 exact h
def He(own:List Bool):List Int→Nat→Int
 | [],_=> -1
 |a::l,i=>bif bF own a.toNat then(i:Int) else He own l (i+1)
theorem Fm(own:List Bool):∀(l:List Int) (i:Nat),(He own l i= -1∧qh own l=none)∨∃j,j<l.length∧He own l i=((i+j:Nat):Int)∧qh own l=some (l.getD j 0)
 | [],i=>.inl ⟨rfl,rfl⟩
 |a::l,i=>by
  simp only[He]
  by_cases h:bF own a.toNat=true
  ·refine .inr ⟨0,by simp,by rw[h];rfl,?_⟩
   unfold qh
   rw[List.find?_cons_of_pos (by exact h)]
   rfl
  ·rw[Bool.eq_false_iff.2 h]
   simp only[cond_false]
   have e:qh own (a::l)=qh own l:=by
    unfold qh
    rw[List.find?_cons_of_neg (by exact h)]
   rw[e]
   rcases Fm own l (i+1)with h'|⟨j,h1,h2,h3⟩
   ·exact .inl h'
   ·exact .inr ⟨j+1,by simpa using h1,by rw[h2];congr 1;omega,by rw[h3];rfl⟩
theorem FK(own:List Bool)(k:Nat)(hk:k<own.length):Can Tryz.prog 77 ([num k]++[.bg [bq own] 0]) (· =flag (bF own k)):=by
 exact aT Tryz.func77 I Tryz.ntmps77 I<|af (.a 1 I<|.k [0,1] I)<|af (.a 2 I<|.v (aJ (k) I) I<|.v (aK I ((show(bb own)[k]? =some (flag (bF own k)) by rw[ee _ k hk,mE]))) I<|.a 1 I<|.k [3] I)<|az<|⟨_,_,aE.of I,aD.pure,rfl⟩
theorem D0(l:List Int)(own:List Bool)(hl:l.length≤1000)(hm:∀a∈l,∃k:Nat,a=(k:Int)∧k<own.length):Can Tryz.prog 76 [aw l,.func 77 [.bg [bq own] 0]] (· =num (He own l 0)):=by
 refine aT Tryz.func76 I Tryz.ntmps76 I<|af (.a 1 I<|.k [0,1] I)<|an<|af (.a 3 I<|.k [0,1,7,8] I)<|ay<|eY [0,1,7,8] I<|br (fun r s=>∃i,i≤l.length∧r=l.length - i∧He own l 0=He own (l.drop i) i∧s=⟨[(0,aw l),(1,.func 77 [.bg [bq own] 0]),(7,num l.length),(8,num i)],[]⟩) l.length ⟨0,by omega,by omega,rfl,rfl⟩ ?_
 rintro r s ⟨i,hi,rfl,hx,rfl⟩
 refine af (.a 1 I<|.k [0,1,7,8,9] I)<|an<|aj I (fun h1=>?_) (fun h1=>?_)
 ·have hlt:i<l.length:=by have:=tt h1;omega
  obtain⟨k,hk,hkl⟩:=hm _ (cf (d:=0) hlt)
  rw[drop_cons l i hlt,hk]at hx
  simp only[He,Int.toNat_natCast]at hx
  obtain⟨q,hq⟩:∃q,bF own k=q:=⟨_,rfl⟩
  have he:=FK own k hkl
  rw[hq]at he hx
  refine ak<|an<|ay<|af (.a 2 I<|.k [0,1,5,7,8] I)<|af (.a 3 I<|.v (aJ (i) I) I<|.v (aK I ((aC l i hlt).trans (by rw[hk]))) I<|.c rfl (he) I<|.k [0,1,5,7,8,16] I)<|aj I (fun h2=>?_) (fun h2=>?_)
  ·subst h2
   rw[cond_true]at hx
   rw[hx]
   exact af (.a 2 I<|.k [4] I)<|az<|⟨_,_,aE.of I,aD.pure,rfl⟩
  ·subst h2
   rw[cond_false]at hx
   refine ak<|aF (.v (aU I) I<|.a 1 I<|.k [0,1,7,8] I) ?_
   exact⟨l.length - (i+1),by omega,i+1,by omega,rfl,hx,rfl⟩
 ·have hie:i=l.length:=by have:=ff h1;omega
  subst hie
  rw[List.drop_length]at hx
  rw[hx]
  exact bp<|af (.a 1 I<|.k [4] I)<|az<|⟨_,_,aE.of I,aD.pure,rfl⟩
theorem GN(p:List Int):Can Tryz.prog 107 ([aw p]++[]) (· = .tuple []):=by
 exact aT Tryz.func107 I Tryz.ntmps107 I<|ak<|⟨_,_,aE.of I,aD.pure,rfl⟩
theorem vU(T:ah)(D:List Bool)(n d:Int):Can Tryz.prog 106 [aZ T,bq D,num n,num d,.func 107 []] (· =num (jy T D n d)):=by
 refine aT Tryz.func106 I Tryz.ntmps106 I<|af (.a 2 I<|.k [1,2,3,4,5] I)<|af (.a 4 I<|.c rfl (tH T D n d) I<|.a 5 I<|.k [4,11,12] I)<|an<|af (.a 2 I<|.k [4,11,12,22] I)<|aj I (fun h1=>?_) (fun h1=>?_)
 ·skip
  refine aF (.a 2 I<|.c rfl (GN _) I<|.k [12] I) ?_
  exact af (.a 2 I<|.k [10] I)<|az<|⟨_,_,aE.of I,aD.pure,rfl⟩
 ·skip
  exact ak<|af (.a 2 I<|.k [10] I)<|az<|⟨_,_,aE.of I,aD.pure,rfl⟩
theorem zr(T:ah)(D:List Bool)(n d:Int):Can Tryz.prog 79 [aZ T,bq D,num n,num d] (· =flag (mU T D n d)):=by
 obtain⟨q,hq⟩:∃q,decide (jy T D n d=0)=q:=⟨_,rfl⟩
 unfold mU
 rw[hq]
 exact aT Tryz.func79 I Tryz.ntmps79 I<|af (.a 2 I<|.k [1,2,3,4] I)<|af (.a 4 I<|.c rfl (vU T D n d) I<|.v (cD I (hq)) I<|.a 1 I<|.k [8] I)<|az<|⟨_,_,aE.of I,aD.pure,rfl⟩
theorem CL(T:ah)(k x:Int)(hm:(au T&&ek T k x)=true)(σ:bN):aW Tryz.prog 52 [aZ T,dX k x] σ (fun r σ'=>r= .tuple [.own σ.length,num 0]∧σ'=σ++[vK (cA T k x)]):=by
 obtain⟨hv,hc⟩:=Bool.and_eq_true_iff.1 hm
 refine aW.frame (aW.mono (td T k x hv hc) ?_)
 rintro r σ' ⟨rfl,rfl⟩
 refine⟨[.row 4 1 (2*T.ae.length) (bb (cA T k x))],rfl,_,_,Up.bY (jQ.cons (Up.own rfl) (jQ.cons Up.pure jQ.nil)),iI.cons (.row jQ.pure) iI.nil,by simp,?_⟩
 unfold vK
 rw[mL]
 rfl
set_option maxHeartbeats 2000000 in
theorem EU(T:ah)(own:List Bool)(n d:Nat)(hv:au T=true)(hfo:own.length=2*T.ae.length)(hn:(n:Int)<T.nodes)(hd:(d:Int)<T.nodes)(h12:T.nodes≤12):Can Tryz.prog 53 [aZ T,bq own,num n,num d] (· =wq (Bq T own n d)):=by
 have hll:=bX hv
 have hof:bR T own=true:=by unfold bR;rw[hfo];simp
 have hnb:bH T (n:Int)=true:=bu.2 ⟨by omega,hn⟩
 have hdb:bH T (d:Int)=true:=bu.2 ⟨by omega,hd⟩
 have hnx:=wb T [] n d
 rw[tN hv (lQ T) hnb hdb,Int.toNat_natCast,Int.toNat_natCast]at hnx
 unfold gu at hnx
 rw[if_pos rfl]at hnx
 have hlen:=CV hv [] n d
 have hmem:∀a∈bz T [] n d,∃k:Nat,a=(k:Int)∧k<2*T.ae.length:=fun a ha=>by
  obtain⟨k,hk,hkn⟩:=cT ha
  exact⟨k,hk,hkn.iu⟩
 unfold Bq
 obtain⟨l,hl⟩:∃l,bz T [] n d=l:=⟨_,rfl⟩
 rw[hl]at hnx hlen hmem ⊢
 have hix:=D0 l own (by omega) (fun a ha=>by rw[hfo];exact hmem a ha)
 obtain⟨ix,hixe⟩:∃ix,He own l 0=ix:=⟨_,rfl⟩
 have hih:=Fm own l 0
 rw[hixe]at hix hih
 simp only[Nat.zero_add]at hih
 refine aT Tryz.func53 I Tryz.ntmps53 I<|aR<|ax 3 I<|aH [2,3,4,5,8] I ?_
 refine af (.a 3 I<|.v (Bg I (ai.cons aD.pure<|ai.cons aD.cc<|ai.cons aD.pure<|ai.cons aD.pure ai.nil) (hnx)) I<|.a 5 I<|.k [2,3,4,5,8,9] I)<|af (.a 1 I<|.v (dw I I) I<|.c rfl (hix) I<|.a 1 I<|.k [2,3,4,5,8,9,11] I)<|an<|af (.a 2 I<|.k [2,3,4,5,8,9,11,28] I)<|aj I (fun h3=>?_) (fun h3=>?_)
 ·have hno:qh own l=none:=by
   rcases hih with h|⟨j,_,h,_⟩
   ·exact h.2
   ·rw[h]at h3;have:=tt h3;omega
  rw[hno]
  refine aR<|ax 3 I<|aH [8] I ?_
  exact az<|⟨_,_,aE.of I,aD.gM (ai.cons (aD.pure (p:=aw l))<|ai.cons aD.pure<|ai.cons aD.cc ai.nil),rfl⟩
 ·obtain⟨j,hjl,rfl,ha⟩:∃j,j<l.length∧ix=((j:Nat):Int)∧qh own l=some (l.getD j 0):=by
   rcases hih with h|h
   ·rw[h.1]at h3;exact absurd h3 (by decide)
   ·exact h
  obtain⟨k,hkj,hk⟩:=hmem _ (cf (d:=0) hjl)
  rw[ha]
  simp only[]
  rw[hkj,Int.toNat_natCast]
  have hcm:(au T&&ek T (jk T k d).1 (jk T k d).2)=true:=by rw[hv,ET hv hk];rfl
  have hcl:=Ht T k d hv hk hd
  have has:=zM T k hv hk
  have hmk:=fun σ=>CL T (jk T k d).1 (jk T k d).2 hcm σ
  have hmx:zY T own n d k=if mU T (orM T (cA T (jk T k d).1 (jk T k d).2) own) n d=true then orM T (cA T (jk T k d).1 (jk T k d).2) own else own:=rfl
  generalize jk T k (d:Int)=cx at*
  obtain⟨ck,cy⟩:=cx
  simp only at hcm hcl hmk hmx
  have hMl:=mL T ck cy
  obtain⟨M,hM⟩:∃M,cA T ck cy=M:=⟨_,rfl⟩
  rw[hM]at hmk hmx hMl
  have hre:=D8 T (zY T own n d k) n d hll h12
  rw[tN hv (C8 hof k) hnb hdb]at hre
  clear h3 hmem hih hix hixe
  refine ak<|iJ (bm (ks:=[2,3,4,5,8,9,11]) I) ?_
  refine kV ([(2,num n),(3,num d),(4,.bg (bI T) 0),(5,.bg [bq own] 0),(8,.ptr 0 0),(12,.own 1)]) ([some (.cells 49 [.raw (.slice none 0 0),flag false,.raw (.slice none 0 0)]),vK M]) mixed ?_ ?_
  ·refine o8 [[(2,num n),(3,num d),(4,.bg (bI T) 0),(5,.bg [bq own] 0),(8,.ptr 0 0),(9,aw l),(11,num j),(12,.own 1),(13,num 0),(31,.tuple [.own 1,num 0]),(32,aZ T),(33,aZ T),(34,aw l),(35,num j),(36,.bg (aL l) j),(37,num k),(38,.func 105 (ke (gh T k) (aB T k) ((k / 2:Nat):Int) (Iy T k) (Im T k))),(39,num d),(40,dX ck cy),(41,.tuple [.own 1,num 0]),(42,.own 1),(43,num 0)]] [[some (.cells 49 [.raw (.slice none 0 0),flag false,.raw (.slice none 0 0)])],[some (.cells 49 [.raw (.slice none 0 0),flag false,.raw (.slice none 0 0)]),vK M]] [2,3,4,5,8,9,11] I (by kernel_rfl) (fun M hi ho=>?_)
   have μ0:M 0 32767 0 [2,3,4,5,8,12] 1:=hi<|nk I (by kernel_rfl) (⟨rfl,bm (ks:=[2,3,4,5,8,12]) I⟩)
   have μ1:M 1 16383 0 [2,3,4,5,8,12,43] 1:=hi<|aa [(14,32767)] I<|ag (ho μ0) I I ab
   have μ2:M 2 8191 0 [2,3,4,5,8,42,43] 1:=hi<|aa [(13,16383)] I<|ag (ho μ1) I I ab
   have μ3:M 2 12287 0 [2,3,4,5,8,12,31] 1:=hi<|aa [(12,16383)] I<|ag (ho μ1) I I ab
   have μ4:M 3 4095 0 [2,3,4,5,8,31,42] 1:=hi<|aa [(12,8191),(13,12287)] I<|ag (ho μ2) I I<|ag (ho μ3) I I ab
   have μ5:M 3 6143 0 [2,3,4,5,8,31,43] 1:=hi<|aa [(11,8191)] I<|ag (ho μ2) I I ab
   have μ6:M 4 2047 0 [2,3,4,5,8,31] 1:=hi<|aa [(11,4095),(12,6143)] I<|ag (ho μ4) I I<|ag (ho μ5) I I ab
   have μ7:M 5 1023 0 [2,3,4,5,8,41] 1:=hi<|aa [(10,2047)] I<|ag (ho μ6) I I ab
   have μ8:M 6 511 0 [2,3,4,5,8,32,40] 0:=hi<|aa [(9,1023)] I<|dO I I I I (hmk _) (ho μ7) I I ab
   have μ9:M 7 255 0 [2,3,4,5,8,32,38,39] 0:=hi<|aa [(8,511)] I<|aQ I I (eW I (hcl)) I (ho μ8) I I ab
   have μ10:M 8 127 0 [2,3,4,5,8,32,38] 0:=hi<|aa [(7,255)] I<|ag (ho μ9) I I ab
   have μ11:M 8 191 0 [2,3,4,5,8,32,33,37,39] 0:=hi<|aa [(6,255)] I<|aQ I I (eW I (has)) I (ho μ9) I I ab
   have μ12:M 9 63 0 [2,3,4,5,8,32,33,37] 0:=hi<|aa [(6,127),(7,191)] I<|aQ I I (eW I (has)) I (ho μ10) I I<|ag (ho μ11) I I ab
   have μ13:M 9 159 0 [2,3,4,5,8,32,33,36,39] 0:=hi<|aa [(5,191)] I<|aQ I I (aK I ((aC l j hjl).trans (by rw[hkj]))) I (ho μ11) I I ab
   have μ14:M 10 31 0 [2,3,4,5,8,32,33,36] 0:=hi<|aa [(5,63),(7,159)] I<|aQ I I (aK I ((aC l j hjl).trans (by rw[hkj]))) I (ho μ12) I I<|ag (ho μ13) I I ab
   have μ15:M 10 143 0 [2,3,4,5,8,32,33,34,35,39] 0:=hi<|aa [(4,159)] I<|aQ I I (aJ (j) I) I (ho μ13) I I ab
   have μ16:M 11 15 0 [2,3,4,5,8,32,33,34,35] 0:=hi<|aa [(4,31),(7,143)] I<|aQ I I (aJ (j) I) I (ho μ14) I I<|ag (ho μ15) I I ab
   have μ17:M 11 135 0 [2,3,4,5,8,11,32,33,34,39] 0:=hi<|aa [(3,143)] I<|ag (ho μ15) I I ab
   have μ18:M 12 7 0 [2,3,4,5,8,11,32,33,34] 0:=hi<|aa [(3,15),(7,135)] I<|ag (ho μ16) I I<|ag (ho μ17) I I ab
   have μ19:M 11 139 0 [2,3,4,5,8,9,32,33,35,39] 0:=hi<|aa [(2,143)] I<|ag (ho μ15) I I ab
   have μ20:M 12 11 0 [2,3,4,5,8,9,32,33,35] 0:=hi<|aa [(2,15),(7,139)] I<|ag (ho μ16) I I<|ag (ho μ19) I I ab
   have μ21:M 12 131 0 [2,3,4,5,8,9,11,32,33,39] 0:=hi<|aa [(2,135),(3,139)] I<|ag (ho μ17) I I<|ag (ho μ19) I I ab
   have μ22:M 13 3 0 [2,3,4,5,8,9,11,32,33] 0:=hi<|aa [(2,7),(3,11),(7,131)] I<|ag (ho μ18) I I<|ag (ho μ20) I I<|ag (ho μ21) I I ab
   have μ23:M 9 189 0 [2,3,4,5,8,32,37,39] 0:=hi<|aa [(1,191)] I<|ag (ho μ11) I I ab
   have μ24:M 10 61 0 [2,3,4,5,8,32,37] 0:=hi<|aa [(1,63),(7,189)] I<|ag (ho μ12) I I<|ag (ho μ23) I I ab
   have μ25:M 10 157 0 [2,3,4,5,8,32,36,39] 0:=hi<|aa [(1,159),(5,189)] I<|ag (ho μ13) I I<|aQ I I (aK I ((aC l j hjl).trans (by rw[hkj]))) I (ho μ23) I I ab
   have μ26:M 11 29 0 [2,3,4,5,8,32,36] 0:=hi<|aa [(1,31),(5,61),(7,157)] I<|ag (ho μ14) I I<|aQ I I (aK I ((aC l j hjl).trans (by rw[hkj]))) I (ho μ24) I I<|ag (ho μ25) I I ab
   have μ27:M 11 141 0 [2,3,4,5,8,32,34,35,39] 0:=hi<|aa [(1,143),(4,157)] I<|ag (ho μ15) I I<|aQ I I (aJ (j) I) I (ho μ25) I I ab
   have μ28:M 12 13 0 [2,3,4,5,8,32,34,35] 0:=hi<|aa [(1,15),(4,29),(7,141)] I<|ag (ho μ16) I I<|aQ I I (aJ (j) I) I (ho μ26) I I<|ag (ho μ27) I I ab
   have μ29:M 12 133 0 [2,3,4,5,8,11,32,34,39] 0:=hi<|aa [(1,135),(3,141)] I<|ag (ho μ17) I I<|ag (ho μ27) I I ab
   have μ30:M 13 5 0 [2,3,4,5,8,11,32,34] 0:=hi<|aa [(1,7),(3,13),(7,133)] I<|ag (ho μ18) I I<|ag (ho μ28) I I<|ag (ho μ29) I I ab
   have μ31:M 12 137 0 [2,3,4,5,8,9,32,35,39] 0:=hi<|aa [(1,139),(2,141)] I<|ag (ho μ19) I I<|ag (ho μ27) I I ab
   have μ32:M 13 9 0 [2,3,4,5,8,9,32,35] 0:=hi<|aa [(1,11),(2,13),(7,137)] I<|ag (ho μ20) I I<|ag (ho μ28) I I<|ag (ho μ31) I I ab
   have μ33:M 13 129 0 [2,3,4,5,8,9,11,32,39] 0:=hi<|aa [(1,131),(2,133),(3,137)] I<|ag (ho μ21) I I<|ag (ho μ29) I I<|ag (ho μ31) I I ab
   have μ34:M 14 1 0 [2,3,4,5,8,9,11,32] 0:=hi<|aa [(1,3),(2,5),(3,9),(7,129)] I<|ag (ho μ22) I I<|ag (ho μ30) I I<|ag (ho μ32) I I<|ag (ho μ33) I I ab
   have μ35:M 7 510 0 [2,3,4,5,8,40] 0:=hi<|aa [(0,511)] I<|ag (ho μ8) I I ab
   have μ36:M 8 254 0 [2,3,4,5,8,38,39] 0:=hi<|aa [(0,255),(8,510)] I<|ag (ho μ9) I I<|aQ I I (eW I (hcl)) I (ho μ35) I I ab
   have μ37:M 9 126 0 [2,3,4,5,8,38] 0:=hi<|aa [(0,127),(7,254)] I<|ag (ho μ10) I I<|ag (ho μ36) I I ab
   have μ38:M 9 190 0 [2,3,4,5,8,33,37,39] 0:=hi<|aa [(0,191),(6,254)] I<|ag (ho μ11) I I<|aQ I I (eW I (has)) I (ho μ36) I I ab
   have μ39:M 10 62 0 [2,3,4,5,8,33,37] 0:=hi<|aa [(0,63),(6,126),(7,190)] I<|ag (ho μ12) I I<|aQ I I (eW I (has)) I (ho μ37) I I<|ag (ho μ38) I I ab
   have μ40:M 10 158 0 [2,3,4,5,8,33,36,39] 0:=hi<|aa [(0,159),(5,190)] I<|ag (ho μ13) I I<|aQ I I (aK I ((aC l j hjl).trans (by rw[hkj]))) I (ho μ38) I I ab
   have μ41:M 11 30 0 [2,3,4,5,8,33,36] 0:=hi<|aa [(0,31),(5,62),(7,158)] I<|ag (ho μ14) I I<|aQ I I (aK I ((aC l j hjl).trans (by rw[hkj]))) I (ho μ39) I I<|ag (ho μ40) I I ab
   have μ42:M 11 142 0 [2,3,4,5,8,33,34,35,39] 0:=hi<|aa [(0,143),(4,158)] I<|ag (ho μ15) I I<|aQ I I (aJ (j) I) I (ho μ40) I I ab
   have μ43:M 12 14 0 [2,3,4,5,8,33,34,35] 0:=hi<|aa [(0,15),(4,30),(7,142)] I<|ag (ho μ16) I I<|aQ I I (aJ (j) I) I (ho μ41) I I<|ag (ho μ42) I I ab
   have μ44:M 12 134 0 [2,3,4,5,8,11,33,34,39] 0:=hi<|aa [(0,135),(3,142)] I<|ag (ho μ17) I I<|ag (ho μ42) I I ab
   have μ45:M 13 6 0 [2,3,4,5,8,11,33,34] 0:=hi<|aa [(0,7),(3,14),(7,134)] I<|ag (ho μ18) I I<|ag (ho μ43) I I<|ag (ho μ44) I I ab
   have μ46:M 12 138 0 [2,3,4,5,8,9,33,35,39] 0:=hi<|aa [(0,139),(2,142)] I<|ag (ho μ19) I I<|ag (ho μ42) I I ab
   have μ47:M 13 10 0 [2,3,4,5,8,9,33,35] 0:=hi<|aa [(0,11),(2,14),(7,138)] I<|ag (ho μ20) I I<|ag (ho μ43) I I<|ag (ho μ46) I I ab
   have μ48:M 13 130 0 [2,3,4,5,8,9,11,33,39] 0:=hi<|aa [(0,131),(2,134),(3,138)] I<|ag (ho μ21) I I<|ag (ho μ44) I I<|ag (ho μ46) I I ab
   have μ49:M 14 2 0 [2,3,4,5,8,9,11,33] 0:=hi<|aa [(0,3),(2,6),(3,10),(7,130)] I<|ag (ho μ22) I I<|ag (ho μ45) I I<|ag (ho μ47) I I<|ag (ho μ48) I I ab
   have μ50:M 10 188 0 [2,3,4,5,8,37,39] 0:=hi<|aa [(0,189),(1,190)] I<|ag (ho μ23) I I<|ag (ho μ38) I I ab
   have μ51:M 11 60 0 [2,3,4,5,8,37] 0:=hi<|aa [(0,61),(1,62),(7,188)] I<|ag (ho μ24) I I<|ag (ho μ39) I I<|ag (ho μ50) I I ab
   have μ52:M 11 156 0 [2,3,4,5,8,36,39] 0:=hi<|aa [(0,157),(1,158),(5,188)] I<|ag (ho μ25) I I<|ag (ho μ40) I I<|aQ I I (aK I ((aC l j hjl).trans (by rw[hkj]))) I (ho μ50) I I ab
   have μ53:M 12 28 0 [2,3,4,5,8,36] 0:=hi<|aa [(0,29),(1,30),(5,60),(7,156)] I<|ag (ho μ26) I I<|ag (ho μ41) I I<|aQ I I (aK I ((aC l j hjl).trans (by rw[hkj]))) I (ho μ51) I I<|ag (ho μ52) I I ab
   have μ54:M 12 140 0 [2,3,4,5,8,34,35,39] 0:=hi<|aa [(0,141),(1,142),(4,156)] I<|ag (ho μ27) I I<|ag (ho μ42) I I<|aQ I I (aJ (j) I) I (ho μ52) I I ab
   have μ55:M 13 12 0 [2,3,4,5,8,34,35] 0:=hi<|aa [(0,13),(1,14),(4,28),(7,140)] I<|ag (ho μ28) I I<|ag (ho μ43) I I<|aQ I I (aJ (j) I) I (ho μ53) I I<|ag (ho μ54) I I ab
   have μ56:M 13 132 0 [2,3,4,5,8,11,34,39] 0:=hi<|aa [(0,133),(1,134),(3,140)] I<|ag (ho μ29) I I<|ag (ho μ44) I I<|ag (ho μ54) I I ab
   have μ57:M 14 4 0 [2,3,4,5,8,11,34] 0:=hi<|aa [(0,5),(1,6),(3,12),(7,132)] I<|ag (ho μ30) I I<|ag (ho μ45) I I<|ag (ho μ55) I I<|ag (ho μ56) I I ab
   have μ58:M 13 136 0 [2,3,4,5,8,9,35,39] 0:=hi<|aa [(0,137),(1,138),(2,140)] I<|ag (ho μ31) I I<|ag (ho μ46) I I<|ag (ho μ54) I I ab
   have μ59:M 14 8 0 [2,3,4,5,8,9,35] 0:=hi<|aa [(0,9),(1,10),(2,12),(7,136)] I<|ag (ho μ32) I I<|ag (ho μ47) I I<|ag (ho μ55) I I<|ag (ho μ58) I I ab
   have μ60:M 14 128 0 [2,3,4,5,8,9,11,39] 0:=hi<|aa [(0,129),(1,130),(2,132),(3,136)] I<|ag (ho μ33) I I<|ag (ho μ48) I I<|ag (ho μ56) I I<|ag (ho μ58) I I ab
   have μ61:M 15 0 0 [2,3,4,5,8,9,11] 0:=hi<|aa [(0,1),(1,2),(2,4),(3,8),(7,128)] I<|ag (ho μ34) I I<|ag (ho μ49) I I<|ag (ho μ57) I I<|ag (ho μ59) I I<|ag (ho μ60) I I ab
   exact μ61
  refine an<|af (.a 3 I<|.k [2,3,4,5,8,12,45,46] I)<|dF (σ':=[some (.cells 49 [.raw (.slice none 0 0),flag false,.raw (.slice none 0 0)]),vK (ln T M own 0)]) (by rw[Bj hMl]) ?_
  refine ay<|eY [2,3,4,5,8,12,45,46] I<|br (fun r s=>∃a,a≤2*T.ae.length∧r=2*T.ae.length - a∧s=⟨[(2,num n),(3,num d),(4,.bg (bI T) 0),(5,.bg [bq own] 0),(8,.ptr 0 0),(12,.own 1),(45,num M.length),(46,num a)],[some (.cells 49 [.raw (.slice none 0 0),flag false,.raw (.slice none 0 0)]),vK (ln T M own a)]⟩) (2*T.ae.length) ⟨0,by omega,by omega,rfl⟩ ?_
  rintro r s ⟨a,ha2,rfl,rfl⟩
  have hol:=rj T M own a
  refine af (.a 1 I<|.k [2,3,4,5,8,12,45,46,47] I)<|an<|aj I (fun h4=>?_) (fun h4=>?_)
  ·have hlt:a<2*T.ae.length:=by have:=tt h4;omega
   have hst:=BE T M own a
   have hat:=HV (T:=T) (D:=M) (E:=own) hlt
   clear h4
   refine ak<|an<|ay<|af (.a 2 I<|.k [2,3,4,5,8,12,14,45,46] I) ?_
   obtain⟨c1,hc1⟩:∃q,bF M a=q:=⟨_,rfl⟩
   obtain⟨c2,hc2⟩:∃q,bF own a=q:=⟨_,rfl⟩
   rw[hc1,hc2]at hst
   rw[hc1]at hat
   refine IT (Q1:=fun st=>st=⟨[(2,num n),(3,num d),(4,.bg (bI T) 0),(5,.bg [bq own] 0),(8,.ptr 0 0),(12,.own 1),(45,num M.length),(46,num a)],[some (.cells 49 [.raw (.slice none 0 0),flag false,.raw (.slice none 0 0)]),vK (ln T M own (a+1))]⟩) ?_ ?_
   ·cases c1
    ·refine bx<|ax 4 I<|bw (aJ (a) I) I<|bw (aK I ((show(bb (ln T M own a))[a]? =some (flag false) by rw[ee _ a (by omega),hat]))) I<|ax 3 I<|bw (aJ (a) I) I<|bw (aK I ((show(bb own)[a]? =some (flag c2) by rw[ee _ a (by omega),mE,hc2]))) I<|ax 1 I<|bw (aJ (a) I) I<|ba ((by first|exact bM I (bG.tk.get I) I I I (by first|omega|(simp;omega))|exact aX I (bG.tk.get I) I I I (by first|omega|(simp;omega)))) I I<|aH [2,3,4,5,8,12,45,46] I ?_
     rw[←hst]
     unfold vK
     rw[List.length_set]
     rfl
    ·refine bx<|ax 4 I<|bw (aJ (a) I) I<|bw (aK I ((show(bb (ln T M own a))[a]? =some (flag true) by rw[ee _ a (by omega),hat]))) I<|ax 6 I<|bw (aJ (a) I) I<|ba ((by first|exact bM I (bG.tk.get I) I I I (by first|omega|(simp;omega))|exact aX I (bG.tk.get I) I I I (by first|omega|(simp;omega)))) I I<|aH [2,3,4,5,8,12,45,46] I ?_
     rw[←hst]
     unfold vK
     rw[List.length_set]
     rfl
   rintro _ rfl
   refine aF (.v (aU I) I<|.a 1 I<|.k [2,3,4,5,8,12,45,46] I) ?_
   exact⟨2*T.ae.length - (a+1),by omega,a+1,by omega,rfl,rfl⟩
  ·have hae:a=2*T.ae.length:=by have:=ff h4;omega
   subst hae
   rw[DX]
   clear h4
   refine bp<|an<|Ff 12 1 I I ?_
   refine cJ [0] (.c 2<|.c 3<|.c 4<|.c 5<|.c 8<|.c 12<|.nil) (.kept rfl (.cells (ao.c<|ao.c<|ao.c<|ao.nil))<|.nil) I I ?_
   obtain⟨q,hq⟩:∃q,mU T (orM T M own) n d=q:=⟨_,rfl⟩
   rw[hq]at hmx
   refine af (.a 4 I<|.c rfl (hq▸zr T (orM T M own) n d) I<|.a 1 I<|.k [2,3,4,5,8,12,68] I)<|aj I (fun h5=>?_) (fun h5=>?_)
   ·have h5:q=false:=by simpa using h5
    rw[h5,if_neg (by simp)]at hmx
    rw[hmx]at hre ⊢
    refine aF (.a 2 I<|.k [2,3,4,8,12] I) ?_
    refine aR<|ax 4 I<|fC I (hre) I<|ax 6 I<|aH [8,15] I ?_
    refine aR<|ax 2 I<|aH [8] I ?_
    exact az<|⟨_,_,aE.of I,aD.pure (p:=wq _),rfl⟩
   ·have h5:q=true:=by simpa using h5
    rw[h5,if_pos rfl]at hmx
    rw[hmx]at hre ⊢
    refine ak<|aR<|ax 4 I<|fC I (hre) I<|ax 6 I<|aH [8,15] I ?_
    refine aR<|ax 2 I<|aH [8] I ?_
    exact az<|⟨_,_,aE.of I,aD.pure (p:=wq _),rfl⟩
def mZ(T:ah)(M:List Bool)(o:List Int)(i:Nat):List Bool:=(List.range (2*T.ae.length)).map fun(b:Nat)=>decide ((b:Int)∈o.take i)&&bF M b
theorem DR(T:ah)(M:List Bool)(o:List Int)(i:Nat):(mZ T M o i).length=2*T.ae.length:=by simp[mZ]
theorem qP{T:ah}{M:List Bool}{o:List Int}{i b:Nat}(h:b<(mZ T M o i).length):(mZ T M o i)[b]=(decide ((b:Int)∈o.take i)&&bF M b):=by simp[mZ]
theorem BN(T:ah)(M:List Bool)(o:List Int):mZ T M o 0=List.replicate (2*T.ae.length) false:=by
 apply List.ext_getElem (by simp[mZ])
 intro i h1 h2
 rw[qP]
 simp
theorem Cb{T:ah}{M:List Bool}{o:List Int}{i k:Nat}(hi:i<o.length)(hk:o.getD i 0=(k:Int))(hkl:k<2*T.ae.length):mZ T M o (i+1)=if bF M k then(mZ T M o i).set k true else mZ T M o i:=by
 have hmem:∀b:Nat,((b:Int)∈o.take (i+1))↔((b:Int)∈o.take i∨b=k):=fun b=>by
  rw[dr o i 0 hi,List.mem_append,List.mem_singleton,hk]
  exact⟨fun h=>h.imp id (fun e=>by omega),fun h=>h.imp id (fun e=>by omega)⟩
 split
 ·rename_i hd
  apply List.ext_getElem (by simp[mZ])
  intro b h1 h2
  rw[qP,List.getElem_set]
  by_cases e:k=b
  ·subst e
   rw[if_pos rfl,decide_eq_true ((hmem k).2 (.inr rfl)),hd]
   rfl
  ·rw[if_neg e,qP]
   congr 1
   exact decide_eq_decide.2 ((hmem b).trans ⟨fun h=>h.resolve_right (fun e'=>e e'.symm),.inl⟩)
 ·rename_i hd
  unfold mZ
  refine List.map_congr_left fun b _=>?_
  by_cases e:b=k
  ·subst e
   rw[Bool.eq_false_iff.2 hd]
   simp
  ·congr 1
   exact decide_eq_decide.2 ((hmem b).trans ⟨fun h=>h.resolve_right e,.inl⟩)
theorem DU(T:ah)(M:List Bool)(n:Int):mZ T M (bW T n) (bW T n).length=xg T M n:=by
 unfold mZ xg
 refine List.map_congr_left fun b hb=>?_
 have hb:=List.mem_range.1 hb
 rw[List.take_length,Bool.and_comm]
 congr 1
 refine decide_eq_decide.2 (nV.trans ⟨fun h=>by have:=h.2;rwa [Int.toNat_natCast]at this,fun h=>⟨dh.2 (by omega),by rw[Int.toNat_natCast];exact h⟩⟩)
set_option maxHeartbeats 2000000 in
theorem CZ(T:ah)(k x n:Int)(h12:T.nodes≤12):Can Tryz.prog 21 [aZ T,dX k x,num n] (· =KC (if jG T k x=0 then(if bH T n then 0 else 2) else 1) (Bi T (cA T k x) n.toNat)):=by
 have hmk:=wT T k x
 unfold sd at hmk
 refine aT Tryz.func21 I Tryz.ntmps21 I<|aR<|ax 4 I<|aH [2,3,4,6] I ?_
 refine af (.a 2 I<|.c rfl (hmk) I<|.a 5 I<|.k [2,3,6,8,9] I)<|an<|af (.a 2 I<|.k [2,3,6,8,9,22] I)<|aj I (fun h1=>?_) (fun h1=>?_)
 ·have h1:=tt h1
  rw[if_neg h1]
  have h1':=DK h1
  rw[h1']
  refine aR<|ax 4 I<|aH [6,7] I ?_
  exact az<|⟨_,_,aE.of I,aD.bY (ai.cons (aD.gM (ai.cons aD.pure<|ai.cons aD.cc<|ai.cons aD.cc ai.nil)) (ai.cons aD.pure ai.nil)),rfl⟩
 ·have h1:jG T k x=0:=Classical.byContradiction (ff h1)
  obtain⟨hv,hc⟩:=Bool.and_eq_true_iff.1 (BG h1)
  rw[if_pos h1,if_pos h1]
  have hll:=bX hv
  refine ak<|an<|af (.a 2 I<|.c rfl (dy T n) I<|.a 1 I<|.k [2,3,6,8,28] I)<|aj I (fun h2=>?_) (fun h2=>?_)
  ·have hn:bH T n=false:=by simpa using h2
   rw[hn]
   refine aR<|ax 3 I<|aH [6,7] I ?_
   exact az<|⟨_,_,aE.of I,aD.bY (ai.cons (aD.gM (ai.cons aD.pure<|ai.cons aD.cc<|ai.cons aD.cc ai.nil)) (ai.cons aD.pure ai.nil)),rfl⟩
  ·have hn:bH T n=true:=by simpa using h2
   rw[hn,if_pos rfl]
   rw[bu]at hn
   obtain⟨m,rfl⟩:=Int.eq_ofNat_of_zero_le hn.1
   rw[Int.toNat_natCast]
   obtain⟨N,hN⟩:∃N:Nat,T.nodes=(N:Int):=⟨T.nodes.toNat,by omega⟩
   have hMl:=mL T k x
   obtain⟨M,hM⟩:∃M,cA T k x=M:=⟨_,rfl⟩
   rw[hM]at hMl ⊢
   have hol:(bW T m).length≤512:=Nat.le_trans (eM T m _) (by omega)
   clear h2 hmk
   refine ak<|aR<|ax 4 I<|aH [2,3,6,8,10] I ?_
   refine cB 1 1 49 3 I I ?_
   refine cB 1 2 3 1 I I ?_
   refine aR<|ax 1 I<|fC I (dY T (by omega)) I<|cg (da I (bG.rk.get I) I I (show 2*(T.ae.length:Int)=((2*T.ae.length:Nat):Int) by omega) (show 2*(T.ae.length:Int)=((2*T.ae.length:Nat):Int) by omega) ⟨by unfold maxLen;omega,by omega⟩) I<|ax 1 I<|aH [2,3,6,8,10,11] I ?_
   refine an<|af (.a 2 I<|.c rfl (qw T hll _) I<|.a 2 I<|.k [2,3,6,8,10,11,37,38,39] I)<|ay<|eY [2,3,6,8,10,11,37,38,39] I<|dF (σ':=[some (.cells 52 [num 0,.raw (.slice none 0 0),.raw (.slice none 0 0)]),some (.cells 52 [num m,.own 2,.own 3]),some (.row 49 3 0 []),some (.row 3 1 0 []),some (.row 4 1 (2*T.ae.length) (bb (mZ T M (bW T m) 0)))]) (by rw[BN,←jN];rfl) ?_
   refine br (fun r s=>∃i,i≤(bW T m).length∧r=(bW T m).length - i∧s=⟨[(2,num m),(3,.bg (bI T) 0),(6,.ptr 0 0),(8,bq M),(10,.ptr 1 0),(11,.own 4),(37,aw (bW T m)),(38,num (bW T m).length),(39,num i)],[some (.cells 52 [num 0,.raw (.slice none 0 0),.raw (.slice none 0 0)]),some (.cells 52 [num m,.own 2,.own 3]),some (.row 49 3 0 []),some (.row 3 1 (fX M ((bW T m).take i)).length (aL (fX M ((bW T m).take i)))),some (.row 4 1 (2*T.ae.length) (bb (mZ T M (bW T m) i)))]⟩) (bW T m).length ⟨0,by omega,by omega,rfl⟩ ?_
   rintro r s ⟨i,hi,rfl,rfl⟩
   skip
   refine af (.a 1 I<|.k [2,3,6,8,10,11,37,38,39,40] I)<|an<|aj I (fun h3=>?_) (fun h3=>?_)
   ·have hlt:i<(bW T m).length:=by have:=tt h3;omega
    obtain⟨a0,a1⟩:=ko (cf (d:=0) hlt)
    obtain⟨a,ha⟩:=Int.eq_ofNat_of_zero_le a0
    have hal:a<2*T.ae.length:=by omega
    have hstep:fX M ((bW T m).take (i+1))=fX M ((bW T m).take i)++(if bF M a then [(a:Int)] else []):=by
     unfold fX
     rw[dr _ i 0 hlt,List.filter_append,ha]
     simp only[List.filter_cons,List.filter_nil,Int.toNat_natCast]
    have hdl:(fX M ((bW T m).take i)).length≤1000:=Nat.le_trans (List.length_filter_le _ _) (by rw[List.length_take];omega)
    have hds:=Cb (T:=T) (M:=M) hlt ha hal
    have hdn:=DR T M (bW T m) i
    obtain⟨q,hq⟩:∃q,bF M a=q:=⟨_,rfl⟩
    rw[hq]at hstep hds
    clear h3
    refine ak<|an<|ay<|af (.v (aJ (i) I) I<|.v (aK I ((aC _ i hlt).trans (by rw[ha]))) I<|.a 1 I<|.k [2,3,6,8,10,11,13,37,38,39] I)<|af (.a 2 I<|.v (aJ (a) I) I<|.v (aK I ((show(bb M)[a]? =some (flag q) by rw[ee _ a (by omega),mE,hq]))) I<|.k [2,3,6,8,10,11,13,37,38,39,46] I)<|aj I (fun h4=>?_) (fun h4=>?_)
    ·subst h4
     rw[if_pos rfl]at hstep hds
     refine aR<|ax 2 I<|bw (aJ (a) I) I<|ba ((by first|exact bM I (bG.tk.get I) I I I (by first|omega|(simp;omega))|exact aX I (bG.tk.get I) I I I (by first|omega|(simp;omega)))) I I<|aH [2,3,6,8,10,11,13,37,38,39] I ?_
     refine bx<|ax 4 I<|cg (bC I (bG.rk.get I) I I I I (by unfold maxLen;omega)) I<|ax 2 I ?_
     refine eQ [0,1,2,5,4] (.c 2<|.c 3<|.c 6<|.c 8<|.c 10<|.c 11<|.c 37<|.c 38<|.c 39<|.nil) (.kept rfl (.cells (ao.c<|ao.c<|ao.c<|ao.nil))<|.kept rfl (.cells (ao.c<|ao.c<|ao.c<|ao.nil))<|.kept rfl (.row ao.pure)<|.kept rfl (.fk rfl (dJ _ _))<|.kept rfl (.row ao.pure)<|.nil) I I (bf ?_)
     refine aF (.v (aU I) I<|.a 1 I<|.k [2,3,6,8,10,11,37,38,39] I) ?_
     refine⟨(bW T m).length - (i+1),by omega,i+1,by omega,rfl,?_⟩
     rw[hstep,hds]
     first
      |rfl
      |(simp only[List.length_append,List.length_singleton];rfl)
    ·subst h4
     rw[if_neg (by simp),List.append_nil]at hstep
     rw[if_neg (by simp)]at hds
     refine ak<|aF (.v (aU I) I<|.a 1 I<|.k [2,3,6,8,10,11,37,38,39] I) ?_
     refine⟨(bW T m).length - (i+1),by omega,i+1,by omega,rfl,?_⟩
     rw[hstep,hds]
     first
      |rfl
      |(simp only[List.length_append,List.length_singleton];rfl)
   ·have hie:i=(bW T m).length:=by have:=ff h3;omega
    subst hie
    rw[DU,List.take_length]
    clear h3
    refine bp<|an ?_
    have hown:(xg T M m).length=2*T.ae.length:=by simp[xg]
    unfold Bi
    obtain⟨own,howe⟩:∃own,xg T M m=own:=⟨_,rfl⟩
    rw[howe]at hown ⊢
    obtain⟨dl,hdl⟩:∃dl,fX M (bW T m)=dl:=⟨_,rfl⟩
    rw[hdl]
    refine cJ [0,1,2,3,4] (.c 2<|.c 3<|.c 6<|.c 10<|.c 11<|.nil) (.kept rfl (.cells (ao.c<|ao.c<|ao.c<|ao.nil))<|.kept rfl (.cells (ao.c<|ao.c<|ao.c<|ao.nil))<|.kept rfl (.row ao.pure)<|.kept rfl (.row ao.pure)<|.kept rfl (.fk (show 2*T.ae.length=own.length by omega) I)<|.nil) I I ?_
    refine Ff 11 4 I I ?_
    refine cJ [0,1,2,3] (.c 2<|.c 3<|.c 6<|.c 10<|.c 11<|.nil) (.kept rfl (.cells (ao.c<|ao.c<|ao.c<|ao.nil))<|.kept rfl (.cells (ao.c<|ao.c<|ao.c<|ao.nil))<|.kept rfl (.row ao.pure)<|.kept rfl (.row ao.pure)<|.nil) I I ?_
    refine af (.a 1 I<|.v (aK I ((show some (num T.nodes)=some (num (N:Int)) by rw[hN]))) I<|.a 1 I<|.k [2,3,6,10,11,58,59] I)<|ay<|eY [2,3,6,10,11,58,59] I<|br (fun r s=>∃j,j≤N∧r=N - j∧s=⟨[(2,num m),(3,.bg (bI T) 0),(6,.ptr 0 0),(10,.ptr 1 0),(11,bq own),(58,num N),(59,num j)],[some (.cells 52 [num 0,.raw (.slice none 0 0),.raw (.slice none 0 0)]),some (.cells 52 [num m,.own 2,.own 3]),some (.row 49 3 j (ll (ve T own m j))),some (.row 3 1 dl.length (aL dl))]⟩) N ⟨0,by omega,by omega,rfl⟩ ?_
    rintro r s ⟨j,hj,rfl,rfl⟩
    refine af (.a 1 I<|.k [2,3,6,10,11,58,59,60] I)<|an<|aj I (fun h3=>?_) (fun h3=>?_)
    ·have hlt:j<N:=by have:=tt h3;omega
     have hre:=EU T own m j hv hown hn.2 (by omega) h12
     refine ak<|an<|ay<|af (.a 2 I<|.k [2,3,6,10,11,14,58,59] I)<|dR 8 20 mixed (
      .val [10] I (bn I) I I<|
      .val [62] I (bn I) I I<|
      .val [3] I (bn I) I I<|
      .val [11] I (bn I) I I<|
      .val [2] I (bn I) I I<|
      .val [14] I (bn I) I I<|
      .val [64,65,66,67] I (eW I (hre)) I I<|
      .val [68] I (bn I) I I<|
      .nil) (by kernel_rfl) I I (bm (ks:=[2,3,6,10,11,58,59,63,69]) I) ?_
     refine cg (bC I (bG.rk.get I) I I I I (by unfold maxLen;omega)) I<|ax 2 I ?_
     refine eQ [0,1,4,3] (.c 2<|.c 3<|.c 6<|.c 10<|.c 11<|.c 58<|.c 59<|.nil) (.kept rfl (.cells (ao.c<|ao.c<|ao.c<|ao.nil))<|.kept rfl (.cells (ao.c<|ao.c<|ao.c<|ao.nil))<|.kept rfl (.fk rfl (show _=ll (ve T own m (j+1)) by rw[B4];exact qG _ _))<|.kept rfl (.row ao.pure)<|.nil) I I (bf ?_)
     refine aF (.v (aU I) I<|.a 1 I<|.k [2,3,6,10,11,58,59] I) ?_
     exact⟨N - (j+1),by omega,j+1,by omega,rfl,rfl⟩
    ·have hje:j=N:=by have:=ff h3;omega
     subst hje
     refine bp<|aR<|bw (gw (ys:=[num m,.own 2,.own 3]) I (bG.tk.get I) I I I I) I<|ax 2 I<|aH [6,7] I ?_
     refine az<|⟨_,_,aE.of I,aD.bY (ai.cons (aD.gM (ai.cons aD.pure<|ai.cons (aD.dA rfl ai.pure)<|ai.cons (aD.dA rfl ai.pure) ai.nil)) (ai.cons aD.pure ai.nil)),?_⟩
     unfold KC qk gA lg aw
     rw[if_pos rfl,FA,show T.nodes.toNat=j by omega]
end
end PW
end Go.Proofs.YteikppbedmmdnaaGreatDoor
namespace Go.Proofs.YteikppbedmmdnaaGreatDoor
namespace PW
open Go.RowKit cj Mem Net eX
namespace GF
def JQ(T:ah)(D:List Bool)(d:Nat)(L:List Int)(a:Nat):List Int:=
 if(!bF D a)&&decide (0≤L.getD (aB T a).toNat 0)&&(decide (aB T a=(d:Int))|| !cL T (aB T a).toNat)&&(decide (L.getD (aN T a).toNat 0<0)||decide (L.getD (aB T a).toNat 0+bS T a<L.getD (aN T a).toNat 0))
 then L.set (aN T a).toNat (L.getD (aB T a).toNat 0+bS T a) else L
def dC(T:ah)(D:List Bool)(d:Nat):List Int:=(List.range T.nodes.toNat).foldl (fun L _=>(List.range (2*T.ae.length)).foldl (JQ T D d) L) ((List.replicate T.nodes.toNat (-1)).set d 0)
def G9(T:ah)(D:List Bool)(n:Nat)(out:List Int)(a:Nat):Bool:= !bF D a&&decide (0≤at' out (cz T false a))&&(decide (cz T false a=(n:Int))|| !cL T (cz T false a).toNat)
def I2(T:ah)(D:List Bool)(n:Nat)(out:List Int):Bool:=
 decide (out.length=T.nodes.toNat)&&decide (at' out (n:Int)=0)&&(List.range T.nodes.toNat).all (fun x=>decide (-1≤at' out (x:Int)))&&
 (List.range (2*T.ae.length)).all (fun a=> !G9 T D n out a||(decide (0≤at' out (eK T false a))&&decide (at' out (eK T false a)≤at' out (cz T false a)+bS T a)))&&
 (List.range T.nodes.toNat).all (fun x=>decide (x=n)||decide (at' out (x:Int)<0)||(List.range (2*T.ae.length)).any fun a=>decide (eK T false a=(x:Int))&&G9 T D n out a&&decide (at' out (x:Int)=at' out (cz T false a)+bS T a))
def nI(T:ah)(D:List Bool):Bool:=(List.range T.nodes.toNat).all fun d=>I2 T D d (dC T D d)
theorem vu(T:ah)(D:List Bool)(n:Nat)(out:List Int)(a:Nat):Net.Way T D n false out a↔G9 T D n out a=true:=by
 unfold Net.Way G9
 simp[and_assoc]
theorem Hs{T:ah}{D:List Bool}(hv:au T=true){n:Nat}{out:List Int}(h:I2 T D n out=true):eJ T D n false out:=by
 have hN:=(aM hv).nodes
 simp only[I2,Bool.and_eq_true,decide_eq_true_eq,List.all_eq_true,List.mem_range,Bool.or_eq_true,Bool.not_eq_true',List.any_eq_true]at h
 obtain⟨⟨⟨⟨h1,h2⟩,h3⟩,h4⟩,h5⟩:=h
 refine⟨by rw[h1];omega,h2,fun x hx=>h3 x (by omega),fun a ha hw=>?_,fun x hx h0=>?_⟩
 ·rcases h4 a ha with h|h
  ·rw[(vu T D n out a).1 hw]at h;cases h
  ·exact h
 ·rcases h5 x (by omega)with(h|h)|⟨a,ha,⟨h6,h7⟩,h8⟩
  ·exact .inl h
  ·omega
  ·exact .inr ⟨a,ha,h6,(vu T D n out a).2 h7,h8⟩
theorem qf{T:ah}{D:List Bool}(hv:au T=true)(h:nI T D=true){d:Nat}(hd:(d:Int)<T.nodes):aO T D d false=dC T D d:=by
 refine jn (aM hv) (Hs hv ?_)
 simp only[nI,List.all_eq_true,List.mem_range]at h
 exact h d (by omega)
def lh(T:ah)(D:List Bool)(n d:Nat):List Int:=if n=d∨(dC T D d).getD n 0<0 then [] else eB T D (dC T D d) ((dC T D d).getD n 0) d (bW T n)
theorem next{T:ah}{D:List Bool}(hv:au T=true)(h:nI T D=true){n d:Nat}(hd:(d:Int)<T.nodes):bz T D n d=lh T D n d:=by
 unfold bz lh;rw[qf hv h hd]
def vA(T:ah)(D:List Bool)(d:Nat):Nat→Nat→List Int
 |0,_=>[]
 |f+1,n=>match lh T D n d with
  | []=>[]
  |a::_=>a::vA T D d f (aB T a.toNat).toNat
def qI(T:ah)(D:List Bool)(n d:Nat):List Int:=vA T D d ((dC T D d).getD n 0).toNat n
theorem first{T:ah}{D:List Bool}(hv:au T=true)(h:nI T D=true){d:Nat}(hd:(d:Int)<T.nodes):∀f n,gv T D d f n=vA T D d f n
 |0,_=>rfl
 |f+1,n=>by
  simp only[gv,vA,next hv h hd]
  cases lh T D n d with
  |nil=>rfl
  |cons a l=>simp only[first hv h hd f]
theorem J0{T:ah}{D:List Bool}(hv:au T=true)(h:nI T D=true){n d:Nat}(hd:(d:Int)<T.nodes):df T D n d=qI T D n d:=by
 unfold df qI dN;rw[qf hv h hd,first hv h hd]
def Hn(T:ah)(D:List Bool)(s d:Int):Int:=if cF T D s d=0 then(if(dC T D d.toNat).getD s.toNat 0<0 then 11 else 0) else cF T D s d
theorem qn{T:ah}{D:List Bool}{s d:Int}(h:cF T D s d=0):(d.toNat:Int)<T.nodes∧0≤d:=by
 obtain⟨_,_,_,h4⟩:=fQ h
 rw[bu]at h4
 omega
theorem KJ{T:ah}{D:List Bool}(hv:au T=true)(h:nI T D=true)(s d:Int):jy T D s d=Hn T D s d:=by
 unfold jy Hn dN
 by_cases h0:cF T D s d=0
 ·rw[if_pos h0,if_pos h0,qf hv h (qn h0).1]
 ·rw[if_neg h0,if_neg h0]
def yv(T:ah)(D:List Bool)(d:Nat):Nat→Nat→Int
 |0,m=>if m=d then 1 else 0
 |f+1,m=>if m=d then 1 else(lh T D m d).foldl (fun c a=>min 2 (c+yv T D d f (aB T a.toNat).toNat)) 0
theorem fL{T:ah}{D:List Bool}(hv:au T=true)(h:nI T D=true){d:Nat}(hd:(d:Int)<T.nodes):∀f m,mX T D d f m=yv T D d f m
 |0,_=>rfl
 |f+1,m=>by
  simp only[mX,yv,next hv h hd]
  split
  ·rfl
  ·exact foldl_congr fun c a _=>by rw[fL hv h hd f]
def Bm(T:ah)(D:List Bool)(n:Int)(p:List Int)(i j:Nat):Bool:=
 decide ((dC T D (cE T n (p.take j)).toNat).getD (cE T n (p.take i)).toNat 0=cP T (p.take j) - cP T (p.take i))&&(decide (cF T D (cE T n (p.take i)) (cE T n (p.take j))=0)&&decide (yv T D (cE T n (p.take j)).toNat ((dC T D (cE T n (p.take j)).toNat).getD (cE T n (p.take i)).toNat 0).toNat (cE T n (p.take i)).toNat=1))
theorem yr{T:ah}{D:List Bool}(hv:au T=true)(h:nI T D=true)(n:Int)(p:List Int)(i j:Nat):fD T D n p i j=Bm T D n p i j:=by
 unfold fD Bm fw dL dN
 by_cases h0:cF T D (cE T n (p.take i)) (cE T n (p.take j))=0
 ·rw[qf hv h (qn h0).1,fL hv h (qn h0).1]
 ·rw[decide_eq_false h0];simp
def D3(T:ah)(D:List Bool)(n:Int)(p:List Int):Nat→Nat→List cr
 |0,_=>[]
 |f+1,i=>if i<p.length then(match mV (Bm T D n p i) i p.length with
  |some j=>⟨1,cE T n (p.take j)⟩::D3 T D n p f j
  |none=>⟨2,p.getD i 0⟩::D3 T D n p f (i+1)) else []
theorem I6{T:ah}{D:List Bool}(hv:au T=true)(h:nI T D=true)(n:Int)(p:List Int):∀f i,jw T D n p f i=D3 T D n p f i
 |0,_=>rfl
 |f+1,i=>by
  have:fD T D n p i=Bm T D n p i:=funext fun j=>yr hv h n p i j
  simp only[jw,D3,this]
  split
  ·cases mV (Bm T D n p i) i p.length with
   |none=>simp only[I6 hv h n p f]
   |some j=>simp only[I6 hv h n p f]
  ·rfl
def Ji(T:ah)(D:List Bool)(n d:Int):kD:=
 if Hn T D n d=0∧n≠d then⟨[(qI T D n.toNat d.toNat).getD 0 0],true,yb (D3 T [] n (qI T D n.toNat d.toNat) (qI T D n.toNat d.toNat).length 0)⟩ else⟨[],false,[]⟩
theorem GM{T:ah}{D:List Bool}(hv:au T=true)(h0:nI T []=true)(h:nI T D=true)(n d:Int):sE T D n d=Ji T D n d:=by
 unfold sE Ji
 rw[KJ hv h]
 by_cases hd:(d.toNat:Int)<T.nodes
 ·unfold lq
  rw[J0 hv h hd,I6 hv h0]
 ·have:¬Hn T D n d=0:=by
   unfold Hn
   intro hh
   split at hh
   ·rename_i h1;exact hd (qn h1).1
   ·rename_i h1;exact h1 hh
  rw[if_neg (fun hh=>this hh.1),if_neg (fun hh=>this hh.1)]
def ke(T:ah)(a:Nat)(d:Int):Int×Int:=
 if(decide (0<gh T a)&&decide (Hn T (cA T 3 (gh T a)) (aN T a) d=0))=true then(3,gh T a)
 else if(decide (aB T a≠d)&&decide (Hn T (cA T 2 (aB T a)) (aN T a) d=0))=true then(2,aB T a)
 else(1,((a / 2:Nat):Int))
theorem LN{T:ah}(hv:au T=true){a:Nat}(h3:nI T (cA T 3 (gh T a))=true)(h2:nI T (cA T 2 (aB T a))=true)(d:Int):jk T a d=ke T a d:=by
 unfold jk ke mU
 rw[KJ hv h3,KJ hv h2]
end GF
end PW
end Go.Proofs.YteikppbedmmdnaaGreatDoor
namespace Go.Proofs.YteikppbedmmdnaaGreatDoor
namespace PW
open Go.RowKit cj Mem Net eX
namespace GF
def Aq(T:ah)(D:List Bool)(n:Nat):eN:=⟨n,(List.range T.nodes.toNat).map fun(d:Nat)=>⟨lh T D n d,false,[]⟩,fX D (bW T n)⟩
theorem Ju{T:ah}{D:List Bool}(hv:au T=true)(h:nI T D=true)(n:Nat):dW T D n=Aq T D n:=by
 have hN:=(aM hv).nodes
 unfold dW Aq vR
 congr 1
 refine List.map_congr_left fun d hd=>?_
 have:=List.mem_range.1 hd
 rw[next hv h (by omega)]
end GF
def EL:List Bool:=[true,true,false,false,false,false,false,false]
end PW
end Go.Proofs.YteikppbedmmdnaaGreatDoor
namespace Go.Proofs.YteikppbedmmdnaaGreatDoor
namespace PW
open Go.RowKit cj Mem Net eX
namespace GF
def GC(T:ah)(own:List Bool)(n d:Int)(a:Nat):List Bool:=
 if Hn T (orM T (cA T (ke T a d).1 (ke T a d).2) own) n d=0 then orM T (cA T (ke T a d).1 (ke T a d).2) own else own
def Jv(T:ah)(own:List Bool)(n d:Nat):kD:=match qh own (lh T [] n d)with
 |none=>⟨lh T [] n d,false,[]⟩
 |some a=>Ji T (GC T own n d a.toNat) n d
def I8(T:ah)(own:List Bool)(n d:Nat):Bool:=match qh own (lh T [] n d)with
 |none=>true
 |some a=>nI T (cA T 3 (gh T a.toNat))&&nI T (cA T 2 (aB T a.toNat))&&nI T (orM T (cA T (ke T a.toNat d).1 (ke T a.toNat d).2) own)&&nI T (GC T own n d a.toNat)
theorem rep{T:ah}{own:List Bool}{n d:Nat}(hv:au T=true)(h0:nI T []=true)(hd:(d:Int)<T.nodes)(h:I8 T own n d=true):Bq T own n d=Jv T own n d:=by
 unfold Bq Jv
 unfold I8 at h
 rw[next hv h0 hd]
 cases hh:qh own (lh T [] n d)with
 |none=>rfl
 |some a=>
  rw[hh]at h
  simp only[Bool.and_eq_true]at h
  obtain⟨⟨⟨h1,h2⟩,h3⟩,h4⟩:=h
  have hm:zY T own n d a.toNat=GC T own n d a.toNat:=by
   unfold zY GC mU
   rw[LN hv h1 h2,KJ hv h3]
   by_cases e:Hn T (orM T (cA T (ke T a.toNat (d:Int)).1 (ke T a.toNat (d:Int)).2) own) n d=0
   ·rw[if_pos (by simpa using e),if_pos e]
   ·rw[if_neg (by simpa using e),if_neg e]
  simp only[]
  rw[hm,GM hv h0 h4]
def Ii(T:ah)(M:List Bool)(n:Nat):eN:=⟨n,(List.range T.nodes.toNat).map fun d=>Jv T (xg T M n) n d,fX M (bW T n)⟩
theorem Jd{T:ah}{M:List Bool}{n:Nat}(hv:au T=true)(h0:nI T []=true)(h:((List.range T.nodes.toNat).all fun d=>I8 T (xg T M n) n d)=true):Bi T M n=Ii T M n:=by
 have hN:=(aM hv).nodes
 unfold Bi Ii ve
 congr 1
 refine List.map_congr_left fun d hd=>?_
 have hd':=List.mem_range.1 hd
 exact rep hv h0 (by omega) (List.all_eq_true.1 h d hd)
end GF
def Ir:eN:=⟨0,[⟨[],false,[]⟩,⟨[7],true,[⟨1,3⟩,⟨1,2⟩,⟨1,1⟩]⟩,⟨[7],true,[⟨1,3⟩,⟨1,2⟩]⟩,⟨[7],false,[]⟩],[0]⟩
end PW
end Go.Proofs.YteikppbedmmdnaaGreatDoor
namespace Go.Proofs.YteikppbedmmdnaaGreatDoor
namespace PW
section
open Go.RowKit cj Mem Net Go.WideShapes
section
variable {H:Type} {enc:TypeId×Value→H} {W:World}
end
end
section
open Go.RowKit cj Mem Net eX
def JL(T:ah)(k x k' x':Int)(m:Nat):Bool:=(List.range m).all fun a=> !dj k x T.ae (a / 2)||dj k' x' T.ae (a / 2)
def J2(T:ah)(k x k' x':Int):Bool:=JL T k x k' x' (2*T.ae.length)
open Go.Shelf
attribute [local go_sem] Oper.semAt_some
end
section
open Go.RowKit cj Mem Net eX
abbrev KO(p:Int×Int):Value:=.agg (pS p)
def C9(T:ah)(k x:Int)(l:List ((Int×Int)×PV)):Prop:=∀c v,(c,v)∈l→v=flag (J2 T k x c.1 c.2)
theorem C9.pure{T:ah}{k x:Int}{l:List ((Int×Int)×PV)}(h:C9 T k x l):aI ((eA KO l).map (·.2)):=⟨fun i u hu=>by
 have hm:=List.mem_of_getElem? hu
 simp only[eA,List.map_map,List.mem_map]at hm
 obtain⟨a,ha,rfl⟩:=hm
 have:=h a.1 a.2 ha
 show IsPure a.2
 rw[this]
 infer_instance⟩
theorem C9.set{T:ah}{k x:Int}{l:List ((Int×Int)×PV)}(h:C9 T k x l)(c:Int×Int):C9 T k x (gJ c (flag (J2 T k x c.1 c.2)) l):=fun c' v hm=>by
 rcases rQ hm with e|e
 ·cases e;rfl
 ·exact h c' v e
section
variable {T:ah}
theorem Ch.last{D:List Bool}{d n:Nat}{p:List Int}(h:Ch T D d n p):n≠d→∃a,a<2*T.ae.length∧bF D a=false∧aB T a=(d:Int):=by
 induction h with
 |nil=>intro h;exact absurd rfl h
 | @cons n a m p h1 h2 h3 h4 _ _ ih=>
  intro _
  by_cases e:m=d
  ·subst e;exact⟨a,h1,h3,h4⟩
  ·exact ih e
end
section
variable {T:ah} {M D:List Bool} {n d:Nat}
theorem BV{x:eN}{d:Nat}{e:kD}(h:x.eO[d]? =some e):ei x (d:Int)=e:=by
 unfold ei
 rw[Int.toNat_natCast]
 exact mq _ _ _ h
theorem tK(hd:(d:Int)<T.nodes):ei (dW T D n) (d:Int)=⟨bz T D n d,false,[]⟩:=BV (HB (by omega))
noncomputable def Lj(T:ah)(M:List Bool)(s:Int)(n:Nat):eN:=if s=0 then dW T [] n else if s=1 then Bi T M n else if s=2 then Lb T M n else dW T M n
theorem HC{E:List Bool}{a:Nat}{l:List Int}(h:(a:Int)∈fX E l):bF E a=true:=by
 have:=(List.mem_filter.1 h).2
 rwa [Int.toNat_natCast]at this
theorem wv(hv:au T=true)(hn:(n:Int)<T.nodes){E:List Bool}(hf:bR T E=true)(hE:∀a,bF D a=false→bF E a=false):KB T D n (dW T E n) where
 ok:=kP hv hn
 node:=rfl
 down:=fun a ha=>by
  have:=HC ha
  cases h:bF D a with
  |true=>rfl
  |false=>rw[hE a h]at this;cases this
 K8:=fun y p hs=>by
  rw[tK hs.hy]
  exact⟨(hs.JY hf hE).GM.2.1,fun h=>by cases h⟩
end
section
variable {T:ah} {k x:Int} {d:Nat}
def Gn(k x:Int)(n:Nat):Prop:=k=2∧x=(n:Int)
structure Open (T:ah) (k x:Int) (d n:Nat) (s:List cr):Prop where
 nil:s=[]
 node:(n:Int)<T.nodes
 here:¬Gn k x n
 reach:0≤dN T (cA T k x) d n
structure Et (T:ah) (k x:Int) (d n:Nat) (s:List cr) (q:List Int):Prop where
 I6:∃D,(∀a,bF D a=false→bF (cA T k x) a=false)∧Io T D d n (nf ⟨1,(n:Int)⟩ s) q
 node:(n:Int)<T.nodes
 here:¬Gn k x n
 len:s.length≤32
theorem Hj(hv:au T=true){a m:Nat}(ha:a<2*T.ae.length)(hm:aB T a=(m:Int)):(m:Int)<T.nodes:=by rw[←hm];exact((aM hv).head a ha).2
theorem vX(hv:au T=true)(hd:(d:Int)<T.nodes){n:Nat}(hn:(n:Int)<T.nodes)(hne:n≠d){E:List Bool}(hr:0≤dN T E d n){t:eN}(hok:fA T t=true)(htn:t.node=(n:Int))(he:ei t (d:Int)=⟨bz T E n d,false,[]⟩){p:gg}(hp:p.dst=(d:Int))(hh:p.gS=0)(hs:p.stack=[]):
  bz T E n d≠[]∧gG T t p=gV p [] (bz T E n d):=by
 obtain⟨j,hj⟩:=kC (D:=E) hv hn hd hne hr
 have hm:=fN hj ((aM hv).cost j hj.iu).1
 have hpos:0<(bz T E n d).length:=List.length_pos_of_mem hm
 have hst:=Cy hok htn hd hne hp hh (by rw[hs];rfl) (by rw[hs];simp) (by rw[he];exact hpos) (by rw[he];simp)
 rw[he]at hst
 exact⟨fun e=>by rw[e]at hpos;exact absurd hpos (by simp),hst⟩
end
section
variable {T:ah} {k x:Int} {d:Nat}
noncomputable def jv(T:ah)(D:List Bool)(d n:Nat):Nat:=((List.range T.nodes.toNat).filter fun m=>decide (0≤dN T D d m)&&decide (dN T D d m<dN T D d n)).length
theorem qA{D:List Bool}{n:Nat}(hn:(n:Int)<T.nodes):jv T D d n<T.nodes.toNat:=by
 unfold jv
 have h:((List.range T.nodes.toNat).filter fun m=>decide (0≤dN T D d m)&&decide (dN T D d m<dN T D d n)).length<(List.range T.nodes.toNat).length:=by
  refine List.length_filter_lt_length_iff_exists.2 ⟨n,List.mem_range.2 (by omega),?_⟩
  simp
 simpa using h
theorem filter_lt{α:Type}{p q:α→Bool}{l:List α}{a:α}(hpq:∀b∈l,p b=true→q b=true)(ha:a∈l)(hp:p a=false)(hq:q a=true):(l.filter p).length<(l.filter q).length:=by
 have e:l.filter p=(l.filter q).filter p:=by
  rw[List.filter_filter]
  refine List.filter_congr fun b hb=>?_
  cases h:p b with
  |false=>simp
  |true=>simp[hpq b hb h]
 rw[e]
 exact List.length_filter_lt_length_iff_exists.2 ⟨a,List.mem_filter.2 ⟨ha,hq⟩,by rw[hp];simp⟩
theorem Eg{D:List Bool}{n m:Nat}(hm:(m:Int)<T.nodes)(h0:0≤dN T D d m)(h:dN T D d m<dN T D d n):jv T D d m<jv T D d n:=by
 unfold jv
 refine filter_lt (a:=m) (fun b _ hb=>?_) (List.mem_range.2 (by omega)) (by simp) (by simp[h0,h])
 simp only[Bool.and_eq_true,decide_eq_true_eq]at hb ⊢
 exact⟨hb.1,by omega⟩
def Way(T:ah)(k x:Int)(d:Nat)(late:Bool)(n:Nat)(s:List cr)(u:Nat):Prop:=
 (Open T k x d n s∧u=if late then T.nodes.toNat+jv T (cA T k x) d n else 2*T.nodes.toNat+jv T [] d n)∨∃q,Et T k x d n s q∧u=q.length∧q.length<T.nodes.toNat
theorem Way.on{n:Nat}{s:List cr}{u:Nat}(h:Way T k x d false n s u):∃u',u'≤u∧Way T k x d true n s u':=by
 rcases h with⟨h,rfl⟩|⟨q,h,rfl,hl⟩
 ·have h1:=qA (D:=cA T k x) (d:=d) h.node
  refine⟨T.nodes.toNat+jv T (cA T k x) d n,?_,.inl ⟨h,?_⟩⟩
  ·rw[if_neg (by simp)];omega
  ·rw[if_pos rfl]
 ·exact⟨_,Nat.le_refl _,.inr ⟨q,h,rfl,hl⟩⟩
end
end
section
open Go.RowKit cj Mem Net
def jX(s:List cr):Prop:=∀g∈s,0≤g.kind∧g.kind<100∧0≤g.num∧g.num<100
def Hg(g:cr):List UInt8:=32::(Lib.decDigits g.kind.toNat++58::Lib.decDigits g.num.toNat)
def dQ(n:Nat)(s:List cr):List UInt8:=Lib.decDigits n++s.flatMap Hg
def Fy(c:UInt8):Prop:=48≤c.toNat∧c.toNat≤57
theorem mg{n:Nat}(h:n<100):∀c∈Lib.decDigits n,Fy c:=by
 intro c hc
 by_cases h1:n<10
 ·rw[Lib.decDigits_one h1,List.mem_singleton]at hc
  subst hc
  unfold Fy
  rw[UInt8.toNat_ofNat']
  omega
 ·rw[Lib.decDigits_two h1 h]at hc
  simp only[List.mem_cons,List.not_mem_nil,or_false]at hc
  rcases hc with rfl|rfl<;>(unfold Fy;rw[UInt8.toNat_ofNat'];omega)
theorem ofNat_inj{a b:Nat}(ha:a<256)(hb:b<256)(h:UInt8.ofNat a=UInt8.ofNat b):a=b:=by
 have:=congrArg UInt8.toNat h
 rw[UInt8.toNat_ofNat',UInt8.toNat_ofNat']at this
 omega
theorem uJ{m n:Nat}(hm:m<100)(hn:n<100)(h:Lib.decDigits m=Lib.decDigits n):m=n:=by
 by_cases h1:m<10<;>by_cases h2:n<10
 ·rw[Lib.decDigits_one h1,Lib.decDigits_one h2]at h
  have:=ofNat_inj (by omega) (by omega) (List.cons.inj h).1
  omega
 ·rw[Lib.decDigits_one h1,Lib.decDigits_two h2 hn]at h
  cases(List.cons.inj h).2
 ·rw[Lib.decDigits_two h1 hm,Lib.decDigits_one h2]at h
  cases(List.cons.inj h).2
 ·rw[Lib.decDigits_two h1 hm,Lib.decDigits_two h2 hn]at h
  have e1:=ofNat_inj (by omega) (by omega) (List.cons.inj h).1
  have e2:=ofNat_inj (by omega) (by omega) (List.cons.inj (List.cons.inj h).2).1
  omega
theorem kR{n:Nat}(h:n<100):(Lib.decDigits n).length≤2∧0<(Lib.decDigits n).length:=by
 by_cases h1:n<10
 ·rw[Lib.decDigits_one h1];simp
 ·rw[Lib.decDigits_two h1 h];simp
theorem mf:∀(A B X Y:List UInt8),(∀c∈A,Fy c)→(∀c∈B,Fy c)→(∀c Z,X=c::Z→¬Fy c)→(∀c Z,Y=c::Z→¬Fy c)→A++X=B++Y→A=B∧X=Y
 | [],[],X,Y,_,_,_,_,h=>⟨rfl,h⟩
 | [],b::B,X,Y,_,hB,hX,_,h=>absurd (hB b (by simp)) (hX b (B++Y) h)
 |a::A,[],X,Y,hA,_,_,hY,h=>absurd (hA a (by simp)) (hY a (A++X) h.symm)
 |a::A,b::B,X,Y,hA,hB,hX,hY,h=>by
  obtain⟨h1,h2⟩:=List.cons.inj h
  obtain⟨h3,h4⟩:=mf A B X Y (fun c hc=>hA c (by simp[hc])) (fun c hc=>hB c (by simp[hc])) hX hY h2
  exact⟨by rw[h1,h3],h4⟩
theorem ml{s:List cr}:∀c Z,s.flatMap Hg=c::Z→¬Fy c:=by
 intro c Z h
 cases s with
 |nil=>cases h
 |cons g s=>
  rw[List.flatMap_cons]at h
  have:=(List.cons.inj h).1
  subst this
  unfold Fy
  decide
theorem wQ:∀ {s s':List cr},jX s→jX s'→s.flatMap Hg=s'.flatMap Hg→s=s'
 | [],[],_,_,_=>rfl
 | [],g::s',_,_,h=>by rw[List.flatMap_cons]at h;cases h
 |g::s,[],_,_,h=>by rw[List.flatMap_cons]at h;cases h
 |g::s,g'::s',h1,h2,h=>by
  obtain⟨a1,a2,a3,a4⟩:=h1 g (by simp)
  obtain⟨b1,b2,b3,b4⟩:=h2 g' (by simp)
  rw[List.flatMap_cons,List.flatMap_cons]at h
  unfold Hg at h
  rw[List.cons_append,List.cons_append,List.append_assoc,List.append_assoc]at h
  obtain⟨e1,e2⟩:=mf _ _ _ _ (mg (by omega)) (mg (by omega)) (fun c Z h=>by rw[List.cons_append]at h;have:=(List.cons.inj h).1;subst this;unfold Fy;decide) (fun c Z h=>by rw[List.cons_append]at h;have:=(List.cons.inj h).1;subst this;unfold Fy;decide) (List.cons.inj h).2
  rw[List.cons_append,List.cons_append]at e2
  obtain⟨e3,e4⟩:=mf _ _ _ _ (mg (by omega)) (mg (by omega)) (ml (s:=s)) (ml (s:=s')) (List.cons.inj e2).2
  have k1:=uJ (by omega) (by omega) e1
  have k2:=uJ (by omega) (by omega) e3
  have k3:=wQ (fun x hx=>h1 x (by simp[hx])) (fun x hx=>h2 x (by simp[hx])) e4
  obtain⟨gk,gn⟩:=g
  obtain⟨gk',gn'⟩:=g'
  simp only at a1 b1 a3 b3 k1 k2
  rw[k3,show gk=gk' by omega,show gn=gn' by omega]
theorem Dt{n n':Nat}{s s':List cr}(hn:n<100)(hn':n'<100)(h1:jX s)(h2:jX s')(h:dQ n s=dQ n' s'):n=n'∧s=s':=by
 unfold dQ at h
 obtain⟨e1,e2⟩:=mf _ _ _ _ (mg hn) (mg hn') (ml (s:=s)) (ml (s:=s')) h
 exact⟨uJ hn hn' e1,wQ h1 h2 e2⟩
theorem Dq{s:List cr}(h:jX s):(s.flatMap Hg).length≤s.length*6:=by
 induction s with
 |nil=>simp
 |cons g s ih=>
  obtain⟨a1,a2,a3,a4⟩:=h g (by simp)
  have:=ih (fun x hx=>h x (by simp[hx]))
  have h1:=kR (n:=g.kind.toNat) (by omega)
  have h2:=kR (n:=g.num.toNat) (by omega)
  have h3:(Hg g).length=2+(Lib.decDigits g.kind.toNat).length+(Lib.decDigits g.num.toNat).length:=by
   unfold Hg
   simp only[List.length_cons,List.length_append]
   omega
  rw[List.flatMap_cons,List.length_append,h3,List.length_cons]
  omega
open eX
def gL(p:gg)(s:List cr):gg:=⟨p.id,p.src,p.dst,p.rf,s,0⟩
inductive Br (T:ah) (tb:Nat→eN) (p0:gg):Nat→List cr→List Int→Nat→Int→Prop
 |stop {n:Nat} {s:List cr}:(gG T (tb n) (gL p0 s)).av=[]→Br T tb p0 n s [] n (gG T (tb n) (gL p0 s)).jZ
 |go {n m e:Nat} {s:List cr} {a:Int} {p:List Int} {w:Int}:a∈(gG T (tb n) (gL p0 s)).av→aB T a.toNat=(m:Int)→Br T tb p0 m (gG T (tb n) (gL p0 s)).fe.stack p e w→Br T tb p0 n s (a::p) e w
section
variable {T:ah} {k x:Int} {d:Nat} {st:Nat→Int} {p0:gg}
noncomputable def LV(T:ah)(M:List Bool)(st:Nat→Int)(n:Nat):eN:=Lj T M (st n) n
end
section
variable {T:ah} {D D':List Bool} {k x:Int} {d:Nat} {st:Nat→Int} {p0:gg}
end
noncomputable def bT(T:ah)(tb:Nat→eN)(p0:gg)(n:Nat)(s:List cr):Out:=gG T (tb n) (gL p0 s)
structure nU (T:ah) (tb:Nat→eN) (p0:gg) (Φ:Nat→Nat→List cr→Prop):Prop where
 node:∀ {u n s},Φ u n s→(n:Int)<T.nodes
 small:∀ {u n s},Φ u n s→jX s∧s.length≤1000
 step:∀ {u n s},Φ u n s→(bT T tb p0 n s).av=[]∨((bT T tb p0 n s).av.length≤1000∧bT T tb p0 n s=gV (gL p0 s) (bT T tb p0 n s).fe.stack (bT T tb p0 n s).av∧
  ∀a∈(bT T tb p0 n s).av,∃b m:Nat,a=(b:Int)∧b<2*T.ae.length∧aB T b=(m:Int)∧∃u',u'<u∧Φ u' m (bT T tb p0 n s).fe.stack)
def JH(cs:List Int):Int:=cs.foldl (fun a c=>min (a+c) 1001) 0
def iY(av:List Int)(cs:List Int):Int:=if av=[] then 1 else JH cs
def dq(n:Nat)(o:Out)(vs:List PV)(c:Int):List PV:=[num n,num o.jZ,aw o.av,.slice vs.length vs,flag false,num c]
inductive Good (T:ah) (tb:Nat→eN) (p0:gg) (Φ:Nat→Nat→List cr→Prop):PV→Nat→List cr→Int→Prop
 |mk {n:Nat} {s:List cr} {vs:List PV} {cs:List Int} {u:Nat}:Φ u n s→vs.length=(bT T tb p0 n s).av.length→cs.length=(bT T tb p0 n s).av.length→
   (∀i,i<(bT T tb p0 n s).av.length→Good T tb p0 Φ (vs.getD i .any) (aB T ((bT T tb p0 n s).av.getD i 0).toNat).toNat (bT T tb p0 n s).fe.stack (cs.getD i 0))→
   Good T tb p0 Φ (.bg (dq n (bT T tb p0 n s) vs (iY (bT T tb p0 n s).av cs)) 0) n s (iY (bT T tb p0 n s).av cs)
theorem rR(cs:List Int)(c:Int):JH (cs++[c])=min (JH cs+c) 1001:=by simp[JH]
section
variable {T:ah} {tb:Nat→eN} {p0:gg} {Φ:Nat→Nat→List cr→Prop}
theorem mj:∀(cs:List Int) (b:Int),0≤b→b≤1001→(∀c∈cs,0≤c)→0≤cs.foldl (fun a c=>min (a+c) 1001) b∧cs.foldl (fun a c=>min (a+c) 1001) b≤1001
 | [],b,h1,h2,_=>⟨h1,h2⟩
 |c::cs,b,h1,h2,h3=>by
  have:=h3 c (by simp)
  exact mj cs (min (b+c) 1001) (by omega) (by omega) (fun x hx=>h3 x (by simp[hx]))
theorem Good.bound{v:PV}{n:Nat}{s:List cr}{c:Int}(h:Good T tb p0 Φ v n s c):0≤c∧c≤1001:=by
 induction h with
 | @mk n s vs cs u _ _ h2 _ ih=>
  unfold iY
  split
  ·omega
  ·refine mj cs 0 (by omega) (by omega) fun c hc=>?_
   obtain⟨i,hi⟩:=List.getElem?_of_mem hc
   have hlt:=(List.getElem?_eq_some_iff.1 hi).1
   have:=(ih i (by rw[←h2];exact hlt)).1
   rw[List.getD_eq_getElem?_getD,hi]at this
   exact this
theorem Good.state{v:PV}{n:Nat}{s:List cr}{c:Int}(h:Good T tb p0 Φ v n s c):∃u,Φ u n s:=by
 cases h with
 |mk h _ _ _=>exact⟨_,h⟩
theorem Good.pure{v:PV}{n:Nat}{s:List cr}{c:Int}(h:Good T tb p0 Φ v n s c):IsPure v:=by
 induction h with
 | @mk n s vs cs u _ h1 _ _ ih=>
  haveI:aI vs:=⟨fun i x hx=>by
   have hlt:=(List.getElem?_eq_some_iff.1 hx).1
   have:=ih i (by rw[←h1];exact hlt)
   rw[List.getD_eq_getElem?_getD,hx]at this
   exact this⟩
  unfold dq
  infer_instance
theorem Good.parts{v:PV}{n:Nat}{s:List cr}{c:Int}(h:Good T tb p0 Φ v n s c):∃vs cs,v= .bg (dq n (bT T tb p0 n s) vs c) 0∧vs.length=(bT T tb p0 n s).av.length∧cs.length=(bT T tb p0 n s).av.length∧c=iY (bT T tb p0 n s).av cs∧
  ∀i,i<(bT T tb p0 n s).av.length→Good T tb p0 Φ (vs.getD i .any) (aB T ((bT T tb p0 n s).av.getD i 0).toNat).toNat (bT T tb p0 n s).fe.stack (cs.getD i 0):=by
 cases h with
 | @mk _ _ vs cs u h1 h2 h3 h4=>exact⟨vs,cs,rfl,h2,h3,rfl,h4⟩
inductive G5 (T:ah) (tb:Nat→eN) (p0:gg):Nat→List cr→Nat→List cr→Prop
 |one {n m:Nat} {s:List cr} {a:Int}:a∈(bT T tb p0 n s).av→aB T a.toNat=(m:Int)→G5 T tb p0 n s m (bT T tb p0 n s).fe.stack
 |more {n m:Nat} {s:List cr} {a:Int} {n':Nat} {s':List cr}:G5 T tb p0 n' s' n s→a∈(bT T tb p0 n s).av→aB T a.toNat=(m:Int)→G5 T tb p0 n' s' m (bT T tb p0 n s).fe.stack
theorem nU.one(R:nU T tb p0 Φ){u n m:Nat}{s:List cr}{a:Int}(h:Φ u n s)(ha:a∈(bT T tb p0 n s).av)(hm:aB T a.toNat=(m:Int)):∃u',u'<u∧Φ u' m (bT T tb p0 n s).fe.stack:=by
 rcases R.step h with h0|⟨_,_,h2⟩
 ·rw[h0]at ha;cases ha
 ·obtain⟨b,m',rfl,_,h3,u',h4,h5⟩:=h2 a ha
  rw[Int.toNat_natCast,h3]at hm
  have:m'=m:=by omega
  subst this
  exact⟨u',h4,h5⟩
theorem nU.LB(R:nU T tb p0 Φ){n m:Nat}{s s':List cr}(h:G5 T tb p0 n s m s'):∀ {u:Nat},Φ u n s→∃u',u'<u∧Φ u' m s':=by
 induction h with
 |one ha hm=>intro u hu;exact R.one hu ha hm
 |more _ ha hm ih=>
  intro u hu
  obtain⟨u1,h1,h2⟩:=ih hu
  obtain⟨u2,h3,h4⟩:=R.one h2 ha hm
  exact⟨u2,by omega,h4⟩
theorem nU.E0(R:nU T tb p0 Φ){n:Nat}{s:List cr}(h:G5 T tb p0 n s n s):∀ {u:Nat},Φ u n s→False:=by
 intro u
 induction u using Nat.strongRecOn with
 |_ u ih=>
  intro hu
  obtain⟨u',h1,h2⟩:=R.LB h hu
  exact ih u' h1 h2
end
end
section
open Go.RowKit cj Mem
inductive C7 (i:Nat):cK→PV→PV→Prop
 |same {blk:cK} (p:PV):C7 i blk p p
 |ptr {ty:TypeId} {xs:List PV} (off:Nat):C7 i (.cells ty xs) (.ptr i off) (.bg xs off)
 |own {e s n:Nat} {xs:List PV}:C7 i (.row e s n xs) (.own i) (.slice n xs)
def kU(i:Nat)(blk:cK)(xs ys:List PV):Prop:=ys.length=xs.length∧∀(j:Nat) x y,xs[j]? =some x→ys[j]? =some y→C7 i blk x y
theorem kU.nil{i:Nat}{blk:cK}:kU i blk [] []:=⟨rfl,fun j x y h=>by simp at h⟩
theorem kU.cons{i:Nat}{blk:cK}{x y:PV}{xs ys:List PV}(h:C7 i blk x y)(hs:kU i blk xs ys):kU i blk (x::xs) (y::ys):=⟨by simp[hs.1],fun j a b h1 h2=>by
 cases j with
 |zero=>simp at h1 h2;subst h1;subst h2;exact h
 |succ j=>exact hs.2 j a b (by simpa using h1) (by simpa using h2)⟩
theorem kU.refl{i:Nat}{blk:cK}(xs:List PV):kU i blk xs xs:=⟨rfl,fun j x y h1 h2=>by rw[h1]at h2;cases h2;exact .same _⟩
inductive vh (i:Nat) (blk:cK):cK→cK→Prop
 |same (b:cK):vh i blk b b
 |cells {ty:TypeId} {xs ys:List PV}:kU i blk xs ys→vh i blk (.cells ty xs) (.cells ty ys)
 |row {e s n:Nat} {xs ys:List PV}:kU i blk xs ys→vh i blk (.row e s n xs) (.row e s n ys)
 |mp {kv kv':List (Value×PV)}:kv'.map (·.1)=kv.map (·.1)→kU i blk (kv.map (·.2)) (kv'.map (·.2))→vh i blk (.mp kv) (.mp kv')
def Cz(i:Nat)(blk:cK)(σ σ':bN):Prop:=σ'.length=σ.length∧(σ'[i]? =some none)∧∀j,j≠i→(σ'[j]? =σ[j]? ∨∃b b',σ[j]? =some (some b)∧σ'[j]? =some (some b')∧vh i blk b b')
inductive zQ (i:Nat) (blk:cK) (t:b9):b9→Prop
 |nil:zQ i blk t []
 |cons {t':b9} (k:Nat) {p q:PV}:look k t=some p→C7 i blk p q→zQ i blk t t'→zQ i blk t ((k,q)::t')
theorem zQ.get{i:Nat}{blk:cK}{t t':b9}(h:zQ i blk t t'):∀k q,look k t'=some q→∃p,look k t=some p∧C7 i blk p q:=by
 induction h with
 |nil=>intro k q h;cases h
 |cons k h1 h2 _ ih=>
  intro j q hj
  simp only[look]at hj
  rw[Bool.cond_eq_ite]at hj
  split at hj
  ·rename_i he
   have:=Nat.eq_of_beq_eq_true he
   subst this
   cases hj
   exact⟨_,h1,h2⟩
  ·exact ih j q hj
section
variable {P:Program} {N L:Nat} {F:Nat→Prop} {base:Nat} {σ σ':bN} {E:Env} {w:World}
theorem C7.rep(hS:Sat F base σ E w){i:Nat}{blk:cK}(hi:σ[i]? =some (some blk)){p q:PV}(h:C7 i blk p q):∀v,cu E w v p→cu (E.kill i) w v q:=by
 obtain⟨_,g⟩:=hS.kill i hi
 intro v hv
 cases h with
 |same _=>exact hv.goes g
 |own=>exact hS.seal hi hv
 | @ptr ty xs off=>
  obtain⟨b,cs,h1,h2,h3,h4⟩:=hS.blk i _ hi
  cases hv with
  |ptr _ _ b' hi' h=>
   have hb:b'=b:=by
    rcases h with h|⟨n,c,h⟩<;>rw[h1]at h<;>cases h
    rfl
   subst hb
   have:=cu.bg (E:=E.kill i) (w:=w) b' 0 off cs.toList xs (Array.getElem?_eq_some_iff.1 h3).1 (fun hM=>hM.2 (by rw[h1];rfl)) (fun j x hx=>by rw[Nat.zero_add];unfold World.cell?;simp only[h3];simpa using hx) h4.1 (fun j x u k1 k2=>(h4.2 j x u k1 k2).goes g)
   rw[Nat.zero_add]at this
   exact this
theorem kU.rep(hS:Sat F base σ E w){i:Nat}{blk:cK}(hi:σ[i]? =some (some blk)){xs ys:List PV}(h:kU i blk xs ys){cs:List Value}(hs:aV E w cs xs):aV (E.kill i) w cs ys:=
 ⟨hs.1.trans h.1.symm,fun j x u k1 k2=>by
  have hj:j<xs.length:=by rw[←h.1];exact(List.getElem?_eq_some_iff.1 k2).1
  exact(h.2 j xs[j] u (by simp[hj]) k2).rep hS hi x (hs.2 j x _ k1 (by simp[hj]))⟩
theorem vh.sat(hS:Sat F base σ E w){i:Nat}{blk:cK}(hi:σ[i]? =some (some blk)){b b':cK}(h:vh i blk b b'){v:Value}(hb:fF base E w v b):fF base (E.kill i) w v b':=by
 obtain⟨_,g⟩:=hS.kill i hi
 cases h with
 |same _=>exact hb.goes g (fun _ _=>rfl)
 |cells hl=>
  obtain⟨b',cs,h1,h2,h3,h4⟩:=hb
  exact⟨b',cs,h1,h2,h3,hl.rep hS hi h4⟩
 |row hl=>
  obtain⟨cs,h1,h2⟩:=hb
  exact⟨cs,h1,hl.rep hS hi h2⟩
 |mp hk hl=>
  obtain⟨r,es,ck,h1,h2,h3,h4,h5⟩:=hb
  exact⟨r,es,ck,h1,h2,h3,h4.trans hk.symm,hl.rep hS hi h5⟩
theorem s7{i:Nat}{blk:cK}(hi:σ[i]? =some (some blk))(h:Cz i blk σ σ'){j:Nat}{b':cK}(hj:σ'[j]? =some (some b')):j≠i∧∃b,σ[j]? =some (some b)∧vh i blk b b':=by
 have hne:j≠i:=fun e=>by subst e;rw[h.2.1]at hj;cases hj
 refine⟨hne,?_⟩
 rcases h.2.2 j hne with h|⟨b,b2,h1,h2,h3⟩
 ·rw[h]at hj;exact⟨b',hj,.same _⟩
 ·rw[h2]at hj;cases hj;exact⟨b,h1,h3⟩
theorem Sat.Lp(hS:Sat F base σ E w){i:Nat}{blk:cK}(hi:σ[i]? =some (some blk))(h:Cz i blk σ σ'):Sat F base σ' (E.kill i) w:=by
 obtain⟨h1,g⟩:=hS.kill i hi
 have key:∀ {j:Nat} {b':cK},σ'[j]? =some (some b')→∃b,(σ.set i none)[j]? =some (some b):=fun {j b'} hj=>by
  obtain⟨hne,b,hb,_⟩:=s7 hi h hj
  exact⟨b,by rw[List.getElem?_set,if_neg (Ne.symm hne)];exact hb⟩
 refine⟨h1.bl,fun b hb=>⟨(h1.fb b hb).1,fun j bl hj=>?_⟩,?_,fun b=>?_,fun j bl hj=>?_,fun j k bj bk b hj hk e1 e2=>?_,h1.gl⟩
 ·obtain⟨b2,hb2⟩:=key hj;exact(h1.fb b hb).2 j b2 hb2
 ·rw[h1.len,h.1,List.length_set]
 ·constructor
  ·intro hM
   rcases(h1.mm b).1 hM with hf|⟨j,bl,h3,h4⟩
   ·exact .inl hf
   ·obtain⟨hne,h5⟩:=ir h3
    rcases h.2.2 j hne with h6|⟨b1,b2,_,h7,_⟩
    ·exact .inr ⟨j,bl,by rw[h6];exact h5,h4⟩
    ·exact .inr ⟨j,b2,h7,h4⟩
  ·rintro(hf|⟨j,bl,h3,h4⟩)
   ·exact(h1.mm b).2 (.inl hf)
   ·obtain⟨b2,hb2⟩:=key h3;exact(h1.mm b).2 (.inr ⟨j,b2,hb2,h4⟩)
 ·obtain⟨_,b,hb,hf⟩:=s7 hi h hj
  exact hf.sat hS hi (hS.blk j b hb)
 ·obtain⟨b1,hb1⟩:=key hj
  obtain⟨b2,hb2⟩:=key hk
  exact h1.inj j k b1 b2 b hb1 hb2 e1 e2
theorem xD{c:Code}{t t':b9}{Q:Exit→St→Prop}(i:Nat){blk:cK}(hi:σ[i]? =some (some blk))(hσ:Cz i blk σ σ')(ht:zQ i blk t t')(h:W P N L c ⟨t',σ'⟩ Q):W P N L c ⟨t,σ⟩ Q:=fun F base E₀ w₀ E a w hc hs=>by
 obtain⟨_,g⟩:=hs.sat.kill i hi
 refine h F base E₀ w₀ (E.kill i) a w (hc.on g (Below.refl _ _)) ⟨hs.sat.Lp hi hσ,fun k q hq=>?_,hs.jL,hs.size⟩
 obtain⟨p,h1,h2⟩:=ht.get k q hq
 exact h2.rep hs.sat hi _ (hs.tmp k p h1)
theorem IU{ops:Array Oper}{l:List Oper}{t t':b9}{K:St→Prop}(i:Nat){blk:cK}(hi:σ[i]? =some (some blk))(hσ:Cz i blk σ σ')(ht:zQ i blk t t')(h:WR P N L ops l ⟨t',σ'⟩ K):WR P N L ops l ⟨t,σ⟩ K:=by
 intro F base E₀ w₀ E a w hc hs Q j hQ hl
 obtain⟨_,g⟩:=hs.sat.kill i hi
 refine h F base E₀ w₀ (E.kill i) a w (hc.on g (Below.refl _ _)) ⟨hs.sat.Lp hi hσ,fun k q hq=>?_,hs.jL,hs.size⟩ Q j hQ hl
 obtain⟨p,h1,h2⟩:=ht.get k q hq
 exact h2.rep hs.sat hi _ (hs.tmp k p h1)
end
end
end PW
end Go.Proofs.YteikppbedmmdnaaGreatDoor
