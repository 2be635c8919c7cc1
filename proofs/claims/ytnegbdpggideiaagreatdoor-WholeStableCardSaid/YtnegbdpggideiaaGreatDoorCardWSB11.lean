/- Texts of the proof, part 11. -/
import Derived.RangeFuncBox
import Derived.Test.YtnegbdpggideiaaGreatDoorCardWSB10
set_option linter.unusedVariables false
set_option linter.unusedSimpArgs false
set_option maxRecDepth 10000
set_option maxHeartbeats 1000000
namespace Go.Proofs.YtnegbdpggideiaaGreatDoor
namespace PW
open Go.RowKit cA Mem Net eS
theorem AJ{P:Program}{N L:Nat}{id:Nat}{l:List Oper}{y:Code}{st:St}{Q:Exit→St→Prop}(t':bZ)(σ':cd)(t'':bZ)(σ'':cd)(hm:P.follows .mixedOrders=true)(h:WA P N L l.toArray l.length (Array.replicate l.length false) st (fun s=>(s.σ=σ'∧Sub s.t t')∨(s.σ=σ''∧Sub s.t t'')))(hr:W P N L y ⟨t',σ'⟩ Q→W P N L y ⟨t'',σ''⟩ Q)(hq:W P N L y ⟨t',σ'⟩ Q):W P N L (.seq (.region id l.toArray true) y) st Q:=
 nL hm (h.mono fun s hs=>by
  obtain⟨t,σ⟩:=s
  rcases hs with⟨h1,h2⟩|⟨h1,h2⟩
  ·subst h1;exact mg h2 hq
  ·subst h1;exact mg h2 (hr hq))
theorem xp(T:ai)(k x:Int):bX T (ik T k x)=true:=by
 unfold ik
 split
 ·exact fK T k x
 ·exact jC T
theorem B7(T:ai)(k x:Int)(n:Nat)(hv:ao T=true)(hn:(n:Int)<T.nodes):Can Tryz.prog 179 ([cu k x]++[.aV (bx T) 0,.aV [num n] 0]) (· =ax (bK T (ik T k x) n true)):=by
 have hmk:=jA T k x
 unfold iI at hmk
 have hfr:=Bq T (ik T k x) n
 have hch:cO T (ik T k x) [(n:Int)]=0:=by
  unfold cO
  rw[hv,xp]
  simp[aW.2 (show 0≤(n:Int)∧(n:Int)<T.nodes by omega)]
 rw[hch]at hfr
 unfold ep at hfr
 rw[if_pos rfl,Int.toNat_natCast]at hfr
 exact aF Tryz.func179 rfl Tryz.ntmps179 rfl<|ab (.a 2 rfl<|.k [1,2,3] rfl)<|ab (.a 2 rfl<|.c rfl (hmk) rfl<|.a 5 rfl<|.k [1,2,5] rfl)<|ab (.a 3 rfl<|.c rfl (hfr) rfl<|.a 5 rfl<|.k [7] rfl)<|ab (.a 2 rfl<|.k [4] rfl)<|aq<|⟨_,_,aA.of rfl,aB.pure,rfl⟩
theorem CF(g:Int)(L:List Int)(d:Nat)(c2:Bool)(hL:0<g→d<L.length∧decide (0≤L.getD d 0)=c2):Can Tryz.prog 181 ([num d]++[.aV (cj 3 g) 0,.aV [ax L] 0]) (· = .tuple [cu 3 g,flag (decide (0<g)&&c2)]):=by
 obtain⟨c1,hc1⟩:∃q,decide (0<g)=q:=⟨_,rfl⟩
 rw[hc1]
 refine aF Tryz.func181 rfl Tryz.ntmps181 rfl<|aQ<|au 2 rfl<|aH [0,1,2,4] rfl ?_
 refine qn (Q1:=fun st=>st=⟨[(4,.ptr 0 0),(5,flag (c1&&c2))],[some (.cells 33 (cj 3 g))]⟩) ?_ ?_
 ·cases c1
  ·refine u4 20 1 ([some (.cells 33 [num 0,num 0])]::[some (.cells 33 (cj 3 g))]::[]) (⟨_,none,0,0⟩::⟨_,none,0,0⟩::⟨_,none,0,0⟩::⟨_,none,0,0⟩::⟨_,none,0,0⟩::⟨_,none,0,1⟩::⟨_,none,0,1⟩::⟨_,none,0,1⟩::⟨_,none,0,1⟩::⟨_,none,0,1⟩::⟨_,none,0,1⟩::⟨_,some 0,0,0⟩::⟨_,none,1,1⟩::[]) _ mixed ?grd1 rfl rfl rfl rfl (.cons (.val [1] rfl rfl (yz (eQ (bF rfl) gh)) rfl rfl)<|.cons (.val [1] rfl rfl (yz (eQ (bF rfl) gh)) rfl rfl)<|.cons (.val [7] rfl rfl (yz (eQ (bF rfl) gh)) rfl rfl)<|.cons (.val [8] rfl rfl (yz (eQ (cC rfl (hc1)) gh)) rfl rfl)<|.cons (.val [9] rfl rfl (yz (eQ (bF rfl) gh)) rfl rfl)<|.cons (.skip rfl rfl rfl)<|.cons (.skip rfl rfl rfl)<|.cons (.skip rfl rfl rfl)<|.cons (.skip rfl rfl rfl)<|.cons (.skip rfl rfl rfl)<|.cons (.val [10,15] rfl rfl (yz (eQ (bF rfl) (eQ (bF rfl) gh))) rfl rfl)<|.cons (.ow [4,6] rfl rfl rfl rfl (dF rfl) rfl)<|.cons (.val [16] rfl rfl (yz (eQ (bF rfl) gh)) rfl rfl) .nil) (bh (ks:=[4,5]) rfl) ?_
   case grd1=>kernel_rfl
   rfl
  ·refine u4 20 1 ([some (.cells 33 [num 0,num 0])]::[some (.cells 33 (cj 3 g))]::[]) (⟨_,none,0,0⟩::⟨_,none,0,0⟩::⟨_,none,0,0⟩::⟨_,none,0,0⟩::⟨_,none,0,0⟩::⟨_,none,0,1⟩::⟨_,none,0,1⟩::⟨_,none,0,1⟩::⟨_,none,0,1⟩::⟨_,none,0,1⟩::⟨_,none,0,1⟩::⟨_,some 0,0,0⟩::⟨_,none,1,1⟩::[]) _ mixed ?grd2 rfl rfl rfl rfl (.cons (.val [1] rfl rfl (yz (eQ (bF rfl) gh)) rfl rfl)<|.cons (.val [1] rfl rfl (yz (eQ (bF rfl) gh)) rfl rfl)<|.cons (.val [7] rfl rfl (yz (eQ (bF rfl) gh)) rfl rfl)<|.cons (.val [8] rfl rfl (yz (eQ (cC rfl (hc1)) gh)) rfl rfl)<|.cons (.val [9] rfl rfl (yz (eQ (bF rfl) gh)) rfl rfl)<|.cons (.val [2] rfl rfl (yz (eQ (bF rfl) (eQ (bF rfl) gh))) rfl rfl)<|.cons (.val [0] rfl rfl (yz (eQ (bF rfl) (eQ (bF rfl) gh))) rfl rfl)<|.cons (.val [11,12] rfl rfl (yz (eQ (aI (d) rfl (by omega) (by have:=(hL (tt hc1)).1;omega)) (eQ (aI (d) rfl (by omega) (by have:=(hL (tt hc1)).1;omega)) gh))) rfl rfl)<|.cons (.val [13] rfl rfl (yz (eQ (aL rfl (aD L d (hL (tt hc1)).1)) (eQ (aL rfl (aD L d (hL (tt hc1)).1)) gh))) rfl rfl)<|.cons (.val [14] rfl rfl (yz (eQ (cC rfl ((hL (tt hc1)).2)) (eQ (cC rfl ((hL (tt hc1)).2)) gh))) rfl rfl)<|.cons (.val [10,15] rfl rfl (yz (eQ (bF rfl) (eQ (bF rfl) gh))) rfl rfl)<|.cons (.ow [4,6] rfl rfl rfl rfl (dF rfl) rfl)<|.cons (.val [16] rfl rfl (yz (eQ (bF rfl) gh)) rfl rfl) .nil) (bh (ks:=[4,5]) rfl) ?_
   case grd2=>kernel_rfl
   rfl
 rintro _ rfl
 exact aq<|⟨_,_,aA.of rfl,aB.pure (p:=.tuple [cu 3 g,flag (c1&&c2)]),rfl⟩
theorem Dd(h:Int)(L:List Int)(d:Nat)(c2:Bool)(hd:d<L.length)(hL:decide (0≤L.getD d 0)=c2):Can Tryz.prog 182 ([num d]++[.aV (cj 2 h) 0,.aV [num h] 0,.aV [ax L] 0]) (· = .tuple [cu 2 h,flag (decide (h≠d)&&c2)]):=by
 obtain⟨c1,hc1⟩:∃q,decide ((d:Int)≠h)=q:=⟨_,rfl⟩
 have hc1':decide (h≠(d:Int))=c1:=by rw[←hc1];exact decide_eq_decide.2 ⟨fun e=>e.symm,fun e=>e.symm⟩
 rw[hc1']
 refine aF Tryz.func182 rfl Tryz.ntmps182 rfl<|aQ<|au 2 rfl<|aH [0,1,2,3,5] rfl ?_
 refine qn (Q1:=fun st=>st=⟨[(5,.ptr 0 0),(6,flag (c1&&c2))],[some (.cells 33 (cj 2 h))]⟩) ?_ ?_
 ·cases c1
  ·refine u4 20 1 ([some (.cells 33 [num 0,num 0])]::[some (.cells 33 (cj 2 h))]::[]) (⟨_,none,0,0⟩::⟨_,none,0,0⟩::⟨_,none,0,0⟩::⟨_,none,0,0⟩::⟨_,none,0,0⟩::⟨_,none,0,1⟩::⟨_,none,0,1⟩::⟨_,none,0,1⟩::⟨_,none,0,1⟩::⟨_,none,0,1⟩::⟨_,none,0,1⟩::⟨_,some 0,0,0⟩::⟨_,none,1,1⟩::[]) _ mixed ?grd3 rfl rfl rfl rfl (.cons (.val [1] rfl rfl (yz (eQ (bF rfl) gh)) rfl rfl)<|.cons (.val [0] rfl rfl (yz (eQ (bF rfl) gh)) rfl rfl)<|.cons (.val [2] rfl rfl (yz (eQ (bF rfl) gh)) rfl rfl)<|.cons (.val [8,9] rfl rfl (yz (eQ (cC rfl (hc1)) gh)) rfl rfl)<|.cons (.val [10] rfl rfl (yz (eQ (bF rfl) gh)) rfl rfl)<|.cons (.skip rfl rfl rfl)<|.cons (.skip rfl rfl rfl)<|.cons (.skip rfl rfl rfl)<|.cons (.skip rfl rfl rfl)<|.cons (.skip rfl rfl rfl)<|.cons (.val [11,16] rfl rfl (yz (eQ (bF rfl) (eQ (bF rfl) gh))) rfl rfl)<|.cons (.ow [5,7] rfl rfl rfl rfl (dF rfl) rfl)<|.cons (.val [17] rfl rfl (yz (eQ (bF rfl) gh)) rfl rfl) .nil) (bh (ks:=[5,6]) rfl) ?_
   case grd3=>kernel_rfl
   rfl
  ·refine u4 20 1 ([some (.cells 33 [num 0,num 0])]::[some (.cells 33 (cj 2 h))]::[]) (⟨_,none,0,0⟩::⟨_,none,0,0⟩::⟨_,none,0,0⟩::⟨_,none,0,0⟩::⟨_,none,0,0⟩::⟨_,none,0,1⟩::⟨_,none,0,1⟩::⟨_,none,0,1⟩::⟨_,none,0,1⟩::⟨_,none,0,1⟩::⟨_,none,0,1⟩::⟨_,some 0,0,0⟩::⟨_,none,1,1⟩::[]) _ mixed ?grd4 rfl rfl rfl rfl (.cons (.val [1] rfl rfl (yz (eQ (bF rfl) gh)) rfl rfl)<|.cons (.val [0] rfl rfl (yz (eQ (bF rfl) gh)) rfl rfl)<|.cons (.val [2] rfl rfl (yz (eQ (bF rfl) gh)) rfl rfl)<|.cons (.val [8,9] rfl rfl (yz (eQ (cC rfl (hc1)) gh)) rfl rfl)<|.cons (.val [10] rfl rfl (yz (eQ (bF rfl) gh)) rfl rfl)<|.cons (.val [3] rfl rfl (yz (eQ (bF rfl) (eQ (bF rfl) gh))) rfl rfl)<|.cons (.val [0] rfl rfl (yz (eQ (bF rfl) (eQ (bF rfl) gh))) rfl rfl)<|.cons (.val [12,13] rfl rfl (yz (eQ (aI (d) rfl) (eQ (aI (d) rfl) gh))) rfl rfl)<|.cons (.val [14] rfl rfl (yz (eQ (aL rfl (aD L d hd)) (eQ (aL rfl (aD L d hd)) gh))) rfl rfl)<|.cons (.val [15] rfl rfl (yz (eQ (cC rfl (hL)) (eQ (cC rfl (hL)) gh))) rfl rfl)<|.cons (.val [11,16] rfl rfl (yz (eQ (bF rfl) (eQ (bF rfl) gh))) rfl rfl)<|.cons (.ow [5,7] rfl rfl rfl rfl (dF rfl) rfl)<|.cons (.val [17] rfl rfl (yz (eQ (bF rfl) gh)) rfl rfl) .nil) (bh (ks:=[5,6]) rfl) ?_
   case grd4=>kernel_rfl
   rfl
 rintro _ rfl
 exact aq<|⟨_,_,aA.of rfl,aB.pure (p:=.tuple [cu 2 h,flag (c1&&c2)]),rfl⟩
def F2(g:Int)(L:List Int):PV:=.func 181 [.aV (cj 3 g) 0,.aV [ax L] 0]
def F3(h:Int)(L:List Int):PV:=.func 182 [.aV (cj 2 h) 0,.aV [num h] 0,.aV [ax L] 0]
def jt(g h k:Int)(L M:List Int):List PV:=[.aV [.slice 2 [F2 g L,F3 h M]] 0,.aV (cj 1 k) 0]
instance (g:Int) (L:List Int):IsPure (F2 g L):=by unfold F2;infer_instance
instance (g:Int) (L:List Int):IsPure (F3 g L):=by unfold F3;infer_instance
instance (g h k:Int) (L M:List Int):aG (jt g h k L M):=by unfold jt;infer_instance
theorem Cg(g h k:Int)(L M:List Int)(d:Nat)(c2 c4:Bool)(hL:0<g→d<L.length∧decide (0≤L.getD d 0)=c2)(hd:d<M.length)(hM:decide (0≤M.getD d 0)=c4):Can Tryz.prog 183 ([num d]++jt g h k L M) (· =if(decide (0<g)&&c2)=true then cu 3 g else if(decide (h≠d)&&c4)=true then cu 2 h else cu 1 k):=by
 have h2:=CF g L d c2 hL
 have h3:=Dd h M d c4 hd hM
 obtain⟨o1,ho1⟩:∃o,(decide (0<g)&&c2)=o:=⟨_,rfl⟩
 obtain⟨o2,ho2⟩:∃o,(decide (h≠(d:Int))&&c4)=o:=⟨_,rfl⟩
 rw[ho1]at h2 ⊢
 rw[ho2]at h3 ⊢
 have hrule:∀i,i<2→∃f cap,[F2 g L,F3 h M][i]? =some (.func f cap)∧enters Tryz.prog f=true∧aG ([num d]++cap)∧Can Tryz.prog f ([num d]++cap) (· = .tuple [if i=0 then cu 3 g else cu 2 h,flag (if i=0 then o1 else o2)]):=fun i hi=>by
  match i,hi with
  |0,_=>exact⟨_,_,rfl,by kernel_rfl,inferInstance,h2⟩
  |1,_=>exact⟨_,_,rfl,by kernel_rfl,inferInstance,h3⟩
 unfold jt
 refine aF Tryz.func183 rfl Tryz.ntmps183 rfl<|aQ<|au 1 rfl<|aH [0,1,2,4] rfl ?_
 refine aj<|ab (.a 3 rfl<|.k [0,2,4,9,10,11] rfl)<|av<|eZ [0,2,4,9,10,11] rfl<|bw (fun r s=>∃i,i≤2∧r=2 - i∧(1≤i→o1=false)∧(i=2→o2=false)∧s=⟨[(0,num d),(2,.aV (cj 1 k) 0),(4,.ptr 0 0),(9,.slice 2 [F2 g L,F3 h M]),(10,num 2),(11,num i)],[some (.cells 33 [num 0,num 0])]⟩) 2 ⟨0,by omega,by omega,fun h=>by omega,fun h=>by omega,rfl⟩ ?_
 rintro r s ⟨i,hi,rfl,hi1,hi2,rfl⟩
 refine ab (.a 1 rfl<|.k [0,2,4,9,10,11,12] rfl)<|aj<|ah rfl (fun h1=>?_) (fun h1=>?_)
 ·have hlt:i<2:=by have:=tt h1;omega
  obtain⟨f,cap,hf,hen,hpu,hcan⟩:=hrule i hlt
  obtain⟨kx,kn,hkx⟩:∃kx kn,(if i=0 then cu 3 g else cu 2 h)=cu kx kn:=by
   split
   ·exact⟨_,_,rfl⟩
   ·exact⟨_,_,rfl⟩
  obtain⟨o,ho⟩:∃o,(if i=0 then o1 else o2)=o:=⟨_,rfl⟩
  rw[ho,hkx]at hcan
  haveI:=hpu
  refine ak<|aj<|av<|ab (.v (aI (i) rfl) rfl<|.v (aL rfl (hf)) rfl<|.a 1 rfl<|.k [0,2,4,6,9,10,11] rfl)<|aQ<|au 2 rfl<|bz (qa rfl hen rfl rfl hcan) rfl<|au 6 rfl<|aH [0,2,4,7,8,9,10,11] rfl ?_
  refine ab (.a 1 rfl<|.k [0,2,4,7,9,10,11,21] rfl)<|ah rfl (fun h2=>?_) (fun h2=>?_)
  ·subst h2
   refine aQ<|au 2 rfl<|aH [4] rfl ?_
   refine aq<|⟨_,_,aA.of rfl,aB.pure (p:=cu kx kn),?_⟩
   rw[←hkx]
   by_cases e:i=0
   ·rw[if_pos e]at ho ⊢
    rw[if_pos ho]
   ·rw[if_neg e]at ho ⊢
    rw[if_neg (by rw[hi1 (by omega)];simp),if_pos ho]
  ·subst h2
   refine ak<|cU [0] (.c 0<|.c 2<|.c 4<|.c 9<|.c 10<|.c 11<|.nil) (.kept rfl (.cells az.pure)<|.nil) rfl rfl ?_
   refine ay (.v (aR rfl) rfl<|.a 1 rfl<|.k [0,2,4,9,10,11] rfl) ?_
   refine⟨2 - (i+1),by omega,i+1,by omega,rfl,fun _=>?_,fun e=>?_,rfl⟩
   ·by_cases e:i=0
    ·rw[if_pos e]at ho;exact ho
    ·exact hi1 (by omega)
   ·rw[if_neg (by omega)]at ho;exact ho
 ·have hie:i=2:=by have:=ff h1;omega
  subst hie
  rw[if_neg (by rw[hi1 (by omega)];simp),if_neg (by rw[hi2 rfl];simp)]
  refine bn<|aQ<|au 2 rfl<|aH [4] rfl ?_
  exact aq<|⟨_,_,aA.of rfl,aB.pure (p:=cu 1 k),rfl⟩
noncomputable def FV(T:ai)(a:Nat):List Int:=if 0<fM T a then bK T (ik T 3 (fM T a)) (bq T a).toNat true else []
noncomputable def F5(T:ai)(a:Nat):List Int:=bK T (ik T 2 (aS T a)) (bq T a).toNat true
set_option maxHeartbeats 4000000 in
theorem xP(T:ai)(a:Nat)(hv:ao T=true)(ha:a<2*T.af.length):Can Tryz.prog 155 [aP T,num a] (· = .func 183 (jt (fM T a) (aS T a) ((a / 2:Nat):Int) (FV T a) (F5 T a))):=by
 have hll:=bN hv
 have hi:a / 2<T.af.length:=by omega
 have hS:=aJ hv
 have htl:=iK T a ha
 have hhd:=fu T a ha (by omega)
 obtain⟨n,hn⟩:=Int.eq_ofNat_of_zero_le (hS.tail a ha).1
 have hnN:(n:Int)<T.nodes:=by rw[←hn];exact(hS.tail a ha).2
 have hL:FV T a=if 0<fM T a then bK T (ik T 3 (fM T a)) n true else []:=by unfold FV;rw[hn,Int.toNat_natCast]
 have hM:F5 T a=bK T (ik T 2 (aS T a)) n true:=by unfold F5;rw[hn,Int.toNat_natCast]
 rw[hn]at htl
 obtain⟨h,hh⟩:∃h,aS T a=h:=⟨_,rfl⟩
 obtain⟨g,hg⟩:∃g,fM T a=g:=⟨_,rfl⟩
 have hgl:(cr T.af (a / 2)).tX=g:=hg
 rw[hh]at hhd hM
 rw[hg]at hL
 rw[hL,hM,hh,hg]
 have h1:=fun k x=>B7 T k x n hv hnN
 obtain⟨c1,hc1⟩:∃q,decide (0<g)=q:=⟨_,rfl⟩
 refine aF Tryz.func155 rfl Tryz.ntmps155 rfl<|ab (.a 2 rfl<|.k [1,2] rfl)<|AJ ([(1,num a),(2,.aV (bx T) 0),(5,.ptr 0 0),(6,.ptr 1 0)]) ([some (.cells 3 [num n]),some (.cells 3 [num h])]) ([(1,num a),(2,.aV (bx T) 0),(5,.ptr 1 0),(6,.ptr 0 0)]) ([some (.cells 3 [num h]),some (.cells 3 [num n])]) mixed ?_ (fun hh=>cU [1,0] (.c 1<|.c 2<|.c 5<|.c 6<|.nil) (.kept rfl (.cells az.pure)<|.kept rfl (.cells az.pure)<|.nil) rfl rfl hh) ?_
 ·refine tD [[(1,num a),(2,.aV (bx T) 0),(14,aP T),(15,num a),(16,num n),(17,aP T),(18,num a),(19,num h)],[(1,num a),(2,.aV (bx T) 0),(5,.ptr 0 0),(14,aP T),(15,num a),(16,num n),(17,aP T),(18,num a),(19,num h)],[(1,num a),(2,.aV (bx T) 0),(6,.ptr 0 0),(14,aP T),(15,num a),(16,num n),(17,aP T),(18,num a),(19,num h)],[(1,num a),(2,.aV (bx T) 0),(5,.ptr 0 0),(6,.ptr 1 0),(14,aP T),(15,num a),(16,num n),(17,aP T),(18,num a),(19,num h)],[(1,num a),(2,.aV (bx T) 0),(5,.ptr 1 0),(6,.ptr 0 0),(14,aP T),(15,num a),(16,num n),(17,aP T),(18,num a),(19,num h)]] [[],[some (.cells 3 [num n]),some (.cells 3 [num h])],[some (.cells 3 [num n]),some (.cells 3 [num 0])],[some (.cells 3 [num 0]),some (.cells 3 [num 0])],[some (.cells 3 [num 0])],[some (.cells 3 [num h]),some (.cells 3 [num n])],[some (.cells 3 [num 0]),some (.cells 3 [num n])]] [1,2] rfl (by kernel_rfl) (fun M hi ho=>?_)
  have μ0:M 0 1023 3 [1,2,5,6] 1:=hi<|qz rfl (by kernel_rfl) (.inl ⟨rfl,bh (ks:=[1,2,5,6]) rfl⟩)
  have μ1:M 1 511 3 [1,2,5,6,19] 2:=hi<|aa [(9,1023)] rfl (by kernel_rfl)<|nR rfl rfl (dF rfl) rfl rfl (ho μ0) rfl rfl ae
  have μ2:M 2 255 3 [1,2,5,6,16,19] 3:=hi<|aa [(8,511)] rfl (by kernel_rfl)<|nR rfl rfl (dF rfl) rfl rfl (ho μ1) rfl rfl ae
  have μ3:M 3 127 1 [1,2,5,16,19] 4:=hi<|aa [(7,255)] rfl (by kernel_rfl)<|bY rfl rfl (dF rfl) rfl (ho μ2) rfl rfl ae
  have μ4:M 0 1023 4 [1,2,5,6] 5:=hi<|qz rfl (by kernel_rfl) (.inr ⟨rfl,bh (ks:=[1,2,5,6]) rfl⟩)
  have μ5:M 1 511 4 [1,2,5,6,19] 6:=hi<|aa [(9,1023)] rfl (by kernel_rfl)<|nR rfl rfl (dF rfl) rfl rfl (ho μ4) rfl rfl ae
  have μ6:M 2 255 4 [1,2,5,6,16,19] 3:=hi<|aa [(8,511)] rfl (by kernel_rfl)<|nR rfl rfl (dF rfl) rfl rfl (ho μ5) rfl rfl ae
  have μ7:M 3 191 2 [1,2,6,16,19] 4:=hi<|aa [(6,255)] rfl (by kernel_rfl)<|bY rfl rfl (dF rfl) rfl (ho μ6) rfl rfl ae
  have μ8:M 4 63 0 [1,2,16,19] 0:=hi<|aa [(6,127),(7,191)] rfl (by kernel_rfl)<|bY rfl rfl (dF rfl) rfl (ho μ3) rfl rfl<|bY rfl rfl (dF rfl) rfl (ho μ7) rfl rfl ae
  have μ9:M 3 223 3 [1,2,5,6,16,17,18] 3:=hi<|aa [(5,255)] rfl (by kernel_rfl)<|bc rfl rfl (fm rfl (hhd)) rfl (ho μ2) rfl rfl ae
  have μ10:M 4 95 1 [1,2,5,16,17,18] 4:=hi<|aa [(5,127),(7,223)] rfl (by kernel_rfl)<|bc rfl rfl (fm rfl (hhd)) rfl (ho μ3) rfl rfl<|bY rfl rfl (dF rfl) rfl (ho μ9) rfl rfl ae
  have μ11:M 3 223 4 [1,2,5,6,16,17,18] 3:=hi<|aa [(5,255)] rfl (by kernel_rfl)<|bc rfl rfl (fm rfl (hhd)) rfl (ho μ6) rfl rfl ae
  have μ12:M 4 159 2 [1,2,6,16,17,18] 4:=hi<|aa [(5,191),(6,223)] rfl (by kernel_rfl)<|bc rfl rfl (fm rfl (hhd)) rfl (ho μ7) rfl rfl<|bY rfl rfl (dF rfl) rfl (ho μ11) rfl rfl ae
  have μ13:M 5 31 0 [1,2,16,17,18] 0:=hi<|aa [(5,63),(6,95),(7,159)] rfl (by kernel_rfl)<|bc rfl rfl (fm rfl (hhd)) rfl (ho μ8) rfl rfl<|bY rfl rfl (dF rfl) rfl (ho μ10) rfl rfl<|bY rfl rfl (dF rfl) rfl (ho μ12) rfl rfl ae
  have μ14:M 4 207 3 [1,2,5,6,16,17] 3:=hi<|aa [(4,223)] rfl (by kernel_rfl)<|ag (ho μ9) rfl rfl ae
  have μ15:M 5 79 1 [1,2,5,16,17] 4:=hi<|aa [(4,95),(7,207)] rfl (by kernel_rfl)<|ag (ho μ10) rfl rfl<|bY rfl rfl (dF rfl) rfl (ho μ14) rfl rfl ae
  have μ16:M 4 207 4 [1,2,5,6,16,17] 3:=hi<|aa [(4,223)] rfl (by kernel_rfl)<|ag (ho μ11) rfl rfl ae
  have μ17:M 5 143 2 [1,2,6,16,17] 4:=hi<|aa [(4,159),(6,207)] rfl (by kernel_rfl)<|ag (ho μ12) rfl rfl<|bY rfl rfl (dF rfl) rfl (ho μ16) rfl rfl ae
  have μ18:M 6 15 0 [1,2,16,17] 0:=hi<|aa [(4,31),(6,79),(7,143)] rfl (by kernel_rfl)<|ag (ho μ13) rfl rfl<|bY rfl rfl (dF rfl) rfl (ho μ15) rfl rfl<|bY rfl rfl (dF rfl) rfl (ho μ17) rfl rfl ae
  have μ19:M 4 215 3 [1,2,5,6,16,18] 3:=hi<|aa [(3,223)] rfl (by kernel_rfl)<|ag (ho μ9) rfl rfl ae
  have μ20:M 5 87 1 [1,2,5,16,18] 4:=hi<|aa [(3,95),(7,215)] rfl (by kernel_rfl)<|ag (ho μ10) rfl rfl<|bY rfl rfl (dF rfl) rfl (ho μ19) rfl rfl ae
  have μ21:M 4 215 4 [1,2,5,6,16,18] 3:=hi<|aa [(3,223)] rfl (by kernel_rfl)<|ag (ho μ11) rfl rfl ae
  have μ22:M 5 151 2 [1,2,6,16,18] 4:=hi<|aa [(3,159),(6,215)] rfl (by kernel_rfl)<|ag (ho μ12) rfl rfl<|bY rfl rfl (dF rfl) rfl (ho μ21) rfl rfl ae
  have μ23:M 6 23 0 [1,2,16,18] 0:=hi<|aa [(3,31),(6,87),(7,151)] rfl (by kernel_rfl)<|ag (ho μ13) rfl rfl<|bY rfl rfl (dF rfl) rfl (ho μ20) rfl rfl<|bY rfl rfl (dF rfl) rfl (ho μ22) rfl rfl ae
  have μ24:M 5 199 3 [1,2,5,6,16] 3:=hi<|aa [(3,207),(4,215)] rfl (by kernel_rfl)<|ag (ho μ14) rfl rfl<|ag (ho μ19) rfl rfl ae
  have μ25:M 6 71 1 [1,2,5,16] 4:=hi<|aa [(3,79),(4,87),(7,199)] rfl (by kernel_rfl)<|ag (ho μ15) rfl rfl<|ag (ho μ20) rfl rfl<|bY rfl rfl (dF rfl) rfl (ho μ24) rfl rfl ae
  have μ26:M 5 199 4 [1,2,5,6,16] 3:=hi<|aa [(3,207),(4,215)] rfl (by kernel_rfl)<|ag (ho μ16) rfl rfl<|ag (ho μ21) rfl rfl ae
  have μ27:M 6 135 2 [1,2,6,16] 4:=hi<|aa [(3,143),(4,151),(6,199)] rfl (by kernel_rfl)<|ag (ho μ17) rfl rfl<|ag (ho μ22) rfl rfl<|bY rfl rfl (dF rfl) rfl (ho μ26) rfl rfl ae
  have μ28:M 7 7 0 [1,2,16] 0:=hi<|aa [(3,15),(4,23),(6,71),(7,135)] rfl (by kernel_rfl)<|ag (ho μ18) rfl rfl<|ag (ho μ23) rfl rfl<|bY rfl rfl (dF rfl) rfl (ho μ25) rfl rfl<|bY rfl rfl (dF rfl) rfl (ho μ27) rfl rfl ae
  have μ29:M 4 219 3 [1,2,5,6,14,15,17,18] 3:=hi<|aa [(2,223)] rfl (by kernel_rfl)<|bc rfl rfl (fm rfl (htl)) rfl (ho μ9) rfl rfl ae
  have μ30:M 5 91 1 [1,2,5,14,15,17,18] 4:=hi<|aa [(2,95),(7,219)] rfl (by kernel_rfl)<|bc rfl rfl (fm rfl (htl)) rfl (ho μ10) rfl rfl<|bY rfl rfl (dF rfl) rfl (ho μ29) rfl rfl ae
  have μ31:M 4 219 4 [1,2,5,6,14,15,17,18] 3:=hi<|aa [(2,223)] rfl (by kernel_rfl)<|bc rfl rfl (fm rfl (htl)) rfl (ho μ11) rfl rfl ae
  have μ32:M 5 155 2 [1,2,6,14,15,17,18] 4:=hi<|aa [(2,159),(6,219)] rfl (by kernel_rfl)<|bc rfl rfl (fm rfl (htl)) rfl (ho μ12) rfl rfl<|bY rfl rfl (dF rfl) rfl (ho μ31) rfl rfl ae
  have μ33:M 6 27 0 [1,2,14,15,17,18] 0:=hi<|aa [(2,31),(6,91),(7,155)] rfl (by kernel_rfl)<|bc rfl rfl (fm rfl (htl)) rfl (ho μ13) rfl rfl<|bY rfl rfl (dF rfl) rfl (ho μ30) rfl rfl<|bY rfl rfl (dF rfl) rfl (ho μ32) rfl rfl ae
  have μ34:M 5 203 3 [1,2,5,6,14,15,17] 3:=hi<|aa [(2,207),(4,219)] rfl (by kernel_rfl)<|bc rfl rfl (fm rfl (htl)) rfl (ho μ14) rfl rfl<|ag (ho μ29) rfl rfl ae
  have μ35:M 6 75 1 [1,2,5,14,15,17] 4:=hi<|aa [(2,79),(4,91),(7,203)] rfl (by kernel_rfl)<|bc rfl rfl (fm rfl (htl)) rfl (ho μ15) rfl rfl<|ag (ho μ30) rfl rfl<|bY rfl rfl (dF rfl) rfl (ho μ34) rfl rfl ae
  have μ36:M 5 203 4 [1,2,5,6,14,15,17] 3:=hi<|aa [(2,207),(4,219)] rfl (by kernel_rfl)<|bc rfl rfl (fm rfl (htl)) rfl (ho μ16) rfl rfl<|ag (ho μ31) rfl rfl ae
  have μ37:M 6 139 2 [1,2,6,14,15,17] 4:=hi<|aa [(2,143),(4,155),(6,203)] rfl (by kernel_rfl)<|bc rfl rfl (fm rfl (htl)) rfl (ho μ17) rfl rfl<|ag (ho μ32) rfl rfl<|bY rfl rfl (dF rfl) rfl (ho μ36) rfl rfl ae
  have μ38:M 7 11 0 [1,2,14,15,17] 0:=hi<|aa [(2,15),(4,27),(6,75),(7,139)] rfl (by kernel_rfl)<|bc rfl rfl (fm rfl (htl)) rfl (ho μ18) rfl rfl<|ag (ho μ33) rfl rfl<|bY rfl rfl (dF rfl) rfl (ho μ35) rfl rfl<|bY rfl rfl (dF rfl) rfl (ho μ37) rfl rfl ae
  have μ39:M 5 211 3 [1,2,5,6,14,15,18] 3:=hi<|aa [(2,215),(3,219)] rfl (by kernel_rfl)<|bc rfl rfl (fm rfl (htl)) rfl (ho μ19) rfl rfl<|ag (ho μ29) rfl rfl ae
  have μ40:M 6 83 1 [1,2,5,14,15,18] 4:=hi<|aa [(2,87),(3,91),(7,211)] rfl (by kernel_rfl)<|bc rfl rfl (fm rfl (htl)) rfl (ho μ20) rfl rfl<|ag (ho μ30) rfl rfl<|bY rfl rfl (dF rfl) rfl (ho μ39) rfl rfl ae
  have μ41:M 5 211 4 [1,2,5,6,14,15,18] 3:=hi<|aa [(2,215),(3,219)] rfl (by kernel_rfl)<|bc rfl rfl (fm rfl (htl)) rfl (ho μ21) rfl rfl<|ag (ho μ31) rfl rfl ae
  have μ42:M 6 147 2 [1,2,6,14,15,18] 4:=hi<|aa [(2,151),(3,155),(6,211)] rfl (by kernel_rfl)<|bc rfl rfl (fm rfl (htl)) rfl (ho μ22) rfl rfl<|ag (ho μ32) rfl rfl<|bY rfl rfl (dF rfl) rfl (ho μ41) rfl rfl ae
  have μ43:M 7 19 0 [1,2,14,15,18] 0:=hi<|aa [(2,23),(3,27),(6,83),(7,147)] rfl (by kernel_rfl)<|bc rfl rfl (fm rfl (htl)) rfl (ho μ23) rfl rfl<|ag (ho μ33) rfl rfl<|bY rfl rfl (dF rfl) rfl (ho μ40) rfl rfl<|bY rfl rfl (dF rfl) rfl (ho μ42) rfl rfl ae
  have μ44:M 6 195 3 [1,2,5,6,14,15] 3:=hi<|aa [(2,199),(3,203),(4,211)] rfl (by kernel_rfl)<|bc rfl rfl (fm rfl (htl)) rfl (ho μ24) rfl rfl<|ag (ho μ34) rfl rfl<|ag (ho μ39) rfl rfl ae
  have μ45:M 7 67 1 [1,2,5,14,15] 4:=hi<|aa [(2,71),(3,75),(4,83),(7,195)] rfl (by kernel_rfl)<|bc rfl rfl (fm rfl (htl)) rfl (ho μ25) rfl rfl<|ag (ho μ35) rfl rfl<|ag (ho μ40) rfl rfl<|bY rfl rfl (dF rfl) rfl (ho μ44) rfl rfl ae
  have μ46:M 6 195 4 [1,2,5,6,14,15] 3:=hi<|aa [(2,199),(3,203),(4,211)] rfl (by kernel_rfl)<|bc rfl rfl (fm rfl (htl)) rfl (ho μ26) rfl rfl<|ag (ho μ36) rfl rfl<|ag (ho μ41) rfl rfl ae
  have μ47:M 7 131 2 [1,2,6,14,15] 4:=hi<|aa [(2,135),(3,139),(4,147),(6,195)] rfl (by kernel_rfl)<|bc rfl rfl (fm rfl (htl)) rfl (ho μ27) rfl rfl<|ag (ho μ37) rfl rfl<|ag (ho μ42) rfl rfl<|bY rfl rfl (dF rfl) rfl (ho μ46) rfl rfl ae
  have μ48:M 8 3 0 [1,2,14,15] 0:=hi<|aa [(2,7),(3,11),(4,19),(6,67),(7,131)] rfl (by kernel_rfl)<|bc rfl rfl (fm rfl (htl)) rfl (ho μ28) rfl rfl<|ag (ho μ38) rfl rfl<|ag (ho μ43) rfl rfl<|bY rfl rfl (dF rfl) rfl (ho μ45) rfl rfl<|bY rfl rfl (dF rfl) rfl (ho μ47) rfl rfl ae
  have μ49:M 5 217 3 [1,2,5,6,14,17,18] 3:=hi<|aa [(1,219)] rfl (by kernel_rfl)<|ag (ho μ29) rfl rfl ae
  have μ50:M 6 89 1 [1,2,5,14,17,18] 4:=hi<|aa [(1,91),(7,217)] rfl (by kernel_rfl)<|ag (ho μ30) rfl rfl<|bY rfl rfl (dF rfl) rfl (ho μ49) rfl rfl ae
  have μ51:M 5 217 4 [1,2,5,6,14,17,18] 3:=hi<|aa [(1,219)] rfl (by kernel_rfl)<|ag (ho μ31) rfl rfl ae
  have μ52:M 6 153 2 [1,2,6,14,17,18] 4:=hi<|aa [(1,155),(6,217)] rfl (by kernel_rfl)<|ag (ho μ32) rfl rfl<|bY rfl rfl (dF rfl) rfl (ho μ51) rfl rfl ae
  have μ53:M 7 25 0 [1,2,14,17,18] 0:=hi<|aa [(1,27),(6,89),(7,153)] rfl (by kernel_rfl)<|ag (ho μ33) rfl rfl<|bY rfl rfl (dF rfl) rfl (ho μ50) rfl rfl<|bY rfl rfl (dF rfl) rfl (ho μ52) rfl rfl ae
  have μ54:M 6 201 3 [1,2,5,6,14,17] 3:=hi<|aa [(1,203),(4,217)] rfl (by kernel_rfl)<|ag (ho μ34) rfl rfl<|ag (ho μ49) rfl rfl ae
  have μ55:M 7 73 1 [1,2,5,14,17] 4:=hi<|aa [(1,75),(4,89),(7,201)] rfl (by kernel_rfl)<|ag (ho μ35) rfl rfl<|ag (ho μ50) rfl rfl<|bY rfl rfl (dF rfl) rfl (ho μ54) rfl rfl ae
  have μ56:M 6 201 4 [1,2,5,6,14,17] 3:=hi<|aa [(1,203),(4,217)] rfl (by kernel_rfl)<|ag (ho μ36) rfl rfl<|ag (ho μ51) rfl rfl ae
  have μ57:M 7 137 2 [1,2,6,14,17] 4:=hi<|aa [(1,139),(4,153),(6,201)] rfl (by kernel_rfl)<|ag (ho μ37) rfl rfl<|ag (ho μ52) rfl rfl<|bY rfl rfl (dF rfl) rfl (ho μ56) rfl rfl ae
  have μ58:M 8 9 0 [1,2,14,17] 0:=hi<|aa [(1,11),(4,25),(6,73),(7,137)] rfl (by kernel_rfl)<|ag (ho μ38) rfl rfl<|ag (ho μ53) rfl rfl<|bY rfl rfl (dF rfl) rfl (ho μ55) rfl rfl<|bY rfl rfl (dF rfl) rfl (ho μ57) rfl rfl ae
  have μ59:M 6 209 3 [1,2,5,6,14,18] 3:=hi<|aa [(1,211),(3,217)] rfl (by kernel_rfl)<|ag (ho μ39) rfl rfl<|ag (ho μ49) rfl rfl ae
  have μ60:M 7 81 1 [1,2,5,14,18] 4:=hi<|aa [(1,83),(3,89),(7,209)] rfl (by kernel_rfl)<|ag (ho μ40) rfl rfl<|ag (ho μ50) rfl rfl<|bY rfl rfl (dF rfl) rfl (ho μ59) rfl rfl ae
  have μ61:M 6 209 4 [1,2,5,6,14,18] 3:=hi<|aa [(1,211),(3,217)] rfl (by kernel_rfl)<|ag (ho μ41) rfl rfl<|ag (ho μ51) rfl rfl ae
  have μ62:M 7 145 2 [1,2,6,14,18] 4:=hi<|aa [(1,147),(3,153),(6,209)] rfl (by kernel_rfl)<|ag (ho μ42) rfl rfl<|ag (ho μ52) rfl rfl<|bY rfl rfl (dF rfl) rfl (ho μ61) rfl rfl ae
  have μ63:M 8 17 0 [1,2,14,18] 0:=hi<|aa [(1,19),(3,25),(6,81),(7,145)] rfl (by kernel_rfl)<|ag (ho μ43) rfl rfl<|ag (ho μ53) rfl rfl<|bY rfl rfl (dF rfl) rfl (ho μ60) rfl rfl<|bY rfl rfl (dF rfl) rfl (ho μ62) rfl rfl ae
  have μ64:M 7 193 3 [1,2,5,6,14] 3:=hi<|aa [(1,195),(3,201),(4,209)] rfl (by kernel_rfl)<|ag (ho μ44) rfl rfl<|ag (ho μ54) rfl rfl<|ag (ho μ59) rfl rfl ae
  have μ65:M 8 65 1 [1,2,5,14] 4:=hi<|aa [(1,67),(3,73),(4,81),(7,193)] rfl (by kernel_rfl)<|ag (ho μ45) rfl rfl<|ag (ho μ55) rfl rfl<|ag (ho μ60) rfl rfl<|bY rfl rfl (dF rfl) rfl (ho μ64) rfl rfl ae
  have μ66:M 7 193 4 [1,2,5,6,14] 3:=hi<|aa [(1,195),(3,201),(4,209)] rfl (by kernel_rfl)<|ag (ho μ46) rfl rfl<|ag (ho μ56) rfl rfl<|ag (ho μ61) rfl rfl ae
  have μ67:M 8 129 2 [1,2,6,14] 4:=hi<|aa [(1,131),(3,137),(4,145),(6,193)] rfl (by kernel_rfl)<|ag (ho μ47) rfl rfl<|ag (ho μ57) rfl rfl<|ag (ho μ62) rfl rfl<|bY rfl rfl (dF rfl) rfl (ho μ66) rfl rfl ae
  have μ68:M 9 1 0 [1,2,14] 0:=hi<|aa [(1,3),(3,9),(4,17),(6,65),(7,129)] rfl (by kernel_rfl)<|ag (ho μ48) rfl rfl<|ag (ho μ58) rfl rfl<|ag (ho μ63) rfl rfl<|bY rfl rfl (dF rfl) rfl (ho μ65) rfl rfl<|bY rfl rfl (dF rfl) rfl (ho μ67) rfl rfl ae
  have μ69:M 5 218 3 [1,2,5,6,15,17,18] 3:=hi<|aa [(0,219)] rfl (by kernel_rfl)<|ag (ho μ29) rfl rfl ae
  have μ70:M 6 90 1 [1,2,5,15,17,18] 4:=hi<|aa [(0,91),(7,218)] rfl (by kernel_rfl)<|ag (ho μ30) rfl rfl<|bY rfl rfl (dF rfl) rfl (ho μ69) rfl rfl ae
  have μ71:M 5 218 4 [1,2,5,6,15,17,18] 3:=hi<|aa [(0,219)] rfl (by kernel_rfl)<|ag (ho μ31) rfl rfl ae
  have μ72:M 6 154 2 [1,2,6,15,17,18] 4:=hi<|aa [(0,155),(6,218)] rfl (by kernel_rfl)<|ag (ho μ32) rfl rfl<|bY rfl rfl (dF rfl) rfl (ho μ71) rfl rfl ae
  have μ73:M 7 26 0 [1,2,15,17,18] 0:=hi<|aa [(0,27),(6,90),(7,154)] rfl (by kernel_rfl)<|ag (ho μ33) rfl rfl<|bY rfl rfl (dF rfl) rfl (ho μ70) rfl rfl<|bY rfl rfl (dF rfl) rfl (ho μ72) rfl rfl ae
  have μ74:M 6 202 3 [1,2,5,6,15,17] 3:=hi<|aa [(0,203),(4,218)] rfl (by kernel_rfl)<|ag (ho μ34) rfl rfl<|ag (ho μ69) rfl rfl ae
  have μ75:M 7 74 1 [1,2,5,15,17] 4:=hi<|aa [(0,75),(4,90),(7,202)] rfl (by kernel_rfl)<|ag (ho μ35) rfl rfl<|ag (ho μ70) rfl rfl<|bY rfl rfl (dF rfl) rfl (ho μ74) rfl rfl ae
  have μ76:M 6 202 4 [1,2,5,6,15,17] 3:=hi<|aa [(0,203),(4,218)] rfl (by kernel_rfl)<|ag (ho μ36) rfl rfl<|ag (ho μ71) rfl rfl ae
  have μ77:M 7 138 2 [1,2,6,15,17] 4:=hi<|aa [(0,139),(4,154),(6,202)] rfl (by kernel_rfl)<|ag (ho μ37) rfl rfl<|ag (ho μ72) rfl rfl<|bY rfl rfl (dF rfl) rfl (ho μ76) rfl rfl ae
  have μ78:M 8 10 0 [1,2,15,17] 0:=hi<|aa [(0,11),(4,26),(6,74),(7,138)] rfl (by kernel_rfl)<|ag (ho μ38) rfl rfl<|ag (ho μ73) rfl rfl<|bY rfl rfl (dF rfl) rfl (ho μ75) rfl rfl<|bY rfl rfl (dF rfl) rfl (ho μ77) rfl rfl ae
  have μ79:M 6 210 3 [1,2,5,6,15,18] 3:=hi<|aa [(0,211),(3,218)] rfl (by kernel_rfl)<|ag (ho μ39) rfl rfl<|ag (ho μ69) rfl rfl ae
  have μ80:M 7 82 1 [1,2,5,15,18] 4:=hi<|aa [(0,83),(3,90),(7,210)] rfl (by kernel_rfl)<|ag (ho μ40) rfl rfl<|ag (ho μ70) rfl rfl<|bY rfl rfl (dF rfl) rfl (ho μ79) rfl rfl ae
  have μ81:M 6 210 4 [1,2,5,6,15,18] 3:=hi<|aa [(0,211),(3,218)] rfl (by kernel_rfl)<|ag (ho μ41) rfl rfl<|ag (ho μ71) rfl rfl ae
  have μ82:M 7 146 2 [1,2,6,15,18] 4:=hi<|aa [(0,147),(3,154),(6,210)] rfl (by kernel_rfl)<|ag (ho μ42) rfl rfl<|ag (ho μ72) rfl rfl<|bY rfl rfl (dF rfl) rfl (ho μ81) rfl rfl ae
  have μ83:M 8 18 0 [1,2,15,18] 0:=hi<|aa [(0,19),(3,26),(6,82),(7,146)] rfl (by kernel_rfl)<|ag (ho μ43) rfl rfl<|ag (ho μ73) rfl rfl<|bY rfl rfl (dF rfl) rfl (ho μ80) rfl rfl<|bY rfl rfl (dF rfl) rfl (ho μ82) rfl rfl ae
  have μ84:M 7 194 3 [1,2,5,6,15] 3:=hi<|aa [(0,195),(3,202),(4,210)] rfl (by kernel_rfl)<|ag (ho μ44) rfl rfl<|ag (ho μ74) rfl rfl<|ag (ho μ79) rfl rfl ae
  have μ85:M 8 66 1 [1,2,5,15] 4:=hi<|aa [(0,67),(3,74),(4,82),(7,194)] rfl (by kernel_rfl)<|ag (ho μ45) rfl rfl<|ag (ho μ75) rfl rfl<|ag (ho μ80) rfl rfl<|bY rfl rfl (dF rfl) rfl (ho μ84) rfl rfl ae
  have μ86:M 7 194 4 [1,2,5,6,15] 3:=hi<|aa [(0,195),(3,202),(4,210)] rfl (by kernel_rfl)<|ag (ho μ46) rfl rfl<|ag (ho μ76) rfl rfl<|ag (ho μ81) rfl rfl ae
  have μ87:M 8 130 2 [1,2,6,15] 4:=hi<|aa [(0,131),(3,138),(4,146),(6,194)] rfl (by kernel_rfl)<|ag (ho μ47) rfl rfl<|ag (ho μ77) rfl rfl<|ag (ho μ82) rfl rfl<|bY rfl rfl (dF rfl) rfl (ho μ86) rfl rfl ae
  have μ88:M 9 2 0 [1,2,15] 0:=hi<|aa [(0,3),(3,10),(4,18),(6,66),(7,130)] rfl (by kernel_rfl)<|ag (ho μ48) rfl rfl<|ag (ho μ78) rfl rfl<|ag (ho μ83) rfl rfl<|bY rfl rfl (dF rfl) rfl (ho μ85) rfl rfl<|bY rfl rfl (dF rfl) rfl (ho μ87) rfl rfl ae
  have μ89:M 6 216 3 [1,2,5,6,17,18] 3:=hi<|aa [(0,217),(1,218)] rfl (by kernel_rfl)<|ag (ho μ49) rfl rfl<|ag (ho μ69) rfl rfl ae
  have μ90:M 7 88 1 [1,2,5,17,18] 4:=hi<|aa [(0,89),(1,90),(7,216)] rfl (by kernel_rfl)<|ag (ho μ50) rfl rfl<|ag (ho μ70) rfl rfl<|bY rfl rfl (dF rfl) rfl (ho μ89) rfl rfl ae
  have μ91:M 6 216 4 [1,2,5,6,17,18] 3:=hi<|aa [(0,217),(1,218)] rfl (by kernel_rfl)<|ag (ho μ51) rfl rfl<|ag (ho μ71) rfl rfl ae
  have μ92:M 7 152 2 [1,2,6,17,18] 4:=hi<|aa [(0,153),(1,154),(6,216)] rfl (by kernel_rfl)<|ag (ho μ52) rfl rfl<|ag (ho μ72) rfl rfl<|bY rfl rfl (dF rfl) rfl (ho μ91) rfl rfl ae
  have μ93:M 8 24 0 [1,2,17,18] 0:=hi<|aa [(0,25),(1,26),(6,88),(7,152)] rfl (by kernel_rfl)<|ag (ho μ53) rfl rfl<|ag (ho μ73) rfl rfl<|bY rfl rfl (dF rfl) rfl (ho μ90) rfl rfl<|bY rfl rfl (dF rfl) rfl (ho μ92) rfl rfl ae
  have μ94:M 7 200 3 [1,2,5,6,17] 3:=hi<|aa [(0,201),(1,202),(4,216)] rfl (by kernel_rfl)<|ag (ho μ54) rfl rfl<|ag (ho μ74) rfl rfl<|ag (ho μ89) rfl rfl ae
  have μ95:M 8 72 1 [1,2,5,17] 4:=hi<|aa [(0,73),(1,74),(4,88),(7,200)] rfl (by kernel_rfl)<|ag (ho μ55) rfl rfl<|ag (ho μ75) rfl rfl<|ag (ho μ90) rfl rfl<|bY rfl rfl (dF rfl) rfl (ho μ94) rfl rfl ae
  have μ96:M 7 200 4 [1,2,5,6,17] 3:=hi<|aa [(0,201),(1,202),(4,216)] rfl (by kernel_rfl)<|ag (ho μ56) rfl rfl<|ag (ho μ76) rfl rfl<|ag (ho μ91) rfl rfl ae
  have μ97:M 8 136 2 [1,2,6,17] 4:=hi<|aa [(0,137),(1,138),(4,152),(6,200)] rfl (by kernel_rfl)<|ag (ho μ57) rfl rfl<|ag (ho μ77) rfl rfl<|ag (ho μ92) rfl rfl<|bY rfl rfl (dF rfl) rfl (ho μ96) rfl rfl ae
  have μ98:M 9 8 0 [1,2,17] 0:=hi<|aa [(0,9),(1,10),(4,24),(6,72),(7,136)] rfl (by kernel_rfl)<|ag (ho μ58) rfl rfl<|ag (ho μ78) rfl rfl<|ag (ho μ93) rfl rfl<|bY rfl rfl (dF rfl) rfl (ho μ95) rfl rfl<|bY rfl rfl (dF rfl) rfl (ho μ97) rfl rfl ae
  have μ99:M 7 208 3 [1,2,5,6,18] 3:=hi<|aa [(0,209),(1,210),(3,216)] rfl (by kernel_rfl)<|ag (ho μ59) rfl rfl<|ag (ho μ79) rfl rfl<|ag (ho μ89) rfl rfl ae
  have μ100:M 8 80 1 [1,2,5,18] 4:=hi<|aa [(0,81),(1,82),(3,88),(7,208)] rfl (by kernel_rfl)<|ag (ho μ60) rfl rfl<|ag (ho μ80) rfl rfl<|ag (ho μ90) rfl rfl<|bY rfl rfl (dF rfl) rfl (ho μ99) rfl rfl ae
  have μ101:M 7 208 4 [1,2,5,6,18] 3:=hi<|aa [(0,209),(1,210),(3,216)] rfl (by kernel_rfl)<|ag (ho μ61) rfl rfl<|ag (ho μ81) rfl rfl<|ag (ho μ91) rfl rfl ae
  have μ102:M 8 144 2 [1,2,6,18] 4:=hi<|aa [(0,145),(1,146),(3,152),(6,208)] rfl (by kernel_rfl)<|ag (ho μ62) rfl rfl<|ag (ho μ82) rfl rfl<|ag (ho μ92) rfl rfl<|bY rfl rfl (dF rfl) rfl (ho μ101) rfl rfl ae
  have μ103:M 9 16 0 [1,2,18] 0:=hi<|aa [(0,17),(1,18),(3,24),(6,80),(7,144)] rfl (by kernel_rfl)<|ag (ho μ63) rfl rfl<|ag (ho μ83) rfl rfl<|ag (ho μ93) rfl rfl<|bY rfl rfl (dF rfl) rfl (ho μ100) rfl rfl<|bY rfl rfl (dF rfl) rfl (ho μ102) rfl rfl ae
  have μ104:M 8 192 3 [1,2,5,6] 3:=hi<|aa [(0,193),(1,194),(3,200),(4,208)] rfl (by kernel_rfl)<|ag (ho μ64) rfl rfl<|ag (ho μ84) rfl rfl<|ag (ho μ94) rfl rfl<|ag (ho μ99) rfl rfl ae
  have μ105:M 9 64 1 [1,2,5] 4:=hi<|aa [(0,65),(1,66),(3,72),(4,80),(7,192)] rfl (by kernel_rfl)<|ag (ho μ65) rfl rfl<|ag (ho μ85) rfl rfl<|ag (ho μ95) rfl rfl<|ag (ho μ100) rfl rfl<|bY rfl rfl (dF rfl) rfl (ho μ104) rfl rfl ae
  have μ106:M 8 192 4 [1,2,5,6] 3:=hi<|aa [(0,193),(1,194),(3,200),(4,208)] rfl (by kernel_rfl)<|ag (ho μ66) rfl rfl<|ag (ho μ86) rfl rfl<|ag (ho μ96) rfl rfl<|ag (ho μ101) rfl rfl ae
  have μ107:M 9 128 2 [1,2,6] 4:=hi<|aa [(0,129),(1,130),(3,136),(4,144),(6,192)] rfl (by kernel_rfl)<|ag (ho μ67) rfl rfl<|ag (ho μ87) rfl rfl<|ag (ho μ97) rfl rfl<|ag (ho μ102) rfl rfl<|bY rfl rfl (dF rfl) rfl (ho μ106) rfl rfl ae
  have μ108:M 10 0 0 [1,2] 0:=hi<|aa [(0,1),(1,2),(3,8),(4,16),(6,64),(7,128)] rfl (by kernel_rfl)<|ag (ho μ68) rfl rfl<|ag (ho μ88) rfl rfl<|ag (ho μ98) rfl rfl<|ag (ho μ103) rfl rfl<|bY rfl rfl (dF rfl) rfl (ho μ105) rfl rfl<|bY rfl rfl (dF rfl) rfl (ho μ107) rfl rfl ae
  exact μ108
 refine aQ<|au 3 rfl<|bz (jF rfl rfl rfl (by decide) ((show(a:Int).tdiv 2=((a / 2:Nat):Int) by rw[Int.tdiv_eq_ediv_of_nonneg (by omega)];omega)) (by unfold In64;omega)) rfl<|bz (aI ((a / 2*7)) rfl) rfl<|au 1 rfl<|bz (aL rfl ((eH T.af (a / 2) 6 hi (by omega)).trans (show(jn (cr T.af (a / 2)))[6]? =some (num g) by rw[←hgl];rfl))) rfl<|au 3 rfl<|aH [1,2,5,6,7] rfl ?_
 refine aQ<|au 4 rfl<|aH [1,2,5,6,7,8] rfl ?_
 refine aQ<|au 1 rfl<|bz (jF rfl rfl rfl (by decide) ((show(a:Int).tdiv 2=((a / 2:Nat):Int) by rw[Int.tdiv_eq_ediv_of_nonneg (by omega)];omega)) (by unfold In64;omega)) rfl<|au 3 rfl<|aH [2,5,6,7,8,9] rfl ?_
 refine gj (xs:=[num n]) 5 0 0 rfl rfl ?_
 refine gj (xs:=[num h]) 6 1 0 rfl rfl ?_
 refine gj (xs:=cj 3 g) 7 2 0 rfl rfl ?_
 refine gj (xs:=cj 2 h) 8 3 0 rfl rfl ?_
 refine gj (xs:=cj 1 ((a / 2:Nat):Int)) 9 4 0 rfl rfl ?_
 refine cU [] (.c 2<|.c 5<|.c 6<|.c 7<|.c 8<|.c 9<|.nil) .nil rfl rfl ?_
 refine ab (.v (dA rfl rfl) rfl<|.a 1 rfl<|.k [6,7,8,9,10] rfl)<|aQ<|au 1 rfl<|aH [6,7,8,9,10,11] rfl ?_
 refine aj<|bC 36 (.raw (.bool (c1))) [6,7,8,9,10,11] rfl ?_ ?_
 ·exact .a 2 rfl<|.v (cC rfl (hc1)) rfl<|.k [36,6,7,8,9,10,11] rfl
 refine ah rfl (fun h2=>?_) (fun h2=>?_)
 ·have hg0:0<g:=tt (by rw[hc1,h2])
  rw[if_pos hg0]
  refine ba<|au 2 rfl<|ek rfl (h1 3 g) rfl<|au 1 rfl<|aH [6,7,8,9,10,11] rfl ?_
  refine aQ<|au 2 rfl<|ek rfl (h1 2 h) rfl<|au 2 rfl<|aH [6,7,8,9,11,12] rfl ?_
  refine aQ<|bz (dA rfl rfl) rfl<|bz (dA rfl rfl) rfl<|ca (iv (xs:=[_,_]) rfl (bE.sl.get rfl) ⟨Nat.le_of_ble_eq_true rfl,Nat.le_of_ble_eq_true rfl⟩ rfl rfl) rfl<|au 2 rfl<|aH [9,13] rfl ?_
  refine ab (.v (dA rfl rfl) rfl<|.a 1 rfl<|.k [4] rfl)<|aq ?_
  unfold jt F2 F3
  first
   |exact⟨_,_,aA.of rfl,aB.il (an.cons (aB.jc rfl (an.cons (aB.ey rfl (an.cons (aB.il (an.cons aB.pure<|an.cons (aB.jc rfl (an.cons (aB.pure (p:=ax _)) an.nil)) an.nil))<|an.cons (aB.il (an.cons aB.pure<|an.cons aB.pure<|an.cons (aB.jc rfl (an.cons (aB.pure (p:=ax _)) an.nil)) an.nil)) an.nil)) an.nil))<|an.cons aB.pure an.nil),rfl⟩
   |exact⟨_,_,aA.of rfl,aB.il (an.cons (aB.jc rfl (an.cons (aB.ey rfl (an.cons (aB.il (an.cons aB.pure<|an.cons (aB.jc rfl (an.cons aB.b9 an.nil)) an.nil))<|an.cons (aB.il (an.cons aB.pure<|an.cons aB.pure<|an.cons (aB.jc rfl (an.cons (aB.pure (p:=ax _)) an.nil)) an.nil)) an.nil)) an.nil))<|an.cons aB.pure an.nil),rfl⟩
 ·have hg0:¬0<g:=ff (by rw[hc1,h2])
  rw[if_neg hg0]
  refine ak<|aQ<|au 2 rfl<|ek rfl (h1 2 h) rfl<|au 2 rfl<|aH [6,7,8,9,11,12] rfl ?_
  refine aQ<|bz (dA rfl rfl) rfl<|bz (dA rfl rfl) rfl<|ca (iv (xs:=[_,_]) rfl (bE.sl.get rfl) ⟨Nat.le_of_ble_eq_true rfl,Nat.le_of_ble_eq_true rfl⟩ rfl rfl) rfl<|au 2 rfl<|aH [9,13] rfl ?_
  refine ab (.v (dA rfl rfl) rfl<|.a 1 rfl<|.k [4] rfl)<|aq ?_
  unfold jt F2 F3
  first
   |exact⟨_,_,aA.of rfl,aB.il (an.cons (aB.jc rfl (an.cons (aB.ey rfl (an.cons (aB.il (an.cons aB.pure<|an.cons (aB.jc rfl (an.cons (aB.pure (p:=ax _)) an.nil)) an.nil))<|an.cons (aB.il (an.cons aB.pure<|an.cons aB.pure<|an.cons (aB.jc rfl (an.cons (aB.pure (p:=ax _)) an.nil)) an.nil)) an.nil)) an.nil))<|an.cons aB.pure an.nil),rfl⟩
   |exact⟨_,_,aA.of rfl,aB.il (an.cons (aB.jc rfl (an.cons (aB.ey rfl (an.cons (aB.il (an.cons aB.pure<|an.cons (aB.jc rfl (an.cons aB.b9 an.nil)) an.nil))<|an.cons (aB.il (an.cons aB.pure<|an.cons aB.pure<|an.cons (aB.jc rfl (an.cons (aB.pure (p:=ax _)) an.nil)) an.nil)) an.nil)) an.nil))<|an.cons aB.pure an.nil),rfl⟩
end PW
end Go.Proofs.YtnegbdpggideiaaGreatDoor
namespace Go.Proofs.YtnegbdpggideiaaGreatDoor
namespace PW
open Go.RowKit cA Mem Net eS
theorem sC{α:Type}(f:α→List PV)(s:Nat)(hf:∀a,(f a).length=s)(z:α):∀(l:List α) (d:Nat),d<l.length→over (l.flatMap f) (d*s) (f z)=(l.set d z).flatMap f
 | [],d,h=>by simp at h
 |a::l,0,_=>by
  unfold over
  rw[List.flatMap_cons,Nat.zero_mul,List.take_zero,hf,List.set_cons_zero,List.flatMap_cons,List.nil_append,Nat.zero_add]
  congr 1
  rw[←hf a,List.drop_left]
 |a::l,d+1,h=>by
  have ih:=sC f s hf z l d (by simpa using h)
  unfold over at*
  have e:(d+1)*s=(f a).length+d*s:=by rw[hf,Nat.succ_mul];omega
  rw[List.flatMap_cons,List.set_cons_succ,List.flatMap_cons,←ih,e,List.take_length_add_append,Nat.add_assoc,List.drop_length_add_append,List.append_assoc]
theorem AX(l:List iw)(d:Nat)(z:iw)(h:d<l.length):over (dq l) (d*3) (jR z)=dq (l.set d z):=sC jR 3 (fun _=>rfl) z l d h
noncomputable def lh(T:ai)(D:List Bool)(n N j:Nat):List iw:=(List.range N).map fun d=>if d<j then j9 T D n (d:Int) else⟨bL T D n d,false,[]⟩
theorem Dc(T:ai)(D:List Bool)(n N j:Nat):(lh T D n N j).length=N:=by simp[lh]
theorem zT(T:ai)(D:List Bool)(n N:Nat):lh T D n N 0=nF T D n N:=by unfold lh nF;simp
theorem C3(T:ai)(D:List Bool)(n N:Nat):lh T D n N N=qR T D n N:=by
 unfold lh qR
 refine List.map_congr_left fun d hd=>?_
 rw[if_pos (List.mem_range.1 hd)]
theorem uj{T:ai}{D:List Bool}{n N j i:Nat}(h:i<(lh T D n N j).length):(lh T D n N j)[i]=if i<j then j9 T D n (i:Int) else⟨bL T D n i,false,[]⟩:=by simp[lh]
theorem Aj(T:ai)(D:List Bool)(n N j:Nat):(lh T D n N j).set j (j9 T D n (j:Int))=lh T D n N (j+1):=by
 apply List.ext_getElem (by simp[lh])
 intro i h1 h2
 rw[List.getElem_set,uj,uj]
 by_cases e:j=i
 ·subst e;rw[if_pos rfl,if_pos (by omega)]
 ·rw[if_neg e]
  by_cases h:i<j
  ·rw[if_pos h,if_pos (by omega)]
  ·rw[if_neg h,if_neg (by omega)]
def oG(T:ai)(D:List Bool)(n:Nat)(l:List iw):cd:=[some (.cells 56 [num 0,.raw (.slice none 0 0),.raw (.slice none 0 0)]),some (.row 76 3 T.nodes.toNat (dq l)),some (.row 3 1 (cG D (bm T n)).length (aN (cG D (bm T n)))),some (.cells 56 [num n,.own 1,.own 2])]
theorem BD(T:ai)(D:List Bool)(n:Nat)(hv:ao T=true)(hf:bX T D=true)(hn:(n:Int)<T.nodes)(h12:T.nodes≤12):bS Tryz.prog 123 ([bf D,.agg [num n,.own 1,.own 2]]++[.aV (bx T) 0,.aV [num n] 0]) (oG T D n (nF T D n T.nodes.toNat)) (fun _ σ'=>σ'=oG T D n (qR T D n T.nodes.toNat)++[some (.cells 56 [num n,.own 1,.own 2])]):=by
 have hll:=bN hv
 have hnb:bu T (n:Int)=true:=aW.2 ⟨by omega,hn⟩
 obtain⟨N,hN⟩:∃N:Nat,T.nodes.toNat=N:=⟨_,rfl⟩
 have hNN:T.nodes=(N:Int):=by have:=(aJ hv).nodes;omega
 unfold oG
 rw[hN,←zT]
 obtain⟨dl,hdl⟩:∃dl,cG D (bm T n)=dl:=⟨_,rfl⟩
 rw[hdl]
 refine cp Tryz.func123 rfl Tryz.ntmps123 rfl<|aQ<|ca (fw rfl rfl rfl) rfl<|aH [0,2,3,5] rfl ?_
 refine ab (.a 4 rfl<|.k [0,2,3,5,9,10] rfl)<|av<|eZ [0,2,3,5,9,10] rfl<|bw (fun r s=>∃j,j≤N∧r=N - j∧s=⟨[(0,bf D),(2,.aV (bx T) 0),(3,.aV [num n] 0),(5,.ptr 4 0),(9,num N),(10,num j)],[some (.cells 56 [num 0,.raw (.slice none 0 0),.raw (.slice none 0 0)]),some (.row 76 3 N (dq (lh T D n N j))),some (.row 3 1 dl.length (aN dl)),some (.cells 56 [num n,.own 1,.own 2]),some (.cells 56 [num n,.own 1,.own 2])]⟩) N ⟨0,by omega,by omega,rfl⟩ ?_
 rintro r s ⟨j,hj,rfl,rfl⟩
 refine ab (.a 1 rfl<|.k [0,2,3,5,9,10,11] rfl)<|aj<|ah rfl (fun h1=>?_) (fun h1=>?_)
 ·have hlt:j<N:=by have:=tt h1;omega
  have hre:=uO T D n j hll h12
  rw[nH hv hf hnb (aW.2 ⟨by omega,by omega⟩)]at hre
  have hml:=Dc T D n N j
  have hel:(dq (lh T D n N j)).length=N*3:=by have:=Ds jR 3 (fun _=>rfl) (lh T D n N j);rw[hml]at this;exact this
  refine ak<|aj<|av<|ab (.a 2 rfl<|.k [0,2,3,5,6,9,10] rfl)<|dI 12 20 mixed (
   .val [5] rfl (bF rfl) rfl rfl<|
   .val [14] rfl (bF rfl) rfl rfl<|
   .val [6] rfl (bF rfl) rfl rfl<|
   .val [2] rfl (bF rfl) rfl rfl<|
   .val [0] rfl (bF rfl) rfl rfl<|
   .val [3] rfl (bF rfl) rfl rfl<|
   .val [6] rfl (bF rfl) rfl rfl<|
   .val [17,18,19,20] rfl (fm rfl (hre)) rfl rfl<|
   .val [21] rfl (bF rfl) rfl rfl<|
   .val [13] rfl (bF rfl) rfl rfl<|
   .late [13] rfl (rB rfl rfl rfl) inferInstance rfl rfl<|
   .val [15,16] rfl (aI ((j*3)) rfl) rfl rfl<|
   .nil) (by kernel_rfl) rfl rfl (bh (ks:=[0,2,3,5,9,10,22,24]) rfl) ?_
  refine br (s4 rfl (bE.tk.get rfl) rfl rfl rfl rfl rfl (show j*3+3≤(dq (lh T D n N j)).length by omega)) rfl rfl<|aH [0,2,3,5,9,10] rfl ?_
  refine eh (σ':=[some (.cells 56 [num 0,.raw (.slice none 0 0),.raw (.slice none 0 0)]),some (.row 76 3 N (dq (lh T D n N (j+1)))),some (.row 3 1 dl.length (aN dl)),some (.cells 56 [num n,.own 1,.own 2]),some (.cells 56 [num n,.own 1,.own 2])]) (by rw[←Aj,←AX _ _ _ (by omega)];rfl) ?_
  refine ay (.v (aR rfl) rfl<|.a 1 rfl<|.k [0,2,3,5,9,10] rfl) ?_
  exact⟨N - (j+1),by omega,j+1,by omega,rfl,rfl⟩
 ·have hje:j=N:=by have:=ff h1;omega
  subst hje
  refine bn<|⟨_,aA.of rfl,?_⟩
  rw[C3]
  rfl
theorem uo(T:ai)(D:List Bool)(n:Nat)(c:Option cR)(hch:cO T D [(n:Int)]=0):bS Tryz.prog 53 [aP T,bf D,num n] [c] (fun r σ'=>r= .tuple [.agg [num n,.own 3,.own 4],num 0]∧σ'=[c,some (.cells 56 [num n,.own 3,.own 4]),some (.cells 56 [num n,.own 3,.own 4]),some (.row 76 3 T.nodes.toNat (dq (nF T D n T.nodes.toNat))),some (.row 3 1 (cG D (bm T n)).length (aN (cG D (bm T n))))]):=by
 refine bS.frame (bS.mono (vh T D n hch) ?_)
 rintro r σ' ⟨rfl,rfl⟩
 refine⟨[.cells 56 [num n,.own 2,.own 3],.cells 56 [num n,.own 2,.own 3],.row 76 3 T.nodes.toNat (dq (nF T D n T.nodes.toNat)),.row 3 1 (cG D (bm T n)).length (aN (cG D (bm T n)))],rfl,.tuple [.agg [num n,.own 3,.own 4],num 0],[.cells 56 [num n,.own 3,.own 4],.cells 56 [num n,.own 3,.own 4],.row 76 3 T.nodes.toNat (dq (nF T D n T.nodes.toNat)),.row 3 1 (cG D (bm T n)).length (aN (cG D (bm T n)))],?_,?_,rfl,rfl⟩
 ·exact Up.bG (kA.cons (Up.jb (kA.cons Up.pure<|kA.cons (Up.own rfl)<|kA.cons (Up.own rfl) kA.nil)) (kA.cons Up.pure kA.nil))
 ·exact mL.cons (.cells (kA.cons Up.pure<|kA.cons (Up.own rfl)<|kA.cons (Up.own rfl) kA.nil))<|mL.cons (.cells (kA.cons Up.pure<|kA.cons (Up.own rfl)<|kA.cons (Up.own rfl) kA.nil))<|mL.cons (.row kA.pure)<|mL.cons (.row kA.pure) mL.nil
instance (e:Int) (x:dR):IsPure (jl e x):=by unfold jl;infer_instance
def jw(T:ai)(k x n:Int):Int:=if dL T k x=0 then(if bu T n then 0 else 2) else 1
theorem nM{T:ai}{k x:Int}(h:dL T k x=0):(ao T&&bV T k x)=true:=by
 unfold dL at h
 split at h
 ·assumption
 ·omega
theorem A8(T:ai)(D:List Bool)(n:Nat):bS Tryz.prog 125 ([bf D,.agg [num n,.own 1,.own 2]]++[]) (oG T D n (nF T D n T.nodes.toNat)) (fun _ σ'=>σ'=oG T D n (nF T D n T.nodes.toNat)++[some (.cells 56 [num n,.own 1,.own 2])]):=by
 unfold oG
 refine cp Tryz.func125 rfl Tryz.ntmps125 rfl<|ba<|ca (fw rfl rfl rfl) rfl<|aH [] rfl ?_
 exact⟨_,aA.of rfl,rfl⟩
theorem vM{T:ai}{k x:Int}(h:dL T k x≠0):dL T k x=1:=by
 unfold dL at*
 split
 ·rename_i h';rw[if_pos h']at h;exact absurd rfl h
 ·rfl
theorem qc(T:ai)(k x n:Int)(f:FuncId)(cap:List PV)[aG cap](he:jw T k x n≠0):
  Can Tryz.prog 122 [aP T,cu k x,num n,.func f cap] (· =jl (jw T k x n) ⟨0,[],[]⟩):=by
 have hmk:=jA T k x
 have hmf:=fK T k x
 unfold iI at hmk
 have hrt:=mJ T (aT T k x) n
 refine aF Tryz.func122 rfl Tryz.ntmps122 rfl<|aQ<|au 4 rfl<|aH [2,3,4,5,8] rfl ?_
 refine ab (.a 2 rfl<|.c rfl (hmk) rfl<|.a 5 rfl<|.k [2,3,4,8,10,11] rfl)<|aj<|ab (.a 2 rfl<|.k [2,3,4,8,10,11,20] rfl)<|ah rfl (fun h1=>?_) (fun h1=>?_)
 ·have h1:=tt h1
  have he2:jw T k x n=dL T k x:=by
   unfold jw
   rw[if_neg h1,vM h1]
  rw[he2]
  refine aQ<|au 4 rfl<|aH [8,9] rfl ?_
  exact aq<|⟨_,_,aA.of rfl,aB.bG (an.cons (aB.jb (an.cons aB.pure<|an.cons aB.b9<|an.cons aB.b9 an.nil)) (an.cons aB.pure an.nil)),by unfold jl;rw[if_neg h1];rfl⟩
 ·have h1:dL T k x=0:=Classical.byContradiction (ff h1)
  obtain⟨hv,hc⟩:=Bool.and_eq_true_iff.1 (nM h1)
  rw[if_pos h1]
  have hn:bu T n=false:=by
   cases hn:bu T n with
   |false=>rfl
   |true=>exact absurd (show jw T k x n=0 by unfold jw;rw[if_pos h1,hn];rfl) he
  have hch:cO T (aT T k x) [n]=2:=by unfold cO;rw[hv,hmf];simp[hn]
  have hr0:gC T (aT T k x) n=⟨0,[],[]⟩:=by unfold gC;rw[if_neg (by rw[hch];decide)]
  rw[hch,hr0]at hrt
  have he:jw T k x n=2:=by unfold jw;rw[if_pos h1,hn];rfl
  rw[he]
  refine ak<|aQ<|au 3 rfl<|ek rfl (hrt) rfl<|au 6 rfl<|aH [3,8,10,11,12] rfl ?_
  refine aj<|ab (.a 2 rfl<|.k [3,8,10,11,12,31] rfl)<|ah rfl (fun h2=>?_) (fun h2=>?_)
  ·skip
   refine aQ<|au 4 rfl<|aH [8,9] rfl ?_
   exact aq<|⟨_,_,aA.of rfl,aB.bG (an.cons (aB.jb (an.cons aB.pure<|an.cons aB.b9<|an.cons aB.b9 an.nil)) (an.cons aB.pure an.nil)),rfl⟩
  ·exact absurd h2 (by decide)
theorem ru(T:ai)(k x:Int)(n:Nat)(f:FuncId)(cap:List PV)[aG cap](L:List iw)(hen:enters Tryz.prog f=true)(hv:(ao T&&bV T k x)=true)(hn:(n:Int)<T.nodes)(hl:L.length=T.nodes.toNat)
  (hf:bS Tryz.prog f ([bf (aT T k x),.agg [num n,.own 1,.own 2]]++cap) (oG T (aT T k x) n (nF T (aT T k x) n T.nodes.toNat)) (fun _ σ'=>σ'=oG T (aT T k x) n L++[some (.cells 56 [num n,.own 1,.own 2])])):
  Can Tryz.prog 122 [aP T,cu k x,num n,.func f cap] (· =jl 0 ⟨n,L,cG (aT T k x) (bm T n)⟩):=by
 have hmk:=jA T k x
 have hmf:=fK T k x
 have hm0:dL T k x=0:=by unfold dL;rw[if_pos hv]
 unfold iI at hmk
 rw[hm0,if_pos rfl]at hmk
 obtain⟨M,hM⟩:∃M,aT T k x=M:=⟨_,rfl⟩
 rw[hM]at hmk hmf hf ⊢
 obtain⟨hv,hc⟩:=Bool.and_eq_true_iff.1 hv
 have hch:cO T M [(n:Int)]=0:=by unfold cO;rw[hv,hmf];simp[aW.2 (show 0≤(n:Int)∧(n:Int)<T.nodes by omega)]
 have hrt:=fun c=>uo T M n c hch
 refine aF Tryz.func122 rfl Tryz.ntmps122 rfl<|aQ<|au 4 rfl<|aH [2,3,4,5,8] rfl ?_
 refine ab (.a 2 rfl<|.c rfl (hmk) rfl<|.a 5 rfl<|.k [2,3,4,8,10,11] rfl)<|aj<|ab (.a 2 rfl<|.k [2,3,4,8,10,11,20] rfl)<|ah rfl (fun h1=>?_) (fun h1=>?_)
 ·exact absurd h1 (by decide)
 ·skip
  refine ak<|aQ<|au 3 rfl<|cM rfl rfl (bS.mono (hrt _) (fun r σ' h=>?_))
  obtain⟨rfl,rfl⟩:=h
  refine au 6 rfl<|aH [3,8,10,11,12] rfl ?_
  refine aj<|ab (.a 2 rfl<|.k [3,8,10,11,12,31] rfl)<|ah rfl (fun h2=>?_) (fun h2=>?_)
  ·exact absurd h2 (by decide)
  ·skip
   refine ak<|cU [0,3,4,5] (.c 3<|.c 8<|.c 10<|.c 12<|.nil) (.kept rfl (.cells (az.c<|az.c<|az.c<|az.nil))<|.kept rfl (.row az.pure)<|.kept rfl (.row az.pure)<|.kept rfl (.cells (az.c<|az.c<|az.c<|az.nil))<|.nil) rfl rfl ?_
   refine aQ<|au 3 rfl<|v7 rfl hen rfl rfl rfl rfl rfl (bS.mono hf (fun r σ' h=>?_))
   obtain rfl:=h
   refine aH [8,12] rfl ?_
   refine aQ<|au 3 rfl<|aH [8,9] rfl ?_
   refine aq<|⟨_,_,aA.of rfl,aB.bG (an.cons (aB.jb (an.cons aB.pure<|an.cons (aB.ey rfl an.pure)<|an.cons (aB.ey rfl an.pure) an.nil)) (an.cons aB.pure an.nil)),?_⟩
   unfold jl fA fL jq ax
   rw[if_pos rfl,hl]
theorem rC{T:ai}{k x n:Int}(h:jw T k x n=0):(ao T&&bV T k x)=true∧bu T n=true:=by
 unfold jw at h
 split at h
 ·rename_i h1
  refine⟨nM h1,?_⟩
  split at h
  ·assumption
  ·omega
 ·omega
theorem Bf(T:ai)(k x n:Int)(h12:T.nodes≤12):Can Tryz.prog 70 [aP T,cu k x,num n] (· =jl (jw T k x n) (wu T (aT T k x) n.toNat)):=by
 have key:Can Tryz.prog 122 [aP T,cu k x,num n,.func 123 [.aV (bx T) 0,.aV [num n] 0]] (· =jl (jw T k x n) (wu T (aT T k x) n.toNat)):=by
  by_cases he:jw T k x n=0
  ·obtain⟨hm,hn⟩:=rC he
   obtain⟨hv,hc⟩:=Bool.and_eq_true_iff.1 hm
   rw[aW]at hn
   obtain⟨m,rfl⟩:=Int.eq_ofNat_of_zero_le hn.1
   rw[he]
   exact ru T k x m _ _ _ (by kernel_rfl) hm hn.2 (pn _ _ _ _) (BD T (aT T k x) m hv (fK T k x) hn.2 h12)
  ·have h:=qc T k x n 123 [.aV (bx T) 0,.aV [num n] 0] he
   unfold jl at h ⊢
   rw[if_neg he]at h ⊢
   exact h
 refine aF Tryz.func70 rfl Tryz.ntmps70 rfl<|aQ<|au 5 rfl<|aH [3,4,5,6] rfl ?_
 refine aQ<|au 4 rfl<|ek rfl (key) rfl<|au 4 rfl<|aH [6,7] rfl ?_
 exact aq<|⟨_,_,aA.of rfl,aB.pure (p:=jl (jw T k x n) (wu T (aT T k x) n.toNat)),rfl⟩
theorem BY(T:ai)(k x n:Int):Can Tryz.prog 72 [aP T,cu k x,num n] (· =jl (jw T k x n) (dV T (aT T k x) n.toNat)):=by
 have key:Can Tryz.prog 122 [aP T,cu k x,num n,.func 125 []] (· =jl (jw T k x n) (dV T (aT T k x) n.toNat)):=by
  by_cases he:jw T k x n=0
  ·obtain⟨hm,hn⟩:=rC he
   obtain⟨hv,hc⟩:=Bool.and_eq_true_iff.1 hm
   rw[aW]at hn
   obtain⟨m,rfl⟩:=Int.eq_ofNat_of_zero_le hn.1
   rw[he]
   exact ru T k x m _ _ _ (by kernel_rfl) hm hn.2 (tM _ _ _ _) (A8 T (aT T k x) m)
  ·have h:=qc T k x n 125 [] he
   unfold jl at h ⊢
   rw[if_neg he]at h ⊢
   exact h
 refine aF Tryz.func72 rfl Tryz.ntmps72 rfl<|aQ<|au 4 rfl<|aH [2,3,4,6] rfl ?_
 refine aQ<|au 3 rfl<|ek rfl (key) rfl<|au 4 rfl<|aH [6,7] rfl ?_
 exact aq<|⟨_,_,aA.of rfl,aB.pure (p:=jl (jw T k x n) (dV T (aT T k x) n.toNat)),rfl⟩
theorem vQ(T:ai)(D:List Bool)(n:Int):PV.tuple [fA (gC T D n),num (cO T D [n])]=jl (cO T D [n]) (dV T D n.toNat):=by
 unfold jl gC;rfl
theorem Cv(T:ai)(n:Int):Can Tryz.prog 67 [aP T,num n] (· =jl (cO T [] [n]) (dV T [] n.toNat)):=by
 refine aF Tryz.func67 rfl Tryz.ntmps67 rfl<|aQ<|au 3 rfl<|aH [1,2,4] rfl ?_
 have hr:=mJ T [] n
 rw[vQ]at hr
 refine aQ<|au 2 rfl<|bz (vd rfl (an.cons aB.pure<|an.cons aB.b9<|an.cons aB.pure an.nil) (hr)) rfl<|au 4 rfl<|aH [4,5] rfl ?_
 exact aq<|⟨_,_,aA.of rfl,aB.pure (p:=jl (cO T [] [n]) (dV T [] n.toNat)),rfl⟩
end PW
end Go.Proofs.YtnegbdpggideiaaGreatDoor
namespace Go.Proofs.YtnegbdpggideiaaGreatDoor
namespace PW
open Go.RowKit cA Mem Net eS
theorem ur{T:ai}{a:Nat}(hv:ao T=true)(ha:a<2*T.af.length){d:Nat}(hd:(d:Int)<T.nodes){n:Nat}(hn:bq T a=(n:Int))(k x:Int)(hm:(ao T&&bV T k x)=true):d<(bK T (ik T k x) n true).length∧decide (0≤(bK T (ik T k x) n true).getD d 0)=ma T (aT T k x) (bq T a) d:=by
 have hnN:(n:Int)<T.nodes:=by rw[←hn];exact((aJ hv).tail a ha).2
 have hl:=(eo (D:=ik T k x) hv (dir:=true) hnN).1
 refine⟨by omega,?_⟩
 rw[hn,Cm hm,Bool.eq_iff_iff,decide_eq_true_eq,Fk hv (fK T k x) hnN hd,D6 hv hnN hd]
theorem FG(T:ai)(a d:Nat)(hv:ao T=true)(ha:a<2*T.af.length)(hd:(d:Int)<T.nodes):Can Tryz.prog 183 ([num d]++jt (fM T a) (aS T a) ((a / 2:Nat):Int) (FV T a) (F5 T a)) (· =cu (iP T a d).1 (iP T a d).2):=by
 obtain⟨n,hn⟩:=Int.eq_ofNat_of_zero_le ((aJ hv).tail a ha).1
 have hnt:(bq T a).toNat=n:=by omega
 have h2:=ur hv ha hd hn 2 (aS T a) (Cx hv ha)
 have hM:F5 T a=bK T (ik T 2 (aS T a)) n true:=by unfold F5;rw[hnt]
 have hL:0<fM T a→FV T a=bK T (ik T 3 (fM T a)) n true:=fun h=>by unfold FV;rw[if_pos h,hnt]
 have h:=Cg (fM T a) (aS T a) ((a / 2:Nat):Int) (FV T a) (F5 T a) d (ma T (aT T 3 (fM T a)) (bq T a) d) (ma T (aT T 2 (aS T a)) (bq T a) d)
  (fun hg=>by rw[hL hg];exact ur hv ha hd hn 3 (fM T a) (Em hv ha hg)) (by rw[hM];exact h2.1) (by rw[hM];exact h2.2)
 have e:(if(decide (0<fM T a)&&ma T (aT T 3 (fM T a)) (bq T a) d)=true then cu 3 (fM T a) else if(decide (aS T a≠(d:Int))&&ma T (aT T 2 (aS T a)) (bq T a) d)=true then cu 2 (aS T a) else cu 1 ((a / 2:Nat):Int))=cu (iP T a d).1 (iP T a d).2:=by
  unfold iP
  split
  ·rfl
  ·split<;>rfl
 rw[e]at h
 exact h
def ET(own:List Bool):List Int→Nat→Int
 | [],_=> -1
 |a::l,i=>bif aX own a.toNat then(i:Int) else ET own l (i+1)
theorem BU(own:List Bool):∀(l:List Int) (i:Nat),(ET own l i= -1∧me own l=none)∨∃j,j<l.length∧ET own l i=((i+j:Nat):Int)∧me own l=some (l.getD j 0)
 | [],i=>.inl ⟨rfl,rfl⟩
 |a::l,i=>by
  simp only[ET]
  by_cases h:aX own a.toNat=true
  ·refine .inr ⟨0,by simp,by rw[h];rfl,?_⟩
   unfold me
   rw[List.find?_cons_of_pos (by exact h)]
   rfl
  ·rw[Bool.eq_false_iff.2 h]
   simp only[cond_false]
   have e:me own (a::l)=me own l:=by
    unfold me
    rw[List.find?_cons_of_neg (by exact h)]
   rw[e]
   rcases BU own l (i+1)with h'|⟨j,h1,h2,h3⟩
   ·exact .inl h'
   ·exact .inr ⟨j+1,by simpa using h1,by rw[h2];congr 1;omega,by rw[h3];rfl⟩
theorem BS(own:List Bool)(k:Nat)(hk:k<own.length):Can Tryz.prog 154 ([num k]++[.aV [bf own] 0]) (· =flag (aX own k)):=by
 exact aF Tryz.func154 rfl Tryz.ntmps154 rfl<|ab (.a 1 rfl<|.k [0,1] rfl)<|ab (.a 2 rfl<|.v (aI (k) rfl) rfl<|.v (aL rfl ((show(bP own)[k]? =some (flag (aX own k)) by rw[cW _ k hk,gz]))) rfl<|.a 1 rfl<|.k [3] rfl)<|aq<|⟨_,_,aA.of rfl,aB.pure,rfl⟩
theorem CN(l:List Int)(own:List Bool)(hl:l.length≤1000)(hm:∀a∈l,∃k:Nat,a=(k:Int)∧k<own.length):Can Tryz.prog 153 [ax l,.func 154 [.aV [bf own] 0]] (· =num (ET own l 0)):=by
 refine aF Tryz.func153 rfl Tryz.ntmps153 rfl<|ab (.a 1 rfl<|.k [0,1] rfl)<|aj<|ab (.a 3 rfl<|.k [0,1,7,8] rfl)<|av<|eZ [0,1,7,8] rfl<|bw (fun r s=>∃i,i≤l.length∧r=l.length - i∧ET own l 0=ET own (l.drop i) i∧s=⟨[(0,ax l),(1,.func 154 [.aV [bf own] 0]),(7,num l.length),(8,num i)],[]⟩) l.length ⟨0,by omega,by omega,rfl,rfl⟩ ?_
 rintro r s ⟨i,hi,rfl,hx,rfl⟩
 refine ab (.a 1 rfl<|.k [0,1,7,8,9] rfl)<|aj<|ah rfl (fun h1=>?_) (fun h1=>?_)
 ·have hlt:i<l.length:=by have:=tt h1;omega
  obtain⟨k,hk,hkl⟩:=hm _ (bU (d:=0) hlt)
  rw[drop_cons l i hlt,hk]at hx
  simp only[ET,Int.toNat_natCast]at hx
  obtain⟨q,hq⟩:∃q,aX own k=q:=⟨_,rfl⟩
  have he:=BS own k hkl
  rw[hq]at he hx
  refine ak<|aj<|av<|ab (.a 2 rfl<|.k [0,1,5,7,8] rfl)<|ab (.a 3 rfl<|.v (aI (i) rfl) rfl<|.v (aL rfl ((aD l i hlt).trans (by rw[hk]))) rfl<|.c rfl (he) rfl<|.k [0,1,5,7,8,16] rfl)<|ah rfl (fun h2=>?_) (fun h2=>?_)
  ·subst h2
   rw[cond_true]at hx
   rw[hx]
   exact ab (.a 2 rfl<|.k [4] rfl)<|aq<|⟨_,_,aA.of rfl,aB.pure,rfl⟩
  ·subst h2
   rw[cond_false]at hx
   refine ak<|ay (.v (aR rfl) rfl<|.a 1 rfl<|.k [0,1,7,8] rfl) ?_
   exact⟨l.length - (i+1),by omega,i+1,by omega,rfl,hx,rfl⟩
 ·have hie:i=l.length:=by have:=ff h1;omega
  subst hie
  rw[List.drop_length]at hx
  rw[hx]
  exact bn<|ab (.a 1 rfl<|.k [4] rfl)<|aq<|⟨_,_,aA.of rfl,aB.pure,rfl⟩
theorem Fw(p:List Int):Can Tryz.prog 185 ([ax p]++[]) (· = .tuple []):=by
 exact aF Tryz.func185 rfl Tryz.ntmps185 rfl<|ak<|⟨_,_,aA.of rfl,aB.pure,rfl⟩
theorem vT(T:ai)(D:List Bool)(n d:Int):Can Tryz.prog 184 [aP T,bf D,num n,num d,.func 185 []] (· =num (ir T D n d)):=by
 refine aF Tryz.func184 rfl Tryz.ntmps184 rfl<|ab (.a 2 rfl<|.k [1,2,3,4,5] rfl)<|ab (.a 4 rfl<|.c rfl (rj T D n d) rfl<|.a 5 rfl<|.k [4,11,12] rfl)<|aj<|ab (.a 2 rfl<|.k [4,11,12,22] rfl)<|ah rfl (fun h1=>?_) (fun h1=>?_)
 ·skip
  refine ay (.a 2 rfl<|.c rfl (Fw _) rfl<|.k [12] rfl) ?_
  exact ab (.a 2 rfl<|.k [10] rfl)<|aq<|⟨_,_,aA.of rfl,aB.pure,rfl⟩
 ·skip
  exact ak<|ab (.a 2 rfl<|.k [10] rfl)<|aq<|⟨_,_,aA.of rfl,aB.pure,rfl⟩
theorem xe(T:ai)(D:List Bool)(n d:Int):Can Tryz.prog 156 [aP T,bf D,num n,num d] (· =flag (ma T D n d)):=by
 obtain⟨q,hq⟩:∃q,decide (ir T D n d=0)=q:=⟨_,rfl⟩
 unfold ma
 rw[hq]
 exact aF Tryz.func156 rfl Tryz.ntmps156 rfl<|ab (.a 2 rfl<|.k [1,2,3,4] rfl)<|ab (.a 4 rfl<|.c rfl (vT T D n d) rfl<|.v (cC rfl (hq)) rfl<|.a 1 rfl<|.k [8] rfl)<|aq<|⟨_,_,aA.of rfl,aB.pure,rfl⟩
theorem zQ(T:ai)(k x:Int)(hm:(ao T&&bV T k x)=true)(σ:cd):bS Tryz.prog 16 [aP T,cu k x] σ (fun r σ'=>r= .tuple [.own σ.length,num 0]∧σ'=σ++[ku (aT T k x)]):=by
 obtain⟨hv,hc⟩:=Bool.and_eq_true_iff.1 hm
 refine bS.frame (bS.mono (rE T k x hv hc) ?_)
 rintro r σ' ⟨rfl,rfl⟩
 refine⟨[.row 4 1 (2*T.af.length) (bP (aT T k x))],rfl,_,_,Up.bG (kA.cons (Up.own rfl) (kA.cons Up.pure kA.nil)),mL.cons (.row kA.pure) mL.nil,by simp,?_⟩
 unfold ku
 rw[gw]
 rfl
set_option maxHeartbeats 2000000 in
theorem B5(T:ai)(own:List Bool)(n d:Nat)(hv:ao T=true)(hfo:own.length=2*T.af.length)(hn:(n:Int)<T.nodes)(hd:(d:Int)<T.nodes)(h12:T.nodes≤12):Can Tryz.prog 114 [aP T,bf own,num n,num d] (· =ua (qg T own n d)):=by
 have hll:=bN hv
 have hof:bX T own=true:=by unfold bX;rw[hfo];simp
 have hnb:bu T (n:Int)=true:=aW.2 ⟨by omega,hn⟩
 have hdb:bu T (d:Int)=true:=aW.2 ⟨by omega,hd⟩
 have hnx:=qm T [] n d
 rw[nH hv (jC T) hnb hdb,Int.toNat_natCast,Int.toNat_natCast]at hnx
 unfold ep at hnx
 rw[if_pos rfl]at hnx
 have hlen:=AB hv [] n d
 have hmem:∀a∈bL T [] n d,∃k:Nat,a=(k:Int)∧k<2*T.af.length:=fun a ha=>by
  obtain⟨k,hk,hkn⟩:=ec ha
  exact⟨k,hk,hkn.gH⟩
 unfold qg
 obtain⟨l,hl⟩:∃l,bL T [] n d=l:=⟨_,rfl⟩
 rw[hl]at hnx hlen hmem ⊢
 have hix:=CN l own (by omega) (fun a ha=>by rw[hfo];exact hmem a ha)
 obtain⟨ix,hixe⟩:∃ix,ET own l 0=ix:=⟨_,rfl⟩
 have hih:=BU own l 0
 rw[hixe]at hix hih
 simp only[Nat.zero_add]at hih
 refine aF Tryz.func114 rfl Tryz.ntmps114 rfl<|aQ<|au 3 rfl<|aH [2,3,4,5,8] rfl ?_
 refine ab (.a 3 rfl<|.v (vd rfl (an.cons aB.pure<|an.cons aB.b9<|an.cons aB.pure<|an.cons aB.pure an.nil) (hnx)) rfl<|.a 5 rfl<|.k [2,3,4,5,8,9] rfl)<|ab (.a 1 rfl<|.v (dA rfl rfl) rfl<|.c rfl (hix) rfl<|.a 1 rfl<|.k [2,3,4,5,8,9,11] rfl)<|aj<|ab (.a 2 rfl<|.k [2,3,4,5,8,9,11,28] rfl)<|ah rfl (fun h3=>?_) (fun h3=>?_)
 ·have hno:me own l=none:=by
   rcases hih with h|⟨j,_,h,_⟩
   ·exact h.2
   ·rw[h]at h3;have:=tt h3;omega
  rw[hno]
  refine aQ<|au 3 rfl<|aH [8] rfl ?_
  exact aq<|⟨_,_,aA.of rfl,aB.jb (an.cons (aB.pure (p:=ax l))<|an.cons aB.pure<|an.cons aB.b9 an.nil),rfl⟩
 ·obtain⟨j,hjl,rfl,ha⟩:∃j,j<l.length∧ix=((j:Nat):Int)∧me own l=some (l.getD j 0):=by
   rcases hih with h|h
   ·rw[h.1]at h3;exact absurd h3 (by decide)
   ·exact h
  obtain⟨k,hkj,hk⟩:=hmem _ (bU (d:=0) hjl)
  rw[ha]
  simp only[]
  rw[hkj,Int.toNat_natCast]
  have hcm:(ao T&&bV T (iP T k d).1 (iP T k d).2)=true:=by rw[hv,Bv hv hk];rfl
  have hcl:=FG T k d hv hk hd
  have has:=xP T k hv hk
  have hmk:=fun σ=>zQ T (iP T k d).1 (iP T k d).2 hcm σ
  have hmx:xf T own n d k=if ma T (orM T (aT T (iP T k d).1 (iP T k d).2) own) n d=true then orM T (aT T (iP T k d).1 (iP T k d).2) own else own:=rfl
  generalize iP T k (d:Int)=cx at*
  obtain⟨ck,cy⟩:=cx
  simp only at hcm hcl hmk hmx
  have hMl:=gw T ck cy
  obtain⟨M,hM⟩:∃M,aT T ck cy=M:=⟨_,rfl⟩
  rw[hM]at hmk hmx hMl
  have hre:=uO T (xf T own n d k) n d hll h12
  rw[nH hv (Cy hof k) hnb hdb]at hre
  clear h3 hmem hih hix hixe
  refine ak<|mg (bh (ks:=[2,3,4,5,8,9,11]) rfl) ?_
  refine pA ([(2,num n),(3,num d),(4,.aV (bx T) 0),(5,.aV [bf own] 0),(8,.ptr 0 0),(12,.own 1)]) ([some (.cells 76 [.raw (.slice none 0 0),flag false,.raw (.slice none 0 0)]),ku M]) mixed ?_ ?_
  ·refine tD [[(2,num n),(3,num d),(4,.aV (bx T) 0),(5,.aV [bf own] 0),(8,.ptr 0 0),(9,ax l),(11,num j),(12,.own 1),(13,num 0),(31,.tuple [.own 1,num 0]),(32,aP T),(33,aP T),(34,ax l),(35,num j),(36,.aV (aN l) j),(37,num k),(38,.func 183 (jt (fM T k) (aS T k) ((k / 2:Nat):Int) (FV T k) (F5 T k))),(39,num d),(40,cu ck cy),(41,.tuple [.own 1,num 0]),(42,.own 1),(43,num 0)]] [[some (.cells 76 [.raw (.slice none 0 0),flag false,.raw (.slice none 0 0)])],[some (.cells 76 [.raw (.slice none 0 0),flag false,.raw (.slice none 0 0)]),ku M]] [2,3,4,5,8,9,11] rfl (by kernel_rfl) (fun M hi ho=>?_)
   have μ0:M 0 32767 0 [2,3,4,5,8,12] 1:=hi<|qz rfl (by kernel_rfl) (⟨rfl,bh (ks:=[2,3,4,5,8,12]) rfl⟩)
   have μ1:M 1 16383 0 [2,3,4,5,8,12,43] 1:=hi<|aa [(14,32767)] rfl (by kernel_rfl)<|ag (ho μ0) rfl rfl ae
   have μ2:M 2 8191 0 [2,3,4,5,8,42,43] 1:=hi<|aa [(13,16383)] rfl (by kernel_rfl)<|ag (ho μ1) rfl rfl ae
   have μ3:M 2 12287 0 [2,3,4,5,8,12,31] 1:=hi<|aa [(12,16383)] rfl (by kernel_rfl)<|ag (ho μ1) rfl rfl ae
   have μ4:M 3 4095 0 [2,3,4,5,8,31,42] 1:=hi<|aa [(12,8191),(13,12287)] rfl (by kernel_rfl)<|ag (ho μ2) rfl rfl<|ag (ho μ3) rfl rfl ae
   have μ5:M 3 6143 0 [2,3,4,5,8,31,43] 1:=hi<|aa [(11,8191)] rfl (by kernel_rfl)<|ag (ho μ2) rfl rfl ae
   have μ6:M 4 2047 0 [2,3,4,5,8,31] 1:=hi<|aa [(11,4095),(12,6143)] rfl (by kernel_rfl)<|ag (ho μ4) rfl rfl<|ag (ho μ5) rfl rfl ae
   have μ7:M 5 1023 0 [2,3,4,5,8,41] 1:=hi<|aa [(10,2047)] rfl (by kernel_rfl)<|ag (ho μ6) rfl rfl ae
   have μ8:M 6 511 0 [2,3,4,5,8,32,40] 0:=hi<|aa [(9,1023)] rfl (by kernel_rfl)<|eF rfl rfl rfl rfl (hmk _) (ho μ7) rfl rfl ae
   have μ9:M 7 255 0 [2,3,4,5,8,32,38,39] 0:=hi<|aa [(8,511)] rfl (by kernel_rfl)<|bc rfl rfl (fm rfl (hcl)) rfl (ho μ8) rfl rfl ae
   have μ10:M 8 127 0 [2,3,4,5,8,32,38] 0:=hi<|aa [(7,255)] rfl (by kernel_rfl)<|ag (ho μ9) rfl rfl ae
   have μ11:M 8 191 0 [2,3,4,5,8,32,33,37,39] 0:=hi<|aa [(6,255)] rfl (by kernel_rfl)<|bc rfl rfl (fm rfl (has)) rfl (ho μ9) rfl rfl ae
   have μ12:M 9 63 0 [2,3,4,5,8,32,33,37] 0:=hi<|aa [(6,127),(7,191)] rfl (by kernel_rfl)<|bc rfl rfl (fm rfl (has)) rfl (ho μ10) rfl rfl<|ag (ho μ11) rfl rfl ae
   have μ13:M 9 159 0 [2,3,4,5,8,32,33,36,39] 0:=hi<|aa [(5,191)] rfl (by kernel_rfl)<|bc rfl rfl (aL rfl ((aD l j hjl).trans (by rw[hkj]))) rfl (ho μ11) rfl rfl ae
   have μ14:M 10 31 0 [2,3,4,5,8,32,33,36] 0:=hi<|aa [(5,63),(7,159)] rfl (by kernel_rfl)<|bc rfl rfl (aL rfl ((aD l j hjl).trans (by rw[hkj]))) rfl (ho μ12) rfl rfl<|ag (ho μ13) rfl rfl ae
   have μ15:M 10 143 0 [2,3,4,5,8,32,33,34,35,39] 0:=hi<|aa [(4,159)] rfl (by kernel_rfl)<|bc rfl rfl (aI (j) rfl) rfl (ho μ13) rfl rfl ae
   have μ16:M 11 15 0 [2,3,4,5,8,32,33,34,35] 0:=hi<|aa [(4,31),(7,143)] rfl (by kernel_rfl)<|bc rfl rfl (aI (j) rfl) rfl (ho μ14) rfl rfl<|ag (ho μ15) rfl rfl ae
   have μ17:M 11 135 0 [2,3,4,5,8,11,32,33,34,39] 0:=hi<|aa [(3,143)] rfl (by kernel_rfl)<|ag (ho μ15) rfl rfl ae
   have μ18:M 12 7 0 [2,3,4,5,8,11,32,33,34] 0:=hi<|aa [(3,15),(7,135)] rfl (by kernel_rfl)<|ag (ho μ16) rfl rfl<|ag (ho μ17) rfl rfl ae
   have μ19:M 11 139 0 [2,3,4,5,8,9,32,33,35,39] 0:=hi<|aa [(2,143)] rfl (by kernel_rfl)<|ag (ho μ15) rfl rfl ae
   have μ20:M 12 11 0 [2,3,4,5,8,9,32,33,35] 0:=hi<|aa [(2,15),(7,139)] rfl (by kernel_rfl)<|ag (ho μ16) rfl rfl<|ag (ho μ19) rfl rfl ae
   have μ21:M 12 131 0 [2,3,4,5,8,9,11,32,33,39] 0:=hi<|aa [(2,135),(3,139)] rfl (by kernel_rfl)<|ag (ho μ17) rfl rfl<|ag (ho μ19) rfl rfl ae
   have μ22:M 13 3 0 [2,3,4,5,8,9,11,32,33] 0:=hi<|aa [(2,7),(3,11),(7,131)] rfl (by kernel_rfl)<|ag (ho μ18) rfl rfl<|ag (ho μ20) rfl rfl<|ag (ho μ21) rfl rfl ae
   have μ23:M 9 189 0 [2,3,4,5,8,32,37,39] 0:=hi<|aa [(1,191)] rfl (by kernel_rfl)<|ag (ho μ11) rfl rfl ae
   have μ24:M 10 61 0 [2,3,4,5,8,32,37] 0:=hi<|aa [(1,63),(7,189)] rfl (by kernel_rfl)<|ag (ho μ12) rfl rfl<|ag (ho μ23) rfl rfl ae
   have μ25:M 10 157 0 [2,3,4,5,8,32,36,39] 0:=hi<|aa [(1,159),(5,189)] rfl (by kernel_rfl)<|ag (ho μ13) rfl rfl<|bc rfl rfl (aL rfl ((aD l j hjl).trans (by rw[hkj]))) rfl (ho μ23) rfl rfl ae
   have μ26:M 11 29 0 [2,3,4,5,8,32,36] 0:=hi<|aa [(1,31),(5,61),(7,157)] rfl (by kernel_rfl)<|ag (ho μ14) rfl rfl<|bc rfl rfl (aL rfl ((aD l j hjl).trans (by rw[hkj]))) rfl (ho μ24) rfl rfl<|ag (ho μ25) rfl rfl ae
   have μ27:M 11 141 0 [2,3,4,5,8,32,34,35,39] 0:=hi<|aa [(1,143),(4,157)] rfl (by kernel_rfl)<|ag (ho μ15) rfl rfl<|bc rfl rfl (aI (j) rfl) rfl (ho μ25) rfl rfl ae
   have μ28:M 12 13 0 [2,3,4,5,8,32,34,35] 0:=hi<|aa [(1,15),(4,29),(7,141)] rfl (by kernel_rfl)<|ag (ho μ16) rfl rfl<|bc rfl rfl (aI (j) rfl) rfl (ho μ26) rfl rfl<|ag (ho μ27) rfl rfl ae
   have μ29:M 12 133 0 [2,3,4,5,8,11,32,34,39] 0:=hi<|aa [(1,135),(3,141)] rfl (by kernel_rfl)<|ag (ho μ17) rfl rfl<|ag (ho μ27) rfl rfl ae
   have μ30:M 13 5 0 [2,3,4,5,8,11,32,34] 0:=hi<|aa [(1,7),(3,13),(7,133)] rfl (by kernel_rfl)<|ag (ho μ18) rfl rfl<|ag (ho μ28) rfl rfl<|ag (ho μ29) rfl rfl ae
   have μ31:M 12 137 0 [2,3,4,5,8,9,32,35,39] 0:=hi<|aa [(1,139),(2,141)] rfl (by kernel_rfl)<|ag (ho μ19) rfl rfl<|ag (ho μ27) rfl rfl ae
   have μ32:M 13 9 0 [2,3,4,5,8,9,32,35] 0:=hi<|aa [(1,11),(2,13),(7,137)] rfl (by kernel_rfl)<|ag (ho μ20) rfl rfl<|ag (ho μ28) rfl rfl<|ag (ho μ31) rfl rfl ae
   have μ33:M 13 129 0 [2,3,4,5,8,9,11,32,39] 0:=hi<|aa [(1,131),(2,133),(3,137)] rfl (by kernel_rfl)<|ag (ho μ21) rfl rfl<|ag (ho μ29) rfl rfl<|ag (ho μ31) rfl rfl ae
   have μ34:M 14 1 0 [2,3,4,5,8,9,11,32] 0:=hi<|aa [(1,3),(2,5),(3,9),(7,129)] rfl (by kernel_rfl)<|ag (ho μ22) rfl rfl<|ag (ho μ30) rfl rfl<|ag (ho μ32) rfl rfl<|ag (ho μ33) rfl rfl ae
   have μ35:M 7 510 0 [2,3,4,5,8,40] 0:=hi<|aa [(0,511)] rfl (by kernel_rfl)<|ag (ho μ8) rfl rfl ae
   have μ36:M 8 254 0 [2,3,4,5,8,38,39] 0:=hi<|aa [(0,255),(8,510)] rfl (by kernel_rfl)<|ag (ho μ9) rfl rfl<|bc rfl rfl (fm rfl (hcl)) rfl (ho μ35) rfl rfl ae
   have μ37:M 9 126 0 [2,3,4,5,8,38] 0:=hi<|aa [(0,127),(7,254)] rfl (by kernel_rfl)<|ag (ho μ10) rfl rfl<|ag (ho μ36) rfl rfl ae
   have μ38:M 9 190 0 [2,3,4,5,8,33,37,39] 0:=hi<|aa [(0,191),(6,254)] rfl (by kernel_rfl)<|ag (ho μ11) rfl rfl<|bc rfl rfl (fm rfl (has)) rfl (ho μ36) rfl rfl ae
   have μ39:M 10 62 0 [2,3,4,5,8,33,37] 0:=hi<|aa [(0,63),(6,126),(7,190)] rfl (by kernel_rfl)<|ag (ho μ12) rfl rfl<|bc rfl rfl (fm rfl (has)) rfl (ho μ37) rfl rfl<|ag (ho μ38) rfl rfl ae
   have μ40:M 10 158 0 [2,3,4,5,8,33,36,39] 0:=hi<|aa [(0,159),(5,190)] rfl (by kernel_rfl)<|ag (ho μ13) rfl rfl<|bc rfl rfl (aL rfl ((aD l j hjl).trans (by rw[hkj]))) rfl (ho μ38) rfl rfl ae
   have μ41:M 11 30 0 [2,3,4,5,8,33,36] 0:=hi<|aa [(0,31),(5,62),(7,158)] rfl (by kernel_rfl)<|ag (ho μ14) rfl rfl<|bc rfl rfl (aL rfl ((aD l j hjl).trans (by rw[hkj]))) rfl (ho μ39) rfl rfl<|ag (ho μ40) rfl rfl ae
   have μ42:M 11 142 0 [2,3,4,5,8,33,34,35,39] 0:=hi<|aa [(0,143),(4,158)] rfl (by kernel_rfl)<|ag (ho μ15) rfl rfl<|bc rfl rfl (aI (j) rfl) rfl (ho μ40) rfl rfl ae
   have μ43:M 12 14 0 [2,3,4,5,8,33,34,35] 0:=hi<|aa [(0,15),(4,30),(7,142)] rfl (by kernel_rfl)<|ag (ho μ16) rfl rfl<|bc rfl rfl (aI (j) rfl) rfl (ho μ41) rfl rfl<|ag (ho μ42) rfl rfl ae
   have μ44:M 12 134 0 [2,3,4,5,8,11,33,34,39] 0:=hi<|aa [(0,135),(3,142)] rfl (by kernel_rfl)<|ag (ho μ17) rfl rfl<|ag (ho μ42) rfl rfl ae
   have μ45:M 13 6 0 [2,3,4,5,8,11,33,34] 0:=hi<|aa [(0,7),(3,14),(7,134)] rfl (by kernel_rfl)<|ag (ho μ18) rfl rfl<|ag (ho μ43) rfl rfl<|ag (ho μ44) rfl rfl ae
   have μ46:M 12 138 0 [2,3,4,5,8,9,33,35,39] 0:=hi<|aa [(0,139),(2,142)] rfl (by kernel_rfl)<|ag (ho μ19) rfl rfl<|ag (ho μ42) rfl rfl ae
   have μ47:M 13 10 0 [2,3,4,5,8,9,33,35] 0:=hi<|aa [(0,11),(2,14),(7,138)] rfl (by kernel_rfl)<|ag (ho μ20) rfl rfl<|ag (ho μ43) rfl rfl<|ag (ho μ46) rfl rfl ae
   have μ48:M 13 130 0 [2,3,4,5,8,9,11,33,39] 0:=hi<|aa [(0,131),(2,134),(3,138)] rfl (by kernel_rfl)<|ag (ho μ21) rfl rfl<|ag (ho μ44) rfl rfl<|ag (ho μ46) rfl rfl ae
   have μ49:M 14 2 0 [2,3,4,5,8,9,11,33] 0:=hi<|aa [(0,3),(2,6),(3,10),(7,130)] rfl (by kernel_rfl)<|ag (ho μ22) rfl rfl<|ag (ho μ45) rfl rfl<|ag (ho μ47) rfl rfl<|ag (ho μ48) rfl rfl ae
   have μ50:M 10 188 0 [2,3,4,5,8,37,39] 0:=hi<|aa [(0,189),(1,190)] rfl (by kernel_rfl)<|ag (ho μ23) rfl rfl<|ag (ho μ38) rfl rfl ae
   have μ51:M 11 60 0 [2,3,4,5,8,37] 0:=hi<|aa [(0,61),(1,62),(7,188)] rfl (by kernel_rfl)<|ag (ho μ24) rfl rfl<|ag (ho μ39) rfl rfl<|ag (ho μ50) rfl rfl ae
   have μ52:M 11 156 0 [2,3,4,5,8,36,39] 0:=hi<|aa [(0,157),(1,158),(5,188)] rfl (by kernel_rfl)<|ag (ho μ25) rfl rfl<|ag (ho μ40) rfl rfl<|bc rfl rfl (aL rfl ((aD l j hjl).trans (by rw[hkj]))) rfl (ho μ50) rfl rfl ae
   have μ53:M 12 28 0 [2,3,4,5,8,36] 0:=hi<|aa [(0,29),(1,30),(5,60),(7,156)] rfl (by kernel_rfl)<|ag (ho μ26) rfl rfl<|ag (ho μ41) rfl rfl<|bc rfl rfl (aL rfl ((aD l j hjl).trans (by rw[hkj]))) rfl (ho μ51) rfl rfl<|ag (ho μ52) rfl rfl ae
   have μ54:M 12 140 0 [2,3,4,5,8,34,35,39] 0:=hi<|aa [(0,141),(1,142),(4,156)] rfl (by kernel_rfl)<|ag (ho μ27) rfl rfl<|ag (ho μ42) rfl rfl<|bc rfl rfl (aI (j) rfl) rfl (ho μ52) rfl rfl ae
   have μ55:M 13 12 0 [2,3,4,5,8,34,35] 0:=hi<|aa [(0,13),(1,14),(4,28),(7,140)] rfl (by kernel_rfl)<|ag (ho μ28) rfl rfl<|ag (ho μ43) rfl rfl<|bc rfl rfl (aI (j) rfl) rfl (ho μ53) rfl rfl<|ag (ho μ54) rfl rfl ae
   have μ56:M 13 132 0 [2,3,4,5,8,11,34,39] 0:=hi<|aa [(0,133),(1,134),(3,140)] rfl (by kernel_rfl)<|ag (ho μ29) rfl rfl<|ag (ho μ44) rfl rfl<|ag (ho μ54) rfl rfl ae
   have μ57:M 14 4 0 [2,3,4,5,8,11,34] 0:=hi<|aa [(0,5),(1,6),(3,12),(7,132)] rfl (by kernel_rfl)<|ag (ho μ30) rfl rfl<|ag (ho μ45) rfl rfl<|ag (ho μ55) rfl rfl<|ag (ho μ56) rfl rfl ae
   have μ58:M 13 136 0 [2,3,4,5,8,9,35,39] 0:=hi<|aa [(0,137),(1,138),(2,140)] rfl (by kernel_rfl)<|ag (ho μ31) rfl rfl<|ag (ho μ46) rfl rfl<|ag (ho μ54) rfl rfl ae
   have μ59:M 14 8 0 [2,3,4,5,8,9,35] 0:=hi<|aa [(0,9),(1,10),(2,12),(7,136)] rfl (by kernel_rfl)<|ag (ho μ32) rfl rfl<|ag (ho μ47) rfl rfl<|ag (ho μ55) rfl rfl<|ag (ho μ58) rfl rfl ae
   have μ60:M 14 128 0 [2,3,4,5,8,9,11,39] 0:=hi<|aa [(0,129),(1,130),(2,132),(3,136)] rfl (by kernel_rfl)<|ag (ho μ33) rfl rfl<|ag (ho μ48) rfl rfl<|ag (ho μ56) rfl rfl<|ag (ho μ58) rfl rfl ae
   have μ61:M 15 0 0 [2,3,4,5,8,9,11] 0:=hi<|aa [(0,1),(1,2),(2,4),(3,8),(7,128)] rfl (by kernel_rfl)<|ag (ho μ34) rfl rfl<|ag (ho μ49) rfl rfl<|ag (ho μ57) rfl rfl<|ag (ho μ59) rfl rfl<|ag (ho μ60) rfl rfl ae
   exact μ61
  refine aj<|ab (.a 3 rfl<|.k [2,3,4,5,8,12,45,46] rfl)<|eh (σ':=[some (.cells 76 [.raw (.slice none 0 0),flag false,.raw (.slice none 0 0)]),ku (kq T M own 0)]) (by rw[Ao hMl]) ?_
  refine av<|eZ [2,3,4,5,8,12,45,46] rfl<|bw (fun r s=>∃a,a≤2*T.af.length∧r=2*T.af.length - a∧s=⟨[(2,num n),(3,num d),(4,.aV (bx T) 0),(5,.aV [bf own] 0),(8,.ptr 0 0),(12,.own 1),(45,num M.length),(46,num a)],[some (.cells 76 [.raw (.slice none 0 0),flag false,.raw (.slice none 0 0)]),ku (kq T M own a)]⟩) (2*T.af.length) ⟨0,by omega,by omega,rfl⟩ ?_
  rintro r s ⟨a,ha2,rfl,rfl⟩
  have hol:=pN T M own a
  refine ab (.a 1 rfl<|.k [2,3,4,5,8,12,45,46,47] rfl)<|aj<|ah rfl (fun h4=>?_) (fun h4=>?_)
  ·have hlt:a<2*T.af.length:=by have:=tt h4;omega
   have hst:=zP T M own a
   have hat:=FO (T:=T) (D:=M) (E:=own) hlt
   clear h4
   refine ak<|aj<|av<|ab (.a 2 rfl<|.k [2,3,4,5,8,12,14,45,46] rfl) ?_
   obtain⟨c1,hc1⟩:∃q,aX M a=q:=⟨_,rfl⟩
   obtain⟨c2,hc2⟩:∃q,aX own a=q:=⟨_,rfl⟩
   rw[hc1,hc2]at hst
   rw[hc1]at hat
   refine Hs (Q1:=fun st=>st=⟨[(2,num n),(3,num d),(4,.aV (bx T) 0),(5,.aV [bf own] 0),(8,.ptr 0 0),(12,.own 1),(45,num M.length),(46,num a)],[some (.cells 76 [.raw (.slice none 0 0),flag false,.raw (.slice none 0 0)]),ku (kq T M own (a+1))]⟩) ?_ ?_
   ·cases c1
    ·refine ba<|au 4 rfl<|bz (aI (a) rfl) rfl<|bz (aL rfl ((show(bP (kq T M own a))[a]? =some (flag false) by rw[cW _ a (by omega),hat]))) rfl<|au 3 rfl<|bz (aI (a) rfl) rfl<|bz (aL rfl ((show(bP own)[a]? =some (flag c2) by rw[cW _ a (by omega),gz,hc2]))) rfl<|au 1 rfl<|bz (aI (a) rfl) rfl<|br ((by first|exact bQ rfl (bE.tk.get rfl) rfl rfl rfl (by first|omega|(simp;omega))|exact bb rfl (bE.tk.get rfl) rfl rfl rfl (by first|omega|(simp;omega)))) rfl rfl<|aH [2,3,4,5,8,12,45,46] rfl ?_
     rw[←hst]
     unfold ku
     rw[List.length_set]
     rfl
    ·refine ba<|au 4 rfl<|bz (aI (a) rfl) rfl<|bz (aL rfl ((show(bP (kq T M own a))[a]? =some (flag true) by rw[cW _ a (by omega),hat]))) rfl<|au 6 rfl<|bz (aI (a) rfl) rfl<|br ((by first|exact bQ rfl (bE.tk.get rfl) rfl rfl rfl (by first|omega|(simp;omega))|exact bb rfl (bE.tk.get rfl) rfl rfl rfl (by first|omega|(simp;omega)))) rfl rfl<|aH [2,3,4,5,8,12,45,46] rfl ?_
     rw[←hst]
     unfold ku
     rw[List.length_set]
     rfl
   rintro _ rfl
   refine ay (.v (aR rfl) rfl<|.a 1 rfl<|.k [2,3,4,5,8,12,45,46] rfl) ?_
   exact⟨2*T.af.length - (a+1),by omega,a+1,by omega,rfl,rfl⟩
  ·have hae:a=2*T.af.length:=by have:=ff h4;omega
   subst hae
   rw[Cq]
   clear h4
   refine bn<|aj<|CE 12 1 rfl rfl ?_
   refine cU [0] (.c 2<|.c 3<|.c 4<|.c 5<|.c 8<|.c 12<|.nil) (.kept rfl (.cells (az.c<|az.c<|az.c<|az.nil))<|.nil) rfl rfl ?_
   obtain⟨q,hq⟩:∃q,ma T (orM T M own) n d=q:=⟨_,rfl⟩
   rw[hq]at hmx
   refine ab (.a 4 rfl<|.c rfl (hq▸xe T (orM T M own) n d) rfl<|.a 1 rfl<|.k [2,3,4,5,8,12,68] rfl)<|ah rfl (fun h5=>?_) (fun h5=>?_)
   ·have h5:q=false:=by simpa using h5
    rw[h5,if_neg (by simp)]at hmx
    rw[hmx]at hre ⊢
    refine ay (.a 2 rfl<|.k [2,3,4,8,12] rfl) ?_
    refine aQ<|au 4 rfl<|ek rfl (hre) rfl<|au 6 rfl<|aH [8,15] rfl ?_
    refine aQ<|au 2 rfl<|aH [8] rfl ?_
    exact aq<|⟨_,_,aA.of rfl,aB.pure (p:=ua _),rfl⟩
   ·have h5:q=true:=by simpa using h5
    rw[h5,if_pos rfl]at hmx
    rw[hmx]at hre ⊢
    refine ak<|aQ<|au 4 rfl<|ek rfl (hre) rfl<|au 6 rfl<|aH [8,15] rfl ?_
    refine aQ<|au 2 rfl<|aH [8] rfl ?_
    exact aq<|⟨_,_,aA.of rfl,aB.pure (p:=ua _),rfl⟩
def l7(T:ai)(M:List Bool)(o:List Int)(i:Nat):List Bool:=(List.range (2*T.af.length)).map fun(b:Nat)=>decide ((b:Int)∈o.take i)&&aX M b
theorem BN(T:ai)(M:List Bool)(o:List Int)(i:Nat):(l7 T M o i).length=2*T.af.length:=by simp[l7]
theorem pP{T:ai}{M:List Bool}{o:List Int}{i b:Nat}(h:b<(l7 T M o i).length):(l7 T M o i)[b]=(decide ((b:Int)∈o.take i)&&aX M b):=by simp[l7]
theorem Ap(T:ai)(M:List Bool)(o:List Int):l7 T M o 0=List.replicate (2*T.af.length) false:=by
 apply List.ext_getElem (by simp[l7])
 intro i h1 h2
 rw[pP]
 simp
theorem Aa{T:ai}{M:List Bool}{o:List Int}{i k:Nat}(hi:i<o.length)(hk:o.getD i 0=(k:Int))(hkl:k<2*T.af.length):l7 T M o (i+1)=if aX M k then(l7 T M o i).set k true else l7 T M o i:=by
 have hmem:∀b:Nat,((b:Int)∈o.take (i+1))↔((b:Int)∈o.take i∨b=k):=fun b=>by
  rw[df o i 0 hi,List.mem_append,List.mem_singleton,hk]
  exact⟨fun h=>h.imp id (fun e=>by omega),fun h=>h.imp id (fun e=>by omega)⟩
 split
 ·rename_i hd
  apply List.ext_getElem (by simp[l7])
  intro b h1 h2
  rw[pP,List.getElem_set]
  by_cases e:k=b
  ·subst e
   rw[if_pos rfl,decide_eq_true ((hmem k).2 (.inr rfl)),hd]
   rfl
  ·rw[if_neg e,pP]
   congr 1
   exact decide_eq_decide.2 ((hmem b).trans ⟨fun h=>h.resolve_right (fun e'=>e e'.symm),.inl⟩)
 ·rename_i hd
  unfold l7
  refine List.map_congr_left fun b _=>?_
  by_cases e:b=k
  ·subst e
   rw[Bool.eq_false_iff.2 hd]
   simp
  ·congr 1
   exact decide_eq_decide.2 ((hmem b).trans ⟨fun h=>h.resolve_right e,.inl⟩)
theorem CC(T:ai)(M:List Bool)(n:Int):l7 T M (bm T n) (bm T n).length=kd T M n:=by
 unfold l7 kd
 refine List.map_congr_left fun b hb=>?_
 have hb:=List.mem_range.1 hb
 rw[List.take_length,Bool.and_comm]
 congr 1
 refine decide_eq_decide.2 (iY.trans ⟨fun h=>by have:=h.2;rwa [Int.toNat_natCast]at this,fun h=>⟨cI.2 (by omega),by rw[Int.toNat_natCast];exact h⟩⟩)
set_option maxHeartbeats 2000000 in
theorem sd(T:ai)(k x n:Int)(h12:T.nodes≤12):Can Tryz.prog 55 [aP T,cu k x,num n] (· =jl (if dL T k x=0 then(if bu T n then 0 else 2) else 1) (sM T (aT T k x) n.toNat)):=by
 have hmk:=jA T k x
 unfold iI at hmk
 refine aF Tryz.func55 rfl Tryz.ntmps55 rfl<|aQ<|au 4 rfl<|aH [2,3,4,6] rfl ?_
 refine ab (.a 2 rfl<|.c rfl (hmk) rfl<|.a 5 rfl<|.k [2,3,6,8,9] rfl)<|aj<|ab (.a 2 rfl<|.k [2,3,6,8,9,22] rfl)<|ah rfl (fun h1=>?_) (fun h1=>?_)
 ·have h1:=tt h1
  rw[if_neg h1]
  have h1':=vM h1
  rw[h1']
  refine aQ<|au 4 rfl<|aH [6,7] rfl ?_
  exact aq<|⟨_,_,aA.of rfl,aB.bG (an.cons (aB.jb (an.cons aB.pure<|an.cons aB.b9<|an.cons aB.b9 an.nil)) (an.cons aB.pure an.nil)),rfl⟩
 ·have h1:dL T k x=0:=Classical.byContradiction (ff h1)
  obtain⟨hv,hc⟩:=Bool.and_eq_true_iff.1 (nM h1)
  rw[if_pos h1,if_pos h1]
  have hll:=bN hv
  refine ak<|aj<|ab (.a 2 rfl<|.c rfl (da T n) rfl<|.a 1 rfl<|.k [2,3,6,8,28] rfl)<|ah rfl (fun h2=>?_) (fun h2=>?_)
  ·have hn:bu T n=false:=by simpa using h2
   rw[hn]
   refine aQ<|au 3 rfl<|aH [6,7] rfl ?_
   exact aq<|⟨_,_,aA.of rfl,aB.bG (an.cons (aB.jb (an.cons aB.pure<|an.cons aB.b9<|an.cons aB.b9 an.nil)) (an.cons aB.pure an.nil)),rfl⟩
  ·have hn:bu T n=true:=by simpa using h2
   rw[hn,if_pos rfl]
   rw[aW]at hn
   obtain⟨m,rfl⟩:=Int.eq_ofNat_of_zero_le hn.1
   rw[Int.toNat_natCast]
   obtain⟨N,hN⟩:∃N:Nat,T.nodes=(N:Int):=⟨T.nodes.toNat,by omega⟩
   have hMl:=gw T k x
   obtain⟨M,hM⟩:∃M,aT T k x=M:=⟨_,rfl⟩
   rw[hM]at hMl ⊢
   have hol:(bm T m).length≤512:=Nat.le_trans (dH T m _) (by omega)
   clear h2 hmk
   refine ak<|aQ<|au 4 rfl<|aH [2,3,6,8,10] rfl ?_
   refine cm 1 1 76 3 rfl rfl ?_
   refine cm 1 2 3 1 rfl rfl ?_
   refine aQ<|au 1 rfl<|ek rfl (gO T (by omega)) rfl<|ca (dB rfl (bE.rk.get rfl) rfl rfl (show 2*(T.af.length:Int)=((2*T.af.length:Nat):Int) by omega) (show 2*(T.af.length:Int)=((2*T.af.length:Nat):Int) by omega) ⟨by unfold maxLen;omega,by omega⟩) rfl<|au 1 rfl<|aH [2,3,6,8,10,11] rfl ?_
   refine aj<|ab (.a 2 rfl<|.c rfl (nh T hll _) rfl<|.a 2 rfl<|.k [2,3,6,8,10,11,37,38,39] rfl)<|av<|eZ [2,3,6,8,10,11,37,38,39] rfl<|eh (σ':=[some (.cells 56 [num 0,.raw (.slice none 0 0),.raw (.slice none 0 0)]),some (.cells 56 [num m,.own 2,.own 3]),some (.row 76 3 0 []),some (.row 3 1 0 []),some (.row 4 1 (2*T.af.length) (bP (l7 T M (bm T m) 0)))]) (by rw[Ap,←gS];rfl) ?_
   refine bw (fun r s=>∃i,i≤(bm T m).length∧r=(bm T m).length - i∧s=⟨[(2,num m),(3,.aV (bx T) 0),(6,.ptr 0 0),(8,bf M),(10,.ptr 1 0),(11,.own 4),(37,ax (bm T m)),(38,num (bm T m).length),(39,num i)],[some (.cells 56 [num 0,.raw (.slice none 0 0),.raw (.slice none 0 0)]),some (.cells 56 [num m,.own 2,.own 3]),some (.row 76 3 0 []),some (.row 3 1 (cG M ((bm T m).take i)).length (aN (cG M ((bm T m).take i)))),some (.row 4 1 (2*T.af.length) (bP (l7 T M (bm T m) i)))]⟩) (bm T m).length ⟨0,by omega,by omega,rfl⟩ ?_
   rintro r s ⟨i,hi,rfl,rfl⟩
   skip
   refine ab (.a 1 rfl<|.k [2,3,6,8,10,11,37,38,39,40] rfl)<|aj<|ah rfl (fun h3=>?_) (fun h3=>?_)
   ·have hlt:i<(bm T m).length:=by have:=tt h3;omega
    obtain⟨a0,a1⟩:=jM (bU (d:=0) hlt)
    obtain⟨a,ha⟩:=Int.eq_ofNat_of_zero_le a0
    have hal:a<2*T.af.length:=by omega
    have hstep:cG M ((bm T m).take (i+1))=cG M ((bm T m).take i)++(if aX M a then [(a:Int)] else []):=by
     unfold cG
     rw[df _ i 0 hlt,List.filter_append,ha]
     simp only[List.filter_cons,List.filter_nil,Int.toNat_natCast]
    have hdl:(cG M ((bm T m).take i)).length≤1000:=Nat.le_trans (List.length_filter_le _ _) (by rw[List.length_take];omega)
    have hds:=Aa (T:=T) (M:=M) hlt ha hal
    have hdn:=BN T M (bm T m) i
    obtain⟨q,hq⟩:∃q,aX M a=q:=⟨_,rfl⟩
    rw[hq]at hstep hds
    clear h3
    refine ak<|aj<|av<|ab (.v (aI (i) rfl) rfl<|.v (aL rfl ((aD _ i hlt).trans (by rw[ha]))) rfl<|.a 1 rfl<|.k [2,3,6,8,10,11,13,37,38,39] rfl)<|ab (.a 2 rfl<|.v (aI (a) rfl) rfl<|.v (aL rfl ((show(bP M)[a]? =some (flag q) by rw[cW _ a (by omega),gz,hq]))) rfl<|.k [2,3,6,8,10,11,13,37,38,39,46] rfl)<|ah rfl (fun h4=>?_) (fun h4=>?_)
    ·subst h4
     rw[if_pos rfl]at hstep hds
     refine aQ<|au 2 rfl<|bz (aI (a) rfl) rfl<|br ((by first|exact bQ rfl (bE.tk.get rfl) rfl rfl rfl (by first|omega|(simp;omega))|exact bb rfl (bE.tk.get rfl) rfl rfl rfl (by first|omega|(simp;omega)))) rfl rfl<|aH [2,3,6,8,10,11,13,37,38,39] rfl ?_
     refine ba<|au 4 rfl<|ca (aY rfl (bE.rk.get rfl) rfl rfl rfl rfl (by unfold maxLen;omega)) rfl<|au 2 rfl ?_
     refine cE [0,1,2,5,4] (.c 2<|.c 3<|.c 6<|.c 8<|.c 10<|.c 11<|.c 37<|.c 38<|.c 39<|.nil) (.kept rfl (.cells (az.c<|az.c<|az.c<|az.nil))<|.kept rfl (.cells (az.c<|az.c<|az.c<|az.nil))<|.kept rfl (.row az.pure)<|.kept rfl (.dr rfl (bT _ _))<|.kept rfl (.row az.pure)<|.nil) rfl rfl (aO ?_)
     refine ay (.v (aR rfl) rfl<|.a 1 rfl<|.k [2,3,6,8,10,11,37,38,39] rfl) ?_
     refine⟨(bm T m).length - (i+1),by omega,i+1,by omega,rfl,?_⟩
     rw[hstep,hds]
     first
      |rfl
      |(simp only[List.length_append,List.length_singleton];rfl)
    ·subst h4
     rw[if_neg (by simp),List.append_nil]at hstep
     rw[if_neg (by simp)]at hds
     refine ak<|ay (.v (aR rfl) rfl<|.a 1 rfl<|.k [2,3,6,8,10,11,37,38,39] rfl) ?_
     refine⟨(bm T m).length - (i+1),by omega,i+1,by omega,rfl,?_⟩
     rw[hstep,hds]
     first
      |rfl
      |(simp only[List.length_append,List.length_singleton];rfl)
   ·have hie:i=(bm T m).length:=by have:=ff h3;omega
    subst hie
    rw[CC,List.take_length]
    clear h3
    refine bn<|aj ?_
    have hown:(kd T M m).length=2*T.af.length:=by simp[kd]
    unfold sM
    obtain⟨own,howe⟩:∃own,kd T M m=own:=⟨_,rfl⟩
    rw[howe]at hown ⊢
    obtain⟨dl,hdl⟩:∃dl,cG M (bm T m)=dl:=⟨_,rfl⟩
    rw[hdl]
    refine cU [0,1,2,3,4] (.c 2<|.c 3<|.c 6<|.c 10<|.c 11<|.nil) (.kept rfl (.cells (az.c<|az.c<|az.c<|az.nil))<|.kept rfl (.cells (az.c<|az.c<|az.c<|az.nil))<|.kept rfl (.row az.pure)<|.kept rfl (.row az.pure)<|.kept rfl (.dr (show 2*T.af.length=own.length by omega) rfl)<|.nil) rfl rfl ?_
    refine CE 11 4 rfl rfl ?_
    refine cU [0,1,2,3] (.c 2<|.c 3<|.c 6<|.c 10<|.c 11<|.nil) (.kept rfl (.cells (az.c<|az.c<|az.c<|az.nil))<|.kept rfl (.cells (az.c<|az.c<|az.c<|az.nil))<|.kept rfl (.row az.pure)<|.kept rfl (.row az.pure)<|.nil) rfl rfl ?_
    refine ab (.a 1 rfl<|.v (aL rfl ((show some (num T.nodes)=some (num (N:Int)) by rw[hN]))) rfl<|.a 1 rfl<|.k [2,3,6,10,11,58,59] rfl)<|av<|eZ [2,3,6,10,11,58,59] rfl<|bw (fun r s=>∃j,j≤N∧r=N - j∧s=⟨[(2,num m),(3,.aV (bx T) 0),(6,.ptr 0 0),(10,.ptr 1 0),(11,bf own),(58,num N),(59,num j)],[some (.cells 56 [num 0,.raw (.slice none 0 0),.raw (.slice none 0 0)]),some (.cells 56 [num m,.own 2,.own 3]),some (.row 76 3 j (dq (oo T own m j))),some (.row 3 1 dl.length (aN dl))]⟩) N ⟨0,by omega,by omega,rfl⟩ ?_
    rintro r s ⟨j,hj,rfl,rfl⟩
    refine ab (.a 1 rfl<|.k [2,3,6,10,11,58,59,60] rfl)<|aj<|ah rfl (fun h3=>?_) (fun h3=>?_)
    ·have hlt:j<N:=by have:=tt h3;omega
     have hre:=B5 T own m j hv hown hn.2 (by omega) h12
     refine ak<|aj<|av<|ab (.a 2 rfl<|.k [2,3,6,10,11,14,58,59] rfl)<|dI 8 20 mixed (
      .val [10] rfl (bF rfl) rfl rfl<|
      .val [62] rfl (bF rfl) rfl rfl<|
      .val [3] rfl (bF rfl) rfl rfl<|
      .val [11] rfl (bF rfl) rfl rfl<|
      .val [2] rfl (bF rfl) rfl rfl<|
      .val [14] rfl (bF rfl) rfl rfl<|
      .val [64,65,66,67] rfl (fm rfl (hre)) rfl rfl<|
      .val [68] rfl (bF rfl) rfl rfl<|
      .nil) (by kernel_rfl) rfl rfl (bh (ks:=[2,3,6,10,11,58,59,63,69]) rfl) ?_
     refine ca (aY rfl (bE.rk.get rfl) rfl rfl rfl rfl (by unfold maxLen;omega)) rfl<|au 2 rfl ?_
     refine cE [0,1,4,3] (.c 2<|.c 3<|.c 6<|.c 10<|.c 11<|.c 58<|.c 59<|.nil) (.kept rfl (.cells (az.c<|az.c<|az.c<|az.nil))<|.kept rfl (.cells (az.c<|az.c<|az.c<|az.nil))<|.kept rfl (.dr rfl (show _=dq (oo T own m (j+1)) by rw[Af];exact mw _ _))<|.kept rfl (.row az.pure)<|.nil) rfl rfl (aO ?_)
     refine ay (.v (aR rfl) rfl<|.a 1 rfl<|.k [2,3,6,10,11,58,59] rfl) ?_
     exact⟨N - (j+1),by omega,j+1,by omega,rfl,rfl⟩
    ·have hje:j=N:=by have:=ff h3;omega
     subst hje
     refine bn<|aQ<|bz (fi (ys:=[num m,.own 2,.own 3]) rfl (bE.tk.get rfl) rfl rfl rfl rfl) rfl<|au 2 rfl<|aH [6,7] rfl ?_
     refine aq<|⟨_,_,aA.of rfl,aB.bG (an.cons (aB.jb (an.cons aB.pure<|an.cons (aB.ey rfl an.pure)<|an.cons (aB.ey rfl an.pure) an.nil)) (an.cons aB.pure an.nil)),?_⟩
     unfold jl fA fL jq ax
     rw[if_pos rfl,qG,show T.nodes.toNat=j by omega]
end PW
end Go.Proofs.YtnegbdpggideiaaGreatDoor
namespace Go.Proofs.YtnegbdpggideiaaGreatDoor
namespace PW
open Go.RowKit cA Mem Net eS
namespace EO
def HM(T:ai)(D:List Bool)(d:Nat)(L:List Int)(a:Nat):List Int:=
 if(!aX D a)&&decide (0≤L.getD (aS T a).toNat 0)&&(decide (aS T a=(d:Int))|| !dc T (aS T a).toNat)&&(decide (L.getD (bq T a).toNat 0<0)||decide (L.getD (aS T a).toNat 0+cF T a<L.getD (bq T a).toNat 0))
 then L.set (bq T a).toNat (L.getD (aS T a).toNat 0+cF T a) else L
def dC(T:ai)(D:List Bool)(d:Nat):List Int:=(List.range T.nodes.toNat).foldl (fun L _=>(List.range (2*T.af.length)).foldl (HM T D d) L) ((List.replicate T.nodes.toNat (-1)).set d 0)
def ER(T:ai)(D:List Bool)(n:Nat)(out:List Int)(a:Nat):Bool:= !aX D a&&decide (0≤at' out (cN T false a))&&(decide (cN T false a=(n:Int))|| !dc T (cN T false a).toNat)
def GU(T:ai)(D:List Bool)(n:Nat)(out:List Int):Bool:=
 decide (out.length=T.nodes.toNat)&&decide (at' out (n:Int)=0)&&(List.range T.nodes.toNat).all (fun x=>decide (-1≤at' out (x:Int)))&&
 (List.range (2*T.af.length)).all (fun a=> !ER T D n out a||(decide (0≤at' out (fj T false a))&&decide (at' out (fj T false a)≤at' out (cN T false a)+cF T a)))&&
 (List.range T.nodes.toNat).all (fun x=>decide (x=n)||decide (at' out (x:Int)<0)||(List.range (2*T.af.length)).any fun a=>decide (fj T false a=(x:Int))&&ER T D n out a&&decide (at' out (x:Int)=at' out (cN T false a)+cF T a))
def ni(T:ai)(D:List Bool):Bool:=(List.range T.nodes.toNat).all fun d=>GU T D d (dC T D d)
theorem tR(T:ai)(D:List Bool)(n:Nat)(out:List Int)(a:Nat):Net.Way T D n false out a↔ER T D n out a=true:=by
 unfold Net.Way ER
 simp[and_assoc]
theorem D2{T:ai}{D:List Bool}(hv:ao T=true){n:Nat}{out:List Int}(h:GU T D n out=true):hJ T D n false out:=by
 have hN:=(aJ hv).nodes
 simp only[GU,Bool.and_eq_true,decide_eq_true_eq,List.all_eq_true,List.mem_range,Bool.or_eq_true,Bool.not_eq_true',List.any_eq_true]at h
 obtain⟨⟨⟨⟨h1,h2⟩,h3⟩,h4⟩,h5⟩:=h
 refine⟨by rw[h1];omega,h2,fun x hx=>h3 x (by omega),fun a ha hw=>?_,fun x hx h0=>?_⟩
 ·rcases h4 a ha with h|h
  ·rw[(tR T D n out a).1 hw]at h;cases h
  ·exact h
 ·rcases h5 x (by omega)with(h|h)|⟨a,ha,⟨h6,h7⟩,h8⟩
  ·exact .inl h
  ·omega
  ·exact .inr ⟨a,ha,h6,(tR T D n out a).2 h7,h8⟩
theorem EX{T:ai}{D:List Bool}(hv:ao T=true)(h:ni T D=true){d:Nat}(hd:(d:Int)<T.nodes):bK T D d false=dC T D d:=by
 refine nk (aJ hv) (D2 hv ?_)
 simp only[ni,List.all_eq_true,List.mem_range]at h
 exact h d (by omega)
def km(T:ai)(D:List Bool)(n d:Nat):List Int:=if n=d∨(dC T D d).getD n 0<0 then [] else kj T D (dC T D d) ((dC T D d).getD n 0) d (bm T n)
theorem next{T:ai}{D:List Bool}(hv:ao T=true)(h:ni T D=true){n d:Nat}(hd:(d:Int)<T.nodes):bL T D n d=km T D n d:=by
 unfold bL km;rw[EX hv h hd]
def sK(T:ai)(D:List Bool)(d:Nat):Nat→Nat→List Int
 |0,_=>[]
 |f+1,n=>match km T D n d with
  | []=>[]
  |a::_=>a::sK T D d f (aS T a.toNat).toNat
def pE(T:ai)(D:List Bool)(n d:Nat):List Int:=sK T D d ((dC T D d).getD n 0).toNat n
theorem first{T:ai}{D:List Bool}(hv:ao T=true)(h:ni T D=true){d:Nat}(hd:(d:Int)<T.nodes):∀f n,fO T D d f n=sK T D d f n
 |0,_=>rfl
 |f+1,n=>by
  simp only[fO,sK,next hv h hd]
  cases km T D n d with
  |nil=>rfl
  |cons a l=>simp only[first hv h hd f]
theorem H7{T:ai}{D:List Bool}(hv:ao T=true)(h:ni T D=true){n d:Nat}(hd:(d:Int)<T.nodes):ct T D n d=pE T D n d:=by
 unfold ct pE dN;rw[EX hv h hd,first hv h hd]
def DV(T:ai)(D:List Bool)(s d:Int):Int:=if cB T D s d=0 then(if(dC T D d.toNat).getD s.toNat 0<0 then 11 else 0) else cB T D s d
theorem oW{T:ai}{D:List Bool}{s d:Int}(h:cB T D s d=0):(d.toNat:Int)<T.nodes∧0≤d:=by
 obtain⟨_,_,_,h4⟩:=fB h
 rw[aW]at h4
 omega
theorem Iy{T:ai}{D:List Bool}(hv:ao T=true)(h:ni T D=true)(s d:Int):ir T D s d=DV T D s d:=by
 unfold ir DV dN
 by_cases h0:cB T D s d=0
 ·rw[if_pos h0,if_pos h0,EX hv h (oW h0).1]
 ·rw[if_neg h0,if_neg h0]
def wy(T:ai)(D:List Bool)(d:Nat):Nat→Nat→Int
 |0,m=>if m=d then 1 else 0
 |f+1,m=>if m=d then 1 else(km T D m d).foldl (fun c a=>min 2 (c+wy T D d f (aS T a.toNat).toNat)) 0
theorem lL{T:ai}{D:List Bool}(hv:ao T=true)(h:ni T D=true){d:Nat}(hd:(d:Int)<T.nodes):∀f m,mb T D d f m=wy T D d f m
 |0,_=>rfl
 |f+1,m=>by
  simp only[mb,wy,next hv h hd]
  split
  ·rfl
  ·exact foldl_congr fun c a _=>by rw[lL hv h hd f]
def zN(T:ai)(D:List Bool)(n:Int)(p:List Int)(i j:Nat):Bool:=
 decide ((dC T D (b7 T n (p.take j)).toNat).getD (b7 T n (p.take i)).toNat 0=cT T (p.take j) - cT T (p.take i))&&(decide (cB T D (b7 T n (p.take i)) (b7 T n (p.take j))=0)&&decide (wy T D (b7 T n (p.take j)).toNat ((dC T D (b7 T n (p.take j)).toNat).getD (b7 T n (p.take i)).toNat 0).toNat (b7 T n (p.take i)).toNat=1))
theorem Iu{T:ai}{D:List Bool}(hv:ao T=true)(h:ni T D=true)(n:Int)(p:List Int)(i j:Nat):eB T D n p i j=zN T D n p i j:=by
 unfold eB zN eL dz dN
 by_cases h0:cB T D (b7 T n (p.take i)) (b7 T n (p.take j))=0
 ·rw[EX hv h (oW h0).1,lL hv h (oW h0).1]
 ·rw[decide_eq_false h0];simp
def Bm(T:ai)(D:List Bool)(n:Int)(p:List Int):Nat→Nat→List bW
 |0,_=>[]
 |f+1,i=>if i<p.length then(match ky (zN T D n p i) i p.length with
  |some j=>⟨1,b7 T n (p.take j)⟩::Bm T D n p f j
  |none=>⟨2,p.getD i 0⟩::Bm T D n p f (i+1)) else []
theorem Bi{T:ai}{D:List Bool}(hv:ao T=true)(h:ni T D=true)(n:Int)(p:List Int):∀f i,gU T D n p f i=Bm T D n p f i
 |0,_=>rfl
 |f+1,i=>by
  have:eB T D n p i=zN T D n p i:=funext fun j=>Iu hv h n p i j
  simp only[gU,Bm,this]
  split
  ·cases ky (zN T D n p i) i p.length with
   |none=>simp only[Bi hv h n p f]
   |some j=>simp only[Bi hv h n p f]
  ·rfl
def G5(T:ai)(D:List Bool)(n d:Int):iw:=
 if DV T D n d=0∧n≠d then⟨[(pE T D n.toNat d.toNat).getD 0 0],true,kO (Bm T [] n (pE T D n.toNat d.toNat) (pE T D n.toNat d.toNat).length 0)⟩ else⟨[],false,[]⟩
theorem BI{T:ai}{D:List Bool}(hv:ao T=true)(h0:ni T []=true)(h:ni T D=true)(n d:Int):j9 T D n d=G5 T D n d:=by
 unfold j9 G5
 rw[Iy hv h]
 by_cases hd:(d.toNat:Int)<T.nodes
 ·unfold eD
  rw[H7 hv h hd,Bi hv h0]
 ·have:¬DV T D n d=0:=by
   unfold DV
   intro hh
   split at hh
   ·rename_i h1;exact hd (oW h1).1
   ·rename_i h1;exact h1 hh
  rw[if_neg (fun hh=>this hh.1),if_neg (fun hh=>this hh.1)]
def jt(T:ai)(a:Nat)(d:Int):Int×Int:=
 if(decide (0<fM T a)&&decide (DV T (aT T 3 (fM T a)) (bq T a) d=0))=true then(3,fM T a)
 else if(decide (aS T a≠d)&&decide (DV T (aT T 2 (aS T a)) (bq T a) d=0))=true then(2,aS T a)
 else(1,((a / 2:Nat):Int))
theorem Jm{T:ai}(hv:ao T=true){a:Nat}(h3:ni T (aT T 3 (fM T a))=true)(h2:ni T (aT T 2 (aS T a))=true)(d:Int):iP T a d=jt T a d:=by
 unfold iP jt ma
 rw[Iy hv h3,Iy hv h2]
end EO
end PW
end Go.Proofs.YtnegbdpggideiaaGreatDoor
namespace Go.Proofs.YtnegbdpggideiaaGreatDoor
namespace PW
open Go.RowKit cA Mem Net eS
namespace EO
def yy(T:ai)(D:List Bool)(n:Nat):dR:=⟨n,(List.range T.nodes.toNat).map fun(d:Nat)=>⟨km T D n d,false,[]⟩,cG D (bm T n)⟩
theorem Hx{T:ai}{D:List Bool}(hv:ao T=true)(h:ni T D=true)(n:Nat):dV T D n=yy T D n:=by
 have hN:=(aJ hv).nodes
 unfold dV yy nF
 congr 1
 refine List.map_congr_left fun d hd=>?_
 have:=List.mem_range.1 hd
 rw[next hv h (by omega)]
end EO
def BK:List Bool:=[true,true,false,false,false,false,false,false]
end PW
end Go.Proofs.YtnegbdpggideiaaGreatDoor
namespace Go.Proofs.YtnegbdpggideiaaGreatDoor
namespace PW
open Go.RowKit cA Mem Net eS
namespace EO
def DP(T:ai)(own:List Bool)(n d:Int)(a:Nat):List Bool:=
 if DV T (orM T (aT T (jt T a d).1 (jt T a d).2) own) n d=0 then orM T (aT T (jt T a d).1 (jt T a d).2) own else own
def GO(T:ai)(own:List Bool)(n d:Nat):iw:=match me own (km T [] n d)with
 |none=>⟨km T [] n d,false,[]⟩
 |some a=>G5 T (DP T own n d a.toNat) n d
def Hf(T:ai)(own:List Bool)(n d:Nat):Bool:=match me own (km T [] n d)with
 |none=>true
 |some a=>ni T (aT T 3 (fM T a.toNat))&&ni T (aT T 2 (aS T a.toNat))&&ni T (orM T (aT T (jt T a.toNat d).1 (jt T a.toNat d).2) own)&&ni T (DP T own n d a.toNat)
theorem rep{T:ai}{own:List Bool}{n d:Nat}(hv:ao T=true)(h0:ni T []=true)(hd:(d:Int)<T.nodes)(h:Hf T own n d=true):qg T own n d=GO T own n d:=by
 unfold qg GO
 unfold Hf at h
 rw[next hv h0 hd]
 cases hh:me own (km T [] n d)with
 |none=>rfl
 |some a=>
  rw[hh]at h
  simp only[Bool.and_eq_true]at h
  obtain⟨⟨⟨h1,h2⟩,h3⟩,h4⟩:=h
  have hm:xf T own n d a.toNat=DP T own n d a.toNat:=by
   unfold xf DP ma
   rw[Jm hv h1 h2,Iy hv h3]
   by_cases e:DV T (orM T (aT T (jt T a.toNat (d:Int)).1 (jt T a.toNat (d:Int)).2) own) n d=0
   ·rw[if_pos (by simpa using e),if_pos e]
   ·rw[if_neg (by simpa using e),if_neg e]
  simp only[]
  rw[hm,BI hv h0 h4]
def Ge(T:ai)(M:List Bool)(n:Nat):dR:=⟨n,(List.range T.nodes.toNat).map fun d=>GO T (kd T M n) n d,cG M (bm T n)⟩
theorem GH{T:ai}{M:List Bool}{n:Nat}(hv:ao T=true)(h0:ni T []=true)(h:((List.range T.nodes.toNat).all fun d=>Hf T (kd T M n) n d)=true):sM T M n=Ge T M n:=by
 have hN:=(aJ hv).nodes
 unfold sM Ge oo
 congr 1
 refine List.map_congr_left fun d hd=>?_
 have hd':=List.mem_range.1 hd
 exact rep hv h0 (by omega) (List.all_eq_true.1 h d hd)
end EO
def Gd:dR:=⟨0,[⟨[],false,[]⟩,⟨[7],true,[⟨1,3⟩,⟨1,2⟩,⟨1,1⟩]⟩,⟨[7],true,[⟨1,3⟩,⟨1,2⟩]⟩,⟨[7],false,[]⟩],[0]⟩
end PW
end Go.Proofs.YtnegbdpggideiaaGreatDoor
namespace Go.Proofs.YtnegbdpggideiaaGreatDoor
namespace PW
open Go.RowKit cA Mem Net Go.WideShapes
section
variable {H:Type} {enc:TypeId×Value→H} {W:World}
end
end PW
end Go.Proofs.YtnegbdpggideiaaGreatDoor
namespace Go.Proofs.YtnegbdpggideiaaGreatDoor
namespace PW
open Go.RowKit cA Mem Net eS
theorem sx(L:List Int):Can Tryz.prog 35 [ax L,ax L] (· =flag true):=by
 have h:=zm L L
 rw[show mh L L=true from decide_eq_true rfl]at h
 exact h
end PW
end Go.Proofs.YtnegbdpggideiaaGreatDoor
namespace Go.Proofs.YtnegbdpggideiaaGreatDoor
namespace PW
open Go.RowKit cA Mem Net eS
end PW
end Go.Proofs.YtnegbdpggideiaaGreatDoor
namespace Go.Proofs.YtnegbdpggideiaaGreatDoor
namespace PW
open Go.RowKit cA Mem Net eS
end PW
end Go.Proofs.YtnegbdpggideiaaGreatDoor
namespace Go.Proofs.YtnegbdpggideiaaGreatDoor
namespace PW
open Go.RowKit cA Mem Net eS
end PW
end Go.Proofs.YtnegbdpggideiaaGreatDoor
namespace Go.Proofs.YtnegbdpggideiaaGreatDoor
namespace PW
open Go.RowKit cA Mem Net eS
def H3(T:ai)(k x k' x':Int)(m:Nat):Bool:=(List.range m).all fun a=> !cD k x T.af (a / 2)||cD k' x' T.af (a / 2)
def Ij(T:ai)(k x k' x':Int):Bool:=H3 T k x k' x' (2*T.af.length)
end PW
end Go.Proofs.YtnegbdpggideiaaGreatDoor
namespace Go.Proofs.YtnegbdpggideiaaGreatDoor
namespace PW
open Go.RowKit Go.Shelf cA Mem Net eS
attribute [local go_sem] Oper.semAt_some
theorem xN(T:ai)(k x:Int):Can Tryz.prog 65 [aP T,cu k x] (· =flag (ao T&&bV T k x)):=by
 obtain⟨q1,hq1⟩:∃q,ao T=q:=⟨_,rfl⟩
 obtain⟨q2,hq2⟩:∃q,bV T k x=q:=⟨_,rfl⟩
 rw[hq1,hq2]
 refine aF Tryz.func65 rfl Tryz.ntmps65 rfl<|ab (.a 3 rfl<|.k [2,3] rfl)<|bC 4 (.raw (.bool (q1&&q2))) [] rfl ?_ ?_
 ·refine .a 1 rfl<|.c rfl (hq1▸de T) rfl<|.a 1 rfl<|?_
  cases q1
  ·exact .a 5 rfl<|.k [4] rfl
  ·exact .a 2 rfl<|.c rfl (hq2▸lg T k x) rfl<|.a 2 rfl<|.k [4] rfl
 exact aq<|⟨_,_,aA.of rfl,aB.pure,rfl⟩
end PW
end Go.Proofs.YtnegbdpggideiaaGreatDoor
namespace Go.Proofs.YtnegbdpggideiaaGreatDoor
namespace PW
open Go.RowKit cA Mem Net eS
abbrev I0(p:Int×Int):Value:=.agg (oz p)
theorem C2{T:ai}{k x:Int}{a:Nat}(ha:a<2*T.af.length):aX (aT T k x) a=cD k x T.af (a / 2):=by
 rw[←gz]
 unfold aT
 simp[ha]
def Ce(T:ai)(k x:Int)(l:List ((Int×Int)×PV)):Prop:=∀c v,(c,v)∈l→v=flag (Ij T k x c.1 c.2)
theorem Ce.pure{T:ai}{k x:Int}{l:List ((Int×Int)×PV)}(h:Ce T k x l):aG ((fD I0 l).map (·.2)):=⟨fun i u hu=>by
 have hm:=List.mem_of_getElem? hu
 simp only[fD,List.map_map,List.mem_map]at hm
 obtain⟨a,ha,rfl⟩:=hm
 have:=h a.1 a.2 ha
 show IsPure a.2
 rw[this]
 infer_instance⟩
theorem Ce.set{T:ai}{k x:Int}{l:List ((Int×Int)×PV)}(h:Ce T k x l)(c:Int×Int):Ce T k x (hZ c (flag (Ij T k x c.1 c.2)) l):=fun c' v hm=>by
 rcases pZ hm with e|e
 ·cases e;rfl
 ·exact h c' v e
end PW
end Go.Proofs.YtnegbdpggideiaaGreatDoor
namespace Go.Proofs.YtnegbdpggideiaaGreatDoor
namespace PW
open Go.RowKit cA Mem Net eS
end PW
end Go.Proofs.YtnegbdpggideiaaGreatDoor
