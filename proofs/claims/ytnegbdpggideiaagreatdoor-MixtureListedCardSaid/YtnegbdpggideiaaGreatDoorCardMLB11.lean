/- Texts of the proof, part 11. -/
import Derived.Test.YtnegbdpggideiaaGreatDoorCardMLB10
set_option linter.unusedVariables false
set_option linter.unusedSimpArgs false
set_option maxRecDepth 10000
set_option maxHeartbeats 1000000
namespace Go.Proofs.YtnegbdpggideiaaGreatDoor
namespace PW
open Go.RowKit cE Mem Net fk
theorem An{P:Program}{N L:Nat}{id:Nat}{l:List Oper}{y:Code}{st:St}{Q:Exit→St→Prop}(t':bZ)(σ':cf)(t'':bZ)(σ'':cf)(hm:P.follows .mixedOrders=true)(h:WA P N L l.toArray l.length (Array.replicate l.length false) st (fun s=>(s.σ=σ'∧Sub s.t t')∨(s.σ=σ''∧Sub s.t t'')))(hr:W P N L y ⟨t',σ'⟩ Q→W P N L y ⟨t'',σ''⟩ Q)(hq:W P N L y ⟨t',σ'⟩ Q):W P N L (.seq (.region id l.toArray true) y) st Q:=
 oP hm (h.mono fun s hs=>by
  obtain⟨t,σ⟩:=s
  rcases hs with⟨h1,h2⟩|⟨h1,h2⟩
  ·subst h1;exact kG h2 hq
  ·subst h1;exact kG h2 (hr hq))
theorem yC(T:ai)(k x:Int):bP T (fS T k x)=true:=by
 unfold fS
 split
 ·exact da T k x
 ·exact jI T
theorem Ew(T:ai)(k x:Int)(n:Nat)(hv:ao T=true)(hn:(n:Int)<T.nodes):Can Tryz.prog 179 ([bS k x]++[.aX (bw T) 0,.aX [num n] 0]) (· =aw (br T (fS T k x) n true)):=by
 have hmk:=lD T k x
 unfold ig at hmk
 have hfr:=CB T (fS T k x) n
 have hch:cw T (fS T k x) [(n:Int)]=0:=by
  unfold cw
  rw[hv,yC]
  simp[aU.2 (show 0≤(n:Int)∧(n:Int)<T.nodes by omega)]
 rw[hch]at hfr
 unfold dr at hfr
 rw[if_pos rfl,Int.toNat_natCast]at hfr
 exact aG Tryz.func179 rfl Tryz.ntmps179 rfl<|ab (.a 2 rfl<|.k [1,2,3] rfl)<|ab (.a 2 rfl<|.c rfl (hmk) rfl<|.a 5 rfl<|.k [1,2,5] rfl)<|ab (.a 3 rfl<|.c rfl (hfr) rfl<|.a 5 rfl<|.k [7] rfl)<|ab (.a 2 rfl<|.k [4] rfl)<|aq<|⟨_,_,az.of rfl,aC.pure,rfl⟩
theorem C4(g:Int)(L:List Int)(d:Nat)(c2:Bool)(hL:0<g→d<L.length∧decide (0≤L.getD d 0)=c2):Can Tryz.prog 181 ([num d]++[.aX (cn 3 g) 0,.aX [aw L] 0]) (· = .tuple [bS 3 g,flag (decide (0<g)&&c2)]):=by
 obtain⟨c1,hc1⟩:∃q,decide (0<g)=q:=⟨_,rfl⟩
 rw[hc1]
 refine aG Tryz.func181 rfl Tryz.ntmps181 rfl<|aR<|au 2 rfl<|aH [0,1,2,4] rfl ?_
 refine uD (Q1:=fun st=>st=⟨[(4,.ptr 0 0),(5,flag (c1&&c2))],[some (.cells 33 (cn 3 g))]⟩) ?_ ?_
 ·cases c1
  ·refine wg 20 1 ([some (.cells 33 [num 0,num 0])]::[some (.cells 33 (cn 3 g))]::[]) (⟨_,none,0,0⟩::⟨_,none,0,0⟩::⟨_,none,0,0⟩::⟨_,none,0,0⟩::⟨_,none,0,0⟩::⟨_,none,0,1⟩::⟨_,none,0,1⟩::⟨_,none,0,1⟩::⟨_,none,0,1⟩::⟨_,none,0,1⟩::⟨_,none,0,1⟩::⟨_,some 0,0,0⟩::⟨_,none,1,1⟩::[]) _ mixed ?grd1 rfl rfl rfl rfl (.cons (.val [1] rfl rfl (yz (eN (bF rfl) gC)) rfl rfl)<|.cons (.val [1] rfl rfl (yz (eN (bF rfl) gC)) rfl rfl)<|.cons (.val [7] rfl rfl (yz (eN (bF rfl) gC)) rfl rfl)<|.cons (.val [8] rfl rfl (yz (eN (cg rfl (hc1)) gC)) rfl rfl)<|.cons (.val [9] rfl rfl (yz (eN (bF rfl) gC)) rfl rfl)<|.cons (.skip rfl rfl rfl)<|.cons (.skip rfl rfl rfl)<|.cons (.skip rfl rfl rfl)<|.cons (.skip rfl rfl rfl)<|.cons (.skip rfl rfl rfl)<|.cons (.val [10,15] rfl rfl (yz (eN (bF rfl) (eN (bF rfl) gC))) rfl rfl)<|.cons (.pd [4,6] rfl rfl rfl rfl (dP rfl) rfl)<|.cons (.val [16] rfl rfl (yz (eN (bF rfl) gC)) rfl rfl) .nil) (bm (ks:=[4,5]) rfl) ?_
   case grd1=>kernel_rfl
   rfl
  ·refine wg 20 1 ([some (.cells 33 [num 0,num 0])]::[some (.cells 33 (cn 3 g))]::[]) (⟨_,none,0,0⟩::⟨_,none,0,0⟩::⟨_,none,0,0⟩::⟨_,none,0,0⟩::⟨_,none,0,0⟩::⟨_,none,0,1⟩::⟨_,none,0,1⟩::⟨_,none,0,1⟩::⟨_,none,0,1⟩::⟨_,none,0,1⟩::⟨_,none,0,1⟩::⟨_,some 0,0,0⟩::⟨_,none,1,1⟩::[]) _ mixed ?grd2 rfl rfl rfl rfl (.cons (.val [1] rfl rfl (yz (eN (bF rfl) gC)) rfl rfl)<|.cons (.val [1] rfl rfl (yz (eN (bF rfl) gC)) rfl rfl)<|.cons (.val [7] rfl rfl (yz (eN (bF rfl) gC)) rfl rfl)<|.cons (.val [8] rfl rfl (yz (eN (cg rfl (hc1)) gC)) rfl rfl)<|.cons (.val [9] rfl rfl (yz (eN (bF rfl) gC)) rfl rfl)<|.cons (.val [2] rfl rfl (yz (eN (bF rfl) (eN (bF rfl) gC))) rfl rfl)<|.cons (.val [0] rfl rfl (yz (eN (bF rfl) (eN (bF rfl) gC))) rfl rfl)<|.cons (.val [11,12] rfl rfl (yz (eN (aM (d) rfl (by omega) (by have:=(hL (tt hc1)).1;omega)) (eN (aM (d) rfl (by omega) (by have:=(hL (tt hc1)).1;omega)) gC))) rfl rfl)<|.cons (.val [13] rfl rfl (yz (eN (aO rfl (aA L d (hL (tt hc1)).1)) (eN (aO rfl (aA L d (hL (tt hc1)).1)) gC))) rfl rfl)<|.cons (.val [14] rfl rfl (yz (eN (cg rfl ((hL (tt hc1)).2)) (eN (cg rfl ((hL (tt hc1)).2)) gC))) rfl rfl)<|.cons (.val [10,15] rfl rfl (yz (eN (bF rfl) (eN (bF rfl) gC))) rfl rfl)<|.cons (.pd [4,6] rfl rfl rfl rfl (dP rfl) rfl)<|.cons (.val [16] rfl rfl (yz (eN (bF rfl) gC)) rfl rfl) .nil) (bm (ks:=[4,5]) rfl) ?_
   case grd2=>kernel_rfl
   rfl
 rintro _ rfl
 exact aq<|⟨_,_,az.of rfl,aC.pure (p:=.tuple [bS 3 g,flag (c1&&c2)]),rfl⟩
theorem Em(h:Int)(L:List Int)(d:Nat)(c2:Bool)(hd:d<L.length)(hL:decide (0≤L.getD d 0)=c2):Can Tryz.prog 182 ([num d]++[.aX (cn 2 h) 0,.aX [num h] 0,.aX [aw L] 0]) (· = .tuple [bS 2 h,flag (decide (h≠d)&&c2)]):=by
 obtain⟨c1,hc1⟩:∃q,decide ((d:Int)≠h)=q:=⟨_,rfl⟩
 have hc1':decide (h≠(d:Int))=c1:=by rw[←hc1];exact decide_eq_decide.2 ⟨fun e=>e.symm,fun e=>e.symm⟩
 rw[hc1']
 refine aG Tryz.func182 rfl Tryz.ntmps182 rfl<|aR<|au 2 rfl<|aH [0,1,2,3,5] rfl ?_
 refine uD (Q1:=fun st=>st=⟨[(5,.ptr 0 0),(6,flag (c1&&c2))],[some (.cells 33 (cn 2 h))]⟩) ?_ ?_
 ·cases c1
  ·refine wg 20 1 ([some (.cells 33 [num 0,num 0])]::[some (.cells 33 (cn 2 h))]::[]) (⟨_,none,0,0⟩::⟨_,none,0,0⟩::⟨_,none,0,0⟩::⟨_,none,0,0⟩::⟨_,none,0,0⟩::⟨_,none,0,1⟩::⟨_,none,0,1⟩::⟨_,none,0,1⟩::⟨_,none,0,1⟩::⟨_,none,0,1⟩::⟨_,none,0,1⟩::⟨_,some 0,0,0⟩::⟨_,none,1,1⟩::[]) _ mixed ?grd3 rfl rfl rfl rfl (.cons (.val [1] rfl rfl (yz (eN (bF rfl) gC)) rfl rfl)<|.cons (.val [0] rfl rfl (yz (eN (bF rfl) gC)) rfl rfl)<|.cons (.val [2] rfl rfl (yz (eN (bF rfl) gC)) rfl rfl)<|.cons (.val [8,9] rfl rfl (yz (eN (cg rfl (hc1)) gC)) rfl rfl)<|.cons (.val [10] rfl rfl (yz (eN (bF rfl) gC)) rfl rfl)<|.cons (.skip rfl rfl rfl)<|.cons (.skip rfl rfl rfl)<|.cons (.skip rfl rfl rfl)<|.cons (.skip rfl rfl rfl)<|.cons (.skip rfl rfl rfl)<|.cons (.val [11,16] rfl rfl (yz (eN (bF rfl) (eN (bF rfl) gC))) rfl rfl)<|.cons (.pd [5,7] rfl rfl rfl rfl (dP rfl) rfl)<|.cons (.val [17] rfl rfl (yz (eN (bF rfl) gC)) rfl rfl) .nil) (bm (ks:=[5,6]) rfl) ?_
   case grd3=>kernel_rfl
   rfl
  ·refine wg 20 1 ([some (.cells 33 [num 0,num 0])]::[some (.cells 33 (cn 2 h))]::[]) (⟨_,none,0,0⟩::⟨_,none,0,0⟩::⟨_,none,0,0⟩::⟨_,none,0,0⟩::⟨_,none,0,0⟩::⟨_,none,0,1⟩::⟨_,none,0,1⟩::⟨_,none,0,1⟩::⟨_,none,0,1⟩::⟨_,none,0,1⟩::⟨_,none,0,1⟩::⟨_,some 0,0,0⟩::⟨_,none,1,1⟩::[]) _ mixed ?grd4 rfl rfl rfl rfl (.cons (.val [1] rfl rfl (yz (eN (bF rfl) gC)) rfl rfl)<|.cons (.val [0] rfl rfl (yz (eN (bF rfl) gC)) rfl rfl)<|.cons (.val [2] rfl rfl (yz (eN (bF rfl) gC)) rfl rfl)<|.cons (.val [8,9] rfl rfl (yz (eN (cg rfl (hc1)) gC)) rfl rfl)<|.cons (.val [10] rfl rfl (yz (eN (bF rfl) gC)) rfl rfl)<|.cons (.val [3] rfl rfl (yz (eN (bF rfl) (eN (bF rfl) gC))) rfl rfl)<|.cons (.val [0] rfl rfl (yz (eN (bF rfl) (eN (bF rfl) gC))) rfl rfl)<|.cons (.val [12,13] rfl rfl (yz (eN (aM (d) rfl) (eN (aM (d) rfl) gC))) rfl rfl)<|.cons (.val [14] rfl rfl (yz (eN (aO rfl (aA L d hd)) (eN (aO rfl (aA L d hd)) gC))) rfl rfl)<|.cons (.val [15] rfl rfl (yz (eN (cg rfl (hL)) (eN (cg rfl (hL)) gC))) rfl rfl)<|.cons (.val [11,16] rfl rfl (yz (eN (bF rfl) (eN (bF rfl) gC))) rfl rfl)<|.cons (.pd [5,7] rfl rfl rfl rfl (dP rfl) rfl)<|.cons (.val [17] rfl rfl (yz (eN (bF rfl) gC)) rfl rfl) .nil) (bm (ks:=[5,6]) rfl) ?_
   case grd4=>kernel_rfl
   rfl
 rintro _ rfl
 exact aq<|⟨_,_,az.of rfl,aC.pure (p:=.tuple [bS 2 h,flag (c1&&c2)]),rfl⟩
def F2(g:Int)(L:List Int):PV:=.func 181 [.aX (cn 3 g) 0,.aX [aw L] 0]
def F3(h:Int)(L:List Int):PV:=.func 182 [.aX (cn 2 h) 0,.aX [num h] 0,.aX [aw L] 0]
def jJ(g h k:Int)(L M:List Int):List PV:=[.aX [.slice 2 [F2 g L,F3 h M]] 0,.aX (cn 1 k) 0]
instance (g:Int) (L:List Int):IsPure (F2 g L):=by unfold F2;infer_instance
instance (g:Int) (L:List Int):IsPure (F3 g L):=by unfold F3;infer_instance
instance (g h k:Int) (L M:List Int):aJ (jJ g h k L M):=by unfold jJ;infer_instance
theorem CL(g h k:Int)(L M:List Int)(d:Nat)(c2 c4:Bool)(hL:0<g→d<L.length∧decide (0≤L.getD d 0)=c2)(hd:d<M.length)(hM:decide (0≤M.getD d 0)=c4):Can Tryz.prog 183 ([num d]++jJ g h k L M) (· =if(decide (0<g)&&c2)=true then bS 3 g else if(decide (h≠d)&&c4)=true then bS 2 h else bS 1 k):=by
 have h2:=C4 g L d c2 hL
 have h3:=Em h M d c4 hd hM
 obtain⟨o1,ho1⟩:∃o,(decide (0<g)&&c2)=o:=⟨_,rfl⟩
 obtain⟨o2,ho2⟩:∃o,(decide (h≠(d:Int))&&c4)=o:=⟨_,rfl⟩
 rw[ho1]at h2 ⊢
 rw[ho2]at h3 ⊢
 have hrule:∀i,i<2→∃f cap,[F2 g L,F3 h M][i]? =some (.func f cap)∧enters Tryz.prog f=true∧aJ ([num d]++cap)∧Can Tryz.prog f ([num d]++cap) (· = .tuple [if i=0 then bS 3 g else bS 2 h,flag (if i=0 then o1 else o2)]):=fun i hi=>by
  match i,hi with
  |0,_=>exact⟨_,_,rfl,by kernel_rfl,inferInstance,h2⟩
  |1,_=>exact⟨_,_,rfl,by kernel_rfl,inferInstance,h3⟩
 unfold jJ
 refine aG Tryz.func183 rfl Tryz.ntmps183 rfl<|aR<|au 1 rfl<|aH [0,1,2,4] rfl ?_
 refine ak<|ab (.a 3 rfl<|.k [0,2,4,9,10,11] rfl)<|av<|fp [0,2,4,9,10,11] rfl<|bq (fun r s=>∃i,i≤2∧r=2 - i∧(1≤i→o1=false)∧(i=2→o2=false)∧s=⟨[(0,num d),(2,.aX (cn 1 k) 0),(4,.ptr 0 0),(9,.slice 2 [F2 g L,F3 h M]),(10,num 2),(11,num i)],[some (.cells 33 [num 0,num 0])]⟩) 2 ⟨0,by omega,by omega,fun h=>by omega,fun h=>by omega,rfl⟩ ?_
 rintro r s ⟨i,hi,rfl,hi1,hi2,rfl⟩
 refine ab (.a 1 rfl<|.k [0,2,4,9,10,11,12] rfl)<|ak<|ah rfl (fun h1=>?_) (fun h1=>?_)
 ·have hlt:i<2:=by have:=tt h1;omega
  obtain⟨f,cap,hf,hen,hpu,hcan⟩:=hrule i hlt
  obtain⟨kx,kn,hkx⟩:∃kx kn,(if i=0 then bS 3 g else bS 2 h)=bS kx kn:=by
   split
   ·exact⟨_,_,rfl⟩
   ·exact⟨_,_,rfl⟩
  obtain⟨o,ho⟩:∃o,(if i=0 then o1 else o2)=o:=⟨_,rfl⟩
  rw[ho,hkx]at hcan
  haveI:=hpu
  refine aj<|ak<|av<|ab (.v (aM (i) rfl) rfl<|.v (aO rfl (hf)) rfl<|.a 1 rfl<|.k [0,2,4,6,9,10,11] rfl)<|aR<|au 2 rfl<|bE (qi rfl hen rfl rfl hcan) rfl<|au 6 rfl<|aH [0,2,4,7,8,9,10,11] rfl ?_
  refine ab (.a 1 rfl<|.k [0,2,4,7,9,10,11,21] rfl)<|ah rfl (fun h2=>?_) (fun h2=>?_)
  ·subst h2
   refine aR<|au 2 rfl<|aH [4] rfl ?_
   refine aq<|⟨_,_,az.of rfl,aC.pure (p:=bS kx kn),?_⟩
   rw[←hkx]
   by_cases e:i=0
   ·rw[if_pos e]at ho ⊢
    rw[if_pos ho]
   ·rw[if_neg e]at ho ⊢
    rw[if_neg (by rw[hi1 (by omega)];simp),if_pos ho]
  ·subst h2
   refine aj<|dp [0] (.c 0<|.c 2<|.c 4<|.c 9<|.c 10<|.c 11<|.nil) (.kept rfl (.cells aE.pure)<|.nil) rfl rfl ?_
   refine aB (.v (aT rfl) rfl<|.a 1 rfl<|.k [0,2,4,9,10,11] rfl) ?_
   refine⟨2 - (i+1),by omega,i+1,by omega,rfl,fun _=>?_,fun e=>?_,rfl⟩
   ·by_cases e:i=0
    ·rw[if_pos e]at ho;exact ho
    ·exact hi1 (by omega)
   ·rw[if_neg (by omega)]at ho;exact ho
 ·have hie:i=2:=by have:=ff h1;omega
  subst hie
  rw[if_neg (by rw[hi1 (by omega)];simp),if_neg (by rw[hi2 rfl];simp)]
  refine bf<|aR<|au 2 rfl<|aH [4] rfl ?_
  exact aq<|⟨_,_,az.of rfl,aC.pure (p:=bS 1 k),rfl⟩
noncomputable def Hn(T:ai)(a:Nat):List Int:=if 0<fM T a then br T (fS T 3 (fM T a)) (bb T a).toNat true else []
noncomputable def Hg(T:ai)(a:Nat):List Int:=br T (fS T 2 (aS T a)) (bb T a).toNat true
set_option maxHeartbeats 4000000 in
theorem yJ(T:ai)(a:Nat)(hv:ao T=true)(ha:a<2*T.ae.length):Can Tryz.prog 155 [aN T,num a] (· = .func 183 (jJ (fM T a) (aS T a) ((a / 2:Nat):Int) (Hn T a) (Hg T a))):=by
 have hll:=bO hv
 have hi:a / 2<T.ae.length:=by omega
 have hS:=aK hv
 have htl:=iZ T a ha
 have hhd:=fI T a ha (by omega)
 obtain⟨n,hn⟩:=Int.eq_ofNat_of_zero_le (hS.tail a ha).1
 have hnN:(n:Int)<T.nodes:=by rw[←hn];exact(hS.tail a ha).2
 have hL:Hn T a=if 0<fM T a then br T (fS T 3 (fM T a)) n true else []:=by unfold Hn;rw[hn,Int.toNat_natCast]
 have hM:Hg T a=br T (fS T 2 (aS T a)) n true:=by unfold Hg;rw[hn,Int.toNat_natCast]
 rw[hn]at htl
 obtain⟨h,hh⟩:∃h,aS T a=h:=⟨_,rfl⟩
 obtain⟨g,hg⟩:∃g,fM T a=g:=⟨_,rfl⟩
 have hgl:(cu T.ae (a / 2)).tE=g:=hg
 rw[hh]at hhd hM
 rw[hg]at hL
 rw[hL,hM,hh,hg]
 have h1:=fun k x=>Ew T k x n hv hnN
 obtain⟨c1,hc1⟩:∃q,decide (0<g)=q:=⟨_,rfl⟩
 refine aG Tryz.func155 rfl Tryz.ntmps155 rfl<|ab (.a 2 rfl<|.k [1,2] rfl)<|An ([(1,num a),(2,.aX (bw T) 0),(5,.ptr 0 0),(6,.ptr 1 0)]) ([some (.cells 3 [num n]),some (.cells 3 [num h])]) ([(1,num a),(2,.aX (bw T) 0),(5,.ptr 1 0),(6,.ptr 0 0)]) ([some (.cells 3 [num h]),some (.cells 3 [num n])]) mixed ?_ (fun hh=>dp [1,0] (.c 1<|.c 2<|.c 5<|.c 6<|.nil) (.kept rfl (.cells aE.pure)<|.kept rfl (.cells aE.pure)<|.nil) rfl rfl hh) ?_
 ·refine uv [[(1,num a),(2,.aX (bw T) 0),(14,aN T),(15,num a),(16,num n),(17,aN T),(18,num a),(19,num h)],[(1,num a),(2,.aX (bw T) 0),(5,.ptr 0 0),(14,aN T),(15,num a),(16,num n),(17,aN T),(18,num a),(19,num h)],[(1,num a),(2,.aX (bw T) 0),(6,.ptr 0 0),(14,aN T),(15,num a),(16,num n),(17,aN T),(18,num a),(19,num h)],[(1,num a),(2,.aX (bw T) 0),(5,.ptr 0 0),(6,.ptr 1 0),(14,aN T),(15,num a),(16,num n),(17,aN T),(18,num a),(19,num h)],[(1,num a),(2,.aX (bw T) 0),(5,.ptr 1 0),(6,.ptr 0 0),(14,aN T),(15,num a),(16,num n),(17,aN T),(18,num a),(19,num h)]] [[],[some (.cells 3 [num n]),some (.cells 3 [num h])],[some (.cells 3 [num n]),some (.cells 3 [num 0])],[some (.cells 3 [num 0]),some (.cells 3 [num 0])],[some (.cells 3 [num 0])],[some (.cells 3 [num h]),some (.cells 3 [num n])],[some (.cells 3 [num 0]),some (.cells 3 [num n])]] [1,2] rfl (by kernel_rfl) (fun M hi ho=>?_)
  have μ0:M 0 1023 3 [1,2,5,6] 1:=hi<|qb rfl (by kernel_rfl) (.inl ⟨rfl,bm (ks:=[1,2,5,6]) rfl⟩)
  have μ1:M 1 511 3 [1,2,5,6,19] 2:=hi<|aa [(9,1023)] rfl (by kernel_rfl)<|oX rfl rfl (dP rfl) rfl rfl (ho μ0) rfl rfl af
  have μ2:M 2 255 3 [1,2,5,6,16,19] 3:=hi<|aa [(8,511)] rfl (by kernel_rfl)<|oX rfl rfl (dP rfl) rfl rfl (ho μ1) rfl rfl af
  have μ3:M 3 127 1 [1,2,5,16,19] 4:=hi<|aa [(7,255)] rfl (by kernel_rfl)<|bX rfl rfl (dP rfl) rfl (ho μ2) rfl rfl af
  have μ4:M 0 1023 4 [1,2,5,6] 5:=hi<|qb rfl (by kernel_rfl) (.inr ⟨rfl,bm (ks:=[1,2,5,6]) rfl⟩)
  have μ5:M 1 511 4 [1,2,5,6,19] 6:=hi<|aa [(9,1023)] rfl (by kernel_rfl)<|oX rfl rfl (dP rfl) rfl rfl (ho μ4) rfl rfl af
  have μ6:M 2 255 4 [1,2,5,6,16,19] 3:=hi<|aa [(8,511)] rfl (by kernel_rfl)<|oX rfl rfl (dP rfl) rfl rfl (ho μ5) rfl rfl af
  have μ7:M 3 191 2 [1,2,6,16,19] 4:=hi<|aa [(6,255)] rfl (by kernel_rfl)<|bX rfl rfl (dP rfl) rfl (ho μ6) rfl rfl af
  have μ8:M 4 63 0 [1,2,16,19] 0:=hi<|aa [(6,127),(7,191)] rfl (by kernel_rfl)<|bX rfl rfl (dP rfl) rfl (ho μ3) rfl rfl<|bX rfl rfl (dP rfl) rfl (ho μ7) rfl rfl af
  have μ9:M 3 223 3 [1,2,5,6,16,17,18] 3:=hi<|aa [(5,255)] rfl (by kernel_rfl)<|bc rfl rfl (dX rfl (hhd)) rfl (ho μ2) rfl rfl af
  have μ10:M 4 95 1 [1,2,5,16,17,18] 4:=hi<|aa [(5,127),(7,223)] rfl (by kernel_rfl)<|bc rfl rfl (dX rfl (hhd)) rfl (ho μ3) rfl rfl<|bX rfl rfl (dP rfl) rfl (ho μ9) rfl rfl af
  have μ11:M 3 223 4 [1,2,5,6,16,17,18] 3:=hi<|aa [(5,255)] rfl (by kernel_rfl)<|bc rfl rfl (dX rfl (hhd)) rfl (ho μ6) rfl rfl af
  have μ12:M 4 159 2 [1,2,6,16,17,18] 4:=hi<|aa [(5,191),(6,223)] rfl (by kernel_rfl)<|bc rfl rfl (dX rfl (hhd)) rfl (ho μ7) rfl rfl<|bX rfl rfl (dP rfl) rfl (ho μ11) rfl rfl af
  have μ13:M 5 31 0 [1,2,16,17,18] 0:=hi<|aa [(5,63),(6,95),(7,159)] rfl (by kernel_rfl)<|bc rfl rfl (dX rfl (hhd)) rfl (ho μ8) rfl rfl<|bX rfl rfl (dP rfl) rfl (ho μ10) rfl rfl<|bX rfl rfl (dP rfl) rfl (ho μ12) rfl rfl af
  have μ14:M 4 207 3 [1,2,5,6,16,17] 3:=hi<|aa [(4,223)] rfl (by kernel_rfl)<|ag (ho μ9) rfl rfl af
  have μ15:M 5 79 1 [1,2,5,16,17] 4:=hi<|aa [(4,95),(7,207)] rfl (by kernel_rfl)<|ag (ho μ10) rfl rfl<|bX rfl rfl (dP rfl) rfl (ho μ14) rfl rfl af
  have μ16:M 4 207 4 [1,2,5,6,16,17] 3:=hi<|aa [(4,223)] rfl (by kernel_rfl)<|ag (ho μ11) rfl rfl af
  have μ17:M 5 143 2 [1,2,6,16,17] 4:=hi<|aa [(4,159),(6,207)] rfl (by kernel_rfl)<|ag (ho μ12) rfl rfl<|bX rfl rfl (dP rfl) rfl (ho μ16) rfl rfl af
  have μ18:M 6 15 0 [1,2,16,17] 0:=hi<|aa [(4,31),(6,79),(7,143)] rfl (by kernel_rfl)<|ag (ho μ13) rfl rfl<|bX rfl rfl (dP rfl) rfl (ho μ15) rfl rfl<|bX rfl rfl (dP rfl) rfl (ho μ17) rfl rfl af
  have μ19:M 4 215 3 [1,2,5,6,16,18] 3:=hi<|aa [(3,223)] rfl (by kernel_rfl)<|ag (ho μ9) rfl rfl af
  have μ20:M 5 87 1 [1,2,5,16,18] 4:=hi<|aa [(3,95),(7,215)] rfl (by kernel_rfl)<|ag (ho μ10) rfl rfl<|bX rfl rfl (dP rfl) rfl (ho μ19) rfl rfl af
  have μ21:M 4 215 4 [1,2,5,6,16,18] 3:=hi<|aa [(3,223)] rfl (by kernel_rfl)<|ag (ho μ11) rfl rfl af
  have μ22:M 5 151 2 [1,2,6,16,18] 4:=hi<|aa [(3,159),(6,215)] rfl (by kernel_rfl)<|ag (ho μ12) rfl rfl<|bX rfl rfl (dP rfl) rfl (ho μ21) rfl rfl af
  have μ23:M 6 23 0 [1,2,16,18] 0:=hi<|aa [(3,31),(6,87),(7,151)] rfl (by kernel_rfl)<|ag (ho μ13) rfl rfl<|bX rfl rfl (dP rfl) rfl (ho μ20) rfl rfl<|bX rfl rfl (dP rfl) rfl (ho μ22) rfl rfl af
  have μ24:M 5 199 3 [1,2,5,6,16] 3:=hi<|aa [(3,207),(4,215)] rfl (by kernel_rfl)<|ag (ho μ14) rfl rfl<|ag (ho μ19) rfl rfl af
  have μ25:M 6 71 1 [1,2,5,16] 4:=hi<|aa [(3,79),(4,87),(7,199)] rfl (by kernel_rfl)<|ag (ho μ15) rfl rfl<|ag (ho μ20) rfl rfl<|bX rfl rfl (dP rfl) rfl (ho μ24) rfl rfl af
  have μ26:M 5 199 4 [1,2,5,6,16] 3:=hi<|aa [(3,207),(4,215)] rfl (by kernel_rfl)<|ag (ho μ16) rfl rfl<|ag (ho μ21) rfl rfl af
  have μ27:M 6 135 2 [1,2,6,16] 4:=hi<|aa [(3,143),(4,151),(6,199)] rfl (by kernel_rfl)<|ag (ho μ17) rfl rfl<|ag (ho μ22) rfl rfl<|bX rfl rfl (dP rfl) rfl (ho μ26) rfl rfl af
  have μ28:M 7 7 0 [1,2,16] 0:=hi<|aa [(3,15),(4,23),(6,71),(7,135)] rfl (by kernel_rfl)<|ag (ho μ18) rfl rfl<|ag (ho μ23) rfl rfl<|bX rfl rfl (dP rfl) rfl (ho μ25) rfl rfl<|bX rfl rfl (dP rfl) rfl (ho μ27) rfl rfl af
  have μ29:M 4 219 3 [1,2,5,6,14,15,17,18] 3:=hi<|aa [(2,223)] rfl (by kernel_rfl)<|bc rfl rfl (dX rfl (htl)) rfl (ho μ9) rfl rfl af
  have μ30:M 5 91 1 [1,2,5,14,15,17,18] 4:=hi<|aa [(2,95),(7,219)] rfl (by kernel_rfl)<|bc rfl rfl (dX rfl (htl)) rfl (ho μ10) rfl rfl<|bX rfl rfl (dP rfl) rfl (ho μ29) rfl rfl af
  have μ31:M 4 219 4 [1,2,5,6,14,15,17,18] 3:=hi<|aa [(2,223)] rfl (by kernel_rfl)<|bc rfl rfl (dX rfl (htl)) rfl (ho μ11) rfl rfl af
  have μ32:M 5 155 2 [1,2,6,14,15,17,18] 4:=hi<|aa [(2,159),(6,219)] rfl (by kernel_rfl)<|bc rfl rfl (dX rfl (htl)) rfl (ho μ12) rfl rfl<|bX rfl rfl (dP rfl) rfl (ho μ31) rfl rfl af
  have μ33:M 6 27 0 [1,2,14,15,17,18] 0:=hi<|aa [(2,31),(6,91),(7,155)] rfl (by kernel_rfl)<|bc rfl rfl (dX rfl (htl)) rfl (ho μ13) rfl rfl<|bX rfl rfl (dP rfl) rfl (ho μ30) rfl rfl<|bX rfl rfl (dP rfl) rfl (ho μ32) rfl rfl af
  have μ34:M 5 203 3 [1,2,5,6,14,15,17] 3:=hi<|aa [(2,207),(4,219)] rfl (by kernel_rfl)<|bc rfl rfl (dX rfl (htl)) rfl (ho μ14) rfl rfl<|ag (ho μ29) rfl rfl af
  have μ35:M 6 75 1 [1,2,5,14,15,17] 4:=hi<|aa [(2,79),(4,91),(7,203)] rfl (by kernel_rfl)<|bc rfl rfl (dX rfl (htl)) rfl (ho μ15) rfl rfl<|ag (ho μ30) rfl rfl<|bX rfl rfl (dP rfl) rfl (ho μ34) rfl rfl af
  have μ36:M 5 203 4 [1,2,5,6,14,15,17] 3:=hi<|aa [(2,207),(4,219)] rfl (by kernel_rfl)<|bc rfl rfl (dX rfl (htl)) rfl (ho μ16) rfl rfl<|ag (ho μ31) rfl rfl af
  have μ37:M 6 139 2 [1,2,6,14,15,17] 4:=hi<|aa [(2,143),(4,155),(6,203)] rfl (by kernel_rfl)<|bc rfl rfl (dX rfl (htl)) rfl (ho μ17) rfl rfl<|ag (ho μ32) rfl rfl<|bX rfl rfl (dP rfl) rfl (ho μ36) rfl rfl af
  have μ38:M 7 11 0 [1,2,14,15,17] 0:=hi<|aa [(2,15),(4,27),(6,75),(7,139)] rfl (by kernel_rfl)<|bc rfl rfl (dX rfl (htl)) rfl (ho μ18) rfl rfl<|ag (ho μ33) rfl rfl<|bX rfl rfl (dP rfl) rfl (ho μ35) rfl rfl<|bX rfl rfl (dP rfl) rfl (ho μ37) rfl rfl af
  have μ39:M 5 211 3 [1,2,5,6,14,15,18] 3:=hi<|aa [(2,215),(3,219)] rfl (by kernel_rfl)<|bc rfl rfl (dX rfl (htl)) rfl (ho μ19) rfl rfl<|ag (ho μ29) rfl rfl af
  have μ40:M 6 83 1 [1,2,5,14,15,18] 4:=hi<|aa [(2,87),(3,91),(7,211)] rfl (by kernel_rfl)<|bc rfl rfl (dX rfl (htl)) rfl (ho μ20) rfl rfl<|ag (ho μ30) rfl rfl<|bX rfl rfl (dP rfl) rfl (ho μ39) rfl rfl af
  have μ41:M 5 211 4 [1,2,5,6,14,15,18] 3:=hi<|aa [(2,215),(3,219)] rfl (by kernel_rfl)<|bc rfl rfl (dX rfl (htl)) rfl (ho μ21) rfl rfl<|ag (ho μ31) rfl rfl af
  have μ42:M 6 147 2 [1,2,6,14,15,18] 4:=hi<|aa [(2,151),(3,155),(6,211)] rfl (by kernel_rfl)<|bc rfl rfl (dX rfl (htl)) rfl (ho μ22) rfl rfl<|ag (ho μ32) rfl rfl<|bX rfl rfl (dP rfl) rfl (ho μ41) rfl rfl af
  have μ43:M 7 19 0 [1,2,14,15,18] 0:=hi<|aa [(2,23),(3,27),(6,83),(7,147)] rfl (by kernel_rfl)<|bc rfl rfl (dX rfl (htl)) rfl (ho μ23) rfl rfl<|ag (ho μ33) rfl rfl<|bX rfl rfl (dP rfl) rfl (ho μ40) rfl rfl<|bX rfl rfl (dP rfl) rfl (ho μ42) rfl rfl af
  have μ44:M 6 195 3 [1,2,5,6,14,15] 3:=hi<|aa [(2,199),(3,203),(4,211)] rfl (by kernel_rfl)<|bc rfl rfl (dX rfl (htl)) rfl (ho μ24) rfl rfl<|ag (ho μ34) rfl rfl<|ag (ho μ39) rfl rfl af
  have μ45:M 7 67 1 [1,2,5,14,15] 4:=hi<|aa [(2,71),(3,75),(4,83),(7,195)] rfl (by kernel_rfl)<|bc rfl rfl (dX rfl (htl)) rfl (ho μ25) rfl rfl<|ag (ho μ35) rfl rfl<|ag (ho μ40) rfl rfl<|bX rfl rfl (dP rfl) rfl (ho μ44) rfl rfl af
  have μ46:M 6 195 4 [1,2,5,6,14,15] 3:=hi<|aa [(2,199),(3,203),(4,211)] rfl (by kernel_rfl)<|bc rfl rfl (dX rfl (htl)) rfl (ho μ26) rfl rfl<|ag (ho μ36) rfl rfl<|ag (ho μ41) rfl rfl af
  have μ47:M 7 131 2 [1,2,6,14,15] 4:=hi<|aa [(2,135),(3,139),(4,147),(6,195)] rfl (by kernel_rfl)<|bc rfl rfl (dX rfl (htl)) rfl (ho μ27) rfl rfl<|ag (ho μ37) rfl rfl<|ag (ho μ42) rfl rfl<|bX rfl rfl (dP rfl) rfl (ho μ46) rfl rfl af
  have μ48:M 8 3 0 [1,2,14,15] 0:=hi<|aa [(2,7),(3,11),(4,19),(6,67),(7,131)] rfl (by kernel_rfl)<|bc rfl rfl (dX rfl (htl)) rfl (ho μ28) rfl rfl<|ag (ho μ38) rfl rfl<|ag (ho μ43) rfl rfl<|bX rfl rfl (dP rfl) rfl (ho μ45) rfl rfl<|bX rfl rfl (dP rfl) rfl (ho μ47) rfl rfl af
  have μ49:M 5 217 3 [1,2,5,6,14,17,18] 3:=hi<|aa [(1,219)] rfl (by kernel_rfl)<|ag (ho μ29) rfl rfl af
  have μ50:M 6 89 1 [1,2,5,14,17,18] 4:=hi<|aa [(1,91),(7,217)] rfl (by kernel_rfl)<|ag (ho μ30) rfl rfl<|bX rfl rfl (dP rfl) rfl (ho μ49) rfl rfl af
  have μ51:M 5 217 4 [1,2,5,6,14,17,18] 3:=hi<|aa [(1,219)] rfl (by kernel_rfl)<|ag (ho μ31) rfl rfl af
  have μ52:M 6 153 2 [1,2,6,14,17,18] 4:=hi<|aa [(1,155),(6,217)] rfl (by kernel_rfl)<|ag (ho μ32) rfl rfl<|bX rfl rfl (dP rfl) rfl (ho μ51) rfl rfl af
  have μ53:M 7 25 0 [1,2,14,17,18] 0:=hi<|aa [(1,27),(6,89),(7,153)] rfl (by kernel_rfl)<|ag (ho μ33) rfl rfl<|bX rfl rfl (dP rfl) rfl (ho μ50) rfl rfl<|bX rfl rfl (dP rfl) rfl (ho μ52) rfl rfl af
  have μ54:M 6 201 3 [1,2,5,6,14,17] 3:=hi<|aa [(1,203),(4,217)] rfl (by kernel_rfl)<|ag (ho μ34) rfl rfl<|ag (ho μ49) rfl rfl af
  have μ55:M 7 73 1 [1,2,5,14,17] 4:=hi<|aa [(1,75),(4,89),(7,201)] rfl (by kernel_rfl)<|ag (ho μ35) rfl rfl<|ag (ho μ50) rfl rfl<|bX rfl rfl (dP rfl) rfl (ho μ54) rfl rfl af
  have μ56:M 6 201 4 [1,2,5,6,14,17] 3:=hi<|aa [(1,203),(4,217)] rfl (by kernel_rfl)<|ag (ho μ36) rfl rfl<|ag (ho μ51) rfl rfl af
  have μ57:M 7 137 2 [1,2,6,14,17] 4:=hi<|aa [(1,139),(4,153),(6,201)] rfl (by kernel_rfl)<|ag (ho μ37) rfl rfl<|ag (ho μ52) rfl rfl<|bX rfl rfl (dP rfl) rfl (ho μ56) rfl rfl af
  have μ58:M 8 9 0 [1,2,14,17] 0:=hi<|aa [(1,11),(4,25),(6,73),(7,137)] rfl (by kernel_rfl)<|ag (ho μ38) rfl rfl<|ag (ho μ53) rfl rfl<|bX rfl rfl (dP rfl) rfl (ho μ55) rfl rfl<|bX rfl rfl (dP rfl) rfl (ho μ57) rfl rfl af
  have μ59:M 6 209 3 [1,2,5,6,14,18] 3:=hi<|aa [(1,211),(3,217)] rfl (by kernel_rfl)<|ag (ho μ39) rfl rfl<|ag (ho μ49) rfl rfl af
  have μ60:M 7 81 1 [1,2,5,14,18] 4:=hi<|aa [(1,83),(3,89),(7,209)] rfl (by kernel_rfl)<|ag (ho μ40) rfl rfl<|ag (ho μ50) rfl rfl<|bX rfl rfl (dP rfl) rfl (ho μ59) rfl rfl af
  have μ61:M 6 209 4 [1,2,5,6,14,18] 3:=hi<|aa [(1,211),(3,217)] rfl (by kernel_rfl)<|ag (ho μ41) rfl rfl<|ag (ho μ51) rfl rfl af
  have μ62:M 7 145 2 [1,2,6,14,18] 4:=hi<|aa [(1,147),(3,153),(6,209)] rfl (by kernel_rfl)<|ag (ho μ42) rfl rfl<|ag (ho μ52) rfl rfl<|bX rfl rfl (dP rfl) rfl (ho μ61) rfl rfl af
  have μ63:M 8 17 0 [1,2,14,18] 0:=hi<|aa [(1,19),(3,25),(6,81),(7,145)] rfl (by kernel_rfl)<|ag (ho μ43) rfl rfl<|ag (ho μ53) rfl rfl<|bX rfl rfl (dP rfl) rfl (ho μ60) rfl rfl<|bX rfl rfl (dP rfl) rfl (ho μ62) rfl rfl af
  have μ64:M 7 193 3 [1,2,5,6,14] 3:=hi<|aa [(1,195),(3,201),(4,209)] rfl (by kernel_rfl)<|ag (ho μ44) rfl rfl<|ag (ho μ54) rfl rfl<|ag (ho μ59) rfl rfl af
  have μ65:M 8 65 1 [1,2,5,14] 4:=hi<|aa [(1,67),(3,73),(4,81),(7,193)] rfl (by kernel_rfl)<|ag (ho μ45) rfl rfl<|ag (ho μ55) rfl rfl<|ag (ho μ60) rfl rfl<|bX rfl rfl (dP rfl) rfl (ho μ64) rfl rfl af
  have μ66:M 7 193 4 [1,2,5,6,14] 3:=hi<|aa [(1,195),(3,201),(4,209)] rfl (by kernel_rfl)<|ag (ho μ46) rfl rfl<|ag (ho μ56) rfl rfl<|ag (ho μ61) rfl rfl af
  have μ67:M 8 129 2 [1,2,6,14] 4:=hi<|aa [(1,131),(3,137),(4,145),(6,193)] rfl (by kernel_rfl)<|ag (ho μ47) rfl rfl<|ag (ho μ57) rfl rfl<|ag (ho μ62) rfl rfl<|bX rfl rfl (dP rfl) rfl (ho μ66) rfl rfl af
  have μ68:M 9 1 0 [1,2,14] 0:=hi<|aa [(1,3),(3,9),(4,17),(6,65),(7,129)] rfl (by kernel_rfl)<|ag (ho μ48) rfl rfl<|ag (ho μ58) rfl rfl<|ag (ho μ63) rfl rfl<|bX rfl rfl (dP rfl) rfl (ho μ65) rfl rfl<|bX rfl rfl (dP rfl) rfl (ho μ67) rfl rfl af
  have μ69:M 5 218 3 [1,2,5,6,15,17,18] 3:=hi<|aa [(0,219)] rfl (by kernel_rfl)<|ag (ho μ29) rfl rfl af
  have μ70:M 6 90 1 [1,2,5,15,17,18] 4:=hi<|aa [(0,91),(7,218)] rfl (by kernel_rfl)<|ag (ho μ30) rfl rfl<|bX rfl rfl (dP rfl) rfl (ho μ69) rfl rfl af
  have μ71:M 5 218 4 [1,2,5,6,15,17,18] 3:=hi<|aa [(0,219)] rfl (by kernel_rfl)<|ag (ho μ31) rfl rfl af
  have μ72:M 6 154 2 [1,2,6,15,17,18] 4:=hi<|aa [(0,155),(6,218)] rfl (by kernel_rfl)<|ag (ho μ32) rfl rfl<|bX rfl rfl (dP rfl) rfl (ho μ71) rfl rfl af
  have μ73:M 7 26 0 [1,2,15,17,18] 0:=hi<|aa [(0,27),(6,90),(7,154)] rfl (by kernel_rfl)<|ag (ho μ33) rfl rfl<|bX rfl rfl (dP rfl) rfl (ho μ70) rfl rfl<|bX rfl rfl (dP rfl) rfl (ho μ72) rfl rfl af
  have μ74:M 6 202 3 [1,2,5,6,15,17] 3:=hi<|aa [(0,203),(4,218)] rfl (by kernel_rfl)<|ag (ho μ34) rfl rfl<|ag (ho μ69) rfl rfl af
  have μ75:M 7 74 1 [1,2,5,15,17] 4:=hi<|aa [(0,75),(4,90),(7,202)] rfl (by kernel_rfl)<|ag (ho μ35) rfl rfl<|ag (ho μ70) rfl rfl<|bX rfl rfl (dP rfl) rfl (ho μ74) rfl rfl af
  have μ76:M 6 202 4 [1,2,5,6,15,17] 3:=hi<|aa [(0,203),(4,218)] rfl (by kernel_rfl)<|ag (ho μ36) rfl rfl<|ag (ho μ71) rfl rfl af
  have μ77:M 7 138 2 [1,2,6,15,17] 4:=hi<|aa [(0,139),(4,154),(6,202)] rfl (by kernel_rfl)<|ag (ho μ37) rfl rfl<|ag (ho μ72) rfl rfl<|bX rfl rfl (dP rfl) rfl (ho μ76) rfl rfl af
  have μ78:M 8 10 0 [1,2,15,17] 0:=hi<|aa [(0,11),(4,26),(6,74),(7,138)] rfl (by kernel_rfl)<|ag (ho μ38) rfl rfl<|ag (ho μ73) rfl rfl<|bX rfl rfl (dP rfl) rfl (ho μ75) rfl rfl<|bX rfl rfl (dP rfl) rfl (ho μ77) rfl rfl af
  have μ79:M 6 210 3 [1,2,5,6,15,18] 3:=hi<|aa [(0,211),(3,218)] rfl (by kernel_rfl)<|ag (ho μ39) rfl rfl<|ag (ho μ69) rfl rfl af
  have μ80:M 7 82 1 [1,2,5,15,18] 4:=hi<|aa [(0,83),(3,90),(7,210)] rfl (by kernel_rfl)<|ag (ho μ40) rfl rfl<|ag (ho μ70) rfl rfl<|bX rfl rfl (dP rfl) rfl (ho μ79) rfl rfl af
  have μ81:M 6 210 4 [1,2,5,6,15,18] 3:=hi<|aa [(0,211),(3,218)] rfl (by kernel_rfl)<|ag (ho μ41) rfl rfl<|ag (ho μ71) rfl rfl af
  have μ82:M 7 146 2 [1,2,6,15,18] 4:=hi<|aa [(0,147),(3,154),(6,210)] rfl (by kernel_rfl)<|ag (ho μ42) rfl rfl<|ag (ho μ72) rfl rfl<|bX rfl rfl (dP rfl) rfl (ho μ81) rfl rfl af
  have μ83:M 8 18 0 [1,2,15,18] 0:=hi<|aa [(0,19),(3,26),(6,82),(7,146)] rfl (by kernel_rfl)<|ag (ho μ43) rfl rfl<|ag (ho μ73) rfl rfl<|bX rfl rfl (dP rfl) rfl (ho μ80) rfl rfl<|bX rfl rfl (dP rfl) rfl (ho μ82) rfl rfl af
  have μ84:M 7 194 3 [1,2,5,6,15] 3:=hi<|aa [(0,195),(3,202),(4,210)] rfl (by kernel_rfl)<|ag (ho μ44) rfl rfl<|ag (ho μ74) rfl rfl<|ag (ho μ79) rfl rfl af
  have μ85:M 8 66 1 [1,2,5,15] 4:=hi<|aa [(0,67),(3,74),(4,82),(7,194)] rfl (by kernel_rfl)<|ag (ho μ45) rfl rfl<|ag (ho μ75) rfl rfl<|ag (ho μ80) rfl rfl<|bX rfl rfl (dP rfl) rfl (ho μ84) rfl rfl af
  have μ86:M 7 194 4 [1,2,5,6,15] 3:=hi<|aa [(0,195),(3,202),(4,210)] rfl (by kernel_rfl)<|ag (ho μ46) rfl rfl<|ag (ho μ76) rfl rfl<|ag (ho μ81) rfl rfl af
  have μ87:M 8 130 2 [1,2,6,15] 4:=hi<|aa [(0,131),(3,138),(4,146),(6,194)] rfl (by kernel_rfl)<|ag (ho μ47) rfl rfl<|ag (ho μ77) rfl rfl<|ag (ho μ82) rfl rfl<|bX rfl rfl (dP rfl) rfl (ho μ86) rfl rfl af
  have μ88:M 9 2 0 [1,2,15] 0:=hi<|aa [(0,3),(3,10),(4,18),(6,66),(7,130)] rfl (by kernel_rfl)<|ag (ho μ48) rfl rfl<|ag (ho μ78) rfl rfl<|ag (ho μ83) rfl rfl<|bX rfl rfl (dP rfl) rfl (ho μ85) rfl rfl<|bX rfl rfl (dP rfl) rfl (ho μ87) rfl rfl af
  have μ89:M 6 216 3 [1,2,5,6,17,18] 3:=hi<|aa [(0,217),(1,218)] rfl (by kernel_rfl)<|ag (ho μ49) rfl rfl<|ag (ho μ69) rfl rfl af
  have μ90:M 7 88 1 [1,2,5,17,18] 4:=hi<|aa [(0,89),(1,90),(7,216)] rfl (by kernel_rfl)<|ag (ho μ50) rfl rfl<|ag (ho μ70) rfl rfl<|bX rfl rfl (dP rfl) rfl (ho μ89) rfl rfl af
  have μ91:M 6 216 4 [1,2,5,6,17,18] 3:=hi<|aa [(0,217),(1,218)] rfl (by kernel_rfl)<|ag (ho μ51) rfl rfl<|ag (ho μ71) rfl rfl af
  have μ92:M 7 152 2 [1,2,6,17,18] 4:=hi<|aa [(0,153),(1,154),(6,216)] rfl (by kernel_rfl)<|ag (ho μ52) rfl rfl<|ag (ho μ72) rfl rfl<|bX rfl rfl (dP rfl) rfl (ho μ91) rfl rfl af
  have μ93:M 8 24 0 [1,2,17,18] 0:=hi<|aa [(0,25),(1,26),(6,88),(7,152)] rfl (by kernel_rfl)<|ag (ho μ53) rfl rfl<|ag (ho μ73) rfl rfl<|bX rfl rfl (dP rfl) rfl (ho μ90) rfl rfl<|bX rfl rfl (dP rfl) rfl (ho μ92) rfl rfl af
  have μ94:M 7 200 3 [1,2,5,6,17] 3:=hi<|aa [(0,201),(1,202),(4,216)] rfl (by kernel_rfl)<|ag (ho μ54) rfl rfl<|ag (ho μ74) rfl rfl<|ag (ho μ89) rfl rfl af
  have μ95:M 8 72 1 [1,2,5,17] 4:=hi<|aa [(0,73),(1,74),(4,88),(7,200)] rfl (by kernel_rfl)<|ag (ho μ55) rfl rfl<|ag (ho μ75) rfl rfl<|ag (ho μ90) rfl rfl<|bX rfl rfl (dP rfl) rfl (ho μ94) rfl rfl af
  have μ96:M 7 200 4 [1,2,5,6,17] 3:=hi<|aa [(0,201),(1,202),(4,216)] rfl (by kernel_rfl)<|ag (ho μ56) rfl rfl<|ag (ho μ76) rfl rfl<|ag (ho μ91) rfl rfl af
  have μ97:M 8 136 2 [1,2,6,17] 4:=hi<|aa [(0,137),(1,138),(4,152),(6,200)] rfl (by kernel_rfl)<|ag (ho μ57) rfl rfl<|ag (ho μ77) rfl rfl<|ag (ho μ92) rfl rfl<|bX rfl rfl (dP rfl) rfl (ho μ96) rfl rfl af
  have μ98:M 9 8 0 [1,2,17] 0:=hi<|aa [(0,9),(1,10),(4,24),(6,72),(7,136)] rfl (by kernel_rfl)<|ag (ho μ58) rfl rfl<|ag (ho μ78) rfl rfl<|ag (ho μ93) rfl rfl<|bX rfl rfl (dP rfl) rfl (ho μ95) rfl rfl<|bX rfl rfl (dP rfl) rfl (ho μ97) rfl rfl af
  have μ99:M 7 208 3 [1,2,5,6,18] 3:=hi<|aa [(0,209),(1,210),(3,216)] rfl (by kernel_rfl)<|ag (ho μ59) rfl rfl<|ag (ho μ79) rfl rfl<|ag (ho μ89) rfl rfl af
  have μ100:M 8 80 1 [1,2,5,18] 4:=hi<|aa [(0,81),(1,82),(3,88),(7,208)] rfl (by kernel_rfl)<|ag (ho μ60) rfl rfl<|ag (ho μ80) rfl rfl<|ag (ho μ90) rfl rfl<|bX rfl rfl (dP rfl) rfl (ho μ99) rfl rfl af
  have μ101:M 7 208 4 [1,2,5,6,18] 3:=hi<|aa [(0,209),(1,210),(3,216)] rfl (by kernel_rfl)<|ag (ho μ61) rfl rfl<|ag (ho μ81) rfl rfl<|ag (ho μ91) rfl rfl af
  have μ102:M 8 144 2 [1,2,6,18] 4:=hi<|aa [(0,145),(1,146),(3,152),(6,208)] rfl (by kernel_rfl)<|ag (ho μ62) rfl rfl<|ag (ho μ82) rfl rfl<|ag (ho μ92) rfl rfl<|bX rfl rfl (dP rfl) rfl (ho μ101) rfl rfl af
  have μ103:M 9 16 0 [1,2,18] 0:=hi<|aa [(0,17),(1,18),(3,24),(6,80),(7,144)] rfl (by kernel_rfl)<|ag (ho μ63) rfl rfl<|ag (ho μ83) rfl rfl<|ag (ho μ93) rfl rfl<|bX rfl rfl (dP rfl) rfl (ho μ100) rfl rfl<|bX rfl rfl (dP rfl) rfl (ho μ102) rfl rfl af
  have μ104:M 8 192 3 [1,2,5,6] 3:=hi<|aa [(0,193),(1,194),(3,200),(4,208)] rfl (by kernel_rfl)<|ag (ho μ64) rfl rfl<|ag (ho μ84) rfl rfl<|ag (ho μ94) rfl rfl<|ag (ho μ99) rfl rfl af
  have μ105:M 9 64 1 [1,2,5] 4:=hi<|aa [(0,65),(1,66),(3,72),(4,80),(7,192)] rfl (by kernel_rfl)<|ag (ho μ65) rfl rfl<|ag (ho μ85) rfl rfl<|ag (ho μ95) rfl rfl<|ag (ho μ100) rfl rfl<|bX rfl rfl (dP rfl) rfl (ho μ104) rfl rfl af
  have μ106:M 8 192 4 [1,2,5,6] 3:=hi<|aa [(0,193),(1,194),(3,200),(4,208)] rfl (by kernel_rfl)<|ag (ho μ66) rfl rfl<|ag (ho μ86) rfl rfl<|ag (ho μ96) rfl rfl<|ag (ho μ101) rfl rfl af
  have μ107:M 9 128 2 [1,2,6] 4:=hi<|aa [(0,129),(1,130),(3,136),(4,144),(6,192)] rfl (by kernel_rfl)<|ag (ho μ67) rfl rfl<|ag (ho μ87) rfl rfl<|ag (ho μ97) rfl rfl<|ag (ho μ102) rfl rfl<|bX rfl rfl (dP rfl) rfl (ho μ106) rfl rfl af
  have μ108:M 10 0 0 [1,2] 0:=hi<|aa [(0,1),(1,2),(3,8),(4,16),(6,64),(7,128)] rfl (by kernel_rfl)<|ag (ho μ68) rfl rfl<|ag (ho μ88) rfl rfl<|ag (ho μ98) rfl rfl<|ag (ho μ103) rfl rfl<|bX rfl rfl (dP rfl) rfl (ho μ105) rfl rfl<|bX rfl rfl (dP rfl) rfl (ho μ107) rfl rfl af
  exact μ108
 refine aR<|au 3 rfl<|bE (iA rfl rfl rfl (by decide) ((show(a:Int).tdiv 2=((a / 2:Nat):Int) by rw[Int.tdiv_eq_ediv_of_nonneg (by omega)];omega)) (by unfold In64;omega)) rfl<|bE (aM ((a / 2*7)) rfl) rfl<|au 1 rfl<|bE (aO rfl ((ei T.ae (a / 2) 6 hi (by omega)).trans (show(jj (cu T.ae (a / 2)))[6]? =some (num g) by rw[←hgl];rfl))) rfl<|au 3 rfl<|aH [1,2,5,6,7] rfl ?_
 refine aR<|au 4 rfl<|aH [1,2,5,6,7,8] rfl ?_
 refine aR<|au 1 rfl<|bE (iA rfl rfl rfl (by decide) ((show(a:Int).tdiv 2=((a / 2:Nat):Int) by rw[Int.tdiv_eq_ediv_of_nonneg (by omega)];omega)) (by unfold In64;omega)) rfl<|au 3 rfl<|aH [2,5,6,7,8,9] rfl ?_
 refine fT (xs:=[num n]) 5 0 0 rfl rfl ?_
 refine fT (xs:=[num h]) 6 1 0 rfl rfl ?_
 refine fT (xs:=cn 3 g) 7 2 0 rfl rfl ?_
 refine fT (xs:=cn 2 h) 8 3 0 rfl rfl ?_
 refine fT (xs:=cn 1 ((a / 2:Nat):Int)) 9 4 0 rfl rfl ?_
 refine dp [] (.c 2<|.c 5<|.c 6<|.c 7<|.c 8<|.c 9<|.nil) .nil rfl rfl ?_
 refine ab (.v (dL rfl rfl) rfl<|.a 1 rfl<|.k [6,7,8,9,10] rfl)<|aR<|au 1 rfl<|aH [6,7,8,9,10,11] rfl ?_
 refine ak<|bu 36 (.raw (.bool (c1))) [6,7,8,9,10,11] rfl ?_ ?_
 ·exact .a 2 rfl<|.v (cg rfl (hc1)) rfl<|.k [36,6,7,8,9,10,11] rfl
 refine ah rfl (fun h2=>?_) (fun h2=>?_)
 ·have hg0:0<g:=tt (by rw[hc1,h2])
  rw[if_pos hg0]
  refine bI<|au 2 rfl<|er rfl (h1 3 g) rfl<|au 1 rfl<|aH [6,7,8,9,10,11] rfl ?_
  refine aR<|au 2 rfl<|er rfl (h1 2 h) rfl<|au 2 rfl<|aH [6,7,8,9,11,12] rfl ?_
  refine aR<|bE (dL rfl rfl) rfl<|bE (dL rfl rfl) rfl<|cz (iD (xs:=[_,_]) rfl (bL.sl.get rfl) ⟨Nat.le_of_ble_eq_true rfl,Nat.le_of_ble_eq_true rfl⟩ rfl rfl) rfl<|au 2 rfl<|aH [9,13] rfl ?_
  refine ab (.v (dL rfl rfl) rfl<|.a 1 rfl<|.k [4] rfl)<|aq ?_
  unfold jJ F2 F3
  first
   |exact⟨_,_,az.of rfl,aC.iC (an.cons (aC.jh rfl (an.cons (aC.fu rfl (an.cons (aC.iC (an.cons aC.pure<|an.cons (aC.jh rfl (an.cons (aC.pure (p:=aw _)) an.nil)) an.nil))<|an.cons (aC.iC (an.cons aC.pure<|an.cons aC.pure<|an.cons (aC.jh rfl (an.cons (aC.pure (p:=aw _)) an.nil)) an.nil)) an.nil)) an.nil))<|an.cons aC.pure an.nil),rfl⟩
   |exact⟨_,_,az.of rfl,aC.iC (an.cons (aC.jh rfl (an.cons (aC.fu rfl (an.cons (aC.iC (an.cons aC.pure<|an.cons (aC.jh rfl (an.cons aC.b7 an.nil)) an.nil))<|an.cons (aC.iC (an.cons aC.pure<|an.cons aC.pure<|an.cons (aC.jh rfl (an.cons (aC.pure (p:=aw _)) an.nil)) an.nil)) an.nil)) an.nil))<|an.cons aC.pure an.nil),rfl⟩
 ·have hg0:¬0<g:=ff (by rw[hc1,h2])
  rw[if_neg hg0]
  refine aj<|aR<|au 2 rfl<|er rfl (h1 2 h) rfl<|au 2 rfl<|aH [6,7,8,9,11,12] rfl ?_
  refine aR<|bE (dL rfl rfl) rfl<|bE (dL rfl rfl) rfl<|cz (iD (xs:=[_,_]) rfl (bL.sl.get rfl) ⟨Nat.le_of_ble_eq_true rfl,Nat.le_of_ble_eq_true rfl⟩ rfl rfl) rfl<|au 2 rfl<|aH [9,13] rfl ?_
  refine ab (.v (dL rfl rfl) rfl<|.a 1 rfl<|.k [4] rfl)<|aq ?_
  unfold jJ F2 F3
  first
   |exact⟨_,_,az.of rfl,aC.iC (an.cons (aC.jh rfl (an.cons (aC.fu rfl (an.cons (aC.iC (an.cons aC.pure<|an.cons (aC.jh rfl (an.cons (aC.pure (p:=aw _)) an.nil)) an.nil))<|an.cons (aC.iC (an.cons aC.pure<|an.cons aC.pure<|an.cons (aC.jh rfl (an.cons (aC.pure (p:=aw _)) an.nil)) an.nil)) an.nil)) an.nil))<|an.cons aC.pure an.nil),rfl⟩
   |exact⟨_,_,az.of rfl,aC.iC (an.cons (aC.jh rfl (an.cons (aC.fu rfl (an.cons (aC.iC (an.cons aC.pure<|an.cons (aC.jh rfl (an.cons aC.b7 an.nil)) an.nil))<|an.cons (aC.iC (an.cons aC.pure<|an.cons aC.pure<|an.cons (aC.jh rfl (an.cons (aC.pure (p:=aw _)) an.nil)) an.nil)) an.nil)) an.nil))<|an.cons aC.pure an.nil),rfl⟩
end PW
end Go.Proofs.YtnegbdpggideiaaGreatDoor
namespace Go.Proofs.YtnegbdpggideiaaGreatDoor
namespace PW
open Go.RowKit cE Mem Net fk
theorem ta{α:Type}(f:α→List PV)(s:Nat)(hf:∀a,(f a).length=s)(z:α):∀(l:List α) (d:Nat),d<l.length→over (l.flatMap f) (d*s) (f z)=(l.set d z).flatMap f
 | [],d,h=>by simp at h
 |a::l,0,_=>by
  unfold over
  rw[List.flatMap_cons,Nat.zero_mul,List.take_zero,hf,List.set_cons_zero,List.flatMap_cons,List.nil_append,Nat.zero_add]
  congr 1
  rw[←hf a,List.drop_left]
 |a::l,d+1,h=>by
  have ih:=ta f s hf z l d (by simpa using h)
  unfold over at*
  have e:(d+1)*s=(f a).length+d*s:=by rw[hf,Nat.succ_mul];omega
  rw[List.flatMap_cons,List.set_cons_succ,List.flatMap_cons,←ih,e,List.take_length_add_append,Nat.add_assoc,List.drop_length_add_append,List.append_assoc]
theorem Ay(l:List iE)(d:Nat)(z:iE)(h:d<l.length):over (dw l) (d*3) (kq z)=dw (l.set d z):=ta kq 3 (fun _=>rfl) z l d h
noncomputable def lq(T:ai)(D:List Bool)(n N j:Nat):List iE:=(List.range N).map fun d=>if d<j then jA T D n (d:Int) else⟨bx T D n d,false,[]⟩
theorem B7(T:ai)(D:List Bool)(n N j:Nat):(lq T D n N j).length=N:=by simp[lq]
theorem Be(T:ai)(D:List Bool)(n N:Nat):lq T D n N 0=nY T D n N:=by unfold lq nY;simp
theorem Ca(T:ai)(D:List Bool)(n N:Nat):lq T D n N N=rK T D n N:=by
 unfold lq rK
 refine List.map_congr_left fun d hd=>?_
 rw[if_pos (List.mem_range.1 hd)]
theorem vF{T:ai}{D:List Bool}{n N j i:Nat}(h:i<(lq T D n N j).length):(lq T D n N j)[i]=if i<j then jA T D n (i:Int) else⟨bx T D n i,false,[]⟩:=by simp[lq]
theorem Aj(T:ai)(D:List Bool)(n N j:Nat):(lq T D n N j).set j (jA T D n (j:Int))=lq T D n N (j+1):=by
 apply List.ext_getElem (by simp[lq])
 intro i h1 h2
 rw[List.getElem_set,vF,vF]
 by_cases e:j=i
 ·subst e;rw[if_pos rfl,if_pos (by omega)]
 ·rw[if_neg e]
  by_cases h:i<j
  ·rw[if_pos h,if_pos (by omega)]
  ·rw[if_neg h,if_neg (by omega)]
def py(T:ai)(D:List Bool)(n:Nat)(l:List iE):cf:=[some (.cells 56 [num 0,.raw (.slice none 0 0),.raw (.slice none 0 0)]),some (.row 76 3 T.nodes.toNat (dw l)),some (.row 3 1 (cF D (bH T n)).length (aP (cF D (bH T n)))),some (.cells 56 [num n,.own 1,.own 2])]
theorem Du(T:ai)(D:List Bool)(n:Nat)(hv:ao T=true)(hf:bP T D=true)(hn:(n:Int)<T.nodes)(h12:T.nodes≤12):bU Tryz.prog 123 ([aY D,.agg [num n,.own 1,.own 2]]++[.aX (bw T) 0,.aX [num n] 0]) (py T D n (nY T D n T.nodes.toNat)) (fun _ σ'=>σ'=py T D n (rK T D n T.nodes.toNat)++[some (.cells 56 [num n,.own 1,.own 2])]):=by
 have hll:=bO hv
 have hnb:bn T (n:Int)=true:=aU.2 ⟨by omega,hn⟩
 obtain⟨N,hN⟩:∃N:Nat,T.nodes.toNat=N:=⟨_,rfl⟩
 have hNN:T.nodes=(N:Int):=by have:=(aK hv).nodes;omega
 unfold py
 rw[hN,←Be]
 obtain⟨dl,hdl⟩:∃dl,cF D (bH T n)=dl:=⟨_,rfl⟩
 rw[hdl]
 refine cr Tryz.func123 rfl Tryz.ntmps123 rfl<|aR<|cz (fJ rfl rfl rfl) rfl<|aH [0,2,3,5] rfl ?_
 refine ab (.a 4 rfl<|.k [0,2,3,5,9,10] rfl)<|av<|fp [0,2,3,5,9,10] rfl<|bq (fun r s=>∃j,j≤N∧r=N - j∧s=⟨[(0,aY D),(2,.aX (bw T) 0),(3,.aX [num n] 0),(5,.ptr 4 0),(9,num N),(10,num j)],[some (.cells 56 [num 0,.raw (.slice none 0 0),.raw (.slice none 0 0)]),some (.row 76 3 N (dw (lq T D n N j))),some (.row 3 1 dl.length (aP dl)),some (.cells 56 [num n,.own 1,.own 2]),some (.cells 56 [num n,.own 1,.own 2])]⟩) N ⟨0,by omega,by omega,rfl⟩ ?_
 rintro r s ⟨j,hj,rfl,rfl⟩
 refine ab (.a 1 rfl<|.k [0,2,3,5,9,10,11] rfl)<|ak<|ah rfl (fun h1=>?_) (fun h1=>?_)
 ·have hlt:j<N:=by have:=tt h1;omega
  have hre:=vt T D n j hll h12
  rw[nZ hv hf hnb (aU.2 ⟨by omega,by omega⟩)]at hre
  have hml:=B7 T D n N j
  have hel:(dw (lq T D n N j)).length=N*3:=by have:=Dr kq 3 (fun _=>rfl) (lq T D n N j);rw[hml]at this;exact this
  refine aj<|ak<|av<|ab (.a 2 rfl<|.k [0,2,3,5,6,9,10] rfl)<|dS 12 20 mixed (
   .val [5] rfl (bF rfl) rfl rfl<|
   .val [14] rfl (bF rfl) rfl rfl<|
   .val [6] rfl (bF rfl) rfl rfl<|
   .val [2] rfl (bF rfl) rfl rfl<|
   .val [0] rfl (bF rfl) rfl rfl<|
   .val [3] rfl (bF rfl) rfl rfl<|
   .val [6] rfl (bF rfl) rfl rfl<|
   .val [17,18,19,20] rfl (dX rfl (hre)) rfl rfl<|
   .val [21] rfl (bF rfl) rfl rfl<|
   .val [13] rfl (bF rfl) rfl rfl<|
   .late [13] rfl (si rfl rfl rfl) inferInstance rfl rfl<|
   .val [15,16] rfl (aM ((j*3)) rfl) rfl rfl<|
   .nil) (by kernel_rfl) rfl rfl (bm (ks:=[0,2,3,5,9,10,22,24]) rfl) ?_
  refine bd (uC rfl (bL.tk.get rfl) rfl rfl rfl rfl rfl (show j*3+3≤(dw (lq T D n N j)).length by omega)) rfl rfl<|aH [0,2,3,5,9,10] rfl ?_
  refine eD (σ':=[some (.cells 56 [num 0,.raw (.slice none 0 0),.raw (.slice none 0 0)]),some (.row 76 3 N (dw (lq T D n N (j+1)))),some (.row 3 1 dl.length (aP dl)),some (.cells 56 [num n,.own 1,.own 2]),some (.cells 56 [num n,.own 1,.own 2])]) (by rw[←Aj,←Ay _ _ _ (by omega)];rfl) ?_
  refine aB (.v (aT rfl) rfl<|.a 1 rfl<|.k [0,2,3,5,9,10] rfl) ?_
  exact⟨N - (j+1),by omega,j+1,by omega,rfl,rfl⟩
 ·have hje:j=N:=by have:=ff h1;omega
  subst hje
  refine bf<|⟨_,az.of rfl,?_⟩
  rw[Ca]
  rfl
theorem vv(T:ai)(D:List Bool)(n:Nat)(c:Option cU)(hch:cw T D [(n:Int)]=0):bU Tryz.prog 53 [aN T,aY D,num n] [c] (fun r σ'=>r= .tuple [.agg [num n,.own 3,.own 4],num 0]∧σ'=[c,some (.cells 56 [num n,.own 3,.own 4]),some (.cells 56 [num n,.own 3,.own 4]),some (.row 76 3 T.nodes.toNat (dw (nY T D n T.nodes.toNat))),some (.row 3 1 (cF D (bH T n)).length (aP (cF D (bH T n))))]):=by
 refine bU.frame (bU.mono (wN T D n hch) ?_)
 rintro r σ' ⟨rfl,rfl⟩
 refine⟨[.cells 56 [num n,.own 2,.own 3],.cells 56 [num n,.own 2,.own 3],.row 76 3 T.nodes.toNat (dw (nY T D n T.nodes.toNat)),.row 3 1 (cF D (bH T n)).length (aP (cF D (bH T n)))],rfl,.tuple [.agg [num n,.own 3,.own 4],num 0],[.cells 56 [num n,.own 3,.own 4],.cells 56 [num n,.own 3,.own 4],.row 76 3 T.nodes.toNat (dw (nY T D n T.nodes.toNat)),.row 3 1 (cF D (bH T n)).length (aP (cF D (bH T n)))],?_,?_,rfl,rfl⟩
 ·exact Up.bz (kN.cons (Up.ja (kN.cons Up.pure<|kN.cons (Up.own rfl)<|kN.cons (Up.own rfl) kN.nil)) (kN.cons Up.pure kN.nil))
 ·exact mF.cons (.cells (kN.cons Up.pure<|kN.cons (Up.own rfl)<|kN.cons (Up.own rfl) kN.nil))<|mF.cons (.cells (kN.cons Up.pure<|kN.cons (Up.own rfl)<|kN.cons (Up.own rfl) kN.nil))<|mF.cons (.row kN.pure)<|mF.cons (.row kN.pure) mF.nil
instance (e:Int) (x:dR):IsPure (jB e x):=by unfold jB;infer_instance
def jZ(T:ai)(k x n:Int):Int:=if dM T k x=0 then(if bn T n then 0 else 2) else 1
theorem oV{T:ai}{k x:Int}(h:dM T k x=0):(ao T&&bW T k x)=true:=by
 unfold dM at h
 split at h
 ·assumption
 ·omega
theorem D6(T:ai)(D:List Bool)(n:Nat):bU Tryz.prog 125 ([aY D,.agg [num n,.own 1,.own 2]]++[]) (py T D n (nY T D n T.nodes.toNat)) (fun _ σ'=>σ'=py T D n (nY T D n T.nodes.toNat)++[some (.cells 56 [num n,.own 1,.own 2])]):=by
 unfold py
 refine cr Tryz.func125 rfl Tryz.ntmps125 rfl<|bI<|cz (fJ rfl rfl rfl) rfl<|aH [] rfl ?_
 exact⟨_,az.of rfl,rfl⟩
theorem v8{T:ai}{k x:Int}(h:dM T k x≠0):dM T k x=1:=by
 unfold dM at*
 split
 ·rename_i h';rw[if_pos h']at h;exact absurd rfl h
 ·rfl
theorem qM(T:ai)(k x n:Int)(f:FuncId)(cap:List PV)[aJ cap](he:jZ T k x n≠0):
  Can Tryz.prog 122 [aN T,bS k x,num n,.func f cap] (· =jB (jZ T k x n) ⟨0,[],[]⟩):=by
 have hmk:=lD T k x
 have hmf:=da T k x
 unfold ig at hmk
 have hrt:=ql T (ay T k x) n
 refine aG Tryz.func122 rfl Tryz.ntmps122 rfl<|aR<|au 4 rfl<|aH [2,3,4,5,8] rfl ?_
 refine ab (.a 2 rfl<|.c rfl (hmk) rfl<|.a 5 rfl<|.k [2,3,4,8,10,11] rfl)<|ak<|ab (.a 2 rfl<|.k [2,3,4,8,10,11,20] rfl)<|ah rfl (fun h1=>?_) (fun h1=>?_)
 ·have h1:=tt h1
  have he2:jZ T k x n=dM T k x:=by
   unfold jZ
   rw[if_neg h1,v8 h1]
  rw[he2]
  refine aR<|au 4 rfl<|aH [8,9] rfl ?_
  exact aq<|⟨_,_,az.of rfl,aC.bz (an.cons (aC.ja (an.cons aC.pure<|an.cons aC.b7<|an.cons aC.b7 an.nil)) (an.cons aC.pure an.nil)),by unfold jB;rw[if_neg h1];rfl⟩
 ·have h1:dM T k x=0:=Classical.byContradiction (ff h1)
  obtain⟨hv,hc⟩:=Bool.and_eq_true_iff.1 (oV h1)
  rw[if_pos h1]
  have hn:bn T n=false:=by
   cases hn:bn T n with
   |false=>rfl
   |true=>exact absurd (show jZ T k x n=0 by unfold jZ;rw[if_pos h1,hn];rfl) he
  have hch:cw T (ay T k x) [n]=2:=by unfold cw;rw[hv,hmf];simp[hn]
  have hr0:jq T (ay T k x) n=⟨0,[],[]⟩:=by unfold jq;rw[if_neg (by rw[hch];decide)]
  rw[hch,hr0]at hrt
  have he:jZ T k x n=2:=by unfold jZ;rw[if_pos h1,hn];rfl
  rw[he]
  refine aj<|aR<|au 3 rfl<|er rfl (hrt) rfl<|au 6 rfl<|aH [3,8,10,11,12] rfl ?_
  refine ak<|ab (.a 2 rfl<|.k [3,8,10,11,12,31] rfl)<|ah rfl (fun h2=>?_) (fun h2=>?_)
  ·skip
   refine aR<|au 4 rfl<|aH [8,9] rfl ?_
   exact aq<|⟨_,_,az.of rfl,aC.bz (an.cons (aC.ja (an.cons aC.pure<|an.cons aC.b7<|an.cons aC.b7 an.nil)) (an.cons aC.pure an.nil)),rfl⟩
  ·exact absurd h2 (by decide)
theorem tg(T:ai)(k x:Int)(n:Nat)(f:FuncId)(cap:List PV)[aJ cap](L:List iE)(hen:enters Tryz.prog f=true)(hv:(ao T&&bW T k x)=true)(hn:(n:Int)<T.nodes)(hl:L.length=T.nodes.toNat)
  (hf:bU Tryz.prog f ([aY (ay T k x),.agg [num n,.own 1,.own 2]]++cap) (py T (ay T k x) n (nY T (ay T k x) n T.nodes.toNat)) (fun _ σ'=>σ'=py T (ay T k x) n L++[some (.cells 56 [num n,.own 1,.own 2])])):
  Can Tryz.prog 122 [aN T,bS k x,num n,.func f cap] (· =jB 0 ⟨n,L,cF (ay T k x) (bH T n)⟩):=by
 have hmk:=lD T k x
 have hmf:=da T k x
 have hm0:dM T k x=0:=by unfold dM;rw[if_pos hv]
 unfold ig at hmk
 rw[hm0,if_pos rfl]at hmk
 obtain⟨M,hM⟩:∃M,ay T k x=M:=⟨_,rfl⟩
 rw[hM]at hmk hmf hf ⊢
 obtain⟨hv,hc⟩:=Bool.and_eq_true_iff.1 hv
 have hch:cw T M [(n:Int)]=0:=by unfold cw;rw[hv,hmf];simp[aU.2 (show 0≤(n:Int)∧(n:Int)<T.nodes by omega)]
 have hrt:=fun c=>vv T M n c hch
 refine aG Tryz.func122 rfl Tryz.ntmps122 rfl<|aR<|au 4 rfl<|aH [2,3,4,5,8] rfl ?_
 refine ab (.a 2 rfl<|.c rfl (hmk) rfl<|.a 5 rfl<|.k [2,3,4,8,10,11] rfl)<|ak<|ab (.a 2 rfl<|.k [2,3,4,8,10,11,20] rfl)<|ah rfl (fun h1=>?_) (fun h1=>?_)
 ·exact absurd h1 (by decide)
 ·skip
  refine aj<|aR<|au 3 rfl<|cQ rfl rfl (bU.mono (hrt _) (fun r σ' h=>?_))
  obtain⟨rfl,rfl⟩:=h
  refine au 6 rfl<|aH [3,8,10,11,12] rfl ?_
  refine ak<|ab (.a 2 rfl<|.k [3,8,10,11,12,31] rfl)<|ah rfl (fun h2=>?_) (fun h2=>?_)
  ·exact absurd h2 (by decide)
  ·skip
   refine aj<|dp [0,3,4,5] (.c 3<|.c 8<|.c 10<|.c 12<|.nil) (.kept rfl (.cells (aE.c<|aE.c<|aE.c<|aE.nil))<|.kept rfl (.row aE.pure)<|.kept rfl (.row aE.pure)<|.kept rfl (.cells (aE.c<|aE.c<|aE.c<|aE.nil))<|.nil) rfl rfl ?_
   refine aR<|au 3 rfl<|wm rfl hen rfl rfl rfl rfl rfl (bU.mono hf (fun r σ' h=>?_))
   obtain rfl:=h
   refine aH [8,12] rfl ?_
   refine aR<|au 3 rfl<|aH [8,9] rfl ?_
   refine aq<|⟨_,_,az.of rfl,aC.bz (an.cons (aC.ja (an.cons aC.pure<|an.cons (aC.fu rfl an.pure)<|an.cons (aC.fu rfl an.pure) an.nil)) (an.cons aC.pure an.nil)),?_⟩
   unfold jB fV fU jY aw
   rw[if_pos rfl,hl]
theorem sn{T:ai}{k x n:Int}(h:jZ T k x n=0):(ao T&&bW T k x)=true∧bn T n=true:=by
 unfold jZ at h
 split at h
 ·rename_i h1
  refine⟨oV h1,?_⟩
  split at h
  ·assumption
  ·omega
 ·omega
theorem Ek(T:ai)(k x n:Int)(h12:T.nodes≤12):Can Tryz.prog 70 [aN T,bS k x,num n] (· =jB (jZ T k x n) (uE T (ay T k x) n.toNat)):=by
 have key:Can Tryz.prog 122 [aN T,bS k x,num n,.func 123 [.aX (bw T) 0,.aX [num n] 0]] (· =jB (jZ T k x n) (uE T (ay T k x) n.toNat)):=by
  by_cases he:jZ T k x n=0
  ·obtain⟨hm,hn⟩:=sn he
   obtain⟨hv,hc⟩:=Bool.and_eq_true_iff.1 hm
   rw[aU]at hn
   obtain⟨m,rfl⟩:=Int.eq_ofNat_of_zero_le hn.1
   rw[he]
   exact tg T k x m _ _ _ (by kernel_rfl) hm hn.2 (qI _ _ _ _) (Du T (ay T k x) m hv (da T k x) hn.2 h12)
  ·have h:=qM T k x n 123 [.aX (bw T) 0,.aX [num n] 0] he
   unfold jB at h ⊢
   rw[if_neg he]at h ⊢
   exact h
 refine aG Tryz.func70 rfl Tryz.ntmps70 rfl<|aR<|au 5 rfl<|aH [3,4,5,6] rfl ?_
 refine aR<|au 4 rfl<|er rfl (key) rfl<|au 4 rfl<|aH [6,7] rfl ?_
 exact aq<|⟨_,_,az.of rfl,aC.pure (p:=jB (jZ T k x n) (uE T (ay T k x) n.toNat)),rfl⟩
theorem Dw(T:ai)(k x n:Int):Can Tryz.prog 72 [aN T,bS k x,num n] (· =jB (jZ T k x n) (dB T (ay T k x) n.toNat)):=by
 have key:Can Tryz.prog 122 [aN T,bS k x,num n,.func 125 []] (· =jB (jZ T k x n) (dB T (ay T k x) n.toNat)):=by
  by_cases he:jZ T k x n=0
  ·obtain⟨hm,hn⟩:=sn he
   obtain⟨hv,hc⟩:=Bool.and_eq_true_iff.1 hm
   rw[aU]at hn
   obtain⟨m,rfl⟩:=Int.eq_ofNat_of_zero_le hn.1
   rw[he]
   exact tg T k x m _ _ _ (by kernel_rfl) hm hn.2 (tL _ _ _ _) (D6 T (ay T k x) m)
  ·have h:=qM T k x n 125 [] he
   unfold jB at h ⊢
   rw[if_neg he]at h ⊢
   exact h
 refine aG Tryz.func72 rfl Tryz.ntmps72 rfl<|aR<|au 4 rfl<|aH [2,3,4,6] rfl ?_
 refine aR<|au 3 rfl<|er rfl (key) rfl<|au 4 rfl<|aH [6,7] rfl ?_
 exact aq<|⟨_,_,az.of rfl,aC.pure (p:=jB (jZ T k x n) (dB T (ay T k x) n.toNat)),rfl⟩
theorem vc(T:ai)(D:List Bool)(n:Int):PV.tuple [fV (jq T D n),num (cw T D [n])]=jB (cw T D [n]) (dB T D n.toNat):=by
 unfold jB jq;rfl
theorem B9(T:ai)(n:Int):Can Tryz.prog 67 [aN T,num n] (· =jB (cw T [] [n]) (dB T [] n.toNat)):=by
 refine aG Tryz.func67 rfl Tryz.ntmps67 rfl<|aR<|au 3 rfl<|aH [1,2,4] rfl ?_
 have hr:=ql T [] n
 rw[vc]at hr
 refine aR<|au 2 rfl<|bE (Ef rfl (an.cons aC.pure<|an.cons aC.b7<|an.cons aC.pure an.nil) (hr)) rfl<|au 4 rfl<|aH [4,5] rfl ?_
 exact aq<|⟨_,_,az.of rfl,aC.pure (p:=jB (cw T [] [n]) (dB T [] n.toNat)),rfl⟩
end PW
end Go.Proofs.YtnegbdpggideiaaGreatDoor
namespace Go.Proofs.YtnegbdpggideiaaGreatDoor
namespace PW
open Go.RowKit cE Mem Net fk
theorem uU{T:ai}{a:Nat}(hv:ao T=true)(ha:a<2*T.ae.length){d:Nat}(hd:(d:Int)<T.nodes){n:Nat}(hn:bb T a=(n:Int))(k x:Int)(hm:(ao T&&bW T k x)=true):d<(br T (fS T k x) n true).length∧decide (0≤(br T (fS T k x) n true).getD d 0)=fY T (ay T k x) (bb T a) d:=by
 have hnN:(n:Int)<T.nodes:=by rw[←hn];exact((aK hv).tail a ha).2
 have hl:=(di (D:=fS T k x) hv (dir:=true) hnN).1
 refine⟨by omega,?_⟩
 rw[hn,qz hm,Bool.eq_iff_iff,decide_eq_true_eq,mb hv (da T k x) hnN hd,FP hv hnN hd]
theorem FA(T:ai)(a d:Nat)(hv:ao T=true)(ha:a<2*T.ae.length)(hd:(d:Int)<T.nodes):Can Tryz.prog 183 ([num d]++jJ (fM T a) (aS T a) ((a / 2:Nat):Int) (Hn T a) (Hg T a)) (· =bS (cX T a d).1 (cX T a d).2):=by
 obtain⟨n,hn⟩:=Int.eq_ofNat_of_zero_le ((aK hv).tail a ha).1
 have hnt:(bb T a).toNat=n:=by omega
 have h2:=uU hv ha hd hn 2 (aS T a) (vL hv ha)
 have hM:Hg T a=br T (fS T 2 (aS T a)) n true:=by unfold Hg;rw[hnt]
 have hL:0<fM T a→Hn T a=br T (fS T 3 (fM T a)) n true:=fun h=>by unfold Hn;rw[if_pos h,hnt]
 have h:=CL (fM T a) (aS T a) ((a / 2:Nat):Int) (Hn T a) (Hg T a) d (fY T (ay T 3 (fM T a)) (bb T a) d) (fY T (ay T 2 (aS T a)) (bb T a) d)
  (fun hg=>by rw[hL hg];exact uU hv ha hd hn 3 (fM T a) (zj hv ha hg)) (by rw[hM];exact h2.1) (by rw[hM];exact h2.2)
 have e:(if(decide (0<fM T a)&&fY T (ay T 3 (fM T a)) (bb T a) d)=true then bS 3 (fM T a) else if(decide (aS T a≠(d:Int))&&fY T (ay T 2 (aS T a)) (bb T a) d)=true then bS 2 (aS T a) else bS 1 ((a / 2:Nat):Int))=bS (cX T a d).1 (cX T a d).2:=by
  unfold cX
  split
  ·rfl
  ·split<;>rfl
 rw[e]at h
 exact h
def FC(own:List Bool):List Int→Nat→Int
 | [],_=> -1
 |a::l,i=>bif aL own a.toNat then(i:Int) else FC own l (i+1)
theorem Cs(own:List Bool):∀(l:List Int) (i:Nat),(FC own l i= -1∧kI own l=none)∨∃j,j<l.length∧FC own l i=((i+j:Nat):Int)∧kI own l=some (l.getD j 0)
 | [],i=>.inl ⟨rfl,rfl⟩
 |a::l,i=>by
  simp only[FC]
  by_cases h:aL own a.toNat=true
  ·refine .inr ⟨0,by simp,by rw[h];rfl,?_⟩
   unfold kI
   rw[List.find?_cons_of_pos (by exact h)]
   rfl
  ·rw[Bool.eq_false_iff.2 h]
   simp only[cond_false]
   have e:kI own (a::l)=kI own l:=by
    unfold kI
    rw[List.find?_cons_of_neg (by exact h)]
   rw[e]
   rcases Cs own l (i+1)with h'|⟨j,h1,h2,h3⟩
   ·exact .inl h'
   ·exact .inr ⟨j+1,by simpa using h1,by rw[h2];congr 1;omega,by rw[h3];rfl⟩
theorem Es(own:List Bool)(k:Nat)(hk:k<own.length):Can Tryz.prog 154 ([num k]++[.aX [aY own] 0]) (· =flag (aL own k)):=by
 exact aG Tryz.func154 rfl Tryz.ntmps154 rfl<|ab (.a 1 rfl<|.k [0,1] rfl)<|ab (.a 2 rfl<|.v (aM (k) rfl) rfl<|.v (aO rfl ((show(bR own)[k]? =some (flag (aL own k)) by rw[cV _ k hk,eG]))) rfl<|.a 1 rfl<|.k [3] rfl)<|aq<|⟨_,_,az.of rfl,aC.pure,rfl⟩
theorem CJ(l:List Int)(own:List Bool)(hl:l.length≤1000)(hm:∀a∈l,∃k:Nat,a=(k:Int)∧k<own.length):Can Tryz.prog 153 [aw l,.func 154 [.aX [aY own] 0]] (· =num (FC own l 0)):=by
 refine aG Tryz.func153 rfl Tryz.ntmps153 rfl<|ab (.a 1 rfl<|.k [0,1] rfl)<|ak<|ab (.a 3 rfl<|.k [0,1,7,8] rfl)<|av<|fp [0,1,7,8] rfl<|bq (fun r s=>∃i,i≤l.length∧r=l.length - i∧FC own l 0=FC own (l.drop i) i∧s=⟨[(0,aw l),(1,.func 154 [.aX [aY own] 0]),(7,num l.length),(8,num i)],[]⟩) l.length ⟨0,by omega,by omega,rfl,rfl⟩ ?_
 rintro r s ⟨i,hi,rfl,hx,rfl⟩
 refine ab (.a 1 rfl<|.k [0,1,7,8,9] rfl)<|ak<|ah rfl (fun h1=>?_) (fun h1=>?_)
 ·have hlt:i<l.length:=by have:=tt h1;omega
  obtain⟨k,hk,hkl⟩:=hm _ (ca (d:=0) hlt)
  rw[drop_cons l i hlt,hk]at hx
  simp only[FC,Int.toNat_natCast]at hx
  obtain⟨q,hq⟩:∃q,aL own k=q:=⟨_,rfl⟩
  have he:=Es own k hkl
  rw[hq]at he hx
  refine aj<|ak<|av<|ab (.a 2 rfl<|.k [0,1,5,7,8] rfl)<|ab (.a 3 rfl<|.v (aM (i) rfl) rfl<|.v (aO rfl ((aA l i hlt).trans (by rw[hk]))) rfl<|.c rfl (he) rfl<|.k [0,1,5,7,8,16] rfl)<|ah rfl (fun h2=>?_) (fun h2=>?_)
  ·subst h2
   rw[cond_true]at hx
   rw[hx]
   exact ab (.a 2 rfl<|.k [4] rfl)<|aq<|⟨_,_,az.of rfl,aC.pure,rfl⟩
  ·subst h2
   rw[cond_false]at hx
   refine aj<|aB (.v (aT rfl) rfl<|.a 1 rfl<|.k [0,1,7,8] rfl) ?_
   exact⟨l.length - (i+1),by omega,i+1,by omega,rfl,hx,rfl⟩
 ·have hie:i=l.length:=by have:=ff h1;omega
  subst hie
  rw[List.drop_length]at hx
  rw[hx]
  exact bf<|ab (.a 1 rfl<|.k [4] rfl)<|aq<|⟨_,_,az.of rfl,aC.pure,rfl⟩
theorem GZ(p:List Int):Can Tryz.prog 185 ([aw p]++[]) (· = .tuple []):=by
 exact aG Tryz.func185 rfl Tryz.ntmps185 rfl<|aj<|⟨_,_,az.of rfl,aC.pure,rfl⟩
theorem uY(T:ai)(D:List Bool)(n d:Int):Can Tryz.prog 184 [aN T,aY D,num n,num d,.func 185 []] (· =num (gu T D n d)):=by
 refine aG Tryz.func184 rfl Tryz.ntmps184 rfl<|ab (.a 2 rfl<|.k [1,2,3,4,5] rfl)<|ab (.a 4 rfl<|.c rfl (sj T D n d) rfl<|.a 5 rfl<|.k [4,11,12] rfl)<|ak<|ab (.a 2 rfl<|.k [4,11,12,22] rfl)<|ah rfl (fun h1=>?_) (fun h1=>?_)
 ·skip
  refine aB (.a 2 rfl<|.c rfl (GZ _) rfl<|.k [12] rfl) ?_
  exact ab (.a 2 rfl<|.k [10] rfl)<|aq<|⟨_,_,az.of rfl,aC.pure,rfl⟩
 ·skip
  exact aj<|ab (.a 2 rfl<|.k [10] rfl)<|aq<|⟨_,_,az.of rfl,aC.pure,rfl⟩
theorem yW(T:ai)(D:List Bool)(n d:Int):Can Tryz.prog 156 [aN T,aY D,num n,num d] (· =flag (fY T D n d)):=by
 obtain⟨q,hq⟩:∃q,decide (gu T D n d=0)=q:=⟨_,rfl⟩
 unfold fY
 rw[hq]
 exact aG Tryz.func156 rfl Tryz.ntmps156 rfl<|ab (.a 2 rfl<|.k [1,2,3,4] rfl)<|ab (.a 4 rfl<|.c rfl (uY T D n d) rfl<|.v (cg rfl (hq)) rfl<|.a 1 rfl<|.k [8] rfl)<|aq<|⟨_,_,az.of rfl,aC.pure,rfl⟩
theorem AT(T:ai)(k x:Int)(hm:(ao T&&bW T k x)=true)(σ:cf):bU Tryz.prog 16 [aN T,bS k x] σ (fun r σ'=>r= .tuple [.own σ.length,num 0]∧σ'=σ++[kK (ay T k x)]):=by
 obtain⟨hv,hc⟩:=Bool.and_eq_true_iff.1 hm
 refine bU.frame (bU.mono (s4 T k x hv hc) ?_)
 rintro r σ' ⟨rfl,rfl⟩
 refine⟨[.row 4 1 (2*T.ae.length) (bR (ay T k x))],rfl,_,_,Up.bz (kN.cons (Up.own rfl) (kN.cons Up.pure kN.nil)),mF.cons (.row kN.pure) mF.nil,by simp,?_⟩
 unfold kK
 rw[eF]
 rfl
set_option maxHeartbeats 2000000 in
theorem CA(T:ai)(own:List Bool)(n d:Nat)(hv:ao T=true)(hfo:own.length=2*T.ae.length)(hn:(n:Int)<T.nodes)(hd:(d:Int)<T.nodes)(h12:T.nodes≤12):Can Tryz.prog 114 [aN T,aY own,num n,num d] (· =wb (mP T own n d)):=by
 have hll:=bO hv
 have hof:bP T own=true:=by unfold bP;rw[hfo];simp
 have hnb:bn T (n:Int)=true:=aU.2 ⟨by omega,hn⟩
 have hdb:bn T (d:Int)=true:=aU.2 ⟨by omega,hd⟩
 have hnx:=rq T [] n d
 rw[nZ hv (jI T) hnb hdb,Int.toNat_natCast,Int.toNat_natCast]at hnx
 unfold dr at hnx
 rw[if_pos rfl]at hnx
 have hlen:=Bd hv [] n d
 have hmem:∀a∈bx T [] n d,∃k:Nat,a=(k:Int)∧k<2*T.ae.length:=fun a ha=>by
  obtain⟨k,hk,hkn⟩:=cO ha
  exact⟨k,hk,hkn.eM⟩
 unfold mP
 obtain⟨l,hl⟩:∃l,bx T [] n d=l:=⟨_,rfl⟩
 rw[hl]at hnx hlen hmem ⊢
 have hix:=CJ l own (by omega) (fun a ha=>by rw[hfo];exact hmem a ha)
 obtain⟨ix,hixe⟩:∃ix,FC own l 0=ix:=⟨_,rfl⟩
 have hih:=Cs own l 0
 rw[hixe]at hix hih
 simp only[Nat.zero_add]at hih
 refine aG Tryz.func114 rfl Tryz.ntmps114 rfl<|aR<|au 3 rfl<|aH [2,3,4,5,8] rfl ?_
 refine ab (.a 3 rfl<|.v (Ef rfl (an.cons aC.pure<|an.cons aC.b7<|an.cons aC.pure<|an.cons aC.pure an.nil) (hnx)) rfl<|.a 5 rfl<|.k [2,3,4,5,8,9] rfl)<|ab (.a 1 rfl<|.v (dL rfl rfl) rfl<|.c rfl (hix) rfl<|.a 1 rfl<|.k [2,3,4,5,8,9,11] rfl)<|ak<|ab (.a 2 rfl<|.k [2,3,4,5,8,9,11,28] rfl)<|ah rfl (fun h3=>?_) (fun h3=>?_)
 ·have hno:kI own l=none:=by
   rcases hih with h|⟨j,_,h,_⟩
   ·exact h.2
   ·rw[h]at h3;have:=tt h3;omega
  rw[hno]
  refine aR<|au 3 rfl<|aH [8] rfl ?_
  exact aq<|⟨_,_,az.of rfl,aC.ja (an.cons (aC.pure (p:=aw l))<|an.cons aC.pure<|an.cons aC.b7 an.nil),rfl⟩
 ·obtain⟨j,hjl,rfl,ha⟩:∃j,j<l.length∧ix=((j:Nat):Int)∧kI own l=some (l.getD j 0):=by
   rcases hih with h|h
   ·rw[h.1]at h3;exact absurd h3 (by decide)
   ·exact h
  obtain⟨k,hkj,hk⟩:=hmem _ (ca (d:=0) hjl)
  rw[ha]
  simp only[]
  rw[hkj,Int.toNat_natCast]
  have hcm:(ao T&&bW T (cX T k d).1 (cX T k d).2)=true:=by rw[hv,wO hv hk];rfl
  have hcl:=FA T k d hv hk hd
  have has:=yJ T k hv hk
  have hmk:=fun σ=>AT T (cX T k d).1 (cX T k d).2 hcm σ
  have hmx:om T own n d k=if fY T (orM T (ay T (cX T k d).1 (cX T k d).2) own) n d=true then orM T (ay T (cX T k d).1 (cX T k d).2) own else own:=rfl
  generalize cX T k (d:Int)=cx at*
  obtain⟨ck,cy⟩:=cx
  simp only at hcm hcl hmk hmx
  have hMl:=eF T ck cy
  obtain⟨M,hM⟩:∃M,ay T ck cy=M:=⟨_,rfl⟩
  rw[hM]at hmk hmx hMl
  have hre:=vt T (om T own n d k) n d hll h12
  rw[nZ hv (wo hof k) hnb hdb]at hre
  clear h3 hmem hih hix hixe
  refine aj<|kG (bm (ks:=[2,3,4,5,8,9,11]) rfl) ?_
  refine qw ([(2,num n),(3,num d),(4,.aX (bw T) 0),(5,.aX [aY own] 0),(8,.ptr 0 0),(12,.own 1)]) ([some (.cells 76 [.raw (.slice none 0 0),flag false,.raw (.slice none 0 0)]),kK M]) mixed ?_ ?_
  ·refine uv [[(2,num n),(3,num d),(4,.aX (bw T) 0),(5,.aX [aY own] 0),(8,.ptr 0 0),(9,aw l),(11,num j),(12,.own 1),(13,num 0),(31,.tuple [.own 1,num 0]),(32,aN T),(33,aN T),(34,aw l),(35,num j),(36,.aX (aP l) j),(37,num k),(38,.func 183 (jJ (fM T k) (aS T k) ((k / 2:Nat):Int) (Hn T k) (Hg T k))),(39,num d),(40,bS ck cy),(41,.tuple [.own 1,num 0]),(42,.own 1),(43,num 0)]] [[some (.cells 76 [.raw (.slice none 0 0),flag false,.raw (.slice none 0 0)])],[some (.cells 76 [.raw (.slice none 0 0),flag false,.raw (.slice none 0 0)]),kK M]] [2,3,4,5,8,9,11] rfl (by kernel_rfl) (fun M hi ho=>?_)
   have μ0:M 0 32767 0 [2,3,4,5,8,12] 1:=hi<|qb rfl (by kernel_rfl) (⟨rfl,bm (ks:=[2,3,4,5,8,12]) rfl⟩)
   have μ1:M 1 16383 0 [2,3,4,5,8,12,43] 1:=hi<|aa [(14,32767)] rfl (by kernel_rfl)<|ag (ho μ0) rfl rfl af
   have μ2:M 2 8191 0 [2,3,4,5,8,42,43] 1:=hi<|aa [(13,16383)] rfl (by kernel_rfl)<|ag (ho μ1) rfl rfl af
   have μ3:M 2 12287 0 [2,3,4,5,8,12,31] 1:=hi<|aa [(12,16383)] rfl (by kernel_rfl)<|ag (ho μ1) rfl rfl af
   have μ4:M 3 4095 0 [2,3,4,5,8,31,42] 1:=hi<|aa [(12,8191),(13,12287)] rfl (by kernel_rfl)<|ag (ho μ2) rfl rfl<|ag (ho μ3) rfl rfl af
   have μ5:M 3 6143 0 [2,3,4,5,8,31,43] 1:=hi<|aa [(11,8191)] rfl (by kernel_rfl)<|ag (ho μ2) rfl rfl af
   have μ6:M 4 2047 0 [2,3,4,5,8,31] 1:=hi<|aa [(11,4095),(12,6143)] rfl (by kernel_rfl)<|ag (ho μ4) rfl rfl<|ag (ho μ5) rfl rfl af
   have μ7:M 5 1023 0 [2,3,4,5,8,41] 1:=hi<|aa [(10,2047)] rfl (by kernel_rfl)<|ag (ho μ6) rfl rfl af
   have μ8:M 6 511 0 [2,3,4,5,8,32,40] 0:=hi<|aa [(9,1023)] rfl (by kernel_rfl)<|eC rfl rfl rfl rfl (hmk _) (ho μ7) rfl rfl af
   have μ9:M 7 255 0 [2,3,4,5,8,32,38,39] 0:=hi<|aa [(8,511)] rfl (by kernel_rfl)<|bc rfl rfl (dX rfl (hcl)) rfl (ho μ8) rfl rfl af
   have μ10:M 8 127 0 [2,3,4,5,8,32,38] 0:=hi<|aa [(7,255)] rfl (by kernel_rfl)<|ag (ho μ9) rfl rfl af
   have μ11:M 8 191 0 [2,3,4,5,8,32,33,37,39] 0:=hi<|aa [(6,255)] rfl (by kernel_rfl)<|bc rfl rfl (dX rfl (has)) rfl (ho μ9) rfl rfl af
   have μ12:M 9 63 0 [2,3,4,5,8,32,33,37] 0:=hi<|aa [(6,127),(7,191)] rfl (by kernel_rfl)<|bc rfl rfl (dX rfl (has)) rfl (ho μ10) rfl rfl<|ag (ho μ11) rfl rfl af
   have μ13:M 9 159 0 [2,3,4,5,8,32,33,36,39] 0:=hi<|aa [(5,191)] rfl (by kernel_rfl)<|bc rfl rfl (aO rfl ((aA l j hjl).trans (by rw[hkj]))) rfl (ho μ11) rfl rfl af
   have μ14:M 10 31 0 [2,3,4,5,8,32,33,36] 0:=hi<|aa [(5,63),(7,159)] rfl (by kernel_rfl)<|bc rfl rfl (aO rfl ((aA l j hjl).trans (by rw[hkj]))) rfl (ho μ12) rfl rfl<|ag (ho μ13) rfl rfl af
   have μ15:M 10 143 0 [2,3,4,5,8,32,33,34,35,39] 0:=hi<|aa [(4,159)] rfl (by kernel_rfl)<|bc rfl rfl (aM (j) rfl) rfl (ho μ13) rfl rfl af
   have μ16:M 11 15 0 [2,3,4,5,8,32,33,34,35] 0:=hi<|aa [(4,31),(7,143)] rfl (by kernel_rfl)<|bc rfl rfl (aM (j) rfl) rfl (ho μ14) rfl rfl<|ag (ho μ15) rfl rfl af
   have μ17:M 11 135 0 [2,3,4,5,8,11,32,33,34,39] 0:=hi<|aa [(3,143)] rfl (by kernel_rfl)<|ag (ho μ15) rfl rfl af
   have μ18:M 12 7 0 [2,3,4,5,8,11,32,33,34] 0:=hi<|aa [(3,15),(7,135)] rfl (by kernel_rfl)<|ag (ho μ16) rfl rfl<|ag (ho μ17) rfl rfl af
   have μ19:M 11 139 0 [2,3,4,5,8,9,32,33,35,39] 0:=hi<|aa [(2,143)] rfl (by kernel_rfl)<|ag (ho μ15) rfl rfl af
   have μ20:M 12 11 0 [2,3,4,5,8,9,32,33,35] 0:=hi<|aa [(2,15),(7,139)] rfl (by kernel_rfl)<|ag (ho μ16) rfl rfl<|ag (ho μ19) rfl rfl af
   have μ21:M 12 131 0 [2,3,4,5,8,9,11,32,33,39] 0:=hi<|aa [(2,135),(3,139)] rfl (by kernel_rfl)<|ag (ho μ17) rfl rfl<|ag (ho μ19) rfl rfl af
   have μ22:M 13 3 0 [2,3,4,5,8,9,11,32,33] 0:=hi<|aa [(2,7),(3,11),(7,131)] rfl (by kernel_rfl)<|ag (ho μ18) rfl rfl<|ag (ho μ20) rfl rfl<|ag (ho μ21) rfl rfl af
   have μ23:M 9 189 0 [2,3,4,5,8,32,37,39] 0:=hi<|aa [(1,191)] rfl (by kernel_rfl)<|ag (ho μ11) rfl rfl af
   have μ24:M 10 61 0 [2,3,4,5,8,32,37] 0:=hi<|aa [(1,63),(7,189)] rfl (by kernel_rfl)<|ag (ho μ12) rfl rfl<|ag (ho μ23) rfl rfl af
   have μ25:M 10 157 0 [2,3,4,5,8,32,36,39] 0:=hi<|aa [(1,159),(5,189)] rfl (by kernel_rfl)<|ag (ho μ13) rfl rfl<|bc rfl rfl (aO rfl ((aA l j hjl).trans (by rw[hkj]))) rfl (ho μ23) rfl rfl af
   have μ26:M 11 29 0 [2,3,4,5,8,32,36] 0:=hi<|aa [(1,31),(5,61),(7,157)] rfl (by kernel_rfl)<|ag (ho μ14) rfl rfl<|bc rfl rfl (aO rfl ((aA l j hjl).trans (by rw[hkj]))) rfl (ho μ24) rfl rfl<|ag (ho μ25) rfl rfl af
   have μ27:M 11 141 0 [2,3,4,5,8,32,34,35,39] 0:=hi<|aa [(1,143),(4,157)] rfl (by kernel_rfl)<|ag (ho μ15) rfl rfl<|bc rfl rfl (aM (j) rfl) rfl (ho μ25) rfl rfl af
   have μ28:M 12 13 0 [2,3,4,5,8,32,34,35] 0:=hi<|aa [(1,15),(4,29),(7,141)] rfl (by kernel_rfl)<|ag (ho μ16) rfl rfl<|bc rfl rfl (aM (j) rfl) rfl (ho μ26) rfl rfl<|ag (ho μ27) rfl rfl af
   have μ29:M 12 133 0 [2,3,4,5,8,11,32,34,39] 0:=hi<|aa [(1,135),(3,141)] rfl (by kernel_rfl)<|ag (ho μ17) rfl rfl<|ag (ho μ27) rfl rfl af
   have μ30:M 13 5 0 [2,3,4,5,8,11,32,34] 0:=hi<|aa [(1,7),(3,13),(7,133)] rfl (by kernel_rfl)<|ag (ho μ18) rfl rfl<|ag (ho μ28) rfl rfl<|ag (ho μ29) rfl rfl af
   have μ31:M 12 137 0 [2,3,4,5,8,9,32,35,39] 0:=hi<|aa [(1,139),(2,141)] rfl (by kernel_rfl)<|ag (ho μ19) rfl rfl<|ag (ho μ27) rfl rfl af
   have μ32:M 13 9 0 [2,3,4,5,8,9,32,35] 0:=hi<|aa [(1,11),(2,13),(7,137)] rfl (by kernel_rfl)<|ag (ho μ20) rfl rfl<|ag (ho μ28) rfl rfl<|ag (ho μ31) rfl rfl af
   have μ33:M 13 129 0 [2,3,4,5,8,9,11,32,39] 0:=hi<|aa [(1,131),(2,133),(3,137)] rfl (by kernel_rfl)<|ag (ho μ21) rfl rfl<|ag (ho μ29) rfl rfl<|ag (ho μ31) rfl rfl af
   have μ34:M 14 1 0 [2,3,4,5,8,9,11,32] 0:=hi<|aa [(1,3),(2,5),(3,9),(7,129)] rfl (by kernel_rfl)<|ag (ho μ22) rfl rfl<|ag (ho μ30) rfl rfl<|ag (ho μ32) rfl rfl<|ag (ho μ33) rfl rfl af
   have μ35:M 7 510 0 [2,3,4,5,8,40] 0:=hi<|aa [(0,511)] rfl (by kernel_rfl)<|ag (ho μ8) rfl rfl af
   have μ36:M 8 254 0 [2,3,4,5,8,38,39] 0:=hi<|aa [(0,255),(8,510)] rfl (by kernel_rfl)<|ag (ho μ9) rfl rfl<|bc rfl rfl (dX rfl (hcl)) rfl (ho μ35) rfl rfl af
   have μ37:M 9 126 0 [2,3,4,5,8,38] 0:=hi<|aa [(0,127),(7,254)] rfl (by kernel_rfl)<|ag (ho μ10) rfl rfl<|ag (ho μ36) rfl rfl af
   have μ38:M 9 190 0 [2,3,4,5,8,33,37,39] 0:=hi<|aa [(0,191),(6,254)] rfl (by kernel_rfl)<|ag (ho μ11) rfl rfl<|bc rfl rfl (dX rfl (has)) rfl (ho μ36) rfl rfl af
   have μ39:M 10 62 0 [2,3,4,5,8,33,37] 0:=hi<|aa [(0,63),(6,126),(7,190)] rfl (by kernel_rfl)<|ag (ho μ12) rfl rfl<|bc rfl rfl (dX rfl (has)) rfl (ho μ37) rfl rfl<|ag (ho μ38) rfl rfl af
   have μ40:M 10 158 0 [2,3,4,5,8,33,36,39] 0:=hi<|aa [(0,159),(5,190)] rfl (by kernel_rfl)<|ag (ho μ13) rfl rfl<|bc rfl rfl (aO rfl ((aA l j hjl).trans (by rw[hkj]))) rfl (ho μ38) rfl rfl af
   have μ41:M 11 30 0 [2,3,4,5,8,33,36] 0:=hi<|aa [(0,31),(5,62),(7,158)] rfl (by kernel_rfl)<|ag (ho μ14) rfl rfl<|bc rfl rfl (aO rfl ((aA l j hjl).trans (by rw[hkj]))) rfl (ho μ39) rfl rfl<|ag (ho μ40) rfl rfl af
   have μ42:M 11 142 0 [2,3,4,5,8,33,34,35,39] 0:=hi<|aa [(0,143),(4,158)] rfl (by kernel_rfl)<|ag (ho μ15) rfl rfl<|bc rfl rfl (aM (j) rfl) rfl (ho μ40) rfl rfl af
   have μ43:M 12 14 0 [2,3,4,5,8,33,34,35] 0:=hi<|aa [(0,15),(4,30),(7,142)] rfl (by kernel_rfl)<|ag (ho μ16) rfl rfl<|bc rfl rfl (aM (j) rfl) rfl (ho μ41) rfl rfl<|ag (ho μ42) rfl rfl af
   have μ44:M 12 134 0 [2,3,4,5,8,11,33,34,39] 0:=hi<|aa [(0,135),(3,142)] rfl (by kernel_rfl)<|ag (ho μ17) rfl rfl<|ag (ho μ42) rfl rfl af
   have μ45:M 13 6 0 [2,3,4,5,8,11,33,34] 0:=hi<|aa [(0,7),(3,14),(7,134)] rfl (by kernel_rfl)<|ag (ho μ18) rfl rfl<|ag (ho μ43) rfl rfl<|ag (ho μ44) rfl rfl af
   have μ46:M 12 138 0 [2,3,4,5,8,9,33,35,39] 0:=hi<|aa [(0,139),(2,142)] rfl (by kernel_rfl)<|ag (ho μ19) rfl rfl<|ag (ho μ42) rfl rfl af
   have μ47:M 13 10 0 [2,3,4,5,8,9,33,35] 0:=hi<|aa [(0,11),(2,14),(7,138)] rfl (by kernel_rfl)<|ag (ho μ20) rfl rfl<|ag (ho μ43) rfl rfl<|ag (ho μ46) rfl rfl af
   have μ48:M 13 130 0 [2,3,4,5,8,9,11,33,39] 0:=hi<|aa [(0,131),(2,134),(3,138)] rfl (by kernel_rfl)<|ag (ho μ21) rfl rfl<|ag (ho μ44) rfl rfl<|ag (ho μ46) rfl rfl af
   have μ49:M 14 2 0 [2,3,4,5,8,9,11,33] 0:=hi<|aa [(0,3),(2,6),(3,10),(7,130)] rfl (by kernel_rfl)<|ag (ho μ22) rfl rfl<|ag (ho μ45) rfl rfl<|ag (ho μ47) rfl rfl<|ag (ho μ48) rfl rfl af
   have μ50:M 10 188 0 [2,3,4,5,8,37,39] 0:=hi<|aa [(0,189),(1,190)] rfl (by kernel_rfl)<|ag (ho μ23) rfl rfl<|ag (ho μ38) rfl rfl af
   have μ51:M 11 60 0 [2,3,4,5,8,37] 0:=hi<|aa [(0,61),(1,62),(7,188)] rfl (by kernel_rfl)<|ag (ho μ24) rfl rfl<|ag (ho μ39) rfl rfl<|ag (ho μ50) rfl rfl af
   have μ52:M 11 156 0 [2,3,4,5,8,36,39] 0:=hi<|aa [(0,157),(1,158),(5,188)] rfl (by kernel_rfl)<|ag (ho μ25) rfl rfl<|ag (ho μ40) rfl rfl<|bc rfl rfl (aO rfl ((aA l j hjl).trans (by rw[hkj]))) rfl (ho μ50) rfl rfl af
   have μ53:M 12 28 0 [2,3,4,5,8,36] 0:=hi<|aa [(0,29),(1,30),(5,60),(7,156)] rfl (by kernel_rfl)<|ag (ho μ26) rfl rfl<|ag (ho μ41) rfl rfl<|bc rfl rfl (aO rfl ((aA l j hjl).trans (by rw[hkj]))) rfl (ho μ51) rfl rfl<|ag (ho μ52) rfl rfl af
   have μ54:M 12 140 0 [2,3,4,5,8,34,35,39] 0:=hi<|aa [(0,141),(1,142),(4,156)] rfl (by kernel_rfl)<|ag (ho μ27) rfl rfl<|ag (ho μ42) rfl rfl<|bc rfl rfl (aM (j) rfl) rfl (ho μ52) rfl rfl af
   have μ55:M 13 12 0 [2,3,4,5,8,34,35] 0:=hi<|aa [(0,13),(1,14),(4,28),(7,140)] rfl (by kernel_rfl)<|ag (ho μ28) rfl rfl<|ag (ho μ43) rfl rfl<|bc rfl rfl (aM (j) rfl) rfl (ho μ53) rfl rfl<|ag (ho μ54) rfl rfl af
   have μ56:M 13 132 0 [2,3,4,5,8,11,34,39] 0:=hi<|aa [(0,133),(1,134),(3,140)] rfl (by kernel_rfl)<|ag (ho μ29) rfl rfl<|ag (ho μ44) rfl rfl<|ag (ho μ54) rfl rfl af
   have μ57:M 14 4 0 [2,3,4,5,8,11,34] 0:=hi<|aa [(0,5),(1,6),(3,12),(7,132)] rfl (by kernel_rfl)<|ag (ho μ30) rfl rfl<|ag (ho μ45) rfl rfl<|ag (ho μ55) rfl rfl<|ag (ho μ56) rfl rfl af
   have μ58:M 13 136 0 [2,3,4,5,8,9,35,39] 0:=hi<|aa [(0,137),(1,138),(2,140)] rfl (by kernel_rfl)<|ag (ho μ31) rfl rfl<|ag (ho μ46) rfl rfl<|ag (ho μ54) rfl rfl af
   have μ59:M 14 8 0 [2,3,4,5,8,9,35] 0:=hi<|aa [(0,9),(1,10),(2,12),(7,136)] rfl (by kernel_rfl)<|ag (ho μ32) rfl rfl<|ag (ho μ47) rfl rfl<|ag (ho μ55) rfl rfl<|ag (ho μ58) rfl rfl af
   have μ60:M 14 128 0 [2,3,4,5,8,9,11,39] 0:=hi<|aa [(0,129),(1,130),(2,132),(3,136)] rfl (by kernel_rfl)<|ag (ho μ33) rfl rfl<|ag (ho μ48) rfl rfl<|ag (ho μ56) rfl rfl<|ag (ho μ58) rfl rfl af
   have μ61:M 15 0 0 [2,3,4,5,8,9,11] 0:=hi<|aa [(0,1),(1,2),(2,4),(3,8),(7,128)] rfl (by kernel_rfl)<|ag (ho μ34) rfl rfl<|ag (ho μ49) rfl rfl<|ag (ho μ57) rfl rfl<|ag (ho μ59) rfl rfl<|ag (ho μ60) rfl rfl af
   exact μ61
  refine ak<|ab (.a 3 rfl<|.k [2,3,4,5,8,12,45,46] rfl)<|eD (σ':=[some (.cells 76 [.raw (.slice none 0 0),flag false,.raw (.slice none 0 0)]),kK (kM T M own 0)]) (by rw[Bl hMl]) ?_
  refine av<|fp [2,3,4,5,8,12,45,46] rfl<|bq (fun r s=>∃a,a≤2*T.ae.length∧r=2*T.ae.length - a∧s=⟨[(2,num n),(3,num d),(4,.aX (bw T) 0),(5,.aX [aY own] 0),(8,.ptr 0 0),(12,.own 1),(45,num M.length),(46,num a)],[some (.cells 76 [.raw (.slice none 0 0),flag false,.raw (.slice none 0 0)]),kK (kM T M own a)]⟩) (2*T.ae.length) ⟨0,by omega,by omega,rfl⟩ ?_
  rintro r s ⟨a,ha2,rfl,rfl⟩
  have hol:=qB T M own a
  refine ab (.a 1 rfl<|.k [2,3,4,5,8,12,45,46,47] rfl)<|ak<|ah rfl (fun h4=>?_) (fun h4=>?_)
  ·have hlt:a<2*T.ae.length:=by have:=tt h4;omega
   have hst:=Al T M own a
   have hat:=EM (T:=T) (D:=M) (E:=own) hlt
   clear h4
   refine aj<|ak<|av<|ab (.a 2 rfl<|.k [2,3,4,5,8,12,14,45,46] rfl) ?_
   obtain⟨c1,hc1⟩:∃q,aL M a=q:=⟨_,rfl⟩
   obtain⟨c2,hc2⟩:∃q,aL own a=q:=⟨_,rfl⟩
   rw[hc1,hc2]at hst
   rw[hc1]at hat
   refine HF (Q1:=fun st=>st=⟨[(2,num n),(3,num d),(4,.aX (bw T) 0),(5,.aX [aY own] 0),(8,.ptr 0 0),(12,.own 1),(45,num M.length),(46,num a)],[some (.cells 76 [.raw (.slice none 0 0),flag false,.raw (.slice none 0 0)]),kK (kM T M own (a+1))]⟩) ?_ ?_
   ·cases c1
    ·refine bI<|au 4 rfl<|bE (aM (a) rfl) rfl<|bE (aO rfl ((show(bR (kM T M own a))[a]? =some (flag false) by rw[cV _ a (by omega),hat]))) rfl<|au 3 rfl<|bE (aM (a) rfl) rfl<|bE (aO rfl ((show(bR own)[a]? =some (flag c2) by rw[cV _ a (by omega),eG,hc2]))) rfl<|au 1 rfl<|bE (aM (a) rfl) rfl<|bd ((by first|exact bG rfl (bL.tk.get rfl) rfl rfl rfl (by first|omega|(simp;omega))|exact aV rfl (bL.tk.get rfl) rfl rfl rfl (by first|omega|(simp;omega)))) rfl rfl<|aH [2,3,4,5,8,12,45,46] rfl ?_
     rw[←hst]
     unfold kK
     rw[List.length_set]
     rfl
    ·refine bI<|au 4 rfl<|bE (aM (a) rfl) rfl<|bE (aO rfl ((show(bR (kM T M own a))[a]? =some (flag true) by rw[cV _ a (by omega),hat]))) rfl<|au 6 rfl<|bE (aM (a) rfl) rfl<|bd ((by first|exact bG rfl (bL.tk.get rfl) rfl rfl rfl (by first|omega|(simp;omega))|exact aV rfl (bL.tk.get rfl) rfl rfl rfl (by first|omega|(simp;omega)))) rfl rfl<|aH [2,3,4,5,8,12,45,46] rfl ?_
     rw[←hst]
     unfold kK
     rw[List.length_set]
     rfl
   rintro _ rfl
   refine aB (.v (aT rfl) rfl<|.a 1 rfl<|.k [2,3,4,5,8,12,45,46] rfl) ?_
   exact⟨2*T.ae.length - (a+1),by omega,a+1,by omega,rfl,rfl⟩
  ·have hae:a=2*T.ae.length:=by have:=ff h4;omega
   subst hae
   rw[Cl]
   clear h4
   refine bf<|ak<|DJ 12 1 rfl rfl ?_
   refine dp [0] (.c 2<|.c 3<|.c 4<|.c 5<|.c 8<|.c 12<|.nil) (.kept rfl (.cells (aE.c<|aE.c<|aE.c<|aE.nil))<|.nil) rfl rfl ?_
   obtain⟨q,hq⟩:∃q,fY T (orM T M own) n d=q:=⟨_,rfl⟩
   rw[hq]at hmx
   refine ab (.a 4 rfl<|.c rfl (hq▸yW T (orM T M own) n d) rfl<|.a 1 rfl<|.k [2,3,4,5,8,12,68] rfl)<|ah rfl (fun h5=>?_) (fun h5=>?_)
   ·have h5:q=false:=by simpa using h5
    rw[h5,if_neg (by simp)]at hmx
    rw[hmx]at hre ⊢
    refine aB (.a 2 rfl<|.k [2,3,4,8,12] rfl) ?_
    refine aR<|au 4 rfl<|er rfl (hre) rfl<|au 6 rfl<|aH [8,15] rfl ?_
    refine aR<|au 2 rfl<|aH [8] rfl ?_
    exact aq<|⟨_,_,az.of rfl,aC.pure (p:=wb _),rfl⟩
   ·have h5:q=true:=by simpa using h5
    rw[h5,if_pos rfl]at hmx
    rw[hmx]at hre ⊢
    refine aj<|aR<|au 4 rfl<|er rfl (hre) rfl<|au 6 rfl<|aH [8,15] rfl ?_
    refine aR<|au 2 rfl<|aH [8] rfl ?_
    exact aq<|⟨_,_,az.of rfl,aC.pure (p:=wb _),rfl⟩
def mw(T:ai)(M:List Bool)(o:List Int)(i:Nat):List Bool:=(List.range (2*T.ae.length)).map fun(b:Nat)=>decide ((b:Int)∈o.take i)&&aL M b
theorem DX(T:ai)(M:List Bool)(o:List Int)(i:Nat):(mw T M o i).length=2*T.ae.length:=by simp[mw]
theorem rb{T:ai}{M:List Bool}{o:List Int}{i b:Nat}(h:b<(mw T M o i).length):(mw T M o i)[b]=(decide ((b:Int)∈o.take i)&&aL M b):=by simp[mw]
theorem Av(T:ai)(M:List Bool)(o:List Int):mw T M o 0=List.replicate (2*T.ae.length) false:=by
 apply List.ext_getElem (by simp[mw])
 intro i h1 h2
 rw[rb]
 simp
theorem Aq{T:ai}{M:List Bool}{o:List Int}{i k:Nat}(hi:i<o.length)(hk:o.getD i 0=(k:Int))(hkl:k<2*T.ae.length):mw T M o (i+1)=if aL M k then(mw T M o i).set k true else mw T M o i:=by
 have hmem:∀b:Nat,((b:Int)∈o.take (i+1))↔((b:Int)∈o.take i∨b=k):=fun b=>by
  rw[dF o i 0 hi,List.mem_append,List.mem_singleton,hk]
  exact⟨fun h=>h.imp id (fun e=>by omega),fun h=>h.imp id (fun e=>by omega)⟩
 split
 ·rename_i hd
  apply List.ext_getElem (by simp[mw])
  intro b h1 h2
  rw[rb,List.getElem_set]
  by_cases e:k=b
  ·subst e
   rw[if_pos rfl,decide_eq_true ((hmem k).2 (.inr rfl)),hd]
   rfl
  ·rw[if_neg e,rb]
   congr 1
   exact decide_eq_decide.2 ((hmem b).trans ⟨fun h=>h.resolve_right (fun e'=>e e'.symm),.inl⟩)
 ·rename_i hd
  unfold mw
  refine List.map_congr_left fun b _=>?_
  by_cases e:b=k
  ·subst e
   rw[Bool.eq_false_iff.2 hd]
   simp
  ·congr 1
   exact decide_eq_decide.2 ((hmem b).trans ⟨fun h=>h.resolve_right e,.inl⟩)
theorem Dn(T:ai)(M:List Bool)(n:Int):mw T M (bH T n) (bH T n).length=fE T M n:=by
 unfold mw fE
 refine List.map_congr_left fun b hb=>?_
 have hb:=List.mem_range.1 hb
 rw[List.take_length,Bool.and_comm]
 congr 1
 refine decide_eq_decide.2 (iS.trans ⟨fun h=>by have:=h.2;rwa [Int.toNat_natCast]at this,fun h=>⟨cY.2 (by omega),by rw[Int.toNat_natCast];exact h⟩⟩)
set_option maxHeartbeats 2000000 in
theorem A8(T:ai)(k x n:Int)(h12:T.nodes≤12):Can Tryz.prog 55 [aN T,bS k x,num n] (· =jB (if dM T k x=0 then(if bn T n then 0 else 2) else 1) (qh T (ay T k x) n.toNat)):=by
 have hmk:=lD T k x
 unfold ig at hmk
 refine aG Tryz.func55 rfl Tryz.ntmps55 rfl<|aR<|au 4 rfl<|aH [2,3,4,6] rfl ?_
 refine ab (.a 2 rfl<|.c rfl (hmk) rfl<|.a 5 rfl<|.k [2,3,6,8,9] rfl)<|ak<|ab (.a 2 rfl<|.k [2,3,6,8,9,22] rfl)<|ah rfl (fun h1=>?_) (fun h1=>?_)
 ·have h1:=tt h1
  rw[if_neg h1]
  have h1':=v8 h1
  rw[h1']
  refine aR<|au 4 rfl<|aH [6,7] rfl ?_
  exact aq<|⟨_,_,az.of rfl,aC.bz (an.cons (aC.ja (an.cons aC.pure<|an.cons aC.b7<|an.cons aC.b7 an.nil)) (an.cons aC.pure an.nil)),rfl⟩
 ·have h1:dM T k x=0:=Classical.byContradiction (ff h1)
  obtain⟨hv,hc⟩:=Bool.and_eq_true_iff.1 (oV h1)
  rw[if_pos h1,if_pos h1]
  have hll:=bO hv
  refine aj<|ak<|ab (.a 2 rfl<|.c rfl (df T n) rfl<|.a 1 rfl<|.k [2,3,6,8,28] rfl)<|ah rfl (fun h2=>?_) (fun h2=>?_)
  ·have hn:bn T n=false:=by simpa using h2
   rw[hn]
   refine aR<|au 3 rfl<|aH [6,7] rfl ?_
   exact aq<|⟨_,_,az.of rfl,aC.bz (an.cons (aC.ja (an.cons aC.pure<|an.cons aC.b7<|an.cons aC.b7 an.nil)) (an.cons aC.pure an.nil)),rfl⟩
  ·have hn:bn T n=true:=by simpa using h2
   rw[hn,if_pos rfl]
   rw[aU]at hn
   obtain⟨m,rfl⟩:=Int.eq_ofNat_of_zero_le hn.1
   rw[Int.toNat_natCast]
   obtain⟨N,hN⟩:∃N:Nat,T.nodes=(N:Int):=⟨T.nodes.toNat,by omega⟩
   have hMl:=eF T k x
   obtain⟨M,hM⟩:∃M,ay T k x=M:=⟨_,rfl⟩
   rw[hM]at hMl ⊢
   have hol:(bH T m).length≤512:=Nat.le_trans (eh T m _) (by omega)
   clear h2 hmk
   refine aj<|aR<|au 4 rfl<|aH [2,3,6,8,10] rfl ?_
   refine cq 1 1 76 3 rfl rfl ?_
   refine cq 1 2 3 1 rfl rfl ?_
   refine aR<|au 1 rfl<|er rfl (gX T (by omega)) rfl<|cz (dz rfl (bL.rk.get rfl) rfl rfl (show 2*(T.ae.length:Int)=((2*T.ae.length:Nat):Int) by omega) (show 2*(T.ae.length:Int)=((2*T.ae.length:Nat):Int) by omega) ⟨by unfold maxLen;omega,by omega⟩) rfl<|au 1 rfl<|aH [2,3,6,8,10,11] rfl ?_
   refine ak<|ab (.a 2 rfl<|.c rfl (nU T hll _) rfl<|.a 2 rfl<|.k [2,3,6,8,10,11,37,38,39] rfl)<|av<|fp [2,3,6,8,10,11,37,38,39] rfl<|eD (σ':=[some (.cells 56 [num 0,.raw (.slice none 0 0),.raw (.slice none 0 0)]),some (.cells 56 [num m,.own 2,.own 3]),some (.row 76 3 0 []),some (.row 3 1 0 []),some (.row 4 1 (2*T.ae.length) (bR (mw T M (bH T m) 0)))]) (by rw[Av,←gQ];rfl) ?_
   refine bq (fun r s=>∃i,i≤(bH T m).length∧r=(bH T m).length - i∧s=⟨[(2,num m),(3,.aX (bw T) 0),(6,.ptr 0 0),(8,aY M),(10,.ptr 1 0),(11,.own 4),(37,aw (bH T m)),(38,num (bH T m).length),(39,num i)],[some (.cells 56 [num 0,.raw (.slice none 0 0),.raw (.slice none 0 0)]),some (.cells 56 [num m,.own 2,.own 3]),some (.row 76 3 0 []),some (.row 3 1 (cF M ((bH T m).take i)).length (aP (cF M ((bH T m).take i)))),some (.row 4 1 (2*T.ae.length) (bR (mw T M (bH T m) i)))]⟩) (bH T m).length ⟨0,by omega,by omega,rfl⟩ ?_
   rintro r s ⟨i,hi,rfl,rfl⟩
   skip
   refine ab (.a 1 rfl<|.k [2,3,6,8,10,11,37,38,39,40] rfl)<|ak<|ah rfl (fun h3=>?_) (fun h3=>?_)
   ·have hlt:i<(bH T m).length:=by have:=tt h3;omega
    obtain⟨a0,a1⟩:=jV (ca (d:=0) hlt)
    obtain⟨a,ha⟩:=Int.eq_ofNat_of_zero_le a0
    have hal:a<2*T.ae.length:=by omega
    have hstep:cF M ((bH T m).take (i+1))=cF M ((bH T m).take i)++(if aL M a then [(a:Int)] else []):=by
     unfold cF
     rw[dF _ i 0 hlt,List.filter_append,ha]
     simp only[List.filter_cons,List.filter_nil,Int.toNat_natCast]
    have hdl:(cF M ((bH T m).take i)).length≤1000:=Nat.le_trans (List.length_filter_le _ _) (by rw[List.length_take];omega)
    have hds:=Aq (T:=T) (M:=M) hlt ha hal
    have hdn:=DX T M (bH T m) i
    obtain⟨q,hq⟩:∃q,aL M a=q:=⟨_,rfl⟩
    rw[hq]at hstep hds
    clear h3
    refine aj<|ak<|av<|ab (.v (aM (i) rfl) rfl<|.v (aO rfl ((aA _ i hlt).trans (by rw[ha]))) rfl<|.a 1 rfl<|.k [2,3,6,8,10,11,13,37,38,39] rfl)<|ab (.a 2 rfl<|.v (aM (a) rfl) rfl<|.v (aO rfl ((show(bR M)[a]? =some (flag q) by rw[cV _ a (by omega),eG,hq]))) rfl<|.k [2,3,6,8,10,11,13,37,38,39,46] rfl)<|ah rfl (fun h4=>?_) (fun h4=>?_)
    ·subst h4
     rw[if_pos rfl]at hstep hds
     refine aR<|au 2 rfl<|bE (aM (a) rfl) rfl<|bd ((by first|exact bG rfl (bL.tk.get rfl) rfl rfl rfl (by first|omega|(simp;omega))|exact aV rfl (bL.tk.get rfl) rfl rfl rfl (by first|omega|(simp;omega)))) rfl rfl<|aH [2,3,6,8,10,11,13,37,38,39] rfl ?_
     refine bI<|au 4 rfl<|cz (bA rfl (bL.rk.get rfl) rfl rfl rfl rfl (by unfold maxLen;omega)) rfl<|au 2 rfl ?_
     refine ee [0,1,2,5,4] (.c 2<|.c 3<|.c 6<|.c 8<|.c 10<|.c 11<|.c 37<|.c 38<|.c 39<|.nil) (.kept rfl (.cells (aE.c<|aE.c<|aE.c<|aE.nil))<|.kept rfl (.cells (aE.c<|aE.c<|aE.c<|aE.nil))<|.kept rfl (.row aE.pure)<|.kept rfl (.fm rfl (dc _ _))<|.kept rfl (.row aE.pure)<|.nil) rfl rfl (aZ ?_)
     refine aB (.v (aT rfl) rfl<|.a 1 rfl<|.k [2,3,6,8,10,11,37,38,39] rfl) ?_
     refine⟨(bH T m).length - (i+1),by omega,i+1,by omega,rfl,?_⟩
     rw[hstep,hds]
     first
      |rfl
      |(simp only[List.length_append,List.length_singleton];rfl)
    ·subst h4
     rw[if_neg (by simp),List.append_nil]at hstep
     rw[if_neg (by simp)]at hds
     refine aj<|aB (.v (aT rfl) rfl<|.a 1 rfl<|.k [2,3,6,8,10,11,37,38,39] rfl) ?_
     refine⟨(bH T m).length - (i+1),by omega,i+1,by omega,rfl,?_⟩
     rw[hstep,hds]
     first
      |rfl
      |(simp only[List.length_append,List.length_singleton];rfl)
   ·have hie:i=(bH T m).length:=by have:=ff h3;omega
    subst hie
    rw[Dn,List.take_length]
    clear h3
    refine bf<|ak ?_
    have hown:(fE T M m).length=2*T.ae.length:=by simp[fE]
    unfold qh
    obtain⟨own,howe⟩:∃own,fE T M m=own:=⟨_,rfl⟩
    rw[howe]at hown ⊢
    obtain⟨dl,hdl⟩:∃dl,cF M (bH T m)=dl:=⟨_,rfl⟩
    rw[hdl]
    refine dp [0,1,2,3,4] (.c 2<|.c 3<|.c 6<|.c 10<|.c 11<|.nil) (.kept rfl (.cells (aE.c<|aE.c<|aE.c<|aE.nil))<|.kept rfl (.cells (aE.c<|aE.c<|aE.c<|aE.nil))<|.kept rfl (.row aE.pure)<|.kept rfl (.row aE.pure)<|.kept rfl (.fm (show 2*T.ae.length=own.length by omega) rfl)<|.nil) rfl rfl ?_
    refine DJ 11 4 rfl rfl ?_
    refine dp [0,1,2,3] (.c 2<|.c 3<|.c 6<|.c 10<|.c 11<|.nil) (.kept rfl (.cells (aE.c<|aE.c<|aE.c<|aE.nil))<|.kept rfl (.cells (aE.c<|aE.c<|aE.c<|aE.nil))<|.kept rfl (.row aE.pure)<|.kept rfl (.row aE.pure)<|.nil) rfl rfl ?_
    refine ab (.a 1 rfl<|.v (aO rfl ((show some (num T.nodes)=some (num (N:Int)) by rw[hN]))) rfl<|.a 1 rfl<|.k [2,3,6,10,11,58,59] rfl)<|av<|fp [2,3,6,10,11,58,59] rfl<|bq (fun r s=>∃j,j≤N∧r=N - j∧s=⟨[(2,num m),(3,.aX (bw T) 0),(6,.ptr 0 0),(10,.ptr 1 0),(11,aY own),(58,num N),(59,num j)],[some (.cells 56 [num 0,.raw (.slice none 0 0),.raw (.slice none 0 0)]),some (.cells 56 [num m,.own 2,.own 3]),some (.row 76 3 j (dw (oS T own m j))),some (.row 3 1 dl.length (aP dl))]⟩) N ⟨0,by omega,by omega,rfl⟩ ?_
    rintro r s ⟨j,hj,rfl,rfl⟩
    refine ab (.a 1 rfl<|.k [2,3,6,10,11,58,59,60] rfl)<|ak<|ah rfl (fun h3=>?_) (fun h3=>?_)
    ·have hlt:j<N:=by have:=tt h3;omega
     have hre:=CA T own m j hv hown hn.2 (by omega) h12
     refine aj<|ak<|av<|ab (.a 2 rfl<|.k [2,3,6,10,11,14,58,59] rfl)<|dS 8 20 mixed (
      .val [10] rfl (bF rfl) rfl rfl<|
      .val [62] rfl (bF rfl) rfl rfl<|
      .val [3] rfl (bF rfl) rfl rfl<|
      .val [11] rfl (bF rfl) rfl rfl<|
      .val [2] rfl (bF rfl) rfl rfl<|
      .val [14] rfl (bF rfl) rfl rfl<|
      .val [64,65,66,67] rfl (dX rfl (hre)) rfl rfl<|
      .val [68] rfl (bF rfl) rfl rfl<|
      .nil) (by kernel_rfl) rfl rfl (bm (ks:=[2,3,6,10,11,58,59,63,69]) rfl) ?_
     refine cz (bA rfl (bL.rk.get rfl) rfl rfl rfl rfl (by unfold maxLen;omega)) rfl<|au 2 rfl ?_
     refine ee [0,1,4,3] (.c 2<|.c 3<|.c 6<|.c 10<|.c 11<|.c 58<|.c 59<|.nil) (.kept rfl (.cells (aE.c<|aE.c<|aE.c<|aE.nil))<|.kept rfl (.cells (aE.c<|aE.c<|aE.c<|aE.nil))<|.kept rfl (.fm rfl (show _=dw (oS T own m (j+1)) by rw[Bk];exact mN _ _))<|.kept rfl (.row aE.pure)<|.nil) rfl rfl (aZ ?_)
     refine aB (.v (aT rfl) rfl<|.a 1 rfl<|.k [2,3,6,10,11,58,59] rfl) ?_
     exact⟨N - (j+1),by omega,j+1,by omega,rfl,rfl⟩
    ·have hje:j=N:=by have:=ff h3;omega
     subst hje
     refine bf<|aR<|bE (fv (ys:=[num m,.own 2,.own 3]) rfl (bL.tk.get rfl) rfl rfl rfl rfl) rfl<|au 2 rfl<|aH [6,7] rfl ?_
     refine aq<|⟨_,_,az.of rfl,aC.bz (an.cons (aC.ja (an.cons aC.pure<|an.cons (aC.fu rfl an.pure)<|an.cons (aC.fu rfl an.pure) an.nil)) (an.cons aC.pure an.nil)),?_⟩
     unfold jB fV fU jY aw
     rw[if_pos rfl,qy,show T.nodes.toNat=j by omega]
end PW
end Go.Proofs.YtnegbdpggideiaaGreatDoor
namespace Go.Proofs.YtnegbdpggideiaaGreatDoor
namespace PW
open Go.RowKit cE Mem Net fk
namespace BV
def I9(T:ai)(D:List Bool)(d:Nat)(L:List Int)(a:Nat):List Int:=
 if(!aL D a)&&decide (0≤L.getD (aS T a).toNat 0)&&(decide (aS T a=(d:Int))|| !cR T (aS T a).toNat)&&(decide (L.getD (bb T a).toNat 0<0)||decide (L.getD (aS T a).toNat 0+cb T a<L.getD (bb T a).toNat 0))
 then L.set (bb T a).toNat (L.getD (aS T a).toNat 0+cb T a) else L
def dC(T:ai)(D:List Bool)(d:Nat):List Int:=(List.range T.nodes.toNat).foldl (fun L _=>(List.range (2*T.ae.length)).foldl (I9 T D d) L) ((List.replicate T.nodes.toNat (-1)).set d 0)
def EK(T:ai)(D:List Bool)(n:Nat)(out:List Int)(a:Nat):Bool:= !aL D a&&decide (0≤at' out (cJ T false a))&&(decide (cJ T false a=(n:Int))|| !cR T (cJ T false a).toNat)
def HL(T:ai)(D:List Bool)(n:Nat)(out:List Int):Bool:=
 decide (out.length=T.nodes.toNat)&&decide (at' out (n:Int)=0)&&(List.range T.nodes.toNat).all (fun x=>decide (-1≤at' out (x:Int)))&&
 (List.range (2*T.ae.length)).all (fun a=> !EK T D n out a||(decide (0≤at' out (eW T false a))&&decide (at' out (eW T false a)≤at' out (cJ T false a)+cb T a)))&&
 (List.range T.nodes.toNat).all (fun x=>decide (x=n)||decide (at' out (x:Int)<0)||(List.range (2*T.ae.length)).any fun a=>decide (eW T false a=(x:Int))&&EK T D n out a&&decide (at' out (x:Int)=at' out (cJ T false a)+cb T a))
def nh(T:ai)(D:List Bool):Bool:=(List.range T.nodes.toNat).all fun d=>HL T D d (dC T D d)
theorem tD(T:ai)(D:List Bool)(n:Nat)(out:List Int)(a:Nat):Net.Way T D n false out a↔EK T D n out a=true:=by
 unfold Net.Way EK
 simp[and_assoc]
theorem FI{T:ai}{D:List Bool}(hv:ao T=true){n:Nat}{out:List Int}(h:HL T D n out=true):ik T D n false out:=by
 have hN:=(aK hv).nodes
 simp only[HL,Bool.and_eq_true,decide_eq_true_eq,List.all_eq_true,List.mem_range,Bool.or_eq_true,Bool.not_eq_true',List.any_eq_true]at h
 obtain⟨⟨⟨⟨h1,h2⟩,h3⟩,h4⟩,h5⟩:=h
 refine⟨by rw[h1];omega,h2,fun x hx=>h3 x (by omega),fun a ha hw=>?_,fun x hx h0=>?_⟩
 ·rcases h4 a ha with h|h
  ·rw[(tD T D n out a).1 hw]at h;cases h
  ·exact h
 ·rcases h5 x (by omega)with(h|h)|⟨a,ha,⟨h6,h7⟩,h8⟩
  ·exact .inl h
  ·omega
  ·exact .inr ⟨a,ha,h6,(tD T D n out a).2 h7,h8⟩
theorem Fl{T:ai}{D:List Bool}(hv:ao T=true)(h:nh T D=true){d:Nat}(hd:(d:Int)<T.nodes):br T D d false=dC T D d:=by
 refine jN (aK hv) (FI hv ?_)
 simp only[nh,List.all_eq_true,List.mem_range]at h
 exact h d (by omega)
def kE(T:ai)(D:List Bool)(n d:Nat):List Int:=if n=d∨(dC T D d).getD n 0<0 then [] else kF T D (dC T D d) ((dC T D d).getD n 0) d (bH T n)
theorem next{T:ai}{D:List Bool}(hv:ao T=true)(h:nh T D=true){n d:Nat}(hd:(d:Int)<T.nodes):bx T D n d=kE T D n d:=by
 unfold bx kE;rw[Fl hv h hd]
def tG(T:ai)(D:List Bool)(d:Nat):Nat→Nat→List Int
 |0,_=>[]
 |f+1,n=>match kE T D n d with
  | []=>[]
  |a::_=>a::tG T D d f (aS T a.toNat).toNat
def rf(T:ai)(D:List Bool)(n d:Nat):List Int:=tG T D d ((dC T D d).getD n 0).toNat n
theorem first{T:ai}{D:List Bool}(hv:ao T=true)(h:nh T D=true){d:Nat}(hd:(d:Int)<T.nodes):∀f n,fe T D d f n=tG T D d f n
 |0,_=>rfl
 |f+1,n=>by
  simp only[fe,tG,next hv h hd]
  cases kE T D n d with
  |nil=>rfl
  |cons a l=>simp only[first hv h hd f]
theorem IG{T:ai}{D:List Bool}(hv:ao T=true)(h:nh T D=true){n d:Nat}(hd:(d:Int)<T.nodes):b9 T D n d=rf T D n d:=by
 unfold b9 rf dN;rw[Fl hv h hd,first hv h hd]
def Fv(T:ai)(D:List Bool)(s d:Int):Int:=if cc T D s d=0 then(if(dC T D d.toNat).getD s.toNat 0<0 then 11 else 0) else cc T D s d
theorem pJ{T:ai}{D:List Bool}{s d:Int}(h:cc T D s d=0):(d.toNat:Int)<T.nodes∧0≤d:=by
 obtain⟨_,_,_,h4⟩:=fc h
 rw[aU]at h4
 omega
theorem Jc{T:ai}{D:List Bool}(hv:ao T=true)(h:nh T D=true)(s d:Int):gu T D s d=Fv T D s d:=by
 unfold gu Fv dN
 by_cases h0:cc T D s d=0
 ·rw[if_pos h0,if_pos h0,Fl hv h (pJ h0).1]
 ·rw[if_neg h0,if_neg h0]
def yy(T:ai)(D:List Bool)(d:Nat):Nat→Nat→Int
 |0,m=>if m=d then 1 else 0
 |f+1,m=>if m=d then 1 else(kE T D m d).foldl (fun c a=>min 2 (c+yy T D d f (aS T a.toNat).toNat)) 0
theorem mj{T:ai}{D:List Bool}(hv:ao T=true)(h:nh T D=true){d:Nat}(hd:(d:Int)<T.nodes):∀f m,mv T D d f m=yy T D d f m
 |0,_=>rfl
 |f+1,m=>by
  simp only[mv,yy,next hv h hd]
  split
  ·rfl
  ·exact foldl_congr fun c a _=>by rw[mj hv h hd f]
def AB(T:ai)(D:List Bool)(n:Int)(p:List Int)(i j:Nat):Bool:=
 decide ((dC T D (cD T n (p.take j)).toNat).getD (cD T n (p.take i)).toNat 0=cW T (p.take j) - cW T (p.take i))&&(decide (cc T D (cD T n (p.take i)) (cD T n (p.take j))=0)&&decide (yy T D (cD T n (p.take j)).toNat ((dC T D (cD T n (p.take j)).toNat).getD (cD T n (p.take i)).toNat 0).toNat (cD T n (p.take i)).toNat=1))
theorem Jh{T:ai}{D:List Bool}(hv:ao T=true)(h:nh T D=true)(n:Int)(p:List Int)(i j:Nat):eV T D n p i j=AB T D n p i j:=by
 unfold eV AB fx dJ dN
 by_cases h0:cc T D (cD T n (p.take i)) (cD T n (p.take j))=0
 ·rw[Fl hv h (pJ h0).1,mj hv h (pJ h0).1]
 ·rw[decide_eq_false h0];simp
def Cm(T:ai)(D:List Bool)(n:Int)(p:List Int):Nat→Nat→List bY
 |0,_=>[]
 |f+1,i=>if i<p.length then(match kJ (AB T D n p i) i p.length with
  |some j=>⟨1,cD T n (p.take j)⟩::Cm T D n p f j
  |none=>⟨2,p.getD i 0⟩::Cm T D n p f (i+1)) else []
theorem EB{T:ai}{D:List Bool}(hv:ao T=true)(h:nh T D=true)(n:Int)(p:List Int):∀f i,hJ T D n p f i=Cm T D n p f i
 |0,_=>rfl
 |f+1,i=>by
  have:eV T D n p i=AB T D n p i:=funext fun j=>Jh hv h n p i j
  simp only[hJ,Cm,this]
  split
  ·cases kJ (AB T D n p i) i p.length with
   |none=>simp only[EB hv h n p f]
   |some j=>simp only[EB hv h n p f]
  ·rfl
def HD(T:ai)(D:List Bool)(n d:Int):iE:=
 if Fv T D n d=0∧n≠d then⟨[(rf T D n.toNat d.toNat).getD 0 0],true,jk (Cm T [] n (rf T D n.toNat d.toNat) (rf T D n.toNat d.toNat).length 0)⟩ else⟨[],false,[]⟩
theorem Cc{T:ai}{D:List Bool}(hv:ao T=true)(h0:nh T []=true)(h:nh T D=true)(n d:Int):jA T D n d=HD T D n d:=by
 unfold jA HD
 rw[Jc hv h]
 by_cases hd:(d.toNat:Int)<T.nodes
 ·unfold iJ
  rw[IG hv h hd,EB hv h0]
 ·have:¬Fv T D n d=0:=by
   unfold Fv
   intro hh
   split at hh
   ·rename_i h1;exact hd (pJ h1).1
   ·rename_i h1;exact h1 hh
  rw[if_neg (fun hh=>this hh.1),if_neg (fun hh=>this hh.1)]
def jJ(T:ai)(a:Nat)(d:Int):Int×Int:=
 if(decide (0<fM T a)&&decide (Fv T (ay T 3 (fM T a)) (bb T a) d=0))=true then(3,fM T a)
 else if(decide (aS T a≠d)&&decide (Fv T (ay T 2 (aS T a)) (bb T a) d=0))=true then(2,aS T a)
 else(1,((a / 2:Nat):Int))
theorem Kh{T:ai}(hv:ao T=true){a:Nat}(h3:nh T (ay T 3 (fM T a))=true)(h2:nh T (ay T 2 (aS T a))=true)(d:Int):cX T a d=jJ T a d:=by
 unfold cX jJ fY
 rw[Jc hv h3,Jc hv h2]
end BV
end PW
end Go.Proofs.YtnegbdpggideiaaGreatDoor
namespace Go.Proofs.YtnegbdpggideiaaGreatDoor
namespace PW
open Go.RowKit cE Mem Net fk
namespace BV
def uI(T:ai)(D:List Bool)(n:Nat):dR:=⟨n,(List.range T.nodes.toNat).map fun(d:Nat)=>⟨kE T D n d,false,[]⟩,cF D (bH T n)⟩
theorem Ds{T:ai}{D:List Bool}(hv:ao T=true)(h:nh T D=true)(n:Nat):dB T D n=uI T D n:=by
 have hN:=(aK hv).nodes
 unfold dB uI nY
 congr 1
 refine List.map_congr_left fun d hd=>?_
 have:=List.mem_range.1 hd
 rw[next hv h (by omega)]
end BV
def uH:List Bool:=[true,true,false,false,false,false,false,false]
theorem ml:BV.nh cL []=true:=by kernel_rfl
def G2:dR:=⟨3,[⟨[6],false,[]⟩,⟨[5,6],false,[]⟩,⟨[5],false,[]⟩,⟨[],false,[]⟩],[]⟩
theorem CH:dB cL [] 3=G2:=(BV.Ds kp ml 3).trans (by kernel_rfl)
end PW
end Go.Proofs.YtnegbdpggideiaaGreatDoor
namespace Go.Proofs.YtnegbdpggideiaaGreatDoor
namespace PW
open Go.RowKit cE Mem Net fk
namespace BV
def Gk(T:ai)(own:List Bool)(n d:Int)(a:Nat):List Bool:=
 if Fv T (orM T (ay T (jJ T a d).1 (jJ T a d).2) own) n d=0 then orM T (ay T (jJ T a d).1 (jJ T a d).2) own else own
def Hx(T:ai)(own:List Bool)(n d:Nat):iE:=match kI own (kE T [] n d)with
 |none=>⟨kE T [] n d,false,[]⟩
 |some a=>HD T (Gk T own n d a.toNat) n d
def HO(T:ai)(own:List Bool)(n d:Nat):Bool:=match kI own (kE T [] n d)with
 |none=>true
 |some a=>nh T (ay T 3 (fM T a.toNat))&&nh T (ay T 2 (aS T a.toNat))&&nh T (orM T (ay T (jJ T a.toNat d).1 (jJ T a.toNat d).2) own)&&nh T (Gk T own n d a.toNat)
theorem rep{T:ai}{own:List Bool}{n d:Nat}(hv:ao T=true)(h0:nh T []=true)(hd:(d:Int)<T.nodes)(h:HO T own n d=true):mP T own n d=Hx T own n d:=by
 unfold mP Hx
 unfold HO at h
 rw[next hv h0 hd]
 cases hh:kI own (kE T [] n d)with
 |none=>rfl
 |some a=>
  rw[hh]at h
  simp only[Bool.and_eq_true]at h
  obtain⟨⟨⟨h1,h2⟩,h3⟩,h4⟩:=h
  have hm:om T own n d a.toNat=Gk T own n d a.toNat:=by
   unfold om Gk fY
   rw[Kh hv h1 h2,Jc hv h3]
   by_cases e:Fv T (orM T (ay T (jJ T a.toNat (d:Int)).1 (jJ T a.toNat (d:Int)).2) own) n d=0
   ·rw[if_pos (by simpa using e),if_pos e]
   ·rw[if_neg (by simpa using e),if_neg e]
  simp only[]
  rw[hm,Cc hv h0 h4]
def zQ(T:ai)(M:List Bool)(n:Nat):dR:=⟨n,(List.range T.nodes.toNat).map fun d=>Hx T (fE T M n) n d,cF M (bH T n)⟩
theorem CK{T:ai}{M:List Bool}{n:Nat}(hv:ao T=true)(h0:nh T []=true)(h:((List.range T.nodes.toNat).all fun d=>HO T (fE T M n) n d)=true):qh T M n=zQ T M n:=by
 have hN:=(aK hv).nodes
 unfold qh zQ oS
 congr 1
 refine List.map_congr_left fun d hd=>?_
 have hd':=List.mem_range.1 hd
 exact rep hv h0 (by omega) (List.all_eq_true.1 h d hd)
end BV
def Hh:dR:=⟨0,[⟨[],false,[]⟩,⟨[7],true,[⟨1,3⟩,⟨1,2⟩,⟨1,1⟩]⟩,⟨[7],true,[⟨1,3⟩,⟨1,2⟩]⟩,⟨[7],false,[]⟩],[0]⟩
theorem CR:qh cL uH 0=Hh:=(BV.CK kp ml (by kernel_rfl)).trans (by kernel_rfl)
end PW
end Go.Proofs.YtnegbdpggideiaaGreatDoor
namespace Go.Proofs.YtnegbdpggideiaaGreatDoor
namespace PW
open Go.RowKit cE Mem Net Go.WideShapes
structure uK where
 T:ai
 k:Int
 x:Int
 S:List Int
 n:Int
 d:Int
def DA(c:uK):List PV:=bw c.T++[num c.k,num c.x,aw c.S,num c.n,num c.d]
def pC(c:uK):PV:=.agg (DA c)
instance (c:uK):aJ (DA c):=by unfold DA;unfold bw;simp only[List.cons_append,List.nil_append];infer_instance
instance (c:uK):IsPure (pC c):=by unfold pC;infer_instance
section
variable {H:Type} {enc:TypeId×Value→H} {W:World}
theorem FV{n:Nat}{cs:List Value}{y:DataW H×List MemPlace}(h:DataW.trod enc Tryz.prog W 0 (fun _=>true) true n 33 cs=some y)(hl:cs.length=2):∃k x:Int,cs=[.int .i64 k,.int .i64 x]:=by
 have c3:Tryz.prog.cellsOf 3=1:=by kernel_rfl
 obtain⟨xs,m,_,_,_,hlen,hf⟩:=DataW.trod_struct Tryz.underlying33 h
 match cs,hl with
 | [c0,c1],_=>
  match xs,hlen with
  | [y0,y1],_=>
   have f0:DataW.trod enc Tryz.prog W 0 (fun _=>true) true m 3 (([c0,c1].drop 0).take (Tryz.prog.cellsOf 3))=some y0:=hf 0 _ rfl
   rw[c3]at f0
   have f1:DataW.trod enc Tryz.prog W 0 (fun _=>true) true m 3 (([c0,c1].drop 1).take (Tryz.prog.cellsOf 3))=some y1:=hf 1 _ rfl
   rw[c3]at f1
   obtain⟨a0,h0⟩:=gG f0
   obtain⟨a1,h1⟩:=gG f1
   simp at h0 h1
   subst h0 h1
   exact⟨a0,a1,rfl⟩
theorem Hu{base:Nat}{v:Value}{d:DataW H}{p:List MemPlace}(hv:Value.okWide Tryz.prog W .any base 50 v)(h:DataW.Trod enc Tryz.prog W 0 (fun _=>true) true 50 v d p):∃c:uK,cC EN W v (pC c):=by
 have hC:Tryz.prog.cellsOf 50=8:=by kernel_rfl
 have k_topo:Tryz.prog.cellsOf 25=3:=by kernel_rfl
 have k_comp:Tryz.prog.cellsOf 33=2:=by kernel_rfl
 have k_ints:Tryz.prog.cellsOf 37=1:=by kernel_rfl
 have k_int:Tryz.prog.cellsOf 3=1:=by kernel_rfl
 obtain⟨cs,rfl,hsz⟩:=okWide_struct Tryz.underlying50 hv
 rw[hC]at hsz
 obtain⟨fuel,hf⟩:=h
 obtain⟨cl⟩:=cs
 match cl,hsz with
 | [c0,c1,c2,c3,c4,c5,c6,c7],_=>
  obtain⟨xs,m,_,_,_,hlen,hg⟩:=DataW.trod_struct Tryz.underlying50 hf
  match xs,hlen with
  | [y0,y1,y2,y3,y4],_=>
   have f0:DataW.trod enc Tryz.prog W 0 (fun _=>true) true m 25 (([c0,c1,c2,c3,c4,c5,c6,c7].drop 0).take (Tryz.prog.cellsOf 25))=some y0:=hg 0 _ rfl
   rw[k_topo]at f0
   have f1:DataW.trod enc Tryz.prog W 0 (fun _=>true) true m 33 (([c0,c1,c2,c3,c4,c5,c6,c7].drop 3).take (Tryz.prog.cellsOf 33))=some y1:=hg 1 _ rfl
   rw[k_comp]at f1
   have f2:DataW.trod enc Tryz.prog W 0 (fun _=>true) true m 37 (([c0,c1,c2,c3,c4,c5,c6,c7].drop 5).take (Tryz.prog.cellsOf 37))=some y2:=hg 2 _ rfl
   rw[k_ints]at f2
   have f3:DataW.trod enc Tryz.prog W 0 (fun _=>true) true m 3 (([c0,c1,c2,c3,c4,c5,c6,c7].drop 6).take (Tryz.prog.cellsOf 3))=some y3:=hg 3 _ rfl
   rw[k_int]at f3
   have f4:DataW.trod enc Tryz.prog W 0 (fun _=>true) true m 3 (([c0,c1,c2,c3,c4,c5,c6,c7].drop 7).take (Tryz.prog.cellsOf 3))=some y4:=hg 4 _ rfl
   rw[k_int]at f4
   obtain⟨T,hT⟩:=CO f0 rfl
   obtain⟨k,x,hkx⟩:=FV f1 rfl
   simp only[List.drop,List.take,List.cons.injEq,and_true]at hkx
   obtain⟨rfl,rfl⟩:=hkx
   obtain⟨L2,hL2⟩:=Fq f2
   obtain⟨n3,hn3⟩:=gG f3
   simp at hn3
   subst hn3
   obtain⟨n4,hn4⟩:=gG f4
   simp at hn4
   subst hn4
   have hall:aW EN W [c0,c1,c2,.int .i64 k,.int .i64 x,c5,.int .i64 n3,.int .i64 n4] (DA ⟨T,k,x,L2,n3,n4⟩):=hT.append (aW.cons (.raw _)<|aW.cons (.raw _)<|aW.cons (hL2)<|aW.cons (.raw _)<|aW.cons (.raw _)<|(aW.nil _ _))
   exact⟨⟨T,k,x,L2,n3,n4⟩,.agg _ _ (by simpa using hall.1) (fun i x u h1 h2=>hall.2 i x u (by simpa using h1) h2)⟩
end
end PW
end Go.Proofs.YtnegbdpggideiaaGreatDoor
namespace Go.Proofs.YtnegbdpggideiaaGreatDoor
namespace PW
open Go.RowKit cE Mem Net fk
def tooBig(T:ai):Bool:=decide ((10:Int)<T.nodes)||decide ((16:Int)<T.ae.length)
theorem Gw{T:ai}(h:tooBig T=false):T.nodes≤12∧T.ae.length≤16:=by
 unfold tooBig at h
 simp only[Bool.or_eq_false_iff,decide_eq_false_iff_not]at h
 omega
theorem se(L:List Int):Can Tryz.prog 35 [aw L,aw L] (· =flag true):=by
 have h:=AI L L
 rw[show mz L L=true from decide_eq_true rfl]at h
 exact h
end PW
end Go.Proofs.YtnegbdpggideiaaGreatDoor
namespace Go.Proofs.YtnegbdpggideiaaGreatDoor
namespace PW
open Go.RowKit cE Mem Net fk
end PW
end Go.Proofs.YtnegbdpggideiaaGreatDoor
namespace Go.Proofs.YtnegbdpggideiaaGreatDoor
namespace PW
open Go.RowKit cE Mem Net fk
end PW
end Go.Proofs.YtnegbdpggideiaaGreatDoor
namespace Go.Proofs.YtnegbdpggideiaaGreatDoor
namespace PW
open Go.RowKit cE Mem Net fk
end PW
end Go.Proofs.YtnegbdpggideiaaGreatDoor
