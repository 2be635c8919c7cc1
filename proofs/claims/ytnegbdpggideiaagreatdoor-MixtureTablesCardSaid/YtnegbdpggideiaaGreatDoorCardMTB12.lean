/- Texts of the proof, part 12. -/
import Derived.Test.YtnegbdpggideiaaGreatDoorCardMTB11
set_option linter.unusedVariables false
set_option linter.unusedSimpArgs false
set_option maxRecDepth 10000
set_option maxHeartbeats 1000000
namespace Go.Proofs.YtnegbdpggideiaaGreatDoor
namespace PW
open Go.RowKit cH Mem Net ft
theorem Bs{P:Program}{N L:Nat}{id:Nat}{l:List Oper}{y:Code}{st:St}{Q:Exit→St→Prop}(t':b9)(σ':cg)(t'':b9)(σ'':cg)(hm:P.follows .mixedOrders=true)(h:WA P N L l.toArray l.length (Array.replicate l.length false) st (fun s=>(s.σ=σ'∧Sub s.t t')∨(s.σ=σ''∧Sub s.t t'')))(hr:W P N L y ⟨t',σ'⟩ Q→W P N L y ⟨t'',σ''⟩ Q)(hq:W P N L y ⟨t',σ'⟩ Q):W P N L (.seq (.region id l.toArray true) y) st Q:=
 oR hm (h.mono fun s hs=>by
  obtain⟨t,σ⟩:=s
  rcases hs with⟨h1,h2⟩|⟨h1,h2⟩
  ·subst h1;exact jF h2 hq
  ·subst h1;exact jF h2 (hr hq))
theorem yo(T:an)(k x:Int):bL T (fU T k x)=true:=by
 unfold fU
 split
 ·exact fX T k x
 ·exact ig T
theorem De(T:an)(k x:Int)(n:Nat)(hv:av T=true)(hn:(n:Int)<T.nodes):Can Tryz.prog 179 ([bY k x]++[.aX (bn T) 0,.aX [num n] 0]) (· =aw (bE T (fU T k x) n true)):=by
 have hmk:=kY T k x
 unfold gI at hmk
 have hfr:=CI T (fU T k x) n
 have hch:ca T (fU T k x) [(n:Int)]=0:=by
  unfold ca
  rw[hv,yo]
  simp[aO.2 (show 0≤(n:Int)∧(n:Int)<T.nodes by omega)]
 rw[hch]at hfr
 unfold df at hfr
 rw[if_pos rfl,Int.toNat_natCast]at hfr
 exact aF Tryz.func179 rfl Tryz.ntmps179 rfl<|ab (.a 2 rfl<|.k [1,2,3] rfl)<|ab (.a 2 rfl<|.c rfl (hmk) rfl<|.a 5 rfl<|.k [1,2,5] rfl)<|ab (.a 3 rfl<|.c rfl (hfr) rfl<|.a 5 rfl<|.k [7] rfl)<|ab (.a 2 rfl<|.k [4] rfl)<|ao<|⟨_,_,aA.of rfl,ax.pure,rfl⟩
theorem Dz(g:Int)(L:List Int)(d:Nat)(c2:Bool)(hL:0<g→d<L.length∧decide (0≤L.getD d 0)=c2):Can Tryz.prog 181 ([num d]++[.aX (cw 3 g) 0,.aX [aw L] 0]) (· = .tuple [bY 3 g,flag (decide (0<g)&&c2)]):=by
 obtain⟨c1,hc1⟩:∃q,decide (0<g)=q:=⟨_,rfl⟩
 rw[hc1]
 refine aF Tryz.func181 rfl Tryz.ntmps181 rfl<|aH<|aq 2 rfl<|aD [0,1,2,4] rfl ?_
 refine ue (Q1:=fun st=>st=⟨[(4,.ptr 0 0),(5,flag (c1&&c2))],[some (.cells 33 (cw 3 g))]⟩) ?_ ?_
 ·cases c1
  ·refine wu 20 1 ([some (.cells 33 [num 0,num 0])]::[some (.cells 33 (cw 3 g))]::[]) (⟨_,none,0,0⟩::⟨_,none,0,0⟩::⟨_,none,0,0⟩::⟨_,none,0,0⟩::⟨_,none,0,0⟩::⟨_,none,0,1⟩::⟨_,none,0,1⟩::⟨_,none,0,1⟩::⟨_,none,0,1⟩::⟨_,none,0,1⟩::⟨_,none,0,1⟩::⟨_,some 0,0,0⟩::⟨_,none,1,1⟩::[]) _ mixed ?grd1 rfl rfl rfl rfl (.cons (.val [1] rfl rfl (yz (eW (bI rfl) gJ)) rfl rfl)<|.cons (.val [1] rfl rfl (yz (eW (bI rfl) gJ)) rfl rfl)<|.cons (.val [7] rfl rfl (yz (eW (bI rfl) gJ)) rfl rfl)<|.cons (.val [8] rfl rfl (yz (eW (b7 rfl (hc1)) gJ)) rfl rfl)<|.cons (.val [9] rfl rfl (yz (eW (bI rfl) gJ)) rfl rfl)<|.cons (.skip rfl rfl rfl)<|.cons (.skip rfl rfl rfl)<|.cons (.skip rfl rfl rfl)<|.cons (.skip rfl rfl rfl)<|.cons (.skip rfl rfl rfl)<|.cons (.val [10,15] rfl rfl (yz (eW (bI rfl) (eW (bI rfl) gJ))) rfl rfl)<|.cons (.pz [4,6] rfl rfl rfl rfl (dU rfl) rfl)<|.cons (.val [16] rfl rfl (yz (eW (bI rfl) gJ)) rfl rfl) .nil) (bd (ks:=[4,5]) rfl) ?_
   case grd1=>kernel_rfl
   rfl
  ·refine wu 20 1 ([some (.cells 33 [num 0,num 0])]::[some (.cells 33 (cw 3 g))]::[]) (⟨_,none,0,0⟩::⟨_,none,0,0⟩::⟨_,none,0,0⟩::⟨_,none,0,0⟩::⟨_,none,0,0⟩::⟨_,none,0,1⟩::⟨_,none,0,1⟩::⟨_,none,0,1⟩::⟨_,none,0,1⟩::⟨_,none,0,1⟩::⟨_,none,0,1⟩::⟨_,some 0,0,0⟩::⟨_,none,1,1⟩::[]) _ mixed ?grd2 rfl rfl rfl rfl (.cons (.val [1] rfl rfl (yz (eW (bI rfl) gJ)) rfl rfl)<|.cons (.val [1] rfl rfl (yz (eW (bI rfl) gJ)) rfl rfl)<|.cons (.val [7] rfl rfl (yz (eW (bI rfl) gJ)) rfl rfl)<|.cons (.val [8] rfl rfl (yz (eW (b7 rfl (hc1)) gJ)) rfl rfl)<|.cons (.val [9] rfl rfl (yz (eW (bI rfl) gJ)) rfl rfl)<|.cons (.val [2] rfl rfl (yz (eW (bI rfl) (eW (bI rfl) gJ))) rfl rfl)<|.cons (.val [0] rfl rfl (yz (eW (bI rfl) (eW (bI rfl) gJ))) rfl rfl)<|.cons (.val [11,12] rfl rfl (yz (eW (aI (d) rfl (by omega) (by have:=(hL (tt hc1)).1;omega)) (eW (aI (d) rfl (by omega) (by have:=(hL (tt hc1)).1;omega)) gJ))) rfl rfl)<|.cons (.val [13] rfl rfl (yz (eW (aK rfl (ay L d (hL (tt hc1)).1)) (eW (aK rfl (ay L d (hL (tt hc1)).1)) gJ))) rfl rfl)<|.cons (.val [14] rfl rfl (yz (eW (b7 rfl ((hL (tt hc1)).2)) (eW (b7 rfl ((hL (tt hc1)).2)) gJ))) rfl rfl)<|.cons (.val [10,15] rfl rfl (yz (eW (bI rfl) (eW (bI rfl) gJ))) rfl rfl)<|.cons (.pz [4,6] rfl rfl rfl rfl (dU rfl) rfl)<|.cons (.val [16] rfl rfl (yz (eW (bI rfl) gJ)) rfl rfl) .nil) (bd (ks:=[4,5]) rfl) ?_
   case grd2=>kernel_rfl
   rfl
 rintro _ rfl
 exact ao<|⟨_,_,aA.of rfl,ax.pure (p:=.tuple [bY 3 g,flag (c1&&c2)]),rfl⟩
theorem DK(h:Int)(L:List Int)(d:Nat)(c2:Bool)(hd:d<L.length)(hL:decide (0≤L.getD d 0)=c2):Can Tryz.prog 182 ([num d]++[.aX (cw 2 h) 0,.aX [num h] 0,.aX [aw L] 0]) (· = .tuple [bY 2 h,flag (decide (h≠d)&&c2)]):=by
 obtain⟨c1,hc1⟩:∃q,decide ((d:Int)≠h)=q:=⟨_,rfl⟩
 have hc1':decide (h≠(d:Int))=c1:=by rw[←hc1];exact decide_eq_decide.2 ⟨fun e=>e.symm,fun e=>e.symm⟩
 rw[hc1']
 refine aF Tryz.func182 rfl Tryz.ntmps182 rfl<|aH<|aq 2 rfl<|aD [0,1,2,3,5] rfl ?_
 refine ue (Q1:=fun st=>st=⟨[(5,.ptr 0 0),(6,flag (c1&&c2))],[some (.cells 33 (cw 2 h))]⟩) ?_ ?_
 ·cases c1
  ·refine wu 20 1 ([some (.cells 33 [num 0,num 0])]::[some (.cells 33 (cw 2 h))]::[]) (⟨_,none,0,0⟩::⟨_,none,0,0⟩::⟨_,none,0,0⟩::⟨_,none,0,0⟩::⟨_,none,0,0⟩::⟨_,none,0,1⟩::⟨_,none,0,1⟩::⟨_,none,0,1⟩::⟨_,none,0,1⟩::⟨_,none,0,1⟩::⟨_,none,0,1⟩::⟨_,some 0,0,0⟩::⟨_,none,1,1⟩::[]) _ mixed ?grd3 rfl rfl rfl rfl (.cons (.val [1] rfl rfl (yz (eW (bI rfl) gJ)) rfl rfl)<|.cons (.val [0] rfl rfl (yz (eW (bI rfl) gJ)) rfl rfl)<|.cons (.val [2] rfl rfl (yz (eW (bI rfl) gJ)) rfl rfl)<|.cons (.val [8,9] rfl rfl (yz (eW (b7 rfl (hc1)) gJ)) rfl rfl)<|.cons (.val [10] rfl rfl (yz (eW (bI rfl) gJ)) rfl rfl)<|.cons (.skip rfl rfl rfl)<|.cons (.skip rfl rfl rfl)<|.cons (.skip rfl rfl rfl)<|.cons (.skip rfl rfl rfl)<|.cons (.skip rfl rfl rfl)<|.cons (.val [11,16] rfl rfl (yz (eW (bI rfl) (eW (bI rfl) gJ))) rfl rfl)<|.cons (.pz [5,7] rfl rfl rfl rfl (dU rfl) rfl)<|.cons (.val [17] rfl rfl (yz (eW (bI rfl) gJ)) rfl rfl) .nil) (bd (ks:=[5,6]) rfl) ?_
   case grd3=>kernel_rfl
   rfl
  ·refine wu 20 1 ([some (.cells 33 [num 0,num 0])]::[some (.cells 33 (cw 2 h))]::[]) (⟨_,none,0,0⟩::⟨_,none,0,0⟩::⟨_,none,0,0⟩::⟨_,none,0,0⟩::⟨_,none,0,0⟩::⟨_,none,0,1⟩::⟨_,none,0,1⟩::⟨_,none,0,1⟩::⟨_,none,0,1⟩::⟨_,none,0,1⟩::⟨_,none,0,1⟩::⟨_,some 0,0,0⟩::⟨_,none,1,1⟩::[]) _ mixed ?grd4 rfl rfl rfl rfl (.cons (.val [1] rfl rfl (yz (eW (bI rfl) gJ)) rfl rfl)<|.cons (.val [0] rfl rfl (yz (eW (bI rfl) gJ)) rfl rfl)<|.cons (.val [2] rfl rfl (yz (eW (bI rfl) gJ)) rfl rfl)<|.cons (.val [8,9] rfl rfl (yz (eW (b7 rfl (hc1)) gJ)) rfl rfl)<|.cons (.val [10] rfl rfl (yz (eW (bI rfl) gJ)) rfl rfl)<|.cons (.val [3] rfl rfl (yz (eW (bI rfl) (eW (bI rfl) gJ))) rfl rfl)<|.cons (.val [0] rfl rfl (yz (eW (bI rfl) (eW (bI rfl) gJ))) rfl rfl)<|.cons (.val [12,13] rfl rfl (yz (eW (aI (d) rfl) (eW (aI (d) rfl) gJ))) rfl rfl)<|.cons (.val [14] rfl rfl (yz (eW (aK rfl (ay L d hd)) (eW (aK rfl (ay L d hd)) gJ))) rfl rfl)<|.cons (.val [15] rfl rfl (yz (eW (b7 rfl (hL)) (eW (b7 rfl (hL)) gJ))) rfl rfl)<|.cons (.val [11,16] rfl rfl (yz (eW (bI rfl) (eW (bI rfl) gJ))) rfl rfl)<|.cons (.pz [5,7] rfl rfl rfl rfl (dU rfl) rfl)<|.cons (.val [17] rfl rfl (yz (eW (bI rfl) gJ)) rfl rfl) .nil) (bd (ks:=[5,6]) rfl) ?_
   case grd4=>kernel_rfl
   rfl
 rintro _ rfl
 exact ao<|⟨_,_,aA.of rfl,ax.pure (p:=.tuple [bY 2 h,flag (c1&&c2)]),rfl⟩
def F2(g:Int)(L:List Int):PV:=.func 181 [.aX (cw 3 g) 0,.aX [aw L] 0]
def F3(h:Int)(L:List Int):PV:=.func 182 [.aX (cw 2 h) 0,.aX [num h] 0,.aX [aw L] 0]
def jZ(g h k:Int)(L M:List Int):List PV:=[.aX [.slice 2 [F2 g L,F3 h M]] 0,.aX (cw 1 k) 0]
instance (g:Int) (L:List Int):IsPure (F2 g L):=by unfold F2;infer_instance
instance (g:Int) (L:List Int):IsPure (F3 g L):=by unfold F3;infer_instance
instance (g h k:Int) (L M:List Int):aL (jZ g h k L M):=by unfold jZ;infer_instance
theorem Dc(g h k:Int)(L M:List Int)(d:Nat)(c2 c4:Bool)(hL:0<g→d<L.length∧decide (0≤L.getD d 0)=c2)(hd:d<M.length)(hM:decide (0≤M.getD d 0)=c4):Can Tryz.prog 183 ([num d]++jZ g h k L M) (· =if(decide (0<g)&&c2)=true then bY 3 g else if(decide (h≠d)&&c4)=true then bY 2 h else bY 1 k):=by
 have h2:=Dz g L d c2 hL
 have h3:=DK h M d c4 hd hM
 obtain⟨o1,ho1⟩:∃o,(decide (0<g)&&c2)=o:=⟨_,rfl⟩
 obtain⟨o2,ho2⟩:∃o,(decide (h≠(d:Int))&&c4)=o:=⟨_,rfl⟩
 rw[ho1]at h2 ⊢
 rw[ho2]at h3 ⊢
 have hrule:∀i,i<2→∃f cap,[F2 g L,F3 h M][i]? =some (.func f cap)∧enters Tryz.prog f=true∧aL ([num d]++cap)∧Can Tryz.prog f ([num d]++cap) (· = .tuple [if i=0 then bY 3 g else bY 2 h,flag (if i=0 then o1 else o2)]):=fun i hi=>by
  match i,hi with
  |0,_=>exact⟨_,_,rfl,by kernel_rfl,inferInstance,h2⟩
  |1,_=>exact⟨_,_,rfl,by kernel_rfl,inferInstance,h3⟩
 unfold jZ
 refine aF Tryz.func183 rfl Tryz.ntmps183 rfl<|aH<|aq 1 rfl<|aD [0,1,2,4] rfl ?_
 refine aj<|ab (.a 3 rfl<|.k [0,2,4,9,10,11] rfl)<|au<|ee [0,2,4,9,10,11] rfl<|bf (fun r s=>∃i,i≤2∧r=2 - i∧(1≤i→o1=false)∧(i=2→o2=false)∧s=⟨[(0,num d),(2,.aX (cw 1 k) 0),(4,.ptr 0 0),(9,.slice 2 [F2 g L,F3 h M]),(10,num 2),(11,num i)],[some (.cells 33 [num 0,num 0])]⟩) 2 ⟨0,by omega,by omega,fun h=>by omega,fun h=>by omega,rfl⟩ ?_
 rintro r s ⟨i,hi,rfl,hi1,hi2,rfl⟩
 refine ab (.a 1 rfl<|.k [0,2,4,9,10,11,12] rfl)<|aj<|af rfl (fun h1=>?_) (fun h1=>?_)
 ·have hlt:i<2:=by have:=tt h1;omega
  obtain⟨f,cap,hf,hen,hpu,hcan⟩:=hrule i hlt
  obtain⟨kx,kn,hkx⟩:∃kx kn,(if i=0 then bY 3 g else bY 2 h)=bY kx kn:=by
   split
   ·exact⟨_,_,rfl⟩
   ·exact⟨_,_,rfl⟩
  obtain⟨o,ho⟩:∃o,(if i=0 then o1 else o2)=o:=⟨_,rfl⟩
  rw[ho,hkx]at hcan
  haveI:=hpu
  refine ak<|aj<|au<|ab (.v (aI (i) rfl) rfl<|.v (aK rfl (hf)) rfl<|.a 1 rfl<|.k [0,2,4,6,9,10,11] rfl)<|aH<|aq 2 rfl<|bA (qh rfl hen rfl rfl hcan) rfl<|aq 6 rfl<|aD [0,2,4,7,8,9,10,11] rfl ?_
  refine ab (.a 1 rfl<|.k [0,2,4,7,9,10,11,21] rfl)<|af rfl (fun h2=>?_) (fun h2=>?_)
  ·subst h2
   refine aH<|aq 2 rfl<|aD [4] rfl ?_
   refine ao<|⟨_,_,aA.of rfl,ax.pure (p:=bY kx kn),?_⟩
   rw[←hkx]
   by_cases e:i=0
   ·rw[if_pos e]at ho ⊢
    rw[if_pos ho]
   ·rw[if_neg e]at ho ⊢
    rw[if_neg (by rw[hi1 (by omega)];simp),if_pos ho]
  ·subst h2
   refine ak<|dy [0] (.c 0<|.c 2<|.c 4<|.c 9<|.c 10<|.c 11<|.nil) (.kept rfl (.cells aC.pure)<|.nil) rfl rfl ?_
   refine aB (.v (aP rfl) rfl<|.a 1 rfl<|.k [0,2,4,9,10,11] rfl) ?_
   refine⟨2 - (i+1),by omega,i+1,by omega,rfl,fun _=>?_,fun e=>?_,rfl⟩
   ·by_cases e:i=0
    ·rw[if_pos e]at ho;exact ho
    ·exact hi1 (by omega)
   ·rw[if_neg (by omega)]at ho;exact ho
 ·have hie:i=2:=by have:=ff h1;omega
  subst hie
  rw[if_neg (by rw[hi1 (by omega)];simp),if_neg (by rw[hi2 rfl];simp)]
  refine aY<|aH<|aq 2 rfl<|aD [4] rfl ?_
  exact ao<|⟨_,_,aA.of rfl,ax.pure (p:=bY 1 k),rfl⟩
noncomputable def G0(T:an)(a:Nat):List Int:=if 0<fN T a then bE T (fU T 3 (fN T a)) (bw T a).toNat true else []
noncomputable def GZ(T:an)(a:Nat):List Int:=bE T (fU T 2 (bb T a)) (bw T a).toNat true
set_option maxHeartbeats 4000000 in
theorem xz(T:an)(a:Nat)(hv:av T=true)(ha:a<2*T.ag.length):Can Tryz.prog 155 [aJ T,num a] (· = .func 183 (jZ (fN T a) (bb T a) ((a / 2:Nat):Int) (G0 T a) (GZ T a))):=by
 have hll:=bJ hv
 have hi:a / 2<T.ag.length:=by omega
 have hS:=aQ hv
 have htl:=jk T a ha
 have hhd:=fA T a ha (by omega)
 obtain⟨n,hn⟩:=Int.eq_ofNat_of_zero_le (hS.tail a ha).1
 have hnN:(n:Int)<T.nodes:=by rw[←hn];exact(hS.tail a ha).2
 have hL:G0 T a=if 0<fN T a then bE T (fU T 3 (fN T a)) n true else []:=by unfold G0;rw[hn,Int.toNat_natCast]
 have hM:GZ T a=bE T (fU T 2 (bb T a)) n true:=by unfold GZ;rw[hn,Int.toNat_natCast]
 rw[hn]at htl
 obtain⟨h,hh⟩:∃h,bb T a=h:=⟨_,rfl⟩
 obtain⟨g,hg⟩:∃g,fN T a=g:=⟨_,rfl⟩
 have hgl:(cA T.ag (a / 2)).tD=g:=hg
 rw[hh]at hhd hM
 rw[hg]at hL
 rw[hL,hM,hh,hg]
 have h1:=fun k x=>De T k x n hv hnN
 obtain⟨c1,hc1⟩:∃q,decide (0<g)=q:=⟨_,rfl⟩
 refine aF Tryz.func155 rfl Tryz.ntmps155 rfl<|ab (.a 2 rfl<|.k [1,2] rfl)<|Bs ([(1,num a),(2,.aX (bn T) 0),(5,.ptr 0 0),(6,.ptr 1 0)]) ([some (.cells 3 [num n]),some (.cells 3 [num h])]) ([(1,num a),(2,.aX (bn T) 0),(5,.ptr 1 0),(6,.ptr 0 0)]) ([some (.cells 3 [num h]),some (.cells 3 [num n])]) mixed ?_ (fun hh=>dy [1,0] (.c 1<|.c 2<|.c 5<|.c 6<|.nil) (.kept rfl (.cells aC.pure)<|.kept rfl (.cells aC.pure)<|.nil) rfl rfl hh) ?_
 ·refine pZ [[(1,num a),(2,.aX (bn T) 0),(14,aJ T),(15,num a),(16,num n),(17,aJ T),(18,num a),(19,num h)],[(1,num a),(2,.aX (bn T) 0),(5,.ptr 0 0),(14,aJ T),(15,num a),(16,num n),(17,aJ T),(18,num a),(19,num h)],[(1,num a),(2,.aX (bn T) 0),(6,.ptr 0 0),(14,aJ T),(15,num a),(16,num n),(17,aJ T),(18,num a),(19,num h)],[(1,num a),(2,.aX (bn T) 0),(5,.ptr 0 0),(6,.ptr 1 0),(14,aJ T),(15,num a),(16,num n),(17,aJ T),(18,num a),(19,num h)],[(1,num a),(2,.aX (bn T) 0),(5,.ptr 1 0),(6,.ptr 0 0),(14,aJ T),(15,num a),(16,num n),(17,aJ T),(18,num a),(19,num h)]] [[],[some (.cells 3 [num n]),some (.cells 3 [num h])],[some (.cells 3 [num n]),some (.cells 3 [num 0])],[some (.cells 3 [num 0]),some (.cells 3 [num 0])],[some (.cells 3 [num 0])],[some (.cells 3 [num h]),some (.cells 3 [num n])],[some (.cells 3 [num 0]),some (.cells 3 [num n])]] [1,2] rfl (by kernel_rfl) (fun M hi ho=>?_)
  have μ0:M 0 1023 3 [1,2,5,6] 1:=hi<|oP rfl (by kernel_rfl) (.inl ⟨rfl,bd (ks:=[1,2,5,6]) rfl⟩)
  have μ1:M 1 511 3 [1,2,5,6,19] 2:=hi<|aa [(9,1023)] rfl (by kernel_rfl)<|od rfl rfl (dU rfl) rfl rfl (ho μ0) rfl rfl ae
  have μ2:M 2 255 3 [1,2,5,6,16,19] 3:=hi<|aa [(8,511)] rfl (by kernel_rfl)<|od rfl rfl (dU rfl) rfl rfl (ho μ1) rfl rfl ae
  have μ3:M 3 127 1 [1,2,5,16,19] 4:=hi<|aa [(7,255)] rfl (by kernel_rfl)<|bW rfl rfl (dU rfl) rfl (ho μ2) rfl rfl ae
  have μ4:M 0 1023 4 [1,2,5,6] 5:=hi<|oP rfl (by kernel_rfl) (.inr ⟨rfl,bd (ks:=[1,2,5,6]) rfl⟩)
  have μ5:M 1 511 4 [1,2,5,6,19] 6:=hi<|aa [(9,1023)] rfl (by kernel_rfl)<|od rfl rfl (dU rfl) rfl rfl (ho μ4) rfl rfl ae
  have μ6:M 2 255 4 [1,2,5,6,16,19] 3:=hi<|aa [(8,511)] rfl (by kernel_rfl)<|od rfl rfl (dU rfl) rfl rfl (ho μ5) rfl rfl ae
  have μ7:M 3 191 2 [1,2,6,16,19] 4:=hi<|aa [(6,255)] rfl (by kernel_rfl)<|bW rfl rfl (dU rfl) rfl (ho μ6) rfl rfl ae
  have μ8:M 4 63 0 [1,2,16,19] 0:=hi<|aa [(6,127),(7,191)] rfl (by kernel_rfl)<|bW rfl rfl (dU rfl) rfl (ho μ3) rfl rfl<|bW rfl rfl (dU rfl) rfl (ho μ7) rfl rfl ae
  have μ9:M 3 223 3 [1,2,5,6,16,17,18] 3:=hi<|aa [(5,255)] rfl (by kernel_rfl)<|bc rfl rfl (dw rfl (hhd)) rfl (ho μ2) rfl rfl ae
  have μ10:M 4 95 1 [1,2,5,16,17,18] 4:=hi<|aa [(5,127),(7,223)] rfl (by kernel_rfl)<|bc rfl rfl (dw rfl (hhd)) rfl (ho μ3) rfl rfl<|bW rfl rfl (dU rfl) rfl (ho μ9) rfl rfl ae
  have μ11:M 3 223 4 [1,2,5,6,16,17,18] 3:=hi<|aa [(5,255)] rfl (by kernel_rfl)<|bc rfl rfl (dw rfl (hhd)) rfl (ho μ6) rfl rfl ae
  have μ12:M 4 159 2 [1,2,6,16,17,18] 4:=hi<|aa [(5,191),(6,223)] rfl (by kernel_rfl)<|bc rfl rfl (dw rfl (hhd)) rfl (ho μ7) rfl rfl<|bW rfl rfl (dU rfl) rfl (ho μ11) rfl rfl ae
  have μ13:M 5 31 0 [1,2,16,17,18] 0:=hi<|aa [(5,63),(6,95),(7,159)] rfl (by kernel_rfl)<|bc rfl rfl (dw rfl (hhd)) rfl (ho μ8) rfl rfl<|bW rfl rfl (dU rfl) rfl (ho μ10) rfl rfl<|bW rfl rfl (dU rfl) rfl (ho μ12) rfl rfl ae
  have μ14:M 4 207 3 [1,2,5,6,16,17] 3:=hi<|aa [(4,223)] rfl (by kernel_rfl)<|ah (ho μ9) rfl rfl ae
  have μ15:M 5 79 1 [1,2,5,16,17] 4:=hi<|aa [(4,95),(7,207)] rfl (by kernel_rfl)<|ah (ho μ10) rfl rfl<|bW rfl rfl (dU rfl) rfl (ho μ14) rfl rfl ae
  have μ16:M 4 207 4 [1,2,5,6,16,17] 3:=hi<|aa [(4,223)] rfl (by kernel_rfl)<|ah (ho μ11) rfl rfl ae
  have μ17:M 5 143 2 [1,2,6,16,17] 4:=hi<|aa [(4,159),(6,207)] rfl (by kernel_rfl)<|ah (ho μ12) rfl rfl<|bW rfl rfl (dU rfl) rfl (ho μ16) rfl rfl ae
  have μ18:M 6 15 0 [1,2,16,17] 0:=hi<|aa [(4,31),(6,79),(7,143)] rfl (by kernel_rfl)<|ah (ho μ13) rfl rfl<|bW rfl rfl (dU rfl) rfl (ho μ15) rfl rfl<|bW rfl rfl (dU rfl) rfl (ho μ17) rfl rfl ae
  have μ19:M 4 215 3 [1,2,5,6,16,18] 3:=hi<|aa [(3,223)] rfl (by kernel_rfl)<|ah (ho μ9) rfl rfl ae
  have μ20:M 5 87 1 [1,2,5,16,18] 4:=hi<|aa [(3,95),(7,215)] rfl (by kernel_rfl)<|ah (ho μ10) rfl rfl<|bW rfl rfl (dU rfl) rfl (ho μ19) rfl rfl ae
  have μ21:M 4 215 4 [1,2,5,6,16,18] 3:=hi<|aa [(3,223)] rfl (by kernel_rfl)<|ah (ho μ11) rfl rfl ae
  have μ22:M 5 151 2 [1,2,6,16,18] 4:=hi<|aa [(3,159),(6,215)] rfl (by kernel_rfl)<|ah (ho μ12) rfl rfl<|bW rfl rfl (dU rfl) rfl (ho μ21) rfl rfl ae
  have μ23:M 6 23 0 [1,2,16,18] 0:=hi<|aa [(3,31),(6,87),(7,151)] rfl (by kernel_rfl)<|ah (ho μ13) rfl rfl<|bW rfl rfl (dU rfl) rfl (ho μ20) rfl rfl<|bW rfl rfl (dU rfl) rfl (ho μ22) rfl rfl ae
  have μ24:M 5 199 3 [1,2,5,6,16] 3:=hi<|aa [(3,207),(4,215)] rfl (by kernel_rfl)<|ah (ho μ14) rfl rfl<|ah (ho μ19) rfl rfl ae
  have μ25:M 6 71 1 [1,2,5,16] 4:=hi<|aa [(3,79),(4,87),(7,199)] rfl (by kernel_rfl)<|ah (ho μ15) rfl rfl<|ah (ho μ20) rfl rfl<|bW rfl rfl (dU rfl) rfl (ho μ24) rfl rfl ae
  have μ26:M 5 199 4 [1,2,5,6,16] 3:=hi<|aa [(3,207),(4,215)] rfl (by kernel_rfl)<|ah (ho μ16) rfl rfl<|ah (ho μ21) rfl rfl ae
  have μ27:M 6 135 2 [1,2,6,16] 4:=hi<|aa [(3,143),(4,151),(6,199)] rfl (by kernel_rfl)<|ah (ho μ17) rfl rfl<|ah (ho μ22) rfl rfl<|bW rfl rfl (dU rfl) rfl (ho μ26) rfl rfl ae
  have μ28:M 7 7 0 [1,2,16] 0:=hi<|aa [(3,15),(4,23),(6,71),(7,135)] rfl (by kernel_rfl)<|ah (ho μ18) rfl rfl<|ah (ho μ23) rfl rfl<|bW rfl rfl (dU rfl) rfl (ho μ25) rfl rfl<|bW rfl rfl (dU rfl) rfl (ho μ27) rfl rfl ae
  have μ29:M 4 219 3 [1,2,5,6,14,15,17,18] 3:=hi<|aa [(2,223)] rfl (by kernel_rfl)<|bc rfl rfl (dw rfl (htl)) rfl (ho μ9) rfl rfl ae
  have μ30:M 5 91 1 [1,2,5,14,15,17,18] 4:=hi<|aa [(2,95),(7,219)] rfl (by kernel_rfl)<|bc rfl rfl (dw rfl (htl)) rfl (ho μ10) rfl rfl<|bW rfl rfl (dU rfl) rfl (ho μ29) rfl rfl ae
  have μ31:M 4 219 4 [1,2,5,6,14,15,17,18] 3:=hi<|aa [(2,223)] rfl (by kernel_rfl)<|bc rfl rfl (dw rfl (htl)) rfl (ho μ11) rfl rfl ae
  have μ32:M 5 155 2 [1,2,6,14,15,17,18] 4:=hi<|aa [(2,159),(6,219)] rfl (by kernel_rfl)<|bc rfl rfl (dw rfl (htl)) rfl (ho μ12) rfl rfl<|bW rfl rfl (dU rfl) rfl (ho μ31) rfl rfl ae
  have μ33:M 6 27 0 [1,2,14,15,17,18] 0:=hi<|aa [(2,31),(6,91),(7,155)] rfl (by kernel_rfl)<|bc rfl rfl (dw rfl (htl)) rfl (ho μ13) rfl rfl<|bW rfl rfl (dU rfl) rfl (ho μ30) rfl rfl<|bW rfl rfl (dU rfl) rfl (ho μ32) rfl rfl ae
  have μ34:M 5 203 3 [1,2,5,6,14,15,17] 3:=hi<|aa [(2,207),(4,219)] rfl (by kernel_rfl)<|bc rfl rfl (dw rfl (htl)) rfl (ho μ14) rfl rfl<|ah (ho μ29) rfl rfl ae
  have μ35:M 6 75 1 [1,2,5,14,15,17] 4:=hi<|aa [(2,79),(4,91),(7,203)] rfl (by kernel_rfl)<|bc rfl rfl (dw rfl (htl)) rfl (ho μ15) rfl rfl<|ah (ho μ30) rfl rfl<|bW rfl rfl (dU rfl) rfl (ho μ34) rfl rfl ae
  have μ36:M 5 203 4 [1,2,5,6,14,15,17] 3:=hi<|aa [(2,207),(4,219)] rfl (by kernel_rfl)<|bc rfl rfl (dw rfl (htl)) rfl (ho μ16) rfl rfl<|ah (ho μ31) rfl rfl ae
  have μ37:M 6 139 2 [1,2,6,14,15,17] 4:=hi<|aa [(2,143),(4,155),(6,203)] rfl (by kernel_rfl)<|bc rfl rfl (dw rfl (htl)) rfl (ho μ17) rfl rfl<|ah (ho μ32) rfl rfl<|bW rfl rfl (dU rfl) rfl (ho μ36) rfl rfl ae
  have μ38:M 7 11 0 [1,2,14,15,17] 0:=hi<|aa [(2,15),(4,27),(6,75),(7,139)] rfl (by kernel_rfl)<|bc rfl rfl (dw rfl (htl)) rfl (ho μ18) rfl rfl<|ah (ho μ33) rfl rfl<|bW rfl rfl (dU rfl) rfl (ho μ35) rfl rfl<|bW rfl rfl (dU rfl) rfl (ho μ37) rfl rfl ae
  have μ39:M 5 211 3 [1,2,5,6,14,15,18] 3:=hi<|aa [(2,215),(3,219)] rfl (by kernel_rfl)<|bc rfl rfl (dw rfl (htl)) rfl (ho μ19) rfl rfl<|ah (ho μ29) rfl rfl ae
  have μ40:M 6 83 1 [1,2,5,14,15,18] 4:=hi<|aa [(2,87),(3,91),(7,211)] rfl (by kernel_rfl)<|bc rfl rfl (dw rfl (htl)) rfl (ho μ20) rfl rfl<|ah (ho μ30) rfl rfl<|bW rfl rfl (dU rfl) rfl (ho μ39) rfl rfl ae
  have μ41:M 5 211 4 [1,2,5,6,14,15,18] 3:=hi<|aa [(2,215),(3,219)] rfl (by kernel_rfl)<|bc rfl rfl (dw rfl (htl)) rfl (ho μ21) rfl rfl<|ah (ho μ31) rfl rfl ae
  have μ42:M 6 147 2 [1,2,6,14,15,18] 4:=hi<|aa [(2,151),(3,155),(6,211)] rfl (by kernel_rfl)<|bc rfl rfl (dw rfl (htl)) rfl (ho μ22) rfl rfl<|ah (ho μ32) rfl rfl<|bW rfl rfl (dU rfl) rfl (ho μ41) rfl rfl ae
  have μ43:M 7 19 0 [1,2,14,15,18] 0:=hi<|aa [(2,23),(3,27),(6,83),(7,147)] rfl (by kernel_rfl)<|bc rfl rfl (dw rfl (htl)) rfl (ho μ23) rfl rfl<|ah (ho μ33) rfl rfl<|bW rfl rfl (dU rfl) rfl (ho μ40) rfl rfl<|bW rfl rfl (dU rfl) rfl (ho μ42) rfl rfl ae
  have μ44:M 6 195 3 [1,2,5,6,14,15] 3:=hi<|aa [(2,199),(3,203),(4,211)] rfl (by kernel_rfl)<|bc rfl rfl (dw rfl (htl)) rfl (ho μ24) rfl rfl<|ah (ho μ34) rfl rfl<|ah (ho μ39) rfl rfl ae
  have μ45:M 7 67 1 [1,2,5,14,15] 4:=hi<|aa [(2,71),(3,75),(4,83),(7,195)] rfl (by kernel_rfl)<|bc rfl rfl (dw rfl (htl)) rfl (ho μ25) rfl rfl<|ah (ho μ35) rfl rfl<|ah (ho μ40) rfl rfl<|bW rfl rfl (dU rfl) rfl (ho μ44) rfl rfl ae
  have μ46:M 6 195 4 [1,2,5,6,14,15] 3:=hi<|aa [(2,199),(3,203),(4,211)] rfl (by kernel_rfl)<|bc rfl rfl (dw rfl (htl)) rfl (ho μ26) rfl rfl<|ah (ho μ36) rfl rfl<|ah (ho μ41) rfl rfl ae
  have μ47:M 7 131 2 [1,2,6,14,15] 4:=hi<|aa [(2,135),(3,139),(4,147),(6,195)] rfl (by kernel_rfl)<|bc rfl rfl (dw rfl (htl)) rfl (ho μ27) rfl rfl<|ah (ho μ37) rfl rfl<|ah (ho μ42) rfl rfl<|bW rfl rfl (dU rfl) rfl (ho μ46) rfl rfl ae
  have μ48:M 8 3 0 [1,2,14,15] 0:=hi<|aa [(2,7),(3,11),(4,19),(6,67),(7,131)] rfl (by kernel_rfl)<|bc rfl rfl (dw rfl (htl)) rfl (ho μ28) rfl rfl<|ah (ho μ38) rfl rfl<|ah (ho μ43) rfl rfl<|bW rfl rfl (dU rfl) rfl (ho μ45) rfl rfl<|bW rfl rfl (dU rfl) rfl (ho μ47) rfl rfl ae
  have μ49:M 5 217 3 [1,2,5,6,14,17,18] 3:=hi<|aa [(1,219)] rfl (by kernel_rfl)<|ah (ho μ29) rfl rfl ae
  have μ50:M 6 89 1 [1,2,5,14,17,18] 4:=hi<|aa [(1,91),(7,217)] rfl (by kernel_rfl)<|ah (ho μ30) rfl rfl<|bW rfl rfl (dU rfl) rfl (ho μ49) rfl rfl ae
  have μ51:M 5 217 4 [1,2,5,6,14,17,18] 3:=hi<|aa [(1,219)] rfl (by kernel_rfl)<|ah (ho μ31) rfl rfl ae
  have μ52:M 6 153 2 [1,2,6,14,17,18] 4:=hi<|aa [(1,155),(6,217)] rfl (by kernel_rfl)<|ah (ho μ32) rfl rfl<|bW rfl rfl (dU rfl) rfl (ho μ51) rfl rfl ae
  have μ53:M 7 25 0 [1,2,14,17,18] 0:=hi<|aa [(1,27),(6,89),(7,153)] rfl (by kernel_rfl)<|ah (ho μ33) rfl rfl<|bW rfl rfl (dU rfl) rfl (ho μ50) rfl rfl<|bW rfl rfl (dU rfl) rfl (ho μ52) rfl rfl ae
  have μ54:M 6 201 3 [1,2,5,6,14,17] 3:=hi<|aa [(1,203),(4,217)] rfl (by kernel_rfl)<|ah (ho μ34) rfl rfl<|ah (ho μ49) rfl rfl ae
  have μ55:M 7 73 1 [1,2,5,14,17] 4:=hi<|aa [(1,75),(4,89),(7,201)] rfl (by kernel_rfl)<|ah (ho μ35) rfl rfl<|ah (ho μ50) rfl rfl<|bW rfl rfl (dU rfl) rfl (ho μ54) rfl rfl ae
  have μ56:M 6 201 4 [1,2,5,6,14,17] 3:=hi<|aa [(1,203),(4,217)] rfl (by kernel_rfl)<|ah (ho μ36) rfl rfl<|ah (ho μ51) rfl rfl ae
  have μ57:M 7 137 2 [1,2,6,14,17] 4:=hi<|aa [(1,139),(4,153),(6,201)] rfl (by kernel_rfl)<|ah (ho μ37) rfl rfl<|ah (ho μ52) rfl rfl<|bW rfl rfl (dU rfl) rfl (ho μ56) rfl rfl ae
  have μ58:M 8 9 0 [1,2,14,17] 0:=hi<|aa [(1,11),(4,25),(6,73),(7,137)] rfl (by kernel_rfl)<|ah (ho μ38) rfl rfl<|ah (ho μ53) rfl rfl<|bW rfl rfl (dU rfl) rfl (ho μ55) rfl rfl<|bW rfl rfl (dU rfl) rfl (ho μ57) rfl rfl ae
  have μ59:M 6 209 3 [1,2,5,6,14,18] 3:=hi<|aa [(1,211),(3,217)] rfl (by kernel_rfl)<|ah (ho μ39) rfl rfl<|ah (ho μ49) rfl rfl ae
  have μ60:M 7 81 1 [1,2,5,14,18] 4:=hi<|aa [(1,83),(3,89),(7,209)] rfl (by kernel_rfl)<|ah (ho μ40) rfl rfl<|ah (ho μ50) rfl rfl<|bW rfl rfl (dU rfl) rfl (ho μ59) rfl rfl ae
  have μ61:M 6 209 4 [1,2,5,6,14,18] 3:=hi<|aa [(1,211),(3,217)] rfl (by kernel_rfl)<|ah (ho μ41) rfl rfl<|ah (ho μ51) rfl rfl ae
  have μ62:M 7 145 2 [1,2,6,14,18] 4:=hi<|aa [(1,147),(3,153),(6,209)] rfl (by kernel_rfl)<|ah (ho μ42) rfl rfl<|ah (ho μ52) rfl rfl<|bW rfl rfl (dU rfl) rfl (ho μ61) rfl rfl ae
  have μ63:M 8 17 0 [1,2,14,18] 0:=hi<|aa [(1,19),(3,25),(6,81),(7,145)] rfl (by kernel_rfl)<|ah (ho μ43) rfl rfl<|ah (ho μ53) rfl rfl<|bW rfl rfl (dU rfl) rfl (ho μ60) rfl rfl<|bW rfl rfl (dU rfl) rfl (ho μ62) rfl rfl ae
  have μ64:M 7 193 3 [1,2,5,6,14] 3:=hi<|aa [(1,195),(3,201),(4,209)] rfl (by kernel_rfl)<|ah (ho μ44) rfl rfl<|ah (ho μ54) rfl rfl<|ah (ho μ59) rfl rfl ae
  have μ65:M 8 65 1 [1,2,5,14] 4:=hi<|aa [(1,67),(3,73),(4,81),(7,193)] rfl (by kernel_rfl)<|ah (ho μ45) rfl rfl<|ah (ho μ55) rfl rfl<|ah (ho μ60) rfl rfl<|bW rfl rfl (dU rfl) rfl (ho μ64) rfl rfl ae
  have μ66:M 7 193 4 [1,2,5,6,14] 3:=hi<|aa [(1,195),(3,201),(4,209)] rfl (by kernel_rfl)<|ah (ho μ46) rfl rfl<|ah (ho μ56) rfl rfl<|ah (ho μ61) rfl rfl ae
  have μ67:M 8 129 2 [1,2,6,14] 4:=hi<|aa [(1,131),(3,137),(4,145),(6,193)] rfl (by kernel_rfl)<|ah (ho μ47) rfl rfl<|ah (ho μ57) rfl rfl<|ah (ho μ62) rfl rfl<|bW rfl rfl (dU rfl) rfl (ho μ66) rfl rfl ae
  have μ68:M 9 1 0 [1,2,14] 0:=hi<|aa [(1,3),(3,9),(4,17),(6,65),(7,129)] rfl (by kernel_rfl)<|ah (ho μ48) rfl rfl<|ah (ho μ58) rfl rfl<|ah (ho μ63) rfl rfl<|bW rfl rfl (dU rfl) rfl (ho μ65) rfl rfl<|bW rfl rfl (dU rfl) rfl (ho μ67) rfl rfl ae
  have μ69:M 5 218 3 [1,2,5,6,15,17,18] 3:=hi<|aa [(0,219)] rfl (by kernel_rfl)<|ah (ho μ29) rfl rfl ae
  have μ70:M 6 90 1 [1,2,5,15,17,18] 4:=hi<|aa [(0,91),(7,218)] rfl (by kernel_rfl)<|ah (ho μ30) rfl rfl<|bW rfl rfl (dU rfl) rfl (ho μ69) rfl rfl ae
  have μ71:M 5 218 4 [1,2,5,6,15,17,18] 3:=hi<|aa [(0,219)] rfl (by kernel_rfl)<|ah (ho μ31) rfl rfl ae
  have μ72:M 6 154 2 [1,2,6,15,17,18] 4:=hi<|aa [(0,155),(6,218)] rfl (by kernel_rfl)<|ah (ho μ32) rfl rfl<|bW rfl rfl (dU rfl) rfl (ho μ71) rfl rfl ae
  have μ73:M 7 26 0 [1,2,15,17,18] 0:=hi<|aa [(0,27),(6,90),(7,154)] rfl (by kernel_rfl)<|ah (ho μ33) rfl rfl<|bW rfl rfl (dU rfl) rfl (ho μ70) rfl rfl<|bW rfl rfl (dU rfl) rfl (ho μ72) rfl rfl ae
  have μ74:M 6 202 3 [1,2,5,6,15,17] 3:=hi<|aa [(0,203),(4,218)] rfl (by kernel_rfl)<|ah (ho μ34) rfl rfl<|ah (ho μ69) rfl rfl ae
  have μ75:M 7 74 1 [1,2,5,15,17] 4:=hi<|aa [(0,75),(4,90),(7,202)] rfl (by kernel_rfl)<|ah (ho μ35) rfl rfl<|ah (ho μ70) rfl rfl<|bW rfl rfl (dU rfl) rfl (ho μ74) rfl rfl ae
  have μ76:M 6 202 4 [1,2,5,6,15,17] 3:=hi<|aa [(0,203),(4,218)] rfl (by kernel_rfl)<|ah (ho μ36) rfl rfl<|ah (ho μ71) rfl rfl ae
  have μ77:M 7 138 2 [1,2,6,15,17] 4:=hi<|aa [(0,139),(4,154),(6,202)] rfl (by kernel_rfl)<|ah (ho μ37) rfl rfl<|ah (ho μ72) rfl rfl<|bW rfl rfl (dU rfl) rfl (ho μ76) rfl rfl ae
  have μ78:M 8 10 0 [1,2,15,17] 0:=hi<|aa [(0,11),(4,26),(6,74),(7,138)] rfl (by kernel_rfl)<|ah (ho μ38) rfl rfl<|ah (ho μ73) rfl rfl<|bW rfl rfl (dU rfl) rfl (ho μ75) rfl rfl<|bW rfl rfl (dU rfl) rfl (ho μ77) rfl rfl ae
  have μ79:M 6 210 3 [1,2,5,6,15,18] 3:=hi<|aa [(0,211),(3,218)] rfl (by kernel_rfl)<|ah (ho μ39) rfl rfl<|ah (ho μ69) rfl rfl ae
  have μ80:M 7 82 1 [1,2,5,15,18] 4:=hi<|aa [(0,83),(3,90),(7,210)] rfl (by kernel_rfl)<|ah (ho μ40) rfl rfl<|ah (ho μ70) rfl rfl<|bW rfl rfl (dU rfl) rfl (ho μ79) rfl rfl ae
  have μ81:M 6 210 4 [1,2,5,6,15,18] 3:=hi<|aa [(0,211),(3,218)] rfl (by kernel_rfl)<|ah (ho μ41) rfl rfl<|ah (ho μ71) rfl rfl ae
  have μ82:M 7 146 2 [1,2,6,15,18] 4:=hi<|aa [(0,147),(3,154),(6,210)] rfl (by kernel_rfl)<|ah (ho μ42) rfl rfl<|ah (ho μ72) rfl rfl<|bW rfl rfl (dU rfl) rfl (ho μ81) rfl rfl ae
  have μ83:M 8 18 0 [1,2,15,18] 0:=hi<|aa [(0,19),(3,26),(6,82),(7,146)] rfl (by kernel_rfl)<|ah (ho μ43) rfl rfl<|ah (ho μ73) rfl rfl<|bW rfl rfl (dU rfl) rfl (ho μ80) rfl rfl<|bW rfl rfl (dU rfl) rfl (ho μ82) rfl rfl ae
  have μ84:M 7 194 3 [1,2,5,6,15] 3:=hi<|aa [(0,195),(3,202),(4,210)] rfl (by kernel_rfl)<|ah (ho μ44) rfl rfl<|ah (ho μ74) rfl rfl<|ah (ho μ79) rfl rfl ae
  have μ85:M 8 66 1 [1,2,5,15] 4:=hi<|aa [(0,67),(3,74),(4,82),(7,194)] rfl (by kernel_rfl)<|ah (ho μ45) rfl rfl<|ah (ho μ75) rfl rfl<|ah (ho μ80) rfl rfl<|bW rfl rfl (dU rfl) rfl (ho μ84) rfl rfl ae
  have μ86:M 7 194 4 [1,2,5,6,15] 3:=hi<|aa [(0,195),(3,202),(4,210)] rfl (by kernel_rfl)<|ah (ho μ46) rfl rfl<|ah (ho μ76) rfl rfl<|ah (ho μ81) rfl rfl ae
  have μ87:M 8 130 2 [1,2,6,15] 4:=hi<|aa [(0,131),(3,138),(4,146),(6,194)] rfl (by kernel_rfl)<|ah (ho μ47) rfl rfl<|ah (ho μ77) rfl rfl<|ah (ho μ82) rfl rfl<|bW rfl rfl (dU rfl) rfl (ho μ86) rfl rfl ae
  have μ88:M 9 2 0 [1,2,15] 0:=hi<|aa [(0,3),(3,10),(4,18),(6,66),(7,130)] rfl (by kernel_rfl)<|ah (ho μ48) rfl rfl<|ah (ho μ78) rfl rfl<|ah (ho μ83) rfl rfl<|bW rfl rfl (dU rfl) rfl (ho μ85) rfl rfl<|bW rfl rfl (dU rfl) rfl (ho μ87) rfl rfl ae
  have μ89:M 6 216 3 [1,2,5,6,17,18] 3:=hi<|aa [(0,217),(1,218)] rfl (by kernel_rfl)<|ah (ho μ49) rfl rfl<|ah (ho μ69) rfl rfl ae
  have μ90:M 7 88 1 [1,2,5,17,18] 4:=hi<|aa [(0,89),(1,90),(7,216)] rfl (by kernel_rfl)<|ah (ho μ50) rfl rfl<|ah (ho μ70) rfl rfl<|bW rfl rfl (dU rfl) rfl (ho μ89) rfl rfl ae
  have μ91:M 6 216 4 [1,2,5,6,17,18] 3:=hi<|aa [(0,217),(1,218)] rfl (by kernel_rfl)<|ah (ho μ51) rfl rfl<|ah (ho μ71) rfl rfl ae
  have μ92:M 7 152 2 [1,2,6,17,18] 4:=hi<|aa [(0,153),(1,154),(6,216)] rfl (by kernel_rfl)<|ah (ho μ52) rfl rfl<|ah (ho μ72) rfl rfl<|bW rfl rfl (dU rfl) rfl (ho μ91) rfl rfl ae
  have μ93:M 8 24 0 [1,2,17,18] 0:=hi<|aa [(0,25),(1,26),(6,88),(7,152)] rfl (by kernel_rfl)<|ah (ho μ53) rfl rfl<|ah (ho μ73) rfl rfl<|bW rfl rfl (dU rfl) rfl (ho μ90) rfl rfl<|bW rfl rfl (dU rfl) rfl (ho μ92) rfl rfl ae
  have μ94:M 7 200 3 [1,2,5,6,17] 3:=hi<|aa [(0,201),(1,202),(4,216)] rfl (by kernel_rfl)<|ah (ho μ54) rfl rfl<|ah (ho μ74) rfl rfl<|ah (ho μ89) rfl rfl ae
  have μ95:M 8 72 1 [1,2,5,17] 4:=hi<|aa [(0,73),(1,74),(4,88),(7,200)] rfl (by kernel_rfl)<|ah (ho μ55) rfl rfl<|ah (ho μ75) rfl rfl<|ah (ho μ90) rfl rfl<|bW rfl rfl (dU rfl) rfl (ho μ94) rfl rfl ae
  have μ96:M 7 200 4 [1,2,5,6,17] 3:=hi<|aa [(0,201),(1,202),(4,216)] rfl (by kernel_rfl)<|ah (ho μ56) rfl rfl<|ah (ho μ76) rfl rfl<|ah (ho μ91) rfl rfl ae
  have μ97:M 8 136 2 [1,2,6,17] 4:=hi<|aa [(0,137),(1,138),(4,152),(6,200)] rfl (by kernel_rfl)<|ah (ho μ57) rfl rfl<|ah (ho μ77) rfl rfl<|ah (ho μ92) rfl rfl<|bW rfl rfl (dU rfl) rfl (ho μ96) rfl rfl ae
  have μ98:M 9 8 0 [1,2,17] 0:=hi<|aa [(0,9),(1,10),(4,24),(6,72),(7,136)] rfl (by kernel_rfl)<|ah (ho μ58) rfl rfl<|ah (ho μ78) rfl rfl<|ah (ho μ93) rfl rfl<|bW rfl rfl (dU rfl) rfl (ho μ95) rfl rfl<|bW rfl rfl (dU rfl) rfl (ho μ97) rfl rfl ae
  have μ99:M 7 208 3 [1,2,5,6,18] 3:=hi<|aa [(0,209),(1,210),(3,216)] rfl (by kernel_rfl)<|ah (ho μ59) rfl rfl<|ah (ho μ79) rfl rfl<|ah (ho μ89) rfl rfl ae
  have μ100:M 8 80 1 [1,2,5,18] 4:=hi<|aa [(0,81),(1,82),(3,88),(7,208)] rfl (by kernel_rfl)<|ah (ho μ60) rfl rfl<|ah (ho μ80) rfl rfl<|ah (ho μ90) rfl rfl<|bW rfl rfl (dU rfl) rfl (ho μ99) rfl rfl ae
  have μ101:M 7 208 4 [1,2,5,6,18] 3:=hi<|aa [(0,209),(1,210),(3,216)] rfl (by kernel_rfl)<|ah (ho μ61) rfl rfl<|ah (ho μ81) rfl rfl<|ah (ho μ91) rfl rfl ae
  have μ102:M 8 144 2 [1,2,6,18] 4:=hi<|aa [(0,145),(1,146),(3,152),(6,208)] rfl (by kernel_rfl)<|ah (ho μ62) rfl rfl<|ah (ho μ82) rfl rfl<|ah (ho μ92) rfl rfl<|bW rfl rfl (dU rfl) rfl (ho μ101) rfl rfl ae
  have μ103:M 9 16 0 [1,2,18] 0:=hi<|aa [(0,17),(1,18),(3,24),(6,80),(7,144)] rfl (by kernel_rfl)<|ah (ho μ63) rfl rfl<|ah (ho μ83) rfl rfl<|ah (ho μ93) rfl rfl<|bW rfl rfl (dU rfl) rfl (ho μ100) rfl rfl<|bW rfl rfl (dU rfl) rfl (ho μ102) rfl rfl ae
  have μ104:M 8 192 3 [1,2,5,6] 3:=hi<|aa [(0,193),(1,194),(3,200),(4,208)] rfl (by kernel_rfl)<|ah (ho μ64) rfl rfl<|ah (ho μ84) rfl rfl<|ah (ho μ94) rfl rfl<|ah (ho μ99) rfl rfl ae
  have μ105:M 9 64 1 [1,2,5] 4:=hi<|aa [(0,65),(1,66),(3,72),(4,80),(7,192)] rfl (by kernel_rfl)<|ah (ho μ65) rfl rfl<|ah (ho μ85) rfl rfl<|ah (ho μ95) rfl rfl<|ah (ho μ100) rfl rfl<|bW rfl rfl (dU rfl) rfl (ho μ104) rfl rfl ae
  have μ106:M 8 192 4 [1,2,5,6] 3:=hi<|aa [(0,193),(1,194),(3,200),(4,208)] rfl (by kernel_rfl)<|ah (ho μ66) rfl rfl<|ah (ho μ86) rfl rfl<|ah (ho μ96) rfl rfl<|ah (ho μ101) rfl rfl ae
  have μ107:M 9 128 2 [1,2,6] 4:=hi<|aa [(0,129),(1,130),(3,136),(4,144),(6,192)] rfl (by kernel_rfl)<|ah (ho μ67) rfl rfl<|ah (ho μ87) rfl rfl<|ah (ho μ97) rfl rfl<|ah (ho μ102) rfl rfl<|bW rfl rfl (dU rfl) rfl (ho μ106) rfl rfl ae
  have μ108:M 10 0 0 [1,2] 0:=hi<|aa [(0,1),(1,2),(3,8),(4,16),(6,64),(7,128)] rfl (by kernel_rfl)<|ah (ho μ68) rfl rfl<|ah (ho μ88) rfl rfl<|ah (ho μ98) rfl rfl<|ah (ho μ103) rfl rfl<|bW rfl rfl (dU rfl) rfl (ho μ105) rfl rfl<|bW rfl rfl (dU rfl) rfl (ho μ107) rfl rfl ae
  exact μ108
 refine aH<|aq 3 rfl<|bA (iD rfl rfl rfl (by decide) ((show(a:Int).tdiv 2=((a / 2:Nat):Int) by rw[Int.tdiv_eq_ediv_of_nonneg (by omega)];omega)) (by unfold In64;omega)) rfl<|bA (aI ((a / 2*7)) rfl) rfl<|aq 1 rfl<|bA (aK rfl ((eu T.ag (a / 2) 6 hi (by omega)).trans (show(jz (cA T.ag (a / 2)))[6]? =some (num g) by rw[←hgl];rfl))) rfl<|aq 3 rfl<|aD [1,2,5,6,7] rfl ?_
 refine aH<|aq 4 rfl<|aD [1,2,5,6,7,8] rfl ?_
 refine aH<|aq 1 rfl<|bA (iD rfl rfl rfl (by decide) ((show(a:Int).tdiv 2=((a / 2:Nat):Int) by rw[Int.tdiv_eq_ediv_of_nonneg (by omega)];omega)) (by unfold In64;omega)) rfl<|aq 3 rfl<|aD [2,5,6,7,8,9] rfl ?_
 refine fT (xs:=[num n]) 5 0 0 rfl rfl ?_
 refine fT (xs:=[num h]) 6 1 0 rfl rfl ?_
 refine fT (xs:=cw 3 g) 7 2 0 rfl rfl ?_
 refine fT (xs:=cw 2 h) 8 3 0 rfl rfl ?_
 refine fT (xs:=cw 1 ((a / 2:Nat):Int)) 9 4 0 rfl rfl ?_
 refine dy [] (.c 2<|.c 5<|.c 6<|.c 7<|.c 8<|.c 9<|.nil) .nil rfl rfl ?_
 refine ab (.v (dO rfl rfl) rfl<|.a 1 rfl<|.k [6,7,8,9,10] rfl)<|aH<|aq 1 rfl<|aD [6,7,8,9,10,11] rfl ?_
 refine aj<|bx 36 (.raw (.bool (c1))) [6,7,8,9,10,11] rfl ?_ ?_
 ·exact .a 2 rfl<|.v (b7 rfl (hc1)) rfl<|.k [36,6,7,8,9,10,11] rfl
 refine af rfl (fun h2=>?_) (fun h2=>?_)
 ·have hg0:0<g:=tt (by rw[hc1,h2])
  rw[if_pos hg0]
  refine bq<|aq 2 rfl<|dJ rfl (h1 3 g) rfl<|aq 1 rfl<|aD [6,7,8,9,10,11] rfl ?_
  refine aH<|aq 2 rfl<|dJ rfl (h1 2 h) rfl<|aq 2 rfl<|aD [6,7,8,9,11,12] rfl ?_
  refine aH<|bA (dO rfl rfl) rfl<|bA (dO rfl rfl) rfl<|cf (iJ (xs:=[_,_]) rfl (bF.sl.get rfl) ⟨Nat.le_of_ble_eq_true rfl,Nat.le_of_ble_eq_true rfl⟩ rfl rfl) rfl<|aq 2 rfl<|aD [9,13] rfl ?_
  refine ab (.v (dO rfl rfl) rfl<|.a 1 rfl<|.k [4] rfl)<|ao ?_
  unfold jZ F2 F3
  first
   |exact⟨_,_,aA.of rfl,ax.iG (ai.cons (ax.jy rfl (ai.cons (ax.dX rfl (ai.cons (ax.iG (ai.cons ax.pure<|ai.cons (ax.jy rfl (ai.cons (ax.pure (p:=aw _)) ai.nil)) ai.nil))<|ai.cons (ax.iG (ai.cons ax.pure<|ai.cons ax.pure<|ai.cons (ax.jy rfl (ai.cons (ax.pure (p:=aw _)) ai.nil)) ai.nil)) ai.nil)) ai.nil))<|ai.cons ax.pure ai.nil),rfl⟩
   |exact⟨_,_,aA.of rfl,ax.iG (ai.cons (ax.jy rfl (ai.cons (ax.dX rfl (ai.cons (ax.iG (ai.cons ax.pure<|ai.cons (ax.jy rfl (ai.cons ax.bO ai.nil)) ai.nil))<|ai.cons (ax.iG (ai.cons ax.pure<|ai.cons ax.pure<|ai.cons (ax.jy rfl (ai.cons (ax.pure (p:=aw _)) ai.nil)) ai.nil)) ai.nil)) ai.nil))<|ai.cons ax.pure ai.nil),rfl⟩
 ·have hg0:¬0<g:=ff (by rw[hc1,h2])
  rw[if_neg hg0]
  refine ak<|aH<|aq 2 rfl<|dJ rfl (h1 2 h) rfl<|aq 2 rfl<|aD [6,7,8,9,11,12] rfl ?_
  refine aH<|bA (dO rfl rfl) rfl<|bA (dO rfl rfl) rfl<|cf (iJ (xs:=[_,_]) rfl (bF.sl.get rfl) ⟨Nat.le_of_ble_eq_true rfl,Nat.le_of_ble_eq_true rfl⟩ rfl rfl) rfl<|aq 2 rfl<|aD [9,13] rfl ?_
  refine ab (.v (dO rfl rfl) rfl<|.a 1 rfl<|.k [4] rfl)<|ao ?_
  unfold jZ F2 F3
  first
   |exact⟨_,_,aA.of rfl,ax.iG (ai.cons (ax.jy rfl (ai.cons (ax.dX rfl (ai.cons (ax.iG (ai.cons ax.pure<|ai.cons (ax.jy rfl (ai.cons (ax.pure (p:=aw _)) ai.nil)) ai.nil))<|ai.cons (ax.iG (ai.cons ax.pure<|ai.cons ax.pure<|ai.cons (ax.jy rfl (ai.cons (ax.pure (p:=aw _)) ai.nil)) ai.nil)) ai.nil)) ai.nil))<|ai.cons ax.pure ai.nil),rfl⟩
   |exact⟨_,_,aA.of rfl,ax.iG (ai.cons (ax.jy rfl (ai.cons (ax.dX rfl (ai.cons (ax.iG (ai.cons ax.pure<|ai.cons (ax.jy rfl (ai.cons ax.bO ai.nil)) ai.nil))<|ai.cons (ax.iG (ai.cons ax.pure<|ai.cons ax.pure<|ai.cons (ax.jy rfl (ai.cons (ax.pure (p:=aw _)) ai.nil)) ai.nil)) ai.nil)) ai.nil))<|ai.cons ax.pure ai.nil),rfl⟩
end PW
end Go.Proofs.YtnegbdpggideiaaGreatDoor
namespace Go.Proofs.YtnegbdpggideiaaGreatDoor
namespace PW
open Go.RowKit cH Mem Net ft
theorem rT{α:Type}(f:α→List PV)(s:Nat)(hf:∀a,(f a).length=s)(z:α):∀(l:List α) (d:Nat),d<l.length→over (l.flatMap f) (d*s) (f z)=(l.set d z).flatMap f
 | [],d,h=>by simp at h
 |a::l,0,_=>by
  unfold over
  rw[List.flatMap_cons,Nat.zero_mul,List.take_zero,hf,List.set_cons_zero,List.flatMap_cons,List.nil_append,Nat.zero_add]
  congr 1
  rw[←hf a,List.drop_left]
 |a::l,d+1,h=>by
  have ih:=rT f s hf z l d (by simpa using h)
  unfold over at*
  have e:(d+1)*s=(f a).length+d*s:=by rw[hf,Nat.succ_mul];omega
  rw[List.flatMap_cons,List.set_cons_succ,List.flatMap_cons,←ih,e,List.take_length_add_append,Nat.add_assoc,List.drop_length_add_append,List.append_assoc]
theorem A5(l:List ij)(d:Nat)(z:ij)(h:d<l.length):over (cV l) (d*3) (ki z)=cV (l.set d z):=rT ki 3 (fun _=>rfl) z l d h
noncomputable def lB(T:an)(D:List Bool)(n N j:Nat):List ij:=(List.range N).map fun d=>if d<j then jK T D n (d:Int) else⟨bm T D n d,false,[]⟩
theorem Cf(T:an)(D:List Bool)(n N j:Nat):(lB T D n N j).length=N:=by simp[lB]
theorem zT(T:an)(D:List Bool)(n N:Nat):lB T D n N 0=mU T D n N:=by unfold lB mU;simp
theorem CB(T:an)(D:List Bool)(n N:Nat):lB T D n N N=np T D n N:=by
 unfold lB np
 refine List.map_congr_left fun d hd=>?_
 rw[if_pos (List.mem_range.1 hd)]
theorem wE{T:an}{D:List Bool}{n N j i:Nat}(h:i<(lB T D n N j).length):(lB T D n N j)[i]=if i<j then jK T D n (i:Int) else⟨bm T D n i,false,[]⟩:=by simp[lB]
theorem BA(T:an)(D:List Bool)(n N j:Nat):(lB T D n N j).set j (jK T D n (j:Int))=lB T D n N (j+1):=by
 apply List.ext_getElem (by simp[lB])
 intro i h1 h2
 rw[List.getElem_set,wE,wE]
 by_cases e:j=i
 ·subst e;rw[if_pos rfl,if_pos (by omega)]
 ·rw[if_neg e]
  by_cases h:i<j
  ·rw[if_pos h,if_pos (by omega)]
  ·rw[if_neg h,if_neg (by omega)]
def pr(T:an)(D:List Bool)(n:Nat)(l:List ij):cg:=[some (.cells 56 [num 0,.raw (.slice none 0 0),.raw (.slice none 0 0)]),some (.row 76 3 T.nodes.toNat (cV l)),some (.row 3 1 (cj D (bC T n)).length (aN (cj D (bC T n)))),some (.cells 56 [num n,.own 1,.own 2])]
theorem CY(T:an)(D:List Bool)(n:Nat)(hv:av T=true)(hf:bL T D=true)(hn:(n:Int)<T.nodes)(h12:T.nodes≤12):bV Tryz.prog 123 ([aM D,.agg [num n,.own 1,.own 2]]++[.aX (bn T) 0,.aX [num n] 0]) (pr T D n (mU T D n T.nodes.toNat)) (fun _ σ'=>σ'=pr T D n (np T D n T.nodes.toNat)++[some (.cells 56 [num n,.own 1,.own 2])]):=by
 have hll:=bJ hv
 have hnb:aV T (n:Int)=true:=aO.2 ⟨by omega,hn⟩
 obtain⟨N,hN⟩:∃N:Nat,T.nodes.toNat=N:=⟨_,rfl⟩
 have hNN:T.nodes=(N:Int):=by have:=(aQ hv).nodes;omega
 unfold pr
 rw[hN,←zT]
 obtain⟨dl,hdl⟩:∃dl,cj D (bC T n)=dl:=⟨_,rfl⟩
 rw[hdl]
 refine ct Tryz.func123 rfl Tryz.ntmps123 rfl<|aH<|cf (fB rfl rfl rfl) rfl<|aD [0,2,3,5] rfl ?_
 refine ab (.a 4 rfl<|.k [0,2,3,5,9,10] rfl)<|au<|ee [0,2,3,5,9,10] rfl<|bf (fun r s=>∃j,j≤N∧r=N - j∧s=⟨[(0,aM D),(2,.aX (bn T) 0),(3,.aX [num n] 0),(5,.ptr 4 0),(9,num N),(10,num j)],[some (.cells 56 [num 0,.raw (.slice none 0 0),.raw (.slice none 0 0)]),some (.row 76 3 N (cV (lB T D n N j))),some (.row 3 1 dl.length (aN dl)),some (.cells 56 [num n,.own 1,.own 2]),some (.cells 56 [num n,.own 1,.own 2])]⟩) N ⟨0,by omega,by omega,rfl⟩ ?_
 rintro r s ⟨j,hj,rfl,rfl⟩
 refine ab (.a 1 rfl<|.k [0,2,3,5,9,10,11] rfl)<|aj<|af rfl (fun h1=>?_) (fun h1=>?_)
 ·have hlt:j<N:=by have:=tt h1;omega
  have hre:=vH T D n j hll h12
  rw[jV hv hf hnb (aO.2 ⟨by omega,by omega⟩)]at hre
  have hml:=Cf T D n N j
  have hel:(cV (lB T D n N j)).length=N*3:=by have:=DB ki 3 (fun _=>rfl) (lB T D n N j);rw[hml]at this;exact this
  refine ak<|aj<|au<|ab (.a 2 rfl<|.k [0,2,3,5,6,9,10] rfl)<|cS 12 20 mixed (
   .val [5] rfl (bI rfl) rfl rfl<|
   .val [14] rfl (bI rfl) rfl rfl<|
   .val [6] rfl (bI rfl) rfl rfl<|
   .val [2] rfl (bI rfl) rfl rfl<|
   .val [0] rfl (bI rfl) rfl rfl<|
   .val [3] rfl (bI rfl) rfl rfl<|
   .val [6] rfl (bI rfl) rfl rfl<|
   .val [17,18,19,20] rfl (dw rfl (hre)) rfl rfl<|
   .val [21] rfl (bI rfl) rfl rfl<|
   .val [13] rfl (bI rfl) rfl rfl<|
   .late [13] rfl (sL rfl rfl rfl) inferInstance rfl rfl<|
   .val [15,16] rfl (aI ((j*3)) rfl) rfl rfl<|
   .nil) (by kernel_rfl) rfl rfl (bd (ks:=[0,2,3,5,9,10,22,24]) rfl) ?_
  refine bh (uH rfl (bF.tk.get rfl) rfl rfl rfl rfl rfl (show j*3+3≤(cV (lB T D n N j)).length by omega)) rfl rfl<|aD [0,2,3,5,9,10] rfl ?_
  refine ei (σ':=[some (.cells 56 [num 0,.raw (.slice none 0 0),.raw (.slice none 0 0)]),some (.row 76 3 N (cV (lB T D n N (j+1)))),some (.row 3 1 dl.length (aN dl)),some (.cells 56 [num n,.own 1,.own 2]),some (.cells 56 [num n,.own 1,.own 2])]) (by rw[←BA,←A5 _ _ _ (by omega)];rfl) ?_
  refine aB (.v (aP rfl) rfl<|.a 1 rfl<|.k [0,2,3,5,9,10] rfl) ?_
  exact⟨N - (j+1),by omega,j+1,by omega,rfl,rfl⟩
 ·have hje:j=N:=by have:=ff h1;omega
  subst hje
  refine aY<|⟨_,aA.of rfl,?_⟩
  rw[CB]
  rfl
theorem vJ(T:an)(D:List Bool)(n:Nat)(c:Option db)(hch:ca T D [(n:Int)]=0):bV Tryz.prog 53 [aJ T,aM D,num n] [c] (fun r σ'=>r= .tuple [.agg [num n,.own 3,.own 4],num 0]∧σ'=[c,some (.cells 56 [num n,.own 3,.own 4]),some (.cells 56 [num n,.own 3,.own 4]),some (.row 76 3 T.nodes.toNat (cV (mU T D n T.nodes.toNat))),some (.row 3 1 (cj D (bC T n)).length (aN (cj D (bC T n))))]):=by
 refine bV.frame (bV.mono (u7 T D n hch) ?_)
 rintro r σ' ⟨rfl,rfl⟩
 refine⟨[.cells 56 [num n,.own 2,.own 3],.cells 56 [num n,.own 2,.own 3],.row 76 3 T.nodes.toNat (cV (mU T D n T.nodes.toNat)),.row 3 1 (cj D (bC T n)).length (aN (cj D (bC T n)))],rfl,.tuple [.agg [num n,.own 3,.own 4],num 0],[.cells 56 [num n,.own 3,.own 4],.cells 56 [num n,.own 3,.own 4],.row 76 3 T.nodes.toNat (cV (mU T D n T.nodes.toNat)),.row 3 1 (cj D (bC T n)).length (aN (cj D (bC T n)))],?_,?_,rfl,rfl⟩
 ·exact Up.ba (ke.cons (Up.ew (ke.cons Up.pure<|ke.cons (Up.own rfl)<|ke.cons (Up.own rfl) ke.nil)) (ke.cons Up.pure ke.nil))
 ·exact lx.cons (.cells (ke.cons Up.pure<|ke.cons (Up.own rfl)<|ke.cons (Up.own rfl) ke.nil))<|lx.cons (.cells (ke.cons Up.pure<|ke.cons (Up.own rfl)<|ke.cons (Up.own rfl) ke.nil))<|lx.cons (.row ke.pure)<|lx.cons (.row ke.pure) lx.nil
instance (e:Int) (x:eD):IsPure (fY e x):=by unfold fY;infer_instance
def gA(T:an)(k x n:Int):Int:=if cQ T k x=0 then(if aV T n then 0 else 2) else 1
theorem l7{T:an}{k x:Int}(h:cQ T k x=0):(av T&&cc T k x)=true:=by
 unfold cQ at h
 split at h
 ·assumption
 ·omega
theorem Cu(T:an)(D:List Bool)(n:Nat):bV Tryz.prog 125 ([aM D,.agg [num n,.own 1,.own 2]]++[]) (pr T D n (mU T D n T.nodes.toNat)) (fun _ σ'=>σ'=pr T D n (mU T D n T.nodes.toNat)++[some (.cells 56 [num n,.own 1,.own 2])]):=by
 unfold pr
 refine ct Tryz.func125 rfl Tryz.ntmps125 rfl<|bq<|cf (fB rfl rfl rfl) rfl<|aD [] rfl ?_
 exact⟨_,aA.of rfl,rfl⟩
theorem qi{T:an}{k x:Int}(h:cQ T k x≠0):cQ T k x=1:=by
 unfold cQ at*
 split
 ·rename_i h';rw[if_pos h']at h;exact absurd rfl h
 ·rfl
theorem qI(T:an)(k x n:Int)(f:FuncId)(cap:List PV)[aL cap](he:gA T k x n≠0):
  Can Tryz.prog 122 [aJ T,bY k x,num n,.func f cap] (· =fY (gA T k x n) ⟨0,[],[]⟩):=by
 have hmk:=kY T k x
 have hmf:=fX T k x
 unfold gI at hmk
 have hrt:=qJ T (bz T k x) n
 refine aF Tryz.func122 rfl Tryz.ntmps122 rfl<|aH<|aq 4 rfl<|aD [2,3,4,5,8] rfl ?_
 refine ab (.a 2 rfl<|.c rfl (hmk) rfl<|.a 5 rfl<|.k [2,3,4,8,10,11] rfl)<|aj<|ab (.a 2 rfl<|.k [2,3,4,8,10,11,20] rfl)<|af rfl (fun h1=>?_) (fun h1=>?_)
 ·have h1:=tt h1
  have he2:gA T k x n=cQ T k x:=by
   unfold gA
   rw[if_neg h1,qi h1]
  rw[he2]
  refine aH<|aq 4 rfl<|aD [8,9] rfl ?_
  exact ao<|⟨_,_,aA.of rfl,ax.ba (ai.cons (ax.ew (ai.cons ax.pure<|ai.cons ax.bO<|ai.cons ax.bO ai.nil)) (ai.cons ax.pure ai.nil)),by unfold fY;rw[if_neg h1];rfl⟩
 ·have h1:cQ T k x=0:=Classical.byContradiction (ff h1)
  obtain⟨hv,hc⟩:=Bool.and_eq_true_iff.1 (l7 h1)
  rw[if_pos h1]
  have hn:aV T n=false:=by
   cases hn:aV T n with
   |false=>rfl
   |true=>exact absurd (show gA T k x n=0 by unfold gA;rw[if_pos h1,hn];rfl) he
  have hch:ca T (bz T k x) [n]=2:=by unfold ca;rw[hv,hmf];simp[hn]
  have hr0:fE T (bz T k x) n=⟨0,[],[]⟩:=by unfold fE;rw[if_neg (by rw[hch];decide)]
  rw[hch,hr0]at hrt
  have he:gA T k x n=2:=by unfold gA;rw[if_pos h1,hn];rfl
  rw[he]
  refine ak<|aH<|aq 3 rfl<|dJ rfl (hrt) rfl<|aq 6 rfl<|aD [3,8,10,11,12] rfl ?_
  refine aj<|ab (.a 2 rfl<|.k [3,8,10,11,12,31] rfl)<|af rfl (fun h2=>?_) (fun h2=>?_)
  ·skip
   refine aH<|aq 4 rfl<|aD [8,9] rfl ?_
   exact ao<|⟨_,_,aA.of rfl,ax.ba (ai.cons (ax.ew (ai.cons ax.pure<|ai.cons ax.bO<|ai.cons ax.bO ai.nil)) (ai.cons ax.pure ai.nil)),rfl⟩
  ·exact absurd h2 (by decide)
theorem su(T:an)(k x:Int)(n:Nat)(f:FuncId)(cap:List PV)[aL cap](L:List ij)(hen:enters Tryz.prog f=true)(hv:(av T&&cc T k x)=true)(hn:(n:Int)<T.nodes)(hl:L.length=T.nodes.toNat)
  (hf:bV Tryz.prog f ([aM (bz T k x),.agg [num n,.own 1,.own 2]]++cap) (pr T (bz T k x) n (mU T (bz T k x) n T.nodes.toNat)) (fun _ σ'=>σ'=pr T (bz T k x) n L++[some (.cells 56 [num n,.own 1,.own 2])])):
  Can Tryz.prog 122 [aJ T,bY k x,num n,.func f cap] (· =fY 0 ⟨n,L,cj (bz T k x) (bC T n)⟩):=by
 have hmk:=kY T k x
 have hmf:=fX T k x
 have hm0:cQ T k x=0:=by unfold cQ;rw[if_pos hv]
 unfold gI at hmk
 rw[hm0,if_pos rfl]at hmk
 obtain⟨M,hM⟩:∃M,bz T k x=M:=⟨_,rfl⟩
 rw[hM]at hmk hmf hf ⊢
 obtain⟨hv,hc⟩:=Bool.and_eq_true_iff.1 hv
 have hch:ca T M [(n:Int)]=0:=by unfold ca;rw[hv,hmf];simp[aO.2 (show 0≤(n:Int)∧(n:Int)<T.nodes by omega)]
 have hrt:=fun c=>vJ T M n c hch
 refine aF Tryz.func122 rfl Tryz.ntmps122 rfl<|aH<|aq 4 rfl<|aD [2,3,4,5,8] rfl ?_
 refine ab (.a 2 rfl<|.c rfl (hmk) rfl<|.a 5 rfl<|.k [2,3,4,8,10,11] rfl)<|aj<|ab (.a 2 rfl<|.k [2,3,4,8,10,11,20] rfl)<|af rfl (fun h1=>?_) (fun h1=>?_)
 ·exact absurd h1 (by decide)
 ·skip
  refine ak<|aH<|aq 3 rfl<|cP rfl rfl (bV.mono (hrt _) (fun r σ' h=>?_))
  obtain⟨rfl,rfl⟩:=h
  refine aq 6 rfl<|aD [3,8,10,11,12] rfl ?_
  refine aj<|ab (.a 2 rfl<|.k [3,8,10,11,12,31] rfl)<|af rfl (fun h2=>?_) (fun h2=>?_)
  ·exact absurd h2 (by decide)
  ·skip
   refine ak<|dy [0,3,4,5] (.c 3<|.c 8<|.c 10<|.c 12<|.nil) (.kept rfl (.cells (aC.c<|aC.c<|aC.c<|aC.nil))<|.kept rfl (.row aC.pure)<|.kept rfl (.row aC.pure)<|.kept rfl (.cells (aC.c<|aC.c<|aC.c<|aC.nil))<|.nil) rfl rfl ?_
   refine aH<|aq 3 rfl<|uT rfl hen rfl rfl rfl rfl rfl (bV.mono hf (fun r σ' h=>?_))
   obtain rfl:=h
   refine aD [8,12] rfl ?_
   refine aH<|aq 3 rfl<|aD [8,9] rfl ?_
   refine ao<|⟨_,_,aA.of rfl,ax.ba (ai.cons (ax.ew (ai.cons ax.pure<|ai.cons (ax.dX rfl ai.pure)<|ai.cons (ax.dX rfl ai.pure) ai.nil)) (ai.cons ax.pure ai.nil)),?_⟩
   unfold fY dx fe iE aw
   rw[if_pos rfl,hl]
theorem rY{T:an}{k x n:Int}(h:gA T k x n=0):(av T&&cc T k x)=true∧aV T n=true:=by
 unfold gA at h
 split at h
 ·rename_i h1
  refine⟨l7 h1,?_⟩
  split at h
  ·assumption
  ·omega
 ·omega
theorem DX(T:an)(k x n:Int)(h12:T.nodes≤12):Can Tryz.prog 70 [aJ T,bY k x,num n] (· =fY (gA T k x n) (tK T (bz T k x) n.toNat)):=by
 have key:Can Tryz.prog 122 [aJ T,bY k x,num n,.func 123 [.aX (bn T) 0,.aX [num n] 0]] (· =fY (gA T k x n) (tK T (bz T k x) n.toNat)):=by
  by_cases he:gA T k x n=0
  ·obtain⟨hm,hn⟩:=rY he
   obtain⟨hv,hc⟩:=Bool.and_eq_true_iff.1 hm
   rw[aO]at hn
   obtain⟨m,rfl⟩:=Int.eq_ofNat_of_zero_le hn.1
   rw[he]
   exact su T k x m _ _ _ (by kernel_rfl) hm hn.2 (nB _ _ _ _) (CY T (bz T k x) m hv (fX T k x) hn.2 h12)
  ·have h:=qI T k x n 123 [.aX (bn T) 0,.aX [num n] 0] he
   unfold fY at h ⊢
   rw[if_neg he]at h ⊢
   exact h
 refine aF Tryz.func70 rfl Tryz.ntmps70 rfl<|aH<|aq 5 rfl<|aD [3,4,5,6] rfl ?_
 refine aH<|aq 4 rfl<|dJ rfl (key) rfl<|aq 4 rfl<|aD [6,7] rfl ?_
 exact ao<|⟨_,_,aA.of rfl,ax.pure (p:=fY (gA T k x n) (tK T (bz T k x) n.toNat)),rfl⟩
theorem DY(T:an)(k x n:Int):Can Tryz.prog 72 [aJ T,bY k x,num n] (· =fY (gA T k x n) (di T (bz T k x) n.toNat)):=by
 have key:Can Tryz.prog 122 [aJ T,bY k x,num n,.func 125 []] (· =fY (gA T k x n) (di T (bz T k x) n.toNat)):=by
  by_cases he:gA T k x n=0
  ·obtain⟨hm,hn⟩:=rY he
   obtain⟨hv,hc⟩:=Bool.and_eq_true_iff.1 hm
   rw[aO]at hn
   obtain⟨m,rfl⟩:=Int.eq_ofNat_of_zero_le hn.1
   rw[he]
   exact su T k x m _ _ _ (by kernel_rfl) hm hn.2 (pU _ _ _ _) (Cu T (bz T k x) m)
  ·have h:=qI T k x n 125 [] he
   unfold fY at h ⊢
   rw[if_neg he]at h ⊢
   exact h
 refine aF Tryz.func72 rfl Tryz.ntmps72 rfl<|aH<|aq 4 rfl<|aD [2,3,4,6] rfl ?_
 refine aH<|aq 3 rfl<|dJ rfl (key) rfl<|aq 4 rfl<|aD [6,7] rfl ?_
 exact ao<|⟨_,_,aA.of rfl,ax.pure (p:=fY (gA T k x n) (di T (bz T k x) n.toNat)),rfl⟩
theorem lK(T:an)(D:List Bool)(n:Int):PV.tuple [dx (fE T D n),num (ca T D [n])]=fY (ca T D [n]) (di T D n.toNat):=by
 unfold fY fE;rfl
theorem B4(T:an)(n:Int):Can Tryz.prog 67 [aJ T,num n] (· =fY (ca T [] [n]) (di T [] n.toNat)):=by
 refine aF Tryz.func67 rfl Tryz.ntmps67 rfl<|aH<|aq 3 rfl<|aD [1,2,4] rfl ?_
 have hr:=qJ T [] n
 rw[lK]at hr
 refine aH<|aq 2 rfl<|bA (tI rfl (ai.cons ax.pure<|ai.cons ax.bO<|ai.cons ax.pure ai.nil) (hr)) rfl<|aq 4 rfl<|aD [4,5] rfl ?_
 exact ao<|⟨_,_,aA.of rfl,ax.pure (p:=fY (ca T [] [n]) (di T [] n.toNat)),rfl⟩
theorem A7(T:an)(n:Int):Can Tryz.prog 129 [aJ T,num n] (· =fY (ca T [] [n]) (di T [] n.toNat)):=by
 refine aF Tryz.func129 rfl Tryz.ntmps129 rfl<|aH<|aq 3 rfl<|aD [1,2,4] rfl ?_
 have hr:=pg T [] n
 rw[lK]at hr
 refine aH<|aq 2 rfl<|bA (tI rfl (ai.cons ax.pure<|ai.cons ax.bO<|ai.cons ax.pure ai.nil) (hr)) rfl<|aq 4 rfl<|aD [4,5] rfl ?_
 exact ao<|⟨_,_,aA.of rfl,ax.pure (p:=fY (ca T [] [n]) (di T [] n.toNat)),rfl⟩
theorem Cz{T:an}{k x:Int}(h:cQ T k x=0)(n:Int):ca T (bz T k x) [n]=gA T k x n:=by
 obtain⟨hv,hc⟩:=Bool.and_eq_true_iff.1 (l7 h)
 unfold ca gA
 rw[if_pos h,hv,fX]
 simp
theorem By(T:an)(k x n:Int):Can Tryz.prog 131 [aJ T,bY k x,num n] (· =fY (gA T k x n) (di T (bz T k x) n.toNat)):=by
 have hmk:=mb T k x
 unfold gI at hmk
 refine aF Tryz.func131 rfl Tryz.ntmps131 rfl<|aH<|aq 4 rfl<|aD [2,3,4,6] rfl ?_
 refine ab (.a 2 rfl<|.c rfl (hmk) rfl<|.a 5 rfl<|.k [2,3,6,8,9] rfl)<|aj<|ab (.a 2 rfl<|.k [2,3,6,8,9,17] rfl)<|af rfl (fun h1=>?_) (fun h1=>?_)
 ·have h1:=tt h1
  have he2:gA T k x n=cQ T k x:=by
   unfold gA
   rw[if_neg h1,qi h1]
  rw[he2]
  refine aH<|aq 4 rfl<|aD [6,7] rfl ?_
  exact ao<|⟨_,_,aA.of rfl,ax.ba (ai.cons (ax.ew (ai.cons ax.pure<|ai.cons ax.bO<|ai.cons ax.bO ai.nil)) (ai.cons ax.pure ai.nil)),by unfold fY;rw[if_neg h1];rfl⟩
 ·have h1:cQ T k x=0:=Classical.byContradiction (ff h1)
  rw[if_pos h1]
  have hrr:=pg T (bz T k x) n
  rw[lK,Cz h1]at hrr
  refine ak<|aH<|aq 3 rfl<|dJ rfl (hrr) rfl<|aq 4 rfl<|aD [6,7] rfl ?_
  exact ao<|⟨_,_,aA.of rfl,ax.pure (p:=fY (gA T k x n) (di T (bz T k x) n.toNat)),rfl⟩
end PW
end Go.Proofs.YtnegbdpggideiaaGreatDoor
namespace Go.Proofs.YtnegbdpggideiaaGreatDoor
namespace PW
open Go.RowKit cH Mem Net ft
theorem wZ{T:an}{a:Nat}(hv:av T=true)(ha:a<2*T.ag.length){d:Nat}(hd:(d:Int)<T.nodes){n:Nat}(hn:bw T a=(n:Int))(k x:Int)(hm:(av T&&cc T k x)=true):d<(bE T (fU T k x) n true).length∧decide (0≤(bE T (fU T k x) n true).getD d 0)=jj T (bz T k x) (bw T a) d:=by
 have hnN:(n:Int)<T.nodes:=by rw[←hn];exact((aQ hv).tail a ha).2
 have hl:=(cW (D:=fU T k x) hv (dir:=true) hnN).1
 refine⟨by omega,?_⟩
 rw[hn,qa hm,Bool.eq_iff_iff,decide_eq_true_eq,E9 hv (fX T k x) hnN hd,Fg hv hnN hd]
theorem FV(T:an)(a d:Nat)(hv:av T=true)(ha:a<2*T.ag.length)(hd:(d:Int)<T.nodes):Can Tryz.prog 183 ([num d]++jZ (fN T a) (bb T a) ((a / 2:Nat):Int) (G0 T a) (GZ T a)) (· =bY (eZ T a d).1 (eZ T a d).2):=by
 obtain⟨n,hn⟩:=Int.eq_ofNat_of_zero_le ((aQ hv).tail a ha).1
 have hnt:(bw T a).toNat=n:=by omega
 have h2:=wZ hv ha hd hn 2 (bb T a) (uX hv ha)
 have hM:GZ T a=bE T (fU T 2 (bb T a)) n true:=by unfold GZ;rw[hnt]
 have hL:0<fN T a→G0 T a=bE T (fU T 3 (fN T a)) n true:=fun h=>by unfold G0;rw[if_pos h,hnt]
 have h:=Dc (fN T a) (bb T a) ((a / 2:Nat):Int) (G0 T a) (GZ T a) d (jj T (bz T 3 (fN T a)) (bw T a) d) (jj T (bz T 2 (bb T a)) (bw T a) d)
  (fun hg=>by rw[hL hg];exact wZ hv ha hd hn 3 (fN T a) (zm hv ha hg)) (by rw[hM];exact h2.1) (by rw[hM];exact h2.2)
 have e:(if(decide (0<fN T a)&&jj T (bz T 3 (fN T a)) (bw T a) d)=true then bY 3 (fN T a) else if(decide (bb T a≠(d:Int))&&jj T (bz T 2 (bb T a)) (bw T a) d)=true then bY 2 (bb T a) else bY 1 ((a / 2:Nat):Int))=bY (eZ T a d).1 (eZ T a d).2:=by
  unfold eZ
  split
  ·rfl
  ·split<;>rfl
 rw[e]at h
 exact h
def EE(own:List Bool):List Int→Nat→Int
 | [],_=> -1
 |a::l,i=>bif aW own a.toNat then(i:Int) else EE own l (i+1)
theorem DM(own:List Bool):∀(l:List Int) (i:Nat),(EE own l i= -1∧fL own l=none)∨∃j,j<l.length∧EE own l i=((i+j:Nat):Int)∧fL own l=some (l.getD j 0)
 | [],i=>.inl ⟨rfl,rfl⟩
 |a::l,i=>by
  simp only[EE]
  by_cases h:aW own a.toNat=true
  ·refine .inr ⟨0,by simp,by rw[h];rfl,?_⟩
   unfold fL
   rw[List.find?_cons_of_pos (by exact h)]
   rfl
  ·rw[Bool.eq_false_iff.2 h]
   simp only[cond_false]
   have e:fL own (a::l)=fL own l:=by
    unfold fL
    rw[List.find?_cons_of_neg (by exact h)]
   rw[e]
   rcases DM own l (i+1)with h'|⟨j,h1,h2,h3⟩
   ·exact .inl h'
   ·exact .inr ⟨j+1,by simpa using h1,by rw[h2];congr 1;omega,by rw[h3];rfl⟩
theorem CJ(own:List Bool)(k:Nat)(hk:k<own.length):Can Tryz.prog 154 ([num k]++[.aX [aM own] 0]) (· =flag (aW own k)):=by
 exact aF Tryz.func154 rfl Tryz.ntmps154 rfl<|ab (.a 1 rfl<|.k [0,1] rfl)<|ab (.a 2 rfl<|.v (aI (k) rfl) rfl<|.v (aK rfl ((show(bS own)[k]? =some (flag (aW own k)) by rw[cG _ k hk,gN]))) rfl<|.a 1 rfl<|.k [3] rfl)<|ao<|⟨_,_,aA.of rfl,ax.pure,rfl⟩
theorem DP(l:List Int)(own:List Bool)(hl:l.length≤1000)(hm:∀a∈l,∃k:Nat,a=(k:Int)∧k<own.length):Can Tryz.prog 153 [aw l,.func 154 [.aX [aM own] 0]] (· =num (EE own l 0)):=by
 refine aF Tryz.func153 rfl Tryz.ntmps153 rfl<|ab (.a 1 rfl<|.k [0,1] rfl)<|aj<|ab (.a 3 rfl<|.k [0,1,7,8] rfl)<|au<|ee [0,1,7,8] rfl<|bf (fun r s=>∃i,i≤l.length∧r=l.length - i∧EE own l 0=EE own (l.drop i) i∧s=⟨[(0,aw l),(1,.func 154 [.aX [aM own] 0]),(7,num l.length),(8,num i)],[]⟩) l.length ⟨0,by omega,by omega,rfl,rfl⟩ ?_
 rintro r s ⟨i,hi,rfl,hx,rfl⟩
 refine ab (.a 1 rfl<|.k [0,1,7,8,9] rfl)<|aj<|af rfl (fun h1=>?_) (fun h1=>?_)
 ·have hlt:i<l.length:=by have:=tt h1;omega
  obtain⟨k,hk,hkl⟩:=hm _ (bR (d:=0) hlt)
  rw[drop_cons l i hlt,hk]at hx
  simp only[EE,Int.toNat_natCast]at hx
  obtain⟨q,hq⟩:∃q,aW own k=q:=⟨_,rfl⟩
  have he:=CJ own k hkl
  rw[hq]at he hx
  refine ak<|aj<|au<|ab (.a 2 rfl<|.k [0,1,5,7,8] rfl)<|ab (.a 3 rfl<|.v (aI (i) rfl) rfl<|.v (aK rfl ((ay l i hlt).trans (by rw[hk]))) rfl<|.c rfl (he) rfl<|.k [0,1,5,7,8,16] rfl)<|af rfl (fun h2=>?_) (fun h2=>?_)
  ·subst h2
   rw[cond_true]at hx
   rw[hx]
   exact ab (.a 2 rfl<|.k [4] rfl)<|ao<|⟨_,_,aA.of rfl,ax.pure,rfl⟩
  ·subst h2
   rw[cond_false]at hx
   refine ak<|aB (.v (aP rfl) rfl<|.a 1 rfl<|.k [0,1,7,8] rfl) ?_
   exact⟨l.length - (i+1),by omega,i+1,by omega,rfl,hx,rfl⟩
 ·have hie:i=l.length:=by have:=ff h1;omega
  subst hie
  rw[List.drop_length]at hx
  rw[hx]
  exact aY<|ab (.a 1 rfl<|.k [4] rfl)<|ao<|⟨_,_,aA.of rfl,ax.pure,rfl⟩
theorem FL(p:List Int):Can Tryz.prog 185 ([aw p]++[]) (· = .tuple []):=by
 exact aF Tryz.func185 rfl Tryz.ntmps185 rfl<|ak<|⟨_,_,aA.of rfl,ax.pure,rfl⟩
theorem uR(T:an)(D:List Bool)(n d:Int):Can Tryz.prog 184 [aJ T,aM D,num n,num d,.func 185 []] (· =num (fH T D n d)):=by
 refine aF Tryz.func184 rfl Tryz.ntmps184 rfl<|ab (.a 2 rfl<|.k [1,2,3,4,5] rfl)<|ab (.a 4 rfl<|.c rfl (sT T D n d) rfl<|.a 5 rfl<|.k [4,11,12] rfl)<|aj<|ab (.a 2 rfl<|.k [4,11,12,22] rfl)<|af rfl (fun h1=>?_) (fun h1=>?_)
 ·skip
  refine aB (.a 2 rfl<|.c rfl (FL _) rfl<|.k [12] rfl) ?_
  exact ab (.a 2 rfl<|.k [10] rfl)<|ao<|⟨_,_,aA.of rfl,ax.pure,rfl⟩
 ·skip
  exact ak<|ab (.a 2 rfl<|.k [10] rfl)<|ao<|⟨_,_,aA.of rfl,ax.pure,rfl⟩
theorem yO(T:an)(D:List Bool)(n d:Int):Can Tryz.prog 156 [aJ T,aM D,num n,num d] (· =flag (jj T D n d)):=by
 obtain⟨q,hq⟩:∃q,decide (fH T D n d=0)=q:=⟨_,rfl⟩
 unfold jj
 rw[hq]
 exact aF Tryz.func156 rfl Tryz.ntmps156 rfl<|ab (.a 2 rfl<|.k [1,2,3,4] rfl)<|ab (.a 4 rfl<|.c rfl (uR T D n d) rfl<|.v (b7 rfl (hq)) rfl<|.a 1 rfl<|.k [8] rfl)<|ao<|⟨_,_,aA.of rfl,ax.pure,rfl⟩
theorem AT(T:an)(k x:Int)(hm:(av T&&cc T k x)=true)(σ:cg):bV Tryz.prog 16 [aJ T,bY k x] σ (fun r σ'=>r= .tuple [.own σ.length,num 0]∧σ'=σ++[iL (bz T k x)]):=by
 obtain⟨hv,hc⟩:=Bool.and_eq_true_iff.1 hm
 refine bV.frame (bV.mono (sY T k x hv hc) ?_)
 rintro r σ' ⟨rfl,rfl⟩
 refine⟨[.row 4 1 (2*T.ag.length) (bS (bz T k x))],rfl,_,_,Up.ba (ke.cons (Up.own rfl) (ke.cons Up.pure ke.nil)),lx.cons (.row ke.pure) lx.nil,by simp,?_⟩
 unfold iL
 rw[gS]
 rfl
set_option maxHeartbeats 2000000 in
theorem Df(T:an)(own:List Bool)(n d:Nat)(hv:av T=true)(hfo:own.length=2*T.ag.length)(hn:(n:Int)<T.nodes)(hd:(d:Int)<T.nodes)(h12:T.nodes≤12):Can Tryz.prog 114 [aJ T,aM own,num n,num d] (· =oK (ox T own n d)):=by
 have hll:=bJ hv
 have hof:bL T own=true:=by unfold bL;rw[hfo];simp
 have hnb:aV T (n:Int)=true:=aO.2 ⟨by omega,hn⟩
 have hdb:aV T (d:Int)=true:=aO.2 ⟨by omega,hd⟩
 have hnx:=p6 T [] n d
 rw[jV hv (ig T) hnb hdb,Int.toNat_natCast,Int.toNat_natCast]at hnx
 unfold df at hnx
 rw[if_pos rfl]at hnx
 have hlen:=sU hv [] n d
 have hmem:∀a∈bm T [] n d,∃k:Nat,a=(k:Int)∧k<2*T.ag.length:=fun a ha=>by
  obtain⟨k,hk,hkn⟩:=dj ha
  exact⟨k,hk,hkn.iM⟩
 unfold ox
 obtain⟨l,hl⟩:∃l,bm T [] n d=l:=⟨_,rfl⟩
 rw[hl]at hnx hlen hmem ⊢
 have hix:=DP l own (by omega) (fun a ha=>by rw[hfo];exact hmem a ha)
 obtain⟨ix,hixe⟩:∃ix,EE own l 0=ix:=⟨_,rfl⟩
 have hih:=DM own l 0
 rw[hixe]at hix hih
 simp only[Nat.zero_add]at hih
 refine aF Tryz.func114 rfl Tryz.ntmps114 rfl<|aH<|aq 3 rfl<|aD [2,3,4,5,8] rfl ?_
 refine ab (.a 3 rfl<|.v (tI rfl (ai.cons ax.pure<|ai.cons ax.bO<|ai.cons ax.pure<|ai.cons ax.pure ai.nil) (hnx)) rfl<|.a 5 rfl<|.k [2,3,4,5,8,9] rfl)<|ab (.a 1 rfl<|.v (dO rfl rfl) rfl<|.c rfl (hix) rfl<|.a 1 rfl<|.k [2,3,4,5,8,9,11] rfl)<|aj<|ab (.a 2 rfl<|.k [2,3,4,5,8,9,11,28] rfl)<|af rfl (fun h3=>?_) (fun h3=>?_)
 ·have hno:fL own l=none:=by
   rcases hih with h|⟨j,_,h,_⟩
   ·exact h.2
   ·rw[h]at h3;have:=tt h3;omega
  rw[hno]
  refine aH<|aq 3 rfl<|aD [8] rfl ?_
  exact ao<|⟨_,_,aA.of rfl,ax.ew (ai.cons (ax.pure (p:=aw l))<|ai.cons ax.pure<|ai.cons ax.bO ai.nil),rfl⟩
 ·obtain⟨j,hjl,rfl,ha⟩:∃j,j<l.length∧ix=((j:Nat):Int)∧fL own l=some (l.getD j 0):=by
   rcases hih with h|h
   ·rw[h.1]at h3;exact absurd h3 (by decide)
   ·exact h
  obtain⟨k,hkj,hk⟩:=hmem _ (bR (d:=0) hjl)
  rw[ha]
  simp only[]
  rw[hkj,Int.toNat_natCast]
  have hcm:(av T&&cc T (eZ T k d).1 (eZ T k d).2)=true:=by rw[hv,uU hv hk];rfl
  have hcl:=FV T k d hv hk hd
  have has:=xz T k hv hk
  have hmk:=fun σ=>AT T (eZ T k d).1 (eZ T k d).2 hcm σ
  have hmx:uB T own n d k=if jj T (orM T (bz T (eZ T k d).1 (eZ T k d).2) own) n d=true then orM T (bz T (eZ T k d).1 (eZ T k d).2) own else own:=rfl
  generalize eZ T k (d:Int)=cx at*
  obtain⟨ck,cy⟩:=cx
  simp only at hcm hcl hmk hmx
  have hMl:=gS T ck cy
  obtain⟨M,hM⟩:∃M,bz T ck cy=M:=⟨_,rfl⟩
  rw[hM]at hmk hmx hMl
  have hre:=vH T (uB T own n d k) n d hll h12
  rw[jV hv (vd hof k) hnb hdb]at hre
  clear h3 hmem hih hix hixe
  refine ak<|jF (bd (ks:=[2,3,4,5,8,9,11]) rfl) ?_
  refine qD ([(2,num n),(3,num d),(4,.aX (bn T) 0),(5,.aX [aM own] 0),(8,.ptr 0 0),(12,.own 1)]) ([some (.cells 76 [.raw (.slice none 0 0),flag false,.raw (.slice none 0 0)]),iL M]) mixed ?_ ?_
  ·refine pZ [[(2,num n),(3,num d),(4,.aX (bn T) 0),(5,.aX [aM own] 0),(8,.ptr 0 0),(9,aw l),(11,num j),(12,.own 1),(13,num 0),(31,.tuple [.own 1,num 0]),(32,aJ T),(33,aJ T),(34,aw l),(35,num j),(36,.aX (aN l) j),(37,num k),(38,.func 183 (jZ (fN T k) (bb T k) ((k / 2:Nat):Int) (G0 T k) (GZ T k))),(39,num d),(40,bY ck cy),(41,.tuple [.own 1,num 0]),(42,.own 1),(43,num 0)]] [[some (.cells 76 [.raw (.slice none 0 0),flag false,.raw (.slice none 0 0)])],[some (.cells 76 [.raw (.slice none 0 0),flag false,.raw (.slice none 0 0)]),iL M]] [2,3,4,5,8,9,11] rfl (by kernel_rfl) (fun M hi ho=>?_)
   have μ0:M 0 32767 0 [2,3,4,5,8,12] 1:=hi<|oP rfl (by kernel_rfl) (⟨rfl,bd (ks:=[2,3,4,5,8,12]) rfl⟩)
   have μ1:M 1 16383 0 [2,3,4,5,8,12,43] 1:=hi<|aa [(14,32767)] rfl (by kernel_rfl)<|ah (ho μ0) rfl rfl ae
   have μ2:M 2 8191 0 [2,3,4,5,8,42,43] 1:=hi<|aa [(13,16383)] rfl (by kernel_rfl)<|ah (ho μ1) rfl rfl ae
   have μ3:M 2 12287 0 [2,3,4,5,8,12,31] 1:=hi<|aa [(12,16383)] rfl (by kernel_rfl)<|ah (ho μ1) rfl rfl ae
   have μ4:M 3 4095 0 [2,3,4,5,8,31,42] 1:=hi<|aa [(12,8191),(13,12287)] rfl (by kernel_rfl)<|ah (ho μ2) rfl rfl<|ah (ho μ3) rfl rfl ae
   have μ5:M 3 6143 0 [2,3,4,5,8,31,43] 1:=hi<|aa [(11,8191)] rfl (by kernel_rfl)<|ah (ho μ2) rfl rfl ae
   have μ6:M 4 2047 0 [2,3,4,5,8,31] 1:=hi<|aa [(11,4095),(12,6143)] rfl (by kernel_rfl)<|ah (ho μ4) rfl rfl<|ah (ho μ5) rfl rfl ae
   have μ7:M 5 1023 0 [2,3,4,5,8,41] 1:=hi<|aa [(10,2047)] rfl (by kernel_rfl)<|ah (ho μ6) rfl rfl ae
   have μ8:M 6 511 0 [2,3,4,5,8,32,40] 0:=hi<|aa [(9,1023)] rfl (by kernel_rfl)<|eO rfl rfl rfl rfl (hmk _) (ho μ7) rfl rfl ae
   have μ9:M 7 255 0 [2,3,4,5,8,32,38,39] 0:=hi<|aa [(8,511)] rfl (by kernel_rfl)<|bc rfl rfl (dw rfl (hcl)) rfl (ho μ8) rfl rfl ae
   have μ10:M 8 127 0 [2,3,4,5,8,32,38] 0:=hi<|aa [(7,255)] rfl (by kernel_rfl)<|ah (ho μ9) rfl rfl ae
   have μ11:M 8 191 0 [2,3,4,5,8,32,33,37,39] 0:=hi<|aa [(6,255)] rfl (by kernel_rfl)<|bc rfl rfl (dw rfl (has)) rfl (ho μ9) rfl rfl ae
   have μ12:M 9 63 0 [2,3,4,5,8,32,33,37] 0:=hi<|aa [(6,127),(7,191)] rfl (by kernel_rfl)<|bc rfl rfl (dw rfl (has)) rfl (ho μ10) rfl rfl<|ah (ho μ11) rfl rfl ae
   have μ13:M 9 159 0 [2,3,4,5,8,32,33,36,39] 0:=hi<|aa [(5,191)] rfl (by kernel_rfl)<|bc rfl rfl (aK rfl ((ay l j hjl).trans (by rw[hkj]))) rfl (ho μ11) rfl rfl ae
   have μ14:M 10 31 0 [2,3,4,5,8,32,33,36] 0:=hi<|aa [(5,63),(7,159)] rfl (by kernel_rfl)<|bc rfl rfl (aK rfl ((ay l j hjl).trans (by rw[hkj]))) rfl (ho μ12) rfl rfl<|ah (ho μ13) rfl rfl ae
   have μ15:M 10 143 0 [2,3,4,5,8,32,33,34,35,39] 0:=hi<|aa [(4,159)] rfl (by kernel_rfl)<|bc rfl rfl (aI (j) rfl) rfl (ho μ13) rfl rfl ae
   have μ16:M 11 15 0 [2,3,4,5,8,32,33,34,35] 0:=hi<|aa [(4,31),(7,143)] rfl (by kernel_rfl)<|bc rfl rfl (aI (j) rfl) rfl (ho μ14) rfl rfl<|ah (ho μ15) rfl rfl ae
   have μ17:M 11 135 0 [2,3,4,5,8,11,32,33,34,39] 0:=hi<|aa [(3,143)] rfl (by kernel_rfl)<|ah (ho μ15) rfl rfl ae
   have μ18:M 12 7 0 [2,3,4,5,8,11,32,33,34] 0:=hi<|aa [(3,15),(7,135)] rfl (by kernel_rfl)<|ah (ho μ16) rfl rfl<|ah (ho μ17) rfl rfl ae
   have μ19:M 11 139 0 [2,3,4,5,8,9,32,33,35,39] 0:=hi<|aa [(2,143)] rfl (by kernel_rfl)<|ah (ho μ15) rfl rfl ae
   have μ20:M 12 11 0 [2,3,4,5,8,9,32,33,35] 0:=hi<|aa [(2,15),(7,139)] rfl (by kernel_rfl)<|ah (ho μ16) rfl rfl<|ah (ho μ19) rfl rfl ae
   have μ21:M 12 131 0 [2,3,4,5,8,9,11,32,33,39] 0:=hi<|aa [(2,135),(3,139)] rfl (by kernel_rfl)<|ah (ho μ17) rfl rfl<|ah (ho μ19) rfl rfl ae
   have μ22:M 13 3 0 [2,3,4,5,8,9,11,32,33] 0:=hi<|aa [(2,7),(3,11),(7,131)] rfl (by kernel_rfl)<|ah (ho μ18) rfl rfl<|ah (ho μ20) rfl rfl<|ah (ho μ21) rfl rfl ae
   have μ23:M 9 189 0 [2,3,4,5,8,32,37,39] 0:=hi<|aa [(1,191)] rfl (by kernel_rfl)<|ah (ho μ11) rfl rfl ae
   have μ24:M 10 61 0 [2,3,4,5,8,32,37] 0:=hi<|aa [(1,63),(7,189)] rfl (by kernel_rfl)<|ah (ho μ12) rfl rfl<|ah (ho μ23) rfl rfl ae
   have μ25:M 10 157 0 [2,3,4,5,8,32,36,39] 0:=hi<|aa [(1,159),(5,189)] rfl (by kernel_rfl)<|ah (ho μ13) rfl rfl<|bc rfl rfl (aK rfl ((ay l j hjl).trans (by rw[hkj]))) rfl (ho μ23) rfl rfl ae
   have μ26:M 11 29 0 [2,3,4,5,8,32,36] 0:=hi<|aa [(1,31),(5,61),(7,157)] rfl (by kernel_rfl)<|ah (ho μ14) rfl rfl<|bc rfl rfl (aK rfl ((ay l j hjl).trans (by rw[hkj]))) rfl (ho μ24) rfl rfl<|ah (ho μ25) rfl rfl ae
   have μ27:M 11 141 0 [2,3,4,5,8,32,34,35,39] 0:=hi<|aa [(1,143),(4,157)] rfl (by kernel_rfl)<|ah (ho μ15) rfl rfl<|bc rfl rfl (aI (j) rfl) rfl (ho μ25) rfl rfl ae
   have μ28:M 12 13 0 [2,3,4,5,8,32,34,35] 0:=hi<|aa [(1,15),(4,29),(7,141)] rfl (by kernel_rfl)<|ah (ho μ16) rfl rfl<|bc rfl rfl (aI (j) rfl) rfl (ho μ26) rfl rfl<|ah (ho μ27) rfl rfl ae
   have μ29:M 12 133 0 [2,3,4,5,8,11,32,34,39] 0:=hi<|aa [(1,135),(3,141)] rfl (by kernel_rfl)<|ah (ho μ17) rfl rfl<|ah (ho μ27) rfl rfl ae
   have μ30:M 13 5 0 [2,3,4,5,8,11,32,34] 0:=hi<|aa [(1,7),(3,13),(7,133)] rfl (by kernel_rfl)<|ah (ho μ18) rfl rfl<|ah (ho μ28) rfl rfl<|ah (ho μ29) rfl rfl ae
   have μ31:M 12 137 0 [2,3,4,5,8,9,32,35,39] 0:=hi<|aa [(1,139),(2,141)] rfl (by kernel_rfl)<|ah (ho μ19) rfl rfl<|ah (ho μ27) rfl rfl ae
   have μ32:M 13 9 0 [2,3,4,5,8,9,32,35] 0:=hi<|aa [(1,11),(2,13),(7,137)] rfl (by kernel_rfl)<|ah (ho μ20) rfl rfl<|ah (ho μ28) rfl rfl<|ah (ho μ31) rfl rfl ae
   have μ33:M 13 129 0 [2,3,4,5,8,9,11,32,39] 0:=hi<|aa [(1,131),(2,133),(3,137)] rfl (by kernel_rfl)<|ah (ho μ21) rfl rfl<|ah (ho μ29) rfl rfl<|ah (ho μ31) rfl rfl ae
   have μ34:M 14 1 0 [2,3,4,5,8,9,11,32] 0:=hi<|aa [(1,3),(2,5),(3,9),(7,129)] rfl (by kernel_rfl)<|ah (ho μ22) rfl rfl<|ah (ho μ30) rfl rfl<|ah (ho μ32) rfl rfl<|ah (ho μ33) rfl rfl ae
   have μ35:M 7 510 0 [2,3,4,5,8,40] 0:=hi<|aa [(0,511)] rfl (by kernel_rfl)<|ah (ho μ8) rfl rfl ae
   have μ36:M 8 254 0 [2,3,4,5,8,38,39] 0:=hi<|aa [(0,255),(8,510)] rfl (by kernel_rfl)<|ah (ho μ9) rfl rfl<|bc rfl rfl (dw rfl (hcl)) rfl (ho μ35) rfl rfl ae
   have μ37:M 9 126 0 [2,3,4,5,8,38] 0:=hi<|aa [(0,127),(7,254)] rfl (by kernel_rfl)<|ah (ho μ10) rfl rfl<|ah (ho μ36) rfl rfl ae
   have μ38:M 9 190 0 [2,3,4,5,8,33,37,39] 0:=hi<|aa [(0,191),(6,254)] rfl (by kernel_rfl)<|ah (ho μ11) rfl rfl<|bc rfl rfl (dw rfl (has)) rfl (ho μ36) rfl rfl ae
   have μ39:M 10 62 0 [2,3,4,5,8,33,37] 0:=hi<|aa [(0,63),(6,126),(7,190)] rfl (by kernel_rfl)<|ah (ho μ12) rfl rfl<|bc rfl rfl (dw rfl (has)) rfl (ho μ37) rfl rfl<|ah (ho μ38) rfl rfl ae
   have μ40:M 10 158 0 [2,3,4,5,8,33,36,39] 0:=hi<|aa [(0,159),(5,190)] rfl (by kernel_rfl)<|ah (ho μ13) rfl rfl<|bc rfl rfl (aK rfl ((ay l j hjl).trans (by rw[hkj]))) rfl (ho μ38) rfl rfl ae
   have μ41:M 11 30 0 [2,3,4,5,8,33,36] 0:=hi<|aa [(0,31),(5,62),(7,158)] rfl (by kernel_rfl)<|ah (ho μ14) rfl rfl<|bc rfl rfl (aK rfl ((ay l j hjl).trans (by rw[hkj]))) rfl (ho μ39) rfl rfl<|ah (ho μ40) rfl rfl ae
   have μ42:M 11 142 0 [2,3,4,5,8,33,34,35,39] 0:=hi<|aa [(0,143),(4,158)] rfl (by kernel_rfl)<|ah (ho μ15) rfl rfl<|bc rfl rfl (aI (j) rfl) rfl (ho μ40) rfl rfl ae
   have μ43:M 12 14 0 [2,3,4,5,8,33,34,35] 0:=hi<|aa [(0,15),(4,30),(7,142)] rfl (by kernel_rfl)<|ah (ho μ16) rfl rfl<|bc rfl rfl (aI (j) rfl) rfl (ho μ41) rfl rfl<|ah (ho μ42) rfl rfl ae
   have μ44:M 12 134 0 [2,3,4,5,8,11,33,34,39] 0:=hi<|aa [(0,135),(3,142)] rfl (by kernel_rfl)<|ah (ho μ17) rfl rfl<|ah (ho μ42) rfl rfl ae
   have μ45:M 13 6 0 [2,3,4,5,8,11,33,34] 0:=hi<|aa [(0,7),(3,14),(7,134)] rfl (by kernel_rfl)<|ah (ho μ18) rfl rfl<|ah (ho μ43) rfl rfl<|ah (ho μ44) rfl rfl ae
   have μ46:M 12 138 0 [2,3,4,5,8,9,33,35,39] 0:=hi<|aa [(0,139),(2,142)] rfl (by kernel_rfl)<|ah (ho μ19) rfl rfl<|ah (ho μ42) rfl rfl ae
   have μ47:M 13 10 0 [2,3,4,5,8,9,33,35] 0:=hi<|aa [(0,11),(2,14),(7,138)] rfl (by kernel_rfl)<|ah (ho μ20) rfl rfl<|ah (ho μ43) rfl rfl<|ah (ho μ46) rfl rfl ae
   have μ48:M 13 130 0 [2,3,4,5,8,9,11,33,39] 0:=hi<|aa [(0,131),(2,134),(3,138)] rfl (by kernel_rfl)<|ah (ho μ21) rfl rfl<|ah (ho μ44) rfl rfl<|ah (ho μ46) rfl rfl ae
   have μ49:M 14 2 0 [2,3,4,5,8,9,11,33] 0:=hi<|aa [(0,3),(2,6),(3,10),(7,130)] rfl (by kernel_rfl)<|ah (ho μ22) rfl rfl<|ah (ho μ45) rfl rfl<|ah (ho μ47) rfl rfl<|ah (ho μ48) rfl rfl ae
   have μ50:M 10 188 0 [2,3,4,5,8,37,39] 0:=hi<|aa [(0,189),(1,190)] rfl (by kernel_rfl)<|ah (ho μ23) rfl rfl<|ah (ho μ38) rfl rfl ae
   have μ51:M 11 60 0 [2,3,4,5,8,37] 0:=hi<|aa [(0,61),(1,62),(7,188)] rfl (by kernel_rfl)<|ah (ho μ24) rfl rfl<|ah (ho μ39) rfl rfl<|ah (ho μ50) rfl rfl ae
   have μ52:M 11 156 0 [2,3,4,5,8,36,39] 0:=hi<|aa [(0,157),(1,158),(5,188)] rfl (by kernel_rfl)<|ah (ho μ25) rfl rfl<|ah (ho μ40) rfl rfl<|bc rfl rfl (aK rfl ((ay l j hjl).trans (by rw[hkj]))) rfl (ho μ50) rfl rfl ae
   have μ53:M 12 28 0 [2,3,4,5,8,36] 0:=hi<|aa [(0,29),(1,30),(5,60),(7,156)] rfl (by kernel_rfl)<|ah (ho μ26) rfl rfl<|ah (ho μ41) rfl rfl<|bc rfl rfl (aK rfl ((ay l j hjl).trans (by rw[hkj]))) rfl (ho μ51) rfl rfl<|ah (ho μ52) rfl rfl ae
   have μ54:M 12 140 0 [2,3,4,5,8,34,35,39] 0:=hi<|aa [(0,141),(1,142),(4,156)] rfl (by kernel_rfl)<|ah (ho μ27) rfl rfl<|ah (ho μ42) rfl rfl<|bc rfl rfl (aI (j) rfl) rfl (ho μ52) rfl rfl ae
   have μ55:M 13 12 0 [2,3,4,5,8,34,35] 0:=hi<|aa [(0,13),(1,14),(4,28),(7,140)] rfl (by kernel_rfl)<|ah (ho μ28) rfl rfl<|ah (ho μ43) rfl rfl<|bc rfl rfl (aI (j) rfl) rfl (ho μ53) rfl rfl<|ah (ho μ54) rfl rfl ae
   have μ56:M 13 132 0 [2,3,4,5,8,11,34,39] 0:=hi<|aa [(0,133),(1,134),(3,140)] rfl (by kernel_rfl)<|ah (ho μ29) rfl rfl<|ah (ho μ44) rfl rfl<|ah (ho μ54) rfl rfl ae
   have μ57:M 14 4 0 [2,3,4,5,8,11,34] 0:=hi<|aa [(0,5),(1,6),(3,12),(7,132)] rfl (by kernel_rfl)<|ah (ho μ30) rfl rfl<|ah (ho μ45) rfl rfl<|ah (ho μ55) rfl rfl<|ah (ho μ56) rfl rfl ae
   have μ58:M 13 136 0 [2,3,4,5,8,9,35,39] 0:=hi<|aa [(0,137),(1,138),(2,140)] rfl (by kernel_rfl)<|ah (ho μ31) rfl rfl<|ah (ho μ46) rfl rfl<|ah (ho μ54) rfl rfl ae
   have μ59:M 14 8 0 [2,3,4,5,8,9,35] 0:=hi<|aa [(0,9),(1,10),(2,12),(7,136)] rfl (by kernel_rfl)<|ah (ho μ32) rfl rfl<|ah (ho μ47) rfl rfl<|ah (ho μ55) rfl rfl<|ah (ho μ58) rfl rfl ae
   have μ60:M 14 128 0 [2,3,4,5,8,9,11,39] 0:=hi<|aa [(0,129),(1,130),(2,132),(3,136)] rfl (by kernel_rfl)<|ah (ho μ33) rfl rfl<|ah (ho μ48) rfl rfl<|ah (ho μ56) rfl rfl<|ah (ho μ58) rfl rfl ae
   have μ61:M 15 0 0 [2,3,4,5,8,9,11] 0:=hi<|aa [(0,1),(1,2),(2,4),(3,8),(7,128)] rfl (by kernel_rfl)<|ah (ho μ34) rfl rfl<|ah (ho μ49) rfl rfl<|ah (ho μ57) rfl rfl<|ah (ho μ59) rfl rfl<|ah (ho μ60) rfl rfl ae
   exact μ61
  refine aj<|ab (.a 3 rfl<|.k [2,3,4,5,8,12,45,46] rfl)<|ei (σ':=[some (.cells 76 [.raw (.slice none 0 0),flag false,.raw (.slice none 0 0)]),iL (jo T M own 0)]) (by rw[rU hMl]) ?_
  refine au<|ee [2,3,4,5,8,12,45,46] rfl<|bf (fun r s=>∃a,a≤2*T.ag.length∧r=2*T.ag.length - a∧s=⟨[(2,num n),(3,num d),(4,.aX (bn T) 0),(5,.aX [aM own] 0),(8,.ptr 0 0),(12,.own 1),(45,num M.length),(46,num a)],[some (.cells 76 [.raw (.slice none 0 0),flag false,.raw (.slice none 0 0)]),iL (jo T M own a)]⟩) (2*T.ag.length) ⟨0,by omega,by omega,rfl⟩ ?_
  rintro r s ⟨a,ha2,rfl,rfl⟩
  have hol:=nt T M own a
  refine ab (.a 1 rfl<|.k [2,3,4,5,8,12,45,46,47] rfl)<|aj<|af rfl (fun h4=>?_) (fun h4=>?_)
  ·have hlt:a<2*T.ag.length:=by have:=tt h4;omega
   have hst:=rP T M own a
   have hat:=yU (T:=T) (D:=M) (E:=own) hlt
   clear h4
   refine ak<|aj<|au<|ab (.a 2 rfl<|.k [2,3,4,5,8,12,14,45,46] rfl) ?_
   obtain⟨c1,hc1⟩:∃q,aW M a=q:=⟨_,rfl⟩
   obtain⟨c2,hc2⟩:∃q,aW own a=q:=⟨_,rfl⟩
   rw[hc1,hc2]at hst
   rw[hc1]at hat
   refine BL (Q1:=fun st=>st=⟨[(2,num n),(3,num d),(4,.aX (bn T) 0),(5,.aX [aM own] 0),(8,.ptr 0 0),(12,.own 1),(45,num M.length),(46,num a)],[some (.cells 76 [.raw (.slice none 0 0),flag false,.raw (.slice none 0 0)]),iL (jo T M own (a+1))]⟩) ?_ ?_
   ·cases c1
    ·refine bq<|aq 4 rfl<|bA (aI (a) rfl) rfl<|bA (aK rfl ((show(bS (jo T M own a))[a]? =some (flag false) by rw[cG _ a (by omega),hat]))) rfl<|aq 3 rfl<|bA (aI (a) rfl) rfl<|bA (aK rfl ((show(bS own)[a]? =some (flag c2) by rw[cG _ a (by omega),gN,hc2]))) rfl<|aq 1 rfl<|bA (aI (a) rfl) rfl<|bh ((by first|exact bH rfl (bF.tk.get rfl) rfl rfl rfl (by first|omega|(simp;omega))|exact aS rfl (bF.tk.get rfl) rfl rfl rfl (by first|omega|(simp;omega)))) rfl rfl<|aD [2,3,4,5,8,12,45,46] rfl ?_
     rw[←hst]
     unfold iL
     rw[List.length_set]
     rfl
    ·refine bq<|aq 4 rfl<|bA (aI (a) rfl) rfl<|bA (aK rfl ((show(bS (jo T M own a))[a]? =some (flag true) by rw[cG _ a (by omega),hat]))) rfl<|aq 6 rfl<|bA (aI (a) rfl) rfl<|bh ((by first|exact bH rfl (bF.tk.get rfl) rfl rfl rfl (by first|omega|(simp;omega))|exact aS rfl (bF.tk.get rfl) rfl rfl rfl (by first|omega|(simp;omega)))) rfl rfl<|aD [2,3,4,5,8,12,45,46] rfl ?_
     rw[←hst]
     unfold iL
     rw[List.length_set]
     rfl
   rintro _ rfl
   refine aB (.v (aP rfl) rfl<|.a 1 rfl<|.k [2,3,4,5,8,12,45,46] rfl) ?_
   exact⟨2*T.ag.length - (a+1),by omega,a+1,by omega,rfl,rfl⟩
  ·have hae:a=2*T.ag.length:=by have:=ff h4;omega
   subst hae
   rw[u4]
   clear h4
   refine aY<|aj<|yr 12 1 rfl rfl ?_
   refine dy [0] (.c 2<|.c 3<|.c 4<|.c 5<|.c 8<|.c 12<|.nil) (.kept rfl (.cells (aC.c<|aC.c<|aC.c<|aC.nil))<|.nil) rfl rfl ?_
   obtain⟨q,hq⟩:∃q,jj T (orM T M own) n d=q:=⟨_,rfl⟩
   rw[hq]at hmx
   refine ab (.a 4 rfl<|.c rfl (hq▸yO T (orM T M own) n d) rfl<|.a 1 rfl<|.k [2,3,4,5,8,12,68] rfl)<|af rfl (fun h5=>?_) (fun h5=>?_)
   ·have h5:q=false:=by simpa using h5
    rw[h5,if_neg (by simp)]at hmx
    rw[hmx]at hre ⊢
    refine aB (.a 2 rfl<|.k [2,3,4,8,12] rfl) ?_
    refine aH<|aq 4 rfl<|dJ rfl (hre) rfl<|aq 6 rfl<|aD [8,15] rfl ?_
    refine aH<|aq 2 rfl<|aD [8] rfl ?_
    exact ao<|⟨_,_,aA.of rfl,ax.pure (p:=oK _),rfl⟩
   ·have h5:q=true:=by simpa using h5
    rw[h5,if_pos rfl]at hmx
    rw[hmx]at hre ⊢
    refine ak<|aH<|aq 4 rfl<|dJ rfl (hre) rfl<|aq 6 rfl<|aD [8,15] rfl ?_
    refine aH<|aq 2 rfl<|aD [8] rfl ?_
    exact ao<|⟨_,_,aA.of rfl,ax.pure (p:=oK _),rfl⟩
def mJ(T:an)(M:List Bool)(o:List Int)(i:Nat):List Bool:=(List.range (2*T.ag.length)).map fun(b:Nat)=>decide ((b:Int)∈o.take i)&&aW M b
theorem CS(T:an)(M:List Bool)(o:List Int)(i:Nat):(mJ T M o i).length=2*T.ag.length:=by simp[mJ]
theorem rC{T:an}{M:List Bool}{o:List Int}{i b:Nat}(h:b<(mJ T M o i).length):(mJ T M o i)[b]=(decide ((b:Int)∈o.take i)&&aW M b):=by simp[mJ]
theorem A9(T:an)(M:List Bool)(o:List Int):mJ T M o 0=List.replicate (2*T.ag.length) false:=by
 apply List.ext_getElem (by simp[mJ])
 intro i h1 h2
 rw[rC]
 simp
theorem Al{T:an}{M:List Bool}{o:List Int}{i k:Nat}(hi:i<o.length)(hk:o.getD i 0=(k:Int))(hkl:k<2*T.ag.length):mJ T M o (i+1)=if aW M k then(mJ T M o i).set k true else mJ T M o i:=by
 have hmem:∀b:Nat,((b:Int)∈o.take (i+1))↔((b:Int)∈o.take i∨b=k):=fun b=>by
  rw[cX o i 0 hi,List.mem_append,List.mem_singleton,hk]
  exact⟨fun h=>h.imp id (fun e=>by omega),fun h=>h.imp id (fun e=>by omega)⟩
 split
 ·rename_i hd
  apply List.ext_getElem (by simp[mJ])
  intro b h1 h2
  rw[rC,List.getElem_set]
  by_cases e:k=b
  ·subst e
   rw[if_pos rfl,decide_eq_true ((hmem k).2 (.inr rfl)),hd]
   rfl
  ·rw[if_neg e,rC]
   congr 1
   exact decide_eq_decide.2 ((hmem b).trans ⟨fun h=>h.resolve_right (fun e'=>e e'.symm),.inl⟩)
 ·rename_i hd
  unfold mJ
  refine List.map_congr_left fun b _=>?_
  by_cases e:b=k
  ·subst e
   rw[Bool.eq_false_iff.2 hd]
   simp
  ·congr 1
   exact decide_eq_decide.2 ((hmem b).trans ⟨fun h=>h.resolve_right e,.inl⟩)
theorem B5(T:an)(M:List Bool)(n:Int):mJ T M (bC T n) (bC T n).length=jx T M n:=by
 unfold mJ jx
 refine List.map_congr_left fun b hb=>?_
 have hb:=List.mem_range.1 hb
 rw[List.take_length,Bool.and_comm]
 congr 1
 refine decide_eq_decide.2 (ju.trans ⟨fun h=>by have:=h.2;rwa [Int.toNat_natCast]at this,fun h=>⟨cT.2 (by omega),by rw[Int.toNat_natCast];exact h⟩⟩)
set_option maxHeartbeats 2000000 in
theorem A2(T:an)(k x n:Int)(h12:T.nodes≤12):Can Tryz.prog 55 [aJ T,bY k x,num n] (· =fY (if cQ T k x=0 then(if aV T n then 0 else 2) else 1) (pF T (bz T k x) n.toNat)):=by
 have hmk:=kY T k x
 unfold gI at hmk
 refine aF Tryz.func55 rfl Tryz.ntmps55 rfl<|aH<|aq 4 rfl<|aD [2,3,4,6] rfl ?_
 refine ab (.a 2 rfl<|.c rfl (hmk) rfl<|.a 5 rfl<|.k [2,3,6,8,9] rfl)<|aj<|ab (.a 2 rfl<|.k [2,3,6,8,9,22] rfl)<|af rfl (fun h1=>?_) (fun h1=>?_)
 ·have h1:=tt h1
  rw[if_neg h1]
  have h1':=qi h1
  rw[h1']
  refine aH<|aq 4 rfl<|aD [6,7] rfl ?_
  exact ao<|⟨_,_,aA.of rfl,ax.ba (ai.cons (ax.ew (ai.cons ax.pure<|ai.cons ax.bO<|ai.cons ax.bO ai.nil)) (ai.cons ax.pure ai.nil)),rfl⟩
 ·have h1:cQ T k x=0:=Classical.byContradiction (ff h1)
  obtain⟨hv,hc⟩:=Bool.and_eq_true_iff.1 (l7 h1)
  rw[if_pos h1,if_pos h1]
  have hll:=bJ hv
  refine ak<|aj<|ab (.a 2 rfl<|.c rfl (dv T n) rfl<|.a 1 rfl<|.k [2,3,6,8,28] rfl)<|af rfl (fun h2=>?_) (fun h2=>?_)
  ·have hn:aV T n=false:=by simpa using h2
   rw[hn]
   refine aH<|aq 3 rfl<|aD [6,7] rfl ?_
   exact ao<|⟨_,_,aA.of rfl,ax.ba (ai.cons (ax.ew (ai.cons ax.pure<|ai.cons ax.bO<|ai.cons ax.bO ai.nil)) (ai.cons ax.pure ai.nil)),rfl⟩
  ·have hn:aV T n=true:=by simpa using h2
   rw[hn,if_pos rfl]
   rw[aO]at hn
   obtain⟨m,rfl⟩:=Int.eq_ofNat_of_zero_le hn.1
   rw[Int.toNat_natCast]
   obtain⟨N,hN⟩:∃N:Nat,T.nodes=(N:Int):=⟨T.nodes.toNat,by omega⟩
   have hMl:=gS T k x
   obtain⟨M,hM⟩:∃M,bz T k x=M:=⟨_,rfl⟩
   rw[hM]at hMl ⊢
   have hol:(bC T m).length≤512:=Nat.le_trans (dB T m _) (by omega)
   clear h2 hmk
   refine ak<|aH<|aq 4 rfl<|aD [2,3,6,8,10] rfl ?_
   refine bZ 1 1 76 3 rfl rfl ?_
   refine bZ 1 2 3 1 rfl rfl ?_
   refine aH<|aq 1 rfl<|dJ rfl (gX T (by omega)) rfl<|cf (cF rfl (bF.rk.get rfl) rfl rfl (show 2*(T.ag.length:Int)=((2*T.ag.length:Nat):Int) by omega) (show 2*(T.ag.length:Int)=((2*T.ag.length:Nat):Int) by omega) ⟨by unfold maxLen;omega,by omega⟩) rfl<|aq 1 rfl<|aD [2,3,6,8,10,11] rfl ?_
   refine aj<|ab (.a 2 rfl<|.c rfl (om T hll _) rfl<|.a 2 rfl<|.k [2,3,6,8,10,11,37,38,39] rfl)<|au<|ee [2,3,6,8,10,11,37,38,39] rfl<|ei (σ':=[some (.cells 56 [num 0,.raw (.slice none 0 0),.raw (.slice none 0 0)]),some (.cells 56 [num m,.own 2,.own 3]),some (.row 76 3 0 []),some (.row 3 1 0 []),some (.row 4 1 (2*T.ag.length) (bS (mJ T M (bC T m) 0)))]) (by rw[A9,←gZ];rfl) ?_
   refine bf (fun r s=>∃i,i≤(bC T m).length∧r=(bC T m).length - i∧s=⟨[(2,num m),(3,.aX (bn T) 0),(6,.ptr 0 0),(8,aM M),(10,.ptr 1 0),(11,.own 4),(37,aw (bC T m)),(38,num (bC T m).length),(39,num i)],[some (.cells 56 [num 0,.raw (.slice none 0 0),.raw (.slice none 0 0)]),some (.cells 56 [num m,.own 2,.own 3]),some (.row 76 3 0 []),some (.row 3 1 (cj M ((bC T m).take i)).length (aN (cj M ((bC T m).take i)))),some (.row 4 1 (2*T.ag.length) (bS (mJ T M (bC T m) i)))]⟩) (bC T m).length ⟨0,by omega,by omega,rfl⟩ ?_
   rintro r s ⟨i,hi,rfl,rfl⟩
   skip
   refine ab (.a 1 rfl<|.k [2,3,6,8,10,11,37,38,39,40] rfl)<|aj<|af rfl (fun h3=>?_) (fun h3=>?_)
   ·have hlt:i<(bC T m).length:=by have:=tt h3;omega
    obtain⟨a0,a1⟩:=jl (bR (d:=0) hlt)
    obtain⟨a,ha⟩:=Int.eq_ofNat_of_zero_le a0
    have hal:a<2*T.ag.length:=by omega
    have hstep:cj M ((bC T m).take (i+1))=cj M ((bC T m).take i)++(if aW M a then [(a:Int)] else []):=by
     unfold cj
     rw[cX _ i 0 hlt,List.filter_append,ha]
     simp only[List.filter_cons,List.filter_nil,Int.toNat_natCast]
    have hdl:(cj M ((bC T m).take i)).length≤1000:=Nat.le_trans (List.length_filter_le _ _) (by rw[List.length_take];omega)
    have hds:=Al (T:=T) (M:=M) hlt ha hal
    have hdn:=CS T M (bC T m) i
    obtain⟨q,hq⟩:∃q,aW M a=q:=⟨_,rfl⟩
    rw[hq]at hstep hds
    clear h3
    refine ak<|aj<|au<|ab (.v (aI (i) rfl) rfl<|.v (aK rfl ((ay _ i hlt).trans (by rw[ha]))) rfl<|.a 1 rfl<|.k [2,3,6,8,10,11,13,37,38,39] rfl)<|ab (.a 2 rfl<|.v (aI (a) rfl) rfl<|.v (aK rfl ((show(bS M)[a]? =some (flag q) by rw[cG _ a (by omega),gN,hq]))) rfl<|.k [2,3,6,8,10,11,13,37,38,39,46] rfl)<|af rfl (fun h4=>?_) (fun h4=>?_)
    ·subst h4
     rw[if_pos rfl]at hstep hds
     refine aH<|aq 2 rfl<|bA (aI (a) rfl) rfl<|bh ((by first|exact bH rfl (bF.tk.get rfl) rfl rfl rfl (by first|omega|(simp;omega))|exact aS rfl (bF.tk.get rfl) rfl rfl rfl (by first|omega|(simp;omega)))) rfl rfl<|aD [2,3,6,8,10,11,13,37,38,39] rfl ?_
     refine bq<|aq 4 rfl<|cf (bu rfl (bF.rk.get rfl) rfl rfl rfl rfl (by unfold maxLen;omega)) rfl<|aq 2 rfl ?_
     refine de [0,1,2,5,4] (.c 2<|.c 3<|.c 6<|.c 8<|.c 10<|.c 11<|.c 37<|.c 38<|.c 39<|.nil) (.kept rfl (.cells (aC.c<|aC.c<|aC.c<|aC.nil))<|.kept rfl (.cells (aC.c<|aC.c<|aC.c<|aC.nil))<|.kept rfl (.row aC.pure)<|.kept rfl (.ec rfl (cB _ _))<|.kept rfl (.row aC.pure)<|.nil) rfl rfl (aU ?_)
     refine aB (.v (aP rfl) rfl<|.a 1 rfl<|.k [2,3,6,8,10,11,37,38,39] rfl) ?_
     refine⟨(bC T m).length - (i+1),by omega,i+1,by omega,rfl,?_⟩
     rw[hstep,hds]
     first
      |rfl
      |(simp only[List.length_append,List.length_singleton];rfl)
    ·subst h4
     rw[if_neg (by simp),List.append_nil]at hstep
     rw[if_neg (by simp)]at hds
     refine ak<|aB (.v (aP rfl) rfl<|.a 1 rfl<|.k [2,3,6,8,10,11,37,38,39] rfl) ?_
     refine⟨(bC T m).length - (i+1),by omega,i+1,by omega,rfl,?_⟩
     rw[hstep,hds]
     first
      |rfl
      |(simp only[List.length_append,List.length_singleton];rfl)
   ·have hie:i=(bC T m).length:=by have:=ff h3;omega
    subst hie
    rw[B5,List.take_length]
    clear h3
    refine aY<|aj ?_
    have hown:(jx T M m).length=2*T.ag.length:=by simp[jx]
    unfold pF
    obtain⟨own,howe⟩:∃own,jx T M m=own:=⟨_,rfl⟩
    rw[howe]at hown ⊢
    obtain⟨dl,hdl⟩:∃dl,cj M (bC T m)=dl:=⟨_,rfl⟩
    rw[hdl]
    refine dy [0,1,2,3,4] (.c 2<|.c 3<|.c 6<|.c 10<|.c 11<|.nil) (.kept rfl (.cells (aC.c<|aC.c<|aC.c<|aC.nil))<|.kept rfl (.cells (aC.c<|aC.c<|aC.c<|aC.nil))<|.kept rfl (.row aC.pure)<|.kept rfl (.row aC.pure)<|.kept rfl (.ec (show 2*T.ag.length=own.length by omega) rfl)<|.nil) rfl rfl ?_
    refine yr 11 4 rfl rfl ?_
    refine dy [0,1,2,3] (.c 2<|.c 3<|.c 6<|.c 10<|.c 11<|.nil) (.kept rfl (.cells (aC.c<|aC.c<|aC.c<|aC.nil))<|.kept rfl (.cells (aC.c<|aC.c<|aC.c<|aC.nil))<|.kept rfl (.row aC.pure)<|.kept rfl (.row aC.pure)<|.nil) rfl rfl ?_
    refine ab (.a 1 rfl<|.v (aK rfl ((show some (num T.nodes)=some (num (N:Int)) by rw[hN]))) rfl<|.a 1 rfl<|.k [2,3,6,10,11,58,59] rfl)<|au<|ee [2,3,6,10,11,58,59] rfl<|bf (fun r s=>∃j,j≤N∧r=N - j∧s=⟨[(2,num m),(3,.aX (bn T) 0),(6,.ptr 0 0),(10,.ptr 1 0),(11,aM own),(58,num N),(59,num j)],[some (.cells 56 [num 0,.raw (.slice none 0 0),.raw (.slice none 0 0)]),some (.cells 56 [num m,.own 2,.own 3]),some (.row 76 3 j (cV (mT T own m j))),some (.row 3 1 dl.length (aN dl))]⟩) N ⟨0,by omega,by omega,rfl⟩ ?_
    rintro r s ⟨j,hj,rfl,rfl⟩
    refine ab (.a 1 rfl<|.k [2,3,6,10,11,58,59,60] rfl)<|aj<|af rfl (fun h3=>?_) (fun h3=>?_)
    ·have hlt:j<N:=by have:=tt h3;omega
     have hre:=Df T own m j hv hown hn.2 (by omega) h12
     refine ak<|aj<|au<|ab (.a 2 rfl<|.k [2,3,6,10,11,14,58,59] rfl)<|cS 8 20 mixed (
      .val [10] rfl (bI rfl) rfl rfl<|
      .val [62] rfl (bI rfl) rfl rfl<|
      .val [3] rfl (bI rfl) rfl rfl<|
      .val [11] rfl (bI rfl) rfl rfl<|
      .val [2] rfl (bI rfl) rfl rfl<|
      .val [14] rfl (bI rfl) rfl rfl<|
      .val [64,65,66,67] rfl (dw rfl (hre)) rfl rfl<|
      .val [68] rfl (bI rfl) rfl rfl<|
      .nil) (by kernel_rfl) rfl rfl (bd (ks:=[2,3,6,10,11,58,59,63,69]) rfl) ?_
     refine cf (bu rfl (bF.rk.get rfl) rfl rfl rfl rfl (by unfold maxLen;omega)) rfl<|aq 2 rfl ?_
     refine de [0,1,4,3] (.c 2<|.c 3<|.c 6<|.c 10<|.c 11<|.c 58<|.c 59<|.nil) (.kept rfl (.cells (aC.c<|aC.c<|aC.c<|aC.nil))<|.kept rfl (.cells (aC.c<|aC.c<|aC.c<|aC.nil))<|.kept rfl (.ec rfl (show _=cV (mT T own m (j+1)) by rw[si];exact gL _ _))<|.kept rfl (.row aC.pure)<|.nil) rfl rfl (aU ?_)
     refine aB (.v (aP rfl) rfl<|.a 1 rfl<|.k [2,3,6,10,11,58,59] rfl) ?_
     exact⟨N - (j+1),by omega,j+1,by omega,rfl,rfl⟩
    ·have hje:j=N:=by have:=ff h3;omega
     subst hje
     refine aY<|aH<|bA (dI (ys:=[num m,.own 2,.own 3]) rfl (bF.tk.get rfl) rfl rfl rfl rfl) rfl<|aq 2 rfl<|aD [6,7] rfl ?_
     refine ao<|⟨_,_,aA.of rfl,ax.ba (ai.cons (ax.ew (ai.cons ax.pure<|ai.cons (ax.dX rfl ai.pure)<|ai.cons (ax.dX rfl ai.pure) ai.nil)) (ai.cons ax.pure ai.nil)),?_⟩
     unfold fY dx fe iE aw
     rw[if_pos rfl,nD,show T.nodes.toNat=j by omega]
end PW
end Go.Proofs.YtnegbdpggideiaaGreatDoor
namespace Go.Proofs.YtnegbdpggideiaaGreatDoor
namespace PW
open Go.RowKit cH Mem Net ft
namespace AW
def Ij(T:an)(D:List Bool)(d:Nat)(L:List Int)(a:Nat):List Int:=
 if(!aW D a)&&decide (0≤L.getD (bb T a).toNat 0)&&(decide (bb T a=(d:Int))|| !cN T (bb T a).toNat)&&(decide (L.getD (bw T a).toNat 0<0)||decide (L.getD (bb T a).toNat 0+cb T a<L.getD (bw T a).toNat 0))
 then L.set (bw T a).toNat (L.getD (bb T a).toNat 0+cb T a) else L
def dC(T:an)(D:List Bool)(d:Nat):List Int:=(List.range T.nodes.toNat).foldl (fun L _=>(List.range (2*T.ag.length)).foldl (Ij T D d) L) ((List.replicate T.nodes.toNat (-1)).set d 0)
def Fb(T:an)(D:List Bool)(n:Nat)(out:List Int)(a:Nat):Bool:= !aW D a&&decide (0≤at' out (cL T false a))&&(decide (cL T false a=(n:Int))|| !cN T (cL T false a).toNat)
def G2(T:an)(D:List Bool)(n:Nat)(out:List Int):Bool:=
 decide (out.length=T.nodes.toNat)&&decide (at' out (n:Int)=0)&&(List.range T.nodes.toNat).all (fun x=>decide (-1≤at' out (x:Int)))&&
 (List.range (2*T.ag.length)).all (fun a=> !Fb T D n out a||(decide (0≤at' out (fk T false a))&&decide (at' out (fk T false a)≤at' out (cL T false a)+cb T a)))&&
 (List.range T.nodes.toNat).all (fun x=>decide (x=n)||decide (at' out (x:Int)<0)||(List.range (2*T.ag.length)).any fun a=>decide (fk T false a=(x:Int))&&Fb T D n out a&&decide (at' out (x:Int)=at' out (cL T false a)+cb T a))
def nH(T:an)(D:List Bool):Bool:=(List.range T.nodes.toNat).all fun d=>G2 T D d (dC T D d)
theorem tC(T:an)(D:List Bool)(n:Nat)(out:List Int)(a:Nat):Net.Way T D n false out a↔Fb T D n out a=true:=by
 unfold Net.Way Fb
 simp[and_assoc]
theorem FH{T:an}{D:List Bool}(hv:av T=true){n:Nat}{out:List Int}(h:G2 T D n out=true):iA T D n false out:=by
 have hN:=(aQ hv).nodes
 simp only[G2,Bool.and_eq_true,decide_eq_true_eq,List.all_eq_true,List.mem_range,Bool.or_eq_true,Bool.not_eq_true',List.any_eq_true]at h
 obtain⟨⟨⟨⟨h1,h2⟩,h3⟩,h4⟩,h5⟩:=h
 refine⟨by rw[h1];omega,h2,fun x hx=>h3 x (by omega),fun a ha hw=>?_,fun x hx h0=>?_⟩
 ·rcases h4 a ha with h|h
  ·rw[(tC T D n out a).1 hw]at h;cases h
  ·exact h
 ·rcases h5 x (by omega)with(h|h)|⟨a,ha,⟨h6,h7⟩,h8⟩
  ·exact .inl h
  ·omega
  ·exact .inr ⟨a,ha,h6,(tC T D n out a).2 h7,h8⟩
theorem E7{T:an}{D:List Bool}(hv:av T=true)(h:nH T D=true){d:Nat}(hd:(d:Int)<T.nodes):bE T D d false=dC T D d:=by
 refine kU (aQ hv) (FH hv ?_)
 simp only[nH,List.all_eq_true,List.mem_range]at h
 exact h d (by omega)
def kO(T:an)(D:List Bool)(n d:Nat):List Int:=if n=d∨(dC T D d).getD n 0<0 then [] else jC T D (dC T D d) ((dC T D d).getD n 0) d (bC T n)
theorem next{T:an}{D:List Bool}(hv:av T=true)(h:nH T D=true){n d:Nat}(hd:(d:Int)<T.nodes):bm T D n d=kO T D n d:=by
 unfold bm kO;rw[E7 hv h hd]
def uo(T:an)(D:List Bool)(d:Nat):Nat→Nat→List Int
 |0,_=>[]
 |f+1,n=>match kO T D n d with
  | []=>[]
  |a::_=>a::uo T D d f (bb T a.toNat).toNat
def qc(T:an)(D:List Bool)(n d:Nat):List Int:=uo T D d ((dC T D d).getD n 0).toNat n
theorem first{T:an}{D:List Bool}(hv:av T=true)(h:nH T D=true){d:Nat}(hd:(d:Int)<T.nodes):∀f n,fj T D d f n=uo T D d f n
 |0,_=>rfl
 |f+1,n=>by
  simp only[fj,uo,next hv h hd]
  cases kO T D n d with
  |nil=>rfl
  |cons a l=>simp only[first hv h hd f]
theorem Ih{T:an}{D:List Bool}(hv:av T=true)(h:nH T D=true){n d:Nat}(hd:(d:Int)<T.nodes):cm T D n d=qc T D n d:=by
 unfold cm qc dN;rw[E7 hv h hd,first hv h hd]
def FT(T:an)(D:List Bool)(s d:Int):Int:=if bQ T D s d=0 then(if(dC T D d.toNat).getD s.toNat 0<0 then 11 else 0) else bQ T D s d
theorem pP{T:an}{D:List Bool}{s d:Int}(h:bQ T D s d=0):(d.toNat:Int)<T.nodes∧0≤d:=by
 obtain⟨_,_,_,h4⟩:=eH h
 rw[aO]at h4
 omega
theorem IK{T:an}{D:List Bool}(hv:av T=true)(h:nH T D=true)(s d:Int):fH T D s d=FT T D s d:=by
 unfold fH FT dN
 by_cases h0:bQ T D s d=0
 ·rw[if_pos h0,if_pos h0,E7 hv h (pP h0).1]
 ·rw[if_neg h0,if_neg h0]
def yt(T:an)(D:List Bool)(d:Nat):Nat→Nat→Int
 |0,m=>if m=d then 1 else 0
 |f+1,m=>if m=d then 1 else(kO T D m d).foldl (fun c a=>min 2 (c+yt T D d f (bb T a.toNat).toNat)) 0
theorem lX{T:an}{D:List Bool}(hv:av T=true)(h:nH T D=true){d:Nat}(hd:(d:Int)<T.nodes):∀f m,mK T D d f m=yt T D d f m
 |0,_=>rfl
 |f+1,m=>by
  simp only[mK,yt,next hv h hd]
  split
  ·rfl
  ·exact foldl_congr fun c a _=>by rw[lX hv h hd f]
def Bq(T:an)(D:List Bool)(n:Int)(p:List Int)(i j:Nat):Bool:=
 decide ((dC T D (cE T n (p.take j)).toNat).getD (cE T n (p.take i)).toNat 0=cU T (p.take j) - cU T (p.take i))&&(decide (bQ T D (cE T n (p.take i)) (cE T n (p.take j))=0)&&decide (yt T D (cE T n (p.take j)).toNat ((dC T D (cE T n (p.take j)).toNat).getD (cE T n (p.take i)).toNat 0).toNat (cE T n (p.take i)).toNat=1))
theorem IP{T:an}{D:List Bool}(hv:av T=true)(h:nH T D=true)(n:Int)(p:List Int)(i j:Nat):ej T D n p i j=Bq T D n p i j:=by
 unfold ej Bq eM dF dN
 by_cases h0:bQ T D (cE T n (p.take i)) (cE T n (p.take j))=0
 ·rw[E7 hv h (pP h0).1,lX hv h (pP h0).1]
 ·rw[decide_eq_false h0];simp
def Cq(T:an)(D:List Bool)(n:Int)(p:List Int):Nat→Nat→List cq
 |0,_=>[]
 |f+1,i=>if i<p.length then(match jm (Bq T D n p i) i p.length with
  |some j=>⟨1,cE T n (p.take j)⟩::Cq T D n p f j
  |none=>⟨2,p.getD i 0⟩::Cq T D n p f (i+1)) else []
theorem GU{T:an}{D:List Bool}(hv:av T=true)(h:nH T D=true)(n:Int)(p:List Int):∀f i,gC T D n p f i=Cq T D n p f i
 |0,_=>rfl
 |f+1,i=>by
  have:ej T D n p i=Bq T D n p i:=funext fun j=>IP hv h n p i j
  simp only[gC,Cq,this]
  split
  ·cases jm (Bq T D n p i) i p.length with
   |none=>simp only[GU hv h n p f]
   |some j=>simp only[GU hv h n p f]
  ·rfl
def Hh(T:an)(D:List Bool)(n d:Int):ij:=
 if FT T D n d=0∧n≠d then⟨[(qc T D n.toNat d.toNat).getD 0 0],true,kz (Cq T [] n (qc T D n.toNat d.toNat) (qc T D n.toNat d.toNat).length 0)⟩ else⟨[],false,[]⟩
theorem B3{T:an}{D:List Bool}(hv:av T=true)(h0:nH T []=true)(h:nH T D=true)(n d:Int):jK T D n d=Hh T D n d:=by
 unfold jK Hh
 rw[IK hv h]
 by_cases hd:(d.toNat:Int)<T.nodes
 ·unfold iZ
  rw[Ih hv h hd,GU hv h0]
 ·have:¬FT T D n d=0:=by
   unfold FT
   intro hh
   split at hh
   ·rename_i h1;exact hd (pP h1).1
   ·rename_i h1;exact h1 hh
  rw[if_neg (fun hh=>this hh.1),if_neg (fun hh=>this hh.1)]
def jZ(T:an)(a:Nat)(d:Int):Int×Int:=
 if(decide (0<fN T a)&&decide (FT T (bz T 3 (fN T a)) (bw T a) d=0))=true then(3,fN T a)
 else if(decide (bb T a≠d)&&decide (FT T (bz T 2 (bb T a)) (bw T a) d=0))=true then(2,bb T a)
 else(1,((a / 2:Nat):Int))
theorem JH{T:an}(hv:av T=true){a:Nat}(h3:nH T (bz T 3 (fN T a))=true)(h2:nH T (bz T 2 (bb T a))=true)(d:Int):eZ T a d=jZ T a d:=by
 unfold eZ jZ jj
 rw[IK hv h3,IK hv h2]
end AW
end PW
end Go.Proofs.YtnegbdpggideiaaGreatDoor
namespace Go.Proofs.YtnegbdpggideiaaGreatDoor
namespace PW
open Go.RowKit cH Mem Net ft
namespace AW
def ud(T:an)(D:List Bool)(n:Nat):eD:=⟨n,(List.range T.nodes.toNat).map fun(d:Nat)=>⟨kO T D n d,false,[]⟩,cj D (bC T n)⟩
theorem DC{T:an}{D:List Bool}(hv:av T=true)(h:nH T D=true)(n:Nat):di T D n=ud T D n:=by
 have hN:=(aQ hv).nodes
 unfold di ud mU
 congr 1
 refine List.map_congr_left fun d hd=>?_
 have:=List.mem_range.1 hd
 rw[next hv h (by omega)]
end AW
def uf:List Bool:=[true,true,false,false,false,false,false,false]
theorem mG:AW.nH cO []=true:=by kernel_rfl
def Gz:eD:=⟨3,[⟨[6],false,[]⟩,⟨[5,6],false,[]⟩,⟨[5],false,[]⟩,⟨[],false,[]⟩],[]⟩
theorem DG:di cO [] 3=Gz:=(AW.DC kL mG 3).trans (by kernel_rfl)
end PW
end Go.Proofs.YtnegbdpggideiaaGreatDoor
namespace Go.Proofs.YtnegbdpggideiaaGreatDoor
namespace PW
open Go.RowKit cH Mem Net ft
namespace AW
def Fi(T:an)(own:List Bool)(n d:Int)(a:Nat):List Bool:=
 if FT T (orM T (bz T (jZ T a d).1 (jZ T a d).2) own) n d=0 then orM T (bz T (jZ T a d).1 (jZ T a d).2) own else own
def HG(T:an)(own:List Bool)(n d:Nat):ij:=match fL own (kO T [] n d)with
 |none=>⟨kO T [] n d,false,[]⟩
 |some a=>Hh T (Fi T own n d a.toNat) n d
def HL(T:an)(own:List Bool)(n d:Nat):Bool:=match fL own (kO T [] n d)with
 |none=>true
 |some a=>nH T (bz T 3 (fN T a.toNat))&&nH T (bz T 2 (bb T a.toNat))&&nH T (orM T (bz T (jZ T a.toNat d).1 (jZ T a.toNat d).2) own)&&nH T (Fi T own n d a.toNat)
theorem rep{T:an}{own:List Bool}{n d:Nat}(hv:av T=true)(h0:nH T []=true)(hd:(d:Int)<T.nodes)(h:HL T own n d=true):ox T own n d=HG T own n d:=by
 unfold ox HG
 unfold HL at h
 rw[next hv h0 hd]
 cases hh:fL own (kO T [] n d)with
 |none=>rfl
 |some a=>
  rw[hh]at h
  simp only[Bool.and_eq_true]at h
  obtain⟨⟨⟨h1,h2⟩,h3⟩,h4⟩:=h
  have hm:uB T own n d a.toNat=Fi T own n d a.toNat:=by
   unfold uB Fi jj
   rw[JH hv h1 h2,IK hv h3]
   by_cases e:FT T (orM T (bz T (jZ T a.toNat (d:Int)).1 (jZ T a.toNat (d:Int)).2) own) n d=0
   ·rw[if_pos (by simpa using e),if_pos e]
   ·rw[if_neg (by simpa using e),if_neg e]
  simp only[]
  rw[hm,B3 hv h0 h4]
def zM(T:an)(M:List Bool)(n:Nat):eD:=⟨n,(List.range T.nodes.toNat).map fun d=>HG T (jx T M n) n d,cj M (bC T n)⟩
theorem D3{T:an}{M:List Bool}{n:Nat}(hv:av T=true)(h0:nH T []=true)(h:((List.range T.nodes.toNat).all fun d=>HL T (jx T M n) n d)=true):pF T M n=zM T M n:=by
 have hN:=(aQ hv).nodes
 unfold pF zM mT
 congr 1
 refine List.map_congr_left fun d hd=>?_
 have hd':=List.mem_range.1 hd
 exact rep hv h0 (by omega) (List.all_eq_true.1 h d hd)
end AW
def GC:eD:=⟨0,[⟨[],false,[]⟩,⟨[7],true,[⟨1,3⟩,⟨1,2⟩,⟨1,1⟩]⟩,⟨[7],true,[⟨1,3⟩,⟨1,2⟩]⟩,⟨[7],false,[]⟩],[0]⟩
theorem CG:pF cO uf 0=GC:=(AW.D3 kL mG (by kernel_rfl)).trans (by kernel_rfl)
end PW
end Go.Proofs.YtnegbdpggideiaaGreatDoor
namespace Go.Proofs.YtnegbdpggideiaaGreatDoor
namespace PW
open Go.RowKit cH Mem Net Go.WideShapes
structure Ez where
 T:an
 k:Int
 x:Int
 S:List Int
 n:Int
 d:Int
def Fc(c:Ez):List PV:=bn c.T++[num c.k,num c.x,aw c.S,num c.n,num c.d]
def BR(c:Ez):PV:=.agg (Fc c)
instance (c:Ez):aL (Fc c):=by unfold Fc;unfold bn;simp only[List.cons_append,List.nil_append];infer_instance
instance (c:Ez):IsPure (BR c):=by unfold BR;infer_instance
section
variable {H:Type} {enc:TypeId×Value→H} {W:World}
theorem FR{n:Nat}{cs:List Value}{y:DataW H×List MemPlace}(h:DataW.trod enc Tryz.prog W 0 (fun _=>true) true n 33 cs=some y)(hl:cs.length=2):∃k x:Int,cs=[.int .i64 k,.int .i64 x]:=by
 have c3:Tryz.prog.cellsOf 3=1:=by kernel_rfl
 obtain⟨xs,m,_,_,_,hlen,hf⟩:=DataW.trod_struct Tryz.underlying33 h
 match cs,hl with
 | [c0,c1],_=>
  match xs,hlen with
  | [y0,y1],_=>
   have f0:DataW.trod enc Tryz.prog W 0 (fun _=>true) true m 3 (([c0,c1].drop 0).take (Tryz.prog.cellsOf 3))=some y0:=hf 0 _ rfl
   rw[c3]at f0
   have f1:DataW.trod enc Tryz.prog W 0 (fun _=>true) true m 3 (([c0,c1].drop 1).take (Tryz.prog.cellsOf 3))=some y1:=hf 1 _ rfl
   rw[c3]at f1
   obtain⟨a0,h0⟩:=gO f0
   obtain⟨a1,h1⟩:=gO f1
   simp at h0 h1
   subst h0 h1
   exact⟨a0,a1,rfl⟩
theorem HA{base:Nat}{v:Value}{d:DataW H}{p:List MemPlace}(hv:Value.okWide Tryz.prog W .any base 50 v)(h:DataW.Trod enc Tryz.prog W 0 (fun _=>true) true 50 v d p):∃c:Ez,cD EN W v (BR c):=by
 have hC:Tryz.prog.cellsOf 50=8:=by kernel_rfl
 have k_topo:Tryz.prog.cellsOf 25=3:=by kernel_rfl
 have k_comp:Tryz.prog.cellsOf 33=2:=by kernel_rfl
 have k_ints:Tryz.prog.cellsOf 37=1:=by kernel_rfl
 have k_int:Tryz.prog.cellsOf 3=1:=by kernel_rfl
 obtain⟨cs,rfl,hsz⟩:=okWide_struct Tryz.underlying50 hv
 rw[hC]at hsz
 obtain⟨fuel,hf⟩:=h
 obtain⟨cl⟩:=cs
 match cl,hsz with
 | [c0,c1,c2,c3,c4,c5,c6,c7],_=>
  obtain⟨xs,m,_,_,_,hlen,hg⟩:=DataW.trod_struct Tryz.underlying50 hf
  match xs,hlen with
  | [y0,y1,y2,y3,y4],_=>
   have f0:DataW.trod enc Tryz.prog W 0 (fun _=>true) true m 25 (([c0,c1,c2,c3,c4,c5,c6,c7].drop 0).take (Tryz.prog.cellsOf 25))=some y0:=hg 0 _ rfl
   rw[k_topo]at f0
   have f1:DataW.trod enc Tryz.prog W 0 (fun _=>true) true m 33 (([c0,c1,c2,c3,c4,c5,c6,c7].drop 3).take (Tryz.prog.cellsOf 33))=some y1:=hg 1 _ rfl
   rw[k_comp]at f1
   have f2:DataW.trod enc Tryz.prog W 0 (fun _=>true) true m 37 (([c0,c1,c2,c3,c4,c5,c6,c7].drop 5).take (Tryz.prog.cellsOf 37))=some y2:=hg 2 _ rfl
   rw[k_ints]at f2
   have f3:DataW.trod enc Tryz.prog W 0 (fun _=>true) true m 3 (([c0,c1,c2,c3,c4,c5,c6,c7].drop 6).take (Tryz.prog.cellsOf 3))=some y3:=hg 3 _ rfl
   rw[k_int]at f3
   have f4:DataW.trod enc Tryz.prog W 0 (fun _=>true) true m 3 (([c0,c1,c2,c3,c4,c5,c6,c7].drop 7).take (Tryz.prog.cellsOf 3))=some y4:=hg 4 _ rfl
   rw[k_int]at f4
   obtain⟨T,hT⟩:=C6 f0 rfl
   obtain⟨k,x,hkx⟩:=FR f1 rfl
   simp only[List.drop,List.take,List.cons.injEq,and_true]at hkx
   obtain⟨rfl,rfl⟩:=hkx
   obtain⟨L2,hL2⟩:=Ec f2
   obtain⟨n3,hn3⟩:=gO f3
   simp at hn3
   subst hn3
   obtain⟨n4,hn4⟩:=gO f4
   simp at hn4
   subst hn4
   have hall:aZ EN W [c0,c1,c2,.int .i64 k,.int .i64 x,c5,.int .i64 n3,.int .i64 n4] (Fc ⟨T,k,x,L2,n3,n4⟩):=hT.append (aZ.cons (.raw _)<|aZ.cons (.raw _)<|aZ.cons (hL2)<|aZ.cons (.raw _)<|aZ.cons (.raw _)<|(aZ.nil _ _))
   exact⟨⟨T,k,x,L2,n3,n4⟩,.agg _ _ (by simpa using hall.1) (fun i x u h1 h2=>hall.2 i x u (by simpa using h1) h2)⟩
end
end PW
end Go.Proofs.YtnegbdpggideiaaGreatDoor
namespace Go.Proofs.YtnegbdpggideiaaGreatDoor
namespace PW
open Go.RowKit cH Mem Net ft
def tooBig(T:an):Bool:=decide ((10:Int)<T.nodes)||decide ((16:Int)<T.ag.length)
theorem FF{T:an}(h:tooBig T=false):T.nodes≤12∧T.ag.length≤16:=by
 unfold tooBig at h
 simp only[Bool.or_eq_false_iff,decide_eq_false_iff_not]at h
 omega
theorem AH(L:List Int):Can Tryz.prog 35 [aw L,aw L] (· =flag true):=by
 have h:=lU L L
 rw[show je L L=true from decide_eq_true rfl]at h
 exact h
theorem Cl(x:eD):Can Tryz.prog 28 [dx x,dx x] (· =flag true):=by
 have h:=CE x x
 rw[decide_eq_true rfl]at h
 exact h
end PW
end Go.Proofs.YtnegbdpggideiaaGreatDoor
