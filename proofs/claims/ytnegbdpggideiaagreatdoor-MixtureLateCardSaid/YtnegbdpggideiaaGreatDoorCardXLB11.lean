/- Texts of the proof, part 11. -/
import Derived.RangeFuncBox
import Derived.Test.YtnegbdpggideiaaGreatDoorCardXLB10
set_option linter.unusedVariables false
set_option linter.unusedSimpArgs false
set_option maxRecDepth 10000
set_option maxHeartbeats 1000000
namespace Go.Proofs.YtnegbdpggideiaaGreatDoor
namespace PW
section
open Go.RowKit cE Mem Net eY
theorem BP{P:Program}{N L:Nat}{id:Nat}{l:List Oper}{y:Code}{st:St}{Q:Exit→St→Prop}(t':cg)(σ':cc)(t'':cg)(σ'':cc)(hm:P.follows .mixedOrders=true)(h:WA P N L l.toArray l.length (Array.replicate l.length false) st (fun s=>(s.σ=σ'∧Sub s.t t')∨(s.σ=σ''∧Sub s.t t'')))(hr:W P N L y ⟨t',σ'⟩ Q→W P N L y ⟨t'',σ''⟩ Q)(hq:W P N L y ⟨t',σ'⟩ Q):W P N L (.seq (.region id l.toArray true) y) st Q:=
 oZ hm (h.mono fun s hs=>by
  obtain⟨t,σ⟩:=s
  rcases hs with⟨h1,h2⟩|⟨h1,h2⟩
  ·subst h1;exact lB h2 hq
  ·subst h1;exact lB h2 (hr hq))
theorem yu(T:an)(k x:Int):bW T (iO T k x)=true:=by
 unfold iO
 split
 ·exact dt T k x
 ·exact kD T
theorem EY(T:an)(k x:Int)(n:Nat)(hv:aq T=true)(hn:(n:Int)<T.nodes):Can Tryz.prog 179 ([cq k x]++[.bc (bC T) 0,.bc [num n] 0]) (· =au (bH T (iO T k x) n true)):=by
 have hmk:=mj T k x
 unfold jY at hmk
 have hfr:=DJ T (iO T k x) n
 have hch:cN T (iO T k x) [(n:Int)]=0:=by
  unfold cN
  rw[hv,yu]
  simp[aT.2 (show 0≤(n:Int)∧(n:Int)<T.nodes by omega)]
 rw[hch]at hfr
 unfold ei at hfr
 rw[if_pos rfl,Int.toNat_natCast]at hfr
 exact aI Tryz.func179 I Tryz.ntmps179 I<|ab (.a 2 I<|.k [1,2,3] I)<|ab (.a 2 I<|.c rfl (hmk) I<|.a 5 I<|.k [1,2,5] I)<|ab (.a 3 I<|.c rfl (hfr) I<|.a 5 I<|.k [7] I)<|ab (.a 2 I<|.k [4] I)<|ao<|⟨_,_,az.of I,ay.pure,rfl⟩
theorem DH(g:Int)(L:List Int)(d:Nat)(c2:Bool)(hL:0<g→d<L.length∧decide (0≤L.getD d 0)=c2):Can Tryz.prog 181 ([num d]++[.bc (cG 3 g) 0,.bc [au L] 0]) (· = .tuple [cq 3 g,flag (decide (0<g)&&c2)]):=by
 obtain⟨c1,hc1⟩:∃q,decide (0<g)=q:=⟨_,rfl⟩
 rw[hc1]
 refine aI Tryz.func181 I Tryz.ntmps181 I<|aP<|av 2 I<|aG [0,1,2,4] I ?_
 refine uO (Q1:=fun st=>st=⟨[(4,.ptr 0 0),(5,flag (c1&&c2))],[some (.cells 33 (cG 3 g))]⟩) ?_ ?_
 ·cases c1
  ·refine ua 20 1 ([some (.cells 33 [num 0,num 0])]::[some (.cells 33 (cG 3 g))]::[]) (⟨_,none,0,0⟩::⟨_,none,0,0⟩::⟨_,none,0,0⟩::⟨_,none,0,0⟩::⟨_,none,0,0⟩::⟨_,none,0,1⟩::⟨_,none,0,1⟩::⟨_,none,0,1⟩::⟨_,none,0,1⟩::⟨_,none,0,1⟩::⟨_,none,0,1⟩::⟨_,some 0,0,0⟩::⟨_,none,1,1⟩::[]) _ mixed ?grd1 rfl rfl rfl rfl (.cons (.val [1] I I (yz (bZ (aZ I) df)) I I)<|.cons (.val [1] I I (yz (bZ (aZ I) df)) I I)<|.cons (.val [7] I I (yz (bZ (aZ I) df)) I I)<|.cons (.val [8] I I (yz (bZ (cd I (hc1)) df)) I I)<|.cons (.val [9] I I (yz (bZ (aZ I) df)) I I)<|.cons (.skip rfl rfl rfl)<|.cons (.skip rfl rfl rfl)<|.cons (.skip rfl rfl rfl)<|.cons (.skip rfl rfl rfl)<|.cons (.skip rfl rfl rfl)<|.cons (.val [10,15] I I (yz (bZ (aZ I) (bZ (aZ I) df))) I I)<|.cons (.lC [4,6] I I I I (eu I) I)<|.cons (.val [16] I I (yz (bZ (aZ I) df)) I I) .nil) (aY (ks:=[4,5]) I) ?_
   case grd1=>kernel_rfl
   rfl
  ·refine ua 20 1 ([some (.cells 33 [num 0,num 0])]::[some (.cells 33 (cG 3 g))]::[]) (⟨_,none,0,0⟩::⟨_,none,0,0⟩::⟨_,none,0,0⟩::⟨_,none,0,0⟩::⟨_,none,0,0⟩::⟨_,none,0,1⟩::⟨_,none,0,1⟩::⟨_,none,0,1⟩::⟨_,none,0,1⟩::⟨_,none,0,1⟩::⟨_,none,0,1⟩::⟨_,some 0,0,0⟩::⟨_,none,1,1⟩::[]) _ mixed ?grd2 rfl rfl rfl rfl (.cons (.val [1] I I (yz (bZ (aZ I) df)) I I)<|.cons (.val [1] I I (yz (bZ (aZ I) df)) I I)<|.cons (.val [7] I I (yz (bZ (aZ I) df)) I I)<|.cons (.val [8] I I (yz (bZ (cd I (hc1)) df)) I I)<|.cons (.val [9] I I (yz (bZ (aZ I) df)) I I)<|.cons (.val [2] I I (yz (bZ (aZ I) (bZ (aZ I) df))) I I)<|.cons (.val [0] I I (yz (bZ (aZ I) (bZ (aZ I) df))) I I)<|.cons (.val [11,12] I I (yz (bZ (aM (d) I (by omega) (by have:=(hL (tt hc1)).1;omega)) (bZ (aM (d) I (by omega) (by have:=(hL (tt hc1)).1;omega)) df))) I I)<|.cons (.val [13] I I (yz (bZ (aJ I (aB L d (hL (tt hc1)).1)) (bZ (aJ I (aB L d (hL (tt hc1)).1)) df))) I I)<|.cons (.val [14] I I (yz (bZ (cd I ((hL (tt hc1)).2)) (bZ (cd I ((hL (tt hc1)).2)) df))) I I)<|.cons (.val [10,15] I I (yz (bZ (aZ I) (bZ (aZ I) df))) I I)<|.cons (.lC [4,6] I I I I (eu I) I)<|.cons (.val [16] I I (yz (bZ (aZ I) df)) I I) .nil) (aY (ks:=[4,5]) I) ?_
   case grd2=>kernel_rfl
   rfl
 rintro _ rfl
 exact ao<|⟨_,_,az.of I,ay.pure (p:=.tuple [cq 3 g,flag (c1&&c2)]),rfl⟩
theorem Dn(h:Int)(L:List Int)(d:Nat)(c2:Bool)(hd:d<L.length)(hL:decide (0≤L.getD d 0)=c2):Can Tryz.prog 182 ([num d]++[.bc (cG 2 h) 0,.bc [num h] 0,.bc [au L] 0]) (· = .tuple [cq 2 h,flag (decide (h≠d)&&c2)]):=by
 obtain⟨c1,hc1⟩:∃q,decide ((d:Int)≠h)=q:=⟨_,rfl⟩
 have hc1':decide (h≠(d:Int))=c1:=by rw[←hc1];exact decide_eq_decide.2 ⟨fun e=>e.symm,fun e=>e.symm⟩
 rw[hc1']
 refine aI Tryz.func182 I Tryz.ntmps182 I<|aP<|av 2 I<|aG [0,1,2,3,5] I ?_
 refine uO (Q1:=fun st=>st=⟨[(5,.ptr 0 0),(6,flag (c1&&c2))],[some (.cells 33 (cG 2 h))]⟩) ?_ ?_
 ·cases c1
  ·refine ua 20 1 ([some (.cells 33 [num 0,num 0])]::[some (.cells 33 (cG 2 h))]::[]) (⟨_,none,0,0⟩::⟨_,none,0,0⟩::⟨_,none,0,0⟩::⟨_,none,0,0⟩::⟨_,none,0,0⟩::⟨_,none,0,1⟩::⟨_,none,0,1⟩::⟨_,none,0,1⟩::⟨_,none,0,1⟩::⟨_,none,0,1⟩::⟨_,none,0,1⟩::⟨_,some 0,0,0⟩::⟨_,none,1,1⟩::[]) _ mixed ?grd3 rfl rfl rfl rfl (.cons (.val [1] I I (yz (bZ (aZ I) df)) I I)<|.cons (.val [0] I I (yz (bZ (aZ I) df)) I I)<|.cons (.val [2] I I (yz (bZ (aZ I) df)) I I)<|.cons (.val [8,9] I I (yz (bZ (cd I (hc1)) df)) I I)<|.cons (.val [10] I I (yz (bZ (aZ I) df)) I I)<|.cons (.skip rfl rfl rfl)<|.cons (.skip rfl rfl rfl)<|.cons (.skip rfl rfl rfl)<|.cons (.skip rfl rfl rfl)<|.cons (.skip rfl rfl rfl)<|.cons (.val [11,16] I I (yz (bZ (aZ I) (bZ (aZ I) df))) I I)<|.cons (.lC [5,7] I I I I (eu I) I)<|.cons (.val [17] I I (yz (bZ (aZ I) df)) I I) .nil) (aY (ks:=[5,6]) I) ?_
   case grd3=>kernel_rfl
   rfl
  ·refine ua 20 1 ([some (.cells 33 [num 0,num 0])]::[some (.cells 33 (cG 2 h))]::[]) (⟨_,none,0,0⟩::⟨_,none,0,0⟩::⟨_,none,0,0⟩::⟨_,none,0,0⟩::⟨_,none,0,0⟩::⟨_,none,0,1⟩::⟨_,none,0,1⟩::⟨_,none,0,1⟩::⟨_,none,0,1⟩::⟨_,none,0,1⟩::⟨_,none,0,1⟩::⟨_,some 0,0,0⟩::⟨_,none,1,1⟩::[]) _ mixed ?grd4 rfl rfl rfl rfl (.cons (.val [1] I I (yz (bZ (aZ I) df)) I I)<|.cons (.val [0] I I (yz (bZ (aZ I) df)) I I)<|.cons (.val [2] I I (yz (bZ (aZ I) df)) I I)<|.cons (.val [8,9] I I (yz (bZ (cd I (hc1)) df)) I I)<|.cons (.val [10] I I (yz (bZ (aZ I) df)) I I)<|.cons (.val [3] I I (yz (bZ (aZ I) (bZ (aZ I) df))) I I)<|.cons (.val [0] I I (yz (bZ (aZ I) (bZ (aZ I) df))) I I)<|.cons (.val [12,13] I I (yz (bZ (aM (d) I) (bZ (aM (d) I) df))) I I)<|.cons (.val [14] I I (yz (bZ (aJ I (aB L d hd)) (bZ (aJ I (aB L d hd)) df))) I I)<|.cons (.val [15] I I (yz (bZ (cd I (hL)) (bZ (cd I (hL)) df))) I I)<|.cons (.val [11,16] I I (yz (bZ (aZ I) (bZ (aZ I) df))) I I)<|.cons (.lC [5,7] I I I I (eu I) I)<|.cons (.val [17] I I (yz (bZ (aZ I) df)) I I) .nil) (aY (ks:=[5,6]) I) ?_
   case grd4=>kernel_rfl
   rfl
 rintro _ rfl
 exact ao<|⟨_,_,az.of I,ay.pure (p:=.tuple [cq 2 h,flag (c1&&c2)]),rfl⟩
def F2(g:Int)(L:List Int):PV:=.func 181 [.bc (cG 3 g) 0,.bc [au L] 0]
def F3(h:Int)(L:List Int):PV:=.func 182 [.bc (cG 2 h) 0,.bc [num h] 0,.bc [au L] 0]
def kJ(g h k:Int)(L M:List Int):List PV:=[.bc [.slice 2 [F2 g L,F3 h M]] 0,.bc (cG 1 k) 0]
instance (g:Int) (L:List Int):IsPure (F2 g L):=by unfold F2;infer_instance
instance (g:Int) (L:List Int):IsPure (F3 g L):=by unfold F3;infer_instance
instance (g h k:Int) (L M:List Int):aL (kJ g h k L M):=by unfold kJ;infer_instance
theorem EE(g h k:Int)(L M:List Int)(d:Nat)(c2 c4:Bool)(hL:0<g→d<L.length∧decide (0≤L.getD d 0)=c2)(hd:d<M.length)(hM:decide (0≤M.getD d 0)=c4):Can Tryz.prog 183 ([num d]++kJ g h k L M) (· =if(decide (0<g)&&c2)=true then cq 3 g else if(decide (h≠d)&&c4)=true then cq 2 h else cq 1 k):=by
 have h2:=DH g L d c2 hL
 have h3:=Dn h M d c4 hd hM
 obtain⟨o1,ho1⟩:∃o,(decide (0<g)&&c2)=o:=⟨_,rfl⟩
 obtain⟨o2,ho2⟩:∃o,(decide (h≠(d:Int))&&c4)=o:=⟨_,rfl⟩
 rw[ho1]at h2 ⊢
 rw[ho2]at h3 ⊢
 have hrule:∀i,i<2→∃f cap,[F2 g L,F3 h M][i]? =some (.func f cap)∧enters Tryz.prog f=true∧aL ([num d]++cap)∧Can Tryz.prog f ([num d]++cap) (· = .tuple [if i=0 then cq 3 g else cq 2 h,flag (if i=0 then o1 else o2)]):=fun i hi=>by
  match i,hi with
  |0,_=>exact⟨_,_,rfl,by kernel_rfl,inferInstance,h2⟩
  |1,_=>exact⟨_,_,rfl,by kernel_rfl,inferInstance,h3⟩
 unfold kJ
 refine aI Tryz.func183 I Tryz.ntmps183 I<|aP<|av 1 I<|aG [0,1,2,4] I ?_
 refine aj<|ab (.a 3 I<|.k [0,2,4,9,10,11] I)<|aw<|eS [0,2,4,9,10,11] I<|bu (fun r s=>∃i,i≤2∧r=2 - i∧(1≤i→o1=false)∧(i=2→o2=false)∧s=⟨[(0,num d),(2,.bc (cG 1 k) 0),(4,.ptr 0 0),(9,.slice 2 [F2 g L,F3 h M]),(10,num 2),(11,num i)],[some (.cells 33 [num 0,num 0])]⟩) 2 ⟨0,by omega,by omega,fun h=>by omega,fun h=>by omega,rfl⟩ ?_
 rintro r s ⟨i,hi,rfl,hi1,hi2,rfl⟩
 refine ab (.a 1 I<|.k [0,2,4,9,10,11,12] I)<|aj<|ah I (fun h1=>?_) (fun h1=>?_)
 ·have hlt:i<2:=by have:=tt h1;omega
  obtain⟨f,cap,hf,hen,hpu,hcan⟩:=hrule i hlt
  obtain⟨kx,kn,hkx⟩:∃kx kn,(if i=0 then cq 3 g else cq 2 h)=cq kx kn:=by
   split
   ·exact⟨_,_,rfl⟩
   ·exact⟨_,_,rfl⟩
  obtain⟨o,ho⟩:∃o,(if i=0 then o1 else o2)=o:=⟨_,rfl⟩
  rw[ho,hkx]at hcan
  haveI:=hpu
  refine ai<|aj<|aw<|ab (.v (aM (i) I) I<|.v (aJ I (hf)) I<|.a 1 I<|.k [0,2,4,6,9,10,11] I)<|aP<|av 2 I<|bw (qJ I hen rfl rfl hcan) I<|av 6 I<|aG [0,2,4,7,8,9,10,11] I ?_
  refine ab (.a 1 I<|.k [0,2,4,7,9,10,11,21] I)<|ah I (fun h2=>?_) (fun h2=>?_)
  ·subst h2
   refine aP<|av 2 I<|aG [4] I ?_
   refine ao<|⟨_,_,az.of I,ay.pure (p:=cq kx kn),?_⟩
   rw[←hkx]
   by_cases e:i=0
   ·rw[if_pos e]at ho ⊢
    rw[if_pos ho]
   ·rw[if_neg e]at ho ⊢
    rw[if_neg (by rw[hi1 (by omega)];simp),if_pos ho]
  ·subst h2
   refine ai<|dI [0] (.c 0<|.c 2<|.c 4<|.c 9<|.c 10<|.c 11<|.nil) (.kept rfl (.cells aH.pure)<|.nil) I I ?_
   refine aC (.v (aV I) I<|.a 1 I<|.k [0,2,4,9,10,11] I) ?_
   refine⟨2 - (i+1),by omega,i+1,by omega,rfl,fun _=>?_,fun e=>?_,rfl⟩
   ·by_cases e:i=0
    ·rw[if_pos e]at ho;exact ho
    ·exact hi1 (by omega)
   ·rw[if_neg (by omega)]at ho;exact ho
 ·have hie:i=2:=by have:=ff h1;omega
  subst hie
  rw[if_neg (by rw[hi1 (by omega)];simp),if_neg (by rw[hi2 rfl];simp)]
  refine bh<|aP<|av 2 I<|aG [4] I ?_
  exact ao<|⟨_,_,az.of I,ay.pure (p:=cq 1 k),rfl⟩
noncomputable def H5(T:an)(a:Nat):List Int:=if 0<gA T a then bH T (iO T 3 (gA T a)) (br T a).toNat true else []
noncomputable def Ir(T:an)(a:Nat):List Int:=bH T (iO T 2 (aS T a)) (br T a).toNat true
set_option maxHeartbeats 4000000 in
theorem za(T:an)(a:Nat)(hv:aq T=true)(ha:a<2*T.ag.length):Can Tryz.prog 155 [aN T,num a] (· = .func 183 (kJ (gA T a) (aS T a) ((a / 2:Nat):Int) (H5 T a) (Ir T a))):=by
 have hll:=bV hv
 have hi:a / 2<T.ag.length:=by omega
 have hS:=aO hv
 have htl:=jq T a ha
 have hhd:=fZ T a ha (by omega)
 obtain⟨n,hn⟩:=Int.eq_ofNat_of_zero_le (hS.tail a ha).1
 have hnN:(n:Int)<T.nodes:=by rw[←hn];exact(hS.tail a ha).2
 have hL:H5 T a=if 0<gA T a then bH T (iO T 3 (gA T a)) n true else []:=by unfold H5;rw[hn,Int.toNat_natCast]
 have hM:Ir T a=bH T (iO T 2 (aS T a)) n true:=by unfold Ir;rw[hn,Int.toNat_natCast]
 rw[hn]at htl
 obtain⟨h,hh⟩:∃h,aS T a=h:=⟨_,rfl⟩
 obtain⟨g,hg⟩:∃g,gA T a=g:=⟨_,rfl⟩
 have hgl:(cC T.ag (a / 2)).vF=g:=hg
 rw[hh]at hhd hM
 rw[hg]at hL
 rw[hL,hM,hh,hg]
 have h1:=fun k x=>EY T k x n hv hnN
 obtain⟨c1,hc1⟩:∃q,decide (0<g)=q:=⟨_,rfl⟩
 refine aI Tryz.func155 I Tryz.ntmps155 I<|ab (.a 2 I<|.k [1,2] I)<|BP ([(1,num a),(2,.bc (bC T) 0),(5,.ptr 0 0),(6,.ptr 1 0)]) ([some (.cells 3 [num n]),some (.cells 3 [num h])]) ([(1,num a),(2,.bc (bC T) 0),(5,.ptr 1 0),(6,.ptr 0 0)]) ([some (.cells 3 [num h]),some (.cells 3 [num n])]) mixed ?_ (fun hh=>dI [1,0] (.c 1<|.c 2<|.c 5<|.c 6<|.nil) (.kept rfl (.cells aH.pure)<|.kept rfl (.cells aH.pure)<|.nil) I I hh) ?_
 ·refine uF [[(1,num a),(2,.bc (bC T) 0),(14,aN T),(15,num a),(16,num n),(17,aN T),(18,num a),(19,num h)],[(1,num a),(2,.bc (bC T) 0),(5,.ptr 0 0),(14,aN T),(15,num a),(16,num n),(17,aN T),(18,num a),(19,num h)],[(1,num a),(2,.bc (bC T) 0),(6,.ptr 0 0),(14,aN T),(15,num a),(16,num n),(17,aN T),(18,num a),(19,num h)],[(1,num a),(2,.bc (bC T) 0),(5,.ptr 0 0),(6,.ptr 1 0),(14,aN T),(15,num a),(16,num n),(17,aN T),(18,num a),(19,num h)],[(1,num a),(2,.bc (bC T) 0),(5,.ptr 1 0),(6,.ptr 0 0),(14,aN T),(15,num a),(16,num n),(17,aN T),(18,num a),(19,num h)]] [[],[some (.cells 3 [num n]),some (.cells 3 [num h])],[some (.cells 3 [num n]),some (.cells 3 [num 0])],[some (.cells 3 [num 0]),some (.cells 3 [num 0])],[some (.cells 3 [num 0])],[some (.cells 3 [num h]),some (.cells 3 [num n])],[some (.cells 3 [num 0]),some (.cells 3 [num n])]] [1,2] I (by kernel_rfl) (fun M hi ho=>?_)
  have μ0:M 0 1023 3 [1,2,5,6] 1:=hi<|rY I (by kernel_rfl) (.inl ⟨rfl,aY (ks:=[1,2,5,6]) I⟩)
  have μ1:M 1 511 3 [1,2,5,6,19] 2:=hi<|aa [(9,1023)] I<|o5 I I (eu I) I I (ho μ0) I I ae
  have μ2:M 2 255 3 [1,2,5,6,16,19] 3:=hi<|aa [(8,511)] I<|o5 I I (eu I) I I (ho μ1) I I ae
  have μ3:M 3 127 1 [1,2,5,16,19] 4:=hi<|aa [(7,255)] I<|cf I I (eu I) I (ho μ2) I I ae
  have μ4:M 0 1023 4 [1,2,5,6] 5:=hi<|rY I (by kernel_rfl) (.inr ⟨rfl,aY (ks:=[1,2,5,6]) I⟩)
  have μ5:M 1 511 4 [1,2,5,6,19] 6:=hi<|aa [(9,1023)] I<|o5 I I (eu I) I I (ho μ4) I I ae
  have μ6:M 2 255 4 [1,2,5,6,16,19] 3:=hi<|aa [(8,511)] I<|o5 I I (eu I) I I (ho μ5) I I ae
  have μ7:M 3 191 2 [1,2,6,16,19] 4:=hi<|aa [(6,255)] I<|cf I I (eu I) I (ho μ6) I I ae
  have μ8:M 4 63 0 [1,2,16,19] 0:=hi<|aa [(6,127),(7,191)] I<|cf I I (eu I) I (ho μ3) I I<|cf I I (eu I) I (ho μ7) I I ae
  have μ9:M 3 223 3 [1,2,5,6,16,17,18] 3:=hi<|aa [(5,255)] I<|bx I I (dX I (hhd)) I (ho μ2) I I ae
  have μ10:M 4 95 1 [1,2,5,16,17,18] 4:=hi<|aa [(5,127),(7,223)] I<|bx I I (dX I (hhd)) I (ho μ3) I I<|cf I I (eu I) I (ho μ9) I I ae
  have μ11:M 3 223 4 [1,2,5,6,16,17,18] 3:=hi<|aa [(5,255)] I<|bx I I (dX I (hhd)) I (ho μ6) I I ae
  have μ12:M 4 159 2 [1,2,6,16,17,18] 4:=hi<|aa [(5,191),(6,223)] I<|bx I I (dX I (hhd)) I (ho μ7) I I<|cf I I (eu I) I (ho μ11) I I ae
  have μ13:M 5 31 0 [1,2,16,17,18] 0:=hi<|aa [(5,63),(6,95),(7,159)] I<|bx I I (dX I (hhd)) I (ho μ8) I I<|cf I I (eu I) I (ho μ10) I I<|cf I I (eu I) I (ho μ12) I I ae
  have μ14:M 4 207 3 [1,2,5,6,16,17] 3:=hi<|aa [(4,223)] I<|ak (ho μ9) I I ae
  have μ15:M 5 79 1 [1,2,5,16,17] 4:=hi<|aa [(4,95),(7,207)] I<|ak (ho μ10) I I<|cf I I (eu I) I (ho μ14) I I ae
  have μ16:M 4 207 4 [1,2,5,6,16,17] 3:=hi<|aa [(4,223)] I<|ak (ho μ11) I I ae
  have μ17:M 5 143 2 [1,2,6,16,17] 4:=hi<|aa [(4,159),(6,207)] I<|ak (ho μ12) I I<|cf I I (eu I) I (ho μ16) I I ae
  have μ18:M 6 15 0 [1,2,16,17] 0:=hi<|aa [(4,31),(6,79),(7,143)] I<|ak (ho μ13) I I<|cf I I (eu I) I (ho μ15) I I<|cf I I (eu I) I (ho μ17) I I ae
  have μ19:M 4 215 3 [1,2,5,6,16,18] 3:=hi<|aa [(3,223)] I<|ak (ho μ9) I I ae
  have μ20:M 5 87 1 [1,2,5,16,18] 4:=hi<|aa [(3,95),(7,215)] I<|ak (ho μ10) I I<|cf I I (eu I) I (ho μ19) I I ae
  have μ21:M 4 215 4 [1,2,5,6,16,18] 3:=hi<|aa [(3,223)] I<|ak (ho μ11) I I ae
  have μ22:M 5 151 2 [1,2,6,16,18] 4:=hi<|aa [(3,159),(6,215)] I<|ak (ho μ12) I I<|cf I I (eu I) I (ho μ21) I I ae
  have μ23:M 6 23 0 [1,2,16,18] 0:=hi<|aa [(3,31),(6,87),(7,151)] I<|ak (ho μ13) I I<|cf I I (eu I) I (ho μ20) I I<|cf I I (eu I) I (ho μ22) I I ae
  have μ24:M 5 199 3 [1,2,5,6,16] 3:=hi<|aa [(3,207),(4,215)] I<|ak (ho μ14) I I<|ak (ho μ19) I I ae
  have μ25:M 6 71 1 [1,2,5,16] 4:=hi<|aa [(3,79),(4,87),(7,199)] I<|ak (ho μ15) I I<|ak (ho μ20) I I<|cf I I (eu I) I (ho μ24) I I ae
  have μ26:M 5 199 4 [1,2,5,6,16] 3:=hi<|aa [(3,207),(4,215)] I<|ak (ho μ16) I I<|ak (ho μ21) I I ae
  have μ27:M 6 135 2 [1,2,6,16] 4:=hi<|aa [(3,143),(4,151),(6,199)] I<|ak (ho μ17) I I<|ak (ho μ22) I I<|cf I I (eu I) I (ho μ26) I I ae
  have μ28:M 7 7 0 [1,2,16] 0:=hi<|aa [(3,15),(4,23),(6,71),(7,135)] I<|ak (ho μ18) I I<|ak (ho μ23) I I<|cf I I (eu I) I (ho μ25) I I<|cf I I (eu I) I (ho μ27) I I ae
  have μ29:M 4 219 3 [1,2,5,6,14,15,17,18] 3:=hi<|aa [(2,223)] I<|bx I I (dX I (htl)) I (ho μ9) I I ae
  have μ30:M 5 91 1 [1,2,5,14,15,17,18] 4:=hi<|aa [(2,95),(7,219)] I<|bx I I (dX I (htl)) I (ho μ10) I I<|cf I I (eu I) I (ho μ29) I I ae
  have μ31:M 4 219 4 [1,2,5,6,14,15,17,18] 3:=hi<|aa [(2,223)] I<|bx I I (dX I (htl)) I (ho μ11) I I ae
  have μ32:M 5 155 2 [1,2,6,14,15,17,18] 4:=hi<|aa [(2,159),(6,219)] I<|bx I I (dX I (htl)) I (ho μ12) I I<|cf I I (eu I) I (ho μ31) I I ae
  have μ33:M 6 27 0 [1,2,14,15,17,18] 0:=hi<|aa [(2,31),(6,91),(7,155)] I<|bx I I (dX I (htl)) I (ho μ13) I I<|cf I I (eu I) I (ho μ30) I I<|cf I I (eu I) I (ho μ32) I I ae
  have μ34:M 5 203 3 [1,2,5,6,14,15,17] 3:=hi<|aa [(2,207),(4,219)] I<|bx I I (dX I (htl)) I (ho μ14) I I<|ak (ho μ29) I I ae
  have μ35:M 6 75 1 [1,2,5,14,15,17] 4:=hi<|aa [(2,79),(4,91),(7,203)] I<|bx I I (dX I (htl)) I (ho μ15) I I<|ak (ho μ30) I I<|cf I I (eu I) I (ho μ34) I I ae
  have μ36:M 5 203 4 [1,2,5,6,14,15,17] 3:=hi<|aa [(2,207),(4,219)] I<|bx I I (dX I (htl)) I (ho μ16) I I<|ak (ho μ31) I I ae
  have μ37:M 6 139 2 [1,2,6,14,15,17] 4:=hi<|aa [(2,143),(4,155),(6,203)] I<|bx I I (dX I (htl)) I (ho μ17) I I<|ak (ho μ32) I I<|cf I I (eu I) I (ho μ36) I I ae
  have μ38:M 7 11 0 [1,2,14,15,17] 0:=hi<|aa [(2,15),(4,27),(6,75),(7,139)] I<|bx I I (dX I (htl)) I (ho μ18) I I<|ak (ho μ33) I I<|cf I I (eu I) I (ho μ35) I I<|cf I I (eu I) I (ho μ37) I I ae
  have μ39:M 5 211 3 [1,2,5,6,14,15,18] 3:=hi<|aa [(2,215),(3,219)] I<|bx I I (dX I (htl)) I (ho μ19) I I<|ak (ho μ29) I I ae
  have μ40:M 6 83 1 [1,2,5,14,15,18] 4:=hi<|aa [(2,87),(3,91),(7,211)] I<|bx I I (dX I (htl)) I (ho μ20) I I<|ak (ho μ30) I I<|cf I I (eu I) I (ho μ39) I I ae
  have μ41:M 5 211 4 [1,2,5,6,14,15,18] 3:=hi<|aa [(2,215),(3,219)] I<|bx I I (dX I (htl)) I (ho μ21) I I<|ak (ho μ31) I I ae
  have μ42:M 6 147 2 [1,2,6,14,15,18] 4:=hi<|aa [(2,151),(3,155),(6,211)] I<|bx I I (dX I (htl)) I (ho μ22) I I<|ak (ho μ32) I I<|cf I I (eu I) I (ho μ41) I I ae
  have μ43:M 7 19 0 [1,2,14,15,18] 0:=hi<|aa [(2,23),(3,27),(6,83),(7,147)] I<|bx I I (dX I (htl)) I (ho μ23) I I<|ak (ho μ33) I I<|cf I I (eu I) I (ho μ40) I I<|cf I I (eu I) I (ho μ42) I I ae
  have μ44:M 6 195 3 [1,2,5,6,14,15] 3:=hi<|aa [(2,199),(3,203),(4,211)] I<|bx I I (dX I (htl)) I (ho μ24) I I<|ak (ho μ34) I I<|ak (ho μ39) I I ae
  have μ45:M 7 67 1 [1,2,5,14,15] 4:=hi<|aa [(2,71),(3,75),(4,83),(7,195)] I<|bx I I (dX I (htl)) I (ho μ25) I I<|ak (ho μ35) I I<|ak (ho μ40) I I<|cf I I (eu I) I (ho μ44) I I ae
  have μ46:M 6 195 4 [1,2,5,6,14,15] 3:=hi<|aa [(2,199),(3,203),(4,211)] I<|bx I I (dX I (htl)) I (ho μ26) I I<|ak (ho μ36) I I<|ak (ho μ41) I I ae
  have μ47:M 7 131 2 [1,2,6,14,15] 4:=hi<|aa [(2,135),(3,139),(4,147),(6,195)] I<|bx I I (dX I (htl)) I (ho μ27) I I<|ak (ho μ37) I I<|ak (ho μ42) I I<|cf I I (eu I) I (ho μ46) I I ae
  have μ48:M 8 3 0 [1,2,14,15] 0:=hi<|aa [(2,7),(3,11),(4,19),(6,67),(7,131)] I<|bx I I (dX I (htl)) I (ho μ28) I I<|ak (ho μ38) I I<|ak (ho μ43) I I<|cf I I (eu I) I (ho μ45) I I<|cf I I (eu I) I (ho μ47) I I ae
  have μ49:M 5 217 3 [1,2,5,6,14,17,18] 3:=hi<|aa [(1,219)] I<|ak (ho μ29) I I ae
  have μ50:M 6 89 1 [1,2,5,14,17,18] 4:=hi<|aa [(1,91),(7,217)] I<|ak (ho μ30) I I<|cf I I (eu I) I (ho μ49) I I ae
  have μ51:M 5 217 4 [1,2,5,6,14,17,18] 3:=hi<|aa [(1,219)] I<|ak (ho μ31) I I ae
  have μ52:M 6 153 2 [1,2,6,14,17,18] 4:=hi<|aa [(1,155),(6,217)] I<|ak (ho μ32) I I<|cf I I (eu I) I (ho μ51) I I ae
  have μ53:M 7 25 0 [1,2,14,17,18] 0:=hi<|aa [(1,27),(6,89),(7,153)] I<|ak (ho μ33) I I<|cf I I (eu I) I (ho μ50) I I<|cf I I (eu I) I (ho μ52) I I ae
  have μ54:M 6 201 3 [1,2,5,6,14,17] 3:=hi<|aa [(1,203),(4,217)] I<|ak (ho μ34) I I<|ak (ho μ49) I I ae
  have μ55:M 7 73 1 [1,2,5,14,17] 4:=hi<|aa [(1,75),(4,89),(7,201)] I<|ak (ho μ35) I I<|ak (ho μ50) I I<|cf I I (eu I) I (ho μ54) I I ae
  have μ56:M 6 201 4 [1,2,5,6,14,17] 3:=hi<|aa [(1,203),(4,217)] I<|ak (ho μ36) I I<|ak (ho μ51) I I ae
  have μ57:M 7 137 2 [1,2,6,14,17] 4:=hi<|aa [(1,139),(4,153),(6,201)] I<|ak (ho μ37) I I<|ak (ho μ52) I I<|cf I I (eu I) I (ho μ56) I I ae
  have μ58:M 8 9 0 [1,2,14,17] 0:=hi<|aa [(1,11),(4,25),(6,73),(7,137)] I<|ak (ho μ38) I I<|ak (ho μ53) I I<|cf I I (eu I) I (ho μ55) I I<|cf I I (eu I) I (ho μ57) I I ae
  have μ59:M 6 209 3 [1,2,5,6,14,18] 3:=hi<|aa [(1,211),(3,217)] I<|ak (ho μ39) I I<|ak (ho μ49) I I ae
  have μ60:M 7 81 1 [1,2,5,14,18] 4:=hi<|aa [(1,83),(3,89),(7,209)] I<|ak (ho μ40) I I<|ak (ho μ50) I I<|cf I I (eu I) I (ho μ59) I I ae
  have μ61:M 6 209 4 [1,2,5,6,14,18] 3:=hi<|aa [(1,211),(3,217)] I<|ak (ho μ41) I I<|ak (ho μ51) I I ae
  have μ62:M 7 145 2 [1,2,6,14,18] 4:=hi<|aa [(1,147),(3,153),(6,209)] I<|ak (ho μ42) I I<|ak (ho μ52) I I<|cf I I (eu I) I (ho μ61) I I ae
  have μ63:M 8 17 0 [1,2,14,18] 0:=hi<|aa [(1,19),(3,25),(6,81),(7,145)] I<|ak (ho μ43) I I<|ak (ho μ53) I I<|cf I I (eu I) I (ho μ60) I I<|cf I I (eu I) I (ho μ62) I I ae
  have μ64:M 7 193 3 [1,2,5,6,14] 3:=hi<|aa [(1,195),(3,201),(4,209)] I<|ak (ho μ44) I I<|ak (ho μ54) I I<|ak (ho μ59) I I ae
  have μ65:M 8 65 1 [1,2,5,14] 4:=hi<|aa [(1,67),(3,73),(4,81),(7,193)] I<|ak (ho μ45) I I<|ak (ho μ55) I I<|ak (ho μ60) I I<|cf I I (eu I) I (ho μ64) I I ae
  have μ66:M 7 193 4 [1,2,5,6,14] 3:=hi<|aa [(1,195),(3,201),(4,209)] I<|ak (ho μ46) I I<|ak (ho μ56) I I<|ak (ho μ61) I I ae
  have μ67:M 8 129 2 [1,2,6,14] 4:=hi<|aa [(1,131),(3,137),(4,145),(6,193)] I<|ak (ho μ47) I I<|ak (ho μ57) I I<|ak (ho μ62) I I<|cf I I (eu I) I (ho μ66) I I ae
  have μ68:M 9 1 0 [1,2,14] 0:=hi<|aa [(1,3),(3,9),(4,17),(6,65),(7,129)] I<|ak (ho μ48) I I<|ak (ho μ58) I I<|ak (ho μ63) I I<|cf I I (eu I) I (ho μ65) I I<|cf I I (eu I) I (ho μ67) I I ae
  have μ69:M 5 218 3 [1,2,5,6,15,17,18] 3:=hi<|aa [(0,219)] I<|ak (ho μ29) I I ae
  have μ70:M 6 90 1 [1,2,5,15,17,18] 4:=hi<|aa [(0,91),(7,218)] I<|ak (ho μ30) I I<|cf I I (eu I) I (ho μ69) I I ae
  have μ71:M 5 218 4 [1,2,5,6,15,17,18] 3:=hi<|aa [(0,219)] I<|ak (ho μ31) I I ae
  have μ72:M 6 154 2 [1,2,6,15,17,18] 4:=hi<|aa [(0,155),(6,218)] I<|ak (ho μ32) I I<|cf I I (eu I) I (ho μ71) I I ae
  have μ73:M 7 26 0 [1,2,15,17,18] 0:=hi<|aa [(0,27),(6,90),(7,154)] I<|ak (ho μ33) I I<|cf I I (eu I) I (ho μ70) I I<|cf I I (eu I) I (ho μ72) I I ae
  have μ74:M 6 202 3 [1,2,5,6,15,17] 3:=hi<|aa [(0,203),(4,218)] I<|ak (ho μ34) I I<|ak (ho μ69) I I ae
  have μ75:M 7 74 1 [1,2,5,15,17] 4:=hi<|aa [(0,75),(4,90),(7,202)] I<|ak (ho μ35) I I<|ak (ho μ70) I I<|cf I I (eu I) I (ho μ74) I I ae
  have μ76:M 6 202 4 [1,2,5,6,15,17] 3:=hi<|aa [(0,203),(4,218)] I<|ak (ho μ36) I I<|ak (ho μ71) I I ae
  have μ77:M 7 138 2 [1,2,6,15,17] 4:=hi<|aa [(0,139),(4,154),(6,202)] I<|ak (ho μ37) I I<|ak (ho μ72) I I<|cf I I (eu I) I (ho μ76) I I ae
  have μ78:M 8 10 0 [1,2,15,17] 0:=hi<|aa [(0,11),(4,26),(6,74),(7,138)] I<|ak (ho μ38) I I<|ak (ho μ73) I I<|cf I I (eu I) I (ho μ75) I I<|cf I I (eu I) I (ho μ77) I I ae
  have μ79:M 6 210 3 [1,2,5,6,15,18] 3:=hi<|aa [(0,211),(3,218)] I<|ak (ho μ39) I I<|ak (ho μ69) I I ae
  have μ80:M 7 82 1 [1,2,5,15,18] 4:=hi<|aa [(0,83),(3,90),(7,210)] I<|ak (ho μ40) I I<|ak (ho μ70) I I<|cf I I (eu I) I (ho μ79) I I ae
  have μ81:M 6 210 4 [1,2,5,6,15,18] 3:=hi<|aa [(0,211),(3,218)] I<|ak (ho μ41) I I<|ak (ho μ71) I I ae
  have μ82:M 7 146 2 [1,2,6,15,18] 4:=hi<|aa [(0,147),(3,154),(6,210)] I<|ak (ho μ42) I I<|ak (ho μ72) I I<|cf I I (eu I) I (ho μ81) I I ae
  have μ83:M 8 18 0 [1,2,15,18] 0:=hi<|aa [(0,19),(3,26),(6,82),(7,146)] I<|ak (ho μ43) I I<|ak (ho μ73) I I<|cf I I (eu I) I (ho μ80) I I<|cf I I (eu I) I (ho μ82) I I ae
  have μ84:M 7 194 3 [1,2,5,6,15] 3:=hi<|aa [(0,195),(3,202),(4,210)] I<|ak (ho μ44) I I<|ak (ho μ74) I I<|ak (ho μ79) I I ae
  have μ85:M 8 66 1 [1,2,5,15] 4:=hi<|aa [(0,67),(3,74),(4,82),(7,194)] I<|ak (ho μ45) I I<|ak (ho μ75) I I<|ak (ho μ80) I I<|cf I I (eu I) I (ho μ84) I I ae
  have μ86:M 7 194 4 [1,2,5,6,15] 3:=hi<|aa [(0,195),(3,202),(4,210)] I<|ak (ho μ46) I I<|ak (ho μ76) I I<|ak (ho μ81) I I ae
  have μ87:M 8 130 2 [1,2,6,15] 4:=hi<|aa [(0,131),(3,138),(4,146),(6,194)] I<|ak (ho μ47) I I<|ak (ho μ77) I I<|ak (ho μ82) I I<|cf I I (eu I) I (ho μ86) I I ae
  have μ88:M 9 2 0 [1,2,15] 0:=hi<|aa [(0,3),(3,10),(4,18),(6,66),(7,130)] I<|ak (ho μ48) I I<|ak (ho μ78) I I<|ak (ho μ83) I I<|cf I I (eu I) I (ho μ85) I I<|cf I I (eu I) I (ho μ87) I I ae
  have μ89:M 6 216 3 [1,2,5,6,17,18] 3:=hi<|aa [(0,217),(1,218)] I<|ak (ho μ49) I I<|ak (ho μ69) I I ae
  have μ90:M 7 88 1 [1,2,5,17,18] 4:=hi<|aa [(0,89),(1,90),(7,216)] I<|ak (ho μ50) I I<|ak (ho μ70) I I<|cf I I (eu I) I (ho μ89) I I ae
  have μ91:M 6 216 4 [1,2,5,6,17,18] 3:=hi<|aa [(0,217),(1,218)] I<|ak (ho μ51) I I<|ak (ho μ71) I I ae
  have μ92:M 7 152 2 [1,2,6,17,18] 4:=hi<|aa [(0,153),(1,154),(6,216)] I<|ak (ho μ52) I I<|ak (ho μ72) I I<|cf I I (eu I) I (ho μ91) I I ae
  have μ93:M 8 24 0 [1,2,17,18] 0:=hi<|aa [(0,25),(1,26),(6,88),(7,152)] I<|ak (ho μ53) I I<|ak (ho μ73) I I<|cf I I (eu I) I (ho μ90) I I<|cf I I (eu I) I (ho μ92) I I ae
  have μ94:M 7 200 3 [1,2,5,6,17] 3:=hi<|aa [(0,201),(1,202),(4,216)] I<|ak (ho μ54) I I<|ak (ho μ74) I I<|ak (ho μ89) I I ae
  have μ95:M 8 72 1 [1,2,5,17] 4:=hi<|aa [(0,73),(1,74),(4,88),(7,200)] I<|ak (ho μ55) I I<|ak (ho μ75) I I<|ak (ho μ90) I I<|cf I I (eu I) I (ho μ94) I I ae
  have μ96:M 7 200 4 [1,2,5,6,17] 3:=hi<|aa [(0,201),(1,202),(4,216)] I<|ak (ho μ56) I I<|ak (ho μ76) I I<|ak (ho μ91) I I ae
  have μ97:M 8 136 2 [1,2,6,17] 4:=hi<|aa [(0,137),(1,138),(4,152),(6,200)] I<|ak (ho μ57) I I<|ak (ho μ77) I I<|ak (ho μ92) I I<|cf I I (eu I) I (ho μ96) I I ae
  have μ98:M 9 8 0 [1,2,17] 0:=hi<|aa [(0,9),(1,10),(4,24),(6,72),(7,136)] I<|ak (ho μ58) I I<|ak (ho μ78) I I<|ak (ho μ93) I I<|cf I I (eu I) I (ho μ95) I I<|cf I I (eu I) I (ho μ97) I I ae
  have μ99:M 7 208 3 [1,2,5,6,18] 3:=hi<|aa [(0,209),(1,210),(3,216)] I<|ak (ho μ59) I I<|ak (ho μ79) I I<|ak (ho μ89) I I ae
  have μ100:M 8 80 1 [1,2,5,18] 4:=hi<|aa [(0,81),(1,82),(3,88),(7,208)] I<|ak (ho μ60) I I<|ak (ho μ80) I I<|ak (ho μ90) I I<|cf I I (eu I) I (ho μ99) I I ae
  have μ101:M 7 208 4 [1,2,5,6,18] 3:=hi<|aa [(0,209),(1,210),(3,216)] I<|ak (ho μ61) I I<|ak (ho μ81) I I<|ak (ho μ91) I I ae
  have μ102:M 8 144 2 [1,2,6,18] 4:=hi<|aa [(0,145),(1,146),(3,152),(6,208)] I<|ak (ho μ62) I I<|ak (ho μ82) I I<|ak (ho μ92) I I<|cf I I (eu I) I (ho μ101) I I ae
  have μ103:M 9 16 0 [1,2,18] 0:=hi<|aa [(0,17),(1,18),(3,24),(6,80),(7,144)] I<|ak (ho μ63) I I<|ak (ho μ83) I I<|ak (ho μ93) I I<|cf I I (eu I) I (ho μ100) I I<|cf I I (eu I) I (ho μ102) I I ae
  have μ104:M 8 192 3 [1,2,5,6] 3:=hi<|aa [(0,193),(1,194),(3,200),(4,208)] I<|ak (ho μ64) I I<|ak (ho μ84) I I<|ak (ho μ94) I I<|ak (ho μ99) I I ae
  have μ105:M 9 64 1 [1,2,5] 4:=hi<|aa [(0,65),(1,66),(3,72),(4,80),(7,192)] I<|ak (ho μ65) I I<|ak (ho μ85) I I<|ak (ho μ95) I I<|ak (ho μ100) I I<|cf I I (eu I) I (ho μ104) I I ae
  have μ106:M 8 192 4 [1,2,5,6] 3:=hi<|aa [(0,193),(1,194),(3,200),(4,208)] I<|ak (ho μ66) I I<|ak (ho μ86) I I<|ak (ho μ96) I I<|ak (ho μ101) I I ae
  have μ107:M 9 128 2 [1,2,6] 4:=hi<|aa [(0,129),(1,130),(3,136),(4,144),(6,192)] I<|ak (ho μ67) I I<|ak (ho μ87) I I<|ak (ho μ97) I I<|ak (ho μ102) I I<|cf I I (eu I) I (ho μ106) I I ae
  have μ108:M 10 0 0 [1,2] 0:=hi<|aa [(0,1),(1,2),(3,8),(4,16),(6,64),(7,128)] I<|ak (ho μ68) I I<|ak (ho μ88) I I<|ak (ho μ98) I I<|ak (ho μ103) I I<|cf I I (eu I) I (ho μ105) I I<|cf I I (eu I) I (ho μ107) I I ae
  exact μ108
 refine aP<|av 3 I<|bw (jP I I I (by decide) ((show(a:Int).tdiv 2=((a / 2:Nat):Int) by rw[Int.tdiv_eq_ediv_of_nonneg (by omega)];omega)) (by unfold In64;omega)) I<|bw (aM ((a / 2*7)) I) I<|av 1 I<|bw (aJ I ((fq T.ag (a / 2) 6 hi (by omega)).trans (show(la (cC T.ag (a / 2)))[6]? =some (num g) by rw[←hgl];rfl))) I<|av 3 I<|aG [1,2,5,6,7] I ?_
 refine aP<|av 4 I<|aG [1,2,5,6,7,8] I ?_
 refine aP<|av 1 I<|bw (jP I I I (by decide) ((show(a:Int).tdiv 2=((a / 2:Nat):Int) by rw[Int.tdiv_eq_ediv_of_nonneg (by omega)];omega)) (by unfold In64;omega)) I<|av 3 I<|aG [2,5,6,7,8,9] I ?_
 refine fN (xs:=[num n]) 5 0 0 I I ?_
 refine fN (xs:=[num h]) 6 1 0 I I ?_
 refine fN (xs:=cG 3 g) 7 2 0 I I ?_
 refine fN (xs:=cG 2 h) 8 3 0 I I ?_
 refine fN (xs:=cG 1 ((a / 2:Nat):Int)) 9 4 0 I I ?_
 refine dI [] (.c 2<|.c 5<|.c 6<|.c 7<|.c 8<|.c 9<|.nil) .nil rfl rfl ?_
 refine ab (.v (ed I I) I<|.a 1 I<|.k [6,7,8,9,10] I)<|aP<|av 1 I<|aG [6,7,8,9,10,11] I ?_
 refine aj<|bE 36 (.raw (.bool (c1))) [6,7,8,9,10,11] I ?_ ?_
 ·exact .a 2 I<|.v (cd I (hc1)) I<|.k [36,6,7,8,9,10,11] I
 refine ah I (fun h2=>?_) (fun h2=>?_)
 ·have hg0:0<g:=tt (by rw[hc1,h2])
  rw[if_pos hg0]
  refine bG<|av 2 I<|fe I (h1 3 g) I<|av 1 I<|aG [6,7,8,9,10,11] I ?_
  refine aP<|av 2 I<|fe I (h1 2 h) I<|av 2 I<|aG [6,7,8,9,11,12] I ?_
  refine aP<|bw (ed I I) I<|bw (ed I I) I<|b7 (gM (xs:=[_,_]) I (ba.sl.get I) ⟨Nat.le_of_ble_eq_true rfl,Nat.le_of_ble_eq_true rfl⟩ rfl rfl) I<|av 2 I<|aG [9,13] I ?_
  refine ab (.v (ed I I) I<|.a 1 I<|.k [4] I)<|ao ?_
  unfold kJ F2 F3
  first
   |exact⟨_,_,az.of I,ay.iR (af.cons (ay.ju rfl (af.cons (ay.fr rfl (af.cons (ay.iR (af.cons ay.pure<|af.cons (ay.ju rfl (af.cons (ay.pure (p:=au _)) af.nil)) af.nil))<|af.cons (ay.iR (af.cons ay.pure<|af.cons ay.pure<|af.cons (ay.ju rfl (af.cons (ay.pure (p:=au _)) af.nil)) af.nil)) af.nil)) af.nil))<|af.cons ay.pure af.nil),rfl⟩
   |exact⟨_,_,az.of I,ay.iR (af.cons (ay.ju rfl (af.cons (ay.fr rfl (af.cons (ay.iR (af.cons ay.pure<|af.cons (ay.ju rfl (af.cons ay.bQ af.nil)) af.nil))<|af.cons (ay.iR (af.cons ay.pure<|af.cons ay.pure<|af.cons (ay.ju rfl (af.cons (ay.pure (p:=au _)) af.nil)) af.nil)) af.nil)) af.nil))<|af.cons ay.pure af.nil),rfl⟩
 ·have hg0:¬0<g:=ff (by rw[hc1,h2])
  rw[if_neg hg0]
  refine ai<|aP<|av 2 I<|fe I (h1 2 h) I<|av 2 I<|aG [6,7,8,9,11,12] I ?_
  refine aP<|bw (ed I I) I<|bw (ed I I) I<|b7 (gM (xs:=[_,_]) I (ba.sl.get I) ⟨Nat.le_of_ble_eq_true rfl,Nat.le_of_ble_eq_true rfl⟩ rfl rfl) I<|av 2 I<|aG [9,13] I ?_
  refine ab (.v (ed I I) I<|.a 1 I<|.k [4] I)<|ao ?_
  unfold kJ F2 F3
  first
   |exact⟨_,_,az.of I,ay.iR (af.cons (ay.ju rfl (af.cons (ay.fr rfl (af.cons (ay.iR (af.cons ay.pure<|af.cons (ay.ju rfl (af.cons (ay.pure (p:=au _)) af.nil)) af.nil))<|af.cons (ay.iR (af.cons ay.pure<|af.cons ay.pure<|af.cons (ay.ju rfl (af.cons (ay.pure (p:=au _)) af.nil)) af.nil)) af.nil)) af.nil))<|af.cons ay.pure af.nil),rfl⟩
   |exact⟨_,_,az.of I,ay.iR (af.cons (ay.ju rfl (af.cons (ay.fr rfl (af.cons (ay.iR (af.cons ay.pure<|af.cons (ay.ju rfl (af.cons ay.bQ af.nil)) af.nil))<|af.cons (ay.iR (af.cons ay.pure<|af.cons ay.pure<|af.cons (ay.ju rfl (af.cons (ay.pure (p:=au _)) af.nil)) af.nil)) af.nil)) af.nil))<|af.cons ay.pure af.nil),rfl⟩
theorem ts{α:Type}(f:α→List PV)(s:Nat)(hf:∀a,(f a).length=s)(z:α):∀(l:List α) (d:Nat),d<l.length→over (l.flatMap f) (d*s) (f z)=(l.set d z).flatMap f
 | [],d,h=>by simp at h
 |a::l,0,_=>by
  unfold over
  rw[List.flatMap_cons,Nat.zero_mul,List.take_zero,hf,List.set_cons_zero,List.flatMap_cons,List.nil_append,Nat.zero_add]
  congr 1
  rw[←hf a,List.drop_left]
 |a::l,d+1,h=>by
  have ih:=ts f s hf z l d (by simpa using h)
  unfold over at*
  have e:(d+1)*s=(f a).length+d*s:=by rw[hf,Nat.succ_mul];omega
  rw[List.flatMap_cons,List.set_cons_succ,List.flatMap_cons,←ih,e,List.take_length_add_append,Nat.add_assoc,List.drop_length_add_append,List.append_assoc]
theorem Cp(l:List iS)(d:Nat)(z:iS)(h:d<l.length):over (dV l) (d*3) (gz z)=dV (l.set d z):=ts gz 3 (fun _=>rfl) z l d h
noncomputable def mn(T:an)(D:List Bool)(n N j:Nat):List iS:=(List.range N).map fun d=>if d<j then jW T D n (d:Int) else⟨bI T D n d,false,[]⟩
theorem Ft(T:an)(D:List Bool)(n N j:Nat):(mn T D n N j).length=N:=by simp[mn]
theorem Bo(T:an)(D:List Bool)(n N:Nat):mn T D n N 0=oS T D n N:=by unfold mn oS;simp
theorem C3(T:an)(D:List Bool)(n N:Nat):mn T D n N N=sK T D n N:=by
 unfold mn sK
 refine List.map_congr_left fun d hd=>?_
 rw[if_pos (List.mem_range.1 hd)]
theorem xw{T:an}{D:List Bool}{n N j i:Nat}(h:i<(mn T D n N j).length):(mn T D n N j)[i]=if i<j then jW T D n (i:Int) else⟨bI T D n i,false,[]⟩:=by simp[mn]
theorem A1(T:an)(D:List Bool)(n N j:Nat):(mn T D n N j).set j (jW T D n (j:Int))=mn T D n N (j+1):=by
 apply List.ext_getElem (by simp[mn])
 intro i h1 h2
 rw[List.getElem_set,xw,xw]
 by_cases e:j=i
 ·subst e;rw[if_pos rfl,if_pos (by omega)]
 ·rw[if_neg e]
  by_cases h:i<j
  ·rw[if_pos h,if_pos (by omega)]
  ·rw[if_neg h,if_neg (by omega)]
def pS(T:an)(D:List Bool)(n:Nat)(l:List iS):cc:=[some (.cells 56 [num 0,.raw (.slice none 0 0),.raw (.slice none 0 0)]),some (.row 76 3 T.nodes.toNat (dV l)),some (.row 3 1 (cQ D (bN T n)).length (aK (cQ D (bN T n)))),some (.cells 56 [num n,.own 1,.own 2])]
theorem Dm(T:an)(D:List Bool)(n:Nat)(hv:aq T=true)(hf:bW T D=true)(hn:(n:Int)<T.nodes)(h12:T.nodes≤12):bT Tryz.prog 123 ([bq D,.agg [num n,.own 1,.own 2]]++[.bc (bC T) 0,.bc [num n] 0]) (pS T D n (oS T D n T.nodes.toNat)) (fun _ σ'=>σ'=pS T D n (sK T D n T.nodes.toNat)++[some (.cells 56 [num n,.own 1,.own 2])]):=by
 have hll:=bV hv
 have hnb:bm T (n:Int)=true:=aT.2 ⟨by omega,hn⟩
 obtain⟨N,hN⟩:∃N:Nat,T.nodes.toNat=N:=⟨_,rfl⟩
 have hNN:T.nodes=(N:Int):=by have:=(aO hv).nodes;omega
 unfold pS
 rw[hN,←Bo]
 obtain⟨dl,hdl⟩:∃dl,cQ D (bN T n)=dl:=⟨_,rfl⟩
 rw[hdl]
 refine ct Tryz.func123 I Tryz.ntmps123 I<|aP<|b7 (fx I I I) I<|aG [0,2,3,5] I ?_
 refine ab (.a 4 I<|.k [0,2,3,5,9,10] I)<|aw<|eS [0,2,3,5,9,10] I<|bu (fun r s=>∃j,j≤N∧r=N - j∧s=⟨[(0,bq D),(2,.bc (bC T) 0),(3,.bc [num n] 0),(5,.ptr 4 0),(9,num N),(10,num j)],[some (.cells 56 [num 0,.raw (.slice none 0 0),.raw (.slice none 0 0)]),some (.row 76 3 N (dV (mn T D n N j))),some (.row 3 1 dl.length (aK dl)),some (.cells 56 [num n,.own 1,.own 2]),some (.cells 56 [num n,.own 1,.own 2])]⟩) N ⟨0,by omega,by omega,rfl⟩ ?_
 rintro r s ⟨j,hj,rfl,rfl⟩
 refine ab (.a 1 I<|.k [0,2,3,5,9,10,11] I)<|aj<|ah I (fun h1=>?_) (fun h1=>?_)
 ·have hlt:j<N:=by have:=tt h1;omega
  have hre:=wV T D n j hll h12
  rw[o8 hv hf hnb (aT.2 ⟨by omega,by omega⟩)]at hre
  have hml:=Ft T D n N j
  have hel:(dV (mn T D n N j)).length=N*3:=by have:=sj gz 3 (fun _=>rfl) (mn T D n N j);rw[hml]at this;exact this
  refine ai<|aj<|aw<|ab (.a 2 I<|.k [0,2,3,5,6,9,10] I)<|dL 12 20 mixed (
   .val [5] I (aZ I) I I<|
   .val [14] I (aZ I) I I<|
   .val [6] I (aZ I) I I<|
   .val [2] I (aZ I) I I<|
   .val [0] I (aZ I) I I<|
   .val [3] I (aZ I) I I<|
   .val [6] I (aZ I) I I<|
   .val [17,18,19,20] I (dX I (hre)) I I<|
   .val [21] I (aZ I) I I<|
   .val [13] I (aZ I) I I<|
   .late [13] I (s9 rfl rfl rfl) inferInstance rfl rfl<|
   .val [15,16] I (aM ((j*3)) I) I I<|
   .nil) (by kernel_rfl) I I (aY (ks:=[0,2,3,5,9,10,22,24]) I) ?_
  refine bb (mG I (ba.tk.get I) I I I I I (show j*3+3≤(dV (mn T D n N j)).length by omega)) I I<|aG [0,2,3,5,9,10] I ?_
  refine eI (σ':=[some (.cells 56 [num 0,.raw (.slice none 0 0),.raw (.slice none 0 0)]),some (.row 76 3 N (dV (mn T D n N (j+1)))),some (.row 3 1 dl.length (aK dl)),some (.cells 56 [num n,.own 1,.own 2]),some (.cells 56 [num n,.own 1,.own 2])]) (by rw[←A1,←Cp _ _ _ (by omega)];rfl) ?_
  refine aC (.v (aV I) I<|.a 1 I<|.k [0,2,3,5,9,10] I) ?_
  exact⟨N - (j+1),by omega,j+1,by omega,rfl,rfl⟩
 ·have hje:j=N:=by have:=ff h1;omega
  subst hje
  refine bh<|⟨_,az.of I,?_⟩
  rw[C3]
  rfl
theorem vU(T:an)(D:List Bool)(n:Nat)(c:Option cJ)(hch:cN T D [(n:Int)]=0):bT Tryz.prog 53 [aN T,bq D,num n] [c] (fun r σ'=>r= .tuple [.agg [num n,.own 3,.own 4],num 0]∧σ'=[c,some (.cells 56 [num n,.own 3,.own 4]),some (.cells 56 [num n,.own 3,.own 4]),some (.row 76 3 T.nodes.toNat (dV (oS T D n T.nodes.toNat))),some (.row 3 1 (cQ D (bN T n)).length (aK (cQ D (bN T n))))]):=by
 refine bT.frame (bT.mono (xI T D n hch) ?_)
 rintro r σ' ⟨rfl,rfl⟩
 refine⟨[.cells 56 [num n,.own 2,.own 3],.cells 56 [num n,.own 2,.own 3],.row 76 3 T.nodes.toNat (dV (oS T D n T.nodes.toNat)),.row 3 1 (cQ D (bN T n)).length (aK (cQ D (bN T n)))],rfl,.tuple [.agg [num n,.own 3,.own 4],num 0],[.cells 56 [num n,.own 3,.own 4],.cells 56 [num n,.own 3,.own 4],.row 76 3 T.nodes.toNat (dV (oS T D n T.nodes.toNat)),.row 3 1 (cQ D (bN T n)).length (aK (cQ D (bN T n)))],?_,?_,rfl,rfl⟩
 ·exact Up.aX (lL.cons (Up.hZ (lL.cons Up.pure<|lL.cons (Up.own rfl)<|lL.cons (Up.own rfl) lL.nil)) (lL.cons Up.pure lL.nil))
 ·exact nK.cons (.cells (lL.cons Up.pure<|lL.cons (Up.own rfl)<|lL.cons (Up.own rfl) lL.nil))<|nK.cons (.cells (lL.cons Up.pure<|lL.cons (Up.own rfl)<|lL.cons (Up.own rfl) lL.nil))<|nK.cons (.row lL.pure)<|nK.cons (.row lL.pure) nK.nil
instance (e:Int) (x:de):IsPure (jZ e x):=by unfold jZ;infer_instance
def kF(T:an)(k x n:Int):Int:=if eA T k x=0 then(if bm T n then 0 else 2) else 1
theorem pz{T:an}{k x:Int}(h:eA T k x=0):(aq T&&cp T k x)=true:=by
 unfold eA at h
 split at h
 ·assumption
 ·omega
theorem DS(T:an)(D:List Bool)(n:Nat):bT Tryz.prog 125 ([bq D,.agg [num n,.own 1,.own 2]]++[]) (pS T D n (oS T D n T.nodes.toNat)) (fun _ σ'=>σ'=pS T D n (oS T D n T.nodes.toNat)++[some (.cells 56 [num n,.own 1,.own 2])]):=by
 unfold pS
 refine ct Tryz.func125 I Tryz.ntmps125 I<|bG<|b7 (fx I I I) I<|aG [] I ?_
 exact⟨_,az.of I,rfl⟩
theorem vQ{T:an}{k x:Int}(h:eA T k x≠0):eA T k x=1:=by
 unfold eA at*
 split
 ·rename_i h';rw[if_pos h']at h;exact absurd rfl h
 ·rfl
theorem qR(T:an)(k x n:Int)(f:FuncId)(cap:List PV)[aL cap](he:kF T k x n≠0):
  Can Tryz.prog 122 [aN T,cq k x,num n,.func f cap] (· =jZ (kF T k x n) ⟨0,[],[]⟩):=by
 have hmk:=mj T k x
 have hmf:=dt T k x
 unfold jY at hmk
 have hrt:=ri T (aE T k x) n
 refine aI Tryz.func122 I Tryz.ntmps122 I<|aP<|av 4 I<|aG [2,3,4,5,8] I ?_
 refine ab (.a 2 I<|.c rfl (hmk) I<|.a 5 I<|.k [2,3,4,8,10,11] I)<|aj<|ab (.a 2 I<|.k [2,3,4,8,10,11,20] I)<|ah I (fun h1=>?_) (fun h1=>?_)
 ·have h1:=tt h1
  have he2:kF T k x n=eA T k x:=by
   unfold kF
   rw[if_neg h1,vQ h1]
  rw[he2]
  refine aP<|av 4 I<|aG [8,9] I ?_
  exact ao<|⟨_,_,az.of I,ay.aX (af.cons (ay.hZ (af.cons ay.pure<|af.cons ay.bQ<|af.cons ay.bQ af.nil)) (af.cons ay.pure af.nil)),by unfold jZ;rw[if_neg h1];rfl⟩
 ·have h1:eA T k x=0:=Classical.byContradiction (ff h1)
  obtain⟨hv,hc⟩:=Bool.and_eq_true_iff.1 (pz h1)
  rw[if_pos h1]
  have hn:bm T n=false:=by
   cases hn:bm T n with
   |false=>rfl
   |true=>exact absurd (show kF T k x n=0 by unfold kF;rw[if_pos h1,hn];rfl) he
  have hch:cN T (aE T k x) [n]=2:=by unfold cN;rw[hv,hmf];simp[hn]
  have hr0:jN T (aE T k x) n=⟨0,[],[]⟩:=by unfold jN;rw[if_neg (by rw[hch];decide)]
  rw[hch,hr0]at hrt
  have he:kF T k x n=2:=by unfold kF;rw[if_pos h1,hn];rfl
  rw[he]
  refine ai<|aP<|av 3 I<|fe I (hrt) I<|av 6 I<|aG [3,8,10,11,12] I ?_
  refine aj<|ab (.a 2 I<|.k [3,8,10,11,12,31] I)<|ah I (fun h2=>?_) (fun h2=>?_)
  ·skip
   refine aP<|av 4 I<|aG [8,9] I ?_
   exact ao<|⟨_,_,az.of I,ay.aX (af.cons (ay.hZ (af.cons ay.pure<|af.cons ay.bQ<|af.cons ay.bQ af.nil)) (af.cons ay.pure af.nil)),rfl⟩
  ·exact absurd h2 (by decide)
theorem tT(T:an)(k x:Int)(n:Nat)(f:FuncId)(cap:List PV)[aL cap](L:List iS)(hen:enters Tryz.prog f=true)(hv:(aq T&&cp T k x)=true)(hn:(n:Int)<T.nodes)(hl:L.length=T.nodes.toNat)
  (hf:bT Tryz.prog f ([bq (aE T k x),.agg [num n,.own 1,.own 2]]++cap) (pS T (aE T k x) n (oS T (aE T k x) n T.nodes.toNat)) (fun _ σ'=>σ'=pS T (aE T k x) n L++[some (.cells 56 [num n,.own 1,.own 2])])):
  Can Tryz.prog 122 [aN T,cq k x,num n,.func f cap] (· =jZ 0 ⟨n,L,cQ (aE T k x) (bN T n)⟩):=by
 have hmk:=mj T k x
 have hmf:=dt T k x
 have hm0:eA T k x=0:=by unfold eA;rw[if_pos hv]
 unfold jY at hmk
 rw[hm0,if_pos rfl]at hmk
 obtain⟨M,hM⟩:∃M,aE T k x=M:=⟨_,rfl⟩
 rw[hM]at hmk hmf hf ⊢
 obtain⟨hv,hc⟩:=Bool.and_eq_true_iff.1 hv
 have hch:cN T M [(n:Int)]=0:=by unfold cN;rw[hv,hmf];simp[aT.2 (show 0≤(n:Int)∧(n:Int)<T.nodes by omega)]
 have hrt:=fun c=>vU T M n c hch
 refine aI Tryz.func122 I Tryz.ntmps122 I<|aP<|av 4 I<|aG [2,3,4,5,8] I ?_
 refine ab (.a 2 I<|.c rfl (hmk) I<|.a 5 I<|.k [2,3,4,8,10,11] I)<|aj<|ab (.a 2 I<|.k [2,3,4,8,10,11,20] I)<|ah I (fun h1=>?_) (fun h1=>?_)
 ·exact absurd h1 (by decide)
 ·skip
  refine ai<|aP<|av 3 I<|cM I I (bT.mono (hrt _) (fun r σ' h=>?_))
  obtain⟨rfl,rfl⟩:=h
  refine av 6 I<|aG [3,8,10,11,12] I ?_
  refine aj<|ab (.a 2 I<|.k [3,8,10,11,12,31] I)<|ah I (fun h2=>?_) (fun h2=>?_)
  ·exact absurd h2 (by decide)
  ·skip
   refine ai<|dI [0,3,4,5] (.c 3<|.c 8<|.c 10<|.c 12<|.nil) (.kept rfl (.cells (aH.c<|aH.c<|aH.c<|aH.nil))<|.kept rfl (.row aH.pure)<|.kept rfl (.row aH.pure)<|.kept rfl (.cells (aH.c<|aH.c<|aH.c<|aH.nil))<|.nil) I I ?_
   refine aP<|av 3 I<|xR I hen rfl rfl rfl rfl rfl (bT.mono hf (fun r σ' h=>?_))
   obtain rfl:=h
   refine aG [8,12] I ?_
   refine aP<|av 3 I<|aG [8,9] I ?_
   refine ao<|⟨_,_,az.of I,ay.aX (af.cons (ay.hZ (af.cons ay.pure<|af.cons (ay.fr rfl af.pure)<|af.cons (ay.fr rfl af.pure) af.nil)) (af.cons ay.pure af.nil)),?_⟩
   unfold jZ fv eR ij au
   rw[if_pos rfl,hl]
theorem ud{T:an}{k x n:Int}(h:kF T k x n=0):(aq T&&cp T k x)=true∧bm T n=true:=by
 unfold kF at h
 split at h
 ·rename_i h1
  refine⟨pz h1,?_⟩
  split at h
  ·assumption
  ·omega
 ·omega
theorem Du(T:an)(k x n:Int)(h12:T.nodes≤12):Can Tryz.prog 70 [aN T,cq k x,num n] (· =jZ (kF T k x n) (uB T (aE T k x) n.toNat)):=by
 have key:Can Tryz.prog 122 [aN T,cq k x,num n,.func 123 [.bc (bC T) 0,.bc [num n] 0]] (· =jZ (kF T k x n) (uB T (aE T k x) n.toNat)):=by
  by_cases he:kF T k x n=0
  ·obtain⟨hm,hn⟩:=ud he
   obtain⟨hv,hc⟩:=Bool.and_eq_true_iff.1 hm
   rw[aT]at hn
   obtain⟨m,rfl⟩:=Int.eq_ofNat_of_zero_le hn.1
   rw[he]
   exact tT T k x m _ _ _ (by kernel_rfl) hm hn.2 (qM _ _ _ _) (Dm T (aE T k x) m hv (dt T k x) hn.2 h12)
  ·have h:=qR T k x n 123 [.bc (bC T) 0,.bc [num n] 0] he
   unfold jZ at h ⊢
   rw[if_neg he]at h ⊢
   exact h
 refine aI Tryz.func70 I Tryz.ntmps70 I<|aP<|av 5 I<|aG [3,4,5,6] I ?_
 refine aP<|av 4 I<|fe I (key) I<|av 4 I<|aG [6,7] I ?_
 exact ao<|⟨_,_,az.of I,ay.pure (p:=jZ (kF T k x n) (uB T (aE T k x) n.toNat)),rfl⟩
theorem DW(T:an)(k x n:Int):Can Tryz.prog 72 [aN T,cq k x,num n] (· =jZ (kF T k x n) (dJ T (aE T k x) n.toNat)):=by
 have key:Can Tryz.prog 122 [aN T,cq k x,num n,.func 125 []] (· =jZ (kF T k x n) (dJ T (aE T k x) n.toNat)):=by
  by_cases he:kF T k x n=0
  ·obtain⟨hm,hn⟩:=ud he
   obtain⟨hv,hc⟩:=Bool.and_eq_true_iff.1 hm
   rw[aT]at hn
   obtain⟨m,rfl⟩:=Int.eq_ofNat_of_zero_le hn.1
   rw[he]
   exact tT T k x m _ _ _ (by kernel_rfl) hm hn.2 (uT _ _ _ _) (DS T (aE T k x) m)
  ·have h:=qR T k x n 125 [] he
   unfold jZ at h ⊢
   rw[if_neg he]at h ⊢
   exact h
 refine aI Tryz.func72 I Tryz.ntmps72 I<|aP<|av 4 I<|aG [2,3,4,6] I ?_
 refine aP<|av 3 I<|fe I (key) I<|av 4 I<|aG [6,7] I ?_
 exact ao<|⟨_,_,az.of I,ay.pure (p:=jZ (kF T k x n) (dJ T (aE T k x) n.toNat)),rfl⟩
theorem wT(T:an)(D:List Bool)(n:Int):PV.tuple [fv (jN T D n),num (cN T D [n])]=jZ (cN T D [n]) (dJ T D n.toNat):=by
 unfold jZ jN;rfl
theorem Ev(T:an)(n:Int):Can Tryz.prog 67 [aN T,num n] (· =jZ (cN T [] [n]) (dJ T [] n.toNat)):=by
 refine aI Tryz.func67 I Tryz.ntmps67 I<|aP<|av 3 I<|aG [1,2,4] I ?_
 have hr:=ri T [] n
 rw[wT]at hr
 refine aP<|av 2 I<|bw (xe I (af.cons ay.pure<|af.cons ay.bQ<|af.cons ay.pure af.nil) (hr)) I<|av 4 I<|aG [4,5] I ?_
 exact ao<|⟨_,_,az.of I,ay.pure (p:=jZ (cN T [] [n]) (dJ T [] n.toNat)),rfl⟩
theorem vS{T:an}{a:Nat}(hv:aq T=true)(ha:a<2*T.ag.length){d:Nat}(hd:(d:Int)<T.nodes){n:Nat}(hn:br T a=(n:Int))(k x:Int)(hm:(aq T&&cp T k x)=true):d<(bH T (iO T k x) n true).length∧decide (0≤(bH T (iO T k x) n true).getD d 0)=iT T (aE T k x) (br T a) d:=by
 have hnN:(n:Int)<T.nodes:=by rw[←hn];exact((aO hv).tail a ha).2
 have hl:=(dW (D:=iO T k x) hv (dir:=true) hnN).1
 refine⟨by omega,?_⟩
 rw[hn,DZ hm,Bool.eq_iff_iff,decide_eq_true_eq,mO hv (dt T k x) hnN hd,HZ hv hnN hd]
theorem Gv(T:an)(a d:Nat)(hv:aq T=true)(ha:a<2*T.ag.length)(hd:(d:Int)<T.nodes):Can Tryz.prog 183 ([num d]++kJ (gA T a) (aS T a) ((a / 2:Nat):Int) (H5 T a) (Ir T a)) (· =cq (er T a d).1 (er T a d).2):=by
 obtain⟨n,hn⟩:=Int.eq_ofNat_of_zero_le ((aO hv).tail a ha).1
 have hnt:(br T a).toNat=n:=by omega
 have h2:=vS hv ha hd hn 2 (aS T a) (DQ hv ha)
 have hM:Ir T a=bH T (iO T 2 (aS T a)) n true:=by unfold Ir;rw[hnt]
 have hL:0<gA T a→H5 T a=bH T (iO T 3 (gA T a)) n true:=fun h=>by unfold H5;rw[if_pos h,hnt]
 have h:=EE (gA T a) (aS T a) ((a / 2:Nat):Int) (H5 T a) (Ir T a) d (iT T (aE T 3 (gA T a)) (br T a) d) (iT T (aE T 2 (aS T a)) (br T a) d)
  (fun hg=>by rw[hL hg];exact vS hv ha hd hn 3 (gA T a) (GH hv ha hg)) (by rw[hM];exact h2.1) (by rw[hM];exact h2.2)
 have e:(if(decide (0<gA T a)&&iT T (aE T 3 (gA T a)) (br T a) d)=true then cq 3 (gA T a) else if(decide (aS T a≠(d:Int))&&iT T (aE T 2 (aS T a)) (br T a) d)=true then cq 2 (aS T a) else cq 1 ((a / 2:Nat):Int))=cq (er T a d).1 (er T a d).2:=by
  unfold er
  split
  ·rfl
  ·split<;>rfl
 rw[e]at h
 exact h
def GU(own:List Bool):List Int→Nat→Int
 | [],_=> -1
 |a::l,i=>bif aQ own a.toNat then(i:Int) else GU own l (i+1)
theorem Fm(own:List Bool):∀(l:List Int) (i:Nat),(GU own l i= -1∧lK own l=none)∨∃j,j<l.length∧GU own l i=((i+j:Nat):Int)∧lK own l=some (l.getD j 0)
 | [],i=>.inl ⟨rfl,rfl⟩
 |a::l,i=>by
  simp only[GU]
  by_cases h:aQ own a.toNat=true
  ·refine .inr ⟨0,by simp,by rw[h];rfl,?_⟩
   unfold lK
   rw[List.find?_cons_of_pos (by exact h)]
   rfl
  ·rw[Bool.eq_false_iff.2 h]
   simp only[cond_false]
   have e:lK own (a::l)=lK own l:=by
    unfold lK
    rw[List.find?_cons_of_neg (by exact h)]
   rw[e]
   rcases Fm own l (i+1)with h'|⟨j,h1,h2,h3⟩
   ·exact .inl h'
   ·exact .inr ⟨j+1,by simpa using h1,by rw[h2];congr 1;omega,by rw[h3];rfl⟩
theorem Dg(own:List Bool)(k:Nat)(hk:k<own.length):Can Tryz.prog 154 ([num k]++[.bc [bq own] 0]) (· =flag (aQ own k)):=by
 exact aI Tryz.func154 I Tryz.ntmps154 I<|ab (.a 1 I<|.k [0,1] I)<|ab (.a 2 I<|.v (aM (k) I) I<|.v (aJ I ((show(bX own)[k]? =some (flag (aQ own k)) by rw[dy _ k hk,fL]))) I<|.a 1 I<|.k [3] I)<|ao<|⟨_,_,az.of I,ay.pure,rfl⟩
theorem DC(l:List Int)(own:List Bool)(hl:l.length≤1000)(hm:∀a∈l,∃k:Nat,a=(k:Int)∧k<own.length):Can Tryz.prog 153 [au l,.func 154 [.bc [bq own] 0]] (· =num (GU own l 0)):=by
 refine aI Tryz.func153 I Tryz.ntmps153 I<|ab (.a 1 I<|.k [0,1] I)<|aj<|ab (.a 3 I<|.k [0,1,7,8] I)<|aw<|eS [0,1,7,8] I<|bu (fun r s=>∃i,i≤l.length∧r=l.length - i∧GU own l 0=GU own (l.drop i) i∧s=⟨[(0,au l),(1,.func 154 [.bc [bq own] 0]),(7,num l.length),(8,num i)],[]⟩) l.length ⟨0,by omega,by omega,rfl,rfl⟩ ?_
 rintro r s ⟨i,hi,rfl,hx,rfl⟩
 refine ab (.a 1 I<|.k [0,1,7,8,9] I)<|aj<|ah I (fun h1=>?_) (fun h1=>?_)
 ·have hlt:i<l.length:=by have:=tt h1;omega
  obtain⟨k,hk,hkl⟩:=hm _ (cm (d:=0) hlt)
  rw[drop_cons l i hlt,hk]at hx
  simp only[GU,Int.toNat_natCast]at hx
  obtain⟨q,hq⟩:∃q,aQ own k=q:=⟨_,rfl⟩
  have he:=Dg own k hkl
  rw[hq]at he hx
  refine ai<|aj<|aw<|ab (.a 2 I<|.k [0,1,5,7,8] I)<|ab (.a 3 I<|.v (aM (i) I) I<|.v (aJ I ((aB l i hlt).trans (by rw[hk]))) I<|.c rfl (he) I<|.k [0,1,5,7,8,16] I)<|ah I (fun h2=>?_) (fun h2=>?_)
  ·subst h2
   rw[cond_true]at hx
   rw[hx]
   exact ab (.a 2 I<|.k [4] I)<|ao<|⟨_,_,az.of I,ay.pure,rfl⟩
  ·subst h2
   rw[cond_false]at hx
   refine ai<|aC (.v (aV I) I<|.a 1 I<|.k [0,1,7,8] I) ?_
   exact⟨l.length - (i+1),by omega,i+1,by omega,rfl,hx,rfl⟩
 ·have hie:i=l.length:=by have:=ff h1;omega
  subst hie
  rw[List.drop_length]at hx
  rw[hx]
  exact bh<|ab (.a 1 I<|.k [4] I)<|ao<|⟨_,_,az.of I,ay.pure,rfl⟩
theorem GZ(p:List Int):Can Tryz.prog 185 ([au p]++[]) (· = .tuple []):=by
 exact aI Tryz.func185 I Tryz.ntmps185 I<|ai<|⟨_,_,az.of I,ay.pure,rfl⟩
theorem xt(T:an)(D:List Bool)(n d:Int):Can Tryz.prog 184 [aN T,bq D,num n,num d,.func 185 []] (· =num (gR T D n d)):=by
 refine aI Tryz.func184 I Tryz.ntmps184 I<|ab (.a 2 I<|.k [1,2,3,4,5] I)<|ab (.a 4 I<|.c rfl (s5 T D n d) I<|.a 5 I<|.k [4,11,12] I)<|aj<|ab (.a 2 I<|.k [4,11,12,22] I)<|ah I (fun h1=>?_) (fun h1=>?_)
 ·skip
  refine aC (.a 2 I<|.c rfl (GZ _) I<|.k [12] I) ?_
  exact ab (.a 2 I<|.k [10] I)<|ao<|⟨_,_,az.of I,ay.pure,rfl⟩
 ·skip
  exact ai<|ab (.a 2 I<|.k [10] I)<|ao<|⟨_,_,az.of I,ay.pure,rfl⟩
theorem yl(T:an)(D:List Bool)(n d:Int):Can Tryz.prog 156 [aN T,bq D,num n,num d] (· =flag (iT T D n d)):=by
 obtain⟨q,hq⟩:∃q,decide (gR T D n d=0)=q:=⟨_,rfl⟩
 unfold iT
 rw[hq]
 exact aI Tryz.func156 I Tryz.ntmps156 I<|ab (.a 2 I<|.k [1,2,3,4] I)<|ab (.a 4 I<|.c rfl (xt T D n d) I<|.v (cd I (hq)) I<|.a 1 I<|.k [8] I)<|ao<|⟨_,_,az.of I,ay.pure,rfl⟩
theorem BS(T:an)(k x:Int)(hm:(aq T&&cp T k x)=true)(σ:cc):bT Tryz.prog 16 [aN T,cq k x] σ (fun r σ'=>r= .tuple [.own σ.length,num 0]∧σ'=σ++[lJ (aE T k x)]):=by
 obtain⟨hv,hc⟩:=Bool.and_eq_true_iff.1 hm
 refine bT.frame (bT.mono (tm T k x hv hc) ?_)
 rintro r σ' ⟨rfl,rfl⟩
 refine⟨[.row 4 1 (2*T.ag.length) (bX (aE T k x))],rfl,_,_,Up.aX (lL.cons (Up.own rfl) (lL.cons Up.pure lL.nil)),nK.cons (.row lL.pure) nK.nil,by simp,?_⟩
 unfold lJ
 rw[fQ]
 rfl
set_option maxHeartbeats 2000000 in
theorem DK(T:an)(own:List Bool)(n d:Nat)(hv:aq T=true)(hfo:own.length=2*T.ag.length)(hn:(n:Int)<T.nodes)(hd:(d:Int)<T.nodes)(h12:T.nodes≤12):Can Tryz.prog 114 [aN T,bq own,num n,num d] (· =wW (nB T own n d)):=by
 have hll:=bV hv
 have hof:bW T own=true:=by unfold bW;rw[hfo];simp
 have hnb:bm T (n:Int)=true:=aT.2 ⟨by omega,hn⟩
 have hdb:bm T (d:Int)=true:=aT.2 ⟨by omega,hd⟩
 have hnx:=sh T [] n d
 rw[o8 hv (kD T) hnb hdb,Int.toNat_natCast,Int.toNat_natCast]at hnx
 unfold ei at hnx
 rw[if_pos rfl]at hnx
 have hlen:=BL hv [] n d
 have hmem:∀a∈bI T [] n d,∃k:Nat,a=(k:Int)∧k<2*T.ag.length:=fun a ha=>by
  obtain⟨k,hk,hkn⟩:=cW ha
  exact⟨k,hk,hkn.fy⟩
 unfold nB
 obtain⟨l,hl⟩:∃l,bI T [] n d=l:=⟨_,rfl⟩
 rw[hl]at hnx hlen hmem ⊢
 have hix:=DC l own (by omega) (fun a ha=>by rw[hfo];exact hmem a ha)
 obtain⟨ix,hixe⟩:∃ix,GU own l 0=ix:=⟨_,rfl⟩
 have hih:=Fm own l 0
 rw[hixe]at hix hih
 simp only[Nat.zero_add]at hih
 refine aI Tryz.func114 I Tryz.ntmps114 I<|aP<|av 3 I<|aG [2,3,4,5,8] I ?_
 refine ab (.a 3 I<|.v (xe I (af.cons ay.pure<|af.cons ay.bQ<|af.cons ay.pure<|af.cons ay.pure af.nil) (hnx)) I<|.a 5 I<|.k [2,3,4,5,8,9] I)<|ab (.a 1 I<|.v (ed I I) I<|.c rfl (hix) I<|.a 1 I<|.k [2,3,4,5,8,9,11] I)<|aj<|ab (.a 2 I<|.k [2,3,4,5,8,9,11,28] I)<|ah I (fun h3=>?_) (fun h3=>?_)
 ·have hno:lK own l=none:=by
   rcases hih with h|⟨j,_,h,_⟩
   ·exact h.2
   ·rw[h]at h3;have:=tt h3;omega
  rw[hno]
  refine aP<|av 3 I<|aG [8] I ?_
  exact ao<|⟨_,_,az.of I,ay.hZ (af.cons (ay.pure (p:=au l))<|af.cons ay.pure<|af.cons ay.bQ af.nil),rfl⟩
 ·obtain⟨j,hjl,rfl,ha⟩:∃j,j<l.length∧ix=((j:Nat):Int)∧lK own l=some (l.getD j 0):=by
   rcases hih with h|h
   ·rw[h.1]at h3;exact absurd h3 (by decide)
   ·exact h
  obtain⟨k,hkj,hk⟩:=hmem _ (cm (d:=0) hjl)
  rw[ha]
  simp only[]
  rw[hkj,Int.toNat_natCast]
  have hcm:(aq T&&cp T (er T k d).1 (er T k d).2)=true:=by rw[hv,DV hv hk];rfl
  have hcl:=Gv T k d hv hk hd
  have has:=za T k hv hk
  have hmk:=fun σ=>BS T (er T k d).1 (er T k d).2 hcm σ
  have hmx:pL T own n d k=if iT T (orM T (aE T (er T k d).1 (er T k d).2) own) n d=true then orM T (aE T (er T k d).1 (er T k d).2) own else own:=rfl
  generalize er T k (d:Int)=cx at*
  obtain⟨ck,cy⟩:=cx
  simp only at hcm hcl hmk hmx
  have hMl:=fQ T ck cy
  obtain⟨M,hM⟩:∃M,aE T ck cy=M:=⟨_,rfl⟩
  rw[hM]at hmk hmx hMl
  have hre:=wV T (pL T own n d k) n d hll h12
  rw[o8 hv (wv hof k) hnb hdb]at hre
  clear h3 hmem hih hix hixe
  refine ai<|lB (aY (ks:=[2,3,4,5,8,9,11]) I) ?_
  refine rL ([(2,num n),(3,num d),(4,.bc (bC T) 0),(5,.bc [bq own] 0),(8,.ptr 0 0),(12,.own 1)]) ([some (.cells 76 [.raw (.slice none 0 0),flag false,.raw (.slice none 0 0)]),lJ M]) mixed ?_ ?_
  ·refine uF [[(2,num n),(3,num d),(4,.bc (bC T) 0),(5,.bc [bq own] 0),(8,.ptr 0 0),(9,au l),(11,num j),(12,.own 1),(13,num 0),(31,.tuple [.own 1,num 0]),(32,aN T),(33,aN T),(34,au l),(35,num j),(36,.bc (aK l) j),(37,num k),(38,.func 183 (kJ (gA T k) (aS T k) ((k / 2:Nat):Int) (H5 T k) (Ir T k))),(39,num d),(40,cq ck cy),(41,.tuple [.own 1,num 0]),(42,.own 1),(43,num 0)]] [[some (.cells 76 [.raw (.slice none 0 0),flag false,.raw (.slice none 0 0)])],[some (.cells 76 [.raw (.slice none 0 0),flag false,.raw (.slice none 0 0)]),lJ M]] [2,3,4,5,8,9,11] I (by kernel_rfl) (fun M hi ho=>?_)
   have μ0:M 0 32767 0 [2,3,4,5,8,12] 1:=hi<|rY I (by kernel_rfl) (⟨rfl,aY (ks:=[2,3,4,5,8,12]) I⟩)
   have μ1:M 1 16383 0 [2,3,4,5,8,12,43] 1:=hi<|aa [(14,32767)] I<|ak (ho μ0) I I ae
   have μ2:M 2 8191 0 [2,3,4,5,8,42,43] 1:=hi<|aa [(13,16383)] I<|ak (ho μ1) I I ae
   have μ3:M 2 12287 0 [2,3,4,5,8,12,31] 1:=hi<|aa [(12,16383)] I<|ak (ho μ1) I I ae
   have μ4:M 3 4095 0 [2,3,4,5,8,31,42] 1:=hi<|aa [(12,8191),(13,12287)] I<|ak (ho μ2) I I<|ak (ho μ3) I I ae
   have μ5:M 3 6143 0 [2,3,4,5,8,31,43] 1:=hi<|aa [(11,8191)] I<|ak (ho μ2) I I ae
   have μ6:M 4 2047 0 [2,3,4,5,8,31] 1:=hi<|aa [(11,4095),(12,6143)] I<|ak (ho μ4) I I<|ak (ho μ5) I I ae
   have μ7:M 5 1023 0 [2,3,4,5,8,41] 1:=hi<|aa [(10,2047)] I<|ak (ho μ6) I I ae
   have μ8:M 6 511 0 [2,3,4,5,8,32,40] 0:=hi<|aa [(9,1023)] I<|fk I I I I (hmk _) (ho μ7) I I ae
   have μ9:M 7 255 0 [2,3,4,5,8,32,38,39] 0:=hi<|aa [(8,511)] I<|bx I I (dX I (hcl)) I (ho μ8) I I ae
   have μ10:M 8 127 0 [2,3,4,5,8,32,38] 0:=hi<|aa [(7,255)] I<|ak (ho μ9) I I ae
   have μ11:M 8 191 0 [2,3,4,5,8,32,33,37,39] 0:=hi<|aa [(6,255)] I<|bx I I (dX I (has)) I (ho μ9) I I ae
   have μ12:M 9 63 0 [2,3,4,5,8,32,33,37] 0:=hi<|aa [(6,127),(7,191)] I<|bx I I (dX I (has)) I (ho μ10) I I<|ak (ho μ11) I I ae
   have μ13:M 9 159 0 [2,3,4,5,8,32,33,36,39] 0:=hi<|aa [(5,191)] I<|bx I I (aJ I ((aB l j hjl).trans (by rw[hkj]))) I (ho μ11) I I ae
   have μ14:M 10 31 0 [2,3,4,5,8,32,33,36] 0:=hi<|aa [(5,63),(7,159)] I<|bx I I (aJ I ((aB l j hjl).trans (by rw[hkj]))) I (ho μ12) I I<|ak (ho μ13) I I ae
   have μ15:M 10 143 0 [2,3,4,5,8,32,33,34,35,39] 0:=hi<|aa [(4,159)] I<|bx I I (aM (j) I) I (ho μ13) I I ae
   have μ16:M 11 15 0 [2,3,4,5,8,32,33,34,35] 0:=hi<|aa [(4,31),(7,143)] I<|bx I I (aM (j) I) I (ho μ14) I I<|ak (ho μ15) I I ae
   have μ17:M 11 135 0 [2,3,4,5,8,11,32,33,34,39] 0:=hi<|aa [(3,143)] I<|ak (ho μ15) I I ae
   have μ18:M 12 7 0 [2,3,4,5,8,11,32,33,34] 0:=hi<|aa [(3,15),(7,135)] I<|ak (ho μ16) I I<|ak (ho μ17) I I ae
   have μ19:M 11 139 0 [2,3,4,5,8,9,32,33,35,39] 0:=hi<|aa [(2,143)] I<|ak (ho μ15) I I ae
   have μ20:M 12 11 0 [2,3,4,5,8,9,32,33,35] 0:=hi<|aa [(2,15),(7,139)] I<|ak (ho μ16) I I<|ak (ho μ19) I I ae
   have μ21:M 12 131 0 [2,3,4,5,8,9,11,32,33,39] 0:=hi<|aa [(2,135),(3,139)] I<|ak (ho μ17) I I<|ak (ho μ19) I I ae
   have μ22:M 13 3 0 [2,3,4,5,8,9,11,32,33] 0:=hi<|aa [(2,7),(3,11),(7,131)] I<|ak (ho μ18) I I<|ak (ho μ20) I I<|ak (ho μ21) I I ae
   have μ23:M 9 189 0 [2,3,4,5,8,32,37,39] 0:=hi<|aa [(1,191)] I<|ak (ho μ11) I I ae
   have μ24:M 10 61 0 [2,3,4,5,8,32,37] 0:=hi<|aa [(1,63),(7,189)] I<|ak (ho μ12) I I<|ak (ho μ23) I I ae
   have μ25:M 10 157 0 [2,3,4,5,8,32,36,39] 0:=hi<|aa [(1,159),(5,189)] I<|ak (ho μ13) I I<|bx I I (aJ I ((aB l j hjl).trans (by rw[hkj]))) I (ho μ23) I I ae
   have μ26:M 11 29 0 [2,3,4,5,8,32,36] 0:=hi<|aa [(1,31),(5,61),(7,157)] I<|ak (ho μ14) I I<|bx I I (aJ I ((aB l j hjl).trans (by rw[hkj]))) I (ho μ24) I I<|ak (ho μ25) I I ae
   have μ27:M 11 141 0 [2,3,4,5,8,32,34,35,39] 0:=hi<|aa [(1,143),(4,157)] I<|ak (ho μ15) I I<|bx I I (aM (j) I) I (ho μ25) I I ae
   have μ28:M 12 13 0 [2,3,4,5,8,32,34,35] 0:=hi<|aa [(1,15),(4,29),(7,141)] I<|ak (ho μ16) I I<|bx I I (aM (j) I) I (ho μ26) I I<|ak (ho μ27) I I ae
   have μ29:M 12 133 0 [2,3,4,5,8,11,32,34,39] 0:=hi<|aa [(1,135),(3,141)] I<|ak (ho μ17) I I<|ak (ho μ27) I I ae
   have μ30:M 13 5 0 [2,3,4,5,8,11,32,34] 0:=hi<|aa [(1,7),(3,13),(7,133)] I<|ak (ho μ18) I I<|ak (ho μ28) I I<|ak (ho μ29) I I ae
   have μ31:M 12 137 0 [2,3,4,5,8,9,32,35,39] 0:=hi<|aa [(1,139),(2,141)] I<|ak (ho μ19) I I<|ak (ho μ27) I I ae
   have μ32:M 13 9 0 [2,3,4,5,8,9,32,35] 0:=hi<|aa [(1,11),(2,13),(7,137)] I<|ak (ho μ20) I I<|ak (ho μ28) I I<|ak (ho μ31) I I ae
   have μ33:M 13 129 0 [2,3,4,5,8,9,11,32,39] 0:=hi<|aa [(1,131),(2,133),(3,137)] I<|ak (ho μ21) I I<|ak (ho μ29) I I<|ak (ho μ31) I I ae
   have μ34:M 14 1 0 [2,3,4,5,8,9,11,32] 0:=hi<|aa [(1,3),(2,5),(3,9),(7,129)] I<|ak (ho μ22) I I<|ak (ho μ30) I I<|ak (ho μ32) I I<|ak (ho μ33) I I ae
   have μ35:M 7 510 0 [2,3,4,5,8,40] 0:=hi<|aa [(0,511)] I<|ak (ho μ8) I I ae
   have μ36:M 8 254 0 [2,3,4,5,8,38,39] 0:=hi<|aa [(0,255),(8,510)] I<|ak (ho μ9) I I<|bx I I (dX I (hcl)) I (ho μ35) I I ae
   have μ37:M 9 126 0 [2,3,4,5,8,38] 0:=hi<|aa [(0,127),(7,254)] I<|ak (ho μ10) I I<|ak (ho μ36) I I ae
   have μ38:M 9 190 0 [2,3,4,5,8,33,37,39] 0:=hi<|aa [(0,191),(6,254)] I<|ak (ho μ11) I I<|bx I I (dX I (has)) I (ho μ36) I I ae
   have μ39:M 10 62 0 [2,3,4,5,8,33,37] 0:=hi<|aa [(0,63),(6,126),(7,190)] I<|ak (ho μ12) I I<|bx I I (dX I (has)) I (ho μ37) I I<|ak (ho μ38) I I ae
   have μ40:M 10 158 0 [2,3,4,5,8,33,36,39] 0:=hi<|aa [(0,159),(5,190)] I<|ak (ho μ13) I I<|bx I I (aJ I ((aB l j hjl).trans (by rw[hkj]))) I (ho μ38) I I ae
   have μ41:M 11 30 0 [2,3,4,5,8,33,36] 0:=hi<|aa [(0,31),(5,62),(7,158)] I<|ak (ho μ14) I I<|bx I I (aJ I ((aB l j hjl).trans (by rw[hkj]))) I (ho μ39) I I<|ak (ho μ40) I I ae
   have μ42:M 11 142 0 [2,3,4,5,8,33,34,35,39] 0:=hi<|aa [(0,143),(4,158)] I<|ak (ho μ15) I I<|bx I I (aM (j) I) I (ho μ40) I I ae
   have μ43:M 12 14 0 [2,3,4,5,8,33,34,35] 0:=hi<|aa [(0,15),(4,30),(7,142)] I<|ak (ho μ16) I I<|bx I I (aM (j) I) I (ho μ41) I I<|ak (ho μ42) I I ae
   have μ44:M 12 134 0 [2,3,4,5,8,11,33,34,39] 0:=hi<|aa [(0,135),(3,142)] I<|ak (ho μ17) I I<|ak (ho μ42) I I ae
   have μ45:M 13 6 0 [2,3,4,5,8,11,33,34] 0:=hi<|aa [(0,7),(3,14),(7,134)] I<|ak (ho μ18) I I<|ak (ho μ43) I I<|ak (ho μ44) I I ae
   have μ46:M 12 138 0 [2,3,4,5,8,9,33,35,39] 0:=hi<|aa [(0,139),(2,142)] I<|ak (ho μ19) I I<|ak (ho μ42) I I ae
   have μ47:M 13 10 0 [2,3,4,5,8,9,33,35] 0:=hi<|aa [(0,11),(2,14),(7,138)] I<|ak (ho μ20) I I<|ak (ho μ43) I I<|ak (ho μ46) I I ae
   have μ48:M 13 130 0 [2,3,4,5,8,9,11,33,39] 0:=hi<|aa [(0,131),(2,134),(3,138)] I<|ak (ho μ21) I I<|ak (ho μ44) I I<|ak (ho μ46) I I ae
   have μ49:M 14 2 0 [2,3,4,5,8,9,11,33] 0:=hi<|aa [(0,3),(2,6),(3,10),(7,130)] I<|ak (ho μ22) I I<|ak (ho μ45) I I<|ak (ho μ47) I I<|ak (ho μ48) I I ae
   have μ50:M 10 188 0 [2,3,4,5,8,37,39] 0:=hi<|aa [(0,189),(1,190)] I<|ak (ho μ23) I I<|ak (ho μ38) I I ae
   have μ51:M 11 60 0 [2,3,4,5,8,37] 0:=hi<|aa [(0,61),(1,62),(7,188)] I<|ak (ho μ24) I I<|ak (ho μ39) I I<|ak (ho μ50) I I ae
   have μ52:M 11 156 0 [2,3,4,5,8,36,39] 0:=hi<|aa [(0,157),(1,158),(5,188)] I<|ak (ho μ25) I I<|ak (ho μ40) I I<|bx I I (aJ I ((aB l j hjl).trans (by rw[hkj]))) I (ho μ50) I I ae
   have μ53:M 12 28 0 [2,3,4,5,8,36] 0:=hi<|aa [(0,29),(1,30),(5,60),(7,156)] I<|ak (ho μ26) I I<|ak (ho μ41) I I<|bx I I (aJ I ((aB l j hjl).trans (by rw[hkj]))) I (ho μ51) I I<|ak (ho μ52) I I ae
   have μ54:M 12 140 0 [2,3,4,5,8,34,35,39] 0:=hi<|aa [(0,141),(1,142),(4,156)] I<|ak (ho μ27) I I<|ak (ho μ42) I I<|bx I I (aM (j) I) I (ho μ52) I I ae
   have μ55:M 13 12 0 [2,3,4,5,8,34,35] 0:=hi<|aa [(0,13),(1,14),(4,28),(7,140)] I<|ak (ho μ28) I I<|ak (ho μ43) I I<|bx I I (aM (j) I) I (ho μ53) I I<|ak (ho μ54) I I ae
   have μ56:M 13 132 0 [2,3,4,5,8,11,34,39] 0:=hi<|aa [(0,133),(1,134),(3,140)] I<|ak (ho μ29) I I<|ak (ho μ44) I I<|ak (ho μ54) I I ae
   have μ57:M 14 4 0 [2,3,4,5,8,11,34] 0:=hi<|aa [(0,5),(1,6),(3,12),(7,132)] I<|ak (ho μ30) I I<|ak (ho μ45) I I<|ak (ho μ55) I I<|ak (ho μ56) I I ae
   have μ58:M 13 136 0 [2,3,4,5,8,9,35,39] 0:=hi<|aa [(0,137),(1,138),(2,140)] I<|ak (ho μ31) I I<|ak (ho μ46) I I<|ak (ho μ54) I I ae
   have μ59:M 14 8 0 [2,3,4,5,8,9,35] 0:=hi<|aa [(0,9),(1,10),(2,12),(7,136)] I<|ak (ho μ32) I I<|ak (ho μ47) I I<|ak (ho μ55) I I<|ak (ho μ58) I I ae
   have μ60:M 14 128 0 [2,3,4,5,8,9,11,39] 0:=hi<|aa [(0,129),(1,130),(2,132),(3,136)] I<|ak (ho μ33) I I<|ak (ho μ48) I I<|ak (ho μ56) I I<|ak (ho μ58) I I ae
   have μ61:M 15 0 0 [2,3,4,5,8,9,11] 0:=hi<|aa [(0,1),(1,2),(2,4),(3,8),(7,128)] I<|ak (ho μ34) I I<|ak (ho μ49) I I<|ak (ho μ57) I I<|ak (ho μ59) I I<|ak (ho μ60) I I ae
   exact μ61
  refine aj<|ab (.a 3 I<|.k [2,3,4,5,8,12,45,46] I)<|eI (σ':=[some (.cells 76 [.raw (.slice none 0 0),flag false,.raw (.slice none 0 0)]),lJ (lG T M own 0)]) (by rw[Bx hMl]) ?_
  refine aw<|eS [2,3,4,5,8,12,45,46] I<|bu (fun r s=>∃a,a≤2*T.ag.length∧r=2*T.ag.length - a∧s=⟨[(2,num n),(3,num d),(4,.bc (bC T) 0),(5,.bc [bq own] 0),(8,.ptr 0 0),(12,.own 1),(45,num M.length),(46,num a)],[some (.cells 76 [.raw (.slice none 0 0),flag false,.raw (.slice none 0 0)]),lJ (lG T M own a)]⟩) (2*T.ag.length) ⟨0,by omega,by omega,rfl⟩ ?_
  rintro r s ⟨a,ha2,rfl,rfl⟩
  have hol:=qL T M own a
  refine ab (.a 1 I<|.k [2,3,4,5,8,12,45,46,47] I)<|aj<|ah I (fun h4=>?_) (fun h4=>?_)
  ·have hlt:a<2*T.ag.length:=by have:=tt h4;omega
   have hst:=Bq T M own a
   have hat:=FJ (T:=T) (D:=M) (E:=own) hlt
   clear h4
   refine ai<|aj<|aw<|ab (.a 2 I<|.k [2,3,4,5,8,12,14,45,46] I) ?_
   obtain⟨c1,hc1⟩:∃q,aQ M a=q:=⟨_,rfl⟩
   obtain⟨c2,hc2⟩:∃q,aQ own a=q:=⟨_,rfl⟩
   rw[hc1,hc2]at hst
   rw[hc1]at hat
   refine Ja (Q1:=fun st=>st=⟨[(2,num n),(3,num d),(4,.bc (bC T) 0),(5,.bc [bq own] 0),(8,.ptr 0 0),(12,.own 1),(45,num M.length),(46,num a)],[some (.cells 76 [.raw (.slice none 0 0),flag false,.raw (.slice none 0 0)]),lJ (lG T M own (a+1))]⟩) ?_ ?_
   ·cases c1
    ·refine bG<|av 4 I<|bw (aM (a) I) I<|bw (aJ I ((show(bX (lG T M own a))[a]? =some (flag false) by rw[dy _ a (by omega),hat]))) I<|av 3 I<|bw (aM (a) I) I<|bw (aJ I ((show(bX own)[a]? =some (flag c2) by rw[dy _ a (by omega),fL,hc2]))) I<|av 1 I<|bw (aM (a) I) I<|bb ((by first|exact bO I (ba.tk.get I) I I I (by first|omega|(simp;omega))|exact bf I (ba.tk.get I) I I I (by first|omega|(simp;omega)))) I I<|aG [2,3,4,5,8,12,45,46] I ?_
     rw[←hst]
     unfold lJ
     rw[List.length_set]
     rfl
    ·refine bG<|av 4 I<|bw (aM (a) I) I<|bw (aJ I ((show(bX (lG T M own a))[a]? =some (flag true) by rw[dy _ a (by omega),hat]))) I<|av 6 I<|bw (aM (a) I) I<|bb ((by first|exact bO I (ba.tk.get I) I I I (by first|omega|(simp;omega))|exact bf I (ba.tk.get I) I I I (by first|omega|(simp;omega)))) I I<|aG [2,3,4,5,8,12,45,46] I ?_
     rw[←hst]
     unfold lJ
     rw[List.length_set]
     rfl
   rintro _ rfl
   refine aC (.v (aV I) I<|.a 1 I<|.k [2,3,4,5,8,12,45,46] I) ?_
   exact⟨2*T.ag.length - (a+1),by omega,a+1,by omega,rfl,rfl⟩
  ·have hae:a=2*T.ag.length:=by have:=ff h4;omega
   subst hae
   rw[D1]
   clear h4
   refine bh<|aj<|Fv 12 1 I I ?_
   refine dI [0] (.c 2<|.c 3<|.c 4<|.c 5<|.c 8<|.c 12<|.nil) (.kept rfl (.cells (aH.c<|aH.c<|aH.c<|aH.nil))<|.nil) I I ?_
   obtain⟨q,hq⟩:∃q,iT T (orM T M own) n d=q:=⟨_,rfl⟩
   rw[hq]at hmx
   refine ab (.a 4 I<|.c rfl (hq▸yl T (orM T M own) n d) I<|.a 1 I<|.k [2,3,4,5,8,12,68] I)<|ah I (fun h5=>?_) (fun h5=>?_)
   ·have h5:q=false:=by simpa using h5
    rw[h5,if_neg (by simp)]at hmx
    rw[hmx]at hre ⊢
    refine aC (.a 2 I<|.k [2,3,4,8,12] I) ?_
    refine aP<|av 4 I<|fe I (hre) I<|av 6 I<|aG [8,15] I ?_
    refine aP<|av 2 I<|aG [8] I ?_
    exact ao<|⟨_,_,az.of I,ay.pure (p:=wW _),rfl⟩
   ·have h5:q=true:=by simpa using h5
    rw[h5,if_pos rfl]at hmx
    rw[hmx]at hre ⊢
    refine ai<|aP<|av 4 I<|fe I (hre) I<|av 6 I<|aG [8,15] I ?_
    refine aP<|av 2 I<|aG [8] I ?_
    exact ao<|⟨_,_,az.of I,ay.pure (p:=wW _),rfl⟩
def nm(T:an)(M:List Bool)(o:List Int)(i:Nat):List Bool:=(List.range (2*T.ag.length)).map fun(b:Nat)=>decide ((b:Int)∈o.take i)&&aQ M b
theorem Fq(T:an)(M:List Bool)(o:List Int)(i:Nat):(nm T M o i).length=2*T.ag.length:=by simp[nm]
theorem sx{T:an}{M:List Bool}{o:List Int}{i b:Nat}(h:b<(nm T M o i).length):(nm T M o i)[b]=(decide ((b:Int)∈o.take i)&&aQ M b):=by simp[nm]
theorem AR(T:an)(M:List Bool)(o:List Int):nm T M o 0=List.replicate (2*T.ag.length) false:=by
 apply List.ext_getElem (by simp[nm])
 intro i h1 h2
 rw[sx]
 simp
theorem CO{T:an}{M:List Bool}{o:List Int}{i k:Nat}(hi:i<o.length)(hk:o.getD i 0=(k:Int))(hkl:k<2*T.ag.length):nm T M o (i+1)=if aQ M k then(nm T M o i).set k true else nm T M o i:=by
 have hmem:∀b:Nat,((b:Int)∈o.take (i+1))↔((b:Int)∈o.take i∨b=k):=fun b=>by
  rw[dK o i 0 hi,List.mem_append,List.mem_singleton,hk]
  exact⟨fun h=>h.imp id (fun e=>by omega),fun h=>h.imp id (fun e=>by omega)⟩
 split
 ·rename_i hd
  apply List.ext_getElem (by simp[nm])
  intro b h1 h2
  rw[sx,List.getElem_set]
  by_cases e:k=b
  ·subst e
   rw[if_pos rfl,decide_eq_true ((hmem k).2 (.inr rfl)),hd]
   rfl
  ·rw[if_neg e,sx]
   congr 1
   exact decide_eq_decide.2 ((hmem b).trans ⟨fun h=>h.resolve_right (fun e'=>e e'.symm),.inl⟩)
 ·rename_i hd
  unfold nm
  refine List.map_congr_left fun b _=>?_
  by_cases e:b=k
  ·subst e
   rw[Bool.eq_false_iff.2 hd]
   simp
  ·congr 1
   exact decide_eq_decide.2 ((hmem b).trans ⟨fun h=>h.resolve_right e,.inl⟩)
theorem Dr(T:an)(M:List Bool)(n:Int):nm T M (bN T n) (bN T n).length=fX T M n:=by
 unfold nm fX
 refine List.map_congr_left fun b hb=>?_
 have hb:=List.mem_range.1 hb
 rw[List.take_length,Bool.and_comm]
 congr 1
 refine decide_eq_decide.2 (jy.trans ⟨fun h=>by have:=h.2;rwa [Int.toNat_natCast]at this,fun h=>⟨cD.2 (by omega),by rw[Int.toNat_natCast];exact h⟩⟩)
set_option maxHeartbeats 2000000 in
theorem Bb(T:an)(k x n:Int)(h12:T.nodes≤12):Can Tryz.prog 55 [aN T,cq k x,num n] (· =jZ (if eA T k x=0 then(if bm T n then 0 else 2) else 1) (qW T (aE T k x) n.toNat)):=by
 have hmk:=mj T k x
 unfold jY at hmk
 refine aI Tryz.func55 I Tryz.ntmps55 I<|aP<|av 4 I<|aG [2,3,4,6] I ?_
 refine ab (.a 2 I<|.c rfl (hmk) I<|.a 5 I<|.k [2,3,6,8,9] I)<|aj<|ab (.a 2 I<|.k [2,3,6,8,9,22] I)<|ah I (fun h1=>?_) (fun h1=>?_)
 ·have h1:=tt h1
  rw[if_neg h1]
  have h1':=vQ h1
  rw[h1']
  refine aP<|av 4 I<|aG [6,7] I ?_
  exact ao<|⟨_,_,az.of I,ay.aX (af.cons (ay.hZ (af.cons ay.pure<|af.cons ay.bQ<|af.cons ay.bQ af.nil)) (af.cons ay.pure af.nil)),rfl⟩
 ·have h1:eA T k x=0:=Classical.byContradiction (ff h1)
  obtain⟨hv,hc⟩:=Bool.and_eq_true_iff.1 (pz h1)
  rw[if_pos h1,if_pos h1]
  have hll:=bV hv
  refine ai<|aj<|ab (.a 2 I<|.c rfl (dF T n) I<|.a 1 I<|.k [2,3,6,8,28] I)<|ah I (fun h2=>?_) (fun h2=>?_)
  ·have hn:bm T n=false:=by simpa using h2
   rw[hn]
   refine aP<|av 3 I<|aG [6,7] I ?_
   exact ao<|⟨_,_,az.of I,ay.aX (af.cons (ay.hZ (af.cons ay.pure<|af.cons ay.bQ<|af.cons ay.bQ af.nil)) (af.cons ay.pure af.nil)),rfl⟩
  ·have hn:bm T n=true:=by simpa using h2
   rw[hn,if_pos rfl]
   rw[aT]at hn
   obtain⟨m,rfl⟩:=Int.eq_ofNat_of_zero_le hn.1
   rw[Int.toNat_natCast]
   obtain⟨N,hN⟩:∃N:Nat,T.nodes=(N:Int):=⟨T.nodes.toNat,by omega⟩
   have hMl:=fQ T k x
   obtain⟨M,hM⟩:∃M,aE T k x=M:=⟨_,rfl⟩
   rw[hM]at hMl ⊢
   have hol:(bN T m).length≤512:=Nat.le_trans (eM T m _) (by omega)
   clear h2 hmk
   refine ai<|aP<|av 4 I<|aG [2,3,6,8,10] I ?_
   refine cw 1 1 76 3 I I ?_
   refine cw 1 2 3 1 I I ?_
   refine aP<|av 1 I<|fe I (iu T (by omega)) I<|b7 (dT I (ba.rk.get I) I I (show 2*(T.ag.length:Int)=((2*T.ag.length:Nat):Int) by omega) (show 2*(T.ag.length:Int)=((2*T.ag.length:Nat):Int) by omega) ⟨by unfold maxLen;omega,by omega⟩) I<|av 1 I<|aG [2,3,6,8,10,11] I ?_
   refine aj<|ab (.a 2 I<|.c rfl (oF T hll _) I<|.a 2 I<|.k [2,3,6,8,10,11,37,38,39] I)<|aw<|eS [2,3,6,8,10,11,37,38,39] I<|eI (σ':=[some (.cells 56 [num 0,.raw (.slice none 0 0),.raw (.slice none 0 0)]),some (.cells 56 [num m,.own 2,.own 3]),some (.row 76 3 0 []),some (.row 3 1 0 []),some (.row 4 1 (2*T.ag.length) (bX (nm T M (bN T m) 0)))]) (by rw[AR,←iy];rfl) ?_
   refine bu (fun r s=>∃i,i≤(bN T m).length∧r=(bN T m).length - i∧s=⟨[(2,num m),(3,.bc (bC T) 0),(6,.ptr 0 0),(8,bq M),(10,.ptr 1 0),(11,.own 4),(37,au (bN T m)),(38,num (bN T m).length),(39,num i)],[some (.cells 56 [num 0,.raw (.slice none 0 0),.raw (.slice none 0 0)]),some (.cells 56 [num m,.own 2,.own 3]),some (.row 76 3 0 []),some (.row 3 1 (cQ M ((bN T m).take i)).length (aK (cQ M ((bN T m).take i)))),some (.row 4 1 (2*T.ag.length) (bX (nm T M (bN T m) i)))]⟩) (bN T m).length ⟨0,by omega,by omega,rfl⟩ ?_
   rintro r s ⟨i,hi,rfl,rfl⟩
   skip
   refine ab (.a 1 I<|.k [2,3,6,8,10,11,37,38,39,40] I)<|aj<|ah I (fun h3=>?_) (fun h3=>?_)
   ·have hlt:i<(bN T m).length:=by have:=tt h3;omega
    obtain⟨a0,a1⟩:=kp (cm (d:=0) hlt)
    obtain⟨a,ha⟩:=Int.eq_ofNat_of_zero_le a0
    have hal:a<2*T.ag.length:=by omega
    have hstep:cQ M ((bN T m).take (i+1))=cQ M ((bN T m).take i)++(if aQ M a then [(a:Int)] else []):=by
     unfold cQ
     rw[dK _ i 0 hlt,List.filter_append,ha]
     simp only[List.filter_cons,List.filter_nil,Int.toNat_natCast]
    have hdl:(cQ M ((bN T m).take i)).length≤1000:=Nat.le_trans (List.length_filter_le _ _) (by rw[List.length_take];omega)
    have hds:=CO (T:=T) (M:=M) hlt ha hal
    have hdn:=Fq T M (bN T m) i
    obtain⟨q,hq⟩:∃q,aQ M a=q:=⟨_,rfl⟩
    rw[hq]at hstep hds
    clear h3
    refine ai<|aj<|aw<|ab (.v (aM (i) I) I<|.v (aJ I ((aB _ i hlt).trans (by rw[ha]))) I<|.a 1 I<|.k [2,3,6,8,10,11,13,37,38,39] I)<|ab (.a 2 I<|.v (aM (a) I) I<|.v (aJ I ((show(bX M)[a]? =some (flag q) by rw[dy _ a (by omega),fL,hq]))) I<|.k [2,3,6,8,10,11,13,37,38,39,46] I)<|ah I (fun h4=>?_) (fun h4=>?_)
    ·subst h4
     rw[if_pos rfl]at hstep hds
     refine aP<|av 2 I<|bw (aM (a) I) I<|bb ((by first|exact bO I (ba.tk.get I) I I I (by first|omega|(simp;omega))|exact bf I (ba.tk.get I) I I I (by first|omega|(simp;omega)))) I I<|aG [2,3,6,8,10,11,13,37,38,39] I ?_
     refine bG<|av 4 I<|b7 (bg I (ba.rk.get I) I I I I (by unfold maxLen;omega)) I<|av 2 I ?_
     refine eP [0,1,2,5,4] (.c 2<|.c 3<|.c 6<|.c 8<|.c 10<|.c 11<|.c 37<|.c 38<|.c 39<|.nil) (.kept rfl (.cells (aH.c<|aH.c<|aH.c<|aH.nil))<|.kept rfl (.cells (aH.c<|aH.c<|aH.c<|aH.nil))<|.kept rfl (.row aH.pure)<|.kept rfl (.fF rfl (dA _ _))<|.kept rfl (.row aH.pure)<|.nil) I I (bn ?_)
     refine aC (.v (aV I) I<|.a 1 I<|.k [2,3,6,8,10,11,37,38,39] I) ?_
     refine⟨(bN T m).length - (i+1),by omega,i+1,by omega,rfl,?_⟩
     rw[hstep,hds]
     first
      |rfl
      |(simp only[List.length_append,List.length_singleton];rfl)
    ·subst h4
     rw[if_neg (by simp),List.append_nil]at hstep
     rw[if_neg (by simp)]at hds
     refine ai<|aC (.v (aV I) I<|.a 1 I<|.k [2,3,6,8,10,11,37,38,39] I) ?_
     refine⟨(bN T m).length - (i+1),by omega,i+1,by omega,rfl,?_⟩
     rw[hstep,hds]
     first
      |rfl
      |(simp only[List.length_append,List.length_singleton];rfl)
   ·have hie:i=(bN T m).length:=by have:=ff h3;omega
    subst hie
    rw[Dr,List.take_length]
    clear h3
    refine bh<|aj ?_
    have hown:(fX T M m).length=2*T.ag.length:=by simp[fX]
    unfold qW
    obtain⟨own,howe⟩:∃own,fX T M m=own:=⟨_,rfl⟩
    rw[howe]at hown ⊢
    obtain⟨dl,hdl⟩:∃dl,cQ M (bN T m)=dl:=⟨_,rfl⟩
    rw[hdl]
    refine dI [0,1,2,3,4] (.c 2<|.c 3<|.c 6<|.c 10<|.c 11<|.nil) (.kept rfl (.cells (aH.c<|aH.c<|aH.c<|aH.nil))<|.kept rfl (.cells (aH.c<|aH.c<|aH.c<|aH.nil))<|.kept rfl (.row aH.pure)<|.kept rfl (.row aH.pure)<|.kept rfl (.fF (show 2*T.ag.length=own.length by omega) I)<|.nil) I I ?_
    refine Fv 11 4 I I ?_
    refine dI [0,1,2,3] (.c 2<|.c 3<|.c 6<|.c 10<|.c 11<|.nil) (.kept rfl (.cells (aH.c<|aH.c<|aH.c<|aH.nil))<|.kept rfl (.cells (aH.c<|aH.c<|aH.c<|aH.nil))<|.kept rfl (.row aH.pure)<|.kept rfl (.row aH.pure)<|.nil) I I ?_
    refine ab (.a 1 I<|.v (aJ I ((show some (num T.nodes)=some (num (N:Int)) by rw[hN]))) I<|.a 1 I<|.k [2,3,6,10,11,58,59] I)<|aw<|eS [2,3,6,10,11,58,59] I<|bu (fun r s=>∃j,j≤N∧r=N - j∧s=⟨[(2,num m),(3,.bc (bC T) 0),(6,.ptr 0 0),(10,.ptr 1 0),(11,bq own),(58,num N),(59,num j)],[some (.cells 56 [num 0,.raw (.slice none 0 0),.raw (.slice none 0 0)]),some (.cells 56 [num m,.own 2,.own 3]),some (.row 76 3 j (dV (pG T own m j))),some (.row 3 1 dl.length (aK dl))]⟩) N ⟨0,by omega,by omega,rfl⟩ ?_
    rintro r s ⟨j,hj,rfl,rfl⟩
    refine ab (.a 1 I<|.k [2,3,6,10,11,58,59,60] I)<|aj<|ah I (fun h3=>?_) (fun h3=>?_)
    ·have hlt:j<N:=by have:=tt h3;omega
     have hre:=DK T own m j hv hown hn.2 (by omega) h12
     refine ai<|aj<|aw<|ab (.a 2 I<|.k [2,3,6,10,11,14,58,59] I)<|dL 8 20 mixed (
      .val [10] I (aZ I) I I<|
      .val [62] I (aZ I) I I<|
      .val [3] I (aZ I) I I<|
      .val [11] I (aZ I) I I<|
      .val [2] I (aZ I) I I<|
      .val [14] I (aZ I) I I<|
      .val [64,65,66,67] I (dX I (hre)) I I<|
      .val [68] I (aZ I) I I<|
      .nil) (by kernel_rfl) I I (aY (ks:=[2,3,6,10,11,58,59,63,69]) I) ?_
     refine b7 (bg I (ba.rk.get I) I I I I (by unfold maxLen;omega)) I<|av 2 I ?_
     refine eP [0,1,4,3] (.c 2<|.c 3<|.c 6<|.c 10<|.c 11<|.c 58<|.c 59<|.nil) (.kept rfl (.cells (aH.c<|aH.c<|aH.c<|aH.nil))<|.kept rfl (.cells (aH.c<|aH.c<|aH.c<|aH.nil))<|.kept rfl (.fF rfl (show _=dV (pG T own m (j+1)) by rw[Bi];exact nC _ _))<|.kept rfl (.row aH.pure)<|.nil) I I (bn ?_)
     refine aC (.v (aV I) I<|.a 1 I<|.k [2,3,6,10,11,58,59] I) ?_
     exact⟨N - (j+1),by omega,j+1,by omega,rfl,rfl⟩
    ·have hje:j=N:=by have:=ff h3;omega
     subst hje
     refine bh<|aP<|bw (fc (ys:=[num m,.own 2,.own 3]) I (ba.tk.get I) I I I I) I<|av 2 I<|aG [6,7] I ?_
     refine ao<|⟨_,_,az.of I,ay.aX (af.cons (ay.hZ (af.cons ay.pure<|af.cons (ay.fr rfl af.pure)<|af.cons (ay.fr rfl af.pure) af.nil)) (af.cons ay.pure af.nil)),?_⟩
     unfold jZ fv eR ij au
     rw[if_pos rfl,sv,show T.nodes.toNat=j by omega]
end
end PW
end Go.Proofs.YtnegbdpggideiaaGreatDoor
namespace Go.Proofs.YtnegbdpggideiaaGreatDoor
namespace PW
open Go.RowKit cE Mem Net eY
namespace Co
def JU(T:an)(D:List Bool)(d:Nat)(L:List Int)(a:Nat):List Int:=
 if(!aQ D a)&&decide (0≤L.getD (aS T a).toNat 0)&&(decide (aS T a=(d:Int))|| !dh T (aS T a).toNat)&&(decide (L.getD (br T a).toNat 0<0)||decide (L.getD (aS T a).toNat 0+cn T a<L.getD (br T a).toNat 0))
 then L.set (br T a).toNat (L.getD (aS T a).toNat 0+cn T a) else L
def dC(T:an)(D:List Bool)(d:Nat):List Int:=(List.range T.nodes.toNat).foldl (fun L _=>(List.range (2*T.ag.length)).foldl (JU T D d) L) ((List.replicate T.nodes.toNat (-1)).set d 0)
def Hi(T:an)(D:List Bool)(n:Nat)(out:List Int)(a:Nat):Bool:= !aQ D a&&decide (0≤at' out (cX T false a))&&(decide (cX T false a=(n:Int))|| !dh T (cX T false a).toNat)
def IH(T:an)(D:List Bool)(n:Nat)(out:List Int):Bool:=
 decide (out.length=T.nodes.toNat)&&decide (at' out (n:Int)=0)&&(List.range T.nodes.toNat).all (fun x=>decide (-1≤at' out (x:Int)))&&
 (List.range (2*T.ag.length)).all (fun a=> !Hi T D n out a||(decide (0≤at' out (fJ T false a))&&decide (at' out (fJ T false a)≤at' out (cX T false a)+cn T a)))&&
 (List.range T.nodes.toNat).all (fun x=>decide (x=n)||decide (at' out (x:Int)<0)||(List.range (2*T.ag.length)).any fun a=>decide (fJ T false a=(x:Int))&&Hi T D n out a&&decide (at' out (x:Int)=at' out (cX T false a)+cn T a))
def oG(T:an)(D:List Bool):Bool:=(List.range T.nodes.toNat).all fun d=>IH T D d (dC T D d)
theorem uz(T:an)(D:List Bool)(n:Nat)(out:List Int)(a:Nat):Net.Way T D n false out a↔Hi T D n out a=true:=by
 unfold Net.Way Hi
 simp[and_assoc]
theorem Gq{T:an}{D:List Bool}(hv:aq T=true){n:Nat}{out:List Int}(h:IH T D n out=true):iE T D n false out:=by
 have hN:=(aO hv).nodes
 simp only[IH,Bool.and_eq_true,decide_eq_true_eq,List.all_eq_true,List.mem_range,Bool.or_eq_true,Bool.not_eq_true',List.any_eq_true]at h
 obtain⟨⟨⟨⟨h1,h2⟩,h3⟩,h4⟩,h5⟩:=h
 refine⟨by rw[h1];omega,h2,fun x hx=>h3 x (by omega),fun a ha hw=>?_,fun x hx h0=>?_⟩
 ·rcases h4 a ha with h|h
  ·rw[(uz T D n out a).1 hw]at h;cases h
  ·exact h
 ·rcases h5 x (by omega)with(h|h)|⟨a,ha,⟨h6,h7⟩,h8⟩
  ·exact .inl h
  ·omega
  ·exact .inr ⟨a,ha,h6,(uz T D n out a).2 h7,h8⟩
theorem GS{T:an}{D:List Bool}(hv:aq T=true)(h:oG T D=true){d:Nat}(hd:(d:Int)<T.nodes):bH T D d false=dC T D d:=by
 refine kh (aO hv) (Gq hv ?_)
 simp only[oG,List.all_eq_true,List.mem_range]at h
 exact h d (by omega)
def lu(T:an)(D:List Bool)(n d:Nat):List Int:=if n=d∨(dC T D d).getD n 0<0 then [] else lx T D (dC T D d) ((dC T D d).getD n 0) d (bN T n)
theorem next{T:an}{D:List Bool}(hv:aq T=true)(h:oG T D=true){n d:Nat}(hd:(d:Int)<T.nodes):bI T D n d=lu T D n d:=by
 unfold bI lu;rw[GS hv h hd]
def u9(T:an)(D:List Bool)(d:Nat):Nat→Nat→List Int
 |0,_=>[]
 |f+1,n=>match lu T D n d with
  | []=>[]
  |a::_=>a::u9 T D d f (aS T a.toNat).toNat
def rE(T:an)(D:List Bool)(n d:Nat):List Int:=u9 T D d ((dC T D d).getD n 0).toNat n
theorem first{T:an}{D:List Bool}(hv:aq T=true)(h:oG T D=true){d:Nat}(hd:(d:Int)<T.nodes):∀f n,fE T D d f n=u9 T D d f n
 |0,_=>rfl
 |f+1,n=>by
  simp only[fE,u9,next hv h hd]
  cases lu T D n d with
  |nil=>rfl
  |cons a l=>simp only[first hv h hd f]
theorem JI{T:an}{D:List Bool}(hv:aq T=true)(h:oG T D=true){n d:Nat}(hd:(d:Int)<T.nodes):cr T D n d=rE T D n d:=by
 unfold cr rE dN;rw[GS hv h hd,first hv h hd]
def HG(T:an)(D:List Bool)(s d:Int):Int:=if cu T D s d=0 then(if(dC T D d.toNat).getD s.toNat 0<0 then 11 else 0) else cu T D s d
theorem qz{T:an}{D:List Bool}{s d:Int}(h:cu T D s d=0):(d.toNat:Int)<T.nodes∧0≤d:=by
 obtain⟨_,_,_,h4⟩:=fH h
 rw[aT]at h4
 omega
theorem Kv{T:an}{D:List Bool}(hv:aq T=true)(h:oG T D=true)(s d:Int):gR T D s d=HG T D s d:=by
 unfold gR HG dN
 by_cases h0:cu T D s d=0
 ·rw[if_pos h0,if_pos h0,GS hv h (qz h0).1]
 ·rw[if_neg h0,if_neg h0]
def zy(T:an)(D:List Bool)(d:Nat):Nat→Nat→Int
 |0,m=>if m=d then 1 else 0
 |f+1,m=>if m=d then 1 else(lu T D m d).foldl (fun c a=>min 2 (c+zy T D d f (aS T a.toNat).toNat)) 0
theorem lr{T:an}{D:List Bool}(hv:aq T=true)(h:oG T D=true){d:Nat}(hd:(d:Int)<T.nodes):∀f m,nj T D d f m=zy T D d f m
 |0,_=>rfl
 |f+1,m=>by
  simp only[nj,zy,next hv h hd]
  split
  ·rfl
  ·exact foldl_congr fun c a _=>by rw[lr hv h hd f]
def BU(T:an)(D:List Bool)(n:Int)(p:List Int)(i j:Nat):Bool:=
 decide ((dC T D (cI T n (p.take j)).toNat).getD (cI T n (p.take i)).toNat 0=da T (p.take j) - da T (p.take i))&&(decide (cu T D (cI T n (p.take i)) (cI T n (p.take j))=0)&&decide (zy T D (cI T n (p.take j)).toNat ((dC T D (cI T n (p.take j)).toNat).getD (cI T n (p.take i)).toNat 0).toNat (cI T n (p.take i)).toNat=1))
theorem Kl{T:an}{D:List Bool}(hv:aq T=true)(h:oG T D=true)(n:Int)(p:List Int)(i j:Nat):fD T D n p i j=BU T D n p i j:=by
 unfold fD BU fT ek dN
 by_cases h0:cu T D (cI T n (p.take i)) (cI T n (p.take j))=0
 ·rw[GS hv h (qz h0).1,lr hv h (qz h0).1]
 ·rw[decide_eq_false h0];simp
def Dt(T:an)(D:List Bool)(n:Int)(p:List Int):Nat→Nat→List bU
 |0,_=>[]
 |f+1,i=>if i<p.length then(match lI (BU T D n p i) i p.length with
  |some j=>⟨1,cI T n (p.take j)⟩::Dt T D n p f j
  |none=>⟨2,p.getD i 0⟩::Dt T D n p f (i+1)) else []
theorem FH{T:an}{D:List Bool}(hv:aq T=true)(h:oG T D=true)(n:Int)(p:List Int):∀f i,iF T D n p f i=Dt T D n p f i
 |0,_=>rfl
 |f+1,i=>by
  have:fD T D n p i=BU T D n p i:=funext fun j=>Kl hv h n p i j
  simp only[iF,Dt,this]
  split
  ·cases lI (BU T D n p i) i p.length with
   |none=>simp only[FH hv h n p f]
   |some j=>simp only[FH hv h n p f]
  ·rfl
def IE(T:an)(D:List Bool)(n d:Int):iS:=
 if HG T D n d=0∧n≠d then⟨[(rE T D n.toNat d.toNat).getD 0 0],true,jH (Dt T [] n (rE T D n.toNat d.toNat) (rE T D n.toNat d.toNat).length 0)⟩ else⟨[],false,[]⟩
theorem C5{T:an}{D:List Bool}(hv:aq T=true)(h0:oG T []=true)(h:oG T D=true)(n d:Int):jW T D n d=IE T D n d:=by
 unfold jW IE
 rw[Kv hv h]
 by_cases hd:(d.toNat:Int)<T.nodes
 ·unfold i6
  rw[JI hv h hd,FH hv h0]
 ·have:¬HG T D n d=0:=by
   unfold HG
   intro hh
   split at hh
   ·rename_i h1;exact hd (qz h1).1
   ·rename_i h1;exact h1 hh
  rw[if_neg (fun hh=>this hh.1),if_neg (fun hh=>this hh.1)]
def kJ(T:an)(a:Nat)(d:Int):Int×Int:=
 if(decide (0<gA T a)&&decide (HG T (aE T 3 (gA T a)) (br T a) d=0))=true then(3,gA T a)
 else if(decide (aS T a≠d)&&decide (HG T (aE T 2 (aS T a)) (br T a) d=0))=true then(2,aS T a)
 else(1,((a / 2:Nat):Int))
theorem Lj{T:an}(hv:aq T=true){a:Nat}(h3:oG T (aE T 3 (gA T a))=true)(h2:oG T (aE T 2 (aS T a))=true)(d:Int):er T a d=kJ T a d:=by
 unfold er kJ iT
 rw[Kv hv h3,Kv hv h2]
end Co
end PW
end Go.Proofs.YtnegbdpggideiaaGreatDoor
namespace Go.Proofs.YtnegbdpggideiaaGreatDoor
namespace PW
open Go.RowKit cE Mem Net eY
namespace Co
def u5(T:an)(D:List Bool)(n:Nat):de:=⟨n,(List.range T.nodes.toNat).map fun(d:Nat)=>⟨lu T D n d,false,[]⟩,cQ D (bN T n)⟩
theorem Fp{T:an}{D:List Bool}(hv:aq T=true)(h:oG T D=true)(n:Nat):dJ T D n=u5 T D n:=by
 have hN:=(aO hv).nodes
 unfold dJ u5 oS
 congr 1
 refine List.map_congr_left fun d hd=>?_
 have:=List.mem_range.1 hd
 rw[next hv h (by omega)]
end Co
def uM:List Bool:=[true,true,false,false,false,false,false,false]
theorem mF:Co.oG cZ []=true:=by kernel_rfl
def Iw:de:=⟨3,[⟨[6],false,[]⟩,⟨[5,6],false,[]⟩,⟨[5],false,[]⟩,⟨[],false,[]⟩],[]⟩
theorem DD:dJ cZ [] 3=Iw:=(Co.Fp ld mF 3).trans (by kernel_rfl)
end PW
end Go.Proofs.YtnegbdpggideiaaGreatDoor
namespace Go.Proofs.YtnegbdpggideiaaGreatDoor
namespace PW
open Go.RowKit cE Mem Net eY
namespace Co
def F5(T:an)(own:List Bool)(n d:Int)(a:Nat):List Bool:=
 if HG T (orM T (aE T (kJ T a d).1 (kJ T a d).2) own) n d=0 then orM T (aE T (kJ T a d).1 (kJ T a d).2) own else own
def IM(T:an)(own:List Bool)(n d:Nat):iS:=match lK own (lu T [] n d)with
 |none=>⟨lu T [] n d,false,[]⟩
 |some a=>IE T (F5 T own n d a.toNat) n d
def IX(T:an)(own:List Bool)(n d:Nat):Bool:=match lK own (lu T [] n d)with
 |none=>true
 |some a=>oG T (aE T 3 (gA T a.toNat))&&oG T (aE T 2 (aS T a.toNat))&&oG T (orM T (aE T (kJ T a.toNat d).1 (kJ T a.toNat d).2) own)&&oG T (F5 T own n d a.toNat)
theorem rep{T:an}{own:List Bool}{n d:Nat}(hv:aq T=true)(h0:oG T []=true)(hd:(d:Int)<T.nodes)(h:IX T own n d=true):nB T own n d=IM T own n d:=by
 unfold nB IM
 unfold IX at h
 rw[next hv h0 hd]
 cases hh:lK own (lu T [] n d)with
 |none=>rfl
 |some a=>
  rw[hh]at h
  simp only[Bool.and_eq_true]at h
  obtain⟨⟨⟨h1,h2⟩,h3⟩,h4⟩:=h
  have hm:pL T own n d a.toNat=F5 T own n d a.toNat:=by
   unfold pL F5 iT
   rw[Lj hv h1 h2,Kv hv h3]
   by_cases e:HG T (orM T (aE T (kJ T a.toNat (d:Int)).1 (kJ T a.toNat (d:Int)).2) own) n d=0
   ·rw[if_pos (by simpa using e),if_pos e]
   ·rw[if_neg (by simpa using e),if_neg e]
  simp only[]
  rw[hm,C5 hv h0 h4]
def zV(T:an)(M:List Bool)(n:Nat):de:=⟨n,(List.range T.nodes.toNat).map fun d=>IM T (fX T M n) n d,cQ M (bN T n)⟩
theorem Eo{T:an}{M:List Bool}{n:Nat}(hv:aq T=true)(h0:oG T []=true)(h:((List.range T.nodes.toNat).all fun d=>IX T (fX T M n) n d)=true):qW T M n=zV T M n:=by
 have hN:=(aO hv).nodes
 unfold qW zV pG
 congr 1
 refine List.map_congr_left fun d hd=>?_
 have hd':=List.mem_range.1 hd
 exact rep hv h0 (by omega) (List.all_eq_true.1 h d hd)
end Co
def Io:de:=⟨0,[⟨[],false,[]⟩,⟨[7],true,[⟨1,3⟩,⟨1,2⟩,⟨1,1⟩]⟩,⟨[7],true,[⟨1,3⟩,⟨1,2⟩]⟩,⟨[7],false,[]⟩],[0]⟩
theorem En:qW cZ uM 0=Io:=(Co.Eo ld mF (by kernel_rfl)).trans (by kernel_rfl)
end PW
end Go.Proofs.YtnegbdpggideiaaGreatDoor
namespace Go.Proofs.YtnegbdpggideiaaGreatDoor
namespace PW
section
open Go.RowKit cE Mem Net Go.WideShapes
structure ya where
 T:an
 k:Int
 x:Int
 S:List Int
 n:Int
 d:Int
def Bz(c:ya):List PV:=bC c.T++[num c.k,num c.x,au c.S,num c.n,num c.d]
def rq(c:ya):PV:=.agg (Bz c)
instance (c:ya):aL (Bz c):=by unfold Bz;unfold bC;simp only[List.cons_append,List.nil_append];infer_instance
instance (c:ya):IsPure (rq c):=by unfold rq;infer_instance
section
variable {H:Type} {enc:TypeId×Value→H} {W:World}
theorem Hy{n:Nat}{cs:List Value}{y:DataW H×List MemPlace}(h:DataW.trod enc Tryz.prog W 0 (fun _=>true) true n 33 cs=some y)(hl:cs.length=2):∃k x:Int,cs=[.int .i64 k,.int .i64 x]:=by
 have c3:Tryz.prog.cellsOf 3=1:=by kernel_rfl
 obtain⟨xs,m,_,_,_,hlen,hf⟩:=DataW.trod_struct Tryz.underlying33 h
 match cs,hl with
 | [c0,c1],_=>
  match xs,hlen with
  | [y0,y1],_=>
   have f0:DataW.trod enc Tryz.prog W 0 (fun _=>true) true m 3 (([c0,c1].drop 0).take (Tryz.prog.cellsOf 3))=some y0:=hf 0 _ rfl
   rw[c3]at f0
   have f1:DataW.trod enc Tryz.prog W 0 (fun _=>true) true m 3 (([c0,c1].drop 1).take (Tryz.prog.cellsOf 3))=some y1:=hf 1 _ rfl
   rw[c3]at f1
   obtain⟨a0,h0⟩:=gV f0
   obtain⟨a1,h1⟩:=gV f1
   simp at h0 h1
   subst h0 h1
   exact⟨a0,a1,rfl⟩
theorem Jj{base:Nat}{v:Value}{d:DataW H}{p:List MemPlace}(hv:Value.okWide Tryz.prog W .any base 50 v)(h:DataW.Trod enc Tryz.prog W 0 (fun _=>true) true 50 v d p):∃c:ya,cK EN W v (rq c):=by
 have hC:Tryz.prog.cellsOf 50=8:=by kernel_rfl
 have k_topo:Tryz.prog.cellsOf 25=3:=by kernel_rfl
 have k_comp:Tryz.prog.cellsOf 33=2:=by kernel_rfl
 have k_ints:Tryz.prog.cellsOf 37=1:=by kernel_rfl
 have k_int:Tryz.prog.cellsOf 3=1:=by kernel_rfl
 obtain⟨cs,rfl,hsz⟩:=okWide_struct Tryz.underlying50 hv
 rw[hC]at hsz
 obtain⟨fuel,hf⟩:=h
 obtain⟨cl⟩:=cs
 match cl,hsz with
 | [c0,c1,c2,c3,c4,c5,c6,c7],_=>
  obtain⟨xs,m,_,_,_,hlen,hg⟩:=DataW.trod_struct Tryz.underlying50 hf
  match xs,hlen with
  | [y0,y1,y2,y3,y4],_=>
   have f0:DataW.trod enc Tryz.prog W 0 (fun _=>true) true m 25 (([c0,c1,c2,c3,c4,c5,c6,c7].drop 0).take (Tryz.prog.cellsOf 25))=some y0:=hg 0 _ rfl
   rw[k_topo]at f0
   have f1:DataW.trod enc Tryz.prog W 0 (fun _=>true) true m 33 (([c0,c1,c2,c3,c4,c5,c6,c7].drop 3).take (Tryz.prog.cellsOf 33))=some y1:=hg 1 _ rfl
   rw[k_comp]at f1
   have f2:DataW.trod enc Tryz.prog W 0 (fun _=>true) true m 37 (([c0,c1,c2,c3,c4,c5,c6,c7].drop 5).take (Tryz.prog.cellsOf 37))=some y2:=hg 2 _ rfl
   rw[k_ints]at f2
   have f3:DataW.trod enc Tryz.prog W 0 (fun _=>true) true m 3 (([c0,c1,c2,c3,c4,c5,c6,c7].drop 6).take (Tryz.prog.cellsOf 3))=some y3:=hg 3 _ rfl
   rw[k_int]at f3
   have f4:DataW.trod enc Tryz.prog W 0 (fun _=>true) true m 3 (([c0,c1,c2,c3,c4,c5,c6,c7].drop 7).take (Tryz.prog.cellsOf 3))=some y4:=hg 4 _ rfl
   rw[k_int]at f4
   obtain⟨T,hT⟩:=D8 f0 rfl
   obtain⟨k,x,hkx⟩:=Hy f1 rfl
   simp only[List.drop,List.take,List.cons.injEq,and_true]at hkx
   obtain⟨rfl,rfl⟩:=hkx
   obtain⟨L2,hL2⟩:=HA f2
   obtain⟨n3,hn3⟩:=gV f3
   simp at hn3
   subst hn3
   obtain⟨n4,hn4⟩:=gV f4
   simp at hn4
   subst hn4
   have hall:bd EN W [c0,c1,c2,.int .i64 k,.int .i64 x,c5,.int .i64 n3,.int .i64 n4] (Bz ⟨T,k,x,L2,n3,n4⟩):=hT.append (bd.cons (.raw _)<|bd.cons (.raw _)<|bd.cons (hL2)<|bd.cons (.raw _)<|bd.cons (.raw _)<|(bd.nil _ _))
   exact⟨⟨T,k,x,L2,n3,n4⟩,.agg _ _ (by simpa using hall.1) (fun i x u h1 h2=>hall.2 i x u (by simpa using h1) h2)⟩
end
end
section
open Go.RowKit cE Mem Net eY
def tooBig(T:an):Bool:=decide ((10:Int)<T.nodes)||decide ((16:Int)<T.ag.length)
theorem G8{T:an}(h:tooBig T=false):T.nodes≤12∧T.ag.length≤16:=by
 unfold tooBig at h
 simp only[Bool.or_eq_false_iff,decide_eq_false_iff_not]at h
 omega
theorem Bu(L:List Int):Can Tryz.prog 35 [au L,au L] (· =flag true):=by
 have h:=BY L L
 rw[show nt L L=true from decide_eq_true rfl]at h
 exact h
theorem ay.qi{σ:cc}{i e s n m:Nat}{xs ys:List PV}[aL ys](h:σ[i]? =some (some (.row e s n xs)))(hx:xs=ys)(hn:n=m):ay σ (.own i) (.slice m ys):=by subst hx;subst hn;exact ay.fr h af.pure
def H0(T:an)(k x k' x':Int)(m:Nat):Bool:=(List.range m).all fun a=> !cR k x T.ag (a / 2)||cR k' x' T.ag (a / 2)
def C4(T:an)(k x k' x':Int):Bool:=H0 T k x k' x' (2*T.ag.length)
noncomputable def KW(T:an)(M:List Bool)(k x:Int)(a j:Nat):Bool:=(List.range j).all fun(d:Nat)=> !iT T M (br T a) d||C4 T k x (er T a d).1 (er T a d).2
noncomputable def K5(T:an)(M:List Bool)(k x:Int)(a:Nat):Bool:=(!aQ M a||(decide (k=2)&&decide (br T a=x)))||KW T M k x a T.nodes.toNat
noncomputable def Ki(T:an)(k x:Int)(m:Nat):Bool:=(List.range m).all fun a=>K5 T (aE T k x) k x a
noncomputable def Im(T:an)(k x:Int):Bool:=(aq T&&cp T k x)&&Ki T k x (2*T.ag.length)
open Go.Shelf
attribute [local go_sem] Oper.semAt_some
theorem yi(T:an)(k x:Int):Can Tryz.prog 65 [aN T,cq k x] (· =flag (aq T&&cp T k x)):=by
 obtain⟨q1,hq1⟩:∃q,aq T=q:=⟨_,rfl⟩
 obtain⟨q2,hq2⟩:∃q,cp T k x=q:=⟨_,rfl⟩
 rw[hq1,hq2]
 refine aI Tryz.func65 I Tryz.ntmps65 I<|ab (.a 3 I<|.k [2,3] I)<|bE 4 (.raw (.bool (q1&&q2))) [] I ?_ ?_
 ·refine .a 1 I<|.c rfl (hq1▸eN T) I<|.a 1 I<|?_
  cases q1
  ·exact .a 5 I<|.k [4] I
  ·exact .a 2 I<|.c rfl (hq2▸mw T k x) I<|.a 2 I<|.k [4] I
 exact ao<|⟨_,_,az.of I,ay.pure,rfl⟩
end
section
open Go.RowKit cE Mem Net eY
abbrev KM(p:Int×Int):Value:=.agg (pR p)
theorem ot{T:an}{k x:Int}{a:Nat}(ha:a<2*T.ag.length):aQ (aE T k x) a=cR k x T.ag (a / 2):=by
 rw[←fL]
 unfold aE
 simp[ha]
def Fl(T:an)(k x:Int)(l:List ((Int×Int)×PV)):Prop:=∀c v,(c,v)∈l→v=flag (C4 T k x c.1 c.2)
theorem Fl.pure{T:an}{k x:Int}{l:List ((Int×Int)×PV)}(h:Fl T k x l):aL ((gb KM l).map (·.2)):=⟨fun i u hu=>by
 have hm:=List.mem_of_getElem? hu
 simp only[gb,List.map_map,List.mem_map]at hm
 obtain⟨a,ha,rfl⟩:=hm
 have:=h a.1 a.2 ha
 show IsPure a.2
 rw[this]
 infer_instance⟩
theorem Fl.set{T:an}{k x:Int}{l:List ((Int×Int)×PV)}(h:Fl T k x l)(c:Int×Int):Fl T k x (iI c (flag (C4 T k x c.1 c.2)) l):=fun c' v hm=>by
 rcases qV hm with e|e
 ·cases e;rfl
 ·exact h c' v e
section
variable {T:an}
theorem Ch.last{D:List Bool}{d n:Nat}{p:List Int}(h:Ch T D d n p):n≠d→∃a,a<2*T.ag.length∧aQ D a=false∧aS T a=(d:Int):=by
 induction h with
 |nil=>intro h;exact absurd rfl h
 | @cons n a m p h1 h2 h3 h4 _ _ ih=>
  intro _
  by_cases e:m=d
  ·subst e;exact⟨a,h1,h3,h4⟩
  ·exact ih e
theorem Gf(a:Nat):(br T a=(cC T.ag (a / 2)).a∧aS T a=(cC T.ag (a / 2)).b)∨(br T a=(cC T.ag (a / 2)).b∧aS T a=(cC T.ag (a / 2)).a):=by
 unfold aS br Net.flip
 by_cases h:a % 2=0
 ·rw[if_pos h,if_pos h,if_neg (by omega),show(a+1) / 2=a / 2 by omega]
  exact .inl ⟨rfl,rfl⟩
 ·rw[if_neg h,if_neg h,if_pos (by omega),show(a - 1) / 2=a / 2 by omega]
  exact .inr ⟨rfl,rfl⟩
theorem KQ{x:Int}{i:Nat}:cR 1 x T.ag i=decide ((i:Int)=x):=by simp[cR]
theorem KT{x:Int}{i:Nat}:cR 2 x T.ag i=(decide ((cC T.ag i).a=x)||decide ((cC T.ag i).b=x)):=by simp[cR]
end
end
end PW
end Go.Proofs.YtnegbdpggideiaaGreatDoor
