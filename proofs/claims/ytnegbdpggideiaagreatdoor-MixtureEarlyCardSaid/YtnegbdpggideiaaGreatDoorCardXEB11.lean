/- Texts of the proof, part 11. -/
import Derived.Test.YtnegbdpggideiaaGreatDoorCardXEB10
set_option linter.unusedVariables false
set_option linter.unusedSimpArgs false
set_option maxRecDepth 10000
set_option maxHeartbeats 1000000
namespace Go.Proofs.YtnegbdpggideiaaGreatDoor
namespace PW
section
open Go.RowKit cG Mem Net
theorem CA(rs:List (List Int))(i:Nat)(hi:i<rs.length):Can Tryz.prog 204 ([num i]++[.bb [kC rs] 0]) (· =av (rs.getD i [])):=by
 exact aH Tryz.func204 I Tryz.ntmps204 I<|ab (.a 1 I<|.k [0,1] I)<|ab (.a 2 I<|.v (aN (i) I) I<|.v (aJ I ((show(rs.map av)[i]? =some (av (rs.getD i [])) by simp[hi]))) I<|.a 1 I<|.k [3] I)<|ao<|⟨_,_,az.of I,ay.pure,rfl⟩
theorem BW(T:ak)(a:Nat)(ha:a<2*T.ae.length)(hl:T.ae.length≤4611686018427387902):Can Tryz.prog 205 ([num a]++[.bb (bC T) 0]) (· =num (aS T a)):=by
 exact aH Tryz.func205 I Tryz.ntmps205 I<|ab (.a 1 I<|.k [0,1] I)<|ab (.a 2 I<|.c rfl (fZ T a ha hl) I<|.a 1 I<|.k [3] I)<|ao<|⟨_,_,az.of I,ay.pure,rfl⟩
theorem DO(T:ak)(D:List Bool)(d:Int):Can Tryz.prog 180 [aP T,bn D,num d] (· =dY (cD T D [d]) (bG T D d.toNat true)):=by
 refine aH Tryz.func180 I Tryz.ntmps180 I<|ab (.a 3 I<|.k [1,2,3] I)<|aj<|ab (.a 4 I<|.c rfl (o5 T D [d] (by simp)) I<|.a 1 I<|.k [1,2,3,8] I)<|ab (.a 2 I<|.k [1,2,3,8,17] I)<|ag I (fun hc=>?_) (fun hc=>?_)
 ·have he:cD T D [d]≠0:=of_decide_eq_true hc
  exact ab (.a 3 I<|.k [6,7] I)<|ao<|⟨_,_,az.of I,ay.aX (ah.cons ay.bM (ah.cons ay.pure ah.nil)),by unfold dY;rw[if_neg he];rfl⟩
 ·have he:cD T D [d]=0:=by have:=of_decide_eq_false hc;omega
  have hok:(aq T&&bW T D)=true∧bu T d=true:=by
   unfold cD at he
   split at he
   ·rename_i h1
    split at he
    ·rename_i h2;exact⟨h1,by simpa using h2⟩
    ·omega
   ·omega
  obtain⟨hvf,hnd⟩:=hok
  obtain⟨hv,hf⟩:=Bool.and_eq_true_iff.1 hvf
  have hd:0≤d∧d<T.nodes:=by simpa[bu]using hnd
  obtain⟨n,rfl⟩:=Int.eq_ofNat_of_zero_le hd.1
  have hS:=aM hv
  refine ai<|aO<|aw 1 I<|eW I (lZ T hv) I<|aw 2 I<|aE [1,2,3,9] I ?_
  refine aO<|aw 3 I<|bw (ef I I) I<|aw 4 I<|aE [10] I ?_
  refine xp (.cons 10 I (ay.jI rfl (ah.cons ay.pure<|ah.cons ay.pure<|ah.cons ay.pure<|ah.cons ay.pure<|ah.cons ay.pure<|ah.cons (ay.iY (ah.cons (ay.jI rfl (ah.cons ay.pure ah.nil)) ah.nil))<|ah.cons ay.pure ah.nil)) .nil) ?_
  exact ab (.a 1 I<|.c rfl (Ap T D n true 204 205 [.bb [kC (dH (bm T) T.nodes.toNat (2*T.ae.length))] 0] [.bb (bC T) 0] hv hf hd.2 (by kernel_rfl) (by kernel_rfl) (fun i hi=>by have h:=CA (dH (bm T) T.nodes.toNat (2*T.ae.length)) i (by rw[fv];omega);rw[jn _ _ _ _ (by omega)]at h;exact h) (fun a ha=>BW T a ha (by have:=bT hv;omega))) I<|.a 2 I<|.k [6,7] I)<|ao<|⟨_,_,az.of I,ay.pure,by unfold dY;rw[if_pos he,he];rfl⟩
open eY
theorem CR{P:Program}{N L:Nat}{id:Nat}{l:List Oper}{y:Code}{st:St}{Q:Exit→St→Prop}(t':cn)(σ':cg)(t'':cn)(σ'':cg)(hm:P.follows .mixedOrders=true)(h:WA P N L l.toArray l.length (Array.replicate l.length false) st (fun s=>(s.σ=σ'∧Sub s.t t')∨(s.σ=σ''∧Sub s.t t'')))(hr:W P N L y ⟨t',σ'⟩ Q→W P N L y ⟨t'',σ''⟩ Q)(hq:W P N L y ⟨t',σ'⟩ Q):W P N L (.seq (.region id l.toArray true) y) st Q:=
 oX hm (h.mono fun s hs=>by
  obtain⟨t,σ⟩:=s
  rcases hs with⟨h1,h2⟩|⟨h1,h2⟩
  ·subst h1;exact ln h2 hq
  ·subst h1;exact ln h2 (hr hq))
theorem zu(T:ak)(k x:Int):bW T (gC T k x)=true:=by
 unfold gC
 split
 ·exact du T k x
 ·exact jw T
theorem D4(T:ak)(k x:Int)(n:Nat)(hv:aq T=true)(hn:(n:Int)<T.nodes):Can Tryz.prog 179 ([ca k x]++[.bb (bC T) 0,.bb [num n] 0]) (· =av (bG T (gC T k x) n true)):=by
 have hmk:=mw T k x
 unfold iO at hmk
 have hfr:=DO T (gC T k x) n
 have hch:cD T (gC T k x) [(n:Int)]=0:=by
  unfold cD
  rw[hv,zu]
  simp[aT.2 (show 0≤(n:Int)∧(n:Int)<T.nodes by omega)]
 rw[hch]at hfr
 unfold dY at hfr
 rw[if_pos rfl,Int.toNat_natCast]at hfr
 exact aH Tryz.func179 I Tryz.ntmps179 I<|ab (.a 2 I<|.k [1,2,3] I)<|ab (.a 2 I<|.c rfl (hmk) I<|.a 5 I<|.k [1,2,5] I)<|ab (.a 3 I<|.c rfl (hfr) I<|.a 5 I<|.k [7] I)<|ab (.a 2 I<|.k [4] I)<|ao<|⟨_,_,az.of I,ay.pure,rfl⟩
theorem DB(g:Int)(L:List Int)(d:Nat)(c2:Bool)(hL:0<g→d<L.length∧decide (0≤L.getD d 0)=c2):Can Tryz.prog 181 ([num d]++[.bb (cC 3 g) 0,.bb [av L] 0]) (· = .tuple [ca 3 g,flag (decide (0<g)&&c2)]):=by
 obtain⟨c1,hc1⟩:∃q,decide (0<g)=q:=⟨_,rfl⟩
 rw[hc1]
 refine aH Tryz.func181 I Tryz.ntmps181 I<|aO<|aw 2 I<|aE [0,1,2,4] I ?_
 refine vf (Q1:=fun st=>st=⟨[(4,.ptr 0 0),(5,flag (c1&&c2))],[some (.cells 33 (cC 3 g))]⟩) ?_ ?_
 ·cases c1
  ·refine tO 20 1 ([some (.cells 33 [num 0,num 0])]::[some (.cells 33 (cC 3 g))]::[]) (⟨_,none,0,0⟩::⟨_,none,0,0⟩::⟨_,none,0,0⟩::⟨_,none,0,0⟩::⟨_,none,0,0⟩::⟨_,none,0,1⟩::⟨_,none,0,1⟩::⟨_,none,0,1⟩::⟨_,none,0,1⟩::⟨_,none,0,1⟩::⟨_,none,0,1⟩::⟨_,some 0,0,0⟩::⟨_,none,1,1⟩::[]) _ mixed ?grd1 rfl rfl rfl rfl (.cons (.val [1] I I (yz (bZ (aZ I) df)) I I)<|.cons (.val [1] I I (yz (bZ (aZ I) df)) I I)<|.cons (.val [7] I I (yz (bZ (aZ I) df)) I I)<|.cons (.val [8] I I (yz (bZ (cf I (hc1)) df)) I I)<|.cons (.val [9] I I (yz (bZ (aZ I) df)) I I)<|.cons (.skip rfl rfl rfl)<|.cons (.skip rfl rfl rfl)<|.cons (.skip rfl rfl rfl)<|.cons (.skip rfl rfl rfl)<|.cons (.skip rfl rfl rfl)<|.cons (.val [10,15] I I (yz (bZ (aZ I) (bZ (aZ I) df))) I I)<|.cons (.ll [4,6] I I I I (er I) I)<|.cons (.val [16] I I (yz (bZ (aZ I) df)) I I) .nil) (aY (ks:=[4,5]) I) ?_
   case grd1=>kernel_rfl
   rfl
  ·refine tO 20 1 ([some (.cells 33 [num 0,num 0])]::[some (.cells 33 (cC 3 g))]::[]) (⟨_,none,0,0⟩::⟨_,none,0,0⟩::⟨_,none,0,0⟩::⟨_,none,0,0⟩::⟨_,none,0,0⟩::⟨_,none,0,1⟩::⟨_,none,0,1⟩::⟨_,none,0,1⟩::⟨_,none,0,1⟩::⟨_,none,0,1⟩::⟨_,none,0,1⟩::⟨_,some 0,0,0⟩::⟨_,none,1,1⟩::[]) _ mixed ?grd2 rfl rfl rfl rfl (.cons (.val [1] I I (yz (bZ (aZ I) df)) I I)<|.cons (.val [1] I I (yz (bZ (aZ I) df)) I I)<|.cons (.val [7] I I (yz (bZ (aZ I) df)) I I)<|.cons (.val [8] I I (yz (bZ (cf I (hc1)) df)) I I)<|.cons (.val [9] I I (yz (bZ (aZ I) df)) I I)<|.cons (.val [2] I I (yz (bZ (aZ I) (bZ (aZ I) df))) I I)<|.cons (.val [0] I I (yz (bZ (aZ I) (bZ (aZ I) df))) I I)<|.cons (.val [11,12] I I (yz (bZ (aN (d) I (by omega) (by have:=(hL (tt hc1)).1;omega)) (bZ (aN (d) I (by omega) (by have:=(hL (tt hc1)).1;omega)) df))) I I)<|.cons (.val [13] I I (yz (bZ (aJ I (aB L d (hL (tt hc1)).1)) (bZ (aJ I (aB L d (hL (tt hc1)).1)) df))) I I)<|.cons (.val [14] I I (yz (bZ (cf I ((hL (tt hc1)).2)) (bZ (cf I ((hL (tt hc1)).2)) df))) I I)<|.cons (.val [10,15] I I (yz (bZ (aZ I) (bZ (aZ I) df))) I I)<|.cons (.ll [4,6] I I I I (er I) I)<|.cons (.val [16] I I (yz (bZ (aZ I) df)) I I) .nil) (aY (ks:=[4,5]) I) ?_
   case grd2=>kernel_rfl
   rfl
 rintro _ rfl
 exact ao<|⟨_,_,az.of I,ay.pure (p:=.tuple [ca 3 g,flag (c1&&c2)]),rfl⟩
theorem E9(h:Int)(L:List Int)(d:Nat)(c2:Bool)(hd:d<L.length)(hL:decide (0≤L.getD d 0)=c2):Can Tryz.prog 182 ([num d]++[.bb (cC 2 h) 0,.bb [num h] 0,.bb [av L] 0]) (· = .tuple [ca 2 h,flag (decide (h≠d)&&c2)]):=by
 obtain⟨c1,hc1⟩:∃q,decide ((d:Int)≠h)=q:=⟨_,rfl⟩
 have hc1':decide (h≠(d:Int))=c1:=by rw[←hc1];exact decide_eq_decide.2 ⟨fun e=>e.symm,fun e=>e.symm⟩
 rw[hc1']
 refine aH Tryz.func182 I Tryz.ntmps182 I<|aO<|aw 2 I<|aE [0,1,2,3,5] I ?_
 refine vf (Q1:=fun st=>st=⟨[(5,.ptr 0 0),(6,flag (c1&&c2))],[some (.cells 33 (cC 2 h))]⟩) ?_ ?_
 ·cases c1
  ·refine tO 20 1 ([some (.cells 33 [num 0,num 0])]::[some (.cells 33 (cC 2 h))]::[]) (⟨_,none,0,0⟩::⟨_,none,0,0⟩::⟨_,none,0,0⟩::⟨_,none,0,0⟩::⟨_,none,0,0⟩::⟨_,none,0,1⟩::⟨_,none,0,1⟩::⟨_,none,0,1⟩::⟨_,none,0,1⟩::⟨_,none,0,1⟩::⟨_,none,0,1⟩::⟨_,some 0,0,0⟩::⟨_,none,1,1⟩::[]) _ mixed ?grd3 rfl rfl rfl rfl (.cons (.val [1] I I (yz (bZ (aZ I) df)) I I)<|.cons (.val [0] I I (yz (bZ (aZ I) df)) I I)<|.cons (.val [2] I I (yz (bZ (aZ I) df)) I I)<|.cons (.val [8,9] I I (yz (bZ (cf I (hc1)) df)) I I)<|.cons (.val [10] I I (yz (bZ (aZ I) df)) I I)<|.cons (.skip rfl rfl rfl)<|.cons (.skip rfl rfl rfl)<|.cons (.skip rfl rfl rfl)<|.cons (.skip rfl rfl rfl)<|.cons (.skip rfl rfl rfl)<|.cons (.val [11,16] I I (yz (bZ (aZ I) (bZ (aZ I) df))) I I)<|.cons (.ll [5,7] I I I I (er I) I)<|.cons (.val [17] I I (yz (bZ (aZ I) df)) I I) .nil) (aY (ks:=[5,6]) I) ?_
   case grd3=>kernel_rfl
   rfl
  ·refine tO 20 1 ([some (.cells 33 [num 0,num 0])]::[some (.cells 33 (cC 2 h))]::[]) (⟨_,none,0,0⟩::⟨_,none,0,0⟩::⟨_,none,0,0⟩::⟨_,none,0,0⟩::⟨_,none,0,0⟩::⟨_,none,0,1⟩::⟨_,none,0,1⟩::⟨_,none,0,1⟩::⟨_,none,0,1⟩::⟨_,none,0,1⟩::⟨_,none,0,1⟩::⟨_,some 0,0,0⟩::⟨_,none,1,1⟩::[]) _ mixed ?grd4 rfl rfl rfl rfl (.cons (.val [1] I I (yz (bZ (aZ I) df)) I I)<|.cons (.val [0] I I (yz (bZ (aZ I) df)) I I)<|.cons (.val [2] I I (yz (bZ (aZ I) df)) I I)<|.cons (.val [8,9] I I (yz (bZ (cf I (hc1)) df)) I I)<|.cons (.val [10] I I (yz (bZ (aZ I) df)) I I)<|.cons (.val [3] I I (yz (bZ (aZ I) (bZ (aZ I) df))) I I)<|.cons (.val [0] I I (yz (bZ (aZ I) (bZ (aZ I) df))) I I)<|.cons (.val [12,13] I I (yz (bZ (aN (d) I) (bZ (aN (d) I) df))) I I)<|.cons (.val [14] I I (yz (bZ (aJ I (aB L d hd)) (bZ (aJ I (aB L d hd)) df))) I I)<|.cons (.val [15] I I (yz (bZ (cf I (hL)) (bZ (cf I (hL)) df))) I I)<|.cons (.val [11,16] I I (yz (bZ (aZ I) (bZ (aZ I) df))) I I)<|.cons (.ll [5,7] I I I I (er I) I)<|.cons (.val [17] I I (yz (bZ (aZ I) df)) I I) .nil) (aY (ks:=[5,6]) I) ?_
   case grd4=>kernel_rfl
   rfl
 rintro _ rfl
 exact ao<|⟨_,_,az.of I,ay.pure (p:=.tuple [ca 2 h,flag (c1&&c2)]),rfl⟩
def F2(g:Int)(L:List Int):PV:=.func 181 [.bb (cC 3 g) 0,.bb [av L] 0]
def F3(h:Int)(L:List Int):PV:=.func 182 [.bb (cC 2 h) 0,.bb [num h] 0,.bb [av L] 0]
def kD(g h k:Int)(L M:List Int):List PV:=[.bb [.slice 2 [F2 g L,F3 h M]] 0,.bb (cC 1 k) 0]
instance (g:Int) (L:List Int):IsPure (F2 g L):=by unfold F2;infer_instance
instance (g:Int) (L:List Int):IsPure (F3 g L):=by unfold F3;infer_instance
instance (g h k:Int) (L M:List Int):aL (kD g h k L M):=by unfold kD;infer_instance
theorem EY(g h k:Int)(L M:List Int)(d:Nat)(c2 c4:Bool)(hL:0<g→d<L.length∧decide (0≤L.getD d 0)=c2)(hd:d<M.length)(hM:decide (0≤M.getD d 0)=c4):Can Tryz.prog 183 ([num d]++kD g h k L M) (· =if(decide (0<g)&&c2)=true then ca 3 g else if(decide (h≠d)&&c4)=true then ca 2 h else ca 1 k):=by
 have h2:=DB g L d c2 hL
 have h3:=E9 h M d c4 hd hM
 obtain⟨o1,ho1⟩:∃o,(decide (0<g)&&c2)=o:=⟨_,rfl⟩
 obtain⟨o2,ho2⟩:∃o,(decide (h≠(d:Int))&&c4)=o:=⟨_,rfl⟩
 rw[ho1]at h2 ⊢
 rw[ho2]at h3 ⊢
 have hrule:∀i,i<2→∃f cap,[F2 g L,F3 h M][i]? =some (.func f cap)∧enters Tryz.prog f=true∧aL ([num d]++cap)∧Can Tryz.prog f ([num d]++cap) (· = .tuple [if i=0 then ca 3 g else ca 2 h,flag (if i=0 then o1 else o2)]):=fun i hi=>by
  match i,hi with
  |0,_=>exact⟨_,_,rfl,by kernel_rfl,inferInstance,h2⟩
  |1,_=>exact⟨_,_,rfl,by kernel_rfl,inferInstance,h3⟩
 unfold kD
 refine aH Tryz.func183 I Tryz.ntmps183 I<|aO<|aw 1 I<|aE [0,1,2,4] I ?_
 refine aj<|ab (.a 3 I<|.k [0,2,4,9,10,11] I)<|au<|eH [0,2,4,9,10,11] I<|bq (fun r s=>∃i,i≤2∧r=2 - i∧(1≤i→o1=false)∧(i=2→o2=false)∧s=⟨[(0,num d),(2,.bb (cC 1 k) 0),(4,.ptr 0 0),(9,.slice 2 [F2 g L,F3 h M]),(10,num 2),(11,num i)],[some (.cells 33 [num 0,num 0])]⟩) 2 ⟨0,by omega,by omega,fun h=>by omega,fun h=>by omega,rfl⟩ ?_
 rintro r s ⟨i,hi,rfl,hi1,hi2,rfl⟩
 refine ab (.a 1 I<|.k [0,2,4,9,10,11,12] I)<|aj<|ag I (fun h1=>?_) (fun h1=>?_)
 ·have hlt:i<2:=by have:=tt h1;omega
  obtain⟨f,cap,hf,hen,hpu,hcan⟩:=hrule i hlt
  obtain⟨kx,kn,hkx⟩:∃kx kn,(if i=0 then ca 3 g else ca 2 h)=ca kx kn:=by
   split
   ·exact⟨_,_,rfl⟩
   ·exact⟨_,_,rfl⟩
  obtain⟨o,ho⟩:∃o,(if i=0 then o1 else o2)=o:=⟨_,rfl⟩
  rw[ho,hkx]at hcan
  haveI:=hpu
  refine ai<|aj<|au<|ab (.v (aN (i) I) I<|.v (aJ I (hf)) I<|.a 1 I<|.k [0,2,4,6,9,10,11] I)<|aO<|aw 2 I<|bw (sh I hen rfl rfl hcan) I<|aw 6 I<|aE [0,2,4,7,8,9,10,11] I ?_
  refine ab (.a 1 I<|.k [0,2,4,7,9,10,11,21] I)<|ag I (fun h2=>?_) (fun h2=>?_)
  ·subst h2
   refine aO<|aw 2 I<|aE [4] I ?_
   refine ao<|⟨_,_,az.of I,ay.pure (p:=ca kx kn),?_⟩
   rw[←hkx]
   by_cases e:i=0
   ·rw[if_pos e]at ho ⊢
    rw[if_pos ho]
   ·rw[if_neg e]at ho ⊢
    rw[if_neg (by rw[hi1 (by omega)];simp),if_pos ho]
  ·subst h2
   refine ai<|dI [0] (.c 0<|.c 2<|.c 4<|.c 9<|.c 10<|.c 11<|.nil) (.kept rfl (.cells aI.pure)<|.nil) I I ?_
   refine aC (.v (aU I) I<|.a 1 I<|.k [0,2,4,9,10,11] I) ?_
   refine⟨2 - (i+1),by omega,i+1,by omega,rfl,fun _=>?_,fun e=>?_,rfl⟩
   ·by_cases e:i=0
    ·rw[if_pos e]at ho;exact ho
    ·exact hi1 (by omega)
   ·rw[if_neg (by omega)]at ho;exact ho
 ·have hie:i=2:=by have:=ff h1;omega
  subst hie
  rw[if_neg (by rw[hi1 (by omega)];simp),if_neg (by rw[hi2 rfl];simp)]
  refine bd<|aO<|aw 2 I<|aE [4] I ?_
  exact ao<|⟨_,_,az.of I,ay.pure (p:=ca 1 k),rfl⟩
noncomputable def IA(T:ak)(a:Nat):List Int:=if 0<gi T a then bG T (gC T 3 (gi T a)) (bm T a).toNat true else []
noncomputable def II(T:ak)(a:Nat):List Int:=bG T (gC T 2 (aS T a)) (bm T a).toNat true
set_option maxHeartbeats 4000000 in
theorem zc(T:ak)(a:Nat)(hv:aq T=true)(ha:a<2*T.ae.length):Can Tryz.prog 155 [aP T,num a] (· = .func 183 (kD (gi T a) (aS T a) ((a / 2:Nat):Int) (IA T a) (II T a))):=by
 have hll:=bT hv
 have hi:a / 2<T.ae.length:=by omega
 have hS:=aM hv
 have htl:=jt T a ha
 have hhd:=fZ T a ha (by omega)
 obtain⟨n,hn⟩:=Int.eq_ofNat_of_zero_le (hS.tail a ha).1
 have hnN:(n:Int)<T.nodes:=by rw[←hn];exact(hS.tail a ha).2
 have hL:IA T a=if 0<gi T a then bG T (gC T 3 (gi T a)) n true else []:=by unfold IA;rw[hn,Int.toNat_natCast]
 have hM:II T a=bG T (gC T 2 (aS T a)) n true:=by unfold II;rw[hn,Int.toNat_natCast]
 rw[hn]at htl
 obtain⟨h,hh⟩:∃h,aS T a=h:=⟨_,rfl⟩
 obtain⟨g,hg⟩:∃g,gi T a=g:=⟨_,rfl⟩
 have hgl:(cF T.ae (a / 2)).vg=g:=hg
 rw[hh]at hhd hM
 rw[hg]at hL
 rw[hL,hM,hh,hg]
 have h1:=fun k x=>D4 T k x n hv hnN
 obtain⟨c1,hc1⟩:∃q,decide (0<g)=q:=⟨_,rfl⟩
 refine aH Tryz.func155 I Tryz.ntmps155 I<|ab (.a 2 I<|.k [1,2] I)<|CR ([(1,num a),(2,.bb (bC T) 0),(5,.ptr 0 0),(6,.ptr 1 0)]) ([some (.cells 3 [num n]),some (.cells 3 [num h])]) ([(1,num a),(2,.bb (bC T) 0),(5,.ptr 1 0),(6,.ptr 0 0)]) ([some (.cells 3 [num h]),some (.cells 3 [num n])]) mixed ?_ (fun hh=>dI [1,0] (.c 1<|.c 2<|.c 5<|.c 6<|.nil) (.kept rfl (.cells aI.pure)<|.kept rfl (.cells aI.pure)<|.nil) I I hh) ?_
 ·refine vV [[(1,num a),(2,.bb (bC T) 0),(14,aP T),(15,num a),(16,num n),(17,aP T),(18,num a),(19,num h)],[(1,num a),(2,.bb (bC T) 0),(5,.ptr 0 0),(14,aP T),(15,num a),(16,num n),(17,aP T),(18,num a),(19,num h)],[(1,num a),(2,.bb (bC T) 0),(6,.ptr 0 0),(14,aP T),(15,num a),(16,num n),(17,aP T),(18,num a),(19,num h)],[(1,num a),(2,.bb (bC T) 0),(5,.ptr 0 0),(6,.ptr 1 0),(14,aP T),(15,num a),(16,num n),(17,aP T),(18,num a),(19,num h)],[(1,num a),(2,.bb (bC T) 0),(5,.ptr 1 0),(6,.ptr 0 0),(14,aP T),(15,num a),(16,num n),(17,aP T),(18,num a),(19,num h)]] [[],[some (.cells 3 [num n]),some (.cells 3 [num h])],[some (.cells 3 [num n]),some (.cells 3 [num 0])],[some (.cells 3 [num 0]),some (.cells 3 [num 0])],[some (.cells 3 [num 0])],[some (.cells 3 [num h]),some (.cells 3 [num n])],[some (.cells 3 [num 0]),some (.cells 3 [num n])]] [1,2] I (by kernel_rfl) (fun M hi ho=>?_)
  have μ0:M 0 1023 3 [1,2,5,6] 1:=hi<|se I (by kernel_rfl) (.inl ⟨rfl,aY (ks:=[1,2,5,6]) I⟩)
  have μ1:M 1 511 3 [1,2,5,6,19] 2:=hi<|aa [(9,1023)] I<|pj I I (er I) I I (ho μ0) I I af
  have μ2:M 2 255 3 [1,2,5,6,16,19] 3:=hi<|aa [(8,511)] I<|pj I I (er I) I I (ho μ1) I I af
  have μ3:M 3 127 1 [1,2,5,16,19] 4:=hi<|aa [(7,255)] I<|cm I I (er I) I (ho μ2) I I af
  have μ4:M 0 1023 4 [1,2,5,6] 5:=hi<|se I (by kernel_rfl) (.inr ⟨rfl,aY (ks:=[1,2,5,6]) I⟩)
  have μ5:M 1 511 4 [1,2,5,6,19] 6:=hi<|aa [(9,1023)] I<|pj I I (er I) I I (ho μ4) I I af
  have μ6:M 2 255 4 [1,2,5,6,16,19] 3:=hi<|aa [(8,511)] I<|pj I I (er I) I I (ho μ5) I I af
  have μ7:M 3 191 2 [1,2,6,16,19] 4:=hi<|aa [(6,255)] I<|cm I I (er I) I (ho μ6) I I af
  have μ8:M 4 63 0 [1,2,16,19] 0:=hi<|aa [(6,127),(7,191)] I<|cm I I (er I) I (ho μ3) I I<|cm I I (er I) I (ho μ7) I I af
  have μ9:M 3 223 3 [1,2,5,6,16,17,18] 3:=hi<|aa [(5,255)] I<|bx I I (dU I (hhd)) I (ho μ2) I I af
  have μ10:M 4 95 1 [1,2,5,16,17,18] 4:=hi<|aa [(5,127),(7,223)] I<|bx I I (dU I (hhd)) I (ho μ3) I I<|cm I I (er I) I (ho μ9) I I af
  have μ11:M 3 223 4 [1,2,5,6,16,17,18] 3:=hi<|aa [(5,255)] I<|bx I I (dU I (hhd)) I (ho μ6) I I af
  have μ12:M 4 159 2 [1,2,6,16,17,18] 4:=hi<|aa [(5,191),(6,223)] I<|bx I I (dU I (hhd)) I (ho μ7) I I<|cm I I (er I) I (ho μ11) I I af
  have μ13:M 5 31 0 [1,2,16,17,18] 0:=hi<|aa [(5,63),(6,95),(7,159)] I<|bx I I (dU I (hhd)) I (ho μ8) I I<|cm I I (er I) I (ho μ10) I I<|cm I I (er I) I (ho μ12) I I af
  have μ14:M 4 207 3 [1,2,5,6,16,17] 3:=hi<|aa [(4,223)] I<|an (ho μ9) I I af
  have μ15:M 5 79 1 [1,2,5,16,17] 4:=hi<|aa [(4,95),(7,207)] I<|an (ho μ10) I I<|cm I I (er I) I (ho μ14) I I af
  have μ16:M 4 207 4 [1,2,5,6,16,17] 3:=hi<|aa [(4,223)] I<|an (ho μ11) I I af
  have μ17:M 5 143 2 [1,2,6,16,17] 4:=hi<|aa [(4,159),(6,207)] I<|an (ho μ12) I I<|cm I I (er I) I (ho μ16) I I af
  have μ18:M 6 15 0 [1,2,16,17] 0:=hi<|aa [(4,31),(6,79),(7,143)] I<|an (ho μ13) I I<|cm I I (er I) I (ho μ15) I I<|cm I I (er I) I (ho μ17) I I af
  have μ19:M 4 215 3 [1,2,5,6,16,18] 3:=hi<|aa [(3,223)] I<|an (ho μ9) I I af
  have μ20:M 5 87 1 [1,2,5,16,18] 4:=hi<|aa [(3,95),(7,215)] I<|an (ho μ10) I I<|cm I I (er I) I (ho μ19) I I af
  have μ21:M 4 215 4 [1,2,5,6,16,18] 3:=hi<|aa [(3,223)] I<|an (ho μ11) I I af
  have μ22:M 5 151 2 [1,2,6,16,18] 4:=hi<|aa [(3,159),(6,215)] I<|an (ho μ12) I I<|cm I I (er I) I (ho μ21) I I af
  have μ23:M 6 23 0 [1,2,16,18] 0:=hi<|aa [(3,31),(6,87),(7,151)] I<|an (ho μ13) I I<|cm I I (er I) I (ho μ20) I I<|cm I I (er I) I (ho μ22) I I af
  have μ24:M 5 199 3 [1,2,5,6,16] 3:=hi<|aa [(3,207),(4,215)] I<|an (ho μ14) I I<|an (ho μ19) I I af
  have μ25:M 6 71 1 [1,2,5,16] 4:=hi<|aa [(3,79),(4,87),(7,199)] I<|an (ho μ15) I I<|an (ho μ20) I I<|cm I I (er I) I (ho μ24) I I af
  have μ26:M 5 199 4 [1,2,5,6,16] 3:=hi<|aa [(3,207),(4,215)] I<|an (ho μ16) I I<|an (ho μ21) I I af
  have μ27:M 6 135 2 [1,2,6,16] 4:=hi<|aa [(3,143),(4,151),(6,199)] I<|an (ho μ17) I I<|an (ho μ22) I I<|cm I I (er I) I (ho μ26) I I af
  have μ28:M 7 7 0 [1,2,16] 0:=hi<|aa [(3,15),(4,23),(6,71),(7,135)] I<|an (ho μ18) I I<|an (ho μ23) I I<|cm I I (er I) I (ho μ25) I I<|cm I I (er I) I (ho μ27) I I af
  have μ29:M 4 219 3 [1,2,5,6,14,15,17,18] 3:=hi<|aa [(2,223)] I<|bx I I (dU I (htl)) I (ho μ9) I I af
  have μ30:M 5 91 1 [1,2,5,14,15,17,18] 4:=hi<|aa [(2,95),(7,219)] I<|bx I I (dU I (htl)) I (ho μ10) I I<|cm I I (er I) I (ho μ29) I I af
  have μ31:M 4 219 4 [1,2,5,6,14,15,17,18] 3:=hi<|aa [(2,223)] I<|bx I I (dU I (htl)) I (ho μ11) I I af
  have μ32:M 5 155 2 [1,2,6,14,15,17,18] 4:=hi<|aa [(2,159),(6,219)] I<|bx I I (dU I (htl)) I (ho μ12) I I<|cm I I (er I) I (ho μ31) I I af
  have μ33:M 6 27 0 [1,2,14,15,17,18] 0:=hi<|aa [(2,31),(6,91),(7,155)] I<|bx I I (dU I (htl)) I (ho μ13) I I<|cm I I (er I) I (ho μ30) I I<|cm I I (er I) I (ho μ32) I I af
  have μ34:M 5 203 3 [1,2,5,6,14,15,17] 3:=hi<|aa [(2,207),(4,219)] I<|bx I I (dU I (htl)) I (ho μ14) I I<|an (ho μ29) I I af
  have μ35:M 6 75 1 [1,2,5,14,15,17] 4:=hi<|aa [(2,79),(4,91),(7,203)] I<|bx I I (dU I (htl)) I (ho μ15) I I<|an (ho μ30) I I<|cm I I (er I) I (ho μ34) I I af
  have μ36:M 5 203 4 [1,2,5,6,14,15,17] 3:=hi<|aa [(2,207),(4,219)] I<|bx I I (dU I (htl)) I (ho μ16) I I<|an (ho μ31) I I af
  have μ37:M 6 139 2 [1,2,6,14,15,17] 4:=hi<|aa [(2,143),(4,155),(6,203)] I<|bx I I (dU I (htl)) I (ho μ17) I I<|an (ho μ32) I I<|cm I I (er I) I (ho μ36) I I af
  have μ38:M 7 11 0 [1,2,14,15,17] 0:=hi<|aa [(2,15),(4,27),(6,75),(7,139)] I<|bx I I (dU I (htl)) I (ho μ18) I I<|an (ho μ33) I I<|cm I I (er I) I (ho μ35) I I<|cm I I (er I) I (ho μ37) I I af
  have μ39:M 5 211 3 [1,2,5,6,14,15,18] 3:=hi<|aa [(2,215),(3,219)] I<|bx I I (dU I (htl)) I (ho μ19) I I<|an (ho μ29) I I af
  have μ40:M 6 83 1 [1,2,5,14,15,18] 4:=hi<|aa [(2,87),(3,91),(7,211)] I<|bx I I (dU I (htl)) I (ho μ20) I I<|an (ho μ30) I I<|cm I I (er I) I (ho μ39) I I af
  have μ41:M 5 211 4 [1,2,5,6,14,15,18] 3:=hi<|aa [(2,215),(3,219)] I<|bx I I (dU I (htl)) I (ho μ21) I I<|an (ho μ31) I I af
  have μ42:M 6 147 2 [1,2,6,14,15,18] 4:=hi<|aa [(2,151),(3,155),(6,211)] I<|bx I I (dU I (htl)) I (ho μ22) I I<|an (ho μ32) I I<|cm I I (er I) I (ho μ41) I I af
  have μ43:M 7 19 0 [1,2,14,15,18] 0:=hi<|aa [(2,23),(3,27),(6,83),(7,147)] I<|bx I I (dU I (htl)) I (ho μ23) I I<|an (ho μ33) I I<|cm I I (er I) I (ho μ40) I I<|cm I I (er I) I (ho μ42) I I af
  have μ44:M 6 195 3 [1,2,5,6,14,15] 3:=hi<|aa [(2,199),(3,203),(4,211)] I<|bx I I (dU I (htl)) I (ho μ24) I I<|an (ho μ34) I I<|an (ho μ39) I I af
  have μ45:M 7 67 1 [1,2,5,14,15] 4:=hi<|aa [(2,71),(3,75),(4,83),(7,195)] I<|bx I I (dU I (htl)) I (ho μ25) I I<|an (ho μ35) I I<|an (ho μ40) I I<|cm I I (er I) I (ho μ44) I I af
  have μ46:M 6 195 4 [1,2,5,6,14,15] 3:=hi<|aa [(2,199),(3,203),(4,211)] I<|bx I I (dU I (htl)) I (ho μ26) I I<|an (ho μ36) I I<|an (ho μ41) I I af
  have μ47:M 7 131 2 [1,2,6,14,15] 4:=hi<|aa [(2,135),(3,139),(4,147),(6,195)] I<|bx I I (dU I (htl)) I (ho μ27) I I<|an (ho μ37) I I<|an (ho μ42) I I<|cm I I (er I) I (ho μ46) I I af
  have μ48:M 8 3 0 [1,2,14,15] 0:=hi<|aa [(2,7),(3,11),(4,19),(6,67),(7,131)] I<|bx I I (dU I (htl)) I (ho μ28) I I<|an (ho μ38) I I<|an (ho μ43) I I<|cm I I (er I) I (ho μ45) I I<|cm I I (er I) I (ho μ47) I I af
  have μ49:M 5 217 3 [1,2,5,6,14,17,18] 3:=hi<|aa [(1,219)] I<|an (ho μ29) I I af
  have μ50:M 6 89 1 [1,2,5,14,17,18] 4:=hi<|aa [(1,91),(7,217)] I<|an (ho μ30) I I<|cm I I (er I) I (ho μ49) I I af
  have μ51:M 5 217 4 [1,2,5,6,14,17,18] 3:=hi<|aa [(1,219)] I<|an (ho μ31) I I af
  have μ52:M 6 153 2 [1,2,6,14,17,18] 4:=hi<|aa [(1,155),(6,217)] I<|an (ho μ32) I I<|cm I I (er I) I (ho μ51) I I af
  have μ53:M 7 25 0 [1,2,14,17,18] 0:=hi<|aa [(1,27),(6,89),(7,153)] I<|an (ho μ33) I I<|cm I I (er I) I (ho μ50) I I<|cm I I (er I) I (ho μ52) I I af
  have μ54:M 6 201 3 [1,2,5,6,14,17] 3:=hi<|aa [(1,203),(4,217)] I<|an (ho μ34) I I<|an (ho μ49) I I af
  have μ55:M 7 73 1 [1,2,5,14,17] 4:=hi<|aa [(1,75),(4,89),(7,201)] I<|an (ho μ35) I I<|an (ho μ50) I I<|cm I I (er I) I (ho μ54) I I af
  have μ56:M 6 201 4 [1,2,5,6,14,17] 3:=hi<|aa [(1,203),(4,217)] I<|an (ho μ36) I I<|an (ho μ51) I I af
  have μ57:M 7 137 2 [1,2,6,14,17] 4:=hi<|aa [(1,139),(4,153),(6,201)] I<|an (ho μ37) I I<|an (ho μ52) I I<|cm I I (er I) I (ho μ56) I I af
  have μ58:M 8 9 0 [1,2,14,17] 0:=hi<|aa [(1,11),(4,25),(6,73),(7,137)] I<|an (ho μ38) I I<|an (ho μ53) I I<|cm I I (er I) I (ho μ55) I I<|cm I I (er I) I (ho μ57) I I af
  have μ59:M 6 209 3 [1,2,5,6,14,18] 3:=hi<|aa [(1,211),(3,217)] I<|an (ho μ39) I I<|an (ho μ49) I I af
  have μ60:M 7 81 1 [1,2,5,14,18] 4:=hi<|aa [(1,83),(3,89),(7,209)] I<|an (ho μ40) I I<|an (ho μ50) I I<|cm I I (er I) I (ho μ59) I I af
  have μ61:M 6 209 4 [1,2,5,6,14,18] 3:=hi<|aa [(1,211),(3,217)] I<|an (ho μ41) I I<|an (ho μ51) I I af
  have μ62:M 7 145 2 [1,2,6,14,18] 4:=hi<|aa [(1,147),(3,153),(6,209)] I<|an (ho μ42) I I<|an (ho μ52) I I<|cm I I (er I) I (ho μ61) I I af
  have μ63:M 8 17 0 [1,2,14,18] 0:=hi<|aa [(1,19),(3,25),(6,81),(7,145)] I<|an (ho μ43) I I<|an (ho μ53) I I<|cm I I (er I) I (ho μ60) I I<|cm I I (er I) I (ho μ62) I I af
  have μ64:M 7 193 3 [1,2,5,6,14] 3:=hi<|aa [(1,195),(3,201),(4,209)] I<|an (ho μ44) I I<|an (ho μ54) I I<|an (ho μ59) I I af
  have μ65:M 8 65 1 [1,2,5,14] 4:=hi<|aa [(1,67),(3,73),(4,81),(7,193)] I<|an (ho μ45) I I<|an (ho μ55) I I<|an (ho μ60) I I<|cm I I (er I) I (ho μ64) I I af
  have μ66:M 7 193 4 [1,2,5,6,14] 3:=hi<|aa [(1,195),(3,201),(4,209)] I<|an (ho μ46) I I<|an (ho μ56) I I<|an (ho μ61) I I af
  have μ67:M 8 129 2 [1,2,6,14] 4:=hi<|aa [(1,131),(3,137),(4,145),(6,193)] I<|an (ho μ47) I I<|an (ho μ57) I I<|an (ho μ62) I I<|cm I I (er I) I (ho μ66) I I af
  have μ68:M 9 1 0 [1,2,14] 0:=hi<|aa [(1,3),(3,9),(4,17),(6,65),(7,129)] I<|an (ho μ48) I I<|an (ho μ58) I I<|an (ho μ63) I I<|cm I I (er I) I (ho μ65) I I<|cm I I (er I) I (ho μ67) I I af
  have μ69:M 5 218 3 [1,2,5,6,15,17,18] 3:=hi<|aa [(0,219)] I<|an (ho μ29) I I af
  have μ70:M 6 90 1 [1,2,5,15,17,18] 4:=hi<|aa [(0,91),(7,218)] I<|an (ho μ30) I I<|cm I I (er I) I (ho μ69) I I af
  have μ71:M 5 218 4 [1,2,5,6,15,17,18] 3:=hi<|aa [(0,219)] I<|an (ho μ31) I I af
  have μ72:M 6 154 2 [1,2,6,15,17,18] 4:=hi<|aa [(0,155),(6,218)] I<|an (ho μ32) I I<|cm I I (er I) I (ho μ71) I I af
  have μ73:M 7 26 0 [1,2,15,17,18] 0:=hi<|aa [(0,27),(6,90),(7,154)] I<|an (ho μ33) I I<|cm I I (er I) I (ho μ70) I I<|cm I I (er I) I (ho μ72) I I af
  have μ74:M 6 202 3 [1,2,5,6,15,17] 3:=hi<|aa [(0,203),(4,218)] I<|an (ho μ34) I I<|an (ho μ69) I I af
  have μ75:M 7 74 1 [1,2,5,15,17] 4:=hi<|aa [(0,75),(4,90),(7,202)] I<|an (ho μ35) I I<|an (ho μ70) I I<|cm I I (er I) I (ho μ74) I I af
  have μ76:M 6 202 4 [1,2,5,6,15,17] 3:=hi<|aa [(0,203),(4,218)] I<|an (ho μ36) I I<|an (ho μ71) I I af
  have μ77:M 7 138 2 [1,2,6,15,17] 4:=hi<|aa [(0,139),(4,154),(6,202)] I<|an (ho μ37) I I<|an (ho μ72) I I<|cm I I (er I) I (ho μ76) I I af
  have μ78:M 8 10 0 [1,2,15,17] 0:=hi<|aa [(0,11),(4,26),(6,74),(7,138)] I<|an (ho μ38) I I<|an (ho μ73) I I<|cm I I (er I) I (ho μ75) I I<|cm I I (er I) I (ho μ77) I I af
  have μ79:M 6 210 3 [1,2,5,6,15,18] 3:=hi<|aa [(0,211),(3,218)] I<|an (ho μ39) I I<|an (ho μ69) I I af
  have μ80:M 7 82 1 [1,2,5,15,18] 4:=hi<|aa [(0,83),(3,90),(7,210)] I<|an (ho μ40) I I<|an (ho μ70) I I<|cm I I (er I) I (ho μ79) I I af
  have μ81:M 6 210 4 [1,2,5,6,15,18] 3:=hi<|aa [(0,211),(3,218)] I<|an (ho μ41) I I<|an (ho μ71) I I af
  have μ82:M 7 146 2 [1,2,6,15,18] 4:=hi<|aa [(0,147),(3,154),(6,210)] I<|an (ho μ42) I I<|an (ho μ72) I I<|cm I I (er I) I (ho μ81) I I af
  have μ83:M 8 18 0 [1,2,15,18] 0:=hi<|aa [(0,19),(3,26),(6,82),(7,146)] I<|an (ho μ43) I I<|an (ho μ73) I I<|cm I I (er I) I (ho μ80) I I<|cm I I (er I) I (ho μ82) I I af
  have μ84:M 7 194 3 [1,2,5,6,15] 3:=hi<|aa [(0,195),(3,202),(4,210)] I<|an (ho μ44) I I<|an (ho μ74) I I<|an (ho μ79) I I af
  have μ85:M 8 66 1 [1,2,5,15] 4:=hi<|aa [(0,67),(3,74),(4,82),(7,194)] I<|an (ho μ45) I I<|an (ho μ75) I I<|an (ho μ80) I I<|cm I I (er I) I (ho μ84) I I af
  have μ86:M 7 194 4 [1,2,5,6,15] 3:=hi<|aa [(0,195),(3,202),(4,210)] I<|an (ho μ46) I I<|an (ho μ76) I I<|an (ho μ81) I I af
  have μ87:M 8 130 2 [1,2,6,15] 4:=hi<|aa [(0,131),(3,138),(4,146),(6,194)] I<|an (ho μ47) I I<|an (ho μ77) I I<|an (ho μ82) I I<|cm I I (er I) I (ho μ86) I I af
  have μ88:M 9 2 0 [1,2,15] 0:=hi<|aa [(0,3),(3,10),(4,18),(6,66),(7,130)] I<|an (ho μ48) I I<|an (ho μ78) I I<|an (ho μ83) I I<|cm I I (er I) I (ho μ85) I I<|cm I I (er I) I (ho μ87) I I af
  have μ89:M 6 216 3 [1,2,5,6,17,18] 3:=hi<|aa [(0,217),(1,218)] I<|an (ho μ49) I I<|an (ho μ69) I I af
  have μ90:M 7 88 1 [1,2,5,17,18] 4:=hi<|aa [(0,89),(1,90),(7,216)] I<|an (ho μ50) I I<|an (ho μ70) I I<|cm I I (er I) I (ho μ89) I I af
  have μ91:M 6 216 4 [1,2,5,6,17,18] 3:=hi<|aa [(0,217),(1,218)] I<|an (ho μ51) I I<|an (ho μ71) I I af
  have μ92:M 7 152 2 [1,2,6,17,18] 4:=hi<|aa [(0,153),(1,154),(6,216)] I<|an (ho μ52) I I<|an (ho μ72) I I<|cm I I (er I) I (ho μ91) I I af
  have μ93:M 8 24 0 [1,2,17,18] 0:=hi<|aa [(0,25),(1,26),(6,88),(7,152)] I<|an (ho μ53) I I<|an (ho μ73) I I<|cm I I (er I) I (ho μ90) I I<|cm I I (er I) I (ho μ92) I I af
  have μ94:M 7 200 3 [1,2,5,6,17] 3:=hi<|aa [(0,201),(1,202),(4,216)] I<|an (ho μ54) I I<|an (ho μ74) I I<|an (ho μ89) I I af
  have μ95:M 8 72 1 [1,2,5,17] 4:=hi<|aa [(0,73),(1,74),(4,88),(7,200)] I<|an (ho μ55) I I<|an (ho μ75) I I<|an (ho μ90) I I<|cm I I (er I) I (ho μ94) I I af
  have μ96:M 7 200 4 [1,2,5,6,17] 3:=hi<|aa [(0,201),(1,202),(4,216)] I<|an (ho μ56) I I<|an (ho μ76) I I<|an (ho μ91) I I af
  have μ97:M 8 136 2 [1,2,6,17] 4:=hi<|aa [(0,137),(1,138),(4,152),(6,200)] I<|an (ho μ57) I I<|an (ho μ77) I I<|an (ho μ92) I I<|cm I I (er I) I (ho μ96) I I af
  have μ98:M 9 8 0 [1,2,17] 0:=hi<|aa [(0,9),(1,10),(4,24),(6,72),(7,136)] I<|an (ho μ58) I I<|an (ho μ78) I I<|an (ho μ93) I I<|cm I I (er I) I (ho μ95) I I<|cm I I (er I) I (ho μ97) I I af
  have μ99:M 7 208 3 [1,2,5,6,18] 3:=hi<|aa [(0,209),(1,210),(3,216)] I<|an (ho μ59) I I<|an (ho μ79) I I<|an (ho μ89) I I af
  have μ100:M 8 80 1 [1,2,5,18] 4:=hi<|aa [(0,81),(1,82),(3,88),(7,208)] I<|an (ho μ60) I I<|an (ho μ80) I I<|an (ho μ90) I I<|cm I I (er I) I (ho μ99) I I af
  have μ101:M 7 208 4 [1,2,5,6,18] 3:=hi<|aa [(0,209),(1,210),(3,216)] I<|an (ho μ61) I I<|an (ho μ81) I I<|an (ho μ91) I I af
  have μ102:M 8 144 2 [1,2,6,18] 4:=hi<|aa [(0,145),(1,146),(3,152),(6,208)] I<|an (ho μ62) I I<|an (ho μ82) I I<|an (ho μ92) I I<|cm I I (er I) I (ho μ101) I I af
  have μ103:M 9 16 0 [1,2,18] 0:=hi<|aa [(0,17),(1,18),(3,24),(6,80),(7,144)] I<|an (ho μ63) I I<|an (ho μ83) I I<|an (ho μ93) I I<|cm I I (er I) I (ho μ100) I I<|cm I I (er I) I (ho μ102) I I af
  have μ104:M 8 192 3 [1,2,5,6] 3:=hi<|aa [(0,193),(1,194),(3,200),(4,208)] I<|an (ho μ64) I I<|an (ho μ84) I I<|an (ho μ94) I I<|an (ho μ99) I I af
  have μ105:M 9 64 1 [1,2,5] 4:=hi<|aa [(0,65),(1,66),(3,72),(4,80),(7,192)] I<|an (ho μ65) I I<|an (ho μ85) I I<|an (ho μ95) I I<|an (ho μ100) I I<|cm I I (er I) I (ho μ104) I I af
  have μ106:M 8 192 4 [1,2,5,6] 3:=hi<|aa [(0,193),(1,194),(3,200),(4,208)] I<|an (ho μ66) I I<|an (ho μ86) I I<|an (ho μ96) I I<|an (ho μ101) I I af
  have μ107:M 9 128 2 [1,2,6] 4:=hi<|aa [(0,129),(1,130),(3,136),(4,144),(6,192)] I<|an (ho μ67) I I<|an (ho μ87) I I<|an (ho μ97) I I<|an (ho μ102) I I<|cm I I (er I) I (ho μ106) I I af
  have μ108:M 10 0 0 [1,2] 0:=hi<|aa [(0,1),(1,2),(3,8),(4,16),(6,64),(7,128)] I<|an (ho μ68) I I<|an (ho μ88) I I<|an (ho μ98) I I<|an (ho μ103) I I<|cm I I (er I) I (ho μ105) I I<|cm I I (er I) I (ho μ107) I I af
  exact μ108
 refine aO<|aw 3 I<|bw (iV I I I (by decide) ((show(a:Int).tdiv 2=((a / 2:Nat):Int) by rw[Int.tdiv_eq_ediv_of_nonneg (by omega)];omega)) (by unfold In64;omega)) I<|bw (aN ((a / 2*7)) I) I<|aw 1 I<|bw (aJ I ((eP T.ae (a / 2) 6 hi (by omega)).trans (show(kh (cF T.ae (a / 2)))[6]? =some (num g) by rw[←hgl];rfl))) I<|aw 3 I<|aE [1,2,5,6,7] I ?_
 refine aO<|aw 4 I<|aE [1,2,5,6,7,8] I ?_
 refine aO<|aw 1 I<|bw (iV I I I (by decide) ((show(a:Int).tdiv 2=((a / 2:Nat):Int) by rw[Int.tdiv_eq_ediv_of_nonneg (by omega)];omega)) (by unfold In64;omega)) I<|aw 3 I<|aE [2,5,6,7,8,9] I ?_
 refine fP (xs:=[num n]) 5 0 0 I I ?_
 refine fP (xs:=[num h]) 6 1 0 I I ?_
 refine fP (xs:=cC 3 g) 7 2 0 I I ?_
 refine fP (xs:=cC 2 h) 8 3 0 I I ?_
 refine fP (xs:=cC 1 ((a / 2:Nat):Int)) 9 4 0 I I ?_
 refine dI [] (.c 2<|.c 5<|.c 6<|.c 7<|.c 8<|.c 9<|.nil) .nil rfl rfl ?_
 refine ab (.v (ef I I) I<|.a 1 I<|.k [6,7,8,9,10] I)<|aO<|aw 1 I<|aE [6,7,8,9,10,11] I ?_
 refine aj<|bz 36 (.raw (.bool (c1))) [6,7,8,9,10,11] I ?_ ?_
 ·exact .a 2 I<|.v (cf I (hc1)) I<|.k [36,6,7,8,9,10,11] I
 refine ag I (fun h2=>?_) (fun h2=>?_)
 ·have hg0:0<g:=tt (by rw[hc1,h2])
  rw[if_pos hg0]
  refine bI<|aw 2 I<|eW I (h1 3 g) I<|aw 1 I<|aE [6,7,8,9,10,11] I ?_
  refine aO<|aw 2 I<|eW I (h1 2 h) I<|aw 2 I<|aE [6,7,8,9,11,12] I ?_
  refine aO<|bw (ef I I) I<|bw (ef I I) I<|b7 (gO (xs:=[_,_]) I (ba.sl.get I) ⟨Nat.le_of_ble_eq_true rfl,Nat.le_of_ble_eq_true rfl⟩ rfl rfl) I<|aw 2 I<|aE [9,13] I ?_
  refine ab (.v (ef I I) I<|.a 1 I<|.k [4] I)<|ao ?_
  unfold kD F2 F3
  first
   |exact⟨_,_,az.of I,ay.iY (ah.cons (ay.jI rfl (ah.cons (ay.fy rfl (ah.cons (ay.iY (ah.cons ay.pure<|ah.cons (ay.jI rfl (ah.cons (ay.pure (p:=av _)) ah.nil)) ah.nil))<|ah.cons (ay.iY (ah.cons ay.pure<|ah.cons ay.pure<|ah.cons (ay.jI rfl (ah.cons (ay.pure (p:=av _)) ah.nil)) ah.nil)) ah.nil)) ah.nil))<|ah.cons ay.pure ah.nil),rfl⟩
   |exact⟨_,_,az.of I,ay.iY (ah.cons (ay.jI rfl (ah.cons (ay.fy rfl (ah.cons (ay.iY (ah.cons ay.pure<|ah.cons (ay.jI rfl (ah.cons ay.bM ah.nil)) ah.nil))<|ah.cons (ay.iY (ah.cons ay.pure<|ah.cons ay.pure<|ah.cons (ay.jI rfl (ah.cons (ay.pure (p:=av _)) ah.nil)) ah.nil)) ah.nil)) ah.nil))<|ah.cons ay.pure ah.nil),rfl⟩
 ·have hg0:¬0<g:=ff (by rw[hc1,h2])
  rw[if_neg hg0]
  refine ai<|aO<|aw 2 I<|eW I (h1 2 h) I<|aw 2 I<|aE [6,7,8,9,11,12] I ?_
  refine aO<|bw (ef I I) I<|bw (ef I I) I<|b7 (gO (xs:=[_,_]) I (ba.sl.get I) ⟨Nat.le_of_ble_eq_true rfl,Nat.le_of_ble_eq_true rfl⟩ rfl rfl) I<|aw 2 I<|aE [9,13] I ?_
  refine ab (.v (ef I I) I<|.a 1 I<|.k [4] I)<|ao ?_
  unfold kD F2 F3
  first
   |exact⟨_,_,az.of I,ay.iY (ah.cons (ay.jI rfl (ah.cons (ay.fy rfl (ah.cons (ay.iY (ah.cons ay.pure<|ah.cons (ay.jI rfl (ah.cons (ay.pure (p:=av _)) ah.nil)) ah.nil))<|ah.cons (ay.iY (ah.cons ay.pure<|ah.cons ay.pure<|ah.cons (ay.jI rfl (ah.cons (ay.pure (p:=av _)) ah.nil)) ah.nil)) ah.nil)) ah.nil))<|ah.cons ay.pure ah.nil),rfl⟩
   |exact⟨_,_,az.of I,ay.iY (ah.cons (ay.jI rfl (ah.cons (ay.fy rfl (ah.cons (ay.iY (ah.cons ay.pure<|ah.cons (ay.jI rfl (ah.cons ay.bM ah.nil)) ah.nil))<|ah.cons (ay.iY (ah.cons ay.pure<|ah.cons ay.pure<|ah.cons (ay.jI rfl (ah.cons (ay.pure (p:=av _)) ah.nil)) ah.nil)) ah.nil)) ah.nil))<|ah.cons ay.pure ah.nil),rfl⟩
theorem tv{α:Type}(f:α→List PV)(s:Nat)(hf:∀a,(f a).length=s)(z:α):∀(l:List α) (d:Nat),d<l.length→over (l.flatMap f) (d*s) (f z)=(l.set d z).flatMap f
 | [],d,h=>by simp at h
 |a::l,0,_=>by
  unfold over
  rw[List.flatMap_cons,Nat.zero_mul,List.take_zero,hf,List.set_cons_zero,List.flatMap_cons,List.nil_append,Nat.zero_add]
  congr 1
  rw[←hf a,List.drop_left]
 |a::l,d+1,h=>by
  have ih:=tv f s hf z l d (by simpa using h)
  unfold over at*
  have e:(d+1)*s=(f a).length+d*s:=by rw[hf,Nat.succ_mul];omega
  rw[List.flatMap_cons,List.set_cons_succ,List.flatMap_cons,←ih,e,List.take_length_add_append,Nat.add_assoc,List.drop_length_add_append,List.append_assoc]
theorem BD(l:List i6)(d:Nat)(z:i6)(h:d<l.length):over (dZ l) (d*3) (gF z)=dZ (l.set d z):=tv gF 3 (fun _=>rfl) z l d h
noncomputable def lY(T:ak)(D:List Bool)(n N j:Nat):List i6:=(List.range N).map fun d=>if d<j then jY T D n (d:Int) else⟨bH T D n d,false,[]⟩
theorem DT(T:ak)(D:List Bool)(n N j:Nat):(lY T D n N j).length=N:=by simp[lY]
theorem Bg(T:ak)(D:List Bool)(n N:Nat):lY T D n N 0=oT T D n N:=by unfold lY oT;simp
theorem Et(T:ak)(D:List Bool)(n N:Nat):lY T D n N N=sT T D n N:=by
 unfold lY sT
 refine List.map_congr_left fun d hd=>?_
 rw[if_pos (List.mem_range.1 hd)]
theorem wi{T:ak}{D:List Bool}{n N j i:Nat}(h:i<(lY T D n N j).length):(lY T D n N j)[i]=if i<j then jY T D n (i:Int) else⟨bH T D n i,false,[]⟩:=by simp[lY]
theorem Bk(T:ak)(D:List Bool)(n N j:Nat):(lY T D n N j).set j (jY T D n (j:Int))=lY T D n N (j+1):=by
 apply List.ext_getElem (by simp[lY])
 intro i h1 h2
 rw[List.getElem_set,wi,wi]
 by_cases e:j=i
 ·subst e;rw[if_pos rfl,if_pos (by omega)]
 ·rw[if_neg e]
  by_cases h:i<j
  ·rw[if_pos h,if_pos (by omega)]
  ·rw[if_neg h,if_neg (by omega)]
def pS(T:ak)(D:List Bool)(n:Nat)(l:List i6):cg:=[some (.cells 56 [num 0,.raw (.slice none 0 0),.raw (.slice none 0 0)]),some (.row 76 3 T.nodes.toNat (dZ l)),some (.row 3 1 (cQ D (bP T n)).length (aK (cQ D (bP T n)))),some (.cells 56 [num n,.own 1,.own 2])]
theorem D6(T:ak)(D:List Bool)(n:Nat)(hv:aq T=true)(hf:bW T D=true)(hn:(n:Int)<T.nodes)(h12:T.nodes≤12):bU Tryz.prog 123 ([bn D,.agg [num n,.own 1,.own 2]]++[.bb (bC T) 0,.bb [num n] 0]) (pS T D n (oT T D n T.nodes.toNat)) (fun _ σ'=>σ'=pS T D n (sT T D n T.nodes.toNat)++[some (.cells 56 [num n,.own 1,.own 2])]):=by
 have hll:=bT hv
 have hnb:bu T (n:Int)=true:=aT.2 ⟨by omega,hn⟩
 obtain⟨N,hN⟩:∃N:Nat,T.nodes.toNat=N:=⟨_,rfl⟩
 have hNN:T.nodes=(N:Int):=by have:=(aM hv).nodes;omega
 unfold pS
 rw[hN,←Bg]
 obtain⟨dl,hdl⟩:∃dl,cQ D (bP T n)=dl:=⟨_,rfl⟩
 rw[hdl]
 refine ct Tryz.func123 I Tryz.ntmps123 I<|aO<|b7 (fD I I I) I<|aE [0,2,3,5] I ?_
 refine ab (.a 4 I<|.k [0,2,3,5,9,10] I)<|au<|eH [0,2,3,5,9,10] I<|bq (fun r s=>∃j,j≤N∧r=N - j∧s=⟨[(0,bn D),(2,.bb (bC T) 0),(3,.bb [num n] 0),(5,.ptr 4 0),(9,num N),(10,num j)],[some (.cells 56 [num 0,.raw (.slice none 0 0),.raw (.slice none 0 0)]),some (.row 76 3 N (dZ (lY T D n N j))),some (.row 3 1 dl.length (aK dl)),some (.cells 56 [num n,.own 1,.own 2]),some (.cells 56 [num n,.own 1,.own 2])]⟩) N ⟨0,by omega,by omega,rfl⟩ ?_
 rintro r s ⟨j,hj,rfl,rfl⟩
 refine ab (.a 1 I<|.k [0,2,3,5,9,10,11] I)<|aj<|ag I (fun h1=>?_) (fun h1=>?_)
 ·have hlt:j<N:=by have:=tt h1;omega
  have hre:=xP T D n j hll h12
  rw[pE hv hf hnb (aT.2 ⟨by omega,by omega⟩)]at hre
  have hml:=DT T D n N j
  have hel:(dZ (lY T D n N j)).length=N*3:=by have:=rA gF 3 (fun _=>rfl) (lY T D n N j);rw[hml]at this;exact this
  refine ai<|aj<|au<|ab (.a 2 I<|.k [0,2,3,5,6,9,10] I)<|dL 12 20 mixed (
   .val [5] I (aZ I) I I<|
   .val [14] I (aZ I) I I<|
   .val [6] I (aZ I) I I<|
   .val [2] I (aZ I) I I<|
   .val [0] I (aZ I) I I<|
   .val [3] I (aZ I) I I<|
   .val [6] I (aZ I) I I<|
   .val [17,18,19,20] I (dU I (hre)) I I<|
   .val [21] I (aZ I) I I<|
   .val [13] I (aZ I) I I<|
   .late [13] I (tp rfl rfl rfl) inferInstance rfl rfl<|
   .val [15,16] I (aN ((j*3)) I) I I<|
   .nil) (by kernel_rfl) I I (aY (ks:=[0,2,3,5,9,10,22,24]) I) ?_
  refine bc (mQ I (ba.tk.get I) I I I I I (show j*3+3≤(dZ (lY T D n N j)).length by omega)) I I<|aE [0,2,3,5,9,10] I ?_
  refine eF (σ':=[some (.cells 56 [num 0,.raw (.slice none 0 0),.raw (.slice none 0 0)]),some (.row 76 3 N (dZ (lY T D n N (j+1)))),some (.row 3 1 dl.length (aK dl)),some (.cells 56 [num n,.own 1,.own 2]),some (.cells 56 [num n,.own 1,.own 2])]) (by rw[←Bk,←BD _ _ _ (by omega)];rfl) ?_
  refine aC (.v (aU I) I<|.a 1 I<|.k [0,2,3,5,9,10] I) ?_
  exact⟨N - (j+1),by omega,j+1,by omega,rfl,rfl⟩
 ·have hje:j=N:=by have:=ff h1;omega
  subst hje
  refine bd<|⟨_,az.of I,?_⟩
  rw[Et]
  rfl
theorem xM(T:ak)(D:List Bool)(n:Nat)(c:Option cK)(hch:cD T D [(n:Int)]=0):bU Tryz.prog 53 [aP T,bn D,num n] [c] (fun r σ'=>r= .tuple [.agg [num n,.own 3,.own 4],num 0]∧σ'=[c,some (.cells 56 [num n,.own 3,.own 4]),some (.cells 56 [num n,.own 3,.own 4]),some (.row 76 3 T.nodes.toNat (dZ (oT T D n T.nodes.toNat))),some (.row 3 1 (cQ D (bP T n)).length (aK (cQ D (bP T n))))]):=by
 refine bU.frame (bU.mono (wT T D n hch) ?_)
 rintro r σ' ⟨rfl,rfl⟩
 refine⟨[.cells 56 [num n,.own 2,.own 3],.cells 56 [num n,.own 2,.own 3],.row 76 3 T.nodes.toNat (dZ (oT T D n T.nodes.toNat)),.row 3 1 (cQ D (bP T n)).length (aK (cQ D (bP T n)))],rfl,.tuple [.agg [num n,.own 3,.own 4],num 0],[.cells 56 [num n,.own 3,.own 4],.cells 56 [num n,.own 3,.own 4],.row 76 3 T.nodes.toNat (dZ (oT T D n T.nodes.toNat)),.row 3 1 (cQ D (bP T n)).length (aK (cQ D (bP T n)))],?_,?_,rfl,rfl⟩
 ·exact Up.aX (lJ.cons (Up.gY (lJ.cons Up.pure<|lJ.cons (Up.own rfl)<|lJ.cons (Up.own rfl) lJ.nil)) (lJ.cons Up.pure lJ.nil))
 ·exact nK.cons (.cells (lJ.cons Up.pure<|lJ.cons (Up.own rfl)<|lJ.cons (Up.own rfl) lJ.nil))<|nK.cons (.cells (lJ.cons Up.pure<|lJ.cons (Up.own rfl)<|lJ.cons (Up.own rfl) lJ.nil))<|nK.cons (.row lJ.pure)<|nK.cons (.row lJ.pure) nK.nil
instance (e:Int) (x:de):IsPure (j8 e x):=by unfold j8;infer_instance
def kc(T:ak)(k x n:Int):Int:=if ej T k x=0 then(if bu T n then 0 else 2) else 1
theorem o9{T:ak}{k x:Int}(h:ej T k x=0):(aq T&&cj T k x)=true:=by
 unfold ej at h
 split at h
 ·assumption
 ·omega
theorem DQ(T:ak)(D:List Bool)(n:Nat):bU Tryz.prog 125 ([bn D,.agg [num n,.own 1,.own 2]]++[]) (pS T D n (oT T D n T.nodes.toNat)) (fun _ σ'=>σ'=pS T D n (oT T D n T.nodes.toNat)++[some (.cells 56 [num n,.own 1,.own 2])]):=by
 unfold pS
 refine ct Tryz.func125 I Tryz.ntmps125 I<|bI<|b7 (fD I I I) I<|aE [] I ?_
 exact⟨_,az.of I,rfl⟩
theorem xj{T:ak}{k x:Int}(h:ej T k x≠0):ej T k x=1:=by
 unfold ej at*
 split
 ·rename_i h';rw[if_pos h']at h;exact absurd rfl h
 ·rfl
theorem qO(T:ak)(k x n:Int)(f:FuncId)(cap:List PV)[aL cap](he:kc T k x n≠0):
  Can Tryz.prog 122 [aP T,ca k x,num n,.func f cap] (· =j8 (kc T k x n) ⟨0,[],[]⟩):=by
 have hmk:=mw T k x
 have hmf:=du T k x
 unfold iO at hmk
 have hrt:=sf T (aF T k x) n
 refine aH Tryz.func122 I Tryz.ntmps122 I<|aO<|aw 4 I<|aE [2,3,4,5,8] I ?_
 refine ab (.a 2 I<|.c rfl (hmk) I<|.a 5 I<|.k [2,3,4,8,10,11] I)<|aj<|ab (.a 2 I<|.k [2,3,4,8,10,11,20] I)<|ag I (fun h1=>?_) (fun h1=>?_)
 ·have h1:=tt h1
  have he2:kc T k x n=ej T k x:=by
   unfold kc
   rw[if_neg h1,xj h1]
  rw[he2]
  refine aO<|aw 4 I<|aE [8,9] I ?_
  exact ao<|⟨_,_,az.of I,ay.aX (ah.cons (ay.gY (ah.cons ay.pure<|ah.cons ay.bM<|ah.cons ay.bM ah.nil)) (ah.cons ay.pure ah.nil)),by unfold j8;rw[if_neg h1];rfl⟩
 ·have h1:ej T k x=0:=Classical.byContradiction (ff h1)
  obtain⟨hv,hc⟩:=Bool.and_eq_true_iff.1 (o9 h1)
  rw[if_pos h1]
  have hn:bu T n=false:=by
   cases hn:bu T n with
   |false=>rfl
   |true=>exact absurd (show kc T k x n=0 by unfold kc;rw[if_pos h1,hn];rfl) he
  have hch:cD T (aF T k x) [n]=2:=by unfold cD;rw[hv,hmf];simp[hn]
  have hr0:jL T (aF T k x) n=⟨0,[],[]⟩:=by unfold jL;rw[if_neg (by rw[hch];decide)]
  rw[hch,hr0]at hrt
  have he:kc T k x n=2:=by unfold kc;rw[if_pos h1,hn];rfl
  rw[he]
  refine ai<|aO<|aw 3 I<|eW I (hrt) I<|aw 6 I<|aE [3,8,10,11,12] I ?_
  refine aj<|ab (.a 2 I<|.k [3,8,10,11,12,31] I)<|ag I (fun h2=>?_) (fun h2=>?_)
  ·skip
   refine aO<|aw 4 I<|aE [8,9] I ?_
   exact ao<|⟨_,_,az.of I,ay.aX (ah.cons (ay.gY (ah.cons ay.pure<|ah.cons ay.bM<|ah.cons ay.bM ah.nil)) (ah.cons ay.pure ah.nil)),rfl⟩
  ·exact absurd h2 (by decide)
theorem uq(T:ak)(k x:Int)(n:Nat)(f:FuncId)(cap:List PV)[aL cap](L:List i6)(hen:enters Tryz.prog f=true)(hv:(aq T&&cj T k x)=true)(hn:(n:Int)<T.nodes)(hl:L.length=T.nodes.toNat)
  (hf:bU Tryz.prog f ([bn (aF T k x),.agg [num n,.own 1,.own 2]]++cap) (pS T (aF T k x) n (oT T (aF T k x) n T.nodes.toNat)) (fun _ σ'=>σ'=pS T (aF T k x) n L++[some (.cells 56 [num n,.own 1,.own 2])])):
  Can Tryz.prog 122 [aP T,ca k x,num n,.func f cap] (· =j8 0 ⟨n,L,cQ (aF T k x) (bP T n)⟩):=by
 have hmk:=mw T k x
 have hmf:=du T k x
 have hm0:ej T k x=0:=by unfold ej;rw[if_pos hv]
 unfold iO at hmk
 rw[hm0,if_pos rfl]at hmk
 obtain⟨M,hM⟩:∃M,aF T k x=M:=⟨_,rfl⟩
 rw[hM]at hmk hmf hf ⊢
 obtain⟨hv,hc⟩:=Bool.and_eq_true_iff.1 hv
 have hch:cD T M [(n:Int)]=0:=by unfold cD;rw[hv,hmf];simp[aT.2 (show 0≤(n:Int)∧(n:Int)<T.nodes by omega)]
 have hrt:=fun c=>xM T M n c hch
 refine aH Tryz.func122 I Tryz.ntmps122 I<|aO<|aw 4 I<|aE [2,3,4,5,8] I ?_
 refine ab (.a 2 I<|.c rfl (hmk) I<|.a 5 I<|.k [2,3,4,8,10,11] I)<|aj<|ab (.a 2 I<|.k [2,3,4,8,10,11,20] I)<|ag I (fun h1=>?_) (fun h1=>?_)
 ·exact absurd h1 (by decide)
 ·skip
  refine ai<|aO<|aw 3 I<|cN I I (bU.mono (hrt _) (fun r σ' h=>?_))
  obtain⟨rfl,rfl⟩:=h
  refine aw 6 I<|aE [3,8,10,11,12] I ?_
  refine aj<|ab (.a 2 I<|.k [3,8,10,11,12,31] I)<|ag I (fun h2=>?_) (fun h2=>?_)
  ·exact absurd h2 (by decide)
  ·skip
   refine ai<|dI [0,3,4,5] (.c 3<|.c 8<|.c 10<|.c 12<|.nil) (.kept rfl (.cells (aI.c<|aI.c<|aI.c<|aI.nil))<|.kept rfl (.row aI.pure)<|.kept rfl (.row aI.pure)<|.kept rfl (.cells (aI.c<|aI.c<|aI.c<|aI.nil))<|.nil) I I ?_
   refine aO<|aw 3 I<|wg I hen rfl rfl rfl rfl rfl (bU.mono hf (fun r σ' h=>?_))
   obtain rfl:=h
   refine aE [8,12] I ?_
   refine aO<|aw 3 I<|aE [8,9] I ?_
   refine ao<|⟨_,_,az.of I,ay.aX (ah.cons (ay.gY (ah.cons ay.pure<|ah.cons (ay.fy rfl ah.pure)<|ah.cons (ay.fy rfl ah.pure) ah.nil)) (ah.cons ay.pure ah.nil)),?_⟩
   unfold j8 fw eL iv av
   rw[if_pos rfl,hl]
theorem tF{T:ak}{k x n:Int}(h:kc T k x n=0):(aq T&&cj T k x)=true∧bu T n=true:=by
 unfold kc at h
 split at h
 ·rename_i h1
  refine⟨o9 h1,?_⟩
  split at h
  ·assumption
  ·omega
 ·omega
theorem Du(T:ak)(k x n:Int)(h12:T.nodes≤12):Can Tryz.prog 70 [aP T,ca k x,num n] (· =j8 (kc T k x n) (vE T (aF T k x) n.toNat)):=by
 have key:Can Tryz.prog 122 [aP T,ca k x,num n,.func 123 [.bb (bC T) 0,.bb [num n] 0]] (· =j8 (kc T k x n) (vE T (aF T k x) n.toNat)):=by
  by_cases he:kc T k x n=0
  ·obtain⟨hm,hn⟩:=tF he
   obtain⟨hv,hc⟩:=Bool.and_eq_true_iff.1 hm
   rw[aT]at hn
   obtain⟨m,rfl⟩:=Int.eq_ofNat_of_zero_le hn.1
   rw[he]
   exact uq T k x m _ _ _ (by kernel_rfl) hm hn.2 (rb _ _ _ _) (D6 T (aF T k x) m hv (du T k x) hn.2 h12)
  ·have h:=qO T k x n 123 [.bb (bC T) 0,.bb [num n] 0] he
   unfold j8 at h ⊢
   rw[if_neg he]at h ⊢
   exact h
 refine aH Tryz.func70 I Tryz.ntmps70 I<|aO<|aw 5 I<|aE [3,4,5,6] I ?_
 refine aO<|aw 4 I<|eW I (key) I<|aw 4 I<|aE [6,7] I ?_
 exact ao<|⟨_,_,az.of I,ay.pure (p:=j8 (kc T k x n) (vE T (aF T k x) n.toNat)),rfl⟩
theorem Ei(T:ak)(k x n:Int):Can Tryz.prog 72 [aP T,ca k x,num n] (· =j8 (kc T k x n) (dO T (aF T k x) n.toNat)):=by
 have key:Can Tryz.prog 122 [aP T,ca k x,num n,.func 125 []] (· =j8 (kc T k x n) (dO T (aF T k x) n.toNat)):=by
  by_cases he:kc T k x n=0
  ·obtain⟨hm,hn⟩:=tF he
   obtain⟨hv,hc⟩:=Bool.and_eq_true_iff.1 hm
   rw[aT]at hn
   obtain⟨m,rfl⟩:=Int.eq_ofNat_of_zero_le hn.1
   rw[he]
   exact uq T k x m _ _ _ (by kernel_rfl) hm hn.2 (uQ _ _ _ _) (DQ T (aF T k x) m)
  ·have h:=qO T k x n 125 [] he
   unfold j8 at h ⊢
   rw[if_neg he]at h ⊢
   exact h
 refine aH Tryz.func72 I Tryz.ntmps72 I<|aO<|aw 4 I<|aE [2,3,4,6] I ?_
 refine aO<|aw 3 I<|eW I (key) I<|aw 4 I<|aE [6,7] I ?_
 exact ao<|⟨_,_,az.of I,ay.pure (p:=j8 (kc T k x n) (dO T (aF T k x) n.toNat)),rfl⟩
theorem wQ(T:ak)(D:List Bool)(n:Int):PV.tuple [fw (jL T D n),num (cD T D [n])]=j8 (cD T D [n]) (dO T D n.toNat):=by
 unfold j8 jL;rfl
theorem Fi(T:ak)(n:Int):Can Tryz.prog 67 [aP T,num n] (· =j8 (cD T [] [n]) (dO T [] n.toNat)):=by
 refine aH Tryz.func67 I Tryz.ntmps67 I<|aO<|aw 3 I<|aE [1,2,4] I ?_
 have hr:=sf T [] n
 rw[wQ]at hr
 refine aO<|aw 2 I<|bw (s4 I (ah.cons ay.pure<|ah.cons ay.bM<|ah.cons ay.pure ah.nil) (hr)) I<|aw 4 I<|aE [4,5] I ?_
 exact ao<|⟨_,_,az.of I,ay.pure (p:=j8 (cD T [] [n]) (dO T [] n.toNat)),rfl⟩
theorem yo{T:ak}{a:Nat}(hv:aq T=true)(ha:a<2*T.ae.length){d:Nat}(hd:(d:Int)<T.nodes){n:Nat}(hn:bm T a=(n:Int))(k x:Int)(hm:(aq T&&cj T k x)=true):d<(bG T (gC T k x) n true).length∧decide (0≤(bG T (gC T k x) n true).getD d 0)=gR T (aF T k x) (bm T a) d:=by
 have hnN:(n:Int)<T.nodes:=by rw[←hn];exact((aM hv).tail a ha).2
 have hl:=(dv (D:=gC T k x) hv (dir:=true) hnN).1
 refine⟨by omega,?_⟩
 rw[hn,ru hm,Bool.eq_iff_iff,decide_eq_true_eq,mN hv (du T k x) hnN hd,Ig hv hnN hd]
theorem GQ(T:ak)(a d:Nat)(hv:aq T=true)(ha:a<2*T.ae.length)(hd:(d:Int)<T.nodes):Can Tryz.prog 183 ([num d]++kD (gi T a) (aS T a) ((a / 2:Nat):Int) (IA T a) (II T a)) (· =ca (dz T a d).1 (dz T a d).2):=by
 obtain⟨n,hn⟩:=Int.eq_ofNat_of_zero_le ((aM hv).tail a ha).1
 have hnt:(bm T a).toNat=n:=by omega
 have h2:=yo hv ha hd hn 2 (aS T a) (xm hv ha)
 have hM:II T a=bG T (gC T 2 (aS T a)) n true:=by unfold II;rw[hnt]
 have hL:0<gi T a→IA T a=bG T (gC T 3 (gi T a)) n true:=fun h=>by unfold IA;rw[if_pos h,hnt]
 have h:=EY (gi T a) (aS T a) ((a / 2:Nat):Int) (IA T a) (II T a) d (gR T (aF T 3 (gi T a)) (bm T a) d) (gR T (aF T 2 (aS T a)) (bm T a) d)
  (fun hg=>by rw[hL hg];exact yo hv ha hd hn 3 (gi T a) (AI hv ha hg)) (by rw[hM];exact h2.1) (by rw[hM];exact h2.2)
 have e:(if(decide (0<gi T a)&&gR T (aF T 3 (gi T a)) (bm T a) d)=true then ca 3 (gi T a) else if(decide (aS T a≠(d:Int))&&gR T (aF T 2 (aS T a)) (bm T a) d)=true then ca 2 (aS T a) else ca 1 ((a / 2:Nat):Int))=ca (dz T a d).1 (dz T a d).2:=by
  unfold dz
  split
  ·rfl
  ·split<;>rfl
 rw[e]at h
 exact h
def Hi(own:List Bool):List Int→Nat→Int
 | [],_=> -1
 |a::l,i=>bif aQ own a.toNat then(i:Int) else Hi own l (i+1)
theorem DR(own:List Bool):∀(l:List Int) (i:Nat),(Hi own l i= -1∧lE own l=none)∨∃j,j<l.length∧Hi own l i=((i+j:Nat):Int)∧lE own l=some (l.getD j 0)
 | [],i=>.inl ⟨rfl,rfl⟩
 |a::l,i=>by
  simp only[Hi]
  by_cases h:aQ own a.toNat=true
  ·refine .inr ⟨0,by simp,by rw[h];rfl,?_⟩
   unfold lE
   rw[List.find?_cons_of_pos (by exact h)]
   rfl
  ·rw[Bool.eq_false_iff.2 h]
   simp only[cond_false]
   have e:lE own (a::l)=lE own l:=by
    unfold lE
    rw[List.find?_cons_of_neg (by exact h)]
   rw[e]
   rcases DR own l (i+1)with h'|⟨j,h1,h2,h3⟩
   ·exact .inl h'
   ·exact .inr ⟨j+1,by simpa using h1,by rw[h2];congr 1;omega,by rw[h3];rfl⟩
theorem Dm(own:List Bool)(k:Nat)(hk:k<own.length):Can Tryz.prog 154 ([num k]++[.bb [bn own] 0]) (· =flag (aQ own k)):=by
 exact aH Tryz.func154 I Tryz.ntmps154 I<|ab (.a 1 I<|.k [0,1] I)<|ab (.a 2 I<|.v (aN (k) I) I<|.v (aJ I ((show(bX own)[k]? =some (flag (aQ own k)) by rw[dt _ k hk,ft]))) I<|.a 1 I<|.k [3] I)<|ao<|⟨_,_,az.of I,ay.pure,rfl⟩
theorem Ek(l:List Int)(own:List Bool)(hl:l.length≤1000)(hm:∀a∈l,∃k:Nat,a=(k:Int)∧k<own.length):Can Tryz.prog 153 [av l,.func 154 [.bb [bn own] 0]] (· =num (Hi own l 0)):=by
 refine aH Tryz.func153 I Tryz.ntmps153 I<|ab (.a 1 I<|.k [0,1] I)<|aj<|ab (.a 3 I<|.k [0,1,7,8] I)<|au<|eH [0,1,7,8] I<|bq (fun r s=>∃i,i≤l.length∧r=l.length - i∧Hi own l 0=Hi own (l.drop i) i∧s=⟨[(0,av l),(1,.func 154 [.bb [bn own] 0]),(7,num l.length),(8,num i)],[]⟩) l.length ⟨0,by omega,by omega,rfl,rfl⟩ ?_
 rintro r s ⟨i,hi,rfl,hx,rfl⟩
 refine ab (.a 1 I<|.k [0,1,7,8,9] I)<|aj<|ag I (fun h1=>?_) (fun h1=>?_)
 ·have hlt:i<l.length:=by have:=tt h1;omega
  obtain⟨k,hk,hkl⟩:=hm _ (cr (d:=0) hlt)
  rw[drop_cons l i hlt,hk]at hx
  simp only[Hi,Int.toNat_natCast]at hx
  obtain⟨q,hq⟩:∃q,aQ own k=q:=⟨_,rfl⟩
  have he:=Dm own k hkl
  rw[hq]at he hx
  refine ai<|aj<|au<|ab (.a 2 I<|.k [0,1,5,7,8] I)<|ab (.a 3 I<|.v (aN (i) I) I<|.v (aJ I ((aB l i hlt).trans (by rw[hk]))) I<|.c rfl (he) I<|.k [0,1,5,7,8,16] I)<|ag I (fun h2=>?_) (fun h2=>?_)
  ·subst h2
   rw[cond_true]at hx
   rw[hx]
   exact ab (.a 2 I<|.k [4] I)<|ao<|⟨_,_,az.of I,ay.pure,rfl⟩
  ·subst h2
   rw[cond_false]at hx
   refine ai<|aC (.v (aU I) I<|.a 1 I<|.k [0,1,7,8] I) ?_
   exact⟨l.length - (i+1),by omega,i+1,by omega,rfl,hx,rfl⟩
 ·have hie:i=l.length:=by have:=ff h1;omega
  subst hie
  rw[List.drop_length]at hx
  rw[hx]
  exact bd<|ab (.a 1 I<|.k [4] I)<|ao<|⟨_,_,az.of I,ay.pure,rfl⟩
theorem H6(p:List Int):Can Tryz.prog 185 ([av p]++[]) (· = .tuple []):=by
 exact aH Tryz.func185 I Tryz.ntmps185 I<|ai<|⟨_,_,az.of I,ay.pure,rfl⟩
theorem xk(T:ak)(D:List Bool)(n d:Int):Can Tryz.prog 184 [aP T,bn D,num n,num d,.func 185 []] (· =num (gV T D n d)):=by
 refine aH Tryz.func184 I Tryz.ntmps184 I<|ab (.a 2 I<|.k [1,2,3,4,5] I)<|ab (.a 4 I<|.c rfl (uC T D n d) I<|.a 5 I<|.k [4,11,12] I)<|aj<|ab (.a 2 I<|.k [4,11,12,22] I)<|ag I (fun h1=>?_) (fun h1=>?_)
 ·skip
  refine aC (.a 2 I<|.c rfl (H6 _) I<|.k [12] I) ?_
  exact ab (.a 2 I<|.k [10] I)<|ao<|⟨_,_,az.of I,ay.pure,rfl⟩
 ·skip
  exact ai<|ab (.a 2 I<|.k [10] I)<|ao<|⟨_,_,az.of I,ay.pure,rfl⟩
theorem zB(T:ak)(D:List Bool)(n d:Int):Can Tryz.prog 156 [aP T,bn D,num n,num d] (· =flag (gR T D n d)):=by
 obtain⟨q,hq⟩:∃q,decide (gV T D n d=0)=q:=⟨_,rfl⟩
 unfold gR
 rw[hq]
 exact aH Tryz.func156 I Tryz.ntmps156 I<|ab (.a 2 I<|.k [1,2,3,4] I)<|ab (.a 4 I<|.c rfl (xk T D n d) I<|.v (cf I (hq)) I<|.a 1 I<|.k [8] I)<|ao<|⟨_,_,az.of I,ay.pure,rfl⟩
theorem B8(T:ak)(k x:Int)(hm:(aq T&&cj T k x)=true)(σ:cg):bU Tryz.prog 16 [aP T,ca k x] σ (fun r σ'=>r= .tuple [.own σ.length,num 0]∧σ'=σ++[lI (aF T k x)]):=by
 obtain⟨hv,hc⟩:=Bool.and_eq_true_iff.1 hm
 refine bU.frame (bU.mono (tu T k x hv hc) ?_)
 rintro r σ' ⟨rfl,rfl⟩
 refine⟨[.row 4 1 (2*T.ae.length) (bX (aF T k x))],rfl,_,_,Up.aX (lJ.cons (Up.own rfl) (lJ.cons Up.pure lJ.nil)),nK.cons (.row lJ.pure) nK.nil,by simp,?_⟩
 unfold lI
 rw[fr]
 rfl
set_option maxHeartbeats 2000000 in
theorem DD(T:ak)(own:List Bool)(n d:Nat)(hv:aq T=true)(hfo:own.length=2*T.ae.length)(hn:(n:Int)<T.nodes)(hd:(d:Int)<T.nodes)(h12:T.nodes≤12):Can Tryz.prog 114 [aP T,bn own,num n,num d] (· =xQ (nF T own n d)):=by
 have hll:=bT hv
 have hof:bW T own=true:=by unfold bW;rw[hfo];simp
 have hnb:bu T (n:Int)=true:=aT.2 ⟨by omega,hn⟩
 have hdb:bu T (d:Int)=true:=aT.2 ⟨by omega,hd⟩
 have hnx:=qL T [] n d
 rw[pE hv (jw T) hnb hdb,Int.toNat_natCast,Int.toNat_natCast]at hnx
 unfold dY at hnx
 rw[if_pos rfl]at hnx
 have hlen:=Bu hv [] n d
 have hmem:∀a∈bH T [] n d,∃k:Nat,a=(k:Int)∧k<2*T.ae.length:=fun a ha=>by
  obtain⟨k,hk,hkn⟩:=cX ha
  exact⟨k,hk,hkn.fu⟩
 unfold nF
 obtain⟨l,hl⟩:∃l,bH T [] n d=l:=⟨_,rfl⟩
 rw[hl]at hnx hlen hmem ⊢
 have hix:=Ek l own (by omega) (fun a ha=>by rw[hfo];exact hmem a ha)
 obtain⟨ix,hixe⟩:∃ix,Hi own l 0=ix:=⟨_,rfl⟩
 have hih:=DR own l 0
 rw[hixe]at hix hih
 simp only[Nat.zero_add]at hih
 refine aH Tryz.func114 I Tryz.ntmps114 I<|aO<|aw 3 I<|aE [2,3,4,5,8] I ?_
 refine ab (.a 3 I<|.v (s4 I (ah.cons ay.pure<|ah.cons ay.bM<|ah.cons ay.pure<|ah.cons ay.pure ah.nil) (hnx)) I<|.a 5 I<|.k [2,3,4,5,8,9] I)<|ab (.a 1 I<|.v (ef I I) I<|.c rfl (hix) I<|.a 1 I<|.k [2,3,4,5,8,9,11] I)<|aj<|ab (.a 2 I<|.k [2,3,4,5,8,9,11,28] I)<|ag I (fun h3=>?_) (fun h3=>?_)
 ·have hno:lE own l=none:=by
   rcases hih with h|⟨j,_,h,_⟩
   ·exact h.2
   ·rw[h]at h3;have:=tt h3;omega
  rw[hno]
  refine aO<|aw 3 I<|aE [8] I ?_
  exact ao<|⟨_,_,az.of I,ay.gY (ah.cons (ay.pure (p:=av l))<|ah.cons ay.pure<|ah.cons ay.bM ah.nil),rfl⟩
 ·obtain⟨j,hjl,rfl,ha⟩:∃j,j<l.length∧ix=((j:Nat):Int)∧lE own l=some (l.getD j 0):=by
   rcases hih with h|h
   ·rw[h.1]at h3;exact absurd h3 (by decide)
   ·exact h
  obtain⟨k,hkj,hk⟩:=hmem _ (cr (d:=0) hjl)
  rw[ha]
  simp only[]
  rw[hkj,Int.toNat_natCast]
  have hcm:(aq T&&cj T (dz T k d).1 (dz T k d).2)=true:=by rw[hv,xC hv hk];rfl
  have hcl:=GQ T k d hv hk hd
  have has:=zc T k hv hk
  have hmk:=fun σ=>B8 T (dz T k d).1 (dz T k d).2 hcm σ
  have hmx:ph T own n d k=if gR T (orM T (aF T (dz T k d).1 (dz T k d).2) own) n d=true then orM T (aF T (dz T k d).1 (dz T k d).2) own else own:=rfl
  generalize dz T k (d:Int)=cx at*
  obtain⟨ck,cy⟩:=cx
  simp only at hcm hcl hmk hmx
  have hMl:=fr T ck cy
  obtain⟨M,hM⟩:∃M,aF T ck cy=M:=⟨_,rfl⟩
  rw[hM]at hmk hmx hMl
  have hre:=xP T (ph T own n d k) n d hll h12
  rw[pE hv (xc hof k) hnb hdb]at hre
  clear h3 hmem hih hix hixe
  refine ai<|ln (aY (ks:=[2,3,4,5,8,9,11]) I) ?_
  refine rq ([(2,num n),(3,num d),(4,.bb (bC T) 0),(5,.bb [bn own] 0),(8,.ptr 0 0),(12,.own 1)]) ([some (.cells 76 [.raw (.slice none 0 0),flag false,.raw (.slice none 0 0)]),lI M]) mixed ?_ ?_
  ·refine vV [[(2,num n),(3,num d),(4,.bb (bC T) 0),(5,.bb [bn own] 0),(8,.ptr 0 0),(9,av l),(11,num j),(12,.own 1),(13,num 0),(31,.tuple [.own 1,num 0]),(32,aP T),(33,aP T),(34,av l),(35,num j),(36,.bb (aK l) j),(37,num k),(38,.func 183 (kD (gi T k) (aS T k) ((k / 2:Nat):Int) (IA T k) (II T k))),(39,num d),(40,ca ck cy),(41,.tuple [.own 1,num 0]),(42,.own 1),(43,num 0)]] [[some (.cells 76 [.raw (.slice none 0 0),flag false,.raw (.slice none 0 0)])],[some (.cells 76 [.raw (.slice none 0 0),flag false,.raw (.slice none 0 0)]),lI M]] [2,3,4,5,8,9,11] I (by kernel_rfl) (fun M hi ho=>?_)
   have μ0:M 0 32767 0 [2,3,4,5,8,12] 1:=hi<|se I (by kernel_rfl) (⟨rfl,aY (ks:=[2,3,4,5,8,12]) I⟩)
   have μ1:M 1 16383 0 [2,3,4,5,8,12,43] 1:=hi<|aa [(14,32767)] I<|an (ho μ0) I I af
   have μ2:M 2 8191 0 [2,3,4,5,8,42,43] 1:=hi<|aa [(13,16383)] I<|an (ho μ1) I I af
   have μ3:M 2 12287 0 [2,3,4,5,8,12,31] 1:=hi<|aa [(12,16383)] I<|an (ho μ1) I I af
   have μ4:M 3 4095 0 [2,3,4,5,8,31,42] 1:=hi<|aa [(12,8191),(13,12287)] I<|an (ho μ2) I I<|an (ho μ3) I I af
   have μ5:M 3 6143 0 [2,3,4,5,8,31,43] 1:=hi<|aa [(11,8191)] I<|an (ho μ2) I I af
   have μ6:M 4 2047 0 [2,3,4,5,8,31] 1:=hi<|aa [(11,4095),(12,6143)] I<|an (ho μ4) I I<|an (ho μ5) I I af
   have μ7:M 5 1023 0 [2,3,4,5,8,41] 1:=hi<|aa [(10,2047)] I<|an (ho μ6) I I af
   have μ8:M 6 511 0 [2,3,4,5,8,32,40] 0:=hi<|aa [(9,1023)] I<|fp I I I I (hmk _) (ho μ7) I I af
   have μ9:M 7 255 0 [2,3,4,5,8,32,38,39] 0:=hi<|aa [(8,511)] I<|bx I I (dU I (hcl)) I (ho μ8) I I af
   have μ10:M 8 127 0 [2,3,4,5,8,32,38] 0:=hi<|aa [(7,255)] I<|an (ho μ9) I I af
   have μ11:M 8 191 0 [2,3,4,5,8,32,33,37,39] 0:=hi<|aa [(6,255)] I<|bx I I (dU I (has)) I (ho μ9) I I af
   have μ12:M 9 63 0 [2,3,4,5,8,32,33,37] 0:=hi<|aa [(6,127),(7,191)] I<|bx I I (dU I (has)) I (ho μ10) I I<|an (ho μ11) I I af
   have μ13:M 9 159 0 [2,3,4,5,8,32,33,36,39] 0:=hi<|aa [(5,191)] I<|bx I I (aJ I ((aB l j hjl).trans (by rw[hkj]))) I (ho μ11) I I af
   have μ14:M 10 31 0 [2,3,4,5,8,32,33,36] 0:=hi<|aa [(5,63),(7,159)] I<|bx I I (aJ I ((aB l j hjl).trans (by rw[hkj]))) I (ho μ12) I I<|an (ho μ13) I I af
   have μ15:M 10 143 0 [2,3,4,5,8,32,33,34,35,39] 0:=hi<|aa [(4,159)] I<|bx I I (aN (j) I) I (ho μ13) I I af
   have μ16:M 11 15 0 [2,3,4,5,8,32,33,34,35] 0:=hi<|aa [(4,31),(7,143)] I<|bx I I (aN (j) I) I (ho μ14) I I<|an (ho μ15) I I af
   have μ17:M 11 135 0 [2,3,4,5,8,11,32,33,34,39] 0:=hi<|aa [(3,143)] I<|an (ho μ15) I I af
   have μ18:M 12 7 0 [2,3,4,5,8,11,32,33,34] 0:=hi<|aa [(3,15),(7,135)] I<|an (ho μ16) I I<|an (ho μ17) I I af
   have μ19:M 11 139 0 [2,3,4,5,8,9,32,33,35,39] 0:=hi<|aa [(2,143)] I<|an (ho μ15) I I af
   have μ20:M 12 11 0 [2,3,4,5,8,9,32,33,35] 0:=hi<|aa [(2,15),(7,139)] I<|an (ho μ16) I I<|an (ho μ19) I I af
   have μ21:M 12 131 0 [2,3,4,5,8,9,11,32,33,39] 0:=hi<|aa [(2,135),(3,139)] I<|an (ho μ17) I I<|an (ho μ19) I I af
   have μ22:M 13 3 0 [2,3,4,5,8,9,11,32,33] 0:=hi<|aa [(2,7),(3,11),(7,131)] I<|an (ho μ18) I I<|an (ho μ20) I I<|an (ho μ21) I I af
   have μ23:M 9 189 0 [2,3,4,5,8,32,37,39] 0:=hi<|aa [(1,191)] I<|an (ho μ11) I I af
   have μ24:M 10 61 0 [2,3,4,5,8,32,37] 0:=hi<|aa [(1,63),(7,189)] I<|an (ho μ12) I I<|an (ho μ23) I I af
   have μ25:M 10 157 0 [2,3,4,5,8,32,36,39] 0:=hi<|aa [(1,159),(5,189)] I<|an (ho μ13) I I<|bx I I (aJ I ((aB l j hjl).trans (by rw[hkj]))) I (ho μ23) I I af
   have μ26:M 11 29 0 [2,3,4,5,8,32,36] 0:=hi<|aa [(1,31),(5,61),(7,157)] I<|an (ho μ14) I I<|bx I I (aJ I ((aB l j hjl).trans (by rw[hkj]))) I (ho μ24) I I<|an (ho μ25) I I af
   have μ27:M 11 141 0 [2,3,4,5,8,32,34,35,39] 0:=hi<|aa [(1,143),(4,157)] I<|an (ho μ15) I I<|bx I I (aN (j) I) I (ho μ25) I I af
   have μ28:M 12 13 0 [2,3,4,5,8,32,34,35] 0:=hi<|aa [(1,15),(4,29),(7,141)] I<|an (ho μ16) I I<|bx I I (aN (j) I) I (ho μ26) I I<|an (ho μ27) I I af
   have μ29:M 12 133 0 [2,3,4,5,8,11,32,34,39] 0:=hi<|aa [(1,135),(3,141)] I<|an (ho μ17) I I<|an (ho μ27) I I af
   have μ30:M 13 5 0 [2,3,4,5,8,11,32,34] 0:=hi<|aa [(1,7),(3,13),(7,133)] I<|an (ho μ18) I I<|an (ho μ28) I I<|an (ho μ29) I I af
   have μ31:M 12 137 0 [2,3,4,5,8,9,32,35,39] 0:=hi<|aa [(1,139),(2,141)] I<|an (ho μ19) I I<|an (ho μ27) I I af
   have μ32:M 13 9 0 [2,3,4,5,8,9,32,35] 0:=hi<|aa [(1,11),(2,13),(7,137)] I<|an (ho μ20) I I<|an (ho μ28) I I<|an (ho μ31) I I af
   have μ33:M 13 129 0 [2,3,4,5,8,9,11,32,39] 0:=hi<|aa [(1,131),(2,133),(3,137)] I<|an (ho μ21) I I<|an (ho μ29) I I<|an (ho μ31) I I af
   have μ34:M 14 1 0 [2,3,4,5,8,9,11,32] 0:=hi<|aa [(1,3),(2,5),(3,9),(7,129)] I<|an (ho μ22) I I<|an (ho μ30) I I<|an (ho μ32) I I<|an (ho μ33) I I af
   have μ35:M 7 510 0 [2,3,4,5,8,40] 0:=hi<|aa [(0,511)] I<|an (ho μ8) I I af
   have μ36:M 8 254 0 [2,3,4,5,8,38,39] 0:=hi<|aa [(0,255),(8,510)] I<|an (ho μ9) I I<|bx I I (dU I (hcl)) I (ho μ35) I I af
   have μ37:M 9 126 0 [2,3,4,5,8,38] 0:=hi<|aa [(0,127),(7,254)] I<|an (ho μ10) I I<|an (ho μ36) I I af
   have μ38:M 9 190 0 [2,3,4,5,8,33,37,39] 0:=hi<|aa [(0,191),(6,254)] I<|an (ho μ11) I I<|bx I I (dU I (has)) I (ho μ36) I I af
   have μ39:M 10 62 0 [2,3,4,5,8,33,37] 0:=hi<|aa [(0,63),(6,126),(7,190)] I<|an (ho μ12) I I<|bx I I (dU I (has)) I (ho μ37) I I<|an (ho μ38) I I af
   have μ40:M 10 158 0 [2,3,4,5,8,33,36,39] 0:=hi<|aa [(0,159),(5,190)] I<|an (ho μ13) I I<|bx I I (aJ I ((aB l j hjl).trans (by rw[hkj]))) I (ho μ38) I I af
   have μ41:M 11 30 0 [2,3,4,5,8,33,36] 0:=hi<|aa [(0,31),(5,62),(7,158)] I<|an (ho μ14) I I<|bx I I (aJ I ((aB l j hjl).trans (by rw[hkj]))) I (ho μ39) I I<|an (ho μ40) I I af
   have μ42:M 11 142 0 [2,3,4,5,8,33,34,35,39] 0:=hi<|aa [(0,143),(4,158)] I<|an (ho μ15) I I<|bx I I (aN (j) I) I (ho μ40) I I af
   have μ43:M 12 14 0 [2,3,4,5,8,33,34,35] 0:=hi<|aa [(0,15),(4,30),(7,142)] I<|an (ho μ16) I I<|bx I I (aN (j) I) I (ho μ41) I I<|an (ho μ42) I I af
   have μ44:M 12 134 0 [2,3,4,5,8,11,33,34,39] 0:=hi<|aa [(0,135),(3,142)] I<|an (ho μ17) I I<|an (ho μ42) I I af
   have μ45:M 13 6 0 [2,3,4,5,8,11,33,34] 0:=hi<|aa [(0,7),(3,14),(7,134)] I<|an (ho μ18) I I<|an (ho μ43) I I<|an (ho μ44) I I af
   have μ46:M 12 138 0 [2,3,4,5,8,9,33,35,39] 0:=hi<|aa [(0,139),(2,142)] I<|an (ho μ19) I I<|an (ho μ42) I I af
   have μ47:M 13 10 0 [2,3,4,5,8,9,33,35] 0:=hi<|aa [(0,11),(2,14),(7,138)] I<|an (ho μ20) I I<|an (ho μ43) I I<|an (ho μ46) I I af
   have μ48:M 13 130 0 [2,3,4,5,8,9,11,33,39] 0:=hi<|aa [(0,131),(2,134),(3,138)] I<|an (ho μ21) I I<|an (ho μ44) I I<|an (ho μ46) I I af
   have μ49:M 14 2 0 [2,3,4,5,8,9,11,33] 0:=hi<|aa [(0,3),(2,6),(3,10),(7,130)] I<|an (ho μ22) I I<|an (ho μ45) I I<|an (ho μ47) I I<|an (ho μ48) I I af
   have μ50:M 10 188 0 [2,3,4,5,8,37,39] 0:=hi<|aa [(0,189),(1,190)] I<|an (ho μ23) I I<|an (ho μ38) I I af
   have μ51:M 11 60 0 [2,3,4,5,8,37] 0:=hi<|aa [(0,61),(1,62),(7,188)] I<|an (ho μ24) I I<|an (ho μ39) I I<|an (ho μ50) I I af
   have μ52:M 11 156 0 [2,3,4,5,8,36,39] 0:=hi<|aa [(0,157),(1,158),(5,188)] I<|an (ho μ25) I I<|an (ho μ40) I I<|bx I I (aJ I ((aB l j hjl).trans (by rw[hkj]))) I (ho μ50) I I af
   have μ53:M 12 28 0 [2,3,4,5,8,36] 0:=hi<|aa [(0,29),(1,30),(5,60),(7,156)] I<|an (ho μ26) I I<|an (ho μ41) I I<|bx I I (aJ I ((aB l j hjl).trans (by rw[hkj]))) I (ho μ51) I I<|an (ho μ52) I I af
   have μ54:M 12 140 0 [2,3,4,5,8,34,35,39] 0:=hi<|aa [(0,141),(1,142),(4,156)] I<|an (ho μ27) I I<|an (ho μ42) I I<|bx I I (aN (j) I) I (ho μ52) I I af
   have μ55:M 13 12 0 [2,3,4,5,8,34,35] 0:=hi<|aa [(0,13),(1,14),(4,28),(7,140)] I<|an (ho μ28) I I<|an (ho μ43) I I<|bx I I (aN (j) I) I (ho μ53) I I<|an (ho μ54) I I af
   have μ56:M 13 132 0 [2,3,4,5,8,11,34,39] 0:=hi<|aa [(0,133),(1,134),(3,140)] I<|an (ho μ29) I I<|an (ho μ44) I I<|an (ho μ54) I I af
   have μ57:M 14 4 0 [2,3,4,5,8,11,34] 0:=hi<|aa [(0,5),(1,6),(3,12),(7,132)] I<|an (ho μ30) I I<|an (ho μ45) I I<|an (ho μ55) I I<|an (ho μ56) I I af
   have μ58:M 13 136 0 [2,3,4,5,8,9,35,39] 0:=hi<|aa [(0,137),(1,138),(2,140)] I<|an (ho μ31) I I<|an (ho μ46) I I<|an (ho μ54) I I af
   have μ59:M 14 8 0 [2,3,4,5,8,9,35] 0:=hi<|aa [(0,9),(1,10),(2,12),(7,136)] I<|an (ho μ32) I I<|an (ho μ47) I I<|an (ho μ55) I I<|an (ho μ58) I I af
   have μ60:M 14 128 0 [2,3,4,5,8,9,11,39] 0:=hi<|aa [(0,129),(1,130),(2,132),(3,136)] I<|an (ho μ33) I I<|an (ho μ48) I I<|an (ho μ56) I I<|an (ho μ58) I I af
   have μ61:M 15 0 0 [2,3,4,5,8,9,11] 0:=hi<|aa [(0,1),(1,2),(2,4),(3,8),(7,128)] I<|an (ho μ34) I I<|an (ho μ49) I I<|an (ho μ57) I I<|an (ho μ59) I I<|an (ho μ60) I I af
   exact μ61
  refine aj<|ab (.a 3 I<|.k [2,3,4,5,8,12,45,46] I)<|eF (σ':=[some (.cells 76 [.raw (.slice none 0 0),flag false,.raw (.slice none 0 0)]),lI (lG T M own 0)]) (by rw[Cx hMl]) ?_
  refine au<|eH [2,3,4,5,8,12,45,46] I<|bq (fun r s=>∃a,a≤2*T.ae.length∧r=2*T.ae.length - a∧s=⟨[(2,num n),(3,num d),(4,.bb (bC T) 0),(5,.bb [bn own] 0),(8,.ptr 0 0),(12,.own 1),(45,num M.length),(46,num a)],[some (.cells 76 [.raw (.slice none 0 0),flag false,.raw (.slice none 0 0)]),lI (lG T M own a)]⟩) (2*T.ae.length) ⟨0,by omega,by omega,rfl⟩ ?_
  rintro r s ⟨a,ha2,rfl,rfl⟩
  have hol:=sz T M own a
  refine ab (.a 1 I<|.k [2,3,4,5,8,12,45,46,47] I)<|aj<|ag I (fun h4=>?_) (fun h4=>?_)
  ·have hlt:a<2*T.ae.length:=by have:=tt h4;omega
   have hst:=Cc T M own a
   have hat:=F8 (T:=T) (D:=M) (E:=own) hlt
   clear h4
   refine ai<|aj<|au<|ab (.a 2 I<|.k [2,3,4,5,8,12,14,45,46] I) ?_
   obtain⟨c1,hc1⟩:∃q,aQ M a=q:=⟨_,rfl⟩
   obtain⟨c2,hc2⟩:∃q,aQ own a=q:=⟨_,rfl⟩
   rw[hc1,hc2]at hst
   rw[hc1]at hat
   refine Ju (Q1:=fun st=>st=⟨[(2,num n),(3,num d),(4,.bb (bC T) 0),(5,.bb [bn own] 0),(8,.ptr 0 0),(12,.own 1),(45,num M.length),(46,num a)],[some (.cells 76 [.raw (.slice none 0 0),flag false,.raw (.slice none 0 0)]),lI (lG T M own (a+1))]⟩) ?_ ?_
   ·cases c1
    ·refine bI<|aw 4 I<|bw (aN (a) I) I<|bw (aJ I ((show(bX (lG T M own a))[a]? =some (flag false) by rw[dt _ a (by omega),hat]))) I<|aw 3 I<|bw (aN (a) I) I<|bw (aJ I ((show(bX own)[a]? =some (flag c2) by rw[dt _ a (by omega),ft,hc2]))) I<|aw 1 I<|bw (aN (a) I) I<|bc ((by first|exact bN I (ba.tk.get I) I I I (by first|omega|(simp;omega))|exact bg I (ba.tk.get I) I I I (by first|omega|(simp;omega)))) I I<|aE [2,3,4,5,8,12,45,46] I ?_
     rw[←hst]
     unfold lI
     rw[List.length_set]
     rfl
    ·refine bI<|aw 4 I<|bw (aN (a) I) I<|bw (aJ I ((show(bX (lG T M own a))[a]? =some (flag true) by rw[dt _ a (by omega),hat]))) I<|aw 6 I<|bw (aN (a) I) I<|bc ((by first|exact bN I (ba.tk.get I) I I I (by first|omega|(simp;omega))|exact bg I (ba.tk.get I) I I I (by first|omega|(simp;omega)))) I I<|aE [2,3,4,5,8,12,45,46] I ?_
     rw[←hst]
     unfold lI
     rw[List.length_set]
     rfl
   rintro _ rfl
   refine aC (.v (aU I) I<|.a 1 I<|.k [2,3,4,5,8,12,45,46] I) ?_
   exact⟨2*T.ae.length - (a+1),by omega,a+1,by omega,rfl,rfl⟩
  ·have hae:a=2*T.ae.length:=by have:=ff h4;omega
   subst hae
   rw[Fl]
   clear h4
   refine bd<|aj<|Fq 12 1 I I ?_
   refine dI [0] (.c 2<|.c 3<|.c 4<|.c 5<|.c 8<|.c 12<|.nil) (.kept rfl (.cells (aI.c<|aI.c<|aI.c<|aI.nil))<|.nil) I I ?_
   obtain⟨q,hq⟩:∃q,gR T (orM T M own) n d=q:=⟨_,rfl⟩
   rw[hq]at hmx
   refine ab (.a 4 I<|.c rfl (hq▸zB T (orM T M own) n d) I<|.a 1 I<|.k [2,3,4,5,8,12,68] I)<|ag I (fun h5=>?_) (fun h5=>?_)
   ·have h5:q=false:=by simpa using h5
    rw[h5,if_neg (by simp)]at hmx
    rw[hmx]at hre ⊢
    refine aC (.a 2 I<|.k [2,3,4,8,12] I) ?_
    refine aO<|aw 4 I<|eW I (hre) I<|aw 6 I<|aE [8,15] I ?_
    refine aO<|aw 2 I<|aE [8] I ?_
    exact ao<|⟨_,_,az.of I,ay.pure (p:=xQ _),rfl⟩
   ·have h5:q=true:=by simpa using h5
    rw[h5,if_pos rfl]at hmx
    rw[hmx]at hre ⊢
    refine ai<|aO<|aw 4 I<|eW I (hre) I<|aw 6 I<|aE [8,15] I ?_
    refine aO<|aw 2 I<|aE [8] I ?_
    exact ao<|⟨_,_,az.of I,ay.pure (p:=xQ _),rfl⟩
def ni(T:ak)(M:List Bool)(o:List Int)(i:Nat):List Bool:=(List.range (2*T.ae.length)).map fun(b:Nat)=>decide ((b:Int)∈o.take i)&&aQ M b
theorem FE(T:ak)(M:List Bool)(o:List Int)(i:Nat):(ni T M o i).length=2*T.ae.length:=by simp[ni]
theorem sw{T:ak}{M:List Bool}{o:List Int}{i b:Nat}(h:b<(ni T M o i).length):(ni T M o i)[b]=(decide ((b:Int)∈o.take i)&&aQ M b):=by simp[ni]
theorem Cw(T:ak)(M:List Bool)(o:List Int):ni T M o 0=List.replicate (2*T.ae.length) false:=by
 apply List.ext_getElem (by simp[ni])
 intro i h1 h2
 rw[sw]
 simp
theorem BR{T:ak}{M:List Bool}{o:List Int}{i k:Nat}(hi:i<o.length)(hk:o.getD i 0=(k:Int))(hkl:k<2*T.ae.length):ni T M o (i+1)=if aQ M k then(ni T M o i).set k true else ni T M o i:=by
 have hmem:∀b:Nat,((b:Int)∈o.take (i+1))↔((b:Int)∈o.take i∨b=k):=fun b=>by
  rw[dK o i 0 hi,List.mem_append,List.mem_singleton,hk]
  exact⟨fun h=>h.imp id (fun e=>by omega),fun h=>h.imp id (fun e=>by omega)⟩
 split
 ·rename_i hd
  apply List.ext_getElem (by simp[ni])
  intro b h1 h2
  rw[sw,List.getElem_set]
  by_cases e:k=b
  ·subst e
   rw[if_pos rfl,decide_eq_true ((hmem k).2 (.inr rfl)),hd]
   rfl
  ·rw[if_neg e,sw]
   congr 1
   exact decide_eq_decide.2 ((hmem b).trans ⟨fun h=>h.resolve_right (fun e'=>e e'.symm),.inl⟩)
 ·rename_i hd
  unfold ni
  refine List.map_congr_left fun b _=>?_
  by_cases e:b=k
  ·subst e
   rw[Bool.eq_false_iff.2 hd]
   simp
  ·congr 1
   exact decide_eq_decide.2 ((hmem b).trans ⟨fun h=>h.resolve_right e,.inl⟩)
theorem Fe(T:ak)(M:List Bool)(n:Int):ni T M (bP T n) (bP T n).length=fX T M n:=by
 unfold ni fX
 refine List.map_congr_left fun b hb=>?_
 have hb:=List.mem_range.1 hb
 rw[List.take_length,Bool.and_comm]
 congr 1
 refine decide_eq_decide.2 (jB.trans ⟨fun h=>by have:=h.2;rwa [Int.toNat_natCast]at this,fun h=>⟨cW.2 (by omega),by rw[Int.toNat_natCast];exact h⟩⟩)
set_option maxHeartbeats 2000000 in
theorem Ck(T:ak)(k x n:Int)(h12:T.nodes≤12):Can Tryz.prog 55 [aP T,ca k x,num n] (· =j8 (if ej T k x=0 then(if bu T n then 0 else 2) else 1) (qU T (aF T k x) n.toNat)):=by
 have hmk:=mw T k x
 unfold iO at hmk
 refine aH Tryz.func55 I Tryz.ntmps55 I<|aO<|aw 4 I<|aE [2,3,4,6] I ?_
 refine ab (.a 2 I<|.c rfl (hmk) I<|.a 5 I<|.k [2,3,6,8,9] I)<|aj<|ab (.a 2 I<|.k [2,3,6,8,9,22] I)<|ag I (fun h1=>?_) (fun h1=>?_)
 ·have h1:=tt h1
  rw[if_neg h1]
  have h1':=xj h1
  rw[h1']
  refine aO<|aw 4 I<|aE [6,7] I ?_
  exact ao<|⟨_,_,az.of I,ay.aX (ah.cons (ay.gY (ah.cons ay.pure<|ah.cons ay.bM<|ah.cons ay.bM ah.nil)) (ah.cons ay.pure ah.nil)),rfl⟩
 ·have h1:ej T k x=0:=Classical.byContradiction (ff h1)
  obtain⟨hv,hc⟩:=Bool.and_eq_true_iff.1 (o9 h1)
  rw[if_pos h1,if_pos h1]
  have hll:=bT hv
  refine ai<|aj<|ab (.a 2 I<|.c rfl (dJ T n) I<|.a 1 I<|.k [2,3,6,8,28] I)<|ag I (fun h2=>?_) (fun h2=>?_)
  ·have hn:bu T n=false:=by simpa using h2
   rw[hn]
   refine aO<|aw 3 I<|aE [6,7] I ?_
   exact ao<|⟨_,_,az.of I,ay.aX (ah.cons (ay.gY (ah.cons ay.pure<|ah.cons ay.bM<|ah.cons ay.bM ah.nil)) (ah.cons ay.pure ah.nil)),rfl⟩
  ·have hn:bu T n=true:=by simpa using h2
   rw[hn,if_pos rfl]
   rw[aT]at hn
   obtain⟨m,rfl⟩:=Int.eq_ofNat_of_zero_le hn.1
   rw[Int.toNat_natCast]
   obtain⟨N,hN⟩:∃N:Nat,T.nodes=(N:Int):=⟨T.nodes.toNat,by omega⟩
   have hMl:=fr T k x
   obtain⟨M,hM⟩:∃M,aF T k x=M:=⟨_,rfl⟩
   rw[hM]at hMl ⊢
   have hol:(bP T m).length≤512:=Nat.le_trans (eT T m _) (by omega)
   clear h2 hmk
   refine ai<|aO<|aw 4 I<|aE [2,3,6,8,10] I ?_
   refine cz 1 1 76 3 I I ?_
   refine cz 1 2 3 1 I I ?_
   refine aO<|aw 1 I<|eW I (iG T (by omega)) I<|b7 (dX I (ba.rk.get I) I I (show 2*(T.ae.length:Int)=((2*T.ae.length:Nat):Int) by omega) (show 2*(T.ae.length:Int)=((2*T.ae.length:Nat):Int) by omega) ⟨by unfold maxLen;omega,by omega⟩) I<|aw 1 I<|aE [2,3,6,8,10,11] I ?_
   refine aj<|ab (.a 2 I<|.c rfl (oF T hll _) I<|.a 2 I<|.k [2,3,6,8,10,11,37,38,39] I)<|au<|eH [2,3,6,8,10,11,37,38,39] I<|eF (σ':=[some (.cells 56 [num 0,.raw (.slice none 0 0),.raw (.slice none 0 0)]),some (.cells 56 [num m,.own 2,.own 3]),some (.row 76 3 0 []),some (.row 3 1 0 []),some (.row 4 1 (2*T.ae.length) (bX (ni T M (bP T m) 0)))]) (by rw[Cw,←iD];rfl) ?_
   refine bq (fun r s=>∃i,i≤(bP T m).length∧r=(bP T m).length - i∧s=⟨[(2,num m),(3,.bb (bC T) 0),(6,.ptr 0 0),(8,bn M),(10,.ptr 1 0),(11,.own 4),(37,av (bP T m)),(38,num (bP T m).length),(39,num i)],[some (.cells 56 [num 0,.raw (.slice none 0 0),.raw (.slice none 0 0)]),some (.cells 56 [num m,.own 2,.own 3]),some (.row 76 3 0 []),some (.row 3 1 (cQ M ((bP T m).take i)).length (aK (cQ M ((bP T m).take i)))),some (.row 4 1 (2*T.ae.length) (bX (ni T M (bP T m) i)))]⟩) (bP T m).length ⟨0,by omega,by omega,rfl⟩ ?_
   rintro r s ⟨i,hi,rfl,rfl⟩
   skip
   refine ab (.a 1 I<|.k [2,3,6,8,10,11,37,38,39,40] I)<|aj<|ag I (fun h3=>?_) (fun h3=>?_)
   ·have hlt:i<(bP T m).length:=by have:=tt h3;omega
    obtain⟨a0,a1⟩:=kI (cr (d:=0) hlt)
    obtain⟨a,ha⟩:=Int.eq_ofNat_of_zero_le a0
    have hal:a<2*T.ae.length:=by omega
    have hstep:cQ M ((bP T m).take (i+1))=cQ M ((bP T m).take i)++(if aQ M a then [(a:Int)] else []):=by
     unfold cQ
     rw[dK _ i 0 hlt,List.filter_append,ha]
     simp only[List.filter_cons,List.filter_nil,Int.toNat_natCast]
    have hdl:(cQ M ((bP T m).take i)).length≤1000:=Nat.le_trans (List.length_filter_le _ _) (by rw[List.length_take];omega)
    have hds:=BR (T:=T) (M:=M) hlt ha hal
    have hdn:=FE T M (bP T m) i
    obtain⟨q,hq⟩:∃q,aQ M a=q:=⟨_,rfl⟩
    rw[hq]at hstep hds
    clear h3
    refine ai<|aj<|au<|ab (.v (aN (i) I) I<|.v (aJ I ((aB _ i hlt).trans (by rw[ha]))) I<|.a 1 I<|.k [2,3,6,8,10,11,13,37,38,39] I)<|ab (.a 2 I<|.v (aN (a) I) I<|.v (aJ I ((show(bX M)[a]? =some (flag q) by rw[dt _ a (by omega),ft,hq]))) I<|.k [2,3,6,8,10,11,13,37,38,39,46] I)<|ag I (fun h4=>?_) (fun h4=>?_)
    ·subst h4
     rw[if_pos rfl]at hstep hds
     refine aO<|aw 2 I<|bw (aN (a) I) I<|bc ((by first|exact bN I (ba.tk.get I) I I I (by first|omega|(simp;omega))|exact bg I (ba.tk.get I) I I I (by first|omega|(simp;omega)))) I I<|aE [2,3,6,8,10,11,13,37,38,39] I ?_
     refine bI<|aw 4 I<|b7 (bh I (ba.rk.get I) I I I I (by unfold maxLen;omega)) I<|aw 2 I ?_
     refine eR [0,1,2,5,4] (.c 2<|.c 3<|.c 6<|.c 8<|.c 10<|.c 11<|.c 37<|.c 38<|.c 39<|.nil) (.kept rfl (.cells (aI.c<|aI.c<|aI.c<|aI.nil))<|.kept rfl (.cells (aI.c<|aI.c<|aI.c<|aI.nil))<|.kept rfl (.row aI.pure)<|.kept rfl (.fF rfl (dE _ _))<|.kept rfl (.row aI.pure)<|.nil) I I (bp ?_)
     refine aC (.v (aU I) I<|.a 1 I<|.k [2,3,6,8,10,11,37,38,39] I) ?_
     refine⟨(bP T m).length - (i+1),by omega,i+1,by omega,rfl,?_⟩
     rw[hstep,hds]
     first
      |rfl
      |(simp only[List.length_append,List.length_singleton];rfl)
    ·subst h4
     rw[if_neg (by simp),List.append_nil]at hstep
     rw[if_neg (by simp)]at hds
     refine ai<|aC (.v (aU I) I<|.a 1 I<|.k [2,3,6,8,10,11,37,38,39] I) ?_
     refine⟨(bP T m).length - (i+1),by omega,i+1,by omega,rfl,?_⟩
     rw[hstep,hds]
     first
      |rfl
      |(simp only[List.length_append,List.length_singleton];rfl)
   ·have hie:i=(bP T m).length:=by have:=ff h3;omega
    subst hie
    rw[Fe,List.take_length]
    clear h3
    refine bd<|aj ?_
    have hown:(fX T M m).length=2*T.ae.length:=by simp[fX]
    unfold qU
    obtain⟨own,howe⟩:∃own,fX T M m=own:=⟨_,rfl⟩
    rw[howe]at hown ⊢
    obtain⟨dl,hdl⟩:∃dl,cQ M (bP T m)=dl:=⟨_,rfl⟩
    rw[hdl]
    refine dI [0,1,2,3,4] (.c 2<|.c 3<|.c 6<|.c 10<|.c 11<|.nil) (.kept rfl (.cells (aI.c<|aI.c<|aI.c<|aI.nil))<|.kept rfl (.cells (aI.c<|aI.c<|aI.c<|aI.nil))<|.kept rfl (.row aI.pure)<|.kept rfl (.row aI.pure)<|.kept rfl (.fF (show 2*T.ae.length=own.length by omega) I)<|.nil) I I ?_
    refine Fq 11 4 I I ?_
    refine dI [0,1,2,3] (.c 2<|.c 3<|.c 6<|.c 10<|.c 11<|.nil) (.kept rfl (.cells (aI.c<|aI.c<|aI.c<|aI.nil))<|.kept rfl (.cells (aI.c<|aI.c<|aI.c<|aI.nil))<|.kept rfl (.row aI.pure)<|.kept rfl (.row aI.pure)<|.nil) I I ?_
    refine ab (.a 1 I<|.v (aJ I ((show some (num T.nodes)=some (num (N:Int)) by rw[hN]))) I<|.a 1 I<|.k [2,3,6,10,11,58,59] I)<|au<|eH [2,3,6,10,11,58,59] I<|bq (fun r s=>∃j,j≤N∧r=N - j∧s=⟨[(2,num m),(3,.bb (bC T) 0),(6,.ptr 0 0),(10,.ptr 1 0),(11,bn own),(58,num N),(59,num j)],[some (.cells 56 [num 0,.raw (.slice none 0 0),.raw (.slice none 0 0)]),some (.cells 56 [num m,.own 2,.own 3]),some (.row 76 3 j (dZ (pC T own m j))),some (.row 3 1 dl.length (aK dl))]⟩) N ⟨0,by omega,by omega,rfl⟩ ?_
    rintro r s ⟨j,hj,rfl,rfl⟩
    refine ab (.a 1 I<|.k [2,3,6,10,11,58,59,60] I)<|aj<|ag I (fun h3=>?_) (fun h3=>?_)
    ·have hlt:j<N:=by have:=tt h3;omega
     have hre:=DD T own m j hv hown hn.2 (by omega) h12
     refine ai<|aj<|au<|ab (.a 2 I<|.k [2,3,6,10,11,14,58,59] I)<|dL 8 20 mixed (
      .val [10] I (aZ I) I I<|
      .val [62] I (aZ I) I I<|
      .val [3] I (aZ I) I I<|
      .val [11] I (aZ I) I I<|
      .val [2] I (aZ I) I I<|
      .val [14] I (aZ I) I I<|
      .val [64,65,66,67] I (dU I (hre)) I I<|
      .val [68] I (aZ I) I I<|
      .nil) (by kernel_rfl) I I (aY (ks:=[2,3,6,10,11,58,59,63,69]) I) ?_
     refine b7 (bh I (ba.rk.get I) I I I I (by unfold maxLen;omega)) I<|aw 2 I ?_
     refine eR [0,1,4,3] (.c 2<|.c 3<|.c 6<|.c 10<|.c 11<|.c 58<|.c 59<|.nil) (.kept rfl (.cells (aI.c<|aI.c<|aI.c<|aI.nil))<|.kept rfl (.cells (aI.c<|aI.c<|aI.c<|aI.nil))<|.kept rfl (.fF rfl (show _=dZ (pC T own m (j+1)) by rw[B9];exact nB _ _))<|.kept rfl (.row aI.pure)<|.nil) I I (bp ?_)
     refine aC (.v (aU I) I<|.a 1 I<|.k [2,3,6,10,11,58,59] I) ?_
     exact⟨N - (j+1),by omega,j+1,by omega,rfl,rfl⟩
    ·have hje:j=N:=by have:=ff h3;omega
     subst hje
     refine bd<|aO<|bw (fh (ys:=[num m,.own 2,.own 3]) I (ba.tk.get I) I I I I) I<|aw 2 I<|aE [6,7] I ?_
     refine ao<|⟨_,_,az.of I,ay.aX (ah.cons (ay.gY (ah.cons ay.pure<|ah.cons (ay.fy rfl ah.pure)<|ah.cons (ay.fy rfl ah.pure) ah.nil)) (ah.cons ay.pure ah.nil)),?_⟩
     unfold j8 fw eL iv av
     rw[if_pos rfl,rO,show T.nodes.toNat=j by omega]
end
end PW
end Go.Proofs.YtnegbdpggideiaaGreatDoor
namespace Go.Proofs.YtnegbdpggideiaaGreatDoor
namespace PW
open Go.RowKit cG Mem Net eY
namespace B5
def Kt(T:ak)(D:List Bool)(d:Nat)(L:List Int)(a:Nat):List Int:=
 if(!aQ D a)&&decide (0≤L.getD (aS T a).toNat 0)&&(decide (aS T a=(d:Int))|| !dp T (aS T a).toNat)&&(decide (L.getD (bm T a).toNat 0<0)||decide (L.getD (aS T a).toNat 0+cp T a<L.getD (bm T a).toNat 0))
 then L.set (bm T a).toNat (L.getD (aS T a).toNat 0+cp T a) else L
def dC(T:ak)(D:List Bool)(d:Nat):List Int:=(List.range T.nodes.toNat).foldl (fun L _=>(List.range (2*T.ae.length)).foldl (Kt T D d) L) ((List.replicate T.nodes.toNat (-1)).set d 0)
def H5(T:ak)(D:List Bool)(n:Nat)(out:List Int)(a:Nat):Bool:= !aQ D a&&decide (0≤at' out (cY T false a))&&(decide (cY T false a=(n:Int))|| !dp T (cY T false a).toNat)
def JF(T:ak)(D:List Bool)(n:Nat)(out:List Int):Bool:=
 decide (out.length=T.nodes.toNat)&&decide (at' out (n:Int)=0)&&(List.range T.nodes.toNat).all (fun x=>decide (-1≤at' out (x:Int)))&&
 (List.range (2*T.ae.length)).all (fun a=> !H5 T D n out a||(decide (0≤at' out (fL T false a))&&decide (at' out (fL T false a)≤at' out (cY T false a)+cp T a)))&&
 (List.range T.nodes.toNat).all (fun x=>decide (x=n)||decide (at' out (x:Int)<0)||(List.range (2*T.ae.length)).any fun a=>decide (fL T false a=(x:Int))&&H5 T D n out a&&decide (at' out (x:Int)=at' out (cY T false a)+cp T a))
def oK(T:ak)(D:List Bool):Bool:=(List.range T.nodes.toNat).all fun d=>JF T D d (dC T D d)
theorem u4(T:ak)(D:List Bool)(n:Nat)(out:List Int)(a:Nat):Net.Way T D n false out a↔H5 T D n out a=true:=by
 unfold Net.Way H5
 simp[and_assoc]
theorem Gt{T:ak}{D:List Bool}(hv:aq T=true){n:Nat}{out:List Int}(h:JF T D n out=true):iT T D n false out:=by
 have hN:=(aM hv).nodes
 simp only[JF,Bool.and_eq_true,decide_eq_true_eq,List.all_eq_true,List.mem_range,Bool.or_eq_true,Bool.not_eq_true',List.any_eq_true]at h
 obtain⟨⟨⟨⟨h1,h2⟩,h3⟩,h4⟩,h5⟩:=h
 refine⟨by rw[h1];omega,h2,fun x hx=>h3 x (by omega),fun a ha hw=>?_,fun x hx h0=>?_⟩
 ·rcases h4 a ha with h|h
  ·rw[(u4 T D n out a).1 hw]at h;cases h
  ·exact h
 ·rcases h5 x (by omega)with(h|h)|⟨a,ha,⟨h6,h7⟩,h8⟩
  ·exact .inl h
  ·omega
  ·exact .inr ⟨a,ha,h6,(u4 T D n out a).2 h7,h8⟩
theorem GI{T:ak}{D:List Bool}(hv:aq T=true)(h:oK T D=true){d:Nat}(hd:(d:Int)<T.nodes):bG T D d false=dC T D d:=by
 refine kB (aM hv) (Gt hv ?_)
 simp only[oK,List.all_eq_true,List.mem_range]at h
 exact h d (by omega)
def lx(T:ak)(D:List Bool)(n d:Nat):List Int:=if n=d∨(dC T D d).getD n 0<0 then [] else lB T D (dC T D d) ((dC T D d).getD n 0) d (bP T n)
theorem next{T:ak}{D:List Bool}(hv:aq T=true)(h:oK T D=true){n d:Nat}(hd:(d:Int)<T.nodes):bH T D n d=lx T D n d:=by
 unfold bH lx;rw[GI hv h hd]
def vU(T:ak)(D:List Bool)(d:Nat):Nat→Nat→List Int
 |0,_=>[]
 |f+1,n=>match lx T D n d with
  | []=>[]
  |a::_=>a::vU T D d f (aS T a.toNat).toNat
def rn(T:ak)(D:List Bool)(n d:Nat):List Int:=vU T D d ((dC T D d).getD n 0).toNat n
theorem first{T:ak}{D:List Bool}(hv:aq T=true)(h:oK T D=true){d:Nat}(hd:(d:Int)<T.nodes):∀f n,fJ T D d f n=vU T D d f n
 |0,_=>rfl
 |f+1,n=>by
  simp only[fJ,vU,next hv h hd]
  cases lx T D n d with
  |nil=>rfl
  |cons a l=>simp only[first hv h hd f]
theorem J0{T:ak}{D:List Bool}(hv:aq T=true)(h:oK T D=true){n d:Nat}(hd:(d:Int)<T.nodes):cA T D n d=rn T D n d:=by
 unfold cA rn dN;rw[GI hv h hd,first hv h hd]
def Gp(T:ak)(D:List Bool)(s d:Int):Int:=if cu T D s d=0 then(if(dC T D d.toNat).getD s.toNat 0<0 then 11 else 0) else cu T D s d
theorem qA{T:ak}{D:List Bool}{s d:Int}(h:cu T D s d=0):(d.toNat:Int)<T.nodes∧0≤d:=by
 obtain⟨_,_,_,h4⟩:=fM h
 rw[aT]at h4
 omega
theorem KM{T:ak}{D:List Bool}(hv:aq T=true)(h:oK T D=true)(s d:Int):gV T D s d=Gp T D s d:=by
 unfold gV Gp dN
 by_cases h0:cu T D s d=0
 ·rw[if_pos h0,if_pos h0,GI hv h (qA h0).1]
 ·rw[if_neg h0,if_neg h0]
def yA(T:ak)(D:List Bool)(d:Nat):Nat→Nat→Int
 |0,m=>if m=d then 1 else 0
 |f+1,m=>if m=d then 1 else(lx T D m d).foldl (fun c a=>min 2 (c+yA T D d f (aS T a.toNat).toNat)) 0
theorem lu{T:ak}{D:List Bool}(hv:aq T=true)(h:oK T D=true){d:Nat}(hd:(d:Int)<T.nodes):∀f m,nj T D d f m=yA T D d f m
 |0,_=>rfl
 |f+1,m=>by
  simp only[nj,yA,next hv h hd]
  split
  ·rfl
  ·exact foldl_congr fun c a _=>by rw[lu hv h hd f]
def BZ(T:ak)(D:List Bool)(n:Int)(p:List Int)(i j:Nat):Bool:=
 decide ((dC T D (cO T n (p.take j)).toNat).getD (cO T n (p.take i)).toNat 0=dw T (p.take j) - dw T (p.take i))&&(decide (cu T D (cO T n (p.take i)) (cO T n (p.take j))=0)&&decide (yA T D (cO T n (p.take j)).toNat ((dC T D (cO T n (p.take j)).toNat).getD (cO T n (p.take i)).toNat 0).toNat (cO T n (p.take i)).toNat=1))
theorem KJ{T:ak}{D:List Bool}(hv:aq T=true)(h:oK T D=true)(n:Int)(p:List Int)(i j:Nat):fI T D n p i j=BZ T D n p i j:=by
 unfold fI BZ fT ei dN
 by_cases h0:cu T D (cO T n (p.take i)) (cO T n (p.take j))=0
 ·rw[GI hv h (qA h0).1,lu hv h (qA h0).1]
 ·rw[decide_eq_false h0];simp
def DY(T:ak)(D:List Bool)(n:Int)(p:List Int):Nat→Nat→List bV
 |0,_=>[]
 |f+1,i=>if i<p.length then(match lH (BZ T D n p i) i p.length with
  |some j=>⟨1,cO T n (p.take j)⟩::DY T D n p f j
  |none=>⟨2,p.getD i 0⟩::DY T D n p f (i+1)) else []
theorem F1{T:ak}{D:List Bool}(hv:aq T=true)(h:oK T D=true)(n:Int)(p:List Int):∀f i,iR T D n p f i=DY T D n p f i
 |0,_=>rfl
 |f+1,i=>by
  have:fI T D n p i=BZ T D n p i:=funext fun j=>KJ hv h n p i j
  simp only[iR,DY,this]
  split
  ·cases lH (BZ T D n p i) i p.length with
   |none=>simp only[F1 hv h n p f]
   |some j=>simp only[F1 hv h n p f]
  ·rfl
def Jp(T:ak)(D:List Bool)(n d:Int):i6:=
 if Gp T D n d=0∧n≠d then⟨[(rn T D n.toNat d.toNat).getD 0 0],true,jJ (DY T [] n (rn T D n.toNat d.toNat) (rn T D n.toNat d.toNat).length 0)⟩ else⟨[],false,[]⟩
theorem DJ{T:ak}{D:List Bool}(hv:aq T=true)(h0:oK T []=true)(h:oK T D=true)(n d:Int):jY T D n d=Jp T D n d:=by
 unfold jY Jp
 rw[KM hv h]
 by_cases hd:(d.toNat:Int)<T.nodes
 ·unfold jb
  rw[J0 hv h hd,F1 hv h0]
 ·have:¬Gp T D n d=0:=by
   unfold Gp
   intro hh
   split at hh
   ·rename_i h1;exact hd (qA h1).1
   ·rename_i h1;exact h1 hh
  rw[if_neg (fun hh=>this hh.1),if_neg (fun hh=>this hh.1)]
def kD(T:ak)(a:Nat)(d:Int):Int×Int:=
 if(decide (0<gi T a)&&decide (Gp T (aF T 3 (gi T a)) (bm T a) d=0))=true then(3,gi T a)
 else if(decide (aS T a≠d)&&decide (Gp T (aF T 2 (aS T a)) (bm T a) d=0))=true then(2,aS T a)
 else(1,((a / 2:Nat):Int))
theorem LH{T:ak}(hv:aq T=true){a:Nat}(h3:oK T (aF T 3 (gi T a))=true)(h2:oK T (aF T 2 (aS T a))=true)(d:Int):dz T a d=kD T a d:=by
 unfold dz kD gR
 rw[KM hv h3,KM hv h2]
end B5
end PW
end Go.Proofs.YtnegbdpggideiaaGreatDoor
namespace Go.Proofs.YtnegbdpggideiaaGreatDoor
namespace PW
open Go.RowKit cG Mem Net eY
namespace B5
def vN(T:ak)(D:List Bool)(n:Nat):de:=⟨n,(List.range T.nodes.toNat).map fun(d:Nat)=>⟨lx T D n d,false,[]⟩,cQ D (bP T n)⟩
theorem Fc{T:ak}{D:List Bool}(hv:aq T=true)(h:oK T D=true)(n:Nat):dO T D n=vN T D n:=by
 have hN:=(aM hv).nodes
 unfold dO vN oT
 congr 1
 refine List.map_congr_left fun d hd=>?_
 have:=List.mem_range.1 hd
 rw[next hv h (by omega)]
end B5
def uM:List Bool:=[true,true,false,false,false,false,false,false]
theorem mG:B5.oK da []=true:=by kernel_rfl
def Iz:de:=⟨3,[⟨[6],false,[]⟩,⟨[5,6],false,[]⟩,⟨[5],false,[]⟩,⟨[],false,[]⟩],[]⟩
theorem FF:dO da [] 3=Iz:=(B5.Fc kU mG 3).trans (by kernel_rfl)
end PW
end Go.Proofs.YtnegbdpggideiaaGreatDoor
namespace Go.Proofs.YtnegbdpggideiaaGreatDoor
namespace PW
open Go.RowKit cG Mem Net eY
namespace B5
def HG(T:ak)(own:List Bool)(n d:Int)(a:Nat):List Bool:=
 if Gp T (orM T (aF T (kD T a d).1 (kD T a d).2) own) n d=0 then orM T (aF T (kD T a d).1 (kD T a d).2) own else own
def Jl(T:ak)(own:List Bool)(n d:Nat):i6:=match lE own (lx T [] n d)with
 |none=>⟨lx T [] n d,false,[]⟩
 |some a=>Jp T (HG T own n d a.toNat) n d
def Je(T:ak)(own:List Bool)(n d:Nat):Bool:=match lE own (lx T [] n d)with
 |none=>true
 |some a=>oK T (aF T 3 (gi T a.toNat))&&oK T (aF T 2 (aS T a.toNat))&&oK T (orM T (aF T (kD T a.toNat d).1 (kD T a.toNat d).2) own)&&oK T (HG T own n d a.toNat)
theorem rep{T:ak}{own:List Bool}{n d:Nat}(hv:aq T=true)(h0:oK T []=true)(hd:(d:Int)<T.nodes)(h:Je T own n d=true):nF T own n d=Jl T own n d:=by
 unfold nF Jl
 unfold Je at h
 rw[next hv h0 hd]
 cases hh:lE own (lx T [] n d)with
 |none=>rfl
 |some a=>
  rw[hh]at h
  simp only[Bool.and_eq_true]at h
  obtain⟨⟨⟨h1,h2⟩,h3⟩,h4⟩:=h
  have hm:ph T own n d a.toNat=HG T own n d a.toNat:=by
   unfold ph HG gR
   rw[LH hv h1 h2,KM hv h3]
   by_cases e:Gp T (orM T (aF T (kD T a.toNat (d:Int)).1 (kD T a.toNat (d:Int)).2) own) n d=0
   ·rw[if_pos (by simpa using e),if_pos e]
   ·rw[if_neg (by simpa using e),if_neg e]
  simp only[]
  rw[hm,DJ hv h0 h4]
def AB(T:ak)(M:List Bool)(n:Nat):de:=⟨n,(List.range T.nodes.toNat).map fun d=>Jl T (fX T M n) n d,cQ M (bP T n)⟩
theorem DH{T:ak}{M:List Bool}{n:Nat}(hv:aq T=true)(h0:oK T []=true)(h:((List.range T.nodes.toNat).all fun d=>Je T (fX T M n) n d)=true):qU T M n=AB T M n:=by
 have hN:=(aM hv).nodes
 unfold qU AB pC
 congr 1
 refine List.map_congr_left fun d hd=>?_
 have hd':=List.mem_range.1 hd
 exact rep hv h0 (by omega) (List.all_eq_true.1 h d hd)
end B5
def Iy:de:=⟨0,[⟨[],false,[]⟩,⟨[7],true,[⟨1,3⟩,⟨1,2⟩,⟨1,1⟩]⟩,⟨[7],true,[⟨1,3⟩,⟨1,2⟩]⟩,⟨[7],false,[]⟩],[0]⟩
theorem Fz:qU da uM 0=Iy:=(B5.DH kU mG (by kernel_rfl)).trans (by kernel_rfl)
end PW
end Go.Proofs.YtnegbdpggideiaaGreatDoor
namespace Go.Proofs.YtnegbdpggideiaaGreatDoor
namespace PW
section
open Go.RowKit cG Mem Net Go.WideShapes
structure vi where
 T:ak
 k:Int
 x:Int
 S:List Int
 n:Int
 d:Int
def yF(c:vi):List PV:=bC c.T++[num c.k,num c.x,av c.S,num c.n,num c.d]
def qj(c:vi):PV:=.agg (yF c)
instance (c:vi):aL (yF c):=by unfold yF;unfold bC;simp only[List.cons_append,List.nil_append];infer_instance
instance (c:vi):IsPure (qj c):=by unfold qj;infer_instance
section
variable {H:Type} {enc:TypeId×Value→H} {W:World}
theorem Hw{n:Nat}{cs:List Value}{y:DataW H×List MemPlace}(h:DataW.trod enc Tryz.prog W 0 (fun _=>true) true n 33 cs=some y)(hl:cs.length=2):∃k x:Int,cs=[.int .i64 k,.int .i64 x]:=by
 have c3:Tryz.prog.cellsOf 3=1:=by kernel_rfl
 obtain⟨xs,m,_,_,_,hlen,hf⟩:=DataW.trod_struct Tryz.underlying33 h
 match cs,hl with
 | [c0,c1],_=>
  match xs,hlen with
  | [y0,y1],_=>
   have f0:DataW.trod enc Tryz.prog W 0 (fun _=>true) true m 3 (([c0,c1].drop 0).take (Tryz.prog.cellsOf 3))=some y0:=hf 0 _ rfl
   rw[c3]at f0
   have f1:DataW.trod enc Tryz.prog W 0 (fun _=>true) true m 3 (([c0,c1].drop 1).take (Tryz.prog.cellsOf 3))=some y1:=hf 1 _ rfl
   rw[c3]at f1
   obtain⟨a0,h0⟩:=ig f0
   obtain⟨a1,h1⟩:=ig f1
   simp at h0 h1
   subst h0 h1
   exact⟨a0,a1,rfl⟩
theorem Jm{base:Nat}{v:Value}{d:DataW H}{p:List MemPlace}(hv:Value.okWide Tryz.prog W .any base 50 v)(h:DataW.Trod enc Tryz.prog W 0 (fun _=>true) true 50 v d p):∃c:vi,cM EN W v (qj c):=by
 have hC:Tryz.prog.cellsOf 50=8:=by kernel_rfl
 have k_topo:Tryz.prog.cellsOf 25=3:=by kernel_rfl
 have k_comp:Tryz.prog.cellsOf 33=2:=by kernel_rfl
 have k_ints:Tryz.prog.cellsOf 37=1:=by kernel_rfl
 have k_int:Tryz.prog.cellsOf 3=1:=by kernel_rfl
 obtain⟨cs,rfl,hsz⟩:=okWide_struct Tryz.underlying50 hv
 rw[hC]at hsz
 obtain⟨fuel,hf⟩:=h
 obtain⟨cl⟩:=cs
 match cl,hsz with
 | [c0,c1,c2,c3,c4,c5,c6,c7],_=>
  obtain⟨xs,m,_,_,_,hlen,hg⟩:=DataW.trod_struct Tryz.underlying50 hf
  match xs,hlen with
  | [y0,y1,y2,y3,y4],_=>
   have f0:DataW.trod enc Tryz.prog W 0 (fun _=>true) true m 25 (([c0,c1,c2,c3,c4,c5,c6,c7].drop 0).take (Tryz.prog.cellsOf 25))=some y0:=hg 0 _ rfl
   rw[k_topo]at f0
   have f1:DataW.trod enc Tryz.prog W 0 (fun _=>true) true m 33 (([c0,c1,c2,c3,c4,c5,c6,c7].drop 3).take (Tryz.prog.cellsOf 33))=some y1:=hg 1 _ rfl
   rw[k_comp]at f1
   have f2:DataW.trod enc Tryz.prog W 0 (fun _=>true) true m 37 (([c0,c1,c2,c3,c4,c5,c6,c7].drop 5).take (Tryz.prog.cellsOf 37))=some y2:=hg 2 _ rfl
   rw[k_ints]at f2
   have f3:DataW.trod enc Tryz.prog W 0 (fun _=>true) true m 3 (([c0,c1,c2,c3,c4,c5,c6,c7].drop 6).take (Tryz.prog.cellsOf 3))=some y3:=hg 3 _ rfl
   rw[k_int]at f3
   have f4:DataW.trod enc Tryz.prog W 0 (fun _=>true) true m 3 (([c0,c1,c2,c3,c4,c5,c6,c7].drop 7).take (Tryz.prog.cellsOf 3))=some y4:=hg 4 _ rfl
   rw[k_int]at f4
   obtain⟨T,hT⟩:=Dv f0 rfl
   obtain⟨k,x,hkx⟩:=Hw f1 rfl
   simp only[List.drop,List.take,List.cons.injEq,and_true]at hkx
   obtain⟨rfl,rfl⟩:=hkx
   obtain⟨L2,hL2⟩:=HV f2
   obtain⟨n3,hn3⟩:=ig f3
   simp at hn3
   subst hn3
   obtain⟨n4,hn4⟩:=ig f4
   simp at hn4
   subst hn4
   have hall:bf EN W [c0,c1,c2,.int .i64 k,.int .i64 x,c5,.int .i64 n3,.int .i64 n4] (yF ⟨T,k,x,L2,n3,n4⟩):=hT.append (bf.cons (.raw _)<|bf.cons (.raw _)<|bf.cons (hL2)<|bf.cons (.raw _)<|bf.cons (.raw _)<|(bf.nil _ _))
   exact⟨⟨T,k,x,L2,n3,n4⟩,.agg _ _ (by simpa using hall.1) (fun i x u h1 h2=>hall.2 i x u (by simpa using h1) h2)⟩
end
end
section
open Go.RowKit cG Mem Net eY
def tooBig(T:ak):Bool:=decide ((10:Int)<T.nodes)||decide ((16:Int)<T.ae.length)
theorem Hp{T:ak}(h:tooBig T=false):T.nodes≤12∧T.ae.length≤16:=by
 unfold tooBig at h
 simp only[Bool.or_eq_false_iff,decide_eq_false_iff_not]at h
 omega
theorem C7(L:List Int):Can Tryz.prog 35 [av L,av L] (· =flag true):=by
 have h:=CY L L
 rw[show np L L=true from decide_eq_true rfl]at h
 exact h
theorem ay.qn{σ:cg}{i e s n m:Nat}{xs ys:List PV}[aL ys](h:σ[i]? =some (some (.row e s n xs)))(hx:xs=ys)(hn:n=m):ay σ (.own i) (.slice m ys):=by subst hx;subst hn;exact ay.fy h ah.pure
end
end PW
end Go.Proofs.YtnegbdpggideiaaGreatDoor
