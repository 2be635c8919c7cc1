/- Texts of the proof, part 11. -/
import Derived.Test.YtnegbdpggideiaaGreatDoorCardXAB10
set_option linter.unusedVariables false
set_option linter.unusedSimpArgs false
set_option maxRecDepth 10000
set_option maxHeartbeats 1000000
namespace Go.Proofs.YtnegbdpggideiaaGreatDoor
namespace PW
section
open Go.RowKit cE Mem Net
theorem Cq(rs:List (List Int))(i:Nat)(hi:i<rs.length):Can Tryz.prog 204 ([num i]++[.ba [kb rs] 0]) (· =aw (rs.getD i [])):=by
 exact aG Tryz.func204 I Tryz.ntmps204 I<|ab (.a 1 I<|.k [0,1] I)<|ab (.a 2 I<|.v (aP (i) I) I<|.v (aJ I ((show(rs.map aw)[i]? =some (aw (rs.getD i [])) by simp[hi]))) I<|.a 1 I<|.k [3] I)<|ao<|⟨_,_,az.of I,ax.pure,rfl⟩
theorem BN(T:an)(a:Nat)(ha:a<2*T.ae.length)(hl:T.ae.length≤4611686018427387902):Can Tryz.prog 205 ([num a]++[.ba (bC T) 0]) (· =num (aS T a)):=by
 exact aG Tryz.func205 I Tryz.ntmps205 I<|ab (.a 1 I<|.k [0,1] I)<|ab (.a 2 I<|.c rfl (fZ T a ha hl) I<|.a 1 I<|.k [3] I)<|ao<|⟨_,_,az.of I,ax.pure,rfl⟩
theorem C8(T:an)(D:List Bool)(d:Int):Can Tryz.prog 180 [aN T,bg D,num d] (· =ed (cD T D [d]) (bG T D d.toNat true)):=by
 refine aG Tryz.func180 I Tryz.ntmps180 I<|ab (.a 3 I<|.k [1,2,3] I)<|aj<|ab (.a 4 I<|.c rfl (pd T D [d] (by simp)) I<|.a 1 I<|.k [1,2,3,8] I)<|ab (.a 2 I<|.k [1,2,3,8,17] I)<|ag I (fun hc=>?_) (fun hc=>?_)
 ·have he:cD T D [d]≠0:=of_decide_eq_true hc
  exact ab (.a 3 I<|.k [6,7] I)<|ao<|⟨_,_,az.of I,ax.aX (ah.cons ax.bQ (ah.cons ax.pure ah.nil)),by unfold ed;rw[if_neg he];rfl⟩
 ·have he:cD T D [d]=0:=by have:=of_decide_eq_false hc;omega
  have hok:(aq T&&bW T D)=true∧br T d=true:=by
   unfold cD at he
   split at he
   ·rename_i h1
    split at he
    ·rename_i h2;exact⟨h1,by simpa using h2⟩
    ·omega
   ·omega
  obtain⟨hvf,hnd⟩:=hok
  obtain⟨hv,hf⟩:=Bool.and_eq_true_iff.1 hvf
  have hd:0≤d∧d<T.nodes:=by simpa[br]using hnd
  obtain⟨n,rfl⟩:=Int.eq_ofNat_of_zero_le hd.1
  have hS:=aO hv
  refine ai<|aM<|au 1 I<|eL I (me T hv) I<|au 2 I<|aE [1,2,3,9] I ?_
  refine aM<|au 3 I<|bx (ef I I) I<|au 4 I<|aE [10] I ?_
  refine xo (.cons 10 I (ax.jt rfl (ah.cons ax.pure<|ah.cons ax.pure<|ah.cons ax.pure<|ah.cons ax.pure<|ah.cons ax.pure<|ah.cons (ax.iR (ah.cons (ax.jt rfl (ah.cons ax.pure ah.nil)) ah.nil))<|ah.cons ax.pure ah.nil)) .nil) ?_
  exact ab (.a 1 I<|.c rfl (AQ T D n true 204 205 [.ba [kb (dD (bn T) T.nodes.toNat (2*T.ae.length))] 0] [.ba (bC T) 0] hv hf hd.2 (by kernel_rfl) (by kernel_rfl) (fun i hi=>by have h:=Cq (dD (bn T) T.nodes.toNat (2*T.ae.length)) i (by rw[fp];omega);rw[je _ _ _ _ (by omega)]at h;exact h) (fun a ha=>BN T a ha (by have:=bR hv;omega))) I<|.a 2 I<|.k [6,7] I)<|ao<|⟨_,_,az.of I,ax.pure,by unfold ed;rw[if_pos he,he];rfl⟩
open eX
theorem Ba{P:Program}{N L:Nat}{id:Nat}{l:List Oper}{y:Code}{st:St}{Q:Exit→St→Prop}(t':cj)(σ':cg)(t'':cj)(σ'':cg)(hm:P.follows .mixedOrders=true)(h:WA P N L l.toArray l.length (Array.replicate l.length false) st (fun s=>(s.σ=σ'∧Sub s.t t')∨(s.σ=σ''∧Sub s.t t'')))(hr:W P N L y ⟨t',σ'⟩ Q→W P N L y ⟨t'',σ''⟩ Q)(hq:W P N L y ⟨t',σ'⟩ Q):W P N L (.seq (.region id l.toArray true) y) st Q:=
 oP hm (h.mono fun s hs=>by
  obtain⟨t,σ⟩:=s
  rcases hs with⟨h1,h2⟩|⟨h1,h2⟩
  ·subst h1;exact la h2 hq
  ·subst h1;exact la h2 (hr hq))
theorem zY(T:an)(k x:Int):bW T (gh T k x)=true:=by
 unfold gh
 split
 ·exact dx T k x
 ·exact j8 T
theorem Fi(T:an)(k x:Int)(n:Nat)(hv:aq T=true)(hn:(n:Int)<T.nodes):Can Tryz.prog 179 ([bY k x]++[.ba (bC T) 0,.ba [num n] 0]) (· =aw (bG T (gh T k x) n true)):=by
 have hmk:=lF T k x
 unfold iG at hmk
 have hfr:=C8 T (gh T k x) n
 have hch:cD T (gh T k x) [(n:Int)]=0:=by
  unfold cD
  rw[hv,zY]
  simp[aT.2 (show 0≤(n:Int)∧(n:Int)<T.nodes by omega)]
 rw[hch]at hfr
 unfold ed at hfr
 rw[if_pos rfl,Int.toNat_natCast]at hfr
 exact aG Tryz.func179 I Tryz.ntmps179 I<|ab (.a 2 I<|.k [1,2,3] I)<|ab (.a 2 I<|.c rfl (hmk) I<|.a 5 I<|.k [1,2,5] I)<|ab (.a 3 I<|.c rfl (hfr) I<|.a 5 I<|.k [7] I)<|ab (.a 2 I<|.k [4] I)<|ao<|⟨_,_,az.of I,ax.pure,rfl⟩
theorem Da(g:Int)(L:List Int)(d:Nat)(c2:Bool)(hL:0<g→d<L.length∧decide (0≤L.getD d 0)=c2):Can Tryz.prog 181 ([num d]++[.ba (cz 3 g) 0,.ba [aw L] 0]) (· = .tuple [bY 3 g,flag (decide (0<g)&&c2)]):=by
 obtain⟨c1,hc1⟩:∃q,decide (0<g)=q:=⟨_,rfl⟩
 rw[hc1]
 refine aG Tryz.func181 I Tryz.ntmps181 I<|aM<|au 2 I<|aE [0,1,2,4] I ?_
 refine uK (Q1:=fun st=>st=⟨[(4,.ptr 0 0),(5,flag (c1&&c2))],[some (.cells 33 (cz 3 g))]⟩) ?_ ?_
 ·cases c1
  ·refine sT 20 1 ([some (.cells 33 [num 0,num 0])]::[some (.cells 33 (cz 3 g))]::[]) (⟨_,none,0,0⟩::⟨_,none,0,0⟩::⟨_,none,0,0⟩::⟨_,none,0,0⟩::⟨_,none,0,0⟩::⟨_,none,0,1⟩::⟨_,none,0,1⟩::⟨_,none,0,1⟩::⟨_,none,0,1⟩::⟨_,none,0,1⟩::⟨_,none,0,1⟩::⟨_,some 0,0,0⟩::⟨_,none,1,1⟩::[]) _ mixed ?grd1 rfl rfl rfl rfl (.cons (.val [1] I I (yz (cL (bh I) dK)) I I)<|.cons (.val [1] I I (yz (cL (bh I) dK)) I I)<|.cons (.val [7] I I (yz (cL (bh I) dK)) I I)<|.cons (.val [8] I I (yz (cL (cc I (hc1)) dK)) I I)<|.cons (.val [9] I I (yz (cL (bh I) dK)) I I)<|.cons (.skip rfl rfl rfl)<|.cons (.skip rfl rfl rfl)<|.cons (.skip rfl rfl rfl)<|.cons (.skip rfl rfl rfl)<|.cons (.skip rfl rfl rfl)<|.cons (.val [10,15] I I (yz (cL (bh I) (cL (bh I) dK))) I I)<|.cons (.kY [4,6] I I I I (er I) I)<|.cons (.val [16] I I (yz (cL (bh I) dK)) I I) .nil) (aY (ks:=[4,5]) I) ?_
   case grd1=>kernel_rfl
   rfl
  ·refine sT 20 1 ([some (.cells 33 [num 0,num 0])]::[some (.cells 33 (cz 3 g))]::[]) (⟨_,none,0,0⟩::⟨_,none,0,0⟩::⟨_,none,0,0⟩::⟨_,none,0,0⟩::⟨_,none,0,0⟩::⟨_,none,0,1⟩::⟨_,none,0,1⟩::⟨_,none,0,1⟩::⟨_,none,0,1⟩::⟨_,none,0,1⟩::⟨_,none,0,1⟩::⟨_,some 0,0,0⟩::⟨_,none,1,1⟩::[]) _ mixed ?grd2 rfl rfl rfl rfl (.cons (.val [1] I I (yz (cL (bh I) dK)) I I)<|.cons (.val [1] I I (yz (cL (bh I) dK)) I I)<|.cons (.val [7] I I (yz (cL (bh I) dK)) I I)<|.cons (.val [8] I I (yz (cL (cc I (hc1)) dK)) I I)<|.cons (.val [9] I I (yz (cL (bh I) dK)) I I)<|.cons (.val [2] I I (yz (cL (bh I) (cL (bh I) dK))) I I)<|.cons (.val [0] I I (yz (cL (bh I) (cL (bh I) dK))) I I)<|.cons (.val [11,12] I I (yz (cL (aP (d) I (by omega) (by have:=(hL (tt hc1)).1;omega)) (cL (aP (d) I (by omega) (by have:=(hL (tt hc1)).1;omega)) dK))) I I)<|.cons (.val [13] I I (yz (cL (aJ I (aC L d (hL (tt hc1)).1)) (cL (aJ I (aC L d (hL (tt hc1)).1)) dK))) I I)<|.cons (.val [14] I I (yz (cL (cc I ((hL (tt hc1)).2)) (cL (cc I ((hL (tt hc1)).2)) dK))) I I)<|.cons (.val [10,15] I I (yz (cL (bh I) (cL (bh I) dK))) I I)<|.cons (.kY [4,6] I I I I (er I) I)<|.cons (.val [16] I I (yz (cL (bh I) dK)) I I) .nil) (aY (ks:=[4,5]) I) ?_
   case grd2=>kernel_rfl
   rfl
 rintro _ rfl
 exact ao<|⟨_,_,az.of I,ax.pure (p:=.tuple [bY 3 g,flag (c1&&c2)]),rfl⟩
theorem Dw(h:Int)(L:List Int)(d:Nat)(c2:Bool)(hd:d<L.length)(hL:decide (0≤L.getD d 0)=c2):Can Tryz.prog 182 ([num d]++[.ba (cz 2 h) 0,.ba [num h] 0,.ba [aw L] 0]) (· = .tuple [bY 2 h,flag (decide (h≠d)&&c2)]):=by
 obtain⟨c1,hc1⟩:∃q,decide ((d:Int)≠h)=q:=⟨_,rfl⟩
 have hc1':decide (h≠(d:Int))=c1:=by rw[←hc1];exact decide_eq_decide.2 ⟨fun e=>e.symm,fun e=>e.symm⟩
 rw[hc1']
 refine aG Tryz.func182 I Tryz.ntmps182 I<|aM<|au 2 I<|aE [0,1,2,3,5] I ?_
 refine uK (Q1:=fun st=>st=⟨[(5,.ptr 0 0),(6,flag (c1&&c2))],[some (.cells 33 (cz 2 h))]⟩) ?_ ?_
 ·cases c1
  ·refine sT 20 1 ([some (.cells 33 [num 0,num 0])]::[some (.cells 33 (cz 2 h))]::[]) (⟨_,none,0,0⟩::⟨_,none,0,0⟩::⟨_,none,0,0⟩::⟨_,none,0,0⟩::⟨_,none,0,0⟩::⟨_,none,0,1⟩::⟨_,none,0,1⟩::⟨_,none,0,1⟩::⟨_,none,0,1⟩::⟨_,none,0,1⟩::⟨_,none,0,1⟩::⟨_,some 0,0,0⟩::⟨_,none,1,1⟩::[]) _ mixed ?grd3 rfl rfl rfl rfl (.cons (.val [1] I I (yz (cL (bh I) dK)) I I)<|.cons (.val [0] I I (yz (cL (bh I) dK)) I I)<|.cons (.val [2] I I (yz (cL (bh I) dK)) I I)<|.cons (.val [8,9] I I (yz (cL (cc I (hc1)) dK)) I I)<|.cons (.val [10] I I (yz (cL (bh I) dK)) I I)<|.cons (.skip rfl rfl rfl)<|.cons (.skip rfl rfl rfl)<|.cons (.skip rfl rfl rfl)<|.cons (.skip rfl rfl rfl)<|.cons (.skip rfl rfl rfl)<|.cons (.val [11,16] I I (yz (cL (bh I) (cL (bh I) dK))) I I)<|.cons (.kY [5,7] I I I I (er I) I)<|.cons (.val [17] I I (yz (cL (bh I) dK)) I I) .nil) (aY (ks:=[5,6]) I) ?_
   case grd3=>kernel_rfl
   rfl
  ·refine sT 20 1 ([some (.cells 33 [num 0,num 0])]::[some (.cells 33 (cz 2 h))]::[]) (⟨_,none,0,0⟩::⟨_,none,0,0⟩::⟨_,none,0,0⟩::⟨_,none,0,0⟩::⟨_,none,0,0⟩::⟨_,none,0,1⟩::⟨_,none,0,1⟩::⟨_,none,0,1⟩::⟨_,none,0,1⟩::⟨_,none,0,1⟩::⟨_,none,0,1⟩::⟨_,some 0,0,0⟩::⟨_,none,1,1⟩::[]) _ mixed ?grd4 rfl rfl rfl rfl (.cons (.val [1] I I (yz (cL (bh I) dK)) I I)<|.cons (.val [0] I I (yz (cL (bh I) dK)) I I)<|.cons (.val [2] I I (yz (cL (bh I) dK)) I I)<|.cons (.val [8,9] I I (yz (cL (cc I (hc1)) dK)) I I)<|.cons (.val [10] I I (yz (cL (bh I) dK)) I I)<|.cons (.val [3] I I (yz (cL (bh I) (cL (bh I) dK))) I I)<|.cons (.val [0] I I (yz (cL (bh I) (cL (bh I) dK))) I I)<|.cons (.val [12,13] I I (yz (cL (aP (d) I) (cL (aP (d) I) dK))) I I)<|.cons (.val [14] I I (yz (cL (aJ I (aC L d hd)) (cL (aJ I (aC L d hd)) dK))) I I)<|.cons (.val [15] I I (yz (cL (cc I (hL)) (cL (cc I (hL)) dK))) I I)<|.cons (.val [11,16] I I (yz (cL (bh I) (cL (bh I) dK))) I I)<|.cons (.kY [5,7] I I I I (er I) I)<|.cons (.val [17] I I (yz (cL (bh I) dK)) I I) .nil) (aY (ks:=[5,6]) I) ?_
   case grd4=>kernel_rfl
   rfl
 rintro _ rfl
 exact ao<|⟨_,_,az.of I,ax.pure (p:=.tuple [bY 2 h,flag (c1&&c2)]),rfl⟩
def F2(g:Int)(L:List Int):PV:=.func 181 [.ba (cz 3 g) 0,.ba [aw L] 0]
def F3(h:Int)(L:List Int):PV:=.func 182 [.ba (cz 2 h) 0,.ba [num h] 0,.ba [aw L] 0]
def kh(g h k:Int)(L M:List Int):List PV:=[.ba [.slice 2 [F2 g L,F3 h M]] 0,.ba (cz 1 k) 0]
instance (g:Int) (L:List Int):IsPure (F2 g L):=by unfold F2;infer_instance
instance (g:Int) (L:List Int):IsPure (F3 g L):=by unfold F3;infer_instance
instance (g h k:Int) (L M:List Int):aK (kh g h k L M):=by unfold kh;infer_instance
theorem EB(g h k:Int)(L M:List Int)(d:Nat)(c2 c4:Bool)(hL:0<g→d<L.length∧decide (0≤L.getD d 0)=c2)(hd:d<M.length)(hM:decide (0≤M.getD d 0)=c4):Can Tryz.prog 183 ([num d]++kh g h k L M) (· =if(decide (0<g)&&c2)=true then bY 3 g else if(decide (h≠d)&&c4)=true then bY 2 h else bY 1 k):=by
 have h2:=Da g L d c2 hL
 have h3:=Dw h M d c4 hd hM
 obtain⟨o1,ho1⟩:∃o,(decide (0<g)&&c2)=o:=⟨_,rfl⟩
 obtain⟨o2,ho2⟩:∃o,(decide (h≠(d:Int))&&c4)=o:=⟨_,rfl⟩
 rw[ho1]at h2 ⊢
 rw[ho2]at h3 ⊢
 have hrule:∀i,i<2→∃f cap,[F2 g L,F3 h M][i]? =some (.func f cap)∧enters Tryz.prog f=true∧aK ([num d]++cap)∧Can Tryz.prog f ([num d]++cap) (· = .tuple [if i=0 then bY 3 g else bY 2 h,flag (if i=0 then o1 else o2)]):=fun i hi=>by
  match i,hi with
  |0,_=>exact⟨_,_,rfl,by kernel_rfl,inferInstance,h2⟩
  |1,_=>exact⟨_,_,rfl,by kernel_rfl,inferInstance,h3⟩
 unfold kh
 refine aG Tryz.func183 I Tryz.ntmps183 I<|aM<|au 1 I<|aE [0,1,2,4] I ?_
 refine aj<|ab (.a 3 I<|.k [0,2,4,9,10,11] I)<|av<|eR [0,2,4,9,10,11] I<|bu (fun r s=>∃i,i≤2∧r=2 - i∧(1≤i→o1=false)∧(i=2→o2=false)∧s=⟨[(0,num d),(2,.ba (cz 1 k) 0),(4,.ptr 0 0),(9,.slice 2 [F2 g L,F3 h M]),(10,num 2),(11,num i)],[some (.cells 33 [num 0,num 0])]⟩) 2 ⟨0,by omega,by omega,fun h=>by omega,fun h=>by omega,rfl⟩ ?_
 rintro r s ⟨i,hi,rfl,hi1,hi2,rfl⟩
 refine ab (.a 1 I<|.k [0,2,4,9,10,11,12] I)<|aj<|ag I (fun h1=>?_) (fun h1=>?_)
 ·have hlt:i<2:=by have:=tt h1;omega
  obtain⟨f,cap,hf,hen,hpu,hcan⟩:=hrule i hlt
  obtain⟨kx,kn,hkx⟩:∃kx kn,(if i=0 then bY 3 g else bY 2 h)=bY kx kn:=by
   split
   ·exact⟨_,_,rfl⟩
   ·exact⟨_,_,rfl⟩
  obtain⟨o,ho⟩:∃o,(if i=0 then o1 else o2)=o:=⟨_,rfl⟩
  rw[ho,hkx]at hcan
  haveI:=hpu
  refine ai<|aj<|av<|ab (.v (aP (i) I) I<|.v (aJ I (hf)) I<|.a 1 I<|.k [0,2,4,6,9,10,11] I)<|aM<|au 2 I<|bx (sq I hen rfl rfl hcan) I<|au 6 I<|aE [0,2,4,7,8,9,10,11] I ?_
  refine ab (.a 1 I<|.k [0,2,4,7,9,10,11,21] I)<|ag I (fun h2=>?_) (fun h2=>?_)
  ·subst h2
   refine aM<|au 2 I<|aE [4] I ?_
   refine ao<|⟨_,_,az.of I,ax.pure (p:=bY kx kn),?_⟩
   rw[←hkx]
   by_cases e:i=0
   ·rw[if_pos e]at ho ⊢
    rw[if_pos ho]
   ·rw[if_neg e]at ho ⊢
    rw[if_neg (by rw[hi1 (by omega)];simp),if_pos ho]
  ·subst h2
   refine ai<|dG [0] (.c 0<|.c 2<|.c 4<|.c 9<|.c 10<|.c 11<|.nil) (.kept rfl (.cells aH.pure)<|.nil) I I ?_
   refine aB (.v (aU I) I<|.a 1 I<|.k [0,2,4,9,10,11] I) ?_
   refine⟨2 - (i+1),by omega,i+1,by omega,rfl,fun _=>?_,fun e=>?_,rfl⟩
   ·by_cases e:i=0
    ·rw[if_pos e]at ho;exact ho
    ·exact hi1 (by omega)
   ·rw[if_neg (by omega)]at ho;exact ho
 ·have hie:i=2:=by have:=ff h1;omega
  subst hie
  rw[if_neg (by rw[hi1 (by omega)];simp),if_neg (by rw[hi2 rfl];simp)]
  refine bf<|aM<|au 2 I<|aE [4] I ?_
  exact ao<|⟨_,_,az.of I,ax.pure (p:=bY 1 k),rfl⟩
noncomputable def Ij(T:an)(a:Nat):List Int:=if 0<ga T a then bG T (gh T 3 (ga T a)) (bn T a).toNat true else []
noncomputable def Ic(T:an)(a:Nat):List Int:=bG T (gh T 2 (aS T a)) (bn T a).toNat true
set_option maxHeartbeats 4000000 in
theorem zx(T:an)(a:Nat)(hv:aq T=true)(ha:a<2*T.ae.length):Can Tryz.prog 155 [aN T,num a] (· = .func 183 (kh (ga T a) (aS T a) ((a / 2:Nat):Int) (Ij T a) (Ic T a))):=by
 have hll:=bR hv
 have hi:a / 2<T.ae.length:=by omega
 have hS:=aO hv
 have htl:=jC T a ha
 have hhd:=fZ T a ha (by omega)
 obtain⟨n,hn⟩:=Int.eq_ofNat_of_zero_le (hS.tail a ha).1
 have hnN:(n:Int)<T.nodes:=by rw[←hn];exact(hS.tail a ha).2
 have hL:Ij T a=if 0<ga T a then bG T (gh T 3 (ga T a)) n true else []:=by unfold Ij;rw[hn,Int.toNat_natCast]
 have hM:Ic T a=bG T (gh T 2 (aS T a)) n true:=by unfold Ic;rw[hn,Int.toNat_natCast]
 rw[hn]at htl
 obtain⟨h,hh⟩:∃h,aS T a=h:=⟨_,rfl⟩
 obtain⟨g,hg⟩:∃g,ga T a=g:=⟨_,rfl⟩
 have hgl:(cC T.ae (a / 2)).vF=g:=hg
 rw[hh]at hhd hM
 rw[hg]at hL
 rw[hL,hM,hh,hg]
 have h1:=fun k x=>Fi T k x n hv hnN
 obtain⟨c1,hc1⟩:∃q,decide (0<g)=q:=⟨_,rfl⟩
 refine aG Tryz.func155 I Tryz.ntmps155 I<|ab (.a 2 I<|.k [1,2] I)<|Ba ([(1,num a),(2,.ba (bC T) 0),(5,.ptr 0 0),(6,.ptr 1 0)]) ([some (.cells 3 [num n]),some (.cells 3 [num h])]) ([(1,num a),(2,.ba (bC T) 0),(5,.ptr 1 0),(6,.ptr 0 0)]) ([some (.cells 3 [num h]),some (.cells 3 [num n])]) mixed ?_ (fun hh=>dG [1,0] (.c 1<|.c 2<|.c 5<|.c 6<|.nil) (.kept rfl (.cells aH.pure)<|.kept rfl (.cells aH.pure)<|.nil) I I hh) ?_
 ·refine uC [[(1,num a),(2,.ba (bC T) 0),(14,aN T),(15,num a),(16,num n),(17,aN T),(18,num a),(19,num h)],[(1,num a),(2,.ba (bC T) 0),(5,.ptr 0 0),(14,aN T),(15,num a),(16,num n),(17,aN T),(18,num a),(19,num h)],[(1,num a),(2,.ba (bC T) 0),(6,.ptr 0 0),(14,aN T),(15,num a),(16,num n),(17,aN T),(18,num a),(19,num h)],[(1,num a),(2,.ba (bC T) 0),(5,.ptr 0 0),(6,.ptr 1 0),(14,aN T),(15,num a),(16,num n),(17,aN T),(18,num a),(19,num h)],[(1,num a),(2,.ba (bC T) 0),(5,.ptr 1 0),(6,.ptr 0 0),(14,aN T),(15,num a),(16,num n),(17,aN T),(18,num a),(19,num h)]] [[],[some (.cells 3 [num n]),some (.cells 3 [num h])],[some (.cells 3 [num n]),some (.cells 3 [num 0])],[some (.cells 3 [num 0]),some (.cells 3 [num 0])],[some (.cells 3 [num 0])],[some (.cells 3 [num h]),some (.cells 3 [num n])],[some (.cells 3 [num 0]),some (.cells 3 [num n])]] [1,2] I (by kernel_rfl) (fun M hi ho=>?_)
  have μ0:M 0 1023 3 [1,2,5,6] 1:=hi<|rZ I (by kernel_rfl) (.inl ⟨rfl,aY (ks:=[1,2,5,6]) I⟩)
  have μ1:M 1 511 3 [1,2,5,6,19] 2:=hi<|aa [(9,1023)] I<|o8 I I (er I) I I (ho μ0) I I af
  have μ2:M 2 255 3 [1,2,5,6,16,19] 3:=hi<|aa [(8,511)] I<|o8 I I (er I) I I (ho μ1) I I af
  have μ3:M 3 127 1 [1,2,5,16,19] 4:=hi<|aa [(7,255)] I<|cf I I (er I) I (ho μ2) I I af
  have μ4:M 0 1023 4 [1,2,5,6] 5:=hi<|rZ I (by kernel_rfl) (.inr ⟨rfl,aY (ks:=[1,2,5,6]) I⟩)
  have μ5:M 1 511 4 [1,2,5,6,19] 6:=hi<|aa [(9,1023)] I<|o8 I I (er I) I I (ho μ4) I I af
  have μ6:M 2 255 4 [1,2,5,6,16,19] 3:=hi<|aa [(8,511)] I<|o8 I I (er I) I I (ho μ5) I I af
  have μ7:M 3 191 2 [1,2,6,16,19] 4:=hi<|aa [(6,255)] I<|cf I I (er I) I (ho μ6) I I af
  have μ8:M 4 63 0 [1,2,16,19] 0:=hi<|aa [(6,127),(7,191)] I<|cf I I (er I) I (ho μ3) I I<|cf I I (er I) I (ho μ7) I I af
  have μ9:M 3 223 3 [1,2,5,6,16,17,18] 3:=hi<|aa [(5,255)] I<|bw I I (dV I (hhd)) I (ho μ2) I I af
  have μ10:M 4 95 1 [1,2,5,16,17,18] 4:=hi<|aa [(5,127),(7,223)] I<|bw I I (dV I (hhd)) I (ho μ3) I I<|cf I I (er I) I (ho μ9) I I af
  have μ11:M 3 223 4 [1,2,5,6,16,17,18] 3:=hi<|aa [(5,255)] I<|bw I I (dV I (hhd)) I (ho μ6) I I af
  have μ12:M 4 159 2 [1,2,6,16,17,18] 4:=hi<|aa [(5,191),(6,223)] I<|bw I I (dV I (hhd)) I (ho μ7) I I<|cf I I (er I) I (ho μ11) I I af
  have μ13:M 5 31 0 [1,2,16,17,18] 0:=hi<|aa [(5,63),(6,95),(7,159)] I<|bw I I (dV I (hhd)) I (ho μ8) I I<|cf I I (er I) I (ho μ10) I I<|cf I I (er I) I (ho μ12) I I af
  have μ14:M 4 207 3 [1,2,5,6,16,17] 3:=hi<|aa [(4,223)] I<|ak (ho μ9) I I af
  have μ15:M 5 79 1 [1,2,5,16,17] 4:=hi<|aa [(4,95),(7,207)] I<|ak (ho μ10) I I<|cf I I (er I) I (ho μ14) I I af
  have μ16:M 4 207 4 [1,2,5,6,16,17] 3:=hi<|aa [(4,223)] I<|ak (ho μ11) I I af
  have μ17:M 5 143 2 [1,2,6,16,17] 4:=hi<|aa [(4,159),(6,207)] I<|ak (ho μ12) I I<|cf I I (er I) I (ho μ16) I I af
  have μ18:M 6 15 0 [1,2,16,17] 0:=hi<|aa [(4,31),(6,79),(7,143)] I<|ak (ho μ13) I I<|cf I I (er I) I (ho μ15) I I<|cf I I (er I) I (ho μ17) I I af
  have μ19:M 4 215 3 [1,2,5,6,16,18] 3:=hi<|aa [(3,223)] I<|ak (ho μ9) I I af
  have μ20:M 5 87 1 [1,2,5,16,18] 4:=hi<|aa [(3,95),(7,215)] I<|ak (ho μ10) I I<|cf I I (er I) I (ho μ19) I I af
  have μ21:M 4 215 4 [1,2,5,6,16,18] 3:=hi<|aa [(3,223)] I<|ak (ho μ11) I I af
  have μ22:M 5 151 2 [1,2,6,16,18] 4:=hi<|aa [(3,159),(6,215)] I<|ak (ho μ12) I I<|cf I I (er I) I (ho μ21) I I af
  have μ23:M 6 23 0 [1,2,16,18] 0:=hi<|aa [(3,31),(6,87),(7,151)] I<|ak (ho μ13) I I<|cf I I (er I) I (ho μ20) I I<|cf I I (er I) I (ho μ22) I I af
  have μ24:M 5 199 3 [1,2,5,6,16] 3:=hi<|aa [(3,207),(4,215)] I<|ak (ho μ14) I I<|ak (ho μ19) I I af
  have μ25:M 6 71 1 [1,2,5,16] 4:=hi<|aa [(3,79),(4,87),(7,199)] I<|ak (ho μ15) I I<|ak (ho μ20) I I<|cf I I (er I) I (ho μ24) I I af
  have μ26:M 5 199 4 [1,2,5,6,16] 3:=hi<|aa [(3,207),(4,215)] I<|ak (ho μ16) I I<|ak (ho μ21) I I af
  have μ27:M 6 135 2 [1,2,6,16] 4:=hi<|aa [(3,143),(4,151),(6,199)] I<|ak (ho μ17) I I<|ak (ho μ22) I I<|cf I I (er I) I (ho μ26) I I af
  have μ28:M 7 7 0 [1,2,16] 0:=hi<|aa [(3,15),(4,23),(6,71),(7,135)] I<|ak (ho μ18) I I<|ak (ho μ23) I I<|cf I I (er I) I (ho μ25) I I<|cf I I (er I) I (ho μ27) I I af
  have μ29:M 4 219 3 [1,2,5,6,14,15,17,18] 3:=hi<|aa [(2,223)] I<|bw I I (dV I (htl)) I (ho μ9) I I af
  have μ30:M 5 91 1 [1,2,5,14,15,17,18] 4:=hi<|aa [(2,95),(7,219)] I<|bw I I (dV I (htl)) I (ho μ10) I I<|cf I I (er I) I (ho μ29) I I af
  have μ31:M 4 219 4 [1,2,5,6,14,15,17,18] 3:=hi<|aa [(2,223)] I<|bw I I (dV I (htl)) I (ho μ11) I I af
  have μ32:M 5 155 2 [1,2,6,14,15,17,18] 4:=hi<|aa [(2,159),(6,219)] I<|bw I I (dV I (htl)) I (ho μ12) I I<|cf I I (er I) I (ho μ31) I I af
  have μ33:M 6 27 0 [1,2,14,15,17,18] 0:=hi<|aa [(2,31),(6,91),(7,155)] I<|bw I I (dV I (htl)) I (ho μ13) I I<|cf I I (er I) I (ho μ30) I I<|cf I I (er I) I (ho μ32) I I af
  have μ34:M 5 203 3 [1,2,5,6,14,15,17] 3:=hi<|aa [(2,207),(4,219)] I<|bw I I (dV I (htl)) I (ho μ14) I I<|ak (ho μ29) I I af
  have μ35:M 6 75 1 [1,2,5,14,15,17] 4:=hi<|aa [(2,79),(4,91),(7,203)] I<|bw I I (dV I (htl)) I (ho μ15) I I<|ak (ho μ30) I I<|cf I I (er I) I (ho μ34) I I af
  have μ36:M 5 203 4 [1,2,5,6,14,15,17] 3:=hi<|aa [(2,207),(4,219)] I<|bw I I (dV I (htl)) I (ho μ16) I I<|ak (ho μ31) I I af
  have μ37:M 6 139 2 [1,2,6,14,15,17] 4:=hi<|aa [(2,143),(4,155),(6,203)] I<|bw I I (dV I (htl)) I (ho μ17) I I<|ak (ho μ32) I I<|cf I I (er I) I (ho μ36) I I af
  have μ38:M 7 11 0 [1,2,14,15,17] 0:=hi<|aa [(2,15),(4,27),(6,75),(7,139)] I<|bw I I (dV I (htl)) I (ho μ18) I I<|ak (ho μ33) I I<|cf I I (er I) I (ho μ35) I I<|cf I I (er I) I (ho μ37) I I af
  have μ39:M 5 211 3 [1,2,5,6,14,15,18] 3:=hi<|aa [(2,215),(3,219)] I<|bw I I (dV I (htl)) I (ho μ19) I I<|ak (ho μ29) I I af
  have μ40:M 6 83 1 [1,2,5,14,15,18] 4:=hi<|aa [(2,87),(3,91),(7,211)] I<|bw I I (dV I (htl)) I (ho μ20) I I<|ak (ho μ30) I I<|cf I I (er I) I (ho μ39) I I af
  have μ41:M 5 211 4 [1,2,5,6,14,15,18] 3:=hi<|aa [(2,215),(3,219)] I<|bw I I (dV I (htl)) I (ho μ21) I I<|ak (ho μ31) I I af
  have μ42:M 6 147 2 [1,2,6,14,15,18] 4:=hi<|aa [(2,151),(3,155),(6,211)] I<|bw I I (dV I (htl)) I (ho μ22) I I<|ak (ho μ32) I I<|cf I I (er I) I (ho μ41) I I af
  have μ43:M 7 19 0 [1,2,14,15,18] 0:=hi<|aa [(2,23),(3,27),(6,83),(7,147)] I<|bw I I (dV I (htl)) I (ho μ23) I I<|ak (ho μ33) I I<|cf I I (er I) I (ho μ40) I I<|cf I I (er I) I (ho μ42) I I af
  have μ44:M 6 195 3 [1,2,5,6,14,15] 3:=hi<|aa [(2,199),(3,203),(4,211)] I<|bw I I (dV I (htl)) I (ho μ24) I I<|ak (ho μ34) I I<|ak (ho μ39) I I af
  have μ45:M 7 67 1 [1,2,5,14,15] 4:=hi<|aa [(2,71),(3,75),(4,83),(7,195)] I<|bw I I (dV I (htl)) I (ho μ25) I I<|ak (ho μ35) I I<|ak (ho μ40) I I<|cf I I (er I) I (ho μ44) I I af
  have μ46:M 6 195 4 [1,2,5,6,14,15] 3:=hi<|aa [(2,199),(3,203),(4,211)] I<|bw I I (dV I (htl)) I (ho μ26) I I<|ak (ho μ36) I I<|ak (ho μ41) I I af
  have μ47:M 7 131 2 [1,2,6,14,15] 4:=hi<|aa [(2,135),(3,139),(4,147),(6,195)] I<|bw I I (dV I (htl)) I (ho μ27) I I<|ak (ho μ37) I I<|ak (ho μ42) I I<|cf I I (er I) I (ho μ46) I I af
  have μ48:M 8 3 0 [1,2,14,15] 0:=hi<|aa [(2,7),(3,11),(4,19),(6,67),(7,131)] I<|bw I I (dV I (htl)) I (ho μ28) I I<|ak (ho μ38) I I<|ak (ho μ43) I I<|cf I I (er I) I (ho μ45) I I<|cf I I (er I) I (ho μ47) I I af
  have μ49:M 5 217 3 [1,2,5,6,14,17,18] 3:=hi<|aa [(1,219)] I<|ak (ho μ29) I I af
  have μ50:M 6 89 1 [1,2,5,14,17,18] 4:=hi<|aa [(1,91),(7,217)] I<|ak (ho μ30) I I<|cf I I (er I) I (ho μ49) I I af
  have μ51:M 5 217 4 [1,2,5,6,14,17,18] 3:=hi<|aa [(1,219)] I<|ak (ho μ31) I I af
  have μ52:M 6 153 2 [1,2,6,14,17,18] 4:=hi<|aa [(1,155),(6,217)] I<|ak (ho μ32) I I<|cf I I (er I) I (ho μ51) I I af
  have μ53:M 7 25 0 [1,2,14,17,18] 0:=hi<|aa [(1,27),(6,89),(7,153)] I<|ak (ho μ33) I I<|cf I I (er I) I (ho μ50) I I<|cf I I (er I) I (ho μ52) I I af
  have μ54:M 6 201 3 [1,2,5,6,14,17] 3:=hi<|aa [(1,203),(4,217)] I<|ak (ho μ34) I I<|ak (ho μ49) I I af
  have μ55:M 7 73 1 [1,2,5,14,17] 4:=hi<|aa [(1,75),(4,89),(7,201)] I<|ak (ho μ35) I I<|ak (ho μ50) I I<|cf I I (er I) I (ho μ54) I I af
  have μ56:M 6 201 4 [1,2,5,6,14,17] 3:=hi<|aa [(1,203),(4,217)] I<|ak (ho μ36) I I<|ak (ho μ51) I I af
  have μ57:M 7 137 2 [1,2,6,14,17] 4:=hi<|aa [(1,139),(4,153),(6,201)] I<|ak (ho μ37) I I<|ak (ho μ52) I I<|cf I I (er I) I (ho μ56) I I af
  have μ58:M 8 9 0 [1,2,14,17] 0:=hi<|aa [(1,11),(4,25),(6,73),(7,137)] I<|ak (ho μ38) I I<|ak (ho μ53) I I<|cf I I (er I) I (ho μ55) I I<|cf I I (er I) I (ho μ57) I I af
  have μ59:M 6 209 3 [1,2,5,6,14,18] 3:=hi<|aa [(1,211),(3,217)] I<|ak (ho μ39) I I<|ak (ho μ49) I I af
  have μ60:M 7 81 1 [1,2,5,14,18] 4:=hi<|aa [(1,83),(3,89),(7,209)] I<|ak (ho μ40) I I<|ak (ho μ50) I I<|cf I I (er I) I (ho μ59) I I af
  have μ61:M 6 209 4 [1,2,5,6,14,18] 3:=hi<|aa [(1,211),(3,217)] I<|ak (ho μ41) I I<|ak (ho μ51) I I af
  have μ62:M 7 145 2 [1,2,6,14,18] 4:=hi<|aa [(1,147),(3,153),(6,209)] I<|ak (ho μ42) I I<|ak (ho μ52) I I<|cf I I (er I) I (ho μ61) I I af
  have μ63:M 8 17 0 [1,2,14,18] 0:=hi<|aa [(1,19),(3,25),(6,81),(7,145)] I<|ak (ho μ43) I I<|ak (ho μ53) I I<|cf I I (er I) I (ho μ60) I I<|cf I I (er I) I (ho μ62) I I af
  have μ64:M 7 193 3 [1,2,5,6,14] 3:=hi<|aa [(1,195),(3,201),(4,209)] I<|ak (ho μ44) I I<|ak (ho μ54) I I<|ak (ho μ59) I I af
  have μ65:M 8 65 1 [1,2,5,14] 4:=hi<|aa [(1,67),(3,73),(4,81),(7,193)] I<|ak (ho μ45) I I<|ak (ho μ55) I I<|ak (ho μ60) I I<|cf I I (er I) I (ho μ64) I I af
  have μ66:M 7 193 4 [1,2,5,6,14] 3:=hi<|aa [(1,195),(3,201),(4,209)] I<|ak (ho μ46) I I<|ak (ho μ56) I I<|ak (ho μ61) I I af
  have μ67:M 8 129 2 [1,2,6,14] 4:=hi<|aa [(1,131),(3,137),(4,145),(6,193)] I<|ak (ho μ47) I I<|ak (ho μ57) I I<|ak (ho μ62) I I<|cf I I (er I) I (ho μ66) I I af
  have μ68:M 9 1 0 [1,2,14] 0:=hi<|aa [(1,3),(3,9),(4,17),(6,65),(7,129)] I<|ak (ho μ48) I I<|ak (ho μ58) I I<|ak (ho μ63) I I<|cf I I (er I) I (ho μ65) I I<|cf I I (er I) I (ho μ67) I I af
  have μ69:M 5 218 3 [1,2,5,6,15,17,18] 3:=hi<|aa [(0,219)] I<|ak (ho μ29) I I af
  have μ70:M 6 90 1 [1,2,5,15,17,18] 4:=hi<|aa [(0,91),(7,218)] I<|ak (ho μ30) I I<|cf I I (er I) I (ho μ69) I I af
  have μ71:M 5 218 4 [1,2,5,6,15,17,18] 3:=hi<|aa [(0,219)] I<|ak (ho μ31) I I af
  have μ72:M 6 154 2 [1,2,6,15,17,18] 4:=hi<|aa [(0,155),(6,218)] I<|ak (ho μ32) I I<|cf I I (er I) I (ho μ71) I I af
  have μ73:M 7 26 0 [1,2,15,17,18] 0:=hi<|aa [(0,27),(6,90),(7,154)] I<|ak (ho μ33) I I<|cf I I (er I) I (ho μ70) I I<|cf I I (er I) I (ho μ72) I I af
  have μ74:M 6 202 3 [1,2,5,6,15,17] 3:=hi<|aa [(0,203),(4,218)] I<|ak (ho μ34) I I<|ak (ho μ69) I I af
  have μ75:M 7 74 1 [1,2,5,15,17] 4:=hi<|aa [(0,75),(4,90),(7,202)] I<|ak (ho μ35) I I<|ak (ho μ70) I I<|cf I I (er I) I (ho μ74) I I af
  have μ76:M 6 202 4 [1,2,5,6,15,17] 3:=hi<|aa [(0,203),(4,218)] I<|ak (ho μ36) I I<|ak (ho μ71) I I af
  have μ77:M 7 138 2 [1,2,6,15,17] 4:=hi<|aa [(0,139),(4,154),(6,202)] I<|ak (ho μ37) I I<|ak (ho μ72) I I<|cf I I (er I) I (ho μ76) I I af
  have μ78:M 8 10 0 [1,2,15,17] 0:=hi<|aa [(0,11),(4,26),(6,74),(7,138)] I<|ak (ho μ38) I I<|ak (ho μ73) I I<|cf I I (er I) I (ho μ75) I I<|cf I I (er I) I (ho μ77) I I af
  have μ79:M 6 210 3 [1,2,5,6,15,18] 3:=hi<|aa [(0,211),(3,218)] I<|ak (ho μ39) I I<|ak (ho μ69) I I af
  have μ80:M 7 82 1 [1,2,5,15,18] 4:=hi<|aa [(0,83),(3,90),(7,210)] I<|ak (ho μ40) I I<|ak (ho μ70) I I<|cf I I (er I) I (ho μ79) I I af
  have μ81:M 6 210 4 [1,2,5,6,15,18] 3:=hi<|aa [(0,211),(3,218)] I<|ak (ho μ41) I I<|ak (ho μ71) I I af
  have μ82:M 7 146 2 [1,2,6,15,18] 4:=hi<|aa [(0,147),(3,154),(6,210)] I<|ak (ho μ42) I I<|ak (ho μ72) I I<|cf I I (er I) I (ho μ81) I I af
  have μ83:M 8 18 0 [1,2,15,18] 0:=hi<|aa [(0,19),(3,26),(6,82),(7,146)] I<|ak (ho μ43) I I<|ak (ho μ73) I I<|cf I I (er I) I (ho μ80) I I<|cf I I (er I) I (ho μ82) I I af
  have μ84:M 7 194 3 [1,2,5,6,15] 3:=hi<|aa [(0,195),(3,202),(4,210)] I<|ak (ho μ44) I I<|ak (ho μ74) I I<|ak (ho μ79) I I af
  have μ85:M 8 66 1 [1,2,5,15] 4:=hi<|aa [(0,67),(3,74),(4,82),(7,194)] I<|ak (ho μ45) I I<|ak (ho μ75) I I<|ak (ho μ80) I I<|cf I I (er I) I (ho μ84) I I af
  have μ86:M 7 194 4 [1,2,5,6,15] 3:=hi<|aa [(0,195),(3,202),(4,210)] I<|ak (ho μ46) I I<|ak (ho μ76) I I<|ak (ho μ81) I I af
  have μ87:M 8 130 2 [1,2,6,15] 4:=hi<|aa [(0,131),(3,138),(4,146),(6,194)] I<|ak (ho μ47) I I<|ak (ho μ77) I I<|ak (ho μ82) I I<|cf I I (er I) I (ho μ86) I I af
  have μ88:M 9 2 0 [1,2,15] 0:=hi<|aa [(0,3),(3,10),(4,18),(6,66),(7,130)] I<|ak (ho μ48) I I<|ak (ho μ78) I I<|ak (ho μ83) I I<|cf I I (er I) I (ho μ85) I I<|cf I I (er I) I (ho μ87) I I af
  have μ89:M 6 216 3 [1,2,5,6,17,18] 3:=hi<|aa [(0,217),(1,218)] I<|ak (ho μ49) I I<|ak (ho μ69) I I af
  have μ90:M 7 88 1 [1,2,5,17,18] 4:=hi<|aa [(0,89),(1,90),(7,216)] I<|ak (ho μ50) I I<|ak (ho μ70) I I<|cf I I (er I) I (ho μ89) I I af
  have μ91:M 6 216 4 [1,2,5,6,17,18] 3:=hi<|aa [(0,217),(1,218)] I<|ak (ho μ51) I I<|ak (ho μ71) I I af
  have μ92:M 7 152 2 [1,2,6,17,18] 4:=hi<|aa [(0,153),(1,154),(6,216)] I<|ak (ho μ52) I I<|ak (ho μ72) I I<|cf I I (er I) I (ho μ91) I I af
  have μ93:M 8 24 0 [1,2,17,18] 0:=hi<|aa [(0,25),(1,26),(6,88),(7,152)] I<|ak (ho μ53) I I<|ak (ho μ73) I I<|cf I I (er I) I (ho μ90) I I<|cf I I (er I) I (ho μ92) I I af
  have μ94:M 7 200 3 [1,2,5,6,17] 3:=hi<|aa [(0,201),(1,202),(4,216)] I<|ak (ho μ54) I I<|ak (ho μ74) I I<|ak (ho μ89) I I af
  have μ95:M 8 72 1 [1,2,5,17] 4:=hi<|aa [(0,73),(1,74),(4,88),(7,200)] I<|ak (ho μ55) I I<|ak (ho μ75) I I<|ak (ho μ90) I I<|cf I I (er I) I (ho μ94) I I af
  have μ96:M 7 200 4 [1,2,5,6,17] 3:=hi<|aa [(0,201),(1,202),(4,216)] I<|ak (ho μ56) I I<|ak (ho μ76) I I<|ak (ho μ91) I I af
  have μ97:M 8 136 2 [1,2,6,17] 4:=hi<|aa [(0,137),(1,138),(4,152),(6,200)] I<|ak (ho μ57) I I<|ak (ho μ77) I I<|ak (ho μ92) I I<|cf I I (er I) I (ho μ96) I I af
  have μ98:M 9 8 0 [1,2,17] 0:=hi<|aa [(0,9),(1,10),(4,24),(6,72),(7,136)] I<|ak (ho μ58) I I<|ak (ho μ78) I I<|ak (ho μ93) I I<|cf I I (er I) I (ho μ95) I I<|cf I I (er I) I (ho μ97) I I af
  have μ99:M 7 208 3 [1,2,5,6,18] 3:=hi<|aa [(0,209),(1,210),(3,216)] I<|ak (ho μ59) I I<|ak (ho μ79) I I<|ak (ho μ89) I I af
  have μ100:M 8 80 1 [1,2,5,18] 4:=hi<|aa [(0,81),(1,82),(3,88),(7,208)] I<|ak (ho μ60) I I<|ak (ho μ80) I I<|ak (ho μ90) I I<|cf I I (er I) I (ho μ99) I I af
  have μ101:M 7 208 4 [1,2,5,6,18] 3:=hi<|aa [(0,209),(1,210),(3,216)] I<|ak (ho μ61) I I<|ak (ho μ81) I I<|ak (ho μ91) I I af
  have μ102:M 8 144 2 [1,2,6,18] 4:=hi<|aa [(0,145),(1,146),(3,152),(6,208)] I<|ak (ho μ62) I I<|ak (ho μ82) I I<|ak (ho μ92) I I<|cf I I (er I) I (ho μ101) I I af
  have μ103:M 9 16 0 [1,2,18] 0:=hi<|aa [(0,17),(1,18),(3,24),(6,80),(7,144)] I<|ak (ho μ63) I I<|ak (ho μ83) I I<|ak (ho μ93) I I<|cf I I (er I) I (ho μ100) I I<|cf I I (er I) I (ho μ102) I I af
  have μ104:M 8 192 3 [1,2,5,6] 3:=hi<|aa [(0,193),(1,194),(3,200),(4,208)] I<|ak (ho μ64) I I<|ak (ho μ84) I I<|ak (ho μ94) I I<|ak (ho μ99) I I af
  have μ105:M 9 64 1 [1,2,5] 4:=hi<|aa [(0,65),(1,66),(3,72),(4,80),(7,192)] I<|ak (ho μ65) I I<|ak (ho μ85) I I<|ak (ho μ95) I I<|ak (ho μ100) I I<|cf I I (er I) I (ho μ104) I I af
  have μ106:M 8 192 4 [1,2,5,6] 3:=hi<|aa [(0,193),(1,194),(3,200),(4,208)] I<|ak (ho μ66) I I<|ak (ho μ86) I I<|ak (ho μ96) I I<|ak (ho μ101) I I af
  have μ107:M 9 128 2 [1,2,6] 4:=hi<|aa [(0,129),(1,130),(3,136),(4,144),(6,192)] I<|ak (ho μ67) I I<|ak (ho μ87) I I<|ak (ho μ97) I I<|ak (ho μ102) I I<|cf I I (er I) I (ho μ106) I I af
  have μ108:M 10 0 0 [1,2] 0:=hi<|aa [(0,1),(1,2),(3,8),(4,16),(6,64),(7,128)] I<|ak (ho μ68) I I<|ak (ho μ88) I I<|ak (ho μ98) I I<|ak (ho μ103) I I<|cf I I (er I) I (ho μ105) I I<|cf I I (er I) I (ho μ107) I I af
  exact μ108
 refine aM<|au 3 I<|bx (iO I I I (by decide) ((show(a:Int).tdiv 2=((a / 2:Nat):Int) by rw[Int.tdiv_eq_ediv_of_nonneg (by omega)];omega)) (by unfold In64;omega)) I<|bx (aP ((a / 2*7)) I) I<|au 1 I<|bx (aJ I ((eJ T.ae (a / 2) 6 hi (by omega)).trans (show(kr (cC T.ae (a / 2)))[6]? =some (num g) by rw[←hgl];rfl))) I<|au 3 I<|aE [1,2,5,6,7] I ?_
 refine aM<|au 4 I<|aE [1,2,5,6,7,8] I ?_
 refine aM<|au 1 I<|bx (iO I I I (by decide) ((show(a:Int).tdiv 2=((a / 2:Nat):Int) by rw[Int.tdiv_eq_ediv_of_nonneg (by omega)];omega)) (by unfold In64;omega)) I<|au 3 I<|aE [2,5,6,7,8,9] I ?_
 refine fM (xs:=[num n]) 5 0 0 I I ?_
 refine fM (xs:=[num h]) 6 1 0 I I ?_
 refine fM (xs:=cz 3 g) 7 2 0 I I ?_
 refine fM (xs:=cz 2 h) 8 3 0 I I ?_
 refine fM (xs:=cz 1 ((a / 2:Nat):Int)) 9 4 0 I I ?_
 refine dG [] (.c 2<|.c 5<|.c 6<|.c 7<|.c 8<|.c 9<|.nil) .nil rfl rfl ?_
 refine ab (.v (ef I I) I<|.a 1 I<|.k [6,7,8,9,10] I)<|aM<|au 1 I<|aE [6,7,8,9,10,11] I ?_
 refine aj<|bz 36 (.raw (.bool (c1))) [6,7,8,9,10,11] I ?_ ?_
 ·exact .a 2 I<|.v (cc I (hc1)) I<|.k [36,6,7,8,9,10,11] I
 refine ag I (fun h2=>?_) (fun h2=>?_)
 ·have hg0:0<g:=tt (by rw[hc1,h2])
  rw[if_pos hg0]
  refine bH<|au 2 I<|eL I (h1 3 g) I<|au 1 I<|aE [6,7,8,9,10,11] I ?_
  refine aM<|au 2 I<|eL I (h1 2 h) I<|au 2 I<|aE [6,7,8,9,11,12] I ?_
  refine aM<|bx (ef I I) I<|bx (ef I I) I<|b9 (iW (xs:=[_,_]) I (aZ.sl.get I) ⟨Nat.le_of_ble_eq_true rfl,Nat.le_of_ble_eq_true rfl⟩ rfl rfl) I<|au 2 I<|aE [9,13] I ?_
  refine ab (.v (ef I I) I<|.a 1 I<|.k [4] I)<|ao ?_
  unfold kh F2 F3
  first
   |exact⟨_,_,az.of I,ax.iR (ah.cons (ax.jt rfl (ah.cons (ax.fB rfl (ah.cons (ax.iR (ah.cons ax.pure<|ah.cons (ax.jt rfl (ah.cons (ax.pure (p:=aw _)) ah.nil)) ah.nil))<|ah.cons (ax.iR (ah.cons ax.pure<|ah.cons ax.pure<|ah.cons (ax.jt rfl (ah.cons (ax.pure (p:=aw _)) ah.nil)) ah.nil)) ah.nil)) ah.nil))<|ah.cons ax.pure ah.nil),rfl⟩
   |exact⟨_,_,az.of I,ax.iR (ah.cons (ax.jt rfl (ah.cons (ax.fB rfl (ah.cons (ax.iR (ah.cons ax.pure<|ah.cons (ax.jt rfl (ah.cons ax.bQ ah.nil)) ah.nil))<|ah.cons (ax.iR (ah.cons ax.pure<|ah.cons ax.pure<|ah.cons (ax.jt rfl (ah.cons (ax.pure (p:=aw _)) ah.nil)) ah.nil)) ah.nil)) ah.nil))<|ah.cons ax.pure ah.nil),rfl⟩
 ·have hg0:¬0<g:=ff (by rw[hc1,h2])
  rw[if_neg hg0]
  refine ai<|aM<|au 2 I<|eL I (h1 2 h) I<|au 2 I<|aE [6,7,8,9,11,12] I ?_
  refine aM<|bx (ef I I) I<|bx (ef I I) I<|b9 (iW (xs:=[_,_]) I (aZ.sl.get I) ⟨Nat.le_of_ble_eq_true rfl,Nat.le_of_ble_eq_true rfl⟩ rfl rfl) I<|au 2 I<|aE [9,13] I ?_
  refine ab (.v (ef I I) I<|.a 1 I<|.k [4] I)<|ao ?_
  unfold kh F2 F3
  first
   |exact⟨_,_,az.of I,ax.iR (ah.cons (ax.jt rfl (ah.cons (ax.fB rfl (ah.cons (ax.iR (ah.cons ax.pure<|ah.cons (ax.jt rfl (ah.cons (ax.pure (p:=aw _)) ah.nil)) ah.nil))<|ah.cons (ax.iR (ah.cons ax.pure<|ah.cons ax.pure<|ah.cons (ax.jt rfl (ah.cons (ax.pure (p:=aw _)) ah.nil)) ah.nil)) ah.nil)) ah.nil))<|ah.cons ax.pure ah.nil),rfl⟩
   |exact⟨_,_,az.of I,ax.iR (ah.cons (ax.jt rfl (ah.cons (ax.fB rfl (ah.cons (ax.iR (ah.cons ax.pure<|ah.cons (ax.jt rfl (ah.cons ax.bQ ah.nil)) ah.nil))<|ah.cons (ax.iR (ah.cons ax.pure<|ah.cons ax.pure<|ah.cons (ax.jt rfl (ah.cons (ax.pure (p:=aw _)) ah.nil)) ah.nil)) ah.nil)) ah.nil))<|ah.cons ax.pure ah.nil),rfl⟩
theorem s8{α:Type}(f:α→List PV)(s:Nat)(hf:∀a,(f a).length=s)(z:α):∀(l:List α) (d:Nat),d<l.length→over (l.flatMap f) (d*s) (f z)=(l.set d z).flatMap f
 | [],d,h=>by simp at h
 |a::l,0,_=>by
  unfold over
  rw[List.flatMap_cons,Nat.zero_mul,List.take_zero,hf,List.set_cons_zero,List.flatMap_cons,List.nil_append,Nat.zero_add]
  congr 1
  rw[←hf a,List.drop_left]
 |a::l,d+1,h=>by
  have ih:=s8 f s hf z l d (by simpa using h)
  unfold over at*
  have e:(d+1)*s=(f a).length+d*s:=by rw[hf,Nat.succ_mul];omega
  rw[List.flatMap_cons,List.set_cons_succ,List.flatMap_cons,←ih,e,List.take_length_add_append,Nat.add_assoc,List.drop_length_add_append,List.append_assoc]
theorem CO(l:List iV)(d:Nat)(z:iV)(h:d<l.length):over (dT l) (d*3) (gA z)=dT (l.set d z):=s8 gA 3 (fun _=>rfl) z l d h
noncomputable def lO(T:an)(D:List Bool)(n N j:Nat):List iV:=(List.range N).map fun d=>if d<j then jS T D n (d:Int) else⟨bI T D n d,false,[]⟩
theorem DB(T:an)(D:List Bool)(n N j:Nat):(lO T D n N j).length=N:=by simp[lO]
theorem BK(T:an)(D:List Bool)(n N:Nat):lO T D n N 0=oI T D n N:=by unfold lO oI;simp
theorem EP(T:an)(D:List Bool)(n N:Nat):lO T D n N N=sG T D n N:=by
 unfold lO sG
 refine List.map_congr_left fun d hd=>?_
 rw[if_pos (List.mem_range.1 hd)]
theorem wJ{T:an}{D:List Bool}{n N j i:Nat}(h:i<(lO T D n N j).length):(lO T D n N j)[i]=if i<j then jS T D n (i:Int) else⟨bI T D n i,false,[]⟩:=by simp[lO]
theorem BP(T:an)(D:List Bool)(n N j:Nat):(lO T D n N j).set j (jS T D n (j:Int))=lO T D n N (j+1):=by
 apply List.ext_getElem (by simp[lO])
 intro i h1 h2
 rw[List.getElem_set,wJ,wJ]
 by_cases e:j=i
 ·subst e;rw[if_pos rfl,if_pos (by omega)]
 ·rw[if_neg e]
  by_cases h:i<j
  ·rw[if_pos h,if_pos (by omega)]
  ·rw[if_neg h,if_neg (by omega)]
def p7(T:an)(D:List Bool)(n:Nat)(l:List iV):cg:=[some (.cells 56 [num 0,.raw (.slice none 0 0),.raw (.slice none 0 0)]),some (.row 76 3 T.nodes.toNat (dT l)),some (.row 3 1 (cO D (bN T n)).length (aL (cO D (bN T n)))),some (.cells 56 [num n,.own 1,.own 2])]
theorem DL(T:an)(D:List Bool)(n:Nat)(hv:aq T=true)(hf:bW T D=true)(hn:(n:Int)<T.nodes)(h12:T.nodes≤12):bU Tryz.prog 123 ([bg D,.agg [num n,.own 1,.own 2]]++[.ba (bC T) 0,.ba [num n] 0]) (p7 T D n (oI T D n T.nodes.toNat)) (fun _ σ'=>σ'=p7 T D n (sG T D n T.nodes.toNat)++[some (.cells 56 [num n,.own 1,.own 2])]):=by
 have hll:=bR hv
 have hnb:br T (n:Int)=true:=aT.2 ⟨by omega,hn⟩
 obtain⟨N,hN⟩:∃N:Nat,T.nodes.toNat=N:=⟨_,rfl⟩
 have hNN:T.nodes=(N:Int):=by have:=(aO hv).nodes;omega
 unfold p7
 rw[hN,←BK]
 obtain⟨dl,hdl⟩:∃dl,cO D (bN T n)=dl:=⟨_,rfl⟩
 rw[hdl]
 refine cp Tryz.func123 I Tryz.ntmps123 I<|aM<|b9 (fu I I I) I<|aE [0,2,3,5] I ?_
 refine ab (.a 4 I<|.k [0,2,3,5,9,10] I)<|av<|eR [0,2,3,5,9,10] I<|bu (fun r s=>∃j,j≤N∧r=N - j∧s=⟨[(0,bg D),(2,.ba (bC T) 0),(3,.ba [num n] 0),(5,.ptr 4 0),(9,num N),(10,num j)],[some (.cells 56 [num 0,.raw (.slice none 0 0),.raw (.slice none 0 0)]),some (.row 76 3 N (dT (lO T D n N j))),some (.row 3 1 dl.length (aL dl)),some (.cells 56 [num n,.own 1,.own 2]),some (.cells 56 [num n,.own 1,.own 2])]⟩) N ⟨0,by omega,by omega,rfl⟩ ?_
 rintro r s ⟨j,hj,rfl,rfl⟩
 refine ab (.a 1 I<|.k [0,2,3,5,9,10,11] I)<|aj<|ag I (fun h1=>?_) (fun h1=>?_)
 ·have hlt:j<N:=by have:=tt h1;omega
  have hre:=wj T D n j hll h12
  rw[pq hv hf hnb (aT.2 ⟨by omega,by omega⟩)]at hre
  have hml:=DB T D n N j
  have hel:(dT (lO T D n N j)).length=N*3:=by have:=xZ gA 3 (fun _=>rfl) (lO T D n N j);rw[hml]at this;exact this
  refine ai<|aj<|av<|ab (.a 2 I<|.k [0,2,3,5,6,9,10] I)<|dJ 12 20 mixed (
   .val [5] I (bh I) I I<|
   .val [14] I (bh I) I I<|
   .val [6] I (bh I) I I<|
   .val [2] I (bh I) I I<|
   .val [0] I (bh I) I I<|
   .val [3] I (bh I) I I<|
   .val [6] I (bh I) I I<|
   .val [17,18,19,20] I (dV I (hre)) I I<|
   .val [21] I (bh I) I I<|
   .val [13] I (bh I) I I<|
   .late [13] I (sW rfl rfl rfl) inferInstance rfl rfl<|
   .val [15,16] I (aP ((j*3)) I) I I<|
   .nil) (by kernel_rfl) I I (aY (ks:=[0,2,3,5,9,10,22,24]) I) ?_
  refine bb (ow I (aZ.tk.get I) I I I I I (show j*3+3≤(dT (lO T D n N j)).length by omega)) I I<|aE [0,2,3,5,9,10] I ?_
  refine eE (σ':=[some (.cells 56 [num 0,.raw (.slice none 0 0),.raw (.slice none 0 0)]),some (.row 76 3 N (dT (lO T D n N (j+1)))),some (.row 3 1 dl.length (aL dl)),some (.cells 56 [num n,.own 1,.own 2]),some (.cells 56 [num n,.own 1,.own 2])]) (by rw[←BP,←CO _ _ _ (by omega)];rfl) ?_
  refine aB (.v (aU I) I<|.a 1 I<|.k [0,2,3,5,9,10] I) ?_
  exact⟨N - (j+1),by omega,j+1,by omega,rfl,rfl⟩
 ·have hje:j=N:=by have:=ff h1;omega
  subst hje
  refine bf<|⟨_,az.of I,?_⟩
  rw[EP]
  rfl
theorem xY(T:an)(D:List Bool)(n:Nat)(c:Option cJ)(hch:cD T D [(n:Int)]=0):bU Tryz.prog 53 [aN T,bg D,num n] [c] (fun r σ'=>r= .tuple [.agg [num n,.own 3,.own 4],num 0]∧σ'=[c,some (.cells 56 [num n,.own 3,.own 4]),some (.cells 56 [num n,.own 3,.own 4]),some (.row 76 3 T.nodes.toNat (dT (oI T D n T.nodes.toNat))),some (.row 3 1 (cO D (bN T n)).length (aL (cO D (bN T n))))]):=by
 refine bU.frame (bU.mono (wO T D n hch) ?_)
 rintro r σ' ⟨rfl,rfl⟩
 refine⟨[.cells 56 [num n,.own 2,.own 3],.cells 56 [num n,.own 2,.own 3],.row 76 3 T.nodes.toNat (dT (oI T D n T.nodes.toNat)),.row 3 1 (cO D (bN T n)).length (aL (cO D (bN T n)))],rfl,.tuple [.agg [num n,.own 3,.own 4],num 0],[.cells 56 [num n,.own 3,.own 4],.cells 56 [num n,.own 3,.own 4],.row 76 3 T.nodes.toNat (dT (oI T D n T.nodes.toNat)),.row 3 1 (cO D (bN T n)).length (aL (cO D (bN T n)))],?_,?_,rfl,rfl⟩
 ·exact Up.aX (lB.cons (Up.gV (lB.cons Up.pure<|lB.cons (Up.own rfl)<|lB.cons (Up.own rfl) lB.nil)) (lB.cons Up.pure lB.nil))
 ·exact nv.cons (.cells (lB.cons Up.pure<|lB.cons (Up.own rfl)<|lB.cons (Up.own rfl) lB.nil))<|nv.cons (.cells (lB.cons Up.pure<|lB.cons (Up.own rfl)<|lB.cons (Up.own rfl) lB.nil))<|nv.cons (.row lB.pure)<|nv.cons (.row lB.pure) nv.nil
instance (e:Int) (x:db):IsPure (jQ e x):=by unfold jQ;infer_instance
def ky(T:an)(k x n:Int):Int:=if dY T k x=0 then(if br T n then 0 else 2) else 1
theorem ph{T:an}{k x:Int}(h:dY T k x=0):(aq T&&cd T k x)=true:=by
 unfold dY at h
 split at h
 ·assumption
 ·omega
theorem FA(T:an)(D:List Bool)(n:Nat):bU Tryz.prog 125 ([bg D,.agg [num n,.own 1,.own 2]]++[]) (p7 T D n (oI T D n T.nodes.toNat)) (fun _ σ'=>σ'=p7 T D n (oI T D n T.nodes.toNat)++[some (.cells 56 [num n,.own 1,.own 2])]):=by
 unfold p7
 refine cp Tryz.func125 I Tryz.ntmps125 I<|bH<|b9 (fu I I I) I<|aE [] I ?_
 exact⟨_,az.of I,rfl⟩
theorem xJ{T:an}{k x:Int}(h:dY T k x≠0):dY T k x=1:=by
 unfold dY at*
 split
 ·rename_i h';rw[if_pos h']at h;exact absurd rfl h
 ·rfl
theorem ry(T:an)(k x n:Int)(f:FuncId)(cap:List PV)[aK cap](he:ky T k x n≠0):
  Can Tryz.prog 122 [aN T,bY k x,num n,.func f cap] (· =jQ (ky T k x n) ⟨0,[],[]⟩):=by
 have hmk:=lF T k x
 have hmf:=dx T k x
 unfold iG at hmk
 have hrt:=qW T (aI T k x) n
 refine aG Tryz.func122 I Tryz.ntmps122 I<|aM<|au 4 I<|aE [2,3,4,5,8] I ?_
 refine ab (.a 2 I<|.c rfl (hmk) I<|.a 5 I<|.k [2,3,4,8,10,11] I)<|aj<|ab (.a 2 I<|.k [2,3,4,8,10,11,20] I)<|ag I (fun h1=>?_) (fun h1=>?_)
 ·have h1:=tt h1
  have he2:ky T k x n=dY T k x:=by
   unfold ky
   rw[if_neg h1,xJ h1]
  rw[he2]
  refine aM<|au 4 I<|aE [8,9] I ?_
  exact ao<|⟨_,_,az.of I,ax.aX (ah.cons (ax.gV (ah.cons ax.pure<|ah.cons ax.bQ<|ah.cons ax.bQ ah.nil)) (ah.cons ax.pure ah.nil)),by unfold jQ;rw[if_neg h1];rfl⟩
 ·have h1:dY T k x=0:=Classical.byContradiction (ff h1)
  obtain⟨hv,hc⟩:=Bool.and_eq_true_iff.1 (ph h1)
  rw[if_pos h1]
  have hn:br T n=false:=by
   cases hn:br T n with
   |false=>rfl
   |true=>exact absurd (show ky T k x n=0 by unfold ky;rw[if_pos h1,hn];rfl) he
  have hch:cD T (aI T k x) [n]=2:=by unfold cD;rw[hv,hmf];simp[hn]
  have hr0:jO T (aI T k x) n=⟨0,[],[]⟩:=by unfold jO;rw[if_neg (by rw[hch];decide)]
  rw[hch,hr0]at hrt
  have he:ky T k x n=2:=by unfold ky;rw[if_pos h1,hn];rfl
  rw[he]
  refine ai<|aM<|au 3 I<|eL I (hrt) I<|au 6 I<|aE [3,8,10,11,12] I ?_
  refine aj<|ab (.a 2 I<|.k [3,8,10,11,12,31] I)<|ag I (fun h2=>?_) (fun h2=>?_)
  ·skip
   refine aM<|au 4 I<|aE [8,9] I ?_
   exact ao<|⟨_,_,az.of I,ax.aX (ah.cons (ax.gV (ah.cons ax.pure<|ah.cons ax.bQ<|ah.cons ax.bQ ah.nil)) (ah.cons ax.pure ah.nil)),rfl⟩
  ·exact absurd h2 (by decide)
theorem tO(T:an)(k x:Int)(n:Nat)(f:FuncId)(cap:List PV)[aK cap](L:List iV)(hen:enters Tryz.prog f=true)(hv:(aq T&&cd T k x)=true)(hn:(n:Int)<T.nodes)(hl:L.length=T.nodes.toNat)
  (hf:bU Tryz.prog f ([bg (aI T k x),.agg [num n,.own 1,.own 2]]++cap) (p7 T (aI T k x) n (oI T (aI T k x) n T.nodes.toNat)) (fun _ σ'=>σ'=p7 T (aI T k x) n L++[some (.cells 56 [num n,.own 1,.own 2])])):
  Can Tryz.prog 122 [aN T,bY k x,num n,.func f cap] (· =jQ 0 ⟨n,L,cO (aI T k x) (bN T n)⟩):=by
 have hmk:=lF T k x
 have hmf:=dx T k x
 have hm0:dY T k x=0:=by unfold dY;rw[if_pos hv]
 unfold iG at hmk
 rw[hm0,if_pos rfl]at hmk
 obtain⟨M,hM⟩:∃M,aI T k x=M:=⟨_,rfl⟩
 rw[hM]at hmk hmf hf ⊢
 obtain⟨hv,hc⟩:=Bool.and_eq_true_iff.1 hv
 have hch:cD T M [(n:Int)]=0:=by unfold cD;rw[hv,hmf];simp[aT.2 (show 0≤(n:Int)∧(n:Int)<T.nodes by omega)]
 have hrt:=fun c=>xY T M n c hch
 refine aG Tryz.func122 I Tryz.ntmps122 I<|aM<|au 4 I<|aE [2,3,4,5,8] I ?_
 refine ab (.a 2 I<|.c rfl (hmk) I<|.a 5 I<|.k [2,3,4,8,10,11] I)<|aj<|ab (.a 2 I<|.k [2,3,4,8,10,11,20] I)<|ag I (fun h1=>?_) (fun h1=>?_)
 ·exact absurd h1 (by decide)
 ·skip
  refine ai<|aM<|au 3 I<|cN I I (bU.mono (hrt _) (fun r σ' h=>?_))
  obtain⟨rfl,rfl⟩:=h
  refine au 6 I<|aE [3,8,10,11,12] I ?_
  refine aj<|ab (.a 2 I<|.k [3,8,10,11,12,31] I)<|ag I (fun h2=>?_) (fun h2=>?_)
  ·exact absurd h2 (by decide)
  ·skip
   refine ai<|dG [0,3,4,5] (.c 3<|.c 8<|.c 10<|.c 12<|.nil) (.kept rfl (.cells (aH.c<|aH.c<|aH.c<|aH.nil))<|.kept rfl (.row aH.pure)<|.kept rfl (.row aH.pure)<|.kept rfl (.cells (aH.c<|aH.c<|aH.c<|aH.nil))<|.nil) I I ?_
   refine aM<|au 3 I<|vU I hen rfl rfl rfl rfl rfl (bU.mono hf (fun r σ' h=>?_))
   obtain rfl:=h
   refine aE [8,12] I ?_
   refine aM<|au 3 I<|aE [8,9] I ?_
   refine ao<|⟨_,_,az.of I,ax.aX (ah.cons (ax.gV (ah.cons ax.pure<|ah.cons (ax.fB rfl ah.pure)<|ah.cons (ax.fB rfl ah.pure) ah.nil)) (ah.cons ax.pure ah.nil)),?_⟩
   unfold jQ fr eK iD aw
   rw[if_pos rfl,hl]
theorem s4{T:an}{k x n:Int}(h:ky T k x n=0):(aq T&&cd T k x)=true∧br T n=true:=by
 unfold ky at h
 split at h
 ·rename_i h1
  refine⟨ph h1,?_⟩
  split at h
  ·assumption
  ·omega
 ·omega
theorem DA(T:an)(k x n:Int)(h12:T.nodes≤12):Can Tryz.prog 70 [aN T,bY k x,num n] (· =jQ (ky T k x n) (uR T (aI T k x) n.toNat)):=by
 have key:Can Tryz.prog 122 [aN T,bY k x,num n,.func 123 [.ba (bC T) 0,.ba [num n] 0]] (· =jQ (ky T k x n) (uR T (aI T k x) n.toNat)):=by
  by_cases he:ky T k x n=0
  ·obtain⟨hm,hn⟩:=s4 he
   obtain⟨hv,hc⟩:=Bool.and_eq_true_iff.1 hm
   rw[aT]at hn
   obtain⟨m,rfl⟩:=Int.eq_ofNat_of_zero_le hn.1
   rw[he]
   exact tO T k x m _ _ _ (by kernel_rfl) hm hn.2 (rU _ _ _ _) (DL T (aI T k x) m hv (dx T k x) hn.2 h12)
  ·have h:=ry T k x n 123 [.ba (bC T) 0,.ba [num n] 0] he
   unfold jQ at h ⊢
   rw[if_neg he]at h ⊢
   exact h
 refine aG Tryz.func70 I Tryz.ntmps70 I<|aM<|au 5 I<|aE [3,4,5,6] I ?_
 refine aM<|au 4 I<|eL I (key) I<|au 4 I<|aE [6,7] I ?_
 exact ao<|⟨_,_,az.of I,ax.pure (p:=jQ (ky T k x n) (uR T (aI T k x) n.toNat)),rfl⟩
theorem DU(T:an)(k x n:Int):Can Tryz.prog 72 [aN T,bY k x,num n] (· =jQ (ky T k x n) (dR T (aI T k x) n.toNat)):=by
 have key:Can Tryz.prog 122 [aN T,bY k x,num n,.func 125 []] (· =jQ (ky T k x n) (dR T (aI T k x) n.toNat)):=by
  by_cases he:ky T k x n=0
  ·obtain⟨hm,hn⟩:=s4 he
   obtain⟨hv,hc⟩:=Bool.and_eq_true_iff.1 hm
   rw[aT]at hn
   obtain⟨m,rfl⟩:=Int.eq_ofNat_of_zero_le hn.1
   rw[he]
   exact tO T k x m _ _ _ (by kernel_rfl) hm hn.2 (uA _ _ _ _) (FA T (aI T k x) m)
  ·have h:=ry T k x n 125 [] he
   unfold jQ at h ⊢
   rw[if_neg he]at h ⊢
   exact h
 refine aG Tryz.func72 I Tryz.ntmps72 I<|aM<|au 4 I<|aE [2,3,4,6] I ?_
 refine aM<|au 3 I<|eL I (key) I<|au 4 I<|aE [6,7] I ?_
 exact ao<|⟨_,_,az.of I,ax.pure (p:=jQ (ky T k x n) (dR T (aI T k x) n.toNat)),rfl⟩
theorem xC(T:an)(D:List Bool)(n:Int):PV.tuple [fr (jO T D n),num (cD T D [n])]=jQ (cD T D [n]) (dR T D n.toNat):=by
 unfold jQ jO;rfl
theorem Fj(T:an)(n:Int):Can Tryz.prog 67 [aN T,num n] (· =jQ (cD T [] [n]) (dR T [] n.toNat)):=by
 refine aG Tryz.func67 I Tryz.ntmps67 I<|aM<|au 3 I<|aE [1,2,4] I ?_
 have hr:=qW T [] n
 rw[xC]at hr
 refine aM<|au 2 I<|bx (wB I (ah.cons ax.pure<|ah.cons ax.bQ<|ah.cons ax.pure ah.nil) (hr)) I<|au 4 I<|aE [4,5] I ?_
 exact ao<|⟨_,_,az.of I,ax.pure (p:=jQ (cD T [] [n]) (dR T [] n.toNat)),rfl⟩
theorem xp{T:an}{a:Nat}(hv:aq T=true)(ha:a<2*T.ae.length){d:Nat}(hd:(d:Int)<T.nodes){n:Nat}(hn:bn T a=(n:Int))(k x:Int)(hm:(aq T&&cd T k x)=true):d<(bG T (gh T k x) n true).length∧decide (0≤(bG T (gh T k x) n true).getD d 0)=gG T (aI T k x) (bn T a) d:=by
 have hnN:(n:Int)<T.nodes:=by rw[←hn];exact((aO hv).tail a ha).2
 have hl:=(dB (D:=gh T k x) hv (dir:=true) hnN).1
 refine⟨by omega,?_⟩
 rw[hn,rQ hm,Bool.eq_iff_iff,decide_eq_true_eq,mB hv (dx T k x) hnN hd,GM hv hnN hd]
theorem HD(T:an)(a d:Nat)(hv:aq T=true)(ha:a<2*T.ae.length)(hd:(d:Int)<T.nodes):Can Tryz.prog 183 ([num d]++kh (ga T a) (aS T a) ((a / 2:Nat):Int) (Ij T a) (Ic T a)) (· =bY (dt T a d).1 (dt T a d).2):=by
 obtain⟨n,hn⟩:=Int.eq_ofNat_of_zero_le ((aO hv).tail a ha).1
 have hnt:(bn T a).toNat=n:=by omega
 have h2:=xp hv ha hd hn 2 (aS T a) (xx hv ha)
 have hM:Ic T a=bG T (gh T 2 (aS T a)) n true:=by unfold Ic;rw[hnt]
 have hL:0<ga T a→Ij T a=bG T (gh T 3 (ga T a)) n true:=fun h=>by unfold Ij;rw[if_pos h,hnt]
 have h:=EB (ga T a) (aS T a) ((a / 2:Nat):Int) (Ij T a) (Ic T a) d (gG T (aI T 3 (ga T a)) (bn T a) d) (gG T (aI T 2 (aS T a)) (bn T a) d)
  (fun hg=>by rw[hL hg];exact xp hv ha hd hn 3 (ga T a) (Ac hv ha hg)) (by rw[hM];exact h2.1) (by rw[hM];exact h2.2)
 have e:(if(decide (0<ga T a)&&gG T (aI T 3 (ga T a)) (bn T a) d)=true then bY 3 (ga T a) else if(decide (aS T a≠(d:Int))&&gG T (aI T 2 (aS T a)) (bn T a) d)=true then bY 2 (aS T a) else bY 1 ((a / 2:Nat):Int))=bY (dt T a d).1 (dt T a d).2:=by
  unfold dt
  split
  ·rfl
  ·split<;>rfl
 rw[e]at h
 exact h
def HK(own:List Bool):List Int→Nat→Int
 | [],_=> -1
 |a::l,i=>bif aQ own a.toNat then(i:Int) else HK own l (i+1)
theorem Fu(own:List Bool):∀(l:List Int) (i:Nat),(HK own l i= -1∧lx own l=none)∨∃j,j<l.length∧HK own l i=((i+j:Nat):Int)∧lx own l=some (l.getD j 0)
 | [],i=>.inl ⟨rfl,rfl⟩
 |a::l,i=>by
  simp only[HK]
  by_cases h:aQ own a.toNat=true
  ·refine .inr ⟨0,by simp,by rw[h];rfl,?_⟩
   unfold lx
   rw[List.find?_cons_of_pos (by exact h)]
   rfl
  ·rw[Bool.eq_false_iff.2 h]
   simp only[cond_false]
   have e:lx own (a::l)=lx own l:=by
    unfold lx
    rw[List.find?_cons_of_neg (by exact h)]
   rw[e]
   rcases Fu own l (i+1)with h'|⟨j,h1,h2,h3⟩
   ·exact .inl h'
   ·exact .inr ⟨j+1,by simpa using h1,by rw[h2];congr 1;omega,by rw[h3];rfl⟩
theorem FD(own:List Bool)(k:Nat)(hk:k<own.length):Can Tryz.prog 154 ([num k]++[.ba [bg own] 0]) (· =flag (aQ own k)):=by
 exact aG Tryz.func154 I Tryz.ntmps154 I<|ab (.a 1 I<|.k [0,1] I)<|ab (.a 2 I<|.v (aP (k) I) I<|.v (aJ I ((show(bX own)[k]? =some (flag (aQ own k)) by rw[dj _ k hk,fk]))) I<|.a 1 I<|.k [3] I)<|ao<|⟨_,_,az.of I,ax.pure,rfl⟩
theorem Dl(l:List Int)(own:List Bool)(hl:l.length≤1000)(hm:∀a∈l,∃k:Nat,a=(k:Int)∧k<own.length):Can Tryz.prog 153 [aw l,.func 154 [.ba [bg own] 0]] (· =num (HK own l 0)):=by
 refine aG Tryz.func153 I Tryz.ntmps153 I<|ab (.a 1 I<|.k [0,1] I)<|aj<|ab (.a 3 I<|.k [0,1,7,8] I)<|av<|eR [0,1,7,8] I<|bu (fun r s=>∃i,i≤l.length∧r=l.length - i∧HK own l 0=HK own (l.drop i) i∧s=⟨[(0,aw l),(1,.func 154 [.ba [bg own] 0]),(7,num l.length),(8,num i)],[]⟩) l.length ⟨0,by omega,by omega,rfl,rfl⟩ ?_
 rintro r s ⟨i,hi,rfl,hx,rfl⟩
 refine ab (.a 1 I<|.k [0,1,7,8,9] I)<|aj<|ag I (fun h1=>?_) (fun h1=>?_)
 ·have hlt:i<l.length:=by have:=tt h1;omega
  obtain⟨k,hk,hkl⟩:=hm _ (cm (d:=0) hlt)
  rw[drop_cons l i hlt,hk]at hx
  simp only[HK,Int.toNat_natCast]at hx
  obtain⟨q,hq⟩:∃q,aQ own k=q:=⟨_,rfl⟩
  have he:=FD own k hkl
  rw[hq]at he hx
  refine ai<|aj<|av<|ab (.a 2 I<|.k [0,1,5,7,8] I)<|ab (.a 3 I<|.v (aP (i) I) I<|.v (aJ I ((aC l i hlt).trans (by rw[hk]))) I<|.c rfl (he) I<|.k [0,1,5,7,8,16] I)<|ag I (fun h2=>?_) (fun h2=>?_)
  ·subst h2
   rw[cond_true]at hx
   rw[hx]
   exact ab (.a 2 I<|.k [4] I)<|ao<|⟨_,_,az.of I,ax.pure,rfl⟩
  ·subst h2
   rw[cond_false]at hx
   refine ai<|aB (.v (aU I) I<|.a 1 I<|.k [0,1,7,8] I) ?_
   exact⟨l.length - (i+1),by omega,i+1,by omega,rfl,hx,rfl⟩
 ·have hie:i=l.length:=by have:=ff h1;omega
  subst hie
  rw[List.drop_length]at hx
  rw[hx]
  exact bf<|ab (.a 1 I<|.k [4] I)<|ao<|⟨_,_,az.of I,ax.pure,rfl⟩
theorem FL(p:List Int):Can Tryz.prog 185 ([aw p]++[]) (· = .tuple []):=by
 exact aG Tryz.func185 I Tryz.ntmps185 I<|ai<|⟨_,_,az.of I,ax.pure,rfl⟩
theorem wh(T:an)(D:List Bool)(n d:Int):Can Tryz.prog 184 [aN T,bg D,num n,num d,.func 185 []] (· =num (gQ T D n d)):=by
 refine aG Tryz.func184 I Tryz.ntmps184 I<|ab (.a 2 I<|.k [1,2,3,4,5] I)<|ab (.a 4 I<|.c rfl (sY T D n d) I<|.a 5 I<|.k [4,11,12] I)<|aj<|ab (.a 2 I<|.k [4,11,12,22] I)<|ag I (fun h1=>?_) (fun h1=>?_)
 ·skip
  refine aB (.a 2 I<|.c rfl (FL _) I<|.k [12] I) ?_
  exact ab (.a 2 I<|.k [10] I)<|ao<|⟨_,_,az.of I,ax.pure,rfl⟩
 ·skip
  exact ai<|ab (.a 2 I<|.k [10] I)<|ao<|⟨_,_,az.of I,ax.pure,rfl⟩
theorem zO(T:an)(D:List Bool)(n d:Int):Can Tryz.prog 156 [aN T,bg D,num n,num d] (· =flag (gG T D n d)):=by
 obtain⟨q,hq⟩:∃q,decide (gQ T D n d=0)=q:=⟨_,rfl⟩
 unfold gG
 rw[hq]
 exact aG Tryz.func156 I Tryz.ntmps156 I<|ab (.a 2 I<|.k [1,2,3,4] I)<|ab (.a 4 I<|.c rfl (wh T D n d) I<|.v (cc I (hq)) I<|.a 1 I<|.k [8] I)<|ao<|⟨_,_,az.of I,ax.pure,rfl⟩
theorem B3(T:an)(k x:Int)(hm:(aq T&&cd T k x)=true)(σ:cg):bU Tryz.prog 16 [aN T,bY k x] σ (fun r σ'=>r= .tuple [.own σ.length,num 0]∧σ'=σ++[lr (aI T k x)]):=by
 obtain⟨hv,hc⟩:=Bool.and_eq_true_iff.1 hm
 refine bU.frame (bU.mono (ug T k x hv hc) ?_)
 rintro r σ' ⟨rfl,rfl⟩
 refine⟨[.row 4 1 (2*T.ae.length) (bX (aI T k x))],rfl,_,_,Up.aX (lB.cons (Up.own rfl) (lB.cons Up.pure lB.nil)),nv.cons (.row lB.pure) nv.nil,by simp,?_⟩
 unfold lr
 rw[fm]
 rfl
set_option maxHeartbeats 2000000 in
theorem Dp(T:an)(own:List Bool)(n d:Nat)(hv:aq T=true)(hfo:own.length=2*T.ae.length)(hn:(n:Int)<T.nodes)(hd:(d:Int)<T.nodes)(h12:T.nodes≤12):Can Tryz.prog 114 [aN T,bg own,num n,num d] (· =xH (np T own n d)):=by
 have hll:=bR hv
 have hof:bW T own=true:=by unfold bW;rw[hfo];simp
 have hnb:br T (n:Int)=true:=aT.2 ⟨by omega,hn⟩
 have hdb:br T (d:Int)=true:=aT.2 ⟨by omega,hd⟩
 have hnx:=sz T [] n d
 rw[pq hv (j8 T) hnb hdb,Int.toNat_natCast,Int.toNat_natCast]at hnx
 unfold ed at hnx
 rw[if_pos rfl]at hnx
 have hlen:=Cs hv [] n d
 have hmem:∀a∈bI T [] n d,∃k:Nat,a=(k:Int)∧k<2*T.ae.length:=fun a ha=>by
  obtain⟨k,hk,hkn⟩:=cZ ha
  exact⟨k,hk,hkn.fC⟩
 unfold np
 obtain⟨l,hl⟩:∃l,bI T [] n d=l:=⟨_,rfl⟩
 rw[hl]at hnx hlen hmem ⊢
 have hix:=Dl l own (by omega) (fun a ha=>by rw[hfo];exact hmem a ha)
 obtain⟨ix,hixe⟩:∃ix,HK own l 0=ix:=⟨_,rfl⟩
 have hih:=Fu own l 0
 rw[hixe]at hix hih
 simp only[Nat.zero_add]at hih
 refine aG Tryz.func114 I Tryz.ntmps114 I<|aM<|au 3 I<|aE [2,3,4,5,8] I ?_
 refine ab (.a 3 I<|.v (wB I (ah.cons ax.pure<|ah.cons ax.bQ<|ah.cons ax.pure<|ah.cons ax.pure ah.nil) (hnx)) I<|.a 5 I<|.k [2,3,4,5,8,9] I)<|ab (.a 1 I<|.v (ef I I) I<|.c rfl (hix) I<|.a 1 I<|.k [2,3,4,5,8,9,11] I)<|aj<|ab (.a 2 I<|.k [2,3,4,5,8,9,11,28] I)<|ag I (fun h3=>?_) (fun h3=>?_)
 ·have hno:lx own l=none:=by
   rcases hih with h|⟨j,_,h,_⟩
   ·exact h.2
   ·rw[h]at h3;have:=tt h3;omega
  rw[hno]
  refine aM<|au 3 I<|aE [8] I ?_
  exact ao<|⟨_,_,az.of I,ax.gV (ah.cons (ax.pure (p:=aw l))<|ah.cons ax.pure<|ah.cons ax.bQ ah.nil),rfl⟩
 ·obtain⟨j,hjl,rfl,ha⟩:∃j,j<l.length∧ix=((j:Nat):Int)∧lx own l=some (l.getD j 0):=by
   rcases hih with h|h
   ·rw[h.1]at h3;exact absurd h3 (by decide)
   ·exact h
  obtain⟨k,hkj,hk⟩:=hmem _ (cm (d:=0) hjl)
  rw[ha]
  simp only[]
  rw[hkj,Int.toNat_natCast]
  have hcm:(aq T&&cd T (dt T k d).1 (dt T k d).2)=true:=by rw[hv,wV hv hk];rfl
  have hcl:=HD T k d hv hk hd
  have has:=zx T k hv hk
  have hmk:=fun σ=>B3 T (dt T k d).1 (dt T k d).2 hcm σ
  have hmx:pA T own n d k=if gG T (orM T (aI T (dt T k d).1 (dt T k d).2) own) n d=true then orM T (aI T (dt T k d).1 (dt T k d).2) own else own:=rfl
  generalize dt T k (d:Int)=cx at*
  obtain⟨ck,cy⟩:=cx
  simp only at hcm hcl hmk hmx
  have hMl:=fm T ck cy
  obtain⟨M,hM⟩:∃M,aI T ck cy=M:=⟨_,rfl⟩
  rw[hM]at hmk hmx hMl
  have hre:=wj T (pA T own n d k) n d hll h12
  rw[pq hv (xO hof k) hnb hdb]at hre
  clear h3 hmem hih hix hixe
  refine ai<|la (aY (ks:=[2,3,4,5,8,9,11]) I) ?_
  refine rq ([(2,num n),(3,num d),(4,.ba (bC T) 0),(5,.ba [bg own] 0),(8,.ptr 0 0),(12,.own 1)]) ([some (.cells 76 [.raw (.slice none 0 0),flag false,.raw (.slice none 0 0)]),lr M]) mixed ?_ ?_
  ·refine uC [[(2,num n),(3,num d),(4,.ba (bC T) 0),(5,.ba [bg own] 0),(8,.ptr 0 0),(9,aw l),(11,num j),(12,.own 1),(13,num 0),(31,.tuple [.own 1,num 0]),(32,aN T),(33,aN T),(34,aw l),(35,num j),(36,.ba (aL l) j),(37,num k),(38,.func 183 (kh (ga T k) (aS T k) ((k / 2:Nat):Int) (Ij T k) (Ic T k))),(39,num d),(40,bY ck cy),(41,.tuple [.own 1,num 0]),(42,.own 1),(43,num 0)]] [[some (.cells 76 [.raw (.slice none 0 0),flag false,.raw (.slice none 0 0)])],[some (.cells 76 [.raw (.slice none 0 0),flag false,.raw (.slice none 0 0)]),lr M]] [2,3,4,5,8,9,11] I (by kernel_rfl) (fun M hi ho=>?_)
   have μ0:M 0 32767 0 [2,3,4,5,8,12] 1:=hi<|rZ I (by kernel_rfl) (⟨rfl,aY (ks:=[2,3,4,5,8,12]) I⟩)
   have μ1:M 1 16383 0 [2,3,4,5,8,12,43] 1:=hi<|aa [(14,32767)] I<|ak (ho μ0) I I af
   have μ2:M 2 8191 0 [2,3,4,5,8,42,43] 1:=hi<|aa [(13,16383)] I<|ak (ho μ1) I I af
   have μ3:M 2 12287 0 [2,3,4,5,8,12,31] 1:=hi<|aa [(12,16383)] I<|ak (ho μ1) I I af
   have μ4:M 3 4095 0 [2,3,4,5,8,31,42] 1:=hi<|aa [(12,8191),(13,12287)] I<|ak (ho μ2) I I<|ak (ho μ3) I I af
   have μ5:M 3 6143 0 [2,3,4,5,8,31,43] 1:=hi<|aa [(11,8191)] I<|ak (ho μ2) I I af
   have μ6:M 4 2047 0 [2,3,4,5,8,31] 1:=hi<|aa [(11,4095),(12,6143)] I<|ak (ho μ4) I I<|ak (ho μ5) I I af
   have μ7:M 5 1023 0 [2,3,4,5,8,41] 1:=hi<|aa [(10,2047)] I<|ak (ho μ6) I I af
   have μ8:M 6 511 0 [2,3,4,5,8,32,40] 0:=hi<|aa [(9,1023)] I<|fj I I I I (hmk _) (ho μ7) I I af
   have μ9:M 7 255 0 [2,3,4,5,8,32,38,39] 0:=hi<|aa [(8,511)] I<|bw I I (dV I (hcl)) I (ho μ8) I I af
   have μ10:M 8 127 0 [2,3,4,5,8,32,38] 0:=hi<|aa [(7,255)] I<|ak (ho μ9) I I af
   have μ11:M 8 191 0 [2,3,4,5,8,32,33,37,39] 0:=hi<|aa [(6,255)] I<|bw I I (dV I (has)) I (ho μ9) I I af
   have μ12:M 9 63 0 [2,3,4,5,8,32,33,37] 0:=hi<|aa [(6,127),(7,191)] I<|bw I I (dV I (has)) I (ho μ10) I I<|ak (ho μ11) I I af
   have μ13:M 9 159 0 [2,3,4,5,8,32,33,36,39] 0:=hi<|aa [(5,191)] I<|bw I I (aJ I ((aC l j hjl).trans (by rw[hkj]))) I (ho μ11) I I af
   have μ14:M 10 31 0 [2,3,4,5,8,32,33,36] 0:=hi<|aa [(5,63),(7,159)] I<|bw I I (aJ I ((aC l j hjl).trans (by rw[hkj]))) I (ho μ12) I I<|ak (ho μ13) I I af
   have μ15:M 10 143 0 [2,3,4,5,8,32,33,34,35,39] 0:=hi<|aa [(4,159)] I<|bw I I (aP (j) I) I (ho μ13) I I af
   have μ16:M 11 15 0 [2,3,4,5,8,32,33,34,35] 0:=hi<|aa [(4,31),(7,143)] I<|bw I I (aP (j) I) I (ho μ14) I I<|ak (ho μ15) I I af
   have μ17:M 11 135 0 [2,3,4,5,8,11,32,33,34,39] 0:=hi<|aa [(3,143)] I<|ak (ho μ15) I I af
   have μ18:M 12 7 0 [2,3,4,5,8,11,32,33,34] 0:=hi<|aa [(3,15),(7,135)] I<|ak (ho μ16) I I<|ak (ho μ17) I I af
   have μ19:M 11 139 0 [2,3,4,5,8,9,32,33,35,39] 0:=hi<|aa [(2,143)] I<|ak (ho μ15) I I af
   have μ20:M 12 11 0 [2,3,4,5,8,9,32,33,35] 0:=hi<|aa [(2,15),(7,139)] I<|ak (ho μ16) I I<|ak (ho μ19) I I af
   have μ21:M 12 131 0 [2,3,4,5,8,9,11,32,33,39] 0:=hi<|aa [(2,135),(3,139)] I<|ak (ho μ17) I I<|ak (ho μ19) I I af
   have μ22:M 13 3 0 [2,3,4,5,8,9,11,32,33] 0:=hi<|aa [(2,7),(3,11),(7,131)] I<|ak (ho μ18) I I<|ak (ho μ20) I I<|ak (ho μ21) I I af
   have μ23:M 9 189 0 [2,3,4,5,8,32,37,39] 0:=hi<|aa [(1,191)] I<|ak (ho μ11) I I af
   have μ24:M 10 61 0 [2,3,4,5,8,32,37] 0:=hi<|aa [(1,63),(7,189)] I<|ak (ho μ12) I I<|ak (ho μ23) I I af
   have μ25:M 10 157 0 [2,3,4,5,8,32,36,39] 0:=hi<|aa [(1,159),(5,189)] I<|ak (ho μ13) I I<|bw I I (aJ I ((aC l j hjl).trans (by rw[hkj]))) I (ho μ23) I I af
   have μ26:M 11 29 0 [2,3,4,5,8,32,36] 0:=hi<|aa [(1,31),(5,61),(7,157)] I<|ak (ho μ14) I I<|bw I I (aJ I ((aC l j hjl).trans (by rw[hkj]))) I (ho μ24) I I<|ak (ho μ25) I I af
   have μ27:M 11 141 0 [2,3,4,5,8,32,34,35,39] 0:=hi<|aa [(1,143),(4,157)] I<|ak (ho μ15) I I<|bw I I (aP (j) I) I (ho μ25) I I af
   have μ28:M 12 13 0 [2,3,4,5,8,32,34,35] 0:=hi<|aa [(1,15),(4,29),(7,141)] I<|ak (ho μ16) I I<|bw I I (aP (j) I) I (ho μ26) I I<|ak (ho μ27) I I af
   have μ29:M 12 133 0 [2,3,4,5,8,11,32,34,39] 0:=hi<|aa [(1,135),(3,141)] I<|ak (ho μ17) I I<|ak (ho μ27) I I af
   have μ30:M 13 5 0 [2,3,4,5,8,11,32,34] 0:=hi<|aa [(1,7),(3,13),(7,133)] I<|ak (ho μ18) I I<|ak (ho μ28) I I<|ak (ho μ29) I I af
   have μ31:M 12 137 0 [2,3,4,5,8,9,32,35,39] 0:=hi<|aa [(1,139),(2,141)] I<|ak (ho μ19) I I<|ak (ho μ27) I I af
   have μ32:M 13 9 0 [2,3,4,5,8,9,32,35] 0:=hi<|aa [(1,11),(2,13),(7,137)] I<|ak (ho μ20) I I<|ak (ho μ28) I I<|ak (ho μ31) I I af
   have μ33:M 13 129 0 [2,3,4,5,8,9,11,32,39] 0:=hi<|aa [(1,131),(2,133),(3,137)] I<|ak (ho μ21) I I<|ak (ho μ29) I I<|ak (ho μ31) I I af
   have μ34:M 14 1 0 [2,3,4,5,8,9,11,32] 0:=hi<|aa [(1,3),(2,5),(3,9),(7,129)] I<|ak (ho μ22) I I<|ak (ho μ30) I I<|ak (ho μ32) I I<|ak (ho μ33) I I af
   have μ35:M 7 510 0 [2,3,4,5,8,40] 0:=hi<|aa [(0,511)] I<|ak (ho μ8) I I af
   have μ36:M 8 254 0 [2,3,4,5,8,38,39] 0:=hi<|aa [(0,255),(8,510)] I<|ak (ho μ9) I I<|bw I I (dV I (hcl)) I (ho μ35) I I af
   have μ37:M 9 126 0 [2,3,4,5,8,38] 0:=hi<|aa [(0,127),(7,254)] I<|ak (ho μ10) I I<|ak (ho μ36) I I af
   have μ38:M 9 190 0 [2,3,4,5,8,33,37,39] 0:=hi<|aa [(0,191),(6,254)] I<|ak (ho μ11) I I<|bw I I (dV I (has)) I (ho μ36) I I af
   have μ39:M 10 62 0 [2,3,4,5,8,33,37] 0:=hi<|aa [(0,63),(6,126),(7,190)] I<|ak (ho μ12) I I<|bw I I (dV I (has)) I (ho μ37) I I<|ak (ho μ38) I I af
   have μ40:M 10 158 0 [2,3,4,5,8,33,36,39] 0:=hi<|aa [(0,159),(5,190)] I<|ak (ho μ13) I I<|bw I I (aJ I ((aC l j hjl).trans (by rw[hkj]))) I (ho μ38) I I af
   have μ41:M 11 30 0 [2,3,4,5,8,33,36] 0:=hi<|aa [(0,31),(5,62),(7,158)] I<|ak (ho μ14) I I<|bw I I (aJ I ((aC l j hjl).trans (by rw[hkj]))) I (ho μ39) I I<|ak (ho μ40) I I af
   have μ42:M 11 142 0 [2,3,4,5,8,33,34,35,39] 0:=hi<|aa [(0,143),(4,158)] I<|ak (ho μ15) I I<|bw I I (aP (j) I) I (ho μ40) I I af
   have μ43:M 12 14 0 [2,3,4,5,8,33,34,35] 0:=hi<|aa [(0,15),(4,30),(7,142)] I<|ak (ho μ16) I I<|bw I I (aP (j) I) I (ho μ41) I I<|ak (ho μ42) I I af
   have μ44:M 12 134 0 [2,3,4,5,8,11,33,34,39] 0:=hi<|aa [(0,135),(3,142)] I<|ak (ho μ17) I I<|ak (ho μ42) I I af
   have μ45:M 13 6 0 [2,3,4,5,8,11,33,34] 0:=hi<|aa [(0,7),(3,14),(7,134)] I<|ak (ho μ18) I I<|ak (ho μ43) I I<|ak (ho μ44) I I af
   have μ46:M 12 138 0 [2,3,4,5,8,9,33,35,39] 0:=hi<|aa [(0,139),(2,142)] I<|ak (ho μ19) I I<|ak (ho μ42) I I af
   have μ47:M 13 10 0 [2,3,4,5,8,9,33,35] 0:=hi<|aa [(0,11),(2,14),(7,138)] I<|ak (ho μ20) I I<|ak (ho μ43) I I<|ak (ho μ46) I I af
   have μ48:M 13 130 0 [2,3,4,5,8,9,11,33,39] 0:=hi<|aa [(0,131),(2,134),(3,138)] I<|ak (ho μ21) I I<|ak (ho μ44) I I<|ak (ho μ46) I I af
   have μ49:M 14 2 0 [2,3,4,5,8,9,11,33] 0:=hi<|aa [(0,3),(2,6),(3,10),(7,130)] I<|ak (ho μ22) I I<|ak (ho μ45) I I<|ak (ho μ47) I I<|ak (ho μ48) I I af
   have μ50:M 10 188 0 [2,3,4,5,8,37,39] 0:=hi<|aa [(0,189),(1,190)] I<|ak (ho μ23) I I<|ak (ho μ38) I I af
   have μ51:M 11 60 0 [2,3,4,5,8,37] 0:=hi<|aa [(0,61),(1,62),(7,188)] I<|ak (ho μ24) I I<|ak (ho μ39) I I<|ak (ho μ50) I I af
   have μ52:M 11 156 0 [2,3,4,5,8,36,39] 0:=hi<|aa [(0,157),(1,158),(5,188)] I<|ak (ho μ25) I I<|ak (ho μ40) I I<|bw I I (aJ I ((aC l j hjl).trans (by rw[hkj]))) I (ho μ50) I I af
   have μ53:M 12 28 0 [2,3,4,5,8,36] 0:=hi<|aa [(0,29),(1,30),(5,60),(7,156)] I<|ak (ho μ26) I I<|ak (ho μ41) I I<|bw I I (aJ I ((aC l j hjl).trans (by rw[hkj]))) I (ho μ51) I I<|ak (ho μ52) I I af
   have μ54:M 12 140 0 [2,3,4,5,8,34,35,39] 0:=hi<|aa [(0,141),(1,142),(4,156)] I<|ak (ho μ27) I I<|ak (ho μ42) I I<|bw I I (aP (j) I) I (ho μ52) I I af
   have μ55:M 13 12 0 [2,3,4,5,8,34,35] 0:=hi<|aa [(0,13),(1,14),(4,28),(7,140)] I<|ak (ho μ28) I I<|ak (ho μ43) I I<|bw I I (aP (j) I) I (ho μ53) I I<|ak (ho μ54) I I af
   have μ56:M 13 132 0 [2,3,4,5,8,11,34,39] 0:=hi<|aa [(0,133),(1,134),(3,140)] I<|ak (ho μ29) I I<|ak (ho μ44) I I<|ak (ho μ54) I I af
   have μ57:M 14 4 0 [2,3,4,5,8,11,34] 0:=hi<|aa [(0,5),(1,6),(3,12),(7,132)] I<|ak (ho μ30) I I<|ak (ho μ45) I I<|ak (ho μ55) I I<|ak (ho μ56) I I af
   have μ58:M 13 136 0 [2,3,4,5,8,9,35,39] 0:=hi<|aa [(0,137),(1,138),(2,140)] I<|ak (ho μ31) I I<|ak (ho μ46) I I<|ak (ho μ54) I I af
   have μ59:M 14 8 0 [2,3,4,5,8,9,35] 0:=hi<|aa [(0,9),(1,10),(2,12),(7,136)] I<|ak (ho μ32) I I<|ak (ho μ47) I I<|ak (ho μ55) I I<|ak (ho μ58) I I af
   have μ60:M 14 128 0 [2,3,4,5,8,9,11,39] 0:=hi<|aa [(0,129),(1,130),(2,132),(3,136)] I<|ak (ho μ33) I I<|ak (ho μ48) I I<|ak (ho μ56) I I<|ak (ho μ58) I I af
   have μ61:M 15 0 0 [2,3,4,5,8,9,11] 0:=hi<|aa [(0,1),(1,2),(2,4),(3,8),(7,128)] I<|ak (ho μ34) I I<|ak (ho μ49) I I<|ak (ho μ57) I I<|ak (ho μ59) I I<|ak (ho μ60) I I af
   exact μ61
  refine aj<|ab (.a 3 I<|.k [2,3,4,5,8,12,45,46] I)<|eE (σ':=[some (.cells 76 [.raw (.slice none 0 0),flag false,.raw (.slice none 0 0)]),lr (lA T M own 0)]) (by rw[Cm hMl]) ?_
  refine av<|eR [2,3,4,5,8,12,45,46] I<|bu (fun r s=>∃a,a≤2*T.ae.length∧r=2*T.ae.length - a∧s=⟨[(2,num n),(3,num d),(4,.ba (bC T) 0),(5,.ba [bg own] 0),(8,.ptr 0 0),(12,.own 1),(45,num M.length),(46,num a)],[some (.cells 76 [.raw (.slice none 0 0),flag false,.raw (.slice none 0 0)]),lr (lA T M own a)]⟩) (2*T.ae.length) ⟨0,by omega,by omega,rfl⟩ ?_
  rintro r s ⟨a,ha2,rfl,rfl⟩
  have hol:=rR T M own a
  refine ab (.a 1 I<|.k [2,3,4,5,8,12,45,46,47] I)<|aj<|ag I (fun h4=>?_) (fun h4=>?_)
  ·have hlt:a<2*T.ae.length:=by have:=tt h4;omega
   have hst:=BB T M own a
   have hat:=HH (T:=T) (D:=M) (E:=own) hlt
   clear h4
   refine ai<|aj<|av<|ab (.a 2 I<|.k [2,3,4,5,8,12,14,45,46] I) ?_
   obtain⟨c1,hc1⟩:∃q,aQ M a=q:=⟨_,rfl⟩
   obtain⟨c2,hc2⟩:∃q,aQ own a=q:=⟨_,rfl⟩
   rw[hc1,hc2]at hst
   rw[hc1]at hat
   refine Iy (Q1:=fun st=>st=⟨[(2,num n),(3,num d),(4,.ba (bC T) 0),(5,.ba [bg own] 0),(8,.ptr 0 0),(12,.own 1),(45,num M.length),(46,num a)],[some (.cells 76 [.raw (.slice none 0 0),flag false,.raw (.slice none 0 0)]),lr (lA T M own (a+1))]⟩) ?_ ?_
   ·cases c1
    ·refine bH<|au 4 I<|bx (aP (a) I) I<|bx (aJ I ((show(bX (lA T M own a))[a]? =some (flag false) by rw[dj _ a (by omega),hat]))) I<|au 3 I<|bx (aP (a) I) I<|bx (aJ I ((show(bX own)[a]? =some (flag c2) by rw[dj _ a (by omega),fk,hc2]))) I<|au 1 I<|bx (aP (a) I) I<|bb ((by first|exact bM I (aZ.tk.get I) I I I (by first|omega|(simp;omega))|exact bc I (aZ.tk.get I) I I I (by first|omega|(simp;omega)))) I I<|aE [2,3,4,5,8,12,45,46] I ?_
     rw[←hst]
     unfold lr
     rw[List.length_set]
     rfl
    ·refine bH<|au 4 I<|bx (aP (a) I) I<|bx (aJ I ((show(bX (lA T M own a))[a]? =some (flag true) by rw[dj _ a (by omega),hat]))) I<|au 6 I<|bx (aP (a) I) I<|bb ((by first|exact bM I (aZ.tk.get I) I I I (by first|omega|(simp;omega))|exact bc I (aZ.tk.get I) I I I (by first|omega|(simp;omega)))) I I<|aE [2,3,4,5,8,12,45,46] I ?_
     rw[←hst]
     unfold lr
     rw[List.length_set]
     rfl
   rintro _ rfl
   refine aB (.v (aU I) I<|.a 1 I<|.k [2,3,4,5,8,12,45,46] I) ?_
   exact⟨2*T.ae.length - (a+1),by omega,a+1,by omega,rfl,rfl⟩
  ·have hae:a=2*T.ae.length:=by have:=ff h4;omega
   subst hae
   rw[Dv]
   clear h4
   refine bf<|aj<|De 12 1 I I ?_
   refine dG [0] (.c 2<|.c 3<|.c 4<|.c 5<|.c 8<|.c 12<|.nil) (.kept rfl (.cells (aH.c<|aH.c<|aH.c<|aH.nil))<|.nil) I I ?_
   obtain⟨q,hq⟩:∃q,gG T (orM T M own) n d=q:=⟨_,rfl⟩
   rw[hq]at hmx
   refine ab (.a 4 I<|.c rfl (hq▸zO T (orM T M own) n d) I<|.a 1 I<|.k [2,3,4,5,8,12,68] I)<|ag I (fun h5=>?_) (fun h5=>?_)
   ·have h5:q=false:=by simpa using h5
    rw[h5,if_neg (by simp)]at hmx
    rw[hmx]at hre ⊢
    refine aB (.a 2 I<|.k [2,3,4,8,12] I) ?_
    refine aM<|au 4 I<|eL I (hre) I<|au 6 I<|aE [8,15] I ?_
    refine aM<|au 2 I<|aE [8] I ?_
    exact ao<|⟨_,_,az.of I,ax.pure (p:=xH _),rfl⟩
   ·have h5:q=true:=by simpa using h5
    rw[h5,if_pos rfl]at hmx
    rw[hmx]at hre ⊢
    refine ai<|aM<|au 4 I<|eL I (hre) I<|au 6 I<|aE [8,15] I ?_
    refine aM<|au 2 I<|aE [8] I ?_
    exact ao<|⟨_,_,az.of I,ax.pure (p:=xH _),rfl⟩
def mS(T:an)(M:List Bool)(o:List Int)(i:Nat):List Bool:=(List.range (2*T.ae.length)).map fun(b:Nat)=>decide ((b:Int)∈o.take i)&&aQ M b
theorem D6(T:an)(M:List Bool)(o:List Int)(i:Nat):(mS T M o i).length=2*T.ae.length:=by simp[mS]
theorem qD{T:an}{M:List Bool}{o:List Int}{i b:Nat}(h:b<(mS T M o i).length):(mS T M o i)[b]=(decide ((b:Int)∈o.take i)&&aQ M b):=by simp[mS]
theorem Bi(T:an)(M:List Bool)(o:List Int):mS T M o 0=List.replicate (2*T.ae.length) false:=by
 apply List.ext_getElem (by simp[mS])
 intro i h1 h2
 rw[qD]
 simp
theorem Bm{T:an}{M:List Bool}{o:List Int}{i k:Nat}(hi:i<o.length)(hk:o.getD i 0=(k:Int))(hkl:k<2*T.ae.length):mS T M o (i+1)=if aQ M k then(mS T M o i).set k true else mS T M o i:=by
 have hmem:∀b:Nat,((b:Int)∈o.take (i+1))↔((b:Int)∈o.take i∨b=k):=fun b=>by
  rw[dI o i 0 hi,List.mem_append,List.mem_singleton,hk]
  exact⟨fun h=>h.imp id (fun e=>by omega),fun h=>h.imp id (fun e=>by omega)⟩
 split
 ·rename_i hd
  apply List.ext_getElem (by simp[mS])
  intro b h1 h2
  rw[qD,List.getElem_set]
  by_cases e:k=b
  ·subst e
   rw[if_pos rfl,decide_eq_true ((hmem k).2 (.inr rfl)),hd]
   rfl
  ·rw[if_neg e,qD]
   congr 1
   exact decide_eq_decide.2 ((hmem b).trans ⟨fun h=>h.resolve_right (fun e'=>e e'.symm),.inl⟩)
 ·rename_i hd
  unfold mS
  refine List.map_congr_left fun b _=>?_
  by_cases e:b=k
  ·subst e
   rw[Bool.eq_false_iff.2 hd]
   simp
  ·congr 1
   exact decide_eq_decide.2 ((hmem b).trans ⟨fun h=>h.resolve_right e,.inl⟩)
theorem E9(T:an)(M:List Bool)(n:Int):mS T M (bN T n) (bN T n).length=fV T M n:=by
 unfold mS fV
 refine List.map_congr_left fun b hb=>?_
 have hb:=List.mem_range.1 hb
 rw[List.take_length,Bool.and_comm]
 congr 1
 refine decide_eq_decide.2 (jw.trans ⟨fun h=>by have:=h.2;rwa [Int.toNat_natCast]at this,fun h=>⟨cR.2 (by omega),by rw[Int.toNat_natCast];exact h⟩⟩)
set_option maxHeartbeats 2000000 in
theorem CA(T:an)(k x n:Int)(h12:T.nodes≤12):Can Tryz.prog 55 [aN T,bY k x,num n] (· =jQ (if dY T k x=0 then(if br T n then 0 else 2) else 1) (ra T (aI T k x) n.toNat)):=by
 have hmk:=lF T k x
 unfold iG at hmk
 refine aG Tryz.func55 I Tryz.ntmps55 I<|aM<|au 4 I<|aE [2,3,4,6] I ?_
 refine ab (.a 2 I<|.c rfl (hmk) I<|.a 5 I<|.k [2,3,6,8,9] I)<|aj<|ab (.a 2 I<|.k [2,3,6,8,9,22] I)<|ag I (fun h1=>?_) (fun h1=>?_)
 ·have h1:=tt h1
  rw[if_neg h1]
  have h1':=xJ h1
  rw[h1']
  refine aM<|au 4 I<|aE [6,7] I ?_
  exact ao<|⟨_,_,az.of I,ax.aX (ah.cons (ax.gV (ah.cons ax.pure<|ah.cons ax.bQ<|ah.cons ax.bQ ah.nil)) (ah.cons ax.pure ah.nil)),rfl⟩
 ·have h1:dY T k x=0:=Classical.byContradiction (ff h1)
  obtain⟨hv,hc⟩:=Bool.and_eq_true_iff.1 (ph h1)
  rw[if_pos h1,if_pos h1]
  have hll:=bR hv
  refine ai<|aj<|ab (.a 2 I<|.c rfl (dF T n) I<|.a 1 I<|.k [2,3,6,8,28] I)<|ag I (fun h2=>?_) (fun h2=>?_)
  ·have hn:br T n=false:=by simpa using h2
   rw[hn]
   refine aM<|au 3 I<|aE [6,7] I ?_
   exact ao<|⟨_,_,az.of I,ax.aX (ah.cons (ax.gV (ah.cons ax.pure<|ah.cons ax.bQ<|ah.cons ax.bQ ah.nil)) (ah.cons ax.pure ah.nil)),rfl⟩
  ·have hn:br T n=true:=by simpa using h2
   rw[hn,if_pos rfl]
   rw[aT]at hn
   obtain⟨m,rfl⟩:=Int.eq_ofNat_of_zero_le hn.1
   rw[Int.toNat_natCast]
   obtain⟨N,hN⟩:∃N:Nat,T.nodes=(N:Int):=⟨T.nodes.toNat,by omega⟩
   have hMl:=fm T k x
   obtain⟨M,hM⟩:∃M,aI T k x=M:=⟨_,rfl⟩
   rw[hM]at hMl ⊢
   have hol:(bN T m).length≤512:=Nat.le_trans (eG T m _) (by omega)
   clear h2 hmk
   refine ai<|aM<|au 4 I<|aE [2,3,6,8,10] I ?_
   refine ct 1 1 76 3 I I ?_
   refine ct 1 2 3 1 I I ?_
   refine aM<|au 1 I<|eL I (iu T (by omega)) I<|b9 (dS I (aZ.rk.get I) I I (show 2*(T.ae.length:Int)=((2*T.ae.length:Nat):Int) by omega) (show 2*(T.ae.length:Int)=((2*T.ae.length:Nat):Int) by omega) ⟨by unfold maxLen;omega,by omega⟩) I<|au 1 I<|aE [2,3,6,8,10,11] I ?_
   refine aj<|ab (.a 2 I<|.c rfl (oG T hll _) I<|.a 2 I<|.k [2,3,6,8,10,11,37,38,39] I)<|av<|eR [2,3,6,8,10,11,37,38,39] I<|eE (σ':=[some (.cells 56 [num 0,.raw (.slice none 0 0),.raw (.slice none 0 0)]),some (.cells 56 [num m,.own 2,.own 3]),some (.row 76 3 0 []),some (.row 3 1 0 []),some (.row 4 1 (2*T.ae.length) (bX (mS T M (bN T m) 0)))]) (by rw[Bi,←ik];rfl) ?_
   refine bu (fun r s=>∃i,i≤(bN T m).length∧r=(bN T m).length - i∧s=⟨[(2,num m),(3,.ba (bC T) 0),(6,.ptr 0 0),(8,bg M),(10,.ptr 1 0),(11,.own 4),(37,aw (bN T m)),(38,num (bN T m).length),(39,num i)],[some (.cells 56 [num 0,.raw (.slice none 0 0),.raw (.slice none 0 0)]),some (.cells 56 [num m,.own 2,.own 3]),some (.row 76 3 0 []),some (.row 3 1 (cO M ((bN T m).take i)).length (aL (cO M ((bN T m).take i)))),some (.row 4 1 (2*T.ae.length) (bX (mS T M (bN T m) i)))]⟩) (bN T m).length ⟨0,by omega,by omega,rfl⟩ ?_
   rintro r s ⟨i,hi,rfl,rfl⟩
   skip
   refine ab (.a 1 I<|.k [2,3,6,8,10,11,37,38,39,40] I)<|aj<|ag I (fun h3=>?_) (fun h3=>?_)
   ·have hlt:i<(bN T m).length:=by have:=tt h3;omega
    obtain⟨a0,a1⟩:=jX (cm (d:=0) hlt)
    obtain⟨a,ha⟩:=Int.eq_ofNat_of_zero_le a0
    have hal:a<2*T.ae.length:=by omega
    have hstep:cO M ((bN T m).take (i+1))=cO M ((bN T m).take i)++(if aQ M a then [(a:Int)] else []):=by
     unfold cO
     rw[dI _ i 0 hlt,List.filter_append,ha]
     simp only[List.filter_cons,List.filter_nil,Int.toNat_natCast]
    have hdl:(cO M ((bN T m).take i)).length≤1000:=Nat.le_trans (List.length_filter_le _ _) (by rw[List.length_take];omega)
    have hds:=Bm (T:=T) (M:=M) hlt ha hal
    have hdn:=D6 T M (bN T m) i
    obtain⟨q,hq⟩:∃q,aQ M a=q:=⟨_,rfl⟩
    rw[hq]at hstep hds
    clear h3
    refine ai<|aj<|av<|ab (.v (aP (i) I) I<|.v (aJ I ((aC _ i hlt).trans (by rw[ha]))) I<|.a 1 I<|.k [2,3,6,8,10,11,13,37,38,39] I)<|ab (.a 2 I<|.v (aP (a) I) I<|.v (aJ I ((show(bX M)[a]? =some (flag q) by rw[dj _ a (by omega),fk,hq]))) I<|.k [2,3,6,8,10,11,13,37,38,39,46] I)<|ag I (fun h4=>?_) (fun h4=>?_)
    ·subst h4
     rw[if_pos rfl]at hstep hds
     refine aM<|au 2 I<|bx (aP (a) I) I<|bb ((by first|exact bM I (aZ.tk.get I) I I I (by first|omega|(simp;omega))|exact bc I (aZ.tk.get I) I I I (by first|omega|(simp;omega)))) I I<|aE [2,3,6,8,10,11,13,37,38,39] I ?_
     refine bH<|au 4 I<|b9 (bp I (aZ.rk.get I) I I I I (by unfold maxLen;omega)) I<|au 2 I ?_
     refine eP [0,1,2,5,4] (.c 2<|.c 3<|.c 6<|.c 8<|.c 10<|.c 11<|.c 37<|.c 38<|.c 39<|.nil) (.kept rfl (.cells (aH.c<|aH.c<|aH.c<|aH.nil))<|.kept rfl (.cells (aH.c<|aH.c<|aH.c<|aH.nil))<|.kept rfl (.row aH.pure)<|.kept rfl (.fG rfl (dy _ _))<|.kept rfl (.row aH.pure)<|.nil) I I (bm ?_)
     refine aB (.v (aU I) I<|.a 1 I<|.k [2,3,6,8,10,11,37,38,39] I) ?_
     refine⟨(bN T m).length - (i+1),by omega,i+1,by omega,rfl,?_⟩
     rw[hstep,hds]
     first
      |rfl
      |(simp only[List.length_append,List.length_singleton];rfl)
    ·subst h4
     rw[if_neg (by simp),List.append_nil]at hstep
     rw[if_neg (by simp)]at hds
     refine ai<|aB (.v (aU I) I<|.a 1 I<|.k [2,3,6,8,10,11,37,38,39] I) ?_
     refine⟨(bN T m).length - (i+1),by omega,i+1,by omega,rfl,?_⟩
     rw[hstep,hds]
     first
      |rfl
      |(simp only[List.length_append,List.length_singleton];rfl)
   ·have hie:i=(bN T m).length:=by have:=ff h3;omega
    subst hie
    rw[E9,List.take_length]
    clear h3
    refine bf<|aj ?_
    have hown:(fV T M m).length=2*T.ae.length:=by simp[fV]
    unfold ra
    obtain⟨own,howe⟩:∃own,fV T M m=own:=⟨_,rfl⟩
    rw[howe]at hown ⊢
    obtain⟨dl,hdl⟩:∃dl,cO M (bN T m)=dl:=⟨_,rfl⟩
    rw[hdl]
    refine dG [0,1,2,3,4] (.c 2<|.c 3<|.c 6<|.c 10<|.c 11<|.nil) (.kept rfl (.cells (aH.c<|aH.c<|aH.c<|aH.nil))<|.kept rfl (.cells (aH.c<|aH.c<|aH.c<|aH.nil))<|.kept rfl (.row aH.pure)<|.kept rfl (.row aH.pure)<|.kept rfl (.fG (show 2*T.ae.length=own.length by omega) I)<|.nil) I I ?_
    refine De 11 4 I I ?_
    refine dG [0,1,2,3] (.c 2<|.c 3<|.c 6<|.c 10<|.c 11<|.nil) (.kept rfl (.cells (aH.c<|aH.c<|aH.c<|aH.nil))<|.kept rfl (.cells (aH.c<|aH.c<|aH.c<|aH.nil))<|.kept rfl (.row aH.pure)<|.kept rfl (.row aH.pure)<|.nil) I I ?_
    refine ab (.a 1 I<|.v (aJ I ((show some (num T.nodes)=some (num (N:Int)) by rw[hN]))) I<|.a 1 I<|.k [2,3,6,10,11,58,59] I)<|av<|eR [2,3,6,10,11,58,59] I<|bu (fun r s=>∃j,j≤N∧r=N - j∧s=⟨[(2,num m),(3,.ba (bC T) 0),(6,.ptr 0 0),(10,.ptr 1 0),(11,bg own),(58,num N),(59,num j)],[some (.cells 56 [num 0,.raw (.slice none 0 0),.raw (.slice none 0 0)]),some (.cells 56 [num m,.own 2,.own 3]),some (.row 76 3 j (dT (oY T own m j))),some (.row 3 1 dl.length (aL dl))]⟩) N ⟨0,by omega,by omega,rfl⟩ ?_
    rintro r s ⟨j,hj,rfl,rfl⟩
    refine ab (.a 1 I<|.k [2,3,6,10,11,58,59,60] I)<|aj<|ag I (fun h3=>?_) (fun h3=>?_)
    ·have hlt:j<N:=by have:=tt h3;omega
     have hre:=Dp T own m j hv hown hn.2 (by omega) h12
     refine ai<|aj<|av<|ab (.a 2 I<|.k [2,3,6,10,11,14,58,59] I)<|dJ 8 20 mixed (
      .val [10] I (bh I) I I<|
      .val [62] I (bh I) I I<|
      .val [3] I (bh I) I I<|
      .val [11] I (bh I) I I<|
      .val [2] I (bh I) I I<|
      .val [14] I (bh I) I I<|
      .val [64,65,66,67] I (dV I (hre)) I I<|
      .val [68] I (bh I) I I<|
      .nil) (by kernel_rfl) I I (aY (ks:=[2,3,6,10,11,58,59,63,69]) I) ?_
     refine b9 (bp I (aZ.rk.get I) I I I I (by unfold maxLen;omega)) I<|au 2 I ?_
     refine eP [0,1,4,3] (.c 2<|.c 3<|.c 6<|.c 10<|.c 11<|.c 58<|.c 59<|.nil) (.kept rfl (.cells (aH.c<|aH.c<|aH.c<|aH.nil))<|.kept rfl (.cells (aH.c<|aH.c<|aH.c<|aH.nil))<|.kept rfl (.fG rfl (show _=dT (oY T own m (j+1)) by rw[CN];exact nh _ _))<|.kept rfl (.row aH.pure)<|.nil) I I (bm ?_)
     refine aB (.v (aU I) I<|.a 1 I<|.k [2,3,6,10,11,58,59] I) ?_
     exact⟨N - (j+1),by omega,j+1,by omega,rfl,rfl⟩
    ·have hje:j=N:=by have:=ff h3;omega
     subst hje
     refine bf<|aM<|bx (fe (ys:=[num m,.own 2,.own 3]) I (aZ.tk.get I) I I I I) I<|au 2 I<|aE [6,7] I ?_
     refine ao<|⟨_,_,az.of I,ax.aX (ah.cons (ax.gV (ah.cons ax.pure<|ah.cons (ax.fB rfl ah.pure)<|ah.cons (ax.fB rfl ah.pure) ah.nil)) (ah.cons ax.pure ah.nil)),?_⟩
     unfold jQ fr eK iD aw
     rw[if_pos rfl,rA,show T.nodes.toNat=j by omega]
end
end PW
end Go.Proofs.YtnegbdpggideiaaGreatDoor
namespace Go.Proofs.YtnegbdpggideiaaGreatDoor
namespace PW
open Go.RowKit cE Mem Net eX
namespace BL
def JF(T:an)(D:List Bool)(d:Nat)(L:List Int)(a:Nat):List Int:=
 if(!aQ D a)&&decide (0≤L.getD (aS T a).toNat 0)&&(decide (aS T a=(d:Int))|| !df T (aS T a).toNat)&&(decide (L.getD (bn T a).toNat 0<0)||decide (L.getD (aS T a).toNat 0+cn T a<L.getD (bn T a).toNat 0))
 then L.set (bn T a).toNat (L.getD (aS T a).toNat 0+cn T a) else L
def dC(T:an)(D:List Bool)(d:Nat):List Int:=(List.range T.nodes.toNat).foldl (fun L _=>(List.range (2*T.ae.length)).foldl (JF T D d) L) ((List.replicate T.nodes.toNat (-1)).set d 0)
def F9(T:an)(D:List Bool)(n:Nat)(out:List Int)(a:Nat):Bool:= !aQ D a&&decide (0≤at' out (cU T false a))&&(decide (cU T false a=(n:Int))|| !df T (cU T false a).toNat)
def IG(T:an)(D:List Bool)(n:Nat)(out:List Int):Bool:=
 decide (out.length=T.nodes.toNat)&&decide (at' out (n:Int)=0)&&(List.range T.nodes.toNat).all (fun x=>decide (-1≤at' out (x:Int)))&&
 (List.range (2*T.ae.length)).all (fun a=> !F9 T D n out a||(decide (0≤at' out (fH T false a))&&decide (at' out (fH T false a)≤at' out (cU T false a)+cn T a)))&&
 (List.range T.nodes.toNat).all (fun x=>decide (x=n)||decide (at' out (x:Int)<0)||(List.range (2*T.ae.length)).any fun a=>decide (fH T false a=(x:Int))&&F9 T D n out a&&decide (at' out (x:Int)=at' out (cU T false a)+cn T a))
def nV(T:an)(D:List Bool):Bool:=(List.range T.nodes.toNat).all fun d=>IG T D d (dC T D d)
theorem vI(T:an)(D:List Bool)(n:Nat)(out:List Int)(a:Nat):Net.Way T D n false out a↔F9 T D n out a=true:=by
 unfold Net.Way F9
 simp[and_assoc]
theorem F4{T:an}{D:List Bool}(hv:aq T=true){n:Nat}{out:List Int}(h:IG T D n out=true):iJ T D n false out:=by
 have hN:=(aO hv).nodes
 simp only[IG,Bool.and_eq_true,decide_eq_true_eq,List.all_eq_true,List.mem_range,Bool.or_eq_true,Bool.not_eq_true',List.any_eq_true]at h
 obtain⟨⟨⟨⟨h1,h2⟩,h3⟩,h4⟩,h5⟩:=h
 refine⟨by rw[h1];omega,h2,fun x hx=>h3 x (by omega),fun a ha hw=>?_,fun x hx h0=>?_⟩
 ·rcases h4 a ha with h|h
  ·rw[(vI T D n out a).1 hw]at h;cases h
  ·exact h
 ·rcases h5 x (by omega)with(h|h)|⟨a,ha,⟨h6,h7⟩,h8⟩
  ·exact .inl h
  ·omega
  ·exact .inr ⟨a,ha,h6,(vI T D n out a).2 h7,h8⟩
theorem FT{T:an}{D:List Bool}(hv:aq T=true)(h:nV T D=true){d:Nat}(hd:(d:Int)<T.nodes):bG T D d false=dC T D d:=by
 refine kl (aO hv) (F4 hv ?_)
 simp only[nV,List.all_eq_true,List.mem_range]at h
 exact h d (by omega)
def ld(T:an)(D:List Bool)(n d:Nat):List Int:=if n=d∨(dC T D d).getD n 0<0 then [] else lh T D (dC T D d) ((dC T D d).getD n 0) d (bN T n)
theorem next{T:an}{D:List Bool}(hv:aq T=true)(h:nV T D=true){n d:Nat}(hd:(d:Int)<T.nodes):bI T D n d=ld T D n d:=by
 unfold bI ld;rw[FT hv h hd]
def uY(T:an)(D:List Bool)(d:Nat):Nat→Nat→List Int
 |0,_=>[]
 |f+1,n=>match ld T D n d with
  | []=>[]
  |a::_=>a::uY T D d f (aS T a.toNat).toNat
def qX(T:an)(D:List Bool)(n d:Nat):List Int:=uY T D d ((dC T D d).getD n 0).toNat n
theorem first{T:an}{D:List Bool}(hv:aq T=true)(h:nV T D=true){d:Nat}(hd:(d:Int)<T.nodes):∀f n,fE T D d f n=uY T D d f n
 |0,_=>rfl
 |f+1,n=>by
  simp only[fE,uY,next hv h hd]
  cases ld T D n d with
  |nil=>rfl
  |cons a l=>simp only[first hv h hd f]
theorem JK{T:an}{D:List Bool}(hv:aq T=true)(h:nV T D=true){n d:Nat}(hd:(d:Int)<T.nodes):cu T D n d=qX T D n d:=by
 unfold cu qX dN;rw[FT hv h hd,first hv h hd]
def H2(T:an)(D:List Bool)(s d:Int):Int:=if cq T D s d=0 then(if(dC T D d.toNat).getD s.toNat 0<0 then 11 else 0) else cq T D s d
theorem qo{T:an}{D:List Bool}{s d:Int}(h:cq T D s d=0):(d.toNat:Int)<T.nodes∧0≤d:=by
 obtain⟨_,_,_,h4⟩:=fK h
 rw[aT]at h4
 omega
theorem Ko{T:an}{D:List Bool}(hv:aq T=true)(h:nV T D=true)(s d:Int):gQ T D s d=H2 T D s d:=by
 unfold gQ H2 dN
 by_cases h0:cq T D s d=0
 ·rw[if_pos h0,if_pos h0,FT hv h (qo h0).1]
 ·rw[if_neg h0,if_neg h0]
def za(T:an)(D:List Bool)(d:Nat):Nat→Nat→Int
 |0,m=>if m=d then 1 else 0
 |f+1,m=>if m=d then 1 else(ld T D m d).foldl (fun c a=>min 2 (c+za T D d f (aS T a.toNat).toNat)) 0
theorem lq{T:an}{D:List Bool}(hv:aq T=true)(h:nV T D=true){d:Nat}(hd:(d:Int)<T.nodes):∀f m,mR T D d f m=za T D d f m
 |0,_=>rfl
 |f+1,m=>by
  simp only[mR,za,next hv h hd]
  split
  ·rfl
  ·exact foldl_congr fun c a _=>by rw[lq hv h hd f]
def AZ(T:an)(D:List Bool)(n:Int)(p:List Int)(i j:Nat):Bool:=
 decide ((dC T D (cK T n (p.take j)).toNat).getD (cK T n (p.take i)).toNat 0=dp T (p.take j) - dp T (p.take i))&&(decide (cq T D (cK T n (p.take i)) (cK T n (p.take j))=0)&&decide (za T D (cK T n (p.take j)).toNat ((dC T D (cK T n (p.take j)).toNat).getD (cK T n (p.take i)).toNat 0).toNat (cK T n (p.take i)).toNat=1))
theorem Kn{T:an}{D:List Bool}(hv:aq T=true)(h:nV T D=true)(n:Int)(p:List Int)(i j:Nat):fD T D n p i j=AZ T D n p i j:=by
 unfold fD AZ fR dW dN
 by_cases h0:cq T D (cK T n (p.take i)) (cK T n (p.take j))=0
 ·rw[FT hv h (qo h0).1,lq hv h (qo h0).1]
 ·rw[decide_eq_false h0];simp
def Ds(T:an)(D:List Bool)(n:Int)(p:List Int):Nat→Nat→List bV
 |0,_=>[]
 |f+1,i=>if i<p.length then(match lz (AZ T D n p i) i p.length with
  |some j=>⟨1,cK T n (p.take j)⟩::Ds T D n p f j
  |none=>⟨2,p.getD i 0⟩::Ds T D n p f (i+1)) else []
theorem FJ{T:an}{D:List Bool}(hv:aq T=true)(h:nV T D=true)(n:Int)(p:List Int):∀f i,iE T D n p f i=Ds T D n p f i
 |0,_=>rfl
 |f+1,i=>by
  have:fD T D n p i=AZ T D n p i:=funext fun j=>Kn hv h n p i j
  simp only[iE,Ds,this]
  split
  ·cases lz (AZ T D n p i) i p.length with
   |none=>simp only[FJ hv h n p f]
   |some j=>simp only[FJ hv h n p f]
  ·rfl
def Jd(T:an)(D:List Bool)(n d:Int):iV:=
 if H2 T D n d=0∧n≠d then⟨[(qX T D n.toNat d.toNat).getD 0 0],true,jF (Ds T [] n (qX T D n.toNat d.toNat) (qX T D n.toNat d.toNat).length 0)⟩ else⟨[],false,[]⟩
theorem Eu{T:an}{D:List Bool}(hv:aq T=true)(h0:nV T []=true)(h:nV T D=true)(n d:Int):jS T D n d=Jd T D n d:=by
 unfold jS Jd
 rw[Ko hv h]
 by_cases hd:(d.toNat:Int)<T.nodes
 ·unfold iT
  rw[JK hv h hd,FJ hv h0]
 ·have:¬H2 T D n d=0:=by
   unfold H2
   intro hh
   split at hh
   ·rename_i h1;exact hd (qo h1).1
   ·rename_i h1;exact h1 hh
  rw[if_neg (fun hh=>this hh.1),if_neg (fun hh=>this hh.1)]
def kh(T:an)(a:Nat)(d:Int):Int×Int:=
 if(decide (0<ga T a)&&decide (H2 T (aI T 3 (ga T a)) (bn T a) d=0))=true then(3,ga T a)
 else if(decide (aS T a≠d)&&decide (H2 T (aI T 2 (aS T a)) (bn T a) d=0))=true then(2,aS T a)
 else(1,((a / 2:Nat):Int))
theorem Lx{T:an}(hv:aq T=true){a:Nat}(h3:nV T (aI T 3 (ga T a))=true)(h2:nV T (aI T 2 (aS T a))=true)(d:Int):dt T a d=kh T a d:=by
 unfold dt kh gG
 rw[Ko hv h3,Ko hv h2]
end BL
end PW
end Go.Proofs.YtnegbdpggideiaaGreatDoor
namespace Go.Proofs.YtnegbdpggideiaaGreatDoor
namespace PW
open Go.RowKit cE Mem Net eX
namespace BL
def vb(T:an)(D:List Bool)(n:Nat):db:=⟨n,(List.range T.nodes.toNat).map fun(d:Nat)=>⟨ld T D n d,false,[]⟩,cO D (bN T n)⟩
theorem Dx{T:an}{D:List Bool}(hv:aq T=true)(h:nV T D=true)(n:Nat):dR T D n=vb T D n:=by
 have hN:=(aO hv).nodes
 unfold dR vb oI
 congr 1
 refine List.map_congr_left fun d hd=>?_
 have:=List.mem_range.1 hd
 rw[next hv h (by omega)]
end BL
def vC:List Bool:=[true,true,false,false,false,false,false,false]
theorem mH:BL.nV cV []=true:=by kernel_rfl
def H5:db:=⟨3,[⟨[6],false,[]⟩,⟨[5,6],false,[]⟩,⟨[5],false,[]⟩,⟨[],false,[]⟩],[]⟩
theorem DX:dR cV [] 3=H5:=(BL.Dx kM mH 3).trans (by kernel_rfl)
end PW
end Go.Proofs.YtnegbdpggideiaaGreatDoor
namespace Go.Proofs.YtnegbdpggideiaaGreatDoor
namespace PW
open Go.RowKit cE Mem Net eX
namespace BL
def HU(T:an)(own:List Bool)(n d:Int)(a:Nat):List Bool:=
 if H2 T (orM T (aI T (kh T a d).1 (kh T a d).2) own) n d=0 then orM T (aI T (kh T a d).1 (kh T a d).2) own else own
def Iw(T:an)(own:List Bool)(n d:Nat):iV:=match lx own (ld T [] n d)with
 |none=>⟨ld T [] n d,false,[]⟩
 |some a=>Jd T (HU T own n d a.toNat) n d
def IB(T:an)(own:List Bool)(n d:Nat):Bool:=match lx own (ld T [] n d)with
 |none=>true
 |some a=>nV T (aI T 3 (ga T a.toNat))&&nV T (aI T 2 (aS T a.toNat))&&nV T (orM T (aI T (kh T a.toNat d).1 (kh T a.toNat d).2) own)&&nV T (HU T own n d a.toNat)
theorem rep{T:an}{own:List Bool}{n d:Nat}(hv:aq T=true)(h0:nV T []=true)(hd:(d:Int)<T.nodes)(h:IB T own n d=true):np T own n d=Iw T own n d:=by
 unfold np Iw
 unfold IB at h
 rw[next hv h0 hd]
 cases hh:lx own (ld T [] n d)with
 |none=>rfl
 |some a=>
  rw[hh]at h
  simp only[Bool.and_eq_true]at h
  obtain⟨⟨⟨h1,h2⟩,h3⟩,h4⟩:=h
  have hm:pA T own n d a.toNat=HU T own n d a.toNat:=by
   unfold pA HU gG
   rw[Lx hv h1 h2,Ko hv h3]
   by_cases e:H2 T (orM T (aI T (kh T a.toNat (d:Int)).1 (kh T a.toNat (d:Int)).2) own) n d=0
   ·rw[if_pos (by simpa using e),if_pos e]
   ·rw[if_neg (by simpa using e),if_neg e]
  simp only[]
  rw[hm,Eu hv h0 h4]
def Ap(T:an)(M:List Bool)(n:Nat):db:=⟨n,(List.range T.nodes.toNat).map fun d=>Iw T (fV T M n) n d,cO M (bN T n)⟩
theorem D3{T:an}{M:List Bool}{n:Nat}(hv:aq T=true)(h0:nV T []=true)(h:((List.range T.nodes.toNat).all fun d=>IB T (fV T M n) n d)=true):ra T M n=Ap T M n:=by
 have hN:=(aO hv).nodes
 unfold ra Ap oY
 congr 1
 refine List.map_congr_left fun d hd=>?_
 have hd':=List.mem_range.1 hd
 exact rep hv h0 (by omega) (List.all_eq_true.1 h d hd)
end BL
def H7:db:=⟨0,[⟨[],false,[]⟩,⟨[7],true,[⟨1,3⟩,⟨1,2⟩,⟨1,1⟩]⟩,⟨[7],true,[⟨1,3⟩,⟨1,2⟩]⟩,⟨[7],false,[]⟩],[0]⟩
theorem EI:ra cV vC 0=H7:=(BL.D3 kM mH (by kernel_rfl)).trans (by kernel_rfl)
end PW
end Go.Proofs.YtnegbdpggideiaaGreatDoor
namespace Go.Proofs.YtnegbdpggideiaaGreatDoor
namespace PW
section
open Go.RowKit cE Mem Net Go.WideShapes
structure vP where
 T:an
 k:Int
 x:Int
 S:List Int
 n:Int
 d:Int
def FW(c:vP):List PV:=bC c.T++[num c.k,num c.x,aw c.S,num c.n,num c.d]
def qR(c:vP):PV:=.agg (FW c)
instance (c:vP):aK (FW c):=by unfold FW;unfold bC;simp only[List.cons_append,List.nil_append];infer_instance
instance (c:vP):IsPure (qR c):=by unfold qR;infer_instance
section
variable {H:Type} {enc:TypeId×Value→H} {W:World}
theorem HX{n:Nat}{cs:List Value}{y:DataW H×List MemPlace}(h:DataW.trod enc Tryz.prog W 0 (fun _=>true) true n 33 cs=some y)(hl:cs.length=2):∃k x:Int,cs=[.int .i64 k,.int .i64 x]:=by
 have c3:Tryz.prog.cellsOf 3=1:=by kernel_rfl
 obtain⟨xs,m,_,_,_,hlen,hf⟩:=DataW.trod_struct Tryz.underlying33 h
 match cs,hl with
 | [c0,c1],_=>
  match xs,hlen with
  | [y0,y1],_=>
   have f0:DataW.trod enc Tryz.prog W 0 (fun _=>true) true m 3 (([c0,c1].drop 0).take (Tryz.prog.cellsOf 3))=some y0:=hf 0 _ rfl
   rw[c3]at f0
   have f1:DataW.trod enc Tryz.prog W 0 (fun _=>true) true m 3 (([c0,c1].drop 1).take (Tryz.prog.cellsOf 3))=some y1:=hf 1 _ rfl
   rw[c3]at f1
   obtain⟨a0,h0⟩:=gW f0
   obtain⟨a1,h1⟩:=gW f1
   simp at h0 h1
   subst h0 h1
   exact⟨a0,a1,rfl⟩
theorem Jj{base:Nat}{v:Value}{d:DataW H}{p:List MemPlace}(hv:Value.okWide Tryz.prog W .any base 50 v)(h:DataW.Trod enc Tryz.prog W 0 (fun _=>true) true 50 v d p):∃c:vP,cI EN W v (qR c):=by
 have hC:Tryz.prog.cellsOf 50=8:=by kernel_rfl
 have k_topo:Tryz.prog.cellsOf 25=3:=by kernel_rfl
 have k_comp:Tryz.prog.cellsOf 33=2:=by kernel_rfl
 have k_ints:Tryz.prog.cellsOf 37=1:=by kernel_rfl
 have k_int:Tryz.prog.cellsOf 3=1:=by kernel_rfl
 obtain⟨cs,rfl,hsz⟩:=okWide_struct Tryz.underlying50 hv
 rw[hC]at hsz
 obtain⟨fuel,hf⟩:=h
 obtain⟨cl⟩:=cs
 match cl,hsz with
 | [c0,c1,c2,c3,c4,c5,c6,c7],_=>
  obtain⟨xs,m,_,_,_,hlen,hg⟩:=DataW.trod_struct Tryz.underlying50 hf
  match xs,hlen with
  | [y0,y1,y2,y3,y4],_=>
   have f0:DataW.trod enc Tryz.prog W 0 (fun _=>true) true m 25 (([c0,c1,c2,c3,c4,c5,c6,c7].drop 0).take (Tryz.prog.cellsOf 25))=some y0:=hg 0 _ rfl
   rw[k_topo]at f0
   have f1:DataW.trod enc Tryz.prog W 0 (fun _=>true) true m 33 (([c0,c1,c2,c3,c4,c5,c6,c7].drop 3).take (Tryz.prog.cellsOf 33))=some y1:=hg 1 _ rfl
   rw[k_comp]at f1
   have f2:DataW.trod enc Tryz.prog W 0 (fun _=>true) true m 37 (([c0,c1,c2,c3,c4,c5,c6,c7].drop 5).take (Tryz.prog.cellsOf 37))=some y2:=hg 2 _ rfl
   rw[k_ints]at f2
   have f3:DataW.trod enc Tryz.prog W 0 (fun _=>true) true m 3 (([c0,c1,c2,c3,c4,c5,c6,c7].drop 6).take (Tryz.prog.cellsOf 3))=some y3:=hg 3 _ rfl
   rw[k_int]at f3
   have f4:DataW.trod enc Tryz.prog W 0 (fun _=>true) true m 3 (([c0,c1,c2,c3,c4,c5,c6,c7].drop 7).take (Tryz.prog.cellsOf 3))=some y4:=hg 4 _ rfl
   rw[k_int]at f4
   obtain⟨T,hT⟩:=EC f0 rfl
   obtain⟨k,x,hkx⟩:=HX f1 rfl
   simp only[List.drop,List.take,List.cons.injEq,and_true]at hkx
   obtain⟨rfl,rfl⟩:=hkx
   obtain⟨L2,hL2⟩:=Gu f2
   obtain⟨n3,hn3⟩:=gW f3
   simp at hn3
   subst hn3
   obtain⟨n4,hn4⟩:=gW f4
   simp at hn4
   subst hn4
   have hall:bd EN W [c0,c1,c2,.int .i64 k,.int .i64 x,c5,.int .i64 n3,.int .i64 n4] (FW ⟨T,k,x,L2,n3,n4⟩):=hT.append (bd.cons (.raw _)<|bd.cons (.raw _)<|bd.cons (hL2)<|bd.cons (.raw _)<|bd.cons (.raw _)<|(bd.nil _ _))
   exact⟨⟨T,k,x,L2,n3,n4⟩,.agg _ _ (by simpa using hall.1) (fun i x u h1 h2=>hall.2 i x u (by simpa using h1) h2)⟩
end
end
section
open Go.RowKit cE Mem Net eX
def tooBig(T:an):Bool:=decide ((10:Int)<T.nodes)||decide ((16:Int)<T.ae.length)
theorem Hp{T:an}(h:tooBig T=false):T.nodes≤12∧T.ae.length≤16:=by
 unfold tooBig at h
 simp only[Bool.or_eq_false_iff,decide_eq_false_iff_not]at h
 omega
theorem Bs(L:List Int):Can Tryz.prog 35 [aw L,aw L] (· =flag true):=by
 have h:=Ck L L
 rw[show mV L L=true from decide_eq_true rfl]at h
 exact h
theorem ax.sQ{σ:cg}{i e s n m:Nat}{xs ys:List PV}[aK ys](h:σ[i]? =some (some (.row e s n xs)))(hx:xs=ys)(hn:n=m):ax σ (.own i) (.slice m ys):=by subst hx;subst hn;exact ax.fB h ah.pure
end
end PW
end Go.Proofs.YtnegbdpggideiaaGreatDoor
