/- Texts of the proof, part 11. -/
import Derived.Test.YtnegbdpggideiaaGreatDoorCardMMB10
set_option linter.unusedVariables false
set_option linter.unusedSimpArgs false
set_option maxRecDepth 10000
set_option maxHeartbeats 1000000
namespace Go.Proofs.YtnegbdpggideiaaGreatDoor
namespace PW
open Go.RowKit cB Mem Net
theorem Bh(rs:List (List Int))(i:Nat)(hi:i<rs.length):Can Tryz.prog 204 ([num i]++[.aX [iY rs] 0]) (· =aw (rs.getD i [])):=by
 exact aE Tryz.func204 rfl Tryz.ntmps204 rfl<|ab (.a 1 rfl<|.k [0,1] rfl)<|ab (.a 2 rfl<|.v (aL (i) rfl) rfl<|.v (aN rfl ((show(rs.map aw)[i]? =some (aw (rs.getD i [])) by simp[hi]))) rfl<|.a 1 rfl<|.k [3] rfl)<|aq<|⟨_,_,ay.of rfl,aB.pure,rfl⟩
theorem Bs(T:ai)(a:Nat)(ha:a<2*T.af.length)(hl:T.af.length≤4611686018427387902):Can Tryz.prog 205 ([num a]++[.aX (bx T) 0]) (· =num (aT T a)):=by
 exact aE Tryz.func205 rfl Tryz.ntmps205 rfl<|ab (.a 1 rfl<|.k [0,1] rfl)<|ab (.a 2 rfl<|.c rfl (fH T a ha hl) rfl<|.a 1 rfl<|.k [3] rfl)<|aq<|⟨_,_,ay.of rfl,aB.pure,rfl⟩
theorem DG(T:ai)(D:List Bool)(d:Int):Can Tryz.prog 180 [aP T,aY D,num d] (· =dx (cw T D [d]) (bu T D d.toNat true)):=by
 refine aE Tryz.func180 rfl Tryz.ntmps180 rfl<|ab (.a 3 rfl<|.k [1,2,3] rfl)<|aj<|ab (.a 4 rfl<|.c rfl (ow T D [d] (by simp)) rfl<|.a 1 rfl<|.k [1,2,3,8] rfl)<|ab (.a 2 rfl<|.k [1,2,3,8,17] rfl)<|ah rfl (fun hc=>?_) (fun hc=>?_)
 ·have he:cw T D [d]≠0:=of_decide_eq_true hc
  exact ab (.a 3 rfl<|.k [6,7] rfl)<|aq<|⟨_,_,ay.of rfl,aB.bG (an.cons aB.bZ (an.cons aB.pure an.nil)),by unfold dx;rw[if_neg he];rfl⟩
 ·have he:cw T D [d]=0:=by have:=of_decide_eq_false hc;omega
  have hok:(ao T&&bP T D)=true∧bn T d=true:=by
   unfold cw at he
   split at he
   ·rename_i h1
    split at he
    ·rename_i h2;exact⟨h1,by simpa using h2⟩
    ·omega
   ·omega
  obtain⟨hvf,hnd⟩:=hok
  obtain⟨hv,hf⟩:=Bool.and_eq_true_iff.1 hvf
  have hd:0≤d∧d<T.nodes:=by simpa[bn]using hnd
  obtain⟨n,rfl⟩:=Int.eq_ofNat_of_zero_le hd.1
  have hS:=aK hv
  refine ak<|aQ<|au 1 rfl<|eA rfl (lC T hv) rfl<|au 2 rfl<|aH [1,2,3,9] rfl ?_
  refine aQ<|au 3 rfl<|bE (dM rfl rfl) rfl<|au 4 rfl<|aH [10] rfl ?_
  refine wz (.cons 10 rfl (aB.jk rfl (an.cons aB.pure<|an.cons aB.pure<|an.cons aB.pure<|an.cons aB.pure<|an.cons aB.pure<|an.cons (aB.iw (an.cons (aB.jk rfl (an.cons aB.pure an.nil)) an.nil))<|an.cons aB.pure an.nil)) .nil) ?_
  exact ab (.a 1 rfl<|.c rfl (zN T D n true 204 205 [.aX [iY (dr (bb T) T.nodes.toNat (2*T.af.length))] 0] [.aX (bx T) 0] hv hf hd.2 (by kernel_rfl) (by kernel_rfl) (fun i hi=>by have h:=Bh (dr (bb T) T.nodes.toNat (2*T.af.length)) i (by rw[eM];omega);rw[iL _ _ _ _ (by omega)]at h;exact h) (fun a ha=>Bs T a ha (by have:=bO hv;omega))) rfl<|.a 2 rfl<|.k [6,7] rfl)<|aq<|⟨_,_,ay.of rfl,aB.pure,by unfold dx;rw[if_pos he,he];rfl⟩
end PW
end Go.Proofs.YtnegbdpggideiaaGreatDoor
namespace Go.Proofs.YtnegbdpggideiaaGreatDoor
namespace PW
open Go.RowKit cB Mem Net eW
theorem Ag{P:Program}{N L:Nat}{id:Nat}{l:List Oper}{y:Code}{st:St}{Q:Exit→St→Prop}(t':bY)(σ':cd)(t'':bY)(σ'':cd)(hm:P.follows .mixedOrders=true)(h:WA P N L l.toArray l.length (Array.replicate l.length false) st (fun s=>(s.σ=σ'∧Sub s.t t')∨(s.σ=σ''∧Sub s.t t'')))(hr:W P N L y ⟨t',σ'⟩ Q→W P N L y ⟨t'',σ''⟩ Q)(hq:W P N L y ⟨t',σ'⟩ Q):W P N L (.seq (.region id l.toArray true) y) st Q:=
 om hm (h.mono fun s hs=>by
  obtain⟨t,σ⟩:=s
  rcases hs with⟨h1,h2⟩|⟨h1,h2⟩
  ·subst h1;exact kE h2 hq
  ·subst h1;exact kE h2 (hr hq))
theorem yP(T:ai)(k x:Int):bP T (fP T k x)=true:=by
 unfold fP
 split
 ·exact di T k x
 ·exact j8 T
theorem Ei(T:ai)(k x:Int)(n:Nat)(hv:ao T=true)(hn:(n:Int)<T.nodes):Can Tryz.prog 179 ([bU k x]++[.aX (bx T) 0,.aX [num n] 0]) (· =aw (bu T (fP T k x) n true)):=by
 have hmk:=lq T k x
 unfold iu at hmk
 have hfr:=DG T (fP T k x) n
 have hch:cw T (fP T k x) [(n:Int)]=0:=by
  unfold cw
  rw[hv,yP]
  simp[aV.2 (show 0≤(n:Int)∧(n:Int)<T.nodes by omega)]
 rw[hch]at hfr
 unfold dx at hfr
 rw[if_pos rfl,Int.toNat_natCast]at hfr
 exact aE Tryz.func179 rfl Tryz.ntmps179 rfl<|ab (.a 2 rfl<|.k [1,2,3] rfl)<|ab (.a 2 rfl<|.c rfl (hmk) rfl<|.a 5 rfl<|.k [1,2,5] rfl)<|ab (.a 3 rfl<|.c rfl (hfr) rfl<|.a 5 rfl<|.k [7] rfl)<|ab (.a 2 rfl<|.k [4] rfl)<|aq<|⟨_,_,ay.of rfl,aB.pure,rfl⟩
theorem DI(g:Int)(L:List Int)(d:Nat)(c2:Bool)(hL:0<g→d<L.length∧decide (0≤L.getD d 0)=c2):Can Tryz.prog 181 ([num d]++[.aX (cj 3 g) 0,.aX [aw L] 0]) (· = .tuple [bU 3 g,flag (decide (0<g)&&c2)]):=by
 obtain⟨c1,hc1⟩:∃q,decide (0<g)=q:=⟨_,rfl⟩
 rw[hc1]
 refine aE Tryz.func181 rfl Tryz.ntmps181 rfl<|aQ<|au 2 rfl<|aH [0,1,2,4] rfl ?_
 refine uF (Q1:=fun st=>st=⟨[(4,.ptr 0 0),(5,flag (c1&&c2))],[some (.cells 33 (cj 3 g))]⟩) ?_ ?_
 ·cases c1
  ·refine qw 20 1 ([some (.cells 33 [num 0,num 0])]::[some (.cells 33 (cj 3 g))]::[]) (⟨_,none,0,0⟩::⟨_,none,0,0⟩::⟨_,none,0,0⟩::⟨_,none,0,0⟩::⟨_,none,0,0⟩::⟨_,none,0,1⟩::⟨_,none,0,1⟩::⟨_,none,0,1⟩::⟨_,none,0,1⟩::⟨_,none,0,1⟩::⟨_,none,0,1⟩::⟨_,some 0,0,0⟩::⟨_,none,1,1⟩::[]) _ mixed ?grd1 rfl rfl rfl rfl (.cons (.val [1] rfl rfl (yz (cW (bw rfl) dZ)) rfl rfl)<|.cons (.val [1] rfl rfl (yz (cW (bw rfl) dZ)) rfl rfl)<|.cons (.val [7] rfl rfl (yz (cW (bw rfl) dZ)) rfl rfl)<|.cons (.val [8] rfl rfl (yz (cW (cb rfl (hc1)) dZ)) rfl rfl)<|.cons (.val [9] rfl rfl (yz (cW (bw rfl) dZ)) rfl rfl)<|.cons (.skip rfl rfl rfl)<|.cons (.skip rfl rfl rfl)<|.cons (.skip rfl rfl rfl)<|.cons (.skip rfl rfl rfl)<|.cons (.skip rfl rfl rfl)<|.cons (.val [10,15] rfl rfl (yz (cW (bw rfl) (cW (bw rfl) dZ))) rfl rfl)<|.cons (.lh [4,6] rfl rfl rfl rfl (dI rfl) rfl)<|.cons (.val [16] rfl rfl (yz (cW (bw rfl) dZ)) rfl rfl) .nil) (bd (ks:=[4,5]) rfl) ?_
   case grd1=>kernel_rfl
   rfl
  ·refine qw 20 1 ([some (.cells 33 [num 0,num 0])]::[some (.cells 33 (cj 3 g))]::[]) (⟨_,none,0,0⟩::⟨_,none,0,0⟩::⟨_,none,0,0⟩::⟨_,none,0,0⟩::⟨_,none,0,0⟩::⟨_,none,0,1⟩::⟨_,none,0,1⟩::⟨_,none,0,1⟩::⟨_,none,0,1⟩::⟨_,none,0,1⟩::⟨_,none,0,1⟩::⟨_,some 0,0,0⟩::⟨_,none,1,1⟩::[]) _ mixed ?grd2 rfl rfl rfl rfl (.cons (.val [1] rfl rfl (yz (cW (bw rfl) dZ)) rfl rfl)<|.cons (.val [1] rfl rfl (yz (cW (bw rfl) dZ)) rfl rfl)<|.cons (.val [7] rfl rfl (yz (cW (bw rfl) dZ)) rfl rfl)<|.cons (.val [8] rfl rfl (yz (cW (cb rfl (hc1)) dZ)) rfl rfl)<|.cons (.val [9] rfl rfl (yz (cW (bw rfl) dZ)) rfl rfl)<|.cons (.val [2] rfl rfl (yz (cW (bw rfl) (cW (bw rfl) dZ))) rfl rfl)<|.cons (.val [0] rfl rfl (yz (cW (bw rfl) (cW (bw rfl) dZ))) rfl rfl)<|.cons (.val [11,12] rfl rfl (yz (cW (aL (d) rfl (by omega) (by have:=(hL (tt hc1)).1;omega)) (cW (aL (d) rfl (by omega) (by have:=(hL (tt hc1)).1;omega)) dZ))) rfl rfl)<|.cons (.val [13] rfl rfl (yz (cW (aN rfl (aA L d (hL (tt hc1)).1)) (cW (aN rfl (aA L d (hL (tt hc1)).1)) dZ))) rfl rfl)<|.cons (.val [14] rfl rfl (yz (cW (cb rfl ((hL (tt hc1)).2)) (cW (cb rfl ((hL (tt hc1)).2)) dZ))) rfl rfl)<|.cons (.val [10,15] rfl rfl (yz (cW (bw rfl) (cW (bw rfl) dZ))) rfl rfl)<|.cons (.lh [4,6] rfl rfl rfl rfl (dI rfl) rfl)<|.cons (.val [16] rfl rfl (yz (cW (bw rfl) dZ)) rfl rfl) .nil) (bd (ks:=[4,5]) rfl) ?_
   case grd2=>kernel_rfl
   rfl
 rintro _ rfl
 exact aq<|⟨_,_,ay.of rfl,aB.pure (p:=.tuple [bU 3 g,flag (c1&&c2)]),rfl⟩
theorem Ew(h:Int)(L:List Int)(d:Nat)(c2:Bool)(hd:d<L.length)(hL:decide (0≤L.getD d 0)=c2):Can Tryz.prog 182 ([num d]++[.aX (cj 2 h) 0,.aX [num h] 0,.aX [aw L] 0]) (· = .tuple [bU 2 h,flag (decide (h≠d)&&c2)]):=by
 obtain⟨c1,hc1⟩:∃q,decide ((d:Int)≠h)=q:=⟨_,rfl⟩
 have hc1':decide (h≠(d:Int))=c1:=by rw[←hc1];exact decide_eq_decide.2 ⟨fun e=>e.symm,fun e=>e.symm⟩
 rw[hc1']
 refine aE Tryz.func182 rfl Tryz.ntmps182 rfl<|aQ<|au 2 rfl<|aH [0,1,2,3,5] rfl ?_
 refine uF (Q1:=fun st=>st=⟨[(5,.ptr 0 0),(6,flag (c1&&c2))],[some (.cells 33 (cj 2 h))]⟩) ?_ ?_
 ·cases c1
  ·refine qw 20 1 ([some (.cells 33 [num 0,num 0])]::[some (.cells 33 (cj 2 h))]::[]) (⟨_,none,0,0⟩::⟨_,none,0,0⟩::⟨_,none,0,0⟩::⟨_,none,0,0⟩::⟨_,none,0,0⟩::⟨_,none,0,1⟩::⟨_,none,0,1⟩::⟨_,none,0,1⟩::⟨_,none,0,1⟩::⟨_,none,0,1⟩::⟨_,none,0,1⟩::⟨_,some 0,0,0⟩::⟨_,none,1,1⟩::[]) _ mixed ?grd3 rfl rfl rfl rfl (.cons (.val [1] rfl rfl (yz (cW (bw rfl) dZ)) rfl rfl)<|.cons (.val [0] rfl rfl (yz (cW (bw rfl) dZ)) rfl rfl)<|.cons (.val [2] rfl rfl (yz (cW (bw rfl) dZ)) rfl rfl)<|.cons (.val [8,9] rfl rfl (yz (cW (cb rfl (hc1)) dZ)) rfl rfl)<|.cons (.val [10] rfl rfl (yz (cW (bw rfl) dZ)) rfl rfl)<|.cons (.skip rfl rfl rfl)<|.cons (.skip rfl rfl rfl)<|.cons (.skip rfl rfl rfl)<|.cons (.skip rfl rfl rfl)<|.cons (.skip rfl rfl rfl)<|.cons (.val [11,16] rfl rfl (yz (cW (bw rfl) (cW (bw rfl) dZ))) rfl rfl)<|.cons (.lh [5,7] rfl rfl rfl rfl (dI rfl) rfl)<|.cons (.val [17] rfl rfl (yz (cW (bw rfl) dZ)) rfl rfl) .nil) (bd (ks:=[5,6]) rfl) ?_
   case grd3=>kernel_rfl
   rfl
  ·refine qw 20 1 ([some (.cells 33 [num 0,num 0])]::[some (.cells 33 (cj 2 h))]::[]) (⟨_,none,0,0⟩::⟨_,none,0,0⟩::⟨_,none,0,0⟩::⟨_,none,0,0⟩::⟨_,none,0,0⟩::⟨_,none,0,1⟩::⟨_,none,0,1⟩::⟨_,none,0,1⟩::⟨_,none,0,1⟩::⟨_,none,0,1⟩::⟨_,none,0,1⟩::⟨_,some 0,0,0⟩::⟨_,none,1,1⟩::[]) _ mixed ?grd4 rfl rfl rfl rfl (.cons (.val [1] rfl rfl (yz (cW (bw rfl) dZ)) rfl rfl)<|.cons (.val [0] rfl rfl (yz (cW (bw rfl) dZ)) rfl rfl)<|.cons (.val [2] rfl rfl (yz (cW (bw rfl) dZ)) rfl rfl)<|.cons (.val [8,9] rfl rfl (yz (cW (cb rfl (hc1)) dZ)) rfl rfl)<|.cons (.val [10] rfl rfl (yz (cW (bw rfl) dZ)) rfl rfl)<|.cons (.val [3] rfl rfl (yz (cW (bw rfl) (cW (bw rfl) dZ))) rfl rfl)<|.cons (.val [0] rfl rfl (yz (cW (bw rfl) (cW (bw rfl) dZ))) rfl rfl)<|.cons (.val [12,13] rfl rfl (yz (cW (aL (d) rfl) (cW (aL (d) rfl) dZ))) rfl rfl)<|.cons (.val [14] rfl rfl (yz (cW (aN rfl (aA L d hd)) (cW (aN rfl (aA L d hd)) dZ))) rfl rfl)<|.cons (.val [15] rfl rfl (yz (cW (cb rfl (hL)) (cW (cb rfl (hL)) dZ))) rfl rfl)<|.cons (.val [11,16] rfl rfl (yz (cW (bw rfl) (cW (bw rfl) dZ))) rfl rfl)<|.cons (.lh [5,7] rfl rfl rfl rfl (dI rfl) rfl)<|.cons (.val [17] rfl rfl (yz (cW (bw rfl) dZ)) rfl rfl) .nil) (bd (ks:=[5,6]) rfl) ?_
   case grd4=>kernel_rfl
   rfl
 rintro _ rfl
 exact aq<|⟨_,_,ay.of rfl,aB.pure (p:=.tuple [bU 2 h,flag (c1&&c2)]),rfl⟩
def F2(g:Int)(L:List Int):PV:=.func 181 [.aX (cj 3 g) 0,.aX [aw L] 0]
def F3(h:Int)(L:List Int):PV:=.func 182 [.aX (cj 2 h) 0,.aX [num h] 0,.aX [aw L] 0]
def jS(g h k:Int)(L M:List Int):List PV:=[.aX [.slice 2 [F2 g L,F3 h M]] 0,.aX (cj 1 k) 0]
instance (g:Int) (L:List Int):IsPure (F2 g L):=by unfold F2;infer_instance
instance (g:Int) (L:List Int):IsPure (F3 g L):=by unfold F3;infer_instance
instance (g h k:Int) (L M:List Int):aJ (jS g h k L M):=by unfold jS;infer_instance
theorem DQ(g h k:Int)(L M:List Int)(d:Nat)(c2 c4:Bool)(hL:0<g→d<L.length∧decide (0≤L.getD d 0)=c2)(hd:d<M.length)(hM:decide (0≤M.getD d 0)=c4):Can Tryz.prog 183 ([num d]++jS g h k L M) (· =if(decide (0<g)&&c2)=true then bU 3 g else if(decide (h≠d)&&c4)=true then bU 2 h else bU 1 k):=by
 have h2:=DI g L d c2 hL
 have h3:=Ew h M d c4 hd hM
 obtain⟨o1,ho1⟩:∃o,(decide (0<g)&&c2)=o:=⟨_,rfl⟩
 obtain⟨o2,ho2⟩:∃o,(decide (h≠(d:Int))&&c4)=o:=⟨_,rfl⟩
 rw[ho1]at h2 ⊢
 rw[ho2]at h3 ⊢
 have hrule:∀i,i<2→∃f cap,[F2 g L,F3 h M][i]? =some (.func f cap)∧enters Tryz.prog f=true∧aJ ([num d]++cap)∧Can Tryz.prog f ([num d]++cap) (· = .tuple [if i=0 then bU 3 g else bU 2 h,flag (if i=0 then o1 else o2)]):=fun i hi=>by
  match i,hi with
  |0,_=>exact⟨_,_,rfl,by kernel_rfl,inferInstance,h2⟩
  |1,_=>exact⟨_,_,rfl,by kernel_rfl,inferInstance,h3⟩
 unfold jS
 refine aE Tryz.func183 rfl Tryz.ntmps183 rfl<|aQ<|au 1 rfl<|aH [0,1,2,4] rfl ?_
 refine aj<|ab (.a 3 rfl<|.k [0,2,4,9,10,11] rfl)<|av<|ft [0,2,4,9,10,11] rfl<|br (fun r s=>∃i,i≤2∧r=2 - i∧(1≤i→o1=false)∧(i=2→o2=false)∧s=⟨[(0,num d),(2,.aX (cj 1 k) 0),(4,.ptr 0 0),(9,.slice 2 [F2 g L,F3 h M]),(10,num 2),(11,num i)],[some (.cells 33 [num 0,num 0])]⟩) 2 ⟨0,by omega,by omega,fun h=>by omega,fun h=>by omega,rfl⟩ ?_
 rintro r s ⟨i,hi,rfl,hi1,hi2,rfl⟩
 refine ab (.a 1 rfl<|.k [0,2,4,9,10,11,12] rfl)<|aj<|ah rfl (fun h1=>?_) (fun h1=>?_)
 ·have hlt:i<2:=by have:=tt h1;omega
  obtain⟨f,cap,hf,hen,hpu,hcan⟩:=hrule i hlt
  obtain⟨kx,kn,hkx⟩:∃kx kn,(if i=0 then bU 3 g else bU 2 h)=bU kx kn:=by
   split
   ·exact⟨_,_,rfl⟩
   ·exact⟨_,_,rfl⟩
  obtain⟨o,ho⟩:∃o,(if i=0 then o1 else o2)=o:=⟨_,rfl⟩
  rw[ho,hkx]at hcan
  haveI:=hpu
  refine ak<|aj<|av<|ab (.v (aL (i) rfl) rfl<|.v (aN rfl (hf)) rfl<|.a 1 rfl<|.k [0,2,4,6,9,10,11] rfl)<|aQ<|au 2 rfl<|bE (qJ rfl hen rfl rfl hcan) rfl<|au 6 rfl<|aH [0,2,4,7,8,9,10,11] rfl ?_
  refine ab (.a 1 rfl<|.k [0,2,4,7,9,10,11,21] rfl)<|ah rfl (fun h2=>?_) (fun h2=>?_)
  ·subst h2
   refine aQ<|au 2 rfl<|aH [4] rfl ?_
   refine aq<|⟨_,_,ay.of rfl,aB.pure (p:=bU kx kn),?_⟩
   rw[←hkx]
   by_cases e:i=0
   ·rw[if_pos e]at ho ⊢
    rw[if_pos ho]
   ·rw[if_neg e]at ho ⊢
    rw[if_neg (by rw[hi1 (by omega)];simp),if_pos ho]
  ·subst h2
   refine ak<|cZ [0] (.c 0<|.c 2<|.c 4<|.c 9<|.c 10<|.c 11<|.nil) (.kept rfl (.cells aD.pure)<|.nil) rfl rfl ?_
   refine az (.v (aS rfl) rfl<|.a 1 rfl<|.k [0,2,4,9,10,11] rfl) ?_
   refine⟨2 - (i+1),by omega,i+1,by omega,rfl,fun _=>?_,fun e=>?_,rfl⟩
   ·by_cases e:i=0
    ·rw[if_pos e]at ho;exact ho
    ·exact hi1 (by omega)
   ·rw[if_neg (by omega)]at ho;exact ho
 ·have hie:i=2:=by have:=ff h1;omega
  subst hie
  rw[if_neg (by rw[hi1 (by omega)];simp),if_neg (by rw[hi2 rfl];simp)]
  refine bg<|aQ<|au 2 rfl<|aH [4] rfl ?_
  exact aq<|⟨_,_,ay.of rfl,aB.pure (p:=bU 1 k),rfl⟩
noncomputable def Hd(T:ai)(a:Nat):List Int:=if 0<fK T a then bu T (fP T 3 (fK T a)) (bb T a).toNat true else []
noncomputable def Hc(T:ai)(a:Nat):List Int:=bu T (fP T 2 (aT T a)) (bb T a).toNat true
set_option maxHeartbeats 4000000 in
theorem xw(T:ai)(a:Nat)(hv:ao T=true)(ha:a<2*T.af.length):Can Tryz.prog 155 [aP T,num a] (· = .func 183 (jS (fK T a) (aT T a) ((a / 2:Nat):Int) (Hd T a) (Hc T a))):=by
 have hll:=bO hv
 have hi:a / 2<T.af.length:=by omega
 have hS:=aK hv
 have htl:=iT T a ha
 have hhd:=fH T a ha (by omega)
 obtain⟨n,hn⟩:=Int.eq_ofNat_of_zero_le (hS.tail a ha).1
 have hnN:(n:Int)<T.nodes:=by rw[←hn];exact(hS.tail a ha).2
 have hL:Hd T a=if 0<fK T a then bu T (fP T 3 (fK T a)) n true else []:=by unfold Hd;rw[hn,Int.toNat_natCast]
 have hM:Hc T a=bu T (fP T 2 (aT T a)) n true:=by unfold Hc;rw[hn,Int.toNat_natCast]
 rw[hn]at htl
 obtain⟨h,hh⟩:∃h,aT T a=h:=⟨_,rfl⟩
 obtain⟨g,hg⟩:∃g,fK T a=g:=⟨_,rfl⟩
 have hgl:(cu T.af (a / 2)).tm=g:=hg
 rw[hh]at hhd hM
 rw[hg]at hL
 rw[hL,hM,hh,hg]
 have h1:=fun k x=>Ei T k x n hv hnN
 obtain⟨c1,hc1⟩:∃q,decide (0<g)=q:=⟨_,rfl⟩
 refine aE Tryz.func155 rfl Tryz.ntmps155 rfl<|ab (.a 2 rfl<|.k [1,2] rfl)<|Ag ([(1,num a),(2,.aX (bx T) 0),(5,.ptr 0 0),(6,.ptr 1 0)]) ([some (.cells 3 [num n]),some (.cells 3 [num h])]) ([(1,num a),(2,.aX (bx T) 0),(5,.ptr 1 0),(6,.ptr 0 0)]) ([some (.cells 3 [num h]),some (.cells 3 [num n])]) mixed ?_ (fun hh=>cZ [1,0] (.c 1<|.c 2<|.c 5<|.c 6<|.nil) (.kept rfl (.cells aD.pure)<|.kept rfl (.cells aD.pure)<|.nil) rfl rfl hh) ?_
 ·refine tQ [[(1,num a),(2,.aX (bx T) 0),(14,aP T),(15,num a),(16,num n),(17,aP T),(18,num a),(19,num h)],[(1,num a),(2,.aX (bx T) 0),(5,.ptr 0 0),(14,aP T),(15,num a),(16,num n),(17,aP T),(18,num a),(19,num h)],[(1,num a),(2,.aX (bx T) 0),(6,.ptr 0 0),(14,aP T),(15,num a),(16,num n),(17,aP T),(18,num a),(19,num h)],[(1,num a),(2,.aX (bx T) 0),(5,.ptr 0 0),(6,.ptr 1 0),(14,aP T),(15,num a),(16,num n),(17,aP T),(18,num a),(19,num h)],[(1,num a),(2,.aX (bx T) 0),(5,.ptr 1 0),(6,.ptr 0 0),(14,aP T),(15,num a),(16,num n),(17,aP T),(18,num a),(19,num h)]] [[],[some (.cells 3 [num n]),some (.cells 3 [num h])],[some (.cells 3 [num n]),some (.cells 3 [num 0])],[some (.cells 3 [num 0]),some (.cells 3 [num 0])],[some (.cells 3 [num 0])],[some (.cells 3 [num h]),some (.cells 3 [num n])],[some (.cells 3 [num 0]),some (.cells 3 [num n])]] [1,2] rfl (by kernel_rfl) (fun M hi ho=>?_)
  have μ0:M 0 1023 3 [1,2,5,6] 1:=hi<|qF rfl (by kernel_rfl) (.inl ⟨rfl,bd (ks:=[1,2,5,6]) rfl⟩)
  have μ1:M 1 511 3 [1,2,5,6,19] 2:=hi<|aa [(9,1023)] rfl (by kernel_rfl)<|oe rfl rfl (dI rfl) rfl rfl (ho μ0) rfl rfl ae
  have μ2:M 2 255 3 [1,2,5,6,16,19] 3:=hi<|aa [(8,511)] rfl (by kernel_rfl)<|oe rfl rfl (dI rfl) rfl rfl (ho μ1) rfl rfl ae
  have μ3:M 3 127 1 [1,2,5,16,19] 4:=hi<|aa [(7,255)] rfl (by kernel_rfl)<|bW rfl rfl (dI rfl) rfl (ho μ2) rfl rfl ae
  have μ4:M 0 1023 4 [1,2,5,6] 5:=hi<|qF rfl (by kernel_rfl) (.inr ⟨rfl,bd (ks:=[1,2,5,6]) rfl⟩)
  have μ5:M 1 511 4 [1,2,5,6,19] 6:=hi<|aa [(9,1023)] rfl (by kernel_rfl)<|oe rfl rfl (dI rfl) rfl rfl (ho μ4) rfl rfl ae
  have μ6:M 2 255 4 [1,2,5,6,16,19] 3:=hi<|aa [(8,511)] rfl (by kernel_rfl)<|oe rfl rfl (dI rfl) rfl rfl (ho μ5) rfl rfl ae
  have μ7:M 3 191 2 [1,2,6,16,19] 4:=hi<|aa [(6,255)] rfl (by kernel_rfl)<|bW rfl rfl (dI rfl) rfl (ho μ6) rfl rfl ae
  have μ8:M 4 63 0 [1,2,16,19] 0:=hi<|aa [(6,127),(7,191)] rfl (by kernel_rfl)<|bW rfl rfl (dI rfl) rfl (ho μ3) rfl rfl<|bW rfl rfl (dI rfl) rfl (ho μ7) rfl rfl ae
  have μ9:M 3 223 3 [1,2,5,6,16,17,18] 3:=hi<|aa [(5,255)] rfl (by kernel_rfl)<|bf rfl rfl (dR rfl (hhd)) rfl (ho μ2) rfl rfl ae
  have μ10:M 4 95 1 [1,2,5,16,17,18] 4:=hi<|aa [(5,127),(7,223)] rfl (by kernel_rfl)<|bf rfl rfl (dR rfl (hhd)) rfl (ho μ3) rfl rfl<|bW rfl rfl (dI rfl) rfl (ho μ9) rfl rfl ae
  have μ11:M 3 223 4 [1,2,5,6,16,17,18] 3:=hi<|aa [(5,255)] rfl (by kernel_rfl)<|bf rfl rfl (dR rfl (hhd)) rfl (ho μ6) rfl rfl ae
  have μ12:M 4 159 2 [1,2,6,16,17,18] 4:=hi<|aa [(5,191),(6,223)] rfl (by kernel_rfl)<|bf rfl rfl (dR rfl (hhd)) rfl (ho μ7) rfl rfl<|bW rfl rfl (dI rfl) rfl (ho μ11) rfl rfl ae
  have μ13:M 5 31 0 [1,2,16,17,18] 0:=hi<|aa [(5,63),(6,95),(7,159)] rfl (by kernel_rfl)<|bf rfl rfl (dR rfl (hhd)) rfl (ho μ8) rfl rfl<|bW rfl rfl (dI rfl) rfl (ho μ10) rfl rfl<|bW rfl rfl (dI rfl) rfl (ho μ12) rfl rfl ae
  have μ14:M 4 207 3 [1,2,5,6,16,17] 3:=hi<|aa [(4,223)] rfl (by kernel_rfl)<|ag (ho μ9) rfl rfl ae
  have μ15:M 5 79 1 [1,2,5,16,17] 4:=hi<|aa [(4,95),(7,207)] rfl (by kernel_rfl)<|ag (ho μ10) rfl rfl<|bW rfl rfl (dI rfl) rfl (ho μ14) rfl rfl ae
  have μ16:M 4 207 4 [1,2,5,6,16,17] 3:=hi<|aa [(4,223)] rfl (by kernel_rfl)<|ag (ho μ11) rfl rfl ae
  have μ17:M 5 143 2 [1,2,6,16,17] 4:=hi<|aa [(4,159),(6,207)] rfl (by kernel_rfl)<|ag (ho μ12) rfl rfl<|bW rfl rfl (dI rfl) rfl (ho μ16) rfl rfl ae
  have μ18:M 6 15 0 [1,2,16,17] 0:=hi<|aa [(4,31),(6,79),(7,143)] rfl (by kernel_rfl)<|ag (ho μ13) rfl rfl<|bW rfl rfl (dI rfl) rfl (ho μ15) rfl rfl<|bW rfl rfl (dI rfl) rfl (ho μ17) rfl rfl ae
  have μ19:M 4 215 3 [1,2,5,6,16,18] 3:=hi<|aa [(3,223)] rfl (by kernel_rfl)<|ag (ho μ9) rfl rfl ae
  have μ20:M 5 87 1 [1,2,5,16,18] 4:=hi<|aa [(3,95),(7,215)] rfl (by kernel_rfl)<|ag (ho μ10) rfl rfl<|bW rfl rfl (dI rfl) rfl (ho μ19) rfl rfl ae
  have μ21:M 4 215 4 [1,2,5,6,16,18] 3:=hi<|aa [(3,223)] rfl (by kernel_rfl)<|ag (ho μ11) rfl rfl ae
  have μ22:M 5 151 2 [1,2,6,16,18] 4:=hi<|aa [(3,159),(6,215)] rfl (by kernel_rfl)<|ag (ho μ12) rfl rfl<|bW rfl rfl (dI rfl) rfl (ho μ21) rfl rfl ae
  have μ23:M 6 23 0 [1,2,16,18] 0:=hi<|aa [(3,31),(6,87),(7,151)] rfl (by kernel_rfl)<|ag (ho μ13) rfl rfl<|bW rfl rfl (dI rfl) rfl (ho μ20) rfl rfl<|bW rfl rfl (dI rfl) rfl (ho μ22) rfl rfl ae
  have μ24:M 5 199 3 [1,2,5,6,16] 3:=hi<|aa [(3,207),(4,215)] rfl (by kernel_rfl)<|ag (ho μ14) rfl rfl<|ag (ho μ19) rfl rfl ae
  have μ25:M 6 71 1 [1,2,5,16] 4:=hi<|aa [(3,79),(4,87),(7,199)] rfl (by kernel_rfl)<|ag (ho μ15) rfl rfl<|ag (ho μ20) rfl rfl<|bW rfl rfl (dI rfl) rfl (ho μ24) rfl rfl ae
  have μ26:M 5 199 4 [1,2,5,6,16] 3:=hi<|aa [(3,207),(4,215)] rfl (by kernel_rfl)<|ag (ho μ16) rfl rfl<|ag (ho μ21) rfl rfl ae
  have μ27:M 6 135 2 [1,2,6,16] 4:=hi<|aa [(3,143),(4,151),(6,199)] rfl (by kernel_rfl)<|ag (ho μ17) rfl rfl<|ag (ho μ22) rfl rfl<|bW rfl rfl (dI rfl) rfl (ho μ26) rfl rfl ae
  have μ28:M 7 7 0 [1,2,16] 0:=hi<|aa [(3,15),(4,23),(6,71),(7,135)] rfl (by kernel_rfl)<|ag (ho μ18) rfl rfl<|ag (ho μ23) rfl rfl<|bW rfl rfl (dI rfl) rfl (ho μ25) rfl rfl<|bW rfl rfl (dI rfl) rfl (ho μ27) rfl rfl ae
  have μ29:M 4 219 3 [1,2,5,6,14,15,17,18] 3:=hi<|aa [(2,223)] rfl (by kernel_rfl)<|bf rfl rfl (dR rfl (htl)) rfl (ho μ9) rfl rfl ae
  have μ30:M 5 91 1 [1,2,5,14,15,17,18] 4:=hi<|aa [(2,95),(7,219)] rfl (by kernel_rfl)<|bf rfl rfl (dR rfl (htl)) rfl (ho μ10) rfl rfl<|bW rfl rfl (dI rfl) rfl (ho μ29) rfl rfl ae
  have μ31:M 4 219 4 [1,2,5,6,14,15,17,18] 3:=hi<|aa [(2,223)] rfl (by kernel_rfl)<|bf rfl rfl (dR rfl (htl)) rfl (ho μ11) rfl rfl ae
  have μ32:M 5 155 2 [1,2,6,14,15,17,18] 4:=hi<|aa [(2,159),(6,219)] rfl (by kernel_rfl)<|bf rfl rfl (dR rfl (htl)) rfl (ho μ12) rfl rfl<|bW rfl rfl (dI rfl) rfl (ho μ31) rfl rfl ae
  have μ33:M 6 27 0 [1,2,14,15,17,18] 0:=hi<|aa [(2,31),(6,91),(7,155)] rfl (by kernel_rfl)<|bf rfl rfl (dR rfl (htl)) rfl (ho μ13) rfl rfl<|bW rfl rfl (dI rfl) rfl (ho μ30) rfl rfl<|bW rfl rfl (dI rfl) rfl (ho μ32) rfl rfl ae
  have μ34:M 5 203 3 [1,2,5,6,14,15,17] 3:=hi<|aa [(2,207),(4,219)] rfl (by kernel_rfl)<|bf rfl rfl (dR rfl (htl)) rfl (ho μ14) rfl rfl<|ag (ho μ29) rfl rfl ae
  have μ35:M 6 75 1 [1,2,5,14,15,17] 4:=hi<|aa [(2,79),(4,91),(7,203)] rfl (by kernel_rfl)<|bf rfl rfl (dR rfl (htl)) rfl (ho μ15) rfl rfl<|ag (ho μ30) rfl rfl<|bW rfl rfl (dI rfl) rfl (ho μ34) rfl rfl ae
  have μ36:M 5 203 4 [1,2,5,6,14,15,17] 3:=hi<|aa [(2,207),(4,219)] rfl (by kernel_rfl)<|bf rfl rfl (dR rfl (htl)) rfl (ho μ16) rfl rfl<|ag (ho μ31) rfl rfl ae
  have μ37:M 6 139 2 [1,2,6,14,15,17] 4:=hi<|aa [(2,143),(4,155),(6,203)] rfl (by kernel_rfl)<|bf rfl rfl (dR rfl (htl)) rfl (ho μ17) rfl rfl<|ag (ho μ32) rfl rfl<|bW rfl rfl (dI rfl) rfl (ho μ36) rfl rfl ae
  have μ38:M 7 11 0 [1,2,14,15,17] 0:=hi<|aa [(2,15),(4,27),(6,75),(7,139)] rfl (by kernel_rfl)<|bf rfl rfl (dR rfl (htl)) rfl (ho μ18) rfl rfl<|ag (ho μ33) rfl rfl<|bW rfl rfl (dI rfl) rfl (ho μ35) rfl rfl<|bW rfl rfl (dI rfl) rfl (ho μ37) rfl rfl ae
  have μ39:M 5 211 3 [1,2,5,6,14,15,18] 3:=hi<|aa [(2,215),(3,219)] rfl (by kernel_rfl)<|bf rfl rfl (dR rfl (htl)) rfl (ho μ19) rfl rfl<|ag (ho μ29) rfl rfl ae
  have μ40:M 6 83 1 [1,2,5,14,15,18] 4:=hi<|aa [(2,87),(3,91),(7,211)] rfl (by kernel_rfl)<|bf rfl rfl (dR rfl (htl)) rfl (ho μ20) rfl rfl<|ag (ho μ30) rfl rfl<|bW rfl rfl (dI rfl) rfl (ho μ39) rfl rfl ae
  have μ41:M 5 211 4 [1,2,5,6,14,15,18] 3:=hi<|aa [(2,215),(3,219)] rfl (by kernel_rfl)<|bf rfl rfl (dR rfl (htl)) rfl (ho μ21) rfl rfl<|ag (ho μ31) rfl rfl ae
  have μ42:M 6 147 2 [1,2,6,14,15,18] 4:=hi<|aa [(2,151),(3,155),(6,211)] rfl (by kernel_rfl)<|bf rfl rfl (dR rfl (htl)) rfl (ho μ22) rfl rfl<|ag (ho μ32) rfl rfl<|bW rfl rfl (dI rfl) rfl (ho μ41) rfl rfl ae
  have μ43:M 7 19 0 [1,2,14,15,18] 0:=hi<|aa [(2,23),(3,27),(6,83),(7,147)] rfl (by kernel_rfl)<|bf rfl rfl (dR rfl (htl)) rfl (ho μ23) rfl rfl<|ag (ho μ33) rfl rfl<|bW rfl rfl (dI rfl) rfl (ho μ40) rfl rfl<|bW rfl rfl (dI rfl) rfl (ho μ42) rfl rfl ae
  have μ44:M 6 195 3 [1,2,5,6,14,15] 3:=hi<|aa [(2,199),(3,203),(4,211)] rfl (by kernel_rfl)<|bf rfl rfl (dR rfl (htl)) rfl (ho μ24) rfl rfl<|ag (ho μ34) rfl rfl<|ag (ho μ39) rfl rfl ae
  have μ45:M 7 67 1 [1,2,5,14,15] 4:=hi<|aa [(2,71),(3,75),(4,83),(7,195)] rfl (by kernel_rfl)<|bf rfl rfl (dR rfl (htl)) rfl (ho μ25) rfl rfl<|ag (ho μ35) rfl rfl<|ag (ho μ40) rfl rfl<|bW rfl rfl (dI rfl) rfl (ho μ44) rfl rfl ae
  have μ46:M 6 195 4 [1,2,5,6,14,15] 3:=hi<|aa [(2,199),(3,203),(4,211)] rfl (by kernel_rfl)<|bf rfl rfl (dR rfl (htl)) rfl (ho μ26) rfl rfl<|ag (ho μ36) rfl rfl<|ag (ho μ41) rfl rfl ae
  have μ47:M 7 131 2 [1,2,6,14,15] 4:=hi<|aa [(2,135),(3,139),(4,147),(6,195)] rfl (by kernel_rfl)<|bf rfl rfl (dR rfl (htl)) rfl (ho μ27) rfl rfl<|ag (ho μ37) rfl rfl<|ag (ho μ42) rfl rfl<|bW rfl rfl (dI rfl) rfl (ho μ46) rfl rfl ae
  have μ48:M 8 3 0 [1,2,14,15] 0:=hi<|aa [(2,7),(3,11),(4,19),(6,67),(7,131)] rfl (by kernel_rfl)<|bf rfl rfl (dR rfl (htl)) rfl (ho μ28) rfl rfl<|ag (ho μ38) rfl rfl<|ag (ho μ43) rfl rfl<|bW rfl rfl (dI rfl) rfl (ho μ45) rfl rfl<|bW rfl rfl (dI rfl) rfl (ho μ47) rfl rfl ae
  have μ49:M 5 217 3 [1,2,5,6,14,17,18] 3:=hi<|aa [(1,219)] rfl (by kernel_rfl)<|ag (ho μ29) rfl rfl ae
  have μ50:M 6 89 1 [1,2,5,14,17,18] 4:=hi<|aa [(1,91),(7,217)] rfl (by kernel_rfl)<|ag (ho μ30) rfl rfl<|bW rfl rfl (dI rfl) rfl (ho μ49) rfl rfl ae
  have μ51:M 5 217 4 [1,2,5,6,14,17,18] 3:=hi<|aa [(1,219)] rfl (by kernel_rfl)<|ag (ho μ31) rfl rfl ae
  have μ52:M 6 153 2 [1,2,6,14,17,18] 4:=hi<|aa [(1,155),(6,217)] rfl (by kernel_rfl)<|ag (ho μ32) rfl rfl<|bW rfl rfl (dI rfl) rfl (ho μ51) rfl rfl ae
  have μ53:M 7 25 0 [1,2,14,17,18] 0:=hi<|aa [(1,27),(6,89),(7,153)] rfl (by kernel_rfl)<|ag (ho μ33) rfl rfl<|bW rfl rfl (dI rfl) rfl (ho μ50) rfl rfl<|bW rfl rfl (dI rfl) rfl (ho μ52) rfl rfl ae
  have μ54:M 6 201 3 [1,2,5,6,14,17] 3:=hi<|aa [(1,203),(4,217)] rfl (by kernel_rfl)<|ag (ho μ34) rfl rfl<|ag (ho μ49) rfl rfl ae
  have μ55:M 7 73 1 [1,2,5,14,17] 4:=hi<|aa [(1,75),(4,89),(7,201)] rfl (by kernel_rfl)<|ag (ho μ35) rfl rfl<|ag (ho μ50) rfl rfl<|bW rfl rfl (dI rfl) rfl (ho μ54) rfl rfl ae
  have μ56:M 6 201 4 [1,2,5,6,14,17] 3:=hi<|aa [(1,203),(4,217)] rfl (by kernel_rfl)<|ag (ho μ36) rfl rfl<|ag (ho μ51) rfl rfl ae
  have μ57:M 7 137 2 [1,2,6,14,17] 4:=hi<|aa [(1,139),(4,153),(6,201)] rfl (by kernel_rfl)<|ag (ho μ37) rfl rfl<|ag (ho μ52) rfl rfl<|bW rfl rfl (dI rfl) rfl (ho μ56) rfl rfl ae
  have μ58:M 8 9 0 [1,2,14,17] 0:=hi<|aa [(1,11),(4,25),(6,73),(7,137)] rfl (by kernel_rfl)<|ag (ho μ38) rfl rfl<|ag (ho μ53) rfl rfl<|bW rfl rfl (dI rfl) rfl (ho μ55) rfl rfl<|bW rfl rfl (dI rfl) rfl (ho μ57) rfl rfl ae
  have μ59:M 6 209 3 [1,2,5,6,14,18] 3:=hi<|aa [(1,211),(3,217)] rfl (by kernel_rfl)<|ag (ho μ39) rfl rfl<|ag (ho μ49) rfl rfl ae
  have μ60:M 7 81 1 [1,2,5,14,18] 4:=hi<|aa [(1,83),(3,89),(7,209)] rfl (by kernel_rfl)<|ag (ho μ40) rfl rfl<|ag (ho μ50) rfl rfl<|bW rfl rfl (dI rfl) rfl (ho μ59) rfl rfl ae
  have μ61:M 6 209 4 [1,2,5,6,14,18] 3:=hi<|aa [(1,211),(3,217)] rfl (by kernel_rfl)<|ag (ho μ41) rfl rfl<|ag (ho μ51) rfl rfl ae
  have μ62:M 7 145 2 [1,2,6,14,18] 4:=hi<|aa [(1,147),(3,153),(6,209)] rfl (by kernel_rfl)<|ag (ho μ42) rfl rfl<|ag (ho μ52) rfl rfl<|bW rfl rfl (dI rfl) rfl (ho μ61) rfl rfl ae
  have μ63:M 8 17 0 [1,2,14,18] 0:=hi<|aa [(1,19),(3,25),(6,81),(7,145)] rfl (by kernel_rfl)<|ag (ho μ43) rfl rfl<|ag (ho μ53) rfl rfl<|bW rfl rfl (dI rfl) rfl (ho μ60) rfl rfl<|bW rfl rfl (dI rfl) rfl (ho μ62) rfl rfl ae
  have μ64:M 7 193 3 [1,2,5,6,14] 3:=hi<|aa [(1,195),(3,201),(4,209)] rfl (by kernel_rfl)<|ag (ho μ44) rfl rfl<|ag (ho μ54) rfl rfl<|ag (ho μ59) rfl rfl ae
  have μ65:M 8 65 1 [1,2,5,14] 4:=hi<|aa [(1,67),(3,73),(4,81),(7,193)] rfl (by kernel_rfl)<|ag (ho μ45) rfl rfl<|ag (ho μ55) rfl rfl<|ag (ho μ60) rfl rfl<|bW rfl rfl (dI rfl) rfl (ho μ64) rfl rfl ae
  have μ66:M 7 193 4 [1,2,5,6,14] 3:=hi<|aa [(1,195),(3,201),(4,209)] rfl (by kernel_rfl)<|ag (ho μ46) rfl rfl<|ag (ho μ56) rfl rfl<|ag (ho μ61) rfl rfl ae
  have μ67:M 8 129 2 [1,2,6,14] 4:=hi<|aa [(1,131),(3,137),(4,145),(6,193)] rfl (by kernel_rfl)<|ag (ho μ47) rfl rfl<|ag (ho μ57) rfl rfl<|ag (ho μ62) rfl rfl<|bW rfl rfl (dI rfl) rfl (ho μ66) rfl rfl ae
  have μ68:M 9 1 0 [1,2,14] 0:=hi<|aa [(1,3),(3,9),(4,17),(6,65),(7,129)] rfl (by kernel_rfl)<|ag (ho μ48) rfl rfl<|ag (ho μ58) rfl rfl<|ag (ho μ63) rfl rfl<|bW rfl rfl (dI rfl) rfl (ho μ65) rfl rfl<|bW rfl rfl (dI rfl) rfl (ho μ67) rfl rfl ae
  have μ69:M 5 218 3 [1,2,5,6,15,17,18] 3:=hi<|aa [(0,219)] rfl (by kernel_rfl)<|ag (ho μ29) rfl rfl ae
  have μ70:M 6 90 1 [1,2,5,15,17,18] 4:=hi<|aa [(0,91),(7,218)] rfl (by kernel_rfl)<|ag (ho μ30) rfl rfl<|bW rfl rfl (dI rfl) rfl (ho μ69) rfl rfl ae
  have μ71:M 5 218 4 [1,2,5,6,15,17,18] 3:=hi<|aa [(0,219)] rfl (by kernel_rfl)<|ag (ho μ31) rfl rfl ae
  have μ72:M 6 154 2 [1,2,6,15,17,18] 4:=hi<|aa [(0,155),(6,218)] rfl (by kernel_rfl)<|ag (ho μ32) rfl rfl<|bW rfl rfl (dI rfl) rfl (ho μ71) rfl rfl ae
  have μ73:M 7 26 0 [1,2,15,17,18] 0:=hi<|aa [(0,27),(6,90),(7,154)] rfl (by kernel_rfl)<|ag (ho μ33) rfl rfl<|bW rfl rfl (dI rfl) rfl (ho μ70) rfl rfl<|bW rfl rfl (dI rfl) rfl (ho μ72) rfl rfl ae
  have μ74:M 6 202 3 [1,2,5,6,15,17] 3:=hi<|aa [(0,203),(4,218)] rfl (by kernel_rfl)<|ag (ho μ34) rfl rfl<|ag (ho μ69) rfl rfl ae
  have μ75:M 7 74 1 [1,2,5,15,17] 4:=hi<|aa [(0,75),(4,90),(7,202)] rfl (by kernel_rfl)<|ag (ho μ35) rfl rfl<|ag (ho μ70) rfl rfl<|bW rfl rfl (dI rfl) rfl (ho μ74) rfl rfl ae
  have μ76:M 6 202 4 [1,2,5,6,15,17] 3:=hi<|aa [(0,203),(4,218)] rfl (by kernel_rfl)<|ag (ho μ36) rfl rfl<|ag (ho μ71) rfl rfl ae
  have μ77:M 7 138 2 [1,2,6,15,17] 4:=hi<|aa [(0,139),(4,154),(6,202)] rfl (by kernel_rfl)<|ag (ho μ37) rfl rfl<|ag (ho μ72) rfl rfl<|bW rfl rfl (dI rfl) rfl (ho μ76) rfl rfl ae
  have μ78:M 8 10 0 [1,2,15,17] 0:=hi<|aa [(0,11),(4,26),(6,74),(7,138)] rfl (by kernel_rfl)<|ag (ho μ38) rfl rfl<|ag (ho μ73) rfl rfl<|bW rfl rfl (dI rfl) rfl (ho μ75) rfl rfl<|bW rfl rfl (dI rfl) rfl (ho μ77) rfl rfl ae
  have μ79:M 6 210 3 [1,2,5,6,15,18] 3:=hi<|aa [(0,211),(3,218)] rfl (by kernel_rfl)<|ag (ho μ39) rfl rfl<|ag (ho μ69) rfl rfl ae
  have μ80:M 7 82 1 [1,2,5,15,18] 4:=hi<|aa [(0,83),(3,90),(7,210)] rfl (by kernel_rfl)<|ag (ho μ40) rfl rfl<|ag (ho μ70) rfl rfl<|bW rfl rfl (dI rfl) rfl (ho μ79) rfl rfl ae
  have μ81:M 6 210 4 [1,2,5,6,15,18] 3:=hi<|aa [(0,211),(3,218)] rfl (by kernel_rfl)<|ag (ho μ41) rfl rfl<|ag (ho μ71) rfl rfl ae
  have μ82:M 7 146 2 [1,2,6,15,18] 4:=hi<|aa [(0,147),(3,154),(6,210)] rfl (by kernel_rfl)<|ag (ho μ42) rfl rfl<|ag (ho μ72) rfl rfl<|bW rfl rfl (dI rfl) rfl (ho μ81) rfl rfl ae
  have μ83:M 8 18 0 [1,2,15,18] 0:=hi<|aa [(0,19),(3,26),(6,82),(7,146)] rfl (by kernel_rfl)<|ag (ho μ43) rfl rfl<|ag (ho μ73) rfl rfl<|bW rfl rfl (dI rfl) rfl (ho μ80) rfl rfl<|bW rfl rfl (dI rfl) rfl (ho μ82) rfl rfl ae
  have μ84:M 7 194 3 [1,2,5,6,15] 3:=hi<|aa [(0,195),(3,202),(4,210)] rfl (by kernel_rfl)<|ag (ho μ44) rfl rfl<|ag (ho μ74) rfl rfl<|ag (ho μ79) rfl rfl ae
  have μ85:M 8 66 1 [1,2,5,15] 4:=hi<|aa [(0,67),(3,74),(4,82),(7,194)] rfl (by kernel_rfl)<|ag (ho μ45) rfl rfl<|ag (ho μ75) rfl rfl<|ag (ho μ80) rfl rfl<|bW rfl rfl (dI rfl) rfl (ho μ84) rfl rfl ae
  have μ86:M 7 194 4 [1,2,5,6,15] 3:=hi<|aa [(0,195),(3,202),(4,210)] rfl (by kernel_rfl)<|ag (ho μ46) rfl rfl<|ag (ho μ76) rfl rfl<|ag (ho μ81) rfl rfl ae
  have μ87:M 8 130 2 [1,2,6,15] 4:=hi<|aa [(0,131),(3,138),(4,146),(6,194)] rfl (by kernel_rfl)<|ag (ho μ47) rfl rfl<|ag (ho μ77) rfl rfl<|ag (ho μ82) rfl rfl<|bW rfl rfl (dI rfl) rfl (ho μ86) rfl rfl ae
  have μ88:M 9 2 0 [1,2,15] 0:=hi<|aa [(0,3),(3,10),(4,18),(6,66),(7,130)] rfl (by kernel_rfl)<|ag (ho μ48) rfl rfl<|ag (ho μ78) rfl rfl<|ag (ho μ83) rfl rfl<|bW rfl rfl (dI rfl) rfl (ho μ85) rfl rfl<|bW rfl rfl (dI rfl) rfl (ho μ87) rfl rfl ae
  have μ89:M 6 216 3 [1,2,5,6,17,18] 3:=hi<|aa [(0,217),(1,218)] rfl (by kernel_rfl)<|ag (ho μ49) rfl rfl<|ag (ho μ69) rfl rfl ae
  have μ90:M 7 88 1 [1,2,5,17,18] 4:=hi<|aa [(0,89),(1,90),(7,216)] rfl (by kernel_rfl)<|ag (ho μ50) rfl rfl<|ag (ho μ70) rfl rfl<|bW rfl rfl (dI rfl) rfl (ho μ89) rfl rfl ae
  have μ91:M 6 216 4 [1,2,5,6,17,18] 3:=hi<|aa [(0,217),(1,218)] rfl (by kernel_rfl)<|ag (ho μ51) rfl rfl<|ag (ho μ71) rfl rfl ae
  have μ92:M 7 152 2 [1,2,6,17,18] 4:=hi<|aa [(0,153),(1,154),(6,216)] rfl (by kernel_rfl)<|ag (ho μ52) rfl rfl<|ag (ho μ72) rfl rfl<|bW rfl rfl (dI rfl) rfl (ho μ91) rfl rfl ae
  have μ93:M 8 24 0 [1,2,17,18] 0:=hi<|aa [(0,25),(1,26),(6,88),(7,152)] rfl (by kernel_rfl)<|ag (ho μ53) rfl rfl<|ag (ho μ73) rfl rfl<|bW rfl rfl (dI rfl) rfl (ho μ90) rfl rfl<|bW rfl rfl (dI rfl) rfl (ho μ92) rfl rfl ae
  have μ94:M 7 200 3 [1,2,5,6,17] 3:=hi<|aa [(0,201),(1,202),(4,216)] rfl (by kernel_rfl)<|ag (ho μ54) rfl rfl<|ag (ho μ74) rfl rfl<|ag (ho μ89) rfl rfl ae
  have μ95:M 8 72 1 [1,2,5,17] 4:=hi<|aa [(0,73),(1,74),(4,88),(7,200)] rfl (by kernel_rfl)<|ag (ho μ55) rfl rfl<|ag (ho μ75) rfl rfl<|ag (ho μ90) rfl rfl<|bW rfl rfl (dI rfl) rfl (ho μ94) rfl rfl ae
  have μ96:M 7 200 4 [1,2,5,6,17] 3:=hi<|aa [(0,201),(1,202),(4,216)] rfl (by kernel_rfl)<|ag (ho μ56) rfl rfl<|ag (ho μ76) rfl rfl<|ag (ho μ91) rfl rfl ae
  have μ97:M 8 136 2 [1,2,6,17] 4:=hi<|aa [(0,137),(1,138),(4,152),(6,200)] rfl (by kernel_rfl)<|ag (ho μ57) rfl rfl<|ag (ho μ77) rfl rfl<|ag (ho μ92) rfl rfl<|bW rfl rfl (dI rfl) rfl (ho μ96) rfl rfl ae
  have μ98:M 9 8 0 [1,2,17] 0:=hi<|aa [(0,9),(1,10),(4,24),(6,72),(7,136)] rfl (by kernel_rfl)<|ag (ho μ58) rfl rfl<|ag (ho μ78) rfl rfl<|ag (ho μ93) rfl rfl<|bW rfl rfl (dI rfl) rfl (ho μ95) rfl rfl<|bW rfl rfl (dI rfl) rfl (ho μ97) rfl rfl ae
  have μ99:M 7 208 3 [1,2,5,6,18] 3:=hi<|aa [(0,209),(1,210),(3,216)] rfl (by kernel_rfl)<|ag (ho μ59) rfl rfl<|ag (ho μ79) rfl rfl<|ag (ho μ89) rfl rfl ae
  have μ100:M 8 80 1 [1,2,5,18] 4:=hi<|aa [(0,81),(1,82),(3,88),(7,208)] rfl (by kernel_rfl)<|ag (ho μ60) rfl rfl<|ag (ho μ80) rfl rfl<|ag (ho μ90) rfl rfl<|bW rfl rfl (dI rfl) rfl (ho μ99) rfl rfl ae
  have μ101:M 7 208 4 [1,2,5,6,18] 3:=hi<|aa [(0,209),(1,210),(3,216)] rfl (by kernel_rfl)<|ag (ho μ61) rfl rfl<|ag (ho μ81) rfl rfl<|ag (ho μ91) rfl rfl ae
  have μ102:M 8 144 2 [1,2,6,18] 4:=hi<|aa [(0,145),(1,146),(3,152),(6,208)] rfl (by kernel_rfl)<|ag (ho μ62) rfl rfl<|ag (ho μ82) rfl rfl<|ag (ho μ92) rfl rfl<|bW rfl rfl (dI rfl) rfl (ho μ101) rfl rfl ae
  have μ103:M 9 16 0 [1,2,18] 0:=hi<|aa [(0,17),(1,18),(3,24),(6,80),(7,144)] rfl (by kernel_rfl)<|ag (ho μ63) rfl rfl<|ag (ho μ83) rfl rfl<|ag (ho μ93) rfl rfl<|bW rfl rfl (dI rfl) rfl (ho μ100) rfl rfl<|bW rfl rfl (dI rfl) rfl (ho μ102) rfl rfl ae
  have μ104:M 8 192 3 [1,2,5,6] 3:=hi<|aa [(0,193),(1,194),(3,200),(4,208)] rfl (by kernel_rfl)<|ag (ho μ64) rfl rfl<|ag (ho μ84) rfl rfl<|ag (ho μ94) rfl rfl<|ag (ho μ99) rfl rfl ae
  have μ105:M 9 64 1 [1,2,5] 4:=hi<|aa [(0,65),(1,66),(3,72),(4,80),(7,192)] rfl (by kernel_rfl)<|ag (ho μ65) rfl rfl<|ag (ho μ85) rfl rfl<|ag (ho μ95) rfl rfl<|ag (ho μ100) rfl rfl<|bW rfl rfl (dI rfl) rfl (ho μ104) rfl rfl ae
  have μ106:M 8 192 4 [1,2,5,6] 3:=hi<|aa [(0,193),(1,194),(3,200),(4,208)] rfl (by kernel_rfl)<|ag (ho μ66) rfl rfl<|ag (ho μ86) rfl rfl<|ag (ho μ96) rfl rfl<|ag (ho μ101) rfl rfl ae
  have μ107:M 9 128 2 [1,2,6] 4:=hi<|aa [(0,129),(1,130),(3,136),(4,144),(6,192)] rfl (by kernel_rfl)<|ag (ho μ67) rfl rfl<|ag (ho μ87) rfl rfl<|ag (ho μ97) rfl rfl<|ag (ho μ102) rfl rfl<|bW rfl rfl (dI rfl) rfl (ho μ106) rfl rfl ae
  have μ108:M 10 0 0 [1,2] 0:=hi<|aa [(0,1),(1,2),(3,8),(4,16),(6,64),(7,128)] rfl (by kernel_rfl)<|ag (ho μ68) rfl rfl<|ag (ho μ88) rfl rfl<|ag (ho μ98) rfl rfl<|ag (ho μ103) rfl rfl<|bW rfl rfl (dI rfl) rfl (ho μ105) rfl rfl<|bW rfl rfl (dI rfl) rfl (ho μ107) rfl rfl ae
  exact μ108
 refine aQ<|au 3 rfl<|bE (iA rfl rfl rfl (by decide) ((show(a:Int).tdiv 2=((a / 2:Nat):Int) by rw[Int.tdiv_eq_ediv_of_nonneg (by omega)];omega)) (by unfold In64;omega)) rfl<|bE (aL ((a / 2*7)) rfl) rfl<|au 1 rfl<|bE (aN rfl ((eu T.af (a / 2) 6 hi (by omega)).trans (show(jh (cu T.af (a / 2)))[6]? =some (num g) by rw[←hgl];rfl))) rfl<|au 3 rfl<|aH [1,2,5,6,7] rfl ?_
 refine aQ<|au 4 rfl<|aH [1,2,5,6,7,8] rfl ?_
 refine aQ<|au 1 rfl<|bE (iA rfl rfl rfl (by decide) ((show(a:Int).tdiv 2=((a / 2:Nat):Int) by rw[Int.tdiv_eq_ediv_of_nonneg (by omega)];omega)) (by unfold In64;omega)) rfl<|au 3 rfl<|aH [2,5,6,7,8,9] rfl ?_
 refine fR (xs:=[num n]) 5 0 0 rfl rfl ?_
 refine fR (xs:=[num h]) 6 1 0 rfl rfl ?_
 refine fR (xs:=cj 3 g) 7 2 0 rfl rfl ?_
 refine fR (xs:=cj 2 h) 8 3 0 rfl rfl ?_
 refine fR (xs:=cj 1 ((a / 2:Nat):Int)) 9 4 0 rfl rfl ?_
 refine cZ [] (.c 2<|.c 5<|.c 6<|.c 7<|.c 8<|.c 9<|.nil) .nil rfl rfl ?_
 refine ab (.v (dM rfl rfl) rfl<|.a 1 rfl<|.k [6,7,8,9,10] rfl)<|aQ<|au 1 rfl<|aH [6,7,8,9,10,11] rfl ?_
 refine aj<|bp 36 (.raw (.bool (c1))) [6,7,8,9,10,11] rfl ?_ ?_
 ·exact .a 2 rfl<|.v (cb rfl (hc1)) rfl<|.k [36,6,7,8,9,10,11] rfl
 refine ah rfl (fun h2=>?_) (fun h2=>?_)
 ·have hg0:0<g:=tt (by rw[hc1,h2])
  rw[if_pos hg0]
  refine bF<|au 2 rfl<|eA rfl (h1 3 g) rfl<|au 1 rfl<|aH [6,7,8,9,10,11] rfl ?_
  refine aQ<|au 2 rfl<|eA rfl (h1 2 h) rfl<|au 2 rfl<|aH [6,7,8,9,11,12] rfl ?_
  refine aQ<|bE (dM rfl rfl) rfl<|bE (dM rfl rfl) rfl<|cn (iF (xs:=[_,_]) rfl (bI.sl.get rfl) ⟨Nat.le_of_ble_eq_true rfl,Nat.le_of_ble_eq_true rfl⟩ rfl rfl) rfl<|au 2 rfl<|aH [9,13] rfl ?_
  refine ab (.v (dM rfl rfl) rfl<|.a 1 rfl<|.k [4] rfl)<|aq ?_
  unfold jS F2 F3
  first
   |exact⟨_,_,ay.of rfl,aB.iw (an.cons (aB.jk rfl (an.cons (aB.ew rfl (an.cons (aB.iw (an.cons aB.pure<|an.cons (aB.jk rfl (an.cons (aB.pure (p:=aw _)) an.nil)) an.nil))<|an.cons (aB.iw (an.cons aB.pure<|an.cons aB.pure<|an.cons (aB.jk rfl (an.cons (aB.pure (p:=aw _)) an.nil)) an.nil)) an.nil)) an.nil))<|an.cons aB.pure an.nil),rfl⟩
   |exact⟨_,_,ay.of rfl,aB.iw (an.cons (aB.jk rfl (an.cons (aB.ew rfl (an.cons (aB.iw (an.cons aB.pure<|an.cons (aB.jk rfl (an.cons aB.bZ an.nil)) an.nil))<|an.cons (aB.iw (an.cons aB.pure<|an.cons aB.pure<|an.cons (aB.jk rfl (an.cons (aB.pure (p:=aw _)) an.nil)) an.nil)) an.nil)) an.nil))<|an.cons aB.pure an.nil),rfl⟩
 ·have hg0:¬0<g:=ff (by rw[hc1,h2])
  rw[if_neg hg0]
  refine ak<|aQ<|au 2 rfl<|eA rfl (h1 2 h) rfl<|au 2 rfl<|aH [6,7,8,9,11,12] rfl ?_
  refine aQ<|bE (dM rfl rfl) rfl<|bE (dM rfl rfl) rfl<|cn (iF (xs:=[_,_]) rfl (bI.sl.get rfl) ⟨Nat.le_of_ble_eq_true rfl,Nat.le_of_ble_eq_true rfl⟩ rfl rfl) rfl<|au 2 rfl<|aH [9,13] rfl ?_
  refine ab (.v (dM rfl rfl) rfl<|.a 1 rfl<|.k [4] rfl)<|aq ?_
  unfold jS F2 F3
  first
   |exact⟨_,_,ay.of rfl,aB.iw (an.cons (aB.jk rfl (an.cons (aB.ew rfl (an.cons (aB.iw (an.cons aB.pure<|an.cons (aB.jk rfl (an.cons (aB.pure (p:=aw _)) an.nil)) an.nil))<|an.cons (aB.iw (an.cons aB.pure<|an.cons aB.pure<|an.cons (aB.jk rfl (an.cons (aB.pure (p:=aw _)) an.nil)) an.nil)) an.nil)) an.nil))<|an.cons aB.pure an.nil),rfl⟩
   |exact⟨_,_,ay.of rfl,aB.iw (an.cons (aB.jk rfl (an.cons (aB.ew rfl (an.cons (aB.iw (an.cons aB.pure<|an.cons (aB.jk rfl (an.cons aB.bZ an.nil)) an.nil))<|an.cons (aB.iw (an.cons aB.pure<|an.cons aB.pure<|an.cons (aB.jk rfl (an.cons (aB.pure (p:=aw _)) an.nil)) an.nil)) an.nil)) an.nil))<|an.cons aB.pure an.nil),rfl⟩
end PW
end Go.Proofs.YtnegbdpggideiaaGreatDoor
namespace Go.Proofs.YtnegbdpggideiaaGreatDoor
namespace PW
open Go.RowKit cB Mem Net eW
theorem sb{α:Type}(f:α→List PV)(s:Nat)(hf:∀a,(f a).length=s)(z:α):∀(l:List α) (d:Nat),d<l.length→over (l.flatMap f) (d*s) (f z)=(l.set d z).flatMap f
 | [],d,h=>by simp at h
 |a::l,0,_=>by
  unfold over
  rw[List.flatMap_cons,Nat.zero_mul,List.take_zero,hf,List.set_cons_zero,List.flatMap_cons,List.nil_append,Nat.zero_add]
  congr 1
  rw[←hf a,List.drop_left]
 |a::l,d+1,h=>by
  have ih:=sb f s hf z l d (by simpa using h)
  unfold over at*
  have e:(d+1)*s=(f a).length+d*s:=by rw[hf,Nat.succ_mul];omega
  rw[List.flatMap_cons,List.set_cons_succ,List.flatMap_cons,←ih,e,List.take_length_add_append,Nat.add_assoc,List.drop_length_add_append,List.append_assoc]
theorem Be(l:List iC)(d:Nat)(z:iC)(h:d<l.length):over (dA l) (d*3) (kg z)=dA (l.set d z):=sb kg 3 (fun _=>rfl) z l d h
noncomputable def ln(T:ai)(D:List Bool)(n N j:Nat):List iC:=(List.range N).map fun d=>if d<j then jB T D n (d:Int) else⟨bz T D n d,false,[]⟩
theorem Ex(T:ai)(D:List Bool)(n N j:Nat):(ln T D n N j).length=N:=by simp[ln]
theorem AY(T:ai)(D:List Bool)(n N:Nat):ln T D n N 0=oa T D n N:=by unfold ln oa;simp
theorem Dq(T:ai)(D:List Bool)(n N:Nat):ln T D n N N=rV T D n N:=by
 unfold ln rV
 refine List.map_congr_left fun d hd=>?_
 rw[if_pos (List.mem_range.1 hd)]
theorem wX{T:ai}{D:List Bool}{n N j i:Nat}(h:i<(ln T D n N j).length):(ln T D n N j)[i]=if i<j then jB T D n (i:Int) else⟨bz T D n i,false,[]⟩:=by simp[ln]
theorem Bp(T:ai)(D:List Bool)(n N j:Nat):(ln T D n N j).set j (jB T D n (j:Int))=ln T D n N (j+1):=by
 apply List.ext_getElem (by simp[ln])
 intro i h1 h2
 rw[List.getElem_set,wX,wX]
 by_cases e:j=i
 ·subst e;rw[if_pos rfl,if_pos (by omega)]
 ·rw[if_neg e]
  by_cases h:i<j
  ·rw[if_pos h,if_pos (by omega)]
  ·rw[if_neg h,if_neg (by omega)]
def py(T:ai)(D:List Bool)(n:Nat)(l:List iC):cd:=[some (.cells 56 [num 0,.raw (.slice none 0 0),.raw (.slice none 0 0)]),some (.row 76 3 T.nodes.toNat (dA l)),some (.row 3 1 (cF D (bJ T n)).length (aO (cF D (bJ T n)))),some (.cells 56 [num n,.own 1,.own 2])]
theorem CC(T:ai)(D:List Bool)(n:Nat)(hv:ao T=true)(hf:bP T D=true)(hn:(n:Int)<T.nodes)(h12:T.nodes≤12):bT Tryz.prog 123 ([aY D,.agg [num n,.own 1,.own 2]]++[.aX (bx T) 0,.aX [num n] 0]) (py T D n (oa T D n T.nodes.toNat)) (fun _ σ'=>σ'=py T D n (rV T D n T.nodes.toNat)++[some (.cells 56 [num n,.own 1,.own 2])]):=by
 have hll:=bO hv
 have hnb:bn T (n:Int)=true:=aV.2 ⟨by omega,hn⟩
 obtain⟨N,hN⟩:∃N:Nat,T.nodes.toNat=N:=⟨_,rfl⟩
 have hNN:T.nodes=(N:Int):=by have:=(aK hv).nodes;omega
 unfold py
 rw[hN,←AY]
 obtain⟨dl,hdl⟩:∃dl,cF D (bJ T n)=dl:=⟨_,rfl⟩
 rw[hdl]
 refine ct Tryz.func123 rfl Tryz.ntmps123 rfl<|aQ<|cn (fF rfl rfl rfl) rfl<|aH [0,2,3,5] rfl ?_
 refine ab (.a 4 rfl<|.k [0,2,3,5,9,10] rfl)<|av<|ft [0,2,3,5,9,10] rfl<|br (fun r s=>∃j,j≤N∧r=N - j∧s=⟨[(0,aY D),(2,.aX (bx T) 0),(3,.aX [num n] 0),(5,.ptr 4 0),(9,num N),(10,num j)],[some (.cells 56 [num 0,.raw (.slice none 0 0),.raw (.slice none 0 0)]),some (.row 76 3 N (dA (ln T D n N j))),some (.row 3 1 dl.length (aO dl)),some (.cells 56 [num n,.own 1,.own 2]),some (.cells 56 [num n,.own 1,.own 2])]⟩) N ⟨0,by omega,by omega,rfl⟩ ?_
 rintro r s ⟨j,hj,rfl,rfl⟩
 refine ab (.a 1 rfl<|.k [0,2,3,5,9,10,11] rfl)<|aj<|ah rfl (fun h1=>?_) (fun h1=>?_)
 ·have hlt:j<N:=by have:=tt h1;omega
  have hre:=we T D n j hll h12
  rw[oO hv hf hnb (aV.2 ⟨by omega,by omega⟩)]at hre
  have hml:=Ex T D n N j
  have hel:(dA (ln T D n N j)).length=N*3:=by have:=D5 kg 3 (fun _=>rfl) (ln T D n N j);rw[hml]at this;exact this
  refine ak<|aj<|av<|ab (.a 2 rfl<|.k [0,2,3,5,6,9,10] rfl)<|dU 12 20 mixed (
   .val [5] rfl (bw rfl) rfl rfl<|
   .val [14] rfl (bw rfl) rfl rfl<|
   .val [6] rfl (bw rfl) rfl rfl<|
   .val [2] rfl (bw rfl) rfl rfl<|
   .val [0] rfl (bw rfl) rfl rfl<|
   .val [3] rfl (bw rfl) rfl rfl<|
   .val [6] rfl (bw rfl) rfl rfl<|
   .val [17,18,19,20] rfl (dR rfl (hre)) rfl rfl<|
   .val [21] rfl (bw rfl) rfl rfl<|
   .val [13] rfl (bw rfl) rfl rfl<|
   .late [13] rfl (sC rfl rfl rfl) inferInstance rfl rfl<|
   .val [15,16] rfl (aL ((j*3)) rfl) rfl rfl<|
   .nil) (by kernel_rfl) rfl rfl (bd (ks:=[0,2,3,5,9,10,22,24]) rfl) ?_
  refine bc (uC rfl (bI.tk.get rfl) rfl rfl rfl rfl rfl (show j*3+3≤(dA (ln T D n N j)).length by omega)) rfl rfl<|aH [0,2,3,5,9,10] rfl ?_
  refine ej (σ':=[some (.cells 56 [num 0,.raw (.slice none 0 0),.raw (.slice none 0 0)]),some (.row 76 3 N (dA (ln T D n N (j+1)))),some (.row 3 1 dl.length (aO dl)),some (.cells 56 [num n,.own 1,.own 2]),some (.cells 56 [num n,.own 1,.own 2])]) (by rw[←Bp,←Be _ _ _ (by omega)];rfl) ?_
  refine az (.v (aS rfl) rfl<|.a 1 rfl<|.k [0,2,3,5,9,10] rfl) ?_
  exact⟨N - (j+1),by omega,j+1,by omega,rfl,rfl⟩
 ·have hje:j=N:=by have:=ff h1;omega
  subst hje
  refine bg<|⟨_,ay.of rfl,?_⟩
  rw[Dq]
  rfl
theorem wA(T:ai)(D:List Bool)(n:Nat)(c:Option cT)(hch:cw T D [(n:Int)]=0):bT Tryz.prog 53 [aP T,aY D,num n] [c] (fun r σ'=>r= .tuple [.agg [num n,.own 3,.own 4],num 0]∧σ'=[c,some (.cells 56 [num n,.own 3,.own 4]),some (.cells 56 [num n,.own 3,.own 4]),some (.row 76 3 T.nodes.toNat (dA (oa T D n T.nodes.toNat))),some (.row 3 1 (cF D (bJ T n)).length (aO (cF D (bJ T n))))]):=by
 refine bT.frame (bT.mono (uO T D n hch) ?_)
 rintro r σ' ⟨rfl,rfl⟩
 refine⟨[.cells 56 [num n,.own 2,.own 3],.cells 56 [num n,.own 2,.own 3],.row 76 3 T.nodes.toNat (dA (oa T D n T.nodes.toNat)),.row 3 1 (cF D (bJ T n)).length (aO (cF D (bJ T n)))],rfl,.tuple [.agg [num n,.own 3,.own 4],num 0],[.cells 56 [num n,.own 3,.own 4],.cells 56 [num n,.own 3,.own 4],.row 76 3 T.nodes.toNat (dA (oa T D n T.nodes.toNat)),.row 3 1 (cF D (bJ T n)).length (aO (cF D (bJ T n)))],?_,?_,rfl,rfl⟩
 ·exact Up.bG (kN.cons (Up.iH (kN.cons Up.pure<|kN.cons (Up.own rfl)<|kN.cons (Up.own rfl) kN.nil)) (kN.cons Up.pure kN.nil))
 ·exact mW.cons (.cells (kN.cons Up.pure<|kN.cons (Up.own rfl)<|kN.cons (Up.own rfl) kN.nil))<|mW.cons (.cells (kN.cons Up.pure<|kN.cons (Up.own rfl)<|kN.cons (Up.own rfl) kN.nil))<|mW.cons (.row kN.pure)<|mW.cons (.row kN.pure) mW.nil
instance (e:Int) (x:ee):IsPure (jC e x):=by unfold jC;infer_instance
def j7(T:ai)(k x n:Int):Int:=if dL T k x=0 then(if bn T n then 0 else 2) else 1
theorem oX{T:ai}{k x:Int}(h:dL T k x=0):(ao T&&bV T k x)=true:=by
 unfold dL at h
 split at h
 ·assumption
 ·omega
theorem C0(T:ai)(D:List Bool)(n:Nat):bT Tryz.prog 125 ([aY D,.agg [num n,.own 1,.own 2]]++[]) (py T D n (oa T D n T.nodes.toNat)) (fun _ σ'=>σ'=py T D n (oa T D n T.nodes.toNat)++[some (.cells 56 [num n,.own 1,.own 2])]):=by
 unfold py
 refine ct Tryz.func125 rfl Tryz.ntmps125 rfl<|bF<|cn (fF rfl rfl rfl) rfl<|aH [] rfl ?_
 exact⟨_,ay.of rfl,rfl⟩
theorem vi{T:ai}{k x:Int}(h:dL T k x≠0):dL T k x=1:=by
 unfold dL at*
 split
 ·rename_i h';rw[if_pos h']at h;exact absurd rfl h
 ·rfl
theorem qm(T:ai)(k x n:Int)(f:FuncId)(cap:List PV)[aJ cap](he:j7 T k x n≠0):
  Can Tryz.prog 122 [aP T,bU k x,num n,.func f cap] (· =jC (j7 T k x n) ⟨0,[],[]⟩):=by
 have hmk:=lq T k x
 have hmf:=di T k x
 unfold iu at hmk
 have hrt:=rJ T (aG T k x) n
 refine aE Tryz.func122 rfl Tryz.ntmps122 rfl<|aQ<|au 4 rfl<|aH [2,3,4,5,8] rfl ?_
 refine ab (.a 2 rfl<|.c rfl (hmk) rfl<|.a 5 rfl<|.k [2,3,4,8,10,11] rfl)<|aj<|ab (.a 2 rfl<|.k [2,3,4,8,10,11,20] rfl)<|ah rfl (fun h1=>?_) (fun h1=>?_)
 ·have h1:=tt h1
  have he2:j7 T k x n=dL T k x:=by
   unfold j7
   rw[if_neg h1,vi h1]
  rw[he2]
  refine aQ<|au 4 rfl<|aH [8,9] rfl ?_
  exact aq<|⟨_,_,ay.of rfl,aB.bG (an.cons (aB.iH (an.cons aB.pure<|an.cons aB.bZ<|an.cons aB.bZ an.nil)) (an.cons aB.pure an.nil)),by unfold jC;rw[if_neg h1];rfl⟩
 ·have h1:dL T k x=0:=Classical.byContradiction (ff h1)
  obtain⟨hv,hc⟩:=Bool.and_eq_true_iff.1 (oX h1)
  rw[if_pos h1]
  have hn:bn T n=false:=by
   cases hn:bn T n with
   |false=>rfl
   |true=>exact absurd (show j7 T k x n=0 by unfold j7;rw[if_pos h1,hn];rfl) he
  have hch:cw T (aG T k x) [n]=2:=by unfold cw;rw[hv,hmf];simp[hn]
  have hr0:jx T (aG T k x) n=⟨0,[],[]⟩:=by unfold jx;rw[if_neg (by rw[hch];decide)]
  rw[hch,hr0]at hrt
  have he:j7 T k x n=2:=by unfold j7;rw[if_pos h1,hn];rfl
  rw[he]
  refine ak<|aQ<|au 3 rfl<|eA rfl (hrt) rfl<|au 6 rfl<|aH [3,8,10,11,12] rfl ?_
  refine aj<|ab (.a 2 rfl<|.k [3,8,10,11,12,31] rfl)<|ah rfl (fun h2=>?_) (fun h2=>?_)
  ·skip
   refine aQ<|au 4 rfl<|aH [8,9] rfl ?_
   exact aq<|⟨_,_,ay.of rfl,aB.bG (an.cons (aB.iH (an.cons aB.pure<|an.cons aB.bZ<|an.cons aB.bZ an.nil)) (an.cons aB.pure an.nil)),rfl⟩
  ·exact absurd h2 (by decide)
theorem sv(T:ai)(k x:Int)(n:Nat)(f:FuncId)(cap:List PV)[aJ cap](L:List iC)(hen:enters Tryz.prog f=true)(hv:(ao T&&bV T k x)=true)(hn:(n:Int)<T.nodes)(hl:L.length=T.nodes.toNat)
  (hf:bT Tryz.prog f ([aY (aG T k x),.agg [num n,.own 1,.own 2]]++cap) (py T (aG T k x) n (oa T (aG T k x) n T.nodes.toNat)) (fun _ σ'=>σ'=py T (aG T k x) n L++[some (.cells 56 [num n,.own 1,.own 2])])):
  Can Tryz.prog 122 [aP T,bU k x,num n,.func f cap] (· =jC 0 ⟨n,L,cF (aG T k x) (bJ T n)⟩):=by
 have hmk:=lq T k x
 have hmf:=di T k x
 have hm0:dL T k x=0:=by unfold dL;rw[if_pos hv]
 unfold iu at hmk
 rw[hm0,if_pos rfl]at hmk
 obtain⟨M,hM⟩:∃M,aG T k x=M:=⟨_,rfl⟩
 rw[hM]at hmk hmf hf ⊢
 obtain⟨hv,hc⟩:=Bool.and_eq_true_iff.1 hv
 have hch:cw T M [(n:Int)]=0:=by unfold cw;rw[hv,hmf];simp[aV.2 (show 0≤(n:Int)∧(n:Int)<T.nodes by omega)]
 have hrt:=fun c=>wA T M n c hch
 refine aE Tryz.func122 rfl Tryz.ntmps122 rfl<|aQ<|au 4 rfl<|aH [2,3,4,5,8] rfl ?_
 refine ab (.a 2 rfl<|.c rfl (hmk) rfl<|.a 5 rfl<|.k [2,3,4,8,10,11] rfl)<|aj<|ab (.a 2 rfl<|.k [2,3,4,8,10,11,20] rfl)<|ah rfl (fun h1=>?_) (fun h1=>?_)
 ·exact absurd h1 (by decide)
 ·skip
  refine ak<|aQ<|au 3 rfl<|cS rfl rfl (bT.mono (hrt _) (fun r σ' h=>?_))
  obtain⟨rfl,rfl⟩:=h
  refine au 6 rfl<|aH [3,8,10,11,12] rfl ?_
  refine aj<|ab (.a 2 rfl<|.k [3,8,10,11,12,31] rfl)<|ah rfl (fun h2=>?_) (fun h2=>?_)
  ·exact absurd h2 (by decide)
  ·skip
   refine ak<|cZ [0,3,4,5] (.c 3<|.c 8<|.c 10<|.c 12<|.nil) (.kept rfl (.cells (aD.c<|aD.c<|aD.c<|aD.nil))<|.kept rfl (.row aD.pure)<|.kept rfl (.row aD.pure)<|.kept rfl (.cells (aD.c<|aD.c<|aD.c<|aD.nil))<|.nil) rfl rfl ?_
   refine aQ<|au 3 rfl<|wP rfl hen rfl rfl rfl rfl rfl (bT.mono hf (fun r σ' h=>?_))
   obtain rfl:=h
   refine aH [8,12] rfl ?_
   refine aQ<|au 3 rfl<|aH [8,9] rfl ?_
   refine aq<|⟨_,_,ay.of rfl,aB.bG (an.cons (aB.iH (an.cons aB.pure<|an.cons (aB.ew rfl an.pure)<|an.cons (aB.ew rfl an.pure) an.nil)) (an.cons aB.pure an.nil)),?_⟩
   unfold jC fN fT jQ aw
   rw[if_pos rfl,hl]
theorem ti{T:ai}{k x n:Int}(h:j7 T k x n=0):(ao T&&bV T k x)=true∧bn T n=true:=by
 unfold j7 at h
 split at h
 ·rename_i h1
  refine⟨oX h1,?_⟩
  split at h
  ·assumption
  ·omega
 ·omega
theorem Cw(T:ai)(k x n:Int)(h12:T.nodes≤12):Can Tryz.prog 70 [aP T,bU k x,num n] (· =jC (j7 T k x n) (uu T (aG T k x) n.toNat)):=by
 have key:Can Tryz.prog 122 [aP T,bU k x,num n,.func 123 [.aX (bx T) 0,.aX [num n] 0]] (· =jC (j7 T k x n) (uu T (aG T k x) n.toNat)):=by
  by_cases he:j7 T k x n=0
  ·obtain⟨hm,hn⟩:=ti he
   obtain⟨hv,hc⟩:=Bool.and_eq_true_iff.1 hm
   rw[aV]at hn
   obtain⟨m,rfl⟩:=Int.eq_ofNat_of_zero_le hn.1
   rw[he]
   exact sv T k x m _ _ _ (by kernel_rfl) hm hn.2 (ri _ _ _ _) (CC T (aG T k x) m hv (di T k x) hn.2 h12)
  ·have h:=qm T k x n 123 [.aX (bx T) 0,.aX [num n] 0] he
   unfold jC at h ⊢
   rw[if_neg he]at h ⊢
   exact h
 refine aE Tryz.func70 rfl Tryz.ntmps70 rfl<|aQ<|au 5 rfl<|aH [3,4,5,6] rfl ?_
 refine aQ<|au 4 rfl<|eA rfl (key) rfl<|au 4 rfl<|aH [6,7] rfl ?_
 exact aq<|⟨_,_,ay.of rfl,aB.pure (p:=jC (j7 T k x n) (uu T (aG T k x) n.toNat)),rfl⟩
theorem DR(T:ai)(k x n:Int):Can Tryz.prog 72 [aP T,bU k x,num n] (· =jC (j7 T k x n) (dE T (aG T k x) n.toNat)):=by
 have key:Can Tryz.prog 122 [aP T,bU k x,num n,.func 125 []] (· =jC (j7 T k x n) (dE T (aG T k x) n.toNat)):=by
  by_cases he:j7 T k x n=0
  ·obtain⟨hm,hn⟩:=ti he
   obtain⟨hv,hc⟩:=Bool.and_eq_true_iff.1 hm
   rw[aV]at hn
   obtain⟨m,rfl⟩:=Int.eq_ofNat_of_zero_le hn.1
   rw[he]
   exact sv T k x m _ _ _ (by kernel_rfl) hm hn.2 (tG _ _ _ _) (C0 T (aG T k x) m)
  ·have h:=qm T k x n 125 [] he
   unfold jC at h ⊢
   rw[if_neg he]at h ⊢
   exact h
 refine aE Tryz.func72 rfl Tryz.ntmps72 rfl<|aQ<|au 4 rfl<|aH [2,3,4,6] rfl ?_
 refine aQ<|au 3 rfl<|eA rfl (key) rfl<|au 4 rfl<|aH [6,7] rfl ?_
 exact aq<|⟨_,_,ay.of rfl,aB.pure (p:=jC (j7 T k x n) (dE T (aG T k x) n.toNat)),rfl⟩
theorem uL(T:ai)(D:List Bool)(n:Int):PV.tuple [fN (jx T D n),num (cw T D [n])]=jC (cw T D [n]) (dE T D n.toNat):=by
 unfold jC jx;rfl
theorem C3(T:ai)(n:Int):Can Tryz.prog 67 [aP T,num n] (· =jC (cw T [] [n]) (dE T [] n.toNat)):=by
 refine aE Tryz.func67 rfl Tryz.ntmps67 rfl<|aQ<|au 3 rfl<|aH [1,2,4] rfl ?_
 have hr:=rJ T [] n
 rw[uL]at hr
 refine aQ<|au 2 rfl<|bE (Dy rfl (an.cons aB.pure<|an.cons aB.bZ<|an.cons aB.pure an.nil) (hr)) rfl<|au 4 rfl<|aH [4,5] rfl ?_
 exact aq<|⟨_,_,ay.of rfl,aB.pure (p:=jC (cw T [] [n]) (dE T [] n.toNat)),rfl⟩
end PW
end Go.Proofs.YtnegbdpggideiaaGreatDoor
namespace Go.Proofs.YtnegbdpggideiaaGreatDoor
namespace PW
open Go.RowKit cB Mem Net eW
theorem vc{T:ai}{a:Nat}(hv:ao T=true)(ha:a<2*T.af.length){d:Nat}(hd:(d:Int)<T.nodes){n:Nat}(hn:bb T a=(n:Int))(k x:Int)(hm:(ao T&&bV T k x)=true):d<(bu T (fP T k x) n true).length∧decide (0≤(bu T (fP T k x) n true).getD d 0)=gg T (aG T k x) (bb T a) d:=by
 have hnN:(n:Int)<T.nodes:=by rw[←hn];exact((aK hv).tail a ha).2
 have hl:=(dq (D:=fP T k x) hv (dir:=true) hnN).1
 refine⟨by omega,?_⟩
 rw[hn,qt hm,Bool.eq_iff_iff,decide_eq_true_eq,lX hv (di T k x) hnN hd,EI hv hnN hd]
theorem Fj(T:ai)(a d:Nat)(hv:ao T=true)(ha:a<2*T.af.length)(hd:(d:Int)<T.nodes):Can Tryz.prog 183 ([num d]++jS (fK T a) (aT T a) ((a / 2:Nat):Int) (Hd T a) (Hc T a)) (· =bU (da T a d).1 (da T a d).2):=by
 obtain⟨n,hn⟩:=Int.eq_ofNat_of_zero_le ((aK hv).tail a ha).1
 have hnt:(bb T a).toNat=n:=by omega
 have h2:=vc hv ha hd hn 2 (aT T a) (ve hv ha)
 have hM:Hc T a=bu T (fP T 2 (aT T a)) n true:=by unfold Hc;rw[hnt]
 have hL:0<fK T a→Hd T a=bu T (fP T 3 (fK T a)) n true:=fun h=>by unfold Hd;rw[if_pos h,hnt]
 have h:=DQ (fK T a) (aT T a) ((a / 2:Nat):Int) (Hd T a) (Hc T a) d (gg T (aG T 3 (fK T a)) (bb T a) d) (gg T (aG T 2 (aT T a)) (bb T a) d)
  (fun hg=>by rw[hL hg];exact vc hv ha hd hn 3 (fK T a) (zE hv ha hg)) (by rw[hM];exact h2.1) (by rw[hM];exact h2.2)
 have e:(if(decide (0<fK T a)&&gg T (aG T 3 (fK T a)) (bb T a) d)=true then bU 3 (fK T a) else if(decide (aT T a≠(d:Int))&&gg T (aG T 2 (aT T a)) (bb T a) d)=true then bU 2 (aT T a) else bU 1 ((a / 2:Nat):Int))=bU (da T a d).1 (da T a d).2:=by
  unfold da
  split
  ·rfl
  ·split<;>rfl
 rw[e]at h
 exact h
def FP(own:List Bool):List Int→Nat→Int
 | [],_=> -1
 |a::l,i=>bif aM own a.toNat then(i:Int) else FP own l (i+1)
theorem DD(own:List Bool):∀(l:List Int) (i:Nat),(FP own l i= -1∧kK own l=none)∨∃j,j<l.length∧FP own l i=((i+j:Nat):Int)∧kK own l=some (l.getD j 0)
 | [],i=>.inl ⟨rfl,rfl⟩
 |a::l,i=>by
  simp only[FP]
  by_cases h:aM own a.toNat=true
  ·refine .inr ⟨0,by simp,by rw[h];rfl,?_⟩
   unfold kK
   rw[List.find?_cons_of_pos (by exact h)]
   rfl
  ·rw[Bool.eq_false_iff.2 h]
   simp only[cond_false]
   have e:kK own (a::l)=kK own l:=by
    unfold kK
    rw[List.find?_cons_of_neg (by exact h)]
   rw[e]
   rcases DD own l (i+1)with h'|⟨j,h1,h2,h3⟩
   ·exact .inl h'
   ·exact .inr ⟨j+1,by simpa using h1,by rw[h2];congr 1;omega,by rw[h3];rfl⟩
theorem Cx(own:List Bool)(k:Nat)(hk:k<own.length):Can Tryz.prog 154 ([num k]++[.aX [aY own] 0]) (· =flag (aM own k)):=by
 exact aE Tryz.func154 rfl Tryz.ntmps154 rfl<|ab (.a 1 rfl<|.k [0,1] rfl)<|ab (.a 2 rfl<|.v (aL (k) rfl) rfl<|.v (aN rfl ((show(bQ own)[k]? =some (flag (aM own k)) by rw[cV _ k hk,eO]))) rfl<|.a 1 rfl<|.k [3] rfl)<|aq<|⟨_,_,ay.of rfl,aB.pure,rfl⟩
theorem CN(l:List Int)(own:List Bool)(hl:l.length≤1000)(hm:∀a∈l,∃k:Nat,a=(k:Int)∧k<own.length):Can Tryz.prog 153 [aw l,.func 154 [.aX [aY own] 0]] (· =num (FP own l 0)):=by
 refine aE Tryz.func153 rfl Tryz.ntmps153 rfl<|ab (.a 1 rfl<|.k [0,1] rfl)<|aj<|ab (.a 3 rfl<|.k [0,1,7,8] rfl)<|av<|ft [0,1,7,8] rfl<|br (fun r s=>∃i,i≤l.length∧r=l.length - i∧FP own l 0=FP own (l.drop i) i∧s=⟨[(0,aw l),(1,.func 154 [.aX [aY own] 0]),(7,num l.length),(8,num i)],[]⟩) l.length ⟨0,by omega,by omega,rfl,rfl⟩ ?_
 rintro r s ⟨i,hi,rfl,hx,rfl⟩
 refine ab (.a 1 rfl<|.k [0,1,7,8,9] rfl)<|aj<|ah rfl (fun h1=>?_) (fun h1=>?_)
 ·have hlt:i<l.length:=by have:=tt h1;omega
  obtain⟨k,hk,hkl⟩:=hm _ (bX (d:=0) hlt)
  rw[drop_cons l i hlt,hk]at hx
  simp only[FP,Int.toNat_natCast]at hx
  obtain⟨q,hq⟩:∃q,aM own k=q:=⟨_,rfl⟩
  have he:=Cx own k hkl
  rw[hq]at he hx
  refine ak<|aj<|av<|ab (.a 2 rfl<|.k [0,1,5,7,8] rfl)<|ab (.a 3 rfl<|.v (aL (i) rfl) rfl<|.v (aN rfl ((aA l i hlt).trans (by rw[hk]))) rfl<|.c rfl (he) rfl<|.k [0,1,5,7,8,16] rfl)<|ah rfl (fun h2=>?_) (fun h2=>?_)
  ·subst h2
   rw[cond_true]at hx
   rw[hx]
   exact ab (.a 2 rfl<|.k [4] rfl)<|aq<|⟨_,_,ay.of rfl,aB.pure,rfl⟩
  ·subst h2
   rw[cond_false]at hx
   refine ak<|az (.v (aS rfl) rfl<|.a 1 rfl<|.k [0,1,7,8] rfl) ?_
   exact⟨l.length - (i+1),by omega,i+1,by omega,rfl,hx,rfl⟩
 ·have hie:i=l.length:=by have:=ff h1;omega
  subst hie
  rw[List.drop_length]at hx
  rw[hx]
  exact bg<|ab (.a 1 rfl<|.k [4] rfl)<|aq<|⟨_,_,ay.of rfl,aB.pure,rfl⟩
theorem EO(p:List Int):Can Tryz.prog 185 ([aw p]++[]) (· = .tuple []):=by
 exact aE Tryz.func185 rfl Tryz.ntmps185 rfl<|ak<|⟨_,_,ay.of rfl,aB.pure,rfl⟩
theorem wb(T:ai)(D:List Bool)(n d:Int):Can Tryz.prog 184 [aP T,aY D,num n,num d,.func 185 []] (· =num (gv T D n d)):=by
 refine aE Tryz.func184 rfl Tryz.ntmps184 rfl<|ab (.a 2 rfl<|.k [1,2,3,4,5] rfl)<|ab (.a 4 rfl<|.c rfl (sc T D n d) rfl<|.a 5 rfl<|.k [4,11,12] rfl)<|aj<|ab (.a 2 rfl<|.k [4,11,12,22] rfl)<|ah rfl (fun h1=>?_) (fun h1=>?_)
 ·skip
  refine az (.a 2 rfl<|.c rfl (EO _) rfl<|.k [12] rfl) ?_
  exact ab (.a 2 rfl<|.k [10] rfl)<|aq<|⟨_,_,ay.of rfl,aB.pure,rfl⟩
 ·skip
  exact ak<|ab (.a 2 rfl<|.k [10] rfl)<|aq<|⟨_,_,ay.of rfl,aB.pure,rfl⟩
theorem xU(T:ai)(D:List Bool)(n d:Int):Can Tryz.prog 156 [aP T,aY D,num n,num d] (· =flag (gg T D n d)):=by
 obtain⟨q,hq⟩:∃q,decide (gv T D n d=0)=q:=⟨_,rfl⟩
 unfold gg
 rw[hq]
 exact aE Tryz.func156 rfl Tryz.ntmps156 rfl<|ab (.a 2 rfl<|.k [1,2,3,4] rfl)<|ab (.a 4 rfl<|.c rfl (wb T D n d) rfl<|.v (cb rfl (hq)) rfl<|.a 1 rfl<|.k [8] rfl)<|aq<|⟨_,_,ay.of rfl,aB.pure,rfl⟩
theorem A2(T:ai)(k x:Int)(hm:(ao T&&bV T k x)=true)(σ:cd):bT Tryz.prog 16 [aP T,bU k x] σ (fun r σ'=>r= .tuple [.own σ.length,num 0]∧σ'=σ++[kH (aG T k x)]):=by
 obtain⟨hv,hc⟩:=Bool.and_eq_true_iff.1 hm
 refine bT.frame (bT.mono (sq T k x hv hc) ?_)
 rintro r σ' ⟨rfl,rfl⟩
 refine⟨[.row 4 1 (2*T.af.length) (bQ (aG T k x))],rfl,_,_,Up.bG (kN.cons (Up.own rfl) (kN.cons Up.pure kN.nil)),mW.cons (.row kN.pure) mW.nil,by simp,?_⟩
 unfold kH
 rw[eN]
 rfl
set_option maxHeartbeats 2000000 in
theorem Cr(T:ai)(own:List Bool)(n d:Nat)(hv:ao T=true)(hfo:own.length=2*T.af.length)(hn:(n:Int)<T.nodes)(hd:(d:Int)<T.nodes)(h12:T.nodes≤12):Can Tryz.prog 114 [aP T,aY own,num n,num d] (· =wN (mM T own n d)):=by
 have hll:=bO hv
 have hof:bP T own=true:=by unfold bP;rw[hfo];simp
 have hnb:bn T (n:Int)=true:=aV.2 ⟨by omega,hn⟩
 have hdb:bn T (d:Int)=true:=aV.2 ⟨by omega,hd⟩
 have hnx:=rh T [] n d
 rw[oO hv (j8 T) hnb hdb,Int.toNat_natCast,Int.toNat_natCast]at hnx
 unfold dx at hnx
 rw[if_pos rfl]at hnx
 have hlen:=AH hv [] n d
 have hmem:∀a∈bz T [] n d,∃k:Nat,a=(k:Int)∧k<2*T.af.length:=fun a ha=>by
  obtain⟨k,hk,hkn⟩:=cP ha
  exact⟨k,hk,hkn.fx⟩
 unfold mM
 obtain⟨l,hl⟩:∃l,bz T [] n d=l:=⟨_,rfl⟩
 rw[hl]at hnx hlen hmem ⊢
 have hix:=CN l own (by omega) (fun a ha=>by rw[hfo];exact hmem a ha)
 obtain⟨ix,hixe⟩:∃ix,FP own l 0=ix:=⟨_,rfl⟩
 have hih:=DD own l 0
 rw[hixe]at hix hih
 simp only[Nat.zero_add]at hih
 refine aE Tryz.func114 rfl Tryz.ntmps114 rfl<|aQ<|au 3 rfl<|aH [2,3,4,5,8] rfl ?_
 refine ab (.a 3 rfl<|.v (Dy rfl (an.cons aB.pure<|an.cons aB.bZ<|an.cons aB.pure<|an.cons aB.pure an.nil) (hnx)) rfl<|.a 5 rfl<|.k [2,3,4,5,8,9] rfl)<|ab (.a 1 rfl<|.v (dM rfl rfl) rfl<|.c rfl (hix) rfl<|.a 1 rfl<|.k [2,3,4,5,8,9,11] rfl)<|aj<|ab (.a 2 rfl<|.k [2,3,4,5,8,9,11,28] rfl)<|ah rfl (fun h3=>?_) (fun h3=>?_)
 ·have hno:kK own l=none:=by
   rcases hih with h|⟨j,_,h,_⟩
   ·exact h.2
   ·rw[h]at h3;have:=tt h3;omega
  rw[hno]
  refine aQ<|au 3 rfl<|aH [8] rfl ?_
  exact aq<|⟨_,_,ay.of rfl,aB.iH (an.cons (aB.pure (p:=aw l))<|an.cons aB.pure<|an.cons aB.bZ an.nil),rfl⟩
 ·obtain⟨j,hjl,rfl,ha⟩:∃j,j<l.length∧ix=((j:Nat):Int)∧kK own l=some (l.getD j 0):=by
   rcases hih with h|h
   ·rw[h.1]at h3;exact absurd h3 (by decide)
   ·exact h
  obtain⟨k,hkj,hk⟩:=hmem _ (bX (d:=0) hjl)
  rw[ha]
  simp only[]
  rw[hkj,Int.toNat_natCast]
  have hcm:(ao T&&bV T (da T k d).1 (da T k d).2)=true:=by rw[hv,uY hv hk];rfl
  have hcl:=Fj T k d hv hk hd
  have has:=xw T k hv hk
  have hmk:=fun σ=>A2 T (da T k d).1 (da T k d).2 hcm σ
  have hmx:o4 T own n d k=if gg T (orM T (aG T (da T k d).1 (da T k d).2) own) n d=true then orM T (aG T (da T k d).1 (da T k d).2) own else own:=rfl
  generalize da T k (d:Int)=cx at*
  obtain⟨ck,cy⟩:=cx
  simp only at hcm hcl hmk hmx
  have hMl:=eN T ck cy
  obtain⟨M,hM⟩:∃M,aG T ck cy=M:=⟨_,rfl⟩
  rw[hM]at hmk hmx hMl
  have hre:=we T (o4 T own n d k) n d hll h12
  rw[oO hv (vm hof k) hnb hdb]at hre
  clear h3 hmem hih hix hixe
  refine ak<|kE (bd (ks:=[2,3,4,5,8,9,11]) rfl) ?_
  refine rC ([(2,num n),(3,num d),(4,.aX (bx T) 0),(5,.aX [aY own] 0),(8,.ptr 0 0),(12,.own 1)]) ([some (.cells 76 [.raw (.slice none 0 0),flag false,.raw (.slice none 0 0)]),kH M]) mixed ?_ ?_
  ·refine tQ [[(2,num n),(3,num d),(4,.aX (bx T) 0),(5,.aX [aY own] 0),(8,.ptr 0 0),(9,aw l),(11,num j),(12,.own 1),(13,num 0),(31,.tuple [.own 1,num 0]),(32,aP T),(33,aP T),(34,aw l),(35,num j),(36,.aX (aO l) j),(37,num k),(38,.func 183 (jS (fK T k) (aT T k) ((k / 2:Nat):Int) (Hd T k) (Hc T k))),(39,num d),(40,bU ck cy),(41,.tuple [.own 1,num 0]),(42,.own 1),(43,num 0)]] [[some (.cells 76 [.raw (.slice none 0 0),flag false,.raw (.slice none 0 0)])],[some (.cells 76 [.raw (.slice none 0 0),flag false,.raw (.slice none 0 0)]),kH M]] [2,3,4,5,8,9,11] rfl (by kernel_rfl) (fun M hi ho=>?_)
   have μ0:M 0 32767 0 [2,3,4,5,8,12] 1:=hi<|qF rfl (by kernel_rfl) (⟨rfl,bd (ks:=[2,3,4,5,8,12]) rfl⟩)
   have μ1:M 1 16383 0 [2,3,4,5,8,12,43] 1:=hi<|aa [(14,32767)] rfl (by kernel_rfl)<|ag (ho μ0) rfl rfl ae
   have μ2:M 2 8191 0 [2,3,4,5,8,42,43] 1:=hi<|aa [(13,16383)] rfl (by kernel_rfl)<|ag (ho μ1) rfl rfl ae
   have μ3:M 2 12287 0 [2,3,4,5,8,12,31] 1:=hi<|aa [(12,16383)] rfl (by kernel_rfl)<|ag (ho μ1) rfl rfl ae
   have μ4:M 3 4095 0 [2,3,4,5,8,31,42] 1:=hi<|aa [(12,8191),(13,12287)] rfl (by kernel_rfl)<|ag (ho μ2) rfl rfl<|ag (ho μ3) rfl rfl ae
   have μ5:M 3 6143 0 [2,3,4,5,8,31,43] 1:=hi<|aa [(11,8191)] rfl (by kernel_rfl)<|ag (ho μ2) rfl rfl ae
   have μ6:M 4 2047 0 [2,3,4,5,8,31] 1:=hi<|aa [(11,4095),(12,6143)] rfl (by kernel_rfl)<|ag (ho μ4) rfl rfl<|ag (ho μ5) rfl rfl ae
   have μ7:M 5 1023 0 [2,3,4,5,8,41] 1:=hi<|aa [(10,2047)] rfl (by kernel_rfl)<|ag (ho μ6) rfl rfl ae
   have μ8:M 6 511 0 [2,3,4,5,8,32,40] 0:=hi<|aa [(9,1023)] rfl (by kernel_rfl)<|eJ rfl rfl rfl rfl (hmk _) (ho μ7) rfl rfl ae
   have μ9:M 7 255 0 [2,3,4,5,8,32,38,39] 0:=hi<|aa [(8,511)] rfl (by kernel_rfl)<|bf rfl rfl (dR rfl (hcl)) rfl (ho μ8) rfl rfl ae
   have μ10:M 8 127 0 [2,3,4,5,8,32,38] 0:=hi<|aa [(7,255)] rfl (by kernel_rfl)<|ag (ho μ9) rfl rfl ae
   have μ11:M 8 191 0 [2,3,4,5,8,32,33,37,39] 0:=hi<|aa [(6,255)] rfl (by kernel_rfl)<|bf rfl rfl (dR rfl (has)) rfl (ho μ9) rfl rfl ae
   have μ12:M 9 63 0 [2,3,4,5,8,32,33,37] 0:=hi<|aa [(6,127),(7,191)] rfl (by kernel_rfl)<|bf rfl rfl (dR rfl (has)) rfl (ho μ10) rfl rfl<|ag (ho μ11) rfl rfl ae
   have μ13:M 9 159 0 [2,3,4,5,8,32,33,36,39] 0:=hi<|aa [(5,191)] rfl (by kernel_rfl)<|bf rfl rfl (aN rfl ((aA l j hjl).trans (by rw[hkj]))) rfl (ho μ11) rfl rfl ae
   have μ14:M 10 31 0 [2,3,4,5,8,32,33,36] 0:=hi<|aa [(5,63),(7,159)] rfl (by kernel_rfl)<|bf rfl rfl (aN rfl ((aA l j hjl).trans (by rw[hkj]))) rfl (ho μ12) rfl rfl<|ag (ho μ13) rfl rfl ae
   have μ15:M 10 143 0 [2,3,4,5,8,32,33,34,35,39] 0:=hi<|aa [(4,159)] rfl (by kernel_rfl)<|bf rfl rfl (aL (j) rfl) rfl (ho μ13) rfl rfl ae
   have μ16:M 11 15 0 [2,3,4,5,8,32,33,34,35] 0:=hi<|aa [(4,31),(7,143)] rfl (by kernel_rfl)<|bf rfl rfl (aL (j) rfl) rfl (ho μ14) rfl rfl<|ag (ho μ15) rfl rfl ae
   have μ17:M 11 135 0 [2,3,4,5,8,11,32,33,34,39] 0:=hi<|aa [(3,143)] rfl (by kernel_rfl)<|ag (ho μ15) rfl rfl ae
   have μ18:M 12 7 0 [2,3,4,5,8,11,32,33,34] 0:=hi<|aa [(3,15),(7,135)] rfl (by kernel_rfl)<|ag (ho μ16) rfl rfl<|ag (ho μ17) rfl rfl ae
   have μ19:M 11 139 0 [2,3,4,5,8,9,32,33,35,39] 0:=hi<|aa [(2,143)] rfl (by kernel_rfl)<|ag (ho μ15) rfl rfl ae
   have μ20:M 12 11 0 [2,3,4,5,8,9,32,33,35] 0:=hi<|aa [(2,15),(7,139)] rfl (by kernel_rfl)<|ag (ho μ16) rfl rfl<|ag (ho μ19) rfl rfl ae
   have μ21:M 12 131 0 [2,3,4,5,8,9,11,32,33,39] 0:=hi<|aa [(2,135),(3,139)] rfl (by kernel_rfl)<|ag (ho μ17) rfl rfl<|ag (ho μ19) rfl rfl ae
   have μ22:M 13 3 0 [2,3,4,5,8,9,11,32,33] 0:=hi<|aa [(2,7),(3,11),(7,131)] rfl (by kernel_rfl)<|ag (ho μ18) rfl rfl<|ag (ho μ20) rfl rfl<|ag (ho μ21) rfl rfl ae
   have μ23:M 9 189 0 [2,3,4,5,8,32,37,39] 0:=hi<|aa [(1,191)] rfl (by kernel_rfl)<|ag (ho μ11) rfl rfl ae
   have μ24:M 10 61 0 [2,3,4,5,8,32,37] 0:=hi<|aa [(1,63),(7,189)] rfl (by kernel_rfl)<|ag (ho μ12) rfl rfl<|ag (ho μ23) rfl rfl ae
   have μ25:M 10 157 0 [2,3,4,5,8,32,36,39] 0:=hi<|aa [(1,159),(5,189)] rfl (by kernel_rfl)<|ag (ho μ13) rfl rfl<|bf rfl rfl (aN rfl ((aA l j hjl).trans (by rw[hkj]))) rfl (ho μ23) rfl rfl ae
   have μ26:M 11 29 0 [2,3,4,5,8,32,36] 0:=hi<|aa [(1,31),(5,61),(7,157)] rfl (by kernel_rfl)<|ag (ho μ14) rfl rfl<|bf rfl rfl (aN rfl ((aA l j hjl).trans (by rw[hkj]))) rfl (ho μ24) rfl rfl<|ag (ho μ25) rfl rfl ae
   have μ27:M 11 141 0 [2,3,4,5,8,32,34,35,39] 0:=hi<|aa [(1,143),(4,157)] rfl (by kernel_rfl)<|ag (ho μ15) rfl rfl<|bf rfl rfl (aL (j) rfl) rfl (ho μ25) rfl rfl ae
   have μ28:M 12 13 0 [2,3,4,5,8,32,34,35] 0:=hi<|aa [(1,15),(4,29),(7,141)] rfl (by kernel_rfl)<|ag (ho μ16) rfl rfl<|bf rfl rfl (aL (j) rfl) rfl (ho μ26) rfl rfl<|ag (ho μ27) rfl rfl ae
   have μ29:M 12 133 0 [2,3,4,5,8,11,32,34,39] 0:=hi<|aa [(1,135),(3,141)] rfl (by kernel_rfl)<|ag (ho μ17) rfl rfl<|ag (ho μ27) rfl rfl ae
   have μ30:M 13 5 0 [2,3,4,5,8,11,32,34] 0:=hi<|aa [(1,7),(3,13),(7,133)] rfl (by kernel_rfl)<|ag (ho μ18) rfl rfl<|ag (ho μ28) rfl rfl<|ag (ho μ29) rfl rfl ae
   have μ31:M 12 137 0 [2,3,4,5,8,9,32,35,39] 0:=hi<|aa [(1,139),(2,141)] rfl (by kernel_rfl)<|ag (ho μ19) rfl rfl<|ag (ho μ27) rfl rfl ae
   have μ32:M 13 9 0 [2,3,4,5,8,9,32,35] 0:=hi<|aa [(1,11),(2,13),(7,137)] rfl (by kernel_rfl)<|ag (ho μ20) rfl rfl<|ag (ho μ28) rfl rfl<|ag (ho μ31) rfl rfl ae
   have μ33:M 13 129 0 [2,3,4,5,8,9,11,32,39] 0:=hi<|aa [(1,131),(2,133),(3,137)] rfl (by kernel_rfl)<|ag (ho μ21) rfl rfl<|ag (ho μ29) rfl rfl<|ag (ho μ31) rfl rfl ae
   have μ34:M 14 1 0 [2,3,4,5,8,9,11,32] 0:=hi<|aa [(1,3),(2,5),(3,9),(7,129)] rfl (by kernel_rfl)<|ag (ho μ22) rfl rfl<|ag (ho μ30) rfl rfl<|ag (ho μ32) rfl rfl<|ag (ho μ33) rfl rfl ae
   have μ35:M 7 510 0 [2,3,4,5,8,40] 0:=hi<|aa [(0,511)] rfl (by kernel_rfl)<|ag (ho μ8) rfl rfl ae
   have μ36:M 8 254 0 [2,3,4,5,8,38,39] 0:=hi<|aa [(0,255),(8,510)] rfl (by kernel_rfl)<|ag (ho μ9) rfl rfl<|bf rfl rfl (dR rfl (hcl)) rfl (ho μ35) rfl rfl ae
   have μ37:M 9 126 0 [2,3,4,5,8,38] 0:=hi<|aa [(0,127),(7,254)] rfl (by kernel_rfl)<|ag (ho μ10) rfl rfl<|ag (ho μ36) rfl rfl ae
   have μ38:M 9 190 0 [2,3,4,5,8,33,37,39] 0:=hi<|aa [(0,191),(6,254)] rfl (by kernel_rfl)<|ag (ho μ11) rfl rfl<|bf rfl rfl (dR rfl (has)) rfl (ho μ36) rfl rfl ae
   have μ39:M 10 62 0 [2,3,4,5,8,33,37] 0:=hi<|aa [(0,63),(6,126),(7,190)] rfl (by kernel_rfl)<|ag (ho μ12) rfl rfl<|bf rfl rfl (dR rfl (has)) rfl (ho μ37) rfl rfl<|ag (ho μ38) rfl rfl ae
   have μ40:M 10 158 0 [2,3,4,5,8,33,36,39] 0:=hi<|aa [(0,159),(5,190)] rfl (by kernel_rfl)<|ag (ho μ13) rfl rfl<|bf rfl rfl (aN rfl ((aA l j hjl).trans (by rw[hkj]))) rfl (ho μ38) rfl rfl ae
   have μ41:M 11 30 0 [2,3,4,5,8,33,36] 0:=hi<|aa [(0,31),(5,62),(7,158)] rfl (by kernel_rfl)<|ag (ho μ14) rfl rfl<|bf rfl rfl (aN rfl ((aA l j hjl).trans (by rw[hkj]))) rfl (ho μ39) rfl rfl<|ag (ho μ40) rfl rfl ae
   have μ42:M 11 142 0 [2,3,4,5,8,33,34,35,39] 0:=hi<|aa [(0,143),(4,158)] rfl (by kernel_rfl)<|ag (ho μ15) rfl rfl<|bf rfl rfl (aL (j) rfl) rfl (ho μ40) rfl rfl ae
   have μ43:M 12 14 0 [2,3,4,5,8,33,34,35] 0:=hi<|aa [(0,15),(4,30),(7,142)] rfl (by kernel_rfl)<|ag (ho μ16) rfl rfl<|bf rfl rfl (aL (j) rfl) rfl (ho μ41) rfl rfl<|ag (ho μ42) rfl rfl ae
   have μ44:M 12 134 0 [2,3,4,5,8,11,33,34,39] 0:=hi<|aa [(0,135),(3,142)] rfl (by kernel_rfl)<|ag (ho μ17) rfl rfl<|ag (ho μ42) rfl rfl ae
   have μ45:M 13 6 0 [2,3,4,5,8,11,33,34] 0:=hi<|aa [(0,7),(3,14),(7,134)] rfl (by kernel_rfl)<|ag (ho μ18) rfl rfl<|ag (ho μ43) rfl rfl<|ag (ho μ44) rfl rfl ae
   have μ46:M 12 138 0 [2,3,4,5,8,9,33,35,39] 0:=hi<|aa [(0,139),(2,142)] rfl (by kernel_rfl)<|ag (ho μ19) rfl rfl<|ag (ho μ42) rfl rfl ae
   have μ47:M 13 10 0 [2,3,4,5,8,9,33,35] 0:=hi<|aa [(0,11),(2,14),(7,138)] rfl (by kernel_rfl)<|ag (ho μ20) rfl rfl<|ag (ho μ43) rfl rfl<|ag (ho μ46) rfl rfl ae
   have μ48:M 13 130 0 [2,3,4,5,8,9,11,33,39] 0:=hi<|aa [(0,131),(2,134),(3,138)] rfl (by kernel_rfl)<|ag (ho μ21) rfl rfl<|ag (ho μ44) rfl rfl<|ag (ho μ46) rfl rfl ae
   have μ49:M 14 2 0 [2,3,4,5,8,9,11,33] 0:=hi<|aa [(0,3),(2,6),(3,10),(7,130)] rfl (by kernel_rfl)<|ag (ho μ22) rfl rfl<|ag (ho μ45) rfl rfl<|ag (ho μ47) rfl rfl<|ag (ho μ48) rfl rfl ae
   have μ50:M 10 188 0 [2,3,4,5,8,37,39] 0:=hi<|aa [(0,189),(1,190)] rfl (by kernel_rfl)<|ag (ho μ23) rfl rfl<|ag (ho μ38) rfl rfl ae
   have μ51:M 11 60 0 [2,3,4,5,8,37] 0:=hi<|aa [(0,61),(1,62),(7,188)] rfl (by kernel_rfl)<|ag (ho μ24) rfl rfl<|ag (ho μ39) rfl rfl<|ag (ho μ50) rfl rfl ae
   have μ52:M 11 156 0 [2,3,4,5,8,36,39] 0:=hi<|aa [(0,157),(1,158),(5,188)] rfl (by kernel_rfl)<|ag (ho μ25) rfl rfl<|ag (ho μ40) rfl rfl<|bf rfl rfl (aN rfl ((aA l j hjl).trans (by rw[hkj]))) rfl (ho μ50) rfl rfl ae
   have μ53:M 12 28 0 [2,3,4,5,8,36] 0:=hi<|aa [(0,29),(1,30),(5,60),(7,156)] rfl (by kernel_rfl)<|ag (ho μ26) rfl rfl<|ag (ho μ41) rfl rfl<|bf rfl rfl (aN rfl ((aA l j hjl).trans (by rw[hkj]))) rfl (ho μ51) rfl rfl<|ag (ho μ52) rfl rfl ae
   have μ54:M 12 140 0 [2,3,4,5,8,34,35,39] 0:=hi<|aa [(0,141),(1,142),(4,156)] rfl (by kernel_rfl)<|ag (ho μ27) rfl rfl<|ag (ho μ42) rfl rfl<|bf rfl rfl (aL (j) rfl) rfl (ho μ52) rfl rfl ae
   have μ55:M 13 12 0 [2,3,4,5,8,34,35] 0:=hi<|aa [(0,13),(1,14),(4,28),(7,140)] rfl (by kernel_rfl)<|ag (ho μ28) rfl rfl<|ag (ho μ43) rfl rfl<|bf rfl rfl (aL (j) rfl) rfl (ho μ53) rfl rfl<|ag (ho μ54) rfl rfl ae
   have μ56:M 13 132 0 [2,3,4,5,8,11,34,39] 0:=hi<|aa [(0,133),(1,134),(3,140)] rfl (by kernel_rfl)<|ag (ho μ29) rfl rfl<|ag (ho μ44) rfl rfl<|ag (ho μ54) rfl rfl ae
   have μ57:M 14 4 0 [2,3,4,5,8,11,34] 0:=hi<|aa [(0,5),(1,6),(3,12),(7,132)] rfl (by kernel_rfl)<|ag (ho μ30) rfl rfl<|ag (ho μ45) rfl rfl<|ag (ho μ55) rfl rfl<|ag (ho μ56) rfl rfl ae
   have μ58:M 13 136 0 [2,3,4,5,8,9,35,39] 0:=hi<|aa [(0,137),(1,138),(2,140)] rfl (by kernel_rfl)<|ag (ho μ31) rfl rfl<|ag (ho μ46) rfl rfl<|ag (ho μ54) rfl rfl ae
   have μ59:M 14 8 0 [2,3,4,5,8,9,35] 0:=hi<|aa [(0,9),(1,10),(2,12),(7,136)] rfl (by kernel_rfl)<|ag (ho μ32) rfl rfl<|ag (ho μ47) rfl rfl<|ag (ho μ55) rfl rfl<|ag (ho μ58) rfl rfl ae
   have μ60:M 14 128 0 [2,3,4,5,8,9,11,39] 0:=hi<|aa [(0,129),(1,130),(2,132),(3,136)] rfl (by kernel_rfl)<|ag (ho μ33) rfl rfl<|ag (ho μ48) rfl rfl<|ag (ho μ56) rfl rfl<|ag (ho μ58) rfl rfl ae
   have μ61:M 15 0 0 [2,3,4,5,8,9,11] 0:=hi<|aa [(0,1),(1,2),(2,4),(3,8),(7,128)] rfl (by kernel_rfl)<|ag (ho μ34) rfl rfl<|ag (ho μ49) rfl rfl<|ag (ho μ57) rfl rfl<|ag (ho μ59) rfl rfl<|ag (ho μ60) rfl rfl ae
   exact μ61
  refine aj<|ab (.a 3 rfl<|.k [2,3,4,5,8,12,45,46] rfl)<|ej (σ':=[some (.cells 76 [.raw (.slice none 0 0),flag false,.raw (.slice none 0 0)]),kH (kJ T M own 0)]) (by rw[A8 hMl]) ?_
  refine av<|ft [2,3,4,5,8,12,45,46] rfl<|br (fun r s=>∃a,a≤2*T.af.length∧r=2*T.af.length - a∧s=⟨[(2,num n),(3,num d),(4,.aX (bx T) 0),(5,.aX [aY own] 0),(8,.ptr 0 0),(12,.own 1),(45,num M.length),(46,num a)],[some (.cells 76 [.raw (.slice none 0 0),flag false,.raw (.slice none 0 0)]),kH (kJ T M own a)]⟩) (2*T.af.length) ⟨0,by omega,by omega,rfl⟩ ?_
  rintro r s ⟨a,ha2,rfl,rfl⟩
  have hol:=qo T M own a
  refine ab (.a 1 rfl<|.k [2,3,4,5,8,12,45,46,47] rfl)<|aj<|ah rfl (fun h4=>?_) (fun h4=>?_)
  ·have hlt:a<2*T.af.length:=by have:=tt h4;omega
   have hst:=Bj T M own a
   have hat:=EX (T:=T) (D:=M) (E:=own) hlt
   clear h4
   refine ak<|aj<|av<|ab (.a 2 rfl<|.k [2,3,4,5,8,12,14,45,46] rfl) ?_
   obtain⟨c1,hc1⟩:∃q,aM M a=q:=⟨_,rfl⟩
   obtain⟨c2,hc2⟩:∃q,aM own a=q:=⟨_,rfl⟩
   rw[hc1,hc2]at hst
   rw[hc1]at hat
   refine H3 (Q1:=fun st=>st=⟨[(2,num n),(3,num d),(4,.aX (bx T) 0),(5,.aX [aY own] 0),(8,.ptr 0 0),(12,.own 1),(45,num M.length),(46,num a)],[some (.cells 76 [.raw (.slice none 0 0),flag false,.raw (.slice none 0 0)]),kH (kJ T M own (a+1))]⟩) ?_ ?_
   ·cases c1
    ·refine bF<|au 4 rfl<|bE (aL (a) rfl) rfl<|bE (aN rfl ((show(bQ (kJ T M own a))[a]? =some (flag false) by rw[cV _ a (by omega),hat]))) rfl<|au 3 rfl<|bE (aL (a) rfl) rfl<|bE (aN rfl ((show(bQ own)[a]? =some (flag c2) by rw[cV _ a (by omega),eO,hc2]))) rfl<|au 1 rfl<|bE (aL (a) rfl) rfl<|bc ((by first|exact bC rfl (bI.tk.get rfl) rfl rfl rfl (by first|omega|(simp;omega))|exact aW rfl (bI.tk.get rfl) rfl rfl rfl (by first|omega|(simp;omega)))) rfl rfl<|aH [2,3,4,5,8,12,45,46] rfl ?_
     rw[←hst]
     unfold kH
     rw[List.length_set]
     rfl
    ·refine bF<|au 4 rfl<|bE (aL (a) rfl) rfl<|bE (aN rfl ((show(bQ (kJ T M own a))[a]? =some (flag true) by rw[cV _ a (by omega),hat]))) rfl<|au 6 rfl<|bE (aL (a) rfl) rfl<|bc ((by first|exact bC rfl (bI.tk.get rfl) rfl rfl rfl (by first|omega|(simp;omega))|exact aW rfl (bI.tk.get rfl) rfl rfl rfl (by first|omega|(simp;omega)))) rfl rfl<|aH [2,3,4,5,8,12,45,46] rfl ?_
     rw[←hst]
     unfold kH
     rw[List.length_set]
     rfl
   rintro _ rfl
   refine az (.v (aS rfl) rfl<|.a 1 rfl<|.k [2,3,4,5,8,12,45,46] rfl) ?_
   exact⟨2*T.af.length - (a+1),by omega,a+1,by omega,rfl,rfl⟩
  ·have hae:a=2*T.af.length:=by have:=ff h4;omega
   subst hae
   rw[B5]
   clear h4
   refine bg<|aj<|Da 12 1 rfl rfl ?_
   refine cZ [0] (.c 2<|.c 3<|.c 4<|.c 5<|.c 8<|.c 12<|.nil) (.kept rfl (.cells (aD.c<|aD.c<|aD.c<|aD.nil))<|.nil) rfl rfl ?_
   obtain⟨q,hq⟩:∃q,gg T (orM T M own) n d=q:=⟨_,rfl⟩
   rw[hq]at hmx
   refine ab (.a 4 rfl<|.c rfl (hq▸xU T (orM T M own) n d) rfl<|.a 1 rfl<|.k [2,3,4,5,8,12,68] rfl)<|ah rfl (fun h5=>?_) (fun h5=>?_)
   ·have h5:q=false:=by simpa using h5
    rw[h5,if_neg (by simp)]at hmx
    rw[hmx]at hre ⊢
    refine az (.a 2 rfl<|.k [2,3,4,8,12] rfl) ?_
    refine aQ<|au 4 rfl<|eA rfl (hre) rfl<|au 6 rfl<|aH [8,15] rfl ?_
    refine aQ<|au 2 rfl<|aH [8] rfl ?_
    exact aq<|⟨_,_,ay.of rfl,aB.pure (p:=wN _),rfl⟩
   ·have h5:q=true:=by simpa using h5
    rw[h5,if_pos rfl]at hmx
    rw[hmx]at hre ⊢
    refine ak<|aQ<|au 4 rfl<|eA rfl (hre) rfl<|au 6 rfl<|aH [8,15] rfl ?_
    refine aQ<|au 2 rfl<|aH [8] rfl ?_
    exact aq<|⟨_,_,ay.of rfl,aB.pure (p:=wN _),rfl⟩
def mw(T:ai)(M:List Bool)(o:List Int)(i:Nat):List Bool:=(List.range (2*T.af.length)).map fun(b:Nat)=>decide ((b:Int)∈o.take i)&&aM M b
theorem Cl(T:ai)(M:List Bool)(o:List Int)(i:Nat):(mw T M o i).length=2*T.af.length:=by simp[mw]
theorem rA{T:ai}{M:List Bool}{o:List Int}{i b:Nat}(h:b<(mw T M o i).length):(mw T M o i)[b]=(decide ((b:Int)∈o.take i)&&aM M b):=by simp[mw]
theorem At(T:ai)(M:List Bool)(o:List Int):mw T M o 0=List.replicate (2*T.af.length) false:=by
 apply List.ext_getElem (by simp[mw])
 intro i h1 h2
 rw[rA]
 simp
theorem AR{T:ai}{M:List Bool}{o:List Int}{i k:Nat}(hi:i<o.length)(hk:o.getD i 0=(k:Int))(hkl:k<2*T.af.length):mw T M o (i+1)=if aM M k then(mw T M o i).set k true else mw T M o i:=by
 have hmem:∀b:Nat,((b:Int)∈o.take (i+1))↔((b:Int)∈o.take i∨b=k):=fun b=>by
  rw[dH o i 0 hi,List.mem_append,List.mem_singleton,hk]
  exact⟨fun h=>h.imp id (fun e=>by omega),fun h=>h.imp id (fun e=>by omega)⟩
 split
 ·rename_i hd
  apply List.ext_getElem (by simp[mw])
  intro b h1 h2
  rw[rA,List.getElem_set]
  by_cases e:k=b
  ·subst e
   rw[if_pos rfl,decide_eq_true ((hmem k).2 (.inr rfl)),hd]
   rfl
  ·rw[if_neg e,rA]
   congr 1
   exact decide_eq_decide.2 ((hmem b).trans ⟨fun h=>h.resolve_right (fun e'=>e e'.symm),.inl⟩)
 ·rename_i hd
  unfold mw
  refine List.map_congr_left fun b _=>?_
  by_cases e:b=k
  ·subst e
   rw[Bool.eq_false_iff.2 hd]
   simp
  ·congr 1
   exact decide_eq_decide.2 ((hmem b).trans ⟨fun h=>h.resolve_right e,.inl⟩)
theorem Dr(T:ai)(M:List Bool)(n:Int):mw T M (bJ T n) (bJ T n).length=fE T M n:=by
 unfold mw fE
 refine List.map_congr_left fun b hb=>?_
 have hb:=List.mem_range.1 hb
 rw[List.take_length,Bool.and_comm]
 congr 1
 refine decide_eq_decide.2 (i6.trans ⟨fun h=>by have:=h.2;rwa [Int.toNat_natCast]at this,fun h=>⟨dc.2 (by omega),by rw[Int.toNat_natCast];exact h⟩⟩)
set_option maxHeartbeats 2000000 in
theorem AB(T:ai)(k x n:Int)(h12:T.nodes≤12):Can Tryz.prog 55 [aP T,bU k x,num n] (· =jC (if dL T k x=0 then(if bn T n then 0 else 2) else 1) (rH T (aG T k x) n.toNat)):=by
 have hmk:=lq T k x
 unfold iu at hmk
 refine aE Tryz.func55 rfl Tryz.ntmps55 rfl<|aQ<|au 4 rfl<|aH [2,3,4,6] rfl ?_
 refine ab (.a 2 rfl<|.c rfl (hmk) rfl<|.a 5 rfl<|.k [2,3,6,8,9] rfl)<|aj<|ab (.a 2 rfl<|.k [2,3,6,8,9,22] rfl)<|ah rfl (fun h1=>?_) (fun h1=>?_)
 ·have h1:=tt h1
  rw[if_neg h1]
  have h1':=vi h1
  rw[h1']
  refine aQ<|au 4 rfl<|aH [6,7] rfl ?_
  exact aq<|⟨_,_,ay.of rfl,aB.bG (an.cons (aB.iH (an.cons aB.pure<|an.cons aB.bZ<|an.cons aB.bZ an.nil)) (an.cons aB.pure an.nil)),rfl⟩
 ·have h1:dL T k x=0:=Classical.byContradiction (ff h1)
  obtain⟨hv,hc⟩:=Bool.and_eq_true_iff.1 (oX h1)
  rw[if_pos h1,if_pos h1]
  have hll:=bO hv
  refine ak<|aj<|ab (.a 2 rfl<|.c rfl (dp T n) rfl<|.a 1 rfl<|.k [2,3,6,8,28] rfl)<|ah rfl (fun h2=>?_) (fun h2=>?_)
  ·have hn:bn T n=false:=by simpa using h2
   rw[hn]
   refine aQ<|au 3 rfl<|aH [6,7] rfl ?_
   exact aq<|⟨_,_,ay.of rfl,aB.bG (an.cons (aB.iH (an.cons aB.pure<|an.cons aB.bZ<|an.cons aB.bZ an.nil)) (an.cons aB.pure an.nil)),rfl⟩
  ·have hn:bn T n=true:=by simpa using h2
   rw[hn,if_pos rfl]
   rw[aV]at hn
   obtain⟨m,rfl⟩:=Int.eq_ofNat_of_zero_le hn.1
   rw[Int.toNat_natCast]
   obtain⟨N,hN⟩:∃N:Nat,T.nodes=(N:Int):=⟨T.nodes.toNat,by omega⟩
   have hMl:=eN T k x
   obtain⟨M,hM⟩:∃M,aG T k x=M:=⟨_,rfl⟩
   rw[hM]at hMl ⊢
   have hol:(bJ T m).length≤512:=Nat.le_trans (ek T m _) (by omega)
   clear h2 hmk
   refine ak<|aQ<|au 4 rfl<|aH [2,3,6,8,10] rfl ?_
   refine cp 1 1 76 3 rfl rfl ?_
   refine cp 1 2 3 1 rfl rfl ?_
   refine aQ<|au 1 rfl<|eA rfl (gX T (by omega)) rfl<|cn (dD rfl (bI.rk.get rfl) rfl rfl (show 2*(T.af.length:Int)=((2*T.af.length:Nat):Int) by omega) (show 2*(T.af.length:Int)=((2*T.af.length:Nat):Int) by omega) ⟨by unfold maxLen;omega,by omega⟩) rfl<|au 1 rfl<|aH [2,3,6,8,10,11] rfl ?_
   refine aj<|ab (.a 2 rfl<|.c rfl (nP T hll _) rfl<|.a 2 rfl<|.k [2,3,6,8,10,11,37,38,39] rfl)<|av<|ft [2,3,6,8,10,11,37,38,39] rfl<|ej (σ':=[some (.cells 56 [num 0,.raw (.slice none 0 0),.raw (.slice none 0 0)]),some (.cells 56 [num m,.own 2,.own 3]),some (.row 76 3 0 []),some (.row 3 1 0 []),some (.row 4 1 (2*T.af.length) (bQ (mw T M (bJ T m) 0)))]) (by rw[At,←gT];rfl) ?_
   refine br (fun r s=>∃i,i≤(bJ T m).length∧r=(bJ T m).length - i∧s=⟨[(2,num m),(3,.aX (bx T) 0),(6,.ptr 0 0),(8,aY M),(10,.ptr 1 0),(11,.own 4),(37,aw (bJ T m)),(38,num (bJ T m).length),(39,num i)],[some (.cells 56 [num 0,.raw (.slice none 0 0),.raw (.slice none 0 0)]),some (.cells 56 [num m,.own 2,.own 3]),some (.row 76 3 0 []),some (.row 3 1 (cF M ((bJ T m).take i)).length (aO (cF M ((bJ T m).take i)))),some (.row 4 1 (2*T.af.length) (bQ (mw T M (bJ T m) i)))]⟩) (bJ T m).length ⟨0,by omega,by omega,rfl⟩ ?_
   rintro r s ⟨i,hi,rfl,rfl⟩
   skip
   refine ab (.a 1 rfl<|.k [2,3,6,8,10,11,37,38,39,40] rfl)<|aj<|ah rfl (fun h3=>?_) (fun h3=>?_)
   ·have hlt:i<(bJ T m).length:=by have:=tt h3;omega
    obtain⟨a0,a1⟩:=jX (bX (d:=0) hlt)
    obtain⟨a,ha⟩:=Int.eq_ofNat_of_zero_le a0
    have hal:a<2*T.af.length:=by omega
    have hstep:cF M ((bJ T m).take (i+1))=cF M ((bJ T m).take i)++(if aM M a then [(a:Int)] else []):=by
     unfold cF
     rw[dH _ i 0 hlt,List.filter_append,ha]
     simp only[List.filter_cons,List.filter_nil,Int.toNat_natCast]
    have hdl:(cF M ((bJ T m).take i)).length≤1000:=Nat.le_trans (List.length_filter_le _ _) (by rw[List.length_take];omega)
    have hds:=AR (T:=T) (M:=M) hlt ha hal
    have hdn:=Cl T M (bJ T m) i
    obtain⟨q,hq⟩:∃q,aM M a=q:=⟨_,rfl⟩
    rw[hq]at hstep hds
    clear h3
    refine ak<|aj<|av<|ab (.v (aL (i) rfl) rfl<|.v (aN rfl ((aA _ i hlt).trans (by rw[ha]))) rfl<|.a 1 rfl<|.k [2,3,6,8,10,11,13,37,38,39] rfl)<|ab (.a 2 rfl<|.v (aL (a) rfl) rfl<|.v (aN rfl ((show(bQ M)[a]? =some (flag q) by rw[cV _ a (by omega),eO,hq]))) rfl<|.k [2,3,6,8,10,11,13,37,38,39,46] rfl)<|ah rfl (fun h4=>?_) (fun h4=>?_)
    ·subst h4
     rw[if_pos rfl]at hstep hds
     refine aQ<|au 2 rfl<|bE (aL (a) rfl) rfl<|bc ((by first|exact bC rfl (bI.tk.get rfl) rfl rfl rfl (by first|omega|(simp;omega))|exact aW rfl (bI.tk.get rfl) rfl rfl rfl (by first|omega|(simp;omega)))) rfl rfl<|aH [2,3,6,8,10,11,13,37,38,39] rfl ?_
     refine bF<|au 4 rfl<|cn (bA rfl (bI.rk.get rfl) rfl rfl rfl rfl (by unfold maxLen;omega)) rfl<|au 2 rfl ?_
     refine ep [0,1,2,5,4] (.c 2<|.c 3<|.c 6<|.c 8<|.c 10<|.c 11<|.c 37<|.c 38<|.c 39<|.nil) (.kept rfl (.cells (aD.c<|aD.c<|aD.c<|aD.nil))<|.kept rfl (.cells (aD.c<|aD.c<|aD.c<|aD.nil))<|.kept rfl (.row aD.pure)<|.kept rfl (.fj rfl (df _ _))<|.kept rfl (.row aD.pure)<|.nil) rfl rfl (aZ ?_)
     refine az (.v (aS rfl) rfl<|.a 1 rfl<|.k [2,3,6,8,10,11,37,38,39] rfl) ?_
     refine⟨(bJ T m).length - (i+1),by omega,i+1,by omega,rfl,?_⟩
     rw[hstep,hds]
     first
      |rfl
      |(simp only[List.length_append,List.length_singleton];rfl)
    ·subst h4
     rw[if_neg (by simp),List.append_nil]at hstep
     rw[if_neg (by simp)]at hds
     refine ak<|az (.v (aS rfl) rfl<|.a 1 rfl<|.k [2,3,6,8,10,11,37,38,39] rfl) ?_
     refine⟨(bJ T m).length - (i+1),by omega,i+1,by omega,rfl,?_⟩
     rw[hstep,hds]
     first
      |rfl
      |(simp only[List.length_append,List.length_singleton];rfl)
   ·have hie:i=(bJ T m).length:=by have:=ff h3;omega
    subst hie
    rw[Dr,List.take_length]
    clear h3
    refine bg<|aj ?_
    have hown:(fE T M m).length=2*T.af.length:=by simp[fE]
    unfold rH
    obtain⟨own,howe⟩:∃own,fE T M m=own:=⟨_,rfl⟩
    rw[howe]at hown ⊢
    obtain⟨dl,hdl⟩:∃dl,cF M (bJ T m)=dl:=⟨_,rfl⟩
    rw[hdl]
    refine cZ [0,1,2,3,4] (.c 2<|.c 3<|.c 6<|.c 10<|.c 11<|.nil) (.kept rfl (.cells (aD.c<|aD.c<|aD.c<|aD.nil))<|.kept rfl (.cells (aD.c<|aD.c<|aD.c<|aD.nil))<|.kept rfl (.row aD.pure)<|.kept rfl (.row aD.pure)<|.kept rfl (.fj (show 2*T.af.length=own.length by omega) rfl)<|.nil) rfl rfl ?_
    refine Da 11 4 rfl rfl ?_
    refine cZ [0,1,2,3] (.c 2<|.c 3<|.c 6<|.c 10<|.c 11<|.nil) (.kept rfl (.cells (aD.c<|aD.c<|aD.c<|aD.nil))<|.kept rfl (.cells (aD.c<|aD.c<|aD.c<|aD.nil))<|.kept rfl (.row aD.pure)<|.kept rfl (.row aD.pure)<|.nil) rfl rfl ?_
    refine ab (.a 1 rfl<|.v (aN rfl ((show some (num T.nodes)=some (num (N:Int)) by rw[hN]))) rfl<|.a 1 rfl<|.k [2,3,6,10,11,58,59] rfl)<|av<|ft [2,3,6,10,11,58,59] rfl<|br (fun r s=>∃j,j≤N∧r=N - j∧s=⟨[(2,num m),(3,.aX (bx T) 0),(6,.ptr 0 0),(10,.ptr 1 0),(11,aY own),(58,num N),(59,num j)],[some (.cells 56 [num 0,.raw (.slice none 0 0),.raw (.slice none 0 0)]),some (.cells 56 [num m,.own 2,.own 3]),some (.row 76 3 j (dA (oq T own m j))),some (.row 3 1 dl.length (aO dl))]⟩) N ⟨0,by omega,by omega,rfl⟩ ?_
    rintro r s ⟨j,hj,rfl,rfl⟩
    refine ab (.a 1 rfl<|.k [2,3,6,10,11,58,59,60] rfl)<|aj<|ah rfl (fun h3=>?_) (fun h3=>?_)
    ·have hlt:j<N:=by have:=tt h3;omega
     have hre:=Cr T own m j hv hown hn.2 (by omega) h12
     refine ak<|aj<|av<|ab (.a 2 rfl<|.k [2,3,6,10,11,14,58,59] rfl)<|dU 8 20 mixed (
      .val [10] rfl (bw rfl) rfl rfl<|
      .val [62] rfl (bw rfl) rfl rfl<|
      .val [3] rfl (bw rfl) rfl rfl<|
      .val [11] rfl (bw rfl) rfl rfl<|
      .val [2] rfl (bw rfl) rfl rfl<|
      .val [14] rfl (bw rfl) rfl rfl<|
      .val [64,65,66,67] rfl (dR rfl (hre)) rfl rfl<|
      .val [68] rfl (bw rfl) rfl rfl<|
      .nil) (by kernel_rfl) rfl rfl (bd (ks:=[2,3,6,10,11,58,59,63,69]) rfl) ?_
     refine cn (bA rfl (bI.rk.get rfl) rfl rfl rfl rfl (by unfold maxLen;omega)) rfl<|au 2 rfl ?_
     refine ep [0,1,4,3] (.c 2<|.c 3<|.c 6<|.c 10<|.c 11<|.c 58<|.c 59<|.nil) (.kept rfl (.cells (aD.c<|aD.c<|aD.c<|aD.nil))<|.kept rfl (.cells (aD.c<|aD.c<|aD.c<|aD.nil))<|.kept rfl (.fj rfl (show _=dA (oq T own m (j+1)) by rw[Ae];exact mN _ _))<|.kept rfl (.row aD.pure)<|.nil) rfl rfl (aZ ?_)
     refine az (.v (aS rfl) rfl<|.a 1 rfl<|.k [2,3,6,10,11,58,59] rfl) ?_
     exact⟨N - (j+1),by omega,j+1,by omega,rfl,rfl⟩
    ·have hje:j=N:=by have:=ff h3;omega
     subst hje
     refine bg<|aQ<|bE (fv (ys:=[num m,.own 2,.own 3]) rfl (bI.tk.get rfl) rfl rfl rfl rfl) rfl<|au 2 rfl<|aH [6,7] rfl ?_
     refine aq<|⟨_,_,ay.of rfl,aB.bG (an.cons (aB.iH (an.cons aB.pure<|an.cons (aB.ew rfl an.pure)<|an.cons (aB.ew rfl an.pure) an.nil)) (an.cons aB.pure an.nil)),?_⟩
     unfold jC fN fT jQ aw
     rw[if_pos rfl,p6,show T.nodes.toNat=j by omega]
end PW
end Go.Proofs.YtnegbdpggideiaaGreatDoor
namespace Go.Proofs.YtnegbdpggideiaaGreatDoor
namespace PW
open Go.RowKit cB Mem Net eW
namespace Ao
def IE(T:ai)(D:List Bool)(d:Nat)(L:List Int)(a:Nat):List Int:=
 if(!aM D a)&&decide (0≤L.getD (aT T a).toNat 0)&&(decide (aT T a=(d:Int))|| !cR T (aT T a).toNat)&&(decide (L.getD (bb T a).toNat 0<0)||decide (L.getD (aT T a).toNat 0+ca T a<L.getD (bb T a).toNat 0))
 then L.set (bb T a).toNat (L.getD (aT T a).toNat 0+ca T a) else L
def dC(T:ai)(D:List Bool)(d:Nat):List Int:=(List.range T.nodes.toNat).foldl (fun L _=>(List.range (2*T.af.length)).foldl (IE T D d) L) ((List.replicate T.nodes.toNat (-1)).set d 0)
def Gt(T:ai)(D:List Bool)(n:Nat)(out:List Int)(a:Nat):Bool:= !aM D a&&decide (0≤at' out (cK T false a))&&(decide (cK T false a=(n:Int))|| !cR T (cK T false a).toNat)
def HX(T:ai)(D:List Bool)(n:Nat)(out:List Int):Bool:=
 decide (out.length=T.nodes.toNat)&&decide (at' out (n:Int)=0)&&(List.range T.nodes.toNat).all (fun x=>decide (-1≤at' out (x:Int)))&&
 (List.range (2*T.af.length)).all (fun a=> !Gt T D n out a||(decide (0≤at' out (fp T false a))&&decide (at' out (fp T false a)≤at' out (cK T false a)+ca T a)))&&
 (List.range T.nodes.toNat).all (fun x=>decide (x=n)||decide (at' out (x:Int)<0)||(List.range (2*T.af.length)).any fun a=>decide (fp T false a=(x:Int))&&Gt T D n out a&&decide (at' out (x:Int)=at' out (cK T false a)+ca T a))
def nC(T:ai)(D:List Bool):Bool:=(List.range T.nodes.toNat).all fun d=>HX T D d (dC T D d)
theorem uf(T:ai)(D:List Bool)(n:Nat)(out:List Int)(a:Nat):Net.Way T D n false out a↔Gt T D n out a=true:=by
 unfold Net.Way Gt
 simp[and_assoc]
theorem G6{T:ai}{D:List Bool}(hv:ao T=true){n:Nat}{out:List Int}(h:HX T D n out=true):ir T D n false out:=by
 have hN:=(aK hv).nodes
 simp only[HX,Bool.and_eq_true,decide_eq_true_eq,List.all_eq_true,List.mem_range,Bool.or_eq_true,Bool.not_eq_true',List.any_eq_true]at h
 obtain⟨⟨⟨⟨h1,h2⟩,h3⟩,h4⟩,h5⟩:=h
 refine⟨by rw[h1];omega,h2,fun x hx=>h3 x (by omega),fun a ha hw=>?_,fun x hx h0=>?_⟩
 ·rcases h4 a ha with h|h
  ·rw[(uf T D n out a).1 hw]at h;cases h
  ·exact h
 ·rcases h5 x (by omega)with(h|h)|⟨a,ha,⟨h6,h7⟩,h8⟩
  ·exact .inl h
  ·omega
  ·exact .inr ⟨a,ha,h6,(uf T D n out a).2 h7,h8⟩
theorem Gm{T:ai}{D:List Bool}(hv:ao T=true)(h:nC T D=true){d:Nat}(hd:(d:Int)<T.nodes):bu T D d false=dC T D d:=by
 refine jF (aK hv) (G6 hv ?_)
 simp only[nC,List.all_eq_true,List.mem_range]at h
 exact h d (by omega)
def kF(T:ai)(D:List Bool)(n d:Nat):List Int:=if n=d∨(dC T D d).getD n 0<0 then [] else kC T D (dC T D d) ((dC T D d).getD n 0) d (bJ T n)
theorem next{T:ai}{D:List Bool}(hv:ao T=true)(h:nC T D=true){n d:Nat}(hd:(d:Int)<T.nodes):bz T D n d=kF T D n d:=by
 unfold bz kF;rw[Gm hv h hd]
def ux(T:ai)(D:List Bool)(d:Nat):Nat→Nat→List Int
 |0,_=>[]
 |f+1,n=>match kF T D n d with
  | []=>[]
  |a::_=>a::ux T D d f (aT T a.toNat).toNat
def qi(T:ai)(D:List Bool)(n d:Nat):List Int:=ux T D d ((dC T D d).getD n 0).toNat n
theorem first{T:ai}{D:List Bool}(hv:ao T=true)(h:nC T D=true){d:Nat}(hd:(d:Int)<T.nodes):∀f n,fi T D d f n=ux T D d f n
 |0,_=>rfl
 |f+1,n=>by
  simp only[fi,ux,next hv h hd]
  cases kF T D n d with
  |nil=>rfl
  |cons a l=>simp only[first hv h hd f]
theorem IH{T:ai}{D:List Bool}(hv:ao T=true)(h:nC T D=true){n d:Nat}(hd:(d:Int)<T.nodes):cg T D n d=qi T D n d:=by
 unfold cg qi dN;rw[Gm hv h hd,first hv h hd]
def Gr(T:ai)(D:List Bool)(s d:Int):Int:=if cc T D s d=0 then(if(dC T D d.toNat).getD s.toNat 0<0 then 11 else 0) else cc T D s d
theorem pP{T:ai}{D:List Bool}{s d:Int}(h:cc T D s d=0):(d.toNat:Int)<T.nodes∧0≤d:=by
 obtain⟨_,_,_,h4⟩:=fm h
 rw[aV]at h4
 omega
theorem Jq{T:ai}{D:List Bool}(hv:ao T=true)(h:nC T D=true)(s d:Int):gv T D s d=Gr T D s d:=by
 unfold gv Gr dN
 by_cases h0:cc T D s d=0
 ·rw[if_pos h0,if_pos h0,Gm hv h (pP h0).1]
 ·rw[if_neg h0,if_neg h0]
def xR(T:ai)(D:List Bool)(d:Nat):Nat→Nat→Int
 |0,m=>if m=d then 1 else 0
 |f+1,m=>if m=d then 1 else(kF T D m d).foldl (fun c a=>min 2 (c+xR T D d f (aT T a.toNat).toNat)) 0
theorem mj{T:ai}{D:List Bool}(hv:ao T=true)(h:nC T D=true){d:Nat}(hd:(d:Int)<T.nodes):∀f m,mv T D d f m=xR T D d f m
 |0,_=>rfl
 |f+1,m=>by
  simp only[mv,xR,next hv h hd]
  split
  ·rfl
  ·exact foldl_congr fun c a _=>by rw[mj hv h hd f]
def BE(T:ai)(D:List Bool)(n:Int)(p:List Int)(i j:Nat):Bool:=
 decide ((dC T D (cE T n (p.take j)).toNat).getD (cE T n (p.take i)).toNat 0=cY T (p.take j) - cY T (p.take i))&&(decide (cc T D (cE T n (p.take i)) (cE T n (p.take j))=0)&&decide (xR T D (cE T n (p.take j)).toNat ((dC T D (cE T n (p.take j)).toNat).getD (cE T n (p.take i)).toNat 0).toNat (cE T n (p.take i)).toNat=1))
theorem Jl{T:ai}{D:List Bool}(hv:ao T=true)(h:nC T D=true)(n:Int)(p:List Int)(i j:Nat):fr T D n p i j=BE T D n p i j:=by
 unfold fr BE fy dK dN
 by_cases h0:cc T D (cE T n (p.take i)) (cE T n (p.take j))=0
 ·rw[Gm hv h (pP h0).1,mj hv h (pP h0).1]
 ·rw[decide_eq_false h0];simp
def D0(T:ai)(D:List Bool)(n:Int)(p:List Int):Nat→Nat→List b7
 |0,_=>[]
 |f+1,i=>if i<p.length then(match kI (BE T D n p i) i p.length with
  |some j=>⟨1,cE T n (p.take j)⟩::D0 T D n p f j
  |none=>⟨2,p.getD i 0⟩::D0 T D n p f (i+1)) else []
theorem EL{T:ai}{D:List Bool}(hv:ao T=true)(h:nC T D=true)(n:Int)(p:List Int):∀f i,ik T D n p f i=D0 T D n p f i
 |0,_=>rfl
 |f+1,i=>by
  have:fr T D n p i=BE T D n p i:=funext fun j=>Jl hv h n p i j
  simp only[ik,D0,this]
  split
  ·cases kI (BE T D n p i) i p.length with
   |none=>simp only[EL hv h n p f]
   |some j=>simp only[EL hv h n p f]
  ·rfl
def Im(T:ai)(D:List Bool)(n d:Int):iC:=
 if Gr T D n d=0∧n≠d then⟨[(qi T D n.toNat d.toNat).getD 0 0],true,jm (D0 T [] n (qi T D n.toNat d.toNat) (qi T D n.toNat d.toNat).length 0)⟩ else⟨[],false,[]⟩
theorem D1{T:ai}{D:List Bool}(hv:ao T=true)(h0:nC T []=true)(h:nC T D=true)(n d:Int):jB T D n d=Im T D n d:=by
 unfold jB Im
 rw[Jq hv h]
 by_cases hd:(d.toNat:Int)<T.nodes
 ·unfold iE
  rw[IH hv h hd,EL hv h0]
 ·have:¬Gr T D n d=0:=by
   unfold Gr
   intro hh
   split at hh
   ·rename_i h1;exact hd (pP h1).1
   ·rename_i h1;exact h1 hh
  rw[if_neg (fun hh=>this hh.1),if_neg (fun hh=>this hh.1)]
def jS(T:ai)(a:Nat)(d:Int):Int×Int:=
 if(decide (0<fK T a)&&decide (Gr T (aG T 3 (fK T a)) (bb T a) d=0))=true then(3,fK T a)
 else if(decide (aT T a≠d)&&decide (Gr T (aG T 2 (aT T a)) (bb T a) d=0))=true then(2,aT T a)
 else(1,((a / 2:Nat):Int))
theorem J9{T:ai}(hv:ao T=true){a:Nat}(h3:nC T (aG T 3 (fK T a))=true)(h2:nC T (aG T 2 (aT T a))=true)(d:Int):da T a d=jS T a d:=by
 unfold da jS gg
 rw[Jq hv h3,Jq hv h2]
end Ao
end PW
end Go.Proofs.YtnegbdpggideiaaGreatDoor
namespace Go.Proofs.YtnegbdpggideiaaGreatDoor
namespace PW
open Go.RowKit cB Mem Net eW
namespace Ao
def tM(T:ai)(D:List Bool)(n:Nat):ee:=⟨n,(List.range T.nodes.toNat).map fun(d:Nat)=>⟨kF T D n d,false,[]⟩,cF D (bJ T n)⟩
theorem Dw{T:ai}{D:List Bool}(hv:ao T=true)(h:nC T D=true)(n:Nat):dE T D n=tM T D n:=by
 have hN:=(aK hv).nodes
 unfold dE tM oa
 congr 1
 refine List.map_congr_left fun d hd=>?_
 have:=List.mem_range.1 hd
 rw[next hv h (by omega)]
end Ao
def tZ:List Bool:=[true,true,false,false,false,false,false,false]
theorem lY:Ao.nC cM []=true:=by kernel_rfl
def Hw:ee:=⟨3,[⟨[6],false,[]⟩,⟨[5,6],false,[]⟩,⟨[5],false,[]⟩,⟨[],false,[]⟩],[]⟩
theorem DB:dE cM [] 3=Hw:=(Ao.Dw kd lY 3).trans (by kernel_rfl)
end PW
end Go.Proofs.YtnegbdpggideiaaGreatDoor
namespace Go.Proofs.YtnegbdpggideiaaGreatDoor
namespace PW
open Go.RowKit cB Mem Net eW
namespace Ao
def GX(T:ai)(own:List Bool)(n d:Int)(a:Nat):List Bool:=
 if Gr T (orM T (aG T (jS T a d).1 (jS T a d).2) own) n d=0 then orM T (aG T (jS T a d).1 (jS T a d).2) own else own
def H6(T:ai)(own:List Bool)(n d:Nat):iC:=match kK own (kF T [] n d)with
 |none=>⟨kF T [] n d,false,[]⟩
 |some a=>Im T (GX T own n d a.toNat) n d
def Iq(T:ai)(own:List Bool)(n d:Nat):Bool:=match kK own (kF T [] n d)with
 |none=>true
 |some a=>nC T (aG T 3 (fK T a.toNat))&&nC T (aG T 2 (aT T a.toNat))&&nC T (orM T (aG T (jS T a.toNat d).1 (jS T a.toNat d).2) own)&&nC T (GX T own n d a.toNat)
theorem rep{T:ai}{own:List Bool}{n d:Nat}(hv:ao T=true)(h0:nC T []=true)(hd:(d:Int)<T.nodes)(h:Iq T own n d=true):mM T own n d=H6 T own n d:=by
 unfold mM H6
 unfold Iq at h
 rw[next hv h0 hd]
 cases hh:kK own (kF T [] n d)with
 |none=>rfl
 |some a=>
  rw[hh]at h
  simp only[Bool.and_eq_true]at h
  obtain⟨⟨⟨h1,h2⟩,h3⟩,h4⟩:=h
  have hm:o4 T own n d a.toNat=GX T own n d a.toNat:=by
   unfold o4 GX gg
   rw[J9 hv h1 h2,Jq hv h3]
   by_cases e:Gr T (orM T (aG T (jS T a.toNat (d:Int)).1 (jS T a.toNat (d:Int)).2) own) n d=0
   ·rw[if_pos (by simpa using e),if_pos e]
   ·rw[if_neg (by simpa using e),if_neg e]
  simp only[]
  rw[hm,D1 hv h0 h4]
def zR(T:ai)(M:List Bool)(n:Nat):ee:=⟨n,(List.range T.nodes.toNat).map fun d=>H6 T (fE T M n) n d,cF M (bJ T n)⟩
theorem DC{T:ai}{M:List Bool}{n:Nat}(hv:ao T=true)(h0:nC T []=true)(h:((List.range T.nodes.toNat).all fun d=>Iq T (fE T M n) n d)=true):rH T M n=zR T M n:=by
 have hN:=(aK hv).nodes
 unfold rH zR oq
 congr 1
 refine List.map_congr_left fun d hd=>?_
 have hd':=List.mem_range.1 hd
 exact rep hv h0 (by omega) (List.all_eq_true.1 h d hd)
end Ao
def Hj:ee:=⟨0,[⟨[],false,[]⟩,⟨[7],true,[⟨1,3⟩,⟨1,2⟩,⟨1,1⟩]⟩,⟨[7],true,[⟨1,3⟩,⟨1,2⟩]⟩,⟨[7],false,[]⟩],[0]⟩
theorem CU:rH cM tZ 0=Hj:=(Ao.DC kd lY (by kernel_rfl)).trans (by kernel_rfl)
end PW
end Go.Proofs.YtnegbdpggideiaaGreatDoor
namespace Go.Proofs.YtnegbdpggideiaaGreatDoor
namespace PW
open Go.RowKit cB Mem Net eW
def tooBig(T:ai):Bool:=decide ((10:Int)<T.nodes)||decide ((16:Int)<T.af.length)
theorem Gf{T:ai}(h:tooBig T=false):T.nodes≤12∧T.af.length≤16:=by
 unfold tooBig at h
 simp only[Bool.or_eq_false_iff,decide_eq_false_iff_not]at h
 omega
theorem Ap(L:List Int):Can Tryz.prog 35 [aw L,aw L] (· =flag true):=by
 have h:=AN L L
 rw[show mz L L=true from decide_eq_true rfl]at h
 exact h
end PW
end Go.Proofs.YtnegbdpggideiaaGreatDoor
namespace Go.Proofs.YtnegbdpggideiaaGreatDoor
namespace PW
open Go.RowKit cB Mem Net eW
end PW
end Go.Proofs.YtnegbdpggideiaaGreatDoor
namespace Go.Proofs.YtnegbdpggideiaaGreatDoor
namespace PW
open Go.RowKit cB Mem Net eW
end PW
end Go.Proofs.YtnegbdpggideiaaGreatDoor
namespace Go.Proofs.YtnegbdpggideiaaGreatDoor
namespace PW
open Go.RowKit cB Mem Net eW
end PW
end Go.Proofs.YtnegbdpggideiaaGreatDoor
