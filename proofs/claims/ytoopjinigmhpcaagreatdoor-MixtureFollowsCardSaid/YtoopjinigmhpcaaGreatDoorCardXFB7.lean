/- Part 7. -/
import Derived.RangeFuncBox
import Derived.Lib.ItoaNum
import Derived.Test.YtoopjinigmhpcaaGreatDoorCardXFB6
set_option maxRecDepth 100000
set_option maxHeartbeats 4000000
namespace Go.Proofs.YtoopjinigmhpcaaGreatDoor
open Go.Proofs.Tryz
namespace PW
section
open Go.RowKit cG Mem Net eE
theorem Ey{P:Program}{N L:Nat}{id:Nat}{l:List Oper}{y st}{Q:Exit->St->Prop}(t':cq)(σ':ca)(a:cq)(σ'':ca)(hm:P.follows .mixedOrders=true)(h:WA P N L l.toArray l.length (Array.replicate l.length false) st (λs=>(s.σ=σ'/\Sub s.t t')\/(s.σ=σ''/\Sub s.t a)))(hr:W P N L y ⟨t',σ'⟩ Q->W P N L y ⟨a,σ''⟩ Q)(b:W P N L y ⟨t',σ'⟩ Q):W P N L (.seq (.region id l.toArray true) y) st Q:=
 rf hm (h.mono λs hs=>by
  obtain⟨t,σ⟩:=s;rcases hs with⟨h1,h2⟩|⟨h1,h2⟩
  ·subst h1;exact iB h2 b
  ·subst h1;exact iB h2 (hr b))
theorem Cw(T:ak)(k x:Int):bN T (gO T k x)=true:=by
 unfold gO;split
 ·exact cM T k x
 ·exact iG T
theorem Hp(T:ak)(k x:Int)(n:Nat)(hv:av T=true)(hn:(n:Int)<T.nodes):Can prog 128 ([bV k x]++[.bq (bn T) 0,.bq [num n] 0]) (· =aq (bJ T (gO T k x) n true)):=by
 have b:=nO T k x;unfold iZ at b;have a:=H0 T (gO T k x) n;have c:ct T (gO T k x) [(n:Int)]=0:=by
  unfold ct;rw[hv,Cw];simp[aQ.2 (show 0<=(n:Int)/\(n:Int)<T.nodes by omega)]
 rw[c]at a;unfold ec at a;rw[QY rfl,QS]at a;exact aF func128 I ntmps128 I<|ab (.a 2 I<|.k [1,2,3] I)<|ab (.a 2 I<|.c rfl (b) I<|.a 5 I<|.k [1,2,5] I)<|ab (.a 3 I<|.c rfl (a) I<|.a 5 I<|.k [7] I)<|ab (.a 2 I<|.k [4] I)<|ao<|QR I ax.pure rfl
theorem Hq(g:Int)(L:List Int)(d:Nat)(c:Bool)(b:0<g->d<L.length/\decide (0<=L.getD d 0)=c):Can prog 130 ([num d]++[.bq (cN 3 g) 0,.bq [aq L] 0]) (· = .tuple [bV 3 g,flag (decide (0<g)&&c)]):=by
 have⟨c1,a⟩:=QQ (decide (0<g));rw[a];refine aF func130 I ntmps130 I<|aK<|au 2 I<|aE [0,1,2,4] I ?_;refine ya (Q1:=λst=>st=⟨[(4,.ptr 0 0),(5,flag (c1&&c))],[some (.cells 27 (cN 3 g))]⟩) ?_ ?_
 ·cases c1
  ·refine wg 20 1 ([some (.cells 27 [num 0,num 0])]::[some (.cells 27 (cN 3 g))]::[]) (⟨_,none,0,0⟩::⟨_,none,0,0⟩::⟨_,none,0,0⟩::⟨_,none,0,0⟩::⟨_,none,0,0⟩::⟨_,none,0,1⟩::⟨_,none,0,1⟩::⟨_,none,0,1⟩::⟨_,none,0,1⟩::⟨_,none,0,1⟩::⟨_,none,0,1⟩::⟨_,some 0,0,0⟩::⟨_,none,1,1⟩::[]) _ mixed ?grd1 rfl rfl rfl rfl (.cons (.val [1] I I (yz (cg (bb I) dF)) I I)<|.cons (.val [1] I I (yz (cg (bb I) dF)) I I)<|.cons (.val [7] I I (yz (cg (bb I) dF)) I I)<|.cons (.val [8] I I (yz (cg (bW I (a)) dF)) I I)<|.cons (.val [9] I I (yz (cg (bb I) dF)) I I)<|.cons (.skip rfl rfl rfl)<|.cons (.skip rfl rfl rfl)<|.cons (.skip rfl rfl rfl)<|.cons (.skip rfl rfl rfl)<|.cons (.skip rfl rfl rfl)<|.cons (.val [10,15] I I (yz (cg (bb I) (cg (bb I) dF))) I I)<|.cons (.mU [4,6] I I I I (eM I) I)<|.cons (.val [16] I I (yz (cg (bb I) dF)) I I) .nil) (aR (ks:=[4,5]) I) ?_
   case grd1=>kernel_rfl
   rfl
  ·refine wg 20 1 ([some (.cells 27 [num 0,num 0])]::[some (.cells 27 (cN 3 g))]::[]) (⟨_,none,0,0⟩::⟨_,none,0,0⟩::⟨_,none,0,0⟩::⟨_,none,0,0⟩::⟨_,none,0,0⟩::⟨_,none,0,1⟩::⟨_,none,0,1⟩::⟨_,none,0,1⟩::⟨_,none,0,1⟩::⟨_,none,0,1⟩::⟨_,none,0,1⟩::⟨_,some 0,0,0⟩::⟨_,none,1,1⟩::[]) _ mixed ?grd2 rfl rfl rfl rfl (.cons (.val [1] I I (yz (cg (bb I) dF)) I I)<|.cons (.val [1] I I (yz (cg (bb I) dF)) I I)<|.cons (.val [7] I I (yz (cg (bb I) dF)) I I)<|.cons (.val [8] I I (yz (cg (bW I (a)) dF)) I I)<|.cons (.val [9] I I (yz (cg (bb I) dF)) I I)<|.cons (.val [2] I I (yz (cg (bb I) (cg (bb I) dF))) I I)<|.cons (.val [0] I I (yz (cg (bb I) (cg (bb I) dF))) I I)<|.cons (.val [11,12] I I (yz (cg (aM (d) I (by omega) (by have:=(b (tt a)).1;omega)) (cg (aM (d) I (by omega) (by have:=(b (tt a)).1;omega)) dF))) I I)<|.cons (.val [13] I I (yz (cg (aJ I (aB L d (b (tt a)).1)) (cg (aJ I (aB L d (b (tt a)).1)) dF))) I I)<|.cons (.val [14] I I (yz (cg (bW I ((b (tt a)).2)) (cg (bW I ((b (tt a)).2)) dF))) I I)<|.cons (.val [10,15] I I (yz (cg (bb I) (cg (bb I) dF))) I I)<|.cons (.mU [4,6] I I I I (eM I) I)<|.cons (.val [16] I I (yz (cg (bb I) dF)) I I) .nil) (aR (ks:=[4,5]) I) ?_
   case grd2=>kernel_rfl
   rfl
 rintro _ rfl;exact ao<|QR I (ax.pure (p:=.tuple [bV 3 g,flag (c1&&c)])) rfl
theorem Hr(h:Int)(L:List Int)(d:Nat)(c:Bool)(hd:d<L.length)(f:decide (0<=L.getD d 0)=c):Can prog 131 ([num d]++[.bq (cN 2 h) 0,.bq [num h] 0,.bq [aq L] 0]) (· = .tuple [bV 2 h,flag (decide (h≠d)&&c)]):=by
 have⟨c1,a⟩:=QQ (decide ((d:Int)≠h));have b:decide (h≠(d:Int))=c1:=by rw[<-a];exact decide_eq_decide.2 ⟨λe=>e.symm,λe=>e.symm⟩
 rw[b];refine aF func131 I ntmps131 I<|aK<|au 2 I<|aE [0,1,2,3,5] I ?_;refine ya (Q1:=λst=>st=⟨[(5,.ptr 0 0),(6,flag (c1&&c))],[some (.cells 27 (cN 2 h))]⟩) ?_ ?_
 ·cases c1
  ·refine wg 20 1 ([some (.cells 27 [num 0,num 0])]::[some (.cells 27 (cN 2 h))]::[]) (⟨_,none,0,0⟩::⟨_,none,0,0⟩::⟨_,none,0,0⟩::⟨_,none,0,0⟩::⟨_,none,0,0⟩::⟨_,none,0,1⟩::⟨_,none,0,1⟩::⟨_,none,0,1⟩::⟨_,none,0,1⟩::⟨_,none,0,1⟩::⟨_,none,0,1⟩::⟨_,some 0,0,0⟩::⟨_,none,1,1⟩::[]) _ mixed ?grd3 rfl rfl rfl rfl (.cons (.val [1] I I (yz (cg (bb I) dF)) I I)<|.cons (.val [0] I I (yz (cg (bb I) dF)) I I)<|.cons (.val [2] I I (yz (cg (bb I) dF)) I I)<|.cons (.val [8,9] I I (yz (cg (bW I (a)) dF)) I I)<|.cons (.val [10] I I (yz (cg (bb I) dF)) I I)<|.cons (.skip rfl rfl rfl)<|.cons (.skip rfl rfl rfl)<|.cons (.skip rfl rfl rfl)<|.cons (.skip rfl rfl rfl)<|.cons (.skip rfl rfl rfl)<|.cons (.val [11,16] I I (yz (cg (bb I) (cg (bb I) dF))) I I)<|.cons (.mU [5,7] I I I I (eM I) I)<|.cons (.val [17] I I (yz (cg (bb I) dF)) I I) .nil) (aR (ks:=[5,6]) I) ?_
   case grd3=>kernel_rfl
   rfl
  ·refine wg 20 1 ([some (.cells 27 [num 0,num 0])]::[some (.cells 27 (cN 2 h))]::[]) (⟨_,none,0,0⟩::⟨_,none,0,0⟩::⟨_,none,0,0⟩::⟨_,none,0,0⟩::⟨_,none,0,0⟩::⟨_,none,0,1⟩::⟨_,none,0,1⟩::⟨_,none,0,1⟩::⟨_,none,0,1⟩::⟨_,none,0,1⟩::⟨_,none,0,1⟩::⟨_,some 0,0,0⟩::⟨_,none,1,1⟩::[]) _ mixed ?grd4 rfl rfl rfl rfl (.cons (.val [1] I I (yz (cg (bb I) dF)) I I)<|.cons (.val [0] I I (yz (cg (bb I) dF)) I I)<|.cons (.val [2] I I (yz (cg (bb I) dF)) I I)<|.cons (.val [8,9] I I (yz (cg (bW I (a)) dF)) I I)<|.cons (.val [10] I I (yz (cg (bb I) dF)) I I)<|.cons (.val [3] I I (yz (cg (bb I) (cg (bb I) dF))) I I)<|.cons (.val [0] I I (yz (cg (bb I) (cg (bb I) dF))) I I)<|.cons (.val [12,13] I I (yz (cg (aM (d) I) (cg (aM (d) I) dF))) I I)<|.cons (.val [14] I I (yz (cg (aJ I (aB L d hd)) (cg (aJ I (aB L d hd)) dF))) I I)<|.cons (.val [15] I I (yz (cg (bW I (f)) (cg (bW I (f)) dF))) I I)<|.cons (.val [11,16] I I (yz (cg (bb I) (cg (bb I) dF))) I I)<|.cons (.mU [5,7] I I I I (eM I) I)<|.cons (.val [17] I I (yz (cg (bb I) dF)) I I) .nil) (aR (ks:=[5,6]) I) ?_
   case grd4=>kernel_rfl
   rfl
 rintro _ rfl;exact ao<|QR I (ax.pure (p:=.tuple [bV 2 h,flag (c1&&c)])) rfl
def F2(g:Int)(L:List Int):PV:=.func 130 [.bq (cN 3 g) 0,.bq [aq L] 0]
def F3(h:Int)(L:List Int):PV:=.func 131 [.bq (cN 2 h) 0,.bq [num h] 0,.bq [aq L] 0]
def my(g h k:Int)(L M:List Int):List PV:=[.bq [.slice 2 [F2 g L,F3 h M]] 0,.bq (cN 1 k) 0]
instance (g:Int) (L:List Int):IsPure (F2 g L):=by unfold F2;infer_instance
instance (g:Int) (L:List Int):IsPure (F3 g L):=by unfold F3;infer_instance
instance (g h k:Int) (L M:List Int):aP (my g h k L M):=by unfold my;infer_instance
theorem Hs(g h k:Int)(L M:List Int)(d:Nat)(m n:Bool)(E:0<g->d<L.length/\decide (0<=L.getD d 0)=m)(hd:d<M.length)(hM:decide (0<=M.getD d 0)=n):Can prog 132 ([num d]++my g h k L M) (· =if(decide (0<g)&&m)=true then bV 3 g else if(decide (h≠d)&&n)=true then bV 2 h else bV 1 k):=by
 have h2:=Hq g L d m E;have D:=Hr h M d n hd hM;have⟨B,w⟩:=QQ (decide (0<g)&&m);have⟨C,x⟩:=QQ (decide (h≠(d:Int))&&n);rw[w]at h2 ⊢;rw[x]at D ⊢;have j:∀i,i<2->∃f cap,[F2 g L,F3 h M][i]? =some (.func f cap)/\enters prog f=true/\aP ([num d]++cap)/\Can prog f ([num d]++cap) (· = .tuple [if i=0 then bV 3 g else bV 2 h,flag (if i=0 then B else C)]):=λi hi=>by
  match i,hi with
  |0,_=>exact⟨_,_,rfl,by kernel_rfl,inferInstance,h2⟩
  |1,_=>exact⟨_,_,rfl,by kernel_rfl,inferInstance,D⟩
 unfold my;refine aF func132 I ntmps132 I<|aK<|au 1 I<|aE [0,1,2,4] I ?_;refine ai<|ab (.a 3 I<|.k [0,2,4,9,10,11] I)<|aw<|eF [0,2,4,9,10,11] I<|bd (λr s=>∃i,i<=2/\r=2 - i/\(1<=i->B=false)/\(i=2->C=false)/\s=⟨[(0,num d),(2,.bq (cN 1 k) 0),(4,.ptr 0 0),(9,.slice 2 [F2 g L,F3 h M]),(10,num 2),(11,num i)],[some (.cells 27 [num 0,num 0])]⟩) 2 ⟨0,by omega,by omega,λh=>by omega,λh=>by omega,rfl⟩ ?_;rintro r s ⟨i,hi,rfl,c,t,rfl⟩;refine ab (.a 1 I<|.k [0,2,4,9,10,11,12] I)<|ai<|ae I (λh1=>?_) (λh1=>?_)
 ·have v:i<2:=by have:=tt h1;omega
  obtain⟨f,cap,F,q,y,b⟩:=j i v;obtain⟨A,z,l⟩:∃A z,(if i=0 then bV 3 g else bV 2 h)=bV A z:=by
   split
   ·exact⟨_,_,rfl⟩
   ·exact⟨_,_,rfl⟩
  have⟨o,a⟩:=QQ (if i=0 then B else C);rw[a,l]at b;haveI:=y;refine aj<|ai<|aw<|ab (.v (aM (i) I) I<|.v (aJ I (F)) I<|.a 1 I<|.k [0,2,4,6,9,10,11] I)<|aK<|au 2 I<|bm (vB I q rfl rfl b) I<|au 6 I<|aE [0,2,4,7,8,9,10,11] I ?_;refine ab (.a 1 I<|.k [0,2,4,7,9,10,11,21] I)<|ae I (λh2=>?_) (λh2=>?_)
  ·subst h2;refine aK<|au 2 I<|aE [4] I ?_;refine ao<|⟨_,_,RY I,ax.pure (p:=bV A z),?_⟩;rw[<-l];by_cases e:i=0
   ·rw[QY e]at a ⊢;rw[QY a]
   ·rw[QZ e]at a ⊢;rw[QZ (by rw[c (by omega)];simp),QY a]
  ·subst h2;refine aj<|dS [0] (.c 0<|.c 2<|.c 4<|.c 9<|.c 10<|.c 11<|.nil) (.kept rfl (.cells RZ)<|.nil) I I ?_;refine aC (.v (aW I) I<|.a 1 I<|.k [0,2,4,9,10,11] I)<|⟨2 - (i+1),by omega,i+1,by omega,rfl,λ_=>?_,λe=>?_,rfl⟩
   ·by_cases e:i=0
    ·rw[QY e]at a;exact a
    ·exact c (by omega)
   ·rw[QZ (by omega)]at a;exact a
 ·have u:i=2:=by have:=ff h1;omega
  subst u;rw[QZ (by rw[c (by omega)];simp),QZ (by rw[t rfl];simp)];refine ba<|aK<|au 2 I<|aE [4] I ?_;exact ao<|QR I (ax.pure (p:=bV 1 k)) rfl
noncomputable def MZ(T:ak)(a:Nat):List Int:=if 0<gN T a then bJ T (gO T 3 (gN T a)) (aZ T a).toNat true else []
noncomputable def M0(T:ak)(a:Nat):List Int:=bJ T (gO T 2 (aN T a)) (aZ T a).toNat true
theorem BR(T:ak)(a:Nat)(hv:av T=true)(ha:a<2*T.ah.length):Can prog 102 [aL T,num a] (· = .func 132 (my (gN T a) (aN T a) ((a / 2:Nat):Int) (MZ T a) (M0 T a))):=by
 have b7:=bO hv;have hi:a / 2<T.ah.length:=by omega
 have hS:=aS hv;have c:=kX T a ha;have J:=iH T a ha (by omega);obtain⟨n,hn⟩:=QW (hS.tail a ha).1;have b1:(n:Int)<T.nodes:=by rw[<-hn];exact(hS.tail a ha).2
 have hL:MZ T a=if 0<gN T a then bJ T (gO T 3 (gN T a)) n true else []:=by unfold MZ;rw[hn,QS]
 have hM:M0 T a=bJ T (gO T 2 (aN T a)) n true:=by unfold M0;rw[hn,QS]
 rw[hn]at c;have⟨h,hh⟩:=QQ (aN T a);have⟨g,hg⟩:=QQ (gN T a);have b0:(cP T.ah (a / 2)).wG=g:=hg;rw[hh]at J hM;rw[hg]at hL;rw[hL,hM,hh,hg];have h1:=λk x=>Hp T k x n hv b1;have⟨c1,bG⟩:=QQ (decide (0<g));refine aF func102 I ntmps102 I<|ab (.a 2 I<|.k [1,2] I)<|Ey ([(1,num a),(2,.bq (bn T) 0),(5,.ptr 0 0),(6,.ptr 1 0)]) ([some (.cells 3 [num n]),some (.cells 3 [num h])]) ([(1,num a),(2,.bq (bn T) 0),(5,.ptr 1 0),(6,.ptr 0 0)]) ([some (.cells 3 [num h]),some (.cells 3 [num n])]) mixed ?_ (λhh=>dS [1,0] (.c 1<|.c 2<|.c 5<|.c 6<|.nil) (.kept rfl (.cells RZ)<|.kept rfl (.cells RZ)<|.nil) I I hh) ?_
 ·refine tH [[(1,num a),(2,.bq (bn T) 0),(14,aL T),(15,num a),(16,num n),(17,aL T),(18,num a),(19,num h)],[(1,num a),(2,.bq (bn T) 0),(5,.ptr 0 0),(14,aL T),(15,num a),(16,num n),(17,aL T),(18,num a),(19,num h)],[(1,num a),(2,.bq (bn T) 0),(6,.ptr 0 0),(14,aL T),(15,num a),(16,num n),(17,aL T),(18,num a),(19,num h)],[(1,num a),(2,.bq (bn T) 0),(5,.ptr 0 0),(6,.ptr 1 0),(14,aL T),(15,num a),(16,num n),(17,aL T),(18,num a),(19,num h)],[(1,num a),(2,.bq (bn T) 0),(5,.ptr 1 0),(6,.ptr 0 0),(14,aL T),(15,num a),(16,num n),(17,aL T),(18,num a),(19,num h)]] [[],[some (.cells 3 [num n]),some (.cells 3 [num h])],[some (.cells 3 [num n]),some (.cells 3 [num 0])],[some (.cells 3 [num 0]),some (.cells 3 [num 0])],[some (.cells 3 [num 0])],[some (.cells 3 [num h]),some (.cells 3 [num n])],[some (.cells 3 [num 0]),some (.cells 3 [num n])]] [1,2] I (by kernel_rfl) (λM hi b=>?_);have b2:M 0 1023 3 [1,2,5,6] 1:=hi<|rb I (by kernel_rfl) (.inl ⟨rfl,aR (ks:=[1,2,5,6]) I⟩);have b3:M 1 511 3 [1,2,5,6,19] 2:=hi<|aa [(9,1023)] I<|pU I I (eM I) I I (b b2) I I ag;have bR:M 2 255 3 [1,2,5,6,16,19] 3:=hi<|aa [(8,511)] I<|pU I I (eM I) I I (b b3) I I ag;have bT:M 3 127 1 [1,2,5,16,19] 4:=hi<|aa [(7,255)] I<|cc I I (eM I) I (b bR) I I ag;have b4:M 0 1023 4 [1,2,5,6] 5:=hi<|rb I (by kernel_rfl) (.inr ⟨rfl,aR (ks:=[1,2,5,6]) I⟩);have b5:M 1 511 4 [1,2,5,6,19] 6:=hi<|aa [(9,1023)] I<|pU I I (eM I) I I (b b4) I I ag;have bU:M 2 255 4 [1,2,5,6,16,19] 3:=hi<|aa [(8,511)] I<|pU I I (eM I) I I (b b5) I I ag;have bX:M 3 191 2 [1,2,6,16,19] 4:=hi<|aa [(6,255)] I<|cc I I (eM I) I (b bU) I I ag;have b6:M 4 63 0 [1,2,16,19] 0:=hi<|aa [(6,127),(7,191)] I<|cc I I (eM I) I (b bT) I I<|cc I I (eM I) I (b bX) I I ag;have a6:M 3 223 3 [1,2,5,6,16,17,18] 3:=hi<|aa [(5,255)] I<|br I I (dX I (J)) I (b bR) I I ag;have j:M 4 95 1 [1,2,5,16,17,18] 4:=hi<|aa [(5,127),(7,223)] I<|br I I (dX I (J)) I (b bT) I I<|cc I I (eM I) I (b a6) I I ag;have l:M 3 223 4 [1,2,5,6,16,17,18] 3:=hi<|aa [(5,255)] I<|br I I (dX I (J)) I (b bU) I I ag;have m:M 4 159 2 [1,2,6,16,17,18] 4:=hi<|aa [(5,191),(6,223)] I<|br I I (dX I (J)) I (b bX) I I<|cc I I (eM I) I (b l) I I ag;have O:M 5 31 0 [1,2,16,17,18] 0:=hi<|aa [(5,63),(6,95),(7,159)] I<|br I I (dX I (J)) I (b b6) I I<|cc I I (eM I) I (b j) I I<|cc I I (eM I) I (b m) I I ag;have P:M 4 207 3 [1,2,5,6,16,17] 3:=hi<|aa [(4,223)] I<|an (b a6) I I ag;have Q:M 5 79 1 [1,2,5,16,17] 4:=hi<|aa [(4,95),(7,207)] I<|an (b j) I I<|cc I I (eM I) I (b P) I I ag;have R:M 4 207 4 [1,2,5,6,16,17] 3:=hi<|aa [(4,223)] I<|an (b l) I I ag;have S:M 5 143 2 [1,2,6,16,17] 4:=hi<|aa [(4,159),(6,207)] I<|an (b m) I I<|cc I I (eM I) I (b R) I I ag;have a7:M 6 15 0 [1,2,16,17] 0:=hi<|aa [(4,31),(6,79),(7,143)] I<|an (b O) I I<|cc I I (eM I) I (b Q) I I<|cc I I (eM I) I (b S) I I ag;have U:M 4 215 3 [1,2,5,6,16,18] 3:=hi<|aa [(3,223)] I<|an (b a6) I I ag;have V:M 5 87 1 [1,2,5,16,18] 4:=hi<|aa [(3,95),(7,215)] I<|an (b j) I I<|cc I I (eM I) I (b U) I I ag;have W:M 4 215 4 [1,2,5,6,16,18] 3:=hi<|aa [(3,223)] I<|an (b l) I I ag;have X:M 5 151 2 [1,2,6,16,18] 4:=hi<|aa [(3,159),(6,215)] I<|an (b m) I I<|cc I I (eM I) I (b W) I I ag;have a8:M 6 23 0 [1,2,16,18] 0:=hi<|aa [(3,31),(6,87),(7,151)] I<|an (b O) I I<|cc I I (eM I) I (b V) I I<|cc I I (eM I) I (b X) I I ag;have ba:M 5 199 3 [1,2,5,6,16] 3:=hi<|aa [(3,207),(4,215)] I<|an (b P) I I<|an (b U) I I ag;have bb:M 6 71 1 [1,2,5,16] 4:=hi<|aa [(3,79),(4,87),(7,199)] I<|an (b Q) I I<|an (b V) I I<|cc I I (eM I) I (b ba) I I ag;have bc:M 5 199 4 [1,2,5,6,16] 3:=hi<|aa [(3,207),(4,215)] I<|an (b R) I I<|an (b W) I I ag;have bd:M 6 135 2 [1,2,6,16] 4:=hi<|aa [(3,143),(4,151),(6,199)] I<|an (b S) I I<|an (b X) I I<|cc I I (eM I) I (b bc) I I ag;have bS:M 7 7 0 [1,2,16] 0:=hi<|aa [(3,15),(4,23),(6,71),(7,135)] I<|an (b a7) I I<|an (b a8) I I<|cc I I (eM I) I (b bb) I I<|cc I I (eM I) I (b bd) I I ag;have d:M 4 219 3 [1,2,5,6,14,15,17,18] 3:=hi<|aa [(2,223)] I<|br I I (dX I (c)) I (b a6) I I ag;have e:M 5 91 1 [1,2,5,14,15,17,18] 4:=hi<|aa [(2,95),(7,219)] I<|br I I (dX I (c)) I (b j) I I<|cc I I (eM I) I (b d) I I ag;have f:M 4 219 4 [1,2,5,6,14,15,17,18] 3:=hi<|aa [(2,223)] I<|br I I (dX I (c)) I (b l) I I ag;have i:M 5 155 2 [1,2,6,14,15,17,18] 4:=hi<|aa [(2,159),(6,219)] I<|br I I (dX I (c)) I (b m) I I<|cc I I (eM I) I (b f) I I ag;have o:M 6 27 0 [1,2,14,15,17,18] 0:=hi<|aa [(2,31),(6,91),(7,155)] I<|br I I (dX I (c)) I (b O) I I<|cc I I (eM I) I (b e) I I<|cc I I (eM I) I (b i) I I ag;have q:M 5 203 3 [1,2,5,6,14,15,17] 3:=hi<|aa [(2,207),(4,219)] I<|br I I (dX I (c)) I (b P) I I<|an (b d) I I ag;have r:M 6 75 1 [1,2,5,14,15,17] 4:=hi<|aa [(2,79),(4,91),(7,203)] I<|br I I (dX I (c)) I (b Q) I I<|an (b e) I I<|cc I I (eM I) I (b q) I I ag;have s:M 5 203 4 [1,2,5,6,14,15,17] 3:=hi<|aa [(2,207),(4,219)] I<|br I I (dX I (c)) I (b R) I I<|an (b f) I I ag;have t:M 6 139 2 [1,2,6,14,15,17] 4:=hi<|aa [(2,143),(4,155),(6,203)] I<|br I I (dX I (c)) I (b S) I I<|an (b i) I I<|cc I I (eM I) I (b s) I I ag;have Y:M 7 11 0 [1,2,14,15,17] 0:=hi<|aa [(2,15),(4,27),(6,75),(7,139)] I<|br I I (dX I (c)) I (b a7) I I<|an (b o) I I<|cc I I (eM I) I (b r) I I<|cc I I (eM I) I (b t) I I ag;have u:M 5 211 3 [1,2,5,6,14,15,18] 3:=hi<|aa [(2,215),(3,219)] I<|br I I (dX I (c)) I (b U) I I<|an (b d) I I ag;have w:M 6 83 1 [1,2,5,14,15,18] 4:=hi<|aa [(2,87),(3,91),(7,211)] I<|br I I (dX I (c)) I (b V) I I<|an (b e) I I<|cc I I (eM I) I (b u) I I ag;have y:M 5 211 4 [1,2,5,6,14,15,18] 3:=hi<|aa [(2,215),(3,219)] I<|br I I (dX I (c)) I (b W) I I<|an (b f) I I ag;have z:M 6 147 2 [1,2,6,14,15,18] 4:=hi<|aa [(2,151),(3,155),(6,211)] I<|br I I (dX I (c)) I (b X) I I<|an (b i) I I<|cc I I (eM I) I (b y) I I ag;have Z:M 7 19 0 [1,2,14,15,18] 0:=hi<|aa [(2,23),(3,27),(6,83),(7,147)] I<|br I I (dX I (c)) I (b a8) I I<|an (b o) I I<|cc I I (eM I) I (b w) I I<|cc I I (eM I) I (b z) I I ag;have ad:M 6 195 3 [1,2,5,6,14,15] 3:=hi<|aa [(2,199),(3,203),(4,211)] I<|br I I (dX I (c)) I (b ba) I I<|an (b q) I I<|an (b u) I I ag;have af:M 7 67 1 [1,2,5,14,15] 4:=hi<|aa [(2,71),(3,75),(4,83),(7,195)] I<|br I I (dX I (c)) I (b bb) I I<|an (b r) I I<|an (b w) I I<|cc I I (eM I) I (b ad) I I ag;have ah:M 6 195 4 [1,2,5,6,14,15] 3:=hi<|aa [(2,199),(3,203),(4,211)] I<|br I I (dX I (c)) I (b bc) I I<|an (b s) I I<|an (b y) I I ag;have ai:M 7 131 2 [1,2,6,14,15] 4:=hi<|aa [(2,135),(3,139),(4,147),(6,195)] I<|br I I (dX I (c)) I (b bd) I I<|an (b t) I I<|an (b z) I I<|cc I I (eM I) I (b ah) I I ag;have bf:M 8 3 0 [1,2,14,15] 0:=hi<|aa [(2,7),(3,11),(4,19),(6,67),(7,131)] I<|br I I (dX I (c)) I (b bS) I I<|an (b Y) I I<|an (b Z) I I<|cc I I (eM I) I (b af) I I<|cc I I (eM I) I (b ai) I I ag;have A:M 5 217 3 [1,2,5,6,14,17,18] 3:=hi<|aa [(1,219)] I<|an (b d) I I ag;have B:M 6 89 1 [1,2,5,14,17,18] 4:=hi<|aa [(1,91),(7,217)] I<|an (b e) I I<|cc I I (eM I) I (b A) I I ag;have C:M 5 217 4 [1,2,5,6,14,17,18] 3:=hi<|aa [(1,219)] I<|an (b f) I I ag;have D:M 6 153 2 [1,2,6,14,17,18] 4:=hi<|aa [(1,155),(6,217)] I<|an (b i) I I<|cc I I (eM I) I (b C) I I ag;have al:M 7 25 0 [1,2,14,17,18] 0:=hi<|aa [(1,27),(6,89),(7,153)] I<|an (b o) I I<|cc I I (eM I) I (b B) I I<|cc I I (eM I) I (b D) I I ag;have ar:M 6 201 3 [1,2,5,6,14,17] 3:=hi<|aa [(1,203),(4,217)] I<|an (b q) I I<|an (b A) I I ag;have aw:M 7 73 1 [1,2,5,14,17] 4:=hi<|aa [(1,75),(4,89),(7,201)] I<|an (b r) I I<|an (b B) I I<|cc I I (eM I) I (b ar) I I ag;have ay:M 6 201 4 [1,2,5,6,14,17] 3:=hi<|aa [(1,203),(4,217)] I<|an (b s) I I<|an (b C) I I ag;have az:M 7 137 2 [1,2,6,14,17] 4:=hi<|aa [(1,139),(4,153),(6,201)] I<|an (b t) I I<|an (b D) I I<|cc I I (eM I) I (b ay) I I ag;have bg:M 8 9 0 [1,2,14,17] 0:=hi<|aa [(1,11),(4,25),(6,73),(7,137)] I<|an (b Y) I I<|an (b al) I I<|cc I I (eM I) I (b aw) I I<|cc I I (eM I) I (b az) I I ag;have aA:M 6 209 3 [1,2,5,6,14,18] 3:=hi<|aa [(1,211),(3,217)] I<|an (b u) I I<|an (b A) I I ag;have aB:M 7 81 1 [1,2,5,14,18] 4:=hi<|aa [(1,83),(3,89),(7,209)] I<|an (b w) I I<|an (b B) I I<|cc I I (eM I) I (b aA) I I ag;have aC:M 6 209 4 [1,2,5,6,14,18] 3:=hi<|aa [(1,211),(3,217)] I<|an (b y) I I<|an (b C) I I ag;have aD:M 7 145 2 [1,2,6,14,18] 4:=hi<|aa [(1,147),(3,153),(6,209)] I<|an (b z) I I<|an (b D) I I<|cc I I (eM I) I (b aC) I I ag;have bh:M 8 17 0 [1,2,14,18] 0:=hi<|aa [(1,19),(3,25),(6,81),(7,145)] I<|an (b Z) I I<|an (b al) I I<|cc I I (eM I) I (b aB) I I<|cc I I (eM I) I (b aD) I I ag;have bj:M 7 193 3 [1,2,5,6,14] 3:=hi<|aa [(1,195),(3,201),(4,209)] I<|an (b ad) I I<|an (b ar) I I<|an (b aA) I I ag;have bk:M 8 65 1 [1,2,5,14] 4:=hi<|aa [(1,67),(3,73),(4,81),(7,193)] I<|an (b af) I I<|an (b aw) I I<|an (b aB) I I<|cc I I (eM I) I (b bj) I I ag;have bl:M 7 193 4 [1,2,5,6,14] 3:=hi<|aa [(1,195),(3,201),(4,209)] I<|an (b ah) I I<|an (b ay) I I<|an (b aC) I I ag;have bo:M 8 129 2 [1,2,6,14] 4:=hi<|aa [(1,131),(3,137),(4,145),(6,193)] I<|an (b ai) I I<|an (b az) I I<|an (b aD) I I<|cc I I (eM I) I (b bl) I I ag;have bV:M 9 1 0 [1,2,14] 0:=hi<|aa [(1,3),(3,9),(4,17),(6,65),(7,129)] I<|an (b bf) I I<|an (b bg) I I<|an (b bh) I I<|cc I I (eM I) I (b bk) I I<|cc I I (eM I) I (b bo) I I ag;have E:M 5 218 3 [1,2,5,6,15,17,18] 3:=hi<|aa [(0,219)] I<|an (b d) I I ag;have F:M 6 90 1 [1,2,5,15,17,18] 4:=hi<|aa [(0,91),(7,218)] I<|an (b e) I I<|cc I I (eM I) I (b E) I I ag;have G:M 5 218 4 [1,2,5,6,15,17,18] 3:=hi<|aa [(0,219)] I<|an (b f) I I ag;have H:M 6 154 2 [1,2,6,15,17,18] 4:=hi<|aa [(0,155),(6,218)] I<|an (b i) I I<|cc I I (eM I) I (b G) I I ag;have aG:M 7 26 0 [1,2,15,17,18] 0:=hi<|aa [(0,27),(6,90),(7,154)] I<|an (b o) I I<|cc I I (eM I) I (b F) I I<|cc I I (eM I) I (b H) I I ag;have aH:M 6 202 3 [1,2,5,6,15,17] 3:=hi<|aa [(0,203),(4,218)] I<|an (b q) I I<|an (b E) I I ag;have aO:M 7 74 1 [1,2,5,15,17] 4:=hi<|aa [(0,75),(4,90),(7,202)] I<|an (b r) I I<|an (b F) I I<|cc I I (eM I) I (b aH) I I ag;have aP:M 6 202 4 [1,2,5,6,15,17] 3:=hi<|aa [(0,203),(4,218)] I<|an (b s) I I<|an (b G) I I ag;have aQ:M 7 138 2 [1,2,6,15,17] 4:=hi<|aa [(0,139),(4,154),(6,202)] I<|an (b t) I I<|an (b H) I I<|cc I I (eM I) I (b aP) I I ag;have bp:M 8 10 0 [1,2,15,17] 0:=hi<|aa [(0,11),(4,26),(6,74),(7,138)] I<|an (b Y) I I<|an (b aG) I I<|cc I I (eM I) I (b aO) I I<|cc I I (eM I) I (b aQ) I I ag;have aT:M 6 210 3 [1,2,5,6,15,18] 3:=hi<|aa [(0,211),(3,218)] I<|an (b u) I I<|an (b E) I I ag;have aU:M 7 82 1 [1,2,5,15,18] 4:=hi<|aa [(0,83),(3,90),(7,210)] I<|an (b w) I I<|an (b F) I I<|cc I I (eM I) I (b aT) I I ag;have aV:M 6 210 4 [1,2,5,6,15,18] 3:=hi<|aa [(0,211),(3,218)] I<|an (b y) I I<|an (b G) I I ag;have aW:M 7 146 2 [1,2,6,15,18] 4:=hi<|aa [(0,147),(3,154),(6,210)] I<|an (b z) I I<|an (b H) I I<|cc I I (eM I) I (b aV) I I ag;have bq:M 8 18 0 [1,2,15,18] 0:=hi<|aa [(0,19),(3,26),(6,82),(7,146)] I<|an (b Z) I I<|an (b aG) I I<|cc I I (eM I) I (b aU) I I<|cc I I (eM I) I (b aW) I I ag;have bs:M 7 194 3 [1,2,5,6,15] 3:=hi<|aa [(0,195),(3,202),(4,210)] I<|an (b ad) I I<|an (b aH) I I<|an (b aT) I I ag;have bt:M 8 66 1 [1,2,5,15] 4:=hi<|aa [(0,67),(3,74),(4,82),(7,194)] I<|an (b af) I I<|an (b aO) I I<|an (b aU) I I<|cc I I (eM I) I (b bs) I I ag;have bu:M 7 194 4 [1,2,5,6,15] 3:=hi<|aa [(0,195),(3,202),(4,210)] I<|an (b ah) I I<|an (b aP) I I<|an (b aV) I I ag;have bw:M 8 130 2 [1,2,6,15] 4:=hi<|aa [(0,131),(3,138),(4,146),(6,194)] I<|an (b ai) I I<|an (b aQ) I I<|an (b aW) I I<|cc I I (eM I) I (b bu) I I ag;have bY:M 9 2 0 [1,2,15] 0:=hi<|aa [(0,3),(3,10),(4,18),(6,66),(7,130)] I<|an (b bf) I I<|an (b bp) I I<|an (b bq) I I<|cc I I (eM I) I (b bt) I I<|cc I I (eM I) I (b bw) I I ag;have aX:M 6 216 3 [1,2,5,6,17,18] 3:=hi<|aa [(0,217),(1,218)] I<|an (b A) I I<|an (b E) I I ag;have aY:M 7 88 1 [1,2,5,17,18] 4:=hi<|aa [(0,89),(1,90),(7,216)] I<|an (b B) I I<|an (b F) I I<|cc I I (eM I) I (b aX) I I ag;have aZ:M 6 216 4 [1,2,5,6,17,18] 3:=hi<|aa [(0,217),(1,218)] I<|an (b C) I I<|an (b G) I I ag;have a1:M 7 152 2 [1,2,6,17,18] 4:=hi<|aa [(0,153),(1,154),(6,216)] I<|an (b D) I I<|an (b H) I I<|cc I I (eM I) I (b aZ) I I ag;have bA:M 8 24 0 [1,2,17,18] 0:=hi<|aa [(0,25),(1,26),(6,88),(7,152)] I<|an (b al) I I<|an (b aG) I I<|cc I I (eM I) I (b aY) I I<|cc I I (eM I) I (b a1) I I ag;have bB:M 7 200 3 [1,2,5,6,17] 3:=hi<|aa [(0,201),(1,202),(4,216)] I<|an (b ar) I I<|an (b aH) I I<|an (b aX) I I ag;have bC:M 8 72 1 [1,2,5,17] 4:=hi<|aa [(0,73),(1,74),(4,88),(7,200)] I<|an (b aw) I I<|an (b aO) I I<|an (b aY) I I<|cc I I (eM I) I (b bB) I I ag;have bD:M 7 200 4 [1,2,5,6,17] 3:=hi<|aa [(0,201),(1,202),(4,216)] I<|an (b ay) I I<|an (b aP) I I<|an (b aZ) I I ag;have bE:M 8 136 2 [1,2,6,17] 4:=hi<|aa [(0,137),(1,138),(4,152),(6,200)] I<|an (b az) I I<|an (b aQ) I I<|an (b a1) I I<|cc I I (eM I) I (b bD) I I ag;have bZ:M 9 8 0 [1,2,17] 0:=hi<|aa [(0,9),(1,10),(4,24),(6,72),(7,136)] I<|an (b bg) I I<|an (b bp) I I<|an (b bA) I I<|cc I I (eM I) I (b bC) I I<|cc I I (eM I) I (b bE) I I ag;have bF:M 7 208 3 [1,2,5,6,18] 3:=hi<|aa [(0,209),(1,210),(3,216)] I<|an (b aA) I I<|an (b aT) I I<|an (b aX) I I ag;have K:M 8 80 1 [1,2,5,18] 4:=hi<|aa [(0,81),(1,82),(3,88),(7,208)] I<|an (b aB) I I<|an (b aU) I I<|an (b aY) I I<|cc I I (eM I) I (b bF) I I ag;have L:M 7 208 4 [1,2,5,6,18] 3:=hi<|aa [(0,209),(1,210),(3,216)] I<|an (b aC) I I<|an (b aV) I I<|an (b aZ) I I ag;have N:M 8 144 2 [1,2,6,18] 4:=hi<|aa [(0,145),(1,146),(3,152),(6,208)] I<|an (b aD) I I<|an (b aW) I I<|an (b a1) I I<|cc I I (eM I) I (b L) I I ag;have bK:M 9 16 0 [1,2,18] 0:=hi<|aa [(0,17),(1,18),(3,24),(6,80),(7,144)] I<|an (b bh) I I<|an (b bq) I I<|an (b bA) I I<|cc I I (eM I) I (b K) I I<|cc I I (eM I) I (b N) I I ag;have bL:M 8 192 3 [1,2,5,6] 3:=hi<|aa [(0,193),(1,194),(3,200),(4,208)] I<|an (b bj) I I<|an (b bs) I I<|an (b bB) I I<|an (b bF) I I ag;have bM:M 9 64 1 [1,2,5] 4:=hi<|aa [(0,65),(1,66),(3,72),(4,80),(7,192)] I<|an (b bk) I I<|an (b bt) I I<|an (b bC) I I<|an (b K) I I<|cc I I (eM I) I (b bL) I I ag;have bN:M 8 192 4 [1,2,5,6] 3:=hi<|aa [(0,193),(1,194),(3,200),(4,208)] I<|an (b bl) I I<|an (b bu) I I<|an (b bD) I I<|an (b L) I I ag;have bP:M 9 128 2 [1,2,6] 4:=hi<|aa [(0,129),(1,130),(3,136),(4,144),(6,192)] I<|an (b bo) I I<|an (b bw) I I<|an (b bE) I I<|an (b N) I I<|cc I I (eM I) I (b bN) I I ag;have bQ:M 10 0 0 [1,2] 0:=hi<|aa [(0,1),(1,2),(3,8),(4,16),(6,64),(7,128)] I<|an (b bV) I I<|an (b bY) I I<|an (b bZ) I I<|an (b bK) I I<|cc I I (eM I) I (b bM) I I<|cc I I (eM I) I (b bP) I I ag;exact bQ
 refine aK<|au 3 I<|bm (jV I I I (by decide) ((show(a:Int).tdiv 2=((a / 2:Nat):Int) by rw[Sv (by omega)];omega)) (by unfold In64;omega)) I<|bm (aM ((a / 2*7)) I) I<|au 1 I<|bm (aJ I ((fq T.ah (a / 2) 6 hi (by omega)).trans (show(lS (cP T.ah (a / 2)))[6]? =some (num g) by rw[<-b0];rfl))) I<|au 3 I<|aE [1,2,5,6,7] I ?_;refine aK<|au 4 I<|aE [1,2,5,6,7,8] I ?_;refine aK<|au 1 I<|bm (jV I I I (by decide) ((show(a:Int).tdiv 2=((a / 2:Nat):Int) by rw[Sv (by omega)];omega)) (by unfold In64;omega)) I<|au 3 I<|aE [2,5,6,7,8,9] I ?_;refine gr (xs:=[num n]) 5 0 0 I I<|gr (xs:=[num h]) 6 1 0 I I ?_;refine gr (xs:=cN 3 g) 7 2 0 I I<|gr (xs:=cN 2 h) 8 3 0 I I ?_;refine gr (xs:=cN 1 ((a / 2:Nat):Int)) 9 4 0 I I<|dS [] (.c 2<|.c 5<|.c 6<|.c 7<|.c 8<|.c 9<|.nil) .nil rfl rfl ?_;refine ab (.v (gm I I) I<|.a 1 I<|.k [6,7,8,9,10] I)<|aK<|au 1 I<|aE [6,7,8,9,10,11] I ?_;refine Hh ([(6,.bq [num h] 0),(7,.bq (cN 3 g) 0),(8,.bq (cN 2 h) 0),(9,.bq (cN 1 ((a / 2:Nat):Int)) 0),(10,.func 128 [.bq (bn T) 0,.bq [num n] 0]),(11,.ptr 0 0)]) (λσ=>∃v,(∀σ',ax σ' v (aq (if 0<g then bJ T (gO T 3 g) n true else [])))/\σ=[some (.cells 28 [v])]) ?_ ?_
 ·refine bz 36 (.raw (.bool (c1))) [6,7,8,9,10,11] I ?_ ?_
  ·exact .a 2 I<|.v (bW I (bG)) I<|.k [36,6,7,8,9,10,11] I
  refine ae I (λh2=>?_) (λh2=>?_)
  ·have bH:0<g:=tt (by rw[bG,h2]);rw[QY bH];refine bx<|au 2 I<|ez I (h1 3 g) I<|au 1 I<|aE [6,7,8,9,10,11] I ?_;first
    |exact⟨aR (ks:=[6,7,8,9,10,11]) I,_,λ_=>ax.pure (p:=aq _),rfl⟩
    |exact⟨aR (ks:=[6,7,8,9,10,11]) I,_,λ_=>ax.bH,rfl⟩
  ·have bH:¬0<g:=ff (by rw[bG,h2]);rw[QZ bH];refine aj ?_;first
    |exact⟨aR (ks:=[6,7,8,9,10,11]) I,_,λ_=>ax.pure (p:=aq _),rfl⟩
    |exact⟨aR (ks:=[6,7,8,9,10,11]) I,_,λ_=>ax.bH,rfl⟩
 ·rintro σ ⟨v,hv,rfl⟩;refine aK<|au 2 I<|ez I (h1 2 h) I<|au 2 I<|aE [6,7,8,9,11,12] I ?_;refine aK<|bm (gm I I) I<|bm (gm I I) I<|cb (jZ (xs:=[_,_]) I (S3 I) ⟨Re rfl,Re rfl⟩ rfl rfl) I<|au 2 I<|aE [9,13] I ?_;refine ab (.v (gm I I) I<|.a 1 I<|.k [4] I)<|ao ?_;unfold my F2 F3;exact⟨_,_,RY I,ax.uk (QV (U4 rfl (QV (Tj rfl (QV (ax.uk (QV ax.pure<|QV (U4 rfl (QV (hv _) Rl)) Rl))<|QV (ax.uk (QV ax.pure<|QV ax.pure<|QV (U4 rfl (QV (ax.pure (p:=aq _)) Rl)) Rl)) Rl)) Rl))<|QV ax.pure Rl),rfl⟩
theorem xc{α:Type}(f:α->List PV)(s:Nat)(b:∀a,(f a).length=s)(z:α):∀(l:List α) (d:Nat),d<l.length->over (l.flatMap f) (d*s) (f z)=(l.set d z).flatMap f
 | [],d,h=>by simp at h
 |a::l,0,_=>by
  unfold over;rw[RL,Uj,Uh,b,SW,RL,Sx,Si];congr 1;rw[<-b a,List.drop_left]
 |a::l,d+1,h=>by
  have c:=xc f s b z l d (by simpa using h);unfold over at*;have e:(d+1)*s=(f a).length+d*s:=by rw[b,SB];omega
  rw[RL,T5,RL,<-c,e,List.take_length_add_append,S6,List.drop_length_add_append,RO]
theorem FM(l:List jI)(d:Nat)(z:jI)(h:d<l.length):over (dH l) (d*3) (jL z)=dH (l.set d z):=xc jL 3 (λ_=>rfl) z l d h
noncomputable def nP(T:ak)(D:List Bool)(n N j:Nat):List jI:=(List.range N).map λd=>if d<j then fZ T D n (d:Int) else⟨bu T D n d,false,[]⟩
theorem Iv(T:ak)(D:List Bool)(n N j:Nat):(nP T D n N j).length=N:=by simp[nP]
theorem FA(T:ak)(D:List Bool)(n N:Nat):nP T D n N 0=toL T D n N:=by unfold nP toL;simp
theorem Iu(T:ak)(D:List Bool)(n N:Nat):nP T D n N N=pK T D n N:=by
 unfold nP pK;refine Se λd hd=>?_;rw[QY (Ri.1 hd)]
theorem AD{T D}{n N j i:Nat}(h:i<(nP T D n N j).length):(nP T D n N j)[i]=if i<j then fZ T D n (i:Int) else⟨bu T D n i,false,[]⟩:=by simp[nP]
theorem Fz(T:ak)(D:List Bool)(n N j:Nat):(nP T D n N j).set j (fZ T D n (j:Int))=nP T D n N (j+1):=by
 apply Sl (by simp[nP]);intro i h1 h2;rw[TG,AD,AD];by_cases e:j=i
 ·subst e;rw[QY rfl,QY (by omega)]
 ·rw[QZ e];by_cases h:i<j
  ·rw[QY h,QY (by omega)]
  ·rw[QZ h,QZ (by omega)]
def sG(T:ak)(D:List Bool)(n:Nat)(l:List jI):ca:=[some (.cells 76 [num 0,.raw (.slice none 0 0),.raw (.slice none 0 0)]),some (.row 120 3 T.nodes.toNat (dH l)),some (.row 3 1 (cI D (bK T n)).length (aU (cI D (bK T n)))),some (.cells 76 [num n,.own 1,.own 2])]
theorem JC(T:ak)(D:List Bool)(n:Nat)(hv:av T=true)(i:bN T D=true)(hn:(n:Int)<T.nodes)(cS:T.nodes<=12):bM prog 69 ([aV D,.agg [num n,.own 1,.own 2]]++[.bq (bn T) 0,.bq [num n] 0]) (sG T D n (toL T D n T.nodes.toNat)) (λ_ σ'=>σ'=sG T D n (pK T D n T.nodes.toNat)++[some (.cells 76 [num n,.own 1,.own 2])]):=by
 have d:=bO hv;have f:aX T (n:Int)=true:=aQ.2 ⟨by omega,hn⟩;obtain⟨N,hN⟩:∃N:Nat,T.nodes.toNat=N:=⟨_,rfl⟩;have g:T.nodes=(N:Int):=by have:=(aS hv).nodes;omega
 unfold sG;rw[hN,<-FA];have⟨dl,b⟩:=QQ (cI D (bK T n));rw[b];refine cF func69 I ntmps69 I<|aK<|cb (fV I I I) I<|aE [0,2,3,5] I ?_;refine ab (.a 4 I<|.k [0,2,3,5,9,10] I)<|aw<|eF [0,2,3,5,9,10] I<|bd (λr s=>∃j,j<=N/\r=N - j/\s=⟨[(0,aV D),(2,.bq (bn T) 0),(3,.bq [num n] 0),(5,.ptr 4 0),(9,num N),(10,num j)],[some (.cells 76 [num 0,.raw (.slice none 0 0),.raw (.slice none 0 0)]),some (.row 120 3 N (dH (nP T D n N j))),some (.row 3 1 dl.length (aU dl)),some (.cells 76 [num n,.own 1,.own 2]),some (.cells 76 [num n,.own 1,.own 2])]⟩) N ⟨0,by omega,by omega,rfl⟩ ?_;rintro r s ⟨j,l,rfl,rfl⟩;refine ab (.a 1 I<|.k [0,2,3,5,9,10,11] I)<|ai<|ae I (λh1=>?_) (λh1=>?_)
 ·have k:j<N:=by have:=tt h1;omega
  have a:=AU T D n j d cS;rw[lL hv i f (aQ.2 ⟨by omega,by omega⟩)]at a;have e:=Iv T D n N j;have h:(dH (nP T D n N j)).length=N*3:=by have:=uc jL 3 (λ_=>rfl) (nP T D n N j);rw[e]at this;exact this
  refine aj<|ai<|aw<|ab (.a 2 I<|.k [0,2,3,5,6,9,10] I)<|dh 12 20 mixed (.val [5] I (bb I) I I<|.val [14] I (bb I) I I<|.val [6] I (bb I) I I<|.val [2] I (bb I) I I<|.val [0] I (bb I) I I<|.val [3] I (bb I) I I<|.val [6] I (bb I) I I<|.val [17,18,19,20] I (dX I (a)) I I<|.val [21] I (bb I) I I<|.val [13] I (bb I) I I<|.late [13] I (xi rfl rfl rfl) inferInstance rfl rfl<|.val [15,16] I (aM ((j*3)) I) I I<|.nil) (by kernel_rfl) I I (aR (ks:=[0,2,3,5,9,10,22,24]) I) ?_;refine bc (oD I (Q6 I) I I I I I (show j*3+3<=(dH (nP T D n N j)).length by omega)) I I<|aE [0,2,3,5,9,10] I ?_;refine eO (σ':=[some (.cells 76 [num 0,.raw (.slice none 0 0),.raw (.slice none 0 0)]),some (.row 120 3 N (dH (nP T D n N (j+1)))),some (.row 3 1 dl.length (aU dl)),some (.cells 76 [num n,.own 1,.own 2]),some (.cells 76 [num n,.own 1,.own 2])]) (by rw[<-Fz,<-FM _ _ _ (by omega)];rfl)<|aC (.v (aW I) I<|.a 1 I<|.k [0,2,3,5,9,10] I) ?_;exact⟨N - (j+1),by omega,j+1,by omega,rfl,rfl⟩
 ·have c:j=N:=by have:=ff h1;omega
  subst c;refine ba<|⟨_,RY I,?_⟩;rw[Iu]
  rfl
theorem A3(T:ak)(D:List Bool)(n:Nat)(c:Option cX)(a:ct T D [(n:Int)]=0):bM prog 66 [aL T,aV D,num n] [c] (λr σ'=>r= .tuple [.agg [num n,.own 3,.own 4],num 0]/\σ'=[c,some (.cells 76 [num n,.own 3,.own 4]),some (.cells 76 [num n,.own 3,.own 4]),some (.row 120 3 T.nodes.toNat (dH (toL T D n T.nodes.toNat))),some (.row 3 1 (cI D (bK T n)).length (aU (cI D (bK T n))))]):=by
 refine bM.frame (RT (A4 T D n a) ?_);rintro r σ' ⟨rfl,rfl⟩;refine⟨[.cells 76 [num n,.own 2,.own 3],.cells 76 [num n,.own 2,.own 3],.row 120 3 T.nodes.toNat (dH (toL T D n T.nodes.toNat)),.row 3 1 (cI D (bK T n)).length (aU (cI D (bK T n)))],rfl,.tuple [.agg [num n,.own 3,.own 4],num 0],[.cells 76 [num n,.own 3,.own 4],.cells 76 [num n,.own 3,.own 4],.row 120 3 T.nodes.toNat (dH (toL T D n T.nodes.toNat)),.row 3 1 (cI D (bK T n)).length (aU (cI D (bK T n)))],?_,?_,rfl,rfl⟩
 ·exact Up.aO (T9 (Up.eQ (T9 Up.pure<|T9 (Up.own rfl)<|T9 (Up.own rfl) ml.nil)) (T9 Up.pure ml.nil))
 ·exact U5 (.cells (T9 Up.pure<|T9 (Up.own rfl)<|T9 (Up.own rfl) ml.nil))<|U5 (.cells (T9 Up.pure<|T9 (Up.own rfl)<|T9 (Up.own rfl) ml.nil))<|U5 (.row ml.pure)<|U5 (.row ml.pure) ni.nil
instance (e:Int) (x:cQ):IsPure (iw e x):=by unfold iw;infer_instance
def iV(T:ak)(k x n:Int):Int:=if dy T k x=0 then(if aX T n then 0 else 2) else 1
theorem oI{T}{k x:Int}(h:dy T k x=0):(av T&&cd T k x)=true:=by
 unfold dy at h;split at h
 ·assumption
 ·omega
theorem JD(T:ak)(D:List Bool)(n:Nat):bM prog 71 ([aV D,.agg [num n,.own 1,.own 2]]++[]) (sG T D n (toL T D n T.nodes.toNat)) (λ_ σ'=>σ'=sG T D n (toL T D n T.nodes.toNat)++[some (.cells 76 [num n,.own 1,.own 2])]):=by
 unfold sG;refine cF func71 I ntmps71 I<|bx<|cb (fV I I I) I<|aE [] I ?_;exact⟨_,RY I,rfl⟩
theorem uF{T}{k x:Int}(h:dy T k x≠0):dy T k x=1:=by
 unfold dy at*;split
 ·rename_i a;rw[QY a]at h;exact absurd rfl h
 ·rfl
theorem tI(T:ak)(k x n:Int)(f:FuncId)(cap:List PV)[aP cap](he:iV T k x n≠0):
  Can prog 68 [aL T,bV k x,num n,.func f cap] (· =iw (iV T k x n) ⟨0,[],[]⟩):=by
 have b:=nO T k x;have e:=cM T k x;unfold iZ at b;have c:=uZ T (az T k x) n;refine aF func68 I ntmps68 I<|aK<|au 4 I<|aE [2,3,4,5,8] I ?_;refine ab (.a 2 I<|.c rfl (b) I<|.a 5 I<|.k [2,3,4,8,10,11] I)<|ai<|ab (.a 2 I<|.k [2,3,4,8,10,11,20] I)<|ae I (λh1=>?_) (λh1=>?_)
 ·have h1:=tt h1;have d:iV T k x n=dy T k x:=by
   unfold iV;rw[QZ h1,uF h1]
  rw[d];refine aK<|au 4 I<|aE [8,9] I ?_;exact ao<|QR I (RW (QV (TI (QV ax.pure<|QV ax.bH<|QV ax.bH Rl)) (QV ax.pure Rl))) (by unfold iw;rw[QZ h1];rfl)
 ·have h1:dy T k x=0:=Q4 (ff h1);obtain⟨hv,hc⟩:=Q3.1 (oI h1);rw[QY h1];have hn:aX T n=false:=by
   cases hn:aX T n with
   |false=>rfl
   |true=>exact absurd (show iV T k x n=0 by unfold iV;rw[QY h1,hn];rfl) he
  have a:ct T (az T k x) [n]=2:=by unfold ct;rw[hv,e];simp[hn]
  have g:gS T (az T k x) n=⟨0,[],[]⟩:=by unfold gS;rw[QZ (by rw[a];decide)]
  rw[a,g]at c;have he:iV T k x n=2:=by unfold iV;rw[QY h1,hn];rfl
  rw[he];refine aj<|aK<|au 3 I<|ez I (c) I<|au 6 I<|aE [3,8,10,11,12] I ?_;refine ai<|ab (.a 2 I<|.k [3,8,10,11,12,31] I)<|ae I (λh2=>?_) (λh2=>?_)
  ·skip
   refine aK<|au 4 I<|aE [8,9] I ?_;exact ao<|QR I (RW (QV (TI (QV ax.pure<|QV ax.bH<|QV ax.bH Rl)) (QV ax.pure Rl))) rfl
  ·exact absurd h2 (by decide)
theorem wh(T:ak)(k x:Int)(n:Nat)(f:FuncId)(cap:List PV)[aP cap](L:List jI)(e:enters prog f=true)(hv:(av T&&cd T k x)=true)(hn:(n:Int)<T.nodes)(hl:L.length=T.nodes.toNat)
  (j:bM prog f ([aV (az T k x),.agg [num n,.own 1,.own 2]]++cap) (sG T (az T k x) n (toL T (az T k x) n T.nodes.toNat)) (λ_ σ'=>σ'=sG T (az T k x) n L++[some (.cells 76 [num n,.own 1,.own 2])])):
  Can prog 68 [aL T,bV k x,num n,.func f cap] (· =iw 0 ⟨n,L,cI (az T k x) (bK T n)⟩):=by
 have a:=nO T k x;have b:=cM T k x;have g:dy T k x=0:=by unfold dy;rw[QY hv]
 unfold iZ at a;rw[g,QY rfl]at a;have⟨M,hM⟩:=QQ (az T k x);rw[hM]at a b j ⊢;obtain⟨hv,hc⟩:=Q3.1 hv;have d:ct T M [(n:Int)]=0:=by unfold ct;rw[hv,b];simp[aQ.2 (show 0<=(n:Int)/\(n:Int)<T.nodes by omega)]
 have i:=λc=>A3 T M n c d;refine aF func68 I ntmps68 I<|aK<|au 4 I<|aE [2,3,4,5,8] I ?_;refine ab (.a 2 I<|.c rfl (a) I<|.a 5 I<|.k [2,3,4,8,10,11] I)<|ai<|ab (.a 2 I<|.k [2,3,4,8,10,11,20] I)<|ae I (λh1=>?_) (λh1=>?_)
 ·exact absurd h1 (by decide)
 ·skip
  refine aj<|aK<|au 3 I<|cD I I (RT (i _) (λr σ' h=>?_));obtain⟨rfl,rfl⟩:=h;refine au 6 I<|aE [3,8,10,11,12] I ?_;refine ai<|ab (.a 2 I<|.k [3,8,10,11,12,31] I)<|ae I (λh2=>?_) (λh2=>?_)
  ·exact absurd h2 (by decide)
  ·skip
   refine aj<|dS [0,3,4,5] (.c 3<|.c 8<|.c 10<|.c 12<|.nil) (.kept rfl (.cells (Sr<|Sr<|Sr<|Sy))<|.kept rfl (.row RZ)<|.kept rfl (.row RZ)<|.kept rfl (.cells (Sr<|Sr<|Sr<|Sy))<|.nil) I I ?_;refine aK<|au 3 I<|zz I e rfl rfl rfl rfl rfl (RT j (λr σ' h=>?_));obtain rfl:=h;refine aE [8,12] I<|aK<|au 3 I<|aE [8,9] I ?_;refine ao<|⟨_,_,RY I,RW (QV (TI (QV ax.pure<|QV (Tj rfl Sj)<|QV (Tj rfl Sj) Rl)) (QV ax.pure Rl)),?_⟩;unfold iw dW fi iW aq;rw[QY rfl,hl]
theorem xG{T}{k x n:Int}(h:iV T k x n=0):(av T&&cd T k x)=true/\aX T n=true:=by
 unfold iV at h;split at h
 ·rename_i h1;refine⟨oI h1,?_⟩;split at h
  ·assumption
  ·omega
 ·omega
theorem JE(T:ak)(k x n:Int)(cS:T.nodes<=12):Can prog 39 [aL T,bV k x,num n] (· =iw (iV T k x n) (zl T (az T k x) n.toNat)):=by
 have key:Can prog 68 [aL T,bV k x,num n,.func 69 [.bq (bn T) 0,.bq [num n] 0]] (· =iw (iV T k x n) (zl T (az T k x) n.toNat)):=by
  by_cases he:iV T k x n=0
  ·obtain⟨hm,hn⟩:=xG he;obtain⟨hv,hc⟩:=Q3.1 hm;rw[aQ]at hn;obtain⟨m,rfl⟩:=QW hn.1;rw[he];exact wh T k x m _ _ _ (by kernel_rfl) hm hn.2 (qR _ _ _ _) (JC T (az T k x) m hv (cM T k x) hn.2 cS)
  ·have h:=tI T k x n 69 [.bq (bn T) 0,.bq [num n] 0] he;unfold iw at h ⊢;rw[QZ he]at h ⊢;exact h
 refine aF func39 I ntmps39 I<|aK<|au 5 I<|aE [3,4,5,6] I ?_;refine aK<|au 4 I<|ez I (key) I<|au 4 I<|aE [6,7] I ?_;exact ao<|QR I (ax.pure (p:=iw (iV T k x n) (zl T (az T k x) n.toNat))) rfl
theorem JA(T:ak)(k x n:Int):Can prog 41 [aL T,bV k x,num n] (· =iw (iV T k x n) (dU T (az T k x) n.toNat)):=by
 have key:Can prog 68 [aL T,bV k x,num n,.func 71 []] (· =iw (iV T k x n) (dU T (az T k x) n.toNat)):=by
  by_cases he:iV T k x n=0
  ·obtain⟨hm,hn⟩:=xG he;obtain⟨hv,hc⟩:=Q3.1 hm;rw[aQ]at hn;obtain⟨m,rfl⟩:=QW hn.1;rw[he];exact wh T k x m _ _ _ (by kernel_rfl) hm hn.2 (tu _ _ _ _) (JD T (az T k x) m)
  ·have h:=tI T k x n 71 [] he;unfold iw at h ⊢;rw[QZ he]at h ⊢;exact h
 refine aF func41 I ntmps41 I<|aK<|au 4 I<|aE [2,3,4,6] I ?_;refine aK<|au 3 I<|ez I (key) I<|au 4 I<|aE [6,7] I ?_;exact ao<|QR I (ax.pure (p:=iw (iV T k x n) (dU T (az T k x) n.toNat))) rfl
theorem nX(T:ak)(D:List Bool)(n:Int):PV.tuple [dW (gS T D n),num (ct T D [n])]=iw (ct T D [n]) (dU T D n.toNat):=by
 unfold iw gS;rfl
theorem JB(T:ak)(n:Int):Can prog 35 [aL T,num n] (· =iw (ct T [] [n]) (dU T [] n.toNat)):=by
 refine aF func35 I ntmps35 I<|aK<|au 3 I<|aE [1,2,4] I ?_;have hr:=uZ T [] n;rw[nX]at hr;refine aK<|au 2 I<|bm (sT I (QV ax.pure<|QV ax.bH<|QV ax.pure Rl) (hr)) I<|au 4 I<|aE [4,5] I ?_;exact ao<|QR I (ax.pure (p:=iw (ct T [] [n]) (dU T [] n.toNat))) rfl
theorem Gq(T:ak)(n:Int):Can prog 52 [aL T,num n] (· =iw (ct T [] [n]) (dU T [] n.toNat)):=by
 refine aF func52 I ntmps52 I<|aK<|au 3 I<|aE [1,2,4] I ?_;have hr:=su T [] n;rw[nX]at hr;refine aK<|au 2 I<|bm (sT I (QV ax.pure<|QV ax.bH<|QV ax.pure Rl) (hr)) I<|au 4 I<|aE [4,5] I ?_;exact ao<|QR I (ax.pure (p:=iw (ct T [] [n]) (dU T [] n.toNat))) rfl
theorem HH{T}{k x:Int}(h:dy T k x=0)(n:Int):ct T (az T k x) [n]=iV T k x n:=by
 obtain⟨hv,hc⟩:=Q3.1 (oI h);unfold ct iV;rw[QY h,hv,cM];simp
theorem Gp(T:ak)(k x n:Int):Can prog 55 [aL T,bV k x,num n] (· =iw (iV T k x n) (dU T (az T k x) n.toNat)):=by
 have a:=oP T k x;unfold iZ at a;refine aF func55 I ntmps55 I<|aK<|au 4 I<|aE [2,3,4,6] I ?_;refine ab (.a 2 I<|.c rfl (a) I<|.a 5 I<|.k [2,3,6,8,9] I)<|ai<|ab (.a 2 I<|.k [2,3,6,8,9,17] I)<|ae I (λh1=>?_) (λh1=>?_)
 ·have h1:=tt h1;have c:iV T k x n=dy T k x:=by
   unfold iV;rw[QZ h1,uF h1]
  rw[c];refine aK<|au 4 I<|aE [6,7] I ?_;exact ao<|QR I (RW (QV (TI (QV ax.pure<|QV ax.bH<|QV ax.bH Rl)) (QV ax.pure Rl))) (by unfold iw;rw[QZ h1];rfl)
 ·have h1:dy T k x=0:=Q4 (ff h1);rw[QY h1];have b:=su T (az T k x) n;rw[nX,HH h1]at b;refine aj<|aK<|au 3 I<|ez I (b) I<|au 4 I<|aE [6,7] I ?_;exact ao<|QR I (ax.pure (p:=iw (iV T k x n) (dU T (az T k x) n.toNat))) rfl
theorem zJ{T:ak}{a:Nat}(hv:av T=true)(c:a<2*T.ah.length){d:Nat}(hd:(d:Int)<T.nodes){n:Nat}(hn:aZ T a=(n:Int))(k x:Int)(hm:(av T&&cd T k x)=true):d<(bJ T (gO T k x) n true).length/\decide (0<=(bJ T (gO T k x) n true).getD d 0)=iO T (az T k x) (aZ T a) d:=by
 have b:(n:Int)<T.nodes:=by rw[<-hn];exact((aS hv).tail a c).2
 have hl:=(dD (D:=gO T k x) hv (dir:=true) b).1;refine⟨by omega,?_⟩;rw[hn,uE hm,SR,Ra,oM hv (cM T k x) b hd,KR hv b hd]
theorem Kr(T:ak)(a d:Nat)(hv:av T=true)(b:a<2*T.ah.length)(hd:(d:Int)<T.nodes):Can prog 132 ([num d]++my (gN T a) (aN T a) ((a / 2:Nat):Int) (MZ T a) (M0 T a)) (· =bV (dx T a d).1 (dx T a d).2):=by
 obtain⟨n,hn⟩:=QW ((aS hv).tail a b).1;have c:(aZ T a).toNat=n:=by omega
 have h2:=zJ hv b hd hn 2 (aN T a) (zI hv b);have hM:M0 T a=bJ T (gO T 2 (aN T a)) n true:=by unfold M0;rw[c]
 have g:0<gN T a->MZ T a=bJ T (gO T 3 (gN T a)) n true:=λh=>by unfold MZ;rw[QY h,c]
 have h:=Hs (gN T a) (aN T a) ((a / 2:Nat):Int) (MZ T a) (M0 T a) d (iO T (az T 3 (gN T a)) (aZ T a) d) (iO T (az T 2 (aN T a)) (aZ T a) d)
  (λf=>by rw[g f];exact zJ hv b hd hn 3 (gN T a) (Dp hv b f)) (by rw[hM];exact h2.1) (by rw[hM];exact h2.2)
 have e:(if(decide (0<gN T a)&&iO T (az T 3 (gN T a)) (aZ T a) d)=true then bV 3 (gN T a) else if(decide (aN T a≠(d:Int))&&iO T (az T 2 (aN T a)) (aZ T a) d)=true then bV 2 (aN T a) else bV 1 ((a / 2:Nat):Int))=bV (dx T a d).1 (dx T a d).2:=by
  unfold dx;split
  ·rfl
  ·split<;>rfl
 rw[e]at h;exact h
def K4(own:List Bool):List Int->Nat->Int
 | [],_=> -1
 |a::l,i=>bif aI own a.toNat then(i:Int) else K4 own l (i+1)
theorem Ik(own:List Bool):∀(l:List Int) (i:Nat),(K4 own l i= -1/\fA own l=none)\/∃j,j<l.length/\K4 own l i=((i+j:Nat):Int)/\fA own l=some (l.getD j 0)
 | [],i=>.inl ⟨rfl,rfl⟩
 |a::l,i=>by
  simp only[K4];by_cases h:aI own a.toNat=true
  ·refine .inr ⟨0,by simp,by rw[h];rfl,?_⟩;unfold fA;rw[List.find?_cons_of_pos (by exact h)]
   rfl
  ·rw[Tw.2 h];simp only[cond_false];have e:fA own (a::l)=fA own l:=by
    unfold fA;rw[List.find?_cons_of_neg (by exact h)]
   rw[e];rcases Ik own l (i+1)with b|⟨j,h1,h2,c⟩
   ·exact .inl b
   ·exact .inr ⟨j+1,by simpa using h1,by rw[h2];congr 1;omega,by rw[c];rfl⟩
theorem HS(own:List Bool)(k:Nat)(hk:k<own.length):Can prog 101 ([num k]++[.bq [aV own] 0]) (· =flag (aI own k)):=by
 exact aF func101 I ntmps101 I<|ab (.a 1 I<|.k [0,1] I)<|ab (.a 2 I<|.v (aM (k) I) I<|.v (aJ I ((show(bZ own)[k]? =some (flag (aI own k)) by rw[db _ k hk,fm]))) I<|.a 1 I<|.k [3] I)<|ao<|QR I ax.pure rfl
theorem Ih(l:List Int)(own:List Bool)(hl:l.length<=1000)(hm:∀a∈l,∃k:Nat,a=(k:Int)/\k<own.length):Can prog 100 [aq l,.func 101 [.bq [aV own] 0]] (· =num (K4 own l 0)):=by
 refine aF func100 I ntmps100 I<|ab (.a 1 I<|.k [0,1] I)<|ai<|ab (.a 3 I<|.k [0,1,7,8] I)<|aw<|eF [0,1,7,8] I<|bd (λr s=>∃i,i<=l.length/\r=l.length - i/\K4 own l 0=K4 own (l.drop i) i/\s=⟨[(0,aq l),(1,.func 101 [.bq [aV own] 0]),(7,num l.length),(8,num i)],[]⟩) l.length ⟨0,by omega,by omega,rfl,rfl⟩ ?_;rintro r s ⟨i,hi,rfl,hx,rfl⟩;refine ab (.a 1 I<|.k [0,1,7,8,9] I)<|ai<|ae I (λh1=>?_) (λh1=>?_)
 ·have b:i<l.length:=by have:=tt h1;omega
  obtain⟨k,hk,e⟩:=hm _ (bX (d:=0) b);rw[drop_cons l i b,hk]at hx;simp only[K4,QS]at hx;have⟨q,f⟩:=QQ (aI own k);have he:=HS own k e;rw[f]at he hx;refine aj<|ai<|aw<|ab (.a 2 I<|.k [0,1,5,7,8] I)<|ab (.a 3 I<|.v (aM (i) I) I<|.v (aJ I ((aB l i b).trans (by rw[hk]))) I<|.c rfl (he) I<|.k [0,1,5,7,8,16] I)<|ae I (λh2=>?_) (λh2=>?_)
  ·subst h2;rw[cond_true]at hx;rw[hx];exact ab (.a 2 I<|.k [4] I)<|ao<|QR I ax.pure rfl
  ·subst h2;rw[cond_false]at hx;refine aj<|aC (.v (aW I) I<|.a 1 I<|.k [0,1,7,8] I) ?_;exact⟨l.length - (i+1),by omega,i+1,by omega,rfl,hx,rfl⟩
 ·have c:i=l.length:=by have:=ff h1;omega
  subst c;rw[TX]at hx;rw[hx];exact ba<|ab (.a 1 I<|.k [4] I)<|ao<|QR I ax.pure rfl
theorem LC(p:List Int):Can prog 134 ([aq p]++[]) (· = .tuple []):=by
 exact aF func134 I ntmps134 I<|aj<|⟨_,_,RY I,ax.pure,rfl⟩
theorem AS(T:ak)(D:List Bool)(n d:Int):Can prog 133 [aL T,aV D,num n,num d,.func 134 []] (· =num (gG T D n d)):=by
 refine aF func133 I ntmps133 I<|ab (.a 2 I<|.k [1,2,3,4,5] I)<|ab (.a 4 I<|.c rfl (xF T D n d) I<|.a 5 I<|.k [4,11,12] I)<|ai<|ab (.a 2 I<|.k [4,11,12,22] I)<|ae I (λh1=>?_) (λh1=>?_)
 ·skip
  refine aC (.a 2 I<|.c rfl (LC _) I<|.k [12] I)<|ab (.a 2 I<|.k [10] I)<|ao<|QR I ax.pure rfl
 ·skip
  exact aj<|ab (.a 2 I<|.k [10] I)<|ao<|QR I ax.pure rfl
theorem CN(T:ak)(D:List Bool)(n d:Int):Can prog 103 [aL T,aV D,num n,num d] (· =flag (iO T D n d)):=by
 have⟨q,a⟩:=QQ (decide (gG T D n d=0));unfold iO;rw[a];exact aF func103 I ntmps103 I<|ab (.a 2 I<|.k [1,2,3,4] I)<|ab (.a 4 I<|.c rfl (AS T D n d) I<|.v (bW I (a)) I<|.a 1 I<|.k [8] I)<|ao<|QR I ax.pure rfl
theorem Fy(T:ak)(k x:Int)(hm:(av T&&cd T k x)=true)(σ:ca):bM prog 19 [aL T,bV k x] σ (λr σ'=>r= .tuple [.own σ.length,num 0]/\σ'=σ++[jX (az T k x)]):=by
 obtain⟨hv,hc⟩:=Q3.1 hm;refine bM.frame (RT (wR T k x hv hc) ?_);rintro r σ' ⟨rfl,rfl⟩;refine⟨[.row 4 1 (2*T.ah.length) (bZ (az T k x))],rfl,_,_,Up.aO (T9 (Up.own rfl) (T9 Up.pure ml.nil)),U5 (.row ml.pure) ni.nil,by simp,?_⟩;unfold jX;rw[fQ]
 rfl
theorem IZ(T:ak)(own:List Bool)(n d:Nat)(hv:av T=true)(bl:own.length=2*T.ah.length)(hn:(n:Int)<T.nodes)(hd:(d:Int)<T.nodes)(cS:T.nodes<=12):Can prog 67 [aL T,aV own,num n,num d] (· =tW (mZ T own n d)):=by
 have bL:=bO hv;have bQ:bN T own=true:=by unfold bN;rw[bl];simp
 have bp:aX T (n:Int)=true:=aQ.2 ⟨by omega,hn⟩;have bk:aX T (d:Int)=true:=aQ.2 ⟨by omega,hd⟩;have z:=uI T [] n d;rw[lL hv (iG T) bp bk,QS,QS]at z;unfold ec at z;rw[QY rfl]at z;have bo:=wV hv [] n d;have i:∀a∈bu T [] n d,∃k:Nat,a=(k:Int)/\k<2*T.ah.length:=λa ha=>by
  obtain⟨k,hk,bK⟩:=di ha;exact⟨k,hk,bK.eZ⟩
 unfold mZ;have⟨l,hl⟩:=QQ (bu T [] n d);rw[hl]at z bo i ⊢;have a6:=Ih l own (by omega) (λa ha=>by rw[bl];exact i a ha);have⟨ix,W⟩:=QQ (K4 own l 0);have y:=Ik own l 0;rw[W]at a6 y;simp only[Si]at y;refine aF func67 I ntmps67 I<|aK<|au 3 I<|aE [2,3,4,5,8] I ?_;refine ab (.a 3 I<|.v (sT I (QV ax.pure<|QV ax.bH<|QV ax.pure<|QV ax.pure Rl) (z)) I<|.a 5 I<|.k [2,3,4,5,8,9] I)<|ab (.a 1 I<|.v (gm I I) I<|.c rfl (a6) I<|.a 1 I<|.k [2,3,4,5,8,9,11] I)<|ai<|ab (.a 2 I<|.k [2,3,4,5,8,9,11,28] I)<|ae I (λh3=>?_) (λh3=>?_)
 ·have bP:fA own l=none:=by
   rcases y with h|⟨j,_,h,_⟩
   ·exact h.2
   ·rw[h]at h3;have:=tt h3;omega
  rw[bP];refine aK<|au 3 I<|aE [8] I ?_;exact ao<|QR I (TI (QV (ax.pure (p:=aq l))<|QV ax.pure<|QV ax.bH Rl)) rfl
 ·obtain⟨j,c,rfl,ha⟩:∃j,j<l.length/\ix=((j:Nat):Int)/\fA own l=some (l.getD j 0):=by
   rcases y with h|h
   ·rw[h.1]at h3;exact absurd h3 (by decide)
   ·exact h
  obtain⟨k,e,hk⟩:=i _ (bX (d:=0) c);rw[ha];simp only[];rw[e,QS];have bj:(av T&&cd T (dx T k d).1 (dx T k d).2)=true:=by rw[hv,zH hv hk];rfl
  have a1:=Kr T k d hv hk hd;have has:=BR T k hv hk;have a7:=λσ=>Fy T (dx T k d).1 (dx T k d).2 bj σ;have g:ld T own n d k=if iO T (orM T (az T (dx T k d).1 (dx T k d).2) own) n d=true then orM T (az T (dx T k d).1 (dx T k d).2) own else own:=rfl;generalize dx T k (d:Int)=cx at*;obtain⟨ck,cy⟩:=cx;simp only at bj a1 a7 g;have bf:=fQ T ck cy;have⟨M,hM⟩:=QQ (az T ck cy);rw[hM]at a7 g bf;have A:=AU T (ld T own n d k) n d bL cS;rw[lL hv (nQ bQ k) bp bk]at A;clear h3 i y a6 W;refine aj<|iB (aR (ks:=[2,3,4,5,8,9,11]) I) ?_;refine tG ([(2,num n),(3,num d),(4,.bq (bn T) 0),(5,.bq [aV own] 0),(8,.ptr 0 0),(12,.own 1)]) ([some (.cells 120 [.raw (.slice none 0 0),flag false,.raw (.slice none 0 0)]),jX M]) mixed ?_ ?_
  ·refine tH [[(2,num n),(3,num d),(4,.bq (bn T) 0),(5,.bq [aV own] 0),(8,.ptr 0 0),(9,aq l),(11,num j),(12,.own 1),(13,num 0),(31,.tuple [.own 1,num 0]),(32,aL T),(33,aL T),(34,aq l),(35,num j),(36,.bq (aU l) j),(37,num k),(38,.func 132 (my (gN T k) (aN T k) ((k / 2:Nat):Int) (MZ T k) (M0 T k))),(39,num d),(40,bV ck cy),(41,.tuple [.own 1,num 0]),(42,.own 1),(43,num 0)]] [[some (.cells 120 [.raw (.slice none 0 0),flag false,.raw (.slice none 0 0)])],[some (.cells 120 [.raw (.slice none 0 0),flag false,.raw (.slice none 0 0)]),jX M]] [2,3,4,5,8,9,11] I (by kernel_rfl) (λM hi b=>?_);have bR:M 0 32767 0 [2,3,4,5,8,12] 1:=hi<|rb I (by kernel_rfl) (⟨rfl,aR (ks:=[2,3,4,5,8,12]) I⟩);have bq:M 1 16383 0 [2,3,4,5,8,12,43] 1:=hi<|aa [(14,32767)] I<|an (b bR) I I ag;have bs:M 2 8191 0 [2,3,4,5,8,42,43] 1:=hi<|aa [(13,16383)] I<|an (b bq) I I ag;have bS:M 2 12287 0 [2,3,4,5,8,12,31] 1:=hi<|aa [(12,16383)] I<|an (b bq) I I ag;have bT:M 3 4095 0 [2,3,4,5,8,31,42] 1:=hi<|aa [(12,8191),(13,12287)] I<|an (b bs) I I<|an (b bS) I I ag;have bU:M 3 6143 0 [2,3,4,5,8,31,43] 1:=hi<|aa [(11,8191)] I<|an (b bs) I I ag;have bW:M 4 2047 0 [2,3,4,5,8,31] 1:=hi<|aa [(11,4095),(12,6143)] I<|an (b bT) I I<|an (b bU) I I ag;have bY:M 5 1023 0 [2,3,4,5,8,41] 1:=hi<|aa [(10,2047)] I<|an (b bW) I I ag;have bH:M 6 511 0 [2,3,4,5,8,32,40] 0:=hi<|aa [(9,1023)] I<|fK I I I I (a7 _) (b bY) I I ag;have bb:M 7 255 0 [2,3,4,5,8,32,38,39] 0:=hi<|aa [(8,511)] I<|br I I (dX I (a1)) I (b bH) I I ag;have X:M 8 127 0 [2,3,4,5,8,32,38] 0:=hi<|aa [(7,255)] I<|an (b bb) I I ag;have m:M 8 191 0 [2,3,4,5,8,32,33,37,39] 0:=hi<|aa [(6,255)] I<|br I I (dX I (has)) I (b bb) I I ag;have B:M 9 63 0 [2,3,4,5,8,32,33,37] 0:=hi<|aa [(6,127),(7,191)] I<|br I I (dX I (has)) I (b X) I I<|an (b m) I I ag;have o:M 9 159 0 [2,3,4,5,8,32,33,36,39] 0:=hi<|aa [(5,191)] I<|br I I (aJ I ((aB l j c).trans (by rw[e]))) I (b m) I I ag;have C:M 10 31 0 [2,3,4,5,8,32,33,36] 0:=hi<|aa [(5,63),(7,159)] I<|br I I (aJ I ((aB l j c).trans (by rw[e]))) I (b B) I I<|an (b o) I I ag;have f:M 10 143 0 [2,3,4,5,8,32,33,34,35,39] 0:=hi<|aa [(4,159)] I<|br I I (aM (j) I) I (b o) I I ag;have t:M 11 15 0 [2,3,4,5,8,32,33,34,35] 0:=hi<|aa [(4,31),(7,143)] I<|br I I (aM (j) I) I (b C) I I<|an (b f) I I ag;have u:M 11 135 0 [2,3,4,5,8,11,32,33,34,39] 0:=hi<|aa [(3,143)] I<|an (b f) I I ag;have F:M 12 7 0 [2,3,4,5,8,11,32,33,34] 0:=hi<|aa [(3,15),(7,135)] I<|an (b t) I I<|an (b u) I I ag;have v:M 11 139 0 [2,3,4,5,8,9,32,33,35,39] 0:=hi<|aa [(2,143)] I<|an (b f) I I ag;have G:M 12 11 0 [2,3,4,5,8,9,32,33,35] 0:=hi<|aa [(2,15),(7,139)] I<|an (b t) I I<|an (b v) I I ag;have H:M 12 131 0 [2,3,4,5,8,9,11,32,33,39] 0:=hi<|aa [(2,135),(3,139)] I<|an (b u) I I<|an (b v) I I ag;have Y:M 13 3 0 [2,3,4,5,8,9,11,32,33] 0:=hi<|aa [(2,7),(3,11),(7,131)] I<|an (b F) I I<|an (b G) I I<|an (b H) I I ag;have J:M 9 189 0 [2,3,4,5,8,32,37,39] 0:=hi<|aa [(1,191)] I<|an (b m) I I ag;have Z:M 10 61 0 [2,3,4,5,8,32,37] 0:=hi<|aa [(1,63),(7,189)] I<|an (b B) I I<|an (b J) I I ag;have K:M 10 157 0 [2,3,4,5,8,32,36,39] 0:=hi<|aa [(1,159),(5,189)] I<|an (b o) I I<|br I I (aJ I ((aB l j c).trans (by rw[e]))) I (b J) I I ag;have ad:M 11 29 0 [2,3,4,5,8,32,36] 0:=hi<|aa [(1,31),(5,61),(7,157)] I<|an (b C) I I<|br I I (aJ I ((aB l j c).trans (by rw[e]))) I (b Z) I I<|an (b K) I I ag;have w:M 11 141 0 [2,3,4,5,8,32,34,35,39] 0:=hi<|aa [(1,143),(4,157)] I<|an (b f) I I<|br I I (aM (j) I) I (b K) I I ag;have L:M 12 13 0 [2,3,4,5,8,32,34,35] 0:=hi<|aa [(1,15),(4,29),(7,141)] I<|an (b t) I I<|br I I (aM (j) I) I (b ad) I I<|an (b w) I I ag;have N:M 12 133 0 [2,3,4,5,8,11,32,34,39] 0:=hi<|aa [(1,135),(3,141)] I<|an (b u) I I<|an (b w) I I ag;have af:M 13 5 0 [2,3,4,5,8,11,32,34] 0:=hi<|aa [(1,7),(3,13),(7,133)] I<|an (b F) I I<|an (b L) I I<|an (b N) I I ag;have O:M 12 137 0 [2,3,4,5,8,9,32,35,39] 0:=hi<|aa [(1,139),(2,141)] I<|an (b v) I I<|an (b w) I I ag;have ah:M 13 9 0 [2,3,4,5,8,9,32,35] 0:=hi<|aa [(1,11),(2,13),(7,137)] I<|an (b G) I I<|an (b L) I I<|an (b O) I I ag;have al:M 13 129 0 [2,3,4,5,8,9,11,32,39] 0:=hi<|aa [(1,131),(2,133),(3,137)] I<|an (b H) I I<|an (b N) I I<|an (b O) I I ag;have bt:M 14 1 0 [2,3,4,5,8,9,11,32] 0:=hi<|aa [(1,3),(2,5),(3,9),(7,129)] I<|an (b Y) I I<|an (b af) I I<|an (b ah) I I<|an (b al) I I ag;have bw:M 7 510 0 [2,3,4,5,8,40] 0:=hi<|aa [(0,511)] I<|an (b bH) I I ag;have ar:M 8 254 0 [2,3,4,5,8,38,39] 0:=hi<|aa [(0,255),(8,510)] I<|an (b bb) I I<|br I I (dX I (a1)) I (b bw) I I ag;have bz:M 9 126 0 [2,3,4,5,8,38] 0:=hi<|aa [(0,127),(7,254)] I<|an (b X) I I<|an (b ar) I I ag;have P:M 9 190 0 [2,3,4,5,8,33,37,39] 0:=hi<|aa [(0,191),(6,254)] I<|an (b m) I I<|br I I (dX I (has)) I (b ar) I I ag;have ay:M 10 62 0 [2,3,4,5,8,33,37] 0:=hi<|aa [(0,63),(6,126),(7,190)] I<|an (b B) I I<|br I I (dX I (has)) I (b bz) I I<|an (b P) I I ag;have Q:M 10 158 0 [2,3,4,5,8,33,36,39] 0:=hi<|aa [(0,159),(5,190)] I<|an (b o) I I<|br I I (aJ I ((aB l j c).trans (by rw[e]))) I (b P) I I ag;have aA:M 11 30 0 [2,3,4,5,8,33,36] 0:=hi<|aa [(0,31),(5,62),(7,158)] I<|an (b C) I I<|br I I (aJ I ((aB l j c).trans (by rw[e]))) I (b ay) I I<|an (b Q) I I ag;have x:M 11 142 0 [2,3,4,5,8,33,34,35,39] 0:=hi<|aa [(0,143),(4,158)] I<|an (b f) I I<|br I I (aM (j) I) I (b Q) I I ag;have R:M 12 14 0 [2,3,4,5,8,33,34,35] 0:=hi<|aa [(0,15),(4,30),(7,142)] I<|an (b t) I I<|br I I (aM (j) I) I (b aA) I I<|an (b x) I I ag;have S:M 12 134 0 [2,3,4,5,8,11,33,34,39] 0:=hi<|aa [(0,135),(3,142)] I<|an (b u) I I<|an (b x) I I ag;have aD:M 13 6 0 [2,3,4,5,8,11,33,34] 0:=hi<|aa [(0,7),(3,14),(7,134)] I<|an (b F) I I<|an (b R) I I<|an (b S) I I ag;have U:M 12 138 0 [2,3,4,5,8,9,33,35,39] 0:=hi<|aa [(0,139),(2,142)] I<|an (b v) I I<|an (b x) I I ag;have aG:M 13 10 0 [2,3,4,5,8,9,33,35] 0:=hi<|aa [(0,11),(2,14),(7,138)] I<|an (b G) I I<|an (b R) I I<|an (b U) I I ag;have aH:M 13 130 0 [2,3,4,5,8,9,11,33,39] 0:=hi<|aa [(0,131),(2,134),(3,138)] I<|an (b H) I I<|an (b S) I I<|an (b U) I I ag;have bA:M 14 2 0 [2,3,4,5,8,9,11,33] 0:=hi<|aa [(0,3),(2,6),(3,10),(7,130)] I<|an (b Y) I I<|an (b aD) I I<|an (b aG) I I<|an (b aH) I I ag;have aO:M 10 188 0 [2,3,4,5,8,37,39] 0:=hi<|aa [(0,189),(1,190)] I<|an (b J) I I<|an (b P) I I ag;have bB:M 11 60 0 [2,3,4,5,8,37] 0:=hi<|aa [(0,61),(1,62),(7,188)] I<|an (b Z) I I<|an (b ay) I I<|an (b aO) I I ag;have aP:M 11 156 0 [2,3,4,5,8,36,39] 0:=hi<|aa [(0,157),(1,158),(5,188)] I<|an (b K) I I<|an (b Q) I I<|br I I (aJ I ((aB l j c).trans (by rw[e]))) I (b aO) I I ag;have bC:M 12 28 0 [2,3,4,5,8,36] 0:=hi<|aa [(0,29),(1,30),(5,60),(7,156)] I<|an (b ad) I I<|an (b aA) I I<|br I I (aJ I ((aB l j c).trans (by rw[e]))) I (b bB) I I<|an (b aP) I I ag;have V:M 12 140 0 [2,3,4,5,8,34,35,39] 0:=hi<|aa [(0,141),(1,142),(4,156)] I<|an (b w) I I<|an (b x) I I<|br I I (aM (j) I) I (b aP) I I ag;have aS:M 13 12 0 [2,3,4,5,8,34,35] 0:=hi<|aa [(0,13),(1,14),(4,28),(7,140)] I<|an (b L) I I<|an (b R) I I<|br I I (aM (j) I) I (b bC) I I<|an (b V) I I ag;have aT:M 13 132 0 [2,3,4,5,8,11,34,39] 0:=hi<|aa [(0,133),(1,134),(3,140)] I<|an (b N) I I<|an (b S) I I<|an (b V) I I ag;have bD:M 14 4 0 [2,3,4,5,8,11,34] 0:=hi<|aa [(0,5),(1,6),(3,12),(7,132)] I<|an (b af) I I<|an (b aD) I I<|an (b aS) I I<|an (b aT) I I ag;have aY:M 13 136 0 [2,3,4,5,8,9,35,39] 0:=hi<|aa [(0,137),(1,138),(2,140)] I<|an (b O) I I<|an (b U) I I<|an (b V) I I ag;have bE:M 14 8 0 [2,3,4,5,8,9,35] 0:=hi<|aa [(0,9),(1,10),(2,12),(7,136)] I<|an (b ah) I I<|an (b aG) I I<|an (b aS) I I<|an (b aY) I I ag;have bF:M 14 128 0 [2,3,4,5,8,9,11,39] 0:=hi<|aa [(0,129),(1,130),(2,132),(3,136)] I<|an (b al) I I<|an (b aH) I I<|an (b aT) I I<|an (b aY) I I ag;have bG:M 15 0 0 [2,3,4,5,8,9,11] 0:=hi<|aa [(0,1),(1,2),(2,4),(3,8),(7,128)] I<|an (b bt) I I<|an (b bA) I I<|an (b bD) I I<|an (b bE) I I<|an (b bF) I I ag;exact bG
  refine ai<|ab (.a 3 I<|.k [2,3,4,5,8,12,45,46] I)<|eO (σ':=[some (.cells 120 [.raw (.slice none 0 0),flag false,.raw (.slice none 0 0)]),jX (kR T M own 0)]) (by rw[wZ bf]) ?_;refine aw<|eF [2,3,4,5,8,12,45,46] I<|bd (λr s=>∃a,a<=2*T.ah.length/\r=2*T.ah.length - a/\s=⟨[(2,num n),(3,num d),(4,.bq (bn T) 0),(5,.bq [aV own] 0),(8,.ptr 0 0),(12,.own 1),(45,num M.length),(46,num a)],[some (.cells 120 [.raw (.slice none 0 0),flag false,.raw (.slice none 0 0)]),jX (kR T M own a)]⟩) (2*T.ah.length) ⟨0,by omega,by omega,rfl⟩ ?_;rintro r s ⟨a,b0,rfl,rfl⟩;have b1:=qq T M own a;refine ab (.a 1 I<|.k [2,3,4,5,8,12,45,46,47] I)<|ai<|ae I (λh4=>?_) (λh4=>?_)
  ·have bM:a<2*T.ah.length:=by have:=tt h4;omega
   have a8:=wY T M own a;have aZ:=D0 (T:=T) (D:=M) (E:=own) bM;clear h4;refine aj<|ai<|aw<|ab (.a 2 I<|.k [2,3,4,5,8,12,14,45,46] I) ?_;have⟨c1,bg⟩:=QQ (aI M a);have⟨c2,bh⟩:=QQ (aI own a);rw[bg,bh]at a8;rw[bg]at aZ;refine Hi (Q1:=λst=>st=⟨[(2,num n),(3,num d),(4,.bq (bn T) 0),(5,.bq [aV own] 0),(8,.ptr 0 0),(12,.own 1),(45,num M.length),(46,num a)],[some (.cells 120 [.raw (.slice none 0 0),flag false,.raw (.slice none 0 0)]),jX (kR T M own (a+1))]⟩) ?_ ?_
   ·cases c1
    ·refine bx<|au 4 I<|bm (aM (a) I) I<|bm (aJ I ((show(bZ (kR T M own a))[a]? =some (flag false) by rw[db _ a (by omega),aZ]))) I<|au 3 I<|bm (aM (a) I) I<|bm (aJ I ((show(bZ own)[a]? =some (flag c2) by rw[db _ a (by omega),fm,bh]))) I<|au 1 I<|bm (aM (a) I) I<|bc (cA I (Q6 I) I I I (by first|omega|(simp;omega))) I I<|aE [2,3,4,5,8,12,45,46] I ?_;rw[<-a8];unfold jX;rw[Ry]
     rfl
    ·refine bx<|au 4 I<|bm (aM (a) I) I<|bm (aJ I ((show(bZ (kR T M own a))[a]? =some (flag true) by rw[db _ a (by omega),aZ]))) I<|au 6 I<|bm (aM (a) I) I<|bc (cA I (Q6 I) I I I (by first|omega|(simp;omega))) I I<|aE [2,3,4,5,8,12,45,46] I ?_;rw[<-a8];unfold jX;rw[Ry]
     rfl
   rintro _ rfl;refine aC (.v (aW I) I<|.a 1 I<|.k [2,3,4,5,8,12,45,46] I)<|⟨2*T.ah.length - (a+1),by omega,a+1,by omega,rfl,rfl⟩
  ·have bJ:a=2*T.ah.length:=by have:=ff h4;omega
   subst bJ;rw[AO];clear h4;refine ba<|ai<|BM 12 1 I I ?_;refine dS [0] (.c 2<|.c 3<|.c 4<|.c 5<|.c 8<|.c 12<|.nil) (.kept rfl (.cells (Sr<|Sr<|Sr<|Sy))<|.nil) I I ?_;have⟨q,hq⟩:=QQ (iO T (orM T M own) n d);rw[hq]at g;refine ab (.a 4 I<|.c rfl (hq▸CN T (orM T M own) n d) I<|.a 1 I<|.k [2,3,4,5,8,12,68] I)<|ae I (λh5=>?_) (λh5=>?_)
   ·have h5:q=false:=by simpa using h5
    rw[h5,QZ (by simp)]at g;rw[g]at A ⊢;refine aC (.a 2 I<|.k [2,3,4,8,12] I)<|aK<|au 4 I<|ez I (A) I<|au 6 I<|aE [8,15] I ?_;refine aK<|au 2 I<|aE [8] I ?_;exact ao<|QR I (ax.pure (p:=tW _)) rfl
   ·have h5:q=true:=by simpa using h5
    rw[h5,QY rfl]at g;rw[g]at A ⊢;refine aj<|aK<|au 4 I<|ez I (A) I<|au 6 I<|aE [8,15] I ?_;refine aK<|au 2 I<|aE [8] I ?_;exact ao<|QR I (ax.pure (p:=tW _)) rfl
def o6(T:ak)(M:List Bool)(o:List Int)(i:Nat):List Bool:=(List.range (2*T.ah.length)).map fun(b:Nat)=>decide ((b:Int)∈o.take i)&&aI M b
theorem HQ(T:ak)(M:List Bool)(o:List Int)(i:Nat):(o6 T M o i).length=2*T.ah.length:=by simp[o6]
theorem tS{T M}{o:List Int}{i b:Nat}(h:b<(o6 T M o i).length):(o6 T M o i)[b]=(decide ((b:Int)∈o.take i)&&aI M b):=by simp[o6]
theorem EL(T:ak)(M:List Bool)(o:List Int):o6 T M o 0=List.replicate (2*T.ah.length) false:=by
 apply Sl (by simp[o6]);intro i h1 h2;rw[tS];simp
theorem EK{T:ak}{M}{o:List Int}{i k:Nat}(hi:i<o.length)(hk:o.getD i 0=(k:Int))(d:k<2*T.ah.length):o6 T M o (i+1)=if aI M k then(o6 T M o i).set k true else o6 T M o i:=by
 have a:∀b:Nat,((b:Int)∈o.take (i+1))↔((b:Int)∈o.take i\/b=k):=λb=>by
  rw[dE o i 0 hi,RR,Rj,hk];exact⟨λh=>h.imp id (λe=>by omega),λh=>h.imp id (λe=>by omega)⟩
 split
 ·rename_i hd;apply Sl (by simp[o6]);intro b h1 h2;rw[tS,TG];by_cases e:k=b
  ·subst e;rw[QY rfl,Rb ((a k).2 (.inr rfl)),hd]
   rfl
  ·rw[QZ e,tS];congr 1;exact decide_eq_decide.2 ((a b).trans ⟨λh=>h.resolve_right (λc=>e c.symm),.inl⟩)
 ·rename_i hd;unfold o6;refine Se λb _=>?_;by_cases e:b=k
  ·subst e;rw[Tw.2 hd];simp
  ·congr 1;exact decide_eq_decide.2 ((a b).trans ⟨λh=>h.resolve_right e,.inl⟩)
theorem HP(T:ak)(M:List Bool)(n:Int):o6 T M (bK T n) (bK T n).length=eS T M n:=by
 unfold o6 eS;refine Se λb hb=>?_;have hb:=Ri.1 hb;rw[RC,Bool.and_comm];congr 1;refine decide_eq_decide.2 (jD.trans ⟨λh=>by have:=h.2;rwa [QS]at this,λh=>⟨cH.2 (by omega),by rw[QS];exact h⟩⟩)
theorem FT(T:ak)(k x n:Int)(cS:T.nodes<=12):Can prog 37 [aL T,bV k x,num n] (· =iw (if dy T k x=0 then(if aX T n then 0 else 2) else 1) (sQ T (az T k x) n.toNat)):=by
 have h:=nO T k x;unfold iZ at h;refine aF func37 I ntmps37 I<|aK<|au 4 I<|aE [2,3,4,6] I ?_;refine ab (.a 2 I<|.c rfl (h) I<|.a 5 I<|.k [2,3,6,8,9] I)<|ai<|ab (.a 2 I<|.k [2,3,6,8,9,22] I)<|ae I (λh1=>?_) (λh1=>?_)
 ·have h1:=tt h1;rw[QZ h1];have p:=uF h1;rw[p];refine aK<|au 4 I<|aE [6,7] I ?_;exact ao<|QR I (RW (QV (TI (QV ax.pure<|QV ax.bH<|QV ax.bH Rl)) (QV ax.pure Rl))) rfl
 ·have h1:dy T k x=0:=Q4 (ff h1);obtain⟨hv,hc⟩:=Q3.1 (oI h1);rw[QY h1,QY h1];have A:=bO hv;refine aj<|ai<|ab (.a 2 I<|.c rfl (ej T n) I<|.a 1 I<|.k [2,3,6,8,28] I)<|ae I (λh2=>?_) (λh2=>?_)
  ·have hn:aX T n=false:=by simpa using h2
   rw[hn];refine aK<|au 3 I<|aE [6,7] I ?_;exact ao<|QR I (RW (QV (TI (QV ax.pure<|QV ax.bH<|QV ax.bH Rl)) (QV ax.pure Rl))) rfl
  ·have hn:aX T n=true:=by simpa using h2
   rw[hn,QY rfl];rw[aQ]at hn;obtain⟨m,rfl⟩:=QW hn.1;rw[QS];obtain⟨N,hN⟩:∃N:Nat,T.nodes=(N:Int):=⟨T.nodes.toNat,by omega⟩;have u:=fQ T k x;have⟨M,hM⟩:=QQ (az T k x);rw[hM]at u ⊢;have E:(bK T m).length<=512:=Rr (eu T m _) (by omega);clear h2 h;refine aj<|aK<|au 4 I<|aE [2,3,6,8,10] I ?_;refine cm 1 1 120 3 I I<|cm 1 2 3 1 I I ?_;refine aK<|au 1 I<|ez I (jw T (by omega)) I<|cb (dc I (Ru I) I I (show 2*(T.ah.length:Int)=((2*T.ah.length:Nat):Int) by omega) (show 2*(T.ah.length:Int)=((2*T.ah.length:Nat):Int) by omega) ⟨by unfold maxLen;omega,by omega⟩) I<|au 1 I<|aE [2,3,6,8,10,11] I ?_;refine ai<|ab (.a 2 I<|.c rfl (qt T A _) I<|.a 2 I<|.k [2,3,6,8,10,11,37,38,39] I)<|aw<|eF [2,3,6,8,10,11,37,38,39] I<|eO (σ':=[some (.cells 76 [num 0,.raw (.slice none 0 0),.raw (.slice none 0 0)]),some (.cells 76 [num m,.own 2,.own 3]),some (.row 120 3 0 []),some (.row 3 1 0 []),some (.row 4 1 (2*T.ah.length) (bZ (o6 T M (bK T m) 0)))]) (by rw[EL,<-jH];rfl) ?_;refine bd (λr s=>∃i,i<=(bK T m).length/\r=(bK T m).length - i/\s=⟨[(2,num m),(3,.bq (bn T) 0),(6,.ptr 0 0),(8,aV M),(10,.ptr 1 0),(11,.own 4),(37,aq (bK T m)),(38,num (bK T m).length),(39,num i)],[some (.cells 76 [num 0,.raw (.slice none 0 0),.raw (.slice none 0 0)]),some (.cells 76 [num m,.own 2,.own 3]),some (.row 120 3 0 []),some (.row 3 1 (cI M ((bK T m).take i)).length (aU (cI M ((bK T m).take i)))),some (.row 4 1 (2*T.ah.length) (bZ (o6 T M (bK T m) i)))]⟩) (bK T m).length ⟨0,by omega,by omega,rfl⟩ ?_;rintro r s ⟨i,hi,rfl,rfl⟩
   skip
   refine ab (.a 1 I<|.k [2,3,6,8,10,11,37,38,39,40] I)<|ai<|ae I (λf=>?_) (λf=>?_)
   ·have e:i<(bK T m).length:=by have:=tt f;omega
    obtain⟨a0,F⟩:=kS (bX (d:=0) e);obtain⟨a,v⟩:=QW a0;have w:a<2*T.ah.length:=by omega
    have b:cI M ((bK T m).take (i+1))=cI M ((bK T m).take i)++(if aI M a then [(a:Int)] else []):=by
     unfold cI;rw[dE _ i 0 e,Sd,v];simp only[S1,Tg,QS]
    have l:(cI M ((bK T m).take i)).length<=1000:=Rr (RG _ _) (by rw[Sg];omega);have c:=EK (T:=T) (M:=M) e v w;have D:=HQ T M (bK T m) i;have⟨q,C⟩:=QQ (aI M a);rw[C]at b c;clear f;refine aj<|ai<|aw<|ab (.v (aM (i) I) I<|.v (aJ I ((aB _ i e).trans (by rw[v]))) I<|.a 1 I<|.k [2,3,6,8,10,11,13,37,38,39] I)<|ab (.a 2 I<|.v (aM (a) I) I<|.v (aJ I ((show(bZ M)[a]? =some (flag q) by rw[db _ a (by omega),fm,C]))) I<|.k [2,3,6,8,10,11,13,37,38,39,46] I)<|ae I (λt=>?_) (λt=>?_)
    ·subst t;rw[QY rfl]at b c;refine aK<|au 2 I<|bm (aM (a) I) I<|bc (cA I (Q6 I) I I I (by first|omega|(simp;omega))) I I<|aE [2,3,6,8,10,11,13,37,38,39] I ?_;refine bx<|au 4 I<|cb (bF I (Ru I) I I I I (by unfold maxLen;omega)) I<|au 2 I ?_;refine dL [0,1,2,5,4] (.c 2<|.c 3<|.c 6<|.c 8<|.c 10<|.c 11<|.c 37<|.c 38<|.c 39<|.nil) (.kept rfl (.cells (Sr<|Sr<|Sr<|Sy))<|.kept rfl (.cells (Sr<|Sr<|Sr<|Sy))<|.kept rfl (.row RZ)<|.kept rfl (.eY rfl (cW _ _))<|.kept rfl (.row RZ)<|.nil) I I (bg ?_);refine aC (.v (aW I) I<|.a 1 I<|.k [2,3,6,8,10,11,37,38,39] I)<|⟨(bK T m).length - (i+1),by omega,i+1,by omega,rfl,?_⟩;rw[b,c];first
      |rfl
      |(simp only[Q0,Rk];rfl)
    ·subst t;rw[QZ (by simp),R9]at b;rw[QZ (by simp)]at c;refine aj<|aC (.v (aW I) I<|.a 1 I<|.k [2,3,6,8,10,11,37,38,39] I) ?_;refine⟨(bK T m).length - (i+1),by omega,i+1,by omega,rfl,?_⟩;rw[b,c];first
      |rfl
      |(simp only[Q0,Rk];rfl)
   ·have y:i=(bK T m).length:=by have:=ff f;omega
    subst y;rw[HP,RC];clear f;refine ba<|ai ?_;have g:(eS T M m).length=2*T.ah.length:=by simp[eS]
    unfold sQ;have⟨own,o⟩:=QQ (eS T M m);rw[o]at g ⊢;have⟨dl,l⟩:=QQ (cI M (bK T m));rw[l];refine dS [0,1,2,3,4] (.c 2<|.c 3<|.c 6<|.c 10<|.c 11<|.nil) (.kept rfl (.cells (Sr<|Sr<|Sr<|Sy))<|.kept rfl (.cells (Sr<|Sr<|Sr<|Sy))<|.kept rfl (.row RZ)<|.kept rfl (.row RZ)<|.kept rfl (.eY (show 2*T.ah.length=own.length by omega) I)<|.nil) I I<|BM 11 4 I I ?_;refine dS [0,1,2,3] (.c 2<|.c 3<|.c 6<|.c 10<|.c 11<|.nil) (.kept rfl (.cells (Sr<|Sr<|Sr<|Sy))<|.kept rfl (.cells (Sr<|Sr<|Sr<|Sy))<|.kept rfl (.row RZ)<|.kept rfl (.row RZ)<|.nil) I I<|ab (.a 1 I<|.v (aJ I ((show some (num T.nodes)=some (num (N:Int)) by rw[hN]))) I<|.a 1 I<|.k [2,3,6,10,11,58,59] I)<|aw<|eF [2,3,6,10,11,58,59] I<|bd (λr s=>∃j,j<=N/\r=N - j/\s=⟨[(2,num m),(3,.bq (bn T) 0),(6,.ptr 0 0),(10,.ptr 1 0),(11,aV own),(58,num N),(59,num j)],[some (.cells 76 [num 0,.raw (.slice none 0 0),.raw (.slice none 0 0)]),some (.cells 76 [num m,.own 2,.own 3]),some (.row 120 3 j (dH (pz T own m j))),some (.row 3 1 dl.length (aU dl))]⟩) N ⟨0,by omega,by omega,rfl⟩ ?_;rintro r s ⟨j,G,rfl,rfl⟩;refine ab (.a 1 I<|.k [2,3,6,10,11,58,59,60] I)<|ai<|ae I (λf=>?_) (λf=>?_)
    ·have e:j<N:=by have:=tt f;omega
     have B:=IZ T own m j hv g hn.2 (by omega) cS;refine aj<|ai<|aw<|ab (.a 2 I<|.k [2,3,6,10,11,14,58,59] I)<|dh 8 20 mixed (.val [10] I (bb I) I I<|.val [62] I (bb I) I I<|.val [3] I (bb I) I I<|.val [11] I (bb I) I I<|.val [2] I (bb I) I I<|.val [14] I (bb I) I I<|.val [64,65,66,67] I (dX I (B)) I I<|.val [68] I (bb I) I I<|.nil) (by kernel_rfl) I I (aR (ks:=[2,3,6,10,11,58,59,63,69]) I) ?_;refine cb (bF I (Ru I) I I I I (by unfold maxLen;omega)) I<|au 2 I ?_;refine dL [0,1,4,3] (.c 2<|.c 3<|.c 6<|.c 10<|.c 11<|.c 58<|.c 59<|.nil) (.kept rfl (.cells (Sr<|Sr<|Sr<|Sy))<|.kept rfl (.cells (Sr<|Sr<|Sr<|Sy))<|.kept rfl (.eY rfl (show _=dH (pz T own m (j+1)) by rw[xl];exact jc _ _))<|.kept rfl (.row RZ)<|.nil) I I (bg ?_);refine aC (.v (aW I) I<|.a 1 I<|.k [2,3,6,10,11,58,59] I)<|⟨N - (j+1),by omega,j+1,by omega,rfl,rfl⟩
    ·have z:j=N:=by have:=ff f;omega
     subst z;refine ba<|aK<|bm (ee (ys:=[num m,.own 2,.own 3]) I (Q6 I) I I I I) I<|au 2 I<|aE [6,7] I ?_;refine ao<|⟨_,_,RY I,RW (QV (TI (QV ax.pure<|QV (Tj rfl Sj)<|QV (Tj rfl Sj) Rl)) (QV ax.pure Rl)),?_⟩;unfold iw dW fi iW aq;rw[QY rfl,qz,show T.nodes.toNat=j by omega]
end
end PW
namespace PW
open Go.RowKit cG Mem Net eE
namespace Eo
def OR(T:ak)(D:List Bool)(d:Nat)(L:List Int)(a:Nat):List Int:=
 if(!aI D a)&&decide (0<=L.getD (aN T a).toNat 0)&&(decide (aN T a=(d:Int))|| !bR T (aN T a).toNat)&&(decide (L.getD (aZ T a).toNat 0<0)||decide (L.getD (aN T a).toNat 0+cz T a<L.getD (aZ T a).toNat 0))
 then L.set (aZ T a).toNat (L.getD (aN T a).toNat 0+cz T a) else L
def dC(T:ak)(D:List Bool)(d:Nat):List Int:=(List.range T.nodes.toNat).foldl (λL _=>(List.range (2*T.ah.length)).foldl (OR T D d) L) ((List.replicate T.nodes.toNat (-1)).set d 0)
def Me(T:ak)(D:List Bool)(n:Nat)(out:List Int)(a:Nat):Bool:= !aI D a&&decide (0<=at' out (du T false a))&&(decide (du T false a=(n:Int))|| !bR T (du T false a).toNat)
def Nj(T:ak)(D:List Bool)(n:Nat)(out:List Int):Bool:=
 decide (out.length=T.nodes.toNat)&&decide (at' out (n:Int)=0)&&(List.range T.nodes.toNat).all (λx=>decide (-1<=at' out (x:Int)))&&
 (List.range (2*T.ah.length)).all (λa=> !Me T D n out a||(decide (0<=at' out (fY T false a))&&decide (at' out (fY T false a)<=at' out (du T false a)+cz T a)))&&
 (List.range T.nodes.toNat).all (λx=>decide (x=n)||decide (at' out (x:Int)<0)||(List.range (2*T.ah.length)).any λa=>decide (fY T false a=(x:Int))&&Me T D n out a&&decide (at' out (x:Int)=at' out (du T false a)+cz T a))
def p6(T:ak)(D:List Bool):Bool:=(List.range T.nodes.toNat).all λd=>Nj T D d (dC T D d)
theorem zm(T:ak)(D:List Bool)(n:Nat)(out:List Int)(a:Nat):Net.Way T D n false out a↔Me T D n out a=true:=by
 unfold Net.Way Me;simp[and_assoc]
theorem KG{T D}(hv:av T=true){n:Nat}{out:List Int}(h:Nj T D n out=true):jJ T D n false out:=by
 have hN:=(aS hv).nodes;simp only[Nj,Q7,Ra,Rq,Ri,RX,R4,S0]at h;obtain⟨⟨⟨⟨h1,h2⟩,c⟩,d⟩,e⟩:=h;refine⟨by rw[h1];omega,h2,λx hx=>c x (by omega),λa b hw=>?_,λx hx h0=>?_⟩
 ·rcases d a b with h|h
  ·rw[(zm T D n out a).1 hw]at h;cases h
  ·exact h
 ·rcases e x (by omega)with(h|h)|⟨a,b,⟨f,g⟩,i⟩
  ·exact .inl h
  ·omega
  ·exact .inr ⟨a,b,f,(zm T D n out a).2 g,i⟩
theorem KF{T:ak}{D}(hv:av T=true)(h:p6 T D=true){d:Nat}(hd:(d:Int)<T.nodes):bJ T D d false=dC T D d:=by
 refine lK (aS hv) (KG hv ?_);simp only[p6,Rq,Ri]at h;exact h d (by omega)
def mV(T:ak)(D:List Bool)(n d:Nat):List Int:=if n=d\/(dC T D d).getD n 0<0 then [] else ll T D (dC T D d) ((dC T D d).getD n 0) d (bK T n)
theorem next{T:ak}{D}(hv:av T=true)(h:p6 T D=true){n d:Nat}(hd:(d:Int)<T.nodes):bu T D n d=mV T D n d:=by
 unfold bu mV;rw[KF hv h hd]
def yy(T:ak)(D:List Bool)(d:Nat):Nat->Nat->List Int
 |0,_=>[]
 |f+1,n=>match mV T D n d with
  | []=>[]
  |a::_=>a::yy T D d f (aN T a.toNat).toNat
def ve(T:ak)(D:List Bool)(n d:Nat):List Int:=yy T D d ((dC T D d).getD n 0).toNat n
theorem first{T:ak}{D}(hv:av T=true)(h:p6 T D=true){d:Nat}(hd:(d:Int)<T.nodes):∀f n,gb T D d f n=yy T D d f n
 |0,_=>rfl
 |f+1,n=>by
  simp only[gb,yy,next hv h hd];cases mV T D n d with
  |nil=>rfl
  |cons a l=>simp only[first hv h hd f]
theorem OU{T:ak}{D}(hv:av T=true)(h:p6 T D=true){n d:Nat}(hd:(d:Int)<T.nodes):cE T D n d=ve T D n d:=by
 unfold cE ve dN;rw[KF hv h hd,first hv h hd]
def L6(T:ak)(D:List Bool)(s d:Int):Int:=if bY T D s d=0 then(if(dC T D d.toNat).getD s.toNat 0<0 then 11 else 0) else bY T D s d
theorem tc{T:ak}{D}{s d:Int}(h:bY T D s d=0):(d.toNat:Int)<T.nodes/\0<=d:=by
 obtain⟨_,_,_,a⟩:=fH h;rw[aQ]at a;omega
theorem Pt{T D}(hv:av T=true)(h:p6 T D=true)(s d:Int):gG T D s d=L6 T D s d:=by
 unfold gG L6 dN;by_cases h0:bY T D s d=0
 ·rw[QY h0,QY h0,KF hv h (tc h0).1]
 ·rw[QZ h0,QZ h0]
def B0(T:ak)(D:List Bool)(d:Nat):Nat->Nat->Int
 |0,m=>if m=d then 1 else 0
 |f+1,m=>if m=d then 1 else(mV T D m d).foldl (λc a=>min 2 (c+B0 T D d f (aN T a.toNat).toNat)) 0
theorem mn{T:ak}{D}(hv:av T=true)(h:p6 T D=true){d:Nat}(hd:(d:Int)<T.nodes):∀f m,o5 T D d f m=B0 T D d f m
 |0,_=>rfl
 |f+1,m=>by
  simp only[o5,B0,next hv h hd];split
  ·rfl
  ·exact foldl_congr λc a _=>by rw[mn hv h hd f]
def EI(T:ak)(D:List Bool)(n:Int)(p:List Int)(i j:Nat):Bool:=
 decide ((dC T D (cV T n (p.take j)).toNat).getD (cV T n (p.take i)).toNat 0=dB T (p.take j) - dB T (p.take i))&&(decide (bY T D (cV T n (p.take i)) (cV T n (p.take j))=0)&&decide (B0 T D (cV T n (p.take j)).toNat ((dC T D (cV T n (p.take j)).toNat).getD (cV T n (p.take i)).toNat 0).toNat (cV T n (p.take i)).toNat=1))
theorem Pn{T D}(hv:av T=true)(h:p6 T D=true)(n:Int)(p:List Int)(i j:Nat):fc T D n p i j=EI T D n p i j:=by
 unfold fc EI fN eA dN;by_cases h0:bY T D (cV T n (p.take i)) (cV T n (p.take j))=0
 ·rw[KF hv h (tc h0).1,mn hv h (tc h0).1]
 ·rw[Rg h0];simp
def It(T:ak)(D:List Bool)(n:Int)(p:List Int):Nat->Nat->List bG
 |0,_=>[]
 |f+1,i=>if i<p.length then(match kc (EI T D n p i) i p.length with
  |some j=>⟨1,cV T n (p.take j)⟩::It T D n p f j
  |none=>⟨2,p.getD i 0⟩::It T D n p f (i+1)) else []
theorem ML{T D}(hv:av T=true)(h:p6 T D=true)(n:Int)(p:List Int):∀f i,iJ T D n p f i=It T D n p f i
 |0,_=>rfl
 |f+1,i=>by
  have:fc T D n p i=EI T D n p i:=funext λj=>Pn hv h n p i j;simp only[iJ,It,this];split
  ·cases kc (EI T D n p i) i p.length with
   |none=>simp only[ML hv h n p f]
   |some j=>simp only[ML hv h n p f]
  ·rfl
def Nr(T:ak)(D:List Bool)(n d:Int):jI:=
 if L6 T D n d=0/\n≠d then⟨[(ve T D n.toNat d.toNat).getD 0 0],true,iE (It T [] n (ve T D n.toNat d.toNat) (ve T D n.toNat d.toNat).length 0)⟩ else⟨[],false,[]⟩
theorem zu{T D}(hv:av T=true)(h0:p6 T []=true)(h:p6 T D=true)(n d:Int):fZ T D n d=Nr T D n d:=by
 unfold fZ Nr;rw[Pt hv h];by_cases hd:(d.toNat:Int)<T.nodes
 ·unfold gX;rw[OU hv h hd,ML hv h0]
 ·have:¬L6 T D n d=0:=by
   unfold L6;intro a;split at a
   ·rename_i h1;exact hd (tc h1).1
   ·rename_i h1;exact h1 a
  rw[QZ (λa=>this a.1),QZ (λa=>this a.1)]
def my(T:ak)(a:Nat)(d:Int):Int×Int:=
 if(decide (0<gN T a)&&decide (L6 T (az T 3 (gN T a)) (aZ T a) d=0))=true then(3,gN T a)
 else if(decide (aN T a≠d)&&decide (L6 T (az T 2 (aN T a)) (aZ T a) d=0))=true then(2,aN T a)
 else(1,((a / 2:Nat):Int))
theorem QF{T}(hv:av T=true){a:Nat}(b:p6 T (az T 3 (gN T a))=true)(h2:p6 T (az T 2 (aN T a))=true)(d:Int):dx T a d=my T a d:=by
 unfold dx my iO;rw[Pt hv b,Pt hv h2]
end Eo
end PW
namespace PW
open Go.RowKit cG Mem Net eE
namespace Eo
def zc(T:ak)(D:List Bool)(n:Nat):cQ:=⟨n,(List.range T.nodes.toNat).map fun(d:Nat)=>⟨mV T D n d,false,[]⟩,cI D (bK T n)⟩
theorem Je{T D}(hv:av T=true)(h:p6 T D=true)(n:Nat):dU T D n=zc T D n:=by
 have hN:=(aS hv).nodes;unfold dU zc toL;congr 1;refine Se λd hd=>?_;have:=Ri.1 hd;rw[next hv h (by omega)]
end Eo
def zb:List Bool:=[true,true,false,false,false,false,false,false]
theorem oN:Eo.p6 dr []=true:=by kernel_rfl
def MU:cQ:=⟨3,[⟨[6],false,[]⟩,⟨[5,6],false,[]⟩,⟨[5],false,[]⟩,⟨[],false,[]⟩],[]⟩
theorem I9:dU dr [] 3=MU:=(Eo.Je mM oN 3).trans (by kernel_rfl)
end PW
namespace PW
open Go.RowKit cG Mem Net eE
namespace Eo
def Ll(T:ak)(own:List Bool)(n d:Int)(a:Nat):List Bool:=
 if L6 T (orM T (az T (my T a d).1 (my T a d).2) own) n d=0 then orM T (az T (my T a d).1 (my T a d).2) own else own
def NL(T:ak)(own:List Bool)(n d:Nat):jI:=match fA own (mV T [] n d)with
 |none=>⟨mV T [] n d,false,[]⟩
 |some a=>Nr T (Ll T own n d a.toNat) n d
def Nk(T:ak)(own:List Bool)(n d:Nat):Bool:=match fA own (mV T [] n d)with
 |none=>true
 |some a=>p6 T (az T 3 (gN T a.toNat))&&p6 T (az T 2 (aN T a.toNat))&&p6 T (orM T (az T (my T a.toNat d).1 (my T a.toNat d).2) own)&&p6 T (Ll T own n d a.toNat)
theorem rep{T:ak}{own}{n d:Nat}(hv:av T=true)(h0:p6 T []=true)(hd:(d:Int)<T.nodes)(h:Nk T own n d=true):mZ T own n d=NL T own n d:=by
 unfold mZ NL;unfold Nk at h;rw[next hv h0 hd];cases f:fA own (mV T [] n d)with
 |none=>rfl
 |some a=>
  rw[f]at h;simp only[Q7]at h;obtain⟨⟨⟨h1,h2⟩,b⟩,c⟩:=h;have hm:ld T own n d a.toNat=Ll T own n d a.toNat:=by
   unfold ld Ll iO;rw[QF hv h1 h2,Pt hv b];by_cases e:L6 T (orM T (az T (my T a.toNat (d:Int)).1 (my T a.toNat (d:Int)).2) own) n d=0
   ·rw[QY (by simpa using e),QY e]
   ·rw[QZ (by simpa using e),QZ e]
  simp only[];rw[hm,zu hv h0 c]
def D8(T:ak)(M:List Bool)(n:Nat):cQ:=⟨n,(List.range T.nodes.toNat).map λd=>NL T (eS T M n) n d,cI M (bK T n)⟩
theorem I5{T:ak}{M}{n:Nat}(hv:av T=true)(h0:p6 T []=true)(h:((List.range T.nodes.toNat).all λd=>Nk T (eS T M n) n d)=true):sQ T M n=D8 T M n:=by
 have hN:=(aS hv).nodes;unfold sQ D8 pz;congr 1;refine Se λd hd=>?_;have a:=Ri.1 hd;exact rep hv h0 (by omega) (Rq.1 h d hd)
end Eo
def MV:cQ:=⟨0,[⟨[],false,[]⟩,⟨[7],true,[⟨1,3⟩,⟨1,2⟩,⟨1,1⟩]⟩,⟨[7],true,[⟨1,3⟩,⟨1,2⟩]⟩,⟨[7],false,[]⟩],[0]⟩
theorem Ja:sQ dr zb 0=MV:=(Eo.I5 mM oN (by kernel_rfl)).trans (by kernel_rfl)
end PW
namespace PW
section
open Go.RowKit cG Mem Net Go.WideShapes
structure JY where
 T:ak
 k:Int
 x:Int
 S:List Int
 n:Int
 d:Int
def LK(c:JY):List PV:=bn c.T++[num c.k,num c.x,aq c.S,num c.n,num c.d]
def CP(c:JY):PV:=.agg (LK c)
instance (c:JY):aP (LK c):=by unfold LK;unfold bn;simp only[RF,Sx];infer_instance
instance (c:JY):IsPure (CP c):=by unfold CP;infer_instance
section
variable {H:Type} {enc:TypeId×Value->H} {W:World}
theorem LM{n:Nat}{cs:List Value}{y}(h:DataW.trod enc prog W 0 (λ_=>true) true n 27 cs=some y)(hl:cs.length=2):∃k x:Int,cs=[.int .i64 k,.int .i64 x]:=by
 have b:prog.cellsOf 3=1:=by kernel_rfl
 obtain⟨xs,m,_,_,_,a,c⟩:=DataW.trod_struct Tryz.underlying27 h
 match cs,hl with
 | [c0,c1],_=>
  match xs,a with
  | [e,f],_=>
   have f0:DataW.trod enc prog W 0 (λ_=>true) true m 3 (([c0,c1].drop 0).take (prog.cellsOf 3))=some e:=c 0 _ rfl;rw[b]at f0;have f1:DataW.trod enc prog W 0 (λ_=>true) true m 3 (([c0,c1].drop 1).take (prog.cellsOf 3))=some f:=c 1 _ rfl;rw[b]at f1;obtain⟨a0,h0⟩:=je f0;obtain⟨d,h1⟩:=je f1;simp at h0 h1;subst h0 h1;exact⟨a0,d,rfl⟩
theorem NK{base:Nat}{v d p}(hv:Value.okWide prog W .any base 30 v)(h:DataW.Trod enc prog W 0 (λ_=>true) true 30 v d p):∃c:JY,cZ EN W v (CP c):=by
 have hC:prog.cellsOf 30=8:=by kernel_rfl
 have k_topo:prog.cellsOf 25=3:=by kernel_rfl
 have k_comp:prog.cellsOf 27=2:=by kernel_rfl
 have k_ints:prog.cellsOf 28=1:=by kernel_rfl
 have k_int:prog.cellsOf 3=1:=by kernel_rfl
 obtain⟨cs,rfl,t⟩:=okWide_struct Tryz.underlying30 hv;rw[hC]at t;obtain⟨B,D⟩:=h;obtain⟨cl⟩:=cs
 match cl,t with
 | [c0,c1,b,f,g,e,j,l],_=>
  obtain⟨xs,m,_,_,_,q,n⟩:=DataW.trod_struct Tryz.underlying30 D
  match xs,q with
  | [E,F,G,J,K],_=>
   have f0:DataW.trod enc prog W 0 (λ_=>true) true m 25 (([c0,c1,b,f,g,e,j,l].drop 0).take (prog.cellsOf 25))=some E:=n 0 _ rfl;rw[k_topo]at f0;have f1:DataW.trod enc prog W 0 (λ_=>true) true m 27 (([c0,c1,b,f,g,e,j,l].drop 3).take (prog.cellsOf 27))=some F:=n 1 _ rfl;rw[k_comp]at f1;have f2:DataW.trod enc prog W 0 (λ_=>true) true m 28 (([c0,c1,b,f,g,e,j,l].drop 5).take (prog.cellsOf 28))=some G:=n 2 _ rfl;rw[k_ints]at f2;have f3:DataW.trod enc prog W 0 (λ_=>true) true m 3 (([c0,c1,b,f,g,e,j,l].drop 6).take (prog.cellsOf 3))=some J:=n 3 _ rfl;rw[k_int]at f3;have f4:DataW.trod enc prog W 0 (λ_=>true) true m 3 (([c0,c1,b,f,g,e,j,l].drop 7).take (prog.cellsOf 3))=some K:=n 4 _ rfl;rw[k_int]at f4;obtain⟨T,C⟩:=I4 f0 rfl;obtain⟨k,x,o⟩:=LM f1 rfl;simp only[List.drop,List.take,Tx,and_true]at o;obtain⟨rfl,rfl⟩:=o;obtain⟨A,w⟩:=LN f2;obtain⟨y,r⟩:=je f3;simp at r;subst r;obtain⟨z,s⟩:=je f4;simp at s;subst s;have a:bp EN W [c0,c1,b,.int .i64 k,.int .i64 x,e,.int .i64 y,.int .i64 z] (LK ⟨T,k,x,A,y,z⟩):=C.append (SL (.raw _)<|SL (.raw _)<|SL (w)<|SL (.raw _)<|SL (.raw _)<|(TQ _ _));exact⟨⟨T,k,x,A,y,z⟩,.agg _ _ (by simpa using a.1) (λi x u h1 h2=>a.2 i x u (by simpa using h1) h2)⟩
end
end
section
open Go.RowKit cG Mem Net eE
def tooBig(T:ak):Bool:=decide ((10:Int)<T.nodes)||decide ((16:Int)<T.ah.length)
theorem xy(L:List Int):Can prog 10 [aq L,aq L] (· =flag true):=by
 have h:=xx L L;rw[show o9 L L=true from Rb rfl]at h;exact h
theorem ax.CG{σ}{i e s n m:Nat}{xs ys}[aP ys](h:σ[i]? =some (some (.row e s n xs)))(hx:xs=ys)(hn:n=m):ax σ (.own i) (.slice m ys):=by subst hx;subst hn;exact Tj h Sj
def JL(T:ak)(k x k' b:Int)(m:Nat):Bool:=(List.range m).all λa=> !cO k x T.ah (a / 2)||cO k' b T.ah (a / 2)
def Bx(T:ak)(k x k' a:Int):Bool:=JL T k x k' a (2*T.ah.length)
noncomputable def Ow(T:ak)(M:List Bool)(k x:Int)(a j:Nat):Bool:=(List.range j).all fun(d:Nat)=> !iO T M (aZ T a) d||Bx T k x (dx T a d).1 (dx T a d).2
noncomputable def PG(T:ak)(M:List Bool)(k x:Int)(a:Nat):Bool:=(!aI M a||(decide (k=2)&&decide (aZ T a=x)))||Ow T M k x a T.nodes.toNat
noncomputable def Np(T:ak)(k x:Int)(m:Nat):Bool:=(List.range m).all λa=>PG T (az T k x) k x a
noncomputable def EJ(T:ak)(k x:Int):Bool:=(av T&&cd T k x)&&Np T k x (2*T.ah.length)
open Go.Shelf
attribute [local go_sem] Oper.semAt_some
theorem B3(T:ak)(k x:Int):Can prog 33 [aL T,bV k x] (· =flag (av T&&cd T k x)):=by
 have⟨c,a⟩:=QQ (av T);have⟨d,b⟩:=QQ (cd T k x);rw[a,b];refine aF func33 I ntmps33 I<|ab (.a 3 I<|.k [2,3] I)<|bz 4 (.raw (.bool (c&&d))) [] I ?_ ?_
 ·refine .a 1 I<|.c rfl (a▸fv T) I<|.a 1 I<|?_;cases c
  ·exact .a 5 I<|.k [4] I
  ·exact .a 2 I<|.c rfl (b▸ny T k x) I<|.a 2 I<|.k [4] I
 exact ao<|QR I ax.pure rfl
end
section
open Go.RowKit cG Mem Net eE
abbrev PI(p:Int×Int):Value:=.agg (sn p)
theorem lU{T:ak}{k x:Int}{a:Nat}(b:a<2*T.ah.length):aI (az T k x) a=cO k x T.ah (a / 2):=by
 rw[<-fm];unfold az;simp[b]
def G8(T:ak)(k x:Int)(l:List ((Int×Int)×PV)):Prop:=∀c v,(c,v)∈l->v=flag (Bx T k x c.1 c.2)
theorem G8.pure{T}{k x:Int}{l:List ((Int×Int)×PV)}(h:G8 T k x l):aP ((gW PI l).map (·.2)):=⟨λi u hu=>by
 have hm:=Ro hu;simp only[gW,UU,RB]at hm;obtain⟨a,b,rfl⟩:=hm;have:=h a.1 a.2 b;show IsPure a.2;rw[this]
 infer_instance⟩
theorem G8.set{T}{k x:Int}{l:List ((Int×Int)×PV)}(h:G8 T k x l)(c:Int×Int):G8 T k x (jR c (flag (Bx T k x c.1 c.2)) l):=λc' v hm=>by
 rcases uG hm with e|e
 ·cases e;rfl
 ·exact h c' v e
section
variable {T:ak}
theorem Ch.last{D}{d n:Nat}{p:List Int}(h:Ch T D d n p):n≠d->∃a,a<2*T.ah.length/\aI D a=false/\aN T a=(d:Int):=by
 induction h with
 |nil=>intro h;exact absurd rfl h
 | @cons n a m p h1 h2 b c _ _ f=>
  intro _;by_cases e:m=d
  ·subst e;exact⟨a,h1,b,c⟩
  ·exact f e
theorem yu(a:Nat):(aZ T a=(cP T.ah (a / 2)).a/\aN T a=(cP T.ah (a / 2)).b)\/(aZ T a=(cP T.ah (a / 2)).b/\aN T a=(cP T.ah (a / 2)).a):=by
 unfold aN aZ Net.flip;by_cases h:a % 2=0
 ·rw[QY h,QY h,QZ (by omega),show(a+1) / 2=a / 2 by omega];exact .inl ⟨rfl,rfl⟩
 ·rw[QZ h,QZ h,QY (by omega),show(a - 1) / 2=a / 2 by omega];exact .inr ⟨rfl,rfl⟩
theorem NH{x:Int}{i:Nat}:cO 1 x T.ah i=decide ((i:Int)=x):=by simp[cO]
theorem NI{x:Int}{i:Nat}:cO 2 x T.ah i=(decide ((cP T.ah i).a=x)||decide ((cP T.ah i).b=x)):=by simp[cO]
theorem ON{x:Int}{i:Nat}:cO 3 x T.ah i=decide ((cP T.ah i).wG=x):=by simp[cO]
theorem JM{k x k' a:Int}(h:∀b,b<2*T.ah.length->cO k x T.ah (b / 2)=true->cO k' a T.ah (b / 2)=true):Bx T k x k' a=true:=by
 unfold Bx JL;refine Rq.2 λb hb=>?_;have hb:=Ri.1 hb;cases hp:cO k x T.ah (b / 2)with
 |false=>rfl
 |true=>rw[h b hb hp];rfl
theorem ME{k x:Int}(hm:(av T&&cd T k x)=true)(h:∀a d:Nat,a<2*T.ah.length->(d:Int)<T.nodes->cO k x T.ah (a / 2)=true->¬(k=2/\aZ T a=x)->iO T (az T k x) (aZ T a) d=true->Bx T k x (dx T a d).1 (dx T a d).2=true):EJ T k x=true:=by
 unfold EJ Np;rw[hm,RM];refine Rq.2 λa b=>?_;have b:=Ri.1 b;unfold PG;rw[lU b];cases hp:cO k x T.ah (a / 2)with
 |false=>rfl
 |true=>
  cases c:(decide (k=2)&&decide (aZ T a=x))with
  |true=>rfl
  |false=>
   show Ow T (az T k x) k x a T.nodes.toNat=true;unfold Ow;refine Rq.2 λd hd=>?_;have hd:=Ri.1 hd;cases hr:iO T (az T k x) (aZ T a) d with
   |false=>rfl
   |true=>
    rw[h a d b (by omega) hp (λ⟨h1,h2⟩=>by rw[h1,h2]at c;simp at c) hr]
    rfl
theorem KB(hv:av T=true){i:Nat}(hi:i<T.ah.length):EJ T 1 i=true:=by
 have hc:cd T 1 i=true:=by
  unfold cd;rw[QY rfl];simp only[Q7,Ra];omega
 refine ME (by rw[hv,hc];rfl) λa d e hd hp _ hr=>JM λb hb c=>?_;rw[NH,Ra]at hp c;have he:b / 2=a / 2:=by omega
 rw[he];unfold dx;split
 ·rw[ON];exact Rb rfl
 ·split
  ·rw[NI,RX,Ra,Ra];rcases yu (T:=T) a with h|h
   ·exact .inr h.2.symm
   ·exact .inl h.2.symm
  ·rw[NH];exact Rb rfl
theorem HO(hv:av T=true){g:Int}(e:1<=g/\g<=64):EJ T 3 g=true:=by
 have hc:cd T 3 g=true:=by
  unfold cd;rw[QZ (by decide),QZ (by decide),QY rfl];simp only[Q7,Ra];exact e
 refine ME (by rw[hv,hc];rfl) λa d f hd hp _ hr=>?_;rw[ON,Ra]at hp;have c:gN T a=g:=hp;have:dx T a d=(3,g):=by
  unfold dx;rw[c,hr,QY (by rw[Rb (show(0:Int)<g by omega)];rfl)]
 rw[this];exact JM λb _ h=>h
end
section
variable {T:ak} {M D:List Bool} {n d:Nat}
theorem ru{x:cQ}{d:Nat}{e}(h:x.ed[d]? =some e):cw x (d:Int)=e:=by
 unfold cw;rw[QS];exact oz _ _ _ h
theorem ki(hd:(d:Int)<T.nodes):cw (dU T D n) (d:Int)=⟨bu T D n d,false,[]⟩:=ru (Ma (by omega))
theorem tL(hd:(d:Int)<T.nodes):cw (zl T D n) (d:Int)=fZ T D n d:=ru (Bq (by omega))
theorem yf(hd:(d:Int)<T.nodes):cw (sQ T M n) (d:Int)=mZ T (eS T M n) n d:=ru (AX (by omega))
noncomputable def mg(T:ak)(M:List Bool)(s:Int)(n:Nat):cQ:=if s=0 then dU T [] n else if s=1 then sQ T M n else if s=2 then zl T M n else dU T M n
theorem yt{E}{a:Nat}{l:List Int}(h:(a:Int)∈cI E l):aI E a=true:=by
 have:=(RK.1 h).2;rwa [QS]at this
theorem sF(hv:av T=true)(hn:(n:Int)<T.nodes){E}(hf:bN T E=true)(hE:∀a,aI D a=false->aI E a=false):Of T D n (dU T E n) where
 ok:=zd hv hn
 node:=rfl
 down:=λa ha=>by
  have:=yt ha;cases h:aI D a with
  |true=>rfl
  |false=>rw[hE a h]at this;cases this
 OV:=λy p hs=>by
  rw[ki hs.hy];exact⟨(hs.HX hf hE).zu.2.1,λh=>by cases h⟩
theorem vm(hv:av T=true)(cS:T.nodes<=12)(hn:(n:Int)<T.nodes)(g:bN T M=true)(hM:∀a,aI D a=false->aI M a=false)(s:Int):Of T D n (mg T M s n):=by
  unfold mg;split
  · exact sF hv hn (iG T) (λa _=>by simp[aI])
  · split
    · refine ⟨F5 hv cS hn, rfl, λa e => ?_, λy p hs => ?_⟩
      · have:=yt e;cases h:aI D a with
        |true=>rfl
        |false=>rw[hM a h]at this;cases this
      · rw[yf hs.hy];have h1:=hs.zu.1;unfold mZ;have f:fA (eS T M n) (bu T [] n y)=none:=by
          cases j:fA (eS T M n) (bu T [] n y)with
          |none=>rfl
          |some a=>
            obtain⟨h2,b⟩:=nJ j;rw[h1,Rj]at h2;subst h2;obtain⟨p0,c,rfl⟩:∃p0 c,p=p0::c:=by
              cases p with
              |nil=>exact absurd hs.pos (by simp)
              |cons p0 c=>exact⟨p0,c,rfl⟩
            have i:=hM _ (hs.up p0 (by simp));rw[jE]at b;simp only[Sa,Q7]at b;rw[i]at b;exact absurd b.2.1 (by decide)
        rw[f];exact⟨h1,λh=>by cases h⟩
    · split
      · refine⟨GI hv cS hn,rfl,λa e=>?_,λy p hs=>?_⟩
        · have:=yt e;cases h:aI D a with
          |true=>rfl
          |false=>rw[hM a h]at this;cases this
        · rw[tL hs.hy,(hs.HX g hM).zu.2.2];exact⟨rfl,λ_=>rfl⟩
      · exact sF hv hn g hM
theorem DI{b}(hv:av T=true)(hd:(d:Int)<T.nodes)(c:∀a,aI D a=aI b a):dN T D d n=dN T b d n:=by
 unfold dN;rw[ES hv hd false c]
theorem uH{k x:Int}(hv:av T=true)(i:EJ T k x=true)(hn:(n:Int)<T.nodes)(hd:(d:Int)<T.nodes)(t:¬(k=2/\x=(n:Int)))(hr:0<=dN T (az T k x) d n){a:Nat}(Ao:aI (eS T (az T k x) n) a=true):
  (∀b,aI (ld T (eS T (az T k x) n) n d a) b=false->aI (az T k x) b=false)/\0<=dN T (ld T (eS T (az T k x) n) n d a) d n/\∀b,aI (ld T (eS T (az T k x) n) n d a) b=aI (az T (dx T a d).1 (dx T a d).2) b:=by
 rw[jE]at Ao;simp only[Q7,Ra]at Ao;obtain⟨s,g,m⟩:=Ao;have q:iO T (az T k x) (n:Int) d=true:=(oM hv (cM T k x) hn hd).2 hr;have hw:Bx T k x (dx T a d).1 (dx T a d).2=true:=by
  unfold EJ Np at i;have h1:=Rq.1 (Q3.1 i).2 a (Ri.2 s);unfold PG at h1;rw[g,m]at h1;have h2:(decide (k=2)&&decide ((n:Int)=x))=false:=by
   rw[Tw];intro h;obtain⟨o,p⟩:=Q3.1 h;exact t ⟨Q5 o,(Q5 p).symm⟩
  rw[h2]at h1;have o:Ow T (az T k x) k x a T.nodes.toNat=true:=h1;unfold Ow at o;have p:=Rq.1 o d (Ri.2 (by omega));rw[m,q]at p;exact p
 have f:∀b,aI (az T k x) b=true->aI (az T (dx T a d).1 (dx T a d).2) b=true:=λb hb=>by
  have c:b<2*T.ah.length:=by
   rcases Sf b (2*T.ah.length)with h|h
   ·exact h
   ·rw[<-fm,QU,RJ (by rw[fQ];omega)]at hb;cases hb
  rw[lU c]at hb ⊢;unfold Bx JL at hw;have:=Rq.1 hw b (Ri.2 c);rw[hb]at this;simpa using this
 have r:iO T (az T (dx T a d).1 (dx T a d).2) (n:Int) d=true:=by
  have u:=m;unfold dx;split
  ·rename_i h;rw[m]at h;exact(Q3.1 h).2
  ·split
   ·rename_i h;rw[m]at h;exact(Q3.1 h).2
   ·rename_i h1 h2;have he:dx T a d=(1,((a / 2:Nat):Int)):=by unfold dx;rw[QZ h1,QZ h2]
    rw[he]at f;rw[oM hv (cM T _ _) hn hd];rw[<-DI (D:=az T k x) hv hd (λb=>?_)]
    ·exact hr
    ·cases hb:aI (az T k x) b with
     |true=>exact(f b hb).symm
     |false=>
      symm
      by_cases c:b<2*T.ah.length
      ·rw[lU c]at hb ⊢;rw[NH];refine Rg λe=>?_;have e:b / 2=a / 2:=by omega
       rw[lU s,<-e,hb]at g;cases g
      ·rw[<-fm,QU,RJ (by rw[fQ];omega)]
       rfl
 have heq:∀b,aI (orM T (az T (dx T a d).1 (dx T a d).2) (eS T (az T k x) n)) b=aI (az T (dx T a d).1 (dx T a d).2) b:=λb=>by
  rw[D1];by_cases c:b<2*T.ah.length
  ·rw[Rb c,RM,jE,Rb c,RM];cases h1:aI (az T (dx T a d).1 (dx T a d).2) b with
   |true=>rfl
   |false=>
    cases h2:aI (az T k x) b with
    |true=>rw[f b h2]at h1;cases h1
    |false=>rfl
  ·rw[Rg c,Tm,<-fm,QU,RJ (by rw[fQ];omega)]
   rfl
 have l:iO T (orM T (az T (dx T a d).1 (dx T a d).2) (eS T (az T k x) n)) (n:Int) d=true:=by
  rw[oM hv (yU T _ _) hn hd,DI hv hd heq,<-oM hv (cM T _ _) hn hd];exact r
 have j:ld T (eS T (az T k x) n) n d a=orM T (az T (dx T a d).1 (dx T a d).2) (eS T (az T k x) n):=by
  unfold ld;rw[QY l]
 rw[j];refine⟨λb hb=>?_,(oM hv (yU T _ _) hn hd).1 l,heq⟩;rw[heq]at hb;cases h:aI (az T k x) b with
 |false=>rfl
 |true=>rw[f b h]at hb;cases hb
end
section
variable {T:ak} {k x:Int} {d:Nat}
def Gn(k x:Int)(n:Nat):Prop:=k=2/\x=(n:Int)
structure Open (T:ak) (k x:Int) (d n:Nat) (s:List bG):Prop where
 nil:s=[]
 node:(n:Int)<T.nodes
 here:¬Gn k x n
 reach:0<=dN T (az T k x) d n
structure G7 (T:ak) (k x:Int) (d n:Nat) (s:List bG) (q:List Int):Prop where
 ML:∃D,(∀a,aI D a=false->aI (az T k x) a=false)/\mr T D d n (cU ⟨1,(n:Int)⟩ s) q
 node:(n:Int)<T.nodes
 here:¬Gn k x n
 len:s.length<=32
theorem iR{a m:Nat}(b:a<2*T.ah.length)(hu:aI (az T k x) a=false)(hm:aN T a=(m:Int)):¬Gn k x m:=by
 rintro⟨rfl,rfl⟩;rw[lU b,NI,Rt,Sb,Sb]at hu;rcases yu (T:=T) a with h|h
 ·exact hu.2 (h.2.symm.trans hm)
 ·exact hu.1 (h.2.symm.trans hm)
theorem lg(hv:av T=true){a m:Nat}(b:a<2*T.ah.length)(hm:aN T a=(m:Int)):(m:Int)<T.nodes:=by rw[<-hm];exact((aS hv).head a b).2
end
section
variable {T:ak} {k x:Int} {d:Nat}
noncomputable def nU(T:ak)(D:List Bool)(d n:Nat):Nat:=((List.range T.nodes.toNat).filter λm=>decide (0<=dN T D d m)&&decide (dN T D d m<dN T D d n)).length
theorem yZ{D}{n:Nat}(hn:(n:Int)<T.nodes):nU T D d n<T.nodes.toNat:=by
 unfold nU;have h:((List.range T.nodes.toNat).filter λm=>decide (0<=dN T D d m)&&decide (dN T D d m<dN T D d n)).length<(List.range T.nodes.toNat).length:=by
  refine TL.2 ⟨n,Ri.2 (by omega),?_⟩;simp
 simpa using h
theorem filter_lt{α:Type}{p q:α->Bool}{l:List α}{a}(c:∀b∈l,p b=true->q b=true)(f:a∈l)(hp:p a=false)(g:q a=true):(l.filter p).length<(l.filter q).length:=by
 have e:l.filter p=(l.filter q).filter p:=by
  rw[T7];refine Ug λb hb=>?_;cases h:p b with
  |false=>simp
  |true=>simp[c b hb h]
 rw[e];exact TL.2 ⟨a,RK.2 ⟨f,g⟩,by rw[hp];simp⟩
def Way(T:ak)(k x:Int)(d:Nat)(late:Bool)(n:Nat)(s:List bG)(u:Nat):Prop:=
 (Open T k x d n s/\u=if late then T.nodes.toNat+nU T (az T k x) d n else 2*T.nodes.toNat+nU T [] d n)\/∃q,G7 T k x d n s q/\u=q.length/\q.length<T.nodes.toNat
def Perm(T:ak)(k x:Int)(late:Bool)(st:Nat->Int):Prop:=
 ∀n:Nat,(n:Int)<T.nodes->¬Gn k x n->if late then st n≠0/\st n≠1 else(st n=0\/st n=1\/st n=2)/\(st n=0->∀a,a<2*T.ah.length->aZ T a=(n:Int)->aI (az T k x) a=false)
theorem Way.on{n:Nat}{s}{u:Nat}(h:Way T k x d false n s u):∃u',u'<=u/\Way T k x d true n s u':=by
 rcases h with⟨h,rfl⟩|⟨q,h,rfl,hl⟩
 ·have h1:=yZ (D:=az T k x) (d:=d) h.node;refine⟨T.nodes.toNat+nU T (az T k x) d n,?_,.inl ⟨h,?_⟩⟩
  ·rw[QZ (by simp)];omega
  ·rw[QY rfl]
 ·exact⟨_,Rc _,.inr ⟨q,h,rfl,hl⟩⟩
end
def cu(p:dq)(s:List bG):dq:=⟨p.id,p.src,p.dst,p.lR,s,0⟩
inductive Br (T:ak) (tb:Nat->cQ) (p0:dq):Nat->List bG->List Int->Nat->Int->Prop
 |stop {n:Nat} {s:List bG}:(fX T (tb n) (cu p0 s)).aA=[]->Br T tb p0 n s [] n (fX T (tb n) (cu p0 s)).dJ
 |go {n m e:Nat} {s:List bG} {a:Int} {p:List Int} {w:Int}:a∈(fX T (tb n) (cu p0 s)).aA->aN T a.toNat=(m:Int)->Br T tb p0 m (fX T (tb n) (cu p0 s)).eJ.stack p e w->Br T tb p0 n s (a::p) e w
section
variable {T:ak} {k x:Int} {d:Nat} {st:Nat->Int} {p0:dq}
noncomputable def P4(T:ak)(M:List Bool)(st:Nat->Int)(n:Nat):cQ:=mg T M (st n) n
end
section
variable {T:ak} {D D':List Bool} {k x:Int} {d:Nat} {st:Nat->Int} {p0:dq}
end
def uq(k x n:Int):Bool:=decide (k=2)&&decide (x=n)
def sO(T:ak)(k x:Int)(n:Nat):Bool:=(List.range (2*T.ah.length)).any λa=>aI (az T k x) a&&decide (aZ T a=(n:Int))
def tf(s:Int):Bool:=decide (0<=s)&&decide (s<=3)
def vT(c:Bool)(s:Int):Bool:= !decide (s=3)&&(!decide (s=0)|| !c)&&(!decide (s=1)||c)
def vK(s:Int):Bool:=decide (s=2)||decide (s=3)
def eR(k x:Int)(p:Nat->Bool)(m:Nat):Bool:=(List.range m).all λn=>uq k x n||p n
theorem kg(k x:Int)(p:Nat->Bool)(m:Nat):eR k x p (m+1)=(eR k x p m&&(uq k x m||p m)):=by
 unfold eR;rw[R2,T3];simp
theorem lJ{k x:Int}{p:Nat->Bool}{m:Nat}:eR k x p m=true↔∀n,n<m->uq k x n=false->p n=true:=by
 unfold eR;rw[Rq];constructor
 ·intro h n hn a;have:=h n (Ri.2 hn);rw[a,Td]at this;exact this
 ·intro h n hn;cases a:uq k x n with
  |true=>rfl
  |false=>rw[Td];exact h n (Ri.1 hn) a
def iy(l:List Int)(n:Nat):Int:=l.getD n 0
def ik(T:ak)(k x:Int)(l:List Int):Bool:=
 if(av T&&cd T k x)&&decide ((l.length:Int)=T.nodes) then eR k x (λn=>tf (iy l n)) l.length&&(eR k x (λn=>vT (sO T k x n) (iy l n)) l.length||eR k x (λn=>vK (iy l n)) l.length) else false
theorem zC{k x:Int}{p:Nat->Bool}{m i:Nat}(hi:i<m)(a:uq k x i=false)(hp:p i=false):eR k x p m=false:=by
 cases h:eR k x p m with
 |false=>rfl
 |true=>rw[lJ.1 h i hi a]at hp;cases hp
section
variable {T:ak} {k x:Int} {l:List Int}
theorem Ny{n:Nat}:uq k x n=true↔Gn k x n:=by
 unfold uq Gn;simp
theorem rA{n:Nat}:uq k x n=false↔¬Gn k x n:=by
 rw[<-Ny];simp
theorem HL{n:Nat}:sO T k x n=false↔∀a,a<2*T.ah.length->aZ T a=(n:Int)->aI (az T k x) a=false:=by
 unfold sO;rw[UI];constructor
 ·intro h a b c;have:=h a (Ri.2 b);rw[Rb c,Ut]at this;simpa using this
 ·intro h a b;rw[Ri]at b;by_cases c:aZ T a=(n:Int)
  ·rw[h a b c];simp
  ·rw[Rg c];simp
theorem LF(h:ik T k x l=true):av T=true/\cd T k x=true/\(l.length:Int)=T.nodes/\(∀n:Nat,(n:Int)<T.nodes->¬Gn k x n->0<=iy l n/\iy l n<=3)/\∃late,Perm T k x late (iy l)/\(late=eR k x (λn=>vK (iy l n)) l.length):=by
 unfold ik at h;split at h
 ·rename_i h1;simp only[Q7,Ra,RX]at h1 h;obtain⟨⟨hv,hc⟩,hl⟩:=h1;obtain⟨e,c⟩:=h;refine⟨hv,hc,hl,λn hn a=>?_,_,?_,rfl⟩
  ·have:=lJ.1 e n (by omega) (rA.2 a);unfold tf at this;simpa using this
  ·cases d:eR k x (λn=>vK (iy l n)) l.length with
   |true=>
    intro n hn a;have:=lJ.1 d n (by omega) (rA.2 a);rw[QY rfl];unfold vK at this;simp only[RX,Ra]at this;omega
   |false=>
    rw[d]at c;have f:eR k x (λn=>vT (sO T k x n) (iy l n)) l.length=true:=by
     rcases c with h|h
     ·exact h
     ·cases h
    intro n hn a;have h1:=lJ.1 f n (by omega) (rA.2 a);have h2:=lJ.1 e n (by omega) (rA.2 a);rw[QZ (by simp)];unfold vT at h1;unfold tf at h2;simp only[Q7,RX,R4,Ra,Sb]at h1 h2;obtain⟨⟨i,b⟩,g⟩:=h1;refine⟨by omega,λh0=>HL.1 ?_⟩;rcases b with b|b
    ·exact absurd h0 b
    ·exact b
 ·cases h
end
theorem wT(k x n:Int):Can prog 21 [bV k x,num n] (· =flag (uq k x n)):=by
 have⟨c,a⟩:=QQ (decide (k=2));have⟨d,b⟩:=QQ (decide (x=n));unfold uq;rw[a,b];refine aF func21 I ntmps21 I<|ab (.a 2 I<|.k [1,2] I)<|bz 4 (.raw (.bool (c&&d))) [] I ?_ ?_
 ·refine .a 2 I<|.v (bW I (a)) I<|.a 1 I<|?_;cases c
  ·exact .a 6 I<|.k [4] I
  ·exact .a 3 I<|.v (bW I (b)) I<|.a 2 I<|.k [4] I
 exact ao<|QR I ax.pure rfl
def zQ(T:ak)(M:List Bool)(N a:Nat):List Bool:=(List.range N).map fun(n:Nat)=>(List.range a).any λb=>aI M b&&decide (aZ T b=(n:Int))
section
variable {T:ak} {M:List Bool} {N a:Nat}
theorem Dw:(zQ T M N a).length=N:=by simp[zQ]
theorem HG:zQ T M N 0=List.replicate N false:=by
 unfold zQ;refine Sl (by simp) λi h1 h2=>by simp
theorem Ni(h:aI M a=false):zQ T M N (a+1)=zQ T M N a:=by
 unfold zQ;refine Se λn _=>?_;rw[R2,List.any_append];simp[h]
theorem Kl(h:aI M a=true){m:Nat}(hm:aZ T a=(m:Int)):zQ T M N (a+1)=(zQ T M N a).set m true:=by
 refine Sl (by simp[zQ]) λi h1 h2=>?_;rw[TG];simp only[zQ,Un,T6,R2,List.any_append,List.any_cons,List.any_nil,Bool.or_false,h,RM,hm];by_cases e:m=i
 ·subst e;simp
 ·rw[QZ e,Rg (by omega),Bool.or_false]
theorem Kk{k x:Int}{n:Nat}(hn:n<N):(zQ T (az T k x) N (2*T.ah.length)).getD n false=sO T k x n:=by
 unfold zQ sO;simp[hn]
end
theorem oJ(T:ak)(k x:Int)(l:List Int)(hl:l.length<=1000):Can prog 12 [aL T,bV k x,aq l] (· =flag (ik T k x l)):=by
  have⟨W,v⟩:=QQ (decide (dy T k x≠0));have⟨Z,w⟩:=QQ (decide ((l.length:Int)≠T.nodes));have o:dy T k x=if(av T&&cd T k x)=true then 0 else 1:=rfl;refine aF func12 I ntmps12 I<|ab (.a 3 I<|.k [2,3,4] I)<|ab (.a 2 I<|.c rfl (nO T k x) I<|.a 5 I<|.k [2,3,4,7,8] I)<|ai<|bz 30 (.raw (.bool (W||Z))) [2,3,4,7] I ?_ ?_
  · refine .a 1 I<|.v (bW I (v)) I<|.a 1 I<|?_;cases W
    · exact .a 3 I<|.v (aJ I (rfl)) I<|.v (bW I (w)) I<|.a 1 I<|.k [30,2,3,4,7] I
    · exact .a 6 I<|.k [30,2,3,4,7] I
  refine ae I (λhc=>?_) (λhc=>?_)
  · have R:ik T k x l=false:=by
      unfold ik;split
      · rename_i h;exfalso;obtain⟨h1,h2⟩:=Q3.1 h;rw[QY h1]at o;rw[<-v,<-w,o]at hc;simp only[ne_eq,not_true_eq_false,decide_false,Td,Ra]at hc h2;exact hc h2
      · rfl
    exact ab (.a 1 I<|.k [6] I)<|ao<|QR I ax.pure (by rw[R];rfl)
  · obtain ⟨rfl, rfl⟩ := Rt.1 hc;have z:(av T&&cd T k x)=true:=by
      cases h:(av T&&cd T k x)with
      |true=>rfl
      |false=>rw[QZ (by rw[h];decide)]at o;exact absurd (ff v) (by rw[o];decide)
    have Q:(l.length:Int)=T.nodes:=by have:=ff w;simpa using this
    have V:ik T k x l=(eR k x (λn=>tf (iy l n)) l.length&&(eR k x (λn=>vT (sO T k x n) (iy l n)) l.length||eR k x (λn=>vK (iy l n)) l.length)):=by
      unfold ik;rw[QY (by rw[z,Rb Q];rfl)]
    have hv:=(Q3.1 z).1;have A:=fQ T k x;have X:=bO hv;rw[QY z]at o;rw[o];simp only[Sw];have⟨M,hM⟩:=QQ (az T k x);obtain⟨N,hN⟩:∃N:Nat,l.length=N:=⟨_,rfl⟩;have H:T.nodes=(N:Int):=by omega
    rw[hM]at A ⊢;refine aj<|aK<|au 1 I<|bm (aJ I ((show some (num T.nodes)=some (num (N:Int)) by rw[H]))) I<|cb (dc I (Ru I) I I (rfl:(N:Int)=(N:Int)) (rfl:(N:Int)=(N:Int)) ⟨by unfold maxLen;omega,by omega⟩) I<|au 1 I<|aE [2,3,4,7,9] I ?_;refine eO (σ':=[some (.row 4 1 N (bZ (zQ T M N 0)))]) (by rw[HG,<-jH];rfl)<|ai<|ab (.a 3 I<|.k [2,3,4,9,34,35,36] I)<|aw<|eF [2,3,4,9,34,35,36] I<|bd (λr st=>∃a,a<=M.length/\r=M.length - a/\st=⟨[(2,aq l),(3,.bq (bn T) 0),(4,.bq (cN k x) 0),(9,.own 0),(34,aV M),(35,num M.length),(36,num a)],[some (.row 4 1 N (bZ (zQ T M N a)))]⟩) M.length ⟨0,by omega,by omega,rfl⟩ ?_;rintro r st ⟨a,ha,rfl,rfl⟩;refine ab (.a 1 I<|.k [2,3,4,9,34,35,36,37] I)<|ai<|ae I (λhc=>?_) (λhc=>?_)
    · have q:a<M.length:=by have:=tt hc;omega
      have⟨b,hb⟩:=QQ (aI M a);obtain⟨m,hm⟩:=QW ((aS hv).tail a (by omega)).1;have Y:=((aS hv).tail a (by omega)).2;refine aj<|ai<|aw<|ab (.a 1 I<|.v (aM (a) I) I<|.v (aJ I ((db M a q).trans (by rw[show M.getD a false=b from hb]))) I<|.a 2 I<|.k [2,3,4,9,10,11,34,35,36] I)<|ab (.a 1 I<|.k [2,3,4,9,10,34,35,36,41] I)<|ae I (λhc=>?_) (λhc=>?_)
      · have y:=Kl (N:=N) (hb.trans hc) hm;have u:=Dw (T:=T) (M:=M) (N:=N) (a:=a);refine bx<|au 3 I<|ez I ((show Can prog 20 [aL T,num a] (· =num m) by have h:=kX T a (by omega);rw[hm]at h;exact h)) I<|bm (aM (m) I) I<|bc (cA I (Q6 I) I I I (by first|omega|(simp;omega))) I I<|aE [2,3,4,9,34,35,36] I ?_;refine aC (.v (aW I) I<|.a 1 I<|.k [2,3,4,9,34,35,36] I)<|⟨M.length - (a+1),by omega,a+1,by omega,rfl,by rw[y];rfl⟩
      · have y:=Ni (T:=T) (N:=N) (hb.trans hc);refine aj<|aC (.v (aW I) I<|.a 1 I<|.k [2,3,4,9,34,35,36] I) ?_;exact⟨M.length - (a+1),by omega,a+1,by omega,rfl,by rw[y];rfl⟩
    · have J:a=M.length:=by have:=ff hc;omega
      refine ba<|ab (.a 2 I<|.k [2,4,9,12,13] I)<|ai<|ab (.a 3 I<|.k [4,9,12,13,48,49,50] I)<|aw<|eF [4,9,12,13,48,49,50] I<|bd (λr st=>∃i,i<=l.length/\eR k x (λn=>tf (iy l n)) i=true/\r=l.length - i/\st=⟨[(4,.bq (cN k x) 0),(9,.own 0),(12,flag (eR k x (λn=>vT (sO T k x n) (iy l n)) i)),(13,flag (eR k x (λn=>vK (iy l n)) i)),(48,aq l),(49,num l.length),(50,num i)],[some (.row 4 1 N (bZ (zQ T M N a)))]⟩) l.length ⟨0,by omega,rfl,by omega,rfl⟩ ?_;rintro r st ⟨i,hi,B,rfl,rfl⟩;have K:∀n,n<N->(zQ T M N a).getD n false=sO T k x n:=λn hn=>by rw[J,A,<-hM];exact Kk hn
      have u:=Dw (T:=T) (M:=M) (N:=N) (a:=a);have d:=kg k x (λn=>vT (sO T k x n) (iy l n)) i;have e:=kg k x (λn=>vK (iy l n)) i;have f:=kg k x (λn=>tf (iy l n)) i;have⟨p,F⟩:=QQ (eR k x (λn=>vT (sO T k x n) (iy l n)) i);have⟨U,G⟩:=QQ (eR k x (λn=>vK (iy l n)) i);rw[F]at d ⊢;rw[G]at e ⊢;rw[B]at f;refine ab (.a 1 I<|.k [4,9,12,13,48,49,50,51] I)<|ai<|ae I (λhc=>?_) (λhc=>?_)
      · have q:i<l.length:=by have:=tt hc;omega
        have⟨g,L⟩:=QQ (uq k x i);have⟨c,D⟩:=QQ (sO T k x i);have E:=(K i (by omega)).trans D;have t:i<N:=by omega
        have⟨s,hs⟩:=QQ (iy l i);have S:l.getD i 0=s:=hs;simp only[L,D,hs]at d e f;refine aj<|ai<|aw<|ab (.a 1 I<|.v (aM (i) I) I<|.v (aJ I ((aB l i q).trans (by rw[S]))) I<|.a 2 I<|.k [4,9,12,13,14,15,48,49,50] I)<|ai<|ab (.a 2 I<|.c rfl (L▸wT k x i) I<|.k [4,9,12,13,14,15,48,49,50,57] I)<|ae I (λhc=>?_) (λhc=>?_)
        · rw[hc,Bool.true_or,Ut]at d e f;refine iB (aR (ks:=[4,9,12,13,48,49,50]) I)<|ba<|aC (.v (aW I) I<|.a 1 I<|.k [4,9,12,13,48,49,50] I) ?_;exact⟨l.length - (i+1),by omega,i+1,by omega,f,rfl,by rw[d,e];rfl⟩
        · have O:uq k x i=false:=L.trans hc;rw[hc,Td]at d e f;refine aj<|ab (.a 1 I<|.k [4,9,12,13,14,48,49,50,58] I)<|aw<|ab (.a 2 I<|.k [4,9,12,13,14,48,49,50,58,59] I)<|ae I (λhc=>?_) (λhc=>?_)
          · have j:s=0:=tt hc;subst j;replace d:eR k x (λn=>vT (sO T k x n) (iy l n)) (i+1)=(p&& !c):=by rw[d];simp[vT]
            replace e:eR k x (λn=>vK (iy l n)) (i+1)=false:=by rw[e];simp[vK]
            replace f:eR k x (λn=>tf (iy l n)) (i+1)=true:=by rw[f];rfl
            refine ab (.a 1 I<|.k [4,9,12,13,14,48,49,50] I)<|tF 12 (.raw (.bool (p&& !c))) [4,9,13,48,49,50] I ?_ ?_
            · refine .a 2 I<|?_;cases p
              · exact .a 7 I<|.k [12,4,9,13,48,49,50] I
              · exact .a 2 I<|.v (aM (i) I) I<|.v (aJ I ((db _ i (by rw[u];exact t)).trans (by rw[E];try rfl))) I<|.a 3 I<|.k [12,4,9,13,48,49,50] I
            refine aC (.v (aW I) I<|.a 1 I<|.k [4,9,12,13,48,49,50] I)<|⟨l.length - (i+1),by omega,i+1,by omega,f,rfl,by rw[d,e];rfl⟩
          · have n0:¬s=0:=ff hc;refine ab (.a 2 I<|.k [4,9,12,13,14,48,49,50,58,69] I)<|ae I (λhc=>?_) (λhc=>?_)
            · have j:s=1:=tt hc;subst j;replace d:eR k x (λn=>vT (sO T k x n) (iy l n)) (i+1)=(p&&c):=by rw[d];simp[vT]
              replace e:eR k x (λn=>vK (iy l n)) (i+1)=false:=by rw[e];simp[vK]
              replace f:eR k x (λn=>tf (iy l n)) (i+1)=true:=by rw[f];rfl
              refine ab (.a 1 I<|.k [4,9,12,13,14,48,49,50] I)<|tF 12 (.raw (.bool (p&&c))) [4,9,13,48,49,50] I ?_ ?_
              · refine .a 2 I<|?_;cases p
                · exact .a 6 I<|.k [12,4,9,13,48,49,50] I
                · exact .a 2 I<|.v (aM (i) I) I<|.v (aJ I ((db _ i (by rw[u];exact t)).trans (by rw[E];try rfl))) I<|.a 2 I<|.k [12,4,9,13,48,49,50] I
              refine aC (.v (aW I) I<|.a 1 I<|.k [4,9,12,13,48,49,50] I)<|⟨l.length - (i+1),by omega,i+1,by omega,f,rfl,by rw[d,e];rfl⟩
            · have n1:¬s=1:=ff hc;refine ab (.a 2 I<|.k [4,9,12,13,48,49,50,58,78] I)<|ae I (λhc=>?_) (λhc=>?_)
              · have j:s=2:=tt hc;subst j;replace d:eR k x (λn=>vT (sO T k x n) (iy l n)) (i+1)=p:=by rw[d];simp[vT]
                replace e:eR k x (λn=>vK (iy l n)) (i+1)=U:=by rw[e];simp[vK]
                replace f:eR k x (λn=>tf (iy l n)) (i+1)=true:=by rw[f];rfl
                refine aj<|aC (.v (aW I) I<|.a 1 I<|.k [4,9,12,13,48,49,50] I) ?_;exact⟨l.length - (i+1),by omega,i+1,by omega,f,rfl,by rw[d,e];rfl⟩
              · have n2:¬s=2:=ff hc;refine ab (.a 2 I<|.k [4,9,13,48,49,50,80] I)<|ae I (λhc=>?_) (λhc=>?_)
                · have j:s=3:=tt hc;subst j;replace d:eR k x (λn=>vT (sO T k x n) (iy l n)) (i+1)=false:=by rw[d];simp[vT]
                  replace e:eR k x (λn=>vK (iy l n)) (i+1)=U:=by rw[e];simp[vK]
                  replace f:eR k x (λn=>tf (iy l n)) (i+1)=true:=by rw[f];rfl
                  refine aC (.a 1 I<|.k [4,9,12,13,48,49,50] I)<|aC (.v (aW I) I<|.a 1 I<|.k [4,9,12,13,48,49,50] I) ?_;exact⟨l.length - (i+1),by omega,i+1,by omega,f,rfl,by rw[d,e];rfl⟩
                · have n3:¬s=3:=ff hc;refine ab (.a 1 I<|.k [6] I)<|ao ?_;have C:eR k x (λn=>tf (iy l n)) l.length=false:=by
                    refine zC q O ?_;show tf (iy l i)=false;rw[hs];unfold tf;by_cases h1:0<=s
                    · rw[Rg (by omega:¬s<=3),Bool.and_false]
                    · rw[Rg h1,Tm]
                  exact⟨_,_,RY I,ax.pure,by rw[V,C];rfl⟩
      · have P:i=l.length:=by have:=ff hc;omega
        subst P;refine ba<|bz 6 (.raw (.bool (p||U))) [] I ?_ ?_
        · refine .a 2 I<|?_;cases p
          · exact .a 3 I<|.k [6] I
          · exact .a 3 I<|.k [6] I
        exact ao<|QR I ax.pure (by rw[V,B,F,G];rfl)
end
section
open Go.RowKit cG Mem Net
def dG(s:List bG):Prop:=∀g∈s,0<=g.kind/\g.kind<100/\0<=g.num/\g.num<100
def Lv(g:bG):List UInt8:=32::(Lib.decDigits g.kind.toNat++58::Lib.decDigits g.num.toNat)
def dz(n:Nat)(s:List bG):List UInt8:=Lib.decDigits n++s.flatMap Lv
def G5(c:UInt8):Prop:=48<=c.toNat/\c.toNat<=57
theorem ow{n:Nat}(h:n<100):∀c∈Lib.decDigits n,G5 c:=by
 intro c hc;by_cases h1:n<10
 ·rw[Lib.decDigits_one h1,Rj]at hc;subst hc;unfold G5;rw[Ua];omega
 ·rw[Lib.decDigits_two h1 h]at hc;simp only[RA,List.not_mem_nil,or_false]at hc;rcases hc with rfl|rfl<;>(unfold G5;rw[Ua];omega)
theorem ofNat_inj{a b:Nat}(c:a<256)(hb:b<256)(h:UInt8.ofNat a=UInt8.ofNat b):a=b:=by
 have:=Sc UInt8.toNat h;rw[Ua,Ua]at this;omega
theorem yp{m n:Nat}(hm:m<100)(hn:n<100)(h:Lib.decDigits m=Lib.decDigits n):m=n:=by
 by_cases h1:m<10<;>by_cases h2:n<10
 ·rw[Lib.decDigits_one h1,Lib.decDigits_one h2]at h;have:=ofNat_inj (by omega) (by omega) (SG h).1;omega
 ·rw[Lib.decDigits_one h1,Lib.decDigits_two h2 hn]at h;cases(SG h).2
 ·rw[Lib.decDigits_two h1 hm,Lib.decDigits_one h2]at h;cases(SG h).2
 ·rw[Lib.decDigits_two h1 hm,Lib.decDigits_two h2 hn]at h;have a:=ofNat_inj (by omega) (by omega) (SG h).1;have b:=ofNat_inj (by omega) (by omega) (SG (SG h).2).1;omega
theorem mD{n:Nat}(h:n<100):(Lib.decDigits n).length<=2/\0<(Lib.decDigits n).length:=by
 by_cases h1:n<10
 ·rw[Lib.decDigits_one h1];simp
 ·rw[Lib.decDigits_two h1 h];simp
theorem ox:∀(A B X Y:List UInt8),(∀c∈A,G5 c)->(∀c∈B,G5 c)->(∀c Z,X=c::Z->¬G5 c)->(∀c Z,Y=c::Z->¬G5 c)->A++X=B++Y->A=B/\X=Y
 | [],[],X,Y,_,_,_,_,h=>⟨rfl,h⟩
 | [],b::B,X,Y,_,e,f,_,h=>absurd (e b (by simp)) (f b (B++Y) h)
 |a::A,[],X,Y,d,_,_,g,h=>absurd (d a (by simp)) (g a (A++X) h.symm)
 |a::A,b::B,X,Y,d,e,f,g,h=>by
  obtain⟨h1,h2⟩:=SG h;obtain⟨i,j⟩:=ox A B X Y (λc hc=>d c (by simp[hc])) (λc hc=>e c (by simp[hc])) f g h2;exact⟨by rw[h1,i],j⟩
theorem oV{s:List bG}:∀c Z,s.flatMap Lv=c::Z->¬G5 c:=by
 intro c Z h;cases s with
 |nil=>cases h
 |cons g s=>
  rw[RL]at h;have:=(SG h).1;subst this;unfold G5
  decide
theorem Bi:∀ {s s':List bG},dG s->dG s'->s.flatMap Lv=s'.flatMap Lv->s=s'
 | [],[],_,_,_=>rfl
 | [],g::s',_,_,h=>by rw[RL]at h;cases h
 |g::s,[],_,_,h=>by rw[RL]at h;cases h
 |g::s,e::s',h1,h2,h=>by
  obtain⟨f,a2,a3,a4⟩:=h1 g (by simp);obtain⟨i,t,j,u⟩:=h2 e (by simp);rw[RL,RL]at h;unfold Lv at h;rw[RF,RF,RO,RO]at h;obtain⟨k,d⟩:=ox _ _ _ _ (ow (by omega)) (ow (by omega)) (λc Z h=>by rw[RF]at h;have:=(SG h).1;subst this;unfold G5;decide) (λc Z h=>by rw[RF]at h;have:=(SG h).1;subst this;unfold G5;decide) (SG h).2;rw[RF,RF]at d;obtain⟨l,m⟩:=ox _ _ _ _ (ow (by omega)) (ow (by omega)) (oV (s:=s)) (oV (s:=s')) (SG d).2;have p:=yp (by omega) (by omega) k;have q:=yp (by omega) (by omega) l;have r:=Bi (λx hx=>h1 x (by simp[hx])) (λx hx=>h2 x (by simp[hx])) m;obtain⟨n,o⟩:=g;obtain⟨a,b⟩:=e;simp only at f i a3 j p q;rw[r,show n=a by omega,show o=b by omega]
theorem IB{n n':Nat}{s s'}(hn:n<100)(a:n'<100)(h1:dG s)(h2:dG s')(h:dz n s=dz n' s'):n=n'/\s=s':=by
 unfold dz at h;obtain⟨b,c⟩:=ox _ _ _ _ (ow hn) (ow a) (oV (s:=s)) (oV (s:=s')) h;exact⟨yp hn a b,Bi h1 h2 c⟩
theorem IC{s:List bG}(h:dG s):(s.flatMap Lv).length<=s.length*6:=by
 induction s with
 |nil=>simp
 |cons g s b=>
  obtain⟨c,a2,a3,a4⟩:=h g (by simp);have:=b (λx hx=>h x (by simp[hx]));have h1:=mD (n:=g.kind.toNat) (by omega);have h2:=mD (n:=g.num.toNat) (by omega);have a:(Lv g).length=2+(Lib.decDigits g.kind.toNat).length+(Lib.decDigits g.num.toNat).length:=by
   unfold Lv;simp only[Q8,Q0];omega
  rw[RL,Q0,a,Q8];omega
open eE
noncomputable def bh(T:ak)(tb:Nat->cQ)(p0:dq)(n:Nat)(s:List bG):Out:=fX T (tb n) (cu p0 s)
structure xX (T:ak) (tb:Nat->cQ) (p0:dq) (Φ:Nat->Nat->List bG->Prop):Prop where
 node:∀ {u n s},Φ u n s->(n:Int)<T.nodes
 small:∀ {u n s},Φ u n s->dG s/\s.length<=1000
 step:∀ {u n s},Φ u n s->(bh T tb p0 n s).aA=[]\/((bh T tb p0 n s).aA.length<=1000/\bh T tb p0 n s=dO (cu p0 s) (bh T tb p0 n s).eJ.stack (bh T tb p0 n s).aA/\
  ∀a∈(bh T tb p0 n s).aA,∃b m:Nat,a=(b:Int)/\b<2*T.ah.length/\aN T b=(m:Int)/\∃u',u'<u/\Φ u' m (bh T tb p0 n s).eJ.stack)
def sN(cs:List Int):Int:=cs.foldl (λa c=>min (a+c) 1001) 0
def fD(aA:List Int)(cs:List Int):Int:=if aA=[] then 1 else sN cs
def fL(n:Nat)(o:Out)(vs:List PV)(c:Int):List PV:=[num n,num o.dJ,aq o.aA,.slice vs.length vs,flag false,num c]
inductive Good (T:ak) (tb:Nat->cQ) (p0:dq) (Φ:Nat->Nat->List bG->Prop):PV->Nat->List bG->Int->Prop
 |mk {n:Nat} {s:List bG} {vs:List PV} {cs:List Int} {u:Nat}:Φ u n s->vs.length=(bh T tb p0 n s).aA.length->cs.length=(bh T tb p0 n s).aA.length->
   (∀i,i<(bh T tb p0 n s).aA.length->Good T tb p0 Φ (vs.getD i .any) (aN T ((bh T tb p0 n s).aA.getD i 0).toNat).toNat (bh T tb p0 n s).eJ.stack (cs.getD i 0))->
   Good T tb p0 Φ (.bq (fL n (bh T tb p0 n s) vs (fD (bh T tb p0 n s).aA cs)) 0) n s (fD (bh T tb p0 n s).aA cs)
theorem nu(cs:List Int)(c:Int):sN (cs++[c])=min (sN cs+c) 1001:=by simp[sN]
section
variable {T:ak} {tb:Nat->cQ} {p0:dq} {Φ:Nat->Nat->List bG->Prop}
theorem km:∀(cs:List Int) (b:Int),0<=b->b<=1001->(∀c∈cs,0<=c)->0<=cs.foldl (λa c=>min (a+c) 1001) b/\cs.foldl (λa c=>min (a+c) 1001) b<=1001
 | [],b,h1,h2,_=>⟨h1,h2⟩
 |c::cs,b,h1,h2,d=>by
  have:=d c (by simp);exact km cs (min (b+c) 1001) (by omega) (by omega) (λx hx=>d x (by simp[hx]))
theorem Good.bound{v}{n:Nat}{s}{c:Int}(h:Good T tb p0 Φ v n s c):0<=c/\c<=1001:=by
 induction h with
 | @mk n s vs cs u _ _ h2 _ b=>
  unfold fD;split
  ·omega
  ·refine km cs 0 (by omega) (by omega) λc hc=>?_;obtain⟨i,hi⟩:=Rv hc;have a:=(QT.1 hi).1;have:=(b i (by rw[<-h2];exact a)).1;rw[QU,hi]at this;exact this
theorem Good.state{v}{n:Nat}{s}{c:Int}(h:Good T tb p0 Φ v n s c):∃u,Φ u n s:=by
 cases h with
 |mk h _ _ _=>exact⟨_,h⟩
theorem Good.pure{v}{n:Nat}{s}{c:Int}(h:Good T tb p0 Φ v n s c):IsPure v:=by
 induction h with
 | @mk n s vs cs u _ h1 _ _ b=>
  haveI:aP vs:=⟨λi x hx=>by
   have a:=(QT.1 hx).1;have:=b i (by rw[<-h1];exact a);rw[QU,hx]at this;exact this⟩
  unfold fL
  infer_instance
theorem Good.parts{v}{n:Nat}{s}{c:Int}(h:Good T tb p0 Φ v n s c):∃vs cs,v= .bq (fL n (bh T tb p0 n s) vs c) 0/\vs.length=(bh T tb p0 n s).aA.length/\cs.length=(bh T tb p0 n s).aA.length/\c=fD (bh T tb p0 n s).aA cs/\
  ∀i,i<(bh T tb p0 n s).aA.length->Good T tb p0 Φ (vs.getD i .any) (aN T ((bh T tb p0 n s).aA.getD i 0).toNat).toNat (bh T tb p0 n s).eJ.stack (cs.getD i 0):=by
 cases h with
 | @mk _ _ vs cs u h1 h2 a b=>exact⟨vs,cs,rfl,h2,a,rfl,b⟩
inductive om (T:ak) (tb:Nat->cQ) (p0:dq):Nat->List bG->Nat->List bG->Prop
 |one {n m:Nat} {s:List bG} {a:Int}:a∈(bh T tb p0 n s).aA->aN T a.toNat=(m:Int)->om T tb p0 n s m (bh T tb p0 n s).eJ.stack
 |more {n m:Nat} {s:List bG} {a:Int} {n':Nat} {s':List bG}:om T tb p0 n' s' n s->a∈(bh T tb p0 n s).aA->aN T a.toNat=(m:Int)->om T tb p0 n' s' m (bh T tb p0 n s).eJ.stack
theorem xX.one(R:xX T tb p0 Φ){u n m:Nat}{s}{a:Int}(h:Φ u n s)(c:a∈(bh T tb p0 n s).aA)(hm:aN T a.toNat=(m:Int)):∃u',u'<u/\Φ u' m (bh T tb p0 n s).eJ.stack:=by
 rcases R.step h with h0|⟨_,_,h2⟩
 ·rw[h0]at c;cases c
 ·obtain⟨b,g,rfl,_,d,u',e,f⟩:=h2 a c;rw[QS,d]at hm;have:g=m:=by omega
  subst this;exact⟨u',e,f⟩
theorem xX.Qg(R:xX T tb p0 Φ){n m:Nat}{s s'}(h:om T tb p0 n s m s'):∀ {u:Nat},Φ u n s->∃u',u'<u/\Φ u' m s':=by
 induction h with
 |one a hm=>intro u hu;exact R.one hu a hm
 |more _ a hm c=>
  intro u hu;obtain⟨f,h1,h2⟩:=c hu;obtain⟨d,e,b⟩:=R.one h2 a hm;exact⟨d,by omega,b⟩
theorem xX.IK(R:xX T tb p0 Φ){n:Nat}{s}(h:om T tb p0 n s n s):∀ {u:Nat},Φ u n s->False:=by
 intro u;induction u using Nat.strongRecOn with
 |_ u a=>
  intro hu;obtain⟨u',h1,h2⟩:=R.Qg h hu;exact a u' h1 h2
end
end
section
open Go.RowKit cG Mem
inductive Er (i:Nat):cX->PV->PV->Prop
 |same {blk:cX} (p:PV):Er i blk p p
 |ptr {ty:TypeId} {xs:List PV} (off:Nat):Er i (.cells ty xs) (.ptr i off) (.bq xs off)
 |own {e s n:Nat} {xs:List PV}:Er i (.row e s n xs) (.own i) (.slice n xs)
def mo(i:Nat)(blk:cX)(xs ys:List PV):Prop:=ys.length=xs.length/\∀(j:Nat) x y,xs[j]? =some x->ys[j]? =some y->Er i blk x y
theorem mo.nil{i:Nat}{blk}:mo i blk [] []:=⟨rfl,λj x y h=>by simp at h⟩
theorem mo.cons{i:Nat}{blk x y xs ys}(h:Er i blk x y)(hs:mo i blk xs ys):mo i blk (x::xs) (y::ys):=⟨by simp[hs.1],λj a b h1 h2=>by
 cases j with
 |zero=>simp at h1 h2;subst h1;subst h2;exact h
 |succ j=>exact hs.2 j a b (by simpa using h1) (by simpa using h2)⟩
theorem mo.refl{i:Nat}{blk}(xs:List PV):mo i blk xs xs:=⟨rfl,λj x y h1 h2=>by rw[h1]at h2;cases h2;exact .same _⟩
inductive xR (i:Nat) (blk:cX):cX->cX->Prop
 |same (b:cX):xR i blk b b
 |cells {ty:TypeId} {xs ys:List PV}:mo i blk xs ys->xR i blk (.cells ty xs) (.cells ty ys)
 |row {e s n:Nat} {xs ys:List PV}:mo i blk xs ys->xR i blk (.row e s n xs) (.row e s n ys)
 |mp {kv kv':List (Value×PV)}:kv'.map (·.1)=kv.map (·.1)->mo i blk (kv.map (·.2)) (kv'.map (·.2))->xR i blk (.mp kv) (.mp kv')
def BI(i:Nat)(blk:cX)(σ σ':ca):Prop:=σ'.length=σ.length/\(σ'[i]? =some none)/\∀j,j≠i->(σ'[j]? =σ[j]? \/∃b b',σ[j]? =some (some b)/\σ'[j]? =some (some b')/\xR i blk b b')
inductive BJ (i:Nat) (blk:cX) (t:cq):cq->Prop
 |nil:BJ i blk t []
 |cons {t':cq} (k:Nat) {p q:PV}:look k t=some p->Er i blk p q->BJ i blk t t'->BJ i blk t ((k,q)::t')
theorem BJ.get{i:Nat}{blk t t'}(h:BJ i blk t t'):∀k q,look k t'=some q->∃p,look k t=some p/\Er i blk p q:=by
 induction h with
 |nil=>intro k q h;cases h
 |cons k h1 h2 _ b=>
  intro j q a;simp only[look]at a;rw[RI]at a;split at a
  ·rename_i he;have:=Rp he;subst this;cases a;exact⟨_,h1,h2⟩
  ·exact b j q a
section
variable {P:Program} {N L:Nat} {F:Nat->Prop} {base:Nat} {σ σ':ca} {E:Env} {w:World}
theorem Er.rep(a:Sat F base σ E w){i:Nat}{blk}(hi:σ[i]? =some (some blk)){p q}(h:Er i blk p q):∀v,cZ E w v p->cZ (E.kill i) w v q:=by
 obtain⟨_,g⟩:=a.kill i hi;intro v hv;cases h with
 |same _=>exact hv.goes g
 |own=>exact a.seal hi hv
 | @ptr ty xs off=>
  obtain⟨b,cs,h1,h2,d,e⟩:=a.blk i _ hi;cases hv with
  |ptr _ _ b' f h=>
   have hb:b'=b:=by
    rcases h with h|⟨n,c,h⟩<;>rw[h1]at h<;>cases h
    rfl
   subst hb;have:=cZ.bq (E:=E.kill i) (w:=w) b' 0 off cs.toList xs (Rw.1 d).1 (λhM=>hM.2 (by rw[h1];rfl)) (λj x hx=>by rw[Si];unfold World.cell?;simp only[d];simpa using hx) e.1 (λj x u k l=>(e.2 j x u k l).goes g);rw[Si]at this;exact this
theorem mo.rep(c:Sat F base σ E w){i:Nat}{blk}(hi:σ[i]? =some (some blk)){xs ys}(h:mo i blk xs ys){cs}(hs:bp E w cs xs):bp (E.kill i) w cs ys:=
 ⟨hs.1.trans h.1.symm,λj x u d b=>by
  have a:j<xs.length:=by rw[<-h.1];exact(QT.1 b).1
  exact(h.2 j xs[j] u (by simp[a]) b).rep c hi x (hs.2 j x _ d (by simp[a]))⟩
theorem xR.sat(a:Sat F base σ E w){i:Nat}{blk}(hi:σ[i]? =some (some blk)){b b'}(h:xR i blk b b'){v}(hb:iz base E w v b):iz base (E.kill i) w v b':=by
 obtain⟨_,g⟩:=a.kill i hi;cases h with
 |same _=>exact hb.goes g (λ_ _=>rfl)
 |cells hl=>
  obtain⟨b',cs,h1,h2,c,d⟩:=hb;exact⟨b',cs,h1,h2,c,hl.rep a hi d⟩
 |row hl=>
  obtain⟨cs,h1,h2⟩:=hb;exact⟨cs,h1,hl.rep a hi h2⟩
 |mp hk hl=>
  obtain⟨r,e,ck,h1,h2,c,d,f⟩:=hb;exact⟨r,e,ck,h1,h2,c,d.trans hk.symm,hl.rep a hi f⟩
theorem wm{i:Nat}{blk}(hi:σ[i]? =some (some blk))(h:BI i blk σ σ'){j:Nat}{b'}(hj:σ'[j]? =some (some b')):j≠i/\∃b,σ[j]? =some (some b)/\xR i blk b b':=by
 have a:j≠i:=λe=>by subst e;rw[h.2.1]at hj;cases hj
 refine⟨a,?_⟩;rcases h.2.2 j a with h|⟨b,d,h1,h2,c⟩
 ·rw[h]at hj;exact⟨b',hj,.same _⟩
 ·rw[h2]at hj;cases hj;exact⟨b,h1,c⟩
theorem Sat.Po(n:Sat F base σ E w){i:Nat}{blk}(hi:σ[i]? =some (some blk))(h:BI i blk σ σ'):Sat F base σ' (E.kill i) w:=by
 obtain⟨h1,g⟩:=n.kill i hi;have key:∀ {j:Nat} {b':cX},σ'[j]? =some (some b')->∃b,(σ.set i none)[j]? =some (some b):=λ{j b'} d=>by
  obtain⟨e,b,hb,_⟩:=wm hi h d;exact⟨b,by rw[Rh,QZ (Ne.symm e)];exact hb⟩
 refine⟨h1.bl,λb hb=>⟨(h1.fb b hb).1,λj bl d=>?_⟩,?_,λb=>?_,λj bl d=>?_,λj k bj bk b d hk q r=>?_,h1.gl⟩
 ·obtain⟨c,a⟩:=key d;exact(h1.fb b hb).2 j c a
 ·rw[h1.len,h.1,Ry]
 ·constructor
  ·intro hM;rcases(h1.mm b).1 hM with f|⟨j,bl,m,l⟩
   ·exact .inl f
   ·obtain⟨e,s⟩:=jF m;rcases h.2.2 j e with t|⟨p,c,_,u,_⟩
    ·exact .inr ⟨j,bl,by rw[t];exact s,l⟩
    ·exact .inr ⟨j,c,u,l⟩
  ·rintro(f|⟨j,bl,m,l⟩)
   ·exact(h1.mm b).2 (.inl f)
   ·obtain⟨c,a⟩:=key m;exact(h1.mm b).2 (.inr ⟨j,c,a,l⟩)
 ·obtain⟨_,b,hb,f⟩:=wm hi h d;exact f.sat n hi (n.blk j b hb)
 ·obtain⟨p,o⟩:=key d;obtain⟨c,a⟩:=key hk;exact h1.inj j k p c b o a q r
theorem sc{c t t'}{Q:Exit->St->Prop}(i:Nat){blk}(hi:σ[i]? =some (some blk))(b:BI i blk σ σ')(e:BJ i blk t t')(h:W P N L c ⟨t',σ'⟩ Q):W P N L c ⟨t,σ⟩ Q:=λF base E₀ w₀ E a w hc hs=>by
 obtain⟨_,g⟩:=hs.sat.kill i hi;refine h F base E₀ w₀ (E.kill i) a w (hc.on g (Below.refl _ _)) ⟨hs.sat.Po hi b,λk q d=>?_,hs.lE,hs.size⟩;obtain⟨p,h1,h2⟩:=e.get k q d;exact h2.rep hs.sat hi _ (hs.tmp k p h1)
theorem M9{ops l t t'}{K:St->Prop}(i:Nat){blk}(hi:σ[i]? =some (some blk))(b:BI i blk σ σ')(e:BJ i blk t t')(h:WR P N L ops l ⟨t',σ'⟩ K):WR P N L ops l ⟨t,σ⟩ K:=by
 intro F base E₀ w₀ E a w hc hs Q j c hl;obtain⟨_,g⟩:=hs.sat.kill i hi;refine h F base E₀ w₀ (E.kill i) a w (hc.on g (Below.refl _ _)) ⟨hs.sat.Po hi b,λk q d=>?_,hs.lE,hs.size⟩ Q j c hl;obtain⟨p,h1,h2⟩:=e.get k q d;exact h2.rep hs.sat hi _ (hs.tmp k p h1)
end
def sS(l:List UInt8):Value:=.string ⟨l.toArray⟩
theorem bytes_beq(a b:List UInt8):((⟨a.toArray⟩:ByteArray)==⟨b.toArray⟩)=decide (a=b):=SR.2 (by
 rw[beq_toListBytes,beq_iff_eq,Ra,ByteArray.toList_eq,ByteArray.toList_eq])
section
variable {P:Program} {kt:TypeId}
theorem Kn(b:Bool)(n:Nat)(hu:P.underlying kt=some .string)(a:List UInt8)(w:World):(Instr.checkKey b (n+1) kt (sS a)).run P w= .ok () w:=by
 simp only[Instr.checkKey,Sem.run_bind,run_underlying hu,Result.andThen_ok,Sem.run_pure,sS]
theorem Ns(n:Nat)(hu:P.underlying kt=some .string)(a b:List UInt8)(w:World):(Op.equalIn (n+1) kt (sS a) (sS b)).run P w= .ok (decide (a=b)) w:=by
 have h:=run_equalIn_string w n kt ⟨a.toArray⟩ ⟨b.toArray⟩ hu;rw[<-beq_toListBytes,bytes_beq]at h;exact h
theorem NW(hu:P.underlying kt=some .string):jK P kt sS where
 p6:=λb a w=>Kn b 9999 hu a w
 eql:=λa b w=>Ns _ hu a b w
 now:=⟨_,hu,.inl λa b=>by simp only[Instr.sameNow,sS,bytes_beq]⟩
 bits:=λa=>by
  show Instr.sameBits 10000 (.string ⟨a.toArray⟩) (.string ⟨a.toArray⟩)=true;unfold Instr.sameBits;show((⟨a.toArray⟩:ByteArray)==⟨a.toArray⟩)=true;rw[bytes_beq];exact Rb rfl
variable {t:cq} {σ:ca} {o:Oper}
theorem Mk{x y ty b}(a:o.op= .binOp .neq ty x y b)(hk:rL P ty=true)(hx:aH t x=some (.raw (.pointer none)))(hy:aH t y=some (.raw (.pointer none))):bE P σ t o (.raw (.bool false)):=by
 refine By a hx hy λw=>?_;unfold rL at hk;split at hk
 ·rename_i e hu;have key:∀d,(Op.equalIn (d+1) ty (.pointer none) (.pointer none)).run P w= .ok true w:=λd=>by
   simp only[Op.equalIn,Sem.run_bind,run_underlying hu,Result.andThen_ok,Sem.run_pure,Option.isNone_none]
  have:=key 9999;simp only[Nat.reduceAdd]at this;simp[eqGuard,binOp,Op.equal,Op.maxDepth,this]
 ·cases hk
theorem Mp{x y ty g xs}{k:Nat}(e:o.op= .binOp .neq ty x y g)(hk:rL P ty=true)(hx:aH t x=some (.bq xs k))(hy:aH t y=some (.raw (.pointer none))):bE P σ t o (.raw (.bool true)):=by
 intro F base E ρ w a _ d;have h1:=aD a d hx;have h2:=aD a d hy;generalize f:ρ x=z at h1;generalize c:ρ y=h at h2;cases h2;cases h1 with
 |bq b o' _ cs _ hb hM hc hl hr=>
  simp only[execOp,e,f,c,Sem.run_bind,eqGuard,binOp,oT hk,Result.andThen_ok,Sem.run_pure];exact bI (.raw _)
end
open Net eE
section
variable {T:ak} {k x:Int} {d:Nat} {st:Nat->Int} {p0:dq}
theorem B8{p s}{e:jI}(h:e.aA.length<=1000):(fS p s e).aA.length<=1000:=by
 unfold fS;split
 ·split
  ·exact RQ _
  ·exact h
 ·exact h
theorem DO{x p s}{v:Int}{K:Out}(hx:df T x=true)(b:K.aA.length<=1000):(zv T x p s v K).aA.length<=1000:=by
 unfold zv;split
 ·rename_i h;obtain⟨_,_,_,_,a⟩:=oy hx (Q7 _ _▸h).1;exact B8 a
 ·exact b
theorem uX{x p s}{K:Out}(hx:df T x=true)(a:K.aA.length<=1000):(cB T x p s K).aA.length<=1000:=by
 unfold cB;split
 ·exact RQ _
 ·split
  ·exact RQ _
  ·split
   ·exact DO hx (RQ _)
   ·split
    ·exact DO hx a
    ·split
     ·split
      ·exact RQ _
      ·split
       ·exact a
       ·show([_]:List Int).length<=1000;simp
     ·exact RQ _
theorem GA(T:ak)(x:cQ)(p:dq):(fX T x p).aA.length<=1000:=by
 unfold fX;split
 ·exact RQ _
 ·rename_i h;have hx:df T x=true:=by
   cases h2:df T x with
   |true=>rfl
   |false=>rw[h2]at h;simp at h
  split
  ·exact RQ _
  ·exact uX hx (uX hx (RQ _))
theorem Fv{D}(cS:T.nodes<=12)(c:T.ah.length<=16){n:Nat}{l}{q:List Int}(h:mr T D d n l q):dG l:=by
 induction h with
 |nil=>intro g a;cases a
 |node hs _ b=>
  intro g a;rcases RA.1 a with rfl|a
  ·have:=hs.hy;exact⟨by simp,by simp,by simp,by simp;omega⟩
  ·exact b g a
 |eZ e _ _ _ _ b=>
  intro g a;rcases RA.1 a with rfl|a
  ·exact⟨by simp,by simp,by simp,by simp;omega⟩
  ·exact b g a
end
theorem eT{α:Type}[DecidableEq α]:∀(l m:List α),l.Nodup->(∀a∈l,a∈m)->l.length<=m.length
 | [],m,_,_=>RQ _
 |a::l,m,hn,h=>by
  have c:=h a (by simp);rw[SD]at hn;have h2:=eT l (m.erase a) hn.2 (λb hb=>(TP (λe=>hn.1 (by rw[<-e];exact hb))).2 (h b (by simp[hb])));rw[TA c]at h2;have:=Ud c;simp only[Q8];omega
section
variable {T:ak} {k x:Int} {d:Nat} {st:Nat->Int} {p0:dq}
noncomputable def Ot(T:ak)(tb:Nat->cQ)(p0:dq)(m a:Nat):Nat->Nat×List bG
 |0=>((aN T a).toNat,(bh T tb p0 m []).eJ.stack)
 |j+1=>((aN T ((bh T tb p0 (Ot T tb p0 m a j).1 (Ot T tb p0 m a j).2).aA.getD 0 0).toNat).toNat,(bh T tb p0 (Ot T tb p0 m a j).1 (Ot T tb p0 m a j).2).eJ.stack)
theorem lP{α β:Type}(f:α->List β)(c:Nat):∀(l:List α),(∀a∈l,(f a).length<=c)->(l.flatMap f).length<=l.length*c
 | [],_=>by simp
 |a::l,h=>by
  have h1:=h a (by simp);have h2:=lP f c l (λb hb=>h b (by simp[hb]));rw[RL,Q0,Q8,SB];omega
def Oh(T:ak)(k x:Int)(d:Nat)(st:Nat->Int)(p0:dq)(late:Bool)(u n:Nat)(s:List bG):Prop:=
 (Open T k x d n s/\u=if late then T.nodes.toNat+nU T (az T k x) d n else 2*T.nodes.toNat+nU T [] d n)\/
  ∃(q:List Int) (m a j:Nat),G7 T k x d n s q/\u=q.length/\q.length<T.nodes.toNat/\(m:Int)<T.nodes/\a<2*T.ah.length/\j+q.length<=T.nodes.toNat/\Ot T (P4 T (az T k x) st) p0 m a j=(n,s)
theorem Oh.N0{late}{u n:Nat}{s}(h:Oh T k x d st p0 late u n s):Way T k x d late n s u:=by
 rcases h with h|⟨q,_,_,_,h1,h2,a,_⟩
 ·exact .inl h
 ·exact .inr ⟨q,h1,h2,a⟩
end
structure vQ (T:ak) (tb:Nat->cQ) (p0:dq) (Ψ:Nat->List bG->Prop):Prop where
 node:∀ {n s},Ψ n s->(n:Int)<T.nodes
 small:∀ {n s},Ψ n s->dG s/\s.length<=1000
 step:∀ {n s},Ψ n s->(bh T tb p0 n s).aA=[]\/((bh T tb p0 n s).aA.length<=1000/\bh T tb p0 n s=dO (cu p0 s) (bh T tb p0 n s).eJ.stack (bh T tb p0 n s).aA/\
  ∀a∈(bh T tb p0 n s).aA,∃b m:Nat,a=(b:Int)/\b<2*T.ah.length/\aN T b=(m:Int)/\Ψ m (bh T tb p0 n s).eJ.stack)
abbrev Hb:=List (Nat×Nat×List bG)
section
variable (T:ak) (tb:Nat->cQ) (p0:dq) (Ψ:Nat->List bG->Prop)
abbrev fU:=Good T tb p0 λ_=>Ψ
def Pw(ks:List (List UInt8))(n:Nat)(s:List bG):Prop:=∀a∈(bh T tb p0 n s).aA,dz (aN T a.toNat).toNat (bh T tb p0 n s).eJ.stack∈ks
def pO(op:Hb)(ks:List (List UInt8))(n:Nat)(s:List bG)(v:PV):Prop:=((∃c,fU T tb p0 Ψ v n s c)/\Pw T tb p0 ks n s)\/∃i,(i,n,s)∈op/\v= .ptr (i+8) 0
structure nj (op:Hb) (kv:List (List UInt8×PV)):Prop where
 zu:∀e∈kv,∃n s,Ψ n s/\e.1=dz n s/\pO T tb p0 Ψ op (kv.map (·.1)) n s e.2
 nodup:(kv.map (·.1)).Nodup
end
section
variable {T:ak} {tb:Nat->cQ} {p0:dq} {Ψ:Nat->List bG->Prop}
theorem pO.more{op ks b}{x:Nat×Nat×List bG}{n:Nat}{s v}(h:pO T tb p0 Ψ op ks n s v)(hk:∀k∈ks,k∈b):pO T tb p0 Ψ (x::op) b n s v:=by
 rcases h with⟨h,h2⟩|⟨i,h,e⟩
 ·exact .inl ⟨h,λa c=>hk _ (h2 a c)⟩
 ·exact .inr ⟨i,RU _ h,e⟩
theorem nj.push{op}{kv:List (List UInt8×PV)}(h:nj T tb p0 Ψ op kv){n i:Nat}{s}(hΦ:Ψ n s)(hno:dz n s∉kv.map (·.1)):nj T tb p0 Ψ ((i,n,s)::op) (kv++[(dz n s,.ptr (i+8) 0)]) where
 zu:=λe he=>by
  rcases RR.1 he with he|he
  ·obtain⟨n,s,h1,h2,h3⟩:=h.zu e he;exact⟨n,s,h1,h2,h3.more λk hk=>by rw[Sm];exact SH _ hk⟩
  ·rw[Rj]at he;subst he;exact⟨n,s,hΦ,rfl,.inr ⟨i,R1,rfl⟩⟩
 nodup:=by
  rw[Sm,UG];refine⟨h.nodup,by simp,λa ha b hb e=>?_⟩;subst e;simp only[R7,So,Rj]at hb;subst hb;exact hno ha
theorem H2{i:Nat}{blk}{Q Q':List UInt8->PV->Prop}(h:∀k v,Q k v->∃v',Er i blk v v'/\Q' k v'):∀kv:List (List UInt8×PV),(∀e∈kv,Q e.1 e.2)->∃kv':List (List UInt8×PV),kv'.map (·.1)=kv.map (·.1)/\mo i blk (kv.map (·.2)) (kv'.map (·.2))/\∀e∈kv',Q' e.1 e.2
 | [],_=>⟨[],rfl,.nil,λv hv=>by cases hv⟩
 |e::L,a=>by
  obtain⟨v',h1,h2⟩:=h e.1 e.2 (a e (by simp));obtain⟨L',b,c,d⟩:=H2 h L (λw hw=>a w (by simp[hw]));exact⟨(e.1,v')::L',by simp[b],.cons h1 c,λw hw=>by
   rcases RA.1 hw with rfl|hw
   ·exact h2
   ·exact d w hw⟩
theorem nj.close{op}{i n:Nat}{s}{kv:List (List UInt8×PV)}(h:nj T tb p0 Ψ ((i,n,s)::op) kv){ty xs}{c:Int}(j:fU T tb p0 Ψ (.bq xs 0) n s c)(a:Pw T tb p0 (kv.map (·.1)) n s):
  ∃kv',nj T tb p0 Ψ op kv'/\kv'.map (·.1)=kv.map (·.1)/\mo (i+8) (.cells ty xs) (kv.map (·.2)) (kv'.map (·.2)):=by
 have key:∀n1 s1 v,pO T tb p0 Ψ ((i,n,s)::op) (kv.map (·.1)) n1 s1 v->∃v',Er (i+8) (.cells ty xs) v v'/\pO T tb p0 Ψ op (kv.map (·.1)) n1 s1 v':=λn1 s1 v hv=>by
  rcases hv with hv|⟨l,h1,rfl⟩
  ·exact⟨v,.same _,.inl hv⟩
  ·rcases RA.1 h1 with h1|h1
   ·cases h1;exact⟨_,.ptr 0,.inl ⟨⟨c,j⟩,a⟩⟩
   ·exact⟨_,.same _,.inr ⟨l,h1,rfl⟩⟩
 obtain⟨kv',b,m,o⟩:=H2 (i:=i+8) (blk:=.cells ty xs) (Q:=λk v=>∃n1 s1,Ψ n1 s1/\k=dz n1 s1/\pO T tb p0 Ψ ((i,n,s)::op) (kv.map (·.1)) n1 s1 v) (Q':=λk v=>∃n1 s1,Ψ n1 s1/\k=dz n1 s1/\pO T tb p0 Ψ op (kv.map (·.1)) n1 s1 v) (λk v ⟨n1,s1,h1,h2,d⟩=>by
  obtain⟨v',f,g⟩:=key n1 s1 v d;exact⟨v',f,n1,s1,h1,h2,g⟩) kv h.zu
 exact⟨kv',⟨λe he=>by rw[b];exact o e he,by rw[b];exact h.nodup⟩,b,m⟩
theorem nj.Nt{U:List (Nat×List bG)}(g:∀ {n s},Ψ n s->(n,s)∈U){op}{kv:List (List UInt8×PV)}(h:nj T tb p0 Ψ op kv):kv.length<=U.length:=by
 have key:∀kv:List (List UInt8×PV),(∀e∈kv,∃n s,Ψ n s/\e.1=dz n s)->∃a:List (Nat×List bG),a.map (λx=>dz x.1 x.2)=kv.map (·.1)/\∀x∈a,x∈U:=λkv=>by
  induction kv with
  |nil=>intro _;exact⟨[],rfl,λx hx=>by cases hx⟩
  |cons e kv i=>
   intro he;obtain⟨n,s,h1,h2⟩:=he e (by simp);obtain⟨a,b,f⟩:=i (λe h=>he e (by simp[h]));exact⟨(n,s)::a,by simp[b,h2],λx hx=>by
    rcases RA.1 hx with rfl|hx
    ·exact g h1
    ·exact f x hx⟩
 obtain⟨a,h1,h2⟩:=key kv (λe he=>by
  obtain⟨n,s,h1,h2,_⟩:=h.zu e he;exact⟨n,s,h1,h2⟩)
 have hn:=h.nodup;rw[<-h1]at hn;have d:a.Nodup:=by
  unfold List.Nodup at hn ⊢;rw[Ty]at hn;exact hn.imp λc e=>c (by rw[e])
 have:=eT a U d h2;have b:=Sc List.length h1;simp only[RN]at b;omega
theorem nj.Ao(R:vQ T tb p0 Ψ)(cS:T.nodes<=12){op}{kv:List (List UInt8×PV)}(h:nj T tb p0 Ψ op kv){n:Nat}{s}(a:Ψ n s){v}(hv:(dz n s,v)∈kv):pO T tb p0 Ψ op (kv.map (·.1)) n s v:=by
 obtain⟨n1,s1,h1,h2,b⟩:=h.zu _ hv;have c:=R.node h1;have a2:=R.node a;obtain⟨rfl,rfl⟩:=IB (by omega) (by omega) (R.small a).1 (R.small h1).1 h2;exact b
theorem nj.all(R:vQ T tb p0 Ψ)(cS:T.nodes<=12){kv:List (List UInt8×PV)}(h:nj T tb p0 Ψ [] kv){n m:Nat}{s s'}(hb:om T tb p0 n s m s'):Ψ n s->dz n s∈kv.map (·.1)->Ψ m s'/\dz m s'∈kv.map (·.1):=by
 have one:∀ {n m:Nat} {s:List bG} {a:Int},Ψ n s->dz n s∈kv.map (·.1)->a∈(bh T tb p0 n s).aA->aN T a.toNat=(m:Int)->Ψ m (bh T tb p0 n s).eJ.stack/\dz m (bh T tb p0 n s).eJ.stack∈kv.map (·.1):=λ{n m s a} f hk c hm=>by
  obtain⟨e,he,g⟩:=RB.1 hk;have d:=h.Ao R cS f (v:=e.2) (by rw[<-g];exact he);refine⟨?_,?_⟩
  ·rcases R.step f with h0|⟨_,_,h2⟩
   ·rw[h0]at c;cases c
   ·obtain⟨b,p,rfl,_,j,k⟩:=h2 a c;rw[QS,j]at hm;have:p=m:=by omega
    subst this;exact k
  ·rcases d with⟨_,d⟩|⟨i,d,_⟩
   ·have:=d a c;rwa [hm,QS]at this
   ·cases d
 induction hb with
 |one c hm=>intro h1 h2;exact one h1 h2 c hm
 |more _ c hm o=>
  intro h1 h2;obtain⟨d,l⟩:=o h1 h2;exact one d l c hm
theorem fU.gv{v}{n:Nat}{s}{c:Int}(h:fU T tb p0 Ψ v n s c):∀ {m:Nat} {s'},(n,s)=(m,s')\/om T tb p0 n s m s'->¬om T tb p0 m s' m s':=by
 induction h with
 | @mk n s vs cs u r h1 h2 x w=>
  have key:∀ {n':Nat} {t:List bG} {m:Nat} {s':List bG},om T tb p0 n' t m s'->n'=n->t=s->∃i,i<(bh T tb p0 n s).aA.length/\(((aN T ((bh T tb p0 n s).aA.getD i 0).toNat).toNat,(bh T tb p0 n s).eJ.stack)=(m,s')\/om T tb p0 (aN T ((bh T tb p0 n s).aA.getD i 0).toNat).toNat (bh T tb p0 n s).eJ.stack m s'):=λ{n' t m s'} hb=>by
   induction hb with
   | @one n' m t a d hm=>
    rintro rfl rfl;obtain⟨i,hi⟩:=Rv d;have j:=(QT.1 hi).1;refine⟨i,j,.inl ?_⟩;rw[QU,hi];show((aN T a.toNat).toNat,_)=_;rw[hm,QS]
   | @more m1 m t a n' t' q d hm k=>
    intro e f;obtain⟨i,hi,b⟩:=k e f;refine⟨i,hi,.inr ?_⟩;rcases b with b|b
    ·injection b with l o;rw[l,o];exact .one d hm
    ·exact .more b d hm
  intro m s' b hb;have g:om T tb p0 n s m s':=by
   rcases b with b|b
   ·injection b with e f;subst e;subst f;exact hb
   ·exact b
  obtain⟨i,hi,p⟩:=key g rfl rfl;exact w i hi p hb
theorem wQ{κ:Type}[DecidableEq κ]{k}:∀ {l:List (κ×PV)},ei k l=none->k∉l.map (·.1)
 | [],_=>by simp
 |(a,q)::l,h=>by
  simp only[ei]at h;split at h
  ·cases h
  ·rename_i b;rw[R7,RA];rintro(e|e)
   ·exact b e
   ·exact wQ h e
theorem qJ{κ:Type}[DecidableEq κ]{k:κ}{p:PV}:∀ {l:List (κ×PV)},ei k l=none->jR k p l=l++[(k,p)]
 | [],_=>rfl
 |(a,q)::l,h=>by
  simp only[ei]at h;split at h
  ·cases h
  ·rename_i b;simp only[jR];rw[QZ b,qJ h]
   rfl
end
def PE(P:Program)(ty:TypeId):Option (Nat×List Value):=match P.info? ty,P.underlying ty with
 |some it,some (.array _ e)=>match it.zero,P.info? e with
  |some z,some a=>some (a.size,z.cells.toList)
  |_,_=>none
 |_,_=>none
theorem Dd{P σ t}{o:Oper}{ty s}{parts:Array (Nat×Operand)}{zero:List Value}{ps:List (Nat×List PV)}{xs}(l:o.op= .build ty parts)(hk:PE P ty=some (s,zero))(hp:ib t parts.toList=some ps)
  (k:lO (λi=>some (i*s,s)) (zero.map .raw) ps=some xs):bE P σ t o (.agg xs):=by
 intro F base E ρ w g p j;obtain⟨h1,h2⟩:=lN g j parts.toList ps hp;have m:bp E w zero.toArray.toList (zero.map .raw):=⟨by simp,λi x u b c=>by
  simp only[RE,R8]at c;obtain⟨y,hy,rfl⟩:=c;simp only at b;rw[hy]at b;cases b;exact .raw _⟩
 obtain⟨cs,hc,h⟩:=nG (λi=>some (i*s,s)) _ ps zero.toArray _ xs m h1 h2 k;have hb:P.built ty ((parts.map fun(i,x)=>(i,ρ x)).toList)=some cs:=by
  unfold PE at hk;split at hk
  ·rename_i it n e Ao hu;split at hk
   ·rename_i z q f d;cases hk;simp only[Program.built,Ao,hu,f,d,Ta];simpa using hc
   ·cases hk
  ·cases hk
 have a:=run_build (P:=P) w ty (parts.map fun(i,x)=>(i,ρ x)) cs hb;simp only[execOp,l,Sem.run_bind,a,Result.andThen_ok,Sem.run_pure];exact bI (.agg cs xs (by have:=h.1;rw[RS]at this;exact this) (λi x u b c=>h.2 i x u (by simpa using b) c))
theorem gZ.Jr{n:Nat}{xs ys:List PV}(hl:ys.length=xs.length)(h:∀(i:Nat) x y,xs[i]? =some x->ys[i]? =some y->gZ x y):gZ (.slice n xs) (.slice n ys):=λE w v hv=>by
 cases hv with
 |bH=>
  have:ys=[]:=Rd hl;subst this;exact .bH
 |empty a c hc=>
  have:ys=[]:=Rd hl;subst this;exact .empty a c hc
 |slice b off _ c cs _ h0 h1 h2 hb hM hc d hr=>
  exact .slice b off n c cs ys h0 h1 h2 hb hM hc (d.trans hl.symm) (λi x u f e=>by
   have hi:i<xs.length:=by rw[<-hl];exact(QT.1 e).1
   exact h i xs[i] u (by simp[hi]) e E w x (hr i x _ f (by simp[hi])))
def sh(T:ak)(n:Nat):cQ:=⟨n,List.replicate T.nodes.toNat ⟨[],false,[]⟩,bK T n⟩
noncomputable def AI(T:ak)(k x:Int)(n:Nat)(s:Int):cQ:=if uq k x n=true then sh T n else mg T (az T k x) s n
noncomputable def jP(T:ak)(k x:Int)(l:List Int)(m:Nat):List cQ:=(List.range m).map λn=>AI T k x n (iy l n)
def sP(T:ak)(k x:Int)(l:List Int):Int:=if((av T&&cd T k x)&&decide ((l.length:Int)=T.nodes))=true then(if ik T k x l=true then 0 else 7) else 1
noncomputable def Ei(e:Int)(L:List cQ):PV:=.tuple [dP (if e=0 then L else []),num e]
theorem AH{T}{k x:Int}{l:List Int}{m:Nat}:jP T k x l (m+1)=jP T k x l m++[AI T k x m (iy l m)]:=by simp[jP,R2]
theorem xN(n:Nat):(dQ [.raw (.slice none 0 0),.raw (.bool false),.raw (.slice none 0 0)] n).length=(dH (List.replicate n ⟨[],false,[]⟩)).length/\∀(i:Nat) x y,(dQ [.raw (.slice none 0 0),.raw (.bool false),.raw (.slice none 0 0)] n)[i]? =some x->(dH (List.replicate n ⟨[],false,[]⟩))[i]? =some y->gZ x y:=by
 induction n with
 |zero=>exact⟨rfl,λi x y h=>by simp[dQ]at h⟩
 |succ n a=>
  refine⟨by simp only[dQ,SC,dH,RL,Q0]at a ⊢;rw[a.1];rfl,λi x y h1 h2=>?_⟩;simp only[dQ,SC,dH,RL]at h1 h2
  match i,h1,h2 with
  |0,h1,h2=>simp[jL]at h1 h2;subst h1 h2;exact .bH
  |1,h1,h2=>simp[jL]at h1 h2;subst h1 h2;exact Tv _
  |2,h1,h2=>simp[jL]at h1 h2;subst h1 h2;exact .bH
  |i+3,h1,h2=>exact a.2 i x y (by simpa using h1) (by simpa[dH,jL]using h2)
theorem Lo(T:ak)(n:Int)(X:cQ)(h:Can prog 35 [aL T,num n] (· = .tuple [dW X,num 0])):Can prog 34 [num n,.bq (bn T) 0] (· = .tuple [dW X,num 0]):=by
 refine aF func34 I ntmps34 I<|aK<|au 2 I<|aE [0,1,3] I ?_;refine aK<|au 2 I<|ez I (h) I<|au 4 I<|aE [3,4] I ?_;exact ao<|QR I (ax.pure (p:=.tuple [dW X,num 0])) rfl
theorem Lp(T:ak)(k x n:Int)(X:cQ)(h:Can prog 37 [aL T,bV k x,num n] (· = .tuple [dW X,num 0])):Can prog 36 [num n,.bq (bn T) 0,.bq (cN k x) 0] (· = .tuple [dW X,num 0]):=by
 refine aF func36 I ntmps36 I<|aK<|au 2 I<|aE [0,1,2,4] I ?_;refine aK<|au 3 I<|ez I (h) I<|au 4 I<|aE [4,5] I ?_;exact ao<|QR I (ax.pure (p:=.tuple [dW X,num 0])) rfl
theorem Lq(T:ak)(k x n:Int)(X:cQ)(h:Can prog 39 [aL T,bV k x,num n] (· = .tuple [dW X,num 0])):Can prog 38 [num n,.bq (bn T) 0,.bq (cN k x) 0] (· = .tuple [dW X,num 0]):=by
 refine aF func38 I ntmps38 I<|aK<|au 2 I<|aE [0,1,2,4] I ?_;refine aK<|au 3 I<|ez I (h) I<|au 4 I<|aE [4,5] I ?_;exact ao<|QR I (ax.pure (p:=.tuple [dW X,num 0])) rfl
theorem Lr(T:ak)(k x n:Int)(X:cQ)(h:Can prog 41 [aL T,bV k x,num n] (· = .tuple [dW X,num 0])):Can prog 40 [num n,.bq (bn T) 0,.bq (cN k x) 0] (· = .tuple [dW X,num 0]):=by
 refine aF func40 I ntmps40 I<|aK<|au 2 I<|aE [0,1,2,4] I ?_;refine aK<|au 3 I<|ez I (h) I<|au 4 I<|aE [4,5] I ?_;exact ao<|QR I (ax.pure (p:=.tuple [dW X,num 0])) rfl
theorem iu(x:cQ):iw 0 x= .tuple [dW x,num 0]:=rfl
theorem NB(T:ak)(k x:Int)(cS:T.nodes<=12)(c:(av T&&cd T k x)=true){i:Nat}(hi:(i:Int)<T.nodes){s:Int}(hs:tf s=true){FS:List PV}(d:[.func 34 [.bq (bn T) 0],.func 36 [.bq (bn T) 0,.bq (cN k x) 0],.func 38 [.bq (bn T) 0,.bq (cN k x) 0],.func 40 [.bq (bn T) 0,.bq (cN k x) 0]]=FS):
  ∃f cap,FS[s.toNat]? =some (.func f cap)/\enters prog f=true/\Can prog f ([num i]++cap) (· = .tuple [dW (mg T (az T k x) s i),num 0])/\aP ([num i]++cap):=by
 have hv:=(Q3.1 c).1;have a:dy T k x=0:=by unfold dy;rw[QY c]
 have hn:aX T i=true:=by rw[aQ];omega
 have b:iV T k x i=0:=by unfold iV;rw[QY a,QY hn]
 have g:ct T [] [(i:Int)]=0:=by
  unfold ct;rw[hv];simp[bN,hn]
 subst d;obtain⟨h0,h⟩:=Q3.1 hs;have h0:=Q5 h0;have h:=Q5 h;have h1:=JB T i;rw[g,iu,QS]at h1;have h2:=FT T k x i cS;rw[QY a,QY hn,iu,QS]at h2;have j:=JE T k x i cS;rw[b,iu,QS]at j;have l:=JA T k x i;rw[b,iu,QS]at l;rcases(by omega:s=0\/s=1\/s=2\/s=3)with e|e|e|e
 ·subst e;exact⟨_,_,rfl,by kernel_rfl,Lo T i _ h1,by infer_instance⟩
 ·subst e;exact⟨_,_,rfl,by kernel_rfl,Lp T k x i _ h2,by infer_instance⟩
 ·subst e;exact⟨_,_,rfl,by kernel_rfl,Lq T k x i _ j,by infer_instance⟩
 ·subst e;exact⟨_,_,rfl,by kernel_rfl,Lr T k x i _ l,by infer_instance⟩
theorem QE:PE prog 97=some (1,[.nilFunc,.nilFunc,.nilFunc,.nilFunc]):=by kernel_rfl
theorem lh{T}{k x:Int}{l:List Int}{m:Nat}:(jP T k x l m).length=m:=by simp[jP]
theorem FD(T:ak)(k x:Int)(l:List Int)(hl:l.length<=1000)(cS:T.nodes<=12):Can prog 22 [aL T,bV k x,aq l] (· =Ei (sP T k x l) (jP T k x l l.length)):=by
  have⟨q,d⟩:=QQ (av T&&cd T k x);have⟨w,m⟩:=QQ (decide ((l.length:Int)≠T.nodes));have⟨O,o⟩:=QQ (ik T k x l);have S:sP T k x l=if(q&& !w)=true then(if O=true then 0 else 7) else 1:=by
    unfold sP;rw[d,o,<-m];simp
  rw[S];refine aF func22 I ntmps22 I<|ab (.a 4 I<|.k [2,3,4] I)<|ai<|bz 23 (.raw (.bool (!q ||w))) [2,3,4] I ?_ ?_
  · refine .a 2 I<|.c rfl (d▸B3 T k x) I<|.a 2 I<|?_;cases q
    · exact .a 6 I<|.k [23,2,3,4] I
    · exact .a 4 I<|.v (bW I (m)) I<|.a 1 I<|.k [23,2,3,4] I
  refine ae I (λhc=>?_) (λhc=>?_)
  · have H:(q&& !w)=false:=by cases q<;>cases w<;>simp_all
    exact ab (.a 2 I<|.k [6,7] I)<|ao<|QR I (RW (QV ax.bH (QV ax.pure Rl))) (by rw[H];rfl)
  · obtain ⟨h1, rfl⟩ := Rt.1 hc;have h1:q=true:=by simpa using h1
    subst h1;have W:(l.length:Int)=T.nodes:=by have:=ff m;simpa using this
    refine aj<|ai<|ab (.a 3 I<|.c rfl (o▸oJ T k x l hl) I<|.a 1 I<|.k [2,3,4,28] I)<|ae I (λhc=>?_) (λhc=>?_)
    · have p:O=false:=by simpa using hc
      subst p;exact ab (.a 2 I<|.k [6,7] I)<|ao<|QR I (RW (QV ax.bH (QV ax.pure Rl))) rfl
    · have p:O=true:=by simpa using hc
      subst p;have hv:=(Q3.1 d).1;have F:=bO hv;have y:eR k x (λn=>tf (iy l n)) l.length=true:=by
        have h:=o;unfold ik at h;split at h
        · exact(Q3.1 h).1
        · cases h
      refine aj<|aK<|au 4 I<|bm (Dd I QE rfl rfl) I<|au 2 I<|aE [2,3,4,8] I ?_;refine gr 8 0 0 I I<|dS [] (.c 2<|.c 3<|.c 4<|.c 8<|.nil) .nil rfl rfl ?_;obtain⟨FS,e⟩:∃z:List PV,[.func 34 [.bq (bn T) 0],.func 36 [.bq (bn T) 0,.bq (cN k x) 0],.func 38 [.bq (bn T) 0,.bq (cN k x) 0],.func 40 [.bq (bn T) 0,.bq (cN k x) 0]]=z:=⟨_,rfl⟩;have U:aP FS:=by rw[<-e];infer_instance
      rw[e];refine ab (.a 1 I<|.k [2,3,4,8,9] I)<|eU 9 76 3 I ?_;refine ai<|ab (.a 3 I<|.k [3,4,8,9,34,35,36] I)<|aw<|eF [3,4,8,9,34,35,36] I<|bd (λr s=>∃i,i<=l.length/\r=l.length - i/\s=⟨[(3,.bq (bn T) 0),(4,.bq (cN k x) 0),(8,.bq FS 0),(9,.own 0),(34,aq l),(35,num l.length),(36,num i)],[some (.row 76 3 i (oa (jP T k x l i)))]⟩) l.length ⟨0,by omega,by omega,rfl⟩ ?_;rintro r s ⟨i,hi,rfl,rfl⟩;refine ab (.a 1 I<|.k [3,4,8,9,34,35,36,37] I)<|ai<|ae I (λhc=>?_) (λhc=>?_)
      · have u:i<l.length:=by have:=tt hc;omega
        have E:(i:Int)<T.nodes:=by omega
        obtain⟨N,hN⟩:∃N:Nat,T.nodes=(N:Int):=⟨T.nodes.toNat,by omega⟩;have⟨s,hs⟩:=QQ (iy l i);have M:l.getD i 0=s:=hs;have⟨g,C⟩:=QQ (uq k x i);have B:jP T k x l (i+1)=jP T k x l i++[AI T k x i s]:=by rw[AH,hs]
        have c:AI T k x i s=if g=true then sh T i else mg T (az T k x) s i:=by unfold AI;rw[C]
        have G:(jP T k x l i).length=i:=lh;have⟨L,P⟩:=QQ (jP T k x l i);have⟨X,t⟩:=QQ (AI T k x i s);rw[P,t]at B;rw[P]at G ⊢;rw[t]at c;refine aj<|ai<|aw<|ab (.a 1 I<|.v (aM (i) I) I<|.v (aJ I ((aB l i u).trans (by rw[M]))) I<|.a 2 I<|.k [3,4,8,9,10,11,34,35,36] I)<|aK<|au 2 I<|bm (aJ I ((show some (num T.nodes)=some (num (N:Int)) by rw[hN]))) I<|cb (dc I (Ru I) I I (rfl:(N:Int)=(N:Int)) (rfl:(N:Int)=(N:Int)) ⟨by unfold maxLen;omega,by omega⟩) I<|au 3 I<|aE [3,4,8,9,10,11,12,34,35,36] I ?_;refine sc 1 (σ':=[some (.row 76 3 i (oa L)),none,some (.cells 76 [num i,.slice N (dQ [.raw (.slice none 0 0),.raw (.bool false),.raw (.slice none 0 0)] N),.raw (.slice none 0 0)])]) (t':=[(3,.bq (bn T) 0),(4,.bq (cN k x) 0),(8,.bq FS 0),(9,.own 0),(10,num i),(11,num s),(12,.ptr 2 0),(34,aq l),(35,num l.length),(36,num i)]) (blk:=.row 120 3 N (dQ [.raw (.slice none 0 0),.raw (.bool false),.raw (.slice none 0 0)] N)) I ⟨rfl,rfl,λj V=>by
          match j,V with
          |0,_=>exact .inl rfl
          |1,h=>exact absurd rfl h
          |2,_=>exact .inr ⟨_,_,rfl,rfl,.cells (.cons (.same _)<|.cons .own<|.cons (.same _) .nil)⟩
          |_+3,_=>exact .inl rfl⟩ (.cons 3 rfl (.same _)<|.cons 4 rfl (.same _)<|.cons 8 rfl (.same _)<|.cons 9 rfl (.same _)<|.cons 10 rfl (.same _)<|.cons 11 rfl (.same _)<|.cons 12 rfl (.same _)<|.cons 34 rfl (.same _)<|.cons 35 rfl (.same _)<|.cons 36 rfl (.same _) .nil) ?_
        refine ai<|ab (.a 2 I<|.c rfl (C▸wT k x i) I<|.k [3,4,8,9,10,11,12,34,35,36,48] I)<|ae I (λhc=>?_) (λhc=>?_)
        · subst hc;rw[QY rfl]at c;have hle:gZ (.agg [num i,.slice N (dQ [.raw (.slice none 0 0),.raw (.bool false),.raw (.slice none 0 0)] N),aq (bK T i)]) (dW X):=by
            rw[c];have Q:=xN N;have A:T.nodes.toNat=N:=by omega
            refine gZ.eQ ⟨rfl,λj a b h1 h2=>?_⟩
            match j,h1,h2 with
            |0,h1,h2=>cases h1;cases h2;exact Tv _
            |1,h1,h2=>
              cases h1;cases h2;show gZ (.slice N _) (.slice (List.replicate T.nodes.toNat (⟨[],false,[]⟩:jI)).length (dH (List.replicate T.nodes.toNat ⟨[],false,[]⟩)));rw[R6,A];exact gZ.Jr Q.1.symm Q.2
            |2,h1,h2=>cases h1;cases h2;exact Tv _
            |j+3,h1,h2=>exact absurd h1 (by simp)
          refine bx<|au 2 I<|ez I (qt T F _) I<|au 2 I<|aE [3,4,8,9,12,34,35,36] I ?_;refine bx<|au 1 I<|bm (sU (cC I (Q6 I) I I I) hle) I<|au 1 I<|cb (bF I (Ru I) I I I I (by unfold maxLen;omega)) I<|au 1 I<|aE [3,4,8,9,34,35,36] I ?_;refine dS [3] (.c 3<|.c 4<|.c 8<|.cons 9 I (.own (i:=0) (j:=3) I)<|.c 34<|.c 35<|.c 36<|.nil) (.kept rfl (.row RZ) .nil) I I<|aC (.v (aW I) I<|.a 1 I<|.k [3,4,8,9,34,35,36] I) ?_;exact⟨l.length - (i+1),by omega,i+1,by omega,rfl,by rw[B,<-pI];rfl⟩
        · subst hc;have hle:gZ (dW X) (dW X):=Tv _;rw[QZ (by decide)]at c;have v:tf s=true:=by
            rw[<-hs];exact lJ.1 y i u C
          obtain⟨f,cap,Y,Z,R,r4⟩:=NB T k x cS d E v e;rw[<-c]at R;obtain⟨J,K⟩:0<=s/\s<4:=by
            obtain⟨h0,p⟩:=Q3.1 v;have h0:=Q5 h0;have p:=Q5 p;omega
          refine bx<|au 1 I<|bm (pf I (bw.ar.get I) I I J K (j:=s.toNat) (Uf _)) I<|bm (aJ I ((show FS[0+s.toNat]? =_ by rw[Si];exact Y))) I<|au 1 I<|bm (vB I Z rfl rfl R) I<|au 4 I<|aE [3,4,8,9,12,34,35,36] I ?_;refine bx<|au 1 I<|bm (sU (cC I (Q6 I) I I I) hle) I<|au 1 I<|cb (bF I (Ru I) I I I I (by unfold maxLen;omega)) I<|au 1 I<|aE [3,4,8,9,34,35,36] I ?_;refine dS [3] (.c 3<|.c 4<|.c 8<|.cons 9 I (.own (i:=0) (j:=3) I)<|.c 34<|.c 35<|.c 36<|.nil) (.kept rfl (.row RZ) .nil) I I<|aC (.v (aW I) I<|.a 1 I<|.k [3,4,8,9,34,35,36] I) ?_;exact⟨l.length - (i+1),by omega,i+1,by omega,rfl,by rw[B,<-pI];rfl⟩
      · have D:i=l.length:=by have:=ff hc;omega
        subst D;exact ba<|ab (.a 3 I<|.k [6,7] I)<|ao<|QR I (RW (QV (Tj rfl Sj) (QV ax.pure Rl))) (by show PV.tuple [.slice l.length (oa (jP T k x l l.length)),num 0]= .tuple [dP (jP T k x l l.length),num 0];unfold dP;rw[lh])
end
end PW
end Go.Proofs.YtoopjinigmhpcaaGreatDoor
