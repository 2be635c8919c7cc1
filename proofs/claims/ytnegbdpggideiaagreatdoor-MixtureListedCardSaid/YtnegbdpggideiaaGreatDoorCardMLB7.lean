/- Texts of the proof, part 7. -/
import Derived.Laws.StructEq
import Derived.Test.YtnegbdpggideiaaGreatDoorCardMLB6
set_option linter.unusedVariables false
set_option linter.unusedSimpArgs false
set_option maxRecDepth 10000
set_option maxHeartbeats 1000000
namespace Go.Proofs.YtnegbdpggideiaaGreatDoor
namespace PW
open Go.RowKit cE Mem Net
def Hy(T:ai)(D:List Bool)(L:List Int)(a d:Nat):Bool:=
 ((((!aL D a)&&decide (bb T a≠(d:Int)))&&decide (0≤L.getD (aS T a).toNat 0))&&(decide ((aS T a).toNat=d)|| !cR T (aS T a).toNat))&&decide (L.getD (bb T a).toNat 0=L.getD (aS T a).toNat 0+cb T a)
theorem H6(T:ai)(D:List Bool)(L:List Int)(a d:Nat)(hv:ao T=true)(hf:bP T D=true)(hL:(L.length:Int)=T.nodes)(hub:∀x∈L, -1≤x∧x≤4194240)(ha:a<2*T.ae.length):
  Can Tryz.prog 44 [aN T,aY D,aw L,num a,num d] (· =flag (Hy T D L a d)):=by
 have hS:=aK hv
 obtain⟨x,hx⟩:=Int.eq_ofNat_of_zero_le (hS.tail a ha).1
 obtain⟨y,hy⟩:=Int.eq_ofNat_of_zero_le (hS.head a ha).1
 have hxL:x<L.length:=by have:=(hS.tail a ha).2;omega
 have hyL:y<L.length:=by have:=(hS.head a ha).2;omega
 have hcb:=hS.cost a ha
 have hDl:D.length=0∨a<D.length:=by simp only[bP,decide_eq_true_eq]at hf;omega
 have uy:=hub _ (ca (d:=0) hyL)
 obtain⟨p1,hp1⟩:∃q,(!aL D a)=q:=⟨_,rfl⟩
 obtain⟨p2,hp2⟩:∃q,decide ((x:Int)≠(d:Int))=q:=⟨_,rfl⟩
 obtain⟨p3,hp3⟩:∃q,decide (0≤L.getD y 0)=q:=⟨_,rfl⟩
 obtain⟨p4,hp4⟩:∃q,(decide (y=d)|| !cR T y)=q:=⟨_,rfl⟩
 obtain⟨p5,hp5⟩:∃q,decide (L.getD x 0=L.getD y 0+cb T a)=q:=⟨_,rfl⟩
 have hon:Hy T D L a d=((((p1&&p2)&&p3)&&p4)&&p5):=by
  unfold Hy
  rw[hx,hy,Int.toNat_natCast,Int.toNat_natCast,hp1,hp2,hp3,hp4,hp5]
 rw[hon]
 refine aG Tryz.func44 rfl Tryz.ntmps44 rfl<|ab (.a 2 rfl<|.k [1,2,3,4,5] rfl)<|ez mixed (by kernel_rfl) (.a 2 rfl<|.v [13,14] (dX rfl (hx▸gA T hv a ha)) rfl rfl<|.a 2 rfl<|.v [16,17] (dX rfl (hy▸kr T hv a ha)) rfl rfl<|.a 2 rfl<|.k [1,2,3,4,5,11,12] rfl) ?_
 refine mV mixed (by kernel_rfl) 10 (.raw (.bool ((((p1&&p2)&&p3)&&p4)&&p5))) [] rfl ?_ ?_
 ·refine .a 2 rfl<|.v [19,20] (dX rfl (hp1▸tS D a hDl)) rfl rfl<|.a 1 rfl<|?_
  cases p1
  ·exact .a 33 rfl<|.k [10] rfl
  ·refine .a 2 rfl<|.v [23,24] (cg rfl (hp2)) rfl rfl<|.a 2 rfl<|?_
   cases p2
   ·exact .a 28 rfl<|.k [10] rfl
   ·refine .a 2 rfl<|.v [28,29] (aM (y) rfl) rfl rfl<|.v [30] (aO rfl (aA L y hyL)) rfl rfl<|.v [31] (cg rfl (hp3)) rfl rfl<|.a 2 rfl<|?_
    cases p3
    ·exact .a 21 rfl<|.k [10] rfl
    ·refine .a 3 rfl<|.v [35,36,37] (dX rfl (hp4▸km T hv y d)) rfl rfl<|.a 2 rfl<|?_
     cases p4
     ·exact .a 15 rfl<|.k [10] rfl
     ·exact .a 2 rfl<|.v [41,42] (aM (x) rfl) rfl rfl<|.v [43] (aO rfl (aA L x hxL)) rfl rfl<|.a 2 rfl<|.v [45,46] (aM (y) rfl) rfl rfl<|.v [47] (aO rfl (aA L y hyL)) rfl rfl<|.a 2 rfl<|.v [49,50] (dX rfl (mZ T hv a ha)) rfl rfl<|.v [48,51] (aT rfl) rfl rfl<|.v [44,52] (cg rfl (hp5)) rfl rfl<|.a 2 rfl<|.k [10] rfl
 exact aq<|⟨_,_,az.of rfl,aC.pure,rfl⟩
end PW
end Go.Proofs.YtnegbdpggideiaaGreatDoor
namespace Go.Proofs.YtnegbdpggideiaaGreatDoor
namespace PW
open Go.RowKit cE Mem Net
end PW
end Go.Proofs.YtnegbdpggideiaaGreatDoor
namespace Go.Proofs.YtnegbdpggideiaaGreatDoor
namespace PW
open Go.RowKit cE Mem Net
theorem AM(a b c d:Int)(w:World):(Op.equalIn 10000 103 (.agg #[.int .i64 a,.int .i64 b]) (.agg #[.int .i64 c,.int .i64 d])).run Tryz.prog w= .ok (a==c&&b==d) w:=by
 have u3:=Tryz.underlying3
 have a3:=Tryz.isAgg3
 have z3:=Tryz.sizeOf3
 have hS:Tryz.prog.underlying 103=some (.struct (Tryz.prog.fieldsOf 103)):=by kernel_rfl
 rw[show(10000:Nat)=9999+1 from rfl,run_equalIn_agg w 9999 103 _ _ hS (by kernel_rfl)]
 simp only[Program.fieldsOf,Tryz.underlying103]
 go_simp
 by_cases h1:a=c<;>by_cases h2:b=d<;>simp[h1,h2]
theorem zb{E:Env}{w:World}{v:Value}{s:bY}(h:cC E w v (yg s)):v= .agg #[.int .i64 s.kind,.int .i64 s.num]:=by
 unfold yg mU at h
 cases h with
 |agg cs _ hl hr=>
  obtain⟨l⟩:=cs
  match l,hl,hr with
  | [x,y],_,hr=>
   have h0:=dO (hr 0 x _ rfl rfl)
   have h1:=dO (hr 1 y _ rfl rfl)
   subst h0;subst h1;rfl
  | [],hl,_=>simp at hl
  | [_],hl,_=>simp at hl
  |_::_::_::_,hl,_=>simp at hl
theorem Dh{σ:cf}{t:bZ}{o:Oper}{x y:Operand}{tz:TypeId}{a b:bY}{q:Bool}(ho:o.op= .binOp .eql 103 x y tz)(hx:aD t x=some (yg a))(hy:aD t y=some (yg b))(hq:decide (a=b)=q):bh Tryz.prog σ t o (.raw (.bool q)):=by
 intro F base E ρ w hρ _ hT
 have h1:=zb (ax hρ hT hx)
 have h2:=zb (ax hρ hT hy)
 have hb:(a.kind==b.kind&&a.num==b.num)=q:=by
  rw[←hq]
  obtain⟨a1,a2⟩:=a
  obtain⟨b1,b2⟩:=b
  by_cases e1:a1=b1<;>by_cases e2:a2=b2<;>simp[e1,e2]
 simp only[execOp,ho,h1,h2,Sem.run_bind,run_eqGuard_agg w _ _ _ _ _ _ (show Tryz.prog.eqGuardType Tryz.prog.depth 103=false by kernel_rfl),Result.andThen_ok,run_eql_struct,AM,Sem.run_pure,hb]
 exact bg (.raw _)
end PW
end Go.Proofs.YtnegbdpggideiaaGreatDoor
namespace Go.Proofs.YtnegbdpggideiaaGreatDoor
namespace PW
open Go.RowKit cE Mem Net
deriving instance DecidableEq for iE
deriving instance DecidableEq for dR
theorem F4{E:Env}{w:World}{v:Value}{x:dR}(h:cC E w v (fV x)):x.fh.length≤maxLen∧x.down.length≤maxLen:=by
 unfold fV fU at h
 cases h with
 |agg cs _ hl hr=>
  have hr:aW E w cs.toList _:=⟨by simpa using hl,fun i x u h1 h2=>hr i x u (by simpa using h1) h2⟩
  obtain⟨v1,_,h1⟩:=hr.get (i:=1) rfl
  obtain⟨v2,_,h2⟩:=hr.get (i:=2) rfl
  exact⟨lS h1,lS h2⟩
end PW
end Go.Proofs.YtnegbdpggideiaaGreatDoor
namespace Go.Proofs.YtnegbdpggideiaaGreatDoor
namespace PW
open Go.RowKit cE Mem Net
def nx(T:ai)(s:bY):Bool:=if s.kind=1 then bn T s.num else if s.kind=2 then fy T s.num else if s.kind=3 then bQ s.num 1 64 else if s.kind=4 then bQ s.num 0 65535 else false
def eI(T:ai)(n:Int)(L:List Int):Bool:=decide (∀i,i<L.length→fy T (L.getD i 0)=true∧bb T (L.getD i 0).toNat=n∧(0<i→L.getD (i - 1) 0<L.getD i 0))
def iU(T:ai)(n d:Int)(e:iE):Bool:=eI T n e.aI&&(!(decide (d=n)&&decide (0<(e.aI.length:Int))))&&(if e.rep then decide ((e.aI.length:Int)=1)&&decide ((e.push.length:Int)≤32)&&e.push.all (nx T) else decide ((e.push.length:Int)=0))
def HK:iE:=⟨[],false,[]⟩
def nd(T:ai)(n:Int)(l:List iE):Bool:=decide (∀d,d<l.length→iU T n d (l.getD d HK)=true)
def dD(T:ai)(x:dR):Bool:=ao T&&bn T x.node&&decide ((x.fh.length:Int)=T.nodes)&&eI T x.node x.down&&nd T x.node x.fh
theorem cY{T:ai}{a:Int}:fy T a=true↔0≤a∧a<2*(T.ae.length:Int):=by simp[fy]
theorem oJ(T:ai)(a:Int)(h:fy T a=true):Can Tryz.prog 79 [aN T,num a] (· =num (bb T a.toNat)):=by
 obtain⟨h0,h1⟩:=cY.1 h
 obtain⟨a,rfl⟩:=Int.eq_ofNat_of_zero_le h0
 exact iZ T a (by omega)
theorem DV(T:ai)(hl:T.ae.length≤4611686018427387903)(s:bY):Can Tryz.prog 171 [aN T,yg s] (· =flag (nx T s)):=by
 unfold nx
 refine aG Tryz.func171 rfl Tryz.ntmps171 rfl<|ab (.a 3 rfl<|.k [2,3] rfl)<|ak<|ab (.a 2 rfl<|.k [2,3,6] rfl)<|av<|ab (.a 2 rfl<|.k [2,3,6,7] rfl)<|ah rfl (fun hc=>?_) (fun hc=>?_)
 ·rw[if_pos (tt hc)]
  exact ab (.a 3 rfl<|.c rfl (df T s.num) rfl<|.a 1 rfl<|.k [4] rfl)<|aq<|⟨_,_,az.of rfl,aC.pure,rfl⟩
 ·rw[if_neg (ff hc)]
  refine ab (.a 2 rfl<|.k [2,3,6,13] rfl)<|ah rfl (fun hc=>?_) (fun hc=>?_)
  ·rw[if_pos (tt hc)]
   exact ab (.a 3 rfl<|.c rfl (pS T hl s.num) rfl<|.a 1 rfl<|.k [4] rfl)<|aq<|⟨_,_,az.of rfl,aC.pure,rfl⟩
  ·rw[if_neg (ff hc)]
   refine ab (.a 2 rfl<|.k [3,6,19] rfl)<|ah rfl (fun hc=>?_) (fun hc=>?_)
   ·rw[if_pos (tt hc)]
    obtain⟨p1,hp1⟩:∃q,decide (1≤s.num)=q:=⟨_,rfl⟩
    obtain⟨p2,hp2⟩:∃q,decide (s.num≤64)=q:=⟨_,rfl⟩
    have he:bQ s.num 1 64=(p1&&p2):=by rw[←hp1,←hp2];unfold bQ;exact Bool.decide_and _ _
    rw[he]
    refine bu 4 (.raw (.bool (p1&&p2))) [] rfl ?_ ?_
    ·refine .a 2 rfl<|.v (cg rfl (hp1)) rfl<|.a 1 rfl<|?_
     cases p1
     ·exact .a 5 rfl<|.k [4] rfl
     ·exact .a 2 rfl<|.v (cg rfl (hp2)) rfl<|.a 2 rfl<|.k [4] rfl
    exact aq<|⟨_,_,az.of rfl,aC.pure,rfl⟩
   ·rw[if_neg (ff hc)]
    refine ab (.a 2 rfl<|.k [3,29] rfl)<|ah rfl (fun hc=>?_) (fun hc=>?_)
    ·rw[if_pos (tt hc)]
     obtain⟨p1,hp1⟩:∃q,decide (0≤s.num)=q:=⟨_,rfl⟩
     obtain⟨p2,hp2⟩:∃q,decide (s.num≤65535)=q:=⟨_,rfl⟩
     have he:bQ s.num 0 65535=(p1&&p2):=by rw[←hp1,←hp2];unfold bQ;exact Bool.decide_and _ _
     rw[he]
     refine bu 4 (.raw (.bool (p1&&p2))) [] rfl ?_ ?_
     ·refine .a 2 rfl<|.v (cg rfl (hp1)) rfl<|.a 1 rfl<|?_
      cases p1
      ·exact .a 5 rfl<|.k [4] rfl
      ·exact .a 2 rfl<|.v (cg rfl (hp2)) rfl<|.a 2 rfl<|.k [4] rfl
     exact aq<|⟨_,_,az.of rfl,aC.pure,rfl⟩
    ·rw[if_neg (ff hc)]
     exact aj<|ab (.a 1 rfl<|.k [4] rfl)<|aq<|⟨_,_,az.of rfl,aC.pure,rfl⟩
def vh(T:ai)(n:Int)(L:List Int)(i:Nat):Bool:=decide (fy T (L.getD i 0)=true∧bb T (L.getD i 0).toNat=n∧(0<i→L.getD (i - 1) 0<L.getD i 0))
theorem Aa{T:ai}{n:Int}{L:List Int}(h:∀i,i<L.length→vh T n L i=true):eI T n L=true:=decide_eq_true fun i hi=>tt (h i hi)
theorem xg{T:ai}{n:Int}{L:List Int}{i:Nat}(hi:i<L.length)(h:vh T n L i=false):eI T n L=false:=decide_eq_false fun ha=>ff h (ha i hi)
theorem nV(T:ai)(hv:ao T=true)(n:Int)(L:List Int):Can Tryz.prog 140 [aN T,num n,aw L] (· =flag (eI T n L)):=by
 have hll:=bO hv
 refine pQ fun⟨E,w,vs,hR⟩=>?_
 obtain⟨v,_,hv⟩:=hR.get (i:=2) rfl
 have hm:=lS hv
 unfold maxLen at hm
 refine aG Tryz.func140 rfl Tryz.ntmps140 rfl<|ab (.a 2 rfl<|.k [1,2,3] rfl)<|ak<|ab (.a 3 rfl<|.k [1,2,3,9,10,11] rfl)<|av<|fp [1,2,3,9,10,11] rfl<|bq (fun r s=>∃k,k≤L.length∧r=L.length - k∧(∀i,i<k→vh T n L i=true)∧s=⟨[(1,num n),(2,aw L),(3,.aX (bw T) 0),(9,aw L),(10,num L.length),(11,num k)],[]⟩) L.length ⟨0,by omega,by omega,fun i hi=>by omega,rfl⟩ ?_
 rintro r s ⟨k,hk,rfl,hall,rfl⟩
 refine ab (.a 1 rfl<|.k [1,2,3,9,10,11,12] rfl)<|ak<|ah rfl (fun hc=>?_) (fun hc=>?_)
 ·have hlt:k<L.length:=by have:=tt hc;omega
  obtain⟨p1,hp1⟩:∃q,fy T (L.getD k 0)=q:=⟨_,rfl⟩
  obtain⟨p2,hp2⟩:∃q,decide (bb T (L.getD k 0).toNat≠n)=q:=⟨_,rfl⟩
  obtain⟨p3,hp3⟩:∃q,decide (0<(k:Int))=q:=⟨_,rfl⟩
  obtain⟨p4,hp4⟩:∃q,decide (L.getD k 0≤L.getD (k - 1) 0)=q:=⟨_,rfl⟩
  refine aj<|ak<|av<|ab (.a 1 rfl<|.v (aM (k) rfl) rfl<|.v (aO rfl (aA L k hlt)) rfl<|.a 2 rfl<|.k [1,2,3,7,8,9,10,11] rfl)<|bu 39 (.raw (.bool (((!p1)||p2)||(p3&&p4)))) [1,2,3,9,10,11] rfl ?_ ?_
  ·refine .a 2 rfl<|.c rfl (hp1▸pS T (by omega) (L.getD k 0)) rfl<|.a 2 rfl<|?_
   cases p1
   ·exact .a 19 rfl<|.k [39,1,2,3,9,10,11] rfl
   ·refine .a 2 rfl<|.c rfl (oJ T _ hp1) rfl<|.a 1 rfl<|.v (cg rfl (hp2)) rfl<|.a 2 rfl<|?_
    cases p2
    ·refine .a 1 rfl<|.v (cg rfl (hp3)) rfl<|.a 1 rfl<|?_
     cases p3
     ·exact .a 9 rfl<|.k [39,1,2,3,9,10,11] rfl
     ·exact .a 2 rfl<|.v (aT rfl) rfl<|.v (aM (k - 1) rfl (by have:=tt hp3;omega) (by omega)) rfl<|.v (aO rfl (aA L (k - 1) (by omega))) rfl<|.a 1 rfl<|.v (cg rfl (hp4)) rfl<|.a 2 rfl<|.k [39,1,2,3,9,10,11] rfl
    ·exact .a 12 rfl<|.k [39,1,2,3,9,10,11] rfl
  refine ah rfl (fun hx=>?_) (fun hx=>?_)
  ·have hno:vh T n L k=false:=by
    refine decide_eq_false fun⟨h1,h2,h3⟩=>?_
    rw[h1]at hp1
    rw[decide_eq_false (by simpa using h2)]at hp2
    subst hp1 hp2
    simp only[Bool.not_true,Bool.false_or,Bool.and_eq_true]at hx
    rw[hx.1]at hp3
    rw[hx.2]at hp4
    have:=h3 (by have:=tt hp3;omega)
    have:=tt hp4
    omega
   rw[xg hlt hno]
   exact ab (.a 1 rfl<|.k [6] rfl)<|aq<|⟨_,_,az.of rfl,aC.pure,rfl⟩
  ·have hyes:vh T n L k=true:=by
    obtain⟨c1,c3⟩:=Bool.or_eq_false_iff.1 hx
    obtain⟨c1,c2⟩:=Bool.or_eq_false_iff.1 c1
    refine decide_eq_true ⟨?_,?_,fun h0=>?_⟩
    ·rw[hp1];simpa using c1
    ·rw[c2]at hp2;exact Classical.byContradiction (ff hp2)
    ·rw[decide_eq_true (by omega)]at hp3
     subst hp3
     rw[Bool.true_and]at c3
     rw[c3]at hp4
     have:=ff hp4
     omega
   refine aj<|aB (.v (aT rfl) rfl<|.a 1 rfl<|.k [1,2,3,9,10,11] rfl) ?_
   refine⟨L.length - (k+1),by omega,k+1,by omega,rfl,fun i hi=>?_,rfl⟩
   by_cases h:i=k
   ·rw[h];exact hyes
   ·exact hall i (by omega)
 ·have hke:k=L.length:=by have:=ff hc;omega
  subst hke
  rw[Aa hall]
  exact bf<|ab (.a 1 rfl<|.k [6] rfl)<|aq<|⟨_,_,az.of rfl,aC.pure,rfl⟩
theorem Jk{α:Type}(p:α→Bool)(L:List α)(k:Nat)(a:α)(h:L[k]? =some a):(L.take (k+1)).all p=((L.take k).all p&&p a):=by
 rw[List.take_add_one,h,List.all_append];simp
theorem JM{α:Type}(p:α→Bool)(L:List α)(k:Nat)(a:α)(h:L[k]? =some a)(hp:p a=false):L.all p=false:=by
 rw[Bool.eq_false_iff]
 intro ha
 have:=List.all_eq_true.1 ha a (List.mem_of_getElem? h)
 rw[hp]at this
 cases this
theorem xt(T:ai)(hv:ao T=true)(e:iE)(n d:Int):Can Tryz.prog 141 [aN T,wb e,num n,num d] (· =flag (iU T n d e)):=by
 have hll:=bO hv
 obtain⟨p1,hp1⟩:∃q,eI T n e.aI=q:=⟨_,rfl⟩
 obtain⟨p2,hp2⟩:∃q,decide (d=n)=q:=⟨_,rfl⟩
 obtain⟨p3,hp3⟩:∃q,decide (0<(e.aI.length:Int))=q:=⟨_,rfl⟩
 unfold iU
 rw[hp1,hp2,hp3]
 refine aG Tryz.func141 rfl Tryz.ntmps141 rfl<|ab (.a 3 rfl<|.k [2,3,4,5] rfl)<|ak<|bu 27 (.raw (.bool ((!p1)||(p2&&p3)))) [4,5] rfl ?_ ?_
 ·refine .a 4 rfl<|.c rfl (hp1▸nV T hv n e.aI) rfl<|.a 2 rfl<|?_
  cases p1
  ·exact .a 10 rfl<|.k [27,4,5] rfl
  ·refine .a 2 rfl<|.v (cg rfl (hp2)) rfl<|.a 1 rfl<|?_
   cases p2
   ·exact .a 6 rfl<|.k [27,4,5] rfl
   ·exact .a 3 rfl<|.v (cg rfl (hp3)) rfl<|.a 2 rfl<|.k [27,4,5] rfl
 refine ah rfl (fun hc=>?_) (fun hc=>?_)
 ·have he:(p1&& !(p2&&p3))=false:=by cases p1<;>cases p2<;>cases p3<;>first|rfl|cases hc
  rw[he,Bool.false_and]
  exact ab (.a 1 rfl<|.k [8] rfl)<|aq<|⟨_,_,az.of rfl,aC.pure,rfl⟩
 ·have he:(p1&& !(p2&&p3))=true:=by cases p1<;>cases p2<;>cases p3<;>first|rfl|cases hc
  rw[he,Bool.true_and]
  refine aj<|ak<|ab (.a 3 rfl<|.k [4,5,30] rfl)<|ah rfl (fun hc=>?_) (fun hc=>?_)
  ·have hr:e.rep=false:=by simpa using hc
   rw[hr,if_neg (by simp)]
   exact ab (.a 5 rfl<|.k [8] rfl)<|aq<|⟨_,_,az.of rfl,aC.pure,rfl⟩
  ·have hr:e.rep=true:=by simpa using hc
   rw[hr,if_pos rfl]
   refine aj<|ak ?_
   obtain⟨p4,hp4⟩:∃q,decide ((e.aI.length:Int)≠1)=q:=⟨_,rfl⟩
   obtain⟨p5,hp5⟩:∃q,decide (32<(e.push.length:Int))=q:=⟨_,rfl⟩
   refine bu 44 (.raw (.bool (p4||p5))) [4,5] rfl ?_ ?_
   ·refine .a 3 rfl<|.v (cg rfl (hp4)) rfl<|.a 1 rfl<|?_
    cases p4
    ·exact .a 3 rfl<|.v (cg rfl (hp5)) rfl<|.a 1 rfl<|.k [44,4,5] rfl
    ·exact .a 5 rfl<|.k [44,4,5] rfl
   refine ah rfl (fun hx=>?_) (fun hx=>?_)
   ·have hf:(decide ((e.aI.length:Int)=1)&&decide ((e.push.length:Int)≤32))=false:=by
     rcases Bool.or_eq_true_iff.1 hx with h|h
     ·rw[h]at hp4;rw[decide_eq_false (tt hp4)];rfl
     ·rw[h]at hp5;rw[decide_eq_false (by have:=tt hp5;omega:¬((e.push.length:Int)≤32)),Bool.and_false]
    rw[hf,Bool.false_and]
    exact ab (.a 1 rfl<|.k [8] rfl)<|aq<|⟨_,_,az.of rfl,aC.pure,rfl⟩
   ·obtain⟨c1,c2⟩:=Bool.or_eq_false_iff.1 hx
    rw[c1]at hp4
    rw[c2]at hp5
    have hlen:e.push.length≤32:=by have:=ff hp5;omega
    rw[decide_eq_true (Classical.byContradiction (ff hp4)),decide_eq_true (by omega:(e.push.length:Int)≤32),Bool.true_and,Bool.true_and]
    refine aj<|ak<|ab (.a 4 rfl<|.k [4,46,47,48] rfl)<|av<|fp [4,46,47,48] rfl<|bq (fun r s=>∃k,k≤e.push.length∧r=e.push.length - k∧(e.push.take k).all (nx T)=true∧s=⟨[(4,.aX (bw T) 0),(46,cH e.push),(47,num e.push.length),(48,num k)],[]⟩) e.push.length ⟨0,by omega,by omega,by simp,rfl⟩ ?_
    rintro r s ⟨k,hk,rfl,hall,rfl⟩
    refine ab (.a 1 rfl<|.k [4,46,47,48,49] rfl)<|ak<|ah rfl (fun hy=>?_) (fun hy=>?_)
    ·have hlt:k<e.push.length:=by have:=tt hy;omega
     obtain⟨a,ha⟩:∃a,e.push[k]? =some a:=⟨e.push[k],by simp[hlt]⟩
     refine aj<|ak<|av<|aR<|bE (aM (k*2) rfl) rfl<|bE (iF rfl (oK e.push k a ha) rfl) rfl<|au 2 rfl<|aH [4,10,46,47,48] rfl ?_
     refine ab (.a 2 rfl<|.c rfl (DV T (by omega) a) rfl<|.a 1 rfl<|.k [4,46,47,48,55] rfl)<|dp [] (.c 4<|.c 46<|.c 47<|.c 48<|.c 55 .nil) .nil rfl rfl ?_
     refine ah rfl (fun hz=>?_) (fun hz=>?_)
     ·rw[JM _ _ k a ha (by simpa using hz)]
      exact ab (.a 1 rfl<|.k [8] rfl)<|aq<|⟨_,_,az.of rfl,aC.pure,rfl⟩
     ·have hz':nx T a=true:=by simpa using hz
      refine aj<|aB (.v (aT rfl) rfl<|.a 1 rfl<|.k [4,46,47,48] rfl) ?_
      exact⟨e.push.length - (k+1),by omega,k+1,by omega,rfl,by rw[Jk _ _ k a ha,hall,hz'];rfl,rfl⟩
    ·have hke:k=e.push.length:=by have:=ff hy;omega
     subst hke
     rw[List.take_length]at hall
     rw[hall]
     exact bf<|ab (.a 1 rfl<|.k [8] rfl)<|aq<|⟨_,_,az.of rfl,aC.pure,rfl⟩
theorem lP(l:List iE)(k:Nat)(e:iE)(h:l[k]? =some e):l.getD k HK=e:=by rw[List.getD_eq_getElem?_getD,h];rfl
theorem u5{T:ai}{n:Int}{l:List iE}{k:Nat}{e:iE}(h:l[k]? =some e)(hf:iU T n k e=false):nd T n l=false:=decide_eq_false fun ha=>by
 have:=ha k (List.getElem?_eq_some_iff.1 h).1
 rw[lP l k e h,hf]at this
 cases this
theorem iY{T:ai}{n:Int}{l:List iE}(h:∀(k:Nat) e,l[k]? =some e→iU T n k e=true):nd T n l=true:=decide_eq_true fun d hd=>by
 have he:l[d]? =some l[d]:=by simp[hd]
 rw[lP l d _ he]
 exact h d _ he
theorem qW(T:ai)(x:dR):Can Tryz.prog 99 [aN T,fV x] (· =flag (dD T x)):=by
 refine pQ fun⟨E,w,vs,hR⟩=>?_
 obtain⟨v,_,hvv⟩:=hR.get (i:=1) rfl
 have hm:=(F4 hvv).1
 unfold maxLen at hm
 obtain⟨p1,hp1⟩:∃q,ao T=q:=⟨_,rfl⟩
 obtain⟨p2,hp2⟩:∃q,bn T x.node=q:=⟨_,rfl⟩
 obtain⟨p3,hp3⟩:∃q,decide ((x.fh.length:Int)≠T.nodes)=q:=⟨_,rfl⟩
 obtain⟨p4,hp4⟩:∃q,eI T x.node x.down=q:=⟨_,rfl⟩
 have he:decide ((x.fh.length:Int)=T.nodes)= !p3 :=by rw[←hp3];simp
 unfold dD
 rw[hp1,hp2,he,hp4]
 refine aG Tryz.func99 rfl Tryz.ntmps99 rfl<|ab (.a 3 rfl<|.k [2,3] rfl)<|ak<|bu 33 (.raw (.bool ((((!p1)|| !p2)||p3)|| !p4))) [2,3] rfl ?_ ?_
 ·refine .a 1 rfl<|.c rfl (hp1▸ej T) rfl<|.a 2 rfl<|?_
  cases p1
  ·exact .a 23 rfl<|.k [33,2,3] rfl
  ·refine .a 3 rfl<|.c rfl (hp2▸df T x.node) rfl<|.a 3 rfl<|?_
   cases p2
   ·exact .a 16 rfl<|.k [33,2,3] rfl
   ·refine .a 5 rfl<|.v (cg rfl (hp3)) rfl<|.a 2 rfl<|?_
    cases p3
    ·exact .a 5 rfl<|.c rfl (hp4▸nV T hp1 x.node x.down) rfl<|.a 2 rfl<|.k [33,2,3] rfl
    ·exact .a 8 rfl<|.k [33,2,3] rfl
 refine ah rfl (fun hc=>?_) (fun hc=>?_)
 ·have hf:(p1&&p2&& !p3 &&p4)=false:=by cases p1<;>cases p2<;>cases p3<;>cases p4<;>first|rfl|cases hc
  rw[hf,Bool.false_and]
  exact ab (.a 1 rfl<|.k [4] rfl)<|aq<|⟨_,_,az.of rfl,aC.pure,rfl⟩
 ·have hf:(p1&&p2&& !p3 &&p4)=true:=by cases p1<;>cases p2<;>cases p3<;>cases p4<;>first|rfl|cases hc
  rw[hf,Bool.true_and]
  have e1:p1=true:=by cases p1<;>simp_all
  rw[e1]at hp1
  refine aj<|ak<|ab (.a 4 rfl<|.k [2,3,35,36,37] rfl)<|av<|fp [2,3,35,36,37] rfl<|bq (fun r s=>∃k,k≤x.fh.length∧r=x.fh.length - k∧(∀(i:Nat) e,i<k→x.fh[i]? =some e→iU T x.node i e=true)∧s=⟨[(2,.aX (bw T) 0),(3,.aX (fU x) 0),(35,jY x.fh),(36,num x.fh.length),(37,num k)],[]⟩) x.fh.length ⟨0,by omega,by omega,fun i e hi=>by omega,rfl⟩ ?_
  rintro r s ⟨k,hk,rfl,hall,rfl⟩
  refine ab (.a 1 rfl<|.k [2,3,35,36,37,38] rfl)<|ak<|ah rfl (fun hy=>?_) (fun hy=>?_)
  ·have hlt:k<x.fh.length:=by have:=tt hy;omega
   obtain⟨e,hek⟩:∃a,x.fh[k]? =some a:=⟨x.fh[k],by simp[hlt]⟩
   refine aj<|ak<|av<|aR<|au 1 rfl<|bE (aM (k*3) rfl) rfl<|bE (iF rfl (oe x.fh k e hek) rfl) rfl<|au 3 rfl<|aH [2,3,5,6,35,36,37] rfl ?_
   refine ab (.a 5 rfl<|.c rfl (xt T hp1 e x.node k) rfl<|.a 1 rfl<|.k [2,3,35,36,37,48] rfl)<|dp [] (.c 2<|.c 3<|.c 35<|.c 36<|.c 37<|.c 48 .nil) .nil rfl rfl ?_
   refine ah rfl (fun hz=>?_) (fun hz=>?_)
   ·rw[u5 hek (by simpa using hz)]
    exact ab (.a 1 rfl<|.k [4] rfl)<|aq<|⟨_,_,az.of rfl,aC.pure,rfl⟩
   ·have hz':iU T x.node k e=true:=by simpa using hz
    refine aj<|aB (.v (aT rfl) rfl<|.a 1 rfl<|.k [2,3,35,36,37] rfl) ?_
    refine⟨x.fh.length - (k+1),by omega,k+1,by omega,rfl,fun i e' hi he'=>?_,rfl⟩
    by_cases h:i=k
    ·subst h;rw[hek]at he';cases he';exact hz'
    ·exact hall i e' (by omega) he'
  ·have hke:k=x.fh.length:=by have:=ff hy;omega
   rw[iY fun i e hi=>hall i e (by have:=(List.getElem?_eq_some_iff.1 hi).1;omega) hi]
   exact bf<|ab (.a 1 rfl<|.k [4] rfl)<|aq<|⟨_,_,az.of rfl,aC.pure,rfl⟩
end PW
end Go.Proofs.YtnegbdpggideiaaGreatDoor
namespace Go.Proofs.YtnegbdpggideiaaGreatDoor
namespace PW
open Go.RowKit cE Mem Net
theorem lF(T:ai)(n:Int):(bH T n).Pairwise (· < ·):=by
 unfold bH iB
 refine List.Pairwise.map _ (fun a b h=>?_) ((List.pairwise_lt_range (n:=2*T.ae.length)).filter _)
 show(a:Int)<(b:Int)
 omega
theorem iS{T:ai}{n:Int}{a:Int}:a∈bH T n↔fy T a=true∧bb T a.toNat=n:=by
 unfold bH iB
 rw[List.mem_map,cY]
 constructor
 ·rintro⟨b,hb,rfl⟩
  obtain⟨h1,h2⟩:=List.mem_filter.1 hb
  have:=List.mem_range.1 h1
  refine⟨⟨by simp,by simp;omega⟩,by simpa using h2⟩
 ·rintro⟨⟨h0,h1⟩,h2⟩
  refine⟨a.toNat,List.mem_filter.2 ⟨List.mem_range.2 (by omega),by simpa using h2⟩,by simp;omega⟩
theorem qx{T:ai}{n:Int}{L:List Int}(hs:L.Pairwise (· < ·))(hm:∀a∈L,fy T a=true∧bb T a.toNat=n):eI T n L=true:=decide_eq_true fun i hi=>by
 have h1:=hm _ (ca (d:=0) hi)
 refine⟨h1.1,h1.2,fun h0=>?_⟩
 have:=List.pairwise_iff_getElem.1 hs (i - 1) i (by omega) hi (by omega)
 rw[List.getD_eq_getElem?_getD,List.getD_eq_getElem?_getD,List.getElem?_eq_getElem hi,List.getElem?_eq_getElem (by omega:i - 1<L.length)]
 exact this
theorem lW(T:ai)(n:Int)(p:Int→Bool):eI T n ((bH T n).filter p)=true:=qx ((lF T n).filter p) fun _ ha=>iS.1 (List.mem_filter.1 ha).1
theorem qD(T:ai)(D:List Bool)(n d:Nat):eI T n (bx T D n d)=true:=by
 unfold bx
 split
 ·exact decide_eq_true fun i hi=>by simp at hi
 ·exact lW T n _
theorem iM(T:ai)(D:List Bool)(n:Nat):bx T D n n=[]:=by unfold bx;rw[if_pos (.inl rfl)]
theorem ku{T:ai}{D:List Bool}(hv:ao T=true){n:Nat}(hn:(n:Int)<T.nodes):dD T (dB T D n)=true:=by
 unfold dD dB
 have h1:bn T (n:Int)=true:=aU.2 ⟨by omega,hn⟩
 have hN:=(aK hv).nodes
 have h2:decide (((nY T D n T.nodes.toNat).length:Int)=T.nodes)=true:=decide_eq_true (by rw[tL];omega)
 have h3:eI T n (cF D (bH T n))=true:=lW T n _
 have h4:nd T n (nY T D n T.nodes.toNat)=true:=iY fun d e he=>by
  unfold nY at he
  rw[List.getElem?_map,Option.map_eq_some_iff]at he
  obtain⟨d',hd',rfl⟩:=he
  have hd:d'=d:=by
   have:=List.getElem?_eq_some_iff.1 hd'
   obtain⟨h,h'⟩:=this
   simpa using h'.symm
  subst hd
  unfold iU
  simp only[qD,Bool.true_and]
  by_cases hdn:d'=n
  ·subst hdn;rw[iM];simp
  ·rw[decide_eq_false (by omega)];simp
 rw[hv,h1,h2,h3,h4]
 rfl
theorem nE{T:ai}{D:List Bool}(hv:ao T=true){d x:Nat}(hd:(d:Int)<T.nodes)(hx:(x:Int)<T.nodes):(br T D d false).getD x 0=at' (br T D d false) (x:Int):=by
 have hl:=(di (D:=D) hv (dir:=false) hd).1
 unfold at'
 rw[Int.toNat_natCast,List.getD_eq_getElem?_getD,List.getD_eq_getElem?_getD,List.getElem?_eq_getElem (by omega)]
 rfl
structure jg (T:ai) (D:List Bool) (n d a:Nat):Prop where
 eM:a<2*T.ae.length
 tail:bb T a=(n:Int)
 up:aL D a=false
 ne:n≠d
 reach:0≤(br T D d false).getD (aS T a).toNat 0
 pass:aS T a=(d:Int)∨cR T (aS T a).toNat=false
 sum:(br T D d false).getD n 0=(br T D d false).getD (aS T a).toNat 0+cb T a
theorem cO{T:ai}{D:List Bool}{n d:Nat}{a:Int}(h:a∈bx T D n d):∃k:Nat,a=k∧jg T D n d k:=by
 unfold bx at h
 split at h
 ·simp at h
 ·rename_i hne
  obtain⟨h1,h2⟩:=List.mem_filter.1 h
  obtain⟨h3,h4⟩:=iS.1 h1
  obtain⟨h5,h6⟩:=cY.1 h3
  obtain⟨k,rfl⟩:=Int.eq_ofNat_of_zero_le h5
  rw[Int.toNat_natCast]at h2 h4
  unfold gR at h2
  simp only[Bool.and_eq_true,Bool.not_eq_true',Bool.or_eq_false_iff,decide_eq_true_eq,decide_eq_false_iff_not]at h2
  obtain⟨⟨⟨g1,g2⟩,g3⟩,g4⟩:=h2
  refine⟨k,rfl,by omega,h4,g1,fun e=>hne (.inl e),by omega,?_,by omega⟩
  rcases Bool.and_eq_false_iff.1 g3 with g|g
  ·exact .inl (Classical.byContradiction (ff g))
  ·exact .inr g
theorem eR{T:ai}{D:List Bool}{n d k:Nat}(h:jg T D n d k)(hc:1≤cb T k):(k:Int)∈bx T D n d:=by
 have hs:=h.sum
 have hr:=h.reach
 unfold bx
 rw[if_neg (by rintro(e|e);exact h.ne e;omega)]
 refine List.mem_filter.2 ⟨iS.2 ⟨cY.2 ⟨by omega,by have:=h.eM;omega⟩,h.tail⟩,?_⟩
 unfold gR
 rw[Int.toNat_natCast]
 simp only[Bool.and_eq_true,Bool.not_eq_true',Bool.or_eq_false_iff,decide_eq_true_eq,decide_eq_false_iff_not]
 refine⟨⟨⟨h.up,by omega⟩,?_⟩,by omega⟩
 rcases h.pass with g|g
 ·rw[decide_eq_false (by simpa using g)];rfl
 ·rw[g,Bool.and_false]
theorem jt{T:ai}{D:List Bool}(hv:ao T=true){n d:Nat}(hn:(n:Int)<T.nodes)(hd:(d:Int)<T.nodes)(hne:n≠d)(h0:0≤(br T D d false).getD n 0):∃k,jg T D n d k:=by
 have hS:=aK hv
 have hI:=iT hS D false hd
 have e1:=nE (D:=D) hv hd hn
 rcases hI.my n hn (by rw[←e1];exact h0)with h|⟨a,ha,hx,⟨w1,w2,w3⟩,hs⟩
 ·exact absurd h hne
 ·have hh:=hS.head a ha
  obtain⟨y,hy⟩:=Int.eq_ofNat_of_zero_le hh.1
  have e2:=nE (D:=D) hv hd (x:=y) (by omega)
  simp only[eW,cJ,Bool.false_eq_true,if_false]at hx w2 w3 hs
  rw[hy]at w2 w3 hs
  refine⟨a,ha,hx,w1,hne,?_,?_,?_⟩
  ·rw[hy,Int.toNat_natCast,e2];exact w2
  ·rw[hy];exact w3
  ·rw[hy,Int.toNat_natCast,e1,e2];exact hs
theorem A1{T:ai}{D:List Bool}(hv:ao T=true){d:Nat}(hd:(d:Int)<T.nodes):(br T D d false).getD d 0=0:=by
 rw[nE hv hd hd]
 exact(iT (aK hv) D false hd).root
end PW
end Go.Proofs.YtnegbdpggideiaaGreatDoor
namespace Go.Proofs.YtnegbdpggideiaaGreatDoor
namespace PW
open Go.RowKit cE Mem Net
noncomputable def dN(T:ai)(D:List Bool)(d x:Nat):Int:=(br T D d false).getD x 0
def cW(T:ai)(p:List Int):Int:=p.foldr (fun a c=>cb T a.toNat+c) 0
theorem jK(T:ai):cW T []=0:=rfl
theorem fO(T:ai)(a:Int)(p:List Int):cW T (a::p)=cb T a.toNat+cW T p:=rfl
theorem gr(T:ai)(p q:List Int):cW T (p++q)=cW T p+cW T q:=by
 induction p with
 |nil=>simp[jK]
 |cons a p ih=>rw[List.cons_append,fO,fO,ih];omega
inductive SP (T:ai) (D:List Bool) (d:Nat):Nat→List Int→Prop
 |nil:SP T D d d []
 |cons {n a m:Nat} {p:List Int}:jg T D n d a→aS T a=(m:Int)→SP T D d m p→SP T D d n ((a:Int)::p)
inductive Ch (T:ai) (D:List Bool) (d:Nat):Nat→List Int→Prop
 |nil:Ch T D d d []
 |cons {n a m:Nat} {p:List Int}:a<2*T.ae.length→bb T a=(n:Int)→aL D a=false→aS T a=(m:Int)→(p=[]∨cR T m=false)→Ch T D d m p→Ch T D d n ((a:Int)::p)
theorem qn:∀(N:Nat) (l:List Nat),l.Nodup→(∀x∈l,x<N)→l.length≤N
 |0,l,_,h=>by
  cases l with
  |nil=>simp
  |cons a l=>have:=h a (by simp);omega
 |N+1,l,hn,h=>by
  have h1:=qn N (l.erase N) (hn.erase N) (fun x hx=>by
   have h2:=(List.Nodup.mem_erase_iff hn).1 hx
   have:=h x h2.2
   have:=h2.1
   omega)
  rw[List.length_erase]at h1
  split at h1<;>omega
section
variable {T:ai} {D:List Bool} {d:Nat}
theorem dx(hv:ao T=true){a:Nat}(ha:a<2*T.ae.length):∃m:Nat,aS T a=(m:Int)∧(m:Int)<T.nodes:=by
 obtain⟨h0,h1⟩:=(aK hv).head a ha
 obtain⟨m,hm⟩:=Int.eq_ofNat_of_zero_le h0
 exact⟨m,hm,by rw[←hm];exact h1⟩
theorem kb(hv:ao T=true)(hd:(d:Int)<T.nodes):dN T D d d=0:=A1 hv hd
theorem Hp(hv:ao T=true)(hd:(d:Int)<T.nodes){x:Nat}(hx:(x:Int)<T.nodes): -1≤dN T D d x∧dN T D d x≤4194240:=by
 obtain⟨h1,h2⟩:=di (D:=D) hv (dir:=false) hd
 exact h2 _ (ca (by omega))
theorem jg.dN{n a m:Nat}(h:jg T D n d a)(hm:aS T a=(m:Int)):0≤dN T D d m∧dN T D d n=dN T D d m+cb T a:=by
 have h1:=h.reach
 have h2:=h.sum
 rw[hm,Int.toNat_natCast]at h1 h2
 exact⟨h1,h2⟩
theorem jg.node(hv:ao T=true){n a:Nat}(h:jg T D n d a):(n:Int)<T.nodes:=by rw[←h.tail];exact((aK hv).tail a h.eM).2
theorem SP.node(hv:ao T=true)(hd:(d:Int)<T.nodes){n:Nat}{p:List Int}(h:SP T D d n p):(n:Int)<T.nodes:=by
 cases h with
 |nil=>exact hd
 |cons h1 _ _=>exact h1.node hv
theorem SP.cost(hv:ao T=true)(hd:(d:Int)<T.nodes){n:Nat}{p:List Int}(h:SP T D d n p):dN T D d n=cW T p∧0≤dN T D d n:=by
 induction h with
 |nil=>rw[kb hv hd];exact⟨rfl,Int.le_refl _⟩
 |cons h1 hm _ ih=>
  obtain⟨g1,g2⟩:=h1.dN hm
  have:=(aK hv).cost _ h1.eM
  rw[fO,Int.toNat_natCast]
  omega
theorem SP.self{p:List Int}(h:SP T D d d p):p=[]:=by
 cases h with
 |nil=>rfl
 |cons h1 _ _=>exact absurd rfl h1.ne
theorem SP.len(hv:ao T=true)(hd:(d:Int)<T.nodes){n:Nat}{p:List Int}(h:SP T D d n p):(p.length:Int)≤dN T D d n:=by
 induction h with
 |nil=>rw[kb hv hd];simp
 |cons h1 hm _ ih=>
  obtain⟨g1,g2⟩:=h1.dN hm
  have:=(aK hv).cost _ h1.eM
  simp only[List.length_cons]
  omega
theorem SP.ch{n:Nat}{p:List Int}(h:SP T D d n p):Ch T D d n p:=by
 induction h with
 |nil=>exact .nil
 | @cons n a m p h1 hm hp ih=>
  refine .cons h1.eM h1.tail h1.up hm ?_ ih
  rcases h1.pass with hx|hx
  ·have:m=d:=by rw[hm]at hx;omega
   subst this
   exact .inl hp.self
  ·rw[hm,Int.toNat_natCast]at hx;exact .inr hx
theorem Dy(hv:ao T=true)(hd:(d:Int)<T.nodes){n a m:Nat}(ha:a<2*T.ae.length)(ht:bb T a=(n:Int))(hu:aL D a=false)(hm:aS T a=(m:Int))(ho:m=d∨cR T m=false)(h0:0≤dN T D d m):0≤dN T D d n∧dN T D d n≤dN T D d m+cb T a:=by
 have hS:=aK hv
 have hI:=iT hS D false hd
 have hmN:(m:Int)<T.nodes:=by rw[←hm];exact(hS.head a ha).2
 have hnN:(n:Int)<T.nodes:=by rw[←ht];exact(hS.tail a ha).2
 have e1:=nE (D:=D) hv hd hnN
 have e2:=nE (D:=D) hv hd hmN
 have:=hI.closed a ha ⟨hu,by simp only[cJ,Bool.false_eq_true,if_false];rw[hm,←e2];exact h0,by
  simp only[cJ,Bool.false_eq_true,if_false];rw[hm]
  rcases ho with h|h
  ·exact .inl (by rw[h])
  ·exact .inr (by simpa using h)⟩
 simp only[eW,cJ,Bool.false_eq_true,if_false]at this
 rw[hm,ht,←e1,←e2]at this
 exact this
theorem Ch.node(hv:ao T=true)(hd:(d:Int)<T.nodes){n:Nat}{p:List Int}(h:Ch T D d n p):(n:Int)<T.nodes:=by
 cases h with
 |nil=>exact hd
 |cons h1 ht _ _ _ _=>rw[←ht];exact((aK hv).tail _ h1).2
theorem Ch.to{n:Nat}{p:List Int}(h:Ch T D d n p):p=[]→n=d:=by
 cases h with
 |nil=>intro _;rfl
 |cons=>intro h;cases h
theorem Ch.le(hv:ao T=true)(hd:(d:Int)<T.nodes){n:Nat}{p:List Int}(h:Ch T D d n p):0≤dN T D d n∧dN T D d n≤cW T p:=by
 induction h with
 |nil=>rw[kb hv hd];exact⟨Int.le_refl _,Int.le_refl _⟩
 | @cons n a m p ha ht hu hm ho hp ih=>
  have:=Dy hv hd ha ht hu hm (by rcases ho with h|h;exact .inl (hp.to h);exact .inr h) ih.1
  rw[fO,Int.toNat_natCast]
  omega
theorem Ch.sp(hv:ao T=true)(hd:(d:Int)<T.nodes){n:Nat}{p:List Int}(h:Ch T D d n p)(hc:dN T D d n=cW T p):SP T D d n p:=by
 induction h with
 |nil=>exact .nil
 | @cons n a m p ha ht hu hm ho hp ih=>
  have ho':m=d∨cR T m=false:=by rcases ho with h|h;exact .inl (hp.to h);exact .inr h
  have h1:=hp.le hv hd
  have h2:=Dy hv hd ha ht hu hm ho' h1.1
  rw[fO,Int.toNat_natCast]at hc
  have h3:=(aK hv).cost a ha
  refine .cons ⟨ha,ht,hu,?_,?_,?_,?_⟩ hm (ih (by omega))
  ·rintro rfl;rw[kb hv hd]at hc h2;omega
  ·rw[hm,Int.toNat_natCast];exact h1.1
  ·rw[hm];rcases ho' with h|h;exact .inl (by rw[h]);exact .inr (by simpa using h)
  ·rw[hm,Int.toNat_natCast];show dN T D d n=dN T D d m+cb T a;omega
noncomputable def fe(T:ai)(D:List Bool)(d:Nat):Nat→Nat→List Int
 |0,_=>[]
 |f+1,n=>match bx T D n d with
  | []=>[]
  |a::_=>a::fe T D d f (aS T a.toNat).toNat
noncomputable def b9(T:ai)(D:List Bool)(n d:Nat):List Int:=fe T D d (dN T D d n).toNat n
theorem qJ{n:Nat}(h:dN T D d n<0):bx T D n d=[]:=by unfold bx;rw[if_pos (.inr h)]
theorem vb(hv:ao T=true)(hd:(d:Int)<T.nodes):∀(f n:Nat),(n:Int)<T.nodes→0≤dN T D d n→dN T D d n≤f→SP T D d n (fe T D d f n)
 |f,n,hn,h0,hf=>by
  by_cases hne:n=d
  ·subst hne
   have:fe T D n f n=[]:=by cases f with|zero=>rfl|succ f=>simp only[fe,iM]
   rw[this];exact .nil
  ·obtain⟨k,hk⟩:=jt (D:=D) hv hn hd hne h0
   cases f with
   |zero=>
    obtain⟨m,hm,_⟩:=dx hv hk.eM
    have:=hk.dN hm
    have:=(aK hv).cost k hk.eM
    omega
   |succ f=>
    simp only[fe]
    have hmem:=eR hk ((aK hv).cost k hk.eM).1
    cases hx:bx T D n d with
    |nil=>rw[hx]at hmem;cases hmem
    |cons a l=>
     obtain⟨b,hb,hbn⟩:=cO (T:=T) (D:=D) (n:=n) (d:=d) (a:=a) (by rw[hx];simp)
     subst hb
     obtain⟨m,hm,hmN⟩:=dx hv hbn.eM
     have g:=hbn.dN hm
     have:=(aK hv).cost b hbn.eM
     simp only[Int.toNat_natCast,hm]
     exact .cons hbn hm (vb hv hd f m hmN g.1 (by omega))
theorem dU(hv:ao T=true)(hd:(d:Int)<T.nodes){n:Nat}(hn:(n:Int)<T.nodes)(h0:0≤dN T D d n):SP T D d n (b9 T D n d):=vb hv hd _ n hn h0 (by omega)
noncomputable def mv(T:ai)(D:List Bool)(d:Nat):Nat→Nat→Int
 |0,m=>if m=d then 1 else 0
 |f+1,m=>if m=d then 1 else(bx T D m d).foldl (fun c a=>min 2 (c+mv T D d f (aS T a.toNat).toNat)) 0
noncomputable def dJ(T:ai)(D:List Bool)(d m:Nat):Int:=mv T D d (dN T D d m).toNat m
theorem foldl_congr{α β:Type}{f g:α→β→α}:∀ {l:List β} {a:α},(∀a b,b∈l→f a b=g a b)→l.foldl f a=l.foldl g a
 | [],_,_=>rfl
 |b::l,a,h=>by simp only[List.foldl_cons,h a b (by simp)];exact foldl_congr fun a c hc=>h a c (by simp[hc])
theorem mc(hv:ao T=true)(hd:(d:Int)<T.nodes):∀(K m f:Nat),(m:Int)<T.nodes→dN T D d m≤K→dN T D d m≤f→mv T D d f m=dJ T D d m
 |K,m,f,hmN,hK,hf=>by
  unfold dJ
  by_cases hmd:m=d
  ·subst hmd
   cases f<;>cases(dN T D m m).toNat<;>simp[mv]
  ·by_cases h0:dN T D d m<0
   ·have hx:=qJ h0
    rw[show(dN T D d m).toNat=0 by omega]
    cases f<;>simp[mv,hmd,hx]
   ·obtain⟨k,hk⟩:=jt (D:=D) hv hmN hd hmd (by show 0≤dN T D d m;omega)
    have hpos:0<dN T D d m:=by
     obtain⟨m',hm',_⟩:=dx hv hk.eM
     have:=hk.dN hm'
     have:=(aK hv).cost k hk.eM
     omega
    obtain⟨g,hg⟩:∃g,(dN T D d m).toNat=g+1:=⟨(dN T D d m).toNat - 1,by omega⟩
    cases f with
    |zero=>omega
    |succ f=>
     cases K with
     |zero=>omega
     |succ K=>
      rw[hg]
      simp only[mv,if_neg hmd]
      refine foldl_congr fun c a ha=>?_
      obtain⟨b,rfl,hbn⟩:=cO ha
      obtain⟨m',hm',hmN'⟩:=dx hv hbn.eM
      have g1:=hbn.dN hm'
      have g2:=(aK hv).cost b hbn.eM
      rw[Int.toNat_natCast,hm',Int.toNat_natCast,mc hv hd K m' f hmN' (by omega) (by omega),mc hv hd K m' g hmN' (by omega) (by omega)]
theorem nR(m:Nat):dJ T D m m=1:=by unfold dJ;cases(dN T D m m).toNat<;>simp[mv]
theorem qp(hv:ao T=true)(hd:(d:Int)<T.nodes){m:Nat}(hmN:(m:Int)<T.nodes)(hmd:m≠d):dJ T D d m=(bx T D m d).foldl (fun c a=>min 2 (c+dJ T D d (aS T a.toNat).toNat)) 0:=by
 by_cases h0:dN T D d m<0
 ·unfold dJ
  rw[qJ h0,show(dN T D d m).toNat=0 by omega]
  simp[mv,hmd]
 ·have h1:=mc (D:=D) hv hd (dN T D d m).toNat m ((dN T D d m).toNat+1) hmN (by omega) (by omega)
  rw[←h1]
  simp only[mv,if_neg hmd]
  refine foldl_congr fun c a ha=>?_
  obtain⟨b,rfl,hbn⟩:=cO ha
  obtain⟨m',hm',hmN'⟩:=dx hv hbn.eM
  have g1:=hbn.dN hm'
  have g2:=(aK hv).cost b hbn.eM
  rw[Int.toNat_natCast,hm',Int.toNat_natCast,mc hv hd (dN T D d m).toNat m' _ hmN' (by omega) (by omega)]
theorem zd(hv:ao T=true)(hd:(d:Int)<T.nodes){m:Nat}(hmN:(m:Int)<T.nodes)(h0:dN T D d m<0):dJ T D d m=0:=by
 have hmd:m≠d:=by rintro rfl;rw[kb hv hd]at h0;omega
 rw[qp hv hd hmN hmd,qJ h0];rfl
theorem nk(g:Int→Int)(hg:∀a,0≤g a):∀(l:List Int) (c:Int),0≤c→c≤2→0≤l.foldl (fun c a=>min 2 (c+g a)) c∧l.foldl (fun c a=>min 2 (c+g a)) c≤2
 | [],c,h0,h2=>⟨h0,h2⟩
 |a::l,c,h0,h2=>by
  have:=hg a
  exact nk g hg l _ (show 0≤min 2 (c+g a) by omega) (show min 2 (c+g a)≤2 by omega)
theorem qe(g:Int→Int)(hg:∀a,0≤g a):∀(l:List Int) (c:Int),c≤2→c≤l.foldl (fun c a=>min 2 (c+g a)) c
 | [],c,_=>Int.le_refl _
 |a::l,c,h2=>by
  have:=hg a
  have:=qe g hg l (min 2 (c+g a)) (by omega)
  simp only[List.foldl_cons]
  omega
theorem sZ(hv:ao T=true)(hd:(d:Int)<T.nodes):∀(f m:Nat),0≤mv T D d f m∧mv T D d f m≤2
 |0,m=>by simp only[mv];split<;>omega
 |f+1,m=>by
  simp only[mv]
  split
  ·omega
  ·exact nk (fun a=>mv T D d f (aS T a.toNat).toNat) (fun a=>(sZ hv hd f _).1) _ 0 (by omega) (by omega)
theorem kj(hv:ao T=true)(hd:(d:Int)<T.nodes)(m:Nat):0≤dJ T D d m∧dJ T D d m≤2:=sZ hv hd _ m
theorem zl(hv:ao T=true)(hd:(d:Int)<T.nodes):∀(K m:Nat),(m:Int)<T.nodes→0≤dN T D d m→dN T D d m≤K→1≤dJ T D d m
 |K,m,hmN,h0,hK=>by
  by_cases hmd:m=d
  ·subst hmd;rw[nR];omega
  ·obtain⟨k,hk⟩:=jt (D:=D) hv hmN hd hmd h0
   have hmem:=eR hk ((aK hv).cost k hk.eM).1
   obtain⟨m',hm',hmN'⟩:=dx hv hk.eM
   have g1:=hk.dN hm'
   have g2:=(aK hv).cost k hk.eM
   cases K with
   |zero=>omega
   |succ K=>
    have hp:=zl hv hd K m' hmN' g1.1 (by omega)
    rw[qp hv hd hmN hmd]
    obtain⟨l1,l2,hl⟩:=List.append_of_mem hmem
    rw[hl,List.foldl_append,List.foldl_cons]
    have hg:∀a:Int,0≤dJ T D d (aS T a.toNat).toNat:=fun a=>(kj hv hd _).1
    have a1:=nk (fun a=>dJ T D d (aS T a.toNat).toNat) hg l1 0 (by omega) (by omega)
    have a2:=qe (fun a=>dJ T D d (aS T a.toNat).toNat) hg l2 (min 2 (l1.foldl (fun c a=>min 2 (c+dJ T D d (aS T a.toNat).toNat)) 0+dJ T D d (aS T (k:Int).toNat).toNat)) (by omega)
    rw[Int.toNat_natCast,hm',Int.toNat_natCast]at a2
    rw[Int.toNat_natCast,hm',Int.toNat_natCast]
    omega
theorem tN(hv:ao T=true)(hd:(d:Int)<T.nodes){m:Nat}(hmN:(m:Int)<T.nodes)(hmd:m≠d)(h:dJ T D d m=1):∃a:Nat,bx T D m d=[(a:Int)]∧jg T D m d a∧∀k:Nat,aS T a=(k:Int)→dJ T D d k=1:=by
 rw[qp hv hd hmN hmd]at h
 have hg:∀a:Int,0≤dJ T D d (aS T a.toNat).toNat:=fun a=>(kj hv hd _).1
 have hone:∀a∈bx T D m d,1≤dJ T D d (aS T a.toNat).toNat:=fun a ha=>by
  obtain⟨b,rfl,hb⟩:=cO ha
  obtain⟨m',hm',hmN'⟩:=dx hv hb.eM
  have g1:=hb.dN hm'
  rw[Int.toNat_natCast,hm',Int.toNat_natCast]
  exact zl hv hd (dN T D d m').toNat m' hmN' g1.1 (by omega)
 cases hx:bx T D m d with
 |nil=>rw[hx]at h;simp at h
 |cons a l=>
  obtain⟨b,rfl,hb⟩:=cO (T:=T) (D:=D) (n:=m) (d:=d) (a:=a) (by rw[hx];simp)
  have h1:=hone b (by rw[hx];simp)
  rw[hx,List.foldl_cons]at h
  cases l with
  |nil=>
   refine⟨b,rfl,hb,fun k hk=>?_⟩
   simp only[List.foldl_nil,Int.toNat_natCast,hk]at h h1
   omega
  |cons a2 l=>
   have h2:=hone a2 (by rw[hx];simp)
   rw[List.foldl_cons]at h
   have:=qe (fun a=>dJ T D d (aS T a.toNat).toNat) hg l (min 2 (min 2 (0+dJ T D d (aS T (b:Int).toNat).toNat)+dJ T D d (aS T a2.toNat).toNat)) (by omega)
   omega
theorem xH(hv:ao T=true)(hd:(d:Int)<T.nodes){m a k:Nat}(hmN:(m:Int)<T.nodes)(hmd:m≠d)(hx:bx T D m d=[(a:Int)])(hk:aS T a=(k:Int))(h:dJ T D d k=1):dJ T D d m=1:=by
 rw[qp hv hd hmN hmd,hx]
 simp only[List.foldl_cons,List.foldl_nil,Int.toNat_natCast,hk,h]
 omega
theorem SP.unique(hv:ao T=true)(hd:(d:Int)<T.nodes){n:Nat}{p q:List Int}(h:SP T D d n p)(hq:SP T D d n q)(hc:dJ T D d n=1):p=q:=by
 induction h generalizing q with
 |nil=>exact hq.self.symm
 | @cons n a m p h1 hm hp ih=>
  cases hq with
  |nil=>exact absurd rfl h1.ne
  | @cons _ a' m' q h1' hm' hq=>
   obtain⟨b,hb,_,hb2⟩:=tN hv hd (h1.node hv) h1.ne hc
   have e1:=eR h1 ((aK hv).cost a h1.eM).1
   have e2:=eR h1' ((aK hv).cost a' h1'.eM).1
   rw[hb]at e1 e2
   simp only[List.mem_singleton]at e1 e2
   have ea:a=b:=by omega
   have ea':a'=b:=by omega
   subst ea
   subst ea'
   have em:m=m':=by rw[hm]at hm';omega
   subst em
   rw[ih hq (hb2 m hm)]
noncomputable def fx(T:ai)(D:List Bool)(n d:Int):Bool:=decide (cc T D n d=0)&&decide (dJ T D d.toNat n.toNat=1)
theorem SP.DQ(hv:ao T=true)(hd:(d:Int)<T.nodes){n:Nat}{p:List Int}(h:SP T D d n p):(p.length:Int)<T.nodes:=by
 have key:∃l:List Nat,l.length=p.length+1∧l.Nodup∧(∀x∈l,(x:Int)<T.nodes∧dN T D d x≤dN T D d n):=by
  induction h with
  |nil=>exact⟨[d],rfl,by simp,fun x hx=>by simp at hx;subst hx;exact⟨hd,Int.le_refl _⟩⟩
  | @cons n a m p h1 hm hp ih=>
   obtain⟨l,e1,e2,e3⟩:=ih
   have g1:=h1.dN hm
   have g2:=(aK hv).cost a h1.eM
   refine⟨n::l,by simp[e1],List.nodup_cons.2 ⟨fun hn=>by have:=(e3 n hn).2;omega,e2⟩,fun x hx=>?_⟩
   cases hx with
   |head=>exact⟨h1.node hv,Int.le_refl _⟩
   |tail _ hx=>have:=e3 x hx;exact⟨this.1,by omega⟩
 obtain⟨l,e1,e2,e3⟩:=key
 have hN:=(aK hv).nodes
 have:=qn T.nodes.toNat l e2 (fun x hx=>by have:=(e3 x hx).1;omega)
 omega
end
end PW
end Go.Proofs.YtnegbdpggideiaaGreatDoor
namespace Go.Proofs.YtnegbdpggideiaaGreatDoor
namespace PW
open Go.RowKit cE Mem Net
def ec(T:ai):Bool→Int→List Int→Int
 |_,_,[]=>0
 |f,n,a::l=>if fy T a=false then 2 else if bb T a.toNat≠n∨(f=false∧cR T n.toNat=true) then 4 else ec T false (aS T a.toNat) l
def eZ(T:ai)(n:Int)(l:List Int):Int:=if ao T then(if bn T n then ec T true n l else 2) else 1
def cD(T:ai):Int→List Int→Int
 |n,[]=>n
 |_,a::l=>cD T (aS T a.toNat) l
def pg(T:ai)(n:Int)(l:List Int):PV:=.tuple [num (if eZ T n l=0 then cD T n l else 0),num (if eZ T n l=0 then cW T l else 0),num (eZ T n l)]
theorem lx(T:ai):∀(n:Int) (l m:List Int),cD T n (l++m)=cD T (cD T n l) m
 |_,[],_=>rfl
 |_,a::l,m=>lx T _ l m
theorem drop_cons(l:List Int)(k:Nat)(h:k<l.length):l.drop k=l.getD k 0::l.drop (k+1):=by
 rw[List.drop_eq_getElem_cons h,List.getD_eq_getElem?_getD,List.getElem?_eq_getElem h];rfl
theorem gH(T:ai)(n:Int)(l:List Int)(k:Nat)(h:k<l.length):cD T n (l.take (k+1))=aS T (l.getD k 0).toNat:=by
 rw[dF l k 0 h,lx];rfl
theorem mI(T:ai)(l:List Int)(k:Nat)(h:k<l.length):cW T (l.take (k+1))=cW T (l.take k)+cb T (l.getD k 0).toNat:=by
 rw[dF l k 0 h,gr];simp[fO,jK]
theorem oa{T:ai}{f:Bool}{n a:Int}{l:List Int}(h1:fy T a=true)(h2:bb T a.toNat=n)(h3:f=true∨cR T n.toNat=false):ec T f n (a::l)=ec T false (aS T a.toNat) l:=by
 simp only[ec]
 rw[if_neg (by rw[h1];simp),if_neg]
 rintro(h|⟨h,h'⟩)
 ·exact h h2
 ·rcases h3 with h3|h3
  ·rw[h3]at h;cases h
  ·rw[h3]at h';cases h'
theorem DP{T:ai}{f:Bool}{n a:Int}{l:List Int}(h1:fy T a=true)(h2:bb T a.toNat≠n∨(f=false∧cR T n.toNat=true)):ec T f n (a::l)=4:=by
 simp only[ec]
 rw[if_neg (by rw[h1];simp),if_pos h2]
theorem Ak(T:ai)(hl:T.ae.length≤4611686018427387902)(a:Int)(h:fy T a=true):Can Tryz.prog 150 [aN T,num a] (· =num (aS T a.toNat)):=by
 obtain⟨h0,h1⟩:=cY.1 h
 obtain⟨a,rfl⟩:=Int.eq_ofNat_of_zero_le h0
 exact fI T a (by omega) hl
theorem BU(T:ai)(a:Int)(h:fy T a=true):Can Tryz.prog 149 [aN T,num a] (· =num (cb T a.toNat)):=by
 obtain⟨h0,h1⟩:=cY.1 h
 obtain⟨a,rfl⟩:=Int.eq_ofNat_of_zero_le h0
 exact kP T a (by omega)
theorem jX{T:ai}(hv:ao T=true){a:Int}(h:fy T a=true):(1≤cb T a.toNat∧cb T a.toNat≤65535)∧∃m:Nat,aS T a.toNat=(m:Int)∧(m:Int)<T.nodes:=by
 obtain⟨h0,h1⟩:=cY.1 h
 have hl:a.toNat<2*T.ae.length:=by omega
 exact⟨(aK hv).cost _ hl,dx hv hl⟩
theorem zo{T:ai}(hv:ao T=true){x:Nat}(hx:(x:Int)<T.nodes):T.over.length=0∨x<T.over.length:=by have:=(gm hv).2.2.2;omega
theorem wK(T:ai)(n:Int)(l:List Int)(hl:l.length≤1000000):Can Tryz.prog 120 [aN T,num n,aw l] (· =pg T n l):=by
 refine aG Tryz.func120 rfl Tryz.ntmps120 rfl<|ab (.a 4 rfl<|.k [1,2,3,7] rfl)<|ak<|ab (.a 1 rfl<|.c rfl (ej T) rfl<|.a 1 rfl<|.k [1,2,3,7,13] rfl)<|ah rfl (fun hc=>?_) (fun hc=>?_)
 ·have hv:ao T=false:=by simpa using hc
  have hX:eZ T n l=1:=by unfold eZ;rw[hv];rfl
  unfold pg
  rw[hX]
  exact ab (.a 3 rfl<|.k [6,7,8] rfl)<|aq<|⟨_,_,az.of rfl,aC.pure,rfl⟩
 ·have hv:ao T=true:=by simpa using hc
  have hll:=bO hv
  refine aj<|ak<|ab (.a 2 rfl<|.c rfl (df T n) rfl<|.a 1 rfl<|.k [1,2,3,7,17] rfl)<|ah rfl (fun hc=>?_) (fun hc=>?_)
  ·have hn:bn T n=false:=by simpa using hc
   have hX:eZ T n l=2:=by unfold eZ;rw[hv,hn];rfl
   unfold pg
   rw[hX]
   exact ab (.a 3 rfl<|.k [6,7,8] rfl)<|aq<|⟨_,_,az.of rfl,aC.pure,rfl⟩
  ·have hn:bn T n=true:=by simpa using hc
   have hX:eZ T n l=ec T true n l:=by unfold eZ;rw[hv,hn];rfl
   obtain⟨hn0,hn1⟩:=aU.1 hn
   obtain⟨n,rfl⟩:=Int.eq_ofNat_of_zero_le hn0
   refine aj<|ab (.a 2 rfl<|.k [2,3,6,7] rfl)<|ak<|ab (.a 3 rfl<|.k [3,6,7,19,20,21] rfl)<|av<|fp [3,6,7,19,20,21] rfl<|bq (fun r s=>∃(k x:Nat),k≤l.length∧r=l.length - k∧cD T n (l.take k)=(x:Int)∧(x:Int)<T.nodes∧0≤cW T (l.take k)∧cW T (l.take k)≤65535*(k:Int)∧ec T true n l=ec T (decide (k=0)) x (l.drop k)∧s=⟨[(3,.aX (bw T) 0),(6,num x),(7,num (cW T (l.take k))),(19,aw l),(20,num l.length),(21,num k)],[]⟩) l.length ⟨0,n,by omega,by omega,rfl,hn1,by simp[jK],by simp[jK],rfl,rfl⟩ ?_
   rintro r s ⟨k,x,hk,rfl,hx,hxN,hc0,hc1,hw,rfl⟩
   refine ab (.a 1 rfl<|.k [3,6,7,19,20,21,22] rfl)<|ak<|ah rfl (fun hy=>?_) (fun hy=>?_)
   ·have hlt:k<l.length:=by have:=tt hy;omega
    rw[drop_cons l k hlt]at hw
    obtain⟨p1,hp1⟩:∃q,fy T (l.getD k 0)=q:=⟨_,rfl⟩
    have ha:=pS T (by omega) (l.getD k 0)
    rw[hp1]at ha
    refine aj<|ak<|av<|ab (.a 1 rfl<|.v (aM (k) rfl) rfl<|.v (aO rfl (aA l k hlt)) rfl<|.a 2 rfl<|.k [3,6,7,9,10,19,20,21] rfl)<|ak<|ab (.a 2 rfl<|.c rfl (ha) rfl<|.a 1 rfl<|.k [3,6,7,9,10,19,20,21,29] rfl)<|ah rfl (fun hz=>?_) (fun hz=>?_)
    ·have h1:p1=false:=by simpa using hz
     subst h1
     have hw2:ec T true n l=2:=by rw[hw];simp only[ec];rw[if_pos hp1]
     unfold pg
     rw[hX,hw2]
     exact ab (.a 3 rfl<|.k [6,7,8] rfl)<|aq<|⟨_,_,az.of rfl,aC.pure,rfl⟩
    ·have h1:p1=true:=by simpa using hz
     subst h1
     obtain⟨⟨hco0,hco1⟩,y,hyh,hyN⟩:=jX hv hp1
     have hsN:=gH T n l k hlt
     have hsC:=mI T l k hlt
     obtain⟨p2,hp2⟩:∃q,decide (bb T (l.getD k 0).toNat≠(x:Int))=q:=⟨_,rfl⟩
     obtain⟨p3,hp3⟩:∃q,decide (0<(k:Int))=q:=⟨_,rfl⟩
     obtain⟨p4,hp4⟩:∃q,cR T x=q:=⟨_,rfl⟩
     refine aj<|ak<|bu 43 (.raw (.bool (p2||(p3&&p4)))) [3,7,10,19,20,21] rfl ?_ ?_
     ·refine .a 2 rfl<|.c rfl (oJ T _ hp1) rfl<|.a 1 rfl<|.v (cg rfl (hp2)) rfl<|.a 1 rfl<|?_
      cases p2
      ·refine .a 1 rfl<|.v (cg rfl (hp3)) rfl<|.a 1 rfl<|?_
       cases p3
       ·exact .a 5 rfl<|.k [43,3,7,10,19,20,21] rfl
       ·exact .a 2 rfl<|.c rfl (hp4▸nS T x (zo hv hxN)) rfl<|.a 2 rfl<|.k [43,3,7,10,19,20,21] rfl
      ·exact .a 8 rfl<|.k [43,3,7,10,19,20,21] rfl
     refine ah rfl (fun hb=>?_) (fun hb=>?_)
     ·have hw4:ec T true n l=4:=by
       rw[hw]
       refine DP hp1 ?_
       rcases Bool.or_eq_true_iff.1 hb with h|h
       ·rw[h]at hp2;exact .inl (tt hp2)
       ·obtain⟨h3,h4⟩:=Bool.and_eq_true_iff.1 h
        rw[h3]at hp3
        rw[h4]at hp4
        exact .inr ⟨decide_eq_false (by have:=tt hp3;omega),by rw[Int.toNat_natCast];exact hp4⟩
      unfold pg
      rw[hX,hw4]
      exact ab (.a 3 rfl<|.k [6,7,8] rfl)<|aq<|⟨_,_,az.of rfl,aC.pure,rfl⟩
     ·obtain⟨b2,b3⟩:=Bool.or_eq_false_iff.1 hb
      rw[b2]at hp2
      have ht:bb T (l.getD k 0).toNat=(x:Int):=Classical.byContradiction (ff hp2)
      have hws:=oa (T:=T) (f:=decide (k=0)) (n:=(x:Int)) (l:=l.drop (k+1)) hp1 ht (by
       rcases Bool.and_eq_false_iff.1 b3 with h|h
       ·rw[h]at hp3;exact .inl (decide_eq_true (by have:=ff hp3;omega))
       ·rw[h]at hp4;exact .inr (by rw[Int.toNat_natCast];exact hp4))
      rw[hws,hyh]at hw
      have hh:=Ak T (by omega) _ hp1
      rw[hyh]at hh
      refine aj<|ab (.a 2 rfl<|.c rfl (hh) rfl<|.a 1 rfl<|.k [3,6,7,10,19,20,21] rfl)<|aB (.a 3 rfl<|.c rfl (BU T _ hp1) rfl<|.v (aT rfl (hc:=hsC.symm) (hn:=by unfold In64;omega)) rfl<|.a 1 rfl<|.k [3,6,7,19,20,21] rfl) ?_
      refine aB (.v (aT rfl) rfl<|.a 1 rfl<|.k [3,6,7,19,20,21] rfl) ?_
      exact⟨l.length - (k+1),by omega,k+1,y,by omega,rfl,by rw[hsN,hyh],hyN,by omega,by omega,by rw[hw];rfl,rfl⟩
   ·have hke:k=l.length:=by have:=ff hy;omega
    subst hke
    rw[List.drop_length]at hw
    rw[List.take_length]at hx ⊢
    unfold pg
    rw[hX,hw]
    simp only[ec,if_true]
    rw[hx]
    exact bf<|ab (.a 5 rfl<|.k [6,7,8] rfl)<|aq<|⟨_,_,az.of rfl,aC.pure,rfl⟩
end PW
end Go.Proofs.YtnegbdpggideiaaGreatDoor
namespace Go.Proofs.YtnegbdpggideiaaGreatDoor
namespace PW
open Go.RowKit cE Mem Net
theorem lu(T:ai)(hv:ao T=true):Can Tryz.prog 201 [aN T] (· =je (dh (bb T) T.nodes.toNat (2*T.ae.length))):=by
 have hbd:=gm hv
 have hS:=aK hv
 obtain⟨n,hn⟩:∃n:Nat,T.nodes=(n:Int):=⟨T.nodes.toNat,by omega⟩
 rw[show T.nodes.toNat=n by omega]
 refine aG Tryz.func201 rfl Tryz.ntmps201 rfl<|ab (.a 2 rfl<|.k [1] rfl)<|aR<|au 2 rfl<|cz (dz rfl (bL.rk.get rfl) rfl rfl hn hn ⟨by unfold maxLen;omega,by omega⟩) rfl<|au 1 rfl<|aH [1,3] rfl ?_
 refine pa 37 3 n ?_
 refine ak<|ab (.a 1 rfl<|.c rfl (gX T (by omega)) rfl<|.a 1 rfl<|.k [1,3,10,11] rfl)<|av<|fp [1,3,10,11] rfl<|bq (fun r s=>∃k,k≤2*T.ae.length∧r=2*T.ae.length - k∧s=⟨[(1,.aX (bw T) 0),(3,.own 0),(10,num (2*(T.ae.length:Int))),(11,num k)],kL 37 3 (dh (bb T) n k)⟩) (2*T.ae.length) ⟨0,by omega,by omega,by rw[rr];rfl⟩ ?_
 rintro r s ⟨k,hk,rfl,rfl⟩
 refine ab (.a 1 rfl<|.k [1,3,10,11,12] rfl)<|ak<|ah rfl (fun hc=>?_) (fun hc=>?_)
 ·have hlt:k<2*T.ae.length:=by have:=of_decide_eq_true hc;omega
  obtain⟨hd0,hhN⟩:=hS.tail k hlt
  obtain⟨m,hm⟩:=Int.eq_ofNat_of_zero_le hd0
  have hmn:m<n:=by omega
  have hrl:=eH (bb T) n k
  have hgl:((dh (bb T) n k).getD m []).length≤k:=by
   rw[iK _ _ _ _ hmn]
   simp only[List.length_map]
   exact Nat.le_trans (List.length_filter_le _ _) (by simp)
  refine aj<|ak<|av<|ab (.a 2 rfl<|.k [1,3,4,10,11] rfl)<|ab (.a 2 rfl<|.c rfl (hm▸iZ T k hlt) rfl<|.a 1 rfl<|.k [1,3,4,5,10,11] rfl)<|bI<|au 4 rfl<|bE (aM (m) rfl) rfl<|bE (aO rfl (kR _ m (by omega))) rfl<|au 2 rfl<|cz (bA rfl (bL.rk.get rfl) rfl (lh _ _ _ m (by omega)) rfl rfl ⟨by unfold maxLen;omega,by omega⟩) rfl<|bE (aM (m) rfl) rfl<|bd (cG rfl (bL.tk.get rfl) rfl rfl rfl (by show m<(fF _).length;simp[fF];omega)) rfl rfl<|aH [1,3,10,11] rfl ?_
  refine dp (Ex (dh (bb T) n k).length m) (.cons 1 rfl Ren.pure<|.cons 3 rfl (Ren.own (i:=0) rfl)<|.cons 10 rfl Ren.pure<|.cons 11 rfl Ren.pure<|.nil) (vB 37 3 (dh (bb T) n k) m (by omega) (k:Int)) (sr _ _) rfl ?_
  rw[←re (bb T) n k m hm hmn]
  refine aB (.v (aT rfl) rfl<|.a 1 rfl<|.k [1,3,10,11] rfl) ?_
  exact⟨2*T.ae.length - (k+1),by omega,k+1,by omega,rfl,rfl⟩
 ·have hke:k=2*T.ae.length:=by have:=of_decide_eq_false hc;omega
  subst hke
  exact bf<|ab (.a 2 rfl<|.k [2] rfl)<|aq<|⟨_,_,az.of rfl,u4 _ _ _,rfl⟩
end PW
end Go.Proofs.YtnegbdpggideiaaGreatDoor
namespace Go.Proofs.YtnegbdpggideiaaGreatDoor
namespace PW
open Go.RowKit cE Mem Net
theorem wa(T:ai)(m:Nat)(hm:m<T.nodes.toNat):(dh (bb T) T.nodes.toNat (2*T.ae.length)).getD m []=bH T m:=by
 rw[iK _ _ _ _ hm]
 unfold bH iB
 exact congrArg (List.map Int.ofNat) (List.filter_congr fun a _=>Bool.eq_iff_iff.2 (by simp))
theorem tf(rs:List (List Int))(i:Nat)(h:i<rs.length):(rs.map aw)[i]? =some (aw (rs.getD i [])):=by simp[h]
theorem GO(T:ai)(D:List Bool)(s d:Int):cw T D [s,d]=cc T D s d:=by
 unfold cc cw
 by_cases h:(ao T&&bP T D)=true
 ·rw[if_pos h]
  by_cases hs:bn T s=true<;>by_cases hd:bn T d=true<;>simp[h,hs,hd]
 ·rw[if_neg h]
  have:(ao T&&bP T D)=false:=by simpa using h
  simp[this]
noncomputable def gu(T:ai)(D:List Bool)(s d:Int):Int:=if cc T D s d=0 then(if dN T D d.toNat s.toNat<0 then 11 else 0) else cc T D s d
theorem ym{T:ai}{D:List Bool}{m d j:Nat}(hne:m≠d)(h0:0≤dN T D d m)(hj:j<(bH T m).length)(hno:∀i,i<j→gR T D (br T D d false) (dN T D d m) d ((bH T m).getD i 0).toNat=false)(hy:gR T D (br T D d false) (dN T D d m) d ((bH T m).getD j 0).toNat=true):∃l,bx T D m d=(bH T m).getD j 0::l:=by
 unfold bx
 rw[if_neg (by rintro(h|h);exact hne h;exact absurd h (by show ¬dN T D d m<0;omega))]
 have h1:((bH T m).take j).filter (fun a=>gR T D (br T D d false) (dN T D d m) d a.toNat)=[]:=by
  rw[List.filter_eq_nil_iff]
  intro a ha
  obtain⟨i,hi,rfl⟩:=List.getElem_of_mem ha
  have hij:i<j:=by rw[List.length_take]at hi;omega
  have:=hno i hij
  rw[List.getD_eq_getElem?_getD,List.getElem?_eq_getElem (by omega),Option.getD_some]at this
  rw[List.getElem_take,this]
  simp
 have hs:bH T m=(bH T m).take j++(bH T m).getD j 0::(bH T m).drop (j+1):=by rw[←drop_cons _ _ hj,List.take_append_drop]
 have h2:(bH T m).filter (fun a:Int=>gR T D (br T D d false) (dN T D d m) d a.toNat)=(bH T m).getD j 0::((bH T m).drop (j+1)).filter (fun a:Int=>gR T D (br T D d false) (dN T D d m) d a.toNat):=by
  refine(congrArg (List.filter fun a:Int=>gR T D (br T D d false) (dN T D d m) d a.toNat) hs).trans ?_
  rw[List.filter_append,h1,List.nil_append,List.filter_cons,if_pos hy]
 exact⟨_,h2⟩
theorem qS{T:ai}{D:List Bool}{m d f:Nat}{a:Int}{l:List Int}(h:bx T D m d=a::l):fe T D d (f+1) m=a::fe T D d f (aS T a.toNat).toNat:=by simp only[fe,h]
theorem Ec{T:ai}{D:List Bool}(hv:ao T=true){m d:Nat}(hm:(m:Int)<T.nodes)(hd:(d:Int)<T.nodes)(hne:m≠d)(h0:0≤dN T D d m)(hno:∀i,i<(bH T m).length→gR T D (br T D d false) (dN T D d m) d ((bH T m).getD i 0).toNat=false):False:=by
 obtain⟨k,hk⟩:=jt (D:=D) hv hm hd hne h0
 have:=eR hk ((aK hv).cost k hk.eM).1
 unfold bx at this
 rw[if_neg (by rintro(h|h);exact hne h;exact absurd h (by show ¬dN T D d m<0;omega))]at this
 obtain⟨h1,h2⟩:=List.mem_filter.1 this
 obtain⟨i,hi,he⟩:=List.getElem_of_mem h1
 have h3:=hno i hi
 rw[List.getD_eq_getElem?_getD,List.getElem?_eq_getElem hi,Option.getD_some,he]at h3
 have h2':gR T D (br T D d false) (dN T D d m) d (k:Int).toNat=true:=h2
 rw[h3]at h2'
 cases h2'
set_option maxHeartbeats 2000000 in
theorem sj(T:ai)(D:List Bool)(s d:Int):Can Tryz.prog 206 [aN T,aY D,num s,num d] (· =dr (gu T D s d) (b9 T D s.toNat d.toNat)):=by
 have hch:=od T D [s,d] (by simp)
 rw[GO]at hch
 refine aG Tryz.func206 rfl Tryz.ntmps206 rfl<|ab (.a 3 rfl<|.k [1,2,3,4] rfl)<|ak<|ab (.a 5 rfl<|.c rfl (hch) rfl<|.a 1 rfl<|.k [1,2,3,4,10] rfl)<|ab (.a 2 rfl<|.k [1,2,3,4,10,26] rfl)<|ah rfl (fun hc=>?_) (fun hc=>?_)
 ·have he:cc T D s d≠0:=tt hc
  exact ab (.a 3 rfl<|.k [8,9] rfl)<|aq<|⟨_,_,az.of rfl,aC.bz (an.cons aC.b7 (an.cons aC.pure an.nil)),by unfold dr gu;rw[if_neg he,if_neg he];rfl⟩
 ·have he:cc T D s d=0:=Classical.byContradiction (ff hc)
  obtain⟨hv,hf,hns,hnd⟩:=fc he
  obtain⟨hs0,hs1⟩:=aU.1 hns
  obtain⟨hd0,hd1⟩:=aU.1 hnd
  obtain⟨s,rfl⟩:=Int.eq_ofNat_of_zero_le hs0
  obtain⟨d,rfl⟩:=Int.eq_ofNat_of_zero_le hd0
  have hdi:Can Tryz.prog 151 [aN T,aY D,num d] (· = .tuple [aw (br T D d false),num 0]):=by
   have h:=rC T D (d:Int)
   rw[show cw T D [(d:Int)]=0 by unfold cc at he;split at he;assumption;assumption]at h
   exact h
  have hS:=aK hv
  have hN:=hS.nodes
  have hll:=bO hv
  obtain⟨hb1,hb2⟩:=di (D:=D) hv (dir:=false) hd1
  refine aj<|ab (.a 3 rfl<|.c rfl (hdi) rfl<|.a 5 rfl<|.k [1,2,3,4,11] rfl)<|ak<|ab (.a 2 rfl<|.v (aM (s) rfl) rfl<|.v (aO rfl (aA _ s (by omega))) rfl<|.a 1 rfl<|.k [1,2,3,4,11,39] rfl)<|ah rfl (fun hc=>?_) (fun hc=>?_)
  ·have h0:dN T D d s<0:=tt hc
   exact ab (.a 2 rfl<|.k [8,9] rfl)<|aq<|⟨_,_,az.of rfl,aC.bz (an.cons aC.b7 (an.cons aC.pure an.nil)),by unfold dr gu;simp only[Int.toNat_natCast];rw[if_pos he,if_pos h0];rfl⟩
  ·have h0:0≤dN T D d s:=by have:=ff hc;show 0≤(br T D d false).getD s 0;omega
   have hE:gu T D (s:Int) (d:Int)=0:=by unfold gu;simp only[Int.toNat_natCast];rw[if_pos he,if_neg (by omega)]
   rw[hE]
   refine aj<|ab (.a 1 rfl<|.c rfl (lu T hv) rfl<|.a 1 rfl<|.k [1,2,3,4,11,13] rfl)<|ab (.a 1 rfl<|.k [1,2,3,4,11,13,14] rfl)<|gM 14 3 1 rfl ?_
   refine ak<|ab (.a 2 rfl<|.k [1,3,4,11,13,14,15] rfl)<|av<|fp [1,3,4,11,13,14,15] rfl<|bq (fun r st=>∃(p:List Int) (m f:Nat),(m:Int)<T.nodes∧0≤dN T D d m∧dN T D d m≤f∧r=(dN T D d m).toNat∧(p.length:Int)+dN T D d m≤dN T D d s∧b9 T D s d=p++fe T D d f m∧st=⟨[(1,aY D),(3,num d),(4,.aX (bw T) 0),(11,aw (br T D d false)),(13,je (dh (bb T) T.nodes.toNat (2*T.ae.length))),(14,.own 0),(15,num m)],[some (.row 3 1 p.length (aP p))]⟩) (dN T D d s).toNat ⟨[],s,(dN T D d s).toNat,hs1,h0,by omega,rfl,by simp,rfl,rfl⟩ ?_
   rintro r st ⟨p,m,f,hm,hm0,hmf,rfl,hpl,hp,rfl⟩
   refine ak<|ab (.a 3 rfl<|.k [1,3,4,11,13,14,15,45] rfl)<|ah rfl (fun hy=>?_) (fun hy=>?_)
   ·have hne:m≠d:=by have:=tt hy;omega
    have hml:m<(br T D d false).length:=by omega
    have hrow:=wa T m (by omega)
    have hbnd:=(Hp (D:=D) hv hd1 hs1).2
    have hol:(bH T m).length≤512:=Nat.le_trans (eh T m _) (by omega)
    refine aj<|av<|ab (.a 2 rfl<|.v (aM (m) rfl (by omega) (by rw[eH];omega)) rfl<|.v (aO rfl ((tf _ m (by rw[eH];omega)).trans (by rw[hrow]))) rfl<|.a 2 rfl<|.k [1,3,4,11,13,14,15,49,50,51] rfl)<|av<|fp [1,3,4,11,13,14,15,49,50,51] rfl<|bq (fun r st=>∃j:Nat,j≤(bH T m).length∧r=(bH T m).length - j∧(∀i,i<j→gR T D (br T D d false) (dN T D d m) d ((bH T m).getD i 0).toNat=false)∧st=⟨[(1,aY D),(3,num d),(4,.aX (bw T) 0),(11,aw (br T D d false)),(13,je (dh (bb T) T.nodes.toNat (2*T.ae.length))),(14,.own 0),(15,num m),(49,aw (bH T m)),(50,num (bH T m).length),(51,num j)],[some (.row 3 1 p.length (aP p))]⟩) (bH T m).length ⟨0,by omega,by omega,fun i hi=>by omega,rfl⟩ ?_
    rintro r st ⟨j,hj,rfl,hno,rfl⟩
    refine ab (.a 1 rfl<|.k [1,3,4,11,13,14,15,49,50,51,52] rfl)<|ak<|ah rfl (fun hz=>?_) (fun hz=>?_)
    ·have hlt:j<(bH T m).length:=by have:=tt hz;omega
     obtain⟨ha0,ha1⟩:=jV (ca (d:=0) hlt)
     obtain⟨a,ha⟩:=Int.eq_ofNat_of_zero_le ha0
     have ham:a<2*T.ae.length:=by omega
     obtain⟨y,hyh,hyN⟩:=dx hv ham
     have hyl:y<(br T D d false).length:=by omega
     have hh:=fI T a ham (by omega)
     rw[hyh]at hh
     have hD:D.length=0∨a<D.length:=by simp only[bP,decide_eq_true_eq]at hf;omega
     obtain⟨p1,hp1⟩:∃q,aL D a=q:=⟨_,rfl⟩
     obtain⟨p2,hp2⟩:∃q,decide ((br T D d false).getD y 0<0)=q:=⟨_,rfl⟩
     obtain⟨p3,hp3⟩:∃q,decide ((y:Int)≠(d:Int))=q:=⟨_,rfl⟩
     obtain⟨p4,hp4⟩:∃q,cR T y=q:=⟨_,rfl⟩
     have hpass:∀b,gR T D (br T D d false) (dN T D d m) d ((bH T m).getD j 0).toNat=b↔(!((p1||p2)||(p3&&p4))&&decide ((br T D d false).getD y 0+cb T a=dN T D d m))=b:=fun b=>by
      unfold gR
      rw[ha,Int.toNat_natCast,hyh,Int.toNat_natCast,hp1,hp2,hp3,hp4]
     refine aj<|ak<|av<|ab (.v (aM (j) rfl) rfl<|.v (aO rfl ((aA _ j hlt).trans (by rw[ha]))) rfl<|.a 1 rfl<|.k [1,3,4,11,13,14,15,17,49,50,51] rfl)<|ab (.a 2 rfl<|.c rfl (hh) rfl<|.a 1 rfl<|.k [1,3,4,11,13,14,15,17,18,49,50,51] rfl)<|ak<|bu 77 (.raw (.bool ((p1||p2)||(p3&&p4)))) [1,3,4,11,13,14,15,17,18,49,50,51] rfl ?_ ?_
     ·refine .a 2 rfl<|.c rfl (hp1▸i7 D a hD) rfl<|.a 1 rfl<|?_
      cases p1
      ·refine .a 2 rfl<|.v (aM (y) rfl) rfl<|.v (aO rfl (aA _ y hyl)) rfl<|.v (cg rfl (hp2)) rfl<|.a 2 rfl<|?_
       cases p2
       ·refine .a 2 rfl<|.v (cg rfl (hp3)) rfl<|.a 1 rfl<|?_
        cases p3
        ·exact .a 5 rfl<|.k [77,1,3,4,11,13,14,15,17,18,49,50,51] rfl
        ·exact .a 2 rfl<|.c rfl (hp4▸nS T y (zo hv hyN)) rfl<|.a 2 rfl<|.k [77,1,3,4,11,13,14,15,17,18,49,50,51] rfl
       ·exact .a 9 rfl<|.k [77,1,3,4,11,13,14,15,17,18,49,50,51] rfl
      ·exact .a 16 rfl<|.k [77,1,3,4,11,13,14,15,17,18,49,50,51] rfl
     refine ah rfl (fun hk=>?_) (fun hk=>?_)
     ·have hnp:=(hpass false).2 (by rw[hk];rfl)
      refine bf<|aB (.v (aT rfl) rfl<|.a 1 rfl<|.k [1,3,4,11,13,14,15,49,50,51] rfl) ?_
      refine⟨(bH T m).length - (j+1),by omega,j+1,by omega,rfl,fun i hi=>?_,rfl⟩
      by_cases h:i=j
      ·rw[h];exact hnp
      ·exact hno i (by omega)
     ·skip
      refine aj ?_
      have hy4:=hb2 _ (ca (d:=0) hyl)
      have hc4:=hS.cost a ham
      refine ez mixed (by kernel_rfl) (.a 2 rfl<|.v [78,79] (aM (y) rfl) rfl rfl<|.v [80] (aO rfl (aA _ y hyl)) rfl rfl<|.a 2 rfl<|.v [82,83] (dX rfl (kP T a ham)) rfl rfl<|.v [81,84] (aT rfl (hn:=by unfold In64;omega)) rfl rfl<|.a 2 rfl<|.v [86,87] (aM (m) rfl) rfl rfl<|.v [88] (aO rfl (aA _ m hml)) rfl rfl<|.a 1 rfl<|.k [1,3,4,11,13,14,15,17,18,49,50,51,90] rfl) ?_
      refine ah rfl (fun hq=>?_) (fun hq=>?_)
      ·have hyes:=(hpass true).2 (by rw[hk];exact decide_eq_true (tt hq))
       obtain⟨l,hl⟩:=ym hne hm0 hlt hno hyes
       obtain⟨b,hb,hbn⟩:=cO (T:=T) (D:=D) (n:=m) (d:=d) (a:=(bH T m).getD j 0) (by rw[hl];simp)
       have hba:b=a:=by omega
       subst hba
       have hdy:=hbn.dN hyh
       refine aR<|au 3 rfl<|cz (bA rfl (bL.rk.get rfl) rfl rfl rfl rfl (by unfold maxLen;omega)) rfl<|au 1 rfl ?_
       refine ee [1] (.c 1<|.c 3<|.c 4<|.c 11<|.c 13<|.c 14<|.c 18<|.nil) (.kept rfl (.fm rfl (dc _ _))<|.nil) rfl rfl (aZ ?_)
       refine ab (.a 2 rfl<|.k [1,3,4,11,13,14,15] rfl)<|bf ?_
       cases f with
       |zero=>omega
       |succ f=>
        refine⟨(dN T D d y).toNat,by omega,p++[(b:Int)],y,f,hyN,hdy.1,by omega,rfl,by simp;omega,?_,by simp⟩
        rw[hp,qS hl,ha,Int.toNat_natCast,hyh,Int.toNat_natCast,List.append_assoc]
        rfl
      ·have hnp:=(hpass false).2 (by rw[hk,Bool.and_eq_false_iff];exact .inr (decide_eq_false (ff hq)))
       refine aj<|aB (.v (aT rfl) rfl<|.a 1 rfl<|.k [1,3,4,11,13,14,15,49,50,51] rfl) ?_
       refine⟨(bH T m).length - (j+1),by omega,j+1,by omega,rfl,fun i hi=>?_,rfl⟩
       by_cases h:i=j
       ·rw[h];exact hnp
       ·exact hno i (by omega)
    ·exact absurd (Ec hv hm hd1 hne hm0 (fun i hi=>hno i (by have:=ff hz;omega))) (fun h=>h)
   ·have hmd:m=d:=by have:=ff hy;omega
    subst hmd
    have hfin:fe T D m f m=[]:=by cases f with|zero=>rfl|succ f=>simp only[fe,iM]
    rw[hfin,List.append_nil]at hp
    exact bf<|ab (.a 3 rfl<|.k [8,9] rfl)<|aq<|⟨_,_,az.of rfl,aC.bz (an.cons (aC.fu rfl an.pure) (an.cons aC.pure an.nil)),by unfold dr;rw[if_pos rfl];simp only[Int.toNat_natCast];rw[hp];rfl⟩
theorem lz(T:ai)(D:List Bool)(m d:Nat):(bx T D m d).Pairwise (· < ·):=by
 unfold bx
 split
 ·exact List.Pairwise.nil
 ·exact(lF T m).filter _
theorem yB{T:ai}{D:List Bool}{m d a:Nat}(h:(a:Int)∈bx T D m d)(hno:∀i:Nat,i<a→¬(i:Int)∈bx T D m d):∃l,bx T D m d=(a:Int)::l:=by
 have hs:=lz T D m d
 cases hx:bx T D m d with
 |nil=>rw[hx]at h;cases h
 |cons b l=>
  obtain⟨c,rfl,_⟩:=cO (T:=T) (D:=D) (n:=m) (d:=d) (a:=b) (by rw[hx];simp)
  rw[hx]at h hs hno
  have h1:=hno c
  have:c=a:=by
   cases h with
   |head=>rfl
   |tail _ h=>
    have:=(List.pairwise_cons.1 hs).1 _ h
    exact absurd (List.mem_cons_self ..) (h1 (by omega))
  exact⟨l,by rw[this]⟩
theorem HQ{T:ai}{D:List Bool}(hv:ao T=true){m d k:Nat}(hm:(m:Int)<T.nodes)(hd:(d:Int)<T.nodes)(hk:k<2*T.ae.length):(decide (bb T k=(m:Int))&&Hy T D (br T D d false) k d)=true↔(k:Int)∈bx T D m d:=by
 obtain⟨y,hyh,hyN⟩:=dx hv hk
 have hS:=aK hv
 constructor
 ·intro h
  obtain⟨h1,h2⟩:=Bool.and_eq_true_iff.1 h
  have h1:=tt h1
  unfold Hy at h2
  rw[h1,hyh]at h2
  simp only[Int.toNat_natCast,Bool.and_eq_true,Bool.not_eq_true',Bool.or_eq_true,decide_eq_true_eq]at h2
  obtain⟨⟨⟨⟨g1,g2⟩,g3⟩,g4⟩,g5⟩:=h2
  refine eR ⟨hk,h1,g1,by omega,?_,?_,?_⟩ (hS.cost k hk).1
  ·rw[hyh,Int.toNat_natCast];exact g3
  ·rw[hyh];rcases g4 with g|g
   ·exact .inl (by omega)
   ·exact .inr (by simpa using g)
  ·rw[hyh,Int.toNat_natCast];exact g5
 ·intro h
  obtain⟨k',hk',hn⟩:=cO h
  have:k'=k:=by omega
  subst this
  have h3:=hn.reach
  have h4:=hn.pass
  have h5:=hn.sum
  have h6:=hn.ne
  rw[hyh,Int.toNat_natCast]at h3 h5
  rw[hyh,Int.toNat_natCast]at h4
  refine Bool.and_eq_true_iff.2 ⟨decide_eq_true hn.tail,?_⟩
  unfold Hy
  rw[hn.tail,hyh]
  simp only[Int.toNat_natCast,Bool.and_eq_true,Bool.not_eq_true',Bool.or_eq_true,decide_eq_true_eq]
  refine⟨⟨⟨⟨hn.up,by omega⟩,h3⟩,?_⟩,h5⟩
  rcases h4 with g|g
  ·exact .inl (by omega)
  ·exact .inr (by simpa using g)
set_option maxHeartbeats 2000000 in
theorem xR(T:ai)(D:List Bool)(s d:Int):Can Tryz.prog 90 [aN T,aY D,num s,num d] (· =dr (gu T D s d) (b9 T D s.toNat d.toNat)):=by
 obtain⟨g1,hg1⟩:∃q,decide (s<0)=q:=⟨_,rfl⟩
 obtain⟨g2,hg2⟩:∃q,decide (T.nodes≤s)=q:=⟨_,rfl⟩
 have hnb:bn T s= !(g1||g2):=by rw[←hg1,←hg2,←Bool.decide_or,←decide_not];unfold bn;exact decide_eq_decide.2 (by omega)
 refine aG Tryz.func90 rfl Tryz.ntmps90 rfl<|ab (.a 3 rfl<|.k [1,2,3,4] rfl)<|ab (.a 3 rfl<|.c rfl (oD T D d) rfl<|.a 5 rfl<|.k [1,2,3,4,10,11] rfl)<|ak<|ab (.a 2 rfl<|.k [1,2,3,4,10,11,22] rfl)<|ah rfl (fun hc=>?_) (fun hc=>?_)
 ·have he0:cw T D [d]≠0:=tt hc
  have he:cc T D s d≠0:=by unfold cc;rw[if_neg he0];exact he0
  have he2:cc T D s d=cw T D [d]:=by unfold cc;rw[if_neg he0]
  exact ab (.a 3 rfl<|.k [8,9] rfl)<|aq<|⟨_,_,az.of rfl,aC.bz (an.cons aC.b7 (an.cons aC.pure an.nil)),by unfold dr gu;rw[if_neg he,if_neg he,he2];rfl⟩
 ·have he0:cw T D [d]=0:=Classical.byContradiction (ff hc)
  rw[he0,if_pos rfl]
  refine aj<|ak<|bu 31 (.raw (.bool (g1||g2))) [1,2,3,4,10] rfl ?_ ?_
  ·refine .a 1 rfl<|.v (cg rfl (hg1)) rfl<|.a 1 rfl<|?_
   cases g1
   ·exact .a 3 rfl<|.v (cg rfl (hg2)) rfl<|.a 1 rfl<|.k [31,1,2,3,4,10] rfl
   ·exact .a 5 rfl<|.k [31,1,2,3,4,10] rfl
  refine ah rfl (fun hy=>?_) (fun hy=>?_)
  ·have hn:bn T s=false:=by rw[hnb,hy];rfl
   have he:cc T D s d=2:=by unfold cc;rw[if_pos he0,hn];rfl
   exact ab (.a 2 rfl<|.k [8,9] rfl)<|aq<|⟨_,_,az.of rfl,aC.bz (an.cons aC.b7 (an.cons aC.pure an.nil)),by unfold dr gu;rw[he];rfl⟩
  ·have hn:bn T s=true:=by rw[hnb,hy];rfl
   have he:cc T D s d=0:=by unfold cc;rw[if_pos he0,hn];rfl
   obtain⟨hv,hf,hns,hnd⟩:=fc he
   obtain⟨hs0,hs1⟩:=aU.1 hns
   obtain⟨hd0,hd1⟩:=aU.1 hnd
   clear hnb hg1 hg2 hy
   obtain⟨s,rfl⟩:=Int.eq_ofNat_of_zero_le hs0
   obtain⟨d,rfl⟩:=Int.eq_ofNat_of_zero_le hd0
   simp only[Int.toNat_natCast]
   have hS:=aK hv
   have hN:=hS.nodes
   have hll:=bO hv
   obtain⟨hb1,hb2⟩:=di (D:=D) hv (dir:=false) hd1
   refine aj<|ak<|ab (.a 2 rfl<|.v (aM (s) rfl) rfl<|.v (aO rfl (aA _ s (by omega))) rfl<|.a 1 rfl<|.k [1,2,3,4,10,36] rfl)<|ah rfl (fun hy=>?_) (fun hy=>?_)
   ·have h0:dN T D d s<0:=tt hy
    exact ab (.a 2 rfl<|.k [8,9] rfl)<|aq<|⟨_,_,az.of rfl,aC.bz (an.cons aC.b7 (an.cons aC.pure an.nil)),by unfold dr gu;simp only[Int.toNat_natCast];rw[if_pos he,if_pos h0];rfl⟩
   ·have h0:0≤dN T D d s:=by have:=ff hy;show 0≤(br T D d false).getD s 0;omega
    have hE:gu T D (s:Int) (d:Int)=0:=by unfold gu;simp only[Int.toNat_natCast];rw[if_pos he,if_neg (by omega)]
    rw[hE]
    refine aj<|ab (.a 1 rfl<|.k [1,2,3,4,10,12] rfl)<|gM 12 3 1 rfl ?_
    refine ak<|av<|fp [1,2,3,4,10,12] rfl<|bq (fun r st=>∃(p:List Int) (m f:Nat),(m:Int)<T.nodes∧0≤dN T D d m∧dN T D d m≤f∧r=(dN T D d m).toNat∧(p.length:Int)+dN T D d m≤dN T D d s∧b9 T D s d=p++fe T D d f m∧st=⟨[(1,aY D),(2,num m),(3,num d),(4,.aX (bw T) 0),(10,aw (br T D d false)),(12,.own 0)],[some (.row 3 1 p.length (aP p))]⟩) (dN T D d s).toNat ⟨[],s,(dN T D d s).toNat,hs1,h0,by omega,rfl,by simp,rfl,rfl⟩ ?_
    rintro r st ⟨p,m,f,hm,hm0,hmf,rfl,hpl,hp,rfl⟩
    refine ak<|ab (.a 3 rfl<|.k [1,2,3,4,10,12,39] rfl)<|ah rfl (fun hz=>?_) (fun hz=>?_)
    ·have hne:m≠d:=by have:=tt hz;omega
     have hbnd:=(Hp (D:=D) hv hd1 hs1).2
     refine aj<|av<|ab (.a 1 rfl<|.k [1,2,3,4,10,12,13] rfl)<|av<|fp [1,2,3,4,10,12,13] rfl<|bq (fun r st=>∃a:Nat,a≤2*T.ae.length∧r=2*T.ae.length - a∧(∀i:Nat,i<a→¬(i:Int)∈bx T D m d)∧st=⟨[(1,aY D),(2,num m),(3,num d),(4,.aX (bw T) 0),(10,aw (br T D d false)),(12,.own 0),(13,num a)],[some (.row 3 1 p.length (aP p))]⟩) (2*T.ae.length) ⟨0,by omega,by omega,fun i hi=>by omega,rfl⟩ ?_
     rintro r st ⟨a,ha,rfl,hno,rfl⟩
     refine ak<|ab (.a 4 rfl<|.v (aT rfl) rfl<|.a 1 rfl<|.k [1,2,3,4,10,12,13,45] rfl)<|ah rfl (fun hq=>?_) (fun hq=>?_)
     ·have ham:a<2*T.ae.length:=by have:=tt hq;omega
      obtain⟨y,hyh,hyN⟩:=dx hv ham
      have hh:=kr T hv a ham
      rw[hyh]at hh
      obtain⟨p1,hp1⟩:∃q,decide (bb T a=(m:Int))=q:=⟨_,rfl⟩
      obtain⟨p2,hp2⟩:∃q,Hy T D (br T D d false) a d=q:=⟨_,rfl⟩
      have hon:=HQ (D:=D) hv hm hd1 ham
      rw[hp1,hp2]at hon
      refine aj<|ak<|av<|bu 60 (.raw (.bool (p1&&p2))) [1,2,3,4,10,12,13] rfl ?_ ?_
      ·refine .a 2 rfl<|.c rfl (gA T hv a ham) rfl<|.a 1 rfl<|.v (cg rfl (hp1)) rfl<|.a 1 rfl<|?_
       cases p1
       ·exact .a 7 rfl<|.k [60,1,2,3,4,10,12,13] rfl
       ·exact .a 5 rfl<|.c rfl (hp2▸H6 T D (br T D d false) a d hv hf hb1 hb2 ham) rfl<|.a 1 rfl<|.k [60,1,2,3,4,10,12,13] rfl
      refine ah rfl (fun hk=>?_) (fun hk=>?_)
      ·have hmem:=hon.1 hk
       obtain⟨l,hl⟩:=yB hmem hno
       obtain⟨b,hb,hbn⟩:=cO hmem
       have hba:b=a:=by omega
       subst hba
       have hdy:=hbn.dN hyh
       have hcy:=hS.cost b ham
       refine aR<|au 3 rfl<|cz (bA rfl (bL.rk.get rfl) rfl rfl rfl rfl (by unfold maxLen;omega)) rfl<|au 1 rfl ?_
       refine ee [1] (.c 1<|.c 3<|.c 4<|.c 10<|.c 12<|.c 13<|.nil) (.kept rfl (.fm rfl (dc _ _))<|.nil) rfl rfl (aZ ?_)
       refine ab (.a 2 rfl<|.c rfl (hh) rfl<|.a 1 rfl<|.k [1,2,3,4,10,12] rfl)<|bf ?_
       cases f with
       |zero=>omega
       |succ f=>
        refine⟨(dN T D d y).toNat,by omega,p++[(b:Int)],y,f,hyN,hdy.1,by omega,rfl,by simp;omega,?_,by simp⟩
        rw[hp,qS hl,Int.toNat_natCast,hyh,Int.toNat_natCast,List.append_assoc]
        rfl
      ·have hnm:¬(a:Int)∈bx T D m d:=fun h=>by rw[hon.2 h]at hk;cases hk
       refine aj<|aB (.a 1 rfl<|.v (aT rfl) rfl<|.a 1 rfl<|.k [1,2,3,4,10,12,13] rfl) ?_
       refine⟨2*T.ae.length - (a+1),by omega,a+1,by omega,rfl,fun i hi=>?_,rfl⟩
       by_cases h:i=a
       ·rw[h];exact hnm
       ·exact hno i (by omega)
     ·have hcon:False:=by
       obtain⟨k,hk⟩:=jt (D:=D) hv hm hd1 hne hm0
       have:=eR hk (hS.cost k hk.eM).1
       exact hno k (by have:=hk.eM;have:=ff hq;omega) this
      exact absurd hcon (fun h=>h)
    ·have hmd:m=d:=by have:=ff hz;omega
     subst hmd
     have hfin:fe T D m f m=[]:=by cases f with|zero=>rfl|succ f=>simp only[fe,iM]
     rw[hfin,List.append_nil]at hp
     exact bf<|ab (.a 3 rfl<|.k [8,9] rfl)<|aq<|⟨_,_,az.of rfl,aC.bz (an.cons (aC.fu rfl an.pure) (an.cons aC.pure an.nil)),by unfold dr;rw[if_pos rfl,hp];rfl⟩
end PW
end Go.Proofs.YtnegbdpggideiaaGreatDoor
namespace Go.Proofs.YtnegbdpggideiaaGreatDoor
namespace PW
open Go.RowKit cE Mem Net
section
variable {P:Program} {σ:cf} {t:bZ} {o:Oper}
theorem xO{src dst:TypeId}{x:Operand}{k k':IntKind}{a c:Int}{ty:TypeDesc}(ho:o.op= .convert src dst x)(hs:P.underlying src=some ty)(hd:P.underlying dst=some (.int k'))(hx:aD t x=some (.raw (.int k a)))(hc:k'.wrap a=c):bh P σ t o (.raw (.int k' c)):=by
 intro F base E ρ w hρ _ hT
 have h1:=ax hρ hT hx
 generalize hz:ρ x=z at h1
 cases h1
 have h2:(convert src dst (.int k a)).run P w= .ok (.int k' c) w:=by
  simp[convert,Sem.run_bind,run_underlying hs,run_underlying hd,Conv.intToInt,hc]
 simp only[execOp,ho,hz,Sem.run_bind,h2]
 exact bg (.raw _)
theorem GY{ty:TypeId}{x ix:Operand}{s:ByteArray}{k:IntKind}{i:Nat}{c:UInt8}(ho:o.op= .index ty x ix)(hu:P.underlying ty=some .string)(hx:aD t x=some (.raw (.string s)))(hix:aD t ix=some (.raw (.int k i)))(h3:s[i]? =some c):bh P σ t o (.raw (.int .u8 c.toNat)):=by
 intro F base E ρ w hρ _ hT
 have h1:=ax hρ hT hx
 have h1':=ax hρ hT hix
 generalize hz:ρ x=z at h1
 generalize hz':ρ ix=z' at h1'
 cases h1
 cases h1'
 have h2:(Instr.index ty (.string s) (.int k i)).run P w= .ok (.int .u8 c.toNat) w:=by
  have h4:(asIntOf (.int k (i:Int))).run P w= .ok (k,(i:Int)) w:=rfl
  simp[Instr.index,Sem.run_bind,run_underlying hu,h3,h4]
 simp only[execOp,ho,hz,hz',Sem.run_bind,h2]
 exact bg (.raw _)
theorem EI{N L:Nat}{x y:Code}{st:St}{Q:Exit→St→Prop}{b:Bool}(h:W P N L (if b then x else y) st Q):W P N L (.cond (.const (.bool b)) x y) st Q:=fun F base E₀ w₀ E a w hcm hs=>
 wp_cond_split (show a.eval (.const (.bool b))= .bool b from rfl) (fun hb=>by subst hb;exact h F base E₀ w₀ E a w hcm hs) (fun hb=>by subst hb;exact h F base E₀ w₀ E a w hcm hs)
end
theorem u8_in(c:UInt8):In64 (c.toNat:Int):=by have:=c.toNat_lt;unfold In64;omega
theorem HR(c:UInt8):In64 (0+(c.toNat:Int)):=by have:=c.toNat_lt;unfold In64;omega
theorem Fw(n:Nat)(h:n≤255):IntKind.u8.wrap (n:Int)=(n:Int):=by rw[IntKind.wrap_u8];omega
def uV(a b:Int):Int:=if a<b then -1 else if b<a then 1 else 0
theorem sK(a:Int):Can Tryz.prog 226 [num a] (· =flag false):=by
 exact aG Tryz.func226 rfl Tryz.ntmps226 rfl<|ab (.a 1 rfl<|.k [0] rfl)<|ab (.a 4 rfl<|.k [2] rfl)<|aq<|⟨_,_,az.of rfl,aC.pure,by simp;rfl⟩
theorem zv(a b:Int):Can Tryz.prog 218 [num a,num b] (· =num (uV a b)):=by
 refine aG Tryz.func218 rfl Tryz.ntmps218 rfl<|ab (.a 1 rfl<|.k [0,1] rfl)<|ab (.a 1 rfl<|.c rfl (sK a) rfl<|.a 1 rfl<|.k [0,1,5] rfl)<|ab (.a 1 rfl<|.c rfl (sK b) rfl<|.a 1 rfl<|.k [0,1,5,6] rfl)<|ak<|ab (.a 1 rfl<|.k [0,1,6,11] rfl)<|ah rfl (fun hc=>?_) (fun hc=>?_)
 ·cases hc
 ·refine aj<|ak<|ab (.a 1 rfl<|.k [0,1,13] rfl)<|ah rfl (fun hc=>?_) (fun hc=>?_)
  ·cases hc
  ·refine aj<|ak<|ab (.a 3 rfl<|.k [0,1,16] rfl)<|ah rfl (fun hc=>?_) (fun hc=>?_)
   ·have h1:a<b:=tt hc
    exact ab (.a 1 rfl<|.k [4] rfl)<|aq<|⟨_,_,az.of rfl,aC.pure,by unfold uV;rw[if_pos h1];rfl⟩
   ·have h1:¬a<b:=ff hc
    refine aj<|ak<|ab (.a 3 rfl<|.k [19] rfl)<|ah rfl (fun hy=>?_) (fun hy=>?_)
    ·have h2:b<a:=tt hy
     exact ab (.a 1 rfl<|.k [4] rfl)<|aq<|⟨_,_,az.of rfl,aC.pure,by unfold uV;rw[if_neg h1,if_pos h2];rfl⟩
    ·have h2:¬b<a:=ff hy
     exact aj<|ab (.a 1 rfl<|.k [4] rfl)<|aq<|⟨_,_,az.of rfl,aC.pure,by unfold uV;rw[if_neg h1,if_neg h2];rfl⟩
theorem Ig(a b:Int):Can Tryz.prog 217 [.slice 2 [num a,num b]] (· =num (if a=0 then b else a)):=by
 refine aG Tryz.func217 rfl Tryz.ntmps217 rfl<|ab (.a 1 rfl<|.k [0] rfl)<|ab (.a 1 rfl<|.k [0,3] rfl)<|ak<|ab (.a 3 rfl<|.k [3,6,7,8] rfl)<|av<|fp [3,6,7,8] rfl<|bq (fun r st=>∃j:Nat,j≤2∧r=2 - j∧(0<j→a=0)∧(1<j→b=0)∧st=⟨[(3,num 0),(6,.slice 2 [num a,num b]),(7,num 2),(8,num j)],[]⟩) 2 ⟨0,by omega,by omega,by omega,by omega,rfl⟩ ?_
 rintro r st ⟨j,hj,rfl,ha,hb,rfl⟩
 refine ab (.a 1 rfl<|.k [3,6,7,8,9] rfl)<|ak<|ah rfl (fun hc=>?_) (fun hc=>?_)
 ·have hlt:j<2:=by have:=tt hc;omega
  obtain⟨v,hv,hv2⟩:∃v,[num a,num b][j]? =some (num v)∧v=(if j=0 then a else b):=by
   match j,hlt with
   |0,_=>exact⟨a,rfl,rfl⟩
   |1,_=>exact⟨b,rfl,rfl⟩
  refine aj<|ak<|av<|ab (.v (aM (j) rfl) rfl<|.v (aO rfl (hv)) rfl<|.a 1 rfl<|.k [3,5,6,7,8] rfl)<|ab (.a 3 rfl<|.k [3,5,6,7,8,14] rfl)<|ah rfl (fun hy=>?_) (fun hy=>?_)
  ·have h1:v≠0:=tt hy
   refine ab (.a 2 rfl<|.k [2] rfl)<|aq<|⟨_,_,az.of rfl,aC.pure,congrArg num ?_⟩
   by_cases h0:j=0
   ·rw[if_pos h0]at hv2;rw[if_neg (by omega)];exact hv2
   ·rw[if_neg h0]at hv2;rw[if_pos (ha (by omega))];exact hv2
  ·have h1:v=0:=Classical.byContradiction (ff hy)
   refine aj<|aB (.v (aT rfl) rfl<|.a 1 rfl<|.k [3,6,7,8] rfl) ?_
   refine⟨2 - (j+1),by omega,j+1,by omega,rfl,fun _=>?_,fun h=>?_,rfl⟩
   ·by_cases h0:j=0
    ·rw[if_pos h0]at hv2;omega
    ·exact ha (by omega)
   ·rw[if_neg (by omega)]at hv2;omega
 ·have hj2:j=2:=by have:=ff hc;omega
  refine bf<|ab (.a 2 rfl<|.k [2] rfl)<|aq<|⟨_,_,az.of rfl,aC.pure,congrArg num ?_⟩
  rw[if_pos (ha (by omega))];exact(hb (by omega)).symm
def GN(L:List Int)(a b:Nat):Int:=if uV (L.getD b 0) (L.getD a 0)=0 then uV a b else uV (L.getD b 0) (L.getD a 0)
theorem CQ(L:List Int)(a b:Nat)(ha:a<L.length)(hb:b<L.length):Can Tryz.prog 216 [num a,num b,.aX [aw L] 0] (· =num (GN L a b)):=by
 refine aG Tryz.func216 rfl Tryz.ntmps216 rfl<|ab (.a 1 rfl<|.k [0,1,2] rfl)<|ez mixed (by kernel_rfl) (.a 2 rfl<|.v [6,7] (aM (b) rfl) rfl rfl<|.v [8] (aO rfl (aA L b hb)) rfl rfl<|.a 2 rfl<|.v [10,11] (aM (a) rfl) rfl rfl<|.v [12] (aO rfl (aA L a ha)) rfl rfl<|.v [9,13] (dX rfl (zv _ _)) rfl rfl<|.a 2 rfl<|.v [15,16] (dX rfl (zv _ _)) rfl rfl<|.a 1 rfl<|.v [18] (dX rfl (Ig _ _)) rfl rfl<|.a 1 rfl<|.k [5] rfl) ?_
 exact aq<|⟨_,_,az.of rfl,aC.pure,rfl⟩
def Ii(n:Nat):UInt8:=if n=0 then 0 else if n=1 then 1 else if n<4 then 2 else if n<8 then 3 else 4
theorem Ad(n:Nat)(hn:n≤12):Can Tryz.prog 241 [.raw (.int .u64 n)] (· =num (Ii n).toNat):=by
 refine aG Tryz.func241 rfl Tryz.ntmps241 rfl<|ab (.a 1 rfl<|.k [0,2] rfl)<|ak<|ab (.a 1 rfl<|.v (zG rfl rfl rfl rfl) rfl<|.k [0,2,4] rfl)<|ah rfl (fun hc=>?_) (fun hc=>?_)
 ·exact absurd (tt hc) (by omega)
 ·refine aj<|ak<|ab (.a 1 rfl<|.v (zG rfl rfl rfl rfl) rfl<|.k [0,2,8] rfl)<|ah rfl (fun hc=>?_) (fun hc=>?_)
  ·exact absurd (tt hc) (by omega)
  ·refine aj<|ak<|ab (.a 1 rfl<|.v (zG rfl rfl rfl rfl) rfl<|.k [0,2,14] rfl)<|ah rfl (fun hc=>?_) (fun hc=>?_)
   ·exact absurd (tt hc) (by omega)
   ·exact aj<|ab (.a 2 rfl<|.v (xO rfl Tryz.underlying249 Tryz.underlying5 rfl (Fw n (by omega))) rfl<|.v (GY (c:=Ii n) rfl Tryz.underlying9 rfl rfl (by rcases(show n=0∨n=1∨n=2∨n=3∨n=4∨n=5∨n=6∨n=7∨n=8∨n=9∨n=10∨n=11∨n=12 by omega)with h|h|h|h|h|h|h|h|h|h|h|h|h<;>subst h<;>rfl)) rfl<|.v (xO rfl Tryz.underlying5 Tryz.underlying3 rfl (ju (u8_in _))) rfl<|.v (aT rfl (hn:=HR _)) rfl<|.a 1 rfl<|.k [2] rfl)<|aq<|⟨_,_,az.of rfl,aC.pure,by rw[Int.zero_add];rfl⟩
theorem Fh(n:Nat)(hn:n≤12):Can Tryz.prog 225 [.raw (.int .u64 n)] (· =num (Ii n).toNat):=by
 refine aG Tryz.func225 rfl Tryz.ntmps225 rfl<|ab (.a 1 rfl<|.k [0] rfl)<|ak (EI (b:=false) ?_)
 exact aj<|ab (.a 1 rfl<|.c rfl (Ad n hn) rfl<|.a 1 rfl<|.k [2] rfl)<|aq ⟨_,_,.cons (.tmp rfl) .nil,aC.pure,rfl⟩
def sv(L:List Int)(x y:Int):Prop:=L.getD y.toNat 0<L.getD x.toNat 0∨(L.getD y.toNat 0=L.getD x.toNat 0∧x≤y)
theorem AN{L:List Int}{x y z:Int}(h:sv L x y)(k:sv L y z):sv L x z:=by unfold sv at*;omega
theorem wu(L:List Int)(a b:Nat):GN L a b<0↔¬sv L b a:=by
 unfold GN uV sv
 simp only[Int.toNat_natCast]
 split<;>split<;>(try split)<;>omega
theorem Im(L:List Int){x y:Int}(h:¬sv L x y):sv L y x:=by unfold sv at*;omega
def Ga(L ys:List Int)(i j:Nat):Prop:=∀p q,p<q→q≤i→q≠j→sv L (ys.getD p 0) (ys.getD q 0)
def GA(L ys:List Int)(i:Nat):Prop:=∀p q,p<q→q<i→sv L (ys.getD p 0) (ys.getD q 0)
theorem GA.ins{L ys:List Int}{i:Nat}(h:GA L ys i):Ga L ys i i:=fun p q h1 h2 h3=>h p q h1 (by omega)
theorem Ga.IV{L ys:List Int}{i:Nat}(h:Ga L ys i 0):GA L ys (i+1):=fun p q h1 h2=>h p q h1 (by omega) (by omega)
theorem Ga.done{L ys:List Int}{i j:Nat}(h:Ga L ys i j)(hb:sv L (ys.getD (j - 1) 0) (ys.getD j 0)):GA L ys (i+1):=fun p q h1 h2=>by
 by_cases hq:q=j
 ·subst hq
  by_cases hp:p=q - 1
  ·rw[hp];exact hb
  ·exact AN (h p (q - 1) (by omega) (by omega) (by omega)) hb
 ·exact h p q h1 (by omega) hq
theorem Ga.swap{L ys:List Int}{i j:Nat}(h:Ga L ys i j)(h0:0<j)(hj:j≤i)(hi:i<ys.length)(hb:¬sv L (ys.getD (j - 1) 0) (ys.getD j 0)):Ga L (Heap.dK ys j (j - 1)) i (j - 1):=fun p q h1 h2 h3=>by
 rw[Heap.dE ys j (j - 1) p (by omega) (by omega),Heap.dE ys j (j - 1) q (by omega) (by omega),if_neg h3]
 by_cases hq:q=j
 ·rw[if_pos hq]
  by_cases hp:p=j - 1
  ·rw[if_pos hp];exact Im L hb
  ·rw[if_neg hp,if_neg (by omega)];exact h p (j - 1) (by omega) (by omega) (by omega)
 ·rw[if_neg hq]
  by_cases hp:p=j - 1
  ·rw[if_pos hp];exact h j q (by omega) h2 hq
  ·rw[if_neg hp]
   by_cases hp2:p=j
   ·rw[if_pos hp2];exact h (j - 1) q (by omega) h2 hq
   ·rw[if_neg hp2];exact h p q h1 h2 hq
theorem swap_perm(ys:List Int)(p q:Nat)(hp:p<ys.length)(hq:q<ys.length):(Heap.dK ys p q).Perm ys:=by
 have:= @List.set_set_perm _ ys p q hp hq
 unfold Heap.dK
 rw[List.getD_eq_getElem?_getD,List.getD_eq_getElem?_getD,List.getElem?_eq_getElem hp,List.getElem?_eq_getElem hq]
 exact this
theorem GA.pair{L ys:List Int}(h:GA L ys ys.length):ys.Pairwise (sv L):=by
 rw[List.pairwise_iff_getElem]
 intro i j hi hj hij
 have:=h i j hij hj
 rw[List.getD_eq_getElem?_getD,List.getD_eq_getElem?_getD,List.getElem?_eq_getElem hi,List.getElem?_eq_getElem hj]at this
 exact this
def eT(ys:List Int):Option cU:=some (.row 3 1 ys.length (aP ys))
abbrev BN(L:List Int):PV:=.func 216 [.aX [aw L] 0]
theorem AO(L xs:List Int)(c:Option cU)(hx:∀x∈xs,0≤x∧x<L.length)(hn:xs.length≤12):bU Tryz.prog 232 [.own 1,num 0,num xs.length,BN L] [c,eT xs] (fun _ σ'=>∃ys,ys.Perm xs∧ys.Pairwise (sv L)∧σ'=[c,eT ys]):=by
 refine cr Tryz.func232 rfl Tryz.ntmps232 rfl<|ab (.a 1 rfl<|.v (aT rfl) rfl<|.a 1 rfl<|.k [0,1,2,3,8] rfl)<|av<|fp [0,1,2,3,8] rfl<|bq (fun r st=>∃(ys:List Int) (i:Nat),ys.Perm xs∧0<i∧GA L ys i∧r=13 - i∧st=⟨[(0,.own 1),(1,num 0),(2,num xs.length),(3,BN L),(8,num i)],[c,eT ys]⟩) 12 ⟨xs,1,.refl _,by omega,fun p q h1 h2=>by omega,rfl,rfl⟩ ?_
 rintro r st ⟨ys,i,hp,hi0,hs,rfl,rfl⟩
 have hyl:=hp.length_eq
 refine ak<|ab (.a 3 rfl<|.k [0,1,2,3,8,14] rfl)<|ah rfl (fun hc=>?_) (fun hc=>?_)
 ·have hlt:i<xs.length:=by have:=tt hc;omega
  refine aj<|ak<|av<|ab (.a 2 rfl<|.k [0,1,2,3,8,9] rfl)<|av<|fp [0,1,2,3,8,9] rfl<|bq (fun r st=>∃(ys:List Int) (j:Nat),ys.Perm xs∧j≤i∧Ga L ys i j∧r=j∧st=⟨[(0,.own 1),(1,num 0),(2,num xs.length),(3,BN L),(8,num i),(9,num j)],[c,eT ys]⟩) i ⟨ys,i,hp,by omega,hs.ins,rfl,rfl⟩ ?_
  clear hp hs hyl
  rintro r st ⟨zs,j,hp,hji,hs,rfl,rfl⟩
  have hyl:=hp.length_eq
  refine ak ?_
  obtain⟨q1,hq1⟩:∃q,decide ((0:Int)<(r:Int))=q:=⟨_,rfl⟩
  have hel:∀k,k<zs.length→∃a:Nat,zs.getD k 0=(a:Int)∧a<L.length:=fun k hk=>by
   have h1:=hx _ (hp.mem_iff.1 (ca (d:=0) hk))
   exact⟨(zs.getD k 0).toNat,by omega,by omega⟩
  obtain⟨a,ha,haL⟩:=hel r (by omega)
  obtain⟨b,hb,hbL⟩:=hel (r - 1) (by omega)
  obtain⟨q2,hq2⟩:∃q,decide (GN L a b<0)=q:=⟨_,rfl⟩
  refine mV mixed (by kernel_rfl) 34 (.raw (.bool (q1&&q2))) [0,1,2,3,8,9] rfl ?_ ?_
  ·refine .a 2 rfl<|.v [18,19] (cg rfl (hq1)) rfl rfl<|.a 1 rfl<|?_
   cases q1
   ·exact .a 13 rfl<|.k [34,0,1,2,3,8,9] rfl
   ·exact .a 3 rfl<|.v [23,24] (aM (r) rfl) rfl rfl<|.v [25] (aO rfl ((aA zs r (by omega)).trans (by rw[ha]))) rfl rfl<|.a 2 rfl<|.v [28] (aT rfl) rfl rfl<|.v [27,29] (aM ((r - 1)) rfl (by have:=tt hq1;omega) (by omega)) rfl rfl<|.v [30] (aO rfl ((aA zs (r - 1) (by omega)).trans (by rw[hb]))) rfl rfl<|.v [22,26,31] (dX rfl (CQ L a b haL hbL)) rfl rfl<|.v [32] (cg rfl (hq2)) rfl rfl<|.a 1 rfl<|.k [34,0,1,2,3,8,9] rfl
  refine ah rfl (fun hy=>?_) (fun hy=>?_)
  ·obtain⟨c1,c2⟩:=Bool.and_eq_true_iff.1 hy
   rw[c1]at hq1
   rw[c2]at hq2
   have hr0:0<r:=by have:=tt hq1;omega
   have hnb:=(wu L a b).1 (tt hq2)
   rw[←ha,←hb]at hnb
   refine aj<|ak<|av<|dS 15 20 mixed (
    .val [0] rfl (bF rfl) rfl rfl<|
    .val [9] rfl (bF rfl) rfl rfl<|
    .late [0] rfl (nc rfl rfl) inferInstance rfl rfl<|
    .late [9] rfl (nc rfl rfl) inferInstance rfl rfl<|
    .late [40] rfl (Ja rfl rfl rfl rfl (by unfold In64;omega)) inferInstance rfl rfl<|
    .val [0] rfl (bF rfl) rfl rfl<|
    .val [9] rfl (bF rfl) rfl rfl<|
    .val [43] rfl (aT rfl) rfl rfl<|
    .val [42,44] rfl (aM ((r - 1)) rfl) rfl rfl<|
    .val [45] rfl (aO rfl ((aA zs (r - 1) (by omega)).trans (by rw[hb]))) rfl rfl<|
    .val [0] rfl (bF rfl) rfl rfl<|
    .val [9] rfl (bF rfl) rfl rfl<|
    .val [47,48] rfl (aM (r) rfl) rfl rfl<|
    .val [49] rfl (aO rfl ((aA zs r (by omega)).trans (by rw[ha]))) rfl rfl<|
    .val [37,38] rfl (aM (r) rfl) rfl rfl<|
    .nil) (by kernel_rfl) rfl rfl (bm (ks:=[0,1,2,3,8,9,39,41,46,50,51]) rfl) ?_
   refine bd ((by first|exact bG rfl (bL.tk.get rfl) rfl rfl rfl (by first|omega|(simp;omega))|exact aV rfl (bL.tk.get rfl) rfl rfl rfl (by first|omega|(simp;omega)))) rfl rfl<|bE (aM ((r - 1)) rfl) rfl<|bd ((by first|exact bG rfl (bL.tk.get rfl) rfl rfl rfl (by first|omega|(simp;omega))|exact aV rfl (bL.tk.get rfl) rfl rfl rfl (by first|omega|(simp;omega)))) rfl rfl<|aH [0,1,2,3,8,9] rfl ?_
   refine aB (.a 1 rfl<|.v (aT rfl) rfl<|.a 1 rfl<|.k [0,1,2,3,8,9] rfl) ?_
   refine⟨r - 1,by omega,Heap.dK zs r (r - 1),r - 1,(swap_perm zs r (r - 1) (by omega) (by omega)).trans hp,by omega,hs.swap hr0 hji (by omega) hnb,rfl,?_⟩
   unfold eT Heap.dK
   rw[ha,hb,show((r - 1:Nat):Int)=(r:Int) - 1 by omega]
   simp only[List.length_set]
   rfl
  ·have hso:GA L zs (i+1):=by
    by_cases h0:r=0
    ·subst h0;exact hs.IV
    ·refine hs.done ?_
     rw[ha,hb]
     refine Classical.byContradiction fun hn=>?_
     have:=(wu L a b).2 hn
     have e1:q1=true:=by rw[←hq1];exact decide_eq_true (by omega)
     have e2:q2=true:=by rw[←hq2];exact decide_eq_true this
     rw[e1,e2]at hy
     cases hy
   refine bf<|aB (.a 1 rfl<|.v (aT rfl) rfl<|.a 1 rfl<|.k [0,1,2,3,8] rfl) ?_
   exact⟨13 - (i+1),by omega,zs,i+1,hp,by omega,hso,rfl,rfl⟩
 ·have hge:ys.length≤i:=by have:=ff hc;omega
  exact bf<|⟨_,az.of rfl,ys,hp,GA.pair (fun p q h1 h2=>hs p q h1 (by omega)),rfl⟩
theorem Ft(L xs:List Int)(c:Option cU)(k:Int)(hx:∀x∈xs,0≤x∧x<L.length)(hn:xs.length≤12):bU Tryz.prog 224 [.own 1,num 0,num xs.length,num k,BN L] [c,eT xs] (fun _ σ'=>∃ys,ys.Perm xs∧ys.Pairwise (sv L)∧σ'=[c,eT ys]):=by
 refine cr Tryz.func224 rfl Tryz.ntmps224 rfl<|ab (.a 1 rfl<|.k [0,1,2,3,4,10] rfl)<|ab (.a 1 rfl<|.k [0,1,2,3,4,10,11] rfl)<|av<|bq (fun r st=>st=⟨[(0,.own 1),(1,num 0),(2,num xs.length),(3,num k),(4,BN L),(10,flag true),(11,flag true)],[c,eT xs]⟩) 0 rfl ?_
 rintro r st rfl
 refine av<|ab (.a 2 rfl<|.v (aT rfl) rfl<|.a 1 rfl<|.k [0,1,2,3,4,10,11,12] rfl)<|ak<|ab (.a 2 rfl<|.k [0,1,2,3,4,10,11,12,25] rfl)<|ah (b:=decide ((xs.length:Int) - 0≤12)) rfl (fun _=>?_) (fun hc=>absurd (ff hc) (by omega))
 refine aR<|au 4 rfl<|cQ rfl rfl (bU.mono (AO L xs c hx hn) (fun _ σ' h=>?_))
 obtain⟨ys,h1,h2,rfl⟩:=h
 refine aH [] rfl ?_
 exact aq ⟨_,.nil,ys,h1,h2,rfl⟩
theorem BG(L xs:List Int)(c:Option cU)(hx:∀x∈xs,0≤x∧x<L.length)(hn:xs.length≤12):bU Tryz.prog 215 [.own 1,BN L] [c,eT xs] (fun _ σ'=>∃ys,ys.Perm xs∧ys.Pairwise (sv L)∧σ'=[c,eT ys]):=by
 have hw:IntKind.u64.wrap (xs.length:Int)=(xs.length:Int):=by rw[IntKind.wrap_u64];omega
 refine cr Tryz.func215 rfl Tryz.ntmps215 rfl<|ab (.a 3 rfl<|.k [0,1,4] rfl)<|bI<|au 3 rfl<|bE (xO rfl Tryz.underlying3 Tryz.underlying247 rfl hw) rfl<|er rfl (Fh xs.length hn) rfl<|au 1 rfl<|cQ rfl rfl (bU.mono (Ft L xs c _ hx hn) (fun _ σ' h=>?_))
 obtain⟨ys,h1,h2,rfl⟩:=h
 refine aH [] rfl ?_
 exact⟨_,az.of rfl,ys,h1,h2,rfl⟩
def oE(L:List Int)(i:Nat):List Int:=((List.range i).filter fun k=>decide (0≤L.getD k 0)).map Int.ofNat
theorem zU(L:List Int)(i:Nat):oE L (i+1)=oE L i++(if 0≤L.getD i 0 then [(i:Int)] else []):=by
 unfold oE
 rw[List.range_succ,List.filter_append,List.map_append]
 congr 1
 by_cases h:0≤L.getD i 0
 ·rw[if_pos h,List.filter_cons,if_pos (by simpa using h)];rfl
 ·rw[if_neg h,List.filter_cons,if_neg (by simpa using h)];rfl
theorem wW(L:List Int)(i:Nat):(oE L i).length≤i:=by
 unfold oE
 rw[List.length_map]
 exact Nat.le_trans (List.length_filter_le _ _) (by simp)
theorem wX{L:List Int}{i:Nat}{x:Int}:x∈oE L i↔∃k:Nat,x=(k:Int)∧k<i∧0≤L.getD k 0:=by
 unfold oE
 simp only[List.mem_map,List.mem_filter,List.mem_range,decide_eq_true_eq]
 constructor
 ·rintro⟨k,⟨h1,h2⟩,rfl⟩;exact⟨k,rfl,h1,h2⟩
 ·rintro⟨k,rfl,h1,h2⟩;exact⟨k,⟨h1,h2⟩,rfl⟩
theorem xr(L:List Int)(i:Nat):(oE L i).Nodup:=by
 unfold oE
 have h1:(List.range i).Pairwise (· ≠ ·):=List.nodup_range
 refine List.Pairwise.map Int.ofNat (fun a b h e=>h (by cases e;rfl)) (h1.filter _)
theorem yu(L cs:List Int)(hn:L.length≤12):bU Tryz.prog 202 [aw L] [eT cs] (fun r σ'=>∃ys,ys.Perm (oE L L.length)∧ys.Pairwise (sv L)∧r= .own 1∧σ'=[eT cs,eT ys]):=by
 refine cr Tryz.func202 rfl Tryz.ntmps202 rfl<|ab (.a 2 rfl<|.k [1] rfl)<|ab (.a 1 rfl<|.k [1,3] rfl)<|gM 3 3 1 rfl ?_
 refine ak<|ab (.a 3 rfl<|.k [1,3,6,7,8] rfl)<|av<|fp [1,3,6,7,8] rfl<|bq (fun r st=>∃i,i≤L.length∧r=L.length - i∧st=⟨[(1,.aX [aw L] 0),(3,.own 1),(6,aw L),(7,num L.length),(8,num i)],[eT cs,eT (oE L i)]⟩) L.length ⟨0,by omega,by omega,rfl⟩ ?_
 rintro r st ⟨i,hi,rfl,rfl⟩
 have hhl:=wW L i
 refine ab (.a 1 rfl<|.k [1,3,6,7,8,9] rfl)<|ak<|ah rfl (fun hc=>?_) (fun hc=>?_)
 ·have hlt:i<L.length:=by have:=tt hc;omega
  have hst:=zU L i
  refine aj<|ak<|av<|ab (.a 1 rfl<|.v (aM (i) rfl) rfl<|.v (aO rfl (aA L i hlt)) rfl<|.a 2 rfl<|.k [1,3,4,5,6,7,8] rfl)<|ab (.a 2 rfl<|.k [1,3,4,6,7,8,14] rfl)<|ah rfl (fun hy=>?_) (fun hy=>?_)
  ·have h0:0≤L.getD i 0:=tt hy
   rw[if_pos h0]at hst
   refine bI<|au 3 rfl<|cz (bA rfl (bL.rk.get rfl) rfl rfl rfl rfl (by unfold maxLen;omega)) rfl<|au 1 rfl ?_
   refine ee [0,2] (.c 1<|.c 3<|.c 6<|.c 7<|.c 8<|.nil) (.kept rfl (.row aE.pure)<|.kept rfl (.fm rfl (dc _ _))<|.nil) rfl rfl (aZ ?_)
   refine aB (.v (aT rfl) rfl<|.a 1 rfl<|.k [1,3,6,7,8] rfl) ?_
   refine⟨L.length - (i+1),by omega,i+1,by omega,rfl,?_⟩
   rw[hst]
   first
    |rfl
    |(simp only[eT,List.length_append,List.length_singleton];rfl)
  ·have h0:¬0≤L.getD i 0:=ff hy
   rw[if_neg h0,List.append_nil]at hst
   refine aj<|aB (.v (aT rfl) rfl<|.a 1 rfl<|.k [1,3,6,7,8] rfl) ?_
   refine⟨L.length - (i+1),by omega,i+1,by omega,rfl,?_⟩
   rw[hst]
   first
    |rfl
    |(simp only[eT,List.length_append,List.length_singleton];rfl)
 ·have hie:i=L.length:=by have:=ff hc;omega
  subst hie
  refine bf<|aR<|au 2 rfl<|cQ rfl rfl (bU.mono (BG L (oE L L.length) (eT cs) (fun x hx=>by obtain⟨k,rfl,h1,_⟩:=wX.1 hx;omega) (by omega)) (fun _ σ' h=>?_))
  obtain⟨ys,h1,h2,rfl⟩:=h
  refine aH [3] rfl ?_
  exact ab (.a 2 rfl<|.k [2] rfl)<|aq<|⟨_,az.of rfl,ys,h1,h2,rfl,rfl⟩
theorem uS(xs:List Int)(c:Option cU)(hn:xs.length≤12):bU Tryz.prog 203 [.own 1] [c,eT xs] (fun _ σ'=>σ'=[c,eT xs.reverse]):=by
 refine cr Tryz.func203 rfl Tryz.ntmps203 rfl<|ab (.a 2 rfl<|.v (aT rfl) rfl<|.a 2 rfl<|.k [0,2,3] rfl)<|av<|fp [0,2,3] rfl<|bq (fun r st=>∃(ys:List Int) (i:Nat),ys.length=xs.length∧2*i≤xs.length+1∧(∀k,k<xs.length→ys.getD k 0=if k<i∨xs.length - i≤k then xs.getD (xs.length - 1 - k) 0 else xs.getD k 0)∧r=xs.length+1 - i∧st=⟨[(0,.own 1),(2,num i),(3,num ((xs.length:Int) - 1 - i))],[c,eT ys]⟩) (xs.length+1) ⟨xs,0,rfl,by omega,fun k hk=>by rw[if_neg (by omega)],by omega,by simp⟩ ?_
 rintro r st ⟨ys,i,hl,hi,hk,rfl,rfl⟩
 refine ak<|ab (.a 3 rfl<|.k [0,2,3,9] rfl)<|ah rfl (fun hc=>?_) (fun hc=>?_)
 ·have hlt:2*i+1<xs.length:=by have:=tt hc;omega
  obtain⟨a,ha⟩:∃a,ys.getD i 0=a:=⟨_,rfl⟩
  obtain⟨b,hb⟩:∃b,ys.getD (xs.length - 1 - i) 0=b:=⟨_,rfl⟩
  refine aj<|ak<|av<|dS 13 20 mixed (
   .val [0] rfl (bF rfl) rfl rfl<|
   .val [2] rfl (bF rfl) rfl rfl<|
   .late [0] rfl (nc rfl rfl) inferInstance rfl rfl<|
   .late [3] rfl (nc rfl rfl) inferInstance rfl rfl<|
   .val [0] rfl (bF rfl) rfl rfl<|
   .val [3] rfl (bF rfl) rfl rfl<|
   .val [18,19] rfl (aM ((xs.length - 1 - i)) rfl) rfl rfl<|
   .val [20] rfl (aO rfl ((aA ys (xs.length - 1 - i) (by omega)).trans (by rw[hb]))) rfl rfl<|
   .val [0] rfl (bF rfl) rfl rfl<|
   .val [2] rfl (bF rfl) rfl rfl<|
   .val [22,23] rfl (aM (i) rfl) rfl rfl<|
   .val [24] rfl (aO rfl ((aA ys i (by omega)).trans (by rw[ha]))) rfl rfl<|
   .val [14,15] rfl (aM (i) rfl) rfl rfl<|
   .nil) (by kernel_rfl) rfl rfl (bm (ks:=[0,2,3,16,17,21,25,26]) rfl) ?_
  refine bd ((by first|exact bG rfl (bL.tk.get rfl) rfl rfl rfl (by first|omega|(simp;omega))|exact aV rfl (bL.tk.get rfl) rfl rfl rfl (by first|omega|(simp;omega)))) rfl rfl<|bE (aM ((xs.length - 1 - i)) rfl) rfl<|bd ((by first|exact bG rfl (bL.tk.get rfl) rfl rfl rfl (by first|omega|(simp;omega))|exact aV rfl (bL.tk.get rfl) rfl rfl rfl (by first|omega|(simp;omega)))) rfl rfl<|aH [0,2,3] rfl ?_
  refine aB (.a 1 rfl<|.v (aT rfl) rfl<|.a 1 rfl<|.v (aT rfl) rfl<|.a 2 rfl<|.k [0,2,3] rfl) ?_
  refine⟨xs.length+1 - (i+1),by omega,Heap.dK ys i (xs.length - 1 - i),i+1,by rw[Heap.fR];exact hl,by omega,fun k hkl=>?_,rfl,?_⟩
  ·rw[Heap.dE ys i (xs.length - 1 - i) k (by omega) (by omega)]
   by_cases h1:k=xs.length - 1 - i
   ·rw[if_pos h1,if_pos (by omega),hk i (by omega),if_neg (by omega),h1,show xs.length - 1 - (xs.length - 1 - i)=i by omega]
   ·rw[if_neg h1]
    by_cases h2:k=i
    ·rw[if_pos h2,if_pos (by omega),hk _ (by omega),if_neg (by omega),h2]
    ·rw[if_neg h2,hk k hkl]
     by_cases h3:k<i∨xs.length - i≤k
     ·rw[if_pos h3,if_pos (by omega)]
     ·rw[if_neg h3,if_neg (by omega)]
  ·unfold eT Heap.dK
   rw[ha,hb,show(xs.length:Int) - 1 - ((i+1:Nat):Int)=(xs.length:Int) - 1 - i - 1 by omega]
   simp only[List.length_set]
   rfl
 ·have hge:¬2*i+1<xs.length:=by have:=ff hc;omega
  refine bf<|⟨_,az.of rfl,?_⟩
  have:ys=xs.reverse:=by
   refine List.ext_getElem (by simp[hl]) fun k h1 h2=>?_
   have h3:=hk k (by omega)
   rw[List.getElem_reverse]
   have e1:ys.getD k 0=ys[k]:=by simp[h1]
   have e2:xs.getD (xs.length - 1 - k) 0=xs[xs.length - 1 - k]:=by rw[List.getD_eq_getElem?_getD,List.getElem?_eq_getElem (by omega)];rfl
   by_cases h4:k<i∨xs.length - i≤k
   ·rw[if_pos h4,e1,e2]at h3;exact h3
   ·rw[if_neg h4,e1]at h3
    rw[h3,←e2,show xs.length - 1 - k=k by omega]
  rw[this]
end PW
end Go.Proofs.YtnegbdpggideiaaGreatDoor
