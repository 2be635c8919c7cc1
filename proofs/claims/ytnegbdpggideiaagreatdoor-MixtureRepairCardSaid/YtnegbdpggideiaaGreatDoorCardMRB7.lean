/- Texts of the proof, part 7. -/
import Derived.Laws.StructEq
import Derived.Test.YtnegbdpggideiaaGreatDoorCardMRB6
set_option linter.unusedVariables false
set_option linter.unusedSimpArgs false
set_option maxRecDepth 10000
set_option maxHeartbeats 1000000
namespace Go.Proofs.YtnegbdpggideiaaGreatDoor
namespace PW
open Go.RowKit cH Mem Net
def vI(T:an)(D:List Bool)(L:List Int)(a d:Nat):Bool:=
 ((((!aI D a)&&decide (aZ T a≠(d:Int)))&&decide (0≤L.getD (aW T a).toNat 0))&&(decide ((aW T a).toNat=d)|| !cU T (aW T a).toNat))&&decide (L.getD (aZ T a).toNat 0=L.getD (aW T a).toNat 0+cb T a)
theorem uL(T:an)(D:List Bool)(L:List Int)(a d:Nat)(hv:ao T=true)(hf:bN T D=true)(hL:(L.length:Int)=T.nodes)(hub:∀x∈L, -1≤x∧x≤4194240)(ha:a<2*T.ae.length):
  Can Tryz.prog 44 [aN T,aQ D,aw L,num a,num d] (· =flag (vI T D L a d)):=by
 have hS:=aM hv
 obtain⟨x,hx⟩:=Int.eq_ofNat_of_zero_le (hS.tail a ha).1
 obtain⟨y,hy⟩:=Int.eq_ofNat_of_zero_le (hS.head a ha).1
 have hxL:x<L.length:=by have:=(hS.tail a ha).2;omega
 have hyL:y<L.length:=by have:=(hS.head a ha).2;omega
 have hcb:=hS.cost a ha
 have hDl:D.length=0∨a<D.length:=by simp only[bN,decide_eq_true_eq]at hf;omega
 have uy:=hub _ (bO (d:=0) hyL)
 obtain⟨p1,hp1⟩:∃q,(!aI D a)=q:=⟨_,rfl⟩
 obtain⟨p2,hp2⟩:∃q,decide ((x:Int)≠(d:Int))=q:=⟨_,rfl⟩
 obtain⟨p3,hp3⟩:∃q,decide (0≤L.getD y 0)=q:=⟨_,rfl⟩
 obtain⟨p4,hp4⟩:∃q,(decide (y=d)|| !cU T y)=q:=⟨_,rfl⟩
 obtain⟨p5,hp5⟩:∃q,decide (L.getD x 0=L.getD y 0+cb T a)=q:=⟨_,rfl⟩
 have hon:vI T D L a d=((((p1&&p2)&&p3)&&p4)&&p5):=by
  unfold vI
  rw[hx,hy,Int.toNat_natCast,Int.toNat_natCast,hp1,hp2,hp3,hp4,hp5]
 rw[hon]
 refine aE Tryz.func44 rfl Tryz.ntmps44 rfl<|ab (.a 2 rfl<|.k [1,2,3,4,5] rfl)<|dY mixed (by kernel_rfl) (.a 2 rfl<|.v [13,14] (dJ rfl (hx▸eN T hv a ha)) rfl rfl<|.a 2 rfl<|.v [16,17] (dJ rfl (hy▸gR T hv a ha)) rfl rfl<|.a 2 rfl<|.k [1,2,3,4,5,11,12] rfl) ?_
 refine jA mixed (by kernel_rfl) 10 (.raw (.bool ((((p1&&p2)&&p3)&&p4)&&p5))) [] rfl ?_ ?_
 ·refine .a 2 rfl<|.v [19,20] (dJ rfl (hp1▸qg D a hDl)) rfl rfl<|.a 1 rfl<|?_
  cases p1
  ·exact .a 33 rfl<|.k [10] rfl
  ·refine .a 2 rfl<|.v [23,24] (b9 rfl (hp2)) rfl rfl<|.a 2 rfl<|?_
   cases p2
   ·exact .a 28 rfl<|.k [10] rfl
   ·refine .a 2 rfl<|.v [28,29] (aJ (y) rfl) rfl rfl<|.v [30] (aL rfl (ax L y hyL)) rfl rfl<|.v [31] (b9 rfl (hp3)) rfl rfl<|.a 2 rfl<|?_
    cases p3
    ·exact .a 21 rfl<|.k [10] rfl
    ·refine .a 3 rfl<|.v [35,36,37] (dJ rfl (hp4▸kN T hv y d)) rfl rfl<|.a 2 rfl<|?_
     cases p4
     ·exact .a 15 rfl<|.k [10] rfl
     ·exact .a 2 rfl<|.v [41,42] (aJ (x) rfl) rfl rfl<|.v [43] (aL rfl (ax L x hxL)) rfl rfl<|.a 2 rfl<|.v [45,46] (aJ (y) rfl) rfl rfl<|.v [47] (aL rfl (ax L y hyL)) rfl rfl<|.a 2 rfl<|.v [49,50] (dJ rfl (kQ T hv a ha)) rfl rfl<|.v [48,51] (aS rfl) rfl rfl<|.v [44,52] (b9 rfl (hp5)) rfl rfl<|.a 2 rfl<|.k [10] rfl
 exact aq<|⟨_,_,aA.of rfl,aB.pure,rfl⟩
def fE(T:an)(D:List Bool)(L:List Int)(n d k:Nat):List Int:=((List.range k).filter fun a=>decide (aZ T a=(n:Int))&&vI T D L a d).map Int.ofNat
theorem nW(T:an)(D:List Bool)(L:List Int)(n d k:Nat):fE T D L n d (k+1)=fE T D L n d k++(if decide (aZ T k=(n:Int))&&vI T D L k d then [(k:Int)] else []):=by
 unfold fE
 rw[List.range_succ,List.filter_append,List.map_append]
 congr 1
 simp only[List.filter_cons,List.filter_nil]
 split<;>simp
theorem pN(T:an)(D:List Bool)(L:List Int)(n d k:Nat):(fE T D L n d k).length≤k:=by
 unfold fE
 rw[List.length_map]
 exact Nat.le_trans (List.length_filter_le _ _) (by simp)
theorem yG(T:an)(D:List Bool)(L:List Int)(n d:Nat)(hv:ao T=true)(hf:bN T D=true)(hL:(L.length:Int)=T.nodes)(hub:∀x∈L, -1≤x∧x≤4194240):
  Can Tryz.prog 209 [aN T,aQ D,aw L,num n,num d] (· =aw (fE T D L n d (2*T.ae.length))):=by
 have hll:=bJ hv
 refine aE Tryz.func209 rfl Tryz.ntmps209 rfl<|ab (.a 2 rfl<|.k [1,2,3,4,5] rfl)<|ab (.a 1 rfl<|.k [1,2,3,4,5,11] rfl)<|fp 11 3 1 rfl ?_
 refine ah<|ab (.a 1 rfl<|.k [1,2,3,4,5,11,12] rfl)<|au<|eu [1,2,3,4,5,11,12] rfl<|bf (fun r s=>∃k,k≤2*T.ae.length∧r=2*T.ae.length - k∧s=⟨[(1,aQ D),(2,aw L),(3,num n),(4,num d),(5,.aY (bq T) 0),(11,.own 0),(12,num k)],[some (.row 3 1 (fE T D L n d k).length (aR (fE T D L n d k)))]⟩) (2*T.ae.length) ⟨0,by omega,by omega,rfl⟩ ?_
 rintro r s ⟨k,hk,rfl,rfl⟩
 refine ah<|ab (.a 4 rfl<|.v (aS rfl (hc:=rfl)) rfl<|.a 1 rfl<|.k [1,2,3,4,5,11,12,18] rfl)<|ag rfl (fun hc=>?_) (fun hc=>?_)
 ·have hlt:k<2*T.ae.length:=by have:=of_decide_eq_true hc;omega
  have hlen:=pN T D L n d k
  have hst:=nW T D L n d k
  refine ai<|ah<|au ?_
  obtain⟨p1,hp1⟩:∃q,decide (aZ T k=(n:Int))=q:=⟨_,rfl⟩
  obtain⟨p2,hp2⟩:∃q,vI T D L k d=q:=⟨_,rfl⟩
  refine bu 33 (.raw (.bool (p1&&p2))) [1,2,3,4,5,11,12] rfl ?_ ?_
  ·refine .a 2 rfl<|.c rfl (eN T hv k hlt) rfl<|.a 1 rfl<|.v (b9 rfl (hp1)) rfl<|.a 1 rfl<|?_
   cases p1
   ·exact .a 7 rfl<|.k [33,1,2,3,4,5,11,12] rfl
   ·exact .a 5 rfl<|.c rfl (hp2▸uL T D L k d hv hf hL hub hlt) rfl<|.a 1 rfl<|.k [33,1,2,3,4,5,11,12] rfl
  refine ag rfl (fun hc=>?_) (fun hc=>?_)
  ·rw[hp1,hp2,hc,if_pos rfl]at hst
   refine bF<|av 3 rfl<|cp (bA rfl (bI.rk.get rfl) rfl rfl rfl rfl (by unfold maxLen;omega)) rfl<|av 1 rfl ?_
   refine dD [1] (.c 1<|.c 2<|.c 3<|.c 4<|.c 5<|.c 11<|.c 12<|.nil) (.kept rfl (.eJ rfl (cN _ _))<|.nil) rfl rfl (bc ?_)
   refine az (.a 1 rfl<|.v (aS rfl) rfl<|.a 1 rfl<|.k [1,2,3,4,5,11,12] rfl) ?_
   refine⟨2*T.ae.length - (k+1),by omega,k+1,by omega,rfl,?_⟩
   rw[hst]
   first
    |rfl
    |(simp only[List.length_append,List.length_singleton];rfl)
  ·rw[hp1,hp2,hc,if_neg (by simp),List.append_nil]at hst
   refine ai<|az (.a 1 rfl<|.v (aS rfl) rfl<|.a 1 rfl<|.k [1,2,3,4,5,11,12] rfl) ?_
   refine⟨2*T.ae.length - (k+1),by omega,k+1,by omega,rfl,?_⟩
   rw[hst]
   first
    |rfl
    |(simp only[List.length_append,List.length_singleton];rfl)
 ·have hke:k=2*T.ae.length:=by have:=of_decide_eq_false hc;omega
  subst hke
  exact ba<|ab (.a 2 rfl<|.k [10] rfl)<|aq<|⟨_,_,aA.of rfl,aB.eH rfl aj.pure,rfl⟩
theorem pg(T:an)(D:List Bool)(n d:Nat)(hv:ao T=true)(hn:(n:Int)<T.nodes):fE T D (bn T D d false) n d (2*T.ae.length)=aX T D n d:=by
 have hS:=aM hv
 unfold aX
 generalize bn T D d false=L
 have hpass:∀k,k<2*T.ae.length→(decide (aZ T k=(n:Int))&&vI T D L k d)=if n=d∨L.getD n 0<0 then false else(aZ T k==(n:Int))&&fV T D L (L.getD n 0) d k:=fun k hk=>by
  obtain⟨y,hy⟩:=Int.eq_ofNat_of_zero_le (hS.head k hk).1
  have hc:=hS.cost k hk
  by_cases ht:aZ T k=(n:Int)
  ·simp only[ht,decide_true,Bool.true_and,beq_self_eq_true]
   unfold vI fV
   rw[ht,hy,Int.toNat_natCast,Int.toNat_natCast]
   generalize L.getD n 0=u
   generalize L.getD y 0=v
   by_cases h1:n=d
   ·simp[h1]
   ·by_cases h2:u<0
    ·rw[if_pos (.inr h2)]
     by_cases h3:0≤v
     ·have:¬u=v+cb T k:=by omega
      simp[this]
     ·simp[h3]
    ·rw[if_neg (by omega)]
     have e1:decide ((n:Int)≠(d:Int))=true:=by simp;omega
     have e2:decide (v<0)= !decide (0≤v):=by
      by_cases h:0≤v
      ·simp only[h,decide_true,Bool.not_true,decide_eq_false_iff_not];omega
      ·simp only[h,decide_false,Bool.not_false,decide_eq_true_eq];omega
     have e3:decide ((y:Int)≠(d:Int))= !decide (y=d):=by
      by_cases h:y=d
      ·simp[h]
      ·simp only[h,decide_false,Bool.not_false,decide_eq_true_eq];omega
     have e4:decide (v+cb T k=u)=decide (u=v+cb T k):=by
      by_cases h:u=v+cb T k
      ·simp[h]
      ·simp only[h,decide_false,decide_eq_false_iff_not];omega
     rw[e1,e2,e3,e4]
     generalize decide (0≤v)=b1
     generalize decide (y=d)=b2
     generalize decide (u=v+cb T k)=b3
     cases aI D k<;>cases b1<;>cases b2<;>cases b3<;>cases cU T y<;>rfl
  ·simp[ht]
 unfold fE
 rw[show(List.range (2*T.ae.length)).filter (fun a=>decide (aZ T a=(n:Int))&&vI T D L a d)=(List.range (2*T.ae.length)).filter (fun k=>if n=d∨L.getD n 0<0 then false else(aZ T k==(n:Int))&&fV T D L (L.getD n 0) d k) from List.filter_congr fun k hk=>hpass k (List.mem_range.1 hk)]
 by_cases h:n=d∨L.getD n 0<0
 ·simp only[if_pos h];simp
 ·simp only[if_neg h]
  unfold jw bG gw
  rw[List.filter_map]
  congr 1
  rw[List.filter_filter]
  apply List.filter_congr
  intro k _
  simp[Function.comp,Bool.and_comm]
end PW
end Go.Proofs.YtnegbdpggideiaaGreatDoor
namespace Go.Proofs.YtnegbdpggideiaaGreatDoor
namespace PW
open Go.RowKit cH Mem Net
end PW
end Go.Proofs.YtnegbdpggideiaaGreatDoor
namespace Go.Proofs.YtnegbdpggideiaaGreatDoor
namespace PW
open Go.RowKit cH Mem Net
theorem CI(a b c d:Int)(w:World):(Op.equalIn 10000 103 (.agg #[.int .i64 a,.int .i64 b]) (.agg #[.int .i64 c,.int .i64 d])).run Tryz.prog w= .ok (a==c&&b==d) w:=by
 have u3:=Tryz.underlying3
 have a3:=Tryz.isAgg3
 have z3:=Tryz.sizeOf3
 have hS:Tryz.prog.underlying 103=some (.struct (Tryz.prog.fieldsOf 103)):=by kernel_rfl
 rw[show(10000:Nat)=9999+1 from rfl,run_equalIn_agg w 9999 103 _ _ hS (by kernel_rfl)]
 simp only[Program.fieldsOf,Tryz.underlying103]
 go_simp
 by_cases h1:a=c<;>by_cases h2:b=d<;>simp[h1,h2]
theorem AM{E:Env}{w:World}{v:Value}{s:ca}(h:cG E w v (y6 s)):v= .agg #[.int .i64 s.kind,.int .i64 s.num]:=by
 unfold y6 nk at h
 cases h with
 |agg cs _ hl hr=>
  obtain⟨l⟩:=cs
  match l,hl,hr with
  | [x,y],_,hr=>
   have h0:=dV (hr 0 x _ rfl rfl)
   have h1:=dV (hr 1 y _ rfl rfl)
   subst h0;subst h1;rfl
  | [],hl,_=>simp at hl
  | [_],hl,_=>simp at hl
  |_::_::_::_,hl,_=>simp at hl
theorem C0{σ:cm}{t:cd}{o:Oper}{x y:Operand}{tz:TypeId}{a b:ca}{q:Bool}(ho:o.op= .binOp .eql 103 x y tz)(hx:aD t x=some (y6 a))(hy:aD t y=some (y6 b))(hq:decide (a=b)=q):br Tryz.prog σ t o (.raw (.bool q)):=by
 intro F base E ρ w hρ _ hT
 have h1:=AM (ay hρ hT hx)
 have h2:=AM (ay hρ hT hy)
 have hb:(a.kind==b.kind&&a.num==b.num)=q:=by
  rw[←hq]
  obtain⟨a1,a2⟩:=a
  obtain⟨b1,b2⟩:=b
  by_cases e1:a1=b1<;>by_cases e2:a2=b2<;>simp[e1,e2]
 simp only[execOp,ho,h1,h2,Sem.run_bind,run_eqGuard_agg w _ _ _ _ _ _ (show Tryz.prog.eqGuardType Tryz.prog.depth 103=false by kernel_rfl),Result.andThen_ok,run_eql_struct,CI,Sem.run_pure,hb]
 exact bw (.raw _)
end PW
end Go.Proofs.YtnegbdpggideiaaGreatDoor
namespace Go.Proofs.YtnegbdpggideiaaGreatDoor
namespace PW
open Go.RowKit cH Mem Net
deriving instance DecidableEq for iV
deriving instance DecidableEq for ef
theorem Hy{E:Env}{w:World}{v:Value}{x:ef}(h:cG E w v (fZ x)):x.eO.length≤maxLen∧x.down.length≤maxLen:=by
 unfold fZ fN at h
 cases h with
 |agg cs _ hl hr=>
  have hr:bb E w cs.toList _:=⟨by simpa using hl,fun i x u h1 h2=>hr i x u (by simpa using h1) h2⟩
  obtain⟨v1,_,h1⟩:=hr.get (i:=1) rfl
  obtain⟨v2,_,h2⟩:=hr.get (i:=2) rfl
  exact⟨mB h1,mB h2⟩
end PW
end Go.Proofs.YtnegbdpggideiaaGreatDoor
namespace Go.Proofs.YtnegbdpggideiaaGreatDoor
namespace PW
open Go.RowKit cH Mem Net
def oH(T:an)(s:ca):Bool:=if s.kind=1 then bd T s.num else if s.kind=2 then eF T s.num else if s.kind=3 then bU s.num 1 64 else if s.kind=4 then bU s.num 0 65535 else false
def fh(T:an)(n:Int)(L:List Int):Bool:=decide (∀i,i<L.length→eF T (L.getD i 0)=true∧aZ T (L.getD i 0).toNat=n∧(0<i→L.getD (i - 1) 0<L.getD i 0))
def jl(T:an)(n d:Int)(e:iV):Bool:=fh T n e.aK&&(!(decide (d=n)&&decide (0<(e.aK.length:Int))))&&(if e.rep then decide ((e.aK.length:Int)=1)&&decide ((e.push.length:Int)≤32)&&e.push.all (oH T) else decide ((e.push.length:Int)=0))
def IY:iV:=⟨[],false,[]⟩
def nG(T:an)(n:Int)(l:List iV):Bool:=decide (∀d,d<l.length→jl T n d (l.getD d IY)=true)
def dM(T:an)(x:ef):Bool:=ao T&&bd T x.node&&decide ((x.eO.length:Int)=T.nodes)&&fh T x.node x.down&&nG T x.node x.eO
theorem cJ{T:an}{a:Int}:eF T a=true↔0≤a∧a<2*(T.ae.length:Int):=by simp[eF]
theorem pq(T:an)(a:Int)(h:eF T a=true):Can Tryz.prog 79 [aN T,num a] (· =num (aZ T a.toNat)):=by
 obtain⟨h0,h1⟩:=cJ.1 h
 obtain⟨a,rfl⟩:=Int.eq_ofNat_of_zero_le h0
 exact jn T a (by omega)
theorem DE(T:an)(hl:T.ae.length≤4611686018427387903)(s:ca):Can Tryz.prog 171 [aN T,y6 s] (· =flag (oH T s)):=by
 unfold oH
 refine aE Tryz.func171 rfl Tryz.ntmps171 rfl<|ab (.a 3 rfl<|.k [2,3] rfl)<|ah<|ab (.a 2 rfl<|.k [2,3,6] rfl)<|au<|ab (.a 2 rfl<|.k [2,3,6,7] rfl)<|ag rfl (fun hc=>?_) (fun hc=>?_)
 ·rw[if_pos (tt hc)]
  exact ab (.a 3 rfl<|.c rfl (dv T s.num) rfl<|.a 1 rfl<|.k [4] rfl)<|aq<|⟨_,_,aA.of rfl,aB.pure,rfl⟩
 ·rw[if_neg (ff hc)]
  refine ab (.a 2 rfl<|.k [2,3,6,13] rfl)<|ag rfl (fun hc=>?_) (fun hc=>?_)
  ·rw[if_pos (tt hc)]
   exact ab (.a 3 rfl<|.c rfl (qw T hl s.num) rfl<|.a 1 rfl<|.k [4] rfl)<|aq<|⟨_,_,aA.of rfl,aB.pure,rfl⟩
  ·rw[if_neg (ff hc)]
   refine ab (.a 2 rfl<|.k [3,6,19] rfl)<|ag rfl (fun hc=>?_) (fun hc=>?_)
   ·rw[if_pos (tt hc)]
    obtain⟨p1,hp1⟩:∃q,decide (1≤s.num)=q:=⟨_,rfl⟩
    obtain⟨p2,hp2⟩:∃q,decide (s.num≤64)=q:=⟨_,rfl⟩
    have he:bU s.num 1 64=(p1&&p2):=by rw[←hp1,←hp2];unfold bU;exact Bool.decide_and _ _
    rw[he]
    refine bu 4 (.raw (.bool (p1&&p2))) [] rfl ?_ ?_
    ·refine .a 2 rfl<|.v (b9 rfl (hp1)) rfl<|.a 1 rfl<|?_
     cases p1
     ·exact .a 5 rfl<|.k [4] rfl
     ·exact .a 2 rfl<|.v (b9 rfl (hp2)) rfl<|.a 2 rfl<|.k [4] rfl
    exact aq<|⟨_,_,aA.of rfl,aB.pure,rfl⟩
   ·rw[if_neg (ff hc)]
    refine ab (.a 2 rfl<|.k [3,29] rfl)<|ag rfl (fun hc=>?_) (fun hc=>?_)
    ·rw[if_pos (tt hc)]
     obtain⟨p1,hp1⟩:∃q,decide (0≤s.num)=q:=⟨_,rfl⟩
     obtain⟨p2,hp2⟩:∃q,decide (s.num≤65535)=q:=⟨_,rfl⟩
     have he:bU s.num 0 65535=(p1&&p2):=by rw[←hp1,←hp2];unfold bU;exact Bool.decide_and _ _
     rw[he]
     refine bu 4 (.raw (.bool (p1&&p2))) [] rfl ?_ ?_
     ·refine .a 2 rfl<|.v (b9 rfl (hp1)) rfl<|.a 1 rfl<|?_
      cases p1
      ·exact .a 5 rfl<|.k [4] rfl
      ·exact .a 2 rfl<|.v (b9 rfl (hp2)) rfl<|.a 2 rfl<|.k [4] rfl
     exact aq<|⟨_,_,aA.of rfl,aB.pure,rfl⟩
    ·rw[if_neg (ff hc)]
     exact ai<|ab (.a 1 rfl<|.k [4] rfl)<|aq<|⟨_,_,aA.of rfl,aB.pure,rfl⟩
def xI(T:an)(n:Int)(L:List Int)(i:Nat):Bool:=decide (eF T (L.getD i 0)=true∧aZ T (L.getD i 0).toNat=n∧(0<i→L.getD (i - 1) 0<L.getD i 0))
theorem Bf{T:an}{n:Int}{L:List Int}(h:∀i,i<L.length→xI T n L i=true):fh T n L=true:=decide_eq_true fun i hi=>tt (h i hi)
theorem yL{T:an}{n:Int}{L:List Int}{i:Nat}(hi:i<L.length)(h:xI T n L i=false):fh T n L=false:=decide_eq_false fun ha=>ff h (ha i hi)
theorem oD(T:an)(hv:ao T=true)(n:Int)(L:List Int):Can Tryz.prog 140 [aN T,num n,aw L] (· =flag (fh T n L)):=by
 have hll:=bJ hv
 refine qk fun⟨E,w,vs,hR⟩=>?_
 obtain⟨v,_,hv⟩:=hR.get (i:=2) rfl
 have hm:=mB hv
 unfold maxLen at hm
 refine aE Tryz.func140 rfl Tryz.ntmps140 rfl<|ab (.a 2 rfl<|.k [1,2,3] rfl)<|ah<|ab (.a 3 rfl<|.k [1,2,3,9,10,11] rfl)<|au<|eu [1,2,3,9,10,11] rfl<|bf (fun r s=>∃k,k≤L.length∧r=L.length - k∧(∀i,i<k→xI T n L i=true)∧s=⟨[(1,num n),(2,aw L),(3,.aY (bq T) 0),(9,aw L),(10,num L.length),(11,num k)],[]⟩) L.length ⟨0,by omega,by omega,fun i hi=>by omega,rfl⟩ ?_
 rintro r s ⟨k,hk,rfl,hall,rfl⟩
 refine ab (.a 1 rfl<|.k [1,2,3,9,10,11,12] rfl)<|ah<|ag rfl (fun hc=>?_) (fun hc=>?_)
 ·have hlt:k<L.length:=by have:=tt hc;omega
  obtain⟨p1,hp1⟩:∃q,eF T (L.getD k 0)=q:=⟨_,rfl⟩
  obtain⟨p2,hp2⟩:∃q,decide (aZ T (L.getD k 0).toNat≠n)=q:=⟨_,rfl⟩
  obtain⟨p3,hp3⟩:∃q,decide (0<(k:Int))=q:=⟨_,rfl⟩
  obtain⟨p4,hp4⟩:∃q,decide (L.getD k 0≤L.getD (k - 1) 0)=q:=⟨_,rfl⟩
  refine ai<|ah<|au<|ab (.a 1 rfl<|.v (aJ (k) rfl) rfl<|.v (aL rfl (ax L k hlt)) rfl<|.a 2 rfl<|.k [1,2,3,7,8,9,10,11] rfl)<|bu 39 (.raw (.bool (((!p1)||p2)||(p3&&p4)))) [1,2,3,9,10,11] rfl ?_ ?_
  ·refine .a 2 rfl<|.c rfl (hp1▸qw T (by omega) (L.getD k 0)) rfl<|.a 2 rfl<|?_
   cases p1
   ·exact .a 19 rfl<|.k [39,1,2,3,9,10,11] rfl
   ·refine .a 2 rfl<|.c rfl (pq T _ hp1) rfl<|.a 1 rfl<|.v (b9 rfl (hp2)) rfl<|.a 2 rfl<|?_
    cases p2
    ·refine .a 1 rfl<|.v (b9 rfl (hp3)) rfl<|.a 1 rfl<|?_
     cases p3
     ·exact .a 9 rfl<|.k [39,1,2,3,9,10,11] rfl
     ·exact .a 2 rfl<|.v (aS rfl) rfl<|.v (aJ (k - 1) rfl (by have:=tt hp3;omega) (by omega)) rfl<|.v (aL rfl (ax L (k - 1) (by omega))) rfl<|.a 1 rfl<|.v (b9 rfl (hp4)) rfl<|.a 2 rfl<|.k [39,1,2,3,9,10,11] rfl
    ·exact .a 12 rfl<|.k [39,1,2,3,9,10,11] rfl
  refine ag rfl (fun hx=>?_) (fun hx=>?_)
  ·have hno:xI T n L k=false:=by
    refine decide_eq_false fun⟨h1,h2,h3⟩=>?_
    rw[h1]at hp1
    rw[decide_eq_false (by simpa using h2)]at hp2
    subst hp1 hp2
    simp only[Bool.not_true,Bool.false_or,Bool.and_eq_true]at hx
    rw[hx.1]at hp3
    rw[hx.2]at hp4
    have:=h3 (by have:=tt hp3;omega)
    have:=tt hp4
    omega
   rw[yL hlt hno]
   exact ab (.a 1 rfl<|.k [6] rfl)<|aq<|⟨_,_,aA.of rfl,aB.pure,rfl⟩
  ·have hyes:xI T n L k=true:=by
    obtain⟨c1,c3⟩:=Bool.or_eq_false_iff.1 hx
    obtain⟨c1,c2⟩:=Bool.or_eq_false_iff.1 c1
    refine decide_eq_true ⟨?_,?_,fun h0=>?_⟩
    ·rw[hp1];simpa using c1
    ·rw[c2]at hp2;exact Classical.byContradiction (ff hp2)
    ·rw[decide_eq_true (by omega)]at hp3
     subst hp3
     rw[Bool.true_and]at c3
     rw[c3]at hp4
     have:=ff hp4
     omega
   refine ai<|az (.v (aS rfl) rfl<|.a 1 rfl<|.k [1,2,3,9,10,11] rfl) ?_
   refine⟨L.length - (k+1),by omega,k+1,by omega,rfl,fun i hi=>?_,rfl⟩
   by_cases h:i=k
   ·rw[h];exact hyes
   ·exact hall i (by omega)
 ·have hke:k=L.length:=by have:=ff hc;omega
  subst hke
  rw[Bf hall]
  exact ba<|ab (.a 1 rfl<|.k [6] rfl)<|aq<|⟨_,_,aA.of rfl,aB.pure,rfl⟩
theorem Ko{α:Type}(p:α→Bool)(L:List α)(k:Nat)(a:α)(h:L[k]? =some a):(L.take (k+1)).all p=((L.take k).all p&&p a):=by
 rw[List.take_add_one,h,List.all_append];simp
theorem Kf{α:Type}(p:α→Bool)(L:List α)(k:Nat)(a:α)(h:L[k]? =some a)(hp:p a=false):L.all p=false:=by
 rw[Bool.eq_false_iff]
 intro ha
 have:=List.all_eq_true.1 ha a (List.mem_of_getElem? h)
 rw[hp]at this
 cases this
theorem zg(T:an)(hv:ao T=true)(e:iV)(n d:Int):Can Tryz.prog 141 [aN T,rM e,num n,num d] (· =flag (jl T n d e)):=by
 have hll:=bJ hv
 obtain⟨p1,hp1⟩:∃q,fh T n e.aK=q:=⟨_,rfl⟩
 obtain⟨p2,hp2⟩:∃q,decide (d=n)=q:=⟨_,rfl⟩
 obtain⟨p3,hp3⟩:∃q,decide (0<(e.aK.length:Int))=q:=⟨_,rfl⟩
 unfold jl
 rw[hp1,hp2,hp3]
 refine aE Tryz.func141 rfl Tryz.ntmps141 rfl<|ab (.a 3 rfl<|.k [2,3,4,5] rfl)<|ah<|bu 27 (.raw (.bool ((!p1)||(p2&&p3)))) [4,5] rfl ?_ ?_
 ·refine .a 4 rfl<|.c rfl (hp1▸oD T hv n e.aK) rfl<|.a 2 rfl<|?_
  cases p1
  ·exact .a 10 rfl<|.k [27,4,5] rfl
  ·refine .a 2 rfl<|.v (b9 rfl (hp2)) rfl<|.a 1 rfl<|?_
   cases p2
   ·exact .a 6 rfl<|.k [27,4,5] rfl
   ·exact .a 3 rfl<|.v (b9 rfl (hp3)) rfl<|.a 2 rfl<|.k [27,4,5] rfl
 refine ag rfl (fun hc=>?_) (fun hc=>?_)
 ·have he:(p1&& !(p2&&p3))=false:=by cases p1<;>cases p2<;>cases p3<;>first|rfl|cases hc
  rw[he,Bool.false_and]
  exact ab (.a 1 rfl<|.k [8] rfl)<|aq<|⟨_,_,aA.of rfl,aB.pure,rfl⟩
 ·have he:(p1&& !(p2&&p3))=true:=by cases p1<;>cases p2<;>cases p3<;>first|rfl|cases hc
  rw[he,Bool.true_and]
  refine ai<|ah<|ab (.a 3 rfl<|.k [4,5,30] rfl)<|ag rfl (fun hc=>?_) (fun hc=>?_)
  ·have hr:e.rep=false:=by simpa using hc
   rw[hr,if_neg (by simp)]
   exact ab (.a 5 rfl<|.k [8] rfl)<|aq<|⟨_,_,aA.of rfl,aB.pure,rfl⟩
  ·have hr:e.rep=true:=by simpa using hc
   rw[hr,if_pos rfl]
   refine ai<|ah ?_
   obtain⟨p4,hp4⟩:∃q,decide ((e.aK.length:Int)≠1)=q:=⟨_,rfl⟩
   obtain⟨p5,hp5⟩:∃q,decide (32<(e.push.length:Int))=q:=⟨_,rfl⟩
   refine bu 44 (.raw (.bool (p4||p5))) [4,5] rfl ?_ ?_
   ·refine .a 3 rfl<|.v (b9 rfl (hp4)) rfl<|.a 1 rfl<|?_
    cases p4
    ·exact .a 3 rfl<|.v (b9 rfl (hp5)) rfl<|.a 1 rfl<|.k [44,4,5] rfl
    ·exact .a 5 rfl<|.k [44,4,5] rfl
   refine ag rfl (fun hx=>?_) (fun hx=>?_)
   ·have hf:(decide ((e.aK.length:Int)=1)&&decide ((e.push.length:Int)≤32))=false:=by
     rcases Bool.or_eq_true_iff.1 hx with h|h
     ·rw[h]at hp4;rw[decide_eq_false (tt hp4)];rfl
     ·rw[h]at hp5;rw[decide_eq_false (by have:=tt hp5;omega:¬((e.push.length:Int)≤32)),Bool.and_false]
    rw[hf,Bool.false_and]
    exact ab (.a 1 rfl<|.k [8] rfl)<|aq<|⟨_,_,aA.of rfl,aB.pure,rfl⟩
   ·obtain⟨c1,c2⟩:=Bool.or_eq_false_iff.1 hx
    rw[c1]at hp4
    rw[c2]at hp5
    have hlen:e.push.length≤32:=by have:=ff hp5;omega
    rw[decide_eq_true (Classical.byContradiction (ff hp4)),decide_eq_true (by omega:(e.push.length:Int)≤32),Bool.true_and,Bool.true_and]
    refine ai<|ah<|ab (.a 4 rfl<|.k [4,46,47,48] rfl)<|au<|eu [4,46,47,48] rfl<|bf (fun r s=>∃k,k≤e.push.length∧r=e.push.length - k∧(e.push.take k).all (oH T)=true∧s=⟨[(4,.aY (bq T) 0),(46,cM e.push),(47,num e.push.length),(48,num k)],[]⟩) e.push.length ⟨0,by omega,by omega,by simp,rfl⟩ ?_
    rintro r s ⟨k,hk,rfl,hall,rfl⟩
    refine ab (.a 1 rfl<|.k [4,46,47,48,49] rfl)<|ah<|ag rfl (fun hy=>?_) (fun hy=>?_)
    ·have hlt:k<e.push.length:=by have:=tt hy;omega
     obtain⟨a,ha⟩:∃a,e.push[k]? =some a:=⟨e.push[k],by simp[hlt]⟩
     refine ai<|ah<|au<|aP<|bC (aJ (k*2) rfl) rfl<|bC (gO rfl (o3 e.push k a ha) rfl) rfl<|av 2 rfl<|aG [4,10,46,47,48] rfl ?_
     refine ab (.a 2 rfl<|.c rfl (DE T (by omega) a) rfl<|.a 1 rfl<|.k [4,46,47,48,55] rfl)<|dx [] (.c 4<|.c 46<|.c 47<|.c 48<|.c 55 .nil) .nil rfl rfl ?_
     refine ag rfl (fun hz=>?_) (fun hz=>?_)
     ·rw[Kf _ _ k a ha (by simpa using hz)]
      exact ab (.a 1 rfl<|.k [8] rfl)<|aq<|⟨_,_,aA.of rfl,aB.pure,rfl⟩
     ·have hz':oH T a=true:=by simpa using hz
      refine ai<|az (.v (aS rfl) rfl<|.a 1 rfl<|.k [4,46,47,48] rfl) ?_
      exact⟨e.push.length - (k+1),by omega,k+1,by omega,rfl,by rw[Ko _ _ k a ha,hall,hz'];rfl,rfl⟩
    ·have hke:k=e.push.length:=by have:=ff hy;omega
     subst hke
     rw[List.take_length]at hall
     rw[hall]
     exact ba<|ab (.a 1 rfl<|.k [8] rfl)<|aq<|⟨_,_,aA.of rfl,aB.pure,rfl⟩
theorem mQ(l:List iV)(k:Nat)(e:iV)(h:l[k]? =some e):l.getD k IY=e:=by rw[List.getD_eq_getElem?_getD,h];rfl
theorem xG{T:an}{n:Int}{l:List iV}{k:Nat}{e:iV}(h:l[k]? =some e)(hf:jl T n k e=false):nG T n l=false:=decide_eq_false fun ha=>by
 have:=ha k (List.getElem?_eq_some_iff.1 h).1
 rw[mQ l k e h,hf]at this
 cases this
theorem jk{T:an}{n:Int}{l:List iV}(h:∀(k:Nat) e,l[k]? =some e→jl T n k e=true):nG T n l=true:=decide_eq_true fun d hd=>by
 have he:l[d]? =some l[d]:=by simp[hd]
 rw[mQ l d _ he]
 exact h d _ he
theorem sh(T:an)(x:ef):Can Tryz.prog 99 [aN T,fZ x] (· =flag (dM T x)):=by
 refine qk fun⟨E,w,vs,hR⟩=>?_
 obtain⟨v,_,hvv⟩:=hR.get (i:=1) rfl
 have hm:=(Hy hvv).1
 unfold maxLen at hm
 obtain⟨p1,hp1⟩:∃q,ao T=q:=⟨_,rfl⟩
 obtain⟨p2,hp2⟩:∃q,bd T x.node=q:=⟨_,rfl⟩
 obtain⟨p3,hp3⟩:∃q,decide ((x.eO.length:Int)≠T.nodes)=q:=⟨_,rfl⟩
 obtain⟨p4,hp4⟩:∃q,fh T x.node x.down=q:=⟨_,rfl⟩
 have he:decide ((x.eO.length:Int)=T.nodes)= !p3 :=by rw[←hp3];simp
 unfold dM
 rw[hp1,hp2,he,hp4]
 refine aE Tryz.func99 rfl Tryz.ntmps99 rfl<|ab (.a 3 rfl<|.k [2,3] rfl)<|ah<|bu 33 (.raw (.bool ((((!p1)|| !p2)||p3)|| !p4))) [2,3] rfl ?_ ?_
 ·refine .a 1 rfl<|.c rfl (hp1▸eC T) rfl<|.a 2 rfl<|?_
  cases p1
  ·exact .a 23 rfl<|.k [33,2,3] rfl
  ·refine .a 3 rfl<|.c rfl (hp2▸dv T x.node) rfl<|.a 3 rfl<|?_
   cases p2
   ·exact .a 16 rfl<|.k [33,2,3] rfl
   ·refine .a 5 rfl<|.v (b9 rfl (hp3)) rfl<|.a 2 rfl<|?_
    cases p3
    ·exact .a 5 rfl<|.c rfl (hp4▸oD T hp1 x.node x.down) rfl<|.a 2 rfl<|.k [33,2,3] rfl
    ·exact .a 8 rfl<|.k [33,2,3] rfl
 refine ag rfl (fun hc=>?_) (fun hc=>?_)
 ·have hf:(p1&&p2&& !p3 &&p4)=false:=by cases p1<;>cases p2<;>cases p3<;>cases p4<;>first|rfl|cases hc
  rw[hf,Bool.false_and]
  exact ab (.a 1 rfl<|.k [4] rfl)<|aq<|⟨_,_,aA.of rfl,aB.pure,rfl⟩
 ·have hf:(p1&&p2&& !p3 &&p4)=true:=by cases p1<;>cases p2<;>cases p3<;>cases p4<;>first|rfl|cases hc
  rw[hf,Bool.true_and]
  have e1:p1=true:=by cases p1<;>simp_all
  rw[e1]at hp1
  refine ai<|ah<|ab (.a 4 rfl<|.k [2,3,35,36,37] rfl)<|au<|eu [2,3,35,36,37] rfl<|bf (fun r s=>∃k,k≤x.eO.length∧r=x.eO.length - k∧(∀(i:Nat) e,i<k→x.eO[i]? =some e→jl T x.node i e=true)∧s=⟨[(2,.aY (bq T) 0),(3,.aY (fN x) 0),(35,jT x.eO),(36,num x.eO.length),(37,num k)],[]⟩) x.eO.length ⟨0,by omega,by omega,fun i e hi=>by omega,rfl⟩ ?_
  rintro r s ⟨k,hk,rfl,hall,rfl⟩
  refine ab (.a 1 rfl<|.k [2,3,35,36,37,38] rfl)<|ah<|ag rfl (fun hy=>?_) (fun hy=>?_)
  ·have hlt:k<x.eO.length:=by have:=tt hy;omega
   obtain⟨e,hek⟩:∃a,x.eO[k]? =some a:=⟨x.eO[k],by simp[hlt]⟩
   refine ai<|ah<|au<|aP<|av 1 rfl<|bC (aJ (k*3) rfl) rfl<|bC (gO rfl (px x.eO k e hek) rfl) rfl<|av 3 rfl<|aG [2,3,5,6,35,36,37] rfl ?_
   refine ab (.a 5 rfl<|.c rfl (zg T hp1 e x.node k) rfl<|.a 1 rfl<|.k [2,3,35,36,37,48] rfl)<|dx [] (.c 2<|.c 3<|.c 35<|.c 36<|.c 37<|.c 48 .nil) .nil rfl rfl ?_
   refine ag rfl (fun hz=>?_) (fun hz=>?_)
   ·rw[xG hek (by simpa using hz)]
    exact ab (.a 1 rfl<|.k [4] rfl)<|aq<|⟨_,_,aA.of rfl,aB.pure,rfl⟩
   ·have hz':jl T x.node k e=true:=by simpa using hz
    refine ai<|az (.v (aS rfl) rfl<|.a 1 rfl<|.k [2,3,35,36,37] rfl) ?_
    refine⟨x.eO.length - (k+1),by omega,k+1,by omega,rfl,fun i e' hi he'=>?_,rfl⟩
    by_cases h:i=k
    ·subst h;rw[hek]at he';cases he';exact hz'
    ·exact hall i e' (by omega) he'
  ·have hke:k=x.eO.length:=by have:=ff hy;omega
   rw[jk fun i e hi=>hall i e (by have:=(List.getElem?_eq_some_iff.1 hi).1;omega) hi]
   exact ba<|ab (.a 1 rfl<|.k [4] rfl)<|aq<|⟨_,_,aA.of rfl,aB.pure,rfl⟩
end PW
end Go.Proofs.YtnegbdpggideiaaGreatDoor
namespace Go.Proofs.YtnegbdpggideiaaGreatDoor
namespace PW
open Go.RowKit cH Mem Net
theorem lC(T:an)(n:Int):(bG T n).Pairwise (· < ·):=by
 unfold bG gw
 refine List.Pairwise.map _ (fun a b h=>?_) ((List.pairwise_lt_range (n:=2*T.ae.length)).filter _)
 show(a:Int)<(b:Int)
 omega
theorem jI{T:an}{n:Int}{a:Int}:a∈bG T n↔eF T a=true∧aZ T a.toNat=n:=by
 unfold bG gw
 rw[List.mem_map,cJ]
 constructor
 ·rintro⟨b,hb,rfl⟩
  obtain⟨h1,h2⟩:=List.mem_filter.1 hb
  have:=List.mem_range.1 h1
  refine⟨⟨by simp,by simp;omega⟩,by simpa using h2⟩
 ·rintro⟨⟨h0,h1⟩,h2⟩
  refine⟨a.toNat,List.mem_filter.2 ⟨List.mem_range.2 (by omega),by simpa using h2⟩,by simp;omega⟩
theorem rB{T:an}{n:Int}{L:List Int}(hs:L.Pairwise (· < ·))(hm:∀a∈L,eF T a=true∧aZ T a.toNat=n):fh T n L=true:=decide_eq_true fun i hi=>by
 have h1:=hm _ (bO (d:=0) hi)
 refine⟨h1.1,h1.2,fun h0=>?_⟩
 have:=List.pairwise_iff_getElem.1 hs (i - 1) i (by omega) hi (by omega)
 rw[List.getD_eq_getElem?_getD,List.getD_eq_getElem?_getD,List.getElem?_eq_getElem hi,List.getElem?_eq_getElem (by omega:i - 1<L.length)]
 exact this
theorem mP(T:an)(n:Int)(p:Int→Bool):fh T n ((bG T n).filter p)=true:=rB ((lC T n).filter p) fun _ ha=>jI.1 (List.mem_filter.1 ha).1
theorem qW(T:an)(D:List Bool)(n d:Nat):fh T n (aX T D n d)=true:=by
 unfold aX
 split
 ·exact decide_eq_true fun i hi=>by simp at hi
 ·exact mP T n _
theorem jb(T:an)(D:List Bool)(n:Nat):aX T D n n=[]:=by unfold aX;rw[if_pos (.inl rfl)]
theorem kE{T:an}{D:List Bool}(hv:ao T=true){n:Nat}(hn:(n:Int)<T.nodes):dM T (dK T D n)=true:=by
 unfold dM dK
 have h1:bd T (n:Int)=true:=aT.2 ⟨by omega,hn⟩
 have hN:=(aM hv).nodes
 have h2:decide (((oR T D n T.nodes.toNat).length:Int)=T.nodes)=true:=decide_eq_true (by rw[vo];omega)
 have h3:fh T n (cr D (bG T n))=true:=mP T n _
 have h4:nG T n (oR T D n T.nodes.toNat)=true:=jk fun d e he=>by
  unfold oR at he
  rw[List.getElem?_map,Option.map_eq_some_iff]at he
  obtain⟨d',hd',rfl⟩:=he
  have hd:d'=d:=by
   have:=List.getElem?_eq_some_iff.1 hd'
   obtain⟨h,h'⟩:=this
   simpa using h'.symm
  subst hd
  unfold jl
  simp only[qW,Bool.true_and]
  by_cases hdn:d'=n
  ·subst hdn;rw[jb];simp
  ·rw[decide_eq_false (by omega)];simp
 rw[hv,h1,h2,h3,h4]
 rfl
theorem ot{T:an}{D:List Bool}(hv:ao T=true){d x:Nat}(hd:(d:Int)<T.nodes)(hx:(x:Int)<T.nodes):(bn T D d false).getD x 0=at' (bn T D d false) (x:Int):=by
 have hl:=(cI (D:=D) hv (dir:=false) hd).1
 unfold at'
 rw[Int.toNat_natCast,List.getD_eq_getElem?_getD,List.getD_eq_getElem?_getD,List.getElem?_eq_getElem (by omega)]
 rfl
structure jx (T:an) (D:List Bool) (n d a:Nat):Prop where
 eU:a<2*T.ae.length
 tail:aZ T a=(n:Int)
 up:aI D a=false
 ne:n≠d
 reach:0≤(bn T D d false).getD (aW T a).toNat 0
 pass:aW T a=(d:Int)∨cU T (aW T a).toNat=false
 sum:(bn T D d false).getD n 0=(bn T D d false).getD (aW T a).toNat 0+cb T a
theorem cL{T:an}{D:List Bool}{n d:Nat}{a:Int}(h:a∈aX T D n d):∃k:Nat,a=k∧jx T D n d k:=by
 unfold aX at h
 split at h
 ·simp at h
 ·rename_i hne
  obtain⟨h1,h2⟩:=List.mem_filter.1 h
  obtain⟨h3,h4⟩:=jI.1 h1
  obtain⟨h5,h6⟩:=cJ.1 h3
  obtain⟨k,rfl⟩:=Int.eq_ofNat_of_zero_le h5
  rw[Int.toNat_natCast]at h2 h4
  unfold fV at h2
  simp only[Bool.and_eq_true,Bool.not_eq_true',Bool.or_eq_false_iff,decide_eq_true_eq,decide_eq_false_iff_not]at h2
  obtain⟨⟨⟨g1,g2⟩,g3⟩,g4⟩:=h2
  refine⟨k,rfl,by omega,h4,g1,fun e=>hne (.inl e),by omega,?_,by omega⟩
  rcases Bool.and_eq_false_iff.1 g3 with g|g
  ·exact .inl (Classical.byContradiction (ff g))
  ·exact .inr g
theorem fk{T:an}{D:List Bool}{n d k:Nat}(h:jx T D n d k)(hc:1≤cb T k):(k:Int)∈aX T D n d:=by
 have hs:=h.sum
 have hr:=h.reach
 unfold aX
 rw[if_neg (by rintro(e|e);exact h.ne e;omega)]
 refine List.mem_filter.2 ⟨jI.2 ⟨cJ.2 ⟨by omega,by have:=h.eU;omega⟩,h.tail⟩,?_⟩
 unfold fV
 rw[Int.toNat_natCast]
 simp only[Bool.and_eq_true,Bool.not_eq_true',Bool.or_eq_false_iff,decide_eq_true_eq,decide_eq_false_iff_not]
 refine⟨⟨⟨h.up,by omega⟩,?_⟩,by omega⟩
 rcases h.pass with g|g
 ·rw[decide_eq_false (by simpa using g)];rfl
 ·rw[g,Bool.and_false]
theorem jQ{T:an}{D:List Bool}(hv:ao T=true){n d:Nat}(hn:(n:Int)<T.nodes)(hd:(d:Int)<T.nodes)(hne:n≠d)(h0:0≤(bn T D d false).getD n 0):∃k,jx T D n d k:=by
 have hS:=aM hv
 have hI:=jj hS D false hd
 have e1:=ot (D:=D) hv hd hn
 rcases hI.nj n hn (by rw[←e1];exact h0)with h|⟨a,ha,hx,⟨w1,w2,w3⟩,hs⟩
 ·exact absurd h hne
 ·have hh:=hS.head a ha
  obtain⟨y,hy⟩:=Int.eq_ofNat_of_zero_le hh.1
  have e2:=ot (D:=D) hv hd (x:=y) (by omega)
  simp only[fv,cR,Bool.false_eq_true,if_false]at hx w2 w3 hs
  rw[hy]at w2 w3 hs
  refine⟨a,ha,hx,w1,hne,?_,?_,?_⟩
  ·rw[hy,Int.toNat_natCast,e2];exact w2
  ·rw[hy];exact w3
  ·rw[hy,Int.toNat_natCast,e1,e2];exact hs
theorem A9{T:an}{D:List Bool}(hv:ao T=true){d:Nat}(hd:(d:Int)<T.nodes):(bn T D d false).getD d 0=0:=by
 rw[ot hv hd hd]
 exact(jj (aM hv) D false hd).root
end PW
end Go.Proofs.YtnegbdpggideiaaGreatDoor
namespace Go.Proofs.YtnegbdpggideiaaGreatDoor
namespace PW
open Go.RowKit cH Mem Net
noncomputable def dN(T:an)(D:List Bool)(d x:Nat):Int:=(bn T D d false).getD x 0
def cW(T:an)(p:List Int):Int:=p.foldr (fun a c=>cb T a.toNat+c) 0
theorem gX(T:an):cW T []=0:=rfl
theorem gg(T:an)(a:Int)(p:List Int):cW T (a::p)=cb T a.toNat+cW T p:=rfl
theorem gA(T:an)(p q:List Int):cW T (p++q)=cW T p+cW T q:=by
 induction p with
 |nil=>simp[gX]
 |cons a p ih=>rw[List.cons_append,gg,gg,ih];omega
inductive SP (T:an) (D:List Bool) (d:Nat):Nat→List Int→Prop
 |nil:SP T D d d []
 |cons {n a m:Nat} {p:List Int}:jx T D n d a→aW T a=(m:Int)→SP T D d m p→SP T D d n ((a:Int)::p)
inductive Ch (T:an) (D:List Bool) (d:Nat):Nat→List Int→Prop
 |nil:Ch T D d d []
 |cons {n a m:Nat} {p:List Int}:a<2*T.ae.length→aZ T a=(n:Int)→aI D a=false→aW T a=(m:Int)→(p=[]∨cU T m=false)→Ch T D d m p→Ch T D d n ((a:Int)::p)
theorem ob:∀(N:Nat) (l:List Nat),l.Nodup→(∀x∈l,x<N)→l.length≤N
 |0,l,_,h=>by
  cases l with
  |nil=>simp
  |cons a l=>have:=h a (by simp);omega
 |N+1,l,hn,h=>by
  have h1:=ob N (l.erase N) (hn.erase N) (fun x hx=>by
   have h2:=(List.Nodup.mem_erase_iff hn).1 hx
   have:=h x h2.2
   have:=h2.1
   omega)
  rw[List.length_erase]at h1
  split at h1<;>omega
section
variable {T:an} {D:List Bool} {d:Nat}
theorem dt(hv:ao T=true){a:Nat}(ha:a<2*T.ae.length):∃m:Nat,aW T a=(m:Int)∧(m:Int)<T.nodes:=by
 obtain⟨h0,h1⟩:=(aM hv).head a ha
 obtain⟨m,hm⟩:=Int.eq_ofNat_of_zero_le h0
 exact⟨m,hm,by rw[←hm];exact h1⟩
theorem kY(hv:ao T=true)(hd:(d:Int)<T.nodes):dN T D d d=0:=A9 hv hd
theorem HW(hv:ao T=true)(hd:(d:Int)<T.nodes){x:Nat}(hx:(x:Int)<T.nodes): -1≤dN T D d x∧dN T D d x≤4194240:=by
 obtain⟨h1,h2⟩:=cI (D:=D) hv (dir:=false) hd
 exact h2 _ (bO (by omega))
theorem jx.dN{n a m:Nat}(h:jx T D n d a)(hm:aW T a=(m:Int)):0≤dN T D d m∧dN T D d n=dN T D d m+cb T a:=by
 have h1:=h.reach
 have h2:=h.sum
 rw[hm,Int.toNat_natCast]at h1 h2
 exact⟨h1,h2⟩
theorem jx.node(hv:ao T=true){n a:Nat}(h:jx T D n d a):(n:Int)<T.nodes:=by rw[←h.tail];exact((aM hv).tail a h.eU).2
theorem SP.node(hv:ao T=true)(hd:(d:Int)<T.nodes){n:Nat}{p:List Int}(h:SP T D d n p):(n:Int)<T.nodes:=by
 cases h with
 |nil=>exact hd
 |cons h1 _ _=>exact h1.node hv
theorem SP.cost(hv:ao T=true)(hd:(d:Int)<T.nodes){n:Nat}{p:List Int}(h:SP T D d n p):dN T D d n=cW T p∧0≤dN T D d n:=by
 induction h with
 |nil=>rw[kY hv hd];exact⟨rfl,Int.le_refl _⟩
 |cons h1 hm _ ih=>
  obtain⟨g1,g2⟩:=h1.dN hm
  have:=(aM hv).cost _ h1.eU
  rw[gg,Int.toNat_natCast]
  omega
theorem SP.self{p:List Int}(h:SP T D d d p):p=[]:=by
 cases h with
 |nil=>rfl
 |cons h1 _ _=>exact absurd rfl h1.ne
theorem SP.len(hv:ao T=true)(hd:(d:Int)<T.nodes){n:Nat}{p:List Int}(h:SP T D d n p):(p.length:Int)≤dN T D d n:=by
 induction h with
 |nil=>rw[kY hv hd];simp
 |cons h1 hm _ ih=>
  obtain⟨g1,g2⟩:=h1.dN hm
  have:=(aM hv).cost _ h1.eU
  simp only[List.length_cons]
  omega
theorem SP.ch{n:Nat}{p:List Int}(h:SP T D d n p):Ch T D d n p:=by
 induction h with
 |nil=>exact .nil
 | @cons n a m p h1 hm hp ih=>
  refine .cons h1.eU h1.tail h1.up hm ?_ ih
  rcases h1.pass with hx|hx
  ·have:m=d:=by rw[hm]at hx;omega
   subst this
   exact .inl hp.self
  ·rw[hm,Int.toNat_natCast]at hx;exact .inr hx
theorem Dv(hv:ao T=true)(hd:(d:Int)<T.nodes){n a m:Nat}(ha:a<2*T.ae.length)(ht:aZ T a=(n:Int))(hu:aI D a=false)(hm:aW T a=(m:Int))(ho:m=d∨cU T m=false)(h0:0≤dN T D d m):0≤dN T D d n∧dN T D d n≤dN T D d m+cb T a:=by
 have hS:=aM hv
 have hI:=jj hS D false hd
 have hmN:(m:Int)<T.nodes:=by rw[←hm];exact(hS.head a ha).2
 have hnN:(n:Int)<T.nodes:=by rw[←ht];exact(hS.tail a ha).2
 have e1:=ot (D:=D) hv hd hnN
 have e2:=ot (D:=D) hv hd hmN
 have:=hI.closed a ha ⟨hu,by simp only[cR,Bool.false_eq_true,if_false];rw[hm,←e2];exact h0,by
  simp only[cR,Bool.false_eq_true,if_false];rw[hm]
  rcases ho with h|h
  ·exact .inl (by rw[h])
  ·exact .inr (by simpa using h)⟩
 simp only[fv,cR,Bool.false_eq_true,if_false]at this
 rw[hm,ht,←e1,←e2]at this
 exact this
theorem Ch.node(hv:ao T=true)(hd:(d:Int)<T.nodes){n:Nat}{p:List Int}(h:Ch T D d n p):(n:Int)<T.nodes:=by
 cases h with
 |nil=>exact hd
 |cons h1 ht _ _ _ _=>rw[←ht];exact((aM hv).tail _ h1).2
theorem Ch.to{n:Nat}{p:List Int}(h:Ch T D d n p):p=[]→n=d:=by
 cases h with
 |nil=>intro _;rfl
 |cons=>intro h;cases h
theorem Ch.le(hv:ao T=true)(hd:(d:Int)<T.nodes){n:Nat}{p:List Int}(h:Ch T D d n p):0≤dN T D d n∧dN T D d n≤cW T p:=by
 induction h with
 |nil=>rw[kY hv hd];exact⟨Int.le_refl _,Int.le_refl _⟩
 | @cons n a m p ha ht hu hm ho hp ih=>
  have:=Dv hv hd ha ht hu hm (by rcases ho with h|h;exact .inl (hp.to h);exact .inr h) ih.1
  rw[gg,Int.toNat_natCast]
  omega
theorem Ch.sp(hv:ao T=true)(hd:(d:Int)<T.nodes){n:Nat}{p:List Int}(h:Ch T D d n p)(hc:dN T D d n=cW T p):SP T D d n p:=by
 induction h with
 |nil=>exact .nil
 | @cons n a m p ha ht hu hm ho hp ih=>
  have ho':m=d∨cU T m=false:=by rcases ho with h|h;exact .inl (hp.to h);exact .inr h
  have h1:=hp.le hv hd
  have h2:=Dv hv hd ha ht hu hm ho' h1.1
  rw[gg,Int.toNat_natCast]at hc
  have h3:=(aM hv).cost a ha
  refine .cons ⟨ha,ht,hu,?_,?_,?_,?_⟩ hm (ih (by omega))
  ·rintro rfl;rw[kY hv hd]at hc h2;omega
  ·rw[hm,Int.toNat_natCast];exact h1.1
  ·rw[hm];rcases ho' with h|h;exact .inl (by rw[h]);exact .inr (by simpa using h)
  ·rw[hm,Int.toNat_natCast];show dN T D d n=dN T D d m+cb T a;omega
noncomputable def eA(T:an)(D:List Bool)(d:Nat):Nat→Nat→List Int
 |0,_=>[]
 |f+1,n=>match aX T D n d with
  | []=>[]
  |a::_=>a::eA T D d f (aW T a.toNat).toNat
noncomputable def bY(T:an)(D:List Bool)(n d:Nat):List Int:=eA T D d (dN T D d n).toNat n
theorem qH{n:Nat}(h:dN T D d n<0):aX T D n d=[]:=by unfold aX;rw[if_pos (.inr h)]
theorem wk(hv:ao T=true)(hd:(d:Int)<T.nodes):∀(f n:Nat),(n:Int)<T.nodes→0≤dN T D d n→dN T D d n≤f→SP T D d n (eA T D d f n)
 |f,n,hn,h0,hf=>by
  by_cases hne:n=d
  ·subst hne
   have:eA T D n f n=[]:=by cases f with|zero=>rfl|succ f=>simp only[eA,jb]
   rw[this];exact .nil
  ·obtain⟨k,hk⟩:=jQ (D:=D) hv hn hd hne h0
   cases f with
   |zero=>
    obtain⟨m,hm,_⟩:=dt hv hk.eU
    have:=hk.dN hm
    have:=(aM hv).cost k hk.eU
    omega
   |succ f=>
    simp only[eA]
    have hmem:=fk hk ((aM hv).cost k hk.eU).1
    cases hx:aX T D n d with
    |nil=>rw[hx]at hmem;cases hmem
    |cons a l=>
     obtain⟨b,hb,hbn⟩:=cL (T:=T) (D:=D) (n:=n) (d:=d) (a:=a) (by rw[hx];simp)
     subst hb
     obtain⟨m,hm,hmN⟩:=dt hv hbn.eU
     have g:=hbn.dN hm
     have:=(aM hv).cost b hbn.eU
     simp only[Int.toNat_natCast,hm]
     exact .cons hbn hm (wk hv hd f m hmN g.1 (by omega))
theorem eB(hv:ao T=true)(hd:(d:Int)<T.nodes){n:Nat}(hn:(n:Int)<T.nodes)(h0:0≤dN T D d n):SP T D d n (bY T D n d):=wk hv hd _ n hn h0 (by omega)
noncomputable def ni(T:an)(D:List Bool)(d:Nat):Nat→Nat→Int
 |0,m=>if m=d then 1 else 0
 |f+1,m=>if m=d then 1 else(aX T D m d).foldl (fun c a=>min 2 (c+ni T D d f (aW T a.toNat).toNat)) 0
noncomputable def dB(T:an)(D:List Bool)(d m:Nat):Int:=ni T D d (dN T D d m).toNat m
theorem foldl_congr{α β:Type}{f g:α→β→α}:∀ {l:List β} {a:α},(∀a b,b∈l→f a b=g a b)→l.foldl f a=l.foldl g a
 | [],_,_=>rfl
 |b::l,a,h=>by simp only[List.foldl_cons,h a b (by simp)];exact foldl_congr fun a c hc=>h a c (by simp[hc])
theorem mL(hv:ao T=true)(hd:(d:Int)<T.nodes):∀(K m f:Nat),(m:Int)<T.nodes→dN T D d m≤K→dN T D d m≤f→ni T D d f m=dB T D d m
 |K,m,f,hmN,hK,hf=>by
  unfold dB
  by_cases hmd:m=d
  ·subst hmd
   cases f<;>cases(dN T D m m).toNat<;>simp[ni]
  ·by_cases h0:dN T D d m<0
   ·have hx:=qH h0
    rw[show(dN T D d m).toNat=0 by omega]
    cases f<;>simp[ni,hmd,hx]
   ·obtain⟨k,hk⟩:=jQ (D:=D) hv hmN hd hmd (by show 0≤dN T D d m;omega)
    have hpos:0<dN T D d m:=by
     obtain⟨m',hm',_⟩:=dt hv hk.eU
     have:=hk.dN hm'
     have:=(aM hv).cost k hk.eU
     omega
    obtain⟨g,hg⟩:∃g,(dN T D d m).toNat=g+1:=⟨(dN T D d m).toNat - 1,by omega⟩
    cases f with
    |zero=>omega
    |succ f=>
     cases K with
     |zero=>omega
     |succ K=>
      rw[hg]
      simp only[ni,if_neg hmd]
      refine foldl_congr fun c a ha=>?_
      obtain⟨b,rfl,hbn⟩:=cL ha
      obtain⟨m',hm',hmN'⟩:=dt hv hbn.eU
      have g1:=hbn.dN hm'
      have g2:=(aM hv).cost b hbn.eU
      rw[Int.toNat_natCast,hm',Int.toNat_natCast,mL hv hd K m' f hmN' (by omega) (by omega),mL hv hd K m' g hmN' (by omega) (by omega)]
theorem nU(m:Nat):dB T D m m=1:=by unfold dB;cases(dN T D m m).toNat<;>simp[ni]
theorem rA(hv:ao T=true)(hd:(d:Int)<T.nodes){m:Nat}(hmN:(m:Int)<T.nodes)(hmd:m≠d):dB T D d m=(aX T D m d).foldl (fun c a=>min 2 (c+dB T D d (aW T a.toNat).toNat)) 0:=by
 by_cases h0:dN T D d m<0
 ·unfold dB
  rw[qH h0,show(dN T D d m).toNat=0 by omega]
  simp[ni,hmd]
 ·have h1:=mL (D:=D) hv hd (dN T D d m).toNat m ((dN T D d m).toNat+1) hmN (by omega) (by omega)
  rw[←h1]
  simp only[ni,if_neg hmd]
  refine foldl_congr fun c a ha=>?_
  obtain⟨b,rfl,hbn⟩:=cL ha
  obtain⟨m',hm',hmN'⟩:=dt hv hbn.eU
  have g1:=hbn.dN hm'
  have g2:=(aM hv).cost b hbn.eU
  rw[Int.toNat_natCast,hm',Int.toNat_natCast,mL hv hd (dN T D d m).toNat m' _ hmN' (by omega) (by omega)]
theorem Am(hv:ao T=true)(hd:(d:Int)<T.nodes){m:Nat}(hmN:(m:Int)<T.nodes)(h0:dN T D d m<0):dB T D d m=0:=by
 have hmd:m≠d:=by rintro rfl;rw[kY hv hd]at h0;omega
 rw[rA hv hd hmN hmd,qH h0];rfl
theorem oq(g:Int→Int)(hg:∀a,0≤g a):∀(l:List Int) (c:Int),0≤c→c≤2→0≤l.foldl (fun c a=>min 2 (c+g a)) c∧l.foldl (fun c a=>min 2 (c+g a)) c≤2
 | [],c,h0,h2=>⟨h0,h2⟩
 |a::l,c,h0,h2=>by
  have:=hg a
  exact oq g hg l _ (show 0≤min 2 (c+g a) by omega) (show min 2 (c+g a)≤2 by omega)
theorem rJ(g:Int→Int)(hg:∀a,0≤g a):∀(l:List Int) (c:Int),c≤2→c≤l.foldl (fun c a=>min 2 (c+g a)) c
 | [],c,_=>Int.le_refl _
 |a::l,c,h2=>by
  have:=hg a
  have:=rJ g hg l (min 2 (c+g a)) (by omega)
  simp only[List.foldl_cons]
  omega
theorem tW(hv:ao T=true)(hd:(d:Int)<T.nodes):∀(f m:Nat),0≤ni T D d f m∧ni T D d f m≤2
 |0,m=>by simp only[ni];split<;>omega
 |f+1,m=>by
  simp only[ni]
  split
  ·omega
  ·exact oq (fun a=>ni T D d f (aW T a.toNat).toNat) (fun a=>(tW hv hd f _).1) _ 0 (by omega) (by omega)
theorem ju(hv:ao T=true)(hd:(d:Int)<T.nodes)(m:Nat):0≤dB T D d m∧dB T D d m≤2:=tW hv hd _ m
theorem Az(hv:ao T=true)(hd:(d:Int)<T.nodes):∀(K m:Nat),(m:Int)<T.nodes→0≤dN T D d m→dN T D d m≤K→1≤dB T D d m
 |K,m,hmN,h0,hK=>by
  by_cases hmd:m=d
  ·subst hmd;rw[nU];omega
  ·obtain⟨k,hk⟩:=jQ (D:=D) hv hmN hd hmd h0
   have hmem:=fk hk ((aM hv).cost k hk.eU).1
   obtain⟨m',hm',hmN'⟩:=dt hv hk.eU
   have g1:=hk.dN hm'
   have g2:=(aM hv).cost k hk.eU
   cases K with
   |zero=>omega
   |succ K=>
    have hp:=Az hv hd K m' hmN' g1.1 (by omega)
    rw[rA hv hd hmN hmd]
    obtain⟨l1,l2,hl⟩:=List.append_of_mem hmem
    rw[hl,List.foldl_append,List.foldl_cons]
    have hg:∀a:Int,0≤dB T D d (aW T a.toNat).toNat:=fun a=>(ju hv hd _).1
    have a1:=oq (fun a=>dB T D d (aW T a.toNat).toNat) hg l1 0 (by omega) (by omega)
    have a2:=rJ (fun a=>dB T D d (aW T a.toNat).toNat) hg l2 (min 2 (l1.foldl (fun c a=>min 2 (c+dB T D d (aW T a.toNat).toNat)) 0+dB T D d (aW T (k:Int).toNat).toNat)) (by omega)
    rw[Int.toNat_natCast,hm',Int.toNat_natCast]at a2
    rw[Int.toNat_natCast,hm',Int.toNat_natCast]
    omega
theorem uT(hv:ao T=true)(hd:(d:Int)<T.nodes){m:Nat}(hmN:(m:Int)<T.nodes)(hmd:m≠d)(h:dB T D d m=1):∃a:Nat,aX T D m d=[(a:Int)]∧jx T D m d a∧∀k:Nat,aW T a=(k:Int)→dB T D d k=1:=by
 rw[rA hv hd hmN hmd]at h
 have hg:∀a:Int,0≤dB T D d (aW T a.toNat).toNat:=fun a=>(ju hv hd _).1
 have hone:∀a∈aX T D m d,1≤dB T D d (aW T a.toNat).toNat:=fun a ha=>by
  obtain⟨b,rfl,hb⟩:=cL ha
  obtain⟨m',hm',hmN'⟩:=dt hv hb.eU
  have g1:=hb.dN hm'
  rw[Int.toNat_natCast,hm',Int.toNat_natCast]
  exact Az hv hd (dN T D d m').toNat m' hmN' g1.1 (by omega)
 cases hx:aX T D m d with
 |nil=>rw[hx]at h;simp at h
 |cons a l=>
  obtain⟨b,rfl,hb⟩:=cL (T:=T) (D:=D) (n:=m) (d:=d) (a:=a) (by rw[hx];simp)
  have h1:=hone b (by rw[hx];simp)
  rw[hx,List.foldl_cons]at h
  cases l with
  |nil=>
   refine⟨b,rfl,hb,fun k hk=>?_⟩
   simp only[List.foldl_nil,Int.toNat_natCast,hk]at h h1
   omega
  |cons a2 l=>
   have h2:=hone a2 (by rw[hx];simp)
   rw[List.foldl_cons]at h
   have:=rJ (fun a=>dB T D d (aW T a.toNat).toNat) hg l (min 2 (min 2 (0+dB T D d (aW T (b:Int).toNat).toNat)+dB T D d (aW T a2.toNat).toNat)) (by omega)
   omega
theorem yl(hv:ao T=true)(hd:(d:Int)<T.nodes){m a k:Nat}(hmN:(m:Int)<T.nodes)(hmd:m≠d)(hx:aX T D m d=[(a:Int)])(hk:aW T a=(k:Int))(h:dB T D d k=1):dB T D d m=1:=by
 rw[rA hv hd hmN hmd,hx]
 simp only[List.foldl_cons,List.foldl_nil,Int.toNat_natCast,hk,h]
 omega
theorem SP.unique(hv:ao T=true)(hd:(d:Int)<T.nodes){n:Nat}{p q:List Int}(h:SP T D d n p)(hq:SP T D d n q)(hc:dB T D d n=1):p=q:=by
 induction h generalizing q with
 |nil=>exact hq.self.symm
 | @cons n a m p h1 hm hp ih=>
  cases hq with
  |nil=>exact absurd rfl h1.ne
  | @cons _ a' m' q h1' hm' hq=>
   obtain⟨b,hb,_,hb2⟩:=uT hv hd (h1.node hv) h1.ne hc
   have e1:=fk h1 ((aM hv).cost a h1.eU).1
   have e2:=fk h1' ((aM hv).cost a' h1'.eU).1
   rw[hb]at e1 e2
   simp only[List.mem_singleton]at e1 e2
   have ea:a=b:=by omega
   have ea':a'=b:=by omega
   subst ea
   subst ea'
   have em:m=m':=by rw[hm]at hm';omega
   subst em
   rw[ih hq (hb2 m hm)]
noncomputable def eW(T:an)(D:List Bool)(n d:Int):Bool:=decide (bV T D n d=0)&&decide (dB T D d.toNat n.toNat=1)
theorem SP.ze(hv:ao T=true)(hd:(d:Int)<T.nodes){n:Nat}{p:List Int}(h:SP T D d n p):(p.length:Int)<T.nodes:=by
 have key:∃l:List Nat,l.length=p.length+1∧l.Nodup∧(∀x∈l,(x:Int)<T.nodes∧dN T D d x≤dN T D d n):=by
  induction h with
  |nil=>exact⟨[d],rfl,by simp,fun x hx=>by simp at hx;subst hx;exact⟨hd,Int.le_refl _⟩⟩
  | @cons n a m p h1 hm hp ih=>
   obtain⟨l,e1,e2,e3⟩:=ih
   have g1:=h1.dN hm
   have g2:=(aM hv).cost a h1.eU
   refine⟨n::l,by simp[e1],List.nodup_cons.2 ⟨fun hn=>by have:=(e3 n hn).2;omega,e2⟩,fun x hx=>?_⟩
   cases hx with
   |head=>exact⟨h1.node hv,Int.le_refl _⟩
   |tail _ hx=>have:=e3 x hx;exact⟨this.1,by omega⟩
 obtain⟨l,e1,e2,e3⟩:=key
 have hN:=(aM hv).nodes
 have:=ob T.nodes.toNat l e2 (fun x hx=>by have:=(e3 x hx).1;omega)
 omega
end
end PW
end Go.Proofs.YtnegbdpggideiaaGreatDoor
namespace Go.Proofs.YtnegbdpggideiaaGreatDoor
namespace PW
open Go.RowKit cH Mem Net
def dw(T:an):Bool→Int→List Int→Int
 |_,_,[]=>0
 |f,n,a::l=>if eF T a=false then 2 else if aZ T a.toNat≠n∨(f=false∧cU T n.toNat=true) then 4 else dw T false (aW T a.toNat) l
def dQ(T:an)(n:Int)(l:List Int):Int:=if ao T then(if bd T n then dw T true n l else 2) else 1
def cE(T:an):Int→List Int→Int
 |n,[]=>n
 |_,a::l=>cE T (aW T a.toNat) l
def jM(T:an)(n:Int)(l:List Int):PV:=.tuple [num (if dQ T n l=0 then cE T n l else 0),num (if dQ T n l=0 then cW T l else 0),num (dQ T n l)]
theorem lJ(T:an):∀(n:Int) (l m:List Int),cE T n (l++m)=cE T (cE T n l) m
 |_,[],_=>rfl
 |_,a::l,m=>lJ T _ l m
theorem drop_cons(l:List Int)(k:Nat)(h:k<l.length):l.drop k=l.getD k 0::l.drop (k+1):=by
 rw[List.drop_eq_getElem_cons h,List.getD_eq_getElem?_getD,List.getElem?_eq_getElem h];rfl
theorem eZ(T:an)(n:Int)(l:List Int)(k:Nat)(h:k<l.length):cE T n (l.take (k+1))=aW T (l.getD k 0).toNat:=by
 rw[dc l k 0 h,lJ];rfl
theorem kO(T:an)(l:List Int)(k:Nat)(h:k<l.length):cW T (l.take (k+1))=cW T (l.take k)+cb T (l.getD k 0).toNat:=by
 rw[dc l k 0 h,gA];simp[gg,gX]
theorem mE{T:an}{f:Bool}{n a:Int}{l:List Int}(h1:eF T a=true)(h2:aZ T a.toNat=n)(h3:f=true∨cU T n.toNat=false):dw T f n (a::l)=dw T false (aW T a.toNat) l:=by
 simp only[dw]
 rw[if_neg (by rw[h1];simp),if_neg]
 rintro(h|⟨h,h'⟩)
 ·exact h h2
 ·rcases h3 with h3|h3
  ·rw[h3]at h;cases h
  ·rw[h3]at h';cases h'
theorem wJ{T:an}{f:Bool}{n a:Int}{l:List Int}(h1:eF T a=true)(h2:aZ T a.toNat≠n∨(f=false∧cU T n.toNat=true)):dw T f n (a::l)=4:=by
 simp only[dw]
 rw[if_neg (by rw[h1];simp),if_pos h2]
theorem CC(T:an)(hl:T.ae.length≤4611686018427387902)(a:Int)(h:eF T a=true):Can Tryz.prog 150 [aN T,num a] (· =num (aW T a.toNat)):=by
 obtain⟨h0,h1⟩:=cJ.1 h
 obtain⟨a,rfl⟩:=Int.eq_ofNat_of_zero_le h0
 exact fQ T a (by omega) hl
theorem BP(T:an)(a:Int)(h:eF T a=true):Can Tryz.prog 149 [aN T,num a] (· =num (cb T a.toNat)):=by
 obtain⟨h0,h1⟩:=cJ.1 h
 obtain⟨a,rfl⟩:=Int.eq_ofNat_of_zero_le h0
 exact lL T a (by omega)
theorem qE(T:an)(hv:ao T=true)(a:Int)(h:eF T a=true):Can Tryz.prog 39 [aN T,num a] (· =num (aZ T a.toNat)):=by
 obtain⟨h0,h1⟩:=cJ.1 h
 obtain⟨a,rfl⟩:=Int.eq_ofNat_of_zero_le h0
 exact eN T hv a (by omega)
theorem nL(T:an)(hv:ao T=true)(a:Int)(h:eF T a=true):Can Tryz.prog 41 [aN T,num a] (· =num (aW T a.toNat)):=by
 obtain⟨h0,h1⟩:=cJ.1 h
 obtain⟨a,rfl⟩:=Int.eq_ofNat_of_zero_le h0
 exact gR T hv a (by omega)
theorem yv(T:an)(hv:ao T=true)(a:Int)(h:eF T a=true):Can Tryz.prog 42 [aN T,num a] (· =num (cb T a.toNat)):=by
 obtain⟨h0,h1⟩:=cJ.1 h
 obtain⟨a,rfl⟩:=Int.eq_ofNat_of_zero_le h0
 exact kQ T hv a (by omega)
theorem jg{T:an}(hv:ao T=true){a:Int}(h:eF T a=true):(1≤cb T a.toNat∧cb T a.toNat≤65535)∧∃m:Nat,aW T a.toNat=(m:Int)∧(m:Int)<T.nodes:=by
 obtain⟨h0,h1⟩:=cJ.1 h
 have hl:a.toNat<2*T.ae.length:=by omega
 exact⟨(aM hv).cost _ hl,dt hv hl⟩
theorem Ah{T:an}(hv:ao T=true){x:Nat}(hx:(x:Int)<T.nodes):T.over.length=0∨x<T.over.length:=by have:=(gH hv).2.2.2;omega
theorem wW(T:an)(n:Int)(l:List Int)(hl:l.length≤1000000):Can Tryz.prog 120 [aN T,num n,aw l] (· =jM T n l):=by
 refine aE Tryz.func120 rfl Tryz.ntmps120 rfl<|ab (.a 4 rfl<|.k [1,2,3,7] rfl)<|ah<|ab (.a 1 rfl<|.c rfl (eC T) rfl<|.a 1 rfl<|.k [1,2,3,7,13] rfl)<|ag rfl (fun hc=>?_) (fun hc=>?_)
 ·have hv:ao T=false:=by simpa using hc
  have hX:dQ T n l=1:=by unfold dQ;rw[hv];rfl
  unfold jM
  rw[hX]
  exact ab (.a 3 rfl<|.k [6,7,8] rfl)<|aq<|⟨_,_,aA.of rfl,aB.pure,rfl⟩
 ·have hv:ao T=true:=by simpa using hc
  have hll:=bJ hv
  refine ai<|ah<|ab (.a 2 rfl<|.c rfl (dv T n) rfl<|.a 1 rfl<|.k [1,2,3,7,17] rfl)<|ag rfl (fun hc=>?_) (fun hc=>?_)
  ·have hn:bd T n=false:=by simpa using hc
   have hX:dQ T n l=2:=by unfold dQ;rw[hv,hn];rfl
   unfold jM
   rw[hX]
   exact ab (.a 3 rfl<|.k [6,7,8] rfl)<|aq<|⟨_,_,aA.of rfl,aB.pure,rfl⟩
  ·have hn:bd T n=true:=by simpa using hc
   have hX:dQ T n l=dw T true n l:=by unfold dQ;rw[hv,hn];rfl
   obtain⟨hn0,hn1⟩:=aT.1 hn
   obtain⟨n,rfl⟩:=Int.eq_ofNat_of_zero_le hn0
   refine ai<|ab (.a 2 rfl<|.k [2,3,6,7] rfl)<|ah<|ab (.a 3 rfl<|.k [3,6,7,19,20,21] rfl)<|au<|eu [3,6,7,19,20,21] rfl<|bf (fun r s=>∃(k x:Nat),k≤l.length∧r=l.length - k∧cE T n (l.take k)=(x:Int)∧(x:Int)<T.nodes∧0≤cW T (l.take k)∧cW T (l.take k)≤65535*(k:Int)∧dw T true n l=dw T (decide (k=0)) x (l.drop k)∧s=⟨[(3,.aY (bq T) 0),(6,num x),(7,num (cW T (l.take k))),(19,aw l),(20,num l.length),(21,num k)],[]⟩) l.length ⟨0,n,by omega,by omega,rfl,hn1,by simp[gX],by simp[gX],rfl,rfl⟩ ?_
   rintro r s ⟨k,x,hk,rfl,hx,hxN,hc0,hc1,hw,rfl⟩
   refine ab (.a 1 rfl<|.k [3,6,7,19,20,21,22] rfl)<|ah<|ag rfl (fun hy=>?_) (fun hy=>?_)
   ·have hlt:k<l.length:=by have:=tt hy;omega
    rw[drop_cons l k hlt]at hw
    obtain⟨p1,hp1⟩:∃q,eF T (l.getD k 0)=q:=⟨_,rfl⟩
    have ha:=qw T (by omega) (l.getD k 0)
    rw[hp1]at ha
    refine ai<|ah<|au<|ab (.a 1 rfl<|.v (aJ (k) rfl) rfl<|.v (aL rfl (ax l k hlt)) rfl<|.a 2 rfl<|.k [3,6,7,9,10,19,20,21] rfl)<|ah<|ab (.a 2 rfl<|.c rfl (ha) rfl<|.a 1 rfl<|.k [3,6,7,9,10,19,20,21,29] rfl)<|ag rfl (fun hz=>?_) (fun hz=>?_)
    ·have h1:p1=false:=by simpa using hz
     subst h1
     have hw2:dw T true n l=2:=by rw[hw];simp only[dw];rw[if_pos hp1]
     unfold jM
     rw[hX,hw2]
     exact ab (.a 3 rfl<|.k [6,7,8] rfl)<|aq<|⟨_,_,aA.of rfl,aB.pure,rfl⟩
    ·have h1:p1=true:=by simpa using hz
     subst h1
     obtain⟨⟨hco0,hco1⟩,y,hyh,hyN⟩:=jg hv hp1
     have hsN:=eZ T n l k hlt
     have hsC:=kO T l k hlt
     obtain⟨p2,hp2⟩:∃q,decide (aZ T (l.getD k 0).toNat≠(x:Int))=q:=⟨_,rfl⟩
     obtain⟨p3,hp3⟩:∃q,decide (0<(k:Int))=q:=⟨_,rfl⟩
     obtain⟨p4,hp4⟩:∃q,cU T x=q:=⟨_,rfl⟩
     refine ai<|ah<|bu 43 (.raw (.bool (p2||(p3&&p4)))) [3,7,10,19,20,21] rfl ?_ ?_
     ·refine .a 2 rfl<|.c rfl (pq T _ hp1) rfl<|.a 1 rfl<|.v (b9 rfl (hp2)) rfl<|.a 1 rfl<|?_
      cases p2
      ·refine .a 1 rfl<|.v (b9 rfl (hp3)) rfl<|.a 1 rfl<|?_
       cases p3
       ·exact .a 5 rfl<|.k [43,3,7,10,19,20,21] rfl
       ·exact .a 2 rfl<|.c rfl (hp4▸oy T x (Ah hv hxN)) rfl<|.a 2 rfl<|.k [43,3,7,10,19,20,21] rfl
      ·exact .a 8 rfl<|.k [43,3,7,10,19,20,21] rfl
     refine ag rfl (fun hb=>?_) (fun hb=>?_)
     ·have hw4:dw T true n l=4:=by
       rw[hw]
       refine wJ hp1 ?_
       rcases Bool.or_eq_true_iff.1 hb with h|h
       ·rw[h]at hp2;exact .inl (tt hp2)
       ·obtain⟨h3,h4⟩:=Bool.and_eq_true_iff.1 h
        rw[h3]at hp3
        rw[h4]at hp4
        exact .inr ⟨decide_eq_false (by have:=tt hp3;omega),by rw[Int.toNat_natCast];exact hp4⟩
      unfold jM
      rw[hX,hw4]
      exact ab (.a 3 rfl<|.k [6,7,8] rfl)<|aq<|⟨_,_,aA.of rfl,aB.pure,rfl⟩
     ·obtain⟨b2,b3⟩:=Bool.or_eq_false_iff.1 hb
      rw[b2]at hp2
      have ht:aZ T (l.getD k 0).toNat=(x:Int):=Classical.byContradiction (ff hp2)
      have hws:=mE (T:=T) (f:=decide (k=0)) (n:=(x:Int)) (l:=l.drop (k+1)) hp1 ht (by
       rcases Bool.and_eq_false_iff.1 b3 with h|h
       ·rw[h]at hp3;exact .inl (decide_eq_true (by have:=ff hp3;omega))
       ·rw[h]at hp4;exact .inr (by rw[Int.toNat_natCast];exact hp4))
      rw[hws,hyh]at hw
      have hh:=CC T (by omega) _ hp1
      rw[hyh]at hh
      refine ai<|ab (.a 2 rfl<|.c rfl (hh) rfl<|.a 1 rfl<|.k [3,6,7,10,19,20,21] rfl)<|az (.a 3 rfl<|.c rfl (BP T _ hp1) rfl<|.v (aS rfl (hc:=hsC.symm) (hn:=by unfold In64;omega)) rfl<|.a 1 rfl<|.k [3,6,7,19,20,21] rfl) ?_
      refine az (.v (aS rfl) rfl<|.a 1 rfl<|.k [3,6,7,19,20,21] rfl) ?_
      exact⟨l.length - (k+1),by omega,k+1,y,by omega,rfl,by rw[hsN,hyh],hyN,by omega,by omega,by rw[hw];rfl,rfl⟩
   ·have hke:k=l.length:=by have:=ff hy;omega
    subst hke
    rw[List.drop_length]at hw
    rw[List.take_length]at hx ⊢
    unfold jM
    rw[hX,hw]
    simp only[dw,if_true]
    rw[hx]
    exact ba<|ab (.a 5 rfl<|.k [6,7,8] rfl)<|aq<|⟨_,_,aA.of rfl,aB.pure,rfl⟩
theorem BX(T:an)(n:Int)(l:List Int)(hl:l.length≤1000000):Can Tryz.prog 38 [aN T,num n,aw l] (· =jM T n l):=by
 obtain⟨g1,hg1⟩:∃q,decide (n<0)=q:=⟨_,rfl⟩
 obtain⟨g2,hg2⟩:∃q,decide (T.nodes≤n)=q:=⟨_,rfl⟩
 have hnb:bd T n= !(g1||g2):=by rw[←hg1,←hg2,←Bool.decide_or,←decide_not];unfold bd;exact decide_eq_decide.2 (by omega)
 refine aE Tryz.func38 rfl Tryz.ntmps38 rfl<|ab (.a 4 rfl<|.k [1,2,3] rfl)<|ah<|ab (.a 1 rfl<|.c rfl (fX T) rfl<|.a 1 rfl<|.k [1,2,3,13] rfl)<|ag rfl (fun hc=>?_) (fun hc=>?_)
 ·have hv:ao T=false:=by simpa using hc
  have hX:dQ T n l=1:=by unfold dQ;rw[hv];rfl
  unfold jM
  rw[hX]
  exact ab (.a 3 rfl<|.k [6,7,8] rfl)<|aq<|⟨_,_,aA.of rfl,aB.pure,rfl⟩
 ·have hv:ao T=true:=by simpa using hc
  have hll:=bJ hv
  refine ai<|ah<|bu 21 (.raw (.bool (g1||g2))) [1,2,3] rfl ?_ ?_
  ·refine .a 1 rfl<|.v (b9 rfl (hg1)) rfl<|.a 1 rfl<|?_
   cases g1
   ·exact .a 3 rfl<|.v (b9 rfl (hg2)) rfl<|.a 1 rfl<|.k [21,1,2,3] rfl
   ·exact .a 5 rfl<|.k [21,1,2,3] rfl
  refine ag rfl (fun hc=>?_) (fun hc=>?_)
  ·have hn:bd T n=false:=by rw[hnb,hc];rfl
   have hX:dQ T n l=2:=by unfold dQ;rw[hv,hn];rfl
   unfold jM
   rw[hX]
   exact ab (.a 3 rfl<|.k [6,7,8] rfl)<|aq<|⟨_,_,aA.of rfl,aB.pure,rfl⟩
  ·have hn:bd T n=true:=by rw[hnb,hc];rfl
   have hX:dQ T n l=dw T true n l:=by unfold dQ;rw[hv,hn];rfl
   obtain⟨hn0,hn1⟩:=aT.1 hn
   clear hnb hg1 hg2 hc
   obtain⟨n,rfl⟩:=Int.eq_ofNat_of_zero_le hn0
   refine ai<|ab (.a 1 rfl<|.k [1,2,3,9] rfl)<|ah<|ab (.a 1 rfl<|.k [1,2,3,9,10] rfl)<|au<|eu [1,2,3,9,10] rfl<|bf (fun r s=>∃(k x:Nat),k≤l.length∧r=l.length - k∧cE T n (l.take k)=(x:Int)∧(x:Int)<T.nodes∧0≤cW T (l.take k)∧cW T (l.take k)≤65535*(k:Int)∧dw T true n l=dw T (decide (k=0)) x (l.drop k)∧s=⟨[(1,num x),(2,aw l),(3,.aY (bq T) 0),(9,num (cW T (l.take k))),(10,num k)],[]⟩) l.length ⟨0,n,by omega,by omega,rfl,hn1,by simp[gX],by simp[gX],rfl,rfl⟩ ?_
   rintro r s ⟨k,x,hk,rfl,hx,hxN,hc0,hc1,hw,rfl⟩
   refine ah<|ab (.a 4 rfl<|.k [1,2,3,9,10,25] rfl)<|ag rfl (fun hy=>?_) (fun hy=>?_)
   ·have hlt:k<l.length:=by have:=tt hy;omega
    rw[drop_cons l k hlt]at hw
    obtain⟨p1,hp1⟩:∃q,decide (l.getD k 0<0)=q:=⟨_,rfl⟩
    obtain⟨p5,hp5⟩:∃q,decide (2*(T.ae.length:Int)≤l.getD k 0)=q:=⟨_,rfl⟩
    refine ai<|ah<|au<|ah<|jA mixed (by kernel_rfl) 41 (.raw (.bool (p1||p5))) [1,2,3,9,10] rfl ?_ ?_
    ·refine .a 2 rfl<|.v [28,29] (aJ (k) rfl) rfl rfl<|.v [30] (aL rfl (ax l k hlt)) rfl rfl<|.v [31] (b9 rfl (hp1)) rfl rfl<|.a 1 rfl<|?_
     cases p1
     ·exact .a 2 rfl<|.v [34,35] (aJ (k) rfl) rfl rfl<|.v [36] (aL rfl (ax l k hlt)) rfl rfl<|.a 1 rfl<|.v [38] (dJ rfl (mM T hv)) rfl rfl<|.v [37,39] (b9 rfl (hp5)) rfl rfl<|.a 1 rfl<|.k [41,1,2,3,9,10] rfl
     ·exact .a 8 rfl<|.k [41,1,2,3,9,10] rfl
    refine ag rfl (fun hz=>?_) (fun hz=>?_)
    ·have hna:=oI hp1 hp5 hz
     have hw2:dw T true n l=2:=by rw[hw];simp only[dw];rw[if_pos (by unfold eF;exact decide_eq_false hna)]
     unfold jM
     rw[hX,hw2]
     exact ab (.a 3 rfl<|.k [6,7,8] rfl)<|aq<|⟨_,_,aA.of rfl,aB.pure,rfl⟩
    ·have hpa:eF T (l.getD k 0)=true:=cJ.2 (mY hp1 hp5 hz)
     obtain⟨⟨hco0,hco1⟩,y,hyh,hyN⟩:=jg hv hpa
     have hsN:=eZ T n l k hlt
     have hsC:=kO T l k hlt
     obtain⟨p2,hp2⟩:∃q,decide (aZ T (l.getD k 0).toNat≠(x:Int))=q:=⟨_,rfl⟩
     obtain⟨p3,hp3⟩:∃q,decide (0<(k:Int))=q:=⟨_,rfl⟩
     obtain⟨p4,hp4⟩:∃q,cU T x=q:=⟨_,rfl⟩
     refine ai<|ah<|jA mixed (by kernel_rfl) 58 (.raw (.bool (p2||(p3&&p4)))) [2,3,9,10] rfl ?_ ?_
     ·refine .a 3 rfl<|.v [43,44] (aJ (k) rfl) rfl rfl<|.v [45] (aL rfl (ax l k hlt)) rfl rfl<|.v [42,46] (dJ rfl (qE T hv _ hpa)) rfl rfl<|.a 1 rfl<|.v [47,48] (b9 rfl (hp2)) rfl rfl<|.a 1 rfl<|?_
      cases p2
      ·refine .a 1 rfl<|.v [51] (b9 rfl (hp3)) rfl rfl<|.a 1 rfl<|?_
       cases p3
       ·exact .a 5 rfl<|.k [58,2,3,9,10] rfl
       ·exact .a 2 rfl<|.v [54,55] (dJ rfl (hp4▸tY T hv x)) rfl rfl<|.a 2 rfl<|.k [58,2,3,9,10] rfl
      ·exact .a 8 rfl<|.k [58,2,3,9,10] rfl
     refine ag rfl (fun hb=>?_) (fun hb=>?_)
     ·have hw4:dw T true n l=4:=by
       rw[hw]
       refine wJ hpa ?_
       rcases Bool.or_eq_true_iff.1 hb with h|h
       ·rw[h]at hp2;exact .inl (tt hp2)
       ·obtain⟨h3,h4⟩:=Bool.and_eq_true_iff.1 h
        rw[h3]at hp3
        rw[h4]at hp4
        exact .inr ⟨decide_eq_false (by have:=tt hp3;omega),by rw[Int.toNat_natCast];exact hp4⟩
      unfold jM
      rw[hX,hw4]
      exact ab (.a 3 rfl<|.k [6,7,8] rfl)<|aq<|⟨_,_,aA.of rfl,aB.pure,rfl⟩
     ·obtain⟨b2,b3⟩:=Bool.or_eq_false_iff.1 hb
      rw[b2]at hp2
      have ht:aZ T (l.getD k 0).toNat=(x:Int):=Classical.byContradiction (ff hp2)
      have hws:=mE (T:=T) (f:=decide (k=0)) (n:=(x:Int)) (l:=l.drop (k+1)) hpa ht (by
       rcases Bool.and_eq_false_iff.1 b3 with h|h
       ·rw[h]at hp3;exact .inl (decide_eq_true (by have:=ff hp3;omega))
       ·rw[h]at hp4;exact .inr (by rw[Int.toNat_natCast];exact hp4))
      rw[hws,hyh]at hw
      have hh:=nL T hv _ hpa
      rw[hyh]at hh
      refine ai<|dY mixed (by kernel_rfl) (.a 4 rfl<|.v [61,62] (aJ (k) rfl) rfl rfl<|.v [63] (aL rfl (ax l k hlt)) rfl rfl<|.v [60,64] (dJ rfl (yv T hv _ hpa)) rfl rfl<|.v [59,65] (aS rfl (hc:=hsC.symm) (hn:=by unfold In64;omega)) rfl rfl<|.a 1 rfl<|.k [2,3,9,10] rfl) ?_
      refine JM mixed (by kernel_rfl) (.a 3 rfl<|.v [68,69] (aJ (k) rfl) rfl rfl<|.v [70] (aL rfl (ax l k hlt)) rfl rfl<|.v [67,71] (dJ rfl (hh)) rfl rfl<|.a 1 rfl<|.k [1,2,3,9,10] rfl) ?_
      refine az (.a 1 rfl<|.v (aS rfl) rfl<|.a 1 rfl<|.k [1,2,3,9,10] rfl) ?_
      exact⟨l.length - (k+1),by omega,k+1,y,by omega,rfl,by rw[hsN,hyh],hyN,by omega,by omega,by rw[hw];rfl,rfl⟩
   ·have hke:k=l.length:=by have:=ff hy;omega
    subst hke
    rw[List.drop_length]at hw
    rw[List.take_length]at hx ⊢
    unfold jM
    rw[hX,hw]
    simp only[dw,if_true]
    rw[hx]
    exact ba<|ab (.a 5 rfl<|.k [6,7,8] rfl)<|aq<|⟨_,_,aA.of rfl,aB.pure,rfl⟩
end PW
end Go.Proofs.YtnegbdpggideiaaGreatDoor
namespace Go.Proofs.YtnegbdpggideiaaGreatDoor
namespace PW
open Go.RowKit cH Mem Net
theorem lA(T:an)(hv:ao T=true):Can Tryz.prog 201 [aN T] (· =jt (du (aZ T) T.nodes.toNat (2*T.ae.length))):=by
 have hbd:=gH hv
 have hS:=aM hv
 obtain⟨n,hn⟩:∃n:Nat,T.nodes=(n:Int):=⟨T.nodes.toNat,by omega⟩
 rw[show T.nodes.toNat=n by omega]
 refine aE Tryz.func201 rfl Tryz.ntmps201 rfl<|ab (.a 2 rfl<|.k [1] rfl)<|aP<|av 2 rfl<|cp (dF rfl (bI.rk.get rfl) rfl rfl hn hn ⟨by unfold maxLen;omega,by omega⟩) rfl<|av 1 rfl<|aG [1,3] rfl ?_
 refine pU 37 3 n ?_
 refine ah<|ab (.a 1 rfl<|.c rfl (ik T (by omega)) rfl<|.a 1 rfl<|.k [1,3,10,11] rfl)<|au<|eu [1,3,10,11] rfl<|bf (fun r s=>∃k,k≤2*T.ae.length∧r=2*T.ae.length - k∧s=⟨[(1,.aY (bq T) 0),(3,.own 0),(10,num (2*(T.ae.length:Int))),(11,num k)],lq 37 3 (du (aZ T) n k)⟩) (2*T.ae.length) ⟨0,by omega,by omega,by rw[rG];rfl⟩ ?_
 rintro r s ⟨k,hk,rfl,rfl⟩
 refine ab (.a 1 rfl<|.k [1,3,10,11,12] rfl)<|ah<|ag rfl (fun hc=>?_) (fun hc=>?_)
 ·have hlt:k<2*T.ae.length:=by have:=of_decide_eq_true hc;omega
  obtain⟨hd0,hhN⟩:=hS.tail k hlt
  obtain⟨m,hm⟩:=Int.eq_ofNat_of_zero_le hd0
  have hmn:m<n:=by omega
  have hrl:=eY (aZ T) n k
  have hgl:((du (aZ T) n k).getD m []).length≤k:=by
   rw[jc _ _ _ _ hmn]
   simp only[List.length_map]
   exact Nat.le_trans (List.length_filter_le _ _) (by simp)
  refine ai<|ah<|au<|ab (.a 2 rfl<|.k [1,3,4,10,11] rfl)<|ab (.a 2 rfl<|.c rfl (hm▸jn T k hlt) rfl<|.a 1 rfl<|.k [1,3,4,5,10,11] rfl)<|bF<|av 4 rfl<|bC (aJ (m) rfl) rfl<|bC (aL rfl (me _ m (by omega))) rfl<|av 2 rfl<|cp (bA rfl (bI.rk.get rfl) rfl (mc _ _ _ m (by omega)) rfl rfl ⟨by unfold maxLen;omega,by omega⟩) rfl<|bC (aJ (m) rfl) rfl<|bg (cK rfl (bI.tk.get rfl) rfl rfl rfl (by show m<(fP _).length;simp[fP];omega)) rfl rfl<|aG [1,3,10,11] rfl ?_
  refine dx (FD (du (aZ T) n k).length m) (.cons 1 rfl Ren.pure<|.cons 3 rfl (Ren.own (i:=0) rfl)<|.cons 10 rfl Ren.pure<|.cons 11 rfl Ren.pure<|.nil) (xM 37 3 (du (aZ T) n k) m (by omega) (k:Int)) (tF _ _) rfl ?_
  rw[←sr (aZ T) n k m hm hmn]
  refine az (.v (aS rfl) rfl<|.a 1 rfl<|.k [1,3,10,11] rfl) ?_
  exact⟨2*T.ae.length - (k+1),by omega,k+1,by omega,rfl,rfl⟩
 ·have hke:k=2*T.ae.length:=by have:=of_decide_eq_false hc;omega
  subst hke
  exact ba<|ab (.a 2 rfl<|.k [2] rfl)<|aq<|⟨_,_,aA.of rfl,xw _ _ _,rfl⟩
end PW
end Go.Proofs.YtnegbdpggideiaaGreatDoor
namespace Go.Proofs.YtnegbdpggideiaaGreatDoor
namespace PW
open Go.RowKit cH Mem Net
theorem wH(T:an)(m:Nat)(hm:m<T.nodes.toNat):(du (aZ T) T.nodes.toNat (2*T.ae.length)).getD m []=bG T m:=by
 rw[jc _ _ _ _ hm]
 unfold bG gw
 exact congrArg (List.map Int.ofNat) (List.filter_congr fun a _=>Bool.eq_iff_iff.2 (by simp))
theorem sM(rs:List (List Int))(i:Nat)(h:i<rs.length):(rs.map aw)[i]? =some (aw (rs.getD i [])):=by simp[h]
theorem Gw(T:an)(D:List Bool)(s d:Int):cf T D [s,d]=bV T D s d:=by
 unfold bV cf
 by_cases h:(ao T&&bN T D)=true
 ·rw[if_pos h]
  by_cases hs:bd T s=true<;>by_cases hd:bd T d=true<;>simp[h,hs,hd]
 ·rw[if_neg h]
  have:(ao T&&bN T D)=false:=by simpa using h
  simp[this]
noncomputable def fM(T:an)(D:List Bool)(s d:Int):Int:=if bV T D s d=0 then(if dN T D d.toNat s.toNat<0 then 11 else 0) else bV T D s d
theorem zt{T:an}{D:List Bool}{m d j:Nat}(hne:m≠d)(h0:0≤dN T D d m)(hj:j<(bG T m).length)(hno:∀i,i<j→fV T D (bn T D d false) (dN T D d m) d ((bG T m).getD i 0).toNat=false)(hy:fV T D (bn T D d false) (dN T D d m) d ((bG T m).getD j 0).toNat=true):∃l,aX T D m d=(bG T m).getD j 0::l:=by
 unfold aX
 rw[if_neg (by rintro(h|h);exact hne h;exact absurd h (by show ¬dN T D d m<0;omega))]
 have h1:((bG T m).take j).filter (fun a=>fV T D (bn T D d false) (dN T D d m) d a.toNat)=[]:=by
  rw[List.filter_eq_nil_iff]
  intro a ha
  obtain⟨i,hi,rfl⟩:=List.getElem_of_mem ha
  have hij:i<j:=by rw[List.length_take]at hi;omega
  have:=hno i hij
  rw[List.getD_eq_getElem?_getD,List.getElem?_eq_getElem (by omega),Option.getD_some]at this
  rw[List.getElem_take,this]
  simp
 have hs:bG T m=(bG T m).take j++(bG T m).getD j 0::(bG T m).drop (j+1):=by rw[←drop_cons _ _ hj,List.take_append_drop]
 have h2:(bG T m).filter (fun a:Int=>fV T D (bn T D d false) (dN T D d m) d a.toNat)=(bG T m).getD j 0::((bG T m).drop (j+1)).filter (fun a:Int=>fV T D (bn T D d false) (dN T D d m) d a.toNat):=by
  refine(congrArg (List.filter fun a:Int=>fV T D (bn T D d false) (dN T D d m) d a.toNat) hs).trans ?_
  rw[List.filter_append,h1,List.nil_append,List.filter_cons,if_pos hy]
 exact⟨_,h2⟩
theorem rF{T:an}{D:List Bool}{m d f:Nat}{a:Int}{l:List Int}(h:aX T D m d=a::l):eA T D d (f+1) m=a::eA T D d f (aW T a.toNat).toNat:=by simp only[eA,h]
theorem Es{T:an}{D:List Bool}(hv:ao T=true){m d:Nat}(hm:(m:Int)<T.nodes)(hd:(d:Int)<T.nodes)(hne:m≠d)(h0:0≤dN T D d m)(hno:∀i,i<(bG T m).length→fV T D (bn T D d false) (dN T D d m) d ((bG T m).getD i 0).toNat=false):False:=by
 obtain⟨k,hk⟩:=jQ (D:=D) hv hm hd hne h0
 have:=fk hk ((aM hv).cost k hk.eU).1
 unfold aX at this
 rw[if_neg (by rintro(h|h);exact hne h;exact absurd h (by show ¬dN T D d m<0;omega))]at this
 obtain⟨h1,h2⟩:=List.mem_filter.1 this
 obtain⟨i,hi,he⟩:=List.getElem_of_mem h1
 have h3:=hno i hi
 rw[List.getD_eq_getElem?_getD,List.getElem?_eq_getElem hi,Option.getD_some,he]at h3
 have h2':fV T D (bn T D d false) (dN T D d m) d (k:Int).toNat=true:=h2
 rw[h3]at h2'
 cases h2'
set_option maxHeartbeats 2000000 in
theorem sQ(T:an)(D:List Bool)(s d:Int):Can Tryz.prog 206 [aN T,aQ D,num s,num d] (· =dh (fM T D s d) (bY T D s.toNat d.toNat)):=by
 have hch:=pz T D [s,d] (by simp)
 rw[Gw]at hch
 refine aE Tryz.func206 rfl Tryz.ntmps206 rfl<|ab (.a 3 rfl<|.k [1,2,3,4] rfl)<|ah<|ab (.a 5 rfl<|.c rfl (hch) rfl<|.a 1 rfl<|.k [1,2,3,4,10] rfl)<|ab (.a 2 rfl<|.k [1,2,3,4,10,26] rfl)<|ag rfl (fun hc=>?_) (fun hc=>?_)
 ·have he:bV T D s d≠0:=tt hc
  exact ab (.a 3 rfl<|.k [8,9] rfl)<|aq<|⟨_,_,aA.of rfl,aB.bx (aj.cons aB.bT (aj.cons aB.pure aj.nil)),by unfold dh fM;rw[if_neg he,if_neg he];rfl⟩
 ·have he:bV T D s d=0:=Classical.byContradiction (ff hc)
  obtain⟨hv,hf,hns,hnd⟩:=eS he
  obtain⟨hs0,hs1⟩:=aT.1 hns
  obtain⟨hd0,hd1⟩:=aT.1 hnd
  obtain⟨s,rfl⟩:=Int.eq_ofNat_of_zero_le hs0
  obtain⟨d,rfl⟩:=Int.eq_ofNat_of_zero_le hd0
  have hdi:Can Tryz.prog 151 [aN T,aQ D,num d] (· = .tuple [aw (bn T D d false),num 0]):=by
   have h:=rC T D (d:Int)
   rw[show cf T D [(d:Int)]=0 by unfold bV at he;split at he;assumption;assumption]at h
   exact h
  have hS:=aM hv
  have hN:=hS.nodes
  have hll:=bJ hv
  obtain⟨hb1,hb2⟩:=cI (D:=D) hv (dir:=false) hd1
  refine ai<|ab (.a 3 rfl<|.c rfl (hdi) rfl<|.a 5 rfl<|.k [1,2,3,4,11] rfl)<|ah<|ab (.a 2 rfl<|.v (aJ (s) rfl) rfl<|.v (aL rfl (ax _ s (by omega))) rfl<|.a 1 rfl<|.k [1,2,3,4,11,39] rfl)<|ag rfl (fun hc=>?_) (fun hc=>?_)
  ·have h0:dN T D d s<0:=tt hc
   exact ab (.a 2 rfl<|.k [8,9] rfl)<|aq<|⟨_,_,aA.of rfl,aB.bx (aj.cons aB.bT (aj.cons aB.pure aj.nil)),by unfold dh fM;simp only[Int.toNat_natCast];rw[if_pos he,if_pos h0];rfl⟩
  ·have h0:0≤dN T D d s:=by have:=ff hc;show 0≤(bn T D d false).getD s 0;omega
   have hE:fM T D (s:Int) (d:Int)=0:=by unfold fM;simp only[Int.toNat_natCast];rw[if_pos he,if_neg (by omega)]
   rw[hE]
   refine ai<|ab (.a 1 rfl<|.c rfl (lA T hv) rfl<|.a 1 rfl<|.k [1,2,3,4,11,13] rfl)<|ab (.a 1 rfl<|.k [1,2,3,4,11,13,14] rfl)<|fp 14 3 1 rfl ?_
   refine ah<|ab (.a 2 rfl<|.k [1,3,4,11,13,14,15] rfl)<|au<|eu [1,3,4,11,13,14,15] rfl<|bf (fun r st=>∃(p:List Int) (m f:Nat),(m:Int)<T.nodes∧0≤dN T D d m∧dN T D d m≤f∧r=(dN T D d m).toNat∧(p.length:Int)+dN T D d m≤dN T D d s∧bY T D s d=p++eA T D d f m∧st=⟨[(1,aQ D),(3,num d),(4,.aY (bq T) 0),(11,aw (bn T D d false)),(13,jt (du (aZ T) T.nodes.toNat (2*T.ae.length))),(14,.own 0),(15,num m)],[some (.row 3 1 p.length (aR p))]⟩) (dN T D d s).toNat ⟨[],s,(dN T D d s).toNat,hs1,h0,by omega,rfl,by simp,rfl,rfl⟩ ?_
   rintro r st ⟨p,m,f,hm,hm0,hmf,rfl,hpl,hp,rfl⟩
   refine ah<|ab (.a 3 rfl<|.k [1,3,4,11,13,14,15,45] rfl)<|ag rfl (fun hy=>?_) (fun hy=>?_)
   ·have hne:m≠d:=by have:=tt hy;omega
    have hml:m<(bn T D d false).length:=by omega
    have hrow:=wH T m (by omega)
    have hbnd:=(HW (D:=D) hv hd1 hs1).2
    have hol:(bG T m).length≤512:=Nat.le_trans (ee T m _) (by omega)
    refine ai<|au<|ab (.a 2 rfl<|.v (aJ (m) rfl (by omega) (by rw[eY];omega)) rfl<|.v (aL rfl ((sM _ m (by rw[eY];omega)).trans (by rw[hrow]))) rfl<|.a 2 rfl<|.k [1,3,4,11,13,14,15,49,50,51] rfl)<|au<|eu [1,3,4,11,13,14,15,49,50,51] rfl<|bf (fun r st=>∃j:Nat,j≤(bG T m).length∧r=(bG T m).length - j∧(∀i,i<j→fV T D (bn T D d false) (dN T D d m) d ((bG T m).getD i 0).toNat=false)∧st=⟨[(1,aQ D),(3,num d),(4,.aY (bq T) 0),(11,aw (bn T D d false)),(13,jt (du (aZ T) T.nodes.toNat (2*T.ae.length))),(14,.own 0),(15,num m),(49,aw (bG T m)),(50,num (bG T m).length),(51,num j)],[some (.row 3 1 p.length (aR p))]⟩) (bG T m).length ⟨0,by omega,by omega,fun i hi=>by omega,rfl⟩ ?_
    rintro r st ⟨j,hj,rfl,hno,rfl⟩
    refine ab (.a 1 rfl<|.k [1,3,4,11,13,14,15,49,50,51,52] rfl)<|ah<|ag rfl (fun hz=>?_) (fun hz=>?_)
    ·have hlt:j<(bG T m).length:=by have:=tt hz;omega
     obtain⟨ha0,ha1⟩:=jz (bO (d:=0) hlt)
     obtain⟨a,ha⟩:=Int.eq_ofNat_of_zero_le ha0
     have ham:a<2*T.ae.length:=by omega
     obtain⟨y,hyh,hyN⟩:=dt hv ham
     have hyl:y<(bn T D d false).length:=by omega
     have hh:=fQ T a ham (by omega)
     rw[hyh]at hh
     have hD:D.length=0∨a<D.length:=by simp only[bN,decide_eq_true_eq]at hf;omega
     obtain⟨p1,hp1⟩:∃q,aI D a=q:=⟨_,rfl⟩
     obtain⟨p2,hp2⟩:∃q,decide ((bn T D d false).getD y 0<0)=q:=⟨_,rfl⟩
     obtain⟨p3,hp3⟩:∃q,decide ((y:Int)≠(d:Int))=q:=⟨_,rfl⟩
     obtain⟨p4,hp4⟩:∃q,cU T y=q:=⟨_,rfl⟩
     have hpass:∀b,fV T D (bn T D d false) (dN T D d m) d ((bG T m).getD j 0).toNat=b↔(!((p1||p2)||(p3&&p4))&&decide ((bn T D d false).getD y 0+cb T a=dN T D d m))=b:=fun b=>by
      unfold fV
      rw[ha,Int.toNat_natCast,hyh,Int.toNat_natCast,hp1,hp2,hp3,hp4]
     refine ai<|ah<|au<|ab (.v (aJ (j) rfl) rfl<|.v (aL rfl ((ax _ j hlt).trans (by rw[ha]))) rfl<|.a 1 rfl<|.k [1,3,4,11,13,14,15,17,49,50,51] rfl)<|ab (.a 2 rfl<|.c rfl (hh) rfl<|.a 1 rfl<|.k [1,3,4,11,13,14,15,17,18,49,50,51] rfl)<|ah<|bu 77 (.raw (.bool ((p1||p2)||(p3&&p4)))) [1,3,4,11,13,14,15,17,18,49,50,51] rfl ?_ ?_
     ·refine .a 2 rfl<|.c rfl (hp1▸jE D a hD) rfl<|.a 1 rfl<|?_
      cases p1
      ·refine .a 2 rfl<|.v (aJ (y) rfl) rfl<|.v (aL rfl (ax _ y hyl)) rfl<|.v (b9 rfl (hp2)) rfl<|.a 2 rfl<|?_
       cases p2
       ·refine .a 2 rfl<|.v (b9 rfl (hp3)) rfl<|.a 1 rfl<|?_
        cases p3
        ·exact .a 5 rfl<|.k [77,1,3,4,11,13,14,15,17,18,49,50,51] rfl
        ·exact .a 2 rfl<|.c rfl (hp4▸oy T y (Ah hv hyN)) rfl<|.a 2 rfl<|.k [77,1,3,4,11,13,14,15,17,18,49,50,51] rfl
       ·exact .a 9 rfl<|.k [77,1,3,4,11,13,14,15,17,18,49,50,51] rfl
      ·exact .a 16 rfl<|.k [77,1,3,4,11,13,14,15,17,18,49,50,51] rfl
     refine ag rfl (fun hk=>?_) (fun hk=>?_)
     ·have hnp:=(hpass false).2 (by rw[hk];rfl)
      refine ba<|az (.v (aS rfl) rfl<|.a 1 rfl<|.k [1,3,4,11,13,14,15,49,50,51] rfl) ?_
      refine⟨(bG T m).length - (j+1),by omega,j+1,by omega,rfl,fun i hi=>?_,rfl⟩
      by_cases h:i=j
      ·rw[h];exact hnp
      ·exact hno i (by omega)
     ·skip
      refine ai ?_
      have hy4:=hb2 _ (bO (d:=0) hyl)
      have hc4:=hS.cost a ham
      refine dY mixed (by kernel_rfl) (.a 2 rfl<|.v [78,79] (aJ (y) rfl) rfl rfl<|.v [80] (aL rfl (ax _ y hyl)) rfl rfl<|.a 2 rfl<|.v [82,83] (dJ rfl (lL T a ham)) rfl rfl<|.v [81,84] (aS rfl (hn:=by unfold In64;omega)) rfl rfl<|.a 2 rfl<|.v [86,87] (aJ (m) rfl) rfl rfl<|.v [88] (aL rfl (ax _ m hml)) rfl rfl<|.a 1 rfl<|.k [1,3,4,11,13,14,15,17,18,49,50,51,90] rfl) ?_
      refine ag rfl (fun hq=>?_) (fun hq=>?_)
      ·have hyes:=(hpass true).2 (by rw[hk];exact decide_eq_true (tt hq))
       obtain⟨l,hl⟩:=zt hne hm0 hlt hno hyes
       obtain⟨b,hb,hbn⟩:=cL (T:=T) (D:=D) (n:=m) (d:=d) (a:=(bG T m).getD j 0) (by rw[hl];simp)
       have hba:b=a:=by omega
       subst hba
       have hdy:=hbn.dN hyh
       refine aP<|av 3 rfl<|cp (bA rfl (bI.rk.get rfl) rfl rfl rfl rfl (by unfold maxLen;omega)) rfl<|av 1 rfl ?_
       refine dD [1] (.c 1<|.c 3<|.c 4<|.c 11<|.c 13<|.c 14<|.c 18<|.nil) (.kept rfl (.eJ rfl (cN _ _))<|.nil) rfl rfl (bc ?_)
       refine ab (.a 2 rfl<|.k [1,3,4,11,13,14,15] rfl)<|ba ?_
       cases f with
       |zero=>omega
       |succ f=>
        refine⟨(dN T D d y).toNat,by omega,p++[(b:Int)],y,f,hyN,hdy.1,by omega,rfl,by simp;omega,?_,by simp⟩
        rw[hp,rF hl,ha,Int.toNat_natCast,hyh,Int.toNat_natCast,List.append_assoc]
        rfl
      ·have hnp:=(hpass false).2 (by rw[hk,Bool.and_eq_false_iff];exact .inr (decide_eq_false (ff hq)))
       refine ai<|az (.v (aS rfl) rfl<|.a 1 rfl<|.k [1,3,4,11,13,14,15,49,50,51] rfl) ?_
       refine⟨(bG T m).length - (j+1),by omega,j+1,by omega,rfl,fun i hi=>?_,rfl⟩
       by_cases h:i=j
       ·rw[h];exact hnp
       ·exact hno i (by omega)
    ·exact absurd (Es hv hm hd1 hne hm0 (fun i hi=>hno i (by have:=ff hz;omega))) (fun h=>h)
   ·have hmd:m=d:=by have:=ff hy;omega
    subst hmd
    have hfin:eA T D m f m=[]:=by cases f with|zero=>rfl|succ f=>simp only[eA,jb]
    rw[hfin,List.append_nil]at hp
    exact ba<|ab (.a 3 rfl<|.k [8,9] rfl)<|aq<|⟨_,_,aA.of rfl,aB.bx (aj.cons (aB.eH rfl aj.pure) (aj.cons aB.pure aj.nil)),by unfold dh;rw[if_pos rfl];simp only[Int.toNat_natCast];rw[hp];rfl⟩
theorem lU(T:an)(D:List Bool)(m d:Nat):(aX T D m d).Pairwise (· < ·):=by
 unfold aX
 split
 ·exact List.Pairwise.nil
 ·exact(lC T m).filter _
theorem Ac{T:an}{D:List Bool}{m d a:Nat}(h:(a:Int)∈aX T D m d)(hno:∀i:Nat,i<a→¬(i:Int)∈aX T D m d):∃l,aX T D m d=(a:Int)::l:=by
 have hs:=lU T D m d
 cases hx:aX T D m d with
 |nil=>rw[hx]at h;cases h
 |cons b l=>
  obtain⟨c,rfl,_⟩:=cL (T:=T) (D:=D) (n:=m) (d:=d) (a:=b) (by rw[hx];simp)
  rw[hx]at h hs hno
  have h1:=hno c
  have:c=a:=by
   cases h with
   |head=>rfl
   |tail _ h=>
    have:=(List.pairwise_cons.1 hs).1 _ h
    exact absurd (List.mem_cons_self ..) (h1 (by omega))
  exact⟨l,by rw[this]⟩
theorem Ip{T:an}{D:List Bool}(hv:ao T=true){m d k:Nat}(hm:(m:Int)<T.nodes)(hd:(d:Int)<T.nodes)(hk:k<2*T.ae.length):(decide (aZ T k=(m:Int))&&vI T D (bn T D d false) k d)=true↔(k:Int)∈aX T D m d:=by
 obtain⟨y,hyh,hyN⟩:=dt hv hk
 have hS:=aM hv
 constructor
 ·intro h
  obtain⟨h1,h2⟩:=Bool.and_eq_true_iff.1 h
  have h1:=tt h1
  unfold vI at h2
  rw[h1,hyh]at h2
  simp only[Int.toNat_natCast,Bool.and_eq_true,Bool.not_eq_true',Bool.or_eq_true,decide_eq_true_eq]at h2
  obtain⟨⟨⟨⟨g1,g2⟩,g3⟩,g4⟩,g5⟩:=h2
  refine fk ⟨hk,h1,g1,by omega,?_,?_,?_⟩ (hS.cost k hk).1
  ·rw[hyh,Int.toNat_natCast];exact g3
  ·rw[hyh];rcases g4 with g|g
   ·exact .inl (by omega)
   ·exact .inr (by simpa using g)
  ·rw[hyh,Int.toNat_natCast];exact g5
 ·intro h
  obtain⟨k',hk',hn⟩:=cL h
  have:k'=k:=by omega
  subst this
  have h3:=hn.reach
  have h4:=hn.pass
  have h5:=hn.sum
  have h6:=hn.ne
  rw[hyh,Int.toNat_natCast]at h3 h5
  rw[hyh,Int.toNat_natCast]at h4
  refine Bool.and_eq_true_iff.2 ⟨decide_eq_true hn.tail,?_⟩
  unfold vI
  rw[hn.tail,hyh]
  simp only[Int.toNat_natCast,Bool.and_eq_true,Bool.not_eq_true',Bool.or_eq_true,decide_eq_true_eq]
  refine⟨⟨⟨⟨hn.up,by omega⟩,h3⟩,?_⟩,h5⟩
  rcases h4 with g|g
  ·exact .inl (by omega)
  ·exact .inr (by simpa using g)
set_option maxHeartbeats 2000000 in
theorem ny(T:an)(D:List Bool)(s d:Int):Can Tryz.prog 90 [aN T,aQ D,num s,num d] (· =dh (fM T D s d) (bY T D s.toNat d.toNat)):=by
 obtain⟨g1,hg1⟩:∃q,decide (s<0)=q:=⟨_,rfl⟩
 obtain⟨g2,hg2⟩:∃q,decide (T.nodes≤s)=q:=⟨_,rfl⟩
 have hnb:bd T s= !(g1||g2):=by rw[←hg1,←hg2,←Bool.decide_or,←decide_not];unfold bd;exact decide_eq_decide.2 (by omega)
 refine aE Tryz.func90 rfl Tryz.ntmps90 rfl<|ab (.a 3 rfl<|.k [1,2,3,4] rfl)<|ab (.a 3 rfl<|.c rfl (gU T D d) rfl<|.a 5 rfl<|.k [1,2,3,4,10,11] rfl)<|ah<|ab (.a 2 rfl<|.k [1,2,3,4,10,11,22] rfl)<|ag rfl (fun hc=>?_) (fun hc=>?_)
 ·have he0:cf T D [d]≠0:=tt hc
  have he:bV T D s d≠0:=by unfold bV;rw[if_neg he0];exact he0
  have he2:bV T D s d=cf T D [d]:=by unfold bV;rw[if_neg he0]
  exact ab (.a 3 rfl<|.k [8,9] rfl)<|aq<|⟨_,_,aA.of rfl,aB.bx (aj.cons aB.bT (aj.cons aB.pure aj.nil)),by unfold dh fM;rw[if_neg he,if_neg he,he2];rfl⟩
 ·have he0:cf T D [d]=0:=Classical.byContradiction (ff hc)
  rw[he0,if_pos rfl]
  refine ai<|ah<|bu 31 (.raw (.bool (g1||g2))) [1,2,3,4,10] rfl ?_ ?_
  ·refine .a 1 rfl<|.v (b9 rfl (hg1)) rfl<|.a 1 rfl<|?_
   cases g1
   ·exact .a 3 rfl<|.v (b9 rfl (hg2)) rfl<|.a 1 rfl<|.k [31,1,2,3,4,10] rfl
   ·exact .a 5 rfl<|.k [31,1,2,3,4,10] rfl
  refine ag rfl (fun hy=>?_) (fun hy=>?_)
  ·have hn:bd T s=false:=by rw[hnb,hy];rfl
   have he:bV T D s d=2:=by unfold bV;rw[if_pos he0,hn];rfl
   exact ab (.a 2 rfl<|.k [8,9] rfl)<|aq<|⟨_,_,aA.of rfl,aB.bx (aj.cons aB.bT (aj.cons aB.pure aj.nil)),by unfold dh fM;rw[he];rfl⟩
  ·have hn:bd T s=true:=by rw[hnb,hy];rfl
   have he:bV T D s d=0:=by unfold bV;rw[if_pos he0,hn];rfl
   obtain⟨hv,hf,hns,hnd⟩:=eS he
   obtain⟨hs0,hs1⟩:=aT.1 hns
   obtain⟨hd0,hd1⟩:=aT.1 hnd
   clear hnb hg1 hg2 hy
   obtain⟨s,rfl⟩:=Int.eq_ofNat_of_zero_le hs0
   obtain⟨d,rfl⟩:=Int.eq_ofNat_of_zero_le hd0
   simp only[Int.toNat_natCast]
   have hS:=aM hv
   have hN:=hS.nodes
   have hll:=bJ hv
   obtain⟨hb1,hb2⟩:=cI (D:=D) hv (dir:=false) hd1
   refine ai<|ah<|ab (.a 2 rfl<|.v (aJ (s) rfl) rfl<|.v (aL rfl (ax _ s (by omega))) rfl<|.a 1 rfl<|.k [1,2,3,4,10,36] rfl)<|ag rfl (fun hy=>?_) (fun hy=>?_)
   ·have h0:dN T D d s<0:=tt hy
    exact ab (.a 2 rfl<|.k [8,9] rfl)<|aq<|⟨_,_,aA.of rfl,aB.bx (aj.cons aB.bT (aj.cons aB.pure aj.nil)),by unfold dh fM;simp only[Int.toNat_natCast];rw[if_pos he,if_pos h0];rfl⟩
   ·have h0:0≤dN T D d s:=by have:=ff hy;show 0≤(bn T D d false).getD s 0;omega
    have hE:fM T D (s:Int) (d:Int)=0:=by unfold fM;simp only[Int.toNat_natCast];rw[if_pos he,if_neg (by omega)]
    rw[hE]
    refine ai<|ab (.a 1 rfl<|.k [1,2,3,4,10,12] rfl)<|fp 12 3 1 rfl ?_
    refine ah<|au<|eu [1,2,3,4,10,12] rfl<|bf (fun r st=>∃(p:List Int) (m f:Nat),(m:Int)<T.nodes∧0≤dN T D d m∧dN T D d m≤f∧r=(dN T D d m).toNat∧(p.length:Int)+dN T D d m≤dN T D d s∧bY T D s d=p++eA T D d f m∧st=⟨[(1,aQ D),(2,num m),(3,num d),(4,.aY (bq T) 0),(10,aw (bn T D d false)),(12,.own 0)],[some (.row 3 1 p.length (aR p))]⟩) (dN T D d s).toNat ⟨[],s,(dN T D d s).toNat,hs1,h0,by omega,rfl,by simp,rfl,rfl⟩ ?_
    rintro r st ⟨p,m,f,hm,hm0,hmf,rfl,hpl,hp,rfl⟩
    refine ah<|ab (.a 3 rfl<|.k [1,2,3,4,10,12,39] rfl)<|ag rfl (fun hz=>?_) (fun hz=>?_)
    ·have hne:m≠d:=by have:=tt hz;omega
     have hbnd:=(HW (D:=D) hv hd1 hs1).2
     refine ai<|au<|ab (.a 1 rfl<|.k [1,2,3,4,10,12,13] rfl)<|au<|eu [1,2,3,4,10,12,13] rfl<|bf (fun r st=>∃a:Nat,a≤2*T.ae.length∧r=2*T.ae.length - a∧(∀i:Nat,i<a→¬(i:Int)∈aX T D m d)∧st=⟨[(1,aQ D),(2,num m),(3,num d),(4,.aY (bq T) 0),(10,aw (bn T D d false)),(12,.own 0),(13,num a)],[some (.row 3 1 p.length (aR p))]⟩) (2*T.ae.length) ⟨0,by omega,by omega,fun i hi=>by omega,rfl⟩ ?_
     rintro r st ⟨a,ha,rfl,hno,rfl⟩
     refine ah<|ab (.a 4 rfl<|.v (aS rfl) rfl<|.a 1 rfl<|.k [1,2,3,4,10,12,13,45] rfl)<|ag rfl (fun hq=>?_) (fun hq=>?_)
     ·have ham:a<2*T.ae.length:=by have:=tt hq;omega
      obtain⟨y,hyh,hyN⟩:=dt hv ham
      have hh:=gR T hv a ham
      rw[hyh]at hh
      obtain⟨p1,hp1⟩:∃q,decide (aZ T a=(m:Int))=q:=⟨_,rfl⟩
      obtain⟨p2,hp2⟩:∃q,vI T D (bn T D d false) a d=q:=⟨_,rfl⟩
      have hon:=Ip (D:=D) hv hm hd1 ham
      rw[hp1,hp2]at hon
      refine ai<|ah<|au<|bu 60 (.raw (.bool (p1&&p2))) [1,2,3,4,10,12,13] rfl ?_ ?_
      ·refine .a 2 rfl<|.c rfl (eN T hv a ham) rfl<|.a 1 rfl<|.v (b9 rfl (hp1)) rfl<|.a 1 rfl<|?_
       cases p1
       ·exact .a 7 rfl<|.k [60,1,2,3,4,10,12,13] rfl
       ·exact .a 5 rfl<|.c rfl (hp2▸uL T D (bn T D d false) a d hv hf hb1 hb2 ham) rfl<|.a 1 rfl<|.k [60,1,2,3,4,10,12,13] rfl
      refine ag rfl (fun hk=>?_) (fun hk=>?_)
      ·have hmem:=hon.1 hk
       obtain⟨l,hl⟩:=Ac hmem hno
       obtain⟨b,hb,hbn⟩:=cL hmem
       have hba:b=a:=by omega
       subst hba
       have hdy:=hbn.dN hyh
       have hcy:=hS.cost b ham
       refine aP<|av 3 rfl<|cp (bA rfl (bI.rk.get rfl) rfl rfl rfl rfl (by unfold maxLen;omega)) rfl<|av 1 rfl ?_
       refine dD [1] (.c 1<|.c 3<|.c 4<|.c 10<|.c 12<|.c 13<|.nil) (.kept rfl (.eJ rfl (cN _ _))<|.nil) rfl rfl (bc ?_)
       refine ab (.a 2 rfl<|.c rfl (hh) rfl<|.a 1 rfl<|.k [1,2,3,4,10,12] rfl)<|ba ?_
       cases f with
       |zero=>omega
       |succ f=>
        refine⟨(dN T D d y).toNat,by omega,p++[(b:Int)],y,f,hyN,hdy.1,by omega,rfl,by simp;omega,?_,by simp⟩
        rw[hp,rF hl,Int.toNat_natCast,hyh,Int.toNat_natCast,List.append_assoc]
        rfl
      ·have hnm:¬(a:Int)∈aX T D m d:=fun h=>by rw[hon.2 h]at hk;cases hk
       refine ai<|az (.a 1 rfl<|.v (aS rfl) rfl<|.a 1 rfl<|.k [1,2,3,4,10,12,13] rfl) ?_
       refine⟨2*T.ae.length - (a+1),by omega,a+1,by omega,rfl,fun i hi=>?_,rfl⟩
       by_cases h:i=a
       ·rw[h];exact hnm
       ·exact hno i (by omega)
     ·have hcon:False:=by
       obtain⟨k,hk⟩:=jQ (D:=D) hv hm hd1 hne hm0
       have:=fk hk (hS.cost k hk.eU).1
       exact hno k (by have:=hk.eU;have:=ff hq;omega) this
      exact absurd hcon (fun h=>h)
    ·have hmd:m=d:=by have:=ff hz;omega
     subst hmd
     have hfin:eA T D m f m=[]:=by cases f with|zero=>rfl|succ f=>simp only[eA,jb]
     rw[hfin,List.append_nil]at hp
     exact ba<|ab (.a 3 rfl<|.k [8,9] rfl)<|aq<|⟨_,_,aA.of rfl,aB.bx (aj.cons (aB.eH rfl aj.pure) (aj.cons aB.pure aj.nil)),by unfold dh;rw[if_pos rfl,hp];rfl⟩
end PW
end Go.Proofs.YtnegbdpggideiaaGreatDoor
