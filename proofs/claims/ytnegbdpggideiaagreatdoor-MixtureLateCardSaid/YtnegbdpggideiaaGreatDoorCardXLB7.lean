/- Texts of the proof, part 7. -/
import Derived.Laws.StructEq
import Derived.Test.YtnegbdpggideiaaGreatDoorCardXLB6
set_option linter.unusedVariables false
set_option linter.unusedSimpArgs false
set_option maxRecDepth 10000
set_option maxHeartbeats 1000000
namespace Go.Proofs.YtnegbdpggideiaaGreatDoor
namespace PW
section
open Go.RowKit cE Mem Net
theorem uf(a b c d:Int)(w:World):(Op.equalIn 10000 103 (.agg #[.int .i64 a,.int .i64 b]) (.agg #[.int .i64 c,.int .i64 d])).run Tryz.prog w= .ok (a==c&&b==d) w:=by
 have u3:=Tryz.underlying3
 have a3:=Tryz.isAgg3
 have z3:=Tryz.sizeOf3
 have hS:Tryz.prog.underlying 103=some (.struct (Tryz.prog.fieldsOf 103)):=by kernel_rfl
 rw[show(10000:Nat)=9999+1 from rfl,run_equalIn_agg w 9999 103 _ _ hS (by kernel_rfl)]
 simp only[Program.fieldsOf,Tryz.underlying103]
 go_simp
 by_cases h1:a=c<;>by_cases h2:b=d<;>simp[h1,h2]
theorem qu{E:Env}{w:World}{v:Value}{s:bU}(h:cK E w v (sO s)):v= .agg #[.int .i64 s.kind,.int .i64 s.num]:=by
 unfold sO oL at h
 cases h with
 |agg cs _ hl hr=>
  obtain⟨l⟩:=cs
  match l,hl,hr with
  | [x,y],_,hr=>
   have h0:=eo (hr 0 x _ rfl rfl)
   have h1:=eo (hr 1 y _ rfl rfl)
   subst h0;subst h1;rfl
  | [],hl,_=>simp at hl
  | [_],hl,_=>simp at hl
  |_::_::_::_,hl,_=>simp at hl
theorem El{σ:cc}{t:cg}{o:Oper}{x y:Operand}{tz:TypeId}{a b:bU}{q:Bool}(ho:o.op= .binOp .neq 103 x y tz)(hx:aF t x=some (sO a))(hy:aF t y=some (sO b))(hq:decide (a≠b)=q):bA Tryz.prog σ t o (.raw (.bool q)):=by
 intro F base E ρ w hρ _ hT
 have h1:=qu (aA hρ hT hx)
 have h2:=qu (aA hρ hT hy)
 have hb:(!(a.kind==b.kind&&a.num==b.num))=q:=by
  rw[←hq]
  obtain⟨a1,a2⟩:=a
  obtain⟨b1,b2⟩:=b
  by_cases e1:a1=b1<;>by_cases e2:a2=b2<;>simp[e1,e2]
 simp only[execOp,ho,h1,h2,Sem.run_bind,run_eqGuard_agg w _ _ _ _ _ _ (show Tryz.prog.eqGuardType Tryz.prog.depth 103=false by kernel_rfl),Result.andThen_ok,run_neq_struct,uf,Sem.run_pure,hb]
 exact bz (.raw _)
theorem wE{σ:cc}{t:cg}{o:Oper}{x y:Operand}{tz:TypeId}{a b:bU}{q:Bool}(ho:o.op= .binOp .eql 103 x y tz)(hx:aF t x=some (sO a))(hy:aF t y=some (sO b))(hq:decide (a=b)=q):bA Tryz.prog σ t o (.raw (.bool q)):=by
 intro F base E ρ w hρ _ hT
 have h1:=qu (aA hρ hT hx)
 have h2:=qu (aA hρ hT hy)
 have hb:(a.kind==b.kind&&a.num==b.num)=q:=by
  rw[←hq]
  obtain⟨a1,a2⟩:=a
  obtain⟨b1,b2⟩:=b
  by_cases e1:a1=b1<;>by_cases e2:a2=b2<;>simp[e1,e2]
 simp only[execOp,ho,h1,h2,Sem.run_bind,run_eqGuard_agg w _ _ _ _ _ _ (show Tryz.prog.eqGuardType Tryz.prog.depth 103=false by kernel_rfl),Result.andThen_ok,run_eql_struct,uf,Sem.run_pure,hb]
 exact bz (.raw _)
theorem AU(L M:List bU):Can Tryz.prog 132 [ca L,ca M] (· =flag (decide (L=M))):=by
 refine lq fun⟨E,w,vs,hR⟩=>?_
 obtain⟨v,_,hv⟩:=hR.get (i:=0) I
 have hm:=jJ hv
 unfold maxLen at hm
 refine aI Tryz.func132 I Tryz.ntmps132 I<|ab (.a 1 I<|.k [0,1] I)<|aj<|ab (.a 5 I<|.k [0,1,10] I)<|ah I (fun hc=>?_) (fun hc=>?_)
 ·have hne:L≠M:=fun e=>by have:=of_decide_eq_true hc;rw[e]at this;exact this rfl
  exact ab (.a 1 I<|.k [4] I)<|ao<|⟨_,_,az.of I,ay.pure,by rw[decide_eq_false hne];rfl⟩
 ·have hlen:L.length=M.length:=by have:=of_decide_eq_false hc;omega
  refine ai<|aj<|ab (.a 1 I<|.k [0,1,5] I)<|aw<|eS [0,1,5] I<|bu (fun r s=>∃i,i≤L.length∧(∀j,j<i→L[j]? =M[j]?)∧r=L.length - i∧s=⟨[(0,ca L),(1,ca M),(5,num i)],[]⟩) L.length ⟨0,by omega,fun j hj=>by omega,by omega,rfl⟩ ?_
  rintro r s ⟨i,hi,hall,rfl,rfl⟩
  refine aj<|ab (.a 4 I<|.k [0,1,5,14] I)<|ah I (fun hc=>?_) (fun hc=>?_)
  ·have hlt:i<L.length:=by have:=of_decide_eq_true hc;omega
   obtain⟨a,ha⟩:∃a,L[i]? =some a:=⟨L[i],by simp[hlt]⟩
   obtain⟨b,hb⟩:∃b,M[i]? =some b:=⟨M[i]'(by omega),by simp[show i<M.length by omega]⟩
   refine ai<|aj<|aw<|ef mixed (by kernel_rfl) (.a 2 I<|.v [17,18] (aM (i*2) I) I I<|.v [19] (iY I (ba.tk.get I) I (gg L i a ha) I) I I<|.a 2 I<|.v [21,22] (aM (i*2) I) I I<|.v [23] (iY I (ba.tk.get I) I (gg M i b hb) I) I I<|.v [20,24] (El (a:=a) (b:=b) I I I I) I I<|.k [0,1,5,25] I) ?_
   refine ah I (fun hc=>?_) (fun hc=>?_)
   ·have hne:L≠M:=fun e=>by rw[e,hb]at ha;cases ha;exact of_decide_eq_true hc rfl
    exact ab (.a 1 I<|.k [4] I)<|ao<|⟨_,_,az.of I,ay.pure,by rw[decide_eq_false hne];rfl⟩
   ·have hab:a=b:=Classical.byContradiction (of_decide_eq_false hc)
    refine ai<|aC (.a 1 I<|.v (aV I) I<|.a 1 I<|.k [0,1,5] I) ?_
    exact⟨L.length - (i+1),by omega,i+1,by omega,fun j hj=>by by_cases e:j=i;(rw[e,ha,hb,hab]);exact hall j (by omega),rfl,rfl⟩
  ·have hie:i=L.length:=by have:=of_decide_eq_false hc;omega
   have heq:L=M:=List.ext_getElem? fun j=>by
    by_cases hj:j<L.length
    ·exact hall j (by omega)
    ·rw[List.getElem?_eq_none (by omega),List.getElem?_eq_none (by omega)]
   exact bh<|ab (.a 1 I<|.k [4] I)<|ao<|⟨_,_,az.of I,ay.pure,by rw[decide_eq_true heq];rfl⟩
deriving instance DecidableEq for iS
deriving instance DecidableEq for de
theorem AD{E:Env}{w:World}{v:Value}{x:de}(h:cK E w v (fv x)):x.dr.length≤maxLen∧x.down.length≤maxLen:=by
 unfold fv eR at h
 cases h with
 |agg cs _ hl hr=>
  have hr:bd E w cs.toList _:=⟨by simpa using hl,fun i x u h1 h2=>hr i x u (by simpa using h1) h2⟩
  obtain⟨v1,_,h1⟩:=hr.get (i:=1) I
  obtain⟨v2,_,h2⟩:=hr.get (i:=2) I
  exact⟨jJ h1,jJ h2⟩
def jt(T:an)(s:bU):Bool:=if s.kind=1 then bm T s.num else if s.kind=2 then ep T s.num else if s.kind=3 then bL s.num 1 64 else if s.kind=4 then bL s.num 0 65535 else false
def eE(T:an)(n:Int)(L:List Int):Bool:=decide (∀i,i<L.length→ep T (L.getD i 0)=true∧br T (L.getD i 0).toNat=n∧(0<i→L.getD (i - 1) 0<L.getD i 0))
def gh(T:an)(n d:Int)(e:iS):Bool:=eE T n e.ax&&(!(decide (d=n)&&decide (0<(e.ax.length:Int))))&&(if e.rep then decide ((e.ax.length:Int)=1)&&decide ((e.push.length:Int)≤32)&&e.push.all (jt T) else decide ((e.push.length:Int)=0))
def IY:iS:=⟨[],false,[]⟩
def nu(T:an)(n:Int)(l:List iS):Bool:=decide (∀d,d<l.length→gh T n d (l.getD d IY)=true)
def cV(T:an)(x:de):Bool:=aq T&&bm T x.node&&decide ((x.dr.length:Int)=T.nodes)&&eE T x.node x.down&&nu T x.node x.dr
theorem cD{T:an}{a:Int}:ep T a=true↔0≤a∧a<2*(T.ag.length:Int):=by simp[ep]
theorem pr(T:an)(a:Int)(h:ep T a=true):Can Tryz.prog 79 [aN T,num a] (· =num (br T a.toNat)):=by
 obtain⟨h0,h1⟩:=cD.1 h
 obtain⟨a,rfl⟩:=Int.eq_ofNat_of_zero_le h0
 exact jq T a (by omega)
theorem C6(T:an)(hl:T.ag.length≤4611686018427387903)(s:bU):Can Tryz.prog 171 [aN T,sO s] (· =flag (jt T s)):=by
 unfold jt
 refine aI Tryz.func171 I Tryz.ntmps171 I<|ab (.a 3 I<|.k [2,3] I)<|aj<|ab (.a 2 I<|.k [2,3,6] I)<|aw<|ab (.a 2 I<|.k [2,3,6,7] I)<|ah I (fun hc=>?_) (fun hc=>?_)
 ·rw[if_pos (tt hc)]
  exact ab (.a 3 I<|.c rfl (dF T s.num) I<|.a 1 I<|.k [4] I)<|ao<|⟨_,_,az.of I,ay.pure,rfl⟩
 ·rw[if_neg (ff hc)]
  refine ab (.a 2 I<|.k [2,3,6,13] I)<|ah I (fun hc=>?_) (fun hc=>?_)
  ·rw[if_pos (tt hc)]
   exact ab (.a 3 I<|.c rfl (qw T hl s.num) I<|.a 1 I<|.k [4] I)<|ao<|⟨_,_,az.of I,ay.pure,rfl⟩
  ·rw[if_neg (ff hc)]
   refine ab (.a 2 I<|.k [3,6,19] I)<|ah I (fun hc=>?_) (fun hc=>?_)
   ·rw[if_pos (tt hc)]
    obtain⟨p1,hp1⟩:∃q,decide (1≤s.num)=q:=⟨_,rfl⟩
    obtain⟨p2,hp2⟩:∃q,decide (s.num≤64)=q:=⟨_,rfl⟩
    have he:bL s.num 1 64=(p1&&p2):=by rw[←hp1,←hp2];unfold bL;exact Bool.decide_and _ _
    rw[he]
    refine bE 4 (.raw (.bool (p1&&p2))) [] I ?_ ?_
    ·refine .a 2 I<|.v (cd I (hp1)) I<|.a 1 I<|?_
     cases p1
     ·exact .a 5 I<|.k [4] I
     ·exact .a 2 I<|.v (cd I (hp2)) I<|.a 2 I<|.k [4] I
    exact ao<|⟨_,_,az.of I,ay.pure,rfl⟩
   ·rw[if_neg (ff hc)]
    refine ab (.a 2 I<|.k [3,29] I)<|ah I (fun hc=>?_) (fun hc=>?_)
    ·rw[if_pos (tt hc)]
     obtain⟨p1,hp1⟩:∃q,decide (0≤s.num)=q:=⟨_,rfl⟩
     obtain⟨p2,hp2⟩:∃q,decide (s.num≤65535)=q:=⟨_,rfl⟩
     have he:bL s.num 0 65535=(p1&&p2):=by rw[←hp1,←hp2];unfold bL;exact Bool.decide_and _ _
     rw[he]
     refine bE 4 (.raw (.bool (p1&&p2))) [] I ?_ ?_
     ·refine .a 2 I<|.v (cd I (hp1)) I<|.a 1 I<|?_
      cases p1
      ·exact .a 5 I<|.k [4] I
      ·exact .a 2 I<|.v (cd I (hp2)) I<|.a 2 I<|.k [4] I
     exact ao<|⟨_,_,az.of I,ay.pure,rfl⟩
    ·rw[if_neg (ff hc)]
     exact ai<|ab (.a 1 I<|.k [4] I)<|ao<|⟨_,_,az.of I,ay.pure,rfl⟩
theorem ES{T:an}{s:bU}(h:s.num<0):jt T s=false:=by
 unfold jt
 have h1:bm T s.num=false:=by unfold bm;exact decide_eq_false (by omega)
 have h2:ep T s.num=false:=by unfold ep;exact decide_eq_false (by omega)
 have h3:bL s.num 1 64=false:=by unfold bL;exact decide_eq_false (by omega)
 have h4:bL s.num 0 65535=false:=by unfold bL;exact decide_eq_false (by omega)
 rw[h1,h2,h3,h4]
 simp
theorem Fu(T:an)(hv:aq T=true)(s:bU):Can Tryz.prog 193 [aN T,sO s] (· =flag (jt T s)):=by
 have h:=eZ T
 rw[hv]at h
 obtain⟨p0,hp0⟩:∃q,decide (s.num<0)=q:=⟨_,rfl⟩
 refine aI Tryz.func193 I Tryz.ntmps193 I<|ab (.a 3 I<|.k [2,3] I)<|aj<|bE 12 (.raw (.bool (p0))) [2,3] I ?_ ?_
 ·exact .a 1 I<|.c rfl (h) I<|.a 4 I<|.v (cd I (hp0)) I<|.a 1 I<|.k [12,2,3] I
 refine ah I (fun hc=>?_) (fun hc=>?_)
 ·rw[hc]at hp0
  rw[ES (tt hp0)]
  exact ab (.a 1 I<|.k [4] I)<|ao<|⟨_,_,az.of I,ay.pure,rfl⟩
 ·rw[hc]at hp0
  have h0:0≤s.num:=by have:=ff hp0;omega
  unfold jt
  refine ai<|aj<|ab (.a 2 I<|.k [2,3,14] I)<|aw<|ab (.a 2 I<|.k [2,3,14,15] I)<|ah I (fun hc=>?_) (fun hc=>?_)
  ·rw[if_pos (tt hc),show bm T s.num=decide (s.num<T.nodes) by unfold bm;exact decide_eq_decide.2 (by omega)]
   exact ab (.a 6 I<|.k [4] I)<|ao<|⟨_,_,az.of I,ay.pure,rfl⟩
  ·rw[if_neg (ff hc)]
   refine ab (.a 2 I<|.k [2,3,14,22] I)<|ah I (fun hc=>?_) (fun hc=>?_)
   ·rw[if_pos (tt hc),show ep T s.num=decide (s.num<2*(T.ag.length:Int)) by unfold ep;exact decide_eq_decide.2 (by omega)]
    refine ef mixed (by kernel_rfl) (.a 3 I<|.v [26] (dX I (kc T hv)) I I<|.a 2 I<|.k [4] I) ?_
    exact ao<|⟨_,_,az.of I,ay.pure,rfl⟩
   ·rw[if_neg (ff hc)]
    refine ab (.a 2 I<|.k [3,14,29] I)<|ah I (fun hc=>?_) (fun hc=>?_)
    ·rw[if_pos (tt hc)]
     obtain⟨p1,hp1⟩:∃q,decide (1≤s.num)=q:=⟨_,rfl⟩
     obtain⟨p2,hp2⟩:∃q,decide (s.num≤64)=q:=⟨_,rfl⟩
     have he:bL s.num 1 64=(p1&&p2):=by rw[←hp1,←hp2];unfold bL;exact Bool.decide_and _ _
     rw[he]
     refine bE 4 (.raw (.bool (p1&&p2))) [] I ?_ ?_
     ·refine .a 2 I<|.v (cd I (hp1)) I<|.a 1 I<|?_
      cases p1
      ·exact .a 5 I<|.k [4] I
      ·exact .a 2 I<|.v (cd I (hp2)) I<|.a 2 I<|.k [4] I
     exact ao<|⟨_,_,az.of I,ay.pure,rfl⟩
    ·rw[if_neg (ff hc)]
     refine ab (.a 2 I<|.k [3,39] I)<|ah I (fun hc=>?_) (fun hc=>?_)
     ·rw[if_pos (tt hc),show bL s.num 0 65535=decide (s.num≤65535) by unfold bL;exact decide_eq_decide.2 (by omega)]
      exact ab (.a 4 I<|.k [4] I)<|ao<|⟨_,_,az.of I,ay.pure,rfl⟩
     ·rw[if_neg (ff hc)]
      exact ai<|ab (.a 1 I<|.k [4] I)<|ao<|⟨_,_,az.of I,ay.pure,rfl⟩
def pX(T:an)(n:Int)(L:List Int)(i:Nat):Bool:=decide (ep T (L.getD i 0)=true∧br T (L.getD i 0).toNat=n∧(0<i→L.getD (i - 1) 0<L.getD i 0))
theorem sR{T:an}{n:Int}{L:List Int}(h:∀i,i<L.length→pX T n L i=true):eE T n L=true:=decide_eq_true fun i hi=>tt (h i hi)
theorem rT{T:an}{n:Int}{L:List Int}{i:Nat}(hi:i<L.length)(h:pX T n L i=false):eE T n L=false:=decide_eq_false fun ha=>ff h (ha i hi)
theorem nP(T:an)(hv:aq T=true)(n:Int)(L:List Int):Can Tryz.prog 140 [aN T,num n,au L] (· =flag (eE T n L)):=by
 have hll:=bV hv
 refine lq fun⟨E,w,vs,hR⟩=>?_
 obtain⟨v,_,hv⟩:=hR.get (i:=2) I
 have hm:=jJ hv
 unfold maxLen at hm
 refine aI Tryz.func140 I Tryz.ntmps140 I<|ab (.a 2 I<|.k [1,2,3] I)<|aj<|ab (.a 3 I<|.k [1,2,3,9,10,11] I)<|aw<|eS [1,2,3,9,10,11] I<|bu (fun r s=>∃k,k≤L.length∧r=L.length - k∧(∀i,i<k→pX T n L i=true)∧s=⟨[(1,num n),(2,au L),(3,.bc (bC T) 0),(9,au L),(10,num L.length),(11,num k)],[]⟩) L.length ⟨0,by omega,by omega,fun i hi=>by omega,rfl⟩ ?_
 rintro r s ⟨k,hk,rfl,hall,rfl⟩
 refine ab (.a 1 I<|.k [1,2,3,9,10,11,12] I)<|aj<|ah I (fun hc=>?_) (fun hc=>?_)
 ·have hlt:k<L.length:=by have:=tt hc;omega
  obtain⟨p1,hp1⟩:∃q,ep T (L.getD k 0)=q:=⟨_,rfl⟩
  obtain⟨p2,hp2⟩:∃q,decide (br T (L.getD k 0).toNat≠n)=q:=⟨_,rfl⟩
  obtain⟨p3,hp3⟩:∃q,decide (0<(k:Int))=q:=⟨_,rfl⟩
  obtain⟨p4,hp4⟩:∃q,decide (L.getD k 0≤L.getD (k - 1) 0)=q:=⟨_,rfl⟩
  refine ai<|aj<|aw<|ab (.a 1 I<|.v (aM (k) I) I<|.v (aJ I (aB L k hlt)) I<|.a 2 I<|.k [1,2,3,7,8,9,10,11] I)<|bE 39 (.raw (.bool (((!p1)||p2)||(p3&&p4)))) [1,2,3,9,10,11] I ?_ ?_
  ·refine .a 2 I<|.c rfl (hp1▸qw T (by omega) (L.getD k 0)) I<|.a 2 I<|?_
   cases p1
   ·exact .a 19 I<|.k [39,1,2,3,9,10,11] I
   ·refine .a 2 I<|.c rfl (pr T _ hp1) I<|.a 1 I<|.v (cd I (hp2)) I<|.a 2 I<|?_
    cases p2
    ·refine .a 1 I<|.v (cd I (hp3)) I<|.a 1 I<|?_
     cases p3
     ·exact .a 9 I<|.k [39,1,2,3,9,10,11] I
     ·exact .a 2 I<|.v (aV I) I<|.v (aM (k - 1) I (by have:=tt hp3;omega) (by omega)) I<|.v (aJ I (aB L (k - 1) (by omega))) I<|.a 1 I<|.v (cd I (hp4)) I<|.a 2 I<|.k [39,1,2,3,9,10,11] I
    ·exact .a 12 I<|.k [39,1,2,3,9,10,11] I
  refine ah I (fun hx=>?_) (fun hx=>?_)
  ·have hno:pX T n L k=false:=by
    refine decide_eq_false fun⟨h1,h2,h3⟩=>?_
    rw[h1]at hp1
    rw[decide_eq_false (by simpa using h2)]at hp2
    subst hp1 hp2
    simp only[Bool.not_true,Bool.false_or,Bool.and_eq_true]at hx
    rw[hx.1]at hp3
    rw[hx.2]at hp4
    have:=h3 (by have:=tt hp3;omega)
    have:=tt hp4
    omega
   rw[rT hlt hno]
   exact ab (.a 1 I<|.k [6] I)<|ao<|⟨_,_,az.of I,ay.pure,rfl⟩
  ·have hyes:pX T n L k=true:=by
    obtain⟨c1,c3⟩:=Bool.or_eq_false_iff.1 hx
    obtain⟨c1,c2⟩:=Bool.or_eq_false_iff.1 c1
    refine decide_eq_true ⟨?_,?_,fun h0=>?_⟩
    ·rw[hp1];simpa using c1
    ·rw[c2]at hp2;exact Classical.byContradiction (ff hp2)
    ·rw[decide_eq_true (by omega)]at hp3
     subst hp3
     rw[Bool.true_and]at c3
     rw[c3]at hp4
     have:=ff hp4
     omega
   refine ai<|aC (.v (aV I) I<|.a 1 I<|.k [1,2,3,9,10,11] I) ?_
   refine⟨L.length - (k+1),by omega,k+1,by omega,rfl,fun i hi=>?_,rfl⟩
   by_cases h:i=k
   ·rw[h];exact hyes
   ·exact hall i (by omega)
 ·have hke:k=L.length:=by have:=ff hc;omega
  subst hke
  rw[sR hall]
  exact bh<|ab (.a 1 I<|.k [6] I)<|ao<|⟨_,_,az.of I,ay.pure,rfl⟩
theorem rD{T:an}(a n:Int)(hn:0≤n):(nr T a=n)↔(ep T a=true∧br T a.toNat=n):=by
 unfold nr
 rw[cD]
 split
 ·rename_i h;exact⟨fun e=>⟨h,e⟩,fun e=>e.2⟩
 ·rename_i h;exact⟨fun e=>by omega,fun e=>absurd e.1 h⟩
theorem nN(T:an)(hv:aq T=true)(n:Int)(hn:0≤n)(L:List Int):Can Tryz.prog 192 [aN T,num n,au L] (· =flag (eE T n L)):=by
 have hll:=bV hv
 refine lq fun⟨E,w,vs,hR⟩=>?_
 obtain⟨v,_,hvv⟩:=hR.get (i:=2) I
 have hm:=jJ hvv
 unfold maxLen at hm
 refine aI Tryz.func192 I Tryz.ntmps192 I<|ab (.a 2 I<|.k [1,2,3] I)<|aj<|ab (.a 1 I<|.k [1,2,3,7] I)<|aw<|eS [1,2,3,7] I<|bu (fun r s=>∃k,k≤L.length∧r=L.length - k∧(∀i,i<k→pX T n L i=true)∧s=⟨[(1,num n),(2,au L),(3,.bc (bC T) 0),(7,num k)],[]⟩) L.length ⟨0,by omega,by omega,fun i hi=>by omega,rfl⟩ ?_
 rintro r s ⟨k,hk,rfl,hall,rfl⟩
 refine aj<|ab (.a 4 I<|.k [1,2,3,7,11] I)<|ah I (fun hc=>?_) (fun hc=>?_)
 ·have hlt:k<L.length:=by have:=tt hc;omega
  obtain⟨p1,hp1⟩:∃q,decide (nr T (L.getD k 0)≠n)=q:=⟨_,rfl⟩
  obtain⟨p3,hp3⟩:∃q,decide (0<(k:Int))=q:=⟨_,rfl⟩
  obtain⟨p4,hp4⟩:∃q,decide (L.getD k 0≤L.getD (k - 1) 0)=q:=⟨_,rfl⟩
  refine ai<|aj<|aw<|iM mixed (by kernel_rfl) 37 (.raw (.bool (p1||(p3&&p4)))) [1,2,3,7] I ?_ ?_
  ·refine .a 3 I<|.v [15,16] (aM (k) I) I I<|.v [17] (aJ I (aB L k hlt)) I I<|.v [14,18] (dX I (mU T hv (L.getD k 0))) I I<|.a 1 I<|.v [19,20] (cd I (hp1)) I I<|.a 1 I<|?_
   cases p1
   ·refine .a 1 I<|.v [23] (cd I (hp3)) I I<|.a 1 I<|?_
    cases p3
    ·exact .a 12 I<|.k [37,1,2,3,7] I
    ·exact .a 2 I<|.v [26,27] (aM (k) I) I I<|.v [28] (aJ I (aB L k hlt)) I I<|.a 2 I<|.v [31] (aV I) I I<|.v [30,32] (aM (k - 1) I (by have:=tt hp3;omega) (by omega)) I I<|.v [33] (aJ I (aB L (k - 1) (by omega))) I I<|.v [29,34] (cd I (hp4)) I I<|.a 2 I<|.k [37,1,2,3,7] I
   ·exact .a 15 I<|.k [37,1,2,3,7] I
  refine ah I (fun hx=>?_) (fun hx=>?_)
  ·have hno:pX T n L k=false:=by
    refine decide_eq_false fun⟨h1,h2,h3⟩=>?_
    rw[decide_eq_false (by have:=(rD _ n hn).2 ⟨h1,h2⟩;simpa using this)]at hp1
    subst hp1
    simp only[Bool.false_or,Bool.and_eq_true]at hx
    rw[hx.1]at hp3
    rw[hx.2]at hp4
    have:=h3 (by have:=tt hp3;omega)
    have:=tt hp4
    omega
   rw[rT hlt hno]
   exact ab (.a 1 I<|.k [6] I)<|ao<|⟨_,_,az.of I,ay.pure,rfl⟩
  ·have hyes:pX T n L k=true:=by
    obtain⟨c1,c3⟩:=Bool.or_eq_false_iff.1 hx
    rw[c1]at hp1
    obtain⟨h1,h2⟩:=(rD _ n hn).1 (Classical.byContradiction (ff hp1))
    refine decide_eq_true ⟨h1,h2,fun h0=>?_⟩
    rw[decide_eq_true (by omega)]at hp3
    subst hp3
    rw[Bool.true_and]at c3
    rw[c3]at hp4
    have:=ff hp4
    omega
   refine ai<|aC (.a 1 I<|.v (aV I) I<|.a 1 I<|.k [1,2,3,7] I) ?_
   refine⟨L.length - (k+1),by omega,k+1,by omega,rfl,fun i hi=>?_,rfl⟩
   by_cases h:i=k
   ·rw[h];exact hyes
   ·exact hall i (by omega)
 ·have hke:k=L.length:=by have:=ff hc;omega
  subst hke
  rw[sR hall]
  exact bh<|ab (.a 1 I<|.k [6] I)<|ao<|⟨_,_,az.of I,ay.pure,rfl⟩
theorem J4{α:Type}(p:α→Bool)(L:List α)(k:Nat)(a:α)(h:L[k]? =some a):(L.take (k+1)).all p=((L.take k).all p&&p a):=by
 rw[List.take_add_one,h,List.all_append];simp
theorem J1{α:Type}(p:α→Bool)(L:List α)(k:Nat)(a:α)(h:L[k]? =some a)(hp:p a=false):L.all p=false:=by
 rw[Bool.eq_false_iff]
 intro ha
 have:=List.all_eq_true.1 ha a (List.mem_of_getElem? h)
 rw[hp]at this
 cases this
theorem yv(T:an)(hv:aq T=true)(e:iS)(n d:Int):Can Tryz.prog 141 [aN T,wW e,num n,num d] (· =flag (gh T n d e)):=by
 have hll:=bV hv
 obtain⟨p1,hp1⟩:∃q,eE T n e.ax=q:=⟨_,rfl⟩
 obtain⟨p2,hp2⟩:∃q,decide (d=n)=q:=⟨_,rfl⟩
 obtain⟨p3,hp3⟩:∃q,decide (0<(e.ax.length:Int))=q:=⟨_,rfl⟩
 unfold gh
 rw[hp1,hp2,hp3]
 refine aI Tryz.func141 I Tryz.ntmps141 I<|ab (.a 3 I<|.k [2,3,4,5] I)<|aj<|bE 27 (.raw (.bool ((!p1)||(p2&&p3)))) [4,5] I ?_ ?_
 ·refine .a 4 I<|.c rfl (hp1▸nP T hv n e.ax) I<|.a 2 I<|?_
  cases p1
  ·exact .a 10 I<|.k [27,4,5] I
  ·refine .a 2 I<|.v (cd I (hp2)) I<|.a 1 I<|?_
   cases p2
   ·exact .a 6 I<|.k [27,4,5] I
   ·exact .a 3 I<|.v (cd I (hp3)) I<|.a 2 I<|.k [27,4,5] I
 refine ah I (fun hc=>?_) (fun hc=>?_)
 ·have he:(p1&& !(p2&&p3))=false:=by cases p1<;>cases p2<;>cases p3<;>first|rfl|cases hc
  rw[he,Bool.false_and]
  exact ab (.a 1 I<|.k [8] I)<|ao<|⟨_,_,az.of I,ay.pure,rfl⟩
 ·have he:(p1&& !(p2&&p3))=true:=by cases p1<;>cases p2<;>cases p3<;>first|rfl|cases hc
  rw[he,Bool.true_and]
  refine ai<|aj<|ab (.a 3 I<|.k [4,5,30] I)<|ah I (fun hc=>?_) (fun hc=>?_)
  ·have hr:e.rep=false:=by simpa using hc
   rw[hr,if_neg (by simp)]
   exact ab (.a 5 I<|.k [8] I)<|ao<|⟨_,_,az.of I,ay.pure,rfl⟩
  ·have hr:e.rep=true:=by simpa using hc
   rw[hr,if_pos rfl]
   refine ai<|aj ?_
   obtain⟨p4,hp4⟩:∃q,decide ((e.ax.length:Int)≠1)=q:=⟨_,rfl⟩
   obtain⟨p5,hp5⟩:∃q,decide (32<(e.push.length:Int))=q:=⟨_,rfl⟩
   refine bE 44 (.raw (.bool (p4||p5))) [4,5] I ?_ ?_
   ·refine .a 3 I<|.v (cd I (hp4)) I<|.a 1 I<|?_
    cases p4
    ·exact .a 3 I<|.v (cd I (hp5)) I<|.a 1 I<|.k [44,4,5] I
    ·exact .a 5 I<|.k [44,4,5] I
   refine ah I (fun hx=>?_) (fun hx=>?_)
   ·have hf:(decide ((e.ax.length:Int)=1)&&decide ((e.push.length:Int)≤32))=false:=by
     rcases Bool.or_eq_true_iff.1 hx with h|h
     ·rw[h]at hp4;rw[decide_eq_false (tt hp4)];rfl
     ·rw[h]at hp5;rw[decide_eq_false (by have:=tt hp5;omega:¬((e.push.length:Int)≤32)),Bool.and_false]
    rw[hf,Bool.false_and]
    exact ab (.a 1 I<|.k [8] I)<|ao<|⟨_,_,az.of I,ay.pure,rfl⟩
   ·obtain⟨c1,c2⟩:=Bool.or_eq_false_iff.1 hx
    rw[c1]at hp4
    rw[c2]at hp5
    have hlen:e.push.length≤32:=by have:=ff hp5;omega
    rw[decide_eq_true (Classical.byContradiction (ff hp4)),decide_eq_true (by omega:(e.push.length:Int)≤32),Bool.true_and,Bool.true_and]
    refine ai<|aj<|ab (.a 4 I<|.k [4,46,47,48] I)<|aw<|eS [4,46,47,48] I<|bu (fun r s=>∃k,k≤e.push.length∧r=e.push.length - k∧(e.push.take k).all (jt T)=true∧s=⟨[(4,.bc (bC T) 0),(46,ca e.push),(47,num e.push.length),(48,num k)],[]⟩) e.push.length ⟨0,by omega,by omega,by simp,rfl⟩ ?_
    rintro r s ⟨k,hk,rfl,hall,rfl⟩
    refine ab (.a 1 I<|.k [4,46,47,48,49] I)<|aj<|ah I (fun hy=>?_) (fun hy=>?_)
    ·have hlt:k<e.push.length:=by have:=tt hy;omega
     obtain⟨a,ha⟩:∃a,e.push[k]? =some a:=⟨e.push[k],by simp[hlt]⟩
     refine ai<|aj<|aw<|aP<|bw (aM (k*2) I) I<|bw (fG I (gg e.push k a ha) I) I<|av 2 I<|aG [4,10,46,47,48] I ?_
     refine ab (.a 2 I<|.c rfl (C6 T (by omega) a) I<|.a 1 I<|.k [4,46,47,48,55] I)<|dI [] (.c 4<|.c 46<|.c 47<|.c 48<|.c 55 .nil) .nil rfl rfl ?_
     refine ah I (fun hz=>?_) (fun hz=>?_)
     ·rw[J1 _ _ k a ha (by simpa using hz)]
      exact ab (.a 1 I<|.k [8] I)<|ao<|⟨_,_,az.of I,ay.pure,rfl⟩
     ·have hz':jt T a=true:=by simpa using hz
      refine ai<|aC (.v (aV I) I<|.a 1 I<|.k [4,46,47,48] I) ?_
      exact⟨e.push.length - (k+1),by omega,k+1,by omega,rfl,by rw[J4 _ _ k a ha,hall,hz'];rfl,rfl⟩
    ·have hke:k=e.push.length:=by have:=ff hy;omega
     subst hke
     rw[List.take_length]at hall
     rw[hall]
     exact bh<|ab (.a 1 I<|.k [8] I)<|ao<|⟨_,_,az.of I,ay.pure,rfl⟩
theorem mP(l:List iS)(k:Nat)(e:iS)(h:l[k]? =some e):l.getD k IY=e:=by rw[List.getD_eq_getElem?_getD,h];rfl
theorem jT{T:an}{n:Int}{l:List iS}{k:Nat}{e:iS}(h:l[k]? =some e)(hf:gh T n k e=false):nu T n l=false:=decide_eq_false fun ha=>by
 have:=ha k (List.getElem?_eq_some_iff.1 h).1
 rw[mP l k e h,hf]at this
 cases this
theorem gT{T:an}{n:Int}{l:List iS}(h:∀(k:Nat) e,l[k]? =some e→gh T n k e=true):nu T n l=true:=decide_eq_true fun d hd=>by
 have he:l[d]? =some l[d]:=by simp[hd]
 rw[mP l d _ he]
 exact h d _ he
theorem sA(T:an)(x:de):Can Tryz.prog 99 [aN T,fv x] (· =flag (cV T x)):=by
 refine lq fun⟨E,w,vs,hR⟩=>?_
 obtain⟨v,_,hvv⟩:=hR.get (i:=1) I
 have hm:=(AD hvv).1
 unfold maxLen at hm
 obtain⟨p1,hp1⟩:∃q,aq T=q:=⟨_,rfl⟩
 obtain⟨p2,hp2⟩:∃q,bm T x.node=q:=⟨_,rfl⟩
 obtain⟨p3,hp3⟩:∃q,decide ((x.dr.length:Int)≠T.nodes)=q:=⟨_,rfl⟩
 obtain⟨p4,hp4⟩:∃q,eE T x.node x.down=q:=⟨_,rfl⟩
 have he:decide ((x.dr.length:Int)=T.nodes)= !p3 :=by rw[←hp3];simp
 unfold cV
 rw[hp1,hp2,he,hp4]
 refine aI Tryz.func99 I Tryz.ntmps99 I<|ab (.a 3 I<|.k [2,3] I)<|aj<|bE 33 (.raw (.bool ((((!p1)|| !p2)||p3)|| !p4))) [2,3] I ?_ ?_
 ·refine .a 1 I<|.c rfl (hp1▸eN T) I<|.a 2 I<|?_
  cases p1
  ·exact .a 23 I<|.k [33,2,3] I
  ·refine .a 3 I<|.c rfl (hp2▸dF T x.node) I<|.a 3 I<|?_
   cases p2
   ·exact .a 16 I<|.k [33,2,3] I
   ·refine .a 5 I<|.v (cd I (hp3)) I<|.a 2 I<|?_
    cases p3
    ·exact .a 5 I<|.c rfl (hp4▸nP T hp1 x.node x.down) I<|.a 2 I<|.k [33,2,3] I
    ·exact .a 8 I<|.k [33,2,3] I
 refine ah I (fun hc=>?_) (fun hc=>?_)
 ·have hf:(p1&&p2&& !p3 &&p4)=false:=by cases p1<;>cases p2<;>cases p3<;>cases p4<;>first|rfl|cases hc
  rw[hf,Bool.false_and]
  exact ab (.a 1 I<|.k [4] I)<|ao<|⟨_,_,az.of I,ay.pure,rfl⟩
 ·have hf:(p1&&p2&& !p3 &&p4)=true:=by cases p1<;>cases p2<;>cases p3<;>cases p4<;>first|rfl|cases hc
  rw[hf,Bool.true_and]
  have e1:p1=true:=by cases p1<;>simp_all
  rw[e1]at hp1
  refine ai<|aj<|ab (.a 4 I<|.k [2,3,35,36,37] I)<|aw<|eS [2,3,35,36,37] I<|bu (fun r s=>∃k,k≤x.dr.length∧r=x.dr.length - k∧(∀(i:Nat) e,i<k→x.dr[i]? =some e→gh T x.node i e=true)∧s=⟨[(2,.bc (bC T) 0),(3,.bc (eR x) 0),(35,ij x.dr),(36,num x.dr.length),(37,num k)],[]⟩) x.dr.length ⟨0,by omega,by omega,fun i e hi=>by omega,rfl⟩ ?_
  rintro r s ⟨k,hk,rfl,hall,rfl⟩
  refine ab (.a 1 I<|.k [2,3,35,36,37,38] I)<|aj<|ah I (fun hy=>?_) (fun hy=>?_)
  ·have hlt:k<x.dr.length:=by have:=tt hy;omega
   obtain⟨e,hek⟩:∃a,x.dr[k]? =some a:=⟨x.dr[k],by simp[hlt]⟩
   refine ai<|aj<|aw<|aP<|av 1 I<|bw (aM (k*3) I) I<|bw (fG I (jh x.dr k e hek) I) I<|av 3 I<|aG [2,3,5,6,35,36,37] I ?_
   refine ab (.a 5 I<|.c rfl (yv T hp1 e x.node k) I<|.a 1 I<|.k [2,3,35,36,37,48] I)<|dI [] (.c 2<|.c 3<|.c 35<|.c 36<|.c 37<|.c 48 .nil) .nil rfl rfl ?_
   refine ah I (fun hz=>?_) (fun hz=>?_)
   ·rw[jT hek (by simpa using hz)]
    exact ab (.a 1 I<|.k [4] I)<|ao<|⟨_,_,az.of I,ay.pure,rfl⟩
   ·have hz':gh T x.node k e=true:=by simpa using hz
    refine ai<|aC (.v (aV I) I<|.a 1 I<|.k [2,3,35,36,37] I) ?_
    refine⟨x.dr.length - (k+1),by omega,k+1,by omega,rfl,fun i e' hi he'=>?_,rfl⟩
    by_cases h:i=k
    ·subst h;rw[hek]at he';cases he';exact hz'
    ·exact hall i e' (by omega) he'
  ·have hke:k=x.dr.length:=by have:=ff hy;omega
   rw[gT fun i e hi=>hall i e (by have:=(List.getElem?_eq_some_iff.1 hi).1;omega) hi]
   exact bh<|ab (.a 1 I<|.k [4] I)<|ao<|⟨_,_,az.of I,ay.pure,rfl⟩
set_option maxHeartbeats 2000000 in
theorem qe(T:an)(x:de):Can Tryz.prog 167 [aN T,fv x] (· =flag (cV T x)):=by
 refine lq fun⟨E,w,vs,hR⟩=>?_
 obtain⟨v,_,hvv⟩:=hR.get (i:=1) I
 have hm:=(AD hvv).1
 unfold maxLen at hm
 obtain⟨p1,hp1⟩:∃q,aq T=q:=⟨_,rfl⟩
 obtain⟨p2,hp2⟩:∃q,decide (x.node<0)=q:=⟨_,rfl⟩
 obtain⟨p5,hp5⟩:∃q,decide (T.nodes≤x.node)=q:=⟨_,rfl⟩
 obtain⟨p3,hp3⟩:∃q,decide ((x.dr.length:Int)≠T.nodes)=q:=⟨_,rfl⟩
 obtain⟨p4,hp4⟩:∃q,eE T x.node x.down=q:=⟨_,rfl⟩
 have he:decide ((x.dr.length:Int)=T.nodes)= !p3 :=by rw[←hp3];simp
 have hn:bm T x.node=((!p2)&& !p5):=by rw[←hp2,←hp5,←decide_not,←decide_not,←Bool.decide_and];unfold bm;exact decide_eq_decide.2 (by omega)
 unfold cV
 rw[hp1,hn,he,hp4]
 refine aI Tryz.func167 I Tryz.ntmps167 I<|ab (.a 3 I<|.k [2,3] I)<|aj<|bE 39 (.raw (.bool (((((!p1)||p2)||p5)||p3)|| !p4))) [2,3] I ?_ ?_
 ·refine .a 1 I<|.c rfl (hp1▸eZ T) I<|.a 2 I<|?_
  cases p1
  ·exact .a 28 I<|.k [39,2,3] I
  ·refine .a 2 I<|.v (cd I (hp2)) I<|.a 2 I<|?_
   cases p2
   ·refine .a 4 I<|.v (cd I (hp5)) I<|.a 2 I<|?_
    cases p5
    ·refine .a 5 I<|.v (cd I (hp3)) I<|.a 2 I<|?_
     cases p3
     ·exact .a 5 I<|.c rfl (hp4▸nN T hp1 x.node (by have:=ff hp2;omega) x.down) I<|.a 2 I<|.k [39,2,3] I
     ·exact .a 8 I<|.k [39,2,3] I
    ·exact .a 16 I<|.k [39,2,3] I
   ·exact .a 23 I<|.k [39,2,3] I
 refine ah I (fun hc=>?_) (fun hc=>?_)
 ·have hf:(p1&&((!p2)&& !p5)&& !p3 &&p4)=false:=by cases p1<;>cases p2<;>cases p5<;>cases p3<;>cases p4<;>first|rfl|cases hc
  rw[hf,Bool.false_and]
  exact ab (.a 1 I<|.k [4] I)<|ao<|⟨_,_,az.of I,ay.pure,rfl⟩
 ·have hf:(p1&&((!p2)&& !p5)&& !p3 &&p4)=true:=by cases p1<;>cases p2<;>cases p5<;>cases p3<;>cases p4<;>first|rfl|cases hc
  rw[hf,Bool.true_and]
  have e1:p1=true:=by cases p1<;>simp_all
  have e2:p2=false:=by cases p2<;>simp_all
  rw[e1]at hp1
  rw[e2]at hp2
  have hn0:0≤x.node:=by have:=ff hp2;omega
  refine ai<|aj<|ab (.a 1 I<|.k [2,3,5] I)<|aw<|eS [2,3,5] I<|bu (fun r s=>∃k,k≤x.dr.length∧r=x.dr.length - k∧(∀(i:Nat) e,i<k→x.dr[i]? =some e→gh T x.node i e=true)∧s=⟨[(2,.bc (bC T) 0),(3,.bc (eR x) 0),(5,num k)],[]⟩) x.dr.length ⟨0,by omega,by omega,fun i e hi=>by omega,rfl⟩ ?_
  rintro r s ⟨k,hk,rfl,hall,rfl⟩
  refine aj<|ab (.a 5 I<|.k [2,3,5,44] I)<|ah I (fun hy=>?_) (fun hy=>?_)
  ·have hlt:k<x.dr.length:=by have:=tt hy;omega
   obtain⟨e,hek⟩:∃a,x.dr[k]? =some a:=⟨x.dr[k],by simp[hlt]⟩
   obtain⟨q1,g1⟩:∃q,eE T x.node e.ax=q:=⟨_,rfl⟩
   obtain⟨q2,g2⟩:∃q,decide ((k:Int)=x.node)=q:=⟨_,rfl⟩
   obtain⟨q3,g3⟩:∃q,decide (0<(e.ax.length:Int))=q:=⟨_,rfl⟩
   obtain⟨q4,g4⟩:∃q,e.rep=q:=⟨_,rfl⟩
   obtain⟨q5,g5⟩:∃q,decide (0<(e.push.length:Int))=q:=⟨_,rfl⟩
   obtain⟨q6,g6⟩:∃q,decide ((e.ax.length:Int)≠1)=q:=⟨_,rfl⟩
   obtain⟨q7,g7⟩:∃q,decide (32<(e.push.length:Int))=q:=⟨_,rfl⟩
   have hOK:gh T x.node k e=((q1&& !(q2&&q3))&&(if q4 then(!q6 && !q7)&&e.push.all (jt T) else !q5)):=by
    unfold gh
    rw[g1,g2,g3,g4,←g5,←g6,←g7,←decide_not,←decide_not,←decide_not]
    congr 2
    ·congr 2
     ·exact decide_eq_decide.2 (by omega)
     ·exact decide_eq_decide.2 (by omega)
    ·exact decide_eq_decide.2 (by omega)
   refine ai<|aj<|aw<|aP<|av 3 I<|bw (aM (k*3) I) I<|bw (fG I (jh x.dr k e hek) I) I<|av 2 I<|aG [2,3,5,6] I ?_
   refine fN 6 0 0 I I ?_
   refine dI [] (.c 2<|.c 3<|.c 5<|.c 6 .nil) .nil rfl rfl ?_
   refine aj<|bE 81 (.raw (.bool (((!q1)||(q2&&q3))||((!q4)&&q5)))) [2,3,5,6] I ?_ ?_
   ·refine .a 5 I<|.c rfl (g1▸nN T hp1 x.node hn0 e.ax) I<|.a 2 I<|?_
    cases q1
    ·exact .a 22 I<|.k [81,2,3,5,6] I
    ·refine .a 3 I<|.v (cd I (g2)) I<|.a 1 I<|?_
     cases q2
     ·refine .a 8 I<|.v (aJ I (show some (flag e.rep)=some (flag q4) by rw[g4])) I<|.a 2 I<|?_
      cases q4
      ·exact .a 3 I<|.v (cd I (g5)) I<|.a 2 I<|.k [81,2,3,5,6] I
      ·exact .a 6 I<|.k [81,2,3,5,6] I
     ·refine .a 3 I<|.v (cd I (g3)) I<|.a 3 I<|?_
      cases q3
      ·refine .a 1 I<|.v (aJ I (show some (flag e.rep)=some (flag q4) by rw[g4])) I<|.a 2 I<|?_
       cases q4
       ·exact .a 3 I<|.v (cd I (g5)) I<|.a 2 I<|.k [81,2,3,5,6] I
       ·exact .a 6 I<|.k [81,2,3,5,6] I
      ·exact .a 10 I<|.k [81,2,3,5,6] I
   refine ah I (fun hz=>?_) (fun hz=>?_)
   ·rw[jT hek (by rw[hOK];revert hz;cases q1<;>cases q2<;>cases q3<;>cases q4<;>cases q5<;>intro hz<;>first|rfl|(simp;done)|cases hz)]
    exact ab (.a 1 I<|.k [4] I)<|ao<|⟨_,_,az.of I,ay.pure,rfl⟩
   ·skip
    refine ai<|aj<|bE 95 (.raw (.bool (q4&&(q6||q7)))) [2,3,5,6] I ?_ ?_
    ·refine .a 1 I<|.v (aJ I (show some (flag e.rep)=some (flag q4) by rw[g4])) I<|.a 1 I<|?_
     cases q4
     ·exact .a 11 I<|.k [95,2,3,5,6] I
     ·refine .a 3 I<|.v (cd I (g6)) I<|.a 1 I<|?_
      cases q6
      ·exact .a 3 I<|.v (cd I (g7)) I<|.a 2 I<|.k [95,2,3,5,6] I
      ·exact .a 6 I<|.k [95,2,3,5,6] I
    refine ah I (fun hz2=>?_) (fun hz2=>?_)
    ·rw[jT hek (by rw[hOK];revert hz2;cases q4<;>cases q6<;>cases q7<;>intro hz2<;>first|rfl|(simp;done)|cases hz2)]
     exact ab (.a 1 I<|.k [4] I)<|ao<|⟨_,_,az.of I,ay.pure,rfl⟩
    ·have hpl:e.push.length≤32∨e.push=[]:=by
      cases q4
      ·right
       have:q5=false:=by cases q5<;>simp_all
       subst this
       have:=ff g5
       exact List.eq_nil_of_length_eq_zero (by omega)
      ·left
       have:q7=false:=by cases q7<;>simp_all
       subst this
       have:=ff g7
       omega
     have hpl':e.push.length≤32:=by rcases hpl with h|h;exact h;rw[h];simp
     have hfin:e.push.all (jt T)=true→gh T x.node k e=true:=fun ha=>by
      rw[hOK,ha]
      clear hOK g1 g2 g3 g4 g5 g6 g7 hpl hpl' hall
      revert hz hz2
      cases q1<;>cases q2<;>cases q3<;>cases q4<;>cases q5<;>cases q6<;>cases q7<;>intro hz hz2<;>first|rfl|(cases hz;done)|(cases hz2;done)
     have hfail:e.push.all (jt T)=false→gh T x.node k e=false:=fun ha=>by
      rcases hpl with h|h
      ·rw[hOK,ha]
       cases q4
       ·have:q5=true:=by
         cases q5
         ·have:=ff g5
          have h0:=List.eq_nil_of_length_eq_zero (by omega:e.push.length=0)
          rw[h0]at ha;cases ha
         ·rfl
        subst this
        simp
       ·simp
      ·rw[h]at ha;cases ha
     refine ai<|ab (.a 1 I<|.k [2,3,5,6,7] I)<|aw<|eS [2,3,5,6,7] I<|bu (fun r s=>∃j,j≤e.push.length∧r=e.push.length - j∧(e.push.take j).all (jt T)=true∧s=⟨[(2,.bc (bC T) 0),(3,.bc (eR x) 0),(5,num k),(6,.bc (gz e) 0),(7,num j)],[]⟩) e.push.length ⟨0,by omega,by omega,by simp,rfl⟩ ?_
     rintro r s ⟨j,hj,rfl,hpall,rfl⟩
     refine aj<|ab (.a 5 I<|.k [2,3,5,6,7,100] I)<|ah I (fun hw=>?_) (fun hw=>?_)
     ·have hlt2:j<e.push.length:=by have:=tt hw;omega
      obtain⟨a,ha⟩:∃a,e.push[j]? =some a:=⟨e.push[j],by simp[hlt2]⟩
      refine ai<|aj<|aw<|ef mixed (by kernel_rfl) (.a 4 I<|.v [105,106] (aM (j*2) I) I I<|.v [107] (fG I (gg e.push j a ha) I) I I<|.v [103,108] (dX I (Fu T hp1 a)) I I<|.a 1 I<|.k [2,3,5,6,7,110] I) ?_
      refine ah I (fun hs=>?_) (fun hs=>?_)
      ·rw[jT hek (hfail (J1 _ _ j a ha (by simpa using hs)))]
       exact ab (.a 1 I<|.k [4] I)<|ao<|⟨_,_,az.of I,ay.pure,rfl⟩
      ·have hs':jt T a=true:=by simpa using hs
       refine ai<|aC (.a 1 I<|.v (aV I) I<|.a 1 I<|.k [2,3,5,6,7] I) ?_
       exact⟨e.push.length - (j+1),by omega,j+1,by omega,rfl,by rw[J4 _ _ j a ha,hpall,hs'];rfl,rfl⟩
     ·have hje:j=e.push.length:=by have:=ff hw;omega
      subst hje
      rw[List.take_length]at hpall
      have hyes:=hfin hpall
      refine bh<|aC (.a 1 I<|.v (aV I) I<|.a 1 I<|.k [2,3,5] I) ?_
      refine⟨x.dr.length - (k+1),by omega,k+1,by omega,rfl,fun i e' hi he'=>?_,rfl⟩
      by_cases h:i=k
      ·subst h;rw[hek]at he';cases he';exact hyes
      ·exact hall i e' (by omega) he'
  ·have hke:k=x.dr.length:=by have:=ff hy;omega
   rw[gT fun i e hi=>hall i e (by have:=(List.getElem?_eq_some_iff.1 hi).1;omega) hi]
   exact bh<|ab (.a 1 I<|.k [4] I)<|ao<|⟨_,_,az.of I,ay.pure,rfl⟩
theorem l7(T:an)(n:Int):(bN T n).Pairwise (· < ·):=by
 unfold bN iP
 refine List.Pairwise.map _ (fun a b h=>?_) ((List.pairwise_lt_range (n:=2*T.ag.length)).filter _)
 show(a:Int)<(b:Int)
 omega
theorem jy{T:an}{n:Int}{a:Int}:a∈bN T n↔ep T a=true∧br T a.toNat=n:=by
 unfold bN iP
 rw[List.mem_map,cD]
 constructor
 ·rintro⟨b,hb,rfl⟩
  obtain⟨h1,h2⟩:=List.mem_filter.1 hb
  have:=List.mem_range.1 h1
  refine⟨⟨by simp,by simp;omega⟩,by simpa using h2⟩
 ·rintro⟨⟨h0,h1⟩,h2⟩
  refine⟨a.toNat,List.mem_filter.2 ⟨List.mem_range.2 (by omega),by simpa using h2⟩,by simp;omega⟩
theorem so{T:an}{n:Int}{L:List Int}(hs:L.Pairwise (· < ·))(hm:∀a∈L,ep T a=true∧br T a.toNat=n):eE T n L=true:=decide_eq_true fun i hi=>by
 have h1:=hm _ (cm (d:=0) hi)
 refine⟨h1.1,h1.2,fun h0=>?_⟩
 have:=List.pairwise_iff_getElem.1 hs (i - 1) i (by omega) hi (by omega)
 rw[List.getD_eq_getElem?_getD,List.getD_eq_getElem?_getD,List.getElem?_eq_getElem hi,List.getElem?_eq_getElem (by omega:i - 1<L.length)]
 exact this
theorem mB(T:an)(n:Int)(p:Int→Bool):eE T n ((bN T n).filter p)=true:=so ((l7 T n).filter p) fun _ ha=>jy.1 (List.mem_filter.1 ha).1
theorem rQ(T:an)(D:List Bool)(n d:Nat):eE T n (bI T D n d)=true:=by
 unfold bI
 split
 ·exact decide_eq_true fun i hi=>by simp at hi
 ·exact mB T n _
theorem je(T:an)(D:List Bool)(n:Nat):bI T D n n=[]:=by unfold bI;rw[if_pos (.inl rfl)]
theorem iZ{T:an}{D:List Bool}(hv:aq T=true){n:Nat}(hn:(n:Int)<T.nodes):cV T (dJ T D n)=true:=by
 unfold cV dJ
 have h1:bm T (n:Int)=true:=aT.2 ⟨by omega,hn⟩
 have hN:=(aO hv).nodes
 have h2:decide (((oS T D n T.nodes.toNat).length:Int)=T.nodes)=true:=decide_eq_true (by rw[uT];omega)
 have h3:eE T n (cQ D (bN T n))=true:=mB T n _
 have h4:nu T n (oS T D n T.nodes.toNat)=true:=gT fun d e he=>by
  unfold oS at he
  rw[List.getElem?_map,Option.map_eq_some_iff]at he
  obtain⟨d',hd',rfl⟩:=he
  have hd:d'=d:=by
   have:=List.getElem?_eq_some_iff.1 hd'
   obtain⟨h,h'⟩:=this
   simpa using h'.symm
  subst hd
  unfold gh
  simp only[rQ,Bool.true_and]
  by_cases hdn:d'=n
  ·subst hdn;rw[je];simp
  ·rw[decide_eq_false (by omega)];simp
 rw[hv,h1,h2,h3,h4]
 rfl
theorem oH{T:an}{D:List Bool}(hv:aq T=true){d x:Nat}(hd:(d:Int)<T.nodes)(hx:(x:Int)<T.nodes):(bH T D d false).getD x 0=at' (bH T D d false) (x:Int):=by
 have hl:=(dW (D:=D) hv (dir:=false) hd).1
 unfold at'
 rw[Int.toNat_natCast,List.getD_eq_getElem?_getD,List.getD_eq_getElem?_getD,List.getElem?_eq_getElem (by omega)]
 rfl
structure jE (T:an) (D:List Bool) (n d a:Nat):Prop where
 fy:a<2*T.ag.length
 tail:br T a=(n:Int)
 up:aQ D a=false
 ne:n≠d
 reach:0≤(bH T D d false).getD (aS T a).toNat 0
 pass:aS T a=(d:Int)∨dh T (aS T a).toNat=false
 sum:(bH T D d false).getD n 0=(bH T D d false).getD (aS T a).toNat 0+cn T a
theorem cW{T:an}{D:List Bool}{n d:Nat}{a:Int}(h:a∈bI T D n d):∃k:Nat,a=k∧jE T D n d k:=by
 unfold bI at h
 split at h
 ·simp at h
 ·rename_i hne
  obtain⟨h1,h2⟩:=List.mem_filter.1 h
  obtain⟨h3,h4⟩:=jy.1 h1
  obtain⟨h5,h6⟩:=cD.1 h3
  obtain⟨k,rfl⟩:=Int.eq_ofNat_of_zero_le h5
  rw[Int.toNat_natCast]at h2 h4
  unfold il at h2
  simp only[Bool.and_eq_true,Bool.not_eq_true',Bool.or_eq_false_iff,decide_eq_true_eq,decide_eq_false_iff_not]at h2
  obtain⟨⟨⟨g1,g2⟩,g3⟩,g4⟩:=h2
  refine⟨k,rfl,by omega,h4,g1,fun e=>hne (.inl e),by omega,?_,by omega⟩
  rcases Bool.and_eq_false_iff.1 g3 with g|g
  ·exact .inl (Classical.byContradiction (ff g))
  ·exact .inr g
theorem fw{T:an}{D:List Bool}{n d k:Nat}(h:jE T D n d k)(hc:1≤cn T k):(k:Int)∈bI T D n d:=by
 have hs:=h.sum
 have hr:=h.reach
 unfold bI
 rw[if_neg (by rintro(e|e);exact h.ne e;omega)]
 refine List.mem_filter.2 ⟨jy.2 ⟨cD.2 ⟨by omega,by have:=h.fy;omega⟩,h.tail⟩,?_⟩
 unfold il
 rw[Int.toNat_natCast]
 simp only[Bool.and_eq_true,Bool.not_eq_true',Bool.or_eq_false_iff,decide_eq_true_eq,decide_eq_false_iff_not]
 refine⟨⟨⟨h.up,by omega⟩,?_⟩,by omega⟩
 rcases h.pass with g|g
 ·rw[decide_eq_false (by simpa using g)];rfl
 ·rw[g,Bool.and_false]
theorem jO{T:an}{D:List Bool}(hv:aq T=true){n d:Nat}(hn:(n:Int)<T.nodes)(hd:(d:Int)<T.nodes)(hne:n≠d)(h0:0≤(bH T D d false).getD n 0):∃k,jE T D n d k:=by
 have hS:=aO hv
 have hI:=jo hS D false hd
 have e1:=oH (D:=D) hv hd hn
 rcases hI.nk n hn (by rw[←e1];exact h0)with h|⟨a,ha,hx,⟨w1,w2,w3⟩,hs⟩
 ·exact absurd h hne
 ·have hh:=hS.head a ha
  obtain⟨y,hy⟩:=Int.eq_ofNat_of_zero_le hh.1
  have e2:=oH (D:=D) hv hd (x:=y) (by omega)
  simp only[fJ,cX,Bool.false_eq_true,if_false]at hx w2 w3 hs
  rw[hy]at w2 w3 hs
  refine⟨a,ha,hx,w1,hne,?_,?_,?_⟩
  ·rw[hy,Int.toNat_natCast,e2];exact w2
  ·rw[hy];exact w3
  ·rw[hy,Int.toNat_natCast,e1,e2];exact hs
theorem CQ{T:an}{D:List Bool}(hv:aq T=true){d:Nat}(hd:(d:Int)<T.nodes):(bH T D d false).getD d 0=0:=by
 rw[oH hv hd hd]
 exact(jo (aO hv) D false hd).root
noncomputable def dN(T:an)(D:List Bool)(d x:Nat):Int:=(bH T D d false).getD x 0
def da(T:an)(p:List Int):Int:=p.foldr (fun a c=>cn T a.toNat+c) 0
theorem gU(T:an):da T []=0:=rfl
theorem gd(T:an)(a:Int)(p:List Int):da T (a::p)=cn T a.toNat+da T p:=rfl
theorem gE(T:an)(p q:List Int):da T (p++q)=da T p+da T q:=by
 induction p with
 |nil=>simp[gU]
 |cons a p ih=>rw[List.cons_append,gd,gd,ih];omega
inductive SP (T:an) (D:List Bool) (d:Nat):Nat→List Int→Prop
 |nil:SP T D d d []
 |cons {n a m:Nat} {p:List Int}:jE T D n d a→aS T a=(m:Int)→SP T D d m p→SP T D d n ((a:Int)::p)
inductive Ch (T:an) (D:List Bool) (d:Nat):Nat→List Int→Prop
 |nil:Ch T D d d []
 |cons {n a m:Nat} {p:List Int}:a<2*T.ag.length→br T a=(n:Int)→aQ D a=false→aS T a=(m:Int)→(p=[]∨dh T m=false)→Ch T D d m p→Ch T D d n ((a:Int)::p)
theorem sk:∀(N:Nat) (l:List Nat),l.Nodup→(∀x∈l,x<N)→l.length≤N
 |0,l,_,h=>by
  cases l with
  |nil=>simp
  |cons a l=>have:=h a (by simp);omega
 |N+1,l,hn,h=>by
  have h1:=sk N (l.erase N) (hn.erase N) (fun x hx=>by
   have h2:=(List.Nodup.mem_erase_iff hn).1 hx
   have:=h x h2.2
   have:=h2.1
   omega)
  rw[List.length_erase]at h1
  split at h1<;>omega
section
variable {T:an} {D:List Bool} {d:Nat}
theorem dQ(hv:aq T=true){a:Nat}(ha:a<2*T.ag.length):∃m:Nat,aS T a=(m:Int)∧(m:Int)<T.nodes:=by
 obtain⟨h0,h1⟩:=(aO hv).head a ha
 obtain⟨m,hm⟩:=Int.eq_ofNat_of_zero_le h0
 exact⟨m,hm,by rw[←hm];exact h1⟩
theorem kT(hv:aq T=true)(hd:(d:Int)<T.nodes):dN T D d d=0:=CQ hv hd
theorem Iv(hv:aq T=true)(hd:(d:Int)<T.nodes){x:Nat}(hx:(x:Int)<T.nodes): -1≤dN T D d x∧dN T D d x≤4194240:=by
 obtain⟨h1,h2⟩:=dW (D:=D) hv (dir:=false) hd
 exact h2 _ (cm (by omega))
theorem jE.dN{n a m:Nat}(h:jE T D n d a)(hm:aS T a=(m:Int)):0≤dN T D d m∧dN T D d n=dN T D d m+cn T a:=by
 have h1:=h.reach
 have h2:=h.sum
 rw[hm,Int.toNat_natCast]at h1 h2
 exact⟨h1,h2⟩
theorem jE.node(hv:aq T=true){n a:Nat}(h:jE T D n d a):(n:Int)<T.nodes:=by rw[←h.tail];exact((aO hv).tail a h.fy).2
theorem SP.node(hv:aq T=true)(hd:(d:Int)<T.nodes){n:Nat}{p:List Int}(h:SP T D d n p):(n:Int)<T.nodes:=by
 cases h with
 |nil=>exact hd
 |cons h1 _ _=>exact h1.node hv
theorem SP.cost(hv:aq T=true)(hd:(d:Int)<T.nodes){n:Nat}{p:List Int}(h:SP T D d n p):dN T D d n=da T p∧0≤dN T D d n:=by
 induction h with
 |nil=>rw[kT hv hd];exact⟨rfl,Int.le_refl _⟩
 |cons h1 hm _ ih=>
  obtain⟨g1,g2⟩:=h1.dN hm
  have:=(aO hv).cost _ h1.fy
  rw[gd,Int.toNat_natCast]
  omega
theorem SP.self{p:List Int}(h:SP T D d d p):p=[]:=by
 cases h with
 |nil=>rfl
 |cons h1 _ _=>exact absurd rfl h1.ne
theorem SP.len(hv:aq T=true)(hd:(d:Int)<T.nodes){n:Nat}{p:List Int}(h:SP T D d n p):(p.length:Int)≤dN T D d n:=by
 induction h with
 |nil=>rw[kT hv hd];simp
 |cons h1 hm _ ih=>
  obtain⟨g1,g2⟩:=h1.dN hm
  have:=(aO hv).cost _ h1.fy
  simp only[List.length_cons]
  omega
theorem SP.ch{n:Nat}{p:List Int}(h:SP T D d n p):Ch T D d n p:=by
 induction h with
 |nil=>exact .nil
 | @cons n a m p h1 hm hp ih=>
  refine .cons h1.fy h1.tail h1.up hm ?_ ih
  rcases h1.pass with hx|hx
  ·have:m=d:=by rw[hm]at hx;omega
   subst this
   exact .inl hp.self
  ·rw[hm,Int.toNat_natCast]at hx;exact .inr hx
theorem Ez(hv:aq T=true)(hd:(d:Int)<T.nodes){n a m:Nat}(ha:a<2*T.ag.length)(ht:br T a=(n:Int))(hu:aQ D a=false)(hm:aS T a=(m:Int))(ho:m=d∨dh T m=false)(h0:0≤dN T D d m):0≤dN T D d n∧dN T D d n≤dN T D d m+cn T a:=by
 have hS:=aO hv
 have hI:=jo hS D false hd
 have hmN:(m:Int)<T.nodes:=by rw[←hm];exact(hS.head a ha).2
 have hnN:(n:Int)<T.nodes:=by rw[←ht];exact(hS.tail a ha).2
 have e1:=oH (D:=D) hv hd hnN
 have e2:=oH (D:=D) hv hd hmN
 have:=hI.closed a ha ⟨hu,by simp only[cX,Bool.false_eq_true,if_false];rw[hm,←e2];exact h0,by
  simp only[cX,Bool.false_eq_true,if_false];rw[hm]
  rcases ho with h|h
  ·exact .inl (by rw[h])
  ·exact .inr (by simpa using h)⟩
 simp only[fJ,cX,Bool.false_eq_true,if_false]at this
 rw[hm,ht,←e1,←e2]at this
 exact this
theorem Ch.node(hv:aq T=true)(hd:(d:Int)<T.nodes){n:Nat}{p:List Int}(h:Ch T D d n p):(n:Int)<T.nodes:=by
 cases h with
 |nil=>exact hd
 |cons h1 ht _ _ _ _=>rw[←ht];exact((aO hv).tail _ h1).2
theorem Ch.to{n:Nat}{p:List Int}(h:Ch T D d n p):p=[]→n=d:=by
 cases h with
 |nil=>intro _;rfl
 |cons=>intro h;cases h
theorem Ch.le(hv:aq T=true)(hd:(d:Int)<T.nodes){n:Nat}{p:List Int}(h:Ch T D d n p):0≤dN T D d n∧dN T D d n≤da T p:=by
 induction h with
 |nil=>rw[kT hv hd];exact⟨Int.le_refl _,Int.le_refl _⟩
 | @cons n a m p ha ht hu hm ho hp ih=>
  have:=Ez hv hd ha ht hu hm (by rcases ho with h|h;exact .inl (hp.to h);exact .inr h) ih.1
  rw[gd,Int.toNat_natCast]
  omega
theorem Ch.sp(hv:aq T=true)(hd:(d:Int)<T.nodes){n:Nat}{p:List Int}(h:Ch T D d n p)(hc:dN T D d n=da T p):SP T D d n p:=by
 induction h with
 |nil=>exact .nil
 | @cons n a m p ha ht hu hm ho hp ih=>
  have ho':m=d∨dh T m=false:=by rcases ho with h|h;exact .inl (hp.to h);exact .inr h
  have h1:=hp.le hv hd
  have h2:=Ez hv hd ha ht hu hm ho' h1.1
  rw[gd,Int.toNat_natCast]at hc
  have h3:=(aO hv).cost a ha
  refine .cons ⟨ha,ht,hu,?_,?_,?_,?_⟩ hm (ih (by omega))
  ·rintro rfl;rw[kT hv hd]at hc h2;omega
  ·rw[hm,Int.toNat_natCast];exact h1.1
  ·rw[hm];rcases ho' with h|h;exact .inl (by rw[h]);exact .inr (by simpa using h)
  ·rw[hm,Int.toNat_natCast];show dN T D d n=dN T D d m+cn T a;omega
noncomputable def fE(T:an)(D:List Bool)(d:Nat):Nat→Nat→List Int
 |0,_=>[]
 |f+1,n=>match bI T D n d with
  | []=>[]
  |a::_=>a::fE T D d f (aS T a.toNat).toNat
noncomputable def cr(T:an)(D:List Bool)(n d:Nat):List Int:=fE T D d (dN T D d n).toNat n
theorem rH{n:Nat}(h:dN T D d n<0):bI T D n d=[]:=by unfold bI;rw[if_pos (.inr h)]
theorem xq(hv:aq T=true)(hd:(d:Int)<T.nodes):∀(f n:Nat),(n:Int)<T.nodes→0≤dN T D d n→dN T D d n≤f→SP T D d n (fE T D d f n)
 |f,n,hn,h0,hf=>by
  by_cases hne:n=d
  ·subst hne
   have:fE T D n f n=[]:=by cases f with|zero=>rfl|succ f=>simp only[fE,je]
   rw[this];exact .nil
  ·obtain⟨k,hk⟩:=jO (D:=D) hv hn hd hne h0
   cases f with
   |zero=>
    obtain⟨m,hm,_⟩:=dQ hv hk.fy
    have:=hk.dN hm
    have:=(aO hv).cost k hk.fy
    omega
   |succ f=>
    simp only[fE]
    have hmem:=fw hk ((aO hv).cost k hk.fy).1
    cases hx:bI T D n d with
    |nil=>rw[hx]at hmem;cases hmem
    |cons a l=>
     obtain⟨b,hb,hbn⟩:=cW (T:=T) (D:=D) (n:=n) (d:=d) (a:=a) (by rw[hx];simp)
     subst hb
     obtain⟨m,hm,hmN⟩:=dQ hv hbn.fy
     have g:=hbn.dN hm
     have:=(aO hv).cost b hbn.fy
     simp only[Int.toNat_natCast,hm]
     exact .cons hbn hm (xq hv hd f m hmN g.1 (by omega))
theorem ej(hv:aq T=true)(hd:(d:Int)<T.nodes){n:Nat}(hn:(n:Int)<T.nodes)(h0:0≤dN T D d n):SP T D d n (cr T D n d):=xq hv hd _ n hn h0 (by omega)
noncomputable def nj(T:an)(D:List Bool)(d:Nat):Nat→Nat→Int
 |0,m=>if m=d then 1 else 0
 |f+1,m=>if m=d then 1 else(bI T D m d).foldl (fun c a=>min 2 (c+nj T D d f (aS T a.toNat).toNat)) 0
noncomputable def ek(T:an)(D:List Bool)(d m:Nat):Int:=nj T D d (dN T D d m).toNat m
theorem foldl_congr{α β:Type}{f g:α→β→α}:∀ {l:List β} {a:α},(∀a b,b∈l→f a b=g a b)→l.foldl f a=l.foldl g a
 | [],_,_=>rfl
 |b::l,a,h=>by simp only[List.foldl_cons,h a b (by simp)];exact foldl_congr fun a c hc=>h a c (by simp[hc])
theorem mA(hv:aq T=true)(hd:(d:Int)<T.nodes):∀(K m f:Nat),(m:Int)<T.nodes→dN T D d m≤K→dN T D d m≤f→nj T D d f m=ek T D d m
 |K,m,f,hmN,hK,hf=>by
  unfold ek
  by_cases hmd:m=d
  ·subst hmd
   cases f<;>cases(dN T D m m).toNat<;>simp[nj]
  ·by_cases h0:dN T D d m<0
   ·have hx:=rH h0
    rw[show(dN T D d m).toNat=0 by omega]
    cases f<;>simp[nj,hmd,hx]
   ·obtain⟨k,hk⟩:=jO (D:=D) hv hmN hd hmd (by show 0≤dN T D d m;omega)
    have hpos:0<dN T D d m:=by
     obtain⟨m',hm',_⟩:=dQ hv hk.fy
     have:=hk.dN hm'
     have:=(aO hv).cost k hk.fy
     omega
    obtain⟨g,hg⟩:∃g,(dN T D d m).toNat=g+1:=⟨(dN T D d m).toNat - 1,by omega⟩
    cases f with
    |zero=>omega
    |succ f=>
     cases K with
     |zero=>omega
     |succ K=>
      rw[hg]
      simp only[nj,if_neg hmd]
      refine foldl_congr fun c a ha=>?_
      obtain⟨b,rfl,hbn⟩:=cW ha
      obtain⟨m',hm',hmN'⟩:=dQ hv hbn.fy
      have g1:=hbn.dN hm'
      have g2:=(aO hv).cost b hbn.fy
      rw[Int.toNat_natCast,hm',Int.toNat_natCast,mA hv hd K m' f hmN' (by omega) (by omega),mA hv hd K m' g hmN' (by omega) (by omega)]
theorem ob(m:Nat):ek T D m m=1:=by unfold ek;cases(dN T D m m).toNat<;>simp[nj]
theorem su(hv:aq T=true)(hd:(d:Int)<T.nodes){m:Nat}(hmN:(m:Int)<T.nodes)(hmd:m≠d):ek T D d m=(bI T D m d).foldl (fun c a=>min 2 (c+ek T D d (aS T a.toNat).toNat)) 0:=by
 by_cases h0:dN T D d m<0
 ·unfold ek
  rw[rH h0,show(dN T D d m).toNat=0 by omega]
  simp[nj,hmd]
 ·have h1:=mA (D:=D) hv hd (dN T D d m).toNat m ((dN T D d m).toNat+1) hmN (by omega) (by omega)
  rw[←h1]
  simp only[nj,if_neg hmd]
  refine foldl_congr fun c a ha=>?_
  obtain⟨b,rfl,hbn⟩:=cW ha
  obtain⟨m',hm',hmN'⟩:=dQ hv hbn.fy
  have g1:=hbn.dN hm'
  have g2:=(aO hv).cost b hbn.fy
  rw[Int.toNat_natCast,hm',Int.toNat_natCast,mA hv hd (dN T D d m).toNat m' _ hmN' (by omega) (by omega)]
theorem zW(hv:aq T=true)(hd:(d:Int)<T.nodes){m:Nat}(hmN:(m:Int)<T.nodes)(h0:dN T D d m<0):ek T D d m=0:=by
 have hmd:m≠d:=by rintro rfl;rw[kT hv hd]at h0;omega
 rw[su hv hd hmN hmd,rH h0];rfl
theorem oo(g:Int→Int)(hg:∀a,0≤g a):∀(l:List Int) (c:Int),0≤c→c≤2→0≤l.foldl (fun c a=>min 2 (c+g a)) c∧l.foldl (fun c a=>min 2 (c+g a)) c≤2
 | [],c,h0,h2=>⟨h0,h2⟩
 |a::l,c,h0,h2=>by
  have:=hg a
  exact oo g hg l _ (show 0≤min 2 (c+g a) by omega) (show min 2 (c+g a)≤2 by omega)
theorem sg(g:Int→Int)(hg:∀a,0≤g a):∀(l:List Int) (c:Int),c≤2→c≤l.foldl (fun c a=>min 2 (c+g a)) c
 | [],c,_=>Int.le_refl _
 |a::l,c,h2=>by
  have:=hg a
  have:=sg g hg l (min 2 (c+g a)) (by omega)
  simp only[List.foldl_cons]
  omega
theorem tf(hv:aq T=true)(hd:(d:Int)<T.nodes):∀(f m:Nat),0≤nj T D d f m∧nj T D d f m≤2
 |0,m=>by simp only[nj];split<;>omega
 |f+1,m=>by
  simp only[nj]
  split
  ·omega
  ·exact oo (fun a=>nj T D d f (aS T a.toNat).toNat) (fun a=>(tf hv hd f _).1) _ 0 (by omega) (by omega)
theorem lg(hv:aq T=true)(hd:(d:Int)<T.nodes)(m:Nat):0≤ek T D d m∧ek T D d m≤2:=tf hv hd _ m
theorem Av(hv:aq T=true)(hd:(d:Int)<T.nodes):∀(K m:Nat),(m:Int)<T.nodes→0≤dN T D d m→dN T D d m≤K→1≤ek T D d m
 |K,m,hmN,h0,hK=>by
  by_cases hmd:m=d
  ·subst hmd;rw[ob];omega
  ·obtain⟨k,hk⟩:=jO (D:=D) hv hmN hd hmd h0
   have hmem:=fw hk ((aO hv).cost k hk.fy).1
   obtain⟨m',hm',hmN'⟩:=dQ hv hk.fy
   have g1:=hk.dN hm'
   have g2:=(aO hv).cost k hk.fy
   cases K with
   |zero=>omega
   |succ K=>
    have hp:=Av hv hd K m' hmN' g1.1 (by omega)
    rw[su hv hd hmN hmd]
    obtain⟨l1,l2,hl⟩:=List.append_of_mem hmem
    rw[hl,List.foldl_append,List.foldl_cons]
    have hg:∀a:Int,0≤ek T D d (aS T a.toNat).toNat:=fun a=>(lg hv hd _).1
    have a1:=oo (fun a=>ek T D d (aS T a.toNat).toNat) hg l1 0 (by omega) (by omega)
    have a2:=sg (fun a=>ek T D d (aS T a.toNat).toNat) hg l2 (min 2 (l1.foldl (fun c a=>min 2 (c+ek T D d (aS T a.toNat).toNat)) 0+ek T D d (aS T (k:Int).toNat).toNat)) (by omega)
    rw[Int.toNat_natCast,hm',Int.toNat_natCast]at a2
    rw[Int.toNat_natCast,hm',Int.toNat_natCast]
    omega
theorem vt(hv:aq T=true)(hd:(d:Int)<T.nodes){m:Nat}(hmN:(m:Int)<T.nodes)(hmd:m≠d)(h:ek T D d m=1):∃a:Nat,bI T D m d=[(a:Int)]∧jE T D m d a∧∀k:Nat,aS T a=(k:Int)→ek T D d k=1:=by
 rw[su hv hd hmN hmd]at h
 have hg:∀a:Int,0≤ek T D d (aS T a.toNat).toNat:=fun a=>(lg hv hd _).1
 have hone:∀a∈bI T D m d,1≤ek T D d (aS T a.toNat).toNat:=fun a ha=>by
  obtain⟨b,rfl,hb⟩:=cW ha
  obtain⟨m',hm',hmN'⟩:=dQ hv hb.fy
  have g1:=hb.dN hm'
  rw[Int.toNat_natCast,hm',Int.toNat_natCast]
  exact Av hv hd (dN T D d m').toNat m' hmN' g1.1 (by omega)
 cases hx:bI T D m d with
 |nil=>rw[hx]at h;simp at h
 |cons a l=>
  obtain⟨b,rfl,hb⟩:=cW (T:=T) (D:=D) (n:=m) (d:=d) (a:=a) (by rw[hx];simp)
  have h1:=hone b (by rw[hx];simp)
  rw[hx,List.foldl_cons]at h
  cases l with
  |nil=>
   refine⟨b,rfl,hb,fun k hk=>?_⟩
   simp only[List.foldl_nil,Int.toNat_natCast,hk]at h h1
   omega
  |cons a2 l=>
   have h2:=hone a2 (by rw[hx];simp)
   rw[List.foldl_cons]at h
   have:=sg (fun a=>ek T D d (aS T a.toNat).toNat) hg l (min 2 (min 2 (0+ek T D d (aS T (b:Int).toNat).toNat)+ek T D d (aS T a2.toNat).toNat)) (by omega)
   omega
theorem yy(hv:aq T=true)(hd:(d:Int)<T.nodes){m a k:Nat}(hmN:(m:Int)<T.nodes)(hmd:m≠d)(hx:bI T D m d=[(a:Int)])(hk:aS T a=(k:Int))(h:ek T D d k=1):ek T D d m=1:=by
 rw[su hv hd hmN hmd,hx]
 simp only[List.foldl_cons,List.foldl_nil,Int.toNat_natCast,hk,h]
 omega
theorem SP.unique(hv:aq T=true)(hd:(d:Int)<T.nodes){n:Nat}{p q:List Int}(h:SP T D d n p)(hq:SP T D d n q)(hc:ek T D d n=1):p=q:=by
 induction h generalizing q with
 |nil=>exact hq.self.symm
 | @cons n a m p h1 hm hp ih=>
  cases hq with
  |nil=>exact absurd rfl h1.ne
  | @cons _ a' m' q h1' hm' hq=>
   obtain⟨b,hb,_,hb2⟩:=vt hv hd (h1.node hv) h1.ne hc
   have e1:=fw h1 ((aO hv).cost a h1.fy).1
   have e2:=fw h1' ((aO hv).cost a' h1'.fy).1
   rw[hb]at e1 e2
   simp only[List.mem_singleton]at e1 e2
   have ea:a=b:=by omega
   have ea':a'=b:=by omega
   subst ea
   subst ea'
   have em:m=m':=by rw[hm]at hm';omega
   subst em
   rw[ih hq (hb2 m hm)]
noncomputable def fT(T:an)(D:List Bool)(n d:Int):Bool:=decide (cu T D n d=0)&&decide (ek T D d.toNat n.toNat=1)
theorem SP.zq(hv:aq T=true)(hd:(d:Int)<T.nodes){n:Nat}{p:List Int}(h:SP T D d n p):(p.length:Int)<T.nodes:=by
 have key:∃l:List Nat,l.length=p.length+1∧l.Nodup∧(∀x∈l,(x:Int)<T.nodes∧dN T D d x≤dN T D d n):=by
  induction h with
  |nil=>exact⟨[d],rfl,by simp,fun x hx=>by simp at hx;subst hx;exact⟨hd,Int.le_refl _⟩⟩
  | @cons n a m p h1 hm hp ih=>
   obtain⟨l,e1,e2,e3⟩:=ih
   have g1:=h1.dN hm
   have g2:=(aO hv).cost a h1.fy
   refine⟨n::l,by simp[e1],List.nodup_cons.2 ⟨fun hn=>by have:=(e3 n hn).2;omega,e2⟩,fun x hx=>?_⟩
   cases hx with
   |head=>exact⟨h1.node hv,Int.le_refl _⟩
   |tail _ hx=>have:=e3 x hx;exact⟨this.1,by omega⟩
 obtain⟨l,e1,e2,e3⟩:=key
 have hN:=(aO hv).nodes
 have:=sk T.nodes.toNat l e2 (fun x hx=>by have:=(e3 x hx).1;omega)
 omega
end
def dG(T:an):Bool→Int→List Int→Int
 |_,_,[]=>0
 |f,n,a::l=>if ep T a=false then 2 else if br T a.toNat≠n∨(f=false∧dh T n.toNat=true) then 4 else dG T false (aS T a.toNat) l
def dY(T:an)(n:Int)(l:List Int):Int:=if aq T then(if bm T n then dG T true n l else 2) else 1
def cI(T:an):Int→List Int→Int
 |n,[]=>n
 |_,a::l=>cI T (aS T a.toNat) l
def kL(T:an)(n:Int)(l:List Int):PV:=.tuple [num (if dY T n l=0 then cI T n l else 0),num (if dY T n l=0 then da T l else 0),num (dY T n l)]
theorem mh(T:an):∀(n:Int) (l m:List Int),cI T n (l++m)=cI T (cI T n l) m
 |_,[],_=>rfl
 |_,a::l,m=>mh T _ l m
theorem drop_cons(l:List Int)(k:Nat)(h:k<l.length):l.drop k=l.getD k 0::l.drop (k+1):=by
 rw[List.drop_eq_getElem_cons h,List.getD_eq_getElem?_getD,List.getElem?_eq_getElem h];rfl
theorem gj(T:an)(n:Int)(l:List Int)(k:Nat)(h:k<l.length):cI T n (l.take (k+1))=aS T (l.getD k 0).toNat:=by
 rw[dK l k 0 h,mh];rfl
theorem kP(T:an)(l:List Int)(k:Nat)(h:k<l.length):da T (l.take (k+1))=da T (l.take k)+cn T (l.getD k 0).toNat:=by
 rw[dK l k 0 h,gE];simp[gd,gU]
theorem mW{T:an}{f:Bool}{n a:Int}{l:List Int}(h1:ep T a=true)(h2:br T a.toNat=n)(h3:f=true∨dh T n.toNat=false):dG T f n (a::l)=dG T false (aS T a.toNat) l:=by
 simp only[dG]
 rw[if_neg (by rw[h1];simp),if_neg]
 rintro(h|⟨h,h'⟩)
 ·exact h h2
 ·rcases h3 with h3|h3
  ·rw[h3]at h;cases h
  ·rw[h3]at h';cases h'
theorem xF{T:an}{f:Bool}{n a:Int}{l:List Int}(h1:ep T a=true)(h2:br T a.toNat≠n∨(f=false∧dh T n.toNat=true)):dG T f n (a::l)=4:=by
 simp only[dG]
 rw[if_neg (by rw[h1];simp),if_pos h2]
theorem Bk(T:an)(hl:T.ag.length≤4611686018427387902)(a:Int)(h:ep T a=true):Can Tryz.prog 150 [aN T,num a] (· =num (aS T a.toNat)):=by
 obtain⟨h0,h1⟩:=cD.1 h
 obtain⟨a,rfl⟩:=Int.eq_ofNat_of_zero_le h0
 exact fZ T a (by omega) hl
theorem Cx(T:an)(a:Int)(h:ep T a=true):Can Tryz.prog 149 [aN T,num a] (· =num (cn T a.toNat)):=by
 obtain⟨h0,h1⟩:=cD.1 h
 obtain⟨a,rfl⟩:=Int.eq_ofNat_of_zero_le h0
 exact mg T a (by omega)
theorem yh(T:an)(hv:aq T=true)(a:Int)(h:ep T a=true):Can Tryz.prog 39 [aN T,num a] (· =num (br T a.toNat)):=by
 obtain⟨h0,h1⟩:=cD.1 h
 obtain⟨a,rfl⟩:=Int.eq_ofNat_of_zero_le h0
 exact jA T hv a (by omega)
theorem zf(T:an)(hv:aq T=true)(a:Int)(h:ep T a=true):Can Tryz.prog 41 [aN T,num a] (· =num (aS T a.toNat)):=by
 obtain⟨h0,h1⟩:=cD.1 h
 obtain⟨a,rfl⟩:=Int.eq_ofNat_of_zero_le h0
 exact jG T hv a (by omega)
theorem ye(T:an)(hv:aq T=true)(a:Int)(h:ep T a=true):Can Tryz.prog 42 [aN T,num a] (· =num (cn T a.toNat)):=by
 obtain⟨h0,h1⟩:=cD.1 h
 obtain⟨a,rfl⟩:=Int.eq_ofNat_of_zero_le h0
 exact ln T hv a (by omega)
theorem jg{T:an}(hv:aq T=true){a:Int}(h:ep T a=true):(1≤cn T a.toNat∧cn T a.toNat≤65535)∧∃m:Nat,aS T a.toNat=(m:Int)∧(m:Int)<T.nodes:=by
 obtain⟨h0,h1⟩:=cD.1 h
 have hl:a.toNat<2*T.ag.length:=by omega
 exact⟨(aO hv).cost _ hl,dQ hv hl⟩
theorem AH{T:an}(hv:aq T=true){x:Nat}(hx:(x:Int)<T.nodes):T.over.length=0∨x<T.over.length:=by have:=(fW hv).2.2.2;omega
theorem wD(T:an)(n:Int)(l:List Int)(hl:l.length≤1000000):Can Tryz.prog 120 [aN T,num n,au l] (· =kL T n l):=by
 refine aI Tryz.func120 I Tryz.ntmps120 I<|ab (.a 4 I<|.k [1,2,3,7] I)<|aj<|ab (.a 1 I<|.c rfl (eN T) I<|.a 1 I<|.k [1,2,3,7,13] I)<|ah I (fun hc=>?_) (fun hc=>?_)
 ·have hv:aq T=false:=by simpa using hc
  have hX:dY T n l=1:=by unfold dY;rw[hv];rfl
  unfold kL
  rw[hX]
  exact ab (.a 3 I<|.k [6,7,8] I)<|ao<|⟨_,_,az.of I,ay.pure,rfl⟩
 ·have hv:aq T=true:=by simpa using hc
  have hll:=bV hv
  refine ai<|aj<|ab (.a 2 I<|.c rfl (dF T n) I<|.a 1 I<|.k [1,2,3,7,17] I)<|ah I (fun hc=>?_) (fun hc=>?_)
  ·have hn:bm T n=false:=by simpa using hc
   have hX:dY T n l=2:=by unfold dY;rw[hv,hn];rfl
   unfold kL
   rw[hX]
   exact ab (.a 3 I<|.k [6,7,8] I)<|ao<|⟨_,_,az.of I,ay.pure,rfl⟩
  ·have hn:bm T n=true:=by simpa using hc
   have hX:dY T n l=dG T true n l:=by unfold dY;rw[hv,hn];rfl
   obtain⟨hn0,hn1⟩:=aT.1 hn
   obtain⟨n,rfl⟩:=Int.eq_ofNat_of_zero_le hn0
   refine ai<|ab (.a 2 I<|.k [2,3,6,7] I)<|aj<|ab (.a 3 I<|.k [3,6,7,19,20,21] I)<|aw<|eS [3,6,7,19,20,21] I<|bu (fun r s=>∃(k x:Nat),k≤l.length∧r=l.length - k∧cI T n (l.take k)=(x:Int)∧(x:Int)<T.nodes∧0≤da T (l.take k)∧da T (l.take k)≤65535*(k:Int)∧dG T true n l=dG T (decide (k=0)) x (l.drop k)∧s=⟨[(3,.bc (bC T) 0),(6,num x),(7,num (da T (l.take k))),(19,au l),(20,num l.length),(21,num k)],[]⟩) l.length ⟨0,n,by omega,by omega,rfl,hn1,by simp[gU],by simp[gU],rfl,rfl⟩ ?_
   rintro r s ⟨k,x,hk,rfl,hx,hxN,hc0,hc1,hw,rfl⟩
   refine ab (.a 1 I<|.k [3,6,7,19,20,21,22] I)<|aj<|ah I (fun hy=>?_) (fun hy=>?_)
   ·have hlt:k<l.length:=by have:=tt hy;omega
    rw[drop_cons l k hlt]at hw
    obtain⟨p1,hp1⟩:∃q,ep T (l.getD k 0)=q:=⟨_,rfl⟩
    have ha:=qw T (by omega) (l.getD k 0)
    rw[hp1]at ha
    refine ai<|aj<|aw<|ab (.a 1 I<|.v (aM (k) I) I<|.v (aJ I (aB l k hlt)) I<|.a 2 I<|.k [3,6,7,9,10,19,20,21] I)<|aj<|ab (.a 2 I<|.c rfl (ha) I<|.a 1 I<|.k [3,6,7,9,10,19,20,21,29] I)<|ah I (fun hz=>?_) (fun hz=>?_)
    ·have h1:p1=false:=by simpa using hz
     subst h1
     have hw2:dG T true n l=2:=by rw[hw];simp only[dG];rw[if_pos hp1]
     unfold kL
     rw[hX,hw2]
     exact ab (.a 3 I<|.k [6,7,8] I)<|ao<|⟨_,_,az.of I,ay.pure,rfl⟩
    ·have h1:p1=true:=by simpa using hz
     subst h1
     obtain⟨⟨hco0,hco1⟩,y,hyh,hyN⟩:=jg hv hp1
     have hsN:=gj T n l k hlt
     have hsC:=kP T l k hlt
     obtain⟨p2,hp2⟩:∃q,decide (br T (l.getD k 0).toNat≠(x:Int))=q:=⟨_,rfl⟩
     obtain⟨p3,hp3⟩:∃q,decide (0<(k:Int))=q:=⟨_,rfl⟩
     obtain⟨p4,hp4⟩:∃q,dh T x=q:=⟨_,rfl⟩
     refine ai<|aj<|bE 43 (.raw (.bool (p2||(p3&&p4)))) [3,7,10,19,20,21] I ?_ ?_
     ·refine .a 2 I<|.c rfl (pr T _ hp1) I<|.a 1 I<|.v (cd I (hp2)) I<|.a 1 I<|?_
      cases p2
      ·refine .a 1 I<|.v (cd I (hp3)) I<|.a 1 I<|?_
       cases p3
       ·exact .a 5 I<|.k [43,3,7,10,19,20,21] I
       ·exact .a 2 I<|.c rfl (hp4▸nS T x (AH hv hxN)) I<|.a 2 I<|.k [43,3,7,10,19,20,21] I
      ·exact .a 8 I<|.k [43,3,7,10,19,20,21] I
     refine ah I (fun hb=>?_) (fun hb=>?_)
     ·have hw4:dG T true n l=4:=by
       rw[hw]
       refine xF hp1 ?_
       rcases Bool.or_eq_true_iff.1 hb with h|h
       ·rw[h]at hp2;exact .inl (tt hp2)
       ·obtain⟨h3,h4⟩:=Bool.and_eq_true_iff.1 h
        rw[h3]at hp3
        rw[h4]at hp4
        exact .inr ⟨decide_eq_false (by have:=tt hp3;omega),by rw[Int.toNat_natCast];exact hp4⟩
      unfold kL
      rw[hX,hw4]
      exact ab (.a 3 I<|.k [6,7,8] I)<|ao<|⟨_,_,az.of I,ay.pure,rfl⟩
     ·obtain⟨b2,b3⟩:=Bool.or_eq_false_iff.1 hb
      rw[b2]at hp2
      have ht:br T (l.getD k 0).toNat=(x:Int):=Classical.byContradiction (ff hp2)
      have hws:=mW (T:=T) (f:=decide (k=0)) (n:=(x:Int)) (l:=l.drop (k+1)) hp1 ht (by
       rcases Bool.and_eq_false_iff.1 b3 with h|h
       ·rw[h]at hp3;exact .inl (decide_eq_true (by have:=ff hp3;omega))
       ·rw[h]at hp4;exact .inr (by rw[Int.toNat_natCast];exact hp4))
      rw[hws,hyh]at hw
      have hh:=Bk T (by omega) _ hp1
      rw[hyh]at hh
      refine ai<|ab (.a 2 I<|.c rfl (hh) I<|.a 1 I<|.k [3,6,7,10,19,20,21] I)<|aC (.a 3 I<|.c rfl (Cx T _ hp1) I<|.v (aV I (hc:=hsC.symm) (hn:=by unfold In64;omega)) I<|.a 1 I<|.k [3,6,7,19,20,21] I) ?_
      refine aC (.v (aV I) I<|.a 1 I<|.k [3,6,7,19,20,21] I) ?_
      exact⟨l.length - (k+1),by omega,k+1,y,by omega,rfl,by rw[hsN,hyh],hyN,by omega,by omega,by rw[hw];rfl,rfl⟩
   ·have hke:k=l.length:=by have:=ff hy;omega
    subst hke
    rw[List.drop_length]at hw
    rw[List.take_length]at hx ⊢
    unfold kL
    rw[hX,hw]
    simp only[dG,if_true]
    rw[hx]
    exact bh<|ab (.a 5 I<|.k [6,7,8] I)<|ao<|⟨_,_,az.of I,ay.pure,rfl⟩
theorem Bw(T:an)(n:Int)(l:List Int)(hl:l.length≤1000000):Can Tryz.prog 38 [aN T,num n,au l] (· =kL T n l):=by
 obtain⟨g1,hg1⟩:∃q,decide (n<0)=q:=⟨_,rfl⟩
 obtain⟨g2,hg2⟩:∃q,decide (T.nodes≤n)=q:=⟨_,rfl⟩
 have hnb:bm T n= !(g1||g2):=by rw[←hg1,←hg2,←Bool.decide_or,←decide_not];unfold bm;exact decide_eq_decide.2 (by omega)
 refine aI Tryz.func38 I Tryz.ntmps38 I<|ab (.a 4 I<|.k [1,2,3] I)<|aj<|ab (.a 1 I<|.c rfl (eZ T) I<|.a 1 I<|.k [1,2,3,13] I)<|ah I (fun hc=>?_) (fun hc=>?_)
 ·have hv:aq T=false:=by simpa using hc
  have hX:dY T n l=1:=by unfold dY;rw[hv];rfl
  unfold kL
  rw[hX]
  exact ab (.a 3 I<|.k [6,7,8] I)<|ao<|⟨_,_,az.of I,ay.pure,rfl⟩
 ·have hv:aq T=true:=by simpa using hc
  have hll:=bV hv
  refine ai<|aj<|bE 21 (.raw (.bool (g1||g2))) [1,2,3] I ?_ ?_
  ·refine .a 1 I<|.v (cd I (hg1)) I<|.a 1 I<|?_
   cases g1
   ·exact .a 3 I<|.v (cd I (hg2)) I<|.a 1 I<|.k [21,1,2,3] I
   ·exact .a 5 I<|.k [21,1,2,3] I
  refine ah I (fun hc=>?_) (fun hc=>?_)
  ·have hn:bm T n=false:=by rw[hnb,hc];rfl
   have hX:dY T n l=2:=by unfold dY;rw[hv,hn];rfl
   unfold kL
   rw[hX]
   exact ab (.a 3 I<|.k [6,7,8] I)<|ao<|⟨_,_,az.of I,ay.pure,rfl⟩
  ·have hn:bm T n=true:=by rw[hnb,hc];rfl
   have hX:dY T n l=dG T true n l:=by unfold dY;rw[hv,hn];rfl
   obtain⟨hn0,hn1⟩:=aT.1 hn
   clear hnb hg1 hg2 hc
   obtain⟨n,rfl⟩:=Int.eq_ofNat_of_zero_le hn0
   refine ai<|ab (.a 1 I<|.k [1,2,3,9] I)<|aj<|ab (.a 1 I<|.k [1,2,3,9,10] I)<|aw<|eS [1,2,3,9,10] I<|bu (fun r s=>∃(k x:Nat),k≤l.length∧r=l.length - k∧cI T n (l.take k)=(x:Int)∧(x:Int)<T.nodes∧0≤da T (l.take k)∧da T (l.take k)≤65535*(k:Int)∧dG T true n l=dG T (decide (k=0)) x (l.drop k)∧s=⟨[(1,num x),(2,au l),(3,.bc (bC T) 0),(9,num (da T (l.take k))),(10,num k)],[]⟩) l.length ⟨0,n,by omega,by omega,rfl,hn1,by simp[gU],by simp[gU],rfl,rfl⟩ ?_
   rintro r s ⟨k,x,hk,rfl,hx,hxN,hc0,hc1,hw,rfl⟩
   refine aj<|ab (.a 4 I<|.k [1,2,3,9,10,25] I)<|ah I (fun hy=>?_) (fun hy=>?_)
   ·have hlt:k<l.length:=by have:=tt hy;omega
    rw[drop_cons l k hlt]at hw
    obtain⟨p1,hp1⟩:∃q,decide (l.getD k 0<0)=q:=⟨_,rfl⟩
    obtain⟨p5,hp5⟩:∃q,decide (2*(T.ag.length:Int)≤l.getD k 0)=q:=⟨_,rfl⟩
    refine ai<|aj<|aw<|aj<|iM mixed (by kernel_rfl) 41 (.raw (.bool (p1||p5))) [1,2,3,9,10] I ?_ ?_
    ·refine .a 2 I<|.v [28,29] (aM (k) I) I I<|.v [30] (aJ I (aB l k hlt)) I I<|.v [31] (cd I (hp1)) I I<|.a 1 I<|?_
     cases p1
     ·exact .a 2 I<|.v [34,35] (aM (k) I) I I<|.v [36] (aJ I (aB l k hlt)) I I<|.a 1 I<|.v [38] (dX I (kc T hv)) I I<|.v [37,39] (cd I (hp5)) I I<|.a 1 I<|.k [41,1,2,3,9,10] I
     ·exact .a 8 I<|.k [41,1,2,3,9,10] I
    refine ah I (fun hz=>?_) (fun hz=>?_)
    ·have hna:=oJ hp1 hp5 hz
     have hw2:dG T true n l=2:=by rw[hw];simp only[dG];rw[if_pos (by unfold ep;exact decide_eq_false hna)]
     unfold kL
     rw[hX,hw2]
     exact ab (.a 3 I<|.k [6,7,8] I)<|ao<|⟨_,_,az.of I,ay.pure,rfl⟩
    ·have hpa:ep T (l.getD k 0)=true:=cD.2 (mC hp1 hp5 hz)
     obtain⟨⟨hco0,hco1⟩,y,hyh,hyN⟩:=jg hv hpa
     have hsN:=gj T n l k hlt
     have hsC:=kP T l k hlt
     obtain⟨p2,hp2⟩:∃q,decide (br T (l.getD k 0).toNat≠(x:Int))=q:=⟨_,rfl⟩
     obtain⟨p3,hp3⟩:∃q,decide (0<(k:Int))=q:=⟨_,rfl⟩
     obtain⟨p4,hp4⟩:∃q,dh T x=q:=⟨_,rfl⟩
     refine ai<|aj<|iM mixed (by kernel_rfl) 58 (.raw (.bool (p2||(p3&&p4)))) [2,3,9,10] I ?_ ?_
     ·refine .a 3 I<|.v [43,44] (aM (k) I) I I<|.v [45] (aJ I (aB l k hlt)) I I<|.v [42,46] (dX I (yh T hv _ hpa)) I I<|.a 1 I<|.v [47,48] (cd I (hp2)) I I<|.a 1 I<|?_
      cases p2
      ·refine .a 1 I<|.v [51] (cd I (hp3)) I I<|.a 1 I<|?_
       cases p3
       ·exact .a 5 I<|.k [58,2,3,9,10] I
       ·exact .a 2 I<|.v [54,55] (dX I (hp4▸th T hv x)) I I<|.a 2 I<|.k [58,2,3,9,10] I
      ·exact .a 8 I<|.k [58,2,3,9,10] I
     refine ah I (fun hb=>?_) (fun hb=>?_)
     ·have hw4:dG T true n l=4:=by
       rw[hw]
       refine xF hpa ?_
       rcases Bool.or_eq_true_iff.1 hb with h|h
       ·rw[h]at hp2;exact .inl (tt hp2)
       ·obtain⟨h3,h4⟩:=Bool.and_eq_true_iff.1 h
        rw[h3]at hp3
        rw[h4]at hp4
        exact .inr ⟨decide_eq_false (by have:=tt hp3;omega),by rw[Int.toNat_natCast];exact hp4⟩
      unfold kL
      rw[hX,hw4]
      exact ab (.a 3 I<|.k [6,7,8] I)<|ao<|⟨_,_,az.of I,ay.pure,rfl⟩
     ·obtain⟨b2,b3⟩:=Bool.or_eq_false_iff.1 hb
      rw[b2]at hp2
      have ht:br T (l.getD k 0).toNat=(x:Int):=Classical.byContradiction (ff hp2)
      have hws:=mW (T:=T) (f:=decide (k=0)) (n:=(x:Int)) (l:=l.drop (k+1)) hpa ht (by
       rcases Bool.and_eq_false_iff.1 b3 with h|h
       ·rw[h]at hp3;exact .inl (decide_eq_true (by have:=ff hp3;omega))
       ·rw[h]at hp4;exact .inr (by rw[Int.toNat_natCast];exact hp4))
      rw[hws,hyh]at hw
      have hh:=zf T hv _ hpa
      rw[hyh]at hh
      refine ai<|ef mixed (by kernel_rfl) (.a 4 I<|.v [61,62] (aM (k) I) I I<|.v [63] (aJ I (aB l k hlt)) I I<|.v [60,64] (dX I (ye T hv _ hpa)) I I<|.v [59,65] (aV I (hc:=hsC.symm) (hn:=by unfold In64;omega)) I I<|.a 1 I<|.k [2,3,9,10] I) ?_
      refine Kj mixed (by kernel_rfl) (.a 3 I<|.v [68,69] (aM (k) I) I I<|.v [70] (aJ I (aB l k hlt)) I I<|.v [67,71] (dX I (hh)) I I<|.a 1 I<|.k [1,2,3,9,10] I) ?_
      refine aC (.a 1 I<|.v (aV I) I<|.a 1 I<|.k [1,2,3,9,10] I) ?_
      exact⟨l.length - (k+1),by omega,k+1,y,by omega,rfl,by rw[hsN,hyh],hyN,by omega,by omega,by rw[hw];rfl,rfl⟩
   ·have hke:k=l.length:=by have:=ff hy;omega
    subst hke
    rw[List.drop_length]at hw
    rw[List.take_length]at hx ⊢
    unfold kL
    rw[hX,hw]
    simp only[dG,if_true]
    rw[hx]
    exact bh<|ab (.a 5 I<|.k [6,7,8] I)<|ao<|⟨_,_,az.of I,ay.pure,rfl⟩
theorem lT(T:an)(hv:aq T=true):Can Tryz.prog 201 [aN T] (· =ko (dE (br T) T.nodes.toNat (2*T.ag.length))):=by
 have hbd:=fW hv
 have hS:=aO hv
 obtain⟨n,hn⟩:∃n:Nat,T.nodes=(n:Int):=⟨T.nodes.toNat,by omega⟩
 rw[show T.nodes.toNat=n by omega]
 refine aI Tryz.func201 I Tryz.ntmps201 I<|ab (.a 2 I<|.k [1] I)<|aP<|av 2 I<|b7 (dT I (ba.rk.get I) I I hn hn ⟨by unfold maxLen;omega,by omega⟩) I<|av 1 I<|aG [1,3] I ?_
 refine p9 37 3 n ?_
 refine aj<|ab (.a 1 I<|.c rfl (iu T (by omega)) I<|.a 1 I<|.k [1,3,10,11] I)<|aw<|eS [1,3,10,11] I<|bu (fun r s=>∃k,k≤2*T.ag.length∧r=2*T.ag.length - k∧s=⟨[(1,.bc (bC T) 0),(3,.own 0),(10,num (2*(T.ag.length:Int))),(11,num k)],lH 37 3 (dE (br T) n k)⟩) (2*T.ag.length) ⟨0,by omega,by omega,by rw[qI];rfl⟩ ?_
 rintro r s ⟨k,hk,rfl,rfl⟩
 refine ab (.a 1 I<|.k [1,3,10,11,12] I)<|aj<|ah I (fun hc=>?_) (fun hc=>?_)
 ·have hlt:k<2*T.ag.length:=by have:=of_decide_eq_true hc;omega
  obtain⟨hd0,hhN⟩:=hS.tail k hlt
  obtain⟨m,hm⟩:=Int.eq_ofNat_of_zero_le hd0
  have hmn:m<n:=by omega
  have hrl:=fp (br T) n k
  have hgl:((dE (br T) n k).getD m []).length≤k:=by
   rw[jd _ _ _ _ hmn]
   simp only[List.length_map]
   exact Nat.le_trans (List.length_filter_le _ _) (by simp)
  refine ai<|aj<|aw<|ab (.a 2 I<|.k [1,3,4,10,11] I)<|ab (.a 2 I<|.c rfl (hm▸jq T k hlt) I<|.a 1 I<|.k [1,3,4,5,10,11] I)<|bG<|av 4 I<|bw (aM (m) I) I<|bw (aJ I (ma _ m (by omega))) I<|av 2 I<|b7 (bg I (ba.rk.get I) I (lP _ _ _ m (by omega)) I I ⟨by unfold maxLen;omega,by omega⟩) I<|bw (aM (m) I) I<|bb (cb I (ba.tk.get I) I I I (by show m<(fY _).length;simp[fY];omega)) I I<|aG [1,3,10,11] I ?_
  refine dI (FI (dE (br T) n k).length m) (.cons 1 I Ren.pure<|.cons 3 I (Ren.own (i:=0) I)<|.cons 10 I Ren.pure<|.cons 11 I Ren.pure<|.nil) (wz 37 3 (dE (br T) n k) m (by omega) (k:Int)) (tp _ _) I ?_
  rw[←rb (br T) n k m hm hmn]
  refine aC (.v (aV I) I<|.a 1 I<|.k [1,3,10,11] I) ?_
  exact⟨2*T.ag.length - (k+1),by omega,k+1,by omega,rfl,rfl⟩
 ·have hke:k=2*T.ag.length:=by have:=of_decide_eq_false hc;omega
  subst hke
  exact bh<|ab (.a 2 I<|.k [2] I)<|ao<|⟨_,_,az.of I,vR _ _ _,rfl⟩
theorem xd(T:an)(m:Nat)(hm:m<T.nodes.toNat):(dE (br T) T.nodes.toNat (2*T.ag.length)).getD m []=bN T m:=by
 rw[jd _ _ _ _ hm]
 unfold bN iP
 exact congrArg (List.map Int.ofNat) (List.filter_congr fun a _=>Bool.eq_iff_iff.2 (by simp))
theorem sT(rs:List (List Int))(i:Nat)(h:i<rs.length):(rs.map au)[i]? =some (au (rs.getD i [])):=by simp[h]
theorem Gx(T:an)(D:List Bool)(s d:Int):cN T D [s,d]=cu T D s d:=by
 unfold cu cN
 by_cases h:(aq T&&bW T D)=true
 ·rw[if_pos h]
  by_cases hs:bm T s=true<;>by_cases hd:bm T d=true<;>simp[h,hs,hd]
 ·rw[if_neg h]
  have:(aq T&&bW T D)=false:=by simpa using h
  simp[this]
noncomputable def gR(T:an)(D:List Bool)(s d:Int):Int:=if cu T D s d=0 then(if dN T D d.toNat s.toNat<0 then 11 else 0) else cu T D s d
theorem zo{T:an}{D:List Bool}{m d j:Nat}(hne:m≠d)(h0:0≤dN T D d m)(hj:j<(bN T m).length)(hno:∀i,i<j→il T D (bH T D d false) (dN T D d m) d ((bN T m).getD i 0).toNat=false)(hy:il T D (bH T D d false) (dN T D d m) d ((bN T m).getD j 0).toNat=true):∃l,bI T D m d=(bN T m).getD j 0::l:=by
 unfold bI
 rw[if_neg (by rintro(h|h);exact hne h;exact absurd h (by show ¬dN T D d m<0;omega))]
 have h1:((bN T m).take j).filter (fun a=>il T D (bH T D d false) (dN T D d m) d a.toNat)=[]:=by
  rw[List.filter_eq_nil_iff]
  intro a ha
  obtain⟨i,hi,rfl⟩:=List.getElem_of_mem ha
  have hij:i<j:=by rw[List.length_take]at hi;omega
  have:=hno i hij
  rw[List.getD_eq_getElem?_getD,List.getElem?_eq_getElem (by omega),Option.getD_some]at this
  rw[List.getElem_take,this]
  simp
 have hs:bN T m=(bN T m).take j++(bN T m).getD j 0::(bN T m).drop (j+1):=by rw[←drop_cons _ _ hj,List.take_append_drop]
 have h2:(bN T m).filter (fun a:Int=>il T D (bH T D d false) (dN T D d m) d a.toNat)=(bN T m).getD j 0::((bN T m).drop (j+1)).filter (fun a:Int=>il T D (bH T D d false) (dN T D d m) d a.toNat):=by
  refine(congrArg (List.filter fun a:Int=>il T D (bH T D d false) (dN T D d m) d a.toNat) hs).trans ?_
  rw[List.filter_append,h1,List.nil_append,List.filter_cons,if_pos hy]
 exact⟨_,h2⟩
theorem rP{T:an}{D:List Bool}{m d f:Nat}{a:Int}{l:List Int}(h:bI T D m d=a::l):fE T D d (f+1) m=a::fE T D d f (aS T a.toNat).toNat:=by simp only[fE,h]
theorem Dw{T:an}{D:List Bool}(hv:aq T=true){m d:Nat}(hm:(m:Int)<T.nodes)(hd:(d:Int)<T.nodes)(hne:m≠d)(h0:0≤dN T D d m)(hno:∀i,i<(bN T m).length→il T D (bH T D d false) (dN T D d m) d ((bN T m).getD i 0).toNat=false):False:=by
 obtain⟨k,hk⟩:=jO (D:=D) hv hm hd hne h0
 have:=fw hk ((aO hv).cost k hk.fy).1
 unfold bI at this
 rw[if_neg (by rintro(h|h);exact hne h;exact absurd h (by show ¬dN T D d m<0;omega))]at this
 obtain⟨h1,h2⟩:=List.mem_filter.1 this
 obtain⟨i,hi,he⟩:=List.getElem_of_mem h1
 have h3:=hno i hi
 rw[List.getD_eq_getElem?_getD,List.getElem?_eq_getElem hi,Option.getD_some,he]at h3
 have h2':il T D (bH T D d false) (dN T D d m) d (k:Int).toNat=true:=h2
 rw[h3]at h2'
 cases h2'
set_option maxHeartbeats 2000000 in
theorem s5(T:an)(D:List Bool)(s d:Int):Can Tryz.prog 206 [aN T,bq D,num s,num d] (· =ei (gR T D s d) (cr T D s.toNat d.toNat)):=by
 have hch:=pH T D [s,d] (by simp)
 rw[Gx]at hch
 refine aI Tryz.func206 I Tryz.ntmps206 I<|ab (.a 3 I<|.k [1,2,3,4] I)<|aj<|ab (.a 5 I<|.c rfl (hch) I<|.a 1 I<|.k [1,2,3,4,10] I)<|ab (.a 2 I<|.k [1,2,3,4,10,26] I)<|ah I (fun hc=>?_) (fun hc=>?_)
 ·have he:cu T D s d≠0:=tt hc
  exact ab (.a 3 I<|.k [8,9] I)<|ao<|⟨_,_,az.of I,ay.aX (af.cons ay.bQ (af.cons ay.pure af.nil)),by unfold ei gR;rw[if_neg he,if_neg he];rfl⟩
 ·have he:cu T D s d=0:=Classical.byContradiction (ff hc)
  obtain⟨hv,hf,hns,hnd⟩:=fH he
  obtain⟨hs0,hs1⟩:=aT.1 hns
  obtain⟨hd0,hd1⟩:=aT.1 hnd
  obtain⟨s,rfl⟩:=Int.eq_ofNat_of_zero_le hs0
  obtain⟨d,rfl⟩:=Int.eq_ofNat_of_zero_le hd0
  have hdi:Can Tryz.prog 151 [aN T,bq D,num d] (· = .tuple [au (bH T D d false),num 0]):=by
   have h:=sf T D (d:Int)
   rw[show cN T D [(d:Int)]=0 by unfold cu at he;split at he;assumption;assumption]at h
   exact h
  have hS:=aO hv
  have hN:=hS.nodes
  have hll:=bV hv
  obtain⟨hb1,hb2⟩:=dW (D:=D) hv (dir:=false) hd1
  refine ai<|ab (.a 3 I<|.c rfl (hdi) I<|.a 5 I<|.k [1,2,3,4,11] I)<|aj<|ab (.a 2 I<|.v (aM (s) I) I<|.v (aJ I (aB _ s (by omega))) I<|.a 1 I<|.k [1,2,3,4,11,39] I)<|ah I (fun hc=>?_) (fun hc=>?_)
  ·have h0:dN T D d s<0:=tt hc
   exact ab (.a 2 I<|.k [8,9] I)<|ao<|⟨_,_,az.of I,ay.aX (af.cons ay.bQ (af.cons ay.pure af.nil)),by unfold ei gR;simp only[Int.toNat_natCast];rw[if_pos he,if_pos h0];rfl⟩
  ·have h0:0≤dN T D d s:=by have:=ff hc;show 0≤(bH T D d false).getD s 0;omega
   have hE:gR T D (s:Int) (d:Int)=0:=by unfold gR;simp only[Int.toNat_natCast];rw[if_pos he,if_neg (by omega)]
   rw[hE]
   refine ai<|ab (.a 1 I<|.c rfl (lT T hv) I<|.a 1 I<|.k [1,2,3,4,11,13] I)<|ab (.a 1 I<|.k [1,2,3,4,11,13,14] I)<|gQ 14 3 1 I ?_
   refine aj<|ab (.a 2 I<|.k [1,3,4,11,13,14,15] I)<|aw<|eS [1,3,4,11,13,14,15] I<|bu (fun r st=>∃(p:List Int) (m f:Nat),(m:Int)<T.nodes∧0≤dN T D d m∧dN T D d m≤f∧r=(dN T D d m).toNat∧(p.length:Int)+dN T D d m≤dN T D d s∧cr T D s d=p++fE T D d f m∧st=⟨[(1,bq D),(3,num d),(4,.bc (bC T) 0),(11,au (bH T D d false)),(13,ko (dE (br T) T.nodes.toNat (2*T.ag.length))),(14,.own 0),(15,num m)],[some (.row 3 1 p.length (aK p))]⟩) (dN T D d s).toNat ⟨[],s,(dN T D d s).toNat,hs1,h0,by omega,rfl,by simp,rfl,rfl⟩ ?_
   rintro r st ⟨p,m,f,hm,hm0,hmf,rfl,hpl,hp,rfl⟩
   refine aj<|ab (.a 3 I<|.k [1,3,4,11,13,14,15,45] I)<|ah I (fun hy=>?_) (fun hy=>?_)
   ·have hne:m≠d:=by have:=tt hy;omega
    have hml:m<(bH T D d false).length:=by omega
    have hrow:=xd T m (by omega)
    have hbnd:=(Iv (D:=D) hv hd1 hs1).2
    have hol:(bN T m).length≤512:=Nat.le_trans (eM T m _) (by omega)
    refine ai<|aw<|ab (.a 2 I<|.v (aM (m) I (by omega) (by rw[fp];omega)) I<|.v (aJ I ((sT _ m (by rw[fp];omega)).trans (by rw[hrow]))) I<|.a 2 I<|.k [1,3,4,11,13,14,15,49,50,51] I)<|aw<|eS [1,3,4,11,13,14,15,49,50,51] I<|bu (fun r st=>∃j:Nat,j≤(bN T m).length∧r=(bN T m).length - j∧(∀i,i<j→il T D (bH T D d false) (dN T D d m) d ((bN T m).getD i 0).toNat=false)∧st=⟨[(1,bq D),(3,num d),(4,.bc (bC T) 0),(11,au (bH T D d false)),(13,ko (dE (br T) T.nodes.toNat (2*T.ag.length))),(14,.own 0),(15,num m),(49,au (bN T m)),(50,num (bN T m).length),(51,num j)],[some (.row 3 1 p.length (aK p))]⟩) (bN T m).length ⟨0,by omega,by omega,fun i hi=>by omega,rfl⟩ ?_
    rintro r st ⟨j,hj,rfl,hno,rfl⟩
    refine ab (.a 1 I<|.k [1,3,4,11,13,14,15,49,50,51,52] I)<|aj<|ah I (fun hz=>?_) (fun hz=>?_)
    ·have hlt:j<(bN T m).length:=by have:=tt hz;omega
     obtain⟨ha0,ha1⟩:=kp (cm (d:=0) hlt)
     obtain⟨a,ha⟩:=Int.eq_ofNat_of_zero_le ha0
     have ham:a<2*T.ag.length:=by omega
     obtain⟨y,hyh,hyN⟩:=dQ hv ham
     have hyl:y<(bH T D d false).length:=by omega
     have hh:=fZ T a ham (by omega)
     rw[hyh]at hh
     have hD:D.length=0∨a<D.length:=by simp only[bW,decide_eq_true_eq]at hf;omega
     obtain⟨p1,hp1⟩:∃q,aQ D a=q:=⟨_,rfl⟩
     obtain⟨p2,hp2⟩:∃q,decide ((bH T D d false).getD y 0<0)=q:=⟨_,rfl⟩
     obtain⟨p3,hp3⟩:∃q,decide ((y:Int)≠(d:Int))=q:=⟨_,rfl⟩
     obtain⟨p4,hp4⟩:∃q,dh T y=q:=⟨_,rfl⟩
     have hpass:∀b,il T D (bH T D d false) (dN T D d m) d ((bN T m).getD j 0).toNat=b↔(!((p1||p2)||(p3&&p4))&&decide ((bH T D d false).getD y 0+cn T a=dN T D d m))=b:=fun b=>by
      unfold il
      rw[ha,Int.toNat_natCast,hyh,Int.toNat_natCast,hp1,hp2,hp3,hp4]
     refine ai<|aj<|aw<|ab (.v (aM (j) I) I<|.v (aJ I ((aB _ j hlt).trans (by rw[ha]))) I<|.a 1 I<|.k [1,3,4,11,13,14,15,17,49,50,51] I)<|ab (.a 2 I<|.c rfl (hh) I<|.a 1 I<|.k [1,3,4,11,13,14,15,17,18,49,50,51] I)<|aj<|bE 77 (.raw (.bool ((p1||p2)||(p3&&p4)))) [1,3,4,11,13,14,15,17,18,49,50,51] I ?_ ?_
     ·refine .a 2 I<|.c rfl (hp1▸jl D a hD) I<|.a 1 I<|?_
      cases p1
      ·refine .a 2 I<|.v (aM (y) I) I<|.v (aJ I (aB _ y hyl)) I<|.v (cd I (hp2)) I<|.a 2 I<|?_
       cases p2
       ·refine .a 2 I<|.v (cd I (hp3)) I<|.a 1 I<|?_
        cases p3
        ·exact .a 5 I<|.k [77,1,3,4,11,13,14,15,17,18,49,50,51] I
        ·exact .a 2 I<|.c rfl (hp4▸nS T y (AH hv hyN)) I<|.a 2 I<|.k [77,1,3,4,11,13,14,15,17,18,49,50,51] I
       ·exact .a 9 I<|.k [77,1,3,4,11,13,14,15,17,18,49,50,51] I
      ·exact .a 16 I<|.k [77,1,3,4,11,13,14,15,17,18,49,50,51] I
     refine ah I (fun hk=>?_) (fun hk=>?_)
     ·have hnp:=(hpass false).2 (by rw[hk];rfl)
      refine bh<|aC (.v (aV I) I<|.a 1 I<|.k [1,3,4,11,13,14,15,49,50,51] I) ?_
      refine⟨(bN T m).length - (j+1),by omega,j+1,by omega,rfl,fun i hi=>?_,rfl⟩
      by_cases h:i=j
      ·rw[h];exact hnp
      ·exact hno i (by omega)
     ·skip
      refine ai ?_
      have hy4:=hb2 _ (cm (d:=0) hyl)
      have hc4:=hS.cost a ham
      refine ef mixed (by kernel_rfl) (.a 2 I<|.v [78,79] (aM (y) I) I I<|.v [80] (aJ I (aB _ y hyl)) I I<|.a 2 I<|.v [82,83] (dX I (mg T a ham)) I I<|.v [81,84] (aV I (hn:=by unfold In64;omega)) I I<|.a 2 I<|.v [86,87] (aM (m) I) I I<|.v [88] (aJ I (aB _ m hml)) I I<|.a 1 I<|.k [1,3,4,11,13,14,15,17,18,49,50,51,90] I) ?_
      refine ah I (fun hq=>?_) (fun hq=>?_)
      ·have hyes:=(hpass true).2 (by rw[hk];exact decide_eq_true (tt hq))
       obtain⟨l,hl⟩:=zo hne hm0 hlt hno hyes
       obtain⟨b,hb,hbn⟩:=cW (T:=T) (D:=D) (n:=m) (d:=d) (a:=(bN T m).getD j 0) (by rw[hl];simp)
       have hba:b=a:=by omega
       subst hba
       have hdy:=hbn.dN hyh
       refine aP<|av 3 I<|b7 (bg I (ba.rk.get I) I I I I (by unfold maxLen;omega)) I<|av 1 I ?_
       refine eP [1] (.c 1<|.c 3<|.c 4<|.c 11<|.c 13<|.c 14<|.c 18<|.nil) (.kept rfl (.fF rfl (dA _ _))<|.nil) I I (bn ?_)
       refine ab (.a 2 I<|.k [1,3,4,11,13,14,15] I)<|bh ?_
       cases f with
       |zero=>omega
       |succ f=>
        refine⟨(dN T D d y).toNat,by omega,p++[(b:Int)],y,f,hyN,hdy.1,by omega,rfl,by simp;omega,?_,by simp⟩
        rw[hp,rP hl,ha,Int.toNat_natCast,hyh,Int.toNat_natCast,List.append_assoc]
        rfl
      ·have hnp:=(hpass false).2 (by rw[hk,Bool.and_eq_false_iff];exact .inr (decide_eq_false (ff hq)))
       refine ai<|aC (.v (aV I) I<|.a 1 I<|.k [1,3,4,11,13,14,15,49,50,51] I) ?_
       refine⟨(bN T m).length - (j+1),by omega,j+1,by omega,rfl,fun i hi=>?_,rfl⟩
       by_cases h:i=j
       ·rw[h];exact hnp
       ·exact hno i (by omega)
    ·exact absurd (Dw hv hm hd1 hne hm0 (fun i hi=>hno i (by have:=ff hz;omega))) (fun h=>h)
   ·have hmd:m=d:=by have:=ff hy;omega
    subst hmd
    have hfin:fE T D m f m=[]:=by cases f with|zero=>rfl|succ f=>simp only[fE,je]
    rw[hfin,List.append_nil]at hp
    exact bh<|ab (.a 3 I<|.k [8,9] I)<|ao<|⟨_,_,az.of I,ay.aX (af.cons (ay.fr rfl af.pure) (af.cons ay.pure af.nil)),by unfold ei;rw[if_pos rfl];simp only[Int.toNat_natCast];rw[hp];rfl⟩
theorem lN(T:an)(D:List Bool)(m d:Nat):(bI T D m d).Pairwise (· < ·):=by
 unfold bI
 split
 ·exact List.Pairwise.nil
 ·exact(l7 T m).filter _
theorem zH{T:an}{D:List Bool}{m d a:Nat}(h:(a:Int)∈bI T D m d)(hno:∀i:Nat,i<a→¬(i:Int)∈bI T D m d):∃l,bI T D m d=(a:Int)::l:=by
 have hs:=lN T D m d
 cases hx:bI T D m d with
 |nil=>rw[hx]at h;cases h
 |cons b l=>
  obtain⟨c,rfl,_⟩:=cW (T:=T) (D:=D) (n:=m) (d:=d) (a:=b) (by rw[hx];simp)
  rw[hx]at h hs hno
  have h1:=hno c
  have:c=a:=by
   cases h with
   |head=>rfl
   |tail _ h=>
    have:=(List.pairwise_cons.1 hs).1 _ h
    exact absurd (List.mem_cons_self ..) (h1 (by omega))
  exact⟨l,by rw[this]⟩
theorem IS{T:an}{D:List Bool}(hv:aq T=true){m d k:Nat}(hm:(m:Int)<T.nodes)(hd:(d:Int)<T.nodes)(hk:k<2*T.ag.length):(decide (br T k=(m:Int))&&I4 T D (bH T D d false) k d)=true↔(k:Int)∈bI T D m d:=by
 obtain⟨y,hyh,hyN⟩:=dQ hv hk
 have hS:=aO hv
 constructor
 ·intro h
  obtain⟨h1,h2⟩:=Bool.and_eq_true_iff.1 h
  have h1:=tt h1
  unfold I4 at h2
  rw[h1,hyh]at h2
  simp only[Int.toNat_natCast,Bool.and_eq_true,Bool.not_eq_true',Bool.or_eq_true,decide_eq_true_eq]at h2
  obtain⟨⟨⟨⟨g1,g2⟩,g3⟩,g4⟩,g5⟩:=h2
  refine fw ⟨hk,h1,g1,by omega,?_,?_,?_⟩ (hS.cost k hk).1
  ·rw[hyh,Int.toNat_natCast];exact g3
  ·rw[hyh];rcases g4 with g|g
   ·exact .inl (by omega)
   ·exact .inr (by simpa using g)
  ·rw[hyh,Int.toNat_natCast];exact g5
 ·intro h
  obtain⟨k',hk',hn⟩:=cW h
  have:k'=k:=by omega
  subst this
  have h3:=hn.reach
  have h4:=hn.pass
  have h5:=hn.sum
  have h6:=hn.ne
  rw[hyh,Int.toNat_natCast]at h3 h5
  rw[hyh,Int.toNat_natCast]at h4
  refine Bool.and_eq_true_iff.2 ⟨decide_eq_true hn.tail,?_⟩
  unfold I4
  rw[hn.tail,hyh]
  simp only[Int.toNat_natCast,Bool.and_eq_true,Bool.not_eq_true',Bool.or_eq_true,decide_eq_true_eq]
  refine⟨⟨⟨⟨hn.up,by omega⟩,h3⟩,?_⟩,h5⟩
  rcases h4 with g|g
  ·exact .inl (by omega)
  ·exact .inr (by simpa using g)
set_option maxHeartbeats 2000000 in
theorem zv(T:an)(D:List Bool)(s d:Int):Can Tryz.prog 90 [aN T,bq D,num s,num d] (· =ei (gR T D s d) (cr T D s.toNat d.toNat)):=by
 obtain⟨g1,hg1⟩:∃q,decide (s<0)=q:=⟨_,rfl⟩
 obtain⟨g2,hg2⟩:∃q,decide (T.nodes≤s)=q:=⟨_,rfl⟩
 have hnb:bm T s= !(g1||g2):=by rw[←hg1,←hg2,←Bool.decide_or,←decide_not];unfold bm;exact decide_eq_decide.2 (by omega)
 refine aI Tryz.func90 I Tryz.ntmps90 I<|ab (.a 3 I<|.k [1,2,3,4] I)<|ab (.a 3 I<|.c rfl (tv T D d) I<|.a 5 I<|.k [1,2,3,4,10,11] I)<|aj<|ab (.a 2 I<|.k [1,2,3,4,10,11,22] I)<|ah I (fun hc=>?_) (fun hc=>?_)
 ·have he0:cN T D [d]≠0:=tt hc
  have he:cu T D s d≠0:=by unfold cu;rw[if_neg he0];exact he0
  have he2:cu T D s d=cN T D [d]:=by unfold cu;rw[if_neg he0]
  exact ab (.a 3 I<|.k [8,9] I)<|ao<|⟨_,_,az.of I,ay.aX (af.cons ay.bQ (af.cons ay.pure af.nil)),by unfold ei gR;rw[if_neg he,if_neg he,he2];rfl⟩
 ·have he0:cN T D [d]=0:=Classical.byContradiction (ff hc)
  rw[he0,if_pos rfl]
  refine ai<|aj<|bE 31 (.raw (.bool (g1||g2))) [1,2,3,4,10] I ?_ ?_
  ·refine .a 1 I<|.v (cd I (hg1)) I<|.a 1 I<|?_
   cases g1
   ·exact .a 3 I<|.v (cd I (hg2)) I<|.a 1 I<|.k [31,1,2,3,4,10] I
   ·exact .a 5 I<|.k [31,1,2,3,4,10] I
  refine ah I (fun hy=>?_) (fun hy=>?_)
  ·have hn:bm T s=false:=by rw[hnb,hy];rfl
   have he:cu T D s d=2:=by unfold cu;rw[if_pos he0,hn];rfl
   exact ab (.a 2 I<|.k [8,9] I)<|ao<|⟨_,_,az.of I,ay.aX (af.cons ay.bQ (af.cons ay.pure af.nil)),by unfold ei gR;rw[he];rfl⟩
  ·have hn:bm T s=true:=by rw[hnb,hy];rfl
   have he:cu T D s d=0:=by unfold cu;rw[if_pos he0,hn];rfl
   obtain⟨hv,hf,hns,hnd⟩:=fH he
   obtain⟨hs0,hs1⟩:=aT.1 hns
   obtain⟨hd0,hd1⟩:=aT.1 hnd
   clear hnb hg1 hg2 hy
   obtain⟨s,rfl⟩:=Int.eq_ofNat_of_zero_le hs0
   obtain⟨d,rfl⟩:=Int.eq_ofNat_of_zero_le hd0
   simp only[Int.toNat_natCast]
   have hS:=aO hv
   have hN:=hS.nodes
   have hll:=bV hv
   obtain⟨hb1,hb2⟩:=dW (D:=D) hv (dir:=false) hd1
   refine ai<|aj<|ab (.a 2 I<|.v (aM (s) I) I<|.v (aJ I (aB _ s (by omega))) I<|.a 1 I<|.k [1,2,3,4,10,36] I)<|ah I (fun hy=>?_) (fun hy=>?_)
   ·have h0:dN T D d s<0:=tt hy
    exact ab (.a 2 I<|.k [8,9] I)<|ao<|⟨_,_,az.of I,ay.aX (af.cons ay.bQ (af.cons ay.pure af.nil)),by unfold ei gR;simp only[Int.toNat_natCast];rw[if_pos he,if_pos h0];rfl⟩
   ·have h0:0≤dN T D d s:=by have:=ff hy;show 0≤(bH T D d false).getD s 0;omega
    have hE:gR T D (s:Int) (d:Int)=0:=by unfold gR;simp only[Int.toNat_natCast];rw[if_pos he,if_neg (by omega)]
    rw[hE]
    refine ai<|ab (.a 1 I<|.k [1,2,3,4,10,12] I)<|gQ 12 3 1 I ?_
    refine aj<|aw<|eS [1,2,3,4,10,12] I<|bu (fun r st=>∃(p:List Int) (m f:Nat),(m:Int)<T.nodes∧0≤dN T D d m∧dN T D d m≤f∧r=(dN T D d m).toNat∧(p.length:Int)+dN T D d m≤dN T D d s∧cr T D s d=p++fE T D d f m∧st=⟨[(1,bq D),(2,num m),(3,num d),(4,.bc (bC T) 0),(10,au (bH T D d false)),(12,.own 0)],[some (.row 3 1 p.length (aK p))]⟩) (dN T D d s).toNat ⟨[],s,(dN T D d s).toNat,hs1,h0,by omega,rfl,by simp,rfl,rfl⟩ ?_
    rintro r st ⟨p,m,f,hm,hm0,hmf,rfl,hpl,hp,rfl⟩
    refine aj<|ab (.a 3 I<|.k [1,2,3,4,10,12,39] I)<|ah I (fun hz=>?_) (fun hz=>?_)
    ·have hne:m≠d:=by have:=tt hz;omega
     have hbnd:=(Iv (D:=D) hv hd1 hs1).2
     refine ai<|aw<|ab (.a 1 I<|.k [1,2,3,4,10,12,13] I)<|aw<|eS [1,2,3,4,10,12,13] I<|bu (fun r st=>∃a:Nat,a≤2*T.ag.length∧r=2*T.ag.length - a∧(∀i:Nat,i<a→¬(i:Int)∈bI T D m d)∧st=⟨[(1,bq D),(2,num m),(3,num d),(4,.bc (bC T) 0),(10,au (bH T D d false)),(12,.own 0),(13,num a)],[some (.row 3 1 p.length (aK p))]⟩) (2*T.ag.length) ⟨0,by omega,by omega,fun i hi=>by omega,rfl⟩ ?_
     rintro r st ⟨a,ha,rfl,hno,rfl⟩
     refine aj<|ab (.a 4 I<|.v (aV I) I<|.a 1 I<|.k [1,2,3,4,10,12,13,45] I)<|ah I (fun hq=>?_) (fun hq=>?_)
     ·have ham:a<2*T.ag.length:=by have:=tt hq;omega
      obtain⟨y,hyh,hyN⟩:=dQ hv ham
      have hh:=jG T hv a ham
      rw[hyh]at hh
      obtain⟨p1,hp1⟩:∃q,decide (br T a=(m:Int))=q:=⟨_,rfl⟩
      obtain⟨p2,hp2⟩:∃q,I4 T D (bH T D d false) a d=q:=⟨_,rfl⟩
      have hon:=IS (D:=D) hv hm hd1 ham
      rw[hp1,hp2]at hon
      refine ai<|aj<|aw<|bE 60 (.raw (.bool (p1&&p2))) [1,2,3,4,10,12,13] I ?_ ?_
      ·refine .a 2 I<|.c rfl (jA T hv a ham) I<|.a 1 I<|.v (cd I (hp1)) I<|.a 1 I<|?_
       cases p1
       ·exact .a 7 I<|.k [60,1,2,3,4,10,12,13] I
       ·exact .a 5 I<|.c rfl (hp2▸IV T D (bH T D d false) a d hv hf hb1 hb2 ham) I<|.a 1 I<|.k [60,1,2,3,4,10,12,13] I
      refine ah I (fun hk=>?_) (fun hk=>?_)
      ·have hmem:=hon.1 hk
       obtain⟨l,hl⟩:=zH hmem hno
       obtain⟨b,hb,hbn⟩:=cW hmem
       have hba:b=a:=by omega
       subst hba
       have hdy:=hbn.dN hyh
       have hcy:=hS.cost b ham
       refine aP<|av 3 I<|b7 (bg I (ba.rk.get I) I I I I (by unfold maxLen;omega)) I<|av 1 I ?_
       refine eP [1] (.c 1<|.c 3<|.c 4<|.c 10<|.c 12<|.c 13<|.nil) (.kept rfl (.fF rfl (dA _ _))<|.nil) I I (bn ?_)
       refine ab (.a 2 I<|.c rfl (hh) I<|.a 1 I<|.k [1,2,3,4,10,12] I)<|bh ?_
       cases f with
       |zero=>omega
       |succ f=>
        refine⟨(dN T D d y).toNat,by omega,p++[(b:Int)],y,f,hyN,hdy.1,by omega,rfl,by simp;omega,?_,by simp⟩
        rw[hp,rP hl,Int.toNat_natCast,hyh,Int.toNat_natCast,List.append_assoc]
        rfl
      ·have hnm:¬(a:Int)∈bI T D m d:=fun h=>by rw[hon.2 h]at hk;cases hk
       refine ai<|aC (.a 1 I<|.v (aV I) I<|.a 1 I<|.k [1,2,3,4,10,12,13] I) ?_
       refine⟨2*T.ag.length - (a+1),by omega,a+1,by omega,rfl,fun i hi=>?_,rfl⟩
       by_cases h:i=a
       ·rw[h];exact hnm
       ·exact hno i (by omega)
     ·have hcon:False:=by
       obtain⟨k,hk⟩:=jO (D:=D) hv hm hd1 hne hm0
       have:=fw hk (hS.cost k hk.fy).1
       exact hno k (by have:=hk.fy;have:=ff hq;omega) this
      exact absurd hcon (fun h=>h)
    ·have hmd:m=d:=by have:=ff hz;omega
     subst hmd
     have hfin:fE T D m f m=[]:=by cases f with|zero=>rfl|succ f=>simp only[fE,je]
     rw[hfin,List.append_nil]at hp
     exact bh<|ab (.a 3 I<|.k [8,9] I)<|ao<|⟨_,_,az.of I,ay.aX (af.cons (ay.fr rfl af.pure) (af.cons ay.pure af.nil)),by unfold ei;rw[if_pos rfl,hp];rfl⟩
end
end PW
end Go.Proofs.YtnegbdpggideiaaGreatDoor
