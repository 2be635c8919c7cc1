/- Texts of the proof, part 7. -/
import Derived.Laws.StructEq
import Derived.Test.YtnegbdpggideiaaGreatDoorCardXEB6
set_option linter.unusedVariables false
set_option linter.unusedSimpArgs false
set_option maxRecDepth 10000
set_option maxHeartbeats 1000000
namespace Go.Proofs.YtnegbdpggideiaaGreatDoor
namespace PW
section
open Go.RowKit cG Mem Net
theorem uc(a b c d:Int)(w:World):(Op.equalIn 10000 103 (.agg #[.int .i64 a,.int .i64 b]) (.agg #[.int .i64 c,.int .i64 d])).run Tryz.prog w= .ok (a==c&&b==d) w:=by
 have u3:=Tryz.underlying3
 have a3:=Tryz.isAgg3
 have z3:=Tryz.sizeOf3
 have hS:Tryz.prog.underlying 103=some (.struct (Tryz.prog.fieldsOf 103)):=by kernel_rfl
 rw[show(10000:Nat)=9999+1 from rfl,run_equalIn_agg w 9999 103 _ _ hS (by kernel_rfl)]
 simp only[Program.fieldsOf,Tryz.underlying103]
 go_simp
 by_cases h1:a=c<;>by_cases h2:b=d<;>simp[h1,h2]
theorem qJ{E:Env}{w:World}{v:Value}{s:bV}(h:cM E w v (sV s)):v= .agg #[.int .i64 s.kind,.int .i64 s.num]:=by
 unfold sV oN at h
 cases h with
 |agg cs _ hl hr=>
  obtain⟨l⟩:=cs
  match l,hl,hr with
  | [x,y],_,hr=>
   have h0:=ek (hr 0 x _ rfl rfl)
   have h1:=ek (hr 1 y _ rfl rfl)
   subst h0;subst h1;rfl
  | [],hl,_=>simp at hl
  | [_],hl,_=>simp at hl
  |_::_::_::_,hl,_=>simp at hl
theorem Eb{σ:cg}{t:cn}{o:Oper}{x y:Operand}{tz:TypeId}{a b:bV}{q:Bool}(ho:o.op= .binOp .neq 103 x y tz)(hx:aG t x=some (sV a))(hy:aG t y=some (sV b))(hq:decide (a≠b)=q):bE Tryz.prog σ t o (.raw (.bool q)):=by
 intro F base E ρ w hρ _ hT
 have h1:=qJ (aA hρ hT hx)
 have h2:=qJ (aA hρ hT hy)
 have hb:(!(a.kind==b.kind&&a.num==b.num))=q:=by
  rw[←hq]
  obtain⟨a1,a2⟩:=a
  obtain⟨b1,b2⟩:=b
  by_cases e1:a1=b1<;>by_cases e2:a2=b2<;>simp[e1,e2]
 simp only[execOp,ho,h1,h2,Sem.run_bind,run_eqGuard_agg w _ _ _ _ _ _ (show Tryz.prog.eqGuardType Tryz.prog.depth 103=false by kernel_rfl),Result.andThen_ok,run_neq_struct,uc,Sem.run_pure,hb]
 exact bA (.raw _)
theorem wN{σ:cg}{t:cn}{o:Oper}{x y:Operand}{tz:TypeId}{a b:bV}{q:Bool}(ho:o.op= .binOp .eql 103 x y tz)(hx:aG t x=some (sV a))(hy:aG t y=some (sV b))(hq:decide (a=b)=q):bE Tryz.prog σ t o (.raw (.bool q)):=by
 intro F base E ρ w hρ _ hT
 have h1:=qJ (aA hρ hT hx)
 have h2:=qJ (aA hρ hT hy)
 have hb:(a.kind==b.kind&&a.num==b.num)=q:=by
  rw[←hq]
  obtain⟨a1,a2⟩:=a
  obtain⟨b1,b2⟩:=b
  by_cases e1:a1=b1<;>by_cases e2:a2=b2<;>simp[e1,e2]
 simp only[execOp,ho,h1,h2,Sem.run_bind,run_eqGuard_agg w _ _ _ _ _ _ (show Tryz.prog.eqGuardType Tryz.prog.depth 103=false by kernel_rfl),Result.andThen_ok,run_eql_struct,uc,Sem.run_pure,hb]
 exact bA (.raw _)
theorem Bw(L M:List bV):Can Tryz.prog 132 [cc L,cc M] (· =flag (decide (L=M))):=by
 refine kW fun⟨E,w,vs,hR⟩=>?_
 obtain⟨v,_,hv⟩:=hR.get (i:=0) I
 have hm:=jM hv
 unfold maxLen at hm
 refine aH Tryz.func132 I Tryz.ntmps132 I<|ab (.a 1 I<|.k [0,1] I)<|aj<|ab (.a 5 I<|.k [0,1,10] I)<|ag I (fun hc=>?_) (fun hc=>?_)
 ·have hne:L≠M:=fun e=>by have:=of_decide_eq_true hc;rw[e]at this;exact this rfl
  exact ab (.a 1 I<|.k [4] I)<|ao<|⟨_,_,az.of I,ay.pure,by rw[decide_eq_false hne];rfl⟩
 ·have hlen:L.length=M.length:=by have:=of_decide_eq_false hc;omega
  refine ai<|aj<|ab (.a 1 I<|.k [0,1,5] I)<|au<|eH [0,1,5] I<|bq (fun r s=>∃i,i≤L.length∧(∀j,j<i→L[j]? =M[j]?)∧r=L.length - i∧s=⟨[(0,cc L),(1,cc M),(5,num i)],[]⟩) L.length ⟨0,by omega,fun j hj=>by omega,by omega,rfl⟩ ?_
  rintro r s ⟨i,hi,hall,rfl,rfl⟩
  refine aj<|ab (.a 4 I<|.k [0,1,5,14] I)<|ag I (fun hc=>?_) (fun hc=>?_)
  ·have hlt:i<L.length:=by have:=of_decide_eq_true hc;omega
   obtain⟨a,ha⟩:∃a,L[i]? =some a:=⟨L[i],by simp[hlt]⟩
   obtain⟨b,hb⟩:∃b,M[i]? =some b:=⟨M[i]'(by omega),by simp[show i<M.length by omega]⟩
   refine ai<|aj<|au<|ep mixed (by kernel_rfl) (.a 2 I<|.v [17,18] (aN (i*2) I) I I<|.v [19] (ja I (ba.tk.get I) I (gv L i a ha) I) I I<|.a 2 I<|.v [21,22] (aN (i*2) I) I I<|.v [23] (ja I (ba.tk.get I) I (gv M i b hb) I) I I<|.v [20,24] (Eb (a:=a) (b:=b) I I I I) I I<|.k [0,1,5,25] I) ?_
   refine ag I (fun hc=>?_) (fun hc=>?_)
   ·have hne:L≠M:=fun e=>by rw[e,hb]at ha;cases ha;exact of_decide_eq_true hc rfl
    exact ab (.a 1 I<|.k [4] I)<|ao<|⟨_,_,az.of I,ay.pure,by rw[decide_eq_false hne];rfl⟩
   ·have hab:a=b:=Classical.byContradiction (of_decide_eq_false hc)
    refine ai<|aC (.a 1 I<|.v (aU I) I<|.a 1 I<|.k [0,1,5] I) ?_
    exact⟨L.length - (i+1),by omega,i+1,by omega,fun j hj=>by by_cases e:j=i;(rw[e,ha,hb,hab]);exact hall j (by omega),rfl,rfl⟩
  ·have hie:i=L.length:=by have:=of_decide_eq_false hc;omega
   have heq:L=M:=List.ext_getElem? fun j=>by
    by_cases hj:j<L.length
    ·exact hall j (by omega)
    ·rw[List.getElem?_eq_none (by omega),List.getElem?_eq_none (by omega)]
   exact bd<|ab (.a 1 I<|.k [4] I)<|ao<|⟨_,_,az.of I,ay.pure,by rw[decide_eq_true heq];rfl⟩
deriving instance DecidableEq for i6
deriving instance DecidableEq for de
theorem An{E:Env}{w:World}{v:Value}{x:de}(h:cM E w v (fw x)):x.dr.length≤maxLen∧x.down.length≤maxLen:=by
 unfold fw eL at h
 cases h with
 |agg cs _ hl hr=>
  have hr:bf E w cs.toList _:=⟨by simpa using hl,fun i x u h1 h2=>hr i x u (by simpa using h1) h2⟩
  obtain⟨v1,_,h1⟩:=hr.get (i:=1) I
  obtain⟨v2,_,h2⟩:=hr.get (i:=2) I
  exact⟨jM h1,jM h2⟩
def jz(T:ak)(s:bV):Bool:=if s.kind=1 then bu T s.num else if s.kind=2 then eQ T s.num else if s.kind=3 then bK s.num 1 64 else if s.kind=4 then bK s.num 0 65535 else false
def eC(T:ak)(n:Int)(L:List Int):Bool:=decide (∀i,i<L.length→eQ T (L.getD i 0)=true∧bm T (L.getD i 0).toNat=n∧(0<i→L.getD (i - 1) 0<L.getD i 0))
def gA(T:ak)(n d:Int)(e:i6):Bool:=eC T n e.ax&&(!(decide (d=n)&&decide (0<(e.ax.length:Int))))&&(if e.rep then decide ((e.ax.length:Int)=1)&&decide ((e.push.length:Int)≤32)&&e.push.all (jz T) else decide ((e.push.length:Int)=0))
def I9:i6:=⟨[],false,[]⟩
def nG(T:ak)(n:Int)(l:List i6):Bool:=decide (∀d,d<l.length→gA T n d (l.getD d I9)=true)
def cT(T:ak)(x:de):Bool:=aq T&&bu T x.node&&decide ((x.dr.length:Int)=T.nodes)&&eC T x.node x.down&&nG T x.node x.dr
theorem cW{T:ak}{a:Int}:eQ T a=true↔0≤a∧a<2*(T.ae.length:Int):=by simp[eQ]
theorem px(T:ak)(a:Int)(h:eQ T a=true):Can Tryz.prog 79 [aP T,num a] (· =num (bm T a.toNat)):=by
 obtain⟨h0,h1⟩:=cW.1 h
 obtain⟨a,rfl⟩:=Int.eq_ofNat_of_zero_le h0
 exact jt T a (by omega)
theorem Dj(T:ak)(hl:T.ae.length≤4611686018427387903)(s:bV):Can Tryz.prog 171 [aP T,sV s] (· =flag (jz T s)):=by
 unfold jz
 refine aH Tryz.func171 I Tryz.ntmps171 I<|ab (.a 3 I<|.k [2,3] I)<|aj<|ab (.a 2 I<|.k [2,3,6] I)<|au<|ab (.a 2 I<|.k [2,3,6,7] I)<|ag I (fun hc=>?_) (fun hc=>?_)
 ·rw[if_pos (tt hc)]
  exact ab (.a 3 I<|.c rfl (dJ T s.num) I<|.a 1 I<|.k [4] I)<|ao<|⟨_,_,az.of I,ay.pure,rfl⟩
 ·rw[if_neg (ff hc)]
  refine ab (.a 2 I<|.k [2,3,6,13] I)<|ag I (fun hc=>?_) (fun hc=>?_)
  ·rw[if_pos (tt hc)]
   exact ab (.a 3 I<|.c rfl (qw T hl s.num) I<|.a 1 I<|.k [4] I)<|ao<|⟨_,_,az.of I,ay.pure,rfl⟩
  ·rw[if_neg (ff hc)]
   refine ab (.a 2 I<|.k [3,6,19] I)<|ag I (fun hc=>?_) (fun hc=>?_)
   ·rw[if_pos (tt hc)]
    obtain⟨p1,hp1⟩:∃q,decide (1≤s.num)=q:=⟨_,rfl⟩
    obtain⟨p2,hp2⟩:∃q,decide (s.num≤64)=q:=⟨_,rfl⟩
    have he:bK s.num 1 64=(p1&&p2):=by rw[←hp1,←hp2];unfold bK;exact Bool.decide_and _ _
    rw[he]
    refine bz 4 (.raw (.bool (p1&&p2))) [] I ?_ ?_
    ·refine .a 2 I<|.v (cf I (hp1)) I<|.a 1 I<|?_
     cases p1
     ·exact .a 5 I<|.k [4] I
     ·exact .a 2 I<|.v (cf I (hp2)) I<|.a 2 I<|.k [4] I
    exact ao<|⟨_,_,az.of I,ay.pure,rfl⟩
   ·rw[if_neg (ff hc)]
    refine ab (.a 2 I<|.k [3,29] I)<|ag I (fun hc=>?_) (fun hc=>?_)
    ·rw[if_pos (tt hc)]
     obtain⟨p1,hp1⟩:∃q,decide (0≤s.num)=q:=⟨_,rfl⟩
     obtain⟨p2,hp2⟩:∃q,decide (s.num≤65535)=q:=⟨_,rfl⟩
     have he:bK s.num 0 65535=(p1&&p2):=by rw[←hp1,←hp2];unfold bK;exact Bool.decide_and _ _
     rw[he]
     refine bz 4 (.raw (.bool (p1&&p2))) [] I ?_ ?_
     ·refine .a 2 I<|.v (cf I (hp1)) I<|.a 1 I<|?_
      cases p1
      ·exact .a 5 I<|.k [4] I
      ·exact .a 2 I<|.v (cf I (hp2)) I<|.a 2 I<|.k [4] I
     exact ao<|⟨_,_,az.of I,ay.pure,rfl⟩
    ·rw[if_neg (ff hc)]
     exact ai<|ab (.a 1 I<|.k [4] I)<|ao<|⟨_,_,az.of I,ay.pure,rfl⟩
theorem D7{T:ak}{s:bV}(h:s.num<0):jz T s=false:=by
 unfold jz
 have h1:bu T s.num=false:=by unfold bu;exact decide_eq_false (by omega)
 have h2:eQ T s.num=false:=by unfold eQ;exact decide_eq_false (by omega)
 have h3:bK s.num 1 64=false:=by unfold bK;exact decide_eq_false (by omega)
 have h4:bK s.num 0 65535=false:=by unfold bK;exact decide_eq_false (by omega)
 rw[h1,h2,h3,h4]
 simp
theorem FO(T:ak)(hv:aq T=true)(s:bV):Can Tryz.prog 193 [aP T,sV s] (· =flag (jz T s)):=by
 have h:=fe T
 rw[hv]at h
 obtain⟨p0,hp0⟩:∃q,decide (s.num<0)=q:=⟨_,rfl⟩
 refine aH Tryz.func193 I Tryz.ntmps193 I<|ab (.a 3 I<|.k [2,3] I)<|aj<|bz 12 (.raw (.bool (p0))) [2,3] I ?_ ?_
 ·exact .a 1 I<|.c rfl (h) I<|.a 4 I<|.v (cf I (hp0)) I<|.a 1 I<|.k [12,2,3] I
 refine ag I (fun hc=>?_) (fun hc=>?_)
 ·rw[hc]at hp0
  rw[D7 (tt hp0)]
  exact ab (.a 1 I<|.k [4] I)<|ao<|⟨_,_,az.of I,ay.pure,rfl⟩
 ·rw[hc]at hp0
  have h0:0≤s.num:=by have:=ff hp0;omega
  unfold jz
  refine ai<|aj<|ab (.a 2 I<|.k [2,3,14] I)<|au<|ab (.a 2 I<|.k [2,3,14,15] I)<|ag I (fun hc=>?_) (fun hc=>?_)
  ·rw[if_pos (tt hc),show bu T s.num=decide (s.num<T.nodes) by unfold bu;exact decide_eq_decide.2 (by omega)]
   exact ab (.a 6 I<|.k [4] I)<|ao<|⟨_,_,az.of I,ay.pure,rfl⟩
  ·rw[if_neg (ff hc)]
   refine ab (.a 2 I<|.k [2,3,14,22] I)<|ag I (fun hc=>?_) (fun hc=>?_)
   ·rw[if_pos (tt hc),show eQ T s.num=decide (s.num<2*(T.ae.length:Int)) by unfold eQ;exact decide_eq_decide.2 (by omega)]
    refine ep mixed (by kernel_rfl) (.a 3 I<|.v [26] (dU I (mH T hv)) I I<|.a 2 I<|.k [4] I) ?_
    exact ao<|⟨_,_,az.of I,ay.pure,rfl⟩
   ·rw[if_neg (ff hc)]
    refine ab (.a 2 I<|.k [3,14,29] I)<|ag I (fun hc=>?_) (fun hc=>?_)
    ·rw[if_pos (tt hc)]
     obtain⟨p1,hp1⟩:∃q,decide (1≤s.num)=q:=⟨_,rfl⟩
     obtain⟨p2,hp2⟩:∃q,decide (s.num≤64)=q:=⟨_,rfl⟩
     have he:bK s.num 1 64=(p1&&p2):=by rw[←hp1,←hp2];unfold bK;exact Bool.decide_and _ _
     rw[he]
     refine bz 4 (.raw (.bool (p1&&p2))) [] I ?_ ?_
     ·refine .a 2 I<|.v (cf I (hp1)) I<|.a 1 I<|?_
      cases p1
      ·exact .a 5 I<|.k [4] I
      ·exact .a 2 I<|.v (cf I (hp2)) I<|.a 2 I<|.k [4] I
     exact ao<|⟨_,_,az.of I,ay.pure,rfl⟩
    ·rw[if_neg (ff hc)]
     refine ab (.a 2 I<|.k [3,39] I)<|ag I (fun hc=>?_) (fun hc=>?_)
     ·rw[if_pos (tt hc),show bK s.num 0 65535=decide (s.num≤65535) by unfold bK;exact decide_eq_decide.2 (by omega)]
      exact ab (.a 4 I<|.k [4] I)<|ao<|⟨_,_,az.of I,ay.pure,rfl⟩
     ·rw[if_neg (ff hc)]
      exact ai<|ab (.a 1 I<|.k [4] I)<|ao<|⟨_,_,az.of I,ay.pure,rfl⟩
def qe(T:ak)(n:Int)(L:List Int)(i:Nat):Bool:=decide (eQ T (L.getD i 0)=true∧bm T (L.getD i 0).toNat=n∧(0<i→L.getD (i - 1) 0<L.getD i 0))
theorem uw{T:ak}{n:Int}{L:List Int}(h:∀i,i<L.length→qe T n L i=true):eC T n L=true:=decide_eq_true fun i hi=>tt (h i hi)
theorem rF{T:ak}{n:Int}{L:List Int}{i:Nat}(hi:i<L.length)(h:qe T n L i=false):eC T n L=false:=decide_eq_false fun ha=>ff h (ha i hi)
theorem oL(T:ak)(hv:aq T=true)(n:Int)(L:List Int):Can Tryz.prog 140 [aP T,num n,av L] (· =flag (eC T n L)):=by
 have hll:=bT hv
 refine kW fun⟨E,w,vs,hR⟩=>?_
 obtain⟨v,_,hv⟩:=hR.get (i:=2) I
 have hm:=jM hv
 unfold maxLen at hm
 refine aH Tryz.func140 I Tryz.ntmps140 I<|ab (.a 2 I<|.k [1,2,3] I)<|aj<|ab (.a 3 I<|.k [1,2,3,9,10,11] I)<|au<|eH [1,2,3,9,10,11] I<|bq (fun r s=>∃k,k≤L.length∧r=L.length - k∧(∀i,i<k→qe T n L i=true)∧s=⟨[(1,num n),(2,av L),(3,.bb (bC T) 0),(9,av L),(10,num L.length),(11,num k)],[]⟩) L.length ⟨0,by omega,by omega,fun i hi=>by omega,rfl⟩ ?_
 rintro r s ⟨k,hk,rfl,hall,rfl⟩
 refine ab (.a 1 I<|.k [1,2,3,9,10,11,12] I)<|aj<|ag I (fun hc=>?_) (fun hc=>?_)
 ·have hlt:k<L.length:=by have:=tt hc;omega
  obtain⟨p1,hp1⟩:∃q,eQ T (L.getD k 0)=q:=⟨_,rfl⟩
  obtain⟨p2,hp2⟩:∃q,decide (bm T (L.getD k 0).toNat≠n)=q:=⟨_,rfl⟩
  obtain⟨p3,hp3⟩:∃q,decide (0<(k:Int))=q:=⟨_,rfl⟩
  obtain⟨p4,hp4⟩:∃q,decide (L.getD k 0≤L.getD (k - 1) 0)=q:=⟨_,rfl⟩
  refine ai<|aj<|au<|ab (.a 1 I<|.v (aN (k) I) I<|.v (aJ I (aB L k hlt)) I<|.a 2 I<|.k [1,2,3,7,8,9,10,11] I)<|bz 39 (.raw (.bool (((!p1)||p2)||(p3&&p4)))) [1,2,3,9,10,11] I ?_ ?_
  ·refine .a 2 I<|.c rfl (hp1▸qw T (by omega) (L.getD k 0)) I<|.a 2 I<|?_
   cases p1
   ·exact .a 19 I<|.k [39,1,2,3,9,10,11] I
   ·refine .a 2 I<|.c rfl (px T _ hp1) I<|.a 1 I<|.v (cf I (hp2)) I<|.a 2 I<|?_
    cases p2
    ·refine .a 1 I<|.v (cf I (hp3)) I<|.a 1 I<|?_
     cases p3
     ·exact .a 9 I<|.k [39,1,2,3,9,10,11] I
     ·exact .a 2 I<|.v (aU I) I<|.v (aN (k - 1) I (by have:=tt hp3;omega) (by omega)) I<|.v (aJ I (aB L (k - 1) (by omega))) I<|.a 1 I<|.v (cf I (hp4)) I<|.a 2 I<|.k [39,1,2,3,9,10,11] I
    ·exact .a 12 I<|.k [39,1,2,3,9,10,11] I
  refine ag I (fun hx=>?_) (fun hx=>?_)
  ·have hno:qe T n L k=false:=by
    refine decide_eq_false fun⟨h1,h2,h3⟩=>?_
    rw[h1]at hp1
    rw[decide_eq_false (by simpa using h2)]at hp2
    subst hp1 hp2
    simp only[Bool.not_true,Bool.false_or,Bool.and_eq_true]at hx
    rw[hx.1]at hp3
    rw[hx.2]at hp4
    have:=h3 (by have:=tt hp3;omega)
    have:=tt hp4
    omega
   rw[rF hlt hno]
   exact ab (.a 1 I<|.k [6] I)<|ao<|⟨_,_,az.of I,ay.pure,rfl⟩
  ·have hyes:qe T n L k=true:=by
    obtain⟨c1,c3⟩:=Bool.or_eq_false_iff.1 hx
    obtain⟨c1,c2⟩:=Bool.or_eq_false_iff.1 c1
    refine decide_eq_true ⟨?_,?_,fun h0=>?_⟩
    ·rw[hp1];simpa using c1
    ·rw[c2]at hp2;exact Classical.byContradiction (ff hp2)
    ·rw[decide_eq_true (by omega)]at hp3
     subst hp3
     rw[Bool.true_and]at c3
     rw[c3]at hp4
     have:=ff hp4
     omega
   refine ai<|aC (.v (aU I) I<|.a 1 I<|.k [1,2,3,9,10,11] I) ?_
   refine⟨L.length - (k+1),by omega,k+1,by omega,rfl,fun i hi=>?_,rfl⟩
   by_cases h:i=k
   ·rw[h];exact hyes
   ·exact hall i (by omega)
 ·have hke:k=L.length:=by have:=ff hc;omega
  subst hke
  rw[uw hall]
  exact bd<|ab (.a 1 I<|.k [6] I)<|ao<|⟨_,_,az.of I,ay.pure,rfl⟩
theorem sq{T:ak}(a n:Int)(hn:0≤n):(nr T a=n)↔(eQ T a=true∧bm T a.toNat=n):=by
 unfold nr
 rw[cW]
 split
 ·rename_i h;exact⟨fun e=>⟨h,e⟩,fun e=>e.2⟩
 ·rename_i h;exact⟨fun e=>by omega,fun e=>absurd e.1 h⟩
theorem nS(T:ak)(hv:aq T=true)(n:Int)(hn:0≤n)(L:List Int):Can Tryz.prog 192 [aP T,num n,av L] (· =flag (eC T n L)):=by
 have hll:=bT hv
 refine kW fun⟨E,w,vs,hR⟩=>?_
 obtain⟨v,_,hvv⟩:=hR.get (i:=2) I
 have hm:=jM hvv
 unfold maxLen at hm
 refine aH Tryz.func192 I Tryz.ntmps192 I<|ab (.a 2 I<|.k [1,2,3] I)<|aj<|ab (.a 1 I<|.k [1,2,3,7] I)<|au<|eH [1,2,3,7] I<|bq (fun r s=>∃k,k≤L.length∧r=L.length - k∧(∀i,i<k→qe T n L i=true)∧s=⟨[(1,num n),(2,av L),(3,.bb (bC T) 0),(7,num k)],[]⟩) L.length ⟨0,by omega,by omega,fun i hi=>by omega,rfl⟩ ?_
 rintro r s ⟨k,hk,rfl,hall,rfl⟩
 refine aj<|ab (.a 4 I<|.k [1,2,3,7,11] I)<|ag I (fun hc=>?_) (fun hc=>?_)
 ·have hlt:k<L.length:=by have:=tt hc;omega
  obtain⟨p1,hp1⟩:∃q,decide (nr T (L.getD k 0)≠n)=q:=⟨_,rfl⟩
  obtain⟨p3,hp3⟩:∃q,decide (0<(k:Int))=q:=⟨_,rfl⟩
  obtain⟨p4,hp4⟩:∃q,decide (L.getD k 0≤L.getD (k - 1) 0)=q:=⟨_,rfl⟩
  refine ai<|aj<|au<|iJ mixed (by kernel_rfl) 37 (.raw (.bool (p1||(p3&&p4)))) [1,2,3,7] I ?_ ?_
  ·refine .a 3 I<|.v [15,16] (aN (k) I) I I<|.v [17] (aJ I (aB L k hlt)) I I<|.v [14,18] (dU I (mB T hv (L.getD k 0))) I I<|.a 1 I<|.v [19,20] (cf I (hp1)) I I<|.a 1 I<|?_
   cases p1
   ·refine .a 1 I<|.v [23] (cf I (hp3)) I I<|.a 1 I<|?_
    cases p3
    ·exact .a 12 I<|.k [37,1,2,3,7] I
    ·exact .a 2 I<|.v [26,27] (aN (k) I) I I<|.v [28] (aJ I (aB L k hlt)) I I<|.a 2 I<|.v [31] (aU I) I I<|.v [30,32] (aN (k - 1) I (by have:=tt hp3;omega) (by omega)) I I<|.v [33] (aJ I (aB L (k - 1) (by omega))) I I<|.v [29,34] (cf I (hp4)) I I<|.a 2 I<|.k [37,1,2,3,7] I
   ·exact .a 15 I<|.k [37,1,2,3,7] I
  refine ag I (fun hx=>?_) (fun hx=>?_)
  ·have hno:qe T n L k=false:=by
    refine decide_eq_false fun⟨h1,h2,h3⟩=>?_
    rw[decide_eq_false (by have:=(sq _ n hn).2 ⟨h1,h2⟩;simpa using this)]at hp1
    subst hp1
    simp only[Bool.false_or,Bool.and_eq_true]at hx
    rw[hx.1]at hp3
    rw[hx.2]at hp4
    have:=h3 (by have:=tt hp3;omega)
    have:=tt hp4
    omega
   rw[rF hlt hno]
   exact ab (.a 1 I<|.k [6] I)<|ao<|⟨_,_,az.of I,ay.pure,rfl⟩
  ·have hyes:qe T n L k=true:=by
    obtain⟨c1,c3⟩:=Bool.or_eq_false_iff.1 hx
    rw[c1]at hp1
    obtain⟨h1,h2⟩:=(sq _ n hn).1 (Classical.byContradiction (ff hp1))
    refine decide_eq_true ⟨h1,h2,fun h0=>?_⟩
    rw[decide_eq_true (by omega)]at hp3
    subst hp3
    rw[Bool.true_and]at c3
    rw[c3]at hp4
    have:=ff hp4
    omega
   refine ai<|aC (.a 1 I<|.v (aU I) I<|.a 1 I<|.k [1,2,3,7] I) ?_
   refine⟨L.length - (k+1),by omega,k+1,by omega,rfl,fun i hi=>?_,rfl⟩
   by_cases h:i=k
   ·rw[h];exact hyes
   ·exact hall i (by omega)
 ·have hke:k=L.length:=by have:=ff hc;omega
  subst hke
  rw[uw hall]
  exact bd<|ab (.a 1 I<|.k [6] I)<|ao<|⟨_,_,az.of I,ay.pure,rfl⟩
theorem Ki{α:Type}(p:α→Bool)(L:List α)(k:Nat)(a:α)(h:L[k]? =some a):(L.take (k+1)).all p=((L.take k).all p&&p a):=by
 rw[List.take_add_one,h,List.all_append];simp
theorem Ku{α:Type}(p:α→Bool)(L:List α)(k:Nat)(a:α)(h:L[k]? =some a)(hp:p a=false):L.all p=false:=by
 rw[Bool.eq_false_iff]
 intro ha
 have:=List.all_eq_true.1 ha a (List.mem_of_getElem? h)
 rw[hp]at this
 cases this
theorem zi(T:ak)(hv:aq T=true)(e:i6)(n d:Int):Can Tryz.prog 141 [aP T,xQ e,num n,num d] (· =flag (gA T n d e)):=by
 have hll:=bT hv
 obtain⟨p1,hp1⟩:∃q,eC T n e.ax=q:=⟨_,rfl⟩
 obtain⟨p2,hp2⟩:∃q,decide (d=n)=q:=⟨_,rfl⟩
 obtain⟨p3,hp3⟩:∃q,decide (0<(e.ax.length:Int))=q:=⟨_,rfl⟩
 unfold gA
 rw[hp1,hp2,hp3]
 refine aH Tryz.func141 I Tryz.ntmps141 I<|ab (.a 3 I<|.k [2,3,4,5] I)<|aj<|bz 27 (.raw (.bool ((!p1)||(p2&&p3)))) [4,5] I ?_ ?_
 ·refine .a 4 I<|.c rfl (hp1▸oL T hv n e.ax) I<|.a 2 I<|?_
  cases p1
  ·exact .a 10 I<|.k [27,4,5] I
  ·refine .a 2 I<|.v (cf I (hp2)) I<|.a 1 I<|?_
   cases p2
   ·exact .a 6 I<|.k [27,4,5] I
   ·exact .a 3 I<|.v (cf I (hp3)) I<|.a 2 I<|.k [27,4,5] I
 refine ag I (fun hc=>?_) (fun hc=>?_)
 ·have he:(p1&& !(p2&&p3))=false:=by cases p1<;>cases p2<;>cases p3<;>first|rfl|cases hc
  rw[he,Bool.false_and]
  exact ab (.a 1 I<|.k [8] I)<|ao<|⟨_,_,az.of I,ay.pure,rfl⟩
 ·have he:(p1&& !(p2&&p3))=true:=by cases p1<;>cases p2<;>cases p3<;>first|rfl|cases hc
  rw[he,Bool.true_and]
  refine ai<|aj<|ab (.a 3 I<|.k [4,5,30] I)<|ag I (fun hc=>?_) (fun hc=>?_)
  ·have hr:e.rep=false:=by simpa using hc
   rw[hr,if_neg (by simp)]
   exact ab (.a 5 I<|.k [8] I)<|ao<|⟨_,_,az.of I,ay.pure,rfl⟩
  ·have hr:e.rep=true:=by simpa using hc
   rw[hr,if_pos rfl]
   refine ai<|aj ?_
   obtain⟨p4,hp4⟩:∃q,decide ((e.ax.length:Int)≠1)=q:=⟨_,rfl⟩
   obtain⟨p5,hp5⟩:∃q,decide (32<(e.push.length:Int))=q:=⟨_,rfl⟩
   refine bz 44 (.raw (.bool (p4||p5))) [4,5] I ?_ ?_
   ·refine .a 3 I<|.v (cf I (hp4)) I<|.a 1 I<|?_
    cases p4
    ·exact .a 3 I<|.v (cf I (hp5)) I<|.a 1 I<|.k [44,4,5] I
    ·exact .a 5 I<|.k [44,4,5] I
   refine ag I (fun hx=>?_) (fun hx=>?_)
   ·have hf:(decide ((e.ax.length:Int)=1)&&decide ((e.push.length:Int)≤32))=false:=by
     rcases Bool.or_eq_true_iff.1 hx with h|h
     ·rw[h]at hp4;rw[decide_eq_false (tt hp4)];rfl
     ·rw[h]at hp5;rw[decide_eq_false (by have:=tt hp5;omega:¬((e.push.length:Int)≤32)),Bool.and_false]
    rw[hf,Bool.false_and]
    exact ab (.a 1 I<|.k [8] I)<|ao<|⟨_,_,az.of I,ay.pure,rfl⟩
   ·obtain⟨c1,c2⟩:=Bool.or_eq_false_iff.1 hx
    rw[c1]at hp4
    rw[c2]at hp5
    have hlen:e.push.length≤32:=by have:=ff hp5;omega
    rw[decide_eq_true (Classical.byContradiction (ff hp4)),decide_eq_true (by omega:(e.push.length:Int)≤32),Bool.true_and,Bool.true_and]
    refine ai<|aj<|ab (.a 4 I<|.k [4,46,47,48] I)<|au<|eH [4,46,47,48] I<|bq (fun r s=>∃k,k≤e.push.length∧r=e.push.length - k∧(e.push.take k).all (jz T)=true∧s=⟨[(4,.bb (bC T) 0),(46,cc e.push),(47,num e.push.length),(48,num k)],[]⟩) e.push.length ⟨0,by omega,by omega,by simp,rfl⟩ ?_
    rintro r s ⟨k,hk,rfl,hall,rfl⟩
    refine ab (.a 1 I<|.k [4,46,47,48,49] I)<|aj<|ag I (fun hy=>?_) (fun hy=>?_)
    ·have hlt:k<e.push.length:=by have:=tt hy;omega
     obtain⟨a,ha⟩:∃a,e.push[k]? =some a:=⟨e.push[k],by simp[hlt]⟩
     refine ai<|aj<|au<|aO<|bw (aN (k*2) I) I<|bw (eU I (gv e.push k a ha) I) I<|aw 2 I<|aE [4,10,46,47,48] I ?_
     refine ab (.a 2 I<|.c rfl (Dj T (by omega) a) I<|.a 1 I<|.k [4,46,47,48,55] I)<|dI [] (.c 4<|.c 46<|.c 47<|.c 48<|.c 55 .nil) .nil rfl rfl ?_
     refine ag I (fun hz=>?_) (fun hz=>?_)
     ·rw[Ku _ _ k a ha (by simpa using hz)]
      exact ab (.a 1 I<|.k [8] I)<|ao<|⟨_,_,az.of I,ay.pure,rfl⟩
     ·have hz':jz T a=true:=by simpa using hz
      refine ai<|aC (.v (aU I) I<|.a 1 I<|.k [4,46,47,48] I) ?_
      exact⟨e.push.length - (k+1),by omega,k+1,by omega,rfl,by rw[Ki _ _ k a ha,hall,hz'];rfl,rfl⟩
    ·have hke:k=e.push.length:=by have:=ff hy;omega
     subst hke
     rw[List.take_length]at hall
     rw[hall]
     exact bd<|ab (.a 1 I<|.k [8] I)<|ao<|⟨_,_,az.of I,ay.pure,rfl⟩
theorem mW(l:List i6)(k:Nat)(e:i6)(h:l[k]? =some e):l.getD k I9=e:=by rw[List.getD_eq_getElem?_getD,h];rfl
theorem jO{T:ak}{n:Int}{l:List i6}{k:Nat}{e:i6}(h:l[k]? =some e)(hf:gA T n k e=false):nG T n l=false:=decide_eq_false fun ha=>by
 have:=ha k (List.getElem?_eq_some_iff.1 h).1
 rw[mW l k e h,hf]at this
 cases this
theorem ib{T:ak}{n:Int}{l:List i6}(h:∀(k:Nat) e,l[k]? =some e→gA T n k e=true):nG T n l=true:=decide_eq_true fun d hd=>by
 have he:l[d]? =some l[d]:=by simp[hd]
 rw[mW l d _ he]
 exact h d _ he
theorem sK(T:ak)(x:de):Can Tryz.prog 99 [aP T,fw x] (· =flag (cT T x)):=by
 refine kW fun⟨E,w,vs,hR⟩=>?_
 obtain⟨v,_,hvv⟩:=hR.get (i:=1) I
 have hm:=(An hvv).1
 unfold maxLen at hm
 obtain⟨p1,hp1⟩:∃q,aq T=q:=⟨_,rfl⟩
 obtain⟨p2,hp2⟩:∃q,bu T x.node=q:=⟨_,rfl⟩
 obtain⟨p3,hp3⟩:∃q,decide ((x.dr.length:Int)≠T.nodes)=q:=⟨_,rfl⟩
 obtain⟨p4,hp4⟩:∃q,eC T x.node x.down=q:=⟨_,rfl⟩
 have he:decide ((x.dr.length:Int)=T.nodes)= !p3 :=by rw[←hp3];simp
 unfold cT
 rw[hp1,hp2,he,hp4]
 refine aH Tryz.func99 I Tryz.ntmps99 I<|ab (.a 3 I<|.k [2,3] I)<|aj<|bz 33 (.raw (.bool ((((!p1)|| !p2)||p3)|| !p4))) [2,3] I ?_ ?_
 ·refine .a 1 I<|.c rfl (hp1▸eJ T) I<|.a 2 I<|?_
  cases p1
  ·exact .a 23 I<|.k [33,2,3] I
  ·refine .a 3 I<|.c rfl (hp2▸dJ T x.node) I<|.a 3 I<|?_
   cases p2
   ·exact .a 16 I<|.k [33,2,3] I
   ·refine .a 5 I<|.v (cf I (hp3)) I<|.a 2 I<|?_
    cases p3
    ·exact .a 5 I<|.c rfl (hp4▸oL T hp1 x.node x.down) I<|.a 2 I<|.k [33,2,3] I
    ·exact .a 8 I<|.k [33,2,3] I
 refine ag I (fun hc=>?_) (fun hc=>?_)
 ·have hf:(p1&&p2&& !p3 &&p4)=false:=by cases p1<;>cases p2<;>cases p3<;>cases p4<;>first|rfl|cases hc
  rw[hf,Bool.false_and]
  exact ab (.a 1 I<|.k [4] I)<|ao<|⟨_,_,az.of I,ay.pure,rfl⟩
 ·have hf:(p1&&p2&& !p3 &&p4)=true:=by cases p1<;>cases p2<;>cases p3<;>cases p4<;>first|rfl|cases hc
  rw[hf,Bool.true_and]
  have e1:p1=true:=by cases p1<;>simp_all
  rw[e1]at hp1
  refine ai<|aj<|ab (.a 4 I<|.k [2,3,35,36,37] I)<|au<|eH [2,3,35,36,37] I<|bq (fun r s=>∃k,k≤x.dr.length∧r=x.dr.length - k∧(∀(i:Nat) e,i<k→x.dr[i]? =some e→gA T x.node i e=true)∧s=⟨[(2,.bb (bC T) 0),(3,.bb (eL x) 0),(35,iv x.dr),(36,num x.dr.length),(37,num k)],[]⟩) x.dr.length ⟨0,by omega,by omega,fun i e hi=>by omega,rfl⟩ ?_
  rintro r s ⟨k,hk,rfl,hall,rfl⟩
  refine ab (.a 1 I<|.k [2,3,35,36,37,38] I)<|aj<|ag I (fun hy=>?_) (fun hy=>?_)
  ·have hlt:k<x.dr.length:=by have:=tt hy;omega
   obtain⟨e,hek⟩:∃a,x.dr[k]? =some a:=⟨x.dr[k],by simp[hlt]⟩
   refine ai<|aj<|au<|aO<|aw 1 I<|bw (aN (k*3) I) I<|bw (eU I (jg x.dr k e hek) I) I<|aw 3 I<|aE [2,3,5,6,35,36,37] I ?_
   refine ab (.a 5 I<|.c rfl (zi T hp1 e x.node k) I<|.a 1 I<|.k [2,3,35,36,37,48] I)<|dI [] (.c 2<|.c 3<|.c 35<|.c 36<|.c 37<|.c 48 .nil) .nil rfl rfl ?_
   refine ag I (fun hz=>?_) (fun hz=>?_)
   ·rw[jO hek (by simpa using hz)]
    exact ab (.a 1 I<|.k [4] I)<|ao<|⟨_,_,az.of I,ay.pure,rfl⟩
   ·have hz':gA T x.node k e=true:=by simpa using hz
    refine ai<|aC (.v (aU I) I<|.a 1 I<|.k [2,3,35,36,37] I) ?_
    refine⟨x.dr.length - (k+1),by omega,k+1,by omega,rfl,fun i e' hi he'=>?_,rfl⟩
    by_cases h:i=k
    ·subst h;rw[hek]at he';cases he';exact hz'
    ·exact hall i e' (by omega) he'
  ·have hke:k=x.dr.length:=by have:=ff hy;omega
   rw[ib fun i e hi=>hall i e (by have:=(List.getElem?_eq_some_iff.1 hi).1;omega) hi]
   exact bd<|ab (.a 1 I<|.k [4] I)<|ao<|⟨_,_,az.of I,ay.pure,rfl⟩
set_option maxHeartbeats 2000000 in
theorem qd(T:ak)(x:de):Can Tryz.prog 167 [aP T,fw x] (· =flag (cT T x)):=by
 refine kW fun⟨E,w,vs,hR⟩=>?_
 obtain⟨v,_,hvv⟩:=hR.get (i:=1) I
 have hm:=(An hvv).1
 unfold maxLen at hm
 obtain⟨p1,hp1⟩:∃q,aq T=q:=⟨_,rfl⟩
 obtain⟨p2,hp2⟩:∃q,decide (x.node<0)=q:=⟨_,rfl⟩
 obtain⟨p5,hp5⟩:∃q,decide (T.nodes≤x.node)=q:=⟨_,rfl⟩
 obtain⟨p3,hp3⟩:∃q,decide ((x.dr.length:Int)≠T.nodes)=q:=⟨_,rfl⟩
 obtain⟨p4,hp4⟩:∃q,eC T x.node x.down=q:=⟨_,rfl⟩
 have he:decide ((x.dr.length:Int)=T.nodes)= !p3 :=by rw[←hp3];simp
 have hn:bu T x.node=((!p2)&& !p5):=by rw[←hp2,←hp5,←decide_not,←decide_not,←Bool.decide_and];unfold bu;exact decide_eq_decide.2 (by omega)
 unfold cT
 rw[hp1,hn,he,hp4]
 refine aH Tryz.func167 I Tryz.ntmps167 I<|ab (.a 3 I<|.k [2,3] I)<|aj<|bz 39 (.raw (.bool (((((!p1)||p2)||p5)||p3)|| !p4))) [2,3] I ?_ ?_
 ·refine .a 1 I<|.c rfl (hp1▸fe T) I<|.a 2 I<|?_
  cases p1
  ·exact .a 28 I<|.k [39,2,3] I
  ·refine .a 2 I<|.v (cf I (hp2)) I<|.a 2 I<|?_
   cases p2
   ·refine .a 4 I<|.v (cf I (hp5)) I<|.a 2 I<|?_
    cases p5
    ·refine .a 5 I<|.v (cf I (hp3)) I<|.a 2 I<|?_
     cases p3
     ·exact .a 5 I<|.c rfl (hp4▸nS T hp1 x.node (by have:=ff hp2;omega) x.down) I<|.a 2 I<|.k [39,2,3] I
     ·exact .a 8 I<|.k [39,2,3] I
    ·exact .a 16 I<|.k [39,2,3] I
   ·exact .a 23 I<|.k [39,2,3] I
 refine ag I (fun hc=>?_) (fun hc=>?_)
 ·have hf:(p1&&((!p2)&& !p5)&& !p3 &&p4)=false:=by cases p1<;>cases p2<;>cases p5<;>cases p3<;>cases p4<;>first|rfl|cases hc
  rw[hf,Bool.false_and]
  exact ab (.a 1 I<|.k [4] I)<|ao<|⟨_,_,az.of I,ay.pure,rfl⟩
 ·have hf:(p1&&((!p2)&& !p5)&& !p3 &&p4)=true:=by cases p1<;>cases p2<;>cases p5<;>cases p3<;>cases p4<;>first|rfl|cases hc
  rw[hf,Bool.true_and]
  have e1:p1=true:=by cases p1<;>simp_all
  have e2:p2=false:=by cases p2<;>simp_all
  rw[e1]at hp1
  rw[e2]at hp2
  have hn0:0≤x.node:=by have:=ff hp2;omega
  refine ai<|aj<|ab (.a 1 I<|.k [2,3,5] I)<|au<|eH [2,3,5] I<|bq (fun r s=>∃k,k≤x.dr.length∧r=x.dr.length - k∧(∀(i:Nat) e,i<k→x.dr[i]? =some e→gA T x.node i e=true)∧s=⟨[(2,.bb (bC T) 0),(3,.bb (eL x) 0),(5,num k)],[]⟩) x.dr.length ⟨0,by omega,by omega,fun i e hi=>by omega,rfl⟩ ?_
  rintro r s ⟨k,hk,rfl,hall,rfl⟩
  refine aj<|ab (.a 5 I<|.k [2,3,5,44] I)<|ag I (fun hy=>?_) (fun hy=>?_)
  ·have hlt:k<x.dr.length:=by have:=tt hy;omega
   obtain⟨e,hek⟩:∃a,x.dr[k]? =some a:=⟨x.dr[k],by simp[hlt]⟩
   obtain⟨q1,g1⟩:∃q,eC T x.node e.ax=q:=⟨_,rfl⟩
   obtain⟨q2,g2⟩:∃q,decide ((k:Int)=x.node)=q:=⟨_,rfl⟩
   obtain⟨q3,g3⟩:∃q,decide (0<(e.ax.length:Int))=q:=⟨_,rfl⟩
   obtain⟨q4,g4⟩:∃q,e.rep=q:=⟨_,rfl⟩
   obtain⟨q5,g5⟩:∃q,decide (0<(e.push.length:Int))=q:=⟨_,rfl⟩
   obtain⟨q6,g6⟩:∃q,decide ((e.ax.length:Int)≠1)=q:=⟨_,rfl⟩
   obtain⟨q7,g7⟩:∃q,decide (32<(e.push.length:Int))=q:=⟨_,rfl⟩
   have hOK:gA T x.node k e=((q1&& !(q2&&q3))&&(if q4 then(!q6 && !q7)&&e.push.all (jz T) else !q5)):=by
    unfold gA
    rw[g1,g2,g3,g4,←g5,←g6,←g7,←decide_not,←decide_not,←decide_not]
    congr 2
    ·congr 2
     ·exact decide_eq_decide.2 (by omega)
     ·exact decide_eq_decide.2 (by omega)
    ·exact decide_eq_decide.2 (by omega)
   refine ai<|aj<|au<|aO<|aw 3 I<|bw (aN (k*3) I) I<|bw (eU I (jg x.dr k e hek) I) I<|aw 2 I<|aE [2,3,5,6] I ?_
   refine fP 6 0 0 I I ?_
   refine dI [] (.c 2<|.c 3<|.c 5<|.c 6 .nil) .nil rfl rfl ?_
   refine aj<|bz 81 (.raw (.bool (((!q1)||(q2&&q3))||((!q4)&&q5)))) [2,3,5,6] I ?_ ?_
   ·refine .a 5 I<|.c rfl (g1▸nS T hp1 x.node hn0 e.ax) I<|.a 2 I<|?_
    cases q1
    ·exact .a 22 I<|.k [81,2,3,5,6] I
    ·refine .a 3 I<|.v (cf I (g2)) I<|.a 1 I<|?_
     cases q2
     ·refine .a 8 I<|.v (aJ I (show some (flag e.rep)=some (flag q4) by rw[g4])) I<|.a 2 I<|?_
      cases q4
      ·exact .a 3 I<|.v (cf I (g5)) I<|.a 2 I<|.k [81,2,3,5,6] I
      ·exact .a 6 I<|.k [81,2,3,5,6] I
     ·refine .a 3 I<|.v (cf I (g3)) I<|.a 3 I<|?_
      cases q3
      ·refine .a 1 I<|.v (aJ I (show some (flag e.rep)=some (flag q4) by rw[g4])) I<|.a 2 I<|?_
       cases q4
       ·exact .a 3 I<|.v (cf I (g5)) I<|.a 2 I<|.k [81,2,3,5,6] I
       ·exact .a 6 I<|.k [81,2,3,5,6] I
      ·exact .a 10 I<|.k [81,2,3,5,6] I
   refine ag I (fun hz=>?_) (fun hz=>?_)
   ·rw[jO hek (by rw[hOK];revert hz;cases q1<;>cases q2<;>cases q3<;>cases q4<;>cases q5<;>intro hz<;>first|rfl|(simp;done)|cases hz)]
    exact ab (.a 1 I<|.k [4] I)<|ao<|⟨_,_,az.of I,ay.pure,rfl⟩
   ·skip
    refine ai<|aj<|bz 95 (.raw (.bool (q4&&(q6||q7)))) [2,3,5,6] I ?_ ?_
    ·refine .a 1 I<|.v (aJ I (show some (flag e.rep)=some (flag q4) by rw[g4])) I<|.a 1 I<|?_
     cases q4
     ·exact .a 11 I<|.k [95,2,3,5,6] I
     ·refine .a 3 I<|.v (cf I (g6)) I<|.a 1 I<|?_
      cases q6
      ·exact .a 3 I<|.v (cf I (g7)) I<|.a 2 I<|.k [95,2,3,5,6] I
      ·exact .a 6 I<|.k [95,2,3,5,6] I
    refine ag I (fun hz2=>?_) (fun hz2=>?_)
    ·rw[jO hek (by rw[hOK];revert hz2;cases q4<;>cases q6<;>cases q7<;>intro hz2<;>first|rfl|(simp;done)|cases hz2)]
     exact ab (.a 1 I<|.k [4] I)<|ao<|⟨_,_,az.of I,ay.pure,rfl⟩
    ·have hpl:e.push.length≤32∨e.push=[]:=by
      cases q4
      ·right
       have:q5=false:=by cases q5<;>simp_all
       subst this
       have:=ff g5
       exact List.eq_nil_of_length_eq_zero (by omega)
      ·left
       have:q7=false:=by cases q7<;>simp_all
       subst this
       have:=ff g7
       omega
     have hpl':e.push.length≤32:=by rcases hpl with h|h;exact h;rw[h];simp
     have hfin:e.push.all (jz T)=true→gA T x.node k e=true:=fun ha=>by
      rw[hOK,ha]
      clear hOK g1 g2 g3 g4 g5 g6 g7 hpl hpl' hall
      revert hz hz2
      cases q1<;>cases q2<;>cases q3<;>cases q4<;>cases q5<;>cases q6<;>cases q7<;>intro hz hz2<;>first|rfl|(cases hz;done)|(cases hz2;done)
     have hfail:e.push.all (jz T)=false→gA T x.node k e=false:=fun ha=>by
      rcases hpl with h|h
      ·rw[hOK,ha]
       cases q4
       ·have:q5=true:=by
         cases q5
         ·have:=ff g5
          have h0:=List.eq_nil_of_length_eq_zero (by omega:e.push.length=0)
          rw[h0]at ha;cases ha
         ·rfl
        subst this
        simp
       ·simp
      ·rw[h]at ha;cases ha
     refine ai<|ab (.a 1 I<|.k [2,3,5,6,7] I)<|au<|eH [2,3,5,6,7] I<|bq (fun r s=>∃j,j≤e.push.length∧r=e.push.length - j∧(e.push.take j).all (jz T)=true∧s=⟨[(2,.bb (bC T) 0),(3,.bb (eL x) 0),(5,num k),(6,.bb (gF e) 0),(7,num j)],[]⟩) e.push.length ⟨0,by omega,by omega,by simp,rfl⟩ ?_
     rintro r s ⟨j,hj,rfl,hpall,rfl⟩
     refine aj<|ab (.a 5 I<|.k [2,3,5,6,7,100] I)<|ag I (fun hw=>?_) (fun hw=>?_)
     ·have hlt2:j<e.push.length:=by have:=tt hw;omega
      obtain⟨a,ha⟩:∃a,e.push[j]? =some a:=⟨e.push[j],by simp[hlt2]⟩
      refine ai<|aj<|au<|ep mixed (by kernel_rfl) (.a 4 I<|.v [105,106] (aN (j*2) I) I I<|.v [107] (eU I (gv e.push j a ha) I) I I<|.v [103,108] (dU I (FO T hp1 a)) I I<|.a 1 I<|.k [2,3,5,6,7,110] I) ?_
      refine ag I (fun hs=>?_) (fun hs=>?_)
      ·rw[jO hek (hfail (Ku _ _ j a ha (by simpa using hs)))]
       exact ab (.a 1 I<|.k [4] I)<|ao<|⟨_,_,az.of I,ay.pure,rfl⟩
      ·have hs':jz T a=true:=by simpa using hs
       refine ai<|aC (.a 1 I<|.v (aU I) I<|.a 1 I<|.k [2,3,5,6,7] I) ?_
       exact⟨e.push.length - (j+1),by omega,j+1,by omega,rfl,by rw[Ki _ _ j a ha,hpall,hs'];rfl,rfl⟩
     ·have hje:j=e.push.length:=by have:=ff hw;omega
      subst hje
      rw[List.take_length]at hpall
      have hyes:=hfin hpall
      refine bd<|aC (.a 1 I<|.v (aU I) I<|.a 1 I<|.k [2,3,5] I) ?_
      refine⟨x.dr.length - (k+1),by omega,k+1,by omega,rfl,fun i e' hi he'=>?_,rfl⟩
      by_cases h:i=k
      ·subst h;rw[hek]at he';cases he';exact hyes
      ·exact hall i e' (by omega) he'
  ·have hke:k=x.dr.length:=by have:=ff hy;omega
   rw[ib fun i e hi=>hall i e (by have:=(List.getElem?_eq_some_iff.1 hi).1;omega) hi]
   exact bd<|ab (.a 1 I<|.k [4] I)<|ao<|⟨_,_,az.of I,ay.pure,rfl⟩
theorem lP(T:ak)(n:Int):(bP T n).Pairwise (· < ·):=by
 unfold bP iW
 refine List.Pairwise.map _ (fun a b h=>?_) ((List.pairwise_lt_range (n:=2*T.ae.length)).filter _)
 show(a:Int)<(b:Int)
 omega
theorem jB{T:ak}{n:Int}{a:Int}:a∈bP T n↔eQ T a=true∧bm T a.toNat=n:=by
 unfold bP iW
 rw[List.mem_map,cW]
 constructor
 ·rintro⟨b,hb,rfl⟩
  obtain⟨h1,h2⟩:=List.mem_filter.1 hb
  have:=List.mem_range.1 h1
  refine⟨⟨by simp,by simp;omega⟩,by simpa using h2⟩
 ·rintro⟨⟨h0,h1⟩,h2⟩
  refine⟨a.toNat,List.mem_filter.2 ⟨List.mem_range.2 (by omega),by simpa using h2⟩,by simp;omega⟩
theorem sG{T:ak}{n:Int}{L:List Int}(hs:L.Pairwise (· < ·))(hm:∀a∈L,eQ T a=true∧bm T a.toNat=n):eC T n L=true:=decide_eq_true fun i hi=>by
 have h1:=hm _ (cr (d:=0) hi)
 refine⟨h1.1,h1.2,fun h0=>?_⟩
 have:=List.pairwise_iff_getElem.1 hs (i - 1) i (by omega) hi (by omega)
 rw[List.getD_eq_getElem?_getD,List.getD_eq_getElem?_getD,List.getElem?_eq_getElem hi,List.getElem?_eq_getElem (by omega:i - 1<L.length)]
 exact this
theorem mD(T:ak)(n:Int)(p:Int→Bool):eC T n ((bP T n).filter p)=true:=sG ((lP T n).filter p) fun _ ha=>jB.1 (List.mem_filter.1 ha).1
theorem q9(T:ak)(D:List Bool)(n d:Nat):eC T n (bH T D n d)=true:=by
 unfold bH
 split
 ·exact decide_eq_true fun i hi=>by simp at hi
 ·exact mD T n _
theorem jl(T:ak)(D:List Bool)(n:Nat):bH T D n n=[]:=by unfold bH;rw[if_pos (.inl rfl)]
theorem jd{T:ak}{D:List Bool}(hv:aq T=true){n:Nat}(hn:(n:Int)<T.nodes):cT T (dO T D n)=true:=by
 unfold cT dO
 have h1:bu T (n:Int)=true:=aT.2 ⟨by omega,hn⟩
 have hN:=(aM hv).nodes
 have h2:decide (((oT T D n T.nodes.toNat).length:Int)=T.nodes)=true:=decide_eq_true (by rw[uQ];omega)
 have h3:eC T n (cQ D (bP T n))=true:=mD T n _
 have h4:nG T n (oT T D n T.nodes.toNat)=true:=ib fun d e he=>by
  unfold oT at he
  rw[List.getElem?_map,Option.map_eq_some_iff]at he
  obtain⟨d',hd',rfl⟩:=he
  have hd:d'=d:=by
   have:=List.getElem?_eq_some_iff.1 hd'
   obtain⟨h,h'⟩:=this
   simpa using h'.symm
  subst hd
  unfold gA
  simp only[q9,Bool.true_and]
  by_cases hdn:d'=n
  ·subst hdn;rw[jl];simp
  ·rw[decide_eq_false (by omega)];simp
 rw[hv,h1,h2,h3,h4]
 rfl
theorem oJ{T:ak}{D:List Bool}(hv:aq T=true){d x:Nat}(hd:(d:Int)<T.nodes)(hx:(x:Int)<T.nodes):(bG T D d false).getD x 0=at' (bG T D d false) (x:Int):=by
 have hl:=(dv (D:=D) hv (dir:=false) hd).1
 unfold at'
 rw[Int.toNat_natCast,List.getD_eq_getElem?_getD,List.getD_eq_getElem?_getD,List.getElem?_eq_getElem (by omega)]
 rfl
structure jo (T:ak) (D:List Bool) (n d a:Nat):Prop where
 fu:a<2*T.ae.length
 tail:bm T a=(n:Int)
 up:aQ D a=false
 ne:n≠d
 reach:0≤(bG T D d false).getD (aS T a).toNat 0
 pass:aS T a=(d:Int)∨dp T (aS T a).toNat=false
 sum:(bG T D d false).getD n 0=(bG T D d false).getD (aS T a).toNat 0+cp T a
theorem cX{T:ak}{D:List Bool}{n d:Nat}{a:Int}(h:a∈bH T D n d):∃k:Nat,a=k∧jo T D n d k:=by
 unfold bH at h
 split at h
 ·simp at h
 ·rename_i hne
  obtain⟨h1,h2⟩:=List.mem_filter.1 h
  obtain⟨h3,h4⟩:=jB.1 h1
  obtain⟨h5,h6⟩:=cW.1 h3
  obtain⟨k,rfl⟩:=Int.eq_ofNat_of_zero_le h5
  rw[Int.toNat_natCast]at h2 h4
  unfold iF at h2
  simp only[Bool.and_eq_true,Bool.not_eq_true',Bool.or_eq_false_iff,decide_eq_true_eq,decide_eq_false_iff_not]at h2
  obtain⟨⟨⟨g1,g2⟩,g3⟩,g4⟩:=h2
  refine⟨k,rfl,by omega,h4,g1,fun e=>hne (.inl e),by omega,?_,by omega⟩
  rcases Bool.and_eq_false_iff.1 g3 with g|g
  ·exact .inl (Classical.byContradiction (ff g))
  ·exact .inr g
theorem fC{T:ak}{D:List Bool}{n d k:Nat}(h:jo T D n d k)(hc:1≤cp T k):(k:Int)∈bH T D n d:=by
 have hs:=h.sum
 have hr:=h.reach
 unfold bH
 rw[if_neg (by rintro(e|e);exact h.ne e;omega)]
 refine List.mem_filter.2 ⟨jB.2 ⟨cW.2 ⟨by omega,by have:=h.fu;omega⟩,h.tail⟩,?_⟩
 unfold iF
 rw[Int.toNat_natCast]
 simp only[Bool.and_eq_true,Bool.not_eq_true',Bool.or_eq_false_iff,decide_eq_true_eq,decide_eq_false_iff_not]
 refine⟨⟨⟨h.up,by omega⟩,?_⟩,by omega⟩
 rcases h.pass with g|g
 ·rw[decide_eq_false (by simpa using g)];rfl
 ·rw[g,Bool.and_false]
theorem jN{T:ak}{D:List Bool}(hv:aq T=true){n d:Nat}(hn:(n:Int)<T.nodes)(hd:(d:Int)<T.nodes)(hne:n≠d)(h0:0≤(bG T D d false).getD n 0):∃k,jo T D n d k:=by
 have hS:=aM hv
 have hI:=jF hS D false hd
 have e1:=oJ (D:=D) hv hd hn
 rcases hI.nm n hn (by rw[←e1];exact h0)with h|⟨a,ha,hx,⟨w1,w2,w3⟩,hs⟩
 ·exact absurd h hne
 ·have hh:=hS.head a ha
  obtain⟨y,hy⟩:=Int.eq_ofNat_of_zero_le hh.1
  have e2:=oJ (D:=D) hv hd (x:=y) (by omega)
  simp only[fL,cY,Bool.false_eq_true,if_false]at hx w2 w3 hs
  rw[hy]at w2 w3 hs
  refine⟨a,ha,hx,w1,hne,?_,?_,?_⟩
  ·rw[hy,Int.toNat_natCast,e2];exact w2
  ·rw[hy];exact w3
  ·rw[hy,Int.toNat_natCast,e1,e2];exact hs
theorem C1{T:ak}{D:List Bool}(hv:aq T=true){d:Nat}(hd:(d:Int)<T.nodes):(bG T D d false).getD d 0=0:=by
 rw[oJ hv hd hd]
 exact(jF (aM hv) D false hd).root
noncomputable def dN(T:ak)(D:List Bool)(d x:Nat):Int:=(bG T D d false).getD x 0
def dw(T:ak)(p:List Int):Int:=p.foldr (fun a c=>cp T a.toNat+c) 0
theorem ke(T:ak):dw T []=0:=rfl
theorem gd(T:ak)(a:Int)(p:List Int):dw T (a::p)=cp T a.toNat+dw T p:=rfl
theorem gM(T:ak)(p q:List Int):dw T (p++q)=dw T p+dw T q:=by
 induction p with
 |nil=>simp[ke]
 |cons a p ih=>rw[List.cons_append,gd,gd,ih];omega
inductive SP (T:ak) (D:List Bool) (d:Nat):Nat→List Int→Prop
 |nil:SP T D d d []
 |cons {n a m:Nat} {p:List Int}:jo T D n d a→aS T a=(m:Int)→SP T D d m p→SP T D d n ((a:Int)::p)
inductive Ch (T:ak) (D:List Bool) (d:Nat):Nat→List Int→Prop
 |nil:Ch T D d d []
 |cons {n a m:Nat} {p:List Int}:a<2*T.ae.length→bm T a=(n:Int)→aQ D a=false→aS T a=(m:Int)→(p=[]∨dp T m=false)→Ch T D d m p→Ch T D d n ((a:Int)::p)
theorem rU:∀(N:Nat) (l:List Nat),l.Nodup→(∀x∈l,x<N)→l.length≤N
 |0,l,_,h=>by
  cases l with
  |nil=>simp
  |cons a l=>have:=h a (by simp);omega
 |N+1,l,hn,h=>by
  have h1:=rU N (l.erase N) (hn.erase N) (fun x hx=>by
   have h2:=(List.Nodup.mem_erase_iff hn).1 hx
   have:=h x h2.2
   have:=h2.1
   omega)
  rw[List.length_erase]at h1
  split at h1<;>omega
section
variable {T:ak} {D:List Bool} {d:Nat}
theorem dT(hv:aq T=true){a:Nat}(ha:a<2*T.ae.length):∃m:Nat,aS T a=(m:Int)∧(m:Int)<T.nodes:=by
 obtain⟨h0,h1⟩:=(aM hv).head a ha
 obtain⟨m,hm⟩:=Int.eq_ofNat_of_zero_le h0
 exact⟨m,hm,by rw[←hm];exact h1⟩
theorem kR(hv:aq T=true)(hd:(d:Int)<T.nodes):dN T D d d=0:=C1 hv hd
theorem ID(hv:aq T=true)(hd:(d:Int)<T.nodes){x:Nat}(hx:(x:Int)<T.nodes): -1≤dN T D d x∧dN T D d x≤4194240:=by
 obtain⟨h1,h2⟩:=dv (D:=D) hv (dir:=false) hd
 exact h2 _ (cr (by omega))
theorem jo.dN{n a m:Nat}(h:jo T D n d a)(hm:aS T a=(m:Int)):0≤dN T D d m∧dN T D d n=dN T D d m+cp T a:=by
 have h1:=h.reach
 have h2:=h.sum
 rw[hm,Int.toNat_natCast]at h1 h2
 exact⟨h1,h2⟩
theorem jo.node(hv:aq T=true){n a:Nat}(h:jo T D n d a):(n:Int)<T.nodes:=by rw[←h.tail];exact((aM hv).tail a h.fu).2
theorem SP.node(hv:aq T=true)(hd:(d:Int)<T.nodes){n:Nat}{p:List Int}(h:SP T D d n p):(n:Int)<T.nodes:=by
 cases h with
 |nil=>exact hd
 |cons h1 _ _=>exact h1.node hv
theorem SP.cost(hv:aq T=true)(hd:(d:Int)<T.nodes){n:Nat}{p:List Int}(h:SP T D d n p):dN T D d n=dw T p∧0≤dN T D d n:=by
 induction h with
 |nil=>rw[kR hv hd];exact⟨rfl,Int.le_refl _⟩
 |cons h1 hm _ ih=>
  obtain⟨g1,g2⟩:=h1.dN hm
  have:=(aM hv).cost _ h1.fu
  rw[gd,Int.toNat_natCast]
  omega
theorem SP.self{p:List Int}(h:SP T D d d p):p=[]:=by
 cases h with
 |nil=>rfl
 |cons h1 _ _=>exact absurd rfl h1.ne
theorem SP.len(hv:aq T=true)(hd:(d:Int)<T.nodes){n:Nat}{p:List Int}(h:SP T D d n p):(p.length:Int)≤dN T D d n:=by
 induction h with
 |nil=>rw[kR hv hd];simp
 |cons h1 hm _ ih=>
  obtain⟨g1,g2⟩:=h1.dN hm
  have:=(aM hv).cost _ h1.fu
  simp only[List.length_cons]
  omega
theorem SP.ch{n:Nat}{p:List Int}(h:SP T D d n p):Ch T D d n p:=by
 induction h with
 |nil=>exact .nil
 | @cons n a m p h1 hm hp ih=>
  refine .cons h1.fu h1.tail h1.up hm ?_ ih
  rcases h1.pass with hx|hx
  ·have:m=d:=by rw[hm]at hx;omega
   subst this
   exact .inl hp.self
  ·rw[hm,Int.toNat_natCast]at hx;exact .inr hx
theorem Ff(hv:aq T=true)(hd:(d:Int)<T.nodes){n a m:Nat}(ha:a<2*T.ae.length)(ht:bm T a=(n:Int))(hu:aQ D a=false)(hm:aS T a=(m:Int))(ho:m=d∨dp T m=false)(h0:0≤dN T D d m):0≤dN T D d n∧dN T D d n≤dN T D d m+cp T a:=by
 have hS:=aM hv
 have hI:=jF hS D false hd
 have hmN:(m:Int)<T.nodes:=by rw[←hm];exact(hS.head a ha).2
 have hnN:(n:Int)<T.nodes:=by rw[←ht];exact(hS.tail a ha).2
 have e1:=oJ (D:=D) hv hd hnN
 have e2:=oJ (D:=D) hv hd hmN
 have:=hI.closed a ha ⟨hu,by simp only[cY,Bool.false_eq_true,if_false];rw[hm,←e2];exact h0,by
  simp only[cY,Bool.false_eq_true,if_false];rw[hm]
  rcases ho with h|h
  ·exact .inl (by rw[h])
  ·exact .inr (by simpa using h)⟩
 simp only[fL,cY,Bool.false_eq_true,if_false]at this
 rw[hm,ht,←e1,←e2]at this
 exact this
theorem Ch.node(hv:aq T=true)(hd:(d:Int)<T.nodes){n:Nat}{p:List Int}(h:Ch T D d n p):(n:Int)<T.nodes:=by
 cases h with
 |nil=>exact hd
 |cons h1 ht _ _ _ _=>rw[←ht];exact((aM hv).tail _ h1).2
theorem Ch.to{n:Nat}{p:List Int}(h:Ch T D d n p):p=[]→n=d:=by
 cases h with
 |nil=>intro _;rfl
 |cons=>intro h;cases h
theorem Ch.le(hv:aq T=true)(hd:(d:Int)<T.nodes){n:Nat}{p:List Int}(h:Ch T D d n p):0≤dN T D d n∧dN T D d n≤dw T p:=by
 induction h with
 |nil=>rw[kR hv hd];exact⟨Int.le_refl _,Int.le_refl _⟩
 | @cons n a m p ha ht hu hm ho hp ih=>
  have:=Ff hv hd ha ht hu hm (by rcases ho with h|h;exact .inl (hp.to h);exact .inr h) ih.1
  rw[gd,Int.toNat_natCast]
  omega
theorem Ch.sp(hv:aq T=true)(hd:(d:Int)<T.nodes){n:Nat}{p:List Int}(h:Ch T D d n p)(hc:dN T D d n=dw T p):SP T D d n p:=by
 induction h with
 |nil=>exact .nil
 | @cons n a m p ha ht hu hm ho hp ih=>
  have ho':m=d∨dp T m=false:=by rcases ho with h|h;exact .inl (hp.to h);exact .inr h
  have h1:=hp.le hv hd
  have h2:=Ff hv hd ha ht hu hm ho' h1.1
  rw[gd,Int.toNat_natCast]at hc
  have h3:=(aM hv).cost a ha
  refine .cons ⟨ha,ht,hu,?_,?_,?_,?_⟩ hm (ih (by omega))
  ·rintro rfl;rw[kR hv hd]at hc h2;omega
  ·rw[hm,Int.toNat_natCast];exact h1.1
  ·rw[hm];rcases ho' with h|h;exact .inl (by rw[h]);exact .inr (by simpa using h)
  ·rw[hm,Int.toNat_natCast];show dN T D d n=dN T D d m+cp T a;omega
noncomputable def fJ(T:ak)(D:List Bool)(d:Nat):Nat→Nat→List Int
 |0,_=>[]
 |f+1,n=>match bH T D n d with
  | []=>[]
  |a::_=>a::fJ T D d f (aS T a.toNat).toNat
noncomputable def cA(T:ak)(D:List Bool)(n d:Nat):List Int:=fJ T D d (dN T D d n).toNat n
theorem rM{n:Nat}(h:dN T D d n<0):bH T D n d=[]:=by unfold bH;rw[if_pos (.inr h)]
theorem wY(hv:aq T=true)(hd:(d:Int)<T.nodes):∀(f n:Nat),(n:Int)<T.nodes→0≤dN T D d n→dN T D d n≤f→SP T D d n (fJ T D d f n)
 |f,n,hn,h0,hf=>by
  by_cases hne:n=d
  ·subst hne
   have:fJ T D n f n=[]:=by cases f with|zero=>rfl|succ f=>simp only[fJ,jl]
   rw[this];exact .nil
  ·obtain⟨k,hk⟩:=jN (D:=D) hv hn hd hne h0
   cases f with
   |zero=>
    obtain⟨m,hm,_⟩:=dT hv hk.fu
    have:=hk.dN hm
    have:=(aM hv).cost k hk.fu
    omega
   |succ f=>
    simp only[fJ]
    have hmem:=fC hk ((aM hv).cost k hk.fu).1
    cases hx:bH T D n d with
    |nil=>rw[hx]at hmem;cases hmem
    |cons a l=>
     obtain⟨b,hb,hbn⟩:=cX (T:=T) (D:=D) (n:=n) (d:=d) (a:=a) (by rw[hx];simp)
     subst hb
     obtain⟨m,hm,hmN⟩:=dT hv hbn.fu
     have g:=hbn.dN hm
     have:=(aM hv).cost b hbn.fu
     simp only[Int.toNat_natCast,hm]
     exact .cons hbn hm (wY hv hd f m hmN g.1 (by omega))
theorem eM(hv:aq T=true)(hd:(d:Int)<T.nodes){n:Nat}(hn:(n:Int)<T.nodes)(h0:0≤dN T D d n):SP T D d n (cA T D n d):=wY hv hd _ n hn h0 (by omega)
noncomputable def nj(T:ak)(D:List Bool)(d:Nat):Nat→Nat→Int
 |0,m=>if m=d then 1 else 0
 |f+1,m=>if m=d then 1 else(bH T D m d).foldl (fun c a=>min 2 (c+nj T D d f (aS T a.toNat).toNat)) 0
noncomputable def ei(T:ak)(D:List Bool)(d m:Nat):Int:=nj T D d (dN T D d m).toNat m
theorem foldl_congr{α β:Type}{f g:α→β→α}:∀ {l:List β} {a:α},(∀a b,b∈l→f a b=g a b)→l.foldl f a=l.foldl g a
 | [],_,_=>rfl
 |b::l,a,h=>by simp only[List.foldl_cons,h a b (by simp)];exact foldl_congr fun a c hc=>h a c (by simp[hc])
theorem mV(hv:aq T=true)(hd:(d:Int)<T.nodes):∀(K m f:Nat),(m:Int)<T.nodes→dN T D d m≤K→dN T D d m≤f→nj T D d f m=ei T D d m
 |K,m,f,hmN,hK,hf=>by
  unfold ei
  by_cases hmd:m=d
  ·subst hmd
   cases f<;>cases(dN T D m m).toNat<;>simp[nj]
  ·by_cases h0:dN T D d m<0
   ·have hx:=rM h0
    rw[show(dN T D d m).toNat=0 by omega]
    cases f<;>simp[nj,hmd,hx]
   ·obtain⟨k,hk⟩:=jN (D:=D) hv hmN hd hmd (by show 0≤dN T D d m;omega)
    have hpos:0<dN T D d m:=by
     obtain⟨m',hm',_⟩:=dT hv hk.fu
     have:=hk.dN hm'
     have:=(aM hv).cost k hk.fu
     omega
    obtain⟨g,hg⟩:∃g,(dN T D d m).toNat=g+1:=⟨(dN T D d m).toNat - 1,by omega⟩
    cases f with
    |zero=>omega
    |succ f=>
     cases K with
     |zero=>omega
     |succ K=>
      rw[hg]
      simp only[nj,if_neg hmd]
      refine foldl_congr fun c a ha=>?_
      obtain⟨b,rfl,hbn⟩:=cX ha
      obtain⟨m',hm',hmN'⟩:=dT hv hbn.fu
      have g1:=hbn.dN hm'
      have g2:=(aM hv).cost b hbn.fu
      rw[Int.toNat_natCast,hm',Int.toNat_natCast,mV hv hd K m' f hmN' (by omega) (by omega),mV hv hd K m' g hmN' (by omega) (by omega)]
theorem oh(m:Nat):ei T D m m=1:=by unfold ei;cases(dN T D m m).toNat<;>simp[nj]
theorem su(hv:aq T=true)(hd:(d:Int)<T.nodes){m:Nat}(hmN:(m:Int)<T.nodes)(hmd:m≠d):ei T D d m=(bH T D m d).foldl (fun c a=>min 2 (c+ei T D d (aS T a.toNat).toNat)) 0:=by
 by_cases h0:dN T D d m<0
 ·unfold ei
  rw[rM h0,show(dN T D d m).toNat=0 by omega]
  simp[nj,hmd]
 ·have h1:=mV (D:=D) hv hd (dN T D d m).toNat m ((dN T D d m).toNat+1) hmN (by omega) (by omega)
  rw[←h1]
  simp only[nj,if_neg hmd]
  refine foldl_congr fun c a ha=>?_
  obtain⟨b,rfl,hbn⟩:=cX ha
  obtain⟨m',hm',hmN'⟩:=dT hv hbn.fu
  have g1:=hbn.dN hm'
  have g2:=(aM hv).cost b hbn.fu
  rw[Int.toNat_natCast,hm',Int.toNat_natCast,mV hv hd (dN T D d m).toNat m' _ hmN' (by omega) (by omega)]
theorem AN(hv:aq T=true)(hd:(d:Int)<T.nodes){m:Nat}(hmN:(m:Int)<T.nodes)(h0:dN T D d m<0):ei T D d m=0:=by
 have hmd:m≠d:=by rintro rfl;rw[kR hv hd]at h0;omega
 rw[su hv hd hmN hmd,rM h0];rfl
theorem oD(g:Int→Int)(hg:∀a,0≤g a):∀(l:List Int) (c:Int),0≤c→c≤2→0≤l.foldl (fun c a=>min 2 (c+g a)) c∧l.foldl (fun c a=>min 2 (c+g a)) c≤2
 | [],c,h0,h2=>⟨h0,h2⟩
 |a::l,c,h0,h2=>by
  have:=hg a
  exact oD g hg l _ (show 0≤min 2 (c+g a) by omega) (show min 2 (c+g a)≤2 by omega)
theorem rX(g:Int→Int)(hg:∀a,0≤g a):∀(l:List Int) (c:Int),c≤2→c≤l.foldl (fun c a=>min 2 (c+g a)) c
 | [],c,_=>Int.le_refl _
 |a::l,c,h2=>by
  have:=hg a
  have:=rX g hg l (min 2 (c+g a)) (by omega)
  simp only[List.foldl_cons]
  omega
theorem tS(hv:aq T=true)(hd:(d:Int)<T.nodes):∀(f m:Nat),0≤nj T D d f m∧nj T D d f m≤2
 |0,m=>by simp only[nj];split<;>omega
 |f+1,m=>by
  simp only[nj]
  split
  ·omega
  ·exact oD (fun a=>nj T D d f (aS T a.toNat).toNat) (fun a=>(tS hv hd f _).1) _ 0 (by omega) (by omega)
theorem kY(hv:aq T=true)(hd:(d:Int)<T.nodes)(m:Nat):0≤ei T D d m∧ei T D d m≤2:=tS hv hd _ m
theorem AP(hv:aq T=true)(hd:(d:Int)<T.nodes):∀(K m:Nat),(m:Int)<T.nodes→0≤dN T D d m→dN T D d m≤K→1≤ei T D d m
 |K,m,hmN,h0,hK=>by
  by_cases hmd:m=d
  ·subst hmd;rw[oh];omega
  ·obtain⟨k,hk⟩:=jN (D:=D) hv hmN hd hmd h0
   have hmem:=fC hk ((aM hv).cost k hk.fu).1
   obtain⟨m',hm',hmN'⟩:=dT hv hk.fu
   have g1:=hk.dN hm'
   have g2:=(aM hv).cost k hk.fu
   cases K with
   |zero=>omega
   |succ K=>
    have hp:=AP hv hd K m' hmN' g1.1 (by omega)
    rw[su hv hd hmN hmd]
    obtain⟨l1,l2,hl⟩:=List.append_of_mem hmem
    rw[hl,List.foldl_append,List.foldl_cons]
    have hg:∀a:Int,0≤ei T D d (aS T a.toNat).toNat:=fun a=>(kY hv hd _).1
    have a1:=oD (fun a=>ei T D d (aS T a.toNat).toNat) hg l1 0 (by omega) (by omega)
    have a2:=rX (fun a=>ei T D d (aS T a.toNat).toNat) hg l2 (min 2 (l1.foldl (fun c a=>min 2 (c+ei T D d (aS T a.toNat).toNat)) 0+ei T D d (aS T (k:Int).toNat).toNat)) (by omega)
    rw[Int.toNat_natCast,hm',Int.toNat_natCast]at a2
    rw[Int.toNat_natCast,hm',Int.toNat_natCast]
    omega
theorem uT(hv:aq T=true)(hd:(d:Int)<T.nodes){m:Nat}(hmN:(m:Int)<T.nodes)(hmd:m≠d)(h:ei T D d m=1):∃a:Nat,bH T D m d=[(a:Int)]∧jo T D m d a∧∀k:Nat,aS T a=(k:Int)→ei T D d k=1:=by
 rw[su hv hd hmN hmd]at h
 have hg:∀a:Int,0≤ei T D d (aS T a.toNat).toNat:=fun a=>(kY hv hd _).1
 have hone:∀a∈bH T D m d,1≤ei T D d (aS T a.toNat).toNat:=fun a ha=>by
  obtain⟨b,rfl,hb⟩:=cX ha
  obtain⟨m',hm',hmN'⟩:=dT hv hb.fu
  have g1:=hb.dN hm'
  rw[Int.toNat_natCast,hm',Int.toNat_natCast]
  exact AP hv hd (dN T D d m').toNat m' hmN' g1.1 (by omega)
 cases hx:bH T D m d with
 |nil=>rw[hx]at h;simp at h
 |cons a l=>
  obtain⟨b,rfl,hb⟩:=cX (T:=T) (D:=D) (n:=m) (d:=d) (a:=a) (by rw[hx];simp)
  have h1:=hone b (by rw[hx];simp)
  rw[hx,List.foldl_cons]at h
  cases l with
  |nil=>
   refine⟨b,rfl,hb,fun k hk=>?_⟩
   simp only[List.foldl_nil,Int.toNat_natCast,hk]at h h1
   omega
  |cons a2 l=>
   have h2:=hone a2 (by rw[hx];simp)
   rw[List.foldl_cons]at h
   have:=rX (fun a=>ei T D d (aS T a.toNat).toNat) hg l (min 2 (min 2 (0+ei T D d (aS T (b:Int).toNat).toNat)+ei T D d (aS T a2.toNat).toNat)) (by omega)
   omega
theorem zN(hv:aq T=true)(hd:(d:Int)<T.nodes){m a k:Nat}(hmN:(m:Int)<T.nodes)(hmd:m≠d)(hx:bH T D m d=[(a:Int)])(hk:aS T a=(k:Int))(h:ei T D d k=1):ei T D d m=1:=by
 rw[su hv hd hmN hmd,hx]
 simp only[List.foldl_cons,List.foldl_nil,Int.toNat_natCast,hk,h]
 omega
theorem SP.unique(hv:aq T=true)(hd:(d:Int)<T.nodes){n:Nat}{p q:List Int}(h:SP T D d n p)(hq:SP T D d n q)(hc:ei T D d n=1):p=q:=by
 induction h generalizing q with
 |nil=>exact hq.self.symm
 | @cons n a m p h1 hm hp ih=>
  cases hq with
  |nil=>exact absurd rfl h1.ne
  | @cons _ a' m' q h1' hm' hq=>
   obtain⟨b,hb,_,hb2⟩:=uT hv hd (h1.node hv) h1.ne hc
   have e1:=fC h1 ((aM hv).cost a h1.fu).1
   have e2:=fC h1' ((aM hv).cost a' h1'.fu).1
   rw[hb]at e1 e2
   simp only[List.mem_singleton]at e1 e2
   have ea:a=b:=by omega
   have ea':a'=b:=by omega
   subst ea
   subst ea'
   have em:m=m':=by rw[hm]at hm';omega
   subst em
   rw[ih hq (hb2 m hm)]
noncomputable def fT(T:ak)(D:List Bool)(n d:Int):Bool:=decide (cu T D n d=0)&&decide (ei T D d.toNat n.toNat=1)
theorem SP.Ez(hv:aq T=true)(hd:(d:Int)<T.nodes){n:Nat}{p:List Int}(h:SP T D d n p):(p.length:Int)<T.nodes:=by
 have key:∃l:List Nat,l.length=p.length+1∧l.Nodup∧(∀x∈l,(x:Int)<T.nodes∧dN T D d x≤dN T D d n):=by
  induction h with
  |nil=>exact⟨[d],rfl,by simp,fun x hx=>by simp at hx;subst hx;exact⟨hd,Int.le_refl _⟩⟩
  | @cons n a m p h1 hm hp ih=>
   obtain⟨l,e1,e2,e3⟩:=ih
   have g1:=h1.dN hm
   have g2:=(aM hv).cost a h1.fu
   refine⟨n::l,by simp[e1],List.nodup_cons.2 ⟨fun hn=>by have:=(e3 n hn).2;omega,e2⟩,fun x hx=>?_⟩
   cases hx with
   |head=>exact⟨h1.node hv,Int.le_refl _⟩
   |tail _ hx=>have:=e3 x hx;exact⟨this.1,by omega⟩
 obtain⟨l,e1,e2,e3⟩:=key
 have hN:=(aM hv).nodes
 have:=rU T.nodes.toNat l e2 (fun x hx=>by have:=(e3 x hx).1;omega)
 omega
end
def eG(T:ak):Bool→Int→List Int→Int
 |_,_,[]=>0
 |f,n,a::l=>if eQ T a=false then 2 else if bm T a.toNat≠n∨(f=false∧dp T n.toNat=true) then 4 else eG T false (aS T a.toNat) l
def fH(T:ak)(n:Int)(l:List Int):Int:=if aq T then(if bu T n then eG T true n l else 2) else 1
def cO(T:ak):Int→List Int→Int
 |n,[]=>n
 |_,a::l=>cO T (aS T a.toNat) l
def ui(T:ak)(n:Int)(l:List Int):PV:=.tuple [num (if fH T n l=0 then cO T n l else 0),num (if fH T n l=0 then dw T l else 0),num (fH T n l)]
theorem mv(T:ak):∀(n:Int) (l m:List Int),cO T n (l++m)=cO T (cO T n l) m
 |_,[],_=>rfl
 |_,a::l,m=>mv T _ l m
theorem drop_cons(l:List Int)(k:Nat)(h:k<l.length):l.drop k=l.getD k 0::l.drop (k+1):=by
 rw[List.drop_eq_getElem_cons h,List.getD_eq_getElem?_getD,List.getElem?_eq_getElem h];rfl
theorem gZ(T:ak)(n:Int)(l:List Int)(k:Nat)(h:k<l.length):cO T n (l.take (k+1))=aS T (l.getD k 0).toNat:=by
 rw[dK l k 0 h,mv];rfl
theorem nH(T:ak)(l:List Int)(k:Nat)(h:k<l.length):dw T (l.take (k+1))=dw T (l.take k)+cp T (l.getD k 0).toNat:=by
 rw[dK l k 0 h,gM];simp[gd,ke]
theorem o6{T:ak}{f:Bool}{n a:Int}{l:List Int}(h1:eQ T a=true)(h2:bm T a.toNat=n)(h3:f=true∨dp T n.toNat=false):eG T f n (a::l)=eG T false (aS T a.toNat) l:=by
 simp only[eG]
 rw[if_neg (by rw[h1];simp),if_neg]
 rintro(h|⟨h,h'⟩)
 ·exact h h2
 ·rcases h3 with h3|h3
  ·rw[h3]at h;cases h
  ·rw[h3]at h';cases h'
theorem Ev{T:ak}{f:Bool}{n a:Int}{l:List Int}(h1:eQ T a=true)(h2:bm T a.toNat≠n∨(f=false∧dp T n.toNat=true)):eG T f n (a::l)=4:=by
 simp only[eG]
 rw[if_neg (by rw[h1];simp),if_pos h2]
theorem BG(T:ak)(hl:T.ae.length≤4611686018427387902)(a:Int)(h:eQ T a=true):Can Tryz.prog 150 [aP T,num a] (· =num (aS T a.toNat)):=by
 obtain⟨h0,h1⟩:=cW.1 h
 obtain⟨a,rfl⟩:=Int.eq_ofNat_of_zero_le h0
 exact fZ T a (by omega) hl
theorem Bm(T:ak)(a:Int)(h:eQ T a=true):Can Tryz.prog 149 [aP T,num a] (· =num (cp T a.toNat)):=by
 obtain⟨h0,h1⟩:=cW.1 h
 obtain⟨a,rfl⟩:=Int.eq_ofNat_of_zero_le h0
 exact mn T a (by omega)
theorem kg{T:ak}(hv:aq T=true){a:Int}(h:eQ T a=true):(1≤cp T a.toNat∧cp T a.toNat≤65535)∧∃m:Nat,aS T a.toNat=(m:Int)∧(m:Int)<T.nodes:=by
 obtain⟨h0,h1⟩:=cW.1 h
 have hl:a.toNat<2*T.ae.length:=by omega
 exact⟨(aM hv).cost _ hl,dT hv hl⟩
theorem A7{T:ak}(hv:aq T=true){x:Nat}(hx:(x:Int)<T.nodes):T.over.length=0∨x<T.over.length:=by have:=(fY hv).2.2.2;omega
theorem wD(T:ak)(n:Int)(l:List Int)(hl:l.length≤1000000):Can Tryz.prog 120 [aP T,num n,av l] (· =ui T n l):=by
 refine aH Tryz.func120 I Tryz.ntmps120 I<|ab (.a 4 I<|.k [1,2,3,7] I)<|aj<|ab (.a 1 I<|.c rfl (eJ T) I<|.a 1 I<|.k [1,2,3,7,13] I)<|ag I (fun hc=>?_) (fun hc=>?_)
 ·have hv:aq T=false:=by simpa using hc
  have hX:fH T n l=1:=by unfold fH;rw[hv];rfl
  unfold ui
  rw[hX]
  exact ab (.a 3 I<|.k [6,7,8] I)<|ao<|⟨_,_,az.of I,ay.pure,rfl⟩
 ·have hv:aq T=true:=by simpa using hc
  have hll:=bT hv
  refine ai<|aj<|ab (.a 2 I<|.c rfl (dJ T n) I<|.a 1 I<|.k [1,2,3,7,17] I)<|ag I (fun hc=>?_) (fun hc=>?_)
  ·have hn:bu T n=false:=by simpa using hc
   have hX:fH T n l=2:=by unfold fH;rw[hv,hn];rfl
   unfold ui
   rw[hX]
   exact ab (.a 3 I<|.k [6,7,8] I)<|ao<|⟨_,_,az.of I,ay.pure,rfl⟩
  ·have hn:bu T n=true:=by simpa using hc
   have hX:fH T n l=eG T true n l:=by unfold fH;rw[hv,hn];rfl
   obtain⟨hn0,hn1⟩:=aT.1 hn
   obtain⟨n,rfl⟩:=Int.eq_ofNat_of_zero_le hn0
   refine ai<|ab (.a 2 I<|.k [2,3,6,7] I)<|aj<|ab (.a 3 I<|.k [3,6,7,19,20,21] I)<|au<|eH [3,6,7,19,20,21] I<|bq (fun r s=>∃(k x:Nat),k≤l.length∧r=l.length - k∧cO T n (l.take k)=(x:Int)∧(x:Int)<T.nodes∧0≤dw T (l.take k)∧dw T (l.take k)≤65535*(k:Int)∧eG T true n l=eG T (decide (k=0)) x (l.drop k)∧s=⟨[(3,.bb (bC T) 0),(6,num x),(7,num (dw T (l.take k))),(19,av l),(20,num l.length),(21,num k)],[]⟩) l.length ⟨0,n,by omega,by omega,rfl,hn1,by simp[ke],by simp[ke],rfl,rfl⟩ ?_
   rintro r s ⟨k,x,hk,rfl,hx,hxN,hc0,hc1,hw,rfl⟩
   refine ab (.a 1 I<|.k [3,6,7,19,20,21,22] I)<|aj<|ag I (fun hy=>?_) (fun hy=>?_)
   ·have hlt:k<l.length:=by have:=tt hy;omega
    rw[drop_cons l k hlt]at hw
    obtain⟨p1,hp1⟩:∃q,eQ T (l.getD k 0)=q:=⟨_,rfl⟩
    have ha:=qw T (by omega) (l.getD k 0)
    rw[hp1]at ha
    refine ai<|aj<|au<|ab (.a 1 I<|.v (aN (k) I) I<|.v (aJ I (aB l k hlt)) I<|.a 2 I<|.k [3,6,7,9,10,19,20,21] I)<|aj<|ab (.a 2 I<|.c rfl (ha) I<|.a 1 I<|.k [3,6,7,9,10,19,20,21,29] I)<|ag I (fun hz=>?_) (fun hz=>?_)
    ·have h1:p1=false:=by simpa using hz
     subst h1
     have hw2:eG T true n l=2:=by rw[hw];simp only[eG];rw[if_pos hp1]
     unfold ui
     rw[hX,hw2]
     exact ab (.a 3 I<|.k [6,7,8] I)<|ao<|⟨_,_,az.of I,ay.pure,rfl⟩
    ·have h1:p1=true:=by simpa using hz
     subst h1
     obtain⟨⟨hco0,hco1⟩,y,hyh,hyN⟩:=kg hv hp1
     have hsN:=gZ T n l k hlt
     have hsC:=nH T l k hlt
     obtain⟨p2,hp2⟩:∃q,decide (bm T (l.getD k 0).toNat≠(x:Int))=q:=⟨_,rfl⟩
     obtain⟨p3,hp3⟩:∃q,decide (0<(k:Int))=q:=⟨_,rfl⟩
     obtain⟨p4,hp4⟩:∃q,dp T x=q:=⟨_,rfl⟩
     refine ai<|aj<|bz 43 (.raw (.bool (p2||(p3&&p4)))) [3,7,10,19,20,21] I ?_ ?_
     ·refine .a 2 I<|.c rfl (px T _ hp1) I<|.a 1 I<|.v (cf I (hp2)) I<|.a 1 I<|?_
      cases p2
      ·refine .a 1 I<|.v (cf I (hp3)) I<|.a 1 I<|?_
       cases p3
       ·exact .a 5 I<|.k [43,3,7,10,19,20,21] I
       ·exact .a 2 I<|.c rfl (hp4▸ox T x (A7 hv hxN)) I<|.a 2 I<|.k [43,3,7,10,19,20,21] I
      ·exact .a 8 I<|.k [43,3,7,10,19,20,21] I
     refine ag I (fun hb=>?_) (fun hb=>?_)
     ·have hw4:eG T true n l=4:=by
       rw[hw]
       refine Ev hp1 ?_
       rcases Bool.or_eq_true_iff.1 hb with h|h
       ·rw[h]at hp2;exact .inl (tt hp2)
       ·obtain⟨h3,h4⟩:=Bool.and_eq_true_iff.1 h
        rw[h3]at hp3
        rw[h4]at hp4
        exact .inr ⟨decide_eq_false (by have:=tt hp3;omega),by rw[Int.toNat_natCast];exact hp4⟩
      unfold ui
      rw[hX,hw4]
      exact ab (.a 3 I<|.k [6,7,8] I)<|ao<|⟨_,_,az.of I,ay.pure,rfl⟩
     ·obtain⟨b2,b3⟩:=Bool.or_eq_false_iff.1 hb
      rw[b2]at hp2
      have ht:bm T (l.getD k 0).toNat=(x:Int):=Classical.byContradiction (ff hp2)
      have hws:=o6 (T:=T) (f:=decide (k=0)) (n:=(x:Int)) (l:=l.drop (k+1)) hp1 ht (by
       rcases Bool.and_eq_false_iff.1 b3 with h|h
       ·rw[h]at hp3;exact .inl (decide_eq_true (by have:=ff hp3;omega))
       ·rw[h]at hp4;exact .inr (by rw[Int.toNat_natCast];exact hp4))
      rw[hws,hyh]at hw
      have hh:=BG T (by omega) _ hp1
      rw[hyh]at hh
      refine ai<|ab (.a 2 I<|.c rfl (hh) I<|.a 1 I<|.k [3,6,7,10,19,20,21] I)<|aC (.a 3 I<|.c rfl (Bm T _ hp1) I<|.v (aU I (hc:=hsC.symm) (hn:=by unfold In64;omega)) I<|.a 1 I<|.k [3,6,7,19,20,21] I) ?_
      refine aC (.v (aU I) I<|.a 1 I<|.k [3,6,7,19,20,21] I) ?_
      exact⟨l.length - (k+1),by omega,k+1,y,by omega,rfl,by rw[hsN,hyh],hyN,by omega,by omega,by rw[hw];rfl,rfl⟩
   ·have hke:k=l.length:=by have:=ff hy;omega
    subst hke
    rw[List.drop_length]at hw
    rw[List.take_length]at hx ⊢
    unfold ui
    rw[hX,hw]
    simp only[eG,if_true]
    rw[hx]
    exact bd<|ab (.a 5 I<|.k [6,7,8] I)<|ao<|⟨_,_,az.of I,ay.pure,rfl⟩
theorem lZ(T:ak)(hv:aq T=true):Can Tryz.prog 201 [aP T] (· =kC (dH (bm T) T.nodes.toNat (2*T.ae.length))):=by
 have hbd:=fY hv
 have hS:=aM hv
 obtain⟨n,hn⟩:∃n:Nat,T.nodes=(n:Int):=⟨T.nodes.toNat,by omega⟩
 rw[show T.nodes.toNat=n by omega]
 refine aH Tryz.func201 I Tryz.ntmps201 I<|ab (.a 2 I<|.k [1] I)<|aO<|aw 2 I<|b7 (dX I (ba.rk.get I) I I hn hn ⟨by unfold maxLen;omega,by omega⟩) I<|aw 1 I<|aE [1,3] I ?_
 refine pW 37 3 n ?_
 refine aj<|ab (.a 1 I<|.c rfl (iG T (by omega)) I<|.a 1 I<|.k [1,3,10,11] I)<|au<|eH [1,3,10,11] I<|bq (fun r s=>∃k,k≤2*T.ae.length∧r=2*T.ae.length - k∧s=⟨[(1,.bb (bC T) 0),(3,.own 0),(10,num (2*(T.ae.length:Int))),(11,num k)],lF 37 3 (dH (bm T) n k)⟩) (2*T.ae.length) ⟨0,by omega,by omega,by rw[rr];rfl⟩ ?_
 rintro r s ⟨k,hk,rfl,rfl⟩
 refine ab (.a 1 I<|.k [1,3,10,11,12] I)<|aj<|ag I (fun hc=>?_) (fun hc=>?_)
 ·have hlt:k<2*T.ae.length:=by have:=of_decide_eq_true hc;omega
  obtain⟨hd0,hhN⟩:=hS.tail k hlt
  obtain⟨m,hm⟩:=Int.eq_ofNat_of_zero_le hd0
  have hmn:m<n:=by omega
  have hrl:=fv (bm T) n k
  have hgl:((dH (bm T) n k).getD m []).length≤k:=by
   rw[jn _ _ _ _ hmn]
   simp only[List.length_map]
   exact Nat.le_trans (List.length_filter_le _ _) (by simp)
  refine ai<|aj<|au<|ab (.a 2 I<|.k [1,3,4,10,11] I)<|ab (.a 2 I<|.c rfl (hm▸jt T k hlt) I<|.a 1 I<|.k [1,3,4,5,10,11] I)<|bI<|aw 4 I<|bw (aN (m) I) I<|bw (aJ I (ml _ m (by omega))) I<|aw 2 I<|b7 (bh I (ba.rk.get I) I (mg _ _ _ m (by omega)) I I ⟨by unfold maxLen;omega,by omega⟩) I<|bw (aN (m) I) I<|bc (cd I (ba.tk.get I) I I I (by show m<(gb _).length;simp[gb];omega)) I I<|aE [1,3,10,11] I ?_
  refine dI (FZ (dH (bm T) n k).length m) (.cons 1 I Ren.pure<|.cons 3 I (Ren.own (i:=0) I)<|.cons 10 I Ren.pure<|.cons 11 I Ren.pure<|.nil) (wx 37 3 (dH (bm T) n k) m (by omega) (k:Int)) (tC _ _) I ?_
  rw[←sE (bm T) n k m hm hmn]
  refine aC (.v (aU I) I<|.a 1 I<|.k [1,3,10,11] I) ?_
  exact⟨2*T.ae.length - (k+1),by omega,k+1,by omega,rfl,rfl⟩
 ·have hke:k=2*T.ae.length:=by have:=of_decide_eq_false hc;omega
  subst hke
  exact bd<|ab (.a 2 I<|.k [2] I)<|ao<|⟨_,_,az.of I,wG _ _ _,rfl⟩
theorem wJ(T:ak)(m:Nat)(hm:m<T.nodes.toNat):(dH (bm T) T.nodes.toNat (2*T.ae.length)).getD m []=bP T m:=by
 rw[jn _ _ _ _ hm]
 unfold bP iW
 exact congrArg (List.map Int.ofNat) (List.filter_congr fun a _=>Bool.eq_iff_iff.2 (by simp))
theorem tR(rs:List (List Int))(i:Nat)(h:i<rs.length):(rs.map av)[i]? =some (av (rs.getD i [])):=by simp[h]
theorem Hb(T:ak)(D:List Bool)(s d:Int):cD T D [s,d]=cu T D s d:=by
 unfold cu cD
 by_cases h:(aq T&&bW T D)=true
 ·rw[if_pos h]
  by_cases hs:bu T s=true<;>by_cases hd:bu T d=true<;>simp[h,hs,hd]
 ·rw[if_neg h]
  have:(aq T&&bW T D)=false:=by simpa using h
  simp[this]
noncomputable def gV(T:ak)(D:List Bool)(s d:Int):Int:=if cu T D s d=0 then(if dN T D d.toNat s.toNat<0 then 11 else 0) else cu T D s d
theorem Ai{T:ak}{D:List Bool}{m d j:Nat}(hne:m≠d)(h0:0≤dN T D d m)(hj:j<(bP T m).length)(hno:∀i,i<j→iF T D (bG T D d false) (dN T D d m) d ((bP T m).getD i 0).toNat=false)(hy:iF T D (bG T D d false) (dN T D d m) d ((bP T m).getD j 0).toNat=true):∃l,bH T D m d=(bP T m).getD j 0::l:=by
 unfold bH
 rw[if_neg (by rintro(h|h);exact hne h;exact absurd h (by show ¬dN T D d m<0;omega))]
 have h1:((bP T m).take j).filter (fun a=>iF T D (bG T D d false) (dN T D d m) d a.toNat)=[]:=by
  rw[List.filter_eq_nil_iff]
  intro a ha
  obtain⟨i,hi,rfl⟩:=List.getElem_of_mem ha
  have hij:i<j:=by rw[List.length_take]at hi;omega
  have:=hno i hij
  rw[List.getD_eq_getElem?_getD,List.getElem?_eq_getElem (by omega),Option.getD_some]at this
  rw[List.getElem_take,this]
  simp
 have hs:bP T m=(bP T m).take j++(bP T m).getD j 0::(bP T m).drop (j+1):=by rw[←drop_cons _ _ hj,List.take_append_drop]
 have h2:(bP T m).filter (fun a:Int=>iF T D (bG T D d false) (dN T D d m) d a.toNat)=(bP T m).getD j 0::((bP T m).drop (j+1)).filter (fun a:Int=>iF T D (bG T D d false) (dN T D d m) d a.toNat):=by
  refine(congrArg (List.filter fun a:Int=>iF T D (bG T D d false) (dN T D d m) d a.toNat) hs).trans ?_
  rw[List.filter_append,h1,List.nil_append,List.filter_cons,if_pos hy]
 exact⟨_,h2⟩
theorem sJ{T:ak}{D:List Bool}{m d f:Nat}{a:Int}{l:List Int}(h:bH T D m d=a::l):fJ T D d (f+1) m=a::fJ T D d f (aS T a.toNat).toNat:=by simp only[fJ,h]
theorem FC{T:ak}{D:List Bool}(hv:aq T=true){m d:Nat}(hm:(m:Int)<T.nodes)(hd:(d:Int)<T.nodes)(hne:m≠d)(h0:0≤dN T D d m)(hno:∀i,i<(bP T m).length→iF T D (bG T D d false) (dN T D d m) d ((bP T m).getD i 0).toNat=false):False:=by
 obtain⟨k,hk⟩:=jN (D:=D) hv hm hd hne h0
 have:=fC hk ((aM hv).cost k hk.fu).1
 unfold bH at this
 rw[if_neg (by rintro(h|h);exact hne h;exact absurd h (by show ¬dN T D d m<0;omega))]at this
 obtain⟨h1,h2⟩:=List.mem_filter.1 this
 obtain⟨i,hi,he⟩:=List.getElem_of_mem h1
 have h3:=hno i hi
 rw[List.getD_eq_getElem?_getD,List.getElem?_eq_getElem hi,Option.getD_some,he]at h3
 have h2':iF T D (bG T D d false) (dN T D d m) d (k:Int).toNat=true:=h2
 rw[h3]at h2'
 cases h2'
set_option maxHeartbeats 2000000 in
theorem uC(T:ak)(D:List Bool)(s d:Int):Can Tryz.prog 206 [aP T,bn D,num s,num d] (· =dY (gV T D s d) (cA T D s.toNat d.toNat)):=by
 have hch:=o5 T D [s,d] (by simp)
 rw[Hb]at hch
 refine aH Tryz.func206 I Tryz.ntmps206 I<|ab (.a 3 I<|.k [1,2,3,4] I)<|aj<|ab (.a 5 I<|.c rfl (hch) I<|.a 1 I<|.k [1,2,3,4,10] I)<|ab (.a 2 I<|.k [1,2,3,4,10,26] I)<|ag I (fun hc=>?_) (fun hc=>?_)
 ·have he:cu T D s d≠0:=tt hc
  exact ab (.a 3 I<|.k [8,9] I)<|ao<|⟨_,_,az.of I,ay.aX (ah.cons ay.bM (ah.cons ay.pure ah.nil)),by unfold dY gV;rw[if_neg he,if_neg he];rfl⟩
 ·have he:cu T D s d=0:=Classical.byContradiction (ff hc)
  obtain⟨hv,hf,hns,hnd⟩:=fM he
  obtain⟨hs0,hs1⟩:=aT.1 hns
  obtain⟨hd0,hd1⟩:=aT.1 hnd
  obtain⟨s,rfl⟩:=Int.eq_ofNat_of_zero_le hs0
  obtain⟨d,rfl⟩:=Int.eq_ofNat_of_zero_le hd0
  have hdi:Can Tryz.prog 151 [aP T,bn D,num d] (· = .tuple [av (bG T D d false),num 0]):=by
   have h:=rj T D (d:Int)
   rw[show cD T D [(d:Int)]=0 by unfold cu at he;split at he;assumption;assumption]at h
   exact h
  have hS:=aM hv
  have hN:=hS.nodes
  have hll:=bT hv
  obtain⟨hb1,hb2⟩:=dv (D:=D) hv (dir:=false) hd1
  refine ai<|ab (.a 3 I<|.c rfl (hdi) I<|.a 5 I<|.k [1,2,3,4,11] I)<|aj<|ab (.a 2 I<|.v (aN (s) I) I<|.v (aJ I (aB _ s (by omega))) I<|.a 1 I<|.k [1,2,3,4,11,39] I)<|ag I (fun hc=>?_) (fun hc=>?_)
  ·have h0:dN T D d s<0:=tt hc
   exact ab (.a 2 I<|.k [8,9] I)<|ao<|⟨_,_,az.of I,ay.aX (ah.cons ay.bM (ah.cons ay.pure ah.nil)),by unfold dY gV;simp only[Int.toNat_natCast];rw[if_pos he,if_pos h0];rfl⟩
  ·have h0:0≤dN T D d s:=by have:=ff hc;show 0≤(bG T D d false).getD s 0;omega
   have hE:gV T D (s:Int) (d:Int)=0:=by unfold gV;simp only[Int.toNat_natCast];rw[if_pos he,if_neg (by omega)]
   rw[hE]
   refine ai<|ab (.a 1 I<|.c rfl (lZ T hv) I<|.a 1 I<|.k [1,2,3,4,11,13] I)<|ab (.a 1 I<|.k [1,2,3,4,11,13,14] I)<|gH 14 3 1 I ?_
   refine aj<|ab (.a 2 I<|.k [1,3,4,11,13,14,15] I)<|au<|eH [1,3,4,11,13,14,15] I<|bq (fun r st=>∃(p:List Int) (m f:Nat),(m:Int)<T.nodes∧0≤dN T D d m∧dN T D d m≤f∧r=(dN T D d m).toNat∧(p.length:Int)+dN T D d m≤dN T D d s∧cA T D s d=p++fJ T D d f m∧st=⟨[(1,bn D),(3,num d),(4,.bb (bC T) 0),(11,av (bG T D d false)),(13,kC (dH (bm T) T.nodes.toNat (2*T.ae.length))),(14,.own 0),(15,num m)],[some (.row 3 1 p.length (aK p))]⟩) (dN T D d s).toNat ⟨[],s,(dN T D d s).toNat,hs1,h0,by omega,rfl,by simp,rfl,rfl⟩ ?_
   rintro r st ⟨p,m,f,hm,hm0,hmf,rfl,hpl,hp,rfl⟩
   refine aj<|ab (.a 3 I<|.k [1,3,4,11,13,14,15,45] I)<|ag I (fun hy=>?_) (fun hy=>?_)
   ·have hne:m≠d:=by have:=tt hy;omega
    have hml:m<(bG T D d false).length:=by omega
    have hrow:=wJ T m (by omega)
    have hbnd:=(ID (D:=D) hv hd1 hs1).2
    have hol:(bP T m).length≤512:=Nat.le_trans (eT T m _) (by omega)
    refine ai<|au<|ab (.a 2 I<|.v (aN (m) I (by omega) (by rw[fv];omega)) I<|.v (aJ I ((tR _ m (by rw[fv];omega)).trans (by rw[hrow]))) I<|.a 2 I<|.k [1,3,4,11,13,14,15,49,50,51] I)<|au<|eH [1,3,4,11,13,14,15,49,50,51] I<|bq (fun r st=>∃j:Nat,j≤(bP T m).length∧r=(bP T m).length - j∧(∀i,i<j→iF T D (bG T D d false) (dN T D d m) d ((bP T m).getD i 0).toNat=false)∧st=⟨[(1,bn D),(3,num d),(4,.bb (bC T) 0),(11,av (bG T D d false)),(13,kC (dH (bm T) T.nodes.toNat (2*T.ae.length))),(14,.own 0),(15,num m),(49,av (bP T m)),(50,num (bP T m).length),(51,num j)],[some (.row 3 1 p.length (aK p))]⟩) (bP T m).length ⟨0,by omega,by omega,fun i hi=>by omega,rfl⟩ ?_
    rintro r st ⟨j,hj,rfl,hno,rfl⟩
    refine ab (.a 1 I<|.k [1,3,4,11,13,14,15,49,50,51,52] I)<|aj<|ag I (fun hz=>?_) (fun hz=>?_)
    ·have hlt:j<(bP T m).length:=by have:=tt hz;omega
     obtain⟨ha0,ha1⟩:=kI (cr (d:=0) hlt)
     obtain⟨a,ha⟩:=Int.eq_ofNat_of_zero_le ha0
     have ham:a<2*T.ae.length:=by omega
     obtain⟨y,hyh,hyN⟩:=dT hv ham
     have hyl:y<(bG T D d false).length:=by omega
     have hh:=fZ T a ham (by omega)
     rw[hyh]at hh
     have hD:D.length=0∨a<D.length:=by simp only[bW,decide_eq_true_eq]at hf;omega
     obtain⟨p1,hp1⟩:∃q,aQ D a=q:=⟨_,rfl⟩
     obtain⟨p2,hp2⟩:∃q,decide ((bG T D d false).getD y 0<0)=q:=⟨_,rfl⟩
     obtain⟨p3,hp3⟩:∃q,decide ((y:Int)≠(d:Int))=q:=⟨_,rfl⟩
     obtain⟨p4,hp4⟩:∃q,dp T y=q:=⟨_,rfl⟩
     have hpass:∀b,iF T D (bG T D d false) (dN T D d m) d ((bP T m).getD j 0).toNat=b↔(!((p1||p2)||(p3&&p4))&&decide ((bG T D d false).getD y 0+cp T a=dN T D d m))=b:=fun b=>by
      unfold iF
      rw[ha,Int.toNat_natCast,hyh,Int.toNat_natCast,hp1,hp2,hp3,hp4]
     refine ai<|aj<|au<|ab (.v (aN (j) I) I<|.v (aJ I ((aB _ j hlt).trans (by rw[ha]))) I<|.a 1 I<|.k [1,3,4,11,13,14,15,17,49,50,51] I)<|ab (.a 2 I<|.c rfl (hh) I<|.a 1 I<|.k [1,3,4,11,13,14,15,17,18,49,50,51] I)<|aj<|bz 77 (.raw (.bool ((p1||p2)||(p3&&p4)))) [1,3,4,11,13,14,15,17,18,49,50,51] I ?_ ?_
     ·refine .a 2 I<|.c rfl (hp1▸jy D a hD) I<|.a 1 I<|?_
      cases p1
      ·refine .a 2 I<|.v (aN (y) I) I<|.v (aJ I (aB _ y hyl)) I<|.v (cf I (hp2)) I<|.a 2 I<|?_
       cases p2
       ·refine .a 2 I<|.v (cf I (hp3)) I<|.a 1 I<|?_
        cases p3
        ·exact .a 5 I<|.k [77,1,3,4,11,13,14,15,17,18,49,50,51] I
        ·exact .a 2 I<|.c rfl (hp4▸ox T y (A7 hv hyN)) I<|.a 2 I<|.k [77,1,3,4,11,13,14,15,17,18,49,50,51] I
       ·exact .a 9 I<|.k [77,1,3,4,11,13,14,15,17,18,49,50,51] I
      ·exact .a 16 I<|.k [77,1,3,4,11,13,14,15,17,18,49,50,51] I
     refine ag I (fun hk=>?_) (fun hk=>?_)
     ·have hnp:=(hpass false).2 (by rw[hk];rfl)
      refine bd<|aC (.v (aU I) I<|.a 1 I<|.k [1,3,4,11,13,14,15,49,50,51] I) ?_
      refine⟨(bP T m).length - (j+1),by omega,j+1,by omega,rfl,fun i hi=>?_,rfl⟩
      by_cases h:i=j
      ·rw[h];exact hnp
      ·exact hno i (by omega)
     ·skip
      refine ai ?_
      have hy4:=hb2 _ (cr (d:=0) hyl)
      have hc4:=hS.cost a ham
      refine ep mixed (by kernel_rfl) (.a 2 I<|.v [78,79] (aN (y) I) I I<|.v [80] (aJ I (aB _ y hyl)) I I<|.a 2 I<|.v [82,83] (dU I (mn T a ham)) I I<|.v [81,84] (aU I (hn:=by unfold In64;omega)) I I<|.a 2 I<|.v [86,87] (aN (m) I) I I<|.v [88] (aJ I (aB _ m hml)) I I<|.a 1 I<|.k [1,3,4,11,13,14,15,17,18,49,50,51,90] I) ?_
      refine ag I (fun hq=>?_) (fun hq=>?_)
      ·have hyes:=(hpass true).2 (by rw[hk];exact decide_eq_true (tt hq))
       obtain⟨l,hl⟩:=Ai hne hm0 hlt hno hyes
       obtain⟨b,hb,hbn⟩:=cX (T:=T) (D:=D) (n:=m) (d:=d) (a:=(bP T m).getD j 0) (by rw[hl];simp)
       have hba:b=a:=by omega
       subst hba
       have hdy:=hbn.dN hyh
       refine aO<|aw 3 I<|b7 (bh I (ba.rk.get I) I I I I (by unfold maxLen;omega)) I<|aw 1 I ?_
       refine eR [1] (.c 1<|.c 3<|.c 4<|.c 11<|.c 13<|.c 14<|.c 18<|.nil) (.kept rfl (.fF rfl (dE _ _))<|.nil) I I (bp ?_)
       refine ab (.a 2 I<|.k [1,3,4,11,13,14,15] I)<|bd ?_
       cases f with
       |zero=>omega
       |succ f=>
        refine⟨(dN T D d y).toNat,by omega,p++[(b:Int)],y,f,hyN,hdy.1,by omega,rfl,by simp;omega,?_,by simp⟩
        rw[hp,sJ hl,ha,Int.toNat_natCast,hyh,Int.toNat_natCast,List.append_assoc]
        rfl
      ·have hnp:=(hpass false).2 (by rw[hk,Bool.and_eq_false_iff];exact .inr (decide_eq_false (ff hq)))
       refine ai<|aC (.v (aU I) I<|.a 1 I<|.k [1,3,4,11,13,14,15,49,50,51] I) ?_
       refine⟨(bP T m).length - (j+1),by omega,j+1,by omega,rfl,fun i hi=>?_,rfl⟩
       by_cases h:i=j
       ·rw[h];exact hnp
       ·exact hno i (by omega)
    ·exact absurd (FC hv hm hd1 hne hm0 (fun i hi=>hno i (by have:=ff hz;omega))) (fun h=>h)
   ·have hmd:m=d:=by have:=ff hy;omega
    subst hmd
    have hfin:fJ T D m f m=[]:=by cases f with|zero=>rfl|succ f=>simp only[fJ,jl]
    rw[hfin,List.append_nil]at hp
    exact bd<|ab (.a 3 I<|.k [8,9] I)<|ao<|⟨_,_,az.of I,ay.aX (ah.cons (ay.fy rfl ah.pure) (ah.cons ay.pure ah.nil)),by unfold dY;rw[if_pos rfl];simp only[Int.toNat_natCast];rw[hp];rfl⟩
theorem mr(T:ak)(D:List Bool)(m d:Nat):(bH T D m d).Pairwise (· < ·):=by
 unfold bH
 split
 ·exact List.Pairwise.nil
 ·exact(lP T m).filter _
theorem zS{T:ak}{D:List Bool}{m d a:Nat}(h:(a:Int)∈bH T D m d)(hno:∀i:Nat,i<a→¬(i:Int)∈bH T D m d):∃l,bH T D m d=(a:Int)::l:=by
 have hs:=mr T D m d
 cases hx:bH T D m d with
 |nil=>rw[hx]at h;cases h
 |cons b l=>
  obtain⟨c,rfl,_⟩:=cX (T:=T) (D:=D) (n:=m) (d:=d) (a:=b) (by rw[hx];simp)
  rw[hx]at h hs hno
  have h1:=hno c
  have:c=a:=by
   cases h with
   |head=>rfl
   |tail _ h=>
    have:=(List.pairwise_cons.1 hs).1 _ h
    exact absurd (List.mem_cons_self ..) (h1 (by omega))
  exact⟨l,by rw[this]⟩
theorem I1{T:ak}{D:List Bool}(hv:aq T=true){m d k:Nat}(hm:(m:Int)<T.nodes)(hd:(d:Int)<T.nodes)(hk:k<2*T.ae.length):(decide (bm T k=(m:Int))&&Jv T D (bG T D d false) k d)=true↔(k:Int)∈bH T D m d:=by
 obtain⟨y,hyh,hyN⟩:=dT hv hk
 have hS:=aM hv
 constructor
 ·intro h
  obtain⟨h1,h2⟩:=Bool.and_eq_true_iff.1 h
  have h1:=tt h1
  unfold Jv at h2
  rw[h1,hyh]at h2
  simp only[Int.toNat_natCast,Bool.and_eq_true,Bool.not_eq_true',Bool.or_eq_true,decide_eq_true_eq]at h2
  obtain⟨⟨⟨⟨g1,g2⟩,g3⟩,g4⟩,g5⟩:=h2
  refine fC ⟨hk,h1,g1,by omega,?_,?_,?_⟩ (hS.cost k hk).1
  ·rw[hyh,Int.toNat_natCast];exact g3
  ·rw[hyh];rcases g4 with g|g
   ·exact .inl (by omega)
   ·exact .inr (by simpa using g)
  ·rw[hyh,Int.toNat_natCast];exact g5
 ·intro h
  obtain⟨k',hk',hn⟩:=cX h
  have:k'=k:=by omega
  subst this
  have h3:=hn.reach
  have h4:=hn.pass
  have h5:=hn.sum
  have h6:=hn.ne
  rw[hyh,Int.toNat_natCast]at h3 h5
  rw[hyh,Int.toNat_natCast]at h4
  refine Bool.and_eq_true_iff.2 ⟨decide_eq_true hn.tail,?_⟩
  unfold Jv
  rw[hn.tail,hyh]
  simp only[Int.toNat_natCast,Bool.and_eq_true,Bool.not_eq_true',Bool.or_eq_true,decide_eq_true_eq]
  refine⟨⟨⟨⟨hn.up,by omega⟩,h3⟩,?_⟩,h5⟩
  rcases h4 with g|g
  ·exact .inl (by omega)
  ·exact .inr (by simpa using g)
set_option maxHeartbeats 2000000 in
theorem zT(T:ak)(D:List Bool)(s d:Int):Can Tryz.prog 90 [aP T,bn D,num s,num d] (· =dY (gV T D s d) (cA T D s.toNat d.toNat)):=by
 obtain⟨g1,hg1⟩:∃q,decide (s<0)=q:=⟨_,rfl⟩
 obtain⟨g2,hg2⟩:∃q,decide (T.nodes≤s)=q:=⟨_,rfl⟩
 have hnb:bu T s= !(g1||g2):=by rw[←hg1,←hg2,←Bool.decide_or,←decide_not];unfold bu;exact decide_eq_decide.2 (by omega)
 refine aH Tryz.func90 I Tryz.ntmps90 I<|ab (.a 3 I<|.k [1,2,3,4] I)<|ab (.a 3 I<|.c rfl (mR T D d) I<|.a 5 I<|.k [1,2,3,4,10,11] I)<|aj<|ab (.a 2 I<|.k [1,2,3,4,10,11,22] I)<|ag I (fun hc=>?_) (fun hc=>?_)
 ·have he0:cD T D [d]≠0:=tt hc
  have he:cu T D s d≠0:=by unfold cu;rw[if_neg he0];exact he0
  have he2:cu T D s d=cD T D [d]:=by unfold cu;rw[if_neg he0]
  exact ab (.a 3 I<|.k [8,9] I)<|ao<|⟨_,_,az.of I,ay.aX (ah.cons ay.bM (ah.cons ay.pure ah.nil)),by unfold dY gV;rw[if_neg he,if_neg he,he2];rfl⟩
 ·have he0:cD T D [d]=0:=Classical.byContradiction (ff hc)
  rw[he0,if_pos rfl]
  refine ai<|aj<|bz 31 (.raw (.bool (g1||g2))) [1,2,3,4,10] I ?_ ?_
  ·refine .a 1 I<|.v (cf I (hg1)) I<|.a 1 I<|?_
   cases g1
   ·exact .a 3 I<|.v (cf I (hg2)) I<|.a 1 I<|.k [31,1,2,3,4,10] I
   ·exact .a 5 I<|.k [31,1,2,3,4,10] I
  refine ag I (fun hy=>?_) (fun hy=>?_)
  ·have hn:bu T s=false:=by rw[hnb,hy];rfl
   have he:cu T D s d=2:=by unfold cu;rw[if_pos he0,hn];rfl
   exact ab (.a 2 I<|.k [8,9] I)<|ao<|⟨_,_,az.of I,ay.aX (ah.cons ay.bM (ah.cons ay.pure ah.nil)),by unfold dY gV;rw[he];rfl⟩
  ·have hn:bu T s=true:=by rw[hnb,hy];rfl
   have he:cu T D s d=0:=by unfold cu;rw[if_pos he0,hn];rfl
   obtain⟨hv,hf,hns,hnd⟩:=fM he
   obtain⟨hs0,hs1⟩:=aT.1 hns
   obtain⟨hd0,hd1⟩:=aT.1 hnd
   clear hnb hg1 hg2 hy
   obtain⟨s,rfl⟩:=Int.eq_ofNat_of_zero_le hs0
   obtain⟨d,rfl⟩:=Int.eq_ofNat_of_zero_le hd0
   simp only[Int.toNat_natCast]
   have hS:=aM hv
   have hN:=hS.nodes
   have hll:=bT hv
   obtain⟨hb1,hb2⟩:=dv (D:=D) hv (dir:=false) hd1
   refine ai<|aj<|ab (.a 2 I<|.v (aN (s) I) I<|.v (aJ I (aB _ s (by omega))) I<|.a 1 I<|.k [1,2,3,4,10,36] I)<|ag I (fun hy=>?_) (fun hy=>?_)
   ·have h0:dN T D d s<0:=tt hy
    exact ab (.a 2 I<|.k [8,9] I)<|ao<|⟨_,_,az.of I,ay.aX (ah.cons ay.bM (ah.cons ay.pure ah.nil)),by unfold dY gV;simp only[Int.toNat_natCast];rw[if_pos he,if_pos h0];rfl⟩
   ·have h0:0≤dN T D d s:=by have:=ff hy;show 0≤(bG T D d false).getD s 0;omega
    have hE:gV T D (s:Int) (d:Int)=0:=by unfold gV;simp only[Int.toNat_natCast];rw[if_pos he,if_neg (by omega)]
    rw[hE]
    refine ai<|ab (.a 1 I<|.k [1,2,3,4,10,12] I)<|gH 12 3 1 I ?_
    refine aj<|au<|eH [1,2,3,4,10,12] I<|bq (fun r st=>∃(p:List Int) (m f:Nat),(m:Int)<T.nodes∧0≤dN T D d m∧dN T D d m≤f∧r=(dN T D d m).toNat∧(p.length:Int)+dN T D d m≤dN T D d s∧cA T D s d=p++fJ T D d f m∧st=⟨[(1,bn D),(2,num m),(3,num d),(4,.bb (bC T) 0),(10,av (bG T D d false)),(12,.own 0)],[some (.row 3 1 p.length (aK p))]⟩) (dN T D d s).toNat ⟨[],s,(dN T D d s).toNat,hs1,h0,by omega,rfl,by simp,rfl,rfl⟩ ?_
    rintro r st ⟨p,m,f,hm,hm0,hmf,rfl,hpl,hp,rfl⟩
    refine aj<|ab (.a 3 I<|.k [1,2,3,4,10,12,39] I)<|ag I (fun hz=>?_) (fun hz=>?_)
    ·have hne:m≠d:=by have:=tt hz;omega
     have hbnd:=(ID (D:=D) hv hd1 hs1).2
     refine ai<|au<|ab (.a 1 I<|.k [1,2,3,4,10,12,13] I)<|au<|eH [1,2,3,4,10,12,13] I<|bq (fun r st=>∃a:Nat,a≤2*T.ae.length∧r=2*T.ae.length - a∧(∀i:Nat,i<a→¬(i:Int)∈bH T D m d)∧st=⟨[(1,bn D),(2,num m),(3,num d),(4,.bb (bC T) 0),(10,av (bG T D d false)),(12,.own 0),(13,num a)],[some (.row 3 1 p.length (aK p))]⟩) (2*T.ae.length) ⟨0,by omega,by omega,fun i hi=>by omega,rfl⟩ ?_
     rintro r st ⟨a,ha,rfl,hno,rfl⟩
     refine aj<|ab (.a 4 I<|.v (aU I) I<|.a 1 I<|.k [1,2,3,4,10,12,13,45] I)<|ag I (fun hq=>?_) (fun hq=>?_)
     ·have ham:a<2*T.ae.length:=by have:=tt hq;omega
      obtain⟨y,hyh,hyN⟩:=dT hv ham
      have hh:=gX T hv a ham
      rw[hyh]at hh
      obtain⟨p1,hp1⟩:∃q,decide (bm T a=(m:Int))=q:=⟨_,rfl⟩
      obtain⟨p2,hp2⟩:∃q,Jv T D (bG T D d false) a d=q:=⟨_,rfl⟩
      have hon:=I1 (D:=D) hv hm hd1 ham
      rw[hp1,hp2]at hon
      refine ai<|aj<|au<|bz 60 (.raw (.bool (p1&&p2))) [1,2,3,4,10,12,13] I ?_ ?_
      ·refine .a 2 I<|.c rfl (gh T hv a ham) I<|.a 1 I<|.v (cf I (hp1)) I<|.a 1 I<|?_
       cases p1
       ·exact .a 7 I<|.k [60,1,2,3,4,10,12,13] I
       ·exact .a 5 I<|.c rfl (hp2▸IZ T D (bG T D d false) a d hv hf hb1 hb2 ham) I<|.a 1 I<|.k [60,1,2,3,4,10,12,13] I
      refine ag I (fun hk=>?_) (fun hk=>?_)
      ·have hmem:=hon.1 hk
       obtain⟨l,hl⟩:=zS hmem hno
       obtain⟨b,hb,hbn⟩:=cX hmem
       have hba:b=a:=by omega
       subst hba
       have hdy:=hbn.dN hyh
       have hcy:=hS.cost b ham
       refine aO<|aw 3 I<|b7 (bh I (ba.rk.get I) I I I I (by unfold maxLen;omega)) I<|aw 1 I ?_
       refine eR [1] (.c 1<|.c 3<|.c 4<|.c 10<|.c 12<|.c 13<|.nil) (.kept rfl (.fF rfl (dE _ _))<|.nil) I I (bp ?_)
       refine ab (.a 2 I<|.c rfl (hh) I<|.a 1 I<|.k [1,2,3,4,10,12] I)<|bd ?_
       cases f with
       |zero=>omega
       |succ f=>
        refine⟨(dN T D d y).toNat,by omega,p++[(b:Int)],y,f,hyN,hdy.1,by omega,rfl,by simp;omega,?_,by simp⟩
        rw[hp,sJ hl,Int.toNat_natCast,hyh,Int.toNat_natCast,List.append_assoc]
        rfl
      ·have hnm:¬(a:Int)∈bH T D m d:=fun h=>by rw[hon.2 h]at hk;cases hk
       refine ai<|aC (.a 1 I<|.v (aU I) I<|.a 1 I<|.k [1,2,3,4,10,12,13] I) ?_
       refine⟨2*T.ae.length - (a+1),by omega,a+1,by omega,rfl,fun i hi=>?_,rfl⟩
       by_cases h:i=a
       ·rw[h];exact hnm
       ·exact hno i (by omega)
     ·have hcon:False:=by
       obtain⟨k,hk⟩:=jN (D:=D) hv hm hd1 hne hm0
       have:=fC hk (hS.cost k hk.fu).1
       exact hno k (by have:=hk.fu;have:=ff hq;omega) this
      exact absurd hcon (fun h=>h)
    ·have hmd:m=d:=by have:=ff hz;omega
     subst hmd
     have hfin:fJ T D m f m=[]:=by cases f with|zero=>rfl|succ f=>simp only[fJ,jl]
     rw[hfin,List.append_nil]at hp
     exact bd<|ab (.a 3 I<|.k [8,9] I)<|ao<|⟨_,_,az.of I,ay.aX (ah.cons (ay.fy rfl ah.pure) (ah.cons ay.pure ah.nil)),by unfold dY;rw[if_pos rfl,hp];rfl⟩
end
end PW
end Go.Proofs.YtnegbdpggideiaaGreatDoor
