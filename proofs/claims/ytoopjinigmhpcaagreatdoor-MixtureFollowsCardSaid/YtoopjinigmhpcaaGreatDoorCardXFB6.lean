/- Part 6. -/
import Derived.Deep.AppendSrc
import Derived.Test.YtoopjinigmhpcaaGreatDoorCardXFB5
set_option maxRecDepth 100000
set_option maxHeartbeats 4000000
namespace Go.Proofs.YtoopjinigmhpcaaGreatDoor
open Go.Proofs.Tryz
namespace PW
section
open Go.RowKit cG Mem Net eE
section
variable {P:Program} {σ:ca} {t:cq} {o:Oper} {N L:Nat} {ops:Array Oper}
theorem sX{rest}{K:St->Prop}{d:Nat}{x y ty r xs}(l:o.op= .binOp .eql ty x y r)(hk:Bk P ty=true)(hx:aH t x=some (.slice 0 xs))(hy:aH t y=some (.raw (.slice none 0 0)))(hd:o.dst=some d)(hw:fO ops t o=some true)(hN:Nat.blt d N=true)
  (h:∀b,WR P N L ops rest ⟨(d,.raw (.bool b))::t,σ⟩ K):WR P N L ops (o::rest) ⟨t,σ⟩ K:=by
 refine pT hw λF base E a w hs next Q hn=>?_
 obtain⟨e,hu⟩:=rR hk;have h1:=aD (iI a) hs.tmp hx;have h2:=aD (iI a) hs.tmp hy;generalize q:a.eval x=z at h1;generalize i:a.eval y=s at h2;cases h2;obtain⟨p,c,rfl,_,_⟩:=qA h1;have f:=Lib.run_eql_slice_nil w ty e p 0 c 0 0 hu;have k:∀a n c b m d,(eqGuard .eql ty x y (.slice a n c) (.slice b m d)).run P w= .ok () w:=λ_ _ _ _ _ _=>rfl;have j:iA P w (λv w'=>cZ E w' v (.raw (.bool p.isNone))) ((execOp a.eval o).run P w):=by
  simp only[execOp,l,q,i,Sem.run_bind,Sem.run_pure,Result.andThen_ok,k,f];exact bI (.raw _)
 refine tv j λv w' g hv=>hn _ _ _ E (h p.isNone) ?_ (.ext g) (Ti g hs.sat.bl);rw[hd];exact hs.put (hs.sat.ext g) (.ext g) hN hv
theorem vH{ty e s n h:Nat}{x b C}{xs:List PV}{k k'}{g G:Int}(K:o.op= .slice ty x none (some b) (some C))(he:vS P ty=some (e,s))(hx:aH t x=some (.slice n xs))(p:aH t b=some (.raw (.int k g)))(y:aH t C=some (.raw (.int k' G)))(z:xs.length=n*s)(q:g=(h:Int))(r:G=(h:Int))(hl:h<=n):
  bE P σ t o (.slice h (xs.take (h*s))):=by
 intro F base E ρ w d O m;have h1:=aD d m hx;have h2:=aD d m p;have D:=aD d m y;obtain⟨hu,i,hi,hs⟩:=gJ he;generalize M:ρ x=v at h1;generalize A:ρ b=u at h2;generalize B:ρ C=Q at D;cases h2;cases D;subst q;subst r;obtain⟨a,c,rfl,f,J⟩:=qA h1;have H:=pA (s:=s) (l:=0) h1 z (RQ _) hl (Rc h) (Rr hl f);have j:(Instr.sliceAt ty (.slice a n c) none (some (.int k (h:Int))) (some (.int k' (h:Int)))).run P w= .ok (.slice (if h=0 then a else a.map (·.add (0*s))) (h - 0) (h - 0)) w:=by
  have:h<=c:=Rr hl f;simp[Instr.sliceAt,run_underlying hu,Instr.slice,Instr.sliceBounds,Instr.sliceBound,asIntOf,this,sizeOf,typeInfo,hi]
 simp only[execOp,K,M,A,B,SU,UR,Sem.run_bind,j,Result.andThen_ok,Sem.run_pure];refine bI ?_;simpa using H
end
theorem Qo:Bk prog 42=true:=by kernel_rfl
theorem pD(l:List bG)(hl:l.length<=1000):Can prog 106 [cr l] (· =cr l):=by
 refine aF func106 I ntmps106 I<|ab (.a 1 I<|.k [0] I)<|ai<|aK (WR.mono (K:=λs=>∃b:Bool,s=⟨[(0,cr l),(4,.raw (.bool b))],[]⟩/\(b=true->l=[])) ?_ ?_)
 ·cases l with
  |nil=>exact au 1 rfl<|sX rfl Qo rfl rfl rfl rfl rfl λb=>aE [0,4] rfl ⟨b,rfl,λ_=>rfl⟩
  |cons a l=>exact au 1 rfl<|bP (oh rfl Qo rfl rfl (UW _)) rfl rfl rfl<|aE [0,4] rfl ⟨_,rfl,λh=>by cases h⟩
 rintro _ ⟨b,rfl,hb⟩;refine ae I (λhc=>?_) (λhc=>?_)
 ·have:l=[]:=hb hc;subst this;exact ab (.a 1 I<|.k [2] I)<|ao<|QR I ax.bH rfl
 ·refine aj<|aK<|cb (dM I (S3 I)) I<|au 1 I<|cb (bF I (Ru I) I I I (jf l) (by unfold maxLen;omega)) I<|au 1 I<|aE [2] I ?_;refine ao<|⟨_,_,RY I,Tj (xs:=eP l) (ys:=eP l) I Sj,?_⟩;rw[Si];rfl
theorem iv{P σ t}{o:Oper}{ty x lo s}{l:List bG}{k}(b:o.op= .slice ty x (some lo) none none)(he:vS P ty=some (136,2))(hx:aH t x=some (.slice (s::l).length (eP (s::l))))(a:aH t lo=some (.raw (.int k 1))):bE P σ t o (.slice l.length (eP l)):=by
 have h:=xM (l:=1) (σ:=σ) b he hx a (jf _) I (by simp);have e:((eP (s::l)).drop (1*2)).take (((s::l).length - 1)*2)=eP l:=by
  show(eP l).take _=_;refine SJ ?_;rw[jf];simp
 rw[e]at h;exact h
theorem yv{T D}{n d:Int}(h:gG T D n d≠0):fZ T D n d=⟨[],false,[]⟩:=nC λa=>h a.1
theorem L7{T D}{n d:Int}(h:gG T D n d≠0)(a:gG T D n d≠11):bY T D n d=gG T D n d:=by
 unfold gG at*;split at h<;>simp_all
theorem NV{T D}{n d:Int}(h:gG T D n d=0\/gG T D n d=11):bY T D n d=0:=by
 unfold gG at h;split at h
 ·assumption
 ·rename_i a;rcases h with h|h
  ·exact h
  ·exfalso;unfold bY ct at h;split at h<;>(try split at h)<;>(try split at h)<;>omega
def OA(e:Int)(x:jI):PV:=.tuple [tW x,num e]
theorem AU(T:ak)(D:List Bool)(n d:Int)(v:T.ah.length<=256)(cS:T.nodes<=12):Can prog 70 [aL T,aV D,num n,num d] (· =OA (bY T D n d) (fZ T D n d)):=by
 have⟨c1,f⟩:=QQ (decide (gG T D n d≠0));have⟨A,g⟩:=QQ (decide (gG T D n d≠11));refine aF func70 I ntmps70 I<|aK<|au 3 I<|aE [1,2,3,4,8] I ?_;refine ab (.a 4 I<|.c rfl (CK T D n d) I<|.a 5 I<|.k [1,2,4,8,10,11] I)<|ai<|bz 27 (.raw (.bool (c1&&A))) [1,2,4,8,10,11] I ?_ ?_
 ·refine .a 1 I<|.v (bW I (f)) I<|.a 1 I<|?_;cases c1
  ·exact .a 3 I<|.k [27,1,2,4,8,10,11] I
  ·exact .a 1 I<|.v (bW I (g)) I<|.a 1 I<|.k [27,1,2,4,8,10,11] I
 refine ae I (λh1=>?_) (λh1=>?_)
 ·obtain⟨rfl,rfl⟩:=Q3.1 h1;have z:=tt f;rw[yv z,L7 z (tt g)];refine aK<|au 4 I<|aE [8,9] I ?_;exact ao<|QR I (RW (QV (TI (QV ax.bH<|QV ax.pure<|QV ax.bH Rl)) (QV ax.pure Rl))) rfl
 ·have t:gG T D n d=0\/gG T D n d=11:=by
   rcases SE.1 h1 with h|h
   ·subst h;exact .inl (Q4 (ff f))
   ·subst h;exact .inr (Q4 (ff g))
  rw[NV t];clear h1 f g;have⟨P,e⟩:=QQ (if gG T D n d=0 then cE T D n.toNat d.toNat else []);rw[e];refine aj<|ai<|ab (.a 3 I<|.k [1,2,4,8,10,32] I)<|ae I (λh2=>?_) (λh2=>?_)
  ·have x:¬(gG T D n d=0/\n≠d):=by
    rintro⟨j,r⟩;rw[QY j]at e;obtain⟨a,b,rfl,rfl,hp⟩:=px j r;have:=tt h2;have:=hp.pos;rw[<-e]at*;simp only[QS]at*;omega
   rw[nC x];refine aK<|au 3 I<|aE [8,9] I ?_;exact ao<|QR I (RW (QV (TI (QV ax.bH<|QV ax.pure<|QV ax.bH Rl)) (QV ax.pure Rl))) rfl
  ·obtain⟨p0,q,rfl⟩:∃p0 q,P=p0::q:=by
    cases P with
    |nil=>exact absurd rfl (ff h2)
    |cons p0 q=>exact⟨_,_,rfl⟩
   have j:gG T D n d=0:=by
    rcases t with h|h
    ·exact h
    ·rw[h]at e;simp at e
   rw[QY j]at e;have r:n≠d:=by
    rintro rfl;obtain⟨a,b,C,hb,_,_,B,y⟩:=oW j;have:a=b:=by omega
    subst this;have:=y.self;rw[this]at e;cases e
   obtain⟨a,b,rfl,rfl,hp⟩:=px j r;simp only[QS]at e;have c:=mE hp;rw[e]at hp c;have o:=hp.len;obtain⟨s,l,hl,hs⟩:=uB (T:=T) (n:=(a:Int)) hp.pos;have m:=hp.ML.2;rw[hl]at c m;have i:=Gw T D (p0::q) a (by simp only[Q8]at o ⊢;omega) v cS;rw[hl]at i;unfold pa at i;rw[hp.zero,QY rfl]at i;clear h2 t hl hs hp e j r;simp only[Q8]at m o;rw[show(p0::q).getD 0 0=p0 from rfl]at c;refine aj<|ab (.a 4 I<|.c rfl (i) I<|.a 5 I<|.k [8,10,12] I)<|ai<|ab (.a 1 I<|.v (aM (0) I (by omega) (by simp only[Q8];omega)) I<|.a 1 I<|.v (aJ I ((show(eP (s::l))[0]? =some (num s.kind) from rfl))) I<|.a 1 I<|.k [8,10,12,46] I)<|ae I (λu=>?_) (λu=>?_)
   ·have hc:iE (s::l)=l:=QY (tt u);rw[hc]at c;have w:l.length<=32:=by omega
    refine aC (.a 1 I<|.v (iv I (RP I) I I) I<|.a 1 I<|.k [8,10,12] I)<|ai<|ab (.a 3 I<|.k [8,10,12,51] I)<|ae I (λk=>?_) (λk=>?_)
    ·exact absurd (tt k) (by omega)
    ·clear k;refine aj<|jt 5 20 mixed (.val [10] I (bb I) I I<|.val [53] I (vH (h:=1) I (RP I) I I I (show(aU (p0::q)).length=_ by simp[aU]) I I (by simp)) I I<|.val [12] I (bb I) I I<|.val [55] I (dX I (pD _ (by omega))) I I<|.val [54,56] I (bb I) I I<|.nil) (by kernel_rfl) I I (aR (ks:=[8,57]) I) ?_;refine au 2 I<|aE [8,9] I ?_;exact ao<|QR I (RW (QV (TI (QV (ax.pure (p:=aq [p0]))<|QV ax.pure<|QV (ax.pure (p:=cr _)) Rl)) (QV ax.pure Rl))) (by rw[c];rfl)
   ·have hc:iE (s::l)=s::l:=QZ (ff u);rw[hc]at c;have w:(s::l).length<=32:=by simp only[Q8];omega
    refine aj<|ai<|ab (.a 3 I<|.k [8,10,12,51] I)<|ae I (λk=>?_) (λk=>?_)
    ·exact absurd (tt k) (by omega)
    ·clear k;refine aj<|jt 5 20 mixed (.val [10] I (bb I) I I<|.val [53] I (vH (h:=1) I (RP I) I I I (show(aU (p0::q)).length=_ by simp[aU]) I I (by simp)) I I<|.val [12] I (bb I) I I<|.val [55] I (dX I (pD _ (by omega))) I I<|.val [54,56] I (bb I) I I<|.nil) (by kernel_rfl) I I (aR (ks:=[8,57]) I) ?_;refine au 2 I<|aE [8,9] I ?_;exact ao<|QR I (RW (QV (TI (QV (ax.pure (p:=aq [p0]))<|QV ax.pure<|QV (ax.pure (p:=cr _)) Rl)) (QV ax.pure Rl))) (by rw[c];rfl)
theorem vE{P σ t}{o:Oper}{ty x hi}{a:Int}{q:List Int}{k}(c:o.op= .slice ty x none (some hi) none)(he:vS P ty=some (3,1))(hx:aH t x=some (.slice (a::q).length (aU (a::q))))(b:aH t hi=some (.raw (.int k 1))):bE P σ t o (.slice 1 (aU [a])):=by
 have h:=xL (h:=1) (σ:=σ) c he hx b (by simp[aU]) I (by simp);exact h
theorem uS(T:ak)(D:List Bool)(n d:Int)(cS:T.nodes<=12):Can prog 90 [aL T,aV D,num n,num d] (· =OA (bY T D n d) (fZ T D n d)):=by
 have⟨K,E⟩:=QQ (av T&&bN T D);have⟨c1,w⟩:=QQ (decide (n<0));have⟨F,y⟩:=QQ (decide (T.nodes<=n));have⟨G,z⟩:=QQ (decide (d<0));have⟨L,A⟩:=QQ (decide (T.nodes<=d));have e:∀x:Int,aX T x= !(decide (x<0)||decide (T.nodes<=x)):=λx=>by rw[<-TS,<-decide_not];unfold aX;exact decide_eq_decide.2 (by omega)
 have r:=e n;have o:=e d;rw[w,y]at r;rw[z,A]at o;have J:bY T D n d=if K=true then(if(((c1||F)||G)||L)=true then 2 else 0) else 1:=by
  unfold bY ct;simp only[UL,List.all_nil,Ut,r,o,E];cases K<;>cases c1<;>cases F<;>cases G<;>cases L<;>rfl
 have⟨O,f⟩:=QQ (decide (gG T D n d≠0));have⟨Q,g⟩:=QQ (decide (n=d));refine aF func90 I ntmps90 I<|aK<|au 3 I<|aE [1,2,3,4,8] I ?_;refine ai<|ab (.a 2 I<|.c rfl (E▸l7 T D) I<|.a 1 I<|.k [1,2,3,4,8,17] I)<|ae I (λh1=>?_) (λh1=>?_)
 ·have h1:K=false:=by simpa using h1
  have he:bY T D n d=1:=by rw[J,h1];rfl
  have hs:gG T D n d≠0:=by unfold gG;rw[he];simp
  rw[yv hs,he];refine aK<|au 3 I<|aE [8,9] I ?_;exact ao<|QR I (RW (QV (TI (QV ax.bH<|QV ax.pure<|QV ax.bH Rl)) (QV ax.pure Rl))) rfl
 ·have h1:K=true:=by simpa using h1
  refine aj<|ai<|bz 36 (.raw (.bool (((c1||F)||G)||L))) [1,2,3,4,8] I ?_ ?_
  ·refine .a 1 I<|.v (bW I (w)) I<|.a 1 I<|?_;cases c1
   ·refine .a 3 I<|.v (bW I (y)) I<|.a 2 I<|?_;cases F
    ·refine .a 1 I<|.v (bW I (z)) I<|.a 2 I<|?_;cases G
     ·exact .a 3 I<|.v (bW I (A)) I<|.a 1 I<|.k [36,1,2,3,4,8] I
     ·exact .a 5 I<|.k [36,1,2,3,4,8] I
    ·exact .a 9 I<|.k [36,1,2,3,4,8] I
   ·exact .a 15 I<|.k [36,1,2,3,4,8] I
  refine ae I (λh2=>?_) (λh2=>?_)
  ·have he:bY T D n d=2:=by rw[J,h1,h2];rfl
   have hs:gG T D n d≠0:=by unfold gG;rw[he];simp
   rw[yv hs,he];refine aK<|au 3 I<|aE [8,9] I ?_;exact ao<|QR I (RW (QV (TI (QV ax.bH<|QV ax.pure<|QV ax.bH Rl)) (QV ax.pure Rl))) rfl
  ·have he:bY T D n d=0:=by rw[J,h1,h2];rfl
   rw[he];clear J r o e h2 h1;refine aj ?_;have t:=sr T D n d;unfold ec at t;have⟨P,v⟩:=QQ (if gG T D n d=0 then cE T D n.toNat d.toNat else []);rw[v]at t;refine ab (.a 4 I<|.c rfl (t) I<|.a 5 I<|.k [1,2,3,4,8,10,11] I)<|ai<|bz 52 (.raw (.bool (O||Q))) [1,2,4,8,10] I ?_ ?_
   ·refine .a 1 I<|.v (bW I (f)) I<|.a 1 I<|?_;cases O
    ·exact .a 2 I<|.v (bW I (g)) I<|.a 1 I<|.k [52,1,2,4,8,10] I
    ·exact .a 4 I<|.k [52,1,2,4,8,10] I
   refine ae I (λk=>?_) (λk=>?_)
   ·have N:¬(gG T D n d=0/\n≠d):=by
     rintro⟨H,u⟩;rcases Sh.1 k with h|h
     ·rw[h]at f;exact tt f H
     ·rw[h]at g;exact u (tt g)
    rw[nC N];refine aK<|au 3 I<|aE [8,9] I ?_;exact ao<|QR I (RW (QV (TI (QV ax.bH<|QV ax.pure<|QV ax.bH Rl)) (QV ax.pure Rl))) rfl
   ·obtain⟨rfl,rfl⟩:=Rt.1 k;have k:gG T D n d=0:=Q4 (ff f);have H:n≠d:=ff g;obtain⟨a,b,rfl,rfl,hp⟩:=px k H;simp only[QS]at v;rw[QY k]at v;have c:=mE hp;rw[v]at hp c;have C:=hp.len;obtain⟨s,l,hl,hs⟩:=uB (T:=T) (n:=(a:Int)) hp.pos;have B:=hp.ML.2;rw[hl]at c B;have j:=hp.pos;obtain⟨p0,q,rfl⟩:∃p0 q,P=p0::q:=by
     cases P with
     |nil=>simp at j
     |cons p0 q=>exact⟨_,_,rfl⟩
    have i:=C1 T D (p0::q) a (by simp only[Q8]at C ⊢;omega) cS;rw[hl]at i;unfold pa at i;rw[hp.zero,QY rfl]at i;clear hl hs hp j v k H f g;simp only[Q8]at B C;rw[show(p0::q).getD 0 0=p0 from rfl]at c;refine aj<|ab (.a 4 I<|.c rfl (i) I<|.a 5 I<|.k [8,10,12] I)<|ai<|ab (.a 1 I<|.v (aM (0) I (by omega) (by simp only[Q8];omega)) I<|.a 1 I<|.v (aJ I ((show(eP (s::l))[0]? =some (num s.kind) from rfl))) I<|.a 1 I<|.k [8,10,12,66] I)<|ae I (λu=>?_) (λu=>?_)
    ·have hc:iE (s::l)=l:=QY (tt u);rw[hc]at c;have M:l.length<=32:=by omega
     refine aC (.a 1 I<|.v (iv I (RP I) I I) I<|.a 1 I<|.k [8,10,12] I)<|ai<|ab (.a 3 I<|.k [8,10,12,71] I)<|ae I (λm=>?_) (λm=>?_)
     ·exact absurd (tt m) (by omega)
     ·clear m;refine aj<|aK<|au 1 I<|bm (vE I (RP I) I I) I<|au 4 I<|aE [8,9] I ?_;exact ao<|QR I (RW (QV (TI (QV (ax.pure (p:=aq [p0]))<|QV ax.pure<|QV (ax.pure (p:=cr _)) Rl)) (QV ax.pure Rl))) (by rw[c];rfl)
    ·have hc:iE (s::l)=s::l:=QZ (ff u);rw[hc]at c;have M:(s::l).length<=32:=by simp only[Q8];omega
     refine aj<|ai<|ab (.a 3 I<|.k [8,10,12,71] I)<|ae I (λm=>?_) (λm=>?_)
     ·exact absurd (tt m) (by omega)
     ·clear m;refine aj<|aK<|au 1 I<|bm (vE I (RP I) I I) I<|au 4 I<|aE [8,9] I ?_;exact ao<|QR I (RW (QV (TI (QV (ax.pure (p:=aq [p0]))<|QV ax.pure<|QV (ax.pure (p:=cr _)) Rl)) (QV ax.pure Rl))) (by rw[c];rfl)
end
section
open Go.RowKit cG Mem
section
variable {P:Program} {σ:ca} {t:cq} {o:Oper}
theorem Bz{ty e s:Nat}{x:Operand}(c:o.op= .call {callee:=.builtin .cap,args:= #[x],argTypes:= #[ty]})(he:vS P ty=some (e,s))(hx:aH t x=some (.raw (.slice none 0 0))):bE P σ t o (.raw (.int .i64 0)):=by
 intro F base E ρ w a _ b;have h1:=aD a b hx;obtain⟨hu,_⟩:=gJ he;generalize d:ρ x=z at h1;cases h1;simp[execOp,c,resolve,invoke,builtin,Builtin.cap_,d,run_underlying hu,goInt];exact bI (.raw _)
theorem Dg{ty e s:Nat}{x a k}(h:o.op= .slice ty x none (some a) none)(he:vS P ty=some (e,s))(hx:aH t x=some (.raw (.slice none 0 0)))(d:aH t a=some (.raw (.int k 0))):bE P σ t o (.raw (.slice none 0 0)):=by
 intro F base E ρ w c _ g;have h1:=aD c g hx;have h2:=aD c g d;obtain⟨hu,inf,b,hs⟩:=gJ he;generalize i:ρ x=z at h1;generalize f:ρ a=j at h2;cases h1;cases h2;have hr:(execOp ρ o).run P w= .ok (.value (.slice none 0 0)) w:=by
  simp[execOp,h,i,f,Instr.sliceAt,run_underlying hu,Instr.slice,Instr.sliceBounds,Instr.sliceBound,asIntOf,sizeOf,typeInfo,b]
 rw[hr];exact bI (.raw _)
theorem Be{P:Program}(w:World)(t d ty e:TypeId)(i:TypeInfo)(z:Value)(j:P.underlying t=some (.slice e))(hx:P.underlying d=some (.int .i64))(hi:P.info? e=some i)(k:i.zero=some z)(hp:0<i.size)(n:Nat)
  (h0:0<n) (g:(n:Int)<=9223372036854775807) (f:n*i.bytes<=281474976710656):
  (Builtin.append_ #[t,d] ty #[.slice none 0 0,.int .i64 (n:Int)]).run P w=
   .ok (.slice (some ⟨w.heap.size,0,none⟩) n (grownCap w n 0 e)) (w.drew.alloc (.cells (Builtin.zeroCells z.cells n++Builtin.zeroCells z.cells (grownCap w n 0 e - n)) e)):=by
 have hn:n≠0:=by omega
 have c:i.size≠0:=by omega
 have b:¬(9223372036854775807<(n:Int)):=by omega
 have a:¬(281474976710656<Builtin.nextslicecap n 0*i.bytes):=by rw[nextslicecap_zero h0];omega
 have hw:IntKind.i64.wrap (n:Int)=n:=lA (by unfold In64;omega);have hb:¬(281474976710656<(n:Int)*(i.bytes:Int)):=by
  have:((n*i.bytes:Nat):Int)<=281474976710656:=by omega
  rw[Int.natCast_mul]at this;omega
 have vV:¬((n:Int)<0):=by omega
 simp[Builtin.append_,run_underlying j,run_underlying hx,sizeOf,typeInfo,zeroValue,hi,k,asInt,asIntOf,hw,hb,vV,hn,c,b,a,Question.forced,run_firstCells_none,newRow,grownCap];exact λh=>absurd h (Nat.mul_ne_zero hn c)
theorem Fj{ty B e s by':Nat}{z:List Value}{x y:Operand}{n:Nat}{m:Int}(L:o.op= .call {callee:=.builtin .append,args:= #[x,y],argTypes:= #[ty,B]})(hk:A5 P ty=some (e,s,by',z))(r:P.underlying B=some (.int .i64))(hx:aH t x=some (.raw (.slice none 0 0)))(hy:aH t y=some (.raw (.int .i64 m)))(hm:m=(n:Int))(h0:0<n)(hn:n<=maxLen/\n*by'<=281474976710656):
  cK P σ t o (.own σ.length) (σ++[some (.row e s n (dQ (z.map .raw) n))]):=by
 intro F base E ρ w j C D;have h1:=aD j D hx;have h2:=aD j D hy;generalize u:ρ x=v1 at h1;generalize v:ρ y=v2 at h2;cases h1;cases h2;subst hm;obtain⟨hu,i,a,hi,hs,l,N,A,g,G⟩:=rP hk;have M:n<=9223372036854775807:=by have:=hn.1;simp only[maxLen]at this;omega
 have d:=Be (P:=P) w ty B o.type e i a hu r hi N (by omega) n h0 (by omega) (by rw[l];exact hn.2);have hr:(execOp ρ o).run P w= .ok (.value (.slice (some ⟨w.heap.size,0,none⟩) n (grownCap w n 0 e))) (w.drew.alloc (.cells (Builtin.zeroCells a.cells n++Builtin.zeroCells a.cells (grownCap w n 0 e - n)) e)):=by
  simp only[execOp,L,resolve,invoke,builtin,Sem.run_bind,Sem.run_pure,Result.andThen_ok,SZ,R7,So,u,v,d]
 have q:=grownCap_ge w n 0 e;have p:grownCap w n 0 e<=maxLen:=grownCap_le_maxLen w n 0 e hn.1;have f:(Builtin.zeroCells a.cells n).size=n*s:=by rw[size_zeroCells,g]
 have c:(w.drew.alloc (.cells (Builtin.zeroCells a.cells n++Builtin.zeroCells a.cells (grownCap w n 0 e - n)) e)).ownsRow base e s (.slice (some ⟨w.heap.size,0,none⟩) n (grownCap w n 0 e)) n (Builtin.zeroCells a.cells n).toList:=by
  refine⟨by rw[RS,f],.inr ⟨w.heap.size,_,_,rfl,C.bl,heap_alloc_new w.drew _,q,p,?_,?_⟩⟩
  ·simp only[Array.size_append,size_zeroCells,g,<-UX];congr 1;omega
  ·simp only[TC];rw[<-f,<-RS];exact List.take_left
 have K:w.grownBy (w.drew.alloc (.cells (Builtin.zeroCells a.cells n++Builtin.zeroCells a.cells (grownCap w n 0 e - n)) e)) none:=⟨rfl,rfl,rfl,by simp,λk hk _=>heap_alloc_old w.drew _ hk⟩;have J:bp E w (Builtin.zeroCells a.cells n).toList (dQ (z.map .raw) n):=by
  rw[<-A];exact o3 a.cells n (n*a.cells.size) I
 obtain⟨H,a2,a3,a4⟩:=qm C (qc K) (λb h=>by simp[bL]at h;omega) c J;exact⟨_,_,_,.inl hr,H,a2,a3,a4⟩
end
open Net eE
theorem Cl(l:List Int)(hl:l.length<=1000):Can prog 61 [aq l] (· =aq l):=by
 refine aF func61 I ntmps61 I<|ab (.a 1 I<|.k [0] I)<|ai<|aK (WR.mono (K:=λs=>∃b:Bool,s=⟨[(0,aq l),(4,.raw (.bool b))],[]⟩/\(b=true->l=[])) ?_ ?_)
 ·cases l with
  |nil=>exact au 1 rfl<|sX rfl NU rfl rfl rfl rfl rfl λb=>aE [0,4] rfl ⟨b,rfl,λ_=>rfl⟩
  |cons a l=>exact au 1 rfl<|bP (oh rfl NU rfl rfl (UW _)) rfl rfl rfl<|aE [0,4] rfl ⟨_,rfl,λh=>by cases h⟩
 rintro _ ⟨b,rfl,hb⟩;refine ae I (λhc=>?_) (λhc=>?_)
 ·have:l=[]:=hb hc;subst this;exact ab (.a 1 I<|.k [2] I)<|ao<|QR I ax.bH rfl
 ·refine aj<|aK<|cb (dM I (S3 I)) I<|au 1 I<|cb (bF I (Ru I) I I I (show(aU l).length=l.length*1 by simp[aU]) (by unfold maxLen;omega)) I<|au 1 I<|aE [2] I ?_;refine ao<|⟨_,_,RY I,Tj (xs:=aU l) (ys:=aU l) I Sj,?_⟩;rw[Si];rfl
theorem Gu(n:Nat)(hn:n<=1000):bM prog 141 [.raw (.slice none 0 0),num n] [] (λr σ'=>r= .own 0/\σ'=[some (.row 136 2 0 [])]):=by
 refine cF func141 I ntmps141 I<|ab (.a 1 I<|.k [0,1] I)<|ai<|ab (.a 2 I<|.k [0,1,6] I)<|ae I (λh1=>?_) (λh1=>?_)
 ·exact absurd (tt h1) (by omega)
 ·clear h1;refine aj<|ai<|ab (.a 2 I<|.v (Bz I (RP I) I) I<|.a 1 I<|.v (qU I (RP I) I) I<|.v (aW I) I<|.v (aW I) I<|.a 1 I<|.k [0,1] I)<|ab (.a 2 I<|.k [0,1,16] I)<|ae I (λh2=>?_) (λh2=>?_)
  ·have a:0<n:=by have:=tt h2;omega
   refine bx<|au 2 I<|bm (Bz I (RP I) I) I<|bm (Dg I (RP I) I I) I<|au 1 I<|cb (Fj (n:=n) I (Ru I) Tryz.underlying3 rfl rfl (by omega) a (by unfold maxLen;omega)) I<|au 1 I<|bm (qU I (RP I) I) I<|cb (ql (h:=0) I (RP I) I I I I (by omega)) I<|au 1 I<|aE [0] I ?_;refine dS [1] (.c 0<|.nil) (.kept rfl (.row Sy)<|.nil) I I<|ab (.a 2 I<|.k [4] I)<|ao<|⟨_,RY I,rfl,rfl⟩
  ·refine eU 0 136 2 I<|aj<|ab (.a 2 I<|.k [4] I)<|ao<|⟨_,RY I,rfl,rfl⟩
def tP(A B:List bG)(i:Nat):List bG:=if i=0 then [] else if i=1 then A else A++B
def Lx(A B:List bG)(i:Nat):List bG:=if i=0 then A else B
theorem zP(A B:List bG){i:Nat}(h:i<2):tP A B (i+1)=tP A B i++Lx A B i:=by
 rcases(show i=0\/i=1 by omega)with rfl|rfl<;>rfl
theorem s7(A B:List bG)(i:Nat):(tP A B i).length<=A.length+B.length:=by
 unfold tP;split
 ·simp
 ·split<;>simp
theorem sA(A B:List bG)(hl:A.length+B.length<=1000):Can prog 112 [.slice 2 [cr A,cr B]] (· =cr (A++B)):=by
 refine aF func112 I ntmps112 I ?_;have k:=Gu (A++B).length (by simpa using hl);refine ab (.a 1 I<|.k [0] I)<|ab (.a 1 I<|.k [0,3] I)<|ai<|ab (.a 3 I<|.k [0,3,9,10,11] I)<|aw<|eF [0,3,9,10,11] I<|bd (λr s=>∃i,i<=2/\r=2 - i/\s=⟨[(0,.slice 2 [cr A,cr B]),(3,num (tP A B i).length),(9,.slice 2 [cr A,cr B]),(10,num 2),(11,num i)],[]⟩) 2 ⟨0,by omega,by omega,rfl⟩ ?_;rintro r s ⟨i,hi,rfl,rfl⟩;refine ab (.a 1 I<|.k [0,3,9,10,11,12] I)<|ai<|ae I (λh1=>?_) (λh1=>?_)
 ·have e:i<2:=by have:=tt h1;omega
  have f:=s7 A B i;have g:=s7 A B (i+1);have c:=Sc List.length (zP A B e);rw[Q0]at c;have b:[cr A,cr B][i]? =some (cr (Lx A B i)):=by
   rcases(show i=0\/i=1 by omega)with rfl|rfl<;>rfl
  clear h1;refine aj<|ai<|aw<|ab (.v (aM (i) I) I<|.v (aJ I (b)) I<|.a 1 I<|.k [0,3,5,9,10,11] I)<|ab (.a 3 I<|.v (aW I (hc:=(show((tP A B i).length:Int)+((Lx A B i).length:Int)=((tP A B (i+1)).length:Int) by omega)) (hn:=(by unfold In64;omega))) I<|.a 1 I<|.k [0,3,9,10,11] I)<|ab (.a 2 I<|.k [0,3,9,10,11,20] I)<|ae I (λh2=>?_) (λh2=>?_)
  ·exact absurd (tt h2) (by omega)
  ·clear h2;refine aj<|aC (.v (aW I) I<|.a 1 I<|.k [0,3,9,10,11] I) ?_;exact⟨2 - (i+1),by omega,i+1,by omega,rfl,rfl⟩
 ·have d:i=2:=by have:=ff h1;omega
  subst d;have a:tP A B 2=A++B:=rfl;rw[a];clear h1;refine ba<|aK<|au 1 I<|cD I I (RT k (λr σ' h=>?_));obtain⟨rfl,rfl⟩:=h;refine au 1 I<|aE [0,6] I ?_;refine ai<|ab (.a 3 I<|.k [6,25,26,27] I)<|aw<|eF [6,25,26,27] I<|bd (λr s=>∃i,i<=2/\r=2 - i/\s=⟨[(6,.own 0),(25,.slice 2 [cr A,cr B]),(26,num 2),(27,num i)],[some (.row 136 2 (tP A B i).length (eP (tP A B i)))]⟩) 2 ⟨0,by omega,by omega,rfl⟩ ?_;rintro r s ⟨i,hi,rfl,rfl⟩;refine ab (.a 1 I<|.k [6,25,26,27,28] I)<|ai<|ae I (λh1=>?_) (λh1=>?_)
  ·have e:i<2:=by have:=tt h1;omega
   have f:=s7 A B i;have g:=s7 A B (i+1);have c:=zP A B e;have j:=Sc List.length c;rw[Q0]at j;have b:[cr A,cr B][i]? =some (cr (Lx A B i)):=by
    rcases(show i=0\/i=1 by omega)with rfl|rfl<;>rfl
   clear h1;refine aj<|ai<|aw<|ab (.v (aM (i) I) I<|.v (aJ I (b)) I<|.a 1 I<|.k [6,8,25,26,27] I)<|bx<|au 2 I<|cb (bF I (Ru I) I I I (jf _) (show _<=maxLen/\_*16<=140737488355328 by unfold maxLen;omega)) I<|au 1 I ?_;refine dL [1] (.c 6<|.c 25<|.c 26<|.c 27<|.nil) (.kept rfl (.eY rfl (rfl))<|.nil) I I (bg ?_);refine aC (.v (aW I) I<|.a 1 I<|.k [6,25,26,27] I)<|⟨2 - (i+1),by omega,i+1,by omega,rfl,?_⟩;rw[c,Q0];unfold eP;rw[TZ]
   rfl
  ·have d:i=2:=by have:=ff h1;omega
   subst d;have a:tP A B 2=A++B:=rfl;rw[a];clear h1;exact ba<|ab (.a 2 I<|.k [2] I)<|ao<|QR I (Tj rfl Sj) rfl
def KZ(v:Int):List Int->Nat->Int
 | [],_=> -1
 |a::l,i=>bif decide (v=a) then(i:Int) else KZ v l (i+1)
theorem DR(v:Int):∀(l:List Int) (i:Nat),0<=KZ v l i↔v∈l
 | [],i=>by simp[KZ]
 |a::l,i=>by
  simp only[KZ];by_cases h:v=a
  ·rw[Rb h,cond_true];exact⟨λ_=>by rw[h];exact R1,λ_=>by omega⟩
  ·rw[Rg h,cond_false,DR v l (i+1),RA];exact⟨.inr,λb=>b.resolve_left h⟩
theorem K3(v:Int)(l:List Int)(i:Nat):decide (0<=KZ v l i)=decide (v∈l):=decide_eq_decide.2 (DR v l i)
theorem C5(l:List Int)(v:Int)(hl:l.length<=1000):Can prog 111 [aq l,num v] (· =num (KZ v l 0)):=by
 refine aF func111 I ntmps111 I<|ab (.a 1 I<|.k [0,1] I)<|ai<|ab (.a 3 I<|.k [0,1,7,8] I)<|aw<|eF [0,1,7,8] I<|bd (λr s=>∃i,i<=l.length/\r=l.length - i/\KZ v l 0=KZ v (l.drop i) i/\s=⟨[(0,aq l),(1,num v),(7,num l.length),(8,num i)],[]⟩) l.length ⟨0,by omega,by omega,rfl,rfl⟩ ?_;rintro r s ⟨i,hi,rfl,hx,rfl⟩;refine ab (.a 1 I<|.k [0,1,7,8,9] I)<|ai<|ae I (λh1=>?_) (λh1=>?_)
 ·have a:i<l.length:=by have:=tt h1;omega
  rw[drop_cons l i a]at hx;simp only[KZ]at hx;have⟨q,c⟩:=QQ (decide (v=l.getD i 0));rw[c]at hx;refine aj<|ai<|aw<|ab (.a 2 I<|.k [0,1,5,7,8] I)<|ab (.a 3 I<|.v (aM (i) I) I<|.v (aJ I (aB l i a)) I<|.v (bW I (c)) I<|.k [0,1,5,7,8,16] I)<|ae I (λh2=>?_) (λh2=>?_)
  ·subst h2;rw[cond_true]at hx;rw[hx];exact ab (.a 2 I<|.k [4] I)<|ao<|QR I ax.pure rfl
  ·subst h2;rw[cond_false]at hx;refine aj<|aC (.v (aW I) I<|.a 1 I<|.k [0,1,7,8] I) ?_;exact⟨l.length - (i+1),by omega,i+1,by omega,rfl,hx,rfl⟩
 ·have b:i=l.length:=by have:=ff h1;omega
  subst b;rw[TX]at hx;rw[hx];exact ba<|ab (.a 1 I<|.k [4] I)<|ao<|QR I ax.pure rfl
theorem vY(l:List Int)(v:Int)(hl:l.length<=1000):Can prog 80 [aq l,num v] (· =flag (decide (v∈l))):=by
 have⟨q,a⟩:=QQ (decide (v∈l));have hm:=(K3 v l 0).trans a;rw[a];exact aF func80 I ntmps80 I<|ab (.a 1 I<|.k [0,1] I)<|ab (.a 2 I<|.c rfl (C5 l v hl) I<|.v (bW I (hm)) I<|.a 1 I<|.k [4] I)<|ao<|QR I ax.pure rfl
structure dq where
 id:Int
 src:Int
 dst:Int
 lR:Int
 stack:List bG
 eB:Int
def cY(p:dq):List PV:=[num p.id,num p.src,num p.dst,num p.lR,cr p.stack,num p.eB]
def dI(p:dq):PV:=.agg (cY p)
instance (p:dq):aP (cY p):=by unfold cY;infer_instance
instance (p:dq):IsPure (dI p):=by unfold dI;infer_instance
structure Out where
 aA:List Int
 eJ:dq
 dJ:Int
def yV(r:Out):PV:=.tuple [aq r.aA,dI r.eJ,num r.dJ]
def dZ(p:dq)(r:Int):Out:=⟨[],p,r⟩
def dO(p:dq)(s:List bG)(aA:List Int):Out:=⟨aA,⟨p.id,p.src,p.dst,p.lR,s,p.eB+1⟩,0⟩
def fS(p:dq)(s:List bG)(e:jI):Out:=
 if e.rep then(if 32<(e.push++s.drop 1).length then dZ p 5 else dO p (e.push++s.drop 1) e.aA) else dO p s e.aA
theorem vw(p:dq)(s:List bG)(hl:s.length<=1000):Can prog 78 [dI p,cr s] (· =dI ⟨p.id,p.src,p.dst,p.lR,s,p.eB⟩):=by
 refine aF func78 I ntmps78 I<|aK<|cb (fV I I I) I<|au 1 I<|aE [1,2,4] I ?_;refine aK<|au 1 I<|ez I (pD s hl) I<|au 2 I<|aE [2,4] I ?_;refine aK<|au 2 I<|aE [4] I ?_;exact ao<|QR I (ax.pure (p:=dI ⟨p.id,p.src,p.dst,p.lR,s,p.eB⟩)) rfl
theorem iF(p:dq)(r:Int)(hl:p.stack.length<=1000):Can prog 77 [dI p,num r] (· =yV (dZ p r)):=by
 refine aF func77 I ntmps77 I<|aK<|au 4 I<|aE [1,2,5] I ?_;refine aK<|au 2 I<|bm (aJ I ((rfl:(cY p)[4]? =some (cr p.stack)))) I<|ez I (vw p p.stack hl) I<|au 4 I<|aE [4,5,6] I ?_;exact ao<|QR I (RW (QV ax.bH<|QV (ax.pure (p:=dI p))<|QV ax.pure Rl)) rfl
theorem oE(p:dq)(s:List bG)(aA:List Int)(hl:s.length<=1000)(a:aA.length<=1000)(b:0<=p.eB/\p.eB<=1000):Can prog 81 [dI p,cr s,aq aA] (· =yV (dO p s aA)):=by
 refine aF func81 I ntmps81 I<|aK<|cb (fV I I I) I<|au 3 I<|aE [1,2,3,7] I ?_;refine aK<|au 2 I<|ez I (vw p s hl) I<|au 1 I<|aE [2,3,7] I ?_;refine aK<|au 2 I<|bm (aW I (hn:=(show In64 (p.eB+1) by unfold In64;omega))) I<|au 2 I<|aE [2,3,7] I ?_;refine jt 4 20 mixed (.val [2] I (bb I) I I<|.val [16] I (dX I (Cl aA a)) I I<|.val [3] I (bb I) I I<|.val [17] I (bb I) I I<|.nil) (by kernel_rfl) I I (aR (ks:=[6,7,18]) I)<|au 2 I<|aE [6,7,8] I ?_;exact ao<|QR I (RW (QV (ax.pure (p:=aq aA))<|QV (ax.pure (p:=dI ⟨p.id,p.src,p.dst,p.lR,s,p.eB+1⟩))<|QV ax.pure Rl)) rfl
theorem wM{T:ak}{n:Int}{L:List Int}(hl:T.ah.length<=256)(h:fe T n L=true):L.length<=512:=by
 have h:=Q5 h;have key:∀i:Nat,i<L.length->(i:Int)<=L.getD i 0:=by
  intro i;induction i with
  |zero=>intro hi;have:=(cH.1 (h 0 hi).1).1;omega
  |succ i a=>
   intro hi;have h1:=a (by omega);have h2:=(h (i+1) hi).2.2 (by omega);rw[Nat.add_sub_cancel]at h2;omega
 rcases SS L.length with h0|h0
 ·omega
 ·have h1:=key (L.length - 1) (by omega);have h2:=cH.1 (h (L.length - 1) (by omega)).1;omega
theorem wA(p:dq)(s:List bG)(e:jI)(hs:s.length<=40)(hp:e.push.length<=40)(g:e.aA.length<=1000)(f:p.stack.length<=1000)(h:0<=p.eB/\p.eB<=1000):Can prog 82 [dI p,cr s,tW e] (· =yV (fS p s e)):=by
 have⟨c,hc⟩:=QQ (e.rep);have j:fS p s e=if c then(if 32<(e.push++s.drop 1).length then dZ p 5 else dO p (e.push++s.drop 1) e.aA) else dO p s e.aA:=by unfold fS;rw[hc]
 rw[j];refine aF func82 I ntmps82 I<|aK<|au 5 I<|aE [1,3,5,7] I ?_;refine ai<|ab (.a 1 I<|.v (aJ I ((show(jL e)[1]? =some (flag c) by rw[<-hc];rfl))) I<|.k [1,3,5,7,11] I)<|ae I (λh1=>?_) (λh1=>?_)
 ·subst h1;simp only[Sw];refine ab (.a 2 I<|.k [3,5,7,9] I)<|ai<|ab (.a 3 I<|.k [3,5,7,9,15] I)<|ae I (λh2=>?_) (λh2=>?_)
  ·obtain⟨a,l,rfl⟩:∃a l,s=a::l:=by
    cases s with
    |nil=>exact absurd (tt h2) (by simp)
    |cons a l=>exact⟨a,l,rfl⟩
   simp only[List.drop_succ_cons,UC];obtain⟨s',d,i⟩:∃s',l=s'/\s'.length<=40:=⟨l,rfl,by simp at hs;omega⟩;refine aC (.a 1 I<|.v (iv I (RP I) I I) I<|.a 1 I<|.k [3,5,7,9] I) ?_;rw[d];refine ab (.a 4 I<|.c rfl (sA e.push s' (by omega)) I<|.a 1 I<|.k [1,3,5,7] I)<|ab (.a 3 I<|.k [1,3,5,7,25] I)<|ae I (λb=>?_) (λb=>?_)
   ·have b:=tt b;rw[QY (by omega)];refine aK<|au 1 I<|ez I (iF p 5 f) I<|au 6 I<|aE [6,7,8] I ?_;exact ao<|QR I (RW (QV (ax.pure (p:=aq []))<|QV (ax.pure (p:=dI p))<|QV ax.pure Rl)) rfl
   ·have b:=ff b;rw[QZ (by omega)];refine aj<|aK<|au 4 I<|ez I (oE p _ e.aA (by first|(simp only[Q0];omega)|omega) g h) I<|au 6 I<|aE [6,7,8] I ?_;exact ao<|QR I (RW (QV (ax.pure (p:=aq e.aA))<|QV (ax.pure (p:=dI ⟨p.id,p.src,p.dst,p.lR,_,p.eB+1⟩))<|QV ax.pure Rl)) rfl
  ·obtain rfl:s=[]:=by
    cases s with
    |nil=>rfl
    |cons a l=>exact absurd (ff h2) (by simp)
   simp only[List.drop_nil];obtain⟨s',d,i⟩:∃s',([]:List bG)=s'/\s'.length<=40:=⟨[],rfl,by simp⟩;refine aj ?_;rw[d];refine ab (.a 4 I<|.c rfl (sA e.push s' (by omega)) I<|.a 1 I<|.k [1,3,5,7] I)<|ab (.a 3 I<|.k [1,3,5,7,25] I)<|ae I (λb=>?_) (λb=>?_)
   ·have b:=tt b;rw[QY (by omega)];refine aK<|au 1 I<|ez I (iF p 5 f) I<|au 6 I<|aE [6,7,8] I ?_;exact ao<|QR I (RW (QV (ax.pure (p:=aq []))<|QV (ax.pure (p:=dI p))<|QV ax.pure Rl)) rfl
   ·have b:=ff b;rw[QZ (by omega)];refine aj<|aK<|au 4 I<|ez I (oE p _ e.aA (by first|(simp only[Q0];omega)|omega) g h) I<|au 6 I<|aE [6,7,8] I ?_;exact ao<|QR I (RW (QV (ax.pure (p:=aq e.aA))<|QV (ax.pure (p:=dI ⟨p.id,p.src,p.dst,p.lR,_,p.eB+1⟩))<|QV ax.pure Rl)) rfl
 ·subst h1;simp only[SX,TW];refine aj<|aK<|au 4 I<|ez I (oE p _ e.aA (by first|(simp only[Q0];omega)|omega) g h) I<|au 6 I<|aE [6,7,8] I ?_;exact ao<|QR I (RW (QV (ax.pure (p:=aq e.aA))<|QV (ax.pure (p:=dI ⟨p.id,p.src,p.dst,p.lR,_,p.eB+1⟩))<|QV ax.pure Rl)) rfl
def cw(x:cQ)(v:Int):jI:=x.ed.getD v.toNat KM
def cU(h:bG):List bG->List bG
 | []=>[]
 |a::l=>if a=h then cU h l else a::l
def zv(T:ak)(x:cQ)(p:dq)(s:List bG)(v:Int)(K:Out):Out:=if(aX T v&&decide (0<((cw x v).aA.length:Int)))=true then fS p s (cw x v) else K
def cB(T:ak)(x:cQ)(p:dq)(s:List bG)(K:Out):Out:=
 if(decide ((s.length:Int)=0)&&decide (p.dst=x.node))=true then⟨[],⟨p.id,p.src,p.dst,p.lR,[],p.eB⟩, -1⟩
 else if(decide (255<=p.eB)||decide (p.eB<0))=true then dZ p 4
 else match s with
  | []=>zv T x p [] p.dst (dZ p 1)
  |a::l=>if a.kind=1 then zv T x p (a::l) a.num K
   else if a.kind=2 then(if(!(ef T a.num)||decide (aZ T a.num.toNat≠x.node))=true then dZ p 2 else if a.num∈x.down then K else dO p l [a.num])
   else dZ p 1
def fX(T:ak)(x:cQ)(p:dq):Out:=
 if((!df T x)|| !(aX T p.dst))=true then dZ p 1
 else if 32<(p.stack.length:Int) then dZ p 5
 else cB T x p (cU ⟨1,x.node⟩ p.stack) (cB T x p [] (dZ p 1))
theorem kW(h:bG):∀l:List bG,(cU h l).length<=l.length
 | []=>Rc _
 |a::l=>by
  simp only[cU];split
  ·have:=kW h l;simp only[Q8];omega
  ·exact Rc _
theorem oy{T}{x:cQ}(h:df T x=true){v:Int}(hv:aX T v=true):∃k:Nat,v=(k:Int)/\x.ed[k]? =some (cw x v)/\(cw x v).push.length<=40/\(cw x v).aA.length<=1000:=by
 unfold df at h;simp only[Q7,Ra]at h;obtain⟨⟨⟨⟨h1,h2⟩,e⟩,f⟩,d⟩:=h;have b:=bO h1;obtain⟨v0,v1⟩:=aQ.1 hv;obtain⟨k,rfl⟩:=QW v0;have hk:k<x.ed.length:=by omega
 have c:x.ed[k]? =some (cw x (k:Int)):=by
  unfold cw;rw[QS,QU,QX hk]
  rfl
 have a:=(Q5 d) k hk;rw[oz _ _ _ c]at a;unfold gL at a;simp only[Q7]at a;refine⟨k,rfl,c,?_,?_⟩
 ·have:=a.2;split at this
  ·simp only[Q7,Ra]at this;omega
  ·simp only[Ra]at this;omega
 ·have:=wM b a.1.1;omega
theorem tU{T}{x:cQ}(h:df T x=true):x.down.length<=1000:=by
 unfold df at h;simp only[Q7]at h;have:=wM (bO h.1.1.1.1) h.1.2;omega
theorem Jv(T : ak)(x : cQ)(p : dq)(i : p.stack.length <= 1000) : Can prog 46 [aL T, dW x, dI p] (· = yV (fX T x p)) := by
  have⟨c1,u⟩:=QQ (df T x);have⟨Z,U⟩:=QQ (aX T p.dst);have⟨n,hn⟩:=QQ (x.node);unfold fX;rw[u,U];refine aF func46 I ntmps46 I<|aK<|au 6 I<|aE [3,4,5,7] I ?_;refine Dm<|ai<|bz 22 (.raw (.bool ((!c1)|| !Z))) [3,4,5,7] I ?_ ?_
  · refine .a 2 I<|.c rfl (u▸vp T x) I<|.a 2 I<|?_;cases c1
    · exact .a 6 I<|.k [22,3,4,5,7] I
    · exact .a 3 I<|.c rfl (U▸ej T p.dst) I<|.a 2 I<|.k [22,3,4,5,7] I
  refine ae I (λh1=>?_) (λh1=>?_)
  · rw[QY h1];refine aK<|au 1 I<|ez I (iF p 1 i) I<|au 6 I<|aE [6,7,8] I ?_;exact ao<|QR I (RW (QV (ax.pure (p:=aq []))<|QV (ax.pure (p:=dI p))<|QV ax.pure Rl)) rfl
  · rw [QZ (by rw [h1]; simp)];obtain⟨rfl,rfl⟩:c1=true/\Z=true:=by revert h1;cases c1<;>cases Z<;>simp
    refine aj<|ai<|ab (.a 1 I<|.v (aJ I ((rfl:(cY p)[4]? =some (cr p.stack)))) I<|.a 2 I<|.k [3,4,5,7,31] I)<|ae I (λh2=>?_) (λh2=>?_)
    · rw[QY (tt h2)];refine aK<|au 1 I<|ez I (iF p 5 i) I<|au 6 I<|aE [6,7,8] I ?_;exact ao<|QR I (RW (QV (ax.pure (p:=aq []))<|QV (ax.pure (p:=dI p))<|QV ax.pure Rl)) rfl
    · rw [QZ (ff h2)];have ad:p.stack.length<=32:=by have:=ff h2;omega
      refine aj<|ab (.a 1 I<|.v (aJ I ((rfl:(cY p)[4]? =some (cr p.stack)))) I<|.a 1 I<|.k [3,4,5,7,9] I)<|aK<|au 1 I<|bm (aJ I ((show(fi x)[0]? =some (num n) by rw[<-hn];rfl))) I<|au 3 I<|aE [3,4,5,7,9,10] I ?_;refine ai<|aw<|eF [3,4,5,7,9,10] I<|bd (λr st=>∃s:List bG,s.length<=32/\r=s.length/\cU ⟨1,n⟩ p.stack=cU ⟨1,n⟩ s/\st=⟨[(3,.bq (bn T) 0),(4,.bq (fi x) 0),(5,.bq (cY p) 0),(7,.ptr 0 0),(9,cr s),(10,.ptr 1 0)],[some (.cells 44 [num 0,num 0,num 0,num 0,.raw (.slice none 0 0),num 0]),some (.cells 136 [num 1,num n])]⟩) p.stack.length ⟨p.stack,ad,rfl,rfl,rfl⟩ ?_;rintro r st ⟨s,hs,rfl,y,rfl⟩;have⟨e1,w⟩:=QQ (decide (0<(s.length:Int)));have⟨a,W⟩:=QQ (s.getD 0 ⟨0,0⟩);have⟨e2,D⟩:=QQ (decide (a=(⟨1,n⟩:bG)));refine ai<|iY mixed (by kernel_rfl) 51 (.raw (.bool (e1&&e2))) [3,4,5,7,9,10] I ?_ ?_
      · refine .a 2 I<|.v [43] (bW I (w)) I I<|.a 1 I<|?_;cases e1
        · exact .a 6 I<|.k [51,3,4,5,7,9,10] I
        · exact .a 1 I<|.v [46] (aM (0) I (by omega) (by have:=tt w;omega)) I I<|.v [47] (gj I (il s 0 a (by rw[<-W];have:=tt w;rw[QU,QX (by omega)];rfl)) I) I I<|.a 1 I<|.v [48,49] (BD I I (b:=⟨1,n⟩) I D) I I<|.a 1 I<|.k [51,3,4,5,7,9,10] I
      refine ae I (λt=>?_) (λt=>?_)
      · obtain⟨rfl,rfl⟩:=Q3.1 t;obtain⟨l,rfl⟩:∃l,s=(⟨1,n⟩:bG)::l:=by
          have F:=tt D;cases s with
          |nil=>exact absurd (tt w) (by simp)
          |cons b l=>exact⟨l,by rw[<-F,<-W];rfl⟩
        simp only[cU,Sw]at y;refine aj<|aw<|aC (.a 1 I<|.v (iv I (RP I) I I) I<|.a 1 I<|.k [3,4,5,7,9,10] I) ?_;exact⟨l.length,by simp,l,by simp at hs;omega,rfl,y,rfl⟩
      · have y:cU ⟨1,n⟩ p.stack=s:=by
          rw[y];cases s with
          |nil=>rfl
          |cons b l=>
            have aa:e1=true:=by rw[<-w];simp
            rw[aa,RM]at t;rw[t]at D;have Q:=ff D;simp only[cU];rw[QZ (by rw[<-W]at Q;exact Q)]
        rw[hn,y];clear w W D t;refine ba<|ai<|Dl ?_;refine aw<|eF [3,4,5,7,9] I<|bd (λr st=>∃(s':List bG) (z:PV),gZ z (cr s')/\s'.length<=32/\r=s'.length/\cB T x p s (cB T x p [] (dZ p 1))=cB T x p s' (cB T x p [] (dZ p 1))/\st=⟨[(3,.bq (bn T) 0),(4,.bq (fi x) 0),(5,.bq (cY p) 0),(7,.ptr 0 0),(9,z)],[some (.cells 44 [num 0,num 0,num 0,num 0,.raw (.slice none 0 0),num 0]),some (.cells 136 [num 1,num n])]⟩) s.length ⟨s,_,Tv _,hs,rfl,rfl,rfl⟩ ?_;clear y hs;rintro r st ⟨s',z,hz,hs,rfl,hR,rfl⟩;refine iB (t':=[(3,.bq (bn T) 0),(4,.bq (fi x) 0),(5,.bq (cY p) 0),(7,.ptr 0 0),(9,cr s')]) ?_ ?_
        · exact Sub.cons rfl<|Sub.cons rfl<|Sub.cons rfl<|Sub.cons rfl<|Sub.Nn rfl hz<|Sub.nil _
        clear hz;rw[hR];clear hR;have⟨V,H⟩:=QQ (cB T x p [] (dZ p 1));rw[H];have⟨R,hS⟩:=QQ (cB T x p s' V);rw[hS];have c:=hS;unfold cB at c;have⟨c5,N⟩:=QQ (decide ((s'.length:Int)=0));have⟨c6,O⟩:=QQ (decide (p.dst=n));have⟨c7,J⟩:=QQ (decide (255<=p.eB));have⟨c8,K⟩:=QQ (decide (p.eB<0));rw[N,hn,O,J,K]at c;refine aw<|ai<|bz 63 (.raw (.bool (c5&&c6))) [3,4,5,7,9] I ?_ ?_
        · refine .a 2 I<|.v (bW I (N)) I<|.a 1 I<|?_;cases c5
          · exact .a 6 I<|.k [63,3,4,5,7,9] I
          · exact .a 1 I<|.v (aJ I ((rfl:(cY p)[2]? =some (num p.dst)))) I<|.a 1 I<|.v (aJ I ((show(fi x)[0]? =some (num n) by rw[<-hn];rfl))) I<|.v (bW I (O)) I<|.a 1 I<|.k [63,3,4,5,7,9] I
        refine ae I (λh1=>?_) (λh1=>?_)
        · rw[QY h1]at c;subst c;refine aK<|au 1 I<|bm (sT I (QV ax.pure<|QV ax.bH Rl) (vw p [] (by simp))) I<|au 3 I<|aE [6,7,8] I ?_;exact ao<|QR I (RW (QV ax.bH<|QV (ax.pure (p:=dI ⟨p.id,p.src,p.dst,p.lR,[],p.eB⟩))<|QV ax.pure Rl)) rfl
        · rw [QZ (by rw [h1]; simp)] at c;refine aj<|ai<|bz 73 (.raw (.bool (c7||c8))) [3,4,5,7,9] I ?_ ?_
          · refine .a 1 I<|.v (aJ I ((rfl:(cY p)[5]? =some (num p.eB)))) I<|.v (bW I (J)) I<|.a 1 I<|?_;cases c7
            · exact .a 1 I<|.v (aJ I ((rfl:(cY p)[5]? =some (num p.eB)))) I<|.v (bW I (K)) I<|.a 1 I<|.k [73,3,4,5,7,9] I
            · exact .a 4 I<|.k [73,3,4,5,7,9] I
          refine ae I (λh2=>?_) (λh2=>?_)
          · rw[QY h2]at c;subst c;refine aK<|au 1 I<|ez I (iF p 4 i) I<|au 6 I<|aE [6,7,8] I ?_;exact ao<|QR I (RW (QV (ax.pure (p:=aq []))<|QV (ax.pure (p:=dI p))<|QV ax.pure Rl)) rfl
          · rw [QZ (by rw [h2]; simp)] at c;have hh:0<=p.eB/\p.eB<=1000:=by
              obtain⟨t,F⟩:=Rt.1 h2;rw[<-J]at t;rw[<-K]at F;have:=ff t;have:=ff F;omega
            clear N O J K h1 h2;refine aj ?_;have⟨v,hv⟩:=QQ (p.dst);refine ab (.a 1 I<|.v (aJ I ((show(cY p)[2]? =some (num v) by rw[<-hv];rfl))) I<|.a 1 I<|.k [3,4,5,7,9,11] I)<|ai<|ab (.a 3 I<|.k [3,4,5,7,9,11,83] I)<|ae I (λt=>?_) (λt=>?_)
            · have m:0<s'.length:=by have:=tt t;omega
              obtain⟨a,l,g⟩:∃a l,s'=a::l:=by
                cases s' with
                |nil=>exact absurd m (by simp)
                |cons a l=>exact⟨a,l,rfl⟩
              have h0:s'[0]? =some a:=by rw[g];rfl
              rw[g]at c;dsimp only at c;rw[<-g]at c;clear hv;have⟨v,hv⟩:=QQ (a.num);rw[hv]at c;refine ab (.a 1 I<|.v (aM (0) I (by omega) (by omega)) I<|.a 1 I<|.v (aJ I (((NT s' 0 a h0).trans (by rw[hv])))) I<|.a 1 I<|.k [3,4,5,7,9,11] I)<|ab (.a 1 I<|.v (aM (0) I (by omega) (by omega)) I<|.a 1 I<|.v (aJ I ((NS s' 0 a h0))) I<|.k [3,4,5,7,9,11,91] I)<|aw<|ab (.a 2 I<|.k [3,4,5,7,9,11,91,97] I)<|ae I (λF=>?_) (λF=>?_)
              · rw[QY (tt F)]at c;obtain⟨E,A,B,C⟩:∃E,E=V/\(s'.length=0->E=dZ p 1)/\(0<s'.length->E=V):=⟨_,rfl,λh=>absurd h (by omega),λh=>rfl⟩;rw[<-A]at c;clear A t F g hv h0;refine aj<|ai ?_;have⟨o,d⟩:=QQ (aX T v);have q:=ej T v;rw[d]at q;unfold zv at c;have f:o=true->x.ed[v.toNat]? =some (cw x v)/\(cw x v).push.length<=40/\(cw x v).aA.length<=1000/\v<(x.ed.length:Int)/\0<=v:=λh=>by
                  obtain⟨k,rfl,g1,g2,g3⟩:=oy u (d.trans h);have:=(QT.1 g1).1;exact⟨g1,g2,g3,by omega,by omega⟩
                have⟨e,he⟩:=QQ (cw x v);have⟨X,j⟩:=QQ (decide (0<(e.aA.length:Int)));rw[he]at f c;rw[d,j]at c;refine ya (Q1:=λst=>st=⟨[(143,flag (o&&X)),(3,.bq (bn T) 0),(4,.bq (fi x) 0),(5,.bq (cY p) 0),(7,.ptr 0 0),(9,cr s'),(11,num v)],[some (.cells 44 [num 0,num 0,num 0,num 0,.raw (.slice none 0 0),num 0]),some (.cells 136 [num 1,num n])]⟩) ?_ ?_
                · cases o
                  · refine aC (.a 2 I<|.c rfl (q) I<|.a 10 I<|.k [143,3,4,5,7,9,11] I) ?_
                    rfl
                  · refine aC (.a 2 I<|.c rfl (q) I<|.a 2 I<|.v (aJ I ((rfl:(fi x)[1]? =some (iW x.ed)))) I<|.a 1 I<|.v (aM ((v.toNat*3)) I (f rfl).2.2.2.2 (f rfl).2.2.2.1) I<|.a 1 I<|.v (aJ I ((tZ x.ed v.toNat 0 e (f rfl).1 (by omega)))) I<|.a 1 I<|.v (bW I (j)) I<|.a 1 I<|.k [143,3,4,5,7,9,11] I) ?_
                    rfl
                rintro _ rfl;refine ae I (λG=>?_) (λG=>?_)
                · rw[QY G]at c;obtain⟨g1,g2,g3,g4,g5⟩:=f (Q3.1 G).1;subst c;refine jt 12 20 mixed (.val [5] I (bb I) I I<|.val [9] I (bb I) I I<|.val [4] I (bb I) I I<|.val [146] I (aJ I ((rfl:(fi x)[1]? =some (iW x.ed)))) I I<|.val [11] I (bb I) I I<|.val [147,148] I (aM ((v.toNat*3)) I g5 g4) I I<|.val [149] I (gj I ((lM x.ed v.toNat e g1)) I) I I<|.val [144,145,150] I (dX I (wA p s' e (by omega) g2 g3 i hh)) I I<|.val [151] I (bb I) I I<|.val [151] I (bb I) I I<|.val [151] I (bb I) I I<|.val [152] I (bb I) I I<|.nil) (by kernel_rfl) I I (aR (ks:=[6,7,153,154]) I)<|au 2 I<|aE [6,7,8] I ?_;exact ao<|QR I (RW (QV (ax.pure (p:=aq (fS p s' e).aA))<|QV (ax.pure (p:=dI (fS p s' e).eJ))<|QV ax.pure Rl)) rfl
                · rw[QZ (by rw[G];simp)]at c;refine aj<|ai<|ab (.a 3 I<|.k [3,4,5,7,157] I)<|ae I (λM=>?_) (λM=>?_)
                  · rw[B (by have:=tt M;omega)]at c;subst c;refine aK<|au 1 I<|ez I (iF p 1 i) I<|au 6 I<|aE [6,7,8] I ?_;exact ao<|QR I (RW (QV (ax.pure (p:=aq []))<|QV (ax.pure (p:=dI p))<|QV ax.pure Rl)) rfl
                  · have m:0<s'.length:=by have:=ff M;omega
                    rw[C m]at c;refine aj<|aC (.a 1 I<|.k [3,4,5,7,9] I) ?_;exact⟨0,m,[],_,gZ.bH,by simp,rfl,c.symm.trans (H.symm.trans rfl),rfl⟩
              · rw[QZ (ff F)]at c;refine ab (.a 2 I<|.k [3,4,5,7,9,11,99] I)<|ae I (λQ=>?_) (λQ=>?_)
                · rw[QY (tt Q)]at c;have⟨c9,P⟩:=QQ (ef T v);have⟨Y,L⟩:=QQ (decide (aZ T v.toNat≠n));have S:=s4 T (by have h:=u;unfold df at h;simp only[Q7]at h;have:=bO h.1.1.1.1;omega) v;rw[P]at S;rw[P,L]at c;refine ai<|iY mixed (by kernel_rfl) 112 (.raw (.bool ((!c9)||Y))) [3,4,5,7,9,11] I ?_ ?_
                  · refine .a 2 I<|.v [101,102] (dX I (S)) I I<|.a 2 I<|?_;cases c9
                    · exact .a 7 I<|.k [112,3,4,5,7,9,11] I
                    · exact .a 2 I<|.v [106,107] (dX I (rU T v P)) I I<|.a 1 I<|.v [109] (aJ I ((show(fi x)[0]? =some (num n) by rw[<-hn];rfl))) I I<|.v [108,110] (bW I (L)) I I<|.a 1 I<|.k [112,3,4,5,7,9,11] I
                  refine ae I (λh6=>?_) (λh6=>?_)
                  · rw[QY h6]at c;subst c;refine aK<|au 1 I<|ez I (iF p 2 i) I<|au 6 I<|aE [6,7,8] I ?_;exact ao<|QR I (RW (QV (ax.pure (p:=aq []))<|QV (ax.pure (p:=dI p))<|QV ax.pure Rl)) rfl
                  · rw[QZ (by rw[h6];simp)]at c;refine aj<|ai<|ab (.a 1 I<|.v (aJ I ((rfl:(fi x)[2]? =some (aq x.down)))) I<|.a 1 I<|.c rfl (vY x.down v (tU u)) I<|.k [3,4,5,7,9,11,121] I)<|ae I (λh7=>?_) (λh7=>?_)
                    · rw[QY (tt h7)]at c;exact ab (.a 1 I<|.k [3,4,5,7,9] I)<|ba<|⟨0,m,[],_,gZ.bH,by simp,rfl,c.symm.trans (H.symm.trans rfl),rfl⟩
                    · rw[QZ (ff h7)]at c;subst c;subst g;refine aj<|jt 10 20 mixed (.val [5] I (bb I) I I<|.val [9] I (bb I) I I<|.val [123] I (iv I (RP I) I I) I I<|.val [11] I (bb I) I I<|.val [125] I (bb I) I I<|.val [122,124,126] I (dX I (oE p l [v] (by simp at hs;omega) (by simp) hh)) I I<|.val [127] I (bb I) I I<|.val [127] I (bb I) I I<|.val [127] I (bb I) I I<|.val [128] I (bb I) I I<|.nil) (by kernel_rfl) I I (aR (ks:=[6,7,129,130]) I) ?_;refine au 2 I<|aE [6,7,8] I ?_;exact ao<|QR I (RW (QV (ax.pure (p:=aq [v]))<|QV (ax.pure (p:=dI (dO p l [v]).eJ))<|QV ax.pure Rl)) rfl
                · rw[QZ (ff Q)]at c;subst c;refine aK<|au 1 I<|ez I (iF p 1 i) I<|au 6 I<|aE [6,7,8] I ?_;exact ao<|QR I (RW (QV (ax.pure (p:=aq []))<|QV (ax.pure (p:=dI p))<|QV ax.pure Rl)) rfl
            · have g:s'=[]:=by
                cases s' with
                |nil=>rfl
                |cons a l=>exact absurd (ff t) (by simp)
              rw[g]at c;dsimp only at c;rw[<-g,hv]at c;obtain⟨E,A,B,C⟩:∃E,E=dZ p 1/\(s'.length=0->E=dZ p 1)/\(0<s'.length->E=V):=⟨_,rfl,λ_=>rfl,λh=>absurd h (by rw[g];simp)⟩;rw[<-A]at c;clear A t g hv;refine aj<|ai ?_;have⟨o,d⟩:=QQ (aX T v);have q:=ej T v;rw[d]at q;unfold zv at c;have f:o=true->x.ed[v.toNat]? =some (cw x v)/\(cw x v).push.length<=40/\(cw x v).aA.length<=1000/\v<(x.ed.length:Int)/\0<=v:=λh=>by
                obtain⟨k,rfl,g1,g2,g3⟩:=oy u (d.trans h);have:=(QT.1 g1).1;exact⟨g1,g2,g3,by omega,by omega⟩
              have⟨e,he⟩:=QQ (cw x v);have⟨X,j⟩:=QQ (decide (0<(e.aA.length:Int)));rw[he]at f c;rw[d,j]at c;refine ya (Q1:=λst=>st=⟨[(143,flag (o&&X)),(3,.bq (bn T) 0),(4,.bq (fi x) 0),(5,.bq (cY p) 0),(7,.ptr 0 0),(9,cr s'),(11,num v)],[some (.cells 44 [num 0,num 0,num 0,num 0,.raw (.slice none 0 0),num 0]),some (.cells 136 [num 1,num n])]⟩) ?_ ?_
              · cases o
                · refine aC (.a 2 I<|.c rfl (q) I<|.a 10 I<|.k [143,3,4,5,7,9,11] I) ?_
                  rfl
                · refine aC (.a 2 I<|.c rfl (q) I<|.a 2 I<|.v (aJ I ((rfl:(fi x)[1]? =some (iW x.ed)))) I<|.a 1 I<|.v (aM ((v.toNat*3)) I (f rfl).2.2.2.2 (f rfl).2.2.2.1) I<|.a 1 I<|.v (aJ I ((tZ x.ed v.toNat 0 e (f rfl).1 (by omega)))) I<|.a 1 I<|.v (bW I (j)) I<|.a 1 I<|.k [143,3,4,5,7,9,11] I) ?_
                  rfl
              rintro _ rfl;refine ae I (λG=>?_) (λG=>?_)
              · rw[QY G]at c;obtain⟨g1,g2,g3,g4,g5⟩:=f (Q3.1 G).1;subst c;refine jt 12 20 mixed (.val [5] I (bb I) I I<|.val [9] I (bb I) I I<|.val [4] I (bb I) I I<|.val [146] I (aJ I ((rfl:(fi x)[1]? =some (iW x.ed)))) I I<|.val [11] I (bb I) I I<|.val [147,148] I (aM ((v.toNat*3)) I g5 g4) I I<|.val [149] I (gj I ((lM x.ed v.toNat e g1)) I) I I<|.val [144,145,150] I (dX I (wA p s' e (by omega) g2 g3 i hh)) I I<|.val [151] I (bb I) I I<|.val [151] I (bb I) I I<|.val [151] I (bb I) I I<|.val [152] I (bb I) I I<|.nil) (by kernel_rfl) I I (aR (ks:=[6,7,153,154]) I)<|au 2 I<|aE [6,7,8] I ?_;exact ao<|QR I (RW (QV (ax.pure (p:=aq (fS p s' e).aA))<|QV (ax.pure (p:=dI (fS p s' e).eJ))<|QV ax.pure Rl)) rfl
              · rw[QZ (by rw[G];simp)]at c;refine aj<|ai<|ab (.a 3 I<|.k [3,4,5,7,157] I)<|ae I (λM=>?_) (λM=>?_)
                · rw[B (by have:=tt M;omega)]at c;subst c;refine aK<|au 1 I<|ez I (iF p 1 i) I<|au 6 I<|aE [6,7,8] I ?_;exact ao<|QR I (RW (QV (ax.pure (p:=aq []))<|QV (ax.pure (p:=dI p))<|QV ax.pure Rl)) rfl
                · have m:0<s'.length:=by have:=ff M;omega
                  rw[C m]at c;refine aj<|aC (.a 1 I<|.k [3,4,5,7,9] I) ?_;exact⟨0,m,[],_,gZ.bH,by simp,rfl,c.symm.trans (H.symm.trans rfl),rfl⟩
end
section
open Go.RowKit cG Mem Net
section
variable {T:ak} {D:List Bool}
theorem Ch.snoc{d n:Nat}{q:List Int}(h:Ch T D d n q):∀ {a x:Nat},(q=[]\/bR T d=false)->a<2*T.ah.length->aZ T a=(d:Int)->aI D a=false->aN T a=(x:Int)->Ch T D x n (q++[(a:Int)]):=by
 induction h with
 |nil=>intro a x _ h1 h2 e f;exact .cons h1 h2 e f (.inl rfl) .nil
 | @cons n b m p hb j hu hm i hp k=>
  intro a x g h1 h2 e f;have c:bR T d=false:=by rcases g with h|h;cases h;exact h
  refine .cons hb j hu hm ?_ (k (.inr c) h1 h2 e f);rcases i with h|h
  ·have:=hp.to h;subst this;exact .inr c
  ·exact .inr h
theorem Nv(hv:av T=true){n:Nat}(hn:(n:Int)<T.nodes){d m:Nat}{p:List Int}(h:Ch T D d m p)(h0:0<=at' (bJ T D n true) (m:Int))(g:p=[]\/m=n\/bR T m=false):0<=at' (bJ T D n true) (d:Int):=by
 have e:=kH (aS hv) D true hn;induction h with
 |nil=>exact h0
 | @cons m a j p f c hu hm b hp i=>
  have hw:=e.closed a f ⟨hu,by simp only[du,Sw];rw[c];exact h0,by
   simp only[du,Sw];rw[c];rcases g with h|h|h
   ·cases h
   ·exact .inl (by rw[h])
   ·exact .inr (by simpa using h)⟩
  simp only[fY,Sw]at hw;rw[hm]at hw;refine i hw.1 ?_;rcases b with h|h
  ·exact .inl h
  ·exact .inr (.inr h)
theorem Nw(hv:av T=true){n:Nat}(hn:(n:Int)<T.nodes):∀(k x:Nat),(x:Int)<T.nodes->0<=at' (bJ T D n true) (x:Int)->at' (bJ T D n true) (x:Int)<=k->0<=dN T D x n:=by
 have g:=aS hv;have o:=kH g D true hn;intro k;induction k with
 |zero=>
  intro x hx h0 hk;rcases o.o7 x hx h0 with h|⟨a,d,j,i,hs⟩
  ·subst h;rw[fE hv hn];exact SI _
  ·have:=(g.cost a d).1;have:=i.2.1;omega
 |succ k p=>
  intro x hx h0 hk;rcases o.o7 x hx h0 with h|⟨a,d,j,i,hs⟩
  ·subst h;rw[fE hv hn];exact SI _
  ·simp only[fY,du,Sw]at j hs;obtain⟨hu,b,c⟩:=i;simp only[du,Sw]at b c;have hc:=(g.cost a d).1;have m:=g.tail a d;obtain⟨y,hy⟩:=QW m.1;rw[hy]at b c hs m;have f:(y:Int)<T.nodes:=m.2;have h1:=p y f b (by omega);have e:=fM (D:=D) hv f hn h1;have l:=e.ch.snoc (a:=a) (x:=x) (by
    rcases c with h|h
    ·have:y=n:=by omega
     subst this;exact .inl e.self
    ·exact .inr (by simpa using h)) d hy hu j
   exact(l.le hv hx).1
theorem KR(hv:av T=true){n d:Nat}(hn:(n:Int)<T.nodes)(hd:(d:Int)<T.nodes):0<=(bJ T D n true).getD d 0↔0<=dN T D d n:=by
 have c:=aS hv;have b:=kH c D true hn;have hl:=b.len;have e:(bJ T D n true).getD d 0=at' (bJ T D n true) (d:Int):=by
  unfold at';rw[QS,QU,QU,QX (by omega)]
  rfl
 rw[e];constructor
 ·intro h0;exact Nw hv hn (at' (bJ T D n true) (d:Int)).toNat d hd h0 (by have:=Int.toNat_of_nonneg h0;omega)
 ·intro h0;have a:=fM (D:=D) hv hd hn h0;refine Nv hv hn a.ch ?_ (.inr (.inl rfl));rw[b.root];exact SI _
end
open eE
def gN(T:ak)(a:Nat):Int:=(cP T.ah (a / 2)).wG
noncomputable def iO(T:ak)(D:List Bool)(n d:Int):Bool:=decide (gG T D n d=0)
noncomputable def dx(T:ak)(a:Nat)(d:Int):Int×Int:=
 if(decide (0<gN T a)&&iO T (az T 3 (gN T a)) (aZ T a) d)=true then(3,gN T a)
 else if(decide (aN T a≠d)&&iO T (az T 2 (aN T a)) (aZ T a) d)=true then(2,aN T a)
 else(1,((a / 2:Nat):Int))
def eS(T:ak)(M:List Bool)(n:Int):List Bool:=(List.range (2*T.ah.length)).map λa=>aI M a&&decide (aZ T a=n)
def orM(T:ak)(D E:List Bool):List Bool:=(List.range (2*T.ah.length)).map λa=>aI D a||aI E a
theorem uC{f:Nat->Bool}{n a:Nat}:aI ((List.range n).map f) a=(decide (a<n)&&f a):=by
 unfold aI;rw[QU,RE];by_cases h:a<n
 ·rw[Th h];simp[h]
 ·rw[RJ (by simp;omega)];simp[h]
theorem uD{T:ak}{f:Nat->Bool}:bN T ((List.range (2*T.ah.length)).map f)=true:=by simp[bN]
theorem wS{T:ak}{k x:Int}{a:Nat}:aI (az T k x) a=(decide (a<2*T.ah.length)&&cO k x T.ah (a / 2)):=uC
theorem jE{T:ak}{M}{n:Int}{a:Nat}:aI (eS T M n) a=(decide (a<2*T.ah.length)&&(aI M a&&decide (aZ T a=n))):=uC
theorem D1{T:ak}{D E}{a:Nat}:aI (orM T D E) a=(decide (a<2*T.ah.length)&&(aI D a||aI E a)):=uC
theorem cM(T:ak)(k x:Int):bN T (az T k x)=true:=uD
theorem uM(T:ak)(M:List Bool)(n:Int):bN T (eS T M n)=true:=uD
theorem yU(T:ak)(D E:List Bool):bN T (orM T D E)=true:=uD
theorem oM{T:ak}{D}{x y:Nat}(hv:av T=true)(a:bN T D=true)(hx:(x:Int)<T.nodes)(hy:(y:Int)<T.nodes):iO T D x y=true↔0<=dN T D y x:=by
 unfold iO;rw[Ra,gh hv a hx hy];split<;>omega
theorem wH{T:ak}(hv:av T=true){a:Nat}(b:a<2*T.ah.length):0<=gN T a/\gN T a<=64:=by
 have h:=vt hv (a / 2) (by omega);unfold gN;unfold jO at h;rw[Q7]at h;unfold bQ at h;exact Q5 h.2
theorem zH{T:ak}(hv:av T=true){a:Nat}(b:a<2*T.ah.length)(d:Int):cd T (dx T a d).1 (dx T a d).2=true:=by
 have c:=wH hv b;unfold dx;split
 ·rename_i h;rw[Q7,Ra]at h;show cd T 3 (gN T a)=true;unfold cd;simp only[QZ (show ¬(3:Int)=1 by decide),QZ (show ¬(3:Int)=2 by decide),Sw,Q7,Ra];exact⟨by omega,by omega⟩
 ·split
  ·obtain⟨h0,h1⟩:=(aS hv).head a b;show cd T 2 (aN T a)=true;unfold cd;simp only[QZ (show ¬(2:Int)=1 by decide),Sw];exact aQ.2 ⟨h0,h1⟩
  ·show cd T 1 ((a / 2:Nat):Int)=true;unfold cd;simp only[Sw,Q7,Ra];exact⟨by omega,by omega⟩
def fA(own:List Bool)(l:List Int):Option Int:=l.find? λa=>aI own a.toNat
noncomputable def ld(T:ak)(own:List Bool)(n d:Int)(a:Nat):List Bool:=
 if iO T (orM T (az T (dx T a d).1 (dx T a d).2) own) n d=true then orM T (az T (dx T a d).1 (dx T a d).2) own else own
noncomputable def mZ(T:ak)(own:List Bool)(n d:Nat):jI:=match fA own (bu T [] n d)with
 |none=>⟨bu T [] n d,false,[]⟩
 |some a=>fZ T (ld T own n d a.toNat) n d
noncomputable def pz(T:ak)(own:List Bool)(n k:Nat):List jI:=(List.range k).map λd=>mZ T own n d
theorem xl(T:ak)(own:List Bool)(n k:Nat):pz T own n (k+1)=pz T own n k++[mZ T own n k]:=by simp[pz,R2]
theorem qz(T:ak)(own:List Bool)(n k:Nat):(pz T own n k).length=k:=by simp[pz]
theorem AX{T own}{n k d:Nat}(h:d<k):(pz T own n k)[d]? =some (mZ T own n d):=by simp[pz,h]
noncomputable def sQ(T:ak)(M:List Bool)(n:Nat):cQ:=⟨n,pz T (eS T M n) n T.nodes.toNat,cI M (bK T n)⟩
section
variable {T:ak} {M own:List Bool} {n d:Nat}
theorem nQ(b:bN T own=true)(a:Nat):bN T (ld T own n d a)=true:=by
 unfold ld;split
 ·exact yU _ _ _
 ·exact b
theorem Lm{a b:Nat}(hb:b<2*T.ah.length)(h:aI (ld T own n d a) b=false):aI own b=false:=by
 unfold ld at h;split at h
 ·rw[D1,Rb hb,RM,Rt]at h;exact h.2
 ·exact h
theorem D3{b:Nat}(hb:b<2*T.ah.length)(a:aZ T b=(n:Int))(h:aI (eS T M n) b=false):aI M b=false:=by
 rw[jE,Rb hb,Rb a]at h;simpa using h
theorem Ic{l:List Int}(h:fA own l=none):∀a∈l,aI own a.toNat=false:=λa b=>by
 have:=List.find?_eq_none.1 h a b;simpa using this
theorem nJ{l:List Int}{a:Int}(h:fA own l=some a):a∈l/\aI own a.toNat=true:=⟨List.mem_of_find?_eq_some h,by have:=List.find?_some (p:=λa:Int=>aI own a.toNat) h;exact this⟩
theorem NM(hv:av T=true)(cS:T.nodes<=12):gL T n d (mZ T own n d)=true:=by
 unfold mZ;cases fA own (bu T [] n d)with
 |some b=>exact HT _ _ _ _ cS
 |none=>
  unfold gL;simp only[uz,RM];by_cases a:d=n
  ·subst a;rw[ku];simp
  ·rw[Rg (by omega)];simp
theorem F5(hv:av T=true)(cS:T.nodes<=12)(hn:(n:Int)<T.nodes):df T (sQ T M n)=true:=by
 unfold df sQ;have h1:aX T (n:Int)=true:=aQ.2 ⟨by omega,hn⟩;have hN:=(aS hv).nodes;have h2:decide (((pz T (eS T M n) n T.nodes.toNat).length:Int)=T.nodes)=true:=Rb (by rw[qz];omega);have a:fe T n (cI M (bK T n))=true:=oF T n _;have b:nD T n (pz T (eS T M n) n T.nodes.toNat)=true:=jb λd e he=>by
  have hd:d<T.nodes.toNat:=by
   have:=(QT.1 he).1;rwa [qz]at this
  rw[AX hd]at he;cases he;exact NM hv cS
 rw[hv,h1,h2,a,b]
 rfl
end
end
section
open Go.RowKit cG Mem Net
section
variable {T:ak} {D:List Bool}
theorem fy.tail{n y m:Nat}{a:Int}{p:List Int}(h:fy T D n y (a::p))(hm:aN T a.toNat=(m:Int)):(p=[]/\m=y)\/fy T D m y p:=by
 have o:=h.sp;cases o with
 | @cons n a g p w t hp=>
  rw[QS,t]at hm;have e:g=m:=by omega
  subst e;cases p with
  |nil=>cases hp;exact .inl ⟨rfl,rfl⟩
  |cons b p=>
   refine .inr ?_;have d:=h.part (i:=1) (k:=p.length+1) (by omega) (by simp);have hb:∃b':Nat,b=(b':Int)/\aZ T b'=(g:Int):=by
    cases hp with
    |cons l _ _=>exact⟨_,rfl,l.tail⟩
   obtain⟨b',rfl,j⟩:=hb;have f:=h.sp.ch.fin;have c:aN T (((a:Int)::(b':Int)::p).getD (p.length+1) 0).toNat=(y:Int):=by
    rw[<-f];have:=fP T (n:Int) ((a:Int)::(b':Int)::p) (p.length+1) (by simp);rw[<-this,SJ (by simp)]
   rw[c]at d;have q:aZ T (((a:Int)::(b':Int)::p).getD 1 0).toNat=(g:Int):=j;rw[q]at d;obtain⟨u,v,x,z,hs,_⟩:=Eg d;have r:g=u:=by omega
   have s:y=v:=by omega
   subst r;subst s;have:=hs.sp.unique hs.valid hs.hy hp hs.mn;rw[this]at hs;exact hs
theorem fy.HX{E}{n y:Nat}{p:List Int}(h:fy T D n y p)(d:bN T E=true)(b:∀a,aI D a=false->aI E a=false):fy T E n y p:=
 ⟨h.valid,d,h.ne,h.hx,h.hy,h.uniq,h.sp,λa c=>b _ (h.up a c)⟩
inductive mr (T:ak) (D:List Bool) (d:Nat):Nat->List bG->List Int->Prop
 |nil:mr T D d d [] []
 |node {n y:Nat} {p q:List Int} {l:List bG}:fy T D n y p->mr T D d y l q->mr T D d n (⟨1,(y:Int)⟩::l) (p++q)
 |eZ {n a m:Nat} {q:List Int} {l:List bG}:a<2*T.ah.length->aZ T a=(n:Int)->aI D a=false->aN T a=(m:Int)->mr T D d m l q->mr T D d n (⟨2,(a:Int)⟩::l) ((a:Int)::q)
theorem mr.len{d n:Nat}{l:List bG}{q:List Int}(h:mr T D d n l q):l.length<=q.length:=by
 induction h with
 |nil=>exact Rc _
 |node hs _ a=>have:=hs.pos;simp only[Q8,Q0];omega
 |eZ _ _ _ _ _ a=>simp only[Q8];omega
theorem mr.skip{d n:Nat}{l}{q:List Int}(h:mr T D d n l q):cU ⟨1,(n:Int)⟩ l=l:=by
 cases h with
 |nil=>rfl
 |node hs _=>
  have a:=hs.ne;simp only[cU];rw[QZ (λe=>by cases e;exact a rfl)]
 |eZ _ _ _ _ _=>
  simp only[cU];rw[QZ (λe=>by cases e)]
theorem mr.end_{d n:Nat}{l}(h:mr T D d n l []):l=[]/\n=d:=by
 generalize a:([]:List Int)=q at h;cases h with
 |nil=>exact⟨rfl,rfl⟩
 |node hs _=>
  have:=hs.pos;have h2:=Sc List.length a;simp only[S7,Q0]at h2;omega
 |eZ _ _ _ _ _=>cases a
structure Of (T:ak) (D:List Bool) (n:Nat) (x:cQ):Prop where
 ok:df T x=true
 node:x.node=(n:Int)
 down:∀a:Nat,(a:Int)∈x.down->aI D a=true
 OV:∀(y:Nat) p,fy T D n y p->(cw x (y:Int)).aA=[p.getD 0 0]/\((cw x (y:Int)).rep=true->(cw x (y:Int)).push=[⟨1,(y:Int)⟩])
theorem yI{n:Int}{p:List Int}{d:Nat}(h:rZ T D n p)(g:cV T n p=(d:Int)):∀(f i u:Nat),p.length - i<=f->i<=p.length->cV T n (p.take i)=(u:Int)->mr T D d u (iJ T [] n p f i) (p.drop i)
 |f,i,u,z,hi,hu=>by
  by_cases c:i<p.length
  ·cases f with
   |zero=>omega
   |succ f=>
    have o:=h.aA;cases w:kc (fc T [] n p i) i p.length with
    |none=>
     rw[nM c (λk h1 h2=>lx _ w k h1 h2)];obtain⟨v,hv,_⟩:=cJ h.valid h.node o (i+1) (by omega);have h1:=fP T n p i c;rw[hv]at h1;have h2:=oL h c hu;have hm:=bX (d:=0) c;have t:=cH.1 (o _ hm);have l:=h.up _ hm;have m:=yI h g f (i+1) v (by omega) (by omega) hv;rw[drop_cons p i c];obtain⟨a,q⟩:=QW t.1;rw[q]at h1 h2 t l ⊢;rw[QS]at h1 h2 l;exact .eZ (by omega) h2 l h1.symm m
    |some j=>
     obtain⟨t1,t2,t3,t4⟩:=oX _ _ w;rw[lT c t1 t2 t3 t4];obtain⟨v,hv,_⟩:=cJ h.valid h.node o j t2;have hc:=pH h t1 t2 hu hv;rw[t3,Q7]at hc;obtain⟨h1,h2⟩:=hc;obtain⟨a,b,r,s,hs,_⟩:=Eg h1;have r:u=a:=by omega
     have s:v=b:=by omega
     subst r;subst s;have x:cE T [] u v=ev p i j:=Q5 h2;rw[x]at hs;have m:=yI h g f j v (by omega) t2 hv;have y:p.drop i=ev p i j++p.drop j:=by
      unfold ev;have:=SQ (j - i) (p.drop i);rw[List.drop_drop,show i+(j - i)=j by omega]at this;exact this.symm
     rw[hv,y];exact .node hs m
  ·have e:i=p.length:=by omega
   subst e;rw[RC,g]at hu;have e:d=u:=by omega
   subst e;rw[oG _ _ (Rc _),TX];exact .nil
theorem pN.OG{n d:Nat}{p:List Int}(h:pN T D n d p):mr T D d n (gX T [] n p) p:=by
 have:=yI h.MH h.sp.ch.fin p.length 0 n (by omega) (by omega) (by simp[cV]);exact this
theorem pN.enter{n d:Nat}{p:List Int}(h:pN T D n d p):∃(a m:Nat) (q:List Int),p=(a:Int)::q/\a<2*T.ah.length/\aZ T a=(n:Int)/\aI D a=false/\aN T a=(m:Int)/\mr T D d m (cU ⟨1,(m:Int)⟩ (iE (gX T [] n p))) q:=by
 have hl:=h.OG;have g:=h.pos;generalize gX T [] n p=l at hl;cases hl with
 |nil=>exact absurd g (by simp)
 | @node n y pp s j hs hr=>
  obtain⟨p0,k,rfl⟩:∃p0 k,pp=p0::k:=by
   cases pp with
   |nil=>exact absurd hs.pos (by simp)
   |cons p0 k=>exact⟨p0,k,rfl⟩
  have x:∃c m:Nat,p0=(c:Int)/\c<2*T.ah.length/\aZ T c=(n:Int)/\aN T c=(m:Int):=by
   have:=hs.sp;cases this with
   |cons f z _=>exact⟨_,_,rfl,f.eZ,f.tail,z⟩
  obtain⟨c,m,rfl,o,r,e⟩:=x;have i:=hs.up (c:Int) (by simp);rw[QS]at i;refine⟨c,m,k++s,rfl,o,r,i,e,?_⟩;have b:iE (⟨1,(y:Int)⟩::j)=⟨1,(y:Int)⟩::j:=by simp[iE]
  rw[b];rcases hs.tail (m:=m) (by rw[QS];exact e)with⟨rfl,rfl⟩|u
  ·simp only[cU,Sw,Sx];rw[hr.skip];exact hr
  ·rw[(mr.node u hr).skip];exact .node u hr
 | @eZ n c m s j h1 h2 v w t=>
  refine⟨c,m,s,rfl,h1,h2,v,w,?_⟩;have b:iE (⟨2,(c:Int)⟩::j)=j:=by simp[iE]
  rw[b,t.skip];exact t
end
end
end PW
namespace eE
section
open Go.RowKit Go.Shelf Net
attribute [local go_sem] Oper.semAt_some
end
end eE
namespace PW
section
open Go.RowKit cG Mem
inductive Up (k:Nat):PV->PV->Prop
 |pure {p:PV} [IsPure p]:Up k p p
 |own {i j:Nat}:j=k+i->Up k (.own i) (.own j)
 |ptr {i j o:Nat}:j=k+i->Up k (.ptr i o) (.ptr j o)
 |agg {xs ys:List PV} (hl:ys.length=xs.length) (hs:∀(j:Nat) x y,xs[j]? =some x->ys[j]? =some y->Up k x y):Up k (.agg xs) (.agg ys)
 |tuple {xs ys:List PV} (hl:ys.length=xs.length) (hs:∀(j:Nat) x y,xs[j]? =some x->ys[j]? =some y->Up k x y):Up k (.tuple xs) (.tuple ys)
 |func {f:FuncId} {xs ys:List PV} (hl:ys.length=xs.length) (hs:∀(j:Nat) x y,xs[j]? =some x->ys[j]? =some y->Up k x y):Up k (.func f xs) (.func f ys)
def ml(k:Nat)(xs ys:List PV):Prop:=ys.length=xs.length/\∀(j:Nat) x y,xs[j]? =some x->ys[j]? =some y->Up k x y
theorem ml.nil{k:Nat}:ml k [] []:=⟨rfl,λj x y h=>by simp at h⟩
theorem ml.cons{k:Nat}{x y xs ys}(h:Up k x y)(hs:ml k xs ys):ml k (x::xs) (y::ys):=⟨by simp[hs.1],λj a b h1 h2=>by
 cases j with
 |zero=>simp at h1 h2;subst h1;subst h2;exact h
 |succ j=>exact hs.2 j a b (by simpa using h1) (by simpa using h2)⟩
abbrev T9:=@ml.cons
theorem ml.pure{k:Nat}{xs}[h:aP xs]:ml k xs xs:=⟨rfl,λj x y h1 h2=>by
 rw[h1]at h2;cases h2;haveI:=h.out j x h1;exact Up.pure⟩
theorem Up.eQ{k:Nat}{xs ys}(h:ml k xs ys):Up k (.agg xs) (.agg ys):=.agg h.1 h.2
theorem Up.aO{k:Nat}{xs ys}(h:ml k xs ys):Up k (.tuple xs) (.tuple ys):=.tuple h.1 h.2
inductive M6 (k:Nat):cX->cX->Prop
 |cells {ty:TypeId} {xs ys:List PV}:ml k xs ys->M6 k (.cells ty xs) (.cells ty ys)
 |row {e s n:Nat} {xs ys:List PV}:ml k xs ys->M6 k (.row e s n xs) (.row e s n ys)
 |mp {kv:List (Value×PV)} [aP (kv.map (·.2))]:M6 k (.mp kv) (.mp kv)
def ni(k:Nat)(xs ys:List cX):Prop:=ys.length=xs.length/\∀(j:Nat) x y,xs[j]? =some x->ys[j]? =some y->M6 k x y
theorem ni.nil{k:Nat}:ni k [] []:=⟨rfl,λj x y h=>by simp at h⟩
theorem ni.cons{k:Nat}{x y xs ys}(h:M6 k x y)(hs:ni k xs ys):ni k (x::xs) (y::ys):=⟨by simp[hs.1],λj a b h1 h2=>by
 cases j with
 |zero=>simp at h1 h2;subst h1;subst h2;exact h
 |succ j=>exact hs.2 j a b (by simpa using h1) (by simpa using h2)⟩
abbrev U5:=@ni.cons
section
variable {E E1 E2:Env} {w:World} {k:Nat}
theorem Up.rep(d:∀i,i<E1.L->E2.at_ (k+i)=E1.at_ i/\k+i<E2.L)(hM:∀b,E2.M b->E1.M b){p q}(h:Up k p q):∀v,cZ E1 w v p->cZ E2 w v q:=by
 induction h with
 | @pure p hp=>
  intro v h;have:=hp.out E1 E2.M w v hM h;exact this.goes (E:=EF E2.M) (E':=E2) (w:=w) (w':=w) ⟨RQ _,λi hi=>absurd hi (SK i),λ_ _ h=>h,Rc _,λ_ _ _=>rfl⟩
 | @own i j g=>
  intro v h;subst g;cases h with
  |own _ hi _ h hs=>exact .own _ (d i hi).2 v ((d i hi).1.trans h) hs
 | @ptr i j o g=>
  intro v h;subst g;cases h with
  |ptr _ _ b hi h=>exact .ptr _ o b (d i hi).2 (by rw[(d i hi).1];exact h)
 | @agg xs ys hl _ l=>
  intro v h;cases h with
  |agg cs _ a hr=>exact .agg cs ys (a.trans hl.symm) (λj c u h1 h2=>by
    have e:j<xs.length:=by rw[<-hl];exact(QT.1 h2).1
    exact l j xs[j] u (by simp[e]) h2 c (hr j c _ h1 (by simp[e])))
 | @tuple xs ys hl _ l=>
  intro v h;cases h with
  |tuple cs _ a hr=>exact .tuple cs ys (a.trans hl.symm) (λj c u h1 h2=>by
    have e:j<xs.length:=by rw[<-hl];exact(QT.1 h2).1
    exact l j xs[j] u (by simp[e]) h2 c (hr j c _ h1 (by simp[e])))
 | @func f xs ys hl _ l=>
  intro v h;cases h with
  |func _ cs _ a hr=>exact .func f cs ys (a.trans hl.symm) (λj c u h1 h2=>by
    have e:j<xs.length:=by rw[<-hl];exact(QT.1 h2).1
    exact l j xs[j] u (by simp[e]) h2 c (hr j c _ h1 (by simp[e])))
theorem ml.rep(a:∀i,i<E1.L->E2.at_ (k+i)=E1.at_ i/\k+i<E2.L)(hM:∀b,E2.M b->E1.M b){xs ys}(h:ml k xs ys){cs}(hs:bp E1 w cs xs):bp E2 w cs ys:=⟨hs.1.trans h.1.symm,λj c u h1 h2=>by
 have d:j<xs.length:=by rw[<-h.1];exact(QT.1 h2).1
 exact(h.2 j xs[j] u (by simp[d]) h2).rep a hM c (hs.2 j c _ h1 (by simp[d]))⟩
theorem M6.sat{base a:Nat}(hb:a<=base)(c:∀i,i<E1.L->E2.at_ (k+i)=E1.at_ i/\k+i<E2.L)(hM:∀b,E2.M b->E1.M b){v x y}(h:M6 k x y)(hs:iz base E1 w v x):iz a E2 w v y:=by
 cases h with
 |cells h1=>
  obtain⟨b,cs,h2,d,e,f⟩:=hs;exact⟨b,cs,h2,by omega,e,h1.rep c hM f⟩
 |row h1=>
  obtain⟨cs,h2,d⟩:=hs;refine⟨cs,⟨h2.1,?_⟩,h1.rep c hM d⟩;rcases h2.2 with h|⟨g,cap,cur,j,a2,a3⟩
  ·exact .inl h
  ·exact .inr ⟨g,cap,cur,j,by omega,a3⟩
 | @mp kv hp=>
  obtain⟨r,l,ck,h2,d,e,f,m⟩:=hs;exact⟨r,l,ck,h2,by omega,e,f,ml.pure (k:=k).rep c hM m⟩
end
theorem bM.frame{P f ps}{σ:ca}{R:PV->ca->Prop}[aP ps]
  (h:bM P f ps [] (λr z=>∃c,z=c.map some/\∃r' l,Up σ.length r r'/\ni σ.length c l/\R r' (σ++l.map some))):bM P f ps σ R:=λF base E w vs n K=>by
 refine(h E.M w.heap.size (EF E.M) w vs (T1 E.M w (λb hb=>n.lt hb) n.gl) (K.pure (λ_ h=>h))).mono ?_;rintro e w' ⟨v,r,z,k,rfl,⟨c,rfl,r',l,hu,q,C⟩,g,L,A,hv⟩;have J:Ext w w':=A;have B:k.L=c.length:=by rw[g.len];simp
 have t:((List.range c.length).map k.at_).length=l.length:=by rw[RN,Sz,q.1]
 have a:∀(i:Nat) v,((List.range c.length).map k.at_)[i]? =some v->i<c.length/\v=k.at_ i:=λi v hi=>by
  have s:i<c.length:=by have:=(QT.1 hi).1;simpa using this
  rw[RE,Th s]at hi;cases hi;exact⟨s,rfl⟩
 have m:∀i,i<c.length->∃x,c[i]? =some x/\(c.map some)[i]? =some (some x):=λi hi=>⟨c[i],by simp[hi],by simp[hi]⟩;have p:∀i,i<k.L->(E.fj ((List.range c.length).map k.at_)).at_ (σ.length+i)=k.at_ i/\σ.length+i<(E.fj ((List.range c.length).map k.at_)).L:=λi hi=>by
  rw[B]at hi;refine⟨?_,?_⟩
  ·simp only[Env.fj,n.len];rw[QZ (by omega),Nat.add_sub_cancel_left,QU,RE,Th hi]
   rfl
  ·simp only[Env.fj,n.len,RN,Sz];omega
 have hM:∀b,(E.fj ((List.range c.length).map k.at_)).M b->k.M b:=λb hb=>by
  rcases hb with hb|⟨v,o,G⟩
  ·exact(g.mm b).2 (.inl hb)
  ·obtain⟨i,hi⟩:=Rv o;obtain⟨d,rfl⟩:=a i v hi;obtain⟨x,_,hx⟩:=m i d;exact(g.mm b).2 (.inr ⟨i,x,hx,G⟩)
 have hp:=n.fj J ((List.range c.length).map k.at_) l t
  (λv o b hb=>by
   obtain⟨i,hi⟩:=Rv o;obtain⟨d,rfl⟩:=a i v hi;obtain⟨x,_,hx⟩:=m i d;exact((g.blk i x hx).lt hb).1)
  (λi j u v b hi M hu hv=>by
   obtain⟨d,rfl⟩:=a i u hi;obtain⟨D,rfl⟩:=a j v M;obtain⟨x,_,hx⟩:=m i d;obtain⟨y,_,hy⟩:=m j D;exact g.inj i j x y b hx hy hu hv)
  (λi v blk hi hb=>by
   obtain⟨d,rfl⟩:=a i v hi;obtain⟨x,H,hx⟩:=m i d;exact(q.2 i x blk H hb).sat n.bl p hM (g.blk i x hx))
 exact⟨v,r',_,_,rfl,C,hp.1,hp.2,Ti J n.bl,hu.rep p hM v hv⟩
open Net
theorem uZ(T:ak)(D:List Bool)(n:Int):Can prog 66 [aL T,aV D,num n] (· = .tuple [dW (gS T D n),num (ct T D [n])]):=by
 refine aF func66 I ntmps66 I<|aK<|au 3 I<|aE [1,2,3,6] I ?_;refine ai ?_;have⟨p,e⟩:=QQ (av T);have⟨z,k⟩:=QQ (bN T D);refine bz 22 (.raw (.bool ((!p)||(!z)))) [1,2,3,6] I ?_ ?_
 ·refine .a 1 I<|.c rfl (e▸fv T) I<|.a 2 I<|?_;cases p
  ·exact .a 5 I<|.k [22,1,2,3,6] I
  ·exact .a 2 I<|.c rfl (k▸nH T D (by have:=bO e;omega)) I<|.a 2 I<|.k [22,1,2,3,6] I
 refine ae I (λhc=>?_) (λhc=>?_)
 ·have c:ct T D [n]=1:=by
   unfold ct;rw[e,k,QZ];revert hc;cases p<;>cases z<;>simp
  refine aK<|au 3 I<|aE [6,7] I ?_;exact ao<|QR I (RW (QV (TI (QV ax.pure<|QV ax.bH<|QV ax.bH Rl)) (QV ax.pure Rl))) (by unfold gS;rw[c];rfl)
 ·have g:(av T&&bN T D)=true:=by
   rw[e,k];revert hc;cases p<;>cases z<;>simp
  clear hc e k;refine aj<|ai<|ab (.a 2 I<|.c rfl (ej T n) I<|.a 1 I<|.k [1,2,3,6,27] I)<|ae I (λhc=>?_) (λhc=>?_)
  ·have hn:aX T n=false:=by revert hc;cases aX T n<;>simp
   have c:ct T D [n]=2:=by
    unfold ct;rw[QY g,QZ];simp[hn]
   refine aK<|au 3 I<|aE [6,7] I ?_;exact ao<|QR I (RW (QV (TI (QV ax.pure<|QV ax.bH<|QV ax.bH Rl)) (QV ax.pure Rl))) (by unfold gS;rw[c];rfl)
  ·have hn:aX T n=true:=by revert hc;cases aX T n<;>simp
   have c:ct T D [n]=0:=by
    unfold ct;rw[QY g,QY];simp[hn]
   obtain⟨hv,E⟩:=Q3.1 g;rw[aQ]at hn;obtain⟨m,rfl⟩:=QW hn.1;obtain⟨N,hN⟩:∃N:Nat,T.nodes=(N:Int):=⟨T.nodes.toNat,by omega⟩;have A:N<=64:=by have:=(aS hv).nodes;omega
   have v:=bO hv;refine aj<|aK<|au 4 I<|aE [1,2,3,6,8] I ?_;refine cm 1 1 120 3 I I<|cm 1 2 3 1 I I ?_;refine ai<|ab (.a 1 I<|.v (aJ I ((show some (num T.nodes)=some (num (N:Int)) by rw[hN]))) I<|.a 1 I<|.k [1,2,3,6,8,32,33] I)<|aw<|eF [1,2,3,6,8,32,33] I<|bd (λr s=>∃j,j<=N/\r=N - j/\s=⟨[(1,aV D),(2,num m),(3,.bq (bn T) 0),(6,.ptr 0 0),(8,.ptr 1 0),(32,num N),(33,num j)],[some (.cells 76 [num 0,.raw (.slice none 0 0),.raw (.slice none 0 0)]),some (.cells 76 [num m,.own 2,.own 3]),some (.row 120 3 j (dH (toL T D m j))),some (.row 3 1 0 [])]⟩) N ⟨0,by omega,by omega,rfl⟩ ?_;rintro r s ⟨j,G,rfl,rfl⟩;refine ab (.a 1 I<|.k [1,2,3,6,8,32,33,34] I)<|ai<|ae I (λhc=>?_) (λhc=>?_)
   ·have f:j<N:=by have:=Q5 hc;omega
    have x:bY T D (m:Int) (j:Int)=0:=by
     have w:aX T (j:Int)=true:=aQ.2 ⟨by omega,by omega⟩;have o:ct T D [(j:Int)]=0:=by
      unfold ct;rw[QY g,QY];simp[w]
     unfold bY;rw[QY o,QY (aQ.2 hn)]
    have y:Can prog 98 [aL T,aV D,num m,num j] (· = .tuple [aq (bu T D m j),num 0]):=by
     have h:=uI T D (m:Int) (j:Int);rw[x]at h;exact h
    refine aj<|ai<|aw<|ab (.a 2 I<|.k [1,2,3,6,8,9,32,33] I)<|ab (.a 4 I<|.c rfl (y) I<|.a 5 I<|.k [1,2,3,6,8,10,32,33] I)<|bx<|au 3 I<|bm (sU (gT (xs:=[_,_,_]) I (TT I) I I) (gZ.eQ (.cons (Tv _)<|.cons (Tv _)<|.cons gZ.bH .nil))) I<|au 1 I<|cb (bF I (Ru I) I I I I (by unfold maxLen;omega)) I<|au 2 I ?_;refine dL [0,1,4,3] (.c 1<|.c 2<|.c 3<|.c 6<|.c 8<|.c 32<|.c 33<|.nil) (.kept rfl (.cells (Sr<|Sr<|Sr<|Sy))<|.kept rfl (.cells (Sr<|Sr<|Sr<|Sy))<|.kept rfl (.eY rfl (show _=dH (toL T D m (j+1)) by rw[vo];exact jc _ ⟨bu T D m j,false,[]⟩))<|.kept rfl (.row RZ)<|.nil) I I (bg ?_);refine aC (.v (aW I) I<|.a 1 I<|.k [1,2,3,6,8,32,33] I)<|⟨N - (j+1),by omega,j+1,by omega,rfl,rfl⟩
   ·have u:j=N:=by have:=Rf hc;omega
    subst u;refine ba<|ai ?_;have F:(bK T m).length<=512:=Rr (eu T m _) (by omega);refine ab (.a 2 I<|.c rfl (qt T v _) I<|.a 2 I<|.k [1,6,8,54,55,56] I)<|aw<|eF [1,6,8,54,55,56] I<|bd (λr s=>∃i,i<=(bK T m).length/\r=(bK T m).length - i/\s=⟨[(1,aV D),(6,.ptr 0 0),(8,.ptr 1 0),(54,aq (bK T m)),(55,num (bK T m).length),(56,num i)],[some (.cells 76 [num 0,.raw (.slice none 0 0),.raw (.slice none 0 0)]),some (.cells 76 [num m,.own 2,.own 3]),some (.row 120 3 j (dH (toL T D m j))),some (.row 3 1 (cI D ((bK T m).take i)).length (aU (cI D ((bK T m).take i))))]⟩) (bK T m).length ⟨0,by omega,by omega,rfl⟩ ?_;rintro r s ⟨i,hi,rfl,rfl⟩;refine ab (.a 1 I<|.k [1,6,8,54,55,56,57] I)<|ai<|ae I (λhc=>?_) (λhc=>?_)
    ·have f:i<(bK T m).length:=by have:=Q5 hc;omega
     obtain⟨h0,h1⟩:=kS (bX (d:=0) f);obtain⟨a,B⟩:=QW h0;have q:D.length=0\/a<D.length:=by simp only[bN,Ra]at E;omega
     have b:cI D ((bK T m).take (i+1))=cI D ((bK T m).take i)++(if aI D a then [(a:Int)] else []):=by
      unfold cI;rw[dE _ i 0 f,Sd,B];simp only[S1,Tg,QS]
     have C:(cI D ((bK T m).take i)).length<=1000:=Rr (RG _ _) (by rw[Sg];have:=eu T m (2*T.ah.length);unfold bK at*;omega);refine aj<|ai<|aw<|ab (.v (aM (i) I) I<|.v (aJ I ((aB _ i f).trans (by rw[B]))) I<|.a 1 I<|.k [1,6,8,13,54,55,56] I)<|ab (.a 2 I<|.c rfl (kI D a q) I<|.k [1,6,8,13,54,55,56,62] I)<|ae I (λl=>?_) (λl=>?_)
     ·rw[l,QY rfl]at b;refine bx<|au 4 I<|cb (bF I (Ru I) I I I I (by unfold maxLen;omega)) I<|au 2 I ?_;refine dL [0,1,2,4] (.c 1<|.c 6<|.c 8<|.c 54<|.c 55<|.c 56<|.nil) (.kept rfl (.cells (Sr<|Sr<|Sr<|Sy))<|.kept rfl (.cells (Sr<|Sr<|Sr<|Sy))<|.kept rfl (.row RZ)<|.kept rfl (.eY rfl (cW _ _))<|.nil) I I (bg ?_);refine aC (.v (aW I) I<|.a 1 I<|.k [1,6,8,54,55,56] I)<|⟨(bK T m).length - (i+1),by omega,i+1,by omega,rfl,?_⟩;rw[b];first
       |rfl
       |(simp only[Q0,Rk];rfl)
     ·rw[l,QZ (by simp),R9]at b;refine aj<|aC (.v (aW I) I<|.a 1 I<|.k [1,6,8,54,55,56] I) ?_;refine⟨(bK T m).length - (i+1),by omega,i+1,by omega,rfl,?_⟩;rw[b];first
       |rfl
       |(simp only[Q0,Rk];rfl)
    ·have t:i=(bK T m).length:=by have:=Rf hc;omega
     subst t;refine ba<|aK<|bm (ee (ys:=[num m,.own 2,.own 3]) I (Q6 I) I I I I) I<|au 2 I<|aE [6,7] I ?_;refine ao<|⟨_,_,RY I,RW (QV (TI (QV ax.pure<|QV (Tj rfl Sj)<|QV (Tj rfl Sj) Rl)) (QV ax.pure Rl)),?_⟩;unfold gS;rw[c,QY rfl,RC];unfold dU dW fi iW aq;rw[tu,show T.nodes.toNat=j by omega]
     rfl
open eE
theorem A4(T:ak)(D:List Bool)(n:Int)(l:ct T D [n]=0):bM prog 66 [aL T,aV D,num n] [] (λr σ'=>r= .tuple [.agg [num n,.own 2,.own 3],num 0]/\σ'=[some (.cells 76 [num n,.own 2,.own 3]),some (.cells 76 [num n,.own 2,.own 3]),some (.row 120 3 T.nodes.toNat (dH (toL T D n.toNat T.nodes.toNat))),some (.row 3 1 (cI D (bK T n)).length (aU (cI D (bK T n))))]):=by
 refine cF func66 I ntmps66 I<|aK<|au 3 I<|aE [1,2,3,6] I ?_;refine ai ?_;have⟨q,c⟩:=QQ (av T);have⟨B,k⟩:=QQ (bN T D);refine bz 22 (.raw (.bool ((!q)||(!B)))) [1,2,3,6] I ?_ ?_
 ·refine .a 1 I<|.c rfl (c▸fv T) I<|.a 2 I<|?_;cases q
  ·exact .a 5 I<|.k [22,1,2,3,6] I
  ·exact .a 2 I<|.c rfl (k▸nH T D (by have:=bO c;omega)) I<|.a 2 I<|.k [22,1,2,3,6] I
 refine ae I (λhc=>?_) (λhc=>?_)
 ·have e:ct T D [n]=1:=by
   unfold ct;rw[c,k,QZ];revert hc;cases q<;>cases B<;>simp
  exact absurd l (by rw[e];decide)
 ·have g:(av T&&bN T D)=true:=by
   rw[c,k];revert hc;cases q<;>cases B<;>simp
  clear hc c k;refine aj<|ai<|ab (.a 2 I<|.c rfl (ej T n) I<|.a 1 I<|.k [1,2,3,6,27] I)<|ae I (λhc=>?_) (λhc=>?_)
  ·have hn:aX T n=false:=by revert hc;cases aX T n<;>simp
   have e:ct T D [n]=2:=by
    unfold ct;rw[QY g,QZ];simp[hn]
   exact absurd l (by rw[e];decide)
  ·have hn:aX T n=true:=by revert hc;cases aX T n<;>simp
   have e:ct T D [n]=0:=by
    unfold ct;rw[QY g,QY];simp[hn]
   obtain⟨hv,G⟩:=Q3.1 g;rw[aQ]at hn;obtain⟨m,rfl⟩:=QW hn.1;obtain⟨N,hN⟩:∃N:Nat,T.nodes=(N:Int):=⟨T.nodes.toNat,by omega⟩;have C:N<=64:=by have:=(aS hv).nodes;omega
   have x:=bO hv;refine aj<|aK<|au 4 I<|aE [1,2,3,6,8] I ?_;refine cm 1 1 120 3 I I<|cm 1 2 3 1 I I ?_;refine ai<|ab (.a 1 I<|.v (aJ I ((show some (num T.nodes)=some (num (N:Int)) by rw[hN]))) I<|.a 1 I<|.k [1,2,3,6,8,32,33] I)<|aw<|eF [1,2,3,6,8,32,33] I<|bd (λr s=>∃j,j<=N/\r=N - j/\s=⟨[(1,aV D),(2,num m),(3,.bq (bn T) 0),(6,.ptr 0 0),(8,.ptr 1 0),(32,num N),(33,num j)],[some (.cells 76 [num 0,.raw (.slice none 0 0),.raw (.slice none 0 0)]),some (.cells 76 [num m,.own 2,.own 3]),some (.row 120 3 j (dH (toL T D m j))),some (.row 3 1 0 [])]⟩) N ⟨0,by omega,by omega,rfl⟩ ?_;rintro r s ⟨j,J,rfl,rfl⟩;refine ab (.a 1 I<|.k [1,2,3,6,8,32,33,34] I)<|ai<|ae I (λhc=>?_) (λhc=>?_)
   ·have f:j<N:=by have:=Q5 hc;omega
    have z:bY T D (m:Int) (j:Int)=0:=by
     have y:aX T (j:Int)=true:=aQ.2 ⟨by omega,by omega⟩;have p:ct T D [(j:Int)]=0:=by
      unfold ct;rw[QY g,QY];simp[y]
     unfold bY;rw[QY p,QY (aQ.2 hn)]
    have A:Can prog 98 [aL T,aV D,num m,num j] (· = .tuple [aq (bu T D m j),num 0]):=by
     have h:=uI T D (m:Int) (j:Int);rw[z]at h;exact h
    refine aj<|ai<|aw<|ab (.a 2 I<|.k [1,2,3,6,8,9,32,33] I)<|ab (.a 4 I<|.c rfl (A) I<|.a 5 I<|.k [1,2,3,6,8,10,32,33] I)<|bx<|au 3 I<|bm (sU (gT (xs:=[_,_,_]) I (TT I) I I) (gZ.eQ (.cons (Tv _)<|.cons (Tv _)<|.cons gZ.bH .nil))) I<|au 1 I<|cb (bF I (Ru I) I I I I (by unfold maxLen;omega)) I<|au 2 I ?_;refine dL [0,1,4,3] (.c 1<|.c 2<|.c 3<|.c 6<|.c 8<|.c 32<|.c 33<|.nil) (.kept rfl (.cells (Sr<|Sr<|Sr<|Sy))<|.kept rfl (.cells (Sr<|Sr<|Sr<|Sy))<|.kept rfl (.eY rfl (show _=dH (toL T D m (j+1)) by rw[vo];exact jc _ ⟨bu T D m j,false,[]⟩))<|.kept rfl (.row RZ)<|.nil) I I (bg ?_);refine aC (.v (aW I) I<|.a 1 I<|.k [1,2,3,6,8,32,33] I)<|⟨N - (j+1),by omega,j+1,by omega,rfl,rfl⟩
   ·have w:j=N:=by have:=Rf hc;omega
    subst w;refine ba<|ai ?_;have H:(bK T m).length<=512:=Rr (eu T m _) (by omega);refine ab (.a 2 I<|.c rfl (qt T x _) I<|.a 2 I<|.k [1,6,8,54,55,56] I)<|aw<|eF [1,6,8,54,55,56] I<|bd (λr s=>∃i,i<=(bK T m).length/\r=(bK T m).length - i/\s=⟨[(1,aV D),(6,.ptr 0 0),(8,.ptr 1 0),(54,aq (bK T m)),(55,num (bK T m).length),(56,num i)],[some (.cells 76 [num 0,.raw (.slice none 0 0),.raw (.slice none 0 0)]),some (.cells 76 [num m,.own 2,.own 3]),some (.row 120 3 j (dH (toL T D m j))),some (.row 3 1 (cI D ((bK T m).take i)).length (aU (cI D ((bK T m).take i))))]⟩) (bK T m).length ⟨0,by omega,by omega,rfl⟩ ?_;rintro r s ⟨i,hi,rfl,rfl⟩;refine ab (.a 1 I<|.k [1,6,8,54,55,56,57] I)<|ai<|ae I (λhc=>?_) (λhc=>?_)
    ·have f:i<(bK T m).length:=by have:=Q5 hc;omega
     obtain⟨h0,h1⟩:=kS (bX (d:=0) f);obtain⟨a,E⟩:=QW h0;have t:D.length=0\/a<D.length:=by simp only[bN,Ra]at G;omega
     have b:cI D ((bK T m).take (i+1))=cI D ((bK T m).take i)++(if aI D a then [(a:Int)] else []):=by
      unfold cI;rw[dE _ i 0 f,Sd,E];simp only[S1,Tg,QS]
     have F:(cI D ((bK T m).take i)).length<=1000:=Rr (RG _ _) (by rw[Sg];have:=eu T m (2*T.ah.length);unfold bK at*;omega);refine aj<|ai<|aw<|ab (.v (aM (i) I) I<|.v (aJ I ((aB _ i f).trans (by rw[E]))) I<|.a 1 I<|.k [1,6,8,13,54,55,56] I)<|ab (.a 2 I<|.c rfl (kI D a t) I<|.k [1,6,8,13,54,55,56,62] I)<|ae I (λo=>?_) (λo=>?_)
     ·rw[o,QY rfl]at b;refine bx<|au 4 I<|cb (bF I (Ru I) I I I I (by unfold maxLen;omega)) I<|au 2 I ?_;refine dL [0,1,2,4] (.c 1<|.c 6<|.c 8<|.c 54<|.c 55<|.c 56<|.nil) (.kept rfl (.cells (Sr<|Sr<|Sr<|Sy))<|.kept rfl (.cells (Sr<|Sr<|Sr<|Sy))<|.kept rfl (.row RZ)<|.kept rfl (.eY rfl (cW _ _))<|.nil) I I (bg ?_);refine aC (.v (aW I) I<|.a 1 I<|.k [1,6,8,54,55,56] I)<|⟨(bK T m).length - (i+1),by omega,i+1,by omega,rfl,?_⟩;rw[b];first
       |rfl
       |(simp only[Q0,Rk];rfl)
     ·rw[o,QZ (by simp),R9]at b;refine aj<|aC (.v (aW I) I<|.a 1 I<|.k [1,6,8,54,55,56] I) ?_;refine⟨(bK T m).length - (i+1),by omega,i+1,by omega,rfl,?_⟩;rw[b];first
       |rfl
       |(simp only[Q0,Rk];rfl)
    ·have u:i=(bK T m).length:=by have:=Rf hc;omega
     subst u;refine ba<|aK<|bm (ee (ys:=[num m,.own 2,.own 3]) I (Q6 I) I I I I) I<|au 2 I<|aE [6,7] I ?_;refine ao<|⟨_,RY I,rfl,?_⟩;have v:T.nodes.toNat=j:=by omega
     rw[RC,QS,v]
     rfl
def iw(e:Int)(x:cQ):PV:=.tuple [dW (if e=0 then x else⟨0,[],[]⟩),num e]
theorem lL{T D}{n d:Int}(hv:av T=true)(a:bN T D=true)(hn:aX T n=true)(hd:aX T d=true):bY T D n d=0:=by
 unfold bY ct;rw[hv,a,hn];simp[hd]
def kK(M:List Bool)(T:ak)(n:Int)(k:Nat):List Int:=((List.range k).filter λa=>aI M a&&decide (aZ T a=n)).map Int.ofNat
def iX(T:ak)(M:List Bool)(n:Int)(k:Nat):List Bool:=(List.range (2*T.ah.length)).map λa=>decide (a<k)&&(aI M a&&decide (aZ T a=n))
theorem KH(M:List Bool)(T:ak)(n:Int):kK M T n (2*T.ah.length)=cI M (bK T n):=by
 unfold kK cI bK iM;rw[List.filter_map,T7];congr 1
theorem KI(M:List Bool)(T:ak)(n:Int)(k:Nat):(kK M T n k).length<=k:=by
 unfold kK;rw[RN];exact Rr (RG _ _) (by simp)
theorem KJ{M T}{n:Int}{k:Nat}(h:(aI M k&&decide (aZ T k=n))=true):kK M T n (k+1)=kK M T n k++[(k:Int)]:=by
 simp only[kK,R2,Sd,Sm];rw[SY (by simpa using h)]
 rfl
theorem Nq{M T}{n:Int}{k:Nat}(h:(aI M k&&decide (aZ T k=n))=false):kK M T n (k+1)=kK M T n k:=by
 simp only[kK,R2,Sd,Sm];rw[Te (by simpa using h)];simp
theorem FP(T:ak)(M:List Bool)(n:Int)(k:Nat):(iX T M n k).length=2*T.ah.length:=by simp[iX]
theorem CH(T:ak)(M:List Bool)(n:Int):iX T M n 0=List.replicate (2*T.ah.length) false:=by
 unfold iX;apply Sl (by simp);intro i h1 h2;simp
theorem FQ{T M}{n:Int}{k:Nat}(h:(aI M k&&decide (aZ T k=n))=true):(iX T M n k).set k true=iX T M n (k+1):=by
 apply Sl (by simp[iX]);intro i h1 h2;rw[TG];by_cases e:k=i
 ·subst e;simp only[iX,Un,T6,Sw];rw[h,Rb (by omega)];rfl
 ·rw[QZ e];simp only[iX,Un,T6];rw[show decide (i<k+1)=decide (i<k) from decide_eq_decide.2 (by omega)]
theorem IV{T M}{n:Int}{k:Nat}(h:(aI M k&&decide (aZ T k=n))=false):iX T M n (k+1)=iX T M n k:=by
 unfold iX;refine Se λa _=>?_;by_cases e:a=k
 ·subst e;rw[h];simp
 ·rw[show decide (a<k+1)=decide (a<k) from decide_eq_decide.2 (by omega)]
theorem FO(T:ak)(M:List Bool)(n:Int):iX T M n (2*T.ah.length)=eS T M n:=by
 unfold iX eS;refine Se λa b=>?_;rw[Rb (Ri.1 b),RM]
theorem fm{M:List Bool}{a:Nat}:M.getD a false=aI M a:=by
 unfold aI;by_cases h:M.length=0
 ·have:M=[]:=Rd h;subst this;simp
 ·first
   |rfl
   |simp[h]
theorem rN(T:ak)(k x n:Int)(hm:(av T&&cd T k x)=true):Can prog 84 [aL T,bV k x,num n] (· = .tuple [aq (cI (az T k x) (bK T n)),aV (eS T (az T k x) n)]):=by
 obtain⟨hv,hc⟩:=Q3.1 hm;have o:=bO hv;have b:=oP T k x;unfold iZ dy at b;rw[QY hm,QY rfl]at b;have⟨M,hM⟩:=QQ (az T k x);have j:M.length=2*T.ah.length:=by rw[<-hM];exact fQ T k x
 rw[hM]at b ⊢;refine aF func84 I ntmps84 I<|ab (.a 4 I<|.k [2,3,4] I)<|ab (.a 2 I<|.c rfl (b) I<|.a 5 I<|.k [2,3,8] I)<|aK<|au 2 I<|cb (dc I (Ru I) I I (show(M.length:Int)=((2*T.ah.length:Nat):Int) by omega) (show(M.length:Int)=((2*T.ah.length:Nat):Int) by omega) ⟨by unfold maxLen;omega,by omega⟩) I<|au 1 I<|aE [2,3,8,10] I ?_;refine ab (.a 1 I<|.k [2,3,8,10,11] I)<|eU 11 3 1 I ?_;refine eO (σ':=[some (.row 4 1 (2*T.ah.length) (bZ (iX T M n 0))),some (.row 3 1 0 [])]) (by rw[CH,<-jH];rfl)<|ai<|ab (.a 1 I<|.k [2,3,8,10,11,12] I)<|aw<|eF [2,3,8,10,11,12] I<|bd (λr st=>∃a:Nat,a<=2*T.ah.length/\r=2*T.ah.length - a/\st=⟨[(2,num n),(3,.bq (bn T) 0),(8,aV M),(10,.own 0),(11,.own 1),(12,num a)],[some (.row 4 1 (2*T.ah.length) (bZ (iX T M n a))),some (.row 3 1 (kK M T n a).length (aU (kK M T n a)))]⟩) (2*T.ah.length) ⟨0,by omega,by omega,rfl⟩ ?_;rintro r st ⟨a,p,rfl,rfl⟩;refine ai<|ab (.a 4 I<|.k [2,3,8,10,11,12,25] I)<|ae I (λh1=>?_) (λh1=>?_)
 ·have h:a<2*T.ah.length:=by have:=tt h1;omega
  have l:(iX T M n a).length=2*T.ah.length:=FP T M n a;have m:(kK M T n a).length<=512:=Rr (KI M T n a) (by omega);refine aj<|ai<|aw ?_;have⟨c1,e⟩:=QQ (aI M a);have⟨i,f⟩:=QQ (decide (aZ T a=n));refine bz 38 (.raw (.bool (c1&&i))) [2,3,8,10,11,12] I ?_ ?_
  ·refine .a 2 I<|.v (aM (a) I) I<|.v (aJ I (show _=some (flag c1) by rw[db _ a (by omega),fm,e])) I<|.a 1 I<|?_;cases c1
   ·exact .a 6 I<|.k [38,2,3,8,10,11,12] I
   ·exact .a 2 I<|.c rfl (fI T hv a h) I<|.a 1 I<|.v (bW I (f)) I<|.a 1 I<|.k [38,2,3,8,10,11,12] I
  refine ae I (λh2=>?_) (λh2=>?_)
  ·have h2:(aI M a&&decide (aZ T a=n))=true:=by rw[e,f];exact h2
   have c:=KJ h2;have d:=FQ h2;refine aK<|au 3 I<|cb (bF I (Ru I) I I I I (by unfold maxLen;omega)) I<|au 1 I ?_;refine dL [0,2] (.c 2<|.c 3<|.c 8<|.c 10<|.c 11<|.c 12<|.nil) (.kept rfl (.row RZ)<|.kept rfl (.eY rfl (cW _ _))<|.nil) I I (bg ?_);refine bx<|au 2 I<|bm (aM (a) I) I<|bc (cA I (Q6 I) I I I (by first|omega|(simp;omega))) I I<|aE [2,3,8,10,11,12] I ?_;refine eO (σ':=[some (.row 4 1 (2*T.ah.length) (bZ (iX T M n (a+1)))),some (.row 3 1 (kK M T n (a+1)).length (aU (kK M T n (a+1))))]) (by rw[<-d,c,Q0];rfl)<|aC (.a 1 I<|.v (aW I) I<|.a 1 I<|.k [2,3,8,10,11,12] I) ?_;first
    |exact⟨2*T.ah.length - (a+1),by omega,a+1,by omega,rfl,rfl⟩
    |exact⟨2*T.ah.length - (a+1),by omega,a+1,by omega,rfl,by rw[c,d];rfl⟩
  ·have h2:(aI M a&&decide (aZ T a=n))=false:=by rw[e,f];exact h2
   have c:=Nq h2;have d:=IV h2;refine aj<|aC (.a 1 I<|.v (aW I) I<|.a 1 I<|.k [2,3,8,10,11,12] I) ?_;first
    |exact⟨2*T.ah.length - (a+1),by omega,a+1,by omega,rfl,rfl⟩
    |exact⟨2*T.ah.length - (a+1),by omega,a+1,by omega,rfl,by rw[c,d];rfl⟩
 ·have g:a=2*T.ah.length:=by have:=ff h1;omega
  subst g;refine ba<|ab (.a 4 I<|.k [6,7] I)<|ao<|⟨_,_,RY I,RW (QV (Tj rfl Sj) (QV (Tj rfl Sj) Rl)),?_⟩;rw[KH,FO];unfold aq aV;rw[show(eS T M n).length=2*T.ah.length by simp[eS]]
theorem Ji(T:ak)(k x n:Int)(cS:T.nodes<=12):Can prog 54 [aL T,bV k x,num n] (· =iw (if dy T k x=0 then(if aX T n then 0 else 2) else 1) (zl T (az T k x) n.toNat)):=by
 have⟨q,a⟩:=QQ (av T&&cd T k x);refine aF func54 I ntmps54 I<|aK<|au 4 I<|aE [2,3,4,6] I ?_;refine ai<|ab (.a 2 I<|.c rfl (a▸iQ T k x) I<|.a 1 I<|.k [2,3,4,6,19] I)<|ae I (λh1=>?_) (λh1=>?_)
 ·have h1:q=false:=by simpa using h1
  have he:dy T k x=1:=by unfold dy;rw[a,h1];rfl
  rw[he];refine aK<|au 3 I<|aE [6,7] I ?_;exact ao<|QR I (RW (QV (TI (QV ax.pure<|QV ax.bH<|QV ax.bH Rl)) (QV ax.pure Rl))) rfl
 ·have h1:q=true:=by simpa using h1
  subst h1;have he:dy T k x=0:=by unfold dy;rw[QY a]
  rw[he,QY rfl];obtain⟨hv,hc⟩:=Q3.1 a;have u:=bO hv;refine aj<|ai ?_;have⟨p,g⟩:=QQ (decide (n<0));have⟨t,h⟩:=QQ (decide (T.nodes<=n));have e:aX T n= !(p||t):=by rw[<-g,<-h];unfold aX;by_cases h1:n<0<;>by_cases h2:T.nodes<=n<;>simp[h1,h2]<;>omega
  refine bz 28 (.raw (.bool (p||t))) [2,3,4,6] I ?_ ?_
  ·refine .a 1 I<|.v (bW I (g)) I<|.a 1 I<|?_;cases p
   ·exact .a 3 I<|.v (bW I (h)) I<|.a 1 I<|.k [28,2,3,4,6] I
   ·exact .a 5 I<|.k [28,2,3,4,6] I
  refine ae I (λh2=>?_) (λh2=>?_)
  ·have hn:aX T n=false:=by rw[e,h2];rfl
   rw[hn];refine aK<|au 3 I<|aE [6,7] I ?_;exact ao<|QR I (RW (QV (TI (QV ax.pure<|QV ax.bH<|QV ax.bH Rl)) (QV ax.pure Rl))) rfl
  ·have hn:aX T n=true:=by rw[e,h2];rfl
   rw[hn,QY rfl];have f:=hn;rw[aQ]at hn;obtain⟨m,rfl⟩:=QW hn.1;rw[QS];obtain⟨N,hN⟩:∃N:Nat,T.nodes=(N:Int):=⟨T.nodes.toNat,by omega⟩;have b:=oP T k x;unfold iZ at b;rw[he,QY rfl]at b;have c:=rN T k x m a;have d:=cM T k x;have⟨M,hM⟩:=QQ (az T k x);rw[hM]at b c d ⊢;refine aj<|ab (.a 2 I<|.c rfl (b) I<|.a 5 I<|.k [2,3,4,6,8] I)<|ab (.a 3 I<|.c rfl (c) I<|.a 5 I<|.k [2,3,6,8,10] I)<|aK<|au 2 I<|bm (sU (gT (xs:=[_,_,_]) I (TT I) I I) (Tv _)) I<|au 2 I<|aE [2,3,6,8,12] I ?_;refine cm 1 1 120 3 I I<|ai<|ab (.a 1 I<|.k [2,3,6,8,12,13] I)<|aw<|eF [2,3,6,8,12,13] I<|bd (λr s=>∃j,j<=N/\r=N - j/\s=⟨[(2,num m),(3,.bq (bn T) 0),(6,.ptr 0 0),(8,aV M),(12,.ptr 1 0),(13,num j)],[some (.cells 76 [num 0,.raw (.slice none 0 0),.raw (.slice none 0 0)]),some (.cells 76 [num m,.own 2,aq (cI M (bK T m))]),some (.row 120 3 j (dH (pK T M m j)))]⟩) N ⟨0,by omega,by omega,rfl⟩ ?_;rintro r s ⟨j,w,rfl,rfl⟩;refine ai<|ab (.a 2 I<|.v (aJ I ((show some (num T.nodes)=some (num (N:Int)) by rw[hN]))) I<|.a 1 I<|.k [2,3,6,8,12,13,49] I)<|ae I (λl=>?_) (λl=>?_)
   ·have v:j<N:=by have:=tt l;omega
    have i:=uS T M m j cS;rw[lL hv d f (aQ.2 ⟨by omega,by omega⟩)]at i;refine aj<|ai<|aw<|aK<|au 4 I<|ez I (i) I<|au 6 I<|aE [2,3,6,8,12,13,14] I ?_;refine bx<|au 4 I<|cb (bF I (Ru I) I I I I (by unfold maxLen;omega)) I<|au 2 I ?_;refine dL [0,1,4] (.c 2<|.c 3<|.c 6<|.c 8<|.c 12<|.c 13<|.nil) (.kept rfl (.cells (Sr<|Sr<|Sr<|Sy))<|.kept rfl (.cells (Sr<|Sr<|Sr<|Sy))<|.kept rfl (.eY rfl (show _=dH (pK T M m (j+1)) by rw[GH];exact jc _ _))<|.nil) I I (bg ?_);refine aC (.a 1 I<|.v (aW I) I<|.a 1 I<|.k [2,3,6,8,12,13] I)<|⟨N - (j+1),by omega,j+1,by omega,rfl,rfl⟩
   ·have o:j=N:=by have:=ff l;omega
    subst o;refine ba<|aK<|bm (ee (ys:=[num m,.own 2,aq (cI M (bK T m))]) I (Q6 I) I I I I) I<|au 2 I<|aE [6,7] I ?_;refine ao<|⟨_,_,RY I,RW (QV (TI (QV ax.pure<|QV (Tj rfl Sj)<|QV ax.pure Rl)) (QV ax.pure Rl)),?_⟩;unfold iw zl dW fi iW aq;rw[QY rfl,qR,show T.nodes.toNat=j by omega]
end
section
open Go.RowKit cG Mem
structure GD where
 p:PV
 r:Option Nat
 lo:Nat
 hi:Nat
section
variable {P:Program} {N L:Nat}
inductive GK (P:Program) (N:Nat) (ops:Array Oper) (σs:List ca) (T:cq) (o:Oper):GD->Prop
 |val {p:PV} {d lo hi:Nat} (ks:List Nat) (hks:(ks.all λk=>(o.looksAt ops).contains k)=true) (hw:fO ops T o=some true) (hy:∀r σ,lo<=r->r<=hi->σs[r]? =some σ->bE P σ (iN T ks) o p) (hd:o.dst=some d) (hN:Nat.blt d N=true):GK P N ops σs T o ⟨p,none,lo,hi⟩
 |skip {d lo hi:Nat} (hw:fO ops T o=some false) (hd:o.dst=some d) (hN:Nat.blt d N=true):GK P N ops σs T o ⟨.raw undef,none,lo,hi⟩
 |rF {p:PV} {d r lo hi:Nat} {σ σ':ca} (ks:List Nat) (hks:(ks.all λk=>(o.looksAt ops).contains k)=true) (hw:fO ops T o=some true) (h1:σs[r]? =some σ) (h2:σs[r+1]? =some σ') (hy:cK P σ (iN T ks) o p σ') (hd:o.dst=some d) (hN:Nat.blt d N=true):GK P N ops σs T o ⟨p,some r,lo,hi⟩
 |mU {p:PV} {r lo hi:Nat} {σ σ':ca} (ks:List Nat) (hks:(ks.all λk=>(o.looksAt ops).contains k)=true) (hw:fO ops T o=some true) (h1:σs[r]? =some σ) (h2:σs[r+1]? =some σ') (hy:cK P σ (iN T ks) o p σ') (hd:o.dst=none):GK P N ops σs T o ⟨p,some r,lo,hi⟩
inductive GL (P:Program) (N:Nat) (ops:Array Oper) (σs:List ca) (T:cq):List Oper->List GD->Prop
 |nil:GL P N ops σs T [] []
 |cons {o:Oper} {g:GD} {l:List Oper} {gs:List GD}:GK P N ops σs T o g->GL P N ops σs T l gs->GL P N ops σs T (o::l) (g::gs)
theorem GL.get{ops σs T}:∀ {l:List Oper} {gs:List GD},GL P N ops σs T l gs->gs.length=l.length/\∀(i:Nat) o g,l[i]? =some o->gs[i]? =some g->GK P N ops σs T o g
 |_,_,.nil=>⟨rfl,λi o g h=>by simp at h⟩
 |_,_,.cons h hs=>by
  obtain⟨h1,h2⟩:=hs.get;refine⟨by simp[h1],λi o g b a=>?_⟩;cases i with
  |zero=>simp at b a;subst b;subst a;exact h
  |succ i=>exact h2 i o g (by simpa using b) (by simpa using a)
def ma(gs:List GD)(i:Nat):Option Nat:=(gs[i]?).bind (·.r)
def H8(ops:Array Oper)(f m:Nat)(gs:List GD):Bool:=
  Nat.beq gs.length ops.size&&
  ((List.range ops.size).all λi=>(nq ops i).all λk=>decide (k<i))&&
  ((List.range ops.size).all λi=>(List.range i).all λj=>(cL ops i).isNone||cL ops i !=cL ops j)&&
  ((List.range ops.size).all λj=>(eW ops j).all λk=>(List.range ops.size).all λi=>cL ops i !=some k||fT ops f j i)&&
  ((List.range ops.size).all λi => match gs[i]? with
    |some ⟨_,some r,_,_⟩=>decide (r<m)&&(Nat.beq r 0||(List.range ops.size).any λj=>ma gs j==some (r - 1)&&fT ops f i j)
    |some ⟨_,none,lo,hi⟩=>(Nat.beq lo 0||(List.range ops.size).any λj=>ma gs j==some (lo - 1)&&fT ops f i j)&&(Nat.ble m hi||(List.range ops.size).any λj=>ma gs j==some hi&&fT ops f j i)
    |none=>false)&&
  ((List.range ops.size).all λi=>(List.range i).all λj=>(ma gs i).isNone||ma gs i !=ma gs j)&&
  ((List.range m).all λr=>(List.range ops.size).any λj=>ma gs j==some r)
structure Oa (ops:Array Oper) (f m:Nat) (gs:List GD):Prop where
 len:gs.length=ops.size
 nq:∀i,i<ops.size->∀k∈nq ops i,k<i
 ss:∀i j d,i<ops.size->j<ops.size->cL ops i=some d->cL ops j=some d->i=j
 rd:∀j,j<ops.size->∀k∈eW ops j,∀i,i<ops.size->cL ops i=some k->fT ops f j i=true
 rF:∀(i:Nat) g r,gs[i]? =some g->g.r=some r->r<m/\(r=0\/∃j,j<ops.size/\ma gs j=some (r - 1)/\fT ops f i j=true)
 quiet:∀(i:Nat) g,gs[i]? =some g->g.r=none->(g.lo=0\/∃j,j<ops.size/\ma gs j=some (g.lo - 1)/\fT ops f i j=true)/\(m<=g.hi\/∃j,j<ops.size/\ma gs j=some g.hi/\fT ops f j i=true)
 one:∀i j r,i<ops.size->j<ops.size->ma gs i=some r->ma gs j=some r->i=j
 has:∀r,r<m->∃j,j<ops.size/\ma gs j=some r
theorem Ak{ops}{f m:Nat}{gs}(h:H8 ops f m gs=true):Oa ops f m gs:=by
 unfold H8 at h;simp only[Q7]at h;obtain⟨⟨⟨⟨⟨⟨h1,h2⟩,u⟩,v⟩,q⟩,w⟩,x⟩:=h;have hl:gs.length=ops.size:=Rp h1;have all:∀ {n:Nat} {p:Nat->Bool},(List.range n).all p=true->∀i,i<n->p i=true:=λh i hi=>Rq.1 h i (Ri.2 hi);have any:∀ {n:Nat} {p:Nat->Bool},(List.range n).any p=true->∃i,i<n/\p i=true:=λh=>by
  obtain⟨i,hi,hp⟩:=S0.1 h;exact⟨i,Ri.1 hi,hp⟩
 have s:∀i j d,i<ops.size->j<i->cL ops i=some d->cL ops j=some d->False:=λi j d hi a c e=>by
  have:=all (all u i hi) j a;rw[c,e]at this;simp at this
 have t:∀i j r,i<ops.size->j<i->ma gs i=some r->ma gs j=some r->False:=λi j r hi a c e=>by
  have:=all (all w i hi) j a;rw[c,e]at this;simp at this
 refine⟨hl,λi hi k hk=>?_,λi j d hi a c e=>?_,λj a k hk i hi hd=>?_,λi g r l hr=>?_,λi g l hr=>?_,λi j r hi a c e=>?_,λr hr=>?_⟩
 ·have:=Rq.1 (all h2 i hi) k hk;simpa using this
 ·rcases Nat.lt_trichotomy i j with h|h|h
  ·exact(s j i d a h e c).elim
  ·exact h
  ·exact(s i j d hi h c e).elim
 ·have:=all (Rq.1 (all v j a) k hk) i hi;rw[hd]at this;simpa using this
 ·have hi:i<ops.size:=by rw[<-hl];exact(QT.1 l).1
  have:=all q i hi;obtain⟨p,r',lo,o⟩:=g;simp only at hr;subst hr;rw[l]at this;simp only[Q7,Ra,RX]at this;refine⟨this.1,?_⟩;rcases this.2 with h|h
  ·exact .inl (Rp h)
  ·obtain⟨j,a,b⟩:=any h;simp only[Q7,beq_iff_eq]at b;exact .inr ⟨j,a,b.1,b.2⟩
 ·have hi:i<ops.size:=by rw[<-hl];exact(QT.1 l).1
  have:=all q i hi;obtain⟨p,r',lo,o⟩:=g;simp only at hr;subst hr;rw[l]at this;simp only[Q7,RX]at this;refine⟨?_,?_⟩
  ·rcases this.1 with h|h
   ·exact .inl (Rp h)
   ·obtain⟨j,a,b⟩:=any h;simp only[Q7,beq_iff_eq]at b;exact .inr ⟨j,a,b.1,b.2⟩
  ·rcases this.2 with h|h
   ·exact .inl (Nat.ble_eq.mp h)
   ·obtain⟨j,a,b⟩:=any h;simp only[Q7,beq_iff_eq]at b;exact .inr ⟨j,a,b.1,b.2⟩
 ·rcases Nat.lt_trichotomy i j with h|h|h
  ·exact(t j i r a h e c).elim
  ·exact h
  ·exact(t i j r hi h c e).elim
 ·obtain⟨j,a,h⟩:=any (all x r hr);exact⟨j,a,by simpa using h⟩
structure JX (base N:Nat) (F:Nat->Prop) (l:List Oper) (gs:List GD) (σs:List ca) (t:cq) (ls:Array Bool) (r:Nat) (E:Env) (a:Act) (w:World):Prop where
 size:ls.size=l.length
 down:Down l.toArray ls
 rk:∀i s,i<l.length->ma gs i=some s->(ls.getD i true=true↔s<r)
 sat:∃σ,σs[r]? =some σ/\Sat F base σ E w
 lE:a.defers=[]
 tmps:a.tmps.size=N
 t0:dt E w a.eval t
 nf:∀j d g,j<l.length->ls.getD j true=true->cL l.toArray j=some d->gs[j]? =some g->cZ E w (a.eval (.tmp d)) g.p
theorem Cu(ls:Array Bool)(i j:Nat)(b:Bool)(hi:i<ls.size):(ls.setIfInBounds i true).getD j b=if j=i then true else ls.getD j b:=by
 by_cases e:j=i
 ·subst e;simp[hi]
 ·rw[QZ e];simp only[Rm,Rx (Ne.symm e)]
theorem Is{ls:Array Bool}{i:Nat}(hi:i<ls.size)(b c:Bool):ls.getD i b=ls.getD i c:=by simp[hi]
section
variable {l:List Oper} {gs:List GD} {σs:List ca} {t T:cq} {f m base:Nat} {F:Nat->Prop}
theorem JX.reach(c:Oa l.toArray f m gs){ls:Array Bool}{r:Nat}{E a w}(h:JX base N F l gs σs t ls r E a w){i j:Nat}(hi:i<l.length)(hr:fT l.toArray f i j=true)(hk:∀k∈nq l.toArray i,ls.getD k false=true):ls.getD j true=true:=by
 have:=eX (by rw[h.size];simp) h.down (λi hi=>c.nq i hi) f i j (by simpa using hi) hr hk;by_cases b:j<ls.size
 ·rw[Is b true false];exact this
 ·simp[b]
theorem JX.looks(c:Oa l.toArray f m gs)(n:o4 l (gs.map (·.p)) t=T){ls:Array Bool}{r:Nat}{E}{a:Act}{w}(h:JX base N F l gs σs t ls r E a w){i:Nat}(hi:i<l.length)(hk:∀k∈nq l.toArray i,ls.getD k false=true):∀k∈eW l.toArray i,∀p,look k T=some p->cZ E w (a.eval (.tmp k)) p:=λk hks p hp=>by
 rw[<-n]at hp;rcases nL _ _ _ k p hp with⟨j,o,h1,h2,b⟩|e
 ·rw[RE,R8]at b;obtain⟨g,q,rfl⟩:=b;have d:j<l.length:=(QT.1 h1).1;have hd:cL l.toArray j=some k:=by simp only[cL,SO,h1,R5,h2]
  have hr:=c.rd i (by simpa using hi) k hks j (by simpa using d) hd;exact h.nf j k g d (h.reach c hi hr hk) hd q
 ·exact h.t0 k p e
theorem JX.put(O:Oa l.toArray f m gs)(K:∀i d,i<l.length->cL l.toArray i=some d->look d t=none){ls:Array Bool}{r r':Nat}{E E'}{a:Act}{w w'}(h:JX base N F l gs σs t ls r E a w){i:Nat}{g:GD}{v}(hi:i<l.length)(hu:ls.getD i true=false)(hk:∀k∈nq l.toArray i,ls.getD k false=true)(Q:gs[i]? =some g)(B:de E w E' w')
  (hs:∃σ,σs[r']? =some σ/\Sat F base σ E' w') (hr:(g.r=none/\r'=r)\/(g.r=some r/\r'=r+1)) {o:Oper} (S:l[i]? =some o) (J:∀d,o.dst=some d->d<N) (hv:∀d,o.dst=some d->cZ E' w' v g.p):
  JX base N F l gs σs t (ls.setIfInBounds i true) r' E' (a.put o.dst v) w':=by
 have x:i<ls.size:=by rw[h.size];exact hi
 have D:ma gs i=g.r:=by simp only[ma,Q,R5]
 have q:cL l.toArray i=o.dst:=by simp only[cL,SO,S,R5]
 refine⟨by simpa using h.size,λj c M k C=>?_,λj s c b=>?_,hs,by cases o.dst<;>simpa[Act.put]using h.lE,by cases o.dst<;>simpa[Act.put]using h.tmps,λk p z=>?_,λj d R c y hd u=>?_⟩
 ·rw[Cu _ _ _ _ x]at c ⊢;split
  ·rfl
  ·by_cases e:j=i
   ·subst e;exact hk k C
   ·rw[QZ e]at c;exact h.down j c M k C
 ·rw[Cu _ _ _ _ x];by_cases e:j=i
  ·subst e;rw[QY rfl];rw[D]at b;rcases hr with⟨h1,_⟩|⟨h1,h2⟩
   ·rw[h1]at b;cases b
   ·rw[h1]at b;cases b;exact⟨λ_=>by omega,λ_=>rfl⟩
  ·rw[QZ e,h.rk j s c b];rcases hr with⟨_,h2⟩|⟨h1,h2⟩
   ·rw[h2]
   ·have:s≠r:=λH=>e (O.one j i r (by simpa using c) (by simpa using hi) (by rw[b,H]) (by rw[D,h1]));omega
 ·have A:∀d,o.dst=some d->k≠d:=λd hd e=>by
   subst e;rw[K i k hi (by rw[q,hd])]at z;cases z
  have:(a.put o.dst v).eval (.tmp k)=a.eval (.tmp k):=Act.eval_put λd hd heq=>by cases heq;exact A _ hd rfl
  rw[this];exact(h.t0 k p z).goes B
 ·rw[Cu _ _ _ _ x]at y;by_cases e:j=i
  ·subst e;rw[q]at hd;rw[Q]at u;cases u;rw[hd,kU a (by rw[h.tmps];exact J d hd),QY rfl];exact hv d hd
  ·rw[QZ e]at y;have A:∀G,o.dst=some G->d≠G:=λG n H=>by
    subst H;exact e (O.ss j i d (by simpa using c) (by simpa using hi) hd (by rw[q,n]))
   have:(a.put o.dst v).eval (.tmp d)=a.eval (.tmp d):=Act.eval_put λG n heq=>by cases heq;exact A _ n rfl
   rw[this];exact(h.nf j d R c y hd u).goes B
theorem DP(A:Oa l.toArray f m gs)(hT:o4 l (gs.map (·.p)) t=T)(K:∀i d,i<l.length->cL l.toArray i=some d->look d t=none)(hL:GL P N l.toArray σs T l gs){ai}(hm:σs[m]? =some ai){Q:Exit->Act->World->Prop}{E₀ w₀}(hq:∀a' w' E',Sat F base ai E' w'->dt E' w' a'.eval T->a'.defers=[]->a'.tmps.size=N->de E₀ w₀ E' w'->Below base w₀ w'->Q .normal a' w'):
  ∀(fuel:Nat) (ls:Array Bool) (r:Nat) (E:Env) (a:Act) (w:World),JX base N F l gs σs t ls r E a w->bS ls l.length=fuel->de E₀ w₀ E w->Below base w₀ w->r<=m->wpAny P .any l.toArray Q fuel ls a w:=by
 obtain⟨au,Z⟩:=hL.get;intro fuel;induction fuel with
 |zero=>
  intro ls r E a w h hu B hb Y;have G:=dK hu;have ah:r=m:=by
   rcases Sf r m with C|C
   ·obtain⟨j,x,al⟩:=A.has r C;have x:j<l.length:=by simpa using x
    have:=(h.rk j r x al).1 (G j x);omega
   ·omega
  subst ah;refine⟨TB.2 λi hi=>?_,?_⟩
  ·obtain⟨h1,h2,_⟩:=cT.1 hi;rw[G i (by simpa using h1)]at h2;cases h2
  ·obtain⟨σ,q,hs⟩:=h.sat
   rw[hm]at q;cases q;refine hq a w E hs (λk p M=>?_) h.lE h.tmps B hb;rw[<-hT]at M;rcases nL _ _ _ k p M with⟨j,o,h1,h2,D⟩|C
   ·rw[RE,R8]at D;obtain⟨g,hg,rfl⟩:=D;have x:j<l.length:=(QT.1 h1).1;exact h.nf j k g x (G j x) (by simp only[cL,SO,h1,R5,h2]) hg
   ·exact h.t0 k p C
 |succ fuel ih=>
  intro ls r E a w h hu B hb Y;obtain⟨i0,ab,aj,ak⟩:=gA (ls:=ls) (m:=l.length) (by omega);have ad:i0∈Region.ready .any l.toArray ls:=cT.2 ⟨by simpa using ab,aj,λk hk=>by
   have:=A.nq i0 (by simpa using ab) k hk;rw[Is (by rw[h.size];omega) false true];exact ak k this⟩
  refine⟨λh0=>absurd ad (by rw[h0];simp),λi hi=>?_⟩;obtain⟨h1,h2,D⟩:=cT.1 hi;have n:i<l.length:=by simpa using h1
  have S:l[i]? =some l[i]:=by simp[n]
  have s:gs[i]? =some (gs[i]'(by omega)):=by simp
  have hK:=Z i _ _ S s;generalize ar:gs[i]'(by omega)=g at s hK;generalize av:l[i]=o at S hK;have V:=h.looks A hT n D;have an:eW l.toArray i=o.looksAt l.toArray:=by simp only[eW,SO,S]
  rw[an]at V;have W:∀ks:List Nat,(ks.all λk=>(o.looksAt l.toArray).contains k)=true->dt E w a.eval (iN T ks):=λks hks k p M=>by
   obtain⟨U,R⟩:=kr ks k p M;exact V k (by have:=Rq.1 hks k U;simpa using this) p R
  have u:∀b,fO l.toArray T o=some b->Region.wanted o (yielded l.toArray a.tmps)=b:=λb hb=>by
   rw[ke];exact oe (λk hk p hp=>V k hk p hp) hb
  have O:bS (ls.setIfInBounds i true) l.length=fuel:=by have:=gC h2 n (by rw[h.size];omega);omega
  unfold wpOp;have ao:l.toArray[i]? =some o:=by simpa using S
  simp only[ao];have ag:ma gs i=g.r:=by simp only[ma,s,R5]
  cases hK with
  | @val p d lo hi ks hks hw hy hd hN=>
   rw[u true hw,QY rfl];left;obtain⟨σ,q,hs⟩:=h.sat
   obtain⟨q1,q2⟩:=A.quiet i _ s rfl;have af:lo<=r:=by
    rcases q1 with e|⟨j,x,y,z⟩
    ·simp only at e;omega
    ·have:=(h.rk j _ (by simpa using x) y).1 (h.reach A n z D);simp only at this;omega
   have aa:r<=hi:=by
    rcases q2 with e|⟨j,x,y,z⟩
    ·simp only at e;omega
    ·rcases Sf hi r with C|C
     ·have ae:j<l.length:=by simpa using x
      have U:=(h.rk j _ ae y).2 C;have R:=h.reach A ae z (h.down j U x);rw[h2]at R;cases R
     ·exact C
   refine tv (hy r σ af aa q F base E a.eval w (iI a) hs (W ks hks)) λv w' hE hv=>?_;exact ih _ r E _ w' (h.put A K n h2 D s (.ext hE) ⟨σ,q,hs.ext hE⟩ (.inl ⟨rfl,rfl⟩) S (λd' c=>by rw[hd]at c;cases c;exact Nat.blt_eq.mp hN) (λ_ _=>hv)) O (B.trans (.ext hE)) (hb.trans (Ti hE hs.bl)) Y
  | @skip d lo hi hw hd hN=>
   rw[u false hw,QZ (by simp)];exact ih _ r E _ w (h.put A K n h2 D s (UD _ _) h.sat (.inl ⟨rfl,rfl⟩) S (λd' c=>by rw[hd]at c;cases c;exact Nat.blt_eq.mp hN) (λ_ _=>.raw _)) O B hb Y
  | @rF p d J lo hi σ σ' ks hks hw U R hy hd hN=>
   rw[u true hw,QY rfl];left;obtain⟨q1,q2⟩:=A.rF i _ J s rfl;have X:J=r:=by
    have n1:¬J<r:=λC=>by
     have:=(h.rk i J n ag).2 C;rw[h2]at this;cases this
    rcases q2 with e|⟨j,x,y,z⟩
    ·omega
    ·have:=(h.rk j _ (by simpa using x) y).1 (h.reach A n z D);omega
   subst X;obtain⟨aq,q,hs⟩:=h.sat
   rw[U]at q;cases q;obtain⟨v,w',E',hr,k1,k2,k3,k4⟩:=hy F base E a.eval w (iI a) hs (W ks hks);have H:=ih _ (J+1) E' (a.put o.dst v) w' (h.put A K n h2 D s k2 ⟨σ',R,k1⟩ (.inr ⟨rfl,rfl⟩) S (λd' c=>by rw[hd]at c;cases c;exact Nat.blt_eq.mp hN) (λ_ _=>k4)) O (B.trans k2) (hb.trans k3) (by omega);unfold Oper.wp;rcases hr with hr|⟨rfl,hr⟩
   ·rw[hr];exact H
   ·rw[hr];exact H
  | @mU p J lo hi σ σ' ks hks hw U R hy hd=>
   rw[u true hw,QY rfl];left;obtain⟨q1,q2⟩:=A.rF i _ J s rfl;have X:J=r:=by
    have n1:¬J<r:=λC=>by
     have:=(h.rk i J n ag).2 C;rw[h2]at this;cases this
    rcases q2 with e|⟨j,x,y,z⟩
    ·omega
    ·have:=(h.rk j _ (by simpa using x) y).1 (h.reach A n z D);omega
   subst X;obtain⟨aq,q,hs⟩:=h.sat
   rw[U]at q;cases q;obtain⟨v,w',E',hr,k1,k2,k3,k4⟩:=hy F base E a.eval w (iI a) hs (W ks hks);have H:=ih _ (J+1) E' (a.put o.dst v) w' (h.put A K n h2 D s k2 ⟨σ',R,k1⟩ (.inr ⟨rfl,rfl⟩) S (λd' c=>by rw[hd]at c;cases c) (λd' c=>by rw[hd]at c;cases c)) O (B.trans k2) (hb.trans k3) (by omega);unfold Oper.wp;rcases hr with hr|⟨rfl,hr⟩
   ·rw[hr];exact H
   ·rw[hr];exact H
end
theorem mO:∀(n k:Nat),k<=n->bS (Array.replicate n false) k=k
 |n,0,_=>rfl
 |n,k+1,h=>by
  simp only[bS];rw[mO n k (by omega)];simp[show k<n by omega]
theorem wg{id:Nat}{l:List Oper}{t t' σ c}{Q:Exit->St->Prop}(f m:Nat)(σs:List ca)(gs:List GD)(T:cq)(hm:P.follows .mixedOrders=true)(y:H8 l.toArray f m gs=true)(B:o4 l (gs.map (·.p)) t=T)(q:(l.all λo=>o.dst.all λd=>(look d t).isNone)=true)(h0:σs[0]? =some σ)(h1:σs[m]? =some c)
  (A:GL P N l.toArray σs T l gs) (n:Sub T t') (D:Q .normal ⟨t',c⟩):W P N L (.region id l.toArray true) ⟨t,σ⟩ Q:=λF base E₀ w₀ E a w hc hs=>by
 have z:=Ak y;have p:Ext w {w with drawn:=w.drawn+1}:=⟨rfl,rfl,rfl,Rc _,λ_ _=>rfl⟩;refine wp_region_any hm ?_;have h:∀i d,i<l.length->cL l.toArray i=some d->look d t=none:=λi d hi hd=>by
  have x:l[i]? =some l[i]:=by simp[hi]
  simp only[cL,SO,x,R5]at hd;have:=Rq.1 q _ (Ro x);rw[hd]at this;simpa using this
 have r:JX base N F l gs σs t (Array.replicate l.length false) 0 E a {w with drawn:=w.drawn+1}:=by
  have b:∀i,i<l.length->(Array.replicate l.length false).getD i true=false:=λi hi=>by simp[hi]
  refine⟨by simp,λi hi u=>?_,λi s hi _=>?_,⟨σ,h0,hs.sat.ext p⟩,hs.lE,hs.size,hs.tmp.goes (.ext p),λj d g C k=>?_⟩
  ·rw[b i (by simpa using u)]at hi;cases hi
  ·rw[b i hi];simp
  ·rw[b j C]at k;cases k
 have:=DP (Q:=λe v w'=>mY F base N E₀ w₀ (Q e) v w') z B h A h1 (E₀:=E₀) (w₀:=w₀) (λv w' E' G H J K M O=>⟨⟨t',c⟩,E',D,⟨G,H.sub n,J,K⟩,M,O⟩) l.length _ 0 E a _ r (mO _ _ (Rc _)) (hc.g.trans (.ext p)) (hc.b.trans (Ti p hs.sat.bl)) (RQ _);simpa using this
theorem xZ{id:Nat}{l:List Oper}{y t t' σ b}{Q:Exit->St->Prop}(f m:Nat)(σs:List ca)(gs:List GD)(T:cq)(hm:P.follows .mixedOrders=true)(e:H8 l.toArray f m gs=true)(h:o4 l (gs.map (·.p)) t=T)(c:(l.all λo=>o.dst.all λd=>(look d t).isNone)=true)(h0:σs[0]? =some σ)(h1:σs[m]? =some b)
  (g:GL P N l.toArray σs T l gs) (a:Sub T t') (i:W P N L y ⟨t',b⟩ Q):W P N L (.seq (.region id l.toArray true) y) ⟨t,σ⟩ Q:=ai (wg f m σs gs T hm e h c h0 h1 g a i)
theorem yz{P}{σs:List ca}{t o p}{lo hi:Nat}(h:∀σ∈(σs.drop lo).take (hi+1 - lo),bE P σ t o p):∀r σ,lo<=r->r<=hi->σs[r]? =some σ->bE P σ t o p:=λr σ h1 h2 hs=>by
 refine h σ (Ro (i:=r - lo) ?_);rw[RV,QY (by omega),Su,show lo+(r - lo)=r by omega];exact hs
theorem dF{α:Type}{p:α->Prop}:∀x∈([]:List α),p x:=λ_ h=>by cases h
theorem cg{α:Type}{p:α->Prop}{a l}(h:p a)(hs:∀x∈l,p x):∀x∈a::l,p x:=λx hx=>by
 rcases RA.1 hx with rfl|b
 ·exact h
 ·exact hs x b
end
open Net eE
theorem Hi{P}{N L:Nat}{x st}{Q:Exit->St->Prop}{Q1:St->Prop}(h:W P N L x st (MP Q1))(k:∀s,Q1 s->Q .normal s):W P N L x st Q:=
 h.mono λe s a=>by cases e<;>first|exact k s a|exact a.elim
theorem wV{T}(hv:av T=true)(D:List Bool)(n d:Nat):(bu T D n d).length<=512:=by
 have hl:=bO hv;unfold bu;split
 ·simp
 ·exact Rr (RG _ _) (Rr (eu T n _) (by omega))
theorem u6(T:ak)(D:List Bool)(n d:Int):Can prog 118 [aL T,aV D,num n,num d] (· =flag (iO T D n d)):=by
 have⟨q,a⟩:=QQ (decide (gG T D n d=0));unfold iO;rw[a];exact aF func118 I ntmps118 I<|ab (.a 2 I<|.k [1,2,3,4] I)<|ab (.a 4 I<|.c rfl (sr T D n d) I<|.a 5 I<|.k [10] I)<|ab (.a 1 I<|.v (bW I (a)) I<|.a 1 I<|.k [8] I)<|ao<|QR I ax.pure rfl
def gO(T:ak)(k x:Int):List Bool:=if dy T k x=0 then az T k x else []
theorem uE{T}{k x:Int}(h:(av T&&cd T k x)=true):gO T k x=az T k x:=by
 unfold gO dy;rw[QY h,QY rfl]
theorem qH(T:ak)(k x n d:Int):Can prog 145 [aL T,bV k x,num n,num d] (· =flag (iO T (gO T k x) n d)):=by
 have a:=oP T k x;unfold iZ at a;exact aF func145 I ntmps145 I<|ab (.a 3 I<|.k [2,3,4,5] I)<|ab (.a 2 I<|.c rfl (a) I<|.a 5 I<|.k [2,3,4,9] I)<|ab (.a 4 I<|.c rfl (u6 T (gO T k x) n d) I<|.a 1 I<|.k [8] I)<|ao<|QR I ax.pure rfl
theorem Dp{T:ak}(hv:av T=true){a:Nat}(b:a<2*T.ah.length)(h:0<gN T a):(av T&&cd T 3 (gN T a))=true:=by
 have:=wH hv b;rw[hv];unfold cd;simp only[QZ (show ¬(3:Int)=1 by decide),QZ (show ¬(3:Int)=2 by decide),Sw,RM,Q7,Ra];exact⟨by omega,by omega⟩
theorem zI{T:ak}(hv:av T=true){a:Nat}(b:a<2*T.ah.length):(av T&&cd T 2 (aN T a))=true:=by
 obtain⟨h0,h1⟩:=(aS hv).head a b;rw[hv];unfold cd;simp only[QZ (show ¬(2:Int)=1 by decide),Sw,RM];exact aQ.2 ⟨h0,h1⟩
theorem FW(T:ak)(a:Nat)(d:Int)(hv:av T=true)(q:a<2*T.ah.length)(hd:0<=d/\d<T.nodes):Can prog 117 [aL T,num a,num d] (· = .tuple [bV (dx T a d).1 (dx T a d).2,num 0]):=by
 have y:=bO hv;have hi:a / 2<T.ah.length:=by omega
 have⟨g,s⟩:=QQ (gN T a);have⟨h,w⟩:=QQ (aN T a);have⟨m,hm⟩:=QQ (aZ T a);have i:=Dp hv q;have j:=zI hv q;have k:=gY T hv a q;have l:=fI T hv a q;have t:(cP T.ah (a / 2)).wG=g:=s;rw[w]at j k;rw[s]at i;rw[hm]at l;have⟨c1,b⟩:=QQ (decide (0<g));have⟨u,c⟩:=QQ (iO T (gO T 3 g) m d);have⟨r,e⟩:=QQ (decide (h≠d));have⟨v,f⟩:=QQ (iO T (gO T 2 h) m d);have x:dx T a d=if(c1&&u)=true then(3,g) else if(r&&v)=true then(2,h) else(1,((a / 2:Nat):Int)):=by
  unfold dx;rw[s,w,hm,b,e,<-uE j,f];congr 1;cases c1 with
  |false=>rfl
  |true=>rw[<-uE (i (tt b)),c]
 have n:=qH T 3 g m d;rw[c]at n;have o:=qH T 2 h m d;rw[f]at o;rw[x];refine aF func117 I ntmps117 I<|aK<|au 3 I<|aE [1,2,3,6] I ?_;refine ai<|ab (.a 1 I<|.c rfl (hv▸fh T) I<|.a 1 I<|.k [1,2,3,6,14] I)<|ae I (λh1=>?_) (λh1=>?_)
 ·exact absurd h1 (by decide)
 ·clear h1;refine aj<|ai<|bz 35 (.raw (.bool (false))) [1,2,3,6] I ?_ ?_
  ·exact .a 1 I<|.v (bW I (show decide ((a:Int)<0)=false from Rg (by omega))) I<|.a 5 I<|.v (aW I (hc:=rfl)) I<|.v (bW I (show decide (2*(T.ah.length:Int)<=(a:Int))=false from Rg (by omega))) I<|.a 3 I<|.v (bW I (show decide (d<0)=false from Rg (by omega))) I<|.a 5 I<|.v (bW I (show decide (T.nodes<=d)=false from Rg (by omega))) I<|.a 1 I<|.k [35,1,2,3,6] I
  refine ae I (λh1=>?_) (λh1=>?_)
  ·exact absurd h1 (by decide)
  ·clear h1;refine aj<|er mixed (by kernel_rfl) (.a 2 I<|.v [37,38] (dX I (l)) I I<|.a 2 I<|.v [40,41] (dX I (k)) I I<|.a 2 I<|.k [1,2,3,6,8,9] I) ?_;refine aK<|au 3 I<|bm (jV I I I (by decide) ((show(a:Int).tdiv 2=((a / 2:Nat):Int) by rw[Sv (by omega)];omega)) (by unfold In64;omega)) I<|bm (aM ((a / 2*7)) I) I<|au 1 I<|bm (aJ I ((fq T.ah (a / 2) 6 hi (by omega)).trans (show(lS (cP T.ah (a / 2)))[6]? =some (num g) by rw[<-t];rfl))) I<|au 3 I<|aE [1,2,3,6,8,9,10] I ?_;refine aK<|au 4 I<|aE [1,2,3,6,8,9,10,11] I ?_;refine ai<|aw<|bz 53 (.raw (.bool (c1&&u))) [1,2,3,6,8,9,10,11] I ?_ ?_
   ·refine .a 2 I<|.v (bW I (b)) I<|.a 1 I<|?_;cases c1
    ·exact .a 7 I<|.k [53,1,2,3,6,8,9,10,11] I
    ·exact .a 4 I<|.c rfl (n) I<|.a 2 I<|.k [53,1,2,3,6,8,9,10,11] I
   refine ae I (λh1=>?_) (λh1=>?_)
   ·rw[QY h1];refine aK<|au 3 I<|aE [6,7] I ?_;exact ao<|QR I (ax.pure (p:=.tuple [bV 3 g,num 0])) rfl
   ·rw[QZ (by rw[h1];simp)];refine bz 65 (.raw (.bool (r&&v))) [1,6,11] I ?_ ?_
    ·refine .a 2 I<|.v (bW I (e)) I<|.a 1 I<|?_;cases r
     ·exact .a 7 I<|.k [65,1,6,11] I
     ·exact .a 4 I<|.c rfl (o) I<|.a 2 I<|.k [65,1,6,11] I
    refine ae I (λh2=>?_) (λh2=>?_)
    ·rw[QY h2];refine aK<|au 3 I<|aE [6,7] I ?_;exact ao<|QR I (ax.pure (p:=.tuple [bV 2 h,num 0])) rfl
    ·rw[QZ (by rw[h2];simp)];refine aj<|aK<|au 1 I<|bm (jV I I I (by decide) ((show(a:Int).tdiv 2=((a / 2:Nat):Int) by rw[Sv (by omega)];omega)) (by unfold In64;omega)) I<|au 3 I<|aE [6,7] I ?_;exact ao<|QR I (ax.pure (p:=.tuple [bV 1 ((a / 2:Nat):Int),num 0])) rfl
theorem Bp(T:ak)(n d:Nat)(hv:av T=true)(hn:(n:Int)<T.nodes)(hd:(d:Int)<T.nodes):Can prog 116 [aL T,aV [],num n,num d] (· =aq (bu T [] n d)):=by
 have o:=bO hv;have he:ct T [] [(d:Int)]=0:=by
  unfold ct;rw[hv,iG];simp[aQ.2 (show 0<=(d:Int)/\(d:Int)<T.nodes by omega)]
 have b:=lY T [] (d:Int);rw[he,QS]at b;unfold ec at b;rw[QY rfl]at b;obtain⟨h,i⟩:=dD (D:=[]) hv (dir:=false) hd;rw[<-rI T [] n d hv hn];generalize bJ T [] d false=L at*;refine aF func116 I ntmps116 I<|ab (.a 2 I<|.k [1,2,3,4] I)<|ab (.a 3 I<|.c rfl (b) I<|.a 5 I<|.k [1,2,3,4,9,10] I)<|ab (.a 1 I<|.k [1,2,3,4,9,10,11] I)<|eU 11 3 1 I ?_;refine ai<|ab (.a 1 I<|.k [1,2,3,4,9,10,11,12] I)<|aw<|eF [1,2,3,4,9,10,11,12] I<|bd (λr s=>∃k,k<=2*T.ah.length/\r=2*T.ah.length - k/\s=⟨[(1,aV []),(2,num n),(3,num d),(4,.bq (bn T) 0),(9,aq L),(10,num 0),(11,.own 0),(12,num k)],[some (.row 3 1 (gR T [] L n d k).length (aU (gR T [] L n d k)))]⟩) (2*T.ah.length) ⟨0,by omega,by omega,rfl⟩ ?_;rintro r s ⟨k,hk,rfl,rfl⟩;have⟨p0,a⟩:=QQ (decide ((k:Int)<2*(T.ah.length:Int)));refine ai<|bz 29 (.raw (.bool (p0))) [1,2,3,4,9,10,11,12] I ?_ ?_
 ·exact .a 1 I<|.v (bW I (show decide ((0:Int)=0)=true from rfl)) I<|.a 5 I<|.v (aW I (hc:=rfl)) I<|.v (bW I (a)) I<|.a 1 I<|.k [29,1,2,3,4,9,10,11,12] I
 refine ae I (λh1=>?_) (λh1=>?_)
 ·have g:k<2*T.ah.length:=by rw[h1]at a;have:=tt a;omega
  have l:=sq T [] L n d k;have c:=qC T [] L n d k;clear h1 a;refine aj<|ai<|aw ?_;have⟨m,e⟩:=QQ (decide (aZ T k=(n:Int)));have⟨p,f⟩:=QQ (DW T [] L k d);refine bz 44 (.raw (.bool (m&&p))) [1,2,3,4,9,10,11,12] I ?_ ?_
  ·refine .a 2 I<|.c rfl (fI T hv k g) I<|.a 1 I<|.v (bW I (e)) I<|.a 1 I<|?_;cases m
   ·exact .a 7 I<|.k [44,1,2,3,4,9,10,11,12] I
   ·exact .a 5 I<|.c rfl (f▸CD T [] L k d hv (iG T) h i g) I<|.a 1 I<|.k [44,1,2,3,4,9,10,11,12] I
  refine ae I (λh2=>?_) (λh2=>?_)
  ·rw[e,f,h2,QY rfl]at c;refine bx<|au 3 I<|cb (bF I (Ru I) I I I I (by unfold maxLen;omega)) I<|au 1 I ?_;refine dL [1] (.c 1<|.c 2<|.c 3<|.c 4<|.c 9<|.c 10<|.c 11<|.c 12<|.nil) (.kept rfl (.eY rfl (cW _ _))<|.nil) I I (bg ?_);refine aC (.a 1 I<|.v (aW I) I<|.a 1 I<|.k [1,2,3,4,9,10,11,12] I)<|⟨2*T.ah.length - (k+1),by omega,k+1,by omega,rfl,?_⟩;rw[c];first
    |rfl
    |(simp only[Q0,Rk];rfl)
  ·rw[e,f,h2,QZ (by simp),R9]at c;refine aj<|aC (.a 1 I<|.v (aW I) I<|.a 1 I<|.k [1,2,3,4,9,10,11,12] I) ?_;refine⟨2*T.ah.length - (k+1),by omega,k+1,by omega,rfl,?_⟩;rw[c];first
    |rfl
    |(simp only[Q0,Rk];rfl)
 ·have j:k=2*T.ah.length:=by rw[h1]at a;have:=ff a;omega
  subst j;clear a h1;exact ba<|ab (.a 2 I<|.k [8] I)<|ao<|QR I (Tj rfl Sj) rfl
theorem CX(T:ak)(k x:Int)(hm:(av T&&cd T k x)=true)(σ:ca):bM prog 89 [aL T,bV k x] σ (λr σ'=>r= .tuple [.own σ.length,num 0]/\σ'=σ++[jX (az T k x)]):=by
 refine bM.frame (RT (uU T k x) ?_);rintro r σ' (⟨h1,_⟩|⟨_,rfl,rfl⟩)
 ·rw[hm]at h1;cases h1
 ·exact⟨[.row 4 1 (az T k x).length (bZ (az T k x))],rfl,_,_,Up.aO (T9 (Up.own rfl) (T9 Up.pure ml.nil)),U5 (.row ml.pure) ni.nil,by simp,rfl⟩
def kR(T:ak)(D E:List Bool)(k:Nat):List Bool:=(List.range (2*T.ah.length)).map λa=>if a<k then aI D a||aI E a else aI D a
theorem qq(T:ak)(D E:List Bool)(k:Nat):(kR T D E k).length=2*T.ah.length:=by simp[kR]
theorem qp{T D E}{k i:Nat}(h:i<(kR T D E k).length):(kR T D E k)[i]=if i<k then aI D i||aI E i else aI D i:=by simp[kR]
theorem B4{M:List Bool}{a:Nat}(h:a<M.length):aI M a=M[a]:=by rw[<-fm];simp[h]
theorem wZ{T:ak}{D E:List Bool}(h:D.length=2*T.ah.length):kR T D E 0=D:=by
 apply Sl (by rw[qq,h]);intro i h1 h2;rw[qp,QZ (by omega),B4 h2]
theorem AO(T:ak)(D E:List Bool):kR T D E (2*T.ah.length)=orM T D E:=by
 unfold kR orM;exact Se λa b=>QY (Ri.1 b)
theorem wY(T:ak)(D E:List Bool)(k:Nat):(kR T D E k).set k (aI D k||aI E k)=kR T D E (k+1):=by
 apply Sl (by simp[kR]);intro i h1 h2;rw[TG,qp,qp];by_cases e:k=i
 ·subst e;rw[QY rfl,QY (by omega)]
 ·rw[QZ e];by_cases h:i<k
  ·rw[QY h,QY (by omega)]
  ·rw[QZ h,QZ (by omega)]
theorem D0{T:ak}{D E}{k:Nat}(h:k<2*T.ah.length):(kR T D E k).getD k false=aI D k:=by
 have hk:k<(kR T D E k).length:=by rw[qq];exact h
 rw[QU,QX hk,SM,qp,QZ (by omega)]
def Fh(o:Option Int):Int:=match o with|some a=>a|none=> -1
theorem Ie(own:List Bool)(l:List Int)(i:Nat)(h:i<l.length):fA own (l.take (i+1))=(fA own (l.take i)).or (if aI own (l.getD i 0).toNat then some (l.getD i 0) else none):=by
 unfold fA;rw[dE l i 0 h,List.find?_append];congr 1;simp only[List.find?_cons,List.find?_nil];cases aI own (l.getD i 0).toNat<;>rfl
theorem Jf(T:ak)(own:List Bool)(n d:Nat)(hv:av T=true)(N:own.length=2*T.ah.length)(hn:(n:Int)<T.nodes)(hd:(d:Int)<T.nodes)(cS:T.nodes<=12):Can prog 88 [aL T,aV own,num n,num d] (· =tW (mZ T own n d)):=by
 have aa:=bO hv;have U:bN T own=true:=by unfold bN;rw[N];simp
 have R:aX T (n:Int)=true:=aQ.2 ⟨by omega,hn⟩;have L:aX T (d:Int)=true:=aQ.2 ⟨by omega,hd⟩;have H:=Bp T n d hv hn hd;have G:=wV hv [] n d;have c:∀a∈bu T [] n d,∃k:Nat,a=(k:Int)/\k<2*T.ah.length:=λa J=>by
  obtain⟨k,hk,Q⟩:=di J;exact⟨k,hk,Q.eZ⟩
 unfold mZ;have⟨l,hl⟩:=QQ (bu T [] n d);rw[hl]at H G c ⊢;refine aF func88 I ntmps88 I<|aK<|au 2 I<|aE [1,2,3,4,8] I ?_;refine ab (.a 3 I<|.v (sT I (QV ax.pure<|QV ax.bH<|QV ax.pure<|QV ax.pure Rl) (H)) I<|.a 1 I<|.k [1,2,3,4,8,9] I)<|ab (.a 1 I<|.k [1,2,3,4,8,9,10] I)<|ai<|ab (.a 1 I<|.k [1,2,3,4,8,9,10,11] I)<|aw<|eF [1,2,3,4,8,9,10,11] I<|bd (λr s=>∃i,i<=l.length/\r=l.length - i/\s=⟨[(1,aV own),(2,num n),(3,num d),(4,.bq (bn T) 0),(8,.ptr 0 0),(9,aq l),(10,num (Fh (fA own (l.take i)))),(11,num i)],[some (.cells 120 [.raw (.slice none 0 0),flag false,.raw (.slice none 0 0)])]⟩) l.length ⟨0,by omega,by omega,rfl⟩ ?_;rintro r s ⟨i,hi,rfl,rfl⟩;refine ai<|ab (.a 4 I<|.k [1,2,3,4,8,9,10,11,26] I)<|ae I (λh1=>?_) (λh1=>?_)
 ·have m:i<l.length:=by have:=tt h1;omega
  obtain⟨k,hk,Z⟩:=c _ (bX (d:=0) m);have e:=Ie own l i m;rw[hk,QS]at e;clear h1;refine aj<|ai<|aw ?_;have⟨c1,f⟩:=QQ (decide (Fh (fA own (l.take i))<0));have⟨y,j⟩:=QQ (aI own k);have V:(fA own (l.take i)=none/\c1=true)\/∃b,fA own (l.take i)=some b/\c1=false:=by
   cases hx:fA own (l.take i)with
   |none=>rw[hx]at f;exact .inl ⟨rfl,by rw[<-f];rfl⟩
   |some b=>
    refine .inr ⟨b,rfl,?_⟩;obtain⟨k',P,_⟩:=c b (Tq (nJ hx).1);rw[<-f,hx];exact Rg (by show ¬b<0;omega)
  refine bz 39 (.raw (.bool (c1&&y))) [1,2,3,4,8,9,10,11] I ?_ ?_
  ·refine .a 1 I<|.v (bW I (f)) I<|.a 1 I<|?_;cases c1
   ·exact .a 8 I<|.k [39,1,2,3,4,8,9,10,11] I
   ·exact .a 3 I<|.v (aM (i) I) I<|.v (aJ I ((aB l i m).trans (by rw[hk]))) I<|.v (aM (k) I) I<|.v (aJ I ((show _=some (flag y) by rw[db _ k (by omega),fm,j]))) I<|.a 1 I<|.k [39,1,2,3,4,8,9,10,11] I
  refine ae I (λh2=>?_) (λh2=>?_)
  ·have o:Fh (fA own (l.take (i+1)))=(k:Int):=by
    rcases V with⟨h,rfl⟩|⟨b,h,rfl⟩
    ·rw[e,h,j];cases h2;rfl
    ·cases h2
   refine aC (.a 2 I<|.v (aM (i) I) I<|.v (aJ I ((aB l i m).trans (by rw[hk]))) I<|.a 1 I<|.k [1,2,3,4,8,9,10,11] I)<|aC (.a 1 I<|.v (aW I) I<|.a 1 I<|.k [1,2,3,4,8,9,10,11] I) ?_;exact⟨l.length - (i+1),by omega,i+1,by omega,rfl,by rw[o];rfl⟩
  ·have o:Fh (fA own (l.take (i+1)))=Fh (fA own (l.take i)):=by
    rcases V with⟨h,rfl⟩|⟨b,h,rfl⟩
    ·have h2:y=false:=h2;rw[e,h,j,h2];rfl
    ·rw[e,h];rfl
   refine aj<|aC (.a 1 I<|.v (aW I) I<|.a 1 I<|.k [1,2,3,4,8,9,10,11] I) ?_;exact⟨l.length - (i+1),by omega,i+1,by omega,rfl,by rw[o];rfl⟩
 ·have O:i=l.length:=by have:=ff h1;omega
  subst O;rw[RC];clear h1;refine ba<|ai<|ab (.a 2 I<|.k [1,2,3,4,8,9,10,45] I)<|ae I (λx=>?_) (λx=>?_)
  ·have S:fA own l=none:=by
    cases hx:fA own l with
    |none=>rfl
    |some b=>
     rw[hx]at x;obtain⟨k',P,_⟩:=c b (nJ hx).1;exact absurd (tt x) (by show ¬b<0;omega)
   rw[S];refine aK<|au 3 I<|aE [8] I ?_;exact ao<|QR I (TI (QV (ax.pure (p:=aq l))<|QV ax.pure<|QV ax.bH Rl)) rfl
  ·obtain⟨a,J⟩:∃a,fA own l=some a:=by
    cases hx:fA own l with
    |none=>rw[hx]at x;exact absurd x (by decide)
    |some b=>exact⟨b,rfl⟩
   obtain⟨k,rfl,hk⟩:=c a (nJ J).1;rw[J];simp only[Fh];rw[QS];have C:(av T&&cd T (dx T k d).1 (dx T k d).2)=true:=by rw[hv,zH hv hk];rfl
   have F:=FW T k d hv hk ⟨by omega,hd⟩;have w:=λσ=>CX T (dx T k d).1 (dx T k d).2 C σ;have g:ld T own n d k=if iO T (orM T (az T (dx T k d).1 (dx T k d).2) own) n d=true then orM T (az T (dx T k d).1 (dx T k d).2) own else own:=rfl;generalize dx T k (d:Int)=X at*;obtain⟨ck,z⟩:=X;simp only at C F w g;have B:=fQ T ck z;have⟨M,hM⟩:=QQ (az T ck z);rw[hM]at w g B;have t:=uS T (ld T own n d k) n d cS;rw[lL hv (nQ U k) R L]at t;clear x c;refine aj<|aK<|au 3 I<|ez I (F) I<|au 6 I<|aE [1,2,3,4,8,12] I ?_;refine aK<|au 2 I<|cD I I (RT (w _) (λr σ' h=>?_));obtain⟨rfl,rfl⟩:=h;refine au 5 I<|aE [1,2,3,4,8,14] I ?_;refine ai<|ab (.a 1 I<|.k [1,2,3,4,8,14,16] I)<|eO (σ':=[some (.cells 120 [.raw (.slice none 0 0),flag false,.raw (.slice none 0 0)]),some (.cells 27 [num ck,num z]),jX (kR T M own 0)]) (by rw[wZ B];rfl) ?_;refine aw<|eF [1,2,3,4,8,14,16] I<|bd (λr s=>∃a,a<=2*T.ah.length/\r=2*T.ah.length - a/\s=⟨[(1,aV own),(2,num n),(3,num d),(4,.bq (bn T) 0),(8,.ptr 0 0),(14,.own 2),(16,num a)],[some (.cells 120 [.raw (.slice none 0 0),flag false,.raw (.slice none 0 0)]),some (.cells 27 [num ck,num z]),jX (kR T M own a)]⟩) (2*T.ah.length) ⟨0,by omega,by omega,rfl⟩ ?_;rintro r s ⟨a,Y,rfl,rfl⟩;have ad:=qq T M own a;refine ai<|ab (.a 4 I<|.k [1,2,3,4,8,14,16,64] I)<|ae I (λA=>?_) (λA=>?_)
   ·have m:a<2*T.ah.length:=by have:=tt A;omega
    have e:=wY T M own a;have v:=D0 (T:=T) (D:=M) (E:=own) m;clear A;refine aj<|ai<|aw ?_;have⟨c1,f⟩:=QQ (aI M a);have⟨y,j⟩:=QQ (aI own a);rw[f,j]at e;rw[f]at v;refine Hi (Q1:=λst=>st=⟨[(1,aV own),(2,num n),(3,num d),(4,.bq (bn T) 0),(8,.ptr 0 0),(14,.own 2),(16,num a)],[some (.cells 120 [.raw (.slice none 0 0),flag false,.raw (.slice none 0 0)]),some (.cells 27 [num ck,num z]),jX (kR T M own (a+1))]⟩) ?_ ?_
    ·cases c1
     ·refine bx<|au 4 I<|bm (aM (a) I) I<|bm (aJ I ((show(bZ (kR T M own a))[a]? =some (flag false) by rw[db _ a (by omega),v]))) I<|au 3 I<|bm (aM (a) I) I<|bm (aJ I ((show(bZ own)[a]? =some (flag y) by rw[db _ a (by omega),fm,j]))) I<|au 1 I<|bm (aM (a) I) I<|bc (cA I (Q6 I) I I I (by first|omega|(simp;omega))) I I<|aE [1,2,3,4,8,14,16] I ?_;rw[<-e];unfold jX;rw[Ry]
      rfl
     ·refine bx<|au 4 I<|bm (aM (a) I) I<|bm (aJ I ((show(bZ (kR T M own a))[a]? =some (flag true) by rw[db _ a (by omega),v]))) I<|au 6 I<|bm (aM (a) I) I<|bc (cA I (Q6 I) I I I (by first|omega|(simp;omega))) I I<|aE [1,2,3,4,8,14,16] I ?_;rw[<-e];unfold jX;rw[Ry]
      rfl
    rintro _ rfl;refine aC (.a 1 I<|.v (aW I) I<|.a 1 I<|.k [1,2,3,4,8,14,16] I)<|⟨2*T.ah.length - (a+1),by omega,a+1,by omega,rfl,rfl⟩
   ·have K:a=2*T.ah.length:=by have:=ff A;omega
    subst K;rw[AO];clear A;refine ba<|ai<|BM 14 2 I I ?_;refine dS [0] (.c 1<|.c 2<|.c 3<|.c 4<|.c 8<|.c 14<|.nil) (.kept rfl (.cells (Sr<|Sr<|Sr<|Sy))<|.nil) I I ?_;have⟨q,W⟩:=QQ (iO T (orM T M own) n d);rw[W]at g;refine ab (.a 4 I<|.c rfl (W▸u6 T (orM T M own) n d) I<|.a 1 I<|.k [1,2,3,4,8,14,85] I)<|ae I (λu=>?_) (λu=>?_)
    ·have u:q=false:=by simpa using u
     rw[u,QZ (by simp)]at g;rw[g]at t ⊢;refine aC (.a 2 I<|.k [2,3,4,8,14] I)<|aK<|au 4 I<|ez I (t) I<|au 6 I<|aE [8,17] I ?_;refine aK<|au 2 I<|aE [8] I ?_;exact ao<|QR I (ax.pure (p:=tW _)) rfl
    ·have u:q=true:=by simpa using u
     rw[u,QY rfl]at g;rw[g]at t ⊢;refine aj<|aK<|au 4 I<|ez I (t) I<|au 6 I<|aE [8,17] I ?_;refine aK<|au 2 I<|aE [8] I ?_;exact ao<|QR I (ax.pure (p:=tW _)) rfl
theorem Gj(T:ak)(k x n:Int)(cS:T.nodes<=12):Can prog 53 [aL T,bV k x,num n] (· =iw (if dy T k x=0 then(if aX T n then 0 else 2) else 1) (sQ T (az T k x) n.toNat)):=by
 have⟨p,a⟩:=QQ (av T&&cd T k x);refine aF func53 I ntmps53 I<|aK<|au 4 I<|aE [2,3,4,6] I ?_;refine ai<|ab (.a 2 I<|.c rfl (a▸iQ T k x) I<|.a 1 I<|.k [2,3,4,6,15] I)<|ae I (λh1=>?_) (λh1=>?_)
 ·have h1:p=false:=by simpa using h1
  have he:dy T k x=1:=by unfold dy;rw[a,h1];rfl
  rw[he];refine aK<|au 3 I<|aE [6,7] I ?_;exact ao<|QR I (RW (QV (TI (QV ax.pure<|QV ax.bH<|QV ax.bH Rl)) (QV ax.pure Rl))) rfl
 ·have h1:p=true:=by simpa using h1
  subst h1;have he:dy T k x=0:=by unfold dy;rw[QY a]
  rw[he,QY rfl];obtain⟨hv,hc⟩:=Q3.1 a;have t:=bO hv;refine aj<|ai ?_;have⟨o,f⟩:=QQ (decide (n<0));have⟨q,g⟩:=QQ (decide (T.nodes<=n));have c:aX T n= !(o||q):=by rw[<-f,<-g];unfold aX;by_cases h1:n<0<;>by_cases h2:T.nodes<=n<;>simp[h1,h2]<;>omega
  refine bz 24 (.raw (.bool (o||q))) [2,3,4,6] I ?_ ?_
  ·refine .a 1 I<|.v (bW I (f)) I<|.a 1 I<|?_;cases o
   ·exact .a 3 I<|.v (bW I (g)) I<|.a 1 I<|.k [24,2,3,4,6] I
   ·exact .a 5 I<|.k [24,2,3,4,6] I
  refine ae I (λh2=>?_) (λh2=>?_)
  ·have hn:aX T n=false:=by rw[c,h2];rfl
   rw[hn];refine aK<|au 3 I<|aE [6,7] I ?_;exact ao<|QR I (RW (QV (TI (QV ax.pure<|QV ax.bH<|QV ax.bH Rl)) (QV ax.pure Rl))) rfl
  ·have hn:aX T n=true:=by rw[c,h2];rfl
   rw[hn,QY rfl];rw[aQ]at hn;obtain⟨m,rfl⟩:=QW hn.1;rw[QS];obtain⟨N,hN⟩:∃N:Nat,T.nodes=(N:Int):=⟨T.nodes.toNat,by omega⟩;have b:=rN T k x m a;have⟨M,hM⟩:=QQ (az T k x);rw[hM]at b ⊢;unfold sQ;have d:(eS T M m).length=2*T.ah.length:=by simp[eS]
   have⟨own,e⟩:=QQ (eS T M m);rw[e]at b d ⊢;refine aj<|ab (.a 3 I<|.c rfl (b) I<|.a 5 I<|.k [2,3,6,8,9] I)<|aK<|au 2 I<|bm (sU (gT (xs:=[_,_,_]) I (TT I) I I) (Tv _)) I<|au 2 I<|aE [2,3,6,9,10] I ?_;refine cm 1 1 120 3 I I<|ai<|ab (.a 1 I<|.k [2,3,6,9,10,11] I)<|aw<|eF [2,3,6,9,10,11] I<|bd (λr s=>∃j,j<=N/\r=N - j/\s=⟨[(2,num m),(3,.bq (bn T) 0),(6,.ptr 0 0),(9,aV own),(10,.ptr 1 0),(11,num j)],[some (.cells 76 [num 0,.raw (.slice none 0 0),.raw (.slice none 0 0)]),some (.cells 76 [num m,.own 2,aq (cI M (bK T m))]),some (.row 120 3 j (dH (pz T own m j)))]⟩) N ⟨0,by omega,by omega,rfl⟩ ?_;rintro r s ⟨j,v,rfl,rfl⟩;refine ai<|ab (.a 2 I<|.v (aJ I ((show some (num T.nodes)=some (num (N:Int)) by rw[hN]))) I<|.a 1 I<|.k [2,3,6,9,10,11,39] I)<|ae I (λh=>?_) (λh=>?_)
   ·have u:j<N:=by have:=tt h;omega
    have l:=Jf T own m j hv d hn.2 (by omega) cS;refine aj<|ai<|aw<|dh 8 20 mixed (.val [10] I (bb I) I I<|.val [42] I (bb I) I I<|.val [3] I (bb I) I I<|.val [9] I (bb I) I I<|.val [2] I (bb I) I I<|.val [11] I (bb I) I I<|.val [44,45,46,47] I (dX I (l)) I I<|.val [48] I (bb I) I I<|.nil) (by kernel_rfl) I I (aR (ks:=[2,3,6,9,10,11,43,49]) I) ?_;refine cb (bF I (Ru I) I I I I (by unfold maxLen;omega)) I<|au 2 I ?_;refine dL [0,1,3] (.c 2<|.c 3<|.c 6<|.c 9<|.c 10<|.c 11<|.nil) (.kept rfl (.cells (Sr<|Sr<|Sr<|Sy))<|.kept rfl (.cells (Sr<|Sr<|Sr<|Sy))<|.kept rfl (.eY rfl (show _=dH (pz T own m (j+1)) by rw[xl];exact jc _ _))<|.nil) I I (bg ?_);refine aC (.a 1 I<|.v (aW I) I<|.a 1 I<|.k [2,3,6,9,10,11] I)<|⟨N - (j+1),by omega,j+1,by omega,rfl,rfl⟩
   ·have i:j=N:=by have:=ff h;omega
    subst i;refine ba<|aK<|bm (ee (ys:=[num m,.own 2,aq (cI M (bK T m))]) I (Q6 I) I I I I) I<|au 2 I<|aE [6,7] I ?_;refine ao<|⟨_,_,RY I,RW (QV (TI (QV ax.pure<|QV (Tj rfl Sj)<|QV ax.pure Rl)) (QV ax.pure Rl)),?_⟩;unfold iw dW fi iW aq;rw[QY rfl,qz,show T.nodes.toNat=j by omega]
end
section
open Go.RowKit cG Mem Net
theorem E4(rs:List (List Int))(i:Nat)(hi:i<rs.length):Can prog 156 ([num i]++[.bq [mc rs] 0]) (· =aq (rs.getD i [])):=by
 exact aF func156 I ntmps156 I<|ab (.a 1 I<|.k [0,1] I)<|ab (.a 2 I<|.v (aM (i) I) I<|.v (aJ I ((show(rs.map aq)[i]? =some (aq (rs.getD i [])) by simp[hi]))) I<|.a 1 I<|.k [3] I)<|ao<|QR I ax.pure rfl
theorem E7(T:ak)(a:Nat)(b:a<2*T.ah.length)(hl:T.ah.length<=4611686018427387902):Can prog 157 ([num a]++[.bq (bn T) 0]) (· =num (aN T a)):=by
 exact aF func157 I ntmps157 I<|ab (.a 1 I<|.k [0,1] I)<|ab (.a 2 I<|.c rfl (iH T a b hl) I<|.a 1 I<|.k [3] I)<|ao<|QR I ax.pure rfl
theorem H0(T:ak)(D:List Bool)(d:Int):Can prog 129 [aL T,aV D,num d] (· =ec (ct T D [d]) (bJ T D d.toNat true)):=by
 refine aF func129 I ntmps129 I<|ab (.a 3 I<|.k [1,2,3] I)<|ai<|ab (.a 4 I<|.c rfl (rj T D [d] (by simp)) I<|.a 1 I<|.k [1,2,3,8] I)<|ab (.a 2 I<|.k [1,2,3,8,17] I)<|ae I (λhc=>?_) (λhc=>?_)
 ·have he:ct T D [d]≠0:=Q5 hc;exact ab (.a 3 I<|.k [6,7] I)<|ao<|QR I (RW (QV ax.bH (QV ax.pure Rl))) (by unfold ec;rw[QZ he];rfl)
 ·have he:ct T D [d]=0:=by have:=Rf hc;omega
  have c:(av T&&bN T D)=true/\aX T d=true:=by
   unfold ct at he;split at he
   ·rename_i h1;split at he
    ·rename_i h2;exact⟨h1,by simpa using h2⟩
    ·omega
   ·omega
  obtain⟨e,b⟩:=c;obtain⟨hv,g⟩:=Q3.1 e;have hd:0<=d/\d<T.nodes:=by simpa[aX]using b
  obtain⟨n,rfl⟩:=QW hd.1;have j:=aS hv;refine aj<|aK<|au 1 I<|ez I (nK T hv) I<|au 2 I<|aE [1,2,3,9] I ?_;refine aK<|au 3 I<|bm (gm I I) I<|au 4 I<|aE [10] I ?_;refine zA (.cons 10 I (U4 rfl (QV ax.pure<|QV ax.pure<|QV ax.pure<|QV ax.pure<|QV ax.pure<|QV (ax.uk (QV (U4 rfl (QV ax.pure Rl)) Rl))<|QV ax.pure Rl)) .nil)<|ab (.a 1 I<|.c rfl (Ee T D n true 156 157 [.bq [mc (ek (aZ T) T.nodes.toNat (2*T.ah.length))] 0] [.bq (bn T) 0] hv g hd.2 (by kernel_rfl) (by kernel_rfl) (λi hi=>by have h:=E4 (ek (aZ T) T.nodes.toNat (2*T.ah.length)) i (by rw[fR];omega);rw[kA _ _ _ _ (by omega)]at h;exact h) (λa f=>E7 T a f (by have:=bO hv;omega))) I<|.a 2 I<|.k [6,7] I)<|ao<|QR I ax.pure (by unfold ec;rw[QY he,he];rfl)
end
end PW
end Go.Proofs.YtoopjinigmhpcaaGreatDoor
