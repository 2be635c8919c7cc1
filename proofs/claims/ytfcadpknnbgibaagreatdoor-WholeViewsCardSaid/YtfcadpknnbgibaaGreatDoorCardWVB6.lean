/- Part 6. -/
import Derived.Lib.BytesEntry
import Derived.Shelf.SlIterI.Nil
import Derived.Shelf.SortM.Plain
import Derived.Shelf.SortM.SortNone
import Derived.Ground.GgzProg
import Derived.Ground.SlgmProg
import Derived.Test.YtfcadpknnbgibaaGreatDoorCardWVB5
set_option maxRecDepth 100000
set_option maxHeartbeats 4000000
namespace Go.Proofs.YtfcadpknnbgibaaGreatDoor
open Go.Proofs.Tryz
namespace PW
section
open Go.RowKit cm Mem Net iF
section
variable {P:Program} {σ:bH} {t:cd} {o:Oper} {N L:Nat} {ops:Array Oper}
theorem M5{rest}{K:St->Prop}{d:Nat}{x y ty l xs}(ho:o.op= .binOp .eql ty x y l)(hk:r8 P ty=true)(hx:aI t x=some (.slice 0 xs))(hy:aI t y=some (.raw (.slice none 0 0)))(hd:o.dst=some d)(hw:eL ops t o=some true)(hN:Nat.blt d N=true)
  (h:∀b,WR P N L ops rest ⟨(d,.raw (.bool b))::t,σ⟩ K):WR P N L ops (o::rest) ⟨t,σ⟩ K:=by
 refine nt hw λF base E a w hs next Q hn=>?_
 obtain⟨e,hu⟩:=pX hk;have h1:=aB (fZ a) hs.tmp hx;have h2:=aB (fZ a) hs.tmp hy;generalize k:a.eval x=z at h1;generalize i:a.eval y=q at h2;cases h2;obtain⟨p,c,rfl,_,_⟩:=jy h1;have f:=Lib.run_eql_slice_nil w ty e p 0 c 0 0 hu;have hg:∀a n c b m d,(eqGuard .eql ty x y (.slice a n c) (.slice b m d)).run P w= .ok () w:=λ_ _ _ _ _ _=>rfl;have j:iL P w (λv w'=>dj E w' v (.raw (.bool p.isNone))) ((execOp a.eval o).run P w):=by
  simp only[execOp,ho,k,i,Sem.run_bind,Sem.run_pure,Result.andThen_ok,hg,f];exact bA (.raw _)
 refine sj j λv w' g hv=>hn _ _ _ E (h p.isNone) ?_ (.ext g) (Zz g hs.sat);rw[hd];exact hs.put (hs.sat.ext g) (.ext g) hN hv
theorem wi{ty e s n h:Nat}{x b B}{xs:List PV}{k D}{g G:Int}(ho:o.op= .slice ty x none (some b) (some B))(he:uX P ty=some (e,s))(hx:aI t x=some (.slice n xs))(m:aI t b=some (.raw (.int k g)))(r:aI t B=some (.raw (.int D G)))(y:xs.length=n*s)(p:g=(h:Int))(q:G=(h:Int))(hl:h<=n):
  bE P σ t o (.slice h (xs.take (h*s))):=by
 intro F base E ρ w d M hT;have h1:=aB d hT hx;have h2:=aB d hT m;have C:=aB d hT r;obtain⟨hu,i,hi,hs⟩:=gj he;generalize K:ρ x=v at h1;generalize z:ρ b=u at h2;generalize A:ρ B=O at C;cases h2;cases C;subst p;subst q;obtain⟨a,c,rfl,f,J⟩:=jy h1;have H:=lB (s:=s) (l:=0) h1 y (We _) hl (Vh h) (VL hl f);have j:(Instr.sliceAt ty (.slice a n c) none (some (.int k (h:Int))) (some (.int D (h:Int)))).run P w= .ok (.slice (if h=0 then a else a.map (·.add (0*s))) (h - 0) (h - 0)) w:=by
  have:h<=c:=VL hl f;simp[Instr.sliceAt,run_underlying hu,Instr.slice,Instr.sliceBounds,Instr.sliceBound,asIntOf,this,sizeOf,typeInfo,hi]
 simp only[execOp,ho,K,z,A,Wj,YM,Sem.run_bind,j,Result.andThen_ok,Sem.run_pure];refine bA ?_;simpa using H
end
theorem TX:r8 prog 100=true:=by kernel_rfl
theorem vM(l:List eW)(hl:l.length<=1000):Can prog 181 [kg l] (· =kg l):=by
 refine aR func181 I ntmps181 I<|aj (.a 1 I<|.k [0] I)<|an<|aK (ZI (K:=λs=>∃b:Bool,s=⟨[(0,kg l),(4,.raw (.bool b))],[]⟩/\(b=true->l=[])) ?_ ?_)
 ·cases l with
  |nil=>exact av 1 rfl<|M5 rfl TX rfl rfl rfl rfl rfl λb=>aF [0,4] rfl ⟨b,rfl,λ_=>rfl⟩
  |cons a l=>exact av 1 rfl<|dA (mZ rfl TX rfl rfl (Zg _)) rfl rfl rfl<|aF [0,4] rfl ⟨_,rfl,λh=>by cases h⟩
 rintro _ ⟨b,rfl,hb⟩;refine ak I (λhc=>?_) (λhc=>?_)
 ·have:l=[]:=hb hc;subst this;exact aj (.a 1 I<|.k [2] I)<|aA<|jF I aQ.cg rfl
 ·refine ao<|aK<|bW (ga I (YC I)) I<|av 1 I<|bW (bP I (VW I) I I I (sW l) (by unfold maxLen;omega)) I<|av 1 I<|aF [2] I ?_;refine aA<|⟨_,_,V5 I,Yw (xs:=jz l) (ys:=jz l) I W9,?_⟩;rw[Ws];rfl
theorem IX{P σ t}{o:Oper}{ty x lo s}{l:List eW}{k}(ho:o.op= .slice ty x (some lo) none none)(he:uX P ty=some (174,2))(hx:aI t x=some (.slice (s::l).length (jz (s::l))))(a:aI t lo=some (.raw (.int k 1))):bE P σ t o (.slice l.length (jz l)):=by
 have h:=yH (l:=1) (σ:=σ) ho he hx a (sW _) I (by simp);have e:((jz (s::l)).drop (1*2)).take (((s::l).length - 1)*2)=jz l:=by
  show(jz l).take _=_;refine V2 ?_;rw[sW];simp
 rw[e]at h;exact h
theorem NC{T D}{n d:Int}(h:lM T D n d≠0):Be T D n d=⟨[],false,[]⟩:=J6 λa=>h a.1
theorem Pk{T D}{n d:Int}(h:lM T D n d≠0)(a:lM T D n d≠11):c9 T D n d=lM T D n d:=by
 unfold lM at*;split at h<;>simp_all
theorem Ry{T D}{n d:Int}(h:lM T D n d=0\/lM T D n d=11):c9 T D n d=0:=by
 unfold lM at h;split at h
 ·assumption
 ·rename_i a;rcases h with h|h
  ·exact h
  ·exfalso;unfold c9 dG at h;split at h<;>(try split at h)<;>(try split at h)<;>omega
def Tl(e:Int)(x:qT):PV:=.tuple [Bd x,num e]
theorem Lr(T:aw)(D:List Bool)(n d:Int)(w:T.ah.length<=256)(u:T.nodes<=12):Can prog 131 [bu T,aY D,num n,num d] (· =Tl (c9 T D n d) (Be T D n d)):=by
 have⟨c1,f⟩:=dw (decide (lM T D n d≠0));have⟨B,g⟩:=dw (decide (lM T D n d≠11));refine aR func131 I ntmps131 I<|aK<|av 3 I<|aF [1,2,3,4,8] I ?_;refine aj (.a 4 I<|.c rfl (Eu T D n d) I<|.a 5 I<|.k [1,2,4,8,10,11] I)<|an<|cD 27 (.raw (.bool (c1&&B))) [1,2,4,8,10,11] I ?_ ?_
 ·refine .a 1 I<|.v (cT I (f)) I<|.a 1 I<|?_;cases c1
  ·exact .a 3 I<|.k [27,1,2,4,8,10,11] I
  ·exact .a 1 I<|.v (cT I (g)) I<|.a 1 I<|.k [27,1,2,4,8,10,11] I
 refine ak I (λh1=>?_) (λh1=>?_)
 ·obtain⟨rfl,rfl⟩:=Wd.1 h1;have A:=tt f;rw[NC A,Pk A (tt g)];refine aK<|av 4 I<|aF [8,9] I ?_;exact aA<|jF I (Yi (Vp (Zr (Vp aQ.cg<|Vp aQ.pure<|Vp aQ.cg Wg)) (Vp aQ.pure Wg))) rfl
 ·have t:lM T D n d=0\/lM T D n d=11:=by
   rcases Xy.1 h1 with h|h
   ·subst h;exact .inl (VQ (ff f))
   ·subst h;exact .inr (VQ (ff g))
  rw[Ry t];clear h1 f g;have⟨P,e⟩:=dw (if lM T D n d=0 then eT T D n.toNat d.toNat else []);rw[e];refine ao<|an<|aj (.a 3 I<|.k [1,2,4,8,10,32] I)<|ak I (λh2=>?_) (λh2=>?_)
  ·have y:¬(lM T D n d=0/\n≠d):=by
    rintro⟨j,r⟩;rw[Vn j]at e;obtain⟨a,b,rfl,rfl,hp⟩:=Lz j r;have:=tt h2;have:=hp.pos;rw[<-e]at*;simp only[Vi]at*;omega
   rw[J6 y];refine aK<|av 3 I<|aF [8,9] I ?_;exact aA<|jF I (Yi (Vp (Zr (Vp aQ.cg<|Vp aQ.pure<|Vp aQ.cg Wg)) (Vp aQ.pure Wg))) rfl
  ·obtain⟨p0,q,rfl⟩:∃p0 q,P=p0::q:=by
    cases P with
    |nil=>exact absurd rfl (ff h2)
    |cons p0 q=>exact⟨_,_,rfl⟩
   have j:lM T D n d=0:=by
    rcases t with h|h
    ·exact h
    ·rw[h]at e;simp at e
   rw[Vn j]at e;have r:n≠d:=by
    rintro rfl;obtain⟨a,b,ha,hb,_,_,C,z⟩:=s5 j;have:a=b:=by omega
    subst this;have:=z.self;rw[this]at e;cases e
   obtain⟨a,b,rfl,rfl,hp⟩:=Lz j r;simp only[Vi]at e;have c:=ND hp;rw[e]at hp c;have o:=hp.len;obtain⟨s,l,hl,hs⟩:=BP (T:=T) (n:=(a:Int)) hp.pos;have m:=hp.Ra.2;rw[hl]at c m;have i:=Iy T D (p0::q) a (by simp only[VI]at o ⊢;omega) w u;rw[hl]at i;unfold yi at i;rw[hp.zero,Vn rfl]at i;clear h2 t hl hs hp e j r;simp only[VI]at m o;rw[show(p0::q).getD 0 0=p0 from rfl]at c;refine ao<|aj (.a 4 I<|.c rfl (i) I<|.a 5 I<|.k [8,10,12] I)<|an<|aj (.a 1 I<|.v (aX (0) I (by omega) (by simp only[VI];omega)) I<|.a 1 I<|.v (aO I ((show(jz (s::l))[0]? =some (num s.kind) from rfl))) I<|.a 1 I<|.k [8,10,12,46] I)<|ak I (λv=>?_) (λv=>?_)
   ·have hc:A4 (s::l)=l:=Vn (tt v);rw[hc]at c;have x:l.length<=32:=by omega
    refine aL (.a 1 I<|.v (IX I (WN I) I I) I<|.a 1 I<|.k [8,10,12] I)<|an<|aj (.a 3 I<|.k [8,10,12,51] I)<|ak I (λk=>?_) (λk=>?_)
    ·exact absurd (tt k) (by omega)
    ·clear k;refine ao<|lN 5 20 mixed (.val [10] I (aP I) I I<|.val [53] I (wi (h:=1) I (WN I) I I I (show(cb (p0::q)).length=_ by simp[cb]) I I (by simp)) I I<|.val [12] I (aP I) I I<|.val [55] I (dW I (vM _ (by omega))) I I<|.val [54,56] I (aP I) I I<|.nil) (by kernel_rfl) I I (aJ (ks:=[8,57]) I) ?_;refine av 2 I<|aF [8,9] I ?_;exact aA<|jF I (Yi (Vp (Zr (Vp (aQ.pure (p:=bm [p0]))<|Vp aQ.pure<|Vp (aQ.pure (p:=kg _)) Wg)) (Vp aQ.pure Wg))) (by rw[c];rfl)
   ·have hc:A4 (s::l)=s::l:=Vk (ff v);rw[hc]at c;have x:(s::l).length<=32:=by simp only[VI];omega
    refine ao<|an<|aj (.a 3 I<|.k [8,10,12,51] I)<|ak I (λk=>?_) (λk=>?_)
    ·exact absurd (tt k) (by omega)
    ·clear k;refine ao<|lN 5 20 mixed (.val [10] I (aP I) I I<|.val [53] I (wi (h:=1) I (WN I) I I I (show(cb (p0::q)).length=_ by simp[cb]) I I (by simp)) I I<|.val [12] I (aP I) I I<|.val [55] I (dW I (vM _ (by omega))) I I<|.val [54,56] I (aP I) I I<|.nil) (by kernel_rfl) I I (aJ (ks:=[8,57]) I) ?_;refine av 2 I<|aF [8,9] I ?_;exact aA<|jF I (Yi (Vp (Zr (Vp (aQ.pure (p:=bm [p0]))<|Vp aQ.pure<|Vp (aQ.pure (p:=kg _)) Wg)) (Vp aQ.pure Wg))) (by rw[c];rfl)
end
section
open Go.RowKit cm Mem Net
section
variable {T:aw} {D:List Bool}
theorem Ch.snoc{d n:Nat}{q:List Int}(h:Ch T D d n q):∀ {a x:Nat},(q=[]\/cW T d=false)->a<2*T.ah.length->bI T a=(d:Int)->bO D a=false->bx T a=(x:Int)->Ch T D x n (q++[(a:Int)]):=by
 induction h with
 |nil=>intro a x _ h1 h2 e f;exact .cons h1 h2 e f (.inl rfl) .nil
 | @cons n b m p hb i hu hm ho hp ih=>
  intro a x g h1 h2 e f;have c:cW T d=false:=by rcases g with h|h;cases h;exact h
  refine .cons hb i hu hm ?_ (ih (.inr c) h1 h2 e f);rcases ho with h|h
  ·have:=hp.to h;subst this;exact .inr c
  ·exact .inr h
theorem Q6(hv:aH T=true){n:Nat}(hn:(n:Int)<T.nodes){d m:Nat}{p:List Int}(h:Ch T D d m p)(h0:0<=at' (bN T D n true) (m:Int))(ho:p=[]\/m=n\/cW T m=false):0<=at' (bN T D n true) (d:Int):=by
 have e:=kX (bz hv) D true hn;induction h with
 |nil=>exact h0
 | @cons m a m' p ha c hu hm b hp ih=>
  have hw:=e.closed a ha ⟨hu,by simp only[dF,Xr];rw[c];exact h0,by
   simp only[dF,Xr];rw[c];rcases ho with h|h|h
   ·cases h
   ·exact .inl (by rw[h])
   ·exact .inr (by simpa using h)⟩
  simp only[gJ,Xr]at hw;rw[hm]at hw;refine ih hw.1 ?_;rcases b with h|h
  ·exact .inl h
  ·exact .inr (.inr h)
theorem Q7(hv:aH T=true){n:Nat}(hn:(n:Int)<T.nodes):∀(k x:Nat),(x:Int)<T.nodes->0<=at' (bN T D n true) (x:Int)->at' (bN T D n true) (x:Int)<=k->0<=dN T D x n:=by
 have f:=bz hv;have m:=kX f D true hn;intro k;induction k with
 |zero=>
  intro x hx h0 hk;rcases m.qg x hx h0 with h|⟨a,ha,i,g,hs⟩
  ·subst h;rw[nA hv hn];exact Xg _
  ·have:=(f.cost a ha).1;have:=g.2.1;omega
 |succ k ih=>
  intro x hx h0 hk;rcases m.qg x hx h0 with h|⟨a,ha,i,g,hs⟩
  ·subst h;rw[nA hv hn];exact Xg _
  ·simp only[gJ,dF,Xr]at i hs;obtain⟨hu,b,c⟩:=g;simp only[dF,Xr]at b c;have hc:=(f.cost a ha).1;have l:=f.tail a ha;obtain⟨y,hy⟩:=Vo l.1;rw[hy]at b c hs l;have e:(y:Int)<T.nodes:=l.2;have h1:=ih y e b (by omega);have d:=jA (D:=D) hv e hn h1;have j:=d.ch.snoc (a:=a) (x:=x) (by
    rcases c with h|h
    ·have:y=n:=by omega
     subst this;exact .inl d.self
    ·exact .inr (by simpa using h)) ha hy hu i
   exact(j.le hv hx).1
theorem NQ(hv:aH T=true){n d:Nat}(hn:(n:Int)<T.nodes)(hd:(d:Int)<T.nodes):0<=(bN T D n true).getD d 0↔0<=dN T D d n:=by
 have c:=bz hv;have b:=kX c D true hn;have hl:=b.len;have e:(bN T D n true).getD d 0=at' (bN T D n true) (d:Int):=by
  unfold at';rw[Vi,Qo,Qo,Vm (by omega)]
  rfl
 rw[e];constructor
 ·intro h0;exact Q7 hv hn (at' (bN T D n true) (d:Int)).toNat d hd h0 (by have:=Int.toNat_of_nonneg h0;omega)
 ·intro h0;have a:=jA (D:=D) hv hd hn h0;refine Q6 hv hn a.ch ?_ (.inr (.inl rfl));rw[b.root];exact Xg _
end
open iF
def jf(T:aw)(a:Nat):Int:=(bV T.ah (a / 2)).wC
noncomputable def qf(T:aw)(D:List Bool)(n d:Int):Bool:=decide (lM T D n d=0)
noncomputable def kU(T:aw)(a:Nat)(d:Int):Int×Int:=
 if(decide (0<jf T a)&&qf T (dq T 3 (jf T a)) (bI T a) d)=true then(3,jf T a)
 else if(decide (bx T a≠d)&&qf T (dq T 2 (bx T a)) (bI T a) d)=true then(2,bx T a)
 else(1,((a / 2:Nat):Int))
def Ce(T:aw)(M:List Bool)(n:Int):List Bool:=(List.range (2*T.ah.length)).map λa=>bO M a&&decide (bI T a=n)
def orM(T:aw)(D E:List Bool):List Bool:=(List.range (2*T.ah.length)).map λa=>bO D a||bO E a
theorem BS{T:aw}{f:Nat->Bool}:cf T ((List.range (2*T.ah.length)).map f)=true:=by simp[cf]
theorem xG(T:aw)(k x:Int):cf T (dq T k x)=true:=BS
theorem OH(T:aw)(D E:List Bool):cf T (orM T D E)=true:=BS
theorem OY{T:aw}{D}{x y:Nat}(hv:aH T=true)(a:cf T D=true)(hx:(x:Int)<T.nodes)(hy:(y:Int)<T.nodes):qf T D x y=true↔0<=dN T D y x:=by
 unfold qf;rw[VH,sa hv a hx hy];split<;>omega
theorem xq{T:aw}(hv:aH T=true){a:Nat}(ha:a<2*T.ah.length):0<=jf T a/\jf T a<=64:=by
 have h:=nT hv (a / 2) (by omega);unfold jf;unfold iY at h;rw[Vx]at h;unfold cB at h;exact Vg h.2
theorem Js{T:aw}(hv:aH T=true){a:Nat}(ha:a<2*T.ah.length)(d:Int):fG T (kU T a d).1 (kU T a d).2=true:=by
 have hg:=xq hv ha;unfold kU;split
 ·rename_i h;rw[Vx,VH]at h;show fG T 3 (jf T a)=true;unfold fG;simp only[Vk (show ¬(3:Int)=1 by decide),Vk (show ¬(3:Int)=2 by decide),Xr,Vx,VH];exact⟨by omega,by omega⟩
 ·split
  ·obtain⟨h0,h1⟩:=(bz hv).head a ha;show fG T 2 (bx T a)=true;unfold fG;simp only[Vk (show ¬(2:Int)=1 by decide),Xr];exact bY.2 ⟨h0,h1⟩
  ·show fG T 1 ((a / 2:Nat):Int)=true;unfold fG;simp only[Xr,Vx,VH];exact⟨by omega,by omega⟩
def tU(own:List Bool)(l:List Int):Option Int:=l.find? λa=>bO own a.toNat
noncomputable def Ed(T:aw)(own:List Bool)(n d:Int)(a:Nat):List Bool:=
 if qf T (orM T (dq T (kU T a d).1 (kU T a d).2) own) n d=true then orM T (dq T (kU T a d).1 (kU T a d).2) own else own
noncomputable def Ii(T:aw)(own:List Bool)(n d:Nat):qT:=match tU own (cA T [] n d)with
 |none=>⟨cA T [] n d,false,[]⟩
 |some a=>Be T (Ed T own n d a.toNat) n d
noncomputable def Ab(T:aw)(own:List Bool)(n k:Nat):List qT:=(List.range k).map λd=>Ii T own n d
theorem Ih(T:aw)(own:List Bool)(n k:Nat):Ab T own n (k+1)=Ab T own n k++[Ii T own n k]:=by simp[Ab,WM]
theorem LH(T:aw)(own:List Bool)(n k:Nat):(Ab T own n k).length=k:=by simp[Ab]
noncomputable def LI(T:aw)(M:List Bool)(n:Nat):oc:=⟨n,Ab T (Ce T M n) n T.nodes.toNat,fR M (cw T n)⟩
section
variable {T:aw} {M own:List Bool} {n d:Nat}
theorem KX(b:cf T own=true)(a:Nat):cf T (Ed T own n d a)=true:=by
 unfold Ed;split
 ·exact OH _ _ _
 ·exact b
end
end
section
open Go.RowKit cm Mem Net
theorem vG(T:aw)(D:List Bool)(n:Int):Can prog 13 [bu T,aY D,num n] (· = .tuple [s9 (fp T D n),num (dG T D [n])]):=by
 refine aR func13 I ntmps13 I<|aK<|av 3 I<|aF [1,2,3,6] I ?_;refine an ?_;have⟨o,e⟩:=dw (aH T);have⟨y,g⟩:=dw (cf T D);refine cD 22 (.raw (.bool ((!o)||(!y)))) [1,2,3,6] I ?_ ?_
 ·refine .a 1 I<|.c rfl (e▸gw T) I<|.a 2 I<|?_;cases o
  ·exact .a 5 I<|.k [22,1,2,3,6] I
  ·exact .a 2 I<|.c rfl (g▸rn T D (by have:=dy e;omega)) I<|.a 2 I<|.k [22,1,2,3,6] I
 refine ak I (λhc=>?_) (λhc=>?_)
 ·have c:dG T D [n]=1:=by
   unfold dG;rw[e,g,Vk];revert hc;cases o<;>cases y<;>simp
  refine aK<|av 3 I<|aF [6,7] I ?_;exact aA<|jF I (Yi (Vp (Zr (Vp aQ.pure<|Vp aQ.cg<|Vp aQ.cg Wg)) (Vp aQ.pure Wg))) (by unfold fp;rw[c];rfl)
 ·have f:(aH T&&cf T D)=true:=by
   rw[e,g];revert hc;cases o<;>cases y<;>simp
  clear hc e g;refine ao<|an<|aj (.a 2 I<|.c rfl (jw T n) I<|.a 1 I<|.k [1,2,3,6,27] I)<|ak I (λhc=>?_) (λhc=>?_)
  ·have hn:bZ T n=false:=by revert hc;cases bZ T n<;>simp
   have c:dG T D [n]=2:=by
    unfold dG;rw[Vn f,Vk];simp[hn]
   refine aK<|av 3 I<|aF [6,7] I ?_;exact aA<|jF I (Yi (Vp (Zr (Vp aQ.pure<|Vp aQ.cg<|Vp aQ.cg Wg)) (Vp aQ.pure Wg))) (by unfold fp;rw[c];rfl)
  ·have hn:bZ T n=true:=by revert hc;cases bZ T n<;>simp
   have c:dG T D [n]=0:=by
    unfold dG;rw[Vn f,Vn];simp[hn]
   obtain⟨hv,B⟩:=Wd.1 f;rw[bY]at hn;obtain⟨m,rfl⟩:=Vo hn.1;obtain⟨N,hN⟩:∃N:Nat,T.nodes=(N:Int):=⟨T.nodes.toNat,by omega⟩;have z:N<=64:=by have:=(bz hv).nodes;omega
   have u:=dy hv;refine ao<|aK<|av 4 I<|aF [1,2,3,6,8] I ?_;refine cO 1 1 102 3 I I<|cO 1 2 3 1 I I ?_;refine an<|aj (.a 1 I<|.v (aO I ((show some (num T.nodes)=some (num (N:Int)) by rw[hN]))) I<|.a 1 I<|.k [1,2,3,6,8,32,33] I)<|ay<|eX [1,2,3,6,8,32,33] I<|bq (λr s=>∃j,j<=N/\r=N - j/\s=⟨[(1,aY D),(2,num m),(3,.cH (bJ T) 0),(6,.ptr 0 0),(8,.ptr 1 0),(32,num N),(33,num j)],[some (.cells 51 [num 0,.raw (.slice none 0 0),.raw (.slice none 0 0)]),some (.cells 51 [num m,.own 2,.own 3]),some (.row 102 3 j (lP (toL T D m j))),some (.row 3 1 0 [])]⟩) N ⟨0,by omega,by omega,rfl⟩ ?_;rintro r s ⟨j,hj,rfl,rfl⟩;refine aj (.a 1 I<|.k [1,2,3,6,8,32,33,34] I)<|an<|ak I (λhc=>?_) (λhc=>?_)
   ·have hlt:j<N:=by have:=Vg hc;omega
    have w:c9 T D (m:Int) (j:Int)=0:=by
     have v:bZ T (j:Int)=true:=bY.2 ⟨by omega,by omega⟩;have l:dG T D [(j:Int)]=0:=by
      unfold dG;rw[Vn f,Vn];simp[v]
     unfold c9;rw[Vn l,Vn (bY.2 hn)]
    have x:Can prog 34 [bu T,aY D,num m,num j] (· = .tuple [bm (cA T D m j),num 0]):=by
     have h:=B3 T D (m:Int) (j:Int);rw[w]at h;exact h
    refine ao<|an<|ay<|aj (.a 2 I<|.k [1,2,3,6,8,9,32,33] I)<|aj (.a 4 I<|.c rfl (x) I<|.a 5 I<|.k [1,2,3,6,8,10,32,33] I)<|bp<|av 3 I<|aZ (tf (gg (xs:=[_,_,_]) I (X8 I) I I) (fv.iV (.cons (WK _)<|.cons (WK _)<|.cons Zw .nil))) I<|av 1 I<|bW (bP I (VW I) I I I I (by unfold maxLen;omega)) I<|av 2 I ?_;refine ft [0,1,4,3] (.c 1<|.c 2<|.c 3<|.c 6<|.c 8<|.c 32<|.c 33<|.nil) (.kept rfl (.cells (WU<|WU<|WU<|Wp))<|.kept rfl (.cells (WU<|WU<|WU<|Wp))<|.kept rfl (.eZ rfl (show _=lP (toL T D m (j+1)) by rw[CX];exact qB _ ⟨cA T D m j,false,[]⟩))<|.kept rfl (.row VT)<|.nil) I I (bM ?_);refine aL (.v (aU I) I<|.a 1 I<|.k [1,2,3,6,8,32,33] I)<|⟨N - (j+1),by omega,j+1,by omega,rfl,rfl⟩
   ·have t:j=N:=by have:=Vj hc;omega
    subst t;refine bh<|an ?_;have C:(cw T m).length<=512:=VL (fK T m _) (by omega);refine aj (.a 2 I<|.c rfl (ur T u _) I<|.a 2 I<|.k [1,6,8,54,55,56] I)<|ay<|eX [1,6,8,54,55,56] I<|bq (λr s=>∃i,i<=(cw T m).length/\r=(cw T m).length - i/\s=⟨[(1,aY D),(6,.ptr 0 0),(8,.ptr 1 0),(54,bm (cw T m)),(55,num (cw T m).length),(56,num i)],[some (.cells 51 [num 0,.raw (.slice none 0 0),.raw (.slice none 0 0)]),some (.cells 51 [num m,.own 2,.own 3]),some (.row 102 3 j (lP (toL T D m j))),some (.row 3 1 (fR D ((cw T m).take i)).length (cb (fR D ((cw T m).take i))))]⟩) (cw T m).length ⟨0,by omega,by omega,rfl⟩ ?_;rintro r s ⟨i,hi,rfl,rfl⟩;refine aj (.a 1 I<|.k [1,6,8,54,55,56,57] I)<|an<|ak I (λhc=>?_) (λhc=>?_)
    ·have hlt:i<(cw T m).length:=by have:=Vg hc;omega
     obtain⟨h0,h1⟩:=mM (b9 (d:=0) hlt);obtain⟨a,ha⟩:=Vo h0;have p:D.length=0\/a<D.length:=by simp only[cf,VH]at B;omega
     have b:fR D ((cw T m).take (i+1))=fR D ((cw T m).take i)++(if bO D a then [(a:Int)] else []):=by
      unfold fR;rw[cL _ i 0 hlt,WI,ha];simp only[W6,Ya,Vi]
     have A:(fR D ((cw T m).take i)).length<=1000:=VL (Wl _ _) (by rw[V8];have:=fK T m (2*T.ah.length);unfold cw at*;omega);refine ao<|an<|ay<|aj (.v (aX (i) I) I<|.v (aO I ((aS _ i hlt).trans (by rw[ha]))) I<|.a 1 I<|.k [1,6,8,13,54,55,56] I)<|aj (.a 2 I<|.c rfl (my D a p) I<|.k [1,6,8,13,54,55,56,62] I)<|ak I (λk=>?_) (λk=>?_)
     ·rw[k,Vn rfl]at b;refine bp<|av 4 I<|bW (bP I (VW I) I I I I (by unfold maxLen;omega)) I<|av 2 I ?_;refine ft [0,1,2,4] (.c 1<|.c 6<|.c 8<|.c 54<|.c 55<|.c 56<|.nil) (.kept rfl (.cells (WU<|WU<|WU<|Wp))<|.kept rfl (.cells (WU<|WU<|WU<|Wp))<|.kept rfl (.row VT)<|.kept rfl (.eZ rfl (ed _ _))<|.nil) I I (bM ?_);refine aL (.v (aU I) I<|.a 1 I<|.k [1,6,8,54,55,56] I)<|⟨(cw T m).length - (i+1),by omega,i+1,by omega,rfl,?_⟩;rw[b];first
       |rfl
       |(simp only[Vu,VR];rfl)
     ·rw[k,Vk (by simp),V6]at b;refine ao<|aL (.v (aU I) I<|.a 1 I<|.k [1,6,8,54,55,56] I) ?_;refine⟨(cw T m).length - (i+1),by omega,i+1,by omega,rfl,?_⟩;rw[b];first
       |rfl
       |(simp only[Vu,VR];rfl)
    ·have q:i=(cw T m).length:=by have:=Vj hc;omega
     subst q;refine bh<|aK<|aZ (jD (ys:=[num m,.own 2,.own 3]) I (VJ I) I I I I) I<|av 2 I<|aF [6,7] I ?_;refine aA<|⟨_,_,V5 I,Yi (Vp (Zr (Vp aQ.pure<|Vp (Yw rfl W9)<|Vp (Yw rfl W9) Wg)) (Vp aQ.pure Wg)),?_⟩;unfold fp;rw[c,Vn rfl,VN];unfold kJ s9 oG tr bm;rw[F8,show T.nodes.toNat=j by omega]
     rfl
open iF
def SI(e:Int)(x:oc):PV:=.tuple [s9 (if e=0 then x else⟨0,[],[]⟩),num e]
theorem xf{T D}{n d:Int}(hv:aH T=true)(a:cf T D=true)(hn:bZ T n=true)(hd:bZ T d=true):c9 T D n d=0:=by
 unfold c9 dG;rw[hv,a,hn];simp[hd]
theorem pE{M:List Bool}{a:Nat}:M.getD a false=bO M a:=by
 unfold bO;by_cases h:M.length=0
 ·have:M=[]:=Vy h;subst this;simp
 ·first
   |rfl
   |simp[h]
end
section
open Go.RowKit cm Mem
structure GD where
 p:PV
 r:Option Nat
 lo:Nat
 hi:Nat
section
variable {P:Program} {N L:Nat}
inductive GK (P:Program) (N:Nat) (ops:Array Oper) (σs:List bH) (T:cd) (o:Oper):GD->Prop
 |val {p:PV} {d lo hi:Nat} (ks:List Nat) (hks:(ks.all λk=>(o.looksAt ops).contains k)=true) (hw:eL ops T o=some true) (hy:∀r σ,lo<=r->r<=hi->σs[r]? =some σ->bE P σ (jx T ks) o p) (hd:o.dst=some d) (hN:Nat.blt d N=true):GK P N ops σs T o ⟨p,none,lo,hi⟩
 |skip {d lo hi:Nat} (hw:eL ops T o=some false) (hd:o.dst=some d) (hN:Nat.blt d N=true):GK P N ops σs T o ⟨.raw undef,none,lo,hi⟩
 |tV {p:PV} {d r lo hi:Nat} {σ σ':bH} (ks:List Nat) (hks:(ks.all λk=>(o.looksAt ops).contains k)=true) (hw:eL ops T o=some true) (h1:σs[r]? =some σ) (h2:σs[r+1]? =some σ') (hy:de P σ (jx T ks) o p σ') (hd:o.dst=some d) (hN:Nat.blt d N=true):GK P N ops σs T o ⟨p,some r,lo,hi⟩
 |gT {p:PV} {r lo hi:Nat} {σ σ':bH} (ks:List Nat) (hks:(ks.all λk=>(o.looksAt ops).contains k)=true) (hw:eL ops T o=some true) (h1:σs[r]? =some σ) (h2:σs[r+1]? =some σ') (hy:de P σ (jx T ks) o p σ') (hd:o.dst=none):GK P N ops σs T o ⟨p,some r,lo,hi⟩
inductive GL (P:Program) (N:Nat) (ops:Array Oper) (σs:List bH) (T:cd):List Oper->List GD->Prop
 |nil:GL P N ops σs T [] []
 |cons {o:Oper} {g:GD} {l:List Oper} {gs:List GD}:GK P N ops σs T o g->GL P N ops σs T l gs->GL P N ops σs T (o::l) (g::gs)
theorem GL.get{ops σs T}:∀ {l:List Oper} {gs:List GD},GL P N ops σs T l gs->gs.length=l.length/\∀(i:Nat) o g,l[i]? =some o->gs[i]? =some g->GK P N ops σs T o g
 |_,_,.nil=>⟨rfl,λi o g h=>by simp at h⟩
 |_,_,.cons h hs=>by
  obtain⟨h1,h2⟩:=hs.get;refine⟨by simp[h1],λi o g ho hg=>?_⟩;cases i with
  |zero=>simp at ho hg;subst ho;subst hg;exact h
  |succ i=>exact h2 i o g (by simpa using ho) (by simpa using hg)
def mR(gs:List GD)(i:Nat):Option Nat:=(gs[i]?).bind (·.r)
def NS(ops:Array Oper)(f m:Nat)(gs:List GD):Bool:=
  Nat.beq gs.length ops.size&&
  ((List.range ops.size).all λi=>(oH ops i).all λk=>decide (k<i))&&
  ((List.range ops.size).all λi=>(List.range i).all λj=>(cY ops i).isNone||cY ops i !=cY ops j)&&
  ((List.range ops.size).all λj=>(fk ops j).all λk=>(List.range ops.size).all λi=>cY ops i !=some k||fL ops f j i)&&
  ((List.range ops.size).all λi => match gs[i]? with
    |some ⟨_,some r,_,_⟩=>decide (r<m)&&(Nat.beq r 0||(List.range ops.size).any λj=>mR gs j==some (r - 1)&&fL ops f i j)
    |some ⟨_,none,lo,hi⟩=>(Nat.beq lo 0||(List.range ops.size).any λj=>mR gs j==some (lo - 1)&&fL ops f i j)&&(Nat.ble m hi||(List.range ops.size).any λj=>mR gs j==some hi&&fL ops f j i)
    |none=>false)&&
  ((List.range ops.size).all λi=>(List.range i).all λj=>(mR gs i).isNone||mR gs i !=mR gs j)&&
  ((List.range m).all λr=>(List.range ops.size).any λj=>mR gs j==some r)
structure RT (ops:Array Oper) (f m:Nat) (gs:List GD):Prop where
 len:gs.length=ops.size
 oH:∀i,i<ops.size->∀k∈oH ops i,k<i
 ss:∀i j d,i<ops.size->j<ops.size->cY ops i=some d->cY ops j=some d->i=j
 rd:∀j,j<ops.size->∀k∈fk ops j,∀i,i<ops.size->cY ops i=some k->fL ops f j i=true
 tV:∀(i:Nat) g r,gs[i]? =some g->g.r=some r->r<m/\(r=0\/∃j,j<ops.size/\mR gs j=some (r - 1)/\fL ops f i j=true)
 quiet:∀(i:Nat) g,gs[i]? =some g->g.r=none->(g.lo=0\/∃j,j<ops.size/\mR gs j=some (g.lo - 1)/\fL ops f i j=true)/\(m<=g.hi\/∃j,j<ops.size/\mR gs j=some g.hi/\fL ops f j i=true)
 one:∀i j r,i<ops.size->j<ops.size->mR gs i=some r->mR gs j=some r->i=j
 has:∀r,r<m->∃j,j<ops.size/\mR gs j=some r
theorem Kr{ops}{f m:Nat}{gs}(h:NS ops f m gs=true):RT ops f m gs:=by
 unfold NS at h;simp only[Vx]at h;obtain⟨⟨⟨⟨⟨⟨h1,h2⟩,s⟩,t⟩,l⟩,u⟩,v⟩:=h;have hl:gs.length=ops.size:=VF h1;have all:∀ {n:Nat} {p:Nat->Bool},(List.range n).all p=true->∀i,i<n->p i=true:=λh i hi=>VG.1 h i (VP.2 hi);have any:∀ {n:Nat} {p:Nat->Bool},(List.range n).any p=true->∃i,i<n/\p i=true:=λh=>by
  obtain⟨i,hi,hp⟩:=Xo.1 h;exact⟨i,VP.1 hi,hp⟩
 have o:∀i j d,i<ops.size->j<i->cY ops i=some d->cY ops j=some d->False:=λi j d hi hj b c=>by
  have:=all (all s i hi) j hj;rw[b,c]at this;simp at this
 have q:∀i j r,i<ops.size->j<i->mR gs i=some r->mR gs j=some r->False:=λi j r hi hj b c=>by
  have:=all (all u i hi) j hj;rw[b,c]at this;simp at this
 refine⟨hl,λi hi k hk=>?_,λi j d hi hj b c=>?_,λj hj k hk i hi hd=>?_,λi g r hg hr=>?_,λi g hg hr=>?_,λi j r hi hj b c=>?_,λr hr=>?_⟩
 ·have:=VG.1 (all h2 i hi) k hk;simpa using this
 ·rcases Zn i j with h|h|h
  ·exact(o j i d hj h c b).elim
  ·exact h
  ·exact(o i j d hi h b c).elim
 ·have:=all (VG.1 (all t j hj) k hk) i hi;rw[hd]at this;simpa using this
 ·have hi:i<ops.size:=by rw[<-hl];exact(Vf.1 hg).1
  have:=all l i hi;obtain⟨p,w,lo,e⟩:=g;simp only at hr;subst hr;rw[hg]at this;simp only[Vx,VH,Xf]at this;refine⟨this.1,?_⟩;rcases this.2 with h|h
  ·exact .inl (VF h)
  ·obtain⟨j,hj,a⟩:=any h;simp only[Vx,beq_iff_eq]at a;exact .inr ⟨j,hj,a.1,a.2⟩
 ·have hi:i<ops.size:=by rw[<-hl];exact(Vf.1 hg).1
  have:=all l i hi;obtain⟨p,w,lo,e⟩:=g;simp only at hr;subst hr;rw[hg]at this;simp only[Vx,Xf]at this;refine⟨?_,?_⟩
  ·rcases this.1 with h|h
   ·exact .inl (VF h)
   ·obtain⟨j,hj,a⟩:=any h;simp only[Vx,beq_iff_eq]at a;exact .inr ⟨j,hj,a.1,a.2⟩
  ·rcases this.2 with h|h
   ·exact .inl (Nat.ble_eq.mp h)
   ·obtain⟨j,hj,a⟩:=any h;simp only[Vx,beq_iff_eq]at a;exact .inr ⟨j,hj,a.1,a.2⟩
 ·rcases Zn i j with h|h|h
  ·exact(q j i r hj h c b).elim
  ·exact h
  ·exact(q i j r hi h b c).elim
 ·obtain⟨j,hj,h⟩:=any (all v r hr);exact⟨j,hj,by simpa using h⟩
structure MY (base N:Nat) (F:Nat->Prop) (l:List Oper) (gs:List GD) (σs:List bH) (t:cd) (ls:Array Bool) (r:Nat) (E:Env) (a:Act) (w:World):Prop where
 size:ls.size=l.length
 down:Down l.toArray ls
 rk:∀i s,i<l.length->mR gs i=some s->(ls.getD i true=true↔s<r)
 sat:∃σ,σs[r]? =some σ/\Sat F base σ E w
 lO:a.defers=[]
 tmps:a.tmps.size=N
 t0:eF E w a.eval t
 mg:∀j d g,j<l.length->ls.getD j true=true->cY l.toArray j=some d->gs[j]? =some g->dj E w (a.eval (.tmp d)) g.p
theorem D6(ls:Array Bool)(i j:Nat)(b:Bool)(hi:i<ls.size):(ls.setIfInBounds i true).getD j b=if j=i then true else ls.getD j b:=by
 by_cases e:j=i
 ·subst e;simp[hi]
 ·rw[Vk e];simp only[Vz,VD (Ne.symm e)]
theorem KQ{ls:Array Bool}{i:Nat}(hi:i<ls.size)(b c:Bool):ls.getD i b=ls.getD i c:=by simp[hi]
section
variable {l:List Oper} {gs:List GD} {σs:List bH} {t T:cd} {f m base:Nat} {F:Nat->Prop}
theorem MY.reach(b:RT l.toArray f m gs){ls:Array Bool}{r:Nat}{E a w}(h:MY base N F l gs σs t ls r E a w){i j:Nat}(hi:i<l.length)(hr:fL l.toArray f i j=true)(hk:∀k∈oH l.toArray i,ls.getD k false=true):ls.getD j true=true:=by
 have:=eK (by rw[h.size];simp) h.down (λi hi=>b.oH i hi) f i j (by simpa using hi) hr hk;by_cases hj:j<ls.size
 ·rw[KQ hj true false];exact this
 ·simp[hj]
theorem MY.looks(c:RT l.toArray f m gs)(hT:qt l (gs.map (·.p)) t=T){ls:Array Bool}{r:Nat}{E}{a:Act}{w}(h:MY base N F l gs σs t ls r E a w){i:Nat}(hi:i<l.length)(hk:∀k∈oH l.toArray i,ls.getD k false=true):∀k∈fk l.toArray i,∀p,look k T=some p->dj E w (a.eval (.tmp k)) p:=λk hks p hp=>by
 rw[<-hT]at hp;rcases o4 _ _ _ k p hp with⟨j,o,h1,h2,b⟩|d
 ·rw[Vt,Vr]at b;obtain⟨g,hg,rfl⟩:=b;have hj:j<l.length:=(Vf.1 h1).1;have hd:cY l.toArray j=some k:=by simp only[cY,Xx,h1,Wq,h2]
  have hr:=c.rd i (by simpa using hi) k hks j (by simpa using hj) hd;exact h.mg j k g hj (h.reach c hi hr hk) hd hg
 ·exact h.t0 k p d
theorem MY.put(M:RT l.toArray f m gs)(J:∀i d,i<l.length->cY l.toArray i=some d->look d t=none){ls:Array Bool}{r r':Nat}{E E'}{a:Act}{w w'}(h:MY base N F l gs σs t ls r E a w){i:Nat}{g:GD}{v}(hi:i<l.length)(hu:ls.getD i true=false)(hk:∀k∈oH l.toArray i,ls.getD k false=true)(hg:gs[i]? =some g)(A:c8 E w E' w')
  (hs:∃σ,σs[r']? =some σ/\Sat F base σ E' w') (hr:(g.r=none/\r'=r)\/(g.r=some r/\r'=r+1)) {o:Oper} (ho:l[i]? =some o) (H:∀d,o.dst=some d->d<N) (hv:∀d,o.dst=some d->dj E' w' v g.p):
  MY base N F l gs σs t (ls.setIfInBounds i true) r' E' (a.put o.dst v) w':=by
 have u:i<ls.size:=by rw[h.size];exact hi
 have C:mR gs i=g.r:=by simp only[mR,hg,Wq]
 have n:cY l.toArray i=o.dst:=by simp only[cY,Xx,ho,Wq]
 refine⟨by simpa using h.size,λj hj K k B=>?_,λj s hj b=>?_,hs,by cases o.dst<;>simpa[Act.put]using h.lO,by cases o.dst<;>simpa[Act.put]using h.tmps,λk p y=>?_,λj d O hj x hd q=>?_⟩
 ·rw[D6 _ _ _ _ u]at hj ⊢;split
  ·rfl
  ·by_cases e:j=i
   ·subst e;exact hk k B
   ·rw[Vk e]at hj;exact h.down j hj K k B
 ·rw[D6 _ _ _ _ u];by_cases e:j=i
  ·subst e;rw[Vn rfl];rw[C]at b;rcases hr with⟨h1,_⟩|⟨h1,h2⟩
   ·rw[h1]at b;cases b
   ·rw[h1]at b;cases b;exact⟨λ_=>by omega,λ_=>rfl⟩
  ·rw[Vk e,h.rk j s hj b];rcases hr with⟨_,h2⟩|⟨h1,h2⟩
   ·rw[h2]
   ·have:s≠r:=λG=>e (M.one j i r (by simpa using hj) (by simpa using hi) (by rw[b,G]) (by rw[C,h1]));omega
 ·have z:∀d,o.dst=some d->k≠d:=λd hd e=>by
   subst e;rw[J i k hi (by rw[n,hd])]at y;cases y
  have:(a.put o.dst v).eval (.tmp k)=a.eval (.tmp k):=Act.eval_put λd hd heq=>by cases heq;exact z _ hd rfl
  rw[this];exact(h.t0 k p y).goes A
 ·rw[D6 _ _ _ _ u]at x;by_cases e:j=i
  ·subst e;rw[n]at hd;rw[hg]at q;cases q;rw[hd,lz a (by rw[h.tmps];exact H d hd),Vn rfl];exact hv d hd
  ·rw[Vk e]at x;have z:∀D,o.dst=some D->d≠D:=λD c G=>by
    subst G;exact e (M.ss j i d (by simpa using hj) (by simpa using hi) hd (by rw[n,c]))
   have:(a.put o.dst v).eval (.tmp d)=a.eval (.tmp d):=Act.eval_put λD c heq=>by cases heq;exact z _ c rfl
   rw[this];exact(h.mg j d O hj x hd q).goes A
theorem NT(z:RT l.toArray f m gs)(hT:qt l (gs.map (·.p)) t=T)(J:∀i d,i<l.length->cY l.toArray i=some d->look d t=none)(hL:GL P N l.toArray σs T l gs){ag}(hm:σs[m]? =some ag){Q:Exit->Act->World->Prop}{E₀ w₀}(hq:∀a' w' E',Sat F base ag E' w'->eF E' w' a'.eval T->a'.defers=[]->a'.tmps.size=N->c8 E₀ w₀ E' w'->iE F base w₀ w'->Q .normal a' w'):
  ∀(fuel:Nat) (ls:Array Bool) (r:Nat) (E:Env) (a:Act) (w:World),MY base N F l gs σs t ls r E a w->bX ls l.length=fuel->c8 E₀ w₀ E w->iE F base w₀ w->r<=m->wpAny P .any l.toArray Q fuel ls a w:=by
 obtain⟨aq,X⟩:=hL.get;intro fuel;induction fuel with
 |zero=>
  intro ls r E a w h hu A hb W;have D:=dO hu;have af:r=m:=by
   rcases Ww r m with B|B
   ·obtain⟨j,hj,aj⟩:=z.has r B;have hj:j<l.length:=by simpa using hj
    have:=(h.rk j r hj aj).1 (D j hj);omega
   ·omega
  subst af;refine⟨XM.2 λi hi=>?_,?_⟩
  ·obtain⟨h1,h2,_⟩:=dh.1 hi;rw[D i (by simpa using h1)]at h2;cases h2
  ·obtain⟨σ,q,hs⟩:=h.sat
   rw[hm]at q;cases q;refine hq a w E hs (λk p K=>?_) h.lO h.tmps A hb;rw[<-hT]at K;rcases o4 _ _ _ k p K with⟨j,o,h1,h2,C⟩|B
   ·rw[Vt,Vr]at C;obtain⟨g,hg,rfl⟩:=C;have hj:j<l.length:=(Vf.1 h1).1;exact h.mg j k g hj (D j hj) (by simp only[cY,Xx,h1,Wq,h2]) hg
   ·exact h.t0 k p B
 |succ fuel ih=>
  intro ls r E a w h hu A hb W;obtain⟨i0,Z,ah,ai⟩:=iw (ls:=ls) (m:=l.length) (by omega);have aa:i0∈Region.ready .any l.toArray ls:=dh.2 ⟨by simpa using Z,ah,λk hk=>by
   have:=z.oH i0 (by simpa using Z) k hk;rw[KQ (by rw[h.size];omega) false true];exact ai k this⟩
  refine⟨λh0=>absurd aa (by rw[h0];simp),λi hi=>?_⟩;obtain⟨h1,h2,C⟩:=dh.1 hi;have n:i<l.length:=by simpa using h1
  have ho:l[i]? =some l[i]:=by simp[n]
  have s:gs[i]? =some (gs[i]'(by omega)):=by simp
  have hK:=X i _ _ ho s;generalize ao:gs[i]'(by omega)=g at s hK;generalize ar:l[i]=o at ho hK;have S:=h.looks z hT n C;have ak:fk l.toArray i=o.looksAt l.toArray:=by simp only[fk,Xx,ho]
  rw[ak]at S;have U:∀ks:List Nat,(ks.all λk=>(o.looksAt l.toArray).contains k)=true->eF E w a.eval (jx T ks):=λks hks k p K=>by
   obtain⟨R,O⟩:=kM ks k p K;exact S k (by have:=VG.1 hks k R;simpa using this) p O
  have u:∀b,eL l.toArray T o=some b->Region.wanted o (yielded l.toArray a.tmps)=b:=λb hb=>by
   rw[iz];exact py (λk hk p hp=>S k hk p hp) hb
  have M:bX (ls.setIfInBounds i true) l.length=fuel:=by have:=iy h2 n (by rw[h.size];omega);omega
  unfold wpOp;have al:l.toArray[i]? =some o:=by simpa using ho
  simp only[al];have ae:mR gs i=g.r:=by simp only[mR,s,Wq]
  cases hK with
  | @val p d lo hi ks hks hw hy hd hN=>
   rw[u true hw,Vn rfl];left;obtain⟨σ,q,hs⟩:=h.sat
   obtain⟨q1,q2⟩:=z.quiet i _ s rfl;have ad:lo<=r:=by
    rcases q1 with e|⟨j,hj,x,y⟩
    ·simp only at e;omega
    ·have:=(h.rk j _ (by simpa using hj) x).1 (h.reach z n y C);simp only at this;omega
   have Y:r<=hi:=by
    rcases q2 with e|⟨j,hj,x,y⟩
    ·simp only at e;omega
    ·rcases Ww hi r with B|B
     ·have ab:j<l.length:=by simpa using hj
      have R:=(h.rk j _ ab x).2 B;have O:=h.reach z ab y (h.down j R hj);rw[h2]at O;cases O
     ·exact B
   refine sj (hy r σ ad Y q F base E a.eval w (fZ a) hs (U ks hks)) λv w' hE hv=>?_;exact ih _ r E _ w' (h.put z J n h2 C s (.ext hE) ⟨σ,q,hs.ext hE⟩ (.inl ⟨rfl,rfl⟩) ho (λd' c=>by rw[hd]at c;cases c;exact Nat.blt_eq.mp hN) (λ_ _=>hv)) M (A.trans (.ext hE)) (hb.trans (Zz hE hs)) W
  | @skip d lo hi hw hd hN=>
   rw[u false hw,Vk (by simp)];exact ih _ r E _ w (h.put z J n h2 C s (YN _ _) h.sat (.inl ⟨rfl,rfl⟩) ho (λd' c=>by rw[hd]at c;cases c;exact Nat.blt_eq.mp hN) (λ_ _=>.raw _)) M A hb W
  | @tV p d H lo hi σ σ' ks hks hw R O hy hd hN=>
   rw[u true hw,Vn rfl];left;obtain⟨q1,q2⟩:=z.tV i _ H s rfl;have V:H=r:=by
    have n1:¬H<r:=λB=>by
     have:=(h.rk i H n ae).2 B;rw[h2]at this;cases this
    rcases q2 with e|⟨j,hj,x,y⟩
    ·omega
    ·have:=(h.rk j _ (by simpa using hj) x).1 (h.reach z n y C);omega
   subst V;obtain⟨an,q,hs⟩:=h.sat
   rw[R]at q;cases q;obtain⟨v,w',E',hr,k1,k2,k3,k4⟩:=hy F base E a.eval w (fZ a) hs (U ks hks);have G:=ih _ (H+1) E' (a.put o.dst v) w' (h.put z J n h2 C s k2 ⟨σ',O,k1⟩ (.inr ⟨rfl,rfl⟩) ho (λd' c=>by rw[hd]at c;cases c;exact Nat.blt_eq.mp hN) (λ_ _=>k4)) M (A.trans k2) (hb.trans k3) (by omega);unfold Oper.wp;rcases hr with hr|⟨rfl,hr⟩
   ·rw[hr];exact G
   ·rw[hr];exact G
  | @gT p H lo hi σ σ' ks hks hw R O hy hd=>
   rw[u true hw,Vn rfl];left;obtain⟨q1,q2⟩:=z.tV i _ H s rfl;have V:H=r:=by
    have n1:¬H<r:=λB=>by
     have:=(h.rk i H n ae).2 B;rw[h2]at this;cases this
    rcases q2 with e|⟨j,hj,x,y⟩
    ·omega
    ·have:=(h.rk j _ (by simpa using hj) x).1 (h.reach z n y C);omega
   subst V;obtain⟨an,q,hs⟩:=h.sat
   rw[R]at q;cases q;obtain⟨v,w',E',hr,k1,k2,k3,k4⟩:=hy F base E a.eval w (fZ a) hs (U ks hks);have G:=ih _ (H+1) E' (a.put o.dst v) w' (h.put z J n h2 C s k2 ⟨σ',O,k1⟩ (.inr ⟨rfl,rfl⟩) ho (λd' c=>by rw[hd]at c;cases c) (λd' c=>by rw[hd]at c;cases c)) M (A.trans k2) (hb.trans k3) (by omega);unfold Oper.wp;rcases hr with hr|⟨rfl,hr⟩
   ·rw[hr];exact G
   ·rw[hr];exact G
end
theorem sg:∀(n k:Nat),k<=n->bX (Array.replicate n false) k=k
 |n,0,_=>rfl
 |n,k+1,h=>by
  simp only[bX];rw[sg n k (by omega)];simp[show k<n by omega]
theorem oL{id:Nat}{l:List Oper}{t t' σ c}{Q:Exit->St->Prop}(f m:Nat)(σs:List bH)(gs:List GD)(T:cd)(hm:P.follows .mixedOrders=true)(x:NS l.toArray f m gs=true)(hT:qt l (gs.map (·.p)) t=T)(q:(l.all λo=>o.dst.all λd=>(look d t).isNone)=true)(h0:σs[0]? =some σ)(h1:σs[m]? =some c)
  (z:GL P N l.toArray σs T l gs) (n:Sub T t') (A:Q .normal ⟨t',c⟩):W P N L (.region id l.toArray true) ⟨t,σ⟩ Q:=λF base E₀ w₀ E a w hc hs=>by
 have y:=Kr x;have p:Ext w {w with drawn:=w.drawn+1}:=⟨rfl,rfl,rfl,Vh _,λ_ _=>rfl⟩;refine wp_region_any hm ?_;have h:∀i d,i<l.length->cY l.toArray i=some d->look d t=none:=λi d hi hd=>by
  have ho:l[i]? =some l[i]:=by simp[hi]
  simp only[cY,Xx,ho,Wq]at hd;have:=VG.1 q _ (VE ho);rw[hd]at this;simpa using this
 have r:MY base N F l gs σs t (Array.replicate l.length false) 0 E a {w with drawn:=w.drawn+1}:=by
  have b:∀i,i<l.length->(Array.replicate l.length false).getD i true=false:=λi hi=>by simp[hi]
  refine⟨by simp,λi hi u=>?_,λi s hi _=>?_,⟨σ,h0,hs.sat.ext p⟩,hs.lO,hs.size,hs.tmp.goes (.ext p),λj d g hj k=>?_⟩
  ·rw[b i (by simpa using u)]at hi;cases hi
  ·rw[b i hi];simp
  ·rw[b j hj]at k;cases k
 have:=NT (Q:=λe v w'=>qo F base N E₀ w₀ (Q e) v w') y hT h z h1 (E₀:=E₀) (w₀:=w₀) (λv w' E' k1 B C D G H=>⟨⟨t',c⟩,E',A,⟨k1,B.sub n,C,D⟩,G,H⟩) l.length _ 0 E a _ r (sg _ _ (Vh _)) (hc.g.trans (.ext p)) (hc.b.trans (Zz p hs.sat)) (We _);simpa using this
theorem kT{id:Nat}{l:List Oper}{y t t' σ b}{Q:Exit->St->Prop}(f m:Nat)(σs:List bH)(gs:List GD)(T:cd)(hm:P.follows .mixedOrders=true)(e:NS l.toArray f m gs=true)(hT:qt l (gs.map (·.p)) t=T)(c:(l.all λo=>o.dst.all λd=>(look d t).isNone)=true)(h0:σs[0]? =some σ)(h1:σs[m]? =some b)
  (g:GL P N l.toArray σs T l gs) (a:Sub T t') (h:W P N L y ⟨t',b⟩ Q):W P N L (.seq (.region id l.toArray true) y) ⟨t,σ⟩ Q:=an (oL f m σs gs T hm e hT c h0 h1 g a h)
theorem yz{P}{σs:List bH}{t o p}{lo hi:Nat}(h:∀σ∈(σs.drop lo).take (hi+1 - lo),bE P σ t o p):∀r σ,lo<=r->r<=hi->σs[r]? =some σ->bE P σ t o p:=λr σ h1 h2 hs=>by
 refine h σ (VE (i:=r - lo) ?_);rw[Wn,Vn (by omega),WV,show lo+(r - lo)=r by omega];exact hs
theorem b7{α:Type}{p:α->Prop}:∀x∈([]:List α),p x:=λ_ h=>by cases h
theorem bF{α:Type}{p:α->Prop}{a l}(h:p a)(hs:∀x∈l,p x):∀x∈a::l,p x:=λx hx=>by
 rcases V9.1 hx with rfl|b
 ·exact h
 ·exact hs x b
end
open Net iF
theorem QH{P}{N L:Nat}{x st}{Q:Exit->St->Prop}{Q1:St->Prop}(h:W P N L x st (Qa Q1))(k:∀s,Q1 s->Q .normal s):W P N L x st Q:=
 h.mono λe s a=>by cases e<;>first|exact k s a|exact a.elim
theorem HJ{T}(hv:aH T=true)(D:List Bool)(n d:Nat):(cA T D n d).length<=512:=by
 have hl:=dy hv;unfold cA;split
 ·simp
 ·exact VL (Wl _ _) (VL (fK T n _) (by omega))
def j9(T:aw)(k x:Int):List Bool:=if lS T k x=0 then dq T k x else []
theorem KU{T}{k x:Int}(h:(aH T&&fG T k x)=true):j9 T k x=dq T k x:=by
 unfold j9 lS;rw[Vn h,Vn rfl]
theorem Nk{T:aw}(hv:aH T=true){a:Nat}(ha:a<2*T.ah.length)(h:0<jf T a):(aH T&&fG T 3 (jf T a))=true:=by
 have:=xq hv ha;rw[hv];unfold fG;simp only[Vk (show ¬(3:Int)=1 by decide),Vk (show ¬(3:Int)=2 by decide),Xr,WB,Vx,VH];exact⟨by omega,by omega⟩
theorem Jt{T:aw}(hv:aH T=true){a:Nat}(ha:a<2*T.ah.length):(aH T&&fG T 2 (bx T a))=true:=by
 obtain⟨h0,h1⟩:=(bz hv).head a ha;rw[hv];unfold fG;simp only[Vk (show ¬(2:Int)=1 by decide),Xr,WB];exact bY.2 ⟨h0,h1⟩
def oD(T:aw)(D E:List Bool)(k:Nat):List Bool:=(List.range (2*T.ah.length)).map λa=>if a<k then bO D a||bO E a else bO D a
theorem vt(T:aw)(D E:List Bool)(k:Nat):(oD T D E k).length=2*T.ah.length:=by simp[oD]
theorem rP{T D E}{k i:Nat}(h:i<(oD T D E k).length):(oD T D E k)[i]=if i<k then bO D i||bO E i else bO D i:=by simp[oD]
theorem DD{M:List Bool}{a:Nat}(h:a<M.length):bO M a=M[a]:=by rw[<-pE];simp[h]
theorem HV{T:aw}{D E:List Bool}(h:D.length=2*T.ah.length):oD T D E 0=D:=by
 apply XG (by rw[vt,h]);intro i h1 h2;rw[rP,Vk (by omega),DD h2]
theorem Li(T:aw)(D E:List Bool):oD T D E (2*T.ah.length)=orM T D E:=by
 unfold oD orM;exact Wh λa ha=>Vn (VP.1 ha)
theorem HU(T:aw)(D E:List Bool)(k:Nat):(oD T D E k).set k (bO D k||bO E k)=oD T D E (k+1):=by
 apply XG (by simp[oD]);intro i h1 h2;rw[List.getElem_set,rP,rP];by_cases e:k=i
 ·subst e;rw[Vn rfl,Vn (by omega)]
 ·rw[Vk e];by_cases h:i<k
  ·rw[Vn h,Vn (by omega)]
  ·rw[Vk h,Vk (by omega)]
theorem OG{T:aw}{D E}{k:Nat}(h:k<2*T.ah.length):(oD T D E k).getD k false=bO D k:=by
 have hk:k<(oD T D E k).length:=by rw[vt];exact h
 rw[Qo,Vm hk,WH,rP,Vk (by omega)]
end
section
open Go.RowKit cm Mem
theorem BQ(n a b:Int):Can prog 139 [num n,num a,num b] (· =flag (decide (a<=n)&&decide (n<=b))):=by
 refine aR func139 I ntmps139 I<|aj (.a 1 I<|.k [0,1,2] I) ?_;have⟨e,c⟩:=dw (decide (a<=n));have⟨f,d⟩:=dw (decide (n<=b));rw[c,d];refine cD 6 (.raw (.bool (e&&f))) [] I ?_ ?_
 ·refine .a 2 I<|.v (cT I (c)) I<|.a 1 I<|?_;cases e
  ·exact .a 5 I<|.k [6] I
  ·exact .a 2 I<|.v (cT I (d)) I<|.a 2 I<|.k [6] I
 exact aA<|jF I aQ.pure rfl
theorem lq{n a b:Int}(h1:a<=n)(h2:n<=b):Can prog 139 [num n,num a,num b] (· =flag true):=by
 have:=BQ n a b;rwa [VM h1,VM h2]at this
theorem dI(a:cC)(h:a.Ok):Can prog 92 [dP a] (· =flag true):=by
 obtain⟨g1,g2,g3,g4,g5,g6,g7⟩:=h;have e:∀k,k<a.cU.length->a.cU.getD k dK∈a.cU:=λk hk=>b9 hk;refine aR func92 I ntmps92 I<|aj (.a 2 I<|.k [1] I)<|an<|aj (.a 2 I<|.c rfl (lq (n:=(a.cn:Int)) (by omega) (by omega)) I<|.a 4 I<|.c rfl (lq (n:=(a.seq:Int)) (by omega) (by omega)) I<|.a 5 I<|.c rfl (lq (n:=(a.gM:Int)) (by omega) (by omega)) I<|.a 2 I<|.k [1,22] I)<|ak I (λhc=>?_) (λhc=>?_)
 ·cases hc
 ·refine ao<|an ?_;have⟨E,g⟩:=dw (decide ((256:Int)<(a.cU.length:Int)));have z:E=false:=by rw[<-g];exact VA (by omega)
  subst z;refine aj (.a 3 I<|.v (cT I (g)) I<|.a 6 I<|.k [1,32] I)<|ak I (λhc=>?_) (λhc=>?_)
  ·cases hc
  ·refine ao<|an ?_;have⟨F,i⟩:=dw (decide ((a.gM:Int)=3600));have A:F=false:=by rw[<-i];exact VA (by omega)
   subst A;refine aj (.a 2 I<|.v (cT I (i)) I<|.a 16 I<|.k [1,51] I)<|ak I (λhc=>?_) (λhc=>?_)
   ·cases hc
   ·refine ao<|an<|aj (.a 4 I<|.k [1,53,54,55] I)<|ay<|eX [1,53,54,55] I<|bq (λr s=>∃k,k<=a.cU.length/\r=a.cU.length - k/\s=⟨[(1,.cH (dp a) 0),(53,eG a.cU),(54,num a.cU.length),(55,num k)],[]⟩) a.cU.length ⟨0,by omega,by omega,rfl⟩ ?_;rintro r s ⟨k,hk,rfl,rfl⟩;refine aj (.a 1 I<|.k [1,53,54,55,56] I)<|an<|ak I (λhc=>?_) (λhc=>?_)
    ·have hlt:k<a.cU.length:=by have:=Vg hc;omega
     have f:=i1 a.cU k hlt;obtain⟨q,t,u,v,w⟩:=g7 _ (e k hlt);have b:0<k->(a.cU.getD (k - 1) dK).lk<(a.cU.getD k dK).lk:=λh0=>by
      have C:=W7.1 g6 (k - 1) k (by omega) hlt (by omega);simpa[Qo,Vm hlt,Vm (show k - 1<a.cU.length by omega)]using C
     have m:0<k->(dZ a.cU)[((k:Int) - 1).toNat*3+1]? =some (num ((a.cU.getD (k - 1) dK).lk:Int)):=λh0=>by
      rw[show((k:Int) - 1).toNat=k - 1 by omega];exact Jm a.cU (k - 1) 1 (by omega) (by omega)
     generalize a.cU.getD k dK=x at f q t u v w b;obtain⟨o,l,y⟩:=x;simp only at q t u v w b;refine ao<|an<|ay<|aK<|av 1 I<|aZ (aX (k*3) I) I<|aZ (gr I (f) I) I<|av 3 I<|aF [1,3,4,53,54,55] I ?_;refine an ?_;have⟨p,d⟩:=dw (decide ((0:Int)<(k:Int)));have c:p=true->0<k:=λh=>by have:=Vg (d.trans h);omega
     refine Dm (Q1:=λs=>s=⟨[(1,.cH (dp a) 0),(4,.ptr 0 0),(53,eG a.cU),(54,num a.cU.length),(55,num k),(79,flag false)],[some (.cells 131 (jk ⟨o,l,y⟩))]⟩) ?_ ?_
     ·cases p
      ·refine QE mixed (by kernel_rfl) (.a 1 I<|.v [60] (cT I (d)) I I<|.a 15 I<|.v [76] (dW I (lq (n:=(l:Int)) (by omega) (by omega))) I I<|.a 2 I<|.k [1,4,53,54,55,79] I) ?_
       rfl
      ·refine QE mixed (by kernel_rfl) (.a 1 I<|.v [60] (cT I (d)) I I<|.a 4 I<|.v [65] (aU I) I I<|.v [64,66] (aX (((k:Int) - 1).toNat*3) I (by have:=c rfl;omega) (by have:=c rfl;omega)) I I<|.a 1 I<|.v [68] (aO I (m (c rfl))) I I<|.a 2 I<|.v [69,71] (cT I ((show decide ((l:Int)<=((a.cU.getD (k - 1) dK).lk:Int))=false from VA (by have:=b (c rfl);omega)))) I I<|.a 4 I<|.v [76] (dW I (lq (n:=(l:Int)) (by omega) (by omega))) I I<|.a 2 I<|.k [1,4,53,54,55,79] I) ?_
       rfl
     rintro _ rfl;refine ak I (λhc=>?_) (λhc=>?_)
     ·cases hc
     ·refine ao ?_;have⟨G,j⟩:=dw (decide ((o:Int)=(a.cn:Int)));have B:G=false:=by rw[<-j];exact VA (by omega)
      subst B;refine aj (.a 4 I<|.v (cT I (j)) I<|.a 3 I<|.c rfl (lq (n:=(o:Int)) (by omega) (by omega)) I<|.a 5 I<|.c rfl (lq (n:=(y:Int)) (by omega) (by omega)) I<|.a 2 I<|.k [1,53,54,55,96] I)<|ak I (λhc=>?_) (λhc=>?_)
      ·cases hc
      ·refine dM [] (.c 1<|.c 53<|.c 54<|.c 55 .nil) .nil rfl rfl<|ao<|aL (.v (aU I) I<|.a 1 I<|.k [1,53,54,55] I) ?_;exact⟨a.cU.length - (k+1),by omega,k+1,by omega,rfl,rfl⟩
    ·have D:k=a.cU.length:=by have:=Vj hc;omega
     refine bh<|an<|aj (.a 4 I<|.k [1,99,100,101] I)<|ay<|eX [1,99,100,101] I<|bq (λr s=>s=⟨[(1,.cH (dp a) 0),(99,.slice 0 []),(100,num 0),(101,num 0)],[]⟩) 0 I ?_;rintro r s rfl;refine aj (.a 1 I<|.k [1,99,100,101,102] I)<|an<|ak I (λhc=>?_) (λhc=>?_)
     ·exact absurd hc (by decide)
     ·exact bh<|aj (.a 1 I<|.k [2] I)<|aA<|jF I aQ.pure rfl
def iC(a b:cC):Bool:=decide (a.seq=b.seq/\a.over=b.over/\a.cU=b.cU)
theorem uu{x:gG}{E w v}(h:dj E w v (.agg (jk x))):v= .agg #[.int .i64 x.to,.int .i64 x.lk,.int .i64 x.co]:=by
 cases h with
 |agg cs _ hl hr=>
  obtain⟨l⟩:=cs
  match l,hl,hr with
  | [a,b,c],_,hr=>
   have h0:=dt (hr 0 a _ rfl rfl);have h1:=dt (hr 1 b _ rfl rfl);have h2:=dt (hr 2 c _ rfl rfl);subst h0;subst h1;subst h2;rfl
  | [],hl,_=>simp[jk]at hl
  | [_],hl,_=>simp[jk]at hl
  | [_,_],hl,_=>simp[jk]at hl
  |_::_::_::_::_,hl,_=>simp[jk]at hl
theorem yf(a b c d b' e:Int)(w:World):(Op.equalIn 10000 131 (.agg #[.int .i64 a,.int .i64 b,.int .i64 c]) (.agg #[.int .i64 d,.int .i64 b',.int .i64 e])).run prog w= .ok (a==d&&(b==b'&&c==e)) w:=by
 have h:=Tryz.underlying3;have a3:=Tryz.isAgg3;have z3:=Tryz.sizeOf3;have g:prog.underlying 131=some (.struct (prog.fieldsOf 131)):=by kernel_rfl
 rw[show(10000:Nat)=9999+1 from rfl,run_equalIn_agg w 9999 131 _ _ g (by kernel_rfl)];simp only[Program.fieldsOf,Tryz.underlying131]
 go_simp
 by_cases h1:a=d<;>by_cases h2:b=b'<;>by_cases f:c=e<;>simp[h1,h2,f]
theorem Mx{σ t}{o:Oper}{x y l a b q}(ho:o.op= .binOp .eql 131 x y l)(hx:aI t x=some (.agg (jk a)))(hy:aI t y=some (.agg (jk b)))(k:decide (a=b)=q):bE prog σ t o (.raw (.bool q)):=by
 intro F base E ρ w c _ hT;have h1:=uu (aB c hT hx);have h2:=uu (aB c hT hy);have hb:((a.to:Int)==(b.to:Int)&&((a.lk:Int)==(b.lk:Int)&&(a.co:Int)==(b.co:Int)))=q:=by
  rw[<-k];obtain⟨d,a2,a3⟩:=a;obtain⟨e,f,g⟩:=b;by_cases h:d=e<;>by_cases i:a2=f<;>by_cases j:a3=g<;>simp[h,i,j]<;>omega
 simp only[execOp,ho,h1,h2,Sem.run_bind,run_eqGuard_agg w _ _ _ _ _ _ (show prog.eqGuardType prog.depth 131=false by kernel_rfl),Result.andThen_ok,run_eql_struct,yf,Sem.run_pure,hb];exact bA (.raw _)
theorem Ir(x y:gG):Can prog 158 [.agg (jk x),.agg (jk y)] (· =flag (decide (x=y))):=by
 exact aR func158 I ntmps158 I<|aj (.a 3 I<|.k [2,3] I)<|aj (.a 2 I<|.v (Mx I I I I) I<|.a 1 I<|.k [4] I)<|aA<|jF I aQ.pure rfl
theorem se{l m:List gG}{k:Nat}(h1:k<l.length)(h2:k<m.length)(h:l.take k=m.take k):(l.take (k+1)=m.take (k+1)↔l.getD k dK=m.getD k dK):=by
 rw[cL l k dK h1,cL m k dK h2,h];exact⟨λe=>by simpa using List.append_cancel_left e,λe=>by rw[e]⟩
theorem NG(l m:List gG)(hl:l.length<=256):Can prog 159 [eG l,eG m,.func 158 []] (· =flag (decide (l=m))):=by
 refine aR func159 I ntmps159 I<|aj (.a 1 I<|.k [0,1,2] I)<|an<|aj (.a 5 I<|.k [0,1,2,14] I)<|ak I (λhc=>?_) (λhc=>?_)
 ·have a:l≠m:=λe=>by subst e;exact absurd rfl (Vg hc)
  exact aj (.a 1 I<|.k [6] I)<|aA<|jF I aQ.pure (by rw[VA a];rfl)
 ·have j:m.length=l.length:=by have:=Vj hc;omega
  refine ao<|an<|aj (.a 3 I<|.k [1,2,15,16,17] I)<|ay<|eX [1,2,15,16,17] I<|bq (λr s=>∃k,k<=l.length/\l.take k=m.take k/\r=l.length - k/\s=⟨[(1,eG m),(2,.func 158 []),(15,eG l),(16,num l.length),(17,num k)],[]⟩) l.length ⟨0,by omega,rfl,by omega,rfl⟩ ?_;rintro r s ⟨k,hk,he,rfl,rfl⟩;refine aj (.a 1 I<|.k [1,2,15,16,17,18] I)<|an<|ak I (λhc=>?_) (λhc=>?_)
  ·have hlt:k<l.length:=by have:=Vg hc;omega
   have n:=se hlt (by omega:k<m.length) he;have d:=i1 l k hlt;have f:=i1 m k (by omega);refine ao<|an<|ay<|aK<|av 1 I<|aZ (aX (k*3) I) I<|aZ (gr I (d) I) I<|av 3 I<|aF [1,2,7,8,15,16,17] I ?_;refine aK<|av 2 I<|aZ (aX (k*3) I (by omega) (by show(k:Int)<(m.length:Int);omega)) I<|aZ (gr I (f) I) I<|av 2 I<|aF [1,2,8,9,15,16,17] I ?_;have⟨o,b⟩:=dw (decide (l.getD k dK=m.getD k dK));have c:=Ir (l.getD k dK) (m.getD k dK);rw[b]at c;refine aj (.a 3 I<|.c rfl (c) I<|.a 1 I<|.k [1,2,15,16,17,30] I)<|ak I (λhc=>?_) (λhc=>?_)
   ·have p:o=false:=by simpa using hc
    have a:l≠m:=λe=>by subst e;exact absurd rfl (Vj (b.trans p))
    exact aj (.a 1 I<|.k [6] I)<|aA<|jF I aQ.pure (by rw[VA a];rfl)
   ·have q:o=true:=by simpa using hc
    have g:=n.2 (Vg (b.trans q));refine dM [] (.c 1<|.c 2<|.c 15<|.c 16<|.c 17 .nil) .nil rfl rfl<|ao<|aL (.v (aU I) I<|.a 1 I<|.k [1,2,15,16,17] I) ?_;exact⟨l.length - (k+1),by omega,k+1,by omega,g,rfl,rfl⟩
  ·have i:k=l.length:=by have:=Vj hc;omega
   have h:l=m:=by rw[i,VN,<-j,VN]at he;exact he
   exact bh<|aj (.a 1 I<|.k [6] I)<|aA<|jF I aQ.pure (by rw[VM h];rfl)
theorem FM:Can prog 143 [.slice 0 [],.slice 0 []] (· =flag true):=by
 refine aR func143 I ntmps143 I<|aj (.a 1 I<|.k [0,1] I)<|an<|aj (.a 5 I<|.k [0,1,10] I)<|ak I (λhc=>?_) (λhc=>?_)
 ·exact absurd hc (by decide)
 ·refine ao<|an<|aj (.a 3 I<|.k [0,1,12,13] I)<|ay<|eX [0,1,12,13] I<|bq (λr s=>s=⟨[(0,.slice 0 []),(1,.slice 0 []),(12,num 0),(13,num 0)],[]⟩) 0 I ?_;rintro r s rfl;refine aj (.a 1 I<|.k [0,1,12,13,14] I)<|an<|ak I (λhc=>?_) (λhc=>?_)
  ·exact absurd hc (by decide)
  ·exact bh<|aj (.a 1 I<|.k [4] I)<|aA<|jF I aQ.pure rfl
theorem LW(a b:cC)(h:a.Ok)(k:b.Ok)(ho:a.cn=b.cn):Can prog 120 [dP a,dP b] (· =flag (iC a b)):=by
 have ha:=h.gM;have hb:=k.gM;have⟨i,c⟩:=dw (decide ((a.seq:Int)≠(b.seq:Int)));have⟨l,d⟩:=dw (!(a.over==b.over));have⟨j,e⟩:=dw (decide (a.cU=b.cU));have p:iC a b=(!(i||l)&&j):=by
  unfold iC;rw[<-c,<-d,<-e];by_cases f:a.seq=b.seq<;>cases a.over<;>cases b.over<;>by_cases o:a.cU=b.cU<;>simp[f,o]<;>omega
 rw[p];refine aR func120 I ntmps120 I<|aj (.a 3 I<|.k [2,3] I)<|an ?_;have m:decide ((a.cn:Int)≠(b.cn:Int))=false:=VA (by omega);refine cD 24 (.raw (.bool (i||l))) [2,3] I ?_ ?_
 ·refine .a 4 I<|.v (cT I (m)) I<|.a 5 I<|.v (cT I (c)) I<|.a 2 I<|?_;cases i
  ·exact .a 4 I<|.v (cT I (d)) I<|.a 1 I<|.k [24,2,3] I
  ·exact .a 6 I<|.k [24,2,3] I
 refine ak I (λhc=>?_) (λg=>?_)
 ·exact aj (.a 1 I<|.k [4] I)<|aA<|jF I aQ.pure (by rw[hc];rfl)
 ·refine ao<|an ?_;have f:decide ((a.gM:Int)=3600)=false:=VA (by omega);have n:decide ((b.gM:Int)=3600)=false:=VA (by omega);refine aj (.a 2 I<|.v (cT I (f)) I<|.a 2 I<|.v (cT I (n)) I<|.a 1 I<|.k [2,3,31] I)<|ak I (λhc=>?_) (λhc=>?_)
  ·cases hc
  ·refine ao<|aj (.a 1 I<|.k [2,3,5] I)<|cD 4 (.raw (.bool (j))) [] I ?_ ?_
   ·refine .a 5 I<|.c rfl (e▸NG a.cU b.cU h.len) I<|.a 1 I<|?_;cases j
    ·exact .a 7 I<|.k [4] I
    ·exact .a 4 I<|.c rfl (FM) I<|.a 2 I<|.k [4] I
   exact aA<|jF I aQ.pure (by rw[g];rfl)
def iO(a:cC):Rc:=⟨1,fw 2 a.cn++fw 4 a.seq++fw 2 a.gM++fw 1 a.over.toNat⟩
def jL(x:gG):Rc:=⟨2,fw 2 x.to++fw 2 x.lk++fw 2 x.co⟩
def pa(a:cC):List Rc:=iO a::a.cU.map jL
def preB(a:cC):List Nat:=je (pa a)++[4,0,2]
def l9(a:cC):List Nat:=r7 (preB a)
theorem Kt(a:cC):(iO a).Ok:=⟨by simp[iO],by simp[iO],by simp[iO,bK],(((fX _ _).append (fX _ _)).append (fX _ _)).append (fX _ _)⟩
theorem Ng(x:gG):(jL x).Ok:=⟨by simp[jL],by simp[jL],by simp[jL,bK],((fX _ _).append (fX _ _)).append (fX _ _)⟩
theorem zV(a:cC):∀r∈pa a,r.Ok:=λr hr=>by
 rcases V9.1 hr with rfl|hr
 ·exact Kt a
 ·obtain⟨x,_,rfl⟩:=Vv.1 hr;exact Ng x
theorem J1(l:List gG):(je (l.map jL)).length=l.length*9:=by
 induction l with
 |nil=>rfl
 |cons x l ih=>
  show(qK (jL x)++je (l.map jL)).length=_;rw[Vu,ih,VI,XL];simp[qK,jL,bK];omega
theorem Cm(a:cC):(preB a).length=a.cU.length*9+15:=by
 show(qK (iO a)++je (a.cU.map jL)++[4,0,2]).length=_;rw[Vu,Vu,J1];simp[qK,iO,bK];omega
theorem Cn(a:cC):sr (preB a):=(J2 (zV a)).append (.cons (by decide) (.cons (by decide) (.cons (by decide) .nil)))
theorem rm(a:cC):(l9 a).length=a.cU.length*9+17:=by unfold l9;rw[yh,Cm]
theorem uY(a:cC):sr (l9 a):=Is (Cn a)
theorem G3(a:cC):l9 a=je (pa a++[⟨4,[wx (preB a),wz (preB a)]⟩]):=by
 rw[pF];have e:qK ⟨4,[wx (preB a),wz (preB a)]⟩=[4,0,2]++[wx (preB a),wz (preB a)]:=by simp[qK]
 rw[e];exact VU _ _ _
def encS(l:List Rc):bH:=[some (.cells 216 [.own 2]),some (.cells 34 [num 0]),some (.row 220 2 l.length (iK l))]
def Se(l:List Rc):bH:=[some (.cells 216 [.own 3]),some (.cells 34 [num 0]),none,some (.row 220 2 l.length (iK l))]
theorem sA(l:List Rc)(k:Nat)(hl:l.length<=300):aD prog 201 [num k,.ptr 0 0] (encS l) (λ_ σ'=>σ'=Se (l++[⟨k,[]⟩])):=by
 refine aV func201 I ntmps201 I<|bp<|av 2 I<|aZ (tf (gg (xs:=[_,_]) I (X8 I) I I) (fv.iV (.cons (WK _)<|.cons Zw .nil))) I<|av 1 I<|bW (bP I (VW I) I I I I (by unfold maxLen;omega)) I<|av 1 I<|aF [] I ?_;exact⟨_,V5 I,by unfold Se;rw[<-mQ,Vu];rfl⟩
theorem O4(l:List Rc)(r:Rc)(v:List Nat):over (iK (l++[r])) (l.length*2+1) [cE v]=iK (l++[⟨r.k,v⟩]):=by
 have e:iK (l++[r])=iK l++nQ r:=(mQ l r).symm;have a:iK (l++[⟨r.k,v⟩])=iK l++nQ ⟨r.k,v⟩:=(mQ l ⟨r.k,v⟩).symm;rw[e,a,<-rV l];generalize iK l=A;unfold over;rw[show [cE v].length=1 from rfl];rw[YE,V2 (by omega),YF,Wi (by omega),show A.length+1 - A.length=1 by omega,show A.length+1+1 - A.length=2 by omega];simp[nQ]
theorem Bb(l:List Rc)(r:Rc)(v:List Nat):[some (cj.cells 216 [.own 2]),some (.cells 34 [num 0]),some (.row 220 2 (l++[r]).length (over (iK (l++[r])) (l.length*2+1) [cE v]))]=encS (l++[⟨r.k,v⟩]):=by
 rw[O4];simp[encS]
theorem kI(l:List Rc)(r:Rc)(n s:Nat)(hl:l.length<=300)(h1:1<=s)(b:s<=4)(hn:n<256 ^ s)(hv:r.v.length<=1000):aD prog 200 [num n,num s,.ptr 0 0,.ptr 1 0] (encS (l++[r])) (λ_ σ'=>σ'=encS (l++[⟨r.k,r.v++fw s n⟩])):=by
 have a:n<18446744073709551616:=by
  have:=YA (show 0<256 by decide) b;omega
 refine aV func200 I ntmps200 I<|aj (.a 3 I<|.v (aU I (hc:=(show(((l++[r]).length:Nat):Int) - 1=(l.length:Int) by simp))) I<|.v (aX (l.length*2) I (by omega) (by simp;omega)) I<|.a 1 I<|.k [0,1,3,6] I)<|aj (.a 3 I<|.v (aO I ((show(iK (l++[r]))[l.length*2+1]? =some (cE r.v) by rw[<-mQ,<-rV l];simp[nQ]))) I<|.a 1 I<|.v (eE I Tryz.underlying3 Tryz.underlying221 rfl (lF _ a)) I<|.a 1 I<|.c rfl (q9 r.v n s h1 b hn (by omega)) I<|.a 5 I<|.k [3,6,7,8] I)<|an<|aj (.a 2 I<|.k [3,6,7,8,26] I)<|ak I (λhc=>?_) (λhc=>?_)
 ·refine bp<|av 2 I<|aF [6,7] I ?_;refine bp<|av 4 I<|bw (de.as (eh I (VJ I) I I I (by show l.length*2+1<(iK (l++[r])).length;rw[rV];simp;omega)) (σ'':=encS (l++[⟨r.k,r.v++fw s n⟩])) (by exact Bb l r _)) I I<|aF [] I ?_;exact⟨_,V5 I,rfl⟩
 ·refine ao<|bp<|av 4 I<|bw (de.as (eh I (VJ I) I I I (by show l.length*2+1<(iK (l++[r])).length;rw[rV];simp;omega)) (σ'':=encS (l++[⟨r.k,r.v++fw s n⟩])) (by exact Bb l r _)) I I<|aF [] I ?_;exact⟨_,V5 I,rfl⟩
theorem J3(l:List Rc):fF (encS l).length (encS l):=.cons (.cells (V0 (gU (show 2<3 by decide)) Wp))<|.cons (.cells VT)<|.cons (.row VT) .nil
theorem SF(l:List gG)(k:Nat)(h:k<l.length)(a:cC):iO a::(l.take (k+1)).map jL=(iO a::(l.take k).map jL)++[⟨2,[]++fw 2 (l.getD k dK).to++fw 2 (l.getD k dK).lk++fw 2 (l.getD k dK).co⟩]:=by
 rw[cL l k dK h,Wu]
 rfl
theorem rE(a:cC)(h:a.Ok):Can prog 148 [dP a] (· = .tuple [cE (l9 a),num 0]):=by
 have m:=dI a h;have y:=Cm a;have l:=Cn a;obtain⟨g1,g2,g3,g4,g5,g6,g7⟩:=h;refine aR func148 I ntmps148 I<|aj (.a 3 I<|.k [1] I)<|an<|aj (.a 1 I<|.c rfl (m) I<|.a 1 I<|.k [1,16] I)<|ak I (λhc=>?_) (λhc=>?_)
 ·cases hc
 ·refine ao<|aK<|av 1 I<|aF [1,4] I ?_;refine aK<|av 2 I<|aF [1,4,5] I ?_;refine aj (.a 2 I<|.k [1,4,5,6] I)<|aj (.a 2 I<|.k [1,4,5,6,7] I)<|cO 0 0 220 2 I I ?_;refine dY (σ':=encS []) I<|aK<|av 1 I<|br I I (VO (sA [] 1 (by simp)) (λ_ σ' h=>?_));subst h;refine aF [1,4,5,6,7] I<|dM [0,1,3] (.c 1<|.c 4<|.c 5<|.cons 6 I (Ren.mD (WU<|WU Wp))<|.cons 7 I (Ren.mD (WU Wp))<|.nil) (.kept rfl (.cells (WU Wp))<|.kept rfl (.cells (WU Wp))<|.kept rfl (.row VT) .nil) I I ?_;refine dY (σ':=encS ([]++[⟨1,[]⟩])) I<|aK<|av 3 I<|br I I (VO (kI [] ⟨1,[]⟩ a.cn 2 (by simp) (by decide) (by decide) (by omega) (by simp)) (λ_ σ' h=>?_));subst h;refine aF [1,4,5,6,7] I<|aK<|av 3 I<|br I I (VO (kI [] ⟨1,[]++fw 2 a.cn⟩ a.seq 4 (by simp) (by decide) (by decide) (by omega) (by simp[bK])) (λ_ σ' h=>?_));subst h;refine aF [1,4,5,6,7] I<|aK<|av 3 I<|br I I (VO (kI [] ⟨1,[]++fw 2 a.cn++fw 4 a.seq⟩ a.gM 2 (by simp) (by decide) (by decide) (by omega) (by simp[bK])) (λ_ σ' h=>?_));subst h;refine aF [1,4,5,6,7] I<|Ji ([(1,.cH (dp a) 0),(4,.ptr 0 0),(5,.ptr 1 0),(6,.func 200 [.ptr 0 0,.ptr 1 0]),(7,.func 201 [.ptr 0 0])]) (λσ=>σ=encS [iO a]) ?_ ?_
  ·refine aj (.a 2 I<|.k [1,4,5,6,7,34] I)<|ak I (λb=>?_) (λb=>?_)
   ·refine bp<|av 1 I<|br I I (VO (kI [] ⟨1,[]++fw 2 a.cn++fw 4 a.seq++fw 2 a.gM⟩ 1 1 (by simp) (by decide) (by decide) (by decide) (by simp[bK])) (λ_ σ' h=>?_));subst h;refine aF [1,4,5,6,7] I<|⟨aJ (ks:=[1,4,5,6,7]) I,by unfold iO;rw[b];rfl⟩
   ·refine bp<|av 1 I<|br I I (VO (kI [] ⟨1,[]++fw 2 a.cn++fw 4 a.seq++fw 2 a.gM⟩ 0 1 (by simp) (by decide) (by decide) (by decide) (by simp[bK])) (λ_ σ' h=>?_));subst h;refine aF [1,4,5,6,7] I<|⟨aJ (ks:=[1,4,5,6,7]) I,by unfold iO;rw[b];rfl⟩
  ·rintro σ rfl;refine an<|aj (.a 4 I<|.k [1,4,5,6,7,40,41,42] I)<|ay<|eX [1,4,5,6,7,40,41,42] I<|bq (λr s=>∃k,k<=a.cU.length/\r=a.cU.length - k/\s=⟨[(1,.cH (dp a) 0),(4,.ptr 0 0),(5,.ptr 1 0),(6,.func 200 [.ptr 0 0,.ptr 1 0]),(7,.func 201 [.ptr 0 0]),(40,eG a.cU),(41,num a.cU.length),(42,num k)],encS (iO a::(a.cU.take k).map jL)⟩) a.cU.length ⟨0,by omega,by omega,rfl⟩ ?_;rintro r s ⟨k,hk,rfl,rfl⟩;refine aj (.a 1 I<|.k [1,4,5,6,7,40,41,42,43] I)<|an<|ak I (λhc=>?_) (λhc=>?_)
   ·have hlt:k<a.cU.length:=by have:=Vg hc;omega
    have e:=i1 a.cU k hlt;have c:=SF a.cU k hlt a;obtain⟨p,q,t,u,v⟩:=g7 _ (b9 (d:=dK) hlt);have j:(iO a::(a.cU.take k).map jL).length<=290:=by simp;omega
    generalize a.cU.getD k dK=x at e c p q t u v;generalize iO a::(a.cU.take k).map jL=M at c j;obtain⟨f,n,w⟩:=x;simp only at p q t u v;refine ao<|an<|ay<|aK<|aZ (aX (k*3) I) I<|aZ (gr I (e) I) I<|av 2 I<|aF [1,4,5,6,7,9,40,41,42] I ?_;refine uH (A:=encS M) (xs:=jk ⟨f,n,w⟩) 9 (J3 M) I (.c 1<|.c 4<|.c 5<|.cons 6 I (Ren.mD (WU<|WU Wp))<|.cons 7 I (Ren.mD (WU Wp))<|.c 40<|.c 41<|.c 42 .nil) I<|aK<|av 1 I<|br I I (VO (sA M 2 (by omega)) (λ_ σ' h=>?_));subst h;refine aF [1,4,5,6,7,9,40,41,42] I<|dM [0,1,3] (.c 1<|.c 4<|.c 5<|.cons 6 I (Ren.mD (WU<|WU Wp))<|.cons 7 I (Ren.mD (WU Wp))<|.c 9<|.c 40<|.c 41<|.c 42<|.nil) (.kept rfl (.cells (WU Wp))<|.kept rfl (.cells (WU Wp))<|.kept rfl (.row VT) .nil) I I ?_;refine dY (σ':=encS (M++[⟨2,[]⟩])) I<|aK<|av 3 I<|br I I (VO (kI M ⟨2,[]⟩ f 2 (by omega) (by decide) (by decide) (by omega) (by simp)) (λ_ σ' h=>?_));subst h;refine aF [1,4,5,6,7,9,40,41,42] I<|aK<|av 3 I<|br I I (VO (kI M ⟨2,[]++fw 2 f⟩ n 2 (by omega) (by decide) (by decide) (by omega) (by simp[bK])) (λ_ σ' h=>?_));subst h;refine aF [1,4,5,6,7,9,40,41,42] I<|bp<|av 3 I<|br I I (VO (kI M ⟨2,[]++fw 2 f++fw 2 n⟩ w 2 (by omega) (by decide) (by decide) (by omega) (by simp[bK])) (λ_ σ' h=>?_));subst h;refine aF [1,4,5,6,7,40,41,42] I<|aL (.v (aU I) I<|.a 1 I<|.k [1,4,5,6,7,40,41,42] I) ?_;exact⟨a.cU.length - (k+1),by omega,k+1,by omega,rfl,by rw[c];rfl⟩
   ·have i:k=a.cU.length:=by have:=Vj hc;omega
    rw[i,VN];refine bh<|an<|aj (.a 4 I<|.k [4,5,6,7,62,63,64] I)<|ay<|eX [4,5,6,7,62,63,64] I<|bq (λr s=>s=⟨[(4,.ptr 0 0),(5,.ptr 1 0),(6,.func 200 [.ptr 0 0,.ptr 1 0]),(7,.func 201 [.ptr 0 0]),(62,.slice 0 []),(63,num 0),(64,num 0)],encS (pa a)⟩) 0 I ?_;rintro r s rfl;refine aj (.a 1 I<|.k [4,5,6,7,62,63,64,65] I)<|an<|ak I (λhc=>?_) (λhc=>?_)
    ·exact absurd hc (by decide)
    ·refine bh<|aK<|av 1 I<|br I I (VO (sA (pa a) 4 (by simp[pa];omega)) (λ_ σ' h=>?_));subst h;refine aF [4,5,6] I<|dM [0,1,3] (.c 4<|.c 5<|.cons 6 I (Ren.mD (WU<|WU Wp))<|.nil) (.kept rfl (.cells (WU Wp))<|.kept rfl (.cells (WU Wp))<|.kept rfl (.row VT) .nil) I I ?_;refine dY (σ':=encS (pa a++[⟨4,[]⟩])) I<|aK<|av 1 I<|br I I (VO (kI (pa a) ⟨4,[]⟩ 0 2 (by simp[pa];omega) (by decide) (by decide) (by decide) (by simp)) (λ_ σ' h=>?_));subst h;refine aF [4,5] I ?_;have o:=uO (pa a++[⟨4,[]++fw 2 0⟩]) (λr hr=>by
      rcases W5.1 hr with hr|hr
      ·exact zV a r hr
      ·rw[WW]at hr;subst hr;exact⟨by decide,by decide,by simp[bK],fX _ _⟩) (by simp[pa];omega)
     have g:je (pa a++[⟨4,[]++fw 2 0⟩])=preB a++[0,0]:=by
      rw[pF];unfold preB;rw[VU]
      rfl
     rw[g]at o;refine oK (t':=[(4,.cH [wJ (pa a++[⟨4,[]++fw 2 0⟩])] 0),(5,.cH [num 0] 0)]) (.cons 4 I (ZA rfl (Vp (Yw rfl W9) Wg))<|.cons 5 I (ZA rfl (Vp aQ.pure Wg)) .nil)<|aj (.a 1 I<|.c rfl (o) I<|.a 5 I<|.k [5,12,13] I)<|an<|aj (.a 6 I<|.k [5,12,13,94] I)<|ak I (λhc=>?_) (λhc=>?_)
     ·cases hc
     ·exact ao<|aj (.a 3 I<|.v (aU I (hc:=(show(((preB a++[0,0]).length:Nat):Int) - 2=((preB a).length:Int) by simp))) I<|.c rfl (LZ (preB a) l (by omega)) I<|.a 4 I<|.k [2,3] I)<|aA<|jF I aQ.pure rfl
theorem xL{E w v}{L:List Nat}{P}(h:dj E w v (cE L)):(Extern.Bytes.bytesOf v).run P w= .ok ⟨(Lib.bytesOf (L.map Int.ofNat)).toArray⟩ w:=by
 unfold cE at h;generalize hn:L.length=n at h;generalize hx:ei L=xs at h;cases h with
 |cg=>
  have:L=[]:=Vy hn;subst this
  rfl
 |empty a c _=>
  have:L=[]:=Vy hn;subst this;simp[Extern.Bytes.bytesOf,Extern.Bytes.loadBytes,Lib.bytesOf]
  rfl
 |slice b off _ c cs _ h0 h1 h2 hb hM hc hl hr=>
  subst hx;have g:∀j x,(L.map Int.ofNat)[j]? =some x->w.cell? ((⟨b,off,none⟩:Addr).add j)=some (.int .u8 x):=λj x hj=>by
   rw[Vt]at hj;obtain⟨y,hy,rfl⟩:=Vr.1 hj;have f:=(Vf.1 hy).1;have e:j<cs.length:=by rw[hl,lr];exact f
   have i:=dt (hr j cs[j] (.raw (Value.int .u8 ((L.getD j 0:Nat):Int))) (Vm e) (rL L j f));have k:=hc j cs[j] (Vm e);rw[Addr.add_lit,k,i];simp[Qo,hy]
  have d:=Lib.run_loadBytesX (P:=P) w (L.map Int.ofNat) ⟨b,off,none⟩ .empty g;rw[Wf,hn]at d;show(Extern.Bytes.loadBytes ⟨b,off,none⟩ n .empty).run P w=_;rw[d];simp[ByteArray.empty,ByteArray.emptyWithCapacity]
  rfl
theorem JM(s:ByteArray):Extern.BytealgCompare.cmp s s=0:=by
 unfold Extern.BytealgCompare.cmp;have h:(List.range (min s.size s.size)).find? (λi=>s[i]! !=s[i]!)=none:=by
  rw[Zh];intro x _;simp
 rw[h];simp
section
variable {σ:bH} {t:cd} {o:Oper}
theorem RG{x y:Operand}{b:Array TypeId}{L:List Nat}(ho:o.op= .call {callee:=.value (.func 204),args:= #[x,y],argTypes:=b})(hx:aI t x=some (cE L))(hy:aI t y=some (cE L)):bE prog σ t o (num 0):=by
 intro F base E ρ w a _ hT;have h1:=xL (P:=prog) (aB a hT hx);have h2:=xL (P:=prog) (aB a hT hy);have c:=run_callFunc_extern (P:=prog) func204 (by kernel_rfl) I (by kernel_rfl) (show Extern.find _=some Extern.BytealgCompare.compare by kernel_rfl) #[ρ x,ρ y] w;have hc:(Extern.BytealgCompare.compare #[ρ x,ρ y]).run prog w= .ok (.int .i64 0) w:=by
  have e:Extern.BytealgCompare.compare #[ρ x,ρ y]=(do pure (goInt (Extern.BytealgCompare.cmp (<-Extern.Bytes.bytesOf (ρ x)) (<-Extern.Bytes.bytesOf (ρ y))))):=rfl;rw[e];simp only[Sem.run_bind,h1,h2,Result.andThen_ok,JM]
  rfl
 rw[hc]at c;have hr:(execOp ρ o).run prog w= .ok (.value (.int .i64 0)) w:=by
  simp only[execOp,ho,resolve,a.func,Deferred.ofValue,invoke];simpa using c
 rw[hr];exact bA (.raw _)
end
theorem Gw(L:List Nat):Can prog 149 [cE L,cE L] (· =num 0):=by
 exact aR func149 I ntmps149 I<|aj (.a 1 I<|.k [0,1] I)<|aj (.a 2 I<|.v (RG I I I) I<|.a 1 I<|.k [4] I)<|aA<|jF I aQ.pure rfl
def nI(a b:cC):Int:=if a.seq<b.seq then -1 else if b.seq<a.seq then 1 else 0
def oa(a b:cC):Prop:=a.cn=b.cn/\(a.seq=b.seq->a.over=b.over/\a.cU=b.cU)
theorem pM(a b:cC)(h:a.Ok)(k:b.Ok)(hs:oa a b):Can prog 106 [dP a,dP b] (· =num (nI a b)):=by
 have l:=dI a h;have m:=dI b k;have i:=rE (a.uk 0) (h.uk (by decide));have j:=rE (b.uk 0) (k.uk (by decide));have ha:=h.gM;have hb:=k.gM;refine aR func106 I ntmps106 I<|aK<|bW (dv I I I) I<|bW (dv I I I) I<|av 1 I<|aF [2,3] I ?_;refine an<|aj (.a 1 I<|.c rfl (l) I<|.a 3 I<|.c rfl (m) I<|.a 2 I<|.k [2,3,18] I)<|ak I (λhc=>?_) (λhc=>?_)
 ·cases hc
 ·refine ao<|an<|aj (.a 5 I<|.k [2,3,23] I)<|ak I (λhc=>?_) (λhc=>?_)
  ·have p:a.seq≠b.seq:=λe=>absurd (by rw[e]) (Vg hc);have g:wA (a.seq:Int) (b.seq:Int)=nI a b:=by unfold wA nI;split<;>split<;>first|rfl|(split<;>first|rfl|omega)|omega
   exact aj (.a 4 I<|.c rfl (g▸zb (a.seq:Int) (b.seq:Int)) I<|.a 1 I<|.k [4] I)<|aA<|jF I aQ.pure rfl
  ·have he:a.seq=b.seq:=by
    have:=Vj hc;omega
   have hn:nI a b=0:=by unfold nI;rw[Vk (by omega),Vk (by omega)]
   have f:b.uk 0=a.uk 0:=by
    obtain⟨c,d⟩:=hs;obtain⟨n,o⟩:=d he;unfold cC.uk;rw[c,he,n,o]
   refine ao ?_;have c:decide ((a.gM:Int)=3600)=false:=VA (by omega);have d:decide ((b.gM:Int)=3600)=false:=VA (by omega);refine ev mixed (by kernel_rfl) (.a 2 I<|.v [30] (cT I (c)) I I<|.a 2 I<|.v [33] (cT I (d)) I I<|.a 2 I<|.k [2,3,5,6] I)<|an<|aj (.a 3 I<|.k [2,3,5,37] I)<|ak I (λhc=>?_) (λhc=>?_)
   ·cases hc
   ·refine ao<|aK<|av 4 I<|aF [2,3] I ?_;refine aj (.a 1 I<|.c rfl (i) I<|.a 5 I<|.k [3,7] I)<|aj (.a 1 I<|.c rfl (j) I<|.a 5 I<|.k [7,9] I) ?_;rw[f];exact aj (.a 2 I<|.c rfl (Gw (l9 (a.uk 0))) I<|.a 1 I<|.k [4] I)<|aA<|jF I aQ.pure (by rw[hn];rfl)
section
variable {σ:bH} {t:cd} {o:Oper}
theorem My{x y l a b q}(ho:o.op= .binOp .neq 131 x y l)(hx:aI t x=some (.agg (jk a)))(hy:aI t y=some (.agg (jk b)))(k:(!decide (a=b))=q):bE prog σ t o (.raw (.bool q)):=by
 intro F base E ρ w c _ hT;have h1:=uu (aB c hT hx);have h2:=uu (aB c hT hy);have hb:(!((a.to:Int)==(b.to:Int)&&((a.lk:Int)==(b.lk:Int)&&(a.co:Int)==(b.co:Int))))=q:=by
  rw[<-k];obtain⟨d,a2,a3⟩:=a;obtain⟨e,f,g⟩:=b;by_cases h:d=e<;>by_cases i:a2=f<;>by_cases j:a3=g<;>simp[h,i,j]<;>omega
 simp only[execOp,ho,h1,h2,Sem.run_bind,run_eqGuard_agg w _ _ _ _ _ _ (show prog.eqGuardType prog.depth 131=false by kernel_rfl),Result.andThen_ok,run_neq_struct,yf,Sem.run_pure,hb];exact bA (.raw _)
end
structure C9 where
 over:Bool
 cU:List gG
 node:Nat
 floor:Nat
 made:Bool
 gM:Nat
def Rj(s:C9):List PV:=[flag s.over,eG s.cU,.slice 0 [],num s.node,num s.floor,flag s.made,num s.gM]
def ri(o:Bool)(l:List gG):PV:=.agg [flag o,eG l,.slice 0 []]
instance (s:C9):aM (Rj s):=by unfold Rj;infer_instance
instance (o:Bool) (l:List gG):IsPure (ri o l):=by unfold ri;infer_instance
def fm(s:C9):Option cj:=some (.cells 192 (Rj s))
theorem Lf(n:Nat)(hn:n<64)(σ:bH):aD prog 53 [num n] σ (λr σ'=>r= .tuple [.ptr σ.length 0,num 0]/\σ'=σ++[fm ⟨false,[],n,0,false,0⟩]):=by
 have a:decide ((n:Int)<0)=false:=VA (by omega);have b:decide ((64:Int)<=(n:Int))=false:=VA (by omega);refine aV func53 I ntmps53 I<|aj (.a 2 I<|.k [0] I)<|an<|aj (.a 1 I<|.v (cT I (a)) I<|.a 2 I<|.v (cT I (b)) I<|.a 1 I<|.k [0,9] I)<|ak I (λhc=>?_) (λhc=>?_)
 ·cases hc
 ·refine ao<|aK<|av 1 I<|aZ (tf (gg (xs:=[_,_,_,_,_,_,_]) I (X8 I) I I) (fv.iV (.cons (WK _)<|.cons Zw<|.cons Zw<|.cons (WK _)<|.cons (WK _)<|.cons (WK _)<|.cons (WK _) .nil))) I<|bW (dv I I I) I<|av 2 I<|aF [2,3] I ?_;exact aA<|⟨_,V5 I,rfl,rfl⟩
theorem qu(o:Bool)(l:List gG)(hl:l.length<=256):Can prog 95 [ri o l] (· =ri o l):=by
 refine aR func95 I ntmps95 I<|aK<|bW (dv I I I) I<|av 1 I<|aF [1,2] I ?_;refine aK<|av 2 I<|fW I (qq l (by omega)) I<|av 2 I<|aF [1,2] I ?_;refine aK<|av 2 I<|fW I (nL) I<|av 2 I<|aF [1,2] I ?_;refine aK<|av 2 I<|aF [2] I ?_;exact aA<|⟨_,ri o l,V5 I,(aQ.pure:aQ _ (ri o l) (ri o l)),rfl⟩
theorem Ni(l m:List gG)(hl:l.length<=256):Can prog 142 [eG l,eG m] (· =flag (decide (l=m))):=by
 refine aR func142 I ntmps142 I<|aj (.a 1 I<|.k [0,1] I)<|an<|aj (.a 5 I<|.k [0,1,10] I)<|ak I (λhc=>?_) (λhc=>?_)
 ·have a:l≠m:=λe=>by subst e;exact absurd rfl (Vg hc)
  exact aj (.a 1 I<|.k [4] I)<|aA<|jF I aQ.pure (by rw[VA a];rfl)
 ·have i:m.length=l.length:=by have:=Vj hc;omega
  refine ao<|an<|aj (.a 3 I<|.k [0,1,12,13] I)<|ay<|eX [0,1,12,13] I<|bq (λr s=>∃k,k<=l.length/\l.take k=m.take k/\r=l.length - k/\s=⟨[(0,eG l),(1,eG m),(12,num l.length),(13,num k)],[]⟩) l.length ⟨0,by omega,rfl,by omega,rfl⟩ ?_;rintro r s ⟨k,hk,he,rfl,rfl⟩;refine aj (.a 1 I<|.k [0,1,12,13,14] I)<|an<|ak I (λhc=>?_) (λhc=>?_)
  ·have hlt:k<l.length:=by have:=Vg hc;omega
   have j:=se hlt (by omega:k<m.length) he;have c:=i1 l k hlt;have d:=i1 m k (by omega);refine ao<|an<|ay<|aj (.a 2 I<|.k [0,1,5,12,13] I) ?_;have⟨n,b⟩:=dw (!decide (l.getD k dK=m.getD k dK));refine ev mixed (by kernel_rfl) (.a 2 I<|.v [16,17] (aX (k*3) I) I I<|.v [18] (gr I (c) I) I I<|.a 2 I<|.v [20,21] (aX (k*3) I (by omega) (by show(k:Int)<(m.length:Int);omega)) I I<|.v [22] (gr I (d) I) I I<|.v [19,23] (My I I I b) I I<|.k [0,1,12,13,24] I)<|ak I (λhc=>?_) (λhc=>?_)
   ·subst hc;have a:l≠m:=λe=>by subst e;simp at b
    exact aj (.a 1 I<|.k [4] I)<|aA<|jF I aQ.pure (by rw[VA a];rfl)
   ·subst hc;have f:=j.2 (by simpa using b);refine ao<|aL (.v (aU I) I<|.a 1 I<|.k [0,1,12,13] I) ?_;exact⟨l.length - (k+1),by omega,k+1,by omega,f,rfl,rfl⟩
  ·have h:k=l.length:=by have:=Vj hc;omega
   have g:l=m:=by rw[h,VN,<-i,VN]at he;exact he
   exact bh<|aj (.a 1 I<|.k [4] I)<|aA<|jF I aQ.pure (by rw[VM g];rfl)
theorem Dv(o p:Bool)(l m:List gG)(hl:l.length<=256):Can prog 94 [ri o l,ri p m] (· =flag (o==p&&decide (l=m))):=by
 have⟨d,b⟩:=dw (o==p);have a:=Ni l m hl;have⟨e,c⟩:=dw (decide (l=m));rw[c]at a;rw[b,c];refine aR func94 I ntmps94 I<|aj (.a 3 I<|.k [2,3] I)<|cD 4 (.raw (.bool (d&&e))) [] I ?_ ?_
 ·refine .a 4 I<|.v (cT I (b)) I<|.a 1 I<|?_;cases d
  ·exact .a 14 I<|.k [4] I
  ·refine .a 4 I<|.c rfl (a) I<|.a 2 I<|?_;cases e
   ·exact .a 7 I<|.k [4] I
   ·exact .a 4 I<|.c rfl (FM) I<|.a 2 I<|.k [4] I
 exact aA<|jF I aQ.pure rfl
theorem vp(s:C9)(o:Bool)(l:List gG)(q g:Nat)(hl:l.length<=256):aD prog 93 [.ptr 0 0,ri o l,num q,num g] [fm s] (λr σ'=>r=dP ⟨s.node,q,g,o,l⟩/\σ'=[fm s]):=by
 refine Xa<|aV func93 I ntmps93 I<|aK<|bW (dv I I I) I<|av 1 I<|aF [0,2,3,5,8] I ?_;refine aK<|av 1 I<|fW I (qu o l hl) I<|av 1 I<|aF [0,2,3,5,8] I ?_;refine lN 13 20 mixed (.val [0] I (aP I) I I<|.val [11] I (aP I) I I<|.val [12] I (aP I) I I<|.val [13] I (aP I) I I<|.val [2] I (aP I) I I<|.val [3] I (aP I) I I<|.val [5] I (aP I) I I<|.val [17] I (aP I) I I<|.val [5] I (aP I) I I<|.val [19] I (aP I) I I<|.val [5] I (aP I) I I<|.val [21] I (aP I) I I<|.val [14,15,16,18,20,22] I (aP I) I I<|.nil) (by kernel_rfl) I I (aJ (ks:=[8,23]) I)<|av 1 I<|aF [8] I ?_;exact aA<|⟨_,V5 I,[fm s],_,rfl,Vh _,.cons (.cells VT) .nil,(Ren.pure:Ren _ (dP ⟨s.node,q,g,o,l⟩) (dP ⟨s.node,q,g,o,l⟩)),rfl,rfl⟩
theorem HT(s:C9)(a:s.floor<2000000000):aD prog 96 [.ptr 0 0] [fm s] (λ_ σ'=>σ'=[fm {s with floor:=s.floor+1,made:=true,gM:=0}]):=by
 refine aV func96 I ntmps96 I<|aK<|av 4 I<|aZ (aU I (hc:=(show(s.floor:Int)+1=((s.floor+1:Nat):Int) by omega))) I<|av 3 I<|aF [0] I ?_;refine bp<|av 8 I<|aF [] I ?_;exact⟨_,V5 I,rfl⟩
theorem HY(o:Bool)(l:List gG)(n f g:Nat)(hg:g<1000):aD prog 66 [.ptr 0 0,num 1] [fm ⟨o,l,n,f,true,g⟩] (λr σ'=>r=flag false/\σ'=[fm ⟨o,l,n,f,true,g+1⟩]):=by
 have a:decide ((1:Int)<=((1800 - g:Nat):Int))=true:=VM (by omega);have b:decide (((1800 - g:Nat):Int)<=1)=false:=VA (by omega);refine aV func66 I ntmps66 I<|aj (.a 1 I<|.k [0,1] I)<|an<|aj (.a 13 I<|.k [0,1,20] I)<|ak I (λhc=>?_) (λhc=>?_)
 ·exact absurd hc (by decide)
 ·refine ao<|aj (.a 1 I<|.k [0,1,5] I)<|an<|aj (.a 4 I<|.v (aU I (hc:=(show(1800:Int) - (g:Int)=((1800 - g:Nat):Int) by omega))) I<|.a 1 I<|.k [0,1,5,6] I)<|aj (.a 1 I<|.v (cT I (a)) I<|.a 3 I<|.v (cT I (b)) I<|.a 8 I<|.k [0,1,5,6,39] I)<|ak I (λhc=>?_) (λhc=>?_)
  ·cases hc
  ·refine ao<|aK<|av 6 I<|aZ (wh I I I (show min (1:Int) 3599=1 by decide)) I<|aZ (aU I (hc:=(show(g:Int)+1=((g+1:Nat):Int) by omega))) I<|aZ (wh I I I (show min ((g+1:Nat):Int) 3599=((g+1:Nat):Int) by omega)) I<|av 3 I<|aF [5] I ?_;exact aj (.a 2 I<|.k [4] I)<|aA<|⟨_,V5 I,rfl,rfl⟩
end
end PW
end Go.Proofs.YtfcadpknnbgibaaGreatDoor
namespace Go.Proofs
section
open Go.Shelf
def Tryz.NY:Go.Shelf.Ren:=⟨λ|10=>194|n=>n,λ|33=>45|23=>156|0=>0|4=>4|26=>3|3=>155|n=>n,λ|n=>n⟩
theorem Tryz.Ul:Go.Proofs.SlLaysZI.n10 prog Tryz.NY:= {
 mixed:=by kernel_rfl
 f10:=⟨Tryz.f194.name,by decide,func194.trans (congrArg some (by kernel_rfl))⟩
 t0:=Tryz.underlying0
 a0:=Tryz.isAgg0
 z0:=Tryz.sizeOf0
 v0:=Tryz.zeroValue0
 t4:=Tryz.underlying4
 a4:=Tryz.isAgg4
 z4:=Tryz.sizeOf4
 v4:=Tryz.zeroValue4
 t23:=Tryz.underlying156
 a23:=Tryz.isAgg156
 z23:=Tryz.sizeOf156
 v23:=Tryz.zeroValue156
 t26:=Tryz.underlying3
 a26:=Tryz.isAgg3
 z26:=Tryz.sizeOf3
 v26:=Tryz.zeroValue3
 t33:=Tryz.underlying45
 a33:=Tryz.isAgg45
 z33:=Tryz.sizeOf45
 v33:=Tryz.zeroValue45}
def Tryz.NZ:Go.Shelf.Ren:=⟨λ|10=>198|n=>n,λ|33=>45|23=>188|0=>0|4=>4|26=>3|3=>210|n=>n,λ|n=>n⟩
theorem Tryz.Um:Go.Proofs.SlLaysZI.n10 prog Tryz.NZ:= {
 mixed:=by kernel_rfl
 f10:=⟨Tryz.f198.name,by decide,func198.trans (congrArg some (by kernel_rfl))⟩
 t0:=Tryz.underlying0
 a0:=Tryz.isAgg0
 z0:=Tryz.sizeOf0
 v0:=Tryz.zeroValue0
 t4:=Tryz.underlying4
 a4:=Tryz.isAgg4
 z4:=Tryz.sizeOf4
 v4:=Tryz.zeroValue4
 t23:=Tryz.underlying188
 a23:=Tryz.isAgg188
 z23:=Tryz.sizeOf188
 v23:=Tryz.zeroValue188
 t26:=Tryz.underlying3
 a26:=Tryz.isAgg3
 z26:=Tryz.sizeOf3
 v26:=Tryz.zeroValue3
 t33:=Tryz.underlying45
 a33:=Tryz.isAgg45
 z33:=Tryz.sizeOf45
 v33:=Tryz.zeroValue45}
def Tryz.N1:Go.Shelf.Ren:=⟨λ|10=>205|n=>n,λ|33=>45|23=>210|0=>0|4=>4|26=>3|3=>208|n=>n,λ|n=>n⟩
theorem Tryz.Un:Go.Proofs.SlLaysZI.n10 prog Tryz.N1:= {
 mixed:=by kernel_rfl
 f10:=⟨Tryz.f205.name,by decide,func205.trans (congrArg some (by kernel_rfl))⟩
 t0:=Tryz.underlying0
 a0:=Tryz.isAgg0
 z0:=Tryz.sizeOf0
 v0:=Tryz.zeroValue0
 t4:=Tryz.underlying4
 a4:=Tryz.isAgg4
 z4:=Tryz.sizeOf4
 v4:=Tryz.zeroValue4
 t23:=Tryz.underlying210
 a23:=Tryz.isAgg210
 z23:=Tryz.sizeOf210
 v23:=Tryz.zeroValue210
 t26:=Tryz.underlying3
 a26:=Tryz.isAgg3
 z26:=Tryz.sizeOf3
 v26:=Tryz.zeroValue3
 t33:=Tryz.underlying45
 a33:=Tryz.isAgg45
 z33:=Tryz.sizeOf45
 v33:=Tryz.zeroValue45}
def Tryz.FD:Go.Shelf.Ren:=⟨λ|6=>136|8=>192|9=>193|11=>230|13=>232|12=>231|23=>253|24=>254|14=>244|15=>245|16=>246|17=>247|18=>248|19=>249|20=>250|21=>251|22=>252|25=>262|26=>263|27=>264|28=>265|29=>266|30=>199|31=>279|n=>n,λ|26=>3|28=>257|24=>49|0=>0|3=>3|37=>271|48=>65|50=>221|4=>4|40=>352|39=>351|45=>160|5=>5|9=>9|51=>364|55=>368|57=>378|58=>272|33=>45|n=>n,λ|n=>n⟩
theorem Tryz.Uo:Go.Proofs.SlLaysZI.n6 prog Tryz.FD:= {
 mixed:=by kernel_rfl
 f6:=⟨Tryz.f136.name,by decide,func136.trans (congrArg some (by kernel_rfl))⟩
 f8:=⟨Tryz.f192.name,by decide,func192.trans (congrArg some (by kernel_rfl))⟩
 f11:=⟨Tryz.f230.name,by decide,func230.trans (congrArg some (by kernel_rfl))⟩
 t0:=Tryz.underlying0
 a0:=Tryz.isAgg0
 z0:=Tryz.sizeOf0
 v0:=Tryz.zeroValue0
 t24:=Tryz.underlying49
 a24:=Tryz.isAgg49
 z24:=Tryz.sizeOf49
 v24:=Tryz.zeroValue49
 t26:=Tryz.underlying3
 a26:=Tryz.isAgg3
 z26:=Tryz.sizeOf3
 v26:=Tryz.zeroValue3
 t28:=Tryz.underlying257
 a28:=Tryz.isAgg257
 z28:=Tryz.sizeOf257
 v28:=Tryz.zeroValue257
 i26:=by kernel_rfl}
def Tryz.N0:Go.Shelf.Ren:=⟨λ|5=>193|8=>232|7=>231|19=>253|20=>254|10=>244|11=>245|12=>246|13=>247|14=>248|15=>249|16=>250|17=>251|18=>252|30=>262|31=>263|32=>264|33=>265|34=>266|35=>199|40=>279|n=>n,λ|23=>49|25=>3|3=>3|32=>271|22=>49|0=>0|44=>65|46=>221|4=>4|36=>352|35=>351|41=>160|5=>5|9=>9|53=>364|57=>368|63=>378|64=>272|n=>n,λ|n=>n⟩
theorem Tryz.TT:Go.Proofs.SlLaysM.n5 prog Tryz.N0:= {
 mixed:=by kernel_rfl
 f5:=⟨Tryz.f193.name,by decide,func193.trans (congrArg some (by kernel_rfl))⟩
 f7:=⟨Tryz.f231.name,by decide,func231.trans (congrArg some (by kernel_rfl))⟩
 f8:=func232.trans (congrArg some (by kernel_rfl))
 f10:=⟨Tryz.f244.name,by decide,func244.trans (congrArg some (by kernel_rfl))⟩
 f11:=⟨Tryz.f245.name,by decide,func245.trans (congrArg some (by kernel_rfl))⟩
 f12:=⟨Tryz.f246.name,by decide,func246.trans (congrArg some (by kernel_rfl))⟩
 f13:=⟨Tryz.f247.name,by decide,func247.trans (congrArg some (by kernel_rfl))⟩
 f14:=⟨Tryz.f248.name,by decide,func248.trans (congrArg some (by kernel_rfl))⟩
 f15:=⟨Tryz.f249.name,by decide,func249.trans (congrArg some (by kernel_rfl))⟩
 f16:=⟨Tryz.f250.name,by decide,func250.trans (congrArg some (by kernel_rfl))⟩
 f17:=⟨Tryz.f251.name,by decide,func251.trans (congrArg some (by kernel_rfl))⟩
 f18:=⟨Tryz.f252.name,by decide,func252.trans (congrArg some (by kernel_rfl))⟩
 f19:=func253.trans (congrArg some (by kernel_rfl))
 f20:=func254.trans (congrArg some (by kernel_rfl))
 f30:=⟨Tryz.f262.name,by decide,func262.trans (congrArg some (by kernel_rfl))⟩
 f31:=func263.trans (congrArg some (by kernel_rfl))
 f32:=func264.trans (congrArg some (by kernel_rfl))
 f33:=⟨Tryz.f265.name,by decide,func265.trans (congrArg some (by kernel_rfl))⟩
 f34:=⟨Tryz.f266.name,by decide,func266.trans (congrArg some (by kernel_rfl))⟩
 f35:=⟨Tryz.f199.name,by decide,func199.trans (congrArg some (by kernel_rfl))⟩
 f40:=⟨Tryz.f279.name,by decide,func279.trans (congrArg some (by kernel_rfl))⟩
 t0:=Tryz.underlying0
 a0:=Tryz.isAgg0
 z0:=Tryz.sizeOf0
 v0:=Tryz.zeroValue0
 t3:=Tryz.underlying3
 a3:=Tryz.isAgg3
 z3:=Tryz.sizeOf3
 v3:=Tryz.zeroValue3
 t4:=Tryz.underlying4
 a4:=Tryz.isAgg4
 z4:=Tryz.sizeOf4
 v4:=Tryz.zeroValue4
 t5:=Tryz.underlying5
 a5:=Tryz.isAgg5
 z5:=Tryz.sizeOf5
 v5:=Tryz.zeroValue5
 t9:=Tryz.underlying9
 a9:=Tryz.isAgg9
 z9:=Tryz.sizeOf9
 v9:=Tryz.zeroValue9
 t22:=Tryz.underlying49
 a22:=Tryz.isAgg49
 z22:=Tryz.sizeOf49
 v22:=Tryz.zeroValue49
 t23:=Tryz.underlying49
 a23:=Tryz.isAgg49
 z23:=Tryz.sizeOf49
 v23:=Tryz.zeroValue49
 t25:=Tryz.underlying3
 a25:=Tryz.isAgg3
 z25:=Tryz.sizeOf3
 v25:=Tryz.zeroValue3
 t32:=Tryz.underlying271
 a32:=Tryz.isAgg271
 z32:=Tryz.sizeOf271
 v32:=Tryz.zeroValue271
 t35:=Tryz.underlying351
 a35:=Tryz.isAgg351
 z35:=Tryz.sizeOf351
 v35:=Tryz.zeroValue351
 t36:=Tryz.underlying352
 a36:=Tryz.isAgg352
 z36:=Tryz.sizeOf352
 v36:=Tryz.zeroValue352
 t41:=Tryz.underlying160
 a41:=Tryz.isAgg160
 z41:=Tryz.sizeOf160
 v41:=Tryz.zeroValue160
 t44:=Tryz.underlying65
 a44:=Tryz.isAgg65
 z44:=Tryz.sizeOf65
 v44:=Tryz.zeroValue65
 t46:=Tryz.underlying221
 a46:=Tryz.isAgg221
 z46:=Tryz.sizeOf221
 v46:=Tryz.zeroValue221
 t53:=Tryz.underlying364
 a53:=Tryz.isAgg364
 z53:=Tryz.sizeOf364
 v53:=Tryz.zeroValue364
 t57:=Tryz.underlying368
 a57:=Tryz.isAgg368
 z57:=Tryz.sizeOf368
 v57:=Tryz.zeroValue368
 t63:=Tryz.underlying378
 a63:=Tryz.isAgg378
 z63:=Tryz.sizeOf378
 v63:=Tryz.zeroValue378
 t64:=Tryz.underlying272
 a64:=Tryz.isAgg272
 z64:=Tryz.sizeOf272
 v64:=Tryz.zeroValue272}
end
end Go.Proofs
namespace Go.Proofs.YtfcadpknnbgibaaGreatDoor
open Go.Proofs.Tryz
namespace PW
section
open Go.RowKit Go.Maps Go.Sort Go.Shelf cm Mem
theorem Rx(m:Nat):AnyZI.SortsIn prog Tryz.FD Fence.wide m:=
  ⟨λblk off cap ss W hH a b => callsIn_wide.2 (AnyM.slices_Sort_int Tryz.TT blk off cap ss W hH a b),λp cap W=>callsIn_wide.2 (AnyM.slices_Sort_int_none Tryz.TT p cap W)⟩
def pn(l:List Int):List Int:=l.mergeSort leI
theorem yn(l:List Int):(pn l).length=l.length:=by simp[pn]
theorem sL{l:List Int}{x:Int}:x∈pn l↔x∈l:=(List.mergeSort_perm l leI).mem_iff
theorem Ph{ρ:Go.Shelf.Ren}{f1:Nat}(L:SlLaysZI.n10 prog ρ)(J:ρ.t 26=3)(H:ρ.f 10=f1)(u:∀args w,(callFunc f1 args).run prog w= .ok (.enter f1 args) w)(w:World)(f b:Nat)(hlt:f<w.heap.size)(t:w.cell? ⟨f,0,none⟩=some (.map (some b))){a:Array MapEntry}{clock:Nat}(hb:w.heap[b]? =some (.map a clock)){ks:List Int}(hk:a.toList.map (·.key)=ks.map encZ)(A:MapKept.Stamped a clock)(hr:∀k∈ks,0<=k/\k<1000)(hl:ks.length<=1000):
  Calls prog 136 #[.func (.func f1) #[] #[.pointer (some ⟨f,0,none⟩)]] w λe w'=>∃v,e= .returned v/\Ext w w'/\w'.ownsRow w.heap.size 3 1 v ks.length ((pn ks).map encZ):=by
 let R:Value->Option (DataW Unit×List MemPlace):=λ_=>some (.nil,[])
 have B:a.size=ks.length:=by have:=V1 List.length hk;simpa using this
 have hu:prog.underlying 3=some (.int .i64):=Tryz.underlying3;have r:∀x∈a.toList,∃k∈ks,x.key=encZ k/\WideElems.rd prog 3 R x=some (.int .i64 k,.nil):=λx hx=>by
  have hm:x.key∈ks.map encZ:=by rw[<-hk];exact Vv.2 ⟨x,hx,rfl⟩
  obtain⟨k,g,i⟩:=Vv.1 hm;have:=hr k g;obtain⟨key,val,born⟩:=x;simp only at i;subst i;have h0:=WideElems.rd_mk (P:=prog) (k:=3) (R:=R) (key:=encZ k) (val:=val) (born:=born) (yv:=(DataW.nil,[])) (Maps.keyOf_int_mk hu (WalkArith.wf_i64 (n:=k) (by omega))) I;exact⟨k,g,rfl,h0⟩
 have F:WideElems.Fit prog 3 R a clock:=⟨by unfold maxLen;omega,A,λx hx=>by obtain⟨k,_,_,h⟩:=r x hx;exact⟨_,h⟩⟩;have o:w.ownsMap prog 3 R b a.size (.map ((a.toList.map (WideElems.rg prog 3 R)).foldr DataW.insert [])):=⟨a,clock,hb,F,Vh _,rfl⟩;have hp:=WideShapes.sorted_perm (a.toList.map (WideElems.rg prog 3 R));have hks:(a.toList.map (WideElems.rg prog 3 R)).map (λp=>_root_.Go.intOf p.1)=ks:=by
  have D:∀(l:List MapEntry) (m:List Int),l.map (·.key)=m.map encZ->(∀x∈l,x∈a.toList)->(l.map (WideElems.rg prog 3 R)).map (λp=>_root_.Go.intOf p.1)=m:=λl=>by
   induction l with
   |nil=>intro m h _;cases m with|nil=>rfl|cons=>simp at h
   |cons x l ih=>
    intro m h hm;cases m with
    |nil=>simp at h
    |cons k m=>
     simp only[VX,Ys]at h;obtain⟨K,_,h1,h2⟩:=r x (hm x (VC ..));have s:encZ K=encZ k:=h1.symm.trans h.1;injection s with _ s;subst s;simp only[VX,WideElems.rg_of h2,ih m h.2 (λy hy=>hm y (VB _ hy))]
     rfl
  exact D a.toList ks hk (λ_ h=>h)
 have z:(intKeys (.map ((a.toList.map (WideElems.rg prog 3 R)).foldr DataW.insert []))).Perm ks:=by
  have:=hp.map (λp:Lit×DataW Unit=>_root_.Go.intOf p.1);rw[hks]at this;exact this
 have j:Maps.size (.map ((a.toList.map (WideElems.rg prog 3 R)).foldr DataW.insert []))=ks.length:=by
  show((a.toList.map (WideElems.rg prog 3 R)).foldr DataW.insert []).length=_;rw[hp.length_eq,Wf,V3,B]
 have d:=AnyZI.keys_gives L Fence.wide 2 trivial rfl (by omega) f b a.size _ w hlt t (by rw[J];exact o);rw[H]at d;have C:=AnyZI.sorted_in Tryz.Uo Fence.wide 5 trivial trivial trivial trivial rfl (by omega) (Rx _) (enters_of func193 (by kernel_rfl) I) f1 #[.pointer (some ⟨f,0,none⟩)] trivial u _ _ (by rw[j];unfold maxLen;omega) (by rw[j];omega) w d;refine(callsIn_wide.1 C).mono ?_;rintro e w' ⟨v,ss,rfl,G,c,_,E⟩;have q:=G.trans z;rw[mergeSort_of_perm_i q,q.length_eq]at c;exact⟨v,rfl,E,c⟩
theorem Eg{base:Nat}{E}{w w':World}{F:Nat->Prop}{σ}(f:Sat F base σ E w){e v}{n:Nat}{cs xs}(h:w'.ownsRow w.heap.size e 1 v n cs)(b:bn E w' cs xs):dj E w' v (.slice n xs):=by
 rcases h.2 with⟨rfl,rfl⟩|⟨g,cap,cur,rfl,h1,h2,d,c,i,k⟩
 ·have:xs=[]:=by
   have a:=h.1;rw[b.1]at a;exact Vy (by simpa using a)
  subst this;exact .cg
 ·rcases Xz n with h0|h0
  ·subst h0;have:xs=[]:=by
    have a:=h.1;rw[b.1]at a;exact Vy (by simpa using a)
   subst this;exact .empty _ _ c
  ·refine .slice g 0 n cap cs xs h0 d c (Vs.1 h2).1 (λhM=>by have:=f.lt hM;omega) (λj x hx=>?_) b.1 b.2;have:=h.cells (g:=g) I j x hx;rw[Addr.add_lit]at this;exact this
section
variable {σ:bH} {t:cd} {o:Oper} {Φ:ux}
theorem wj[hP:Has prog Φ]{ρ:Go.Shelf.Ren}{f1 i j:Nat}{T}{kv:List (Int×PV)}(L:SlLaysZI.n10 prog ρ)(ht:ρ.t 26=3)(hf:ρ.f 10=f1)(K:enters prog f1=true)(h:oQ Φ t o.op=some (136,[.func f1 [.ptr j 0]]))(hj:σ[j]? =some (some (.cells T [.own i])))(hi:σ[i]? =some (some (.mp (bD encZ kv))))(hr:∀x∈kv,0<=x.1/\x.1<1000)(hl:kv.length<=1000):
  bE prog σ t o (bm (pn (kv.map (·.1)))):=by
 obtain⟨x,b,X,cap,V,ho,M,U,ha,P⟩:=kV hP.ok h;intro F base E W w B H hT;have h1:=aB B hT U;have h2:=jO B hT ha;generalize hz:W x=z at h1;cases h1 with
 |func _ cs _ N S=>
  rw[iS M ho hz w];refine⟨XH _,?_⟩;have G:bn E w (b.map W++cs).toList (V++cap):=by
   rw[XW,XE];exact h2.append ⟨by simpa using N,λi x u k1 C=>S i x u (by simpa using k1) C⟩
  rw[P]at G;generalize b.map W++cs=vs at G;obtain⟨v,rfl,hv⟩:=R7 G;cases hv with
  |func _ ds _ O p=>
   obtain⟨dl⟩:=ds
   match dl,O,p with
   | [d],_,p=>
    have hd:=p 0 d _ rfl rfl;cases hd with
    |ptr _ _ bb aa f=>
     obtain⟨Y,D,s,_,c,m⟩:=H.blk j _ hj;have J:bb=Y:=by rw[s]at f;rcases f with f|⟨_,_,f⟩<;>cases f;rfl
     subst J;obtain⟨Z⟩:=D
     match Z,m with
     | [u],m=>
      have hu:=m.2 0 u _ rfl rfl;obtain⟨r,es,ck,Q,_,R,A,_⟩:=H.blk i _ hi;cases hu with
      |own _ _ _ g _=>
       rw[Q]at g;subst g;have n:es.toList.map (·.key)=(kv.map (·.1)).map encZ:=by rw[A.1];simp[bD]
       have hc:=Ph L ht hf (λb w=>rY K b w) w bb r (Vs.1 c).1 (by unfold World.cell?;simp only[c];rfl) R n A.2 (λk hk=>by
        obtain⟨y,hy,rfl⟩:=Vv.1 hk;exact hr y hy) (by simpa using hl)
       refine hc.mono ?_;rintro e w' ⟨v,rfl,hE,l⟩;refine⟨v,rfl,hE,?_⟩;rw[<-yn]at l;exact Eg H l ⟨by simp[cb],λi x u k1 C=>by
        simp only[cb,Vt,Vr]at k1 C;obtain⟨a,ha,rfl⟩:=k1;obtain⟨a',q,rfl⟩:=C;rw[ha]at q;cases q;exact .raw _⟩
end
theorem GH(σ:bH)(i:Nat):aD prog 137 [.own i] σ (λr σ'=>r= .func 194 [.ptr σ.length 0]/\σ'=σ++[some (.cells 156 [.own i])]):=by
 refine aV func137 I ntmps137 I<|aK<|bW (dv (xs:=[_]) I I I) I<|av 1 I<|aF [1] I ?_;exact aj (.a 2 I<|.k [2] I)<|aA<|⟨_,V5 I,rfl,rfl⟩
end
section
open Go.RowKit cm Mem
def HS(p l:Nat):Prop:=(p=0/\l=0)\/((p=1\/p=2)/\1<=l/\l<=65536)
def xr(p l:Nat):List PV:=[num p,num l]
def p9(p l:Nat):PV:=.agg (xr p l)
def ts(a b:Nat):Nat:=if a=2 then(if b=2 then 0 else 2) else if b=2 then 1 else 0
instance (p l:Nat):aM (xr p l):=by unfold xr;infer_instance
instance (p l:Nat):IsPure (p9 p l):=by unfold p9;infer_instance
theorem vg(p l:Nat)(h:HS p l):Can prog 101 [p9 p l] (· =flag true):=by
 refine aR func101 I ntmps101 I<|aj (.a 2 I<|.k [1] I)<|an<|aj (.a 2 I<|.k [1,4] I)<|ay<|aj (.a 2 I<|.k [1,4,5] I)<|ak I (λhc=>?_) (λhc=>?_)
 ·have hp:p=0:=by have:=Vg hc;omega
  have hl:l=0:=by unfold HS at h;omega
  subst hl;exact aj (.a 4 I<|.k [2] I)<|aA<|jF I aQ.pure rfl
 ·have hp:p≠0:=by have:=Vj hc;omega
  obtain⟨h1,h2,c⟩:(p=1\/p=2)/\1<=l/\l<=65536:=by unfold HS at h;omega
  refine an<|aj (.a 2 I<|.k [1,4,10] I)<|ak I (λhc=>?_) (λhc=>?_)
  ·refine ao<|ak I (λhc=>?_) (λhc=>?_)
   ·have a:decide ((1:Int)<=(l:Int))=true:=VM (by omega);have b:decide ((l:Int)<=65536)=true:=VM (by omega);exact aj (.a 2 I<|.v (cT I (a)) I<|.a 3 I<|.v (cT I (b)) I<|.a 2 I<|.k [2] I)<|aA<|jF I aQ.pure rfl
   ·refine ao<|aj (.a 1 I<|.k [2] I)<|aA ?_;exfalso;rcases h1 with rfl|rfl<;>simp_all
  ·refine aL (.a 2 I<|.k [1,10] I)<|ak I (λhc=>?_) (λhc=>?_)
   ·have a:decide ((1:Int)<=(l:Int))=true:=VM (by omega);have b:decide ((l:Int)<=65536)=true:=VM (by omega);exact aj (.a 2 I<|.v (cT I (a)) I<|.a 3 I<|.v (cT I (b)) I<|.a 2 I<|.k [2] I)<|aA<|jF I aQ.pure rfl
   ·refine ao<|aj (.a 1 I<|.k [2] I)<|aA ?_;exfalso;rcases h1 with rfl|rfl<;>simp_all
theorem Fy(n:Nat)(a b:Bool)(w:World):(Op.equalIn (n+1) 4 (.bool a) (.bool b)).run prog w= .ok (a==b) w:=by
 simp only[Op.equalIn,Sem.run_bind,run_underlying Tryz.underlying4,Result.andThen_ok,Sem.run_pure]
theorem sQ(a b:Bool)(w:World):(Go.part 4 #[.bool a,.bool b] 0).run prog w= .ok (.bool a) w/\(Go.part 4 #[.bool a,.bool b] 1).run prog w= .ok (.bool b) w:=by
 have c:(isAgg 4).run prog w= .ok false w:=by simp[isAgg,run_underlying Tryz.underlying4]
 exact⟨by simp[Go.part,c],by simp[Go.part,c]⟩
theorem LS(n:Nat)(a b c d:Bool)(w:World):(Op.equalIn (n+1+1) 314 (.agg #[.bool a,.bool b]) (.agg #[.bool c,.bool d])).run prog w= .ok (a==c&&b==d) w:=by
 obtain⟨i,hi⟩:∃i,prog.info? 4=some i:=Option.isSome_iff_exists.1 (by kernel_rfl);rw[run_equalIn_array w (n+1) _ _ Tryz.underlying314 hi,show prog.cellsOf 4=1 by kernel_rfl];show(Op.eqItems (n+1) 4 1 _ _ [0,1]).run prog w=_;simp only[Op.eqItems,Sem.run_bind,Xt,(sQ _ _ w).1,(sQ _ _ w).2,Result.andThen_ok,Fy,Sem.run_pure];cases a<;>cases b<;>cases c<;>cases d<;>simp[Op.eqItems,Sem.run_bind,(sQ _ _ w).2,Fy]
theorem SR{σ t}{o:Oper}{x y i a b c d q}(ho:o.op= .binOp .eql 314 x y i)(hx:aI t x=some (.agg [flag a,flag b]))(hy:aI t y=some (.agg [flag c,flag d]))(g:(a==c&&b==d)=q):bE prog σ t o (.raw (.bool q)):=by
 intro F base E ρ w e _ hT;have key:∀ {v:Value} {a b:Bool},dj E w v (.agg [flag a,flag b])->v= .agg #[.bool a,.bool b]:=λ{v a b} h=>by
  cases h with
  |agg cs _ hl hr=>
   obtain⟨l⟩:=cs
   match l,hl,hr with
   | [u,z],_,hr=>
    have h0:=dt (hr 0 u _ rfl rfl);have h1:=dt (hr 1 z _ rfl rfl);subst h0;subst h1;rfl
   | [],hl,_=>simp at hl
   | [_],hl,_=>simp at hl
   |_::_::_::_,hl,_=>simp at hl
 have h1:=key (aB e hT hx);have h2:=key (aB e hT hy);have f:(Op.equalIn 10000 314 (.agg #[.bool a,.bool b]) (.agg #[.bool c,.bool d])).run prog w= .ok (a==c&&b==d) w:=by
  rw[show(10000:Nat)=9998+1+1 from rfl];exact LS 9998 a b c d w
 simp only[execOp,ho,h1,h2,Sem.run_bind,run_eqGuard_agg w _ _ _ _ _ _ (show prog.eqGuardType prog.depth 314=false by kernel_rfl),Result.andThen_ok,run_eql_struct,f,Sem.run_pure,g];exact bA (.raw _)
def Sj(P:Program)(ty:TypeId):Option (Nat×List Value):=match P.info? ty,P.underlying ty with
 |some it,some (.array _ e)=>match it.zero,P.info? e with
  |some z,some a=>some (a.size,z.cells.toList)
  |_,_=>none
 |_,_=>none
theorem lH{P σ t}{o:Oper}{ty s}{parts:Array (Nat×Operand)}{zero:List Value}{ps:List (Nat×List PV)}{xs}(ho:o.op= .build ty parts)(hk:Sj P ty=some (s,zero))(hp:j7 t parts.toList=some ps)
  (h:mC (λi=>some (i*s,s)) (zero.map .raw) ps=some xs):bE P σ t o (.agg xs):=by
 intro F base E ρ w f k hT;obtain⟨h1,h2⟩:=mA f hT parts.toList ps hp;have j:bn E w zero.toArray.toList (zero.map .raw):=⟨by simp,λi x u k1 b=>by
  simp only[Vt,Vr]at b;obtain⟨y,hy,rfl⟩:=b;simp only at k1;rw[hy]at k1;cases k1;exact .raw _⟩
 obtain⟨cs,hc,g⟩:=oV (λi=>some (i*s,s)) _ ps zero.toArray _ xs j h1 h2 h;have hb:P.built ty ((parts.map fun(i,x)=>(i,ρ x)).toList)=some cs:=by
  unfold Sj at hk;split at hk
  ·rename_i it n e Q8 hu;split at hk
   ·rename_i z l d c;cases hk;simp only[Program.built,Q8,hu,d,c,XE];simpa using hc
   ·cases hk
  ·cases hk
 have a:=run_build (P:=P) w ty (parts.map fun(i,x)=>(i,ρ x)) cs hb;simp only[execOp,ho,Sem.run_bind,a,Result.andThen_ok,Sem.run_pure];exact bA (.agg cs xs (by have:=g.1;rw[V3]at this;exact this) (λi x u k1 b=>g.2 i x u (by simpa using k1) b))
theorem Tt:Sj prog 314=some (1,[.bool false,.bool false]):=by kernel_rfl
theorem xh(a b:Nat):Can prog 144 [num a,num b] (· =num (ts a b)):=by
 have⟨p,hp⟩:=dw (decide ((a:Int)=2));have⟨q,d⟩:=dw (decide ((b:Int)=2));have g:ts a b=if p then(if q then 0 else 2) else if q then 1 else 0:=by
  unfold ts;have e:(a=2)=(p=true):=by rw[<-hp];simp;omega
  have f:(b=2)=(q=true):=by rw[<-d];simp;omega
  simp only[e,f]
 rw[g];refine aR func144 I ntmps144 I<|aj (.a 1 I<|.k [0,1] I)<|an<|aj (.a 1 I<|.v (cT I (hp)) I<|.a 1 I<|.v (cT I (d)) I<|.v (lH (xs:=[_,_]) I Tt rfl rfl) I<|.k [9] I)<|ay<|aj (.v (lH (xs:=[_,_]) I Tt rfl rfl) I<|.v (SR I I I I) I<|.a 1 I<|.k [9,10] I)<|ak I (λhc=>?_) (λhc=>?_)
 ·exact aj (.a 1 I<|.k [4] I)<|aA<|jF I aQ.pure (by cases p<;>cases q<;>first|rfl|(exact absurd hc (by decide)))
 ·refine aj (.v (lH (xs:=[_,_]) I Tt rfl rfl) I<|.v (SR I I I I) I<|.a 1 I<|.k [13] I)<|ak I (λhc=>?_) (λc=>?_)
  ·exact aj (.a 1 I<|.k [4] I)<|aA<|jF I aQ.pure (by cases p<;>cases q<;>first|rfl|(exact absurd hc (by decide)))
  ·exact ao<|aj (.a 1 I<|.k [4] I)<|aA<|jF I aQ.pure (by cases p<;>cases q<;>first|rfl|(exact absurd hc (by decide))|(exact absurd c (by decide)))
theorem Ho(p l:Nat)(h:HS p l)(s:Bool):Can prog 116 [p9 p l,flag s,num 3] (· = .tuple [p9 (if s then 2 else 1) 3,num (ts p (if s then 2 else 1)),num 0]):=by
 have hv:=vg p l h;refine aR func116 I ntmps116 I<|aK<|av 4 I<|aF [1,2,3,6] I ?_;refine an<|aj (.a 1 I<|.c rfl (hv) I<|.a 9 I<|.k [1,2,3,6,20] I)<|ak I (λhc=>?_) (λhc=>?_)
 ·exact absurd hc (by decide)
 ·refine ao<|aK<|av 4 I<|aF [1,3,6,9] I ?_;refine an<|aj (.a 1 I<|.k [3,6,9,24] I)<|ak I (λhc=>?_) (λhc=>?_)
  ·subst hc;refine bp<|av 2 I<|aF [3,6,9] I ?_;first
    |refine dY (σ':=[some (.cells 82 (xr 0 0)),some (.cells 82 (xr 2 3))]) I ?_
    |refine dY (σ':=[some (.cells 82 (xr 0 0)),some (.cells 82 (xr 1 3))]) I ?_
   refine lN 6 20 mixed (.val [9] I (aP I) I I<|.val [3] I (aP I) I I<|.val [27] I (aP I) I I<|.val [9] I (aP I) I I<|.val [29] I (aP I) I I<|.val [28,30] I (dW I (xh _ _)) I I<|.nil) (by kernel_rfl) I I (aJ (ks:=[6,26,31]) I)<|av 3 I<|aF [6,7,8] I ?_;refine aA ?_;first
    |exact⟨_,.tuple [p9 2 3,num (ts p 2),num 0],V5 rfl,(aQ.pure:aQ _ (.tuple [p9 2 3,num (ts p 2),num 0]) (.tuple [p9 2 3,num (ts p 2),num 0])),rfl⟩
    |exact⟨_,.tuple [p9 1 3,num (ts p 1),num 0],V5 rfl,(aQ.pure:aQ _ (.tuple [p9 1 3,num (ts p 1),num 0]) (.tuple [p9 1 3,num (ts p 1),num 0])),rfl⟩
  ·subst hc;refine ao ?_;first
    |refine dY (σ':=[some (.cells 82 (xr 0 0)),some (.cells 82 (xr 2 3))]) I ?_
    |refine dY (σ':=[some (.cells 82 (xr 0 0)),some (.cells 82 (xr 1 3))]) I ?_
   refine lN 6 20 mixed (.val [9] I (aP I) I I<|.val [3] I (aP I) I I<|.val [27] I (aP I) I I<|.val [9] I (aP I) I I<|.val [29] I (aP I) I I<|.val [28,30] I (dW I (xh _ _)) I I<|.nil) (by kernel_rfl) I I (aJ (ks:=[6,26,31]) I)<|av 3 I<|aF [6,7,8] I ?_;refine aA ?_;first
    |exact⟨_,.tuple [p9 2 3,num (ts p 2),num 0],V5 rfl,(aQ.pure:aQ _ (.tuple [p9 2 3,num (ts p 2),num 0]) (.tuple [p9 2 3,num (ts p 2),num 0])),rfl⟩
    |exact⟨_,.tuple [p9 1 3,num (ts p 1),num 0],V5 rfl,(aQ.pure:aQ _ (.tuple [p9 1 3,num (ts p 1),num 0]) (.tuple [p9 1 3,num (ts p 1),num 0])),rfl⟩
theorem Hp(p l:Nat)(h:HS p l)(hl:p=0\/2<=l):Can prog 62 [p9 p l,num 1] (· = .tuple [p9 p (if p=0 then 0 else l - 1),num 0,num 0]):=by
 have hv:=vg p l h;refine aR func62 I ntmps62 I<|aK<|av 4 I<|aF [1,2,4] I ?_;refine an<|aj (.a 1 I<|.c rfl (hv) I<|.a 1 I<|.k [1,2,4,9] I)<|ak I (λhc=>?_) (λhc=>?_)
 ·exact absurd hc (by decide)
 ·refine ao<|an ?_;have⟨e,b⟩:=dw (decide ((p:Int)=0));refine aj (.a 5 I<|.v (cT I (b)) I<|.a 1 I<|.k [1,2,4,17] I)<|ak I (λhc=>?_) (λhc=>?_)
  ·have a:p=0:=by have:=Vg (b.trans hc);omega
   have c:l=0:=by unfold HS at h;omega
   subst a;subst c;refine aK<|av 4 I<|aF [4,5,6] I ?_;exact aA<|⟨_,.tuple [p9 0 0,num 0,num 0],V5 I,(aQ.pure:aQ _ (.tuple [p9 0 0,num 0,num 0]) (.tuple [p9 0 0,num 0,num 0])),rfl⟩
  ·have d:l<=65536:=by unfold HS at h;omega
   have a:p≠0:=by have:=Vj (b.trans hc);omega
   refine ao<|an<|aj (.a 4 I<|.k [1,2,4,22] I)<|ak I (λhc=>?_) (λhc=>?_)
   ·exact absurd (Vg hc) (by omega)
   ·refine ao<|aK<|av 5 I<|aZ (aU I (hc:=(show(l:Int) - 1=((l - 1:Nat):Int) by omega))) I<|av 4 I<|aF [4,5,6] I ?_;exact aA<|⟨_,.tuple [p9 p (l - 1),num 0,num 0],V5 I,(aQ.pure:aQ _ (.tuple [p9 p (l - 1),num 0,num 0]) (.tuple [p9 p (l - 1),num 0,num 0])),by rw[Vk a]⟩
end
end PW
namespace iF
section
open Go.RowKit Go.Shelf cm
structure Rest (a b:Nat) (w w':World):Prop where
 os:w'.os=w.os
 tape:w'.tape=w.tape
 output:w'.output=w.output
 size:w.heap.size<=w'.heap.size
 block:∀k,k<w.heap.size->(k<a\/b<=k)->w'.heap[k]? =w.heap[k]?
 cells:∀(k:Nat) (o:Obj),w.heap[k]? =some o->o.isCells=true->w'.heap[k]? =some o
theorem Rest.trans{a b:Nat}{w w' c}(h:Rest a b w w')(k:Rest a b w' c):Rest a b w c:=
 ⟨k.os.trans h.os,k.tape.trans h.tape,k.output.trans h.output,VL h.size k.size,λj h1 h2=>(k.block j (VS h1 h.size) h2).trans (h.block j h1 h2),λj o h1 h2=>k.cells j o (h.cells j o h1 h2) h2⟩
theorem Rest.wide{a b c b':Nat}{w w'}(h:Rest a b w w')(h1:c<=a)(h2:b<=b'):Rest c b' w w':=
 ⟨h.os,h.tape,h.output,h.size,λk k1 d=>h.block k k1 (by omega),h.cells⟩
theorem Rest.put{a b l:Nat}{w:World}{o d:Obj}(h0:w.heap[l]? =some d)(hc:d.isCells=false)(h1:a<=l)(h2:l<b):Rest a b w (w.putObj l o):=
 ⟨rfl,rfl,rfl,by simp,λk _ c=>World.putObj_heap_other (by omega),λk o1 k1 c=>(World.putObj_heap_other (λe=>by subst e;rw[h0]at k1;cases k1;rw[hc]at c;cases c)).trans k1⟩
structure Gj (O:Nat->Prop) (A B:World):Prop where
 os:B.os=A.os
 tape:B.tape=A.tape
 output:B.output=A.output
 size:A.heap.size<=B.heap.size
 block:∀b,b<A.heap.size->¬O b->B.heap[b]? =A.heap[b]?
 cells:∀(b:Nat) (o:Obj),A.heap[b]? =some o->o.isCells=true->B.heap[b]? =some o
def Td(O:Nat->Prop)(A B:World)(a:Nat->Prop):Prop:=∀b,a b↔O b\/(A.heap.size<=b/\b<B.heap.size)
theorem Gj.trans{O a:Nat->Prop}{A B C}(h:Gj O A B)(k:Gj a B C)(c:Td O A B a):Gj O A C:=
 ⟨k.os.trans h.os,k.tape.trans h.tape,k.output.trans h.output,VL h.size k.size,λb hb hn=>(k.block b (VS hb h.size) (λe=>((c b).1 e).elim hn (λe=>by omega))).trans (h.block b hb hn),λb o hb hc=>k.cells b o (h.cells b o hb hc) hc⟩
end
end iF
namespace PW
section
open Go.RowKit cm Mem
section
variable {P:Program} {ops:Array Oper} {n:Nat}
theorem OF{o:Oper}{a w}{K i:Act->World->Prop}{Q Q':Exit->Act->World->Prop}(g:∀a w,K a w->i a w)(hp:∀c a w,Q (.panic c) a w->Q' (.panic c) a w)(j:¬LetsOut Q)(h:o.wp P a w K Q):o.wpIn Fence.wide n P a w i Q':=by
 refine⟨λ_ _=>trivial,?_⟩;rw[show Fence.wide.round=none from rfl,Oper.semAt_none];unfold Oper.wp at h;generalize (execOp a.eval o).run P w=x at*;cases x with
 |ok x w'=>
  cases x<;>simp only[Oper.uponIn,Oper.upon]at h ⊢
  case value v=>exact g _ _ h
  case skip=>exact g _ _ h
  case defer d=>exact g _ _ h
  case enter f b=>exact⟨λh=>by simp[Fence.wide]at h,callsIn_wide.2 (h.mono λe k he=>by cases e<;>first|exact g _ _ he|exact hp _ _ _ he|exact(j he).elim)⟩
  case row r b=>exact⟨λh=>by simp[Fence.wide]at h,λc cs _=>by
   obtain⟨v,w',r,s⟩:=h c cs;exact⟨v,w',g _ _ r,stepsIn_wide.2 s⟩⟩
  all_goals exact h.elim
 |halt x w'=>cases x<;>simp only[Oper.uponIn,Oper.upon]at h ⊢ <;>first|exact hp _ _ _ h|exact h
section
variable {f m:Nat} (hB:Du ops f m=true)
include hB
theorem sn{Q:Exit->Act->World->Prop}:∀(r k:Nat) (a:Act) (w:World),k+r=ops.size->m<=k->wpOpsIn Fence.wide n P ops Q (List.range' k r) a w->wpAnyIn Fence.wide n P .any ops Q r (upto ops.size k) a w
 |0,k,a,w,hk,_,h=>by
  obtain rfl:k=ops.size:=by omega
  exact⟨xX,h⟩
 |r+1,k,a,w,hk,hm,h=>by
  have hr:=vC hB k (by omega) hm;refine⟨λh0=>absurd (hr.symm.trans h0) (by simp),λi hi=>?_⟩;rw[hr]at hi;simp at hi;subst hi;rw[XQ,wpOpsIn_cons]at h;rw[C1];exact wpOpIn_mono (λa w h=>sn r (i+1) a w (by omega) (by omega) h) h
end
def tZ(n:Nat)(P:Program)(ops:Array Oper)(Q:Exit->Act->World->Prop)(m r:Nat):Exit->Act->World->Prop
 | .normal,a,w=>wpOpsIn Fence.wide n P ops Q (List.range' m r) a w
 |_,_,_=>False
theorem xW{Q:Exit->Act->World->Prop}{m r:Nat}:¬LetsOut (tZ n P ops Q m r):=λ⟨_,_,h⟩=>h
theorem wN{f m:Nat}(s:Du ops f m=true)(hm:m<=ops.size){Q:Exit->Act->World->Prop}:∀(fuel:Nat) (l₁ ls:Array Bool) (a:Act) (w:World),l₁.size=m->ls.size=ops.size->(∀i,i<m->ls.getD i true=l₁.getD i true)->(∀i,m<=i->i<ops.size->ls.getD i true=false)->Down ops ls->bX ls m=fuel->
  wpAny P .any (ops.extract 0 m) (tZ n P ops Q m (ops.size - m)) fuel l₁ a w->wpAnyIn Fence.wide n P .any ops Q (fuel+(ops.size - m)) ls a w:=by
 have L:(ops.extract 0 m).size=m:=by simp;omega
 have q:∀i,i<m->(ops.extract 0 m)[i]? =ops[i]? :=λi hi=>by rw[YT];simp;omega
 have v:∀i,i<m->oH (ops.extract 0 m) i=oH ops i:=λi hi=>by unfold oH;rw[q i hi]
 intro fuel;induction fuel with
 |zero=>
  intro l₁ ls a w A r o p hd hu h;have:ls=upto ops.size m:=by
   apply ZE
   ·simp[upto,r]
   ·intro i h1 h2;have hi:i<ops.size:=by omega
    have e:ls.getD i true=(upto ops.size m).getD i true:=by
     rw[jC _ _ _ hi];by_cases l:i<m
     ·rw[dO hu i l];simp[l]
     ·rw[p i (by omega) hi];simp[l]
    simpa[h1,h2]using e
  rw[this];simpa using sn s (ops.size - m) m a w (by omega) (Vh _) h.2
 |succ fuel ih=>
  intro l₁ ls a w A r o p hd hu h;have D:∀b c (i:Nat),i<ops.size->ls.getD i b=ls.getD i c:=λb c i hi=>by simp[show i<ls.size by omega]
  obtain⟨i0,K,y,E⟩:=iw (ls:=ls) (m:=m) (by omega);have z:∀i,i∈Region.ready .any ops ls->i<m:=λi hi=>by
   obtain⟨h1,h2,u⟩:=dh.1 hi;rcases Ww i m with C|C
   ·exact C
   ·have:=eK r hd (jm s) f i i0 h1 (sz s i h1 C i0 (by omega)) u;rw[D false true i0 (by omega),y]at this;cases this
  have F:∀i,i∈Region.ready .any ops ls->i∈Region.ready .any (ops.extract 0 m) l₁:=λi hi=>by
   have l:=z i hi;obtain⟨h1,h2,u⟩:=dh.1 hi;refine dh.2 ⟨by omega,by rw[<-o i l];exact h2,λk hk=>?_⟩;rw[v i l]at hk;have H:=jm s i h1 k hk;have:=u k hk;rw[D false true k (by omega),o k (by omega)]at this;simpa[show k<l₁.size by omega]using this
  have x:i0∈Region.ready .any ops ls:=dh.2 ⟨by omega,y,λk hk=>by
   have:=jm s i0 (by omega) k hk;rw[D false true k (by omega)];exact E k this⟩
  rw[show fuel+1+(ops.size - m)=(fuel+(ops.size - m))+1 by omega];refine⟨λh0=>absurd x (by rw[h0];simp),λi hi=>?_⟩;have l:=z i hi;obtain⟨h1,h2,u⟩:=dh.1 hi;have d:=h.2 i (F i hi);have next:∀a w,wpAny P .any (ops.extract 0 m) (tZ n P ops Q m (ops.size - m)) fuel (l₁.setIfInBounds i true) a w->wpAnyIn Fence.wide n P .any ops Q (fuel+(ops.size - m)) (ls.setIfInBounds i true) a w:=λa w B=>by
   refine ih _ _ a w (by simpa using A) (by simpa using r) (λj hj=>?_) (λj hj t=>?_) (λj hj t k hk=>?_) (by have:=iy h2 l (by omega);omega) B
   ·by_cases e:i=j
    ·subst e;simp[show i<ls.size by omega,show i<l₁.size by omega]
    ·have:=o j hj;simp only[Vz,VD e]at this ⊢;exact this
   ·have:=p j hj t;simp only[Vz,VD (show i≠j by omega)]at this ⊢;exact this
   ·by_cases e:i=j
    ·subst e;have H:=jm s i h1 k hk;have:=u k hk;simp only[Vz,VD (show i≠k by omega)]at this ⊢;exact this
    ·have G:ls.getD j true=true:=by
      simp only[Vz,VD e]at hj ⊢;exact hj
     have:=hd j G t k hk;by_cases J:i=k
     ·subst J;simp[show i<ls.size by omega]
     ·simp only[Vz,VD J]at this ⊢;exact this
  unfold wpOp at d;unfold wpOpIn;rw[q i l]at d;have ho:ops[i]? =some ops[i]:=by simp[h1]
  rw[ho]at d ⊢;simp only at d ⊢;have hy:Region.wanted ops[i] (yielded (ops.extract 0 m) a.tmps)=Region.wanted ops[i] (yielded ops a.tmps):=by
   unfold Region.wanted;cases hg:(ops[i]).guard with
   |none=>rfl
   |some g=>
    obtain⟨j,wt⟩:=g;have:=wT s i ops[i] j wt ho hg;simp only[yielded];rw[q j (by omega)]
  rw[hy]at d;split
  ·rename_i hw;rw[Vn hw]at d;rcases d with B|⟨B,hl⟩
   ·exact OF next (λ_ _ _ h=>h.elim) xW B
   ·exact absurd hl xW
  ·rename_i hw;rw[Vk hw]at d;exact⟨λ_ _=>trivial,next _ _ d⟩
end
theorem tN{w w':World}{l:Nat}{r}(hl:w.heap[l]? =some (.loop r))(ho:∀k,k≠l->w'.heap[k]? =w.heap[k]?){a x}(h:w.cell? a=some x):w'.cell? a=some x:=by
 have b:a.block≠l:=λe=>by
  unfold World.cell? at h;rw[e,hl]at h;simp at h
 rw[mq (ho _ b)];exact h
theorem dj.other{E}{w w':World}{l:Nat}{r}(hl:w.heap[l]? =some (.loop r))(g:w'.heap.size=w.heap.size)(ho:∀k,k≠l->w'.heap[k]? =w.heap[k]?){v p}(h:dj E w v p):dj E w' v p:=by
 induction h with
 |any v=>exact .any v
 |raw v=>exact .raw v
 |cg=>exact .cg
 |empty a c h=>exact .empty a c h
 |slice b off n c cs xs h0 h1 h2 hb hM hc d _ ih=>exact .slice b off n c cs xs h0 h1 h2 (by omega) hM (λi x hx=>tN hl ho (hc i x hx)) d ih
 |cH b e off cs xs hb hM hc d _ ih=>exact .cH b e off cs xs (by omega) hM (λi x hx=>tN hl ho (hc i x hx)) d ih
 |agg cs xs d _ ih=>exact .agg cs xs d ih
 |tuple cs xs d _ ih=>exact .tuple cs xs d ih
 |func f cs xs d _ ih=>exact .func f cs xs d ih
 |ptr i off b hi h=>exact .ptr i off b hi h
 |own i hi v h hs=>exact .own i hi v h hs
 |bound f cs xs d _ ih=>exact .bound f cs xs d ih
theorem ou.other{F:Nat->Prop}{w w':World}{l:Nat}{r}(hl:w.heap[l]? =some (.loop r))(ho:∀k,k≠l->w'.heap[k]? =w.heap[k]?)(h:ou F w):ou F w':=λg cs hg=>by
 obtain⟨h1,t,fz,h2⟩:=h g cs hg;have a:g≠l:=λe=>by rw[e,hl]at h2;cases h2
 exact⟨h1,t,fz,by rw[ho g a];exact h2⟩
section
variable {P:Program} {ops:Array Oper} {n:Nat}
theorem Lg{lp:Nat}{o:Oper}{a w}{K j:Act->World->Prop}{Q Q':Exit->Act->World->Prop}(i:∀c,o.op≠ .defer c)(g:∀a w,K a w->j a w)(hp:∀c a w,Q (.panic c) a w->Q' (.panic c) a w)(k:¬LetsOut Q)(h:o.wp P a w K Q):o.wpIn (Fence.wide.inRound lp) n P a w j Q':=by
 refine⟨λ_ _=>trivial,?_⟩;rw[Fence.inRound_round,Oper.semAt_eq _ _ _ i];unfold Oper.wp at h;generalize (execOp a.eval o).run P w=x at*;cases x with
 |ok x w'=>
  cases x<;>simp only[Oper.uponIn,Oper.upon]at h ⊢
  case value v=>exact g _ _ h
  case skip=>exact g _ _ h
  case defer d=>exact g _ _ h
  case enter f b=>exact⟨λh=>by simp[Fence.wide]at h,CallsIn.inRound lp (callsIn_wide.2 (h.mono λe l he=>by cases e<;>first|exact g _ _ he|exact hp _ _ _ he|exact(k he).elim))⟩
  case row r b=>exact⟨λh=>by simp[Fence.wide]at h,λc cs _=>by
   obtain⟨v,w',r,s⟩:=h c cs;exact⟨v,w',g _ _ r,stepsIn_wide.2 s⟩⟩
  all_goals exact h.elim
 |halt x w'=>cases x<;>simp only[Oper.uponIn,Oper.upon]at h ⊢ <;>first|exact hp _ _ _ h|exact h
def Jc(lp n:Nat)(P:Program)(ops:Array Oper)(Q:Exit->Act->World->Prop)(js:List Nat):Exit->Act->World->Prop
 | .normal,a,w=>wpOpsIn (Fence.wide.inRound lp) n P ops Q js a w
 |_,_,_=>False
theorem xV{lp:Nat}{Q:Exit->Act->World->Prop}{js:List Nat}:¬LetsOut (Jc lp n P ops Q js):=λ⟨_,_,h⟩=>h
theorem FI{lp m:Nat}{Q:Exit->Act->World->Prop}{js:List Nat}(hm:m<=ops.size)(hg:∀(i:Nat) o,i<m->ops[i]? =some o->o.guard=none/\∀c,o.op≠ .defer c):∀(is:List Nat) (a:Act) (w:World),(∀i∈is,i<m)->wpOps P (ops.extract 0 m) (Jc lp n P ops Q js) is a w->wpOpsIn (Fence.wide.inRound lp) n P ops Q (is++js) a w
 | [],a,w,_,h=>h
 |i::is,a,w,hi,h=>by
  have d:=hi i (by simp);have b:(ops.extract 0 m)[i]? =ops[i]? :=by rw[YT];simp;omega
  rw[wpOps_cons]at h;rw[Wt,wpOpsIn_cons];unfold wpOp at h;unfold wpOpIn;rw[b]at h;have ho:ops[i]? =some ops[i]:=XK (by omega);rw[ho]at h ⊢;simp only at h ⊢;obtain⟨h1,h2⟩:=hg i _ d ho;have hw:∀x,Region.wanted ops[i] x=true:=λx=>by unfold Region.wanted;rw[h1]
  rw[Vn (hw _)]at h ⊢;rcases h with h|⟨_,h⟩
  ·exact Lg h2 (λe w' h=>FI hm hg is e w' (λj hj=>hi j (by simp[hj])) h) (λ_ _ _ h=>h.elim) xV h
  ·exact absurd h xV
theorem pT{lp m id N L:Nat}{l:List Oper}{st}{F:Nat->Prop}{base:Nat}{E:Env}{a w}{Q:Exit->Act->World->Prop}(hm:Nat.ble m l.length=true)(hg:((l.take m).all λo=>o.guard.isNone&& !zx o.op)=true){K:St->Prop}(hs:dT F base N st E a w)(p:E.L=L)
  (h:WR P N L (l.take m).toArray (l.take m) st K) (hk:∀s E' f w',K s->dT F base N s E' f w'->c8 E w E' w'->iE F base w w'->wpOpsIn (Fence.wide.inRound lp) n P l.toArray Q (List.range' m (l.length - m)) f w'):(Code.region id l.toArray false).wpIn (Fence.wide.inRound lp) n P Q a w:=by
 have d:m<=l.length:=Nat.ble_eq.mp hm;have hlt:(l.take m).length=m:=by simp;omega
 refine wpIn_region ?_;have hr:List.range l.toArray.size=List.range' 0 m++List.range' m (l.length - m):=by
  have h:= @List.range'_append_1 0 m (l.length - m);rw[Ws,show m+(l.length - m)=l.length by omega]at h;rw[Yz,Xl];exact h.symm
 rw[hr];refine FI (m:=m) (by simpa using d) (λi o hi ho=>?_) _ a w (λi hi=>by simp at hi;omega) ?_
 ·have b:o∈l.take m:=by
   have:(l.take m)[i]? =some o:=by rw[Wn,Vn hi];simpa using ho
   exact VE this
  have:=VG.1 hg o b;simp only[Vx,Option.isNone_iff_eq_none,WG]at this;exact⟨this.1,λc e=>by rw[e]at this;exact absurd this.2 (by simp[zx])⟩
 ·have he:l.toArray.extract 0 m=(l.take m).toArray:=by simp
  rw[he];have:=h F base E w E a w ⟨p,YN _ _,Yh _ _ _⟩ hs (Jc lp n P l.toArray Q (List.range' m (l.length - m))) 0 (λf w' ⟨s,E',h1,h2,g,k⟩=>hk s E' f w' h1 h2 g k) (λj=>by simp);rw[hlt]at this;exact this
theorem uq{F}(e:F=Fence.wide\/∃lp,F=Fence.wide.inRound lp){i:Nat}{is:List Nat}{o:Oper}{a:Act}{w v}{Q:Exit->Act->World->Prop}(ho:ops[i]? =some o)(hg:o.guard=none)(d:∀c,o.op≠ .defer c)(hr:(execOp a.eval o).run P w= .ok (.value v) w)(h:wpOpsIn F n P ops Q is (a.put o.dst v) w):wpOpsIn F n P ops Q (i::is) a w:=by
 rw[wpOpsIn_cons];unfold wpOpIn;rw[ho];simp only;rw[Vn (by unfold Region.wanted;rw[hg])];have b:o.semAt F.round a.eval=execOp a.eval o:=by
  rcases e with rfl|⟨lp,rfl⟩
  ·exact Oper.semAt_none _ _
  ·rw[Fence.inRound_round,Oper.semAt_eq _ _ _ d]
 refine⟨λ_ _=>?_,?_⟩
 ·rcases e with rfl|⟨lp,rfl⟩<;>trivial
 ·rw[b,hr];exact h
theorem J7{o:Oper}{a:Act}{w x ty q}(ho:o.op= .unOp .not ty x)(hx:a.eval x= .bool q):(execOp a.eval o).run P w= .ok (.value (.bool (!q))) w:=by
 simp only[execOp,ho,hx,Op.unary,Sem.run_bind,Sem.run_pure,Result.andThen_ok]
theorem G5{o:Oper}{a:Act}{w:World}{x ty}{b:Nat}{c}(ho:o.op= .load ty x)(hk:qU P ty=some none)(hx:a.eval x= .pointer (some ⟨b,0,none⟩))(hc:w.cell? ⟨b,0,none⟩=some c):(execOp a.eval o).run P w= .ok (.value c) w:=by
 have h:=lW (P:=P) hk hc;simp only[execOp,ho,hx,Sem.run_bind,h,Result.andThen_ok,Sem.run_pure]
theorem Sat.other{F:Nat->Prop}{base:Nat}{σ E}{w w':World}{l:Nat}{r}(hl:w.heap[l]? =some (.loop r))(z:w'.heap.size=w.heap.size)(ho:∀k,k≠l->w'.heap[k]? =w.heap[k]?)(h:Sat F base σ E w):Sat F base σ E w':=by
 have a:∀ {k:Nat} {o:Obj},w.heap[k]? =some o->(∀r,o≠ .loop r)->k≠l:=λ{k o} hk hr e=>by subst e;rw[hl]at hk;cases hk;exact hr _ rfl
 have p:∀ {cs:List Value} {xs:List PV},bn E w cs xs->bn E w' cs xs:=λhr=>⟨hr.1,λi x u k1 g=>(hr.2 i x u k1 g).other hl z ho⟩;refine⟨by rw[z];exact h.bl,λb hb=>⟨by rw[z];exact(h.fb b hb).1,(h.fb b hb).2⟩,h.len,h.mm,λi blk hi=>?_,h.inj,h.gl.other hl ho⟩;have hb:=h.blk i blk hi;generalize E.at_ i=v at hb;cases blk with
 |cells t xs=>
  obtain⟨b',cs,rfl,h1,h2,f⟩:=hb;exact⟨b',cs,rfl,h1,(ho b' (a h2 (λr e=>by cases e))).trans h2,p f⟩
 |row e size n xs=>
  obtain⟨cs,h1,h2⟩:=hb;refine⟨cs,⟨h1.1,?_⟩,p h2⟩;rcases h1.2 with h|⟨j,cap,cur,rfl,k1,g,A⟩
  ·exact .inl h
  ·exact .inr ⟨j,cap,cur,rfl,k1,(ho j (a g (λr e=>by cases e))).trans g,A⟩
 |mp kv=>
  obtain⟨d,q,ck,rfl,h1,h2,f,y⟩:=hb;exact⟨d,q,ck,rfl,h1,(ho d (a h2 (λr e=>by cases e))).trans h2,f,p y⟩
 |win e size n xs=>
  obtain⟨cs,h1,h2⟩:=hb;refine⟨cs,⟨h1.1,?_⟩,p h2⟩;rcases h1.2 with h|⟨j,off,cap,cur,rfl,k1,g,A⟩
  ·exact .inl h
  ·exact .inr ⟨j,off,cap,cur,rfl,k1,(ho j (a g (λr e=>by cases e))).trans g,A⟩
 |mK kv bs ck=>
  obtain⟨d,q,rfl,h1,h2,f,y,B⟩:=hb;exact⟨d,q,rfl,h1,(ho d (a h2 (λr e=>by cases e))).trans h2,f,y,p B⟩
 |oB m s seen c=>
  obtain⟨d,b',rfl,h1,h2,f⟩:=hb;exact⟨d,b',rfl,h1,(ho d (a h2 (λr e=>by cases e))).trans h2,f⟩
theorem eF.other{E}{w w':World}{l:Nat}{r}(hl:w.heap[l]? =some (.loop r))(a:w'.heap.size=w.heap.size)(ho:∀k,k≠l->w'.heap[k]? =w.heap[k]?){ρ:Operand->Value}{t}(h:eF E w ρ t):eF E w' ρ t:=λk p hk=>(h k p hk).other hl a ho
theorem G6{o:Oper}{a:Act}{w x}(ho:o.op= .move x):(execOp a.eval o).run P w= .ok (.value (a.eval x)) w:=by
 simp only[execOp,ho,Sem.run_pure]
end
open Go.Shelf iF
section
variable {P:Program} {ops:Array Oper} {n:Nat}
def M1(K:Act->World->Prop):Exit->Act->World->Prop
 | .normal,a,w=>K a w
 |_,_,_=>False
theorem rU{K:Act->World->Prop}:¬LetsOut (M1 K):=λ⟨_,_,h⟩=>h
theorem Ey(a:Array Value)(d ds:List Deferred)(k:Option Tmp)(v:Value):(⟨a,d++ds⟩:Act).put k v=⟨((⟨a,d⟩:Act).put k v).tmps,d++ds⟩:=by cases k<;>rfl
theorem zS(a:Array Value)(d:List Deferred)(k:Option Tmp)(v:Value):(⟨a,d⟩:Act).put k v=⟨((⟨a,d⟩:Act).put k v).tmps,d⟩:=by cases k<;>rfl
theorem OE{o:Oper}{a d ds w}{K g:Act->World->Prop}{R:Act->World->Prop}{Q':Exit->Act->World->Prop}(i:∀t d w,K ⟨t,d⟩ w->g ⟨t,d++ds⟩ w)(h:o.wp P ⟨a,d⟩ w K (M1 R)):o.wp P ⟨a,d++ds⟩ w g Q':=by
 unfold Oper.wp at h ⊢;rw[show(⟨a,d++ds⟩:Act).eval=(⟨a,d⟩:Act).eval from rfl];generalize (execOp (⟨a,d⟩:Act).eval o).run P w=x at*;have hp:∀v w,K ((⟨a,d⟩:Act).put o.dst v) w->g ((⟨a,d++ds⟩:Act).put o.dst v) w:=λv w h=>by
  rw[Ey];rw[zS]at h;exact i _ _ _ h
 cases x with
 |ok x w'=>
  cases x<;>simp only[Oper.upon]at h ⊢
  case value v=>exact hp _ _ h
  case skip=>exact hp _ _ h
  case defer c=>
   rw[zS]at h;have:=i _ _ _ h;rw[show c::(d++ds)=(c::d)++ds from rfl,Ey];exact this
  case enter f b=>exact h.mono λe j he=>by cases e<;>first|exact hp _ _ he|exact he.elim|exact absurd he rU
  case row r b=>exact Rows.mono h λv w' h=>hp _ _ h
  all_goals exact h.elim
 |halt x w'=>cases x<;>simp only[Oper.upon]at h ⊢ <;>exact h.elim
theorem zL{ds}{K:Act->World->Prop}{Q':Exit->Act->World->Prop}(b:∀t d w,K ⟨t,d⟩ w->Q' .normal ⟨t,d++ds⟩ w):∀(is:List Nat) (a:Array Value) (d:List Deferred) (w:World),wpOps P ops (M1 K) is ⟨a,d⟩ w->wpOps P ops Q' is ⟨a,d++ds⟩ w
 | [],a,d,w,h=>b _ _ _ h
 |i::is,a,d,w,h=>by
  unfold wpOps at h ⊢;cases ho:ops[i]? with
  |none=>
   rw[ho]at h;exact zL b is _ _ _ h
  |some o=>
   rw[ho]at h;simp only at h ⊢;split at h
   ·rename_i hw;rw[Vn hw];rcases h with h|⟨_,h⟩
    ·exact .inl (OE (λt d w h=>zL b is t d w h) h)
    ·exact absurd h rU
   ·rename_i hw;rw[Vk hw,Ey];rw[zS]at h;exact zL b is _ _ _ h
variable {N L:Nat}
theorem Ig{id:Nat}{l:List Oper}{st}{K:St->Prop}{F:Nat->Prop}{base:Nat}{E:Env}{b ds w}{Q:Exit->Act->World->Prop}(hs:dT F base N st E ⟨b,[]⟩ w)(e:E.L=L)(h:WR P N L l.toArray l st K)
  (f:∀s E' a w',K s->dT F base N s E' ⟨a,[]⟩ w'->c8 E w E' w'->iE F base w w'->Q .normal ⟨a,ds⟩ w'):(Code.region id l.toArray false).wpIn Fence.wide n P Q ⟨b,ds⟩ w:=by
 refine wpIn_wide.2 (wp_region ?_);have h1:=h F base E w E ⟨b,[]⟩ w ⟨e,YN _ _,Yh _ _ _⟩ hs (M1 (qo F base N E w K)) 0 (λk w' h=>h) (λj=>by simp);have h2:=zL (ds:=ds) (Q':=Q) (λt d w' ⟨s,E',k1,c,g,i⟩=>by
  have hd:d=[]:=c.lO;subst hd;exact f s E' t w' k1 c g i) _ _ _ _ h1
 simpa[Yz]using h2
end
theorem rv{M M':Nat->Prop}{A B:World}(a:A.heap.size<=B.heap.size)(hM:∀b,b<A.heap.size->¬M b->¬M' b)(hb:∀b,b<A.heap.size->¬M b->B.heap[b]? =A.heap[b]?):c8 (EF M) A (EF M') B:=
 ⟨Vh _,λi hi=>absurd hi (WL i),hM,a,hb⟩
end
end PW
namespace iF
open Go.RowKit Go.Shelf cm
structure nr (B:Nat) (A A':World):Prop where
 os:A'.os=A.os
 tape:A'.tape=A.tape
 output:A'.output=A.output
 size:A.heap.size<=A'.heap.size
 block:∀b,b<A.heap.size->b≠B->A'.heap[b]? =A.heap[b]?
theorem nr.refl(B:Nat)(A:World):nr B A A:=⟨rfl,rfl,rfl,Vh _,λ_ _ _=>rfl⟩
theorem nr.ext{B:Nat}{A A'}(h:Ext A A'):nr B A A':=⟨h.os,h.tape,h.output,h.size,λb hb _=>h.block b hb⟩
theorem nr.trans{B:Nat}{A A' a}(h:nr B A A')(k:nr B A' a):nr B A a:=
 ⟨k.os.trans h.os,k.tape.trans h.tape,k.output.trans h.output,VL h.size k.size,λb hb hn=>(k.block b (VS hb h.size) hn).trans (h.block b hb hn)⟩
structure yN (F0:Nat->Prop) (s:Nat) (A B:World):Prop where
 size:A.heap.size<=B.heap.size
 block:∀b,b<s->¬F0 b->B.heap[b]? =A.heap[b]?
def I9(P:Program)(g:Nat)(lb:Array Value)(K:Nat)(G:Nat->Array Value->World->World->Prop)(B:Nat)(F0:Nat->Prop)(W:World):Prop:=
 ∀(n l:Nat) (J:Nat->World->Prop),(∀m k vs A0 A,k<K->J k A0->nr B A0 A->W.heap.size<=A0.heap.size->G k vs A0 A->YieldAt Fence.wide m P l vs A λe a=>e= .returned (.bool true)/\J (k+1) a/\yN F0 W.heap.size A a)->
  J 0 W->
  CallsIn Fence.wide n P g (#[.func (.yield l) #[] #[]]++lb) W λe W'=>(∃v,e= .returned v)/\∃A0,J K A0/\nr B A0 W'/\W.heap.size<=A0.heap.size
theorem C4{P:Program}{n:Nat}{g:Operand}{ps:Array Tmp}{assign body:Code}{Q:Exit->Act->World->Prop}{a:Act}{w:World}
  {gf:Nat} {lb:Array Value} (hg:a.eval g= .func (.func gf) #[] lb) (eg:∀args w,(callFunc gf args).run P w= .ok (.enter gf args) w)
  {K B:Nat} {G:Nat->Array Value->World->World->Prop} {F0:Nat->Prop} (V:∀b,F0 b->b<w.heap.size) (hB:B<w.heap.size) (Q8:∀W,Ext w W->W.heap.size=w.heap.size+2->I9 P gf lb K G B F0 W) (al:∀k vs A0 A,G k vs A0 A->vs.size=ps.size)
  (I:Nat->World->Prop)
  (J:∀k A l r o,l=w.heap.size+1->I k A->A.heap[l]? =some (.loop r)->I k (A.putObj l (.loop o)))
  (X:∀i,Ext w i->i.heap.size=w.heap.size+2->I 0 i)
  (z:∀m l k vs (A0 A:World),l=w.heap.size+1->(∃r,A.heap[l]? =some (.loop r))->k<K->I k A0->nr B A0 A->w.heap.size+2<=A0.heap.size->G k vs A0 A->
   assign.wpIn (Fence.wide.inRound l) m P (Exit.then (λa₁ C=>yN F0 (w.heap.size+2) A C/\∀j o,j=C.putObj l (.loop o)->
    body.wpIn (Fence.wide.inRound l) m P (Exit.then (λ_ F=>I (k+1) F/\yN F0 (w.heap.size+2) j F) (λ_ _ _=>False)) a₁ j) (λ_ _ _=>False))
    {tmps:=(ps.zip vs).foldl (λt (p,v)=>t.setIfInBounds p v) a.tmps,defers:=[]} A)
  (D:∀(A0 W':World),I K A0->nr B A0 W'->w.heap.size+2<=A0.heap.size->W'.heap[w.heap.size]? =some (.deferred (some []))->Q .normal {a with defers:= {target:=.collected w.heap.size,args:= #[]}::a.defers} W'):
  (Code.rangeFunc g ps assign body).wpIn Fence.wide n P Q a w:=by
 refine wpIn_rangeFunc ?_;intro fn ag;obtain⟨rec,c⟩:∃rec:LoopState->Option Code->Loop,rec=λst pe=> {state:=st,pending:=pe,fn,tmps:=a.tmps,params:=ps,assign,body,defers:=w.heap.size}:=⟨_,rfl⟩;have⟨i,s⟩:=dw ((w.alloc (.deferred (some []))).alloc (.loop (rec .ready none)));have Z:i.heap[w.heap.size+1]? =some (.loop (rec .ready none)):=by
  rw[<-s];have:=World.alloc_heap_new (w.alloc (.deferred (some []))) (.loop (rec .ready none));rwa [World.size_alloc]at this
 have Y:i.heap[w.heap.size]? =some (.deferred (some [])):=by
  rw[<-s];exact(Below.heap_alloc _ _ _ (by simp)).trans (World.alloc_heap_new w _)
 have E:i.heap.size=w.heap.size+2:=by rw[<-s];simp
 have H:Ext w i:=by rw[<-s];exact((XH w).alloc _).alloc _
 refine⟨w.heap.size+1,[{target:=.collected w.heap.size,args:= #[]}],i,{target:=.fn (.func gf) lb,args:= #[.func (.yield (w.heap.size+1)) #[] #[]]},i,gf,#[.func (.yield (w.heap.size+1)) #[] #[]]++lb,i,?_,?_,?_,?_,λh=>by simp[Fence.wide]at h,?_⟩
 ·rw[<-s,c];exact run_enterLoop_outer _ _ _ _ _
 ·simp only[resolve,hg];simp[go_sem]
 ·intro f' _;trivial
 ·simp[invoke,go_sem,eg]
 ·have hm:=Q8 i H E;unfold I9 at hm;rw[E]at hm;refine(hm (n - 1) (w.heap.size+1) (λk A=>I k A/\A.heap[w.heap.size+1]? =some (.loop (rec .ready none))/\A.heap[w.heap.size]? =some (.deferred (some []))) ?_ ⟨X i H E,Z,Y⟩).mono ?_
  ·
   rintro m k vs A0 T hk ⟨hi,ai,aa⟩ q hs hv;have hl:T.heap[w.heap.size+1]? =some (.loop (rec .ready none)):=(q.block _ (by omega) (by omega)).trans ai;have hd:T.heap[w.heap.size]? =some (.deferred (some [])):=(q.block _ (by omega) (by omega)).trans aa;have hlt:w.heap.size+1<T.heap.size:=(Vs.1 hl).1;have hy:=run_yield (P:=P) (args:=vs) hl (by rw[c];exact al _ _ _ _ hv);rw[c]at hy;refine⟨fn,_,assign,body,hy,roundIn_of_wpIn ag (wpIn_mono (z m _ k vs A0 T rfl ⟨_,hl⟩ hk hi q hs hv) ?_)⟩;rintro e a1 C he;cases e with
   |normal=>
    obtain⟨x,hb⟩:=he;have U:∀b,w.heap.size<=b->¬F0 b:=λb h1 h2=>by have:=V b h2;omega
    have N:C.heap[w.heap.size+1]? =some (.loop (rec .ready none)):=(x.block _ (by omega) (U _ (by omega))).trans hl;have O:w.heap.size+1<C.heap.size:=(Vs.1 N).1;have aq:=x.size;refine⟨_,run_beginRound N (by rw[c]),?_⟩;obtain⟨j,u⟩:∃j,j=C.putObj (w.heap.size+1) (.loop {rec .ready none with state:=.busy}):=⟨_,rfl⟩;have aj:j.heap[w.heap.size+1]? =some (.loop {rec .ready none with state:=.busy}):=by rw[u];exact World.putObj_heap_same O
    have ar:j.heap.size=C.heap.size:=by rw[u];simp
    have f:∀k,k≠w.heap.size+1->j.heap[k]? =C.heap[k]? :=λk hk=>by rw[u];exact World.putObj_heap_other hk
    have ab:j.heap[w.heap.size]? =some (.deferred (some [])):=(f _ (by omega)).trans ((x.block _ (by omega) (U _ (Vh _))).trans hd);rw[<-u];refine wpIn_mono (hb j _ u) ?_;rintro e2 a3 F hp;cases e2 with
    |normal=>
     obtain⟨ah,y⟩:=hp;have L:F.heap[w.heap.size+1]? =some (.loop {rec .ready none with state:=.busy}):=(y.block _ (by omega) (U _ (by omega))).trans aj;have ad:F.heap[w.heap.size]? =some (.deferred (some [])):=(y.block _ (by omega) (U _ (Vh _))).trans ab;have he:=run_endRound (P:=P) none L;rw[c]at he;have ao:=y.size;have d:=World.putObj_heap_same (w:=F) (r:=w.heap.size+1) (o:=.loop (rec .ready none)) (by omega);refine⟨_,_,he,rfl,⟨J _ _ _ _ _ rfl ah L,?_,?_⟩,?_,?_⟩
     ·rw[c]at d ⊢;exact d
     ·rw[World.putObj_heap_other (by omega)];exact ad
     ·simp only[World.putObj_size];omega
     ·intro b h1 h2;by_cases e:b=w.heap.size+1
      ·subst e;rw[hl];rw[c]at d ⊢;exact d
      ·rw[World.putObj_heap_other e,y.block b h1 h2,f b e,x.block b h1 h2]
    |_=>exact hp.elim
   |_=>exact he.elim
  ·
   rintro e W' ⟨⟨v,rfl⟩,A0,⟨hi,M,ae⟩,q,hs⟩;have ak:W'.heap[w.heap.size+1]? =some (.loop (rec .ready none)):=(q.block _ (by omega) (by omega)).trans M;have af:W'.heap[w.heap.size]? =some (.deferred (some [])):=(q.block _ (by omega) (by omega)).trans ae;have he:=run_endLoop (P:=P) ak (by rw[c];simp);rw[c]at he;have S:∀(A:World) o,(A.putObj (w.heap.size+1) o).heap.size=A.heap.size:=λ_ o=>by simp
   have an:=q.size;have key:∀R:Loop,Q .normal {a with defers:= {target:=.collected w.heap.size,args:= #[]}::a.defers} (W'.putObj (w.heap.size+1) (.loop R)):=λR=>by
    refine D (A0.putObj (w.heap.size+1) (.loop R)) _ (J _ _ _ _ _ rfl hi M) ⟨q.os,q.tape,q.output,by rw[S,S];exact an,λb hb hn=>?_⟩ (by rw[S];exact hs) ?_
    ·by_cases e:b=w.heap.size+1
     ·subst e;rw[World.putObj_heap_same (by omega),World.putObj_heap_same (by rw[S]at hb;omega)]
     ·rw[World.putObj_heap_other e,World.putObj_heap_other e];exact q.block b (by rwa [S]at hb) hn
    ·rw[World.putObj_heap_other (by omega)];exact af
   exact⟨none,_,he,key _⟩
end iF
namespace PW
open Go.RowKit cm Mem iF
theorem Em{P:Program}{ops:Array Oper}{n i l:Nat}{is:List Nat}{o:Oper}{a:Act}{w:World}{Q:Exit->Act->World->Prop}{x y z:Operand}{b:Array TypeId}{R:Ending->World->Prop}(ho:ops[i]? =some o)(hg:o.guard=none)(c:o.op= .call {callee:=.value x,args:= #[y,z],argTypes:=b})
  (hx:a.eval x= .func (.yield l) #[] #[]) (hy:YieldAt Fence.wide (n - 1) P l #[a.eval y,a.eval z] w R) (d:∀e w',R e w'->∃v,e= .returned v/\wpOpsIn Fence.wide n P ops Q is (a.put o.dst v) w'):wpOpsIn Fence.wide n P ops Q (i::is) a w:=by
 obtain⟨fn,tmps,assign,body,h1,h2⟩:=hy;rw[wpOpsIn_cons];unfold wpOpIn;rw[ho];simp only;rw[Vn (by unfold Region.wanted;rw[hg])];refine⟨λ_ _=>trivial,?_⟩;rw[show Fence.wide.round=none from rfl,Oper.semAt_none];have hr:(execOp a.eval o).run P w= .ok (.round l fn tmps assign body) w:=by
  simp[execOp,c,resolve,hx,Deferred.ofValue,invoke,h1]
 rw[hr];refine⟨λh=>by simp[Fence.wide]at h,RoundIn.mono h2 λe w' he=>?_⟩;obtain⟨v,rfl,f⟩:=d e w' he;exact f
theorem Bf{P}{o:Oper}{a:Act}{w:World}{x y ty}{b:Nat}{c v t E p}(ho:o.op= .store ty x y)(hk:qU P ty=some none)(hx:a.eval x= .pointer (some ⟨b,0,none⟩))(hy:a.eval y=v)(hv:dj E w v p)[e:gN p](hc:w.heap[b]? =some (.cells #[c] t (0,0))):
  (execOp a.eval o).run P w= .ok .skip (w.setRow b #[v]):=by
 have h1:=e.out E w _ hv;have d:v.cells= #[v]:=by cases v<;>first|rfl|cases h1
 have h2:bn E w v.cells.toList [p]:=by rw[d];exact XP hv (Yn E w)
 have g:=run_storeCells_at P b 0 t v.cells.toList 0 #[c] w hc (by rw[d];simp) h2.rN;rw[d]at g;have f:(Instr.storeAt ty (.pointer (some ⟨b,0,none⟩)) v).run P w= .ok () (w.setRow b #[v]):=by
  simp only[Instr.storeAt,Instr.sureAddr,storeVar,Sem.run_bind,Sem.run_pure,Result.andThen_ok,pv hk,d];simpa using g
 simp only[execOp,ho,hx,hy,Sem.run_bind,f,Result.andThen_ok,Sem.run_pure]
theorem Lh{P ops}{n i:Nat}{is:List Nat}{o:Oper}{a:Act}{w w'}{Q:Exit->Act->World->Prop}(ho:ops[i]? =some o)(hg:o.guard=none)(hd:o.dst=none)(hr:(execOp a.eval o).run P w= .ok .skip w')(h:wpOpsIn Fence.wide n P ops Q is a w'):wpOpsIn Fence.wide n P ops Q (i::is) a w:=by
 rw[wpOpsIn_cons];unfold wpOpIn;rw[ho];simp only;rw[Vn (by unfold Region.wanted;rw[hg])];refine⟨λ_ _=>trivial,?_⟩;rw[show Fence.wide.round=none from rfl,Oper.semAt_none,hr];simp only[Oper.uponIn,hd];exact h
theorem eF.on{E w}{ρ:Operand->Value}{k:Nat}{p t}(h:dj E w (ρ (.tmp k)) p)(a:eF E w ρ t):eF E w ρ ((k,p)::t):=a.OX h
theorem eF.ni{E w}{ρ:Operand->Value}:eF E w ρ []:=λk p h=>by cases h
theorem eval_put{a:Act}{k:Nat}{v}(h:k<a.tmps.size):(a.put (some k) v).eval (.tmp k)=v:=by
 simp[Act.put,Act.eval,h]
section
variable {P:Program} {ops:Array Oper} {n:Nat}
def Same(S:Nat->Prop)(a b:Act):Prop:=∀k,S k->b.eval (.tmp k)=a.eval (.tmp k)
def nY(S:Nat->Prop)(ops:Array Oper):Prop:=∀(i:Nat) o d,ops[i]? =some o->o.dst=some d->¬S d
def Rg(ks:List Nat)(l:List Oper):Bool:=l.all λo=>match o.dst with
 |some d=> !ks.any (Nat.beq d)
 |none=>true
theorem nY.of{ks:List Nat}{l:List Oper}(h:Rg ks l=true):nY (· ∈ks) l.toArray:=λi o d ho hd hk=>by
 have hm:o∈l:=VE (by simpa using ho);have:=VG.1 h o hm;rw[hd]at this;simp only[WG]at this;have h2:=List.any_eq_false.1 this d hk;exact h2 (by simp)
theorem dV{k j:Nat}{a:Act}{v}(h:j≠k):(a.put (some k) v).eval (.tmp j)=a.eval (.tmp j):=by
 simp[Act.put,Act.eval,VD (Ne.symm h)]
theorem Same.put{S:Nat->Prop}{a:Act}{k v}(h:∀d,k=some d->¬S d):Same S a (a.put k v):=λj hj=>by
 cases k with
 |none=>rfl
 |some d=>exact dV (λe=>h d rfl (by subst e;exact hj))
theorem Same.trans{S:Nat->Prop}{a b c}(h:Same S a b)(k:Same S b c):Same S a c:=λj hj=>(k j hj).trans (h j hj)
theorem xM{S:Nat->Prop}{o:Oper}{a w}{K i:Act->World->Prop}{R:Act->World->Prop}{Q':Exit->Act->World->Prop}(hd:∀d,o.dst=some d->¬S d)(k:∀j w,K j w->Same S a j->i j w)(h:o.wp P a w K (M1 R)):o.wp P a w i Q':=by
 unfold Oper.wp at h ⊢;generalize (execOp a.eval o).run P w=x at*;have hp:∀v w,K (a.put o.dst v) w->i (a.put o.dst v) w:=λv w h=>k _ _ h (Same.put hd);cases x with
 |ok x w'=>
  cases x<;>simp only[Oper.upon]at h ⊢
  case value v=>exact hp _ _ h
  case skip=>exact hp _ _ h
  case defer c=>exact k _ _ h (Same.trans (b:= {a with defers:=c::a.defers}) (λ_ _=>rfl) (Same.put hd))
  case enter f g=>exact h.mono λe l he=>by cases e<;>first|exact hp _ _ he|exact he.elim|exact absurd he rU
  case row r g=>exact Rows.mono h λv w' h=>hp _ _ h
  all_goals exact h.elim
 |halt x w'=>cases x<;>simp only[Oper.upon]at h ⊢ <;>exact h.elim
theorem rO{S:Nat->Prop}(hn:nY S ops){a0}{K:Act->World->Prop}{Q':Exit->Act->World->Prop}(b:∀a w,K a w->Same S a0 a->Q' .normal a w):∀(is:List Nat) (a:Act) (w:World),Same S a0 a->wpOps P ops (M1 K) is a w->wpOps P ops Q' is a w
 | [],a,w,h0,h=>b _ _ h h0
 |i::is,a,w,h0,h=>by
  unfold wpOps at h ⊢;cases ho:ops[i]? with
  |none=>
   rw[ho]at h;exact rO hn b is _ _ h0 h
  |some o=>
   rw[ho]at h;simp only at h ⊢;split at h
   ·rename_i hw;rw[Vn hw];rcases h with h|⟨_,h⟩
    ·exact .inl (xM (hn i o · ho) (λc w h hs=>rO hn b is c w (h0.trans hs) h) h)
    ·exact absurd h rU
   ·rename_i hw;rw[Vk hw];exact rO hn b is _ _ (h0.trans (Same.put (hn i o · ho))) h
theorem qZ{S:Nat->Prop}(hn:nY S ops){a0}{K:Act->World->Prop}{Q':Exit->Act->World->Prop}{md}(b:∀a w,K a w->Same S a0 a->Q' .normal a w):∀(fuel:Nat) (ls:Array Bool) (a:Act) (w:World),Same S a0 a->wpAny P md ops (M1 K) fuel ls a w->wpAny P md ops Q' fuel ls a w
 |0,ls,a,w,h0,h=>⟨h.1,b _ _ h.2 h0⟩
 |fuel+1,ls,a,w,h0,h=>by
  refine⟨λd=>b _ _ (h.1 d) h0,λi hi=>?_⟩;have:=h.2 i hi;unfold wpOp at this ⊢;cases ho:ops[i]? with
  |none=>
   rw[ho]at this;exact qZ hn b fuel _ _ _ h0 this
  |some o=>
   rw[ho]at this;simp only at this ⊢;split at this
   ·rename_i hw;rw[Vn hw];rcases this with h|⟨_,h⟩
    ·exact .inl (xM (hn i o · ho) (λc w h hs=>qZ hn b fuel _ c w (h0.trans hs) h) h)
    ·exact absurd h rU
   ·rename_i hw;rw[Vk hw];exact qZ hn b fuel _ _ _ (h0.trans (Same.put (hn i o · ho))) this
variable {N L:Nat}
theorem pb{S:Nat->Prop}{id:Nat}{l:List Oper}{st}{K:St->Prop}{F:Nat->Prop}{base:Nat}{E:Env}{a w}{Q:Exit->Act->World->Prop}(hn:nY S l.toArray)(hs:dT F base N st E a w)(d:E.L=L)(h:WR P N L l.toArray l st K)
  (e:∀s E' b w',K s->dT F base N s E' b w'->c8 E w E' w'->iE F base w w'->Same S a b->Q .normal b w'):(Code.region id l.toArray false).wpIn Fence.wide n P Q a w:=by
 refine wpIn_wide.2 (wp_region ?_);have h1:=h F base E w E a w ⟨d,YN _ _,Yh _ _ _⟩ hs (M1 (qo F base N E w K)) 0 (λb w' h=>h) (λj=>by simp);have h2:=rO hn (a0:=a) (Q':=Q) (λb w' ⟨s,E',k1,f,g,i⟩ c=>e s E' b w' k1 f g i c) _ _ _ (λ_ _=>rfl) h1;simpa[Yz]using h2
theorem uW{S:Nat->Prop}{id:Nat}{l:List Oper}{t t' σ}{F:Nat->Prop}{base:Nat}{E a w}{Q:Exit->Act->World->Prop}(m f:Nat)(D:List Nat)(A:nY S l.toArray)(hm:P.follows .mixedOrders=true)(G:Region.lexB .any (l.take m).toArray=true)
    (hn:((l.take m).all λo=>o.dst.all λe=>decide (e<N)&&D.contains e)=true) (p:Du l.toArray f m=true) (z:Nat.ble m l.length=true) (hs:dT F base N ⟨t,σ⟩ E a w)
    (h:eP P N (l.take m).toArray σ (l.take m) t t') (hw:∀v w',Ext w w'->dT F base N ⟨t',σ⟩ E v w'->Same S a v->wpOpsIn Fence.wide n P l.toArray Q (List.range' m (l.toArray.size - m)) v w'):(Code.region id l.toArray true).wpIn Fence.wide n P Q a w:=by
  obtain⟨j,u⟩:=a;have H:u=[]:=hs.lO;have c:m<=l.length:=Nat.ble_eq.mp z;have hlt:(l.take m).length=m:=by simp;omega
  refine wpIn_region_any hm ?_;have he:l.toArray.extract 0 m=(l.take m).toArray:=by simp
  have s:nY S (l.take m).toArray:=λi o d ho hd=>by
    refine A i o d ?_ hd;simp only[Xx,Wn]at ho ⊢;split at ho
    · exact ho
    · cases ho
  have r:=wX (Q:=M1 λb w'=>∃C,b=⟨C,u⟩/\Ext w w'/\dT F base N ⟨t',σ⟩ E b w') hs D G hn h (λb w' x g=>⟨b,rfl,x,g⟩);have q:=qZ s (a0:=⟨j,u⟩) (Q':=tZ n P l.toArray Q m (l.toArray.size - m)) (λa w' ⟨C,hb,x,g⟩ B=>hw a w' x g B) _ _ _ _ (λ_ _=>rfl) r;have := wN (P := P) (n := n) p (by simpa using c) (Q := Q) m (Array.replicate m false) (Array.replicate l.toArray.size false) ⟨j, u⟩ { w with drawn := w.drawn + 1 } (by simp) (by simp) (λi hi => by rw [gI _ _ hi, gI _ _ (by simp; omega)]) (λi _ hi => gI _ _ hi _) (λi hi y k hk => by
      have:(Array.replicate l.toArray.size false).getD i true=false:=gI _ _ y _;rw[this]at hi;cases hi) (by
      have:∀k,k<=l.length->bX (Array.replicate l.toArray.size false) k=k:=by
        intro k;induction k with
        |zero=>intro _;rfl
        |succ k ih=>
          intro hk;simp only[bX];rw[ih (by omega)];have:(Array.replicate l.toArray.size false).getD k true=false:=gI _ _ (by simp;omega) _;rw[this];simp
      exact this m c) (by rw[he];rw[hlt]at q;exact q)
  rw[show m+(l.toArray.size - m)=l.toArray.size by simp;omega]at this;exact this
end
theorem AV{w:World}{a:Addr}{x}(h:w.cell? a=some x):∃o,w.heap[a.block]? =some o/\o.isCells=true:=by
 unfold World.cell? at h;cases ho:w.heap[a.block]? with
 |none=>rw[ho]at h;simp at h
 |some o=>exact⟨o,rfl,by rw[ho]at h;cases o<;>simp_all[Obj.isCells]⟩
theorem dj.yX{E}{w w':World}(j:w.heap.size<=w'.heap.size)(hc:∀(k:Nat) (o:Obj),w.heap[k]? =some o->o.isCells=true->w'.heap[k]? =some o){v p}(h:dj E w v p):dj E w' v p:=by
 have key:∀ {a:Addr} {x:Value},w.cell? a=some x->w'.cell? a=some x:=λ{a x} h=>by
  obtain⟨o,h1,h2⟩:=AV h;rw[mq ((hc _ _ h1 h2).trans h1.symm)];exact h
 induction h with
 |any v=>exact .any v
 |raw v=>exact .raw v
 |cg=>exact .cg
 |empty a c h=>exact .empty a c h
 |slice b off n c cs xs h0 h1 h2 hb hM e d _ ih=>exact .slice b off n c cs xs h0 h1 h2 (by omega) hM (λi x hx=>key (e i x hx)) d ih
 |cH b g off cs xs hb hM e d _ ih=>exact .cH b g off cs xs (by omega) hM (λi x hx=>key (e i x hx)) d ih
 |agg cs xs d _ ih=>exact .agg cs xs d ih
 |tuple cs xs d _ ih=>exact .tuple cs xs d ih
 |func f cs xs d _ ih=>exact .func f cs xs d ih
 |ptr i off b hi h=>exact .ptr i off b hi h
 |own i hi v h hs=>exact .own i hi v h hs
 |bound f cs xs d _ ih=>exact .bound f cs xs d ih
theorem Sat.R6{F:Nat->Prop}{base:Nat}{σ}{E:Env}{O:Nat->Prop}{A A'}(h:Sat F base σ E A)(hM:∀b,E.M b->¬O b)(d:Gj O A A'):Sat F base σ E A':=by
 have j:∀ {cs:List Value} {xs:List PV},bn E A cs xs->bn E A' cs xs:=λhr=>⟨hr.1,λi x u k1 k=>(hr.2 i x u k1 k).yX d.size d.cells⟩;have r:=d.size;refine⟨VL h.bl r,λb hb=>⟨VS (h.fb b hb).1 r,(h.fb b hb).2⟩,h.len,h.mm,λi blk hi=>?_,h.inj,λg cs hg=>?_⟩
 ·have hb:=h.blk i blk hi;cases blk with
  |cells t xs=>
   obtain⟨b',cs,he,h1,h2,f⟩:=hb;exact⟨b',cs,he,h1,d.cells _ _ h2 rfl,j f⟩
  |row e size n xs=>
   obtain⟨cs,h1,h2⟩:=hb;refine⟨cs,⟨h1.1,?_⟩,j h2⟩;rcases h1.2 with h|⟨o,cap,cur,he,k1,k,q⟩
   ·exact .inl h
   ·exact .inr ⟨o,cap,cur,he,k1,d.cells _ _ k rfl,q⟩
  |mp kv=>
   obtain⟨a,l,ck,he,h1,h2,f,p⟩:=hb;exact⟨a,l,ck,he,h1,(d.block a (Vs.1 h2).1 (hM a ((h.mm a).2 (.inr ⟨i,_,hi,by rw[he];rfl⟩)))).trans h2,f,j p⟩
  |win e size n xs=>
   obtain⟨cs,h1,h2⟩:=hb;refine⟨cs,⟨h1.1,?_⟩,j h2⟩;rcases h1.2 with h|⟨o,off,cap,cur,he,k1,k,q⟩
   ·exact .inl h
   ·exact .inr ⟨o,off,cap,cur,he,k1,d.cells _ _ k rfl,q⟩
  |mK kv bs ck=>
   obtain⟨a,l,he,h1,h2,f,p,v⟩:=hb;exact⟨a,l,he,h1,(d.block a (Vs.1 h2).1 (hM a ((h.mm a).2 (.inr ⟨i,_,hi,by rw[he];rfl⟩)))).trans h2,f,p,j v⟩
  |oB m s seen c=>
   obtain⟨a,b',he,h1,h2,f⟩:=hb;exact⟨a,b',he,h1,(d.block a (Vs.1 h2).1 (hM a ((h.mm a).2 (.inr ⟨i,_,hi,by rw[he];rfl⟩)))).trans h2,f⟩
 ·obtain⟨h1,t,fz,h2⟩:=h.gl g cs hg;exact⟨h1,t,fz,d.cells _ _ h2 rfl⟩
theorem eF.yX{E}{w w':World}{ρ:Operand->Value}{t}(a:w.heap.size<=w'.heap.size)(hc:∀(k:Nat) (o:Obj),w.heap[k]? =some o->o.isCells=true->w'.heap[k]? =some o)(h:eF E w ρ t):eF E w' ρ t:=λk p hk=>(h k p hk).yX a hc
def RK(B:Nat)(w:World):Prop:=∃t a n c,w.heap[B]? =some (.cells #[.slice a n c] t (0,0))
inductive MO:PV->Prop
 |raw (v:Value):MO (.raw v)
 |own (i:Nat):MO (.own i)
 |ints (n:Nat) (xs:List PV) (hl:0<n->0<xs.length) (h:∀(i:Nat) u,xs[i]? =some u->∃k x,u=PV.raw (.int k x)):MO (.slice n xs)
theorem MO.rep{E w w'}{B:Nat}(k:RK B w)(o:nr B w w'){v p}(ha:MO p)(h:dj E w v p):dj E w' v p:=by
 cases ha with
 |raw u=>cases dt h;exact .raw _
 |own i=>
  cases h with
  |own _ hi _ h hs=>exact .own i hi _ h hs
 |ints n xs hx hn=>
  cases h with
  |cg=>exact .cg
  |empty a c h=>exact .empty a c h
  |slice b off _ c cs _ h0 h1 h2 hb hM hc hl hr=>
   have j:0<cs.length:=by rw[hl];exact hx h0
   have g:cs[0]? =some cs[0]:=Vm j;have f:xs[0]? =some (xs[0]'(by rw[<-hl];exact j)):=Vm _;obtain⟨z,C,r⟩:=hn 0 _ f;have m:=hr 0 _ _ g f;rw[r]at m;have s:=dt m;have l:b≠B:=λe=>by
    subst e;obtain⟨t,a0,A,c0,k⟩:=k;have d:=hc 0 _ g;rw[s]at d;unfold World.cell? at d;simp only[k]at d;cases off with
    |zero=>simp at d
    |succ off=>simp at d
   refine .slice b off _ c cs _ h0 h1 h2 (VS hb o.size) hM (λi x hx=>by rw[mq (o.block b hb l)];exact hc i x hx) hl (λi x u k1 q=>?_);obtain⟨y,D,rfl⟩:=hn i u q;cases dt (hr i x _ k1 q);exact .raw _
theorem RR.rep{E w w'}{B:Nat}(b:RK B w)(c:nr B w w'){cs xs}(ha:∀(i:Nat) u,xs[i]? =some u->MO u)(h:bn E w cs xs):bn E w' cs xs:=
 ⟨h.1,λi x u k1 a=>(ha i u a).rep b c (h.2 i x u k1 a)⟩
def RQ:cj->Prop
 | .cells _ xs=>∀(i:Nat) u,xs[i]? =some u->MO u
 | .row _ _ _ xs=>∀(i:Nat) u,xs[i]? =some u->MO u
 | .mp _=>False
 | .win _ _ _ _=>False
 | .mK _ _ _=>False
 | .oB _ _ _ _=>False
theorem Sat.only{F:Nat->Prop}{base:Nat}{σ}{E:Env}{A A'}{B:Nat}(a:Sat F base σ E A)(hM:¬E.M B)(hg:∀g cs,(g,cs)∈GG->g≠B)(l:∀(i:Nat) bl,σ[i]? =some (some bl)->RQ bl)(o:RK B A)(d:nr B A A'):Sat F base σ E A':=by
 refine⟨VL a.bl d.size,λb hb=>⟨VS (a.fb b hb).1 d.size,(a.fb b hb).2⟩,a.len,a.mm,λi bl hi=>?_,a.inj,λg cs f=>?_⟩
 ·have hb:=a.blk i bl hi;have j:∀b,bg (E.at_ i)=some b->b<A.heap.size/\b≠B:=λb h=>⟨(hb.lt h).2,λe=>hM ((a.mm B).2 (.inr ⟨i,bl,hi,by rw[<-e];exact h⟩))⟩;have ha:=l i bl hi;cases bl with
  |cells t xs=>
   obtain⟨b',cs,he,h1,h2,p⟩:=hb;have:=j b' (by rw[he];rfl);exact⟨b',cs,he,h1,(d.block b' this.1 this.2).trans h2,RR.rep o d ha p⟩
  |row e size n xs=>
   obtain⟨cs,h1,h2⟩:=hb;refine⟨cs,⟨h1.1,?_⟩,RR.rep o d ha h2⟩;rcases h1.2 with h|⟨k,cap,cur,he,k1,q,r⟩
   ·exact .inl h
   ·have:=j k (by rw[he];rfl);exact .inr ⟨k,cap,cur,he,k1,(d.block k this.1 this.2).trans q,r⟩
  |mp kv=>exact ha.elim
  |win e size n xs=>exact ha.elim
  |mK kv bs ck=>exact ha.elim
  |oB m s seen c=>exact ha.elim
 ·obtain⟨h1,t,fz,h2⟩:=a.gl g cs f;exact⟨h1,t,fz,(d.block g (Vs.1 h2).1 (hg g cs f)).trans h2⟩
end PW
namespace PW
section
open Go.RowKit cm Mem
inductive MQ (i:Nat):cj->PV->PV->Prop
 |same {blk:cj} (p:PV):MQ i blk p p
 |ptr {ty:TypeId} {xs:List PV} (off:Nat):MQ i (.cells ty xs) (.ptr i off) (.cH xs off)
 |own {e s n:Nat} {xs:List PV}:MQ i (.row e s n xs) (.own i) (.slice n xs)
def nh(i:Nat)(blk:cj)(xs ys:List PV):Prop:=ys.length=xs.length/\∀(j:Nat) x y,xs[j]? =some x->ys[j]? =some y->MQ i blk x y
theorem nh.nil{i:Nat}{blk}:nh i blk [] []:=⟨rfl,λj x y h=>by simp at h⟩
theorem nh.cons{i:Nat}{blk x y xs ys}(h:MQ i blk x y)(hs:nh i blk xs ys):nh i blk (x::xs) (y::ys):=⟨by simp[hs.1],λj a b h1 h2=>by
 cases j with
 |zero=>simp at h1 h2;subst h1;subst h2;exact h
 |succ j=>exact hs.2 j a b (by simpa using h1) (by simpa using h2)⟩
inductive yL (i:Nat) (blk:cj):cj->cj->Prop
 |same (b:cj):yL i blk b b
 |cells {ty:TypeId} {xs ys:List PV}:nh i blk xs ys->yL i blk (.cells ty xs) (.cells ty ys)
 |row {e s n:Nat} {xs ys:List PV}:nh i blk xs ys->yL i blk (.row e s n xs) (.row e s n ys)
 |mp {kv kv':List (Value×PV)}:kv'.map (·.1)=kv.map (·.1)->nh i blk (kv.map (·.2)) (kv'.map (·.2))->yL i blk (.mp kv) (.mp kv')
def AE(i:Nat)(blk:cj)(σ σ':bH):Prop:=σ'.length=σ.length/\(σ'[i]? =some none)/\∀j,j≠i->(σ'[j]? =σ[j]? \/∃b b',σ[j]? =some (some b)/\σ'[j]? =some (some b')/\yL i blk b b')
inductive Di (i:Nat) (blk:cj) (t:cd):cd->Prop
 |nil:Di i blk t []
 |cons {t':cd} (k:Nat) {p q:PV}:look k t=some p->MQ i blk p q->Di i blk t t'->Di i blk t ((k,q)::t')
theorem Di.get{i:Nat}{blk t t'}(h:Di i blk t t'):∀k q,look k t'=some q->∃p,look k t=some p/\MQ i blk p q:=by
 induction h with
 |nil=>intro k q h;cases h
 |cons k h1 h2 _ ih=>
  intro j q hj;simp only[look]at hj;rw[VZ]at hj;split at hj
  ·rename_i he;have:=VF he;subst this;cases hj;exact⟨_,h1,h2⟩
  ·exact ih j q hj
section
variable {P:Program} {N L:Nat} {F:Nat->Prop} {base:Nat} {σ σ':bH} {E:Env} {w:World}
theorem MQ.rep(a:Sat F base σ E w){i:Nat}{blk}(hi:σ[i]? =some (some blk)){p q}(h:MQ i blk p q):∀v,dj E w v p->dj (E.kill i) w v q:=by
 obtain⟨_,g⟩:=a.kill i hi;intro v hv;cases h with
 |same _=>exact hv.goes g
 |own=>exact a.seal hi hv
 | @ptr ty xs off=>
  obtain⟨b,cs,h1,h2,d,e⟩:=a.blk i _ hi;cases hv with
  |ptr _ _ b' f h=>
   have hb:b'=b:=by
    rcases h with h|⟨n,c,h⟩<;>rw[h1]at h<;>cases h
    rfl
   subst hb;have:=dj.cH (E:=E.kill i) (w:=w) b' 0 off cs.toList xs (Vs.1 d).1 (λhM=>hM.2 (by rw[h1];rfl)) (λj x hx=>by rw[Ws];unfold World.cell?;simp only[d];simpa using hx) e.1 (λj x u k1 k=>(e.2 j x u k1 k).goes g);rw[Ws]at this;exact this
theorem nh.rep(b:Sat F base σ E w){i:Nat}{blk}(hi:σ[i]? =some (some blk)){xs ys}(h:nh i blk xs ys){cs}(hs:bn E w cs xs):bn (E.kill i) w cs ys:=
 ⟨hs.1.trans h.1.symm,λj x u k1 a=>by
  have hj:j<xs.length:=by rw[<-h.1];exact(Vf.1 a).1
  exact(h.2 j xs[j] u (by simp[hj]) a).rep b hi x (hs.2 j x _ k1 (by simp[hj]))⟩
theorem yL.sat(c:Sat F base σ E w){i:Nat}{blk}(hi:σ[i]? =some (some blk)){b b'}(h:yL i blk b b'){v}(hb:fV base E w v b):fV base (E.kill i) w v b':=by
 obtain⟨_,g⟩:=c.kill i hi;cases h with
 |same _=>exact hb.goes g (λ_ _=>rfl)
 |cells hl=>
  obtain⟨b',cs,h1,h2,d,a⟩:=hb;exact⟨b',cs,h1,h2,d,hl.rep c hi a⟩
 |row hl=>
  obtain⟨cs,h1,h2⟩:=hb;exact⟨cs,h1,hl.rep c hi h2⟩
 |mp hk hl=>
  obtain⟨r,e,ck,h1,h2,d,a,f⟩:=hb;exact⟨r,e,ck,h1,h2,d,⟨a.1.trans hk.symm,a.2⟩,hl.rep c hi f⟩
theorem wV{i:Nat}{blk}(hi:σ[i]? =some (some blk))(h:AE i blk σ σ'){j:Nat}{b'}(hj:σ'[j]? =some (some b')):j≠i/\∃b,σ[j]? =some (some b)/\yL i blk b b':=by
 have a:j≠i:=λe=>by subst e;rw[h.2.1]at hj;cases hj
 refine⟨a,?_⟩;rcases h.2.2 j a with h|⟨b,d,h1,h2,c⟩
 ·rw[h]at hj;exact⟨b',hj,.same _⟩
 ·rw[h2]at hj;cases hj;exact⟨b,h1,c⟩
theorem Sat.TR(m:Sat F base σ E w){i:Nat}{blk}(hi:σ[i]? =some (some blk))(h:AE i blk σ σ'):Sat F base σ' (E.kill i) w:=by
 obtain⟨h1,g⟩:=m.kill i hi;have key:∀ {j:Nat} {b':cj},σ'[j]? =some (some b')->∃b,(σ.set i none)[j]? =some (some b):=λ{j b'} hj=>by
  obtain⟨d,b,hb,_⟩:=wV hi h hj;exact⟨b,by rw[VV,Vk (Ne.symm d)];exact hb⟩
 refine⟨h1.bl,λb hb=>⟨(h1.fb b hb).1,λj bl hj=>?_⟩,?_,λb=>?_,λj bl hj=>?_,λj k bj bk b hj hk p q=>?_,h1.gl⟩
 ·obtain⟨c,a⟩:=key hj;exact(h1.fb b hb).2 j c a
 ·rw[h1.len,h.1,VK]
 ·constructor
  ·intro hM;rcases(h1.mm b).1 hM with e|⟨j,bl,l,f⟩
   ·exact .inl e
   ·obtain⟨d,r⟩:=kh l;rcases h.2.2 j d with s|⟨o,c,_,t,_⟩
    ·exact .inr ⟨j,bl,by rw[s];exact r,f⟩
    ·exact .inr ⟨j,c,t,f⟩
  ·rintro(e|⟨j,bl,l,f⟩)
   ·exact(h1.mm b).2 (.inl e)
   ·obtain⟨c,a⟩:=key l;exact(h1.mm b).2 (.inr ⟨j,c,a,f⟩)
 ·obtain⟨_,b,hb,e⟩:=wV hi h hj;exact e.sat m hi (m.blk j b hb)
 ·obtain⟨o,n⟩:=key hj;obtain⟨c,a⟩:=key hk;exact h1.inj j k o c b n a p q
theorem mn{c t t'}{Q:Exit->St->Prop}(i:Nat){blk}(hi:σ[i]? =some (some blk))(b:AE i blk σ σ')(e:Di i blk t t')(h:W P N L c ⟨t',σ'⟩ Q):W P N L c ⟨t,σ⟩ Q:=λF base E₀ w₀ E a w hc hs=>by
 obtain⟨_,g⟩:=hs.sat.kill i hi;refine h F base E₀ w₀ (E.kill i) a w (hc.on g (Yh _ _ _)) ⟨hs.sat.TR hi b,λk q d=>?_,hs.lO,hs.size⟩;obtain⟨p,h1,h2⟩:=e.get k q d;exact h2.rep hs.sat hi _ (hs.tmp k p h1)
theorem QD{ops l t t'}{K:St->Prop}(i:Nat){blk}(hi:σ[i]? =some (some blk))(b:AE i blk σ σ')(e:Di i blk t t')(h:WR P N L ops l ⟨t',σ'⟩ K):WR P N L ops l ⟨t,σ⟩ K:=by
 intro F base E₀ w₀ E a w hc hs Q j c hl;obtain⟨_,g⟩:=hs.sat.kill i hi;refine h F base E₀ w₀ (E.kill i) a w (hc.on g (Yh _ _ _)) ⟨hs.sat.TR hi b,λk q d=>?_,hs.lO,hs.size⟩ Q j c hl;obtain⟨p,h1,h2⟩:=e.get k q d;exact h2.rep hs.sat hi _ (hs.tmp k p h1)
end
end
end PW
end Go.Proofs.YtfcadpknnbgibaaGreatDoor
