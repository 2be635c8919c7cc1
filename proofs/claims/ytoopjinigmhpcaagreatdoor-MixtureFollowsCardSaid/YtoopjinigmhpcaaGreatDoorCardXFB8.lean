/- Part 8. -/
import Derived.Lib.AppendStr
import Derived.Lib.UnsafeStr
import Derived.Lib.Builder
import Derived.Shelf.Strings.Builder1
import Derived.Shelf.Strings.BuilderF
import Derived.Shelf.Strings.BuilderK
import Derived.Shelf.Strconv.Itoa0
import Derived.Shelf.Strconv.Itoa1
import Derived.Shelf.LaysM
import Derived.Shelf.Strconv.Itoa2
import Derived.Shelf.Strconv.Itoa3
import Derived.Shelf.Strings.BuilderCap
import Derived.Test.YtoopjinigmhpcaaGreatDoorCardXFB7
set_option maxRecDepth 100000
set_option maxHeartbeats 4000000
namespace Go.Proofs.YtoopjinigmhpcaaGreatDoor
open Go.Proofs.Tryz
namespace PW
section
open Go.RowKit cG Mem Net eE
section
variable {X:Type} {nx:X->List X}
inductive Ln (nx:X->List X):Nat->X->X->Prop
 |nil (x:X):Ln nx 0 x x
 |cons {k:Nat} {x y z:X}:nx x=[y]->Ln nx k y z->Ln nx (k+1) x z
inductive Rn (nx:X->List X):Nat->X->X->Prop
 |nil (x:X):Rn nx 0 x x
 |snoc {k:Nat} {x y z:X}:Rn nx k x y->z∈nx y->Rn nx (k+1) x z
theorem Ln.trans{i j:Nat}{x y z}(h:Ln nx i x y)(k:Ln nx j y z):Ln nx (i+j) x z:=by
 induction h with
 |nil=>rw[Si];exact k
 |cons h1 _ a=>rw[Nat.succ_add];exact .cons h1 (a k)
theorem Ln.snoc{i:Nat}{x y z}(h:Ln nx i x y)(k:nx y=[z]):Ln nx (i+1) x z:=h.trans (.cons k (.nil z))
theorem Ln.rn{j:Nat}{x z}(h:Ln nx j x z)(c:nx z=[]){k:Nat}{w}(hr:Rn nx k x w):Ln nx k x w/\∃i,j=k+i/\Ln nx i w z:=by
 induction hr with
 |nil=>exact⟨.nil _,j,by omega,h⟩
 |snoc _ hm d=>
  obtain⟨h1,i,e,h2⟩:=d h;cases h2 with
  |nil=>rw[c]at hm;cases hm
  |cons a b=>
   rw[a,Rj]at hm;subst hm;exact⟨h1.snoc a,_,by omega,b⟩
theorem Ln.gv{z}(a:nx z=[]):∀(j:Nat) {x},Ln nx j x z->∀k,0<k->¬Rn nx k x x
 |j,x,h,k,hk,hr=>by
  obtain⟨_,i,hj,h2⟩:=h.rn a hr;exact Ln.gv a i h2 k hk hr
 termination_by j=>j
 decreasing_by omega
theorem Rn.trans{i j:Nat}{x y z}(h:Rn nx i x y)(k:Rn nx j y z):Rn nx (i+j) x z:=by
 induction k with
 |nil=>exact h
 |snoc _ hm a=>exact .snoc (a h) hm
theorem Rn.fn{k:Nat}{x y}(h:Rn nx k x y):∃f:Nat->X,f 0=x/\f k=y/\∀i,i<k->f (i+1)∈nx (f i):=by
 induction h with
 |nil x=>exact⟨λ_=>x,rfl,rfl,λi hi=>absurd hi (by omega)⟩
 | @snoc k x y z _ hm c=>
  obtain⟨f,h1,h2,b⟩:=c;refine⟨λi=>if i<=k then f i else z,by simp[h1],QZ (by omega),λi hi=>?_⟩;show(if i+1<=k then f (i+1) else z)∈nx (if i<=k then f i else z);by_cases a:i<k
  ·rw[QY (show i+1<=k by omega),QY (show i<=k by omega)];exact b i a
  ·obtain rfl:i=k:=by omega
   rw[QZ (show ¬i+1<=i by omega),QY (show i<=i by omega),h2];exact hm
theorem mb{f:Nat->X}:∀ {k:Nat},(∀i,i<k->f (i+1)∈nx (f i))->Rn nx k (f 0) (f k)
 |0,_=>.nil _
 |k+1,h=>.snoc (mb λi hi=>h i (by omega)) (h k (by omega))
theorem FH{f:Nat->X}{k:Nat}{Z:List X}(e:∀i,i<=k->f i∈Z)(hk:Z.length<=k):∃i j,i<j/\j<=k/\f i=f j:=by
 classical
 apply Q4;intro d;have:=eT ((List.range (k+1)).map f) Z (by
  unfold List.Nodup;rw[Ty];refine Tz (R:=λa b:Nat=>a<b) (λ{a b} _ hb c he=>d ⟨a,b,c,by have:=Ri.1 hb;omega,he⟩) List.pairwise_lt_range) (λx hx=>by
  obtain⟨i,hi,rfl⟩:=RB.1 hx;exact e i (by have:=Ri.1 hi;omega))
 simp at this;omega
theorem xD{Z:List X}:∀(k:Nat) (f:Nat->X),(∀i,i<k->f (i+1)∈nx (f i))->(∀i,i<=k->f i∈Z)->∃k',k'<=Z.length/\Rn nx k' (f 0) (f k)
 |k,f,h,a=>by
  by_cases hk:k<=Z.length
  ·exact⟨k,hk,mb h⟩
  ·obtain⟨i,j,c,d,he⟩:=FH (k:=k) a (by omega);obtain⟨k',h1,h2⟩:=xD (Z:=Z) (k - (j - i)) (λt=>if t<=i then f t else f (t+(j - i))) (λt g=>by
    show(if t+1<=i then f (t+1) else f (t+1+(j - i)))∈nx (if t<=i then f t else f (t+(j - i)));by_cases h1:t<i
    ·rw[QY (show t+1<=i by omega),QY (show t<=i by omega)];exact h t (by omega)
    ·by_cases h2:t=i
     ·subst h2;rw[QZ (show ¬t+1<=t by omega),QY (show t<=t by omega),he,show t+1+(j - t)=j+1 by omega];exact h j (by omega)
     ·rw[QZ (show ¬t+1<=i by omega),QZ (show ¬t<=i by omega),show t+1+(j - i)=t+(j - i)+1 by omega];exact h _ (by omega)) (λt g=>by
    show(if t<=i then f t else f (t+(j - i)))∈Z;split
    ·exact a t (by omega)
    ·exact a _ (by omega))
   refine⟨k',h1,?_⟩;rw[QY (by omega)]at h2;have e:(if k - (j - i)<=i then f (k - (j - i)) else f (k - (j - i)+(j - i)))=f k:=by
    by_cases b:k - (j - i)<=i
    ·have:k=j:=by omega
     rw[QY b,this,<-he];congr 1;omega
    ·rw[QZ b];congr 1;omega
   rwa [e]at h2
 termination_by k=>k
 decreasing_by omega
inductive ph (nx:X->List X) (bad:X->Prop) (O:List X) (K:Nat) (o:X):Prop
 |move:(∀w∈nx o,w∈O)->ph nx bad O K o
 |pw (Z:List X):Z.length<=K->(∀w∈nx o,w∈Z)->(∀z∈Z,(∀w∈nx z,w∈Z\/w∈O)\/∃o'∈O,nx z=nx o')->ph nx bad O K o
 |drop (k:Nat) (y z:X):k<=2000000->nx o=[y]->Ln nx k y z->nx z=[]->bad z->ph nx bad O K o
theorem Ca{bad:X->Prop}{O}{K:Nat}{mv:X->Bool}(g:∀o,mv o=true->o∈O->∀w∈nx o,w∈O):∀(a:List X),(∀o∈a,o∈O)->(∀o∈a,ph nx bad O K o)->∃(Z B:List X),Z.length+K*B.length<=K*(a.filter λo=> !mv o).length/\B.length<=(a.filter λo=> !mv o).length/\
  (∀z∈Z,(∀w∈nx z,w∈Z\/w∈O)\/∃o'∈O,nx z=nx o')/\(∀o∈B,o∈a/\∃k y z,nx o=[y]/\Ln nx k y z/\nx z=[]/\bad z/\k<=2000000)/\∀o∈a,(∀w∈nx o,w∈O)\/(∀w∈nx o,w∈Z)\/o∈B:=by
 intro a;induction a with
 |nil=>intro _ _;exact⟨[],[],by simp,by simp,λz h=>(by cases h),λz h=>(by cases h),λo h=>(by cases h)⟩
 |cons o a l=>
  intro c h;obtain⟨Z,B,h1,h0,h2,i,e⟩:=l (λx hx=>c x (by simp[hx])) λx hx=>h x (by simp[hx]);have f:∀x∈B,x∈o::a/\∃k y z,nx x=[y]/\Ln nx k y z/\nx z=[]/\bad z/\k<=2000000:=λx hx=>⟨by simp[(i x hx).1],(i x hx).2⟩;cases b:mv o with
  |true=>
   rw[Te (by simp[b])];refine⟨Z,B,h1,h0,h2,f,λx hx=>?_⟩;rcases RA.1 hx with rfl|hx
   ·exact .inl (g x b (c x (by simp)))
   ·exact e x hx
  |false=>
   rw[SY (by simp[b]),Q8,Nat.mul_succ];cases h o (by simp)with
   |move hm=>
    refine⟨Z,B,by omega,by omega,h2,f,λx hx=>?_⟩;rcases RA.1 hx with rfl|hx
    ·exact .inl hm
    ·exact e x hx
   |pw j g1 g2 g3=>
    refine⟨j++Z,B,by rw[Q0];omega,by omega,λz d=>?_,f,λx hx=>?_⟩
    ·rcases RR.1 d with d|d
     ·rcases g3 z d with h|h
      ·exact .inl λw hw=>(h w hw).imp (λh=>by simp[h]) id
      ·exact .inr h
     ·rcases h2 z d with h|h
      ·exact .inl λw hw=>(h w hw).imp (λh=>by simp[h]) id
      ·exact .inr h
    ·rcases RA.1 hx with rfl|hx
     ·exact .inr (.inl λw hw=>by simp[g2 w hw])
     ·rcases e x hx with h|h|h
      ·exact .inl h
      ·exact .inr (.inl λw hw=>by simp[h w hw])
      ·exact .inr (.inr h)
   |drop k y z g0 g1 g2 g3 g4=>
    refine⟨Z,o::B,by rw[Q8,Nat.mul_succ];omega,by rw[Q8];omega,h2,λx hx=>?_,λx hx=>?_⟩
    ·rcases RA.1 hx with rfl|hx
     ·exact⟨by simp,k,y,z,g1,g2,g3,g4,g0⟩
     ·exact f x hx
    ·rcases RA.1 hx with rfl|hx
     ·exact .inr (.inr (by simp))
     ·rcases e x hx with h|h|h
      ·exact .inl h
      ·exact .inr (.inl h)
      ·exact .inr (.inr (by simp[h]))
def MK(nx:X->List X)(y:X):Nat->X
 |0=>y
 |i+1=>(nx (MK nx y i)).headD (MK nx y i)
theorem Ln.last:∀ {i:Nat} {y x},Ln nx (i+1) y x->∃w,Ln nx i y w/\nx w=[x]
 |0,y,x,h=>by
  cases h with
  |cons h1 h2=>cases h2;exact⟨_,.nil _,h1⟩
 |i+1,y,x,h=>by
  cases h with
  |cons h1 h2=>obtain⟨w,a,b⟩:=h2.last;exact⟨w,.cons h1 a,b⟩
theorem Ln.at_:∀ {i:Nat} {y x},Ln nx i y x->x=MK nx y i
 |0,y,x,h=>by cases h;rfl
 |i+1,y,x,h=>by
  obtain⟨w,h1,h2⟩:=h.last;rw[h1.at_]at h2;show x=(nx (MK nx y i)).headD _;rw[h2]
  rfl
theorem Ln.QN{i:Nat}{x y}(h:Ln nx i x y):Rn nx i x y:=by
 induction i generalizing y with
 |zero=>cases h;exact .nil _
 |succ i a=>
  obtain⟨w,h1,h2⟩:=h.last;exact .snoc (a h1) (by rw[h2];simp)
theorem yk{bad:X->Prop}{O:List X}{K:Nat}{s}(F:∀o∈O,ph nx bad O K o)(hs:s∈O)(m:∀o∈O,∀w∈nx o,∃k,Rn nx k s w){mv:X->Bool}(u:∀o,mv o=true->o∈O->∀w∈nx o,w∈O){A:Nat}(E:(O.filter λo=> !mv o).length<=A):
  ∃(W a:Nat),W+K*a<=O.length+K*A/\a<=A/\(∀x k j,Rn nx k s x->0<j->Rn nx j x x->∃k',k'<=W/\Rn nx k' s x)/\
   (∀(l:List X),l.Nodup->∀n,(∀x∈l,∃k,k<=n/\Rn nx k s x)->l.length<=W+a*(n+1))/\(0<a->∃k x,Rn nx k s x/\nx x=[]/\bad x)/\∃U:List X,U.length<=W+a*2000001/\∀k x,Rn nx k s x->x∈U:=by
 classical
 obtain⟨Z,B,h1,h0,h2,v,D⟩:=Ca u O (λ_ h=>h) F;have hm:=T0 K E;have hr:∀k x,Rn nx k s x->(x∈O\/x∈Z)\/∃o∈B,∃y i j z,nx o=[y]/\(i<=k/\i+j<=2000000)/\Ln nx i y x/\Ln nx j x z/\nx z=[]:=λk x h=>by
  have g:∀(k:Nat),∀o∈O,∀w∈nx o,(w∈O\/w∈Z)\/∃o∈B,∃y i j z,nx o=[y]/\(i<=k/\i+j<=2000000)/\Ln nx i y w/\Ln nx j w z/\nx z=[]:=λk o b w hw=>by
   rcases D o b with h|h|h
   ·exact .inl (.inl (h w hw))
   ·exact .inl (.inr (h w hw))
   ·obtain⟨_,j,y,z,g1,g2,g3,_,g0⟩:=v o h;rw[g1,Rj]at hw;subst hw;exact .inr ⟨o,h,w,0,j,z,g1,by omega,.nil _,g2,g3⟩
  induction h with
  |nil=>exact .inl (.inl hs)
  | @snoc k s y x _ hx M=>
   rcases M hs m with(h|h)|⟨o,b,N,i,j,z,g1,g2,g3,g4,g5⟩
   ·exact g _ _ h _ hx
   ·rcases h2 y h with h|⟨o',h,e⟩
    ·exact .inl (h x hx).symm
    ·rw[e]at hx;exact g _ _ h _ hx
   ·cases g4 with
    |nil=>rw[g5]at hx;exact absurd hx List.not_mem_nil
    |cons p q=>
     rw[p,Rj]at hx;subst hx;exact .inr ⟨o,b,N,i+1,_,z,g1,by omega,g3.snoc p,q,g5⟩
 refine⟨(O++Z).length,B.length,by rw[Q0];omega,by omega,λx k j hk H hc=>?_,λl hl n hn=>?_,λG=>?_,(O++Z)++B.flatMap λo=>(List.range 2000001).map λi=>MK nx ((nx o).headD o) i,?_,λk x c=>?_⟩
 ·obtain⟨f,f1,f2,f3⟩:=hk.fn;have L:∀i,i<=k->f i∈O++Z:=λi hi=>by
   have r:Rn nx i s (f i):=by rw[<-f1];exact mb λt J=>f3 t (by omega)
   rcases hr i _ r with h|⟨o,_,y,i',P,z,_,_,_,g4,g5⟩
   ·exact RR.2 h
   ·exfalso;have d:Rn nx (k - i) (f i) x:=by
     have:=mb (nx:=nx) (f:=λt=>f (i+t)) (k:=k - i) (λt J=>f3 (i+t) (by omega));simp only[Tl]at this;rwa [show i+(k - i)=k by omega,f2]at this
    obtain⟨_,i2,_,g6⟩:=g4.rn g5 d;exact Ln.gv g5 i2 g6 j H hc
  obtain⟨k',p,q⟩:=xD k f f3 L;rw[f1,f2]at q;exact⟨k',p,q⟩
 ·have:=eT l ((O++Z)++B.flatMap λo=>(List.range (n+1)).map λi=>MK nx ((nx o).headD o) i) hl (λx hx=>by
   obtain⟨k,C,c⟩:=hn x hx;rcases hr k x c with h|⟨o,b,y,i,j,z,g1,g2,g3,_,_⟩
   ·exact SH _ (RR.2 h)
   ·refine Um _ (S9.2 ⟨o,b,RB.2 ⟨i,Ri.2 (by omega),?_⟩⟩);rw[g1];exact g3.at_.symm)
  have c:=lP (λo=>(List.range (n+1)).map λi=>MK nx ((nx o).headD o) i) (n+1) B (λo _=>by simp);rw[Q0]at this;omega
 ·obtain⟨o,b⟩:=Uo G;obtain⟨C,k,y,z,g1,g2,g3,g4,_⟩:=v o b;obtain⟨Q,c⟩:=m o C y (by rw[g1];simp);exact⟨_,z,c.trans g2.QN,g3,g4⟩
 ·have c:=lP (λo=>(List.range 2000001).map λi=>MK nx ((nx o).headD o) i) 2000001 B (λo _=>by rw[RN,Sz];exact Rc _);rw[Q0];exact Nat.add_le_add_left c _
 ·rcases hr k x c with h|⟨o,b,y,i,j,z,g1,g2,g3,_,_⟩
  ·exact SH _ (RR.2 h)
  ·refine Um _ (S9.2 ⟨o,b,RB.2 ⟨i,Ri.2 (by omega),?_⟩⟩);rw[g1];exact g3.at_.symm
theorem filter_le{p q:X->Bool}:∀ {l:List X},(∀x,p x=true->q x=true)->(l.filter p).length<=(l.filter q).length
 | [],_=>Rc _
 |a::l,h=>by
  have b:=filter_le (l:=l) h;cases hp:p a with
  |false=>
   rw[Te (by simp[hp])];exact Rr b ((List.sublist_cons_self a l).filter q).length_le
  |true=>
   rw[SY (by simp[hp]),SY (by simp[h a hp])];simp only[Q8];omega
theorem BZ{bad:X->Prop}{O:List X}{K:Nat}{s}(r:∀o∈O,ph nx bad O K o)(hs:s∈O){A c:Nat}(hc:O.length<=c){mv:X->Bool}(m:∀o,mv o=true->o∈O->∀w∈nx o,w∈O)(q:(O.filter λo=> !mv o).length<=A):
  ∃(W a:Nat),W+K*a<=c+K*A/\a<=A/\(∀x k j,Rn nx k s x->0<j->Rn nx j x x->∃k',k'<=W/\Rn nx k' s x)/\
   (∀(l:List X),l.Nodup->∀n,(∀x∈l,∃k,k<=n/\Rn nx k s x)->l.length<=W+a*(n+1))/\(0<a->∃k x,Rn nx k s x/\nx x=[]/\bad x)/\∃U:List X,U.length<=W+a*2000001/\∀k x,Rn nx k s x->x∈U:=by
 classical
 let rc:X->Prop:=λx=>∃k,Rn nx k s x
 let f:X->Prop:=λo=>∀w∈nx o,rc w
 have g:∀x,rc x->f x:=λx ⟨k,h⟩ w hw=>⟨k+1,.snoc h hw⟩;have i:∀o∈O.filter λo=>decide (f o),ph nx bad (O.filter λo=>decide (f o)) K o:=λo b=>by
  rw[RK,R3]at b;have d:∀w,rc w->w∈O->w∈O.filter λo=>decide (f o):=λw h1 h2=>RK.2 ⟨h2,Rb (g w h1)⟩;cases r o b.1 with
  |move hm=>exact .move λw hw=>d w (b.2 w hw) (hm w hw)
  |pw Z g1 g2 g3=>
   refine .pw (Z.filter λz=>decide (rc z)) (Rr (RG _ _) g1) (λw hw=>RK.2 ⟨g2 w hw,Rb (b.2 w hw)⟩) λz p=>?_;rw[RK,R3]at p;have hv:=g z p.2;rcases g3 z p.1 with h|⟨o',h,e⟩
   ·refine .inl λw hw=>?_;rcases h w hw with h|h
    ·exact .inl (RK.2 ⟨h,Rb (hv w hw)⟩)
    ·exact .inr (d w (hv w hw) h)
   ·exact .inr ⟨o',RK.2 ⟨h,Rb (λw hw=>hv w (by rw[e];exact hw))⟩,e⟩
  |drop k y z g0 g1 g2 g3 g4=>exact .drop k y z g0 g1 g2 g3 g4
 obtain⟨W,a,h1,h2⟩:=yk i (RK.2 ⟨hs,Rb (g s ⟨0,.nil s⟩)⟩) (λo b=>by
  rw[RK,R3]at b;exact b.2) (mv:=mv) (λo hm b w hw=>by
  rw[RK,R3]at b;exact RK.2 ⟨m o hm b.1 w hw,Rb (g w (b.2 w hw))⟩) (A:=A) (by
   refine Rr ?_ q;rw[T7];exact filter_le λx h=>(Q3.1 h).1)
 refine⟨W,a,?_,h2⟩;have:=RG (λo=>decide (f o)) O;omega
end
section
variable {X κ:Type} {nx:X->List X} {bad:X->Prop}
def lG(nx:X->List X)(bad:X->Prop)(m:Nat)(x:X)(P:X->Prop):Prop:=∃k z,k<=m/\Ln nx k x z/\(P z\/(nx z=[]/\bad z))
theorem lG.mono{m a:Nat}{x}{P Q:X->Prop}(h:lG nx bad m x P)(hm:m<=a)(c:∀z,P z->Q z):lG nx bad a x Q:=by
 obtain⟨k,z,h1,h2,b⟩:=h;exact⟨k,z,by omega,h2,b.imp (c z) id⟩
theorem lG.here{m:Nat}{x}{P:X->Prop}(h:P x):lG nx bad m x P:=⟨0,x,by omega,.nil x,.inl h⟩
theorem lG.dropped{m:Nat}{x}{P:X->Prop}(h:nx x=[])(hb:bad x):lG nx bad m x P:=⟨0,x,by omega,.nil x,.inr ⟨h,hb⟩⟩
theorem lG.step{m:Nat}{x y}{P:X->Prop}(h:nx x=[y])(k:lG nx bad m y P):lG nx bad (m+1) x P:=by
 obtain⟨i,z,h1,h2,a⟩:=k;exact⟨i+1,z,by omega,.cons h h2,a⟩
abbrev U0:=@lG.step
theorem lG.bind{m b:Nat}{x}{P Q:X->Prop}(h:lG nx bad m x P)(hk:∀z,P z->lG nx bad b z Q):lG nx bad (m+b) x Q:=by
 obtain⟨i,z,h1,h2,a⟩:=h;rcases a with a|a
 ·obtain⟨j,w,g1,g2,g3⟩:=hk z a;exact⟨i+j,w,by omega,h2.trans g2,g3⟩
 ·exact⟨i,z,by omega,h2,.inr a⟩
structure My (nx:X->List X) (bad:X->Prop) (O:List X) (Y:κ->List bG->X) (ok inv:κ->List bG->Prop) (hk:κ->Prop) (m e:Nat):Prop where
 len:∀ {c r},ok c r->r.length<=32
 out:∀c,hk c->(∃c' ρ,hk c'/\(∀r,inv c r->inv c' (ρ++r))/\∀r,inv c r->ok c r->lG nx bad m (Y c r) λz=>nx z=[Y c' (ρ++r)]/\ok c' (ρ++r))\/
  (∀r,inv c r->ok c r->lG nx bad m (Y c r) λz=>(∀w∈nx z,w∈O)\/∃o∈O,nx z=nx o)\/
  (∀r,inv c r->ok c r->lG nx bad e (Y c r) λz=>nx z=[])
variable {O:List X} {Y:κ->List bG->X} {ok inv:κ->List bG->Prop} {hk:κ->Prop} {m e:Nat}
def My.G(nx:X->List X)(bad:X->Prop)(Y:κ->List bG->X)(ok inv:κ->List bG->Prop)(m:Nat)(c c':κ)(ρ:List bG):Prop:=(∀r,inv c r->inv c' (ρ++r))/\∀r,inv c r->ok c r->lG nx bad m (Y c r) λz=>nx z=[Y c' (ρ++r)]/\ok c' (ρ++r)
inductive Gs (nx:X->List X) (bad:X->Prop) (Y:κ->List bG->X) (ok inv:κ->List bG->Prop) (m:Nat):Nat->κ->κ->List bG->Prop
 |nil (c:κ):Gs nx bad Y ok inv m 0 c c []
 |snoc {n:Nat} {c c' c'':κ} {ρ ρ':List bG}:Gs nx bad Y ok inv m n c c' ρ->My.G nx bad Y ok inv m c' c'' ρ'->Gs nx bad Y ok inv m (n+1) c c'' (ρ'++ρ)
theorem Gs.run{n:Nat}{c c' ρ}(h:Gs nx bad Y ok inv m n c c' ρ)(r:List bG)(hi:inv c r)(d:ok c r):
  inv c' (ρ++r)/\((∃k,k<=n*(m+1)/\Ln nx k (Y c r) (Y c' (ρ++r))/\ok c' (ρ++r))\/∃k z,k<=n*(m+1)/\Ln nx k (Y c r) z/\nx z=[]/\bad z):=by
 induction h with
 |nil=>exact⟨hi,.inl ⟨0,by omega,.nil _,d⟩⟩
 | @snoc n _ c' c'' ρ ρ' _ b g=>
  obtain⟨h1,h2⟩:=g hi d;rw[RO,SB];refine⟨b.1 _ h1,?_⟩;rcases h2 with⟨k,h0,a,f⟩|⟨k,z,h0,h2⟩
  ·obtain⟨i,z,g1,g2,g3⟩:=b.2 _ h1 f;rcases g3 with⟨g3,g4⟩|g3
   ·exact .inl ⟨_,by omega,a.trans (g2.snoc g3),g4⟩
   ·exact .inr ⟨_,z,by omega,a.trans g2,g3⟩
  ·exact .inr ⟨k,z,by omega,h2⟩
theorem Gs.grow(M:My nx bad O Y ok inv hk m e){n:Nat}{c ρ}(h:Gs nx bad Y ok inv m n c c ρ)(a:ρ≠[]):∀(f:Nat) (r:List bG),33<=r.length+f->inv c r->ok c r->∃k z,k<=f*(n*(m+1))/\Ln nx k (Y c r) z/\nx z=[]/\bad z
 |0,r,i,_,b=>by have:=M.len b;omega
 |f+1,r,i,hi,b=>by
  obtain⟨h1,h2⟩:=h.run r hi b;rw[SB];rcases h2 with⟨k,h0,d,g⟩|⟨k,z,h0,h2⟩
  ·have:=S5.2 a;obtain⟨j,z,g0,g1,g2⟩:=Gs.grow M h a f (ρ++r) (by rw[Q0];omega) h1 g;exact⟨_,z,by omega,d.trans g1,g2⟩
  ·exact⟨k,z,by omega,h2⟩
theorem Ln.zj{k:Nat}{x z}(h:Ln nx k x z):∃Z:List X,Z.length<=k+1/\x∈Z/\z∈Z/\∀y∈Z,y=z\/∃w∈Z,nx y=[w]:=by
 induction h with
 |nil x=>exact⟨[x],by simp,by simp,by simp,λy hy=>.inl (by simpa using hy)⟩
 | @cons k x y z h1 _ a=>
  obtain⟨Z,g1,g2,g3,g4⟩:=a;refine⟨x::Z,by simp;omega,by simp,by simp[g3],λw hw=>?_⟩;rcases RA.1 hw with rfl|hw
  ·exact .inr ⟨y,by simp[g2],h1⟩
  ·rcases g4 w hw with h|⟨v,h,e⟩
   ·exact .inl h
   ·exact .inr ⟨v,by simp[h],e⟩
structure Pg (nx:X->List X) (bad:X->Prop) (O:List X) (Y:κ->List bG->X) (ok inv:κ->List bG->Prop) (m:Nat) (x0:X) (H:List κ) (Z:List X) (c:κ) (r:List bG):Prop where
 len:Z.length<=H.length*(m+1)
 first:(H=[]/\x0=Y c r)\/x0∈Z
 N0:∃k,k<=H.length*(m+1)/\Ln nx k x0 (Y c r)
 cl:∀z∈Z,(∃w∈Z,nx z=[w])\/nx z=[Y c r]
 N6:∀h∈H,∃n ρ r',n<=H.length/\Gs nx bad Y ok inv m n h c ρ/\r=ρ++r'/\Y h r'∈Z
theorem Pg.HW[DecidableEq κ](M:My nx bad O Y ok inv hk m e){g:List κ}(p:∀c,hk c->c∈g){x0}:∀(f:Nat) (H:List κ) (Z:List X) (c:κ) (r:List bG),H.Nodup->(∀h∈H,h∈g)->g.length+1<=H.length+f->Pg nx bad O Y ok inv m x0 H Z c r->hk c->inv c r->ok c r->
  (∃Z:List X,Z.length<=g.length*(m+1)+(m+e+2)/\x0∈Z/\∀z∈Z,(∀w∈nx z,w∈Z\/w∈O)\/∃o'∈O,nx z=nx o')\/∃k z,k<=34*(g.length*(m+1))+(m+e)/\Ln nx k x0 z/\nx z=[]/\bad z
 |0,H,Z,c,r,hn,hs,Q,_,_,_,_=>by have:=eT H g hn hs;omega
 |f+1,H,Z,c,r,hn,hs,Q,h,hc,hi,t=>by
  have q:=eT H g hn hs;have R:=Sk (m+1) q;have N:=h.len;obtain⟨V,T,hw⟩:=h.N0;by_cases i:c∈H
  ·obtain⟨n,ρ,r',g0,g1,g2,g3⟩:=h.N6 c i;cases ρ with
   |nil=>
    rw[Sx]at g2;subst g2;refine .inl ⟨Z,by omega,?_,λz s=>.inl λw hw=>.inl ?_⟩
    ·rcases h.first with⟨d,_⟩|d
     ·rw[d]at i;cases i
     ·exact d
    ·rcases h.cl z s with⟨v,hv,d⟩|d
     ·rw[d,Rj]at hw;rw[hw];exact hv
     ·rw[d,Rj]at hw;rw[hw];exact g3
   |cons a ρ=>
    obtain⟨k,z,U,d,j⟩:=g1.grow M (by simp) 33 r (by omega) hi t;have K:33*(n*(m+1))<=33*(g.length*(m+1)):=T0 _ (Sk _ (by omega));exact .inr ⟨_,z,by omega,hw.trans d,j⟩
  ·
   have l:∀(n:Nat) (P:X->Prop),n<=m+e->lG nx bad n (Y c r) P->(∀z,P z->(∀w∈nx z,w∈O)\/∃o∈O,nx z=nx o)->
     (∃Z:List X,Z.length<=g.length*(m+1)+(m+e+2)/\x0∈Z/\∀z∈Z,(∀w∈nx z,w∈Z\/w∈O)\/∃o'∈O,nx z=nx o')\/∃k z,k<=34*(g.length*(m+1))+(m+e)/\Ln nx k x0 z/\nx z=[]/\bad z:=λn P S hr L=>by
    obtain⟨k,z,g1,g2,g3⟩:=hr;rcases g3 with g3|g3
    ·obtain⟨u,d,j,E,A⟩:=g2.zj;refine .inl ⟨Z++u,by rw[Q0];omega,?_,λy hy=>?_⟩
     ·rcases h.first with⟨_,b⟩|b
      ·rw[b];simp[j]
      ·simp[b]
     ·rcases RR.1 hy with hy|hy
      ·refine .inl λw hw=>.inl ?_;rcases h.cl y hy with⟨v,hv,b⟩|b
       ·rw[b,Rj]at hw;rw[hw];simp[hv]
       ·rw[b,Rj]at hw;rw[hw];simp[j]
      ·rcases A y hy with rfl|⟨v,hv,b⟩
       ·rcases L _ g3 with C|C
        ·exact .inl λw hw=>.inr (C w hw)
        ·exact .inr C
       ·exact .inl λw hw=>.inl (by rw[b,Rj]at hw;rw[hw];simp[hv])
    ·exact .inr ⟨_,z,by omega,hw.trans g2,g3⟩
   rcases M.out c hc with⟨c',ρ,h1,h2,B⟩|h1|h1
   ·obtain⟨k,z,g1,g2,g3⟩:=B r hi t;rcases g3 with⟨g3,g4⟩|g3
    ·obtain⟨u,d,j,E,A⟩:=g2.zj;refine Pg.HW M p f (c::H) (Z++u) c' (ρ++r) (SD.2 ⟨i,hn⟩) (λx hx=>?_) (by rw[Q8];omega) ⟨?_,?_,⟨_,by rw[Q8,SB];omega,hw.trans (g2.snoc g3)⟩,λy hy=>?_,λx hx=>?_⟩ h1 (h2 r hi) g4
     ·rcases RA.1 hx with rfl|hx
      ·exact p _ hc
      ·exact hs x hx
     ·rw[Q0,Q8,SB];omega
     ·refine .inr ?_;rcases h.first with⟨_,b⟩|b
      ·rw[b];simp[j]
      ·simp[b]
     ·rcases RR.1 hy with hy|hy
      ·rcases h.cl y hy with⟨v,hv,b⟩|b
       ·exact .inl ⟨v,by simp[hv],b⟩
       ·exact .inl ⟨_,by simp[j],b⟩
      ·rcases A y hy with rfl|⟨v,hv,b⟩
       ·exact .inr g3
       ·exact .inl ⟨v,by simp[hv],b⟩
     ·rcases RA.1 hx with rfl|hx
      ·exact⟨1,ρ++[],r,by simp,.snoc (.nil _) ⟨h2,B⟩,by rw[R9],by simp[j]⟩
      ·obtain⟨n0,D,r',F,b,G,J⟩:=h.N6 x hx;exact⟨n0+1,ρ++D,r',by rw[Q8];omega,.snoc b ⟨h2,B⟩,by rw[G,RO],by simp[J]⟩
    ·exact .inr ⟨_,z,by omega,hw.trans g2,g3⟩
   ·exact l m _ (by omega) (h1 r hi t) λz s=>s
   ·exact l e _ (by omega) (h1 r hi t) λz s=>.inl λw hw=>by rw[s]at hw;cases hw
theorem My.HW[DecidableEq κ](M:My nx bad O Y ok inv hk m e){a:List κ}(b:∀c,hk c->c∈a){c r}(hc:hk c)(hi:inv c r)(f:ok c r):(∃Z:List X,Z.length<=a.length*(m+1)+(m+e+2)/\Y c r∈Z/\∀z∈Z,(∀w∈nx z,w∈Z\/w∈O)\/∃o'∈O,nx z=nx o')\/∃k z,k<=34*(a.length*(m+1))+(m+e)/\Ln nx k (Y c r) z/\nx z=[]/\bad z:=
 Pg.HW M b (a.length+1) [] [] c r UE (λ_ h=>by cases h) (by simp) ⟨by simp,.inl ⟨rfl,rfl⟩,⟨0,by omega,.nil _⟩,λz g=>(by cases g),λh d=>(by cases d)⟩ hc hi f
end
abbrev Xs:=Nat×List bG
def DV(T:ak)(o:Out):List Xs:=o.aA.map λa=>((aN T a.toNat).toNat,o.eJ.stack)
noncomputable def dw(T:ak)(tb:Nat->cQ)(p0:dq)(z:Xs):List Xs:=DV T (bh T tb p0 z.1 z.2)
def iU(T:ak)(tb:Nat->cQ)(p0:dq)(z:Xs):Prop:=(bh T tb p0 z.1 z.2).dJ≠ -1
structure nh (T:ak) (n:Nat) (u:List bG) (z:Xs):Prop where
 here:z.1=n
 node:(n:Int)<T.nodes
 len:z.2.length<=32
 skip:cU ⟨1,(n:Int)⟩ z.2=cU ⟨1,(n:Int)⟩ u
section
variable {T:ak} {tb:Nat->cQ} {p0:dq} {d n:Nat} {z:Xs} {r:List bG}
theorem qL{y:Nat}(h:n≠y):cU ⟨1,(n:Int)⟩ (⟨1,(y:Int)⟩::r)=⟨1,(y:Int)⟩::r:=by
 simp only[cU];rw[QZ (λe=>by
  injection e with a b;omega)]
theorem vc{a:Int}:cU ⟨1,(n:Int)⟩ (⟨2,a⟩::r)=⟨2,a⟩::r:=by
 simp only[cU];rw[QZ (λe=>by
  injection e with b c;cases b)]
theorem zh:cU ⟨1,(n:Int)⟩ (⟨1,(n:Int)⟩::r)=cU ⟨1,(n:Int)⟩ r:=by
 simp only[cU,Sw]
theorem xE(h:bG):∀l,cU h (cU h l)=cU h l
 | []=>rfl
 |a::l=>by
  by_cases e:a=h
  ·simp only[cU];rw[QY e];exact xE h l
  ·simp only[cU];rw[QZ e];simp only[cU];rw[QZ e]
theorem nh.mk'(hn:(n:Int)<T.nodes)(hr:r.length<=32):nh T n r (n,r):=⟨rfl,hn,hr,rfl⟩
theorem nh.to{u v}(h:nh T n u z)(e:cU ⟨1,(n:Int)⟩ u=cU ⟨1,(n:Int)⟩ v):nh T n v z:=⟨h.here,h.node,h.len,h.skip.trans e⟩
structure zt (T:ak) (tb:Nat->cQ) (p0:dq) (d:Nat):Prop where
 ok:∀n:Nat,(n:Int)<T.nodes->(tb n).node=(n:Int)/\df T (tb n)=true
 dst:p0.dst=(d:Int)
 hd:(d:Int)<T.nodes
theorem zt.step(B:zt T tb p0 d){u}(h:nh T n u z):bh T tb p0 z.1 z.2=cB T (tb n) (cu p0 z.2) (cU ⟨1,(n:Int)⟩ u) (cB T (tb n) (cu p0 z.2) [] (dZ (cu p0 z.2) 1)):=by
 have hb:aX T (cu p0 z.2).dst=true:=aQ.2 ⟨by show 0<=p0.dst;rw[B.dst];omega,by show p0.dst<_;rw[B.dst];exact B.hd⟩;obtain⟨h1,h2⟩:=B.ok n h.node;have hl:=h.len;unfold bh fX;rw[h.here,h2,hb,h1,QZ (by simp),QZ (show ¬32<((cu p0 z.2).stack.length:Int) from by show ¬32<((z.2).length:Int);omega)];show cB T (tb n) (cu p0 z.2) (cU ⟨1,(n:Int)⟩ z.2) _=_;rw[h.skip]
theorem xr(x:cQ)(s:List bG)(K:Out):DV T (cB T x (cu p0 s) [] K)=DV T (cB T x (cu p0 []) [] (dZ (cu p0 []) 1))/\(cB T x (cu p0 s) [] K).dJ=(cB T x (cu p0 []) [] (dZ (cu p0 []) 1)).dJ:=by
 unfold cB;have a:(cu p0 s).dst=p0.dst:=rfl;have b:(cu p0 []).dst=p0.dst:=rfl;have c:(cu p0 s).eB=0:=rfl;have e:(cu p0 []).eB=0:=rfl;rw[a,b,c,e];by_cases h:p0.dst=x.node
 ·rw[QY (by simp[h]),QY (by simp[h])];exact⟨rfl,rfl⟩
 ·rw[QZ (by simp[h]),QZ (by simp),QZ (by simp[h]),QZ (by simp)];dsimp only;unfold zv;split
  ·unfold fS;split
   ·split<;>exact⟨rfl,rfl⟩
   ·exact⟨rfl,rfl⟩
  ·exact⟨rfl,rfl⟩
theorem zt.here(B:zt T tb p0 d)(hn:(n:Int)<T.nodes):bh T tb p0 n []=cB T (tb n) (cu p0 []) [] (cB T (tb n) (cu p0 []) [] (dZ (cu p0 []) 1)):=B.step (z:=(n,[])) (u:=[]) ⟨rfl,hn,by simp,rfl⟩
theorem zt.reset(B:zt T tb p0 d)(hn:(n:Int)<T.nodes){s K}:DV T (cB T (tb n) (cu p0 s) [] K)=dw T tb p0 (n,[])/\(cB T (tb n) (cu p0 s) [] K).dJ=(bh T tb p0 n []).dJ:=by
 have h1:=xr (T:=T) (p0:=p0) (tb n) s K;have h2:=xr (T:=T) (p0:=p0) (tb n) [] (cB T (tb n) (cu p0 []) [] (dZ (cu p0 []) 1));unfold dw;show _=DV T (bh T tb p0 n [])/\_;rw[B.here hn];exact⟨h1.1.trans h2.1.symm,h1.2.trans h2.2.symm⟩
theorem zt.nil(B:zt T tb p0 d)(h:nh T n [] z):dw T tb p0 z=dw T tb p0 (n,[]):=by
 have:=B.step h;unfold dw;rw[this];exact(B.reset h.node).1
theorem CY{x}{p:dq}(y:Int)(K:Out)(a:p.eB=0):cB T x p (⟨1,y⟩::r) K=zv T x p (⟨1,y⟩::r) y K:=by
 unfold cB;rw[QZ (by simp;intro h;omega),a,QZ (by simp)];dsimp only;rw[QY rfl]
theorem Gc{x:cQ}{p:dq}{a:Nat}(K:Out)(c:p.eB=0)(f:a<2*T.ah.length)(e:aZ T a=x.node):cB T x p (⟨2,(a:Int)⟩::r) K=if(a:Int)∈x.down then K else dO p r [(a:Int)]:=by
 have b:ef T (a:Int)=true:=cH.2 ⟨by omega,by omega⟩;unfold cB;rw[QZ (by simp;intro h;omega),c,QZ (by simp)];dsimp only;rw[QZ (by decide),QY rfl,b,QS,e,QZ (by simp)]
theorem zt.node(B:zt T tb p0 d){y:Nat}(hy:(y:Int)<T.nodes)(c:n≠y)(h:nh T n (⟨1,(y:Int)⟩::r) z){e:jI}(he:cw (tb n) (y:Int)=e):(e.aA=[]->dw T tb p0 z=dw T tb p0 (n,[]))/\
  (e.aA≠[]->e.rep=false->dw T tb p0 z=e.aA.map λa=>((aN T a.toNat).toNat,⟨1,(y:Int)⟩::r))/\
  (e.aA≠[]->e.rep=true->32<(e.push++r).length->dw T tb p0 z=[]/\iU T tb p0 z)/\
  (e.aA≠[]->e.rep=true->(e.push++r).length<=32->dw T tb p0 z=e.aA.map λa=>((aN T a.toNat).toNat,e.push++r)):=by
 have hs:=B.step h;rw[qL c]at hs;have f:aX T (y:Int)=true:=aQ.2 ⟨by omega,hy⟩;have b:bh T tb p0 z.1 z.2=zv T (tb n) (cu p0 z.2) (⟨1,(y:Int)⟩::r) (y:Int) (cB T (tb n) (cu p0 z.2) [] (dZ (cu p0 z.2) 1)):=by
  rw[hs,CY _ _ rfl]
 refine⟨λh1=>?_,λh1 h2=>?_,λh1 h2 g=>?_,λh1 h2 g=>?_⟩
 ·unfold dw;rw[b];unfold zv;rw[he,h1,QZ (by simp)];exact(B.reset h.node).1
 all_goals
  have i:0<e.aA.length:=S5.2 h1;unfold zv at b;rw[he,f,QY (by simp;omega)]at b;unfold fS at b;rw[h2]at b
 ·rw[QZ (by simp)]at b;unfold dw;rw[b]
  rfl
 ·rw[QY rfl,List.drop_one,List.tail_cons,QY g]at b;unfold dw iU;rw[b];exact⟨rfl,by show(5:Int)≠ -1;decide⟩
 ·rw[QY rfl,List.drop_one,List.tail_cons,QZ (by omega)]at b;unfold dw;rw[b]
  rfl
theorem zt.eZ(B:zt T tb p0 d){a:Nat}(c:a<2*T.ah.length)(e:aZ T a=(n:Int))(h:nh T n (⟨2,(a:Int)⟩::r) z):
  ((a:Int)∈(tb n).down->dw T tb p0 z=dw T tb p0 (n,[]))/\((a:Int)∉(tb n).down->dw T tb p0 z=[((aN T a).toNat,r)]):=by
 have hs:=B.step h;rw[vc]at hs;have b:bh T tb p0 z.1 z.2=if(a:Int)∈(tb n).down then cB T (tb n) (cu p0 z.2) [] (dZ (cu p0 z.2) 1) else dO (cu p0 z.2) r [(a:Int)]:=by
  rw[hs,Gc _ rfl c (e.trans (B.ok n h.node).1.symm)]
 refine⟨λh1=>?_,λh1=>?_⟩
 ·rw[QY h1]at b;unfold dw;rw[b];exact(B.reset h.node).1
 ·rw[QZ h1]at b;unfold dw;rw[b]
  rfl
theorem zt.jj(B:zt T tb p0 d):dw T tb p0 (d,[])=[]:=by
 unfold dw;show DV T (bh T tb p0 d [])=[];rw[B.here B.hd];have a:(cu p0 []).dst=(d:Int):=B.dst
 conv=>lhs;unfold cB
 rw[a,(B.ok d B.hd).1,QY (by simp)]
 rfl
theorem zt.open_(B:zt T tb p0 d)(hn:(n:Int)<T.nodes){e:jI}(he:cw (tb n) (d:Int)=e)(hp:e.push.length<=32):(n=d->dw T tb p0 (n,[])=[])/\(n≠d->e.aA=[]->dw T tb p0 (n,[])=[])/\
  (n≠d->dw T tb p0 (n,[])=e.aA.map λa=>((aN T a.toNat).toNat,if e.rep then e.push else [])):=by
 have hs:=B.here hn;have b:aX T (d:Int)=true:=aQ.2 ⟨by omega,B.hd⟩;have f:(cu p0 []).dst=(d:Int):=B.dst;have g:(cu p0 []).eB=0:=rfl;have key:n≠d->dw T tb p0 (n,[])=e.aA.map λa=>((aN T a.toNat).toNat,if e.rep then e.push else []):=λi=>by
  unfold dw;show DV T (bh T tb p0 n [])=_;rw[hs]
  conv=>lhs;unfold cB
  rw[f,(B.ok n hn).1,QZ (by simp;omega),g,QZ (by simp)];dsimp only;unfold zv;rw[b,he];by_cases h0:e.aA=[]
  ·rw[h0,QZ (by simp)]
   rfl
  ·have c:0<e.aA.length:=S5.2 h0;rw[QY (by simp;omega)];unfold fS;cases hr:e.rep with
   |true=>rw[QY rfl,List.drop_nil,R9,QZ (by omega),QY rfl];rfl
   |false=>rw[QZ (by simp),QZ (by simp)];rfl
 refine⟨λh=>?_,λh h2=>by rw[key h,h2];rfl,key⟩;subst h;exact B.jj
end
section
variable {T:ak} {k x:Int} {st:Nat->Int} {tb:Nat->cQ} {p0:dq} {d n:Nat} {z:Xs} {r:List bG}
theorem qK(h:bG):∀a b:List bG,cU h (cU h a++b)=cU h (a++b)
 | [],_=>rfl
 |s::a,b=>by
  by_cases e:s=h
  ·simp only[cU,RF];rw[QY e,QY e];exact qK h a b
  ·simp only[cU,RF];rw[QZ e,QZ e,RF];simp only[cU];rw[QZ e]
theorem y6{b:Nat}(hb:b<2*T.ah.length):∃b',b'<2*T.ah.length/\aZ T b'=aN T b/\aN T b'=aZ T b/\aI (az T k x) b'=aI (az T k x) b:=by
 have h2:=Uy b;have a:Net.flip b<2*T.ah.length/\Net.flip b / 2=b / 2/\Net.flip (Net.flip b)=b:=by
  rcases h2 with h|h
  ·have:Net.flip b=b+1:=by simp[Net.flip,h]
   rw[this];exact⟨by omega,by omega,by unfold Net.flip;rw[QZ (by omega)];omega⟩
  ·have:Net.flip b=b - 1:=by simp[Net.flip,h]
   rw[this];exact⟨by omega,by omega,by unfold Net.flip;rw[QY (by omega)];omega⟩
 refine⟨Net.flip b,a.1,rfl,?_,?_⟩
 ·show aZ T (Net.flip (Net.flip b))=_;rw[a.2.2]
 ·rw[wS,wS,a.2.1,Rb hb,Rb a.1]
theorem KQ(hv:av T=true){y b m:Nat}(hy:(y:Int)<T.nodes)(hb:b<2*T.ah.length)(hu:aI (az T k x) b=false)(f:aZ T b=(n:Int))(hm:aN T b=(m:Int))(e:bR T n=false)(h:0<=dN T (az T k x) y n):0<=dN T (az T k x) y m:=by
 obtain⟨b',h1,h2,a,c⟩:=y6 (k:=k) (x:=x) hb;exact(yo hv hy h1 (h2.trans hm) (c.trans hu) (a.trans f) (.inr e) h).1
theorem jY(hv:av T=true){y b m:Nat}(hy:(y:Int)<T.nodes)(hb:b<2*T.ah.length){D}(hu:aI D b=false)(c:aZ T b=(n:Int))(hm:aN T b=(m:Int))(a:m=y\/bR T m=false)(h:0<=dN T D y m):0<=dN T D y n:=(yo hv hy hb c hu hm a h).1
theorem uj(hv:av T=true){D}{y s:Nat}(hs:(s:Int)<T.nodes){p:List Int}(h:Ch T D y n p)(e:y=s\/bR T y=false)(b:0<=dN T D s y):0<=dN T D s n:=by
 induction h with
 |nil=>exact b
 | @cons n a m p c f hu hm hp hr g=>
  refine jY hv hs c hu f hm ?_ g;rcases hp with hp|hp
  ·rw[hr.to hp];exact e
  ·exact .inr hp
structure Ep (T:ak) (k x:Int) (st:Nat->Int) (tb:Nat->cQ) (p0:dq) (d:Nat):Prop where
 B:zt T tb p0 d
 hv:av T=true
 cS:T.nodes<=12
 N8:∀n:Nat,(n:Int)<T.nodes->¬Gn k x n->tb n=mg T (az T k x) (st n) n
structure vJ (T:ak) (k x:Int) (st:Nat->Int) (tb:Nat->cQ) (p0:dq) (d:Nat):Prop extends Ep T k x st tb p0 d where
 perm:Perm T k x false st
theorem Ep.PO(C:Ep T k x st tb p0 d){D}(u:∀a,aI D a=false->aI (az T k x) a=false){y:Nat}{l}{a:Int}{q:List Int}(h:mr T D y n l (a::q))(p:nh T n (l++r) z)(R:¬Gn k x n):
  ∃(b m:Nat) (w:Xs) (N:List bG),a=(b:Int)/\b<2*T.ah.length/\aZ T b=(n:Int)/\aN T b=(m:Int)/\aI (az T k x) b=false/\dw T tb p0 z=[w]/\nh T m (N++r) w/\¬Gn k x m/\mr T D y m N q:=by
 have hn:=p.node;have hx:=vm C.hv C.cS hn (cM T k x) u (st n);rw[<-C.N8 n hn R]at hx;have f:=p.len;have e:=kW ⟨1,(n:Int)⟩ z.2;rw[p.skip]at e;generalize A:a::q=V at h;cases h with
 |nil=>cases A
 | @node n H pp U s hs hr=>
  obtain⟨c0,G,rfl⟩:∃c0 G,pp=c0::G:=by
   cases pp with
   |nil=>exact absurd hs.pos (by simp)
   |cons c0 G=>exact⟨c0,G,rfl⟩
  simp only[RF,Tx]at A;obtain⟨rfl,rfl⟩:=A;obtain⟨t,O⟩:=hx.OV H _ hs;rw[Sa]at t;have Q:∃B m:Nat,a=(B:Int)/\B<2*T.ah.length/\aZ T B=(n:Int)/\aN T B=(m:Int):=by
   have:=hs.sp;cases this with
   |cons v S _=>exact⟨_,_,rfl,v.eZ,v.tail,S⟩
  obtain⟨b,m,rfl,hb,K,c⟩:=Q;have o:=hs.up (b:Int) (by simp);rw[QS]at o;rw[RF]at p;obtain⟨_,g2,_,g4⟩:=C.B.node hs.hy hs.ne p rfl;rw[RF,qL hs.ne]at e;have i:dw T tb p0 z=[(m,⟨1,(H:Int)⟩::(s++r))]:=by
   cases j:(cw (tb n) (H:Int)).rep with
   |false=>rw[g2 (by rw[t];simp) j,t];simp[c]
   |true=>
    have L:=O j;rw[g4 (by rw[t];simp) j (by rw[L];exact Rr e f),t,L];simp[c]
  have g:=lg C.hv hb c;refine⟨b,m,_,cU ⟨1,(m:Int)⟩ (⟨1,(H:Int)⟩::s),rfl,hb,K,c,u _ o,i,⟨rfl,g,Rr e f,?_⟩,iR hb (u _ o) c,?_⟩
  ·rw[qK];rfl
  ·rcases hs.tail (m:=m) (by rw[QS];exact c)with⟨rfl,rfl⟩|M
   ·rw[zh,hr.skip];exact hr
   ·rw[qL M.ne];exact .node M hr
 | @eZ n b m U s h1 h2 E F P=>
  simp only[Tx]at A;obtain⟨rfl,rfl⟩:=A;rw[RF]at p;have J:(b:Int)∉(tb n).down:=λhm=>by rw[hx.down b hm]at E;cases E
  have i:=(C.B.eZ h1 h2 p).2 J;rw[RF,vc,Q8]at e;have g:=lg C.hv h1 F;refine⟨b,m,(m,s++r),s,rfl,h1,h2,F,u _ E,by rw[i,F,QS],⟨rfl,g,by show(s++r).length<=32;omega,rfl⟩,iR h1 (u _ E) F,P⟩
theorem Ep.Fu(C:Ep T k x st tb p0 d){bad:Xs->Prop}{D}(f:∀a,aI D a=false->aI (az T k x) a=false){y:Nat}:∀ {q:List Int} {n:Nat} {l z},mr T D y n l q->nh T n (l++r) z->¬Gn k x n->lG (dw T tb p0) bad q.length z λw=>nh T y r w/\¬Gn k x y
 | [],n,l,z,h,e,c=>by
  obtain⟨rfl,rfl⟩:=h.end_;exact .here ⟨e,c⟩
 |a::q,n,l,z,h,e,c=>by
  obtain⟨b,m,w,p,_,_,_,_,_,g,i,j,o⟩:=C.PO f h e c;exact .step g (C.Fu f o i j)
theorem Ep.push(C:Ep T k x st tb p0 d){D}(K:bN T D=true)(E:∀a,aI D a=false->aI (az T k x) a=false){y:Nat}(hy:(y:Int)<T.nodes)(o:n≠y)(O:¬Gn k x n)(hr:0<=dN T D y n)(he:cw (tb n) (y:Int)=fZ T D n y){q:Nat}(L:∀p,pN T D n y p->p.length<=q)(F:nh T n (⟨1,(y:Int)⟩::r) z):
  lG (dw T tb p0) (iU T tb p0) q z λw=>nh T y r w/\¬Gn k x y:=by
 have hn:=F.node;have s:gG T D (n:Int) y=0:=by rw[gh C.hv K hn hy,QZ (by omega)]
 obtain⟨n',M,v,A,j⟩:=px s (by omega);have v:n=n':=by omega
 have A:y=M:=by omega
 subst v;subst A;have e:=mE j;have c:=L _ j;obtain⟨b,m,u,h1,h2,N,J,i,B⟩:=j.enter;rw[e]at he;obtain⟨_,_,g3,g4⟩:=C.B.node hy o F he;rw[h1,Sa]at g3 g4;rw[h1]at B c;rw[Q8]at c;by_cases g:32<(iE (gX T [] n ((b:Int)::u))++r).length
 ·obtain⟨G,H⟩:=g3 (by simp) I g;exact .dropped G H
 ·have f:=g4 (by simp) I (by show(iE (gX T [] n ((b:Int)::u))++r).length<=32;omega);simp only[R7,So,QS,i]at f;have t:=E b J;have l:=lg C.hv h2 i;exact(U0 f (C.Fu (r:=r) (D:=D) E B ⟨rfl,l,by show(iE (gX T [] n ((b:Int)::u))++r).length<=32;omega,by rw[qK]⟩ (iR h2 t i))).mono c λ_ h=>h
structure Ms (T:ak) (M:List Bool) (In:Nat->Prop) (q:Nat):Prop where
 step:∀ {b n m:Nat},b<2*T.ah.length->aI M b=false->aZ T b=(n:Int)->aN T b=(m:Int)->In n->bR T n=false->In m
 path:∀ {D:List Bool} {n y:Nat} {p:List Int},(∀a,aI D a=false->aI M a=false)->In n->bR T n=false->pN T D n y p->p.length<=q
 pos:1<=q
theorem fy.one{D}{y:Nat}{p:List Int}(h:fy T D n y p):∃(b m:Nat) (e:List Int),p=(b:Int)::e/\b<2*T.ah.length/\aZ T b=(n:Int)/\aN T b=(m:Int)/\(m:Int)<T.nodes/\((e=[]/\m=y)\/(bR T m=false/\fy T D m y e)):=by
 have hc:=h.sp.ch;have f:=h.sp;cases f with
 |nil=>exact absurd rfl h.ne
 | @cons n b m e h1 h2 j=>
  cases hc with
  | @cons _ _ g _ _ _ _ i a _=>
   have:g=m:=by omega
   subst this;refine⟨b,g,e,rfl,h1.eZ,h1.tail,h2,lg h.valid h1.eZ h2,?_⟩;rcases h.tail (m:=g) (by rw[QS];exact h2)with c|c
   ·exact .inl c
   ·refine .inr ⟨?_,c⟩;rcases a with a|a
    ·rw[a]at c;exact absurd c.pos (by simp)
    ·exact a
inductive J2 (T:ak) (k x:Int) (st:Nat->Int) (tb:Nat->cQ) (n y b:Nat):Prop
 |move:aI (az T k x) b=false->cw (tb n) (y:Int)=⟨[(b:Int)],false,[]⟩->J2 T k x st tb n y b
 |Ao:st n=1->aI (az T k x) b=true->cw (tb n) (y:Int)=fZ T (ld T (eS T (az T k x) n) n y b) n y->J2 T k x st tb n y b
 |P6:st n=2->cw (tb n) (y:Int)=fZ T (az T k x) n y->J2 T k x st tb n y b
theorem vJ.Ox(C:vJ T k x st tb p0 d)(hn:(n:Int)<T.nodes)(g:¬Gn k x n){y b:Nat}{j:List Int}(h:fy T [] n y ((b:Int)::j))(hb:b<2*T.ah.length)(i:aZ T b=(n:Int)):J2 T k x st tb n y b:=by
 have a:=h.zu.1;rw[Sa]at a;have c:=C.N8 n hn g;have hp:=C.perm n hn g;rw[QZ (by simp)]at hp;obtain⟨f,hold⟩:=hp;rcases f with h0|h0|h0
 ·refine .move (hold h0 b hb i) ?_;rw[c,h0];unfold mg;rw[QY rfl,ki h.hy,a]
 ·have he:cw (tb n) (y:Int)=mZ T (eS T (az T k x) n) n y:=by
   rw[c,h0];unfold mg;rw[QZ (by decide),QY rfl,yf h.hy]
  unfold mZ at he;rw[a]at he;cases hu:aI (az T k x) b with
  |false=>
   have e:fA (eS T (az T k x) n) [(b:Int)]=none:=by
    simp[fA,jE,hu]
   rw[e]at he;exact .move hu he
  |true=>
   have e:fA (eS T (az T k x) n) [(b:Int)]=some (b:Int):=by
    simp[fA,jE,hu,hb,i]
   rw[e]at he;exact .Ao h0 hu (by rw[he];rfl)
 ·refine .P6 h0 ?_;rw[c,h0];unfold mg;rw[QZ (by decide),QZ (by decide),QY rfl,tL h.hy]
theorem vJ.Oz(C:vJ T k x st tb p0 d)(i:EJ T k x=true){In:Nat->Prop}{q:Nat}(K:Ms T (az T k x) In q){y:Nat}:∀ {p:List Int} {n:Nat} {z},fy T [] n y p->0<=dN T (az T k x) y n->In n->bR T n=false->¬Gn k x n->nh T n (⟨1,(y:Int)⟩::r) z->
  lG (dw T tb p0) (iU T tb p0) (p.length*q) z λw=>nh T y r w/\¬Gn k x y
 | [],n,z,h,_,_,_,_,_=>absurd h.pos (by simp)
 |c::p,n,z,h,hr,v,t,s,g=>by
  have L:=K.pos;have hn:=g.node;have l:=g.len;have o:=kW ⟨1,(n:Int)⟩ z.2;rw[g.skip,qL h.ne]at o;obtain⟨b,m,M,F,hb,u,hm,A,e⟩:=h.one;injection F with G H;subst G;subst H;have hle:q<=(((b:Int)::p).length)*q:=by rw[Q8,SB];omega
  cases C.Ox hn s h hb u with
  |move hu he=>
   obtain⟨_,g2,_,_⟩:=C.B.node h.hy h.ne g he;have f:=g2 (by simp) I;simp only[R7,So,QS,hm]at f;have j:=iR hb hu hm;have D:nh T m (⟨1,(y:Int)⟩::r) (m,⟨1,(y:Int)⟩::r):=.mk' A (Rr o l);rcases e with⟨rfl,rfl⟩|⟨B,J⟩
   ·exact(U0 f (.here (m:=0) ⟨D.to zh,j⟩)).mono (by rw[Rk];omega) λ_ h=>h
   ·have:=C.Oz i K J (KQ C.hv h.hy hb hu u hm t hr) (K.step hb hu u hm v t) B j D;exact(U0 f this).mono (by rw[Q8,SB];omega) λ_ h=>h
  |Ao _ hd he=>
   obtain⟨c1,E,_⟩:=uH C.hv i hn h.hy s hr (a:=b) (by rw[jE];simp[hb,hd,u]);exact(C.push (nQ (uM T _ _) _) c1 h.hy h.ne s E he (λp hp=>K.path c1 v t hp) g).mono hle λ_ h=>h
  |P6 _ he=>exact(C.push (cM T k x) (λ_ h=>h) h.hy h.ne s hr he (λp hp=>K.path (λ_ h=>h) v t hp) g).mono hle λ_ h=>h
theorem vJ.PY(C:vJ T k x st tb p0 d){In:Nat->Prop}{q:Nat}(K:Ms T (az T k x) In q){y:Nat}:∀ {p:List Int} {n:Nat},fy T [] n y p->In n->bR T n=false->(n:Int)<T.nodes->¬Gn k x n->
  (∃(m b:Nat) (p':List Int),In m/\bR T m=false/\(m:Int)<T.nodes/\¬Gn k x m/\fy T [] m y ((b:Int)::p')/\b<2*T.ah.length/\aZ T b=(m:Int)/\st m=1/\aI (az T k x) b=true/\cw (tb m) (y:Int)=fZ T (ld T (eS T (az T k x) m) m y b) m y/\(0<=dN T (az T k x) y m->0<=dN T (az T k x) y n)/\
   ∀r z,nh T n (⟨1,(y:Int)⟩::r) z->lG (dw T tb p0) (iU T tb p0) (p.length - 1) z λw=>nh T m (⟨1,(y:Int)⟩::r) w)\/
  (∃m:Nat,In m/\bR T m=false/\(m:Int)<T.nodes/\∀r z,nh T n (⟨1,(y:Int)⟩::r) z->lG (dw T tb p0) (iU T tb p0) (p.length - 1) z λw=>dw T tb p0 w=dw T tb p0 (m,[]))\/
  (0<=dN T (az T k x) y n/\∀r z,nh T n (⟨1,(y:Int)⟩::r) z->lG (dw T tb p0) (iU T tb p0) (p.length+q) z λw=>nh T y r w/\¬Gn k x y)
 | [],n,h,_,_,_,_=>absurd h.pos (by simp)
 |c::p,n,h,v,A,hn,H=>by
  have V:=K.pos;obtain⟨b,m,W,R,hb,i,hm,s,f⟩:=h.one;injection R with S U;subst S;subst U;cases C.Ox hn H h hb i with
  |move hu he=>
   have l:=iR hb hu hm;have e:∀r z,nh T n (⟨1,(y:Int)⟩::r) z->dw T tb p0 z=[(m,⟨1,(y:Int)⟩::r)]/\nh T m (⟨1,(y:Int)⟩::r) (m,⟨1,(y:Int)⟩::r):=λr z a=>by
    have o:=a.len;have u:=kW ⟨1,(n:Int)⟩ z.2;rw[a.skip,qL h.ne]at u;obtain⟨_,g2,_,_⟩:=C.B.node h.hy h.ne a he;have t:=g2 (by simp) I;simp only[R7,So,QS,hm]at t;exact⟨t,.mk' s (Rr u o)⟩
   rcases f with⟨rfl,rfl⟩|⟨g,M⟩
   ·refine .inr (.inr ⟨jY C.hv h.hy hb hu i hm (.inl rfl) (by rw[fE C.hv h.hy];omega),λr z a=>?_⟩);obtain⟨h1,h2⟩:=e r z a;exact(U0 h1 (.here (m:=0) ⟨h2.to zh,l⟩)).mono (by rw[Rk];omega) λ_ h=>h
   ·have N:=M.pos;rcases C.PY K M (K.step hb hu i hm v A) g s l with⟨L,b',p',j,a2,a3,a4,a5,O,P,Q,a9,B,E,a12⟩|⟨L,j,F,a2,a3⟩|⟨j,a2⟩
    ·refine .inl ⟨L,b',p',j,a2,a3,a4,a5,O,P,Q,a9,B,λG=>jY C.hv h.hy hb hu i hm (.inr g) (E G),λr z a=>?_⟩;obtain⟨h1,h2⟩:=e r z a;exact(U0 h1 (a12 r _ h2)).mono (by rw[Q8];omega) λ_ h=>h
    ·refine .inr (.inl ⟨L,j,F,a2,λr z a=>?_⟩);obtain⟨h1,h2⟩:=e r z a;exact(U0 h1 (a3 r _ h2)).mono (by rw[Q8];omega) λ_ h=>h
    ·refine .inr (.inr ⟨jY C.hv h.hy hb hu i hm (.inr g) j,λr z a=>?_⟩);obtain⟨h1,h2⟩:=e r z a;exact(U0 h1 (a2 r _ h2)).mono (by rw[Q8];omega) λ_ h=>h
  |Ao h1 hd he=>exact .inl ⟨n,b,p,v,A,hn,H,h,hb,i,h1,hd,he,λh=>h,λr z a=>.here a⟩
  |P6 _ he=>
   by_cases hr:0<=dN T (az T k x) y n
   ·exact .inr (.inr ⟨hr,λr z a=>(C.push (cM T k x) (λ_ h=>h) h.hy h.ne H hr he (λp hp=>K.path (λ_ h=>h) v A hp) a).mono (by omega) λ_ h=>h⟩)
   ·refine .inr (.inl ⟨n,v,A,hn,λr z a=>.here ?_⟩);have J:=nC (T:=T) (D:=az T k x) (n:=(n:Int)) (d:=(y:Int)) λG=>by
     have:=G.1;rw[gh C.hv (cM T k x) hn h.hy,QY (by omega)]at this;cases this
    rw[J]at he;exact(C.B.node h.hy h.ne a he).1 rfl
end
abbrev Ky:=Nat×Nat
section
variable (T:ak) (M:List Bool) (c:Ky)
noncomputable def kD:List Bool:=ld T (eS T M c.1) c.1 c.2 ((fA (eS T M c.1) (bu T [] c.1 c.2)).getD 0).toNat
noncomputable def kP:List Int:=cE T (kD T M c) c.1 c.2
noncomputable def kL:List bG:=iE (gX T [] c.1 (kP T M c))
noncomputable def kY(r:List bG):Xs:=((aN T ((kP T M c).getD 0 0).toNat).toNat,kL T M c++r)
def DS(r:List bG):Prop:=(kL T M c++r).length<=32
end
structure Kh (T:ak) (k x:Int) (c:Ky):Prop where
 n1:(c.1:Int)<T.nodes
 n2:(c.2:Int)<T.nodes
 ne:c.1≠c.2
 here:¬Gn k x c.1
 reach:0<=dN T (kD T (az T k x) c) c.2 c.1
section
variable {T:ak} {k x:Int} {st:Nat->Int} {tb:Nat->cQ} {p0:dq} {d:Nat} {c:Ky}
theorem yG:bN T (kD T (az T k x) c)=true:=nQ (uM T _ _) _
theorem OE{b:Nat}(hb:b<2*T.ah.length)(a:aZ T b=(c.1:Int))(h:aI (kD T (az T k x) c) b=false):aI (az T k x) b=false:=D3 hb a (Lm hb h)
theorem Kh.go(hv:av T=true)(h:Kh T k x c):∃(b m:Nat) (q:List Int) (l:List bG),kP T (az T k x) c=(b:Int)::q/\b<2*T.ah.length/\aZ T b=(c.1:Int)/\aN T b=(m:Int)/\(m:Int)<T.nodes/\¬Gn k x m/\aI (az T k x) b=false/\
  (∀r,kY T (az T k x) c r=(m,kL T (az T k x) c++r))/\(∀r,DS T (az T k x) c r->nh T m (l++r) (kY T (az T k x) c r))/\mr T (kD T (az T k x) c) c.2 m l q/\SP T (kD T (az T k x) c) c.2 m q/\(q=[]\/bR T m=false)/\pN T (kD T (az T k x) c) c.1 c.2 (kP T (az T k x) c)/\
  fZ T (kD T (az T k x) c) c.1 c.2=⟨[(b:Int)],true,kL T (az T k x) c⟩/\(q.length:Int)+1<T.nodes:=by
 obtain⟨c1,a⟩:=c;have hn:=h.n1;have hd:=h.n2;have w:=h.ne;have hr:=h.reach;dsimp only at hn hd w hr;have F:=yG (T:=T) (k:=k) (x:=x) (c:=(c1,a));have⟨D,e⟩:=QQ (kD T (az T k x) (c1,a));rw[e]at hr F;have y:gG T D (c1:Int) a=0:=by rw[gh hv F hn hd,QZ (by omega)]
 obtain⟨n',H,z,A,i⟩:=px y (by omega);have z:c1=n':=by omega
 have A:a=H:=by omega
 subst z;subst A;have n:=mE i;obtain⟨b,m,q,h1,h2,B,G,v,C⟩:=i.enter;have g:kP T (az T k x) (c1,a)=(b:Int)::q:=by unfold kP;rw[e];exact h1
 have o:kL T (az T k x) (c1,a)=iE (gX T [] c1 ((b:Int)::q)):=by unfold kL;rw[g]
 have u:=OE (T:=T) (k:=k) (x:=x) (c:=(c1,a)) h2 B (by rw[e];exact G);have p:=lg hv h2 v;have E:∀r,kY T (az T k x) (c1,a) r=(m,kL T (az T k x) (c1,a)++r):=λr=>by unfold kY;rw[g,Sa,QS,v,QS]
 have f:=i.len;have t:=i.sp;have j:=i.sp.ch;rw[h1]at C f t j;rw[Q8]at f;have s:SP T D a m q/\(q=[]\/bR T m=false):=by
  cases t with
  | @cons _ _ m2 _ g1 g2 g3=>
   have:m2=m:=by omega
   subst this;cases j with
   | @cons _ _ m3 _ _ _ _ f1 f2 f3=>
    have:m3=m2:=by omega
    subst this;exact⟨g3,f2⟩
 refine⟨b,m,q,cU ⟨1,(m:Int)⟩ (kL T (az T k x) (c1,a)),g,h2,B,v,p,iR h2 u v,u,E,λr hr=>?_,?_,?_,s.2,?_,?_,by omega⟩
 ·rw[E];exact⟨rfl,p,hr,by rw[qK]⟩
 ·rw[e,o];exact C
 ·rw[e];exact s.1
 ·rw[e];unfold kP;rw[e];exact i
 ·rw[e,n,h1,o];rfl
theorem Kh.call(C:vJ T k x st tb p0 d)(h:Kh T k x c)(he:cw (tb c.1) (c.2:Int)=fZ T (kD T (az T k x) c) c.1 c.2){r z}(u:nh T c.1 (⟨1,(c.2:Int)⟩::r) z):
  lG (dw T tb p0) (iU T tb p0) 0 z λw=>dw T tb p0 w=[kY T (az T k x) c r]/\DS T (az T k x) c r:=by
 obtain⟨b,m,q,l,h1,h2,v,s,y,A,B,t,D,j,n,cS,o,e,p⟩:=h.go C.hv;rw[e]at he;obtain⟨_,_,g3,g4⟩:=C.B.node h.n2 h.ne u he;by_cases f:32<(kL T (az T k x) c++r).length
 ·obtain⟨g,i⟩:=g3 (by simp) I f;exact .dropped g i
 ·have a:=g4 (by simp) I (by show(kL T (az T k x) c++r).length<=32;omega);simp only[R7,So,QS,s]at a;refine .here ⟨?_,by unfold DS;omega⟩;rw[a,t]
theorem Dv(C:vJ T k x st tb p0 d)(h1:(c.1:Int)<T.nodes)(h2:(c.2:Int)<T.nodes)(b:c.1≠c.2)(a:¬0<=dN T (kD T (az T k x) c) c.2 c.1)(he:cw (tb c.1) (c.2:Int)=fZ T (kD T (az T k x) c) c.1 c.2){r z}(f:nh T c.1 (⟨1,(c.2:Int)⟩::r) z):
  dw T tb p0 z=dw T tb p0 (c.1,[]):=by
 have a:=nC (T:=T) (D:=kD T (az T k x) c) (n:=(c.1:Int)) (d:=(c.2:Int)) λe=>by
  have:=e.1;rw[gh C.hv yG h1 h2,QY (by omega)]at this;cases this
 rw[a]at he;exact(C.B.node h2 b f he).1 rfl
theorem Il{b:Nat}{p:List Int}(h:fy T [] c.1 c.2 ((b:Int)::p))(hb:b<2*T.ah.length)(f:aZ T b=(c.1:Int))(hd:aI (az T k x) b=true):kD T (az T k x) c=ld T (eS T (az T k x) c.1) c.1 c.2 b:=by
 unfold kD;have a:=h.zu.1;rw[Sa]at a;have e:fA (eS T (az T k x) c.1) [(b:Int)]=some (b:Int):=by simp[fA,jE,hd,hb,f]
 rw[a,e]
 rfl
theorem vJ.block(C:vJ T k x st tb p0 d){n a:Nat}(hn:(n:Int)<T.nodes)(h:¬Gn k x n)(g:a<2*T.ah.length)(f:aZ T a=(n:Int))(hd:aI (az T k x) a=true){r z}(i:nh T n (⟨2,(a:Int)⟩::r) z):dw T tb p0 z=dw T tb p0 (n,[]):=by
 refine(C.B.eZ g f i).1 ?_;have hp:=C.perm n hn h;rw[QZ (by simp)]at hp;obtain⟨e,hold⟩:=hp;have b:(a:Int)∈cI (az T k x) (bK T n):=RK.2 ⟨jD.2 ⟨cH.2 ⟨by omega,by omega⟩,by rw[QS];exact f⟩,by rw[QS];exact hd⟩;rw[C.N8 n hn h];rcases e with h0|h0|h0
 ·rw[hold h0 a g f]at hd;cases hd
 ·rw[h0];unfold mg;rw[QZ (by decide),QY rfl];exact b
 ·rw[h0];unfold mg;rw[QZ (by decide),QZ (by decide),QY rfl];exact b
theorem fy.bare{D}{n y:Nat}{p:List Int}(h:fy T D n y p):fy T [] n y p:=h.HX (iG T) λ_ _=>by simp[aI]
theorem zR{D E}{s y n:Nat}{p q:List Int}(h:SP T E y n p):p≠[]->Ch T D s n (p++q)->Ch T D s y q/\(q=[]\/bR T y=false):=by
 induction h with
 |nil=>intro h;exact absurd rfl h
 | @cons n a m p h1 hm hp i=>
  intro _ hc;rw[RF]at hc;cases hc with
  | @cons _ _ g _ _ _ _ j f e=>
   have:g=m:=by omega
   subst this;by_cases b:p=[]
   ·subst b;have:g=y:=hp.ch.to rfl;subst this;rw[Sx]at f e;exact⟨e,f⟩
   ·exact i b e
inductive M7 (T:ak) (M:List Bool):Nat->List bG->Nat->List Int->Prop
 |nil (n:Nat):M7 T M n [] n []
 |node {n y z:Nat} {l:List bG} {p q:List Int}:fy T [] n y p->0<=dN T M y n->bR T y=false->M7 T M y l z q->M7 T M n (⟨1,(y:Int)⟩::l) z (p++q)
 |eZ {n a m z:Nat} {l:List bG} {q:List Int}:a<2*T.ah.length->aZ T a=(n:Int)->aI M a=false->aN T a=(m:Int)->bR T m=false->M7 T M m l z q->M7 T M n (⟨2,(a:Int)⟩::l) z ((a:Int)::q)
theorem Ms.fr{In:Nat->Prop}{q:Nat}{M}(K:Ms T M In q){y n:Nat}{p:List Int}(h:Ch T M y n p):In n->bR T n=false->In y:=by
 induction h with
 |nil=>intro h _;exact h
 | @cons n a m p f i hu hm hp hr j=>
  intro e g;have b:=K.step f hu i hm e g;rcases hp with hp|hp
  ·rw[<-hr.to hp];exact b
  ·exact j b hp
theorem vJ.PH(C:vJ T k x st tb p0 d)(A:EJ T k x=true){In:Nat->Prop}{q:Nat}(K:Ms T (az T k x) In q){n i:Nat}{l}{p:List Int}(h:M7 T (az T k x) n l i p):In n->bR T n=false->(n:Int)<T.nodes->¬Gn k x n->
  In i/\bR T i=false/\(i:Int)<T.nodes/\¬Gn k x i/\∀r z,nh T n (l++r) z->lG (dw T tb p0) (iU T tb p0) (p.length*q) z λw=>nh T i r w:=by
 induction h with
 |nil n=>intro h1 h2 f j;exact⟨h1,h2,f,j,λr z b=>.here b⟩
 | @node n y z l p M hs hr E _ G=>
  intro h1 h2 f j;obtain⟨p',u⟩:∃p',Ch T (az T k x) y n p':=⟨_,(kO C.hv hs.hy (dN T (az T k x) y n).toNat n f hr (by omega)).ch⟩;have v:=K.fr u h1 h2;by_cases o:Gn k x y
  ·
   exfalso;have e:=u.last hs.ne;obtain⟨a,g,hu,L⟩:=e;exact iR g hu L o
  ·obtain⟨g1,g2,g3,g4,g5⟩:=G v E hs.hy o;refine⟨g1,g2,g3,g4,λr z b=>?_⟩;rw[RF]at b;refine((C.Oz A K hs hr h1 h2 j b).bind (λw hw=>g5 r w hw.1)).mono ?_ λ_ h=>h;rw[Q0,UX];exact Rc _
 | @eZ n a m z l M g J hu hm E _ G=>
  intro h1 h2 f j;have s:=lg C.hv g hm;obtain⟨g1,g2,g3,g4,g5⟩:=G (K.step g hu J hm h1 h2) E s (iR g hu hm);refine⟨g1,g2,g3,g4,λr z b=>?_⟩;have H:=b.len;have F:=kW ⟨1,(n:Int)⟩ z.2;rw[b.skip,RF,vc,Q8]at F;rw[RF]at b;have D:(a:Int)∉(tb n).down:=λB=>by
   have hx:=vm C.hv C.cS f (cM T k x) (λ_ h=>h) (st n);rw[<-C.N8 n f j]at hx;rw[hx.down a B]at hu;cases hu
  have t:=(C.B.eZ g J b).2 D;rw[hm,QS]at t;have:=K.pos;refine(U0 t (g5 r _ (.mk' s (by omega)))).mono ?_ λ_ h=>h;rw[Q8,SB];omega
theorem EU(hv:av T=true){D}{s:Nat}(hs:(s:Int)<T.nodes){n:Nat}{l}{q:List Int}(h:mr T D s n l q):Ch T D s n q->¬0<=dN T (az T k x) s n->∃(pre r':List bG) (g:bG) (q1:List Int) (o:Nat),l=pre++g::r'/\M7 T (az T k x) n pre o q1/\
    ((∃ a : Nat, g = ⟨2, (a : Int)⟩ /\ a < 2 * T.ah.length /\ aZ T a = (o : Int) /\ aI (az T k x) a = true /\ q1.length + 1 <= q.length) \/
      ∃(s':Nat) (t:List Int),g=⟨1,(s':Int)⟩/\fy T [] o s' t/\¬0<=dN T (az T k x) s' o/\q1.length+t.length<=q.length):=by
  induction h with
  |nil=>intro _ h;exact absurd (by rw[fE hv hs];omega) h
  | @node n y p q l r K H=>
    intro hc i;obtain⟨c1,u⟩:=zR r.sp (λe=>by have:=r.pos;rw[e]at this;simp at this) hc;by_cases hr:0<=dN T (az T k x) y n
    · have v:bR T y=false:=by
        rcases u with u|u
        · have:=c1.to u;subst this;exact absurd hr i
        · exact u
      obtain⟨pre,r',g,q1,o,w,z,A⟩:=H c1 λC=>i (uj hv hs (kO hv r.hy (dN T (az T k x) y n).toNat n r.hx hr (by omega)).ch (.inr v) C);refine⟨⟨1,(y:Int)⟩::pre,r',g,p++q1,o,by rw[w];rfl,.node r.bare hr v z,?_⟩;rcases A with⟨a,f1,f2,f3,f4,f5⟩|⟨s',t,f1,f2,f3,f4⟩
      · exact .inl ⟨a,f1,f2,f3,f4,by simp only[Q0];omega⟩
      · exact .inr ⟨s',t,f1,f2,f3,by simp only[Q0];omega⟩
    · exact⟨[],l,_,[],n,rfl,.nil n,.inr ⟨y,p,rfl,r.bare,hr,by simp⟩⟩
  | @eZ n a m q l E G hu hm K H=>
    intro hc i;cases hd:aI (az T k x) a with
    |true=>exact⟨[],l,_,[],n,rfl,.nil n,.inl ⟨a,rfl,E,G,hd,by simp⟩⟩
    |false=>
      cases hc with
      | @cons _ _ J _ _ _ _ L f B=>
        have:J=m:=by omega
        subst this;have j:¬0<=dN T (az T k x) s J:=λC=>i (jY hv hs E hd G hm (by rcases f with f|f;exact .inl (B.to f);exact .inr f) C);have F:bR T J=false:=by
          rcases f with f|f
          · have:=B.to f;subst this;exact absurd (by rw[fE hv hs];omega) j
          · exact f
        obtain⟨pre,r',g,q1,o,w,z,A⟩:=H B j;refine⟨⟨2,(a:Int)⟩::pre,r',g,(a:Int)::q1,o,by rw[w];rfl,.eZ E G hd hm F z,?_⟩;rcases A with⟨b,f1,f2,f3,f4,f5⟩|⟨s',t,f1,f2,f3,f4⟩
        · exact .inl ⟨b,f1,f2,f3,f4,by simp only[Q8];omega⟩
        · exact .inr ⟨s',t,f1,f2,f3,by simp only[Q8];omega⟩
end
section
variable {T:ak} {k x:Int} {st:Nat->Int} {tb:Nat->cQ} {p0:dq} {d:Nat}
structure Hd (T:ak) (k x:Int) (In:Nat->Prop) (c:Ky):Prop where
 key:Kh T k x c
 no:¬0<=dN T (az T k x) c.2 c.1
 Pp:In c.1
 QL:In (kY T (az T k x) c []).1
theorem PF{a b q:Nat}(h:a+b<=8)(hb:1<=b)(c:1<=q):a*q+(b - 1)<=7*q:=by
 have h1:(a+(b - 1))*q<=7*q:=Sk q (by omega);have h2:(b - 1)*1<=(b - 1)*q:=T0 _ c;rw[UX]at h1;omega
theorem KU(C:vJ T k x st tb p0 d)(h10:T.nodes<=10)(hcv:EJ T k x=true){In:Nat->Prop}{q:Nat}(K:Ms T (az T k x) In q){O}(hO:∀m:Nat,In m->bR T m=false->(m:Int)<T.nodes->((m,[]):Xs)∈O):My (dw T tb p0) (iU T tb p0) O (kY T (az T k x)) (DS T (az T k x)) (λ_ _=>True) (Hd T k x In) (7*q) 0 where
 len:=λ{c r} h=>by
  unfold DS at h;rw[Q0]at h;omega
 out:=λc hc=>by
  have hq1:=K.pos;obtain⟨b,m,q',l,h1,h2,h3,h4,h5,h6,h7,h8,h9,h10',h11,cS,h13,h14,h15⟩:=hc.key.go C.hv;have hIm:In m:=by
   have:=hc.QL;rw[h8]at this;exact this
  have hms:q'=[]->m=c.2:=λe=>by subst e;exact h11.ch.to rfl
  have hnm:¬0<=dN T (az T k x) c.2 m:=λh'=>hc.no (jY C.hv hc.key.n2 h2 h7 h3 h4 (by rcases cS with e|e;exact .inl (hms e);exact .inr e) h');have hom:bR T m=false:=by
   rcases cS with e|e
   ·exact absurd (by rw[hms e,fE C.hv hc.key.n2];omega) hnm
   ·exact e
  obtain⟨pre,r',g,q1,xh,e1,e2,e3⟩:=EU C.hv hc.key.n2 h10' h11.ch hnm;obtain⟨g1,g2,g3,g4,g5⟩:=C.PH hcv K e2 hIm hom h5 h6;have hrun:∀r,DS T (az T k x) c r->lG (dw T tb p0) (iU T tb p0) (q1.length*q) (kY T (az T k x) c r) λw=>nh T xh (g::(r'++r)) w:=λr hr=>by
   have:=h9 r hr;rw[e1,RO,RF]at this;exact g5 _ _ this
  rcases e3 with⟨a,f1,f2,f3,f4,f5⟩|⟨s',pc,f1,f2,f3,f4⟩
  ·subst f1;refine .inr (.inl λr _ hr=>(hrun r hr).mono ?_ λw hw=>.inr ⟨(xh,[]),hO xh g1 g2 g3,C.block g3 g4 f2 f3 f4 hw⟩);exact Sk q (by omega)
  ·subst f1;have hpp:=f2.pos;have hb7:=PF (a:=q1.length) (b:=pc.length) (q:=q) (by omega) hpp hq1;rcases C.PY K f2 g1 g2 g3 g4 with⟨m2,b2,p2,a1,a2,a3,a4,a5,a6,a7,a8,a9,a10,a11,a12⟩|⟨m2,a1,a1b,a2,a3⟩|⟨a1,_⟩
   ·have hkd:=Il (k:=k) (x:=x) (c:=(m2,s')) a5 a6 a7 a9;have he:cw (tb m2) (s':Int)=fZ T (kD T (az T k x) (m2,s')) m2 s':=by rw[a10,hkd]
    by_cases hre:0<=dN T (kD T (az T k x) (m2,s')) s' m2
    ·have hk':Kh T k x (m2,s'):=⟨a3,a5.hy,a5.ne,a4,hre⟩;obtain⟨b3,m3,_,_,_,i2,i3,i4,_,_,i7,i8,_⟩:=hk'.go C.hv;refine .inl ⟨(m2,s'),r',⟨hk',λh'=>f3 (a11 h'),a1,?_⟩,λ_ _=>trivial,λr _ hr=>?_⟩
     ·rw[i8];exact K.step i2 i7 i3 i4 a1 a2
     ·exact((hrun r hr).bind λw hw=>(a12 _ _ hw).bind λv hv=>hk'.call C he hv).mono (by omega) λ_ h=>h
    ·refine .inr (.inl λr _ hr=>((hrun r hr).bind λw hw=>a12 _ _ hw).mono hb7 λw hw=>.inr ⟨(m2,[]),hO m2 a1 a2 a3,?_⟩);exact Dv C (c:=(m2,s')) a3 a5.hy a5.ne hre he hw
   ·exact .inr (.inl λr _ hr=>((hrun r hr).bind λw hw=>a3 _ _ hw).mono hb7 λw hw=>.inr ⟨(m2,[]),hO m2 a1 a1b a2,hw⟩)
   ·exact absurd a1 f3
theorem Nu(hv:av T=true){y n:Nat}{p:List Int}(h:Ch T (az T k x) y n p):∀ {s:Nat},(s:Int)<T.nodes->(n=s\/bR T n=false)->0<=dN T (az T k x) s n->0<=dN T (az T k x) s y:=by
 induction h with
 |nil=>intro s _ _ h;exact h
 | @cons n a m p f i hu hm hp hr j=>
  intro s hs g h;obtain⟨b',h1,h2,c,e⟩:=y6 (k:=k) (x:=x) f;have b:=jY hv hs h1 (e.trans hu) (h2.trans hm) (c.trans i) g h;rcases hp with hp|hp
  ·rw[<-hr.to hp];exact b
  ·exact j hs (.inr hp) b
def vO(T:ak)(k x:Int)(c0:Nat)(v:Nat):Prop:=(v:Int)<T.nodes/\0<=dN T (az T k x) v c0
noncomputable instance (c0 v:Nat):Decidable (vO T k x c0 v):=Classical.propDecidable _
noncomputable def mR(T:ak)(k x:Int)(c0:Nat):List Nat:=(List.range T.nodes.toNat).filter λv=>decide (vO T k x c0 v)
noncomputable def Mr(T:ak)(k x:Int)(c0:Nat):List Nat:=(List.range T.nodes.toNat).filter λv=> !decide (vO T k x c0 v)
theorem rJ{α:Type}{p:α->Bool}:∀l:List α,(l.filter p).length+(l.filter λv=> !p v).length=l.length
 | []=>rfl
 |a::l=>by
  have:=rJ (p:=p) l;cases h:p a with
  |true=>rw[SY (by simp[h]),Te (by simp[h])];simp only[Q8];omega
  |false=>rw[Te (by simp[h]),SY (by simp[h])];simp only[Q8];omega
theorem tQ{c0 v:Nat}:v∈mR T k x c0↔vO T k x c0 v:=by
 unfold mR;rw[RK,R3,Ri];exact⟨λh=>h.2,λh=>⟨by have:=h.1;omega,h⟩⟩
theorem Hz{c0 v:Nat}:v∈Mr T k x c0↔(v:Int)<T.nodes/\¬vO T k x c0 v:=by
 unfold Mr;rw[RK,Ri];simp only[R4,Sb];exact⟨λh=>⟨by omega,h.2⟩,λh=>⟨by omega,h.2⟩⟩
theorem p7(c0:Nat):(mR T k x c0).length+(Mr T k x c0).length=T.nodes.toNat:=by
 unfold mR Mr;have:=rJ (p:=λv=>decide (vO T k x c0 v)) (List.range T.nodes.toNat);rwa [Sz]at this
theorem vO.step(hv:av T=true){c0:Nat}(c:(c0:Int)<T.nodes){b n m:Nat}(hb:b<2*T.ah.length)(hu:aI (az T k x) b=false)(f:aZ T b=(n:Int))(hm:aN T b=(m:Int))(h:vO T k x c0 n)(e:bR T n=false):vO T k x c0 m:=by
 have a:=lg hv hb hm;have h1:0<=dN T (az T k x) m n:=jY hv a hb hu f hm (.inl rfl) (by rw[fE hv a];omega);exact⟨a,uj hv a (kO hv h.1 (dN T (az T k x) n c0).toNat c0 c h.2 (by omega)).ch (.inr e) h1⟩
theorem Js{D}(hv:av T=true){y:Nat}(hy:(y:Int)<T.nodes){In:Nat->Prop}{M}(o:∀ {b n m:Nat},b<2*T.ah.length->aI M b=false->aZ T b=(n:Int)->aN T b=(m:Int)->In n->bR T n=false->In m)(r:∀a,aI D a=false->aI M a=false){n:Nat}{p:List Int}(h:SP T D y n p):
  In n->(p=[]\/bR T n=false)->∃c:List Nat,c.length=p.length+1/\c.Nodup/\∀v∈c,In v/\dN T D y v<=dN T D y n:=by
 induction h with
 |nil=>intro e _;exact⟨[y],rfl,by simp,λv hv=>by rw[Rj]at hv;subst hv;exact⟨e,SI _⟩⟩
 | @cons n a m p h1 hm hp t=>
  intro e s;have l:bR T n=false:=by
   rcases s with h|h
   ·cases h
   ·exact h
  have f:=o h1.eZ (r a h1.up) h1.tail hm e l;have hc:=(SP.cons h1 hm hp).ch;have j:p=[]\/bR T m=false:=by
   cases hc with
   | @cons _ _ u _ _ _ _ z q _=>
    have:u=m:=by omega
    subst this;exact q
  obtain⟨c,g1,g2,g3⟩:=t f j;obtain⟨c1,w⟩:=h1.dN hm;have g:=(aS hv).cost a h1.eZ;refine⟨n::c,by rw[Q8,Q8,g1],SD.2 ⟨λi=>?_,g2⟩,λv hv=>?_⟩
  ·have:=(g3 n i).2;omega
  ·rcases RA.1 hv with rfl|hv
   ·exact⟨e,SI _⟩
   ·have:=g3 v hv;exact⟨this.1,by omega⟩
theorem Nl(hv:av T=true){c0:Nat}(hc0:(c0:Int)<T.nodes)(h2:2<=(mR T k x c0).length):Ms T (az T k x) (vO T k x c0) ((mR T k x c0).length - 1) where
 step:=λhb hu ht hm h ho=>h.step hv hc0 hb hu ht hm ho
 path:=λ{D n y p} hD hI ho hP=>by
  obtain⟨ns,g1,g2,g3⟩:=Js hv hP.hy (λhb hu ht hm h ho=>vO.step (k:=k) (x:=x) (c0:=c0) hv hc0 hb hu ht hm h ho) hD hP.sp hI (.inr ho);have:=eT ns (mR T k x c0) g2 λv hv=>tQ.2 (g3 v hv).1;omega
 pos:=by omega
theorem KV(hv:av T=true){c0:Nat}(e:(c0:Int)<T.nodes)(g:bR T c0=false){c}(h:Hd T k x (vO T k x c0) c):c∈(mR T k x c0).flatMap λa=>(Mr T k x c0).map λb=>(a,b):=by
 rw[S9];refine⟨c.1,tQ.2 h.Pp,RB.2 ⟨c.2,Hz.2 ⟨h.key.n2,λf=>h.no ?_⟩,rfl⟩⟩;have h1:=Nu (k:=k) (x:=x) hv (kO hv h.Pp.1 (dN T (az T k x) c.1 c0).toNat c0 e h.Pp.2 (by omega)).ch e (.inl rfl) (by rw[fE hv e];omega);exact uj hv h.key.n2 (kO hv e (dN T (az T k x) c0 c.1).toNat c.1 h.Pp.1 h1 (by omega)).ch (.inr g) f.2
end
section
variable {T:ak} {k x:Int} {st:Nat->Int} {tb:Nat->cQ} {p0:dq} {d:Nat}
theorem mr.append{D}{y s n:Nat}{l r}{p q:List Int}(h:mr T D y n l p)(k:mr T D s y r q):mr T D s n (l++r) (p++q):=by
 induction h with
 |nil=>exact k
 |node hs _ a=>rw[RO];exact .node hs a
 |eZ h1 h2 b c _ a=>exact .eZ h1 h2 b c a
theorem mr.mask{D M}(f:bN T M=true){s n:Nat}{l}{q:List Int}(h:mr T D s n l q):(∀a∈q,aI M a.toNat=false)->mr T M s n l q:=by
 induction h with
 |nil=>intro _;exact .nil
 | @node n y p q l hs _ c=>
  intro hu;exact .node ⟨hs.valid,f,hs.ne,hs.hx,hs.hy,hs.uniq,hs.sp,λa b=>hu a (by simp[b])⟩ (c λa b=>hu a (by simp[b]))
 | @eZ n a m q l h1 h2 g e _ c=>
  intro hu;have:=hu (a:Int) (by simp);rw[QS]at this;exact .eZ h1 h2 this e (c λa b=>hu a (by simp[b]))
theorem mr.PN(a:T.nodes<=10){D}{s n:Nat}{l:List bG}{q:List Int}(h:mr T D s n l q):q.length<=9*l.length:=by
 induction h with
 |nil=>simp
 | @node n y p q l hs _ b=>
  have:=hs.sp.yH hs.valid hs.hy;simp only[Q0,Q8];omega
 |eZ _ _ _ _ _ b=>simp only[Q8];omega
theorem vd{D E}(hv:av T=true){s y n:Nat}{p q:List Int}(h:SP T E y n p):SP T D s n (p++q)->SP T D s y q/\dN T D s y<=dN T D s n/\∀a∈p,∀v:Nat,(aZ T a.toNat=(v:Int)->dN T D s y<dN T D s v)/\(aN T a.toNat=(v:Int)->v=y\/dN T D s y<dN T D s v):=by
 induction h with
 |nil=>intro h;exact⟨h,SI _,λa o=>by cases o⟩
 | @cons n a m p h1 hm hp u=>
  intro h;rw[RF]at h;cases h with
  | @cons _ _ j _ g1 g2 g3=>
   have:j=m:=by omega
   subst this;obtain⟨l,z,i⟩:=u g3;obtain⟨c1,w⟩:=g1.dN g2;have g:=(aS hv).cost a g1.eZ;refine⟨l,by omega,λb hb v=>?_⟩;rcases RA.1 hb with rfl|hb
   ·rw[QS];refine⟨λt=>?_,λr=>?_⟩
    ·have:v=n:=by rw[g1.tail]at t;omega
     subst this;omega
    ·have:v=j:=by rw[hm]at r;omega
     subst this;by_cases e:p=[]
     ·subst e;exact .inl (hp.ch.to rfl)
     ·right;obtain⟨c,f,rfl⟩:∃c f,p=c::f:=by
       cases p with
       |nil=>exact absurd rfl e
       |cons c f=>exact⟨c,f,rfl⟩
      refine((i c (by simp)) v).1 ?_;cases hp with
      |cons f1 _ _=>rw[QS];exact f1.tail
   ·exact i b hb v
theorem L8{D}(hv:av T=true){s n:Nat}{q:List Int}(h:SP T D s n q):∀a∈q,∀v:Nat,(aZ T a.toNat=(v:Int)\/aN T a.toNat=(v:Int))->dN T D s v<=dN T D s n:=by
 induction h with
 |nil=>intro a f;cases f
 | @cons n a m p g1 g2 g3 g=>
  intro b hb v c;obtain⟨c1,i⟩:=g1.dN g2;have e:=(aS hv).cost a g1.eZ;rcases RA.1 hb with rfl|hb
  ·rw[QS,g1.tail,g2]at c;rcases c with h|h
   ·have:v=n:=by omega
    subst this;omega
   ·have:v=m:=by omega
    subst this;omega
  ·have:=g b hb v c;omega
theorem MM{v a:Nat}(b:a<2*T.ah.length):aI (az T 2 (v:Int)) a=true↔aZ T a=(v:Int)\/aN T a=(v:Int):=by
 rw[lU b,NI,RX,R3,R3];rcases yu (T:=T) a with h|h
 ·rw[h.1,h.2]
 ·rw[h.1,h.2];exact Or.comm
theorem FG{D}(hv:av T=true){v s y n:Nat}{p q:List Int}(o:fy T D n y p)(h:SP T D s n (p++q))(hd:∃a∈p,aI (az T 2 (v:Int)) a.toNat=true)(hy:y≠v):∀a∈q,aI (az T 2 (v:Int)) a.toNat=false:=by
 obtain⟨h1,_,l⟩:=vd hv o.sp h;obtain⟨a,g,i⟩:=hd;have f:∀ {n:Nat} {q:List Int},SP T D s n q->∀b∈q,b.toNat<2*T.ah.length:=λ{n q} h=>by
  induction h with
  |nil=>intro b hb;cases hb
  | @cons n c m q g1 _ _ t=>
   intro b hb;rcases RA.1 hb with rfl|hb
   ·rw[QS];exact g1.eZ
   ·exact t b hb
 have r:dN T D s y<dN T D s v:=by
  rcases(MM (f h a (by simp[g]))).1 i with e|e
  ·exact(l a g v).1 e
  ·rcases(l a g v).2 e with e|e
   ·exact absurd e.symm hy
   ·exact e
 intro b hb;cases j:aI (az T 2 (v:Int)) b.toNat with
 |false=>rfl
 |true=>
  have:=L8 hv h1 b hb v ((MM (f h1 b hb)).1 j);omega
theorem Fw{D M}(hv:av T=true)(N:bN T M=true){s n:Nat}{l}{q:List Int}(h:mr T D s n l q):SP T D s n q->(q=[]\/bR T n=false)->(∀a∈q,aI M a.toNat=false)\/∃(pre r':List bG) (g:bG) (q1 o t:List Int) (j:Nat),l=pre++g::r'/\q=q1++(o++t)/\mr T M j n pre q1/\bR T j=false/\(j:Int)<T.nodes/\SP T D s j (o++t)/\
  ((∃a:Nat,g=⟨2,(a:Int)⟩/\a<2*T.ah.length/\aZ T a=(j:Int)/\aI M a=true/\o=[(a:Int)])\/∃s':Nat,g=⟨1,(s':Int)⟩/\fy T D j s' o/\(∃a∈o,aI M a.toNat=true)/\mr T D s s' r' t):=by
 induction h with
 |nil=>intro _ _;exact .inl λa f=>by cases f
 | @node n y p q l i L J=>
  intro c G;have v:p≠[]:=λe=>by have:=i.pos;rw[e]at this;simp at this
  have r:bR T n=false:=by
   rcases G with h|h
   ·exact absurd (List.append_eq_nil_iff.1 h).1 v
   ·exact h
  by_cases hd:∃a∈p,aI M a.toNat=true
  ·exact .inr ⟨[],l,_,[],p,q,n,rfl,rfl,.nil,r,i.hx,c,.inr ⟨y,rfl,i,hd,L⟩⟩
  ·have w:∀a∈p,aI M a.toNat=false:=λa f=>by
    cases h:aI M a.toNat with
    |false=>rfl
    |true=>exact absurd ⟨a,f,h⟩ hd
   have h1:=(vd i.valid i.sp c).1;have h2:=(zR i.sp v c.ch).2;rcases J h1 h2 with h|⟨pre,r',g,q1,o,t,j,A,B,C,z,u,E,F⟩
   ·exact .inl λa f=>by
     rcases RR.1 f with f|f
     ·exact w a f
     ·exact h a f
   ·refine .inr ⟨⟨1,(y:Int)⟩::pre,r',g,p++q1,o,t,j,by rw[A];rfl,by rw[B,RO],?_,z,u,E,F⟩;exact .node ⟨i.valid,N,i.ne,i.hx,i.hy,i.uniq,i.sp,w⟩ C
 | @eZ n a m q l f H hu hm L J=>
  intro c G;have r:bR T n=false:=by
   rcases G with h|h
   ·cases h
   ·exact h
  cases hd:aI M a with
  |true=>
   exact .inr ⟨[],l,_,[],[(a:Int)],q,n,rfl,rfl,.nil,r,by rw[<-H];exact((aS hv).tail a f).2,c,.inl ⟨a,rfl,f,H,hd,rfl⟩⟩
  |false=>
   have hc:=c.ch;cases c with
   | @cons _ _ K _ g1 g2 g3=>
    have:K=m:=by omega
    subst this;have h2:q=[]\/bR T K=false:=by
     cases hc with
     | @cons _ _ m2 _ _ _ _ z u _=>
      have:m2=K:=by omega
      subst this;exact u
    rcases J g3 h2 with h|⟨pre,r',g,q1,o,t,j,A,B,C,z,u,E,F⟩
    ·exact .inl λb hb=>by
      rcases RA.1 hb with rfl|hb
      ·rw[QS];exact hd
      ·exact h b hb
    ·exact .inr ⟨⟨2,(a:Int)⟩::pre,r',g,(a:Int)::q1,o,t,j,by rw[A];rfl,by rw[B];rfl,.eZ f H hd hm C,z,u,E,F⟩
end
section
variable {T:ak} {k x:Int} {st:Nat->Int} {tb:Nat->cQ} {p0:dq} {d:Nat}
structure Hn (T:ak) (k x:Int) (d:Nat) (c:Ky):Prop where
 key:Kh T k x c
 dv:Gn k x d->c.2=d
def Qb(T:ak)(k x:Int)(d:Nat)(c:Ky)(r:List bG):Prop:=Gn k x c.2\/∃q,mr T (az T k x) d c.2 r q
theorem Kt(h10:T.nodes<=10)(M:List Bool):Ms T M (λ_=>True) 9 where
 step:=λ_ _ _ _ _ _=>trivial
 path:=λ_ _ _ hP=>by have:=hP.len;omega
 pos:=by omega
theorem od(hv:av T=true){D}{s n:Nat}{q:List Int}(h:Ch T D s n q)(hu:∀a∈q,aI (az T k x) a.toNat=false)(hn:n≠s):¬Gn k x s:=by
 obtain⟨a,h1,h2,b⟩:=(h.bare.mask hu).last hn;exact iR h1 h2 b
theorem vJ.fin(C:vJ T k x st tb p0 d)(a:T.nodes<=10){n:Nat}{r:List bG}{q:List Int}(h:mr T (az T k x) d n r q)(b:¬Gn k x n){z}(c:nh T n r z)(hr:r.length<=32):lG (dw T tb p0) (iU T tb p0) 288 z λw=>dw T tb p0 w=[]:=by
 have hl:=h.PN a;refine(C.Fu (r:=[]) (D:=az T k x) (λ_ h=>h) h (by rw[R9];exact c) b).mono (by omega) λw hw=>?_;rw[C.B.nil hw.1];exact C.B.jj
theorem Lw(C:vJ T k x st tb p0 d)(h10:T.nodes<=10)(hk2:k=2){v:Nat}(hx:x=(v:Int)){O}(hO:∀m:Nat,(m:Int)<T.nodes->((m,[]):Xs)∈O):My (dw T tb p0) (iU T tb p0) O (kY T (az T k x)) (DS T (az T k x)) (Qb T k x d) (Hn T k x d) 7 305 where
 len:=λ{c r} h=>by
  unfold DS at h;rw[Q0]at h;omega
 out:=λc hc=>by
  have hgv:∀n:Nat,Gn k x n↔n=v:=λn=>by unfold Gn;rw[hx];constructor;rintro⟨_,h⟩;omega;rintro rfl;exact⟨hk2,rfl⟩
  have K:=Kt h10 (az T k x);obtain⟨b,m,q',l,h1,h2,h3,h4,h5,h6,h7,h8,h9,h10',h11,cS,h13,h14,h15⟩:=hc.key.go C.hv;have hlen:∀r,DS T (az T k x) c r->r.length<=32:=λr h=>by unfold DS at h;rw[Q0]at h;omega
  rcases Fw C.hv (cM T k x) h10' h11 cS with hup|⟨pre,r',g,q1,pc,q2,xh,e1,e2,e3,e4,e5,e6,e7⟩
  ·
   refine .inr (.inr λr hi hr=>?_);by_cases hms:m=c.2
   ·have hng:¬Gn k x c.2:=by rw[<-hms];exact h6
    rcases hi with hi|⟨qr,hi⟩
    ·exact absurd hi hng
    ·have hq0:q'=[]:=by
      subst hms;exact h11.self
     subst hq0;obtain⟨hl0,_⟩:=h10'.end_;subst hl0;have:=h9 r hr;rw[Sx,hms]at this;exact(C.fin h10 hi hng this (hlen r hr)).mono (by omega) λ_ h=>h
   ·have hng:=od C.hv h11.ch hup hms;rcases hi with hi|⟨qr,hi⟩
    ·exact absurd hi hng
    ·refine((C.Fu (r:=r) (D:=az T k x) (λ_ h=>h) (h10'.mask (cM T k x) hup) (h9 r hr) h6).bind λw hw=>C.fin h10 hi hng hw.1 (hlen r hr)).mono (by omega) λ_ h=>h
  ·have hrun:∀r,DS T (az T k x) c r->lG (dw T tb p0) (iU T tb p0) q1.length (kY T (az T k x) c r) λw=>nh T xh (g::(r'++r)) w/\¬Gn k x xh:=λr hr=>by
    have:=h9 r hr;rw[e1,RO,RF]at this;exact C.Fu (D:=az T k x) (λ_ h=>h) e3 this h6
   have hgx:¬Gn k x xh:=by
    by_cases hmx:m=xh
    ·rw[<-hmx];exact h6
    ·have hch:∀ {n:Nat} {l:List bG} {q:List Int},mr T (az T k x) xh n l q->n≠xh->¬Gn k x n->¬Gn k x xh:=λ{n l q} h=>by
      induction h with
      |nil=>intro h;exact absurd rfl h
      | @node n y p q l hs hr ih=>
       intro _ hg;have hy:=od C.hv hs.sp.ch hs.up hs.ne;by_cases h:y=xh
       ·rw[<-h];exact hy
       ·exact ih h hy
      | @eZ n a m q l g1 g2 g3 g4 _ ih=>
       intro _ _;have hm:=iR g1 g3 g4;by_cases h:m=xh
       ·rw[<-h];exact hm
       ·exact ih h hm
     exact hch e3 hmx h6
   have hql:=Sc List.length e2;simp only[Q0]at hql;rcases e7 with⟨a,f1,f2,f3,f4,f5⟩|⟨s',f1,f2,f3,f4⟩
   ·subst f1;subst f5;refine .inr (.inl λr _ hr=>(hrun r hr).mono ?_ λw hw=>.inr ⟨(xh,[]),hO xh e5,C.block e5 hgx f2 f3 f4 hw.1⟩);rw[Rk]at hql;omega
   ·subst f1;have hpp:=f2.pos;have hq2:¬Gn k x s'->∀a∈q2,aI (az T k x) a.toNat=false:=λhgs=>by
     have:=FG (v:=v) C.hv f2 e6 (by rw[hk2,hx]at f3;exact f3) (λe=>hgs ((hgv s').2 e));rw[hk2,hx];exact this
    have hsp2:=(vd C.hv f2.sp e6).1;have hgs:Gn k x c.2->s'=c.2:=λhgc=>by
     by_cases hs:Gn k x s'
     ·have h1:=(hgv s').1 hs;have h2:=(hgv c.2).1 hgc;rw[h1,h2]
     ·by_cases hse:s'=c.2
      ·exact hse
      ·exact absurd hgc (od C.hv hsp2.ch (hq2 hs) hse)
    have hinv:∀r,Qb T k x d c r->¬Gn k x s'->∃q,mr T (az T k x) d s' (r'++r) q:=λr hi hs=>by
     rcases hi with hi|⟨qr,hi⟩
     ·exact absurd (by rw[hgs hi];exact hi) hs
     ·exact⟨_,(f4.mask (cM T k x) (hq2 hs)).append hi⟩
    rcases C.PY K f2.bare trivial e4 e5 hgx with⟨m2,b2,p2,a1,a2,a3,a4,a5,a6,a7,a8,a9,a10,a11,a12⟩|⟨m2,a1,a1b,a2,a3⟩|⟨a1,a2⟩
    ·have hkd:=Il (k:=k) (x:=x) (c:=(m2,s')) a5 a6 a7 a9;have he:cw (tb m2) (s':Int)=fZ T (kD T (az T k x) (m2,s')) m2 s':=by rw[a10,hkd]
     by_cases hre:0<=dN T (kD T (az T k x) (m2,s')) s' m2
     ·have hk':Kh T k x (m2,s'):=⟨a3,a5.hy,a5.ne,a4,hre⟩;refine .inl ⟨(m2,s'),r',⟨hk',λhd=>?_⟩,λr hi=>?_,λr _ hr=>?_⟩
      ·have:=hc.dv hd;rw[<-this];exact hgs (by rw[this];exact hd)
      ·by_cases hs:Gn k x s'
       ·exact .inl hs
       ·exact .inr (hinv r hi hs)
      ·exact((hrun r hr).bind λw hw=>(a12 _ _ hw.1).bind λv hv=>hk'.call C he hv).mono (by omega) λ_ h=>h
     ·refine .inr (.inl λr _ hr=>((hrun r hr).bind λw hw=>a12 _ _ hw.1).mono (by omega) λw hw=>.inr ⟨(m2,[]),hO m2 a3,?_⟩);exact Dv C (c:=(m2,s')) a3 a5.hy a5.ne hre he hw
    ·exact .inr (.inl λr _ hr=>((hrun r hr).bind λw hw=>a3 _ _ hw.1).mono (by omega) λw hw=>.inr ⟨(m2,[]),hO m2 a2,hw⟩)
    ·refine .inr (.inr λr hi hr=>((hrun r hr).bind λw hw=>(a2 _ _ hw.1).bind λy hy=>?_).mono (show q1.length+(pc.length+9+288)<=305 by omega) λ_ h=>h);obtain⟨q,hq⟩:=hinv r hi hy.2;have hl:=hy.1.len;have hsk:=kW ⟨1,(s':Int)⟩ y.2;rw[hy.1.skip,hq.skip]at hsk;exact C.fin h10 hq hy.2 hy.1 (by omega)
end
section
variable {T:ak} {k x:Int} {st:Nat->Int} {tb:Nat->cQ} {p0:dq} {d n:Nat}
section
variable {X:Type} {nx:X->List X} {bad:X->Prop} {O:List X} {K m:Nat} {o y:X}
theorem qi(h:nx o=[y])(hr:lG nx bad m y λw=>nx w=[])(c:m+1<=K):ph nx bad O K o:=by
 obtain⟨j,z,h1,h2,a⟩:=hr;have b:nx z=[]:=by
  rcases a with a|a
  ·exact a
  ·exact a.1
 obtain⟨Z,g1,g2,g3,g4⟩:=h2.zj;refine .pw Z (by omega) (λw hw=>by rw[h,Rj]at hw;rw[hw];exact g2) λv hv=>.inl λw hw=>.inl ?_;rcases g4 v hv with rfl|⟨u,hu,e⟩
 ·rw[b]at hw;cases hw
 ·rw[e,Rj]at hw;rw[hw];exact hu
theorem gM(h:nx o=[]):ph nx bad O K o:=.move λw hw=>by rw[h]at hw;cases hw
end
theorem Ep.fin(C:Ep T k x st tb p0 d){D}(b:∀a,aI D a=false->aI (az T k x) a=false){l}{q:List Int}(h:mr T D d n l q)(c:¬Gn k x n){z}(e:nh T n l z):lG (dw T tb p0) (iU T tb p0) q.length z λw=>dw T tb p0 w=[]:=by
 refine(C.Fu (r:=[]) (D:=D) b h (by rw[R9];exact e) c).mono (Rc _) λw hw=>?_;rw[C.B.nil hw.1];exact C.B.jj
theorem Ep.zu(C:Ep T k x st tb p0 d)(v:T.nodes<=10)(hn:(n:Int)<T.nodes)(F:¬Gn k x n)(l:n≠d){D}(A:bN T D=true)(u:∀a,aI D a=false->aI (az T k x) a=false)(hr:0<=dN T D d n)(he:cw (tb n) (d:Int)=fZ T D n d):
  ∃y,dw T tb p0 (n,[])=[y]/\lG (dw T tb p0) (iU T tb p0) 8 y λw=>dw T tb p0 w=[]:=by
 have hd:=C.B.hd;have o:gG T D (n:Int) d=0:=by rw[gh C.hv A hn hd,QZ (by omega)]
 obtain⟨n',B,r,s,i⟩:=px o (by omega);have r:n=n':=by omega
 have s:d=B:=by omega
 subst r;subst s;have c:=tX T D (n:Int) d C.cS;have e:=i.len;obtain⟨b,m,q,h1,h2,E,z,g,t⟩:=i.enter;rw[mE i,h1]at he c;rw[h1]at t e;rw[Q8]at e;have f:=(C.B.open_ hn he c).2.2 l;simp only[Sa,R7,So,QS,g,Sw]at f;have p:=u b z;have j:=lg C.hv h2 g;exact⟨_,f,(C.fin u t (iR h2 p g) ⟨rfl,j,c,by rw[xE]⟩).mono (by omega) λ_ h=>h⟩
inductive N3 (T:ak) (k x:Int) (tb:Nat->cQ) (p0:dq) (d n:Nat):Prop
 |move {D:List Bool}:dw T tb p0 (n,[])=(bu T D n d).map (λa=>((aN T a.toNat).toNat,([]:List bG)))->(∀a∈bu T D n d,aI (az T k x) a.toNat=false)->N3 T k x tb p0 d n
 |none:dw T tb p0 (n,[])=[]->N3 T k x tb p0 d n
 |list (y:Xs):dw T tb p0 (n,[])=[y]->lG (dw T tb p0) (iU T tb p0) 8 y (λw=>dw T tb p0 w=[])->N3 T k x tb p0 d n
 |call:Kh T k x (n,d)->dw T tb p0 (n,[])=[kY T (az T k x) (n,d) []]->DS T (az T k x) (n,d) []->¬(EJ T k x=true/\0<=dN T (az T k x) d n)->N3 T k x tb p0 d n
theorem vJ.Ps(C:vJ T k x st tb p0 d)(i:T.nodes<=10)(hn:(n:Int)<T.nodes)(g:¬Gn k x n)(e:n≠d):N3 T k x tb p0 d n:=by
 have hd:=C.B.hd;have f:=C.N8 n hn g;have hp:=C.perm n hn g;rw[QZ (by simp)]at hp;obtain⟨z,hold⟩:=hp;have p:cw (tb n) (d:Int)=⟨bu T [] n d,false,[]⟩->dw T tb p0 (n,[])=(bu T [] n d).map (λa=>((aN T a.toNat).toNat,([]:List bG))):=λhe=>by
  have:=(C.B.open_ hn he (by simp)).2.2 e;simpa using this
 have r:∀D,bN T D=true->¬0<=dN T D d n->cw (tb n) (d:Int)=fZ T D n d->N3 T k x tb p0 d n:=λD E hr he=>by
  have h1:=nC (T:=T) (D:=D) (n:=(n:Int)) (d:=(d:Int)) λB=>by
   have:=B.1;rw[gh C.hv E hn hd,QY (by omega)]at this;cases this
  rw[h1]at he;exact .none ((C.B.open_ hn he (by simp)).2.1 e rfl)
 rcases z with h0|h0|h0
 ·have he:cw (tb n) (d:Int)=⟨bu T [] n d,false,[]⟩:=by rw[f,h0];unfold mg;rw[QY rfl,ki hd]
  refine .move (p he) λa u=>?_;obtain⟨b,rfl,hb⟩:=di u;rw[QS];exact hold h0 b hb.eZ hb.tail
 ·have he:cw (tb n) (d:Int)=mZ T (eS T (az T k x) n) n d:=by rw[f,h0];unfold mg;rw[QZ (by decide),QY rfl,yf hd]
  unfold mZ at he;cases j:fA (eS T (az T k x) n) (bu T [] n d)with
  |none=>
   rw[j]at he;refine .move (p he) λa u=>?_;obtain⟨b,rfl,hb⟩:=di u;have h1:=Ic j _ u;rw[QS]at h1 ⊢;exact D3 hb.eZ hb.tail h1
  |some a=>
   rw[j]at he;have he:cw (tb n) (d:Int)=fZ T (ld T (eS T (az T k x) n) n d a.toNat) n d:=he;have o:kD T (az T k x) (n,d)=ld T (eS T (az T k x) n) n d a.toNat:=by unfold kD;rw[j];rfl
   obtain⟨h1,h2⟩:=nJ j;by_cases hc:EJ T k x=true/\0<=dN T (az T k x) d n
   ·obtain⟨c1,A,_⟩:=uH C.hv hc.1 hn hd g hc.2 h2;obtain⟨y,v,w⟩:=C.zu i hn g e (nQ (uM T _ _) _) c1 A he;exact .list y v w
   ·by_cases hr:0<=dN T (kD T (az T k x) (n,d)) d n
    ·have hk:Kh T k x (n,d):=⟨hn,hd,e,g,hr⟩;obtain⟨b,m,q,l,K,i2,i3,i4,i5,L,M,i8,i9,F,G,i12,H,t,J⟩:=hk.go C.hv;have c:=tX T (kD T (az T k x) (n,d)) (n:Int) d C.cS;rw[<-o,t]at he;rw[t]at c;have s:=(C.B.open_ hn he c).2.2 e;simp only[R7,So,QS,i4,Sw]at s;refine .call hk (by rw[s,i8,R9]) ?_ hc;unfold DS;rw[R9];exact c
    ·exact r _ yG hr (by rw[he,o])
 ·have he:cw (tb n) (d:Int)=fZ T (az T k x) n d:=by rw[f,h0];unfold mg;rw[QZ (by decide),QZ (by decide),QY rfl,tL hd]
  by_cases hr:0<=dN T (az T k x) d n
  ·obtain⟨y,v,w⟩:=C.toEp.zu i hn g e (cM T k x) (λ_ h=>h) hr he;exact .list y v w
  ·exact r _ (cM T k x) hr he
end
section
variable {X:Type} {nx:X->List X} {bad:X->Prop}
def vP(nx:X->List X)(bad:X->Prop)(s:X):Prop:=∃W a:Nat,W+a*(W+1)<=20000/\(∀x k j,Rn nx k s x->0<j->Rn nx j x x->∃k',k'<=W/\Rn nx k' s x)/\
 (∀(l:List X),l.Nodup->∀n,(∀x∈l,∃k,k<=n/\Rn nx k s x)->l.length<=W+a*(n+1))/\(0<a->∃k x,Rn nx k s x/\nx x=[]/\bad x)/\∃U:List X,U.length<=40000000/\∀k x,Rn nx k s x->x∈U
theorem mG{O:List X}{K:Nat}{s}(k:∀o∈O,ph nx bad O K o)(hs:s∈O){A c:Nat}(hc:O.length<=c){mv:X->Bool}(d:∀o,mv o=true->o∈O->∀w∈nx o,w∈O)(j:(O.filter λo=> !mv o).length<=A)(b:∀W a,a<=A->W+K*a<=c+K*A->W+a*(W+1)<=20000)(e:A<=10:=by omega):vP nx bad s:=by
 obtain⟨W,a,h1,h2,f,g,h,U,l,i⟩:=BZ k hs hc d j;have hn:=b W a h2 h1;exact⟨W,a,hn,f,g,h,U,by
  have:a*(W+1)=a*W+a:=Nat.mul_succ a W;have m:=Sk 2000001 (show a<=10 by omega);omega,i⟩
theorem Cz{O:List X}{mv:X->Bool}{l:List X}(hl:l.Nodup)(h:∀x∈l,x∈O/\mv x=true):(O.filter λo=> !mv o).length+l.length<=O.length:=by
 classical
 have h1:=rJ (p:=mv) O;have h2:=eT l (O.filter mv) hl λx hx=>RK.2 (h x hx);omega
end
theorem ph.mono{X:Type}{nx:X->List X}{bad:X->Prop}{O}{K b:Nat}{o}(h:ph nx bad O K o)(d:K<=b):ph nx bad O b o:=by
 cases h with
 |move h=>exact .move h
 |pw Z h1 h2 a=>exact .pw Z (by omega) h2 a
 |drop k y z h0 h1 h2 a c=>exact .drop k y z h0 h1 h2 a c
section
variable {T:ak} {k x:Int} {st:Nat->Int} {tb:Nat->cQ} {p0:dq} {d n:Nat}
def pn(T:ak):List Xs:=(List.range T.nodes.toNat).map λn=>(n,[])
theorem eV{n:Nat}(hn:(n:Int)<T.nodes):((n,[]):Xs)∈pn T:=RB.2 ⟨n,Ri.2 (by omega),rfl⟩
theorem ju(a:T.nodes<=10):(pn T).length<=10:=by unfold pn;rw[RN,Sz];omega
theorem rH(hv:av T=true){D}{a:Int}(c:a∈bu T D n d):((aN T a.toNat).toNat:Int)<T.nodes:=by
 obtain⟨b,rfl,hb⟩:=di c;rw[QS];obtain⟨h1,h2⟩:=(aS hv).head b hb.eZ;omega
theorem IJ(C:vJ T k x st tb p0 d)(b:T.nodes<=10)(p:k=2){v:Nat}(hx:x=(v:Int))(L:(v:Int)<T.nodes)(f:dw T tb p0 (v,[])=[]){s:Nat}(hs:(s:Int)<T.nodes):vP (dw T tb p0) (iU T tb p0) (s,[]):=by
 have hd:=C.B.hd;have g:∀n:Nat,Gn k x n↔n=v:=λn=>by unfold Gn;rw[hx];constructor;rintro⟨_,h⟩;omega;rintro rfl;exact⟨p,rfl⟩
 have M:=Lw C b p hx (O:=pn T) λm hm=>eV hm;have q:∀o:Xs,(decide (o.1=v)||decide (o.1=d))=true->o∈pn T->∀w∈dw T tb p0 o,w∈pn T:=λo B H w hw=>by
  obtain⟨n,_,rfl⟩:=RB.1 H;rw[RX,R3,R3]at B;dsimp only at B;rcases B with rfl|rfl
  ·rw[f]at hw;cases hw
  ·rw[C.B.jj]at hw;cases hw
 have key:∀(D:List Ky) (K:Nat),(∀c,Hn T k x d c->c∈D)->D.length*8+314<=K->K<=1000->∀o∈pn T,ph (dw T tb p0) (iU T tb p0) (pn T) K o:=λD K E Q P o B=>by
  obtain⟨n,hn,rfl⟩:=RB.1 B;have hn:=Ri.1 hn;have hn:(n:Int)<T.nodes:=by omega
  by_cases u:n=v
  ·subst u;exact gM f
  by_cases t:n=d
  ·subst t;exact gM C.B.jj
  cases C.Ps b hn (λh=>u ((g n).1 h)) t with
  |move h1 _=>
   refine .move λw hw=>?_;rw[h1]at hw;obtain⟨a,F,rfl⟩:=RB.1 hw;exact eV (rH C.hv F)
  |none h1=>exact gM h1
  |list y h1 h2=>exact qi h1 h2 (by omega)
  |call h1 h2 N _=>
   rcases M.HW E (c:=(n,d)) (r:=[]) ⟨h1,λ_=>rfl⟩ (.inr ⟨[],.nil⟩) N with⟨Z,g1,g2,g3⟩|⟨j,z,g0,g1,g2,g3⟩
   ·exact .pw Z (by omega) (λw hw=>by rw[h2,Rj]at hw;rw[hw];exact g2) g3
   ·exact .drop j _ z (by omega) h2 g1 g2 g3
 by_cases i:Gn k x d
 ·have G:=(g d).1 i;subst G;refine mG (A:=9) (key ((List.range T.nodes.toNat).erase d |>.map λm=>(m,d)) 386 (λc hc=>?_) ?_ (by omega)) (eV hs) (ju b) q ?_ λW a F h=>?_
  ·refine RB.2 ⟨c.1,?_,?_⟩
   ·rw[TP (λe=>hc.key.here ((g _).2 e))];exact Ri.2 (by have:=hc.key.n1;omega)
   ·rw[<-hc.dv i]
  ·rw[RN,TA (Ri.2 (by omega)),Sz];omega
  ·have:=Cz (O:=pn T) (mv:=λo:Xs=>decide (o.1=d)||decide (o.1=d)) (l:=[(d,[])]) (by simp) (λy hy=>by rw[Rj]at hy;subst hy;exact⟨eV hd,by simp⟩);have h1:=ju b;simp only[Rk]at this;omega
  ·have:a=0\/a=1\/a=2\/a=3\/a=4\/a=5\/a=6\/a=7\/a=8\/a=9:=by omega
   rcases this with rfl|rfl|rfl|rfl|rfl|rfl|rfl|rfl|rfl|rfl<;>omega
 ·have J:v≠d:=λe=>i ((g d).2 e.symm);refine mG (A:=8) (key (((List.range T.nodes.toNat).erase v).flatMap λm=>((List.range T.nodes.toNat).erase m).map λs=>(m,s)) 962 (λc hc=>?_) ?_ (by omega)) (eV hs) (ju b) q ?_ λW a F h=>?_
  ·have h1:=hc.key.n1;have h2:=hc.key.n2;rw[S9];refine⟨c.1,?_,RB.2 ⟨c.2,?_,rfl⟩⟩
   ·rw[TP (λe=>hc.key.here ((g _).2 e))];exact Ri.2 (by omega)
   ·rw[TP (λe=>hc.key.ne e.symm)];exact Ri.2 (by omega)
  ·have h1:=lP (λm=>((List.range T.nodes.toNat).erase m).map λs=>(m,s)) 9 ((List.range T.nodes.toNat).erase v) (λm hm=>by
    have:=List.mem_of_mem_erase hm;rw[RN,TA this,Sz];omega)
   have h2:((List.range T.nodes.toNat).erase v).length<=9:=by rw[TA (Ri.2 (by omega)),Sz];omega
   have N:=Sk 9 h2;omega
  ·have:=Cz (O:=pn T) (mv:=λo:Xs=>decide (o.1=v)||decide (o.1=d)) (l:=[(v,[]),(d,[])]) (by simp[J]) (λy hy=>by
    rcases RA.1 hy with rfl|hy
    ·exact⟨eV L,by simp⟩
    ·rw[Rj]at hy;subst hy;exact⟨eV hd,by simp⟩)
   have h1:=ju b;simp only[Q8,S7]at this;omega
  ·have:a=0\/a=1\/a=2\/a=3\/a=4\/a=5\/a=6\/a=7\/a=8:=by omega
   rcases this with rfl|rfl|rfl|rfl|rfl|rfl|rfl|rfl|rfl<;>omega
theorem zN(hv:av T=true){c}(t:Kh T k x c)(r:¬0<=dN T (az T k x) c.2 c.1):∃c0,(kY T (az T k x) c []).1=c0/\(c0:Int)<T.nodes/\bR T c0=false/\vO T k x c0 c0/\vO T k x c0 c.1/\¬vO T k x c0 c.2/\2<=(mR T k x c0).length:=by
 obtain⟨b,m,q,l,z,i2,i3,i4,i5,H,u,i8,i9,A,o,i12,s,B,C⟩:=t.go hv;have g:=t.n2;have i:¬0<=dN T (az T k x) c.2 m:=λy=>r (jY hv g i2 u i3 i4 (by rcases i12 with e|e;exact .inl (by subst e;exact o.ch.to rfl);exact .inr e) y);have j:bR T m=false:=by
  rcases i12 with e|e
  ·exfalso;subst e;rw[o.ch.to rfl,fE hv g]at i;omega
  ·exact e
 have a:vO T k x m m:=⟨i5,by rw[fE hv i5];omega⟩;obtain⟨b',D,E,F,G⟩:=y6 (k:=k) (x:=x) i2;have f:vO T k x m c.1:=a.step hv i5 D (G.trans u) (E.trans i4) (F.trans i3) j;have p:c.1≠m:=λe=>by
  obtain⟨w,f1,f2⟩:=s.vW;rw[z,Sa]at f1;have:b=w:=by omega
  subst this;obtain⟨f3,f4⟩:=f2.dN i4;have:=(aS hv).cost b i2;rw[e]at f4;omega
 refine⟨m,by rw[i8],i5,j,a,f,λh=>i h.2,?_⟩;have:=eT [c.1,m] (mR T k x m) (by simp[p]) λv hv=>by
  rcases RA.1 hv with rfl|hv
  ·exact tQ.2 f
  ·rw[Rj]at hv;subst hv;exact tQ.2 a
 simpa using this
def Kq(Q:Nat):Nat:=Q*(10 - Q)*(7*(Q - 1)+1)+(7*(Q - 1)+2)
theorem Co{Q:Nat}(h:Q<=10):Kq Q<=947:=by
 have:Q=0\/Q=1\/Q=2\/Q=3\/Q=4\/Q=5\/Q=6\/Q=7\/Q=8\/Q=9\/Q=10:=by omega
 rcases this with rfl|rfl|rfl|rfl|rfl|rfl|rfl|rfl|rfl|rfl|rfl<;>decide
theorem ur(C:vJ T k x st tb p0 d)(g:T.nodes<=10)(h:EJ T k x=true){O}{c0:Nat}(e:(c0:Int)<T.nodes)(i:bR T c0=false)(h2:2<=(mR T k x c0).length)(q:∀m:Nat,vO T k x c0 m->bR T m=false->(m:Int)<T.nodes->((m,[]):Xs)∈O)
  (o:Hd T k x (vO T k x c0) (n,d)) (f:dw T tb p0 (n,[])=[kY T (az T k x) (n,d) []]) (l:DS T (az T k x) (n,d) []):ph (dw T tb p0) (iU T tb p0) O (Kq (mR T k x c0).length) (n,[]):=by
 have M:=KU C g h (Nl C.hv e h2) q;have hl:((mR T k x c0).flatMap λa=>(Mr T k x c0).map λb=>(a,b)).length<=(mR T k x c0).length*(10 - (mR T k x c0).length):=by
  refine Rr (lP _ (Mr T k x c0).length _ λa _=>by rw[RN];exact Rc _) (T0 _ ?_);have:=p7 (T:=T) (k:=k) (x:=x) c0;omega
 have p:((mR T k x c0).flatMap λa=>(Mr T k x c0).map λb=>(a,b)).length*(7*((mR T k x c0).length - 1)+1)+(7*((mR T k x c0).length - 1)+0+2)<=Kq (mR T k x c0).length:=by
  unfold Kq;have:=Sk (7*((mR T k x c0).length - 1)+1) hl;omega
 rcases M.HW (λc hc=>KV C.hv e i hc) (c:=(n,d)) (r:=[]) o trivial l with⟨Z,g1,g2,g3⟩|⟨j,z,g0,g1,g2,g3⟩
 ·exact .pw Z (Rr g1 p) (λw hw=>by rw[f,Rj]at hw;rw[hw];exact g2) g3
 ·refine .drop j _ z (Rr g0 ?_) f g1 g2 g3;have s:=Co (Q:=(mR T k x c0).length) (by have:=p7 (T:=T) (k:=k) (x:=x) c0;omega);omega
theorem H9(C:vJ T k x st tb p0 d)(f:T.nodes<=10)(ad:k≠2)(i:EJ T k x=true){s:Nat}(hs:(s:Int)<T.nodes):vP (dw T tb p0) (iU T tb p0) (s,[]):=by
 have hd:=C.B.hd;have hg:∀n,¬Gn k x n:=λn h=>ad h.1;have G:∀ {D:List Bool} {n:Nat},dw T tb p0 (n,[])=(bu T D n d).map (λa=>((aN T a.toNat).toNat,([]:List bG)))->∀w∈dw T tb p0 (n,[]),w∈pn T:=λ{D n} h1 w hw=>by
  rw[h1]at hw;obtain⟨a,F,rfl⟩:=RB.1 hw;exact eV (rH C.hv F)
 have ab:∀c0,(mR T k x c0).length<=10:=λc0=>by have:=p7 (T:=T) (k:=k) (x:=x) c0;omega
 by_cases H:s=d
 ·subst H;exact mG (O:=[(s,[])]) (K:=0) (A:=1) (c:=1) (mv:=λ_=>false) (λo g=>by rw[Rj]at g;subst g;exact gM C.B.jj) (by simp) (by simp) (λo h=>by cases h) (by simp) λW a F h=>by
   have:a=0\/a=1:=by omega
   rcases this with rfl|rfl<;>omega
 have j:(∀w∈dw T tb p0 (s,[]),w∈pn T)->vP (dw T tb p0) (iU T tb p0) (s,[]):=λr=>by
  refine mG (O:=pn T) (K:=947) (A:=8) (c:=10) (mv:=λo:Xs=>decide (o.1=s)||decide (o.1=d)) (λo g=>?_) (eV hs) (ju f) (λo g p w hw=>?_) ?_ λW a F h=>?_
  ·obtain⟨n,hn,rfl⟩:=RB.1 g;have hn:=Ri.1 hn;have hn:(n:Int)<T.nodes:=by omega
   by_cases B:n=s
   ·subst B;exact .move r
   by_cases z:n=d
   ·subst z;exact gM C.B.jj
   cases C.Ps f hn (hg n) z with
   |move h1 _=>exact .move (G h1)
   |none h1=>exact gM h1
   |list y h1 h2=>exact qi h1 h2 (by omega)
   |call h1 h2 h3 h4=>
    have t:¬0<=dN T (az T k x) d n:=λh=>h4 ⟨i,h⟩;obtain⟨c0,Z,J,S,e4,U,X,Y⟩:=zN C.hv h1 t;exact(ur C f i J S Y (λm _ _ hm=>eV hm) ⟨h1,t,U,by rw[Z];exact e4⟩ h2 h3).mono (Co (ab c0))
  ·obtain⟨n,_,rfl⟩:=RB.1 p;rw[RX,R3,R3]at g;dsimp only at g;rcases g with rfl|rfl
   ·exact r w hw
   ·rw[C.B.jj]at hw;cases hw
  ·have:=Cz (O:=pn T) (mv:=λo:Xs=>decide (o.1=s)||decide (o.1=d)) (l:=[(s,[]),(d,[])]) (by simp[H]) (λy hy=>by
    rcases RA.1 hy with rfl|hy
    ·exact⟨eV hs,by simp⟩
    ·rw[Rj]at hy;subst hy;exact⟨eV hd,by simp⟩)
   have h1:=ju f;simp only[Q8,S7]at this;omega
  ·have:a=0\/a=1\/a=2\/a=3\/a=4\/a=5\/a=6\/a=7\/a=8:=by omega
   rcases this with rfl|rfl|rfl|rfl|rfl|rfl|rfl|rfl|rfl<;>omega
 cases C.Ps f hs (hg s) H with
 |move h1 _=>exact j (G h1)
 |none h1=>exact j λw hw=>by rw[h1]at hw;cases hw
 |list y h1 h2=>
  exact mG (O:=[(s,[])]) (K:=9) (A:=1) (c:=1) (mv:=λ_=>false) (λo g=>by rw[Rj]at g;subst g;exact qi h1 h2 (by omega)) (by simp) (by simp) (λo h=>by cases h) (by simp) λW a F h=>by
   have:a=0\/a=1:=by omega
   rcases this with rfl|rfl<;>omega
 |call h1 h2 h3 h4=>
  have t:¬0<=dN T (az T k x) d s:=λh=>h4 ⟨i,h⟩;obtain⟨c0,Z,J,S,e4,U,X,Y⟩:=zN C.hv h1 t;have ag:(mR T k x c0).length<=9:=by
   have h5:=p7 (T:=T) (k:=k) (x:=x) c0;have h6:=Ud (Hz.2 ⟨hd,X⟩);omega
  have⟨V,hV⟩:=QQ ((mR T k x c0).filter λv=> !bR T v||decide (v=s));have u:∀v,v∈V↔vO T k x c0 v/\(bR T v=false\/v=s):=λv=>by
   rw[<-hV,RK,tQ,RX,R4,R3]
  have P:V.length<=(mR T k x c0).length:=by rw[<-hV];exact RG _ _
  have p:∀ {v:Nat},v∈V->((v,[]):Xs)∈V.map λv=>((v,[]):Xs):=λ{v} h=>RB.2 ⟨v,h,rfl⟩;have N:∀m:Nat,vO T k x c0 m->bR T m=false->(m:Int)<T.nodes->((m,[]):Xs)∈V.map λv=>((v,[]):Xs):=λm hm g _=>p ((u m).2 ⟨hm,.inl g⟩);refine mG (O:=V.map λv=>((v,[]):Xs)) (K:=Kq (mR T k x c0).length) (A:=(mR T k x c0).length) (c:=(mR T k x c0).length) (mv:=λ_=>false) (λo g=>?_) (p ((u s).2 ⟨U,.inr rfl⟩)) (by rw[RN];exact P) (λo h=>by cases h) ?_ λW a F h=>?_
  ·obtain⟨n,hn,rfl⟩:=RB.1 g;obtain⟨L,E⟩:=(u n).1 hn;by_cases B:n=s
   ·subst B;exact ur C f i J S Y N ⟨h1,t,U,by rw[Z];exact e4⟩ h2 h3
   have E:bR T n=false:=E.resolve_right B;have z:n≠d:=λe=>by subst e;exact X L
   cases C.Ps f L.1 (hg n) z with
   |move g1 g2=>
    refine .move λw hw=>?_;rw[g1]at hw;obtain⟨a,F,rfl⟩:=RB.1 hw;have hu:=g2 a F;obtain⟨b,rfl,hb⟩:=di F;rw[QS]at hu;obtain⟨m,hm⟩:=QW ((aS C.hv).head b hb.eZ).1;have M:=L.step C.hv J hb.eZ hu hb.tail hm E;rw[QS,hm,QS];have ae:bR T m=false:=by
     rcases hb.pass with h|h
     ·have:m=d:=by rw[hm]at h;omega
      subst this;exact absurd M X
     ·rwa [hm,QS]at h
    exact p ((u m).2 ⟨M,.inl ae⟩)
   |none g1=>exact gM g1
   |list y g1 g2=>
    have af:7<=7*((mR T k x c0).length - 1):=by omega
    exact qi g1 g2 (by unfold Kq;omega)
   |call g1 g2 g3 g4=>
    have R:¬0<=dN T (az T k x) d n:=λh=>g4 ⟨i,h⟩;obtain⟨b,m,q,l,i1,i2,i3,i4,i5,i6,i7,i8,_⟩:=g1.go C.hv;exact ur C f i J S Y N ⟨g1,R,L,by rw[i8];exact L.step C.hv J i2 i7 i3 i4 E⟩ g2 g3
  ·refine Rr (RG _ _) ?_;rw[RN];exact P
  ·have hq:(mR T k x c0).length=2\/(mR T k x c0).length=3\/(mR T k x c0).length=4\/(mR T k x c0).length=5\/(mR T k x c0).length=6\/(mR T k x c0).length=7\/(mR T k x c0).length=8\/(mR T k x c0).length=9:=by omega
   generalize (mR T k x c0).length=Q at*;have key:∀K:Nat,Kq Q=K->K<=947->(Q=8->K=851)->(Q=9->K=571)->W+a*(W+1)<=20000:=λK e hK h8 h9=>by
    rw[e]at h;have aa:a=0\/a=1\/a=2\/a=3\/a=4\/a=5\/a=6\/a=7\/a=8\/a=9:=by omega
    rcases hq with rfl|rfl|rfl|rfl|rfl|rfl|rfl|rfl<;>rcases aa with rfl|rfl|rfl|rfl|rfl|rfl|rfl|rfl|rfl|rfl<;>omega
   exact key _ rfl (Co (by omega)) (by rintro rfl;decide) (by rintro rfl;decide)
theorem Fk(C:Ep T k x st tb p0 d)(e:T.nodes<=10)(hp:Perm T k x true st)(f:∀v:Nat,(v:Int)<T.nodes->Gn k x v->dw T tb p0 (v,[])=[]){s:Nat}(hs:(s:Int)<T.nodes):vP (dw T tb p0) (iU T tb p0) (s,[]):=by
 have hd:=C.B.hd;refine mG (O:=pn T) (K:=9) (A:=10) (c:=10) (mv:=λ_=>false) (λo r=>?_) (eV hs) (ju e) (λo h=>by cases h) (Rr (RG _ _) (ju e)) λW a l h=>?_
 ·obtain⟨n,hn,rfl⟩:=RB.1 r;have hn:=Ri.1 hn;have hn:(n:Int)<T.nodes:=by omega
  by_cases b:n=d
  ·subst b;exact gM C.B.jj
  by_cases j:Gn k x n
  ·exact gM (f n hn j)
  have g:=hp n hn j;rw[QY rfl]at g;have i:=C.N8 n hn j;by_cases h2:st n=2
  ·have he:cw (tb n) (d:Int)=fZ T (az T k x) n d:=by rw[i,h2];unfold mg;rw[QZ (by decide),QZ (by decide),QY rfl,tL hd]
   by_cases hr:0<=dN T (az T k x) d n
   ·obtain⟨y,m,p⟩:=C.zu e hn j b (cM T k x) (λ_ h=>h) hr he;exact qi m p (by omega)
   ·have h1:=nC (T:=T) (D:=az T k x) (n:=(n:Int)) (d:=(d:Int)) λq=>by
     have:=q.1;rw[gh C.hv (cM T k x) hn hd,QY (by omega)]at this;cases this
    rw[h1]at he;exact gM ((C.B.open_ hn he (by simp)).2.1 b rfl)
  ·have he:cw (tb n) (d:Int)=⟨bu T (az T k x) n d,false,[]⟩:=by rw[i];unfold mg;rw[QZ g.1,QZ g.2,QZ h2,ki hd]
   have h1:=(C.B.open_ hn he (by simp)).2.2 b;refine .move λw hw=>?_;rw[h1]at hw;obtain⟨a,l,rfl⟩:=RB.1 hw;exact eV (rH C.hv l)
 ·have:a=0\/a=1\/a=2\/a=3\/a=4\/a=5\/a=6\/a=7\/a=8\/a=9\/a=10:=by omega
  rcases this with rfl|rfl|rfl|rfl|rfl|rfl|rfl|rfl|rfl|rfl|rfl<;>omega
end
section
variable {T:ak} {tb:Nat->cQ} {p0:dq}
def Gd(T:ak)(p:dq)(o:Out):Prop:=o.aA=[]\/(o=dO p o.eJ.stack o.aA/\dG o.eJ.stack/\o.eJ.stack.length<=32/\∀a∈o.aA,ef T a=true)
def PA(T:ak)(x:cQ):Prop:=∀v,aX T v=true->dG (cw x v).push/\∀a∈(cw x v).aA,ef T a=true
theorem Gx{a b}(h:dG a)(k:dG b):dG (a++b):=λg c=>by
 rcases RR.1 c with c|c
 ·exact h g c
 ·exact k g c
theorem MJ{x}(hx:PA T x){p}{s:List bG}{v:Int}{K}(hs:dG s)(hl:s.length<=32)(a:Gd T p K):Gd T p (zv T x p s v K):=by
 unfold zv;split
 ·rename_i h;obtain⟨h1,h2⟩:=hx v (Q3.1 h).1;unfold fS;split
  ·split
   ·exact .inl rfl
   ·rename_i c;exact .inr ⟨rfl,Gx h1 λg b=>hs g (Tp b),by show((cw x v).push++s.drop 1).length<=32;omega,h2⟩
  ·exact .inr ⟨rfl,hs,hl,h2⟩
 ·exact a
theorem A2{x}(hx:PA T x){p}{s:List bG}{K}(hs:dG s)(hl:s.length<=32)(e:Gd T p K):Gd T p (cB T x p s K):=by
 unfold cB;split
 ·exact .inl rfl
 ·split
  ·exact .inl rfl
  ·cases s with
   |nil=>exact MJ hx hs hl (.inl rfl)
   |cons a l=>
    have c:dG l:=λg h=>hs g (by simp[h]);dsimp only;split
    ·exact MJ hx hs hl e
    ·split
     ·split
      ·exact .inl rfl
      ·rename_i d;split
       ·exact e
       ·refine .inr ⟨rfl,c,by rw[Q8]at hl;show l.length<=32;omega,λb hb=>?_⟩;have hb:b∈[a.num]:=hb;rw[Rj]at hb;subst hb;cases f:ef T a.num with
        |true=>rfl
        |false=>rw[f]at d;simp at d
     ·exact .inl rfl
theorem C6{h s}(hs:dG s):dG (cU h s):=λg b=>hs g (by
 have:∀l:List bG,g∈cU h l->g∈l:=λl=>by
  induction l with
  |nil=>exact λh=>h
  |cons a l c=>
   intro b;simp only[cU]at b;split at b
   ·exact RU _ (c b)
   ·exact b
 exact this s b)
theorem Eh{x}(hx:PA T x){p:dq}(hs:dG p.stack):Gd T p (fX T x p):=by
 unfold fX;split
 ·exact .inl rfl
 ·split
  ·exact .inl rfl
  ·rename_i h;have a:p.stack.length<=32:=by omega
   refine A2 hx (C6 hs) (Rr (kW _ _) a) (A2 hx (λg b=>by cases b) (by simp) (.inl rfl))
theorem Aa{x}(hx:df T x=true){v:Int}(hv:aX T v=true):∀a∈(cw x v).aA,ef T a=true:=λa d=>by
 unfold df at hx;simp only[Q7,Ra]at hx;obtain⟨⟨⟨⟨_,_⟩,f⟩,_⟩,c⟩:=hx;obtain⟨h0,h1⟩:=aQ.1 hv;unfold nD at c;have:=Q5 c v.toNat (by omega);unfold gL at this;simp only[Q7]at this;have hl:=Q5 this.1.1;obtain⟨i,hi⟩:=Rv d;have b:=(QT.1 hi).1;have:=(hl i b).1;have e:(x.ed.getD v.toNat KM).aA.getD i 0=a:=by
  show(cw x v).aA.getD i 0=a;rw[QU,hi];rfl
 rwa [e]at this
def sa(T:ak)(tb:Nat->cQ)(p0:dq)(s0:Nat)(m:Nat)(s:List bG):Prop:=∃k,Rn (dw T tb p0) k (s0,[]) (m,s)
theorem th(hv:av T=true)(f:∀n:Nat,(n:Int)<T.nodes->(tb n).node=(n:Int)/\df T (tb n)=true)(i:∀n:Nat,(n:Int)<T.nodes->∀v,aX T v=true->dG (cw (tb n) v).push){s0:Nat}(j:(s0:Int)<T.nodes):∀ {k:Nat} {z},Rn (dw T tb p0) k (s0,[]) z->(z.1:Int)<T.nodes/\dG z.2/\z.2.length<=32:=λ{k z} h=>by
 generalize l:((s0,[]):Xs)=q at h;induction h with
 |nil=>subst l;exact⟨j,λg e=>(by cases e),by simp⟩
 | @snoc k x y z _ m s=>
  obtain⟨h1,h2,_⟩:=s l;unfold dw DV at m;obtain⟨a,d,rfl⟩:=RB.1 m;have e:Gd T (cu p0 y.2) (bh T tb p0 y.1 y.2):=Eh (λv c=>⟨i y.1 h1 v c,Aa (f y.1 h1).2 c⟩) h2;rcases e with h|⟨_,o,p,r⟩
  ·rw[h]at d;cases d
  ·obtain⟨g0,g1⟩:=cH.1 (r a d);obtain⟨b,rfl⟩:=QW g0;obtain⟨t,u⟩:=(aS hv).head b (by omega);exact⟨by show((aN T (b:Int).toNat).toNat:Int)<T.nodes;rw[QS];omega,o,p⟩
theorem LL(hv:av T=true)(hok:∀n:Nat,(n:Int)<T.nodes->(tb n).node=(n:Int)/\df T (tb n)=true)(hps:∀n:Nat,(n:Int)<T.nodes->∀v,aX T v=true->dG (cw (tb n) v).push){s0:Nat}(hs0:(s0:Int)<T.nodes):vQ T tb p0 (sa T tb p0 s0) where
 node:=λ⟨_,h⟩=>(th hv hok hps hs0 h).1
 small:=λ{n s} ⟨_,h⟩=>⟨(th hv hok hps hs0 h).2.1,Rr (th hv hok hps hs0 h).2.2 (by omega)⟩
 step:=λ{n s} ⟨k,h⟩=>by
  obtain⟨h1,h2,_⟩:=th hv hok hps hs0 h;have hg:Gd T (cu p0 s) (bh T tb p0 n s):=Eh (λv hv'=>⟨hps n h1 v hv',Aa (hok n h1).2 hv'⟩) h2;rcases hg with h3|⟨h3,_,_,h5⟩
  ·exact .inl h3
  ·refine .inr ⟨GA _ _ _,h3,λa ha=>?_⟩;obtain⟨g0,g1⟩:=cH.1 (h5 a ha);obtain⟨b,rfl⟩:=QW g0;obtain⟨m,hm⟩:=QW ((aS hv).head b (by omega)).1;refine⟨b,m,rfl,by omega,hm,k+1,.snoc h ?_⟩;unfold dw DV;exact RB.2 ⟨_,ha,by rw[QS,hm,QS]⟩
theorem Hu{n m:Nat}{s s'}(h:om T tb p0 n s m s'):∃k,0<k/\Rn (dw T tb p0) k (n,s) (m,s'):=by
 induction h with
 |one a hm=>exact⟨1,by omega,.snoc (.nil _) (RB.2 ⟨_,a,by rw[hm,QS]⟩)⟩
 |more _ a hm b=>
  obtain⟨k,_,h2⟩:=b;exact⟨k+1,by omega,.snoc h2 (RB.2 ⟨_,a,by rw[hm,QS]⟩)⟩
theorem NQ{Ψ:Nat->List bG->Prop}(R:vQ T tb p0 Ψ){k:Nat}{x y}(h:Rn (dw T tb p0) k x y):Ψ x.1 x.2->Ψ y.1 y.2/\(x=y\/om T tb p0 x.1 x.2 y.1 y.2)/\(0<k->om T tb p0 x.1 x.2 y.1 y.2):=by
 induction h with
 |nil x=>intro h;exact⟨h,.inl rfl,λh=>absurd h (by omega)⟩
 | @snoc k x y z _ f g=>
  intro e;obtain⟨h1,h2,i⟩:=g e;unfold dw DV at f;obtain⟨a,c,rfl⟩:=RB.1 f;rcases R.step h1 with h|⟨_,_,h⟩
  ·rw[h]at c;cases c
  ·obtain⟨b,m,rfl,_,hm,d⟩:=h a c;dsimp only;rw[QS,hm,QS];have hb:om T tb p0 x.1 x.2 m (bh T tb p0 y.1 y.2).eJ.stack:=by
    rcases h2 with rfl|h2
    ·exact .one c (by rw[QS];exact hm)
    ·exact .more h2 c (by rw[QS];exact hm)
   exact⟨d,.inr hb,λ_=>hb⟩
end
def Eb(O:Out):List bG:=if O.dJ=0 then O.eJ.stack else []
def uY(O:Out):PV:=.tuple [aq O.aA,cr (Eb O),num O.dJ]
theorem kz(p:dq)(c:Int)(h:c≠0):uY (dZ p c)= .tuple [aq [],cr [],num c]:=by
 unfold uY Eb dZ;rw[QZ h]
theorem uT(p:dq)(s:List bG)(l:List Int):uY (dO p s l)= .tuple [aq l,cr s,num 0]:=rfl
theorem xt(T:ak)(x:cQ)(p:dq)(s:List bG)(K:Out)(hx:df T x=true)(hs:s.length<=40)(Z:0<s.length->Can prog 125 [aL T,dW x,dI p,cr []] (· =uY K)):
    Can prog 125 [aL T,dW x,dI p,cr s] (· =uY (cB T x p s K)):=by
  have hv:av T=true:=by unfold df at hx;simp only[Q7]at hx;exact hx.1.1.1.1
  have⟨n,hn⟩:=QQ (x.node);have aa:0<=n:=by unfold df at hx;simp only[Q7]at hx;have:=(aQ.1 hx.1.1.1.2).1;omega
  have⟨R,b⟩:=QQ (cB T x p s K);rw[b];unfold cB at b;have⟨X,B⟩:=QQ (decide ((s.length:Int)=0));have⟨c6,C⟩:=QQ (decide (p.dst=n));have⟨c7,D⟩:=QQ (decide (255<=p.eB));have⟨Y,E⟩:=QQ (decide (p.eB<0));rw[B,hn,C,D,E]at b;refine aF func125 I ntmps125 I<|ab (.a 6 I<|.k [3,4,5,6] I)<|ai<|bz 24 (.raw (.bool (X&&c6))) [3,4,5,6] I ?_ ?_
  · refine .a 2 I<|.v (bW I (B)) I<|.a 1 I<|?_;cases X
    · exact .a 6 I<|.k [24,3,4,5,6] I
    · exact .a 1 I<|.v (aJ I ((rfl:(cY p)[2]? =some (num p.dst)))) I<|.a 1 I<|.v (aJ I ((show(fi x)[0]? =some (num n) by rw[<-hn];rfl))) I<|.v (bW I (C)) I<|.a 1 I<|.k [24,3,4,5,6] I
  refine ae I (λh1=>?_) (λh1=>?_)
  · rw[QY h1]at b;subst b;exact ab (.a 3 I<|.k [8,9,10] I)<|ao<|QR I (RW (QV ax.bH<|QV ax.bH<|QV ax.pure Rl)) rfl
  · rw [QZ (by rw [h1]; simp)] at b;refine aj<|ai<|bz 32 (.raw (.bool (Y||c7))) [3,4,5,6] I ?_ ?_
    · refine .a 1 I<|.v (aJ I ((rfl:(cY p)[5]? =some (num p.eB)))) I<|.v (bW I (E)) I<|.a 1 I<|?_;cases Y
      · exact .a 1 I<|.v (aJ I ((rfl:(cY p)[5]? =some (num p.eB)))) I<|.v (bW I (D)) I<|.a 1 I<|.k [32,3,4,5,6] I
      · exact .a 4 I<|.k [32,3,4,5,6] I
    refine ae I (λh2=>?_) (λh2=>?_)
    · rw[QY (by rw[Bool.or_comm];exact h2)]at b;subst b;rw[kz _ _ (by decide)];exact ab (.a 3 I<|.k [8,9,10] I)<|ao<|QR I (RW (QV ax.bH<|QV ax.bH<|QV ax.pure Rl)) rfl
    · rw [QZ (by rw [Bool.or_comm, h2]; simp)] at b;clear B C D E h1 h2;refine aj ?_;have⟨v,j⟩:=QQ (p.dst);refine ab (.a 1 I<|.v (aJ I ((show(cY p)[2]? =some (num v) by rw[<-j];rfl))) I<|.a 1 I<|.k [3,4,5,6,11] I)<|Dk (λs0=>∃v o,zv T x p s v o=R/\(s.length=0->o=dZ p 1)/\(0<s.length->o=K)/\s0=⟨[(3,cr s),(4,.bq (bn T) 0),(5,.bq (fi x) 0),(6,.bq (cY p) 0),(11,num v)],[]⟩) ?_ ?_
      · refine ab (.a 3 I<|.k [3,4,5,6,11,37] I)<|ae I (λH=>?_) (λH=>?_)
        · have w:0<s.length:=by have:=tt H;omega
          obtain⟨a,l,f⟩:∃a l,s=a::l:=by
            cases s with
            |nil=>exact absurd w (by simp)
            |cons a l=>exact⟨a,l,rfl⟩
          have h0:s[0]? =some a:=by rw[f];rfl
          rw[f]at b;dsimp only at b;rw[<-f]at b;clear j;have⟨v,j⟩:=QQ (a.num);have⟨kd,N⟩:=QQ (a.kind);rw[j,N]at b;refine aK<|au 1 I<|bm (aM (0) I (by omega) (by omega)) I<|bm (gj I (il s 0 a h0) I) I<|au 2 I<|aE [3,4,5,6,12] I ?_;rw[j,N];refine ab (.a 2 I<|.k [3,4,5,6,12,42] I)<|aw<|ab (.a 2 I<|.k [3,4,5,6,12,42,43] I)<|ae I (λJ=>?_) (λJ=>?_)
          · rw[QZ (by have:=tt J;omega),QY (tt J)]at b;refine ai<|er mixed (by kernel_rfl) (.a 3 I<|.v [45,47] (dX I (oR T hv v)) I I<|.a 1 I<|.v [49] (aJ I ((show(fi x)[0]? =some (num n) by rw[<-hn];rfl))) I I<|.a 1 I<|.k [3,4,5,6,12,51] I) ?_;refine ae I (λW=>?_) (λW=>?_)
            · have A:(!(ef T v)||decide (aZ T v.toNat≠n))=true:=by
                cases hb:ef T v with
                |false=>rfl
                |true=>
                  have r:=tt W;obtain⟨b1,b2⟩:=cH.1 hb;unfold o8 at r;rw[QY ⟨b1,b2⟩]at r;simp[r]
              rw[QY A]at b;subst b;rw[kz _ _ (by decide)];exact ab (.a 3 I<|.k [8,9,10] I)<|ao<|QR I (RW (QV ax.bH<|QV ax.bH<|QV ax.pure Rl)) rfl
            · have A:(!(ef T v)||decide (aZ T v.toNat≠n))=false:=by
                have r:=ff W;unfold o8 at r;by_cases hb:0<=v/\v<2*(T.ah.length:Int)
                · rw[QY hb]at r;rw[cH.2 hb];simp[Decidable.not_not.1 r]
                · rw[QZ hb]at r;omega
              rw[QZ (by rw[A];simp)]at b;refine aj<|ai<|ab (.a 1 I<|.v (aJ I ((rfl:(fi x)[2]? =some (aq x.down)))) I<|.a 2 I<|.c rfl (DQ x.down v (by have:=tU hx;omega)) I<|.k [3,4,5,6,12,56] I)<|ae I (λr=>?_) (λr=>?_)
              · rw[QY (tt r)]at b;subst b;exact ab (.a 3 I<|.v (sT I (QV ax.pure<|QV ax.pure<|QV ax.pure<|QV ax.bH Rl) (Z w)) I<|.a 6 I<|.k [8,9,10] I)<|ao<|QR I (RW (QV (ax.pure (p:=aq K.aA))<|QV (ax.pure (p:=cr (Eb K)))<|QV ax.pure Rl)) rfl
              · rw[QZ (ff r)]at b;subst b;subst f;refine aj<|er mixed (by kernel_rfl) (.a 4 I<|.v [67] (iv I (RP I) I I) I I<|.a 3 I<|.k [8,9,10] I) ?_;exact ao<|QR I (RW (QV (ax.pure (p:=aq [v]))<|QV (ax.pure (p:=cr l))<|QV ax.pure Rl)) rfl
          · have M:=ff J;refine ab (.a 2 I<|.k [3,4,5,6,12,69] I)<|ae I (λU=>?_) (λU=>?_)
            · rw[QY (tt U)]at b;obtain⟨o,t,g,i⟩:∃o,o=K/\(s.length=0->o=dZ p 1)/\(0<s.length->o=K):=⟨_,rfl,λh=>absurd h (by omega),λh=>rfl⟩;rw[<-t]at b;clear t H J U f j h0 M;refine aC (.a 3 I<|.k [3,4,5,6,11] I)<|⟨_,⟨v,o,b,g,i,rfl⟩,λL=>?_⟩;first
                |exact iB (aR (ks:=[3,4,5,6,11]) I) L
                |exact dS [] (.c 3<|.c 4<|.c 5<|.c 6<|.c 11<|.nil) .nil rfl rfl L
            · rw[QZ (ff U),QZ M]at b;subst b;rw[kz _ _ (by decide)];exact ab (.a 3 I<|.k [8,9,10] I)<|ao<|QR I (RW (QV ax.bH<|QV ax.bH<|QV ax.pure Rl)) rfl
        · have f:s=[]:=by
            cases s with
            |nil=>rfl
            |cons a l=>exact absurd (ff H) (by simp)
          rw[f]at b;dsimp only at b;rw[<-f,j]at b;obtain⟨o,t,g,i⟩:∃o,o=dZ p 1/\(s.length=0->o=dZ p 1)/\(0<s.length->o=K):=⟨_,rfl,λ_=>rfl,λh=>absurd h (by rw[f];simp)⟩;rw[<-t]at b;clear t H f j;refine aj<|⟨_,⟨v,o,b,g,i,rfl⟩,λL=>?_⟩;first
            |exact iB (aR (ks:=[3,4,5,6,11]) I) L
            |exact dS [] (.c 3<|.c 4<|.c 5<|.c 6<|.c 11<|.nil) .nil rfl rfl L
      · rintro s0 ⟨v,o,b,g,i,rfl⟩;refine ai ?_;unfold zv at b;have⟨Q,O⟩:=QQ (decide (v<0));have⟨S,P⟩:=QQ (decide (T.nodes<=v));have F:aX T v=(!(Q||S)):=by
          rw[<-O,<-P];cases hb:aX T v with
          |true=>have:=aQ.1 hb;simp;omega
          |false=>
            have G:¬(0<=v/\v<T.nodes):=λh=>by rw[aQ.2 h]at hb;cases hb
            simp;omega
        have u:Q=false->S=false->x.ed[v.toNat]? =some (cw x v)/\(cw x v).push.length<=40/\(cw x v).aA.length<=1000/\v<(x.ed.length:Int)/\0<=v:=λh h'=>by
          obtain⟨k,rfl,g1,g2,g3⟩:=oy hx (F.trans (by rw[h,h'];rfl));have:=(QT.1 g1).1;exact⟨g1,g2,g3,by omega,by omega⟩
        have⟨e,he⟩:=QQ (cw x v);have⟨Oq,q⟩:=QQ (decide ((e.aA.length:Int)=0));rw[he]at u b;refine bz 90 (.raw (.bool ((Q||S)||Oq))) [3,4,5,6,11] I ?_ ?_
        · refine .a 1 I<|.v (bW I (O)) I<|.a 1 I<|?_;cases Q
          · refine .a 3 I<|.v (bW I (P)) I<|.a 2 I<|?_;cases S
            · exact .a 1 I<|.v (aJ I ((rfl:(fi x)[1]? =some (iW x.ed)))) I<|.a 1 I<|.v (aM ((v.toNat*3)) I (u rfl rfl).2.2.2.2 (u rfl rfl).2.2.2.1) I<|.a 1 I<|.v (aJ I ((tZ x.ed v.toNat 0 e (u rfl rfl).1 (by omega)))) I<|.a 1 I<|.v (bW I (q)) I<|.a 1 I<|.k [90,3,4,5,6,11] I
            · exact .a 9 I<|.k [90,3,4,5,6,11] I
          · exact .a 15 I<|.k [90,3,4,5,6,11] I
        refine ae I (λG=>?_) (λG=>?_)
        · rw[QZ (by rw[F];intro h;obtain⟨g1,g2⟩:=Q3.1 h;have g2:=tt g2;rw[Rg (by omega)]at q;subst q;revert G g1;cases Q<;>cases S<;>simp)]at b;refine ai<|ab (.a 3 I<|.k [4,5,6,93] I)<|ae I (λy=>?_) (λy=>?_)
          · have w:0<s.length:=by have:=tt y;omega
            rw[i w]at b;subst b;exact ab (.a 3 I<|.v (sT I (QV ax.pure<|QV ax.pure<|QV ax.pure<|QV ax.bH Rl) (Z w)) I<|.a 6 I<|.k [8,9,10] I)<|ao<|QR I (RW (QV (ax.pure (p:=aq K.aA))<|QV (ax.pure (p:=cr (Eb K)))<|QV ax.pure Rl)) rfl
          · rw[g (by have:=ff y;omega)]at b;subst b;rw[kz _ _ (by decide)];exact aj<|ab (.a 3 I<|.k [8,9,10] I)<|ao<|QR I (RW (QV ax.bH<|QV ax.bH<|QV ax.pure Rl)) rfl
        · obtain⟨G,V⟩:=Rt.1 G;obtain⟨rfl,rfl⟩:=Rt.1 G;subst V;rw[F,QY (by have:=ff q;simp;omega)]at b;obtain⟨g1,g2,g3,g4,g5⟩:=u rfl rfl;subst b;have⟨c,hc⟩:=QQ (e.rep);have hE:fS p s e=if c then(if 32<(e.push++s.drop 1).length then dZ p 5 else dO p (e.push++s.drop 1) e.aA) else dO p s e.aA:=by unfold fS;rw[hc]
          rw[hE];refine aj<|aK<|au 1 I<|bm (aJ I ((rfl:(fi x)[1]? =some (iW x.ed)))) I<|au 1 I<|bm (aM ((v.toNat*3)) I g5 g4) I<|bm (gj I ((lM x.ed v.toNat e g1)) I) I<|au 2 I<|aE [3,13] I ?_;refine ai<|ab (.a 1 I<|.v (aJ I ((show(jL e)[1]? =some (flag c) by rw[<-hc];rfl))) I<|.a 1 I<|.k [3,13,108] I)<|ae I (λcS=>?_) (λcS=>?_)
          · obtain rfl:c=false:=by simpa using cS
            rw[QZ (by simp)];refine aK<|cb (dM I (S3 I)) I<|au 1 I<|bm (aJ I ((rfl:(jL e)[0]? =some (aq e.aA)))) I<|cb (bF I (Ru I) I I I (show(aU e.aA).length=e.aA.length*1 by simp[aU]) ⟨by unfold maxLen;omega,by omega⟩) I<|au 4 I<|aE [8,9,10] I ?_;exact ao<|QR I (RW (QV (ax.CG (ys:=aU e.aA) (m:=e.aA.length) I (by simp) (by simp))<|QV (ax.pure (p:=cr s))<|QV ax.pure Rl)) rfl
          · obtain rfl:c=true:=by simpa using cS
            rw[QY rfl];refine aj<|aK<|cb (dM I (S3 I)) I<|au 1 I<|bm (aJ I ((rfl:(jL e)[2]? =some (cr e.push)))) I<|cb (bF I (Ru I) I I I (jf e.push) ⟨by unfold maxLen;omega,by omega⟩) I<|au 1 I<|aE [3,13,14] I ?_;refine ai<|ab (.a 3 I<|.k [3,13,14,120] I)<|ae I (λz=>?_) (λz=>?_)
            · obtain⟨a,l,rfl⟩:∃a l,s=a::l:=by
                cases s with
                |nil=>exact absurd (tt z) (by simp)
                |cons a l=>exact⟨a,l,rfl⟩
              refine bx<|au 2 I<|bm (iv I (RP I) I I) I<|cb (bF I (Ru I) I I I (jf l) ⟨by simp at hs;unfold maxLen;omega,by simp at hs;omega⟩) I<|au 1 I<|aE [13,14] I ?_;refine ai<|ab (.a 3 I<|.k [13,14,127] I)<|ae I (λd=>?_) (λd=>?_)
              · rw[QY (by have d:=tt d;simp at d ⊢;omega),kz _ _ (by decide)];exact ab (.a 3 I<|.k [8,9,10] I)<|ao<|QR I (RW (QV ax.bH<|QV ax.bH<|QV ax.pure Rl)) rfl
              · rw[QZ (by have d:=ff d;simp at d ⊢;omega),uT];have d:=ff d;refine aj<|aK<|cb (dM I (S3 I)) I<|au 1 I<|bm (aJ I ((rfl:(jL e)[0]? =some (aq e.aA)))) I<|cb (bF I (Ru I) I I I (show(aU e.aA).length=e.aA.length*1 by simp[aU]) ⟨by unfold maxLen;omega,by omega⟩) I<|au 4 I<|aE [8,9,10] I ?_;exact ao<|QR I (RW (QV (ax.CG (ys:=aU e.aA) (m:=e.aA.length) I (by simp) (by simp))<|QV (ax.CG (ys:=eP (e.push++List.drop 1 _)) (m:=(e.push++List.drop 1 _).length) I (by simp[eP]) (by simp))<|QV ax.pure Rl)) rfl
            · obtain rfl:s=[]:=by
                cases s with
                |nil=>rfl
                |cons a l=>exact absurd (ff z) (by simp)
              refine aj<|ai<|ab (.a 3 I<|.k [13,14,127] I)<|ae I (λd=>?_) (λd=>?_)
              · rw[QY (by have d:=tt d;simp at d ⊢;omega),kz _ _ (by decide)];exact ab (.a 3 I<|.k [8,9,10] I)<|ao<|QR I (RW (QV ax.bH<|QV ax.bH<|QV ax.pure Rl)) rfl
              · rw[QZ (by have d:=ff d;simp at d ⊢;omega),uT];have d:=ff d;refine aj<|aK<|cb (dM I (S3 I)) I<|au 1 I<|bm (aJ I ((rfl:(jL e)[0]? =some (aq e.aA)))) I<|cb (bF I (Ru I) I I I (show(aU e.aA).length=e.aA.length*1 by simp[aU]) ⟨by unfold maxLen;omega,by omega⟩) I<|au 4 I<|aE [8,9,10] I ?_;exact ao<|QR I (RW (QV (ax.CG (ys:=aU e.aA) (m:=e.aA.length) I (by simp) (by simp))<|QV (ax.CG (ys:=eP (e.push++List.drop 1 _)) (m:=(e.push++List.drop 1 _).length) I (by simp[eP]) (by simp))<|QV ax.pure Rl)) rfl
theorem Gf(T:ak)(x:cQ)(p:dq)(hx:df T x=true):Can prog 125 [aL T,dW x,dI p,cr []] (· =uY (cB T x p [] (dZ p 1))):=
 xt T x p [] (dZ p 1) hx (by simp) (λh=>absurd h (by simp))
theorem Ge(T:ak)(x:cQ)(p:dq)(s:List bG)(hx:df T x=true)(hs:s.length<=40):Can prog 125 [aL T,dW x,dI p,cr s] (· =uY (cB T x p s (cB T x p [] (dZ p 1)))):=
 xt T x p s _ hx hs (λ_=>Gf T x p hx)
def M8(p:dq)(O:Out):Prop:=O=⟨[],⟨p.id,p.src,p.dst,p.lR,[],p.eB⟩, -1⟩\/(∃s l,O=dO p s l/\0<=p.eB/\p.eB<255)\/∃c,O=dZ p c/\c≠0/\c≠ -1
theorem EW{p:dq}{s e}(h:0<=p.eB/\p.eB<255):M8 p (fS p s e):=by
 unfold fS;split
 ·split
  ·exact .inr (.inr ⟨5,rfl,by decide,by decide⟩)
  ·exact .inr (.inl ⟨_,_,rfl,h⟩)
 ·exact .inr (.inl ⟨_,_,rfl,h⟩)
theorem H6{T x}{p:dq}{s}{v:Int}{K}(h:0<=p.eB/\p.eB<255)(a:M8 p K):M8 p (zv T x p s v K):=by
 unfold zv;split
 ·exact EW h
 ·exact a
theorem xq{T x p s K}(a:M8 p K):M8 p (cB T x p s K):=by
 have d1:∀c:Int,c≠0->c≠ -1->M8 p (dZ p c):=λc h1 h2=>.inr (.inr ⟨c,rfl,h1,h2⟩);unfold cB;split
 ·exact .inl rfl
 ·split
  ·exact d1 4 (by decide) (by decide)
  ·rename_i h2;have h:0<=p.eB/\p.eB<255:=by simp at h2;omega
   split
   ·exact H6 h (d1 1 (by decide) (by decide))
   ·split
    ·exact H6 h a
    ·split
     ·split
      ·exact d1 2 (by decide) (by decide)
      ·split
       ·exact a
       ·exact .inr (.inl ⟨_,_,rfl,h⟩)
     ·exact d1 1 (by decide) (by decide)
theorem xz(T:ak)(x:cQ)(p:dq)(Q:p.stack.length<=1000):Can prog 93 [aL T,dW x,dI p] (· =yV (fX T x p)):=by
 have⟨c1,o⟩:=QQ (df T x);have⟨n,hn⟩:=QQ (x.node);have⟨v,q⟩:=QQ (p.dst);have⟨F,y⟩:=QQ (decide (v<0));have⟨L,z⟩:=QQ (decide (T.nodes<=v));have E:aX T v=(!(F||L)):=by
  rw[<-y,<-z];cases hb:aX T v with
  |true=>have:=aQ.1 hb;simp;omega
  |false=>
   have R:¬(0<=v/\v<T.nodes):=λh=>by rw[aQ.2 h]at hb;cases hb
   simp;omega
 unfold fX;rw[o,q,E,Bool.not_not];refine aF func93 I ntmps93 I<|aK<|au 2 I<|cb (fV I I I) I<|au 3 I<|aE [3,4,5,7] I ?_;refine ai<|aw<|bz 13 (.raw (.bool (((!c1)||F)||L))) [3,4,5,7] I ?_ ?_
 ·refine .a 2 I<|.c rfl (o▸sw T x) I<|.a 2 I<|?_;cases c1
  ·exact .a 12 I<|.k [13,3,4,5,7] I
  ·refine .a 1 I<|.v (aJ I ((show(cY p)[2]? =some (num v) by rw[<-q];rfl))) I<|.v (bW I (y)) I<|.a 2 I<|?_;cases F
   ·exact .a 1 I<|.v (aJ I ((show(cY p)[2]? =some (num v) by rw[<-q];rfl))) I<|.a 2 I<|.v (bW I (z)) I<|.a 2 I<|.k [13,3,4,5,7] I
   ·exact .a 7 I<|.k [13,3,4,5,7] I
 refine ae I (λh1=>?_) (λh1=>?_)
 ·rw[QY (by rw[<-Bool.or_assoc];exact h1)];refine jt 2 20 mixed (.val [5] I (cC I (Q6 I) I I I) I I<|.val [] I (bb I) I I<|.nil) (by kernel_rfl) I I (aR (ks:=[6,7,30]) I)<|au 2 I<|aE [6,7,8] I ?_;exact ao<|QR I (RW (QV ax.bH<|QV (ax.pure (p:=dI p))<|QV ax.pure Rl)) rfl
 ·rw[QZ (by rw[<-Bool.or_assoc,h1];simp)];obtain⟨t,K⟩:=Rt.1 h1;obtain⟨u,J⟩:=Rt.1 t;obtain rfl:c1=true:=by simpa using u
  clear h1 t u;refine ab (.a 1 I<|.v (aY I (Q6 I) I I (rfl:(cY p)[4]? =some (cr p.stack))) I<|.a 3 I<|.k [3,4,5,7,31] I)<|ae I (λh2=>?_) (λh2=>?_)
  ·rw[QY (tt h2)];refine jt 2 20 mixed (.val [5] I (cC I (Q6 I) I I I) I I<|.val [] I (bb I) I I<|.nil) (by kernel_rfl) I I (aR (ks:=[6,7,36]) I)<|au 2 I<|aE [6,7,8] I ?_;exact ao<|QR I (RW (QV ax.bH<|QV (ax.pure (p:=dI p))<|QV ax.pure Rl)) rfl
  ·rw[QZ (ff h2)];have D:p.stack.length<=32:=by have:=ff h2;omega
   refine aj<|aK<|cb (dM I (S3 I)) I<|au 1 I<|bm (aY I (Q6 I) I I (rfl:(cY p)[4]? =some (cr p.stack))) I<|cb (bF I (Ru I) I I I (jf p.stack) ⟨by unfold maxLen;omega,by omega⟩) I<|au 1 I<|aE [3,4,5,7,9] I ?_;refine sc 3 (σ':=[some (.cells 44 (cY p)),some (.cells 44 [num 0,num 0,num 0,num 0,.raw (.slice none 0 0),num 0]),none,none]) I ⟨rfl,rfl,λm hm=>?_⟩ (.cons 3 I (.same _)<|.cons 4 I (.same _)<|.cons 5 I (.same _)<|.cons 7 I (.same _)<|.cons 9 I .own .nil) ?_
   ·match m,hm with
    |0,_=>exact .inl rfl
    |1,_=>exact .inl rfl
    |2,_=>exact .inl rfl
    |m+4,_=>exact .inl rfl
   refine ai<|aw<|eF [3,4,5,7,9] I<|bd (λr st=>∃s:List bG,s.length<=32/\r=s.length/\cU ⟨1,n⟩ p.stack=cU ⟨1,n⟩ s/\st=⟨[(3,.bq (bn T) 0),(4,.bq (fi x) 0),(5,.ptr 0 0),(7,.ptr 1 0),(9,cr s)],[some (.cells 44 (cY p)),some (.cells 44 [num 0,num 0,num 0,num 0,.raw (.slice none 0 0),num 0]),none,none]⟩) p.stack.length ⟨p.stack,D,rfl,rfl,by simp[cr,eP]⟩ ?_;rintro r st ⟨s,hs,rfl,g,rfl⟩;have⟨B,d⟩:=QQ (decide (0<(s.length:Int)));have⟨a,A⟩:=QQ (s.getD 0 ⟨0,0⟩);have⟨M,e⟩:=QQ (decide (a=(⟨1,n⟩:bG)));refine ai<|iY mixed (by kernel_rfl) 52 (.raw (.bool (B&&M))) [3,4,5,7,9] I ?_ ?_
   ·refine .a 2 I<|.v [42] (bW I (d)) I I<|.a 1 I<|?_;cases B
    ·exact .a 8 I<|.k [52,3,4,5,7,9] I
    ·exact .a 1 I<|.v [45] (aM (0) I (by omega) (by have:=tt d;omega)) I I<|.v [46] (gj I (il s 0 a (by rw[<-A];have:=tt d;rw[QU,QX (by omega)];rfl)) I) I I<|.a 1 I<|.v [48] (aJ I ((show(fi x)[0]? =some (num n) by rw[<-hn];rfl))) I I<|.a 1 I<|.v [47,50] (BD I I (b:=⟨1,n⟩) I e) I I<|.a 1 I<|.k [52,3,4,5,7,9] I
   refine ae I (λw=>?_) (λw=>?_)
   ·obtain⟨rfl,rfl⟩:=Q3.1 w;obtain⟨l,rfl⟩:∃l,s=(⟨1,n⟩:bG)::l:=by
     have P:=tt e;cases s with
     |nil=>exact absurd (tt d) (by simp)
     |cons b l=>exact⟨l,by rw[<-P,<-A];rfl⟩
    simp only[cU,Sw]at g;refine aj<|aw<|aC (.a 1 I<|.v (iv I (RP I) I I) I<|.a 1 I<|.k [3,4,5,7,9] I) ?_;exact⟨l.length,by simp,l,by simp at hs;omega,rfl,g,rfl⟩
   ·have g:cU ⟨1,n⟩ p.stack=s:=by
     rw[g];cases s with
     |nil=>rfl
     |cons b l=>
      have C:B=true:=by rw[<-d];simp
      rw[C,RM]at w;rw[w]at e;have G:=ff e;simp only[cU];rw[QZ (by rw[<-A]at G;exact G)]
    rw[hn,g];clear d A e w;refine ba ?_;have⟨O,H⟩:=QQ (cB T x p s (cB T x p [] (dZ p 1)));have f:M8 p O:=by rw[<-H];exact xq (xq (.inr (.inr ⟨1,rfl,by decide,by decide⟩)))
    have j:=Ge T x p s o (by omega);rw[H]at j ⊢;refine ab (.a 2 I<|.v (cC I (Q6 I) I I I) I<|.a 1 I<|.c rfl (j) I<|.a 7 I<|.k [5,7,10,11,12] I)<|ai<|aw<|ab (.a 3 I<|.k [5,7,10,11,12,64] I)<|ae I (λi=>?_) (λi=>?_)
    ·have i:=tt i;obtain rfl:O=⟨[],⟨p.id,p.src,p.dst,p.lR,[],p.eB⟩, -1⟩:=by
      rcases f with h|⟨s,l,rfl,_⟩|⟨c,rfl,h,N⟩
      ·exact h
      ·exact absurd i (by simp[dO])
      ·exact absurd i N
     refine bx<|au 2 I<|aE [5,7,10,12] I ?_;refine jt 4 20 mixed (.val [10] I (bb I) I I<|.val [5] I (cC I (Q6 I) I I I) I I<|.late [12] I (jQ rfl rfl) inferInstance rfl rfl<|.val [77] I (bb I) I I<|.nil) (by kernel_rfl) I I (aR (ks:=[6,7,78,79]) I)<|au 2 I<|aE [6,7,8] I ?_;refine ao ?_;first
      |exact⟨_,_,RY I,RW (QV ax.pure<|QV (TI (ys:=cY ⟨p.id,p.src,p.dst,p.lR,[],p.eB⟩) (QV ax.pure<|QV ax.pure<|QV ax.pure<|QV ax.pure<|QV ax.bH<|QV ax.pure Rl))<|QV ax.pure Rl),rfl⟩
      |exact⟨_,_,RY I,RW (QV ax.pure<|QV (ax.pure (p:=dI ⟨p.id,p.src,p.dst,p.lR,s',p.eB+1⟩))<|QV ax.pure Rl),rfl⟩
      |exact⟨_,_,RY I,RW (QV ax.pure<|QV (ax.pure (p:=dI p))<|QV ax.pure Rl),rfl⟩
    ·have i:=ff i;replace f:=f.resolve_left (λh=>i (by rw[h]));refine ab (.a 3 I<|.k [5,7,10,11,12,68] I)<|ae I (λk=>?_) (λk=>?_)
     ·have k:=tt k;obtain⟨s',l,rfl,S⟩:=f.resolve_right (by rintro⟨c,rfl,h,_⟩;exact h k);refine aK<|au 3 I<|aE [5,7,10,12] I ?_;refine bx<|au 1 I<|bm (aY I (Q6 I) I I I) I<|bm (aW I (hn:=(show In64 (p.eB+1) by unfold In64;omega))) I<|au 2 I<|aE [5,7,10,12] I ?_;refine jt 4 20 mixed (.val [10] I (bb I) I I<|.val [5] I (cC I (Q6 I) I I I) I I<|.late [12] I (jQ rfl rfl) inferInstance rfl rfl<|.val [77] I (bb I) I I<|.nil) (by kernel_rfl) I I (aR (ks:=[6,7,78,79]) I)<|au 2 I<|aE [6,7,8] I ?_;refine ao ?_;first
       |exact⟨_,_,RY I,RW (QV ax.pure<|QV (TI (ys:=cY ⟨p.id,p.src,p.dst,p.lR,[],p.eB⟩) (QV ax.pure<|QV ax.pure<|QV ax.pure<|QV ax.pure<|QV ax.bH<|QV ax.pure Rl))<|QV ax.pure Rl),rfl⟩
       |exact⟨_,_,RY I,RW (QV ax.pure<|QV (ax.pure (p:=dI ⟨p.id,p.src,p.dst,p.lR,s',p.eB+1⟩))<|QV ax.pure Rl),rfl⟩
       |exact⟨_,_,RY I,RW (QV ax.pure<|QV (ax.pure (p:=dI p))<|QV ax.pure Rl),rfl⟩
     ·have k:=ff k;obtain⟨c,rfl,_⟩:=f.resolve_left (by rintro⟨s',l,rfl,_⟩;exact k rfl);refine aj<|jt 4 20 mixed (.val [10] I (bb I) I I<|.val [5] I (cC I (Q6 I) I I I) I I<|.late [12] I (jQ rfl rfl) inferInstance rfl rfl<|.val [77] I (bb I) I I<|.nil) (by kernel_rfl) I I (aR (ks:=[6,7,78,79]) I) ?_;refine au 2 I<|aE [6,7,8] I ?_;refine ao ?_;first
       |exact⟨_,_,RY I,RW (QV ax.pure<|QV (TI (ys:=cY ⟨p.id,p.src,p.dst,p.lR,[],p.eB⟩) (QV ax.pure<|QV ax.pure<|QV ax.pure<|QV ax.pure<|QV ax.bH<|QV ax.pure Rl))<|QV ax.pure Rl),rfl⟩
       |exact⟨_,_,RY I,RW (QV ax.pure<|QV (ax.pure (p:=dI ⟨p.id,p.src,p.dst,p.lR,s',p.eB+1⟩))<|QV ax.pure Rl),rfl⟩
       |exact⟨_,_,RY I,RW (QV ax.pure<|QV (ax.pure (p:=dI p))<|QV ax.pure Rl),rfl⟩
end
section
open Go.RowKit cG Mem
section
variable {P:Program} {σ:ca} {t:cq} {o:Oper}
def fk(l:List UInt8):List PV:=l.map λb=>.raw (.int .u8 b.toNat)
instance (l:List UInt8):aP (fk l):=aP.map _ _ λ_=>inferInstance
theorem lC(a b:List UInt8):fk a++fk b=fk (a++b):=by simp[fk]
theorem qF{w:World}(base:Nat)(t u ty e:TypeId)(i:TypeInfo)(p:P.underlying t=some (.slice e))(hu:P.underlying u=some .string)(hi:P.info? e=some i)(x:i.zero=some (.int .u8 0))
  (a:i.size=1) (h:i.bytes=1) (v:Value) (n:Nat) (xs:List Value) (b:w.ownsRow base e 1 v n xs) (s:ByteArray)
  (l:n+s.size<=maxLen) (d:n+s.size<=140737488355328) (f:base<=w.heap.size):
  ∃v' w',(Builtin.append_ #[t,u] ty #[v,.string s]).run P w= .ok v' w'/\w'.ownsRow base e 1 v' (n+s.size) (xs++Lib.strCells s)/\w.grownBy w' v.ownBlock/\(v'.ownBlock=v.ownBlock\/v'.ownBlock=some w.heap.size):=by
 obtain⟨v',w',hr,h2,y,z⟩:=Lib.run_append_own_string (P:=P) w base t u ty e i p hu hi x a h v n xs b s l d f;refine⟨v',w',hr,h2,y,?_⟩;have m:n+s.size<=9223372036854775807:=by simp only[maxLen]at l;omega
 rcases b.2 with⟨rfl,rfl⟩|⟨g,cap,cur,rfl,A,C,D,B,q,r⟩
 ·by_cases hm:s.size=0
  ·rw[z.2 ⟨rfl,hm⟩];exact .inl rfl
  ·have c:=run_append_nil_string (P:=P) w t u ty e i (.int .u8 0) p hu hi x s (by omega) (by omega) (by rw[h];omega);rw[c]at hr;cases hr;exact .inr rfl
 ·by_cases k:n+s.size<=cap
  ·have c:=Lib.run_append_room_string (P:=P) w t u ty e i p hu hi a g n cap cur C s k (by rw[q];omega);rw[c]at hr;cases hr;exact .inl rfl
  ·have holds:∀(j:Nat) u,xs[j]? =some u->w.cell? ((⟨g,0,none⟩:Addr).add j)=some u:=b.cells (g:=g) I;have c:=Lib.run_append_grow_string (P:=P) w t u ty e i (.int .u8 0) p hu hi x ⟨g,0,none⟩ n cap xs (by rw[a];exact b.1) holds s (by omega) (by omega) (growslice_fits (by omega) (by rw[h];omega));rw[c]at hr;cases hr;exact .inr rfl
def Du(P:Program)(ty a:TypeId):Option TypeId:=
 match P.underlying ty,P.underlying a with
 |some (.slice e),some .string=>match P.info? e with
  |some i=>match i.zero with
   |some (.int .u8 0)=>bif Nat.beq i.size 1&&Nat.beq i.bytes 1 then some e else none
   |_=>none
  |none=>none
 |_,_=>none
theorem BX{ty a e}(h:Du P ty a=some e):P.underlying ty=some (.slice e)/\P.underlying a=some .string/\∃i,P.info? e=some i/\i.zero=some (.int .u8 0)/\i.size=1/\i.bytes=1:=by
 unfold Du at h;split at h
 ·rename_i f h1 h2;split at h
  ·rename_i i hi;split at h
   ·rename_i d;rw[RI]at h;split at h
    ·rename_i hb;cases h;obtain⟨b,c⟩:=Q3.1 hb;exact⟨h1,h2,i,hi,d,Rp b,Rp c⟩
    ·cases h
   ·cases h
  ·cases h
 ·cases h
theorem si{ty L e n i:Nat}{xs:List PV}{x y:Operand}{s:ByteArray}(R:o.op= .call {callee:=.builtin .append,args:= #[x,y],argTypes:= #[ty,L]})(hk:Du P ty L=some e)(hx:aH t x=some (.own i))(hi:σ[i]? =some (some (.row e 1 n xs)))
  (hy:aH t y=some (.raw (.string s))) (hn:n+s.size<=140737488355328):
  cK P σ t o (.own σ.length) (σ.set i none++[some (.row e 1 (n+s.size) (xs++fk s.data.toList))]):=by
 intro F base E ρ w z f M;have h1:=aD z M hx;have h2:=aD z M hy;generalize J:ρ x=v at h1;generalize K:ρ y=u at h2;cases h2;obtain⟨hu,G,inf,p,S,hs,B⟩:=BX hk;cases h1 with
 |own _ Q _ l N=>
  obtain⟨cs,A,T⟩:=f.blk i _ hi;rw[l]at A;have q:bL (E.at_ i)=v.ownBlock:=by rw[l];exact ig A
  obtain⟨v',w',r,a,d,hw⟩:=qF (P:=P) (w:=w) base ty L o.type e inf hu G p S hs B v n cs A s (by unfold maxLen;omega) hn f.bl;have hr:(execOp ρ o).run P w= .ok (.value v') w':=by
   simp only[execOp,R,resolve,invoke,builtin,Sem.run_bind,Sem.run_pure,Result.andThen_ok,SZ,R7,So,J,K,r]
  have D:bp E w (Lib.strCells s) (fk s.data.toList):=by
   refine⟨by simp[Lib.strCells,fk],λj c u h1 h2=>?_⟩;simp only[Lib.strCells,fk,RE,R8]at h1 h2;obtain⟨b,hb,rfl⟩:=h1;obtain⟨b',m,rfl⟩:=h2;rw[hb]at m;cases m;exact .raw _
  have H:∀b,bL v'=some b->bL (E.at_ i)=some b\/w.heap.size<=b:=λb hb=>by
   rw[ig a]at hb;rcases hw with h|h
   ·rw[q,<-h];exact .inl hb
   ·rw[h]at hb;cases hb;exact .inr (Rc _)
  obtain⟨O,a2⟩:=f.swap (w':=w') (blk:=.row e 1 (n+s.size) (xs++fk s.data.toList)) hi d.size (λk hk C=>d.block k hk (by rw[<-q];exact Ne.symm C)) H (λE' g=>⟨cs++Lib.strCells s,a,(T.append D).goes g⟩);refine⟨v',w',_,.inl hr,O,a2,⟨d.os,d.tape,d.output,d.size,λk hk=>d.block k (RH hk f.bl) (λe=>?_)⟩,.own σ.length (by simp[Env.push,Env.kill,f.len]) v' (by simp[Env.push,Env.kill,f.len]) ?_⟩
  ·have:=(A.lt k e.symm).1;omega
  ·rcases a.2 with⟨rfl,_⟩|⟨U,cap,cur,rfl,_⟩<;>rfl
theorem Sat.drop{F:Nat->Prop}{base:Nat}{E:Env}{w w':World}(a:Sat F base σ E w){j g:Nat}{bj}(hj:σ[j]? =some (some bj))(hb:bL (E.at_ j)=some g)(hs:w.heap.size<=w'.heap.size)(p:∀k,k<w.heap.size->k≠g->w'.heap[k]? =w.heap[k]?):
  Sat F base (σ.set j none) (E.kill j) w'/\de E w (E.kill j) w':=by
 have m:E.M g:=(a.mm g).2 (.inr ⟨j,bj,hj,hb⟩);obtain⟨d,_⟩:=a.kill j hj;have f:de E w (E.kill j) w':=⟨Rc _,λ_ _=>rfl,λb _ hM h=>hM h.1,hs,λk hk hM=>p k hk (λe=>hM (by rw[e];exact m))⟩;refine⟨⟨Rr a.bl hs,λb c=>⟨RH (d.fb b c).1 hs,(d.fb b c).2⟩,d.len,d.mm,λi bl hi=>?_,d.inj,a.gl.goes f⟩,f⟩;obtain⟨n,l⟩:=jF hi;exact(a.blk i bl l).goes f (λk hk=>p k ((a.blk i bl l).lt hk).2 (λe=>n (a.inj i j bl bj g l hj (by rw[<-e];exact hk) hb)))
theorem BA{ty:TypeId}{x:Operand}{s:ByteArray}(c:o.op= .call {callee:=.builtin .len,args:= #[x],argTypes:= #[ty]})(hu:P.underlying ty=some .string)(hx:aH t x=some (.raw (.string s))):bE P σ t o (.raw (.int .i64 s.size)):=by
 intro F base E ρ w a _ b;have h1:=aD a b hx;generalize d:ρ x=z at h1;cases h1;simp[execOp,c,resolve,invoke,builtin,Builtin.len_,d,run_underlying hu,goInt];exact bI (.raw _)
theorem BE{ty:TypeId}{x:Operand}{j e s n:Nat}{xs:List PV}(k:o.op= .call {callee:=.builtin .unsafeSliceData,args:= #[x],argTypes:= #[ty]})(hx:aH t x=some (.own j))(hj:σ[j]? =some (some (.row e s n xs)))(hn:0<n):bE P σ t o (.ptr j 0):=by
 intro F base E ρ w a d f;have h1:=aD a f hx;generalize l:ρ x=z at h1;cases h1 with
 |own _ hi _ h b=>
  obtain⟨cs,c,_⟩:=d.blk j _ hj;rw[h]at c;rcases c.2 with⟨_,h0⟩|⟨g,cap,cur,hv,_,_,i,_⟩
  ·omega
  ·subst hv;have:=Lib.run_unsafeSliceData_row (P:=P) w #[ty] o.type ⟨g,0,none⟩ n cap (by omega);simp only[execOp,k,resolve,invoke,builtin,Sem.run_bind,Sem.run_pure,Result.andThen_ok,SZ,R7,So,l,this];exact bI (.ptr j 0 g hi (.inr ⟨n,cap,h⟩))
theorem Ax{H it:TypeId}{x y:Operand}{j e:Nat}{l:List UInt8}(T:o.op= .call {callee:=.builtin .unsafeString,args:= #[x,y],argTypes:= #[H,it]})(hp:P.underlying H=some (.pointer e))(hc:P.cellsOf e=1)(hx:aH t x=some (.ptr j 0))(hy:aH t y=some (.raw (.int .i64 l.length)))(hj:σ[j]? =some (some (.row e 1 l.length (fk l))))(hl:0<l.length):
  cK P σ t o (.raw (.string ⟨l.toArray⟩)) (σ.set j none):=by
 intro F base E ρ w u K L;have h1:=aD u L hx;have h2:=aD u L hy;generalize W:ρ x=z at h1;generalize G:ρ y=Y at h2;cases h2;cases h1 with
 |ptr _ _ b hi h=>
  obtain⟨cs,M,d⟩:=K.blk j _ hj;have B:cs=Lib.byteCells l:=by
   apply Sp;intro i;by_cases a:i<l.length
   ·have J:=d.2 i (cs[i]'(by rw[d.1];simpa[fk]using a)) (.raw (.int .u8 (l[i]).toNat)) (by simp) (by simp[fk,a]);have Q:cs[i]'(by rw[d.1];simpa[fk]using a)= .int .u8 (l[i]).toNat:=by
     generalize cs[i]'(by rw[d.1];simpa[fk]using a)=q at J;cases J;rfl
    rw[QX (by rw[d.1];simpa[fk]using a),Q];simp[Lib.byteCells,a]
   ·rw[RJ (by rw[d.1];simp[fk];omega),RJ (by simp[Lib.byteCells];omega)]
  subst B;have X:=M;rcases M.2 with⟨hv,h0⟩|⟨g,cap,cur,hv,v,R,S,A,U,V⟩
  ·omega
  ·have f:b=g:=by
    rcases h with h|⟨n,c,h⟩
    ·rw[hv]at h;cases h
    ·rw[hv]at h;cases h;rfl
   subst f;have m:bL (E.at_ j)=some b:=by rw[hv];rfl
   have r:=Lib.run_unsafeString_row (P:=P) w H it o.type e hp hc b cur.size (by simp[World.shape?,R]) l (by intro O;rw[O]at hl;simp at hl) (by omega) (by unfold maxLen at A;omega) (λi x D=>X.cells (g:=b) (by rw[hv];rfl) i (.int .u8 x.toNat) (by simp[Lib.byteCells,D]));have hr:(execOp ρ o).run P w= .ok (.value (.string ⟨l.toArray⟩)) (w.freeze ⟨b,0,none⟩ l.length):=by
    simp only[execOp,T,resolve,invoke,builtin,Sem.run_bind,Sem.run_pure,Result.andThen_ok,SZ,R7,So,W,G,r]
   have C:∀k,k≠b->(w.freeze ⟨b,0,none⟩ l.length).heap[k]? =w.heap[k]? :=λk hk=>by
    unfold World.freeze;split
    ·rfl
    ·simp only[Ul];rw[QZ (Ne.symm hk)]
   have s:w.heap.size<=(w.freeze ⟨b,0,none⟩ l.length).heap.size:=by
    unfold World.freeze;split<;>simp
   obtain⟨N,a2⟩:=Sat.drop (w':=w.freeze ⟨b,0,none⟩ l.length) K hj m s (λk _ hk=>C k hk);exact⟨_,_,_,.inl hr,N,a2,Lib.below_freeze (Below.refl base w) (p:=⟨b,0,none⟩) v _,.raw _⟩
theorem JS{x y ty b}(a:o.op= .binOp .eql ty x y b)(hk:rL P ty=true)(hx:aH t x=some (.raw (.pointer none)))(hy:aH t y=some (.raw (.pointer none))):bE P σ t o (.raw (.bool true)):=by
 refine By a hx hy λw=>?_;unfold rL at hk;split at hk
 ·rename_i e hu;have key:∀d,(Op.equalIn (d+1) ty (.pointer none) (.pointer none)).run P w= .ok true w:=λd=>by
   simp only[Op.equalIn,Sem.run_bind,run_underlying hu,Result.andThen_ok,Sem.run_pure,Option.isNone_none]
  have:=key 9999;simp only[Nat.reduceAdd]at this;simp[eqGuard,binOp,Op.equal,Op.maxDepth,this]
 ·cases hk
theorem xJ{x y ty g n}{i k:Nat}{m}(l:o.op= .binOp .neq ty x y n)(hp:P.underlying ty=some (.pointer g))(c:P.info? g=some m)(hx:aH t x=some (.ptr i k))(hy:aH t y=some (.ptr i k)):bE P σ t o (.raw (.bool false)):=by
 intro F base E ρ w a p e;have h1:=aD a e hx;have h2:=aD a e hy;have he:ρ x=ρ y:=we.Qh E w _ _ h1 h2;generalize f:ρ x=z at h1;have d:ρ y=z:=by rw[<-he,f]
 cases h1 with
 |ptr _ _ b hi h=>
  have hb:=Lib.run_neq_ptr_same (P:=P) w ⟨b,k,none⟩ hp c;have hr:(execOp ρ o).run P w= .ok (.value (.bool false)) w:=by
   simp only[execOp,l,f,d,Sem.run_bind,Sem.run_pure];have j:(eqGuard .neq ty x y (.pointer (some ⟨b,k,none⟩)) (.pointer (some ⟨b,k,none⟩))).run P w= .ok () w:=rfl;rw[j];simp only[Result.andThen_ok,hb]
  rw[hr];exact bI (.raw _)
theorem Dh{src dst g ty x}{i:Nat}{f:TypeInfo}{xs:List PV}(m:o.op= .convert src dst x)(hs:P.underlying src=some (.pointer g))(hd:P.underlying dst=some .unsafePointer)(p:P.info? g=some f)(hj:f.size≠0)(hx:aH t x=some (.ptr i 0))(hi:σ[i]? =some (some (.cells ty xs)))(hl:0<xs.length):bE P σ t o (.ptr i 0):=by
 intro F base E ρ w d j k;have h1:=aD d k hx;have a:=h1;generalize q:ρ x=z at h1 a;obtain⟨b,cs,r,v,s,u⟩:=j.blk i _ hi;cases h1 with
 |ptr _ _ b' l h=>
  have hb:b'=b:=by
   rcases h with h|⟨n,c,h⟩<;>rw[r]at h<;>cases h
   rfl
  subst hb;have:=Lib.run_to_unsafe (P:=P) w ⟨b',0,none⟩ hs hd p hj (e:=ty) (cells:=cs.size) (by simp[World.shape?,s]) (by have:=u.1;simp at this ⊢;omega);simp only[execOp,m,q,Sem.run_bind,this,Result.andThen_ok,Sem.run_pure];exact bI a
theorem zp{src dst u ty x}{i:Nat}{q}{xs:List PV}(l:o.op= .convert src dst x)(hs:P.underlying src=some .unsafePointer)(hd:P.underlying dst=some (.pointer u))(m:P.info? u=some q)(hx:aH t x=some (.ptr i 0))(hi:σ[i]? =some (some (.cells ty xs)))(hl:liesAt P P.depth ty (xs.length / P.cellsOf ty) 0 u 1=true):bE P σ t o (.ptr i 0):=by
 intro F base E ρ w f g j;have h1:=aD f j hx;have a:=h1;generalize p:ρ x=z at h1 a;obtain⟨b,cs,r,y,s,v⟩:=g.blk i _ hi;cases h1 with
 |ptr _ _ b' k h=>
  have hb:b'=b:=by
   rcases h with h|⟨n,c,h⟩<;>rw[r]at h<;>cases h
   rfl
  subst hb;have d:cs.size=xs.length:=by have:=v.1;simpa using this
  have:=Lib.run_from_unsafe (P:=P) w ⟨b',0,none⟩ hs hd m (e:=ty) (cells:=cs.size) (by simp[World.shape?,s]) (by rw[d];exact hl);simp only[execOp,l,p,Sem.run_bind,this,Result.andThen_ok,Sem.run_pure];exact bI a
theorem De{f:FuncId}{x a:Operand}{c:Array TypeId}{p:PV}(i:o.op= .call {callee:=.value x,args:= #[a],argTypes:=c})(hx:aH t x=some (.func f []))(h:aH t a=some p)(hr:∀v w,(callFunc f #[v]).run P w= .ok (.value v) w):bE P σ t o p:=by
 intro F base E ρ w b l e;have h1:=aD b e hx;have h2:=aD b e h;generalize k:ρ x=z at h1;cases h1 with
 |func _ cs _ hl j=>
  have d:cs= #[]:=Ui (by simpa using hl);subst d;have g:(execOp ρ o).run P w= .ok (.value (ρ a)) w:=by
   have:=hr (ρ a) w;simp[execOp,i,resolve,k,Deferred.ofValue,invoke,this]
  rw[g];exact bI h2
end
end
end PW
end Go.Proofs.YtoopjinigmhpcaaGreatDoor
namespace Go.Proofs
open Go.Shelf
def Tryz.Lb:Go.Shelf.Ren:=⟨λ|246=>140|283=>164|284=>165|285=>166|286=>167|129=>183|317=>182|318=>184|319=>185|320=>186|337=>192|338=>193|n=>n,λ|2=>2|3=>3|9=>9|4=>4|171=>208|0=>0|53=>209|37=>128|5=>5|173=>212|212=>226|51=>227|20=>20|213=>228|46=>229|232=>238|233=>239|n=>n,λ|17=>0|18=>1|19=>2|n=>n⟩
def Tryz.La:Go.Shelf.Ren:=⟨λ|243=>110|246=>140|283=>164|284=>165|285=>166|286=>167|129=>183|317=>182|318=>184|319=>185|320=>186|337=>192|338=>193|n=>n,λ|3=>3|9=>9|2=>2|4=>4|171=>208|0=>0|53=>209|37=>128|5=>5|173=>212|212=>226|51=>227|20=>20|213=>228|46=>229|232=>238|233=>239|n=>n,λ|17=>0|18=>1|19=>2|n=>n⟩
def Tryz.K9:Go.Shelf.Ren:=⟨λ|171=>74|243=>110|246=>140|283=>164|284=>165|285=>166|286=>167|129=>183|317=>182|318=>184|319=>185|320=>186|337=>192|338=>193|n=>n,λ|3=>3|9=>9|2=>2|4=>4|171=>208|0=>0|53=>209|37=>128|5=>5|173=>212|212=>226|51=>227|20=>20|213=>228|46=>229|232=>238|233=>239|n=>n,λ|17=>0|18=>1|19=>2|n=>n⟩
def Tryz.Ay:Go.Shelf.Ren:=⟨λ|171=>74|243=>110|246=>140|283=>164|284=>165|285=>166|286=>167|129=>183|317=>182|318=>184|319=>185|320=>186|337=>192|338=>193|n=>n,λ|3=>3|9=>9|2=>2|4=>4|171=>208|0=>0|53=>209|37=>128|5=>5|173=>212|212=>226|51=>227|20=>20|213=>228|46=>229|232=>238|233=>239|n=>n,λ|17=>0|18=>1|19=>2|n=>n⟩
theorem Tryz.K8:Go.Proofs.Lays.n171 prog Tryz.Ay:= {
 mixed:=by kernel_rfl
 f129:=func183.trans (congrArg some (by kernel_rfl))
 f171:=func74.trans (congrArg some (by kernel_rfl))
 f243:=func110.trans (congrArg some (by kernel_rfl))
 f246:=func140.trans (congrArg some (by kernel_rfl))
 f283:=func164.trans (congrArg some (by kernel_rfl))
 f284:=func165.trans (congrArg some (by kernel_rfl))
 f285:=func166.trans (congrArg some (by kernel_rfl))
 f286:=func167.trans (congrArg some (by kernel_rfl))
 f317:=func182.trans (congrArg some (by kernel_rfl))
 f318:=func184.trans (congrArg some (by kernel_rfl))
 f319:=func185.trans (congrArg some (by kernel_rfl))
 f320:=func186.trans (congrArg some (by kernel_rfl))
 f337:=func192.trans (congrArg some (by kernel_rfl))
 f338:=func193.trans (congrArg some (by kernel_rfl))
 t0:=Tryz.underlying0
 a0:=Tryz.isAgg0
 z0:=Tryz.sizeOf0
 v0:=Tryz.zeroValue0
 t2:=Tryz.underlying2
 a2:=Tryz.isAgg2
 z2:=Tryz.sizeOf2
 v2:=Tryz.zeroValue2
 t3:=Tryz.underlying3
 a3:=Tryz.isAgg3
 z3:=Tryz.sizeOf3
 v3:=Tryz.zeroValue3
 t4:=Tryz.underlying4
 a4:=Tryz.isAgg4
 z4:=Tryz.sizeOf4
 v4:=Tryz.zeroValue4
 t5:=Tryz.underlying5
 a5:=Tryz.isAgg5
 z5:=Tryz.sizeOf5
 v5:=Tryz.zeroValue5
 t9:=Tryz.underlying9
 a9:=Tryz.isAgg9
 z9:=Tryz.sizeOf9
 v9:=Tryz.zeroValue9
 t20:=Tryz.underlying20
 a20:=Tryz.isAgg20
 z20:=Tryz.sizeOf20
 v20:=Tryz.zeroValue20
 t37:=Tryz.underlying128
 a37:=Tryz.isAgg128
 z37:=Tryz.sizeOf128
 v37:=Tryz.zeroValue128
 t46:=Tryz.underlying229
 a46:=Tryz.isAgg229
 z46:=Tryz.sizeOf229
 v46:=Tryz.zeroValue229
 t51:=Tryz.underlying227
 a51:=Tryz.isAgg227
 z51:=Tryz.sizeOf227
 v51:=Tryz.zeroValue227
 t53:=Tryz.underlying209
 a53:=Tryz.isAgg209
 z53:=Tryz.sizeOf209
 v53:=Tryz.zeroValue209
 t171:=Tryz.underlying208
 a171:=Tryz.isAgg208
 z171:=Tryz.sizeOf208
 v171:=Tryz.zeroValue208
 t173:=Tryz.underlying212
 a173:=Tryz.isAgg212
 z173:=Tryz.sizeOf212
 v173:=Tryz.zeroValue212
 t212:=Tryz.underlying226
 a212:=Tryz.isAgg226
 z212:=Tryz.sizeOf226
 v212:=Tryz.zeroValue226
 t213:=Tryz.underlying228
 a213:=Tryz.isAgg228
 z213:=Tryz.sizeOf228
 t232:=Tryz.underlying238
 a232:=Tryz.isAgg238
 z232:=Tryz.sizeOf238
 v232:=Tryz.zeroValue238
 t233:=Tryz.underlying239
 a233:=Tryz.isAgg239
 z233:=Tryz.sizeOf239
 v233:=Tryz.zeroValue239
 g17:=by kernel_rfl
 g18:=by kernel_rfl
 g19:=by kernel_rfl}
open Go.RowKit Go.Sort Go.Lib in
theorem Tryz.strconv_Itoa_small(i:Nat)(hi:i<100)(w:World):Calls prog 74 #[.int .i64 i] w λe w'=>e= .returned (.string ⟨(Lib.decDigits i).toArray⟩)/\w'=w:=Any.strconv_Itoa_small Tryz.K8 i hi w
end Go.Proofs
namespace Go.Proofs.YtoopjinigmhpcaaGreatDoor
open Go.Proofs.Tryz
namespace PW
section
open Go.RowKit cG Mem
def HE(j:Nat)(u:Bool)(l:List UInt8):ca:=some (.cells 130 [if u then .ptr 0 0 else .raw (.pointer none),.own j])::(List.replicate (j - 1) none++[some (.row 5 1 l.length (fk l))])
theorem Au:∃i,prog.info? 130=some i/\i.size=2:=by
 have h:(prog.info? 130).map (·.size)=some 2:=by kernel_rfl
 obtain⟨i,h1,h2⟩:=R8.1 h;exact⟨i,h1,h2⟩
theorem yQ(v:Value)(w:World):(callFunc 139 #[v]).run prog w= .ok (.value v) w:=by
 rw[run_callFunc_extern func139 (by kernel_rfl) (by kernel_rfl) (by kernel_rfl) (e:=Extern.AbiNoEscape.same) (by kernel_rfl),Lib.run_noEscape]
 rfl
theorem tO:Du prog 128 9=some 5:=by kernel_rfl
theorem Km(u:Bool)(l:List UInt8):bM prog 109 [.ptr 0 0] (HE 1 u l) (λ_ σ'=>σ'=HE 1 true l):=by
 obtain⟨c,a,b⟩:=Au;refine cF func109 I ntmps109 I ?_;cases u
 ·refine aK<|bP (gF I I) I I I ?_;refine bP (jG I I) I I I<|bP (bb I) I I I ?_;refine bP (aY I (Q6 I) I I I) I I I<|bP (JS I (bw.pk.get I) I I) I I I (bg ?_);refine J9 I<|bx<|bP (gF I I) I I I ?_;refine bP (gF I I) I I I<|bP (Dh I Tryz.underlying127 Tryz.underlying180 a (by rw[b];decide) I I (by decide)) I I I ?_;refine bP (De I I I yQ) I I I<|bP (zp I Tryz.underlying180 Tryz.underlying127 a rfl rfl (by kernel_rfl)) I I I ?_;refine bP (jG I I) I I I<|bP (bb I) I I I ?_;refine bc (b9 I (Q6 I) I I I (Re rfl)) I I (bg ?_);exact⟨_,.nil,rfl⟩
 ·refine aK<|bP (gF I I) I I I ?_;refine bP (jG I I) I I I<|bP (bb I) I I I ?_;refine bP (aY I (Q6 I) I I I) I I I<|bP (vG I (bw.pk.get I) I I) I I I (bg ?_);refine sZ I<|aK<|bP (gF I I) I I I ?_;refine bP (jG I I) I I I<|bP (bb I) I I I ?_;refine bP (aY I (Q6 I) I I I) I I I<|bP (gF I I) I I I ?_;refine bP (xJ I Tryz.underlying127 a rfl rfl) I I I (bg ?_);refine sZ I<|aj ⟨_,.nil,rfl⟩
theorem OZ(u:Bool)(l:List UInt8)(s:ByteArray)(hn:l.length+s.size<=1000000000):bM prog 73 [.ptr 0 0,.raw (.string s)] (HE 1 u l) (λ_ σ'=>σ'=HE 2 true (l++s.data.toList)):=by
 refine cF func73 I ntmps73 I<|ab (.a 2 I<|.k [0,1] I)<|aK<|au 1 I<|cD I I (RT (Km u l) (λ_ σ' h=>?_));subst h;refine aE [0,1] I<|aK<|au 6 I<|cb (si I tO rfl rfl rfl (by omega)) I<|au 3 I<|aE [1] I ?_;refine ab (.a 1 I<|.v (BA I Tryz.underlying9 rfl) I<|.a 2 I<|.k [4,5] I)<|ao<|⟨_,RY I,?_⟩;have hl:(l++s.data.toList).length=l.length+s.size:=by simp
 unfold HE;rw[hl,<-lC]
 rfl
theorem Kj(u:Bool)(l:List UInt8)(hl:0<l.length):bM prog 76 [.ptr 0 0] (HE 1 u l) (λr _=>r= .raw (.string ⟨l.toArray⟩)):=by
 refine cF func76 I ntmps76 I ?_;cases u
 all_goals
  refine ab (.a 1 I<|.k [0] I)<|jt 10 20 mixed (.val [0] I (bb I) I I<|.val [3] I (bb I) I I<|.val [4] I (bb I) I I<|.val [5] I (bb I) I I<|.val [6] I (BE I I I hl) I I<|.val [0] I (bb I) I I<|.val [8] I (bb I) I I<|.val [9] I (bb I) I I<|.val [10] I (bb I) I I<|.val [11] I (bb I) I I<|.nil) (by kernel_rfl) I I (aR (ks:=[7,12]) I) ?_;refine cb (Ax I Tryz.underlying161 (by kernel_rfl) I I I hl) I<|au 1 I<|aE [2] I ?_;exact ao<|⟨_,RY I,rfl⟩
def OX(l:List UInt8):PV:=.raw (.string ⟨l.toArray⟩)
theorem pr(i:Nat)(hi:i<100):Can prog 74 [num i] (· =OX (Lib.decDigits i)):=λF w vs _ _ a=>by
 obtain⟨v,rfl,h1⟩:=Om a;cases fW h1;refine(Tryz.strconv_Itoa_small i hi w).mono ?_;rintro e w' ⟨rfl,rfl⟩;exact⟨_,rfl,Tc _,_,rfl,.raw _⟩
open Net
def EC(l:List UInt8)(x:Option cX):ca:=[some (.cells 130 [.ptr 0 0,.own 1]),some (.row 5 1 l.length (fk l)),x]
def ED(l:List UInt8)(x:Option cX):ca:=[some (.cells 130 [.ptr 0 0,.own 3]),none,x,some (.row 5 1 l.length (fk l))]
theorem Dx(l:List UInt8)(x:Option cX):bM prog 109 [.ptr 0 0] (EC l x) (λ_ σ'=>σ'=EC l x):=by
 obtain⟨c,a,b⟩:=Au;refine cF func109 I ntmps109 I<|aK<|bP (gF I I) I I I ?_;refine bP (jG I I) I I I<|bP (bb I) I I I ?_;refine bP (aY I (Q6 I) I I I) I I I<|bP (vG I (bw.pk.get I) I I) I I I (bg ?_);refine sZ I<|aK<|bP (gF I I) I I I ?_;refine bP (jG I I) I I I<|bP (bb I) I I I ?_;refine bP (aY I (Q6 I) I I I) I I I<|bP (gF I I) I I I ?_;refine bP (xJ I Tryz.underlying127 a rfl rfl) I I I (bg ?_);refine sZ I<|aj ⟨_,.nil,rfl⟩
theorem M4(l:List UInt8)(x:Option cX)(s:ByteArray)(hn:l.length+s.size<=1000000000):bM prog 73 [.ptr 0 0,.raw (.string s)] (EC l x) (λ_ σ'=>σ'=ED (l++s.data.toList) x):=by
 refine cF func73 I ntmps73 I<|ab (.a 2 I<|.k [0,1] I)<|aK<|au 1 I<|cD I I (RT (Dx l x) (λ_ σ' h=>?_));subst h;refine aE [0,1] I<|aK<|au 6 I<|cb (si I tO rfl rfl rfl (by omega)) I<|au 3 I<|aE [1] I ?_;refine ab (.a 1 I<|.v (BA I Tryz.underlying9 rfl) I<|.a 2 I<|.k [4,5] I)<|ao<|⟨_,RY I,?_⟩;have hl:(l++s.data.toList).length=l.length+s.size:=by simp
 unfold ED;rw[hl,<-lC]
 rfl
theorem JJ(l:List UInt8)(x:Option cX)(c:UInt8)(hn:l.length<=1000000000):bM prog 75 [.ptr 0 0,.raw (.int .u8 c.toNat)] (EC l x) (λ_ σ'=>σ'=ED (l++[c]) x):=by
 refine cF func75 I ntmps75 I<|ab (.a 1 I<|.k [0,1] I)<|aK<|au 1 I<|cD I I (RT (Dx l x) (λ_ σ' h=>?_));subst h;refine aE [0,1] I<|aK<|au 7 I<|cb (bF I (Ru I) I I I I (by unfold maxLen;omega)) I<|au 3 I<|aE [] I ?_;refine ab (.a 1 I<|.k [4] I)<|ao<|⟨_,RY I,?_⟩;unfold ED;rw[<-lC];simp only[Q0,Rk]
 rfl
theorem Na{P}{M:Nat}{c t}{Q:Exit->St->Prop}{l ty xs}[aP xs](a:pj [0,3,2] t t)(h:W P M 0 c ⟨t,EC l (some (.cells ty xs))⟩ Q):W P M 0 c ⟨t,ED l (some (.cells ty xs))⟩ Q:=
 dS [0,3,2] a (.kept rfl (.cells (S2 (Ren.ptr (i:=0) I)<|S2 (Ren.own (i:=1) I) Sy))<|.kept rfl (.row RZ)<|.kept rfl (.cells RZ)<|.nil) I I h
theorem PC{P}{M:Nat}{c t}{Q:Exit->St->Prop}{l x}(a:pj [0,3] t t)(h:W P M 0 c ⟨t,HE 1 true l⟩ Q):W P M 0 c ⟨t,ED l x⟩ Q:=
 dS [0,3] a (.kept rfl (.cells (S2 (Ren.ptr (i:=0) I)<|S2 (Ren.own (i:=1) I) Sy))<|.kept rfl (.row RZ)<|.nil) I I h
theorem PB{P}{M:Nat}{c t}{Q:Exit->St->Prop}{l}(a:pj [0,2] t t)(h:W P M 0 c ⟨t,HE 1 true l⟩ Q):W P M 0 c ⟨t,HE 2 true l⟩ Q:=
 dS [0,2] a (.kept rfl (.cells (S2 (Ren.ptr (i:=0) I)<|S2 (Ren.own (i:=1) I) Sy))<|.kept rfl (.row RZ)<|.nil) I I h
theorem FF(s:List bG)(i:Nat)(g:bG)(h:s[i]? =some g)(n:Nat):dz n (s.take (i+1))=(((dz n (s.take i)++[32])++Lib.decDigits g.kind.toNat)++[58])++Lib.decDigits g.num.toNat:=by
 unfold dz;rw[SN,h];simp[Lv]
theorem C7{s:List bG}(h:dG s)(i:Nat):dG (s.take i):=λg a=>h g (Tq a)
theorem FE{n:Nat}{s:List bG}(hn:n<100)(h:dG s):(dz n s).length<=2+s.length*6:=by
 have h1:=mD hn;have h2:=IC h;unfold dz;rw[Q0];omega
theorem IA(n:Nat)(s:List bG)(hn:n<100)(hs:dG s)(hl:s.length<=1000):Can prog 45 [num n,cr s] (· =OX (dz n s)):=by
 refine aF func45 I ntmps45 I<|ab (.a 1 I<|.k [0,1] I)<|aK<|au 1 I<|aE [0,1,5] I ?_;refine cm 0 1 5 1 I I<|eO (σ':=HE 1 false []) I ?_;refine aK<|au 1 I<|ez I (pr n hn) I<|cD I I (RT (OZ false [] ⟨(Lib.decDigits n).toArray⟩ (show([]:List UInt8).length+(Lib.decDigits n).toArray.size<=1000000000 by have:=mD hn;simp;omega)) (λ_ σ' h=>?_));subst h;refine aE [1,5] I<|PB (.cons 1 I Ren.pure<|.cons 5 I (Ren.ptr (i:=0) I)<|.nil) ?_;refine ai<|ab (.a 3 I<|.k [5,11,12,13] I)<|aw<|eF [5,11,12,13] I<|bd (λr st=>∃i,i<=s.length/\r=s.length - i/\st=⟨[(5,.ptr 0 0),(11,cr s),(12,num s.length),(13,num i)],HE 1 true (dz n (s.take i))⟩) s.length ⟨0,by omega,by omega,by simp[dz]⟩ ?_;rintro r st ⟨i,hi,rfl,rfl⟩;refine ab (.a 1 I<|.k [5,11,12,13,14] I)<|ai<|ae I (λhc=>?_) (λhc=>?_)
 ·have l:i<s.length:=by have:=Q5 hc;omega
  obtain⟨g,j,_⟩:=Gr s i l;obtain⟨m,a2,a3,a4⟩:=hs g (Ro j);have b:=FF s i g j n;have d:=FE hn (C7 hs i);rw[Sg]at d;obtain⟨t,u⟩:=g;simp only at m a2 a3 a4 b;obtain⟨a,rfl⟩:=QW m;obtain⟨f,rfl⟩:=QW a3;have o:=mD (n:=a) (by omega);have q:=mD (n:=f) (by omega);rw[QS,QS]at b;have e:min i s.length=i:=by omega
  rw[e]at d;generalize p:dz n (s.take i)=c at*;refine aj<|ai<|aw<|aK<|bm (aM ((i*2)) I) I<|bm (gj I (il s i _ j) I) I<|au 2 I<|aE [5,7,11,12,13] I ?_;refine eO (σ':=EC c (some (.cells 136 (pE ⟨(a:Int),(f:Int)⟩)))) I<|aK<|cD I I (RT (JJ c _ 32 (by omega)) (λ_ σ' h=>?_));subst h;refine aE [5,7,11,12,13] I<|Na (.cons 5 I (Ren.ptr (i:=0) I)<|.cons 7 I (Ren.ptr (i:=2) I)<|.cons 11 I Ren.pure<|.cons 12 I Ren.pure<|.cons 13 I Ren.pure<|.nil) ?_;refine aK<|au 1 I<|bm (aJ I (rfl)) I<|ez I (pr a (by omega)) I<|cD I I (RT (M4 (c++[32]) _ ⟨(Lib.decDigits a).toArray⟩ (show(c++[32]).length+(Lib.decDigits a).toArray.size<=1000000000 by simp;omega)) (λ_ σ' h=>?_));subst h;refine aE [5,7,11,12,13] I<|Na (.cons 5 I (Ren.ptr (i:=0) I)<|.cons 7 I (Ren.ptr (i:=2) I)<|.cons 11 I Ren.pure<|.cons 12 I Ren.pure<|.cons 13 I Ren.pure<|.nil) ?_;refine aK<|cD I I (RT (JJ ((c++[32])++Lib.decDigits a) _ 58 (by simp;omega)) (λ_ σ' h=>?_));subst h;refine aE [5,7,11,12,13] I<|Na (.cons 5 I (Ren.ptr (i:=0) I)<|.cons 7 I (Ren.ptr (i:=2) I)<|.cons 11 I Ren.pure<|.cons 12 I Ren.pure<|.cons 13 I Ren.pure<|.nil) ?_;refine bx<|au 1 I<|bm (aJ I (rfl)) I<|ez I (pr f (by omega)) I<|cD I I (RT (M4 (((c++[32])++Lib.decDigits a)++[58]) _ ⟨(Lib.decDigits f).toArray⟩ (show(((c++[32])++Lib.decDigits a)++[58]).length+(Lib.decDigits f).toArray.size<=1000000000 by simp;omega)) (λ_ σ' h=>?_));subst h;refine aE [5,11,12,13] I<|PC (.cons 5 I (Ren.ptr (i:=0) I)<|.cons 11 I Ren.pure<|.cons 12 I Ren.pure<|.cons 13 I Ren.pure<|.nil) ?_;refine aC (.v (aW I) I<|.a 1 I<|.k [5,11,12,13] I)<|⟨s.length - (i+1),by omega,i+1,by omega,rfl,by rw[b];rfl⟩
 ·have k:i=s.length:=by have:=Rf hc;omega
  subst k;rw[RC];refine ba<|aK<|cD I I (RT (Kj true (dz n s) (by have:=mD hn;unfold dz;simp;omega)) (λ_ σ' h=>?_));subst h;refine au 1 I<|aE [4] I ?_;exact ao<|QR I ax.pure rfl
theorem Dc(T:ak)(L:List cQ)(n:Int)(hv:av T=true)(j:(L.length:Int)=T.nodes)(f:∀(i:Nat) x,L[i]? =some x->x.node=(i:Int)/\df T x=true)(hn:aX T n=true):Can prog 43 [aL T,dP L,num n] (· =num 0):=by
 have hN:=gQ hv;have⟨g,a⟩:=QQ (av T);have⟨l,b⟩:=QQ (decide ((L.length:Int)≠T.nodes));refine aF func43 I ntmps43 I<|ab (.a 2 I<|.k [1,2,3] I)<|ai<|bz 18 (.raw (.bool (!g ||l))) [1,2,3] I ?_ ?_
 ·refine .a 1 I<|.c rfl (a▸fv T) I<|.a 2 I<|?_;cases g
  ·exact .a 6 I<|.k [18,1,2,3] I
  ·exact .a 3 I<|.v (aJ I (rfl)) I<|.v (bW I (b)) I<|.a 1 I<|.k [18,1,2,3] I
 refine ae I (λhc=>?_) (λhc=>?_)
 ·rw[<-a,hv,<-b,Rg (by rw[j];simp)]at hc;cases hc
 ·refine aj<|ai<|ab (.a 3 I<|.k [2,3,19,20,21] I)<|aw<|eF [2,3,19,20,21] I<|bd (λr st=>∃i,i<=L.length/\r=L.length - i/\st=⟨[(2,num n),(3,.bq (bn T) 0),(19,dP L),(20,num L.length),(21,num i)],[]⟩) L.length ⟨0,by omega,by omega,rfl⟩ ?_;rintro r st ⟨i,hi,rfl,rfl⟩;refine ab (.a 1 I<|.k [2,3,19,20,21,22] I)<|ai<|ae I (λhc=>?_) (λhc=>?_)
  ·have e:i<L.length:=by have:=Q5 hc;omega
   obtain⟨x,hx⟩:∃x,L[i]? =some x:=⟨_,QX e⟩;obtain⟨h1,h2⟩:=f i x hx;have⟨h,c⟩:=QQ (decide (x.node≠(i:Int)));have⟨m,d⟩:=QQ (df T x);refine aj<|ai<|aw<|aK<|au 1 I<|bm (aM ((i*3)) I) I<|bm (gj I (mh L i x hx) I) I<|au 3 I<|aE [2,3,7,8,19,20,21] I ?_;refine bz 35 (.raw (.bool (h|| !m))) [2,3,19,20,21] I ?_ ?_
   ·refine .a 1 I<|.v (aJ I ((rfl:(fi x)[0]? =some (num x.node)))) I<|.a 1 I<|.v (bW I (c)) I<|.a 1 I<|?_;cases h
    ·exact .a 1 I<|.v (gj I ((rfl:(fi x).take 3=fi x)) I) I<|.c rfl (d▸vp T x) I<|.a 2 I<|.k [35,2,3,19,20,21] I
    ·exact .a 5 I<|.k [35,2,3,19,20,21] I
   refine ae I (λhc=>?_) (λhc=>?_)
   ·rw[<-c,<-d,h2,Rg (by rw[h1];simp)]at hc;cases hc
   ·refine aj<|dS [] (.c 2<|.c 3<|.c 19<|.c 20<|.c 21<|.nil) .nil rfl rfl ?_;refine aC (.v (aW I) I<|.a 1 I<|.k [2,3,19,20,21] I)<|⟨L.length - (i+1),by omega,i+1,by omega,rfl,rfl⟩
  ·have k:i=L.length:=by have:=Rf hc;omega
   refine ba<|ai<|ab (.a 2 I<|.c rfl (hn▸ej T n) I<|.a 1 I<|.k [40] I)<|ae I (λhc=>?_) (λhc=>?_)
   ·cases hc
   ·exact aj<|ab (.a 1 I<|.k [6] I)<|ao<|QR I ax.pure rfl
end
end PW
end Go.Proofs.YtoopjinigmhpcaaGreatDoor
