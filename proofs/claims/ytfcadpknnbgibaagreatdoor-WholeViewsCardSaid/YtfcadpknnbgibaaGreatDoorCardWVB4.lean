/- Part 4. -/
import Derived.Scope
import Derived.Lib.SliceRun
import Derived.ChangeKeysEq
import Derived.Laws.BytesArg
import Derived.RangeFuncNested
import Derived.RangeFuncBound
import Derived.RangeFuncCalls
import Derived.RangeFuncLeaves
import Derived.Shelf.Abstract
import Derived.Shelf.RegionOpen
import Derived.OwnWalkIn
import Derived.TacticsInMore
import Derived.LoopNIn
import Derived.LoopIn
import Derived.Test.YtfcadpknnbgibaaGreatDoorCardWVB3
set_option maxRecDepth 100000
set_option maxHeartbeats 4000000
namespace Go.Proofs.YtfcadpknnbgibaaGreatDoor
open Go.Proofs.Tryz
namespace PW
section
open Go.RowKit cm Mem Net
noncomputable def dN(T:aw)(D:List Bool)(d x:Nat):Int:=(bN T D d false).getD x 0
def dU(T:aw)(p:List Int):Int:=p.foldr (λa c=>cr T a.toNat+c) 0
theorem mr(T:aw):dU T []=0:=rfl
theorem jM(T:aw)(a:Int)(p:List Int):dU T (a::p)=cr T a.toNat+dU T p:=rfl
theorem jn(T:aw)(p q:List Int):dU T (p++q)=dU T p+dU T q:=by
 induction p with
 |nil=>simp[mr]
 |cons a p ih=>rw[Wt,jM,jM,ih];omega
inductive SP (T:aw) (D:List Bool) (d:Nat):Nat->List Int->Prop
 |nil:SP T D d d []
 |cons {n a m:Nat} {p:List Int}:nq T D n d a->bx T a=(m:Int)->SP T D d m p->SP T D d n ((a:Int)::p)
inductive Ch (T:aw) (D:List Bool) (d:Nat):Nat->List Int->Prop
 |nil:Ch T D d d []
 |cons {n a m:Nat} {p:List Int}:a<2*T.ah.length->bI T a=(n:Int)->bO D a=false->bx T a=(m:Int)->(p=[]\/cW T m=false)->Ch T D d m p->Ch T D d n ((a:Int)::p)
theorem vo:∀(N:Nat) (l:List Nat),l.Nodup->(∀x∈l,x<N)->l.length<=N
 |0,l,_,h=>by
  cases l with
  |nil=>simp
  |cons a l=>have:=h a (by simp);omega
 |N+1,l,hn,h=>by
  have h1:=vo N (l.erase N) (hn.erase N) (λx hx=>by
   have h2:=(List.Nodup.mem_erase_iff hn).1 hx;have:=h x h2.2;have:=h2.1;omega)
  rw[List.length_erase]at h1;split at h1<;>omega
section
variable {T:aw} {D:List Bool} {d:Nat}
theorem fJ(hv:aH T=true){a:Nat}(ha:a<2*T.ah.length):∃m:Nat,bx T a=(m:Int)/\(m:Int)<T.nodes:=by
 obtain⟨h0,h1⟩:=(bz hv).head a ha;obtain⟨m,hm⟩:=Vo h0;exact⟨m,hm,by rw[<-hm];exact h1⟩
theorem nA(hv:aH T=true)(hd:(d:Int)<T.nodes):dN T D d d=0:=GX hv hd
theorem Sc(hv:aH T=true)(hd:(d:Int)<T.nodes){x:Nat}(hx:(x:Int)<T.nodes): -1<=dN T D d x/\dN T D d x<=4194240:=by
 obtain⟨h1,h2⟩:=fi (D:=D) hv (dir:=false) hd;exact h2 _ (b9 (by omega))
theorem nq.dN{n a m:Nat}(h:nq T D n d a)(hm:bx T a=(m:Int)):0<=dN T D d m/\dN T D d n=dN T D d m+cr T a:=by
 have h1:=h.reach;have h2:=h.sum;rw[hm,Vi]at h1 h2;exact⟨h1,h2⟩
theorem nq.node(hv:aH T=true){n a:Nat}(h:nq T D n d a):(n:Int)<T.nodes:=by rw[<-h.tail];exact((bz hv).tail a h.nu).2
theorem SP.node(hv:aH T=true)(hd:(d:Int)<T.nodes){n:Nat}{p:List Int}(h:SP T D d n p):(n:Int)<T.nodes:=by
 cases h with
 |nil=>exact hd
 |cons h1 _ _=>exact h1.node hv
theorem SP.cost(hv:aH T=true)(hd:(d:Int)<T.nodes){n:Nat}{p:List Int}(h:SP T D d n p):dN T D d n=dU T p/\0<=dN T D d n:=by
 induction h with
 |nil=>rw[nA hv hd];exact⟨rfl,Xg _⟩
 |cons h1 hm _ ih=>
  obtain⟨g1,g2⟩:=h1.dN hm;have:=(bz hv).cost _ h1.nu;rw[jM,Vi];omega
theorem SP.self{p:List Int}(h:SP T D d d p):p=[]:=by
 cases h with
 |nil=>rfl
 |cons h1 _ _=>exact absurd rfl h1.ne
theorem SP.len(hv:aH T=true)(hd:(d:Int)<T.nodes){n:Nat}{p:List Int}(h:SP T D d n p):(p.length:Int)<=dN T D d n:=by
 induction h with
 |nil=>rw[nA hv hd];simp
 |cons h1 hm _ ih=>
  obtain⟨g1,g2⟩:=h1.dN hm;have:=(bz hv).cost _ h1.nu;simp only[VI];omega
theorem SP.ch{n:Nat}{p:List Int}(h:SP T D d n p):Ch T D d n p:=by
 induction h with
 |nil=>exact .nil
 | @cons n a m p h1 hm hp ih=>
  refine .cons h1.nu h1.tail h1.up hm ?_ ih;rcases h1.pass with hx|hx
  ·have:m=d:=by rw[hm]at hx;omega
   subst this;exact .inl hp.self
  ·rw[hm,Vi]at hx;exact .inr hx
theorem JP(hv:aH T=true)(hd:(d:Int)<T.nodes){n a m:Nat}(ha:a<2*T.ah.length)(g:bI T a=(n:Int))(hu:bO D a=false)(hm:bx T a=(m:Int))(ho:m=d\/cW T m=false)(h0:0<=dN T D d m):0<=dN T D d n/\dN T D d n<=dN T D d m+cr T a:=by
 have b:=bz hv;have j:=kX b D false hd;have c:(m:Int)<T.nodes:=by rw[<-hm];exact(b.head a ha).2
 have e:(n:Int)<T.nodes:=by rw[<-g];exact(b.tail a ha).2
 have i:=rj (D:=D) hv hd e;have f:=rj (D:=D) hv hd c;have:=j.closed a ha ⟨hu,by simp only[dF,Xb,Yo];rw[hm,<-f];exact h0,by
  simp only[dF,Xb,Yo];rw[hm];rcases ho with h|h
  ·exact .inl (by rw[h])
  ·exact .inr (by simpa using h)⟩
 simp only[gJ,dF,Xb,Yo]at this;rw[hm,g,<-i,<-f]at this;exact this
theorem Ch.node(hv:aH T=true)(hd:(d:Int)<T.nodes){n:Nat}{p:List Int}(h:Ch T D d n p):(n:Int)<T.nodes:=by
 cases h with
 |nil=>exact hd
 |cons h1 a _ _ _ _=>rw[<-a];exact((bz hv).tail _ h1).2
theorem Ch.to{n:Nat}{p:List Int}(h:Ch T D d n p):p=[]->n=d:=by
 cases h with
 |nil=>intro _;rfl
 |cons=>intro h;cases h
theorem Ch.le(hv:aH T=true)(hd:(d:Int)<T.nodes){n:Nat}{p:List Int}(h:Ch T D d n p):0<=dN T D d n/\dN T D d n<=dU T p:=by
 induction h with
 |nil=>rw[nA hv hd];exact⟨Xg _,Xg _⟩
 | @cons n a m p ha b hu hm ho hp ih=>
  have:=JP hv hd ha b hu hm (by rcases ho with h|h;exact .inl (hp.to h);exact .inr h) ih.1;rw[jM,Vi];omega
theorem Ch.sp(hv:aH T=true)(hd:(d:Int)<T.nodes){n:Nat}{p:List Int}(h:Ch T D d n p)(hc:dN T D d n=dU T p):SP T D d n p:=by
 induction h with
 |nil=>exact .nil
 | @cons n a m p ha c hu hm ho hp ih=>
  have b:m=d\/cW T m=false:=by rcases ho with h|h;exact .inl (hp.to h);exact .inr h
  have h1:=hp.le hv hd;have h2:=JP hv hd ha c hu hm b h1.1;rw[jM,Vi]at hc;have e:=(bz hv).cost a ha;refine .cons ⟨ha,c,hu,?_,?_,?_,?_⟩ hm (ih (by omega))
  ·rintro rfl;rw[nA hv hd]at hc h2;omega
  ·rw[hm,Vi];exact h1.1
  ·rw[hm];rcases b with h|h;exact .inl (by rw[h]);exact .inr (by simpa using h)
  ·rw[hm,Vi];show dN T D d n=dN T D d m+cr T a;omega
noncomputable def jo(T:aw)(D:List Bool)(d:Nat):Nat->Nat->List Int
 |0,_=>[]
 |f+1,n=>match cA T D n d with
  | []=>[]
  |a::_=>a::jo T D d f (bx T a.toNat).toNat
noncomputable def eT(T:aw)(D:List Bool)(n d:Nat):List Int:=jo T D d (dN T D d n).toNat n
theorem vm{n:Nat}(h:dN T D d n<0):cA T D n d=[]:=by unfold cA;rw[Vn (.inr h)]
theorem Bh(hv:aH T=true)(hd:(d:Int)<T.nodes):∀(f n:Nat),(n:Int)<T.nodes->0<=dN T D d n->dN T D d n<=f->SP T D d n (jo T D d f n)
 |f,n,hn,h0,j=>by
  by_cases h:n=d
  ·subst h;have:jo T D n f n=[]:=by cases f with|zero=>rfl|succ f=>simp only[jo,sO]
   rw[this];exact .nil
  ·obtain⟨k,hk⟩:=rK (D:=D) hv hn hd h h0;cases f with
   |zero=>
    obtain⟨m,hm,_⟩:=fJ hv hk.nu;have:=hk.dN hm;have:=(bz hv).cost k hk.nu;omega
   |succ f=>
    simp only[jo];have e:=nJ hk ((bz hv).cost k hk.nu).1;cases hx:cA T D n d with
    |nil=>rw[hx]at e;cases e
    |cons a l=>
     obtain⟨b,hb,c⟩:=gW (T:=T) (D:=D) (n:=n) (d:=d) (a:=a) (by rw[hx];simp);subst hb;obtain⟨m,hm,i⟩:=fJ hv c.nu;have g:=c.dN hm;have:=(bz hv).cost b c.nu;simp only[Vi,hm];exact .cons c hm (Bh hv hd f m i g.1 (by omega))
theorem jA(hv:aH T=true)(hd:(d:Int)<T.nodes){n:Nat}(hn:(n:Int)<T.nodes)(h0:0<=dN T D d n):SP T D d n (eT T D n d):=Bh hv hd _ n hn h0 (by omega)
noncomputable def p7(T:aw)(D:List Bool)(d:Nat):Nat->Nat->Int
 |0,m=>if m=d then 1 else 0
 |f+1,m=>if m=d then 1 else(cA T D m d).foldl (λc a=>min 2 (c+p7 T D d f (bx T a.toNat).toNat)) 0
noncomputable def eQ(T:aw)(D:List Bool)(d m:Nat):Int:=p7 T D d (dN T D d m).toNat m
theorem foldl_congr{α β:Type}{f g:α->β->α}:∀ {l:List β} {a},(∀a b,b∈l->f a b=g a b)->l.foldl f a=l.foldl g a
 | [],_,_=>rfl
 |b::l,a,h=>by simp only[Xn,h a b (by simp)];exact foldl_congr λa c hc=>h a c (by simp[hc])
theorem pA(hv:aH T=true)(hd:(d:Int)<T.nodes):∀(K m f:Nat),(m:Int)<T.nodes->dN T D d m<=K->dN T D d m<=f->p7 T D d f m=eQ T D d m
 |K,m,f,l,o,p=>by
  unfold eQ;by_cases h:m=d
  ·subst h;cases f<;>cases(dN T D m m).toNat<;>simp[p7]
  ·by_cases h0:dN T D d m<0
   ·have hx:=vm h0;rw[show(dN T D d m).toNat=0 by omega];cases f<;>simp[p7,h,hx]
   ·obtain⟨k,hk⟩:=rK (D:=D) hv l hd h (by show 0<=dN T D d m;omega);have n:0<dN T D d m:=by
     obtain⟨m',e,_⟩:=fJ hv hk.nu;have:=hk.dN e;have:=(bz hv).cost k hk.nu;omega
    obtain⟨g,hg⟩:∃g,(dN T D d m).toNat=g+1:=⟨(dN T D d m).toNat - 1,by omega⟩;cases f with
    |zero=>omega
    |succ f=>
     cases K with
     |zero=>omega
     |succ K=>
      rw[hg];simp only[p7,Vk h];refine foldl_congr λc a ha=>?_;obtain⟨b,rfl,j⟩:=gW ha;obtain⟨m',e,i⟩:=fJ hv j.nu;have g1:=j.dN e;have g2:=(bz hv).cost b j.nu;rw[Vi,e,Vi,pA hv hd K m' f i (by omega) (by omega),pA hv hd K m' g i (by omega) (by omega)]
theorem rh(m:Nat):eQ T D m m=1:=by unfold eQ;cases(dN T D m m).toNat<;>simp[p7]
theorem uQ(hv:aH T=true)(hd:(d:Int)<T.nodes){m:Nat}(i:(m:Int)<T.nodes)(h:m≠d):eQ T D d m=(cA T D m d).foldl (λc a=>min 2 (c+eQ T D d (bx T a.toNat).toNat)) 0:=by
 by_cases h0:dN T D d m<0
 ·unfold eQ;rw[vm h0,show(dN T D d m).toNat=0 by omega];simp[p7,h]
 ·have h1:=pA (D:=D) hv hd (dN T D d m).toNat m ((dN T D d m).toNat+1) i (by omega) (by omega);rw[<-h1];simp only[p7,Vk h];refine foldl_congr λc a ha=>?_;obtain⟨b,rfl,e⟩:=gW ha;obtain⟨m',f,g⟩:=fJ hv e.nu;have g1:=e.dN f;have g2:=(bz hv).cost b e.nu;rw[Vi,f,Vi,pA hv hd (dN T D d m).toNat m' _ g (by omega) (by omega)]
theorem Fp(hv:aH T=true)(hd:(d:Int)<T.nodes){m:Nat}(a:(m:Int)<T.nodes)(h0:dN T D d m<0):eQ T D d m=0:=by
 have b:m≠d:=by rintro rfl;rw[nA hv hd]at h0;omega
 rw[uQ hv hd a b,vm h0];rfl
theorem rp(g:Int->Int)(hg:∀a,0<=g a):∀(l:List Int) (c:Int),0<=c->c<=2->0<=l.foldl (λc a=>min 2 (c+g a)) c/\l.foldl (λc a=>min 2 (c+g a)) c<=2
 | [],c,h0,h2=>⟨h0,h2⟩
 |a::l,c,h0,h2=>by
  have:=hg a;exact rp g hg l _ (show 0<=min 2 (c+g a) by omega) (show min 2 (c+g a)<=2 by omega)
theorem vc(g:Int->Int)(hg:∀a,0<=g a):∀(l:List Int) (c:Int),c<=2->c<=l.foldl (λc a=>min 2 (c+g a)) c
 | [],c,_=>Xg _
 |a::l,c,h2=>by
  have:=hg a;have:=vc g hg l (min 2 (c+g a)) (by omega);simp only[Xn];omega
theorem wZ(hv:aH T=true)(hd:(d:Int)<T.nodes):∀(f m:Nat),0<=p7 T D d f m/\p7 T D d f m<=2
 |0,m=>by simp only[p7];split<;>omega
 |f+1,m=>by
  simp only[p7];split
  ·omega
  ·exact rp (λa=>p7 T D d f (bx T a.toNat).toNat) (λa=>(wZ hv hd f _).1) _ 0 (by omega) (by omega)
theorem nz(hv:aH T=true)(hd:(d:Int)<T.nodes)(m:Nat):0<=eQ T D d m/\eQ T D d m<=2:=wZ hv hd _ m
theorem Fm(hv:aH T=true)(hd:(d:Int)<T.nodes):∀(K m:Nat),(m:Int)<T.nodes->0<=dN T D d m->dN T D d m<=K->1<=eQ T D d m
 |K,m,f,h0,n=>by
  by_cases e:m=d
  ·subst e;rw[rh];omega
  ·obtain⟨k,hk⟩:=rK (D:=D) hv f hd e h0;have h:=nJ hk ((bz hv).cost k hk.nu).1;obtain⟨m',b,g⟩:=fJ hv hk.nu;have g1:=hk.dN b;have g2:=(bz hv).cost k hk.nu;cases K with
   |zero=>omega
   |succ K=>
    have hp:=Fm hv hd K m' g g1.1 (by omega);rw[uQ hv hd f e];obtain⟨i,j,hl⟩:=List.append_of_mem h;rw[hl,Zm,Xn];have hg:∀a:Int,0<=eQ T D d (bx T a.toNat).toNat:=λa=>(nz hv hd _).1;have l:=rp (λa=>eQ T D d (bx T a.toNat).toNat) hg i 0 (by omega) (by omega);have a2:=vc (λa=>eQ T D d (bx T a.toNat).toNat) hg j (min 2 (i.foldl (λc a=>min 2 (c+eQ T D d (bx T a.toNat).toNat)) 0+eQ T D d (bx T (k:Int).toNat).toNat)) (by omega);rw[Vi,b,Vi]at a2;rw[Vi,b,Vi];omega
theorem Fl(hv:aH T=true)(hd:(d:Int)<T.nodes){m:Nat}(g:(m:Int)<T.nodes)(i:m≠d)(h:eQ T D d m=1):∃a:Nat,cA T D m d=[(a:Int)]/\nq T D m d a/\∀k:Nat,bx T a=(k:Int)->eQ T D d k=1:=by
 rw[uQ hv hd g i]at h;have hg:∀a:Int,0<=eQ T D d (bx T a.toNat).toNat:=λa=>(nz hv hd _).1;have c:∀a∈cA T D m d,1<=eQ T D d (bx T a.toNat).toNat:=λa ha=>by
  obtain⟨b,rfl,hb⟩:=gW ha;obtain⟨m',e,f⟩:=fJ hv hb.nu;have g1:=hb.dN e;rw[Vi,e,Vi];exact Fm hv hd (dN T D d m').toNat m' f g1.1 (by omega)
 cases hx:cA T D m d with
 |nil=>rw[hx]at h;simp at h
 |cons a l=>
  obtain⟨b,rfl,hb⟩:=gW (T:=T) (D:=D) (n:=m) (d:=d) (a:=a) (by rw[hx];simp);have h1:=c b (by rw[hx];simp);rw[hx,Xn]at h;cases l with
  |nil=>
   refine⟨b,rfl,hb,λk hk=>?_⟩;simp only[Zj,Vi,hk]at h h1;omega
  |cons a2 l=>
   have h2:=c a2 (by rw[hx];simp);rw[Xn]at h;have:=vc (λa=>eQ T D d (bx T a.toNat).toNat) hg l (min 2 (min 2 (0+eQ T D d (bx T (b:Int).toNat).toNat)+eQ T D d (bx T a2.toNat).toNat)) (by omega);omega
theorem Dx(hv:aH T=true)(hd:(d:Int)<T.nodes){m a k:Nat}(b:(m:Int)<T.nodes)(c:m≠d)(hx:cA T D m d=[(a:Int)])(hk:bx T a=(k:Int))(h:eQ T D d k=1):eQ T D d m=1:=by
 rw[uQ hv hd b c,hx];simp only[Xn,Zj,Vi,hk,h];omega
theorem SP.unique(hv:aH T=true)(hd:(d:Int)<T.nodes){n:Nat}{p q:List Int}(h:SP T D d n p)(e:SP T D d n q)(hc:eQ T D d n=1):p=q:=by
 induction h generalizing q with
 |nil=>exact e.self.symm
 | @cons n a m p h1 hm hp ih=>
  cases e with
  |nil=>exact absurd rfl h1.ne
  | @cons _ j m' q c i e=>
   obtain⟨b,hb,_,g⟩:=Fl hv hd (h1.node hv) h1.ne hc;have k:=nJ h1 ((bz hv).cost a h1.nu).1;have l:=nJ c ((bz hv).cost j c.nu).1;rw[hb]at k l;simp only[WW]at k l;have ea:a=b:=by omega
   have f:j=b:=by omega
   subst ea;subst f;have em:m=m':=by rw[hm]at i;omega
   subst em;rw[ih e (g m hm)]
noncomputable def iD(T:aw)(D:List Bool)(n d:Int):Bool:=decide (c9 T D n d=0)&&decide (eQ T D d.toNat n.toNat=1)
theorem SP.KI(hv:aH T=true)(hd:(d:Int)<T.nodes){n:Nat}{p:List Int}(h:SP T D d n p):(p.length:Int)<T.nodes:=by
 have key:∃l:List Nat,l.length=p.length+1/\l.Nodup/\(∀x∈l,(x:Int)<T.nodes/\dN T D d x<=dN T D d n):=by
  induction h with
  |nil=>exact⟨[d],rfl,by simp,λx hx=>by simp at hx;subst hx;exact⟨hd,Xg _⟩⟩
  | @cons n a m p h1 hm hp ih=>
   obtain⟨l,e,c,b⟩:=ih;have g1:=h1.dN hm;have g2:=(bz hv).cost a h1.nu;refine⟨n::l,by simp[e],Wv.2 ⟨λhn=>by have:=(b n hn).2;omega,c⟩,λx hx=>?_⟩;cases hx with
   |head=>exact⟨h1.node hv,Xg _⟩
   |tail _ hx=>have:=b x hx;exact⟨this.1,by omega⟩
 obtain⟨l,e,c,b⟩:=key;have hN:=(bz hv).nodes;have:=vo T.nodes.toNat l c (λx hx=>by have:=(b x hx).1;omega);omega
end
def fA(T:aw):Bool->Int->List Int->Int
 |_,_,[]=>0
 |f,n,a::l=>if jE T a=false then 2 else if bI T a.toNat≠n\/(f=false/\cW T n.toNat=true) then 4 else fA T false (bx T a.toNat) l
def gZ(T:aw)(n:Int)(l:List Int):Int:=if aH T then(if bZ T n then fA T true n l else 2) else 1
def dB(T:aw):Int->List Int->Int
 |n,[]=>n
 |_,a::l=>dB T (bx T a.toNat) l
def xT(T:aw)(n:Int)(l:List Int):PV:=.tuple [num (if gZ T n l=0 then dB T n l else 0),num (if gZ T n l=0 then dU T l else 0),num (gZ T n l)]
theorem oT(T:aw):∀(n:Int) (l m:List Int),dB T n (l++m)=dB T (dB T n l) m
 |_,[],_=>rfl
 |_,a::l,m=>oT T _ l m
theorem drop_cons(l:List Int)(k:Nat)(h:k<l.length):l.drop k=l.getD k 0::l.drop (k+1):=by
 rw[YB h,Qo,Vm h];rfl
theorem kL(T:aw)(n:Int)(l:List Int)(k:Nat)(h:k<l.length):dB T n (l.take (k+1))=bx T (l.getD k 0).toNat:=by
 rw[cL l k 0 h,oT];rfl
theorem qw(T:aw)(l:List Int)(k:Nat)(h:k<l.length):dU T (l.take (k+1))=dU T (l.take k)+cr T (l.getD k 0).toNat:=by
 rw[cL l k 0 h,jn];simp[jM,mr]
theorem tc{T f}{n a:Int}{l:List Int}(h1:jE T a=true)(h2:bI T a.toNat=n)(b:f=true\/cW T n.toNat=false):fA T f n (a::l)=fA T false (bx T a.toNat) l:=by
 simp only[fA];rw[Vk (by rw[h1];simp),Vk];rintro(h|⟨h,c⟩)
 ·exact h h2
 ·rcases b with b|b
  ·rw[b]at h;cases h
  ·rw[b]at c;cases c
theorem Mr{T f}{n a:Int}{l:List Int}(h1:jE T a=true)(h2:bI T a.toNat≠n\/(f=false/\cW T n.toNat=true)):fA T f n (a::l)=4:=by
 simp only[fA];rw[Vk (by rw[h1];simp),Vn h2]
theorem Hl(T:aw)(hl:T.ah.length<=4611686018427387902)(a:Int)(h:jE T a=true):Can prog 54 [bu T,num a] (· =num (bx T a.toNat)):=by
 obtain⟨h0,h1⟩:=gR.1 h;obtain⟨a,rfl⟩:=Vo h0;exact jq T a (by omega) hl
theorem GB(T:aw)(a:Int)(h:jE T a=true):Can prog 55 [bu T,num a] (· =num (cr T a.toNat)):=by
 obtain⟨h0,h1⟩:=gR.1 h;obtain⟨a,rfl⟩:=Vo h0;exact mv T a (by omega)
theorem mo{T:aw}(hv:aH T=true){a:Int}(h:jE T a=true):(1<=cr T a.toNat/\cr T a.toNat<=65535)/\∃m:Nat,bx T a.toNat=(m:Int)/\(m:Int)<T.nodes:=by
 obtain⟨h0,h1⟩:=gR.1 h;have hl:a.toNat<2*T.ah.length:=by omega
 exact⟨(bz hv).cost _ hl,fJ hv hl⟩
theorem FK{T:aw}(hv:aH T=true){x:Nat}(hx:(x:Int)<T.nodes):T.over.length=0\/x<T.over.length:=by have:=(fr hv).2.2.2;omega
theorem Cg(T:aw)(n:Int)(l:List Int)(hl:l.length<=1000000):Can prog 124 [bu T,num n,bm l] (· =xT T n l):=by
 refine aR func124 I ntmps124 I<|aj (.a 4 I<|.k [1,2,3,7] I)<|an<|aj (.a 1 I<|.c rfl (gw T) I<|.a 1 I<|.k [1,2,3,7,13] I)<|ak I (λhc=>?_) (λhc=>?_)
 ·have hv:aH T=false:=by simpa using hc
  have e:gZ T n l=1:=by unfold gZ;rw[hv];rfl
  unfold xT;rw[e];exact aj (.a 3 I<|.k [6,7,8] I)<|aA<|jF I aQ.pure rfl
 ·have hv:aH T=true:=by simpa using hc
  have N:=dy hv;refine ao<|an<|aj (.a 2 I<|.c rfl (jw T n) I<|.a 1 I<|.k [1,2,3,7,17] I)<|ak I (λhc=>?_) (λhc=>?_)
  ·have hn:bZ T n=false:=by simpa using hc
   have e:gZ T n l=2:=by unfold gZ;rw[hv,hn];rfl
   unfold xT;rw[e];exact aj (.a 3 I<|.k [6,7,8] I)<|aA<|jF I aQ.pure rfl
  ·have hn:bZ T n=true:=by simpa using hc
   have e:gZ T n l=fA T true n l:=by unfold gZ;rw[hv,hn];rfl
   obtain⟨j,m⟩:=bY.1 hn;obtain⟨n,rfl⟩:=Vo j;refine ao<|aj (.a 2 I<|.k [2,3,6,7] I)<|an<|aj (.a 3 I<|.k [3,6,7,19,20,21] I)<|ay<|eX [3,6,7,19,20,21] I<|bq (λr s=>∃(k x:Nat),k<=l.length/\r=l.length - k/\dB T n (l.take k)=(x:Int)/\(x:Int)<T.nodes/\0<=dU T (l.take k)/\dU T (l.take k)<=65535*(k:Int)/\fA T true n l=fA T (decide (k=0)) x (l.drop k)/\s=⟨[(3,.cH (bJ T) 0),(6,num x),(7,num (dU T (l.take k))),(19,bm l),(20,num l.length),(21,num k)],[]⟩) l.length ⟨0,n,by omega,by omega,rfl,m,by simp[mr],by simp[mr],rfl,rfl⟩ ?_;rintro r s ⟨k,x,hk,rfl,hx,v,L,M,hw,rfl⟩;refine aj (.a 1 I<|.k [3,6,7,19,20,21,22] I)<|an<|ak I (λhy=>?_) (λhy=>?_)
   ·have hlt:k<l.length:=by have:=tt hy;omega
    rw[drop_cons l k hlt]at hw;have⟨D,a⟩:=dw (jE T (l.getD k 0));have ha:=Nj T (by omega) (l.getD k 0);rw[a]at ha;refine ao<|an<|ay<|aj (.a 1 I<|.v (aX (k) I) I<|.v (aO I (aS l k hlt)) I<|.a 2 I<|.k [3,6,7,9,10,19,20,21] I)<|an<|aj (.a 2 I<|.c rfl (ha) I<|.a 1 I<|.k [3,6,7,9,10,19,20,21,29] I)<|ak I (λz=>?_) (λz=>?_)
    ·have h1:D=false:=by simpa using z
     subst h1;have q:fA T true n l=2:=by rw[hw];simp only[fA];rw[Vn a]
     unfold xT;rw[e,q];exact aj (.a 3 I<|.k [6,7,8] I)<|aA<|jF I aQ.pure rfl
    ·have h1:D=true:=by simpa using z
     subst h1;obtain⟨⟨A,B⟩,y,g,w⟩:=mo hv a;have p:=kL T n l k hlt;have o:=qw T l k hlt;have⟨E,b⟩:=dw (decide (bI T (l.getD k 0).toNat≠(x:Int)));have⟨F,c⟩:=dw (decide (0<(k:Int)));have⟨P,d⟩:=dw (cW T x);refine ao<|an<|cD 43 (.raw (.bool (E||(F&&P)))) [3,7,10,19,20,21] I ?_ ?_
     ·refine .a 2 I<|.c rfl (IJ T _ a) I<|.a 1 I<|.v (cT I (b)) I<|.a 1 I<|?_;cases E
      ·refine .a 1 I<|.v (cT I (c)) I<|.a 1 I<|?_;cases F
       ·exact .a 5 I<|.k [43,3,7,10,19,20,21] I
       ·exact .a 2 I<|.c rfl (d▸o6 T x (FK hv v)) I<|.a 2 I<|.k [43,3,7,10,19,20,21] I
      ·exact .a 8 I<|.k [43,3,7,10,19,20,21] I
     refine ak I (λhb=>?_) (λhb=>?_)
     ·have t:fA T true n l=4:=by
       rw[hw];refine Mr a ?_;rcases Xh.1 hb with h|h
       ·rw[h]at b;exact .inl (tt b)
       ·obtain⟨J,K⟩:=Wd.1 h;rw[J]at c;rw[K]at d;exact .inr ⟨VA (by have:=tt c;omega),by rw[Vi];exact d⟩
      unfold xT;rw[e,t];exact aj (.a 3 I<|.k [6,7,8] I)<|aA<|jF I aQ.pure rfl
     ·obtain⟨G,H⟩:=Wo.1 hb;rw[G]at b;have O:bI T (l.getD k 0).toNat=(x:Int):=VQ (ff b);have u:=tc (T:=T) (f:=decide (k=0)) (n:=(x:Int)) (l:=l.drop (k+1)) a O (by
       rcases Xy.1 H with h|h
       ·rw[h]at c;exact .inl (VM (by have:=ff c;omega))
       ·rw[h]at d;exact .inr (by rw[Vi];exact d))
      rw[u,g]at hw;have C:=Hl T (by omega) _ a;rw[g]at C;refine ao<|aj (.a 2 I<|.c rfl (C) I<|.a 1 I<|.k [3,6,7,10,19,20,21] I)<|aL (.a 3 I<|.c rfl (GB T _ a) I<|.v (aU I (hc:=o.symm)) I<|.a 1 I<|.k [3,6,7,19,20,21] I) ?_;refine aL (.v (aU I) I<|.a 1 I<|.k [3,6,7,19,20,21] I)<|⟨l.length - (k+1),by omega,k+1,y,by omega,rfl,by rw[p,g],w,by omega,by omega,by rw[hw];rfl,rfl⟩
   ·have i:k=l.length:=by have:=ff hy;omega
    subst i;rw[Zs]at hw;rw[VN]at hx ⊢;unfold xT;rw[e,hw];simp only[fA,Xr];rw[hx];exact bh<|aj (.a 5 I<|.k [6,7,8] I)<|aA<|jF I aQ.pure rfl
theorem o3(T:aw)(hv:aH T=true):Can prog 214 [bu T] (· =mS (ep (bI T) T.nodes.toNat (2*T.ah.length))):=by
 have e:=fr hv;have d:=bz hv;obtain⟨n,hn⟩:∃n:Nat,T.nodes=(n:Int):=⟨T.nodes.toNat,by omega⟩;rw[show T.nodes.toNat=n by omega];refine aR func214 I ntmps214 I<|aj (.a 2 I<|.k [1] I)<|aK<|av 2 I<|bW (eJ I (VW I) I I hn hn ⟨by unfold maxLen;omega,by omega⟩) I<|av 1 I<|aF [1,3] I ?_;refine th 49 3 n<|an<|aj (.a 1 I<|.c rfl (jl T (by omega)) I<|.a 1 I<|.k [1,3,10,11] I)<|ay<|eX [1,3,10,11] I<|bq (λr s=>∃k,k<=2*T.ah.length/\r=2*T.ah.length - k/\s=⟨[(1,.cH (bJ T) 0),(3,.own 0),(10,num (2*(T.ah.length:Int))),(11,num k)],oF 49 3 (ep (bI T) n k)⟩) (2*T.ah.length) ⟨0,by omega,by omega,by rw[vI];rfl⟩ ?_;rintro r s ⟨k,hk,rfl,rfl⟩;refine aj (.a 1 I<|.k [1,3,10,11,12] I)<|an<|ak I (λhc=>?_) (λhc=>?_)
 ·have hlt:k<2*T.ah.length:=by have:=Vg hc;omega
  obtain⟨b,g⟩:=d.tail k hlt;obtain⟨m,hm⟩:=Vo b;have a:m<n:=by omega
  have h:=gv (bI T) n k;have f:((ep (bI T) n k).getD m []).length<=k:=by
   rw[kQ _ _ _ _ a];simp only[Wf];exact VL (Wl _ _) (by simp)
  refine ao<|an<|ay<|aj (.a 2 I<|.k [1,3,4,10,11] I)<|aj (.a 2 I<|.c rfl (hm▸mY T k hlt) I<|.a 1 I<|.k [1,3,4,5,10,11] I)<|bp<|av 4 I<|aZ (aX (m) I) I<|aZ (aO I (o8 _ m (by omega))) I<|av 2 I<|bW (bP I (VW I) I (pf _ _ _ m (by omega)) I I ⟨by unfold maxLen;omega,by omega⟩) I<|aZ (aX (m) I) I<|bw (eh I (VJ I) I I I (by show m<(iQ _).length;simp[iQ];omega)) I I<|aF [1,3,10,11] I ?_;refine dM (MT (ep (bI T) n k).length m) (.cons 1 I Ren.pure<|.cons 3 I (Ren.own (i:=0) I)<|.cons 10 I Ren.pure<|.cons 11 I Ren.pure<|.nil) (CH 49 3 (ep (bI T) n k) m (by omega) (k:Int)) (ya _ _) I ?_;rw[<-vH (bI T) n k m hm a];refine aL (.v (aU I) I<|.a 1 I<|.k [1,3,10,11] I)<|⟨2*T.ah.length - (k+1),by omega,k+1,by omega,rfl,rfl⟩
 ·have c:k=2*T.ah.length:=by have:=Vj hc;omega
  subst c;exact bh<|aj (.a 2 I<|.k [2] I)<|aA<|jF I (CG _ _ _) rfl
theorem CD(T:aw)(m:Nat)(hm:m<T.nodes.toNat):(ep (bI T) T.nodes.toNat (2*T.ah.length)).getD m []=cw T m:=by
 rw[kQ _ _ _ _ hm];unfold cw jI;exact V1 (List.map Int.ofNat) (Yc λa _=>XV.2 (by simp))
theorem yb(rs:List (List Int))(i:Nat)(h:i<rs.length):(rs.map bm)[i]? =some (bm (rs.getD i [])):=by simp[h]
theorem No(T:aw)(D:List Bool)(s d:Int):dG T D [s,d]=c9 T D s d:=by
 unfold c9 dG;by_cases h:(aH T&&cf T D)=true
 ·rw[Vn h];by_cases hs:bZ T s=true<;>by_cases hd:bZ T d=true<;>simp[h,hs,hd]
 ·rw[Vk h];have:(aH T&&cf T D)=false:=by simpa using h
  simp[this]
noncomputable def lM(T:aw)(D:List Bool)(s d:Int):Int:=if c9 T D s d=0 then(if dN T D d.toNat s.toNat<0 then 11 else 0) else c9 T D s d
theorem Eh{T D}{m d j:Nat}(c:m≠d)(h0:0<=dN T D d m)(hj:j<(cw T m).length)(e:∀i,i<j->iR T D (bN T D d false) (dN T D d m) d ((cw T m).getD i 0).toNat=false)(hy:iR T D (bN T D d false) (dN T D d m) d ((cw T m).getD j 0).toNat=true):∃l,cA T D m d=(cw T m).getD j 0::l:=by
 unfold cA;rw[Vk (by rintro(h|h);exact c h;exact absurd h (by show ¬dN T D d m<0;omega))];have h1:((cw T m).take j).filter (λa=>iR T D (bN T D d false) (dN T D d m) d a.toNat)=[]:=by
  rw[List.filter_eq_nil_iff];intro a ha;obtain⟨i,hi,rfl⟩:=Xi ha;have b:i<j:=by rw[V8]at hi;omega
  have:=e i b;rw[Qo,Vm (by omega),WH]at this;rw[List.getElem_take,this];simp
 have hs:cw T m=(cw T m).take j++(cw T m).getD j 0::(cw T m).drop (j+1):=by rw[<-drop_cons _ _ hj,X1]
 have h2:(cw T m).filter (λa:Int=>iR T D (bN T D d false) (dN T D d m) d a.toNat)=(cw T m).getD j 0::((cw T m).drop (j+1)).filter (λa:Int=>iR T D (bN T D d false) (dN T D d m) d a.toNat):=by
  refine(V1 (List.filter λa:Int=>iR T D (bN T D d false) (dN T D d m) d a.toNat) hs).trans ?_;rw[WI,h1,WJ,W6,Vn hy]
 exact⟨_,h2⟩
theorem DJ{T D}{m d f:Nat}{a:Int}{l:List Int}(h:cA T D m d=a::l):jo T D d (f+1) m=a::jo T D d f (bx T a.toNat).toNat:=by simp only[jo,h]
theorem La{T:aw}{D}(hv:aH T=true){m d:Nat}(hm:(m:Int)<T.nodes)(hd:(d:Int)<T.nodes)(b:m≠d)(h0:0<=dN T D d m)(c:∀i,i<(cw T m).length->iR T D (bN T D d false) (dN T D d m) d ((cw T m).getD i 0).toNat=false):False:=by
 obtain⟨k,hk⟩:=rK (D:=D) hv hm hd b h0;have:=nJ hk ((bz hv).cost k hk.nu).1;unfold cA at this;rw[Vk (by rintro(h|h);exact b h;exact absurd h (by show ¬dN T D d m<0;omega))]at this;obtain⟨h1,h2⟩:=Wk.1 this;obtain⟨i,hi,he⟩:=Xi h1;have e:=c i hi;rw[Qo,Vm hi,WH,he]at e;have a:iR T D (bN T D d false) (dN T D d m) d (k:Int).toNat=true:=h2;rw[e]at a;cases a
theorem yo(T:aw)(D:List Bool)(s d:Int):Can prog 220 [bu T,aY D,num s,num d] (· =fx (lM T D s d) (eT T D s.toNat d.toNat)):=by
 have u:=sC T D [s,d] (by simp);rw[No]at u;refine aR func220 I ntmps220 I<|aj (.a 3 I<|.k [1,2,3,4] I)<|an<|aj (.a 5 I<|.c rfl (u) I<|.a 1 I<|.k [1,2,3,4,10] I)<|aj (.a 2 I<|.k [1,2,3,4,10,26] I)<|ak I (λhc=>?_) (λhc=>?_)
 ·have he:c9 T D s d≠0:=tt hc;exact aj (.a 3 I<|.k [8,9] I)<|aA<|jF I (Yi (Vp aQ.cg (Vp aQ.pure Wg))) (by unfold fx lM;rw[Vk he,Vk he];rfl)
 ·have he:c9 T D s d=0:=VQ (ff hc);obtain⟨hv,hf,U,S⟩:=iZ he;obtain⟨W,F⟩:=bY.1 U;obtain⟨N,o⟩:=bY.1 S;obtain⟨s,rfl⟩:=Vo W;obtain⟨d,rfl⟩:=Vo N;have O:Can prog 121 [bu T,aY D,num d] (· = .tuple [bm (bN T D d false),num 0]):=by
   have h:=uT T D (d:Int);rw[show dG T D [(d:Int)]=0 by unfold c9 at he;split at he;assumption;assumption]at h;exact h
  have hS:=bz hv;have hN:=hS.nodes;have af:=dy hv;obtain⟨ad,K⟩:=fi (D:=D) hv (dir:=false) o;refine ao<|aj (.a 3 I<|.c rfl (O) I<|.a 5 I<|.k [1,2,3,4,11] I)<|an<|aj (.a 2 I<|.v (aX (s) I) I<|.v (aO I (aS _ s (by omega))) I<|.a 1 I<|.k [1,2,3,4,11,39] I)<|ak I (λhc=>?_) (λhc=>?_)
  ·have h0:dN T D d s<0:=tt hc;exact aj (.a 2 I<|.k [8,9] I)<|aA<|jF I (Yi (Vp aQ.cg (Vp aQ.pure Wg))) (by unfold fx lM;simp only[Vi];rw[Vn he,Vn h0];rfl)
  ·have h0:0<=dN T D d s:=by have:=ff hc;show 0<=(bN T D d false).getD s 0;omega
   have hE:lM T D (s:Int) (d:Int)=0:=by unfold lM;simp only[Vi];rw[Vn he,Vk (by omega)]
   rw[hE];refine ao<|aj (.a 1 I<|.c rfl (o3 T hv) I<|.a 1 I<|.k [1,2,3,4,11,13] I)<|aj (.a 1 I<|.k [1,2,3,4,11,13,14] I)<|fe 14 3 1 I ?_;refine an<|aj (.a 2 I<|.k [1,3,4,11,13,14,15] I)<|ay<|eX [1,3,4,11,13,14,15] I<|bq (λr st=>∃(p:List Int) (m f:Nat),(m:Int)<T.nodes/\0<=dN T D d m/\dN T D d m<=f/\r=(dN T D d m).toNat/\(p.length:Int)+dN T D d m<=dN T D d s/\eT T D s d=p++jo T D d f m/\st=⟨[(1,aY D),(3,num d),(4,.cH (bJ T) 0),(11,bm (bN T D d false)),(13,mS (ep (bI T) T.nodes.toNat (2*T.ah.length))),(14,.own 0),(15,num m)],[some (.row 3 1 p.length (cb p))]⟩) (dN T D d s).toNat ⟨[],s,(dN T D d s).toNat,F,h0,by omega,rfl,by simp,rfl,rfl⟩ ?_;rintro r st ⟨p,m,f,hm,w,ag,rfl,ai,hp,rfl⟩;refine an<|aj (.a 3 I<|.k [1,3,4,11,13,14,15,45] I)<|ak I (λhy=>?_) (λhy=>?_)
   ·have x:m≠d:=by have:=tt hy;omega
    have R:m<(bN T D d false).length:=by omega
    have E:=CD T m (by omega);have aa:=(Sc (D:=D) hv o F).2;have ah:(cw T m).length<=512:=VL (fK T m _) (by omega);refine ao<|ay<|aj (.a 2 I<|.v (aX (m) I (by omega) (by rw[gv];omega)) I<|.v (aO I ((yb _ m (by rw[gv];omega)).trans (by rw[E]))) I<|.a 2 I<|.k [1,3,4,11,13,14,15,49,50,51] I)<|ay<|eX [1,3,4,11,13,14,15,49,50,51] I<|bq (λr st=>∃j:Nat,j<=(cw T m).length/\r=(cw T m).length - j/\(∀i,i<j->iR T D (bN T D d false) (dN T D d m) d ((cw T m).getD i 0).toNat=false)/\st=⟨[(1,aY D),(3,num d),(4,.cH (bJ T) 0),(11,bm (bN T D d false)),(13,mS (ep (bI T) T.nodes.toNat (2*T.ah.length))),(14,.own 0),(15,num m),(49,bm (cw T m)),(50,num (cw T m).length),(51,num j)],[some (.row 3 1 p.length (cb p))]⟩) (cw T m).length ⟨0,by omega,by omega,λi hi=>by omega,rfl⟩ ?_;rintro r st ⟨j,hj,rfl,g,rfl⟩;refine aj (.a 1 I<|.k [1,3,4,11,13,14,15,49,50,51,52] I)<|an<|ak I (λX=>?_) (λX=>?_)
    ·have hlt:j<(cw T m).length:=by have:=tt X;omega
     obtain⟨J,ab⟩:=mM (b9 (d:=0) hlt);obtain⟨a,ha⟩:=Vo J;have e:a<2*T.ah.length:=by omega
     obtain⟨y,k,G⟩:=fJ hv e;have t:y<(bN T D d false).length:=by omega
     have hh:=jq T a e (by omega);rw[k]at hh;have hD:D.length=0\/a<D.length:=by simp only[cf,VH]at hf;omega
     have⟨Y,z⟩:=dw (bO D a);have⟨Z,A⟩:=dw (decide ((bN T D d false).getD y 0<0));have⟨p3,B⟩:=dw (decide ((y:Int)≠(d:Int)));have⟨p4,C⟩:=dw (cW T y);have c:∀b,iR T D (bN T D d false) (dN T D d m) d ((cw T m).getD j 0).toNat=b↔(!((Y||Z)||(p3&&p4))&&decide ((bN T D d false).getD y 0+cr T a=dN T D d m))=b:=λb=>by
      unfold iR;rw[ha,Vi,k,Vi,z,A,B,C]
     refine ao<|an<|ay<|aj (.v (aX (j) I) I<|.v (aO I ((aS _ j hlt).trans (by rw[ha]))) I<|.a 1 I<|.k [1,3,4,11,13,14,15,17,49,50,51] I)<|aj (.a 2 I<|.c rfl (hh) I<|.a 1 I<|.k [1,3,4,11,13,14,15,17,18,49,50,51] I)<|an<|cD 77 (.raw (.bool ((Y||Z)||(p3&&p4)))) [1,3,4,11,13,14,15,17,18,49,50,51] I ?_ ?_
     ·refine .a 2 I<|.c rfl (z▸my D a hD) I<|.a 1 I<|?_;cases Y
      ·refine .a 2 I<|.v (aX (y) I) I<|.v (aO I (aS _ y t)) I<|.v (cT I (A)) I<|.a 2 I<|?_;cases Z
       ·refine .a 2 I<|.v (cT I (B)) I<|.a 1 I<|?_;cases p3
        ·exact .a 5 I<|.k [77,1,3,4,11,13,14,15,17,18,49,50,51] I
        ·exact .a 2 I<|.c rfl (C▸o6 T y (FK hv G)) I<|.a 2 I<|.k [77,1,3,4,11,13,14,15,17,18,49,50,51] I
       ·exact .a 9 I<|.k [77,1,3,4,11,13,14,15,17,18,49,50,51] I
      ·exact .a 16 I<|.k [77,1,3,4,11,13,14,15,17,18,49,50,51] I
     refine ak I (λhk=>?_) (λhk=>?_)
     ·have q:=(c false).2 (by rw[hk];rfl);refine bh<|aL (.v (aU I) I<|.a 1 I<|.k [1,3,4,11,13,14,15,49,50,51] I) ?_;refine⟨(cw T m).length - (j+1),by omega,j+1,by omega,rfl,λi hi=>?_,rfl⟩;by_cases h:i=j
      ·rw[h];exact q
      ·exact g i (by omega)
     ·skip
      refine ao ?_;have al:=K _ (b9 (d:=0) t);have ae:=hS.cost a e;refine ev mixed (by kernel_rfl) (.a 2 I<|.v [78,79] (aX (y) I) I I<|.v [80] (aO I (aS _ y t)) I I<|.a 2 I<|.v [82,83] (dW I (mv T a e)) I I<|.v [81,84] (aU I) I I<|.a 2 I<|.v [86,87] (aX (m) I) I I<|.v [88] (aO I (aS _ m R)) I I<|.a 1 I<|.k [1,3,4,11,13,14,15,17,18,49,50,51,90] I)<|ak I (λV=>?_) (λV=>?_)
      ·have H:=(c true).2 (by rw[hk];exact VM (tt V));obtain⟨l,hl⟩:=Eh x w hlt g H;obtain⟨b,hb,M⟩:=gW (T:=T) (D:=D) (n:=m) (d:=d) (a:=(cw T m).getD j 0) (by rw[hl];simp);have L:b=a:=by omega
       subst L;have P:=M.dN k;refine aK<|av 3 I<|bW (bP I (VW I) I I I I (by unfold maxLen;omega)) I<|av 1 I ?_;refine ft [1] (.c 1<|.c 3<|.c 4<|.c 11<|.c 13<|.c 14<|.c 18<|.nil) (.kept rfl (.eZ rfl (ed _ _))<|.nil) I I (bM ?_);refine aj (.a 2 I<|.k [1,3,4,11,13,14,15] I)<|bh ?_;cases f with
       |zero=>omega
       |succ f=>
        refine⟨(dN T D d y).toNat,by omega,p++[(b:Int)],y,f,G,P.1,by omega,rfl,by simp;omega,?_,by simp⟩;rw[hp,DJ hl,ha,Vi,k,Vi,VU]
        rfl
      ·have q:=(c false).2 (by rw[hk,Xy];exact .inr (VA (ff V)));refine ao<|aL (.v (aU I) I<|.a 1 I<|.k [1,3,4,11,13,14,15,49,50,51] I) ?_;refine⟨(cw T m).length - (j+1),by omega,j+1,by omega,rfl,λi hi=>?_,rfl⟩;by_cases h:i=j
       ·rw[h];exact q
       ·exact g i (by omega)
    ·exact absurd (La hv hm o x w (λi hi=>g i (by have:=ff X;omega))) (λh=>h)
   ·have Q:m=d:=by have:=ff hy;omega
    subst Q;have v:jo T D m f m=[]:=by cases f with|zero=>rfl|succ f=>simp only[jo,sO]
    rw[v,V6]at hp;exact bh<|aj (.a 3 I<|.k [8,9] I)<|aA<|jF I (Yi (Vp (Yw rfl W9) (Vp aQ.pure Wg))) (by unfold fx;rw[Vn rfl];simp only[Vi];rw[hp];rfl)
theorem B4(T:aw)(D:List Bool)(m d:Nat):(cA T D m d).Pairwise (· < ·):=by
 unfold cA;split
 ·exact List.Pairwise.nil
 ·exact(Cb T m).filter _
section
variable {P:Program} {σ:bH} {t:cd} {o:Oper}
theorem eE{src dst x}{k b:IntKind}{a c:Int}{ty}(ho:o.op= .convert src dst x)(hs:P.underlying src=some ty)(hd:P.underlying dst=some (.int b))(hx:aI t x=some (.raw (.int k a)))(hc:b.wrap a=c):bE P σ t o (.raw (.int b c)):=by
 intro F base E ρ w d _ hT;have h1:=aB d hT hx;generalize e:ρ x=z at h1;cases h1;have h2:(convert src dst (.int k a)).run P w= .ok (.int b c) w:=by
  simp[convert,Sem.run_bind,run_underlying hs,run_underlying hd,Conv.intToInt,hc]
 simp only[execOp,ho,e,Sem.run_bind,h2];exact bA (.raw _)
theorem PH{ty x f s k}{i:Nat}{c:UInt8}(ho:o.op= .index ty x f)(hu:P.underlying ty=some .string)(hx:aI t x=some (.raw (.string s)))(d:aI t f=some (.raw (.int k i)))(g:s[i]? =some c):bE P σ t o (.raw (.int .u8 c.toNat)):=by
 intro F base E ρ w b _ hT;have h1:=aB b hT hx;have a:=aB b hT d;generalize j:ρ x=z at h1;generalize e:ρ f=l at a;cases h1;cases a;have h2:(Instr.index ty (.string s) (.int k i)).run P w= .ok (.int .u8 c.toNat) w:=by
  have h:(asIntOf (.int k (i:Int))).run P w= .ok (k,(i:Int)) w:=rfl;simp[Instr.index,Sem.run_bind,run_underlying hu,g,h]
 simp only[execOp,ho,j,e,Sem.run_bind,h2];exact bA (.raw _)
theorem M8{N L:Nat}{x y st}{Q:Exit->St->Prop}{b}(h:W P N L (if b then x else y) st Q):W P N L (.cond (.const (.bool b)) x y) st Q:=λF base E₀ w₀ E a w c hs=>
 wp_cond_split (show a.eval (.const (.bool b))= .bool b from rfl) (λhb=>by subst hb;exact h F base E₀ w₀ E a w c hs) (λhb=>by subst hb;exact h F base E₀ w₀ E a w c hs)
end
theorem u8_in(c:UInt8):In64 (c.toNat:Int):=by have:=c.toNat_lt;unfold In64;omega
theorem RD(c:UInt8):In64 (0+(c.toNat:Int)):=by have:=c.toNat_lt;unfold In64;omega
theorem sf(n:Nat)(h:n<=255):IntKind.u8.wrap (n:Int)=(n:Int):=by rw[IntKind.wrap_u8];omega
def wA(a b:Int):Int:=if a<b then -1 else if b<a then 1 else 0
theorem xv(a:Int):Can prog 199 [num a] (· =flag false):=by
 exact aR func199 I ntmps199 I<|aj (.a 1 I<|.k [0] I)<|aj (.a 4 I<|.k [2] I)<|aA<|jF I aQ.pure (by simp;rfl)
theorem zb(a b:Int):Can prog 147 [num a,num b] (· =num (wA a b)):=by
 refine aR func147 I ntmps147 I<|aj (.a 1 I<|.k [0,1] I)<|aj (.a 1 I<|.c rfl (xv a) I<|.a 1 I<|.k [0,1,5] I)<|aj (.a 1 I<|.c rfl (xv b) I<|.a 1 I<|.k [0,1,5,6] I)<|an<|aj (.a 1 I<|.k [0,1,6,11] I)<|ak I (λhc=>?_) (λhc=>?_)
 ·cases hc
 ·refine ao<|an<|aj (.a 1 I<|.k [0,1,13] I)<|ak I (λhc=>?_) (λhc=>?_)
  ·cases hc
  ·refine ao<|an<|aj (.a 3 I<|.k [0,1,16] I)<|ak I (λhc=>?_) (λhc=>?_)
   ·have h1:a<b:=tt hc;exact aj (.a 1 I<|.k [4] I)<|aA<|jF I aQ.pure (by unfold wA;rw[Vn h1];rfl)
   ·have h1:¬a<b:=ff hc;refine ao<|an<|aj (.a 3 I<|.k [19] I)<|ak I (λhy=>?_) (λhy=>?_)
    ·have h2:b<a:=tt hy;exact aj (.a 1 I<|.k [4] I)<|aA<|jF I aQ.pure (by unfold wA;rw[Vk h1,Vn h2];rfl)
    ·have h2:¬b<a:=ff hy;exact ao<|aj (.a 1 I<|.k [4] I)<|aA<|jF I aQ.pure (by unfold wA;rw[Vk h1,Vk h2];rfl)
theorem Ri(a b:Int):Can prog 196 [.slice 2 [num a,num b]] (· =num (if a=0 then b else a)):=by
 refine aR func196 I ntmps196 I<|aj (.a 1 I<|.k [0] I)<|aj (.a 1 I<|.k [0,3] I)<|an<|aj (.a 3 I<|.k [3,6,7,8] I)<|ay<|eX [3,6,7,8] I<|bq (λr st=>∃j:Nat,j<=2/\r=2 - j/\(0<j->a=0)/\(1<j->b=0)/\st=⟨[(3,num 0),(6,.slice 2 [num a,num b]),(7,num 2),(8,num j)],[]⟩) 2 ⟨0,by omega,by omega,by omega,by omega,rfl⟩ ?_;rintro r st ⟨j,hj,rfl,ha,hb,rfl⟩;refine aj (.a 1 I<|.k [3,6,7,8,9] I)<|an<|ak I (λhc=>?_) (λhc=>?_)
 ·have hlt:j<2:=by have:=tt hc;omega
  obtain⟨v,hv,c⟩:∃v,[num a,num b][j]? =some (num v)/\v=(if j=0 then a else b):=by
   match j,hlt with
   |0,_=>exact⟨a,rfl,rfl⟩
   |1,_=>exact⟨b,rfl,rfl⟩
  refine ao<|an<|ay<|aj (.v (aX (j) I) I<|.v (aO I (hv)) I<|.a 1 I<|.k [3,5,6,7,8] I)<|aj (.a 3 I<|.k [3,5,6,7,8,14] I)<|ak I (λhy=>?_) (λhy=>?_)
  ·have h1:v≠0:=tt hy;refine aj (.a 2 I<|.k [2] I)<|aA<|⟨_,_,V5 I,aQ.pure,V1 num ?_⟩;by_cases h0:j=0
   ·rw[Vn h0]at c;rw[Vk (by omega)];exact c
   ·rw[Vk h0]at c;rw[Vn (ha (by omega))];exact c
  ·have h1:v=0:=VQ (ff hy);refine ao<|aL (.v (aU I) I<|.a 1 I<|.k [3,6,7,8] I) ?_;refine⟨2 - (j+1),by omega,j+1,by omega,rfl,λ_=>?_,λh=>?_,rfl⟩
   ·by_cases h0:j=0
    ·rw[Vn h0]at c;omega
    ·exact ha (by omega)
   ·rw[Vk (by omega)]at c;omega
 ·have d:j=2:=by have:=ff hc;omega
  refine bh<|aj (.a 2 I<|.k [2] I)<|aA<|⟨_,_,V5 I,aQ.pure,V1 num ?_⟩;rw[Vn (ha (by omega))];exact(hb (by omega)).symm
def Nq(L:List Int)(a b:Nat):Int:=if wA (L.getD b 0) (L.getD a 0)=0 then wA a b else wA (L.getD b 0) (L.getD a 0)
theorem JL(L:List Int)(a b:Nat)(ha:a<L.length)(hb:b<L.length):Can prog 238 [num a,num b,.cH [bm L] 0] (· =num (Nq L a b)):=by
 refine aR func238 I ntmps238 I<|aj (.a 1 I<|.k [0,1,2] I)<|ev mixed (by kernel_rfl) (.a 2 I<|.v [6,7] (aX (b) I) I I<|.v [8] (aO I (aS L b hb)) I I<|.a 2 I<|.v [10,11] (aX (a) I) I I<|.v [12] (aO I (aS L a ha)) I I<|.v [9,13] (dW I (zb _ _)) I I<|.a 2 I<|.v [15,16] (dW I (zb _ _)) I I<|.a 1 I<|.v [18] (dW I (Ri _ _)) I I<|.a 1 I<|.k [5] I) ?_;exact aA<|jF I aQ.pure rfl
def Q9(n:Nat):UInt8:=if n=0 then 0 else if n=1 then 1 else if n<4 then 2 else if n<8 then 3 else 4
theorem Hx(n:Nat)(hn:n<=12):Can prog 254 [.raw (.int .u64 n)] (· =num (Q9 n).toNat):=by
 refine aR func254 I ntmps254 I<|aj (.a 1 I<|.k [0,2] I)<|an<|aj (.a 1 I<|.v (Gh I I I I) I<|.k [0,2,4] I)<|ak I (λhc=>?_) (λhc=>?_)
 ·exact absurd (tt hc) (by omega)
 ·refine ao<|an<|aj (.a 1 I<|.v (Gh I I I I) I<|.k [0,2,8] I)<|ak I (λhc=>?_) (λhc=>?_)
  ·exact absurd (tt hc) (by omega)
  ·refine ao<|an<|aj (.a 1 I<|.v (Gh I I I I) I<|.k [0,2,14] I)<|ak I (λhc=>?_) (λhc=>?_)
   ·exact absurd (tt hc) (by omega)
   ·exact ao<|aj (.a 2 I<|.v (eE I Tryz.underlying221 Tryz.underlying5 rfl (sf n (by omega))) I<|.v (PH (c:=Q9 n) I Tryz.underlying9 rfl rfl (by rcases(show n=0\/n=1\/n=2\/n=3\/n=4\/n=5\/n=6\/n=7\/n=8\/n=9\/n=10\/n=11\/n=12 by omega)with h|h|h|h|h|h|h|h|h|h|h|h|h<;>subst h<;>rfl)) I<|.v (eE I Tryz.underlying5 Tryz.underlying3 rfl (l3 (u8_in _))) I<|.v (aU I (hn:=RD _)) I<|.a 1 I<|.k [2] I)<|aA<|jF I aQ.pure (by rw[Int.zero_add];rfl)
theorem Ob(n:Nat)(hn:n<=12):Can prog 232 [.raw (.int .u64 n)] (· =num (Q9 n).toNat):=by
 refine aR func232 I ntmps232 I<|aj (.a 1 I<|.k [0] I)<|an (M8 (b:=false) ?_);exact ao<|aj (.a 1 I<|.c rfl (Hx n hn) I<|.a 1 I<|.k [2] I)<|aA ⟨_,_,.cons (.tmp rfl) .nil,aQ.pure,rfl⟩
def wU(L:List Int)(x y:Int):Prop:=L.getD y.toNat 0<L.getD x.toNat 0\/(L.getD y.toNat 0=L.getD x.toNat 0/\x<=y)
theorem Gx{L:List Int}{x y z:Int}(h:wU L x y)(k:wU L y z):wU L x z:=by unfold wU at*;omega
theorem AX(L:List Int)(a b:Nat):Nq L a b<0↔¬wU L b a:=by
 unfold Nq wA wU;simp only[Vi];split<;>split<;>(try split)<;>omega
theorem QO(L:List Int){x y:Int}(h:¬wU L x y):wU L y x:=by unfold wU at*;omega
def Ins(L ys:List Int)(i j:Nat):Prop:=∀p q,p<q->q<=i->q≠j->wU L (ys.getD p 0) (ys.getD q 0)
def M3(L ys:List Int)(i:Nat):Prop:=∀p q,p<q->q<i->wU L (ys.getD p 0) (ys.getD q 0)
theorem M3.ins{L ys:List Int}{i:Nat}(h:M3 L ys i):Ins L ys i i:=λp q h1 h2 a=>h p q h1 (by omega)
theorem Ins.Sd{L ys:List Int}{i:Nat}(h:Ins L ys i 0):M3 L ys (i+1):=λp q h1 h2=>h p q h1 (by omega) (by omega)
theorem Ins.done{L ys:List Int}{i j:Nat}(h:Ins L ys i j)(hb:wU L (ys.getD (j - 1) 0) (ys.getD j 0)):M3 L ys (i+1):=λp q h1 h2=>by
 by_cases a:q=j
 ·subst a;by_cases hp:p=q - 1
  ·rw[hp];exact hb
  ·exact Gx (h p (q - 1) (by omega) (by omega) (by omega)) hb
 ·exact h p q h1 (by omega) a
theorem Ins.swap{L ys:List Int}{i j:Nat}(h:Ins L ys i j)(h0:0<j)(hj:j<=i)(hi:i<ys.length)(hb:¬wU L (ys.getD (j - 1) 0) (ys.getD j 0)):Ins L (Heap.eU ys j (j - 1)) i (j - 1):=λp q h1 h2 c=>by
 rw[Heap.eO ys j (j - 1) p (by omega) (by omega),Heap.eO ys j (j - 1) q (by omega) (by omega),Vk c];by_cases b:q=j
 ·rw[Vn b];by_cases hp:p=j - 1
  ·rw[Vn hp];exact QO L hb
  ·rw[Vk hp,Vk (by omega)];exact h p (j - 1) (by omega) (by omega) (by omega)
 ·rw[Vk b];by_cases hp:p=j - 1
  ·rw[Vn hp];exact h j q (by omega) h2 b
  ·rw[Vk hp];by_cases a:p=j
   ·rw[Vn a];exact h (j - 1) q (by omega) h2 b
   ·rw[Vk a];exact h p q h1 h2 b
theorem swap_perm(ys:List Int)(p q:Nat)(hp:p<ys.length)(a:q<ys.length):(Heap.eU ys p q).Perm ys:=by
 have:= @List.set_set_perm _ ys p q hp a;unfold Heap.eU;rw[Qo,Qo,Vm hp,Vm a];exact this
theorem M3.pair{L ys:List Int}(h:M3 L ys ys.length):ys.Pairwise (wU L):=by
 rw[W7];intro i j hi hj a;have:=h i j a hj;rw[Qo,Qo,Vm hi,Vm hj]at this;exact this
def gL(ys:List Int):Option cj:=some (.row 3 1 ys.length (cb ys))
abbrev Gz(L:List Int):PV:=.func 238 [.cH [bm L] 0]
theorem Hr(L xs:List Int)(c:Option cj)(hx:∀x∈xs,0<=x/\x<L.length)(hn:xs.length<=12):aD prog 267 [.own 1,num 0,num xs.length,Gz L] [c,gL xs] (λ_ σ'=>∃ys,ys.Perm xs/\ys.Pairwise (wU L)/\σ'=[c,gL ys]):=by
 refine aV func267 I ntmps267 I<|aj (.a 1 I<|.v (aU I) I<|.a 1 I<|.k [0,1,2,3,8] I)<|ay<|eX [0,1,2,3,8] I<|bq (λr st=>∃(ys:List Int) (i:Nat),ys.Perm xs/\0<i/\M3 L ys i/\r=13 - i/\st=⟨[(0,.own 1),(1,num 0),(2,num xs.length),(3,Gz L),(8,num i)],[c,gL ys]⟩) 12 ⟨xs,1,.refl _,by omega,λp q h1 h2=>by omega,rfl,rfl⟩ ?_;rintro r st ⟨ys,i,hp,B,hs,rfl,rfl⟩;have l:=hp.length_eq;refine an<|aj (.a 3 I<|.k [0,1,2,3,8,14] I)<|ak I (λhc=>?_) (λhc=>?_)
 ·have hlt:i<xs.length:=by have:=tt hc;omega
  refine ao<|an<|ay<|aj (.a 2 I<|.k [0,1,2,3,8,9] I)<|ay<|eX [0,1,2,3,8,9] I<|bq (λr st=>∃(ys:List Int) (j:Nat),ys.Perm xs/\j<=i/\Ins L ys i j/\r=j/\st=⟨[(0,.own 1),(1,num 0),(2,num xs.length),(3,Gz L),(8,num i),(9,num j)],[c,gL ys]⟩) i ⟨ys,i,hp,by omega,hs.ins,rfl,rfl⟩ ?_;clear hp hs l;rintro r st ⟨f,j,hp,o,hs,rfl,rfl⟩;have l:=hp.length_eq;refine an ?_;have⟨u,e⟩:=dw (decide ((0:Int)<(r:Int)));have vf:∀k,k<f.length->∃a:Nat,f.getD k 0=(a:Int)/\a<L.length:=λk hk=>by
   have h1:=hx _ (hp.mem_iff.1 (b9 (d:=0) hk));exact⟨(f.getD k 0).toNat,by omega,by omega⟩
  obtain⟨a,ha,m⟩:=vf r (by omega);obtain⟨b,hb,n⟩:=vf (r - 1) (by omega);have⟨v,g⟩:=dw (decide (Nq L a b<0));refine uG mixed (by kernel_rfl) 34 (.raw (.bool (u&&v))) [0,1,2,3,8,9] I ?_ ?_
  ·refine .a 2 I<|.v [18,19] (cT I (e)) I I<|.a 1 I<|?_;cases u
   ·exact .a 13 I<|.k [34,0,1,2,3,8,9] I
   ·exact .a 3 I<|.v [23,24] (aX (r) I) I I<|.v [25] (aO I ((aS f r (by omega)).trans (by rw[ha]))) I I<|.a 2 I<|.v [28] (aU I) I I<|.v [27,29] (aX ((r - 1)) I (by have:=tt e;omega) (by omega)) I I<|.v [30] (aO I ((aS f (r - 1) (by omega)).trans (by rw[hb]))) I I<|.v [22,26,31] (dW I (JL L a b m n)) I I<|.v [32] (cT I (g)) I I<|.a 1 I<|.k [34,0,1,2,3,8,9] I
  refine ak I (λhy=>?_) (λhy=>?_)
  ·obtain⟨c1,w⟩:=Wd.1 hy;rw[c1]at e;rw[w]at g;have s:0<r:=by have:=tt e;omega
   have h:=(AX L a b).1 (tt g);rw[<-ha,<-hb]at h;refine ao<|an<|ay<|dE 15 20 mixed (.val [0] I (aP I) I I<|.val [9] I (aP I) I I<|.late [0] I (o9 rfl rfl) inferInstance rfl rfl<|.late [9] I (o9 rfl rfl) inferInstance rfl rfl<|.late [40] I (Sz rfl rfl rfl rfl (by unfold In64;omega)) inferInstance rfl rfl<|.val [0] I (aP I) I I<|.val [9] I (aP I) I I<|.val [43] I (aU I) I I<|.val [42,44] I (aX ((r - 1)) I) I I<|.val [45] I (aO I ((aS f (r - 1) (by omega)).trans (by rw[hb]))) I I<|.val [0] I (aP I) I I<|.val [9] I (aP I) I I<|.val [47,48] I (aX (r) I) I I<|.val [49] I (aO I ((aS f r (by omega)).trans (by rw[ha]))) I I<|.val [37,38] I (aX (r) I) I I<|.nil) (by kernel_rfl) I I (aJ (ks:=[0,1,2,3,8,9,39,41,46,50,51]) I) ?_;refine bw (cK I (VJ I) I I I (by first|omega|(simp;omega))) I I<|aZ (aX ((r - 1)) I) I<|bw (cK I (VJ I) I I I (by first|omega|(simp;omega))) I I<|aF [0,1,2,3,8,9] I ?_;refine aL (.a 1 I<|.v (aU I) I<|.a 1 I<|.k [0,1,2,3,8,9] I)<|⟨r - 1,by omega,Heap.eU f r (r - 1),r - 1,(swap_perm f r (r - 1) (by omega) (by omega)).trans hp,by omega,hs.swap s o (by omega) h,rfl,?_⟩;unfold gL Heap.eU;rw[ha,hb,show((r - 1:Nat):Int)=(r:Int) - 1 by omega];simp only[VK]
   rfl
  ·have t:M3 L f (i+1):=by
    by_cases h0:r=0
    ·subst h0;exact hs.Sd
    ·refine hs.done ?_;rw[ha,hb];refine VQ λhn=>?_;have:=(AX L a b).2 hn;have y:u=true:=by rw[<-e];exact VM (by omega)
     have z:v=true:=by rw[<-g];exact VM this
     rw[y,z]at hy;cases hy
   refine bh<|aL (.a 1 I<|.v (aU I) I<|.a 1 I<|.k [0,1,2,3,8] I) ?_;exact⟨13 - (i+1),by omega,f,i+1,hp,by omega,t,rfl,rfl⟩
 ·have A:ys.length<=i:=by have:=ff hc;omega
  exact bh<|⟨_,V5 I,ys,hp,M3.pair (λp q h1 h2=>hs p q h1 (by omega)),rfl⟩
theorem OM(L xs:List Int)(c:Option cj)(k:Int)(hx:∀x∈xs,0<=x/\x<L.length)(hn:xs.length<=12):aD prog 257 [.own 1,num 0,num xs.length,num k,Gz L] [c,gL xs] (λ_ σ'=>∃ys,ys.Perm xs/\ys.Pairwise (wU L)/\σ'=[c,gL ys]):=by
 refine aV func257 I ntmps257 I<|aj (.a 1 I<|.k [0,1,2,3,4,10] I)<|aj (.a 1 I<|.k [0,1,2,3,4,10,11] I)<|ay<|bq (λr st=>st=⟨[(0,.own 1),(1,num 0),(2,num xs.length),(3,num k),(4,Gz L),(10,flag true),(11,flag true)],[c,gL xs]⟩) 0 I ?_;rintro r st rfl;refine ay<|aj (.a 2 I<|.v (aU I) I<|.a 1 I<|.k [0,1,2,3,4,10,11,12] I)<|an<|aj (.a 2 I<|.k [0,1,2,3,4,10,11,12,25] I)<|ak (b:=decide ((xs.length:Int) - 0<=12)) I (λ_=>?_) (λhc=>absurd (ff hc) (by omega));refine aK<|av 4 I<|br I I (VO (Hr L xs c hx hn) (λ_ σ' h=>?_));obtain⟨ys,h1,h2,rfl⟩:=h;refine aF [] I<|aA ⟨_,.nil,ys,h1,h2,rfl⟩
theorem IA(L xs:List Int)(c:Option cj)(hx:∀x∈xs,0<=x/\x<L.length)(hn:xs.length<=12):aD prog 237 [.own 1,Gz L] [c,gL xs] (λ_ σ'=>∃ys,ys.Perm xs/\ys.Pairwise (wU L)/\σ'=[c,gL ys]):=by
 have hw:IntKind.u64.wrap (xs.length:Int)=(xs.length:Int):=by rw[IntKind.wrap_u64];omega
 refine aV func237 I ntmps237 I<|aj (.a 3 I<|.k [0,1,4] I)<|bp<|av 3 I<|aZ (eE I Tryz.underlying3 Tryz.underlying271 rfl hw) I<|fW I (Ob xs.length hn) I<|av 1 I<|br I I (VO (OM L xs c _ hx hn) (λ_ σ' h=>?_));obtain⟨ys,h1,h2,rfl⟩:=h;refine aF [] I<|⟨_,V5 I,ys,h1,h2,rfl⟩
def sK(L:List Int)(i:Nat):List Int:=((List.range i).filter λk=>decide (0<=L.getD k 0)).map Int.ofNat
theorem Hk(L:List Int)(i:Nat):sK L (i+1)=sK L i++(if 0<=L.getD i 0 then [(i:Int)] else []):=by
 unfold sK;rw[WM,WI,Wu];congr 1;by_cases h:0<=L.getD i 0
 ·rw[Vn h,W6,Vn (by simpa using h)];rfl
 ·rw[Vk h,W6,Vk (by simpa using h)];rfl
theorem Bx(L:List Int)(i:Nat):(sK L i).length<=i:=by
 unfold sK;rw[Wf];exact VL (Wl _ _) (by simp)
theorem By{L:List Int}{i:Nat}{x:Int}:x∈sK L i↔∃k:Nat,x=(k:Int)/\k<i/\0<=L.getD k 0:=by
 unfold sK;simp only[Vv,Wk,VP,VH];constructor
 ·rintro⟨k,⟨h1,h2⟩,rfl⟩;exact⟨k,rfl,h1,h2⟩
 ·rintro⟨k,rfl,h1,h2⟩;exact⟨k,⟨h1,h2⟩,rfl⟩
theorem DT(L:List Int)(i:Nat):(sK L i).Nodup:=by
 unfold sK;have h1:(List.range i).Pairwise (· ≠ ·):=XR;refine List.Pairwise.map Int.ofNat (λa b h e=>h (by cases e;rfl)) (h1.filter _)
theorem EO(L cs:List Int)(hn:L.length<=12):aD prog 215 [bm L] [gL cs] (λr σ'=>∃ys,ys.Perm (sK L L.length)/\ys.Pairwise (wU L)/\r= .own 1/\σ'=[gL cs,gL ys]):=by
 refine aV func215 I ntmps215 I<|aj (.a 2 I<|.k [1] I)<|aj (.a 1 I<|.k [1,3] I)<|fe 3 3 1 I ?_;refine an<|aj (.a 3 I<|.k [1,3,6,7,8] I)<|ay<|eX [1,3,6,7,8] I<|bq (λr st=>∃i,i<=L.length/\r=L.length - i/\st=⟨[(1,.cH [bm L] 0),(3,.own 1),(6,bm L),(7,num L.length),(8,num i)],[gL cs,gL (sK L i)]⟩) L.length ⟨0,by omega,by omega,rfl⟩ ?_;rintro r st ⟨i,hi,rfl,rfl⟩;have c:=Bx L i;refine aj (.a 1 I<|.k [1,3,6,7,8,9] I)<|an<|ak I (λhc=>?_) (λhc=>?_)
 ·have hlt:i<L.length:=by have:=tt hc;omega
  have a:=Hk L i;refine ao<|an<|ay<|aj (.a 1 I<|.v (aX (i) I) I<|.v (aO I (aS L i hlt)) I<|.a 2 I<|.k [1,3,4,5,6,7,8] I)<|aj (.a 2 I<|.k [1,3,4,6,7,8,14] I)<|ak I (λhy=>?_) (λhy=>?_)
  ·have h0:0<=L.getD i 0:=tt hy;rw[Vn h0]at a;refine bp<|av 3 I<|bW (bP I (VW I) I I I I (by unfold maxLen;omega)) I<|av 1 I ?_;refine ft [0,2] (.c 1<|.c 3<|.c 6<|.c 7<|.c 8<|.nil) (.kept rfl (.row VT)<|.kept rfl (.eZ rfl (ed _ _))<|.nil) I I (bM ?_);refine aL (.v (aU I) I<|.a 1 I<|.k [1,3,6,7,8] I)<|⟨L.length - (i+1),by omega,i+1,by omega,rfl,?_⟩;rw[a];first
    |rfl
    |(simp only[gL,Vu,VR];rfl)
  ·have h0:¬0<=L.getD i 0:=ff hy;rw[Vk h0,V6]at a;refine ao<|aL (.v (aU I) I<|.a 1 I<|.k [1,3,6,7,8] I) ?_;refine⟨L.length - (i+1),by omega,i+1,by omega,rfl,?_⟩;rw[a];first
    |rfl
    |(simp only[gL,Vu,VR];rfl)
 ·have b:i=L.length:=by have:=ff hc;omega
  subst b;refine bh<|aK<|av 2 I<|br I I (VO (IA L (sK L L.length) (gL cs) (λx hx=>by obtain⟨k,rfl,h1,_⟩:=By.1 hx;omega) (by omega)) (λ_ σ' h=>?_));obtain⟨ys,h1,h2,rfl⟩:=h;refine aF [3] I<|aj (.a 2 I<|.k [2] I)<|aA<|⟨_,V5 I,ys,h1,h2,rfl,rfl⟩
theorem Cw(xs:List Int)(c:Option cj)(hn:xs.length<=12):aD prog 216 [.own 1] [c,gL xs] (λ_ σ'=>σ'=[c,gL xs.reverse]):=by
 refine aV func216 I ntmps216 I<|aj (.a 2 I<|.v (aU I) I<|.a 2 I<|.k [0,2,3] I)<|ay<|eX [0,2,3] I<|bq (λr st=>∃(ys:List Int) (i:Nat),ys.length=xs.length/\2*i<=xs.length+1/\(∀k,k<xs.length->ys.getD k 0=if k<i\/xs.length - i<=k then xs.getD (xs.length - 1 - k) 0 else xs.getD k 0)/\r=xs.length+1 - i/\st=⟨[(0,.own 1),(2,num i),(3,num ((xs.length:Int) - 1 - i))],[c,gL ys]⟩) (xs.length+1) ⟨xs,0,rfl,by omega,λk hk=>by rw[Vk (by omega)],by omega,by simp⟩ ?_;rintro r st ⟨ys,i,hl,hi,hk,rfl,rfl⟩;refine an<|aj (.a 3 I<|.k [0,2,3,9] I)<|ak I (λhc=>?_) (λhc=>?_)
 ·have hlt:2*i+1<xs.length:=by have:=tt hc;omega
  have⟨a,ha⟩:=dw (ys.getD i 0);have⟨b,hb⟩:=dw (ys.getD (xs.length - 1 - i) 0);refine ao<|an<|ay<|dE 13 20 mixed (.val [0] I (aP I) I I<|.val [2] I (aP I) I I<|.late [0] I (o9 rfl rfl) inferInstance rfl rfl<|.late [3] I (o9 rfl rfl) inferInstance rfl rfl<|.val [0] I (aP I) I I<|.val [3] I (aP I) I I<|.val [18,19] I (aX ((xs.length - 1 - i)) I) I I<|.val [20] I (aO I ((aS ys (xs.length - 1 - i) (by omega)).trans (by rw[hb]))) I I<|.val [0] I (aP I) I I<|.val [2] I (aP I) I I<|.val [22,23] I (aX (i) I) I I<|.val [24] I (aO I ((aS ys i (by omega)).trans (by rw[ha]))) I I<|.val [14,15] I (aX (i) I) I I<|.nil) (by kernel_rfl) I I (aJ (ks:=[0,2,3,16,17,21,25,26]) I) ?_;refine bw (cK I (VJ I) I I I (by first|omega|(simp;omega))) I I<|aZ (aX ((xs.length - 1 - i)) I) I<|bw (cK I (VJ I) I I I (by first|omega|(simp;omega))) I I<|aF [0,2,3] I ?_;refine aL (.a 1 I<|.v (aU I) I<|.a 1 I<|.v (aU I) I<|.a 2 I<|.k [0,2,3] I)<|⟨xs.length+1 - (i+1),by omega,Heap.eU ys i (xs.length - 1 - i),i+1,by rw[Heap.i7];exact hl,by omega,λk e=>?_,rfl,?_⟩
  ·rw[Heap.eO ys i (xs.length - 1 - i) k (by omega) (by omega)];by_cases h1:k=xs.length - 1 - i
   ·rw[Vn h1,Vn (by omega),hk i (by omega),Vk (by omega),h1,show xs.length - 1 - (xs.length - 1 - i)=i by omega]
   ·rw[Vk h1];by_cases h2:k=i
    ·rw[Vn h2,Vn (by omega),hk _ (by omega),Vk (by omega),h2]
    ·rw[Vk h2,hk k e];by_cases d:k<i\/xs.length - i<=k
     ·rw[Vn d,Vn (by omega)]
     ·rw[Vk d,Vk (by omega)]
  ·unfold gL Heap.eU;rw[ha,hb,show(xs.length:Int) - 1 - ((i+1:Nat):Int)=(xs.length:Int) - 1 - i - 1 by omega];simp only[VK]
   rfl
 ·have j:¬2*i+1<xs.length:=by have:=ff hc;omega
  refine bh<|⟨_,V5 I,?_⟩;have:ys=xs.reverse:=by
   refine XG (by simp[hl]) λk h1 h2=>?_;have d:=hk k (by omega);rw[List.getElem_reverse];have f:ys.getD k 0=ys[k]:=by simp[h1]
   have g:xs.getD (xs.length - 1 - k) 0=xs[xs.length - 1 - k]:=by rw[Qo,Vm (by omega)];rfl
   by_cases h:k<i\/xs.length - i<=k
   ·rw[Vn h,f,g]at d;exact d
   ·rw[Vk h,f]at d;rw[d,<-g,show xs.length - 1 - k=k by omega]
  rw[this]
def Nn(a:Nat):PV:=.raw (.int .u8 (a:Int))
section
variable {P:Program} {σ:bH} {t:cd} {o:Oper}
theorem wrap_small{a:Nat}(h:a<256):IntKind.i64.wrap (a:Int)=(a:Int):=by
 have h1:(a:Int) % 18446744073709551616=(a:Int):=by omega
 have h2:¬(9223372036854775808<=(a:Int)):=by omega
 show(if(true&&decide ((a:Int) % 18446744073709551616>=9223372036854775808))=true then(a:Int) % 18446744073709551616 - 18446744073709551616 else(a:Int) % 18446744073709551616)=a;rw[h1,WB,Vk (by rw[VH];exact h2)]
end
open Go.WideShapes Go.ChangeShapes
section
variable {H:Type} {enc:TypeId×Value->H} {W:World}
end
end
section
open Go.RowKit cm Mem
section
variable {P:Program} {N L f:Nat} {ops:Array Oper} {Φ:ux} {T t:cd} {Ss:List bH} {J ks0 kf:List Nat} {R:List (Nat×Nat)} {o:Oper} {i a m k:Nat} {σ σ':bH} {p:PV} {d:Nat}
def U5(d:Option Nat)(p:PV)(t:cd):cd:=match d with
 |some d=>(d,p)::t
 |none=>t
def UX(P:Program)(N L:Nat)(T:cd)(Ss:List bH)(o:Oper)(t:cd)(k m:Nat):Prop:=∃σ σ' p,Ss[k]? =some σ/\Ss[m]? =some σ'/\(∀d,o.dst=some d->look d T=some p)/\∀t2,(∀s v,look s t=some v->look s t2=some v)->∀K:St->Prop,K ⟨U5 o.dst p t2,σ'⟩->WR P N L [o].toArray [o] ⟨t2,σ⟩ K
def UU(N:Nat)(T:cd)(Ss:List bH)(o:Oper)(k:Nat):Option (bH×Nat×PV):=match Ss[k]?,o.guard,o.dst with
 |some σ,none,some d=>bif Nat.blt d N then(match look d T with
  |some p=>some (σ,d,p)
  |none=>none) else none
 |_,_,_=>none
theorem UM(h:UU N T Ss o k=some (σ,d,p)):Ss[k]? =some σ/\o.guard=none/\o.dst=some d/\Nat.blt d N=true/\look d T=some p:=by
 unfold UU at h;split at h
 ·rename_i h1 h2 b;rw[VZ]at h;split at h
  ·rename_i c;split at h
   ·rename_i e;cases h;exact⟨h1,h2,b,c,e⟩
   ·cases h
  ·cases h
 ·cases h
theorem UI(h:o.guard=none)(t:cd):eL [o].toArray t o=some true:=by unfold eL;rw[h]
theorem UE(h:UU N T Ss o k=some (σ,d,p))(hy:bE P σ t o p):UX P N L T Ss o t k k:=by
 obtain⟨h1,h2,b,j,l⟩:=UM h;refine⟨σ,σ,p,h1,h1,λe he=>by rw[b]at he;cases he;exact l,λt2 q K g=>dA (λF base E ρ w c n hT=>hy F base E ρ w c n λs v hv=>hT s v (q s v hv)) b (UI h2 t2) j (bM ?_)⟩;rw[b]at g;exact g
theorem UY(h:UU N T Ss o k=some (σ,d,p))(hy:de P σ t o p σ')(hs:Ss[m]? =some σ'):UX P N L T Ss o t k m:=by
 obtain⟨h1,h2,b,j,l⟩:=UM h;refine⟨σ,σ',p,h1,hs,λe he=>by rw[b]at he;cases he;exact l,λt2 q K g=>eu (λF base E ρ w c n hT=>hy F base E ρ w c n λs v hv=>hT s v (q s v hv)) b (UI h2 t2) j (bM ?_)⟩;rw[b]at g;exact g
theorem UW(h1:Ss[k]? =some σ)(h2:o.guard=none)(b:o.dst=none)(hy:de P σ t o p σ')(hs:Ss[m]? =some σ'):UX P N L T Ss o t k m:=by
 refine⟨σ,σ',p,h1,hs,(λe he=>by rw[b]at he;cases he),λt2 j K g=>bw (λF base E ρ w c h hT=>hy F base E ρ w c h λs v hv=>hT s v (j s v hv)) b (UI h2 t2) (bM ?_)⟩;rw[b]at g;exact g
theorem UR{t2}(b:∀s v,look s t=some v->look s t2=some v):∀ {x p},aI t x=some p->aI t2 x=some p
 | .tmp _,_,h=>b _ _ h
 | .const _,_,h=>h
 | .global _,_,h=>h
 | .func _,_,h=>h
theorem UQ{t2}(b:∀s v,look s t=some v->look s t2=some v):∀ {l ps},j6 t l=some ps->j6 t2 l=some ps
 | [],_,h=>h
 |x::l,ps,h=>by
  unfold j6 at h ⊢;split at h
  ·rename_i h1 h2;rw[UR b h1,UQ b h2];exact h
  ·cases h
theorem UH[y:Has P Φ]{g:Nat}{ps}(h:UU N T Ss o k=some (σ,d,p))(z:oQ Φ t o.op=some (g,ps))(hc:aD P g ps σ (λr s=>r=p/\s=σ'))(hs:Ss[m]? =some σ'):UX P N L T Ss o t k m:=by
 obtain⟨h1,h2,b,v,w⟩:=UM h;obtain⟨x,l,u,cap,A,ho,c,hx,ha,rfl⟩:=kV y.ok z;refine⟨σ,σ',p,h1,hs,λe he=>by rw[b]at he;cases he;exact w,λt2 q K n=>Jg ho c (UR q hx) (UQ q ha) b (UI h2 t2) v (VO hc λr s j=>?_)⟩;obtain⟨rfl,rfl⟩:=j;rw[b]at n;exact bM n
theorem Va[b:Has P Φ](h:UU N T Ss o k=some (σ,d,p))(ha:iM Φ σ t o.op=some p):UX P N L T Ss o t k k:=UE h (aP ha)
def QK(P:Program)(N L:Nat)(T:cd)(Ss:List bH)(o:Oper)(t:cd):Nat->Nat->Prop
 |_,0=>True
 |a,n+1=>UX P N L T Ss o t a a/\QK P N L T Ss o t (a+1) n
theorem QK.get:∀ {n a:Nat},QK P N L T Ss o t a n->∀k,a<=k->k<a+n->UX P N L T Ss o t k k
 |0,_,_,k,h1,h2=>by omega
 |n+1,a,h,k,h1,h2=>by
  by_cases e:k=a
  ·subst e;exact h.1
  ·exact QK.get h.2 k (by omega) (by omega)
theorem UL(h:UX P N L T Ss o t a a):QK P N L T Ss o t a 1:=⟨h,trivial⟩
theorem U7{n:Nat}(h:UX P N L T Ss o t a a)(hs:QK P N L T Ss o t (a+1) n):QK P N L T Ss o t a (n+1):=⟨h,hs⟩
def Vd(ops:Array Oper)(f:Nat)(ks0:List Nat)(i:Nat):Bool:=(fk ops i).all λs=>ks0.contains s||(List.range i).any λj=>fL ops f i j&&(cY ops j==some s)
def U0(ops:Array Oper)(f:Nat)(ks0 kf J:List Nat)(R:List (Nat×Nat)):Bool:=
 gd J&&(J.all λj=>decide (j<ops.size))&&(kf.all λs=>ks0.contains s||(List.range ops.size).any λj=>cY ops j==some s)&&
 (List.range ops.size).all λi=>((oH ops i).all λk=>decide (k<i))&&Vd ops f ks0 i&&(match R[i]? with
  |some (a,n)=>Nat.ble a (J.countP λj=>fL ops f i j)&&Nat.ble ((J.countP λj=> !(Nat.beq j i||fL ops f j i))+1) (a+n)
  |none=>false)
def Vc(P:Program)(N L:Nat)(T:cd)(Ss:List bH)(ops:Array Oper)(J:List Nat)(R:List (Nat×Nat))(i:Nat):Prop:=∃o a n t,ops[i]? =some o/\o.guard=none/\R[i]? =some (a,n)/\lj T (fk ops i)=some t/\∀k,a<=k->k<a+n->UX P N L T Ss o t k (if J.contains i then k+1 else k)
def OL(P:Program)(N L:Nat)(T:cd)(Ss:List bH)(ops:Array Oper)(J:List Nat)(R:List (Nat×Nat))(i:Nat):Prop:=∀j,i<=j->j<ops.size->Vc P N L T Ss ops J R j
def U6(T:cd)(ops:Array Oper)(J:List Nat)(R:List (Nat×Nat))(i:Nat):Option (Oper×cd×Nat×Nat×Bool):=match ops[i]?,R[i]?,lj T (fk ops i)with
 |some o,some (a,n),some t=>(match o.guard with
  |none=>some (o,t,a,n,J.contains i)
  |some _=>none)
 |_,_,_=>none
theorem US{n:Nat}{b}(h:U6 T ops J R i=some (o,t,a,n,b)):ops[i]? =some o/\o.guard=none/\R[i]? =some (a,n)/\lj T (fk ops i)=some t/\J.contains i=b:=by
 unfold U6 at h;split at h
 ·rename_i h1 h2 c;split at h
  ·rename_i e;cases h;exact⟨h1,e,h2,c,rfl⟩
  ·cases h
 ·cases h
theorem UT(h:Nat.ble ops.size i=true):OL P N L T Ss ops J R i:=λj h1 h2=>by have:=Nat.ble_eq.mp h;omega
theorem Ve(h:Vc P N L T Ss ops J R i)(hs:OL P N L T Ss ops J R (i+1)):OL P N L T Ss ops J R i:=λj h1 h2=>by
 by_cases e:j=i
 ·subst e;exact h
 ·exact hs j (by omega) h2
theorem UK{n:Nat}(h:U6 T ops J R i=some (o,t,a,n,false))(g:QK P N L T Ss o t a n)(hs:OL P N L T Ss ops J R (i+1)):OL P N L T Ss ops J R i:=Ve (by
 obtain⟨h1,h2,b,c,e⟩:=US h;exact⟨o,a,n,t,h1,h2,b,c,λk k1 j=>by rw[e];exact g.get k k1 j⟩) hs
theorem UN(h:U6 T ops J R i=some (o,t,a,1,true))(j:UX P N L T Ss o t a (a+1))(hs:OL P N L T Ss ops J R (i+1)):OL P N L T Ss ops J R i:=Ve (by
 obtain⟨h1,h2,b,c,g⟩:=US h;exact⟨o,a,1,t,h1,h2,b,c,λk k1 l=>by
  have e:k=a:=by omega
  subst e;rw[g];exact j⟩) hs
def U9(Φ:ux)(N:Nat)(T:cd)(Ss:List bH)(o:Oper)(t:cd):Nat->Nat->Option (List PV×List PV)
 |_,0=>some ([],[])
 |a,n+1=>match UU N T Ss o a with
  |some (σ,_,p)=>(match iM Φ σ t o.op,U9 Φ N T Ss o t (a+1) n with
   |some q,some (l,r)=>some (p::l,q::r)
   |_,_=>none)
  |none=>none
theorem UZ[j:Has P Φ]:∀ {n a:Nat} {l},U9 Φ N T Ss o t a n=some (l,l)->QK P N L T Ss o t a n
 |0,_,_,_=>trivial
 |n+1,a,l,h=>by
  unfold U9 at h;split at h
  ·rename_i σ d p h1;split at h
   ·rename_i q u v h2 g;obtain⟨e1,b⟩:=Prod.mk.inj (XA h);subst e1;obtain⟨c,e⟩:=W4 b;subst c e;exact⟨Va h1 h2,UZ g⟩
   ·cases h
  ·cases h
def Vb(Φ:ux)(N:Nat)(T:cd)(Ss:List bH)(ops:Array Oper)(J:List Nat)(R:List (Nat×Nat)):Nat->Nat->Option (List (List PV)×List (List PV))
 |0,_=>some ([],[])
 |m+1,i=>match U6 T ops J R i with
  |some (o,t,a,n,false)=>(match U9 Φ N T Ss o t a n,Vb Φ N T Ss ops J R m (i+1)with
   |some (p,q),some (l,r)=>some (p::l,q::r)
   |_,_=>none)
  |_=>none
theorem UG[j:Has P Φ]:∀(m:Nat) {i:Nat} {l},Vb Φ N T Ss ops J R m i=some (l,l)->OL P N L T Ss ops J R (i+m)->OL P N L T Ss ops J R i
 |0,_,_,_,hs=>hs
 |m+1,i,l,h,hs=>by
  unfold Vb at h;split at h
  ·rename_i o t a n h1;split at h
   ·rename_i p q u v h2 g;obtain⟨e1,b⟩:=Prod.mk.inj (XA h);subst e1;obtain⟨c,e⟩:=W4 b;subst c e;exact UK h1 (UZ h2) (UG m g (by rw[Xk,YJ 1 m];exact hs))
   ·cases h
  ·cases h
theorem UJ:∀ {ks:List Nat} {u},lj T ks=some u->∀s v,look s u=some v->s∈ks/\look s T=some v
 | [],u,h,s,v,hv=>by cases h;cases hv
 |k::ks,u,h,s,v,hv=>by
  simp only[lj]at h;split at h
  ·rename_i p hp;split at h
   ·rename_i r hr;cases h;simp only[look]at hv;rw[VZ]at hv;split at hv
    ·rename_i he;have he:=VF he;subst he;cases hv;exact⟨VC ..,hp⟩
    ·obtain⟨h1,h2⟩:=UJ hr s v hv;exact⟨VB _ h1,h2⟩
   ·cases h
  ·cases h
theorem UO:∀ {ks:List Nat} {u},lj T ks=some u->∀s∈ks,∀v,look s T=some v->look s u=some v
 | [],u,h,s,hs,v,hv=>by cases hs
 |k::ks,u,h,s,hs,v,hv=>by
  simp only[lj]at h;split at h
  ·rename_i p hp;split at h
   ·rename_i r hr;cases h;simp only[look];rw[VZ];split
    ·rename_i he;have he:=VF he;subst he;rw[hp]at hv;exact hv
    ·rename_i he;rcases V9.1 hs with rfl|h1
     ·exact absurd (Yg s) he
     ·exact UO hr s h1 v hv
   ·cases h
  ·cases h
theorem UP:∀ {l:List Nat},gd l=true->l.Nodup
 | [],_=>YZ
 |x::l,h=>by
  simp only[gd,Vx,WG]at h;exact Wv.2 ⟨(λhm=>by have h1:=h.1;rw[Yr.2 hm]at h1;cases h1),UP h.2⟩
theorem count_set{ls:Array Bool}(hi:i<ls.size)(h2:ls.getD i true=false):∀ {J:List Nat},J.Nodup->J.countP (λj=>(ls.setIfInBounds i true).getD j false)=(J.countP λj=>ls.getD j false)+if J.contains i then 1 else 0
 | [],_=>rfl
 |x::J,hn=>by
  obtain⟨hx,hn⟩:=Wv.1 hn;have ih:=count_set hi h2 hn;rw[List.countP_cons,List.countP_cons,ih];by_cases e:i=x
  ·subst e;have b:(ls.setIfInBounds i true).getD i false=true:=by simp[hi]
   have g:ls.getD i false=false:=by
    simp only[Vz]at h2 ⊢;simp[hi]at h2 ⊢;exact h2
   have c:J.contains i=false:=by
    cases hc:J.contains i with
    |false=>rfl
    |true=>exact absurd (Yr.1 hc) hx
   rw[b,g,c];simp
  ·have b:(ls.setIfInBounds i true).getD x false=ls.getD x false:=by simp only[Vz,VD e]
   have c:(x::J).contains i=J.contains i:=by
    rw[List.contains_cons,show(i==x)=false from beq_eq_false_iff_ne.2 e,Bool.false_or]
   rw[b,c];omega
theorem U8{K:St->Prop}(hc:U0 ops f ks0 kf J R=true)(h:OL P N L T Ss ops J R 0)(U:Ss[J.length]? =some σ')(hK:∀t2,(∀s v,look s T=some v->(ks0.contains s=true\/∃j,j<ops.size/\cY ops j=some s)->look s t2=some v)->K ⟨t2,σ'⟩):
  ∀(n:Nat) (ls:Array Bool) (t:cd) (σ:bH),ls.size=ops.size->Down ops ls->bX ls ops.size=n->Ss[J.countP λj=>ls.getD j false]? =some σ->(∀s v,look s T=some v->(ks0.contains s=true\/∃j,ls.getD j false=true/\cY ops j=some s)->look s t=some v)->WA P N L ops n ls ⟨t,σ⟩ K:=by
 unfold U0 at hc;simp only[Vx,VG,VH,VP]at hc;obtain⟨⟨⟨c1,y⟩, -⟩,W⟩:=hc;have S:=UP c1;have g:∀i,i<ops.size->∀k∈oH ops i,k<i:=λi hi k hk=>(W i hi).1.1 k hk;intro n;induction n with
 |zero=>
  intro ls t σ r hd hu u hT;have x:∀b c (i:Nat),i<ops.size->ls.getD i b=ls.getD i c:=λb c i hi=>by simp[show i<ls.size by omega]
  have l:=dO hu;have hcnt:(J.countP λj=>ls.getD j false)=J.length:=List.countP_eq_length.2 λj hj=>by rw[x false true j (y j hj)];exact l j (y j hj)
  rw[hcnt,U]at u;cases u;refine qp (XM.2 λi hi=>?_) (hK t λs v hv E=>hT s v hv (E.imp id λ⟨j,hj,he⟩=>⟨j,by rw[x false true j hj];exact l j hj,he⟩));obtain⟨h1,h2,_⟩:=dh.1 hi;rw[l i h1]at h2;cases h2
 |succ n ih=>
  intro ls t σ r hd hu u hT;have x:∀b c (i:Nat),i<ops.size->ls.getD i b=ls.getD i c:=λb c i hi=>by simp[show i<ls.size by omega]
  obtain⟨i0,A,H,M⟩:=iw (ls:=ls) (m:=ops.size) (by omega);have B:i0∈Region.ready .any ops ls:=dh.2 ⟨A,H,λk hk=>by
   have:=g i0 A k hk;rw[x false true k (by omega)];exact M k this⟩
  refine⟨λh0=>absurd B (by rw[h0];simp),λi hi=>?_⟩;obtain⟨h1,h2,F⟩:=dh.1 hi;obtain⟨o,a,m,t1,ho,hg,hR,V,hk⟩:=h i (We _) h1;obtain⟨⟨_,X⟩,D⟩:=W i h1;rw[hR]at D;simp only[Vx]at D;have ad:(J.countP λj=>fL ops f i j)<=J.countP λj=>ls.getD j false:=List.countP_mono_left λj hj hr=>eK r hd g f i j h1 hr F;have aa:(J.countP λj=>ls.getD j false)<=J.countP λj=> !(Nat.beq j i||fL ops f j i):=List.countP_mono_left λj hj hr=>by
   have hr:ls.getD j false=true:=hr;have C:ls.getD j true=true:=by rw[x true false j (y j hj)];exact hr
   have n1:Nat.beq j i=false:=by
    cases hb:Nat.beq j i with
    |false=>rfl
    |true=>
     have:=VF hb;subst this;rw[C]at h2;cases h2
   have n2:fL ops f j i=false:=by
    cases hb:fL ops f j i with
    |false=>rfl
    |true=>
     have:=eK r hd g f j i (y j hj) hb (hd j C (y j hj));rw[x false true i h1,h2]at this;cases this
   rw[n1,n2];rfl
  have b1:=Wy D.1;have b2:=Wy D.2;obtain⟨ae,af,p,Y,w,Z,e4⟩:=hk (J.countP λj=>ls.getD j false) (by omega) (by omega);rw[u]at Y;cases Y;refine⟨o,ho,hg,e4 t (λs v hv=>?_) _ ?_⟩
  ·obtain⟨k1,k2⟩:=UJ V s v hv;refine hT s v k2 ?_;unfold Vd at X;have:=VG.1 X s k1;simp only[Xf,Xo,VP,Vx]at this;refine this.imp id λ⟨j,hj,hr,he⟩=>⟨j,eK r hd g f i j h1 hr F,eq_of_beq he⟩
  ·refine ih _ _ _ (by simpa using r) (λj hj O k hk=>?_) (by have:=iy h2 h1 (by omega);omega) ?_ (λs v hv E=>?_)
   ·by_cases e:i=j
    ·subst e;have ab:=g i h1 k hk;have:=F k hk;simp only[Vz,VD (show i≠k by omega)]at this ⊢;exact this
    ·have Q:ls.getD j true=true:=by
      simp only[Vz,VD e]at hj ⊢;exact hj
     have:=hd j Q O k hk;by_cases w:i=k
     ·subst w;simp[show i<ls.size by omega]
     ·simp only[Vz,VD w]at this ⊢;exact this
   ·rw[count_set (by omega) h2 S];split at w
    ·rename_i G;rw[Vn G];exact w
    ·rename_i G;rw[Vk G];exact w
   ·have z:cY ops i=o.dst:=by unfold cY;rw[ho];rfl
    have hold:(ks0.contains s=true\/∃j,ls.getD j false=true/\cY ops j=some s)->look s t=some v:=hT s v hv;unfold U5;cases q:o.dst with
    |none=>
     refine hold (E.imp id λ⟨j,hj,he⟩=>?_);by_cases e:i=j
     ·subst e;rw[z,q]at he;cases he
     ·simp only[Vz,VD e]at hj ⊢;exact⟨j,hj,he⟩
    |some d=>
     simp only[look];rw[VZ];split
     ·rename_i hb;have hb:=VF hb;subst hb;rw[Z s q]at hv;exact hv
     ·rename_i hb;refine hold (E.imp id λ⟨j,hj,he⟩=>?_);by_cases e:i=j
      ·subst e;rw[z,q]at he;cases he;exact absurd (Yg s) hb
      ·simp only[Vz,VD e]at hj ⊢;exact⟨j,hj,he⟩
theorem U1(n:Nat):∀k,k<=n->bX (Array.replicate n false) k=k
 |0,_=>rfl
 |k+1,h=>by
  simp only[bX];rw[U1 n k (by omega),gI _ _ (by omega)];simp
theorem U3{n:Nat}{ls t'}(ks0 kf J:List Nat)(R:List (Nat×Nat))(T:cd)(Ss:List bH)(f:Nat)(hc:U0 ops f ks0 kf J R=true)(h0:lj T ks0=some t)(hs:Ss[0]? =some σ)(u:lj T kf=some t')(g:Ss[J.length]? =some σ')(h:OL P N L T Ss ops J R 0)(hn:ops.size=n)(hl:ls=Array.replicate n false):WA P N L ops n ls ⟨t,σ⟩ (λs=>s.σ=σ'/\Sub s.t t'):=by
 subst hl;have c:∀i b,i<n->(Array.replicate n false).getD i b=false:=λi b hi=>gI _ _ hi _;have l:∀j,(Array.replicate n false).getD j false=false:=λj=>by
  by_cases hj:j<n
  ·exact c j _ hj
  ·simp[hj]
 have q:∀t2,(∀s v,look s T=some v->(ks0.contains s=true\/∃j,j<ops.size/\cY ops j=some s)->look s t2=some v)->(⟨t2,σ'⟩:St).σ=σ'/\Sub (⟨t2,σ'⟩:St).t t':=λt2 h2=>⟨rfl,λs v hv=>by
  obtain⟨k1,w⟩:=UJ u s v hv;refine⟨v,h2 s v w ?_,WK v⟩;unfold U0 at hc;simp only[Vx]at hc;have:=VG.1 hc.1.2 s k1;simp only[Xf,Xo,VP]at this;exact this.imp id λ⟨j,hj,he⟩=>⟨j,hj,eq_of_beq he⟩⟩
 have a2:Down ops (Array.replicate n false):=λi hi r=>by rw[c i _ (by omega)]at hi;cases hi
 have a3:Ss[J.countP λj=>(Array.replicate n false).getD j false]? =some σ:=by
  rw[List.countP_eq_zero.2 λj _=>by rw[l j];simp];exact hs
 refine U8 hc h g q n _ t σ (by simp[hn]) a2 (by rw[hn];exact U1 n _ (Vh _)) a3 λs v hv e=>?_;rcases e with e|⟨j,hj,_⟩
 ·exact UO h0 s (Yr.1 e) v hv
 ·rw[l j]at hj;cases hj
theorem UD{l:List Oper}{t'}(ks0 kf J:List Nat)(R:List (Nat×Nat))(T:cd)(Ss:List bH)(f:Nat)(hc:U0 l.toArray f ks0 kf J R=true)(h0:lj T ks0=some t)(hs:Ss[0]? =some σ)(c:lj T kf=some t')(b:Ss[J.length]? =some σ')(h:OL P N L T Ss l.toArray J R 0):WA P N L l.toArray l.length (Array.replicate l.length false) ⟨t,σ⟩ (λs=>s.σ=σ'/\Sub s.t t'):=U3 ks0 kf J R T Ss f hc h0 hs c b h (by simp) I
end
structure jK (P:Program) (kt:TypeId) {κ:Type} [DecidableEq κ] (enc:κ->Value):Prop where
 qv:∀e a w,(Instr.checkKey e 10000 kt (enc a)).run P w= .ok () w
 eql:∀a b w,(Op.equal kt (enc a) (enc b)).run P w= .ok (decide (a=b)) w
 now:∃d,P.underlying kt=some d/\((∀a b,Instr.sameNow d (enc a) (enc b)=some (decide (a=b)))\/∀a b,Instr.sameNow d (enc a) (enc b)=none)
 bits:∀a,Instr.sameBits 10000 (enc a) (enc a)=true
section
variable {P:Program} {kt:TypeId} {κ:Type} [DecidableEq κ] {enc:κ->Value}
def eS(k:κ):List κ->Nat->Option Nat
 | [],_=>none
 |a::l,i=>if k=a then some i else eS k l (i+1)
theorem u6{k:κ}:∀ {l:List κ} {i:Nat},eS k l i=none->k∉l
 | [],_,_,h=>by simp at h
 |a::l,i,h,hm=>by
  simp only[eS]at h;split at h
  ·cases h
  ·cases hm with
   |head=>exact absurd rfl ‹_›
   |tail _ hm=>exact u6 h hm
theorem iN{k:κ}:∀ {l:List κ} {i j:Nat},eS k l i=some j->i<=j/\l[j - i]? =some k
 | [],i,j,h=>by cases h
 |a::l,i,j,h=>by
  simp only[eS]at h;split at h
  ·rename_i he;cases h;subst he;simp
  ·obtain⟨h1,h2⟩:=iN h;refine⟨by omega,?_⟩;rw[show j - i=(j - (i+1))+1 by omega];simpa using h2
theorem B5{d}(hn:∀a b,Instr.sameNow d (enc a) (enc b)=some (decide (a=b)))(k:κ):∀(ks:List κ) (c:List MapEntry) (i:Nat),c.map (·.key)=ks.map enc->
  Instr.findNow d (enc k) c i=some ((eS k ks i).bind λj=>(c[j - i]?).map λe=>(j,e.val))
 | [],[],i,_=>rfl
 | [],_::_,i,h=>by simp at h
 |_::_,[],i,h=>by simp at h
 |a::ks,e::c,i,h=>by
  simp only[VX,Ys]at h;simp only[Instr.findNow,h.1,hn,eS];by_cases hk:k=a
  ·rw[VM hk,Vn hk];simp
  ·rw[VA hk,Vk hk];simp only[B5 hn k ks c (i+1) h.2];congr 1;cases f:eS k ks (i+1)with
   |none=>rfl
   |some j=>
    obtain⟨h1,_⟩:=iN f;simp only[Wq];rw[show j - i=(j - (i+1))+1 by omega];simp
theorem AP(hk:jK P kt enc)(k:κ)(w:World):∀(ks:List κ) (c:List MapEntry) (i:Nat),c.map (·.key)=ks.map enc->
  (Instr.findAsking kt (enc k) c i).run P w= .ok ((eS k ks i).bind λj=>(c[j - i]?).map λe=>(j,e.val)) w
 | [],[],i,_=>rfl
 | [],_::_,i,h=>by simp at h
 |_::_,[],i,h=>by simp at h
 |a::ks,e::c,i,h=>by
  simp only[VX,Ys]at h;simp only[Instr.findAsking,Sem.run_bind,h.1,hk.eql,Result.andThen_ok,eS];by_cases b:k=a
  ·rw[Vn (by simpa using b),Vn b];simp
  ·rw[Vk (by simpa using b),Vk b,AP hk k w ks c (i+1) h.2];congr 1;cases d:eS k ks (i+1)with
   |none=>rfl
   |some j=>
    obtain⟨h1,_⟩:=iN d;simp only[Wq];rw[show j - i=(j - (i+1))+1 by omega];simp
theorem rZ(hk:jK P kt enc)(k:κ)(w:World)(ks:List κ)(b:List MapEntry)(h:b.map (·.key)=ks.map enc):(Instr.findKey kt (enc k) b).run P w= .ok ((eS k ks 0).bind λj=>(b[j]?).map λe=>(j,e.val)) w:=by
 obtain⟨d,hd,hn|hn⟩:=hk.now
 ·have:=B5 hn k ks b 0 h;simp only[Instr.findKey,Sem.run_bind,run_underlying hd,Result.andThen_ok,this];simp
 ·have ha:=AP hk k w ks b 0 h;simp only[Instr.findKey,Sem.run_bind,run_underlying hd,Result.andThen_ok];cases b with
  |nil=>
   have:ks=[]:=by cases ks with|nil=>rfl|cons=>simp at h
   subst this
   rfl
  |cons e b=>
   cases ks with
   |nil=>simp at h
   |cons a ks=>
    simp only[VX,Ys]at h;have h0:Instr.findNow d (enc k) (e::b) 0=none:=by simp only[Instr.findNow,h.1,hn]
    rw[h0];simpa using ha
def bD(enc:κ->Value)(l:List (κ×PV)):List (Value×PV):=l.map λx=>(enc x.1,x.2)
def cQ(k:κ):List (κ×PV)->Option PV
 | []=>none
 |(a,p)::l=>if k=a then some p else cQ k l
def ir(k:κ)(p:PV):List (κ×PV)->List (κ×PV)
 | []=>[(k,p)]
 |(a,q)::l=>if k=a then(a,p)::l else(a,q)::ir k p l
theorem D4{k}{l:List (κ×PV)}:cQ k l=(eS k (l.map (·.1)) 0).bind λj=>(l[j]?).map (·.2):=by
 suffices h:∀(i:Nat),cQ k l=(eS k (l.map (·.1)) i).bind λj=>(l[j - i]?).map (·.2) by simpa using h 0
 induction l with
 |nil=>intro i;rfl
 |cons x l ih=>
  intro i;obtain⟨a,p⟩:=x;simp only[cQ,VX,eS];split
  ·simp
  ·rw[ih (i+1)];cases b:eS k (l.map (·.1)) (i+1)with
   |none=>rfl
   |some j=>
    obtain⟨h1,_⟩:=iN b;simp only[Wq];rw[show j - i=(j - (i+1))+1 by omega];simp
theorem Iu{k p}{l:List (κ×PV)}:ir k p l=match eS k (l.map (·.1)) 0 with|some j=>l.set j (k,p)|none=>l++[(k,p)]:=by
 suffices h:∀(i:Nat),ir k p l=match eS k (l.map (·.1)) i with|some j=>l.set (j - i) (k,p)|none=>l++[(k,p)] by simpa using h 0
 induction l with
 |nil=>intro i;rfl
 |cons x l ih=>
  intro i;obtain⟨a,q⟩:=x;simp only[ir,VX,eS];split
  ·rename_i he;subst he;simp
  ·rw[ih (i+1)];cases b:eS k (l.map (·.1)) (i+1)with
   |none=>rfl
   |some j=>
    obtain⟨h1,_⟩:=iN b;simp only;rw[show j - i=(j - (i+1))+1 by omega];simp
theorem vl{k:κ}{p:PV}{l:List (κ×PV)}{x:κ×PV}(h:x∈ir k p l):x=(k,p)\/x∈l:=by
 induction l with
 |nil=>simpa[ir]using h
 |cons y l ih=>
  obtain⟨a,q⟩:=y;simp only[ir]at h;split at h
  ·rename_i he;subst he;cases h with
   |head=>exact .inl rfl
   |tail _ h=>exact .inr (VB _ h)
  ·cases h with
   |head=>exact .inr (VC ..)
   |tail _ h=>
    rcases ih h with h|h
    ·exact .inl h
    ·exact .inr (VB _ h)
theorem mH{k:κ}{p:PV}{l:List (κ×PV)}(h:cQ k l=some p):(k,p)∈l:=by
 induction l with
 |nil=>cases h
 |cons y l ih=>
  obtain⟨a,q⟩:=y;simp only[cQ]at h;split at h
  ·rename_i he;subst he;cases h;exact VC ..
  ·exact VB _ (ih h)
def uC(p:PV)(v:Value):Prop:=∀E w u,dj E w u p->u=v
theorem cz(v:Value):uC (.raw v) v:=λ_ _ _ h=>by cases h;rfl
theorem ug(a b:Value):uC (.agg [.raw a,.raw b]) (.agg #[a,b]):=λE w u h=>by
 cases h with
 |agg cs _ hl hr=>
  obtain⟨l⟩:=cs
  match l,hl,hr with
  | [x,y],_,hr=>
   have h0:=hr 0 x _ rfl rfl;have h1:=hr 1 y _ rfl rfl;cases h0;cases h1;rfl
  | [],hl,_=>simp at hl
  | [_],hl,_=>simp at hl
  |_::_::_::_,hl,_=>simp at hl
def qd(P:Program)(mt:TypeId):Option (TypeId×TypeId):=match P.underlying mt with|some (.map k e)=>some (k,e)|_=>none
theorem i6{mt kt a}(h:qd P mt=some (kt,a)):P.underlying mt=some (.map kt a):=by
 unfold qd at h;split at h
 ·rename_i hu;cases h;exact hu
 ·cases h
def MV(P:Program)(t:TypeId):Option Value:=match P.info? t with|some i=>i.zero|none=>none
theorem LU{a z}(h:MV P a=some z)(w:World):(zeroValue a).run P w= .ok z w:=by
 unfold MV at h;split at h
 ·rename_i i hi;simp[zeroValue,typeInfo,hi,h]
 ·cases h
variable {σ:bH} {t:cd} {o:Oper}
theorem xA(p:jK P kt enc){F:Nat->Prop}{base:Nat}{E w}{i mt x:Nat}{l v z}(y:Sat F base σ E w)(hm:qd P mt=some (kt,x))(B:MV P x=some z)(hv:dj E w v (.own i))(hi:σ[i]? =some (some (.mp (bD enc l))))(k:κ)(ok:Bool):
  ∃u,(Instr.lookup mt v (enc k) ok).run P w= .ok (if ok then .tuple #[u,.bool (cQ k l).isSome] else u) w/\dj E w u ((cQ k l).getD (.raw z)):=by
 cases hv with
 |own _ A _ q _=>
  obtain⟨r,n,ck,hr,hb,b,m,d⟩:=y.blk i _ hi;rw[q]at hr;subst hr;have c:n.toList.map (·.key)=(l.map (·.1)).map enc:=by rw[m.1];simp[bD]
  have f:=rZ p k w (l.map (·.1)) n.toList c;have s:(bD enc l).map (·.2)=l.map (·.2):=by simp[bD]
  rw[s]at d;have a:=D4 (k:=k) (l:=l);cases e:eS k (l.map (·.1)) 0 with
  |none=>
   rw[e]at f a;simp only[Zt]at f a;refine⟨z,?_,by rw[a];exact .raw z⟩;simp only[Instr.lookup,Sem.run_bind,run_underlying (i6 hm),Result.andThen_ok,MapKept.run_getObj_map b,Sem.run_pure,p.qv,f,LU B,a]
   rfl
  |some j=>
   obtain⟨_,hj⟩:=iN e;simp only[Yq]at hj;have h:j<l.length:=by have:=(Vf.1 hj).1;simpa using this
   have g:j<n.toList.length:=by have:=V1 List.length c;simp at this;rw[V3];omega
   rw[e]at f a;simp only[Wq,Vm g,Vm h,Wj]at f a;refine⟨n.toList[j].val,?_,?_⟩
   ·simp only[Instr.lookup,Sem.run_bind,run_underlying (i6 hm),Result.andThen_ok,MapKept.run_getObj_map b,Sem.run_pure,p.qv,f,a]
    rfl
   ·rw[a];exact d.2 j _ _ (by rw[Vt,Vm g];rfl) (by simp[h])
theorem fu(d:jK P kt enc){i mt b:Nat}{x c l z k pk r}(ho:o.op= .lookup mt x c false)(hm:qd P mt=some (kt,b))(g:MV P b=some z)(hx:aI t x=some (.own i))(hi:σ[i]? =some (some (.mp (bD enc l))))(hp:aI t c=some pk)(hk:uC pk (enc k))(hr:(cQ k l).getD (.raw z)=r):bE P σ t o r:=by
 intro F base E ρ w a f hT;have h1:=aB a hT hx;have h2:=hk _ _ _ (aB a hT hp);obtain⟨u,hu,e⟩:=xA d f hm g h1 hi k false;simp only[execOp,ho,h2,Sem.run_bind,hu,Result.andThen_ok,Sem.run_pure,Xb,Yo];exact bA (by rw[<-hr];exact e)
theorem eA(e:jK P kt enc){i mt c:Nat}{x d l z k pk r q}(ho:o.op= .lookup mt x d true)(hm:qd P mt=some (kt,c))(j:MV P c=some z)(hx:aI t x=some (.own i))(hi:σ[i]? =some (some (.mp (bD enc l))))(hp:aI t d=some pk)(hk:uC pk (enc k))(hr:(cQ k l).getD (.raw z)=r)(h:(cQ k l).isSome=q):bE P σ t o (.tuple [r,.raw (.bool q)]):=by
 intro F base E ρ w b g hT;have h1:=aB b hT hx;have h2:=hk _ _ _ (aB b hT hp);obtain⟨u,hu,f⟩:=xA e g hm j h1 hi k true;simp only[execOp,ho,h2,Sem.run_bind,hu,Result.andThen_ok,Sem.run_pure,Xr];refine bA (.tuple #[u,.bool (cQ k l).isSome] _ rfl λi x p k1 a=>?_)
 match i,k1,a with
 |0,k1,a=>cases k1;cases a;rw[<-hr];exact f
 |1,k1,a=>cases k1;cases a;rw[h];exact .raw _
 |_+2,_,a=>simp at a
theorem fq{α:Type}(a:Array α)(i j:Nat)(v:α):(a.setIfInBounds i v)[j]? =if i=j/\i<a.size then some v else a[j]? :=by
 rw[Array.getElem?_setIfInBounds];by_cases h:i=j
 ·subst h;by_cases h2:i<a.size
  ·simp[h2]
  ·simp[h2]
 ·simp[h]
theorem iP(H:jK P kt enc){i mt et:Nat}{x ix y l k pk p}(ho:o.op= .mapUpdate mt x ix y)(hm:qd P mt=some (kt,et))(hx:aI t x=some (.own i))(hi:σ[i]? =some (some (.mp (bD enc l))))(hp:aI t ix=some pk)(hk:uC pk (enc k))(hy:aI t y=some p):
  de P σ t o (.raw undef) (σ.set i (some (.mp (bD enc (ir k p l))))):=by
 intro F base E ρ w G J hT;have h1:=aB G hT hx;have h2:=hk _ _ _ (aB G hT hp);have h3:=aB G hT hy;generalize hz:ρ x=v at h1;cases h1 with
 |own _ aa _ L _=>
  obtain⟨r,s,ck,hr,hb,d,u,z⟩:=J.blk i _ hi;have B:bg (E.at_ i)=some r:=by rw[hr];rfl
  have X:r<w.heap.size:=(Vs.1 d).1;rw[L]at hr;subst hr;have b:s.toList.map (·.key)=(l.map (·.1)).map enc:=by rw[u.1];simp[bD]
  have K:=rZ H k w (l.map (·.1)) s.toList b;have Z:(bD enc l).map (·.2)=l.map (·.2):=by simp[bD]
  rw[Z]at z;have fin:∀(c:Array MapEntry) (f:Nat),(Instr.mapUpdate mt (.map (some r)) (enc k) (ρ y)).run P w= .ok () {w with heap:=w.heap.setIfInBounds r (.map c f)}->
    c.toList.map (·.key)=(ir k p l).map (λa=>enc a.1)->MapKept.Stamped c f->bn E w (c.toList.map (·.val)) ((ir k p l).map (·.2))->
    ∃v w' E',((execOp ρ o).run P w= .ok (.value v) w'\/(v=undef/\(execOp ρ o).run P w= .ok .skip w'))/\Sat F base (σ.set i (some (.mp (bD enc (ir k p l))))) E' w'/\c8 E w E' w'/\iE F base w w'/\dj E' w' v (.raw undef):=λc f Q T W Y=>by
   have oq:∀j,j<w.heap.size->j≠r->({w with heap:=w.heap.setIfInBounds r (.map c f)}:World).heap[j]? =w.heap[j]? :=λj _ hj=>by
    show(w.heap.setIfInBounds r (.map c f))[j]? =_;rw[fq,Vk (by rintro⟨rfl,_⟩;exact hj rfl)]
   have D:w.heap.size<=({w with heap:=w.heap.setIfInBounds r (.map c f)}:World).heap.size:=by simp
   have V:E.M r:=(J.mm r).2 (.inr ⟨i,_,hi,B⟩);have g:c8 E w E {w with heap:=w.heap.setIfInBounds r (.map c f)}:=⟨Vh _,λ_ _=>rfl,λ_ _ h=>h,D,λj hj hM=>oq j hj (λe=>hM (by rw[e];exact V))⟩;have hn:=J.ta (bi':=.mp (bD enc (ir k p l))) hi B D oq ⟨r,c,f,L,hb,by
     show(w.heap.setIfInBounds r (.map c f))[r]? =_;rw[fq,Vn ⟨rfl,X⟩],⟨by rw[T];simp[bD],W⟩,by
     have:(bD enc (ir k p l)).map (·.2)=(ir k p l).map (·.2):=by simp[bD]
     rw[this];exact Y.goes g⟩
   refine⟨undef,_,E,.inr ⟨rfl,?_⟩,hn.1,hn.2,⟨⟨rfl,rfl,rfl,D,λj hj=>oq j (VS hj J.bl) (by omega)⟩,λj hj=>oq j (J.fb j hj).1 (λe=>(J.fb j hj).2 i _ hi (by rw[e];exact B))⟩,.raw _⟩;simp only[execOp,ho,hz,h2,Sem.run_bind,Q,Result.andThen_ok,Sem.run_pure]
  have m:=Iu (k:=k) (p:=p) (l:=l);cases A:eS k (l.map (·.1)) 0 with
  |none=>
   rw[A]at K m;simp only[Zt]at K m;refine fin (s.push {key:=enc k,val:=ρ y,born:=ck}) (ck+1) ?_ ?_ (MapKept.stamped_push u.2 λx hx he=>?_) ?_
   ·simp only[Instr.mapUpdate,Sem.run_bind,run_underlying (i6 hm),Result.andThen_ok,MapKept.run_getObj_map d,H.qv,K,MapKept.run_setObj_map _ d]
   ·rw[m];simp[b,V7,Yx]
   ·have O:x.key∈s.toList.map (·.key):=Vv.2 ⟨x,hx,rfl⟩;rw[b]at O;obtain⟨a,ha,S⟩:=Vv.1 O;have R:=H.eql k a w;rw[S,he]at R;have h6:=H.eql k k w;rw[h6]at R;have h7:decide (k=k)=decide (k=a):=by injection R
    have h8:k=a:=Vg (by rw[<-h7];simp);rw[<-h8]at ha;exact u6 A ha
   ·rw[m];simp only[Array.toList_push,Wu,VX,Xw];exact z.append (XP h3 (Yn _ _))
  |some j=>
   obtain⟨_,hj⟩:=iN A;simp only[Yq]at hj;have M:j<l.length:=by have:=(Vf.1 hj).1;simpa using this
   have C:j<s.toList.length:=by have:=V1 List.length b;simp at this;rw[V3];omega
   have q:j<s.size:=by simpa using C
   have U:l[j].1=k:=by have:=Vf.1 hj;obtain⟨h,e⟩:=this;simpa using e
   have N:s[j].key=enc k:=by
    have:=V1 (·[j]?) b;simp only[Vt,Vm C,Vm M,Wj,WE,U]at this;simpa using this
   rw[A]at K m;simp only[Wq,Vm C,Wj]at K m;refine fin (s.modify j λe=> {e with key:=enc k,val:=ρ y}) ck ?_ ?_ (MapKept.stamped_modify u.2 j _ (λ_ _=>rfl) λe _ he=>?_) ?_
   ·have hks:(Instr.keyThatStays ((Option.map (λx=>x.key) s[j]?).getD (enc k)) (enc k)).run P w= .ok (enc k) w:=by
     rw[XK q,Wj,WH,N];simp only[Instr.keyThatStays,H.bits,Xr,Sem.run_pure]
    simp only[Instr.mapUpdate,Sem.run_bind,run_underlying (i6 hm),Result.andThen_ok,MapKept.run_getObj_map d,H.qv,K,hks,MapKept.run_setObj_map _ d]
   ·rw[m];refine Wz λn=>?_;simp only[Vt,Xj,X2,VV];by_cases hn:j=n
    ·subst hn;simp[q,M]
    ·have:=V1 (·[n]?) b;simp only[Vt,Xj]at this;simp only[Vk hn,this,Zk,Yx]
   ·rw[XK q]at he;cases he;exact N.symm
   ·rw[m];have hR:=z.set j h3;have e1:(s.modify j λe=> {e with key:=enc k,val:=ρ y}).toList.map (·.val)=(s.toList.map (·.val)).set j (ρ y):=by
     refine Wz λn=>?_;simp only[Vt,Xj,X2,VV];by_cases hn:j=n
     ·subst hn;simp[q]
     ·simp only[Vk hn]
    have e2:(l.set j (k,p)).map (·.2)=(l.map (·.2)).set j p:=by rw[Yt]
    rw[e1,e2];exact hR
omit [DecidableEq κ] in
theorem mF{mt}(enc:κ->Value)(ho:o.op= .makeMap mt none):de P σ t o (.own σ.length) (σ++[some (.mp (bD enc ([]:List (κ×PV))))]):=by
 intro F base E ρ w d a hT;have hr:(execOp ρ o).run P w= .ok (.value (.map (some w.heap.size))) (w.alloc (.map #[] 0)):=by
  simp[execOp,ho,Instr.makeMap]
 have c:Ext w (w.alloc (.map #[] 0)):=(XH w).alloc _;have hp:=a.push c (v:=.map (some w.heap.size)) (blk:=.mp (bD enc ([]:List (κ×PV)))) (λb h=>by simp[bg]at h;omega) ⟨w.heap.size,#[],0,rfl,a.bl,heap_alloc_new _ _,⟨rfl,MapKept.stamped_empty 0⟩,Yn _ _⟩;exact⟨_,_,_,.inl hr,hp.1,hp.2,Zz c a,.own σ.length (by simp[Env.push,a.len]) _ (by simp[Env.push,a.len]) I⟩
end
section
variable {P:Program} {σ:bH} {t:cd} {o:Oper} {N L:Nat}
def Tx(Q:Exit->St->Prop):Exit->St->Prop
 | .goto _,_=>False
 |e,s=>Q e s
theorem Nc{c st}{Q:Exit->St->Prop}(h:W P N L c st (Tx Q)):W P N L (.scope c) st Q:=λF base E₀ w₀ E a w hc hs=>by
 refine wp_scope_straight (wp_mono (h F base E₀ w₀ E a w hc hs) ?_);rintro e b w' ⟨s,E',h1,h2⟩;cases e with
 |goto l=>exact h1.elim
 |normal=>exact⟨s,E',h1,h2⟩
 |exit _=>exact⟨s,E',h1,h2⟩
 |ret=>exact⟨s,E',h1,h2⟩
 |panic _=>exact⟨s,E',h1,h2⟩
 |outgrown=>exact⟨s,E',h1,h2⟩
theorem Na{l:Nat}{st}{Q:Exit->St->Prop}(h:Q .normal st):W P N L (.label l) st Q:=λ_ _ _ _ E _ _ hc hs=>wp_label ⟨st,E,h,hs,hc.g,hc.b⟩
theorem H9{x}{k:Nat}{xs p}(ho:o.op= .extract x k)(hx:aI t x=some (.tuple xs))(hp:xs[k]? =some p):oM P t o p:=λE ρ w e hT=>by
 have h1:=aB e hT hx;generalize f:ρ x=z at h1;cases h1 with
 |tuple cs _ hl hr=>
  obtain⟨c,b,d⟩:=bn.get (E:=E) (w:=w) (cs:=cs.toList) ⟨by simpa using hl,λi x u h1 h2=>hr i x u (by simpa using h1) h2⟩ hp;have a:cs[k]? =some c:=by simpa using b
  exact⟨c,λw'=>by simp only[execOp,ho,f,Instr.extract,a,Sem.run_bind,Sem.run_pure,Result.andThen_ok],d⟩
theorem wh{x y:Operand}{e:Array TypeId}{a b c:Int}(ho:o.op= .call {callee:=.builtin .min,args:= #[x,y],argTypes:=e})(hx:aI t x=some (.raw (.int .i64 a)))(hy:aI t y=some (.raw (.int .i64 b)))(hc:min a b=c):bE P σ t o (.raw (.int .i64 c)):=by
 intro F base E ρ w d _ hT;have h1:=aB d hT hx;have h2:=aB d hT hy;generalize g:ρ x=z at h1;generalize f:ρ y=i at h2;cases h1;cases h2;have he:(if b<a then b else a)=c:=by rw[<-hc];by_cases h:b<a<;>simp[h]<;>omega
 simp[execOp,ho,resolve,invoke,builtin,Builtin.min_,Builtin.min2,g,f,he];exact bA (.raw _)
def r8(P:Program)(ty:TypeId):Bool:=match P.underlying ty with|some (.slice _)=>true|_=>false
theorem pX{ty}(h:r8 P ty=true):∃e,P.underlying ty=some (.slice e):=by
 unfold r8 at h;split at h
 ·rename_i e hu;exact⟨e,hu⟩
 ·cases h
theorem PC{x y ty f}(ho:o.op= .binOp .eql ty x y f)(hk:r8 P ty=true)(hx:aI t x=some (.raw (.slice none 0 0)))(hy:aI t y=some (.raw (.slice none 0 0))):bE P σ t o (.raw (.bool true)):=by
 obtain⟨e,hu⟩:=pX hk;refine yB ho hx hy λw=>?_;have:=Lib.run_eql_slice_nil w ty e none 0 0 0 0 hu;have hg:∀a n c b m d,(eqGuard .eql ty x y (.slice a n c) (.slice b m d)).run P w= .ok () w:=λ_ _ _ _ _ _=>rfl;simp only[Sem.run_bind,hg,Result.andThen_ok,this]
 rfl
theorem mZ{x y ty i}{n:Nat}{xs}(ho:o.op= .binOp .eql ty x y i)(hk:r8 P ty=true)(hx:aI t x=some (.slice n xs))(hy:aI t y=some (.raw (.slice none 0 0)))(hn:0<n):bE P σ t o (.raw (.bool false)):=by
 obtain⟨e,hu⟩:=pX hk;intro F base E ρ w f _ hT;have h1:=aB f hT hx;have h2:=aB f hT hy;generalize h:ρ x=z at h1;generalize g:ρ y=j at h2;cases h2;have hv:∃a c,z= .slice (some a) n c:=by
  cases h1 with
  |cg=>omega
  |empty=>omega
  |slice b off _ c cs _ h0=>exact⟨_,_,rfl⟩
 obtain⟨a,c,rfl⟩:=hv;have:=Lib.run_eql_slice_nil w ty e (some a) n c 0 0 hu;have hg:∀a n c b m d,(eqGuard .eql ty x y (.slice a n c) (.slice b m d)).run P w= .ok () w:=λ_ _ _ _ _ _=>rfl;simp only[execOp,ho,h,g,Sem.run_bind,Sem.run_pure,Result.andThen_ok,hg,this];exact bA (.raw _)
end
section
variable {P:Program} {kt e:TypeId}
theorem Fg(a b:Int):(a==b)=decide (a=b):=XV.2 (by simp)
theorem Fj(b:Bool)(n:Nat)(hu:P.underlying kt=some (.int .i64))(a:Int)(w:World):(Instr.checkKey b (n+1) kt (.int .i64 a)).run P w= .ok () w:=by
 simp only[Instr.checkKey,Sem.run_bind,run_underlying hu,Result.andThen_ok,Sem.run_pure]
theorem eq_int(n:Nat)(hu:P.underlying kt=some (.int .i64))(a b:Int)(w:World):(Op.equalIn (n+1) kt (.int .i64 a) (.int .i64 b)).run P w= .ok (decide (a=b)) w:=by
 simp only[Op.equalIn,Sem.run_bind,run_underlying hu,Result.andThen_ok,Xr,Sem.run_pure,Fg]
theorem Kz(hu:P.underlying kt=some (.int .i64)):jK P kt (λn:Int=>Value.int .i64 n) where
 qv:=λb a w=>Fj b 9999 hu a w
 eql:=λa b w=>eq_int _ hu a b w
 now:=⟨_,hu,.inl λa b=>by simp only[Instr.sameNow,Xr,Fg]⟩
 bits:=λa=>by unfold Instr.sameBits;simp
theorem r5(he:P.underlying e=some (.int .i64)){xs}{off:Nat}{v}(hx:xs[off]? =some v)(w:World):(Go.part e xs off).run P w= .ok v w:=by
 simp[Go.part,isAgg,run_underlying he,hx]
abbrev tE(p:Int×Int):Array Value:= #[.int .i64 p.1,.int .i64 p.2]
theorem Qb(he:P.underlying e=some (.int .i64))(a:Int×Int)(w:World):(Go.part e (tE a) 0).run P w= .ok (.int .i64 a.1) w:=r5 he rfl w
theorem xR(he:P.underlying e=some (.int .i64))(a:Int×Int)(w:World):(Go.part e (tE a) 1).run P w= .ok (.int .i64 a.2) w:=r5 he rfl w
theorem JG{i:TypeInfo}(hu:P.underlying kt=some (.array 2 e))(he:P.underlying e=some (.int .i64))(hi:P.info? e=some i)(hs:i.size=1)(b:Bool)(n:Nat)(a:Int×Int)(w:World):(Instr.checkKey b (n+1+1) kt (.agg (tE a))).run P w= .ok () w:=by
 have c:(sizeOf e).run P w= .ok 1 w:=by simp[sizeOf,typeInfo,program,Sem.run,hi,hs]
 have hr:List.range' 0 2=[0,1]:=rfl;rw[Instr.checkKey];simp only[Sem.run_bind,run_underlying hu,Result.andThen_ok];simp only[Std.Legacy.Range.forIn_eq_forIn_range',Std.Legacy.Range.size,Yq,Nat.add_one_sub_one,Nat.div_one];rw[hr];simp only[List.forIn_cons,List.forIn_nil,Sem.run_bind,c,Result.andThen_ok,Sem.run_pure,Xt,Qb he,xR he,Fj b n he]
theorem NF{i:TypeInfo}(hu:P.underlying kt=some (.array 2 e))(he:P.underlying e=some (.int .i64))(hi:P.info? e=some i)(hs:i.size=1)(n:Nat)(a b:Int×Int)(w:World):(Op.equalIn (n+1+1) kt (.agg (tE a)) (.agg (tE b))).run P w= .ok (decide (a=b)) w:=by
 have c:P.cellsOf e=1:=by simp[Program.cellsOf,hi,hs]
 rw[run_equalIn_array w (n+1) _ _ hu hi,c];show(Op.eqItems (n+1) e 1 _ _ [0,1]).run P w=_;simp only[Op.eqItems,Sem.run_bind,Xt,Qb he,xR he,Result.andThen_ok,eq_int n he,Sem.run_pure];obtain⟨d,a2⟩:=a;obtain⟨f,g⟩:=b;by_cases h1:d=f<;>by_cases h2:a2=g<;>simp[h1,h2,Sem.run_bind,xR he,eq_int n he,Op.eqItems]
theorem OJ{i:TypeInfo}(hu:P.underlying kt=some (.array 2 e))(he:P.underlying e=some (.int .i64))(hi:P.info? e=some i)(hs:i.size=1):jK P kt (λp:Int×Int=>Value.agg (tE p)) where
 qv:=λb a w=>JG hu he hi hs b 9998 a w
 eql:=λa b w=>NF hu he hi hs 9998 a b w
 now:=⟨_,hu,.inr λa b=>by simp only[Instr.sameNow]⟩
 bits:=λa=>by
  have h:=fun(n:Nat) (x:Int)=>show Instr.sameBits n (.int .i64 x) (.int .i64 x)=true by unfold Instr.sameBits;simp
  show Instr.sameBits (9999+1) _ _=true;rw[Instr.sameBits];simp only[X3,List.all_cons,h]
  rfl
end
theorem cV{n i:Nat}(h:i<n):(List.range n)[i]? =some i:=by simp[h]
theorem gU{n i:Nat}(h:i<n):Ren (List.range n) (.own i) (.own i):=.own (cV h)
theorem gV{n i k:Nat}(h:i<n):Ren (List.range n) (.ptr i k) (.ptr i k):=.ptr (cV h)
def fF(n:Nat)(σ:bH):Prop:=∀(i:Nat) b,σ[i]? =some (some b)->ji (List.range n) b b
theorem fF.nil{n:Nat}:fF n []:=λi b h=>by simp at h
theorem fF.cons{n:Nat}{b σ}(h:ji (List.range n) b b)(hs:fF n σ):fF n (some b::σ):=λi c hc=>by
 cases i with
 |zero=>simp at hc;subst hc;exact h
 |succ i=>exact hs i c (by simpa using hc)
theorem fF.app{n:Nat}{σ τ}(h:fF n σ)(k:fF n τ):fF n (σ++τ):=λi b hb=>by
 by_cases hi:i<σ.length
 ·rw[Vl hi]at hb;exact h i b hb
 ·rw[Vq (by omega)]at hb;exact k _ b hb
theorem nodup_range(n:Nat):gd (List.range n)=true:=gu _ XR
theorem Sat.trim{F:Nat->Prop}{base:Nat}{E:Env}{w}{A X:bH}(c:Sat F base (A++X) E w)(a:fF A.length A):∃M,(∀b,M b->E.M b)/\Sat F base A (E.oI (List.range A.length) M) w:=
 c.oI (ZG A (List.range A.length) (by simp) (λi b j h1 h2=>by
  have hi:=(Vf.1 h1).1;rw[cV hi]at h2;cases h2;exact⟨b,by rw[Vl hi];exact h1,a i b h1⟩)) (nodup_range _)
section
variable {P:Program} {N L:Nat}
theorem aD.trim{f ps}{σ:bH}{R:PV->bH->Prop}(h:aD P f ps σ (λr σ'=>∃A X,σ'=A++X/\σ.length<=A.length/\fF A.length A/\Ren (List.range A.length) r r/\R r A)):aD P f ps σ R:=λF base E w vs g d=>by
 refine(h F base E w vs g d).mono ?_;rintro e w' ⟨v,r,σ',E',rfl,⟨A,X,rfl,hl,k,hr,d⟩,j,c,l,hv⟩;obtain⟨M,hM,a⟩:=j.trim k;refine⟨v,r,A,_,rfl,d,a,⟨?_,λi hi=>?_,λb hb hn hm=>c.M b hb hn (hM b hm),c.size,c.heap⟩,l,hr.rep hM v hv⟩
 ·show E.L<=(List.range A.length).length;rw[Yd,g.len];exact hl
 ·have h1:i<A.length:=by rw[g.len]at hi;omega
  show E'.at_ ((List.range A.length).getD i 0)=_;rw[Qo,cV h1];exact c.at_ i hi
abbrev Xa:=@aD.trim
theorem ko{c t t'}{A X:bH}{Q:Exit->St->Prop}(a:fF A.length A)(hT:oy (List.range A.length) t t')(d:Nat.ble L A.length=true)(h:W P N L c ⟨t',A⟩ Q):W P N L c ⟨t,A++X⟩ Q:=by
 refine dM (List.range A.length) hT (ZG A (List.range A.length) (by simp) (λi b j h1 h2=>by
  have hi:=(Vf.1 h1).1;rw[cV hi]at h2;cases h2;exact⟨b,by rw[Vl hi];exact h1,a i b h1⟩)) (nodup_range _) ?_ h
 have:∀k,k<=A.length->Dd (List.range A.length) k=true:=λk=>by
  induction k with
  |zero=>intro _;rfl
  |succ k ih=>
   intro hk;simp only[Dd,cV (show k<A.length by omega),Yg,ih (by omega),Bool.and_self]
 exact this L (Nat.ble_eq.mp d)
theorem uH{c t t'}{A:bH}{ty xs}{Q:Exit->St->Prop}(k:Nat)(s:fF A.length A)(hk:look k t=some (.ptr A.length 0))(hT:oy (List.range A.length) t t')(n:Nat.ble L A.length=true)[hx:aM xs](h:W P N L c ⟨(k,.cH xs 0)::t',A⟩ Q):W P N L c ⟨t,A++[some (.cells ty xs)]⟩ Q:=λF base E₀ w₀ E a w hc hs=>by
 obtain⟨M,hM,o⟩:=hs.sat.trim s;have f:∀i,i<A.length->(List.range A.length).getD i 0=i:=λi hi=>by rw[Qo,cV hi];rfl
 have hl:(A++[some (.cells ty xs)])[A.length]? =some (some (.cells ty xs)):=by simp
 obtain⟨b,cs,d,z,g,l⟩:=hs.sat.blk A.length _ hl;have m:¬M b:=λhm=>by
  rcases(o.mm b).1 hm with y|⟨i,blk,h1,h2⟩
  ·exact(hs.sat.fb b y).2 _ _ hl (by rw[d];rfl)
  ·have hi:=(Vf.1 h1).1;have r:bg (E.at_ i)=some b:=by
    have:(E.oI (List.range A.length) M).at_ i=E.at_ i:=by show E.at_ _=_;rw[f i hi]
    rw[this]at h2;exact h2
   have:=hs.sat.inj i A.length blk _ b (by rw[Vl hi];exact h1) hl r (by rw[d];rfl);omega
 have hg:c8 E₀ w₀ (E.oI (List.range A.length) M) w:=⟨by
   show E₀.L<=(List.range A.length).length;rw[Yd,hc.L];exact Nat.ble_eq.mp n,λi hi=>by
   have h1:i<A.length:=by have:=Nat.ble_eq.mp n;rw[hc.L]at hi;omega
   show E.at_ _=_;rw[f i h1];exact hc.g.at_ i hi,λb hb hn hm=>hc.g.M b hb hn (hM b hm),hc.g.size,hc.g.heap⟩
 refine h F base E₀ w₀ _ a w ⟨hc.L,hg,hc.b⟩ ⟨o,λj q hj=>?_,hs.lO,hs.size⟩;simp only[look]at hj;rw[VZ]at hj;split at hj
 ·rename_i he;cases VF he;cases hj;have hv:=hs.tmp k _ hk;generalize a.eval (.tmp k)=v at hv;cases hv with
  |ptr _ _ b' _ e=>
   have:b'=b:=by
    rcases e with e|⟨_,_,e⟩<;>rw[d]at e<;>cases e
    rfl
   subst this;have hp:bn (EF M) w cs.toList xs:=l.pure hM;exact .cH b' 0 0 cs.toList xs (Vs.1 g).1 m (λi x hx=>by unfold World.cell?;simp only[g,Ws];simpa using hx) hp.1 (λi x u h1 h2=>(hp.2 i x u h1 h2).goes (E:=EF M) (E':=E.oI (List.range A.length) M) (w:=w) (w':=w) ⟨We _,λi hi=>absurd hi (WL i),λ_ _ h=>h,Vh _,λ_ _ _=>rfl⟩)
 ·obtain⟨p,h1,h2⟩:=hT.get j q hj;exact h2.rep hM _ (hs.tmp j p h1)
end
section
variable {P:Program} {kt:TypeId} {κ:Type} [DecidableEq κ] {enc:κ->Value} {σ:bH} {t:cd} {o:Oper}
def qy(k:κ):List (κ×PV)->List (κ×PV)
 | []=>[]
 |(a,q)::l=>if k=a then l else(a,q)::qy k l
theorem GN{k}{l:List (κ×PV)}:qy k l=match eS k (l.map (·.1)) 0 with|some j=>l.eraseIdx j|none=>l:=by
 suffices h:∀(i:Nat),qy k l=match eS k (l.map (·.1)) i with|some j=>l.eraseIdx (j - i)|none=>l by simpa using h 0
 induction l with
 |nil=>intro i;rfl
 |cons x l ih=>
  intro i;obtain⟨a,q⟩:=x;simp only[qy,VX,eS];split
  ·simp
  ·rw[ih (i+1)];cases b:eS k (l.map (·.1)) (i+1)with
   |none=>rfl
   |some j=>
    obtain⟨h1,_⟩:=iN b;simp only;rw[show j - i=(j - (i+1))+1 by omega];simp
theorem BK(O:jK P kt enc){i mt Y:Nat}{x X:Operand}{s:Array TypeId}{l:List (κ×PV)}{k:κ}{pk:PV}(ho:o.op= .call {callee:=.builtin .delete,args:= #[x,X],argTypes:=s})(q:s[0]? =some mt)(hm:qd P mt=some (kt,Y))(hx:aI t x=some (.own i))(hi:σ[i]? =some (some (.mp (bD enc l))))(hp:aI t X=some pk)(hk:uC pk (enc k)):
  de P σ t o (.tuple []) (σ.set i (some (.mp (bD enc (qy k l))))):=by
 intro F base E ρ w L B hT;have h1:=aB L hT hx;have h2:=hk _ _ _ (aB L hT hp);generalize hz:ρ x=v at h1;cases h1 with
 |own _ Z _ D _=>
  obtain⟨r,n,ck,hr,hb,c,p,m⟩:=B.blk i _ hi;have y:bg (E.at_ i)=some r:=by rw[hr];rfl
  have T:r<w.heap.size:=(Vs.1 c).1;rw[D]at hr;subst hr;have d:n.toList.map (·.key)=(l.map (·.1)).map enc:=by rw[p.1];simp[bD]
  have C:=rZ O k w (l.map (·.1)) n.toList d;have V:(bD enc l).map (·.2)=l.map (·.2):=by simp[bD]
  rw[V]at m;have fin:∀(b:Array MapEntry),(Builtin.delete_ s o.type #[.map (some r),enc k]).run P w= .ok (.tuple #[]) {w with heap:=w.heap.setIfInBounds r (.map b ck)}->
    b.toList.map (·.key)=(qy k l).map (λa=>enc a.1)->MapKept.Stamped b ck->bn E w (b.toList.map (·.val)) ((qy k l).map (·.2))->
    ∃v w' E',((execOp ρ o).run P w= .ok (.value v) w'\/(v=undef/\(execOp ρ o).run P w= .ok .skip w'))/\Sat F base (σ.set i (some (.mp (bD enc (qy k l))))) E' w'/\c8 E w E' w'/\iE F base w w'/\dj E' w' v (.tuple []):=λb J Q S U=>by
   have oq:∀j,j<w.heap.size->j≠r->({w with heap:=w.heap.setIfInBounds r (.map b ck)}:World).heap[j]? =w.heap[j]? :=λj _ hj=>by
    show(w.heap.setIfInBounds r (.map b ck))[j]? =_;rw[fq,Vk (by rintro⟨rfl,_⟩;exact hj rfl)]
   have A:w.heap.size<=({w with heap:=w.heap.setIfInBounds r (.map b ck)}:World).heap.size:=by simp
   have R:E.M r:=(B.mm r).2 (.inr ⟨i,_,hi,y⟩);have g:c8 E w E {w with heap:=w.heap.setIfInBounds r (.map b ck)}:=⟨Vh _,λ_ _=>rfl,λ_ _ h=>h,A,λj hj hM=>oq j hj (λe=>hM (by rw[e];exact R))⟩;have hn:=B.ta (bi':=.mp (bD enc (qy k l))) hi y A oq ⟨r,b,ck,D,hb,by
     show(w.heap.setIfInBounds r (.map b ck))[r]? =_;rw[fq,Vn ⟨rfl,T⟩],⟨by rw[Q];simp[bD],S⟩,by
     have:(bD enc (qy k l)).map (·.2)=(qy k l).map (·.2):=by simp[bD]
     rw[this];exact U.goes g⟩
   refine⟨.tuple #[],_,E,.inl ?_,hn.1,hn.2,⟨⟨rfl,rfl,rfl,A,λj hj=>oq j (VS hj B.bl) (by omega)⟩,λj hj=>oq j (B.fb j hj).1 (λe=>(B.fb j hj).2 i _ hi (by rw[e];exact y))⟩,.tuple #[] [] I (λi x u h=>by simp at h)⟩;simp only[execOp,ho,resolve,invoke,builtin,XF,VX,Xw,hz,h2,Sem.run_bind,J,Result.andThen_ok,Sem.run_pure]
  have f:=GN (k:=k) (l:=l);have a0:(#[Value.map (some r),enc k]:Array Value)[0]? =some (.map (some r)):=rfl;have W:(#[Value.map (some r),enc k]:Array Value)[1]? =some (enc k):=rfl;cases z:eS k (l.map (·.1)) 0 with
  |none=>
   rw[z]at C f;simp only[Zt]at C f;refine fin n ?_ ?_ p.2 ?_
   ·simp only[Builtin.delete_,q,a0,W,Sem.run_bind,run_underlying (i6 hm),Result.andThen_ok,MapKept.run_getObj_map c,O.qv,C,MapKept.run_setObj_map _ c,Sem.run_pure]
   ·rw[f,d];simp[V7,Yx]
   ·rw[f];exact m
  |some j=>
   obtain⟨_,hj⟩:=iN z;simp only[Yq]at hj;have aa:j<l.length:=by have:=(Vf.1 hj).1;simpa using this
   have G:j<n.toList.length:=by have:=V1 List.length d;simp at this;rw[V3];omega
   have H:j<n.size:=by simpa using G
   rw[z]at C f;simp only[Wq,Vm G,Wj]at C f;have K:(n.eraseIdxIfInBounds j).toList=n.toList.eraseIdx j:=by simp[Array.eraseIdxIfInBounds,H]
   refine fin (n.eraseIdxIfInBounds j) ?_ ?_ (MapKept.stamped_erase p.2 j) ?_
   ·simp only[Builtin.delete_,q,a0,W,Sem.run_bind,run_underlying (i6 hm),Result.andThen_ok,MapKept.run_getObj_map c,O.qv,C,MapKept.run_setObj_map _ c,Sem.run_pure]
   ·rw[f,K];have M:(n.toList.eraseIdx j).map (·.key)=(n.toList.map (·.key)).eraseIdx j:=by simp only[WQ,Wu,YP,Za]
    have N:(l.eraseIdx j).map (λa=>enc a.1)=(l.map (λa=>enc a.1)).eraseIdx j:=by simp only[WQ,Wu,YP,Za]
    rw[M,N,d];simp[V7,Yx]
   ·rw[f,K];have M:(n.toList.eraseIdx j).map (·.val)=(n.toList.map (·.val)).eraseIdx j:=by simp only[WQ,Wu,YP,Za]
    have N:(l.eraseIdx j).map (·.2)=(l.map (·.2)).eraseIdx j:=by simp only[WQ,Wu,YP,Za]
    rw[M,N,WQ,WQ];exact(m.take j).append (m.drop (j+1))
end
abbrev c7:Int->Value:=λn=>.int .i64 n
section
variable {α:Type}
def aN(k:Nat):List (Nat×α)->Option α
 | []=>none
 |(a,v)::l=>if k=a then some v else aN k l
def bS(k:Nat)(v:α):List (Nat×α)->List (Nat×α)
 | []=>[(k,v)]
 |(a,u)::l=>if k=a then(a,v)::l else(a,u)::bS k v l
def sG(k:Nat):List (Nat×α)->List (Nat×α)
 | []=>[]
 |(a,u)::l=>if k=a then l else(a,u)::sG k l
def az(l:List (Nat×α)):List Nat:=l.map (·.1)
def ib(f:α->PV)(l:List (Nat×α)):List (Int×PV):=l.map λx=>((x.1:Int),f x.2)
theorem gH(f:α->PV)(k:Nat)(l:List (Nat×α)):cQ (k:Int) (ib f l)=(aN k l).map f:=by
 induction l with
 |nil=>rfl
 |cons x l ih=>
  obtain⟨a,v⟩:=x;simp only[ib,VX,cQ,aN];by_cases h:k=a
  ·simp[h]
  ·rw[Vk h,Vk (by omega)];exact ih
theorem sX(f:α->PV)(k:Nat)(v:α)(l:List (Nat×α)):ir (k:Int) (f v) (ib f l)=ib f (bS k v l):=by
 induction l with
 |nil=>rfl
 |cons x l ih=>
  obtain⟨a,u⟩:=x;simp only[ib,VX,ir,bS];by_cases h:k=a
  ·simp[h]
  ·rw[Vk h,Vk (by omega)];simp only[VX];exact V1 _ ih
theorem JU(f:α->PV)(k:Nat)(l:List (Nat×α)):qy (k:Int) (ib f l)=ib f (sG k l):=by
 induction l with
 |nil=>rfl
 |cons x l ih=>
  obtain⟨a,u⟩:=x;simp only[ib,VX,qy,sG];by_cases h:k=a
  ·simp[h]
  ·rw[Vk h,Vk (by omega)];simp only[VX];exact V1 _ ih
theorem fI(j k:Nat)(v:α)(l:List (Nat×α)):aN j (bS k v l)=if j=k then some v else aN j l:=by
 induction l with
 |nil=>simp only[bS,aN]
 |cons x l ih=>
  obtain⟨a,u⟩:=x;simp only[bS];by_cases h:k=a
  ·subst h;rw[Vn rfl];simp only[aN];by_cases h2:j=k
   ·simp[h2]
   ·simp[h2]
  ·rw[Vk h];simp only[aN,ih];by_cases h2:j=a
   ·rw[Vn h2,Vn h2,Vk (by omega)]
   ·simp only[Vk h2]
theorem mE{k:Nat}{l:List (Nat×α)}:aN k l=none↔k∉az l:=by
 induction l with
 |nil=>simp[aN,az]
 |cons x l ih=>
  obtain⟨a,u⟩:=x;simp only[aN,az,VX,V9,not_or];by_cases h:k=a
  ·simp[h]
  ·rw[Vk h,ih];simp[h,az]
theorem Hi{k:Nat}{l:List (Nat×α)}{v}(h:aN k l=some v):(k,v)∈l:=by
 induction l with
 |nil=>cases h
 |cons x l ih=>
  obtain⟨a,u⟩:=x;simp only[aN]at h;split at h
  ·rename_i e;cases h;subst e;exact VC ..
  ·exact VB _ (ih h)
theorem Kq{k:Nat}{l:List (Nat×α)}{v}(hn:(az l).Nodup)(h:(k,v)∈l):aN k l=some v:=by
 induction l with
 |nil=>cases h
 |cons x l ih=>
  obtain⟨a,u⟩:=x;simp only[az,VX,Wv]at hn;simp only[aN];rcases V9.1 h with h|h
  ·cases h;rw[Vn rfl]
  ·rw[Vk (λe=>hn.1 (by rw[<-e];exact Vv.2 ⟨(k,v),h,rfl⟩))];exact ih hn.2 h
theorem Bv(j k:Nat){l:List (Nat×α)}(hn:(az l).Nodup):aN j (sG k l)=if j=k then none else aN j l:=by
 induction l with
 |nil=>simp[sG,aN]
 |cons x l ih=>
  obtain⟨a,u⟩:=x;simp only[az,VX,Wv]at hn;simp only[sG];by_cases h:k=a
  ·subst h;rw[Vn rfl];simp only[aN];by_cases h2:j=k
   ·subst h2;rw[Vn rfl];exact mE.2 hn.1
   ·simp only[Vk h2]
  ·rw[Vk h];simp only[aN,ih hn.2];by_cases h2:j=a
   ·rw[Vn h2,Vn h2,Vk (by omega)]
   ·simp only[Vk h2]
theorem vi(k:Nat)(v:α)(l:List (Nat×α)):az (bS k v l)=if k∈az l then az l else az l++[k]:=by
 induction l with
 |nil=>simp[bS,az]
 |cons x l ih=>
  obtain⟨a,u⟩:=x;simp only[bS];by_cases h:k=a
  ·subst h;simp[az]
  ·rw[Vk h];have:az ((a,u)::bS k v l)=a::az (bS k v l):=rfl;rw[this,ih];have e:az ((a,u)::l)=a::az l:=rfl;rw[e];simp only[V9,h,false_or];split<;>simp
theorem nD{k:Nat}{v}{l:List (Nat×α)}(h:k∈az l):az (bS k v l)=az l:=by rw[vi,Vn h]
theorem kE{j k:Nat}{v}{l:List (Nat×α)}:j∈az (bS k v l)↔j=k\/j∈az l:=by
 rw[vi];split
 ·rename_i h;exact⟨.inr,λe=>e.elim (λe=>by rw[e];exact h) id⟩
 ·simp[or_comm]
theorem pN{k:Nat}{v}{l:List (Nat×α)}(h:(az l).Nodup):(az (bS k v l)).Nodup:=by
 rw[vi];split
 ·exact h
 ·rename_i hk;exact X7.2 ⟨h,by simp,λa ha b hb=>by simp at hb;subst hb;exact λe=>hk (by rw[<-e];exact ha)⟩
theorem Nu(k:Nat)(l:List (Nat×α)):(sG k l).Sublist l:=by
 induction l with
 |nil=>exact .slnil
 |cons x l ih=>
  obtain⟨a,u⟩:=x;simp only[sG];split
  ·exact YV _ _
  ·exact ih.cons_cons _
theorem xI{k:Nat}{l:List (Nat×α)}(h:(az l).Nodup):(az (sG k l)).Nodup:=h.sublist ((Nu k l).map _)
theorem jU{k:Nat}{v}{l:List (Nat×α)}(h:aN k l=some v):bS k v l=l:=by
 induction l with
 |nil=>cases h
 |cons x l ih=>
  obtain⟨a,u⟩:=x;simp only[aN]at h;simp only[bS];split
  ·rename_i e;rw[Vn e]at h;cases h;rfl
  ·rename_i e;rw[Vk e]at h;rw[ih h]
theorem CN(k:Nat)(u v:α)(l:List (Nat×α)):bS k v (bS k u l)=bS k v l:=by
 induction l with
 |nil=>simp[bS]
 |cons x l ih=>
  obtain⟨a,w⟩:=x;simp only[bS];by_cases e:k=a
  ·rw[Vn e];simp[bS,e]
  ·rw[Vk e];simp only[bS];rw[Vk e,Vk e,ih]
theorem zy(f:α->PV)(l:List (Nat×α)):(ib f l).map (·.1)=(az l).map Int.ofNat:=by simp[ib,az]
instance (f:α->PV) (l:List (Nat×α)) [h:∀a,IsPure (f a)]:aM ((bD c7 (ib f l)).map (·.2)):=by
 have:(bD c7 (ib f l)).map (·.2)=l.map λx=>f x.2:=by simp[bD,ib]
 rw[this];exact aM.map _ _ λa=>h a.2
def lR(g:α->α)(l:List (Nat×α)):List (Nat×α):=l.map λx=>(x.1,g x.2)
theorem gS(g:α->α)(k:Nat)(l:List (Nat×α)):aN k (lR g l)=(aN k l).map g:=by
 induction l with
 |nil=>rfl
 |cons x l ih=>
  obtain⟨a,u⟩:=x;simp only[lR,VX,aN];split
  ·rfl
  ·exact ih
theorem keys_map(g:α->α)(l:List (Nat×α)):az (lR g l)=az l:=by simp[az,lR]
def bL(S:List Nat)(g:Nat->α->α)(l:List (Nat×α)):List (Nat×α):=l.map λx=>(x.1,if x.1∈S then g x.1 x.2 else x.2)
theorem ll(S:List Nat)(g:Nat->α->α)(l:List (Nat×α)):az (bL S g l)=az l:=by simp[az,bL]
theorem jP(g:Nat->α->α)(l:List (Nat×α)):bL [] g l=l:=by simp[bL]
theorem iX{S:List Nat}{g:Nat->α->α}{o:Nat}{l:List (Nat×α)}:aN o (bL S g l)=(aN o l).map λv=>if o∈S then g o v else v:=by
 induction l with
 |nil=>rfl
 |cons x l ih=>
  obtain⟨a,u⟩:=x;simp only[bL,VX,aN];by_cases h:o=a
  ·subst h;simp
  ·rw[Vk h,Vk h];exact ih
theorem HF{S:List Nat}{g:Nat->α->α}{o:Nat}{l:List (Nat×α)}(h:o∉az l):bL (S++[o]) g l=bL S g l:=by
 refine Wh λx hx=>?_;have:x.1≠o:=λe=>h (by rw[<-e];exact Vv.2 ⟨x,hx,rfl⟩);simp[this]
theorem jQ{S:List Nat}{g:Nat->α->α}{o:Nat}{v}{l:List (Nat×α)}(hn:(az l).Nodup)(h:aN o l=some v):bS o (g o v) (bL S g l)=bL (S++[o]) g l:=by
 induction l with
 |nil=>cases h
 |cons x l ih=>
  obtain⟨a,u⟩:=x;simp only[az,VX,Wv]at hn;simp only[aN]at h;have b:∀S,bL S g ((a,u)::l)=(a,if a∈S then g a u else u)::bL S g l:=λ_=>rfl;rw[b,b];simp only[bS];split at h
  ·rename_i e;cases h;subst e;rw[Vn rfl,HF hn.1,Vn (by simp)]
  ·rename_i e;rw[Vk e,ih hn.2 h];congr 2;have:a≠o:=λc=>e c.symm;simp[this]
theorem mJ{S:List Nat}{g:Nat->α->α}{l:List (Nat×α)}(h:∀x∈az l,x∈S):bL S g l=l.map λx=>(x.1,g x.1 x.2):=by
 refine Wh λx hx=>?_;rw[Vn (h x.1 (Vv.2 ⟨x,hx,rfl⟩))]
end
section
variable {P:Program} {σ:bH} {t:cd} {o:Oper}
theorem MM{x y ty d}{k e:IntKind}{a n c:Nat}(ho:o.op= .binOp .shr ty x y d)(hx:aI t x=some (.raw (.int k (a:Int))))(hy:aI t y=some (.raw (.int e (n:Int))))(hn:n<=k.bits)(hc:a / 2 ^ n=c):bE P σ t o (.raw (.int k (c:Int))):=
 yB ho hx hy λw=>by
  have h0:¬((n:Int)<0):=by omega
  have b:((a:Int).fdiv (2 ^ n))=(c:Int):=by
   rw[Int.fdiv_eq_ediv_of_nonneg _ (Int.le_of_lt (Int.pow_pos (by decide))),<-hc]
   norm_cast
  simp[eqGuard,binOp,Op.shift,h0,Xe hn,b]
theorem Qw{x y ty d}{k e:IntKind}{a n c:Nat}(ho:o.op= .binOp .shl ty x y d)(hx:aI t x=some (.raw (.int k (a:Int))))(hy:aI t y=some (.raw (.int e (n:Int))))(hn:n<=k.bits)(hc:a*2 ^ n=c)(hw:k.wrap (c:Int)=(c:Int)):bE P σ t o (.raw (.int k (c:Int))):=
 yB ho hx hy λw=>by
  have h0:¬((n:Int)<0):=by omega
  have b:(a:Int)*2 ^ n=(c:Int):=by rw[<-hc];norm_cast
  simp[eqGuard,binOp,Op.shift,h0,Xe hn,b,hw]
theorem SX{x y ty f}{a b c:Nat}(ho:o.op= .binOp .or ty x y f)(hx:aI t x=some (.raw (.int .u64 (a:Int))))(hy:aI t y=some (.raw (.int .u64 (b:Int))))(ha:a % 256=0)(hb:b<256)(hc:a+b=c)(hw:c<18446744073709551616):bE P σ t o (.raw (.int .u64 (c:Int))):=
 jJ ho hx hy λw=>by
  have h1:a|||b=c:=by
   have:=Nat.two_pow_add_eq_or_of_lt (i:=8) (b:=b) (by simpa using hb) (a / 256);rw[<-hc,show a+b=2 ^ 8*(a / 256)+b by omega,this];congr 1;omega
  have h2:((BitVec.ofInt 64 (a:Int))|||(BitVec.ofInt 64 (b:Int))).toNat=c:=by
   rw[BitVec.toNat_or];simp only[BitVec.ofInt_natCast,BitVec.toNat_ofNat];rw[Yk (by omega),Yk (by omega),h1]
  have d:IntKind.u64.wrap (c:Int)=(c:Int):=by rw[IntKind.wrap_u64];omega
  have e:(binOp .or ty (.int .u64 (a:Int)) (.int .u64 (b:Int))).run P w=((pure (.int .u64 (IntKind.u64.wrap (((BitVec.ofInt 64 (a:Int))|||(BitVec.ofInt 64 (b:Int))).toNat:Int))):Sem Value)).run P w:=rfl;rw[e,h2,d]
  rfl
theorem lF(n:Nat)(h:n<18446744073709551616):IntKind.u64.wrap (n:Int)=(n:Int):=by rw[IntKind.wrap_u64];omega
theorem Mh(n:Nat):IntKind.u8.wrap (n:Int)=((n % 256:Nat):Int):=by rw[IntKind.wrap_u8];omega
theorem lh(n:Nat)(h:n<9223372036854775808):IntKind.i64.wrap (n:Int)=(n:Int):=l3 ⟨by omega,by omega⟩
end
def ei(L:List Nat):List PV:=L.map fun(n:Nat)=>PV.raw (.int .u8 (n:Int))
def cE(L:List Nat):PV:=.slice L.length (ei L)
theorem pz.map{α:Type}(f:α->PV)(l:List α)(h:∀a,nm (f a)):pz (l.map f):=⟨λi u hu=>by
 rw[Vt]at hu;cases e:l[i]? with
 |none=>rw[e]at hu;cases hu
 |some a=>rw[e]at hu;cases hu;exact h a⟩
instance (L:List Nat):aM (ei L):=aM.map _ _ λ_=>inferInstance
instance (L:List Nat):di (ei L):=di.map _ _ λ_=>inferInstance
instance (L:List Nat):IsPure (cE L):=by unfold cE;infer_instance
instance (L:List Nat):gN (cE L):=by unfold cE;infer_instance
theorem lr(L:List Nat):(ei L).length=L.length:=by simp[ei]
theorem rL(L:List Nat)(i:Nat)(h:i<L.length):(ei L)[i]? =some (.raw (.int .u8 ((L.getD i 0:Nat):Int))):=by simp[ei,h]
theorem B7(L M:List Nat):ei L++ei M=ei (L++M):=by simp[ei]
def sr(L:List Nat):Prop:=∀x∈L,x<256
theorem sr.get{L:List Nat}(h:sr L){i:Nat}(hi:i<L.length):L.getD i 0<256:=h _ (b9 hi)
theorem sr.append{L M:List Nat}(h:sr L)(k:sr M):sr (L++M):=λx hx=>(W5.1 hx).elim (h x) (k x)
theorem sr.cons{a:Nat}{L:List Nat}(ha:a<256)(h:sr L):sr (a::L):=λx hx=>by
 cases hx with
 |head=>exact ha
 |tail _ hx=>exact h x hx
theorem sr.nil:sr []:=λx hx=>by simp at hx
def fw:Nat->Nat->List Nat
 |0,_=>[]
 |s+1,n=>(n / 2 ^ (8*s) % 256)::fw s n
theorem bK:∀(s n:Nat),(fw s n).length=s
 |0,_=>rfl
 |s+1,n=>by simp[fw,bK s n]
theorem fX:∀(s n:Nat),sr (fw s n)
 |0,_=>sr.nil
 |s+1,n=>.cons (YW _ (by decide)) (fX s n)
def Ga(c:Nat)(L:List Nat):Nat:=L.foldl (λn x=>n*256+x) c
theorem Gb:∀(s n c:Nat),Ga c (fw s n)=c*256 ^ s+n % 256 ^ s
 |0,n,c=>by simp[Ga,fw,Nat.mod_one]
 |s+1,n,c=>by
  show Ga (c*256+n / 2 ^ (8*s) % 256) (fw s n)=_;rw[Gb s n];have h1:(2:Nat) ^ (8*s)=256 ^ s:=by rw[Nat.pow_mul]
  have h2:n % 256 ^ (s+1)=n % 256 ^ s+256 ^ s*(n / 256 ^ s % 256):=by rw[Nat.pow_succ,Nat.mod_mul]
  rw[h1,h2,Zq,Nat.mul_assoc,<-Nat.pow_succ',Nat.mul_comm (n / 256 ^ s % 256),Nat.succ_eq_add_one];omega
theorem Qq{s n:Nat}(h:n<256 ^ s):Ga 0 (fw s n)=n:=by rw[Gb,Yk h];omega
theorem Mi:∀ {L:List Nat} {c:Nat},sr L->Ga c L<(c+1)*256 ^ L.length
 | [],c,_=>by simp[Ga]
 |x::L,c,h=>by
  have h1:=Mi (L:=L) (c:=c*256+x) (λy hy=>h y (VB _ hy));have h2:=h x (VC ..);show Ga (c*256+x) L<_;refine VS h1 ?_;rw[VI,Nat.pow_succ,<-Nat.mul_assoc,Nat.mul_right_comm];exact XD _ (by omega)
theorem Mj(L:List Nat)(x c:Nat):Ga c (L++[x])=Ga c L*256+x:=by simp[Ga]
def oA(p:Nat×Nat)(L:List Nat):Nat×Nat:=L.foldl (λp x=>((p.1+x) % 255,(p.2+(p.1+x) % 255) % 255)) p
theorem J9(p:Nat×Nat)(L:List Nat)(x:Nat):oA p (L++[x])=(((oA p L).1+x) % 255,((oA p L).2+((oA p L).1+x) % 255) % 255):=by simp[oA]
theorem zm(L:List Nat):(oA (0,0) L).1<255/\(oA (0,0) L).2<255:=by
 suffices h:∀(L:List Nat) (p:Nat×Nat),p.1<255/\p.2<255->(oA p L).1<255/\(oA p L).2<255 from h L (0,0) ⟨by decide,by decide⟩
 intro L;induction L with
 |nil=>exact λp h=>h
 |cons x L ih=>exact λp h=>ih _ ⟨YW _ (by decide),YW _ (by decide)⟩
theorem u7(p:Nat×Nat)(L M:List Nat):oA p (L++M)=oA (oA p L) M:=by simp[oA]
def wx(L:List Nat):Nat:=(510 - (oA (0,0) L).1 - (oA (0,0) L).2) % 255
def wz(L:List Nat):Nat:=(oA (0,0) L).2
def r7(L:List Nat):List Nat:=L++[wx L,wz L]
theorem y6(L:List Nat):wx L<255/\wz L<255:=⟨YW _ (by decide),(zm L).2⟩
theorem CK(L:List Nat):oA (0,0) (r7 L)=(0,0):=by
 have h:=zm L;unfold r7 wx wz;rw[u7];generalize oA (0,0) L=p at h;obtain⟨a,b⟩:=p;simp only[oA,Xn,Zj,Xp]at h ⊢;omega
theorem Is{L:List Nat}(h:sr L):sr (r7 L):=h.append (.cons (by have:=(y6 L).1;omega) (.cons (by have:=(y6 L).2;omega) .nil))
theorem yh(L:List Nat):(r7 L).length=L.length+2:=by simp[r7]
structure Rc where
 k:Nat
 v:List Nat
def qK(r:Rc):List Nat:=r.k::r.v.length / 256::r.v.length % 256::r.v
def je(l:List Rc):List Nat:=l.flatMap qK
theorem pF(l:List Rc)(r:Rc):je (l++[r])=je l++qK r:=by simp[je]
structure Rc.Ok (r:Rc):Prop where
 k0:0<r.k
 k1:r.k<256
 len:r.v.length<=65535
 Us:sr r.v
def nQ(r:Rc):List PV:=[num (r.k:Int),cE r.v]
def iK(l:List Rc):List PV:=l.flatMap nQ
def wJ(l:List Rc):PV:=.slice l.length (iK l)
instance (r:Rc):aM (nQ r):=by unfold nQ;infer_instance
instance (r:Rc):di (nQ r):=by unfold nQ;infer_instance
instance (l:List Rc):aM (iK l):=Ym _ _ λ_=>inferInstance
instance (l:List Rc):IsPure (wJ l):=by unfold wJ;infer_instance
def EA:Rc:=⟨0,[]⟩
theorem rV(l:List Rc):(iK l).length=l.length*2:=by
 unfold iK;induction l with
 |nil=>rfl
 |cons a l ih=>rw[Wm,Vu,ih,VI,XL];simp[nQ];omega
theorem mQ(l:List Rc)(a:Rc):iK l++nQ a=iK (l++[a]):=by simp[iK]
theorem Ct(l:List Rc)(i:Nat)(hi:i<l.length):((iK l).drop (i*2)).take 2=nQ (l.getD i EA):=by
 induction l generalizing i with
 |nil=>simp at hi
 |cons a l ih=>
  cases i with
  |zero=>rfl
  |succ i=>
   have h:=ih i (by simpa using hi);have:(iK (a::l)).drop ((i+1)*2)=(iK l).drop (i*2):=by
    rw[show(i+1)*2=i*2+2 by omega]
    rfl
   rw[this,h]
   rfl
theorem LF{r:Rc}(h:r.Ok):sr (qK r):=.cons h.k1 (.cons (by have:=h.len;omega) (.cons (YW _ (by decide)) h.Us))
theorem J2{l}(h:∀r∈l,r.Ok):sr (je l):=λx hx=>by
 obtain⟨r,h1,h2⟩:=Y2.1 hx;exact LF (h r h1) x h2
theorem lA(n:Int)(h: -1000000<n/\n<1000000):Can prog 234 [num n] (· =num (n % 255)):=by
 refine aR func234 I ntmps234 I<|aj (.a 1 I<|.k [0] I) ?_;have h1:(n.tmod 255+255).tmod 255=n % 255:=by
  rw[WD (by have:=Int.tmod_lt_of_pos n (show(0:Int)<255 by decide);have:=Int.lt_tmod_of_pos n (show(0:Int)<255 by decide);omega),Int.add_emod_right];have:=Int.mul_tdiv_add_tmod n 255;omega
 have h2:=Int.tmod_lt_of_pos n (show(0:Int)<255 by decide);have a:=Int.lt_tmod_of_pos n (show(0:Int)<255 by decide);exact aj (.a 1 I<|.v (l4 I I I (by decide) I) I<|.v (aU I) I<|.v (l4 I I I (by decide) (h1)) I<|.a 1 I<|.k [2] I)<|aA<|jF I aQ.pure rfl
theorem Ps(L:List Nat)(e:sr L)(hl:L.length<=1000000):Can prog 208 [num 0,num 0,cE L] (· = .tuple [num (oA (0,0) L).1,num (oA (0,0) L).2]):=by
 refine aR func208 I ntmps208 I<|aj (.a 2 I<|.k [0,1,2] I)<|aj (.a 1 I<|.c rfl (lA 0 (by omega)) I<|.a 1 I<|.c rfl (lA 0 (by omega)) I<|.a 2 I<|.k [0,1,2] I)<|an<|aj (.a 3 I<|.k [0,1,14,15,16] I)<|ay<|eX [0,1,14,15,16] I<|bq (λr s=>∃k,k<=L.length/\r=L.length - k/\s=⟨[(0,num (oA (0,0) (L.take k)).1),(1,num (oA (0,0) (L.take k)).2),(14,cE L),(15,num L.length),(16,num k)],[]⟩) L.length ⟨0,by omega,by omega,rfl⟩ ?_;rintro r s ⟨k,hk,rfl,rfl⟩;refine aj (.a 1 I<|.k [0,1,14,15,16,17] I)<|an<|ak I (λhc=>?_) (λhc=>?_)
 ·have hlt:k<L.length:=by have:=Vg hc;omega
  have hx:=e.get hlt;have a:=J9 (0,0) (L.take k) (L.getD k 0);rw[<-cL L k 0 hlt]at a;obtain⟨c,d⟩:=zm (L.take k);generalize oA (0,0) (L.take k)=p at a c d;refine ao<|an<|ay<|aj (.v (aX (k) I) I<|.v (aO I (rL L k hlt)) I<|.a 1 I<|.k [0,1,9,14,15,16] I)<|aj (.a 2 I<|.v (eE I Tryz.underlying5 Tryz.underlying3 rfl (lh _ (by omega))) I<|.v (aU I) I<|.v (l4 I I I (by decide) ((show((p.1:Int)+((L.getD k 0:Nat):Int)).tmod 255=(((p.1+L.getD k 0) % 255:Nat):Int) by rw[WD (by omega)];omega))) I<|.a 1 I<|.k [0,1,14,15,16] I)<|aL (.a 2 I<|.v (aU I) I<|.v (l4 I I I (by decide) ((show((p.2:Int)+(((p.1+L.getD k 0) % 255:Nat):Int)).tmod 255=(((p.2+(p.1+L.getD k 0) % 255) % 255:Nat):Int) by rw[WD (by omega)];omega))) I<|.a 1 I<|.k [0,1,14,15,16] I) ?_;refine aL (.v (aU I) I<|.a 1 I<|.k [0,1,14,15,16] I)<|⟨L.length - (k+1),by omega,k+1,by omega,rfl,by rw[a];rfl⟩
 ·have b:k=L.length:=by have:=Vj hc;omega
  rw[b,VN];exact bh<|aj (.a 4 I<|.k [6,7] I)<|aA<|jF I aQ.pure rfl
theorem F6(L:List Nat)(a:sr L)(hl:L.length<=1000000):Can prog 152 [cE L] (· = .tuple [num (oA (0,0) L).1,num (oA (0,0) L).2]):=by
 exact aR func152 I ntmps152 I<|aj (.a 2 I<|.k [0] I)<|aj (.a 1 I<|.c rfl (Ps L a hl) I<|.a 4 I<|.k [2,3] I)<|aA<|jF I aQ.pure rfl
theorem u4(L:List Nat)(a:sr L)(hl:L.length<=1000000)(h:oA (0,0) L=(0,0)):Can prog 111 [cE L] (· =flag true):=by
 have hs:=F6 L a hl;rw[h]at hs;exact aR func111 I ntmps111 I<|aj (.a 1 I<|.k [0] I)<|aj (.a 1 I<|.c rfl (hs) I<|.a 5 I<|.k [3,4] I)<|aj (.a 7 I<|.k [2] I)<|aA<|jF I aQ.pure rfl
inductive Up (k:Nat):PV->PV->Prop
 |pure {p:PV} [IsPure p]:Up k p p
 |own {i j:Nat}:j=k+i->Up k (.own i) (.own j)
 |ptr {i j o:Nat}:j=k+i->Up k (.ptr i o) (.ptr j o)
 |agg {xs ys:List PV} (hl:ys.length=xs.length) (hs:∀(j:Nat) x y,xs[j]? =some x->ys[j]? =some y->Up k x y):Up k (.agg xs) (.agg ys)
 |tuple {xs ys:List PV} (hl:ys.length=xs.length) (hs:∀(j:Nat) x y,xs[j]? =some x->ys[j]? =some y->Up k x y):Up k (.tuple xs) (.tuple ys)
 |func {f:FuncId} {xs ys:List PV} (hl:ys.length=xs.length) (hs:∀(j:Nat) x y,xs[j]? =some x->ys[j]? =some y->Up k x y):Up k (.func f xs) (.func f ys)
def su(k:Nat)(xs ys:List PV):Prop:=ys.length=xs.length/\∀(j:Nat) x y,xs[j]? =some x->ys[j]? =some y->Up k x y
theorem su.nil{k:Nat}:su k [] []:=⟨rfl,λj x y h=>by simp at h⟩
theorem su.cons{k:Nat}{x y xs ys}(h:Up k x y)(hs:su k xs ys):su k (x::xs) (y::ys):=⟨by simp[hs.1],λj a b h1 h2=>by
 cases j with
 |zero=>simp at h1 h2;subst h1;subst h2;exact h
 |succ j=>exact hs.2 j a b (by simpa using h1) (by simpa using h2)⟩
theorem su.pure{k:Nat}{xs}[h:aM xs]:su k xs xs:=⟨rfl,λj x y h1 h2=>by
 rw[h1]at h2;cases h2;haveI:=h.out j x h1;exact Up.pure⟩
abbrev ZH:=@su.pure
theorem Up.iV{k:Nat}{xs ys}(h:su k xs ys):Up k (.agg xs) (.agg ys):=.agg h.1 h.2
theorem Up.cM{k:Nat}{xs ys}(h:su k xs ys):Up k (.tuple xs) (.tuple ys):=.tuple h.1 h.2
inductive Qy (k:Nat):cj->cj->Prop
 |cells {ty:TypeId} {xs ys:List PV}:su k xs ys->Qy k (.cells ty xs) (.cells ty ys)
 |row {e s n:Nat} {xs ys:List PV}:su k xs ys->Qy k (.row e s n xs) (.row e s n ys)
 |mp {kv:List (Value×PV)} [aM (kv.map (·.2))]:Qy k (.mp kv) (.mp kv)
def nf(k:Nat)(xs ys:List cj):Prop:=ys.length=xs.length/\∀(j:Nat) x y,xs[j]? =some x->ys[j]? =some y->Qy k x y
theorem nf.nil{k:Nat}:nf k [] []:=⟨rfl,λj x y h=>by simp at h⟩
theorem nf.cons{k:Nat}{x y xs ys}(h:Qy k x y)(hs:nf k xs ys):nf k (x::xs) (y::ys):=⟨by simp[hs.1],λj a b h1 h2=>by
 cases j with
 |zero=>simp at h1 h2;subst h1;subst h2;exact h
 |succ j=>exact hs.2 j a b (by simpa using h1) (by simpa using h2)⟩
abbrev ZB:=@nf.cons
section
variable {E E1 E2:Env} {w:World} {k:Nat}
theorem Up.rep(d:∀i,i<E1.L->E2.at_ (k+i)=E1.at_ i/\k+i<E2.L)(hM:∀b,E2.M b->E1.M b){p q}(h:Up k p q):∀v,dj E1 w v p->dj E2 w v q:=by
 induction h with
 | @pure p hp=>
  intro v h;have:=hp.out E1 E2.M w v hM h;exact this.goes (E:=EF E2.M) (E':=E2) (w:=w) (w':=w) ⟨We _,λi hi=>absurd hi (WL i),λ_ _ h=>h,Vh _,λ_ _ _=>rfl⟩
 | @own i j e=>
  intro v h;subst e;cases h with
  |own _ hi _ h hs=>exact .own _ (d i hi).2 v ((d i hi).1.trans h) hs
 | @ptr i j o e=>
  intro v h;subst e;cases h with
  |ptr _ _ b hi h=>exact .ptr _ o b (d i hi).2 (by rw[(d i hi).1];exact h)
 | @agg xs ys hl _ ih=>
  intro v h;cases h with
  |agg cs _ a hr=>exact .agg cs ys (a.trans hl.symm) (λj c u h1 h2=>by
    have hj:j<xs.length:=by rw[<-hl];exact(Vf.1 h2).1
    exact ih j xs[j] u (by simp[hj]) h2 c (hr j c _ h1 (by simp[hj])))
 | @tuple xs ys hl _ ih=>
  intro v h;cases h with
  |tuple cs _ a hr=>exact .tuple cs ys (a.trans hl.symm) (λj c u h1 h2=>by
    have hj:j<xs.length:=by rw[<-hl];exact(Vf.1 h2).1
    exact ih j xs[j] u (by simp[hj]) h2 c (hr j c _ h1 (by simp[hj])))
 | @func f xs ys hl _ ih=>
  intro v h;cases h with
  |func _ cs _ a hr=>exact .func f cs ys (a.trans hl.symm) (λj c u h1 h2=>by
    have hj:j<xs.length:=by rw[<-hl];exact(Vf.1 h2).1
    exact ih j xs[j] u (by simp[hj]) h2 c (hr j c _ h1 (by simp[hj])))
theorem su.rep(a:∀i,i<E1.L->E2.at_ (k+i)=E1.at_ i/\k+i<E2.L)(hM:∀b,E2.M b->E1.M b){xs ys}(h:su k xs ys){cs}(hs:bn E1 w cs xs):bn E2 w cs ys:=⟨hs.1.trans h.1.symm,λj c u h1 h2=>by
 have hj:j<xs.length:=by rw[<-h.1];exact(Vf.1 h2).1
 exact(h.2 j xs[j] u (by simp[hj]) h2).rep a hM c (hs.2 j c _ h1 (by simp[hj]))⟩
theorem Qy.sat{base a:Nat}(hb:a<=base)(c:∀i,i<E1.L->E2.at_ (k+i)=E1.at_ i/\k+i<E2.L)(hM:∀b,E2.M b->E1.M b){v x y}(h:Qy k x y)(hs:fV base E1 w v x):fV a E2 w v y:=by
 cases h with
 |cells h1=>
  obtain⟨b,cs,h2,d,e,f⟩:=hs;exact⟨b,cs,h2,by omega,e,h1.rep c hM f⟩
 |row h1=>
  obtain⟨cs,h2,d⟩:=hs;refine⟨cs,⟨h2.1,?_⟩,h1.rep c hM d⟩;rcases h2.2 with h|⟨g,cap,cur,j,a2,a3⟩
  ·exact .inl h
  ·exact .inr ⟨g,cap,cur,j,by omega,a3⟩
 | @mp kv hp=>
  obtain⟨r,l,ck,h2,d,e,f,m⟩:=hs;exact⟨r,l,ck,h2,by omega,e,f,ZH (k:=k).rep c hM m⟩
end
theorem aD.frame{P f ps}{σ:bH}{R:PV->bH->Prop}[aM ps]
  (h:aD P f ps [] (λr t=>∃bs,t=bs.map some/\∃r' k,Up σ.length r r'/\nf σ.length bs k/\R r' (σ++k.map some))):aD P f ps σ R:=λF base E w vs m J=>by
 refine(h E.M w.heap.size (EF E.M) w vs (Zl E.M w (λb hb=>m.lt hb) m.gl) (J.pure (λ_ h=>h))).mono ?_;rintro e w' ⟨v,r,t,g,rfl,⟨bs,rfl,r',k,hu,p,B⟩,d,K,z,hv⟩;have H:Ext w w':=z.toBelow;have A:g.L=bs.length:=by rw[d.len];simp
 have s:((List.range bs.length).map g.at_).length=k.length:=by rw[Wf,Yd,p.1]
 have a:∀(i:Nat) v,((List.range bs.length).map g.at_)[i]? =some v->i<bs.length/\v=g.at_ i:=λi v hi=>by
  have q:i<bs.length:=by have:=(Vf.1 hi).1;simpa using this
  rw[Vt,YH q]at hi;cases hi;exact⟨q,rfl⟩
 have l:∀i,i<bs.length->∃x,bs[i]? =some x/\(bs.map some)[i]? =some (some x):=λi hi=>⟨bs[i],by simp[hi],by simp[hi]⟩;have o:∀i,i<g.L->(E.fD ((List.range bs.length).map g.at_)).at_ (σ.length+i)=g.at_ i/\σ.length+i<(E.fD ((List.range bs.length).map g.at_)).L:=λi hi=>by
  rw[A]at hi;refine⟨?_,?_⟩
  ·simp only[Env.fD,m.len];rw[Vk (by omega),XT,Qo,Vt,YH hi]
   rfl
  ·simp only[Env.fD,m.len,Wf,Yd];omega
 have hM:∀b,(E.fD ((List.range bs.length).map g.at_)).M b->g.M b:=λb hb=>by
  rcases hb with hb|⟨v,n,D⟩
  ·exact(d.mm b).2 (.inl hb)
  ·obtain⟨i,hi⟩:=W8 n;obtain⟨c,rfl⟩:=a i v hi;obtain⟨x,_,hx⟩:=l i c;exact(d.mm b).2 (.inr ⟨i,x,hx,D⟩)
 have hp:=m.fD H ((List.range bs.length).map g.at_) k s
  (λv n b hb=>by
   obtain⟨i,hi⟩:=W8 n;obtain⟨c,rfl⟩:=a i v hi;obtain⟨x,_,hx⟩:=l i c;exact((d.blk i x hx).lt hb).1)
  (λi j u v b hi hj hu hv=>by
   obtain⟨c,rfl⟩:=a i u hi;obtain⟨C,rfl⟩:=a j v hj;obtain⟨x,_,hx⟩:=l i c;obtain⟨y,_,hy⟩:=l j C;exact d.inj i j x y b hx hy hu hv)
  (λi v blk hi hb=>by
   obtain⟨c,rfl⟩:=a i v hi;obtain⟨x,G,hx⟩:=l i c;exact(p.2 i x blk G hb).sat m.bl o hM (d.blk i x hx))
 exact⟨v,r',_,_,rfl,B,hp.1,hp.2,Zz H m,hu.rep o hM v hv⟩
def un:List Nat->bH->Nat->Bool
 |j::fs,some _::σ,i=> !(Nat.beq j i)&&un fs σ i
 |_::fs,none::σ,i=>un fs σ i
 |_,_,_=>true
theorem Mk:∀ {fs:List Nat} {σ} {k i:Nat} {b},fs[k]? =some i->σ[k]? =some (some b)->un fs σ i=false
 | [],_,k,i,b,h,_=>by simp at h
 |_::_,[],k,i,b,_,h=>by simp at h
 |j::fs,some c::σ,0,i,b,h1,h2=>by
  simp at h1;subst h1;simp[un,Yg]
 |j::fs,none::σ,0,i,b,h1,h2=>by simp at h2
 |j::fs,some c::σ,k+1,i,b,h1,h2=>by
  have:=Mk (fs:=fs) (σ:=σ) (k:=k) (i:=i) (b:=b) (by simpa using h1) (by simpa using h2);simp[un,this]
 |j::fs,none::σ,k+1,i,b,h1,h2=>Mk (fs:=fs) (σ:=σ) (k:=k) (i:=i) (b:=b) (by simpa using h1) (by simpa using h2)
inductive Vw (σ:bH) (fs:List Nat) (u:Nat->Bool):PV->PV->Prop
 |pure {p:PV} [IsPure p]:Vw σ fs u p p
 |cg:Vw σ fs u (.raw (.slice none 0 0)) (.slice 0 [])
 |own {i k:Nat}:fs[k]? =some i->Vw σ fs u (.own i) (.own k)
 |ptr {i k o:Nat}:fs[k]? =some i->Vw σ fs u (.ptr i o) (.ptr k o)
 |Ut {i e s n:Nat} {xs ys:List PV} (h:σ[i]? =some (some (.row e s n xs))) (hi:u i=true) (hl:xs.length=ys.length) (hs:∀(j:Nat) x y,xs[j]? =some x->ys[j]? =some y->Vw σ fs u x y):Vw σ fs u (.own i) (.slice n ys)
 |Uu {i k:Nat} {blk:cj} {ys:List PV} (h:σ[i]? =some (some blk)) (hi:u i=true) (hl:blk.xs.length=ys.length) (hs:∀(j:Nat) x y,blk.xs[j]? =some x->ys[j]? =some y->Vw σ fs u x y):Vw σ fs u (.ptr i k) (.cH ys k)
 |agg {xs ys:List PV} (hl:xs.length=ys.length) (hs:∀(j:Nat) x y,xs[j]? =some x->ys[j]? =some y->Vw σ fs u x y):Vw σ fs u (.agg xs) (.agg ys)
 |tuple {xs ys:List PV} (hl:xs.length=ys.length) (hs:∀(j:Nat) x y,xs[j]? =some x->ys[j]? =some y->Vw σ fs u x y):Vw σ fs u (.tuple xs) (.tuple ys)
 |func {f:FuncId} {xs ys:List PV} (hl:xs.length=ys.length) (hs:∀(j:Nat) x y,xs[j]? =some x->ys[j]? =some y->Vw σ fs u x y):Vw σ fs u (.func f xs) (.func f ys)
def S4(σ:bH)(fs:List Nat)(u:Nat->Bool)(xs ys:List PV):Prop:=xs.length=ys.length/\∀(j:Nat) x y,xs[j]? =some x->ys[j]? =some y->Vw σ fs u x y
section
variable {σ:bH} {fs:List Nat} {u:Nat->Bool}
theorem S4.nil:S4 σ fs u [] []:=⟨rfl,λj x y h=>by simp at h⟩
theorem S4.pure{xs}[h:aM xs]:S4 σ fs u xs xs:=⟨rfl,λj x y h1 h2=>by
 rw[h1]at h2;cases h2;haveI:=h.out j x h1;exact Vw.pure⟩
inductive Mv (g:Nat->Nat):PV->PV->Prop
 |flat {p:PV} [nm p]:Mv g p p
 |any {p:PV}:Mv g p .any
 |own {i j:Nat}:g i=j->Mv g (.own i) (.own j)
 |ptr {i j o:Nat}:g i=j->Mv g (.ptr i o) (.ptr j o)
 |agg {xs ys:List PV} (hl:ys.length=xs.length) (hs:∀(j:Nat) x y,xs[j]? =some x->ys[j]? =some y->Mv g x y):Mv g (.agg xs) (.agg ys)
 |tuple {xs ys:List PV} (hl:ys.length=xs.length) (hs:∀(j:Nat) x y,xs[j]? =some x->ys[j]? =some y->Mv g x y):Mv g (.tuple xs) (.tuple ys)
 |func {f:FuncId} {xs ys:List PV} (hl:ys.length=xs.length) (hs:∀(j:Nat) x y,xs[j]? =some x->ys[j]? =some y->Mv g x y):Mv g (.func f xs) (.func f ys)
def TG(g:Nat->Nat)(xs ys:List PV):Prop:=ys.length=xs.length/\∀(j:Nat) x y,xs[j]? =some x->ys[j]? =some y->Mv g x y
theorem TG.nil{g:Nat->Nat}:TG g [] []:=⟨rfl,λj x y h=>by simp at h⟩
def bk(fs:List Nat)(n j:Nat):Nat:=if j<fs.length then fs.getD j 0 else n+(j - fs.length)
end
section
variable {P:Program}
end
open Net
inductive Nw (σ:bH):PV->PV->Prop
 |flat {p:PV} [nm p]:Nw σ p p
 |cg:Nw σ (.raw (.slice none 0 0)) (.slice 0 [])
 |own {i e s n:Nat} {xs ys:List PV} (h:σ[i]? =some (some (.row e s n xs))) (hl:xs.length=ys.length) (hs:∀(j:Nat) x y,xs[j]? =some x->ys[j]? =some y->Nw σ x y):Nw σ (.own i) (.slice n ys)
 |agg {xs ys:List PV} (hl:xs.length=ys.length) (hs:∀(j:Nat) x y,xs[j]? =some x->ys[j]? =some y->Nw σ x y):Nw σ (.agg xs) (.agg ys)
 |tuple {xs ys:List PV} (hl:xs.length=ys.length) (hs:∀(j:Nat) x y,xs[j]? =some x->ys[j]? =some y->Nw σ x y):Nw σ (.tuple xs) (.tuple ys)
def TH(σ:bH)(xs ys:List PV):Prop:=xs.length=ys.length/\∀(j:Nat) x y,xs[j]? =some x->ys[j]? =some y->Nw σ x y
section
variable {σ:bH}
theorem TH.nil:TH σ [] []:=⟨rfl,λj x y h=>by simp at h⟩
end
section
variable {P:Program} {σ:bH} {t:cd} {o:Oper}
variable {N L:Nat} {ops:Array Oper}
theorem qY{rest}{K:St->Prop}{d:Nat}{x y ty l xs}(ho:o.op= .binOp .eql ty x y l)(hk:r8 P ty=true)(hx:aI t x=some (.slice 0 xs))(hy:aI t y=some (.raw (.slice none 0 0)))(hd:o.dst=some d)(hw:eL ops t o=some true)(hN:Nat.blt d N=true)
  (h:∀b,WR P N L ops rest ⟨(d,.raw (.bool b))::t,σ⟩ K):WR P N L ops (o::rest) ⟨t,σ⟩ K:=by
 refine nt hw λF base E a w hs next Q hn=>?_
 obtain⟨e,hu⟩:=pX hk;have h1:=aB (fZ a) hs.tmp hx;have h2:=aB (fZ a) hs.tmp hy;generalize k:a.eval x=z at h1;generalize i:a.eval y=q at h2;cases h2;obtain⟨p,c,rfl,_,_⟩:=jy h1;have f:=Lib.run_eql_slice_nil w ty e p 0 c 0 0 hu;have hg:∀a n c b m d,(eqGuard .eql ty x y (.slice a n c) (.slice b m d)).run P w= .ok () w:=λ_ _ _ _ _ _=>rfl;have j:iL P w (λv w'=>dj E w' v (.raw (.bool p.isNone))) ((execOp a.eval o).run P w):=by
  simp only[execOp,ho,k,i,Sem.run_bind,Sem.run_pure,Result.andThen_ok,hg,f];exact bA (.raw _)
 refine sj j λv w' g hv=>hn _ _ _ E (h p.isNone) ?_ (.ext g) (Zz g hs.sat);rw[hd];exact hs.put (hs.sat.ext g) (.ext g) hN hv
end
theorem Qh:r8 prog 22=true:=by kernel_rfl
theorem AT(l:List Bool)(hl:l.length<=1000):aD prog 90 [aY l] [] (λr σ'=>r= .own 0/\σ'=[some (.row 4 1 l.length (aT l))]):=by
 refine aV func90 I ntmps90 I<|aj (.a 1 I<|.k [0] I)<|an<|aK (ZI (K:=λs=>∃b:Bool,s=⟨[(0,aY l),(4,.raw (.bool b))],[]⟩/\(b=true->l=[])) ?_ ?_)
 ·cases l with
  |nil=>exact av 1 rfl<|qY rfl Qh rfl rfl rfl rfl rfl λb=>aF [0,4] rfl ⟨b,rfl,λ_=>rfl⟩
  |cons a l=>exact av 1 rfl<|dA (mZ rfl Qh rfl rfl (Zg _)) rfl rfl rfl<|aF [0,4] rfl ⟨_,rfl,λh=>by cases h⟩
 rintro _ ⟨b,rfl,hb⟩;refine ak I (λhc=>?_) (λhc=>?_)
 ·have:l=[]:=hb hc;subst this;refine aj (.a 1 I<|.k [2] I)<|fe 2 4 1 I ?_;exact aA<|⟨_,V5 I,rfl,rfl⟩
 ·refine ao<|aK<|bW (ga I (YC I)) I<|av 1 I<|bW (bP I (VW I) I I I (show(aT l).length=l.length*1 by simp[aT]) (by unfold maxLen;omega)) I<|av 1 I<|aF [2] I ?_;refine dM [1] (.cons 2 I (Ren.own (i:=0) I) .nil) (.kept rfl (.row VT) .nil) I I<|aA<|⟨_,V5 I,rfl,by rw[Ws];rfl⟩
theorem AS(l:List Bool)(hl:l.length<=1000)(σ:bH):aD prog 90 [aY l] σ (λr σ'=>r= .own σ.length/\σ'=σ++[some (.row 4 1 l.length (aT l))]):=by
 refine aD.frame (VO (AT l hl) ?_);rintro r σ' ⟨rfl,rfl⟩;exact⟨[.row 4 1 l.length (aT l)],rfl,_,_,Up.own rfl,ZB (.row ZH) nf.nil,by simp,rfl⟩
theorem Qi:r8 prog 23=true:=by kernel_rfl
theorem BH(l:List mh)(hl:l.length<=1000):aD prog 91 [.slice l.length (bR l)] [] (λr σ'=>r= .own 0/\σ'=[some (.row 42 7 l.length (bR l))]):=by
 refine aV func91 I ntmps91 I<|aj (.a 1 I<|.k [0] I)<|an<|aK (ZI (K:=λs=>∃b:Bool,s=⟨[(0,.slice l.length (bR l)),(4,.raw (.bool b))],[]⟩/\(b=true->l=[])) ?_ ?_)
 ·cases l with
  |nil=>exact av 1 rfl<|qY rfl Qi rfl rfl rfl rfl rfl λb=>aF [0,4] rfl ⟨b,rfl,λ_=>rfl⟩
  |cons a l=>exact av 1 rfl<|dA (mZ rfl Qi rfl rfl (Zg _)) rfl rfl rfl<|aF [0,4] rfl ⟨_,rfl,λh=>by cases h⟩
 rintro _ ⟨b,rfl,hb⟩;refine ak I (λhc=>?_) (λhc=>?_)
 ·have:l=[]:=hb hc;subst this;refine aj (.a 1 I<|.k [2] I)<|fe 2 42 7 I ?_;exact aA<|⟨_,V5 I,rfl,rfl⟩
 ·refine ao<|aK<|bW (ga I (YC I)) I<|av 1 I<|bW (bP I (VW I) I I I (show(bR l).length=l.length*7 by exact mG l) (by unfold maxLen;omega)) I<|av 1 I<|aF [2] I ?_;refine dM [1] (.cons 2 I (Ren.own (i:=0) I) .nil) (.kept rfl (.row VT) .nil) I I<|aA<|⟨_,V5 I,rfl,by rw[Ws];rfl⟩
theorem BG(l:List mh)(hl:l.length<=1000)(σ:bH):aD prog 91 [.slice l.length (bR l)] σ (λr σ'=>r= .own σ.length/\σ'=σ++[some (.row 42 7 l.length (bR l))]):=by
 refine aD.frame (VO (BH l hl) ?_);rintro r σ' ⟨rfl,rfl⟩;exact⟨[.row 42 7 l.length (bR l)],rfl,_,_,Up.own rfl,ZB (.row ZH) nf.nil,by simp,rfl⟩
theorem tA(T:aw)(hl:T.ah.length<=1000)(ho:T.over.length<=1000):aD prog 49 [bu T] [] (λr σ'=>r= .agg [num T.nodes,.own 2,.own 3]/\σ'=[some (.cells 25 [num T.nodes,.own 2,.own 3]),some (.cells 25 [num T.nodes,.own 2,.own 3]),some (.row 4 1 T.over.length (aT T.over)),some (.row 42 7 T.ah.length (bR T.ah))]):=by
 refine aV func49 I ntmps49 I<|aK<|bW (dv I I I) I<|av 1 I<|aF [1,2] I ?_;refine aK<|av 2 I<|br I I (VO (AS T.over ho _) (λ_ σ' h=>?_));obtain⟨rfl,rfl⟩:=h;refine av 2 I<|aF [1,2] I ?_;refine aK<|av 2 I<|br I I (VO (BG T.ah hl _) (λ_ σ' h=>?_));obtain⟨rfl,rfl⟩:=h;refine av 2 I<|aF [1,2] I ?_;refine aK<|av 2 I<|aF [2] I ?_;exact aA<|⟨_,V5 I,rfl,rfl⟩
theorem Bu(T:aw)(hl:T.ah.length<=1000)(ho:T.over.length<=1000)(σ:bH):aD prog 49 [bu T] σ (λr σ'=>r= .agg [num T.nodes,.own (σ.length+2),.own (σ.length+3)]/\σ'=σ++[some (.cells 25 [num T.nodes,.own (σ.length+2),.own (σ.length+3)]),some (.cells 25 [num T.nodes,.own (σ.length+2),.own (σ.length+3)]),some (.row 4 1 T.over.length (aT T.over)),some (.row 42 7 T.ah.length (bR T.ah))]):=by
 refine aD.frame (VO (tA T hl ho) ?_);rintro r σ' ⟨rfl,rfl⟩;have hc:su σ.length [num T.nodes,.own 2,.own 3] [num T.nodes,.own (σ.length+2),.own (σ.length+3)]:=su.cons .pure<|su.cons (.own rfl)<|su.cons (.own rfl) su.nil;refine⟨[.cells 25 [num T.nodes,.own 2,.own 3],.cells 25 [num T.nodes,.own 2,.own 3],.row 4 1 T.over.length (aT T.over),.row 42 7 T.ah.length (bR T.ah)],rfl,_,[.cells 25 [num T.nodes,.own (σ.length+2),.own (σ.length+3)],.cells 25 [num T.nodes,.own (σ.length+2),.own (σ.length+3)],.row 4 1 T.over.length (aT T.over),.row 42 7 T.ah.length (bR T.ah)],Up.iV hc,ZB (.cells hc)<|ZB (.cells hc)<|ZB (.row ZH)<|ZB (.row ZH) nf.nil,rfl,rfl⟩
end
section
open Go.RowKit cm Mem
section
variable {P:Program} {N L:Nat} {ops:Array Oper} {Φ:ux} {Ts:List cd} {Ss:List bH} {K:St->Prop}
def Fh:Nat->Nat->List Bool
 |0,_=>[]
 |n+1,z=>Nat.beq (z % 2) 1::Fh n (z / 2)
def re(n z:Nat):Array Bool:=(Fh n z).toArray
def P9(ops:Array Oper)(z:Nat)(l:List (Nat×Nat)):Bool:=
 !l.isEmpty &&(Region.ready .any ops (re ops.size z)==l.map (·.1))&&l.all λp=>(Fh ops.size z).set p.1 true==Fh ops.size p.2
def Ag(Ts:List cd)(Ss:List bH)(j:Nat)(ks:List Nat)(k:Nat):Option St:=
 match Ts[j]? with
 |some T=>match lj T ks with
  |some t=>match Ss[k]? with
   |some σ=>some ⟨t,σ⟩
   |none=>none
  |none=>none
 |none=>none
def WZ(P:Program)(N L:Nat)(ops:Array Oper)(Ts:List cd)(Ss:List bH)(K:St->Prop)(n z j:Nat)(ks:List Nat)(k:Nat):Prop:=
 ∀st,Ag Ts Ss j ks k=some st->WA P N L ops n (re ops.size z) st K
def Fa(P:Program)(N L:Nat)(ops:Array Oper)(K:St->Prop)(n:Nat)(st:St)(l:List (Nat×Nat)):Prop:=
 ∀p∈l,∃o,ops[p.1]? =some o/\o.guard=none/\WR P N L [o].toArray [o] st (λs=>WA P N L ops n (re ops.size p.2) s K)
theorem iG{n:Nat}{ls st}(Ts:List cd)(Ss:List bH)(ks:List Nat)(hr:Ag Ts Ss 0 ks 0=some st)(hl:ls=re ops.size 0)(h:∀M:Nat->Nat->Nat->List Nat->Nat->Prop,(∀ {n z j ks k},WZ P N L ops Ts Ss K n z j ks k->M n z j ks k)->(∀ {n z j ks k},M n z j ks k->WZ P N L ops Ts Ss K n z j ks k)->M n 0 0 ks 0):WA P N L ops n ls st K:=by
 have:=h (WZ P N L ops Ts Ss K) id id st hr;rwa [<-hl]at this
theorem gP{z j k:Nat}{ks:List Nat}{st}(hr:Ag Ts Ss j ks k=some st)(a:Region.ready .any ops (re ops.size z)=[])(hk:K st):WZ P N L ops Ts Ss K 0 z j ks k:=λs hs=>by
 rw[hr]at hs;cases hs;exact qp a hk
theorem aa{n z j k:Nat}{ks:List Nat}{st}(l:List (Nat×Nat))(hr:Ag Ts Ss j ks k=some st)(h:Fa P N L ops K n st l)(hl:P9 ops z l=true:=by kernel_rfl):WZ P N L ops Ts Ss K (n+1) z j ks k:=λs hs=>by
 rw[hr]at hs;cases hs;unfold P9 at hl;simp only[Vx,VG]at hl;obtain⟨⟨h0,h1⟩,h2⟩:=hl;have h1:=eq_of_beq h1;refine⟨?_,λi hi=>?_⟩
 ·rw[h1];intro e;cases l with
  |nil=>simp at h0
  |cons a l=>simp at e
 ·rw[h1]at hi;obtain⟨p,hp,rfl⟩:=Vv.1 hi;obtain⟨o,b,c,d⟩:=h p hp;refine⟨o,b,c,?_⟩;have e:(re ops.size z).setIfInBounds p.1 true=re ops.size p.2:=by
   unfold re;rw[<-eq_of_beq (h2 p hp)];simp
  rw[e];exact d
theorem ae{n:Nat}{st}:Fa P N L ops K n st []:=λp hp=>by simp at hp
theorem uc{n i z:Nat}{st}{o:Oper}{l:List (Nat×Nat)}(ho:ops[i]? =some o)(hg:o.guard=none)(h:WR P N L [o].toArray [o] st (λs=>WA P N L ops n (re ops.size z) s K))(hs:Fa P N L ops K n st l):Fa P N L ops K n st ((i,z)::l):=λp hp=>by
 rcases V9.1 hp with rfl|hp
 ·exact⟨o,ho,hg,h⟩
 ·exact hs p hp
variable {n i z j k:Nat} {ks:List Nat} {o:Oper} {t t':cd} {σ σ':bH} {l:List (Nat×Nat)} {p:PV} {d:Nat}
theorem aC(ho:ops[i]? =some o)(hg:o.guard=none)(hy:bE P σ t o p)(hd:dk N [o].toArray t o=some d)(ha:WZ P N L ops Ts Ss K n z j ks k)(hr:Ag Ts Ss j ks k=some ⟨t',σ⟩)(hk:lj ((d,p)::t) ks=some t')(hs:Fa P N L ops K n ⟨t,σ⟩ l):Fa P N L ops K n ⟨t,σ⟩ ((i,z)::l):=
 uc ho hg (aZ hy hd (aF ks hk (ha _ hr))) hs
theorem bG(ho:ops[i]? =some o)(hg:o.guard=none)(hy:de P σ t o p σ')(hd:dk N [o].toArray t o=some d)(ha:WZ P N L ops Ts Ss K n z j ks k)(hr:Ag Ts Ss j ks k=some ⟨t',σ'⟩)(hk:lj ((d,p)::t) ks=some t')(hs:Fa P N L ops K n ⟨t,σ⟩ l):Fa P N L ops K n ⟨t,σ⟩ ((i,z)::l):=
 uc ho hg (bW hy hd (aF ks hk (ha _ hr))) hs
theorem lJ(ho:ops[i]? =some o)(hg:o.guard=none)(hy:de P σ t o p σ')(hd:o.dst=none)(hw:eL [o].toArray t o=some true)(ha:WZ P N L ops Ts Ss K n z j ks k)(hr:Ag Ts Ss j ks k=some ⟨t',σ'⟩)(hk:lj t ks=some t')(hs:Fa P N L ops K n ⟨t,σ⟩ l):Fa P N L ops K n ⟨t,σ⟩ ((i,z)::l):=
 uc ho hg (bw hy hd hw (aF ks hk (ha _ hr))) hs
def Ql(Φ:ux)(ops:Array Oper)(N:Nat)(t:cd)(σ:bH)(i:Nat)(ks:List Nat):Option cd:=
 match ops[i]? with
 |some o=>match o.guard with
  |none=>match iM Φ σ t o.op with
   |some p=>match dk N [o].toArray t o with
    |some d=>lj ((d,p)::t) ks
    |none=>none
   |none=>none
  |some _=>none
 |none=>none
theorem af[a:Has P Φ](ha:WZ P N L ops Ts Ss K n z j ks k)(hr:Ag Ts Ss j ks k=some ⟨t',σ⟩)(h:Ql Φ ops N t σ i ks=some t')(hs:Fa P N L ops K n ⟨t,σ⟩ l):Fa P N L ops K n ⟨t,σ⟩ ((i,z)::l):=by
 unfold Ql at h;split at h
 ·rename_i o ho;split at h
  ·rename_i hg;split at h
   ·rename_i p hp;split at h
    ·rename_i d hd;exact aC ho hg (aP hp) hd ha hr h hs
    ·cases h
   ·cases h
  ·cases h
 ·cases h
end
end
end PW
namespace iF
section
open Go.RowKit Go.Shelf Net
attribute [local go_sem] Oper.semAt_some
structure Kp (G n:Nat) (W W':World):Prop where
 size:W.heap.size<=W'.heap.size
 block:∀b,b<n->b≠G->W'.heap[b]? =W.heap[b]?
theorem Kp.refl(G n:Nat)(W:World):Kp G n W W:=⟨Vh _,λ_ _ _=>rfl⟩
theorem Kp.trans{G n:Nat}{A B C}(h:Kp G n A B)(k:Kp G n B C):Kp G n A C:=⟨VL h.size k.size,λb h1 h2=>(k.block b h1 h2).trans (h.block b h1 h2)⟩
theorem Kp.cell{G n:Nat}{W W':World}(h:Kp G n W W'){p:Addr}(hb:p.block<n)(a:p.block≠G):W'.cell? p=W.cell? p:=World.cell?_of_block (h.block _ hb a)
theorem jY{W:World}{a v}(o:Obj)(h:W.cell? a=some v):(W.alloc o).cell? a=some v:=cell_kept h (World.grownBy_alloc W o none) (λr e=>by cases e)
theorem Kp.alloc{G n:Nat}{W:World}(h:n<=W.heap.size)(o:Obj):Kp G n W (W.alloc o):=⟨by simp,λb h1 _=>Below.heap_alloc _ _ _ (by omega)⟩
def ej(k x:Int)(L:List mh)(i:Nat):Bool:=if k=1 then decide ((i:Int)=x) else if k=2 then decide ((bV L i).a=x)||decide ((bV L i).b=x) else decide ((bV L i).wC=x)
abbrev Ix(N:Nat):= {i:Nat // i<N}
def mg(p:Nat->Bool)(N:Nat):Nat->List (Ix N)
 |0=>[]
 |k+1=>if h:p k=true/\k<N then mg p N k++[⟨k,h.2⟩] else mg p N k
theorem ry(p:Nat->Bool)(N:Nat):∀k,(mg p N k).length<=k
 |0=>Vh _
 |k+1=>by
  simp only[mg];have:=ry p N k;split
  ·simp;omega
  ·omega
theorem rz{p:Nat->Bool}{N k:Nat}(h:p k=true)(hk:k<N):mg p N (k+1)=mg p N k++[⟨k,hk⟩]:=by simp only[mg];rw[dif_pos ⟨h,hk⟩]
theorem zv{p:Nat->Bool}{N k:Nat}(h:p k=false):mg p N (k+1)=mg p N k:=by simp only[mg];rw[dif_neg (by rw[h];simp)]
theorem Hz(F:Fence)(n:Nat)(hf:F.fn 217)(hro:F.round=none)(hn:1<=n)(l Bt Bc G n₁ b off cap:Nat)(L:List mh)(x:Int)(hreach:L.length<=1000)(hb:b<n₁)(hbG:b≠G)(hc1:Bc<n₁)(hcG:Bc≠G)(J Jx:List (Ix L.length)->World->Prop)
  (hY:∀pre (i:Ix L.length) W,J pre W->pre.length<L.length->YieldAt F (n - 1) prog l #[.int .i64 (i.1:Int)] W λe W'=>
   (e= .returned (.bool true)/\J (pre++[i]) W'/\Kp G n₁ W W')\/(e= .returned (.bool false)/\Jx (pre++[i]) W'))
  (W:World) (hBt:W.cell? ⟨Bt,2,none⟩=some (.slice (some ⟨b,off,none⟩) L.length cap)) (hBk:W.cell? ⟨Bc,0,none⟩=some (.int .i64 1)) (hBx:W.cell? ⟨Bc,1,none⟩=some (.int .i64 x))
  (hcs:∀i,i<L.length->W.cell? ⟨b,off+i*7,none⟩=some (.int .i64 (bV L i).a)/\W.cell? ⟨b,off+i*7+1,none⟩=some (.int .i64 (bV L i).b)/\W.cell? ⟨b,off+i*7+2,none⟩=some (.int .i64 (bV L i).c0)/\W.cell? ⟨b,off+i*7+3,none⟩=some (.int .i64 (bV L i).c1)/\W.cell? ⟨b,off+i*7+4,none⟩=some (.int .i64 (bV L i).cap)/\W.cell? ⟨b,off+i*7+5,none⟩=some (.int .i64 (bV L i).fH)/\W.cell? ⟨b,off+i*7+6,none⟩=some (.int .i64 (bV L i).wC))
  (hsz:n₁<=W.heap.size) (hA:AbidesFrom W.heap.size J) (h0:J [] W):
  CallsIn F n prog 217 #[.func (.yield l) #[] #[],.pointer (some ⟨Bt,0,none⟩),.pointer (some ⟨Bc,0,none⟩)] W λe W'=>(∃v,e= .returned v)/\
   ((∃ys,ys=mg (ej 1 x L) L.length L.length/\J ys W')\/(∃pre,Jx pre W')):=by
 refine callsIn_of_wp func217 I hf ?_ hro
 simp only[ntmps217,Xl,VI,YQ,Nat.reduceAdd,Nat.reduceSub,X5,X6,Yy,Yj,WJ,Wt]
 gi_wp2
 gi_loopw [10] (λi wr=>∃k:Nat,k<=L.length/\i= .int .i64 k/\J (mg (ej 1 x L) L.length k) wr/\Kp G n₁ W wr)
  (λi _=>L.length - (intOf i).toNat)
 case atStart=>exact⟨0,We _,rfl,h0,Kp.refl _ _ _⟩
 case round=>
  obtain⟨k,hk,rfl,hJs,hnx⟩:=hrel
  by_cases hlt:k<L.length
  ·obtain⟨a0,a1,a2,a3,a4,a5,a6⟩:=hcs k hlt
   have b0:=(hnx.cell (p:=⟨b,off+k*7,none⟩) hb hbG).trans a0
   have b1:=(hnx.cell (p:=⟨b,off+k*7+1,none⟩) hb hbG).trans a1
   have b2:=(hnx.cell (p:=⟨b,off+k*7+2,none⟩) hb hbG).trans a2
   have b3:=(hnx.cell (p:=⟨b,off+k*7+3,none⟩) hb hbG).trans a3
   have b4:=(hnx.cell (p:=⟨b,off+k*7+4,none⟩) hb hbG).trans a4
   have b5:=(hnx.cell (p:=⟨b,off+k*7+5,none⟩) hb hbG).trans a5
   have b6:=(hnx.cell (p:=⟨b,off+k*7+6,none⟩) hb hbG).trans a6
   have c0:=(hnx.cell (p:=⟨Bc,0,none⟩) hc1 hcG).trans hBk
   have c1:=(hnx.cell (p:=⟨Bc,1,none⟩) hc1 hcG).trans hBx
   clear a0 a1 a2 a3 a4 a5 a6
   have⟨fa,hfa⟩:=dw ((bV L k).a)
   have⟨fb,hfb⟩:=dw ((bV L k).b)
   have⟨fg,hfg⟩:=dw ((bV L k).wC)
   rw[hfa]at b0
   rw[hfb]at b1
   rw[hfg]at b6
   have d0:=jY (.cells #[.int .i64 fa,.int .i64 fb,.int .i64 (bV L k).c0,.int .i64 (bV L k).c1,.int .i64 (bV L k).cap,.int .i64 (bV L k).fH,.int .i64 fg] 42) c0
   have d1:=jY (.cells #[.int .i64 fa,.int .i64 fb,.int .i64 (bV L k).c0,.int .i64 (bV L k).c1,.int .i64 (bV L k).cap,.int .i64 (bV L k).fH,.int .i64 fg] 42) c1
   have hJ2:J (mg (ej 1 x L) L.length k) (wr.alloc (.cells #[.int .i64 fa,.int .i64 fb,.int .i64 (bV L k).c0,.int .i64 (bV L k).c1,.int .i64 (bV L k).cap,.int .i64 (bV L k).fH,.int .i64 fg] 42)):=hA _ _ _ none hJs (World.grownBy_alloc _ _ none) (λr e=>by cases e)
   have hK2:Kp G n₁ W (wr.alloc (.cells #[.int .i64 fa,.int .i64 fb,.int .i64 (bV L k).c0,.int .i64 (bV L k).c1,.int .i64 (bV L k).cap,.int .i64 (bV L k).fH,.int .i64 fg] 42)):=hnx.trans (Kp.alloc (by have:=hnx.size;omega) _)
   by_cases hp:(k:Int)=x
   ·subst hp
    obtain⟨fn,tmps,assign,body,hy,hR⟩:=hY _ ⟨k,hlt⟩ _ hJ2 (by have:=ry (ej 1 (k:Int) L) L.length k;omega)
    dsimp only at hy
    have hpk:ej 1 (k:Int) L k=true:=by unfold ej;simp
    gi_wp2
    refine hR.mono ?_
    rintro e W3 (⟨rfl,hJ3,hk3⟩|⟨rfl,hJx3⟩)
    ·gi_wp2
     go_roundw
     case rel=>exact⟨k+1,by omega,by simp,by rw[rz hpk hlt];exact hJ3,hK2.trans hk3⟩
     case measure=>simp[intOf];omega
    ·gi_wp2
     refine bodyPost_ret (results_none rfl _ _ _) I ?_
     exact⟨⟨_,rfl⟩,.inr ⟨_,hJx3⟩⟩
   ·have hpk:ej 1 x L k=false:=by unfold ej;simp[hfa,hfb,hfg,hp]
    gi_wp2
    refine⟨λ_ h=>(by cases h),?_⟩
    gi_wp2
    go_roundw
    case rel=>exact⟨k+1,by omega,by simp,by rw[zv hpk];exact hJ2,hK2⟩
    case measure=>simp[intOf];omega
  ·obtain rfl:k=L.length:=by omega
   gi_wp2
   go_end0
   exact⟨⟨_,rfl⟩,.inl ⟨_,rfl,hJs⟩⟩
theorem HA(F:Fence)(n:Nat)(hf:F.fn 217)(hro:F.round=none)(hn:1<=n)(l Bt Bc G n₁ b off cap:Nat)(L:List mh)(x:Int)(hreach:L.length<=1000)(hb:b<n₁)(hbG:b≠G)(hc1:Bc<n₁)(hcG:Bc≠G)(J Jx:List (Ix L.length)->World->Prop)
  (hY:∀pre (i:Ix L.length) W,J pre W->pre.length<L.length->YieldAt F (n - 1) prog l #[.int .i64 (i.1:Int)] W λe W'=>
   (e= .returned (.bool true)/\J (pre++[i]) W'/\Kp G n₁ W W')\/(e= .returned (.bool false)/\Jx (pre++[i]) W'))
  (W:World) (hBt:W.cell? ⟨Bt,2,none⟩=some (.slice (some ⟨b,off,none⟩) L.length cap)) (hBk:W.cell? ⟨Bc,0,none⟩=some (.int .i64 2)) (hBx:W.cell? ⟨Bc,1,none⟩=some (.int .i64 x))
  (hcs:∀i,i<L.length->W.cell? ⟨b,off+i*7,none⟩=some (.int .i64 (bV L i).a)/\W.cell? ⟨b,off+i*7+1,none⟩=some (.int .i64 (bV L i).b)/\W.cell? ⟨b,off+i*7+2,none⟩=some (.int .i64 (bV L i).c0)/\W.cell? ⟨b,off+i*7+3,none⟩=some (.int .i64 (bV L i).c1)/\W.cell? ⟨b,off+i*7+4,none⟩=some (.int .i64 (bV L i).cap)/\W.cell? ⟨b,off+i*7+5,none⟩=some (.int .i64 (bV L i).fH)/\W.cell? ⟨b,off+i*7+6,none⟩=some (.int .i64 (bV L i).wC))
  (hsz:n₁<=W.heap.size) (hA:AbidesFrom W.heap.size J) (h0:J [] W):
  CallsIn F n prog 217 #[.func (.yield l) #[] #[],.pointer (some ⟨Bt,0,none⟩),.pointer (some ⟨Bc,0,none⟩)] W λe W'=>(∃v,e= .returned v)/\
   ((∃ys,ys=mg (ej 2 x L) L.length L.length/\J ys W')\/(∃pre,Jx pre W')):=by
 refine callsIn_of_wp func217 I hf ?_ hro
 simp only[ntmps217,Xl,VI,YQ,Nat.reduceAdd,Nat.reduceSub,X5,X6,Yy,Yj,WJ,Wt]
 gi_wp2
 gi_loopw [10] (λi wr=>∃k:Nat,k<=L.length/\i= .int .i64 k/\J (mg (ej 2 x L) L.length k) wr/\Kp G n₁ W wr)
  (λi _=>L.length - (intOf i).toNat)
 case atStart=>exact⟨0,We _,rfl,h0,Kp.refl _ _ _⟩
 case round=>
  obtain⟨k,hk,rfl,hJs,hnx⟩:=hrel
  by_cases hlt:k<L.length
  ·obtain⟨a0,a1,a2,a3,a4,a5,a6⟩:=hcs k hlt
   have b0:=(hnx.cell (p:=⟨b,off+k*7,none⟩) hb hbG).trans a0
   have b1:=(hnx.cell (p:=⟨b,off+k*7+1,none⟩) hb hbG).trans a1
   have b2:=(hnx.cell (p:=⟨b,off+k*7+2,none⟩) hb hbG).trans a2
   have b3:=(hnx.cell (p:=⟨b,off+k*7+3,none⟩) hb hbG).trans a3
   have b4:=(hnx.cell (p:=⟨b,off+k*7+4,none⟩) hb hbG).trans a4
   have b5:=(hnx.cell (p:=⟨b,off+k*7+5,none⟩) hb hbG).trans a5
   have b6:=(hnx.cell (p:=⟨b,off+k*7+6,none⟩) hb hbG).trans a6
   have c0:=(hnx.cell (p:=⟨Bc,0,none⟩) hc1 hcG).trans hBk
   have c1:=(hnx.cell (p:=⟨Bc,1,none⟩) hc1 hcG).trans hBx
   clear a0 a1 a2 a3 a4 a5 a6
   have⟨fa,hfa⟩:=dw ((bV L k).a)
   have⟨fb,hfb⟩:=dw ((bV L k).b)
   have⟨fg,hfg⟩:=dw ((bV L k).wC)
   rw[hfa]at b0
   rw[hfb]at b1
   rw[hfg]at b6
   have d0:=jY (.cells #[.int .i64 fa,.int .i64 fb,.int .i64 (bV L k).c0,.int .i64 (bV L k).c1,.int .i64 (bV L k).cap,.int .i64 (bV L k).fH,.int .i64 fg] 42) c0
   have d1:=jY (.cells #[.int .i64 fa,.int .i64 fb,.int .i64 (bV L k).c0,.int .i64 (bV L k).c1,.int .i64 (bV L k).cap,.int .i64 (bV L k).fH,.int .i64 fg] 42) c1
   have hJ2:J (mg (ej 2 x L) L.length k) (wr.alloc (.cells #[.int .i64 fa,.int .i64 fb,.int .i64 (bV L k).c0,.int .i64 (bV L k).c1,.int .i64 (bV L k).cap,.int .i64 (bV L k).fH,.int .i64 fg] 42)):=hA _ _ _ none hJs (World.grownBy_alloc _ _ none) (λr e=>by cases e)
   have hK2:Kp G n₁ W (wr.alloc (.cells #[.int .i64 fa,.int .i64 fb,.int .i64 (bV L k).c0,.int .i64 (bV L k).c1,.int .i64 (bV L k).cap,.int .i64 (bV L k).fH,.int .i64 fg] 42)):=hnx.trans (Kp.alloc (by have:=hnx.size;omega) _)
   by_cases hp:fa=x
   ·subst hp
    obtain⟨fn,tmps,assign,body,hy,hR⟩:=hY _ ⟨k,hlt⟩ _ hJ2 (by have:=ry (ej 2 fa L) L.length k;omega)
    dsimp only at hy
    have hpk:ej 2 fa L k=true:=by unfold ej;simp[hfa,hfb,hfg]
    gi_wp2
    refine hR.mono ?_
    rintro e W3 (⟨rfl,hJ3,hk3⟩|⟨rfl,hJx3⟩)
    ·gi_wp2
     go_roundw
     case rel=>exact⟨k+1,by omega,by simp,by rw[rz hpk hlt];exact hJ3,hK2.trans hk3⟩
     case measure=>simp[intOf];omega
    ·gi_wp2
     refine bodyPost_ret (results_none rfl _ _ _) I ?_
     exact⟨⟨_,rfl⟩,.inr ⟨_,hJx3⟩⟩
   ·by_cases hq:fb=x
    ·subst hq
     obtain⟨fn,tmps,assign,body,hy,hR⟩:=hY _ ⟨k,hlt⟩ _ hJ2 (by have:=ry (ej 2 fb L) L.length k;omega)
     dsimp only at hy
     have hpk:ej 2 fb L k=true:=by unfold ej;simp[hfa,hfb,hfg]
     gi_wp2
     refine hR.mono ?_
     rintro e W3 (⟨rfl,hJ3,hk3⟩|⟨rfl,hJx3⟩)
     ·gi_wp2
      go_roundw
      case rel=>exact⟨k+1,by omega,by simp,by rw[rz hpk hlt];exact hJ3,hK2.trans hk3⟩
      case measure=>simp[intOf];omega
     ·gi_wp2
      refine bodyPost_ret (results_none rfl _ _ _) I ?_
      exact⟨⟨_,rfl⟩,.inr ⟨_,hJx3⟩⟩
    ·have hpk:ej 2 x L k=false:=by unfold ej;simp[hfa,hfb,hfg,hp,hq]
     gi_wp2
     refine⟨λ_ h=>(by cases h),?_⟩
     gi_wp2
     go_roundw
     case rel=>exact⟨k+1,by omega,by simp,by rw[zv hpk];exact hJ2,hK2⟩
     case measure=>simp[intOf];omega
  ·obtain rfl:k=L.length:=by omega
   gi_wp2
   go_end0
   exact⟨⟨_,rfl⟩,.inl ⟨_,rfl,hJs⟩⟩
theorem HB(F:Fence)(n:Nat)(hf:F.fn 217)(hro:F.round=none)(hn:1<=n)(l Bt Bc G n₁ b off cap:Nat)(L:List mh)(x:Int)(hreach:L.length<=1000)(hb:b<n₁)(hbG:b≠G)(hc1:Bc<n₁)(hcG:Bc≠G)(J Jx:List (Ix L.length)->World->Prop)
  (hY:∀pre (i:Ix L.length) W,J pre W->pre.length<L.length->YieldAt F (n - 1) prog l #[.int .i64 (i.1:Int)] W λe W'=>
   (e= .returned (.bool true)/\J (pre++[i]) W'/\Kp G n₁ W W')\/(e= .returned (.bool false)/\Jx (pre++[i]) W'))
  (W:World) (hBt:W.cell? ⟨Bt,2,none⟩=some (.slice (some ⟨b,off,none⟩) L.length cap)) (hBk:W.cell? ⟨Bc,0,none⟩=some (.int .i64 3)) (hBx:W.cell? ⟨Bc,1,none⟩=some (.int .i64 x))
  (hcs:∀i,i<L.length->W.cell? ⟨b,off+i*7,none⟩=some (.int .i64 (bV L i).a)/\W.cell? ⟨b,off+i*7+1,none⟩=some (.int .i64 (bV L i).b)/\W.cell? ⟨b,off+i*7+2,none⟩=some (.int .i64 (bV L i).c0)/\W.cell? ⟨b,off+i*7+3,none⟩=some (.int .i64 (bV L i).c1)/\W.cell? ⟨b,off+i*7+4,none⟩=some (.int .i64 (bV L i).cap)/\W.cell? ⟨b,off+i*7+5,none⟩=some (.int .i64 (bV L i).fH)/\W.cell? ⟨b,off+i*7+6,none⟩=some (.int .i64 (bV L i).wC))
  (hsz:n₁<=W.heap.size) (hA:AbidesFrom W.heap.size J) (h0:J [] W):
  CallsIn F n prog 217 #[.func (.yield l) #[] #[],.pointer (some ⟨Bt,0,none⟩),.pointer (some ⟨Bc,0,none⟩)] W λe W'=>(∃v,e= .returned v)/\
   ((∃ys,ys=mg (ej 3 x L) L.length L.length/\J ys W')\/(∃pre,Jx pre W')):=by
 refine callsIn_of_wp func217 I hf ?_ hro
 simp only[ntmps217,Xl,VI,YQ,Nat.reduceAdd,Nat.reduceSub,X5,X6,Yy,Yj,WJ,Wt]
 gi_wp2
 gi_loopw [10] (λi wr=>∃k:Nat,k<=L.length/\i= .int .i64 k/\J (mg (ej 3 x L) L.length k) wr/\Kp G n₁ W wr)
  (λi _=>L.length - (intOf i).toNat)
 case atStart=>exact⟨0,We _,rfl,h0,Kp.refl _ _ _⟩
 case round=>
  obtain⟨k,hk,rfl,hJs,hnx⟩:=hrel
  by_cases hlt:k<L.length
  ·obtain⟨a0,a1,a2,a3,a4,a5,a6⟩:=hcs k hlt
   have b0:=(hnx.cell (p:=⟨b,off+k*7,none⟩) hb hbG).trans a0
   have b1:=(hnx.cell (p:=⟨b,off+k*7+1,none⟩) hb hbG).trans a1
   have b2:=(hnx.cell (p:=⟨b,off+k*7+2,none⟩) hb hbG).trans a2
   have b3:=(hnx.cell (p:=⟨b,off+k*7+3,none⟩) hb hbG).trans a3
   have b4:=(hnx.cell (p:=⟨b,off+k*7+4,none⟩) hb hbG).trans a4
   have b5:=(hnx.cell (p:=⟨b,off+k*7+5,none⟩) hb hbG).trans a5
   have b6:=(hnx.cell (p:=⟨b,off+k*7+6,none⟩) hb hbG).trans a6
   have c0:=(hnx.cell (p:=⟨Bc,0,none⟩) hc1 hcG).trans hBk
   have c1:=(hnx.cell (p:=⟨Bc,1,none⟩) hc1 hcG).trans hBx
   clear a0 a1 a2 a3 a4 a5 a6
   have⟨fa,hfa⟩:=dw ((bV L k).a)
   have⟨fb,hfb⟩:=dw ((bV L k).b)
   have⟨fg,hfg⟩:=dw ((bV L k).wC)
   rw[hfa]at b0
   rw[hfb]at b1
   rw[hfg]at b6
   have d0:=jY (.cells #[.int .i64 fa,.int .i64 fb,.int .i64 (bV L k).c0,.int .i64 (bV L k).c1,.int .i64 (bV L k).cap,.int .i64 (bV L k).fH,.int .i64 fg] 42) c0
   have d1:=jY (.cells #[.int .i64 fa,.int .i64 fb,.int .i64 (bV L k).c0,.int .i64 (bV L k).c1,.int .i64 (bV L k).cap,.int .i64 (bV L k).fH,.int .i64 fg] 42) c1
   have hJ2:J (mg (ej 3 x L) L.length k) (wr.alloc (.cells #[.int .i64 fa,.int .i64 fb,.int .i64 (bV L k).c0,.int .i64 (bV L k).c1,.int .i64 (bV L k).cap,.int .i64 (bV L k).fH,.int .i64 fg] 42)):=hA _ _ _ none hJs (World.grownBy_alloc _ _ none) (λr e=>by cases e)
   have hK2:Kp G n₁ W (wr.alloc (.cells #[.int .i64 fa,.int .i64 fb,.int .i64 (bV L k).c0,.int .i64 (bV L k).c1,.int .i64 (bV L k).cap,.int .i64 (bV L k).fH,.int .i64 fg] 42)):=hnx.trans (Kp.alloc (by have:=hnx.size;omega) _)
   by_cases hp:fg=x
   ·subst hp
    obtain⟨fn,tmps,assign,body,hy,hR⟩:=hY _ ⟨k,hlt⟩ _ hJ2 (by have:=ry (ej 3 fg L) L.length k;omega)
    dsimp only at hy
    have hpk:ej 3 fg L k=true:=by unfold ej;simp[hfa,hfb,hfg]
    gi_wp2
    refine hR.mono ?_
    rintro e W3 (⟨rfl,hJ3,hk3⟩|⟨rfl,hJx3⟩)
    ·gi_wp2
     go_roundw
     case rel=>exact⟨k+1,by omega,by simp,by rw[rz hpk hlt];exact hJ3,hK2.trans hk3⟩
     case measure=>simp[intOf];omega
    ·gi_wp2
     refine bodyPost_ret (results_none rfl _ _ _) I ?_
     exact⟨⟨_,rfl⟩,.inr ⟨_,hJx3⟩⟩
   ·have hpk:ej 3 x L k=false:=by unfold ej;simp[hfa,hfb,hfg,hp]
    gi_wp2
    refine⟨λ_ h=>(by cases h),?_⟩
    gi_wp2
    go_roundw
    case rel=>exact⟨k+1,by omega,by simp,by rw[zv hpk];exact hJ2,hK2⟩
    case measure=>simp[intOf];omega
  ·obtain rfl:k=L.length:=by omega
   gi_wp2
   go_end0
   exact⟨⟨_,rfl⟩,.inl ⟨_,rfl,hJs⟩⟩
end
end iF
namespace PW
section
open Go.RowKit cm Mem Net
section
variable {P:Program} {ops:Array Oper} {Q:Exit->Act->World->Prop}
theorem El{l n:Nat}{o:Oper}{a w}{K j:Act->World->Prop}(i:∀c,o.op≠ .defer c)(m:¬LetsOut Q)(g:∀a w,K a w->j a w)(h:o.wp P a w K Q):o.wpIn (Fence.wide.inRound l) n P a w j Q:=by
 refine⟨λ_ _=>trivial,?_⟩;rw[Fence.inRound_round,Oper.semAt_eq _ _ _ i];unfold Oper.wp at h;generalize (execOp a.eval o).run P w=x at*;cases x with
 |ok x w'=>
  cases x<;>simp only[Oper.uponIn,Oper.upon]at h ⊢
  case value v=>exact g _ _ h
  case skip=>exact g _ _ h
  case defer d=>exact g _ _ h
  case enter f b=>exact⟨λh=>by simp[Fence.wide]at h,CallsIn.inRound l (callsIn_wide.2 (h.mono λe k he=>by cases e<;>first|exact g _ _ he|exact he))⟩
  case row r b=>exact⟨λh=>by simp[Fence.wide]at h,λc cs _=>by
   obtain⟨v,w',r,s⟩:=h c cs;exact⟨v,w',g _ _ r,stepsIn_wide.2 s⟩⟩
  all_goals exact h.elim
 |halt x w'=>cases x<;>simp only[Oper.uponIn,Oper.upon]at h ⊢ <;>exact h
theorem lZ{l n:Nat}(b:∀(i:Nat) (o:Oper),ops[i]? =some o->∀c,o.op≠ .defer c)(d:¬LetsOut Q):∀(fuel:Nat) (ls:Array Bool) (a:Act) (w:World),wpAny P .any ops Q fuel ls a w->wpAnyIn (Fence.wide.inRound l) n P .any ops Q fuel ls a w
 |0,ls,a,w,h=>h
 |fuel+1,ls,a,w,h=>by
  refine⟨h.1,λi hi=>?_⟩;have h2:=h.2 i hi;unfold wpOp at h2;unfold wpOpIn;cases ho:ops[i]? with
  |none=>rw[ho]at h2;exact lZ b d fuel _ a w h2
  |some o=>
   rw[ho]at h2;simp only at h2 ⊢;split
   ·rename_i hw;rw[Vn hw]at h2;rcases h2 with h2|h2
    ·exact El (b i o ho) d (λa w h=>lZ b d fuel _ a w h) h2
    ·exact absurd h2.2 d
   ·rename_i hw;rw[Vk hw]at h2;exact⟨λ_ _=>trivial,lZ b d fuel _ _ w h2⟩
end
def QT:Code->Option (Array Oper)
 | .block _ (.region _ ops _)=>some ops
 |_=>none
def vF:Code->Option (Operand×Array Tmp×Code×Code)
 | .rangeFunc g ps a b=>some (g,ps,a,b)
 | .seq x y=>(vF x).orElse λ_=>vF y
 | .cond _ x y=>(vF x).orElse λ_=>vF y
 | .block _ x=>vF x
 | .loop x=>vF x
 |_=>none
def opsOf(f:Func):Array Oper:=(((f.body.bind vF).bind λx=>QT x.2.2.2).getD #[])
theorem QS(M:List Bool)(i:Nat)(hi:2*i+1<M.length)(hM:M.length<=1000):WA prog 41 2 (opsOf Tryz.f126) 11 #[false,false,false,false,false,false,false,false,false,false,false] ⟨[(6,.ptr 1 0),(9,num i)],[some (.row 4 1 M.length (aT M)),some (.cells 22 [.own 0])]⟩ (λs=>s.σ=[some (.row 4 1 M.length (aT ((M.set (2*i) true).set (2*i+1) true))),some (.cells 22 [.own 0])]):=by
 have c:(M.set (2*i) true).length=M.length:=by simp
 have a:(2:Int)*(i:Int)=((2*i:Nat):Int):=by omega
 have b:((2*i:Nat):Int)+1=((2*i+1:Nat):Int):=by omega
 refine WA.mono (K:=λs=>s.σ=[some (.row 4 1 M.length (aT ((M.set (2*i) true).set (2*i+1) true))),some (.cells 22 [.own 0])]/\Sub s.t []) ?_ λs h=>h.1;exact U3 [6,9] [] [8,10] [(0,1),(0,1),(0,1),(0,2),(0,2),(0,2),(0,2),(0,1),(0,1),(1,1),(1,1)] [(6,.ptr 1 0),(9,num i),(30,.own 0),(31,num i),(32,num ((2*i:Nat):Int)),(33,.own 0),(34,num i),(35,num ((2*i:Nat):Int)),(36,num ((2*i+1:Nat):Int)),(37,.ptr 0 (2*i)),(38,.ptr 0 (2*i+1))] [[some (.row 4 1 M.length (aT M)),some (.cells 22 [.own 0])],[some (.row 4 1 M.length (aT (M.set (2*i) true))),some (.cells 22 [.own 0])],[some (.row 4 1 M.length (aT ((M.set (2*i) true).set (2*i+1) true))),some (.cells 22 [.own 0])]] 20 (by kernel_rfl) I I I I (UG 2 I<|UK rfl (UL (UE rfl (aU I (hc:=a))))<|UG 2 I<|UK rfl (U7 (UE rfl (aU I (hc:=a)))<|UL (UE rfl (aU I (hc:=a))))<|UK rfl (U7 (UE rfl (aU I (hc:=b)))<|UL (UE rfl (aU I (hc:=b))))<|UK rfl (UL (UE rfl (aX (2*i) I)))<|UN rfl (UW rfl rfl rfl (cP I (VJ I) I I I (by omega)) I)<|UK rfl (UL (UE rfl (aX (2*i+1) I)))<|UN rfl (UW rfl rfl rfl (cP I (VJ I) I I I (by simp;omega)) I)<|UT rfl) I I
end
end PW
end Go.Proofs.YtfcadpknnbgibaaGreatDoor
