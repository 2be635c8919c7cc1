/- Texts of the proof, part 9. -/
import Derived.WideShapes
import Derived.Deep.AppendSrc
import Derived.Test.YtnegbdpggideiaaGreatDoorCardMLB8
set_option linter.unusedVariables false
set_option linter.unusedSimpArgs false
set_option maxRecDepth 10000
set_option maxHeartbeats 1000000
namespace Go.Proofs.YtnegbdpggideiaaGreatDoor
namespace PW
open Go.RowKit cE Mem Net
noncomputable def I6(T:ai)(D:List Bool)(x y:Int):Bool:=(((ao T&&bP T D)&& !decide (x=y))&&fx T [] x y)&&jw D (b9 T [] x.toNat y.toNat)
theorem ud{T:ai}{D:List Bool}{x y:Int}(h:fx T D x y=true):gu T D x y=0:=by
 unfold fx at h
 rw[Bool.and_eq_true,decide_eq_true_eq,decide_eq_true_eq]at h
 obtain⟨h1,h2⟩:=h
 obtain⟨hv,hf,hn,hd⟩:=fc h1
 rw[aU]at hn hd
 obtain⟨a,rfl⟩:=Int.eq_ofNat_of_zero_le hn.1
 obtain⟨b,rfl⟩:=Int.eq_ofNat_of_zero_le hd.1
 simp only[Int.toNat_natCast]at h2
 unfold gu
 rw[if_pos h1,if_neg]
 simp only[Int.toNat_natCast]
 intro h0
 rw[zd hv hd.2 hn.2 h0]at h2
 omega
section
variable {T:ai} {D:List Bool} {n:Int} {p:List Int}
theorem rm(h:pz T D n p){i k x y:Nat}(hik:i<k)(hk:k≤p.length)(hx:cD T n (p.take i)=(x:Int))(hy:cD T n (p.take k)=(y:Int)):(I6 T D x y&&mz (b9 T [] x y) (eA p i k))=eV T [] n p i k:=by
 have hb:=h.bare
 have ha:=h.aI
 have hv:=h.valid
 obtain⟨x',hx',hxN⟩:=cp hv h.node ha i (by omega)
 obtain⟨y',hy',hyN⟩:=cp hv h.node ha k hk
 have e1:x'=x:=by omega
 have e2:y'=y:=by omega
 subst e1
 subst e2
 rw[Bool.eq_iff_iff,Ik hb (by omega) hk hx hy]
 unfold I6 mz
 simp only[Int.toNat_natCast,Bool.and_eq_true,Bool.not_eq_true',decide_eq_true_eq,decide_eq_false_iff_not]
 constructor
 ·rintro⟨⟨⟨_,h3⟩,h4⟩,h5⟩
  exact⟨ud h3,h3,h5⟩
 ·rintro⟨h1,h2,h3⟩
  refine⟨⟨⟨⟨⟨hv,h.fits⟩,fun e=>?_⟩,h2⟩,?_⟩,h3⟩
  ·have e2:x'=y':=by omega
   subst e2
   rw[jQ hv (jI T) hxN hxN]at h1
   have hsp:=dU (D:=[]) hv hxN hxN (by split at h1<;>omega)
   have h6:=hsp.self
   rw[h6]at h3
   have:=nm p (show i≤k by omega) hk
   rw[←h3]at this
   simp at this
   omega
  ·rw[h3,oG]
   exact fun a ha=>h.up a (DT ha)
end
section
variable {P:Program} {σ:cf} {t:bZ} {o:Oper}
end
end PW
end Go.Proofs.YtnegbdpggideiaaGreatDoor
namespace Go.Proofs.YtnegbdpggideiaaGreatDoor
namespace PW
open Go.RowKit cE Mem Net
noncomputable def xo(T:ai)(n:Int)(p:List Int)(x:Int)(i:Nat):Nat→Nat→Option Nat
 |0,_=>none
 |f+1,j=>if cD T n (p.take j)=x∧eV T [] n p i j=true then some j else xo T n p x i f (j+1)
noncomputable def pX(T:ai)(n:Int)(p:List Int)(i:Nat)(s:bY):Option Nat:=
 if s.kind=2∧i<p.length∧p.getD i 0=s.num then some (i+1)
 else if s.kind=1 then xo T n p s.num i (p.length - i) (i+1)
 else none
noncomputable def I1(T:ai)(n:Int)(p:List Int):Nat→List bY→Bool
 |i,[]=>decide (i=p.length)
 |i,s::l=>match pX T n p i s with
  |some j=>I1 T n p j l
  |none=>false
def qA(T:ai):Int→List bY→Bool
 |_,[]=>true
 |x,s::l=>if s.kind=1∧s.num=x then false else qA T (yQ T s x).1 l
section
variable {T:ai} {n:Int} {p:List Int}
theorem sb{x:Int}{i:Nat}:∀(f j k:Nat),xo T n p x i f j=some k→j≤k∧k<j+f∧cD T n (p.take k)=x∧eV T [] n p i k=true∧∀m,j≤m→m<k→¬(cD T n (p.take m)=x∧eV T [] n p i m=true)
 |0,j,k,h=>by simp[xo]at h
 |f+1,j,k,h=>by
  simp only[xo]at h
  split at h
  ·rename_i h1;cases h;exact⟨Nat.le_refl _,by omega,h1.1,h1.2,fun m h2 h3=>by omega⟩
  ·rename_i h1
   obtain⟨a,b,c,d,e⟩:=sb f (j+1) k h
   refine⟨by omega,by omega,c,d,fun m h2 h3=>?_⟩
   by_cases hm:m=j
   ·subst hm;exact h1
   ·exact e m (by omega) h3
theorem zc{x:Int}{i:Nat}:∀(f j k:Nat),j≤k→k<j+f→cD T n (p.take k)=x→eV T [] n p i k=true→(∀m,j≤m→m<k→¬(cD T n (p.take m)=x∧eV T [] n p i m=true))→xo T n p x i f j=some k
 |0,j,k,h1,h2,_,_,_=>by omega
 |f+1,j,k,h1,h2,h3,h4,h5=>by
  simp only[xo]
  by_cases e:j=k
  ·subst e;rw[if_pos ⟨h3,h4⟩]
  ·rw[if_neg (h5 j (Nat.le_refl _) (by omega))]
   exact zc f (j+1) k (by omega) (by omega) h3 h4 (fun m h6 h7=>h5 m (by omega) h7)
theorem qR(h:pz T [] n p){i:Nat}(hi:i≤p.length)(s:bY)(j:Nat):pX T n p i s=some j↔jv T [] n p i s=some j∧¬(s.kind=1∧s.num=cD T n (p.take i)):=by
 unfold pX jv
 by_cases h1:s.kind=2∧i<p.length∧p.getD i 0=s.num
 ·rw[if_pos h1,if_pos h1]
  constructor
  ·intro e;exact⟨e,fun e2=>by omega⟩
  ·intro e;exact e.1
 ·rw[if_neg h1,if_neg h1]
  by_cases h2:s.kind=1
  ·rw[if_pos h2,if_pos h2]
   constructor
   ·intro e
    obtain⟨a,b,c,d,_⟩:=sb _ _ _ e
    have hf:=oH h (show i≤j by omega) (by omega) d
    rw[c]at hf
    rw[hf,if_pos ⟨c,d⟩]
    refine⟨rfl,fun e2=>?_⟩
    have:=tB (T:=T) (n:=n) (p:=p) s.num (p.length - i) i i (Nat.le_refl _) (by omega) e2.2.symm (fun k h3 h4=>by omega)
    omega
   ·rintro⟨e1,e2⟩
    split at e1
    ·rename_i h3
     simp only[Option.some.injEq]at e1
     have hge:=xp (T:=T) (n:=n) (p:=p) s.num (p.length - i) i
     have hno:=Dp (T:=T) (n:=n) (p:=p) s.num (p.length - i) i
     rw[e1]at h3 hge hno
     have hne:i≠j:=fun e=>e2 ⟨h2,by rw[e];exact h3.1.symm⟩
     exact zc _ _ _ (by omega) (by omega) h3.1 h3.2 (fun m h4 h5 h6=>hno m (by omega) h5 h6.1)
    ·cases e1
  ·rw[if_neg h2,if_neg h2]
   simp
theorem step_end(h:pz T [] n p){i j:Nat}(hi:i≤p.length){s:bY}(hst:jv T [] n p i s=some j):(yQ T s (cD T n (p.take i))).1=cD T n (p.take j)∧(yQ T s (cD T n (p.take i))).2=0∧j≤p.length:=by
 have ha:=h.aI
 have hv:=h.valid
 obtain⟨x,hx,hxN⟩:=cp hv h.node ha i hi
 have hnb:bn T (x:Int)=true:=aU.2 ⟨by omega,hxN⟩
 rw[hx]
 have hss:=hst
 unfold jv at hst
 split at hst
 ·rename_i h1
  cases hst
  have hab:=ha _ (ca (d:=0) h1.2.1)
  have htl:=oM h h1.2.1 hx
  have hed:=gH T n p i h1.2.1
  rw[h1.2.2]at hab htl hed
  have hsg:nx T s=true:=by unfold nx;rw[if_neg (by omega),if_pos h1.1];exact hab
  have hes:yQ T s x=(cD T n (p.take (i+1)),0):=by
   unfold yQ
   rw[if_neg (by rw[hsg];simp),if_neg (by rw[hnb];simp),if_neg (by omega),if_pos h1.1,if_neg (by rw[htl];simp),hed]
  rw[hes]
  exact⟨rfl,rfl,h1.2.1⟩
 ·split at hst
  ·rename_i h2
   split at hst
   ·rename_i h3
    simp only[Option.some.injEq]at hst
    have hge:=xp (T:=T) (n:=n) (p:=p) s.num (p.length - i) i
    rw[hst]at h3 hge
    obtain⟨y,hy,hyN⟩:=cp hv h.node ha j (by omega)
    have hsy:s.num=(y:Int):=by rw[←h3.1];exact hy
    have hsg:nx T s=true:=by unfold nx;rw[if_pos h2,hsy];exact aU.2 ⟨by omega,hyN⟩
    have hes:yQ T s x=(s.num,0):=by
     unfold yQ
     rw[if_neg (by rw[hsg];simp),if_neg (by rw[hnb];simp),if_pos h2]
    rw[hes]
    exact⟨h3.1.symm,rfl,by omega⟩
   ·cases hst
  ·cases hst
theorem Ee(h:pz T [] n p):∀(l:List bY) (i:Nat),i≤p.length→I1 T n p i l=(G7 T [] n p i l&&qA T (cD T n (p.take i)) l)
 | [],i,hi=>by simp[I1,G7,qA]
 |s::l,i,hi=>by
  simp only[I1,G7,qA]
  cases hX:jv T [] n p i s with
  |none=>
   have hP:pX T n p i s=none:=by
    cases hP:pX T n p i s with
    |none=>rfl
    |some j=>have:=((qR h hi s j).1 hP).1;rw[hX]at this;cases this
   rw[hP]
   rfl
  |some j=>
   obtain⟨e1,e2,e3⟩:=step_end h hi hX
   by_cases hd:s.kind=1∧s.num=cD T n (p.take i)
   ·have hP:pX T n p i s=none:=by
     cases hP:pX T n p i s with
     |none=>rfl
     |some j=>exact absurd hd ((qR h hi s j).1 hP).2
    rw[hP,if_pos hd]
    simp
   ·rw[(qR h hi s j).2 ⟨hX,hd⟩,if_neg hd,e1]
    simp only
    exact Ee h l j e3
theorem ur(h:pz T [] n p):∀(f i:Nat),i≤p.length→qA T (cD T n (p.take i)) (hJ T [] n p f i)=true
 |f,i,hi=>by
  by_cases hlt:i<p.length
  ·cases f with
   |zero=>rfl
   |succ f=>
    cases ht:kJ (eV T [] n p i) i p.length with
    |none=>
     rw[lH hlt (fun k h1 h2=>jm _ ht k h1 h2)]
     have hst:jv T [] n p i ⟨2,p.getD i 0⟩=some (i+1):=by unfold jv;rw[if_pos ⟨rfl,hlt,rfl⟩]
     simp only[qA]
     rw[if_neg (by rintro⟨h1,_⟩;omega),(step_end h hi hst).1]
     exact ur h f (i+1) (by omega)
    |some j=>
     obtain⟨t1,t2,t3,t4⟩:=nT _ _ ht
     rw[jS hlt t1 t2 t3 t4]
     have hf:=oH h (show i≤j by omega) t2 t3
     have hst:jv T [] n p i ⟨1,cD T n (p.take j)⟩=some j:=by
      unfold jv
      simp only
      rw[if_neg (by omega),if_pos trivial,hf,if_pos ⟨rfl,t3⟩]
     simp only[qA]
     rw[if_neg,(step_end h hi hst).1]
     ·exact ur h f j t2
     ·rintro⟨_,h2⟩
      have:=tB (T:=T) (n:=n) (p:=p) (cD T n (p.take j)) (p.length - i) i i (Nat.le_refl _) (by omega) h2.symm (fun k h3 h4=>by omega)
      omega
  ·rw[nv f i (by omega)]
   rfl
end
noncomputable def Jj(T:ai)(D:List Bool)(l:List bY)(n:Int)(p:List Int):Bool:=if fA T D n p=0 then I1 T n p 0 l else false
end PW
end Go.Proofs.YtnegbdpggideiaaGreatDoor
namespace Go.Proofs.YtnegbdpggideiaaGreatDoor
namespace PW
open Go.RowKit cE Mem Net fk
theorem vq(p:List Int)(u:PV):bU Tryz.prog 190 [aw p,.ptr 0 0] [some (.cells 37 [u])] (fun r σ'=>r= .tuple []∧σ'=[some (.cells 37 [aw p])]):=by
 refine cr Tryz.func190 rfl Tryz.ntmps190 rfl<|bI<|au 2 rfl<|aH [] rfl ?_
 exact⟨_,az.of rfl,rfl,rfl⟩
theorem yM(T:ai)(D:List Bool)(n d:Int):bU Tryz.prog 184 [aN T,aY D,num n,num d,.func 190 [.ptr 0 0]] [some (.cells 37 [.raw (.slice none 0 0)])] (fun r σ'=>r=num (gu T D n d)∧σ'=[some (.cells 37 [if gu T D n d=0 then aw (b9 T D n.toNat d.toNat) else .raw (.slice none 0 0)])]):=by
 refine cr Tryz.func184 rfl Tryz.ntmps184 rfl<|ab (.a 2 rfl<|.k [1,2,3,4,5] rfl)<|ab (.a 4 rfl<|.c rfl (sj T D n d) rfl<|.a 5 rfl<|.k [4,11,12] rfl)<|ak<|ab (.a 2 rfl<|.k [4,11,12,22] rfl)<|ah rfl (fun h1=>?_) (fun h1=>?_)
 ·have he:gu T D n d=0:=tt h1
  refine bI<|au 2 rfl<|cQ rfl rfl (bU.mono (vq _ _) (fun r σ' h=>?_))
  obtain⟨rfl,rfl⟩:=h
  refine aH [12] rfl ?_
  refine ab (.a 2 rfl<|.k [10] rfl)<|aq ?_
  first
   |exact⟨_,az.of rfl,rfl,by rw[if_neg he]⟩
   |exact⟨_,az.of rfl,rfl,by simp only[if_pos he]⟩
 ·have he:¬gu T D n d=0:=ff h1
  refine aj<|ab (.a 2 rfl<|.k [10] rfl)<|aq ?_
  first
   |exact⟨_,az.of rfl,rfl,by rw[if_neg he]⟩
   |exact⟨_,az.of rfl,rfl,by simp only[if_pos he]⟩
theorem xN(T:ai)(D:List Bool)(n d:Int):Can Tryz.prog 162 [aN T,aY D,num n,num d] (· =dr (gu T D n d) (b9 T D n.toNat d.toNat)):=by
 obtain⟨u,hu⟩:∃u:PV,(if gu T D n d=0 then aw (b9 T D n.toNat d.toNat) else .raw (.slice none 0 0))=u:=⟨_,rfl⟩
 have hf:=yM T D n d
 rw[hu]at hf
 refine aG Tryz.func162 rfl Tryz.ntmps162 rfl<|ab (.a 3 rfl<|.k [1,2,3,4] rfl)<|aR<|au 1 rfl<|aH [1,2,3,4,10] rfl ?_
 refine aR<|au 5 rfl<|cQ rfl rfl (bU.mono hf (fun r σ' h=>?_))
 obtain⟨rfl,rfl⟩:=h
 refine au 1 rfl<|aH [10,11] rfl ?_
 refine ab (.v (aO rfl ((show some u=some u from rfl))) rfl<|.a 3 rfl<|.k [8,9] rfl)<|aq<|⟨_,_,az.of rfl,aC.bz (an.cons (y:=aw (if gu T D n d=0 then b9 T D n.toNat d.toNat else [])) ?_ (an.cons aC.pure an.nil)),rfl⟩
 rw[←hu]
 by_cases he:gu T D n d=0
 ·rw[if_pos he,if_pos he];exact aC.pure
 ·rw[if_neg he,if_neg he];exact aC.b7
end PW
end Go.Proofs.YtnegbdpggideiaaGreatDoor
namespace Go.Proofs.YtnegbdpggideiaaGreatDoor
namespace PW
open Go.RowKit cE Mem Net
section
variable {T:ai} {D:List Bool}
theorem wE{d:Nat}:∀ {m:Nat} {q:List Int},Ch T D d m q→(q=[]∨cR T m=false)→ec T false m q=0
 |m,[],_,_=>rfl
 |m,a::q,h,ho=>by
  cases h with
  | @cons _ b k _ ha ht hu hm hov hp=>
   rw[oa (cY.2 ⟨by omega,by omega⟩) (by rw[Int.toNat_natCast];exact ht) (.inr (by rcases ho with h|h;cases h;rw[Int.toNat_natCast];exact h)),Int.toNat_natCast,hm]
   exact wE hp hov
theorem zF{d m:Nat}{q:List Int}(h:Ch T D d m q):ec T true m q=0:=by
 cases h with
 |nil=>rfl
 | @cons _ b k q ha ht hu hm hov hp=>
  rw[oa (cY.2 ⟨by omega,by omega⟩) (by rw[Int.toNat_natCast];exact ht) (.inl rfl),Int.toNat_natCast,hm]
  exact wE hp hov
theorem Ch.bare{d m:Nat}{q:List Int}(h:Ch T D d m q):Ch T [] d m q:=by
 induction h with
 |nil=>exact .nil
 |cons ha ht hu hm ho hp ih=>exact .cons ha ht (by simp[aL]) hm ho ih
theorem Ch.mask{d m:Nat}{q:List Int}(h:Ch T [] d m q)(hc:∀a∈q,aL D a.toNat=false):Ch T D d m q:=by
 induction h with
 |nil=>exact .nil
 | @cons n a m p ha ht hu hm ho hp ih=>exact .cons ha ht (by have:=hc a (by simp);rw[Int.toNat_natCast]at this;exact this) hm ho (ih fun b hb=>hc b (by simp[hb]))
structure hZ (T:ai) (D:List Bool) (x y:Nat) (p:List Int):Prop where
 valid:ao T=true
 fits:bP T D=true
 ne:x≠y
 hx:(x:Int)<T.nodes
 hy:(y:Int)<T.nodes
 uniq:fx T [] x y=true
 sp:SP T [] y x p
 up:∀a∈p,aL D a.toNat=false
theorem zn{x y:Int}(h:I6 T D x y=true):∃a b:Nat,x=(a:Int)∧y=(b:Int)∧hZ T D a b (b9 T [] a b)∧gu T [] x y=0:=by
 unfold I6 at h
 simp only[Bool.and_eq_true,Bool.not_eq_true',decide_eq_false_iff_not]at h
 obtain⟨⟨⟨⟨hv,hf⟩,hne⟩,hu⟩,hc⟩:=h
 obtain⟨a,b,rfl,rfl,ha,hb,_,hsp⟩:=ma (ud hu)
 simp only[Int.toNat_natCast]at hsp hc
 exact⟨a,b,rfl,rfl,⟨hv,hf,fun e=>hne (by rw[e]),ha,hb,hu,hsp,oG.1 hc⟩,ud hu⟩
variable {x y:Nat} {p:List Int}
theorem hZ.pos(h:hZ T D x y p):0<p.length:=by
 have hsp:=h.sp
 cases hsp with
 |nil=>exact absurd rfl h.ne
 |cons _ _ _=>simp
theorem hZ.He(h:hZ T D x y p):pz T D x p:=⟨h.valid,h.fits,aU.2 ⟨by omega,h.hx⟩,zF h.sp.ch,h.up⟩
theorem hZ.mj(h:hZ T D x y p):dJ T [] y x=1:=(wM h.valid (jI T) h.hx h.hy).1 h.uniq
theorem hZ.Jh(h:hZ T D x y p):eV T [] x p 0 p.length=true:=by
 have he:cD T (x:Int) (p.take p.length)=(y:Int):=by rw[List.take_length];exact h.sp.ch.fin
 rw[lJ h.He.bare (Nat.zero_le _) (Nat.le_refl _) (u:=x) rfl he]
 have:eA p 0 p.length=p:=by unfold eA;simp
 rw[this]
 exact⟨h.sp,h.mj⟩
theorem hZ.part(h:hZ T D x y p){i k:Nat}(hik:i≤k)(hk:k<p.length):I6 T D (bb T (p.getD i 0).toNat) (aS T (p.getD k 0).toNat)=true:=by
 have hF:=h.He
 have ha:=hF.aI
 have hc:=ES hF.bare (i:=0) (j:=p.length) (i':=i) (j':=k+1) (Nat.zero_le _) (by omega) (by omega) (Nat.le_refl _) h.Jh
 obtain⟨u,hu,huN⟩:=cp h.valid hF.node ha i (by omega)
 obtain⟨v,hv,hvN⟩:=cp h.valid hF.node ha (k+1) (by omega)
 rw[oM hF (by omega) hu,←gH T x p k hk,hv]
 rw[←rm hF (by omega) (by omega) hu hv,Bool.and_eq_true]at hc
 exact hc.1
theorem hZ.next(h:hZ T D x y p){i u:Nat}(hi:i<p.length)(hu:cD T x (p.take i)=(u:Int)):bx T [] u y=[p.getD i 0]∧bx T D u y=[p.getD i 0]∧(u:Int)<T.nodes:=by
 have hF:=h.He
 have hv:=h.valid
 have ha:=hF.aI
 obtain⟨u',hu',huN⟩:=cp hv hF.node ha i (by omega)
 have:u'=u:=by omega
 subst this
 have hfin:cD T (x:Int) (p.take p.length)=(y:Int):=by rw[List.take_length];exact h.sp.ch.fin
 have hch:=hF.bare.ch (i:=0) (j:=i) (Nat.zero_le _) (by omega) (u:=x) rfl hu
 have hpp:eA p 0 i++eA p i p.length=p:=by rw[←kz p (Nat.zero_le _) (by omega)];unfold eA;simp
 have hsp:=h.sp
 rw[←hpp]at hsp
 obtain⟨s1,s2⟩:=hsp.suffix hv h.hy h.mj hch
 have hdr:eA p i p.length=p.getD i 0::p.drop (i+1):=by
  unfold eA
  rw[List.take_of_length_le (by simp),drop_cons p i hi]
 rw[hdr]at s1
 have hup:∀c∈p.getD i 0::p.drop (i+1),aL D c.toNat=false:=fun c hc=>by
  rw[←drop_cons p i hi]at hc
  exact h.up c (List.mem_of_mem_drop hc)
 have hchD:=s1.ch.mask hup
 have hd0:=s1.cost hv h.hy
 generalize p.getD i 0=a0 at*
 generalize p.drop (i+1)=q at*
 cases s1 with
 | @cons _ a m _ hn hm hq=>
  obtain⟨b,hb,_,_⟩:=tN hv h.hy huN hn.ne s2
  have hab:=eR hn ((aK hv).cost a hn.eM).1
  rw[hb]at hab
  simp only[List.mem_singleton]at hab
  rw[←hab]at hb
  refine⟨hb,?_,huN⟩
  have hDle:=hchD.le hv h.hy
  have mono:∀k:Nat,(k:Int)<T.nodes→0≤dN T D y k→0≤dN T [] y k∧dN T [] y k≤dN T D y k:=fun k hk h0=>by
   have hs:=dU hv h.hy hk h0
   have:=hs.ch.bare.le hv h.hy
   rw[←(hs.cost hv h.hy).1]at this
   exact this
  have hmu:=mono u' huN hDle.1
  have heq:dN T D y u'=dN T [] y u':=by omega
  have hall:∀c∈bx T D u' y,c=(a:Int):=fun c hc=>by
   obtain⟨k,rfl,hk⟩:=cO hc
   obtain⟨z,hz,hzN⟩:=dx hv hk.eM
   have g:=hk.dN hz
   have g2:=mono z hzN g.1
   have hs:=dU (D:=[]) hv h.hy hzN g2.1
   have hch2:Ch T [] y u' ((k:Int)::b9 T [] z y):=.cons hk.eM hk.tail (by simp[aL]) hz (by
    rcases hk.pass with e|e
    ·left
     have:z=y:=by omega
     subst this
     exact hs.self
    ·right
     rw[hz,Int.toNat_natCast]at e
     exact e) hs.ch
   have g3:=hch2.le hv h.hy
   rw[fO,←(hs.cost hv h.hy).1,Int.toNat_natCast]at g3
   have hnr:jg T [] u' y k:=⟨hk.eM,hk.tail,by simp[aL],hk.ne,by rw[hz,Int.toNat_natCast];exact g2.1,hk.pass,by
    rw[hz,Int.toNat_natCast]
    show dN T [] y u'=dN T [] y z+cb T k
    omega⟩
   have:=eR hnr ((aK hv).cost k hk.eM).1
   rw[hb]at this
   simpa using this
  obtain⟨k,hk⟩:=jt (D:=D) hv huN h.hy hn.ne hDle.1
  have hmem:=eR hk ((aK hv).cost k hk.eM).1
  have hso:=lz T D u' y
  cases hx:bx T D u' y with
  |nil=>rw[hx]at hmem;cases hmem
  |cons c l=>
   rw[hx]at hall hso
   have hc:=hall c (by simp)
   subst hc
   cases l with
   |nil=>rfl
   |cons c2 l=>
    have:=hall c2 (by simp)
    have h3:=(List.pairwise_cons.1 hso).1 c2 (by simp)
    omega
end
end PW
end Go.Proofs.YtnegbdpggideiaaGreatDoor
namespace Go.Proofs.YtnegbdpggideiaaGreatDoor
namespace PW
open Go.RowKit cE Mem Net
def sq(k:Nat):List mC:=(List.range k).map fun(i:Nat)=>⟨(i:Int),(((i+1) % 4:Nat):Int),1,1,0,1,0⟩
def cL:ai:=⟨4,[],sq 4⟩
def Ei(d:Nat):List Int:=match d with
 |0=>[0,1,2,1]
 |1=>[1,0,1,2]
 |2=>[2,1,0,1]
 |_=>[1,2,1,0]
theorem kp:ao cL=true:=by kernel_rfl
def I4(T:ai)(n:Nat)(out:List Int)(a:Nat):Bool:=decide (0≤at' out (cJ T false a))&&(decide (cJ T false a=(n:Int))|| !cR T (cJ T false a).toNat)
theorem tD(n:Nat)(out:List Int)(a:Nat):Net.Way cL [] n false out a↔I4 cL n out a=true:=by
 unfold Net.Way I4
 have:aL [] a=false:=by simp[aL]
 simp[this]
theorem xU(l:List mC)(e:mC):gv l++jj e=gv (l++[e]):=by simp[gv]
theorem yK(k:Nat):sq (k+1)=sq k++[⟨(k:Int),(((k+1) % 4:Nat):Int),1,1,0,1,0⟩]:=by simp[sq,List.range_succ]
theorem Cw{P:Program}{σ:cf}{t:bZ}{o:Oper}{ty:TypeId}{v0 v1 c0 c1:Value}(ho:o.op= .build ty #[(0,.const v0),(1,.const v1)])(hb:P.built ty [(0,v0),(1,v1)]=some #[c0,c1]):bh P σ t o (.agg [.raw c0,.raw c1]):=by
 intro F base E ρ w hρ hS hT
 have hrun:=run_build (P:=P) w ty #[(0,v0),(1,v1)] #[c0,c1] hb
 have h0:ρ (.const v0)=v0:=hρ.const v0
 have h1:ρ (.const v1)=v1:=hρ.const v1
 have hr:(execOp ρ o).run P w= .ok (.value (.agg #[c0,c1])) w:=by
  simp only[execOp,ho,Sem.run_bind,List.map_toArray,List.map_cons,List.map_nil,h0,h1,hrun,Result.andThen_ok,Sem.run_pure]
 rw[hr]
 refine bg (.agg #[c0,c1] _ rfl (fun i x u k1 k2=>?_))
 match i,k1,k2 with
 |0,k1,k2=>simp at k1 k2;subst k1;subst k2;exact .raw _
 |1,k1,k2=>simp at k1 k2;subst k1;subst k2;exact .raw _
 |_+2,k1,k2=>simp at k2
end PW
end Go.Proofs.YtnegbdpggideiaaGreatDoor
namespace Go.Proofs.YtnegbdpggideiaaGreatDoor
namespace PW
open Go.RowKit cE Mem Net
end PW
end Go.Proofs.YtnegbdpggideiaaGreatDoor
namespace Go.Proofs.YtnegbdpggideiaaGreatDoor
namespace PW
open Go.RowKit cE Mem Net
section
variable {P:Program} {σ:cf} {t:bZ} {o:Oper}
end
end PW
end Go.Proofs.YtnegbdpggideiaaGreatDoor
namespace Go.Proofs.YtnegbdpggideiaaGreatDoor
namespace PW
open Go.RowKit cE Mem Net
def kE(T:ai)(D:List Bool)(L:List Int)(m d:Nat):List Int:=if m=d∨L.getD m 0<0 then [] else kF T D L (L.getD m 0) d (bH T m)
def yy(T:ai)(D:List Bool)(L:List Int)(d:Nat):Nat→Nat→Int
 |0,m=>if m=d then 1 else 0
 |f+1,m=>if m=d then 1 else(kE T D L m d).foldl (fun c a=>min 2 (c+yy T D L d f (aS T a.toNat).toNat)) 0
def AB(y u:Nat)(c:Int):Bool:=decide ((Ei y).getD u 0=c)&&(decide (cc cL [] (u:Int) (y:Int)=0)&&decide (yy cL [] (Ei y) y ((Ei y).getD u 0).toNat u=1))
end PW
end Go.Proofs.YtnegbdpggideiaaGreatDoor
namespace Go.Proofs.YtnegbdpggideiaaGreatDoor
namespace PW
open Go.RowKit cE Mem Net
instance (l:List bY):mo (eB l):=⟨fun i u h=>by
 obtain⟨s,_,hs⟩:=List.mem_flatMap.1 (List.mem_of_getElem? h)
 simp only[mU,List.mem_cons,List.not_mem_nil,or_false]at hs
 rcases hs with rfl|rfl
 ·infer_instance
 ·infer_instance⟩
end PW
end Go.Proofs.YtnegbdpggideiaaGreatDoor
namespace Go.Proofs.YtnegbdpggideiaaGreatDoor
namespace PW
open Go.RowKit cE Mem Net
section
variable {H:Type} {enc:TypeId×Value→H} {W:World}
end
end PW
end Go.Proofs.YtnegbdpggideiaaGreatDoor
namespace Go.Proofs.YtnegbdpggideiaaGreatDoor
namespace PW
open Go.RowKit cE Mem Net Go.WideShapes
section
variable {H:Type} {enc:TypeId×Value→H} {W:World}
theorem CO{n:Nat}{cs:List Value}{y:DataW H×List MemPlace}(h:DataW.trod enc Tryz.prog W 0 (fun _=>true) true n 25 cs=some y)(hl:cs.length=3):∃T:ai,aW EN W cs (bw T):=by
 have c0':Tryz.prog.cellsOf 3=1:=by kernel_rfl
 have c1':Tryz.prog.cellsOf 22=1:=by kernel_rfl
 have c2':Tryz.prog.cellsOf 23=1:=by kernel_rfl
 obtain⟨xs,m,_,_,_,hlen,hf⟩:=DataW.trod_struct Tryz.underlying25 h
 match cs,hl with
 | [c0,c1,c2],_=>
  match xs,hlen with
  | [y0,y1,y2],_=>
   have f0:DataW.trod enc Tryz.prog W 0 (fun _=>true) true m 3 (([c0,c1,c2].drop 0).take (Tryz.prog.cellsOf 3))=some y0:=hf 0 _ rfl
   rw[c0']at f0
   have f1:DataW.trod enc Tryz.prog W 0 (fun _=>true) true m 22 (([c0,c1,c2].drop 1).take (Tryz.prog.cellsOf 22))=some y1:=hf 1 _ rfl
   rw[c1']at f1
   have f2:DataW.trod enc Tryz.prog W 0 (fun _=>true) true m 23 (([c0,c1,c2].drop 2).take (Tryz.prog.cellsOf 23))=some y2:=hf 2 _ rfl
   rw[c2']at f2
   obtain⟨a,ha⟩:=gG f0
   obtain⟨B,hB⟩:=Dx f1
   obtain⟨L,hL⟩:=qc (f:=jj) (s:=7) Tryz.underlying23 (by kernel_rfl) (by omega) (fun n cs y hy hl=>FD hy hl) f2
   simp at ha
   subst ha
   exact⟨⟨a,B,L⟩,aW.cons (.raw _)<|aW.cons hB<|aW.cons hL (aW.nil _ _)⟩
end
end PW
end Go.Proofs.YtnegbdpggideiaaGreatDoor
namespace Go.Proofs.YtnegbdpggideiaaGreatDoor
namespace PW
open Go.RowKit cE Mem Net Go.WideShapes
section
variable {H:Type} {enc:TypeId×Value→H} {W:World}
end
end PW
end Go.Proofs.YtnegbdpggideiaaGreatDoor
namespace Go.Proofs.YtnegbdpggideiaaGreatDoor
namespace PW
open Go.RowKit cE Mem Net
end PW
end Go.Proofs.YtnegbdpggideiaaGreatDoor
namespace Go.Proofs.YtnegbdpggideiaaGreatDoor
namespace PW
open Go.RowKit cE Mem Net
theorem Ch.Ke{T:ai}{D:List Bool}{d m:Nat}{q:List Int}(h:Ch T D d m q):∀a∈q,aL D a.toNat=false:=by
 induction h with
 |nil=>intro z hz;cases hz
 | @cons n a m p ha ht hu hm ho hp ih=>
  intro z hz
  rcases List.mem_cons.1 hz with rfl|hz
  ·rw[Int.toNat_natCast];exact hu
  ·exact ih z hz
theorem ph(T:ai)(D:List Bool)(x y:Int):Can Tryz.prog 34 [aN T,aY D,num x,num y] (· =dr (gu T D x y) (b9 T D x.toNat y.toNat)):=by
 exact aG Tryz.func34 rfl Tryz.ntmps34 rfl<|ab (.a 3 rfl<|.k [1,2,3,4] rfl)<|ab (.a 4 rfl<|.c rfl (xR T D x y) rfl<|.a 4 rfl<|.k [8,9] rfl)<|aq<|⟨_,_,az.of rfl,aC.pure,rfl⟩
theorem FZ{T:ai}{D:List Bool}{n:Int}{p:List Int}(hp:0<p.length):0<(iJ T D n p).length:=by
 unfold iJ
 obtain⟨f,hf⟩:∃f,p.length=f+1:=⟨p.length - 1,by omega⟩
 rw[hf]
 simp only[hJ]
 rw[if_pos (by omega)]
 cases kJ (eV T D n p 0) 0 p.length<;>simp
end PW
end Go.Proofs.YtnegbdpggideiaaGreatDoor
namespace Go.Proofs.YtnegbdpggideiaaGreatDoor
namespace PW
open Go.RowKit cE Mem Net
def jk:List bY→List bY
 | []=>[]
 |s::l=>if s.kind=2 then l else s::l
noncomputable def jA(T:ai)(D:List Bool)(n d:Int):iE:=
 if gu T D n d=0∧n≠d then⟨[(b9 T D n.toNat d.toNat).getD 0 0],true,jk (iJ T [] n (b9 T D n.toNat d.toNat))⟩ else⟨[],false,[]⟩
structure oI (T:ai) (D:List Bool) (x y:Nat) (p:List Int):Prop where
 valid:ao T=true
 fits:bP T D=true
 ne:x≠y
 hx:(x:Int)<T.nodes
 hy:(y:Int)<T.nodes
 sp:SP T D y x p
theorem uq{T:ai}{D:List Bool}{n d:Int}(h:gu T D n d=0)(hne:n≠d):∃a b:Nat,n=(a:Int)∧d=(b:Int)∧oI T D a b (b9 T D a b):=by
 have hf:bP T D=true:=by
  have h':=h
  unfold gu at h'
  split at h'
  ·rename_i h1;exact(fc h1).2.1
  ·rename_i h1;exact absurd h' h1
 obtain⟨a,b,rfl,rfl,ha,hb,hv,hsp⟩:=ma h
 simp only[Int.toNat_natCast]at hsp
 exact⟨a,b,rfl,rfl,hv,hf,fun e=>hne (by rw[e]),ha,hb,hsp⟩
section
variable {T:ai} {D:List Bool} {x y:Nat} {p:List Int}
theorem oI.pos(h:oI T D x y p):0<p.length:=by
 have hsp:=h.sp
 cases hsp with
 |nil=>exact absurd rfl h.ne
 |cons _ _ _=>simp
theorem oI.He(h:oI T D x y p):pz T D x p:=⟨h.valid,h.fits,aU.2 ⟨by omega,h.hx⟩,zF h.sp.ch,h.sp.ch.Ke⟩
theorem oI.zero(h:oI T D x y p):fA T D x p=0:=wQ h.He
theorem oI.len(h:oI T D x y p):(p.length:Int)<T.nodes:=h.sp.DQ h.valid h.hy
theorem oI.head(h:oI T D x y p):p.getD 0 0∈bx T D x y:=by
 have hsp:=h.sp
 cases hsp with
 |nil=>exact absurd rfl h.ne
 | @cons n a m q h1 hm hq=>exact eR h1 ((aK h.valid).cost a h1.eM).1
theorem oI.JJ(h:oI T D x y p):∃a:Nat,p.getD 0 0=(a:Int)∧jg T D x y a:=cO h.head
theorem oI.EB(h:oI T D x y p):0<(iJ T [] x p).length∧(iJ T [] x p).length≤p.length:=⟨FZ h.pos,EH _ _⟩
theorem oI.ck(h:oI T D x y p):Jj T D (iJ T [] x p) x p=true:=by
 have hF:=h.He
 unfold Jj
 rw[if_pos h.zero,Ee hF.bare _ 0 (Nat.zero_le _),Bool.and_eq_true]
 exact⟨xQ hF.bare _ 0 (Nat.zero_le _) (by omega),ur hF.bare _ 0 (Nat.zero_le _)⟩
theorem wG{n:Int}(hp:0<p.length):∃s l,iJ T [] n p=s::l∧(s.kind=1∨s=⟨2,p.getD 0 0⟩):=by
 unfold iJ
 obtain⟨f,hf⟩:∃f,p.length=f+1:=⟨p.length - 1,by omega⟩
 rw[hf]
 simp only[hJ]
 rw[if_pos (by omega)]
 cases kJ (eV T [] n p 0) 0 p.length with
 |none=>exact⟨_,_,rfl,.inr rfl⟩
 |some j=>exact⟨_,_,rfl,.inl rfl⟩
theorem GI(l:List bY):(jk l).length≤l.length:=by
 cases l with
 |nil=>simp[jk]
 |cons s l=>simp only[jk];split<;>simp
theorem GJ{l:List bY}{s:bY}(h:s∈jk l):s∈l:=by
 cases l with
 |nil=>cases h
 |cons a l=>simp only[jk]at h;split at h<;>simp_all
theorem yt(hF:pz T D x p):∀(f i:Nat),∀s∈hJ T [] x p f i,nx T s=true
 |0,i,s,hs=>by simp[hJ]at hs
 |f+1,i,s,hs=>by
  simp only[hJ]at hs
  split at hs
  ·rename_i hi
   cases ht:kJ (eV T [] x p i) i p.length with
   |none=>
    rw[ht]at hs
    simp only[List.mem_cons]at hs
    rcases hs with rfl|hs
    ·unfold nx;simp only[if_neg (show ¬(2:Int)=1 by decide),if_pos rfl];exact hF.aI _ (ca hi)
    ·exact yt hF f (i+1) s hs
   |some j=>
    rw[ht]at hs
    simp only[List.mem_cons]at hs
    obtain⟨h1,h2,h3,h4⟩:=nT _ _ ht
    rcases hs with rfl|hs
    ·obtain⟨u,hu,huN⟩:=cp hF.valid hF.node hF.aI j h2
     unfold nx;simp only[if_pos rfl];rw[hu];exact aU.2 ⟨by omega,huN⟩
    ·exact yt hF f j s hs
  ·cases hs
theorem oI.whole(h:oI T D x y p):Jj T D (jk (iJ T [] x p)) x p=true∨Jj T D (⟨2,p.getD 0 0⟩::jk (iJ T [] x p)) x p=true:=by
 obtain⟨s,l,hl,hs⟩:=wG (T:=T) (n:=(x:Int)) h.pos
 have hc:=h.ck
 rw[hl]at hc ⊢
 rcases hs with hs|rfl
 ·left
  simp only[jk]
  rw[if_neg (by omega)]
  exact hc
 ·right
  exact hc
end
theorem pE{T:ai}{D:List Bool}{x y:Nat}(h:oI T D x y (b9 T D x y)):jA T D x y=⟨[(b9 T D x y).getD 0 0],true,jk (iJ T [] x (b9 T D x y))⟩:=by
 unfold jA
 rw[if_pos]
 ·simp only[Int.toNat_natCast]
 ·refine⟨?_,fun e=>h.ne (by omega)⟩
  rw[jQ h.valid h.fits h.hx h.hy,if_neg]
  have:=(h.sp.cost h.valid h.hy).2
  omega
theorem yE{T:ai}{D:List Bool}{n d:Int}(h:¬(gu T D n d=0∧n≠d)):jA T D n d=⟨[],false,[]⟩:=if_neg h
theorem th(T:ai)(D:List Bool)(n d:Int):(jA T D n d=⟨[],false,[]⟩∧¬(gu T D n d=0∧n≠d))∨∃a b:Nat,n=(a:Int)∧d=(b:Int)∧oI T D a b (b9 T D a b)∧jA T D n d=⟨[(b9 T D a b).getD 0 0],true,jk (iJ T [] a (b9 T D a b))⟩:=by
 by_cases h:gu T D n d=0∧n≠d
 ·obtain⟨a,b,rfl,rfl,hp⟩:=uq h.1 h.2
  exact .inr ⟨a,b,rfl,rfl,hp,pE hp⟩
 ·exact .inl ⟨yE h,h⟩
theorem vV(T:ai)(D:List Bool)(n d:Int)(h12:T.nodes≤12):(jA T D n d).push.length≤32:=by
 rcases th T D n d with⟨h,_⟩|⟨a,b,rfl,rfl,hp,h⟩
 ·rw[h];simp
 ·rw[h]
  have:=GI (iJ T [] a (b9 T D a b))
  have:=hp.EB.2
  have:=hp.len
  show(jk _).length≤32
  omega
theorem CZ(T:ai)(D:List Bool)(n d:Int)(h12:T.nodes≤12):iU T n d (jA T D n d)=true:=by
 have hpl:=vV T D n d h12
 rcases th T D n d with⟨h,_⟩|⟨a,b,rfl,rfl,hp,h⟩
 ·rw[h]
  unfold iU
  have:eI T n []=true:=decide_eq_true fun i hi=>by simp at hi
  simp only[this]
  simp
 ·rw[h]at hpl ⊢
  obtain⟨k,hk,hn⟩:=hp.JJ
  have h1:eI T (a:Int) [(b9 T D a b).getD 0 0]=true:=qx (by simp) fun c hc=>by
   simp only[List.mem_singleton]at hc
   subst hc
   rw[hk]
   exact⟨cY.2 ⟨by omega,by have:=hn.eM;omega⟩,by rw[Int.toNat_natCast];exact hn.tail⟩
  have h2:decide (((b:Nat):Int)=(a:Int))=false:=decide_eq_false (by have:=hp.ne;omega)
  have h3:(jk (iJ T [] a (b9 T D a b))).all (nx T)=true:=List.all_eq_true.2 fun s hs=>yt hp.He _ 0 s (GJ hs)
  unfold iU
  simp only[h1,h2,h3,if_true]
  simp only[Bool.true_and,Bool.false_and,Bool.not_false,Bool.and_true,Bool.and_eq_true,decide_eq_true_eq]
  exact⟨rfl,by have:(jk (iJ T [] a (b9 T D a b))).length≤32:=hpl;omega⟩
noncomputable def rK(T:ai)(D:List Bool)(n:Int)(k:Nat):List iE:=(List.range k).map fun(d:Nat)=>jA T D n (d:Int)
theorem qI(T:ai)(D:List Bool)(n:Int)(k:Nat):(rK T D n k).length=k:=by simp[rK]
theorem wi{T:ai}{D:List Bool}{n:Int}{k d:Nat}(h:d<k):(rK T D n k)[d]? =some (jA T D n (d:Int)):=by simp[rK,h]
theorem FF{T:ai}{D:List Bool}{n k d:Nat}(h:d<k):(nY T D n k)[d]? =some ⟨bx T D n d,false,[]⟩:=by simp[nY,h]
noncomputable def uE(T:ai)(D:List Bool)(n:Nat):dR:=⟨n,rK T D n T.nodes.toNat,cF D (bH T n)⟩
theorem og{T:ai}{D:List Bool}(hv:ao T=true)(h12:T.nodes≤12){n:Nat}(hn:(n:Int)<T.nodes):dD T (uE T D n)=true:=by
 unfold dD uE
 have h1:bn T (n:Int)=true:=aU.2 ⟨by omega,hn⟩
 have hN:=(aK hv).nodes
 have h2:decide (((rK T D n T.nodes.toNat).length:Int)=T.nodes)=true:=decide_eq_true (by rw[qI];omega)
 have h3:eI T n (cF D (bH T n))=true:=lW T n _
 have h4:nd T n (rK T D n T.nodes.toNat)=true:=iY fun d e he=>by
  have hd:d<T.nodes.toNat:=by
   have:=(List.getElem?_eq_some_iff.1 he).1
   rwa [qI]at this
  rw[wi hd]at he
  cases he
  exact CZ T D n d h12
 rw[hv,h1,h2,h3,h4]
 rfl
theorem hZ.same{T:ai}{D:List Bool}{x y:Nat}{p:List Int}(h:hZ T D x y p):b9 T D x y=p∧oI T D x y p∧iJ T [] x p=[⟨1,(y:Int)⟩]:=by
 have hv:=h.valid
 have hch:=h.sp.ch.mask h.up
 have h1:=hch.le hv h.hy
 have h0:=h.sp.cost hv h.hy
 have hq:=dU (D:=D) hv h.hy h.hx h1.1
 have hqc:=hq.cost hv h.hy
 have hqb:=hq.ch.bare
 have h2:=hqb.le hv h.hy
 have hq':=hqb.sp hv h.hy (by omega)
 have he:b9 T D x y=p:=hq'.unique hv h.hy h.sp h.mj
 have hP:oI T D x y p:=⟨hv,h.fits,h.ne,h.hx,h.hy,by rw[←he];exact hq⟩
 refine⟨he,hP,?_⟩
 unfold iJ
 obtain⟨f,hf⟩:∃f,p.length=f+1:=⟨p.length - 1,by have:=h.pos;omega⟩
 rw[hf,jS (j:=p.length) h.pos h.pos (Nat.le_refl _) h.Jh (fun k h3 h4=>by omega),nv _ _ (Nat.le_refl _),List.take_length,h.sp.ch.fin]
theorem hZ.Cc{T:ai}{D:List Bool}{x y:Nat}{p:List Int}(h:hZ T D x y p):bx T [] x y=[p.getD 0 0]∧bx T D x y=[p.getD 0 0]∧jA T D x y=⟨[p.getD 0 0],true,[⟨1,(y:Int)⟩]⟩:=by
 obtain⟨h1,h2,h3⟩:=h.same
 obtain⟨h4,h5,_⟩:=h.next (i:=0) h.pos (u:=x) rfl
 refine⟨h4,h5,?_⟩
 rw[←h1]at h2
 rw[pE h2,h1,h3]
 rfl
theorem AX{T:ai}{D D':List Bool}(hv:ao T=true){d:Nat}(hd:(d:Int)<T.nodes)(dir:Bool)(hD:∀a,aL D a=aL D' a):br T D d dir=br T D' d dir:=by
 have hI:=iT (aK hv) D' dir hd
 refine jN (aK hv) ⟨hI.len,hI.root,hI.ge,fun a ha hw=>hI.closed a ha ?_,fun x hx h0=>?_⟩
 ·exact⟨(hD a).symm.trans hw.1,hw.2⟩
 ·rcases hI.my x hx h0 with h|⟨a,h1,h2,h3,h4⟩
  ·exact .inl h
  ·exact .inr ⟨a,h1,h2,⟨(hD a).trans h3.1,h3.2⟩,h4⟩
end PW
end Go.Proofs.YtnegbdpggideiaaGreatDoor
namespace Go.Proofs.YtnegbdpggideiaaGreatDoor
namespace PW
open Go.RowKit cE Mem Net fk
section
variable {P:Program} {σ:cf} {t:bZ} {o:Oper} {N L:Nat} {ops:Array Oper}
theorem uA{rest:List Oper}{K:St→Prop}{d:Nat}{x y:Operand}{ty tz:TypeId}{xs:List PV}(ho:o.op= .binOp .eql ty x y tz)(hk:wz P ty=true)(hx:aD t x=some (.slice 0 xs))(hy:aD t y=some (.raw (.slice none 0 0)))(hd:o.dst=some d)(hw:eE ops t o=some true)(hN:Nat.blt d N=true)
  (h:∀b,WR P N L ops rest ⟨(d,.raw (.bool b))::t,σ⟩ K):WR P N L ops (o::rest) ⟨t,σ⟩ K:=by
 refine nr hw fun F base E a w hs next Q hn=>?_
 obtain⟨e,hu⟩:=oC hk
 have h1:=ax (gb a) hs.tmp hx
 have h2:=ax (gb a) hs.tmp hy
 generalize hz:a.eval x=z at h1
 generalize hz':a.eval y=z' at h2
 cases h2
 obtain⟨p,c,rfl,_,_⟩:=pR h1
 have hrun:=Lib.run_eql_slice_nil w ty e p 0 c 0 0 hu
 have hg:∀a n c b m d,(eqGuard .eql ty x y (.slice a n c) (.slice b m d)).run P w= .ok () w:=fun _ _ _ _ _ _=>rfl
 have hU:gd P w (fun v w'=>cC E w' v (.raw (.bool p.isNone))) ((execOp a.eval o).run P w):=by
  simp only[execOp,ho,hz,hz',Sem.run_bind,Sem.run_pure,Result.andThen_ok,hg,hrun]
  exact bg (.raw _)
 refine pU hU fun v w' hE hv=>hn _ _ _ E (h p.isNone) ?_ (.ext hE) (Below.iy hE hs.sat.bl)
 rw[hd]
 exact hs.put (hs.sat.ext hE) (.ext hE) hN hv
theorem qN{ty e s n h:Nat}{x hi' mx:Operand}{xs:List PV}{k k':IntKind}{hii mi:Int}(ho:o.op= .slice ty x none (some hi') (some mx))(he:xf P ty=some (e,s))(hx:aD t x=some (.slice n xs))(hhi:aD t hi'=some (.raw (.int k hii)))(hmx:aD t mx=some (.raw (.int k' mi)))(hxl:xs.length=n*s)(hli:hii=(h:Int))(hmi:mi=(h:Int))(hl:h≤n):
  bh P σ t o (.slice h (xs.take (h*s))):=by
 intro F base E ρ w hρ hS hT
 have h1:=ax hρ hT hx
 have h2:=ax hρ hT hhi
 have h3:=ax hρ hT hmx
 obtain⟨hu,i,hi,hs⟩:=fW he
 generalize hz:ρ x=v at h1
 generalize hz':ρ hi'=u at h2
 generalize hz2:ρ mx=u2 at h3
 cases h2
 cases h3
 subst hli
 subst hmi
 obtain⟨a,c,rfl,hc1,hc2⟩:=pR h1
 have hR:=p9 (s:=s) (l:=0) h1 hxl (Nat.zero_le _) hl (Nat.le_refl h) (Nat.le_trans hl hc1)
 have hrun:(Instr.sliceAt ty (.slice a n c) none (some (.int k (h:Int))) (some (.int k' (h:Int)))).run P w= .ok (.slice (if h=0 then a else a.map (·.add (0*s))) (h - 0) (h - 0)) w:=by
  have:h≤c:=Nat.le_trans hl hc1
  simp[Instr.sliceAt,run_underlying hu,Instr.slice,Instr.sliceBounds,Instr.sliceBound,asIntOf,this,sizeOf,typeInfo,hi]
 simp only[execOp,ho,hz,hz',hz2,Option.map_some,Option.map_none,Sem.run_bind,hrun,Result.andThen_ok,Sem.run_pure]
 refine bg ?_
 simpa using hR
end
theorem JQ:wz Tryz.prog 39=true:=by kernel_rfl
theorem mW(l:List bY)(hl:l.length≤1000):Can Tryz.prog 142 [cH l] (· =cH l):=by
 refine aG Tryz.func142 rfl Tryz.ntmps142 rfl<|ab (.a 1 rfl<|.k [0] rfl)<|ak<|aR (WR.mono (K:=fun s=>∃b:Bool,s=⟨[(0,cH l),(4,.raw (.bool b))],[]⟩∧(b=true→l=[])) ?_ ?_)
 ·cases l with
  |nil=>exact au 1 rfl<|uA rfl JQ rfl rfl rfl rfl rfl fun b=>aH [0,4] rfl ⟨b,rfl,fun _=>rfl⟩
  |cons a l=>exact au 1 rfl<|bC (nu rfl JQ rfl rfl (Nat.succ_pos _)) rfl rfl rfl<|aH [0,4] rfl ⟨_,rfl,fun h=>by cases h⟩
 rintro _ ⟨b,rfl,hb⟩
 refine ah rfl (fun hc=>?_) (fun hc=>?_)
 ·have:l=[]:=hb hc
  subst this
  exact ab (.a 1 rfl<|.k [2] rfl)<|aq<|⟨_,_,az.of rfl,aC.b7,rfl⟩
 ·refine aj<|aR<|cz (ky rfl (bL.sl.get rfl)) rfl<|au 1 rfl<|cz (bA rfl (bL.rk.get rfl) rfl rfl rfl (lQ l) (by unfold maxLen;omega)) rfl<|au 1 rfl<|aH [2] rfl ?_
  refine aq<|⟨_,_,az.of rfl,aC.fu (xs:=eB l) (ys:=eB l) rfl an.pure,?_⟩
  rw[Nat.zero_add];rfl
theorem lX{P:Program}{σ:cf}{t:bZ}{o:Oper}{ty:TypeId}{x lo:Operand}{s:bY}{l:List bY}{k:IntKind}(ho:o.op= .slice ty x (some lo) none none)(he:xf P ty=some (103,2))(hx:aD t x=some (.slice (s::l).length (eB (s::l))))(hlo:aD t lo=some (.raw (.int k 1))):bh P σ t o (.slice l.length (eB l)):=by
 have h:=zW (l:=1) (σ:=σ) ho he hx hlo (lQ _) rfl (by simp)
 have e:((eB (s::l)).drop (1*2)).take (((s::l).length - 1)*2)=eB l:=by
  show(eB l).take _=_
  refine List.take_of_length_le ?_
  rw[lQ];simp
 rw[e]at h
 exact h
theorem FM{T:ai}{D:List Bool}{n d:Int}(h:gu T D n d≠0):jA T D n d=⟨[],false,[]⟩:=yE fun hh=>h hh.1
theorem FK{T:ai}{D:List Bool}{n d:Int}(h:gu T D n d≠0)(h':gu T D n d≠11):cc T D n d=gu T D n d:=by
 unfold gu at*
 split at h<;>simp_all
theorem HJ{T:ai}{D:List Bool}{n d:Int}(h:gu T D n d=0∨gu T D n d=11):cc T D n d=0:=by
 unfold gu at h
 split at h
 ·assumption
 ·rename_i hh
  rcases h with h|h
  ·exact h
  ·exfalso
   unfold cc cw at h
   split at h<;>(try split at h)<;>(try split at h)<;>omega
def JI(e:Int)(x:iE):PV:=.tuple [wb x,num e]
theorem vt(T:ai)(D:List Bool)(n d:Int)(hlk:T.ae.length≤256)(h12:T.nodes≤12):Can Tryz.prog 124 [aN T,aY D,num n,num d] (· =JI (cc T D n d) (jA T D n d)):=by
 obtain⟨c1,hc1⟩:∃q,decide (gu T D n d≠0)=q:=⟨_,rfl⟩
 obtain⟨c2,hc2⟩:∃q,decide (gu T D n d≠11)=q:=⟨_,rfl⟩
 refine aG Tryz.func124 rfl Tryz.ntmps124 rfl<|aR<|au 3 rfl<|aH [1,2,3,4,8] rfl ?_
 refine ab (.a 4 rfl<|.c rfl (xN T D n d) rfl<|.a 5 rfl<|.k [1,2,4,8,10,11] rfl)<|ak<|bu 27 (.raw (.bool (c1&&c2))) [1,2,4,8,10,11] rfl ?_ ?_
 ·refine .a 1 rfl<|.v (cg rfl (hc1)) rfl<|.a 1 rfl<|?_
  cases c1
  ·exact .a 3 rfl<|.k [27,1,2,4,8,10,11] rfl
  ·exact .a 1 rfl<|.v (cg rfl (hc2)) rfl<|.a 1 rfl<|.k [27,1,2,4,8,10,11] rfl
 refine ah rfl (fun h1=>?_) (fun h1=>?_)
 ·obtain⟨rfl,rfl⟩:=Bool.and_eq_true_iff.1 h1
  have e1:=tt hc1
  rw[FM e1,FK e1 (tt hc2)]
  refine aR<|au 4 rfl<|aH [8,9] rfl ?_
  exact aq<|⟨_,_,az.of rfl,aC.bz (an.cons (aC.ja (an.cons aC.b7<|an.cons aC.pure<|an.cons aC.b7 an.nil)) (an.cons aC.pure an.nil)),rfl⟩
 ·have e2:gu T D n d=0∨gu T D n d=11:=by
   rcases Bool.and_eq_false_iff.1 h1 with h|h
   ·subst h;exact .inl (Classical.byContradiction (ff hc1))
   ·subst h;exact .inr (Classical.byContradiction (ff hc2))
  rw[HJ e2]
  clear h1 hc1 hc2
  obtain⟨P,hP⟩:∃P,(if gu T D n d=0 then b9 T D n.toNat d.toNat else [])=P:=⟨_,rfl⟩
  rw[hP]
  refine aj<|ak<|ab (.a 3 rfl<|.k [1,2,4,8,10,32] rfl)<|ah rfl (fun h2=>?_) (fun h2=>?_)
  ·have hno:¬(gu T D n d=0∧n≠d):=by
    rintro⟨h3,h4⟩
    rw[if_pos h3]at hP
    obtain⟨a,b,rfl,rfl,hp⟩:=uq h3 h4
    have:=tt h2
    have:=hp.pos
    rw[←hP]at*
    simp only[Int.toNat_natCast]at*
    omega
   rw[yE hno]
   refine aR<|au 3 rfl<|aH [8,9] rfl ?_
   exact aq<|⟨_,_,az.of rfl,aC.bz (an.cons (aC.ja (an.cons aC.b7<|an.cons aC.pure<|an.cons aC.b7 an.nil)) (an.cons aC.pure an.nil)),rfl⟩
  ·obtain⟨p0,q,rfl⟩:∃p0 q,P=p0::q:=by
    cases P with
    |nil=>exact absurd rfl (ff h2)
    |cons p0 q=>exact⟨_,_,rfl⟩
   have h3:gu T D n d=0:=by
    rcases e2 with h|h
    ·exact h
    ·rw[h]at hP;simp at hP
   rw[if_pos h3]at hP
   have h4:n≠d:=by
    rintro rfl
    obtain⟨a,b,ha,hb,_,_,hv',hsp⟩:=ma h3
    have:a=b:=by omega
    subst this
    have:=hsp.self
    rw[this]at hP
    cases hP
   obtain⟨a,b,rfl,rfl,hp⟩:=uq h3 h4
   simp only[Int.toNat_natCast]at hP
   have hent:=pE hp
   rw[hP]at hp hent
   have hpl:=hp.len
   obtain⟨s,l,hl,hs⟩:=wG (T:=T) (n:=(a:Int)) hp.pos
   have hll:=hp.EB.2
   rw[hl]at hent hll
   have hsl:=BJ T D (p0::q) a (by simp only[List.length_cons]at hpl ⊢;omega) hlk h12
   rw[hl]at hsl
   unfold so at hsl
   rw[hp.zero,if_pos rfl]at hsl
   clear h2 e2 hl hs hp hP h3 h4
   simp only[List.length_cons]at hll hpl
   rw[show(p0::q).getD 0 0=p0 from rfl]at hent
   refine aj<|ab (.a 4 rfl<|.c rfl (hsl) rfl<|.a 5 rfl<|.k [8,10,12] rfl)<|ak<|ab (.a 1 rfl<|.v (aM (0) rfl (by omega) (by simp only[List.length_cons];omega)) rfl<|.a 1 rfl<|.v (aO rfl ((show(eB (s::l))[0]? =some (num s.kind) from rfl))) rfl<|.a 1 rfl<|.k [8,10,12,46] rfl)<|ah rfl (fun h5=>?_) (fun h5=>?_)
   ·have hc:jk (s::l)=l:=if_pos (tt h5)
    rw[hc]at hent
    have hlm:l.length≤32:=by omega
    refine aB (.a 1 rfl<|.v (lX rfl (bL.el.get rfl) rfl rfl) rfl<|.a 1 rfl<|.k [8,10,12] rfl) ?_
    refine ak<|ab (.a 3 rfl<|.k [8,10,12,51] rfl)<|ah rfl (fun h6=>?_) (fun h6=>?_)
    ·exact absurd (tt h6) (by omega)
    ·clear h6
     refine aj<|lj 5 20 mixed (
      .val [10] rfl (bF rfl) rfl rfl<|
      .val [53] rfl (qN (h:=1) rfl (bL.el.get rfl) rfl rfl rfl (show(aP (p0::q)).length=_ by simp[aP]) rfl rfl (by simp)) rfl rfl<|
      .val [12] rfl (bF rfl) rfl rfl<|
      .val [55] rfl (dX rfl (mW _ (by omega))) rfl rfl<|
      .val [54,56] rfl (bF rfl) rfl rfl<|
      .nil) (by kernel_rfl) rfl rfl (bm (ks:=[8,57]) rfl) ?_
     refine au 2 rfl<|aH [8,9] rfl ?_
     exact aq<|⟨_,_,az.of rfl,aC.bz (an.cons (aC.ja (an.cons (aC.pure (p:=aw [p0]))<|an.cons aC.pure<|an.cons (aC.pure (p:=cH _)) an.nil)) (an.cons aC.pure an.nil)),by rw[hent];rfl⟩
   ·have hc:jk (s::l)=s::l:=if_neg (ff h5)
    rw[hc]at hent
    have hlm:(s::l).length≤32:=by simp only[List.length_cons];omega
    refine aj<|ak<|ab (.a 3 rfl<|.k [8,10,12,51] rfl)<|ah rfl (fun h6=>?_) (fun h6=>?_)
    ·exact absurd (tt h6) (by omega)
    ·clear h6
     refine aj<|lj 5 20 mixed (
      .val [10] rfl (bF rfl) rfl rfl<|
      .val [53] rfl (qN (h:=1) rfl (bL.el.get rfl) rfl rfl rfl (show(aP (p0::q)).length=_ by simp[aP]) rfl rfl (by simp)) rfl rfl<|
      .val [12] rfl (bF rfl) rfl rfl<|
      .val [55] rfl (dX rfl (mW _ (by omega))) rfl rfl<|
      .val [54,56] rfl (bF rfl) rfl rfl<|
      .nil) (by kernel_rfl) rfl rfl (bm (ks:=[8,57]) rfl) ?_
     refine au 2 rfl<|aH [8,9] rfl ?_
     exact aq<|⟨_,_,az.of rfl,aC.bz (an.cons (aC.ja (an.cons (aC.pure (p:=aw [p0]))<|an.cons aC.pure<|an.cons (aC.pure (p:=cH _)) an.nil)) (an.cons aC.pure an.nil)),by rw[hent];rfl⟩
end PW
end Go.Proofs.YtnegbdpggideiaaGreatDoor
namespace Go.Proofs.YtnegbdpggideiaaGreatDoor
namespace PW
open Go.RowKit cE Mem
section
variable {P:Program} {σ:cf} {t:bZ} {o:Oper}
theorem vf{ty e s:Nat}{x:Operand}(ho:o.op= .call {callee:=.builtin .cap,args:= #[x],argTypes:= #[ty]})(he:xf P ty=some (e,s))(hx:aD t x=some (.raw (.slice none 0 0))):bh P σ t o (.raw (.int .i64 0)):=by
 intro F base E ρ w hρ _ hT
 have h1:=ax hρ hT hx
 obtain⟨hu,_⟩:=fW he
 generalize hz:ρ x=z at h1
 cases h1
 simp[execOp,ho,resolve,invoke,builtin,Builtin.cap_,hz,run_underlying hu,goInt]
 exact bg (.raw _)
theorem xm{ty e s:Nat}{x hi':Operand}{k:IntKind}(ho:o.op= .slice ty x none (some hi') none)(he:xf P ty=some (e,s))(hx:aD t x=some (.raw (.slice none 0 0)))(hhi:aD t hi'=some (.raw (.int k 0))):bh P σ t o (.raw (.slice none 0 0)):=by
 intro F base E ρ w hρ _ hT
 have h1:=ax hρ hT hx
 have h2:=ax hρ hT hhi
 obtain⟨hu,inf,hinf,hs⟩:=fW he
 generalize hz:ρ x=z at h1
 generalize hz':ρ hi'=z' at h2
 cases h1
 cases h2
 have hr:(execOp ρ o).run P w= .ok (.value (.slice none 0 0)) w:=by
  simp[execOp,ho,hz,hz',Instr.sliceAt,run_underlying hu,Instr.slice,Instr.sliceBounds,Instr.sliceBound,asIntOf,sizeOf,typeInfo,hinf]
 rw[hr]
 exact bg (.raw _)
theorem uW{P:Program}(w:World)(t tx ty e:TypeId)(i:TypeInfo)(z:Value)(ht:P.underlying t=some (.slice e))(hx:P.underlying tx=some (.int .i64))(hi:P.info? e=some i)(hz:i.zero=some z)(hp:0<i.size)(n:Nat)
  (h0:0<n) (h63:(n:Int)≤9223372036854775807) (h48:n*i.bytes≤281474976710656):
  (Builtin.append_ #[t,tx] ty #[.slice none 0 0,.int .i64 (n:Int)]).run P w=
   .ok (.slice (some ⟨w.heap.size,0,none⟩) n (grownCap w n 0 e)) (w.drew.alloc (.cells (Builtin.zeroCells z.cells n++Builtin.zeroCells z.cells (grownCap w n 0 e - n)) e)):=by
 have hn:n≠0:=by omega
 have hp':i.size≠0:=by omega
 have h63':¬(9223372036854775807<(n:Int)):=by omega
 have h48':¬(281474976710656<Builtin.nextslicecap n 0*i.bytes):=by rw[nextslicecap_zero h0];omega
 have hw:IntKind.i64.wrap (n:Int)=n:=ju (by unfold In64;omega)
 have hb:¬(281474976710656<(n:Int)*(i.bytes:Int)):=by
  have:((n*i.bytes:Nat):Int)≤281474976710656:=by omega
  rw[Int.natCast_mul]at this
  omega
 have rH:¬((n:Int)<0):=by omega
 simp[Builtin.append_,run_underlying ht,run_underlying hx,sizeOf,typeInfo,zeroValue,hi,hz,asInt,asIntOf,hw,hb,rH,hn,hp',h63',h48',Question.forced,run_firstCells_none,newRow,grownCap]
 exact fun h=>absurd h (Nat.mul_ne_zero hn hp')
theorem Ah{ty tx e s by':Nat}{z:List Value}{x y:Operand}{n:Nat}{m:Int}(ho:o.op= .call {callee:=.builtin .append,args:= #[x,y],argTypes:= #[ty,tx]})(hk:uP P ty=some (e,s,by',z))(htx:P.underlying tx=some (.int .i64))(hx:aD t x=some (.raw (.slice none 0 0)))(hy:aD t y=some (.raw (.int .i64 m)))(hm:m=(n:Int))(h0:0<n)(hn:n≤maxLen∧n*by'≤281474976710656):
  cI P σ t o (.own σ.length) (σ++[some (.row e s n (dv (z.map .raw) n))]):=by
 intro F base E ρ w hρ hS hT
 have h1:=ax hρ hT hx
 have h2:=ax hρ hT hy
 generalize hz1:ρ x=v1 at h1
 generalize hz2:ρ y=v2 at h2
 cases h1;cases h2
 subst hm
 obtain⟨hu,i,z',hi,hs,hby,hz,hzz,hzs,hpos⟩:=oL hk
 have hsm:n≤9223372036854775807:=by have:=hn.1;simp only[maxLen]at this;omega
 have hrun:=uW (P:=P) w ty tx o.type e i z' hu htx hi hz (by omega) n h0 (by omega) (by rw[hby];exact hn.2)
 have hr:(execOp ρ o).run P w= .ok (.value (.slice (some ⟨w.heap.size,0,none⟩) n (grownCap w n 0 e))) (w.drew.alloc (.cells (Builtin.zeroCells z'.cells n++Builtin.zeroCells z'.cells (grownCap w n 0 e - n)) e)):=by
  simp only[execOp,ho,resolve,invoke,builtin,Sem.run_bind,Sem.run_pure,Result.andThen_ok,List.map_toArray,List.map_cons,List.map_nil,hz1,hz2,hrun]
 have hge:=grownCap_ge w n 0 e
 have hcm:grownCap w n 0 e≤maxLen:=grownCap_le_maxLen w n 0 e hn.1
 have hzc:(Builtin.zeroCells z'.cells n).size=n*s:=by rw[size_zeroCells,hzs]
 have hown:(w.drew.alloc (.cells (Builtin.zeroCells z'.cells n++Builtin.zeroCells z'.cells (grownCap w n 0 e - n)) e)).ownsRow base e s (.slice (some ⟨w.heap.size,0,none⟩) n (grownCap w n 0 e)) n (Builtin.zeroCells z'.cells n).toList:=by
  refine⟨by rw[Array.length_toList,hzc],.inr ⟨w.heap.size,_,_,rfl,hS.bl,heap_alloc_new w.drew _,hge,hcm,?_,?_⟩⟩
  ·simp only[Array.size_append,size_zeroCells,hzs,←Nat.add_mul]
   congr 1
   omega
  ·simp only[Array.toList_append]
   rw[←hzc,←Array.length_toList]
   exact List.take_left
 have hg:w.grownBy (w.drew.alloc (.cells (Builtin.zeroCells z'.cells n++Builtin.zeroCells z'.cells (grownCap w n 0 e - n)) e)) none:=⟨rfl,rfl,rfl,by simp,fun k hk _=>heap_alloc_old w.drew _ hk⟩
 have hR:aW E w (Builtin.zeroCells z'.cells n).toList (dv (z.map .raw) n):=by
  rw[←hzz];exact lL z'.cells n (n*z'.cells.size) rfl
 obtain⟨a1,a2,a3,a4⟩:=nM hS (nC hg) (fun b h=>by simp[bp]at h;omega) hown hR
 exact⟨_,_,_,.inl hr,a1,a2,a3,a4⟩
end
end PW
end Go.Proofs.YtnegbdpggideiaaGreatDoor
namespace Go.Proofs.YtnegbdpggideiaaGreatDoor
namespace PW
open Go.RowKit cE Mem Net fk
theorem qk(l:List Int)(hl:l.length≤1000):Can Tryz.prog 144 [aw l] (· =aw l):=by
 refine aG Tryz.func144 rfl Tryz.ntmps144 rfl<|ab (.a 1 rfl<|.k [0] rfl)<|ak<|aR (WR.mono (K:=fun s=>∃b:Bool,s=⟨[(0,aw l),(4,.raw (.bool b))],[]⟩∧(b=true→l=[])) ?_ ?_)
 ·cases l with
  |nil=>exact au 1 rfl<|uA rfl Iz rfl rfl rfl rfl rfl fun b=>aH [0,4] rfl ⟨b,rfl,fun _=>rfl⟩
  |cons a l=>exact au 1 rfl<|bC (nu rfl Iz rfl rfl (Nat.succ_pos _)) rfl rfl rfl<|aH [0,4] rfl ⟨_,rfl,fun h=>by cases h⟩
 rintro _ ⟨b,rfl,hb⟩
 refine ah rfl (fun hc=>?_) (fun hc=>?_)
 ·have:l=[]:=hb hc
  subst this
  exact ab (.a 1 rfl<|.k [2] rfl)<|aq<|⟨_,_,az.of rfl,aC.b7,rfl⟩
 ·refine aj<|aR<|cz (ky rfl (bL.sl.get rfl)) rfl<|au 1 rfl<|cz (bA rfl (bL.rk.get rfl) rfl rfl rfl (show(aP l).length=l.length*1 by simp[aP]) (by unfold maxLen;omega)) rfl<|au 1 rfl<|aH [2] rfl ?_
  refine aq<|⟨_,_,az.of rfl,aC.fu (xs:=aP l) (ys:=aP l) rfl an.pure,?_⟩
  rw[Nat.zero_add];rfl
theorem BE(n:Nat)(hn:n≤1000):bU Tryz.prog 172 [.raw (.slice none 0 0),num n] [] (fun r σ'=>r= .own 0∧σ'=[some (.row 103 2 0 [])]):=by
 refine cr Tryz.func172 rfl Tryz.ntmps172 rfl<|ab (.a 1 rfl<|.k [0,1] rfl)<|ak<|ab (.a 2 rfl<|.k [0,1,6] rfl)<|ah rfl (fun h1=>?_) (fun h1=>?_)
 ·exact absurd (tt h1) (by omega)
 ·clear h1
  refine aj<|ak<|ab (.a 2 rfl<|.v (vf rfl (bL.el.get rfl) rfl) rfl<|.a 1 rfl<|.v (qX rfl (bL.el.get rfl) rfl) rfl<|.v (aT rfl) rfl<|.v (aT rfl) rfl<|.a 1 rfl<|.k [0,1] rfl)<|ab (.a 2 rfl<|.k [0,1,16] rfl)<|ah rfl (fun h2=>?_) (fun h2=>?_)
  ·have hpos:0<n:=by have:=tt h2;omega
   refine bI<|au 2 rfl<|bE (vf rfl (bL.el.get rfl) rfl) rfl<|bE (xm rfl (bL.el.get rfl) rfl rfl) rfl<|au 1 rfl<|cz (Ah (n:=n) rfl (bL.rk.get rfl) Tryz.underlying3 rfl rfl (by omega) hpos (by unfold maxLen;omega)) rfl<|au 1 rfl<|bE (qX rfl (bL.el.get rfl) rfl) rfl<|cz (nL (h:=0) rfl (bL.el.get rfl) rfl rfl rfl rfl (by omega)) rfl<|au 1 rfl<|aH [0] rfl ?_
   refine dp [1] (.c 0<|.nil) (.kept rfl (.row aE.nil)<|.nil) rfl rfl ?_
   exact ab (.a 2 rfl<|.k [4] rfl)<|aq<|⟨_,az.of rfl,rfl,rfl⟩
  ·refine gM 0 103 2 rfl ?_
   exact aj<|ab (.a 2 rfl<|.k [4] rfl)<|aq<|⟨_,az.of rfl,rfl,rfl⟩
def qZ(A B:List bY)(i:Nat):List bY:=if i=0 then [] else if i=1 then A else A++B
def FO(A B:List bY)(i:Nat):List bY:=if i=0 then A else B
theorem wZ(A B:List bY){i:Nat}(h:i<2):qZ A B (i+1)=qZ A B i++FO A B i:=by
 rcases(show i=0∨i=1 by omega)with rfl|rfl<;>rfl
theorem pV(A B:List bY)(i:Nat):(qZ A B i).length≤A.length+B.length:=by
 unfold qZ
 split
 ·simp
 ·split<;>simp
theorem pr(A B:List bY)(hl:A.length+B.length≤1000):Can Tryz.prog 145 [.slice 2 [cH A,cH B]] (· =cH (A++B)):=by
 refine aG Tryz.func145 rfl Tryz.ntmps145 rfl ?_
 have hg:=BE (A++B).length (by simpa using hl)
 refine ab (.a 1 rfl<|.k [0] rfl)<|ab (.a 1 rfl<|.k [0,3] rfl)<|ak<|ab (.a 3 rfl<|.k [0,3,9,10,11] rfl)<|av<|fp [0,3,9,10,11] rfl<|bq (fun r s=>∃i,i≤2∧r=2 - i∧s=⟨[(0,.slice 2 [cH A,cH B]),(3,num (qZ A B i).length),(9,.slice 2 [cH A,cH B]),(10,num 2),(11,num i)],[]⟩) 2 ⟨0,by omega,by omega,rfl⟩ ?_
 rintro r s ⟨i,hi,rfl,rfl⟩
 refine ab (.a 1 rfl<|.k [0,3,9,10,11,12] rfl)<|ak<|ah rfl (fun h1=>?_) (fun h1=>?_)
 ·have hlt:i<2:=by have:=tt h1;omega
  have hc1:=pV A B i
  have hc2:=pV A B (i+1)
  have hst:=congrArg List.length (wZ A B hlt)
  rw[List.length_append]at hst
  have hget:[cH A,cH B][i]? =some (cH (FO A B i)):=by
   rcases(show i=0∨i=1 by omega)with rfl|rfl<;>rfl
  clear h1
  refine aj<|ak<|av<|ab (.v (aM (i) rfl) rfl<|.v (aO rfl (hget)) rfl<|.a 1 rfl<|.k [0,3,5,9,10,11] rfl)<|ab (.a 3 rfl<|.v (aT rfl (hc:=(show((qZ A B i).length:Int)+((FO A B i).length:Int)=((qZ A B (i+1)).length:Int) by omega)) (hn:=(by unfold In64;omega))) rfl<|.a 1 rfl<|.k [0,3,9,10,11] rfl)<|ab (.a 2 rfl<|.k [0,3,9,10,11,20] rfl)<|ah rfl (fun h2=>?_) (fun h2=>?_)
  ·exact absurd (tt h2) (by omega)
  ·clear h2
   refine aj<|aB (.v (aT rfl) rfl<|.a 1 rfl<|.k [0,3,9,10,11] rfl) ?_
   exact⟨2 - (i+1),by omega,i+1,by omega,rfl,rfl⟩
 ·have hie:i=2:=by have:=ff h1;omega
  subst hie
  have hcat:qZ A B 2=A++B:=rfl
  rw[hcat]
  clear h1
  refine bf<|aR<|au 1 rfl<|cQ rfl rfl (bU.mono hg (fun r σ' h=>?_))
  obtain⟨rfl,rfl⟩:=h
  refine au 1 rfl<|aH [0,6] rfl ?_
  refine ak<|ab (.a 3 rfl<|.k [6,25,26,27] rfl)<|av<|fp [6,25,26,27] rfl<|bq (fun r s=>∃i,i≤2∧r=2 - i∧s=⟨[(6,.own 0),(25,.slice 2 [cH A,cH B]),(26,num 2),(27,num i)],[some (.row 103 2 (qZ A B i).length (eB (qZ A B i)))]⟩) 2 ⟨0,by omega,by omega,rfl⟩ ?_
  rintro r s ⟨i,hi,rfl,rfl⟩
  refine ab (.a 1 rfl<|.k [6,25,26,27,28] rfl)<|ak<|ah rfl (fun h1=>?_) (fun h1=>?_)
  ·have hlt:i<2:=by have:=tt h1;omega
   have hc1:=pV A B i
   have hc2:=pV A B (i+1)
   have hst:=wZ A B hlt
   have hsl:=congrArg List.length hst
   rw[List.length_append]at hsl
   have hget:[cH A,cH B][i]? =some (cH (FO A B i)):=by
    rcases(show i=0∨i=1 by omega)with rfl|rfl<;>rfl
   clear h1
   refine aj<|ak<|av<|ab (.v (aM (i) rfl) rfl<|.v (aO rfl (hget)) rfl<|.a 1 rfl<|.k [6,8,25,26,27] rfl)<|bI<|au 2 rfl<|cz (bA rfl (bL.rk.get rfl) rfl rfl rfl (lQ _) (show _≤maxLen∧_*16≤140737488355328 by unfold maxLen;omega)) rfl<|au 1 rfl ?_
   refine ee [1] (.c 6<|.c 25<|.c 26<|.c 27<|.nil) (.kept rfl (.fm rfl (rfl))<|.nil) rfl rfl (aZ ?_)
   refine aB (.v (aT rfl) rfl<|.a 1 rfl<|.k [6,25,26,27] rfl) ?_
   refine⟨2 - (i+1),by omega,i+1,by omega,rfl,?_⟩
   rw[hst,List.length_append]
   unfold eB
   rw[List.flatMap_append]
   rfl
  ·have hie:i=2:=by have:=ff h1;omega
   subst hie
   have hcat:qZ A B 2=A++B:=rfl
   rw[hcat]
   clear h1
   exact bf<|ab (.a 2 rfl<|.k [2] rfl)<|aq<|⟨_,_,az.of rfl,aC.fu rfl an.pure,rfl⟩
end PW
end Go.Proofs.YtnegbdpggideiaaGreatDoor
namespace Go.Proofs.YtnegbdpggideiaaGreatDoor
namespace PW
open Go.RowKit cE Mem Net fk
def Gy(v:Int):List Int→Nat→Int
 | [],_=> -1
 |a::l,i=>bif decide (v=a) then(i:Int) else Gy v l (i+1)
theorem zO(v:Int):∀(l:List Int) (i:Nat),0≤Gy v l i↔v∈l
 | [],i=>by simp[Gy]
 |a::l,i=>by
  simp only[Gy]
  by_cases h:v=a
  ·rw[decide_eq_true h,cond_true]
   exact⟨fun _=>by rw[h];exact List.mem_cons_self,fun _=>by omega⟩
  ·rw[decide_eq_false h,cond_false,zO v l (i+1),List.mem_cons]
   exact⟨.inr,fun h'=>h'.resolve_left h⟩
theorem Gs(v:Int)(l:List Int)(i:Nat):decide (0≤Gy v l i)=decide (v∈l):=decide_eq_decide.2 (zO v l i)
theorem xP(l:List Int)(v:Int)(hl:l.length≤1000):Can Tryz.prog 143 [aw l,num v] (· =num (Gy v l 0)):=by
 refine aG Tryz.func143 rfl Tryz.ntmps143 rfl<|ab (.a 1 rfl<|.k [0,1] rfl)<|ak<|ab (.a 3 rfl<|.k [0,1,7,8] rfl)<|av<|fp [0,1,7,8] rfl<|bq (fun r s=>∃i,i≤l.length∧r=l.length - i∧Gy v l 0=Gy v (l.drop i) i∧s=⟨[(0,aw l),(1,num v),(7,num l.length),(8,num i)],[]⟩) l.length ⟨0,by omega,by omega,rfl,rfl⟩ ?_
 rintro r s ⟨i,hi,rfl,hx,rfl⟩
 refine ab (.a 1 rfl<|.k [0,1,7,8,9] rfl)<|ak<|ah rfl (fun h1=>?_) (fun h1=>?_)
 ·have hlt:i<l.length:=by have:=tt h1;omega
  rw[drop_cons l i hlt]at hx
  simp only[Gy]at hx
  obtain⟨q,hq⟩:∃q,decide (v=l.getD i 0)=q:=⟨_,rfl⟩
  rw[hq]at hx
  refine aj<|ak<|av<|ab (.a 2 rfl<|.k [0,1,5,7,8] rfl)<|ab (.a 3 rfl<|.v (aM (i) rfl) rfl<|.v (aO rfl (aA l i hlt)) rfl<|.v (cg rfl (hq)) rfl<|.k [0,1,5,7,8,16] rfl)<|ah rfl (fun h2=>?_) (fun h2=>?_)
  ·subst h2
   rw[cond_true]at hx
   rw[hx]
   exact ab (.a 2 rfl<|.k [4] rfl)<|aq<|⟨_,_,az.of rfl,aC.pure,rfl⟩
  ·subst h2
   rw[cond_false]at hx
   refine aj<|aB (.v (aT rfl) rfl<|.a 1 rfl<|.k [0,1,7,8] rfl) ?_
   exact⟨l.length - (i+1),by omega,i+1,by omega,rfl,hx,rfl⟩
 ·have hie:i=l.length:=by have:=ff h1;omega
  subst hie
  rw[List.drop_length]at hx
  rw[hx]
  exact bf<|ab (.a 1 rfl<|.k [4] rfl)<|aq<|⟨_,_,az.of rfl,aC.pure,rfl⟩
theorem rQ(l:List Int)(v:Int)(hl:l.length≤1000):Can Tryz.prog 104 [aw l,num v] (· =flag (decide (v∈l))):=by
 obtain⟨q,hq⟩:∃q,decide (v∈l)=q:=⟨_,rfl⟩
 have hm:=(Gs v l 0).trans hq
 rw[hq]
 exact aG Tryz.func104 rfl Tryz.ntmps104 rfl<|ab (.a 1 rfl<|.k [0,1] rfl)<|ab (.a 2 rfl<|.c rfl (xP l v hl) rfl<|.v (cg rfl (hm)) rfl<|.a 1 rfl<|.k [4] rfl)<|aq<|⟨_,_,az.of rfl,aC.pure,rfl⟩
structure eU where
 id:Int
 src:Int
 dst:Int
 qg:Int
 stack:List bY
 fB:Int
def dW(p:eU):List PV:=[num p.id,num p.src,num p.dst,num p.qg,cH p.stack,num p.fB]
def eS(p:eU):PV:=.agg (dW p)
instance (p:eU):aJ (dW p):=by unfold dW;infer_instance
instance (p:eU):IsPure (eS p):=by unfold eS;infer_instance
structure Out where
 aI:List Int
 ft:eU
 dI:Int
def Ae(r:Out):PV:=.tuple [aw r.aI,eS r.ft,num r.dI]
def gV(p:eU)(r:Int):Out:=⟨[],p,r⟩
def cd(p:eU)(s:List bY)(aI:List Int):Out:=⟨aI,⟨p.id,p.src,p.dst,p.qg,s,p.fB+1⟩,0⟩
def iv(p:eU)(s:List bY)(e:iE):Out:=
 if e.rep then(if 32<(e.push++s.drop 1).length then gV p 5 else cd p (e.push++s.drop 1) e.aI) else cd p s e.aI
theorem rE(p:eU)(s:List bY)(hl:s.length≤1000):Can Tryz.prog 102 [eS p,cH s] (· =eS ⟨p.id,p.src,p.dst,p.qg,s,p.fB⟩):=by
 refine aG Tryz.func102 rfl Tryz.ntmps102 rfl<|aR<|cz (fJ rfl rfl rfl) rfl<|au 1 rfl<|aH [1,2,4] rfl ?_
 refine aR<|au 1 rfl<|er rfl (mW s hl) rfl<|au 2 rfl<|aH [2,4] rfl ?_
 refine aR<|au 2 rfl<|aH [4] rfl ?_
 exact aq<|⟨_,_,az.of rfl,aC.pure (p:=eS ⟨p.id,p.src,p.dst,p.qg,s,p.fB⟩),rfl⟩
theorem fZ(p:eU)(r:Int)(hl:p.stack.length≤1000):Can Tryz.prog 101 [eS p,num r] (· =Ae (gV p r)):=by
 refine aG Tryz.func101 rfl Tryz.ntmps101 rfl<|aR<|au 4 rfl<|aH [1,2,5] rfl ?_
 refine aR<|au 2 rfl<|bE (aO rfl ((rfl:(dW p)[4]? =some (cH p.stack)))) rfl<|er rfl (rE p p.stack hl) rfl<|au 4 rfl<|aH [4,5,6] rfl ?_
 exact aq<|⟨_,_,az.of rfl,aC.bz (an.cons aC.b7<|an.cons (aC.pure (p:=eS p))<|an.cons aC.pure an.nil),rfl⟩
theorem mn(p:eU)(s:List bY)(aI:List Int)(hl:s.length≤1000)(ha:aI.length≤1000)(hh:0≤p.fB∧p.fB≤1000):Can Tryz.prog 105 [eS p,cH s,aw aI] (· =Ae (cd p s aI)):=by
 refine aG Tryz.func105 rfl Tryz.ntmps105 rfl<|aR<|cz (fJ rfl rfl rfl) rfl<|au 3 rfl<|aH [1,2,3,7] rfl ?_
 refine aR<|au 2 rfl<|er rfl (rE p s hl) rfl<|au 1 rfl<|aH [2,3,7] rfl ?_
 refine aR<|au 2 rfl<|bE (aT rfl (hn:=(show In64 (p.fB+1) by unfold In64;omega))) rfl<|au 2 rfl<|aH [2,3,7] rfl ?_
 refine lj 4 20 mixed (
  .val [2] rfl (bF rfl) rfl rfl<|
  .val [16] rfl (dX rfl (qk aI ha)) rfl rfl<|
  .val [3] rfl (bF rfl) rfl rfl<|
  .val [17] rfl (bF rfl) rfl rfl<|
  .nil) (by kernel_rfl) rfl rfl (bm (ks:=[6,7,18]) rfl) ?_
 refine au 2 rfl<|aH [6,7,8] rfl ?_
 exact aq<|⟨_,_,az.of rfl,aC.bz (an.cons (aC.pure (p:=aw aI))<|an.cons (aC.pure (p:=eS ⟨p.id,p.src,p.dst,p.qg,s,p.fB+1⟩))<|an.cons aC.pure an.nil),rfl⟩
end PW
end Go.Proofs.YtnegbdpggideiaaGreatDoor
namespace Go.Proofs.YtnegbdpggideiaaGreatDoor
namespace PW
open Go.RowKit cE Mem Net fk
theorem sG{T:ai}{n:Int}{L:List Int}(hl:T.ae.length≤256)(h:eI T n L=true):L.length≤512:=by
 have h:=of_decide_eq_true h
 have key:∀i:Nat,i<L.length→(i:Int)≤L.getD i 0:=by
  intro i
  induction i with
  |zero=>intro hi;have:=(cY.1 (h 0 hi).1).1;omega
  |succ i ih=>
   intro hi
   have h1:=ih (by omega)
   have h2:=(h (i+1) hi).2.2 (by omega)
   rw[Nat.add_sub_cancel]at h2
   omega
 rcases Nat.eq_zero_or_pos L.length with h0|h0
 ·omega
 ·have h1:=key (L.length - 1) (by omega)
  have h2:=cY.1 (h (L.length - 1) (by omega)).1
  omega
theorem sC(p:eU)(s:List bY)(e:iE)(hs:s.length≤40)(hp:e.push.length≤40)(ha:e.aI.length≤1000)(hps:p.stack.length≤1000)(hh:0≤p.fB∧p.fB≤1000):Can Tryz.prog 106 [eS p,cH s,wb e] (· =Ae (iv p s e)):=by
 obtain⟨c,hc⟩:∃q,e.rep=q:=⟨_,rfl⟩
 have hE:iv p s e=if c then(if 32<(e.push++s.drop 1).length then gV p 5 else cd p (e.push++s.drop 1) e.aI) else cd p s e.aI:=by unfold iv;rw[hc]
 rw[hE]
 refine aG Tryz.func106 rfl Tryz.ntmps106 rfl<|aR<|au 5 rfl<|aH [1,3,5,7] rfl ?_
 refine ak<|ab (.a 1 rfl<|.v (aO rfl ((show(kq e)[1]? =some (flag c) by rw[←hc];rfl))) rfl<|.k [1,3,5,7,11] rfl)<|ah rfl (fun h1=>?_) (fun h1=>?_)
 ·subst h1
  simp only[if_true]
  refine ab (.a 2 rfl<|.k [3,5,7,9] rfl)<|ak<|ab (.a 3 rfl<|.k [3,5,7,9,15] rfl)<|ah rfl (fun h2=>?_) (fun h2=>?_)
  ·obtain⟨a,l,rfl⟩:∃a l,s=a::l:=by
    cases s with
    |nil=>exact absurd (tt h2) (by simp)
    |cons a l=>exact⟨a,l,rfl⟩
   simp only[List.drop_succ_cons,List.drop_zero]
   obtain⟨s',hs',hsl⟩:∃s',l=s'∧s'.length≤40:=⟨l,rfl,by simp at hs;omega⟩
   refine aB (.a 1 rfl<|.v (lX rfl (bL.el.get rfl) rfl rfl) rfl<|.a 1 rfl<|.k [3,5,7,9] rfl) ?_
   rw[hs']
   refine ab (.a 4 rfl<|.c rfl (pr e.push s' (by omega)) rfl<|.a 1 rfl<|.k [1,3,5,7] rfl)<|ab (.a 3 rfl<|.k [1,3,5,7,25] rfl)<|ah rfl (fun h3=>?_) (fun h3=>?_)
   ·have h3:=tt h3
    rw[if_pos (by omega)]
    refine aR<|au 1 rfl<|er rfl (fZ p 5 hps) rfl<|au 6 rfl<|aH [6,7,8] rfl ?_
    exact aq<|⟨_,_,az.of rfl,aC.bz (an.cons (aC.pure (p:=aw []))<|an.cons (aC.pure (p:=eS p))<|an.cons aC.pure an.nil),rfl⟩
   ·have h3:=ff h3
    rw[if_neg (by omega)]
    refine aj<|aR<|au 4 rfl<|er rfl (mn p _ e.aI (by first|(simp only[List.length_append];omega)|omega) ha hh) rfl<|au 6 rfl<|aH [6,7,8] rfl ?_
    exact aq<|⟨_,_,az.of rfl,aC.bz (an.cons (aC.pure (p:=aw e.aI))<|an.cons (aC.pure (p:=eS ⟨p.id,p.src,p.dst,p.qg,_,p.fB+1⟩))<|an.cons aC.pure an.nil),rfl⟩
  ·obtain rfl:s=[]:=by
    cases s with
    |nil=>rfl
    |cons a l=>exact absurd (ff h2) (by simp)
   simp only[List.drop_nil]
   obtain⟨s',hs',hsl⟩:∃s',([]:List bY)=s'∧s'.length≤40:=⟨[],rfl,by simp⟩
   refine aj ?_
   rw[hs']
   refine ab (.a 4 rfl<|.c rfl (pr e.push s' (by omega)) rfl<|.a 1 rfl<|.k [1,3,5,7] rfl)<|ab (.a 3 rfl<|.k [1,3,5,7,25] rfl)<|ah rfl (fun h3=>?_) (fun h3=>?_)
   ·have h3:=tt h3
    rw[if_pos (by omega)]
    refine aR<|au 1 rfl<|er rfl (fZ p 5 hps) rfl<|au 6 rfl<|aH [6,7,8] rfl ?_
    exact aq<|⟨_,_,az.of rfl,aC.bz (an.cons (aC.pure (p:=aw []))<|an.cons (aC.pure (p:=eS p))<|an.cons aC.pure an.nil),rfl⟩
   ·have h3:=ff h3
    rw[if_neg (by omega)]
    refine aj<|aR<|au 4 rfl<|er rfl (mn p _ e.aI (by first|(simp only[List.length_append];omega)|omega) ha hh) rfl<|au 6 rfl<|aH [6,7,8] rfl ?_
    exact aq<|⟨_,_,az.of rfl,aC.bz (an.cons (aC.pure (p:=aw e.aI))<|an.cons (aC.pure (p:=eS ⟨p.id,p.src,p.dst,p.qg,_,p.fB+1⟩))<|an.cons aC.pure an.nil),rfl⟩
 ·subst h1
  simp only[Bool.false_eq_true,if_false]
  refine aj<|aR<|au 4 rfl<|er rfl (mn p _ e.aI (by first|(simp only[List.length_append];omega)|omega) ha hh) rfl<|au 6 rfl<|aH [6,7,8] rfl ?_
  exact aq<|⟨_,_,az.of rfl,aC.bz (an.cons (aC.pure (p:=aw e.aI))<|an.cons (aC.pure (p:=eS ⟨p.id,p.src,p.dst,p.qg,_,p.fB+1⟩))<|an.cons aC.pure an.nil),rfl⟩
def dy(x:dR)(v:Int):iE:=x.fh.getD v.toNat HK
def fj(h:bY):List bY→List bY
 | []=>[]
 |a::l=>if a=h then fj h l else a::l
def G1(T:ai)(x:dR)(p:eU)(s:List bY)(v:Int)(K:Out):Out:=if(bn T v&&decide (0<((dy x v).aI.length:Int)))=true then iv p s (dy x v) else K
def eK(T:ai)(x:dR)(p:eU)(s:List bY)(K:Out):Out:=
 if(decide ((s.length:Int)=0)&&decide (p.dst=x.node))=true then⟨[],⟨p.id,p.src,p.dst,p.qg,[],p.fB⟩, -1⟩
 else if(decide (255≤p.fB)||decide (p.fB<0))=true then gV p 4
 else match s with
  | []=>G1 T x p [] p.dst (gV p 1)
  |a::l=>if a.kind=1 then G1 T x p (a::l) a.num K
   else if a.kind=2 then(if(!(fy T a.num)||decide (bb T a.num.toNat≠x.node))=true then gV p 2 else if a.num∈x.down then K else cd p l [a.num])
   else gV p 1
def dj(T:ai)(x:dR)(p:eU):Out:=
 if((!dD T x)|| !(bn T p.dst))=true then gV p 1
 else if 32<(p.stack.length:Int) then gV p 5
 else eK T x p (fj ⟨1,x.node⟩ p.stack) (eK T x p [] (gV p 1))
theorem uO(h:bY):∀l:List bY,(fj h l).length≤l.length
 | []=>Nat.le_refl _
 |a::l=>by
  simp only[fj]
  split
  ·have:=uO h l;simp only[List.length_cons];omega
  ·exact Nat.le_refl _
theorem oQ{T:ai}{x:dR}(h:dD T x=true){v:Int}(hv:bn T v=true):∃k:Nat,v=(k:Int)∧x.fh[k]? =some (dy x v)∧(dy x v).push.length≤40∧(dy x v).aI.length≤1000:=by
 unfold dD at h
 simp only[Bool.and_eq_true,decide_eq_true_eq]at h
 obtain⟨⟨⟨⟨h1,h2⟩,h3⟩,h4⟩,h5⟩:=h
 have hll:=bO h1
 obtain⟨v0,v1⟩:=aU.1 hv
 obtain⟨k,rfl⟩:=Int.eq_ofNat_of_zero_le v0
 have hk:k<x.fh.length:=by omega
 have hg:x.fh[k]? =some (dy x (k:Int)):=by
  unfold dy
  rw[Int.toNat_natCast,List.getD_eq_getElem?_getD,List.getElem?_eq_getElem hk]
  rfl
 have ho:=(of_decide_eq_true h5) k hk
 rw[lP _ _ _ hg]at ho
 unfold iU at ho
 simp only[Bool.and_eq_true]at ho
 refine⟨k,rfl,hg,?_,?_⟩
 ·have:=ho.2
  split at this
  ·simp only[Bool.and_eq_true,decide_eq_true_eq]at this;omega
  ·simp only[decide_eq_true_eq]at this;omega
 ·have:=sG hll ho.1.1;omega
theorem xl{T:ai}{x:dR}(h:dD T x=true):x.down.length≤1000:=by
 unfold dD at h
 simp only[Bool.and_eq_true]at h
 have:=sG (bO h.1.1.1.1) h.1.2
 omega
set_option maxHeartbeats 2000000 in
theorem Ej(T : ai)(x : dR)(p : eU)(hps : p.stack.length ≤ 1000) : Can Tryz.prog 47 [aN T, fV x, eS p] (· = Ae (dj T x p)) := by
  obtain⟨c1,hc1⟩:∃q,dD T x=q:=⟨_,rfl⟩
  obtain⟨c2,hc2⟩:∃q,bn T p.dst=q:=⟨_,rfl⟩
  obtain⟨n,hn⟩:∃n,x.node=n:=⟨_,rfl⟩
  unfold dj
  rw[hc1,hc2]
  refine aG Tryz.func47 rfl Tryz.ntmps47 rfl<|aR<|au 6 rfl<|aH [3,4,5,7] rfl ?_
  refine zH ?_
  refine ak<|bu 22 (.raw (.bool ((!c1)|| !c2))) [3,4,5,7] rfl ?_ ?_
  · refine .a 2 rfl<|.c rfl (hc1▸qW T x) rfl<|.a 2 rfl<|?_
    cases c1
    · exact .a 6 rfl<|.k [22,3,4,5,7] rfl
    · exact .a 3 rfl<|.c rfl (hc2▸df T p.dst) rfl<|.a 2 rfl<|.k [22,3,4,5,7] rfl
  refine ah rfl (fun h1=>?_) (fun h1=>?_)
  · rw[if_pos h1]
    refine aR<|au 1 rfl<|er rfl (fZ p 1 hps) rfl<|au 6 rfl<|aH [6,7,8] rfl ?_
    exact aq<|⟨_,_,az.of rfl,aC.bz (an.cons (aC.pure (p:=aw []))<|an.cons (aC.pure (p:=eS p))<|an.cons aC.pure an.nil),rfl⟩
  · rw [if_neg (by rw [h1]; simp)]
    obtain⟨rfl,rfl⟩:c1=true∧c2=true:=by revert h1;cases c1<;>cases c2<;>simp
    refine aj<|ak<|ab (.a 1 rfl<|.v (aO rfl ((rfl:(dW p)[4]? =some (cH p.stack)))) rfl<|.a 2 rfl<|.k [3,4,5,7,31] rfl)<|ah rfl (fun h2=>?_) (fun h2=>?_)
    · rw[if_pos (tt h2)]
      refine aR<|au 1 rfl<|er rfl (fZ p 5 hps) rfl<|au 6 rfl<|aH [6,7,8] rfl ?_
      exact aq<|⟨_,_,az.of rfl,aC.bz (an.cons (aC.pure (p:=aw []))<|an.cons (aC.pure (p:=eS p))<|an.cons aC.pure an.nil),rfl⟩
    · rw [if_neg (ff h2)]
      have h32:p.stack.length≤32:=by have:=ff h2;omega
      refine aj<|ab (.a 1 rfl<|.v (aO rfl ((rfl:(dW p)[4]? =some (cH p.stack)))) rfl<|.a 1 rfl<|.k [3,4,5,7,9] rfl)<|aR<|au 1 rfl<|bE (aO rfl ((show(fU x)[0]? =some (num n) by rw[←hn];rfl))) rfl<|au 3 rfl<|aH [3,4,5,7,9,10] rfl ?_
      refine ak<|av<|fp [3,4,5,7,9,10] rfl<|bq (fun r st=>∃s:List bY,s.length≤32∧r=s.length∧fj ⟨1,n⟩ p.stack=fj ⟨1,n⟩ s∧st=⟨[(3,.aX (bw T) 0),(4,.aX (fU x) 0),(5,.aX (dW p) 0),(7,.ptr 0 0),(9,cH s),(10,.ptr 1 0)],[some (.cells 66 [num 0,num 0,num 0,num 0,.raw (.slice none 0 0),num 0]),some (.cells 103 [num 1,num n])]⟩) p.stack.length ⟨p.stack,h32,rfl,rfl,rfl⟩ ?_
      rintro r st ⟨s,hs,rfl,hsk,rfl⟩
      obtain⟨e1,he1⟩:∃q,decide (0<(s.length:Int))=q:=⟨_,rfl⟩
      obtain⟨a,ha⟩:∃a,s.getD 0 ⟨0,0⟩=a:=⟨_,rfl⟩
      obtain⟨e2,he2⟩:∃q,decide (a=(⟨1,n⟩:bY))=q:=⟨_,rfl⟩
      refine ak<|mV mixed (by kernel_rfl) 51 (.raw (.bool (e1&&e2))) [3,4,5,7,9,10] rfl ?_ ?_
      · refine .a 2 rfl<|.v [43] (cg rfl (he1)) rfl rfl<|.a 1 rfl<|?_
        cases e1
        · exact .a 6 rfl<|.k [51,3,4,5,7,9,10] rfl
        · exact .a 1 rfl<|.v [46] (aM (0) rfl (by omega) (by have:=tt he1;omega)) rfl rfl<|.v [47] (iF rfl (oK s 0 a (by rw[←ha];have:=tt he1;rw[List.getD_eq_getElem?_getD,List.getElem?_eq_getElem (by omega)];rfl)) rfl) rfl rfl<|.a 1 rfl<|.v [48,49] (Dh rfl rfl (b:=⟨1,n⟩) rfl he2) rfl rfl<|.a 1 rfl<|.k [51,3,4,5,7,9,10] rfl
      refine ah rfl (fun h3=>?_) (fun h3=>?_)
      · obtain⟨rfl,rfl⟩:=Bool.and_eq_true_iff.1 h3
        obtain⟨l,rfl⟩:∃l,s=(⟨1,n⟩:bY)::l:=by
          have h4:=tt he2
          cases s with
          |nil=>exact absurd (tt he1) (by simp)
          |cons b l=>exact⟨l,by rw[←h4,←ha];rfl⟩
        simp only[fj,if_true]at hsk
        refine aj<|av<|aB (.a 1 rfl<|.v (lX rfl (bL.el.get rfl) rfl rfl) rfl<|.a 1 rfl<|.k [3,4,5,7,9,10] rfl) ?_
        exact⟨l.length,by simp,l,by simp at hs;omega,rfl,hsk,rfl⟩
      · have hsk:fj ⟨1,n⟩ p.stack=s:=by
          rw[hsk]
          cases s with
          |nil=>rfl
          |cons b l=>
            have e1t:e1=true:=by rw[←he1];simp
            rw[e1t,Bool.true_and]at h3
            rw[h3]at he2
            have h5:=ff he2
            simp only[fj]
            rw[if_neg (by rw[←ha]at h5;exact h5)]
        rw[hn,hsk]
        clear he1 ha he2 h3
        refine bf<|ak<|zq ?_
        refine av<|fp [3,4,5,7,9] rfl<|bq (fun r st=>∃(s':List bY) (z:PV),j8 z (cH s')∧s'.length≤32∧r=s'.length∧eK T x p s (eK T x p [] (gV p 1))=eK T x p s' (eK T x p [] (gV p 1))∧st=⟨[(3,.aX (bw T) 0),(4,.aX (fU x) 0),(5,.aX (dW p) 0),(7,.ptr 0 0),(9,z)],[some (.cells 66 [num 0,num 0,num 0,num 0,.raw (.slice none 0 0),num 0]),some (.cells 103 [num 1,num n])]⟩) s.length ⟨s,_,j8.refl _,hs,rfl,rfl,rfl⟩ ?_
        clear hsk hs
        rintro r st ⟨s',z,hz,hs,rfl,hR,rfl⟩
        refine kG (t':=[(3,.aX (bw T) 0),(4,.aX (fU x) 0),(5,.aX (dW p) 0),(7,.ptr 0 0),(9,cH s')]) ?_ ?_
        · exact Sub.cons rfl<|Sub.cons rfl<|Sub.cons rfl<|Sub.cons rfl<|Sub.HN rfl hz<|Sub.nil _
        clear hz
        rw[hR]
        clear hR
        obtain⟨K0,hK0⟩:∃K,eK T x p [] (gV p 1)=K:=⟨_,rfl⟩
        rw[hK0]
        obtain⟨R,hS⟩:∃R,eK T x p s' K0=R:=⟨_,rfl⟩
        rw[hS]
        have hRR:=hS
        unfold eK at hRR
        obtain⟨c5,hc5⟩:∃q,decide ((s'.length:Int)=0)=q:=⟨_,rfl⟩
        obtain⟨c6,hc6⟩:∃q,decide (p.dst=n)=q:=⟨_,rfl⟩
        obtain⟨c7,hc7⟩:∃q,decide (255≤p.fB)=q:=⟨_,rfl⟩
        obtain⟨c8,hc8⟩:∃q,decide (p.fB<0)=q:=⟨_,rfl⟩
        rw[hc5,hn,hc6,hc7,hc8]at hRR
        refine av<|ak<|bu 63 (.raw (.bool (c5&&c6))) [3,4,5,7,9] rfl ?_ ?_
        · refine .a 2 rfl<|.v (cg rfl (hc5)) rfl<|.a 1 rfl<|?_
          cases c5
          · exact .a 6 rfl<|.k [63,3,4,5,7,9] rfl
          · exact .a 1 rfl<|.v (aO rfl ((rfl:(dW p)[2]? =some (num p.dst)))) rfl<|.a 1 rfl<|.v (aO rfl ((show(fU x)[0]? =some (num n) by rw[←hn];rfl))) rfl<|.v (cg rfl (hc6)) rfl<|.a 1 rfl<|.k [63,3,4,5,7,9] rfl
        refine ah rfl (fun h1=>?_) (fun h1=>?_)
        · rw[if_pos h1]at hRR
          subst hRR
          refine aR<|au 1 rfl<|bE (Ef rfl (an.cons aC.pure<|an.cons aC.b7 an.nil) (rE p [] (by simp))) rfl<|au 3 rfl<|aH [6,7,8] rfl ?_
          exact aq<|⟨_,_,az.of rfl,aC.bz (an.cons aC.b7<|an.cons (aC.pure (p:=eS ⟨p.id,p.src,p.dst,p.qg,[],p.fB⟩))<|an.cons aC.pure an.nil),rfl⟩
        · rw [if_neg (by rw [h1]; simp)] at hRR
          refine aj<|ak<|bu 73 (.raw (.bool (c7||c8))) [3,4,5,7,9] rfl ?_ ?_
          · refine .a 1 rfl<|.v (aO rfl ((rfl:(dW p)[5]? =some (num p.fB)))) rfl<|.v (cg rfl (hc7)) rfl<|.a 1 rfl<|?_
            cases c7
            · exact .a 1 rfl<|.v (aO rfl ((rfl:(dW p)[5]? =some (num p.fB)))) rfl<|.v (cg rfl (hc8)) rfl<|.a 1 rfl<|.k [73,3,4,5,7,9] rfl
            · exact .a 4 rfl<|.k [73,3,4,5,7,9] rfl
          refine ah rfl (fun h2=>?_) (fun h2=>?_)
          · rw[if_pos h2]at hRR
            subst hRR
            refine aR<|au 1 rfl<|er rfl (fZ p 4 hps) rfl<|au 6 rfl<|aH [6,7,8] rfl ?_
            exact aq<|⟨_,_,az.of rfl,aC.bz (an.cons (aC.pure (p:=aw []))<|an.cons (aC.pure (p:=eS p))<|an.cons aC.pure an.nil),rfl⟩
          · rw [if_neg (by rw [h2]; simp)] at hRR
            have hh:0≤p.fB∧p.fB≤1000:=by
              obtain⟨h3,h4⟩:=Bool.or_eq_false_iff.1 h2
              rw[←hc7]at h3
              rw[←hc8]at h4
              have:=ff h3
              have:=ff h4
              omega
            clear hc5 hc6 hc7 hc8 h1 h2
            refine aj ?_
            obtain⟨v,hv⟩:∃v,p.dst=v:=⟨_,rfl⟩
            refine ab (.a 1 rfl<|.v (aO rfl ((show(dW p)[2]? =some (num v) by rw[←hv];rfl))) rfl<|.a 1 rfl<|.k [3,4,5,7,9,11] rfl)<|ak<|ab (.a 3 rfl<|.k [3,4,5,7,9,11,83] rfl)<|ah rfl (fun h3=>?_) (fun h3=>?_)
            · have hne:0<s'.length:=by have:=tt h3;omega
              obtain⟨a,l,hs'⟩:∃a l,s'=a::l:=by
                cases s' with
                |nil=>exact absurd hne (by simp)
                |cons a l=>exact⟨a,l,rfl⟩
              have h0:s'[0]? =some a:=by rw[hs'];rfl
              rw[hs']at hRR
              dsimp only at hRR
              rw[←hs']at hRR
              clear hv
              obtain⟨v,hv⟩:∃v,a.num=v:=⟨_,rfl⟩
              rw[hv]at hRR
              refine ab (.a 1 rfl<|.v (aM (0) rfl (by omega) (by omega)) rfl<|.a 1 rfl<|.v (aO rfl (((HV s' 0 a h0).trans (by rw[hv])))) rfl<|.a 1 rfl<|.k [3,4,5,7,9,11] rfl)<|ab (.a 1 rfl<|.v (aM (0) rfl (by omega) (by omega)) rfl<|.a 1 rfl<|.v (aO rfl ((H5 s' 0 a h0))) rfl<|.k [3,4,5,7,9,11,91] rfl)<|av<|ab (.a 2 rfl<|.k [3,4,5,7,9,11,91,97] rfl)<|ah rfl (fun h4=>?_) (fun h4=>?_)
              · rw[if_pos (tt h4)]at hRR
                obtain⟨K1,hK1,hK1n,hK1p⟩:∃K1,K1=K0∧(s'.length=0→K1=gV p 1)∧(0<s'.length→K1=K0):=⟨_,rfl,fun h=>absurd h (by omega),fun h=>rfl⟩
                rw[←hK1]at hRR
                clear hK1 h3 h4 hs' hv h0
                refine aj<|ak ?_
                obtain⟨c11,hc11⟩:∃q,bn T v=q:=⟨_,rfl⟩
                have hnc:=df T v
                rw[hc11]at hnc
                unfold G1 at hRR
                have hes:c11=true→x.fh[v.toNat]? =some (dy x v)∧(dy x v).push.length≤40∧(dy x v).aI.length≤1000∧v<(x.fh.length:Int)∧0≤v:=fun h=>by
                  obtain⟨k,rfl,g1,g2,g3⟩:=oQ hc1 (hc11.trans h)
                  have:=(List.getElem?_eq_some_iff.1 g1).1
                  exact⟨g1,g2,g3,by omega,by omega⟩
                obtain⟨e,he⟩:∃e,dy x v=e:=⟨_,rfl⟩
                obtain⟨Jn,hc12⟩:∃q,decide (0<(e.aI.length:Int))=q:=⟨_,rfl⟩
                rw[he]at hes hRR
                rw[hc11,hc12]at hRR
                refine uD (Q1:=fun st=>st=⟨[(143,flag (c11&&Jn)),(3,.aX (bw T) 0),(4,.aX (fU x) 0),(5,.aX (dW p) 0),(7,.ptr 0 0),(9,cH s'),(11,num v)],[some (.cells 66 [num 0,num 0,num 0,num 0,.raw (.slice none 0 0),num 0]),some (.cells 103 [num 1,num n])]⟩) ?_ ?_
                · cases c11
                  · refine aB (.a 2 rfl<|.c rfl (hnc) rfl<|.a 10 rfl<|.k [143,3,4,5,7,9,11] rfl) ?_
                    rfl
                  · refine aB (.a 2 rfl<|.c rfl (hnc) rfl<|.a 2 rfl<|.v (aO rfl ((rfl:(fU x)[1]? =some (jY x.fh)))) rfl<|.a 1 rfl<|.v (aM ((v.toNat*3)) rfl (hes rfl).2.2.2.2 (hes rfl).2.2.2.1) rfl<|.a 1 rfl<|.v (aO rfl ((v7 x.fh v.toNat 0 e (hes rfl).1 (by omega)))) rfl<|.a 1 rfl<|.v (cg rfl (hc12)) rfl<|.a 1 rfl<|.k [143,3,4,5,7,9,11] rfl) ?_
                    rfl
                rintro _ rfl
                refine ah rfl (fun h8=>?_) (fun h8=>?_)
                · rw[if_pos h8]at hRR
                  obtain⟨g1,g2,g3,g4,g5⟩:=hes (Bool.and_eq_true_iff.1 h8).1
                  subst hRR
                  refine lj 12 20 mixed (
                    .val [5] rfl (bF rfl) rfl rfl<|
                    .val [9] rfl (bF rfl) rfl rfl<|
                    .val [4] rfl (bF rfl) rfl rfl<|
                    .val [146] rfl (aO rfl ((rfl:(fU x)[1]? =some (jY x.fh)))) rfl rfl<|
                    .val [11] rfl (bF rfl) rfl rfl<|
                    .val [147,148] rfl (aM ((v.toNat*3)) rfl g5 g4) rfl rfl<|
                    .val [149] rfl (iF rfl ((oe x.fh v.toNat e g1)) rfl) rfl rfl<|
                    .val [144,145,150] rfl (dX rfl (sC p s' e (by omega) g2 g3 hps hh)) rfl rfl<|
                    .val [151] rfl (bF rfl) rfl rfl<|
                    .val [151] rfl (bF rfl) rfl rfl<|
                    .val [151] rfl (bF rfl) rfl rfl<|
                    .val [152] rfl (bF rfl) rfl rfl<|
                    .nil) (by kernel_rfl) rfl rfl (bm (ks:=[6,7,153,154]) rfl) ?_
                  refine au 2 rfl<|aH [6,7,8] rfl ?_
                  exact aq<|⟨_,_,az.of rfl,aC.bz (an.cons (aC.pure (p:=aw (iv p s' e).aI))<|an.cons (aC.pure (p:=eS (iv p s' e).ft))<|an.cons aC.pure an.nil),rfl⟩
                · rw[if_neg (by rw[h8];simp)]at hRR
                  refine aj<|ak<|ab (.a 3 rfl<|.k [3,4,5,7,157] rfl)<|ah rfl (fun h9=>?_) (fun h9=>?_)
                  · rw[hK1n (by have:=tt h9;omega)]at hRR
                    subst hRR
                    refine aR<|au 1 rfl<|er rfl (fZ p 1 hps) rfl<|au 6 rfl<|aH [6,7,8] rfl ?_
                    exact aq<|⟨_,_,az.of rfl,aC.bz (an.cons (aC.pure (p:=aw []))<|an.cons (aC.pure (p:=eS p))<|an.cons aC.pure an.nil),rfl⟩
                  · have hne:0<s'.length:=by have:=ff h9;omega
                    rw[hK1p hne]at hRR
                    refine aj<|aB (.a 1 rfl<|.k [3,4,5,7,9] rfl) ?_
                    exact⟨0,hne,[],_,j8.b7,by simp,rfl,hRR.symm.trans (hK0.symm.trans rfl),rfl⟩
              · rw[if_neg (ff h4)]at hRR
                refine ab (.a 2 rfl<|.k [3,4,5,7,9,11,99] rfl)<|ah rfl (fun h5=>?_) (fun h5=>?_)
                · rw[if_pos (tt h5)]at hRR
                  obtain⟨c9,hc9⟩:∃q,fy T v=q:=⟨_,rfl⟩
                  obtain⟨c10,hc10⟩:∃q,decide (bb T v.toNat≠n)=q:=⟨_,rfl⟩
                  have hac:=pS T (by have h:=hc1;unfold dD at h;simp only[Bool.and_eq_true]at h;have:=bO h.1.1.1.1;omega) v
                  rw[hc9]at hac
                  rw[hc9,hc10]at hRR
                  refine ak<|mV mixed (by kernel_rfl) 112 (.raw (.bool ((!c9)||c10))) [3,4,5,7,9,11] rfl ?_ ?_
                  · refine .a 2 rfl<|.v [101,102] (dX rfl (hac)) rfl rfl<|.a 2 rfl<|?_
                    cases c9
                    · exact .a 7 rfl<|.k [112,3,4,5,7,9,11] rfl
                    · exact .a 2 rfl<|.v [106,107] (dX rfl (oJ T v hc9)) rfl rfl<|.a 1 rfl<|.v [109] (aO rfl ((show(fU x)[0]? =some (num n) by rw[←hn];rfl))) rfl rfl<|.v [108,110] (cg rfl (hc10)) rfl rfl<|.a 1 rfl<|.k [112,3,4,5,7,9,11] rfl
                  refine ah rfl (fun h6=>?_) (fun h6=>?_)
                  · rw[if_pos h6]at hRR
                    subst hRR
                    refine aR<|au 1 rfl<|er rfl (fZ p 2 hps) rfl<|au 6 rfl<|aH [6,7,8] rfl ?_
                    exact aq<|⟨_,_,az.of rfl,aC.bz (an.cons (aC.pure (p:=aw []))<|an.cons (aC.pure (p:=eS p))<|an.cons aC.pure an.nil),rfl⟩
                  · rw[if_neg (by rw[h6];simp)]at hRR
                    refine aj<|ak<|ab (.a 1 rfl<|.v (aO rfl ((rfl:(fU x)[2]? =some (aw x.down)))) rfl<|.a 1 rfl<|.c rfl (rQ x.down v (xl hc1)) rfl<|.k [3,4,5,7,9,11,121] rfl)<|ah rfl (fun h7=>?_) (fun h7=>?_)
                    · rw[if_pos (tt h7)]at hRR
                      exact ab (.a 1 rfl<|.k [3,4,5,7,9] rfl)<|bf<|⟨0,hne,[],_,j8.b7,by simp,rfl,hRR.symm.trans (hK0.symm.trans rfl),rfl⟩
                    · rw[if_neg (ff h7)]at hRR
                      subst hRR
                      subst hs'
                      refine aj<|lj 10 20 mixed (
                        .val [5] rfl (bF rfl) rfl rfl<|
                        .val [9] rfl (bF rfl) rfl rfl<|
                        .val [123] rfl (lX rfl (bL.el.get rfl) rfl rfl) rfl rfl<|
                        .val [11] rfl (bF rfl) rfl rfl<|
                        .val [125] rfl (bF rfl) rfl rfl<|
                        .val [122,124,126] rfl (dX rfl (mn p l [v] (by simp at hs;omega) (by simp) hh)) rfl rfl<|
                        .val [127] rfl (bF rfl) rfl rfl<|
                        .val [127] rfl (bF rfl) rfl rfl<|
                        .val [127] rfl (bF rfl) rfl rfl<|
                        .val [128] rfl (bF rfl) rfl rfl<|
                        .nil) (by kernel_rfl) rfl rfl (bm (ks:=[6,7,129,130]) rfl) ?_
                      refine au 2 rfl<|aH [6,7,8] rfl ?_
                      exact aq<|⟨_,_,az.of rfl,aC.bz (an.cons (aC.pure (p:=aw [v]))<|an.cons (aC.pure (p:=eS (cd p l [v]).ft))<|an.cons aC.pure an.nil),rfl⟩
                · rw[if_neg (ff h5)]at hRR
                  subst hRR
                  refine aR<|au 1 rfl<|er rfl (fZ p 1 hps) rfl<|au 6 rfl<|aH [6,7,8] rfl ?_
                  exact aq<|⟨_,_,az.of rfl,aC.bz (an.cons (aC.pure (p:=aw []))<|an.cons (aC.pure (p:=eS p))<|an.cons aC.pure an.nil),rfl⟩
            · have hs':s'=[]:=by
                cases s' with
                |nil=>rfl
                |cons a l=>exact absurd (ff h3) (by simp)
              rw[hs']at hRR
              dsimp only at hRR
              rw[←hs',hv]at hRR
              obtain⟨K1,hK1,hK1n,hK1p⟩:∃K1,K1=gV p 1∧(s'.length=0→K1=gV p 1)∧(0<s'.length→K1=K0):=⟨_,rfl,fun _=>rfl,fun h=>absurd h (by rw[hs'];simp)⟩
              rw[←hK1]at hRR
              clear hK1 h3 hs' hv
              refine aj<|ak ?_
              obtain⟨c11,hc11⟩:∃q,bn T v=q:=⟨_,rfl⟩
              have hnc:=df T v
              rw[hc11]at hnc
              unfold G1 at hRR
              have hes:c11=true→x.fh[v.toNat]? =some (dy x v)∧(dy x v).push.length≤40∧(dy x v).aI.length≤1000∧v<(x.fh.length:Int)∧0≤v:=fun h=>by
                obtain⟨k,rfl,g1,g2,g3⟩:=oQ hc1 (hc11.trans h)
                have:=(List.getElem?_eq_some_iff.1 g1).1
                exact⟨g1,g2,g3,by omega,by omega⟩
              obtain⟨e,he⟩:∃e,dy x v=e:=⟨_,rfl⟩
              obtain⟨Jn,hc12⟩:∃q,decide (0<(e.aI.length:Int))=q:=⟨_,rfl⟩
              rw[he]at hes hRR
              rw[hc11,hc12]at hRR
              refine uD (Q1:=fun st=>st=⟨[(143,flag (c11&&Jn)),(3,.aX (bw T) 0),(4,.aX (fU x) 0),(5,.aX (dW p) 0),(7,.ptr 0 0),(9,cH s'),(11,num v)],[some (.cells 66 [num 0,num 0,num 0,num 0,.raw (.slice none 0 0),num 0]),some (.cells 103 [num 1,num n])]⟩) ?_ ?_
              · cases c11
                · refine aB (.a 2 rfl<|.c rfl (hnc) rfl<|.a 10 rfl<|.k [143,3,4,5,7,9,11] rfl) ?_
                  rfl
                · refine aB (.a 2 rfl<|.c rfl (hnc) rfl<|.a 2 rfl<|.v (aO rfl ((rfl:(fU x)[1]? =some (jY x.fh)))) rfl<|.a 1 rfl<|.v (aM ((v.toNat*3)) rfl (hes rfl).2.2.2.2 (hes rfl).2.2.2.1) rfl<|.a 1 rfl<|.v (aO rfl ((v7 x.fh v.toNat 0 e (hes rfl).1 (by omega)))) rfl<|.a 1 rfl<|.v (cg rfl (hc12)) rfl<|.a 1 rfl<|.k [143,3,4,5,7,9,11] rfl) ?_
                  rfl
              rintro _ rfl
              refine ah rfl (fun h8=>?_) (fun h8=>?_)
              · rw[if_pos h8]at hRR
                obtain⟨g1,g2,g3,g4,g5⟩:=hes (Bool.and_eq_true_iff.1 h8).1
                subst hRR
                refine lj 12 20 mixed (
                  .val [5] rfl (bF rfl) rfl rfl<|
                  .val [9] rfl (bF rfl) rfl rfl<|
                  .val [4] rfl (bF rfl) rfl rfl<|
                  .val [146] rfl (aO rfl ((rfl:(fU x)[1]? =some (jY x.fh)))) rfl rfl<|
                  .val [11] rfl (bF rfl) rfl rfl<|
                  .val [147,148] rfl (aM ((v.toNat*3)) rfl g5 g4) rfl rfl<|
                  .val [149] rfl (iF rfl ((oe x.fh v.toNat e g1)) rfl) rfl rfl<|
                  .val [144,145,150] rfl (dX rfl (sC p s' e (by omega) g2 g3 hps hh)) rfl rfl<|
                  .val [151] rfl (bF rfl) rfl rfl<|
                  .val [151] rfl (bF rfl) rfl rfl<|
                  .val [151] rfl (bF rfl) rfl rfl<|
                  .val [152] rfl (bF rfl) rfl rfl<|
                  .nil) (by kernel_rfl) rfl rfl (bm (ks:=[6,7,153,154]) rfl) ?_
                refine au 2 rfl<|aH [6,7,8] rfl ?_
                exact aq<|⟨_,_,az.of rfl,aC.bz (an.cons (aC.pure (p:=aw (iv p s' e).aI))<|an.cons (aC.pure (p:=eS (iv p s' e).ft))<|an.cons aC.pure an.nil),rfl⟩
              · rw[if_neg (by rw[h8];simp)]at hRR
                refine aj<|ak<|ab (.a 3 rfl<|.k [3,4,5,7,157] rfl)<|ah rfl (fun h9=>?_) (fun h9=>?_)
                · rw[hK1n (by have:=tt h9;omega)]at hRR
                  subst hRR
                  refine aR<|au 1 rfl<|er rfl (fZ p 1 hps) rfl<|au 6 rfl<|aH [6,7,8] rfl ?_
                  exact aq<|⟨_,_,az.of rfl,aC.bz (an.cons (aC.pure (p:=aw []))<|an.cons (aC.pure (p:=eS p))<|an.cons aC.pure an.nil),rfl⟩
                · have hne:0<s'.length:=by have:=ff h9;omega
                  rw[hK1p hne]at hRR
                  refine aj<|aB (.a 1 rfl<|.k [3,4,5,7,9] rfl) ?_
                  exact⟨0,hne,[],_,j8.b7,by simp,rfl,hRR.symm.trans (hK0.symm.trans rfl),rfl⟩
end PW
end Go.Proofs.YtnegbdpggideiaaGreatDoor
namespace Go.Proofs.YtnegbdpggideiaaGreatDoor
namespace PW
open Go.RowKit cE Mem Net
section
variable {T:ai} {D:List Bool}
theorem Ch.snoc{d n:Nat}{q:List Int}(h:Ch T D d n q):∀ {a x:Nat},(q=[]∨cR T d=false)→a<2*T.ae.length→bb T a=(d:Int)→aL D a=false→aS T a=(x:Int)→Ch T D x n (q++[(a:Int)]):=by
 induction h with
 |nil=>intro a x _ h1 h2 h3 h4;exact .cons h1 h2 h3 h4 (.inl rfl) .nil
 | @cons n b m p hb ht hu hm ho hp ih=>
  intro a x hov h1 h2 h3 h4
  have hov':cR T d=false:=by rcases hov with h|h;cases h;exact h
  refine .cons hb ht hu hm ?_ (ih (.inr hov') h1 h2 h3 h4)
  rcases ho with h|h
  ·have:=hp.to h
   subst this
   exact .inr hov'
  ·exact .inr h
theorem HX(hv:ao T=true){n:Nat}(hn:(n:Int)<T.nodes){d m:Nat}{p:List Int}(h:Ch T D d m p)(h0:0≤at' (br T D n true) (m:Int))(ho:p=[]∨m=n∨cR T m=false):0≤at' (br T D n true) (d:Int):=by
 have hI:=iT (aK hv) D true hn
 induction h with
 |nil=>exact h0
 | @cons m a m' p ha ht hu hm hov hp ih=>
  have hw:=hI.closed a ha ⟨hu,by simp only[cJ,if_true];rw[ht];exact h0,by
   simp only[cJ,if_true];rw[ht]
   rcases ho with h|h|h
   ·cases h
   ·exact .inl (by rw[h])
   ·exact .inr (by simpa using h)⟩
  simp only[eW,if_true]at hw
  rw[hm]at hw
  refine ih hw.1 ?_
  rcases hov with h|h
  ·exact .inl h
  ·exact .inr (.inr h)
theorem HH(hv:ao T=true){n:Nat}(hn:(n:Int)<T.nodes):∀(k x:Nat),(x:Int)<T.nodes→0≤at' (br T D n true) (x:Int)→at' (br T D n true) (x:Int)≤k→0≤dN T D x n:=by
 have hS:=aK hv
 have hI:=iT hS D true hn
 intro k
 induction k with
 |zero=>
  intro x hx h0 hk
  rcases hI.my x hx h0 with h|⟨a,ha,hX,hW,hs⟩
  ·subst h;rw[kb hv hn];exact Int.le_refl _
  ·have:=(hS.cost a ha).1
   have:=hW.2.1
   omega
 |succ k ih=>
  intro x hx h0 hk
  rcases hI.my x hx h0 with h|⟨a,ha,hX,hW,hs⟩
  ·subst h;rw[kb hv hn];exact Int.le_refl _
  ·simp only[eW,cJ,if_true]at hX hs
   obtain⟨hu,hy0,hyo⟩:=hW
   simp only[cJ,if_true]at hy0 hyo
   have hc:=(hS.cost a ha).1
   have ht:=hS.tail a ha
   obtain⟨y,hy⟩:=Int.eq_ofNat_of_zero_le ht.1
   rw[hy]at hy0 hyo hs ht
   have hyN:(y:Int)<T.nodes:=ht.2
   have h1:=ih y hyN hy0 (by omega)
   have hsp:=dU (D:=D) hv hyN hn h1
   have hc2:=hsp.ch.snoc (a:=a) (x:=x) (by
    rcases hyo with h|h
    ·have:y=n:=by omega
     subst this
     exact .inl hsp.self
    ·exact .inr (by simpa using h)) ha hy hu hX
   exact(hc2.le hv hx).1
theorem FP(hv:ao T=true){n d:Nat}(hn:(n:Int)<T.nodes)(hd:(d:Int)<T.nodes):0≤(br T D n true).getD d 0↔0≤dN T D d n:=by
 have hS:=aK hv
 have hI:=iT hS D true hn
 have hl:=hI.len
 have e:(br T D n true).getD d 0=at' (br T D n true) (d:Int):=by
  unfold at'
  rw[Int.toNat_natCast,List.getD_eq_getElem?_getD,List.getD_eq_getElem?_getD,List.getElem?_eq_getElem (by omega)]
  rfl
 rw[e]
 constructor
 ·intro h0
  exact HH hv hn (at' (br T D n true) (d:Int)).toNat d hd h0 (by have:=Int.toNat_of_nonneg h0;omega)
 ·intro h0
  have hsp:=dU (D:=D) hv hd hn h0
  refine HX hv hn hsp.ch ?_ (.inr (.inl rfl))
  rw[hI.root]
  exact Int.le_refl _
end
end PW
end Go.Proofs.YtnegbdpggideiaaGreatDoor
namespace Go.Proofs.YtnegbdpggideiaaGreatDoor
namespace PW
open Go.RowKit cE Mem Net fk
def fM(T:ai)(a:Nat):Int:=(cu T.ae (a / 2)).tE
noncomputable def fY(T:ai)(D:List Bool)(n d:Int):Bool:=decide (gu T D n d=0)
noncomputable def cX(T:ai)(a:Nat)(d:Int):Int×Int:=
 if(decide (0<fM T a)&&fY T (ay T 3 (fM T a)) (bb T a) d)=true then(3,fM T a)
 else if(decide (aS T a≠d)&&fY T (ay T 2 (aS T a)) (bb T a) d)=true then(2,aS T a)
 else(1,((a / 2:Nat):Int))
def fE(T:ai)(M:List Bool)(n:Int):List Bool:=(List.range (2*T.ae.length)).map fun a=>aL M a&&decide (bb T a=n)
def orM(T:ai)(D E:List Bool):List Bool:=(List.range (2*T.ae.length)).map fun a=>aL D a||aL E a
theorem uN{f:Nat→Bool}{n a:Nat}:aL ((List.range n).map f) a=(decide (a<n)&&f a):=by
 unfold aL
 rw[List.getD_eq_getElem?_getD,List.getElem?_map]
 by_cases h:a<n
 ·rw[List.getElem?_range h];simp[h]
 ·rw[List.getElem?_eq_none (by simp;omega)];simp[h]
theorem rA{T:ai}{f:Nat→Bool}:bP T ((List.range (2*T.ae.length)).map f)=true:=by simp[bP]
theorem nI{T:ai}{M:List Bool}{n:Int}{a:Nat}:aL (fE T M n) a=(decide (a<2*T.ae.length)&&(aL M a&&decide (bb T a=n))):=uN
theorem FX{T:ai}{D E:List Bool}{a:Nat}:aL (orM T D E) a=(decide (a<2*T.ae.length)&&(aL D a||aL E a)):=uN
theorem da(T:ai)(k x:Int):bP T (ay T k x)=true:=rA
theorem D8(T:ai)(M:List Bool)(n:Int):bP T (fE T M n)=true:=rA
theorem uw(T:ai)(D E:List Bool):bP T (orM T D E)=true:=rA
theorem mb{T:ai}{D:List Bool}{x y:Nat}(hv:ao T=true)(hf:bP T D=true)(hx:(x:Int)<T.nodes)(hy:(y:Int)<T.nodes):fY T D x y=true↔0≤dN T D y x:=by
 unfold fY
 rw[decide_eq_true_eq,jQ hv hf hx hy]
 split<;>omega
theorem s7{T:ai}(hv:ao T=true){a:Nat}(ha:a<2*T.ae.length):0≤fM T a∧fM T a≤64:=by
 have h:=qP hv (a / 2) (by omega)
 unfold fM
 unfold ic at h
 rw[Bool.and_eq_true]at h
 unfold bQ at h
 exact of_decide_eq_true h.2
theorem wO{T:ai}(hv:ao T=true){a:Nat}(ha:a<2*T.ae.length)(d:Int):bW T (cX T a d).1 (cX T a d).2=true:=by
 have hg:=s7 hv ha
 unfold cX
 split
 ·rename_i h
  rw[Bool.and_eq_true,decide_eq_true_eq]at h
  show bW T 3 (fM T a)=true
  unfold bW
  simp only[if_neg (show ¬(3:Int)=1 by decide),if_neg (show ¬(3:Int)=2 by decide),if_true,Bool.and_eq_true,decide_eq_true_eq]
  exact⟨by omega,by omega⟩
 ·split
  ·obtain⟨h0,h1⟩:=(aK hv).head a ha
   show bW T 2 (aS T a)=true
   unfold bW
   simp only[if_neg (show ¬(2:Int)=1 by decide),if_true]
   exact aU.2 ⟨h0,h1⟩
  ·show bW T 1 ((a / 2:Nat):Int)=true
   unfold bW
   simp only[if_true,Bool.and_eq_true,decide_eq_true_eq]
   exact⟨by omega,by omega⟩
def kI(own:List Bool)(l:List Int):Option Int:=l.find? fun a=>aL own a.toNat
noncomputable def om(T:ai)(own:List Bool)(n d:Int)(a:Nat):List Bool:=
 if fY T (orM T (ay T (cX T a d).1 (cX T a d).2) own) n d=true then orM T (ay T (cX T a d).1 (cX T a d).2) own else own
noncomputable def mP(T:ai)(own:List Bool)(n d:Nat):iE:=match kI own (bx T [] n d)with
 |none=>⟨bx T [] n d,false,[]⟩
 |some a=>jA T (om T own n d a.toNat) n d
noncomputable def oS(T:ai)(own:List Bool)(n k:Nat):List iE:=(List.range k).map fun d=>mP T own n d
theorem Bk(T:ai)(own:List Bool)(n k:Nat):oS T own n (k+1)=oS T own n k++[mP T own n k]:=by simp[oS,List.range_succ]
theorem qy(T:ai)(own:List Bool)(n k:Nat):(oS T own n k).length=k:=by simp[oS]
theorem wS{T:ai}{own:List Bool}{n k d:Nat}(h:d<k):(oS T own n k)[d]? =some (mP T own n d):=by simp[oS,h]
noncomputable def qh(T:ai)(M:List Bool)(n:Nat):dR:=⟨n,oS T (fE T M n) n T.nodes.toNat,cF M (bH T n)⟩
section
variable {T:ai} {M own:List Bool} {n d:Nat}
theorem wo(hf:bP T own=true)(a:Nat):bP T (om T own n d a)=true:=by
 unfold om;split
 ·exact uw _ _ _
 ·exact hf
theorem DS{l:List Int}(h:kI own l=none):∀a∈l,aL own a.toNat=false:=fun a ha=>by
 have:=List.find?_eq_none.1 h a ha
 simpa using this
theorem vK{l:List Int}{a:Int}(h:kI own l=some a):a∈l∧aL own a.toNat=true:=⟨List.mem_of_find?_eq_some h,by have:=List.find?_some (p:=fun a:Int=>aL own a.toNat) h;exact this⟩
theorem H0(hv:ao T=true)(h12:T.nodes≤12):iU T n d (mP T own n d)=true:=by
 unfold mP
 cases kI own (bx T [] n d)with
 |some b=>exact CZ _ _ _ _ h12
 |none=>
  unfold iU
  simp only[qD,Bool.true_and]
  by_cases hdn:d=n
  ·subst hdn;rw[iM];simp
  ·rw[decide_eq_false (by omega)];simp
theorem oO(hv:ao T=true)(h12:T.nodes≤12)(hn:(n:Int)<T.nodes):dD T (qh T M n)=true:=by
 unfold dD qh
 have h1:bn T (n:Int)=true:=aU.2 ⟨by omega,hn⟩
 have hN:=(aK hv).nodes
 have h2:decide (((oS T (fE T M n) n T.nodes.toNat).length:Int)=T.nodes)=true:=decide_eq_true (by rw[qy];omega)
 have h3:eI T n (cF M (bH T n))=true:=lW T n _
 have h4:nd T n (oS T (fE T M n) n T.nodes.toNat)=true:=iY fun d e he=>by
  have hd:d<T.nodes.toNat:=by
   have:=(List.getElem?_eq_some_iff.1 he).1
   rwa [qy]at this
  rw[wS hd]at he
  cases he
  exact H0 hv h12
 rw[hv,h1,h2,h3,h4]
 rfl
theorem CC{D E:List Bool}(hv:ao T=true)(hn:(n:Int)<T.nodes)(hd:(d:Int)<T.nodes)(hE:∀a,a<2*T.ae.length→aL D a=false→aL E a=false)(h:0≤dN T D d n):0≤dN T E d n:=by
 have hsp:=dU (D:=D) hv hd hn h
 have hch:Ch T E d n (b9 T D n d):=by
  have:=hsp.ch
  generalize b9 T D n d=p at this
  clear hsp h hn
  induction this with
  |nil=>exact .nil
  |cons ha ht hu hm ho hp ih=>exact .cons ha ht (hE _ ha hu) hm ho ih
 exact(hch.le hv hd).1
end
end PW
end Go.Proofs.YtnegbdpggideiaaGreatDoor
