/- Texts of the proof, part 7. -/
import Derived.WideShapes
import Derived.Deep.AppendSrc
import Derived.Recover
import Derived.Defers
import Derived.Tactics2
import Derived.Laws.Pointers
import Derived.Test.YtnegbdpggideiaaDoorCardFAB6
set_option linter.unusedVariables false
set_option linter.unusedSimpArgs false
set_option maxRecDepth 10000
set_option maxHeartbeats 1000000
namespace Go.Proofs.YtnegbdpggideiaaDoor
namespace PW
open Go.RowKit aN Mem Net
theorem gU(l:List bL):(dj l).length=l.length*2:=by
 induction l with
 |nil=>rfl
 |cons a l ih=>simp only[dj,List.flatMap_cons,List.length_append,List.length_cons]at*;rw[ih];simp[i1];omega
def ju(c:Nat→Bool)(i:Nat):Nat→Option Nat
 |0=>none
 |m+1=>if m+1≤i then none else if c (m+1) then some (m+1) else ju c i m
theorem lW{c:Nat→Bool}{i j:Nat}(hij:i<j)(hc:c j=true):∀m,j≤m→(∀k,j<k→k≤m→c k=false)→ju c i m=some j
 |0,h,_=>by omega
 |m+1,h,hn=>by
  unfold ju
  rw[if_neg (by omega)]
  by_cases e:j=m+1
  ·subst e;rw[if_pos hc]
  ·rw[if_neg (by rw[hn (m+1) (by omega) (by omega)];simp)]
   exact lW hij hc m (by omega) (fun k h1 h2=>hn k h1 (by omega))
theorem ma{c:Nat→Bool}{i:Nat}:∀m,(∀k,i<k→k≤m→c k=false)→ju c i m=none
 |0,_=>rfl
 |m+1,hn=>by
  unfold ju
  by_cases e:m+1≤i
  ·rw[if_pos e]
  ·rw[if_neg e,if_neg (by rw[hn (m+1) (by omega) (by omega)];simp)]
   exact ma m (fun k h1 h2=>hn k h1 (by omega))
theorem mX{c:Nat→Bool}{i:Nat}:∀m j,ju c i m=some j→i<j∧j≤m∧c j=true∧∀k,j<k→k≤m→c k=false
 |0,j,h=>by cases h
 |m+1,j,h=>by
  unfold ju at h
  split at h
  ·cases h
  ·split at h
   ·cases h;rename_i h1 h2;exact⟨by omega,by omega,h2,fun k h3 h4=>by omega⟩
   ·rename_i h1 h2
    obtain⟨a,b,c1,d⟩:=mX m j h
    refine⟨a,by omega,c1,fun k h3 h4=>?_⟩
    by_cases e:k=m+1
    ·subst e;simpa using h2
    ·exact d k h3 (by omega)
theorem gb{c:Nat→Bool}{i:Nat}:∀m,ju c i m=none→∀k,i<k→k≤m→c k=false
 |0,_,k,h1,h2=>by omega
 |m+1,h,k,h1,h2=>by
  unfold ju at h
  split at h
  ·omega
  ·split at h
   ·cases h
   ·rename_i h3 h4
    by_cases e:k=m+1
    ·subst e;simpa using h4
    ·exact gb m h k h1 (by omega)
noncomputable def iE(T:ab)(D:List Bool)(n:Int)(p:List Int):Nat→Nat→List bL
 |0,_=>[]
 |f+1,i=>if i<p.length then(match ju (eG T D n p i) i p.length with
  |some j=>⟨1,bg T n (p.take j)⟩::iE T D n p f j
  |none=>⟨2,p.getD i 0⟩::iE T D n p f (i+1)) else []
noncomputable def oQ(T:ab)(D:List Bool)(n:Int)(p:List Int):List bL:=iE T D n p p.length 0
section
variable {T:ab} {D:List Bool} {n:Int} {p:List Int}
theorem mN(f i:Nat)(h:p.length≤i):iE T D n p f i=[]:=by
 cases f with
 |zero=>rfl
 |succ f=>simp only[iE];rw[if_neg (by omega)]
theorem kZ{f i j:Nat}(hi:i<p.length)(hij:i<j)(hj:j≤p.length)(hc:eG T D n p i j=true)(hno:∀k,j<k→k≤p.length→eG T D n p i k=false):iE T D n p (f+1) i=⟨1,bg T n (p.take j)⟩::iE T D n p f j:=by
 simp only[iE]
 rw[if_pos hi,lW hij hc p.length hj hno]
theorem nV{f i:Nat}(hi:i<p.length)(hno:∀k,i<k→k≤p.length→eG T D n p i k=false):iE T D n p (f+1) i=⟨2,p.getD i 0⟩::iE T D n p f (i+1):=by
 simp only[iE]
 rw[if_pos hi,ma p.length hno]
theorem jJ:∀ {f:Bool} {x:Int} {l m:List Int},bV T f x (l++m)=0→bV T f x l=0∧∃g,bV T g (bg T x l) m=0
 |f,x,[],m,h=>⟨rfl,f,h⟩
 |f,x,a::l,m,h=>by
  simp only[List.cons_append,bV]at h ⊢
  split at h
  ·omega
  ·rename_i h1
   rw[if_neg h1]
   split at h
   ·omega
   ·rename_i h2
    rw[if_neg h2]
    exact jJ h
theorem ql(hv:aj T=true):∀ {f:Bool} {x:Nat} {l:List Int} {y:Nat},bV T f x l=0→(∀a∈l,bG D a.toNat=false)→bg T x l=(y:Int)→Ch T D y x l
 |f,x,[],y,_,_,he=>by
  have:y=x:=by simp only[bg]at he;omega
  subst this
  exact .nil
 |f,x,a::l,y,h,hd,he=>by
  simp only[bV]at h
  split at h
  ·omega
  ·rename_i h1
   split at h
   ·omega
   ·rename_i h2
    have hab:cX T a=true:=by simpa using h1
    obtain⟨_,m,hm,hmN⟩:=jw hv hab
    simp only[cX,decide_eq_true_eq]at hab
    obtain⟨b,rfl⟩:=Int.eq_ofNat_of_zero_le hab.1
    rw[Int.toNat_natCast]at hm
    simp only[bg,Int.toNat_natCast]at he h2 h
    rw[hm]at he h
    have hch:=ql hv h (fun c hc=>hd c (by simp[hc])) he
    refine .cons (by omega) (Classical.byContradiction fun hn=>h2 (.inl hn)) (hd b (by simp)) hm ?_ hch
    cases l with
    |nil=>exact .inl rfl
    |cons c l=>
     right
     simp only[bV]at h
     split at h
     ·omega
     ·split at h
      ·omega
      ·rename_i h4
       simp only[Int.toNat_natCast]at h4
       cases ho:bI T m with
       |false=>rfl
       |true=>exact absurd (.inr ⟨trivial,ho⟩) h4
structure lM (T:ab) (D:List Bool) (n:Int) (p:List Int):Prop where
 valid:aj T=true
 fits:bw T D=true
 node:aS T n=true
 walk:bV T true n p=0
 up:∀a∈p,bG D a.toNat=false
theorem lM.aW(h:lM T D n p):∀a∈p,cX T a=true:=mD h.walk
def dQ(p:List Int)(i j:Nat):List Int:=(p.drop i).take (j - i)
theorem eo(p:List Int){i j:Nat}(hij:i≤j):p.take j=p.take i++dQ p i j:=by
 unfold dQ
 have h:(p.take j)=(p.take j).take i++(p.take j).drop i:=(List.take_append_drop i _).symm
 rw[h,List.take_take,Nat.min_eq_left hij,List.drop_take]
theorem kE(p:List Int){i j:Nat}(hij:i≤j)(hj:j≤p.length):(dQ p i j).length=j - i:=by unfold dQ;simp;omega
theorem lM.ch(h:lM T D n p){i j u y:Nat}(hij:i≤j)(hj:j≤p.length)(hu:bg T n (p.take i)=(u:Int))(hy:bg T n (p.take j)=(y:Int)):Ch T D y u (dQ p i j):=by
 have h1:bV T true n (p.take j)=0:=(jJ (l:=p.take j) (m:=p.drop j) (by rw[List.take_append_drop];exact h.walk)).1
 rw[eo p hij]at h1
 obtain⟨_,g,hg⟩:=jJ h1
 rw[hu]at hg
 refine ql h.valid hg (fun a ha=>h.up a ?_) ?_
 ·exact List.mem_of_mem_drop (List.mem_of_mem_take ha)
 ·rw[←hu,←eX,←eo p hij];exact hy
theorem ry(T:ab)(p:List Int){i j:Nat}(hij:i≤j):cw T (p.take j) - cw T (p.take i)=cw T (dQ p i j):=by
 rw[eo p hij,cM];omega
theorem ja(h:lM T D n p){i j u y:Nat}(hij:i≤j)(hj:j≤p.length)(hu:bg T n (p.take i)=(u:Int))(hy:bg T n (p.take j)=(y:Int)):eG T D n p i j=true↔SP T D y u (dQ p i j)∧cn T D y u=1:=by
 have hch:=h.ch hij hj hu hy
 have ha:=h.aW
 obtain⟨u',hu',huN⟩:=bF h.valid h.node ha i (by omega)
 obtain⟨y',hy',hyN⟩:=bF h.valid h.node ha j hj
 have e1:u'=u:=by omega
 have e2:y'=y:=by omega
 subst e1
 subst e2
 have hne:cy T D (u':Int) (y':Int)=0:=by
  unfold cy
  rw[if_pos (pI h.valid h.fits hyN),aV.2 ⟨by omega,huN⟩]
  rfl
 unfold eG fP
 rw[hu,hy,Int.toNat_natCast,Int.toNat_natCast,ry T p hij,hne]
 simp only[decide_true,Bool.true_and,Bool.and_eq_true,decide_eq_true_eq]
 constructor
 ·rintro⟨h1,h2⟩;exact⟨hch.sp h.valid hyN h1,h2⟩
 ·rintro⟨h1,h2⟩;exact⟨(h1.cost h.valid hyN).1,h2⟩
end
end PW
end Go.Proofs.YtnegbdpggideiaaDoor
namespace Go.Proofs.YtnegbdpggideiaaDoor
namespace PW
open Go.RowKit aN Mem Net
section
variable {T:ab} {D:List Bool} {d:Nat}
theorem qJ(hv:aj T=true)(hd:(d:Int)<T.nodes):∀(K m:Nat),(m:Int)<T.nodes→0≤dN T D d m→dN T D d m≤K→cn T D d m≠1→∃p q,SP T D d m p∧SP T D d m q∧p≠q
 |K,m,hmN,h0,hK,hc=>by
  by_cases hmd:m=d
  ·subst hmd;exact absurd (kq m) hc
  ·obtain⟨k,hk⟩:=iD (D:=D) hv hmN hd hmd h0
   have hmem:=fH hk ((aC hv).cost k hk.fZ).1
   cases hx:bx T D m d with
   |nil=>rw[hx]at hmem;cases hmem
   |cons a l=>
    obtain⟨b,rfl,hb⟩:=dP (T:=T) (D:=D) (n:=m) (d:=d) (a:=a) (by rw[hx];simp)
    obtain⟨x,hxh,hxN⟩:=cT hv hb.fZ
    have gx:=hb.dN hxh
    have cx:=(aC hv).cost b hb.fZ
    cases l with
    |nil=>
     cases K with
     |zero=>omega
     |succ K=>
      have hcx:cn T D d x≠1:=fun h=>hc (pV hv hd hmN hmd hx hxh h)
      obtain⟨p,q,h1,h2,h3⟩:=qJ hv hd K x hxN gx.1 (by omega) hcx
      exact⟨b::p,b::q,.cons hb hxh h1,.cons hb hxh h2,fun e=>h3 (List.cons.inj e).2⟩
    |cons a2 l=>
     obtain⟨b2,rfl,hb2⟩:=dP (T:=T) (D:=D) (n:=m) (d:=d) (a:=a2) (by rw[hx];simp)
     obtain⟨x2,hxh2,hxN2⟩:=cT hv hb2.fZ
     have gx2:=hb2.dN hxh2
     refine⟨b::fe T D x d,b2::fe T D x2 d,.cons hb hxh (dK hv hd hxN gx.1),.cons hb2 hxh2 (dK hv hd hxN2 gx2.1),fun e=>?_⟩
     have he:=(List.cons.inj e).1
     have hlt:=n0 T D m d
     rw[hx]at hlt
     have:=(List.pairwise_cons.1 hlt).1 (b2:Int) (by simp)
     omega
theorem Ch.append{e n:Nat}{p q:List Int}(h:Ch T D e n p)(hq:Ch T D d e q)(ho:q=[]∨bI T e=false):Ch T D d n (p++q):=by
 induction h with
 |nil=>exact hq
 | @cons n a m p ha ht hu hm hov hp ih=>
  refine .cons ha ht hu hm ?_ ih
  rcases hov with h|h
  ·subst h
   have:=hp.to rfl
   subst this
   rcases ho with h|h
   ·subst h;exact .inl rfl
   ·exact .inr h
  ·exact .inr h
theorem SP.suffix(hv:aj T=true)(hd:(d:Int)<T.nodes){e:Nat}:∀ {n:Nat} {p q:List Int},SP T D d n (p++q)→cn T D d n=1→Ch T D e n p→SP T D d e q∧cn T D d e=1
 |n,[],q,h,hc,hch=>by
  have:=hch.to rfl
  subst this
  exact⟨h,hc⟩
 |n,a::p,q,h,hc,hch=>by
  cases h with
  | @cons _ b m _ h1 hm hp=>
   cases hch with
   | @cons _ b2 m2 _ _ _ _ hm2 _ hch2=>
    have:m2=m:=by rw[hm]at hm2;omega
    subst this
    obtain⟨b3,h3,_,h4⟩:=qB hv hd (h1.node hv) h1.ne hc
    have e1:=fH h1 ((aC hv).cost b h1.fZ).1
    rw[h3]at e1
    simp only[List.mem_singleton]at e1
    have:b3=b:=by omega
    subst this
    exact SP.suffix hv hd hp (h4 m2 hm) hch2
theorem SP.pre(hv:aj T=true)(hd:(d:Int)<T.nodes){e n:Nat}{p q:List Int}(he:(e:Int)<T.nodes)(h:SP T D d n (p++q))(hc:cn T D d n=1)(hp:Ch T D e n p)(hq:Ch T D d e q)(ho:q=[]∨bI T e=false):SP T D e n p∧cn T D e n=1:=by
 have hcost:=(h.cost hv hd).1
 rw[cM]at hcost
 have hle:=hp.le hv he
 have hn:=hp.node hv he
 have hspe:SP T D e n p:=by
  refine hp.sp hv he ?_
  have hs:=dK hv he hn hle.1
  have hc2:=(hs.cost hv he).1
  have:=((hs.ch).append hq ho).le hv hd
  rw[cM]at this
  omega
 refine⟨hspe,Classical.byContradiction fun h1=>?_⟩
 obtain⟨p1,p2,g1,g2,g3⟩:=qJ hv he (dN T D e n).toNat n hn hle.1 (by omega) h1
 have key:∀r,SP T D e n r→SP T D d n (r++q):=fun r hr=>by
  refine((hr.ch).append hq ho).sp hv hd ?_
  rw[cM,hcost,←(hr.cost hv he).1,(hspe.cost hv he).1]
 have:=(key p1 g1).unique hv hd (key p2 g2) hc
 exact g3 (List.append_cancel_right this)
theorem Ch.yJ{e:Nat}:∀ {n:Nat} {p q:List Int},Ch T D d n (p++q)→p≠[]→Ch T D e n p→q=[]∨bI T e=false
 |n,[],q,_,h,_=>absurd rfl h
 |n,a::p,q,h,_,hch=>by
  cases h with
  | @cons _ b m _ _ _ _ hm hov hp=>
   cases hch with
   | @cons _ b2 m2 _ _ _ _ hm2 _ hch2=>
    have:m2=m:=by rw[hm]at hm2;omega
    subst this
    cases p with
    |nil=>
     have:=hch2.to rfl
     subst this
     exact hov
    |cons c p=>exact Ch.yJ hp (by simp) hch2
variable {n:Int} {p:List Int}
theorem il(p:List Int){i j k:Nat}(h1:i≤j)(h2:j≤k):dQ p i k=dQ p i j++dQ p j k:=by
 have e1:=eo p (show i≤k by omega)
 have e2:=eo p h2
 rw[eo p h1,List.append_assoc]at e2
 rw[e1]at e2
 exact List.append_cancel_left e2
theorem vU(h:lM T D n p){i j i' j':Nat}(h1:i≤i')(h2:i'<j')(h3:j'≤j)(hj:j≤p.length)(hc:eG T D n p i j=true):eG T D n p i' j'=true:=by
 have ha:=h.aW
 have hv:=h.valid
 obtain⟨u,hu,huN⟩:=bF hv h.node ha i (by omega)
 obtain⟨y,hy,hyN⟩:=bF hv h.node ha j hj
 obtain⟨u',hu',huN'⟩:=bF hv h.node ha i' (by omega)
 obtain⟨y',hy',hyN'⟩:=bF hv h.node ha j' (by omega)
 obtain⟨c1,c2⟩:=(ja h (by omega) hj hu hy).1 hc
 rw[il p h1 (show i'≤j by omega)]at c1
 obtain⟨c3,c4⟩:=c1.suffix hv hyN c2 (h.ch h1 (by omega) hu hu')
 rw[il p (show i'≤j' by omega) h3]at c3
 have hp:=h.ch (show i'≤j' by omega) (by omega) hu' hy'
 have hq:=h.ch h3 hj hy' hy
 have ho:=c3.ch.yJ (e:=y') (by
  intro e
  have:=kE p (show i'≤j' by omega) (by omega)
  rw[e]at this
  simp at this
  omega) hp
 exact(ja h (by omega) (by omega) hu' hy').2 (c3.pre hv hyN hyN' c4 hp hq ho)
end
end PW
end Go.Proofs.YtnegbdpggideiaaDoor
namespace Go.Proofs.YtnegbdpggideiaaDoor
namespace PW
open Go.RowKit aN Mem Net
section
variable {T:ab} {D:List Bool} {n:Int} {p:List Int}
theorem uB{i k:Nat}{a:Int}(h:a∈dQ p i k):a∈p:=List.mem_of_mem_drop (List.mem_of_mem_take h)
theorem lR(h:lM T D n p){i:Nat}(hi:i<p.length){x:Nat}(hx:bg T n (p.take i)=(x:Int)):bb T (p.getD i 0).toNat=(x:Int):=by
 have ha:=h.aW
 obtain⟨y,hy,hyN⟩:=bF h.valid h.node ha (i+1) hi
 have hch:=h.ch (i:=i) (j:=i+1) (by omega) hi hx hy
 have hp:dQ p i (i+1)=[p.getD i 0]:=by
  unfold dQ
  rw[drop_cons p i hi,show i+1 - i=1 by omega]
  rfl
 rw[hp]at hch
 generalize p.getD i 0=a at hch
 cases hch with
 |cons _ h2 _ _ _ _=>exact h2
end
section
variable {T:ab} {D:List Bool} {n:Int} {p:List Int}
end
end PW
end Go.Proofs.YtnegbdpggideiaaDoor
namespace Go.Proofs.YtnegbdpggideiaaDoor
namespace PW
open Go.RowKit aN Mem Net
def pq(T:ab)(s:bL)(n:Int):Int×Int:=if lK T s=false then(0,1) else if aS T n=false then(0,2) else if s.kind=1 then(s.num,0) else if s.kind=2 then(if bb T s.num.toNat≠n then(0,4) else(aK T s.num.toNat,0)) else(0,7)
theorem sf(l:List bL)(k:Nat)(h:k<l.length):∃s,l[k]? =some s∧l.drop k=s::l.drop (k+1):=⟨l[k],List.getElem?_eq_getElem h,List.drop_eq_getElem_cons h⟩
end PW
end Go.Proofs.YtnegbdpggideiaaDoor
namespace Go.Proofs.YtnegbdpggideiaaDoor
namespace PW
open Go.RowKit aN Mem Net
def iw(T:ab)(n:Int)(p:List Int)(x:Int):Nat→Nat→Nat
 |0,i=>i
 |f+1,i=>if bg T n (p.take i)=x then i else iw T n p x f (i+1)
noncomputable def eY(T:ab)(D:List Bool)(n:Int)(p:List Int)(i:Nat)(s:bL):Option Nat:=
 if s.kind=2∧i<p.length∧p.getD i 0=s.num then some (i+1)
 else if s.kind=1 then(if bg T n (p.take (iw T n p s.num (p.length - i) i))=s.num∧eG T D n p i (iw T n p s.num (p.length - i) i)=true then some (iw T n p s.num (p.length - i) i) else none)
 else none
noncomputable def wi(T:ab)(D:List Bool)(n:Int)(p:List Int):Nat→List bL→Bool
 |i,[]=>decide (i=p.length)
 |i,s::l=>match eY T D n p i s with
  |some j=>wi T D n p j l
  |none=>false
section
variable {T:ab} {D:List Bool} {n:Int} {p:List Int}
theorem pW(x:Int):∀f i,i≤iw T n p x f i∧iw T n p x f i≤i+f
 |0,i=>by simp[iw]
 |f+1,i=>by
  simp only[iw]
  split
  ·omega
  ·have:=pW x f (i+1);omega
theorem td(x:Int):∀f i k,i≤k→k<iw T n p x f i→bg T n (p.take k)≠x
 |0,i,k,h1,h2=>by simp only[iw]at h2;omega
 |f+1,i,k,h1,h2=>by
  simp only[iw]at h2
  split at h2
  ·omega
  ·rename_i h3
   by_cases e:k=i
   ·subst e;exact h3
   ·exact td x f (i+1) k (by omega) h2
theorem nu(x:Int):∀f i j,i≤j→j≤i+f→bg T n (p.take j)=x→(∀k,i≤k→k<j→bg T n (p.take k)≠x)→iw T n p x f i=j
 |0,i,j,h1,h2,_,_=>by simp only[iw];omega
 |f+1,i,j,h1,h2,h3,h4=>by
  simp only[iw]
  by_cases e:i=j
  ·subst e;rw[if_pos h3]
  ·rw[if_neg (h4 i (Nat.le_refl _) (by omega))]
   exact nu x f (i+1) j (by omega) (by omega) h3 (fun k h5 h6=>h4 k (by omega) h6)
theorem Ch.fin{d:Nat}{m:Nat}{q:List Int}(h:Ch T D d m q):bg T (m:Int) q=(d:Int):=by
 induction h with
 |nil=>rfl
 | @cons n a m p ha ht hu hm ho hp ih=>simp only[bg,Int.toNat_natCast,hm];exact ih
theorem jK(h:lM T D n p){i j:Nat}(hij:i≤j)(hj:j≤p.length)(hc:eG T D n p i j=true):iw T n p (bg T n (p.take j)) (p.length - i) i=j:=by
 have ha:=h.aW
 have hv:=h.valid
 refine nu _ _ _ _ hij (by omega) rfl fun k h1 h2 he=>?_
 obtain⟨u,hu,huN⟩:=bF hv h.node ha i (by omega)
 obtain⟨y,hy,hyN⟩:=bF hv h.node ha j hj
 obtain⟨z,hz,hzN⟩:=bF hv h.node ha k (by omega)
 have hzy:z=y:=by omega
 subst hzy
 obtain⟨c1,c2⟩:=(ja h hij hj hu hy).1 hc
 rw[il p h1 (show k≤j by omega)]at c1
 obtain⟨c3,c4⟩:=c1.suffix hv hyN c2 (h.ch h1 (by omega) hu hz)
 have:=c3.self
 have hl:=kE p (show k≤j by omega) hj
 rw[this]at hl
 simp at hl
 omega
theorem nS{x y:Nat}(hv:aj T=true)(hf:bw T D=true)(hx:(x:Int)<T.nodes)(hy:(y:Int)<T.nodes):wb T D x y=if dN T D y x<0 then 11 else 0:=by
 have hne:cy T D (x:Int) (y:Int)=0:=by
  unfold cy
  rw[if_pos (pI hv hf hy),aV.2 ⟨by omega,hx⟩]
  rfl
 unfold wb;rw[if_pos hne];simp only[Int.toNat_natCast]
theorem nW{x y:Nat}(hv:aj T=true)(hf:bw T D=true)(hx:(x:Int)<T.nodes)(hy:(y:Int)<T.nodes):fP T D x y=true↔cn T D y x=1:=by
 have hne:cy T D (x:Int) (y:Int)=0:=by
  unfold cy
  rw[if_pos (pI hv hf hy),aV.2 ⟨by omega,hx⟩]
  rfl
 unfold fP
 rw[hne]
 simp
theorem w9(h:lM T D n p){i j x y:Nat}(hij:i≤j)(hj:j≤p.length)(hx:bg T n (p.take i)=(x:Int))(hy:bg T n (p.take j)=(y:Int)):eG T D n p i j=true↔wb T D x y=0∧fP T D x y=true∧fe T D x y=dQ p i j:=by
 have ha:=h.aW
 have hv:=h.valid
 obtain⟨x',hx',hxN⟩:=bF hv h.node ha i (by omega)
 obtain⟨y',hy',hyN⟩:=bF hv h.node ha j hj
 have e1:x'=x:=by omega
 have e2:y'=y:=by omega
 subst e1
 subst e2
 rw[ja h hij hj hx hy,nS hv h.fits hxN hyN,nW hv h.fits hxN hyN]
 constructor
 ·rintro⟨h1,h2⟩
  have h0:=(h1.cost hv hyN).2
  exact⟨by rw[if_neg (by omega)],h2,(dK hv hyN hxN h0).unique hv hyN h1 h2⟩
 ·rintro⟨h1,h2,h3⟩
  have h0:0≤dN T D y' x':=by
   split at h1
   ·omega
   ·omega
  exact⟨by rw[←h3];exact dK hv hyN hxN h0,h2⟩
theorem oP(h:lM T D n p):∀(f i:Nat),i≤p.length→p.length - i≤f→wi T D n p i (iE T D n p f i)=true
 |f,i,hi,hf=>by
  by_cases hlt:i<p.length
  ·cases f with
   |zero=>omega
   |succ f=>
    cases ht:ju (eG T D n p i) i p.length with
    |none=>
     rw[nV hlt (fun k h1 h2=>gb _ ht k h1 h2)]
     simp only[wi]
     have hst:eY T D n p i ⟨2,p.getD i 0⟩=some (i+1):=by unfold eY;rw[if_pos ⟨rfl,hlt,rfl⟩]
     rw[hst]
     exact oP h f (i+1) (by omega) (by omega)
    |some j=>
     obtain⟨t1,t2,t3,t4⟩:=mX _ _ ht
     rw[kZ hlt t1 t2 t3 t4]
     simp only[wi]
     have hst:eY T D n p i ⟨1,bg T n (p.take j)⟩=some j:=by
      unfold eY
      simp only
      rw[if_neg (by omega),if_pos trivial,jK h (by omega) t2 t3,if_pos ⟨rfl,t3⟩]
     rw[hst]
     exact oP h f j t2 (by omega)
  ·rw[mN f i (by omega)]
   simp only[wi,decide_eq_true_eq]
   omega
theorem sP(h:lM T D n p):vz T D n p=0:=by
 unfold vz
 have h2:eJ T n p=0:=by unfold eJ;rw[if_pos h.valid,if_pos h.node];exact h.walk
 rw[if_pos (by rw[h.valid,h.fits];rfl),if_pos h2,if_neg]
 intro e
 obtain⟨x,h3,h4⟩:=List.any_eq_true.1 e
 rw[h.up x h3]at h4
 cases h4
end
end PW
end Go.Proofs.YtnegbdpggideiaaDoor
namespace Go.Proofs.YtnegbdpggideiaaDoor
namespace PW
open Go.RowKit aN Mem Net
def oV(D:List Bool)(q:List Int):Bool:= !q.any fun a=>bG D a.toNat
theorem mv{D:List Bool}{q:List Int}:oV D q=true↔∀a∈q,bG D a.toNat=false:=by
 unfold oV
 rw[Bool.not_eq_true',List.any_eq_false]
 constructor
 ·intro h a ha
  have:=h a ha
  simpa using this
 ·intro h a ha
  rw[h a ha]
  simp
section
variable {T:ab} {D:List Bool} {n:Int} {p:List Int}
theorem fU(T:ab):bw T []=true:=by simp[bw]
theorem lM.bare(h:lM T D n p):lM T [] n p:=⟨h.valid,fU T,h.node,h.walk,fun a _=>by simp[bG]⟩
end
end PW
end Go.Proofs.YtnegbdpggideiaaDoor
namespace Go.Proofs.YtnegbdpggideiaaDoor
namespace PW
open Go.RowKit aN Mem Net
def xZ(K:St→Prop):Exit→St→Prop
 | .normal,s=>K s
 |_,_=>False
theorem tH{P:Program}{N L:Nat}{x y:Code}{st:St}{Q:Exit→St→Prop}{Q1:St→Prop}(h:W P N L x st (xZ Q1))(k:∀s,Q1 s→W P N L y s Q):W P N L (.seq x y) st Q:=
 ak (h.mono fun e s hq=>by
  cases e<;>first|exact k s hq|exact hq.elim)
section
variable {T:ab} {D:List Bool} {n:Int} {p:List Int}
end
end PW
end Go.Proofs.YtnegbdpggideiaaDoor
namespace Go.Proofs.YtnegbdpggideiaaDoor
namespace PW
open Go.RowKit aN Mem Net
section
variable {T:ab} {D:List Bool}
theorem Ch.aW{d m:Nat}{q:List Int}(h:Ch T D d m q):∀a∈q,cX T a=true:=by
 induction h with
 |nil=>intro a ha;cases ha
 | @cons n a m p ha ht hu hm ho hp ih=>
  intro b hb
  rcases List.mem_cons.1 hb with rfl|hb
  ·exact bR.2 ⟨by omega,by omega⟩
  ·exact ih b hb
theorem qW{x y:Int}(h:wb T D x y=0):∃a b:Nat,x=(a:Int)∧y=(b:Int)∧(a:Int)<T.nodes∧(b:Int)<T.nodes∧aj T=true∧SP T D b a (fe T D x.toNat y.toNat):=by
 unfold wb at h
 split at h
 ·rename_i he
  obtain⟨hv,hf,hn,hd⟩:=fB he
  rw[aV]at hn hd
  obtain⟨a,rfl⟩:=Int.eq_ofNat_of_zero_le hn.1
  obtain⟨b,rfl⟩:=Int.eq_ofNat_of_zero_le hd.1
  refine⟨a,b,rfl,rfl,hn.2,hd.2,hv,?_⟩
  simp only[Int.toNat_natCast]at h ⊢
  exact dK hv hd.2 hn.2 (by split at h<;>omega)
 ·rename_i he
  exact absurd h he
end
theorem xe(l:List bL)(k:Nat)(s:bL)(h:l[k]? =some s):(dj l)[k*2+0]? =some (num s.kind):=od l k 0 s h (by omega)
theorem wX(l:List bL)(k:Nat)(s:bL)(h:l[k]? =some s):(dj l)[k*2+1]? =some (num s.num):=od l k 1 s h (by omega)
instance (T:ab) (n:Int) (l:List Int):gd (iH T n l):=by unfold iH;infer_instance
end PW
end Go.Proofs.YtnegbdpggideiaaDoor
namespace Go.Proofs.YtnegbdpggideiaaDoor
namespace PW
open Go.RowKit aN Mem Net
noncomputable def x0(T:ab)(D:List Bool)(x y:Int):Bool:=(((aj T&&bw T D)&& !decide (x=y))&&fP T [] x y)&&oV D (fe T [] x.toNat y.toNat)
theorem mP{T:ab}{D:List Bool}{x y:Int}(h:fP T D x y=true):wb T D x y=0:=by
 unfold fP at h
 rw[Bool.and_eq_true,decide_eq_true_eq,decide_eq_true_eq]at h
 obtain⟨h1,h2⟩:=h
 obtain⟨hv,hf,hn,hd⟩:=fB h1
 rw[aV]at hn hd
 obtain⟨a,rfl⟩:=Int.eq_ofNat_of_zero_le hn.1
 obtain⟨b,rfl⟩:=Int.eq_ofNat_of_zero_le hd.1
 simp only[Int.toNat_natCast]at h2
 unfold wb
 rw[if_pos h1,if_neg]
 simp only[Int.toNat_natCast]
 intro h0
 rw[qn hv hd.2 hn.2 h0]at h2
 omega
section
variable {T:ab} {D:List Bool} {n:Int} {p:List Int}
theorem o2(h:lM T D n p){i k x y:Nat}(hik:i<k)(hk:k≤p.length)(hx:bg T n (p.take i)=(x:Int))(hy:bg T n (p.take k)=(y:Int)):(x0 T D x y&&wo (fe T [] x y) (dQ p i k))=eG T [] n p i k:=by
 have hb:=h.bare
 have ha:=h.aW
 have hv:=h.valid
 obtain⟨x',hx',hxN⟩:=bF hv h.node ha i (by omega)
 obtain⟨y',hy',hyN⟩:=bF hv h.node ha k hk
 have e1:x'=x:=by omega
 have e2:y'=y:=by omega
 subst e1
 subst e2
 rw[Bool.eq_iff_iff,w9 hb (by omega) hk hx hy]
 unfold x0 wo
 simp only[Int.toNat_natCast,Bool.and_eq_true,Bool.not_eq_true',decide_eq_true_eq,decide_eq_false_iff_not]
 constructor
 ·rintro⟨⟨⟨_,h3⟩,h4⟩,h5⟩
  exact⟨mP h3,h3,h5⟩
 ·rintro⟨h1,h2,h3⟩
  refine⟨⟨⟨⟨⟨hv,h.fits⟩,fun e=>?_⟩,h2⟩,?_⟩,h3⟩
  ·have e2:x'=y':=by omega
   subst e2
   rw[nS hv (fU T) hxN hxN]at h1
   have hsp:=dK (D:=[]) hv hxN hxN (by split at h1<;>omega)
   have h6:=hsp.self
   rw[h6]at h3
   have:=kE p (show i≤k by omega) hk
   rw[←h3]at this
   simp at this
   omega
  ·rw[h3,mv]
   exact fun a ha=>h.up a (uB ha)
end
section
variable {P:Program} {σ:bo} {t:a7} {o:Oper}
end
end PW
end Go.Proofs.YtnegbdpggideiaaDoor
namespace Go.Proofs.YtnegbdpggideiaaDoor
namespace PW
open Go.RowKit aN Mem Net
noncomputable def o9(T:ab)(n:Int)(p:List Int)(x:Int)(i:Nat):Nat→Nat→Option Nat
 |0,_=>none
 |f+1,j=>if bg T n (p.take j)=x∧eG T [] n p i j=true then some j else o9 T n p x i f (j+1)
noncomputable def kD(T:ab)(n:Int)(p:List Int)(i:Nat)(s:bL):Option Nat:=
 if s.kind=2∧i<p.length∧p.getD i 0=s.num then some (i+1)
 else if s.kind=1 then o9 T n p s.num i (p.length - i) (i+1)
 else none
noncomputable def yc(T:ab)(n:Int)(p:List Int):Nat→List bL→Bool
 |i,[]=>decide (i=p.length)
 |i,s::l=>match kD T n p i s with
  |some j=>yc T n p j l
  |none=>false
def kA(T:ab):Int→List bL→Bool
 |_,[]=>true
 |x,s::l=>if s.kind=1∧s.num=x then false else kA T (pq T s x).1 l
section
variable {T:ab} {n:Int} {p:List Int}
theorem mz{x:Int}{i:Nat}:∀(f j k:Nat),o9 T n p x i f j=some k→j≤k∧k<j+f∧bg T n (p.take k)=x∧eG T [] n p i k=true∧∀m,j≤m→m<k→¬(bg T n (p.take m)=x∧eG T [] n p i m=true)
 |0,j,k,h=>by simp[o9]at h
 |f+1,j,k,h=>by
  simp only[o9]at h
  split at h
  ·rename_i h1;cases h;exact⟨Nat.le_refl _,by omega,h1.1,h1.2,fun m h2 h3=>by omega⟩
  ·rename_i h1
   obtain⟨a,b,c,d,e⟩:=mz f (j+1) k h
   refine⟨by omega,by omega,c,d,fun m h2 h3=>?_⟩
   by_cases hm:m=j
   ·subst hm;exact h1
   ·exact e m (by omega) h3
theorem qD{x:Int}{i:Nat}:∀(f j k:Nat),j≤k→k<j+f→bg T n (p.take k)=x→eG T [] n p i k=true→(∀m,j≤m→m<k→¬(bg T n (p.take m)=x∧eG T [] n p i m=true))→o9 T n p x i f j=some k
 |0,j,k,h1,h2,_,_,_=>by omega
 |f+1,j,k,h1,h2,h3,h4,h5=>by
  simp only[o9]
  by_cases e:j=k
  ·subst e;rw[if_pos ⟨h3,h4⟩]
  ·rw[if_neg (h5 j (Nat.le_refl _) (by omega))]
   exact qD f (j+1) k (by omega) (by omega) h3 h4 (fun m h6 h7=>h5 m (by omega) h7)
theorem kQ(h:lM T [] n p){i:Nat}(hi:i≤p.length)(s:bL)(j:Nat):kD T n p i s=some j↔eY T [] n p i s=some j∧¬(s.kind=1∧s.num=bg T n (p.take i)):=by
 unfold kD eY
 by_cases h1:s.kind=2∧i<p.length∧p.getD i 0=s.num
 ·rw[if_pos h1,if_pos h1]
  constructor
  ·intro e;exact⟨e,fun e2=>by omega⟩
  ·intro e;exact e.1
 ·rw[if_neg h1,if_neg h1]
  by_cases h2:s.kind=1
  ·rw[if_pos h2,if_pos h2]
   constructor
   ·intro e
    obtain⟨a,b,c,d,_⟩:=mz _ _ _ e
    have hf:=jK h (show i≤j by omega) (by omega) d
    rw[c]at hf
    rw[hf,if_pos ⟨c,d⟩]
    refine⟨rfl,fun e2=>?_⟩
    have:=nu (T:=T) (n:=n) (p:=p) s.num (p.length - i) i i (Nat.le_refl _) (by omega) e2.2.symm (fun k h3 h4=>by omega)
    omega
   ·rintro⟨e1,e2⟩
    split at e1
    ·rename_i h3
     simp only[Option.some.injEq]at e1
     have hge:=pW (T:=T) (n:=n) (p:=p) s.num (p.length - i) i
     have hno:=td (T:=T) (n:=n) (p:=p) s.num (p.length - i) i
     rw[e1]at h3 hge hno
     have hne:i≠j:=fun e=>e2 ⟨h2,by rw[e];exact h3.1.symm⟩
     exact qD _ _ _ (by omega) (by omega) h3.1 h3.2 (fun m h4 h5 h6=>hno m (by omega) h5 h6.1)
    ·cases e1
  ·rw[if_neg h2,if_neg h2]
   simp
theorem step_end(h:lM T [] n p){i j:Nat}(hi:i≤p.length){s:bL}(hst:eY T [] n p i s=some j):(pq T s (bg T n (p.take i))).1=bg T n (p.take j)∧(pq T s (bg T n (p.take i))).2=0∧j≤p.length:=by
 have ha:=h.aW
 have hv:=h.valid
 obtain⟨x,hx,hxN⟩:=bF hv h.node ha i hi
 have hnb:aS T (x:Int)=true:=aV.2 ⟨by omega,hxN⟩
 rw[hx]
 have hss:=hst
 unfold eY at hst
 split at hst
 ·rename_i h1
  cases hst
  have hab:=ha _ (cS (d:=0) h1.2.1)
  have htl:=lR h h1.2.1 hx
  have hed:=ep T n p i h1.2.1
  rw[h1.2.2]at hab htl hed
  have hsg:lK T s=true:=by unfold lK;rw[if_neg (by omega),if_pos h1.1];exact hab
  have hes:pq T s x=(bg T n (p.take (i+1)),0):=by
   unfold pq
   rw[if_neg (by rw[hsg];simp),if_neg (by rw[hnb];simp),if_neg (by omega),if_pos h1.1,if_neg (by rw[htl];simp),hed]
  rw[hes]
  exact⟨rfl,rfl,h1.2.1⟩
 ·split at hst
  ·rename_i h2
   split at hst
   ·rename_i h3
    simp only[Option.some.injEq]at hst
    have hge:=pW (T:=T) (n:=n) (p:=p) s.num (p.length - i) i
    rw[hst]at h3 hge
    obtain⟨y,hy,hyN⟩:=bF hv h.node ha j (by omega)
    have hsy:s.num=(y:Int):=by rw[←h3.1];exact hy
    have hsg:lK T s=true:=by unfold lK;rw[if_pos h2,hsy];exact aV.2 ⟨by omega,hyN⟩
    have hes:pq T s x=(s.num,0):=by
     unfold pq
     rw[if_neg (by rw[hsg];simp),if_neg (by rw[hnb];simp),if_pos h2]
    rw[hes]
    exact⟨h3.1.symm,rfl,by omega⟩
   ·cases hst
  ·cases hst
theorem ti(h:lM T [] n p):∀(l:List bL) (i:Nat),i≤p.length→yc T n p i l=(wi T [] n p i l&&kA T (bg T n (p.take i)) l)
 | [],i,hi=>by simp[yc,wi,kA]
 |s::l,i,hi=>by
  simp only[yc,wi,kA]
  cases hX:eY T [] n p i s with
  |none=>
   have hP:kD T n p i s=none:=by
    cases hP:kD T n p i s with
    |none=>rfl
    |some j=>have:=((kQ h hi s j).1 hP).1;rw[hX]at this;cases this
   rw[hP]
   rfl
  |some j=>
   obtain⟨e1,e2,e3⟩:=step_end h hi hX
   by_cases hd:s.kind=1∧s.num=bg T n (p.take i)
   ·have hP:kD T n p i s=none:=by
     cases hP:kD T n p i s with
     |none=>rfl
     |some j=>exact absurd hd ((kQ h hi s j).1 hP).2
    rw[hP,if_pos hd]
    simp
   ·rw[(kQ h hi s j).2 ⟨hX,hd⟩,if_neg hd,e1]
    simp only
    exact ti h l j e3
theorem nn(h:lM T [] n p):∀(f i:Nat),i≤p.length→kA T (bg T n (p.take i)) (iE T [] n p f i)=true
 |f,i,hi=>by
  by_cases hlt:i<p.length
  ·cases f with
   |zero=>rfl
   |succ f=>
    cases ht:ju (eG T [] n p i) i p.length with
    |none=>
     rw[nV hlt (fun k h1 h2=>gb _ ht k h1 h2)]
     have hst:eY T [] n p i ⟨2,p.getD i 0⟩=some (i+1):=by unfold eY;rw[if_pos ⟨rfl,hlt,rfl⟩]
     simp only[kA]
     rw[if_neg (by rintro⟨h1,_⟩;omega),(step_end h hi hst).1]
     exact nn h f (i+1) (by omega)
    |some j=>
     obtain⟨t1,t2,t3,t4⟩:=mX _ _ ht
     rw[kZ hlt t1 t2 t3 t4]
     have hf:=jK h (show i≤j by omega) t2 t3
     have hst:eY T [] n p i ⟨1,bg T n (p.take j)⟩=some j:=by
      unfold eY
      simp only
      rw[if_neg (by omega),if_pos trivial,hf,if_pos ⟨rfl,t3⟩]
     simp only[kA]
     rw[if_neg,(step_end h hi hst).1]
     ·exact nn h f j t2
     ·rintro⟨_,h2⟩
      have:=nu (T:=T) (n:=n) (p:=p) (bg T n (p.take j)) (p.length - i) i i (Nat.le_refl _) (by omega) h2.symm (fun k h3 h4=>by omega)
      omega
  ·rw[mN f i (by omega)]
   rfl
end
noncomputable def yl(T:ab)(D:List Bool)(l:List bL)(n:Int)(p:List Int):Bool:=if vz T D n p=0 then yc T n p 0 l else false
end PW
end Go.Proofs.YtnegbdpggideiaaDoor
namespace Go.Proofs.YtnegbdpggideiaaDoor
namespace PW
open Go.RowKit aN Mem Net eB
end PW
end Go.Proofs.YtnegbdpggideiaaDoor
namespace Go.Proofs.YtnegbdpggideiaaDoor
namespace PW
open Go.RowKit aN Mem Net
section
variable {T:ab} {D:List Bool}
theorem oz{d:Nat}:∀ {m:Nat} {q:List Int},Ch T D d m q→(q=[]∨bI T m=false)→bV T false m q=0
 |m,[],_,_=>rfl
 |m,a::q,h,ho=>by
  cases h with
  | @cons _ b k _ ha ht hu hm hov hp=>
   rw[jz (bR.2 ⟨by omega,by omega⟩) (by rw[Int.toNat_natCast];exact ht) (.inr (by rcases ho with h|h;cases h;rw[Int.toNat_natCast];exact h)),Int.toNat_natCast,hm]
   exact oz hp hov
theorem qy{d m:Nat}{q:List Int}(h:Ch T D d m q):bV T true m q=0:=by
 cases h with
 |nil=>rfl
 | @cons _ b k q ha ht hu hm hov hp=>
  rw[jz (bR.2 ⟨by omega,by omega⟩) (by rw[Int.toNat_natCast];exact ht) (.inl rfl),Int.toNat_natCast,hm]
  exact oz hp hov
theorem Ch.bare{d m:Nat}{q:List Int}(h:Ch T D d m q):Ch T [] d m q:=by
 induction h with
 |nil=>exact .nil
 |cons ha ht hu hm ho hp ih=>exact .cons ha ht (by simp[bG]) hm ho ih
theorem Ch.mask{d m:Nat}{q:List Int}(h:Ch T [] d m q)(hc:∀a∈q,bG D a.toNat=false):Ch T D d m q:=by
 induction h with
 |nil=>exact .nil
 | @cons n a m p ha ht hu hm ho hp ih=>exact .cons ha ht (by have:=hc a (by simp);rw[Int.toNat_natCast]at this;exact this) hm ho (ih fun b hb=>hc b (by simp[hb]))
structure fi (T:ab) (D:List Bool) (x y:Nat) (p:List Int):Prop where
 valid:aj T=true
 fits:bw T D=true
 ne:x≠y
 hx:(x:Int)<T.nodes
 hy:(y:Int)<T.nodes
 uniq:fP T [] x y=true
 sp:SP T [] y x p
 up:∀a∈p,bG D a.toNat=false
theorem u4{x y:Int}(h:x0 T D x y=true):∃a b:Nat,x=(a:Int)∧y=(b:Int)∧fi T D a b (fe T [] a b)∧wb T [] x y=0:=by
 unfold x0 at h
 simp only[Bool.and_eq_true,Bool.not_eq_true',decide_eq_false_iff_not]at h
 obtain⟨⟨⟨⟨hv,hf⟩,hne⟩,hu⟩,hc⟩:=h
 obtain⟨a,b,rfl,rfl,ha,hb,_,hsp⟩:=qW (mP hu)
 simp only[Int.toNat_natCast]at hsp hc
 exact⟨a,b,rfl,rfl,⟨hv,hf,fun e=>hne (by rw[e]),ha,hb,hu,hsp,mv.1 hc⟩,mP hu⟩
variable {x y:Nat} {p:List Int}
theorem fi.pos(h:fi T D x y p):0<p.length:=by
 have hsp:=h.sp
 cases hsp with
 |nil=>exact absurd rfl h.ne
 |cons _ _ _=>simp
theorem fi.x9(h:fi T D x y p):lM T D x p:=⟨h.valid,h.fits,aV.2 ⟨by omega,h.hx⟩,qy h.sp.ch,h.up⟩
theorem fi.gX(h:fi T D x y p):cn T [] y x=1:=(nW h.valid (fU T) h.hx h.hy).1 h.uniq
theorem fi.yt(h:fi T D x y p):eG T [] x p 0 p.length=true:=by
 have he:bg T (x:Int) (p.take p.length)=(y:Int):=by rw[List.take_length];exact h.sp.ch.fin
 rw[ja h.x9.bare (Nat.zero_le _) (Nat.le_refl _) (u:=x) rfl he]
 have:dQ p 0 p.length=p:=by unfold dQ;simp
 rw[this]
 exact⟨h.sp,h.gX⟩
theorem fi.part(h:fi T D x y p){i k:Nat}(hik:i≤k)(hk:k<p.length):x0 T D (bb T (p.getD i 0).toNat) (aK T (p.getD k 0).toNat)=true:=by
 have hF:=h.x9
 have ha:=hF.aW
 have hc:=vU hF.bare (i:=0) (j:=p.length) (i':=i) (j':=k+1) (Nat.zero_le _) (by omega) (by omega) (Nat.le_refl _) h.yt
 obtain⟨u,hu,huN⟩:=bF h.valid hF.node ha i (by omega)
 obtain⟨v,hv,hvN⟩:=bF h.valid hF.node ha (k+1) (by omega)
 rw[lR hF (by omega) hu,←ep T x p k hk,hv]
 rw[←o2 hF (by omega) (by omega) hu hv,Bool.and_eq_true]at hc
 exact hc.1
end
end PW
end Go.Proofs.YtnegbdpggideiaaDoor
namespace Go.Proofs.YtnegbdpggideiaaDoor
namespace PW
open Go.RowKit aN Mem Net
def ya(k:Nat):List la:=(List.range k).map fun(i:Nat)=>⟨(i:Int),(((i+1) % 4:Nat):Int),1,1,0,1,0⟩
def qm:ab:=⟨4,[],ya 4⟩
def tw(d:Nat):List Int:=match d with
 |0=>[0,1,2,1]
 |1=>[1,0,1,2]
 |2=>[2,1,0,1]
 |_=>[1,2,1,0]
def xu(T:ab)(n:Nat)(out:List Int)(a:Nat):Bool:=decide (0≤at' out (bz T false a))&&(decide (bz T false a=(n:Int))|| !bI T (bz T false a).toNat)
theorem mL(n:Nat)(out:List Int)(a:Nat):Net.Way qm [] n false out a↔xu qm n out a=true:=by
 unfold Net.Way xu
 have:bG [] a=false:=by simp[bG]
 simp[this]
end PW
end Go.Proofs.YtnegbdpggideiaaDoor
namespace Go.Proofs.YtnegbdpggideiaaDoor
namespace PW
open Go.RowKit aN Mem Net
end PW
end Go.Proofs.YtnegbdpggideiaaDoor
namespace Go.Proofs.YtnegbdpggideiaaDoor
namespace PW
open Go.RowKit aN Mem Net
section
variable {P:Program} {σ:bo} {t:a7} {o:Oper}
end
end PW
end Go.Proofs.YtnegbdpggideiaaDoor
namespace Go.Proofs.YtnegbdpggideiaaDoor
namespace PW
open Go.RowKit aN Mem Net
def jZ(T:ab)(D:List Bool)(L:List Int)(m d:Nat):List Int:=if m=d∨L.getD m 0<0 then [] else gi T D L (L.getD m 0) d (cU T m)
def py(T:ab)(D:List Bool)(L:List Int)(d:Nat):Nat→Nat→Int
 |0,m=>if m=d then 1 else 0
 |f+1,m=>if m=d then 1 else(jZ T D L m d).foldl (fun c a=>min 2 (c+py T D L d f (aK T a.toNat).toNat)) 0
def xd(y u:Nat)(c:Int):Bool:=decide ((tw y).getD u 0=c)&&(decide (cy qm [] (u:Int) (y:Int)=0)&&decide (py qm [] (tw y) y ((tw y).getD u 0).toNat u=1))
end PW
end Go.Proofs.YtnegbdpggideiaaDoor
namespace Go.Proofs.YtnegbdpggideiaaDoor
namespace PW
open Go.RowKit aN Mem Net
instance (l:List bL):gQ (dj l):=⟨fun i u h=>by
 obtain⟨s,_,hs⟩:=List.mem_flatMap.1 (List.mem_of_getElem? h)
 simp only[i1,List.mem_cons,List.not_mem_nil,or_false]at hs
 rcases hs with rfl|rfl
 ·infer_instance
 ·infer_instance⟩
end PW
end Go.Proofs.YtnegbdpggideiaaDoor
namespace Go.Proofs.YtnegbdpggideiaaDoor
namespace PW
open Go.RowKit aN Mem Net
section
variable {H:Type} {enc:TypeId×Value→H} {W:World}
end
end PW
end Go.Proofs.YtnegbdpggideiaaDoor
namespace Go.Proofs.YtnegbdpggideiaaDoor
namespace PW
open Go.RowKit aN Mem Net Go.WideShapes
section
variable {H:Type} {enc:TypeId×Value→H} {W:World}
end
end PW
end Go.Proofs.YtnegbdpggideiaaDoor
namespace Go.Proofs.YtnegbdpggideiaaDoor
namespace PW
open Go.RowKit aN Mem Net Go.WideShapes
section
variable {H:Type} {enc:TypeId×Value→H} {W:World}
end
end PW
end Go.Proofs.YtnegbdpggideiaaDoor
namespace Go.Proofs.YtnegbdpggideiaaDoor
namespace PW
open Go.RowKit aN Mem Net
end PW
end Go.Proofs.YtnegbdpggideiaaDoor
namespace Go.Proofs.YtnegbdpggideiaaDoor
namespace PW
open Go.RowKit aN Mem Net
theorem Ch.za{T:ab}{D:List Bool}{d m:Nat}{q:List Int}(h:Ch T D d m q):∀a∈q,bG D a.toNat=false:=by
 induction h with
 |nil=>intro z hz;cases hz
 | @cons n a m p ha ht hu hm ho hp ih=>
  intro z hz
  rcases List.mem_cons.1 hz with rfl|hz
  ·rw[Int.toNat_natCast];exact hu
  ·exact ih z hz
end PW
end Go.Proofs.YtnegbdpggideiaaDoor
namespace Go.Proofs.YtnegbdpggideiaaDoor
namespace PW
open Go.RowKit aN Mem Net
def wH:List bL→List bL
 | []=>[]
 |s::l=>if s.kind=2 then l else s::l
structure qN (T:ab) (D:List Bool) (x y:Nat) (p:List Int):Prop where
 valid:aj T=true
 fits:bw T D=true
 ne:x≠y
 hx:(x:Int)<T.nodes
 hy:(y:Int)<T.nodes
 sp:SP T D y x p
section
variable {T:ab} {D:List Bool} {x y:Nat} {p:List Int}
theorem qN.pos(h:qN T D x y p):0<p.length:=by
 have hsp:=h.sp
 cases hsp with
 |nil=>exact absurd rfl h.ne
 |cons _ _ _=>simp
theorem qN.x9(h:qN T D x y p):lM T D x p:=⟨h.valid,h.fits,aV.2 ⟨by omega,h.hx⟩,qy h.sp.ch,h.sp.ch.za⟩
theorem qN.zero(h:qN T D x y p):vz T D x p=0:=sP h.x9
theorem qN.len(h:qN T D x y p):(p.length:Int)<T.nodes:=h.sp.w6 h.valid h.hy
theorem qN.ck(h:qN T D x y p):yl T D (oQ T [] x p) x p=true:=by
 have hF:=h.x9
 unfold yl
 rw[if_pos h.zero,ti hF.bare _ 0 (Nat.zero_le _),Bool.and_eq_true]
 exact⟨oP hF.bare _ 0 (Nat.zero_le _) (by omega),nn hF.bare _ 0 (Nat.zero_le _)⟩
theorem tm{n:Int}(hp:0<p.length):∃s l,oQ T [] n p=s::l∧(s.kind=1∨s=⟨2,p.getD 0 0⟩):=by
 unfold oQ
 obtain⟨f,hf⟩:∃f,p.length=f+1:=⟨p.length - 1,by omega⟩
 rw[hf]
 simp only[iE]
 rw[if_pos (by omega)]
 cases ju (eG T [] n p 0) 0 p.length with
 |none=>exact⟨_,_,rfl,.inr rfl⟩
 |some j=>exact⟨_,_,rfl,.inl rfl⟩
theorem qN.whole(h:qN T D x y p):yl T D (wH (oQ T [] x p)) x p=true∨yl T D (⟨2,p.getD 0 0⟩::wH (oQ T [] x p)) x p=true:=by
 obtain⟨s,l,hl,hs⟩:=tm (T:=T) (n:=(x:Int)) h.pos
 have hc:=h.ck
 rw[hl]at hc ⊢
 rcases hs with hs|rfl
 ·left
  simp only[wH]
  rw[if_neg (by omega)]
  exact hc
 ·right
  exact hc
end
theorem vg{T:ab}{D:List Bool}{n k d:Nat}(h:d<k):(oY T D n k)[d]? =some ⟨bx T D n d,false,[]⟩:=by simp[oY,h]
theorem fi.same{T:ab}{D:List Bool}{x y:Nat}{p:List Int}(h:fi T D x y p):fe T D x y=p∧qN T D x y p∧oQ T [] x p=[⟨1,(y:Int)⟩]:=by
 have hv:=h.valid
 have hch:=h.sp.ch.mask h.up
 have h1:=hch.le hv h.hy
 have h0:=h.sp.cost hv h.hy
 have hq:=dK (D:=D) hv h.hy h.hx h1.1
 have hqc:=hq.cost hv h.hy
 have hqb:=hq.ch.bare
 have h2:=hqb.le hv h.hy
 have hq':=hqb.sp hv h.hy (by omega)
 have he:fe T D x y=p:=hq'.unique hv h.hy h.sp h.gX
 have hP:qN T D x y p:=⟨hv,h.fits,h.ne,h.hx,h.hy,by rw[←he];exact hq⟩
 refine⟨he,hP,?_⟩
 unfold oQ
 obtain⟨f,hf⟩:∃f,p.length=f+1:=⟨p.length - 1,by have:=h.pos;omega⟩
 rw[hf,kZ (j:=p.length) h.pos h.pos (Nat.le_refl _) h.yt (fun k h3 h4=>by omega),mN _ _ (Nat.le_refl _),List.take_length,h.sp.ch.fin]
end PW
end Go.Proofs.YtnegbdpggideiaaDoor
namespace Go.Proofs.YtnegbdpggideiaaDoor
namespace PW
open Go.RowKit aN Mem Net eB
section
variable {P:Program} {σ:bo} {t:a7} {o:Oper} {N L:Nat} {ops:Array Oper}
theorem qM{rest:List Oper}{K:St→Prop}{d:Nat}{x y:Operand}{ty tz:TypeId}{xs:List PV}(ho:o.op= .binOp .eql ty x y tz)(hk:rq P ty=true)(hx:ah t x=some (.slice 0 xs))(hy:ah t y=some (.raw (.slice none 0 0)))(hd:o.dst=some d)(hw:cz ops t o=some true)(hN:Nat.blt d N=true)
  (h:∀b,WR P N L ops rest ⟨(d,.raw (.bool b))::t,σ⟩ K):WR P N L ops (o::rest) ⟨t,σ⟩ K:=by
 refine iZ hw fun F base E a w hs next Q hn=>?_
 obtain⟨e,hu⟩:=my hk
 have h1:=ae (di a) hs.tmp hx
 have h2:=ae (di a) hs.tmp hy
 generalize hz:a.eval x=z at h1
 generalize hz':a.eval y=z' at h2
 cases h2
 obtain⟨p,c,rfl,_,_⟩:=nq h1
 have hrun:=Lib.run_eql_slice_nil w ty e p 0 c 0 0 hu
 have hg:∀a n c b m d,(eqGuard .eql ty x y (.slice a n c) (.slice b m d)).run P w= .ok () w:=fun _ _ _ _ _ _=>rfl
 have hU:cQ P w (fun v w'=>bC E w' v (.raw (.bool p.isNone))) ((execOp a.eval o).run P w):=by
  simp only[execOp,ho,hz,hz',Sem.run_bind,Sem.run_pure,Result.andThen_ok,hg,hrun]
  exact aA (.raw _)
 refine kf hU fun v w' hE hv=>hn _ _ _ E (h p.isNone) ?_ (.ext hE) (Below.fq hE hs.sat.bl)
 rw[hd]
 exact hs.put (hs.sat.ext hE) (.ext hE) hN hv
end
theorem yN:rq Tryd.prog 28=true:=by kernel_rfl
theorem oM(l:List bL)(hl:l.length≤1000):Can Tryd.prog 83 [bD l] (· =bD l):=by
 refine aI Tryd.func83 rfl Tryd.ntmps83 rfl<|af (.a 1 rfl<|.k [0] rfl)<|ak<|aX (WR.mono (K:=fun s=>∃b:Bool,s=⟨[(0,bD l),(4,.raw (.bool b))],[]⟩∧(b=true→l=[])) ?_ ?_)
 ·cases l with
  |nil=>exact av 1 rfl<|qM rfl yN rfl rfl rfl rfl rfl fun b=>aQ [0,4] rfl ⟨b,rfl,fun _=>rfl⟩
  |cons a l=>exact av 1 rfl<|aE (nH rfl yN rfl rfl (Nat.succ_pos _)) rfl rfl rfl<|aQ [0,4] rfl ⟨_,rfl,fun h=>by cases h⟩
 rintro _ ⟨b,rfl,hb⟩
 refine ag rfl (fun hc=>?_) (fun hc=>?_)
 ·have:l=[]:=hb hc
  subst this
  exact af (.a 1 rfl<|.k [2] rfl)<|an<|⟨_,_,ax.of rfl,ay.bY,rfl⟩
 ·refine ai<|aX<|dJ (jn rfl (cb.sl.get rfl)) rfl<|av 1 rfl<|dJ (ct rfl (cb.rk.get rfl) rfl rfl rfl (gU l) (by unfold maxLen;omega)) rfl<|av 1 rfl<|aQ [2] rfl ?_
  refine an<|⟨_,_,ax.of rfl,ay.gZ (xs:=dj l) (ys:=dj l) rfl al.pure,?_⟩
  rw[Nat.zero_add];rfl
theorem jv{P:Program}{σ:bo}{t:a7}{o:Oper}{ty:TypeId}{x lo:Operand}{s:bL}{l:List bL}{k:IntKind}(ho:o.op= .slice ty x (some lo) none none)(he:pE P ty=some (32,2))(hx:ah t x=some (.slice (s::l).length (dj (s::l))))(hlo:ah t lo=some (.raw (.int k 1))):az P σ t o (.slice l.length (dj l)):=by
 have h:=rO (l:=1) (σ:=σ) ho he hx hlo (gU _) rfl (by simp)
 have e:((dj (s::l)).drop (1*2)).take (((s::l).length - 1)*2)=dj l:=by
  show(dj l).take _=_
  refine List.take_of_length_le ?_
  rw[gU];simp
 rw[e]at h
 exact h
end PW
end Go.Proofs.YtnegbdpggideiaaDoor
namespace Go.Proofs.YtnegbdpggideiaaDoor
namespace PW
open Go.RowKit aN Mem
section
variable {P:Program} {σ:bo} {t:a7} {o:Oper}
theorem nQ{ty e s:Nat}{x:Operand}(ho:o.op= .call {callee:=.builtin .cap,args:= #[x],argTypes:= #[ty]})(he:pE P ty=some (e,s))(hx:ah t x=some (.raw (.slice none 0 0))):az P σ t o (.raw (.int .i64 0)):=by
 intro F base E ρ w hρ _ hT
 have h1:=ae hρ hT hx
 obtain⟨hu,_⟩:=dS he
 generalize hz:ρ x=z at h1
 cases h1
 simp[execOp,ho,resolve,invoke,builtin,Builtin.cap_,hz,run_underlying hu,goInt]
 exact aA (.raw _)
theorem pM{ty e s:Nat}{x hi':Operand}{k:IntKind}(ho:o.op= .slice ty x none (some hi') none)(he:pE P ty=some (e,s))(hx:ah t x=some (.raw (.slice none 0 0)))(hhi:ah t hi'=some (.raw (.int k 0))):az P σ t o (.raw (.slice none 0 0)):=by
 intro F base E ρ w hρ _ hT
 have h1:=ae hρ hT hx
 have h2:=ae hρ hT hhi
 obtain⟨hu,inf,hinf,hs⟩:=dS he
 generalize hz:ρ x=z at h1
 generalize hz':ρ hi'=z' at h2
 cases h1
 cases h2
 have hr:(execOp ρ o).run P w= .ok (.value (.slice none 0 0)) w:=by
  simp[execOp,ho,hz,hz',Instr.sliceAt,run_underlying hu,Instr.slice,Instr.sliceBounds,Instr.sliceBound,asIntOf,sizeOf,typeInfo,hinf]
 rw[hr]
 exact aA (.raw _)
theorem oh{P:Program}(w:World)(t tx ty e:TypeId)(i:TypeInfo)(z:Value)(ht:P.underlying t=some (.slice e))(hx:P.underlying tx=some (.int .i64))(hi:P.info? e=some i)(hz:i.zero=some z)(hp:0<i.size)(n:Nat)
  (h0:0<n) (h63:(n:Int)≤9223372036854775807) (h48:n*i.bytes≤281474976710656):
  (Builtin.append_ #[t,tx] ty #[.slice none 0 0,.int .i64 (n:Int)]).run P w=
   .ok (.slice (some ⟨w.heap.size,0,none⟩) n (grownCap w n 0 e)) (w.drew.alloc (.cells (Builtin.zeroCells z.cells n++Builtin.zeroCells z.cells (grownCap w n 0 e - n)) e)):=by
 have hn:n≠0:=by omega
 have hp':i.size≠0:=by omega
 have h63':¬(9223372036854775807<(n:Int)):=by omega
 have h48':¬(281474976710656<Builtin.nextslicecap n 0*i.bytes):=by rw[nextslicecap_zero h0];omega
 have hw:IntKind.i64.wrap (n:Int)=n:=jg (by unfold In64;omega)
 have hb:¬(281474976710656<(n:Int)*(i.bytes:Int)):=by
  have:((n*i.bytes:Nat):Int)≤281474976710656:=by omega
  rw[Int.natCast_mul]at this
  omega
 have lJ:¬((n:Int)<0):=by omega
 simp[Builtin.append_,run_underlying ht,run_underlying hx,sizeOf,typeInfo,zeroValue,hi,hz,asInt,asIntOf,hw,hb,lJ,hn,hp',h63',h48',Question.forced,run_firstCells_none,newRow,grownCap]
 exact fun h=>absurd h (Nat.mul_ne_zero hn hp')
theorem rT{ty tx e s by':Nat}{z:List Value}{x y:Operand}{n:Nat}{m:Int}(ho:o.op= .call {callee:=.builtin .append,args:= #[x,y],argTypes:= #[ty,tx]})(hk:nY P ty=some (e,s,by',z))(htx:P.underlying tx=some (.int .i64))(hx:ah t x=some (.raw (.slice none 0 0)))(hy:ah t y=some (.raw (.int .i64 m)))(hm:m=(n:Int))(h0:0<n)(hn:n≤maxLen∧n*by'≤281474976710656):
  eT P σ t o (.own σ.length) (σ++[some (.row e s n (db (z.map .raw) n))]):=by
 intro F base E ρ w hρ hS hT
 have h1:=ae hρ hT hx
 have h2:=ae hρ hT hy
 generalize hz1:ρ x=v1 at h1
 generalize hz2:ρ y=v2 at h2
 cases h1;cases h2
 subst hm
 obtain⟨hu,i,z',hi,hs,hby,hz,hzz,hzs,hpos⟩:=jB hk
 have hsm:n≤9223372036854775807:=by have:=hn.1;simp only[maxLen]at this;omega
 have hrun:=oh (P:=P) w ty tx o.type e i z' hu htx hi hz (by omega) n h0 (by omega) (by rw[hby];exact hn.2)
 have hr:(execOp ρ o).run P w= .ok (.value (.slice (some ⟨w.heap.size,0,none⟩) n (grownCap w n 0 e))) (w.drew.alloc (.cells (Builtin.zeroCells z'.cells n++Builtin.zeroCells z'.cells (grownCap w n 0 e - n)) e)):=by
  simp only[execOp,ho,resolve,invoke,builtin,Sem.run_bind,Sem.run_pure,Result.andThen_ok,List.map_toArray,List.map_cons,List.map_nil,hz1,hz2,hrun]
 have hge:=grownCap_ge w n 0 e
 have hcm:grownCap w n 0 e≤maxLen:=grownCap_le_maxLen w n 0 e hn.1
 have hzc:(Builtin.zeroCells z'.cells n).size=n*s:=by rw[size_zeroCells,hzs]
 have hown:(w.drew.alloc (.cells (Builtin.zeroCells z'.cells n++Builtin.zeroCells z'.cells (grownCap w n 0 e - n)) e)).ownsRow base e s (.slice (some ⟨w.heap.size,0,none⟩) n (grownCap w n 0 e)) n (Builtin.zeroCells z'.cells n).toList:=by
  refine⟨by rw[Array.length_toList,hzc],.inr ⟨w.heap.size,_,_,rfl,hS.bl,heap_alloc_new w.drew _,hge,hcm,?_,?_⟩⟩
  ·simp only[Array.size_append,size_zeroCells,hzs,←Nat.add_mul]
   congr 1
   omega
  ·simp only[Array.toList_append]
   rw[←hzc,←Array.length_toList]
   exact List.take_left
 have hg:w.grownBy (w.drew.alloc (.cells (Builtin.zeroCells z'.cells n++Builtin.zeroCells z'.cells (grownCap w n 0 e - n)) e)) none:=⟨rfl,rfl,rfl,by simp,fun k hk _=>heap_alloc_old w.drew _ hk⟩
 have hR:aw E w (Builtin.zeroCells z'.cells n).toList (db (z.map .raw) n):=by
  rw[←hzz];exact jG z'.cells n (n*z'.cells.size) rfl
 obtain⟨a1,a2,a3,a4⟩:=kc hS (i7 hg) (fun b h=>by simp[aB]at h;omega) hown hR
 exact⟨_,_,_,.inl hr,a1,a2,a3,a4⟩
end
end PW
end Go.Proofs.YtnegbdpggideiaaDoor
namespace Go.Proofs.YtnegbdpggideiaaDoor
namespace PW
open Go.RowKit aN Mem Net eB
theorem kC(l:List Int)(hl:l.length≤1000):Can Tryd.prog 73 [aJ l] (· =aJ l):=by
 refine aI Tryd.func73 rfl Tryd.ntmps73 rfl<|af (.a 1 rfl<|.k [0] rfl)<|ak<|aX (WR.mono (K:=fun s=>∃b:Bool,s=⟨[(0,aJ l),(4,.raw (.bool b))],[]⟩∧(b=true→l=[])) ?_ ?_)
 ·cases l with
  |nil=>exact av 1 rfl<|qM rfl yG rfl rfl rfl rfl rfl fun b=>aQ [0,4] rfl ⟨b,rfl,fun _=>rfl⟩
  |cons a l=>exact av 1 rfl<|aE (nH rfl yG rfl rfl (Nat.succ_pos _)) rfl rfl rfl<|aQ [0,4] rfl ⟨_,rfl,fun h=>by cases h⟩
 rintro _ ⟨b,rfl,hb⟩
 refine ag rfl (fun hc=>?_) (fun hc=>?_)
 ·have:l=[]:=hb hc
  subst this
  exact af (.a 1 rfl<|.k [2] rfl)<|an<|⟨_,_,ax.of rfl,ay.bY,rfl⟩
 ·refine ai<|aX<|dJ (jn rfl (cb.sl.get rfl)) rfl<|av 1 rfl<|dJ (ct rfl (cb.rk.get rfl) rfl rfl rfl (show(aG l).length=l.length*1 by simp[aG]) (by unfold maxLen;omega)) rfl<|av 1 rfl<|aQ [2] rfl ?_
  refine an<|⟨_,_,ax.of rfl,ay.gZ (xs:=aG l) (ys:=aG l) rfl al.pure,?_⟩
  rw[Nat.zero_add];rfl
theorem rQ(n:Nat)(hn:n≤1000):bQ Tryd.prog 96 [.raw (.slice none 0 0),num n] [] (fun r σ'=>r= .own 0∧σ'=[some (.row 32 2 0 [])]):=by
 refine cL Tryd.func96 rfl Tryd.ntmps96 rfl<|af (.a 1 rfl<|.k [0,1] rfl)<|ak<|af (.a 2 rfl<|.k [0,1,6] rfl)<|ag rfl (fun h1=>?_) (fun h1=>?_)
 ·exact absurd (tt h1) (by omega)
 ·clear h1
  refine ai<|ak<|af (.a 2 rfl<|.v (nQ rfl (cb.el.get rfl) rfl) rfl<|.a 1 rfl<|.v (lf rfl (cb.el.get rfl) rfl) rfl<|.v (bf rfl) rfl<|.v (bf rfl) rfl<|.a 1 rfl<|.k [0,1] rfl)<|af (.a 2 rfl<|.k [0,1,16] rfl)<|ag rfl (fun h2=>?_) (fun h2=>?_)
  ·have hpos:0<n:=by have:=tt h2;omega
   refine bK<|av 2 rfl<|bZ (nQ rfl (cb.el.get rfl) rfl) rfl<|bZ (pM rfl (cb.el.get rfl) rfl rfl) rfl<|av 1 rfl<|dJ (rT (n:=n) rfl (cb.rk.get rfl) Tryd.underlying3 rfl rfl (by omega) hpos (by unfold maxLen;omega)) rfl<|av 1 rfl<|bZ (lf rfl (cb.el.get rfl) rfl) rfl<|dJ (iU (h:=0) rfl (cb.el.get rfl) rfl rfl rfl rfl (by omega)) rfl<|av 1 rfl<|aQ [0] rfl ?_
   refine dO [1] (.c 0<|.nil) (.kept rfl (.row aL.nil)<|.nil) rfl rfl ?_
   exact af (.a 2 rfl<|.k [4] rfl)<|an<|⟨_,ax.of rfl,rfl,rfl⟩
  ·refine kd 0 32 2 rfl ?_
   exact ai<|af (.a 2 rfl<|.k [4] rfl)<|an<|⟨_,ax.of rfl,rfl,rfl⟩
def kU(A B:List bL)(i:Nat):List bL:=if i=0 then [] else if i=1 then A else A++B
def vq(A B:List bL)(i:Nat):List bL:=if i=0 then A else B
theorem oe(A B:List bL){i:Nat}(h:i<2):kU A B (i+1)=kU A B i++vq A B i:=by
 rcases(show i=0∨i=1 by omega)with rfl|rfl<;>rfl
theorem ki(A B:List bL)(i:Nat):(kU A B i).length≤A.length+B.length:=by
 unfold kU
 split
 ·simp
 ·split<;>simp
theorem jW(A B:List bL)(hl:A.length+B.length≤1000):Can Tryd.prog 85 [.slice 2 [bD A,bD B]] (· =bD (A++B)):=by
 refine aI Tryd.func85 rfl Tryd.ntmps85 rfl ?_
 have hg:=rQ (A++B).length (by simpa using hl)
 refine af (.a 1 rfl<|.k [0] rfl)<|af (.a 1 rfl<|.k [0,3] rfl)<|ak<|af (.a 3 rfl<|.k [0,3,9,10,11] rfl)<|aq<|iC [0,3,9,10,11] rfl<|br (fun r s=>∃i,i≤2∧r=2 - i∧s=⟨[(0,.slice 2 [bD A,bD B]),(3,num (kU A B i).length),(9,.slice 2 [bD A,bD B]),(10,num 2),(11,num i)],[]⟩) 2 ⟨0,by omega,by omega,rfl⟩ ?_
 rintro r s ⟨i,hi,rfl,rfl⟩
 refine af (.a 1 rfl<|.k [0,3,9,10,11,12] rfl)<|ak<|ag rfl (fun h1=>?_) (fun h1=>?_)
 ·have hlt:i<2:=by have:=tt h1;omega
  have hc1:=ki A B i
  have hc2:=ki A B (i+1)
  have hst:=congrArg List.length (oe A B hlt)
  rw[List.length_append]at hst
  have hget:[bD A,bD B][i]? =some (bD (vq A B i)):=by
   rcases(show i=0∨i=1 by omega)with rfl|rfl<;>rfl
  clear h1
  refine ai<|ak<|aq<|af (.v (aR (i) rfl) rfl<|.v (aO rfl (hget)) rfl<|.a 1 rfl<|.k [0,3,5,9,10,11] rfl)<|af (.a 3 rfl<|.v (bf rfl (hc:=(show((kU A B i).length:Int)+((vq A B i).length:Int)=((kU A B (i+1)).length:Int) by omega)) (hn:=(by unfold In64;omega))) rfl<|.a 1 rfl<|.k [0,3,9,10,11] rfl)<|af (.a 2 rfl<|.k [0,3,9,10,11,20] rfl)<|ag rfl (fun h2=>?_) (fun h2=>?_)
  ·exact absurd (tt h2) (by omega)
  ·clear h2
   refine ai<|aF (.v (bf rfl) rfl<|.a 1 rfl<|.k [0,3,9,10,11] rfl) ?_
   exact⟨2 - (i+1),by omega,i+1,by omega,rfl,rfl⟩
 ·have hie:i=2:=by have:=ff h1;omega
  subst hie
  have hcat:kU A B 2=A++B:=rfl
  rw[hcat]
  clear h1
  refine bn<|aX<|av 1 rfl<|cG rfl rfl (bQ.mono hg (fun r σ' h=>?_))
  obtain⟨rfl,rfl⟩:=h
  refine av 1 rfl<|aQ [0,6] rfl ?_
  refine ak<|af (.a 3 rfl<|.k [6,25,26,27] rfl)<|aq<|iC [6,25,26,27] rfl<|br (fun r s=>∃i,i≤2∧r=2 - i∧s=⟨[(6,.own 0),(25,.slice 2 [bD A,bD B]),(26,num 2),(27,num i)],[some (.row 32 2 (kU A B i).length (dj (kU A B i)))]⟩) 2 ⟨0,by omega,by omega,rfl⟩ ?_
  rintro r s ⟨i,hi,rfl,rfl⟩
  refine af (.a 1 rfl<|.k [6,25,26,27,28] rfl)<|ak<|ag rfl (fun h1=>?_) (fun h1=>?_)
  ·have hlt:i<2:=by have:=tt h1;omega
   have hc1:=ki A B i
   have hc2:=ki A B (i+1)
   have hst:=oe A B hlt
   have hsl:=congrArg List.length hst
   rw[List.length_append]at hsl
   have hget:[bD A,bD B][i]? =some (bD (vq A B i)):=by
    rcases(show i=0∨i=1 by omega)with rfl|rfl<;>rfl
   clear h1
   refine ai<|ak<|aq<|af (.v (aR (i) rfl) rfl<|.v (aO rfl (hget)) rfl<|.a 1 rfl<|.k [6,8,25,26,27] rfl)<|bK<|av 2 rfl<|dJ (ct rfl (cb.rk.get rfl) rfl rfl rfl (gU _) (show _≤maxLen∧_*16≤140737488355328 by unfold maxLen;omega)) rfl<|av 1 rfl ?_
   refine gm [1] (.c 6<|.c 25<|.c 26<|.c 27<|.nil) (.kept rfl (.eR rfl (rfl))<|.nil) rfl rfl (aH ?_)
   refine aF (.v (bf rfl) rfl<|.a 1 rfl<|.k [6,25,26,27] rfl) ?_
   refine⟨2 - (i+1),by omega,i+1,by omega,rfl,?_⟩
   rw[hst,List.length_append]
   unfold dj
   rw[List.flatMap_append]
   rfl
  ·have hie:i=2:=by have:=ff h1;omega
   subst hie
   have hcat:kU A B 2=A++B:=rfl
   rw[hcat]
   clear h1
   exact bn<|af (.a 2 rfl<|.k [2] rfl)<|an<|⟨_,_,ax.of rfl,ay.gZ rfl al.pure,rfl⟩
end PW
end Go.Proofs.YtnegbdpggideiaaDoor
namespace Go.Proofs.YtnegbdpggideiaaDoor
namespace PW
open Go.RowKit aN Mem Net
theorem uK{E:Env}{w:World}{v:Value}{L:List Int}(h:bC E w v (aJ L)):kb.vH w v L:=by
 unfold aJ at h
 generalize hp:PV.slice L.length (aG L)=p at h
 cases h with
 |bY=>
  injection hp with h1 h2
  have:L=[]:=List.eq_nil_of_length_eq_zero h1
  subst this
  exact .inl ⟨rfl,rfl,.inl rfl⟩
 |empty a c hc=>
  injection hp with h1 h2
  have:L=[]:=List.eq_nil_of_length_eq_zero h1
  subst this
  exact .inl ⟨rfl,rfl,.inr ⟨a,c,rfl,hc⟩⟩
 |slice b off n c cs xs h0 h1 h2 hb hM hc hl hr=>
  injection hp with e1 e2
  subst e1 e2
  refine .inr ⟨h0,b,off,c,rfl,h1,h2,fun i u hu=>?_⟩
  have hi:i<L.length:=by have:=(List.getElem?_eq_some_iff.1 hu).1;simpa[Mem.ints]using this
  have hil:i<cs.length:=by rw[hl];simpa[aG]using hi
  have hx:=hr i _ _ (List.getElem?_eq_getElem hil) (au L i hi)
  have hy:=dI hx
  rw[kb.au L i hi]at hu
  cases hu
  rw[hc i _ (List.getElem?_eq_getElem hil),hy]
  rfl
 |_=>cases hp
theorem x7{E:Env}{w:World}{vs:Array Value}{p q r:PV}(h:aw E w vs.toList [p,q,r]):∃v u x,vs= #[v,u,x]∧bC E w v p∧bC E w u q∧bC E w x r:=by
 obtain⟨vs⟩:=vs
 obtain⟨hl,hr⟩:=h
 match vs,hl with
 | [v,u,x],_=>exact⟨v,u,x,rfl,hr 0 _ _ rfl rfl,hr 1 _ _ rfl rfl,hr 2 _ _ rfl rfl⟩
theorem xK{E:Env}{w:World}{vs:Array Value}{p q r s:PV}(h:aw E w vs.toList [p,q,r,s]):∃v u x y,vs= #[v,u,x,y]∧bC E w v p∧bC E w u q∧bC E w x r∧bC E w y s:=by
 obtain⟨vs⟩:=vs
 obtain⟨hl,hr⟩:=h
 match vs,hl with
 | [v,u,x,y],_=>exact⟨v,u,x,y,rfl,hr 0 _ _ rfl rfl,hr 1 _ _ rfl rfl,hr 2 _ _ rfl rfl,hr 3 _ _ rfl rfl⟩
theorem oN(f n:Int)(L:List Int):Can Tryd.prog 16 [num f,num n,aJ L] (· =num (kb.choose f n L)):=fun F w vs hF hG hR=>by
 obtain⟨v0,v1,v2,rfl,h0,h1,h2⟩:=x7 hR
 cases dI h0
 cases dI h1
 refine(kb.iA f n v2 L w (uK h2)).mono ?_
 rintro e w1 ⟨x,rfl,hE,rfl⟩
 exact⟨_,rfl,hE,_,rfl,.raw _⟩
theorem kJ:Can Tryd.prog 10 [] (· =flag true):=fun F w vs hF hG hR=>by
 obtain⟨vs⟩:=vs
 obtain⟨hl,_⟩:=hR
 match vs,hl with
 | [],_=>
  refine(kb.r6 w).mono ?_
  rintro e w1 ⟨x,rfl,hE,rfl⟩
  exact⟨_,rfl,hE,_,rfl,.raw _⟩
theorem qX(f n:Int)(L:List Int)(hL:L.length≤1000)(hne:L≠[]):Can Tryd.prog 15 [num f,num n,aJ L] (fun r=>∃i:Nat,i<L.length∧r=num i):=by
 have hch:=oN f n L
 have hmem:=(kb.choose_spec f n L hne).1
 obtain⟨c,hc⟩:∃c,kb.choose f n L=c:=⟨_,rfl⟩
 rw[hc]at hch hmem
 refine aI Tryd.func15 rfl Tryd.ntmps15 rfl<|af (.a 1 rfl<|.k [0,1,2] rfl)<|af (.a 3 rfl<|.c rfl (hch) rfl<|.a 1 rfl<|.k [2,7] rfl)<|ak<|af (.a 3 rfl<|.k [2,7,14,15] rfl)<|aq<|iC [2,7,14,15] rfl<|br (fun r s=>∃k,k≤L.length∧r=L.length - k∧(∀j,j<k→L.getD j 0≠c)∧s=⟨[(2,aJ L),(7,num c),(14,num L.length),(15,num k)],[]⟩) L.length ⟨0,by omega,by omega,fun j hj=>by omega,rfl⟩ ?_
 rintro r s ⟨k,hk,rfl,hno,rfl⟩
 refine af (.a 1 rfl<|.k [2,7,14,15,16] rfl)<|ak<|ag rfl (fun h1=>?_) (fun h1=>?_)
 ·have hlt:k<L.length:=by have:=tt h1;omega
  obtain⟨q,hq⟩:∃q,decide (L.getD k 0=c)=q:=⟨_,rfl⟩
  refine ai<|ak<|aq<|af (.a 2 rfl<|.k [2,7,8,14,15] rfl)<|af (.a 2 rfl<|.v (aR (k) rfl) rfl<|.v (aO rfl (au L k hlt)) rfl<|.a 1 rfl<|.v (bT rfl (hq)) rfl<|.k [2,7,8,14,15,23] rfl)<|ag rfl (fun h2=>?_) (fun h2=>?_)
  ·skip
   exact af (.a 2 rfl<|.k [6] rfl)<|an<|⟨_,_,ax.of rfl,ay.pure,k,hlt,rfl⟩
  ·have hnk:L.getD k 0≠c:=by rw[h2]at hq;exact ff hq
   refine ai<|aF (.v (bf rfl) rfl<|.a 1 rfl<|.k [2,7,14,15] rfl) ?_
   refine⟨L.length - (k+1),by omega,k+1,by omega,rfl,fun j hj=>?_,rfl⟩
   by_cases e:j=k
   ·subst e;exact hnk
   ·exact hno j (by omega)
 ·have hke:k=L.length:=by have:=ff h1;omega
  obtain⟨j,hj,hjc⟩:=List.getElem_of_mem hmem
  exact absurd (by rw[List.getD_eq_getElem?_getD,List.getElem?_eq_getElem hj];exact hjc) (hno j (by omega))
theorem sE(p:Addr)(w:World):CallsD Tryd.prog 72 #[.pointer (some p)] .returning w fun e u' w'=>e= .returned (.tuple #[])∧u'= .returning∧w'=w:=by
 refine callsD_of_wpS Tryd.func72 rfl fun c₀ cs hu=>?_
 apply wpS_seq
 apply wpS_region
 simp[wpOpsS,go_sem,recoverD,hu,Tryd.ntmps72,Exit.thenS]
 refine wpS_cond (t:=false) (by simp[Act.eval,Array.replicate]) ?_
 simp only[Bool.false_eq_true,if_false]
 refine wpS_of_wp (wp_skip ?_)
 cases c₀
 simp_all[bodyPostS,results,Tryd.results72]
theorem uU(f n:Int)(L:List Int)(hL:L.length≤1000)(hne:L≠[]):Can Tryd.prog 35 [.func 15 [],num f,num n,aJ L] (fun r=>∃i:Nat,i<L.length∧r=num i):=fun F w vs hF hG hR=>by
 obtain⟨v0,v1,v2,v3,rfl,h0,h1,h2,h3⟩:=xK hR
 cases dI h1
 cases dI h2
 obtain⟨cs,rfl,hcs⟩:∃cs:Array Value,v0= .func (.func 15) #[] cs∧cs= #[]:=by
  cases h0 with
  |func f cs xs hl hr=>exact⟨cs,rfl,by cases cs;simp at hl;simp[hl]⟩
 subst hcs
 have hmf:∀(fn:Fn) (first cap:Array Value) (w:World),(Instr.makeFunc fn first cap).run Tryd.prog w= .ok (.func fn first cap) w:=fun _ _ _ _=>rfl
 have hcl:=kC L hL
 have hfc:=qX f n L hL hne
 go_enter_defers Tryd.func35,Tryd.ntmps35
 go_wp2_with fail
 have hE1:Ext w (w.alloc (Obj.cells #[Value.int IntKind.i64 0] 3)):=(Ext.refl w).alloc _
 refine(hcl F _ #[v3] (fun b hb=>Nat.lt_of_lt_of_le (hF b hb) hE1.size) (hG.goes (E:=EF F) (E':=EF F) (.ext hE1)) (aw.one (h3.ext hE1))).mono ?_
 rintro e w1 ⟨v,rfl,hE2,r,rfl,hr⟩
 go_wp2_with fail
 have hE12:=hE1.trans hE2
 refine(hfc F _ #[.int .i64 f,.int .i64 n,v] (fun b hb=>Nat.lt_of_lt_of_le (hF b hb) hE12.size) (hG.goes (E:=EF F) (E':=EF F) (.ext hE12)) (aw.cons (.raw _)<|aw.cons (.raw _)<|aw.cons hr<|aw.nil _ _)).mono ?_
 rintro e w2 ⟨v2,rfl,hE3,r2,⟨i,hi,rfl⟩,hr2⟩
 cases dI hr2
 have hE23:=hE2.trans hE3
 have hnew:(w.alloc (Obj.cells #[Value.int IntKind.i64 0] 3)).cell? ⟨w.heap.size,0,none⟩=some (.int .i64 0):=by simp[go_sem]
 have hcell:=hE23.cell hnew
 have hlt:w.heap.size<(w.alloc (Obj.cells #[Value.int IntKind.i64 0] 3)).heap.size:=aN.Ext.lt hnew
 have hfz:w2.frozen? ⟨w.heap.size,0,none⟩=false:=by
  have:=Below.frozen hE23 (p:=⟨w.heap.size,0,none⟩) hlt
  rw[this]
  simp[go_sem]
 go_wp2_with fail
 refine leaves_cons (f:=72) (args:= #[.pointer (some ⟨w.heap.size,0,none⟩)]) (by simp) (by simp[go_sem]) ?_
 refine(sE _ _).mono ?_
 rintro e u' w'' ⟨rfl,rfl,rfl⟩
 have hE:Ext w (w2.setCell ⟨w.heap.size,0,none⟩ (.int .i64 (i:Int))):=Below.setCell (hE1.trans hE23) (Nat.le_refl _) _
 have hcc:(w2.setCell ⟨w.heap.size,0,none⟩ (.int .i64 (i:Int))).cell? ⟨w.heap.size,0,none⟩=some (.int .i64 (i:Int)):=by apply World.cell?_setCell_same;exact hcell
 simp[Leaves,settle,results,Tryd.results35,go_sem,hcc]
 exact⟨_,rfl,hE,_,⟨i,hi,rfl⟩,.raw _⟩
end PW
end Go.Proofs.YtnegbdpggideiaaDoor
namespace Go.Proofs.YtnegbdpggideiaaDoor
namespace PW
open Go.RowKit aN Mem Net eB
def vT(v:Int):List Int→Nat→Int
 | [],_=> -1
 |a::l,i=>bif decide (v=a) then(i:Int) else vT v l (i+1)
theorem qk(v:Int):∀(l:List Int) (i:Nat),0≤vT v l i↔v∈l
 | [],i=>by simp[vT]
 |a::l,i=>by
  simp only[vT]
  by_cases h:v=a
  ·rw[decide_eq_true h,cond_true]
   exact⟨fun _=>by rw[h];exact List.mem_cons_self,fun _=>by omega⟩
  ·rw[decide_eq_false h,cond_false,qk v l (i+1),List.mem_cons]
   exact⟨.inr,fun h'=>h'.resolve_left h⟩
theorem uN(v:Int)(l:List Int)(i:Nat):decide (0≤vT v l i)=decide (v∈l):=decide_eq_decide.2 (qk v l i)
theorem pK(l:List Int)(v:Int)(hl:l.length≤1000):Can Tryd.prog 84 [aJ l,num v] (· =num (vT v l 0)):=by
 refine aI Tryd.func84 rfl Tryd.ntmps84 rfl<|af (.a 1 rfl<|.k [0,1] rfl)<|ak<|af (.a 3 rfl<|.k [0,1,7,8] rfl)<|aq<|iC [0,1,7,8] rfl<|br (fun r s=>∃i,i≤l.length∧r=l.length - i∧vT v l 0=vT v (l.drop i) i∧s=⟨[(0,aJ l),(1,num v),(7,num l.length),(8,num i)],[]⟩) l.length ⟨0,by omega,by omega,rfl,rfl⟩ ?_
 rintro r s ⟨i,hi,rfl,hx,rfl⟩
 refine af (.a 1 rfl<|.k [0,1,7,8,9] rfl)<|ak<|ag rfl (fun h1=>?_) (fun h1=>?_)
 ·have hlt:i<l.length:=by have:=tt h1;omega
  rw[drop_cons l i hlt]at hx
  simp only[vT]at hx
  obtain⟨q,hq⟩:∃q,decide (v=l.getD i 0)=q:=⟨_,rfl⟩
  rw[hq]at hx
  refine ai<|ak<|aq<|af (.a 2 rfl<|.k [0,1,5,7,8] rfl)<|af (.a 3 rfl<|.v (aR (i) rfl) rfl<|.v (aO rfl (au l i hlt)) rfl<|.v (bT rfl (hq)) rfl<|.k [0,1,5,7,8,16] rfl)<|ag rfl (fun h2=>?_) (fun h2=>?_)
  ·subst h2
   rw[cond_true]at hx
   rw[hx]
   exact af (.a 2 rfl<|.k [4] rfl)<|an<|⟨_,_,ax.of rfl,ay.pure,rfl⟩
  ·subst h2
   rw[cond_false]at hx
   refine ai<|aF (.v (bf rfl) rfl<|.a 1 rfl<|.k [0,1,7,8] rfl) ?_
   exact⟨l.length - (i+1),by omega,i+1,by omega,rfl,hx,rfl⟩
 ·have hie:i=l.length:=by have:=ff h1;omega
  subst hie
  rw[List.drop_length]at hx
  rw[hx]
  exact bn<|af (.a 1 rfl<|.k [4] rfl)<|an<|⟨_,_,ax.of rfl,ay.pure,rfl⟩
theorem lG(l:List Int)(v:Int)(hl:l.length≤1000):Can Tryd.prog 69 [aJ l,num v] (· =flag (decide (v∈l))):=by
 obtain⟨q,hq⟩:∃q,decide (v∈l)=q:=⟨_,rfl⟩
 have hm:=(uN v l 0).trans hq
 rw[hq]
 exact aI Tryd.func69 rfl Tryd.ntmps69 rfl<|af (.a 1 rfl<|.k [0,1] rfl)<|af (.a 2 rfl<|.c rfl (pK l v hl) rfl<|.v (bT rfl (hm)) rfl<|.a 1 rfl<|.k [4] rfl)<|an<|⟨_,_,ax.of rfl,ay.pure,rfl⟩
structure fQ where
 id:Int
 src:Int
 dst:Int
 b7:Int
 stack:List bL
 dp:Int
def cR(p:fQ):List PV:=[num p.id,num p.src,num p.dst,num p.b7,bD p.stack,num p.dp]
def cV(p:fQ):PV:=.agg (cR p)
instance (p:fQ):ao (cR p):=by unfold cR;infer_instance
instance (p:fQ):IsPure (cV p):=by unfold cV;infer_instance
structure Out where
 aW:List Int
 uL:fQ
 xl:Int
def uR(r:Out):PV:=.tuple [aJ r.aW,cV r.uL,num r.xl]
def ee(p:fQ)(r:Int):Out:=⟨[],p,r⟩
def dZ(p:fQ)(s:List bL)(aW:List Int):Out:=⟨aW,⟨p.id,p.src,p.dst,p.b7,s,p.dp+1⟩,0⟩
def eL(p:fQ)(s:List bL)(e:gV):Out:=
 if e.rep then(if 32<(e.push++s.drop 1).length then ee p 5 else dZ p (e.push++s.drop 1) e.aW) else dZ p s e.aW
theorem lj(p:fQ)(s:List bL)(hl:s.length≤1000):Can Tryd.prog 66 [cV p,bD s] (· =cV ⟨p.id,p.src,p.dst,p.b7,s,p.dp⟩):=by
 refine aI Tryd.func66 rfl Tryd.ntmps66 rfl<|aX<|dJ (iG rfl rfl rfl) rfl<|av 1 rfl<|aQ [1,2,4] rfl ?_
 refine aX<|av 1 rfl<|fu rfl (oM s hl) rfl<|av 2 rfl<|aQ [2,4] rfl ?_
 refine aX<|av 2 rfl<|aQ [4] rfl ?_
 exact an<|⟨_,_,ax.of rfl,ay.pure (p:=cV ⟨p.id,p.src,p.dst,p.b7,s,p.dp⟩),rfl⟩
theorem dw(p:fQ)(r:Int)(hl:p.stack.length≤1000):Can Tryd.prog 65 [cV p,num r] (· =uR (ee p r)):=by
 refine aI Tryd.func65 rfl Tryd.ntmps65 rfl<|aX<|av 4 rfl<|aQ [1,2,5] rfl ?_
 refine aX<|av 2 rfl<|bZ (aO rfl ((rfl:(cR p)[4]? =some (bD p.stack)))) rfl<|fu rfl (lj p p.stack hl) rfl<|av 4 rfl<|aQ [4,5,6] rfl ?_
 exact an<|⟨_,_,ax.of rfl,ay.bq (al.cons ay.bY<|al.cons (ay.pure (p:=cV p))<|al.cons ay.pure al.nil),rfl⟩
theorem gG(p:fQ)(s:List bL)(aW:List Int)(hl:s.length≤1000)(ha:aW.length≤1000)(hh:0≤p.dp∧p.dp≤1000):Can Tryd.prog 70 [cV p,bD s,aJ aW] (· =uR (dZ p s aW)):=by
 refine aI Tryd.func70 rfl Tryd.ntmps70 rfl<|aX<|dJ (iG rfl rfl rfl) rfl<|av 3 rfl<|aQ [1,2,3,7] rfl ?_
 refine aX<|av 2 rfl<|fu rfl (lj p s hl) rfl<|av 1 rfl<|aQ [2,3,7] rfl ?_
 refine aX<|av 2 rfl<|bZ (bf rfl (hn:=(show In64 (p.dp+1) by unfold In64;omega))) rfl<|av 2 rfl<|aQ [2,3,7] rfl ?_
 refine jY 4 20 mixed (
  .val [2] rfl (bp rfl) rfl rfl<|
  .val [16] rfl (j8 rfl (kC aW ha)) rfl rfl<|
  .val [3] rfl (bp rfl) rfl rfl<|
  .val [17] rfl (bp rfl) rfl rfl<|
  .nil) (by kernel_rfl) rfl rfl (bm (ks:=[6,7,18]) rfl) ?_
 refine av 2 rfl<|aQ [6,7,8] rfl ?_
 exact an<|⟨_,_,ax.of rfl,ay.bq (al.cons (ay.pure (p:=aJ aW))<|al.cons (ay.pure (p:=cV ⟨p.id,p.src,p.dst,p.b7,s,p.dp+1⟩))<|al.cons ay.pure al.nil),rfl⟩
end PW
end Go.Proofs.YtnegbdpggideiaaDoor
namespace Go.Proofs.YtnegbdpggideiaaDoor
namespace PW
open Go.RowKit aN Mem Net eB
theorem mw{T:ab}{n:Int}{L:List Int}(hl:T.aa.length≤256)(h:dW T n L=true):L.length≤512:=by
 have h:=of_decide_eq_true h
 have key:∀i:Nat,i<L.length→(i:Int)≤L.getD i 0:=by
  intro i
  induction i with
  |zero=>intro hi;have:=(bR.1 (h 0 hi).1).1;omega
  |succ i ih=>
   intro hi
   have h1:=ih (by omega)
   have h2:=(h (i+1) hi).2.2 (by omega)
   rw[Nat.add_sub_cancel]at h2
   omega
 rcases Nat.eq_zero_or_pos L.length with h0|h0
 ·omega
 ·have h1:=key (L.length - 1) (by omega)
  have h2:=bR.1 (h (L.length - 1) (by omega)).1
  omega
theorem mn(p:fQ)(s:List bL)(e:gV)(hs:s.length≤40)(hp:e.push.length≤40)(ha:e.aW.length≤1000)(hps:p.stack.length≤1000)(hh:0≤p.dp∧p.dp≤1000):Can Tryd.prog 71 [cV p,bD s,vm e] (· =uR (eL p s e)):=by
 obtain⟨c,hc⟩:∃q,e.rep=q:=⟨_,rfl⟩
 have hE:eL p s e=if c then(if 32<(e.push++s.drop 1).length then ee p 5 else dZ p (e.push++s.drop 1) e.aW) else dZ p s e.aW:=by unfold eL;rw[hc]
 rw[hE]
 refine aI Tryd.func71 rfl Tryd.ntmps71 rfl<|aX<|av 5 rfl<|aQ [1,3,5,7] rfl ?_
 refine ak<|af (.a 1 rfl<|.v (aO rfl ((show(j9 e)[1]? =some (flag c) by rw[←hc];rfl))) rfl<|.k [1,3,5,7,11] rfl)<|ag rfl (fun h1=>?_) (fun h1=>?_)
 ·subst h1
  simp only[if_true]
  refine af (.a 2 rfl<|.k [3,5,7,9] rfl)<|ak<|af (.a 3 rfl<|.k [3,5,7,9,15] rfl)<|ag rfl (fun h2=>?_) (fun h2=>?_)
  ·obtain⟨a,l,rfl⟩:∃a l,s=a::l:=by
    cases s with
    |nil=>exact absurd (tt h2) (by simp)
    |cons a l=>exact⟨a,l,rfl⟩
   simp only[List.drop_succ_cons,List.drop_zero]
   obtain⟨s',hs',hsl⟩:∃s',l=s'∧s'.length≤40:=⟨l,rfl,by simp at hs;omega⟩
   refine aF (.a 1 rfl<|.v (jv rfl (cb.el.get rfl) rfl rfl) rfl<|.a 1 rfl<|.k [3,5,7,9] rfl) ?_
   rw[hs']
   refine af (.a 4 rfl<|.c rfl (jW e.push s' (by omega)) rfl<|.a 1 rfl<|.k [1,3,5,7] rfl)<|af (.a 3 rfl<|.k [1,3,5,7,25] rfl)<|ag rfl (fun h3=>?_) (fun h3=>?_)
   ·have h3:=tt h3
    rw[if_pos (by omega)]
    refine aX<|av 1 rfl<|fu rfl (dw p 5 hps) rfl<|av 6 rfl<|aQ [6,7,8] rfl ?_
    exact an<|⟨_,_,ax.of rfl,ay.bq (al.cons (ay.pure (p:=aJ []))<|al.cons (ay.pure (p:=cV p))<|al.cons ay.pure al.nil),rfl⟩
   ·have h3:=ff h3
    rw[if_neg (by omega)]
    refine ai<|aX<|av 4 rfl<|fu rfl (gG p _ e.aW (by first|(simp only[List.length_append];omega)|omega) ha hh) rfl<|av 6 rfl<|aQ [6,7,8] rfl ?_
    exact an<|⟨_,_,ax.of rfl,ay.bq (al.cons (ay.pure (p:=aJ e.aW))<|al.cons (ay.pure (p:=cV ⟨p.id,p.src,p.dst,p.b7,_,p.dp+1⟩))<|al.cons ay.pure al.nil),rfl⟩
  ·obtain rfl:s=[]:=by
    cases s with
    |nil=>rfl
    |cons a l=>exact absurd (ff h2) (by simp)
   simp only[List.drop_nil]
   obtain⟨s',hs',hsl⟩:∃s',([]:List bL)=s'∧s'.length≤40:=⟨[],rfl,by simp⟩
   refine ai ?_
   rw[hs']
   refine af (.a 4 rfl<|.c rfl (jW e.push s' (by omega)) rfl<|.a 1 rfl<|.k [1,3,5,7] rfl)<|af (.a 3 rfl<|.k [1,3,5,7,25] rfl)<|ag rfl (fun h3=>?_) (fun h3=>?_)
   ·have h3:=tt h3
    rw[if_pos (by omega)]
    refine aX<|av 1 rfl<|fu rfl (dw p 5 hps) rfl<|av 6 rfl<|aQ [6,7,8] rfl ?_
    exact an<|⟨_,_,ax.of rfl,ay.bq (al.cons (ay.pure (p:=aJ []))<|al.cons (ay.pure (p:=cV p))<|al.cons ay.pure al.nil),rfl⟩
   ·have h3:=ff h3
    rw[if_neg (by omega)]
    refine ai<|aX<|av 4 rfl<|fu rfl (gG p _ e.aW (by first|(simp only[List.length_append];omega)|omega) ha hh) rfl<|av 6 rfl<|aQ [6,7,8] rfl ?_
    exact an<|⟨_,_,ax.of rfl,ay.bq (al.cons (ay.pure (p:=aJ e.aW))<|al.cons (ay.pure (p:=cV ⟨p.id,p.src,p.dst,p.b7,_,p.dp+1⟩))<|al.cons ay.pure al.nil),rfl⟩
 ·subst h1
  simp only[Bool.false_eq_true,if_false]
  refine ai<|aX<|av 4 rfl<|fu rfl (gG p _ e.aW (by first|(simp only[List.length_append];omega)|omega) ha hh) rfl<|av 6 rfl<|aQ [6,7,8] rfl ?_
  exact an<|⟨_,_,ax.of rfl,ay.bq (al.cons (ay.pure (p:=aJ e.aW))<|al.cons (ay.pure (p:=cV ⟨p.id,p.src,p.dst,p.b7,_,p.dp+1⟩))<|al.cons ay.pure al.nil),rfl⟩
def cu(x:eS)(v:Int):gV:=x.cI.getD v.toNat wO
def ib(h:bL):List bL→List bL
 | []=>[]
 |a::l=>if a=h then ib h l else a::l
def xa(T:ab)(x:eS)(p:fQ)(s:List bL)(v:Int)(K:Out):Out:=if(aS T v&&decide (0<((cu x v).aW.length:Int)))=true then eL p s (cu x v) else K
def dA(T:ab)(x:eS)(p:fQ)(s:List bL)(K:Out):Out:=
 if(decide ((s.length:Int)=0)&&decide (p.dst=x.node))=true then⟨[],⟨p.id,p.src,p.dst,p.b7,[],p.dp⟩, -1⟩
 else if(decide (255≤p.dp)||decide (p.dp<0))=true then ee p 4
 else match s with
  | []=>xa T x p [] p.dst (ee p 1)
  |a::l=>if a.kind=1 then xa T x p (a::l) a.num K
   else if a.kind=2 then(if(!(cX T a.num)||decide (bb T a.num.toNat≠x.node))=true then ee p 2 else if a.num∈x.down then K else dZ p l [a.num])
   else ee p 1
def eQ(T:ab)(x:eS)(p:fQ):Out:=
 if((!de T x)|| !(aS T p.dst))=true then ee p 1
 else if 32<(p.stack.length:Int) then ee p 5
 else dA T x p (ib ⟨1,x.node⟩ p.stack) (dA T x p [] (ee p 1))
theorem jA{T:ab}{x:eS}(h:de T x=true){v:Int}(hv:aS T v=true):∃k:Nat,v=(k:Int)∧x.cI[k]? =some (cu x v)∧(cu x v).push.length≤40∧(cu x v).aW.length≤1000:=by
 unfold de at h
 simp only[Bool.and_eq_true,decide_eq_true_eq]at h
 obtain⟨⟨⟨⟨h1,h2⟩,h3⟩,h4⟩,h5⟩:=h
 have hll:=bJ h1
 obtain⟨v0,v1⟩:=aV.1 hv
 obtain⟨k,rfl⟩:=Int.eq_ofNat_of_zero_le v0
 have hk:k<x.cI.length:=by omega
 have hg:x.cI[k]? =some (cu x (k:Int)):=by
  unfold cu
  rw[Int.toNat_natCast,List.getD_eq_getElem?_getD,List.getElem?_eq_getElem hk]
  rfl
 have ho:=(of_decide_eq_true h5) k hk
 rw[gW _ _ _ hg]at ho
 unfold jl at ho
 simp only[Bool.and_eq_true]at ho
 refine⟨k,rfl,hg,?_,?_⟩
 ·have:=ho.2
  split at this
  ·simp only[Bool.and_eq_true,decide_eq_true_eq]at this;omega
  ·simp only[decide_eq_true_eq]at this;omega
 ·have:=mw hll ho.1.1;omega
theorem o4{T:ab}{x:eS}(h:de T x=true):x.down.length≤1000:=by
 unfold de at h
 simp only[Bool.and_eq_true]at h
 have:=mw (bJ h.1.1.1.1) h.1.2
 omega
set_option maxHeartbeats 2000000 in
theorem tn(T : ab)(x : eS)(p : fQ)(hps : p.stack.length ≤ 1000) : Can Tryd.prog 34 [a6 T, mO x, cV p] (· = uR (eQ T x p)) := by
  obtain⟨c1,hc1⟩:∃q,de T x=q:=⟨_,rfl⟩
  obtain⟨c2,hc2⟩:∃q,aS T p.dst=q:=⟨_,rfl⟩
  obtain⟨n,hn⟩:∃n,x.node=n:=⟨_,rfl⟩
  unfold eQ
  rw[hc1,hc2]
  refine aI Tryd.func34 rfl Tryd.ntmps34 rfl<|aX<|av 6 rfl<|aQ [3,4,5,7] rfl ?_
  refine vO ?_
  refine ak<|aY 22 (.raw (.bool ((!c1)|| !c2))) [3,4,5,7] rfl ?_ ?_
  · refine .a 2 rfl<|.c rfl (hc1▸ko T x) rfl<|.a 2 rfl<|?_
    cases c1
    · exact .a 6 rfl<|.k [22,3,4,5,7] rfl
    · exact .a 3 rfl<|.c rfl (hc2▸cE T p.dst) rfl<|.a 2 rfl<|.k [22,3,4,5,7] rfl
  refine ag rfl (fun h1=>?_) (fun h1=>?_)
  · rw[if_pos h1]
    refine aX<|av 1 rfl<|fu rfl (dw p 1 hps) rfl<|av 6 rfl<|aQ [6,7,8] rfl ?_
    exact an<|⟨_,_,ax.of rfl,ay.bq (al.cons (ay.pure (p:=aJ []))<|al.cons (ay.pure (p:=cV p))<|al.cons ay.pure al.nil),rfl⟩
  · rw [if_neg (by rw [h1]; simp)]
    obtain⟨rfl,rfl⟩:c1=true∧c2=true:=by revert h1;cases c1<;>cases c2<;>simp
    refine ai<|ak<|af (.a 1 rfl<|.v (aO rfl ((rfl:(cR p)[4]? =some (bD p.stack)))) rfl<|.a 2 rfl<|.k [3,4,5,7,31] rfl)<|ag rfl (fun h2=>?_) (fun h2=>?_)
    · rw[if_pos (tt h2)]
      refine aX<|av 1 rfl<|fu rfl (dw p 5 hps) rfl<|av 6 rfl<|aQ [6,7,8] rfl ?_
      exact an<|⟨_,_,ax.of rfl,ay.bq (al.cons (ay.pure (p:=aJ []))<|al.cons (ay.pure (p:=cV p))<|al.cons ay.pure al.nil),rfl⟩
    · rw [if_neg (ff h2)]
      have h32:p.stack.length≤32:=by have:=ff h2;omega
      refine ai<|af (.a 1 rfl<|.v (aO rfl ((rfl:(cR p)[4]? =some (bD p.stack)))) rfl<|.a 1 rfl<|.k [3,4,5,7,9] rfl)<|aX<|av 1 rfl<|bZ (aO rfl ((show(dx x)[0]? =some (num n) by rw[←hn];rfl))) rfl<|av 3 rfl<|aQ [3,4,5,7,9,10] rfl ?_
      refine ak<|aq<|iC [3,4,5,7,9,10] rfl<|br (fun r st=>∃s:List bL,s.length≤32∧r=s.length∧ib ⟨1,n⟩ p.stack=ib ⟨1,n⟩ s∧st=⟨[(3,.b6 (b5 T) 0),(4,.b6 (dx x) 0),(5,.b6 (cR p) 0),(7,.ptr 0 0),(9,bD s),(10,.ptr 1 0)],[some (.cells 52 [num 0,num 0,num 0,num 0,.raw (.slice none 0 0),num 0]),some (.cells 32 [num 1,num n])]⟩) p.stack.length ⟨p.stack,h32,rfl,rfl,rfl⟩ ?_
      rintro r st ⟨s,hs,rfl,hsk,rfl⟩
      obtain⟨e1,he1⟩:∃q,decide (0<(s.length:Int))=q:=⟨_,rfl⟩
      obtain⟨a,ha⟩:∃a,s.getD 0 ⟨0,0⟩=a:=⟨_,rfl⟩
      obtain⟨e2,he2⟩:∃q,decide (a=(⟨1,n⟩:bL))=q:=⟨_,rfl⟩
      refine ak<|kB mixed (by kernel_rfl) 51 (.raw (.bool (e1&&e2))) [3,4,5,7,9,10] rfl ?_ ?_
      · refine .a 2 rfl<|.v [43] (bT rfl (he1)) rfl rfl<|.a 1 rfl<|?_
        cases e1
        · exact .a 6 rfl<|.k [51,3,4,5,7,9,10] rfl
        · exact .a 1 rfl<|.v [46] (aR (0) rfl (by omega) (by have:=tt he1;omega)) rfl rfl<|.v [47] (eZ rfl (jC s 0 a (by rw[←ha];have:=tt he1;rw[List.getD_eq_getElem?_getD,List.getElem?_eq_getElem (by omega)];rfl)) rfl) rfl rfl<|.a 1 rfl<|.v [48,49] (tq rfl rfl (b:=⟨1,n⟩) rfl he2) rfl rfl<|.a 1 rfl<|.k [51,3,4,5,7,9,10] rfl
      refine ag rfl (fun h3=>?_) (fun h3=>?_)
      · obtain⟨rfl,rfl⟩:=Bool.and_eq_true_iff.1 h3
        obtain⟨l,rfl⟩:∃l,s=(⟨1,n⟩:bL)::l:=by
          have h4:=tt he2
          cases s with
          |nil=>exact absurd (tt he1) (by simp)
          |cons b l=>exact⟨l,by rw[←h4,←ha];rfl⟩
        simp only[ib,if_true]at hsk
        refine ai<|aq<|aF (.a 1 rfl<|.v (jv rfl (cb.el.get rfl) rfl rfl) rfl<|.a 1 rfl<|.k [3,4,5,7,9,10] rfl) ?_
        exact⟨l.length,by simp,l,by simp at hs;omega,rfl,hsk,rfl⟩
      · have hsk:ib ⟨1,n⟩ p.stack=s:=by
          rw[hsk]
          cases s with
          |nil=>rfl
          |cons b l=>
            have e1t:e1=true:=by rw[←he1];simp
            rw[e1t,Bool.true_and]at h3
            rw[h3]at he2
            have h5:=ff he2
            simp only[ib]
            rw[if_neg (by rw[←ha]at h5;exact h5)]
        rw[hn,hsk]
        clear he1 ha he2 h3
        refine bn<|ak<|vp ?_
        refine aq<|iC [3,4,5,7,9] rfl<|br (fun r st=>∃(s':List bL) (z:PV),je z (bD s')∧s'.length≤32∧r=s'.length∧dA T x p s (dA T x p [] (ee p 1))=dA T x p s' (dA T x p [] (ee p 1))∧st=⟨[(3,.b6 (b5 T) 0),(4,.b6 (dx x) 0),(5,.b6 (cR p) 0),(7,.ptr 0 0),(9,z)],[some (.cells 52 [num 0,num 0,num 0,num 0,.raw (.slice none 0 0),num 0]),some (.cells 32 [num 1,num n])]⟩) s.length ⟨s,_,je.refl _,hs,rfl,rfl,rfl⟩ ?_
        clear hsk hs
        rintro r st ⟨s',z,hz,hs,rfl,hR,rfl⟩
        refine lZ (t':=[(3,.b6 (b5 T) 0),(4,.b6 (dx x) 0),(5,.b6 (cR p) 0),(7,.ptr 0 0),(9,bD s')]) ?_ ?_
        · exact Sub.cons rfl<|Sub.cons rfl<|Sub.cons rfl<|Sub.cons rfl<|Sub.wP rfl hz<|Sub.nil _
        clear hz
        rw[hR]
        clear hR
        obtain⟨K0,hK0⟩:∃K,dA T x p [] (ee p 1)=K:=⟨_,rfl⟩
        rw[hK0]
        obtain⟨R,hS⟩:∃R,dA T x p s' K0=R:=⟨_,rfl⟩
        rw[hS]
        have hRR:=hS
        unfold dA at hRR
        obtain⟨c5,hc5⟩:∃q,decide ((s'.length:Int)=0)=q:=⟨_,rfl⟩
        obtain⟨c6,hc6⟩:∃q,decide (p.dst=n)=q:=⟨_,rfl⟩
        obtain⟨c7,hc7⟩:∃q,decide (255≤p.dp)=q:=⟨_,rfl⟩
        obtain⟨c8,hc8⟩:∃q,decide (p.dp<0)=q:=⟨_,rfl⟩
        rw[hc5,hn,hc6,hc7,hc8]at hRR
        refine aq<|ak<|aY 63 (.raw (.bool (c5&&c6))) [3,4,5,7,9] rfl ?_ ?_
        · refine .a 2 rfl<|.v (bT rfl (hc5)) rfl<|.a 1 rfl<|?_
          cases c5
          · exact .a 6 rfl<|.k [63,3,4,5,7,9] rfl
          · exact .a 1 rfl<|.v (aO rfl ((rfl:(cR p)[2]? =some (num p.dst)))) rfl<|.a 1 rfl<|.v (aO rfl ((show(dx x)[0]? =some (num n) by rw[←hn];rfl))) rfl<|.v (bT rfl (hc6)) rfl<|.a 1 rfl<|.k [63,3,4,5,7,9] rfl
        refine ag rfl (fun h1=>?_) (fun h1=>?_)
        · rw[if_pos h1]at hRR
          subst hRR
          refine aX<|av 1 rfl<|bZ (w5 rfl (al.cons ay.pure<|al.cons ay.bY al.nil) (lj p [] (by simp))) rfl<|av 3 rfl<|aQ [6,7,8] rfl ?_
          exact an<|⟨_,_,ax.of rfl,ay.bq (al.cons ay.bY<|al.cons (ay.pure (p:=cV ⟨p.id,p.src,p.dst,p.b7,[],p.dp⟩))<|al.cons ay.pure al.nil),rfl⟩
        · rw [if_neg (by rw [h1]; simp)] at hRR
          refine ai<|ak<|aY 73 (.raw (.bool (c7||c8))) [3,4,5,7,9] rfl ?_ ?_
          · refine .a 1 rfl<|.v (aO rfl ((rfl:(cR p)[5]? =some (num p.dp)))) rfl<|.v (bT rfl (hc7)) rfl<|.a 1 rfl<|?_
            cases c7
            · exact .a 1 rfl<|.v (aO rfl ((rfl:(cR p)[5]? =some (num p.dp)))) rfl<|.v (bT rfl (hc8)) rfl<|.a 1 rfl<|.k [73,3,4,5,7,9] rfl
            · exact .a 4 rfl<|.k [73,3,4,5,7,9] rfl
          refine ag rfl (fun h2=>?_) (fun h2=>?_)
          · rw[if_pos h2]at hRR
            subst hRR
            refine aX<|av 1 rfl<|fu rfl (dw p 4 hps) rfl<|av 6 rfl<|aQ [6,7,8] rfl ?_
            exact an<|⟨_,_,ax.of rfl,ay.bq (al.cons (ay.pure (p:=aJ []))<|al.cons (ay.pure (p:=cV p))<|al.cons ay.pure al.nil),rfl⟩
          · rw [if_neg (by rw [h2]; simp)] at hRR
            have hh:0≤p.dp∧p.dp≤1000:=by
              obtain⟨h3,h4⟩:=Bool.or_eq_false_iff.1 h2
              rw[←hc7]at h3
              rw[←hc8]at h4
              have:=ff h3
              have:=ff h4
              omega
            clear hc5 hc6 hc7 hc8 h1 h2
            refine ai ?_
            obtain⟨v,hv⟩:∃v,p.dst=v:=⟨_,rfl⟩
            refine af (.a 1 rfl<|.v (aO rfl ((show(cR p)[2]? =some (num v) by rw[←hv];rfl))) rfl<|.a 1 rfl<|.k [3,4,5,7,9,11] rfl)<|ak<|af (.a 3 rfl<|.k [3,4,5,7,9,11,83] rfl)<|ag rfl (fun h3=>?_) (fun h3=>?_)
            · have hne:0<s'.length:=by have:=tt h3;omega
              obtain⟨a,l,hs'⟩:∃a l,s'=a::l:=by
                cases s' with
                |nil=>exact absurd hne (by simp)
                |cons a l=>exact⟨a,l,rfl⟩
              have h0:s'[0]? =some a:=by rw[hs'];rfl
              rw[hs']at hRR
              dsimp only at hRR
              rw[←hs']at hRR
              clear hv
              obtain⟨v,hv⟩:∃v,a.num=v:=⟨_,rfl⟩
              rw[hv]at hRR
              refine af (.a 1 rfl<|.v (aR (0) rfl (by omega) (by omega)) rfl<|.a 1 rfl<|.v (aO rfl (((wX s' 0 a h0).trans (by rw[hv])))) rfl<|.a 1 rfl<|.k [3,4,5,7,9,11] rfl)<|af (.a 1 rfl<|.v (aR (0) rfl (by omega) (by omega)) rfl<|.a 1 rfl<|.v (aO rfl ((xe s' 0 a h0))) rfl<|.k [3,4,5,7,9,11,91] rfl)<|aq<|af (.a 2 rfl<|.k [3,4,5,7,9,11,91,97] rfl)<|ag rfl (fun h4=>?_) (fun h4=>?_)
              · rw[if_pos (tt h4)]at hRR
                obtain⟨K1,hK1,hK1n,hK1p⟩:∃K1,K1=K0∧(s'.length=0→K1=ee p 1)∧(0<s'.length→K1=K0):=⟨_,rfl,fun h=>absurd h (by omega),fun h=>rfl⟩
                rw[←hK1]at hRR
                clear hK1 h3 h4 hs' hv h0
                refine ai<|ak ?_
                obtain⟨c11,hc11⟩:∃q,aS T v=q:=⟨_,rfl⟩
                have hnc:=cE T v
                rw[hc11]at hnc
                unfold xa at hRR
                have hes:c11=true→x.cI[v.toNat]? =some (cu x v)∧(cu x v).push.length≤40∧(cu x v).aW.length≤1000∧v<(x.cI.length:Int)∧0≤v:=fun h=>by
                  obtain⟨k,rfl,g1,g2,g3⟩:=jA hc1 (hc11.trans h)
                  have:=(List.getElem?_eq_some_iff.1 g1).1
                  exact⟨g1,g2,g3,by omega,by omega⟩
                obtain⟨e,he⟩:∃e,cu x v=e:=⟨_,rfl⟩
                obtain⟨yp,hc12⟩:∃q,decide (0<(e.aW.length:Int))=q:=⟨_,rfl⟩
                rw[he]at hes hRR
                rw[hc11,hc12]at hRR
                refine tH (Q1:=fun st=>st=⟨[(143,flag (c11&&yp)),(3,.b6 (b5 T) 0),(4,.b6 (dx x) 0),(5,.b6 (cR p) 0),(7,.ptr 0 0),(9,bD s'),(11,num v)],[some (.cells 52 [num 0,num 0,num 0,num 0,.raw (.slice none 0 0),num 0]),some (.cells 32 [num 1,num n])]⟩) ?_ ?_
                · cases c11
                  · refine aF (.a 2 rfl<|.c rfl (hnc) rfl<|.a 10 rfl<|.k [143,3,4,5,7,9,11] rfl) ?_
                    rfl
                  · refine aF (.a 2 rfl<|.c rfl (hnc) rfl<|.a 2 rfl<|.v (aO rfl ((rfl:(dx x)[1]? =some (gg x.cI)))) rfl<|.a 1 rfl<|.v (aR ((v.toNat*3)) rfl (hes rfl).2.2.2.2 (hes rfl).2.2.2.1) rfl<|.a 1 rfl<|.v (aO rfl ((oc x.cI v.toNat 0 e (hes rfl).1 (by omega)))) rfl<|.a 1 rfl<|.v (bT rfl (hc12)) rfl<|.a 1 rfl<|.k [143,3,4,5,7,9,11] rfl) ?_
                    rfl
                rintro _ rfl
                refine ag rfl (fun h8=>?_) (fun h8=>?_)
                · rw[if_pos h8]at hRR
                  obtain⟨g1,g2,g3,g4,g5⟩:=hes (Bool.and_eq_true_iff.1 h8).1
                  subst hRR
                  refine jY 12 20 mixed (
                    .val [5] rfl (bp rfl) rfl rfl<|
                    .val [9] rfl (bp rfl) rfl rfl<|
                    .val [4] rfl (bp rfl) rfl rfl<|
                    .val [146] rfl (aO rfl ((rfl:(dx x)[1]? =some (gg x.cI)))) rfl rfl<|
                    .val [11] rfl (bp rfl) rfl rfl<|
                    .val [147,148] rfl (aR ((v.toNat*3)) rfl g5 g4) rfl rfl<|
                    .val [149] rfl (eZ rfl ((jQ x.cI v.toNat e g1)) rfl) rfl rfl<|
                    .val [144,145,150] rfl (j8 rfl (mn p s' e (by omega) g2 g3 hps hh)) rfl rfl<|
                    .val [151] rfl (bp rfl) rfl rfl<|
                    .val [151] rfl (bp rfl) rfl rfl<|
                    .val [151] rfl (bp rfl) rfl rfl<|
                    .val [152] rfl (bp rfl) rfl rfl<|
                    .nil) (by kernel_rfl) rfl rfl (bm (ks:=[6,7,153,154]) rfl) ?_
                  refine av 2 rfl<|aQ [6,7,8] rfl ?_
                  exact an<|⟨_,_,ax.of rfl,ay.bq (al.cons (ay.pure (p:=aJ (eL p s' e).aW))<|al.cons (ay.pure (p:=cV (eL p s' e).uL))<|al.cons ay.pure al.nil),rfl⟩
                · rw[if_neg (by rw[h8];simp)]at hRR
                  refine ai<|ak<|af (.a 3 rfl<|.k [3,4,5,7,157] rfl)<|ag rfl (fun h9=>?_) (fun h9=>?_)
                  · rw[hK1n (by have:=tt h9;omega)]at hRR
                    subst hRR
                    refine aX<|av 1 rfl<|fu rfl (dw p 1 hps) rfl<|av 6 rfl<|aQ [6,7,8] rfl ?_
                    exact an<|⟨_,_,ax.of rfl,ay.bq (al.cons (ay.pure (p:=aJ []))<|al.cons (ay.pure (p:=cV p))<|al.cons ay.pure al.nil),rfl⟩
                  · have hne:0<s'.length:=by have:=ff h9;omega
                    rw[hK1p hne]at hRR
                    refine ai<|aF (.a 1 rfl<|.k [3,4,5,7,9] rfl) ?_
                    exact⟨0,hne,[],_,je.bY,by simp,rfl,hRR.symm.trans (hK0.symm.trans rfl),rfl⟩
              · rw[if_neg (ff h4)]at hRR
                refine af (.a 2 rfl<|.k [3,4,5,7,9,11,99] rfl)<|ag rfl (fun h5=>?_) (fun h5=>?_)
                · rw[if_pos (tt h5)]at hRR
                  obtain⟨c9,hc9⟩:∃q,cX T v=q:=⟨_,rfl⟩
                  obtain⟨c10,hc10⟩:∃q,decide (bb T v.toNat≠n)=q:=⟨_,rfl⟩
                  have hac:=mJ T (by have h:=hc1;unfold de at h;simp only[Bool.and_eq_true]at h;have:=bJ h.1.1.1.1;omega) v
                  rw[hc9]at hac
                  rw[hc9,hc10]at hRR
                  refine ak<|kB mixed (by kernel_rfl) 112 (.raw (.bool ((!c9)||c10))) [3,4,5,7,9,11] rfl ?_ ?_
                  · refine .a 2 rfl<|.v [101,102] (j8 rfl (hac)) rfl rfl<|.a 2 rfl<|?_
                    cases c9
                    · exact .a 7 rfl<|.k [112,3,4,5,7,9,11] rfl
                    · exact .a 2 rfl<|.v [106,107] (j8 rfl (mb T v hc9)) rfl rfl<|.a 1 rfl<|.v [109] (aO rfl ((show(dx x)[0]? =some (num n) by rw[←hn];rfl))) rfl rfl<|.v [108,110] (bT rfl (hc10)) rfl rfl<|.a 1 rfl<|.k [112,3,4,5,7,9,11] rfl
                  refine ag rfl (fun h6=>?_) (fun h6=>?_)
                  · rw[if_pos h6]at hRR
                    subst hRR
                    refine aX<|av 1 rfl<|fu rfl (dw p 2 hps) rfl<|av 6 rfl<|aQ [6,7,8] rfl ?_
                    exact an<|⟨_,_,ax.of rfl,ay.bq (al.cons (ay.pure (p:=aJ []))<|al.cons (ay.pure (p:=cV p))<|al.cons ay.pure al.nil),rfl⟩
                  · rw[if_neg (by rw[h6];simp)]at hRR
                    refine ai<|ak<|af (.a 1 rfl<|.v (aO rfl ((rfl:(dx x)[2]? =some (aJ x.down)))) rfl<|.a 1 rfl<|.c rfl (lG x.down v (o4 hc1)) rfl<|.k [3,4,5,7,9,11,121] rfl)<|ag rfl (fun h7=>?_) (fun h7=>?_)
                    · rw[if_pos (tt h7)]at hRR
                      exact af (.a 1 rfl<|.k [3,4,5,7,9] rfl)<|bn<|⟨0,hne,[],_,je.bY,by simp,rfl,hRR.symm.trans (hK0.symm.trans rfl),rfl⟩
                    · rw[if_neg (ff h7)]at hRR
                      subst hRR
                      subst hs'
                      refine ai<|jY 10 20 mixed (
                        .val [5] rfl (bp rfl) rfl rfl<|
                        .val [9] rfl (bp rfl) rfl rfl<|
                        .val [123] rfl (jv rfl (cb.el.get rfl) rfl rfl) rfl rfl<|
                        .val [11] rfl (bp rfl) rfl rfl<|
                        .val [125] rfl (bp rfl) rfl rfl<|
                        .val [122,124,126] rfl (j8 rfl (gG p l [v] (by simp at hs;omega) (by simp) hh)) rfl rfl<|
                        .val [127] rfl (bp rfl) rfl rfl<|
                        .val [127] rfl (bp rfl) rfl rfl<|
                        .val [127] rfl (bp rfl) rfl rfl<|
                        .val [128] rfl (bp rfl) rfl rfl<|
                        .nil) (by kernel_rfl) rfl rfl (bm (ks:=[6,7,129,130]) rfl) ?_
                      refine av 2 rfl<|aQ [6,7,8] rfl ?_
                      exact an<|⟨_,_,ax.of rfl,ay.bq (al.cons (ay.pure (p:=aJ [v]))<|al.cons (ay.pure (p:=cV (dZ p l [v]).uL))<|al.cons ay.pure al.nil),rfl⟩
                · rw[if_neg (ff h5)]at hRR
                  subst hRR
                  refine aX<|av 1 rfl<|fu rfl (dw p 1 hps) rfl<|av 6 rfl<|aQ [6,7,8] rfl ?_
                  exact an<|⟨_,_,ax.of rfl,ay.bq (al.cons (ay.pure (p:=aJ []))<|al.cons (ay.pure (p:=cV p))<|al.cons ay.pure al.nil),rfl⟩
            · have hs':s'=[]:=by
                cases s' with
                |nil=>rfl
                |cons a l=>exact absurd (ff h3) (by simp)
              rw[hs']at hRR
              dsimp only at hRR
              rw[←hs',hv]at hRR
              obtain⟨K1,hK1,hK1n,hK1p⟩:∃K1,K1=ee p 1∧(s'.length=0→K1=ee p 1)∧(0<s'.length→K1=K0):=⟨_,rfl,fun _=>rfl,fun h=>absurd h (by rw[hs'];simp)⟩
              rw[←hK1]at hRR
              clear hK1 h3 hs' hv
              refine ai<|ak ?_
              obtain⟨c11,hc11⟩:∃q,aS T v=q:=⟨_,rfl⟩
              have hnc:=cE T v
              rw[hc11]at hnc
              unfold xa at hRR
              have hes:c11=true→x.cI[v.toNat]? =some (cu x v)∧(cu x v).push.length≤40∧(cu x v).aW.length≤1000∧v<(x.cI.length:Int)∧0≤v:=fun h=>by
                obtain⟨k,rfl,g1,g2,g3⟩:=jA hc1 (hc11.trans h)
                have:=(List.getElem?_eq_some_iff.1 g1).1
                exact⟨g1,g2,g3,by omega,by omega⟩
              obtain⟨e,he⟩:∃e,cu x v=e:=⟨_,rfl⟩
              obtain⟨yp,hc12⟩:∃q,decide (0<(e.aW.length:Int))=q:=⟨_,rfl⟩
              rw[he]at hes hRR
              rw[hc11,hc12]at hRR
              refine tH (Q1:=fun st=>st=⟨[(143,flag (c11&&yp)),(3,.b6 (b5 T) 0),(4,.b6 (dx x) 0),(5,.b6 (cR p) 0),(7,.ptr 0 0),(9,bD s'),(11,num v)],[some (.cells 52 [num 0,num 0,num 0,num 0,.raw (.slice none 0 0),num 0]),some (.cells 32 [num 1,num n])]⟩) ?_ ?_
              · cases c11
                · refine aF (.a 2 rfl<|.c rfl (hnc) rfl<|.a 10 rfl<|.k [143,3,4,5,7,9,11] rfl) ?_
                  rfl
                · refine aF (.a 2 rfl<|.c rfl (hnc) rfl<|.a 2 rfl<|.v (aO rfl ((rfl:(dx x)[1]? =some (gg x.cI)))) rfl<|.a 1 rfl<|.v (aR ((v.toNat*3)) rfl (hes rfl).2.2.2.2 (hes rfl).2.2.2.1) rfl<|.a 1 rfl<|.v (aO rfl ((oc x.cI v.toNat 0 e (hes rfl).1 (by omega)))) rfl<|.a 1 rfl<|.v (bT rfl (hc12)) rfl<|.a 1 rfl<|.k [143,3,4,5,7,9,11] rfl) ?_
                  rfl
              rintro _ rfl
              refine ag rfl (fun h8=>?_) (fun h8=>?_)
              · rw[if_pos h8]at hRR
                obtain⟨g1,g2,g3,g4,g5⟩:=hes (Bool.and_eq_true_iff.1 h8).1
                subst hRR
                refine jY 12 20 mixed (
                  .val [5] rfl (bp rfl) rfl rfl<|
                  .val [9] rfl (bp rfl) rfl rfl<|
                  .val [4] rfl (bp rfl) rfl rfl<|
                  .val [146] rfl (aO rfl ((rfl:(dx x)[1]? =some (gg x.cI)))) rfl rfl<|
                  .val [11] rfl (bp rfl) rfl rfl<|
                  .val [147,148] rfl (aR ((v.toNat*3)) rfl g5 g4) rfl rfl<|
                  .val [149] rfl (eZ rfl ((jQ x.cI v.toNat e g1)) rfl) rfl rfl<|
                  .val [144,145,150] rfl (j8 rfl (mn p s' e (by omega) g2 g3 hps hh)) rfl rfl<|
                  .val [151] rfl (bp rfl) rfl rfl<|
                  .val [151] rfl (bp rfl) rfl rfl<|
                  .val [151] rfl (bp rfl) rfl rfl<|
                  .val [152] rfl (bp rfl) rfl rfl<|
                  .nil) (by kernel_rfl) rfl rfl (bm (ks:=[6,7,153,154]) rfl) ?_
                refine av 2 rfl<|aQ [6,7,8] rfl ?_
                exact an<|⟨_,_,ax.of rfl,ay.bq (al.cons (ay.pure (p:=aJ (eL p s' e).aW))<|al.cons (ay.pure (p:=cV (eL p s' e).uL))<|al.cons ay.pure al.nil),rfl⟩
              · rw[if_neg (by rw[h8];simp)]at hRR
                refine ai<|ak<|af (.a 3 rfl<|.k [3,4,5,7,157] rfl)<|ag rfl (fun h9=>?_) (fun h9=>?_)
                · rw[hK1n (by have:=tt h9;omega)]at hRR
                  subst hRR
                  refine aX<|av 1 rfl<|fu rfl (dw p 1 hps) rfl<|av 6 rfl<|aQ [6,7,8] rfl ?_
                  exact an<|⟨_,_,ax.of rfl,ay.bq (al.cons (ay.pure (p:=aJ []))<|al.cons (ay.pure (p:=cV p))<|al.cons ay.pure al.nil),rfl⟩
                · have hne:0<s'.length:=by have:=ff h9;omega
                  rw[hK1p hne]at hRR
                  refine ai<|aF (.a 1 rfl<|.k [3,4,5,7,9] rfl) ?_
                  exact⟨0,hne,[],_,je.bY,by simp,rfl,hRR.symm.trans (hK0.symm.trans rfl),rfl⟩
end PW
end Go.Proofs.YtnegbdpggideiaaDoor
namespace Go.Proofs.YtnegbdpggideiaaDoor
namespace PW
open Go.RowKit aN Mem Net
section
variable {T:ab} {D:List Bool}
end
end PW
end Go.Proofs.YtnegbdpggideiaaDoor
namespace Go.Proofs.YtnegbdpggideiaaDoor
namespace PW
open Go.RowKit aN Mem Net eB
section
variable {T:ab} {M own:List Bool} {n d:Nat}
end
end PW
end Go.Proofs.YtnegbdpggideiaaDoor
namespace Go.Proofs.YtnegbdpggideiaaDoor
namespace PW
open Go.RowKit aN Mem Net
section
variable {T:ab} {D:List Bool}
theorem fi.tail{n y m:Nat}{a:Int}{p:List Int}(h:fi T D n y (a::p))(hm:aK T a.toNat=(m:Int)):(p=[]∧m=y)∨fi T D m y p:=by
 have hsp:=h.sp
 cases hsp with
 | @cons n a m' p hnr hh hp=>
  rw[Int.toNat_natCast,hh]at hm
  have e:m'=m:=by omega
  subst e
  cases p with
  |nil=>cases hp;exact .inl ⟨rfl,rfl⟩
  |cons b p=>
   refine .inr ?_
   have hpt:=h.part (i:=1) (k:=p.length+1) (by omega) (by simp)
   have hb:∃b':Nat,b=(b':Int)∧bb T b'=(m':Int):=by
    cases hp with
    |cons hn2 _ _=>exact⟨_,rfl,hn2.tail⟩
   obtain⟨b',rfl,hbt⟩:=hb
   have hfin:=h.sp.ch.fin
   have hlast:aK T (((a:Int)::(b':Int)::p).getD (p.length+1) 0).toNat=(y:Int):=by
    rw[←hfin]
    have:=ep T (n:Int) ((a:Int)::(b':Int)::p) (p.length+1) (by simp)
    rw[←this,List.take_of_length_le (by simp)]
   rw[hlast]at hpt
   have e1:bb T (((a:Int)::(b':Int)::p).getD 1 0).toNat=(m':Int):=hbt
   rw[e1]at hpt
   obtain⟨u,v,e3,e4,hs,_⟩:=u4 hpt
   have e5:m'=u:=by omega
   have e6:y=v:=by omega
   subst e5;subst e6
   have:=hs.sp.unique hs.valid hs.hy hp hs.gX
   rw[this]at hs
   exact hs
theorem fi.yP{E:List Bool}{n y:Nat}{p:List Int}(h:fi T D n y p)(hf:bw T E=true)(hE:∀a,bG D a=false→bG E a=false):fi T E n y p:=
 ⟨h.valid,hf,h.ne,h.hx,h.hy,h.uniq,h.sp,fun a ha=>hE _ (h.up a ha)⟩
inductive wc (T:ab) (D:List Bool) (d:Nat):Nat→List bL→List Int→Prop
 |nil:wc T D d d [] []
 |node {n y:Nat} {p q:List Int} {l:List bL}:fi T D n y p→wc T D d y l q→wc T D d n (⟨1,(y:Int)⟩::l) (p++q)
 |fZ {n a m:Nat} {q:List Int} {l:List bL}:a<2*T.aa.length→bb T a=(n:Int)→bG D a=false→aK T a=(m:Int)→wc T D d m l q→wc T D d n (⟨2,(a:Int)⟩::l) ((a:Int)::q)
theorem wc.len{d n:Nat}{l:List bL}{q:List Int}(h:wc T D d n l q):l.length≤q.length:=by
 induction h with
 |nil=>exact Nat.le_refl _
 |node hs _ ih=>have:=hs.pos;simp only[List.length_cons,List.length_append];omega
 |fZ _ _ _ _ _ ih=>simp only[List.length_cons];omega
theorem sg{n d:Nat}{x:eS}(hok:de T x=true)(hxn:x.node=(n:Int))(hd:(d:Int)<T.nodes)(hne:n≠d){p:fQ}(hp:p.dst=(d:Int))(hh:p.dp=0)(hl:ib ⟨1,(n:Int)⟩ p.stack=[])(h32:p.stack.length≤32)(ha:0<(cu x (d:Int)).aW.length)(hpl:(cu x (d:Int)).push.length≤32):
  eQ T x p=dZ p (if(cu x (d:Int)).rep then(cu x (d:Int)).push else []) (cu x (d:Int)).aW:=by
 have hdb:aS T p.dst=true:=aV.2 ⟨by omega,by omega⟩
 unfold eQ
 rw[hok,hdb,hxn,hl,if_neg (by simp),if_neg (by omega)]
 unfold dA
 have hdn:decide ((d:Int)=x.node)=false:=decide_eq_false (by rw[hxn];omega)
 rw[hp,hdn,if_neg (by simp),if_neg (by rw[hh];simp)]
 dsimp only
 unfold xa
 rw[←hp,hdb,hp,if_pos (by simp;omega)]
 unfold eL
 simp only[List.drop_nil,List.append_nil]
 by_cases hr:(cu x (d:Int)).rep=true
 ·rw[if_pos hr,if_pos hr,if_neg (by omega)]
 ·rw[if_neg hr,if_neg hr]
end
end PW
end Go.Proofs.YtnegbdpggideiaaDoor
namespace Go.Proofs.YtnegbdpggideiaaDoor
namespace eB
open Go.RowKit Go.Shelf Net
attribute [local go_sem] Oper.semAt_some
end eB
end Go.Proofs.YtnegbdpggideiaaDoor
