/- Texts of the proof, part 9. -/
import Derived.WideShapes
import Derived.Deep.AppendSrc
import Derived.Test.YtnegbdpggideiaaGreatDoorCardWSB8
set_option linter.unusedVariables false
set_option linter.unusedSimpArgs false
set_option maxRecDepth 10000
set_option maxHeartbeats 1000000
namespace Go.Proofs.YtnegbdpggideiaaGreatDoor
namespace PW
open Go.RowKit cA Mem Net
def jS(T:ai)(n:Int)(p:List Int)(x:Int):Nat→Nat→Nat
 |0,i=>i
 |f+1,i=>if b7 T n (p.take i)=x then i else jS T n p x f (i+1)
noncomputable def du(T:ai)(D:List Bool)(n:Int)(p:List Int)(i:Nat)(s:bW):Option Nat:=
 if s.kind=2∧i<p.length∧p.getD i 0=s.num then some (i+1)
 else if s.kind=1 then(if b7 T n (p.take (jS T n p s.num (p.length - i) i))=s.num∧eB T D n p i (jS T n p s.num (p.length - i) i)=true then some (jS T n p s.num (p.length - i) i) else none)
 else none
noncomputable def tV(T:ai)(D:List Bool)(n:Int)(p:List Int):Nat→List bW→Bool
 |i,[]=>decide (i=p.length)
 |i,s::l=>match du T D n p i s with
  |some j=>tV T D n p j l
  |none=>false
noncomputable def pd(T:ai)(D:List Bool):Int→List bW→Int×List Int
 |_,[]=>(0,[])
 |x,s::l=>if s.kind=2 then(if aX D s.num.toNat=true then(7,[]) else((pd T D (dw T s x).1 l).1,s.num::(pd T D (dw T s x).1 l).2))
  else if ir T D x (dw T s x).1≠0 then(ir T D x (dw T s x).1,[])
  else if eL T D x (dw T s x).1=false then(9,[])
  else((pd T D (dw T s x).1 l).1,ct T D x.toNat (dw T s x).1.toNat++(pd T D (dw T s x).1 l).2)
section
variable {T:ai} {D:List Bool} {n:Int} {p:List Int}
theorem tr(x:Int):∀f i,i≤jS T n p x f i∧jS T n p x f i≤i+f
 |0,i=>by simp[jS]
 |f+1,i=>by
  simp only[jS]
  split
  ·omega
  ·have:=tr x f (i+1);omega
theorem Dv(x:Int):∀f i k,i≤k→k<jS T n p x f i→b7 T n (p.take k)≠x
 |0,i,k,h1,h2=>by simp only[jS]at h2;omega
 |f+1,i,k,h1,h2=>by
  simp only[jS]at h2
  split at h2
  ·omega
  ·rename_i h3
   by_cases e:k=i
   ·subst e;exact h3
   ·exact Dv x f (i+1) k (by omega) h2
theorem th(x:Int):∀f i j,i≤j→j≤i+f→b7 T n (p.take j)=x→(∀k,i≤k→k<j→b7 T n (p.take k)≠x)→jS T n p x f i=j
 |0,i,j,h1,h2,_,_=>by simp only[jS];omega
 |f+1,i,j,h1,h2,h3,h4=>by
  simp only[jS]
  by_cases e:i=j
  ·subst e;rw[if_pos h3]
  ·rw[if_neg (h4 i (Nat.le_refl _) (by omega))]
   exact th x f (i+1) j (by omega) (by omega) h3 (fun k h5 h6=>h4 k (by omega) h6)
theorem Ch.fin{d:Nat}{m:Nat}{q:List Int}(h:Ch T D d m q):b7 T (m:Int) q=(d:Int):=by
 induction h with
 |nil=>rfl
 | @cons n a m p ha ht hu hm ho hp ih=>simp only[b7,Int.toNat_natCast,hm];exact ih
theorem lX(h:mI T D n p){i j:Nat}(hij:i≤j)(hj:j≤p.length)(hc:eB T D n p i j=true):jS T n p (b7 T n (p.take j)) (p.length - i) i=j:=by
 have ha:=h.aK
 have hv:=h.valid
 refine th _ _ _ _ hij (by omega) rfl fun k h1 h2 he=>?_
 obtain⟨u,hu,huN⟩:=cc hv h.node ha i (by omega)
 obtain⟨y,hy,hyN⟩:=cc hv h.node ha j hj
 obtain⟨z,hz,hzN⟩:=cc hv h.node ha k (by omega)
 have hzy:z=y:=by omega
 subst hzy
 obtain⟨c1,c2⟩:=(lz h hij hj hu hy).1 hc
 rw[kb p h1 (show k≤j by omega)]at c1
 obtain⟨c3,c4⟩:=c1.suffix hv hyN c2 (h.ch h1 (by omega) hu hz)
 have:=c3.self
 have hl:=kR p (show k≤j by omega) hj
 rw[this]at hl
 simp at hl
 omega
theorem sA(p:List Int){i j:Nat}(hij:i≤j)(hj:j≤p.length):p.drop i=dX p i j++p.drop j:=by
 have h1:p.drop j=(p.drop i).drop (j - i):=by rw[List.drop_drop];congr 1;omega
 rw[h1]
 unfold dX
 exact(List.take_append_drop _ _).symm
theorem kP{x y:Nat}(hv:ao T=true)(hf:bX T D=true)(hx:(x:Int)<T.nodes)(hy:(y:Int)<T.nodes):ir T D x y=if dN T D y x<0 then 11 else 0:=by
 have hne:cB T D (x:Int) (y:Int)=0:=by
  unfold cB
  rw[if_pos (tf hv hf hy),aW.2 ⟨by omega,hx⟩]
  rfl
 unfold ir;rw[if_pos hne];simp only[Int.toNat_natCast]
theorem vS{x y:Nat}(hv:ao T=true)(hf:bX T D=true)(hx:(x:Int)<T.nodes)(hy:(y:Int)<T.nodes):eL T D x y=true↔dz T D y x=1:=by
 have hne:cB T D (x:Int) (y:Int)=0:=by
  unfold cB
  rw[if_pos (tf hv hf hy),aW.2 ⟨by omega,hx⟩]
  rfl
 unfold eL
 rw[hne]
 simp
theorem wK(h:mI T D n p){i j x y:Nat}(hij:i≤j)(hj:j≤p.length)(hx:b7 T n (p.take i)=(x:Int))(hy:b7 T n (p.take j)=(y:Int)):eB T D n p i j=true↔ir T D x y=0∧eL T D x y=true∧ct T D x y=dX p i j:=by
 have ha:=h.aK
 have hv:=h.valid
 obtain⟨x',hx',hxN⟩:=cc hv h.node ha i (by omega)
 obtain⟨y',hy',hyN⟩:=cc hv h.node ha j hj
 have e1:x'=x:=by omega
 have e2:y'=y:=by omega
 subst e1
 subst e2
 rw[lz h hij hj hx hy,kP hv h.fits hxN hyN,vS hv h.fits hxN hyN]
 constructor
 ·rintro⟨h1,h2⟩
  have h0:=(h1.cost hv hyN).2
  exact⟨by rw[if_neg (by omega)],h2,(ee hv hyN hxN h0).unique hv hyN h1 h2⟩
 ·rintro⟨h1,h2,h3⟩
  have h0:0≤dN T D y' x':=by
   split at h1
   ·omega
   ·omega
  exact⟨by rw[←h3];exact ee hv hyN hxN h0,h2⟩
theorem sN(h : mI T D n p) : ∀ (l : List bW) (i : Nat), i ≤ p.length → (tV T D n p i l = true ↔ (dD T (b7 T n (p.take i)) l).2 = 0 ∧ (pd T D (b7 T n (p.take i)) l).1 = 0 ∧ (pd T D (b7 T n (p.take i)) l).2 = p.drop i)
  | [],i,hi=>by
    simp only[tV,dD,pd,decide_eq_true_eq,true_and]
    constructor
    · rintro rfl;simp
    · intro h
      have:=congrArg List.length h
      simp at this
      omega
  |s::l,i,hi=>by
    have ha:=h.aK
    have hv:=h.valid
    obtain⟨x,hx,hxN⟩:=cc hv h.node ha i hi
    have hnb:bu T (x:Int)=true:=aW.2 ⟨by omega,hxN⟩
    rw[hx]
    simp only[tV]
    by_cases hk2:s.kind=2
    · by_cases hp:i<p.length∧p.getD i 0=s.num
      · have hst:du T D n p i s=some (i+1):=by unfold du;rw[if_pos ⟨hk2,hp⟩]
        have hmem:=bU (d:=0) hp.1
        have hab:=ha _ hmem
        have htl:=lM h hp.1 hx
        have hup:=h.up _ hmem
        have hed:=fF T n p i hp.1
        rw[hp.2]at hab htl hup hed
        have hsg:gX T s=true:=by unfold gX;rw[if_neg (by omega),if_pos hk2];exact hab
        have hes:dw T s x=(b7 T n (p.take (i+1)),0):=by
          unfold dw
          rw[if_neg (by rw[hsg];simp),if_neg (by rw[hnb];simp),if_neg (by omega),if_pos hk2,if_neg (by rw[htl];simp),hed]
        rw[hst]
        simp only[dD,pd]
        rw[hes,if_neg (by simp),if_pos hk2,if_neg (by rw[hup];simp)]
        simp only
        rw[sN h l (i+1) hp.1,drop_cons p i hp.1,hp.2]
        simp
      · have hst:du T D n p i s=none:=by unfold du;rw[if_neg (fun e=>hp e.2),if_neg (by omega)]
        rw[hst]
        constructor
        · intro e;cases e
        · rintro⟨_,e2,e3⟩
          exfalso
          simp only[pd]at e2 e3
          rw[if_pos hk2]at e2 e3
          split at e2
          · simp at e2
          · rename_i hd
            rw[if_neg hd]at e3
            simp only at e3
            have hlt:i<p.length:=by
              have:=congrArg List.length e3
              simp at this
              omega
            rw[drop_cons p i hlt]at e3
            exact hp ⟨hlt,(List.cons.inj e3).1.symm⟩
    · by_cases hk1:s.kind=1
      · have hes:(dw T s x).2=0→bu T s.num=true∧(dw T s x).1=s.num:=fun e=>by
          unfold dw at e ⊢
          split at e
          · simp at e
          · rename_i h1
            rw[if_neg h1]
            rw[if_neg (by rw[hnb];simp),if_pos hk1]
            have hsg:gX T s=true:=by simpa using h1
            unfold gX at hsg
            rw[if_pos hk1]at hsg
            exact⟨hsg,rfl⟩
        constructor
        · intro e
          cases hst:du T D n p i s with
          |none=>rw[hst]at e;cases e
          |some j=>
            rw[hst]at e
            simp only at e
            unfold du at hst
            rw[if_neg (fun e=>hk2 e.1),if_pos hk1]at hst
            split at hst
            · rename_i hc
              simp only[Option.some.injEq]at hst
              rw[hst]at hc
              have hge:=tr (T:=T) (n:=n) (p:=p) s.num (p.length - i) i
              rw[hst]at hge
              have hj:j≤p.length:=by omega
              obtain⟨y,hy,hyN⟩:=cc hv h.node ha j hj
              obtain⟨c1,c2,c3⟩:=(wK h hge.1 hj hx hy).1 hc.2
              have hsy:s.num=(y:Int):=by rw[←hc.1];exact hy
              have hsg:gX T s=true:=by unfold gX;rw[if_pos hk1,hsy];exact aW.2 ⟨by omega,hyN⟩
              have hes2:dw T s x=((y:Int),0):=by
                unfold dw
                rw[if_neg (by rw[hsg];simp),if_neg (by rw[hnb];simp),if_pos hk1,hsy]
              have ih:=(sN h l j hj).1 e
              rw[hy]at ih
              simp only[dD,pd]
              rw[hes2,if_neg (by simp),if_neg hk2,if_neg (by simpa using c1),if_neg (by rw[c2];simp)]
              simp only[Int.toNat_natCast]
              refine⟨ih.1,ih.2.1,?_⟩
              rw[ih.2.2,c3,←sA p hge.1 hj]
            · cases hst
        · rintro ⟨e1, e2, e3⟩
          simp only[dD]at e1
          by_cases h0:(dw T s x).2=0
          · rw[if_neg (by rw[h0];simp)]at e1
            simp only at e1
            obtain⟨hn,he⟩:=hes h0
            obtain⟨hn0,hnN⟩:=aW.1 hn
            obtain⟨y,hy⟩:=Int.eq_ofNat_of_zero_le hn0
            have hyN:(y:Int)<T.nodes:=by omega
            rw[he]at e1
            simp only[pd]at e2 e3
            rw[if_neg hk2,he]at e2 e3
            rw[hy]at e1 e2 e3
            split at e2
            · rename_i h5;simp only at e2;exact absurd e2 h5
            · rename_i h5
              rw[if_neg h5]at e3
              split at e2
              · simp at e2
              · rename_i h6
                rw[if_neg h6]at e3
                simp only[Int.toNat_natCast]at e2 e3
                have h5':ir T D x y=0:=by simpa using h5
                have h6':eL T D x y=true:=by simpa using h6
                rw[kP hv h.fits hxN hyN]at h5'
                have hd0:0≤dN T D y x:=by
                  split at h5'
                  · omega
                  · omega
                have hsp:=ee hv hyN hxN hd0
                have hlen:(ct T D x y).length≤p.length - i:=by
                  have:=congrArg List.length e3
                  simp at this
                  omega
                have hj:i+(ct T D x y).length≤p.length:=by omega
                generalize hjj:i+(ct T D x y).length=j at hj
                have hij:i≤j:=by omega
                have hpd:=sA p hij hj
                have hpl:=kR p hij hj
                rw[←e3]at hpd
                obtain⟨hq1,hq2⟩:=List.append_inj hpd (by omega)
                have hyj:b7 T n (p.take j)=(y:Int):=by
                  rw[gi p hij,gR,hx,←hq1]
                  exact hsp.ch.fin
                have hcv:eB T D n p i j=true:=(wK h hij hj hx hyj).2 ⟨by simpa using h5,h6',hq1⟩
                have hfs:=lX h hij hj hcv
                rw[hyj,←hy]at hfs
                have hst:du T D n p i s=some j:=by
                  unfold du
                  rw[if_neg (fun e=>hk2 e.1),if_pos hk1,hfs,if_pos ⟨by rw[hyj,hy],hcv⟩]
                rw[hst]
                simp only
                rw[sN h l j hj,hyj]
                exact⟨e1,e2,hq2⟩
          · rw[if_pos h0]at e1
            exact absurd e1 h0
      · have hst:du T D n p i s=none:=by unfold du;rw[if_neg (fun e=>hk2 e.1),if_neg hk1]
        rw[hst]
        constructor
        · intro e;cases e
        · rintro⟨e1,_⟩
          exfalso
          simp only[dD]at e1
          have h0:(dw T s x).2≠0:=by
            unfold dw
            rw[if_neg hk1,if_neg hk2]
            repeat' split
            all_goals simp
          rw[if_pos h0]at e1
          exact h0 e1
theorem ts(h:mI T D n p):∀(f i:Nat),i≤p.length→p.length - i≤f→tV T D n p i (gU T D n p f i)=true
 |f,i,hi,hf=>by
  by_cases hlt:i<p.length
  ·cases f with
   |zero=>omega
   |succ f=>
    cases ht:ky (eB T D n p i) i p.length with
    |none=>
     rw[kG hlt (fun k h1 h2=>jf _ ht k h1 h2)]
     simp only[tV]
     have hst:du T D n p i ⟨2,p.getD i 0⟩=some (i+1):=by unfold du;rw[if_pos ⟨rfl,hlt,rfl⟩]
     rw[hst]
     exact ts h f (i+1) (by omega) (by omega)
    |some j=>
     obtain⟨t1,t2,t3,t4⟩:=nd _ _ ht
     rw[jJ hlt t1 t2 t3 t4]
     simp only[tV]
     have hst:du T D n p i ⟨1,b7 T n (p.take j)⟩=some j:=by
      unfold du
      simp only
      rw[if_neg (by omega),if_pos trivial,lX h (by omega) t2 t3,if_pos ⟨rfl,t3⟩]
     rw[hst]
     exact ts h f j t2 (by omega)
  ·rw[nE f i (by omega)]
   simp only[tV,decide_eq_true_eq]
   omega
theorem tm:∀f i,(gU T D n p f i).length≤f:=fun f=>by
 induction f with
 |zero=>intro i;simp[gU]
 |succ f ih=>
  intro i
  simp only[gU]
  split
  ·split
   ·have:=ih ‹Nat›;simp only[List.length_cons];omega
   ·have:=ih (i+1);simp only[List.length_cons];omega
  ·simp
theorem mO(h:mI T D n p):ei T D n p=0:=by
 unfold ei
 have h2:eT T n p=0:=by unfold eT;rw[if_pos h.valid,if_pos h.node];exact h.walk
 rw[if_pos (by rw[h.valid,h.fits];rfl),if_pos h2,if_neg]
 intro e
 obtain⟨x,h3,h4⟩:=List.any_eq_true.1 e
 rw[h.up x h3]at h4
 cases h4
end
end PW
end Go.Proofs.YtnegbdpggideiaaGreatDoor
namespace Go.Proofs.YtnegbdpggideiaaGreatDoor
namespace PW
open Go.RowKit cA Mem Net
def jm(D:List Bool)(q:List Int):Bool:= !q.any fun a=>aX D a.toNat
theorem nS{D:List Bool}{q:List Int}:jm D q=true↔∀a∈q,aX D a.toNat=false:=by
 unfold jm
 rw[Bool.not_eq_true',List.any_eq_false]
 constructor
 ·intro h a ha
  have:=h a ha
  simpa using this
 ·intro h a ha
  rw[h a ha]
  simp
theorem BJ{D:List Bool}{q:List Int}{a:Int}(ha:a∈q)(h:aX D a.toNat=true):jm D q=false:=by
 unfold jm
 rw[Bool.not_eq_false',List.any_eq_true]
 exact⟨a,ha,h⟩
theorem He(T:ai)(D:List Bool)(q:List Int)(hf:bX T D=true)(ha:∀a∈q,eR T a=true)(hq:q.length≤1000):Can Tryz.prog 121 [bf D,ax q] (· =flag (jm D q)):=by
 refine aF Tryz.func121 rfl Tryz.ntmps121 rfl<|ab (.a 1 rfl<|.k [0,1] rfl)<|aj<|ab (.a 3 rfl<|.k [0,7,8,9] rfl)<|av<|eZ [0,7,8,9] rfl<|bw (fun r st=>∃k:Nat,k≤q.length∧r=q.length - k∧(∀a∈q.take k,aX D a.toNat=false)∧st=⟨[(0,bf D),(7,ax q),(8,num q.length),(9,num k)],[]⟩) q.length ⟨0,by omega,by omega,by simp,rfl⟩ ?_
 rintro r st ⟨k,hk,rfl,hdn,rfl⟩
 refine ab (.a 1 rfl<|.k [0,7,8,9,10] rfl)<|aj<|ah rfl (fun hy=>?_) (fun hy=>?_)
 ·have hlt:k<q.length:=by have:=tt hy;omega
  have hmem:=bU (d:=0) hlt
  have hab:=ha _ hmem
  simp only[eR,decide_eq_true_eq]at hab
  obtain⟨a,hae⟩:∃a:Nat,q.getD k 0=(a:Int):=⟨(q.getD k 0).toNat,by omega⟩
  have hD:D.length=0∨a<D.length:=by simp only[bX,decide_eq_true_eq]at hf;omega
  refine ak<|aj<|av<|ab (.v (aI (k) rfl) rfl<|.v (aL rfl ((aD q k hlt).trans (by rw[hae]))) rfl<|.a 1 rfl<|.k [0,6,7,8,9] rfl)<|ab (.a 2 rfl<|.c rfl (iG D a hD) rfl<|.k [0,7,8,9,15] rfl)<|ah rfl (fun hz=>?_) (fun hz=>?_)
  ·have he:=BJ (D:=D) hmem (by rw[hae];exact hz)
   exact ab (.a 1 rfl<|.k [4] rfl)<|aq<|⟨_,_,aA.of rfl,aB.pure,by rw[he];rfl⟩
  ·skip
   refine ak<|ay (.v (aR rfl) rfl<|.a 1 rfl<|.k [0,7,8,9] rfl) ?_
   refine⟨q.length - (k+1),by omega,k+1,by omega,rfl,fun x hx=>?_,rfl⟩
   rw[df q k 0 hlt]at hx
   rcases List.mem_append.1 hx with h|h
   ·exact hdn x h
   ·simp only[List.mem_singleton]at h;rw[h,hae];exact hz
 ·have hke:k=q.length:=by have:=ff hy;omega
  subst hke
  rw[List.take_length]at hdn
  exact bn<|ab (.a 1 rfl<|.k [4] rfl)<|aq<|⟨_,_,aA.of rfl,aB.pure,by rw[nS.2 hdn];rfl⟩
theorem De{T:ai}{D:List Bool}{n:Int}{p:List Int}(hvf:(ao T&&bX T D)=true)(h:eT T n p≠0):ei T D n p=eT T n p:=by unfold ei;rw[if_pos hvf,if_neg h]
theorem zS{T:ai}{D:List Bool}{n:Int}{p:List Int}(hvf:(ao T&&bX T D)=true)(h:eT T n p=0):ei T D n p=if jm D p=true then 0 else 7:=by
 unfold ei jm
 rw[if_pos hvf,if_pos h]
 cases p.any fun a=>aX D a.toNat<;>rfl
theorem pK(T:ai)(D:List Bool)(p:List Int)(n:Int)(hp:p.length≤1000)(hlk:T.af.length≤256):Can Tryz.prog 63 [aP T,bf D,ax p,num n] (· =num (ei T D n p)):=by
 obtain⟨q1,hq1⟩:∃q,ao T=q:=⟨_,rfl⟩
 obtain⟨q2,hq2⟩:∃q,bX T D=q:=⟨_,rfl⟩
 refine aF Tryz.func63 rfl Tryz.ntmps63 rfl<|ab (.a 2 rfl<|.k [1,2,3,4] rfl)<|aj<|bC 20 (.raw (.bool ((!q1)|| !q2))) [1,2,3,4] rfl ?_ ?_
 ·refine .a 1 rfl<|.c rfl (hq1▸de T) rfl<|.a 2 rfl<|?_
  cases q1
  ·exact .a 5 rfl<|.k [20,1,2,3,4] rfl
  ·exact .a 2 rfl<|.c rfl (hq2▸kX T D (by omega)) rfl<|.a 2 rfl<|.k [20,1,2,3,4] rfl
 refine ah rfl (fun hc=>?_) (fun hc=>?_)
 ·have he:ei T D n p=1:=by unfold ei;rw[hq1,hq2];cases q1<;>cases q2<;>first|rfl|cases hc
  exact ab (.a 1 rfl<|.k [8] rfl)<|aq<|⟨_,_,aA.of rfl,aB.pure,by rw[he];rfl⟩
 ·have hv:ao T=true:=by rw[hq1];cases q1;cases hc;rfl
  have hf:bX T D=true:=by rw[hq2];cases q2;cases q1<;>cases hc;rfl
  have hvf:(ao T&&bX T D)=true:=by rw[hv,hf];rfl
  refine ak<|aj<|ab (.a 3 rfl<|.c rfl (u9 T n p (by omega)) rfl<|.a 7 rfl<|.k [1,2,11] rfl)<|ab (.a 2 rfl<|.k [1,2,11,30] rfl)<|ah rfl (fun hx=>?_) (fun hx=>?_)
  ·have hx1:eT T n p≠0:=tt hx
   exact ab (.a 2 rfl<|.k [8] rfl)<|aq<|⟨_,_,aA.of rfl,aB.pure,by rw[De hvf hx1];rfl⟩
  ·have hx1:eT T n p=0:=Classical.byContradiction (ff hx)
   obtain⟨_,hn,hw⟩:=mE hx1
   have ha:=lu hw
   rw[zS hvf hx1]
   refine ak<|aj<|ab (.a 2 rfl<|.c rfl (He T D p hf ha hp) rfl<|.a 1 rfl<|.k [35] rfl)<|ah rfl (fun hy=>?_) (fun hy=>?_)
   ·have hy1:jm D p=false:=by simpa using hy
    exact ab (.a 1 rfl<|.k [8] rfl)<|aq<|⟨_,_,aA.of rfl,aB.pure,by rw[hy1];rfl⟩
   ·have hy1:jm D p=true:=by simpa using hy
    exact ak<|ab (.a 1 rfl<|.k [8] rfl)<|aq<|⟨_,_,aA.of rfl,aB.pure,by rw[hy1];rfl⟩
section
variable {T:ai} {D:List Bool} {n:Int} {p:List Int}
theorem jC(T:ai):bX T []=true:=by simp[bX]
theorem mI.bare(h:mI T D n p):mI T [] n p:=⟨h.valid,jC T,h.node,h.walk,fun a _=>by simp[aX]⟩
theorem Gx{n:Int}{p:List Int}(h:ei T D n p=0):ei T [] n p=0:=mO (px h).bare
end
theorem sF(T:ai)(D:List Bool)(p:List Int)(n:Int)(hp:p.length≤1000)(hlk:T.af.length≤256)(h12:T.nodes≤12):Can Tryz.prog 18 [aP T,bf D,ax p,num n] (· =qb (ei T D n p) (eD T [] n p)):=by
 refine aF Tryz.func18 rfl Tryz.ntmps18 rfl<|ab (.a 3 rfl<|.k [1,2,3,4] rfl)<|aj<|ab (.a 4 rfl<|.c rfl (pK T D p n hp hlk) rfl<|.a 1 rfl<|.k [2,3,4,10] rfl)<|ab (.a 2 rfl<|.k [2,3,4,10,17] rfl)<|ah rfl (fun hc=>?_) (fun hc=>?_)
 ·have he:ei T D n p≠0:=tt hc
  exact ab (.a 3 rfl<|.k [8,9] rfl)<|aq<|⟨_,_,aA.of rfl,aB.bG (an.cons aB.b9 (an.cons aB.pure an.nil)),by unfold qb;rw[if_neg he];rfl⟩
 ·have he:ei T D n p=0:=Classical.byContradiction (ff hc)
  have hl:=sz T [] p n hp hlk h12
  rw[Gx he]at hl
  rw[he]
  exact ak<|ab (.a 3 rfl<|.v (vd rfl (an.cons aB.pure<|an.cons aB.b9<|an.cons aB.pure<|an.cons aB.pure an.nil) (hl)) rfl<|.a 4 rfl<|.k [8,9] rfl)<|aq<|⟨_,_,aA.of rfl,aB.pure,rfl⟩
end PW
end Go.Proofs.YtnegbdpggideiaaGreatDoor
namespace Go.Proofs.YtnegbdpggideiaaGreatDoor
namespace PW
open Go.RowKit cA Mem Net
def Gk(K:St→Prop):Exit→St→Prop
 | .normal,s=>K s
 |_,_=>False
theorem qn{P:Program}{N L:Nat}{x y:Code}{st:St}{Q:Exit→St→Prop}{Q1:St→Prop}(h:W P N L x st (Gk Q1))(k:∀s,Q1 s→W P N L y s Q):W P N L (.seq x y) st Q:=
 aj (h.mono fun e s hq=>by
  cases e<;>first|exact k s hq|exact hq.elim)
section
variable {T:ai} {D:List Bool} {n:Int} {p:List Int}
theorem uT(x:Int):∀f i j,i≤j→j≤i+f→(∀k,i≤k→k<j→b7 T n (p.take k)≠x)→(j=i+f∨b7 T n (p.take j)=x)→jS T n p x f i=j
 |0,i,j,h1,h2,_,_=>by simp only[jS];omega
 |f+1,i,j,h1,h2,h4,h5=>by
  simp only[jS]
  by_cases e:i=j
  ·subst e
   rcases h5 with h5|h5
   ·omega
   ·rw[if_pos h5]
  ·rw[if_neg (h4 i (Nat.le_refl _) (by omega))]
   exact uT x f (i+1) j (by omega) (by omega) (fun k h6 h7=>h4 k (by omega) h7) (by rcases h5 with h5|h5;exact .inl (by omega);exact .inr h5)
end
theorem Ak(s:bW):jy (some (.cells 103 (ja s))):=fun b hb=>by cases hb;exact(inferInstance:aG (ja s))
noncomputable def mn(T:ai)(D:List Bool)(l:List bW)(n:Int)(p:List Int):Bool:=if ei T D n p=0 then tV T D n p 0 l else false
set_option maxHeartbeats 2000000 in
theorem zb(T:ai)(D:List Bool)(l:List bW)(n:Int)(p:List Int)(hp:p.length≤1000)(hl:l.length≤1000)(hlk:T.af.length≤256)(h12:T.nodes≤12):Can Tryz.prog 75 [aP T,bf D,cn l,num n,ax p] (· =flag (mn T D l n p)):=by
 refine aF Tryz.func75 rfl Tryz.ntmps75 rfl<|ab (.a 2 rfl<|.k [1,2,3,4,5] rfl)<|aQ<|au 4 rfl<|cM rfl rfl (bS.mono (qE T D p n hp hlk) (fun r σ' h=>?_))
 obtain⟨x,rfl,hx⟩:=h
 refine au 5 rfl<|aH [2,4,11,12] rfl ?_
 refine aj<|ab (.a 2 rfl<|.k [2,4,11,26] rfl)<|ah rfl (fun hc=>?_) (fun hc=>?_)
 ·have he:ei T D n p≠0:=tt hc
  exact ab (.a 1 rfl<|.k [10] rfl)<|aq<|⟨_,_,aA.of rfl,aB.pure,by unfold mn;rw[if_neg he];rfl⟩
 ·have he:ei T D n p=0:=Classical.byContradiction (ff hc)
  obtain⟨rfl,rfl⟩:=hx he
  have hF:=px he
  have hv:=hF.valid
  have ha:=hF.aK
  have hX:mn T D l n p=tV T D n p 0 l:=by unfold mn;rw[if_pos he]
  rw[hX]
  clear hc
  have hl1:=oS T n p
  refine ak<|ab (.a 1 rfl<|.k [2,4,11,13] rfl)<|aj<|ab (.a 3 rfl<|.k [4,11,13,27,28,29] rfl)<|av<|eZ [4,11,13,27,28,29] rfl<|bw (fun r st=>∃(k i:Nat) (dm:List (Int×PV)) (um:List ((Int×Int)×PV)),k≤l.length∧i≤p.length∧r=l.length - k∧tV T D n p 0 l=tV T D n p i (l.drop k)∧iz T D dm∧iT T D um∧st=⟨[(4,ax p),(11,.ptr 4 0),(13,num i),(27,cn l),(28,num l.length),(29,num k)],uC T D p (qd T n p) (qH T p) dm um⟩) l.length ⟨0,0,[],[],by omega,by omega,by omega,rfl,(fun _ _ h=>by cases h),(fun _ _ h=>by cases h),rfl⟩ ?_
  rintro r st ⟨k,i,dm,um,hk,hi,rfl,hex,hdm,hum,rfl⟩
  refine ab (.a 1 rfl<|.k [4,11,13,27,28,29,30] rfl)<|aj<|ah rfl (fun h1=>?_) (fun h1=>?_)
  ·have hlt:k<l.length:=by have:=tt h1;omega
   obtain⟨s,hs,hdr⟩:=lO l k hlt
   rw[hdr]at hex
   simp only[tV]at hex
   refine ak<|aj<|av<|aQ<|bz (aI ((k*2)) rfl) rfl<|bz (ed rfl (iC l k s hs) rfl) rfl<|au 2 rfl<|aH [4,11,13,15,27,28,29] rfl ?_
   refine eh (σ':=uC T D p (qd T n p) (qH T p) dm um++[some (.cells 103 (ja s))]) rfl ?_
   obtain⟨q1,hq1⟩:∃q,decide (s.kind=2)=q:=⟨_,rfl⟩
   obtain⟨q2,hq2⟩:∃q,decide ((i:Int)<p.length)=q:=⟨_,rfl⟩
   obtain⟨q3,hq3⟩:∃q,decide (p.getD i 0=s.num)=q:=⟨_,rfl⟩
   refine av<|nQ mixed (by kernel_rfl) 33 (.raw (.bool ((q1&&q2)&&q3))) [4,11,13,15,27,28,29] rfl ?_ ?_
   ·refine .a 2 rfl<|.v [35] (cC rfl (hq1)) rfl rfl<|.a 1 rfl<|?_
    cases q1
    ·exact .a 15 rfl<|.k [33,4,11,13,15,27,28,29] rfl
    ·refine .a 3 rfl<|.v [38,40] (cC rfl (hq2)) rfl rfl<|.a 2 rfl<|?_
     cases q2
     ·exact .a 9 rfl<|.k [33,4,11,13,15,27,28,29] rfl
     ·exact .a 2 rfl<|.v [44,45] (aI (i) rfl (by omega) (by have:=tt hq2;omega)) rfl rfl<|.v [46] (aL rfl (aD p i (by have:=tt hq2;omega))) rfl rfl<|.a 2 rfl<|.v [47,49] (cC rfl (hq3)) rfl rfl<|.a 2 rfl<|.k [33,4,11,13,15,27,28,29] rfl
   refine ah rfl (fun h2=>?_) (fun h2=>?_)
   ·have hst:du T D n p i s=some (i+1):=by
     simp only[Bool.and_eq_true]at h2
     obtain⟨⟨rfl,rfl⟩,rfl⟩:=h2
     unfold du
     rw[if_pos ⟨tt hq1,by have:=tt hq2;omega,tt hq3⟩]
    have hi2:i+1≤p.length:=by
     simp only[Bool.and_eq_true]at h2
     obtain⟨⟨rfl,rfl⟩,rfl⟩:=h2
     have:=tt hq2;omega
    rw[hst]at hex
    simp only at hex
    refine ay (.a 1 rfl<|.v (aR rfl) rfl<|.a 1 rfl<|.k [4,11,13,27,28,29] rfl) ?_
    refine cU [0,1,2,3,4] (.c 4<|.c 11<|.c 13<|.c 27<|.c 28<|.c 29<|.nil) (.kept rfl (.row az.pure)<|.kept rfl (.row az.pure)<|.same (iz.pure hdm) rfl<|.same (iT.pure hum) rfl<|.kept rfl (.cells (az.c<|az.c<|az.c<|az.c<|az.c<|az.c<|az.c<|az.c<|az.c<|az.nil))<|.nil) rfl rfl ?_
    refine ay (.v (aR rfl) rfl<|.a 1 rfl<|.k [4,11,13,27,28,29] rfl) ?_
    first
     |exact⟨l.length - (k+1),by omega,k+1,i+1,dm,um,by omega,hi2,rfl,hex,hdm,hum,rfl⟩
     |exact⟨l.length - (k+1),by omega,k+1,j,dm,um,by omega,hj,rfl,hex,hdm,hum,rfl⟩
   ·have hn2:¬(s.kind=2∧i<p.length∧p.getD i 0=s.num):=by
     rintro⟨e1,e2,e3⟩
     rw[decide_eq_true e1]at hq1
     rw[decide_eq_true (by omega)]at hq2
     rw[decide_eq_true e3]at hq3
     subst hq1
     subst hq2
     subst hq3
     cases h2
    clear hq1 hq2 hq3
    refine ab (.a 4 rfl<|.k [4,11,13,15,27,28,29,54] rfl)<|ah rfl (fun h3=>?_) (fun h3=>?_)
    ·have hk1:s.kind=1:=tt h3
     refine ab (.a 2 rfl<|.k [4,11,13,15,16,27,28,29] rfl)<|aj<|av<|eZ [4,11,13,15,16,27,28,29] rfl<|bw (fun r st=>∃j:Nat,i≤j∧j≤p.length∧r=p.length - j∧(∀k,i≤k→k<j→b7 T n (p.take k)≠s.num)∧st=⟨[(4,ax p),(11,.ptr 4 0),(13,num i),(15,.ptr 5 0),(16,num j),(27,cn l),(28,num l.length),(29,num k)],uC T D p (qd T n p) (qH T p) dm um++[some (.cells 103 (ja s))]⟩) (p.length - i) ⟨i,by omega,hi,rfl,fun k h4 h5=>by omega,rfl⟩ ?_
     rintro r st ⟨j,hij,hj,rfl,hno,rfl⟩
     have hgj:=o4 T n p j hj
     obtain⟨g1,hg1⟩:∃q,decide ((j:Int)<p.length)=q:=⟨_,rfl⟩
     obtain⟨g,hg⟩:∃q,decide (b7 T n (p.take j)≠s.num)=q:=⟨_,rfl⟩
     refine aj<|nQ mixed (by kernel_rfl) 74 (.raw (.bool (g1&&g))) [4,11,13,15,16,27,28,29] rfl ?_ ?_
     ·refine .a 3 rfl<|.v [59,61] (cC rfl (hg1)) rfl rfl<|.a 1 rfl<|?_
      cases g1
      ·exact .a 11 rfl<|.k [74,4,11,13,15,16,27,28,29] rfl
      ·exact .a 5 rfl<|.v [67,68] (aI (j) rfl) rfl rfl<|.v [69] (aL rfl ((aD _ j (by omega)).trans (by rw[hgj]))) rfl rfl<|.a 2 rfl<|.v [70,72] (cC rfl (hg)) rfl rfl<|.a 1 rfl<|.k [74,4,11,13,15,16,27,28,29] rfl
     refine ah rfl (fun h4=>?_) (fun h4=>?_)
     ·have h5:j<p.length∧b7 T n (p.take j)≠s.num:=by
       simp only[Bool.and_eq_true]at h4
       obtain⟨rfl,rfl⟩:=h4
       exact⟨by have:=tt hg1;omega,tt hg⟩
      refine ak<|av<|ay (.a 1 rfl<|.v (aR rfl) rfl<|.a 1 rfl<|.k [4,11,13,15,16,27,28,29] rfl) ?_
      refine⟨p.length - (j+1),by omega,j+1,by omega,h5.1,rfl,fun k h6 h7=>?_,rfl⟩
      by_cases e:k=j
      ·subst e;exact h5.2
      ·exact hno k h6 (by omega)
     ·have hfs:jS T n p s.num (p.length - i) i=j:=by
       refine uT _ _ _ _ hij (by omega) hno ?_
       by_cases e:b7 T n (p.take j)=s.num
       ·exact .inr e
       ·left
        rw[decide_eq_true e]at hg
        subst hg
        rw[Bool.and_true]at h4
        subst h4
        have:=ff hg1
        omega
      clear hg1 h4
      have hsx:du T D n p i s=if b7 T n (p.take j)=s.num∧eB T D n p i j=true then some j else none:=by unfold du;rw[if_neg hn2,if_pos hk1,hfs]
      refine bn<|aj<|qn (Q1:=fun st=>∃(dm:List (Int×PV)) (um:List ((Int×Int)×PV)),iz T D dm∧iT T D um∧st=⟨[(93,.raw (.bool (g|| !eB T D n p i j))),(4,ax p),(11,.ptr 4 0),(16,num j),(27,cn l),(28,num l.length),(29,num k)],uC T D p (qd T n p) (qH T p) dm um++[some (.cells 103 (ja s))]⟩) ?_ ?_
      ·cases g
       ·refine sb 14 20 [77,78,79,80,81,82,83,84,85,86,87,88,89,90] mixed (by kernel_rfl) (by kernel_rfl) (by kernel_rfl) rfl (.a 5 rfl<|.v [80,81] (aI (j) rfl) rfl rfl<|.v [82] (aL rfl ((aD _ j (by omega)).trans (by rw[hgj]))) rfl rfl<|.a 2 rfl<|.v [83,85] (cC rfl (hg)) rfl rfl<|.a 4 rfl<|.k [4,11,16,27,28,29,87,88,89,90] rfl) ?_
        refine cM rfl rfl (bS.mono (oA T D p n dm um (some (.cells 103 (ja s))) (Ak s) hv hF.fits h12 hF.node ha hp i j hi hj hdm hum) (fun _ σ' h=>?_))
        obtain⟨rfl,dm1,um1,hdm1,hum1,rfl⟩:=h
        refine au 2 rfl<|aH [93,4,11,16,27,28,29] rfl ?_
        exact⟨dm1,um1,hdm1,hum1,rfl⟩
       ·refine H2 mixed (by kernel_rfl) 93 (.raw (.bool (true))) [4,11,16,27,28,29] rfl ?_ ?_
        ·exact .a 5 rfl<|.v [80,81] (aI (j) rfl) rfl rfl<|.v [82] (aL rfl ((aD _ j (by omega)).trans (by rw[hgj]))) rfl rfl<|.a 2 rfl<|.v [83,85] (cC rfl (hg)) rfl rfl<|.a 7 rfl<|.k [93,4,11,16,27,28,29] rfl
        exact⟨dm,um,hdm,hum,rfl⟩
      clear hdm hum
      rintro _ ⟨dm,um,hdm,hum,rfl⟩
      refine ah rfl (fun h6=>?_) (fun h6=>?_)
      ·have hst:du T D n p i s=none:=by
        rw[hsx,if_neg]
        rintro⟨e1,e2⟩
        rw[decide_eq_false (by simpa using e1)]at hg
        subst hg
        rw[e2]at h6
        cases h6
       rw[hst]at hex
       simp only at hex
       exact ab (.a 1 rfl<|.k [10] rfl)<|aq<|⟨_,_,aA.of rfl,aB.pure,by rw[hex];rfl⟩
      ·have hst:du T D n p i s=some j:=by
        obtain⟨rfl,h7⟩:=Bool.or_eq_false_iff.1 h6
        rw[hsx,if_pos ⟨by have:=ff hg;simpa using this,by simpa using h7⟩]
       rw[hst]at hex
       simp only at hex
       refine ak<|ay (.a 2 rfl<|.k [4,11,13,27,28,29] rfl) ?_
       refine cU [0,1,2,3,4] (.c 4<|.c 11<|.c 13<|.c 27<|.c 28<|.c 29<|.nil) (.kept rfl (.row az.pure)<|.kept rfl (.row az.pure)<|.same (iz.pure hdm) rfl<|.same (iT.pure hum) rfl<|.kept rfl (.cells (az.c<|az.c<|az.c<|az.c<|az.c<|az.c<|az.c<|az.c<|az.c<|az.nil))<|.nil) rfl rfl ?_
       refine ay (.v (aR rfl) rfl<|.a 1 rfl<|.k [4,11,13,27,28,29] rfl) ?_
       first
        |exact⟨l.length - (k+1),by omega,k+1,i+1,dm,um,by omega,hi2,rfl,hex,hdm,hum,rfl⟩
        |exact⟨l.length - (k+1),by omega,k+1,j,dm,um,by omega,hj,rfl,hex,hdm,hum,rfl⟩
    ·have hk1:¬s.kind=1:=ff h3
     have hst:du T D n p i s=none:=by unfold du;rw[if_neg hn2,if_neg hk1]
     rw[hst]at hex
     simp only at hex
     exact ab (.a 1 rfl<|.k [10] rfl)<|aq<|⟨_,_,aA.of rfl,aB.pure,by rw[hex];rfl⟩
  ·have hke:k=l.length:=by have:=ff h1;omega
   subst hke
   rw[List.drop_length]at hex
   simp only[tV]at hex
   refine bn<|ab (.a 5 rfl<|.k [10] rfl)<|aq<|⟨_,_,aA.of rfl,aB.pure,?_⟩
   rw[hex]
   exact congrArg (fun b=>flag b) (decide_eq_decide.2 (by omega))
end PW
end Go.Proofs.YtnegbdpggideiaaGreatDoor
namespace Go.Proofs.YtnegbdpggideiaaGreatDoor
namespace PW
open Go.RowKit cA Mem Net
section
variable {T:ai} {D:List Bool}
theorem Ch.aK{d m:Nat}{q:List Int}(h:Ch T D d m q):∀a∈q,eR T a=true:=by
 induction h with
 |nil=>intro a ha;cases ha
 | @cons n a m p ha ht hu hm ho hp ih=>
  intro b hb
  rcases List.mem_cons.1 hb with rfl|hb
  ·exact cI.2 ⟨by omega,by omega⟩
  ·exact ih b hb
theorem oq{x y:Int}(h:ir T D x y=0):∃a b:Nat,x=(a:Int)∧y=(b:Int)∧(a:Int)<T.nodes∧(b:Int)<T.nodes∧ao T=true∧SP T D b a (ct T D x.toNat y.toNat):=by
 unfold ir at h
 split at h
 ·rename_i he
  obtain⟨hv,hf,hn,hd⟩:=fB he
  rw[aW]at hn hd
  obtain⟨a,rfl⟩:=Int.eq_ofNat_of_zero_le hn.1
  obtain⟨b,rfl⟩:=Int.eq_ofNat_of_zero_le hd.1
  refine⟨a,b,rfl,rfl,hn.2,hd.2,hv,?_⟩
  simp only[Int.toNat_natCast]at h ⊢
  exact ee hv hd.2 hn.2 (by split at h<;>omega)
 ·rename_i he
  exact absurd h he
theorem sr{s:bW}{l:List bW}{x:Int}(h:(dD T x (s::l)).2=0):(dw T s x).2=0∧(dD T (dw T s x).1 l).2=0∧(dD T x (s::l)).1=(dw T s x).1::(dD T (dw T s x).1 l).1:=by
 simp only[dD]at h ⊢
 by_cases h0:(dw T s x).2=0
 ·rw[if_neg (by rw[h0];simp)]at h
  rw[if_neg (by rw[h0];simp)]
  exact⟨h0,h,rfl⟩
 ·rw[if_pos h0]at h;exact absurd h h0
theorem u5:∀(l:List bW) (x:Int),(dD T x l).2=0→(dD T x l).1.length=l.length
 | [],_,_=>rfl
 |s::l,x,h=>by
  obtain⟨_,h2,h3⟩:=sr h
  rw[h3,List.length_cons,u5 l _ h2,List.length_cons]
end
theorem Gr(l:List bW)(k:Nat)(s:bW)(h:l[k]? =some s):(eC l)[k*2+0]? =some (num s.kind):=uB l k 0 s h (by omega)
theorem GS(l:List bW)(k:Nat)(s:bW)(h:l[k]? =some s):(eC l)[k*2+1]? =some (num s.num):=uB l k 1 s h (by omega)
instance (T:ai) (n:Int) (l:List Int):kW (oE T n l):=by unfold oE;infer_instance
end PW
end Go.Proofs.YtnegbdpggideiaaGreatDoor
namespace Go.Proofs.YtnegbdpggideiaaGreatDoor
namespace PW
open Go.RowKit cA Mem Net
noncomputable def Io(T:ai)(D:List Bool)(x y:Int):Bool:=(((ao T&&bX T D)&& !decide (x=y))&&eL T [] x y)&&jm D (ct T [] x.toNat y.toNat)
theorem tJ{T:ai}{D:List Bool}{x y:Int}(h:eL T D x y=true):ir T D x y=0:=by
 unfold eL at h
 rw[Bool.and_eq_true,decide_eq_true_eq,decide_eq_true_eq]at h
 obtain⟨h1,h2⟩:=h
 obtain⟨hv,hf,hn,hd⟩:=fB h1
 rw[aW]at hn hd
 obtain⟨a,rfl⟩:=Int.eq_ofNat_of_zero_le hn.1
 obtain⟨b,rfl⟩:=Int.eq_ofNat_of_zero_le hd.1
 simp only[Int.toNat_natCast]at h2
 unfold ir
 rw[if_pos h1,if_neg]
 simp only[Int.toNat_natCast]
 intro h0
 rw[yt hv hd.2 hn.2 h0]at h2
 omega
section
variable {T:ai} {D:List Bool} {n:Int} {p:List Int}
theorem pL(h:mI T D n p){i k x y:Nat}(hik:i<k)(hk:k≤p.length)(hx:b7 T n (p.take i)=(x:Int))(hy:b7 T n (p.take k)=(y:Int)):(Io T D x y&&mh (ct T [] x y) (dX p i k))=eB T [] n p i k:=by
 have hb:=h.bare
 have ha:=h.aK
 have hv:=h.valid
 obtain⟨x',hx',hxN⟩:=cc hv h.node ha i (by omega)
 obtain⟨y',hy',hyN⟩:=cc hv h.node ha k hk
 have e1:x'=x:=by omega
 have e2:y'=y:=by omega
 subst e1
 subst e2
 rw[Bool.eq_iff_iff,wK hb (by omega) hk hx hy]
 unfold Io mh
 simp only[Int.toNat_natCast,Bool.and_eq_true,Bool.not_eq_true',decide_eq_true_eq,decide_eq_false_iff_not]
 constructor
 ·rintro⟨⟨⟨_,h3⟩,h4⟩,h5⟩
  exact⟨tJ h3,h3,h5⟩
 ·rintro⟨h1,h2,h3⟩
  refine⟨⟨⟨⟨⟨hv,h.fits⟩,fun e=>?_⟩,h2⟩,?_⟩,h3⟩
  ·have e2:x'=y':=by omega
   subst e2
   rw[kP hv (jC T) hxN hxN]at h1
   have hsp:=ee (D:=[]) hv hxN hxN (by split at h1<;>omega)
   have h6:=hsp.self
   rw[h6]at h3
   have:=kR p (show i≤k by omega) hk
   rw[←h3]at this
   simp at this
   omega
  ·rw[h3,nS]
   exact fun a ha=>h.up a (Bw ha)
end
section
variable {P:Program} {σ:cd} {t:bZ} {o:Oper}
end
end PW
end Go.Proofs.YtnegbdpggideiaaGreatDoor
namespace Go.Proofs.YtnegbdpggideiaaGreatDoor
namespace PW
open Go.RowKit cA Mem Net
noncomputable def wC(T:ai)(n:Int)(p:List Int)(x:Int)(i:Nat):Nat→Nat→Option Nat
 |0,_=>none
 |f+1,j=>if b7 T n (p.take j)=x∧eB T [] n p i j=true then some j else wC T n p x i f (j+1)
noncomputable def qA(T:ai)(n:Int)(p:List Int)(i:Nat)(s:bW):Option Nat:=
 if s.kind=2∧i<p.length∧p.getD i 0=s.num then some (i+1)
 else if s.kind=1 then wC T n p s.num i (p.length - i) (i+1)
 else none
noncomputable def HG(T:ai)(n:Int)(p:List Int):Nat→List bW→Bool
 |i,[]=>decide (i=p.length)
 |i,s::l=>match qA T n p i s with
  |some j=>HG T n p j l
  |none=>false
def kh(T:ai):Int→List bW→Bool
 |_,[]=>true
 |x,s::l=>if s.kind=1∧s.num=x then false else kh T (dw T s x).1 l
section
variable {T:ai} {n:Int} {p:List Int}
theorem qZ{x:Int}{i:Nat}:∀(f j k:Nat),wC T n p x i f j=some k→j≤k∧k<j+f∧b7 T n (p.take k)=x∧eB T [] n p i k=true∧∀m,j≤m→m<k→¬(b7 T n (p.take m)=x∧eB T [] n p i m=true)
 |0,j,k,h=>by simp[wC]at h
 |f+1,j,k,h=>by
  simp only[wC]at h
  split at h
  ·rename_i h1;cases h;exact⟨Nat.le_refl _,by omega,h1.1,h1.2,fun m h2 h3=>by omega⟩
  ·rename_i h1
   obtain⟨a,b,c,d,e⟩:=qZ f (j+1) k h
   refine⟨by omega,by omega,c,d,fun m h2 h3=>?_⟩
   by_cases hm:m=j
   ·subst hm;exact h1
   ·exact e m (by omega) h3
theorem yP{x:Int}{i:Nat}:∀(f j k:Nat),j≤k→k<j+f→b7 T n (p.take k)=x→eB T [] n p i k=true→(∀m,j≤m→m<k→¬(b7 T n (p.take m)=x∧eB T [] n p i m=true))→wC T n p x i f j=some k
 |0,j,k,h1,h2,_,_,_=>by omega
 |f+1,j,k,h1,h2,h3,h4,h5=>by
  simp only[wC]
  by_cases e:j=k
  ·subst e;rw[if_pos ⟨h3,h4⟩]
  ·rw[if_neg (h5 j (Nat.le_refl _) (by omega))]
   exact yP f (j+1) k (by omega) (by omega) h3 h4 (fun m h6 h7=>h5 m (by omega) h7)
theorem pH(h:mI T [] n p){i:Nat}(hi:i≤p.length)(s:bW)(j:Nat):qA T n p i s=some j↔du T [] n p i s=some j∧¬(s.kind=1∧s.num=b7 T n (p.take i)):=by
 unfold qA du
 by_cases h1:s.kind=2∧i<p.length∧p.getD i 0=s.num
 ·rw[if_pos h1,if_pos h1]
  constructor
  ·intro e;exact⟨e,fun e2=>by omega⟩
  ·intro e;exact e.1
 ·rw[if_neg h1,if_neg h1]
  by_cases h2:s.kind=1
  ·rw[if_pos h2,if_pos h2]
   constructor
   ·intro e
    obtain⟨a,b,c,d,_⟩:=qZ _ _ _ e
    have hf:=lX h (show i≤j by omega) (by omega) d
    rw[c]at hf
    rw[hf,if_pos ⟨c,d⟩]
    refine⟨rfl,fun e2=>?_⟩
    have:=th (T:=T) (n:=n) (p:=p) s.num (p.length - i) i i (Nat.le_refl _) (by omega) e2.2.symm (fun k h3 h4=>by omega)
    omega
   ·rintro⟨e1,e2⟩
    split at e1
    ·rename_i h3
     simp only[Option.some.injEq]at e1
     have hge:=tr (T:=T) (n:=n) (p:=p) s.num (p.length - i) i
     have hno:=Dv (T:=T) (n:=n) (p:=p) s.num (p.length - i) i
     rw[e1]at h3 hge hno
     have hne:i≠j:=fun e=>e2 ⟨h2,by rw[e];exact h3.1.symm⟩
     exact yP _ _ _ (by omega) (by omega) h3.1 h3.2 (fun m h4 h5 h6=>hno m (by omega) h5 h6.1)
    ·cases e1
  ·rw[if_neg h2,if_neg h2]
   simp
theorem step_end(h:mI T [] n p){i j:Nat}(hi:i≤p.length){s:bW}(hst:du T [] n p i s=some j):(dw T s (b7 T n (p.take i))).1=b7 T n (p.take j)∧(dw T s (b7 T n (p.take i))).2=0∧j≤p.length:=by
 have ha:=h.aK
 have hv:=h.valid
 obtain⟨x,hx,hxN⟩:=cc hv h.node ha i hi
 have hnb:bu T (x:Int)=true:=aW.2 ⟨by omega,hxN⟩
 rw[hx]
 have hss:=hst
 unfold du at hst
 split at hst
 ·rename_i h1
  cases hst
  have hab:=ha _ (bU (d:=0) h1.2.1)
  have htl:=lM h h1.2.1 hx
  have hed:=fF T n p i h1.2.1
  rw[h1.2.2]at hab htl hed
  have hsg:gX T s=true:=by unfold gX;rw[if_neg (by omega),if_pos h1.1];exact hab
  have hes:dw T s x=(b7 T n (p.take (i+1)),0):=by
   unfold dw
   rw[if_neg (by rw[hsg];simp),if_neg (by rw[hnb];simp),if_neg (by omega),if_pos h1.1,if_neg (by rw[htl];simp),hed]
  rw[hes]
  exact⟨rfl,rfl,h1.2.1⟩
 ·split at hst
  ·rename_i h2
   split at hst
   ·rename_i h3
    simp only[Option.some.injEq]at hst
    have hge:=tr (T:=T) (n:=n) (p:=p) s.num (p.length - i) i
    rw[hst]at h3 hge
    obtain⟨y,hy,hyN⟩:=cc hv h.node ha j (by omega)
    have hsy:s.num=(y:Int):=by rw[←h3.1];exact hy
    have hsg:gX T s=true:=by unfold gX;rw[if_pos h2,hsy];exact aW.2 ⟨by omega,hyN⟩
    have hes:dw T s x=(s.num,0):=by
     unfold dw
     rw[if_neg (by rw[hsg];simp),if_neg (by rw[hnb];simp),if_pos h2]
    rw[hes]
    exact⟨h3.1.symm,rfl,by omega⟩
   ·cases hst
  ·cases hst
theorem po(h:mI T [] n p):∀(l:List bW) (i:Nat),i≤p.length→HG T n p i l=(tV T [] n p i l&&kh T (b7 T n (p.take i)) l)
 | [],i,hi=>by simp[HG,tV,kh]
 |s::l,i,hi=>by
  simp only[HG,tV,kh]
  cases hX:du T [] n p i s with
  |none=>
   have hP:qA T n p i s=none:=by
    cases hP:qA T n p i s with
    |none=>rfl
    |some j=>have:=((pH h hi s j).1 hP).1;rw[hX]at this;cases this
   rw[hP]
   rfl
  |some j=>
   obtain⟨e1,e2,e3⟩:=step_end h hi hX
   by_cases hd:s.kind=1∧s.num=b7 T n (p.take i)
   ·have hP:qA T n p i s=none:=by
     cases hP:qA T n p i s with
     |none=>rfl
     |some j=>exact absurd hd ((pH h hi s j).1 hP).2
    rw[hP,if_pos hd]
    simp
   ·rw[(pH h hi s j).2 ⟨hX,hd⟩,if_neg hd,e1]
    simp only
    exact po h l j e3
theorem oV(h:mI T [] n p):∀(f i:Nat),i≤p.length→kh T (b7 T n (p.take i)) (gU T [] n p f i)=true
 |f,i,hi=>by
  by_cases hlt:i<p.length
  ·cases f with
   |zero=>rfl
   |succ f=>
    cases ht:ky (eB T [] n p i) i p.length with
    |none=>
     rw[kG hlt (fun k h1 h2=>jf _ ht k h1 h2)]
     have hst:du T [] n p i ⟨2,p.getD i 0⟩=some (i+1):=by unfold du;rw[if_pos ⟨rfl,hlt,rfl⟩]
     simp only[kh]
     rw[if_neg (by rintro⟨h1,_⟩;omega),(step_end h hi hst).1]
     exact oV h f (i+1) (by omega)
    |some j=>
     obtain⟨t1,t2,t3,t4⟩:=nd _ _ ht
     rw[jJ hlt t1 t2 t3 t4]
     have hf:=lX h (show i≤j by omega) t2 t3
     have hst:du T [] n p i ⟨1,b7 T n (p.take j)⟩=some j:=by
      unfold du
      simp only
      rw[if_neg (by omega),if_pos trivial,hf,if_pos ⟨rfl,t3⟩]
     simp only[kh]
     rw[if_neg,(step_end h hi hst).1]
     ·exact oV h f j t2
     ·rintro⟨_,h2⟩
      have:=th (T:=T) (n:=n) (p:=p) (b7 T n (p.take j)) (p.length - i) i i (Nat.le_refl _) (by omega) h2.symm (fun k h3 h4=>by omega)
      omega
  ·rw[nE f i (by omega)]
   rfl
end
noncomputable def CU(T:ai)(D:List Bool)(l:List bW)(n:Int)(p:List Int):Bool:=if ei T D n p=0 then HG T n p 0 l else false
end PW
end Go.Proofs.YtnegbdpggideiaaGreatDoor
namespace Go.Proofs.YtnegbdpggideiaaGreatDoor
namespace PW
open Go.RowKit cA Mem Net eS
theorem uc(p:List Int)(u:PV):bS Tryz.prog 190 [ax p,.ptr 0 0] [some (.cells 37 [u])] (fun r σ'=>r= .tuple []∧σ'=[some (.cells 37 [ax p])]):=by
 refine cp Tryz.func190 rfl Tryz.ntmps190 rfl<|ba<|au 2 rfl<|aH [] rfl ?_
 exact⟨_,aA.of rfl,rfl,rfl⟩
theorem wW(T:ai)(D:List Bool)(n d:Int):bS Tryz.prog 184 [aP T,bf D,num n,num d,.func 190 [.ptr 0 0]] [some (.cells 37 [.raw (.slice none 0 0)])] (fun r σ'=>r=num (ir T D n d)∧σ'=[some (.cells 37 [if ir T D n d=0 then ax (ct T D n.toNat d.toNat) else .raw (.slice none 0 0)])]):=by
 refine cp Tryz.func184 rfl Tryz.ntmps184 rfl<|ab (.a 2 rfl<|.k [1,2,3,4,5] rfl)<|ab (.a 4 rfl<|.c rfl (rj T D n d) rfl<|.a 5 rfl<|.k [4,11,12] rfl)<|aj<|ab (.a 2 rfl<|.k [4,11,12,22] rfl)<|ah rfl (fun h1=>?_) (fun h1=>?_)
 ·have he:ir T D n d=0:=tt h1
  refine ba<|au 2 rfl<|cM rfl rfl (bS.mono (uc _ _) (fun r σ' h=>?_))
  obtain⟨rfl,rfl⟩:=h
  refine aH [12] rfl ?_
  refine ab (.a 2 rfl<|.k [10] rfl)<|aq ?_
  first
   |exact⟨_,aA.of rfl,rfl,by rw[if_neg he]⟩
   |exact⟨_,aA.of rfl,rfl,by simp only[if_pos he]⟩
 ·have he:¬ir T D n d=0:=ff h1
  refine ak<|ab (.a 2 rfl<|.k [10] rfl)<|aq ?_
  first
   |exact⟨_,aA.of rfl,rfl,by rw[if_neg he]⟩
   |exact⟨_,aA.of rfl,rfl,by simp only[if_pos he]⟩
theorem xq(T:ai)(D:List Bool)(n d:Int):Can Tryz.prog 162 [aP T,bf D,num n,num d] (· =ep (ir T D n d) (ct T D n.toNat d.toNat)):=by
 obtain⟨u,hu⟩:∃u:PV,(if ir T D n d=0 then ax (ct T D n.toNat d.toNat) else .raw (.slice none 0 0))=u:=⟨_,rfl⟩
 have hf:=wW T D n d
 rw[hu]at hf
 refine aF Tryz.func162 rfl Tryz.ntmps162 rfl<|ab (.a 3 rfl<|.k [1,2,3,4] rfl)<|aQ<|au 1 rfl<|aH [1,2,3,4,10] rfl ?_
 refine aQ<|au 5 rfl<|cM rfl rfl (bS.mono hf (fun r σ' h=>?_))
 obtain⟨rfl,rfl⟩:=h
 refine au 1 rfl<|aH [10,11] rfl ?_
 refine ab (.v (aL rfl ((show some u=some u from rfl))) rfl<|.a 3 rfl<|.k [8,9] rfl)<|aq<|⟨_,_,aA.of rfl,aB.bG (an.cons (y:=ax (if ir T D n d=0 then ct T D n.toNat d.toNat else [])) ?_ (an.cons aB.pure an.nil)),rfl⟩
 rw[←hu]
 by_cases he:ir T D n d=0
 ·rw[if_pos he,if_pos he];exact aB.pure
 ·rw[if_neg he,if_neg he];exact aB.b9
end PW
end Go.Proofs.YtnegbdpggideiaaGreatDoor
namespace Go.Proofs.YtnegbdpggideiaaGreatDoor
namespace PW
open Go.RowKit cA Mem Net
section
variable {T:ai} {D:List Bool}
theorem vO{d:Nat}:∀ {m:Nat} {q:List Int},Ch T D d m q→(q=[]∨dc T m=false)→db T false m q=0
 |m,[],_,_=>rfl
 |m,a::q,h,ho=>by
  cases h with
  | @cons _ b k _ ha ht hu hm hov hp=>
   rw[om (cI.2 ⟨by omega,by omega⟩) (by rw[Int.toNat_natCast];exact ht) (.inr (by rcases ho with h|h;cases h;rw[Int.toNat_natCast];exact h)),Int.toNat_natCast,hm]
   exact vO hp hov
theorem yn{d m:Nat}{q:List Int}(h:Ch T D d m q):db T true m q=0:=by
 cases h with
 |nil=>rfl
 | @cons _ b k q ha ht hu hm hov hp=>
  rw[om (cI.2 ⟨by omega,by omega⟩) (by rw[Int.toNat_natCast];exact ht) (.inl rfl),Int.toNat_natCast,hm]
  exact vO hp hov
theorem Ch.bare{d m:Nat}{q:List Int}(h:Ch T D d m q):Ch T [] d m q:=by
 induction h with
 |nil=>exact .nil
 |cons ha ht hu hm ho hp ih=>exact .cons ha ht (by simp[aX]) hm ho ih
theorem Ch.mask{d m:Nat}{q:List Int}(h:Ch T [] d m q)(hc:∀a∈q,aX D a.toNat=false):Ch T D d m q:=by
 induction h with
 |nil=>exact .nil
 | @cons n a m p ha ht hu hm ho hp ih=>exact .cons ha ht (by have:=hc a (by simp);rw[Int.toNat_natCast]at this;exact this) hm ho (ih fun b hb=>hc b (by simp[hb]))
structure gY (T:ai) (D:List Bool) (x y:Nat) (p:List Int):Prop where
 valid:ao T=true
 fits:bX T D=true
 ne:x≠y
 hx:(x:Int)<T.nodes
 hy:(y:Int)<T.nodes
 uniq:eL T [] x y=true
 sp:SP T [] y x p
 up:∀a∈p,aX D a.toNat=false
theorem yu{x y:Int}(h:Io T D x y=true):∃a b:Nat,x=(a:Int)∧y=(b:Int)∧gY T D a b (ct T [] a b)∧ir T [] x y=0:=by
 unfold Io at h
 simp only[Bool.and_eq_true,Bool.not_eq_true',decide_eq_false_iff_not]at h
 obtain⟨⟨⟨⟨hv,hf⟩,hne⟩,hu⟩,hc⟩:=h
 obtain⟨a,b,rfl,rfl,ha,hb,_,hsp⟩:=oq (tJ hu)
 simp only[Int.toNat_natCast]at hsp hc
 exact⟨a,b,rfl,rfl,⟨hv,hf,fun e=>hne (by rw[e]),ha,hb,hu,hsp,nS.1 hc⟩,tJ hu⟩
variable {x y:Nat} {p:List Int}
theorem gY.pos(h:gY T D x y p):0<p.length:=by
 have hsp:=h.sp
 cases hsp with
 |nil=>exact absurd rfl h.ne
 |cons _ _ _=>simp
theorem gY.Hi(h:gY T D x y p):mI T D x p:=⟨h.valid,h.fits,aW.2 ⟨by omega,h.hx⟩,yn h.sp.ch,h.up⟩
theorem gY.lL(h:gY T D x y p):dz T [] y x=1:=(vS h.valid (jC T) h.hx h.hy).1 h.uniq
theorem gY.Iu(h:gY T D x y p):eB T [] x p 0 p.length=true:=by
 have he:b7 T (x:Int) (p.take p.length)=(y:Int):=by rw[List.take_length];exact h.sp.ch.fin
 rw[lz h.Hi.bare (Nat.zero_le _) (Nat.le_refl _) (u:=x) rfl he]
 have:dX p 0 p.length=p:=by unfold dX;simp
 rw[this]
 exact⟨h.sp,h.lL⟩
theorem gY.part(h:gY T D x y p){i k:Nat}(hik:i≤k)(hk:k<p.length):Io T D (bq T (p.getD i 0).toNat) (aS T (p.getD k 0).toNat)=true:=by
 have hF:=h.Hi
 have ha:=hF.aK
 have hc:=DH hF.bare (i:=0) (j:=p.length) (i':=i) (j':=k+1) (Nat.zero_le _) (by omega) (by omega) (Nat.le_refl _) h.Iu
 obtain⟨u,hu,huN⟩:=cc h.valid hF.node ha i (by omega)
 obtain⟨v,hv,hvN⟩:=cc h.valid hF.node ha (k+1) (by omega)
 rw[lM hF (by omega) hu,←fF T x p k hk,hv]
 rw[←pL hF (by omega) (by omega) hu hv,Bool.and_eq_true]at hc
 exact hc.1
theorem gY.next(h:gY T D x y p){i u:Nat}(hi:i<p.length)(hu:b7 T x (p.take i)=(u:Int)):bL T [] u y=[p.getD i 0]∧bL T D u y=[p.getD i 0]∧(u:Int)<T.nodes:=by
 have hF:=h.Hi
 have hv:=h.valid
 have ha:=hF.aK
 obtain⟨u',hu',huN⟩:=cc hv hF.node ha i (by omega)
 have:u'=u:=by omega
 subst this
 have hfin:b7 T (x:Int) (p.take p.length)=(y:Int):=by rw[List.take_length];exact h.sp.ch.fin
 have hch:=hF.bare.ch (i:=0) (j:=i) (Nat.zero_le _) (by omega) (u:=x) rfl hu
 have hpp:dX p 0 i++dX p i p.length=p:=by rw[←kb p (Nat.zero_le _) (by omega)];unfold dX;simp
 have hsp:=h.sp
 rw[←hpp]at hsp
 obtain⟨s1,s2⟩:=hsp.suffix hv h.hy h.lL hch
 have hdr:dX p i p.length=p.getD i 0::p.drop (i+1):=by
  unfold dX
  rw[List.take_of_length_le (by simp),drop_cons p i hi]
 rw[hdr]at s1
 have hup:∀c∈p.getD i 0::p.drop (i+1),aX D c.toNat=false:=fun c hc=>by
  rw[←drop_cons p i hi]at hc
  exact h.up c (List.mem_of_mem_drop hc)
 have hchD:=s1.ch.mask hup
 have hd0:=s1.cost hv h.hy
 generalize p.getD i 0=a0 at*
 generalize p.drop (i+1)=q at*
 cases s1 with
 | @cons _ a m _ hn hm hq=>
  obtain⟨b,hb,_,_⟩:=tQ hv h.hy huN hn.ne s2
  have hab:=fW hn ((aJ hv).cost a hn.gH).1
  rw[hb]at hab
  simp only[List.mem_singleton]at hab
  rw[←hab]at hb
  refine⟨hb,?_,huN⟩
  have hDle:=hchD.le hv h.hy
  have mono:∀k:Nat,(k:Int)<T.nodes→0≤dN T D y k→0≤dN T [] y k∧dN T [] y k≤dN T D y k:=fun k hk h0=>by
   have hs:=ee hv h.hy hk h0
   have:=hs.ch.bare.le hv h.hy
   rw[←(hs.cost hv h.hy).1]at this
   exact this
  have hmu:=mono u' huN hDle.1
  have heq:dN T D y u'=dN T [] y u':=by omega
  have hall:∀c∈bL T D u' y,c=(a:Int):=fun c hc=>by
   obtain⟨k,rfl,hk⟩:=ec hc
   obtain⟨z,hz,hzN⟩:=dM hv hk.gH
   have g:=hk.dN hz
   have g2:=mono z hzN g.1
   have hs:=ee (D:=[]) hv h.hy hzN g2.1
   have hch2:Ch T [] y u' ((k:Int)::ct T [] z y):=.cons hk.gH hk.tail (by simp[aX]) hz (by
    rcases hk.pass with e|e
    ·left
     have:z=y:=by omega
     subst this
     exact hs.self
    ·right
     rw[hz,Int.toNat_natCast]at e
     exact e) hs.ch
   have g3:=hch2.le hv h.hy
   rw[fy,←(hs.cost hv h.hy).1,Int.toNat_natCast]at g3
   have hnr:iN T [] u' y k:=⟨hk.gH,hk.tail,by simp[aX],hk.ne,by rw[hz,Int.toNat_natCast];exact g2.1,hk.pass,by
    rw[hz,Int.toNat_natCast]
    show dN T [] y u'=dN T [] y z+cF T k
    omega⟩
   have:=fW hnr ((aJ hv).cost k hk.gH).1
   rw[hb]at this
   simpa using this
  obtain⟨k,hk⟩:=lx (D:=D) hv huN h.hy hn.ne hDle.1
  have hmem:=fW hk ((aJ hv).cost k hk.gH).1
  have hso:=oJ T D u' y
  cases hx:bL T D u' y with
  |nil=>rw[hx]at hmem;cases hmem
  |cons c l=>
   rw[hx]at hall hso
   have hc:=hall c (by simp)
   subst hc
   cases l with
   |nil=>rfl
   |cons c2 l=>
    have:=hall c2 (by simp)
    have h3:=(List.pairwise_cons.1 hso).1 c2 (by simp)
    omega
end
end PW
end Go.Proofs.YtnegbdpggideiaaGreatDoor
namespace Go.Proofs.YtnegbdpggideiaaGreatDoor
namespace PW
open Go.RowKit cA Mem Net
def HK(k:Nat):List mc:=(List.range k).map fun(i:Nat)=>⟨(i:Int),(((i+1) % 4:Nat):Int),1,1,0,1,0⟩
def yR:ai:=⟨4,[],HK 4⟩
def BG(d:Nat):List Int:=match d with
 |0=>[0,1,2,1]
 |1=>[1,0,1,2]
 |2=>[2,1,0,1]
 |_=>[1,2,1,0]
def Ik(T:ai)(n:Nat)(out:List Int)(a:Nat):Bool:=decide (0≤at' out (cN T false a))&&(decide (cN T false a=(n:Int))|| !dc T (cN T false a).toNat)
theorem tR(n:Nat)(out:List Int)(a:Nat):Net.Way yR [] n false out a↔Ik yR n out a=true:=by
 unfold Net.Way Ik
 have:aX [] a=false:=by simp[aX]
 simp[this]
theorem xn(l:List mc)(e:mc):gd l++jn e=gd (l++[e]):=by simp[gd]
theorem Bd{P:Program}{σ:cd}{t:bZ}{o:Oper}{ty:TypeId}{v0 v1 c0 c1:Value}(ho:o.op= .build ty #[(0,.const v0),(1,.const v1)])(hb:P.built ty [(0,v0),(1,v1)]=some #[c0,c1]):bg P σ t o (.agg [.raw c0,.raw c1]):=by
 intro F base E ρ w hρ hS hT
 have hrun:=run_build (P:=P) w ty #[(0,v0),(1,v1)] #[c0,c1] hb
 have h0:ρ (.const v0)=v0:=hρ.const v0
 have h1:ρ (.const v1)=v1:=hρ.const v1
 have hr:(execOp ρ o).run P w= .ok (.value (.agg #[c0,c1])) w:=by
  simp only[execOp,ho,Sem.run_bind,List.map_toArray,List.map_cons,List.map_nil,h0,h1,hrun,Result.andThen_ok,Sem.run_pure]
 rw[hr]
 refine bd (.agg #[c0,c1] _ rfl (fun i x u k1 k2=>?_))
 match i,k1,k2 with
 |0,k1,k2=>simp at k1 k2;subst k1;subst k2;exact .raw _
 |1,k1,k2=>simp at k1 k2;subst k1;subst k2;exact .raw _
 |_+2,k1,k2=>simp at k2
end PW
end Go.Proofs.YtnegbdpggideiaaGreatDoor
namespace Go.Proofs.YtnegbdpggideiaaGreatDoor
namespace PW
open Go.RowKit cA Mem Net
end PW
end Go.Proofs.YtnegbdpggideiaaGreatDoor
namespace Go.Proofs.YtnegbdpggideiaaGreatDoor
namespace PW
open Go.RowKit cA Mem Net
section
variable {P:Program} {σ:cd} {t:bZ} {o:Oper}
end
end PW
end Go.Proofs.YtnegbdpggideiaaGreatDoor
namespace Go.Proofs.YtnegbdpggideiaaGreatDoor
namespace PW
open Go.RowKit cA Mem Net
def km(T:ai)(D:List Bool)(L:List Int)(m d:Nat):List Int:=if m=d∨L.getD m 0<0 then [] else kj T D L (L.getD m 0) d (bm T m)
def wy(T:ai)(D:List Bool)(L:List Int)(d:Nat):Nat→Nat→Int
 |0,m=>if m=d then 1 else 0
 |f+1,m=>if m=d then 1 else(km T D L m d).foldl (fun c a=>min 2 (c+wy T D L d f (aS T a.toNat).toNat)) 0
def zN(y u:Nat)(c:Int):Bool:=decide ((BG y).getD u 0=c)&&(decide (cB yR [] (u:Int) (y:Int)=0)&&decide (wy yR [] (BG y) y ((BG y).getD u 0).toNat u=1))
end PW
end Go.Proofs.YtnegbdpggideiaaGreatDoor
namespace Go.Proofs.YtnegbdpggideiaaGreatDoor
namespace PW
open Go.RowKit cA Mem Net
instance (l:List bW):lH (eC l):=⟨fun i u h=>by
 obtain⟨s,_,hs⟩:=List.mem_flatMap.1 (List.mem_of_getElem? h)
 simp only[ja,List.mem_cons,List.not_mem_nil,or_false]at hs
 rcases hs with rfl|rfl
 ·infer_instance
 ·infer_instance⟩
end PW
end Go.Proofs.YtnegbdpggideiaaGreatDoor
namespace Go.Proofs.YtnegbdpggideiaaGreatDoor
namespace PW
open Go.RowKit cA Mem Net
section
variable {H:Type} {enc:TypeId×Value→H} {W:World}
end
end PW
end Go.Proofs.YtnegbdpggideiaaGreatDoor
namespace Go.Proofs.YtnegbdpggideiaaGreatDoor
namespace PW
open Go.RowKit cA Mem Net Go.WideShapes
section
variable {H:Type} {enc:TypeId×Value→H} {W:World}
end
end PW
end Go.Proofs.YtnegbdpggideiaaGreatDoor
namespace Go.Proofs.YtnegbdpggideiaaGreatDoor
namespace PW
open Go.RowKit cA Mem Net Go.WideShapes
section
variable {H:Type} {enc:TypeId×Value→H} {W:World}
end
end PW
end Go.Proofs.YtnegbdpggideiaaGreatDoor
namespace Go.Proofs.YtnegbdpggideiaaGreatDoor
namespace PW
open Go.RowKit cA Mem Net
end PW
end Go.Proofs.YtnegbdpggideiaaGreatDoor
namespace Go.Proofs.YtnegbdpggideiaaGreatDoor
namespace PW
open Go.RowKit cA Mem Net
theorem Ch.Jr{T:ai}{D:List Bool}{d m:Nat}{q:List Int}(h:Ch T D d m q):∀a∈q,aX D a.toNat=false:=by
 induction h with
 |nil=>intro z hz;cases hz
 | @cons n a m p ha ht hu hm ho hp ih=>
  intro z hz
  rcases List.mem_cons.1 hz with rfl|hz
  ·rw[Int.toNat_natCast];exact hu
  ·exact ih z hz
set_option maxHeartbeats 2000000 in
theorem EA(T:ai)(D:List Bool)(l:List bW)(n:Int)(p:List Int)(hp:p.length≤1000)(hl:l.length≤1000)(hlk:T.af.length≤256)(h12:T.nodes≤12):Can Tryz.prog 21 [aP T,bf D,cn l,num n,ax p] (· =flag (CU T D l n p)):=by
  obtain⟨q1,hq1⟩:∃q,decide (ei T D n p≠0)=q:=⟨_,rfl⟩
  obtain⟨q2,hq2⟩:∃q,mn T [] l n p=q:=⟨_,rfl⟩
  refine aF Tryz.func21 rfl Tryz.ntmps21 rfl<|ab (.a 2 rfl<|.k [1,2,3,4,5] rfl)<|aj<|bC 29 (.raw (.bool (q1|| !q2))) [2,3,5] rfl ?_ ?_
  · refine .a 4 rfl<|.c rfl (pK T D p n hp hlk) rfl<|.v (cC rfl (hq1)) rfl<|.a 1 rfl<|?_
    cases q1
    · exact .a 4 rfl<|.v (vd rfl (an.cons aB.pure<|an.cons aB.b9<|an.cons aB.pure<|an.cons aB.pure<|an.cons aB.pure an.nil) (hq2▸zb T [] l n p hp hl hlk h12)) rfl<|.a 2 rfl<|.k [29,2,3,5] rfl
    · exact .a 7 rfl<|.k [29,2,3,5] rfl
  refine ah rfl (fun hc=>?_) (fun hc=>?_)
  · have he:CU T D l n p=false:=by
      unfold CU
      by_cases h0:ei T D n p=0
      · rw[if_pos h0,po (px h0).bare l 0 (Nat.zero_le _)]
        rw[decide_eq_false (by simpa using h0)]at hq1
        subst hq1
        rw[Bool.false_or]at hc
        have h2:q2=false:=by simpa using hc
        unfold mn at hq2
        rw[if_pos (Gx h0),h2]at hq2
        rw[hq2]
        rfl
      · rw[if_neg h0]
    exact ab (.a 1 rfl<|.k [10] rfl)<|aq<|⟨_,_,aA.of rfl,aB.pure,by rw[he];rfl⟩
  · obtain ⟨rfl, h2⟩ := Bool.or_eq_false_iff.1 hc
    have h2':q2=true:=by simpa using h2
    subst h2'
    have he:ei T D n p=0:=Classical.byContradiction (ff hq1)
    have hF:=px he
    have hex:tV T [] n p 0 l=true:=by unfold mn at hq2;rw[if_pos (Gx he)]at hq2;exact hq2
    have hX:CU T D l n p=kh T n l:=by
      unfold CU
      rw[if_pos he,po hF.bare l 0 (Nat.zero_le _),hex,Bool.true_and]
      rfl
    rw[hX]
    have hen:(dD T n l).2=0:=((sN hF.bare l 0 (Nat.zero_le _)).1 hex).1
    have heE:o9 T l n=0:=by unfold o9;rw[if_neg (by rw[hF.valid];simp),if_neg (by rw[hF.node];simp)];exact hen
    have hse:=Av T l n hl
    rw[heE]at hse
    have hel:=u5 l n hen
    clear hc hq1 hq2
    refine ak<|ab (.a 3 rfl<|.c rfl (hse) rfl<|.a 5 rfl<|.k [2,3,11] rfl)<|aj<|ab (.a 3 rfl<|.k [3,11,37,38,39] rfl)<|av<|eZ [3,11,37,38,39] rfl<|bw (fun r st=>∃(k:Nat) (x:Int),k≤l.length∧r=l.length - k∧(dD T x (l.drop k)).2=0∧(dD T n l).1.drop k=(dD T x (l.drop k)).1∧kh T n l=kh T x (l.drop k)∧(k=0→n=x)∧(0<k→(dD T n l).1.getD (k - 1) 0=x)∧st=⟨[(3,num n),(11,ax (dD T n l).1),(37,cn l),(38,num l.length),(39,num k)],[]⟩) l.length ⟨0,n,by omega,by omega,hen,rfl,rfl,fun _=>rfl,fun h=>by omega,rfl⟩ ?_
    rintro r st ⟨k,x,hk,rfl,he1,he2,he3,hx0,hx1,rfl⟩
    refine ab (.a 1 rfl<|.k [3,11,37,38,39,40] rfl)<|aj<|ah rfl (fun h1=>?_) (fun h1=>?_)
    · have hlt:k<l.length:=by have:=tt h1;omega
      obtain⟨s,hs,hdr⟩:=lO l k hlt
      rw[hdr]at he1 he2 he3
      obtain⟨g1,g2,g3⟩:=sr he1
      rw[g3,drop_cons _ k (by omega)]at he2
      have e2:=(List.cons.inj he2).1
      have e3:=(List.cons.inj he2).2
      simp only[kh]at he3
      obtain⟨c1,hc1⟩:∃q,decide (s.kind=1)=q:=⟨_,rfl⟩
      refine ak<|aj<|av<|aQ<|au 1 rfl<|bz (aI ((k*2)) rfl) rfl<|bz (ed rfl (iC l k s hs) rfl) rfl<|au 3 rfl<|aH [3,11,13,14,37,38,39] rfl ?_
      refine ab (.a 2 rfl<|.k [3,11,13,14,15,37,38,39] rfl)<|aj<|ab (.a 2 rfl<|.k [3,11,13,14,15,37,38,39,46] rfl)<|ah rfl (fun h2=>?_) (fun h2=>?_)
      · have hk0:0<k:=by have:=tt h2;omega
        have hxx:=hx1 hk0
        have hbx:x=x:=rfl
        obtain⟨c2,hc2⟩:∃q,decide (s.num=x)=q:=⟨_,rfl⟩
        refine ay (.a 2 rfl<|.v (aR rfl (hc:=(show(k:Int) - 1=((k - 1:Nat):Int) by omega))) rfl<|.v (aI ((k - 1)) rfl) rfl<|.v (aL rfl ((aD _ (k - 1) (by omega)).trans (by rw[hxx]))) rfl<|.a 1 rfl<|.k [3,11,14,15,37,38,39] rfl) ?_
        refine bC 60 (.raw (.bool (c1&&c2))) [3,11,37,38,39] rfl ?_ ?_
        · refine .a 2 rfl<|.v (cC rfl (hc1)) rfl<|.a 1 rfl<|?_
          cases c1
          · exact .a 5 rfl<|.k [60,3,11,37,38,39] rfl
          · exact .a 3 rfl<|.v (cC rfl (hc2)) rfl<|.a 1 rfl<|.k [60,3,11,37,38,39] rfl
        refine ah rfl (fun h3=>?_) (fun h3=>?_)
        · have hbad:s.kind=1∧s.num=x:=by
            simp only[Bool.and_eq_true]at h3
            obtain⟨rfl,rfl⟩:=h3
            exact⟨tt hc1,(tt hc2).trans hbx⟩
          rw[if_pos hbad]at he3
          exact ab (.a 1 rfl<|.k [10] rfl)<|aq<|⟨_,_,aA.of rfl,aB.pure,by rw[he3];rfl⟩
        · have hok:¬(s.kind=1∧s.num=x):=by
            rintro⟨e1,e2⟩
            rw[decide_eq_true e1]at hc1
            rw[decide_eq_true (e2.trans hbx.symm)]at hc2
            subst hc1
            subst hc2
            cases h3
          rw[if_neg hok]at he3
          refine ak<|cU [] (.c 3<|.c 11<|.c 37<|.c 38<|.c 39<|.nil) .nil rfl rfl ?_
          refine ay (.v (aR rfl) rfl<|.a 1 rfl<|.k [3,11,37,38,39] rfl) ?_
          exact⟨l.length - (k+1),by omega,k+1,(dw T s x).1,by omega,rfl,g2,e3,he3,fun h=>by omega,fun _=>e2,rfl⟩
      · have hbx:n=x:=hx0 (by have:=ff h2;omega)
        obtain⟨c2,hc2⟩:∃q,decide (s.num=n)=q:=⟨_,rfl⟩
        refine ak<|bC 60 (.raw (.bool (c1&&c2))) [3,11,37,38,39] rfl ?_ ?_
        · refine .a 2 rfl<|.v (cC rfl (hc1)) rfl<|.a 1 rfl<|?_
          cases c1
          · exact .a 5 rfl<|.k [60,3,11,37,38,39] rfl
          · exact .a 3 rfl<|.v (cC rfl (hc2)) rfl<|.a 1 rfl<|.k [60,3,11,37,38,39] rfl
        refine ah rfl (fun h3=>?_) (fun h3=>?_)
        · have hbad:s.kind=1∧s.num=x:=by
            simp only[Bool.and_eq_true]at h3
            obtain⟨rfl,rfl⟩:=h3
            exact⟨tt hc1,(tt hc2).trans hbx⟩
          rw[if_pos hbad]at he3
          exact ab (.a 1 rfl<|.k [10] rfl)<|aq<|⟨_,_,aA.of rfl,aB.pure,by rw[he3];rfl⟩
        · have hok:¬(s.kind=1∧s.num=x):=by
            rintro⟨e1,e2⟩
            rw[decide_eq_true e1]at hc1
            rw[decide_eq_true (e2.trans hbx.symm)]at hc2
            subst hc1
            subst hc2
            cases h3
          rw[if_neg hok]at he3
          refine ak<|cU [] (.c 3<|.c 11<|.c 37<|.c 38<|.c 39<|.nil) .nil rfl rfl ?_
          refine ay (.v (aR rfl) rfl<|.a 1 rfl<|.k [3,11,37,38,39] rfl) ?_
          exact⟨l.length - (k+1),by omega,k+1,(dw T s x).1,by omega,rfl,g2,e3,he3,fun h=>by omega,fun _=>e2,rfl⟩
    · have hke:k=l.length:=by have:=ff h1;omega
      subst hke
      rw[List.drop_length]at he3
      simp only[kh]at he3
      exact bn<|ab (.a 1 rfl<|.k [10] rfl)<|aq<|⟨_,_,aA.of rfl,aB.pure,by rw[he3];rfl⟩
theorem FE{T:ai}{D:List Bool}{n:Int}{p:List Int}(hp:0<p.length):0<(eD T D n p).length:=by
 unfold eD
 obtain⟨f,hf⟩:∃f,p.length=f+1:=⟨p.length - 1,by omega⟩
 rw[hf]
 simp only[gU]
 rw[if_pos (by omega)]
 cases ky (eB T D n p 0) 0 p.length<;>simp
end PW
end Go.Proofs.YtnegbdpggideiaaGreatDoor
namespace Go.Proofs.YtnegbdpggideiaaGreatDoor
namespace PW
open Go.RowKit cA Mem Net
def kO:List bW→List bW
 | []=>[]
 |s::l=>if s.kind=2 then l else s::l
noncomputable def j9(T:ai)(D:List Bool)(n d:Int):iw:=
 if ir T D n d=0∧n≠d then⟨[(ct T D n.toNat d.toNat).getD 0 0],true,kO (eD T [] n (ct T D n.toNat d.toNat))⟩ else⟨[],false,[]⟩
structure qt (T:ai) (D:List Bool) (x y:Nat) (p:List Int):Prop where
 valid:ao T=true
 fits:bX T D=true
 ne:x≠y
 hx:(x:Int)<T.nodes
 hy:(y:Int)<T.nodes
 sp:SP T D y x p
theorem wv{T:ai}{D:List Bool}{n d:Int}(h:ir T D n d=0)(hne:n≠d):∃a b:Nat,n=(a:Int)∧d=(b:Int)∧qt T D a b (ct T D a b):=by
 have hf:bX T D=true:=by
  have h':=h
  unfold ir at h'
  split at h'
  ·rename_i h1;exact(fB h1).2.1
  ·rename_i h1;exact absurd h' h1
 obtain⟨a,b,rfl,rfl,ha,hb,hv,hsp⟩:=oq h
 simp only[Int.toNat_natCast]at hsp
 exact⟨a,b,rfl,rfl,hv,hf,fun e=>hne (by rw[e]),ha,hb,hsp⟩
section
variable {T:ai} {D:List Bool} {x y:Nat} {p:List Int}
theorem qt.pos(h:qt T D x y p):0<p.length:=by
 have hsp:=h.sp
 cases hsp with
 |nil=>exact absurd rfl h.ne
 |cons _ _ _=>simp
theorem qt.Hi(h:qt T D x y p):mI T D x p:=⟨h.valid,h.fits,aW.2 ⟨by omega,h.hx⟩,yn h.sp.ch,h.sp.ch.Jr⟩
theorem qt.zero(h:qt T D x y p):ei T D x p=0:=mO h.Hi
theorem qt.len(h:qt T D x y p):(p.length:Int)<T.nodes:=h.sp.Cr h.valid h.hy
theorem qt.head(h:qt T D x y p):p.getD 0 0∈bL T D x y:=by
 have hsp:=h.sp
 cases hsp with
 |nil=>exact absurd rfl h.ne
 | @cons n a m q h1 hm hq=>exact fW h1 ((aJ h.valid).cost a h1.gH).1
theorem qt.IH(h:qt T D x y p):∃a:Nat,p.getD 0 0=(a:Int)∧iN T D x y a:=ec h.head
theorem qt.Bi(h:qt T D x y p):0<(eD T [] x p).length∧(eD T [] x p).length≤p.length:=⟨FE h.pos,tm _ _⟩
theorem qt.ck(h:qt T D x y p):CU T D (eD T [] x p) x p=true:=by
 have hF:=h.Hi
 unfold CU
 rw[if_pos h.zero,po hF.bare _ 0 (Nat.zero_le _),Bool.and_eq_true]
 exact⟨ts hF.bare _ 0 (Nat.zero_le _) (by omega),oV hF.bare _ 0 (Nat.zero_le _)⟩
theorem wb{n:Int}(hp:0<p.length):∃s l,eD T [] n p=s::l∧(s.kind=1∨s=⟨2,p.getD 0 0⟩):=by
 unfold eD
 obtain⟨f,hf⟩:∃f,p.length=f+1:=⟨p.length - 1,by omega⟩
 rw[hf]
 simp only[gU]
 rw[if_pos (by omega)]
 cases ky (eB T [] n p 0) 0 p.length with
 |none=>exact⟨_,_,rfl,.inr rfl⟩
 |some j=>exact⟨_,_,rfl,.inl rfl⟩
theorem D9(l:List bW):(kO l).length≤l.length:=by
 cases l with
 |nil=>simp[kO]
 |cons s l=>simp only[kO];split<;>simp
theorem EV{l:List bW}{s:bW}(h:s∈kO l):s∈l:=by
 cases l with
 |nil=>cases h
 |cons a l=>simp only[kO]at h;split at h<;>simp_all
theorem xA(hF:mI T D x p):∀(f i:Nat),∀s∈gU T [] x p f i,gX T s=true
 |0,i,s,hs=>by simp[gU]at hs
 |f+1,i,s,hs=>by
  simp only[gU]at hs
  split at hs
  ·rename_i hi
   cases ht:ky (eB T [] x p i) i p.length with
   |none=>
    rw[ht]at hs
    simp only[List.mem_cons]at hs
    rcases hs with rfl|hs
    ·unfold gX;simp only[if_neg (show ¬(2:Int)=1 by decide),if_pos rfl];exact hF.aK _ (bU hi)
    ·exact xA hF f (i+1) s hs
   |some j=>
    rw[ht]at hs
    simp only[List.mem_cons]at hs
    obtain⟨h1,h2,h3,h4⟩:=nd _ _ ht
    rcases hs with rfl|hs
    ·obtain⟨u,hu,huN⟩:=cc hF.valid hF.node hF.aK j h2
     unfold gX;simp only[if_pos rfl];rw[hu];exact aW.2 ⟨by omega,huN⟩
    ·exact xA hF f j s hs
  ·cases hs
theorem qt.whole(h:qt T D x y p):CU T D (kO (eD T [] x p)) x p=true∨CU T D (⟨2,p.getD 0 0⟩::kO (eD T [] x p)) x p=true:=by
 obtain⟨s,l,hl,hs⟩:=wb (T:=T) (n:=(x:Int)) h.pos
 have hc:=h.ck
 rw[hl]at hc ⊢
 rcases hs with hs|rfl
 ·left
  simp only[kO]
  rw[if_neg (by omega)]
  exact hc
 ·right
  exact hc
end
theorem sW{T:ai}{D:List Bool}{x y:Nat}(h:qt T D x y (ct T D x y)):j9 T D x y=⟨[(ct T D x y).getD 0 0],true,kO (eD T [] x (ct T D x y))⟩:=by
 unfold j9
 rw[if_pos]
 ·simp only[Int.toNat_natCast]
 ·refine⟨?_,fun e=>h.ne (by omega)⟩
  rw[kP h.valid h.fits h.hx h.hy,if_neg]
  have:=(h.sp.cost h.valid h.hy).2
  omega
theorem xV{T:ai}{D:List Bool}{n d:Int}(h:¬(ir T D n d=0∧n≠d)):j9 T D n d=⟨[],false,[]⟩:=if_neg h
theorem rS(T:ai)(D:List Bool)(n d:Int):(j9 T D n d=⟨[],false,[]⟩∧¬(ir T D n d=0∧n≠d))∨∃a b:Nat,n=(a:Int)∧d=(b:Int)∧qt T D a b (ct T D a b)∧j9 T D n d=⟨[(ct T D a b).getD 0 0],true,kO (eD T [] a (ct T D a b))⟩:=by
 by_cases h:ir T D n d=0∧n≠d
 ·obtain⟨a,b,rfl,rfl,hp⟩:=wv h.1 h.2
  exact .inr ⟨a,b,rfl,rfl,hp,sW hp⟩
 ·exact .inl ⟨xV h,h⟩
theorem CG(T:ai)(D:List Bool)(n d:Int)(h12:T.nodes≤12):(j9 T D n d).push.length≤32:=by
 rcases rS T D n d with⟨h,_⟩|⟨a,b,rfl,rfl,hp,h⟩
 ·rw[h];simp
 ·rw[h]
  have:=D9 (eD T [] a (ct T D a b))
  have:=hp.Bi.2
  have:=hp.len
  show(kO _).length≤32
  omega
theorem Cd(T:ai)(D:List Bool)(n d:Int)(h12:T.nodes≤12):iO T n d (j9 T D n d)=true:=by
 have hpl:=CG T D n d h12
 rcases rS T D n d with⟨h,_⟩|⟨a,b,rfl,rfl,hp,h⟩
 ·rw[h]
  unfold iO
  have:eI T n []=true:=decide_eq_true fun i hi=>by simp at hi
  simp only[this]
  simp
 ·rw[h]at hpl ⊢
  obtain⟨k,hk,hn⟩:=hp.IH
  have h1:eI T (a:Int) [(ct T D a b).getD 0 0]=true:=qe (by simp) fun c hc=>by
   simp only[List.mem_singleton]at hc
   subst hc
   rw[hk]
   exact⟨cI.2 ⟨by omega,by have:=hn.gH;omega⟩,by rw[Int.toNat_natCast];exact hn.tail⟩
  have h2:decide (((b:Nat):Int)=(a:Int))=false:=decide_eq_false (by have:=hp.ne;omega)
  have h3:(kO (eD T [] a (ct T D a b))).all (gX T)=true:=List.all_eq_true.2 fun s hs=>xA hp.Hi _ 0 s (EV hs)
  unfold iO
  simp only[h1,h2,h3,if_true]
  simp only[Bool.true_and,Bool.false_and,Bool.not_false,Bool.and_true,Bool.and_eq_true,decide_eq_true_eq]
  exact⟨rfl,by have:(kO (eD T [] a (ct T D a b))).length≤32:=hpl;omega⟩
noncomputable def qR(T:ai)(D:List Bool)(n:Int)(k:Nat):List iw:=(List.range k).map fun(d:Nat)=>j9 T D n (d:Int)
theorem pn(T:ai)(D:List Bool)(n:Int)(k:Nat):(qR T D n k).length=k:=by simp[qR]
theorem we{T:ai}{D:List Bool}{n:Int}{k d:Nat}(h:d<k):(qR T D n k)[d]? =some (j9 T D n (d:Int)):=by simp[qR,h]
theorem Fi{T:ai}{D:List Bool}{n k d:Nat}(h:d<k):(nF T D n k)[d]? =some ⟨bL T D n d,false,[]⟩:=by simp[nF,h]
noncomputable def wu(T:ai)(D:List Bool)(n:Nat):dR:=⟨n,qR T D n T.nodes.toNat,cG D (bm T n)⟩
theorem AP{T:ai}{D:List Bool}(hv:ao T=true)(h12:T.nodes≤12){n:Nat}(hn:(n:Int)<T.nodes):ef T (wu T D n)=true:=by
 unfold ef wu
 have h1:bu T (n:Int)=true:=aW.2 ⟨by omega,hn⟩
 have hN:=(aJ hv).nodes
 have h2:decide (((qR T D n T.nodes.toNat).length:Int)=T.nodes)=true:=decide_eq_true (by rw[pn];omega)
 have h3:eI T n (cG D (bm T n))=true:=lY T n _
 have h4:mv T n (qR T D n T.nodes.toNat)=true:=iM fun d e he=>by
  have hd:d<T.nodes.toNat:=by
   have:=(List.getElem?_eq_some_iff.1 he).1
   rwa [pn]at this
  rw[we hd]at he
  cases he
  exact Cd T D n d h12
 rw[hv,h1,h2,h3,h4]
 rfl
theorem gY.same{T:ai}{D:List Bool}{x y:Nat}{p:List Int}(h:gY T D x y p):ct T D x y=p∧qt T D x y p∧eD T [] x p=[⟨1,(y:Int)⟩]:=by
 have hv:=h.valid
 have hch:=h.sp.ch.mask h.up
 have h1:=hch.le hv h.hy
 have h0:=h.sp.cost hv h.hy
 have hq:=ee (D:=D) hv h.hy h.hx h1.1
 have hqc:=hq.cost hv h.hy
 have hqb:=hq.ch.bare
 have h2:=hqb.le hv h.hy
 have hq':=hqb.sp hv h.hy (by omega)
 have he:ct T D x y=p:=hq'.unique hv h.hy h.sp h.lL
 have hP:qt T D x y p:=⟨hv,h.fits,h.ne,h.hx,h.hy,by rw[←he];exact hq⟩
 refine⟨he,hP,?_⟩
 unfold eD
 obtain⟨f,hf⟩:∃f,p.length=f+1:=⟨p.length - 1,by have:=h.pos;omega⟩
 rw[hf,jJ (j:=p.length) h.pos h.pos (Nat.le_refl _) h.Iu (fun k h3 h4=>by omega),nE _ _ (Nat.le_refl _),List.take_length,h.sp.ch.fin]
theorem gY.BI{T:ai}{D:List Bool}{x y:Nat}{p:List Int}(h:gY T D x y p):bL T [] x y=[p.getD 0 0]∧bL T D x y=[p.getD 0 0]∧j9 T D x y=⟨[p.getD 0 0],true,[⟨1,(y:Int)⟩]⟩:=by
 obtain⟨h1,h2,h3⟩:=h.same
 obtain⟨h4,h5,_⟩:=h.next (i:=0) h.pos (u:=x) rfl
 refine⟨h4,h5,?_⟩
 rw[←h1]at h2
 rw[sW h2,h1,h3]
 rfl
end PW
end Go.Proofs.YtnegbdpggideiaaGreatDoor
namespace Go.Proofs.YtnegbdpggideiaaGreatDoor
namespace PW
open Go.RowKit cA Mem Net eS
section
variable {P:Program} {σ:cd} {t:bZ} {o:Oper} {N L:Nat} {ops:Array Oper}
theorem tI{rest:List Oper}{K:St→Prop}{d:Nat}{x y:Operand}{ty tz:TypeId}{xs:List PV}(ho:o.op= .binOp .eql ty x y tz)(hk:uX P ty=true)(hx:aC t x=some (.slice 0 xs))(hy:aC t y=some (.raw (.slice none 0 0)))(hd:o.dst=some d)(hw:eE ops t o=some true)(hN:Nat.blt d N=true)
  (h:∀b,WR P N L ops rest ⟨(d,.raw (.bool b))::t,σ⟩ K):WR P N L ops (o::rest) ⟨t,σ⟩ K:=by
 refine nm hw fun F base E a w hs next Q hn=>?_
 obtain⟨e,hu⟩:=ou hk
 have h1:=aw (fZ a) hs.tmp hx
 have h2:=aw (fZ a) hs.tmp hy
 generalize hz:a.eval x=z at h1
 generalize hz':a.eval y=z' at h2
 cases h2
 obtain⟨p,c,rfl,_,_⟩:=oX h1
 have hrun:=Lib.run_eql_slice_nil w ty e p 0 c 0 0 hu
 have hg:∀a n c b m d,(eqGuard .eql ty x y (.slice a n c) (.slice b m d)).run P w= .ok () w:=fun _ _ _ _ _ _=>rfl
 have hU:fY P w (fun v w'=>cz E w' v (.raw (.bool p.isNone))) ((execOp a.eval o).run P w):=by
  simp only[execOp,ho,hz,hz',Sem.run_bind,Sem.run_pure,Result.andThen_ok,hg,hrun]
  exact bd (.raw _)
 refine oT hU fun v w' hE hv=>hn _ _ _ E (h p.isNone) ?_ (.ext hE) (Below.ij hE hs.sat.bl)
 rw[hd]
 exact hs.put (hs.sat.ext hE) (.ext hE) hN hv
theorem qh{ty e s n h:Nat}{x hi' mx:Operand}{xs:List PV}{k k':IntKind}{hii mi:Int}(ho:o.op= .slice ty x none (some hi') (some mx))(he:wj P ty=some (e,s))(hx:aC t x=some (.slice n xs))(hhi:aC t hi'=some (.raw (.int k hii)))(hmx:aC t mx=some (.raw (.int k' mi)))(hxl:xs.length=n*s)(hli:hii=(h:Int))(hmi:mi=(h:Int))(hl:h≤n):
  bg P σ t o (.slice h (xs.take (h*s))):=by
 intro F base E ρ w hρ hS hT
 have h1:=aw hρ hT hx
 have h2:=aw hρ hT hhi
 have h3:=aw hρ hT hmx
 obtain⟨hu,i,hi,hs⟩:=fT he
 generalize hz:ρ x=v at h1
 generalize hz':ρ hi'=u at h2
 generalize hz2:ρ mx=u2 at h3
 cases h2
 cases h3
 subst hli
 subst hmi
 obtain⟨a,c,rfl,hc1,hc2⟩:=oX h1
 have hR:=ql (s:=s) (l:=0) h1 hxl (Nat.zero_le _) hl (Nat.le_refl h) (Nat.le_trans hl hc1)
 have hrun:(Instr.sliceAt ty (.slice a n c) none (some (.int k (h:Int))) (some (.int k' (h:Int)))).run P w= .ok (.slice (if h=0 then a else a.map (·.add (0*s))) (h - 0) (h - 0)) w:=by
  have:h≤c:=Nat.le_trans hl hc1
  simp[Instr.sliceAt,run_underlying hu,Instr.slice,Instr.sliceBounds,Instr.sliceBound,asIntOf,this,sizeOf,typeInfo,hi]
 simp only[execOp,ho,hz,hz',hz2,Option.map_some,Option.map_none,Sem.run_bind,hrun,Result.andThen_ok,Sem.run_pure]
 refine bd ?_
 simpa using hR
end
theorem I8:uX Tryz.prog 39=true:=by kernel_rfl
theorem mr(l:List bW)(hl:l.length≤1000):Can Tryz.prog 142 [cn l] (· =cn l):=by
 refine aF Tryz.func142 rfl Tryz.ntmps142 rfl<|ab (.a 1 rfl<|.k [0] rfl)<|aj<|aQ (WR.mono (K:=fun s=>∃b:Bool,s=⟨[(0,cn l),(4,.raw (.bool b))],[]⟩∧(b=true→l=[])) ?_ ?_)
 ·cases l with
  |nil=>exact au 1 rfl<|tI rfl I8 rfl rfl rfl rfl rfl fun b=>aH [0,4] rfl ⟨b,rfl,fun _=>rfl⟩
  |cons a l=>exact au 1 rfl<|bA (mU rfl I8 rfl rfl (Nat.succ_pos _)) rfl rfl rfl<|aH [0,4] rfl ⟨_,rfl,fun h=>by cases h⟩
 rintro _ ⟨b,rfl,hb⟩
 refine ah rfl (fun hc=>?_) (fun hc=>?_)
 ·have:l=[]:=hb hc
  subst this
  exact ab (.a 1 rfl<|.k [2] rfl)<|aq<|⟨_,_,aA.of rfl,aB.b9,rfl⟩
 ·refine ak<|aQ<|ca (j8 rfl (bE.sl.get rfl)) rfl<|au 1 rfl<|ca (aY rfl (bE.rk.get rfl) rfl rfl rfl (lU l) (by unfold maxLen;omega)) rfl<|au 1 rfl<|aH [2] rfl ?_
  refine aq<|⟨_,_,aA.of rfl,aB.ey (xs:=eC l) (ys:=eC l) rfl an.pure,?_⟩
  rw[Nat.zero_add];rfl
theorem lR{P:Program}{σ:cd}{t:bZ}{o:Oper}{ty:TypeId}{x lo:Operand}{s:bW}{l:List bW}{k:IntKind}(ho:o.op= .slice ty x (some lo) none none)(he:wj P ty=some (103,2))(hx:aC t x=some (.slice (s::l).length (eC (s::l))))(hlo:aC t lo=some (.raw (.int k 1))):bg P σ t o (.slice l.length (eC l)):=by
 have h:=zC (l:=1) (σ:=σ) ho he hx hlo (lU _) rfl (by simp)
 have e:((eC (s::l)).drop (1*2)).take (((s::l).length - 1)*2)=eC l:=by
  show(eC l).take _=_
  refine List.take_of_length_le ?_
  rw[lU];simp
 rw[e]at h
 exact h
theorem ES{T:ai}{D:List Bool}{n d:Int}(h:ir T D n d≠0):j9 T D n d=⟨[],false,[]⟩:=xV fun hh=>h hh.1
theorem Fy{T:ai}{D:List Bool}{n d:Int}(h:ir T D n d≠0)(h':ir T D n d≠11):cB T D n d=ir T D n d:=by
 unfold ir at*
 split at h<;>simp_all
theorem Hr{T:ai}{D:List Bool}{n d:Int}(h:ir T D n d=0∨ir T D n d=11):cB T D n d=0:=by
 unfold ir at h
 split at h
 ·assumption
 ·rename_i hh
  rcases h with h|h
  ·exact h
  ·exfalso
   unfold cB cO at h
   split at h<;>(try split at h)<;>(try split at h)<;>omega
def IW(e:Int)(x:iw):PV:=.tuple [ua x,num e]
theorem uO(T:ai)(D:List Bool)(n d:Int)(hlk:T.af.length≤256)(h12:T.nodes≤12):Can Tryz.prog 124 [aP T,bf D,num n,num d] (· =IW (cB T D n d) (j9 T D n d)):=by
 obtain⟨c1,hc1⟩:∃q,decide (ir T D n d≠0)=q:=⟨_,rfl⟩
 obtain⟨c2,hc2⟩:∃q,decide (ir T D n d≠11)=q:=⟨_,rfl⟩
 refine aF Tryz.func124 rfl Tryz.ntmps124 rfl<|aQ<|au 3 rfl<|aH [1,2,3,4,8] rfl ?_
 refine ab (.a 4 rfl<|.c rfl (xq T D n d) rfl<|.a 5 rfl<|.k [1,2,4,8,10,11] rfl)<|aj<|bC 27 (.raw (.bool (c1&&c2))) [1,2,4,8,10,11] rfl ?_ ?_
 ·refine .a 1 rfl<|.v (cC rfl (hc1)) rfl<|.a 1 rfl<|?_
  cases c1
  ·exact .a 3 rfl<|.k [27,1,2,4,8,10,11] rfl
  ·exact .a 1 rfl<|.v (cC rfl (hc2)) rfl<|.a 1 rfl<|.k [27,1,2,4,8,10,11] rfl
 refine ah rfl (fun h1=>?_) (fun h1=>?_)
 ·obtain⟨rfl,rfl⟩:=Bool.and_eq_true_iff.1 h1
  have e1:=tt hc1
  rw[ES e1,Fy e1 (tt hc2)]
  refine aQ<|au 4 rfl<|aH [8,9] rfl ?_
  exact aq<|⟨_,_,aA.of rfl,aB.bG (an.cons (aB.jb (an.cons aB.b9<|an.cons aB.pure<|an.cons aB.b9 an.nil)) (an.cons aB.pure an.nil)),rfl⟩
 ·have e2:ir T D n d=0∨ir T D n d=11:=by
   rcases Bool.and_eq_false_iff.1 h1 with h|h
   ·subst h;exact .inl (Classical.byContradiction (ff hc1))
   ·subst h;exact .inr (Classical.byContradiction (ff hc2))
  rw[Hr e2]
  clear h1 hc1 hc2
  obtain⟨P,hP⟩:∃P,(if ir T D n d=0 then ct T D n.toNat d.toNat else [])=P:=⟨_,rfl⟩
  rw[hP]
  refine ak<|aj<|ab (.a 3 rfl<|.k [1,2,4,8,10,32] rfl)<|ah rfl (fun h2=>?_) (fun h2=>?_)
  ·have hno:¬(ir T D n d=0∧n≠d):=by
    rintro⟨h3,h4⟩
    rw[if_pos h3]at hP
    obtain⟨a,b,rfl,rfl,hp⟩:=wv h3 h4
    have:=tt h2
    have:=hp.pos
    rw[←hP]at*
    simp only[Int.toNat_natCast]at*
    omega
   rw[xV hno]
   refine aQ<|au 3 rfl<|aH [8,9] rfl ?_
   exact aq<|⟨_,_,aA.of rfl,aB.bG (an.cons (aB.jb (an.cons aB.b9<|an.cons aB.pure<|an.cons aB.b9 an.nil)) (an.cons aB.pure an.nil)),rfl⟩
  ·obtain⟨p0,q,rfl⟩:∃p0 q,P=p0::q:=by
    cases P with
    |nil=>exact absurd rfl (ff h2)
    |cons p0 q=>exact⟨_,_,rfl⟩
   have h3:ir T D n d=0:=by
    rcases e2 with h|h
    ·exact h
    ·rw[h]at hP;simp at hP
   rw[if_pos h3]at hP
   have h4:n≠d:=by
    rintro rfl
    obtain⟨a,b,ha,hb,_,_,hv',hsp⟩:=oq h3
    have:a=b:=by omega
    subst this
    have:=hsp.self
    rw[this]at hP
    cases hP
   obtain⟨a,b,rfl,rfl,hp⟩:=wv h3 h4
   simp only[Int.toNat_natCast]at hP
   have hent:=sW hp
   rw[hP]at hp hent
   have hpl:=hp.len
   obtain⟨s,l,hl,hs⟩:=wb (T:=T) (n:=(a:Int)) hp.pos
   have hll:=hp.Bi.2
   rw[hl]at hent hll
   have hsl:=sF T D (p0::q) a (by simp only[List.length_cons]at hpl ⊢;omega) hlk h12
   rw[hl]at hsl
   unfold qb at hsl
   rw[hp.zero,if_pos rfl]at hsl
   clear h2 e2 hl hs hp hP h3 h4
   simp only[List.length_cons]at hll hpl
   rw[show(p0::q).getD 0 0=p0 from rfl]at hent
   refine ak<|ab (.a 4 rfl<|.c rfl (hsl) rfl<|.a 5 rfl<|.k [8,10,12] rfl)<|aj<|ab (.a 1 rfl<|.v (aI (0) rfl (by omega) (by simp only[List.length_cons];omega)) rfl<|.a 1 rfl<|.v (aL rfl ((show(eC (s::l))[0]? =some (num s.kind) from rfl))) rfl<|.a 1 rfl<|.k [8,10,12,46] rfl)<|ah rfl (fun h5=>?_) (fun h5=>?_)
   ·have hc:kO (s::l)=l:=if_pos (tt h5)
    rw[hc]at hent
    have hlm:l.length≤32:=by omega
    refine ay (.a 1 rfl<|.v (lR rfl (bE.el.get rfl) rfl rfl) rfl<|.a 1 rfl<|.k [8,10,12] rfl) ?_
    refine aj<|ab (.a 3 rfl<|.k [8,10,12,51] rfl)<|ah rfl (fun h6=>?_) (fun h6=>?_)
    ·exact absurd (tt h6) (by omega)
    ·clear h6
     refine ak<|kY 5 20 mixed (
      .val [10] rfl (bF rfl) rfl rfl<|
      .val [53] rfl (qh (h:=1) rfl (bE.el.get rfl) rfl rfl rfl (show(aN (p0::q)).length=_ by simp[aN]) rfl rfl (by simp)) rfl rfl<|
      .val [12] rfl (bF rfl) rfl rfl<|
      .val [55] rfl (fm rfl (mr _ (by omega))) rfl rfl<|
      .val [54,56] rfl (bF rfl) rfl rfl<|
      .nil) (by kernel_rfl) rfl rfl (bh (ks:=[8,57]) rfl) ?_
     refine au 2 rfl<|aH [8,9] rfl ?_
     exact aq<|⟨_,_,aA.of rfl,aB.bG (an.cons (aB.jb (an.cons (aB.pure (p:=ax [p0]))<|an.cons aB.pure<|an.cons (aB.pure (p:=cn _)) an.nil)) (an.cons aB.pure an.nil)),by rw[hent];rfl⟩
   ·have hc:kO (s::l)=s::l:=if_neg (ff h5)
    rw[hc]at hent
    have hlm:(s::l).length≤32:=by simp only[List.length_cons];omega
    refine ak<|aj<|ab (.a 3 rfl<|.k [8,10,12,51] rfl)<|ah rfl (fun h6=>?_) (fun h6=>?_)
    ·exact absurd (tt h6) (by omega)
    ·clear h6
     refine ak<|kY 5 20 mixed (
      .val [10] rfl (bF rfl) rfl rfl<|
      .val [53] rfl (qh (h:=1) rfl (bE.el.get rfl) rfl rfl rfl (show(aN (p0::q)).length=_ by simp[aN]) rfl rfl (by simp)) rfl rfl<|
      .val [12] rfl (bF rfl) rfl rfl<|
      .val [55] rfl (fm rfl (mr _ (by omega))) rfl rfl<|
      .val [54,56] rfl (bF rfl) rfl rfl<|
      .nil) (by kernel_rfl) rfl rfl (bh (ks:=[8,57]) rfl) ?_
     refine au 2 rfl<|aH [8,9] rfl ?_
     exact aq<|⟨_,_,aA.of rfl,aB.bG (an.cons (aB.jb (an.cons (aB.pure (p:=ax [p0]))<|an.cons aB.pure<|an.cons (aB.pure (p:=cn _)) an.nil)) (an.cons aB.pure an.nil)),by rw[hent];rfl⟩
end PW
end Go.Proofs.YtnegbdpggideiaaGreatDoor
namespace Go.Proofs.YtnegbdpggideiaaGreatDoor
namespace PW
open Go.RowKit cA Mem
section
variable {P:Program} {σ:cd} {t:bZ} {o:Oper}
theorem uZ{ty e s:Nat}{x:Operand}(ho:o.op= .call {callee:=.builtin .cap,args:= #[x],argTypes:= #[ty]})(he:wj P ty=some (e,s))(hx:aC t x=some (.raw (.slice none 0 0))):bg P σ t o (.raw (.int .i64 0)):=by
 intro F base E ρ w hρ _ hT
 have h1:=aw hρ hT hx
 obtain⟨hu,_⟩:=fT he
 generalize hz:ρ x=z at h1
 cases h1
 simp[execOp,ho,resolve,invoke,builtin,Builtin.cap_,hz,run_underlying hu,goInt]
 exact bd (.raw _)
theorem xw{ty e s:Nat}{x hi':Operand}{k:IntKind}(ho:o.op= .slice ty x none (some hi') none)(he:wj P ty=some (e,s))(hx:aC t x=some (.raw (.slice none 0 0)))(hhi:aC t hi'=some (.raw (.int k 0))):bg P σ t o (.raw (.slice none 0 0)):=by
 intro F base E ρ w hρ _ hT
 have h1:=aw hρ hT hx
 have h2:=aw hρ hT hhi
 obtain⟨hu,inf,hinf,hs⟩:=fT he
 generalize hz:ρ x=z at h1
 generalize hz':ρ hi'=z' at h2
 cases h1
 cases h2
 have hr:(execOp ρ o).run P w= .ok (.value (.slice none 0 0)) w:=by
  simp[execOp,ho,hz,hz',Instr.sliceAt,run_underlying hu,Instr.slice,Instr.sliceBounds,Instr.sliceBound,asIntOf,sizeOf,typeInfo,hinf]
 rw[hr]
 exact bd (.raw _)
theorem vW{P:Program}(w:World)(t tx ty e:TypeId)(i:TypeInfo)(z:Value)(ht:P.underlying t=some (.slice e))(hx:P.underlying tx=some (.int .i64))(hi:P.info? e=some i)(hz:i.zero=some z)(hp:0<i.size)(n:Nat)
  (h0:0<n) (h63:(n:Int)≤9223372036854775807) (h48:n*i.bytes≤281474976710656):
  (Builtin.append_ #[t,tx] ty #[.slice none 0 0,.int .i64 (n:Int)]).run P w=
   .ok (.slice (some ⟨w.heap.size,0,none⟩) n (grownCap w n 0 e)) (w.drew.alloc (.cells (Builtin.zeroCells z.cells n++Builtin.zeroCells z.cells (grownCap w n 0 e - n)) e)):=by
 have hn:n≠0:=by omega
 have hp':i.size≠0:=by omega
 have h63':¬(9223372036854775807<(n:Int)):=by omega
 have h48':¬(281474976710656<Builtin.nextslicecap n 0*i.bytes):=by rw[nextslicecap_zero h0];omega
 have hw:IntKind.i64.wrap (n:Int)=n:=jg (by unfold In64;omega)
 have hb:¬(281474976710656<(n:Int)*(i.bytes:Int)):=by
  have:((n*i.bytes:Nat):Int)≤281474976710656:=by omega
  rw[Int.natCast_mul]at this
  omega
 have qY:¬((n:Int)<0):=by omega
 simp[Builtin.append_,run_underlying ht,run_underlying hx,sizeOf,typeInfo,zeroValue,hi,hz,asInt,asIntOf,hw,hb,qY,hn,hp',h63',h48',Question.forced,run_firstCells_none,newRow,grownCap]
 exact fun h=>absurd h (Nat.mul_ne_zero hn hp')
theorem AO{ty tx e s by':Nat}{z:List Value}{x y:Operand}{n:Nat}{m:Int}(ho:o.op= .call {callee:=.builtin .append,args:= #[x,y],argTypes:= #[ty,tx]})(hk:vI P ty=some (e,s,by',z))(htx:P.underlying tx=some (.int .i64))(hx:aC t x=some (.raw (.slice none 0 0)))(hy:aC t y=some (.raw (.int .i64 m)))(hm:m=(n:Int))(h0:0<n)(hn:n≤maxLen∧n*by'≤281474976710656):
  cK P σ t o (.own σ.length) (σ++[some (.row e s n (dp (z.map .raw) n))]):=by
 intro F base E ρ w hρ hS hT
 have h1:=aw hρ hT hx
 have h2:=aw hρ hT hy
 generalize hz1:ρ x=v1 at h1
 generalize hz2:ρ y=v2 at h2
 cases h1;cases h2
 subst hm
 obtain⟨hu,i,z',hi,hs,hby,hz,hzz,hzs,hpos⟩:=nJ hk
 have hsm:n≤9223372036854775807:=by have:=hn.1;simp only[maxLen]at this;omega
 have hrun:=vW (P:=P) w ty tx o.type e i z' hu htx hi hz (by omega) n h0 (by omega) (by rw[hby];exact hn.2)
 have hr:(execOp ρ o).run P w= .ok (.value (.slice (some ⟨w.heap.size,0,none⟩) n (grownCap w n 0 e))) (w.drew.alloc (.cells (Builtin.zeroCells z'.cells n++Builtin.zeroCells z'.cells (grownCap w n 0 e - n)) e)):=by
  simp only[execOp,ho,resolve,invoke,builtin,Sem.run_bind,Sem.run_pure,Result.andThen_ok,List.map_toArray,List.map_cons,List.map_nil,hz1,hz2,hrun]
 have hge:=grownCap_ge w n 0 e
 have hcm:grownCap w n 0 e≤maxLen:=grownCap_le_maxLen w n 0 e hn.1
 have hzc:(Builtin.zeroCells z'.cells n).size=n*s:=by rw[size_zeroCells,hzs]
 have hown:(w.drew.alloc (.cells (Builtin.zeroCells z'.cells n++Builtin.zeroCells z'.cells (grownCap w n 0 e - n)) e)).ownsRow base e s (.slice (some ⟨w.heap.size,0,none⟩) n (grownCap w n 0 e)) n (Builtin.zeroCells z'.cells n).toList:=by
  refine⟨by rw[Array.length_toList,hzc],.inr ⟨w.heap.size,_,_,rfl,hS.bl,heap_alloc_new w.drew _,hge,hcm,?_,?_⟩⟩
  ·simp only[Array.size_append,size_zeroCells,hzs,←Nat.add_mul]
   congr 1
   omega
  ·simp only[Array.toList_append]
   rw[←hzc,←Array.length_toList]
   exact List.take_left
 have hg:w.grownBy (w.drew.alloc (.cells (Builtin.zeroCells z'.cells n++Builtin.zeroCells z'.cells (grownCap w n 0 e - n)) e)) none:=⟨rfl,rfl,rfl,by simp,fun k hk _=>heap_alloc_old w.drew _ hk⟩
 have hR:aU E w (Builtin.zeroCells z'.cells n).toList (dp (z.map .raw) n):=by
  rw[←hzz];exact lK z'.cells n (n*z'.cells.size) rfl
 obtain⟨a1,a2,a3,a4⟩:=mZ hS (nD hg) (fun b h=>by simp[bp]at h;omega) hown hR
 exact⟨_,_,_,.inl hr,a1,a2,a3,a4⟩
end
end PW
end Go.Proofs.YtnegbdpggideiaaGreatDoor
namespace Go.Proofs.YtnegbdpggideiaaGreatDoor
namespace PW
open Go.RowKit cA Mem Net eS
theorem qC(l:List Int)(hl:l.length≤1000):Can Tryz.prog 144 [ax l] (· =ax l):=by
 refine aF Tryz.func144 rfl Tryz.ntmps144 rfl<|ab (.a 1 rfl<|.k [0] rfl)<|aj<|aQ (WR.mono (K:=fun s=>∃b:Bool,s=⟨[(0,ax l),(4,.raw (.bool b))],[]⟩∧(b=true→l=[])) ?_ ?_)
 ·cases l with
  |nil=>exact au 1 rfl<|tI rfl HL rfl rfl rfl rfl rfl fun b=>aH [0,4] rfl ⟨b,rfl,fun _=>rfl⟩
  |cons a l=>exact au 1 rfl<|bA (mU rfl HL rfl rfl (Nat.succ_pos _)) rfl rfl rfl<|aH [0,4] rfl ⟨_,rfl,fun h=>by cases h⟩
 rintro _ ⟨b,rfl,hb⟩
 refine ah rfl (fun hc=>?_) (fun hc=>?_)
 ·have:l=[]:=hb hc
  subst this
  exact ab (.a 1 rfl<|.k [2] rfl)<|aq<|⟨_,_,aA.of rfl,aB.b9,rfl⟩
 ·refine ak<|aQ<|ca (j8 rfl (bE.sl.get rfl)) rfl<|au 1 rfl<|ca (aY rfl (bE.rk.get rfl) rfl rfl rfl (show(aN l).length=l.length*1 by simp[aN]) (by unfold maxLen;omega)) rfl<|au 1 rfl<|aH [2] rfl ?_
  refine aq<|⟨_,_,aA.of rfl,aB.ey (xs:=aN l) (ys:=aN l) rfl an.pure,?_⟩
  rw[Nat.zero_add];rfl
theorem zE(n:Nat)(hn:n≤1000):bS Tryz.prog 172 [.raw (.slice none 0 0),num n] [] (fun r σ'=>r= .own 0∧σ'=[some (.row 103 2 0 [])]):=by
 refine cp Tryz.func172 rfl Tryz.ntmps172 rfl<|ab (.a 1 rfl<|.k [0,1] rfl)<|aj<|ab (.a 2 rfl<|.k [0,1,6] rfl)<|ah rfl (fun h1=>?_) (fun h1=>?_)
 ·exact absurd (tt h1) (by omega)
 ·clear h1
  refine ak<|aj<|ab (.a 2 rfl<|.v (uZ rfl (bE.el.get rfl) rfl) rfl<|.a 1 rfl<|.v (pw rfl (bE.el.get rfl) rfl) rfl<|.v (aR rfl) rfl<|.v (aR rfl) rfl<|.a 1 rfl<|.k [0,1] rfl)<|ab (.a 2 rfl<|.k [0,1,16] rfl)<|ah rfl (fun h2=>?_) (fun h2=>?_)
  ·have hpos:0<n:=by have:=tt h2;omega
   refine ba<|au 2 rfl<|bz (uZ rfl (bE.el.get rfl) rfl) rfl<|bz (xw rfl (bE.el.get rfl) rfl rfl) rfl<|au 1 rfl<|ca (AO (n:=n) rfl (bE.rk.get rfl) Tryz.underlying3 rfl rfl (by omega) hpos (by unfold maxLen;omega)) rfl<|au 1 rfl<|bz (pw rfl (bE.el.get rfl) rfl) rfl<|ca (mW (h:=0) rfl (bE.el.get rfl) rfl rfl rfl rfl (by omega)) rfl<|au 1 rfl<|aH [0] rfl ?_
   refine cU [1] (.c 0<|.nil) (.kept rfl (.row az.nil)<|.nil) rfl rfl ?_
   exact ab (.a 2 rfl<|.k [4] rfl)<|aq<|⟨_,aA.of rfl,rfl,rfl⟩
  ·refine dW 0 103 2 rfl ?_
   exact ak<|ab (.a 2 rfl<|.k [4] rfl)<|aq<|⟨_,aA.of rfl,rfl,rfl⟩
def qw(A B:List bW)(i:Nat):List bW:=if i=0 then [] else if i=1 then A else A++B
def Fz(A B:List bW)(i:Nat):List bW:=if i=0 then A else B
theorem uP(A B:List bW){i:Nat}(h:i<2):qw A B (i+1)=qw A B i++Fz A B i:=by
 rcases(show i=0∨i=1 by omega)with rfl|rfl<;>rfl
theorem oR(A B:List bW)(i:Nat):(qw A B i).length≤A.length+B.length:=by
 unfold qw
 split
 ·simp
 ·split<;>simp
theorem ox(A B:List bW)(hl:A.length+B.length≤1000):Can Tryz.prog 145 [.slice 2 [cn A,cn B]] (· =cn (A++B)):=by
 refine aF Tryz.func145 rfl Tryz.ntmps145 rfl ?_
 have hg:=zE (A++B).length (by simpa using hl)
 refine ab (.a 1 rfl<|.k [0] rfl)<|ab (.a 1 rfl<|.k [0,3] rfl)<|aj<|ab (.a 3 rfl<|.k [0,3,9,10,11] rfl)<|av<|eZ [0,3,9,10,11] rfl<|bw (fun r s=>∃i,i≤2∧r=2 - i∧s=⟨[(0,.slice 2 [cn A,cn B]),(3,num (qw A B i).length),(9,.slice 2 [cn A,cn B]),(10,num 2),(11,num i)],[]⟩) 2 ⟨0,by omega,by omega,rfl⟩ ?_
 rintro r s ⟨i,hi,rfl,rfl⟩
 refine ab (.a 1 rfl<|.k [0,3,9,10,11,12] rfl)<|aj<|ah rfl (fun h1=>?_) (fun h1=>?_)
 ·have hlt:i<2:=by have:=tt h1;omega
  have hc1:=oR A B i
  have hc2:=oR A B (i+1)
  have hst:=congrArg List.length (uP A B hlt)
  rw[List.length_append]at hst
  have hget:[cn A,cn B][i]? =some (cn (Fz A B i)):=by
   rcases(show i=0∨i=1 by omega)with rfl|rfl<;>rfl
  clear h1
  refine ak<|aj<|av<|ab (.v (aI (i) rfl) rfl<|.v (aL rfl (hget)) rfl<|.a 1 rfl<|.k [0,3,5,9,10,11] rfl)<|ab (.a 3 rfl<|.v (aR rfl (hc:=(show((qw A B i).length:Int)+((Fz A B i).length:Int)=((qw A B (i+1)).length:Int) by omega)) (hn:=(by unfold In64;omega))) rfl<|.a 1 rfl<|.k [0,3,9,10,11] rfl)<|ab (.a 2 rfl<|.k [0,3,9,10,11,20] rfl)<|ah rfl (fun h2=>?_) (fun h2=>?_)
  ·exact absurd (tt h2) (by omega)
  ·clear h2
   refine ak<|ay (.v (aR rfl) rfl<|.a 1 rfl<|.k [0,3,9,10,11] rfl) ?_
   exact⟨2 - (i+1),by omega,i+1,by omega,rfl,rfl⟩
 ·have hie:i=2:=by have:=ff h1;omega
  subst hie
  have hcat:qw A B 2=A++B:=rfl
  rw[hcat]
  clear h1
  refine bn<|aQ<|au 1 rfl<|cM rfl rfl (bS.mono hg (fun r σ' h=>?_))
  obtain⟨rfl,rfl⟩:=h
  refine au 1 rfl<|aH [0,6] rfl ?_
  refine aj<|ab (.a 3 rfl<|.k [6,25,26,27] rfl)<|av<|eZ [6,25,26,27] rfl<|bw (fun r s=>∃i,i≤2∧r=2 - i∧s=⟨[(6,.own 0),(25,.slice 2 [cn A,cn B]),(26,num 2),(27,num i)],[some (.row 103 2 (qw A B i).length (eC (qw A B i)))]⟩) 2 ⟨0,by omega,by omega,rfl⟩ ?_
  rintro r s ⟨i,hi,rfl,rfl⟩
  refine ab (.a 1 rfl<|.k [6,25,26,27,28] rfl)<|aj<|ah rfl (fun h1=>?_) (fun h1=>?_)
  ·have hlt:i<2:=by have:=tt h1;omega
   have hc1:=oR A B i
   have hc2:=oR A B (i+1)
   have hst:=uP A B hlt
   have hsl:=congrArg List.length hst
   rw[List.length_append]at hsl
   have hget:[cn A,cn B][i]? =some (cn (Fz A B i)):=by
    rcases(show i=0∨i=1 by omega)with rfl|rfl<;>rfl
   clear h1
   refine ak<|aj<|av<|ab (.v (aI (i) rfl) rfl<|.v (aL rfl (hget)) rfl<|.a 1 rfl<|.k [6,8,25,26,27] rfl)<|ba<|au 2 rfl<|ca (aY rfl (bE.rk.get rfl) rfl rfl rfl (lU _) (show _≤maxLen∧_*16≤140737488355328 by unfold maxLen;omega)) rfl<|au 1 rfl ?_
   refine cE [1] (.c 6<|.c 25<|.c 26<|.c 27<|.nil) (.kept rfl (.dr rfl (rfl))<|.nil) rfl rfl (aO ?_)
   refine ay (.v (aR rfl) rfl<|.a 1 rfl<|.k [6,25,26,27] rfl) ?_
   refine⟨2 - (i+1),by omega,i+1,by omega,rfl,?_⟩
   rw[hst,List.length_append]
   unfold eC
   rw[List.flatMap_append]
   rfl
  ·have hie:i=2:=by have:=ff h1;omega
   subst hie
   have hcat:qw A B 2=A++B:=rfl
   rw[hcat]
   clear h1
   exact bn<|ab (.a 2 rfl<|.k [2] rfl)<|aq<|⟨_,_,aA.of rfl,aB.ey rfl an.pure,rfl⟩
end PW
end Go.Proofs.YtnegbdpggideiaaGreatDoor
namespace Go.Proofs.YtnegbdpggideiaaGreatDoor
namespace PW
open Go.RowKit cA Mem Net eS
def Eo(v:Int):List Int→Nat→Int
 | [],_=> -1
 |a::l,i=>bif decide (v=a) then(i:Int) else Eo v l (i+1)
theorem yF(v:Int):∀(l:List Int) (i:Nat),0≤Eo v l i↔v∈l
 | [],i=>by simp[Eo]
 |a::l,i=>by
  simp only[Eo]
  by_cases h:v=a
  ·rw[decide_eq_true h,cond_true]
   exact⟨fun _=>by rw[h];exact List.mem_cons_self,fun _=>by omega⟩
  ·rw[decide_eq_false h,cond_false,yF v l (i+1),List.mem_cons]
   exact⟨.inr,fun h'=>h'.resolve_left h⟩
theorem EK(v:Int)(l:List Int)(i:Nat):decide (0≤Eo v l i)=decide (v∈l):=decide_eq_decide.2 (yF v l i)
theorem xH(l:List Int)(v:Int)(hl:l.length≤1000):Can Tryz.prog 143 [ax l,num v] (· =num (Eo v l 0)):=by
 refine aF Tryz.func143 rfl Tryz.ntmps143 rfl<|ab (.a 1 rfl<|.k [0,1] rfl)<|aj<|ab (.a 3 rfl<|.k [0,1,7,8] rfl)<|av<|eZ [0,1,7,8] rfl<|bw (fun r s=>∃i,i≤l.length∧r=l.length - i∧Eo v l 0=Eo v (l.drop i) i∧s=⟨[(0,ax l),(1,num v),(7,num l.length),(8,num i)],[]⟩) l.length ⟨0,by omega,by omega,rfl,rfl⟩ ?_
 rintro r s ⟨i,hi,rfl,hx,rfl⟩
 refine ab (.a 1 rfl<|.k [0,1,7,8,9] rfl)<|aj<|ah rfl (fun h1=>?_) (fun h1=>?_)
 ·have hlt:i<l.length:=by have:=tt h1;omega
  rw[drop_cons l i hlt]at hx
  simp only[Eo]at hx
  obtain⟨q,hq⟩:∃q,decide (v=l.getD i 0)=q:=⟨_,rfl⟩
  rw[hq]at hx
  refine ak<|aj<|av<|ab (.a 2 rfl<|.k [0,1,5,7,8] rfl)<|ab (.a 3 rfl<|.v (aI (i) rfl) rfl<|.v (aL rfl (aD l i hlt)) rfl<|.v (cC rfl (hq)) rfl<|.k [0,1,5,7,8,16] rfl)<|ah rfl (fun h2=>?_) (fun h2=>?_)
  ·subst h2
   rw[cond_true]at hx
   rw[hx]
   exact ab (.a 2 rfl<|.k [4] rfl)<|aq<|⟨_,_,aA.of rfl,aB.pure,rfl⟩
  ·subst h2
   rw[cond_false]at hx
   refine ak<|ay (.v (aR rfl) rfl<|.a 1 rfl<|.k [0,1,7,8] rfl) ?_
   exact⟨l.length - (i+1),by omega,i+1,by omega,rfl,hx,rfl⟩
 ·have hie:i=l.length:=by have:=ff h1;omega
  subst hie
  rw[List.drop_length]at hx
  rw[hx]
  exact bn<|ab (.a 1 rfl<|.k [4] rfl)<|aq<|⟨_,_,aA.of rfl,aB.pure,rfl⟩
theorem qQ(l:List Int)(v:Int)(hl:l.length≤1000):Can Tryz.prog 104 [ax l,num v] (· =flag (decide (v∈l))):=by
 obtain⟨q,hq⟩:∃q,decide (v∈l)=q:=⟨_,rfl⟩
 have hm:=(EK v l 0).trans hq
 rw[hq]
 exact aF Tryz.func104 rfl Tryz.ntmps104 rfl<|ab (.a 1 rfl<|.k [0,1] rfl)<|ab (.a 2 rfl<|.c rfl (xH l v hl) rfl<|.v (cC rfl (hm)) rfl<|.a 1 rfl<|.k [4] rfl)<|aq<|⟨_,_,aA.of rfl,aB.pure,rfl⟩
structure fh where
 id:Int
 src:Int
 dst:Int
 pD:Int
 stack:List bW
 gA:Int
def dK(p:fh):List PV:=[num p.id,num p.src,num p.dst,num p.pD,cn p.stack,num p.gA]
def eJ(p:fh):PV:=.agg (dK p)
instance (p:fh):aG (dK p):=by unfold dK;infer_instance
instance (p:fh):IsPure (eJ p):=by unfold eJ;infer_instance
structure Out where
 aK:List Int
 eY:fh
 dJ:Int
def A3(r:Out):PV:=.tuple [ax r.aK,eJ r.eY,num r.dJ]
def gJ(p:fh)(r:Int):Out:=⟨[],p,r⟩
def eA(p:fh)(s:List bW)(aK:List Int):Out:=⟨aK,⟨p.id,p.src,p.dst,p.pD,s,p.gA+1⟩,0⟩
def iS(p:fh)(s:List bW)(e:iw):Out:=
 if e.rep then(if 32<(e.push++s.drop 1).length then gJ p 5 else eA p (e.push++s.drop 1) e.aK) else eA p s e.aK
theorem pQ(p:fh)(s:List bW)(hl:s.length≤1000):Can Tryz.prog 102 [eJ p,cn s] (· =eJ ⟨p.id,p.src,p.dst,p.pD,s,p.gA⟩):=by
 refine aF Tryz.func102 rfl Tryz.ntmps102 rfl<|aQ<|ca (fw rfl rfl rfl) rfl<|au 1 rfl<|aH [1,2,4] rfl ?_
 refine aQ<|au 1 rfl<|ek rfl (mr s hl) rfl<|au 2 rfl<|aH [2,4] rfl ?_
 refine aQ<|au 2 rfl<|aH [4] rfl ?_
 exact aq<|⟨_,_,aA.of rfl,aB.pure (p:=eJ ⟨p.id,p.src,p.dst,p.pD,s,p.gA⟩),rfl⟩
theorem fP(p:fh)(r:Int)(hl:p.stack.length≤1000):Can Tryz.prog 101 [eJ p,num r] (· =A3 (gJ p r)):=by
 refine aF Tryz.func101 rfl Tryz.ntmps101 rfl<|aQ<|au 4 rfl<|aH [1,2,5] rfl ?_
 refine aQ<|au 2 rfl<|bz (aL rfl ((rfl:(dK p)[4]? =some (cn p.stack)))) rfl<|ek rfl (pQ p p.stack hl) rfl<|au 4 rfl<|aH [4,5,6] rfl ?_
 exact aq<|⟨_,_,aA.of rfl,aB.bG (an.cons aB.b9<|an.cons (aB.pure (p:=eJ p))<|an.cons aB.pure an.nil),rfl⟩
theorem lS(p:fh)(s:List bW)(aK:List Int)(hl:s.length≤1000)(ha:aK.length≤1000)(hh:0≤p.gA∧p.gA≤1000):Can Tryz.prog 105 [eJ p,cn s,ax aK] (· =A3 (eA p s aK)):=by
 refine aF Tryz.func105 rfl Tryz.ntmps105 rfl<|aQ<|ca (fw rfl rfl rfl) rfl<|au 3 rfl<|aH [1,2,3,7] rfl ?_
 refine aQ<|au 2 rfl<|ek rfl (pQ p s hl) rfl<|au 1 rfl<|aH [2,3,7] rfl ?_
 refine aQ<|au 2 rfl<|bz (aR rfl (hn:=(show In64 (p.gA+1) by unfold In64;omega))) rfl<|au 2 rfl<|aH [2,3,7] rfl ?_
 refine kY 4 20 mixed (
  .val [2] rfl (bF rfl) rfl rfl<|
  .val [16] rfl (fm rfl (qC aK ha)) rfl rfl<|
  .val [3] rfl (bF rfl) rfl rfl<|
  .val [17] rfl (bF rfl) rfl rfl<|
  .nil) (by kernel_rfl) rfl rfl (bh (ks:=[6,7,18]) rfl) ?_
 refine au 2 rfl<|aH [6,7,8] rfl ?_
 exact aq<|⟨_,_,aA.of rfl,aB.bG (an.cons (aB.pure (p:=ax aK))<|an.cons (aB.pure (p:=eJ ⟨p.id,p.src,p.dst,p.pD,s,p.gA+1⟩))<|an.cons aB.pure an.nil),rfl⟩
end PW
end Go.Proofs.YtnegbdpggideiaaGreatDoor
