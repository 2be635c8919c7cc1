/- Texts of the proof, part 15. -/
import Derived.Test.YtnegbdpggideiaaGreatDoorCardXLB14
set_option linter.unusedVariables false
set_option linter.unusedSimpArgs false
set_option maxRecDepth 10000
set_option maxHeartbeats 1000000
namespace Go.Proofs.YtnegbdpggideiaaGreatDoor
namespace PW
section
open Go.RowKit cE Mem Net eY
noncomputable def yJ(T:an)(k x:Int):List Bool:=if eA T k x=0 then aE T k x else []
noncomputable def yc(c:ya):Bool:= !oq c&&(((fS c.T c.k c.x c.S&& !pg c.k c.x c.n)&& !pg c.k c.x c.d)&&iT c.T (yJ c.T c.k c.x) c.n c.d)
def AJ(c:ya):Bool:=dU c.k c.x (fun n=>nL (fB c.S n)) c.S.length
theorem ry(T:an)(k x:Int):Can Tryz.prog 32 [aN T,cq k x] (· = .tuple [bq (yJ T k x),num (eA T k x)]):=td T k x
theorem xn(c:ya)(hy:oq c=true):Can Tryz.prog 29 [rq c] (· =flag false):=by
 have hla:=pY c
 rw[hy]at hla
 refine aI Tryz.func29 I Tryz.ntmps29 I<|ab (.a 2 I<|.k [1] I)<|aj<|bE 30 (.raw (.bool (true))) [1] I ?_ ?_
 ·exact .a 1 I<|.c rfl (hla) I<|.a 24 I<|.k [30,1] I
 refine ah I (fun hc=>?_) (fun hc=>?_)
 ·exact ab (.a 1 I<|.k [2] I)<|ao<|⟨_,_,az.of I,ay.pure,rfl⟩
 ·cases hc
theorem vI(c:ya)(hy:oq c=false):Can Tryz.prog 29 [rq c] (· =flag (((fS c.T c.k c.x c.S&& !pg c.k c.x c.n)&& !pg c.k c.x c.d)&&iT c.T (yJ c.T c.k c.x) c.n c.d)):=by
 obtain⟨s1,s2,s3⟩:=w7 hy
 have hla:=pY c
 rw[hy]at hla
 have hpm:=Cu c.T c.k c.x c.S (by omega)
 have hg1:=ky c.k c.x c.n
 have hg2:=ky c.k c.x c.d
 obtain⟨q1,hq1⟩:∃q,fS c.T c.k c.x c.S=q:=⟨_,rfl⟩
 obtain⟨q2,hq2⟩:∃q,pg c.k c.x c.n=q:=⟨_,rfl⟩
 obtain⟨q3,hq3⟩:∃q,pg c.k c.x c.d=q:=⟨_,rfl⟩
 rw[hq1]at hpm
 rw[hq2]at hg1
 rw[hq3]at hg2
 rw[hq1,hq2,hq3]
 refine aI Tryz.func29 I Tryz.ntmps29 I<|ab (.a 2 I<|.k [1] I)<|aj<|bE 30 (.raw (.bool ((!q1 ||q2)||q3))) [1] I ?_ ?_
 ·refine .a 1 I<|.c rfl (hla) I<|.a 2 I<|.v (fG I (rfl) I) I<|.a 4 I<|.c rfl (hpm) I<|.a 3 I<|?_
  cases q1
  ·exact .a 13 I<|.k [30,1] I
  ·refine .a 4 I<|.c rfl (hg1) I<|.a 2 I<|?_
   cases q2
   ·exact .a 4 I<|.c rfl (hg2) I<|.a 1 I<|.k [30,1] I
   ·exact .a 6 I<|.k [30,1] I
 refine ah I (fun h1=>?_) (fun h1=>?_)
 ·skip
  exact ab (.a 1 I<|.k [2] I)<|ao<|⟨_,_,az.of I,ay.pure,by cases q1<;>cases q2<;>cases q3<;>first|rfl|cases h1⟩
 ·have h2:((q1&& !q2)&& !q3)=true:=by cases q1<;>cases q2<;>cases q3<;>first|rfl|cases h1
  rw[h2]
  exact ai<|ab (.a 1 I<|.v (fG I (rfl) I) I<|.a 2 I<|.c rfl (ry c.T c.k c.x) I<|.a 5 I<|.k [1,3] I)<|ab (.a 1 I<|.v (fG I (rfl) I) I<|.a 5 I<|.c rfl (zi c.T (yJ c.T c.k c.x) c.n c.d) I<|.a 1 I<|.k [2] I)<|ao<|⟨_,_,az.of I,ay.pure,by rw[Bool.true_and];rfl⟩
theorem pV(c:ya):Can Tryz.prog 29 [rq c] (· =flag (yc c)):=by
 unfold yc
 cases hy:oq c with
 |true=>exact xn c hy
 |false=>exact vI c hy
theorem BE(c:ya)(hl:c.S.length≤1000):Can Tryz.prog 30 [rq c] (· =flag (AJ c)):=by
 obtain⟨S,hS⟩:∃S,c.S=S:=⟨_,rfl⟩
 unfold AJ
 rw[hS]at hl ⊢
 refine aI Tryz.func30 I Tryz.ntmps30 I<|ab (.a 2 I<|.k [1] I)<|aj<|ab (.a 1 I<|.v (aJ I ((show some (au c.S)=some (au S) by rw[hS]))) I<|.a 2 I<|.k [1,6,7,8] I)<|aw<|eS [1,6,7,8] I<|bu (fun r s=>∃m,m≤S.length∧r=S.length - m∧dU c.k c.x (fun n=>nL (fB S n)) m=true∧s=⟨[(1,.bc (Bz c) 0),(6,au S),(7,num S.length),(8,num m)],[]⟩) S.length ⟨0,by omega,by omega,rfl,rfl⟩ ?_
 rintro r s ⟨m,hm,rfl,hw,rfl⟩
 refine ab (.a 1 I<|.k [1,6,7,8,9] I)<|aj<|ah I (fun h1=>?_) (fun h1=>?_)
 ·have hlt:m<S.length:=by have:=tt h1;omega
  have hs:=gY c.k c.x (fun n=>nL (fB S n)) m
  rw[hw,Bool.true_and]at hs
  have hgn:=ky c.k c.x m
  obtain⟨v,hv⟩:∃v,fB S m=v:=⟨_,rfl⟩
  obtain⟨q1,hq1⟩:∃q,pg c.k c.x m=q:=⟨_,rfl⟩
  obtain⟨q2,hq2⟩:∃q,decide (v≠2)=q:=⟨_,rfl⟩
  obtain⟨q3,hq3⟩:∃q,decide (v≠3)=q:=⟨_,rfl⟩
  have hla:nL (fB S m)=(!q2 || !q3):=by
   rw[hv]
   unfold nL
   rw[←hq2,←hq3]
   by_cases e1:v=2<;>by_cases e2:v=3<;>simp[e1,e2]
  rw[hla,hq1]at hs
  rw[hq1]at hgn
  refine ai<|aj<|aw<|ab (.a 1 I<|.v (aM (m) I) I<|.v (aJ I ((aB S m hlt).trans (by rw[show S.getD m 0=v from hv]))) I<|.a 2 I<|.k [1,3,4,6,7,8] I)<|bE 25 (.raw (.bool ((!q1 &&q2)&&q3))) [1,6,7,8] I ?_ ?_
  ·refine .a 3 I<|.c rfl (hgn) I<|.a 2 I<|?_
   cases q1
   ·refine .a 1 I<|.v (cd I (hq2)) I<|.a 2 I<|?_
    cases q2
    ·exact .a 3 I<|.k [25,1,6,7,8] I
    ·exact .a 1 I<|.v (cd I (hq3)) I<|.a 1 I<|.k [25,1,6,7,8] I
   ·exact .a 7 I<|.k [25,1,6,7,8] I
  refine ah I (fun h2=>?_) (fun h2=>?_)
  ·have hbad:dU c.k c.x (fun n=>nL (fB S n)) S.length=false:=by
    refine qU hlt (by rw[hq1];cases q1<;>first|rfl|cases h2) ?_
    show nL (fB S m)=false
    rw[hla]
    cases q1<;>cases q2<;>cases q3<;>first|rfl|cases h2
   exact ab (.a 1 I<|.k [2] I)<|ao<|⟨_,_,az.of I,ay.pure,by rw[hbad];rfl⟩
  ·have hs2:dU c.k c.x (fun n=>nL (fB S n)) (m+1)=true:=by rw[hs];cases q1<;>cases q2<;>cases q3<;>first|rfl|cases h2
   refine ai<|aC (.v (aV I) I<|.a 1 I<|.k [1,6,7,8] I) ?_
   exact⟨S.length - (m+1),by omega,m+1,by omega,rfl,hs2,rfl⟩
 ·have hme:m=S.length:=by have:=ff h1;omega
  subst hme
  exact bh<|ab (.a 1 I<|.k [2] I)<|ao<|⟨_,_,az.of I,ay.pure,by rw[hw];rfl⟩
section
variable {T:an} {tb:Nat→de} {p0:dv} {Φ Ψ:Nat→Nat→List bU→Prop}
end
section
variable {T:an} {k x:Int} {d:Nat} {st:Nat→Int} {p0:dv}
theorem uN.here{late:Bool}{u n:Nat}{s:List bU}(h:uN T k x d st p0 late u n s):¬Gn k x n:=by
 rcases h with⟨h,_⟩|⟨q,_,_,_,h,_⟩
 ·exact h.here
 ·exact h.here
end
structure Kr (T:an) (k x:Int) (S:List Int) (s d:Nat) (late:Bool):Prop where
 Ij:T.nodes≤12
 Lc:T.ag.length≤16
 len:(S.length:Int)=T.nodes
 valid:aq T=true
 comp:(aq T&&cp T k x)=true
 Lv:yJ T k x=aE T k x
 ok:Bn T k x S=0
 perm:Perm T k x late (fB S)
 src:(s:Int)<T.nodes
 dst:(d:Int)<T.nodes
 reach:gR T (aE T k x) s d=0
 there:¬Gn k x d
 KJ:Open T k x d s []
theorem DF{T:an}{k x n d:Int}{S:List Int}(h:yc ⟨T,k,x,S,n,d⟩=true):∃s e:Nat,n=(s:Int)∧d=(e:Int)∧Kr T k x S s e (AJ ⟨T,k,x,S,n,d⟩):=by
 unfold yc at h
 simp only[Bool.and_eq_true,Bool.not_eq_true']at h
 obtain⟨h1,⟨⟨h2,h3⟩,h4⟩,h5⟩:=h
 obtain⟨s1,s2,_⟩:=w7 h1
 obtain⟨hv,hc,hl,_,late,hpm,hla⟩:=FP h2
 have hvc:(aq T&&cp T k x)=true:=by rw[hv,hc];rfl
 have hm:yJ T k x=aE T k x:=by unfold yJ eA;rw[if_pos hvc,if_pos rfl]
 rw[hm]at h5
 have h5:=tt h5
 obtain⟨a,b,rfl,rfl,ha,hb,_⟩:=mD h5
 have h6:=h5
 rw[kB hv (dt T k x) ha hb]at h6
 refine⟨a,b,rfl,rfl,⟨s1,s2,hl,hv,hvc,hm,?_,?_,ha,hb,h5,nH.1 h4,⟨rfl,ha,nH.1 h3,?_⟩⟩⟩
 ·unfold Bn
  rw[hvc,decide_eq_true hl];simp[h2]
 ·rw[hla]at hpm;exact hpm
 ·split at h6
  ·cases h6
  ·omega
def wU(O:Out):List bU:=if O.cT=0 then O.ev.stack else []
def rO(O:Out):PV:=.tuple [au O.ax,ca (wU O),num O.cT]
theorem fP(p:dv)(c:Int)(h:c≠0):rO (ez p c)= .tuple [au [],ca [],num c]:=by
 unfold rO wU ez
 rw[if_neg h]
theorem kN(p:dv)(s:List bU)(l:List Int):rO (cA p s l)= .tuple [au l,ca s,num 0]:=rfl
set_option maxHeartbeats 2000000 in
theorem tr(T:an)(x:de)(p:dv)(s:List bU)(K:Out)(hx:cV T x=true)(hs:s.length≤40)(hK:0<s.length→Can Tryz.prog 194 [aN T,fv x,dx p,ca []] (· =rO K)):
    Can Tryz.prog 194 [aN T,fv x,dx p,ca s] (· =rO (du T x p s K)):=by
  have hv:aq T=true:=by unfold cV at hx;simp only[Bool.and_eq_true]at hx;exact hx.1.1.1.1
  obtain⟨n,hn⟩:∃n,x.node=n:=⟨_,rfl⟩
  have hn0:0≤n:=by unfold cV at hx;simp only[Bool.and_eq_true]at hx;have:=(aT.1 hx.1.1.1.2).1;omega
  obtain⟨R,hRR⟩:∃R,du T x p s K=R:=⟨_,rfl⟩
  rw[hRR]
  unfold du at hRR
  obtain⟨c5,hc5⟩:∃q,decide ((s.length:Int)=0)=q:=⟨_,rfl⟩
  obtain⟨c6,hc6⟩:∃q,decide (p.dst=n)=q:=⟨_,rfl⟩
  obtain⟨c7,hc7⟩:∃q,decide (255≤p.dD)=q:=⟨_,rfl⟩
  obtain⟨c8,hc8⟩:∃q,decide (p.dD<0)=q:=⟨_,rfl⟩
  rw[hc5,hn,hc6,hc7,hc8]at hRR
  refine aI Tryz.func194 I Tryz.ntmps194 I<|ab (.a 6 I<|.k [3,4,5,6] I)<|aj<|bE 24 (.raw (.bool (c5&&c6))) [3,4,5,6] I ?_ ?_
  · refine .a 2 I<|.v (cd I (hc5)) I<|.a 1 I<|?_
    cases c5
    · exact .a 6 I<|.k [24,3,4,5,6] I
    · exact .a 1 I<|.v (aJ I ((rfl:(cL p)[2]? =some (num p.dst)))) I<|.a 1 I<|.v (aJ I ((show(eR x)[0]? =some (num n) by rw[←hn];rfl))) I<|.v (cd I (hc6)) I<|.a 1 I<|.k [24,3,4,5,6] I
  refine ah I (fun h1=>?_) (fun h1=>?_)
  · rw[if_pos h1]at hRR
    subst hRR
    exact ab (.a 3 I<|.k [8,9,10] I)<|ao<|⟨_,_,az.of I,ay.aX (af.cons ay.bQ<|af.cons ay.bQ<|af.cons ay.pure af.nil),rfl⟩
  · rw [if_neg (by rw [h1]; simp)] at hRR
    refine ai<|aj<|bE 32 (.raw (.bool (c8||c7))) [3,4,5,6] I ?_ ?_
    · refine .a 1 I<|.v (aJ I ((rfl:(cL p)[5]? =some (num p.dD)))) I<|.v (cd I (hc8)) I<|.a 1 I<|?_
      cases c8
      · exact .a 1 I<|.v (aJ I ((rfl:(cL p)[5]? =some (num p.dD)))) I<|.v (cd I (hc7)) I<|.a 1 I<|.k [32,3,4,5,6] I
      · exact .a 4 I<|.k [32,3,4,5,6] I
    refine ah I (fun h2=>?_) (fun h2=>?_)
    · rw[if_pos (by rw[Bool.or_comm];exact h2)]at hRR
      subst hRR
      rw[fP _ _ (by decide)]
      exact ab (.a 3 I<|.k [8,9,10] I)<|ao<|⟨_,_,az.of I,ay.aX (af.cons ay.bQ<|af.cons ay.bQ<|af.cons ay.pure af.nil),rfl⟩
    · rw [if_neg (by rw [Bool.or_comm, h2]; simp)] at hRR
      clear hc5 hc6 hc7 hc8 h1 h2
      refine ai ?_
      obtain⟨v,hv0⟩:∃v,p.dst=v:=⟨_,rfl⟩
      refine ab (.a 1 I<|.v (aJ I ((show(cL p)[2]? =some (num v) by rw[←hv0];rfl))) I<|.a 1 I<|.k [3,4,5,6,11] I)<|aj<|ab (.a 3 I<|.k [3,4,5,6,11,37] I)<|ah I (fun h3=>?_) (fun h3=>?_)
      · have hne:0<s.length:=by have:=tt h3;omega
        obtain⟨a,l,hs'⟩:∃a l,s=a::l:=by
          cases s with
          |nil=>exact absurd hne (by simp)
          |cons a l=>exact⟨a,l,rfl⟩
        have h0:s[0]? =some a:=by rw[hs'];rfl
        rw[hs']at hRR
        dsimp only at hRR
        rw[←hs']at hRR
        clear hv0
        obtain⟨v,hv0⟩:∃v,a.num=v:=⟨_,rfl⟩
        obtain⟨kd,hkd⟩:∃v,a.kind=v:=⟨_,rfl⟩
        rw[hv0,hkd]at hRR
        refine aP<|av 1 I<|bw (aM (0) I (by omega) (by omega)) I<|bw (fG I (gg s 0 a h0) I) I<|av 2 I<|aG [3,4,5,6,12] I ?_
        rw[hv0,hkd]
        refine ab (.a 2 I<|.k [3,4,5,6,12,42] I)<|aw<|ab (.a 2 I<|.k [3,4,5,6,12,42,43] I)<|ah I (fun h4=>?_) (fun h4=>?_)
        · rw[if_neg (by have:=tt h4;omega),if_pos (tt h4)]at hRR
          refine aj<|ef mixed (by kernel_rfl) (.a 3 I<|.v [45,47] (dX I (mU T hv v)) I I<|.a 1 I<|.v [49] (aJ I ((show(eR x)[0]? =some (num n) by rw[←hn];rfl))) I I<|.a 1 I<|.k [3,4,5,6,12,51] I) ?_
          refine ah I (fun h6=>?_) (fun h6=>?_)
          · have h6':(!(ep T v)||decide (br T v.toNat≠n))=true:=by
              cases hb:ep T v with
              |false=>rfl
              |true=>
                have h7:=tt h6
                obtain⟨b1,b2⟩:=cD.1 hb
                unfold nr at h7
                rw[if_pos ⟨b1,b2⟩]at h7
                simp[h7]
            rw[if_pos h6']at hRR
            subst hRR
            rw[fP _ _ (by decide)]
            exact ab (.a 3 I<|.k [8,9,10] I)<|ao<|⟨_,_,az.of I,ay.aX (af.cons ay.bQ<|af.cons ay.bQ<|af.cons ay.pure af.nil),rfl⟩
          · have h6':(!(ep T v)||decide (br T v.toNat≠n))=false:=by
              have h7:=ff h6
              unfold nr at h7
              by_cases hb:0≤v∧v<2*(T.ag.length:Int)
              · rw[if_pos hb]at h7
                rw[cD.2 hb]
                simp[Decidable.not_not.1 h7]
              · rw[if_neg hb]at h7
                omega
            rw[if_neg (by rw[h6'];simp)]at hRR
            refine ai<|aj<|ab (.a 1 I<|.v (aJ I ((rfl:(eR x)[2]? =some (au x.down)))) I<|.a 2 I<|.c rfl (Hs x.down v (by have:=sd hx;omega)) I<|.k [3,4,5,6,12,56] I)<|ah I (fun h7=>?_) (fun h7=>?_)
            · rw[if_pos (tt h7)]at hRR
              subst hRR
              exact ab (.a 3 I<|.v (xe I (af.cons ay.pure<|af.cons ay.pure<|af.cons ay.pure<|af.cons ay.bQ af.nil) (hK hne)) I<|.a 6 I<|.k [8,9,10] I)<|ao<|⟨_,_,az.of I,ay.aX (af.cons (ay.pure (p:=au K.ax))<|af.cons (ay.pure (p:=ca (wU K)))<|af.cons ay.pure af.nil),rfl⟩
            · rw[if_neg (ff h7)]at hRR
              subst hRR
              subst hs'
              refine ai<|ef mixed (by kernel_rfl) (.a 4 I<|.v [67] (gv I (ba.el.get I) I I) I I<|.a 3 I<|.k [8,9,10] I) ?_
              exact ao<|⟨_,_,az.of I,ay.aX (af.cons (ay.pure (p:=au [v]))<|af.cons (ay.pure (p:=ca l))<|af.cons ay.pure af.nil),rfl⟩
        · have hk2:=ff h4
          refine ab (.a 2 I<|.k [3,4,5,6,12,69] I)<|ah I (fun h8=>?_) (fun h8=>?_)
          · rw[if_pos (tt h8)]at hRR
            obtain⟨K1,hK1,hK1n,hK1p⟩:∃K1,K1=K∧(s.length=0→K1=ez p 1)∧(0<s.length→K1=K):=⟨_,rfl,fun h=>absurd h (by omega),fun h=>rfl⟩
            rw[←hK1]at hRR
            clear hK1 h3 h4 h8 hs' hv0 h0 hk2
            refine aC (.a 3 I<|.k [3,4,5,6,11] I) ?_
            refine aj ?_
            unfold CT at hRR
            obtain⟨q1,hq1⟩:∃q,decide (v<0)=q:=⟨_,rfl⟩
            obtain⟨q2,hq2⟩:∃q,decide (T.nodes≤v)=q:=⟨_,rfl⟩
            have hnb:bm T v=(!(q1||q2)):=by
              rw[←hq1,←hq2]
              cases hb:bm T v with
              |true=>have:=aT.1 hb;simp;omega
              |false=>
                have h9:¬(0≤v∧v<T.nodes):=fun h=>by rw[aT.2 h]at hb;cases hb
                simp;omega
            have hes:q1=false→q2=false→x.dr[v.toNat]? =some (di x v)∧(di x v).push.length≤40∧(di x v).ax.length≤1000∧v<(x.dr.length:Int)∧0≤v:=fun h h'=>by
              obtain⟨k,rfl,g1,g2,g3⟩:=kK hx (hnb.trans (by rw[h,h'];rfl))
              have:=(List.getElem?_eq_some_iff.1 g1).1
              exact⟨g1,g2,g3,by omega,by omega⟩
            obtain⟨e,he⟩:∃e,di x v=e:=⟨_,rfl⟩
            obtain⟨I0,hc12⟩:∃q,decide ((e.ax.length:Int)=0)=q:=⟨_,rfl⟩
            rw[he]at hes hRR
            refine bE 90 (.raw (.bool ((q1||q2)||I0))) [3,4,5,6,11] I ?_ ?_
            · refine .a 1 I<|.v (cd I (hq1)) I<|.a 1 I<|?_
              cases q1
              · refine .a 3 I<|.v (cd I (hq2)) I<|.a 2 I<|?_
                cases q2
                · exact .a 1 I<|.v (aJ I ((rfl:(eR x)[1]? =some (ij x.dr)))) I<|.a 1 I<|.v (aM ((v.toNat*3)) I (hes rfl rfl).2.2.2.2 (hes rfl rfl).2.2.2.1) I<|.a 1 I<|.v (aJ I ((nZ x.dr v.toNat 0 e (hes rfl rfl).1 (by omega)))) I<|.a 1 I<|.v (cd I (hc12)) I<|.a 1 I<|.k [90,3,4,5,6,11] I
                · exact .a 9 I<|.k [90,3,4,5,6,11] I
              · exact .a 15 I<|.k [90,3,4,5,6,11] I
            refine ah I (fun h9=>?_) (fun h9=>?_)
            · rw[if_neg (by rw[hnb];intro h;obtain⟨g1,g2⟩:=Bool.and_eq_true_iff.1 h;have g2:=tt g2;rw[decide_eq_false (by omega)]at hc12;subst hc12;revert h9 g1;cases q1<;>cases q2<;>simp)]at hRR
              refine aj<|ab (.a 3 I<|.k [4,5,6,93] I)<|ah I (fun h11=>?_) (fun h11=>?_)
              · have hne:0<s.length:=by have:=tt h11;omega
                rw[hK1p hne]at hRR
                subst hRR
                exact ab (.a 3 I<|.v (xe I (af.cons ay.pure<|af.cons ay.pure<|af.cons ay.pure<|af.cons ay.bQ af.nil) (hK hne)) I<|.a 6 I<|.k [8,9,10] I)<|ao<|⟨_,_,az.of I,ay.aX (af.cons (ay.pure (p:=au K.ax))<|af.cons (ay.pure (p:=ca (wU K)))<|af.cons ay.pure af.nil),rfl⟩
              · rw[hK1n (by have:=ff h11;omega)]at hRR
                subst hRR
                rw[fP _ _ (by decide)]
                exact ai<|ab (.a 3 I<|.k [8,9,10] I)<|ao<|⟨_,_,az.of I,ay.aX (af.cons ay.bQ<|af.cons ay.bQ<|af.cons ay.pure af.nil),rfl⟩
            · obtain⟨h9,h10⟩:=Bool.or_eq_false_iff.1 h9
              obtain⟨rfl,rfl⟩:=Bool.or_eq_false_iff.1 h9
              subst h10
              rw[hnb,if_pos (by have:=ff hc12;simp;omega)]at hRR
              obtain⟨g1,g2,g3,g4,g5⟩:=hes rfl rfl
              subst hRR
              obtain⟨c,hc⟩:∃q,e.rep=q:=⟨_,rfl⟩
              have hE:ft p s e=if c then(if 32<(e.push++s.drop 1).length then ez p 5 else cA p (e.push++s.drop 1) e.ax) else cA p s e.ax:=by unfold ft;rw[hc]
              rw[hE]
              refine ai<|aP<|av 1 I<|bw (aJ I ((rfl:(eR x)[1]? =some (ij x.dr)))) I<|av 1 I<|bw (aM ((v.toNat*3)) I g5 g4) I<|bw (fG I ((jh x.dr v.toNat e g1)) I) I<|av 2 I<|aG [3,13] I ?_
              refine aj<|ab (.a 1 I<|.v (aJ I ((show(gz e)[1]? =some (flag c) by rw[←hc];rfl))) I<|.a 1 I<|.k [3,13,108] I)<|ah I (fun h12=>?_) (fun h12=>?_)
              · obtain rfl:c=false:=by simpa using h12
                rw[if_neg (by simp)]
                refine aP<|b7 (cH I (ba.sl.get I)) I<|av 1 I<|bw (aJ I ((rfl:(gz e)[0]? =some (au e.ax)))) I<|b7 (bg I (ba.rk.get I) I I I (show(aK e.ax).length=e.ax.length*1 by simp[aK]) ⟨by unfold maxLen;omega,by omega⟩) I<|av 4 I<|aG [8,9,10] I ?_
                exact ao<|⟨_,_,az.of I,ay.aX (af.cons (ay.qi (ys:=aK e.ax) (m:=e.ax.length) I (by simp) (by simp))<|af.cons (ay.pure (p:=ca s))<|af.cons ay.pure af.nil),rfl⟩
              · obtain rfl:c=true:=by simpa using h12
                rw[if_pos rfl]
                refine ai<|aP<|b7 (cH I (ba.sl.get I)) I<|av 1 I<|bw (aJ I ((rfl:(gz e)[2]? =some (ca e.push)))) I<|b7 (bg I (ba.rk.get I) I I I (fM e.push) ⟨by unfold maxLen;omega,by omega⟩) I<|av 1 I<|aG [3,13,14] I ?_
                refine aj<|ab (.a 3 I<|.k [3,13,14,120] I)<|ah I (fun h13=>?_) (fun h13=>?_)
                · obtain⟨a,l,rfl⟩:∃a l,s=a::l:=by
                    cases s with
                    |nil=>exact absurd (tt h13) (by simp)
                    |cons a l=>exact⟨a,l,rfl⟩
                  refine bG<|av 2 I<|bw (gv I (ba.el.get I) I I) I<|b7 (bg I (ba.rk.get I) I I I (fM l) ⟨by simp at hs;unfold maxLen;omega,by simp at hs;omega⟩) I<|av 1 I<|aG [13,14] I ?_
                  refine aj<|ab (.a 3 I<|.k [13,14,127] I)<|ah I (fun h14=>?_) (fun h14=>?_)
                  · rw[if_pos (by have h14:=tt h14;simp at h14 ⊢;omega),fP _ _ (by decide)]
                    exact ab (.a 3 I<|.k [8,9,10] I)<|ao<|⟨_,_,az.of I,ay.aX (af.cons ay.bQ<|af.cons ay.bQ<|af.cons ay.pure af.nil),rfl⟩
                  · rw[if_neg (by have h14:=ff h14;simp at h14 ⊢;omega),kN]
                    have h14:=ff h14
                    refine ai<|aP<|b7 (cH I (ba.sl.get I)) I<|av 1 I<|bw (aJ I ((rfl:(gz e)[0]? =some (au e.ax)))) I<|b7 (bg I (ba.rk.get I) I I I (show(aK e.ax).length=e.ax.length*1 by simp[aK]) ⟨by unfold maxLen;omega,by omega⟩) I<|av 4 I<|aG [8,9,10] I ?_
                    exact ao<|⟨_,_,az.of I,ay.aX (af.cons (ay.qi (ys:=aK e.ax) (m:=e.ax.length) I (by simp) (by simp))<|af.cons (ay.qi (ys:=dR (e.push++List.drop 1 _)) (m:=(e.push++List.drop 1 _).length) I (by simp[dR]) (by simp))<|af.cons ay.pure af.nil),rfl⟩
                · obtain rfl:s=[]:=by
                    cases s with
                    |nil=>rfl
                    |cons a l=>exact absurd (ff h13) (by simp)
                  refine ai<|aj<|ab (.a 3 I<|.k [13,14,127] I)<|ah I (fun h14=>?_) (fun h14=>?_)
                  · rw[if_pos (by have h14:=tt h14;simp at h14 ⊢;omega),fP _ _ (by decide)]
                    exact ab (.a 3 I<|.k [8,9,10] I)<|ao<|⟨_,_,az.of I,ay.aX (af.cons ay.bQ<|af.cons ay.bQ<|af.cons ay.pure af.nil),rfl⟩
                  · rw[if_neg (by have h14:=ff h14;simp at h14 ⊢;omega),kN]
                    have h14:=ff h14
                    refine ai<|aP<|b7 (cH I (ba.sl.get I)) I<|av 1 I<|bw (aJ I ((rfl:(gz e)[0]? =some (au e.ax)))) I<|b7 (bg I (ba.rk.get I) I I I (show(aK e.ax).length=e.ax.length*1 by simp[aK]) ⟨by unfold maxLen;omega,by omega⟩) I<|av 4 I<|aG [8,9,10] I ?_
                    exact ao<|⟨_,_,az.of I,ay.aX (af.cons (ay.qi (ys:=aK e.ax) (m:=e.ax.length) I (by simp) (by simp))<|af.cons (ay.qi (ys:=dR (e.push++List.drop 1 _)) (m:=(e.push++List.drop 1 _).length) I (by simp[dR]) (by simp))<|af.cons ay.pure af.nil),rfl⟩
          · rw[if_neg (ff h8),if_neg hk2]at hRR
            subst hRR
            rw[fP _ _ (by decide)]
            exact ab (.a 3 I<|.k [8,9,10] I)<|ao<|⟨_,_,az.of I,ay.aX (af.cons ay.bQ<|af.cons ay.bQ<|af.cons ay.pure af.nil),rfl⟩
      · have hs':s=[]:=by
          cases s with
          |nil=>rfl
          |cons a l=>exact absurd (ff h3) (by simp)
        rw[hs']at hRR
        dsimp only at hRR
        rw[←hs',hv0]at hRR
        obtain⟨K1,hK1,hK1n,hK1p⟩:∃K1,K1=ez p 1∧(s.length=0→K1=ez p 1)∧(0<s.length→K1=K):=⟨_,rfl,fun _=>rfl,fun h=>absurd h (by rw[hs'];simp)⟩
        rw[←hK1]at hRR
        clear hK1 h3 hs' hv0
        refine ai<|aj ?_
        unfold CT at hRR
        obtain⟨q1,hq1⟩:∃q,decide (v<0)=q:=⟨_,rfl⟩
        obtain⟨q2,hq2⟩:∃q,decide (T.nodes≤v)=q:=⟨_,rfl⟩
        have hnb:bm T v=(!(q1||q2)):=by
          rw[←hq1,←hq2]
          cases hb:bm T v with
          |true=>have:=aT.1 hb;simp;omega
          |false=>
            have h9:¬(0≤v∧v<T.nodes):=fun h=>by rw[aT.2 h]at hb;cases hb
            simp;omega
        have hes:q1=false→q2=false→x.dr[v.toNat]? =some (di x v)∧(di x v).push.length≤40∧(di x v).ax.length≤1000∧v<(x.dr.length:Int)∧0≤v:=fun h h'=>by
          obtain⟨k,rfl,g1,g2,g3⟩:=kK hx (hnb.trans (by rw[h,h'];rfl))
          have:=(List.getElem?_eq_some_iff.1 g1).1
          exact⟨g1,g2,g3,by omega,by omega⟩
        obtain⟨e,he⟩:∃e,di x v=e:=⟨_,rfl⟩
        obtain⟨I0,hc12⟩:∃q,decide ((e.ax.length:Int)=0)=q:=⟨_,rfl⟩
        rw[he]at hes hRR
        refine bE 90 (.raw (.bool ((q1||q2)||I0))) [3,4,5,6,11] I ?_ ?_
        · refine .a 1 I<|.v (cd I (hq1)) I<|.a 1 I<|?_
          cases q1
          · refine .a 3 I<|.v (cd I (hq2)) I<|.a 2 I<|?_
            cases q2
            · exact .a 1 I<|.v (aJ I ((rfl:(eR x)[1]? =some (ij x.dr)))) I<|.a 1 I<|.v (aM ((v.toNat*3)) I (hes rfl rfl).2.2.2.2 (hes rfl rfl).2.2.2.1) I<|.a 1 I<|.v (aJ I ((nZ x.dr v.toNat 0 e (hes rfl rfl).1 (by omega)))) I<|.a 1 I<|.v (cd I (hc12)) I<|.a 1 I<|.k [90,3,4,5,6,11] I
            · exact .a 9 I<|.k [90,3,4,5,6,11] I
          · exact .a 15 I<|.k [90,3,4,5,6,11] I
        refine ah I (fun h9=>?_) (fun h9=>?_)
        · rw[if_neg (by rw[hnb];intro h;obtain⟨g1,g2⟩:=Bool.and_eq_true_iff.1 h;have g2:=tt g2;rw[decide_eq_false (by omega)]at hc12;subst hc12;revert h9 g1;cases q1<;>cases q2<;>simp)]at hRR
          refine aj<|ab (.a 3 I<|.k [4,5,6,93] I)<|ah I (fun h11=>?_) (fun h11=>?_)
          · have hne:0<s.length:=by have:=tt h11;omega
            rw[hK1p hne]at hRR
            subst hRR
            exact ab (.a 3 I<|.v (xe I (af.cons ay.pure<|af.cons ay.pure<|af.cons ay.pure<|af.cons ay.bQ af.nil) (hK hne)) I<|.a 6 I<|.k [8,9,10] I)<|ao<|⟨_,_,az.of I,ay.aX (af.cons (ay.pure (p:=au K.ax))<|af.cons (ay.pure (p:=ca (wU K)))<|af.cons ay.pure af.nil),rfl⟩
          · rw[hK1n (by have:=ff h11;omega)]at hRR
            subst hRR
            rw[fP _ _ (by decide)]
            exact ai<|ab (.a 3 I<|.k [8,9,10] I)<|ao<|⟨_,_,az.of I,ay.aX (af.cons ay.bQ<|af.cons ay.bQ<|af.cons ay.pure af.nil),rfl⟩
        · obtain⟨h9,h10⟩:=Bool.or_eq_false_iff.1 h9
          obtain⟨rfl,rfl⟩:=Bool.or_eq_false_iff.1 h9
          subst h10
          rw[hnb,if_pos (by have:=ff hc12;simp;omega)]at hRR
          obtain⟨g1,g2,g3,g4,g5⟩:=hes rfl rfl
          subst hRR
          obtain⟨c,hc⟩:∃q,e.rep=q:=⟨_,rfl⟩
          have hE:ft p s e=if c then(if 32<(e.push++s.drop 1).length then ez p 5 else cA p (e.push++s.drop 1) e.ax) else cA p s e.ax:=by unfold ft;rw[hc]
          rw[hE]
          refine ai<|aP<|av 1 I<|bw (aJ I ((rfl:(eR x)[1]? =some (ij x.dr)))) I<|av 1 I<|bw (aM ((v.toNat*3)) I g5 g4) I<|bw (fG I ((jh x.dr v.toNat e g1)) I) I<|av 2 I<|aG [3,13] I ?_
          refine aj<|ab (.a 1 I<|.v (aJ I ((show(gz e)[1]? =some (flag c) by rw[←hc];rfl))) I<|.a 1 I<|.k [3,13,108] I)<|ah I (fun h12=>?_) (fun h12=>?_)
          · obtain rfl:c=false:=by simpa using h12
            rw[if_neg (by simp)]
            refine aP<|b7 (cH I (ba.sl.get I)) I<|av 1 I<|bw (aJ I ((rfl:(gz e)[0]? =some (au e.ax)))) I<|b7 (bg I (ba.rk.get I) I I I (show(aK e.ax).length=e.ax.length*1 by simp[aK]) ⟨by unfold maxLen;omega,by omega⟩) I<|av 4 I<|aG [8,9,10] I ?_
            exact ao<|⟨_,_,az.of I,ay.aX (af.cons (ay.qi (ys:=aK e.ax) (m:=e.ax.length) I (by simp) (by simp))<|af.cons (ay.pure (p:=ca s))<|af.cons ay.pure af.nil),rfl⟩
          · obtain rfl:c=true:=by simpa using h12
            rw[if_pos rfl]
            refine ai<|aP<|b7 (cH I (ba.sl.get I)) I<|av 1 I<|bw (aJ I ((rfl:(gz e)[2]? =some (ca e.push)))) I<|b7 (bg I (ba.rk.get I) I I I (fM e.push) ⟨by unfold maxLen;omega,by omega⟩) I<|av 1 I<|aG [3,13,14] I ?_
            refine aj<|ab (.a 3 I<|.k [3,13,14,120] I)<|ah I (fun h13=>?_) (fun h13=>?_)
            · obtain⟨a,l,rfl⟩:∃a l,s=a::l:=by
                cases s with
                |nil=>exact absurd (tt h13) (by simp)
                |cons a l=>exact⟨a,l,rfl⟩
              refine bG<|av 2 I<|bw (gv I (ba.el.get I) I I) I<|b7 (bg I (ba.rk.get I) I I I (fM l) ⟨by simp at hs;unfold maxLen;omega,by simp at hs;omega⟩) I<|av 1 I<|aG [13,14] I ?_
              refine aj<|ab (.a 3 I<|.k [13,14,127] I)<|ah I (fun h14=>?_) (fun h14=>?_)
              · rw[if_pos (by have h14:=tt h14;simp at h14 ⊢;omega),fP _ _ (by decide)]
                exact ab (.a 3 I<|.k [8,9,10] I)<|ao<|⟨_,_,az.of I,ay.aX (af.cons ay.bQ<|af.cons ay.bQ<|af.cons ay.pure af.nil),rfl⟩
              · rw[if_neg (by have h14:=ff h14;simp at h14 ⊢;omega),kN]
                have h14:=ff h14
                refine ai<|aP<|b7 (cH I (ba.sl.get I)) I<|av 1 I<|bw (aJ I ((rfl:(gz e)[0]? =some (au e.ax)))) I<|b7 (bg I (ba.rk.get I) I I I (show(aK e.ax).length=e.ax.length*1 by simp[aK]) ⟨by unfold maxLen;omega,by omega⟩) I<|av 4 I<|aG [8,9,10] I ?_
                exact ao<|⟨_,_,az.of I,ay.aX (af.cons (ay.qi (ys:=aK e.ax) (m:=e.ax.length) I (by simp) (by simp))<|af.cons (ay.qi (ys:=dR (e.push++List.drop 1 _)) (m:=(e.push++List.drop 1 _).length) I (by simp[dR]) (by simp))<|af.cons ay.pure af.nil),rfl⟩
            · obtain rfl:s=[]:=by
                cases s with
                |nil=>rfl
                |cons a l=>exact absurd (ff h13) (by simp)
              refine ai<|aj<|ab (.a 3 I<|.k [13,14,127] I)<|ah I (fun h14=>?_) (fun h14=>?_)
              · rw[if_pos (by have h14:=tt h14;simp at h14 ⊢;omega),fP _ _ (by decide)]
                exact ab (.a 3 I<|.k [8,9,10] I)<|ao<|⟨_,_,az.of I,ay.aX (af.cons ay.bQ<|af.cons ay.bQ<|af.cons ay.pure af.nil),rfl⟩
              · rw[if_neg (by have h14:=ff h14;simp at h14 ⊢;omega),kN]
                have h14:=ff h14
                refine ai<|aP<|b7 (cH I (ba.sl.get I)) I<|av 1 I<|bw (aJ I ((rfl:(gz e)[0]? =some (au e.ax)))) I<|b7 (bg I (ba.rk.get I) I I I (show(aK e.ax).length=e.ax.length*1 by simp[aK]) ⟨by unfold maxLen;omega,by omega⟩) I<|av 4 I<|aG [8,9,10] I ?_
                exact ao<|⟨_,_,az.of I,ay.aX (af.cons (ay.qi (ys:=aK e.ax) (m:=e.ax.length) I (by simp) (by simp))<|af.cons (ay.qi (ys:=dR (e.push++List.drop 1 _)) (m:=(e.push++List.drop 1 _).length) I (by simp[dR]) (by simp))<|af.cons ay.pure af.nil),rfl⟩
theorem Cg(T:an)(x:de)(p:dv)(hx:cV T x=true):Can Tryz.prog 194 [aN T,fv x,dx p,ca []] (· =rO (du T x p [] (ez p 1))):=
 tr T x p [] (ez p 1) hx (by simp) (fun h=>absurd h (by simp))
theorem Cm(T:an)(x:de)(p:dv)(s:List bU)(hx:cV T x=true)(hs:s.length≤40):Can Tryz.prog 194 [aN T,fv x,dx p,ca s] (· =rO (du T x p s (du T x p [] (ez p 1)))):=
 tr T x p s _ hx hs (fun _=>Cg T x p hx)
def I8(p:dv)(O:Out):Prop:=O=⟨[],⟨p.id,p.src,p.dst,p.kq,[],p.dD⟩, -1⟩∨(∃s l,O=cA p s l∧0≤p.dD∧p.dD<255)∨∃c,O=ez p c∧c≠0∧c≠ -1
theorem Bf{p:dv}{s:List bU}{e:iS}(h:0≤p.dD∧p.dD<255):I8 p (ft p s e):=by
 unfold ft
 split
 ·split
  ·exact .inr (.inr ⟨5,rfl,by decide,by decide⟩)
  ·exact .inr (.inl ⟨_,_,rfl,h⟩)
 ·exact .inr (.inl ⟨_,_,rfl,h⟩)
theorem C1{T:an}{x:de}{p:dv}{s:List bU}{v:Int}{K:Out}(h:0≤p.dD∧p.dD<255)(hK:I8 p K):I8 p (CT T x p s v K):=by
 unfold CT
 split
 ·exact Bf h
 ·exact hK
theorem sV{T:an}{x:de}{p:dv}{s:List bU}{K:Out}(hK:I8 p K):I8 p (du T x p s K):=by
 have d1:∀c:Int,c≠0→c≠ -1→I8 p (ez p c):=fun c h1 h2=>.inr (.inr ⟨c,rfl,h1,h2⟩)
 unfold du
 split
 ·exact .inl rfl
 ·split
  ·exact d1 4 (by decide) (by decide)
  ·rename_i h2
   have h:0≤p.dD∧p.dD<255:=by simp at h2;omega
   split
   ·exact C1 h (d1 1 (by decide) (by decide))
   ·split
    ·exact C1 h hK
    ·split
     ·split
      ·exact d1 2 (by decide) (by decide)
      ·split
       ·exact hK
       ·exact .inr (.inl ⟨_,_,rfl,h⟩)
     ·exact d1 1 (by decide) (by decide)
set_option maxHeartbeats 2000000 in
theorem sW(T:an)(x:de)(p:dv)(hps:p.stack.length≤1000):Can Tryz.prog 169 [aN T,fv x,dx p] (· =vv (dq T x p)):=by
 obtain⟨c1,hc1⟩:∃q,cV T x=q:=⟨_,rfl⟩
 obtain⟨n,hn⟩:∃n,x.node=n:=⟨_,rfl⟩
 obtain⟨v,hv0⟩:∃v,p.dst=v:=⟨_,rfl⟩
 obtain⟨q1,hq1⟩:∃q,decide (v<0)=q:=⟨_,rfl⟩
 obtain⟨q2,hq2⟩:∃q,decide (T.nodes≤v)=q:=⟨_,rfl⟩
 have hnb:bm T v=(!(q1||q2)):=by
  rw[←hq1,←hq2]
  cases hb:bm T v with
  |true=>have:=aT.1 hb;simp;omega
  |false=>
   have h9:¬(0≤v∧v<T.nodes):=fun h=>by rw[aT.2 h]at hb;cases hb
   simp;omega
 unfold dq
 rw[hc1,hv0,hnb,Bool.not_not]
 refine aI Tryz.func169 I Tryz.ntmps169 I<|aP<|av 2 I<|b7 (fx I I I) I<|av 3 I<|aG [3,4,5,7] I ?_
 refine aj<|aw<|bE 13 (.raw (.bool (((!c1)||q1)||q2))) [3,4,5,7] I ?_ ?_
 ·refine .a 2 I<|.c rfl (hc1▸qe T x) I<|.a 2 I<|?_
  cases c1
  ·exact .a 12 I<|.k [13,3,4,5,7] I
  ·refine .a 1 I<|.v (aJ I ((show(cL p)[2]? =some (num v) by rw[←hv0];rfl))) I<|.v (cd I (hq1)) I<|.a 2 I<|?_
   cases q1
   ·exact .a 1 I<|.v (aJ I ((show(cL p)[2]? =some (num v) by rw[←hv0];rfl))) I<|.a 2 I<|.v (cd I (hq2)) I<|.a 2 I<|.k [13,3,4,5,7] I
   ·exact .a 7 I<|.k [13,3,4,5,7] I
 refine ah I (fun h1=>?_) (fun h1=>?_)
 ·rw[if_pos (by rw[←Bool.or_assoc];exact h1)]
  refine iC 2 20 mixed (
   .val [5] I (cS I (ba.tk.get I) I I I) I I<|
   .val [] I (aZ I) I I<|
   .nil) (by kernel_rfl) I I (aY (ks:=[6,7,30]) I) ?_
  refine av 2 I<|aG [6,7,8] I ?_
  exact ao<|⟨_,_,az.of I,ay.aX (af.cons ay.bQ<|af.cons (ay.pure (p:=dx p))<|af.cons ay.pure af.nil),rfl⟩
 ·rw[if_neg (by rw[←Bool.or_assoc,h1];simp)]
  obtain⟨h1a,hq2f⟩:=Bool.or_eq_false_iff.1 h1
  obtain⟨h1b,hq1f⟩:=Bool.or_eq_false_iff.1 h1a
  obtain rfl:c1=true:=by simpa using h1b
  clear h1 h1a h1b
  refine ab (.a 1 I<|.v (aR I (ba.tk.get I) I I (rfl:(cL p)[4]? =some (ca p.stack))) I<|.a 3 I<|.k [3,4,5,7,31] I)<|ah I (fun h2=>?_) (fun h2=>?_)
  ·rw[if_pos (tt h2)]
   refine iC 2 20 mixed (
    .val [5] I (cS I (ba.tk.get I) I I I) I I<|
    .val [] I (aZ I) I I<|
    .nil) (by kernel_rfl) I I (aY (ks:=[6,7,36]) I) ?_
   refine av 2 I<|aG [6,7,8] I ?_
   exact ao<|⟨_,_,az.of I,ay.aX (af.cons ay.bQ<|af.cons (ay.pure (p:=dx p))<|af.cons ay.pure af.nil),rfl⟩
  ·rw[if_neg (ff h2)]
   have h32:p.stack.length≤32:=by have:=ff h2;omega
   refine ai<|aP<|b7 (cH I (ba.sl.get I)) I<|av 1 I<|bw (aR I (ba.tk.get I) I I (rfl:(cL p)[4]? =some (ca p.stack))) I<|b7 (bg I (ba.rk.get I) I I I (fM p.stack) ⟨by unfold maxLen;omega,by omega⟩) I<|av 1 I<|aG [3,4,5,7,9] I ?_
   refine oQ 3 (σ':=[some (.cells 66 (cL p)),some (.cells 66 [num 0,num 0,num 0,num 0,.raw (.slice none 0 0),num 0]),none,none]) I ⟨rfl,rfl,fun m hm=>?_⟩ (.cons 3 I (.same _)<|.cons 4 I (.same _)<|.cons 5 I (.same _)<|.cons 7 I (.same _)<|.cons 9 I .own .nil) ?_
   ·match m,hm with
    |0,_=>exact .inl rfl
    |1,_=>exact .inl rfl
    |2,_=>exact .inl rfl
    |m+4,_=>exact .inl rfl
   refine aj<|aw<|eS [3,4,5,7,9] I<|bu (fun r st=>∃s:List bU,s.length≤32∧r=s.length∧eH ⟨1,n⟩ p.stack=eH ⟨1,n⟩ s∧st=⟨[(3,.bc (bC T) 0),(4,.bc (eR x) 0),(5,.ptr 0 0),(7,.ptr 1 0),(9,ca s)],[some (.cells 66 (cL p)),some (.cells 66 [num 0,num 0,num 0,num 0,.raw (.slice none 0 0),num 0]),none,none]⟩) p.stack.length ⟨p.stack,h32,rfl,rfl,by simp[ca,dR]⟩ ?_
   rintro r st ⟨s,hs,rfl,hsk,rfl⟩
   obtain⟨e1,he1⟩:∃q,decide (0<(s.length:Int))=q:=⟨_,rfl⟩
   obtain⟨a,ha⟩:∃a,s.getD 0 ⟨0,0⟩=a:=⟨_,rfl⟩
   obtain⟨e2,he2⟩:∃q,decide (a=(⟨1,n⟩:bU))=q:=⟨_,rfl⟩
   refine aj<|iM mixed (by kernel_rfl) 52 (.raw (.bool (e1&&e2))) [3,4,5,7,9] I ?_ ?_
   ·refine .a 2 I<|.v [42] (cd I (he1)) I I<|.a 1 I<|?_
    cases e1
    ·exact .a 8 I<|.k [52,3,4,5,7,9] I
    ·exact .a 1 I<|.v [45] (aM (0) I (by omega) (by have:=tt he1;omega)) I I<|.v [46] (fG I (gg s 0 a (by rw[←ha];have:=tt he1;rw[List.getD_eq_getElem?_getD,List.getElem?_eq_getElem (by omega)];rfl)) I) I I<|.a 1 I<|.v [48] (aJ I ((show(eR x)[0]? =some (num n) by rw[←hn];rfl))) I I<|.a 1 I<|.v [47,50] (wE I I (b:=⟨1,n⟩) I he2) I I<|.a 1 I<|.k [52,3,4,5,7,9] I
   refine ah I (fun h3=>?_) (fun h3=>?_)
   ·obtain⟨rfl,rfl⟩:=Bool.and_eq_true_iff.1 h3
    obtain⟨l,rfl⟩:∃l,s=(⟨1,n⟩:bU)::l:=by
     have h4:=tt he2
     cases s with
     |nil=>exact absurd (tt he1) (by simp)
     |cons b l=>exact⟨l,by rw[←h4,←ha];rfl⟩
    simp only[eH,if_true]at hsk
    refine ai<|aw<|aC (.a 1 I<|.v (gv I (ba.el.get I) I I) I<|.a 1 I<|.k [3,4,5,7,9] I) ?_
    exact⟨l.length,by simp,l,by simp at hs;omega,rfl,hsk,rfl⟩
   ·have hsk:eH ⟨1,n⟩ p.stack=s:=by
     rw[hsk]
     cases s with
     |nil=>rfl
     |cons b l=>
      have e1t:e1=true:=by rw[←he1];simp
      rw[e1t,Bool.true_and]at h3
      rw[h3]at he2
      have h5:=ff he2
      simp only[eH]
      rw[if_neg (by rw[←ha]at h5;exact h5)]
    rw[hn,hsk]
    clear he1 ha he2 h3
    refine bh ?_
    obtain⟨O,hO⟩:∃O,du T x p s (du T x p [] (ez p 1))=O:=⟨_,rfl⟩
    have hok:I8 p O:=by rw[←hO];exact sV (sV (.inr (.inr ⟨1,rfl,by decide,by decide⟩)))
    have hcan:=Cm T x p s hc1 (by omega)
    rw[hO]at hcan ⊢
    refine ab (.a 2 I<|.v (cS I (ba.tk.get I) I I I) I<|.a 1 I<|.c rfl (hcan) I<|.a 7 I<|.k [5,7,10,11,12] I)<|aj<|aw<|ab (.a 3 I<|.k [5,7,10,11,12,64] I)<|ah I (fun h6=>?_) (fun h6=>?_)
    ·have h6:=tt h6
     obtain rfl:O=⟨[],⟨p.id,p.src,p.dst,p.kq,[],p.dD⟩, -1⟩:=by
      rcases hok with h|⟨s,l,rfl,_⟩|⟨c,rfl,h,h'⟩
      ·exact h
      ·exact absurd h6 (by simp[cA])
      ·exact absurd h6 h'
     refine bG<|av 2 I<|aG [5,7,10,12] I ?_
     refine iC 4 20 mixed (
      .val [10] I (aZ I) I I<|
      .val [5] I (cS I (ba.tk.get I) I I I) I I<|
      .late [12] I (jC rfl rfl) inferInstance rfl rfl<|
      .val [77] I (aZ I) I I<|
      .nil) (by kernel_rfl) I I (aY (ks:=[6,7,78,79]) I) ?_
     refine av 2 I<|aG [6,7,8] I ?_
     refine ao ?_
     first
      |exact⟨_,_,az.of I,ay.aX (af.cons ay.pure<|af.cons (ay.hZ (ys:=cL ⟨p.id,p.src,p.dst,p.kq,[],p.dD⟩) (af.cons ay.pure<|af.cons ay.pure<|af.cons ay.pure<|af.cons ay.pure<|af.cons ay.bQ<|af.cons ay.pure af.nil))<|af.cons ay.pure af.nil),rfl⟩
      |exact⟨_,_,az.of I,ay.aX (af.cons ay.pure<|af.cons (ay.pure (p:=dx ⟨p.id,p.src,p.dst,p.kq,s',p.dD+1⟩))<|af.cons ay.pure af.nil),rfl⟩
      |exact⟨_,_,az.of I,ay.aX (af.cons ay.pure<|af.cons (ay.pure (p:=dx p))<|af.cons ay.pure af.nil),rfl⟩
    ·have h6:=ff h6
     replace hok:=hok.resolve_left (fun h=>h6 (by rw[h]))
     refine ab (.a 3 I<|.k [5,7,10,11,12,68] I)<|ah I (fun h7=>?_) (fun h7=>?_)
     ·have h7:=tt h7
      obtain⟨s',l,rfl,hh⟩:=hok.resolve_right (by rintro⟨c,rfl,h,_⟩;exact h h7)
      refine aP<|av 3 I<|aG [5,7,10,12] I ?_
      refine bG<|av 1 I<|bw (aR I (ba.tk.get I) I I I) I<|bw (aV I (hn:=(show In64 (p.dD+1) by unfold In64;omega))) I<|av 2 I<|aG [5,7,10,12] I ?_
      refine iC 4 20 mixed (
       .val [10] I (aZ I) I I<|
       .val [5] I (cS I (ba.tk.get I) I I I) I I<|
       .late [12] I (jC rfl rfl) inferInstance rfl rfl<|
       .val [77] I (aZ I) I I<|
       .nil) (by kernel_rfl) I I (aY (ks:=[6,7,78,79]) I) ?_
      refine av 2 I<|aG [6,7,8] I ?_
      refine ao ?_
      first
       |exact⟨_,_,az.of I,ay.aX (af.cons ay.pure<|af.cons (ay.hZ (ys:=cL ⟨p.id,p.src,p.dst,p.kq,[],p.dD⟩) (af.cons ay.pure<|af.cons ay.pure<|af.cons ay.pure<|af.cons ay.pure<|af.cons ay.bQ<|af.cons ay.pure af.nil))<|af.cons ay.pure af.nil),rfl⟩
       |exact⟨_,_,az.of I,ay.aX (af.cons ay.pure<|af.cons (ay.pure (p:=dx ⟨p.id,p.src,p.dst,p.kq,s',p.dD+1⟩))<|af.cons ay.pure af.nil),rfl⟩
       |exact⟨_,_,az.of I,ay.aX (af.cons ay.pure<|af.cons (ay.pure (p:=dx p))<|af.cons ay.pure af.nil),rfl⟩
     ·have h7:=ff h7
      obtain⟨c,rfl,_⟩:=hok.resolve_left (by rintro⟨s',l,rfl,_⟩;exact h7 rfl)
      refine ai<|iC 4 20 mixed (
       .val [10] I (aZ I) I I<|
       .val [5] I (cS I (ba.tk.get I) I I I) I I<|
       .late [12] I (jC rfl rfl) inferInstance rfl rfl<|
       .val [77] I (aZ I) I I<|
       .nil) (by kernel_rfl) I I (aY (ks:=[6,7,78,79]) I) ?_
      refine av 2 I<|aG [6,7,8] I ?_
      refine ao ?_
      first
       |exact⟨_,_,az.of I,ay.aX (af.cons ay.pure<|af.cons (ay.hZ (ys:=cL ⟨p.id,p.src,p.dst,p.kq,[],p.dD⟩) (af.cons ay.pure<|af.cons ay.pure<|af.cons ay.pure<|af.cons ay.pure<|af.cons ay.bQ<|af.cons ay.pure af.nil))<|af.cons ay.pure af.nil),rfl⟩
       |exact⟨_,_,az.of I,ay.aX (af.cons ay.pure<|af.cons (ay.pure (p:=dx ⟨p.id,p.src,p.dst,p.kq,s',p.dD+1⟩))<|af.cons ay.pure af.nil),rfl⟩
       |exact⟨_,_,az.of I,ay.aX (af.cons ay.pure<|af.cons (ay.pure (p:=dx p))<|af.cons ay.pure af.nil),rfl⟩
structure Sq where
 n:Nat
 s:List bU
 a:PV
 x:PV
 cT:Int
 Lp:Int
 lr:Int
def kG(p0:dv)(q:Sq):List PV:=[num q.n,num p0.id,num p0.src,num p0.dst,num p0.kq,ca q.s,num 0,q.a,q.x,num q.cT,num q.Lp,num q.lr]
def gO(p0:dv)(L:List Sq):List PV:=L.flatMap (kG p0)
def qj(n:Nat)(s:List bU):Sq:=⟨n,s,.raw (.slice none 0 0),.raw (.slice none 0 0),0,0,0⟩
abbrev eV(p0:dv)(L:List Sq):Option cJ:=some (.row 119 12 L.length (gO p0 L))
theorem ox(p0:dv)(L:List Sq):(gO p0 L).length=L.length*12:=sj _ 12 (fun _=>rfl) L
theorem eD{p0:dv}{L:List Sq}{i:Nat}{q:Sq}(j:Nat)(h:L[i]? =some q)(hj:j<12){v:PV}(hv:(kG p0 q)[j]? =some v):(gO p0 L)[i*12+j]? =some v:=(flat_get (kG p0) 12 (fun _=>rfl) L i j q h hj).trans hv
theorem xa{p0:dv}{L:List Sq}{i:Nat}{q:Sq}(h:L[i]? =some q):((gO p0 L).drop (i*12)).take 12=kG p0 q:=kf (kG p0) 12 (fun _=>rfl) L i q h
theorem xg{α:Type}(f:α→List PV)(s:Nat)(hf:∀a,(f a).length=s):∀(l:List α) (i j:Nat) (a b:α) (v:PV),l[i]? =some a→j<s→f b=(f a).set j v→(l.flatMap f).set (i*s+j) v=(l.set i b).flatMap f
 | [],i,j,a,b,v,h,_,_=>by simp at h
 |c::l,0,j,a,b,v,h,hj,hb=>by
  simp at h;subst h
  rw[List.flatMap_cons,List.set_cons_zero,List.flatMap_cons,Nat.zero_mul,Nat.zero_add,hb,List.set_append_left _ _ (by rw[hf];exact hj)]
 |c::l,i+1,j,a,b,v,h,hj,hb=>by
  have:=xg f s hf l i j a b v (by simpa using h) hj hb
  have e1:(i+1)*s=i*s+s:=Nat.succ_mul i s
  have e2:(i+1)*s+j - s=i*s+j:=by omega
  have e3:(f c).length≤(i+1)*s+j:=by rw[hf];omega
  rw[List.flatMap_cons,List.set_append_right _ _ e3,hf,e2,this,List.set_cons_succ,List.flatMap_cons]
theorem vp{p0:dv}{L:List Sq}{i:Nat}{q b:Sq}(j:Nat)(h:L[i]? =some q)(hj:j<12){v:PV}(hb:kG p0 b=(kG p0 q).set j v):(gO p0 L).set (i*12+j) v=gO p0 (L.set i b):=xg (kG p0) 12 (fun _=>rfl) L i j q b v h hj hb
theorem Fz(p0:dv)(L:List Sq)(q:Sq):gO p0 L++kG p0 q=gO p0 (L++[q]):=by simp[gO]
def GP(T:an)(tbs:List de)(j:Nat)(rest:cc):cc:=some (.cells 122 (bC T++[eG tbs,.own (j+1)]))::rest
def At(L:List Sq)(i:Nat)(n:Nat)(s:List bU):Prop:=∃q,L[i]? =some q∧q.n=n∧q.s=s
def KY(T:an)(p0:dv)(tbs:List de)(L:List Sq)(j:Nat)(rest:cc)(n:Nat)(s:List bU)(r:PV)(σ':cc):Prop:=
 ∃(i:Nat) (L':List Sq) (j':Nat) (rest':cc),r=num (i:Int)∧σ'=GP T tbs j' rest'∧rest'[j']? =some (eV p0 L')∧gC j rest rest'∧(j'=j∨rest.length≤j')∧At L' i n s∧(L'=L∨L'=L++[qj n s]∧∀k,¬At L k n s)
instance (p0:dv) (n:Nat) (s:List bU):dz (kG p0 (qj n s)):=by unfold kG qj;infer_instance
set_option maxHeartbeats 2000000 in
theorem xV(T:an)(p0:dv)(tbs:List de)(L:List Sq)(hL:L.length≤100000)(j:Nat)(rest:cc)(hj:rest[j]? =some (eV p0 L))(n:Nat)(p:dv)(hp:cP p p.stack=cP p0 p.stack):
  bT Tryz.prog 168 [.ptr 0 0,num n,dx p] (GP T tbs j rest) (KY T p0 tbs L j rest n p.stack):=by
 have hjl:=(List.getElem?_eq_some_iff.1 hj).1
 refine ct Tryz.func168 I Tryz.ntmps168 I<|aP<|b7 (cj.to (fx I I I) (p':=.ptr (rest.length+1) 0) (σ'':=GP T tbs j (rest++[some (.cells 66 (cL p))])) I I) I<|av 1 I<|aG [0,1,5] I ?_
 refine aP<|av 1 I<|bb (cj.to (cb (i:=rest.length+1) (off:=5) I (ba.tk.get I) I I (show(GP T tbs j (rest++[some (.cells 66 (cL p))]))[rest.length+1]? =_ from cU rfl) (Nat.le_of_ble_eq_true rfl)) (σ'':=GP T tbs j (rest++[some (.cells 66 (cL (cP p0 p.stack)))])) I (by rw[←hp];simp[GP,cL,cP];rfl)) I I<|aG [0,1,5] I ?_
 obtain⟨r1,hr1⟩:∃r1,rest++[some (.cells 66 (cL (cP p0 p.stack)))]=r1:=⟨_,rfl⟩
 have l1:r1.length=rest.length+1:=by rw[←hr1];simp
 have k1:gC j rest r1:=hr1▸(gC.refl j rest).app _
 have b1:r1[rest.length]? =some (some (.cells 66 (cL (cP p0 p.stack)))):=hr1▸cU rfl
 have j1:r1[j]? =some (eV p0 L):=hr1▸bS hj
 rw[hr1]
 refine aj<|ab (.a 1 I<|.k [0,1,5,7] I)<|aw<|eS [0,1,5,7] I<|bu (fun r st=>∃i:Nat,i≤L.length∧r=L.length - i∧(∀k,k<i→¬At L k n p.stack)∧st=⟨[(0,.ptr 0 0),(1,num n),(5,.ptr (rest.length+1) 0),(7,num i)],GP T tbs j r1⟩) L.length ⟨0,by omega,by omega,fun k hk=>absurd hk (by omega),rfl⟩ ?_
 rintro r st ⟨i,hi,rfl,hno,rfl⟩
 refine aj<|ab (.a 4 I<|.v (aR I (ba.tk.get I) I I I) I<|.v (ov I (ba.el.get I) I j1) I<|.a 1 I<|.k [0,1,5,7,15] I)<|ah I (fun hc=>?_) (fun hc=>?_)
 ·have hlt:i<L.length:=by have:=tt hc;omega
  obtain⟨q,hq⟩:∃q,L[i]? =some q:=⟨_,List.getElem?_eq_getElem hlt⟩
  obtain⟨e1,he1⟩:∃b,decide ((q.n:Int)=n)=b:=⟨_,rfl⟩
  obtain⟨e2,he2⟩:∃b,decide (q.s=p.stack)=b:=⟨_,rfl⟩
  refine ai<|aj<|aw<|iM mixed (by kernel_rfl) 41 (.raw (.bool (e1&&e2))) [0,1,5,7] I ?_ ?_
  ·refine .a 3 I<|.v [20] (aR I (ba.tk.get I) I I I) I I<|.a 1 I<|.v [21,22] (b9 I (ba.el.get I) I j1 rfl (by omega) (by omega) I) I I<|.a 1 I<|.v [24] (aR I (ba.tk.get I) I j1 (eD 0 hq (by omega) I)) I I<|.a 1 I<|.v [25,26] (cd I (he1)) I I<|.a 1 I<|?_
   cases e1
   ·exact .a 13 I<|.k [41,0,1,5,7] I
   ·exact .a 3 I<|.v [31] (aR I (ba.tk.get I) I I I) I I<|.a 1 I<|.v [32,33] (b9 I (ba.el.get I) I j1 rfl (by omega) (by omega) I) I I<|.a 2 I<|.v [36] (aR I (ba.tk.get I) I j1 (eD 5 hq (by omega) I)) I I<|.a 1 I<|.v [38] (aR I (ba.tk.get I) I b1 rfl) I I<|.v [37,39] (dX I (he2▸AU q.s p.stack)) I I<|.a 1 I<|.k [41,0,1,5,7] I
  refine ah I (fun h3=>?_) (fun h3=>?_)
  ·obtain⟨rfl,rfl⟩:=Bool.and_eq_true_iff.1 h3
   have hat:At L i n p.stack:=⟨q,hq,by have:=tt he1;omega,tt he2⟩
   exact ab (.a 2 I<|.k [6] I)<|ao<|⟨_,az.of I,i,L,j,r1,rfl,rfl,j1,k1,.inl rfl,hat,.inl rfl⟩
  ·have hno':∀k,k<i+1→¬At L k n p.stack:=fun k hk h=>by
    by_cases hki:k<i
    ·exact hno k hki h
    ·obtain rfl:k=i:=by omega
     obtain⟨q',g1,g2,g3⟩:=h
     rw[hq]at g1
     cases g1
     rcases Bool.and_eq_false_iff.1 h3 with rfl|rfl
     ·exact ff he1 (by rw[g2])
     ·exact ff he2 g3
   refine ai<|aC (.a 1 I<|.v (aV I) I<|.a 1 I<|.k [0,1,5,7] I) ?_
   exact⟨L.length - (i+1),by omega,i+1,by omega,rfl,hno',rfl⟩
 ·have hie:i=L.length:=by have:=ff hc;omega
  subst hie
  refine bh<|iC 9 20 mixed (
   .late [0] I (jC rfl rfl) inferInstance rfl rfl<|
   .val [0] I (aZ I) I I<|
   .val [44] I (aZ I) I I<|
   .val [45] I (aZ I) I I<|
   .val [46] I (aR I (ba.tk.get I) I I I) I I<|
   .val [1] I (aZ I) I I<|
   .val [5] I (cS I (ba.tk.get I) I b1 rfl) I I<|
   .val [48,49] I (aZ I) I I<|
   .val [50] I (aZ I) I I<|
   .nil) (by kernel_rfl) I I (aY (ks:=[0,43,47,51]) I) ?_
  refine b7 (cj.to (σ:=GP T tbs j r1) (bg (m:=1) (n:=L.length) (xs:=gO p0 L) (ys:=kG p0 (qj n p.stack)) I (ba.rk.get I) I j1 rfl rfl ⟨by unfold maxLen;omega,by omega⟩) (p':=.own (rest.length+1+1)) (σ'':=GP T tbs j (r1.set j none++[eV p0 (L++[qj n p.stack])])) (by rw[←l1];rfl) (by unfold eV;rw[List.length_append,←Fz];rfl)) I<|av 2 I<|bb (cj.to (cb I (ba.tk.get I) I I I (Nat.le_of_ble_eq_true rfl)) (σ'':=GP T tbs (rest.length+1) (r1.set j none++[eV p0 (L++[qj n p.stack])])) I I) I I<|aG [0] I ?_
  obtain⟨r2,hr2⟩:∃r2,r1.set j none++[eV p0 (L++[qj n p.stack])]=r2:=⟨_,rfl⟩
  have k2:gC j rest r2:=hr2▸(k1.put (.inl rfl) _).app _
  have j2:r2[rest.length+1]? =some (eV p0 (L++[qj n p.stack])):=hr2▸cU (by simp[l1])
  rw[hr2]
  exact ab (.a 3 I<|.v (aR I (ba.tk.get I) I I I) I<|.v (ov I (ba.el.get I) I j2) I<|.v (aV I (hc:=(show((L++[qj n p.stack]).length:Int) - 1=(L.length:Int) by rw[List.length_append];simp))) I<|.a 1 I<|.k [6] I)<|ao<|⟨_,az.of I,L.length,L++[qj n p.stack],rest.length+1,r2,rfl,rfl,j2,k2,.inr (by omega),⟨qj n p.stack,by simp,rfl,rfl⟩,.inr ⟨rfl,fun k h=>by
   obtain⟨q',g1,g2⟩:=h
   exact hno k (List.getElem?_eq_some_iff.1 g1).1 ⟨q',g1,g2⟩⟩⟩
section
variable (T:an) (tb:Nat→de) (p0:dv) (Φ:Nat→Nat→List bU→Prop)
def xO(L:List Sq)(q:Sq):Prop:=∃js:List Int,q=⟨q.n,q.s,au (bK T tb p0 q.n q.s).ax,au js,(bK T tb p0 q.n q.s).cT,0,0⟩∧js.length=(bK T tb p0 q.n q.s).ax.length∧
 ∀(m:Nat) a,(bK T tb p0 q.n q.s).ax[m]? =some a→∃jm:Nat,js[m]? =some (jm:Int)∧At L jm (aS T a.toNat).toNat (bK T tb p0 q.n q.s).ev.stack
structure kj (L:List Sq) (i i':Nat):Prop where
 st:∀(k:Nat) (q:Sq),L[k]? =some q→∃u,Φ u q.n q.s
 Js:∀(k k' n:Nat) (s:List bU),At L k n s→At L k' n s→k=k'
 dn:∀(k:Nat) (q:Sq),k<i→L[k]? =some q→xO T tb p0 L q
 nw:∀(k:Nat) (q:Sq),i'≤k→L[k]? =some q→q=qj q.n q.s
end
section
variable {T:an} {tb:Nat→de} {p0:dv} {Φ:Nat→Nat→List bU→Prop}
theorem At.app{L M:List Sq}{k n:Nat}{s:List bU}(h:At L k n s):At (L++M) k n s:=by
 obtain⟨q,h1,h2⟩:=h
 exact⟨q,by rw[List.getElem?_append_left (List.getElem?_eq_some_iff.1 h1).1];exact h1,h2⟩
theorem At.put{L:List Sq}{i k n:Nat}{s:List bU}{q q':Sq}(hq:L[i]? =some q)(h1:q'.n=q.n)(h2:q'.s=q.s):At (L.set i q') k n s↔At L k n s:=by
 have hil:=(List.getElem?_eq_some_iff.1 hq).1
 unfold At
 by_cases hk:k=i
 ·subst hk
  rw[List.getElem?_set,if_pos rfl,if_pos hil,hq]
  constructor
  ·rintro⟨x,hx,a,b⟩;cases hx;exact⟨q,rfl,by rw[←h1];exact a,by rw[←h2];exact b⟩
  ·rintro⟨x,hx,a,b⟩;cases hx;exact⟨q',rfl,by rw[h1];exact a,by rw[h2];exact b⟩
 ·rw[List.getElem?_set,if_neg (Ne.symm hk)]
theorem At.up{L:List Sq}{i k n:Nat}{s:List bU}{q q':Sq}(h:At L k n s)(hq:L[i]? =some q)(h1:q'.n=q.n)(h2:q'.s=q.s):At (L.set i q') k n s:=(At.put hq h1 h2).2 h
theorem xO.mono{L L':List Sq}{q:Sq}(hm:∀k n s,At L k n s→At L' k n s)(h:xO T tb p0 L q):xO T tb p0 L' q:=by
 obtain⟨js,h1,h2,h3⟩:=h
 refine⟨js,h1,h2,fun m a ha=>?_⟩
 obtain⟨jm,g1,g2⟩:=h3 m a ha
 exact⟨jm,g1,hm _ _ _ g2⟩
theorem kj.put{L:List Sq}{i i':Nat}(h:kj T tb p0 Φ L i i')(hi:i'≤i+1){q q':Sq}(hq:L[i]? =some q)(h1:q'.n=q.n)(h2:q'.s=q.s):kj T tb p0 Φ (L.set i q') i (i+1) where
 st:=fun k x hx=>by
  by_cases hk:k=i
  ·subst hk
   rw[List.getElem?_set,if_pos rfl,if_pos (List.getElem?_eq_some_iff.1 hq).1]at hx
   cases hx
   rw[h1,h2];exact h.st _ _ hq
  ·rw[List.getElem?_set,if_neg (Ne.symm hk)]at hx
   exact h.st _ _ hx
 Js:=fun k k' n s a b=>h.Js k k' n s ((At.put hq h1 h2).1 a) ((At.put hq h1 h2).1 b)
 dn:=fun k x hk hx=>by
  rw[List.getElem?_set,if_neg (by omega)]at hx
  exact(h.dn k x hk hx).mono fun k n s a=>(At.put hq h1 h2).2 a
 nw:=fun k x hk hx=>by
  rw[List.getElem?_set,if_neg (by omega)]at hx
  exact h.nw k x (by omega) hx
theorem kj.add{L L':List Sq}{i i' u n:Nat}{s:List bU}(h:kj T tb p0 Φ L i i')(hi:i≤L.length)(hΦ:Φ u n s)(hL:L'=L∨L'=L++[qj n s]∧∀k,¬At L k n s):kj T tb p0 Φ L' i i':=by
 rcases hL with rfl|⟨rfl,hno⟩
 ·exact h
 ·have key:∀k q,(L++[qj n s])[k]? =some q→L[k]? =some q∨(k=L.length∧q=qj n s):=fun k q hk=>by
   by_cases hkl:k<L.length
   ·rw[List.getElem?_append_left hkl]at hk;exact .inl hk
   ·rw[List.getElem?_append_right (by omega)]at hk
    have:=(List.getElem?_eq_some_iff.1 hk).1
    simp only[List.length_singleton]at this
    have hk0:k - L.length=0:=by omega
    rw[hk0]at hk
    simp at hk
    exact .inr ⟨by omega,hk.symm⟩
  have key2:∀k n' s',At (L++[qj n s]) k n' s'→At L k n' s'∨(k=L.length∧n'=n∧s'=s):=fun k n' s' ⟨q,h1,h2,h3⟩=>by
   rcases key k q h1 with h4|⟨h4,rfl⟩
   ·exact .inl ⟨q,h4,h2,h3⟩
   ·exact .inr ⟨h4,h2.symm,h3.symm⟩
  refine⟨fun k q hq=>?_,fun k k' n' s' a b=>?_,fun k q hk hq=>?_,fun k q hk hq=>?_⟩
  ·rcases key k q hq with hq|⟨_,rfl⟩
   ·exact h.st k q hq
   ·exact⟨u,hΦ⟩
  ·rcases key2 _ _ _ a with a2|⟨a2,e1,e2⟩
   ·rcases key2 _ _ _ b with b2|⟨b2,e1,e2⟩
    ·exact h.Js _ _ _ _ a2 b2
    ·rw[e1,e2]at a2;exact absurd a2 (hno _)
   ·rcases key2 _ _ _ b with b2|⟨b2,_,_⟩
    ·rw[e1,e2]at b2;exact absurd b2 (hno _)
    ·omega
  ·rcases key k q hq with hq|⟨h1,_⟩
   ·exact(h.dn k q hk hq).mono fun _ _ _ a=>a.app
   ·omega
  ·rcases key k q hq with hq|⟨_,rfl⟩
   ·exact h.nw k q hk hq
   ·rfl
theorem kj.next{L:List Sq}{i:Nat}{q:Sq}(h:kj T tb p0 Φ L i (i+1))(hq:L[i]? =some q)(hd:xO T tb p0 L q):kj T tb p0 Φ L (i+1) (i+1) where
 st:=h.st
 Js:=h.Js
 dn:=fun k x hk hx=>by
  by_cases hki:k=i
  ·subst hki;rw[hq]at hx;cases hx;exact hd
  ·exact h.dn k x (by omega) hx
 nw:=h.nw
theorem kj.Jv{U:List (Nat×List bU)}(hU:∀ {u n s},Φ u n s→(n,s)∈U){L:List Sq}{i i':Nat}(h:kj T tb p0 Φ L i i'):L.length≤U.length:=by
 have:=o4 (L.map fun q=>(q.n,q.s)) U (by
  unfold List.Nodup
  rw[List.pairwise_map,List.pairwise_iff_getElem]
  intro a b ha hb hab he
  have e1:L[a]? =some L[a]:=List.getElem?_eq_getElem ha
  have e2:L[b]? =some L[b]:=List.getElem?_eq_getElem hb
  injection he with e3 e4
  have:=h.Js a b _ _ ⟨_,e1,rfl,rfl⟩ ⟨_,e2,e3.symm,e4.symm⟩
  omega) (fun x hx=>by
  obtain⟨q,hq,rfl⟩:=List.mem_map.1 hx
  obtain⟨k,hk⟩:=List.getElem?_of_mem hq
  obtain⟨u,hu⟩:=h.st k q hk
  exact hU hu)
 rwa [List.length_map]at this
theorem jI.put{i k:Nat}{blk:cJ}{xs:List PV}{x v:PV}(hx:xs[k]? =some x)(h:Ai i blk x v):jI i blk xs (xs.set k v):=by
 refine⟨by simp,fun j a b ha hb=>?_⟩
 by_cases hjk:j=k
 ·subst hjk
  rw[hx]at ha
  cases ha
  rw[List.getElem?_set,if_pos rfl,if_pos (List.getElem?_eq_some_iff.1 hx).1]at hb
  cases hb
  exact h
 ·rw[List.getElem?_set,if_neg (Ne.symm hjk),ha]at hb
  cases hb
  exact .same _
theorem Hb{tbs:List de}{j i:Nat}{blk:cJ}{rest:cc}{x:Option cJ}(hi:rest[i]? =some x):zz (i+1) blk (GP T tbs j rest) (GP T tbs j (rest.set i none)):=by
 refine⟨by simp[GP],aW hi,fun m hm=>.inl ?_⟩
 match m,hm with
 |0,_=>rfl
 |m+1,hm=>
  show(rest.set i none)[m]? =rest[m]?
  rw[List.getElem?_set,if_neg (by omega)]
theorem F4{tbs:List de}{j i jr:Nat}{blk:cJ}{rest:cc}{L:List Sq}{q q':Sq}(hne:j≠jr){x:Option cJ}(hr:rest[jr]? =some x)(hj:rest[j]? =some (eV p0 L))(hq:L[i]? =some q){v:PV}(hq':kG p0 q'=(kG p0 q).set 8 v)(hf:Ai (jr+1) blk q.x v):
  zz (jr+1) blk (GP T tbs j rest) (GP T tbs j ((rest.set jr none).set j (eV p0 (L.set i q')))):=by
 refine⟨by simp[GP],aD (aW hr) hne,fun m hm=>?_⟩
 match m,hm with
 |0,_=>exact .inl rfl
 |m+1,hm=>
  by_cases hmj:m=j
  ·subst hmj
   refine .inr ⟨_,_,hj,aW (aD hj (by omega)),?_⟩
   rw[List.length_set,←vp 8 hq (by omega) hq']
   exact .row (jI.put (eD 8 hq (by omega) I) hf)
  ·refine .inl ?_
   show((rest.set jr none).set j _)[m]? =rest[m]?
   rw[List.getElem?_set,if_neg (by omega),List.getElem?_set,if_neg (by omega)]
end
section
variable {T:an} {tb:Nat→de} {p0:dv} {Φ:Nat→Nat→List bU→Prop}
def Kz(T:an)(tb:Nat→de)(p0:dv)(Φ:Nat→Nat→List bU→Prop)(tbs:List de)(n:Nat)(s:List bU)(r:PV)(σ':cc):Prop:=
 ∃(L:List Sq) (j:Nat) (rest:cc),r= .tuple [.ptr 0 0,flag true]∧σ'=GP T tbs j rest∧rest[j]? =some (eV p0 L)∧kj T tb p0 Φ L L.length L.length∧At L 0 n s
abbrev qg(js:List Int):Option cJ:=some (.row 3 1 js.length (aK js))
structure K7 (T:an) (tb:Nat→de) (p0:dv) (Φ:Nat→Nat→List bU→Prop) (L:List Sq) (j:Nat) (rest:cc) (i n:Nat) (s:List bU) (nb jr:Nat) (k:Nat) (js:List Int) (n0:Nat) (s0:List bU):Prop where
 row:rest[j]? =some (eV p0 L)
 K4:At L 0 n0 s0
 ex:kj T tb p0 Φ L i (i+1)
 at_:L[i]? =some ⟨n,s,au (bK T tb p0 n s).ax,.own (jr+1),(bK T tb p0 n s).cT,0,0⟩
 KE:rest[nb]? =some (some (cJ.cells 66 (cL (bK T tb p0 n s).ev)))
 Ko:rest[jr]? =some (qg js)
 Ka:j≠jr
 Le:nb≠jr
 KK:nb≠j
 lj:js.length=k
 hd:∀(m:Nat) a,m<k→(bK T tb p0 n s).ax[m]? =some a→∃jm:Nat,js[m]? =some (jm:Int)∧At L jm (aS T a.toNat).toNat (bK T tb p0 n s).ev.stack
theorem Df(xs:List PV)(k:Nat)(p:PV)(h:k<xs.length):over xs k [p]=xs.set k p:=by
 unfold over
 rw[List.set_eq_take_append_cons_drop,if_pos h]
 rfl
theorem vC{tbs:List de}{j:Nat}{rest:cc}{L:List Sq}{i:Nat}{q b:Sq}(c:Nat)(h:L[i]? =some q)(hc:c<12){v:PV}(hb:kG p0 b=(kG p0 q).set c v):
  (GP T tbs j rest).set (j+1) (some ((cJ.row 119 12 L.length (gO p0 L)).p7 (over (gO p0 L) (i*12+c) [v])))=GP T tbs j (rest.set j (eV p0 (L.set i b))):=by
 have hil:=(List.getElem?_eq_some_iff.1 h).1
 rw[Df _ _ _ (by rw[ox];omega),vp c h hc hb]
 unfold GP eV
 rw[List.length_set]
 rfl
set_option maxHeartbeats 4000000 in
theorem vK(R:iX T tb p0 Φ)(hv:aq T=true)(h12:T.nodes≤12){U:List (Nat×List bU)}(hU:∀ {u n s},Φ u n s→(n,s)∈U)(hUl:U.length≤20000)(tbs:List de)(htb:∀n:Nat,(n:Int)<T.nodes→tbs[n]? =some (tb n))
  {u n:Nat} {p:dv} (hΦ:Φ u n p.stack) (hp:cP p p.stack=cP p0 p.stack):
  bT Tryz.prog 136 [aN T,eG tbs,dx p,num n] [] (Kz T tb p0 Φ tbs n p.stack):=by
 refine ct Tryz.func136 I Tryz.ntmps136 I<|ab (.a 4 I<|.k [1,3,4,6] I)<|aP<|av 3 I<|b7 (fx I I I) I<|av 1 I<|aG [1,3,4,6,10] I ?_
 refine cw 0 4 119 12 I I ?_
 refine eI (σ':=GP T tbs 0 [eV p0 []]) I ?_
 refine aP<|av 3 I<|cM I I (bT.mono (xV T p0 tbs [] (by simp) 0 [eV p0 []] I n p hp) (fun y σ' h=>?_))
 obtain⟨i0,L0,j0,rest0,rfl,rfl,hj0,_,_,hat,hL0⟩:=h
 refine aG [1,4,10] I ?_
 obtain⟨rfl,rfl⟩:L0=[qj n p.stack]∧i0=0:=by
  obtain⟨q,h1,_⟩:=hat
  have:=(List.getElem?_eq_some_iff.1 h1).1
  rcases hL0 with rfl|⟨rfl,_⟩
  ·simp at this
  ·exact⟨rfl,by simp at this;exact this⟩
 have hE0:kj T tb p0 Φ [qj n p.stack] 0 0:=kj.add (L:=[]) ⟨fun k q h=>by simp at h,fun k k' n s ⟨q,h,_⟩=>by simp at h,fun k q _ h=>by simp at h,fun k q _ h=>by simp at h⟩ (by simp) hΦ hL0
 refine aj<|ab (.a 1 I<|.k [1,4,10,11] I)<|aw<|eS [1,4,10,11] I<|bu (fun r st=>∃(i:Nat) (L:List Sq) (j:Nat) (rest:cc),i≤L.length∧r=U.length - i∧rest[j]? =some (eV p0 L)∧kj T tb p0 Φ L i i∧At L 0 n p.stack∧st=⟨[(1,eG tbs),(4,.bc (bC T) 0),(10,.ptr 0 0),(11,num i)],GP T tbs j rest⟩) U.length ⟨0,_,j0,rest0,by simp,by omega,hj0,hE0,hat,rfl⟩ ?_
 clear hj0 hE0 hat hL0
 rintro r st ⟨i,L,j,rest,hi,rfl,hj,hE,hat,rfl⟩
 have hfew:=hE.Jv hU
 refine aj<|ab (.a 4 I<|.v (aR I (ba.tk.get I) I I I) I<|.v (ov I (ba.el.get I) I hj) I<|.a 1 I<|.k [1,4,10,11,32] I)<|ah I (fun hc=>?_) (fun hc=>?_)
 ·have hlt:i<L.length:=by have:=tt hc;omega
  obtain⟨q,hq⟩:∃q,L[i]? =some q:=⟨_,List.getElem?_eq_getElem hlt⟩
  have hq0:=hE.nw i q (Nat.le_refl _) hq
  obtain⟨u1,hu1⟩:=hE.st i q hq
  obtain⟨m,s,rfl⟩:∃m s,q=qj m s:=⟨_,_,hq0⟩
  replace hu1:Φ u1 m s:=hu1
  have hmn:=R.node hu1
  obtain⟨hsm,hsl⟩:=R.small hu1
  have htn:=htb m hmn
  refine ai<|aj<|aw<|aj<|ab (.a 2 I<|.k [1,4,10,11,36] I)<|ah I (fun h=>?_) (fun hc=>?_)
  ·have h:=tt h
   exact absurd h (by omega)
  ·refine ai<|aP<|av 3 I ?_
   refine bw (aR I (ba.tk.get I) I I I) I ?_
   refine av 1 I ?_
   refine bw (b9 (i:=(i:Int)) I (ba.el.get I) I hj rfl (by omega) (by omega) I) I ?_
   refine bw (fc I (ba.tk.get I) I hj (xa hq) I) I ?_
   refine b7 (cj.to (mV I (ba.zk.get I)) (p':=.ptr (rest.length+1) 0) (σ'':=GP T tbs j (rest++[some (cJ.cells 119 [num 0,num 0,num 0,num 0,num 0,.raw (.slice none 0 0),num 0,.raw (.slice none 0 0),.raw (.slice none 0 0),num 0,num 0,num 0])])) I I) I ?_
   refine bb (cj.to (σ:=GP T tbs j (rest++[some (cJ.cells 119 [num 0,num 0,num 0,num 0,num 0,.raw (.slice none 0 0),num 0,.raw (.slice none 0 0),.raw (.slice none 0 0),num 0,num 0,num 0])])) (mG (i:=rest.length+1) (off:=0) (ys:=kG p0 (qj m s)) I (ba.tk.get I) I I I I (show(rest++[some (cJ.cells 119 [num 0,num 0,num 0,num 0,num 0,.raw (.slice none 0 0),num 0,.raw (.slice none 0 0),.raw (.slice none 0 0),num 0,num 0,num 0])])[rest.length]? =_ from cU rfl) (Nat.le_of_ble_eq_true rfl)) (σ'':=GP T tbs j (rest++[some (cJ.cells 119 (kG p0 (qj m s)))])) I (by simp[GP];rfl)) I I ?_
   refine aG [1,4,10,11,12] I ?_
   obtain⟨r1,hr1⟩:∃r1,rest++[some (cJ.cells 119 (kG p0 (qj m s)))]=r1:=⟨_,rfl⟩
   have l1:r1.length=rest.length+1:=by rw[←hr1];simp
   have b1:r1[rest.length]? =some (some (cJ.cells 119 (kG p0 (qj m s)))):=hr1▸cU rfl
   have j1:r1[j]? =some (eV p0 L):=hr1▸bS hj
   rw[hr1]
   refine oQ (rest.length+1) (show(GP T tbs j r1)[rest.length+1]? =_ from b1) (Hb b1) (.cons 1 I (.same _)<|.cons 4 I (.same _)<|.cons 10 I (.same _)<|.cons 11 I (.same _)<|.cons 12 I (.ptr 0) .nil) ?_
   have hjr:j<rest.length:=(List.getElem?_eq_some_iff.1 hj).1
   obtain⟨r2,hr2⟩:∃r2,r1.set rest.length none=r2:=⟨_,rfl⟩
   have l2:r2.length=rest.length+1:=by rw[←hr2];simp[l1]
   have j2:r2[j]? =some (eV p0 L):=hr2▸aD j1 (by omega)
   rw[hr2]
   clear hr2 j1 b1 l1 hr1 r1
   have hO:dq T (tb m) (cP p0 s)=bK T tb p0 m s:=rfl
   have hbr:=R.step hu1
   have hpk:=fun h=>JF.ev R hu1 h
   obtain⟨O,hOO⟩:∃O,bK T tb p0 m s=O:=⟨_,rfl⟩
   rw[hOO]at hO hbr hpk
   have htl:=(List.getElem?_eq_some_iff.1 htn).1
   have hal:O.ax.length≤1000:=by
    rcases hbr with h|⟨h,_⟩
    ·rw[h];simp
    ·exact h
   refine uE 20 2 (GP T tbs j r2::GP T tbs j (r2++[some (cJ.cells 66 [num 0,num 0,num 0,num 0,.raw (.slice none 0 0),num 0])])::GP T tbs j (r2++[some (cJ.cells 66 (cL O.ev))])::[]) (⟨aN T,none,0,1⟩::⟨_,none,0,1⟩::⟨_,none,0,1⟩::⟨num m,none,0,1⟩::⟨_,none,0,1⟩::⟨fv (tb m),none,0,1⟩::⟨_,none,0,1⟩::⟨dx (cP p0 s),none,0,1⟩::⟨vv O,none,0,1⟩::⟨vv O,none,0,1⟩::⟨au O.ax,none,0,1⟩::⟨dx O.ev,none,0,1⟩::⟨num O.cT,none,0,2⟩::⟨.ptr (rest.length+2) 0,some 0,0,0⟩::⟨_,none,1,1⟩::⟨_,some 1,0,0⟩::⟨_,none,2,2⟩::[]) _ mixed ?grd1 rfl rfl rfl rfl (.cons (.val [4] I I (yz (bZ (aZ I) (bZ (aZ I) df))) I I)<|.cons (.val [1] I I (yz (bZ (aZ I) (bZ (aZ I) df))) I I)<|.cons (.val [12] I I (yz (bZ (aZ I) (bZ (aZ I) df))) I I)<|.cons (.val [48] I I (yz (bZ (aZ I) (bZ (aZ I) df))) I I)<|.cons (.val [47,49] I I (yz (bZ (aM ((m*3)) I) (bZ (aM ((m*3)) I) df))) I I)<|.cons (.val [50] I I (yz (bZ (fG I (kI tbs m (tb m) htn) I) (bZ (fG I (kI tbs m (tb m) htn) I) df))) I I)<|.cons (.val [12] I I (yz (bZ (aZ I) (bZ (aZ I) df))) I I)<|.cons (.val [52] I I (yz (bZ (fG I ((rfl:((kG p0 (qj m s)).drop 1).take 6=cL (cP p0 s))) I) (bZ (fG I ((rfl:((kG p0 (qj m s)).drop 1).take 6=cL (cP p0 s))) I) df))) I I)<|.cons (.val [46,51,53] I I (yz (bZ (dX I (hO▸sW T (tb m) (cP p0 s) hsl)) (bZ (dX I (hO▸sW T (tb m) (cP p0 s) hsl)) df))) I I)<|.cons (.val [54] I I (yz (bZ (aZ I) (bZ (aZ I) df))) I I)<|.cons (.val [45] I I (yz (bZ (aZ I) (bZ (aZ I) df))) I I)<|.cons (.val [45] I I (yz (bZ (aZ I) (bZ (aZ I) df))) I I)<|.cons (.val [45] I I (yz (bZ (aZ I) (bZ (aZ I) (bZ (aZ I) df)))) I I)<|.cons (.pE [] I I I I (cj.to (σ:=GP T tbs j r2) (mV I (ba.zk.get I)) (p':=.ptr (rest.length+2) 0) (σ'':=GP T tbs j (r2++[some (cJ.cells 66 [num 0,num 0,num 0,num 0,.raw (.slice none 0 0),num 0])])) (by simp[GP,l2]) I) I I)<|.cons (.val [55] I I (yz (bZ (aZ I) df)) I I)<|.cons (.lC [14,56] I I I I (cj.to (σ:=GP T tbs j (r2++[some (cJ.cells 66 [num 0,num 0,num 0,num 0,.raw (.slice none 0 0),num 0])])) (mG (i:=rest.length+2) (off:=0) (ys:=cL O.ev) I (ba.tk.get I) I I I I (show(r2++[some (cJ.cells 66 [num 0,num 0,num 0,num 0,.raw (.slice none 0 0),num 0])])[rest.length+1]? =_ from cU l2) (Nat.le_of_ble_eq_true rfl)) (σ'':=GP T tbs j (r2++[some (cJ.cells 66 (cL O.ev))])) I (by rw[show rest.length+2=r2.length+1 by omega];simp[GP];rfl)) I)<|.cons (.val [57] I I (yz (bZ (aZ I) df)) I I) .nil) (aY (ks:=[1,4,10,11,13,14,15]) I) ?_
   case grd1=>kernel_rfl
   obtain⟨r3,hr3⟩:∃r3,r2++[some (cJ.cells 66 (cL O.ev))]=r3:=⟨_,rfl⟩
   have l3:r3.length=rest.length+2:=by rw[←hr3];simp[l2]
   have j3:r3[j]? =some (eV p0 L):=hr3▸bS j2
   have n3:r3[rest.length+1]? =some (some (cJ.cells 66 (cL O.ev))):=hr3▸cU l2
   rw[hr3]
   clear hr3 j2 l2 r2
   have hb7:i*12+12≤(gO p0 L).length:=by rw[ox];omega
   have hq1:(L.set i ⟨m,s,au O.ax,.raw (.slice none 0 0),0,0,0⟩)[i]? =some ⟨m,s,au O.ax,.raw (.slice none 0 0),0,0,0⟩:=aW hq
   refine uE 20 2 (GP T tbs j r3::GP T tbs j (r3.set j (eV p0 (L.set i ⟨m,s,au O.ax,.raw (.slice none 0 0),0,0,0⟩)))::GP T tbs j ((r3.set j (eV p0 (L.set i ⟨m,s,au O.ax,.raw (.slice none 0 0),0,0,0⟩))).set j (eV p0 ((L.set i ⟨m,s,au O.ax,.raw (.slice none 0 0),0,0,0⟩).set i ⟨m,s,au O.ax,.raw (.slice none 0 0),O.cT,0,0⟩)))::[]) (⟨_,none,0,0⟩::⟨_,none,0,0⟩::⟨_,none,0,0⟩::⟨.own (j+1),none,0,0⟩::⟨_,none,0,0⟩::⟨_,none,0,0⟩::⟨_,none,0,0⟩::⟨_,none,0,0⟩::⟨.own (j+1),none,0,0⟩::⟨_,none,0,1⟩::⟨_,none,0,0⟩::⟨_,none,0,1⟩::⟨.ptr (j+1) (i*12),none,0,0⟩::⟨_,none,0,0⟩::⟨_,some 0,0,0⟩::⟨.ptr (j+1) (i*12),none,1,1⟩::⟨_,none,1,1⟩::⟨_,some 1,0,0⟩::[]) _ mixed ?grd2 rfl rfl rfl rfl (.cons (.val [10] I I (yz (bZ (aZ I) df)) I I)<|.cons (.val [58] I I (yz (bZ (aZ I) df)) I I)<|.cons (.val [59] I I (yz (bZ (aZ I) df)) I I)<|.cons (.val [60] I I (yz (bZ (aR I (ba.tk.get I) I I I) df)) I I)<|.cons (.val [11] I I (yz (bZ (aZ I) df)) I I)<|.cons (.val [10] I I (yz (bZ (aZ I) df)) I I)<|.cons (.val [63] I I (yz (bZ (aZ I) df)) I I)<|.cons (.val [64] I I (yz (bZ (aZ I) df)) I I)<|.cons (.val [65] I I (yz (bZ (aR I (ba.tk.get I) I I I) df)) I I)<|.cons (.val [11] I I (yz (bZ (aZ I) (bZ (aZ I) df))) I I)<|.cons (.val [13] I I (yz (bZ (aZ I) df)) I I)<|.cons (.val [15] I I (yz (bZ (aZ I) (bZ (aZ I) df))) I I)<|.cons (.val [61,62] I I (yz (bZ (b9 I (ba.el.get I) I j3 rfl (by omega) (by omega) I) df)) I I)<|.cons (.val [70] I I (yz (bZ (aZ I) df)) I I)<|.cons (.lC [68,71] I I I I (cj.to (σ:=GP T tbs j r3) (cb I (ba.tk.get I) I I j3 (show i*12+7<(gO p0 L).length by omega)) (σ'':=GP T tbs j (r3.set j (eV p0 (L.set i ⟨m,s,au O.ax,.raw (.slice none 0 0),0,0,0⟩)))) I (vC 7 hq (by omega) I)) I)<|.cons (.val [66,67] I I (yz (bZ (b9 I (ba.el.get I) I (aW j3) I (by omega) (by rw[List.length_set];omega) I) df)) I I)<|.cons (.val [72] I I (yz (bZ (aZ I) df)) I I)<|.cons (.lC [69,73] I I I I (cj.to (σ:=GP T tbs j (r3.set j (eV p0 (L.set i ⟨m,s,au O.ax,.raw (.slice none 0 0),0,0,0⟩)))) (cb I (ba.tk.get I) I I (aW j3) (show i*12+9<(gO p0 (L.set i _)).length by rw[ox,List.length_set];omega)) (σ'':=GP T tbs j ((r3.set j (eV p0 (L.set i ⟨m,s,au O.ax,.raw (.slice none 0 0),0,0,0⟩))).set j (eV p0 ((L.set i ⟨m,s,au O.ax,.raw (.slice none 0 0),0,0,0⟩).set i ⟨m,s,au O.ax,.raw (.slice none 0 0),O.cT,0,0⟩)))) I (vC 9 hq1 (by omega) I)) I) .nil) (aY (ks:=[1,4,10,11,13,14]) I) ?_
   case grd2=>kernel_rfl
   rw[List.set_set,List.set_set]
   obtain⟨L2,hL2⟩:∃L2,L.set i (⟨m,s,au O.ax,.raw (.slice none 0 0),O.cT,0,0⟩:Sq)=L2:=⟨_,rfl⟩
   have hE2:kj T tb p0 Φ L2 i (i+1):=by rw[←hL2];exact hE.put (by omega) hq rfl rfl
   have hat2:At L2 0 n p.stack:=by rw[←hL2];exact hat.up hq rfl rfl
   have hq2:L2[i]? =some ⟨m,s,au O.ax,.raw (.slice none 0 0),O.cT,0,0⟩:=hL2▸aW hq
   have ll2:L2.length=L.length:=by rw[←hL2];simp
   rw[hL2]
   obtain⟨r5,hr5⟩:∃r5,r3.set j (eV p0 L2)=r5:=⟨_,rfl⟩
   have l5:r5.length=rest.length+2:=by rw[←hr5];simp[l3]
   have j5:r5[j]? =some (eV p0 L2):=hr5▸aW j3
   have n5:r5[rest.length+1]? =some (some (cJ.cells 66 (cL O.ev))):=hr5▸aD n3 (by omega)
   rw[hr5]
   clear hr5 j3 n3 l3 r3 hL2 hq1 hb7 hj hE hat
   refine si (j+1) (i*12+8) 3 1 (show(GP T tbs j r5)[j+1]? =_ from j5) (eD 8 hq2 (by omega) I) ?_
   refine eI (σ':=GP T tbs j ((r5++[qg []]).set j (eV p0 (L2.set i ⟨m,s,au O.ax,.own (rest.length+2+1),O.cT,0,0⟩)))) (by rw[show(GP T tbs j r5).length=rest.length+2+1 by simp[GP,l5],vp (p0:=p0) (b:=⟨m,s,au O.ax,.own (rest.length+2+1),O.cT,0,0⟩) (v:=.own (rest.length+2+1)) 8 hq2 (by omega) I];unfold GP eV;rw[List.length_set];rfl) ?_
   have hX:K7 T tb p0 Φ (L2.set i ⟨m,s,au O.ax,.own (rest.length+2+1),O.cT,0,0⟩) j ((r5++[qg []]).set j (eV p0 (L2.set i ⟨m,s,au O.ax,.own (rest.length+2+1),O.cT,0,0⟩))) i m s (rest.length+1) (rest.length+2) 0 [] n p.stack:=by
    refine⟨aW (bS j5),hat2.up hq2 rfl rfl,hE2.put (by omega) hq2 rfl rfl,by rw[hOO];exact aW hq2,by rw[hOO];exact aD (bS n5) (by omega),aD (cU l5) (by omega),by omega,by omega,by omega,rfl,fun z a hz=>absurd hz (by omega)⟩
   obtain⟨L3,hL3⟩:∃L3,L2.set i (⟨m,s,au O.ax,.own (rest.length+2+1),O.cT,0,0⟩:Sq)=L3:=⟨_,rfl⟩
   rw[hL3]at hX ⊢
   obtain⟨r6,hr6⟩:∃r6,(r5++[qg []]).set j (eV p0 L3)=r6:=⟨_,rfl⟩
   rw[hr6]at hX ⊢
   clear hr6 hL3 hq2 j5 n5 l5 r5 hE2 hat2 hq0
   refine ab (.a 1 I<|.k [1,4,10,11,13,14,16] I)<|aw<|eS [1,4,10,11,13,14,16] I<|bu (fun r st=>∃(k:Nat) (L:List Sq) (j:Nat) (re:cc) (jr:Nat) (js:List Int),k≤O.ax.length∧r=O.ax.length - k∧K7 T tb p0 Φ L j re i m s (rest.length+1) jr k js n p.stack∧st=⟨[(1,eG tbs),(4,.bc (bC T) 0),(10,.ptr 0 0),(11,num i),(13,au O.ax),(14,.ptr (rest.length+2) 0),(16,num k)],GP T tbs j re⟩) O.ax.length ⟨0,L3,j,r6,rest.length+2,[],by omega,by omega,hX,rfl⟩ ?_
   clear hX
   rintro r st ⟨k,L4,j4,r4,jr,js,hk,rfl,X,rfl⟩
   have hfew4:=X.ex.Jv hU
   refine aj<|ab (.a 4 I<|.k [1,4,10,11,13,14,16,77] I)<|ah I (fun hc=>?_) (fun hc=>?_)
   ·have hlt:k<O.ax.length:=by have:=tt hc;omega
    have hne:O.ax≠[]:=fun h=>by rw[h]at hlt;simp at hlt
    have hmem:O.ax.getD k 0∈O.ax:=by rw[List.getD_eq_getElem?_getD,List.getElem?_eq_getElem hlt];exact List.getElem_mem hlt
    obtain⟨b,m2,hab,hb,hm2,u',hu',hΦ'⟩:∃b m2:Nat,O.ax.getD k 0=(b:Int)∧b<2*T.ag.length∧aS T b=(m2:Int)∧∃u',u'<u1∧Φ u' m2 O.ev.stack:=by
     rcases hbr with h|⟨_,_,h⟩
     ·exact absurd h hne
     ·exact h _ hmem
    have hll:=bV hv
    refine ai<|aj<|aw<|C7 8 20 [80,81,82,83,84,85,86,87] mixed (by kernel_rfl) (by kernel_rfl) (by kernel_rfl) I (.a 4 I<|.v [82,83] (aM (k) I) I I<|.v [84] (aJ I ((aB _ k hlt).trans (by rw[hab]))) I I<|.v [81,85] (dX I ((show Can Tryz.prog 41 [aN T,num b] (· =num m2) by have h:=jG T hv b hb;rw[hm2]at h;exact h))) I I<|.v [14] (cS (σ:=GP T tbs j4 r4) I (ba.tk.get I) I (X.KE.trans (by rw[hOO])) I) I I<|.k [1,4,10,11,13,14,16,80,86,87] I) ?_
    refine cM I I (bT.mono (xV T p0 tbs L4 (by omega) j4 r4 X.row m2 O.ev (hpk hne)) (fun y σ' h=>?_))
    obtain⟨i1,L1,j1,rest1,rfl,rfl,a1,k1,hj1,hat1,hL1⟩:=h
    refine av 1 I<|aG [1,4,10,11,13,14,16,17] I ?_
    have hE1:kj T tb p0 Φ L1 i (i+1):=X.ex.add (by have:=(List.getElem?_eq_some_iff.1 X.at_).1;omega) hΦ' hL1
    have hmono:∀k n s,At L4 k n s→At L1 k n s:=fun k n s h=>by
     rcases hL1 with rfl|⟨rfl,_⟩
     ·exact h
     ·exact h.app
    have hq1:L1[i]? =some ⟨m,s,au O.ax,.own (jr+1),O.cT,0,0⟩:=by
     have h0:=X.at_
     rw[hOO]at h0
     rcases hL1 with rfl|⟨rfl,_⟩
     ·exact h0
     ·exact bS h0
    have lj:=X.lj
    have Ka:=X.Ka
    have Le:=X.Le
    have KK:=X.KK
    have hjrl:=(List.getElem?_eq_some_iff.1 X.Ko).1
    have hnbl:=(List.getElem?_eq_some_iff.1 X.KE).1
    have hk1:=k1.len
    have nb1:rest1[rest.length+1]? =some (some (cJ.cells 66 (cL O.ev))):=(k1.same _ hnbl KK).trans (X.KE.trans (by rw[hOO]))
    have Kt:rest1[jr]? =some (qg js):=(k1.same _ hjrl (Ne.symm Ka)).trans X.Ko
    have hne4:j1≠jr:=by omega
    have hne5:rest.length+1≠j1:=by omega
    have hil1:=(List.getElem?_eq_some_iff.1 hq1).1
    have a2:(rest1.set jr none++[qg (js++[(i1:Int)])])[j1]? =some (eV p0 L1):=bS (aD a1 (by omega))
    refine ua 20 2 (GP T tbs j1 rest1::GP T tbs j1 (rest1.set jr none++[qg (js++[(i1:Int)])])::GP T tbs j1 ((rest1.set jr none++[qg (js++[(i1:Int)])]).set j1 (eV p0 (L1.set i ⟨m,s,au O.ax,.own (rest1.length+1),O.cT,0,0⟩)))::[]) (⟨_,none,0,1⟩::⟨_,none,0,1⟩::⟨_,none,0,1⟩::⟨.own (j1+1),none,0,1⟩::⟨_,none,0,1⟩::⟨_,none,0,0⟩::⟨_,none,0,0⟩::⟨_,none,0,0⟩::⟨.own (j1+1),none,0,0⟩::⟨_,none,0,0⟩::⟨.ptr (j1+1) (i*12),none,0,0⟩::⟨_,none,0,0⟩::⟨.own (jr+1),none,0,0⟩::⟨_,none,0,0⟩::⟨.slice 1 [num (i1:Int)],none,0,0⟩::⟨.own (rest1.length+1),some 0,0,0⟩::⟨.ptr (j1+1) (i*12),none,1,1⟩::⟨_,none,1,1⟩::⟨_,some 1,0,0⟩::[]) _ mixed ?grd3 rfl rfl rfl rfl (.cons (.val [10] I I (yz (bZ (aZ I) (bZ (aZ I) df))) I I)<|.cons (.val [89] I I (yz (bZ (aZ I) (bZ (aZ I) df))) I I)<|.cons (.val [90] I I (yz (bZ (aZ I) (bZ (aZ I) df))) I I)<|.cons (.val [91] I I (yz (bZ (aR I (ba.tk.get I) I I I) (bZ (aR I (ba.tk.get I) I I I) df))) I I)<|.cons (.val [11] I I (yz (bZ (aZ I) (bZ (aZ I) df))) I I)<|.cons (.val [10] I I (yz (bZ (aZ I) df)) I I)<|.cons (.val [94] I I (yz (bZ (aZ I) df)) I I)<|.cons (.val [95] I I (yz (bZ (aZ I) df)) I I)<|.cons (.val [96] I I (yz (bZ (aR I (ba.tk.get I) I I I) df)) I I)<|.cons (.val [11] I I (yz (bZ (aZ I) df)) I I)<|.cons (.val [97,98] I I (yz (bZ (b9 I (ba.el.get I) I a1 rfl (by omega) (by omega) I) df)) I I)<|.cons (.val [99] I I (yz (bZ (aZ I) df)) I I)<|.cons (.val [100] I I (yz (bZ (aR I (ba.tk.get I) I a1 (eD 8 hq1 (by omega) I)) df)) I I)<|.cons (.val [17] I I (yz (bZ (aZ I) df)) I I)<|.cons (.val [102] I I (yz (bZ (aZ I) df)) I I)<|.cons (.pE [101,103] I I I I (cj.to (σ:=GP T tbs j1 rest1) (bg (e:=3) (s:=1) (by':=8) (i:=jr+1) (m:=1) (n:=js.length) (xs:=aK js) (ys:=[num (i1:Int)]) I (ba.rk.get I) I Kt rfl rfl ⟨by unfold maxLen;omega,by omega⟩) (p':=.own (rest1.length+1)) (σ'':=GP T tbs j1 (rest1.set jr none++[qg (js++[(i1:Int)])])) I (by unfold qg;rw[List.length_append];simp[aK,GP])) I I)<|.cons (.val [92,93] I I (yz (bZ (b9 I (ba.el.get I) I a2 rfl (by omega) (by omega) I) df)) I I)<|.cons (.val [105] I I (yz (bZ (aZ I) df)) I I)<|.cons (.lC [104,106] I I I I (cj.to (σ:=GP T tbs j1 (rest1.set jr none++[qg (js++[(i1:Int)])])) (cb I (ba.tk.get I) I I a2 (show i*12+8<(gO p0 L1).length by rw[ox];omega)) (σ'':=GP T tbs j1 ((rest1.set jr none++[qg (js++[(i1:Int)])]).set j1 (eV p0 (L1.set i ⟨m,s,au O.ax,.own (rest1.length+1),O.cT,0,0⟩)))) I (vC 8 hq1 (by omega) I)) I) .nil) (aY (ks:=[1,4,10,11,13,14,16]) I) ?_
    case grd3=>kernel_rfl
    refine aC (.a 1 I<|.v (aV I) I<|.a 1 I<|.k [1,4,10,11,13,14,16] I) ?_
    refine⟨O.ax.length - (k+1),by omega,k+1,L1.set i ⟨m,s,au O.ax,.own (rest1.length+1),O.cT,0,0⟩,j1,_,rest1.length,js++[(i1:Int)],by omega,rfl,⟨aW a2,(hmono _ _ _ X.K4).up hq1 rfl rfl,hE1.put (by omega) hq1 rfl rfl,by rw[hOO];exact aW (a:=(⟨m,s,au O.ax,.own (rest1.length+1),O.cT,0,0⟩:Sq)) hq1,by rw[hOO];exact aD (bS (aD nb1 (by omega))) (by omega),aD (cU (by simp)) (by have:=(List.getElem?_eq_some_iff.1 a1).1;omega),by have:=(List.getElem?_eq_some_iff.1 a1).1;omega,by omega,by omega,by simp[lj],fun z a hz ha=>?_⟩,rfl⟩
    by_cases hzk:z<k
    ·obtain⟨jm,g1,g2⟩:=X.hd z a hzk ha
     exact⟨jm,bS g1,(hmono _ _ _ g2).up hq1 rfl rfl⟩
    ·obtain rfl:z=k:=by omega
     rw[hOO]at ha ⊢
     have e1:a=(b:Int):=by rw[←hab,List.getD_eq_getElem?_getD,ha];rfl
     refine⟨i1,cU lj,At.up ?_ hq1 rfl rfl⟩
     rw[e1,Int.toNat_natCast,hm2,Int.toNat_natCast]
     exact hat1
   ·have hke:k=O.ax.length:=by have:=ff hc;omega
    refine oQ (jr+1) (show(GP T tbs j4 r4)[jr+1]? =_ from X.Ko) (F4 (q':=⟨m,s,(au (bK T tb p0 m s).ax),au js,(bK T tb p0 m s).cT,0,0⟩) X.Ka X.Ko X.row X.at_ rfl .own) (.cons 1 I (.same _)<|.cons 4 I (.same _)<|.cons 10 I (.same _)<|.cons 11 I (.same _) .nil) ?_
    refine bh<|aC (.a 1 I<|.v (aV I) I<|.a 1 I<|.k [1,4,10,11] I) ?_
    subst hke
    refine⟨U.length - (i+1),by omega,i+1,L4.set i ⟨m,s,(au (bK T tb p0 m s).ax),au js,(bK T tb p0 m s).cT,0,0⟩,j4,(r4.set jr none).set j4 (eV p0 (L4.set i ⟨m,s,(au (bK T tb p0 m s).ax),au js,(bK T tb p0 m s).cT,0,0⟩)),by have:=(List.getElem?_eq_some_iff.1 X.at_).1;rw[List.length_set];omega,rfl,aW (aD X.row (Ne.symm X.Ka)),kj.next (X.ex.put (by omega) X.at_ rfl rfl) (aW X.at_) ⟨js,rfl,by rw[X.lj,hOO],fun z a ha=>?_⟩,X.K4.up X.at_ rfl rfl,rfl⟩
    have hz:z<O.ax.length:=by rw[←hOO];exact(List.getElem?_eq_some_iff.1 ha).1
    obtain⟨jm,g1,g2⟩:=X.hd z a hz ha
    exact⟨jm,g1,g2.up X.at_ rfl rfl⟩
 ·have hie:i=L.length:=by have:=ff hc;omega
  subst hie
  exact bh<|ab (.a 3 I<|.k [8,9] I)<|ao<|⟨_,az.of I,L,j,rest,rfl,rfl,hj,hE,hat⟩
end
inductive Cn (T:an) (tb:Nat→de) (p0:dv):Nat→List bU→Int→Prop
 |mk {n:Nat} {s:List bU} {cs:List Int}:cs.length=(bK T tb p0 n s).ax.length→
   (∀i,i<(bK T tb p0 n s).ax.length→Cn T tb p0 (aS T ((bK T tb p0 n s).ax.getD i 0).toNat).toNat (bK T tb p0 n s).ev.stack (cs.getD i 0))→Cn T tb p0 n s (eQ (bK T tb p0 n s).ax cs)
section
variable {T:an} {tb:Nat→de} {p0:dv} {Φ:Nat→Nat→List bU→Prop}
theorem Cn.bound{n:Nat}{s:List bU}{c:Int}(h:Cn T tb p0 n s c):0≤c∧c≤1001:=by
 induction h with
 | @mk n s cs h2 _ ih=>
  unfold eQ
  split
  ·omega
  ·refine ia cs 0 (by omega) (by omega) fun c hc=>?_
   obtain⟨i,hi⟩:=List.getElem?_of_mem hc
   have hlt:=(List.getElem?_eq_some_iff.1 hi).1
   have:=(ih i (by rw[←h2];exact hlt)).1
   rw[List.getD_eq_getElem?_getD,hi]at this
   exact this
def Sq.mark(q:Sq)(c t:Int):Sq:=⟨q.n,q.s,q.a,q.x,q.cT,c,t⟩
def iv(T:an)(tb:Nat→de)(p0:dv)(L M:List Sq)(op:List Nat):Prop:=
 M.length=L.length∧∀(k:Nat) q,L[k]? =some q→∃c t,M[k]? =some (q.mark c t)∧((c=0∧t=0)∨(c=1∧k∈op)∨(c=2∧Cn T tb p0 q.n q.s t))
theorem iv.open_{L M:List Sq}{op:List Nat}(h:iv T tb p0 L M op){i:Nat}{q:Sq}(hq:L[i]? =some q)(t:Int):iv T tb p0 L (M.set i (q.mark 1 t)) (i::op):=by
 refine⟨by rw[List.length_set];exact h.1,fun k x hx=>?_⟩
 by_cases hk:k=i
 ·subst hk
  rw[hq]at hx
  cases hx
  obtain⟨c,t',h1,_⟩:=h.2 k q hq
  exact⟨1,t,aW h1,.inr (.inl ⟨rfl,List.mem_cons_self⟩)⟩
 ·obtain⟨c,t',h1,h2⟩:=h.2 k x hx
  refine⟨c,t',aD h1 (Ne.symm hk),?_⟩
  rcases h2 with h2|⟨h2,h3⟩|h2
  ·exact .inl h2
  ·exact .inr (.inl ⟨h2,List.mem_cons_of_mem _ h3⟩)
  ·exact .inr (.inr h2)
theorem iv.shut{L M:List Sq}{op:List Nat}{i:Nat}(h:iv T tb p0 L M (i::op)){q:Sq}(hq:L[i]? =some q){t:Int}(ht:Cn T tb p0 q.n q.s t):iv T tb p0 L (M.set i (q.mark 2 t)) op:=by
 refine⟨by rw[List.length_set];exact h.1,fun k x hx=>?_⟩
 by_cases hk:k=i
 ·subst hk
  rw[hq]at hx
  cases hx
  obtain⟨c,t',h1,_⟩:=h.2 k q hq
  exact⟨2,t,aW h1,.inr (.inr ⟨rfl,ht⟩)⟩
 ·obtain⟨c,t',h1,h2⟩:=h.2 k x hx
  refine⟨c,t',aD h1 (Ne.symm hk),?_⟩
  rcases h2 with h2|⟨h2,h3⟩|h2
  ·exact .inl h2
  ·rcases List.mem_cons.1 h3 with h3|h3
   ·exact absurd h3 hk
   ·exact .inr (.inl ⟨h2,h3⟩)
  ·exact .inr (.inr h2)
def GV(T:an)(p0:dv)(tbs:List de)(j:Nat)(rest:cc)(M:List Sq):cc:=GP T tbs j (rest.set j (eV p0 M))
theorem cO{tbs:List de}{j:Nat}{rest:cc}{M:List Sq}(hj:j<rest.length):(GV T p0 tbs j rest M)[j+1]? =some (eV p0 M):=by
 show(rest.set j (eV p0 M))[j]? =_
 rw[List.getElem?_set,if_pos rfl,if_pos hj]
theorem o6{tbs:List de}{j:Nat}{rest:cc}{L:List Sq}{i:Nat}{q b:Sq}(c:Nat)(h:L[i]? =some q)(hc:c<12){v:PV}(hb:kG p0 b=(kG p0 q).set c v):
  (GV T p0 tbs j rest L).set (j+1) (some ((cJ.row 119 12 L.length (gO p0 L)).p7 (over (gO p0 L) (i*12+c) [v])))=GV T p0 tbs j rest (L.set i b):=by
 unfold GV
 rw[vC c h hc hb,List.set_set]
theorem o7{p0:dv}{L:List Sq}{i:Nat}{q:Sq}(c:Nat)(h:L[i]? =some q)(hc:c<12):i*12+c<(gO p0 L).length:=by
 have hil:=(List.getElem?_eq_some_iff.1 h).1
 rw[ox];omega
def Lg(T:an)(tb:Nat→de)(p0:dv)(tbs:List de)(L M:List Sq)(op:List Nat)(j:Nat)(rest:cc)(i:Nat)(q:Sq)(r:PV)(σ':cc):Prop:=
 ∃M' t,r=flag true∧σ'=GV T p0 tbs j rest M'∧iv T tb p0 L M' op∧(∀k∈op,M'[k]? =M[k]?)∧M'[i]? =some (q.mark 2 t)∧Cn T tb p0 q.n q.s t
set_option maxHeartbeats 4000000 in
theorem zO(R:iX T tb p0 Φ)(L:List Sq)(hL:kj T tb p0 Φ L L.length L.length)(hll:L.length≤100000)(tbs:List de)(j:Nat)(rest:cc)(hj:j<rest.length):
  ∀(u i:Nat) (q:Sq),L[i]? =some q→Φ u q.n q.s→∀(op:List Nat) (M:List Sq),iv T tb p0 L M op→(∀k∈op,∃qk,L[k]? =some qk∧CU T tb p0 qk.n qk.s q.n q.s)→
   bT Tryz.prog 137 [.ptr 0 0,num i] (GV T p0 tbs j rest M) (Lg T tb p0 tbs L M op j rest i q):=by
 intro u
 induction u using Nat.strongRecOn with
 |_ u ih=>
 intro i q hq hΦ op M hok hop
 have hil:=(List.getElem?_eq_some_iff.1 hq).1
 have hni:i∉op:=fun h=>by
  obtain⟨qk,h1,h2⟩:=hop i h
  rw[hq]at h1
  cases h1
  exact R.wF h2 hΦ
 obtain⟨c,t,hM,hct⟩:=hok.2 i q hq
 obtain⟨js,hqe,hjl,hjs⟩:=hL.dn i q hil hq
 have hbr:=R.step hΦ
 obtain⟨O,hOO⟩:∃O,bK T tb p0 q.n q.s=O:=⟨_,rfl⟩
 rw[hOO]at hqe hjl hjs hbr
 have hqx:q.x=au js:=congrArg Sq.x hqe
 have hMl:=hok.1
 have hal:O.ax.length≤1000:=by
  rcases hbr with h|⟨h,_⟩
  ·rw[h];simp
  ·exact h
 refine ct Tryz.func137 I Tryz.ntmps137 I<|ab (.a 1 I<|.k [0,1] I)<|aj<|ab (.a 3 I<|.v (aR (i:=0) (k:=4) (p:=.own (j+1)) I (ba.tk.get I) I I I) I<|.a 1 I<|.v (b9 (i:=(i:Int)) I (ba.el.get I) I (cO hj) I (by omega) (by omega) I) I<|.a 1 I<|.v (aR I (ba.tk.get I) I (cO hj) (eD (v:=num c) 10 hM (by omega) I)) I<|.a 1 I<|.k [0,1,15] I)<|ah I (fun hc=>?_) (fun hc=>?_)
 ·have hc2:c=2∧Cn T tb p0 q.n q.s t:=by
   have:=tt hc
   rcases hct with⟨h,_⟩|⟨_,h⟩|h
   ·omega
   ·exact absurd h hni
   ·exact h
  obtain⟨rfl,hcn⟩:=hc2
  exact ab (.a 3 I<|.v (aR (i:=0) (k:=4) (p:=.own (j+1)) I (ba.tk.get I) I I I) I<|.a 1 I<|.v (b9 (i:=(i:Int)) I (ba.el.get I) I (cO hj) I (by omega) (by omega) I) I<|.a 1 I<|.v (aR I (ba.tk.get I) I (cO hj) (eD (v:=num 2) 10 hM (by omega) I)) I<|.a 2 I<|.k [4] I)<|ao<|⟨_,az.of I,M,t,rfl,rfl,hok,fun k _=>rfl,hM,hcn⟩
 ·have hc0:c=0∧t=0:=by
   have:=ff hc
   rcases hct with h|⟨h,_⟩|⟨h,_⟩
   ·exact h
   ·omega
   ·omega
  obtain⟨rfl,rfl⟩:=hc0
  refine ai<|aP<|av 3 I ?_
  refine bw (aR (i:=0) (k:=4) (p:=.own (j+1)) I (ba.tk.get I) I I I) I ?_
  refine av 1 I ?_
  refine bw (b9 (i:=(i:Int)) I (ba.el.get I) I (cO hj) I (by omega) (by omega) I) I ?_
  refine av 1 I ?_
  refine bb (cj.to (σ:=GV T p0 tbs j rest M) (cb I (ba.tk.get I) I I (cO hj) (o7 10 hM (by omega))) (σ'':=GV T p0 tbs j rest (M.set i (q.mark 1 0))) I (o6 10 hM (by omega) I)) I I ?_
  refine aG [0,1] I ?_
  obtain⟨M1,hM1⟩:∃M1,M.set i (q.mark 1 0)=M1:=⟨_,rfl⟩
  have hq1:M1[i]? =some (q.mark 1 0):=hM1▸aW hM
  have hl1:M1.length=L.length:=by rw[←hM1,List.length_set];exact hMl
  rw[hM1]
  refine aj<|ab (.a 3 I<|.v (aR (i:=0) (k:=4) (p:=.own (j+1)) I (ba.tk.get I) I I I) I<|.a 1 I<|.v (b9 (i:=(i:Int)) I (ba.el.get I) I (cO hj) I (by omega) (by omega) I) I<|.a 1 I<|.v (aR I (ba.tk.get I) I (cO hj) (eD (v:=au js) 8 hq1 (by omega) (by rw[←hqx];rfl))) I<|.a 2 I<|.k [0,1,41] I)<|ah I (fun hc=>?_) (fun hc=>?_)
  ·have harc:O.ax=[]:=List.eq_nil_of_length_eq_zero (by have:=tt hc;omega)
   refine bG<|av 3 I ?_
   refine bw (aR (i:=0) (k:=4) (p:=.own (j+1)) I (ba.tk.get I) I I I) I ?_
   refine av 1 I ?_
   refine bw (b9 (i:=(i:Int)) I (ba.el.get I) I (cO hj) I (by omega) (by omega) I) I ?_
   refine av 1 I ?_
   refine bb (cj.to (σ:=GV T p0 tbs j rest M1) (cb I (ba.tk.get I) I I (cO hj) (o7 11 hq1 (by omega))) (σ'':=GV T p0 tbs j rest (M1.set i (q.mark 1 1))) I (o6 11 hq1 (by omega) I)) I I ?_
   refine aG [0,1] I ?_
   obtain⟨M2,hM2,hok2,hfr2⟩:∃M2,M1.set i (q.mark 1 1)=M2∧iv T tb p0 L M2 (i::op)∧∀k∈op,M2[k]? =M[k]? :=⟨_,rfl,by rw[←hM1,List.set_set];exact hok.open_ hq 1,fun k hk=>by rw[←hM1,List.set_set,List.getElem?_set,if_neg (fun e=>hni (by rw[e];exact hk))]⟩
   have hq2:M2[i]? =some (q.mark 1 (eQ O.ax [])):=by rw[←hM2,aW hq1];unfold eQ;rw[if_pos harc]
   rw[hM2]
   clear hM2 hq1 hl1 hM1 harc hc
   refine aj<|ab (.a 1 I<|.k [0,1,5] I)<|aw<|eS [0,1,5] I<|bu (fun r st=>∃(k:Nat) (M':List Sq) (cs:List Int),k≤js.length∧r=js.length - k∧M'[i]? =some (q.mark 1 (eQ O.ax cs))∧cs.length=k∧iv T tb p0 L M' (i::op)∧(∀k∈op,M'[k]? =M[k]?)∧(∀z,z<k→Cn T tb p0 (aS T (O.ax.getD z 0).toNat).toNat O.ev.stack (cs.getD z 0))∧st=⟨[(0,.ptr 0 0),(1,num i),(5,num k)],GV T p0 tbs j rest M'⟩) js.length ⟨0,M2,[],by omega,by omega,hq2,rfl,hok2,hfr2,fun z hz=>absurd hz (by omega),rfl⟩ ?_
   clear hq2 hok2 hfr2 M2
   rintro r st ⟨k,M',cs,hk,rfl,hqi,hlc,hok',hfr,hcn,rfl⟩
   have hMl':=hok'.1
   refine aj<|ab (.a 4 I<|.v (aR (i:=0) (k:=4) (p:=.own (j+1)) I (ba.tk.get I) I I I) I<|.a 1 I<|.v (b9 (i:=(i:Int)) I (ba.el.get I) I (cO hj) I (by omega) (by omega) I) I<|.a 1 I<|.v (aR I (ba.tk.get I) I (cO hj) (eD (v:=au js) 8 hqi (by omega) (by rw[←hqx];rfl))) I<|.a 2 I<|.k [0,1,5,59] I)<|ah I (fun hc=>?_) (fun hc=>?_)
   ·have hlt:k<js.length:=by have:=tt hc;omega
    obtain⟨a,ha⟩:∃a,O.ax[k]? =some a:=⟨_,List.getElem?_eq_getElem (by omega)⟩
    have had:O.ax.getD k 0=a:=by rw[List.getD_eq_getElem?_getD,ha];rfl
    obtain⟨jm,g1,q2,hq2,hn2,hs2⟩:=hjs k a ha
    obtain⟨b,m2,hab,hb,hm2,u',hu',hΦ'⟩:∃b m2:Nat,a=(b:Int)∧b<2*T.ag.length∧aS T b=(m2:Int)∧∃u',u'<u∧Φ u' m2 O.ev.stack:=by
     rcases hbr with h|⟨_,_,h⟩
     ·rw[h]at ha;simp at ha
     ·exact h _ (List.mem_of_getElem? ha)
    have hhead:aS T a.toNat=(m2:Int):=by rw[hab,Int.toNat_natCast];exact hm2
    have hn3:q2.n=m2:=by rw[hn2,hhead,Int.toNat_natCast]
    have hΦ2:Φ u' q2.n q2.s:=by rw[hn3,hs2];exact hΦ'
    have hop':∀k∈i::op,∃qk,L[k]? =some qk∧CU T tb p0 qk.n qk.s q2.n q2.s:=fun z hz=>by
     have ha':a∈(bK T tb p0 q.n q.s).ax:=by rw[hOO];exact List.mem_of_getElem? ha
     rw[hn3,hs2,←hOO]
     rcases List.mem_cons.1 hz with rfl|hz
     ·exact⟨q,hq,.one ha' hhead⟩
     ·obtain⟨qk,e1,e2⟩:=hop z hz
      exact⟨qk,e1,.more e2 ha' hhead⟩
    have hjm:=(List.getElem?_eq_some_iff.1 hq2).1
    refine ai<|aj<|aw<|ab (.a 3 I<|.v (aR (i:=0) (k:=4) (p:=.own (j+1)) I (ba.tk.get I) I I I) I<|.a 1 I<|.v (b9 (i:=(i:Int)) I (ba.el.get I) I (cO hj) I (by omega) (by omega) I) I<|.a 1 I<|.v (aR I (ba.tk.get I) I (cO hj) (eD (v:=au js) 8 hqi (by omega) (by rw[←hqx];rfl))) I<|.a 1 I<|.v (aM (k) I) I<|.v (aJ I ((aB js k hlt).trans (show some (num (js.getD k 0))=some (num (jm:Int)) by rw[List.getD_eq_getElem?_getD,g1];rfl))) I<|.a 1 I<|.k [0,1,5,6] I) ?_
    refine aj<|aP<|av 2 I<|cM I I (bT.mono (ih u' hu' jm q2 hq2 hΦ2 (i::op) M' hok' hop') (fun y σ' h=>?_))
    obtain⟨M3,t3,rfl,rfl,hok3,hfr3,hM3,hcn3⟩:=h
    refine av 1 I<|aG [0,1,5,6,76] I ?_
    refine ah I (fun hc=>?_) (fun hc=>?_)
    ·cases hc
    ·have hqi3:M3[i]? =some (q.mark 1 (eQ O.ax cs)):=(hfr3 i List.mem_cons_self).trans hqi
     have hMl3:=hok3.1
     have hne:O.ax≠[]:=fun h=>by rw[h]at ha;simp at ha
     have hcb:0≤eQ O.ax cs∧eQ O.ax cs≤1001:=by
      unfold eQ
      rw[if_neg hne]
      refine ia cs 0 (by omega) (by omega) fun z hz=>?_
      obtain⟨y,hy⟩:=List.getElem?_of_mem hz
      have hyl:=(List.getElem?_eq_some_iff.1 hy).1
      have:=(hcn y (by omega)).bound.1
      rwa [List.getD_eq_getElem?_getD,hy]at this
     have hbs:min 1001 (eQ O.ax cs+t3)=eQ O.ax (cs++[t3]):=by unfold eQ;rw[if_neg hne,if_neg hne,mc];omega
     have hct3:=hcn3.bound
     refine ai<|dL 25 20 mixed (
      .val [0] I (aZ I) I I<|
      .val [77] I (aZ I) I I<|
      .val [78] I (aZ I) I I<|
      .val [79] I (aR (i:=0) (k:=4) (p:=.own (j+1)) I (ba.tk.get I) I I I) I I<|
      .val [1] I (aZ I) I I<|
      .val [0] I (aZ I) I I<|
      .val [82] I (aZ I) I I<|
      .val [83] I (aZ I) I I<|
      .val [84] I (aR (i:=0) (k:=4) (p:=.own (j+1)) I (ba.tk.get I) I I I) I I<|
      .val [1] I (aZ I) I I<|
      .val [85,86] I (b9 (i:=(i:Int)) I (ba.el.get I) I (cO hj) I (by omega) (by omega) I) I I<|
      .val [87] I (aZ I) I I<|
      .val [88] I (aR I (ba.tk.get I) I (cO hj) (eD (v:=num (eQ O.ax cs)) 11 hqi3 (by omega) I)) I I<|
      .val [0] I (aZ I) I I<|
      .val [90] I (aZ I) I I<|
      .val [91] I (aZ I) I I<|
      .val [92] I (aR (i:=0) (k:=4) (p:=.own (j+1)) I (ba.tk.get I) I I I) I I<|
      .val [6] I (aZ I) I I<|
      .val [93,94] I (b9 (i:=(jm:Int)) I (ba.el.get I) I (cO hj) I (by omega) (by omega) I) I I<|
      .val [95] I (aZ I) I I<|
      .val [96] I (aR I (ba.tk.get I) I (cO hj) (eD (v:=num t3) 11 hM3 (by omega) I)) I I<|
      .val [89,97] I (aV I) I I<|
      .val [98] I (uo I I I (hbs)) I I<|
      .val [80,81] I (b9 (i:=(i:Int)) I (ba.el.get I) I (cO hj) I (by omega) (by omega) I) I I<|
      .val [100] I (aZ I) I I<|
      .nil) (by kernel_rfl) I I (aY (ks:=[0,1,5,99,101]) I) ?_
     refine bb (cj.to (σ:=GV T p0 tbs j rest M3) (cb I (ba.tk.get I) I I (cO hj) (o7 11 hqi3 (by omega))) (σ'':=GV T p0 tbs j rest (M3.set i (q.mark 1 (eQ O.ax (cs++[t3]))))) I (o6 11 hqi3 (by omega) I)) I I<|aG [0,1,5] I ?_
     refine aC (.a 1 I<|.v (aV I) I<|.a 1 I<|.k [0,1,5] I) ?_
     refine⟨js.length - (k+1),by omega,k+1,_,cs++[t3],by omega,rfl,aW hqi3,by simp[hlc],?_,fun z hz=>?_,fun z hz=>?_,rfl⟩
     ·have:=hok3.open_ hq (eQ O.ax (cs++[t3]))
      refine⟨this.1,fun z x hx=>?_⟩
      obtain⟨c,t,e1,e2⟩:=this.2 z x hx
      refine⟨c,t,e1,?_⟩
      rcases e2 with e2|⟨e2,e3⟩|e2
      ·exact .inl e2
      ·refine .inr (.inl ⟨e2,?_⟩)
       rcases List.mem_cons.1 e3 with e3|e3
       ·rw[e3];exact List.mem_cons_self
       ·exact e3
      ·exact .inr (.inr e2)
     ·rw[List.getElem?_set,if_neg (fun e=>hni (by rw[e];exact hz)),hfr3 z (List.mem_cons_of_mem _ hz)]
      exact hfr z hz
     ·by_cases hzk:z<k
      ·have e1:(cs++[t3]).getD z 0=cs.getD z 0:=by rw[List.getD_eq_getElem?_getD,List.getD_eq_getElem?_getD,List.getElem?_append_left (by omega)]
       rw[e1]
       exact hcn z hzk
      ·obtain rfl:z=k:=by omega
       have e1:(cs++[t3]).getD z 0=t3:=by rw[List.getD_eq_getElem?_getD,cU hlc];rfl
       rw[e1,had,←hn2,←hs2]
       exact hcn3
   ·have hke:k=js.length:=by have:=ff hc;omega
    refine bh<|aP<|av 3 I ?_
    refine bw (aR (i:=0) (k:=4) (p:=.own (j+1)) I (ba.tk.get I) I I I) I ?_
    refine av 1 I ?_
    refine bw (b9 (i:=(i:Int)) I (ba.el.get I) I (cO hj) I (by omega) (by omega) I) I ?_
    refine av 1 I ?_
    refine bb (cj.to (σ:=GV T p0 tbs j rest M') (cb I (ba.tk.get I) I I (cO hj) (o7 10 hqi (by omega))) (σ'':=GV T p0 tbs j rest (M'.set i (q.mark 2 (eQ O.ax cs)))) I (o6 10 hqi (by omega) I)) I I ?_
    refine aG [] I ?_
    refine ab (.a 1 I<|.k [4] I)<|ao ?_
    have hcc:Cn T tb p0 q.n q.s (eQ O.ax cs):=by
     have:=Cn.mk (T:=T) (tb:=tb) (p0:=p0) (n:=q.n) (s:=q.s) (cs:=cs) (by rw[hOO];omega) (fun z hz=>by rw[hOO]at hz ⊢;exact hcn z (by omega))
     rwa [hOO]at this
    exact⟨_,az.of I,_,_,rfl,rfl,hok'.shut hq hcc,fun z hz=>by rw[List.getElem?_set,if_neg (fun e=>hni (by rw[e];exact hz))];exact hfr z hz,aW hqi,hcc⟩
  ·have harc:O.ax≠[]:=fun h=>by have:=ff hc;rw[h]at hjl;simp at hjl;subst hjl;simp at this
   obtain⟨M2,hM2,hok2,hfr2⟩:∃M2,M1=M2∧iv T tb p0 L M2 (i::op)∧∀k∈op,M2[k]? =M[k]? :=⟨_,rfl,hM1▸hok.open_ hq 0,fun k hk=>by rw[←hM1,List.getElem?_set,if_neg (fun e=>hni (by rw[e];exact hk))]⟩
   have hq2:M2[i]? =some (q.mark 1 (eQ O.ax [])):=by rw[←hM2,hq1];unfold eQ;rw[if_neg harc];rfl
   rw[hM2]
   clear hM2 hq1 hl1 hM1 harc hc
   refine ai<|aj<|ab (.a 1 I<|.k [0,1,5] I)<|aw<|eS [0,1,5] I<|bu (fun r st=>∃(k:Nat) (M':List Sq) (cs:List Int),k≤js.length∧r=js.length - k∧M'[i]? =some (q.mark 1 (eQ O.ax cs))∧cs.length=k∧iv T tb p0 L M' (i::op)∧(∀k∈op,M'[k]? =M[k]?)∧(∀z,z<k→Cn T tb p0 (aS T (O.ax.getD z 0).toNat).toNat O.ev.stack (cs.getD z 0))∧st=⟨[(0,.ptr 0 0),(1,num i),(5,num k)],GV T p0 tbs j rest M'⟩) js.length ⟨0,M2,[],by omega,by omega,hq2,rfl,hok2,hfr2,fun z hz=>absurd hz (by omega),rfl⟩ ?_
   clear hq2 hok2 hfr2 M2
   rintro r st ⟨k,M',cs,hk,rfl,hqi,hlc,hok',hfr,hcn,rfl⟩
   have hMl':=hok'.1
   refine aj<|ab (.a 4 I<|.v (aR (i:=0) (k:=4) (p:=.own (j+1)) I (ba.tk.get I) I I I) I<|.a 1 I<|.v (b9 (i:=(i:Int)) I (ba.el.get I) I (cO hj) I (by omega) (by omega) I) I<|.a 1 I<|.v (aR I (ba.tk.get I) I (cO hj) (eD (v:=au js) 8 hqi (by omega) (by rw[←hqx];rfl))) I<|.a 2 I<|.k [0,1,5,59] I)<|ah I (fun hc=>?_) (fun hc=>?_)
   ·have hlt:k<js.length:=by have:=tt hc;omega
    obtain⟨a,ha⟩:∃a,O.ax[k]? =some a:=⟨_,List.getElem?_eq_getElem (by omega)⟩
    have had:O.ax.getD k 0=a:=by rw[List.getD_eq_getElem?_getD,ha];rfl
    obtain⟨jm,g1,q2,hq2,hn2,hs2⟩:=hjs k a ha
    obtain⟨b,m2,hab,hb,hm2,u',hu',hΦ'⟩:∃b m2:Nat,a=(b:Int)∧b<2*T.ag.length∧aS T b=(m2:Int)∧∃u',u'<u∧Φ u' m2 O.ev.stack:=by
     rcases hbr with h|⟨_,_,h⟩
     ·rw[h]at ha;simp at ha
     ·exact h _ (List.mem_of_getElem? ha)
    have hhead:aS T a.toNat=(m2:Int):=by rw[hab,Int.toNat_natCast];exact hm2
    have hn3:q2.n=m2:=by rw[hn2,hhead,Int.toNat_natCast]
    have hΦ2:Φ u' q2.n q2.s:=by rw[hn3,hs2];exact hΦ'
    have hop':∀k∈i::op,∃qk,L[k]? =some qk∧CU T tb p0 qk.n qk.s q2.n q2.s:=fun z hz=>by
     have ha':a∈(bK T tb p0 q.n q.s).ax:=by rw[hOO];exact List.mem_of_getElem? ha
     rw[hn3,hs2,←hOO]
     rcases List.mem_cons.1 hz with rfl|hz
     ·exact⟨q,hq,.one ha' hhead⟩
     ·obtain⟨qk,e1,e2⟩:=hop z hz
      exact⟨qk,e1,.more e2 ha' hhead⟩
    have hjm:=(List.getElem?_eq_some_iff.1 hq2).1
    refine ai<|aj<|aw<|ab (.a 3 I<|.v (aR (i:=0) (k:=4) (p:=.own (j+1)) I (ba.tk.get I) I I I) I<|.a 1 I<|.v (b9 (i:=(i:Int)) I (ba.el.get I) I (cO hj) I (by omega) (by omega) I) I<|.a 1 I<|.v (aR I (ba.tk.get I) I (cO hj) (eD (v:=au js) 8 hqi (by omega) (by rw[←hqx];rfl))) I<|.a 1 I<|.v (aM (k) I) I<|.v (aJ I ((aB js k hlt).trans (show some (num (js.getD k 0))=some (num (jm:Int)) by rw[List.getD_eq_getElem?_getD,g1];rfl))) I<|.a 1 I<|.k [0,1,5,6] I) ?_
    refine aj<|aP<|av 2 I<|cM I I (bT.mono (ih u' hu' jm q2 hq2 hΦ2 (i::op) M' hok' hop') (fun y σ' h=>?_))
    obtain⟨M3,t3,rfl,rfl,hok3,hfr3,hM3,hcn3⟩:=h
    refine av 1 I<|aG [0,1,5,6,76] I ?_
    refine ah I (fun hc=>?_) (fun hc=>?_)
    ·cases hc
    ·have hqi3:M3[i]? =some (q.mark 1 (eQ O.ax cs)):=(hfr3 i List.mem_cons_self).trans hqi
     have hMl3:=hok3.1
     have hne:O.ax≠[]:=fun h=>by rw[h]at ha;simp at ha
     have hcb:0≤eQ O.ax cs∧eQ O.ax cs≤1001:=by
      unfold eQ
      rw[if_neg hne]
      refine ia cs 0 (by omega) (by omega) fun z hz=>?_
      obtain⟨y,hy⟩:=List.getElem?_of_mem hz
      have hyl:=(List.getElem?_eq_some_iff.1 hy).1
      have:=(hcn y (by omega)).bound.1
      rwa [List.getD_eq_getElem?_getD,hy]at this
     have hbs:min 1001 (eQ O.ax cs+t3)=eQ O.ax (cs++[t3]):=by unfold eQ;rw[if_neg hne,if_neg hne,mc];omega
     have hct3:=hcn3.bound
     refine ai<|dL 25 20 mixed (
      .val [0] I (aZ I) I I<|
      .val [77] I (aZ I) I I<|
      .val [78] I (aZ I) I I<|
      .val [79] I (aR (i:=0) (k:=4) (p:=.own (j+1)) I (ba.tk.get I) I I I) I I<|
      .val [1] I (aZ I) I I<|
      .val [0] I (aZ I) I I<|
      .val [82] I (aZ I) I I<|
      .val [83] I (aZ I) I I<|
      .val [84] I (aR (i:=0) (k:=4) (p:=.own (j+1)) I (ba.tk.get I) I I I) I I<|
      .val [1] I (aZ I) I I<|
      .val [85,86] I (b9 (i:=(i:Int)) I (ba.el.get I) I (cO hj) I (by omega) (by omega) I) I I<|
      .val [87] I (aZ I) I I<|
      .val [88] I (aR I (ba.tk.get I) I (cO hj) (eD (v:=num (eQ O.ax cs)) 11 hqi3 (by omega) I)) I I<|
      .val [0] I (aZ I) I I<|
      .val [90] I (aZ I) I I<|
      .val [91] I (aZ I) I I<|
      .val [92] I (aR (i:=0) (k:=4) (p:=.own (j+1)) I (ba.tk.get I) I I I) I I<|
      .val [6] I (aZ I) I I<|
      .val [93,94] I (b9 (i:=(jm:Int)) I (ba.el.get I) I (cO hj) I (by omega) (by omega) I) I I<|
      .val [95] I (aZ I) I I<|
      .val [96] I (aR I (ba.tk.get I) I (cO hj) (eD (v:=num t3) 11 hM3 (by omega) I)) I I<|
      .val [89,97] I (aV I) I I<|
      .val [98] I (uo I I I (hbs)) I I<|
      .val [80,81] I (b9 (i:=(i:Int)) I (ba.el.get I) I (cO hj) I (by omega) (by omega) I) I I<|
      .val [100] I (aZ I) I I<|
      .nil) (by kernel_rfl) I I (aY (ks:=[0,1,5,99,101]) I) ?_
     refine bb (cj.to (σ:=GV T p0 tbs j rest M3) (cb I (ba.tk.get I) I I (cO hj) (o7 11 hqi3 (by omega))) (σ'':=GV T p0 tbs j rest (M3.set i (q.mark 1 (eQ O.ax (cs++[t3]))))) I (o6 11 hqi3 (by omega) I)) I I<|aG [0,1,5] I ?_
     refine aC (.a 1 I<|.v (aV I) I<|.a 1 I<|.k [0,1,5] I) ?_
     refine⟨js.length - (k+1),by omega,k+1,_,cs++[t3],by omega,rfl,aW hqi3,by simp[hlc],?_,fun z hz=>?_,fun z hz=>?_,rfl⟩
     ·have:=hok3.open_ hq (eQ O.ax (cs++[t3]))
      refine⟨this.1,fun z x hx=>?_⟩
      obtain⟨c,t,e1,e2⟩:=this.2 z x hx
      refine⟨c,t,e1,?_⟩
      rcases e2 with e2|⟨e2,e3⟩|e2
      ·exact .inl e2
      ·refine .inr (.inl ⟨e2,?_⟩)
       rcases List.mem_cons.1 e3 with e3|e3
       ·rw[e3];exact List.mem_cons_self
       ·exact e3
      ·exact .inr (.inr e2)
     ·rw[List.getElem?_set,if_neg (fun e=>hni (by rw[e];exact hz)),hfr3 z (List.mem_cons_of_mem _ hz)]
      exact hfr z hz
     ·by_cases hzk:z<k
      ·have e1:(cs++[t3]).getD z 0=cs.getD z 0:=by rw[List.getD_eq_getElem?_getD,List.getD_eq_getElem?_getD,List.getElem?_append_left (by omega)]
       rw[e1]
       exact hcn z hzk
      ·obtain rfl:z=k:=by omega
       have e1:(cs++[t3]).getD z 0=t3:=by rw[List.getD_eq_getElem?_getD,cU hlc];rfl
       rw[e1,had,←hn2,←hs2]
       exact hcn3
   ·have hke:k=js.length:=by have:=ff hc;omega
    refine bh<|aP<|av 3 I ?_
    refine bw (aR (i:=0) (k:=4) (p:=.own (j+1)) I (ba.tk.get I) I I I) I ?_
    refine av 1 I ?_
    refine bw (b9 (i:=(i:Int)) I (ba.el.get I) I (cO hj) I (by omega) (by omega) I) I ?_
    refine av 1 I ?_
    refine bb (cj.to (σ:=GV T p0 tbs j rest M') (cb I (ba.tk.get I) I I (cO hj) (o7 10 hqi (by omega))) (σ'':=GV T p0 tbs j rest (M'.set i (q.mark 2 (eQ O.ax cs)))) I (o6 10 hqi (by omega) I)) I I ?_
    refine aG [] I ?_
    refine ab (.a 1 I<|.k [4] I)<|ao ?_
    have hcc:Cn T tb p0 q.n q.s (eQ O.ax cs):=by
     have:=Cn.mk (T:=T) (tb:=tb) (p0:=p0) (n:=q.n) (s:=q.s) (cs:=cs) (by rw[hOO];omega) (fun z hz=>by rw[hOO]at hz ⊢;exact hcn z (by omega))
     rwa [hOO]at this
    exact⟨_,az.of I,_,_,rfl,rfl,hok'.shut hq hcc,fun z hz=>by rw[List.getElem?_set,if_neg (fun e=>hni (by rw[e];exact hz))];exact hfr z hz,aW hqi,hcc⟩
end
end
section
open Go.RowKit cE Mem
section
variable {P:Program} {N L:Nat}
theorem E7{id:Nat}{l:List Oper}{t t':cg}{σ σm:cc}{Q:Exit→St→Prop}(k f m:Nat)(σs:List cc)(gs:List GD)(T:cg)(hm:P.follows .mixedOrders=true)(hB:Er (l.take k).toArray f m gs=true)(hbar:wA l.toArray f k=true)(hT:nh (l.take k) (gs.map (·.p)) t=T)(hfr:((l.take k).all fun o=>o.dst.all fun d=>(look d t).isNone)=true)(h0:σs[0]? =some σ)(h1:σs[m]? =some σm)(hml:Nat.ble k l.length=true)
    (hL:GL P N (l.take k).toArray σs T (l.take k) gs) (hsub:Sub T t') (hw:WR P N L l.toArray (l.drop k) ⟨t',σm⟩ (fun s=>Q .normal s)):W P N L (.region id l.toArray true) ⟨t,σ⟩ Q:=fun F base E₀ w₀ E a w hc hs=>by
  obtain⟨arr,ds⟩:=a
  have hds:ds=[]:=hs.j9
  have hG:=v7 hB
  have hmle:k≤l.length:=Nat.ble_eq.mp hml
  have hlt:(l.take k).length=k:=by simp;omega
  have hE:Ext w {w with drawn:=w.drawn+1}:=⟨rfl,rfl,rfl,Nat.le_refl _,fun _ _=>rfl⟩
  refine wp_region_any hm ?_
  have hfr':∀i d,i<(l.take k).length→cz (l.take k).toArray i=some d→look d t=none:=fun i d hi hd=>by
    have ho:(l.take k)[i]? =some (l.take k)[i]:=List.getElem?_eq_getElem hi
    simp only[cz,List.getElem?_toArray,ho,Option.bind_some]at hd
    have:=List.all_eq_true.1 hfr _ (List.mem_of_getElem? ho)
    rw[hd]at this
    simpa using this
  have hg0:FF base N F (l.take k) gs σs t (Array.replicate (l.take k).length false) 0 E ⟨arr,ds⟩ {w with drawn:=w.drawn+1}:=by
    have hrep:∀i,i<(l.take k).length→(Array.replicate (l.take k).length false).getD i true=false:=fun i hi=>by
      rw[Array.getD_eq_getD_getElem?,Array.getElem?_replicate,if_pos hi];rfl
    refine⟨by simp,fun i hi hi'=>?_,fun i s hi _=>?_,⟨σ,h0,hs.sat.ext hE⟩,hs.j9,hs.size,hs.tmp.goes (.ext hE),fun j d g hj hjl=>?_⟩
    · rw[hrep i (by simpa using hi')]at hi;cases hi
    · rw[hrep i hi];simp
    · rw[hrep j hj]at hjl;cases hjl
  have hfr:=AE (Q:=qH P l.toArray (fun e a' w'=>ni F base N E₀ w₀ (Q e) a' w') k (l.toArray.size - k)) hG hT hfr' hL h1 (E₀:=E₀) (w₀:=w₀) (fun a' w' E' k1 k2 k3 k4 k5 k6=>by
    have:=hw F base E₀ w₀ E' a' w' ⟨hc.1,k5,k6⟩ ⟨k1,k2.sub hsub,k3,k4⟩ (fun e a' w'=>ni F base N E₀ w₀ (Q e) a' w') k (fun a' w' hp=>hp) (fun j=>by simp)
    simpa[qH]using this) (l.take k).length _ 0 E ⟨arr,ds⟩ _ hg0 (kU _ _ (Nat.le_refl _)) (hc.g.trans (.ext hE)) (hc.b.trans (Below.ik hE hs.sat.bl)) (Nat.zero_le _)
  have he:l.toArray.extract 0 k=(l.take k).toArray:=by simp
  have := pO (P := P) hbar (by simpa using hmle) (Q := fun e a' w' => ni F base N E₀ w₀ (Q e) a' w') k (Array.replicate k false) (Array.replicate l.toArray.size false) ⟨arr, ds⟩ { w with drawn := w.drawn + 1 } (by simp) (by simp) (fun i hi => by rw [dS _ _ hi, dS _ _ (by simp; omega)]) (fun i _ hi => dS _ _ hi _) (fun i hi hi' => by
      have:(Array.replicate l.toArray.size false).getD i true=false:=dS _ _ hi' _
      rw[this]at hi;cases hi) (by
      have:∀k,k≤l.length→bM (Array.replicate l.toArray.size false) k=k:=by
        intro k
        induction k with
        |zero=>intro _;rfl
        |succ k ih=>
          intro hk
          simp only[bM]
          rw[ih (by omega)]
          have:(Array.replicate l.toArray.size false).getD k true=false:=dS _ _ (by simp;omega) _
          rw[this];simp
      exact this k hmle) (by rw[he];rw[hlt]at hfr;exact hfr)
  rw[show k+(l.toArray.size - k)=l.toArray.size by simp;omega]at this
  exact this
end
end
end PW
end Go.Proofs.YtnegbdpggideiaaGreatDoor
