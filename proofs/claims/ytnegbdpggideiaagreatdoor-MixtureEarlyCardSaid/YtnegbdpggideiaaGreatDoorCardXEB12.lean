/- Texts of the proof, part 12. -/
import Derived.RangeFuncBox
import Derived.Lib.ItoaNum
import Derived.Laws.StructEq
import Derived.Test.YtnegbdpggideiaaGreatDoorCardXEB11
set_option linter.unusedVariables false
set_option linter.unusedSimpArgs false
set_option maxRecDepth 10000
set_option maxHeartbeats 1000000
namespace Go.Proofs.YtnegbdpggideiaaGreatDoor
namespace PW
section
open Go.RowKit cG Mem Net eY
def sn(T:ak)(k x k' x':Int)(m:Nat):Bool:=(List.range m).all fun a=> !cI k x T.ae (a / 2)||cI k' x' T.ae (a / 2)
def sO(T:ak)(k x k' x':Int):Bool:=sn T k x k' x' (2*T.ae.length)
theorem zY(T:ak)(k x k' x':Int)(m:Nat):sn T k x k' x' (m+1)=(sn T k x k' x' m&&(!cI k x T.ae (m / 2)||cI k' x' T.ae (m / 2))):=by simp[sn,List.range_succ]
theorem mC{p:Nat→Bool}{m n:Nat}(h:((List.range m).all p)=false)(hmn:m≤n):((List.range n).all p)=false:=by
 rw[Bool.eq_false_iff]at h ⊢
 intro h'
 refine h (List.all_eq_true.2 fun a ha=>List.all_eq_true.1 h' a (List.mem_range.2 ?_))
 have:=List.mem_range.1 ha
 omega
theorem DM(T:ak)(k x k' x':Int)(h1:(aq T&&cj T k x)=true)(h2:(aq T&&cj T k' x')=true):Can Tryz.prog 133 [aP T,ca k x,ca k' x'] (· =flag (sO T k x k' x')):=by
 have hll:=bT (Bool.and_eq_true_iff.1 h1).1
 refine aH Tryz.func133 I Tryz.ntmps133 I<|ab (.a 4 I<|.k [3,4,5] I)<|aj<|bz 17 (.raw (.bool (false))) [3,4,5] I ?_ ?_
 ·exact .a 2 I<|.c rfl (h1▸gJ T k x) I<|.a 4 I<|.c rfl (h2▸gJ T k' x') I<|.a 2 I<|.k [17,3,4,5] I
 refine ag I (fun h=>?_) (fun h=>?_)
 ·exact absurd h (by decide)
 ·clear h
  refine ai<|aj<|ab (.a 1 I<|.k [3,4,5,7] I)<|au<|eH [3,4,5,7] I<|bq (fun r st=>∃m,m≤2*T.ae.length∧r=2*T.ae.length - m∧sn T k x k' x' m=true∧st=⟨[(3,.bb (bC T) 0),(4,.bb (cC k x) 0),(5,.bb (cC k' x') 0),(7,num m)],[]⟩) (2*T.ae.length) ⟨0,by omega,by omega,rfl,rfl⟩ ?_
  rintro r st ⟨m,hm,rfl,hw,rfl⟩
  refine aj<|ab (.a 4 I<|.v (aU I (hc:=rfl)) I<|.a 1 I<|.k [3,4,5,7,23] I)<|ag I (fun h3=>?_) (fun h3=>?_)
  ·have hlt:m<2*T.ae.length:=by have:=tt h3;omega
   have hst:=zY T k x k' x' m
   obtain⟨q1,hq1⟩:∃q,cI k x T.ae (m / 2)=q:=⟨_,rfl⟩
   obtain⟨q2,hq2⟩:∃q,cI k' x' T.ae (m / 2)=q:=⟨_,rfl⟩
   rw[hw,hq1,hq2]at hst
   refine ai<|aj<|au<|bz 36 (.raw (.bool (q1&& !q2))) [3,4,5,7] I ?_ ?_
   ·refine .a 3 I<|.c rfl (hq1▸u9 T k x m hlt hll) I<|.a 1 I<|?_
    cases q1
    ·exact .a 6 I<|.k [36,3,4,5,7] I
    ·exact .a 3 I<|.c rfl (hq2▸u9 T k' x' m hlt hll) I<|.a 2 I<|.k [36,3,4,5,7] I
   refine ag I (fun h4=>?_) (fun h4=>?_)
   ·obtain⟨e1,e2⟩:=Bool.and_eq_true_iff.1 h4
    have e2:q2=false:=by simpa using e2
    rw[e1,e2]at hst
    have hf:sO T k x k' x'=false:=mC hst (by omega)
    rw[hf]
    exact ab (.a 1 I<|.k [6] I)<|ao<|⟨_,_,az.of I,ay.pure,rfl⟩
   ·have hw2:sn T k x k' x' (m+1)=true:=by rw[hst];cases q1<;>cases q2<;>first|rfl|cases h4
    refine ai<|aC (.a 1 I<|.v (aU I) I<|.a 1 I<|.k [3,4,5,7] I) ?_
    exact⟨2*T.ae.length - (m+1),by omega,m+1,by omega,rfl,hw2,rfl⟩
  ·have hme:m=2*T.ae.length:=by have:=ff h3;omega
   subst hme
   have hw:sO T k x k' x'=true:=hw
   rw[hw]
   exact bd<|ab (.a 1 I<|.k [6] I)<|ao<|⟨_,_,az.of I,ay.pure,rfl⟩
noncomputable def FY(T:ak)(M:List Bool)(k x:Int)(a j:Nat):Bool:=(List.range j).all fun(d:Nat)=> !gR T M (bm T a) d||sO T k x (dz T a d).1 (dz T a d).2
noncomputable def JO(T:ak)(M:List Bool)(k x:Int)(a:Nat):Bool:=(!aQ M a||(decide (k=2)&&decide (bm T a=x)))||FY T M k x a T.nodes.toNat
noncomputable def vJ(T:ak)(k x:Int)(m:Nat):Bool:=(List.range m).all fun a=>JO T (aF T k x) k x a
noncomputable def uD(T:ak)(k x:Int):Bool:=(aq T&&cj T k x)&&vJ T k x (2*T.ae.length)
theorem ET(T:ak)(M:List Bool)(k x:Int)(a j:Nat):FY T M k x a (j+1)=(FY T M k x a j&&(!gR T M (bm T a) j||sO T k x (dz T a j).1 (dz T a j).2)):=by simp[FY,List.range_succ]
theorem tP(T:ak)(k x:Int)(m:Nat):vJ T k x (m+1)=(vJ T k x m&&JO T (aF T k x) k x m):=by simp[vJ,List.range_succ]
theorem JS{T:ak}{k x:Int}{m:Nat}(hm:(aq T&&cj T k x)=true)(h:vJ T k x m=true)(hlt:m<2*T.ae.length)(ha:JO T (aF T k x) k x m=false):uD T k x=false:=by
 unfold uD
 rw[hm,Bool.true_and]
 refine mC (m:=m+1) ?_ (by omega)
 have:=tP T k x m
 rw[h,ha]at this
 exact this
theorem EW(T:ak)(k x:Int):Can Tryz.prog 85 [aP T,ca k x] (· =flag (uD T k x)):=by
 obtain⟨q0,hq0⟩:∃q,(aq T&&cj T k x)=q:=⟨_,rfl⟩
 have hmk:=mI T k x
 unfold iO ej at hmk
 refine aH Tryz.func85 I Tryz.ntmps85 I<|ab (.a 3 I<|.k [2,3] I)<|aj<|ab (.a 2 I<|.c rfl (hq0▸gJ T k x) I<|.a 1 I<|.k [2,3,15] I)<|ag I (fun h1=>?_) (fun h1=>?_)
 ·have h1:q0=false:=by simpa using h1
  have he:uD T k x=false:=by unfold uD;rw[hq0,h1];rfl
  rw[he]
  exact ab (.a 1 I<|.k [4] I)<|ao<|⟨_,_,az.of I,ay.pure,rfl⟩
 ·have h1:q0=true:=by simpa using h1
  subst h1
  obtain⟨hv,hc⟩:=Bool.and_eq_true_iff.1 hq0
  have hll:=bT hv
  have hN:=(aM hv).nodes
  rw[if_pos hq0,if_pos rfl]at hmk
  have hMl:=fr T k x
  have hstep:=fun m=>tP T k x m
  have hno:=fun m=>JS (m:=m) hq0
  obtain⟨M,hM⟩:∃M,aF T k x=M:=⟨_,rfl⟩
  rw[hM]at hmk hMl
  simp only[hM]at hstep hno
  obtain⟨N,hNN⟩:∃N:Nat,T.nodes=(N:Int):=⟨T.nodes.toNat,by omega⟩
  have hNt:T.nodes.toNat=N:=by omega
  refine ai<|ab (.a 2 I<|.c rfl (hmk) I<|.a 5 I<|.k [2,3,5] I)<|aj<|ab (.a 1 I<|.k [2,3,5,7] I)<|au<|eH [2,3,5,7] I<|bq (fun r st=>∃m,m≤2*T.ae.length∧r=2*T.ae.length - m∧vJ T k x m=true∧st=⟨[(2,.bb (bC T) 0),(3,.bb (cC k x) 0),(5,bn M),(7,num m)],[]⟩) (2*T.ae.length) ⟨0,by omega,by omega,rfl,rfl⟩ ?_
  rintro r st ⟨m,hm,rfl,hw,rfl⟩
  refine aj<|ab (.a 4 I<|.k [2,3,5,7,25] I)<|ag I (fun h3=>?_) (fun h3=>?_)
  ·have hlt:m<2*T.ae.length:=by have:=tt h3;omega
   have hst:=hstep m
   rw[hw,Bool.true_and]at hst
   obtain⟨n,hn⟩:=Int.eq_ofNat_of_zero_le ((aM hv).tail m hlt).1
   obtain⟨q1,hq1⟩:∃q,aQ M m=q:=⟨_,rfl⟩
   obtain⟨q2,hq2⟩:∃q,decide (k=2)=q:=⟨_,rfl⟩
   obtain⟨q3,hq3⟩:∃q,decide (bm T m=x)=q:=⟨_,rfl⟩
   have hA:JO T M k x m=((!q1 ||(q2&&q3))||FY T M k x m N):=by unfold JO;rw[hq1,hq2,hq3,hNt]
   clear h3
   refine ai<|aj<|au<|ab (.a 2 I<|.c rfl (gh T hv m hlt) I<|.a 1 I<|.k [2,3,5,7,8] I)<|aj<|bz 46 (.raw (.bool ((!q1)||(q2&&q3)))) [2,3,5,7,8] I ?_ ?_
   ·refine .a 2 I<|.v (aN (m) I) I<|.v (aJ I ((show(bX M)[m]? =some (flag q1) by rw[dt _ m (by omega),ft,hq1]))) I<|.a 2 I<|?_
    cases q1
    ·exact .a 10 I<|.k [46,2,3,5,7,8] I
    ·refine .a 2 I<|.v (cf I (hq2)) I<|.a 1 I<|?_
     cases q2
     ·exact .a 6 I<|.k [46,2,3,5,7,8] I
     ·exact .a 3 I<|.v (cf I (hq3)) I<|.a 2 I<|.k [46,2,3,5,7,8] I
   refine ag I (fun h4=>?_) (fun h4=>?_)
   ·have hcv:vJ T k x (m+1)=true:=by rw[hst,hA,h4];rfl
    refine bd<|aC (.a 1 I<|.v (aU I) I<|.a 1 I<|.k [2,3,5,7] I) ?_
    exact⟨2*T.ae.length - (m+1),by omega,m+1,by omega,rfl,hcv,rfl⟩
   ·rw[h4,Bool.false_or]at hA
    refine ai<|ab (.a 1 I<|.k [2,3,5,7,8,9] I)<|au<|eH [2,3,5,7,8,9] I<|bq (fun r st=>∃j,j≤N∧r=N - j∧FY T M k x m j=true∧st=⟨[(2,.bb (bC T) 0),(3,.bb (cC k x) 0),(5,bn M),(7,num m),(8,num (bm T m)),(9,num j)],[]⟩) N ⟨0,by omega,by omega,rfl,rfl⟩ ?_
    rintro r st ⟨j,hj,rfl,hd,rfl⟩
    refine aj<|ab (.a 2 I<|.v (aJ I ((show some (num T.nodes)=some (num (N:Int)) by rw[hNN]))) I<|.a 1 I<|.k [2,3,5,7,8,9,50] I)<|ag I (fun h5=>?_) (fun h5=>?_)
    ·have hjl:j<N:=by have:=tt h5;omega
     have hds:=ET T M k x m j
     rw[hd,Bool.true_and]at hds
     have hcm:(aq T&&cj T (dz T m j).1 (dz T m j).2)=true:=by rw[hv,xC hv hlt];rfl
     have hcn:=Bl T m j hv hlt ⟨by omega,by omega⟩
     have hwn:=DM T k x (dz T m j).1 (dz T m j).2 hq0 hcm
     generalize dz T m (j:Int)=cx at*
     obtain⟨ck,cy⟩:=cx
     simp only at hcm hcn hwn hds
     obtain⟨r1,hr1⟩:∃q,gR T M (bm T m) j=q:=⟨_,rfl⟩
     obtain⟨r2,hr2⟩:∃q,sO T k x ck cy=q:=⟨_,rfl⟩
     have hrr:=nJ T M (bm T m) j
     rw[hr1]at hds hrr
     rw[hr2]at hds hwn
     refine ai<|aj<|au<|aj<|ab (.a 4 I<|.c rfl (hrr) I<|.a 1 I<|.k [2,3,5,7,8,9,58] I)<|ag I (fun h6=>?_) (fun h6=>?_)
     ·have h6:r1=false:=by simpa using h6
      have hd2:FY T M k x m (j+1)=true:=by rw[hds,h6];rfl
      refine bd<|aC (.a 1 I<|.v (aU I) I<|.a 1 I<|.k [2,3,5,7,8,9] I) ?_
      exact⟨N - (j+1),by omega,j+1,by omega,rfl,hd2,rfl⟩
     ·have h6:r1=true:=by simpa using h6
      rw[h6]at hds
      refine ai<|aO<|aw 3 I<|eW I (hcn) I<|aw 6 I<|aE [2,3,5,7,8,9,10] I ?_
      refine ab (.a 3 I<|.c rfl (hwn) I<|.a 1 I<|.k [2,3,5,7,8,9,70] I)<|ag I (fun h7=>?_) (fun h7=>?_)
      ·have h7:r2=false:=by simpa using h7
       rw[h7]at hds
       have hf:uD T k x=false:=hno m hw hlt (by rw[hA];exact mC hds (by omega))
       rw[hf]
       exact ab (.a 1 I<|.k [4] I)<|ao<|⟨_,_,az.of I,ay.pure,rfl⟩
      ·have h7:r2=true:=by simpa using h7
       have hd2:FY T M k x m (j+1)=true:=by rw[hds,h7];rfl
       refine dI [] (.c 2<|.c 3<|.c 5<|.c 7<|.c 8<|.c 9<|.nil) .nil rfl rfl ?_
       refine ai<|aC (.a 1 I<|.v (aU I) I<|.a 1 I<|.k [2,3,5,7,8,9] I) ?_
       exact⟨N - (j+1),by omega,j+1,by omega,rfl,hd2,rfl⟩
    ·have hje:j=N:=by have:=ff h5;omega
     subst hje
     have hcv:vJ T k x (m+1)=true:=by rw[hst,hA,hd]
     refine bd<|aC (.a 1 I<|.v (aU I) I<|.a 1 I<|.k [2,3,5,7] I) ?_
     exact⟨2*T.ae.length - (m+1),by omega,m+1,by omega,rfl,hcv,rfl⟩
  ·have hme:m=2*T.ae.length:=by have:=ff h3;omega
   subst hme
   have hf:uD T k x=true:=by unfold uD;rw[hq0,hw];rfl
   rw[hf]
   exact bd<|ab (.a 1 I<|.k [4] I)<|ao<|⟨_,_,az.of I,ay.pure,rfl⟩
open Go.Shelf
attribute [local go_sem] Oper.semAt_some
theorem zt(T:ak)(k x:Int):Can Tryz.prog 65 [aP T,ca k x] (· =flag (aq T&&cj T k x)):=by
 obtain⟨q1,hq1⟩:∃q,aq T=q:=⟨_,rfl⟩
 obtain⟨q2,hq2⟩:∃q,cj T k x=q:=⟨_,rfl⟩
 rw[hq1,hq2]
 refine aH Tryz.func65 I Tryz.ntmps65 I<|ab (.a 3 I<|.k [2,3] I)<|bz 4 (.raw (.bool (q1&&q2))) [] I ?_ ?_
 ·refine .a 1 I<|.c rfl (hq1▸eJ T) I<|.a 1 I<|?_
  cases q1
  ·exact .a 5 I<|.k [4] I
  ·exact .a 2 I<|.c rfl (hq2▸lV T k x) I<|.a 2 I<|.k [4] I
 exact ao<|⟨_,_,az.of I,ay.pure,rfl⟩
end
section
open Go.RowKit cG Mem Net eY
abbrev KR(p:Int×Int):Value:=.agg (pT p)
theorem oE{T:ak}{k x:Int}{a:Nat}(ha:a<2*T.ae.length):aQ (aF T k x) a=cI k x T.ae (a / 2):=by
 rw[←ft]
 unfold aF
 simp[ha]
def Df(T:ak)(k x:Int)(l:List ((Int×Int)×PV)):Prop:=∀c v,(c,v)∈l→v=flag (sO T k x c.1 c.2)
theorem Df.pure{T:ak}{k x:Int}{l:List ((Int×Int)×PV)}(h:Df T k x l):aL ((gg KR l).map (·.2)):=⟨fun i u hu=>by
 have hm:=List.mem_of_getElem? hu
 simp only[gg,List.map_map,List.mem_map]at hm
 obtain⟨a,ha,rfl⟩:=hm
 have:=h a.1 a.2 ha
 show IsPure a.2
 rw[this]
 infer_instance⟩
theorem Df.set{T:ak}{k x:Int}{l:List ((Int×Int)×PV)}(h:Df T k x l)(c:Int×Int):Df T k x (iL c (flag (sO T k x c.1 c.2)) l):=fun c' v hm=>by
 rcases qW hm with e|e
 ·cases e;rfl
 ·exact h c' v e
section
variable {T:ak}
theorem Ch.last{D:List Bool}{d n:Nat}{p:List Int}(h:Ch T D d n p):n≠d→∃a,a<2*T.ae.length∧aQ D a=false∧aS T a=(d:Int):=by
 induction h with
 |nil=>intro h;exact absurd rfl h
 | @cons n a m p h1 h2 h3 h4 _ _ ih=>
  intro _
  by_cases e:m=d
  ·subst e;exact⟨a,h1,h3,h4⟩
  ·exact ih e
theorem Gw(a:Nat):(bm T a=(cF T.ae (a / 2)).a∧aS T a=(cF T.ae (a / 2)).b)∨(bm T a=(cF T.ae (a / 2)).b∧aS T a=(cF T.ae (a / 2)).a):=by
 unfold aS bm Net.flip
 by_cases h:a % 2=0
 ·rw[if_pos h,if_pos h,if_neg (by omega),show(a+1) / 2=a / 2 by omega]
  exact .inl ⟨rfl,rfl⟩
 ·rw[if_neg h,if_neg h,if_pos (by omega),show(a - 1) / 2=a / 2 by omega]
  exact .inr ⟨rfl,rfl⟩
theorem K7{x:Int}{i:Nat}:cI 1 x T.ae i=decide ((i:Int)=x):=by simp[cI]
theorem Ll{x:Int}{i:Nat}:cI 2 x T.ae i=(decide ((cF T.ae i).a=x)||decide ((cF T.ae i).b=x)):=by simp[cI]
end
section
variable {T:ak} {M D:List Bool} {n d:Nat}
theorem pD{x:de}{d:Nat}{e:i6}(h:x.dr[d]? =some e):dh x (d:Int)=e:=by
 unfold dh
 rw[Int.toNat_natCast]
 exact mW _ _ _ h
theorem mX(hd:(d:Int)<T.nodes):dh (dO T D n) (d:Int)=⟨bH T D n d,false,[]⟩:=pD (GS (by omega))
theorem zW(hd:(d:Int)<T.nodes):dh (vE T D n) (d:Int)=jY T D n d:=pD (wO (by omega))
theorem zo(hd:(d:Int)<T.nodes):dh (qU T M n) (d:Int)=nF T (fX T M n) n d:=pD (yk (by omega))
noncomputable def fW(T:ak)(M:List Bool)(s:Int)(n:Nat):de:=if s=0 then dO T [] n else if s=1 then qU T M n else if s=2 then vE T M n else dO T M n
theorem vl{E:List Bool}{a:Nat}{l:List Int}(h:(a:Int)∈cQ E l):aQ E a=true:=by
 have:=(List.mem_filter.1 h).2
 rwa [Int.toNat_natCast]at this
theorem qc(hv:aq T=true)(hn:(n:Int)<T.nodes){E:List Bool}(hf:bW T E=true)(hE:∀a,aQ D a=false→aQ E a=false):H3 T D n (dO T E n) where
 ok:=jd hv hn
 node:=rfl
 down:=fun a ha=>by
  have:=vl ha
  cases h:aQ D a with
  |true=>rfl
  |false=>rw[hE a h]at this;cases this
 Kl:=fun y p hs=>by
  rw[mX hs.hy]
  exact⟨(hs.It hf hE).DJ.2.1,fun h=>by cases h⟩
theorem og(hv:aq T=true)(h12:T.nodes≤12)(hn:(n:Int)<T.nodes)(hf:bW T M=true)(hM:∀a,aQ D a=false→aQ M a=false)(s:Int):H3 T D n (fW T M s n):=by
  unfold fW
  split
  · exact qc hv hn (jw T) (fun a _=>by simp[aQ])
  · split
    · refine ⟨po hv h12 hn, rfl, fun a ha => ?_, fun y p hs => ?_⟩
      · have:=vl ha
        cases h:aQ D a with
        |true=>rfl
        |false=>rw[hM a h]at this;cases this
      · rw[zo hs.hy]
        have h1:=hs.DJ.1
        unfold nF
        have hno:lE (fX T M n) (bH T [] n y)=none:=by
          cases hh:lE (fX T M n) (bH T [] n y)with
          |none=>rfl
          |some a=>
            obtain⟨h2,h3⟩:=wW hh
            rw[h1,List.mem_singleton]at h2
            subst h2
            obtain⟨p0,pt,rfl⟩:∃p0 pt,p=p0::pt:=by
              cases p with
              |nil=>exact absurd hs.pos (by simp)
              |cons p0 pt=>exact⟨p0,pt,rfl⟩
            have h4:=hM _ (hs.up p0 (by simp))
            rw[nW]at h3
            simp only[List.getD_cons_zero,Bool.and_eq_true]at h3
            rw[h4]at h3
            exact absurd h3.2.1 (by decide)
        rw[hno]
        exact⟨h1,fun h=>by cases h⟩
    · split
      · refine⟨pA hv h12 hn,rfl,fun a ha=>?_,fun y p hs=>?_⟩
        · have:=vl ha
          cases h:aQ D a with
          |true=>rfl
          |false=>rw[hM a h]at this;cases this
        · rw[zW hs.hy,(hs.It hf hM).DJ.2.2]
          exact⟨rfl,fun _=>rfl⟩
      · exact qc hv hn hf hM
theorem Aw{D':List Bool}(hv:aq T=true)(hd:(d:Int)<T.nodes)(hD:∀a,aQ D a=aQ D' a):dN T D d n=dN T D' d n:=by
 unfold dN
 rw[BH hv hd false hD]
theorem yS{k x:Int}(hv:aq T=true)(hcv:uD T k x=true)(hn:(n:Int)<T.nodes)(hd:(d:Int)<T.nodes)(hg:¬(k=2∧x=(n:Int)))(hr:0≤dN T (aF T k x) d n){a:Nat}(Dg:aQ (fX T (aF T k x) n) a=true):
  (∀b,aQ (ph T (fX T (aF T k x) n) n d a) b=false→aQ (aF T k x) b=false)∧0≤dN T (ph T (fX T (aF T k x) n) n d a) d n∧∀b,aQ (ph T (fX T (aF T k x) n) n d a) b=aQ (aF T (dz T a d).1 (dz T a d).2) b:=by
 rw[nW]at Dg
 simp only[Bool.and_eq_true,decide_eq_true_eq]at Dg
 obtain⟨ha,hdn,ht⟩:=Dg
 have hrb:gR T (aF T k x) (n:Int) d=true:=(mN hv (du T k x) hn hd).2 hr
 have hw:sO T k x (dz T a d).1 (dz T a d).2=true:=by
  unfold uD vJ at hcv
  have h1:=List.all_eq_true.1 (Bool.and_eq_true_iff.1 hcv).2 a (List.mem_range.2 ha)
  unfold JO at h1
  rw[hdn,ht]at h1
  have h2:(decide (k=2)&&decide ((n:Int)=x))=false:=by
   rw[Bool.eq_false_iff]
   intro h
   obtain⟨h3,h4⟩:=Bool.and_eq_true_iff.1 h
   exact hg ⟨of_decide_eq_true h3,(of_decide_eq_true h4).symm⟩
  rw[h2]at h1
  have h3:FY T (aF T k x) k x a T.nodes.toNat=true:=h1
  unfold FY at h3
  have h4:=List.all_eq_true.1 h3 d (List.mem_range.2 (by omega))
  rw[ht,hrb]at h4
  exact h4
 have hin:∀b,aQ (aF T k x) b=true→aQ (aF T (dz T a d).1 (dz T a d).2) b=true:=fun b hb=>by
  have hbl:b<2*T.ae.length:=by
   rcases Nat.lt_or_ge b (2*T.ae.length)with h|h
   ·exact h
   ·rw[←ft,List.getD_eq_getElem?_getD,List.getElem?_eq_none (by rw[fr];omega)]at hb
    cases hb
  rw[oE hbl]at hb ⊢
  unfold sO sn at hw
  have:=List.all_eq_true.1 hw b (List.mem_range.2 hbl)
  rw[hb]at this
  simpa using this
 have hrm:gR T (aF T (dz T a d).1 (dz T a d).2) (n:Int) d=true:=by
  have hF:=ht
  unfold dz
  split
  ·rename_i h;rw[ht]at h;exact(Bool.and_eq_true_iff.1 h).2
  ·split
   ·rename_i h;rw[ht]at h;exact(Bool.and_eq_true_iff.1 h).2
   ·rename_i h1 h2
    have he:dz T a d=(1,((a / 2:Nat):Int)):=by unfold dz;rw[if_neg h1,if_neg h2]
    rw[he]at hin
    rw[mN hv (du T _ _) hn hd]
    rw[←Aw (D:=aF T k x) hv hd (fun b=>?_)]
    ·exact hr
    ·cases hb:aQ (aF T k x) b with
     |true=>exact(hin b hb).symm
     |false=>
      symm
      by_cases hbl:b<2*T.ae.length
      ·rw[oE hbl]at hb ⊢
       rw[K7]
       refine decide_eq_false fun e=>?_
       have e:b / 2=a / 2:=by omega
       rw[oE ha,←e,hb]at hdn
       cases hdn
      ·rw[←ft,List.getD_eq_getElem?_getD,List.getElem?_eq_none (by rw[fr];omega)]
       rfl
 have heq:∀b,aQ (orM T (aF T (dz T a d).1 (dz T a d).2) (fX T (aF T k x) n)) b=aQ (aF T (dz T a d).1 (dz T a d).2) b:=fun b=>by
  rw[Hz]
  by_cases hbl:b<2*T.ae.length
  ·rw[decide_eq_true hbl,Bool.true_and,nW,decide_eq_true hbl,Bool.true_and]
   cases h1:aQ (aF T (dz T a d).1 (dz T a d).2) b with
   |true=>rfl
   |false=>
    cases h2:aQ (aF T k x) b with
    |true=>rw[hin b h2]at h1;cases h1
    |false=>rfl
  ·rw[decide_eq_false hbl,Bool.false_and,←ft,List.getD_eq_getElem?_getD,List.getElem?_eq_none (by rw[fr];omega)]
   rfl
 have hro:gR T (orM T (aF T (dz T a d).1 (dz T a d).2) (fX T (aF T k x) n)) (n:Int) d=true:=by
  rw[mN hv (vK T _ _) hn hd,Aw hv hd heq,←mN hv (du T _ _) hn hd]
  exact hrm
 have hmix:ph T (fX T (aF T k x) n) n d a=orM T (aF T (dz T a d).1 (dz T a d).2) (fX T (aF T k x) n):=by
  unfold ph
  rw[if_pos hro]
 rw[hmix]
 refine⟨fun b hb=>?_,(mN hv (vK T _ _) hn hd).1 hro,heq⟩
 rw[heq]at hb
 cases h:aQ (aF T k x) b with
 |false=>rfl
 |true=>rw[hin b h]at hb;cases hb
end
section
variable {T:ak} {k x:Int} {d:Nat}
def Gn(k x:Int)(n:Nat):Prop:=k=2∧x=(n:Int)
structure Open (T:ak) (k x:Int) (d n:Nat) (s:List bV):Prop where
 nil:s=[]
 node:(n:Int)<T.nodes
 here:¬Gn k x n
 reach:0≤dN T (aF T k x) d n
structure jZ (T:ak) (k x:Int) (d n:Nat) (s:List bV) (q:List Int):Prop where
 F1:∃D,(∀a,aQ D a=false→aQ (aF T k x) a=false)∧sR T D d n (eD ⟨1,(n:Int)⟩ s) q
 node:(n:Int)<T.nodes
 here:¬Gn k x n
 len:s.length≤32
theorem nX{a m:Nat}(ha:a<2*T.ae.length)(hu:aQ (aF T k x) a=false)(hm:aS T a=(m:Int)):¬Gn k x m:=by
 rintro⟨rfl,rfl⟩
 rw[oE ha,Ll,Bool.or_eq_false_iff,decide_eq_false_iff_not,decide_eq_false_iff_not]at hu
 rcases Gw (T:=T) a with h|h
 ·exact hu.2 (h.2.symm.trans hm)
 ·exact hu.1 (h.2.symm.trans hm)
theorem ou(hv:aq T=true){a m:Nat}(ha:a<2*T.ae.length)(hm:aS T a=(m:Int)):(m:Int)<T.nodes:=by rw[←hm];exact((aM hv).head a ha).2
structure uI (T:ak) (k x:Int) (n:Nat) (a:Int) (b m:Nat):Prop where
 eq:a=(b:Int)
 fu:b<2*T.ae.length
 tail:bm T b=(n:Int)
 head:aS T b=(m:Int)
 up:aQ (aF T k x) b=false
theorem qg(hv:aq T=true)(h12:T.nodes≤12)(hd:(d:Int)<T.nodes){n:Nat}{s:List bV}{a:Int}{q:List Int}(h:jZ T k x d n s (a::q))(st:Int){p:dx}(hp:p.dst=(d:Int))(hh:p.dG=0)(hs:p.stack=s):
  ∃(b m:Nat) (s':List bV),uI T k x n a b m∧dj T (fW T (aF T k x) st n) p=cB p s' [a]∧jZ T k x d m s' q:=by
 obtain⟨D,hD,hl⟩:=h.F1
 subst hs
 obtain⟨m,s',h1,h2,h3,h4,h5,h6,h7,h8⟩:=Bj (og hv h12 h.node (du T k x) hD st) hd hp hh rfl hl h.len
 obtain⟨b,rfl⟩:=Int.eq_ofNat_of_zero_le h2
 rw[Int.toNat_natCast]at h1 h3 h4 h5
 have hup:=hD b h5
 exact⟨b,m,s',⟨rfl,h3,h4,h1,hup⟩,h6,⟨D,hD,h8⟩,ou hv h3 h1,nX h3 hup h1,Nat.le_trans h7 h.len⟩
theorem rR(hv:aq T=true)(h12:T.nodes≤12)(hd:(d:Int)<T.nodes){n:Nat}{s:List bV}(h:jZ T k x d n s [])(st:Int){p:dx}(hp:p.dst=(d:Int))(hs:p.stack=s):
  n=d∧(dj T (fW T (aF T k x) st n) p).ax=[]∧(dj T (fW T (aF T k x) st n) p).cS= -1:=by
 obtain⟨D,hD,hl⟩:=h.F1
 subst hs
 obtain⟨e1,e2⟩:=hl.end_
 exact⟨e2,p8 (og hv h12 h.node (du T k x) hD st) hd hp e2 e1 h.len⟩
theorem wb(hv:aq T=true)(h12:T.nodes≤12)(hd:(d:Int)<T.nodes){s:List bV}(h:Open T k x d d s)(st:Int){p:dx}(hp:p.dst=(d:Int))(hs:p.stack=s):
  (dj T (fW T (aF T k x) st d) p).ax=[]∧(dj T (fW T (aF T k x) st d) p).cS= -1:=by
 have hn:=h.nil
 subst hs
 exact p8 (og (D:=aF T k x) hv h12 h.node (du T k x) (fun _ h=>h) st) hd hp rfl (by rw[hn];rfl) (by rw[hn];simp)
theorem nE(hv:aq T=true)(h12:T.nodes≤12)(hd:(d:Int)<T.nodes){n:Nat}(hn:(n:Int)<T.nodes)(hne:n≠d){D:List Bool}(hf:bW T D=true)(hD:∀a,aQ D a=false→aQ (aF T k x) a=false)(hr:0≤dN T D d n){t:de}(hok:cT T t=true)(htn:t.node=(n:Int))(he:dh t (d:Int)=jY T D n d){p:dx}(hp:p.dst=(d:Int))(hh:p.dG=0)(hs:p.stack=[]):
  ∃(b m:Nat) (s':List bV) (q:List Int),cA T D n d=(b:Int)::q∧uI T k x n b b m∧dj T t p=cB p s' [(b:Int)]∧jZ T k x d m s' q∧(q.length:Int)+1<T.nodes:=by
 have hsp:gV T D (n:Int) d=0:=by rw[kE hv hf hn hd,if_neg (by omega)]
 obtain⟨n',d',e1,e2,hP⟩:=uV hsp (by omega)
 have e1:n=n':=by omega
 have e2:d=d':=by omega
 subst e1;subst e2
 have hent:=qB hP
 obtain⟨b,m,q,h1,h2,h3,h4,h5,h6⟩:=hP.enter
 have hpush:=xd T D (n:Int) d h12
 have hup:=hD b h4
 rw[h1]at hent
 rw[List.getD_cons_zero]at hent
 have hst:=ta hok htn hd hne hp hh (by rw[hs];rfl) (by rw[hs];simp) (by rw[he,hent];simp) (by rw[he];exact hpush)
 rw[he,hent,if_pos rfl]at hst
 rw[hent]at hpush
 rw[h1]at h6
 have hlen:=hP.len
 rw[h1,List.length_cons]at hlen
 exact⟨b,m,_,q,h1,⟨rfl,h2,h3,h5,hup⟩,hst,⟨⟨D,hD,h6⟩,ou hv h2 h5,nX h2 hup h5,hpush⟩,by omega⟩
theorem lS(hv:aq T=true)(hd:(d:Int)<T.nodes){n:Nat}(hn:(n:Int)<T.nodes)(hne:n≠d){E:List Bool}(hr:0≤dN T E d n){t:de}(hok:cT T t=true)(htn:t.node=(n:Int))(he:dh t (d:Int)=⟨bH T E n d,false,[]⟩){p:dx}(hp:p.dst=(d:Int))(hh:p.dG=0)(hs:p.stack=[]):
  bH T E n d≠[]∧dj T t p=cB p [] (bH T E n d):=by
 obtain⟨j,hj⟩:=jN (D:=E) hv hn hd hne hr
 have hm:=fC hj ((aM hv).cost j hj.fu).1
 have hpos:0<(bH T E n d).length:=List.length_pos_of_mem hm
 have hst:=ta hok htn hd hne hp hh (by rw[hs];rfl) (by rw[hs];simp) (by rw[he];exact hpos) (by rw[he];simp)
 rw[he]at hst
 exact⟨fun e=>by rw[e]at hpos;exact absurd hpos (by simp),hst⟩
theorem ri(hv:aq T=true)(h12:T.nodes≤12)(hd:(d:Int)<T.nodes)(hcv:uD T k x=true)(hsafe:∀m:Nat,(m:Int)<T.nodes→¬Gn k x m→0≤dN T [] d m→0≤dN T (aF T k x) d m)
  {n:Nat} {s:List bV} (h:Open T k x d n s) (hne:n≠d) {st:Int} (hst:st=0∨st=1∨st=2) (hold:st=0→∀a,a<2*T.ae.length→bm T a=(n:Int)→aQ (aF T k x) a=false) {p:dx} (hp:p.dst=(d:Int)) (hh:p.dG=0) (hs:p.stack=s):
  ∃ax s',dj T (fW T (aF T k x) st n) p=cB p s' ax∧ax≠[]∧∀a∈ax,∃b m:Nat,uI T k x n a b m∧((st≠2∧Open T k x d m s'∧dN T [] d n=dN T [] d m+cp T b∧0≤dN T [] d m)∨∃q,jZ T k x d m s' q∧(q.length:Int)+1<T.nodes):=by
 have hnil:=h.nil
 subst hnil
 have hbare:0≤dN T [] d n:=wB hv h.node hd (fun a ha hu=>by simp[aQ]) h.reach
 have hout:∀(t:de),cT T t=true→t.node=(n:Int)→dh t (d:Int)=⟨bH T [] n d,false,[]⟩→(∀a∈bH T [] n d,aQ (aF T k x) a.toNat=false)→st≠2→
   ∃ax s',dj T t p=cB p s' ax∧ax≠[]∧∀a∈ax,∃b m:Nat,uI T k x n a b m∧((st≠2∧Open T k x d m s'∧dN T [] d n=dN T [] d m+cp T b∧0≤dN T [] d m)∨∃q,jZ T k x d m s' q∧(q.length:Int)+1<T.nodes):=fun t h1 h2 h3 h4 h5=>by
  obtain⟨e1,e2⟩:=lS hv hd h.node hne hbare h1 h2 h3 hp hh hs
  refine⟨_,_,e2,e1,fun a ha=>?_⟩
  obtain⟨b,rfl,hb⟩:=cX ha
  have hup:=h4 _ ha
  rw[Int.toNat_natCast]at hup
  obtain⟨m,hm⟩:=Int.eq_ofNat_of_zero_le ((aM hv).head b hb.fu).1
  obtain⟨c1,c2⟩:=hb.dN hm
  have hml:=ou hv hb.fu hm
  have hmh:=nX hb.fu hup hm
  exact⟨b,m,⟨rfl,hb.fu,hb.tail,hm,hup⟩,.inl ⟨h5,⟨rfl,hml,hmh,hsafe m hml hmh c1⟩,c2,c1⟩⟩
 rcases hst with rfl|rfl|rfl
 ·have ht:fW T (aF T k x) 0 n=dO T [] n:=by unfold fW;rw[if_pos rfl]
  rw[ht]
  exact hout _ (jd hv h.node) I (mX hd) (fun a ha=>by
   obtain⟨b,rfl,hb⟩:=cX ha
   rw[Int.toNat_natCast]
   exact hold rfl b hb.fu hb.tail) (by decide)
 ·have ht:fW T (aF T k x) 1 n=qU T (aF T k x) n:=by unfold fW;rw[if_neg (by decide),if_pos rfl]
  rw[ht]
  cases hh2:lE (fX T (aF T k x) n) (bH T [] n d)with
  |none=>
   have he:nF T (fX T (aF T k x) n) n d=⟨bH T [] n d,false,[]⟩:=by unfold nF;rw[hh2]
   refine hout _ (po hv h12 h.node) I (by rw[zo hd,he]) (fun a ha=>?_) (by decide)
   obtain⟨b,rfl,hb⟩:=cX ha
   have h1:=FV hh2 _ ha
   rw[nW,Int.toNat_natCast,decide_eq_true hb.fu,Bool.true_and,hb.tail,decide_eq_true rfl,Bool.and_true]at h1
   rw[Int.toNat_natCast]
   exact h1
  |some a=>
   obtain⟨h1,h2⟩:=wW hh2
   obtain⟨c1,c2,_⟩:=yS hv hcv h.node hd h.here h.reach h2
   have he:nF T (fX T (aF T k x) n) n d=jY T (ph T (fX T (aF T k x) n) n d a.toNat) n d:=by unfold nF;rw[hh2]
   obtain⟨b,m,s',q,e1,e2,e3,e4⟩:=nE hv h12 hd h.node hne (xc (Dz T _ _) _) c1 c2 (po hv h12 h.node) I (by rw[zo hd,he]) hp hh hs
   exact⟨_,_,e3,by simp,fun a ha=>by
    rw[List.mem_singleton]at ha
    subst ha
    exact⟨b,m,e2,.inr ⟨q,e4⟩⟩⟩
 ·have ht:fW T (aF T k x) 2 n=vE T (aF T k x) n:=by unfold fW;rw[if_neg (by decide),if_neg (by decide),if_pos rfl]
  rw[ht]
  obtain⟨b,m,s',q,e1,e2,e3,e4⟩:=nE hv h12 hd h.node hne (du T k x) (fun _ h=>h) h.reach (pA hv h12 h.node) I (zW hd) hp hh hs
  exact⟨_,_,e3,by simp,fun a ha=>by
   rw[List.mem_singleton]at ha
   subst ha
   exact⟨b,m,e2,.inr ⟨q,e4⟩⟩⟩
theorem BU(hv:aq T=true)(h12:T.nodes≤12)(hd:(d:Int)<T.nodes){n:Nat}{s:List bV}(h:Open T k x d n s)(hne:n≠d){st:Int}(hst:st≠0∧st≠1){p:dx}(hp:p.dst=(d:Int))(hh:p.dG=0)(hs:p.stack=s):
  ∃ax s',dj T (fW T (aF T k x) st n) p=cB p s' ax∧ax≠[]∧∀a∈ax,∃b m:Nat,uI T k x n a b m∧((st≠2∧Open T k x d m s'∧dN T (aF T k x) d n=dN T (aF T k x) d m+cp T b)∨(st=2∧∃q,cA T (aF T k x) n d=a::q∧ax=[a]∧jZ T k x d m s' q∧(q.length:Int)+1<T.nodes)):=by
 have hnil:=h.nil
 subst hnil
 by_cases h2:st=2
 ·subst h2
  have ht:fW T (aF T k x) 2 n=vE T (aF T k x) n:=by unfold fW;rw[if_neg (by decide),if_neg (by decide),if_pos rfl]
  rw[ht]
  obtain⟨b,m,s',q,e1,e2,e3,e4⟩:=nE hv h12 hd h.node hne (du T k x) (fun _ h=>h) h.reach (pA hv h12 h.node) I (zW hd) hp hh hs
  exact⟨_,_,e3,by simp,fun a ha=>by
   rw[List.mem_singleton]at ha
   subst ha
   exact⟨b,m,e2,.inr ⟨rfl,q,e1,rfl,e4⟩⟩⟩
 ·have ht:fW T (aF T k x) st n=dO T (aF T k x) n:=by unfold fW;rw[if_neg hst.1,if_neg hst.2,if_neg h2]
  rw[ht]
  obtain⟨e1,e2⟩:=lS hv hd h.node hne h.reach (jd hv h.node) I (mX hd) hp hh hs
  refine⟨_,_,e2,e1,fun a ha=>?_⟩
  obtain⟨b,rfl,hb⟩:=cX ha
  obtain⟨m,hm⟩:=Int.eq_ofNat_of_zero_le ((aM hv).head b hb.fu).1
  obtain⟨c1,c2⟩:=hb.dN hm
  exact⟨b,m,⟨rfl,hb.fu,hb.tail,hm,hb.up⟩,.inl ⟨h2,⟨rfl,ou hv hb.fu hm,nX hb.fu hb.up hm,c1⟩,c2⟩⟩
end
section
variable {T:ak} {k x:Int} {d:Nat}
noncomputable def kj(T:ak)(D:List Bool)(d n:Nat):Nat:=((List.range T.nodes.toNat).filter fun m=>decide (0≤dN T D d m)&&decide (dN T D d m<dN T D d n)).length
theorem oc{D:List Bool}{n:Nat}(hn:(n:Int)<T.nodes):kj T D d n<T.nodes.toNat:=by
 unfold kj
 have h:((List.range T.nodes.toNat).filter fun m=>decide (0≤dN T D d m)&&decide (dN T D d m<dN T D d n)).length<(List.range T.nodes.toNat).length:=by
  refine List.length_filter_lt_length_iff_exists.2 ⟨n,List.mem_range.2 (by omega),?_⟩
  simp
 simpa using h
theorem filter_lt{α:Type}{p q:α→Bool}{l:List α}{a:α}(hpq:∀b∈l,p b=true→q b=true)(ha:a∈l)(hp:p a=false)(hq:q a=true):(l.filter p).length<(l.filter q).length:=by
 have e:l.filter p=(l.filter q).filter p:=by
  rw[List.filter_filter]
  refine List.filter_congr fun b hb=>?_
  cases h:p b with
  |false=>simp
  |true=>simp[hpq b hb h]
 rw[e]
 exact List.length_filter_lt_length_iff_exists.2 ⟨a,List.mem_filter.2 ⟨ha,hq⟩,by rw[hp];simp⟩
theorem wP{D:List Bool}{n m:Nat}(hm:(m:Int)<T.nodes)(h0:0≤dN T D d m)(h:dN T D d m<dN T D d n):kj T D d m<kj T D d n:=by
 unfold kj
 refine filter_lt (a:=m) (fun b _ hb=>?_) (List.mem_range.2 (by omega)) (by simp) (by simp[h0,h])
 simp only[Bool.and_eq_true,decide_eq_true_eq]at hb ⊢
 exact⟨hb.1,by omega⟩
def Way(T:ak)(k x:Int)(d:Nat)(late:Bool)(n:Nat)(s:List bV)(u:Nat):Prop:=
 (Open T k x d n s∧u=if late then T.nodes.toNat+kj T (aF T k x) d n else 2*T.nodes.toNat+kj T [] d n)∨∃q,jZ T k x d n s q∧u=q.length∧q.length<T.nodes.toNat
def Perm(T:ak)(k x:Int)(late:Bool)(st:Nat→Int):Prop:=
 ∀n:Nat,(n:Int)<T.nodes→¬Gn k x n→if late then st n≠0∧st n≠1 else(st n=0∨st n=1∨st n=2)∧(st n=0→∀a,a<2*T.ae.length→bm T a=(n:Int)→aQ (aF T k x) a=false)
theorem Way.bound{late:Bool}{n:Nat}{s:List bV}{u:Nat}(hN:1≤T.nodes)(h:Way T k x d late n s u):u<3*T.nodes.toNat:=by
 rcases h with⟨h,rfl⟩|⟨q,_,rfl,h⟩
 ·have h1:=oc (D:=aF T k x) (d:=d) h.node
  have h2:=oc (D:=[]) (d:=d) h.node
  split<;>omega
 ·omega
theorem Way.on{n:Nat}{s:List bV}{u:Nat}(h:Way T k x d false n s u):∃u',u'≤u∧Way T k x d true n s u':=by
 rcases h with⟨h,rfl⟩|⟨q,h,rfl,hl⟩
 ·have h1:=oc (D:=aF T k x) (d:=d) h.node
  refine⟨T.nodes.toNat+kj T (aF T k x) d n,?_,.inl ⟨h,?_⟩⟩
  ·rw[if_neg (by simp)];omega
  ·rw[if_pos rfl]
 ·exact⟨_,Nat.le_refl _,.inr ⟨q,h,rfl,hl⟩⟩
theorem ow(hv:aq T=true)(h12:T.nodes≤12)(hd:(d:Int)<T.nodes){late:Bool}(hcv:late=false→uD T k x=true)(hsafe:late=false→∀m:Nat,(m:Int)<T.nodes→¬Gn k x m→0≤dN T [] d m→0≤dN T (aF T k x) d m)
  {st:Nat→Int} (hp:Perm T k x late st) {n:Nat} {s:List bV} {u:Nat} (h:Way T k x d late n s u) {p:dx} (hpd:p.dst=(d:Int)) (hh:p.dG=0) (hs:p.stack=s):
  (n=d∧(dj T (fW T (aF T k x) (st n) n) p).ax=[]∧(dj T (fW T (aF T k x) (st n) n) p).cS= -1)∨
  ∃ax s',dj T (fW T (aF T k x) (st n) n) p=cB p s' ax∧ax≠[]∧∀a∈ax,∃b m:Nat,uI T k x n a b m∧∃u',u'<u∧Way T k x d late m s' u':=by
 have hS:=aM hv
 rcases h with⟨h,rfl⟩|⟨q,h,rfl,hl⟩
 ·by_cases hne:n=d
  ·subst hne
   exact .inl ⟨rfl,wb hv h12 hd h (st n) hpd hs⟩
  ·refine .inr ?_
   have hpn:=hp n h.node h.here
   cases late with
   |true=>
    rw[if_pos rfl]at hpn
    obtain⟨ax,s',e1,e2,e3⟩:=BU hv h12 hd h hne hpn hpd hh hs
    refine⟨ax,s',e1,e2,fun a ha=>?_⟩
    obtain⟨b,m,g,hc⟩:=e3 a ha
    refine⟨b,m,g,?_⟩
    rcases hc with⟨_,ho,hdist⟩|⟨_,q,_,_,hL,hq⟩
    ·have hc1:=hS.cost b g.fu
     have:=wP (d:=d) (n:=n) ho.node ho.reach (by omega)
     exact⟨_,by rw[if_pos rfl,if_pos rfl];omega,.inl ⟨ho,rfl⟩⟩
    ·exact⟨q.length,by rw[if_pos rfl];omega,.inr ⟨q,hL,rfl,by omega⟩⟩
   |false=>
    rw[if_neg (by simp)]at hpn
    obtain⟨ax,s',e1,e2,e3⟩:=ri hv h12 hd (hcv rfl) (hsafe rfl) h hne hpn.1 hpn.2 hpd hh hs
    refine⟨ax,s',e1,e2,fun a ha=>?_⟩
    obtain⟨b,m,g,hc⟩:=e3 a ha
    refine⟨b,m,g,?_⟩
    rcases hc with⟨_,ho,hdist,h0⟩|⟨q,hL,hq⟩
    ·have hc1:=hS.cost b g.fu
     have:=wP (D:=[]) (d:=d) (n:=n) ho.node h0 (by omega)
     exact⟨_,by rw[if_neg (by simp),if_neg (by simp)];omega,.inl ⟨ho,rfl⟩⟩
    ·exact⟨q.length,by rw[if_neg (by simp)];omega,.inr ⟨q,hL,rfl,by omega⟩⟩
 ·cases q with
  |nil=>exact .inl (rR hv h12 hd h (st n) hpd hs)
  |cons a q=>
   obtain⟨b,m,s',g,e1,e2⟩:=qg hv h12 hd h (st n) hpd hh hs
   refine .inr ⟨[a],s',e1,by simp,fun c hc=>?_⟩
   rw[List.mem_singleton]at hc
   subst hc
   simp only[List.length_cons]at hl ⊢
   exact⟨b,m,g,q.length,by omega,.inr ⟨q,e2,rfl,by omega⟩⟩
end
def cV(p:dx)(s:List bV):dx:=⟨p.id,p.src,p.dst,p.ku,s,0⟩
inductive Br (T:ak) (tb:Nat→de) (p0:dx):Nat→List bV→List Int→Nat→Int→Prop
 |stop {n:Nat} {s:List bV}:(dj T (tb n) (cV p0 s)).ax=[]→Br T tb p0 n s [] n (dj T (tb n) (cV p0 s)).cS
 |go {n m e:Nat} {s:List bV} {a:Int} {p:List Int} {w:Int}:a∈(dj T (tb n) (cV p0 s)).ax→aS T a.toNat=(m:Int)→Br T tb p0 m (dj T (tb n) (cV p0 s)).eo.stack p e w→Br T tb p0 n s (a::p) e w
section
variable {T:ak} {k x:Int} {d:Nat} {st:Nat→Int} {p0:dx}
noncomputable def s7(T:ak)(M:List Bool)(st:Nat→Int)(n:Nat):de:=fW T M (st n) n
theorem Jo(hv:aq T=true)(h12:T.nodes≤12)(hd:(d:Int)<T.nodes){late:Bool}(hcv:late=false→uD T k x=true)(hsafe:late=false→∀m:Nat,(m:Int)<T.nodes→¬Gn k x m→0≤dN T [] d m→0≤dN T (aF T k x) d m)
  (hpm:Perm T k x late st) (hp0:p0.dst=(d:Int)) {n e:Nat} {s:List bV} {p:List Int} {w:Int} (hb:Br T (s7 T (aF T k x) st) p0 n s p e w):∀ {u:Nat},Way T k x d late n s u→e=d∧w= -1∧∀a∈p,aQ (aF T k x) a.toNat=false:=by
 induction hb with
 | @stop n s h0=>
  intro u h
  rcases ow hv h12 hd hcv hsafe hpm h (p:=cV p0 s) hp0 rfl rfl with⟨e1,e2,e3⟩|⟨ax,s',e1,e2,_⟩
  ·exact⟨e1,e3,fun a ha=>by cases ha⟩
  ·rw[show s7 T (aF T k x) st n=fW T (aF T k x) (st n) n from rfl,e1]at h0
   exact absurd h0 e2
 | @go n m e s a p w ha hm hr ih=>
  intro u h
  rcases ow hv h12 hd hcv hsafe hpm h (p:=cV p0 s) hp0 rfl rfl with⟨e1,e2,e3⟩|⟨ax,s',e1,e2,e3⟩
  ·rw[show s7 T (aF T k x) st n=fW T (aF T k x) (st n) n from rfl,e2]at ha
   cases ha
  ·rw[show s7 T (aF T k x) st n=fW T (aF T k x) (st n) n from rfl,e1]at ha ih
   obtain⟨b,m',g,u',_,hw⟩:=e3 a ha
   have hmm:m=m':=by
    have h1:=g.head
    rw[g.eq,Int.toNat_natCast,h1]at hm
    omega
   subst hmm
   obtain⟨i2,i3,i4⟩:=ih hw
   refine⟨i2,i3,fun c hc=>?_⟩
   rcases List.mem_cons.1 hc with rfl|hc
   ·rw[g.eq,Int.toNat_natCast];exact g.up
   ·exact i4 c hc
theorem Ee(hv:aq T=true)(h12:T.nodes≤12)(hd:(d:Int)<T.nodes)(hcv:uD T k x=true)(hsafe:∀m:Nat,(m:Int)<T.nodes→¬Gn k x m→0≤dN T [] d m→0≤dN T (aF T k x) d m)(hpm:Perm T k x false st)(hp0:p0.dst=(d:Int))
  {n e:Nat} {s:List bV} {p:List Int} {w:Int} (hb:Br T (s7 T (aF T k x) st) p0 n s p e w):Open T k x d n s→∀i,i<p.length→(∀j,j≤i→st (bm T (p.getD j 0).toNat).toNat=0)→
   dN T [] d (aS T (p.getD i 0).toNat).toNat=dN T [] d (bm T (p.getD i 0).toNat).toNat - cp T (p.getD i 0).toNat:=by
 induction hb with
 |stop _=>intro _ i hi;exact absurd hi (by simp)
 | @go n m e s a p w ha hm hr ih=>
  intro h i hi hall
  have hne:n≠d:=fun e=>by
   subst e
   have e2:=(wb hv h12 hd h (st n) (p:=cV p0 s) hp0 rfl).1
   rw[show s7 T (aF T k x) st n=fW T (aF T k x) (st n) n from rfl,e2]at ha
   cases ha
  have hpn:=hpm n h.node h.here
  rw[if_neg (by simp)]at hpn
  obtain⟨ax,s',e1,e2,e3⟩:=ri hv h12 hd hcv hsafe h hne hpn.1 hpn.2 (p:=cV p0 s) hp0 rfl rfl
  rw[show s7 T (aF T k x) st n=fW T (aF T k x) (st n) n from rfl,e1]at ha ih
  obtain⟨b,m',g,hc⟩:=e3 a ha
  have hmm:m=m':=by
   have h1:=g.head
   rw[g.eq,Int.toNat_natCast,h1]at hm
   omega
  subst hmm
  have h0:=hall 0 (Nat.zero_le _)
  have hta:bm T a.toNat=(n:Int):=by rw[g.eq,Int.toNat_natCast];exact g.tail
  rw[List.getD_cons_zero,hta,Int.toNat_natCast]at h0
  have ho:Open T k x d m s'∧dN T [] d n=dN T [] d m+cp T b:=by
   have ht:fW T (aF T k x) (st n) n=dO T [] n:=by unfold fW;rw[if_pos h0]
   have hbare:0≤dN T [] d n:=wB hv h.node hd (fun a ha hu=>by simp[aQ]) h.reach
   obtain⟨f1,f2⟩:=lS hv hd h.node hne hbare (jd hv h.node) I (mX hd) (p:=cV p0 s) hp0 rfl (by show s=[];exact h.nil)
   rw[ht,f2]at e1
   have hs':s'=[]:=(congrArg (fun o:Out=>o.eo.stack) e1).symm
   have har:bH T [] n d=ax:=congrArg Out.ax e1
   have ha2:a∈bH T [] n d:=by rw[har];exact ha
   obtain⟨c,hc1,hc2⟩:=cX ha2
   have hbc:b=c:=by have:=g.eq;omega
   subst hbc
   obtain⟨c1,c2⟩:=hc2.dN g.head
   have hml:=ou hv g.fu g.head
   have hmh:=nX g.fu g.up g.head
   exact⟨⟨hs',hml,hmh,hsafe m hml hmh c1⟩,c2⟩
  cases i with
  |zero=>
   rw[List.getD_cons_zero,hta,g.eq,Int.toNat_natCast,g.head,Int.toNat_natCast,Int.toNat_natCast]
   omega
  |succ i=>
   rw[List.getD_cons_succ]
   exact ih ho.1 i (by simpa using hi) (fun j hj=>by have:=hall (j+1) (by omega);rwa [List.getD_cons_succ]at this)
end
section
variable {T:ak} {D D':List Bool} {k x:Int} {d:Nat} {st:Nat→Int} {p0:dx}
end
def oY(k x n:Int):Bool:=decide (k=2)&&decide (x=n)
def ql(T:ak)(k x:Int)(n:Nat):Bool:=(List.range (2*T.ae.length)).any fun a=>aQ (aF T k x) a&&decide (bm T a=(n:Int))
def qI(s:Int):Bool:=decide (0≤s)&&decide (s≤3)
def sP(c:Bool)(s:Int):Bool:= !decide (s=3)&&(!decide (s=0)|| !c)&&(!decide (s=1)||c)
def nN(s:Int):Bool:=decide (s=2)||decide (s=3)
def dW(k x:Int)(p:Nat→Bool)(m:Nat):Bool:=(List.range m).all fun n=>oY k x n||p n
theorem ic(k x:Int)(p:Nat→Bool)(m:Nat):dW k x p (m+1)=(dW k x p m&&(oY k x m||p m)):=by
 unfold dW
 rw[List.range_succ,List.all_append]
 simp
theorem kG{k x:Int}{p:Nat→Bool}{m:Nat}:dW k x p m=true↔∀n,n<m→oY k x n=false→p n=true:=by
 unfold dW
 rw[List.all_eq_true]
 constructor
 ·intro h n hn hg
  have:=h n (List.mem_range.2 hn)
  rw[hg,Bool.false_or]at this
  exact this
 ·intro h n hn
  cases hg:oY k x n with
  |true=>rfl
  |false=>rw[Bool.false_or];exact h n (List.mem_range.1 hn) hg
def fq(l:List Int)(n:Nat):Int:=l.getD n 0
def fS(T:ak)(k x:Int)(l:List Int):Bool:=
 if(aq T&&cj T k x)&&decide ((l.length:Int)=T.nodes) then dW k x (fun n=>qI (fq l n)) l.length&&(dW k x (fun n=>sP (ql T k x n) (fq l n)) l.length||dW k x (fun n=>nN (fq l n)) l.length) else false
theorem rW{k x:Int}{p:Nat→Bool}{m i:Nat}(hi:i<m)(hg:oY k x i=false)(hp:p i=false):dW k x p m=false:=by
 cases h:dW k x p m with
 |false=>rfl
 |true=>rw[kG.1 h i hi hg]at hp;cases hp
section
variable {T:ak} {k x:Int} {l:List Int}
theorem JB{n:Nat}:oY k x n=true↔Gn k x n:=by
 unfold oY Gn
 simp
theorem nv{n:Nat}:oY k x n=false↔¬Gn k x n:=by
 rw[←JB];simp
theorem Er{n:Nat}:ql T k x n=false↔∀a,a<2*T.ae.length→bm T a=(n:Int)→aQ (aF T k x) a=false:=by
 unfold ql
 rw[List.any_eq_false]
 constructor
 ·intro h a ha ht
  have:=h a (List.mem_range.2 ha)
  rw[decide_eq_true ht,Bool.and_true]at this
  simpa using this
 ·intro h a ha
  rw[List.mem_range]at ha
  by_cases ht:bm T a=(n:Int)
  ·rw[h a ha ht];simp
  ·rw[decide_eq_false ht];simp
theorem HX(h:fS T k x l=true):aq T=true∧cj T k x=true∧(l.length:Int)=T.nodes∧(∀n:Nat,(n:Int)<T.nodes→¬Gn k x n→0≤fq l n∧fq l n≤3)∧∃late,Perm T k x late (fq l)∧(late=dW k x (fun n=>nN (fq l n)) l.length):=by
 unfold fS at h
 split at h
 ·rename_i h1
  simp only[Bool.and_eq_true,decide_eq_true_eq,Bool.or_eq_true]at h1 h
  obtain⟨⟨hv,hc⟩,hl⟩:=h1
  obtain⟨hok,hel⟩:=h
  refine⟨hv,hc,hl,fun n hn hg=>?_,_,?_,rfl⟩
  ·have:=kG.1 hok n (by omega) (nv.2 hg)
   unfold qI at this
   simpa using this
  ·cases hla:dW k x (fun n=>nN (fq l n)) l.length with
   |true=>
    intro n hn hg
    have:=kG.1 hla n (by omega) (nv.2 hg)
    rw[if_pos rfl]
    unfold nN at this
    simp only[Bool.or_eq_true,decide_eq_true_eq]at this
    omega
   |false=>
    rw[hla]at hel
    have her:dW k x (fun n=>sP (ql T k x n) (fq l n)) l.length=true:=by
     rcases hel with h|h
     ·exact h
     ·cases h
    intro n hn hg
    have h1:=kG.1 her n (by omega) (nv.2 hg)
    have h2:=kG.1 hok n (by omega) (nv.2 hg)
    rw[if_neg (by simp)]
    unfold sP at h1
    unfold qI at h2
    simp only[Bool.and_eq_true,Bool.or_eq_true,Bool.not_eq_true',decide_eq_true_eq,decide_eq_false_iff_not]at h1 h2
    obtain⟨⟨e3,e0⟩,e1⟩:=h1
    refine⟨by omega,fun h0=>Er.1 ?_⟩
    rcases e0 with e0|e0
    ·exact absurd h0 e0
    ·exact e0
 ·cases h
end
theorem tL(k x n:Int):Can Tryz.prog 73 [ca k x,num n] (· =flag (oY k x n)):=by
 obtain⟨q1,hq1⟩:∃q,decide (k=2)=q:=⟨_,rfl⟩
 obtain⟨q2,hq2⟩:∃q,decide (x=n)=q:=⟨_,rfl⟩
 unfold oY
 rw[hq1,hq2]
 refine aH Tryz.func73 I Tryz.ntmps73 I<|ab (.a 2 I<|.k [1,2] I)<|bz 4 (.raw (.bool (q1&&q2))) [] I ?_ ?_
 ·refine .a 2 I<|.v (cf I (hq1)) I<|.a 1 I<|?_
  cases q1
  ·exact .a 6 I<|.k [4] I
  ·exact .a 3 I<|.v (cf I (hq2)) I<|.a 2 I<|.k [4] I
 exact ao<|⟨_,_,az.of I,ay.pure,rfl⟩
def xB(T:ak)(M:List Bool)(N a:Nat):List Bool:=(List.range N).map fun(n:Nat)=>(List.range a).any fun b=>aQ M b&&decide (bm T b=(n:Int))
section
variable {T:ak} {M:List Bool} {N a:Nat}
theorem Az:(xB T M N a).length=N:=by simp[xB]
theorem Fx:xB T M N 0=List.replicate N false:=by
 unfold xB
 refine List.ext_getElem (by simp) fun i h1 h2=>by simp
theorem Jb(h:aQ M a=false):xB T M N (a+1)=xB T M N a:=by
 unfold xB
 refine List.map_congr_left fun n _=>?_
 rw[List.range_succ,List.any_append]
 simp[h]
theorem F7(h:aQ M a=true){m:Nat}(hm:bm T a=(m:Int)):xB T M N (a+1)=(xB T M N a).set m true:=by
 refine List.ext_getElem (by simp[xB]) fun i h1 h2=>?_
 rw[List.getElem_set]
 simp only[xB,List.getElem_map,List.getElem_range,List.range_succ,List.any_append,List.any_cons,List.any_nil,Bool.or_false,h,Bool.true_and,hm]
 by_cases e:m=i
 ·subst e;simp
 ·rw[if_neg e,decide_eq_false (by omega),Bool.or_false]
theorem Ge{k x:Int}{n:Nat}(hn:n<N):(xB T (aF T k x) N (2*T.ae.length)).getD n false=ql T k x n:=by
 unfold xB ql
 simp[hn]
end
set_option maxHeartbeats 4000000 in
theorem mP(T:ak)(k x:Int)(l:List Int)(hl:l.length≤1000):Can Tryz.prog 25 [aP T,ca k x,av l] (· =flag (fS T k x l)):=by
  obtain⟨q1,hq1⟩:∃q,decide (ej T k x≠0)=q:=⟨_,rfl⟩
  obtain⟨q2,hq2⟩:∃q,decide ((l.length:Int)≠T.nodes)=q:=⟨_,rfl⟩
  have hme:ej T k x=if(aq T&&cj T k x)=true then 0 else 1:=rfl
  refine aH Tryz.func25 I Tryz.ntmps25 I<|ab (.a 3 I<|.k [2,3,4] I)<|ab (.a 2 I<|.c rfl (mw T k x) I<|.a 5 I<|.k [2,3,4,7,8] I)<|aj<|bz 30 (.raw (.bool (q1||q2))) [2,3,4,7] I ?_ ?_
  · refine .a 1 I<|.v (cf I (hq1)) I<|.a 1 I<|?_
    cases q1
    · exact .a 3 I<|.v (aJ I (rfl)) I<|.v (cf I (hq2)) I<|.a 1 I<|.k [30,2,3,4,7] I
    · exact .a 6 I<|.k [30,2,3,4,7] I
  refine ag I (fun hc=>?_) (fun hc=>?_)
  · have hno:fS T k x l=false:=by
      unfold fS
      split
      · rename_i h
        exfalso
        obtain⟨h1,h2⟩:=Bool.and_eq_true_iff.1 h
        rw[if_pos h1]at hme
        rw[←hq1,←hq2,hme]at hc
        simp only[ne_eq,not_true_eq_false,decide_false,Bool.false_or,decide_eq_true_eq]at hc h2
        exact hc h2
      · rfl
    exact ab (.a 1 I<|.k [6] I)<|ao<|⟨_,_,az.of I,ay.pure,by rw[hno];rfl⟩
  · obtain ⟨rfl, rfl⟩ := Bool.or_eq_false_iff.1 hc
    have hvc:(aq T&&cj T k x)=true:=by
      cases h:(aq T&&cj T k x)with
      |true=>rfl
      |false=>rw[if_neg (by rw[h];decide)]at hme;exact absurd (ff hq1) (by rw[hme];decide)
    have hln:(l.length:Int)=T.nodes:=by have:=ff hq2;simpa using this
    have hP:fS T k x l=(dW k x (fun n=>qI (fq l n)) l.length&&(dW k x (fun n=>sP (ql T k x n) (fq l n)) l.length||dW k x (fun n=>nN (fq l n)) l.length)):=by
      unfold fS
      rw[if_pos (by rw[hvc,decide_eq_true hln];rfl)]
    have hv:=(Bool.and_eq_true_iff.1 hvc).1
    have hMl:=fr T k x
    have hll:=bT hv
    rw[if_pos hvc]at hme
    rw[hme]
    simp only[if_true]
    obtain⟨M,hM⟩:∃M,aF T k x=M:=⟨_,rfl⟩
    obtain⟨N,hN⟩:∃N:Nat,l.length=N:=⟨_,rfl⟩
    have hTN:T.nodes=(N:Int):=by omega
    rw[hM]at hMl ⊢
    refine ai<|aO<|aw 1 I<|bw (aJ I ((show some (num T.nodes)=some (num (N:Int)) by rw[hTN]))) I<|b7 (dX I (ba.rk.get I) I I (rfl:(N:Int)=(N:Int)) (rfl:(N:Int)=(N:Int)) ⟨by unfold maxLen;omega,by omega⟩) I<|aw 1 I<|aE [2,3,4,7,9] I ?_
    refine eF (σ':=[some (.row 4 1 N (bX (xB T M N 0)))]) (by rw[Fx,←iD];rfl) ?_
    refine aj<|ab (.a 3 I<|.k [2,3,4,9,34,35,36] I)<|au<|eH [2,3,4,9,34,35,36] I<|bq (fun r st=>∃a,a≤M.length∧r=M.length - a∧st=⟨[(2,av l),(3,.bb (bC T) 0),(4,.bb (cC k x) 0),(9,.own 0),(34,bn M),(35,num M.length),(36,num a)],[some (.row 4 1 N (bX (xB T M N a)))]⟩) M.length ⟨0,by omega,by omega,rfl⟩ ?_
    rintro r st ⟨a,ha,rfl,rfl⟩
    refine ab (.a 1 I<|.k [2,3,4,9,34,35,36,37] I)<|aj<|ag I (fun hc=>?_) (fun hc=>?_)
    · have hlt:a<M.length:=by have:=tt hc;omega
      obtain⟨b,hb⟩:∃b,aQ M a=b:=⟨_,rfl⟩
      obtain⟨m,hm⟩:=Int.eq_ofNat_of_zero_le ((aM hv).tail a (by omega)).1
      have hmN:=((aM hv).tail a (by omega)).2
      refine ai<|aj<|au<|ab (.a 1 I<|.v (aN (a) I) I<|.v (aJ I ((dt M a hlt).trans (by rw[show M.getD a false=b from hb]))) I<|.a 2 I<|.k [2,3,4,9,10,11,34,35,36] I)<|ab (.a 1 I<|.k [2,3,4,9,10,34,35,36,41] I)<|ag I (fun hc=>?_) (fun hc=>?_)
      · have hst:=F7 (N:=N) (hb.trans hc) hm
        have hcl:=Az (T:=T) (M:=M) (N:=N) (a:=a)
        refine bI<|aw 3 I<|eW I ((show Can Tryz.prog 79 [aP T,num a] (· =num m) by have h:=jt T a (by omega);rw[hm]at h;exact h)) I<|bw (aN (m) I) I<|bc ((by first|exact bN I (ba.tk.get I) I I I (by first|omega|(simp;omega))|exact bg I (ba.tk.get I) I I I (by first|omega|(simp;omega)))) I I<|aE [2,3,4,9,34,35,36] I ?_
        refine aC (.v (aU I) I<|.a 1 I<|.k [2,3,4,9,34,35,36] I) ?_
        exact⟨M.length - (a+1),by omega,a+1,by omega,rfl,by rw[hst];rfl⟩
      · have hst:=Jb (T:=T) (N:=N) (hb.trans hc)
        refine ai<|aC (.v (aU I) I<|.a 1 I<|.k [2,3,4,9,34,35,36] I) ?_
        exact⟨M.length - (a+1),by omega,a+1,by omega,rfl,by rw[hst];rfl⟩
    · have hae:a=M.length:=by have:=ff hc;omega
      refine bd<|ab (.a 2 I<|.k [2,4,9,12,13] I)<|aj<|ab (.a 3 I<|.k [4,9,12,13,48,49,50] I)<|au<|eH [4,9,12,13,48,49,50] I<|bq (fun r st=>∃i,i≤l.length∧dW k x (fun n=>qI (fq l n)) i=true∧r=l.length - i∧st=⟨[(4,.bb (cC k x) 0),(9,.own 0),(12,flag (dW k x (fun n=>sP (ql T k x n) (fq l n)) i)),(13,flag (dW k x (fun n=>nN (fq l n)) i)),(48,av l),(49,num l.length),(50,num i)],[some (.row 4 1 N (bX (xB T M N a)))]⟩) l.length ⟨0,by omega,rfl,by omega,rfl⟩ ?_
      rintro r st ⟨i,hi,hO0,rfl,rfl⟩
      have hcc:∀n,n<N→(xB T M N a).getD n false=ql T k x n:=fun n hn=>by rw[hae,hMl,←hM];exact Ge hn
      have hcl:=Az (T:=T) (M:=M) (N:=N) (a:=a)
      have hE:=ic k x (fun n=>sP (ql T k x n) (fq l n)) i
      have hL:=ic k x (fun n=>nN (fq l n)) i
      have hO:=ic k x (fun n=>qI (fq l n)) i
      obtain⟨eb,heb⟩:∃b,dW k x (fun n=>sP (ql T k x n) (fq l n)) i=b:=⟨_,rfl⟩
      obtain⟨lb,hlb⟩:∃b,dW k x (fun n=>nN (fq l n)) i=b:=⟨_,rfl⟩
      rw[heb]at hE ⊢
      rw[hlb]at hL ⊢
      rw[hO0]at hO
      refine ab (.a 1 I<|.k [4,9,12,13,48,49,50,51] I)<|aj<|ag I (fun hc=>?_) (fun hc=>?_)
      · have hlt:i<l.length:=by have:=tt hc;omega
        obtain⟨g,hg⟩:∃g,oY k x i=g:=⟨_,rfl⟩
        obtain⟨c,hcb⟩:∃c,ql T k x i=c:=⟨_,rfl⟩
        have hci:=(hcc i (by omega)).trans hcb
        have hilt:i<N:=by omega
        obtain⟨s,hs⟩:∃s,fq l i=s:=⟨_,rfl⟩
        have hsl:l.getD i 0=s:=hs
        simp only[hg,hcb,hs]at hE hL hO
        refine ai<|aj<|au<|ab (.a 1 I<|.v (aN (i) I) I<|.v (aJ I ((aB l i hlt).trans (by rw[hsl]))) I<|.a 2 I<|.k [4,9,12,13,14,15,48,49,50] I)<|aj<|ab (.a 2 I<|.c rfl (hg▸tL k x i) I<|.k [4,9,12,13,14,15,48,49,50,57] I)<|ag I (fun hc=>?_) (fun hc=>?_)
        · rw[hc,Bool.true_or,Bool.and_true]at hE hL hO
          refine ln (aY (ks:=[4,9,12,13,48,49,50]) I) ?_
          refine bd<|aC (.v (aU I) I<|.a 1 I<|.k [4,9,12,13,48,49,50] I) ?_
          exact⟨l.length - (i+1),by omega,i+1,by omega,hO,rfl,by rw[hE,hL];rfl⟩
        · have hg0:oY k x i=false:=hg.trans hc
          rw[hc,Bool.false_or]at hE hL hO
          refine ai<|ab (.a 1 I<|.k [4,9,12,13,14,48,49,50,58] I)<|au<|ab (.a 2 I<|.k [4,9,12,13,14,48,49,50,58,59] I)<|ag I (fun hc=>?_) (fun hc=>?_)
          · have hs0:s=0:=tt hc
            subst hs0
            replace hE:dW k x (fun n=>sP (ql T k x n) (fq l n)) (i+1)=(eb&& !c):=by rw[hE];simp[sP]
            replace hL:dW k x (fun n=>nN (fq l n)) (i+1)=false:=by rw[hL];simp[nN]
            replace hO:dW k x (fun n=>qI (fq l n)) (i+1)=true:=by rw[hO];rfl
            refine ab (.a 1 I<|.k [4,9,12,13,14,48,49,50] I)<|sd 12 (.raw (.bool (eb&& !c))) [4,9,13,48,49,50] I ?_ ?_
            · refine .a 2 I<|?_
              cases eb
              · exact .a 7 I<|.k [12,4,9,13,48,49,50] I
              · exact .a 2 I<|.v (aN (i) I) I<|.v (aJ I ((dt _ i (by rw[hcl];exact hilt)).trans (by rw[hci];try rfl))) I<|.a 3 I<|.k [12,4,9,13,48,49,50] I
            refine aC (.v (aU I) I<|.a 1 I<|.k [4,9,12,13,48,49,50] I) ?_
            exact⟨l.length - (i+1),by omega,i+1,by omega,hO,rfl,by rw[hE,hL];rfl⟩
          · have n0:¬s=0:=ff hc
            refine ab (.a 2 I<|.k [4,9,12,13,14,48,49,50,58,69] I)<|ag I (fun hc=>?_) (fun hc=>?_)
            · have hs0:s=1:=tt hc
              subst hs0
              replace hE:dW k x (fun n=>sP (ql T k x n) (fq l n)) (i+1)=(eb&&c):=by rw[hE];simp[sP]
              replace hL:dW k x (fun n=>nN (fq l n)) (i+1)=false:=by rw[hL];simp[nN]
              replace hO:dW k x (fun n=>qI (fq l n)) (i+1)=true:=by rw[hO];rfl
              refine ab (.a 1 I<|.k [4,9,12,13,14,48,49,50] I)<|sd 12 (.raw (.bool (eb&&c))) [4,9,13,48,49,50] I ?_ ?_
              · refine .a 2 I<|?_
                cases eb
                · exact .a 6 I<|.k [12,4,9,13,48,49,50] I
                · exact .a 2 I<|.v (aN (i) I) I<|.v (aJ I ((dt _ i (by rw[hcl];exact hilt)).trans (by rw[hci];try rfl))) I<|.a 2 I<|.k [12,4,9,13,48,49,50] I
              refine aC (.v (aU I) I<|.a 1 I<|.k [4,9,12,13,48,49,50] I) ?_
              exact⟨l.length - (i+1),by omega,i+1,by omega,hO,rfl,by rw[hE,hL];rfl⟩
            · have n1:¬s=1:=ff hc
              refine ab (.a 2 I<|.k [4,9,12,13,48,49,50,58,78] I)<|ag I (fun hc=>?_) (fun hc=>?_)
              · have hs0:s=2:=tt hc
                subst hs0
                replace hE:dW k x (fun n=>sP (ql T k x n) (fq l n)) (i+1)=eb:=by rw[hE];simp[sP]
                replace hL:dW k x (fun n=>nN (fq l n)) (i+1)=lb:=by rw[hL];simp[nN]
                replace hO:dW k x (fun n=>qI (fq l n)) (i+1)=true:=by rw[hO];rfl
                refine ai<|aC (.v (aU I) I<|.a 1 I<|.k [4,9,12,13,48,49,50] I) ?_
                exact⟨l.length - (i+1),by omega,i+1,by omega,hO,rfl,by rw[hE,hL];rfl⟩
              · have n2:¬s=2:=ff hc
                refine ab (.a 2 I<|.k [4,9,13,48,49,50,80] I)<|ag I (fun hc=>?_) (fun hc=>?_)
                · have hs0:s=3:=tt hc
                  subst hs0
                  replace hE:dW k x (fun n=>sP (ql T k x n) (fq l n)) (i+1)=false:=by rw[hE];simp[sP]
                  replace hL:dW k x (fun n=>nN (fq l n)) (i+1)=lb:=by rw[hL];simp[nN]
                  replace hO:dW k x (fun n=>qI (fq l n)) (i+1)=true:=by rw[hO];rfl
                  refine aC (.a 1 I<|.k [4,9,12,13,48,49,50] I) ?_
                  refine aC (.v (aU I) I<|.a 1 I<|.k [4,9,12,13,48,49,50] I) ?_
                  exact⟨l.length - (i+1),by omega,i+1,by omega,hO,rfl,by rw[hE,hL];rfl⟩
                · have n3:¬s=3:=ff hc
                  refine ab (.a 1 I<|.k [6] I)<|ao ?_
                  have hbad:dW k x (fun n=>qI (fq l n)) l.length=false:=by
                    refine rW hlt hg0 ?_
                    show qI (fq l i)=false
                    rw[hs]
                    unfold qI
                    by_cases h1:0≤s
                    · rw[decide_eq_false (by omega:¬s≤3),Bool.and_false]
                    · rw[decide_eq_false h1,Bool.false_and]
                  exact⟨_,_,az.of I,ay.pure,by rw[hP,hbad];rfl⟩
      · have hie:i=l.length:=by have:=ff hc;omega
        subst hie
        refine bd<|bz 6 (.raw (.bool (eb||lb))) [] I ?_ ?_
        · refine .a 2 I<|?_
          cases eb
          · exact .a 3 I<|.k [6] I
          · exact .a 3 I<|.k [6] I
        exact ao<|⟨_,_,az.of I,ay.pure,by rw[hP,hO0,heb,hlb];rfl⟩
end
section
open Go.RowKit cG Mem Net
def ij(s:List bV):Prop:=∀g∈s,0≤g.kind∧g.kind<100∧0≤g.num∧g.num<100
def Gl(g:bV):List UInt8:=32::(Lib.decDigits g.kind.toNat++58::Lib.decDigits g.num.toNat)
def ev(n:Nat)(s:List bV):List UInt8:=Lib.decDigits n++s.flatMap Gl
def D1(c:UInt8):Prop:=48≤c.toNat∧c.toNat≤57
theorem mZ{n:Nat}(h:n<100):∀c∈Lib.decDigits n,D1 c:=by
 intro c hc
 by_cases h1:n<10
 ·rw[Lib.decDigits_one h1,List.mem_singleton]at hc
  subst hc
  unfold D1
  rw[UInt8.toNat_ofNat']
  omega
 ·rw[Lib.decDigits_two h1 h]at hc
  simp only[List.mem_cons,List.not_mem_nil,or_false]at hc
  rcases hc with rfl|rfl<;>(unfold D1;rw[UInt8.toNat_ofNat'];omega)
theorem ofNat_inj{a b:Nat}(ha:a<256)(hb:b<256)(h:UInt8.ofNat a=UInt8.ofNat b):a=b:=by
 have:=congrArg UInt8.toNat h
 rw[UInt8.toNat_ofNat',UInt8.toNat_ofNat']at this
 omega
theorem vW{m n:Nat}(hm:m<100)(hn:n<100)(h:Lib.decDigits m=Lib.decDigits n):m=n:=by
 by_cases h1:m<10<;>by_cases h2:n<10
 ·rw[Lib.decDigits_one h1,Lib.decDigits_one h2]at h
  have:=ofNat_inj (by omega) (by omega) (List.cons.inj h).1
  omega
 ·rw[Lib.decDigits_one h1,Lib.decDigits_two h2 hn]at h
  cases(List.cons.inj h).2
 ·rw[Lib.decDigits_two h1 hm,Lib.decDigits_one h2]at h
  cases(List.cons.inj h).2
 ·rw[Lib.decDigits_two h1 hm,Lib.decDigits_two h2 hn]at h
  have e1:=ofNat_inj (by omega) (by omega) (List.cons.inj h).1
  have e2:=ofNat_inj (by omega) (by omega) (List.cons.inj (List.cons.inj h).2).1
  omega
theorem kT{n:Nat}(h:n<100):(Lib.decDigits n).length≤2∧0<(Lib.decDigits n).length:=by
 by_cases h1:n<10
 ·rw[Lib.decDigits_one h1];simp
 ·rw[Lib.decDigits_two h1 h];simp
theorem mT:∀(A B X Y:List UInt8),(∀c∈A,D1 c)→(∀c∈B,D1 c)→(∀c Z,X=c::Z→¬D1 c)→(∀c Z,Y=c::Z→¬D1 c)→A++X=B++Y→A=B∧X=Y
 | [],[],X,Y,_,_,_,_,h=>⟨rfl,h⟩
 | [],b::B,X,Y,_,hB,hX,_,h=>absurd (hB b (by simp)) (hX b (B++Y) h)
 |a::A,[],X,Y,hA,_,_,hY,h=>absurd (hA a (by simp)) (hY a (A++X) h.symm)
 |a::A,b::B,X,Y,hA,hB,hX,hY,h=>by
  obtain⟨h1,h2⟩:=List.cons.inj h
  obtain⟨h3,h4⟩:=mT A B X Y (fun c hc=>hA c (by simp[hc])) (fun c hc=>hB c (by simp[hc])) hX hY h2
  exact⟨by rw[h1,h3],h4⟩
theorem mA{s:List bV}:∀c Z,s.flatMap Gl=c::Z→¬D1 c:=by
 intro c Z h
 cases s with
 |nil=>cases h
 |cons g s=>
  rw[List.flatMap_cons]at h
  have:=(List.cons.inj h).1
  subst this
  unfold D1
  decide
theorem xq:∀ {s s':List bV},ij s→ij s'→s.flatMap Gl=s'.flatMap Gl→s=s'
 | [],[],_,_,_=>rfl
 | [],g::s',_,_,h=>by rw[List.flatMap_cons]at h;cases h
 |g::s,[],_,_,h=>by rw[List.flatMap_cons]at h;cases h
 |g::s,g'::s',h1,h2,h=>by
  obtain⟨a1,a2,a3,a4⟩:=h1 g (by simp)
  obtain⟨b1,b2,b3,b4⟩:=h2 g' (by simp)
  rw[List.flatMap_cons,List.flatMap_cons]at h
  unfold Gl at h
  rw[List.cons_append,List.cons_append,List.append_assoc,List.append_assoc]at h
  obtain⟨e1,e2⟩:=mT _ _ _ _ (mZ (by omega)) (mZ (by omega)) (fun c Z h=>by rw[List.cons_append]at h;have:=(List.cons.inj h).1;subst this;unfold D1;decide) (fun c Z h=>by rw[List.cons_append]at h;have:=(List.cons.inj h).1;subst this;unfold D1;decide) (List.cons.inj h).2
  rw[List.cons_append,List.cons_append]at e2
  obtain⟨e3,e4⟩:=mT _ _ _ _ (mZ (by omega)) (mZ (by omega)) (mA (s:=s)) (mA (s:=s')) (List.cons.inj e2).2
  have k1:=vW (by omega) (by omega) e1
  have k2:=vW (by omega) (by omega) e3
  have k3:=xq (fun x hx=>h1 x (by simp[hx])) (fun x hx=>h2 x (by simp[hx])) e4
  obtain⟨gk,gn⟩:=g
  obtain⟨gk',gn'⟩:=g'
  simp only at a1 b1 a3 b3 k1 k2
  rw[k3,show gk=gk' by omega,show gn=gn' by omega]
theorem Fu{n n':Nat}{s s':List bV}(hn:n<100)(hn':n'<100)(h1:ij s)(h2:ij s')(h:ev n s=ev n' s'):n=n'∧s=s':=by
 unfold ev at h
 obtain⟨e1,e2⟩:=mT _ _ _ _ (mZ hn) (mZ hn') (mA (s:=s)) (mA (s:=s')) h
 exact⟨vW hn hn' e1,xq h1 h2 e2⟩
theorem EE{s:List bV}(h:ij s):(s.flatMap Gl).length≤s.length*6:=by
 induction s with
 |nil=>simp
 |cons g s ih=>
  obtain⟨a1,a2,a3,a4⟩:=h g (by simp)
  have:=ih (fun x hx=>h x (by simp[hx]))
  have h1:=kT (n:=g.kind.toNat) (by omega)
  have h2:=kT (n:=g.num.toNat) (by omega)
  have h3:(Gl g).length=2+(Lib.decDigits g.kind.toNat).length+(Lib.decDigits g.num.toNat).length:=by
   unfold Gl
   simp only[List.length_cons,List.length_append]
   omega
  rw[List.flatMap_cons,List.length_append,h3,List.length_cons]
  omega
theorem ye{h g:bV}:∀ {s:List bV},g∈s→g=h∨g∈eD h s
 |a::s,hg=>by
  unfold eD
  split
  ·rename_i e
   rcases List.mem_cons.1 hg with rfl|hg
   ·exact .inl e
   ·exact ye hg
  ·exact .inr hg
open eY
noncomputable def bL(T:ak)(tb:Nat→de)(p0:dx)(n:Nat)(s:List bV):Out:=dj T (tb n) (cV p0 s)
structure iK (T:ak) (tb:Nat→de) (p0:dx) (Φ:Nat→Nat→List bV→Prop):Prop where
 node:∀ {u n s},Φ u n s→(n:Int)<T.nodes
 small:∀ {u n s},Φ u n s→ij s∧s.length≤1000
 step:∀ {u n s},Φ u n s→(bL T tb p0 n s).ax=[]∨((bL T tb p0 n s).ax.length≤1000∧bL T tb p0 n s=cB (cV p0 s) (bL T tb p0 n s).eo.stack (bL T tb p0 n s).ax∧
  ∀a∈(bL T tb p0 n s).ax,∃b m:Nat,a=(b:Int)∧b<2*T.ae.length∧aS T b=(m:Int)∧∃u',u'<u∧Φ u' m (bL T tb p0 n s).eo.stack)
def sQ(cs:List Int):Int:=cs.foldl (fun a c=>min (a+c) 1001) 0
def eK(ax:List Int)(cs:List Int):Int:=if ax=[] then 1 else sQ cs
def dP(n:Nat)(o:Out)(vs:List PV)(c:Int):List PV:=[num n,num o.cS,av o.ax,.slice vs.length vs,flag false,num c]
inductive Good (T:ak) (tb:Nat→de) (p0:dx) (Φ:Nat→Nat→List bV→Prop):PV→Nat→List bV→Int→Prop
 |mk {n:Nat} {s:List bV} {vs:List PV} {cs:List Int} {u:Nat}:Φ u n s→vs.length=(bL T tb p0 n s).ax.length→cs.length=(bL T tb p0 n s).ax.length→
   (∀i,i<(bL T tb p0 n s).ax.length→Good T tb p0 Φ (vs.getD i .any) (aS T ((bL T tb p0 n s).ax.getD i 0).toNat).toNat (bL T tb p0 n s).eo.stack (cs.getD i 0))→
   Good T tb p0 Φ (.bb (dP n (bL T tb p0 n s) vs (eK (bL T tb p0 n s).ax cs)) 0) n s (eK (bL T tb p0 n s).ax cs)
theorem lX(cs:List Int)(c:Int):sQ (cs++[c])=min (sQ cs+c) 1001:=by simp[sQ]
section
variable {T:ak} {tb:Nat→de} {p0:dx} {Φ:Nat→Nat→List bV→Prop}
theorem hJ:∀(cs:List Int) (b:Int),0≤b→b≤1001→(∀c∈cs,0≤c)→0≤cs.foldl (fun a c=>min (a+c) 1001) b∧cs.foldl (fun a c=>min (a+c) 1001) b≤1001
 | [],b,h1,h2,_=>⟨h1,h2⟩
 |c::cs,b,h1,h2,h3=>by
  have:=h3 c (by simp)
  exact hJ cs (min (b+c) 1001) (by omega) (by omega) (fun x hx=>h3 x (by simp[hx]))
theorem Good.bound{v:PV}{n:Nat}{s:List bV}{c:Int}(h:Good T tb p0 Φ v n s c):0≤c∧c≤1001:=by
 induction h with
 | @mk n s vs cs u _ _ h2 _ ih=>
  unfold eK
  split
  ·omega
  ·refine hJ cs 0 (by omega) (by omega) fun c hc=>?_
   obtain⟨i,hi⟩:=List.getElem?_of_mem hc
   have hlt:=(List.getElem?_eq_some_iff.1 hi).1
   have:=(ih i (by rw[←h2];exact hlt)).1
   rw[List.getD_eq_getElem?_getD,hi]at this
   exact this
theorem Good.state{v:PV}{n:Nat}{s:List bV}{c:Int}(h:Good T tb p0 Φ v n s c):∃u,Φ u n s:=by
 cases h with
 |mk h _ _ _=>exact⟨_,h⟩
theorem Good.pure{v:PV}{n:Nat}{s:List bV}{c:Int}(h:Good T tb p0 Φ v n s c):IsPure v:=by
 induction h with
 | @mk n s vs cs u _ h1 _ _ ih=>
  haveI:aL vs:=⟨fun i x hx=>by
   have hlt:=(List.getElem?_eq_some_iff.1 hx).1
   have:=ih i (by rw[←h1];exact hlt)
   rw[List.getD_eq_getElem?_getD,hx]at this
   exact this⟩
  unfold dP
  infer_instance
theorem Good.parts{v:PV}{n:Nat}{s:List bV}{c:Int}(h:Good T tb p0 Φ v n s c):∃vs cs,v= .bb (dP n (bL T tb p0 n s) vs c) 0∧vs.length=(bL T tb p0 n s).ax.length∧cs.length=(bL T tb p0 n s).ax.length∧c=eK (bL T tb p0 n s).ax cs∧
  ∀i,i<(bL T tb p0 n s).ax.length→Good T tb p0 Φ (vs.getD i .any) (aS T ((bL T tb p0 n s).ax.getD i 0).toNat).toNat (bL T tb p0 n s).eo.stack (cs.getD i 0):=by
 cases h with
 | @mk _ _ vs cs u h1 h2 h3 h4=>exact⟨vs,cs,rfl,h2,h3,rfl,h4⟩
inductive Da (T:ak) (tb:Nat→de) (p0:dx):Nat→List bV→Nat→List bV→Prop
 |one {n m:Nat} {s:List bV} {a:Int}:a∈(bL T tb p0 n s).ax→aS T a.toNat=(m:Int)→Da T tb p0 n s m (bL T tb p0 n s).eo.stack
 |more {n m:Nat} {s:List bV} {a:Int} {n':Nat} {s':List bV}:Da T tb p0 n' s' n s→a∈(bL T tb p0 n s).ax→aS T a.toNat=(m:Int)→Da T tb p0 n' s' m (bL T tb p0 n s).eo.stack
theorem iK.one(R:iK T tb p0 Φ){u n m:Nat}{s:List bV}{a:Int}(h:Φ u n s)(ha:a∈(bL T tb p0 n s).ax)(hm:aS T a.toNat=(m:Int)):∃u',u'<u∧Φ u' m (bL T tb p0 n s).eo.stack:=by
 rcases R.step h with h0|⟨_,_,h2⟩
 ·rw[h0]at ha;cases ha
 ·obtain⟨b,m',rfl,_,h3,u',h4,h5⟩:=h2 a ha
  rw[Int.toNat_natCast,h3]at hm
  have:m'=m:=by omega
  subst this
  exact⟨u',h4,h5⟩
theorem iK.LU(R:iK T tb p0 Φ){n m:Nat}{s s':List bV}(h:Da T tb p0 n s m s'):∀ {u:Nat},Φ u n s→∃u',u'<u∧Φ u' m s':=by
 induction h with
 |one ha hm=>intro u hu;exact R.one hu ha hm
 |more _ ha hm ih=>
  intro u hu
  obtain⟨u1,h1,h2⟩:=ih hu
  obtain⟨u2,h3,h4⟩:=R.one h2 ha hm
  exact⟨u2,by omega,h4⟩
theorem iK.wA(R:iK T tb p0 Φ){n:Nat}{s:List bV}(h:Da T tb p0 n s n s):∀ {u:Nat},Φ u n s→False:=by
 intro u
 induction u using Nat.strongRecOn with
 |_ u ih=>
  intro hu
  obtain⟨u',h1,h2⟩:=R.LU h hu
  exact ih u' h1 h2
end
end
section
open Go.RowKit cG Mem
inductive AY (i:Nat):cK→PV→PV→Prop
 |same {blk:cK} (p:PV):AY i blk p p
 |ptr {ty:TypeId} {xs:List PV} (off:Nat):AY i (.cells ty xs) (.ptr i off) (.bb xs off)
 |own {e s n:Nat} {xs:List PV}:AY i (.row e s n xs) (.own i) (.slice n xs)
def jK(i:Nat)(blk:cK)(xs ys:List PV):Prop:=ys.length=xs.length∧∀(j:Nat) x y,xs[j]? =some x→ys[j]? =some y→AY i blk x y
theorem jK.nil{i:Nat}{blk:cK}:jK i blk [] []:=⟨rfl,fun j x y h=>by simp at h⟩
theorem jK.cons{i:Nat}{blk:cK}{x y:PV}{xs ys:List PV}(h:AY i blk x y)(hs:jK i blk xs ys):jK i blk (x::xs) (y::ys):=⟨by simp[hs.1],fun j a b h1 h2=>by
 cases j with
 |zero=>simp at h1 h2;subst h1;subst h2;exact h
 |succ j=>exact hs.2 j a b (by simpa using h1) (by simpa using h2)⟩
theorem jK.refl{i:Nat}{blk:cK}(xs:List PV):jK i blk xs xs:=⟨rfl,fun j x y h1 h2=>by rw[h1]at h2;cases h2;exact .same _⟩
inductive uZ (i:Nat) (blk:cK):cK→cK→Prop
 |same (b:cK):uZ i blk b b
 |cells {ty:TypeId} {xs ys:List PV}:jK i blk xs ys→uZ i blk (.cells ty xs) (.cells ty ys)
 |row {e s n:Nat} {xs ys:List PV}:jK i blk xs ys→uZ i blk (.row e s n xs) (.row e s n ys)
 |mp {kv kv':List (Value×PV)}:kv'.map (·.1)=kv.map (·.1)→jK i blk (kv.map (·.2)) (kv'.map (·.2))→uZ i blk (.mp kv) (.mp kv')
def zb(i:Nat)(blk:cK)(σ σ':cg):Prop:=σ'.length=σ.length∧(σ'[i]? =some none)∧∀j,j≠i→(σ'[j]? =σ[j]? ∨∃b b',σ[j]? =some (some b)∧σ'[j]? =some (some b')∧uZ i blk b b')
inductive y6 (i:Nat) (blk:cK) (t:cn):cn→Prop
 |nil:y6 i blk t []
 |cons {t':cn} (k:Nat) {p q:PV}:look k t=some p→AY i blk p q→y6 i blk t t'→y6 i blk t ((k,q)::t')
theorem y6.get{i:Nat}{blk:cK}{t t':cn}(h:y6 i blk t t'):∀k q,look k t'=some q→∃p,look k t=some p∧AY i blk p q:=by
 induction h with
 |nil=>intro k q h;cases h
 |cons k h1 h2 _ ih=>
  intro j q hj
  simp only[look]at hj
  rw[Bool.cond_eq_ite]at hj
  split at hj
  ·rename_i he
   have:=Nat.eq_of_beq_eq_true he
   subst this
   cases hj
   exact⟨_,h1,h2⟩
  ·exact ih j q hj
section
variable {P:Program} {N L:Nat} {F:Nat→Prop} {base:Nat} {σ σ':cg} {E:Env} {w:World}
theorem AY.rep(hS:Sat F base σ E w){i:Nat}{blk:cK}(hi:σ[i]? =some (some blk)){p q:PV}(h:AY i blk p q):∀v,cM E w v p→cM (E.kill i) w v q:=by
 obtain⟨_,g⟩:=hS.kill i hi
 intro v hv
 cases h with
 |same _=>exact hv.goes g
 |own=>exact hS.seal hi hv
 | @ptr ty xs off=>
  obtain⟨b,cs,h1,h2,h3,h4⟩:=hS.blk i _ hi
  cases hv with
  |ptr _ _ b' hi' h=>
   have hb:b'=b:=by
    rcases h with h|⟨n,c,h⟩<;>rw[h1]at h<;>cases h
    rfl
   subst hb
   have:=cM.bb (E:=E.kill i) (w:=w) b' 0 off cs.toList xs (Array.getElem?_eq_some_iff.1 h3).1 (fun hM=>hM.2 (by rw[h1];rfl)) (fun j x hx=>by rw[Nat.zero_add];unfold World.cell?;simp only[h3];simpa using hx) h4.1 (fun j x u k1 k2=>(h4.2 j x u k1 k2).goes g)
   rw[Nat.zero_add]at this
   exact this
theorem jK.rep(hS:Sat F base σ E w){i:Nat}{blk:cK}(hi:σ[i]? =some (some blk)){xs ys:List PV}(h:jK i blk xs ys){cs:List Value}(hs:bf E w cs xs):bf (E.kill i) w cs ys:=
 ⟨hs.1.trans h.1.symm,fun j x u k1 k2=>by
  have hj:j<xs.length:=by rw[←h.1];exact(List.getElem?_eq_some_iff.1 k2).1
  exact(h.2 j xs[j] u (by simp[hj]) k2).rep hS hi x (hs.2 j x _ k1 (by simp[hj]))⟩
theorem uZ.sat(hS:Sat F base σ E w){i:Nat}{blk:cK}(hi:σ[i]? =some (some blk)){b b':cK}(h:uZ i blk b b'){v:Value}(hb:gI base E w v b):gI base (E.kill i) w v b':=by
 obtain⟨_,g⟩:=hS.kill i hi
 cases h with
 |same _=>exact hb.goes g (fun _ _=>rfl)
 |cells hl=>
  obtain⟨b',cs,h1,h2,h3,h4⟩:=hb
  exact⟨b',cs,h1,h2,h3,hl.rep hS hi h4⟩
 |row hl=>
  obtain⟨cs,h1,h2⟩:=hb
  exact⟨cs,h1,hl.rep hS hi h2⟩
 |mp hk hl=>
  obtain⟨r,es,ck,h1,h2,h3,h4,h5⟩:=hb
  exact⟨r,es,ck,h1,h2,h3,h4.trans hk.symm,hl.rep hS hi h5⟩
theorem tI{i:Nat}{blk:cK}(hi:σ[i]? =some (some blk))(h:zb i blk σ σ'){j:Nat}{b':cK}(hj:σ'[j]? =some (some b')):j≠i∧∃b,σ[j]? =some (some b)∧uZ i blk b b':=by
 have hne:j≠i:=fun e=>by subst e;rw[h.2.1]at hj;cases hj
 refine⟨hne,?_⟩
 rcases h.2.2 j hne with h|⟨b,b2,h1,h2,h3⟩
 ·rw[h]at hj;exact⟨b',hj,.same _⟩
 ·rw[h2]at hj;cases hj;exact⟨b,h1,h3⟩
theorem Sat.KE(hS:Sat F base σ E w){i:Nat}{blk:cK}(hi:σ[i]? =some (some blk))(h:zb i blk σ σ'):Sat F base σ' (E.kill i) w:=by
 obtain⟨h1,g⟩:=hS.kill i hi
 have key:∀ {j:Nat} {b':cK},σ'[j]? =some (some b')→∃b,(σ.set i none)[j]? =some (some b):=fun {j b'} hj=>by
  obtain⟨hne,b,hb,_⟩:=tI hi h hj
  exact⟨b,by rw[List.getElem?_set,if_neg (Ne.symm hne)];exact hb⟩
 refine⟨h1.bl,fun b hb=>⟨(h1.fb b hb).1,fun j bl hj=>?_⟩,?_,fun b=>?_,fun j bl hj=>?_,fun j k bj bk b hj hk e1 e2=>?_,h1.gl⟩
 ·obtain⟨b2,hb2⟩:=key hj;exact(h1.fb b hb).2 j b2 hb2
 ·rw[h1.len,h.1,List.length_set]
 ·constructor
  ·intro hM
   rcases(h1.mm b).1 hM with hf|⟨j,bl,h3,h4⟩
   ·exact .inl hf
   ·obtain⟨hne,h5⟩:=iB h3
    rcases h.2.2 j hne with h6|⟨b1,b2,_,h7,_⟩
    ·exact .inr ⟨j,bl,by rw[h6];exact h5,h4⟩
    ·exact .inr ⟨j,b2,h7,h4⟩
  ·rintro(hf|⟨j,bl,h3,h4⟩)
   ·exact(h1.mm b).2 (.inl hf)
   ·obtain⟨b2,hb2⟩:=key h3;exact(h1.mm b).2 (.inr ⟨j,b2,hb2,h4⟩)
 ·obtain⟨_,b,hb,hf⟩:=tI hi h hj
  exact hf.sat hS hi (hS.blk j b hb)
 ·obtain⟨b1,hb1⟩:=key hj
  obtain⟨b2,hb2⟩:=key hk
  exact h1.inj j k b1 b2 b hb1 hb2 e1 e2
theorem oo{c:Code}{t t':cn}{Q:Exit→St→Prop}(i:Nat){blk:cK}(hi:σ[i]? =some (some blk))(hσ:zb i blk σ σ')(ht:y6 i blk t t')(h:W P N L c ⟨t',σ'⟩ Q):W P N L c ⟨t,σ⟩ Q:=fun F base E₀ w₀ E a w hc hs=>by
 obtain⟨_,g⟩:=hs.sat.kill i hi
 refine h F base E₀ w₀ (E.kill i) a w (hc.on g (Below.refl _ _)) ⟨hs.sat.KE hi hσ,fun k q hq=>?_,hs.j9,hs.size⟩
 obtain⟨p,h1,h2⟩:=ht.get k q hq
 exact h2.rep hs.sat hi _ (hs.tmp k p h1)
theorem Jc{ops:Array Oper}{l:List Oper}{t t':cn}{K:St→Prop}(i:Nat){blk:cK}(hi:σ[i]? =some (some blk))(hσ:zb i blk σ σ')(ht:y6 i blk t t')(h:WR P N L ops l ⟨t',σ'⟩ K):WR P N L ops l ⟨t,σ⟩ K:=by
 intro F base E₀ w₀ E a w hc hs Q j hQ hl
 obtain⟨_,g⟩:=hs.sat.kill i hi
 refine h F base E₀ w₀ (E.kill i) a w (hc.on g (Below.refl _ _)) ⟨hs.sat.KE hi hσ,fun k q hq=>?_,hs.j9,hs.size⟩ Q j hQ hl
 obtain⟨p,h1,h2⟩:=ht.get k q hq
 exact h2.rep hs.sat hi _ (hs.tmp k p h1)
end
def qm(l:List UInt8):Value:=.string ⟨l.toArray⟩
theorem bytes_beq(a b:List UInt8):((⟨a.toArray⟩:ByteArray)==⟨b.toArray⟩)=decide (a=b):=Bool.eq_iff_iff.2 (by
 rw[beq_toListBytes,beq_iff_eq,decide_eq_true_eq,ByteArray.toList_eq,ByteArray.toList_eq])
section
variable {P:Program} {kt:TypeId}
theorem HM(b:Bool)(n:Nat)(hu:P.underlying kt=some .string)(a:List UInt8)(w:World):(Instr.checkKey b (n+1) kt (qm a)).run P w= .ok () w:=by
 simp only[Instr.checkKey,Sem.run_bind,run_underlying hu,Result.andThen_ok,Sem.run_pure,qm]
theorem Jg(n:Nat)(hu:P.underlying kt=some .string)(a b:List UInt8)(w:World):(Op.equalIn (n+1) kt (qm a) (qm b)).run P w= .ok (decide (a=b)) w:=by
 have h:=run_equalIn_string w n kt ⟨a.toArray⟩ ⟨b.toArray⟩ hu
 rw[←beq_toListBytes,bytes_beq]at h
 exact h
theorem I6(hu:P.underlying kt=some .string):iN P kt qm where
 oK:=fun b a w=>HM b 9999 hu a w
 eql:=fun a b w=>Jg _ hu a b w
 now:=⟨_,hu,.inl fun a b=>by simp only[Instr.sameNow,qm,bytes_beq]⟩
 bits:=fun a=>by
  show Instr.sameBits 10000 (.string ⟨a.toArray⟩) (.string ⟨a.toArray⟩)=true
  unfold Instr.sameBits
  show((⟨a.toArray⟩:ByteArray)==⟨a.toArray⟩)=true
  rw[bytes_beq]
  exact decide_eq_true rfl
variable {t:cn} {σ:cg} {o:Oper}
theorem GM{x y:Operand}{ty tz:TypeId}(ho:o.op= .binOp .neq ty x y tz)(hk:pr P ty=true)(hx:aG t x=some (.raw (.pointer none)))(hy:aG t y=some (.raw (.pointer none))):bE P σ t o (.raw (.bool false)):=by
 refine yd ho hx hy fun w=>?_
 unfold pr at hk
 split at hk
 ·rename_i e hu
  have key:∀d,(Op.equalIn (d+1) ty (.pointer none) (.pointer none)).run P w= .ok true w:=fun d=>by
   simp only[Op.equalIn,Sem.run_bind,run_underlying hu,Result.andThen_ok,Sem.run_pure,Option.isNone_none]
  have:=key 9999
  simp only[Nat.reduceAdd]at this
  simp[eqGuard,binOp,Op.equal,Op.maxDepth,this]
 ·cases hk
theorem H2{x y:Operand}{ty tz:TypeId}{xs:List PV}{k:Nat}(ho:o.op= .binOp .neq ty x y tz)(hk:pr P ty=true)(hx:aG t x=some (.bb xs k))(hy:aG t y=some (.raw (.pointer none))):bE P σ t o (.raw (.bool true)):=by
 intro F base E ρ w hρ _ hT
 have h1:=aA hρ hT hx
 have h2:=aA hρ hT hy
 generalize hz:ρ x=z at h1
 generalize hz':ρ y=z' at h2
 cases h2
 cases h1 with
 |bb b o' _ cs _ hb hM hc hl hr=>
  simp only[execOp,ho,hz,hz',Sem.run_bind,eqGuard,binOp,nc hk,Result.andThen_ok,Sem.run_pure]
  exact bA (.raw _)
end
open Net eY
section
variable {T:ak} {k x:Int} {d:Nat} {st:Nat→Int} {p0:dx}
theorem yx{p:dx}{s:List bV}{e:i6}(h:e.ax.length≤1000):(fA p s e).ax.length≤1000:=by
 unfold fA
 split
 ·split
  ·exact Nat.zero_le _
  ·exact h
 ·exact h
theorem A8{x:de}{p:dx}{s:List bV}{v:Int}{K:Out}(hx:cT T x=true)(hK:K.ax.length≤1000):(C8 T x p s v K).ax.length≤1000:=by
 unfold C8
 split
 ·rename_i h
  obtain⟨_,_,_,_,h3⟩:=km hx (Bool.and_eq_true _ _▸h).1
  exact yx h3
 ·exact hK
theorem sr{x:de}{p:dx}{s:List bV}{K:Out}(hx:cT T x=true)(hK:K.ax.length≤1000):(dy T x p s K).ax.length≤1000:=by
 unfold dy
 split
 ·exact Nat.zero_le _
 ·split
  ·exact Nat.zero_le _
  ·split
   ·exact A8 hx (Nat.zero_le _)
   ·split
    ·exact A8 hx hK
    ·split
     ·split
      ·exact Nat.zero_le _
      ·split
       ·exact hK
       ·show([_]:List Int).length≤1000;simp
     ·exact Nat.zero_le _
theorem pd(T:ak)(x:de)(p:dx):(dj T x p).ax.length≤1000:=by
 unfold dj
 split
 ·exact Nat.zero_le _
 ·rename_i h
  have hx:cT T x=true:=by
   cases h2:cT T x with
   |true=>rfl
   |false=>rw[h2]at h;simp at h
  split
  ·exact Nat.zero_le _
  ·exact sr hx (sr hx (Nat.zero_le _))
theorem CK{D:List Bool}(h12:T.nodes≤12)(h16:T.ae.length≤16){n:Nat}{l:List bV}{q:List Int}(h:sR T D d n l q):ij l:=by
 induction h with
 |nil=>intro g hg;cases hg
 |node hs _ ih=>
  intro g hg
  rcases List.mem_cons.1 hg with rfl|hg
  ·have:=hs.hy
   exact⟨by simp,by simp,by simp,by simp;omega⟩
  ·exact ih g hg
 |fu ha _ _ _ _ ih=>
  intro g hg
  rcases List.mem_cons.1 hg with rfl|hg
  ·exact⟨by simp,by simp,by simp,by simp;omega⟩
  ·exact ih g hg
theorem vX(h12:T.nodes≤12)(h16:T.ae.length≤16){n:Nat}{s:List bV}{q:List Int}(h:jZ T k x d n s q):ij s:=by
 obtain⟨D,_,hl⟩:=h.F1
 intro g hg
 rcases ye (h:=⟨1,(n:Int)⟩) hg with rfl|hg
 ·have:=h.node
  exact⟨by simp,by simp,by simp,by simp;omega⟩
 ·exact CK h12 h16 hl g hg
theorem xG(hv:aq T=true)(h12:T.nodes≤12)(h16:T.ae.length≤16)(hd:(d:Int)<T.nodes){late:Bool}(hcv:late=false→uD T k x=true)(hsafe:late=false→∀m:Nat,(m:Int)<T.nodes→¬Gn k x m→0≤dN T [] d m→0≤dN T (aF T k x) d m)
  (hpm:Perm T k x late st) (hp0:p0.dst=(d:Int)):iK T (s7 T (aF T k x) st) p0 (fun u n s=>Way T k x d late n s u) where
 node:=fun h=>by
  rcases h with⟨h,_⟩|⟨_,h,_⟩
  ·exact h.node
  ·exact h.node
 small:=fun h=>by
  rcases h with⟨h,_⟩|⟨_,h,_⟩
  ·rw[h.nil];exact⟨fun g hg=>(by cases hg),by simp⟩
  ·exact⟨vX h12 h16 h,by have:=h.len;omega⟩
 step:=fun {u n s} h=>by
  rcases ow hv h12 hd hcv hsafe hpm h (p:=cV p0 s) hp0 rfl rfl with⟨e1,e2,e3⟩|⟨ax,s',e1,e2,e3⟩
  ·exact .inl e2
  ·refine .inr ?_
   have e1':bL T (s7 T (aF T k x) st) p0 n s=cB (cV p0 s) s' ax:=e1
   refine⟨pd _ _ _,by rw[e1'];rfl,fun a ha=>?_⟩
   rw[e1']at ha ⊢
   obtain⟨b,m,g,u',hu,hw⟩:=e3 a ha
   exact⟨b,m,g.eq,g.fu,g.head,u',hu,hw⟩
end
theorem oW{α:Type}[DecidableEq α]:∀(l m:List α),l.Nodup→(∀a∈l,a∈m)→l.length≤m.length
 | [],m,_,_=>Nat.zero_le _
 |a::l,m,hn,h=>by
  have ha:=h a (by simp)
  rw[List.nodup_cons]at hn
  have h2:=oW l (m.erase a) hn.2 (fun b hb=>(List.mem_erase_of_ne (fun e=>hn.1 (by rw[←e];exact hb))).2 (h b (by simp[hb])))
  rw[List.length_erase_of_mem ha]at h2
  have:=List.length_pos_of_mem ha
  simp only[List.length_cons]
  omega
section
variable {T:ak} {k x:Int} {d:Nat} {st:Nat→Int} {p0:dx}
noncomputable def F9(T:ak)(tb:Nat→de)(p0:dx)(m a:Nat):Nat→Nat×List bV
 |0=>((aS T a).toNat,(bL T tb p0 m []).eo.stack)
 |j+1=>((aS T ((bL T tb p0 (F9 T tb p0 m a j).1 (F9 T tb p0 m a j).2).ax.getD 0 0).toNat).toNat,(bL T tb p0 (F9 T tb p0 m a j).1 (F9 T tb p0 m a j).2).eo.stack)
noncomputable def EL(T:ak)(tb:Nat→de)(p0:dx):List (Nat×List bV):=
 (List.range T.nodes.toNat).flatMap fun m=>(m,[])::(List.range (2*T.ae.length)).flatMap fun a=>(List.range (T.nodes.toNat+1)).map fun j=>F9 T tb p0 m a j
theorem pK{α β:Type}(f:α→List β)(c:Nat):∀(l:List α),(∀a∈l,(f a).length≤c)→(l.flatMap f).length≤l.length*c
 | [],_=>by simp
 |a::l,h=>by
  have h1:=h a (by simp)
  have h2:=pK f c l (fun b hb=>h b (by simp[hb]))
  rw[List.flatMap_cons,List.length_append,List.length_cons,Nat.succ_mul]
  omega
theorem DE(tb:Nat→de)(h12:T.nodes≤12)(h16:T.ae.length≤16):(EL T tb p0).length≤12*417:=by
 unfold EL
 refine Nat.le_trans (pK _ 417 _ fun m _=>?_) ?_
 ·rw[List.length_cons]
  have:=pK (fun a=>(List.range (T.nodes.toNat+1)).map fun j=>F9 T tb p0 m a j) 13 (List.range (2*T.ae.length)) (fun a _=>by simp;omega)
  rw[List.length_range]at this
  have h2:2*T.ae.length*13≤32*13:=Nat.mul_le_mul_right _ (by omega)
  omega
 ·rw[List.length_range]
  exact Nat.mul_le_mul_right _ (by omega)
def u6(T:ak)(k x:Int)(d:Nat)(st:Nat→Int)(p0:dx)(late:Bool)(u n:Nat)(s:List bV):Prop:=
 (Open T k x d n s∧u=if late then T.nodes.toNat+kj T (aF T k x) d n else 2*T.nodes.toNat+kj T [] d n)∨
  ∃(q:List Int) (m a j:Nat),jZ T k x d n s q∧u=q.length∧q.length<T.nodes.toNat∧(m:Int)<T.nodes∧a<2*T.ae.length∧j+q.length≤T.nodes.toNat∧F9 T (s7 T (aF T k x) st) p0 m a j=(n,s)
theorem u6.Iw{late:Bool}{u n:Nat}{s:List bV}(h:u6 T k x d st p0 late u n s):Way T k x d late n s u:=by
 rcases h with h|⟨q,_,_,_,h1,h2,h3,_⟩
 ·exact .inl h
 ·exact .inr ⟨q,h1,h2,h3⟩
theorem u6.mem{late:Bool}{u n:Nat}{s:List bV}(h:u6 T k x d st p0 late u n s):(n,s)∈EL T (s7 T (aF T k x) st) p0:=by
 unfold EL
 rcases h with⟨h,_⟩|⟨q,m,a,j,h1,_,_,h4,h5,h6,h7⟩
 ·have:=h.node
  rw[List.mem_flatMap]
  exact⟨n,List.mem_range.2 (by omega),by rw[h.nil];exact List.mem_cons_self⟩
 ·rw[List.mem_flatMap]
  refine⟨m,List.mem_range.2 (by omega),List.mem_cons_of_mem _ ?_⟩
  rw[List.mem_flatMap]
  refine⟨a,List.mem_range.2 h5,?_⟩
  rw[List.mem_map]
  exact⟨j,List.mem_range.2 (by omega),h7⟩
theorem ts(hv:aq T=true)(h12:T.nodes≤12)(h16:T.ae.length≤16)(hd:(d:Int)<T.nodes){late:Bool}(hcv:late=false→uD T k x=true)(hsafe:late=false→∀m:Nat,(m:Int)<T.nodes→¬Gn k x m→0≤dN T [] d m→0≤dN T (aF T k x) d m)
    (hpm:Perm T k x late st) (hp0:p0.dst=(d:Int)):iK T (s7 T (aF T k x) st) p0 (u6 T k x d st p0 late) where
  node:=fun h=>(xG hv h12 h16 hd hcv hsafe hpm hp0).node h.Iw
  small:=fun h=>(xG hv h12 h16 hd hcv hsafe hpm hp0).small h.Iw
  step := fun {u n s} h => by
    rcases h with⟨h,hu⟩|⟨q,m,a,j,h1,h2,h3,h4,h5,h6,h7⟩
    · rcases ow hv h12 hd hcv hsafe hpm (.inl ⟨h,hu⟩) (p:=cV p0 s) hp0 rfl rfl with⟨e1,e2,e3⟩|⟨ax,s',e1,e2,e3⟩
      · exact .inl e2
      · refine .inr ?_
        have e1':bL T (s7 T (aF T k x) st) p0 n s=cB (cV p0 s) s' ax:=e1
        refine⟨pd _ _ _,by rw[e1'];rfl,fun a ha=>?_⟩
        have ha2:=ha
        rw[e1']at ha
        obtain⟨b,m,g,u',hu',hw⟩:=e3 a ha
        refine⟨b,m,g.eq,g.fu,g.head,u',hu',?_⟩
        rcases hw with h8|⟨q,h8,h9,h10⟩
        · exact .inl (by rw[e1'];exact h8)
        · refine .inr ⟨q,n,b,0,by rw[e1'];exact h8,h9,h10,h.node,g.fu,by omega,?_⟩
          have hn:=h.nil
          subst hn
          simp only[F9]
          rw[g.head,Int.toNat_natCast]
    · cases q with
      |nil=>
        obtain⟨_,e2,_⟩:=rR hv h12 hd h1 (st n) (p:=cV p0 s) hp0 rfl
        exact .inl e2
      |cons c q=>
        obtain⟨b,m',s',g,e1,e2⟩:=qg hv h12 hd h1 (st n) (p:=cV p0 s) hp0 rfl rfl
        have e1':bL T (s7 T (aF T k x) st) p0 n s=cB (cV p0 s) s' [c]:=e1
        refine .inr ⟨pd _ _ _,by rw[e1'];rfl,fun c' hc=>?_⟩
        rw[e1']at hc
        have hc:c'∈[c]:=hc
        rw[List.mem_singleton]at hc
        subst hc
        simp only[List.length_cons]at h2 h3 h6
        refine⟨b,m',g.eq,g.fu,g.head,q.length,by omega,.inr ⟨q,m,a,j+1,by rw[e1'];exact e2,rfl,by omega,h4,h5,by omega,?_⟩⟩
        simp only[F9]
        rw[h7,e1']
        simp only[cB,List.getD_cons_zero]
        rw[g.eq,Int.toNat_natCast,g.head,Int.toNat_natCast]
end
abbrev F4:=List (Nat×Nat×List bV)
section
variable (T:ak) (tb:Nat→de) (p0:dx) (Φ:Nat→Nat→List bV→Prop)
def lQ(op:F4)(n:Nat)(s:List bV)(v:PV):Prop:=(∃c,Good T tb p0 Φ v n s c)∨∃i,(i,n,s)∈op∧v= .ptr (i+8) 0
structure nu (op:F4) (kv:List (List UInt8×PV)) (L:List PV):Prop where
 DJ:∀e∈kv,∃u n s,Φ u n s∧e.1=ev n s∧lQ T tb p0 Φ op n s e.2
 nodup:(kv.map (·.1)).Nodup
 all:∀v∈L,∃n s,lQ T tb p0 Φ op n s v
 len:L.length=kv.length
end
section
variable {T:ak} {tb:Nat→de} {p0:dx} {Φ:Nat→Nat→List bV→Prop}
theorem lQ.more{op:F4}{x:Nat×Nat×List bV}{n:Nat}{s:List bV}{v:PV}(h:lQ T tb p0 Φ op n s v):lQ T tb p0 Φ (x::op) n s v:=by
 rcases h with h|⟨i,h,e⟩
 ·exact .inl h
 ·exact .inr ⟨i,List.mem_cons_of_mem _ h,e⟩
theorem nu.push{op:F4}{kv:List (List UInt8×PV)}{L:List PV}(h:nu T tb p0 Φ op kv L){u n i:Nat}{s:List bV}(hΦ:Φ u n s)(hno:ev n s∉kv.map (·.1)):
  nu T tb p0 Φ ((i,n,s)::op) (kv++[(ev n s,.ptr (i+8) 0)]) (L++[.ptr (i+8) 0]) where
 DJ:=fun e he=>by
  rcases List.mem_append.1 he with he|he
  ·obtain⟨u,n,s,h1,h2,h3⟩:=h.DJ e he
   exact⟨u,n,s,h1,h2,h3.more⟩
  ·rw[List.mem_singleton]at he
   subst he
   exact⟨u,n,s,hΦ,rfl,.inr ⟨i,List.mem_cons_self,rfl⟩⟩
 nodup:=by
  rw[List.map_append,List.nodup_append]
  refine⟨h.nodup,by simp,fun a ha b hb e=>?_⟩
  subst e
  simp only[List.map_cons,List.map_nil,List.mem_singleton]at hb
  subst hb
  exact hno ha
 all:=fun v hv=>by
  rcases List.mem_append.1 hv with hv|hv
  ·obtain⟨n,s,h1⟩:=h.all v hv
   exact⟨n,s,h1.more⟩
  ·rw[List.mem_singleton]at hv
   subst hv
   exact⟨n,s,.inr ⟨i,List.mem_cons_self,rfl⟩⟩
 len:=by simp[h.len]
theorem v7{i:Nat}{blk:cK}{Q Q':PV→Prop}(h:∀v,Q v→∃v',AY i blk v v'∧Q' v'):∀L:List PV,(∀v∈L,Q v)→∃L',jK i blk L L'∧∀v∈L',Q' v
 | [],_=>⟨[],.nil,fun v hv=>by cases hv⟩
 |v::L,hL=>by
  obtain⟨v',h1,h2⟩:=h v (hL v (by simp))
  obtain⟨L',h3,h4⟩:=v7 h L (fun w hw=>hL w (by simp[hw]))
  exact⟨v'::L',.cons h1 h3,fun w hw=>by
   rcases List.mem_cons.1 hw with rfl|hw
   ·exact h2
   ·exact h4 w hw⟩
theorem Dx{i:Nat}{blk:cK}{Q Q':List UInt8→PV→Prop}(h:∀k v,Q k v→∃v',AY i blk v v'∧Q' k v'):∀kv:List (List UInt8×PV),(∀e∈kv,Q e.1 e.2)→∃kv':List (List UInt8×PV),kv'.map (·.1)=kv.map (·.1)∧jK i blk (kv.map (·.2)) (kv'.map (·.2))∧∀e∈kv',Q' e.1 e.2
 | [],_=>⟨[],rfl,.nil,fun v hv=>by cases hv⟩
 |e::L,hL=>by
  obtain⟨v',h1,h2⟩:=h e.1 e.2 (hL e (by simp))
  obtain⟨L',h3,h4,h5⟩:=Dx h L (fun w hw=>hL w (by simp[hw]))
  exact⟨(e.1,v')::L',by simp[h3],.cons h1 h4,fun w hw=>by
   rcases List.mem_cons.1 hw with rfl|hw
   ·exact h2
   ·exact h5 w hw⟩
theorem nu.close{op:F4}{i n:Nat}{s:List bV}{kv:List (List UInt8×PV)}{L:List PV}(h:nu T tb p0 Φ ((i,n,s)::op) kv L){ty:TypeId}{xs:List PV}{c:Int}(hg:Good T tb p0 Φ (.bb xs 0) n s c):
  ∃kv' L',nu T tb p0 Φ op kv' L'∧kv'.map (·.1)=kv.map (·.1)∧jK (i+8) (.cells ty xs) (kv.map (·.2)) (kv'.map (·.2))∧jK (i+8) (.cells ty xs) L L':=by
 have key:∀n1 s1 v,lQ T tb p0 Φ ((i,n,s)::op) n1 s1 v→∃v',AY (i+8) (.cells ty xs) v v'∧lQ T tb p0 Φ op n1 s1 v':=fun n1 s1 v hv=>by
  rcases hv with hv|⟨i1,h1,rfl⟩
  ·exact⟨v,.same _,.inl hv⟩
  ·rcases List.mem_cons.1 h1 with h1|h1
   ·cases h1
    exact⟨_,.ptr 0,.inl ⟨c,hg⟩⟩
   ·exact⟨_,.same _,.inr ⟨i1,h1,rfl⟩⟩
 obtain⟨kv',k1,k2,k3⟩:=Dx (i:=i+8) (blk:=.cells ty xs) (Q:=fun k v=>∃u n1 s1,Φ u n1 s1∧k=ev n1 s1∧lQ T tb p0 Φ ((i,n,s)::op) n1 s1 v) (Q':=fun k v=>∃u n1 s1,Φ u n1 s1∧k=ev n1 s1∧lQ T tb p0 Φ op n1 s1 v) (fun k v ⟨u,n1,s1,h1,h2,h3⟩=>by
  obtain⟨v',h4,h5⟩:=key n1 s1 v h3
  exact⟨v',h4,u,n1,s1,h1,h2,h5⟩) kv h.DJ
 obtain⟨L',l1,l2⟩:=v7 (i:=i+8) (blk:=.cells ty xs) (Q:=fun v=>∃n1 s1,lQ T tb p0 Φ ((i,n,s)::op) n1 s1 v) (Q':=fun v=>∃n1 s1,lQ T tb p0 Φ op n1 s1 v) (fun v ⟨n1,s1,h3⟩=>by
  obtain⟨v',h4,h5⟩:=key n1 s1 v h3
  exact⟨v',h4,n1,s1,h5⟩) L h.all
 refine⟨kv',L',⟨k3,by rw[k1];exact h.nodup,l2,?_⟩,k1,k2,l1⟩
 have:=congrArg List.length k1
 simp only[List.length_map]at this
 rw[l1.1,h.len,this]
theorem nu.JM(R:iK T tb p0 Φ)(h12:T.nodes≤12){U:List (Nat×List bV)}(hU:∀ {u n s},Φ u n s→(n,s)∈U){op:F4}{kv:List (List UInt8×PV)}{L:List PV}(h:nu T tb p0 Φ op kv L):kv.length≤U.length:=by
 have key:∀kv:List (List UInt8×PV),(∀e∈kv,∃u n s,Φ u n s∧e.1=ev n s)→∃sts:List (Nat×List bV),sts.map (fun x=>ev x.1 x.2)=kv.map (·.1)∧∀x∈sts,x∈U:=fun kv=>by
  induction kv with
  |nil=>intro _;exact⟨[],rfl,fun x hx=>by cases hx⟩
  |cons e kv ih=>
   intro he
   obtain⟨u,n,s,h1,h2⟩:=he e (by simp)
   obtain⟨sts,h3,h4⟩:=ih (fun e h=>he e (by simp[h]))
   exact⟨(n,s)::sts,by simp[h3,h2],fun x hx=>by
    rcases List.mem_cons.1 hx with rfl|hx
    ·exact hU h1
    ·exact h4 x hx⟩
 obtain⟨sts,h1,h2⟩:=key kv (fun e he=>by
  obtain⟨u,n,s,h1,h2,_⟩:=h.DJ e he
  exact⟨u,n,s,h1,h2⟩)
 have hn:=h.nodup
 rw[←h1]at hn
 have hnd:sts.Nodup:=by
  unfold List.Nodup at hn ⊢
  rw[List.pairwise_map]at hn
  exact hn.imp fun hab e=>hab (by rw[e])
 have:=oW sts U hnd h2
 have h3:=congrArg List.length h1
 simp only[List.length_map]at h3
 omega
theorem nu.Dg(R:iK T tb p0 Φ)(h12:T.nodes≤12){op:F4}{kv:List (List UInt8×PV)}{L:List PV}(h:nu T tb p0 Φ op kv L){u n:Nat}{s:List bV}(hΦ:Φ u n s)(hop:∀x∈op,Da T tb p0 x.2.1 x.2.2 n s){v:PV}(hv:dF (ev n s) kv=some v):∃c,Good T tb p0 Φ v n s c:=by
 obtain⟨u1,n1,s1,h1,h2,h3⟩:=h.DJ _ (jj hv)
 have a1:=R.node h1
 have a2:=R.node hΦ
 obtain⟨rfl,rfl⟩:=Fu (by omega) (by omega) (R.small hΦ).1 (R.small h1).1 h2
 rcases h3 with h3|⟨i,h4,_⟩
 ·exact h3
 ·exact(R.wA (hop _ h4) h1).elim
theorem th{κ:Type}[DecidableEq κ]{k:κ}:∀ {l:List (κ×PV)},dF k l=none→k∉l.map (·.1)
 | [],_=>by simp
 |(a,q)::l,h=>by
  simp only[dF]at h
  split at h
  ·cases h
  ·rename_i hne
   rw[List.map_cons,List.mem_cons]
   rintro(e|e)
   ·exact hne e
   ·exact th h e
theorem nT{κ:Type}[DecidableEq κ]{k:κ}{p:PV}:∀ {l:List (κ×PV)},dF k l=none→iL k p l=l++[(k,p)]
 | [],_=>rfl
 |(a,q)::l,h=>by
  simp only[dF]at h
  split at h
  ·cases h
  ·rename_i hne
   simp only[iL]
   rw[if_neg hne,nT h]
   rfl
end
end
end PW
end Go.Proofs.YtnegbdpggideiaaGreatDoor
