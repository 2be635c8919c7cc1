/- Texts of the proof, part 12. -/
import Derived.RangeFuncBox
import Derived.Lib.ItoaNum
import Derived.Laws.StructEq
import Derived.Test.YtnegbdpggideiaaGreatDoorCardMMB11
set_option linter.unusedVariables false
set_option linter.unusedSimpArgs false
set_option maxRecDepth 10000
set_option maxHeartbeats 1000000
namespace Go.Proofs.YtnegbdpggideiaaGreatDoor
namespace PW
open Go.RowKit cB Mem Net eW
def qg(T:ai)(k x k' x':Int)(m:Nat):Bool:=(List.range m).all fun a=> !cA k x T.af (a / 2)||cA k' x' T.af (a / 2)
def rR(T:ai)(k x k' x':Int):Bool:=qg T k x k' x' (2*T.af.length)
theorem yC(T:ai)(k x k' x':Int)(m:Nat):qg T k x k' x' (m+1)=(qg T k x k' x' m&&(!cA k x T.af (m / 2)||cA k' x' T.af (m / 2))):=by simp[qg,List.range_succ]
theorem lS{p:Nat→Bool}{m n:Nat}(h:((List.range m).all p)=false)(hmn:m≤n):((List.range n).all p)=false:=by
 rw[Bool.eq_false_iff]at h ⊢
 intro h'
 refine h (List.all_eq_true.2 fun a ha=>List.all_eq_true.1 h' a (List.mem_range.2 ?_))
 have:=List.mem_range.1 ha
 omega
theorem En(T:ai)(k x k' x':Int)(h1:(ao T&&bV T k x)=true)(h2:(ao T&&bV T k' x')=true):Can Tryz.prog 133 [aP T,bU k x,bU k' x'] (· =flag (rR T k x k' x')):=by
 have hll:=bO (Bool.and_eq_true_iff.1 h1).1
 refine aE Tryz.func133 rfl Tryz.ntmps133 rfl<|ab (.a 4 rfl<|.k [3,4,5] rfl)<|aj<|bp 17 (.raw (.bool (false))) [3,4,5] rfl ?_ ?_
 ·exact .a 2 rfl<|.c rfl (h1▸gr T k x) rfl<|.a 4 rfl<|.c rfl (h2▸gr T k' x') rfl<|.a 2 rfl<|.k [17,3,4,5] rfl
 refine ah rfl (fun h=>?_) (fun h=>?_)
 ·exact absurd h (by decide)
 ·clear h
  refine ak<|aj<|ab (.a 1 rfl<|.k [3,4,5,7] rfl)<|av<|ft [3,4,5,7] rfl<|br (fun r st=>∃m,m≤2*T.af.length∧r=2*T.af.length - m∧qg T k x k' x' m=true∧st=⟨[(3,.aX (bx T) 0),(4,.aX (cj k x) 0),(5,.aX (cj k' x') 0),(7,num m)],[]⟩) (2*T.af.length) ⟨0,by omega,by omega,rfl,rfl⟩ ?_
  rintro r st ⟨m,hm,rfl,hw,rfl⟩
  refine aj<|ab (.a 4 rfl<|.v (aS rfl (hc:=rfl)) rfl<|.a 1 rfl<|.k [3,4,5,7,23] rfl)<|ah rfl (fun h3=>?_) (fun h3=>?_)
  ·have hlt:m<2*T.af.length:=by have:=tt h3;omega
   have hst:=yC T k x k' x' m
   obtain⟨q1,hq1⟩:∃q,cA k x T.af (m / 2)=q:=⟨_,rfl⟩
   obtain⟨q2,hq2⟩:∃q,cA k' x' T.af (m / 2)=q:=⟨_,rfl⟩
   rw[hw,hq1,hq2]at hst
   refine ak<|aj<|av<|bp 36 (.raw (.bool (q1&& !q2))) [3,4,5,7] rfl ?_ ?_
   ·refine .a 3 rfl<|.c rfl (hq1▸tA T k x m hlt hll) rfl<|.a 1 rfl<|?_
    cases q1
    ·exact .a 6 rfl<|.k [36,3,4,5,7] rfl
    ·exact .a 3 rfl<|.c rfl (hq2▸tA T k' x' m hlt hll) rfl<|.a 2 rfl<|.k [36,3,4,5,7] rfl
   refine ah rfl (fun h4=>?_) (fun h4=>?_)
   ·obtain⟨e1,e2⟩:=Bool.and_eq_true_iff.1 h4
    have e2:q2=false:=by simpa using e2
    rw[e1,e2]at hst
    have hf:rR T k x k' x'=false:=lS hst (by omega)
    rw[hf]
    exact ab (.a 1 rfl<|.k [6] rfl)<|aq<|⟨_,_,ay.of rfl,aB.pure,rfl⟩
   ·have hw2:qg T k x k' x' (m+1)=true:=by rw[hst];cases q1<;>cases q2<;>first|rfl|cases h4
    refine ak<|az (.a 1 rfl<|.v (aS rfl) rfl<|.a 1 rfl<|.k [3,4,5,7] rfl) ?_
    exact⟨2*T.af.length - (m+1),by omega,m+1,by omega,rfl,hw2,rfl⟩
  ·have hme:m=2*T.af.length:=by have:=ff h3;omega
   subst hme
   have hw:rR T k x k' x'=true:=hw
   rw[hw]
   exact bg<|ab (.a 1 rfl<|.k [6] rfl)<|aq<|⟨_,_,ay.of rfl,aB.pure,rfl⟩
noncomputable def EG(T:ai)(M:List Bool)(k x:Int)(a j:Nat):Bool:=(List.range j).all fun(d:Nat)=> !gg T M (bb T a) d||rR T k x (da T a d).1 (da T a d).2
noncomputable def Iw(T:ai)(M:List Bool)(k x:Int)(a:Nat):Bool:=(!aM M a||(decide (k=2)&&decide (bb T a=x)))||EG T M k x a T.nodes.toNat
noncomputable def tT(T:ai)(k x:Int)(m:Nat):Bool:=(List.range m).all fun a=>Iw T (aG T k x) k x a
noncomputable def xa(T:ai)(k x:Int):Bool:=(ao T&&bV T k x)&&tT T k x (2*T.af.length)
theorem D8(T:ai)(M:List Bool)(k x:Int)(a j:Nat):EG T M k x a (j+1)=(EG T M k x a j&&(!gg T M (bb T a) j||rR T k x (da T a j).1 (da T a j).2)):=by simp[EG,List.range_succ]
theorem sQ(T:ai)(k x:Int)(m:Nat):tT T k x (m+1)=(tT T k x m&&Iw T (aG T k x) k x m):=by simp[tT,List.range_succ]
theorem IT{T:ai}{k x:Int}{m:Nat}(hm:(ao T&&bV T k x)=true)(h:tT T k x m=true)(hlt:m<2*T.af.length)(ha:Iw T (aG T k x) k x m=false):xa T k x=false:=by
 unfold xa
 rw[hm,Bool.true_and]
 refine lS (m:=m+1) ?_ (by omega)
 have:=sQ T k x m
 rw[h,ha]at this
 exact this
theorem Cb(T:ai)(k x:Int):Can Tryz.prog 85 [aP T,bU k x] (· =flag (xa T k x)):=by
 obtain⟨q0,hq0⟩:∃q,(ao T&&bV T k x)=q:=⟨_,rfl⟩
 have hmk:=lL T k x
 unfold iu dL at hmk
 refine aE Tryz.func85 rfl Tryz.ntmps85 rfl<|ab (.a 3 rfl<|.k [2,3] rfl)<|aj<|ab (.a 2 rfl<|.c rfl (hq0▸gr T k x) rfl<|.a 1 rfl<|.k [2,3,15] rfl)<|ah rfl (fun h1=>?_) (fun h1=>?_)
 ·have h1:q0=false:=by simpa using h1
  have he:xa T k x=false:=by unfold xa;rw[hq0,h1];rfl
  rw[he]
  exact ab (.a 1 rfl<|.k [4] rfl)<|aq<|⟨_,_,ay.of rfl,aB.pure,rfl⟩
 ·have h1:q0=true:=by simpa using h1
  subst h1
  obtain⟨hv,hc⟩:=Bool.and_eq_true_iff.1 hq0
  have hll:=bO hv
  have hN:=(aK hv).nodes
  rw[if_pos hq0,if_pos rfl]at hmk
  have hMl:=eN T k x
  have hstep:=fun m=>sQ T k x m
  have hno:=fun m=>IT (m:=m) hq0
  obtain⟨M,hM⟩:∃M,aG T k x=M:=⟨_,rfl⟩
  rw[hM]at hmk hMl
  simp only[hM]at hstep hno
  obtain⟨N,hNN⟩:∃N:Nat,T.nodes=(N:Int):=⟨T.nodes.toNat,by omega⟩
  have hNt:T.nodes.toNat=N:=by omega
  refine ak<|ab (.a 2 rfl<|.c rfl (hmk) rfl<|.a 5 rfl<|.k [2,3,5] rfl)<|aj<|ab (.a 1 rfl<|.k [2,3,5,7] rfl)<|av<|ft [2,3,5,7] rfl<|br (fun r st=>∃m,m≤2*T.af.length∧r=2*T.af.length - m∧tT T k x m=true∧st=⟨[(2,.aX (bx T) 0),(3,.aX (cj k x) 0),(5,aY M),(7,num m)],[]⟩) (2*T.af.length) ⟨0,by omega,by omega,rfl,rfl⟩ ?_
  rintro r st ⟨m,hm,rfl,hw,rfl⟩
  refine aj<|ab (.a 4 rfl<|.k [2,3,5,7,25] rfl)<|ah rfl (fun h3=>?_) (fun h3=>?_)
  ·have hlt:m<2*T.af.length:=by have:=tt h3;omega
   have hst:=hstep m
   rw[hw,Bool.true_and]at hst
   obtain⟨n,hn⟩:=Int.eq_ofNat_of_zero_le ((aK hv).tail m hlt).1
   obtain⟨q1,hq1⟩:∃q,aM M m=q:=⟨_,rfl⟩
   obtain⟨q2,hq2⟩:∃q,decide (k=2)=q:=⟨_,rfl⟩
   obtain⟨q3,hq3⟩:∃q,decide (bb T m=x)=q:=⟨_,rfl⟩
   have hA:Iw T M k x m=((!q1 ||(q2&&q3))||EG T M k x m N):=by unfold Iw;rw[hq1,hq2,hq3,hNt]
   clear h3
   refine ak<|aj<|av<|ab (.a 2 rfl<|.c rfl (gC T hv m hlt) rfl<|.a 1 rfl<|.k [2,3,5,7,8] rfl)<|aj<|bp 46 (.raw (.bool ((!q1)||(q2&&q3)))) [2,3,5,7,8] rfl ?_ ?_
   ·refine .a 2 rfl<|.v (aL (m) rfl) rfl<|.v (aN rfl ((show(bQ M)[m]? =some (flag q1) by rw[cV _ m (by omega),eO,hq1]))) rfl<|.a 2 rfl<|?_
    cases q1
    ·exact .a 10 rfl<|.k [46,2,3,5,7,8] rfl
    ·refine .a 2 rfl<|.v (cb rfl (hq2)) rfl<|.a 1 rfl<|?_
     cases q2
     ·exact .a 6 rfl<|.k [46,2,3,5,7,8] rfl
     ·exact .a 3 rfl<|.v (cb rfl (hq3)) rfl<|.a 2 rfl<|.k [46,2,3,5,7,8] rfl
   refine ah rfl (fun h4=>?_) (fun h4=>?_)
   ·have hcv:tT T k x (m+1)=true:=by rw[hst,hA,h4];rfl
    refine bg<|az (.a 1 rfl<|.v (aS rfl) rfl<|.a 1 rfl<|.k [2,3,5,7] rfl) ?_
    exact⟨2*T.af.length - (m+1),by omega,m+1,by omega,rfl,hcv,rfl⟩
   ·rw[h4,Bool.false_or]at hA
    refine ak<|ab (.a 1 rfl<|.k [2,3,5,7,8,9] rfl)<|av<|ft [2,3,5,7,8,9] rfl<|br (fun r st=>∃j,j≤N∧r=N - j∧EG T M k x m j=true∧st=⟨[(2,.aX (bx T) 0),(3,.aX (cj k x) 0),(5,aY M),(7,num m),(8,num (bb T m)),(9,num j)],[]⟩) N ⟨0,by omega,by omega,rfl,rfl⟩ ?_
    rintro r st ⟨j,hj,rfl,hd,rfl⟩
    refine aj<|ab (.a 2 rfl<|.v (aN rfl ((show some (num T.nodes)=some (num (N:Int)) by rw[hNN]))) rfl<|.a 1 rfl<|.k [2,3,5,7,8,9,50] rfl)<|ah rfl (fun h5=>?_) (fun h5=>?_)
    ·have hjl:j<N:=by have:=tt h5;omega
     have hds:=D8 T M k x m j
     rw[hd,Bool.true_and]at hds
     have hcm:(ao T&&bV T (da T m j).1 (da T m j).2)=true:=by rw[hv,uY hv hlt];rfl
     have hcn:=A6 T m j hv hlt ⟨by omega,by omega⟩
     have hwn:=En T k x (da T m j).1 (da T m j).2 hq0 hcm
     generalize da T m (j:Int)=cx at*
     obtain⟨ck,cy⟩:=cx
     simp only at hcm hcn hwn hds
     obtain⟨r1,hr1⟩:∃q,gg T M (bb T m) j=q:=⟨_,rfl⟩
     obtain⟨r2,hr2⟩:∃q,rR T k x ck cy=q:=⟨_,rfl⟩
     have hrr:=mG T M (bb T m) j
     rw[hr1]at hds hrr
     rw[hr2]at hds hwn
     refine ak<|aj<|av<|aj<|ab (.a 4 rfl<|.c rfl (hrr) rfl<|.a 1 rfl<|.k [2,3,5,7,8,9,58] rfl)<|ah rfl (fun h6=>?_) (fun h6=>?_)
     ·have h6:r1=false:=by simpa using h6
      have hd2:EG T M k x m (j+1)=true:=by rw[hds,h6];rfl
      refine bg<|az (.a 1 rfl<|.v (aS rfl) rfl<|.a 1 rfl<|.k [2,3,5,7,8,9] rfl) ?_
      exact⟨N - (j+1),by omega,j+1,by omega,rfl,hd2,rfl⟩
     ·have h6:r1=true:=by simpa using h6
      rw[h6]at hds
      refine ak<|aQ<|au 3 rfl<|eA rfl (hcn) rfl<|au 6 rfl<|aH [2,3,5,7,8,9,10] rfl ?_
      refine ab (.a 3 rfl<|.c rfl (hwn) rfl<|.a 1 rfl<|.k [2,3,5,7,8,9,70] rfl)<|ah rfl (fun h7=>?_) (fun h7=>?_)
      ·have h7:r2=false:=by simpa using h7
       rw[h7]at hds
       have hf:xa T k x=false:=hno m hw hlt (by rw[hA];exact lS hds (by omega))
       rw[hf]
       exact ab (.a 1 rfl<|.k [4] rfl)<|aq<|⟨_,_,ay.of rfl,aB.pure,rfl⟩
      ·have h7:r2=true:=by simpa using h7
       have hd2:EG T M k x m (j+1)=true:=by rw[hds,h7];rfl
       refine cZ [] (.c 2<|.c 3<|.c 5<|.c 7<|.c 8<|.c 9<|.nil) .nil rfl rfl ?_
       refine ak<|az (.a 1 rfl<|.v (aS rfl) rfl<|.a 1 rfl<|.k [2,3,5,7,8,9] rfl) ?_
       exact⟨N - (j+1),by omega,j+1,by omega,rfl,hd2,rfl⟩
    ·have hje:j=N:=by have:=ff h5;omega
     subst hje
     have hcv:tT T k x (m+1)=true:=by rw[hst,hA,hd]
     refine bg<|az (.a 1 rfl<|.v (aS rfl) rfl<|.a 1 rfl<|.k [2,3,5,7] rfl) ?_
     exact⟨2*T.af.length - (m+1),by omega,m+1,by omega,rfl,hcv,rfl⟩
  ·have hme:m=2*T.af.length:=by have:=ff h3;omega
   subst hme
   have hf:xa T k x=true:=by unfold xa;rw[hq0,hw];rfl
   rw[hf]
   exact bg<|ab (.a 1 rfl<|.k [4] rfl)<|aq<|⟨_,_,ay.of rfl,aB.pure,rfl⟩
end PW
end Go.Proofs.YtnegbdpggideiaaGreatDoor
namespace Go.Proofs.YtnegbdpggideiaaGreatDoor
namespace PW
open Go.RowKit Go.Shelf cB Mem Net eW
attribute [local go_sem] Oper.semAt_some
theorem yo(T:ai)(k x:Int):Can Tryz.prog 65 [aP T,bU k x] (· =flag (ao T&&bV T k x)):=by
 obtain⟨q1,hq1⟩:∃q,ao T=q:=⟨_,rfl⟩
 obtain⟨q2,hq2⟩:∃q,bV T k x=q:=⟨_,rfl⟩
 rw[hq1,hq2]
 refine aE Tryz.func65 rfl Tryz.ntmps65 rfl<|ab (.a 3 rfl<|.k [2,3] rfl)<|bp 4 (.raw (.bool (q1&&q2))) [] rfl ?_ ?_
 ·refine .a 1 rfl<|.c rfl (hq1▸eh T) rfl<|.a 1 rfl<|?_
  cases q1
  ·exact .a 5 rfl<|.k [4] rfl
  ·exact .a 2 rfl<|.c rfl (hq2▸kU T k x) rfl<|.a 2 rfl<|.k [4] rfl
 exact aq<|⟨_,_,ay.of rfl,aB.pure,rfl⟩
end PW
end Go.Proofs.YtnegbdpggideiaaGreatDoor
namespace Go.Proofs.YtnegbdpggideiaaGreatDoor
namespace PW
open Go.RowKit cB Mem Net eW
abbrev JB(p:Int×Int):Value:=.agg (po p)
theorem nS{T:ai}{k x:Int}{a:Nat}(ha:a<2*T.af.length):aM (aG T k x) a=cA k x T.af (a / 2):=by
 rw[←eO]
 unfold aG
 simp[ha]
def CT(T:ai)(k x:Int)(l:List ((Int×Int)×PV)):Prop:=∀c v,(c,v)∈l→v=flag (rR T k x c.1 c.2)
theorem CT.pure{T:ai}{k x:Int}{l:List ((Int×Int)×PV)}(h:CT T k x l):aJ ((fM JB l).map (·.2)):=⟨fun i u hu=>by
 have hm:=List.mem_of_getElem? hu
 simp only[fM,List.map_map,List.mem_map]at hm
 obtain⟨a,ha,rfl⟩:=hm
 have:=h a.1 a.2 ha
 show IsPure a.2
 rw[this]
 infer_instance⟩
theorem CT.set{T:ai}{k x:Int}{l:List ((Int×Int)×PV)}(h:CT T k x l)(c:Int×Int):CT T k x (ic c (flag (rR T k x c.1 c.2)) l):=fun c' v hm=>by
 rcases qU hm with e|e
 ·cases e;rfl
 ·exact h c' v e
end PW
end Go.Proofs.YtnegbdpggideiaaGreatDoor
namespace Go.Proofs.YtnegbdpggideiaaGreatDoor
namespace PW
open Go.RowKit cB Mem Net eW
end PW
end Go.Proofs.YtnegbdpggideiaaGreatDoor
namespace Go.Proofs.YtnegbdpggideiaaGreatDoor
namespace PW
open Go.RowKit cB Mem Net eW
end PW
end Go.Proofs.YtnegbdpggideiaaGreatDoor
namespace Go.Proofs.YtnegbdpggideiaaGreatDoor
namespace PW
open Go.RowKit cB Mem Net eW
section
variable {T:ai}
theorem Ch.last{D:List Bool}{d n:Nat}{p:List Int}(h:Ch T D d n p):n≠d→∃a,a<2*T.af.length∧aM D a=false∧aT T a=(d:Int):=by
 induction h with
 |nil=>intro h;exact absurd rfl h
 | @cons n a m p h1 h2 h3 h4 _ _ ih=>
  intro _
  by_cases e:m=d
  ·subst e;exact⟨a,h1,h3,h4⟩
  ·exact ih e
theorem ES(a:Nat):(bb T a=(cu T.af (a / 2)).a∧aT T a=(cu T.af (a / 2)).b)∨(bb T a=(cu T.af (a / 2)).b∧aT T a=(cu T.af (a / 2)).a):=by
 unfold aT bb Net.flip
 by_cases h:a % 2=0
 ·rw[if_pos h,if_pos h,if_neg (by omega),show(a+1) / 2=a / 2 by omega]
  exact .inl ⟨rfl,rfl⟩
 ·rw[if_neg h,if_neg h,if_pos (by omega),show(a - 1) / 2=a / 2 by omega]
  exact .inr ⟨rfl,rfl⟩
theorem JE{x:Int}{i:Nat}:cA 1 x T.af i=decide ((i:Int)=x):=by simp[cA]
theorem JL{x:Int}{i:Nat}:cA 2 x T.af i=(decide ((cu T.af i).a=x)||decide ((cu T.af i).b=x)):=by simp[cA]
end
end PW
end Go.Proofs.YtnegbdpggideiaaGreatDoor
namespace Go.Proofs.YtnegbdpggideiaaGreatDoor
namespace PW
open Go.RowKit cB Mem Net eW
section
variable {T:ai} {M D:List Bool} {n d:Nat}
theorem oB{x:ee}{d:Nat}{e:iC}(h:x.fq[d]? =some e):dy x (d:Int)=e:=by
 unfold dy
 rw[Int.toNat_natCast]
 exact lQ _ _ _ h
theorem oQ(hd:(d:Int)<T.nodes):dy (dE T D n) (d:Int)=⟨bz T D n d,false,[]⟩:=oB (FB (by omega))
theorem yg(hd:(d:Int)<T.nodes):dy (uu T D n) (d:Int)=jB T D n d:=oB (vJ (by omega))
theorem yB(hd:(d:Int)<T.nodes):dy (rH T M n) (d:Int)=mM T (fE T M n) n d:=oB (wH (by omega))
noncomputable def eX(T:ai)(M:List Bool)(s:Int)(n:Nat):ee:=if s=0 then dE T [] n else if s=1 then rH T M n else if s=2 then uu T M n else dE T M n
theorem tB{E:List Bool}{a:Nat}{l:List Int}(h:(a:Int)∈cF E l):aM E a=true:=by
 have:=(List.mem_filter.1 h).2
 rwa [Int.toNat_natCast]at this
theorem o8(hv:ao T=true)(hn:(n:Int)<T.nodes){E:List Bool}(hf:bP T E=true)(hE:∀a,aM D a=false→aM E a=false):Fm T D n (dE T E n) where
 ok:=ky hv hn
 node:=rfl
 down:=fun a ha=>by
  have:=tB ha
  cases h:aM D a with
  |true=>rfl
  |false=>rw[hE a h]at this;cases this
 IL:=fun y p hs=>by
  rw[oQ hs.hy]
  exact⟨(hs.Hi hf hE).D1.2.1,fun h=>by cases h⟩
theorem nx(hv:ao T=true)(h12:T.nodes≤12)(hn:(n:Int)<T.nodes)(hf:bP T M=true)(hM:∀a,aM D a=false→aM M a=false)(s:Int):Fm T D n (eX T M s n):=by
  unfold eX
  split
  · exact o8 hv hn (j8 T) (fun a _=>by simp[aM])
  · split
    · refine ⟨oN hv h12 hn, rfl, fun a ha => ?_, fun y p hs => ?_⟩
      · have:=tB ha
        cases h:aM D a with
        |true=>rfl
        |false=>rw[hM a h]at this;cases this
      · rw[yB hs.hy]
        have h1:=hs.D1.1
        unfold mM
        have hno:kK (fE T M n) (bz T [] n y)=none:=by
          cases hh:kK (fE T M n) (bz T [] n y)with
          |none=>rfl
          |some a=>
            obtain⟨h2,h3⟩:=vN hh
            rw[h1,List.mem_singleton]at h2
            subst h2
            obtain⟨p0,pt,rfl⟩:∃p0 pt,p=p0::pt:=by
              cases p with
              |nil=>exact absurd hs.pos (by simp)
              |cons p0 pt=>exact⟨p0,pt,rfl⟩
            have h4:=hM _ (hs.up p0 (by simp))
            rw[nD]at h3
            simp only[List.getD_cons_zero,Bool.and_eq_true]at h3
            rw[h4]at h3
            exact absurd h3.2.1 (by decide)
        rw[hno]
        exact⟨h1,fun h=>by cases h⟩
    · split
      · refine⟨oI hv h12 hn,rfl,fun a ha=>?_,fun y p hs=>?_⟩
        · have:=tB ha
          cases h:aM D a with
          |true=>rfl
          |false=>rw[hM a h]at this;cases this
        · rw[yg hs.hy,(hs.Hi hf hM).D1.2.2]
          exact⟨rfl,fun _=>rfl⟩
      · exact o8 hv hn hf hM
theorem zn{D':List Bool}(hv:ao T=true)(hd:(d:Int)<T.nodes)(hD:∀a,aM D a=aM D' a):dN T D d n=dN T D' d n:=by
 unfold dN
 rw[As hv hd false hD]
theorem ym{k x:Int}(hv:ao T=true)(hcv:xa T k x=true)(hn:(n:Int)<T.nodes)(hd:(d:Int)<T.nodes)(hg:¬(k=2∧x=(n:Int)))(hr:0≤dN T (aG T k x) d n){a:Nat}(DV:aM (fE T (aG T k x) n) a=true):
  (∀b,aM (o4 T (fE T (aG T k x) n) n d a) b=false→aM (aG T k x) b=false)∧0≤dN T (o4 T (fE T (aG T k x) n) n d a) d n∧∀b,aM (o4 T (fE T (aG T k x) n) n d a) b=aM (aG T (da T a d).1 (da T a d).2) b:=by
 rw[nD]at DV
 simp only[Bool.and_eq_true,decide_eq_true_eq]at DV
 obtain⟨ha,hdn,ht⟩:=DV
 have hrb:gg T (aG T k x) (n:Int) d=true:=(lX hv (di T k x) hn hd).2 hr
 have hw:rR T k x (da T a d).1 (da T a d).2=true:=by
  unfold xa tT at hcv
  have h1:=List.all_eq_true.1 (Bool.and_eq_true_iff.1 hcv).2 a (List.mem_range.2 ha)
  unfold Iw at h1
  rw[hdn,ht]at h1
  have h2:(decide (k=2)&&decide ((n:Int)=x))=false:=by
   rw[Bool.eq_false_iff]
   intro h
   obtain⟨h3,h4⟩:=Bool.and_eq_true_iff.1 h
   exact hg ⟨of_decide_eq_true h3,(of_decide_eq_true h4).symm⟩
  rw[h2]at h1
  have h3:EG T (aG T k x) k x a T.nodes.toNat=true:=h1
  unfold EG at h3
  have h4:=List.all_eq_true.1 h3 d (List.mem_range.2 (by omega))
  rw[ht,hrb]at h4
  exact h4
 have hin:∀b,aM (aG T k x) b=true→aM (aG T (da T a d).1 (da T a d).2) b=true:=fun b hb=>by
  have hbl:b<2*T.af.length:=by
   rcases Nat.lt_or_ge b (2*T.af.length)with h|h
   ·exact h
   ·rw[←eO,List.getD_eq_getElem?_getD,List.getElem?_eq_none (by rw[eN];omega)]at hb
    cases hb
  rw[nS hbl]at hb ⊢
  unfold rR qg at hw
  have:=List.all_eq_true.1 hw b (List.mem_range.2 hbl)
  rw[hb]at this
  simpa using this
 have hrm:gg T (aG T (da T a d).1 (da T a d).2) (n:Int) d=true:=by
  have hF:=ht
  unfold da
  split
  ·rename_i h;rw[ht]at h;exact(Bool.and_eq_true_iff.1 h).2
  ·split
   ·rename_i h;rw[ht]at h;exact(Bool.and_eq_true_iff.1 h).2
   ·rename_i h1 h2
    have he:da T a d=(1,((a / 2:Nat):Int)):=by unfold da;rw[if_neg h1,if_neg h2]
    rw[he]at hin
    rw[lX hv (di T _ _) hn hd]
    rw[←zn (D:=aG T k x) hv hd (fun b=>?_)]
    ·exact hr
    ·cases hb:aM (aG T k x) b with
     |true=>exact(hin b hb).symm
     |false=>
      symm
      by_cases hbl:b<2*T.af.length
      ·rw[nS hbl]at hb ⊢
       rw[JE]
       refine decide_eq_false fun e=>?_
       have e:b / 2=a / 2:=by omega
       rw[nS ha,←e,hb]at hdn
       cases hdn
      ·rw[←eO,List.getD_eq_getElem?_getD,List.getElem?_eq_none (by rw[eN];omega)]
       rfl
 have heq:∀b,aM (orM T (aG T (da T a d).1 (da T a d).2) (fE T (aG T k x) n)) b=aM (aG T (da T a d).1 (da T a d).2) b:=fun b=>by
  rw[Gy]
  by_cases hbl:b<2*T.af.length
  ·rw[decide_eq_true hbl,Bool.true_and,nD,decide_eq_true hbl,Bool.true_and]
   cases h1:aM (aG T (da T a d).1 (da T a d).2) b with
   |true=>rfl
   |false=>
    cases h2:aM (aG T k x) b with
    |true=>rw[hin b h2]at h1;cases h1
    |false=>rfl
  ·rw[decide_eq_false hbl,Bool.false_and,←eO,List.getD_eq_getElem?_getD,List.getElem?_eq_none (by rw[eN];omega)]
   rfl
 have hro:gg T (orM T (aG T (da T a d).1 (da T a d).2) (fE T (aG T k x) n)) (n:Int) d=true:=by
  rw[lX hv (tE T _ _) hn hd,zn hv hd heq,←lX hv (di T _ _) hn hd]
  exact hrm
 have hmix:o4 T (fE T (aG T k x) n) n d a=orM T (aG T (da T a d).1 (da T a d).2) (fE T (aG T k x) n):=by
  unfold o4
  rw[if_pos hro]
 rw[hmix]
 refine⟨fun b hb=>?_,(lX hv (tE T _ _) hn hd).1 hro,heq⟩
 rw[heq]at hb
 cases h:aM (aG T k x) b with
 |false=>rfl
 |true=>rw[hin b h]at hb;cases hb
end
end PW
end Go.Proofs.YtnegbdpggideiaaGreatDoor
namespace Go.Proofs.YtnegbdpggideiaaGreatDoor
namespace PW
open Go.RowKit cB Mem Net eW
section
variable {T:ai} {k x:Int} {d:Nat}
def Gn(k x:Int)(n:Nat):Prop:=k=2∧x=(n:Int)
structure Open (T:ai) (k x:Int) (d n:Nat) (s:List b7):Prop where
 nil:s=[]
 node:(n:Int)<T.nodes
 here:¬Gn k x n
 reach:0≤dN T (aG T k x) d n
structure kr (T:ai) (k x:Int) (d n:Nat) (s:List b7) (q:List Int):Prop where
 EL:∃D,(∀a,aM D a=false→aM (aG T k x) a=false)∧sM T D d n (fD ⟨1,(n:Int)⟩ s) q
 node:(n:Int)<T.nodes
 here:¬Gn k x n
 len:s.length≤32
theorem pW{a m:Nat}(ha:a<2*T.af.length)(hu:aM (aG T k x) a=false)(hm:aT T a=(m:Int)):¬Gn k x m:=by
 rintro⟨rfl,rfl⟩
 rw[nS ha,JL,Bool.or_eq_false_iff,decide_eq_false_iff_not,decide_eq_false_iff_not]at hu
 rcases ES (T:=T) a with h|h
 ·exact hu.2 (h.2.symm.trans hm)
 ·exact hu.1 (h.2.symm.trans hm)
theorem pF(hv:ao T=true){a m:Nat}(ha:a<2*T.af.length)(hm:aT T a=(m:Int)):(m:Int)<T.nodes:=by rw[←hm];exact((aK hv).head a ha).2
structure qj (T:ai) (k x:Int) (n:Nat) (a:Int) (b m:Nat):Prop where
 eq:a=(b:Int)
 fx:b<2*T.af.length
 tail:bb T b=(n:Int)
 head:aT T b=(m:Int)
 up:aM (aG T k x) b=false
theorem vE(hv:ao T=true)(h12:T.nodes≤12)(hd:(d:Int)<T.nodes){n:Nat}{s:List b7}{a:Int}{q:List Int}(h:kr T k x d n s (a::q))(st:Int){p:eC}(hp:p.dst=(d:Int))(hh:p.db=0)(hs:p.stack=s):
  ∃(b m:Nat) (s':List b7),qj T k x n a b m∧cC T (eX T (aG T k x) st n) p=cH p s' [a]∧kr T k x d m s' q:=by
 obtain⟨D,hD,hl⟩:=h.EL
 subst hs
 obtain⟨m,s',h1,h2,h3,h4,h5,h6,h7,h8⟩:=BP (nx hv h12 h.node (di T k x) hD st) hd hp hh rfl hl h.len
 obtain⟨b,rfl⟩:=Int.eq_ofNat_of_zero_le h2
 rw[Int.toNat_natCast]at h1 h3 h4 h5
 have hup:=hD b h5
 exact⟨b,m,s',⟨rfl,h3,h4,h1,hup⟩,h6,⟨D,hD,h8⟩,pF hv h3 h1,pW h3 hup h1,Nat.le_trans h7 h.len⟩
theorem yw(hv:ao T=true)(h12:T.nodes≤12)(hd:(d:Int)<T.nodes){n:Nat}{s:List b7}(h:kr T k x d n s [])(st:Int){p:eC}(hp:p.dst=(d:Int))(hs:p.stack=s):
  n=d∧(cC T (eX T (aG T k x) st n) p).aI=[]∧(cC T (eX T (aG T k x) st n) p).dt= -1:=by
 obtain⟨D,hD,hl⟩:=h.EL
 subst hs
 obtain⟨e1,e2⟩:=hl.end_
 exact⟨e2,o7 (nx hv h12 h.node (di T k x) hD st) hd hp e2 e1 h.len⟩
theorem Eg(hv:ao T=true)(h12:T.nodes≤12)(hd:(d:Int)<T.nodes){s:List b7}(h:Open T k x d d s)(st:Int){p:eC}(hp:p.dst=(d:Int))(hs:p.stack=s):
  (cC T (eX T (aG T k x) st d) p).aI=[]∧(cC T (eX T (aG T k x) st d) p).dt= -1:=by
 have hn:=h.nil
 subst hs
 exact o7 (nx (D:=aG T k x) hv h12 h.node (di T k x) (fun _ h=>h) st) hd hp rfl (by rw[hn];rfl) (by rw[hn];simp)
theorem mV(hv:ao T=true)(h12:T.nodes≤12)(hd:(d:Int)<T.nodes){n:Nat}(hn:(n:Int)<T.nodes)(hne:n≠d){D:List Bool}(hf:bP T D=true)(hD:∀a,aM D a=false→aM (aG T k x) a=false)(hr:0≤dN T D d n){t:ee}(hok:ed T t=true)(htn:t.node=(n:Int))(he:dy t (d:Int)=jB T D n d){p:eC}(hp:p.dst=(d:Int))(hh:p.db=0)(hs:p.stack=[]):
  ∃(b m:Nat) (s':List b7) (q:List Int),cg T D n d=(b:Int)::q∧qj T k x n b b m∧cC T t p=cH p s' [(b:Int)]∧kr T k x d m s' q∧(q.length:Int)+1<T.nodes:=by
 have hsp:gv T D (n:Int) d=0:=by rw[jO hv hf hn hd,if_neg (by omega)]
 obtain⟨n',d',e1,e2,hP⟩:=uq hsp (by omega)
 have e1:n=n':=by omega
 have e2:d=d':=by omega
 subst e1;subst e2
 have hent:=pT hP
 obtain⟨b,m,q,h1,h2,h3,h4,h5,h6⟩:=hP.enter
 have hpush:=vo T D (n:Int) d h12
 have hup:=hD b h4
 rw[h1]at hent
 rw[List.getD_cons_zero]at hent
 have hst:=rW hok htn hd hne hp hh (by rw[hs];rfl) (by rw[hs];simp) (by rw[he,hent];simp) (by rw[he];exact hpush)
 rw[he,hent,if_pos rfl]at hst
 rw[hent]at hpush
 rw[h1]at h6
 have hlen:=hP.len
 rw[h1,List.length_cons]at hlen
 exact⟨b,m,_,q,h1,⟨rfl,h2,h3,h5,hup⟩,hst,⟨⟨D,hD,h6⟩,pF hv h2 h5,pW h2 hup h5,hpush⟩,by omega⟩
theorem pn(hv:ao T=true)(hd:(d:Int)<T.nodes){n:Nat}(hn:(n:Int)<T.nodes)(hne:n≠d){E:List Bool}(hr:0≤dN T E d n){t:ee}(hok:ed T t=true)(htn:t.node=(n:Int))(he:dy t (d:Int)=⟨bz T E n d,false,[]⟩){p:eC}(hp:p.dst=(d:Int))(hh:p.db=0)(hs:p.stack=[]):
  bz T E n d≠[]∧cC T t p=cH p [] (bz T E n d):=by
 obtain⟨j,hj⟩:=jo (D:=E) hv hn hd hne hr
 have hm:=eU hj ((aK hv).cost j hj.fx).1
 have hpos:0<(bz T E n d).length:=List.length_pos_of_mem hm
 have hst:=rW hok htn hd hne hp hh (by rw[hs];rfl) (by rw[hs];simp) (by rw[he];exact hpos) (by rw[he];simp)
 rw[he]at hst
 exact⟨fun e=>by rw[e]at hpos;exact absurd hpos (by simp),hst⟩
theorem yu(hv:ao T=true)(h12:T.nodes≤12)(hd:(d:Int)<T.nodes)(hcv:xa T k x=true)(hsafe:∀m:Nat,(m:Int)<T.nodes→¬Gn k x m→0≤dN T [] d m→0≤dN T (aG T k x) d m)
  {n:Nat} {s:List b7} (h:Open T k x d n s) (hne:n≠d) {st:Int} (hst:st=0∨st=1∨st=2) (hold:st=0→∀a,a<2*T.af.length→bb T a=(n:Int)→aM (aG T k x) a=false) {p:eC} (hp:p.dst=(d:Int)) (hh:p.db=0) (hs:p.stack=s):
  ∃aI s',cC T (eX T (aG T k x) st n) p=cH p s' aI∧aI≠[]∧∀a∈aI,∃b m:Nat,qj T k x n a b m∧((st≠2∧Open T k x d m s'∧dN T [] d n=dN T [] d m+ca T b∧0≤dN T [] d m)∨∃q,kr T k x d m s' q∧(q.length:Int)+1<T.nodes):=by
 have hnil:=h.nil
 subst hnil
 have hbare:0≤dN T [] d n:=Co hv h.node hd (fun a ha hu=>by simp[aM]) h.reach
 have hout:∀(t:ee),ed T t=true→t.node=(n:Int)→dy t (d:Int)=⟨bz T [] n d,false,[]⟩→(∀a∈bz T [] n d,aM (aG T k x) a.toNat=false)→st≠2→
   ∃aI s',cC T t p=cH p s' aI∧aI≠[]∧∀a∈aI,∃b m:Nat,qj T k x n a b m∧((st≠2∧Open T k x d m s'∧dN T [] d n=dN T [] d m+ca T b∧0≤dN T [] d m)∨∃q,kr T k x d m s' q∧(q.length:Int)+1<T.nodes):=fun t h1 h2 h3 h4 h5=>by
  obtain⟨e1,e2⟩:=pn hv hd h.node hne hbare h1 h2 h3 hp hh hs
  refine⟨_,_,e2,e1,fun a ha=>?_⟩
  obtain⟨b,rfl,hb⟩:=cP ha
  have hup:=h4 _ ha
  rw[Int.toNat_natCast]at hup
  obtain⟨m,hm⟩:=Int.eq_ofNat_of_zero_le ((aK hv).head b hb.fx).1
  obtain⟨c1,c2⟩:=hb.dN hm
  have hml:=pF hv hb.fx hm
  have hmh:=pW hb.fx hup hm
  exact⟨b,m,⟨rfl,hb.fx,hb.tail,hm,hup⟩,.inl ⟨h5,⟨rfl,hml,hmh,hsafe m hml hmh c1⟩,c2,c1⟩⟩
 rcases hst with rfl|rfl|rfl
 ·have ht:eX T (aG T k x) 0 n=dE T [] n:=by unfold eX;rw[if_pos rfl]
  rw[ht]
  exact hout _ (ky hv h.node) rfl (oQ hd) (fun a ha=>by
   obtain⟨b,rfl,hb⟩:=cP ha
   rw[Int.toNat_natCast]
   exact hold rfl b hb.fx hb.tail) (by decide)
 ·have ht:eX T (aG T k x) 1 n=rH T (aG T k x) n:=by unfold eX;rw[if_neg (by decide),if_pos rfl]
  rw[ht]
  cases hh2:kK (fE T (aG T k x) n) (bz T [] n d)with
  |none=>
   have he:mM T (fE T (aG T k x) n) n d=⟨bz T [] n d,false,[]⟩:=by unfold mM;rw[hh2]
   refine hout _ (oN hv h12 h.node) rfl (by rw[yB hd,he]) (fun a ha=>?_) (by decide)
   obtain⟨b,rfl,hb⟩:=cP ha
   have h1:=Dl hh2 _ ha
   rw[nD,Int.toNat_natCast,decide_eq_true hb.fx,Bool.true_and,hb.tail,decide_eq_true rfl,Bool.and_true]at h1
   rw[Int.toNat_natCast]
   exact h1
  |some a=>
   obtain⟨h1,h2⟩:=vN hh2
   obtain⟨c1,c2,_⟩:=ym hv hcv h.node hd h.here h.reach h2
   have he:mM T (fE T (aG T k x) n) n d=jB T (o4 T (fE T (aG T k x) n) n d a.toNat) n d:=by unfold mM;rw[hh2]
   obtain⟨b,m,s',q,e1,e2,e3,e4⟩:=mV hv h12 hd h.node hne (vm (Db T _ _) _) c1 c2 (oN hv h12 h.node) rfl (by rw[yB hd,he]) hp hh hs
   exact⟨_,_,e3,by simp,fun a ha=>by
    rw[List.mem_singleton]at ha
    subst ha
    exact⟨b,m,e2,.inr ⟨q,e4⟩⟩⟩
 ·have ht:eX T (aG T k x) 2 n=uu T (aG T k x) n:=by unfold eX;rw[if_neg (by decide),if_neg (by decide),if_pos rfl]
  rw[ht]
  obtain⟨b,m,s',q,e1,e2,e3,e4⟩:=mV hv h12 hd h.node hne (di T k x) (fun _ h=>h) h.reach (oI hv h12 h.node) rfl (yg hd) hp hh hs
  exact⟨_,_,e3,by simp,fun a ha=>by
   rw[List.mem_singleton]at ha
   subst ha
   exact⟨b,m,e2,.inr ⟨q,e4⟩⟩⟩
theorem Bg(hv:ao T=true)(h12:T.nodes≤12)(hd:(d:Int)<T.nodes){n:Nat}{s:List b7}(h:Open T k x d n s)(hne:n≠d){st:Int}(hst:st≠0∧st≠1){p:eC}(hp:p.dst=(d:Int))(hh:p.db=0)(hs:p.stack=s):
  ∃aI s',cC T (eX T (aG T k x) st n) p=cH p s' aI∧aI≠[]∧∀a∈aI,∃b m:Nat,qj T k x n a b m∧((st≠2∧Open T k x d m s'∧dN T (aG T k x) d n=dN T (aG T k x) d m+ca T b)∨(st=2∧∃q,cg T (aG T k x) n d=a::q∧aI=[a]∧kr T k x d m s' q∧(q.length:Int)+1<T.nodes)):=by
 have hnil:=h.nil
 subst hnil
 by_cases h2:st=2
 ·subst h2
  have ht:eX T (aG T k x) 2 n=uu T (aG T k x) n:=by unfold eX;rw[if_neg (by decide),if_neg (by decide),if_pos rfl]
  rw[ht]
  obtain⟨b,m,s',q,e1,e2,e3,e4⟩:=mV hv h12 hd h.node hne (di T k x) (fun _ h=>h) h.reach (oI hv h12 h.node) rfl (yg hd) hp hh hs
  exact⟨_,_,e3,by simp,fun a ha=>by
   rw[List.mem_singleton]at ha
   subst ha
   exact⟨b,m,e2,.inr ⟨rfl,q,e1,rfl,e4⟩⟩⟩
 ·have ht:eX T (aG T k x) st n=dE T (aG T k x) n:=by unfold eX;rw[if_neg hst.1,if_neg hst.2,if_neg h2]
  rw[ht]
  obtain⟨e1,e2⟩:=pn hv hd h.node hne h.reach (ky hv h.node) rfl (oQ hd) hp hh hs
  refine⟨_,_,e2,e1,fun a ha=>?_⟩
  obtain⟨b,rfl,hb⟩:=cP ha
  obtain⟨m,hm⟩:=Int.eq_ofNat_of_zero_le ((aK hv).head b hb.fx).1
  obtain⟨c1,c2⟩:=hb.dN hm
  exact⟨b,m,⟨rfl,hb.fx,hb.tail,hm,hb.up⟩,.inl ⟨h2,⟨rfl,pF hv hb.fx hm,pW hb.fx hb.up hm,c1⟩,c2⟩⟩
end
end PW
end Go.Proofs.YtnegbdpggideiaaGreatDoor
namespace Go.Proofs.YtnegbdpggideiaaGreatDoor
namespace PW
open Go.RowKit cB Mem Net eW
section
variable {T:ai} {k x:Int} {d:Nat}
noncomputable def jl(T:ai)(D:List Bool)(d n:Nat):Nat:=((List.range T.nodes.toNat).filter fun m=>decide (0≤dN T D d m)&&decide (dN T D d m<dN T D d n)).length
theorem nN{D:List Bool}{n:Nat}(hn:(n:Int)<T.nodes):jl T D d n<T.nodes.toNat:=by
 unfold jl
 have h:((List.range T.nodes.toNat).filter fun m=>decide (0≤dN T D d m)&&decide (dN T D d m<dN T D d n)).length<(List.range T.nodes.toNat).length:=by
  refine List.length_filter_lt_length_iff_exists.2 ⟨n,List.mem_range.2 (by omega),?_⟩
  simp
 simpa using h
theorem filter_lt{α:Type}{p q:α→Bool}{l:List α}{a:α}(hpq:∀b∈l,p b=true→q b=true)(ha:a∈l)(hp:p a=false)(hq:q a=true):(l.filter p).length<(l.filter q).length:=by
 have e:l.filter p=(l.filter q).filter p:=by
  rw[List.filter_filter]
  refine List.filter_congr fun b hb=>?_
  cases h:p b with
  |false=>simp
  |true=>simp[hpq b hb h]
 rw[e]
 exact List.length_filter_lt_length_iff_exists.2 ⟨a,List.mem_filter.2 ⟨ha,hq⟩,by rw[hp];simp⟩
theorem v8{D:List Bool}{n m:Nat}(hm:(m:Int)<T.nodes)(h0:0≤dN T D d m)(h:dN T D d m<dN T D d n):jl T D d m<jl T D d n:=by
 unfold jl
 refine filter_lt (a:=m) (fun b _ hb=>?_) (List.mem_range.2 (by omega)) (by simp) (by simp[h0,h])
 simp only[Bool.and_eq_true,decide_eq_true_eq]at hb ⊢
 exact⟨hb.1,by omega⟩
def Way(T:ai)(k x:Int)(d:Nat)(late:Bool)(n:Nat)(s:List b7)(u:Nat):Prop:=
 (Open T k x d n s∧u=if late then T.nodes.toNat+jl T (aG T k x) d n else 2*T.nodes.toNat+jl T [] d n)∨∃q,kr T k x d n s q∧u=q.length∧q.length<T.nodes.toNat
def Perm(T:ai)(k x:Int)(late:Bool)(st:Nat→Int):Prop:=
 ∀n:Nat,(n:Int)<T.nodes→¬Gn k x n→if late then st n≠0∧st n≠1 else(st n=0∨st n=1∨st n=2)∧(st n=0→∀a,a<2*T.af.length→bb T a=(n:Int)→aM (aG T k x) a=false)
theorem Way.bound{late:Bool}{n:Nat}{s:List b7}{u:Nat}(hN:1≤T.nodes)(h:Way T k x d late n s u):u<3*T.nodes.toNat:=by
 rcases h with⟨h,rfl⟩|⟨q,_,rfl,h⟩
 ·have h1:=nN (D:=aG T k x) (d:=d) h.node
  have h2:=nN (D:=[]) (d:=d) h.node
  split<;>omega
 ·omega
theorem Way.on{n:Nat}{s:List b7}{u:Nat}(h:Way T k x d false n s u):∃u',u'≤u∧Way T k x d true n s u':=by
 rcases h with⟨h,rfl⟩|⟨q,h,rfl,hl⟩
 ·have h1:=nN (D:=aG T k x) (d:=d) h.node
  refine⟨T.nodes.toNat+jl T (aG T k x) d n,?_,.inl ⟨h,?_⟩⟩
  ·rw[if_neg (by simp)];omega
  ·rw[if_pos rfl]
 ·exact⟨_,Nat.le_refl _,.inr ⟨q,h,rfl,hl⟩⟩
theorem Ej(hv:ao T=true)(h12:T.nodes≤12)(hd:(d:Int)<T.nodes){late:Bool}(hcv:late=false→xa T k x=true)(hsafe:late=false→∀m:Nat,(m:Int)<T.nodes→¬Gn k x m→0≤dN T [] d m→0≤dN T (aG T k x) d m)
  {st:Nat→Int} (hp:Perm T k x late st) {n:Nat} {s:List b7} {u:Nat} (h:Way T k x d late n s u) {p:eC} (hpd:p.dst=(d:Int)) (hh:p.db=0) (hs:p.stack=s):
  (n=d∧(cC T (eX T (aG T k x) (st n) n) p).aI=[]∧(cC T (eX T (aG T k x) (st n) n) p).dt= -1)∨
  ∃aI s',cC T (eX T (aG T k x) (st n) n) p=cH p s' aI∧aI≠[]∧∀a∈aI,∃b m:Nat,qj T k x n a b m∧∃u',u'<u∧Way T k x d late m s' u':=by
 have hS:=aK hv
 rcases h with⟨h,rfl⟩|⟨q,h,rfl,hl⟩
 ·by_cases hne:n=d
  ·subst hne
   exact .inl ⟨rfl,Eg hv h12 hd h (st n) hpd hs⟩
  ·refine .inr ?_
   have hpn:=hp n h.node h.here
   cases late with
   |true=>
    rw[if_pos rfl]at hpn
    obtain⟨aI,s',e1,e2,e3⟩:=Bg hv h12 hd h hne hpn hpd hh hs
    refine⟨aI,s',e1,e2,fun a ha=>?_⟩
    obtain⟨b,m,g,hc⟩:=e3 a ha
    refine⟨b,m,g,?_⟩
    rcases hc with⟨_,ho,hdist⟩|⟨_,q,_,_,hL,hq⟩
    ·have hc1:=hS.cost b g.fx
     have:=v8 (d:=d) (n:=n) ho.node ho.reach (by omega)
     exact⟨_,by rw[if_pos rfl,if_pos rfl];omega,.inl ⟨ho,rfl⟩⟩
    ·exact⟨q.length,by rw[if_pos rfl];omega,.inr ⟨q,hL,rfl,by omega⟩⟩
   |false=>
    rw[if_neg (by simp)]at hpn
    obtain⟨aI,s',e1,e2,e3⟩:=yu hv h12 hd (hcv rfl) (hsafe rfl) h hne hpn.1 hpn.2 hpd hh hs
    refine⟨aI,s',e1,e2,fun a ha=>?_⟩
    obtain⟨b,m,g,hc⟩:=e3 a ha
    refine⟨b,m,g,?_⟩
    rcases hc with⟨_,ho,hdist,h0⟩|⟨q,hL,hq⟩
    ·have hc1:=hS.cost b g.fx
     have:=v8 (D:=[]) (d:=d) (n:=n) ho.node h0 (by omega)
     exact⟨_,by rw[if_neg (by simp),if_neg (by simp)];omega,.inl ⟨ho,rfl⟩⟩
    ·exact⟨q.length,by rw[if_neg (by simp)];omega,.inr ⟨q,hL,rfl,by omega⟩⟩
 ·cases q with
  |nil=>exact .inl (yw hv h12 hd h (st n) hpd hs)
  |cons a q=>
   obtain⟨b,m,s',g,e1,e2⟩:=vE hv h12 hd h (st n) hpd hh hs
   refine .inr ⟨[a],s',e1,by simp,fun c hc=>?_⟩
   rw[List.mem_singleton]at hc
   subst hc
   simp only[List.length_cons]at hl ⊢
   exact⟨b,m,g,q.length,by omega,.inr ⟨q,e2,rfl,by omega⟩⟩
end
end PW
end Go.Proofs.YtnegbdpggideiaaGreatDoor
namespace Go.Proofs.YtnegbdpggideiaaGreatDoor
namespace PW
open Go.RowKit cB Mem Net eW
def fh(p:eC)(s:List b7):eC:=⟨p.id,p.src,p.dst,p.pC,s,0⟩
inductive Br (T:ai) (tb:Nat→ee) (p0:eC):Nat→List b7→List Int→Nat→Int→Prop
 |stop {n:Nat} {s:List b7}:(cC T (tb n) (fh p0 s)).aI=[]→Br T tb p0 n s [] n (cC T (tb n) (fh p0 s)).dt
 |go {n m e:Nat} {s:List b7} {a:Int} {p:List Int} {w:Int}:a∈(cC T (tb n) (fh p0 s)).aI→aT T a.toNat=(m:Int)→Br T tb p0 m (cC T (tb n) (fh p0 s)).eQ.stack p e w→Br T tb p0 n s (a::p) e w
section
variable {T:ai} {k x:Int} {d:Nat} {st:Nat→Int} {p0:eC}
noncomputable def Jn(T:ai)(M:List Bool)(st:Nat→Int)(n:Nat):ee:=eX T M (st n) n
end
end PW
end Go.Proofs.YtnegbdpggideiaaGreatDoor
namespace Go.Proofs.YtnegbdpggideiaaGreatDoor
namespace PW
open Go.RowKit cB Mem Net eW
section
variable {T:ai} {D D':List Bool} {k x:Int} {d:Nat} {st:Nat→Int} {p0:eC}
end
end PW
end Go.Proofs.YtnegbdpggideiaaGreatDoor
namespace Go.Proofs.YtnegbdpggideiaaGreatDoor
namespace PW
open Go.RowKit cB Mem Net eW
def nU(k x n:Int):Bool:=decide (k=2)&&decide (x=n)
def pD(T:ai)(k x:Int)(n:Nat):Bool:=(List.range (2*T.af.length)).any fun a=>aM (aG T k x) a&&decide (bb T a=(n:Int))
def pR(s:Int):Bool:=decide (0≤s)&&decide (s≤3)
def rT(c:Bool)(s:Int):Bool:= !decide (s=3)&&(!decide (s=0)|| !c)&&(!decide (s=1)||c)
def nZ(s:Int):Bool:=decide (s=2)||decide (s=3)
def dF(k x:Int)(p:Nat→Bool)(m:Nat):Bool:=(List.range m).all fun n=>nU k x n||p n
theorem iN(k x:Int)(p:Nat→Bool)(m:Nat):dF k x p (m+1)=(dF k x p m&&(nU k x m||p m)):=by
 unfold dF
 rw[List.range_succ,List.all_append]
 simp
theorem gR{k x:Int}{p:Nat→Bool}{m:Nat}:dF k x p m=true↔∀n,n<m→nU k x n=false→p n=true:=by
 unfold dF
 rw[List.all_eq_true]
 constructor
 ·intro h n hn hg
  have:=h n (List.mem_range.2 hn)
  rw[hg,Bool.false_or]at this
  exact this
 ·intro h n hn
  cases hg:nU k x n with
  |true=>rfl
  |false=>rw[Bool.false_or];exact h n (List.mem_range.1 hn) hg
def eZ(l:List Int)(n:Nat):Int:=l.getD n 0
def dT(T:ai)(k x:Int)(l:List Int):Bool:=
 if(ao T&&bV T k x)&&decide ((l.length:Int)=T.nodes) then dF k x (fun n=>pR (eZ l n)) l.length&&(dF k x (fun n=>rT (pD T k x n) (eZ l n)) l.length||dF k x (fun n=>nZ (eZ l n)) l.length) else false
theorem wc{k x:Int}{p:Nat→Bool}{m i:Nat}(hi:i<m)(hg:nU k x i=false)(hp:p i=false):dF k x p m=false:=by
 cases h:dF k x p m with
 |false=>rfl
 |true=>rw[gR.1 h i hi hg]at hp;cases hp
section
variable {T:ai} {k x:Int} {l:List Int}
theorem HJ{n:Nat}:nU k x n=true↔Gn k x n:=by
 unfold nU Gn
 simp
theorem mJ{n:Nat}:nU k x n=false↔¬Gn k x n:=by
 rw[←HJ];simp
theorem Dp{n:Nat}:pD T k x n=false↔∀a,a<2*T.af.length→bb T a=(n:Int)→aM (aG T k x) a=false:=by
 unfold pD
 rw[List.any_eq_false]
 constructor
 ·intro h a ha ht
  have:=h a (List.mem_range.2 ha)
  rw[decide_eq_true ht,Bool.and_true]at this
  simpa using this
 ·intro h a ha
  rw[List.mem_range]at ha
  by_cases ht:bb T a=(n:Int)
  ·rw[h a ha ht];simp
  ·rw[decide_eq_false ht];simp
theorem pN(h:dT T k x l=true):ao T=true∧bV T k x=true∧(l.length:Int)=T.nodes∧(∀n:Nat,(n:Int)<T.nodes→¬Gn k x n→0≤eZ l n∧eZ l n≤3)∧∃late,Perm T k x late (eZ l)∧(late=dF k x (fun n=>nZ (eZ l n)) l.length):=by
 unfold dT at h
 split at h
 ·rename_i h1
  simp only[Bool.and_eq_true,decide_eq_true_eq,Bool.or_eq_true]at h1 h
  obtain⟨⟨hv,hc⟩,hl⟩:=h1
  obtain⟨hok,hel⟩:=h
  refine⟨hv,hc,hl,fun n hn hg=>?_,_,?_,rfl⟩
  ·have:=gR.1 hok n (by omega) (mJ.2 hg)
   unfold pR at this
   simpa using this
  ·cases hla:dF k x (fun n=>nZ (eZ l n)) l.length with
   |true=>
    intro n hn hg
    have:=gR.1 hla n (by omega) (mJ.2 hg)
    rw[if_pos rfl]
    unfold nZ at this
    simp only[Bool.or_eq_true,decide_eq_true_eq]at this
    omega
   |false=>
    rw[hla]at hel
    have her:dF k x (fun n=>rT (pD T k x n) (eZ l n)) l.length=true:=by
     rcases hel with h|h
     ·exact h
     ·cases h
    intro n hn hg
    have h1:=gR.1 her n (by omega) (mJ.2 hg)
    have h2:=gR.1 hok n (by omega) (mJ.2 hg)
    rw[if_neg (by simp)]
    unfold rT at h1
    unfold pR at h2
    simp only[Bool.and_eq_true,Bool.or_eq_true,Bool.not_eq_true',decide_eq_true_eq,decide_eq_false_iff_not]at h1 h2
    obtain⟨⟨e3,e0⟩,e1⟩:=h1
    refine⟨by omega,fun h0=>Dp.1 ?_⟩
    rcases e0 with e0|e0
    ·exact absurd h0 e0
    ·exact e0
 ·cases h
end
end PW
end Go.Proofs.YtnegbdpggideiaaGreatDoor
namespace Go.Proofs.YtnegbdpggideiaaGreatDoor
namespace PW
open Go.RowKit cB Mem Net eW
theorem sA(k x n:Int):Can Tryz.prog 73 [bU k x,num n] (· =flag (nU k x n)):=by
 obtain⟨q1,hq1⟩:∃q,decide (k=2)=q:=⟨_,rfl⟩
 obtain⟨q2,hq2⟩:∃q,decide (x=n)=q:=⟨_,rfl⟩
 unfold nU
 rw[hq1,hq2]
 refine aE Tryz.func73 rfl Tryz.ntmps73 rfl<|ab (.a 2 rfl<|.k [1,2] rfl)<|bp 4 (.raw (.bool (q1&&q2))) [] rfl ?_ ?_
 ·refine .a 2 rfl<|.v (cb rfl (hq1)) rfl<|.a 1 rfl<|?_
  cases q1
  ·exact .a 6 rfl<|.k [4] rfl
  ·exact .a 3 rfl<|.v (cb rfl (hq2)) rfl<|.a 2 rfl<|.k [4] rfl
 exact aq<|⟨_,_,ay.of rfl,aB.pure,rfl⟩
def uK(T:ai)(M:List Bool)(N a:Nat):List Bool:=(List.range N).map fun(n:Nat)=>(List.range a).any fun b=>aM M b&&decide (bb T b=(n:Int))
section
variable {T:ai} {M:List Bool} {N a:Nat}
theorem zh:(uK T M N a).length=N:=by simp[uK]
theorem Ec:uK T M N 0=List.replicate N false:=by
 unfold uK
 refine List.ext_getElem (by simp) fun i h1 h2=>by simp
theorem HQ(h:aM M a=false):uK T M N (a+1)=uK T M N a:=by
 unfold uK
 refine List.map_congr_left fun n _=>?_
 rw[List.range_succ,List.any_append]
 simp[h]
theorem G1(h:aM M a=true){m:Nat}(hm:bb T a=(m:Int)):uK T M N (a+1)=(uK T M N a).set m true:=by
 refine List.ext_getElem (by simp[uK]) fun i h1 h2=>?_
 rw[List.getElem_set]
 simp only[uK,List.getElem_map,List.getElem_range,List.range_succ,List.any_append,List.any_cons,List.any_nil,Bool.or_false,h,Bool.true_and,hm]
 by_cases e:m=i
 ·subst e;simp
 ·rw[if_neg e,decide_eq_false (by omega),Bool.or_false]
theorem Fg{k x:Int}{n:Nat}(hn:n<N):(uK T (aG T k x) N (2*T.af.length)).getD n false=pD T k x n:=by
 unfold uK pD
 simp[hn]
end
set_option maxHeartbeats 4000000 in
theorem mq(T:ai)(k x:Int)(l:List Int)(hl:l.length≤1000):Can Tryz.prog 25 [aP T,bU k x,aw l] (· =flag (dT T k x l)):=by
  obtain⟨q1,hq1⟩:∃q,decide (dL T k x≠0)=q:=⟨_,rfl⟩
  obtain⟨q2,hq2⟩:∃q,decide ((l.length:Int)≠T.nodes)=q:=⟨_,rfl⟩
  have hme:dL T k x=if(ao T&&bV T k x)=true then 0 else 1:=rfl
  refine aE Tryz.func25 rfl Tryz.ntmps25 rfl<|ab (.a 3 rfl<|.k [2,3,4] rfl)<|ab (.a 2 rfl<|.c rfl (lq T k x) rfl<|.a 5 rfl<|.k [2,3,4,7,8] rfl)<|aj<|bp 30 (.raw (.bool (q1||q2))) [2,3,4,7] rfl ?_ ?_
  · refine .a 1 rfl<|.v (cb rfl (hq1)) rfl<|.a 1 rfl<|?_
    cases q1
    · exact .a 3 rfl<|.v (aN rfl (rfl)) rfl<|.v (cb rfl (hq2)) rfl<|.a 1 rfl<|.k [30,2,3,4,7] rfl
    · exact .a 6 rfl<|.k [30,2,3,4,7] rfl
  refine ah rfl (fun hc=>?_) (fun hc=>?_)
  · have hno:dT T k x l=false:=by
      unfold dT
      split
      · rename_i h
        exfalso
        obtain⟨h1,h2⟩:=Bool.and_eq_true_iff.1 h
        rw[if_pos h1]at hme
        rw[←hq1,←hq2,hme]at hc
        simp only[ne_eq,not_true_eq_false,decide_false,Bool.false_or,decide_eq_true_eq]at hc h2
        exact hc h2
      · rfl
    exact ab (.a 1 rfl<|.k [6] rfl)<|aq<|⟨_,_,ay.of rfl,aB.pure,by rw[hno];rfl⟩
  · obtain ⟨rfl, rfl⟩ := Bool.or_eq_false_iff.1 hc
    have hvc:(ao T&&bV T k x)=true:=by
      cases h:(ao T&&bV T k x)with
      |true=>rfl
      |false=>rw[if_neg (by rw[h];decide)]at hme;exact absurd (ff hq1) (by rw[hme];decide)
    have hln:(l.length:Int)=T.nodes:=by have:=ff hq2;simpa using this
    have hP:dT T k x l=(dF k x (fun n=>pR (eZ l n)) l.length&&(dF k x (fun n=>rT (pD T k x n) (eZ l n)) l.length||dF k x (fun n=>nZ (eZ l n)) l.length)):=by
      unfold dT
      rw[if_pos (by rw[hvc,decide_eq_true hln];rfl)]
    have hv:=(Bool.and_eq_true_iff.1 hvc).1
    have hMl:=eN T k x
    have hll:=bO hv
    rw[if_pos hvc]at hme
    rw[hme]
    simp only[if_true]
    obtain⟨M,hM⟩:∃M,aG T k x=M:=⟨_,rfl⟩
    obtain⟨N,hN⟩:∃N:Nat,l.length=N:=⟨_,rfl⟩
    have hTN:T.nodes=(N:Int):=by omega
    rw[hM]at hMl ⊢
    refine ak<|aQ<|au 1 rfl<|bE (aN rfl ((show some (num T.nodes)=some (num (N:Int)) by rw[hTN]))) rfl<|cn (dD rfl (bI.rk.get rfl) rfl rfl (rfl:(N:Int)=(N:Int)) (rfl:(N:Int)=(N:Int)) ⟨by unfold maxLen;omega,by omega⟩) rfl<|au 1 rfl<|aH [2,3,4,7,9] rfl ?_
    refine ej (σ':=[some (.row 4 1 N (bQ (uK T M N 0)))]) (by rw[Ec,←gT];rfl) ?_
    refine aj<|ab (.a 3 rfl<|.k [2,3,4,9,34,35,36] rfl)<|av<|ft [2,3,4,9,34,35,36] rfl<|br (fun r st=>∃a,a≤M.length∧r=M.length - a∧st=⟨[(2,aw l),(3,.aX (bx T) 0),(4,.aX (cj k x) 0),(9,.own 0),(34,aY M),(35,num M.length),(36,num a)],[some (.row 4 1 N (bQ (uK T M N a)))]⟩) M.length ⟨0,by omega,by omega,rfl⟩ ?_
    rintro r st ⟨a,ha,rfl,rfl⟩
    refine ab (.a 1 rfl<|.k [2,3,4,9,34,35,36,37] rfl)<|aj<|ah rfl (fun hc=>?_) (fun hc=>?_)
    · have hlt:a<M.length:=by have:=tt hc;omega
      obtain⟨b,hb⟩:∃b,aM M a=b:=⟨_,rfl⟩
      obtain⟨m,hm⟩:=Int.eq_ofNat_of_zero_le ((aK hv).tail a (by omega)).1
      have hmN:=((aK hv).tail a (by omega)).2
      refine ak<|aj<|av<|ab (.a 1 rfl<|.v (aL (a) rfl) rfl<|.v (aN rfl ((cV M a hlt).trans (by rw[show M.getD a false=b from hb]))) rfl<|.a 2 rfl<|.k [2,3,4,9,10,11,34,35,36] rfl)<|ab (.a 1 rfl<|.k [2,3,4,9,10,34,35,36,41] rfl)<|ah rfl (fun hc=>?_) (fun hc=>?_)
      · have hst:=G1 (N:=N) (hb.trans hc) hm
        have hcl:=zh (T:=T) (M:=M) (N:=N) (a:=a)
        refine bF<|au 3 rfl<|eA rfl ((show Can Tryz.prog 79 [aP T,num a] (· =num m) by have h:=iT T a (by omega);rw[hm]at h;exact h)) rfl<|bE (aL (m) rfl) rfl<|bc ((by first|exact bC rfl (bI.tk.get rfl) rfl rfl rfl (by first|omega|(simp;omega))|exact aW rfl (bI.tk.get rfl) rfl rfl rfl (by first|omega|(simp;omega)))) rfl rfl<|aH [2,3,4,9,34,35,36] rfl ?_
        refine az (.v (aS rfl) rfl<|.a 1 rfl<|.k [2,3,4,9,34,35,36] rfl) ?_
        exact⟨M.length - (a+1),by omega,a+1,by omega,rfl,by rw[hst];rfl⟩
      · have hst:=HQ (T:=T) (N:=N) (hb.trans hc)
        refine ak<|az (.v (aS rfl) rfl<|.a 1 rfl<|.k [2,3,4,9,34,35,36] rfl) ?_
        exact⟨M.length - (a+1),by omega,a+1,by omega,rfl,by rw[hst];rfl⟩
    · have hae:a=M.length:=by have:=ff hc;omega
      refine bg<|ab (.a 2 rfl<|.k [2,4,9,12,13] rfl)<|aj<|ab (.a 3 rfl<|.k [4,9,12,13,48,49,50] rfl)<|av<|ft [4,9,12,13,48,49,50] rfl<|br (fun r st=>∃i,i≤l.length∧dF k x (fun n=>pR (eZ l n)) i=true∧r=l.length - i∧st=⟨[(4,.aX (cj k x) 0),(9,.own 0),(12,flag (dF k x (fun n=>rT (pD T k x n) (eZ l n)) i)),(13,flag (dF k x (fun n=>nZ (eZ l n)) i)),(48,aw l),(49,num l.length),(50,num i)],[some (.row 4 1 N (bQ (uK T M N a)))]⟩) l.length ⟨0,by omega,rfl,by omega,rfl⟩ ?_
      rintro r st ⟨i,hi,hO0,rfl,rfl⟩
      have hcc:∀n,n<N→(uK T M N a).getD n false=pD T k x n:=fun n hn=>by rw[hae,hMl,←hM];exact Fg hn
      have hcl:=zh (T:=T) (M:=M) (N:=N) (a:=a)
      have hE:=iN k x (fun n=>rT (pD T k x n) (eZ l n)) i
      have hL:=iN k x (fun n=>nZ (eZ l n)) i
      have hO:=iN k x (fun n=>pR (eZ l n)) i
      obtain⟨eb,heb⟩:∃b,dF k x (fun n=>rT (pD T k x n) (eZ l n)) i=b:=⟨_,rfl⟩
      obtain⟨lb,hlb⟩:∃b,dF k x (fun n=>nZ (eZ l n)) i=b:=⟨_,rfl⟩
      rw[heb]at hE ⊢
      rw[hlb]at hL ⊢
      rw[hO0]at hO
      refine ab (.a 1 rfl<|.k [4,9,12,13,48,49,50,51] rfl)<|aj<|ah rfl (fun hc=>?_) (fun hc=>?_)
      · have hlt:i<l.length:=by have:=tt hc;omega
        obtain⟨g,hg⟩:∃g,nU k x i=g:=⟨_,rfl⟩
        obtain⟨c,hcb⟩:∃c,pD T k x i=c:=⟨_,rfl⟩
        have hci:=(hcc i (by omega)).trans hcb
        have hilt:i<N:=by omega
        obtain⟨s,hs⟩:∃s,eZ l i=s:=⟨_,rfl⟩
        have hsl:l.getD i 0=s:=hs
        simp only[hg,hcb,hs]at hE hL hO
        refine ak<|aj<|av<|ab (.a 1 rfl<|.v (aL (i) rfl) rfl<|.v (aN rfl ((aA l i hlt).trans (by rw[hsl]))) rfl<|.a 2 rfl<|.k [4,9,12,13,14,15,48,49,50] rfl)<|aj<|ab (.a 2 rfl<|.c rfl (hg▸sA k x i) rfl<|.k [4,9,12,13,14,15,48,49,50,57] rfl)<|ah rfl (fun hc=>?_) (fun hc=>?_)
        · rw[hc,Bool.true_or,Bool.and_true]at hE hL hO
          refine kE (bd (ks:=[4,9,12,13,48,49,50]) rfl) ?_
          refine bg<|az (.v (aS rfl) rfl<|.a 1 rfl<|.k [4,9,12,13,48,49,50] rfl) ?_
          exact⟨l.length - (i+1),by omega,i+1,by omega,hO,rfl,by rw[hE,hL];rfl⟩
        · have hg0:nU k x i=false:=hg.trans hc
          rw[hc,Bool.false_or]at hE hL hO
          refine ak<|ab (.a 1 rfl<|.k [4,9,12,13,14,48,49,50,58] rfl)<|av<|ab (.a 2 rfl<|.k [4,9,12,13,14,48,49,50,58,59] rfl)<|ah rfl (fun hc=>?_) (fun hc=>?_)
          · have hs0:s=0:=tt hc
            subst hs0
            replace hE:dF k x (fun n=>rT (pD T k x n) (eZ l n)) (i+1)=(eb&& !c):=by rw[hE];simp[rT]
            replace hL:dF k x (fun n=>nZ (eZ l n)) (i+1)=false:=by rw[hL];simp[nZ]
            replace hO:dF k x (fun n=>pR (eZ l n)) (i+1)=true:=by rw[hO];rfl
            refine ab (.a 1 rfl<|.k [4,9,12,13,14,48,49,50] rfl)<|qP 12 (.raw (.bool (eb&& !c))) [4,9,13,48,49,50] rfl ?_ ?_
            · refine .a 2 rfl<|?_
              cases eb
              · exact .a 7 rfl<|.k [12,4,9,13,48,49,50] rfl
              · exact .a 2 rfl<|.v (aL (i) rfl) rfl<|.v (aN rfl ((cV _ i (by rw[hcl];exact hilt)).trans (by rw[hci];try rfl))) rfl<|.a 3 rfl<|.k [12,4,9,13,48,49,50] rfl
            refine az (.v (aS rfl) rfl<|.a 1 rfl<|.k [4,9,12,13,48,49,50] rfl) ?_
            exact⟨l.length - (i+1),by omega,i+1,by omega,hO,rfl,by rw[hE,hL];rfl⟩
          · have n0:¬s=0:=ff hc
            refine ab (.a 2 rfl<|.k [4,9,12,13,14,48,49,50,58,69] rfl)<|ah rfl (fun hc=>?_) (fun hc=>?_)
            · have hs0:s=1:=tt hc
              subst hs0
              replace hE:dF k x (fun n=>rT (pD T k x n) (eZ l n)) (i+1)=(eb&&c):=by rw[hE];simp[rT]
              replace hL:dF k x (fun n=>nZ (eZ l n)) (i+1)=false:=by rw[hL];simp[nZ]
              replace hO:dF k x (fun n=>pR (eZ l n)) (i+1)=true:=by rw[hO];rfl
              refine ab (.a 1 rfl<|.k [4,9,12,13,14,48,49,50] rfl)<|qP 12 (.raw (.bool (eb&&c))) [4,9,13,48,49,50] rfl ?_ ?_
              · refine .a 2 rfl<|?_
                cases eb
                · exact .a 6 rfl<|.k [12,4,9,13,48,49,50] rfl
                · exact .a 2 rfl<|.v (aL (i) rfl) rfl<|.v (aN rfl ((cV _ i (by rw[hcl];exact hilt)).trans (by rw[hci];try rfl))) rfl<|.a 2 rfl<|.k [12,4,9,13,48,49,50] rfl
              refine az (.v (aS rfl) rfl<|.a 1 rfl<|.k [4,9,12,13,48,49,50] rfl) ?_
              exact⟨l.length - (i+1),by omega,i+1,by omega,hO,rfl,by rw[hE,hL];rfl⟩
            · have n1:¬s=1:=ff hc
              refine ab (.a 2 rfl<|.k [4,9,12,13,48,49,50,58,78] rfl)<|ah rfl (fun hc=>?_) (fun hc=>?_)
              · have hs0:s=2:=tt hc
                subst hs0
                replace hE:dF k x (fun n=>rT (pD T k x n) (eZ l n)) (i+1)=eb:=by rw[hE];simp[rT]
                replace hL:dF k x (fun n=>nZ (eZ l n)) (i+1)=lb:=by rw[hL];simp[nZ]
                replace hO:dF k x (fun n=>pR (eZ l n)) (i+1)=true:=by rw[hO];rfl
                refine ak<|az (.v (aS rfl) rfl<|.a 1 rfl<|.k [4,9,12,13,48,49,50] rfl) ?_
                exact⟨l.length - (i+1),by omega,i+1,by omega,hO,rfl,by rw[hE,hL];rfl⟩
              · have n2:¬s=2:=ff hc
                refine ab (.a 2 rfl<|.k [4,9,13,48,49,50,80] rfl)<|ah rfl (fun hc=>?_) (fun hc=>?_)
                · have hs0:s=3:=tt hc
                  subst hs0
                  replace hE:dF k x (fun n=>rT (pD T k x n) (eZ l n)) (i+1)=false:=by rw[hE];simp[rT]
                  replace hL:dF k x (fun n=>nZ (eZ l n)) (i+1)=lb:=by rw[hL];simp[nZ]
                  replace hO:dF k x (fun n=>pR (eZ l n)) (i+1)=true:=by rw[hO];rfl
                  refine az (.a 1 rfl<|.k [4,9,12,13,48,49,50] rfl) ?_
                  refine az (.v (aS rfl) rfl<|.a 1 rfl<|.k [4,9,12,13,48,49,50] rfl) ?_
                  exact⟨l.length - (i+1),by omega,i+1,by omega,hO,rfl,by rw[hE,hL];rfl⟩
                · have n3:¬s=3:=ff hc
                  refine ab (.a 1 rfl<|.k [6] rfl)<|aq ?_
                  have hbad:dF k x (fun n=>pR (eZ l n)) l.length=false:=by
                    refine wc hlt hg0 ?_
                    show pR (eZ l i)=false
                    rw[hs]
                    unfold pR
                    by_cases h1:0≤s
                    · rw[decide_eq_false (by omega:¬s≤3),Bool.and_false]
                    · rw[decide_eq_false h1,Bool.false_and]
                  exact⟨_,_,ay.of rfl,aB.pure,by rw[hP,hbad];rfl⟩
      · have hie:i=l.length:=by have:=ff hc;omega
        subst hie
        refine bg<|bp 6 (.raw (.bool (eb||lb))) [] rfl ?_ ?_
        · refine .a 2 rfl<|?_
          cases eb
          · exact .a 3 rfl<|.k [6] rfl
          · exact .a 3 rfl<|.k [6] rfl
        exact aq<|⟨_,_,ay.of rfl,aB.pure,by rw[hP,hO0,heb,hlb];rfl⟩
end PW
end Go.Proofs.YtnegbdpggideiaaGreatDoor
namespace Go.Proofs.YtnegbdpggideiaaGreatDoor
namespace PW
open Go.RowKit cB Mem Net
def iX(s:List b7):Prop:=∀g∈s,0≤g.kind∧g.kind<100∧0≤g.num∧g.num<100
def Gs(g:b7):List UInt8:=32::(Lib.decDigits g.kind.toNat++58::Lib.decDigits g.num.toNat)
def dS(n:Nat)(s:List b7):List UInt8:=Lib.decDigits n++s.flatMap Gs
def Cz(c:UInt8):Prop:=48≤c.toNat∧c.toNat≤57
theorem lT{n:Nat}(h:n<100):∀c∈Lib.decDigits n,Cz c:=by
 intro c hc
 by_cases h1:n<10
 ·rw[Lib.decDigits_one h1,List.mem_singleton]at hc
  subst hc
  unfold Cz
  rw[UInt8.toNat_ofNat']
  omega
 ·rw[Lib.decDigits_two h1 h]at hc
  simp only[List.mem_cons,List.not_mem_nil,or_false]at hc
  rcases hc with rfl|rfl<;>(unfold Cz;rw[UInt8.toNat_ofNat'];omega)
theorem ofNat_inj{a b:Nat}(ha:a<256)(hb:b<256)(h:UInt8.ofNat a=UInt8.ofNat b):a=b:=by
 have:=congrArg UInt8.toNat h
 rw[UInt8.toNat_ofNat',UInt8.toNat_ofNat']at this
 omega
theorem ur{m n:Nat}(hm:m<100)(hn:n<100)(h:Lib.decDigits m=Lib.decDigits n):m=n:=by
 by_cases h1:m<10<;>by_cases h2:n<10
 ·rw[Lib.decDigits_one h1,Lib.decDigits_one h2]at h
  have:=ofNat_inj (by omega) (by omega) (List.cons.inj h).1
  omega
 ·rw[Lib.decDigits_one h1,Lib.decDigits_two h2 hn]at h
  cases(List.cons.inj h).2
 ·rw[Lib.decDigits_two h1 hm,Lib.decDigits_one h2]at h
  cases(List.cons.inj h).2
 ·rw[Lib.decDigits_two h1 hm,Lib.decDigits_two h2 hn]at h
  have e1:=ofNat_inj (by omega) (by omega) (List.cons.inj h).1
  have e2:=ofNat_inj (by omega) (by omega) (List.cons.inj (List.cons.inj h).2).1
  omega
theorem kf{n:Nat}(h:n<100):(Lib.decDigits n).length≤2∧0<(Lib.decDigits n).length:=by
 by_cases h1:n<10
 ·rw[Lib.decDigits_one h1];simp
 ·rw[Lib.decDigits_two h1 h];simp
theorem lZ:∀(A B X Y:List UInt8),(∀c∈A,Cz c)→(∀c∈B,Cz c)→(∀c Z,X=c::Z→¬Cz c)→(∀c Z,Y=c::Z→¬Cz c)→A++X=B++Y→A=B∧X=Y
 | [],[],X,Y,_,_,_,_,h=>⟨rfl,h⟩
 | [],b::B,X,Y,_,hB,hX,_,h=>absurd (hB b (by simp)) (hX b (B++Y) h)
 |a::A,[],X,Y,hA,_,_,hY,h=>absurd (hA a (by simp)) (hY a (A++X) h.symm)
 |a::A,b::B,X,Y,hA,hB,hX,hY,h=>by
  obtain⟨h1,h2⟩:=List.cons.inj h
  obtain⟨h3,h4⟩:=lZ A B X Y (fun c hc=>hA c (by simp[hc])) (fun c hc=>hB c (by simp[hc])) hX hY h2
  exact⟨by rw[h1,h3],h4⟩
theorem mr{s:List b7}:∀c Z,s.flatMap Gs=c::Z→¬Cz c:=by
 intro c Z h
 cases s with
 |nil=>cases h
 |cons g s=>
  rw[List.flatMap_cons]at h
  have:=(List.cons.inj h).1
  subst this
  unfold Cz
  decide
theorem vy:∀ {s s':List b7},iX s→iX s'→s.flatMap Gs=s'.flatMap Gs→s=s'
 | [],[],_,_,_=>rfl
 | [],g::s',_,_,h=>by rw[List.flatMap_cons]at h;cases h
 |g::s,[],_,_,h=>by rw[List.flatMap_cons]at h;cases h
 |g::s,g'::s',h1,h2,h=>by
  obtain⟨a1,a2,a3,a4⟩:=h1 g (by simp)
  obtain⟨b1,b2,b3,b4⟩:=h2 g' (by simp)
  rw[List.flatMap_cons,List.flatMap_cons]at h
  unfold Gs at h
  rw[List.cons_append,List.cons_append,List.append_assoc,List.append_assoc]at h
  obtain⟨e1,e2⟩:=lZ _ _ _ _ (lT (by omega)) (lT (by omega)) (fun c Z h=>by rw[List.cons_append]at h;have:=(List.cons.inj h).1;subst this;unfold Cz;decide) (fun c Z h=>by rw[List.cons_append]at h;have:=(List.cons.inj h).1;subst this;unfold Cz;decide) (List.cons.inj h).2
  rw[List.cons_append,List.cons_append]at e2
  obtain⟨e3,e4⟩:=lZ _ _ _ _ (lT (by omega)) (lT (by omega)) (mr (s:=s)) (mr (s:=s')) (List.cons.inj e2).2
  have k1:=ur (by omega) (by omega) e1
  have k2:=ur (by omega) (by omega) e3
  have k3:=vy (fun x hx=>h1 x (by simp[hx])) (fun x hx=>h2 x (by simp[hx])) e4
  obtain⟨gk,gn⟩:=g
  obtain⟨gk',gn'⟩:=g'
  simp only at a1 b1 a3 b3 k1 k2
  rw[k3,show gk=gk' by omega,show gn=gn' by omega]
theorem CL{n n':Nat}{s s':List b7}(hn:n<100)(hn':n'<100)(h1:iX s)(h2:iX s')(h:dS n s=dS n' s'):n=n'∧s=s':=by
 unfold dS at h
 obtain⟨e1,e2⟩:=lZ _ _ _ _ (lT hn) (lT hn') (mr (s:=s)) (mr (s:=s')) h
 exact⟨ur hn hn' e1,vy h1 h2 e2⟩
theorem B0{s:List b7}(h:iX s):(s.flatMap Gs).length≤s.length*6:=by
 induction s with
 |nil=>simp
 |cons g s ih=>
  obtain⟨a1,a2,a3,a4⟩:=h g (by simp)
  have:=ih (fun x hx=>h x (by simp[hx]))
  have h1:=kf (n:=g.kind.toNat) (by omega)
  have h2:=kf (n:=g.num.toNat) (by omega)
  have h3:(Gs g).length=2+(Lib.decDigits g.kind.toNat).length+(Lib.decDigits g.num.toNat).length:=by
   unfold Gs
   simp only[List.length_cons,List.length_append]
   omega
  rw[List.flatMap_cons,List.length_append,h3,List.length_cons]
  omega
end PW
end Go.Proofs.YtnegbdpggideiaaGreatDoor
namespace Go.Proofs.YtnegbdpggideiaaGreatDoor
namespace PW
open Go.RowKit cB Mem Net eW
noncomputable def b9(T:ai)(tb:Nat→ee)(p0:eC)(n:Nat)(s:List b7):Out:=cC T (tb n) (fh p0 s)
structure oP (T:ai) (tb:Nat→ee) (p0:eC) (Φ:Nat→Nat→List b7→Prop):Prop where
 node:∀ {u n s},Φ u n s→(n:Int)<T.nodes
 small:∀ {u n s},Φ u n s→iX s∧s.length≤1000
 step:∀ {u n s},Φ u n s→(b9 T tb p0 n s).aI=[]∨((b9 T tb p0 n s).aI.length≤1000∧b9 T tb p0 n s=cH (fh p0 s) (b9 T tb p0 n s).eQ.stack (b9 T tb p0 n s).aI∧
  ∀a∈(b9 T tb p0 n s).aI,∃b m:Nat,a=(b:Int)∧b<2*T.af.length∧aT T b=(m:Int)∧∃u',u'<u∧Φ u' m (b9 T tb p0 n s).eQ.stack)
def Jo(cs:List Int):Int:=cs.foldl (fun a c=>min (a+c) 1001) 0
def ja(aI:List Int)(cs:List Int):Int:=if aI=[] then 1 else Jo cs
def dw(n:Nat)(o:Out)(vs:List PV)(c:Int):List PV:=[num n,num o.dt,aw o.aI,.slice vs.length vs,flag false,num c]
inductive Good (T:ai) (tb:Nat→ee) (p0:eC) (Φ:Nat→Nat→List b7→Prop):PV→Nat→List b7→Int→Prop
 |mk {n:Nat} {s:List b7} {vs:List PV} {cs:List Int} {u:Nat}:Φ u n s→vs.length=(b9 T tb p0 n s).aI.length→cs.length=(b9 T tb p0 n s).aI.length→
   (∀i,i<(b9 T tb p0 n s).aI.length→Good T tb p0 Φ (vs.getD i .any) (aT T ((b9 T tb p0 n s).aI.getD i 0).toNat).toNat (b9 T tb p0 n s).eQ.stack (cs.getD i 0))→
   Good T tb p0 Φ (.aX (dw n (b9 T tb p0 n s) vs (ja (b9 T tb p0 n s).aI cs)) 0) n s (ja (b9 T tb p0 n s).aI cs)
theorem wS(cs:List Int)(c:Int):Jo (cs++[c])=min (Jo cs+c) 1001:=by simp[Jo]
section
variable {T:ai} {tb:Nat→ee} {p0:eC} {Φ:Nat→Nat→List b7→Prop}
theorem lU:∀(cs:List Int) (b:Int),0≤b→b≤1001→(∀c∈cs,0≤c)→0≤cs.foldl (fun a c=>min (a+c) 1001) b∧cs.foldl (fun a c=>min (a+c) 1001) b≤1001
 | [],b,h1,h2,_=>⟨h1,h2⟩
 |c::cs,b,h1,h2,h3=>by
  have:=h3 c (by simp)
  exact lU cs (min (b+c) 1001) (by omega) (by omega) (fun x hx=>h3 x (by simp[hx]))
theorem Good.bound{v:PV}{n:Nat}{s:List b7}{c:Int}(h:Good T tb p0 Φ v n s c):0≤c∧c≤1001:=by
 induction h with
 | @mk n s vs cs u _ _ h2 _ ih=>
  unfold ja
  split
  ·omega
  ·refine lU cs 0 (by omega) (by omega) fun c hc=>?_
   obtain⟨i,hi⟩:=List.getElem?_of_mem hc
   have hlt:=(List.getElem?_eq_some_iff.1 hi).1
   have:=(ih i (by rw[←h2];exact hlt)).1
   rw[List.getD_eq_getElem?_getD,hi]at this
   exact this
theorem Good.state{v:PV}{n:Nat}{s:List b7}{c:Int}(h:Good T tb p0 Φ v n s c):∃u,Φ u n s:=by
 cases h with
 |mk h _ _ _=>exact⟨_,h⟩
theorem Good.pure{v:PV}{n:Nat}{s:List b7}{c:Int}(h:Good T tb p0 Φ v n s c):IsPure v:=by
 induction h with
 | @mk n s vs cs u _ h1 _ _ ih=>
  haveI:aJ vs:=⟨fun i x hx=>by
   have hlt:=(List.getElem?_eq_some_iff.1 hx).1
   have:=ih i (by rw[←h1];exact hlt)
   rw[List.getD_eq_getElem?_getD,hx]at this
   exact this⟩
  unfold dw
  infer_instance
theorem Good.parts{v:PV}{n:Nat}{s:List b7}{c:Int}(h:Good T tb p0 Φ v n s c):∃vs cs,v= .aX (dw n (b9 T tb p0 n s) vs c) 0∧vs.length=(b9 T tb p0 n s).aI.length∧cs.length=(b9 T tb p0 n s).aI.length∧c=ja (b9 T tb p0 n s).aI cs∧
  ∀i,i<(b9 T tb p0 n s).aI.length→Good T tb p0 Φ (vs.getD i .any) (aT T ((b9 T tb p0 n s).aI.getD i 0).toNat).toNat (b9 T tb p0 n s).eQ.stack (cs.getD i 0):=by
 cases h with
 | @mk _ _ vs cs u h1 h2 h3 h4=>exact⟨vs,cs,rfl,h2,h3,rfl,h4⟩
inductive GH (T:ai) (tb:Nat→ee) (p0:eC):Nat→List b7→Nat→List b7→Prop
 |one {n m:Nat} {s:List b7} {a:Int}:a∈(b9 T tb p0 n s).aI→aT T a.toNat=(m:Int)→GH T tb p0 n s m (b9 T tb p0 n s).eQ.stack
 |more {n m:Nat} {s:List b7} {a:Int} {n':Nat} {s':List b7}:GH T tb p0 n' s' n s→a∈(b9 T tb p0 n s).aI→aT T a.toNat=(m:Int)→GH T tb p0 n' s' m (b9 T tb p0 n s).eQ.stack
theorem oP.one(R:oP T tb p0 Φ){u n m:Nat}{s:List b7}{a:Int}(h:Φ u n s)(ha:a∈(b9 T tb p0 n s).aI)(hm:aT T a.toNat=(m:Int)):∃u',u'<u∧Φ u' m (b9 T tb p0 n s).eQ.stack:=by
 rcases R.step h with h0|⟨_,_,h2⟩
 ·rw[h0]at ha;cases ha
 ·obtain⟨b,m',rfl,_,h3,u',h4,h5⟩:=h2 a ha
  rw[Int.toNat_natCast,h3]at hm
  have:m'=m:=by omega
  subst this
  exact⟨u',h4,h5⟩
theorem oP.Kr(R:oP T tb p0 Φ){n m:Nat}{s s':List b7}(h:GH T tb p0 n s m s'):∀ {u:Nat},Φ u n s→∃u',u'<u∧Φ u' m s':=by
 induction h with
 |one ha hm=>intro u hu;exact R.one hu ha hm
 |more _ ha hm ih=>
  intro u hu
  obtain⟨u1,h1,h2⟩:=ih hu
  obtain⟨u2,h3,h4⟩:=R.one h2 ha hm
  exact⟨u2,by omega,h4⟩
theorem oP.DO(R:oP T tb p0 Φ){n:Nat}{s:List b7}(h:GH T tb p0 n s n s):∀ {u:Nat},Φ u n s→False:=by
 intro u
 induction u using Nat.strongRecOn with
 |_ u ih=>
  intro hu
  obtain⟨u',h1,h2⟩:=R.Kr h hu
  exact ih u' h1 h2
end
end PW
end Go.Proofs.YtnegbdpggideiaaGreatDoor
namespace Go.Proofs.YtnegbdpggideiaaGreatDoor
namespace PW
open Go.RowKit cB Mem
inductive BW (i:Nat):cT→PV→PV→Prop
 |same {blk:cT} (p:PV):BW i blk p p
 |ptr {ty:TypeId} {xs:List PV} (off:Nat):BW i (.cells ty xs) (.ptr i off) (.aX xs off)
 |own {e s n:Nat} {xs:List PV}:BW i (.row e s n xs) (.own i) (.slice n xs)
def ki(i:Nat)(blk:cT)(xs ys:List PV):Prop:=ys.length=xs.length∧∀(j:Nat) x y,xs[j]? =some x→ys[j]? =some y→BW i blk x y
theorem ki.nil{i:Nat}{blk:cT}:ki i blk [] []:=⟨rfl,fun j x y h=>by simp at h⟩
theorem ki.cons{i:Nat}{blk:cT}{x y:PV}{xs ys:List PV}(h:BW i blk x y)(hs:ki i blk xs ys):ki i blk (x::xs) (y::ys):=⟨by simp[hs.1],fun j a b h1 h2=>by
 cases j with
 |zero=>simp at h1 h2;subst h1;subst h2;exact h
 |succ j=>exact hs.2 j a b (by simpa using h1) (by simpa using h2)⟩
theorem ki.refl{i:Nat}{blk:cT}(xs:List PV):ki i blk xs xs:=⟨rfl,fun j x y h1 h2=>by rw[h1]at h2;cases h2;exact .same _⟩
inductive uG (i:Nat) (blk:cT):cT→cT→Prop
 |same (b:cT):uG i blk b b
 |cells {ty:TypeId} {xs ys:List PV}:ki i blk xs ys→uG i blk (.cells ty xs) (.cells ty ys)
 |row {e s n:Nat} {xs ys:List PV}:ki i blk xs ys→uG i blk (.row e s n xs) (.row e s n ys)
 |mp {kv kv':List (Value×PV)}:kv'.map (·.1)=kv.map (·.1)→ki i blk (kv.map (·.2)) (kv'.map (·.2))→uG i blk (.mp kv) (.mp kv')
def DZ(i:Nat)(blk:cT)(σ σ':cd):Prop:=σ'.length=σ.length∧(σ'[i]? =some none)∧∀j,j≠i→(σ'[j]? =σ[j]? ∨∃b b',σ[j]? =some (some b)∧σ'[j]? =some (some b')∧uG i blk b b')
inductive yh (i:Nat) (blk:cT) (t:bY):bY→Prop
 |nil:yh i blk t []
 |cons {t':bY} (k:Nat) {p q:PV}:look k t=some p→BW i blk p q→yh i blk t t'→yh i blk t ((k,q)::t')
theorem yh.get{i:Nat}{blk:cT}{t t':bY}(h:yh i blk t t'):∀k q,look k t'=some q→∃p,look k t=some p∧BW i blk p q:=by
 induction h with
 |nil=>intro k q h;cases h
 |cons k h1 h2 _ ih=>
  intro j q hj
  simp only[look]at hj
  rw[Bool.cond_eq_ite]at hj
  split at hj
  ·rename_i he
   have:=Nat.eq_of_beq_eq_true he
   subst this
   cases hj
   exact⟨_,h1,h2⟩
  ·exact ih j q hj
section
variable {P:Program} {N L:Nat} {F:Nat→Prop} {base:Nat} {σ σ':cd} {E:Env} {w:World}
theorem BW.rep(hS:Sat F base σ E w){i:Nat}{blk:cT}(hi:σ[i]? =some (some blk)){p q:PV}(h:BW i blk p q):∀v,cD E w v p→cD (E.kill i) w v q:=by
 obtain⟨_,g⟩:=hS.kill i hi
 intro v hv
 cases h with
 |same _=>exact hv.goes g
 |own=>exact hS.seal hi hv
 | @ptr ty xs off=>
  obtain⟨b,cs,h1,h2,h3,h4⟩:=hS.blk i _ hi
  cases hv with
  |ptr _ _ b' hi' h=>
   have hb:b'=b:=by
    rcases h with h|⟨n,c,h⟩<;>rw[h1]at h<;>cases h
    rfl
   subst hb
   have:=cD.aX (E:=E.kill i) (w:=w) b' 0 off cs.toList xs (Array.getElem?_eq_some_iff.1 h3).1 (fun hM=>hM.2 (by rw[h1];rfl)) (fun j x hx=>by rw[Nat.zero_add];unfold World.cell?;simp only[h3];simpa using hx) h4.1 (fun j x u k1 k2=>(h4.2 j x u k1 k2).goes g)
   rw[Nat.zero_add]at this
   exact this
theorem ki.rep(hS:Sat F base σ E w){i:Nat}{blk:cT}(hi:σ[i]? =some (some blk)){xs ys:List PV}(h:ki i blk xs ys){cs:List Value}(hs:aU E w cs xs):aU (E.kill i) w cs ys:=
 ⟨hs.1.trans h.1.symm,fun j x u k1 k2=>by
  have hj:j<xs.length:=by rw[←h.1];exact(List.getElem?_eq_some_iff.1 k2).1
  exact(h.2 j xs[j] u (by simp[hj]) k2).rep hS hi x (hs.2 j x _ k1 (by simp[hj]))⟩
theorem uG.sat(hS:Sat F base σ E w){i:Nat}{blk:cT}(hi:σ[i]? =some (some blk)){b b':cT}(h:uG i blk b b'){v:Value}(hb:gm base E w v b):gm base (E.kill i) w v b':=by
 obtain⟨_,g⟩:=hS.kill i hi
 cases h with
 |same _=>exact hb.goes g (fun _ _=>rfl)
 |cells hl=>
  obtain⟨b',cs,h1,h2,h3,h4⟩:=hb
  exact⟨b',cs,h1,h2,h3,hl.rep hS hi h4⟩
 |row hl=>
  obtain⟨cs,h1,h2⟩:=hb
  exact⟨cs,h1,hl.rep hS hi h2⟩
 |mp hk hl=>
  obtain⟨r,es,ck,h1,h2,h3,h4,h5⟩:=hb
  exact⟨r,es,ck,h1,h2,h3,h4.trans hk.symm,hl.rep hS hi h5⟩
theorem so{i:Nat}{blk:cT}(hi:σ[i]? =some (some blk))(h:DZ i blk σ σ'){j:Nat}{b':cT}(hj:σ'[j]? =some (some b')):j≠i∧∃b,σ[j]? =some (some b)∧uG i blk b b':=by
 have hne:j≠i:=fun e=>by subst e;rw[h.2.1]at hj;cases hj
 refine⟨hne,?_⟩
 rcases h.2.2 j hne with h|⟨b,b2,h1,h2,h3⟩
 ·rw[h]at hj;exact⟨b',hj,.same _⟩
 ·rw[h2]at hj;cases hj;exact⟨b,h1,h3⟩
theorem Sat.JU(hS:Sat F base σ E w){i:Nat}{blk:cT}(hi:σ[i]? =some (some blk))(h:DZ i blk σ σ'):Sat F base σ' (E.kill i) w:=by
 obtain⟨h1,g⟩:=hS.kill i hi
 have key:∀ {j:Nat} {b':cT},σ'[j]? =some (some b')→∃b,(σ.set i none)[j]? =some (some b):=fun {j b'} hj=>by
  obtain⟨hne,b,hb,_⟩:=so hi h hj
  exact⟨b,by rw[List.getElem?_set,if_neg (Ne.symm hne)];exact hb⟩
 refine⟨h1.bl,fun b hb=>⟨(h1.fb b hb).1,fun j bl hj=>?_⟩,?_,fun b=>?_,fun j bl hj=>?_,fun j k bj bk b hj hk e1 e2=>?_,h1.gl⟩
 ·obtain⟨b2,hb2⟩:=key hj;exact(h1.fb b hb).2 j b2 hb2
 ·rw[h1.len,h.1,List.length_set]
 ·constructor
  ·intro hM
   rcases(h1.mm b).1 hM with hf|⟨j,bl,h3,h4⟩
   ·exact .inl hf
   ·obtain⟨hne,h5⟩:=gY h3
    rcases h.2.2 j hne with h6|⟨b1,b2,_,h7,_⟩
    ·exact .inr ⟨j,bl,by rw[h6];exact h5,h4⟩
    ·exact .inr ⟨j,b2,h7,h4⟩
  ·rintro(hf|⟨j,bl,h3,h4⟩)
   ·exact(h1.mm b).2 (.inl hf)
   ·obtain⟨b2,hb2⟩:=key h3;exact(h1.mm b).2 (.inr ⟨j,b2,hb2,h4⟩)
 ·obtain⟨_,b,hb,hf⟩:=so hi h hj
  exact hf.sat hS hi (hS.blk j b hb)
 ·obtain⟨b1,hb1⟩:=key hj
  obtain⟨b2,hb2⟩:=key hk
  exact h1.inj j k b1 b2 b hb1 hb2 e1 e2
theorem wV{c:Code}{t t':bY}{Q:Exit→St→Prop}(i:Nat){blk:cT}(hi:σ[i]? =some (some blk))(hσ:DZ i blk σ σ')(ht:yh i blk t t')(h:W P N L c ⟨t',σ'⟩ Q):W P N L c ⟨t,σ⟩ Q:=fun F base E₀ w₀ E a w hc hs=>by
 obtain⟨_,g⟩:=hs.sat.kill i hi
 refine h F base E₀ w₀ (E.kill i) a w (hc.on g (Below.refl _ _)) ⟨hs.sat.JU hi hσ,fun k q hq=>?_,hs.j9,hs.size⟩
 obtain⟨p,h1,h2⟩:=ht.get k q hq
 exact h2.rep hs.sat hi _ (hs.tmp k p h1)
theorem H8{ops:Array Oper}{l:List Oper}{t t':bY}{K:St→Prop}(i:Nat){blk:cT}(hi:σ[i]? =some (some blk))(hσ:DZ i blk σ σ')(ht:yh i blk t t')(h:WR P N L ops l ⟨t',σ'⟩ K):WR P N L ops l ⟨t,σ⟩ K:=by
 intro F base E₀ w₀ E a w hc hs Q j hQ hl
 obtain⟨_,g⟩:=hs.sat.kill i hi
 refine h F base E₀ w₀ (E.kill i) a w (hc.on g (Below.refl _ _)) ⟨hs.sat.JU hi hσ,fun k q hq=>?_,hs.j9,hs.size⟩ Q j hQ hl
 obtain⟨p,h1,h2⟩:=ht.get k q hq
 exact h2.rep hs.sat hi _ (hs.tmp k p h1)
end
end PW
end Go.Proofs.YtnegbdpggideiaaGreatDoor
namespace Go.Proofs.YtnegbdpggideiaaGreatDoor
namespace PW
open Go.RowKit cB Mem
def pE(l:List UInt8):Value:=.string ⟨l.toArray⟩
theorem bytes_beq(a b:List UInt8):((⟨a.toArray⟩:ByteArray)==⟨b.toArray⟩)=decide (a=b):=Bool.eq_iff_iff.2 (by
 rw[beq_toListBytes,beq_iff_eq,decide_eq_true_eq,ByteArray.toList_eq,ByteArray.toList_eq])
section
variable {P:Program} {kt:TypeId}
theorem Fw(b:Bool)(n:Nat)(hu:P.underlying kt=some .string)(a:List UInt8)(w:World):(Instr.checkKey b (n+1) kt (pE a)).run P w= .ok () w:=by
 simp only[Instr.checkKey,Sem.run_bind,run_underlying hu,Result.andThen_ok,Sem.run_pure,pE]
theorem HK(n:Nat)(hu:P.underlying kt=some .string)(a b:List UInt8)(w:World):(Op.equalIn (n+1) kt (pE a) (pE b)).run P w= .ok (decide (a=b)) w:=by
 have h:=run_equalIn_string w n kt ⟨a.toArray⟩ ⟨b.toArray⟩ hu
 rw[←beq_toListBytes,bytes_beq]at h
 exact h
theorem HL(hu:P.underlying kt=some .string):hZ P kt pE where
 nC:=fun b a w=>Fw b 9999 hu a w
 eql:=fun a b w=>HK _ hu a b w
 now:=⟨_,hu,.inl fun a b=>by simp only[Instr.sameNow,pE,bytes_beq]⟩
 bits:=fun a=>by
  show Instr.sameBits 10000 (.string ⟨a.toArray⟩) (.string ⟨a.toArray⟩)=true
  unfold Instr.sameBits
  show((⟨a.toArray⟩:ByteArray)==⟨a.toArray⟩)=true
  rw[bytes_beq]
  exact decide_eq_true rfl
variable {t:bY} {σ:cd} {o:Oper}
theorem EK{x y:Operand}{ty tz:TypeId}(ho:o.op= .binOp .neq ty x y tz)(hk:oL P ty=true)(hx:aC t x=some (.raw (.pointer none)))(hy:aC t y=some (.raw (.pointer none))):bm P σ t o (.raw (.bool false)):=by
 refine wJ ho hx hy fun w=>?_
 unfold oL at hk
 split at hk
 ·rename_i e hu
  have key:∀d,(Op.equalIn (d+1) ty (.pointer none) (.pointer none)).run P w= .ok true w:=fun d=>by
   simp only[Op.equalIn,Sem.run_bind,run_underlying hu,Result.andThen_ok,Sem.run_pure,Option.isNone_none]
  have:=key 9999
  simp only[Nat.reduceAdd]at this
  simp[eqGuard,binOp,Op.equal,Op.maxDepth,this]
 ·cases hk
theorem EV{x y:Operand}{ty tz:TypeId}{xs:List PV}{k:Nat}(ho:o.op= .binOp .neq ty x y tz)(hk:oL P ty=true)(hx:aC t x=some (.aX xs k))(hy:aC t y=some (.raw (.pointer none))):bm P σ t o (.raw (.bool true)):=by
 intro F base E ρ w hρ _ hT
 have h1:=ax hρ hT hx
 have h2:=ax hρ hT hy
 generalize hz:ρ x=z at h1
 generalize hz':ρ y=z' at h2
 cases h2
 cases h1 with
 |aX b o' _ cs _ hb hM hc hl hr=>
  simp only[execOp,ho,hz,hz',Sem.run_bind,eqGuard,binOp,lW hk,Result.andThen_ok,Sem.run_pure]
  exact bh (.raw _)
end
end PW
end Go.Proofs.YtnegbdpggideiaaGreatDoor
namespace Go.Proofs.YtnegbdpggideiaaGreatDoor
namespace PW
open Go.RowKit cB Mem Net eW
section
variable {T:ai} {k x:Int} {d:Nat} {st:Nat→Int} {p0:eC}
end
end PW
end Go.Proofs.YtnegbdpggideiaaGreatDoor
namespace Go.Proofs.YtnegbdpggideiaaGreatDoor
namespace PW
open Go.RowKit cB Mem Net eW
theorem sN{α:Type}[DecidableEq α]:∀(l m:List α),l.Nodup→(∀a∈l,a∈m)→l.length≤m.length
 | [],m,_,_=>Nat.zero_le _
 |a::l,m,hn,h=>by
  have ha:=h a (by simp)
  rw[List.nodup_cons]at hn
  have h2:=sN l (m.erase a) hn.2 (fun b hb=>(List.mem_erase_of_ne (fun e=>hn.1 (by rw[←e];exact hb))).2 (h b (by simp[hb])))
  rw[List.length_erase_of_mem ha]at h2
  have:=List.length_pos_of_mem ha
  simp only[List.length_cons]
  omega
section
variable {T:ai} {k x:Int} {d:Nat} {st:Nat→Int} {p0:eC}
noncomputable def IX(T:ai)(tb:Nat→ee)(p0:eC)(m a:Nat):Nat→Nat×List b7
 |0=>((aT T a).toNat,(b9 T tb p0 m []).eQ.stack)
 |j+1=>((aT T ((b9 T tb p0 (IX T tb p0 m a j).1 (IX T tb p0 m a j).2).aI.getD 0 0).toNat).toNat,(b9 T tb p0 (IX T tb p0 m a j).1 (IX T tb p0 m a j).2).eQ.stack)
def IY(T:ai)(k x:Int)(d:Nat)(st:Nat→Int)(p0:eC)(late:Bool)(u n:Nat)(s:List b7):Prop:=
 (Open T k x d n s∧u=if late then T.nodes.toNat+jl T (aG T k x) d n else 2*T.nodes.toNat+jl T [] d n)∨
  ∃(q:List Int) (m a j:Nat),kr T k x d n s q∧u=q.length∧q.length<T.nodes.toNat∧(m:Int)<T.nodes∧a<2*T.af.length∧j+q.length≤T.nodes.toNat∧IX T (Jn T (aG T k x) st) p0 m a j=(n,s)
theorem IY.FC{late:Bool}{u n:Nat}{s:List b7}(h:IY T k x d st p0 late u n s):Way T k x d late n s u:=by
 rcases h with h|⟨q,_,_,_,h1,h2,h3,_⟩
 ·exact .inl h
 ·exact .inr ⟨q,h1,h2,h3⟩
end
end PW
end Go.Proofs.YtnegbdpggideiaaGreatDoor
namespace Go.Proofs.YtnegbdpggideiaaGreatDoor
namespace PW
open Go.RowKit cB Mem Net eW
abbrev EC:=List (Nat×Nat×List b7)
section
variable (T:ai) (tb:Nat→ee) (p0:eC) (Φ:Nat→Nat→List b7→Prop)
def lG(op:EC)(n:Nat)(s:List b7)(v:PV):Prop:=(∃c,Good T tb p0 Φ v n s c)∨∃i,(i,n,s)∈op∧v= .ptr (i+8) 0
structure mU (op:EC) (kv:List (List UInt8×PV)) (L:List PV):Prop where
 D1:∀e∈kv,∃u n s,Φ u n s∧e.1=dS n s∧lG T tb p0 Φ op n s e.2
 nodup:(kv.map (·.1)).Nodup
 all:∀v∈L,∃n s,lG T tb p0 Φ op n s v
 len:L.length=kv.length
end
section
variable {T:ai} {tb:Nat→ee} {p0:eC} {Φ:Nat→Nat→List b7→Prop}
theorem lG.more{op:EC}{x:Nat×Nat×List b7}{n:Nat}{s:List b7}{v:PV}(h:lG T tb p0 Φ op n s v):lG T tb p0 Φ (x::op) n s v:=by
 rcases h with h|⟨i,h,e⟩
 ·exact .inl h
 ·exact .inr ⟨i,List.mem_cons_of_mem _ h,e⟩
theorem mU.push{op:EC}{kv:List (List UInt8×PV)}{L:List PV}(h:mU T tb p0 Φ op kv L){u n i:Nat}{s:List b7}(hΦ:Φ u n s)(hno:dS n s∉kv.map (·.1)):
  mU T tb p0 Φ ((i,n,s)::op) (kv++[(dS n s,.ptr (i+8) 0)]) (L++[.ptr (i+8) 0]) where
 D1:=fun e he=>by
  rcases List.mem_append.1 he with he|he
  ·obtain⟨u,n,s,h1,h2,h3⟩:=h.D1 e he
   exact⟨u,n,s,h1,h2,h3.more⟩
  ·rw[List.mem_singleton]at he
   subst he
   exact⟨u,n,s,hΦ,rfl,.inr ⟨i,List.mem_cons_self,rfl⟩⟩
 nodup:=by
  rw[List.map_append,List.nodup_append]
  refine⟨h.nodup,by simp,fun a ha b hb e=>?_⟩
  subst e
  simp only[List.map_cons,List.map_nil,List.mem_singleton]at hb
  subst hb
  exact hno ha
 all:=fun v hv=>by
  rcases List.mem_append.1 hv with hv|hv
  ·obtain⟨n,s,h1⟩:=h.all v hv
   exact⟨n,s,h1.more⟩
  ·rw[List.mem_singleton]at hv
   subst hv
   exact⟨n,s,.inr ⟨i,List.mem_cons_self,rfl⟩⟩
 len:=by simp[h.len]
theorem wE{i:Nat}{blk:cT}{Q Q':PV→Prop}(h:∀v,Q v→∃v',BW i blk v v'∧Q' v'):∀L:List PV,(∀v∈L,Q v)→∃L',ki i blk L L'∧∀v∈L',Q' v
 | [],_=>⟨[],.nil,fun v hv=>by cases hv⟩
 |v::L,hL=>by
  obtain⟨v',h1,h2⟩:=h v (hL v (by simp))
  obtain⟨L',h3,h4⟩:=wE h L (fun w hw=>hL w (by simp[hw]))
  exact⟨v'::L',.cons h1 h3,fun w hw=>by
   rcases List.mem_cons.1 hw with rfl|hw
   ·exact h2
   ·exact h4 w hw⟩
theorem Er{i:Nat}{blk:cT}{Q Q':List UInt8→PV→Prop}(h:∀k v,Q k v→∃v',BW i blk v v'∧Q' k v'):∀kv:List (List UInt8×PV),(∀e∈kv,Q e.1 e.2)→∃kv':List (List UInt8×PV),kv'.map (·.1)=kv.map (·.1)∧ki i blk (kv.map (·.2)) (kv'.map (·.2))∧∀e∈kv',Q' e.1 e.2
 | [],_=>⟨[],rfl,.nil,fun v hv=>by cases hv⟩
 |e::L,hL=>by
  obtain⟨v',h1,h2⟩:=h e.1 e.2 (hL e (by simp))
  obtain⟨L',h3,h4,h5⟩:=Er h L (fun w hw=>hL w (by simp[hw]))
  exact⟨(e.1,v')::L',by simp[h3],.cons h1 h4,fun w hw=>by
   rcases List.mem_cons.1 hw with rfl|hw
   ·exact h2
   ·exact h5 w hw⟩
theorem mU.close{op:EC}{i n:Nat}{s:List b7}{kv:List (List UInt8×PV)}{L:List PV}(h:mU T tb p0 Φ ((i,n,s)::op) kv L){ty:TypeId}{xs:List PV}{c:Int}(hg:Good T tb p0 Φ (.aX xs 0) n s c):
  ∃kv' L',mU T tb p0 Φ op kv' L'∧kv'.map (·.1)=kv.map (·.1)∧ki (i+8) (.cells ty xs) (kv.map (·.2)) (kv'.map (·.2))∧ki (i+8) (.cells ty xs) L L':=by
 have key:∀n1 s1 v,lG T tb p0 Φ ((i,n,s)::op) n1 s1 v→∃v',BW (i+8) (.cells ty xs) v v'∧lG T tb p0 Φ op n1 s1 v':=fun n1 s1 v hv=>by
  rcases hv with hv|⟨i1,h1,rfl⟩
  ·exact⟨v,.same _,.inl hv⟩
  ·rcases List.mem_cons.1 h1 with h1|h1
   ·cases h1
    exact⟨_,.ptr 0,.inl ⟨c,hg⟩⟩
   ·exact⟨_,.same _,.inr ⟨i1,h1,rfl⟩⟩
 obtain⟨kv',k1,k2,k3⟩:=Er (i:=i+8) (blk:=.cells ty xs) (Q:=fun k v=>∃u n1 s1,Φ u n1 s1∧k=dS n1 s1∧lG T tb p0 Φ ((i,n,s)::op) n1 s1 v) (Q':=fun k v=>∃u n1 s1,Φ u n1 s1∧k=dS n1 s1∧lG T tb p0 Φ op n1 s1 v) (fun k v ⟨u,n1,s1,h1,h2,h3⟩=>by
  obtain⟨v',h4,h5⟩:=key n1 s1 v h3
  exact⟨v',h4,u,n1,s1,h1,h2,h5⟩) kv h.D1
 obtain⟨L',l1,l2⟩:=wE (i:=i+8) (blk:=.cells ty xs) (Q:=fun v=>∃n1 s1,lG T tb p0 Φ ((i,n,s)::op) n1 s1 v) (Q':=fun v=>∃n1 s1,lG T tb p0 Φ op n1 s1 v) (fun v ⟨n1,s1,h3⟩=>by
  obtain⟨v',h4,h5⟩:=key n1 s1 v h3
  exact⟨v',h4,n1,s1,h5⟩) L h.all
 refine⟨kv',L',⟨k3,by rw[k1];exact h.nodup,l2,?_⟩,k1,k2,l1⟩
 have:=congrArg List.length k1
 simp only[List.length_map]at this
 rw[l1.1,h.len,this]
theorem mU.J2(R:oP T tb p0 Φ)(h12:T.nodes≤12){U:List (Nat×List b7)}(hU:∀ {u n s},Φ u n s→(n,s)∈U){op:EC}{kv:List (List UInt8×PV)}{L:List PV}(h:mU T tb p0 Φ op kv L):kv.length≤U.length:=by
 have key:∀kv:List (List UInt8×PV),(∀e∈kv,∃u n s,Φ u n s∧e.1=dS n s)→∃sts:List (Nat×List b7),sts.map (fun x=>dS x.1 x.2)=kv.map (·.1)∧∀x∈sts,x∈U:=fun kv=>by
  induction kv with
  |nil=>intro _;exact⟨[],rfl,fun x hx=>by cases hx⟩
  |cons e kv ih=>
   intro he
   obtain⟨u,n,s,h1,h2⟩:=he e (by simp)
   obtain⟨sts,h3,h4⟩:=ih (fun e h=>he e (by simp[h]))
   exact⟨(n,s)::sts,by simp[h3,h2],fun x hx=>by
    rcases List.mem_cons.1 hx with rfl|hx
    ·exact hU h1
    ·exact h4 x hx⟩
 obtain⟨sts,h1,h2⟩:=key kv (fun e he=>by
  obtain⟨u,n,s,h1,h2,_⟩:=h.D1 e he
  exact⟨u,n,s,h1,h2⟩)
 have hn:=h.nodup
 rw[←h1]at hn
 have hnd:sts.Nodup:=by
  unfold List.Nodup at hn ⊢
  rw[List.pairwise_map]at hn
  exact hn.imp fun hab e=>hab (by rw[e])
 have:=sN sts U hnd h2
 have h3:=congrArg List.length h1
 simp only[List.length_map]at h3
 omega
theorem mU.DV(R:oP T tb p0 Φ)(h12:T.nodes≤12){op:EC}{kv:List (List UInt8×PV)}{L:List PV}(h:mU T tb p0 Φ op kv L){u n:Nat}{s:List b7}(hΦ:Φ u n s)(hop:∀x∈op,GH T tb p0 x.2.1 x.2.2 n s){v:PV}(hv:dj (dS n s) kv=some v):∃c,Good T tb p0 Φ v n s c:=by
 obtain⟨u1,n1,s1,h1,h2,h3⟩:=h.D1 _ (iK hv)
 have a1:=R.node h1
 have a2:=R.node hΦ
 obtain⟨rfl,rfl⟩:=CL (by omega) (by omega) (R.small hΦ).1 (R.small h1).1 h2
 rcases h3 with h3|⟨i,h4,_⟩
 ·exact h3
 ·exact(R.DO (hop _ h4) h1).elim
theorem sz{κ:Type}[DecidableEq κ]{k:κ}:∀ {l:List (κ×PV)},dj k l=none→k∉l.map (·.1)
 | [],_=>by simp
 |(a,q)::l,h=>by
  simp only[dj]at h
  split at h
  ·cases h
  ·rename_i hne
   rw[List.map_cons,List.mem_cons]
   rintro(e|e)
   ·exact hne e
   ·exact sz h e
theorem nz{κ:Type}[DecidableEq κ]{k:κ}{p:PV}:∀ {l:List (κ×PV)},dj k l=none→ic k p l=l++[(k,p)]
 | [],_=>rfl
 |(a,q)::l,h=>by
  simp only[dj]at h
  split at h
  ·cases h
  ·rename_i hne
   simp only[ic]
   rw[if_neg hne,nz h]
   rfl
end
end PW
end Go.Proofs.YtnegbdpggideiaaGreatDoor
namespace Go.Proofs.YtnegbdpggideiaaGreatDoor
namespace PW
open Go.RowKit cB Mem Net eW
def JJ(P:Program)(ty:TypeId):Option (Nat×List Value):=match P.info? ty,P.underlying ty with
 |some it,some (.array _ e)=>match it.zero,P.info? e with
  |some z,some ie=>some (ie.size,z.cells.toList)
  |_,_=>none
 |_,_=>none
theorem xS{P:Program}{σ:cd}{t:bY}{o:Oper}{ty s:TypeId}{parts:Array (Nat×Operand)}{zero:List Value}{ps:List (Nat×List PV)}{xs:List PV}(ho:o.op= .build ty parts)(hk:JJ P ty=some (s,zero))(hp:hJ t parts.toList=some ps)
  (hf:jL (fun i=>some (i*s,s)) (zero.map .raw) ps=some xs):bm P σ t o (.agg xs):=by
 intro F base E ρ w hρ hS hT
 obtain⟨h1,h2⟩:=jH hρ hT parts.toList ps hp
 have hz:aU E w zero.toArray.toList (zero.map .raw):=⟨by simp,fun i x u k1 k2=>by
  simp only[List.getElem?_map,Option.map_eq_some_iff]at k2
  obtain⟨y,hy,rfl⟩:=k2
  simp only at k1
  rw[hy]at k1
  cases k1
  exact .raw _⟩
 obtain⟨cs,hc,hR⟩:=lA (fun i=>some (i*s,s)) _ ps zero.toArray _ xs hz h1 h2 hf
 have hb:P.built ty ((parts.map fun(i,x)=>(i,ρ x)).toList)=some cs:=by
  unfold JJ at hk
  split at hk
  ·rename_i it n e DV hu
   split at hk
   ·rename_i z ie hz' hie
    cases hk
    simp only[Program.built,DV,hu,hz',hie,Array.toList_map]
    simpa using hc
   ·cases hk
  ·cases hk
 have hrun:=run_build (P:=P) w ty (parts.map fun(i,x)=>(i,ρ x)) cs hb
 simp only[execOp,ho,Sem.run_bind,hrun,Result.andThen_ok,Sem.run_pure]
 exact bh (.agg cs xs (by have:=hR.1;rw[Array.length_toList]at this;exact this) (fun i x u k1 k2=>hR.2 i x u (by simpa using k1) k2))
theorem jg.H5{n:Nat}{xs ys:List PV}(hl:ys.length=xs.length)(h:∀(i:Nat) x y,xs[i]? =some x→ys[i]? =some y→jg x y):jg (.slice n xs) (.slice n ys):=fun E w v hv=>by
 cases hv with
 |bZ=>
  have:ys=[]:=List.eq_nil_of_length_eq_zero hl
  subst this
  exact .bZ
 |empty a c hc=>
  have:ys=[]:=List.eq_nil_of_length_eq_zero hl
  subst this
  exact .empty a c hc
 |slice b off _ c cs _ h0 h1 h2 hb hM hc hl2 hr=>
  exact .slice b off n c cs ys h0 h1 h2 hb hM hc (hl2.trans hl.symm) (fun i x u k1 k2=>by
   have hi:i<xs.length:=by rw[←hl];exact(List.getElem?_eq_some_iff.1 k2).1
   exact h i xs[i] u (by simp[hi]) k2 E w x (hr i x _ k1 (by simp[hi])))
def zj(T:ai)(n:Nat):ee:=⟨n,List.replicate T.nodes.toNat ⟨[],false,[]⟩,bJ T n⟩
noncomputable def Gu(T:ai)(k x:Int)(n:Nat)(s:Int):ee:=if nU k x n=true then zj T n else eX T (aG T k x) s n
noncomputable def pB(T:ai)(k x:Int)(l:List Int)(m:Nat):List ee:=(List.range m).map fun n=>Gu T k x n (eZ l n)
def xz(T:ai)(k x:Int)(l:List Int):Int:=if((ao T&&bV T k x)&&decide ((l.length:Int)=T.nodes))=true then(if dT T k x l=true then 0 else 7) else 1
noncomputable def Du(e:Int)(L:List ee):PV:=.tuple [iz (if e=0 then L else []),num e]
theorem DF{T:ai}{k x:Int}{l:List Int}{m:Nat}:pB T k x l (m+1)=pB T k x l m++[Gu T k x m (eZ l m)]:=by simp[pB,List.range_succ]
theorem A7(n:Nat):(dz [.raw (.slice none 0 0),.raw (.bool false),.raw (.slice none 0 0)] n).length=(dA (List.replicate n ⟨[],false,[]⟩)).length∧∀(i:Nat) x y,(dz [.raw (.slice none 0 0),.raw (.bool false),.raw (.slice none 0 0)] n)[i]? =some x→(dA (List.replicate n ⟨[],false,[]⟩))[i]? =some y→jg x y:=by
 induction n with
 |zero=>exact⟨rfl,fun i x y h=>by simp[dz]at h⟩
 |succ n ih=>
  refine⟨by simp only[dz,List.replicate_succ,dA,List.flatMap_cons,List.length_append]at ih ⊢;rw[ih.1];rfl,fun i x y h1 h2=>?_⟩
  simp only[dz,List.replicate_succ,dA,List.flatMap_cons]at h1 h2
  match i,h1,h2 with
  |0,h1,h2=>simp[kg]at h1 h2;subst h1 h2;exact .bZ
  |1,h1,h2=>simp[kg]at h1 h2;subst h1 h2;exact jg.refl _
  |2,h1,h2=>simp[kg]at h1 h2;subst h1 h2;exact .bZ
  |i+3,h1,h2=>exact ih.2 i x y (by simpa using h1) (by simpa[dA,kg]using h2)
theorem FA(T:ai)(n:Int)(X:ee)(h:Can Tryz.prog 67 [aP T,num n] (· = .tuple [fN X,num 0])):Can Tryz.prog 66 [num n,.aX (bx T) 0] (· = .tuple [fN X,num 0]):=by
 refine aE Tryz.func66 rfl Tryz.ntmps66 rfl<|aQ<|au 2 rfl<|aH [0,1,3] rfl ?_
 refine aQ<|au 2 rfl<|eA rfl (h) rfl<|au 4 rfl<|aH [3,4] rfl ?_
 exact aq<|⟨_,_,ay.of rfl,aB.pure (p:=.tuple [fN X,num 0]),rfl⟩
theorem Gw(T:ai)(k x n:Int)(X:ee)(h:Can Tryz.prog 55 [aP T,bU k x,num n] (· = .tuple [fN X,num 0])):Can Tryz.prog 68 [num n,.aX (bx T) 0,.aX (cj k x) 0] (· = .tuple [fN X,num 0]):=by
 refine aE Tryz.func68 rfl Tryz.ntmps68 rfl<|aQ<|au 2 rfl<|aH [0,1,2,4] rfl ?_
 refine aQ<|au 3 rfl<|eA rfl (h) rfl<|au 4 rfl<|aH [4,5] rfl ?_
 exact aq<|⟨_,_,ay.of rfl,aB.pure (p:=.tuple [fN X,num 0]),rfl⟩
theorem FE(T:ai)(k x n:Int)(X:ee)(h:Can Tryz.prog 70 [aP T,bU k x,num n] (· = .tuple [fN X,num 0])):Can Tryz.prog 69 [num n,.aX (bx T) 0,.aX (cj k x) 0] (· = .tuple [fN X,num 0]):=by
 refine aE Tryz.func69 rfl Tryz.ntmps69 rfl<|aQ<|au 2 rfl<|aH [0,1,2,4] rfl ?_
 refine aQ<|au 3 rfl<|eA rfl (h) rfl<|au 4 rfl<|aH [4,5] rfl ?_
 exact aq<|⟨_,_,ay.of rfl,aB.pure (p:=.tuple [fN X,num 0]),rfl⟩
theorem E0(T:ai)(k x n:Int)(X:ee)(h:Can Tryz.prog 72 [aP T,bU k x,num n] (· = .tuple [fN X,num 0])):Can Tryz.prog 71 [num n,.aX (bx T) 0,.aX (cj k x) 0] (· = .tuple [fN X,num 0]):=by
 refine aE Tryz.func71 rfl Tryz.ntmps71 rfl<|aQ<|au 2 rfl<|aH [0,1,2,4] rfl ?_
 refine aQ<|au 3 rfl<|eA rfl (h) rfl<|au 4 rfl<|aH [4,5] rfl ?_
 exact aq<|⟨_,_,ay.of rfl,aB.pure (p:=.tuple [fN X,num 0]),rfl⟩
theorem mb(x:ee):jC 0 x= .tuple [fN x,num 0]:=rfl
theorem Ij(T:ai)(k x:Int)(h12:T.nodes≤12)(hvc:(ao T&&bV T k x)=true){i:Nat}(hi:(i:Int)<T.nodes){s:Int}(hs:pR s=true){FS:List PV}(hFS:[.func 66 [.aX (bx T) 0],.func 68 [.aX (bx T) 0,.aX (cj k x) 0],.func 69 [.aX (bx T) 0,.aX (cj k x) 0],.func 71 [.aX (bx T) 0,.aX (cj k x) 0]]=FS):
  ∃f cap,FS[s.toNat]? =some (.func f cap)∧enters Tryz.prog f=true∧Can Tryz.prog f ([num i]++cap) (· = .tuple [fN (eX T (aG T k x) s i),num 0])∧aJ ([num i]++cap):=by
 have hv:=(Bool.and_eq_true_iff.1 hvc).1
 have hme:dL T k x=0:=by unfold dL;rw[if_pos hvc]
 have hn:bn T i=true:=by rw[aV];omega
 have htr:j7 T k x i=0:=by unfold j7;rw[if_pos hme,if_pos hn]
 have hch:cw T [] [(i:Int)]=0:=by
  unfold cw
  rw[hv]
  simp[bP,hn]
 subst hFS
 obtain⟨h0,h3⟩:=Bool.and_eq_true_iff.1 hs
 have h0:=of_decide_eq_true h0
 have h3:=of_decide_eq_true h3
 have h1:=C3 T i
 rw[hch,mb,Int.toNat_natCast]at h1
 have h2:=AB T k x i h12
 rw[if_pos hme,if_pos hn,mb,Int.toNat_natCast]at h2
 have h4:=Cw T k x i h12
 rw[htr,mb,Int.toNat_natCast]at h4
 have h5:=DR T k x i
 rw[htr,mb,Int.toNat_natCast]at h5
 rcases(by omega:s=0∨s=1∨s=2∨s=3)with e|e|e|e
 ·subst e
  exact⟨_,_,rfl,by kernel_rfl,FA T i _ h1,by infer_instance⟩
 ·subst e
  exact⟨_,_,rfl,by kernel_rfl,Gw T k x i _ h2,by infer_instance⟩
 ·subst e
  exact⟨_,_,rfl,by kernel_rfl,FE T k x i _ h4,by infer_instance⟩
 ·subst e
  exact⟨_,_,rfl,by kernel_rfl,E0 T k x i _ h5,by infer_instance⟩
theorem Ke:JJ Tryz.prog 100=some (1,[.nilFunc,.nilFunc,.nilFunc,.nilFunc]):=by kernel_rfl
theorem pO{T:ai}{k x:Int}{l:List Int}{m:Nat}:(pB T k x l m).length=m:=by simp[pB]
set_option maxHeartbeats 4000000 in
theorem sf(T:ai)(k x:Int)(l:List Int)(hl:l.length≤1000)(h12:T.nodes≤12):Can Tryz.prog 20 [aP T,bU k x,aw l] (· =Du (xz T k x l) (pB T k x l l.length)):=by
  obtain⟨q1,hq1⟩:∃q,(ao T&&bV T k x)=q:=⟨_,rfl⟩
  obtain⟨q2,hq2⟩:∃q,decide ((l.length:Int)≠T.nodes)=q:=⟨_,rfl⟩
  obtain⟨q3,hq3⟩:∃q,dT T k x l=q:=⟨_,rfl⟩
  have hE:xz T k x l=if(q1&& !q2)=true then(if q3=true then 0 else 7) else 1:=by
    unfold xz
    rw[hq1,hq3,←hq2]
    simp
  rw[hE]
  refine aE Tryz.func20 rfl Tryz.ntmps20 rfl<|ab (.a 4 rfl<|.k [2,3,4] rfl)<|aj<|bp 23 (.raw (.bool (!q1 ||q2))) [2,3,4] rfl ?_ ?_
  · refine .a 2 rfl<|.c rfl (hq1▸yo T k x) rfl<|.a 2 rfl<|?_
    cases q1
    · exact .a 6 rfl<|.k [23,2,3,4] rfl
    · exact .a 4 rfl<|.v (cb rfl (hq2)) rfl<|.a 1 rfl<|.k [23,2,3,4] rfl
  refine ah rfl (fun hc=>?_) (fun hc=>?_)
  · have hno:(q1&& !q2)=false:=by cases q1<;>cases q2<;>simp_all
    exact ab (.a 2 rfl<|.k [6,7] rfl)<|aq<|⟨_,_,ay.of rfl,aB.bG (an.cons aB.bZ (an.cons aB.pure an.nil)),by rw[hno];rfl⟩
  · obtain ⟨h1, rfl⟩ := Bool.or_eq_false_iff.1 hc
    have h1:q1=true:=by simpa using h1
    subst h1
    have hln:(l.length:Int)=T.nodes:=by have:=ff hq2;simpa using this
    refine ak<|aj<|ab (.a 3 rfl<|.c rfl (hq3▸mq T k x l hl) rfl<|.a 1 rfl<|.k [2,3,4,28] rfl)<|ah rfl (fun hc=>?_) (fun hc=>?_)
    · have h3:q3=false:=by simpa using hc
      subst h3
      exact ab (.a 2 rfl<|.k [6,7] rfl)<|aq<|⟨_,_,ay.of rfl,aB.bG (an.cons aB.bZ (an.cons aB.pure an.nil)),rfl⟩
    · have h3:q3=true:=by simpa using hc
      subst h3
      have hv:=(Bool.and_eq_true_iff.1 hq1).1
      have hll:=bO hv
      have hP1:dF k x (fun n=>pR (eZ l n)) l.length=true:=by
        have h:=hq3
        unfold dT at h
        split at h
        · exact(Bool.and_eq_true_iff.1 h).1
        · cases h
      refine ak<|aQ<|au 4 rfl<|bE (xS rfl Ke rfl rfl) rfl<|au 2 rfl<|aH [2,3,4,8] rfl ?_
      refine fR 8 0 0 rfl rfl ?_
      refine cZ [] (.c 2<|.c 3<|.c 4<|.c 8<|.nil) .nil rfl rfl ?_
      obtain⟨FS,hFS⟩:∃z:List PV,[.func 66 [.aX (bx T) 0],.func 68 [.aX (bx T) 0,.aX (cj k x) 0],.func 69 [.aX (bx T) 0,.aX (cj k x) 0],.func 71 [.aX (bx T) 0,.aX (cj k x) 0]]=z:=⟨_,rfl⟩
      have hFp:aJ FS:=by rw[←hFS];infer_instance
      rw[hFS]
      refine ab (.a 1 rfl<|.k [2,3,4,8,9] rfl)<|gQ 9 56 3 rfl ?_
      refine aj<|ab (.a 3 rfl<|.k [3,4,8,9,34,35,36] rfl)<|av<|ft [3,4,8,9,34,35,36] rfl<|br (fun r s=>∃i,i≤l.length∧r=l.length - i∧s=⟨[(3,.aX (bx T) 0),(4,.aX (cj k x) 0),(8,.aX FS 0),(9,.own 0),(34,aw l),(35,num l.length),(36,num i)],[some (.row 56 3 i (mB (pB T k x l i)))]⟩) l.length ⟨0,by omega,by omega,rfl⟩ ?_
      rintro r s ⟨i,hi,rfl,rfl⟩
      refine ab (.a 1 rfl<|.k [3,4,8,9,34,35,36,37] rfl)<|aj<|ah rfl (fun hc=>?_) (fun hc=>?_)
      · have hlt:i<l.length:=by have:=tt hc;omega
        have hil:(i:Int)<T.nodes:=by omega
        obtain⟨N,hN⟩:∃N:Nat,T.nodes=(N:Int):=⟨T.nodes.toNat,by omega⟩
        obtain⟨s,hs⟩:∃s,eZ l i=s:=⟨_,rfl⟩
        have hsl:l.getD i 0=s:=hs
        obtain⟨g,hg⟩:∃g,nU k x i=g:=⟨_,rfl⟩
        have hX:pB T k x l (i+1)=pB T k x l i++[Gu T k x i s]:=by rw[DF,hs]
        have hXg:Gu T k x i s=if g=true then zj T i else eX T (aG T k x) s i:=by unfold Gu;rw[hg]
        have hmL:(pB T k x l i).length=i:=pO
        obtain⟨L,hL⟩:∃L,pB T k x l i=L:=⟨_,rfl⟩
        obtain⟨X,hXX⟩:∃X,Gu T k x i s=X:=⟨_,rfl⟩
        rw[hL,hXX]at hX
        rw[hL]at hmL ⊢
        rw[hXX]at hXg
        refine ak<|aj<|av<|ab (.a 1 rfl<|.v (aL (i) rfl) rfl<|.v (aN rfl ((aA l i hlt).trans (by rw[hsl]))) rfl<|.a 2 rfl<|.k [3,4,8,9,10,11,34,35,36] rfl)<|aQ<|au 2 rfl<|bE (aN rfl ((show some (num T.nodes)=some (num (N:Int)) by rw[hN]))) rfl<|cn (dD rfl (bI.rk.get rfl) rfl rfl (rfl:(N:Int)=(N:Int)) (rfl:(N:Int)=(N:Int)) ⟨by unfold maxLen;omega,by omega⟩) rfl<|au 3 rfl<|aH [3,4,8,9,10,11,12,34,35,36] rfl ?_
        refine wV 1 (σ':=[some (.row 56 3 i (mB L)),none,some (.cells 56 [num i,.slice N (dz [.raw (.slice none 0 0),.raw (.bool false),.raw (.slice none 0 0)] N),.raw (.slice none 0 0)])]) (t':=[(3,.aX (bx T) 0),(4,.aX (cj k x) 0),(8,.aX FS 0),(9,.own 0),(10,num i),(11,num s),(12,.ptr 2 0),(34,aw l),(35,num l.length),(36,num i)]) (blk:=.row 76 3 N (dz [.raw (.slice none 0 0),.raw (.bool false),.raw (.slice none 0 0)] N)) rfl ⟨rfl,rfl,fun j hj=>by
          match j,hj with
          |0,_=>exact .inl rfl
          |1,h=>exact absurd rfl h
          |2,_=>exact .inr ⟨_,_,rfl,rfl,.cells (.cons (.same _)<|.cons .own<|.cons (.same _) .nil)⟩
          |_+3,_=>exact .inl rfl⟩ (.cons 3 rfl (.same _)<|.cons 4 rfl (.same _)<|.cons 8 rfl (.same _)<|.cons 9 rfl (.same _)<|.cons 10 rfl (.same _)<|.cons 11 rfl (.same _)<|.cons 12 rfl (.same _)<|.cons 34 rfl (.same _)<|.cons 35 rfl (.same _)<|.cons 36 rfl (.same _) .nil) ?_
        refine aj<|ab (.a 2 rfl<|.c rfl (hg▸sA k x i) rfl<|.k [3,4,8,9,10,11,12,34,35,36,48] rfl)<|ah rfl (fun hc=>?_) (fun hc=>?_)
        · subst hc
          rw[if_pos rfl]at hXg
          have hle:jg (.agg [num i,.slice N (dz [.raw (.slice none 0 0),.raw (.bool false),.raw (.slice none 0 0)] N),aw (bJ T i)]) (fN X):=by
            rw[hXg]
            have hz:=A7 N
            have hTN:T.nodes.toNat=N:=by omega
            refine jg.iH ⟨rfl,fun j a b h1 h2=>?_⟩
            match j,h1,h2 with
            |0,h1,h2=>cases h1;cases h2;exact jg.refl _
            |1,h1,h2=>
              cases h1;cases h2
              show jg (.slice N _) (.slice (List.replicate T.nodes.toNat (⟨[],false,[]⟩:iC)).length (dA (List.replicate T.nodes.toNat ⟨[],false,[]⟩)))
              rw[List.length_replicate,hTN]
              exact jg.H5 hz.1.symm hz.2
            |2,h1,h2=>cases h1;cases h2;exact jg.refl _
            |j+3,h1,h2=>exact absurd h1 (by simp)
          refine bF<|au 2 rfl<|eA rfl (nP T hll _) rfl<|au 2 rfl<|aH [3,4,8,9,12,34,35,36] rfl ?_
          refine bF<|au 1 rfl<|bE (CP (gd rfl (bI.tk.get rfl) rfl rfl rfl) hle) rfl<|au 1 rfl<|cn (bA rfl (bI.rk.get rfl) rfl rfl rfl rfl (by unfold maxLen;omega)) rfl<|au 1 rfl<|aH [3,4,8,9,34,35,36] rfl ?_
          refine cZ [3] (.c 3<|.c 4<|.c 8<|.cons 9 rfl (.own (i:=0) (j:=3) rfl)<|.c 34<|.c 35<|.c 36<|.nil) (.kept rfl (.row aD.pure) .nil) rfl rfl ?_
          refine az (.v (aS rfl) rfl<|.a 1 rfl<|.k [3,4,8,9,34,35,36] rfl) ?_
          exact⟨l.length - (i+1),by omega,i+1,by omega,rfl,by rw[hX,←rq];rfl⟩
        · subst hc
          have hle:jg (fN X) (fN X):=jg.refl _
          rw[if_neg (by decide)]at hXg
          have hos:pR s=true:=by
            rw[←hs]
            exact gR.1 hP1 i hlt hg
          obtain⟨f,cap,r1,r2,r3,r4⟩:=Ij T k x h12 hq1 hil hos hFS
          rw[←hXg]at r3
          obtain⟨hs0,hs3⟩:0≤s∧s<4:=by
            obtain⟨h0,h3⟩:=Bool.and_eq_true_iff.1 hos
            have h0:=of_decide_eq_true h0
            have h3:=of_decide_eq_true h3
            omega
          refine bF<|au 1 rfl<|bE (mA rfl (bI.ar.get rfl) rfl rfl hs0 hs3 (j:=s.toNat) (Nat.mul_one _)) rfl<|bE (aN rfl ((show FS[0+s.toNat]? =_ by rw[Nat.zero_add];exact r1))) rfl<|au 1 rfl<|bE (qJ rfl r2 rfl rfl r3) rfl<|au 4 rfl<|aH [3,4,8,9,12,34,35,36] rfl ?_
          refine bF<|au 1 rfl<|bE (CP (gd rfl (bI.tk.get rfl) rfl rfl rfl) hle) rfl<|au 1 rfl<|cn (bA rfl (bI.rk.get rfl) rfl rfl rfl rfl (by unfold maxLen;omega)) rfl<|au 1 rfl<|aH [3,4,8,9,34,35,36] rfl ?_
          refine cZ [3] (.c 3<|.c 4<|.c 8<|.cons 9 rfl (.own (i:=0) (j:=3) rfl)<|.c 34<|.c 35<|.c 36<|.nil) (.kept rfl (.row aD.pure) .nil) rfl rfl ?_
          refine az (.v (aS rfl) rfl<|.a 1 rfl<|.k [3,4,8,9,34,35,36] rfl) ?_
          exact⟨l.length - (i+1),by omega,i+1,by omega,rfl,by rw[hX,←rq];rfl⟩
      · have hie:i=l.length:=by have:=ff hc;omega
        subst hie
        exact bg<|ab (.a 3 rfl<|.k [6,7] rfl)<|aq<|⟨_,_,ay.of rfl,aB.bG (an.cons (aB.ew rfl an.pure) (an.cons aB.pure an.nil)),by show PV.tuple [.slice l.length (mB (pB T k x l l.length)),num 0]= .tuple [iz (pB T k x l l.length),num 0];unfold iz;rw[pO]⟩
end PW
end Go.Proofs.YtnegbdpggideiaaGreatDoor
