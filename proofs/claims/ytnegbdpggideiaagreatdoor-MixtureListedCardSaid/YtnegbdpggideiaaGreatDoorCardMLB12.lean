/- Texts of the proof, part 12. -/
import Derived.RangeFuncBox
import Derived.Lib.ItoaNum
import Derived.Laws.StructEq
import Derived.Test.YtnegbdpggideiaaGreatDoorCardMLB11
set_option linter.unusedVariables false
set_option linter.unusedSimpArgs false
set_option maxRecDepth 10000
set_option maxHeartbeats 1000000
namespace Go.Proofs.YtnegbdpggideiaaGreatDoor
namespace PW
open Go.RowKit cE Mem Net fk
def qQ(T:ai)(k x k' x':Int)(m:Nat):Bool:=(List.range m).all fun a=> !cB k x T.ae (a / 2)||cB k' x' T.ae (a / 2)
def rI(T:ai)(k x k' x':Int):Bool:=qQ T k x k' x' (2*T.ae.length)
theorem xk(T:ai)(k x k' x':Int)(m:Nat):qQ T k x k' x' (m+1)=(qQ T k x k' x' m&&(!cB k x T.ae (m / 2)||cB k' x' T.ae (m / 2))):=by simp[qQ,List.range_succ]
theorem lV{p:Nat→Bool}{m n:Nat}(h:((List.range m).all p)=false)(hmn:m≤n):((List.range n).all p)=false:=by
 rw[Bool.eq_false_iff]at h ⊢
 intro h'
 refine h (List.all_eq_true.2 fun a ha=>List.all_eq_true.1 h' a (List.mem_range.2 ?_))
 have:=List.mem_range.1 ha
 omega
theorem Cp(T:ai)(k x k' x':Int)(h1:(ao T&&bW T k x)=true)(h2:(ao T&&bW T k' x')=true):Can Tryz.prog 133 [aN T,bS k x,bS k' x'] (· =flag (rI T k x k' x')):=by
 have hll:=bO (Bool.and_eq_true_iff.1 h1).1
 refine aG Tryz.func133 rfl Tryz.ntmps133 rfl<|ab (.a 4 rfl<|.k [3,4,5] rfl)<|ak<|bu 17 (.raw (.bool (false))) [3,4,5] rfl ?_ ?_
 ·exact .a 2 rfl<|.c rfl (h1▸gg T k x) rfl<|.a 4 rfl<|.c rfl (h2▸gg T k' x') rfl<|.a 2 rfl<|.k [17,3,4,5] rfl
 refine ah rfl (fun h=>?_) (fun h=>?_)
 ·exact absurd h (by decide)
 ·clear h
  refine aj<|ak<|ab (.a 1 rfl<|.k [3,4,5,7] rfl)<|av<|fp [3,4,5,7] rfl<|bq (fun r st=>∃m,m≤2*T.ae.length∧r=2*T.ae.length - m∧qQ T k x k' x' m=true∧st=⟨[(3,.aX (bw T) 0),(4,.aX (cn k x) 0),(5,.aX (cn k' x') 0),(7,num m)],[]⟩) (2*T.ae.length) ⟨0,by omega,by omega,rfl,rfl⟩ ?_
  rintro r st ⟨m,hm,rfl,hw,rfl⟩
  refine ak<|ab (.a 4 rfl<|.v (aT rfl (hc:=rfl)) rfl<|.a 1 rfl<|.k [3,4,5,7,23] rfl)<|ah rfl (fun h3=>?_) (fun h3=>?_)
  ·have hlt:m<2*T.ae.length:=by have:=tt h3;omega
   have hst:=xk T k x k' x' m
   obtain⟨q1,hq1⟩:∃q,cB k x T.ae (m / 2)=q:=⟨_,rfl⟩
   obtain⟨q2,hq2⟩:∃q,cB k' x' T.ae (m / 2)=q:=⟨_,rfl⟩
   rw[hw,hq1,hq2]at hst
   refine aj<|ak<|av<|bu 36 (.raw (.bool (q1&& !q2))) [3,4,5,7] rfl ?_ ?_
   ·refine .a 3 rfl<|.c rfl (hq1▸tU T k x m hlt hll) rfl<|.a 1 rfl<|?_
    cases q1
    ·exact .a 6 rfl<|.k [36,3,4,5,7] rfl
    ·exact .a 3 rfl<|.c rfl (hq2▸tU T k' x' m hlt hll) rfl<|.a 2 rfl<|.k [36,3,4,5,7] rfl
   refine ah rfl (fun h4=>?_) (fun h4=>?_)
   ·obtain⟨e1,e2⟩:=Bool.and_eq_true_iff.1 h4
    have e2:q2=false:=by simpa using e2
    rw[e1,e2]at hst
    have hf:rI T k x k' x'=false:=lV hst (by omega)
    rw[hf]
    exact ab (.a 1 rfl<|.k [6] rfl)<|aq<|⟨_,_,az.of rfl,aC.pure,rfl⟩
   ·have hw2:qQ T k x k' x' (m+1)=true:=by rw[hst];cases q1<;>cases q2<;>first|rfl|cases h4
    refine aj<|aB (.a 1 rfl<|.v (aT rfl) rfl<|.a 1 rfl<|.k [3,4,5,7] rfl) ?_
    exact⟨2*T.ae.length - (m+1),by omega,m+1,by omega,rfl,hw2,rfl⟩
  ·have hme:m=2*T.ae.length:=by have:=ff h3;omega
   subst hme
   have hw:rI T k x k' x'=true:=hw
   rw[hw]
   exact bf<|ab (.a 1 rfl<|.k [6] rfl)<|aq<|⟨_,_,az.of rfl,aC.pure,rfl⟩
noncomputable def Ey(T:ai)(M:List Bool)(k x:Int)(a j:Nat):Bool:=(List.range j).all fun(d:Nat)=> !fY T M (bb T a) d||rI T k x (cX T a d).1 (cX T a d).2
noncomputable def Ip(T:ai)(M:List Bool)(k x:Int)(a:Nat):Bool:=(!aL M a||(decide (k=2)&&decide (bb T a=x)))||Ey T M k x a T.nodes.toNat
noncomputable def tQ(T:ai)(k x:Int)(m:Nat):Bool:=(List.range m).all fun a=>Ip T (ay T k x) k x a
noncomputable def rM(T:ai)(k x:Int):Bool:=(ao T&&bW T k x)&&tQ T k x (2*T.ae.length)
theorem Dq(T:ai)(M:List Bool)(k x:Int)(a j:Nat):Ey T M k x a (j+1)=(Ey T M k x a j&&(!fY T M (bb T a) j||rI T k x (cX T a j).1 (cX T a j).2)):=by simp[Ey,List.range_succ]
theorem sk(T:ai)(k x:Int)(m:Nat):tQ T k x (m+1)=(tQ T k x m&&Ip T (ay T k x) k x m):=by simp[tQ,List.range_succ]
theorem IF{T:ai}{k x:Int}{m:Nat}(hm:(ao T&&bW T k x)=true)(h:tQ T k x m=true)(hlt:m<2*T.ae.length)(ha:Ip T (ay T k x) k x m=false):rM T k x=false:=by
 unfold rM
 rw[hm,Bool.true_and]
 refine lV (m:=m+1) ?_ (by omega)
 have:=sk T k x m
 rw[h,ha]at this
 exact this
theorem B8(T:ai)(k x:Int):Can Tryz.prog 85 [aN T,bS k x] (· =flag (rM T k x)):=by
 obtain⟨q0,hq0⟩:∃q,(ao T&&bW T k x)=q:=⟨_,rfl⟩
 have hmk:=mg T k x
 unfold ig dM at hmk
 refine aG Tryz.func85 rfl Tryz.ntmps85 rfl<|ab (.a 3 rfl<|.k [2,3] rfl)<|ak<|ab (.a 2 rfl<|.c rfl (hq0▸gg T k x) rfl<|.a 1 rfl<|.k [2,3,15] rfl)<|ah rfl (fun h1=>?_) (fun h1=>?_)
 ·have h1:q0=false:=by simpa using h1
  have he:rM T k x=false:=by unfold rM;rw[hq0,h1];rfl
  rw[he]
  exact ab (.a 1 rfl<|.k [4] rfl)<|aq<|⟨_,_,az.of rfl,aC.pure,rfl⟩
 ·have h1:q0=true:=by simpa using h1
  subst h1
  obtain⟨hv,hc⟩:=Bool.and_eq_true_iff.1 hq0
  have hll:=bO hv
  have hN:=(aK hv).nodes
  rw[if_pos hq0,if_pos rfl]at hmk
  have hMl:=eF T k x
  have hstep:=fun m=>sk T k x m
  have hno:=fun m=>IF (m:=m) hq0
  obtain⟨M,hM⟩:∃M,ay T k x=M:=⟨_,rfl⟩
  rw[hM]at hmk hMl
  simp only[hM]at hstep hno
  obtain⟨N,hNN⟩:∃N:Nat,T.nodes=(N:Int):=⟨T.nodes.toNat,by omega⟩
  have hNt:T.nodes.toNat=N:=by omega
  refine aj<|ab (.a 2 rfl<|.c rfl (hmk) rfl<|.a 5 rfl<|.k [2,3,5] rfl)<|ak<|ab (.a 1 rfl<|.k [2,3,5,7] rfl)<|av<|fp [2,3,5,7] rfl<|bq (fun r st=>∃m,m≤2*T.ae.length∧r=2*T.ae.length - m∧tQ T k x m=true∧st=⟨[(2,.aX (bw T) 0),(3,.aX (cn k x) 0),(5,aY M),(7,num m)],[]⟩) (2*T.ae.length) ⟨0,by omega,by omega,rfl,rfl⟩ ?_
  rintro r st ⟨m,hm,rfl,hw,rfl⟩
  refine ak<|ab (.a 4 rfl<|.k [2,3,5,7,25] rfl)<|ah rfl (fun h3=>?_) (fun h3=>?_)
  ·have hlt:m<2*T.ae.length:=by have:=tt h3;omega
   have hst:=hstep m
   rw[hw,Bool.true_and]at hst
   obtain⟨n,hn⟩:=Int.eq_ofNat_of_zero_le ((aK hv).tail m hlt).1
   obtain⟨q1,hq1⟩:∃q,aL M m=q:=⟨_,rfl⟩
   obtain⟨q2,hq2⟩:∃q,decide (k=2)=q:=⟨_,rfl⟩
   obtain⟨q3,hq3⟩:∃q,decide (bb T m=x)=q:=⟨_,rfl⟩
   have hA:Ip T M k x m=((!q1 ||(q2&&q3))||Ey T M k x m N):=by unfold Ip;rw[hq1,hq2,hq3,hNt]
   clear h3
   refine aj<|ak<|av<|ab (.a 2 rfl<|.c rfl (gA T hv m hlt) rfl<|.a 1 rfl<|.k [2,3,5,7,8] rfl)<|ak<|bu 46 (.raw (.bool ((!q1)||(q2&&q3)))) [2,3,5,7,8] rfl ?_ ?_
   ·refine .a 2 rfl<|.v (aM (m) rfl) rfl<|.v (aO rfl ((show(bR M)[m]? =some (flag q1) by rw[cV _ m (by omega),eG,hq1]))) rfl<|.a 2 rfl<|?_
    cases q1
    ·exact .a 10 rfl<|.k [46,2,3,5,7,8] rfl
    ·refine .a 2 rfl<|.v (cg rfl (hq2)) rfl<|.a 1 rfl<|?_
     cases q2
     ·exact .a 6 rfl<|.k [46,2,3,5,7,8] rfl
     ·exact .a 3 rfl<|.v (cg rfl (hq3)) rfl<|.a 2 rfl<|.k [46,2,3,5,7,8] rfl
   refine ah rfl (fun h4=>?_) (fun h4=>?_)
   ·have hcv:tQ T k x (m+1)=true:=by rw[hst,hA,h4];rfl
    refine bf<|aB (.a 1 rfl<|.v (aT rfl) rfl<|.a 1 rfl<|.k [2,3,5,7] rfl) ?_
    exact⟨2*T.ae.length - (m+1),by omega,m+1,by omega,rfl,hcv,rfl⟩
   ·rw[h4,Bool.false_or]at hA
    refine aj<|ab (.a 1 rfl<|.k [2,3,5,7,8,9] rfl)<|av<|fp [2,3,5,7,8,9] rfl<|bq (fun r st=>∃j,j≤N∧r=N - j∧Ey T M k x m j=true∧st=⟨[(2,.aX (bw T) 0),(3,.aX (cn k x) 0),(5,aY M),(7,num m),(8,num (bb T m)),(9,num j)],[]⟩) N ⟨0,by omega,by omega,rfl,rfl⟩ ?_
    rintro r st ⟨j,hj,rfl,hd,rfl⟩
    refine ak<|ab (.a 2 rfl<|.v (aO rfl ((show some (num T.nodes)=some (num (N:Int)) by rw[hNN]))) rfl<|.a 1 rfl<|.k [2,3,5,7,8,9,50] rfl)<|ah rfl (fun h5=>?_) (fun h5=>?_)
    ·have hjl:j<N:=by have:=tt h5;omega
     have hds:=Dq T M k x m j
     rw[hd,Bool.true_and]at hds
     have hcm:(ao T&&bW T (cX T m j).1 (cX T m j).2)=true:=by rw[hv,wO hv hlt];rfl
     have hcn:=AW T m j hv hlt ⟨by omega,by omega⟩
     have hwn:=Cp T k x (cX T m j).1 (cX T m j).2 hq0 hcm
     generalize cX T m (j:Int)=cx at*
     obtain⟨ck,cy⟩:=cx
     simp only at hcm hcn hwn hds
     obtain⟨r1,hr1⟩:∃q,fY T M (bb T m) j=q:=⟨_,rfl⟩
     obtain⟨r2,hr2⟩:∃q,rI T k x ck cy=q:=⟨_,rfl⟩
     have hrr:=mO T M (bb T m) j
     rw[hr1]at hds hrr
     rw[hr2]at hds hwn
     refine aj<|ak<|av<|ak<|ab (.a 4 rfl<|.c rfl (hrr) rfl<|.a 1 rfl<|.k [2,3,5,7,8,9,58] rfl)<|ah rfl (fun h6=>?_) (fun h6=>?_)
     ·have h6:r1=false:=by simpa using h6
      have hd2:Ey T M k x m (j+1)=true:=by rw[hds,h6];rfl
      refine bf<|aB (.a 1 rfl<|.v (aT rfl) rfl<|.a 1 rfl<|.k [2,3,5,7,8,9] rfl) ?_
      exact⟨N - (j+1),by omega,j+1,by omega,rfl,hd2,rfl⟩
     ·have h6:r1=true:=by simpa using h6
      rw[h6]at hds
      refine aj<|aR<|au 3 rfl<|er rfl (hcn) rfl<|au 6 rfl<|aH [2,3,5,7,8,9,10] rfl ?_
      refine ab (.a 3 rfl<|.c rfl (hwn) rfl<|.a 1 rfl<|.k [2,3,5,7,8,9,70] rfl)<|ah rfl (fun h7=>?_) (fun h7=>?_)
      ·have h7:r2=false:=by simpa using h7
       rw[h7]at hds
       have hf:rM T k x=false:=hno m hw hlt (by rw[hA];exact lV hds (by omega))
       rw[hf]
       exact ab (.a 1 rfl<|.k [4] rfl)<|aq<|⟨_,_,az.of rfl,aC.pure,rfl⟩
      ·have h7:r2=true:=by simpa using h7
       have hd2:Ey T M k x m (j+1)=true:=by rw[hds,h7];rfl
       refine dp [] (.c 2<|.c 3<|.c 5<|.c 7<|.c 8<|.c 9<|.nil) .nil rfl rfl ?_
       refine aj<|aB (.a 1 rfl<|.v (aT rfl) rfl<|.a 1 rfl<|.k [2,3,5,7,8,9] rfl) ?_
       exact⟨N - (j+1),by omega,j+1,by omega,rfl,hd2,rfl⟩
    ·have hje:j=N:=by have:=ff h5;omega
     subst hje
     have hcv:tQ T k x (m+1)=true:=by rw[hst,hA,hd]
     refine bf<|aB (.a 1 rfl<|.v (aT rfl) rfl<|.a 1 rfl<|.k [2,3,5,7] rfl) ?_
     exact⟨2*T.ae.length - (m+1),by omega,m+1,by omega,rfl,hcv,rfl⟩
  ·have hme:m=2*T.ae.length:=by have:=ff h3;omega
   subst hme
   have hf:rM T k x=true:=by unfold rM;rw[hq0,hw];rfl
   rw[hf]
   exact bf<|ab (.a 1 rfl<|.k [4] rfl)<|aq<|⟨_,_,az.of rfl,aC.pure,rfl⟩
end PW
end Go.Proofs.YtnegbdpggideiaaGreatDoor
namespace Go.Proofs.YtnegbdpggideiaaGreatDoor
namespace PW
open Go.RowKit Go.Shelf cE Mem Net fk
attribute [local go_sem] Oper.semAt_some
theorem yr(T:ai)(k x:Int):Can Tryz.prog 65 [aN T,bS k x] (· =flag (ao T&&bW T k x)):=by
 obtain⟨q1,hq1⟩:∃q,ao T=q:=⟨_,rfl⟩
 obtain⟨q2,hq2⟩:∃q,bW T k x=q:=⟨_,rfl⟩
 rw[hq1,hq2]
 refine aG Tryz.func65 rfl Tryz.ntmps65 rfl<|ab (.a 3 rfl<|.k [2,3] rfl)<|bu 4 (.raw (.bool (q1&&q2))) [] rfl ?_ ?_
 ·refine .a 1 rfl<|.c rfl (hq1▸ej T) rfl<|.a 1 rfl<|?_
  cases q1
  ·exact .a 5 rfl<|.k [4] rfl
  ·exact .a 2 rfl<|.c rfl (hq2▸lE T k x) rfl<|.a 2 rfl<|.k [4] rfl
 exact aq<|⟨_,_,az.of rfl,aC.pure,rfl⟩
end PW
end Go.Proofs.YtnegbdpggideiaaGreatDoor
namespace Go.Proofs.YtnegbdpggideiaaGreatDoor
namespace PW
open Go.RowKit cE Mem Net fk
abbrev JB(p:Int×Int):Value:=.agg (oZ p)
theorem nn{T:ai}{k x:Int}{a:Nat}(ha:a<2*T.ae.length):aL (ay T k x) a=cB k x T.ae (a / 2):=by
 rw[←eG]
 unfold ay
 simp[ha]
def CI(T:ai)(k x:Int)(l:List ((Int×Int)×PV)):Prop:=∀c v,(c,v)∈l→v=flag (rI T k x c.1 c.2)
theorem CI.pure{T:ai}{k x:Int}{l:List ((Int×Int)×PV)}(h:CI T k x l):aJ ((fN JB l).map (·.2)):=⟨fun i u hu=>by
 have hm:=List.mem_of_getElem? hu
 simp only[fN,List.map_map,List.mem_map]at hm
 obtain⟨a,ha,rfl⟩:=hm
 have:=h a.1 a.2 ha
 show IsPure a.2
 rw[this]
 infer_instance⟩
theorem CI.set{T:ai}{k x:Int}{l:List ((Int×Int)×PV)}(h:CI T k x l)(c:Int×Int):CI T k x (ij c (flag (rI T k x c.1 c.2)) l):=fun c' v hm=>by
 rcases qq hm with e|e
 ·cases e;rfl
 ·exact h c' v e
end PW
end Go.Proofs.YtnegbdpggideiaaGreatDoor
namespace Go.Proofs.YtnegbdpggideiaaGreatDoor
namespace PW
open Go.RowKit cE Mem Net fk
end PW
end Go.Proofs.YtnegbdpggideiaaGreatDoor
namespace Go.Proofs.YtnegbdpggideiaaGreatDoor
namespace PW
open Go.RowKit cE Mem Net fk
end PW
end Go.Proofs.YtnegbdpggideiaaGreatDoor
namespace Go.Proofs.YtnegbdpggideiaaGreatDoor
namespace PW
open Go.RowKit cE Mem Net fk
section
variable {T:ai}
theorem Ch.last{D:List Bool}{d n:Nat}{p:List Int}(h:Ch T D d n p):n≠d→∃a,a<2*T.ae.length∧aL D a=false∧aS T a=(d:Int):=by
 induction h with
 |nil=>intro h;exact absurd rfl h
 | @cons n a m p h1 h2 h3 h4 _ _ ih=>
  intro _
  by_cases e:m=d
  ·subst e;exact⟨a,h1,h3,h4⟩
  ·exact ih e
theorem Fp(a:Nat):(bb T a=(cu T.ae (a / 2)).a∧aS T a=(cu T.ae (a / 2)).b)∨(bb T a=(cu T.ae (a / 2)).b∧aS T a=(cu T.ae (a / 2)).a):=by
 unfold aS bb Net.flip
 by_cases h:a % 2=0
 ·rw[if_pos h,if_pos h,if_neg (by omega),show(a+1) / 2=a / 2 by omega]
  exact .inl ⟨rfl,rfl⟩
 ·rw[if_neg h,if_neg h,if_pos (by omega),show(a - 1) / 2=a / 2 by omega]
  exact .inr ⟨rfl,rfl⟩
theorem JC{x:Int}{i:Nat}:cB 1 x T.ae i=decide ((i:Int)=x):=by simp[cB]
theorem JF{x:Int}{i:Nat}:cB 2 x T.ae i=(decide ((cu T.ae i).a=x)||decide ((cu T.ae i).b=x)):=by simp[cB]
end
end PW
end Go.Proofs.YtnegbdpggideiaaGreatDoor
namespace Go.Proofs.YtnegbdpggideiaaGreatDoor
namespace PW
open Go.RowKit cE Mem Net fk
section
variable {T:ai} {M D:List Bool} {n d:Nat}
theorem oc{x:dR}{d:Nat}{e:iE}(h:x.fh[d]? =some e):dy x (d:Int)=e:=by
 unfold dy
 rw[Int.toNat_natCast]
 exact lP _ _ _ h
theorem ow(hd:(d:Int)<T.nodes):dy (dB T D n) (d:Int)=⟨bx T D n d,false,[]⟩:=oc (FF (by omega))
theorem xG(hd:(d:Int)<T.nodes):dy (uE T D n) (d:Int)=jA T D n d:=oc (wi (by omega))
theorem yS(hd:(d:Int)<T.nodes):dy (qh T M n) (d:Int)=mP T (fE T M n) n d:=oc (wS (by omega))
noncomputable def fH(T:ai)(M:List Bool)(s:Int)(n:Nat):dR:=if s=0 then dB T [] n else if s=1 then qh T M n else if s=2 then uE T M n else dB T M n
theorem uj{E:List Bool}{a:Nat}{l:List Int}(h:(a:Int)∈cF E l):aL E a=true:=by
 have:=(List.mem_filter.1 h).2
 rwa [Int.toNat_natCast]at this
theorem pj(hv:ao T=true)(hn:(n:Int)<T.nodes){E:List Bool}(hf:bP T E=true)(hE:∀a,aL D a=false→aL E a=false):Gm T D n (dB T E n) where
 ok:=ku hv hn
 node:=rfl
 down:=fun a ha=>by
  have:=uj ha
  cases h:aL D a with
  |true=>rfl
  |false=>rw[hE a h]at this;cases this
 IJ:=fun y p hs=>by
  rw[ow hs.hy]
  exact⟨(hs.Hs hf hE).Cc.2.1,fun h=>by cases h⟩
theorem nW(hv:ao T=true)(h12:T.nodes≤12)(hn:(n:Int)<T.nodes)(hf:bP T M=true)(hM:∀a,aL D a=false→aL M a=false)(s:Int):Gm T D n (fH T M s n):=by
  unfold fH
  split
  · exact pj hv hn (jI T) (fun a _=>by simp[aL])
  · split
    · refine ⟨oO hv h12 hn, rfl, fun a ha => ?_, fun y p hs => ?_⟩
      · have:=uj ha
        cases h:aL D a with
        |true=>rfl
        |false=>rw[hM a h]at this;cases this
      · rw[yS hs.hy]
        have h1:=hs.Cc.1
        unfold mP
        have hno:kI (fE T M n) (bx T [] n y)=none:=by
          cases hh:kI (fE T M n) (bx T [] n y)with
          |none=>rfl
          |some a=>
            obtain⟨h2,h3⟩:=vK hh
            rw[h1,List.mem_singleton]at h2
            subst h2
            obtain⟨p0,pt,rfl⟩:∃p0 pt,p=p0::pt:=by
              cases p with
              |nil=>exact absurd hs.pos (by simp)
              |cons p0 pt=>exact⟨p0,pt,rfl⟩
            have h4:=hM _ (hs.up p0 (by simp))
            rw[nI]at h3
            simp only[List.getD_cons_zero,Bool.and_eq_true]at h3
            rw[h4]at h3
            exact absurd h3.2.1 (by decide)
        rw[hno]
        exact⟨h1,fun h=>by cases h⟩
    · split
      · refine⟨og hv h12 hn,rfl,fun a ha=>?_,fun y p hs=>?_⟩
        · have:=uj ha
          cases h:aL D a with
          |true=>rfl
          |false=>rw[hM a h]at this;cases this
        · rw[xG hs.hy,(hs.Hs hf hM).Cc.2.2]
          exact⟨rfl,fun _=>rfl⟩
      · exact pj hv hn hf hM
theorem zK{D':List Bool}(hv:ao T=true)(hd:(d:Int)<T.nodes)(hD:∀a,aL D a=aL D' a):dN T D d n=dN T D' d n:=by
 unfold dN
 rw[AX hv hd false hD]
theorem yI{k x:Int}(hv:ao T=true)(hcv:rM T k x=true)(hn:(n:Int)<T.nodes)(hd:(d:Int)<T.nodes)(hg:¬(k=2∧x=(n:Int)))(hr:0≤dN T (ay T k x) d n){a:Nat}(DB:aL (fE T (ay T k x) n) a=true):
  (∀b,aL (om T (fE T (ay T k x) n) n d a) b=false→aL (ay T k x) b=false)∧0≤dN T (om T (fE T (ay T k x) n) n d a) d n∧∀b,aL (om T (fE T (ay T k x) n) n d a) b=aL (ay T (cX T a d).1 (cX T a d).2) b:=by
 rw[nI]at DB
 simp only[Bool.and_eq_true,decide_eq_true_eq]at DB
 obtain⟨ha,hdn,ht⟩:=DB
 have hrb:fY T (ay T k x) (n:Int) d=true:=(mb hv (da T k x) hn hd).2 hr
 have hw:rI T k x (cX T a d).1 (cX T a d).2=true:=by
  unfold rM tQ at hcv
  have h1:=List.all_eq_true.1 (Bool.and_eq_true_iff.1 hcv).2 a (List.mem_range.2 ha)
  unfold Ip at h1
  rw[hdn,ht]at h1
  have h2:(decide (k=2)&&decide ((n:Int)=x))=false:=by
   rw[Bool.eq_false_iff]
   intro h
   obtain⟨h3,h4⟩:=Bool.and_eq_true_iff.1 h
   exact hg ⟨of_decide_eq_true h3,(of_decide_eq_true h4).symm⟩
  rw[h2]at h1
  have h3:Ey T (ay T k x) k x a T.nodes.toNat=true:=h1
  unfold Ey at h3
  have h4:=List.all_eq_true.1 h3 d (List.mem_range.2 (by omega))
  rw[ht,hrb]at h4
  exact h4
 have hin:∀b,aL (ay T k x) b=true→aL (ay T (cX T a d).1 (cX T a d).2) b=true:=fun b hb=>by
  have hbl:b<2*T.ae.length:=by
   rcases Nat.lt_or_ge b (2*T.ae.length)with h|h
   ·exact h
   ·rw[←eG,List.getD_eq_getElem?_getD,List.getElem?_eq_none (by rw[eF];omega)]at hb
    cases hb
  rw[nn hbl]at hb ⊢
  unfold rI qQ at hw
  have:=List.all_eq_true.1 hw b (List.mem_range.2 hbl)
  rw[hb]at this
  simpa using this
 have hrm:fY T (ay T (cX T a d).1 (cX T a d).2) (n:Int) d=true:=by
  have hF:=ht
  unfold cX
  split
  ·rename_i h;rw[ht]at h;exact(Bool.and_eq_true_iff.1 h).2
  ·split
   ·rename_i h;rw[ht]at h;exact(Bool.and_eq_true_iff.1 h).2
   ·rename_i h1 h2
    have he:cX T a d=(1,((a / 2:Nat):Int)):=by unfold cX;rw[if_neg h1,if_neg h2]
    rw[he]at hin
    rw[mb hv (da T _ _) hn hd]
    rw[←zK (D:=ay T k x) hv hd (fun b=>?_)]
    ·exact hr
    ·cases hb:aL (ay T k x) b with
     |true=>exact(hin b hb).symm
     |false=>
      symm
      by_cases hbl:b<2*T.ae.length
      ·rw[nn hbl]at hb ⊢
       rw[JC]
       refine decide_eq_false fun e=>?_
       have e:b / 2=a / 2:=by omega
       rw[nn ha,←e,hb]at hdn
       cases hdn
      ·rw[←eG,List.getD_eq_getElem?_getD,List.getElem?_eq_none (by rw[eF];omega)]
       rfl
 have heq:∀b,aL (orM T (ay T (cX T a d).1 (cX T a d).2) (fE T (ay T k x) n)) b=aL (ay T (cX T a d).1 (cX T a d).2) b:=fun b=>by
  rw[FX]
  by_cases hbl:b<2*T.ae.length
  ·rw[decide_eq_true hbl,Bool.true_and,nI,decide_eq_true hbl,Bool.true_and]
   cases h1:aL (ay T (cX T a d).1 (cX T a d).2) b with
   |true=>rfl
   |false=>
    cases h2:aL (ay T k x) b with
    |true=>rw[hin b h2]at h1;cases h1
    |false=>rfl
  ·rw[decide_eq_false hbl,Bool.false_and,←eG,List.getD_eq_getElem?_getD,List.getElem?_eq_none (by rw[eF];omega)]
   rfl
 have hro:fY T (orM T (ay T (cX T a d).1 (cX T a d).2) (fE T (ay T k x) n)) (n:Int) d=true:=by
  rw[mb hv (uw T _ _) hn hd,zK hv hd heq,←mb hv (da T _ _) hn hd]
  exact hrm
 have hmix:om T (fE T (ay T k x) n) n d a=orM T (ay T (cX T a d).1 (cX T a d).2) (fE T (ay T k x) n):=by
  unfold om
  rw[if_pos hro]
 rw[hmix]
 refine⟨fun b hb=>?_,(mb hv (uw T _ _) hn hd).1 hro,heq⟩
 rw[heq]at hb
 cases h:aL (ay T k x) b with
 |false=>rfl
 |true=>rw[hin b h]at hb;cases hb
end
end PW
end Go.Proofs.YtnegbdpggideiaaGreatDoor
namespace Go.Proofs.YtnegbdpggideiaaGreatDoor
namespace PW
open Go.RowKit cE Mem Net fk
section
variable {T:ai} {k x:Int} {d:Nat}
def Gn(k x:Int)(n:Nat):Prop:=k=2∧x=(n:Int)
structure Open (T:ai) (k x:Int) (d n:Nat) (s:List bY):Prop where
 nil:s=[]
 node:(n:Int)<T.nodes
 here:¬Gn k x n
 reach:0≤dN T (ay T k x) d n
structure fD (T:ai) (k x:Int) (d n:Nat) (s:List bY) (q:List Int):Prop where
 EB:∃D,(∀a,aL D a=false→aL (ay T k x) a=false)∧rN T D d n (fj ⟨1,(n:Int)⟩ s) q
 node:(n:Int)<T.nodes
 here:¬Gn k x n
 len:s.length≤32
theorem pN{a m:Nat}(ha:a<2*T.ae.length)(hu:aL (ay T k x) a=false)(hm:aS T a=(m:Int)):¬Gn k x m:=by
 rintro⟨rfl,rfl⟩
 rw[nn ha,JF,Bool.or_eq_false_iff,decide_eq_false_iff_not,decide_eq_false_iff_not]at hu
 rcases Fp (T:=T) a with h|h
 ·exact hu.2 (h.2.symm.trans hm)
 ·exact hu.1 (h.2.symm.trans hm)
theorem pL(hv:ao T=true){a m:Nat}(ha:a<2*T.ae.length)(hm:aS T a=(m:Int)):(m:Int)<T.nodes:=by rw[←hm];exact((aK hv).head a ha).2
structure sg (T:ai) (k x:Int) (n:Nat) (a:Int) (b m:Nat):Prop where
 eq:a=(b:Int)
 eM:b<2*T.ae.length
 tail:bb T b=(n:Int)
 head:aS T b=(m:Int)
 up:aL (ay T k x) b=false
theorem eY(hv:ao T=true)(h12:T.nodes≤12)(hd:(d:Int)<T.nodes){n:Nat}{s:List bY}{a:Int}{q:List Int}(h:fD T k x d n s (a::q))(st:Int){p:eU}(hp:p.dst=(d:Int))(hh:p.fB=0)(hs:p.stack=s):
  ∃(b m:Nat) (s':List bY),sg T k x n a b m∧dj T (fH T (ay T k x) st n) p=cd p s' [a]∧fD T k x d m s' q:=by
 obtain⟨D,hD,hl⟩:=h.EB
 subst hs
 obtain⟨m,s',h1,h2,h3,h4,h5,h6,h7,h8⟩:=AQ (nW hv h12 h.node (da T k x) hD st) hd hp hh rfl hl h.len
 obtain⟨b,rfl⟩:=Int.eq_ofNat_of_zero_le h2
 rw[Int.toNat_natCast]at h1 h3 h4 h5
 have hup:=hD b h5
 exact⟨b,m,s',⟨rfl,h3,h4,h1,hup⟩,h6,⟨D,hD,h8⟩,pL hv h3 h1,pN h3 hup h1,Nat.le_trans h7 h.len⟩
theorem fL(hv:ao T=true)(h12:T.nodes≤12)(hd:(d:Int)<T.nodes){n:Nat}{s:List bY}(h:fD T k x d n s [])(st:Int){p:eU}(hp:p.dst=(d:Int))(hs:p.stack=s):
  n=d∧(dj T (fH T (ay T k x) st n) p).aI=[]∧(dj T (fH T (ay T k x) st n) p).dI= -1:=by
 obtain⟨D,hD,hl⟩:=h.EB
 subst hs
 obtain⟨e1,e2⟩:=hl.end_
 exact⟨e2,o3 (nW hv h12 h.node (da T k x) hD st) hd hp e2 e1 h.len⟩
theorem qj(hv:ao T=true)(h12:T.nodes≤12)(hd:(d:Int)<T.nodes){s:List bY}(h:Open T k x d d s)(st:Int){p:eU}(hp:p.dst=(d:Int))(hs:p.stack=s):
  (dj T (fH T (ay T k x) st d) p).aI=[]∧(dj T (fH T (ay T k x) st d) p).dI= -1:=by
 have hn:=h.nil
 subst hs
 exact o3 (nW (D:=ay T k x) hv h12 h.node (da T k x) (fun _ h=>h) st) hd hp rfl (by rw[hn];rfl) (by rw[hn];simp)
theorem mR(hv:ao T=true)(h12:T.nodes≤12)(hd:(d:Int)<T.nodes){n:Nat}(hn:(n:Int)<T.nodes)(hne:n≠d){D:List Bool}(hf:bP T D=true)(hD:∀a,aL D a=false→aL (ay T k x) a=false)(hr:0≤dN T D d n){t:dR}(hok:dD T t=true)(htn:t.node=(n:Int))(he:dy t (d:Int)=jA T D n d){p:eU}(hp:p.dst=(d:Int))(hh:p.fB=0)(hs:p.stack=[]):
  ∃(b m:Nat) (s':List bY) (q:List Int),b9 T D n d=(b:Int)::q∧sg T k x n b b m∧dj T t p=cd p s' [(b:Int)]∧fD T k x d m s' q∧(q.length:Int)+1<T.nodes:=by
 have hsp:gu T D (n:Int) d=0:=by rw[jQ hv hf hn hd,if_neg (by omega)]
 obtain⟨n',d',e1,e2,hP⟩:=uq hsp (by omega)
 have e1:n=n':=by omega
 have e2:d=d':=by omega
 subst e1;subst e2
 have hent:=pE hP
 obtain⟨b,m,q,h1,h2,h3,h4,h5,h6⟩:=hP.enter
 have hpush:=vV T D (n:Int) d h12
 have hup:=hD b h4
 rw[h1]at hent
 rw[List.getD_cons_zero]at hent
 have hst:=sW hok htn hd hne hp hh (by rw[hs];rfl) (by rw[hs];simp) (by rw[he,hent];simp) (by rw[he];exact hpush)
 rw[he,hent,if_pos rfl]at hst
 rw[hent]at hpush
 rw[h1]at h6
 have hlen:=hP.len
 rw[h1,List.length_cons]at hlen
 exact⟨b,m,_,q,h1,⟨rfl,h2,h3,h5,hup⟩,hst,⟨⟨D,hD,h6⟩,pL hv h2 h5,pN h2 hup h5,hpush⟩,by omega⟩
theorem pf(hv:ao T=true)(hd:(d:Int)<T.nodes){n:Nat}(hn:(n:Int)<T.nodes)(hne:n≠d){E:List Bool}(hr:0≤dN T E d n){t:dR}(hok:dD T t=true)(htn:t.node=(n:Int))(he:dy t (d:Int)=⟨bx T E n d,false,[]⟩){p:eU}(hp:p.dst=(d:Int))(hh:p.fB=0)(hs:p.stack=[]):
  bx T E n d≠[]∧dj T t p=cd p [] (bx T E n d):=by
 obtain⟨j,hj⟩:=jt (D:=E) hv hn hd hne hr
 have hm:=eR hj ((aK hv).cost j hj.eM).1
 have hpos:0<(bx T E n d).length:=List.length_pos_of_mem hm
 have hst:=sW hok htn hd hne hp hh (by rw[hs];rfl) (by rw[hs];simp) (by rw[he];exact hpos) (by rw[he];simp)
 rw[he]at hst
 exact⟨fun e=>by rw[e]at hpos;exact absurd hpos (by simp),hst⟩
theorem xW(hv:ao T=true)(h12:T.nodes≤12)(hd:(d:Int)<T.nodes)(hcv:rM T k x=true)(hsafe:∀m:Nat,(m:Int)<T.nodes→¬Gn k x m→0≤dN T [] d m→0≤dN T (ay T k x) d m)
  {n:Nat} {s:List bY} (h:Open T k x d n s) (hne:n≠d) {st:Int} (hst:st=0∨st=1∨st=2) (hold:st=0→∀a,a<2*T.ae.length→bb T a=(n:Int)→aL (ay T k x) a=false) {p:eU} (hp:p.dst=(d:Int)) (hh:p.fB=0) (hs:p.stack=s):
  ∃aI s',dj T (fH T (ay T k x) st n) p=cd p s' aI∧aI≠[]∧∀a∈aI,∃b m:Nat,sg T k x n a b m∧((st≠2∧Open T k x d m s'∧dN T [] d n=dN T [] d m+cb T b∧0≤dN T [] d m)∨∃q,fD T k x d m s' q∧(q.length:Int)+1<T.nodes):=by
 have hnil:=h.nil
 subst hnil
 have hbare:0≤dN T [] d n:=CC hv h.node hd (fun a ha hu=>by simp[aL]) h.reach
 have hout:∀(t:dR),dD T t=true→t.node=(n:Int)→dy t (d:Int)=⟨bx T [] n d,false,[]⟩→(∀a∈bx T [] n d,aL (ay T k x) a.toNat=false)→st≠2→
   ∃aI s',dj T t p=cd p s' aI∧aI≠[]∧∀a∈aI,∃b m:Nat,sg T k x n a b m∧((st≠2∧Open T k x d m s'∧dN T [] d n=dN T [] d m+cb T b∧0≤dN T [] d m)∨∃q,fD T k x d m s' q∧(q.length:Int)+1<T.nodes):=fun t h1 h2 h3 h4 h5=>by
  obtain⟨e1,e2⟩:=pf hv hd h.node hne hbare h1 h2 h3 hp hh hs
  refine⟨_,_,e2,e1,fun a ha=>?_⟩
  obtain⟨b,rfl,hb⟩:=cO ha
  have hup:=h4 _ ha
  rw[Int.toNat_natCast]at hup
  obtain⟨m,hm⟩:=Int.eq_ofNat_of_zero_le ((aK hv).head b hb.eM).1
  obtain⟨c1,c2⟩:=hb.dN hm
  have hml:=pL hv hb.eM hm
  have hmh:=pN hb.eM hup hm
  exact⟨b,m,⟨rfl,hb.eM,hb.tail,hm,hup⟩,.inl ⟨h5,⟨rfl,hml,hmh,hsafe m hml hmh c1⟩,c2,c1⟩⟩
 rcases hst with rfl|rfl|rfl
 ·have ht:fH T (ay T k x) 0 n=dB T [] n:=by unfold fH;rw[if_pos rfl]
  rw[ht]
  exact hout _ (ku hv h.node) rfl (ow hd) (fun a ha=>by
   obtain⟨b,rfl,hb⟩:=cO ha
   rw[Int.toNat_natCast]
   exact hold rfl b hb.eM hb.tail) (by decide)
 ·have ht:fH T (ay T k x) 1 n=qh T (ay T k x) n:=by unfold fH;rw[if_neg (by decide),if_pos rfl]
  rw[ht]
  cases hh2:kI (fE T (ay T k x) n) (bx T [] n d)with
  |none=>
   have he:mP T (fE T (ay T k x) n) n d=⟨bx T [] n d,false,[]⟩:=by unfold mP;rw[hh2]
   refine hout _ (oO hv h12 h.node) rfl (by rw[yS hd,he]) (fun a ha=>?_) (by decide)
   obtain⟨b,rfl,hb⟩:=cO ha
   have h1:=DS hh2 _ ha
   rw[nI,Int.toNat_natCast,decide_eq_true hb.eM,Bool.true_and,hb.tail,decide_eq_true rfl,Bool.and_true]at h1
   rw[Int.toNat_natCast]
   exact h1
  |some a=>
   obtain⟨h1,h2⟩:=vK hh2
   obtain⟨c1,c2,_⟩:=yI hv hcv h.node hd h.here h.reach h2
   have he:mP T (fE T (ay T k x) n) n d=jA T (om T (fE T (ay T k x) n) n d a.toNat) n d:=by unfold mP;rw[hh2]
   obtain⟨b,m,s',q,e1,e2,e3,e4⟩:=mR hv h12 hd h.node hne (wo (D8 T _ _) _) c1 c2 (oO hv h12 h.node) rfl (by rw[yS hd,he]) hp hh hs
   exact⟨_,_,e3,by simp,fun a ha=>by
    rw[List.mem_singleton]at ha
    subst ha
    exact⟨b,m,e2,.inr ⟨q,e4⟩⟩⟩
 ·have ht:fH T (ay T k x) 2 n=uE T (ay T k x) n:=by unfold fH;rw[if_neg (by decide),if_neg (by decide),if_pos rfl]
  rw[ht]
  obtain⟨b,m,s',q,e1,e2,e3,e4⟩:=mR hv h12 hd h.node hne (da T k x) (fun _ h=>h) h.reach (og hv h12 h.node) rfl (xG hd) hp hh hs
  exact⟨_,_,e3,by simp,fun a ha=>by
   rw[List.mem_singleton]at ha
   subst ha
   exact⟨b,m,e2,.inr ⟨q,e4⟩⟩⟩
theorem ov(hv:ao T=true)(h12:T.nodes≤12)(hd:(d:Int)<T.nodes){n:Nat}{s:List bY}(h:Open T k x d n s)(hne:n≠d){st:Int}(hst:st≠0∧st≠1){p:eU}(hp:p.dst=(d:Int))(hh:p.fB=0)(hs:p.stack=s):
  ∃aI s',dj T (fH T (ay T k x) st n) p=cd p s' aI∧aI≠[]∧∀a∈aI,∃b m:Nat,sg T k x n a b m∧((st≠2∧Open T k x d m s'∧dN T (ay T k x) d n=dN T (ay T k x) d m+cb T b)∨(st=2∧∃q,b9 T (ay T k x) n d=a::q∧aI=[a]∧fD T k x d m s' q∧(q.length:Int)+1<T.nodes)):=by
 have hnil:=h.nil
 subst hnil
 by_cases h2:st=2
 ·subst h2
  have ht:fH T (ay T k x) 2 n=uE T (ay T k x) n:=by unfold fH;rw[if_neg (by decide),if_neg (by decide),if_pos rfl]
  rw[ht]
  obtain⟨b,m,s',q,e1,e2,e3,e4⟩:=mR hv h12 hd h.node hne (da T k x) (fun _ h=>h) h.reach (og hv h12 h.node) rfl (xG hd) hp hh hs
  exact⟨_,_,e3,by simp,fun a ha=>by
   rw[List.mem_singleton]at ha
   subst ha
   exact⟨b,m,e2,.inr ⟨rfl,q,e1,rfl,e4⟩⟩⟩
 ·have ht:fH T (ay T k x) st n=dB T (ay T k x) n:=by unfold fH;rw[if_neg hst.1,if_neg hst.2,if_neg h2]
  rw[ht]
  obtain⟨e1,e2⟩:=pf hv hd h.node hne h.reach (ku hv h.node) rfl (ow hd) hp hh hs
  refine⟨_,_,e2,e1,fun a ha=>?_⟩
  obtain⟨b,rfl,hb⟩:=cO ha
  obtain⟨m,hm⟩:=Int.eq_ofNat_of_zero_le ((aK hv).head b hb.eM).1
  obtain⟨c1,c2⟩:=hb.dN hm
  exact⟨b,m,⟨rfl,hb.eM,hb.tail,hm,hb.up⟩,.inl ⟨h2,⟨rfl,pL hv hb.eM hm,pN hb.eM hb.up hm,c1⟩,c2⟩⟩
end
end PW
end Go.Proofs.YtnegbdpggideiaaGreatDoor
namespace Go.Proofs.YtnegbdpggideiaaGreatDoor
namespace PW
open Go.RowKit cE Mem Net fk
section
variable {T:ai} {k x:Int} {d:Nat}
noncomputable def jC(T:ai)(D:List Bool)(d n:Nat):Nat:=((List.range T.nodes.toNat).filter fun m=>decide (0≤dN T D d m)&&decide (dN T D d m<dN T D d n)).length
theorem ui{D:List Bool}{n:Nat}(hn:(n:Int)<T.nodes):jC T D d n<T.nodes.toNat:=by
 unfold jC
 have h:((List.range T.nodes.toNat).filter fun m=>decide (0≤dN T D d m)&&decide (dN T D d m<dN T D d n)).length<(List.range T.nodes.toNat).length:=by
  refine List.length_filter_lt_length_iff_exists.2 ⟨n,List.mem_range.2 (by omega),?_⟩
  simp
 simpa using h
theorem filter_lt{α:Type}{p q:α→Bool}{l:List α}{a:α}(hpq:∀b∈l,p b=true→q b=true)(ha:a∈l)(hp:p a=false)(hq:q a=true):(l.filter p).length<(l.filter q).length:=by
 have e:l.filter p=(l.filter q).filter p:=by
  rw[List.filter_filter]
  refine List.filter_congr fun b hb=>?_
  cases h:p b with
  |false=>simp
  |true=>simp[hpq b hb h]
 rw[e]
 exact List.length_filter_lt_length_iff_exists.2 ⟨a,List.mem_filter.2 ⟨ha,hq⟩,by rw[hp];simp⟩
theorem u7{D:List Bool}{n m:Nat}(hm:(m:Int)<T.nodes)(h0:0≤dN T D d m)(h:dN T D d m<dN T D d n):jC T D d m<jC T D d n:=by
 unfold jC
 refine filter_lt (a:=m) (fun b _ hb=>?_) (List.mem_range.2 (by omega)) (by simp) (by simp[h0,h])
 simp only[Bool.and_eq_true,decide_eq_true_eq]at hb ⊢
 exact⟨hb.1,by omega⟩
def Way(T:ai)(k x:Int)(d:Nat)(late:Bool)(n:Nat)(s:List bY)(u:Nat):Prop:=
 (Open T k x d n s∧u=if late then T.nodes.toNat+jC T (ay T k x) d n else 2*T.nodes.toNat+jC T [] d n)∨∃q,fD T k x d n s q∧u=q.length∧q.length<T.nodes.toNat
def Perm(T:ai)(k x:Int)(late:Bool)(st:Nat→Int):Prop:=
 ∀n:Nat,(n:Int)<T.nodes→¬Gn k x n→if late then st n≠0∧st n≠1 else(st n=0∨st n=1∨st n=2)∧(st n=0→∀a,a<2*T.ae.length→bb T a=(n:Int)→aL (ay T k x) a=false)
theorem Way.on{n:Nat}{s:List bY}{u:Nat}(h:Way T k x d false n s u):∃u',u'≤u∧Way T k x d true n s u':=by
 rcases h with⟨h,rfl⟩|⟨q,h,rfl,hl⟩
 ·have h1:=ui (D:=ay T k x) (d:=d) h.node
  refine⟨T.nodes.toNat+jC T (ay T k x) d n,?_,.inl ⟨h,?_⟩⟩
  ·rw[if_neg (by simp)];omega
  ·rw[if_pos rfl]
 ·exact⟨_,Nat.le_refl _,.inr ⟨q,h,rfl,hl⟩⟩
theorem wq(hv:ao T=true)(h12:T.nodes≤12)(hd:(d:Int)<T.nodes){late:Bool}(hcv:late=false→rM T k x=true)(hsafe:late=false→∀m:Nat,(m:Int)<T.nodes→¬Gn k x m→0≤dN T [] d m→0≤dN T (ay T k x) d m)
  {st:Nat→Int} (hp:Perm T k x late st) {n:Nat} {s:List bY} {u:Nat} (h:Way T k x d late n s u) {p:eU} (hpd:p.dst=(d:Int)) (hh:p.fB=0) (hs:p.stack=s):
  (n=d∧(dj T (fH T (ay T k x) (st n) n) p).aI=[]∧(dj T (fH T (ay T k x) (st n) n) p).dI= -1)∨
  ∃aI s',dj T (fH T (ay T k x) (st n) n) p=cd p s' aI∧aI≠[]∧∀a∈aI,∃b m:Nat,sg T k x n a b m∧∃u',u'<u∧Way T k x d late m s' u':=by
 have hS:=aK hv
 rcases h with⟨h,rfl⟩|⟨q,h,rfl,hl⟩
 ·by_cases hne:n=d
  ·subst hne
   exact .inl ⟨rfl,qj hv h12 hd h (st n) hpd hs⟩
  ·refine .inr ?_
   have hpn:=hp n h.node h.here
   cases late with
   |true=>
    rw[if_pos rfl]at hpn
    obtain⟨aI,s',e1,e2,e3⟩:=ov hv h12 hd h hne hpn hpd hh hs
    refine⟨aI,s',e1,e2,fun a ha=>?_⟩
    obtain⟨b,m,g,hc⟩:=e3 a ha
    refine⟨b,m,g,?_⟩
    rcases hc with⟨_,ho,hdist⟩|⟨_,q,_,_,hL,hq⟩
    ·have hc1:=hS.cost b g.eM
     have:=u7 (d:=d) (n:=n) ho.node ho.reach (by omega)
     exact⟨_,by rw[if_pos rfl,if_pos rfl];omega,.inl ⟨ho,rfl⟩⟩
    ·exact⟨q.length,by rw[if_pos rfl];omega,.inr ⟨q,hL,rfl,by omega⟩⟩
   |false=>
    rw[if_neg (by simp)]at hpn
    obtain⟨aI,s',e1,e2,e3⟩:=xW hv h12 hd (hcv rfl) (hsafe rfl) h hne hpn.1 hpn.2 hpd hh hs
    refine⟨aI,s',e1,e2,fun a ha=>?_⟩
    obtain⟨b,m,g,hc⟩:=e3 a ha
    refine⟨b,m,g,?_⟩
    rcases hc with⟨_,ho,hdist,h0⟩|⟨q,hL,hq⟩
    ·have hc1:=hS.cost b g.eM
     have:=u7 (D:=[]) (d:=d) (n:=n) ho.node h0 (by omega)
     exact⟨_,by rw[if_neg (by simp),if_neg (by simp)];omega,.inl ⟨ho,rfl⟩⟩
    ·exact⟨q.length,by rw[if_neg (by simp)];omega,.inr ⟨q,hL,rfl,by omega⟩⟩
 ·cases q with
  |nil=>exact .inl (fL hv h12 hd h (st n) hpd hs)
  |cons a q=>
   obtain⟨b,m,s',g,e1,e2⟩:=eY hv h12 hd h (st n) hpd hh hs
   refine .inr ⟨[a],s',e1,by simp,fun c hc=>?_⟩
   rw[List.mem_singleton]at hc
   subst hc
   simp only[List.length_cons]at hl ⊢
   exact⟨b,m,g,q.length,by omega,.inr ⟨q,e2,rfl,by omega⟩⟩
end
end PW
end Go.Proofs.YtnegbdpggideiaaGreatDoor
namespace Go.Proofs.YtnegbdpggideiaaGreatDoor
namespace PW
open Go.RowKit cE Mem Net fk
def cS(p:eU)(s:List bY):eU:=⟨p.id,p.src,p.dst,p.qg,s,0⟩
inductive Br (T:ai) (tb:Nat→dR) (p0:eU):Nat→List bY→List Int→Nat→Int→Prop
 |stop {n:Nat} {s:List bY}:(dj T (tb n) (cS p0 s)).aI=[]→Br T tb p0 n s [] n (dj T (tb n) (cS p0 s)).dI
 |go {n m e:Nat} {s:List bY} {a:Int} {p:List Int} {w:Int}:a∈(dj T (tb n) (cS p0 s)).aI→aS T a.toNat=(m:Int)→Br T tb p0 m (dj T (tb n) (cS p0 s)).ft.stack p e w→Br T tb p0 n s (a::p) e w
section
variable {T:ai} {k x:Int} {d:Nat} {st:Nat→Int} {p0:eU}
noncomputable def lr(T:ai)(M:List Bool)(st:Nat→Int)(n:Nat):dR:=fH T M (st n) n
theorem AK(hv:ao T=true)(h12:T.nodes≤12)(hd:(d:Int)<T.nodes)(hp0:p0.dst=(d:Int)){n e:Nat}{s:List bY}{p:List Int}{w:Int}(hb:Br T (lr T (ay T k x) st) p0 n s p e w):∀ {q:List Int},fD T k x d n s q→p=q∧e=d∧w= -1∧∀a∈p,aL (ay T k x) a.toNat=false:=by
 induction hb with
 | @stop n s h0=>
  intro q h
  cases q with
  |nil=>
   obtain⟨e1,e2,e3⟩:=fL hv h12 hd h (st n) (p:=cS p0 s) hp0 rfl
   exact⟨rfl,e1,e3,fun a ha=>by cases ha⟩
  |cons a q=>
   obtain⟨b,m,s',g,e1,e2⟩:=eY hv h12 hd h (st n) (p:=cS p0 s) hp0 rfl rfl
   rw[show lr T (ay T k x) st n=fH T (ay T k x) (st n) n from rfl,e1]at h0
   cases h0
 | @go n m e s a p w ha hm hr ih=>
  intro q h
  cases q with
  |nil=>
   obtain⟨e1,e2,e3⟩:=fL hv h12 hd h (st n) (p:=cS p0 s) hp0 rfl
   rw[show lr T (ay T k x) st n=fH T (ay T k x) (st n) n from rfl,e2]at ha
   cases ha
  |cons c q=>
   obtain⟨b,m',s',g,e1,e2⟩:=eY hv h12 hd h (st n) (p:=cS p0 s) hp0 rfl rfl
   rw[show lr T (ay T k x) st n=fH T (ay T k x) (st n) n from rfl,e1]at ha ih
   have ha:a∈[c]:=ha
   rw[List.mem_singleton]at ha
   subst ha
   have hmm:m=m':=by
    have h1:=g.head
    rw[g.eq,Int.toNat_natCast,h1]at hm
    omega
   subst hmm
   obtain⟨i1,i2,i3,i4⟩:=ih e2
   refine⟨by rw[i1],i2,i3,fun c hc=>?_⟩
   rcases List.mem_cons.1 hc with rfl|hc
   ·rw[g.eq,Int.toNat_natCast];exact g.up
   ·exact i4 c hc
theorem DU(hv:ao T=true)(h12:T.nodes≤12)(hd:(d:Int)<T.nodes)(hp0:p0.dst=(d:Int)){n e:Nat}{s:List bY}{p:List Int}{w:Int}(hb:Br T (lr T (ay T k x) st) p0 n s p e w)(h:Open T k x d n s)(h2:st n=2):p=b9 T (ay T k x) n d∧e=d∧w= -1:=by
 by_cases hne:n=d
 ·subst hne
  have hz:b9 T (ay T k x) n n=[]:=(dU (D:=ay T k x) hv h.node h.node h.reach).self
  rw[hz]
  obtain⟨e1,e2⟩:=qj hv h12 hd h (st n) (p:=cS p0 s) hp0 rfl
  cases hb with
  |stop _=>exact⟨rfl,rfl,e2⟩
  |go ha _ _=>
   rw[show lr T (ay T k x) st n=fH T (ay T k x) (st n) n from rfl,e1]at ha
   cases ha
 ·obtain⟨aI,s',e1,e2,e3⟩:=ov hv h12 hd h hne (st:=st n) (by rw[h2];decide) (p:=cS p0 s) hp0 rfl rfl
  cases hb with
  |stop h0=>
   rw[show lr T (ay T k x) st n=fH T (ay T k x) (st n) n from rfl,e1]at h0
   exact absurd h0 e2
  | @go _ m _ _ a p _ ha hm hr=>
   rw[show lr T (ay T k x) st n=fH T (ay T k x) (st n) n from rfl,e1]at ha hr
   obtain⟨b,m',g,hc⟩:=e3 a ha
   have hmm:m=m':=by
    have h1:=g.head
    rw[g.eq,Int.toNat_natCast,h1]at hm
    omega
   subst hmm
   rcases hc with⟨h4,_,_⟩|⟨_,q,e4,_,hL,_⟩
   ·exact absurd h2 h4
   ·obtain⟨i1,i2,i3,_⟩:=AK hv h12 hd hp0 hr hL
    exact⟨by rw[e4,i1],i2,i3⟩
end
end PW
end Go.Proofs.YtnegbdpggideiaaGreatDoor
namespace Go.Proofs.YtnegbdpggideiaaGreatDoor
namespace PW
open Go.RowKit cE Mem Net fk
section
variable {T:ai} {D D':List Bool} {k x:Int} {d:Nat} {st:Nat→Int} {p0:eU}
end
end PW
end Go.Proofs.YtnegbdpggideiaaGreatDoor
namespace Go.Proofs.YtnegbdpggideiaaGreatDoor
namespace PW
open Go.RowKit cE Mem Net fk
def oo(k x n:Int):Bool:=decide (k=2)&&decide (x=n)
def pB(T:ai)(k x:Int)(n:Nat):Bool:=(List.range (2*T.ae.length)).any fun a=>aL (ay T k x) a&&decide (bb T a=(n:Int))
def pH(s:Int):Bool:=decide (0≤s)&&decide (s≤3)
def rS(c:Bool)(s:Int):Bool:= !decide (s=3)&&(!decide (s=0)|| !c)&&(!decide (s=1)||c)
def nf(s:Int):Bool:=decide (s=2)||decide (s=3)
def dA(k x:Int)(p:Nat→Bool)(m:Nat):Bool:=(List.range m).all fun n=>oo k x n||p n
theorem gL(k x:Int)(p:Nat→Bool)(m:Nat):dA k x p (m+1)=(dA k x p m&&(oo k x m||p m)):=by
 unfold dA
 rw[List.range_succ,List.all_append]
 simp
theorem jM{k x:Int}{p:Nat→Bool}{m:Nat}:dA k x p m=true↔∀n,n<m→oo k x n=false→p n=true:=by
 unfold dA
 rw[List.all_eq_true]
 constructor
 ·intro h n hn hg
  have:=h n (List.mem_range.2 hn)
  rw[hg,Bool.false_or]at this
  exact this
 ·intro h n hn
  cases hg:oo k x n with
  |true=>rfl
  |false=>rw[Bool.false_or];exact h n (List.mem_range.1 hn) hg
def eO(l:List Int)(n:Nat):Int:=l.getD n 0
def fw(T:ai)(k x:Int)(l:List Int):Bool:=
 if(ao T&&bW T k x)&&decide ((l.length:Int)=T.nodes) then dA k x (fun n=>pH (eO l n)) l.length&&(dA k x (fun n=>rS (pB T k x n) (eO l n)) l.length||dA k x (fun n=>nf (eO l n)) l.length) else false
theorem qH{k x:Int}{p:Nat→Bool}{m i:Nat}(hi:i<m)(hg:oo k x i=false)(hp:p i=false):dA k x p m=false:=by
 cases h:dA k x p m with
 |false=>rfl
 |true=>rw[jM.1 h i hi hg]at hp;cases hp
section
variable {T:ai} {k x:Int} {l:List Int}
theorem Ia{n:Nat}:oo k x n=true↔Gn k x n:=by
 unfold oo Gn
 simp
theorem mM{n:Nat}:oo k x n=false↔¬Gn k x n:=by
 rw[←Ia];simp
theorem DI{n:Nat}:pB T k x n=false↔∀a,a<2*T.ae.length→bb T a=(n:Int)→aL (ay T k x) a=false:=by
 unfold pB
 rw[List.any_eq_false]
 constructor
 ·intro h a ha ht
  have:=h a (List.mem_range.2 ha)
  rw[decide_eq_true ht,Bool.and_true]at this
  simpa using this
 ·intro h a ha
  rw[List.mem_range]at ha
  by_cases ht:bb T a=(n:Int)
  ·rw[h a ha ht];simp
  ·rw[decide_eq_false ht];simp
theorem F9(h:fw T k x l=true):ao T=true∧bW T k x=true∧(l.length:Int)=T.nodes∧(∀n:Nat,(n:Int)<T.nodes→¬Gn k x n→0≤eO l n∧eO l n≤3)∧∃late,Perm T k x late (eO l)∧(late=dA k x (fun n=>nf (eO l n)) l.length):=by
 unfold fw at h
 split at h
 ·rename_i h1
  simp only[Bool.and_eq_true,decide_eq_true_eq,Bool.or_eq_true]at h1 h
  obtain⟨⟨hv,hc⟩,hl⟩:=h1
  obtain⟨hok,hel⟩:=h
  refine⟨hv,hc,hl,fun n hn hg=>?_,_,?_,rfl⟩
  ·have:=jM.1 hok n (by omega) (mM.2 hg)
   unfold pH at this
   simpa using this
  ·cases hla:dA k x (fun n=>nf (eO l n)) l.length with
   |true=>
    intro n hn hg
    have:=jM.1 hla n (by omega) (mM.2 hg)
    rw[if_pos rfl]
    unfold nf at this
    simp only[Bool.or_eq_true,decide_eq_true_eq]at this
    omega
   |false=>
    rw[hla]at hel
    have her:dA k x (fun n=>rS (pB T k x n) (eO l n)) l.length=true:=by
     rcases hel with h|h
     ·exact h
     ·cases h
    intro n hn hg
    have h1:=jM.1 her n (by omega) (mM.2 hg)
    have h2:=jM.1 hok n (by omega) (mM.2 hg)
    rw[if_neg (by simp)]
    unfold rS at h1
    unfold pH at h2
    simp only[Bool.and_eq_true,Bool.or_eq_true,Bool.not_eq_true',decide_eq_true_eq,decide_eq_false_iff_not]at h1 h2
    obtain⟨⟨e3,e0⟩,e1⟩:=h1
    refine⟨by omega,fun h0=>DI.1 ?_⟩
    rcases e0 with e0|e0
    ·exact absurd h0 e0
    ·exact e0
 ·cases h
end
end PW
end Go.Proofs.YtnegbdpggideiaaGreatDoor
namespace Go.Proofs.YtnegbdpggideiaaGreatDoor
namespace PW
open Go.RowKit cE Mem Net fk
theorem sd(k x n:Int):Can Tryz.prog 73 [bS k x,num n] (· =flag (oo k x n)):=by
 obtain⟨q1,hq1⟩:∃q,decide (k=2)=q:=⟨_,rfl⟩
 obtain⟨q2,hq2⟩:∃q,decide (x=n)=q:=⟨_,rfl⟩
 unfold oo
 rw[hq1,hq2]
 refine aG Tryz.func73 rfl Tryz.ntmps73 rfl<|ab (.a 2 rfl<|.k [1,2] rfl)<|bu 4 (.raw (.bool (q1&&q2))) [] rfl ?_ ?_
 ·refine .a 2 rfl<|.v (cg rfl (hq1)) rfl<|.a 1 rfl<|?_
  cases q1
  ·exact .a 6 rfl<|.k [4] rfl
  ·exact .a 3 rfl<|.v (cg rfl (hq2)) rfl<|.a 2 rfl<|.k [4] rfl
 exact aq<|⟨_,_,az.of rfl,aC.pure,rfl⟩
def vY(T:ai)(M:List Bool)(N a:Nat):List Bool:=(List.range N).map fun(n:Nat)=>(List.range a).any fun b=>aL M b&&decide (bb T b=(n:Int))
section
variable {T:ai} {M:List Bool} {N a:Nat}
theorem zf:(vY T M N a).length=N:=by simp[vY]
theorem DR:vY T M N 0=List.replicate N false:=by
 unfold vY
 refine List.ext_getElem (by simp) fun i h1 h2=>by simp
theorem Hz(h:aL M a=false):vY T M N (a+1)=vY T M N a:=by
 unfold vY
 refine List.map_congr_left fun n _=>?_
 rw[List.range_succ,List.any_append]
 simp[h]
theorem GU(h:aL M a=true){m:Nat}(hm:bb T a=(m:Int)):vY T M N (a+1)=(vY T M N a).set m true:=by
 refine List.ext_getElem (by simp[vY]) fun i h1 h2=>?_
 rw[List.getElem_set]
 simp only[vY,List.getElem_map,List.getElem_range,List.range_succ,List.any_append,List.any_cons,List.any_nil,Bool.or_false,h,Bool.true_and,hm]
 by_cases e:m=i
 ·subst e;simp
 ·rw[if_neg e,decide_eq_false (by omega),Bool.or_false]
theorem EP{k x:Int}{n:Nat}(hn:n<N):(vY T (ay T k x) N (2*T.ae.length)).getD n false=pB T k x n:=by
 unfold vY pB
 simp[hn]
end
set_option maxHeartbeats 4000000 in
theorem lI(T:ai)(k x:Int)(l:List Int)(hl:l.length≤1000):Can Tryz.prog 25 [aN T,bS k x,aw l] (· =flag (fw T k x l)):=by
  obtain⟨q1,hq1⟩:∃q,decide (dM T k x≠0)=q:=⟨_,rfl⟩
  obtain⟨q2,hq2⟩:∃q,decide ((l.length:Int)≠T.nodes)=q:=⟨_,rfl⟩
  have hme:dM T k x=if(ao T&&bW T k x)=true then 0 else 1:=rfl
  refine aG Tryz.func25 rfl Tryz.ntmps25 rfl<|ab (.a 3 rfl<|.k [2,3,4] rfl)<|ab (.a 2 rfl<|.c rfl (lD T k x) rfl<|.a 5 rfl<|.k [2,3,4,7,8] rfl)<|ak<|bu 30 (.raw (.bool (q1||q2))) [2,3,4,7] rfl ?_ ?_
  · refine .a 1 rfl<|.v (cg rfl (hq1)) rfl<|.a 1 rfl<|?_
    cases q1
    · exact .a 3 rfl<|.v (aO rfl (rfl)) rfl<|.v (cg rfl (hq2)) rfl<|.a 1 rfl<|.k [30,2,3,4,7] rfl
    · exact .a 6 rfl<|.k [30,2,3,4,7] rfl
  refine ah rfl (fun hc=>?_) (fun hc=>?_)
  · have hno:fw T k x l=false:=by
      unfold fw
      split
      · rename_i h
        exfalso
        obtain⟨h1,h2⟩:=Bool.and_eq_true_iff.1 h
        rw[if_pos h1]at hme
        rw[←hq1,←hq2,hme]at hc
        simp only[ne_eq,not_true_eq_false,decide_false,Bool.false_or,decide_eq_true_eq]at hc h2
        exact hc h2
      · rfl
    exact ab (.a 1 rfl<|.k [6] rfl)<|aq<|⟨_,_,az.of rfl,aC.pure,by rw[hno];rfl⟩
  · obtain ⟨rfl, rfl⟩ := Bool.or_eq_false_iff.1 hc
    have hvc:(ao T&&bW T k x)=true:=by
      cases h:(ao T&&bW T k x)with
      |true=>rfl
      |false=>rw[if_neg (by rw[h];decide)]at hme;exact absurd (ff hq1) (by rw[hme];decide)
    have hln:(l.length:Int)=T.nodes:=by have:=ff hq2;simpa using this
    have hP:fw T k x l=(dA k x (fun n=>pH (eO l n)) l.length&&(dA k x (fun n=>rS (pB T k x n) (eO l n)) l.length||dA k x (fun n=>nf (eO l n)) l.length)):=by
      unfold fw
      rw[if_pos (by rw[hvc,decide_eq_true hln];rfl)]
    have hv:=(Bool.and_eq_true_iff.1 hvc).1
    have hMl:=eF T k x
    have hll:=bO hv
    rw[if_pos hvc]at hme
    rw[hme]
    simp only[if_true]
    obtain⟨M,hM⟩:∃M,ay T k x=M:=⟨_,rfl⟩
    obtain⟨N,hN⟩:∃N:Nat,l.length=N:=⟨_,rfl⟩
    have hTN:T.nodes=(N:Int):=by omega
    rw[hM]at hMl ⊢
    refine aj<|aR<|au 1 rfl<|bE (aO rfl ((show some (num T.nodes)=some (num (N:Int)) by rw[hTN]))) rfl<|cz (dz rfl (bL.rk.get rfl) rfl rfl (rfl:(N:Int)=(N:Int)) (rfl:(N:Int)=(N:Int)) ⟨by unfold maxLen;omega,by omega⟩) rfl<|au 1 rfl<|aH [2,3,4,7,9] rfl ?_
    refine eD (σ':=[some (.row 4 1 N (bR (vY T M N 0)))]) (by rw[DR,←gQ];rfl) ?_
    refine ak<|ab (.a 3 rfl<|.k [2,3,4,9,34,35,36] rfl)<|av<|fp [2,3,4,9,34,35,36] rfl<|bq (fun r st=>∃a,a≤M.length∧r=M.length - a∧st=⟨[(2,aw l),(3,.aX (bw T) 0),(4,.aX (cn k x) 0),(9,.own 0),(34,aY M),(35,num M.length),(36,num a)],[some (.row 4 1 N (bR (vY T M N a)))]⟩) M.length ⟨0,by omega,by omega,rfl⟩ ?_
    rintro r st ⟨a,ha,rfl,rfl⟩
    refine ab (.a 1 rfl<|.k [2,3,4,9,34,35,36,37] rfl)<|ak<|ah rfl (fun hc=>?_) (fun hc=>?_)
    · have hlt:a<M.length:=by have:=tt hc;omega
      obtain⟨b,hb⟩:∃b,aL M a=b:=⟨_,rfl⟩
      obtain⟨m,hm⟩:=Int.eq_ofNat_of_zero_le ((aK hv).tail a (by omega)).1
      have hmN:=((aK hv).tail a (by omega)).2
      refine aj<|ak<|av<|ab (.a 1 rfl<|.v (aM (a) rfl) rfl<|.v (aO rfl ((cV M a hlt).trans (by rw[show M.getD a false=b from hb]))) rfl<|.a 2 rfl<|.k [2,3,4,9,10,11,34,35,36] rfl)<|ab (.a 1 rfl<|.k [2,3,4,9,10,34,35,36,41] rfl)<|ah rfl (fun hc=>?_) (fun hc=>?_)
      · have hst:=GU (N:=N) (hb.trans hc) hm
        have hcl:=zf (T:=T) (M:=M) (N:=N) (a:=a)
        refine bI<|au 3 rfl<|er rfl ((show Can Tryz.prog 79 [aN T,num a] (· =num m) by have h:=iZ T a (by omega);rw[hm]at h;exact h)) rfl<|bE (aM (m) rfl) rfl<|bd ((by first|exact bG rfl (bL.tk.get rfl) rfl rfl rfl (by first|omega|(simp;omega))|exact aV rfl (bL.tk.get rfl) rfl rfl rfl (by first|omega|(simp;omega)))) rfl rfl<|aH [2,3,4,9,34,35,36] rfl ?_
        refine aB (.v (aT rfl) rfl<|.a 1 rfl<|.k [2,3,4,9,34,35,36] rfl) ?_
        exact⟨M.length - (a+1),by omega,a+1,by omega,rfl,by rw[hst];rfl⟩
      · have hst:=Hz (T:=T) (N:=N) (hb.trans hc)
        refine aj<|aB (.v (aT rfl) rfl<|.a 1 rfl<|.k [2,3,4,9,34,35,36] rfl) ?_
        exact⟨M.length - (a+1),by omega,a+1,by omega,rfl,by rw[hst];rfl⟩
    · have hae:a=M.length:=by have:=ff hc;omega
      refine bf<|ab (.a 2 rfl<|.k [2,4,9,12,13] rfl)<|ak<|ab (.a 3 rfl<|.k [4,9,12,13,48,49,50] rfl)<|av<|fp [4,9,12,13,48,49,50] rfl<|bq (fun r st=>∃i,i≤l.length∧dA k x (fun n=>pH (eO l n)) i=true∧r=l.length - i∧st=⟨[(4,.aX (cn k x) 0),(9,.own 0),(12,flag (dA k x (fun n=>rS (pB T k x n) (eO l n)) i)),(13,flag (dA k x (fun n=>nf (eO l n)) i)),(48,aw l),(49,num l.length),(50,num i)],[some (.row 4 1 N (bR (vY T M N a)))]⟩) l.length ⟨0,by omega,rfl,by omega,rfl⟩ ?_
      rintro r st ⟨i,hi,hO0,rfl,rfl⟩
      have hcc:∀n,n<N→(vY T M N a).getD n false=pB T k x n:=fun n hn=>by rw[hae,hMl,←hM];exact EP hn
      have hcl:=zf (T:=T) (M:=M) (N:=N) (a:=a)
      have hE:=gL k x (fun n=>rS (pB T k x n) (eO l n)) i
      have hL:=gL k x (fun n=>nf (eO l n)) i
      have hO:=gL k x (fun n=>pH (eO l n)) i
      obtain⟨eb,heb⟩:∃b,dA k x (fun n=>rS (pB T k x n) (eO l n)) i=b:=⟨_,rfl⟩
      obtain⟨lb,hlb⟩:∃b,dA k x (fun n=>nf (eO l n)) i=b:=⟨_,rfl⟩
      rw[heb]at hE ⊢
      rw[hlb]at hL ⊢
      rw[hO0]at hO
      refine ab (.a 1 rfl<|.k [4,9,12,13,48,49,50,51] rfl)<|ak<|ah rfl (fun hc=>?_) (fun hc=>?_)
      · have hlt:i<l.length:=by have:=tt hc;omega
        obtain⟨g,hg⟩:∃g,oo k x i=g:=⟨_,rfl⟩
        obtain⟨c,hcb⟩:∃c,pB T k x i=c:=⟨_,rfl⟩
        have hci:=(hcc i (by omega)).trans hcb
        have hilt:i<N:=by omega
        obtain⟨s,hs⟩:∃s,eO l i=s:=⟨_,rfl⟩
        have hsl:l.getD i 0=s:=hs
        simp only[hg,hcb,hs]at hE hL hO
        refine aj<|ak<|av<|ab (.a 1 rfl<|.v (aM (i) rfl) rfl<|.v (aO rfl ((aA l i hlt).trans (by rw[hsl]))) rfl<|.a 2 rfl<|.k [4,9,12,13,14,15,48,49,50] rfl)<|ak<|ab (.a 2 rfl<|.c rfl (hg▸sd k x i) rfl<|.k [4,9,12,13,14,15,48,49,50,57] rfl)<|ah rfl (fun hc=>?_) (fun hc=>?_)
        · rw[hc,Bool.true_or,Bool.and_true]at hE hL hO
          refine kG (bm (ks:=[4,9,12,13,48,49,50]) rfl) ?_
          refine bf<|aB (.v (aT rfl) rfl<|.a 1 rfl<|.k [4,9,12,13,48,49,50] rfl) ?_
          exact⟨l.length - (i+1),by omega,i+1,by omega,hO,rfl,by rw[hE,hL];rfl⟩
        · have hg0:oo k x i=false:=hg.trans hc
          rw[hc,Bool.false_or]at hE hL hO
          refine aj<|ab (.a 1 rfl<|.k [4,9,12,13,14,48,49,50,58] rfl)<|av<|ab (.a 2 rfl<|.k [4,9,12,13,14,48,49,50,58,59] rfl)<|ah rfl (fun hc=>?_) (fun hc=>?_)
          · have hs0:s=0:=tt hc
            subst hs0
            replace hE:dA k x (fun n=>rS (pB T k x n) (eO l n)) (i+1)=(eb&& !c):=by rw[hE];simp[rS]
            replace hL:dA k x (fun n=>nf (eO l n)) (i+1)=false:=by rw[hL];simp[nf]
            replace hO:dA k x (fun n=>pH (eO l n)) (i+1)=true:=by rw[hO];rfl
            refine ab (.a 1 rfl<|.k [4,9,12,13,14,48,49,50] rfl)<|qd 12 (.raw (.bool (eb&& !c))) [4,9,13,48,49,50] rfl ?_ ?_
            · refine .a 2 rfl<|?_
              cases eb
              · exact .a 7 rfl<|.k [12,4,9,13,48,49,50] rfl
              · exact .a 2 rfl<|.v (aM (i) rfl) rfl<|.v (aO rfl ((cV _ i (by rw[hcl];exact hilt)).trans (by rw[hci];try rfl))) rfl<|.a 3 rfl<|.k [12,4,9,13,48,49,50] rfl
            refine aB (.v (aT rfl) rfl<|.a 1 rfl<|.k [4,9,12,13,48,49,50] rfl) ?_
            exact⟨l.length - (i+1),by omega,i+1,by omega,hO,rfl,by rw[hE,hL];rfl⟩
          · have n0:¬s=0:=ff hc
            refine ab (.a 2 rfl<|.k [4,9,12,13,14,48,49,50,58,69] rfl)<|ah rfl (fun hc=>?_) (fun hc=>?_)
            · have hs0:s=1:=tt hc
              subst hs0
              replace hE:dA k x (fun n=>rS (pB T k x n) (eO l n)) (i+1)=(eb&&c):=by rw[hE];simp[rS]
              replace hL:dA k x (fun n=>nf (eO l n)) (i+1)=false:=by rw[hL];simp[nf]
              replace hO:dA k x (fun n=>pH (eO l n)) (i+1)=true:=by rw[hO];rfl
              refine ab (.a 1 rfl<|.k [4,9,12,13,14,48,49,50] rfl)<|qd 12 (.raw (.bool (eb&&c))) [4,9,13,48,49,50] rfl ?_ ?_
              · refine .a 2 rfl<|?_
                cases eb
                · exact .a 6 rfl<|.k [12,4,9,13,48,49,50] rfl
                · exact .a 2 rfl<|.v (aM (i) rfl) rfl<|.v (aO rfl ((cV _ i (by rw[hcl];exact hilt)).trans (by rw[hci];try rfl))) rfl<|.a 2 rfl<|.k [12,4,9,13,48,49,50] rfl
              refine aB (.v (aT rfl) rfl<|.a 1 rfl<|.k [4,9,12,13,48,49,50] rfl) ?_
              exact⟨l.length - (i+1),by omega,i+1,by omega,hO,rfl,by rw[hE,hL];rfl⟩
            · have n1:¬s=1:=ff hc
              refine ab (.a 2 rfl<|.k [4,9,12,13,48,49,50,58,78] rfl)<|ah rfl (fun hc=>?_) (fun hc=>?_)
              · have hs0:s=2:=tt hc
                subst hs0
                replace hE:dA k x (fun n=>rS (pB T k x n) (eO l n)) (i+1)=eb:=by rw[hE];simp[rS]
                replace hL:dA k x (fun n=>nf (eO l n)) (i+1)=lb:=by rw[hL];simp[nf]
                replace hO:dA k x (fun n=>pH (eO l n)) (i+1)=true:=by rw[hO];rfl
                refine aj<|aB (.v (aT rfl) rfl<|.a 1 rfl<|.k [4,9,12,13,48,49,50] rfl) ?_
                exact⟨l.length - (i+1),by omega,i+1,by omega,hO,rfl,by rw[hE,hL];rfl⟩
              · have n2:¬s=2:=ff hc
                refine ab (.a 2 rfl<|.k [4,9,13,48,49,50,80] rfl)<|ah rfl (fun hc=>?_) (fun hc=>?_)
                · have hs0:s=3:=tt hc
                  subst hs0
                  replace hE:dA k x (fun n=>rS (pB T k x n) (eO l n)) (i+1)=false:=by rw[hE];simp[rS]
                  replace hL:dA k x (fun n=>nf (eO l n)) (i+1)=lb:=by rw[hL];simp[nf]
                  replace hO:dA k x (fun n=>pH (eO l n)) (i+1)=true:=by rw[hO];rfl
                  refine aB (.a 1 rfl<|.k [4,9,12,13,48,49,50] rfl) ?_
                  refine aB (.v (aT rfl) rfl<|.a 1 rfl<|.k [4,9,12,13,48,49,50] rfl) ?_
                  exact⟨l.length - (i+1),by omega,i+1,by omega,hO,rfl,by rw[hE,hL];rfl⟩
                · have n3:¬s=3:=ff hc
                  refine ab (.a 1 rfl<|.k [6] rfl)<|aq ?_
                  have hbad:dA k x (fun n=>pH (eO l n)) l.length=false:=by
                    refine qH hlt hg0 ?_
                    show pH (eO l i)=false
                    rw[hs]
                    unfold pH
                    by_cases h1:0≤s
                    · rw[decide_eq_false (by omega:¬s≤3),Bool.and_false]
                    · rw[decide_eq_false h1,Bool.false_and]
                  exact⟨_,_,az.of rfl,aC.pure,by rw[hP,hbad];rfl⟩
      · have hie:i=l.length:=by have:=ff hc;omega
        subst hie
        refine bf<|bu 6 (.raw (.bool (eb||lb))) [] rfl ?_ ?_
        · refine .a 2 rfl<|?_
          cases eb
          · exact .a 3 rfl<|.k [6] rfl
          · exact .a 3 rfl<|.k [6] rfl
        exact aq<|⟨_,_,az.of rfl,aC.pure,by rw[hP,hO0,heb,hlb];rfl⟩
end PW
end Go.Proofs.YtnegbdpggideiaaGreatDoor
namespace Go.Proofs.YtnegbdpggideiaaGreatDoor
namespace PW
open Go.RowKit cE Mem Net
def gE(s:List bY):Prop:=∀g∈s,0≤g.kind∧g.kind<100∧0≤g.num∧g.num<100
def Fg(g:bY):List UInt8:=32::(Lib.decDigits g.kind.toNat++58::Lib.decDigits g.num.toNat)
def dQ(n:Nat)(s:List bY):List UInt8:=Lib.decDigits n++s.flatMap Fg
def Cr(c:UInt8):Prop:=48≤c.toNat∧c.toNat≤57
theorem lK{n:Nat}(h:n<100):∀c∈Lib.decDigits n,Cr c:=by
 intro c hc
 by_cases h1:n<10
 ·rw[Lib.decDigits_one h1,List.mem_singleton]at hc
  subst hc
  unfold Cr
  rw[UInt8.toNat_ofNat']
  omega
 ·rw[Lib.decDigits_two h1 h]at hc
  simp only[List.mem_cons,List.not_mem_nil,or_false]at hc
  rcases hc with rfl|rfl<;>(unfold Cr;rw[UInt8.toNat_ofNat'];omega)
theorem ofNat_inj{a b:Nat}(ha:a<256)(hb:b<256)(h:UInt8.ofNat a=UInt8.ofNat b):a=b:=by
 have:=congrArg UInt8.toNat h
 rw[UInt8.toNat_ofNat',UInt8.toNat_ofNat']at this
 omega
theorem tJ{m n:Nat}(hm:m<100)(hn:n<100)(h:Lib.decDigits m=Lib.decDigits n):m=n:=by
 by_cases h1:m<10<;>by_cases h2:n<10
 ·rw[Lib.decDigits_one h1,Lib.decDigits_one h2]at h
  have:=ofNat_inj (by omega) (by omega) (List.cons.inj h).1
  omega
 ·rw[Lib.decDigits_one h1,Lib.decDigits_two h2 hn]at h
  cases(List.cons.inj h).2
 ·rw[Lib.decDigits_two h1 hm,Lib.decDigits_one h2]at h
  cases(List.cons.inj h).2
 ·rw[Lib.decDigits_two h1 hm,Lib.decDigits_two h2 hn]at h
  have e1:=ofNat_inj (by omega) (by omega) (List.cons.inj h).1
  have e2:=ofNat_inj (by omega) (by omega) (List.cons.inj (List.cons.inj h).2).1
  omega
theorem kd{n:Nat}(h:n<100):(Lib.decDigits n).length≤2∧0<(Lib.decDigits n).length:=by
 by_cases h1:n<10
 ·rw[Lib.decDigits_one h1];simp
 ·rw[Lib.decDigits_two h1 h];simp
theorem lY:∀(A B X Y:List UInt8),(∀c∈A,Cr c)→(∀c∈B,Cr c)→(∀c Z,X=c::Z→¬Cr c)→(∀c Z,Y=c::Z→¬Cr c)→A++X=B++Y→A=B∧X=Y
 | [],[],X,Y,_,_,_,_,h=>⟨rfl,h⟩
 | [],b::B,X,Y,_,hB,hX,_,h=>absurd (hB b (by simp)) (hX b (B++Y) h)
 |a::A,[],X,Y,hA,_,_,hY,h=>absurd (hA a (by simp)) (hY a (A++X) h.symm)
 |a::A,b::B,X,Y,hA,hB,hX,hY,h=>by
  obtain⟨h1,h2⟩:=List.cons.inj h
  obtain⟨h3,h4⟩:=lY A B X Y (fun c hc=>hA c (by simp[hc])) (fun c hc=>hB c (by simp[hc])) hX hY h2
  exact⟨by rw[h1,h3],h4⟩
theorem me{s:List bY}:∀c Z,s.flatMap Fg=c::Z→¬Cr c:=by
 intro c Z h
 cases s with
 |nil=>cases h
 |cons g s=>
  rw[List.flatMap_cons]at h
  have:=(List.cons.inj h).1
  subst this
  unfold Cr
  decide
theorem vd:∀ {s s':List bY},gE s→gE s'→s.flatMap Fg=s'.flatMap Fg→s=s'
 | [],[],_,_,_=>rfl
 | [],g::s',_,_,h=>by rw[List.flatMap_cons]at h;cases h
 |g::s,[],_,_,h=>by rw[List.flatMap_cons]at h;cases h
 |g::s,g'::s',h1,h2,h=>by
  obtain⟨a1,a2,a3,a4⟩:=h1 g (by simp)
  obtain⟨b1,b2,b3,b4⟩:=h2 g' (by simp)
  rw[List.flatMap_cons,List.flatMap_cons]at h
  unfold Fg at h
  rw[List.cons_append,List.cons_append,List.append_assoc,List.append_assoc]at h
  obtain⟨e1,e2⟩:=lY _ _ _ _ (lK (by omega)) (lK (by omega)) (fun c Z h=>by rw[List.cons_append]at h;have:=(List.cons.inj h).1;subst this;unfold Cr;decide) (fun c Z h=>by rw[List.cons_append]at h;have:=(List.cons.inj h).1;subst this;unfold Cr;decide) (List.cons.inj h).2
  rw[List.cons_append,List.cons_append]at e2
  obtain⟨e3,e4⟩:=lY _ _ _ _ (lK (by omega)) (lK (by omega)) (me (s:=s)) (me (s:=s')) (List.cons.inj e2).2
  have k1:=tJ (by omega) (by omega) e1
  have k2:=tJ (by omega) (by omega) e3
  have k3:=vd (fun x hx=>h1 x (by simp[hx])) (fun x hx=>h2 x (by simp[hx])) e4
  obtain⟨gk,gn⟩:=g
  obtain⟨gk',gn'⟩:=g'
  simp only at a1 b1 a3 b3 k1 k2
  rw[k3,show gk=gk' by omega,show gn=gn' by omega]
theorem DO{n n':Nat}{s s':List bY}(hn:n<100)(hn':n'<100)(h1:gE s)(h2:gE s')(h:dQ n s=dQ n' s'):n=n'∧s=s':=by
 unfold dQ at h
 obtain⟨e1,e2⟩:=lY _ _ _ _ (lK hn) (lK hn') (me (s:=s)) (me (s:=s')) h
 exact⟨tJ hn hn' e1,vd h1 h2 e2⟩
theorem Dk{s:List bY}(h:gE s):(s.flatMap Fg).length≤s.length*6:=by
 induction s with
 |nil=>simp
 |cons g s ih=>
  obtain⟨a1,a2,a3,a4⟩:=h g (by simp)
  have:=ih (fun x hx=>h x (by simp[hx]))
  have h1:=kd (n:=g.kind.toNat) (by omega)
  have h2:=kd (n:=g.num.toNat) (by omega)
  have h3:(Fg g).length=2+(Lib.decDigits g.kind.toNat).length+(Lib.decDigits g.num.toNat).length:=by
   unfold Fg
   simp only[List.length_cons,List.length_append]
   omega
  rw[List.flatMap_cons,List.length_append,h3,List.length_cons]
  omega
theorem vi{h g:bY}:∀ {s:List bY},g∈s→g=h∨g∈fj h s
 |a::s,hg=>by
  unfold fj
  split
  ·rename_i e
   rcases List.mem_cons.1 hg with rfl|hg
   ·exact .inl e
   ·exact vi hg
  ·exact .inr hg
end PW
end Go.Proofs.YtnegbdpggideiaaGreatDoor
namespace Go.Proofs.YtnegbdpggideiaaGreatDoor
namespace PW
open Go.RowKit cE Mem Net fk
noncomputable def bV(T:ai)(tb:Nat→dR)(p0:eU)(n:Nat)(s:List bY):Out:=dj T (tb n) (cS p0 s)
structure ib (T:ai) (tb:Nat→dR) (p0:eU) (Φ:Nat→Nat→List bY→Prop):Prop where
 node:∀ {u n s},Φ u n s→(n:Int)<T.nodes
 small:∀ {u n s},Φ u n s→gE s∧s.length≤1000
 step:∀ {u n s},Φ u n s→(bV T tb p0 n s).aI=[]∨((bV T tb p0 n s).aI.length≤1000∧bV T tb p0 n s=cd (cS p0 s) (bV T tb p0 n s).ft.stack (bV T tb p0 n s).aI∧
  ∀a∈(bV T tb p0 n s).aI,∃b m:Nat,a=(b:Int)∧b<2*T.ae.length∧aS T b=(m:Int)∧∃u',u'<u∧Φ u' m (bV T tb p0 n s).ft.stack)
def Ji(cs:List Int):Int:=cs.foldl (fun a c=>min (a+c) 1001) 0
def jf(aI:List Int)(cs:List Int):Int:=if aI=[] then 1 else Ji cs
def du(n:Nat)(o:Out)(vs:List PV)(c:Int):List PV:=[num n,num o.dI,aw o.aI,.slice vs.length vs,flag false,num c]
inductive Good (T:ai) (tb:Nat→dR) (p0:eU) (Φ:Nat→Nat→List bY→Prop):PV→Nat→List bY→Int→Prop
 |mk {n:Nat} {s:List bY} {vs:List PV} {cs:List Int} {u:Nat}:Φ u n s→vs.length=(bV T tb p0 n s).aI.length→cs.length=(bV T tb p0 n s).aI.length→
   (∀i,i<(bV T tb p0 n s).aI.length→Good T tb p0 Φ (vs.getD i .any) (aS T ((bV T tb p0 n s).aI.getD i 0).toNat).toNat (bV T tb p0 n s).ft.stack (cs.getD i 0))→
   Good T tb p0 Φ (.aX (du n (bV T tb p0 n s) vs (jf (bV T tb p0 n s).aI cs)) 0) n s (jf (bV T tb p0 n s).aI cs)
theorem wR(cs:List Int)(c:Int):Ji (cs++[c])=min (Ji cs+c) 1001:=by simp[Ji]
section
variable {T:ai} {tb:Nat→dR} {p0:eU} {Φ:Nat→Nat→List bY→Prop}
theorem lZ:∀(cs:List Int) (b:Int),0≤b→b≤1001→(∀c∈cs,0≤c)→0≤cs.foldl (fun a c=>min (a+c) 1001) b∧cs.foldl (fun a c=>min (a+c) 1001) b≤1001
 | [],b,h1,h2,_=>⟨h1,h2⟩
 |c::cs,b,h1,h2,h3=>by
  have:=h3 c (by simp)
  exact lZ cs (min (b+c) 1001) (by omega) (by omega) (fun x hx=>h3 x (by simp[hx]))
theorem Good.bound{v:PV}{n:Nat}{s:List bY}{c:Int}(h:Good T tb p0 Φ v n s c):0≤c∧c≤1001:=by
 induction h with
 | @mk n s vs cs u _ _ h2 _ ih=>
  unfold jf
  split
  ·omega
  ·refine lZ cs 0 (by omega) (by omega) fun c hc=>?_
   obtain⟨i,hi⟩:=List.getElem?_of_mem hc
   have hlt:=(List.getElem?_eq_some_iff.1 hi).1
   have:=(ih i (by rw[←h2];exact hlt)).1
   rw[List.getD_eq_getElem?_getD,hi]at this
   exact this
theorem Good.state{v:PV}{n:Nat}{s:List bY}{c:Int}(h:Good T tb p0 Φ v n s c):∃u,Φ u n s:=by
 cases h with
 |mk h _ _ _=>exact⟨_,h⟩
theorem Good.pure{v:PV}{n:Nat}{s:List bY}{c:Int}(h:Good T tb p0 Φ v n s c):IsPure v:=by
 induction h with
 | @mk n s vs cs u _ h1 _ _ ih=>
  haveI:aJ vs:=⟨fun i x hx=>by
   have hlt:=(List.getElem?_eq_some_iff.1 hx).1
   have:=ih i (by rw[←h1];exact hlt)
   rw[List.getD_eq_getElem?_getD,hx]at this
   exact this⟩
  unfold du
  infer_instance
theorem Good.parts{v:PV}{n:Nat}{s:List bY}{c:Int}(h:Good T tb p0 Φ v n s c):∃vs cs,v= .aX (du n (bV T tb p0 n s) vs c) 0∧vs.length=(bV T tb p0 n s).aI.length∧cs.length=(bV T tb p0 n s).aI.length∧c=jf (bV T tb p0 n s).aI cs∧
  ∀i,i<(bV T tb p0 n s).aI.length→Good T tb p0 Φ (vs.getD i .any) (aS T ((bV T tb p0 n s).aI.getD i 0).toNat).toNat (bV T tb p0 n s).ft.stack (cs.getD i 0):=by
 cases h with
 | @mk _ _ vs cs u h1 h2 h3 h4=>exact⟨vs,cs,rfl,h2,h3,rfl,h4⟩
inductive Fe (T:ai) (tb:Nat→dR) (p0:eU):Nat→List bY→Nat→List bY→Prop
 |one {n m:Nat} {s:List bY} {a:Int}:a∈(bV T tb p0 n s).aI→aS T a.toNat=(m:Int)→Fe T tb p0 n s m (bV T tb p0 n s).ft.stack
 |more {n m:Nat} {s:List bY} {a:Int} {n':Nat} {s':List bY}:Fe T tb p0 n' s' n s→a∈(bV T tb p0 n s).aI→aS T a.toNat=(m:Int)→Fe T tb p0 n' s' m (bV T tb p0 n s).ft.stack
theorem ib.one(R:ib T tb p0 Φ){u n m:Nat}{s:List bY}{a:Int}(h:Φ u n s)(ha:a∈(bV T tb p0 n s).aI)(hm:aS T a.toNat=(m:Int)):∃u',u'<u∧Φ u' m (bV T tb p0 n s).ft.stack:=by
 rcases R.step h with h0|⟨_,_,h2⟩
 ·rw[h0]at ha;cases ha
 ·obtain⟨b,m',rfl,_,h3,u',h4,h5⟩:=h2 a ha
  rw[Int.toNat_natCast,h3]at hm
  have:m'=m:=by omega
  subst this
  exact⟨u',h4,h5⟩
theorem ib.Kc(R:ib T tb p0 Φ){n m:Nat}{s s':List bY}(h:Fe T tb p0 n s m s'):∀ {u:Nat},Φ u n s→∃u',u'<u∧Φ u' m s':=by
 induction h with
 |one ha hm=>intro u hu;exact R.one hu ha hm
 |more _ ha hm ih=>
  intro u hu
  obtain⟨u1,h1,h2⟩:=ih hu
  obtain⟨u2,h3,h4⟩:=R.one h2 ha hm
  exact⟨u2,by omega,h4⟩
theorem ib.DE(R:ib T tb p0 Φ){n:Nat}{s:List bY}(h:Fe T tb p0 n s n s):∀ {u:Nat},Φ u n s→False:=by
 intro u
 induction u using Nat.strongRecOn with
 |_ u ih=>
  intro hu
  obtain⟨u',h1,h2⟩:=R.Kc h hu
  exact ih u' h1 h2
end
end PW
end Go.Proofs.YtnegbdpggideiaaGreatDoor
namespace Go.Proofs.YtnegbdpggideiaaGreatDoor
namespace PW
open Go.RowKit cE Mem
inductive BZ (i:Nat):cU→PV→PV→Prop
 |same {blk:cU} (p:PV):BZ i blk p p
 |ptr {ty:TypeId} {xs:List PV} (off:Nat):BZ i (.cells ty xs) (.ptr i off) (.aX xs off)
 |own {e s n:Nat} {xs:List PV}:BZ i (.row e s n xs) (.own i) (.slice n xs)
def kc(i:Nat)(blk:cU)(xs ys:List PV):Prop:=ys.length=xs.length∧∀(j:Nat) x y,xs[j]? =some x→ys[j]? =some y→BZ i blk x y
theorem kc.nil{i:Nat}{blk:cU}:kc i blk [] []:=⟨rfl,fun j x y h=>by simp at h⟩
theorem kc.cons{i:Nat}{blk:cU}{x y:PV}{xs ys:List PV}(h:BZ i blk x y)(hs:kc i blk xs ys):kc i blk (x::xs) (y::ys):=⟨by simp[hs.1],fun j a b h1 h2=>by
 cases j with
 |zero=>simp at h1 h2;subst h1;subst h2;exact h
 |succ j=>exact hs.2 j a b (by simpa using h1) (by simpa using h2)⟩
theorem kc.refl{i:Nat}{blk:cU}(xs:List PV):kc i blk xs xs:=⟨rfl,fun j x y h1 h2=>by rw[h1]at h2;cases h2;exact .same _⟩
inductive tM (i:Nat) (blk:cU):cU→cU→Prop
 |same (b:cU):tM i blk b b
 |cells {ty:TypeId} {xs ys:List PV}:kc i blk xs ys→tM i blk (.cells ty xs) (.cells ty ys)
 |row {e s n:Nat} {xs ys:List PV}:kc i blk xs ys→tM i blk (.row e s n xs) (.row e s n ys)
 |mp {kv kv':List (Value×PV)}:kv'.map (·.1)=kv.map (·.1)→kc i blk (kv.map (·.2)) (kv'.map (·.2))→tM i blk (.mp kv) (.mp kv')
def DN(i:Nat)(blk:cU)(σ σ':cf):Prop:=σ'.length=σ.length∧(σ'[i]? =some none)∧∀j,j≠i→(σ'[j]? =σ[j]? ∨∃b b',σ[j]? =some (some b)∧σ'[j]? =some (some b')∧tM i blk b b')
inductive xC (i:Nat) (blk:cU) (t:bZ):bZ→Prop
 |nil:xC i blk t []
 |cons {t':bZ} (k:Nat) {p q:PV}:look k t=some p→BZ i blk p q→xC i blk t t'→xC i blk t ((k,q)::t')
theorem xC.get{i:Nat}{blk:cU}{t t':bZ}(h:xC i blk t t'):∀k q,look k t'=some q→∃p,look k t=some p∧BZ i blk p q:=by
 induction h with
 |nil=>intro k q h;cases h
 |cons k h1 h2 _ ih=>
  intro j q hj
  simp only[look]at hj
  rw[Bool.cond_eq_ite]at hj
  split at hj
  ·rename_i he
   have:=Nat.eq_of_beq_eq_true he
   subst this
   cases hj
   exact⟨_,h1,h2⟩
  ·exact ih j q hj
section
variable {P:Program} {N L:Nat} {F:Nat→Prop} {base:Nat} {σ σ':cf} {E:Env} {w:World}
theorem BZ.rep(hS:Sat F base σ E w){i:Nat}{blk:cU}(hi:σ[i]? =some (some blk)){p q:PV}(h:BZ i blk p q):∀v,cC E w v p→cC (E.kill i) w v q:=by
 obtain⟨_,g⟩:=hS.kill i hi
 intro v hv
 cases h with
 |same _=>exact hv.goes g
 |own=>exact hS.seal hi hv
 | @ptr ty xs off=>
  obtain⟨b,cs,h1,h2,h3,h4⟩:=hS.blk i _ hi
  cases hv with
  |ptr _ _ b' hi' h=>
   have hb:b'=b:=by
    rcases h with h|⟨n,c,h⟩<;>rw[h1]at h<;>cases h
    rfl
   subst hb
   have:=cC.aX (E:=E.kill i) (w:=w) b' 0 off cs.toList xs (Array.getElem?_eq_some_iff.1 h3).1 (fun hM=>hM.2 (by rw[h1];rfl)) (fun j x hx=>by rw[Nat.zero_add];unfold World.cell?;simp only[h3];simpa using hx) h4.1 (fun j x u k1 k2=>(h4.2 j x u k1 k2).goes g)
   rw[Nat.zero_add]at this
   exact this
theorem kc.rep(hS:Sat F base σ E w){i:Nat}{blk:cU}(hi:σ[i]? =some (some blk)){xs ys:List PV}(h:kc i blk xs ys){cs:List Value}(hs:aW E w cs xs):aW (E.kill i) w cs ys:=
 ⟨hs.1.trans h.1.symm,fun j x u k1 k2=>by
  have hj:j<xs.length:=by rw[←h.1];exact(List.getElem?_eq_some_iff.1 k2).1
  exact(h.2 j xs[j] u (by simp[hj]) k2).rep hS hi x (hs.2 j x _ k1 (by simp[hj]))⟩
theorem tM.sat(hS:Sat F base σ E w){i:Nat}{blk:cU}(hi:σ[i]? =some (some blk)){b b':cU}(h:tM i blk b b'){v:Value}(hb:gj base E w v b):gj base (E.kill i) w v b':=by
 obtain⟨_,g⟩:=hS.kill i hi
 cases h with
 |same _=>exact hb.goes g (fun _ _=>rfl)
 |cells hl=>
  obtain⟨b',cs,h1,h2,h3,h4⟩:=hb
  exact⟨b',cs,h1,h2,h3,hl.rep hS hi h4⟩
 |row hl=>
  obtain⟨cs,h1,h2⟩:=hb
  exact⟨cs,h1,hl.rep hS hi h2⟩
 |mp hk hl=>
  obtain⟨r,es,ck,h1,h2,h3,h4,h5⟩:=hb
  exact⟨r,es,ck,h1,h2,h3,h4.trans hk.symm,hl.rep hS hi h5⟩
theorem td{i:Nat}{blk:cU}(hi:σ[i]? =some (some blk))(h:DN i blk σ σ'){j:Nat}{b':cU}(hj:σ'[j]? =some (some b')):j≠i∧∃b,σ[j]? =some (some b)∧tM i blk b b':=by
 have hne:j≠i:=fun e=>by subst e;rw[h.2.1]at hj;cases hj
 refine⟨hne,?_⟩
 rcases h.2.2 j hne with h|⟨b,b2,h1,h2,h3⟩
 ·rw[h]at hj;exact⟨b',hj,.same _⟩
 ·rw[h2]at hj;cases hj;exact⟨b,h1,h3⟩
theorem Sat.J0(hS:Sat F base σ E w){i:Nat}{blk:cU}(hi:σ[i]? =some (some blk))(h:DN i blk σ σ'):Sat F base σ' (E.kill i) w:=by
 obtain⟨h1,g⟩:=hS.kill i hi
 have key:∀ {j:Nat} {b':cU},σ'[j]? =some (some b')→∃b,(σ.set i none)[j]? =some (some b):=fun {j b'} hj=>by
  obtain⟨hne,b,hb,_⟩:=td hi h hj
  exact⟨b,by rw[List.getElem?_set,if_neg (Ne.symm hne)];exact hb⟩
 refine⟨h1.bl,fun b hb=>⟨(h1.fb b hb).1,fun j bl hj=>?_⟩,?_,fun b=>?_,fun j bl hj=>?_,fun j k bj bk b hj hk e1 e2=>?_,h1.gl⟩
 ·obtain⟨b2,hb2⟩:=key hj;exact(h1.fb b hb).2 j b2 hb2
 ·rw[h1.len,h.1,List.length_set]
 ·constructor
  ·intro hM
   rcases(h1.mm b).1 hM with hf|⟨j,bl,h3,h4⟩
   ·exact .inl hf
   ·obtain⟨hne,h5⟩:=gY h3
    rcases h.2.2 j hne with h6|⟨b1,b2,_,h7,_⟩
    ·exact .inr ⟨j,bl,by rw[h6];exact h5,h4⟩
    ·exact .inr ⟨j,b2,h7,h4⟩
  ·rintro(hf|⟨j,bl,h3,h4⟩)
   ·exact(h1.mm b).2 (.inl hf)
   ·obtain⟨b2,hb2⟩:=key h3;exact(h1.mm b).2 (.inr ⟨j,b2,hb2,h4⟩)
 ·obtain⟨_,b,hb,hf⟩:=td hi h hj
  exact hf.sat hS hi (hS.blk j b hb)
 ·obtain⟨b1,hb1⟩:=key hj
  obtain⟨b2,hb2⟩:=key hk
  exact h1.inj j k b1 b2 b hb1 hb2 e1 e2
theorem wD{c:Code}{t t':bZ}{Q:Exit→St→Prop}(i:Nat){blk:cU}(hi:σ[i]? =some (some blk))(hσ:DN i blk σ σ')(ht:xC i blk t t')(h:W P N L c ⟨t',σ'⟩ Q):W P N L c ⟨t,σ⟩ Q:=fun F base E₀ w₀ E a w hc hs=>by
 obtain⟨_,g⟩:=hs.sat.kill i hi
 refine h F base E₀ w₀ (E.kill i) a w (hc.on g (Below.refl _ _)) ⟨hs.sat.J0 hi hσ,fun k q hq=>?_,hs.j7,hs.size⟩
 obtain⟨p,h1,h2⟩:=ht.get k q hq
 exact h2.rep hs.sat hi _ (hs.tmp k p h1)
theorem HE{ops:Array Oper}{l:List Oper}{t t':bZ}{K:St→Prop}(i:Nat){blk:cU}(hi:σ[i]? =some (some blk))(hσ:DN i blk σ σ')(ht:xC i blk t t')(h:WR P N L ops l ⟨t',σ'⟩ K):WR P N L ops l ⟨t,σ⟩ K:=by
 intro F base E₀ w₀ E a w hc hs Q j hQ hl
 obtain⟨_,g⟩:=hs.sat.kill i hi
 refine h F base E₀ w₀ (E.kill i) a w (hc.on g (Below.refl _ _)) ⟨hs.sat.J0 hi hσ,fun k q hq=>?_,hs.j7,hs.size⟩ Q j hQ hl
 obtain⟨p,h1,h2⟩:=ht.get k q hq
 exact h2.rep hs.sat hi _ (hs.tmp k p h1)
end
end PW
end Go.Proofs.YtnegbdpggideiaaGreatDoor
namespace Go.Proofs.YtnegbdpggideiaaGreatDoor
namespace PW
open Go.RowKit cE Mem
def pA(l:List UInt8):Value:=.string ⟨l.toArray⟩
theorem bytes_beq(a b:List UInt8):((⟨a.toArray⟩:ByteArray)==⟨b.toArray⟩)=decide (a=b):=Bool.eq_iff_iff.2 (by
 rw[beq_toListBytes,beq_iff_eq,decide_eq_true_eq,ByteArray.toList_eq,ByteArray.toList_eq])
section
variable {P:Program} {kt:TypeId}
theorem GW(b:Bool)(n:Nat)(hu:P.underlying kt=some .string)(a:List UInt8)(w:World):(Instr.checkKey b (n+1) kt (pA a)).run P w= .ok () w:=by
 simp only[Instr.checkKey,Sem.run_bind,run_underlying hu,Result.andThen_ok,Sem.run_pure,pA]
theorem HB(n:Nat)(hu:P.underlying kt=some .string)(a b:List UInt8)(w:World):(Op.equalIn (n+1) kt (pA a) (pA b)).run P w= .ok (decide (a=b)) w:=by
 have h:=run_equalIn_string w n kt ⟨a.toArray⟩ ⟨b.toArray⟩ hu
 rw[←beq_toListBytes,bytes_beq]at h
 exact h
theorem Ic(hu:P.underlying kt=some .string):ir P kt pA where
 nh:=fun b a w=>GW b 9999 hu a w
 eql:=fun a b w=>HB _ hu a b w
 now:=⟨_,hu,.inl fun a b=>by simp only[Instr.sameNow,pA,bytes_beq]⟩
 bits:=fun a=>by
  show Instr.sameBits 10000 (.string ⟨a.toArray⟩) (.string ⟨a.toArray⟩)=true
  unfold Instr.sameBits
  show((⟨a.toArray⟩:ByteArray)==⟨a.toArray⟩)=true
  rw[bytes_beq]
  exact decide_eq_true rfl
variable {t:bZ} {σ:cf} {o:Oper}
theorem Gi{x y:Operand}{ty tz:TypeId}(ho:o.op= .binOp .neq ty x y tz)(hk:oY P ty=true)(hx:aD t x=some (.raw (.pointer none)))(hy:aD t y=some (.raw (.pointer none))):bh P σ t o (.raw (.bool false)):=by
 refine u6 ho hx hy fun w=>?_
 unfold oY at hk
 split at hk
 ·rename_i e hu
  have key:∀d,(Op.equalIn (d+1) ty (.pointer none) (.pointer none)).run P w= .ok true w:=fun d=>by
   simp only[Op.equalIn,Sem.run_bind,run_underlying hu,Result.andThen_ok,Sem.run_pure,Option.isNone_none]
  have:=key 9999
  simp only[Nat.reduceAdd]at this
  simp[eqGuard,binOp,Op.equal,Op.maxDepth,this]
 ·cases hk
theorem FL{x y:Operand}{ty tz:TypeId}{xs:List PV}{k:Nat}(ho:o.op= .binOp .neq ty x y tz)(hk:oY P ty=true)(hx:aD t x=some (.aX xs k))(hy:aD t y=some (.raw (.pointer none))):bh P σ t o (.raw (.bool true)):=by
 intro F base E ρ w hρ _ hT
 have h1:=ax hρ hT hx
 have h2:=ax hρ hT hy
 generalize hz:ρ x=z at h1
 generalize hz':ρ y=z' at h2
 cases h2
 cases h1 with
 |aX b o' _ cs _ hb hM hc hl hr=>
  simp only[execOp,ho,hz,hz',Sem.run_bind,eqGuard,binOp,lM hk,Result.andThen_ok,Sem.run_pure]
  exact bg (.raw _)
end
end PW
end Go.Proofs.YtnegbdpggideiaaGreatDoor
namespace Go.Proofs.YtnegbdpggideiaaGreatDoor
namespace PW
open Go.RowKit cE Mem Net fk
section
variable {T:ai} {k x:Int} {d:Nat} {st:Nat→Int} {p0:eU}
theorem yj{p:eU}{s:List bY}{e:iE}(h:e.aI.length≤1000):(iv p s e).aI.length≤1000:=by
 unfold iv
 split
 ·split
  ·exact Nat.zero_le _
  ·exact h
 ·exact h
theorem zR{x:dR}{p:eU}{s:List bY}{v:Int}{K:Out}(hx:dD T x=true)(hK:K.aI.length≤1000):(G1 T x p s v K).aI.length≤1000:=by
 unfold G1
 split
 ·rename_i h
  obtain⟨_,_,_,_,h3⟩:=oQ hx (Bool.and_eq_true _ _▸h).1
  exact yj h3
 ·exact hK
theorem rp{x:dR}{p:eU}{s:List bY}{K:Out}(hx:dD T x=true)(hK:K.aI.length≤1000):(eK T x p s K).aI.length≤1000:=by
 unfold eK
 split
 ·exact Nat.zero_le _
 ·split
  ·exact Nat.zero_le _
  ·split
   ·exact zR hx (Nat.zero_le _)
   ·split
    ·exact zR hx hK
    ·split
     ·split
      ·exact Nat.zero_le _
      ·split
       ·exact hK
       ·show([_]:List Int).length≤1000;simp
     ·exact Nat.zero_le _
theorem jW(T:ai)(x:dR)(p:eU):(dj T x p).aI.length≤1000:=by
 unfold dj
 split
 ·exact Nat.zero_le _
 ·rename_i h
  have hx:dD T x=true:=by
   cases h2:dD T x with
   |true=>rfl
   |false=>rw[h2]at h;simp at h
  split
  ·exact Nat.zero_le _
  ·exact rp hx (rp hx (Nat.zero_le _))
theorem zX{D:List Bool}(h12:T.nodes≤12)(h16:T.ae.length≤16){n:Nat}{l:List bY}{q:List Int}(h:rN T D d n l q):gE l:=by
 induction h with
 |nil=>intro g hg;cases hg
 |node hs _ ih=>
  intro g hg
  rcases List.mem_cons.1 hg with rfl|hg
  ·have:=hs.hy
   exact⟨by simp,by simp,by simp,by simp;omega⟩
  ·exact ih g hg
 |eM ha _ _ _ _ ih=>
  intro g hg
  rcases List.mem_cons.1 hg with rfl|hg
  ·exact⟨by simp,by simp,by simp,by simp;omega⟩
  ·exact ih g hg
theorem nz(h12:T.nodes≤12)(h16:T.ae.length≤16){n:Nat}{s:List bY}{q:List Int}(h:fD T k x d n s q):gE s:=by
 obtain⟨D,_,hl⟩:=h.EB
 intro g hg
 rcases vi (h:=⟨1,(n:Int)⟩) hg with rfl|hg
 ·have:=h.node
  exact⟨by simp,by simp,by simp,by simp;omega⟩
 ·exact zX h12 h16 hl g hg
theorem vo(hv:ao T=true)(h12:T.nodes≤12)(h16:T.ae.length≤16)(hd:(d:Int)<T.nodes){late:Bool}(hcv:late=false→rM T k x=true)(hsafe:late=false→∀m:Nat,(m:Int)<T.nodes→¬Gn k x m→0≤dN T [] d m→0≤dN T (ay T k x) d m)
  (hpm:Perm T k x late st) (hp0:p0.dst=(d:Int)):ib T (lr T (ay T k x) st) p0 (fun u n s=>Way T k x d late n s u) where
 node:=fun h=>by
  rcases h with⟨h,_⟩|⟨_,h,_⟩
  ·exact h.node
  ·exact h.node
 small:=fun h=>by
  rcases h with⟨h,_⟩|⟨_,h,_⟩
  ·rw[h.nil];exact⟨fun g hg=>(by cases hg),by simp⟩
  ·exact⟨nz h12 h16 h,by have:=h.len;omega⟩
 step:=fun {u n s} h=>by
  rcases wq hv h12 hd hcv hsafe hpm h (p:=cS p0 s) hp0 rfl rfl with⟨e1,e2,e3⟩|⟨aI,s',e1,e2,e3⟩
  ·exact .inl e2
  ·refine .inr ?_
   have e1':bV T (lr T (ay T k x) st) p0 n s=cd (cS p0 s) s' aI:=e1
   refine⟨jW _ _ _,by rw[e1'];rfl,fun a ha=>?_⟩
   rw[e1']at ha ⊢
   obtain⟨b,m,g,u',hu,hw⟩:=e3 a ha
   exact⟨b,m,g.eq,g.eM,g.head,u',hu,hw⟩
theorem vR(hv:ao T=true)(h12:T.nodes≤12)(h16:T.ae.length≤16)(hd:(d:Int)<T.nodes)(hp0:p0.dst=(d:Int)):ib T (lr T (ay T k x) st) p0 (fun u n s=>∃q,fD T k x d n s q∧u=q.length) where
 node:=fun⟨_,h,_⟩=>h.node
 small:=fun⟨_,h,_⟩=>⟨nz h12 h16 h,by have:=h.len;omega⟩
 step:=fun {u n s} ⟨q,h,hu⟩=>by
  cases q with
  |nil=>
   obtain⟨_,e2,_⟩:=fL hv h12 hd h (st n) (p:=cS p0 s) hp0 rfl
   exact .inl e2
  |cons a q=>
   obtain⟨b,m,s',g,e1,e2⟩:=eY hv h12 hd h (st n) (p:=cS p0 s) hp0 rfl rfl
   have e1':bV T (lr T (ay T k x) st) p0 n s=cd (cS p0 s) s' [a]:=e1
   refine .inr ⟨jW _ _ _,by rw[e1'];rfl,fun c hc=>?_⟩
   rw[e1']at hc ⊢
   have hc:c∈[a]:=hc
   rw[List.mem_singleton]at hc
   subst hc
   exact⟨b,m,g.eq,g.eM,g.head,q.length,by rw[hu];simp,q,e2,rfl⟩
end
end PW
end Go.Proofs.YtnegbdpggideiaaGreatDoor
namespace Go.Proofs.YtnegbdpggideiaaGreatDoor
namespace PW
open Go.RowKit cE Mem Net fk
theorem sM{α:Type}[DecidableEq α]:∀(l m:List α),l.Nodup→(∀a∈l,a∈m)→l.length≤m.length
 | [],m,_,_=>Nat.zero_le _
 |a::l,m,hn,h=>by
  have ha:=h a (by simp)
  rw[List.nodup_cons]at hn
  have h2:=sM l (m.erase a) hn.2 (fun b hb=>(List.mem_erase_of_ne (fun e=>hn.1 (by rw[←e];exact hb))).2 (h b (by simp[hb])))
  rw[List.length_erase_of_mem ha]at h2
  have:=List.length_pos_of_mem ha
  simp only[List.length_cons]
  omega
section
variable {T:ai} {k x:Int} {d:Nat} {st:Nat→Int} {p0:eU}
noncomputable def FH(T:ai)(tb:Nat→dR)(p0:eU)(m a:Nat):Nat→Nat×List bY
 |0=>((aS T a).toNat,(bV T tb p0 m []).ft.stack)
 |j+1=>((aS T ((bV T tb p0 (FH T tb p0 m a j).1 (FH T tb p0 m a j).2).aI.getD 0 0).toNat).toNat,(bV T tb p0 (FH T tb p0 m a j).1 (FH T tb p0 m a j).2).ft.stack)
noncomputable def Bm(T:ai)(tb:Nat→dR)(p0:eU):List (Nat×List bY):=
 (List.range T.nodes.toNat).flatMap fun m=>(m,[])::(List.range (2*T.ae.length)).flatMap fun a=>(List.range (T.nodes.toNat+1)).map fun j=>FH T tb p0 m a j
theorem oz{α β:Type}(f:α→List β)(c:Nat):∀(l:List α),(∀a∈l,(f a).length≤c)→(l.flatMap f).length≤l.length*c
 | [],_=>by simp
 |a::l,h=>by
  have h1:=h a (by simp)
  have h2:=oz f c l (fun b hb=>h b (by simp[hb]))
  rw[List.flatMap_cons,List.length_append,List.length_cons,Nat.succ_mul]
  omega
theorem Db(tb:Nat→dR)(h12:T.nodes≤12)(h16:T.ae.length≤16):(Bm T tb p0).length≤12*417:=by
 unfold Bm
 refine Nat.le_trans (oz _ 417 _ fun m _=>?_) ?_
 ·rw[List.length_cons]
  have:=oz (fun a=>(List.range (T.nodes.toNat+1)).map fun j=>FH T tb p0 m a j) 13 (List.range (2*T.ae.length)) (fun a _=>by simp;omega)
  rw[List.length_range]at this
  have h2:2*T.ae.length*13≤32*13:=Nat.mul_le_mul_right _ (by omega)
  omega
 ·rw[List.length_range]
  exact Nat.mul_le_mul_right _ (by omega)
def yn(T:ai)(k x:Int)(d:Nat)(st:Nat→Int)(p0:eU)(late:Bool)(u n:Nat)(s:List bY):Prop:=
 (Open T k x d n s∧u=if late then T.nodes.toNat+jC T (ay T k x) d n else 2*T.nodes.toNat+jC T [] d n)∨
  ∃(q:List Int) (m a j:Nat),fD T k x d n s q∧u=q.length∧q.length<T.nodes.toNat∧(m:Int)<T.nodes∧a<2*T.ae.length∧j+q.length≤T.nodes.toNat∧FH T (lr T (ay T k x) st) p0 m a j=(n,s)
theorem yn.IH{late:Bool}{u n:Nat}{s:List bY}(h:yn T k x d st p0 late u n s):Way T k x d late n s u:=by
 rcases h with h|⟨q,_,_,_,h1,h2,h3,_⟩
 ·exact .inl h
 ·exact .inr ⟨q,h1,h2,h3⟩
theorem yn.mem{late:Bool}{u n:Nat}{s:List bY}(h:yn T k x d st p0 late u n s):(n,s)∈Bm T (lr T (ay T k x) st) p0:=by
 unfold Bm
 rcases h with⟨h,_⟩|⟨q,m,a,j,h1,_,_,h4,h5,h6,h7⟩
 ·have:=h.node
  rw[List.mem_flatMap]
  exact⟨n,List.mem_range.2 (by omega),by rw[h.nil];exact List.mem_cons_self⟩
 ·rw[List.mem_flatMap]
  refine⟨m,List.mem_range.2 (by omega),List.mem_cons_of_mem _ ?_⟩
  rw[List.mem_flatMap]
  refine⟨a,List.mem_range.2 h5,?_⟩
  rw[List.mem_map]
  exact⟨j,List.mem_range.2 (by omega),h7⟩
theorem rU(hv:ao T=true)(h12:T.nodes≤12)(h16:T.ae.length≤16)(hd:(d:Int)<T.nodes){late:Bool}(hcv:late=false→rM T k x=true)(hsafe:late=false→∀m:Nat,(m:Int)<T.nodes→¬Gn k x m→0≤dN T [] d m→0≤dN T (ay T k x) d m)
    (hpm:Perm T k x late st) (hp0:p0.dst=(d:Int)):ib T (lr T (ay T k x) st) p0 (yn T k x d st p0 late) where
  node:=fun h=>(vo hv h12 h16 hd hcv hsafe hpm hp0).node h.IH
  small:=fun h=>(vo hv h12 h16 hd hcv hsafe hpm hp0).small h.IH
  step := fun {u n s} h => by
    rcases h with⟨h,hu⟩|⟨q,m,a,j,h1,h2,h3,h4,h5,h6,h7⟩
    · rcases wq hv h12 hd hcv hsafe hpm (.inl ⟨h,hu⟩) (p:=cS p0 s) hp0 rfl rfl with⟨e1,e2,e3⟩|⟨aI,s',e1,e2,e3⟩
      · exact .inl e2
      · refine .inr ?_
        have e1':bV T (lr T (ay T k x) st) p0 n s=cd (cS p0 s) s' aI:=e1
        refine⟨jW _ _ _,by rw[e1'];rfl,fun a ha=>?_⟩
        have ha2:=ha
        rw[e1']at ha
        obtain⟨b,m,g,u',hu',hw⟩:=e3 a ha
        refine⟨b,m,g.eq,g.eM,g.head,u',hu',?_⟩
        rcases hw with h8|⟨q,h8,h9,h10⟩
        · exact .inl (by rw[e1'];exact h8)
        · refine .inr ⟨q,n,b,0,by rw[e1'];exact h8,h9,h10,h.node,g.eM,by omega,?_⟩
          have hn:=h.nil
          subst hn
          simp only[FH]
          rw[g.head,Int.toNat_natCast]
    · cases q with
      |nil=>
        obtain⟨_,e2,_⟩:=fL hv h12 hd h1 (st n) (p:=cS p0 s) hp0 rfl
        exact .inl e2
      |cons c q=>
        obtain⟨b,m',s',g,e1,e2⟩:=eY hv h12 hd h1 (st n) (p:=cS p0 s) hp0 rfl rfl
        have e1':bV T (lr T (ay T k x) st) p0 n s=cd (cS p0 s) s' [c]:=e1
        refine .inr ⟨jW _ _ _,by rw[e1'];rfl,fun c' hc=>?_⟩
        rw[e1']at hc
        have hc:c'∈[c]:=hc
        rw[List.mem_singleton]at hc
        subst hc
        simp only[List.length_cons]at h2 h3 h6
        refine⟨b,m',g.eq,g.eM,g.head,q.length,by omega,.inr ⟨q,m,a,j+1,by rw[e1'];exact e2,rfl,by omega,h4,h5,by omega,?_⟩⟩
        simp only[FH]
        rw[h7,e1']
        simp only[cd,List.getD_cons_zero]
        rw[g.eq,Int.toNat_natCast,g.head,Int.toNat_natCast]
end
end PW
end Go.Proofs.YtnegbdpggideiaaGreatDoor
namespace Go.Proofs.YtnegbdpggideiaaGreatDoor
namespace PW
open Go.RowKit cE Mem Net fk
abbrev EA:=List (Nat×Nat×List bY)
section
variable (T:ai) (tb:Nat→dR) (p0:eU) (Φ:Nat→Nat→List bY→Prop)
def kX(op:EA)(n:Nat)(s:List bY)(v:PV):Prop:=(∃c,Good T tb p0 Φ v n s c)∨∃i,(i,n,s)∈op∧v= .ptr (i+8) 0
structure mG (op:EA) (kv:List (List UInt8×PV)) (L:List PV):Prop where
 Cc:∀e∈kv,∃u n s,Φ u n s∧e.1=dQ n s∧kX T tb p0 Φ op n s e.2
 nodup:(kv.map (·.1)).Nodup
 all:∀v∈L,∃n s,kX T tb p0 Φ op n s v
 len:L.length=kv.length
end
section
variable {T:ai} {tb:Nat→dR} {p0:eU} {Φ:Nat→Nat→List bY→Prop}
theorem kX.more{op:EA}{x:Nat×Nat×List bY}{n:Nat}{s:List bY}{v:PV}(h:kX T tb p0 Φ op n s v):kX T tb p0 Φ (x::op) n s v:=by
 rcases h with h|⟨i,h,e⟩
 ·exact .inl h
 ·exact .inr ⟨i,List.mem_cons_of_mem _ h,e⟩
theorem mG.push{op:EA}{kv:List (List UInt8×PV)}{L:List PV}(h:mG T tb p0 Φ op kv L){u n i:Nat}{s:List bY}(hΦ:Φ u n s)(hno:dQ n s∉kv.map (·.1)):
  mG T tb p0 Φ ((i,n,s)::op) (kv++[(dQ n s,.ptr (i+8) 0)]) (L++[.ptr (i+8) 0]) where
 Cc:=fun e he=>by
  rcases List.mem_append.1 he with he|he
  ·obtain⟨u,n,s,h1,h2,h3⟩:=h.Cc e he
   exact⟨u,n,s,h1,h2,h3.more⟩
  ·rw[List.mem_singleton]at he
   subst he
   exact⟨u,n,s,hΦ,rfl,.inr ⟨i,List.mem_cons_self,rfl⟩⟩
 nodup:=by
  rw[List.map_append,List.nodup_append]
  refine⟨h.nodup,by simp,fun a ha b hb e=>?_⟩
  subst e
  simp only[List.map_cons,List.map_nil,List.mem_singleton]at hb
  subst hb
  exact hno ha
 all:=fun v hv=>by
  rcases List.mem_append.1 hv with hv|hv
  ·obtain⟨n,s,h1⟩:=h.all v hv
   exact⟨n,s,h1.more⟩
  ·rw[List.mem_singleton]at hv
   subst hv
   exact⟨n,s,.inr ⟨i,List.mem_cons_self,rfl⟩⟩
 len:=by simp[h.len]
theorem vz{i:Nat}{blk:cU}{Q Q':PV→Prop}(h:∀v,Q v→∃v',BZ i blk v v'∧Q' v'):∀L:List PV,(∀v∈L,Q v)→∃L',kc i blk L L'∧∀v∈L',Q' v
 | [],_=>⟨[],.nil,fun v hv=>by cases hv⟩
 |v::L,hL=>by
  obtain⟨v',h1,h2⟩:=h v (hL v (by simp))
  obtain⟨L',h3,h4⟩:=vz h L (fun w hw=>hL w (by simp[hw]))
  exact⟨v'::L',.cons h1 h3,fun w hw=>by
   rcases List.mem_cons.1 hw with rfl|hw
   ·exact h2
   ·exact h4 w hw⟩
theorem En{i:Nat}{blk:cU}{Q Q':List UInt8→PV→Prop}(h:∀k v,Q k v→∃v',BZ i blk v v'∧Q' k v'):∀kv:List (List UInt8×PV),(∀e∈kv,Q e.1 e.2)→∃kv':List (List UInt8×PV),kv'.map (·.1)=kv.map (·.1)∧kc i blk (kv.map (·.2)) (kv'.map (·.2))∧∀e∈kv',Q' e.1 e.2
 | [],_=>⟨[],rfl,.nil,fun v hv=>by cases hv⟩
 |e::L,hL=>by
  obtain⟨v',h1,h2⟩:=h e.1 e.2 (hL e (by simp))
  obtain⟨L',h3,h4,h5⟩:=En h L (fun w hw=>hL w (by simp[hw]))
  exact⟨(e.1,v')::L',by simp[h3],.cons h1 h4,fun w hw=>by
   rcases List.mem_cons.1 hw with rfl|hw
   ·exact h2
   ·exact h5 w hw⟩
theorem mG.close{op:EA}{i n:Nat}{s:List bY}{kv:List (List UInt8×PV)}{L:List PV}(h:mG T tb p0 Φ ((i,n,s)::op) kv L){ty:TypeId}{xs:List PV}{c:Int}(hg:Good T tb p0 Φ (.aX xs 0) n s c):
  ∃kv' L',mG T tb p0 Φ op kv' L'∧kv'.map (·.1)=kv.map (·.1)∧kc (i+8) (.cells ty xs) (kv.map (·.2)) (kv'.map (·.2))∧kc (i+8) (.cells ty xs) L L':=by
 have key:∀n1 s1 v,kX T tb p0 Φ ((i,n,s)::op) n1 s1 v→∃v',BZ (i+8) (.cells ty xs) v v'∧kX T tb p0 Φ op n1 s1 v':=fun n1 s1 v hv=>by
  rcases hv with hv|⟨i1,h1,rfl⟩
  ·exact⟨v,.same _,.inl hv⟩
  ·rcases List.mem_cons.1 h1 with h1|h1
   ·cases h1
    exact⟨_,.ptr 0,.inl ⟨c,hg⟩⟩
   ·exact⟨_,.same _,.inr ⟨i1,h1,rfl⟩⟩
 obtain⟨kv',k1,k2,k3⟩:=En (i:=i+8) (blk:=.cells ty xs) (Q:=fun k v=>∃u n1 s1,Φ u n1 s1∧k=dQ n1 s1∧kX T tb p0 Φ ((i,n,s)::op) n1 s1 v) (Q':=fun k v=>∃u n1 s1,Φ u n1 s1∧k=dQ n1 s1∧kX T tb p0 Φ op n1 s1 v) (fun k v ⟨u,n1,s1,h1,h2,h3⟩=>by
  obtain⟨v',h4,h5⟩:=key n1 s1 v h3
  exact⟨v',h4,u,n1,s1,h1,h2,h5⟩) kv h.Cc
 obtain⟨L',l1,l2⟩:=vz (i:=i+8) (blk:=.cells ty xs) (Q:=fun v=>∃n1 s1,kX T tb p0 Φ ((i,n,s)::op) n1 s1 v) (Q':=fun v=>∃n1 s1,kX T tb p0 Φ op n1 s1 v) (fun v ⟨n1,s1,h3⟩=>by
  obtain⟨v',h4,h5⟩:=key n1 s1 v h3
  exact⟨v',h4,n1,s1,h5⟩) L h.all
 refine⟨kv',L',⟨k3,by rw[k1];exact h.nodup,l2,?_⟩,k1,k2,l1⟩
 have:=congrArg List.length k1
 simp only[List.length_map]at this
 rw[l1.1,h.len,this]
theorem mG.JW(R:ib T tb p0 Φ)(h12:T.nodes≤12){U:List (Nat×List bY)}(hU:∀ {u n s},Φ u n s→(n,s)∈U){op:EA}{kv:List (List UInt8×PV)}{L:List PV}(h:mG T tb p0 Φ op kv L):kv.length≤U.length:=by
 have key:∀kv:List (List UInt8×PV),(∀e∈kv,∃u n s,Φ u n s∧e.1=dQ n s)→∃sts:List (Nat×List bY),sts.map (fun x=>dQ x.1 x.2)=kv.map (·.1)∧∀x∈sts,x∈U:=fun kv=>by
  induction kv with
  |nil=>intro _;exact⟨[],rfl,fun x hx=>by cases hx⟩
  |cons e kv ih=>
   intro he
   obtain⟨u,n,s,h1,h2⟩:=he e (by simp)
   obtain⟨sts,h3,h4⟩:=ih (fun e h=>he e (by simp[h]))
   exact⟨(n,s)::sts,by simp[h3,h2],fun x hx=>by
    rcases List.mem_cons.1 hx with rfl|hx
    ·exact hU h1
    ·exact h4 x hx⟩
 obtain⟨sts,h1,h2⟩:=key kv (fun e he=>by
  obtain⟨u,n,s,h1,h2,_⟩:=h.Cc e he
  exact⟨u,n,s,h1,h2⟩)
 have hn:=h.nodup
 rw[←h1]at hn
 have hnd:sts.Nodup:=by
  unfold List.Nodup at hn ⊢
  rw[List.pairwise_map]at hn
  exact hn.imp fun hab e=>hab (by rw[e])
 have:=sM sts U hnd h2
 have h3:=congrArg List.length h1
 simp only[List.length_map]at h3
 omega
theorem mG.DB(R:ib T tb p0 Φ)(h12:T.nodes≤12){op:EA}{kv:List (List UInt8×PV)}{L:List PV}(h:mG T tb p0 Φ op kv L){u n:Nat}{s:List bY}(hΦ:Φ u n s)(hop:∀x∈op,Fe T tb p0 x.2.1 x.2.2 n s){v:PV}(hv:de (dQ n s) kv=some v):∃c,Good T tb p0 Φ v n s c:=by
 obtain⟨u1,n1,s1,h1,h2,h3⟩:=h.Cc _ (iP hv)
 have a1:=R.node h1
 have a2:=R.node hΦ
 obtain⟨rfl,rfl⟩:=DO (by omega) (by omega) (R.small hΦ).1 (R.small h1).1 h2
 rcases h3 with h3|⟨i,h4,_⟩
 ·exact h3
 ·exact(R.DE (hop _ h4) h1).elim
theorem s8{κ:Type}[DecidableEq κ]{k:κ}:∀ {l:List (κ×PV)},de k l=none→k∉l.map (·.1)
 | [],_=>by simp
 |(a,q)::l,h=>by
  simp only[de]at h
  split at h
  ·cases h
  ·rename_i hne
   rw[List.map_cons,List.mem_cons]
   rintro(e|e)
   ·exact hne e
   ·exact s8 h e
theorem nA{κ:Type}[DecidableEq κ]{k:κ}{p:PV}:∀ {l:List (κ×PV)},de k l=none→ij k p l=l++[(k,p)]
 | [],_=>rfl
 |(a,q)::l,h=>by
  simp only[de]at h
  split at h
  ·cases h
  ·rename_i hne
   simp only[ij]
   rw[if_neg hne,nA h]
   rfl
end
end PW
end Go.Proofs.YtnegbdpggideiaaGreatDoor
