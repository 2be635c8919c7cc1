/- WholeStable returns true for every input: a packet with the stable list of any path follows exactly this path in every permitted mixture of states. Package-level tables start as the program's text lays them. -/
import Derived.Test.YtnegbdpggideiaaGreatDoorCardWSB14
set_option linter.unusedVariables false
set_option linter.unusedSimpArgs false
set_option maxRecDepth 10000
set_option maxHeartbeats 1000000
namespace Go.Proofs.YtnegbdpggideiaaGreatDoor
namespace PW
open Go.RowKit cA Mem Net eS
def sL(T:ai):Bool:=(ao T&&decide (T.nodes≤7))&&decide ((T.af.length:Int)≤10)
theorem xc(T:ai):Can Tryz.prog 57 [aP T,num 7,num 10] (· =flag (sL T)):=by
 obtain⟨q1,h1⟩:∃q,ao T=q:=⟨_,rfl⟩
 obtain⟨q2,h2⟩:∃q,decide (T.nodes≤7)=q:=⟨_,rfl⟩
 obtain⟨q3,h3⟩:∃q,decide ((T.af.length:Int)≤10)=q:=⟨_,rfl⟩
 have he:sL T=((q1&&q2)&&q3):=by unfold sL;rw[h1,h2,h3]
 have hv:=fC T
 rw[h1]at hv
 rw[he]
 refine aF Tryz.func57 rfl Tryz.ntmps57 rfl<|ab (.a 2 rfl<|.k [1,2,3] rfl)<|bC 6 (.raw (.bool ((q1&&q2)&&q3))) [] rfl ?_ ?_
 ·refine .v (ed rfl (rfl) rfl) rfl<|.c rfl (hv) rfl<|.a 1 rfl<|?_
  cases q1
  ·exact .a 13 rfl<|.k [6] rfl
  ·refine .a 3 rfl<|.v (cC rfl (h2)) rfl<|.a 2 rfl<|?_
   cases q2
   ·exact .a 7 rfl<|.k [6] rfl
   ·exact .a 4 rfl<|.v (cC rfl (h3)) rfl<|.a 2 rfl<|.k [6] rfl
 exact aq<|⟨_,_,aA.of rfl,aB.pure,rfl⟩
theorem xl(T:ai):Can Tryz.prog 14 [aP T] (· =flag (sL T)):=by
 obtain⟨q1,h1⟩:∃q,sL T=q:=⟨_,rfl⟩
 obtain⟨q2,h2⟩:∃q,ao T=q:=⟨_,rfl⟩
 have he:sL T=(q1&&q2):=by
  rw[←h1,←h2]
  unfold sL
  cases ao T<;>simp
 have hs:=xc T
 have hv:=fC T
 rw[h1]at hs
 rw[h2]at hv
 rw[he]
 refine aF Tryz.func14 rfl Tryz.ntmps14 rfl<|ab (.a 2 rfl<|.k [1] rfl)<|bC 2 (.raw (.bool (q1&&q2))) [] rfl ?_ ?_
 ·refine .v (ed rfl (rfl) rfl) rfl<|.c rfl (hs) rfl<|.a 1 rfl<|?_
  cases q1
  ·exact .a 4 rfl<|.k [2] rfl
  ·exact .v (ed rfl (rfl) rfl) rfl<|.c rfl (hv) rfl<|.a 2 rfl<|.k [2] rfl
 exact aq<|⟨_,_,aA.of rfl,aB.pure,rfl⟩
theorem q9{T:ai}{a:Int}(ha:eR T a=true):∀(f:Bool) (n:Int) (l:List Int),db T f n l=0→bq T a.toNat=b7 T n l→((f=true∧l=[])∨dc T (b7 T n l).toNat=false)→db T f n (l++[a])=0
 |f,n,[],_,ht,ho=>by
  simp only[List.nil_append,db]
  rw[if_neg (by rw[ha];simp),if_neg]
  rintro(h|⟨h1,h2⟩)
  ·exact h ht
  ·rcases ho with⟨h3,_⟩|h3
   ·rw[h1]at h3;cases h3
   ·rw[show b7 T n []=n from rfl,h2]at h3;cases h3
 |f,n,b::l,h,ht,ho=>by
  simp only[List.cons_append,db]at h ⊢
  split at h
  ·cases h
  ·rename_i h1
   rw[if_neg h1]
   split at h
   ·cases h
   ·rename_i h2
    rw[if_neg h2]
    refine q9 ha false _ l h ht (.inr ?_)
    rcases ho with⟨_,h3⟩|h3
    ·cases h3
    ·exact h3
def qS(T:ai)(D:List Bool)(m k:Nat):List Int:=((bm T m).take k).filter fun a=> !aX D a.toNat
theorem zi{T:ai}{D:List Bool}{m k:Nat}(h:k<(bm T m).length):qS T D m (k+1)=qS T D m k++(if aX D ((bm T m).getD k 0).toNat=true then [] else [(bm T m).getD k 0]):=by
 unfold qS
 rw[df _ k 0 h,List.filter_append]
 congr 1
 simp only[List.filter_cons,List.filter_nil]
 cases aX D ((bm T m).getD k 0).toNat<;>rfl
theorem Cc{T:ai}{D:List Bool}{m k:Nat}{a:Int}(h:a∈qS T D m k):a∈bm T m∧aX D a.toNat=false:=by
 unfold qS at h
 obtain⟨h1,h2⟩:=List.mem_filter.1 h
 exact⟨List.mem_of_mem_take h1,by simpa using h2⟩
theorem uk(T:ai)(D:List Bool)(m k:Nat):(qS T D m k).length≤(bm T m).length:=by
 unfold qS
 exact Nat.le_trans (List.length_filter_le _ _) (by rw[List.length_take];omega)
theorem rV{T:ai}{m:Nat}{a:Int}(h:a∈bm T m):∃b:Nat,a=(b:Int)∧b<2*T.af.length∧bq T b=(m:Int):=by
 unfold bm fH at h
 obtain⟨b,hb,rfl⟩:=List.mem_map.1 h
 obtain⟨h1,h2⟩:=List.mem_filter.1 hb
 exact⟨b,rfl,List.mem_range.1 h1,by simpa using h2⟩
theorem BV(T:ai)(m:Int):(bm T m).length≤2*T.af.length:=by
 unfold bm fH
 rw[List.length_map]
 exact Nat.le_trans (List.length_filter_le _ _) (by simp)
set_option maxHeartbeats 2000000 in
theorem A2(T:ai)(D:List Bool)(n:Nat)(L:List Nat)(hv:ao T=true)(hD:D.length=2*T.af.length)(hn:(n:Int)<T.nodes)(hL:L.length≤1000)(h256:∀b∈L,b<256):
  Can Tryz.prog 17 [aP T,bf D,num n,.slice L.length (gb L)] (fun r=>∃q,mI T D n q∧q.length≤L.length∧r=ax q):=by
 have hll:=bN hv
 have hf:bX T D=true:=by simp only[bX,decide_eq_true_eq];omega
 have hfol:∀q,db T true n q=0→(∀a∈q,aX D a.toNat=false)→mI T D n q:=fun q h1 h2=>⟨hv,hf,aW.2 ⟨by omega,hn⟩,h1,h2⟩
 refine aF Tryz.func17 rfl Tryz.ntmps17 rfl<|ab (.a 2 rfl<|.k [1,2,3,4] rfl)<|ab (.a 1 rfl<|.k [1,2,3,4,9] rfl)<|ab (.a 2 rfl<|.k [1,3,4,9,10] rfl)<|aj<|ab (.a 3 rfl<|.k [1,4,9,10,18,19,20] rfl)<|dW 9 3 1 rfl ?_
 refine av<|eZ [1,4,9,10,18,19,20] rfl<|bw (fun r s=>∃(i m:Nat) (q:List Int),i≤L.length∧r=L.length - i∧q.length=i∧db T true n q=0∧(∀a∈q,aX D a.toNat=false)∧b7 T n q=(m:Int)∧(m:Int)<T.nodes∧s=⟨[(1,bf D),(4,.aV (bx T) 0),(9,.own 0),(10,num m),(18,.slice L.length (gb L)),(19,num L.length),(20,num i)],[some (.row 3 1 q.length (aN q))]⟩) L.length ⟨0,n,[],by omega,by omega,rfl,rfl,(fun a ha=>by cases ha),rfl,hn,rfl⟩ ?_
 rintro r s ⟨i,m,q,hi,rfl,hqi,hw,hup,hend,hm,rfl⟩
 refine ab (.a 1 rfl<|.k [1,4,9,10,18,19,20,21] rfl)<|aj<|ah rfl (fun h1=>?_) (fun h1=>?_)
 ·have hlt:i<L.length:=by have:=tt h1;omega
  obtain⟨v,hlv⟩:∃v,L.getD i 0=v:=⟨_,rfl⟩
  have hgv:=(o8 L i hlt).trans (by rw[hlv])
  have hv256:v<256:=by rw[←hlv];exact h256 _ (by rw[List.getD_eq_getElem?_getD,List.getElem?_eq_getElem hlt];exact List.getElem_mem hlt)
  have hou:=Ck T hv m
  have hol:=BV T m
  refine ak<|aj<|av<|ab (.a 1 rfl<|.v (aI (i) rfl) rfl<|.v (aL rfl (hgv)) rfl<|.a 2 rfl<|.k [1,4,9,10,11,12,18,19,20] rfl)<|ab (.a 1 rfl<|.k [1,4,9,10,11,12,13,18,19,20] rfl)<|dW 13 3 1 rfl ?_
  refine aj<|ab (.v (ed rfl (rfl) rfl) rfl<|.a 1 rfl<|.c rfl (hou) rfl<|.a 2 rfl<|.k [1,4,9,10,11,12,13,18,19,20,27,28,29] rfl)<|av<|eZ [1,4,9,10,11,12,13,18,19,20,27,28,29] rfl<|bw (fun r s=>∃k,k≤(bm T m).length∧r=(bm T m).length - k∧s=⟨[(1,bf D),(4,.aV (bx T) 0),(9,.own 0),(10,num m),(11,num i),(12,td v),(13,.own 1),(18,.slice L.length (gb L)),(19,num L.length),(20,num i),(27,ax (bm T m)),(28,num (bm T m).length),(29,num k)],[some (.row 3 1 q.length (aN q)),some (.row 3 1 (qS T D m k).length (aN (qS T D m k)))]⟩) (bm T m).length ⟨0,by omega,by omega,rfl⟩ ?_
  rintro r s ⟨k,hk,rfl,rfl⟩
  refine ab (.a 1 rfl<|.k [1,4,9,10,11,12,13,18,19,20,27,28,29,30] rfl)<|aj<|ah rfl (fun h2=>?_) (fun h2=>?_)
  ·have hkl:k<(bm T m).length:=by have:=tt h2;omega
   obtain⟨b,hb,hbl,hbt⟩:=rV (bU (d:=0) hkl)
   have hst:=zi (D:=D) hkl
   have hul:=uk T D m k
   rw[hb,Int.toNat_natCast]at hst
   obtain⟨q1,hq1⟩:∃q,aX D b=q:=⟨_,rfl⟩
   rw[hq1]at hst
   obtain⟨c0,hc0⟩:∃q,decide ((D.length:Int)=0)=q:=⟨_,rfl⟩
   have hc0f:c0=false:=by rw[←hc0];exact decide_eq_false (by omega)
   subst hc0f
   refine ak<|aj<|av<|ab (.v (aI (k) rfl) rfl<|.v (aL rfl ((aD _ k hkl).trans (by rw[hb]))) rfl<|.a 1 rfl<|.k [1,4,9,10,11,12,13,15,18,19,20,27,28,29] rfl)<|bC 42 (.raw (.bool (!q1))) [1,4,9,10,11,12,13,15,18,19,20,27,28,29] rfl ?_ ?_
   ·exact .a 2 rfl<|.v (cC rfl (hc0)) rfl<|.a 3 rfl<|.v (aI (b) rfl) rfl<|.v (aL rfl ((show(bP D)[b]? =some (flag q1) by rw[cW _ b (by omega),gz,hq1]))) rfl<|.a 2 rfl<|.k [42,1,4,9,10,11,12,13,15,18,19,20,27,28,29] rfl
   refine ah rfl (fun h3=>?_) (fun h3=>?_)
   ·have hqf:q1=false:=by cases q1<;>first|rfl|cases h3
    rw[hqf,if_neg (by simp)]at hst
    refine ba<|au 3 rfl<|ca (aY rfl (bE.rk.get rfl) rfl rfl rfl rfl (by unfold maxLen;omega)) rfl<|au 1 rfl ?_
    refine cE [0,2] (.c 1<|.c 4<|.c 9<|.c 10<|.c 11<|.c 12<|.c 13<|.c 18<|.c 19<|.c 20<|.c 27<|.c 28<|.c 29<|.nil) (.kept rfl (.row az.pure)<|.kept rfl (.dr rfl (bT _ _))<|.nil) rfl rfl (aO ?_)
    refine ay (.v (aR rfl) rfl<|.a 1 rfl<|.k [1,4,9,10,11,12,13,18,19,20,27,28,29] rfl) ?_
    refine⟨(bm T m).length - (k+1),by omega,k+1,by omega,rfl,?_⟩
    rw[hst]
    first
     |rfl
     |(simp only[List.length_append,List.length_singleton];rfl)
   ·have hqt:q1=true:=by cases q1<;>first|rfl|cases h3
    rw[hqt,if_pos rfl,List.append_nil]at hst
    refine ak<|ay (.v (aR rfl) rfl<|.a 1 rfl<|.k [1,4,9,10,11,12,13,18,19,20,27,28,29] rfl) ?_
    refine⟨(bm T m).length - (k+1),by omega,k+1,by omega,rfl,?_⟩
    rw[hst]
    first
     |rfl
     |(simp only[List.length_append,List.length_singleton];rfl)
  ·have hke:k=(bm T m).length:=by have:=ff h2;omega
   subst hke
   obtain⟨u,hu⟩:∃u,qS T D m (bm T m).length=u:=⟨_,rfl⟩
   have hum:∀a∈u,a∈bm T m∧aX D a.toNat=false:=fun a ha=>by rw[←hu]at ha;exact Cc ha
   have hul:u.length≤(bm T m).length:=by rw[←hu];exact uk T D m _
   rw[hu]
   obtain⟨c1,hc1⟩:∃q,decide ((u.length:Int)=0)=q:=⟨_,rfl⟩
   obtain⟨c2,hc2⟩:∃q,decide (0<(i:Int))=q:=⟨_,rfl⟩
   obtain⟨c3,hc3⟩:∃q,dc T m=q:=⟨_,rfl⟩
   have hov:=ze T hv m
   rw[hc3]at hov
   clear h2
   refine bn<|aj<|bC 59 (.raw (.bool (c1||(c2&&c3)))) [1,4,9,12,13,18,19,20] rfl ?_ ?_
   ·refine .a 2 rfl<|.v (cC rfl (hc1)) rfl<|.a 1 rfl<|?_
    cases c1
    ·refine .a 1 rfl<|.v (cC rfl (hc2)) rfl<|.a 1 rfl<|?_
     cases c2
     ·exact .a 5 rfl<|.k [59,1,4,9,12,13,18,19,20] rfl
     ·exact .v (ed rfl (rfl) rfl) rfl<|.a 1 rfl<|.c rfl (hov) rfl<|.a 2 rfl<|.k [59,1,4,9,12,13,18,19,20] rfl
    ·exact .a 8 rfl<|.k [59,1,4,9,12,13,18,19,20] rfl
   refine ah rfl (fun h4=>?_) (fun h4=>?_)
   ·skip
    exact ab (.a 2 rfl<|.k [8] rfl)<|aq<|⟨_,_,aA.of rfl,aB.ey rfl an.pure,q,hfol q hw hup,by omega,rfl⟩
   ·obtain⟨h5,h6⟩:=Bool.or_eq_false_iff.1 h4
    have hu0:0<u.length:=by rw[h5]at hc1;have:=ff hc1;omega
    obtain⟨j,hj⟩:∃j,v % u.length=j:=⟨_,rfl⟩
    have hjl:j<u.length:=by rw[←hj];exact Nat.mod_lt _ hu0
    have hrm:(v:Int).tmod (u.length:Int)=(j:Int):=by rw[Int.tmod_eq_emod_of_nonneg (by omega),←hj];rfl
    obtain⟨m1,m2⟩:=hum _ (bU (d:=0) hjl)
    obtain⟨b,hb,hbl,hbt⟩:=rV m1
    have hhd:=qF T hv b hbl
    obtain⟨h0,hdl⟩:=(aJ hv).head b hbl
    obtain⟨m',hm'⟩:=Int.eq_ofNat_of_zero_le h0
    rw[hm']at hhd
    have hw2:db T true n (q++[(b:Int)])=0:=by
     refine q9 (cI.2 ⟨by omega,by omega⟩) true n q hw (by rw[Int.toNat_natCast,hbt,hend]) ?_
     by_cases e:q=[]
     ·exact .inl ⟨rfl,e⟩
     ·have:c2=true:=by rw[←hc2];exact decide_eq_true (by have:=List.length_pos_iff.2 e;omega)
      rw[this,Bool.true_and]at h6
      rw[hend,Int.toNat_natCast,hc3]
      exact .inr h6
    have hup2:∀a∈q++[(b:Int)],aX D a.toNat=false:=fun a ha=>by
     rcases List.mem_append.1 ha with h|h
     ·exact hup a h
     ·rw[List.mem_singleton]at h;rw[h,←hb];exact m2
    have hend2:b7 T n (q++[(b:Int)])=(m':Int):=by rw[gR];show aS T (b:Int).toNat=_;rw[Int.toNat_natCast,hm']
    refine ak<|ab (.a 2 rfl<|.v (mB rfl (show Tryz.prog.underlying 5=some (.int .u8) by kernel_rfl) (show Tryz.prog.underlying 3=some (.int .i64) by kernel_rfl) rfl (wrap_small hv256)) rfl<|.a 2 rfl<|.v (mS rfl rfl rfl (by omega) hrm) rfl<|.v (aI (j) rfl) rfl<|.v (aL rfl ((aD u j hjl).trans (by rw[hb]))) rfl<|.a 1 rfl<|.k [1,4,9,16,18,19,20] rfl)<|aQ<|au 3 rfl<|ca (aY rfl (bE.rk.get rfl) rfl rfl rfl rfl (by unfold maxLen;omega)) rfl<|au 1 rfl ?_
    refine cE [2] (.c 1<|.c 4<|.c 9<|.c 16<|.c 18<|.c 19<|.c 20<|.nil) (.kept rfl (.dr rfl (bT _ _))<|.nil) rfl rfl (aO ?_)
    refine ay (.v (ed rfl (rfl) rfl) rfl<|.a 1 rfl<|.c rfl (hhd) rfl<|.a 1 rfl<|.k [1,4,9,10,18,19,20] rfl) ?_
    refine ay (.v (aR rfl) rfl<|.a 1 rfl<|.k [1,4,9,10,18,19,20] rfl) ?_
    refine⟨L.length - (i+1),by omega,i+1,m',q++[(b:Int)],by omega,rfl,by simp;omega,hw2,hup2,hend2,by omega,?_⟩
    first
     |rfl
     |(simp only[List.length_append,List.length_singleton];rfl)
 ·clear h1
  exact bn<|ab (.a 2 rfl<|.k [8] rfl)<|aq<|⟨_,_,aA.of rfl,aB.ey rfl an.pure,q,hfol q hw hup,by omega,rfl⟩
def Gj(L:List Nat)(n:Nat):Nat:=if n<L.length then L.getD n 0 % 2 else 0
def qN(late e c:Bool):Int:=if(late&&e)=true then 3 else if((!late &&e)&&c)=true then 1 else if(!late &&e)=true then 0 else 2
def kl(T:ai)(k x:Int)(late:Bool)(L:List Nat)(m:Nat):List Int:=(List.range m).map fun n=>qN late (decide ((Gj L n:Int)=1)) (!qL k x n&&qM T k x n)
theorem xh(T:ai)(k x:Int)(late:Bool)(L:List Nat)(m:Nat):kl T k x late L (m+1)=kl T k x late L m++[qN late (decide ((Gj L m:Int)=1)) (!qL k x m&&qM T k x m)]:=by simp[kl,List.range_succ]
theorem oa(T:ai)(k x:Int)(late:Bool)(L:List Nat)(m:Nat):(kl T k x late L m).length=m:=by simp[kl]
theorem nY{T:ai}{k x:Int}{late:Bool}{L:List Nat}{m n:Nat}(h:n<m):jh (kl T k x late L m) n=qN late (decide ((Gj L n:Int)=1)) (!qL k x n&&qM T k x n):=by
 unfold jh kl
 rw[List.getD_eq_getElem?_getD,List.getElem?_map,List.getElem?_range h]
 rfl
theorem Cp{T:ai}{k x:Int}{late:Bool}{L:List Nat}(hvc:(ao T&&bV T k x)=true)(hN:0≤T.nodes):mf T k x (kl T k x late L T.nodes.toNat)=true:=by
 have hl:=oa T k x late L T.nodes.toNat
 unfold mf
 rw[hvc,decide_eq_true (by rw[hl];omega),if_pos (show(true&&true)=true from rfl),Bool.and_eq_true,hl]
 refine⟨kH.2 fun n hn hg=>?_,?_⟩
 ·rw[nY hn]
  unfold qN xu
  split
  ·rfl
  ·split
   ·rfl
   ·split<;>rfl
 ·rw[Bool.or_eq_true]
  cases late with
  |true=>
   refine .inr (kH.2 fun n hn hg=>?_)
   rw[nY hn]
   unfold qN yI
   simp only[Bool.not_true,Bool.false_and,Bool.true_and]
   split<;>rfl
  |false=>
   refine .inl (kH.2 fun n hn hg=>?_)
   rw[nY hn]
   unfold qN yc
   rw[hg]
   simp only[Bool.not_false,Bool.false_and,Bool.true_and]
   cases qM T k x n<;>cases decide ((Gj L n:Int)=1)<;>rfl
set_option maxHeartbeats 2000000 in
theorem vZ(T:ai)(k x:Int)(l:Bool)(L:List Nat)(hvc:(ao T&&bV T k x)=true)(h12:T.nodes≤12)(hL:L.length≤1000)(h256:∀b∈L,b<256):
  Can Tryz.prog 19 [aP T,cu k x,flag l,.slice L.length (gb L)] (· =ax (kl T k x l L T.nodes.toNat)):=by
 have hv:=(Bool.and_eq_true_iff.1 hvc).1
 have hNl:=(aJ hv).nodes
 obtain⟨N,hNN⟩:∃N:Nat,T.nodes=(N:Int):=⟨T.nodes.toNat,by omega⟩
 have hNt:T.nodes.toNat=N:=by omega
 rw[hNt]
 refine aF Tryz.func19 rfl Tryz.ntmps19 rfl<|ab (.a 3 rfl<|.k [2,3,4,5] rfl)<|ab (.a 1 rfl<|.k [2,3,4,5,9] rfl)<|dW 9 3 1 rfl ?_
 refine aj<|ab (.a 1 rfl<|.k [2,3,4,5,9,10] rfl)<|av<|eZ [2,3,4,5,9,10] rfl<|bw (fun r s=>∃n,n≤N∧r=N - n∧s=⟨[(2,flag l),(3,.slice L.length (gb L)),(4,.aV (bx T) 0),(5,.aV (cj k x) 0),(9,.own 0),(10,num n)],[some (.row 3 1 (kl T k x l L n).length (aN (kl T k x l L n)))]⟩) N ⟨0,by omega,by omega,rfl⟩ ?_
 rintro r s ⟨n,hn,rfl,rfl⟩
 refine aj<|ab (.a 2 rfl<|.v (aL rfl ((show some (num T.nodes)=some (num (N:Int)) by rw[hNN]))) rfl<|.a 1 rfl<|.k [2,3,4,5,9,10,16] rfl)<|ah rfl (fun h1=>?_) (fun h1=>?_)
 ·have hlt:n<N:=by have:=tt h1;omega
  have hst:=xh T k x l L n
  have hsl:=oa T k x l L n
  obtain⟨c,hc0⟩:∃q,(!qL k x n&&qM T k x n)=q:=⟨_,rfl⟩
  have hcn:=zh T k x n hvc
  rw[hc0]at hst hcn
  refine ak<|aj<|av<|ab (.a 1 rfl<|.k [2,3,4,5,9,10,11] rfl)<|aj<|ab (.a 4 rfl<|.k [2,3,4,5,9,10,11,22] rfl)<|ah rfl (fun h2=>?_) (fun h2=>?_)
  ·have hnl:n<L.length:=by have:=tt h2;omega
   obtain⟨v,hlv⟩:∃v,L.getD n 0=v:=⟨_,rfl⟩
   have hgv:=(o8 L n hnl).trans (by rw[hlv])
   have hv256:v<256:=by rw[←hlv];exact h256 _ (by rw[List.getD_eq_getElem?_getD,List.getElem?_eq_getElem hnl];exact List.getElem_mem hnl)
   have hk:Gj L n=v % 2:=by unfold Gj;rw[if_pos hnl,hlv]
   have hrm:(v:Int).tmod 2=((v % 2:Nat):Int):=by rw[Int.tmod_eq_emod_of_nonneg (by omega)];omega
   rw[hk]at hst
   obtain⟨e1,he1⟩:∃q,decide (((v % 2:Nat):Int)=1)=q:=⟨_,rfl⟩
   rw[he1]at hst
   refine ay (.a 2 rfl<|.v (aI (n) rfl) rfl<|.v (aL rfl (hgv)) rfl<|.v (mB rfl (show Tryz.prog.underlying 5=some (.int .u8) by kernel_rfl) (show Tryz.prog.underlying 3=some (.int .i64) by kernel_rfl) rfl (wrap_small hv256)) rfl<|.v (mS rfl rfl rfl (by omega) hrm) rfl<|.a 1 rfl<|.k [2,3,4,5,9,10,11] rfl) ?_
   refine ab (.a 1 rfl<|.k [2,3,4,5,9,10,11,12] rfl)<|aj<|av<|bC 29 (.raw (.bool (l&&e1))) [2,3,4,5,9,10,11,12] rfl ?_ ?_
   ·refine .a 2 rfl<|?_
    cases l
    ·exact .a 4 rfl<|.k [29,2,3,4,5,9,10,11,12] rfl
    ·exact .a 1 rfl<|.v (cC rfl (he1)) rfl<|.a 2 rfl<|.k [29,2,3,4,5,9,10,11,12] rfl
   refine ah rfl (fun h3=>?_) (fun h3=>?_)
   ·have hs:qN l e1 c=3:=by unfold qN;rw[if_pos h3]
    refine ay (.a 1 rfl<|.k [2,3,4,5,9,10,12] rfl) ?_
    refine ba<|au 3 rfl<|ca (aY rfl (bE.rk.get rfl) rfl rfl rfl rfl (by unfold maxLen;omega)) rfl<|au 1 rfl ?_
    refine cE [1] (.c 2<|.c 3<|.c 4<|.c 5<|.c 9<|.c 10<|.nil) (.kept rfl (.dr rfl (bT _ _))<|.nil) rfl rfl (aO ?_)
    refine ay (.a 1 rfl<|.v (aR rfl) rfl<|.a 1 rfl<|.k [2,3,4,5,9,10] rfl) ?_
    refine⟨N - (n+1),by omega,n+1,by omega,rfl,?_⟩
    rw[hst,hs]
    first
     |rfl
     |(simp only[List.length_append,List.length_singleton];rfl)
   ·clear h2
    refine bC 35 (.raw (.bool ((!l &&e1)&&c))) [2,3,4,5,9,10,11,12] rfl ?_ ?_
    ·refine .a 3 rfl<|?_
     cases l
     ·refine .a 1 rfl<|.v (cC rfl (he1)) rfl<|.a 2 rfl<|?_
      cases e1
      ·exact .a 6 rfl<|.k [35,2,3,4,5,9,10,11,12] rfl
      ·exact .v (ed rfl (rfl) rfl) rfl<|.v (ed rfl (rfl) rfl) rfl<|.a 1 rfl<|.c rfl (hcn) rfl<|.a 2 rfl<|.k [35,2,3,4,5,9,10,11,12] rfl
     ·exact .a 10 rfl<|.k [35,2,3,4,5,9,10,11,12] rfl
    refine ah rfl (fun h4=>?_) (fun h4=>?_)
    ·have hs:qN l e1 c=1:=by unfold qN;rw[if_neg (by rw[h3];simp),if_pos h4]
     refine ay (.a 1 rfl<|.k [2,3,4,5,9,10,12] rfl) ?_
     refine ba<|au 3 rfl<|ca (aY rfl (bE.rk.get rfl) rfl rfl rfl rfl (by unfold maxLen;omega)) rfl<|au 1 rfl ?_
     refine cE [1] (.c 2<|.c 3<|.c 4<|.c 5<|.c 9<|.c 10<|.nil) (.kept rfl (.dr rfl (bT _ _))<|.nil) rfl rfl (aO ?_)
     refine ay (.a 1 rfl<|.v (aR rfl) rfl<|.a 1 rfl<|.k [2,3,4,5,9,10] rfl) ?_
     refine⟨N - (n+1),by omega,n+1,by omega,rfl,?_⟩
     rw[hst,hs]
     first
      |rfl
      |(simp only[List.length_append,List.length_singleton];rfl)
    ·have h3':=h3
     refine bC 48 (.raw (.bool (!l &&e1))) [2,3,4,5,9,10,12] rfl ?_ ?_
     ·refine .a 3 rfl<|?_
      cases l
      ·exact .a 1 rfl<|.v (cC rfl (he1)) rfl<|.a 2 rfl<|.k [48,2,3,4,5,9,10,12] rfl
      ·exact .a 4 rfl<|.k [48,2,3,4,5,9,10,12] rfl
     refine ah rfl (fun h5=>?_) (fun h5=>?_)
     ·have hs:qN l e1 c=0:=by unfold qN;rw[if_neg (by rw[h3];simp),if_neg (by rw[h4];simp),if_pos h5]
      refine ay (.a 1 rfl<|.k [2,3,4,5,9,10,12] rfl) ?_
      refine ba<|au 3 rfl<|ca (aY rfl (bE.rk.get rfl) rfl rfl rfl rfl (by unfold maxLen;omega)) rfl<|au 1 rfl ?_
      refine cE [1] (.c 2<|.c 3<|.c 4<|.c 5<|.c 9<|.c 10<|.nil) (.kept rfl (.dr rfl (bT _ _))<|.nil) rfl rfl (aO ?_)
      refine ay (.a 1 rfl<|.v (aR rfl) rfl<|.a 1 rfl<|.k [2,3,4,5,9,10] rfl) ?_
      refine⟨N - (n+1),by omega,n+1,by omega,rfl,?_⟩
      rw[hst,hs]
      first
       |rfl
       |(simp only[List.length_append,List.length_singleton];rfl)
     ·have hs:qN l e1 c=2:=by unfold qN;rw[if_neg (by rw[h3];simp),if_neg (by rw[h4];simp),if_neg (by rw[h5];simp)]
      refine ak<|ba<|au 3 rfl<|ca (aY rfl (bE.rk.get rfl) rfl rfl rfl rfl (by unfold maxLen;omega)) rfl<|au 1 rfl ?_
      refine cE [1] (.c 2<|.c 3<|.c 4<|.c 5<|.c 9<|.c 10<|.nil) (.kept rfl (.dr rfl (bT _ _))<|.nil) rfl rfl (aO ?_)
      refine ay (.a 1 rfl<|.v (aR rfl) rfl<|.a 1 rfl<|.k [2,3,4,5,9,10] rfl) ?_
      refine⟨N - (n+1),by omega,n+1,by omega,rfl,?_⟩
      rw[hst,hs]
      first
       |rfl
       |(simp only[List.length_append,List.length_singleton];rfl)
  ·have hnl:¬n<L.length:=by have:=ff h2;omega
   have hk:Gj L n=0:=by unfold Gj;rw[if_neg hnl]
   rw[hk]at hst
   obtain⟨e1,he1⟩:∃q,decide (((0:Nat):Int)=1)=q:=⟨_,rfl⟩
   rw[he1]at hst
   refine ak<|ab (.a 1 rfl<|.k [2,3,4,5,9,10,11,12] rfl)<|aj<|av<|bC 29 (.raw (.bool (l&&e1))) [2,3,4,5,9,10,11,12] rfl ?_ ?_
   ·refine .a 2 rfl<|?_
    cases l
    ·exact .a 4 rfl<|.k [29,2,3,4,5,9,10,11,12] rfl
    ·exact .a 1 rfl<|.v (cC rfl (he1)) rfl<|.a 2 rfl<|.k [29,2,3,4,5,9,10,11,12] rfl
   refine ah rfl (fun h3=>?_) (fun h3=>?_)
   ·have hs:qN l e1 c=3:=by unfold qN;rw[if_pos h3]
    refine ay (.a 1 rfl<|.k [2,3,4,5,9,10,12] rfl) ?_
    refine ba<|au 3 rfl<|ca (aY rfl (bE.rk.get rfl) rfl rfl rfl rfl (by unfold maxLen;omega)) rfl<|au 1 rfl ?_
    refine cE [1] (.c 2<|.c 3<|.c 4<|.c 5<|.c 9<|.c 10<|.nil) (.kept rfl (.dr rfl (bT _ _))<|.nil) rfl rfl (aO ?_)
    refine ay (.a 1 rfl<|.v (aR rfl) rfl<|.a 1 rfl<|.k [2,3,4,5,9,10] rfl) ?_
    refine⟨N - (n+1),by omega,n+1,by omega,rfl,?_⟩
    rw[hst,hs]
    first
     |rfl
     |(simp only[List.length_append,List.length_singleton];rfl)
   ·clear h2
    refine bC 35 (.raw (.bool ((!l &&e1)&&c))) [2,3,4,5,9,10,11,12] rfl ?_ ?_
    ·refine .a 3 rfl<|?_
     cases l
     ·refine .a 1 rfl<|.v (cC rfl (he1)) rfl<|.a 2 rfl<|?_
      cases e1
      ·exact .a 6 rfl<|.k [35,2,3,4,5,9,10,11,12] rfl
      ·exact .v (ed rfl (rfl) rfl) rfl<|.v (ed rfl (rfl) rfl) rfl<|.a 1 rfl<|.c rfl (hcn) rfl<|.a 2 rfl<|.k [35,2,3,4,5,9,10,11,12] rfl
     ·exact .a 10 rfl<|.k [35,2,3,4,5,9,10,11,12] rfl
    refine ah rfl (fun h4=>?_) (fun h4=>?_)
    ·have hs:qN l e1 c=1:=by unfold qN;rw[if_neg (by rw[h3];simp),if_pos h4]
     refine ay (.a 1 rfl<|.k [2,3,4,5,9,10,12] rfl) ?_
     refine ba<|au 3 rfl<|ca (aY rfl (bE.rk.get rfl) rfl rfl rfl rfl (by unfold maxLen;omega)) rfl<|au 1 rfl ?_
     refine cE [1] (.c 2<|.c 3<|.c 4<|.c 5<|.c 9<|.c 10<|.nil) (.kept rfl (.dr rfl (bT _ _))<|.nil) rfl rfl (aO ?_)
     refine ay (.a 1 rfl<|.v (aR rfl) rfl<|.a 1 rfl<|.k [2,3,4,5,9,10] rfl) ?_
     refine⟨N - (n+1),by omega,n+1,by omega,rfl,?_⟩
     rw[hst,hs]
     first
      |rfl
      |(simp only[List.length_append,List.length_singleton];rfl)
    ·have h3':=h3
     refine bC 48 (.raw (.bool (!l &&e1))) [2,3,4,5,9,10,12] rfl ?_ ?_
     ·refine .a 3 rfl<|?_
      cases l
      ·exact .a 1 rfl<|.v (cC rfl (he1)) rfl<|.a 2 rfl<|.k [48,2,3,4,5,9,10,12] rfl
      ·exact .a 4 rfl<|.k [48,2,3,4,5,9,10,12] rfl
     refine ah rfl (fun h5=>?_) (fun h5=>?_)
     ·have hs:qN l e1 c=0:=by unfold qN;rw[if_neg (by rw[h3];simp),if_neg (by rw[h4];simp),if_pos h5]
      refine ay (.a 1 rfl<|.k [2,3,4,5,9,10,12] rfl) ?_
      refine ba<|au 3 rfl<|ca (aY rfl (bE.rk.get rfl) rfl rfl rfl rfl (by unfold maxLen;omega)) rfl<|au 1 rfl ?_
      refine cE [1] (.c 2<|.c 3<|.c 4<|.c 5<|.c 9<|.c 10<|.nil) (.kept rfl (.dr rfl (bT _ _))<|.nil) rfl rfl (aO ?_)
      refine ay (.a 1 rfl<|.v (aR rfl) rfl<|.a 1 rfl<|.k [2,3,4,5,9,10] rfl) ?_
      refine⟨N - (n+1),by omega,n+1,by omega,rfl,?_⟩
      rw[hst,hs]
      first
       |rfl
       |(simp only[List.length_append,List.length_singleton];rfl)
     ·have hs:qN l e1 c=2:=by unfold qN;rw[if_neg (by rw[h3];simp),if_neg (by rw[h4];simp),if_neg (by rw[h5];simp)]
      refine ak<|ba<|au 3 rfl<|ca (aY rfl (bE.rk.get rfl) rfl rfl rfl rfl (by unfold maxLen;omega)) rfl<|au 1 rfl ?_
      refine cE [1] (.c 2<|.c 3<|.c 4<|.c 5<|.c 9<|.c 10<|.nil) (.kept rfl (.dr rfl (bT _ _))<|.nil) rfl rfl (aO ?_)
      refine ay (.a 1 rfl<|.v (aR rfl) rfl<|.a 1 rfl<|.k [2,3,4,5,9,10] rfl) ?_
      refine⟨N - (n+1),by omega,n+1,by omega,rfl,?_⟩
      rw[hst,hs]
      first
       |rfl
       |(simp only[List.length_append,List.length_singleton];rfl)
 ·have hne:n=N:=by have:=ff h1;omega
  subst hne
  exact bn<|ab (.a 2 rfl<|.k [8] rfl)<|aq<|⟨_,_,aA.of rfl,aB.ey rfl an.pure,rfl⟩
end PW
end Go.Proofs.YtnegbdpggideiaaGreatDoor
namespace Go.Proofs.YtnegbdpggideiaaGreatDoor
namespace PW
open Go.RowKit cA Mem Net eS
def tc(A B C:List Nat):List PV:=[.slice A.length (gb A),.slice B.length (gb B),.slice C.length (gb C)]
def sT(A B C:List Nat):PV:=.agg (tc A B C)
instance (A B C:List Nat):aG (tc A B C):=by unfold tc;infer_instance
instance (A B C:List Nat):IsPure (sT A B C):=by unfold sT;infer_instance
theorem FC{P:Program}{ty:TypeId}(a:Nat)(w:World):(binOp .rem ty (.int .u8 (a:Int)) (.int .u8 2)).run P w= .ok (.int .u8 ((a % 2:Nat):Int)) w:=by
 have:(a:Int).tmod 2=((a % 2:Nat):Int):=by rw[Int.tmod_eq_emod_of_nonneg (by omega)];omega
 simp[binOp,Op.intDiv,this]
theorem DY{T:ai}(hv:ao T=true){c:Int×Int}(h:c∈pM T 64):bV T c.1 c.2=true:=by
 have hN:=(aJ hv).nodes
 rcases FB h with⟨j,hj,rfl⟩|⟨j,hj,rfl⟩|⟨j,hj,rfl⟩
 ·show bV T 1 (j:Int)=true
  unfold bV
  simp only[if_true,Bool.and_eq_true,decide_eq_true_eq]
  exact⟨by omega,by omega⟩
 ·show bV T 2 (j:Int)=true
  unfold bV
  simp only[if_neg (show ¬(2:Int)=1 by decide),if_true]
  exact aW.2 ⟨by omega,by omega⟩
 ·show bV T 3 ((j+1:Nat):Int)=true
  unfold bV
  simp only[if_neg (show ¬(3:Int)=1 by decide),if_neg (show ¬(3:Int)=2 by decide),if_true,Bool.and_eq_true,decide_eq_true_eq]
  exact⟨by omega,by omega⟩
theorem Hw{T:ai}{D:List Bool}{n:Int}{p:List Int}(hF:mI T D n p):CU T D (eD T [] n p) n p=true:=by
 unfold CU
 rw[if_pos (mO hF),po hF.bare _ 0 (Nat.zero_le _),Bool.and_eq_true]
 exact⟨ts hF.bare _ 0 (Nat.zero_le _) (by omega),oV hF.bare _ 0 (Nat.zero_le _)⟩
set_option maxHeartbeats 2000000 in
theorem pI(T:ai)(w:Nat)(hw:w<256)(A B C:List Nat)(hA:∀b∈A,b<256)(hB:∀b∈B,b<256)(hC:∀b∈C,b<256):Can Tryz.prog 3 [aP T,td w,sT A B C] (· =flag true):=by
 obtain⟨w1,hw1⟩:∃q,sL T=q:=⟨_,rfl⟩
 obtain⟨w2,hw2⟩:∃q,decide ((10:Int)<A.length)=q:=⟨_,rfl⟩
 obtain⟨w3,hw3⟩:∃q,decide ((20:Int)<B.length)=q:=⟨_,rfl⟩
 obtain⟨w4,hw4⟩:∃q,decide ((C.length:Int)≠2)=q:=⟨_,rfl⟩
 have hsm:=xl T
 rw[hw1]at hsm
 refine aF Tryz.func3 rfl Tryz.ntmps3 rfl<|ab (.a 3 rfl<|.k [1,3,5] rfl)<|aj<|ab (.c rfl (tN) rfl<|.a 1 rfl<|.k [1,3,5,19] rfl)<|ah rfl (fun hc=>?_) (fun hc=>?_)
 ·cases hc
 ·clear hc
  refine ak<|aj<|bC 40 (.raw (.bool (((!w1 ||w2)||w3)||w4))) [1,3,5] rfl ?_ ?_
  ·refine .v (ed rfl (rfl) rfl) rfl<|.c rfl (hsm) rfl<|.a 2 rfl<|?_
   cases w1
   ·exact .a 17 rfl<|.k [40,1,3,5] rfl
   ·refine .v (aI (0) rfl) rfl<|.v (aL rfl ((show some (PV.slice A.length (gb A))=some (.slice A.length (gb A)) from rfl))) rfl<|.a 1 rfl<|.v (cC rfl (hw2)) rfl<|.a 2 rfl<|?_
    cases w2
    ·refine .v (aI (1) rfl) rfl<|.v (aL rfl ((show some (PV.slice B.length (gb B))=some (.slice B.length (gb B)) from rfl))) rfl<|.a 1 rfl<|.v (cC rfl (hw3)) rfl<|.a 2 rfl<|?_
     cases w3
     ·exact .v (aI (2) rfl) rfl<|.v (aL rfl ((show some (PV.slice C.length (gb C))=some (.slice C.length (gb C)) from rfl))) rfl<|.a 1 rfl<|.v (cC rfl (hw4)) rfl<|.a 1 rfl<|.k [40,1,3,5] rfl
     ·exact .a 5 rfl<|.k [40,1,3,5] rfl
    ·exact .a 11 rfl<|.k [40,1,3,5] rfl
  refine ah rfl (fun hc=>?_) (fun hc=>?_)
  ·skip
   exact ab (.a 1 rfl<|.k [6] rfl)<|aq<|⟨_,_,aA.of rfl,aB.pure,rfl⟩
  ·have hall:w1=true∧w2=false∧w3=false∧w4=false:=by cases w1<;>cases w2<;>cases w3<;>cases w4<;>simp at hc ⊢
   obtain⟨rfl,rfl,rfl,rfl⟩:=hall
   have hsv:ao T=true∧T.nodes≤7∧T.af.length≤10:=by
    unfold sL at hw1
    simp only[Bool.and_eq_true,decide_eq_true_eq]at hw1
    exact⟨hw1.1.1,hw1.1.2,by omega⟩
   obtain⟨hv,h7,h10⟩:=hsv
   have hA10:=ff hw2
   have hB20:=ff hw3
   have hC2:C.length=2:=by have:=ff hw4;omega
   have hNl:=(aJ hv).nodes
   obtain⟨N,hNN⟩:∃N:Nat,T.nodes=(N:Int):=⟨T.nodes.toNat,by omega⟩
   have hal:=A7 T
   rw[if_pos hv]at hal
   have hlen:0<(pM T 64).length:=by
    have h1:(xK T T.nodes.toNat).length≤(pM T 64).length:=by unfold pM;rw[List.length_append];omega
    rw[tG]at h1
    omega
   have hlen2:=yl T 64
   obtain⟨j,hj⟩:∃j,w % (pM T 64).length=j:=⟨_,rfl⟩
   have hjl:j<(pM T 64).length:=by rw[←hj];exact Nat.mod_lt _ hlen
   have hrm:(w:Int).tmod ((pM T 64).length:Int)=(j:Int):=by rw[Int.tmod_eq_emod_of_nonneg (by omega),←hj];rfl
   obtain⟨c,hcg⟩:∃c,(pM T 64)[j]? =some c:=⟨_,List.getElem?_eq_getElem hjl⟩
   have hcc:=DY hv (List.mem_of_getElem? hcg)
   have hcd:=xQ _ j c hcg
   obtain⟨k,x⟩:=c
   dsimp only at hcc hcd
   have hvc:(ao T&&bV T k x)=true:=by rw[hv,hcc];rfl
   have hmk:=jA T k x
   unfold iI dL at hmk
   rw[if_pos hvc,if_pos rfl]at hmk
   obtain⟨c0,hc0⟩:∃a,C.getD 0 0=a:=⟨_,rfl⟩
   obtain⟨c1,hc1⟩:∃a,C.getD 1 0=a:=⟨_,rfl⟩
   have hg0:=(o8 C 0 (by omega)).trans (by rw[hc0])
   have hg1:=(o8 C 1 (by omega)).trans (by rw[hc1])
   have hc0l:c0<256:=by rw[←hc0];exact hC _ (by rw[List.getD_eq_getElem?_getD,List.getElem?_eq_getElem (show 0<C.length by omega)];exact List.getElem_mem _)
   obtain⟨n,hn⟩:∃n,c0 % N=n:=⟨_,rfl⟩
   have hnl:n<N:=by rw[←hn];exact Nat.mod_lt _ (by omega)
   have hrn:(c0:Int).tmod (N:Int)=(n:Int):=by rw[Int.tmod_eq_emod_of_nonneg (by omega),←hn];rfl
   obtain⟨g1,hg1'⟩:∃q,decide (k=2)=q:=⟨_,rfl⟩
   obtain⟨g2,hg2'⟩:∃q,decide (x=(n:Int))=q:=⟨_,rfl⟩
   have htp:=A2 T (aT T k x) n A hv (gw T k x) (by omega) (by omega) hA
   obtain⟨lt,hlt⟩:∃q,decide (((c1 % 2:Nat):Int)=1)=q:=⟨_,rfl⟩
   have hst:=vZ T k x lt B hvc (by omega) (by omega) hB
   have hpm:=Cp (late:=lt) (L:=B) hvc (by omega)
   obtain⟨S,hS⟩:∃S,kl T k x lt B T.nodes.toNat=S:=⟨_,rfl⟩
   have hSl:S.length=N:=by rw[←hS,oa];omega
   rw[hS]at hst hpm
   have hmt:=zf T k x S (by omega) (by omega)
   have hme:HF T k x S=0:=by
    unfold HF
    rw[hvc,decide_eq_true (show(S.length:Int)=T.nodes by omega)]
    simp[hpm]
   rw[hme]at hmt
   unfold Gc at hmt
   rw[if_pos rfl]at hmt
   obtain⟨AL,hAL⟩:∃L,pM T 64=L:=⟨_,rfl⟩
   rw[hAL]at hal hlen hlen2 hjl hrm hcd
   clear hc
   refine ak<|ab (.v (ed rfl (rfl) rfl) rfl<|.c rfl (hal) rfl<|.a 1 rfl<|.k [1,3,5,7] rfl)<|aQ<|au 2 rfl<|bz (mB rfl (show Tryz.prog.underlying 5=some (.int .u8) by kernel_rfl) (show Tryz.prog.underlying 3=some (.int .i64) by kernel_rfl) rfl (wrap_small hw)) rfl<|au 2 rfl<|bz (mS rfl rfl rfl (by omega) hrm) rfl<|bz (aI ((j*2)) rfl) rfl<|bz (ed rfl (hcd) rfl) rfl<|au 2 rfl<|aH [3,5,8] rfl ?_
   refine ab (.v (ed rfl (rfl) rfl) rfl<|.a 1 rfl<|.c rfl (hmk) rfl<|.a 5 rfl<|.k [3,5,8,9,10] rfl)<|aj<|ab (.a 2 rfl<|.k [3,5,8,9,58] rfl)<|ah rfl (fun hc=>?_) (fun hc=>?_)
   ·cases hc
   ·clear hc
    refine ak<|fp mixed (by kernel_rfl) (.v [5] (aI (2) rfl) rfl rfl<|.v [59] (aL rfl ((show some (PV.slice C.length (gb C))=some (.slice C.length (gb C)) from rfl))) rfl rfl<|.v [60] (aI (0) rfl) rfl rfl<|.v [61] (aL rfl (hg0)) rfl rfl<|.v [62] (mB rfl (show Tryz.prog.underlying 5=some (.int .u8) by kernel_rfl) (show Tryz.prog.underlying 3=some (.int .i64) by kernel_rfl) rfl (wrap_small hc0l)) rfl rfl<|.a 1 rfl<|.v [64] (aL rfl ((show some (num T.nodes)=some (num (N:Int)) by rw[hNN]))) rfl rfl<|.v [63,65] (mS rfl rfl rfl (by omega) hrn) rfl rfl<|.a 1 rfl<|.k [3,5,8,9,11] rfl) ?_
    refine aj<|bC 75 (.raw (.bool (g1&&g2))) [3,5,8,9,11] rfl ?_ ?_
    ·refine .a 2 rfl<|.v (cC rfl (hg1')) rfl<|.a 1 rfl<|?_
     cases g1
     ·exact .a 5 rfl<|.k [75,3,5,8,9,11] rfl
     ·exact .a 3 rfl<|.v (cC rfl (hg2')) rfl<|.a 1 rfl<|.k [75,3,5,8,9,11] rfl
    refine ah rfl (fun hc=>?_) (fun hc=>?_)
    ·skip
     exact ab (.a 1 rfl<|.k [6] rfl)<|aq<|⟨_,_,aA.of rfl,aB.pure,rfl⟩
    ·have hgn:¬Gn k x n:=by
      rintro⟨h1,h2⟩
      rw[decide_eq_true h1]at hg1'
      rw[decide_eq_true h2]at hg2'
      subst hg1' hg2'
      cases hc
     clear hc
     refine ak<|aQ<|bz (ed rfl (rfl) rfl) rfl<|au 2 rfl<|bz (aI (0) rfl) rfl<|bz (aL rfl ((show some (PV.slice A.length (gb A))=some (.slice A.length (gb A)) from rfl))) rfl<|cM rfl rfl (bS.mono (bS.F4 htp) (fun y σ' h=>?_))
     obtain⟨⟨q,hF,hql,rfl⟩,rfl⟩:=h
     refine au 1 rfl<|aH [3,5,8,9,11,12] rfl ?_
     have hsl:=sF T (aT T k x) q n (by omega) (by omega) (by omega)
     rw[mO hF]at hsl
     unfold qb at hsl
     rw[if_pos rfl]at hsl
     have hll:(eD T [] n q).length≤40:=by
      have:=tm (T:=T) (D:=[]) (n:=(n:Int)) (p:=q) q.length 0
      exact Nat.le_trans this (by omega)
     have hck:=EA T (aT T k x) (eD T [] n q) n q (by omega) (by omega) (by omega) (by omega)
     rw[Hw hF]at hck
     have hend0:∃d:Nat,b7 T n q=(d:Int)∧(d:Int)<T.nodes:=by
      by_cases h0:0<q.length
      ·rw[pG _ q h0]
       have ha:=hF.aK _ (bU (d:=0) (show q.length - 1<q.length by omega))
       obtain⟨a0,a1⟩:=(aJ hv).head (q.getD (q.length - 1) 0).toNat (by have:=cI.1 ha;omega)
       obtain⟨d,hd⟩:=Int.eq_ofNat_of_zero_le a0
       exact⟨d,hd,by omega⟩
      ·have:q=[]:=List.eq_nil_of_length_eq_zero (by omega)
       rw[this]
       exact⟨n,rfl,by omega⟩
     obtain⟨d,hend,hdl⟩:=hend0
     have hfo:=vY T (qW T k x S S.length) (eD T [] n q) n d q hv (by omega) hF.aK hend (wM hv (by omega) (by omega) (by omega) hF (by omega) hgn hend hdl (by omega))
     obtain⟨MT,hMT⟩:∃L,qW T k x S S.length=L:=⟨_,rfl⟩
     obtain⟨LL,hLL⟩:∃L,eD T [] n q=L:=⟨_,rfl⟩
     rw[hMT]at hmt hfo
     rw[hLL]at hsl hck hfo
     refine ab (.v (ed rfl (rfl) rfl) rfl<|.a 3 rfl<|.c rfl (hsl) rfl<|.a 5 rfl<|.k [3,5,8,9,11,12,13,14] rfl)<|fp mixed (by kernel_rfl) (.v [3] (ed rfl (rfl) rfl) rfl rfl<|.a 1 rfl<|.v [5] (aI (2) rfl) rfl rfl<|.v [92] (aL rfl ((show some (PV.slice C.length (gb C))=some (.slice C.length (gb C)) from rfl))) rfl rfl<|.v [93] (aI (1) rfl) rfl rfl<|.v [94] (aL rfl (hg1)) rfl rfl<|.v [95] (jB rfl rfl rfl (fun w=>FC c1 w)) rfl rfl<|.v [96] (yg rfl rfl rfl hlt) rfl rfl<|.v [5] (aI (1) rfl) rfl rfl<|.v [98] (aL rfl ((show some (PV.slice B.length (gb B))=some (.slice B.length (gb B)) from rfl))) rfl rfl<|.v [90,91,97,99] (fm rfl (hst)) rfl rfl<|.a 1 rfl<|.k [3,8,9,11,12,13,14,15] rfl) ?_
     refine ab (.v (ed rfl (rfl) rfl) rfl<|.a 2 rfl<|.c rfl (hmt) rfl<|.a 5 rfl<|.k [3,9,11,12,13,14,16,17] rfl)<|bC 6 (.raw (.bool (true))) [] rfl ?_ ?_
     ·exact .a 7 rfl<|.v (ed rfl (rfl) rfl) rfl<|.a 4 rfl<|.c rfl (hck) rfl<|.a 2 rfl<|.v (ed rfl (rfl) rfl) rfl<|.a 4 rfl<|.c rfl (hfo) rfl<|.a 2 rfl<|.k [6] rfl
     exact aq<|⟨_,_,aA.of rfl,aB.pure,rfl⟩
end PW
end Go.Proofs.YtnegbdpggideiaaGreatDoor
namespace Go.Proofs.YtnegbdpggideiaaGreatDoor
namespace PW
open Go.RowKit cA Mem Net Go.WideShapes
structure Jf where
 A:List Nat
 B:List Nat
 C:List Nat
 hA:∀b∈A,b<256
 hB:∀b∈B,b<256
 hC:∀b∈C,b<256
section
variable {H:Type} {enc:TypeId×Value→H} {W:World}
theorem Ci{base:Nat}{v:Value}{d:DataW H}{p:List MemPlace}(hv:Value.okWide Tryz.prog W .any base 27 v)(h:DataW.Trod enc Tryz.prog W 0 (fun _=>true) true 27 v d p):∃c:Jf,cz EN W v (sT c.A c.B c.C):=by
 have hC:Tryz.prog.cellsOf 27=3:=by kernel_rfl
 have hc1:Tryz.prog.cellsOf 26=1:=by kernel_rfl
 obtain⟨cs,rfl,hsz⟩:=Al Tryz.underlying27 hv
 rw[hC]at hsz
 obtain⟨fuel,hf⟩:=h
 obtain⟨cl⟩:=cs
 match cl,hsz with
 | [c0,c1,c2],_=>
  obtain⟨zs,m2,_,_,_,hz,hg⟩:=DataW.trod_array Tryz.underlying27 hf
  match zs,hz with
  | [z0,z1,z2],_=>
   have g0:=hg 0 (by omega)
   have g1:=hg 1 (by omega)
   have g2:=hg 2 (by omega)
   rw[hc1]at g0 g1 g2
   obtain⟨A,hA,hA'⟩:=p6 (v:=c0) (y:=z0) g0
   obtain⟨B,hB,hB'⟩:=p6 (v:=c1) (y:=z1) g1
   obtain⟨C,hCc,hC'⟩:=p6 (v:=c2) (y:=z2) g2
   have hall:aU EN W [c0,c1,c2] (tc A B C):=aU.cons hA'<|aU.cons hB'<|aU.cons hC'<|aU.nil _ _
   exact⟨⟨A,B,C,hA,hB,hCc⟩,.agg _ _ (by simpa using hall.1) (fun i x u h1 h2=>hall.2 i x u (by simpa using h1) h2)⟩
end
end PW
end Go.Proofs.YtnegbdpggideiaaGreatDoor
namespace Go.Proofs.YtnegbdpggideiaaGreatDoor.wholeStable
open Go.ChangeShapes Go.WideShapes Go.ChangeAt Go.RowKit
open cA Mem PW
set_option maxRecDepth 100000 in
theorem lifted(os:Os)(started:os.Started)(H:Type)(enc:TypeId×Value→H):
  ReturnsInHanded {} Tryz.checked os 3 .any (fun w args=>(Rows.wholeStableSpec.pre enc Tryz.prog Tryz.f3 [] false w args∧laidMetH Tryz.prog Rows.wholeStableRow.laid w)∧sizedMet enc Tryz.prog Tryz.f3 (OpenSpec.ofChange Rows.wholeStableSpec) false w args)
   (Rows.wholeStableSpec.post enc Tryz.prog Tryz.f3 false true false false):=by
 refine returnsInHanded_of_change_and (C:=Tryz.checked) (X:=fun w _=>laidMetH Tryz.prog Rows.wholeStableRow.laid w) (fun _ _ _ hh h=>h.of_heap hh) own started (by kernel_rfl) Tryz.func3
  (ChangeSpec.witness_shaped (enc:=enc) (C:=Tryz.checked) (os:=os) (X:=fun w _=>laidMetH Tryz.prog Rows.wholeStableRow.laid w) false (World.doorLaid Tryz.prog 400 os) #[.agg #[.int .i64 0,.slice none 0 0,.slice none 0 0],.int .u8 0,.agg #[.slice none 0 0,.slice none 0 0,.slice none 0 0]] 8 rfl (World.shaped_of_RefB (by kernel_rfl) (by kernel_rfl)) (by kernel_rfl) (by kernel_rfl) (by kernel_rfl) (laidMetH_of_parts3 (fuel:=8) (laidMet_of_run' 8 (by kernel_rfl) (by kernel_rfl)) (by kernel_rfl) (by kernel_rfl))) ?_
 intro W base args ds gs before hval0 hW _ _ hL _
 have hval:∀(j:Nat) t v,Tryz.f3.params[j]? =some t→args[j]? =some v→Value.okWide Tryz.prog W .any base t v:=hval0
 have hW':=hW
 obtain⟨p,q,hA0,hV,rfl,hfz,hnd⟩:=hW
 have hA:DataW.TrodAll enc Tryz.prog W 0 (fun _=>true) true Tryz.f3.params.toList args.toList ds p:=hA0
 rw[Tryz.params3]at hA hval
 obtain⟨v0,vs0,d0,ds0,p0,q0,hargs,rfl,rfl,h0,r0⟩:=trodAll_cons hA
 obtain⟨v1,vs1,d1,ds1,p1,q1,rfl,rfl,rfl,h1,r1⟩:=trodAll_cons r0
 obtain⟨v2,vs2,d2,ds2,p2,q2,rfl,rfl,rfl,h2,r2⟩:=trodAll_cons r1
 obtain⟨rfl,rfl,rfl⟩:=trodAll_nil r2
 obtain rfl:args= #[v0,v1,v2]:=by cases args;simp_all
 obtain⟨rfl,rfl⟩:=trodVars_none hV
 have lt0:=Dx h0
 obtain⟨T,R0⟩:=Fc (hval 0 25 v0 rfl rfl) h0
 have lt1:=Dx h1
 obtain⟨u,R1⟩:=Ie (hval 1 5 v1 rfl rfl) h1
 have lt2:=Dx h2
 obtain⟨ps,R2⟩:=Ci (hval 2 27 v2 rfl rfl) h2
 clear hA0 hval0
 refine((pI T u.1 u.2 ps.A ps.B ps.C ps.hA ps.hB ps.hC) (fun _=>False) W #[v0,v1,v2] (fun _ h=>h.elim) (zp hL) (aU.cons R0 (aU.cons R1 (aU.cons R2 (aU.nil _ _))))).mono fun e W' ⟨x,he,bel,r,hr,hx⟩=>?_
 subst hr
 cases hx
 subst he
 exact⟨_,rfl,_,_,_,[],_,[],hW',trodAll_mk1 (shut_bool Tryz.underlying4 _),(trodAll_cons_mk (Below.trod laidOut (by kernel_rfl) (of_decide_eq_true (by kernel_rfl)) h0 bel lt0) (trodAll_cons_mk (Below.trod laidOut (by kernel_rfl) (of_decide_eq_true (by kernel_rfl)) h1 bel lt1) (trodAll_cons_mk (Below.trod laidOut (by kernel_rfl) (of_decide_eq_true (by kernel_rfl)) h2 bel lt2) trodAll_mk0))),rfl,bel.frame _,fun h=>by cases h⟩
set_option maxRecDepth 100000 in
theorem Jd:(Rows.wholeStableRow.inPlace==Tryz.prog.inPlace 3)=true:=by kernel_rfl
set_option maxRecDepth 100000 in
theorem Jl:(Rows.wholeStableRow.unfollowed==Tryz.prog.unfollowed 3)=true:=by kernel_rfl
set_option maxRecDepth 100000 in
theorem Jt:(Rows.wholeStableRow.recurses==Tryz.prog.recurses 3)=true:=by kernel_rfl
set_option maxRecDepth 100000 in
theorem Jp:(Rows.wholeStableRow.named==Tryz.prog.varsNamed 3)=true:=by kernel_rfl
set_option maxRecDepth 100000 in
theorem closed:joinedFacts Tryz.prog 3 Tryz.f3 Rows.wholeStableSpec Rows.wholeStableRow=true:=by
 unfold joinedFacts
 rw[Jd,Jl,Jt,Jp]
 kernel_rfl
theorem over:Rows.wholeStableRow.holds Tryz.pinned (OpenSpec.ofChange Rows.wholeStableSpec):=
 OpenClaim.holds_of_wide 3 Tryz.f3 rfl rfl rfl rfl rfl rfl rfl ⟨rfl,rfl,rfl,rfl,rfl⟩ rfl rfl rfl rfl rfl (by kernel_rfl) Tryz.func3 closed
  (of_decide_eq_true (by kernel_rfl)) (by unfold Func.isWrapper;first|(rw[if_pos (by decide+kernel)];kernel_rfl)|(rw[if_neg (by decide+kernel)];exact⟨rfl,rfl⟩))
  (fun os started H enc _=>lifted os started H enc)
theorem proved:Rows.WholeStableCardSaid:=
 Claim7.holds_tied_plain_at .later [] [.data,.data,.data] true (true,"3eedc3262a1e22f25a0699067de5cf2e4c3ca5fe316ddc4ea68067e33fe38499") false
  over (fun _ h=>by cases h) (by kernel_rfl) (fun _ h=>by cases h) wholeStable_row_tie rfl ⟨rfl,rfl⟩ (by kernel_rfl) rfl
  (fun f fn hf hfn=>by
   obtain rfl:f=3:=Option.some.inj ((show Tryz.prog.funcNamed "waypoint/waypointtop.WholeStable" =some 3 by kernel_rfl).symm.trans hf) |>.symm
   obtain rfl:fn=Tryz.f3:=(Option.some.inj (Tryz.func3.symm.trans hfn)).symm
   exact⟨by kernel_rfl,fun j t ht=>by
    rw[Tryz.params3]at ht
    have hm:t∈[25,5,27]:=by simpa using Array.mem_of_getElem? ht
    have hall:([25,5,27].all fun u=> !Tryz.prog.wantsStandIn u)=true:=by kernel_rfl
    exact(show Tryz.prog.wantsStandIn t=false by simpa using List.all_eq_true.1 hall t hm)⟩)
  (by kernel_rfl)
end Go.Proofs.YtnegbdpggideiaaGreatDoor.wholeStable
