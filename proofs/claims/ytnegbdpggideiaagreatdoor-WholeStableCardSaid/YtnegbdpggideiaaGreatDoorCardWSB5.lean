/- Texts of the proof, part 5. -/
import Derived.Laws.StructEq
import Derived.Test.YtnegbdpggideiaaGreatDoorCardWSB4
set_option linter.unusedVariables false
set_option linter.unusedSimpArgs false
set_option maxRecDepth 10000
set_option maxHeartbeats 1000000
namespace Go.Proofs.YtnegbdpggideiaaGreatDoor
namespace PW
open Go.RowKit cA Mem Net
theorem er(n lo hi:Int):Can Tryz.prog 116 [num n,num lo,num hi] (· =flag (bO n lo hi)):=by
 obtain⟨p1,hp1⟩:∃q,decide (lo≤n)=q:=⟨_,rfl⟩
 obtain⟨p2,hp2⟩:∃q,decide (n≤hi)=q:=⟨_,rfl⟩
 have he:bO n lo hi=(p1&&p2):=by rw[←hp1,←hp2];unfold bO;exact Bool.decide_and _ _
 rw[he]
 refine aF Tryz.func116 rfl Tryz.ntmps116 rfl<|ab (.a 1 rfl<|.k [0,1,2] rfl)<|bC 6 (.raw (.bool (p1&&p2))) [] rfl ?_ ?_
 ·refine .a 2 rfl<|.v (cC rfl (hp1)) rfl<|.a 1 rfl<|?_
  cases p1
  ·exact .a 5 rfl<|.k [6] rfl
  ·exact .a 2 rfl<|.v (cC rfl (hp2)) rfl<|.a 2 rfl<|.k [6] rfl
 exact aq<|⟨_,_,aA.of rfl,aB.pure,rfl⟩
set_option maxHeartbeats 2000000 in
theorem fC(T:ai):Can Tryz.prog 58 [aP T] (· =flag (ao T)):=by
  obtain⟨p0,hp0⟩:∃q,bO T.nodes 1 64=q:=⟨_,rfl⟩
  obtain⟨p1,hp1⟩:∃q,decide ((T.over.length:Int)≠0)=q:=⟨_,rfl⟩
  obtain⟨p2,hp2⟩:∃q,decide ((T.over.length:Int)≠T.nodes)=q:=⟨_,rfl⟩
  obtain⟨p3,hp3⟩:∃q,decide (256<(T.af.length:Int))=q:=⟨_,rfl⟩
  have hw:Can Tryz.prog 116 [num T.nodes,num 1,num 64] (· =flag p0):=by rw[←hp0];exact er _ _ _
  refine aF Tryz.func58 rfl Tryz.ntmps58 rfl<|ab (.a 2 rfl<|.k [1] rfl)<|aj<|bC 28 (.raw (.bool (((!p0)||(p1&&p2))||p3))) [1] rfl ?_ ?_
  · refine .a 2 rfl<|.c rfl (hw) rfl<|.a 2 rfl<|?_
    cases p0
    · exact .a 19 rfl<|.k [28,1] rfl
    · refine .a 3 rfl<|.v (cC rfl (hp1)) rfl<|.a 1 rfl<|?_
      cases p1
      · exact .a 12 rfl<|.v (cC rfl (hp3)) rfl<|.a 1 rfl<|.k [28,1] rfl
      · refine .a 5 rfl<|.v (cC rfl (hp2)) rfl<|.a 3 rfl<|?_
        cases p2
        · exact .a 3 rfl<|.v (cC rfl (hp3)) rfl<|.a 1 rfl<|.k [28,1] rfl
        · exact .a 5 rfl<|.k [28,1] rfl
  refine ah rfl (fun hc=>?_) (fun hc=>?_)
  · have hv:ao T=false:=by
      rcases Bool.or_eq_true_iff.1 hc with h|h
      · rcases Bool.or_eq_true_iff.1 h with h|h
        · exact(gv T (.inl (by rw[hp0];simpa using h))).symm
        · obtain⟨a1,a2⟩:=Bool.and_eq_true_iff.1 h
          rw[a1]at hp1
          rw[a2]at hp2
          exact(gv T (.inr (.inr ⟨by have:=tt hp1;omega,tt hp2⟩))).symm
      · rw[h]at hp3;exact(gv T (.inr (.inl (by have:=tt hp3;omega)))).symm
    rw[hv]
    exact ab (.a 1 rfl<|.k [2] rfl)<|aq<|⟨_,_,aA.of rfl,aB.pure,rfl⟩
  · obtain ⟨c1, c2⟩ := Bool.or_eq_false_iff.1 hc
    obtain⟨c1,c3⟩:=Bool.or_eq_false_iff.1 c1
    have h0:p0=true:=by simpa using c1
    rw[h0]at hp0
    rw[c2]at hp3
    have hle:T.af.length≤256:=by have:=ff hp3;omega
    have hov:T.over.length=0∨(T.over.length:Int)=T.nodes:=by
      rcases Bool.and_eq_false_iff.1 c3 with h|h
      · rw[h]at hp1;exact .inl (by have:=ff hp1;omega)
      · rw[h]at hp2;exact .inr (by have:=ff hp2;omega)
    rw[pC T hp0 hle hov]
    have hnd:=ny hp0
    clear hw hc c1 c3 hp1 hp2
    refine ak<|aj<|ab (.a 1 rfl<|.k [1,3] rfl)<|av<|eZ [1,3] rfl<|bw (fun r s=>∃k,k≤T.af.length∧r=T.af.length - k∧(T.af.take k).all (ic T)=true∧s=⟨[(1,.aV (bx T) 0),(3,num k)],[]⟩) T.af.length ⟨0,by omega,by omega,by simp,rfl⟩ ?_
    rintro r s ⟨k,hk,rfl,hall,rfl⟩
    refine aj<|ab (.a 5 rfl<|.k [1,3,33] rfl)<|ah rfl (fun hc=>?_) (fun hc=>?_)
    · have hlt:k<T.af.length:=by have:=tt hc;omega
      obtain⟨q1,g1⟩:∃q,decide ((cr T.af k).a=(cr T.af k).b)=q:=⟨_,rfl⟩
      obtain⟨q2,g2⟩:∃q,bu T (cr T.af k).a=q:=⟨_,rfl⟩
      obtain⟨q3,g3⟩:∃q,bu T (cr T.af k).b=q:=⟨_,rfl⟩
      obtain⟨q4,g4⟩:∃q,bO (cr T.af k).c0 1 65535=q:=⟨_,rfl⟩
      obtain⟨q5,g5⟩:∃q,bO (cr T.af k).c1 1 65535=q:=⟨_,rfl⟩
      obtain⟨q6,g6⟩:∃q,bO (cr T.af k).cap 0 1048576=q:=⟨_,rfl⟩
      obtain⟨q7,g7⟩:∃q,bO (cr T.af k).eW 1 65536=q:=⟨_,rfl⟩
      obtain⟨q8,g8⟩:∃q,bO (cr T.af k).tX 0 64=q:=⟨_,rfl⟩
      have hOK:=sE (T:=T) (l:=cr T.af k) (q1:=q1) (by rw[←g1];exact Bool.eq_iff_iff.2 (by simp)) g2 g3 g4 g5 g6 g7 g8
      have hall':=uM (ic T) T.af k hlt
      have hno:=vz (ic T) T.af k hlt
      rw[hOK]at hall' hno
      have n2:=er (cr T.af k).a 0 (T.nodes - 1)
      rw[oL,g2]at n2
      have n3:=er (cr T.af k).b 0 (T.nodes - 1)
      rw[oL,g3]at n3
      have n4:=er (cr T.af k).c0 1 65535
      rw[g4]at n4
      have n5:=er (cr T.af k).c1 1 65535
      rw[g5]at n5
      have n6:=er (cr T.af k).cap 0 1048576
      rw[g6]at n6
      have n7:=er (cr T.af k).eW 1 65536
      rw[g7]at n7
      have n8:=er (cr T.af k).tX 0 64
      rw[g8]at n8
      clear hOK g2 g3 g4 g5 g6 g7 g8
      refine ak<|aj<|av<|aQ<|au 3 rfl<|bz (aI (k*7) rfl) rfl<|bz (ed rfl (CA T.af k hlt) rfl) rfl<|au 2 rfl<|aH [1,3,4] rfl ?_
      refine gj 4 0 0 rfl rfl ?_
      refine cU [] (.c 1<|.c 3<|.c 4 .nil) .nil rfl rfl ?_
      refine aj<|bC 77 (.raw (.bool (((((!q2)|| !q3)||q1)|| !q4)|| !q5))) [1,3,4] rfl ?_ ?_
      · refine .a 4 rfl<|.v (aR rfl) rfl<|.c rfl (n2) rfl<|.a 2 rfl<|?_
        cases q2
        · exact .a 29 rfl<|.k [77,1,3,4] rfl
        · refine .a 4 rfl<|.v (aR rfl) rfl<|.c rfl (n3) rfl<|.a 3 rfl<|?_
          cases q3
          · exact .a 20 rfl<|.k [77,1,3,4] rfl
          · refine .a 4 rfl<|.v (cC rfl (g1)) rfl<|.a 2 rfl<|?_
            cases q1
            · refine .a 1 rfl<|.v (aI (0) rfl) rfl<|.a 1 rfl<|.c rfl (n4) rfl<|.a 3 rfl<|?_
              cases q4
              · exact .a 6 rfl<|.k [77,1,3,4] rfl
              · exact .a 1 rfl<|.v (aI (1) rfl) rfl<|.a 1 rfl<|.c rfl (n5) rfl<|.a 2 rfl<|.k [77,1,3,4] rfl
            · exact .a 13 rfl<|.k [77,1,3,4] rfl
      refine ah rfl (fun hx=>?_) (fun hx=>?_)
      · have hno':=hno (by cases q1<;>cases q2<;>cases q3<;>cases q4<;>cases q5<;>simp_all)
        rw[hno']
        exact ab (.a 1 rfl<|.k [2] rfl)<|aq<|⟨_,_,aA.of rfl,aB.pure,rfl⟩
      · have e1:q1=false:=by cases q1<;>simp_all
        have e2:q2=true:=by cases q2<;>simp_all
        have e3:q3=true:=by cases q3<;>simp_all
        have e4:q4=true:=by cases q4<;>simp_all
        have e5:q5=true:=by cases q5<;>simp_all
        subst e1 e2 e3 e4 e5
        clear n2 n3 n4 n5 hx
        refine ak<|bC 93 (.raw (.bool (((!q6)|| !q7)|| !q8))) [1,3] rfl ?_ ?_
        · refine .a 2 rfl<|.c rfl (n6) rfl<|.a 2 rfl<|?_
          cases q6
          · exact .a 11 rfl<|.k [93,1,3] rfl
          · refine .a 2 rfl<|.c rfl (n7) rfl<|.a 3 rfl<|?_
            cases q7
            · exact .a 5 rfl<|.k [93,1,3] rfl
            · exact .a 2 rfl<|.c rfl (n8) rfl<|.a 2 rfl<|.k [93,1,3] rfl
        refine ah rfl (fun hx=>?_) (fun hx=>?_)
        · have hno':=hno (by cases q6<;>cases q7<;>cases q8<;>simp_all)
          rw[hno']
          exact ab (.a 1 rfl<|.k [2] rfl)<|aq<|⟨_,_,aA.of rfl,aB.pure,rfl⟩
        · have e1:q6=true:=by cases q6<;>simp_all
          have e2:q7=true:=by cases q7<;>simp_all
          have e3:q8=true:=by cases q8<;>simp_all
          subst e1 e2 e3
          clear n6 n7 n8 hx
          refine ak<|ay (.a 1 rfl<|.v (aR rfl) rfl<|.a 1 rfl<|.k [1,3] rfl) ?_
          exact⟨T.af.length - (k+1),by omega,k+1,by omega,rfl,by rw[hall',hall];rfl,rfl⟩
    · have hke:k=T.af.length:=by have:=ff hc;omega
      subst hke
      rw[List.take_length]at hall
      rw[hall]
      exact bn<|ab (.a 1 rfl<|.k [2] rfl)<|aq<|⟨_,_,aA.of rfl,aB.pure,rfl⟩
theorem nZ(T:ai)(hv:ao T=true):Can Tryz.prog 94 [aP T] (· =num (2*(T.af.length:Int))):=by
 have hll:=bN hv
 have h:=fC T
 rw[hv]at h
 refine aF Tryz.func94 rfl Tryz.ntmps94 rfl<|ab (.a 2 rfl<|.k [1] rfl)<|aj<|ab (.a 1 rfl<|.c rfl (h) rfl<|.a 1 rfl<|.k [1,5] rfl)<|ah rfl (fun hc=>?_) (fun hc=>?_)
 ·cases hc
 ·exact ak<|ab (.a 3 rfl<|.v (aR rfl) rfl<|.a 1 rfl<|.k [2] rfl)<|aq<|⟨_,_,aA.of rfl,aB.pure,rfl⟩
theorem uK{T:ai}{a:Int}{p1 p2:Bool}(hp1:decide (a<0)=p1)(hp2:decide (2*(T.af.length:Int)≤a)=p2)(hc:(p1||p2)=true):¬(0≤a∧a<2*(T.af.length:Int)):=by
 rcases Bool.or_eq_true_iff.1 hc with h|h
 ·rw[h]at hp1;have:=tt hp1;omega
 ·rw[h]at hp2;have:=tt hp2;omega
theorem sj{T:ai}{a:Int}{p1 p2:Bool}(hp1:decide (a<0)=p1)(hp2:decide (2*(T.af.length:Int)≤a)=p2)(hc:(p1||p2)=false):0≤a∧a<2*(T.af.length:Int):=by
 obtain⟨h1,h2⟩:=Bool.or_eq_false_iff.1 hc
 rw[h1]at hp1
 rw[h2]at hp2
 have:=ff hp1
 have:=ff hp2
 omega
theorem ri(T:ai)(hv:ao T=true)(a:Int):Can Tryz.prog 39 [aP T,num a] (· =num (vm T a)):=by
 have hll:=bN hv
 obtain⟨p1,hp1⟩:∃q,decide (a<0)=q:=⟨_,rfl⟩
 obtain⟨p2,hp2⟩:∃q,decide (2*(T.af.length:Int)≤a)=q:=⟨_,rfl⟩
 refine aF Tryz.func39 rfl Tryz.ntmps39 rfl<|ab (.a 2 rfl<|.k [1,2] rfl)<|aj<|av<|bC 5 (.raw (.bool (p1||p2))) [1,2] rfl ?_ ?_
 ·refine .a 1 rfl<|.v (cC rfl (hp1)) rfl<|.a 1 rfl<|?_
  cases p1
  ·exact .a 2 rfl<|.c rfl (nZ T hv) rfl<|.v (cC rfl (hp2)) rfl<|.a 2 rfl<|.k [5,1,2] rfl
  ·exact .a 6 rfl<|.k [5,1,2] rfl
 refine ah rfl (fun hc=>?_) (fun hc=>?_)
 ·unfold vm
  rw[if_neg (uK hp1 hp2 hc)]
  exact ab (.a 1 rfl<|.k [4] rfl)<|aq<|⟨_,_,aA.of rfl,aB.pure,rfl⟩
 ·have hy:=sj hp1 hp2 hc
  unfold vm
  rw[if_pos hy]
  clear hp1 hp2 hc
  obtain⟨a,rfl⟩:=Int.eq_ofNat_of_zero_le hy.1
  have hi:a / 2<T.af.length:=by omega
  unfold bq
  rw[Int.toNat_natCast]
  refine ab (.a 1 rfl<|.v (mS rfl rfl rfl (by decide) (FA a)) rfl<|.a 2 rfl<|.k [1,2,14] rfl)<|ah rfl (fun hc=>?_) (fun hc=>?_)
  ·have h2:a % 2=0:=by have:=tt hc;omega
   rw[if_pos h2]
   exact ab (.a 3 rfl<|.v (jF rfl rfl rfl (by decide) (AU a) (by unfold In64;omega)) rfl<|.v (aI (a / 2*7) rfl) rfl<|.a 1 rfl<|.v (aL rfl (eH T.af (a / 2) 0 hi (by omega))) rfl<|.a 1 rfl<|.k [4] rfl)<|aq<|⟨_,_,aA.of rfl,aB.pure,rfl⟩
  ·have h2:¬a % 2=0:=by have:=ff hc;omega
   rw[if_neg h2]
   exact ak<|ab (.a 3 rfl<|.v (jF rfl rfl rfl (by decide) (AU a) (by unfold In64;omega)) rfl<|.v (aI (a / 2*7) rfl) rfl<|.a 1 rfl<|.v (aL rfl (eH T.af (a / 2) 1 hi (by omega))) rfl<|.a 1 rfl<|.k [4] rfl)<|aq<|⟨_,_,aA.of rfl,aB.pure,rfl⟩
theorem D0(a:Nat):(((a / 2:Nat):Int)*2+1) - ((a % 2:Nat):Int)=((Net.flip a:Nat):Int):=by unfold Net.flip;split<;>omega
theorem zg(T:ai)(hv:ao T=true)(a:Int):Can Tryz.prog 41 [aP T,num a] (· =num (v8 T a)):=by
 have hll:=bN hv
 obtain⟨p1,hp1⟩:∃q,decide (a<0)=q:=⟨_,rfl⟩
 obtain⟨p2,hp2⟩:∃q,decide (2*(T.af.length:Int)≤a)=q:=⟨_,rfl⟩
 refine aF Tryz.func41 rfl Tryz.ntmps41 rfl<|ab (.a 2 rfl<|.k [1,2] rfl)<|aj<|bC 12 (.raw (.bool (p1||p2))) [1,2] rfl ?_ ?_
 ·refine .a 1 rfl<|.v (cC rfl (hp1)) rfl<|.a 1 rfl<|?_
  cases p1
  ·exact .a 2 rfl<|.c rfl (nZ T hv) rfl<|.v (cC rfl (hp2)) rfl<|.a 1 rfl<|.k [12,1,2] rfl
  ·exact .a 5 rfl<|.k [12,1,2] rfl
 refine ah rfl (fun hc=>?_) (fun hc=>?_)
 ·unfold v8
  rw[if_neg (uK hp1 hp2 hc)]
  exact ab (.a 1 rfl<|.k [4] rfl)<|aq<|⟨_,_,aA.of rfl,aB.pure,rfl⟩
 ·have hy:=sj hp1 hp2 hc
  unfold v8
  rw[if_pos hy]
  clear hp1 hp2 hc
  obtain⟨a,rfl⟩:=Int.eq_ofNat_of_zero_le hy.1
  rw[Int.toNat_natCast]
  have ht:=ri T hv ((Net.flip a:Nat):Int)
  rw[rr T (Net.flip a) (by unfold Net.flip;split<;>omega)]at ht
  exact ak<|ab (.a 2 rfl<|.v (jF rfl rfl rfl (by decide) (AU a) (by unfold In64;omega)) rfl<|.v (aR rfl) rfl<|.v (aR rfl) rfl<|.a 1 rfl<|.v (mS rfl rfl rfl (by decide) (FA a)) rfl<|.v (aR rfl (hc:=D0 a) (hn:=by unfold In64 Net.flip;split<;>omega)) rfl<|.c rfl (ht) rfl<|.a 1 rfl<|.k [4] rfl)<|aq<|⟨_,_,aA.of rfl,aB.pure,rfl⟩
theorem pq(T:ai)(hv:ao T=true)(a:Nat)(ha:a<2*T.af.length):Can Tryz.prog 39 [aP T,num a] (· =num (bq T a)):=by rw[←rr T a ha];exact ri T hv a
theorem qF(T:ai)(hv:ao T=true)(a:Nat)(ha:a<2*T.af.length):Can Tryz.prog 41 [aP T,num a] (· =num (aS T a)):=by rw[←As T a ha];exact zg T hv a
theorem ze(T:ai)(hv:ao T=true)(n:Nat):Can Tryz.prog 62 [aP T,num n] (· =flag (dc T n)):=by
 have h:=fC T
 rw[hv]at h
 obtain⟨p1,hp1⟩:∃q,decide ((n:Int)<(T.over.length:Int))=q:=⟨_,rfl⟩
 obtain⟨p2,hp2⟩:∃q,T.over.getD n false=q:=⟨_,rfl⟩
 have he:dc T n=(p1&&p2):=by
  unfold dc
  cases p1
  ·have:=ff hp1
   rw[List.getD_eq_getElem?_getD,List.getElem?_eq_none (by omega)];rfl
  ·exact hp2
 rw[he]
 have h0:decide (0≤(n:Int))=true:=decide_eq_true (by omega)
 refine aF Tryz.func62 rfl Tryz.ntmps62 rfl<|ab (.a 2 rfl<|.k [1,2] rfl)<|bC 4 (.raw (.bool (p1&&p2))) [] rfl ?_ ?_
 ·refine .a 1 rfl<|.c rfl (h) rfl<|.a 2 rfl<|.v (cC rfl h0) rfl<|.a 6 rfl<|.v (cC rfl (hp1)) rfl<|.a 2 rfl<|?_
  cases p1
  ·exact .a 7 rfl<|.k [4] rfl
  ·exact .a 3 rfl<|.v (aI (n) rfl (by omega) (by have:=tt hp1;omega)) rfl<|.v (aL rfl (show _=some (flag p2) by rw[cW _ n (by have:=tt hp1;omega),hp2])) rfl<|.a 2 rfl<|.k [4] rfl
 exact aq<|⟨_,_,aA.of rfl,aB.pure,rfl⟩
theorem zm(L M:List Int):Can Tryz.prog 35 [ax L,ax M] (· =flag (mh L M)):=by
 refine oY fun⟨E,w,vs,hR⟩=>?_
 obtain⟨v,_,hv⟩:=hR.get (i:=0) rfl
 have hm:=lP hv
 unfold maxLen at hm
 refine aF Tryz.func35 rfl Tryz.ntmps35 rfl<|ab (.a 1 rfl<|.k [0,1] rfl)<|aj<|ab (.a 5 rfl<|.k [0,1,10] rfl)<|ah rfl (fun hc=>?_) (fun hc=>?_)
 ·rw[←Dt L M (by have:=tt hc;omega)]
  exact ab (.a 1 rfl<|.k [4] rfl)<|aq<|⟨_,_,aA.of rfl,aB.pure,rfl⟩
 ·have hlen:M.length=L.length:=by have:=ff hc;omega
  refine ak<|aj<|ab (.a 1 rfl<|.k [0,1,5] rfl)<|av<|eZ [0,1,5] rfl<|bw (fun r s=>∃k,k≤L.length∧r=L.length - k∧(∀i,i<k→L.getD i 0=M.getD i 0)∧s=⟨[(0,ax L),(1,ax M),(5,num k)],[]⟩) L.length ⟨0,by omega,by omega,fun i hi=>by omega,rfl⟩ ?_
  rintro r s ⟨k,hk,rfl,hall,rfl⟩
  refine aj<|ab (.a 4 rfl<|.k [0,1,5,14] rfl)<|ah rfl (fun hc=>?_) (fun hc=>?_)
  ·have hlt:k<L.length:=by have:=tt hc;omega
   refine ak<|aj<|av<|fp mixed (by kernel_rfl) (.a 2 rfl<|.v [17,18] (aI (k) rfl) rfl rfl<|.v [19] (aL rfl (aD L k hlt)) rfl rfl<|.a 2 rfl<|.v [21,22] (aI (k) rfl) rfl rfl<|.v [23] (aL rfl (aD M k (by omega))) rfl rfl<|.a 1 rfl<|.k [0,1,5,25] rfl) ?_
   refine ah rfl (fun hx=>?_) (fun hx=>?_)
   ·rw[←Ev L M k (tt hx)]
    exact ab (.a 1 rfl<|.k [4] rfl)<|aq<|⟨_,_,aA.of rfl,aB.pure,rfl⟩
   ·have hx':L.getD k 0=M.getD k 0:=by have:=ff hx;omega
    refine ak<|ay (.a 1 rfl<|.v (aR rfl) rfl<|.a 1 rfl<|.k [0,1,5] rfl) ?_
    refine⟨L.length - (k+1),by omega,k+1,by omega,rfl,fun i hi=>?_,rfl⟩
    by_cases h:i=k
    ·rw[h];exact hx'
    ·exact hall i (by omega)
  ·have hke:k=L.length:=by have:=ff hc;omega
   rw[←CJ L M hlen (fun i hi=>hall i (by omega))]
   exact bn<|ab (.a 1 rfl<|.k [4] rfl)<|aq<|⟨_,_,aA.of rfl,aB.pure,rfl⟩
end PW
end Go.Proofs.YtnegbdpggideiaaGreatDoor
namespace Go.Proofs.YtnegbdpggideiaaGreatDoor
namespace Net
def fj(T:ai)(dir:Bool)(a:Nat):Int:=if dir then aS T a else bq T a
def cN(T:ai)(dir:Bool)(a:Nat):Int:=if dir then bq T a else aS T a
def at'(l:List Int)(x:Int):Int:=l.getD x.toNat (-1)
def Way(T:ai)(D:List Bool)(n:Nat)(dir:Bool)(out:List Int)(a:Nat):Prop:=
 aX D a=false∧0≤at' out (cN T dir a)∧(cN T dir a=(n:Int)∨dc T (cN T dir a).toNat=false)
structure hJ (T:ai) (D:List Bool) (n:Nat) (dir:Bool) (out:List Int):Prop where
 len:(out.length:Int)=T.nodes
 root:at' out (n:Int)=0
 ge:∀x:Nat,(x:Int)<T.nodes→ -1≤at' out (x:Int)
 closed:∀a,a<2*T.af.length→Way T D n dir out a→0≤at' out (fj T dir a)∧at' out (fj T dir a)≤at' out (cN T dir a)+cF T a
 mq:∀x:Nat,(x:Int)<T.nodes→0≤at' out (x:Int)→x=n∨∃a,a<2*T.af.length∧fj T dir a=(x:Int)∧Way T D n dir out a∧at' out (x:Int)=at' out (cN T dir a)+cF T a
structure Sound (T:ai):Prop where
 cost:∀a,a<2*T.af.length→1≤cF T a∧cF T a≤65535
 tail:∀a,a<2*T.af.length→0≤bq T a∧bq T a<T.nodes
 head:∀a,a<2*T.af.length→0≤aS T a∧aS T a<T.nodes
 nodes:1≤T.nodes∧T.nodes≤64
theorem Sound.x{T:ai}(h:Sound T)(dir:Bool)(a:Nat)(ha:a<2*T.af.length):0≤fj T dir a∧fj T dir a<T.nodes:=by
 unfold fj;cases dir
 ·exact h.tail a ha
 ·exact h.head a ha
theorem Sound.y{T:ai}(h:Sound T)(dir:Bool)(a:Nat)(ha:a<2*T.af.length):0≤cN T dir a∧cN T dir a<T.nodes:=by
 unfold cN;cases dir
 ·exact h.head a ha
 ·exact h.tail a ha
theorem sU{T:ai}(hT:Sound T){D:List Bool}{n:Nat}{dir:Bool}{out out':List Int}(h:hJ T D n dir out)(h':hJ T D n dir out'):
  ∀(k:Nat) (x:Nat),(x:Int)<T.nodes→at' out (x:Int)=(k:Int)→0≤at' out' (x:Int)∧at' out' (x:Int)≤at' out (x:Int):=by
 intro k
 induction k using Nat.strongRecOn with
 |_ k ih=>
  intro x hx hk
  rcases h.mq x hx (by omega)with rfl|⟨a,ha,hax,⟨w1,w2,w3⟩,he⟩
  ·rw[h'.root];omega
  ·have hc:=hT.cost a ha
   obtain⟨y,hy⟩:=Int.eq_ofNat_of_zero_le (hT.y dir a ha).1
   have hyn:=(hT.y dir a ha).2
   rw[hy]at w2 w3 he hyn
   obtain⟨j,hj⟩:=Int.eq_ofNat_of_zero_le w2
   have hlt:j<k:=by omega
   have h1:=ih j hlt y hyn hj
   have h2:=h'.closed a ha ⟨w1,by rw[hy];exact h1.1,by rw[hy];exact w3⟩
   rw[hax,hy]at h2
   exact⟨h2.1,by omega⟩
theorem CZ(out:List Int)(x:Nat)(hx:x<out.length):at' out (x:Int)=out[x]:=by
 simp[at',hx]
theorem vF{T:ai}(hT:Sound T){D:List Bool}{n:Nat}{dir:Bool}{out out':List Int}(h:hJ T D n dir out)(h':hJ T D n dir out'):out=out':=by
 have hl:out.length=out'.length:=by have:=h.len;have:=h'.len;omega
 refine List.ext_getElem hl fun x h1 h2=>?_
 have hx:(x:Int)<T.nodes:=by have:=h.len;omega
 rw[←CZ out x h1,←CZ out' x h2]
 have g1:=h.ge x hx
 have g2:=h'.ge x hx
 by_cases c1:0≤at' out (x:Int)
 ·obtain⟨k,hk⟩:=Int.eq_ofNat_of_zero_le c1
  have a1:=sU hT h h' k x hx hk
  obtain⟨k',hk'⟩:=Int.eq_ofNat_of_zero_le a1.1
  have a2:=sU hT h' h k' x hx hk'
  omega
 ·by_cases c2:0≤at' out' (x:Int)
  ·obtain⟨k,hk⟩:=Int.eq_ofNat_of_zero_le c2
   have a1:=sU hT h' h k x hx hk
   omega
  ·omega
open Classical in
noncomputable def bK(T:ai)(D:List Bool)(n:Nat)(dir:Bool):List Int:=if h:∃out,hJ T D n dir out then h.choose else []
theorem nk{T:ai}(hT:Sound T){D:List Bool}{n:Nat}{dir:Bool}{out:List Int}(h:hJ T D n dir out):bK T D n dir=out:=by
 unfold bK
 rw[dif_pos ⟨out,h⟩]
 exact vF hT (Exists.choose_spec (⟨out,h⟩:∃out,hJ T D n dir out)) h
end Net
end Go.Proofs.YtnegbdpggideiaaGreatDoor
namespace Go.Proofs.YtnegbdpggideiaaGreatDoor
namespace Net
def lL:List Int→Nat
 | []=>0
 |v::l=>(if 0≤v then 1 else 0)+lL l
theorem p8(l:List Int):lL l≤l.length:=by
 induction l with
 |nil=>exact Nat.le_refl _
 |cons v l ih=>simp only[lL,List.length_cons];split<;>omega
theorem oU:∀(l:List Int) (i:Nat) (c:Int),i<l.length→0≤c→lL (l.set i c)=lL l+(if 0≤l.getD i (-1) then 0 else 1)
 | [],i,c,h,_=>by simp at h
 |v::l,0,c,_,hc=>by
  simp only[List.set_cons_zero,lL,List.getD_cons_zero]
  rw[if_pos hc]
  by_cases h:0≤v
  ·rw[if_pos h,if_pos h];omega
  ·rw[if_neg h,if_neg h];omega
 |v::l,i+1,c,h,hc=>by
  simp only[List.set_cons_succ,lL,List.getD_cons_succ]
  rw[oU l i c (by simpa using h) hc]
  omega
def Hz(v:Int):Nat:=if v<0 then 4194241 else v.toNat
def mu:List Int→Nat
 | []=>0
 |v::l=>Hz v+mu l
theorem CX:∀(l:List Int) (i:Nat) (c:Int),i<l.length→mu (l.set i c)+Hz (l.getD i (-1))=mu l+Hz c
 | [],i,c,h=>by simp at h
 |v::l,0,c,_=>by simp only[List.set_cons_zero,mu,List.getD_cons_zero];omega
 |v::l,i+1,c,h=>by
  have:=CX l i c (by simpa using h)
  simp only[List.set_cons_succ,mu,List.getD_cons_succ]
  omega
structure Inv (T:ai) (D:List Bool) (n:Nat) (dir:Bool) (out:List Int):Prop where
 len:(out.length:Int)=T.nodes
 root:at' out (n:Int)=0
 ge:∀x:Nat,(x:Int)<T.nodes→ -1≤at' out (x:Int)
 Iq:∀x:Nat,(x:Int)<T.nodes→at' out (x:Int)≤65535*(lL out:Int)
 mq:∀x:Nat,(x:Int)<T.nodes→0≤at' out (x:Int)→x=n∨∃a,a<2*T.af.length∧fj T dir a=(x:Int)∧Way T D n dir out a∧at' out (cN T dir a)+cF T a≤at' out (x:Int)
def yj(T:ai)(D:List Bool)(n:Nat)(dir:Bool)(out:List Int)(a:Nat):Prop:=
 Way T D n dir out a∧(at' out (fj T dir a)<0∨at' out (cN T dir a)+cF T a<at' out (fj T dir a))
def Gz(T:ai)(dir:Bool)(out:List Int)(a:Nat):List Int:=out.set (fj T dir a).toNat (at' out (cN T dir a)+cF T a)
theorem wL(out:List Int)(x y:Nat)(c:Int)(hx:x<out.length):at' (out.set x c) (y:Int)=if y=x then c else at' out (y:Int):=by
 simp only[at',Int.toNat_natCast,List.getD_eq_getElem?_getD,List.getElem?_set]
 by_cases h:x=y
 ·subst h;simp[hx]
 ·rw[if_neg h,if_neg (Ne.symm h)]
theorem CH{T:ai}(hT:Sound T){D:List Bool}{n:Nat}{dir:Bool}{out:List Int}(h:Inv T D n dir out)(a:Nat)(ha:a<2*T.af.length)(hg:yj T D n dir out a):
  Inv T D n dir (Gz T dir out a)∧mu (Gz T dir out a)<mu out:=by
 obtain⟨⟨w1,w2,w3⟩,hb⟩:=hg
 have hc:=hT.cost a ha
 obtain⟨x,hx⟩:=Int.eq_ofNat_of_zero_le (hT.x dir a ha).1
 obtain⟨y,hy⟩:=Int.eq_ofNat_of_zero_le (hT.y dir a ha).1
 have hxn:=(hT.x dir a ha).2
 have hyn:=(hT.y dir a ha).2
 unfold Gz
 rw[hx,hy,Int.toNat_natCast]
 rw[hx,hy]at hb
 rw[hy]at w2 w3
 rw[hx]at hxn
 rw[hy]at hyn
 have hlen:=h.len
 have hxl:x<out.length:=by omega
 generalize hcc:at' out (y:Int)+cF T a=c at*
 have hby:=h.Iq y hyn
 have hxr:x≠n:=fun e=>by
  rw[e,h.root]at hb
  omega
 have hcs:=oU out x c hxl (by omega)
 have hgx:out.getD x (-1)=at' out (x:Int):=by simp[at']
 rw[hgx]at hcs
 have at1:=fun z=>wL out x z c hxl
 have reach:∀z:Nat,(z:Int)<T.nodes→0≤at' out (z:Int)→0≤at' (out.set x c) (z:Int):=fun z _ hz=>by
  rw[at1 z];split<;>omega
 have less:∀z:Nat,(z:Int)<T.nodes→0≤at' out (z:Int)→at' (out.set x c) (z:Int)≤at' out (z:Int):=fun z _ hz=>by
  rw[at1 z]
  split
  ·rename_i e;subst e;omega
  ·omega
 have IZ:∀b,b<2*T.af.length→Way T D n dir out b→Way T D n dir (out.set x c) b:=fun b hbl ⟨v1,v2,v3⟩=>by
  obtain⟨z,hz⟩:=Int.eq_ofNat_of_zero_le (hT.y dir b hbl).1
  have hzn:=(hT.y dir b hbl).2
  refine⟨v1,?_,v3⟩
  rw[hz]at v2 hzn ⊢
  exact reach z hzn v2
 refine⟨⟨by rw[List.length_set];exact hlen,?_,fun z hz=>?_,fun z hz=>?_,fun z hz h0=>?_⟩,?_⟩
 ·rw[at1 n,if_neg (Ne.symm hxr)];exact h.root
 ·rw[at1 z];split
  ·omega
  ·exact h.ge z hz
 ·rw[at1 z]
  have hbz:=h.Iq z hz
  have:(lL out:Int)≤(lL (out.set x c):Int):=by rw[hcs];split<;>omega
  split
  ·rw[hcs]
   rename_i e
   subst e
   by_cases hr:0≤at' out (z:Int)
   ·rw[if_pos hr];omega
   ·rw[if_neg hr];omega
  ·omega
 ·by_cases e:z=x
  ·subst e
   refine .inr ⟨a,ha,hx,IZ a ha ⟨w1,by rw[hy];exact w2,by rw[hy];exact w3⟩,?_⟩
   rw[hy,at1 z,if_pos rfl]
   have:=less y hyn w2
   omega
  ·rw[at1 z,if_neg e]at h0
   rcases h.mq z hz h0 with e2|⟨b,hbl,hbx,hbw,hbe⟩
   ·exact .inl e2
   ·refine .inr ⟨b,hbl,hbx,IZ b hbl hbw,?_⟩
    rw[at1 z,if_neg e]
    obtain⟨u,hu⟩:=Int.eq_ofNat_of_zero_le (hT.y dir b hbl).1
    have hun:=(hT.y dir b hbl).2
    have hw2:=hbw.2.1
    rw[hu]at hun hbe hw2 ⊢
    have:=less u hun hw2
    omega
 ·have hm:=CX out x c hxl
  rw[hgx]at hm
  have hcl:=p8 out
  have hnn:=hT.nodes
  have hcb:c≤4194240:=by
   rcases hb with hb|hb
   ·have hlt:lL out<out.length:=by
     have:=p8 (out.set x c)
     rw[List.length_set,hcs,if_neg (by omega)]at this
     omega
    omega
   ·have:=h.Iq x hxn;omega
  have hw1:Hz c=c.toNat:=by unfold Hz;rw[if_neg (by omega)]
  have hw2:Hz (at' out (x:Int))=if at' out (x:Int)<0 then 4194241 else(at' out (x:Int)).toNat:=rfl
  rw[hw1,hw2]at hm
  rcases hb with hb|hb
  ·rw[if_pos hb]at hm;omega
  ·by_cases hr:at' out (x:Int)<0
   ·rw[if_pos hr]at hm;omega
   ·rw[if_neg hr]at hm;omega
theorem Dh{T:ai}{D:List Bool}{n:Nat}{dir:Bool}{out:List Int}(h:Inv T D n dir out)(hn:∀a,a<2*T.af.length→¬yj T D n dir out a):hJ T D n dir out:=by
 have closed:∀a,a<2*T.af.length→Way T D n dir out a→0≤at' out (fj T dir a)∧at' out (fj T dir a)≤at' out (cN T dir a)+cF T a:=fun a ha hw=>by
  have:=hn a ha
  unfold yj at this
  have h2:¬(at' out (fj T dir a)<0∨at' out (cN T dir a)+cF T a<at' out (fj T dir a)):=fun e=>this ⟨hw,e⟩
  omega
 refine⟨h.len,h.root,h.ge,closed,fun x hx h0=>?_⟩
 rcases h.mq x hx h0 with e|⟨a,ha,hax,hw,he⟩
 ·exact .inl e
 ·refine .inr ⟨a,ha,hax,hw,?_⟩
  have:=closed a ha hw
  rw[hax]at this
  omega
def start(N n:Nat):List Int:=(List.replicate N (-1)).set n 0
theorem nA(N n:Nat)(hn:n<N)(x:Nat)(hx:x<N):at' (start N n) (x:Int)=if x=n then 0 else -1:=by
 unfold start
 rw[wL _ n x 0 (by simpa using hn)]
 split
 ·rfl
 ·simp[at',hx]
theorem rF{T:ai}{D:List Bool}{N n:Nat}{dir:Bool}(hN:(N:Int)=T.nodes)(hn:n<N):Inv T D n dir (start N n):=by
 have hc:1≤lL (start N n):=by
  unfold start
  rw[oU _ n 0 (by simpa using hn) (by omega)]
  have:(List.replicate N (-1:Int)).getD n (-1)= -1:=by simp[hn]
  rw[this]
  simp
 refine⟨by simp[start];exact hN,by rw[nA N n hn n hn,if_pos rfl],fun x hx=>?_,fun x hx=>?_,fun x hx h0=>?_⟩
 ·rw[nA N n hn x (by omega)];split<;>omega
 ·rw[nA N n hn x (by omega)];split<;>omega
 ·rw[nA N n hn x (by omega)]at h0
  by_cases e:x=n
  ·exact .inl e
  ·rw[if_neg e]at h0;omega
theorem la{T:ai}(hT:Sound T){D:List Bool}{n:Nat}{dir:Bool}:∀(k:Nat) (out:List Int),mu out=k→Inv T D n dir out→∃out',hJ T D n dir out'∧Inv T D n dir out':=by
 intro k
 induction k using Nat.strongRecOn with
 |_ k ih=>
  intro out hk hi
  by_cases h:∃a,a<2*T.af.length∧yj T D n dir out a
  ·obtain⟨a,ha,hg⟩:=h
   obtain⟨h1,h2⟩:=CH hT hi a ha hg
   exact ih _ (by omega) _ rfl h1
  ·exact⟨out,Dh hi fun a ha hg=>h ⟨a,ha,hg⟩,hi⟩
theorem jL{T:ai}(hT:Sound T)(D:List Bool){n:Nat}(dir:Bool)(hn:(n:Int)<T.nodes):hJ T D n dir (bK T D n dir):=by
 obtain⟨N,hN⟩:=Int.eq_ofNat_of_zero_le (by have:=hT.nodes.1;omega:0≤T.nodes)
 obtain⟨out,ho,_⟩:=la hT _ (start N n) rfl (rF (D:=D) (dir:=dir) hN.symm (by omega))
 rw[nk hT ho]
 exact ho
theorem AV{T:ai}(hT:Sound T)(D:List Bool){n:Nat}(dir:Bool)(hn:(n:Int)<T.nodes):Inv T D n dir (bK T D n dir):=by
 obtain⟨N,hN⟩:=Int.eq_ofNat_of_zero_le (by have:=hT.nodes.1;omega:0≤T.nodes)
 obtain⟨out,ho,hi⟩:=la hT _ (start N n) rfl (rF (D:=D) (dir:=dir) hN.symm (by omega))
 rw[nk hT ho]
 exact hi
end Net
end Go.Proofs.YtnegbdpggideiaaGreatDoor
namespace Go.Proofs.YtnegbdpggideiaaGreatDoor
namespace Net
theorem aJ{T:ai}(h:ao T=true):Sound T:=by
 have hb:=gQ h
 have lk:∀i,i<T.af.length→(0≤(cr T.af i).a∧(cr T.af i).a<T.nodes)∧(0≤(cr T.af i).b∧(cr T.af i).b<T.nodes)∧(1≤(cr T.af i).c0∧(cr T.af i).c0≤65535)∧(1≤(cr T.af i).c1∧(cr T.af i).c1≤65535):=fun i hi=>by
  have:=ph h i hi
  simp only[ic,bu,bO,Bool.and_eq_true,decide_eq_true_eq]at this
  obtain⟨⟨⟨⟨⟨⟨⟨_,h1⟩,h2⟩,h3⟩,h4⟩,_⟩,_⟩,_⟩:=this
  exact⟨h1,h2,h3,h4⟩
 have fl:∀a,a<2*T.af.length→flip a<2*T.af.length:=fun a ha=>by unfold flip;split<;>omega
 have tl:∀a,a<2*T.af.length→0≤bq T a∧bq T a<T.nodes:=fun a ha=>by
  have:=lk (a / 2) (by omega)
  unfold bq;split
  ·exact this.1
  ·exact this.2.1
 refine⟨fun a ha=>?_,tl,fun a ha=>tl _ (fl a ha),⟨hb.1,hb.2.1⟩⟩
 have:=lk (a / 2) (by omega)
 unfold cF;split
 ·exact this.2.2.1
 ·exact this.2.2.2
end Net
end Go.Proofs.YtnegbdpggideiaaGreatDoor
namespace Go.Proofs.YtnegbdpggideiaaGreatDoor
namespace PW
open Go.RowKit cA Mem Net
theorem sX(T:ai)(hv:ao T=true):Can Tryz.prog 174 [aP T] (· =iX (cZ (aS T) T.nodes.toNat (2*T.af.length))):=by
 have hbd:=gQ hv
 have hS:=aJ hv
 obtain⟨n,hn⟩:∃n:Nat,T.nodes=(n:Int):=⟨T.nodes.toNat,by omega⟩
 rw[show T.nodes.toNat=n by omega]
 refine aF Tryz.func174 rfl Tryz.ntmps174 rfl<|ab (.a 2 rfl<|.k [1] rfl)<|aQ<|au 2 rfl<|ca (dB rfl (bE.rk.get rfl) rfl rfl hn hn ⟨by unfold maxLen;omega,by omega⟩) rfl<|au 1 rfl<|aH [1,3] rfl ?_
 refine oI 37 3 n ?_
 refine aj<|ab (.a 1 rfl<|.c rfl (gO T (by omega)) rfl<|.a 1 rfl<|.k [1,3,10,11] rfl)<|av<|eZ [1,3,10,11] rfl<|bw (fun r s=>∃k,k≤2*T.af.length∧r=2*T.af.length - k∧s=⟨[(1,.aV (bx T) 0),(3,.own 0),(10,num (2*(T.af.length:Int))),(11,num k)],kr 37 3 (cZ (aS T) n k)⟩) (2*T.af.length) ⟨0,by omega,by omega,by rw[pY];rfl⟩ ?_
 rintro r s ⟨k,hk,rfl,rfl⟩
 refine ab (.a 1 rfl<|.k [1,3,10,11,12] rfl)<|aj<|ah rfl (fun hc=>?_) (fun hc=>?_)
 ·have hlt:k<2*T.af.length:=by have:=of_decide_eq_true hc;omega
  obtain⟨hd0,hhN⟩:=hS.head k hlt
  obtain⟨m,hm⟩:=Int.eq_ofNat_of_zero_le hd0
  have hmn:m<n:=by omega
  have hrl:=eG (aS T) n k
  have hgl:((cZ (aS T) n k).getD m []).length≤k:=by
   rw[iD _ _ _ _ hmn]
   simp only[List.length_map]
   exact Nat.le_trans (List.length_filter_le _ _) (by simp)
  refine ak<|aj<|av<|ab (.a 2 rfl<|.k [1,3,4,10,11] rfl)<|ab (.a 2 rfl<|.c rfl (hm▸fu T k hlt (by omega)) rfl<|.a 1 rfl<|.k [1,3,4,5,10,11] rfl)<|ba<|au 4 rfl<|bz (aI (m) rfl) rfl<|bz (aL rfl (kE _ m (by omega))) rfl<|au 2 rfl<|ca (aY rfl (bE.rk.get rfl) rfl (ld _ _ _ m (by omega)) rfl rfl ⟨by unfold maxLen;omega,by omega⟩) rfl<|bz (aI (m) rfl) rfl<|br (cH rfl (bE.tk.get rfl) rfl rfl rfl (by show m<(fr _).length;simp[fr];omega)) rfl rfl<|aH [1,3,10,11] rfl ?_
  refine cU (DB (cZ (aS T) n k).length m) (.cons 1 rfl Ren.pure<|.cons 3 rfl (Ren.own (i:=0) rfl)<|.cons 10 rfl Ren.pure<|.cons 11 rfl Ren.pure<|.nil) (uu 37 3 (cZ (aS T) n k) m (by omega) (k:Int)) (rz _ _) rfl ?_
  rw[←qB (aS T) n k m hm hmn]
  refine ay (.v (aR rfl) rfl<|.a 1 rfl<|.k [1,3,10,11] rfl) ?_
  exact⟨2*T.af.length - (k+1),by omega,k+1,by omega,rfl,rfl⟩
 ·have hke:k=2*T.af.length:=by have:=of_decide_eq_false hc;omega
  subst hke
  exact bn<|ab (.a 2 rfl<|.k [2] rfl)<|aq<|⟨_,_,aA.of rfl,uJ _ _ _,rfl⟩
end PW
end Go.Proofs.YtnegbdpggideiaaGreatDoor
namespace Go.Proofs.YtnegbdpggideiaaGreatDoor
namespace Net
structure wk (T:ai) (D:List Bool) (n:Nat) (dir:Bool) (out K:List Int) (H:Nat→Prop) (S:Nat→Prop):Prop where
 len:(out.length:Int)=T.nodes
 ge:∀x:Nat,(x:Int)<T.nodes→ -1≤at' out (x:Int)
 root:at' out (n:Int)=0∨(H n∧K.getD n 0=0)
 qY:∀y,H y→(y:Int)<T.nodes∧at' out (y:Int)= -1
 mono:∀x y:Nat,(x:Int)<T.nodes→H y→at' out (x:Int)≤K.getD y 0
 oN:∀y,H y→(y=n∧K.getD y 0=0)∨∃a,a<2*T.af.length∧fj T dir a=(y:Int)∧Way T D n dir out a∧K.getD y 0=at' out (cN T dir a)+cF T a
 mq:∀x:Nat,(x:Int)<T.nodes→0≤at' out (x:Int)→x=n∨∃a,a<2*T.af.length∧fj T dir a=(x:Int)∧Way T D n dir out a∧at' out (x:Int)=at' out (cN T dir a)+cF T a
 closed:∀a,a<2*T.af.length→¬S a→Way T D n dir out a→(0≤at' out (fj T dir a)∧at' out (fj T dir a)≤at' out (cN T dir a)+cF T a)∨(H (fj T dir a).toNat∧K.getD (fj T dir a).toNat 0≤at' out (cN T dir a)+cF T a)
 ub:∀x:Nat,(x:Int)<T.nodes→at' out (x:Int)≤65535*(lL out:Int)
 GF:∀y,H y→K.getD y 0≤65535*(lL out:Int)
theorem wk.key{T:ai}(hT:Sound T){D:List Bool}{n:Nat}{dir:Bool}{out K:List Int}{H S:Nat→Prop}(h:wk T D n dir out K H S){y:Nat}(hy:H y):0≤K.getD y 0:=by
 rcases h.oN y hy with⟨_,h0⟩|⟨a,ha,_,hw,he⟩
 ·omega
 ·have:=hT.cost a ha
  have:=hw.2.1
  omega
theorem GV(L:List Int)(i j:Nat)(c:Int)(hi:i<L.length):(L.set i c).getD j 0=if j=i then c else L.getD j 0:=by
 by_cases h:j=i
 ·subst h;simp[List.getD_eq_getElem?_getD,hi]
 ·simp[List.getD_eq_getElem?_getD,List.getElem?_set,Ne.symm h,h]
theorem yQ(N:Nat):lL (List.replicate N (-1))=0:=by
 induction N with
 |zero=>rfl
 |succ N ih=>rw[List.replicate_succ];simp[lL,ih]
theorem qv(N x:Nat):at' (List.replicate N (-1)) (x:Int)= -1:=by
 unfold at'
 rw[List.getD_eq_getElem?_getD,List.getElem?_replicate]
 split<;>rfl
theorem zZ{T:ai}{D:List Bool}{N n:Nat}{dir:Bool}(hN:(N:Int)=T.nodes)(hn:n<N){K:List Int}{H:Nat→Prop}(hK:K.getD n 0=0)(hH:∀y,H y↔y=n):wk T D n dir (List.replicate N (-1)) K H (fun _=>False) where
 len:=by simpa using hN
 ge x _:=by rw[qv];omega
 root:=.inr ⟨(hH n).2 rfl,hK⟩
 qY y hy:=by have:=(hH y).1 hy;subst this;exact⟨by omega,qv N y⟩
 mono x y _ hy:=by have:=(hH y).1 hy;subst this;rw[qv,hK];omega
 oN y hy:=by have:=(hH y).1 hy;subst this;exact .inl ⟨rfl,hK⟩
 mq x _ h:=by rw[qv]at h;omega
 closed a _ _ hw:=by
  have:=hw.2.1
  have h2:at' (List.replicate N (-1)) (cN T dir a)= -1:=by
   unfold at'
   rw[List.getD_eq_getElem?_getD,List.getElem?_replicate]
   split<;>rfl
  rw[h2]at this;omega
 ub x _:=by rw[qv,yQ];omega
 GF y hy:=by have:=(hH y).1 hy;subst this;rw[hK,yQ];omega
theorem Fh{T:ai}(hT:Sound T){D:List Bool}{n:Nat}{dir:Bool}{out K:List Int}{H:Nat→Prop}(h:wk T D n dir out K H (fun _=>False)){i:Nat}(hi:H i)(hmin:∀j,H j→K.getD i 0≤K.getD j 0)(hKl:i<K.length){H':Nat→Prop}(hH':∀j,H' j↔H j∧j≠i):
  wk T D n dir (out.set i (K.getD i 0)) (K.set i 0) H' (fun a=>cN T dir a=(i:Int))∧lL (out.set i (K.getD i 0))=lL out+1∧(∀x:Nat,(x:Int)<T.nodes→at' (out.set i (K.getD i 0)) (x:Int)≤K.getD i 0)∧at' (out.set i (K.getD i 0)) (i:Int)=K.getD i 0∧0≤K.getD i 0∧K.getD i 0≤65535*(lL out:Int):=by
 obtain⟨hin,hineg⟩:=h.qY i hi
 have hil:i<out.length:=by have:=h.len;omega
 have hd:=h.key hT hi
 have hdu:=h.GF i hi
 have hat:=fun x:Nat=>wL out i x (K.getD i 0) hil
 have hK:∀j,j≠i→(K.set i 0).getD j 0=K.getD j 0:=fun j hj=>by rw[GV _ _ _ _ hKl,if_neg hj]
 have hcnt:lL (out.set i (K.getD i 0))=lL out+1:=by
  rw[oU out i _ hil hd,if_neg]
  have:out.getD i (-1)=at' out (i:Int):=by simp[at']
  rw[this,hineg];omega
 have hy:∀a,a<2*T.af.length→Way T D n dir out a→Way T D n dir (out.set i (K.getD i 0)) a∧at' (out.set i (K.getD i 0)) (cN T dir a)=at' out (cN T dir a):=fun a ha hw=>by
  obtain⟨y,hy⟩:=Int.eq_ofNat_of_zero_le (hT.y dir a ha).1
  have hne:y≠i:=fun e=>by
   have:=hw.2.1
   rw[hy,e,hineg]at this;omega
  have e1:at' (out.set i (K.getD i 0)) (cN T dir a)=at' out (cN T dir a):=by rw[hy,hat y,if_neg hne]
  exact⟨⟨hw.1,by rw[e1];exact hw.2.1,hw.2.2⟩,e1⟩
 refine⟨⟨by simpa using h.len,fun x hx=>?_,?_,fun y hy'=>?_,fun x y hx hy'=>?_,fun y hy'=>?_,fun x hx h0=>?_,fun a ha hs hw=>?_,fun x hx=>?_,fun y hy'=>?_⟩,hcnt,fun x hx=>?_,by rw[hat i,if_pos rfl],hd,hdu⟩
 ·rw[hat x];split
  ·omega
  ·exact h.ge x hx
 ·by_cases e:n=i
  ·subst e
   left
   rw[hat n,if_pos rfl]
   rcases h.root with h0|⟨_,h0⟩
   ·omega
   ·exact h0
  ·rcases h.root with h0|⟨h1,h0⟩
   ·left;rw[hat n,if_neg e];exact h0
   ·right;exact⟨(hH' n).2 ⟨h1,e⟩,by rw[hK n e];exact h0⟩
 ·obtain⟨h1,h2⟩:=(hH' y).1 hy'
  obtain⟨h3,h4⟩:=h.qY y h1
  exact⟨h3,by rw[hat y,if_neg h2];exact h4⟩
 ·obtain⟨h1,h2⟩:=(hH' y).1 hy'
  rw[hat x,hK y h2]
  split
  ·exact hmin y h1
  ·exact h.mono x y hx h1
 ·obtain⟨h1,h2⟩:=(hH' y).1 hy'
  rw[hK y h2]
  rcases h.oN y h1 with h3|⟨a,ha,hx,hw,he⟩
  ·exact .inl h3
  ·obtain⟨k1,k2⟩:=hy a ha hw
   exact .inr ⟨a,ha,hx,k1,by rw[k2];exact he⟩
 ·rw[hat x]at h0 ⊢
  by_cases e:x=i
  ·subst e
   rw[if_pos rfl]
   rcases h.oN x hi with⟨h3,_⟩|⟨a,ha,hx,hw,he⟩
   ·exact .inl h3
   ·obtain⟨k1,k2⟩:=hy a ha hw
    exact .inr ⟨a,ha,hx,k1,by rw[k2];exact he⟩
  ·rw[if_neg e]at h0 ⊢
   rcases h.mq x hx h0 with h3|⟨a,ha,hx,hw,he⟩
   ·exact .inl h3
   ·obtain⟨k1,k2⟩:=hy a ha hw
    exact .inr ⟨a,ha,hx,k1,by rw[k2];exact he⟩
 ·obtain⟨y,hya⟩:=Int.eq_ofNat_of_zero_le (hT.y dir a ha).1
  have hne:y≠i:=fun e=>hs (by rw[hya,e])
  have e1:at' (out.set i (K.getD i 0)) (cN T dir a)=at' out (cN T dir a):=by rw[hya,hat y,if_neg hne]
  have hw0:Way T D n dir out a:=⟨hw.1,by rw[←e1];exact hw.2.1,hw.2.2⟩
  obtain⟨x,hxa⟩:=Int.eq_ofNat_of_zero_le (hT.x dir a ha).1
  have hc:=h.closed a ha (fun f=>f) hw0
  rw[e1]
  rw[hxa]at hc ⊢
  rw[Int.toNat_natCast]at hc ⊢
  rw[hat x]
  by_cases e:x=i
  ·subst e
   left
   rw[if_pos rfl]
   rcases hc with⟨h1,_⟩|⟨_,h2⟩
   ·rw[hineg]at h1;omega
   ·exact⟨hd,h2⟩
  ·rw[if_neg e]
   rcases hc with h1|⟨h1,h2⟩
   ·exact .inl h1
   ·exact .inr ⟨(hH' x).2 ⟨h1,e⟩,by rw[hK x e];exact h2⟩
 ·rw[hat x,hcnt]
  split
  ·omega
  ·have:=h.ub x hx;omega
 ·obtain⟨h1,h2⟩:=(hH' y).1 hy'
  rw[hK y h2,hcnt]
  have:=h.GF y h1;omega
 ·rw[hat x]
  split
  ·omega
  ·exact h.mono x i hx hi
theorem Dr{T:ai}{D:List Bool}{n:Nat}{dir:Bool}{out K:List Int}{H:Nat→Prop}{i:Nat}(h:wk T D n dir out K H (fun a=>cN T dir a=(i:Int)))(hi:i≠n)(ho:dc T i=true):wk T D n dir out K H (fun _=>False):=
 {h with closed:=fun a ha _ hw=>h.closed a ha (fun e=>by
   rcases hw.2.2 with h1|h1
   ·rw[h1]at e;exact hi (by omega)
   ·rw[e,Int.toNat_natCast,ho]at h1;cases h1) hw}
theorem yw{T:ai}{D:List Bool}{n:Nat}{dir:Bool}{out K:List Int}{H S S':Nat→Prop}(h:wk T D n dir out K H S){a:Nat}(hS:∀b,b<2*T.af.length→S b→S' b∨b=a)
  (hc:Way T D n dir out a→(0≤at' out (fj T dir a)∧at' out (fj T dir a)≤at' out (cN T dir a)+cF T a)∨(H (fj T dir a).toNat∧K.getD (fj T dir a).toNat 0≤at' out (cN T dir a)+cF T a)):wk T D n dir out K H S':=
 ⟨h.len,h.ge,h.root,h.qY,h.mono,h.oN,h.mq,fun b hb hs hw=>by
   by_cases e:b=a
   ·subst e
    exact hc hw
   ·exact h.closed b hb (fun hb'=>(hS b hb hb').elim hs e) hw,h.ub,h.GF⟩
theorem Fo{T:ai}(hT:Sound T){D:List Bool}{n:Nat}{dir:Bool}{out K:List Int}{H H' S S':Nat→Prop}(h:wk T D n dir out K H S){a m:Nat}(ha:a<2*T.af.length)(hS:∀b,b<2*T.af.length→S b→S' b∨b=a)
  (hw:Way T D n dir out a) (hm:fj T dir a=(m:Int)) (qY:at' out (m:Int)<0) (htop:∀x:Nat,(x:Int)<T.nodes→at' out (x:Int)≤at' out (cN T dir a)) (hub:at' out (cN T dir a)+65535≤65535*(lL out:Int))
  (hnew:¬H m∨at' out (cN T dir a)+cF T a<K.getD m 0) (hml:m<K.length) (hH':∀j,H' j↔H j∨j=m):
  wk T D n dir out (K.set m (at' out (cN T dir a)+cF T a)) H' S':=by
 have hc:=hT.cost a ha
 have hmN:(m:Int)<T.nodes:=by have:=(hT.x dir a ha).2;omega
 have hK:∀j,(K.set m (at' out (cN T dir a)+cF T a)).getD j 0=if j=m then at' out (cN T dir a)+cF T a else K.getD j 0:=fun j=>GV _ _ _ _ hml
 have hy0:=hw.2.1
 refine⟨h.len,h.ge,?_,fun y hy=>?_,fun x y hx hy=>?_,fun y hy=>?_,h.mq,fun b hb hs hwb=>?_,h.ub,fun y hy=>?_⟩
 ·rcases h.root with h0|⟨h1,h0⟩
  ·exact .inl h0
  ·right
   refine⟨(hH' n).2 (.inl h1),?_⟩
   rw[hK n,if_neg,h0]
   intro e
   subst e
   rcases hnew with h2|h2
   ·exact h2 h1
   ·omega
 ·rcases(hH' y).1 hy with h1|rfl
  ·exact h.qY y h1
  ·have:=h.ge y hmN
   exact⟨hmN,by omega⟩
 ·rw[hK y]
  have:=htop x hx
  split
  ·omega
  ·rename_i e
   exact h.mono x y hx (((hH' y).1 hy).resolve_right e)
 ·rw[hK y]
  by_cases e:y=m
  ·subst e
   rw[if_pos rfl]
   exact .inr ⟨a,ha,hm,hw,rfl⟩
  ·rw[if_neg e]
   exact h.oN y (((hH' y).1 hy).resolve_right e)
 ·obtain⟨x,hx⟩:=Int.eq_ofNat_of_zero_le (hT.x dir b hb).1
  by_cases e:b=a
  ·subst e
   right
   rw[hm,Int.toNat_natCast]
   exact⟨(hH' m).2 (.inr rfl),by rw[hK m,if_pos rfl];exact Int.le_refl _⟩
  ·have h1:=h.closed b hb (fun hb'=>(hS b hb hb').elim hs e) hwb
   rw[hx,Int.toNat_natCast]at h1 ⊢
   rcases h1 with h1|⟨h1,h2⟩
   ·exact .inl h1
   ·right
    refine⟨(hH' x).2 (.inl h1),?_⟩
    rw[hK x]
    split
    ·rename_i e'
     subst e'
     rcases hnew with h3|h3
     ·exact absurd h1 h3
     ·omega
    ·exact h2
 ·rw[hK y]
  split
  ·omega
  ·rename_i e
   exact h.GF y (((hH' y).1 hy).resolve_right e)
theorem Fx{T:ai}{D:List Bool}{n:Nat}{dir:Bool}{out K:List Int}{H:Nat→Prop}(h:wk T D n dir out K H (fun _=>False))(hH:∀y,¬H y):hJ T D n dir out:=
 ⟨h.len,h.root.resolve_right (fun k=>hH n k.1),h.ge,fun a ha hw=>(h.closed a ha (fun f=>f) hw).resolve_right (fun k=>hH _ k.1),h.mq⟩
end Net
end Go.Proofs.YtnegbdpggideiaaGreatDoor
namespace Go.Proofs.YtnegbdpggideiaaGreatDoor
namespace PW
open Go.RowKit cA Mem Net Heap
theorem EJ{N n:Nat}{K P O:List Int}(h:A5 N n K P O)(hN:N≤65536){i:Nat}(hi:O.getD 0 0=(i:Int))(j:Nat)(hj:ej O (j:Int)):K.getD i 0≤K.getD j 0:=by
 obtain⟨hP,hO,hK,hH⟩:=h
 obtain⟨p,hp,he⟩:=hj
 have h1:=zO hH p (by omega)
 unfold rk at h1
 rw[hi,he]at h1
 have h2:=hP.item p hp
 have:=CK (by omega) (by omega) h1
 simpa using this
theorem DM(N:Nat):A5 N 0 (List.replicate N 0) (List.replicate N 0) []:=
 ⟨⟨by simp,fun p hp=>by simp at hp,fun i hi=>.inl (by simp[List.getD_eq_getElem?_getD,List.getElem?_replicate,hi])⟩,rfl,by simp,fun q _ hq=>by omega⟩
theorem wT{P:Program}{M:Nat}{c:Code}{t:bZ}{Q:Exit→St→Prop}{b:Bool}{d:Option cR}{N n:Nat}{K Pl O:List Int}(hd:jy d)(hT:mG [0,1,2,3,5] t t)(h:W P M 0 c ⟨t,gZ false d N n K Pl O⟩ Q):W P M 0 c ⟨t,gZ b d N n K Pl O⟩ Q:=by
 cases b
 ·exact h
 ·exact cU [0,1,2,3,5] hT (.same hd rfl<|.kept rfl (.cells (az.cons (Ren.own (i:=2) rfl)<|az.cons (Ren.own (i:=3) rfl)<|az.cons (Ren.own (i:=4) rfl) az.nil))<|.kept rfl (.row az.pure)<|.kept rfl (.row az.pure)<|.kept rfl (.row az.pure)<|.nil) rfl rfl h
theorem eh{P:Program}{M L:Nat}{c:Code}{t:bZ}{Q:Exit→St→Prop}{σ σ':cd}(he:σ=σ')(h:W P M L c ⟨t,σ'⟩ Q):W P M L c ⟨t,σ⟩ Q:=by subst he;exact h
theorem Ex{N n:Nat}(d:Option cR)(hd:jy d)(K P O:List Int)(h:A5 N n K P O)(hN:N≤65536):
  bS Tryz.prog 199 [.ptr 1 0] (gZ false d N n K P O) (fun r σ'=>∃(b ok:Bool) (i n':Nat) (key:Int) (K' P' O':List Int),r= .tuple [num i,num key,flag ok]∧σ'=gZ b d N n' K' P' O'∧
   ((ok=false∧n=0)∨(ok=true∧i<N∧ej O (i:Int)∧(∀j:Nat,ej O (j:Int)→K.getD i 0≤K.getD j 0)∧key=K.getD i 0∧K'=K.set i 0∧A5 N n' K' P' O'∧∀j:Nat,ej O' (j:Int)↔ej O (j:Int)∧j≠i))):=by
 refine(Ft d hd K P O h hN).mono fun r σ' hr=>?_
 rcases hr with⟨h1,rfl,rfl⟩|⟨n',i,P',O',h1,h2,h3,rfl,rfl,h4,h5⟩
 ·exact⟨false,false,0,n,0,K,P,O,rfl,rfl,.inl ⟨rfl,h1⟩⟩
 ·refine⟨true,true,i,n',K.getD i 0,K.set i 0,P',O',rfl,rfl,.inr ⟨rfl,h2,⟨0,by have:=h.2.1;omega,h3⟩,EJ h hN h3,rfl,rfl,h4,fun j=>(h5 j).trans ?_⟩⟩
  constructor<;>rintro⟨a,b⟩<;>exact⟨a,by omega⟩
def lV(T:ai)(D:List Bool)(n:Nat)(f1 f2:FuncId)(cap1 cap2:List PV):List PV:=[.raw (.int .i64 T.nodes),bf T.over,.slice T.af.length (gd T.af),bf D,num n,.func f1 cap1,.func f2 cap2]
instance (T:ai) (D:List Bool) (n:Nat) (f1 f2:FuncId) (cap1 cap2:List PV) [aG cap1] [aG cap2]:aG (lV T D n f1 f2 cap1 cap2):=by unfold lV;infer_instance
def cL(T:ai)(dir:Bool)(i:Nat):List Int:=((List.range (2*T.af.length)).filter fun a=>decide (cN T dir a=(i:Int))).map Int.ofNat
theorem p9(T:ai)(dir:Bool)(i:Nat)(a:Nat):(a:Int)∈cL T dir i↔a<2*T.af.length∧cN T dir a=(i:Int):=by
 unfold cL
 simp only[List.mem_map,List.mem_filter,List.mem_range,decide_eq_true_eq]
 constructor
 ·rintro⟨b,h,e⟩
  have:b=a:=Int.ofNat.inj e
  subst this;exact h
 ·intro h;exact⟨a,h,rfl⟩
theorem wP(T:ai)(dir:Bool)(i k:Nat)(h:k<(cL T dir i).length):∃a:Nat,(cL T dir i).getD k 0=(a:Int)∧a<2*T.af.length∧cN T dir a=(i:Int):=by
 have hm:(cL T dir i).getD k 0∈cL T dir i:=bU h
 have:∃a:Nat,(cL T dir i).getD k 0=(a:Int):=by
  unfold cL at hm ⊢
  obtain⟨b,_,e⟩:=List.mem_map.1 hm
  exact⟨b,e.symm⟩
 obtain⟨a,ha⟩:=this
 rw[ha]at hm
 exact⟨a,ha,(p9 T dir i a).1 hm⟩
theorem xS(T:ai)(dir:Bool)(i:Nat):(cL T dir i).length≤2*T.af.length:=by
 unfold cL
 rw[List.length_map]
 exact Nat.le_trans (List.length_filter_le _ _) (by simp)
theorem Cb(N k:Nat)(h:k<N):(List.replicate k (-1:Int)++List.replicate (N - k) 0).set k (-1)=List.replicate (k+1) (-1)++List.replicate (N - (k+1)) 0:=by
 rw[List.set_append_right _ _ (by simp),List.length_replicate,Nat.sub_self,show N - k=(N - (k+1))+1 by omega,List.replicate_succ,List.set_cons_zero,List.replicate_succ',List.append_assoc]
 rfl
theorem qx(N:Nat):dp [.raw (.int .i64 0)] N=aN (List.replicate 0 (-1)++List.replicate (N - 0) 0):=by simpa using cS N
theorem kf(n:Nat)(L:List Int):jy (some (.row 3 1 n (aN L))):=fun b h=>by
 cases h
 exact inferInstanceAs (aG (aN L))
theorem Gw{σ:cd}{K P O:List Int}(h:aB σ (.ptr 1 0) (tY K P O))(p:Int):an σ ([.ptr 1 0,num p]++[]) [tY K P O,num p]:=an.cons h (an.cons aB.pure an.nil)
set_option maxHeartbeats 4000000 in
theorem yA(T:ai)(D:List Bool)(n:Nat)(dir:Bool)(f1 f2:FuncId)(cap1 cap2:List PV)[aG cap1][aG cap2](hv:ao T=true)(hf:bX T D=true)(hn:(n:Int)<T.nodes)(he1:enters Tryz.prog f1=true)(he2:enters Tryz.prog f2=true)
  (h1:∀i:Nat,(i:Int)<T.nodes→Can Tryz.prog f1 ([num i]++cap1) (· =ax (cL T dir i))) (h2:∀a:Nat,a<2*T.af.length→Can Tryz.prog f2 ([num a]++cap2) (· =num (fj T dir a))):
  Can Tryz.prog 177 [.agg (lV T D n f1 f2 cap1 cap2)] (· =ax (bK T D n dir)):=by
 have hbd:=gQ hv
 have hS:=aJ hv
 obtain⟨N,hN⟩:∃N:Nat,T.nodes=(N:Int):=⟨T.nodes.toNat,by omega⟩
 have hN64:N≤64:=by have:=hS.nodes;omega
 have hnN:n<N:=by omega
 refine aF Tryz.func177 rfl Tryz.ntmps177 rfl<|ab (.a 2 rfl<|.k [1] rfl)<|aQ<|au 3 rfl<|ca (dB rfl (bE.rk.get rfl) rfl rfl hN hN ⟨by unfold maxLen;omega,by omega⟩) rfl<|au 1 rfl<|aH [1,3] rfl ?_
 refine aj<|ab (.a 3 rfl<|.k [1,3,21,22] rfl)<|av<|eZ [1,3,21,22] rfl<|bw (fun r s=>∃k,k≤N∧r=N - k∧s=⟨[(1,.aV (lV T D n f1 f2 cap1 cap2) 0),(3,.own 0),(21,num N),(22,num k)],[some (.row 3 1 N (aN (List.replicate k (-1)++List.replicate (N - k) 0)))]⟩) N ⟨0,by omega,by omega,by rw[←qx N];rfl⟩ ?_
 rintro r s ⟨k,hk,rfl,rfl⟩
 refine ab (.a 1 rfl<|.k [1,3,21,22,23] rfl)<|aj<|ah rfl (fun hc=>?_) (fun hc=>?_)
 ·have hlt:k<N:=by have:=of_decide_eq_true hc;omega
  refine ak<|aj<|av<|ab (.a 2 rfl<|.k [1,3,4,21,22] rfl)<|ba<|au 2 rfl<|bz (aI (k) rfl) rfl<|br ((by first|exact bQ rfl (bE.tk.get rfl) rfl rfl rfl (by first|omega|(simp;omega))|exact bb rfl (bE.tk.get rfl) rfl rfl rfl (by first|omega|(simp;omega)))) rfl rfl<|aH [1,3,21,22] rfl ?_
  refine eh (σ':=[some (.row 3 1 N (aN (List.replicate (k+1) (-1)++List.replicate (N - (k+1)) 0)))]) (by rw[←Cb N k hlt];rfl) ?_
  refine ay (.v (aR rfl) rfl<|.a 1 rfl<|.k [1,3,21,22] rfl) ?_
  exact⟨N - (k+1),by omega,k+1,by omega,rfl,rfl⟩
 ·have hke:k=N:=by have:=of_decide_eq_false hc;omega
  subst hke
  refine eh (σ':=[some (.row 3 1 k (aN (List.replicate k (-1))))]) (by simp) ?_
  refine bn<|aQ<|au 2 rfl<|bz (aL rfl ((show some (num T.nodes)=some (num (k:Int)) by rw[hN]))) rfl<|cM rfl rfl (bS.mono (El k (some (.row 3 1 k (aN (List.replicate k (-1))))) (kf _ _) (by omega)) (fun _ σ' h=>?_))
  obtain⟨rfl,rfl⟩:=h
  refine au 5 rfl<|aH [1,3,5] rfl ?_
  refine aQ<|au 3 rfl<|cM rfl rfl (bS.mono (yN (some (.row 3 1 k (aN (List.replicate k (-1))))) (kf _ _) _ _ _ (DM k) (by omega) n hnN 0) (fun _ σ' h=>?_))
  obtain⟨b,n1,P1,O1,rfl,hok,hheld⟩:=h
  refine aH [1,3,5] rfl ?_
  refine wT (kf _ _) (.cons 1 rfl Ren.pure<|.cons 3 rfl (Ren.own (i:=0) rfl)<|.cons 5 rfl (Ren.ptr (i:=1) rfl)<|.nil) ?_
  have hD0:=zZ (T:=T) (D:=D) (N:=k) (n:=n) (dir:=dir) hN.symm hnN (K:=(List.replicate k (0:Int)).set n 0) (H:=fun y=>ej O1 (y:Int)) (by rw[GV _ _ _ _ (by simpa using hnN),if_pos rfl]) (fun y=>(hheld y).trans ⟨fun h=>h.elim (fun⟨p,hp,_⟩=>by simp at hp) (fun e=>by omega),fun e=>.inr (by omega)⟩)
  generalize (List.replicate k (0:Int)).set n 0=K1 at hok hD0
  generalize List.replicate k (-1:Int)=out1 at hD0
  clear hheld
  refine av<|eZ [1,3,5] rfl<|bw (fun r s=>∃out K P O q,wk T D n dir out K (fun y=>ej O (y:Int)) (fun _=>False)∧A5 k q K P O∧r=k+1 - lL out∧s=⟨[(1,.aV (lV T D n f1 f2 cap1 cap2) 0),(3,.own 0),(5,.ptr 1 0)],gZ false (some (.row 3 1 k (aN out))) k q K P O⟩) (k+1 - lL out1) ⟨out1,K1,P1,O1,n1,hD0,hok,rfl,rfl⟩ ?_
  clear hD0 hok out1 K1 P1 O1 n1 b
  rintro r s ⟨out,K,P,O,q,hD,hok,rfl,rfl⟩
  refine av<|aQ<|au 1 rfl<|cM rfl rfl (bS.mono (Ex (some (.row 3 1 k (aN out))) (kf _ _) K P O hok (by omega)) (fun _ σ' h=>?_))
  obtain⟨b,ok,i,n1,key,K1,P1,O1,rfl,rfl,hpop⟩:=h
  refine au 7 rfl<|aH [1,3,5,7,8,9] rfl ?_
  refine wT (kf _ _) (.cons 1 rfl Ren.pure<|.cons 3 rfl (Ren.own (i:=0) rfl)<|.cons 5 rfl (Ren.ptr (i:=1) rfl)<|.cons 7 rfl Ren.pure<|.cons 8 rfl Ren.pure<|.cons 9 rfl Ren.pure<|.nil) ?_
  refine aj<|ab (.a 2 rfl<|.k [1,3,5,7,8,47] rfl)<|ah rfl (fun hc=>?_) (fun hc=>?_)
  ·have hok0:ok=false:=by cases ok;rfl;cases hc
   have hq0:q=0:=by
    rcases hpop with⟨_,h⟩|⟨h,_⟩
    ·exact h
    ·rw[hok0]at h;cases h
   have hdist:bK T D n dir=out:=nk hS (Fx hD (fun y ⟨p,hp,_⟩=>by have:=hok.2.1;omega))
   exact ab (.a 2 rfl<|.k [2] rfl)<|aq<|⟨_,_,aA.of rfl,aB.ey rfl an.pure,by rw[hdist];unfold ax;rw[show out.length=k by have:=hD.len;omega]⟩
  ·have hok1:ok=true:=by cases ok;cases hc;rfl
   rcases hpop with⟨h,_⟩|⟨_,hiN,hHi,hmin,rfl,rfl,hok',hH'⟩
   ·rw[hok1]at h;cases h
   obtain⟨hD1,hcnt,htop,hati,hk0,hku⟩:=Fh hS hD hHi hmin (by rw[hok.2.2.1];exact hiN) hH'
   have hol:out.length=k:=by have:=hD.len;omega
   have hcl:=p8 (out.set i (K.getD i 0))
   have hiT:(i:Int)<T.nodes:=by omega
   refine ak<|aQ<|au 3 rfl<|bz (aI (i) rfl) rfl<|br ((by first|exact bQ rfl (bE.tk.get rfl) rfl rfl rfl (by first|omega|(simp;omega))|exact bb rfl (bE.tk.get rfl) rfl rfl rfl (by first|omega|(simp;omega)))) rfl rfl<|aH [1,3,5,7,8] rfl ?_
   refine eh (σ':=gZ false (some (.row 3 1 k (aN (out.set i (K.getD i 0))))) k n1 (K.set i 0) P1 O1) rfl ?_
   have ho1:(out.set i (K.getD i 0)).length=k:=by simpa using hol
   have hmeas:k+1 - lL (out.set i (K.getD i 0))<k+1 - lL out:=by have:=p8 (out.set i (K.getD i 0));omega
   generalize K.getD i 0=d at hD1 hcnt htop hati hk0 hku ho1 hcl hmeas
   generalize out.set i d=out1 at hD1 hcnt htop hati ho1 hcl hmeas
   generalize K.set i 0=K1 at hD1 hok'
   refine aj ?_
   obtain⟨q1,hq1⟩:∃q,decide ((i:Int)≠(n:Int))=q:=⟨_,rfl⟩
   obtain⟨q2,hq2⟩:∃q,dc T i=q:=⟨_,rfl⟩
   have hov:T.over.length=0∨i<T.over.length:=by have:=hbd.2.2.2;omega
   refine bC 62 (.raw (.bool (q1&&q2))) [1,3,5,7,8] rfl ?_ ?_
   ·refine .a 3 rfl<|.v (cC rfl (hq1)) rfl<|.a 1 rfl<|?_
    cases q1
    ·exact .a 5 rfl<|.k [62,1,3,5,7,8] rfl
    ·exact .a 3 rfl<|.c rfl (hq2▸nv T i hov) rfl<|.a 1 rfl<|.k [62,1,3,5,7,8] rfl
   refine ah rfl (fun hc=>?_) (fun hc=>?_)
   ·obtain⟨c1,c2⟩:=Bool.and_eq_true_iff.1 hc
    rw[c1]at hq1
    rw[c2]at hq2
    have hDe:=Dr hD1 (by have:=of_decide_eq_true hq1;omega) hq2
    refine mg (.cons (k:=1) rfl<|.cons (k:=3) rfl<|.cons (k:=5) rfl<|Sub.nil _) ?_
    refine bn ?_
    first
     |exact⟨_,hmeas,out1,K2,P2,O2,q2,hDe,hok2,rfl,rfl⟩
     |exact⟨_,hmeas,out1,K1,P1,O1,n1,hDe,hok',rfl,rfl⟩
   ·have hfree:i=n∨dc T i=false:=by
     by_cases e:i=n
     ·exact .inl e
     ·right
      have:q1=true:=by rw[←hq1];simp;omega
      rw[this,Bool.true_and]at hc
      rw[hq2,hc]
    clear hq1 hq2 hc
    refine ak<|ab (.a 3 rfl<|.v (qa rfl he1 rfl rfl (h1 i hiT)) rfl<|.a 2 rfl<|.k [1,3,5,8,66,67,68] rfl) ?_
    have hll:=xS T dir i
    have hD2:wk T D n dir out1 K1 (fun y=>ej O1 (y:Int)) (fun a=>cN T dir a=(i:Int)∧(a:Int)∉(cL T dir i).take 0):=⟨hD1.len,hD1.ge,hD1.root,hD1.qY,hD1.mono,hD1.oN,hD1.mq,fun a ha hs=>hD1.closed a ha (fun e=>hs ⟨e,by simp⟩),hD1.ub,hD1.GF⟩
    refine av<|eZ [1,3,5,8,66,67,68] rfl<|bw (fun r s=>∃j K P O q,j≤(cL T dir i).length∧wk T D n dir out1 K (fun y=>ej O (y:Int)) (fun a=>cN T dir a=(i:Int)∧(a:Int)∉(cL T dir i).take j)∧A5 k q K P O∧r=(cL T dir i).length - j∧s=⟨[(1,.aV (lV T D n f1 f2 cap1 cap2) 0),(3,.own 0),(5,.ptr 1 0),(8,num d),(66,ax (cL T dir i)),(67,num (cL T dir i).length),(68,num j)],gZ false (some (.row 3 1 k (aN out1))) k q K P O⟩) (cL T dir i).length ⟨0,K1,P1,O1,n1,by omega,hD2,hok',rfl,rfl⟩ ?_
    clear hD2 hok' hD1 K1 P1 O1 n1 hH' hmin hHi hD hok
    rintro r s ⟨j,K2,P2,O2,q2,hj,hD2,hok2,rfl,rfl⟩
    refine ab (.a 1 rfl<|.k [1,3,5,8,66,67,68,69] rfl)<|aj<|ah rfl (fun hc=>?_) (fun hc=>?_)
    ·have hlt:j<(cL T dir i).length:=by have:=of_decide_eq_true hc;omega
     obtain⟨a,ha,ham,hay⟩:=wP T dir i j hlt
     obtain⟨m,hm⟩:=Int.eq_ofNat_of_zero_le (hS.x dir a ham).1
     have hmN:m<k:=by have:=(hS.x dir a ham).2;omega
     have hcb:=hS.cost a ham
     have hDl:D.length=0∨a<D.length:=by simp only[bX,decide_eq_true_eq]at hf;omega
     have hSS:∀b,b<2*T.af.length→(cN T dir b=(i:Int)∧(b:Int)∉(cL T dir i).take j)→(cN T dir b=(i:Int)∧(b:Int)∉(cL T dir i).take (j+1))∨b=a:=fun b _ ⟨e1,e2⟩=>by
      by_cases e:b=a
      ·exact .inr e
      ·left
       refine⟨e1,fun hm'=>?_⟩
       rw[df _ j 0 hlt,ha]at hm'
       rcases List.mem_append.1 hm' with h|h
       ·exact e2 h
       ·simp at h;exact e (by omega)
     have hayi:at' out1 (cN T dir a)=d:=by rw[hay];exact hati
     have hga:out1.getD m 0=at' out1 (m:Int):=by simp[at',List.getD_eq_getElem?_getD,show m<out1.length by omega]
     refine ak<|aj<|av<|ab (.v (aI (j) rfl) rfl<|.v (aL rfl ((aD _ j hlt).trans (by rw[ha]))) rfl<|.a 1 rfl<|.k [1,3,5,8,11,66,67,68] rfl)<|ab (.a 3 rfl<|.v (qa rfl he2 rfl rfl (hm▸h2 a ham)) rfl<|.a 1 rfl<|.k [1,3,5,8,11,12,66,67,68] rfl)<|aj ?_
     obtain⟨p1,hp1⟩:∃q,aX D a=q:=⟨_,rfl⟩
     obtain⟨p2,hp2⟩:∃q,decide (0≤out1.getD m 0)=q:=⟨_,rfl⟩
     refine bC 86 (.raw (.bool (p1||p2))) [1,3,5,8,11,12,66,67,68] rfl ?_ ?_
     ·refine .a 3 rfl<|.c rfl (hp1▸iG D a hDl) rfl<|.a 1 rfl<|?_
      cases p1
      ·exact .a 2 rfl<|.v (aI (m) rfl) rfl<|.v (aL rfl (aD out1 m (by omega))) rfl<|.v (cC rfl (hp2)) rfl<|.a 1 rfl<|.k [86,1,3,5,8,11,12,66,67,68] rfl
      ·exact .a 6 rfl<|.k [86,1,3,5,8,11,12,66,67,68] rfl
     refine ah rfl (fun hc=>?_) (fun hc=>?_)
     ·have hD3:=yw (S':=fun b=>cN T dir b=(i:Int)∧(b:Int)∉(cL T dir i).take (j+1)) hD2 hSS (fun hw=>.inl (by
       rcases Bool.or_eq_true_iff.1 hc with h|h
       ·rw[hw.1]at hp1;rw[h]at hp1;cases hp1
       ·rw[h]at hp2
        have h3:=of_decide_eq_true hp2
        rw[hga]at h3
        rw[hm,hayi]
        have:=htop m (by omega)
        exact⟨h3,by omega⟩))
      refine bn<|ay (.v (aR rfl) rfl<|.a 1 rfl<|.k [1,3,5,8,66,67,68] rfl) ?_
      first
       |exact⟨(cL T dir i).length - (j+1),by omega,j+1,_,P3,O3,n3,by omega,hD3,hok3,rfl,rfl⟩
       |exact⟨(cL T dir i).length - (j+1),by omega,j+1,K2,P2,O2,q2,by omega,hD3,hok2,rfl,rfl⟩
     ·obtain⟨c1,c2⟩:=Bool.or_eq_false_iff.1 hc
      rw[c1]at hp1
      rw[c2]at hp2
      have hmneg:at' out1 (m:Int)<0:=by have:=of_decide_eq_false hp2;rw[hga]at this;omega
      have hway:Net.Way T D n dir out1 a:=⟨hp1,by rw[hayi];exact hk0,by rw[hay,Int.toNat_natCast];rcases hfree with h|h;(exact .inl (by rw[h]));exact .inr h⟩
      refine ak<|ab (.a 4 rfl<|.c rfl (kD T a ham) rfl<|.v (aR rfl) rfl<|.a 1 rfl<|.k [1,3,5,8,12,13,66,67,68] rfl) ?_
      obtain⟨p3,hp3⟩:∃q,(!decide (P2.getD m 0=0))=q:=⟨_,rfl⟩
      obtain⟨kv,hkv⟩:∃z,(if P2.getD m 0=0 then 0 else K2.getD m 0)=z:=⟨_,rfl⟩
      have hkc:=FM K2 P2 O2 hok2.1.len hok2.2.2.1 (by omega) m hmN
      rw[hp3,hkv]at hkc
      refine ab (.a 2 rfl<|.v (G6 rfl (Gw (pU false _ hok2.2.2.1 hok2.1.len hok2.2.1) _) (hkc)) rfl<|.a 5 rfl<|.k [1,3,5,8,12,13,14,15,66,67,68] rfl) ?_
      obtain⟨p4,hp4⟩:∃q,decide (d+cF T a<kv)=q:=⟨_,rfl⟩
      refine bC 105 (.raw (.bool ((!p3)||p4))) [1,3,5,8,12,13,66,67,68] rfl ?_ ?_
      ·refine .a 3 rfl<|?_
       cases p3
       ·exact .a 4 rfl<|.k [105,1,3,5,8,12,13,66,67,68] rfl
       ·exact .a 2 rfl<|.v (cC rfl (hp4)) rfl<|.a 1 rfl<|.k [105,1,3,5,8,12,13,66,67,68] rfl
      refine ah rfl (fun hc=>?_) (fun hc=>?_)
      ·have hnew:¬ej O2 (m:Int)∨at' out1 (cN T dir a)+cF T a<K2.getD m 0:=by
        rw[hayi]
        by_cases e:P2.getD m 0=0
        ·exact .inl ((hok2.1.zero hmN).1 e)
        ·right
         have h3:p3=true:=by rw[←hp3];simp only[e];rfl
         rw[h3]at hc
         have h4:p4=true:=by simpa using hc
         rw[h4]at hp4
         have:=of_decide_eq_true hp4
         rw[if_neg e]at hkv
         omega
       refine ba<|au 3 rfl<|cM rfl rfl (bS.mono (yN (some (.row 3 1 k (aN out1))) (kf _ _) K2 P2 O2 hok2 (by omega) m hmN (d+cF T a)) (fun _ σ' h=>?_))
       obtain⟨b3,n3,P3,O3,rfl,hok3,hH3⟩:=h
       refine aH [1,3,5,8,66,67,68] rfl ?_
       refine wT (kf _ _) (.cons 1 rfl Ren.pure<|.cons 3 rfl (Ren.own (i:=0) rfl)<|.cons 5 rfl (Ren.ptr (i:=1) rfl)<|.cons 8 rfl Ren.pure<|.cons 66 rfl Ren.pure<|.cons 67 rfl Ren.pure<|.cons 68 rfl Ren.pure<|.nil) ?_
       have hD3:=Fo (S':=fun b=>cN T dir b=(i:Int)∧(b:Int)∉(cL T dir i).take (j+1)) (H':=fun y=>ej O3 (y:Int)) hS hD2 ham hSS hway hm hmneg (fun x hx=>by rw[hayi];exact htop x hx) (by rw[hayi];omega) hnew (by rw[hok2.2.2.1];exact hmN) (fun y=>(hH3 y).trans ⟨fun h=>h.imp id (fun e=>by omega),fun h=>h.imp id (fun e=>by omega)⟩)
       rw[hayi]at hD3
       refine ay (.v (aR rfl) rfl<|.a 1 rfl<|.k [1,3,5,8,66,67,68] rfl) ?_
       first
        |exact⟨(cL T dir i).length - (j+1),by omega,j+1,_,P3,O3,n3,by omega,hD3,hok3,rfl,rfl⟩
        |exact⟨(cL T dir i).length - (j+1),by omega,j+1,K2,P2,O2,q2,by omega,hD3,hok2,rfl,rfl⟩
      ·obtain⟨c3,c4⟩:=Bool.or_eq_false_iff.1 hc
       have h3:p3=true:=by cases p3;cases c3;rfl
       rw[h3]at hp3
       rw[c4]at hp4
       have e:P2.getD m 0≠0:=fun e=>by rw[e]at hp3;cases hp3
       have hD3:=yw (S':=fun b=>cN T dir b=(i:Int)∧(b:Int)∉(cL T dir i).take (j+1)) hD2 hSS (fun hw=>.inr (by
        rw[hm,Int.toNat_natCast,hayi]
        refine⟨Classical.byContradiction fun hh=>e ((hok2.1.zero hmN).2 hh),?_⟩
        rw[if_neg e]at hkv
        have:=of_decide_eq_false hp4
        omega))
       refine ak<|ay (.v (aR rfl) rfl<|.a 1 rfl<|.k [1,3,5,8,66,67,68] rfl) ?_
       first
        |exact⟨(cL T dir i).length - (j+1),by omega,j+1,_,P3,O3,n3,by omega,hD3,hok3,rfl,rfl⟩
        |exact⟨(cL T dir i).length - (j+1),by omega,j+1,K2,P2,O2,q2,by omega,hD3,hok2,rfl,rfl⟩
    ·have hje:j=(cL T dir i).length:=by have:=of_decide_eq_false hc;omega
     have hDe:wk T D n dir out1 K2 (fun y=>ej O2 (y:Int)) (fun _=>False):=⟨hD2.len,hD2.ge,hD2.root,hD2.qY,hD2.mono,hD2.oN,hD2.mq,fun a ha _=>hD2.closed a ha (fun⟨e1,e2⟩=>e2 (by rw[hje,List.take_length];exact(p9 T dir i a).2 ⟨ha,e1⟩)),hD2.ub,hD2.GF⟩
     refine mg (.cons (k:=1) rfl<|.cons (k:=3) rfl<|.cons (k:=5) rfl<|Sub.nil _) ?_
     refine bn ?_
     first
      |exact⟨_,hmeas,out1,K2,P2,O2,q2,hDe,hok2,rfl,rfl⟩
      |exact⟨_,hmeas,out1,K1,P1,O1,n1,hDe,hok',rfl,rfl⟩
end PW
end Go.Proofs.YtnegbdpggideiaaGreatDoor
namespace Go.Proofs.YtnegbdpggideiaaGreatDoor
namespace PW
open Go.RowKit cA Mem Net
def gV(T:ai)(D:List Bool)(L:List Int)(dn:Int)(d a:Nat):Bool:=
 !(aX D a||decide (L.getD (aS T a).toNat 0<0)||(decide (aS T a≠(d:Int))&&dc T (aS T a).toNat))&&decide (L.getD (aS T a).toNat 0+cF T a=dn)
def kj(T:ai)(D:List Bool)(L:List Int)(dn:Int)(d:Nat)(l:List Int):List Int:=l.filter fun a=>gV T D L dn d a.toNat
theorem re(T:ai)(D:List Bool)(L lv:List Int)(n d:Nat)(hv:ao T=true)(hf:bX T D=true)(hL:(L.length:Int)=T.nodes)(hub:∀x∈L, -1≤x∧x≤4194240)(hn:(n:Int)<T.nodes)(hd:(d:Int)<T.nodes)
    (hlv:∀a∈lv,0≤a∧a<2*(T.af.length:Int)) (hll:lv.length≤100000):
    Can Tryz.prog 148 [aP T,bf D,ax L,ax lv,num n,num d] (· =ax (if n=d∨L.getD n 0<0 then [] else kj T D L (L.getD n 0) d lv)):=by
  have hbd:=gQ hv
  have hS:=aJ hv
  have hnL:n<L.length:=by omega
  refine aF Tryz.func148 rfl Tryz.ntmps148 rfl<|ab (.a 2 rfl<|.k [1,2,3,4,5,6] rfl)<|ab (.a 1 rfl<|.k [1,2,3,4,5,6,13] rfl) ?_
  obtain⟨q1,hq1⟩:∃q,decide ((n:Int)=(d:Int))=q:=⟨_,rfl⟩
  obtain⟨q2,hq2⟩:∃q,decide (L.getD n 0<0)=q:=⟨_,rfl⟩
  refine aj<|bC 26 (.raw (.bool (q1||q2))) [1,2,3,4,5,6,13] rfl ?_ ?_
  · refine .a 2 rfl<|.v (cC rfl (hq1)) rfl<|.a 1 rfl<|?_
    cases q1
    · exact .a 2 rfl<|.v (aI (n) rfl) rfl<|.v (aL rfl (aD L n hnL)) rfl<|.v (cC rfl (hq2)) rfl<|.a 1 rfl<|.k [26,1,2,3,4,5,6,13] rfl
    · exact .a 6 rfl<|.k [26,1,2,3,4,5,6,13] rfl
  refine ah (b:=q1||q2) rfl (fun hc=>?_) (fun hc=>?_)
  · have:n=d∨L.getD n 0<0:=by
      rcases Bool.or_eq_true_iff.1 hc with h|h
      · rw[h]at hq1;exact .inl (by have:=of_decide_eq_true hq1;omega)
      · rw[h]at hq2;exact .inr (of_decide_eq_true hq2)
    rw[if_pos this]
    refine ab (.a 2 rfl<|.k [12] rfl)<|aq ⟨_,_,.cons (.tmp rfl) .nil,aB.b9,rfl⟩
  · obtain ⟨c1, c2⟩ := Bool.or_eq_false_iff.1 hc
    rw[c1]at hq1
    rw[c2]at hq2
    have hnd:¬(n=d∨L.getD n 0<0):=by
      have:=of_decide_eq_false hq1
      have:=of_decide_eq_false hq2
      omega
    rw[if_neg hnd]
    refine ak<|aj<|ab (.a 3 rfl<|.k [1,2,4,5,6,13,28,29,30] rfl)<|dW 13 3 1 rfl ?_
    refine av<|mg (.cons (k:=1) rfl<|.cons (k:=2) rfl<|.cons (k:=4) rfl<|.cons (k:=5) rfl<|.cons (k:=6) rfl<|.cons (k:=13) rfl<|.cons (k:=28) rfl<|.cons (k:=29) rfl<|.cons (k:=30) rfl<|Sub.nil _) ?_
    refine bw (fun r s=>∃i,i≤lv.length∧r=lv.length - i∧s=⟨[(1,bf D),(2,ax L),(4,num n),(5,num d),(6,.aV (bx T) 0),(13,.own 0),(28,ax lv),(29,num lv.length),(30,num i)],[some (.row 3 1 (kj T D L (L.getD n 0) d (lv.take i)).length (aN (kj T D L (L.getD n 0) d (lv.take i))))]⟩) lv.length ⟨0,by omega,by omega,?_⟩ ?_
    · simp only[List.take_zero,kj,List.filter_nil]
      rfl
    · rintro r s ⟨i,hi,rfl,rfl⟩
      refine ab (.a 1 rfl<|.k [1,2,4,5,6,13,28,29,30,31] rfl)<|aj<|ah (b:=decide ((i:Int)<(lv.length:Int))) rfl (fun hc=>?_) (fun hc=>?_)
      · have hlt:i<lv.length:=by have:=of_decide_eq_true hc;omega
        refine ak ?_
        obtain⟨a,ha⟩:∃a:Nat,lv.getD i 0=(a:Int):=Int.eq_ofNat_of_zero_le (hlv _ (bU hlt)).1
        have ham:a<2*T.af.length:=by
          have:=(hlv (lv.getD i 0) (bU hlt)).2
          omega
        have hstep:kj T D L (L.getD n 0) d (lv.take (i+1))=kj T D L (L.getD n 0) d (lv.take i)++(if gV T D L (L.getD n 0) d a then [(a:Int)] else []):=by
          unfold kj
          rw[List.take_add_one,List.filter_append,show lv[i]? =some (a:Int) by rw[←ha,List.getD_eq_getElem?_getD];simp[hlt]]
          congr 1
          simp only[Option.toList_some,List.filter_cons,List.filter_nil,Int.toNat_natCast]
        have hlen:(kj T D L (L.getD n 0) d (lv.take i)).length≤100000:=Nat.le_trans (List.length_filter_le _ _) (by rw[List.length_take];omega)
        obtain⟨hd0,hhN⟩:=hS.head a ham
        obtain⟨h,hh⟩:=Int.eq_ofNat_of_zero_le hd0
        have hhL:h<L.length:=by omega
        have hub1: -1≤L.getD h 0∧L.getD h 0≤4194240:=hub _ (bU hhL)
        have hcb:=hS.cost a ham
        have hDl:D.length=0∨a<D.length:=by simp only[bX,decide_eq_true_eq]at hf;omega
        have hov:T.over.length=0∨h<T.over.length:=by have:=hbd.2.2.2;omega
        refine aj<|av<|ab (.v (aI (i) rfl) rfl<|.v (aL rfl ((aD lv i hlt).trans (by rw[ha]))) rfl<|.a 1 rfl<|.k [1,2,4,5,6,13,15,28,29,30] rfl)<|ab (.a 2 rfl<|.c rfl (hh▸fu T a ham (by omega)) rfl<|.a 1 rfl<|.k [1,2,4,5,6,13,15,16,28,29,30] rfl) ?_
        obtain⟨p1,hp1⟩:∃q,aX D a=q:=⟨_,rfl⟩
        obtain⟨p2,hp2⟩:∃q,decide (L.getD h 0<0)=q:=⟨_,rfl⟩
        obtain⟨p3,hp3⟩:∃q,decide ((h:Int)≠(d:Int))=q:=⟨_,rfl⟩
        obtain⟨p4,hp4⟩:∃q,dc T h=q:=⟨_,rfl⟩
        obtain⟨p5,hp5⟩:∃q,decide (L.getD h 0+cF T a=L.getD n 0)=q:=⟨_,rfl⟩
        have hpass:gV T D L (L.getD n 0) d a=(!((p1||p2)||(p3&&p4))&&p5):=by
          unfold gV;rw[hh,Int.toNat_natCast,hp1,hp2,hp3,hp4,hp5]
        refine aj<|bC 56 (.raw (.bool ((p1||p2)||(p3&&p4)))) [1,2,4,5,6,13,15,16,28,29,30] rfl ?_ ?_
        · refine .a 2 rfl<|.c rfl (hp1▸iG D a hDl) rfl<|.a 1 rfl<|?_
          cases p1
          · refine .a 2 rfl<|.v (aI (h) rfl) rfl<|.v (aL rfl (aD L h hhL)) rfl<|.v (cC rfl (hp2)) rfl<|.a 2 rfl<|?_
            cases p2
            · refine .a 2 rfl<|.v (cC rfl (hp3)) rfl<|.a 1 rfl<|?_
              cases p3
              · exact .a 5 rfl<|.k [56,1,2,4,5,6,13,15,16,28,29,30] rfl
              · exact .a 2 rfl<|.c rfl (hp4▸nv T h hov) rfl<|.a 2 rfl<|.k [56,1,2,4,5,6,13,15,16,28,29,30] rfl
            · exact .a 9 rfl<|.k [56,1,2,4,5,6,13,15,16,28,29,30] rfl
          · exact .a 16 rfl<|.k [56,1,2,4,5,6,13,15,16,28,29,30] rfl
        refine ah (b:=(p1||p2)||(p3&&p4)) rfl (fun hc=>?_) (fun hc=>?_)
        · rw[hc]at hpass
          refine bn<|ay (.v (aR rfl) rfl<|.a 1 rfl<|.k [1,2,4,5,6,13,28,29,30] rfl) ?_
          refine⟨lv.length - (i+1),by omega,i+1,by omega,rfl,?_⟩
          rw[hstep,hpass]
          simp only[Bool.not_true,Bool.false_and,Bool.false_eq_true,if_false,List.append_nil]
          rfl
        · rw[hc]at hpass
          refine ak<|fp mixed (by kernel_rfl) (.a 2 rfl<|.v [57,58] (aI (h) rfl) rfl rfl<|.v [59] (aL rfl (aD L h hhL)) rfl rfl<|.a 2 rfl<|.v [61,62] (fm rfl (kD T a ham)) rfl rfl<|.v [60,63] (aR rfl) rfl rfl<|.a 2 rfl<|.v [65,66] (aI (n) rfl) rfl rfl<|.v [67] (aL rfl (aD L n hnL)) rfl rfl<|.v [64,68] (cC rfl (hp5)) rfl rfl<|.k [1,2,4,5,6,13,15,28,29,30,69] rfl) ?_
          refine ah (b:=p5) rfl (fun hc5=>?_) (fun hc5=>?_)
          · rw[hc5]at hpass
            refine ba<|au 3 rfl<|ca (aY rfl (bE.rk.get rfl) rfl rfl rfl rfl (by unfold maxLen;omega)) rfl<|au 1 rfl ?_
            refine cE [1] (.c 1<|.c 2<|.c 4<|.c 5<|.c 6<|.c 13<|.c 28<|.c 29<|.c 30<|.nil) (.kept rfl (.dr rfl (bT _ _))<|.nil) rfl rfl (aO ?_)
            refine ay (.v (aR rfl) rfl<|.a 1 rfl<|.k [1,2,4,5,6,13,28,29,30] rfl) ?_
            refine⟨lv.length - (i+1),by omega,i+1,by omega,rfl,?_⟩
            rw[hstep,hpass]
            simp only[Bool.not_false,Bool.true_and,if_true,List.length_append,List.length_singleton]
            rfl
          · rw[hc5]at hpass
            refine ak<|ay (.v (aR rfl) rfl<|.a 1 rfl<|.k [1,2,4,5,6,13,28,29,30] rfl) ?_
            refine⟨lv.length - (i+1),by omega,i+1,by omega,rfl,?_⟩
            rw[hstep,hpass]
            simp only[Bool.not_false,Bool.true_and,Bool.false_eq_true,if_false,List.append_nil]
            rfl
      · have:i=lv.length:=by have:=of_decide_eq_false hc;omega
        subst this
        rw[List.take_length]
        exact bn<|ab (.a 2 rfl<|.k [12] rfl)<|aq ⟨_,_,.cons (.tmp rfl) .nil,aB.ey rfl an.pure,rfl⟩
end PW
end Go.Proofs.YtnegbdpggideiaaGreatDoor
namespace Go.Proofs.YtnegbdpggideiaaGreatDoor
namespace PW
open Go.RowKit cA Mem Net Heap
instance (rs:List (List Int)):eM (iX rs):=by unfold iX;infer_instance
instance (T:ai):cq (bx T):=by unfold bx;infer_instance
def cO(T:ai)(D:List Bool)(ns:List Int):Int:=if ao T&&bX T D then(if ns.all (bu T) then 0 else 2) else 1
theorem nN(T:ai)(D:List Bool)(ns:List Int)(hns:ns.length≤1000):Can Tryz.prog 173 [aP T,bf D,ax ns] (· =num (cO T D ns)):=by
 refine aF Tryz.func173 rfl Tryz.ntmps173 rfl<|ab (.a 2 rfl<|.k [1,2,3] rfl)<|aj ?_
 obtain⟨q1,hq1⟩:∃q,ao T=q:=⟨_,rfl⟩
 obtain⟨q2,hq2⟩:∃q,bX T D=q:=⟨_,rfl⟩
 refine bC 17 (.raw (.bool ((!q1)||(!q2)))) [2,3] rfl ?_ ?_
 ·refine .a 1 rfl<|.c rfl (hq1▸de T) rfl<|.a 2 rfl<|?_
  cases q1
  ·exact .a 5 rfl<|.k [17,2,3] rfl
  ·exact .a 2 rfl<|.c rfl (hq2▸kX T D (by have:=bN hq1;omega)) rfl<|.a 2 rfl<|.k [17,2,3] rfl
 refine ah rfl (fun hc=>?_) (fun hc=>?_)
 ·have hch:cO T D ns=1:=by
   unfold cO
   rw[hq1,hq2,if_neg]
   revert hc
   cases q1<;>cases q2<;>simp
  exact ab (.a 1 rfl<|.k [6] rfl)<|aq<|⟨_,_,aA.of rfl,aB.pure,by rw[hch];rfl⟩
 ·have hok:(ao T&&bX T D)=true:=by
   rw[hq1,hq2]
   revert hc
   cases q1<;>cases q2<;>simp
  refine ak<|aj<|ab (.a 3 rfl<|.k [3,18,19,20] rfl)<|av<|eZ [3,18,19,20] rfl<|bw (fun r s=>∃i,i≤ns.length∧(ns.take i).all (bu T)=true∧r=ns.length - i∧s=⟨[(3,.aV (bx T) 0),(18,ax ns),(19,num ns.length),(20,num i)],[]⟩) ns.length ⟨0,by omega,by simp,by omega,rfl⟩ ?_
  rintro r s ⟨i,hi,hall,rfl,rfl⟩
  refine ab (.a 1 rfl<|.k [3,18,19,20,21] rfl)<|aj<|ah rfl (fun hc=>?_) (fun hc=>?_)
  ·have hlt:i<ns.length:=by have:=of_decide_eq_true hc;omega
   refine ak<|aj<|av<|ab (.v (aI (i) rfl) rfl<|.v (aL rfl (aD ns i hlt)) rfl<|.a 1 rfl<|.k [3,8,18,19,20] rfl)<|ab (.a 2 rfl<|.c rfl (da T _) rfl<|.a 1 rfl<|.k [3,18,19,20,27] rfl)<|ah rfl (fun hc=>?_) (fun hc=>?_)
   ·have hch:cO T D ns=2:=by
     unfold cO
     rw[if_pos hok,if_neg]
     intro h
     have h1:=List.all_eq_true.1 h _ (bU (d:=0) hlt)
     rw[h1]at hc
     cases hc
    exact ab (.a 1 rfl<|.k [6] rfl)<|aq<|⟨_,_,aA.of rfl,aB.pure,by rw[hch];rfl⟩
   ·have hall':(ns.take (i+1)).all (bu T)=true:=by
     rw[df ns i 0 hlt,List.all_append,hall]
     have:bu T (ns.getD i 0)=true:=by revert hc;cases bu T (ns.getD i 0)<;>simp
     simp only[List.all_cons,this,List.all_nil,Bool.and_self]
    refine ak<|ay (.v (aR rfl) rfl<|.a 1 rfl<|.k [3,18,19,20] rfl) ?_
    exact⟨ns.length - (i+1),by omega,i+1,by omega,hall',rfl,rfl⟩
  ·have hie:i=ns.length:=by have:=of_decide_eq_false hc;omega
   refine bn<|ab (.a 1 rfl<|.k [6] rfl)<|aq<|⟨_,_,aA.of rfl,aB.pure,?_⟩
   unfold cO
   rw[if_pos hok,if_pos (by rw[hie,List.take_length]at hall;exact hall)]
   rfl
theorem zA(rs:List (List Int))(i:Nat)(hi:i<rs.length):Can Tryz.prog 175 ([num i]++[.aV [iX rs] 0]) (· =ax (rs.getD i [])):=by
 exact aF Tryz.func175 rfl Tryz.ntmps175 rfl<|ab (.a 1 rfl<|.k [0,1] rfl)<|ab (.a 2 rfl<|.v (aI (i) rfl) rfl<|.v (aL rfl ((show(rs.map ax)[i]? =some (ax (rs.getD i [])) by simp[hi]))) rfl<|.a 1 rfl<|.k [3] rfl)<|aq<|⟨_,_,aA.of rfl,aB.pure,rfl⟩
theorem A1(T:ai)(a:Nat)(ha:a<2*T.af.length):Can Tryz.prog 176 ([num a]++[.aV (bx T) 0]) (· =num (bq T a)):=by
 exact aF Tryz.func176 rfl Tryz.ntmps176 rfl<|ab (.a 1 rfl<|.k [0,1] rfl)<|ab (.a 2 rfl<|.c rfl (iK T a ha) rfl<|.a 1 rfl<|.k [3] rfl)<|aq<|⟨_,_,aA.of rfl,aB.pure,rfl⟩
def ep(e:Int)(l:List Int):PV:=.tuple [ax (if e=0 then l else []),num e]
instance (e:Int) (l:List Int):IsPure (ep e l):=by unfold ep;infer_instance
theorem qp(T:ai)(D:List Bool)(d:Int):Can Tryz.prog 151 [aP T,bf D,num d] (· =ep (cO T D [d]) (bK T D d.toNat false)):=by
 refine aF Tryz.func151 rfl Tryz.ntmps151 rfl<|ab (.a 3 rfl<|.k [1,2,3] rfl)<|aj<|ab (.a 4 rfl<|.c rfl (nN T D [d] (by simp)) rfl<|.a 1 rfl<|.k [1,2,3,8] rfl)<|ab (.a 2 rfl<|.k [1,2,3,8,17] rfl)<|ah rfl (fun hc=>?_) (fun hc=>?_)
 ·have he:cO T D [d]≠0:=of_decide_eq_true hc
  exact ab (.a 3 rfl<|.k [6,7] rfl)<|aq<|⟨_,_,aA.of rfl,aB.bG (an.cons aB.b9 (an.cons aB.pure an.nil)),by unfold ep;rw[if_neg he];rfl⟩
 ·have he:cO T D [d]=0:=by have:=of_decide_eq_false hc;omega
  have hok:(ao T&&bX T D)=true∧bu T d=true:=by
   unfold cO at he
   split at he
   ·rename_i h1
    split at he
    ·rename_i h2;exact⟨h1,by simpa using h2⟩
    ·omega
   ·omega
  obtain⟨hvf,hnd⟩:=hok
  obtain⟨hv,hf⟩:=Bool.and_eq_true_iff.1 hvf
  have hd:0≤d∧d<T.nodes:=by simpa[bu]using hnd
  obtain⟨n,rfl⟩:=Int.eq_ofNat_of_zero_le hd.1
  have hS:=aJ hv
  refine ak<|aQ<|au 1 rfl<|ek rfl (sX T hv) rfl<|au 2 rfl<|aH [1,2,3,9] rfl ?_
  refine aQ<|au 3 rfl<|bz (dA rfl rfl) rfl<|au 4 rfl<|aH [10] rfl ?_
  refine ud (.cons 10 rfl (aB.jc rfl (an.cons aB.pure<|an.cons aB.pure<|an.cons aB.pure<|an.cons aB.pure<|an.cons aB.pure<|an.cons (aB.il (an.cons (aB.jc rfl (an.cons aB.pure an.nil)) an.nil))<|an.cons aB.pure an.nil)) .nil) ?_
  exact ab (.a 1 rfl<|.c rfl (yA T D n false 175 176 [.aV [iX (cZ (aS T) T.nodes.toNat (2*T.af.length))] 0] [.aV (bx T) 0] hv hf hd.2 (by kernel_rfl) (by kernel_rfl) (fun i hi=>by have h:=zA (cZ (aS T) T.nodes.toNat (2*T.af.length)) i (by rw[eG];omega);rw[iD _ _ _ _ (by omega)]at h;exact h) (fun a ha=>A1 T a ha)) rfl<|.a 2 rfl<|.k [6,7] rfl)<|aq<|⟨_,_,aA.of rfl,aB.pure,by unfold ep;rw[if_pos he,he];rfl⟩
end PW
end Go.Proofs.YtnegbdpggideiaaGreatDoor
namespace Go.Proofs.YtnegbdpggideiaaGreatDoor
namespace PW
open Go.RowKit cA Mem Net Heap
theorem nh(T:ai)(hl:T.af.length≤256)(n:Int):Can Tryz.prog 74 [aP T,num n] (· =ax (bm T n)):=by
 refine aF Tryz.func74 rfl Tryz.ntmps74 rfl<|ab (.a 2 rfl<|.k [1,2] rfl)<|ab (.a 1 rfl<|.k [1,2,5] rfl)<|dW 5 3 1 rfl ?_
 refine aj<|ab (.a 1 rfl<|.c rfl (gO T (by omega)) rfl<|.a 1 rfl<|.k [1,2,5,8,9] rfl)<|av<|eZ [1,2,5,8,9] rfl<|bw (fun r s=>∃k,k≤2*T.af.length∧r=2*T.af.length - k∧s=⟨[(1,num n),(2,.aV (bx T) 0),(5,.own 0),(8,num (2*(T.af.length:Int))),(9,num k)],[some (.row 3 1 (fH T n k).length (aN (fH T n k)))]⟩) (2*T.af.length) ⟨0,by omega,by omega,rfl⟩ ?_
 rintro r s ⟨k,hk,rfl,rfl⟩
 refine ab (.a 1 rfl<|.k [1,2,5,8,9,10] rfl)<|aj<|ah rfl (fun hc=>?_) (fun hc=>?_)
 ·have hlt:k<2*T.af.length:=by have:=of_decide_eq_true hc;omega
  have hlen:=dH T n k
  refine ak<|aj<|av<|ab (.a 2 rfl<|.k [1,2,5,6,8,9] rfl)<|ab (.a 2 rfl<|.c rfl (iK T k hlt) rfl<|.a 2 rfl<|.k [1,2,5,6,8,9,16] rfl)<|ah rfl (fun hc=>?_) (fun hc=>?_)
  ·have hst:=sk T n k (by simpa using of_decide_eq_true hc)
   refine ba<|au 3 rfl<|ca (aY rfl (bE.rk.get rfl) rfl rfl rfl rfl (by unfold maxLen;omega)) rfl<|au 1 rfl ?_
   refine cE [1] (.c 1<|.c 2<|.c 5<|.c 8<|.c 9<|.nil) (.kept rfl (.dr rfl (bT _ _))<|.nil) rfl rfl (aO ?_)
   refine ay (.v (aR rfl) rfl<|.a 1 rfl<|.k [1,2,5,8,9] rfl) ?_
   refine⟨2*T.af.length - (k+1),by omega,k+1,by omega,rfl,?_⟩
   rw[hst]
   first
    |rfl
    |(simp only[List.length_append,List.length_singleton];rfl)
  ·have hst:=uY T n k (by simpa using of_decide_eq_false hc)
   refine ak<|ay (.v (aR rfl) rfl<|.a 1 rfl<|.k [1,2,5,8,9] rfl) ?_
   refine⟨2*T.af.length - (k+1),by omega,k+1,by omega,rfl,?_⟩
   rw[hst]
   first
    |rfl
    |(simp only[List.length_append,List.length_singleton];rfl)
 ·have hke:k=2*T.af.length:=by have:=of_decide_eq_false hc;omega
  subst hke
  exact bn<|ab (.a 2 rfl<|.k [4] rfl)<|aq<|⟨_,_,aA.of rfl,aB.ey rfl an.pure,rfl⟩
def cB(T:ai)(D:List Bool)(n d:Int):Int:=if cO T D [d]=0 then(if bu T n then 0 else 2) else cO T D [d]
theorem sf(T:ai)(D:List Bool)(n d:Int):Can Tryz.prog 147 [aP T,bf D,num n,num d] (· =ep (cB T D n d) (bK T D d.toNat false)):=by
 refine aF Tryz.func147 rfl Tryz.ntmps147 rfl<|ab (.a 3 rfl<|.k [1,2,3,4] rfl)<|ab (.a 3 rfl<|.c rfl (qp T D d) rfl<|.a 5 rfl<|.k [2,4,10,11] rfl)<|aj<|ab (.a 2 rfl<|.k [2,4,10,11,20] rfl)<|ah rfl (fun hc=>?_) (fun hc=>?_)
 ·have he:cO T D [d]≠0:=of_decide_eq_true hc
  exact ab (.a 3 rfl<|.k [8,9] rfl)<|aq<|⟨_,_,aA.of rfl,aB.bG (an.cons aB.b9 (an.cons aB.pure an.nil)),by unfold ep cB;rw[if_neg he,if_neg he];rfl⟩
 ·have he:cO T D [d]=0:=by have:=of_decide_eq_false hc;omega
  refine ak<|aj<|ab (.a 2 rfl<|.c rfl (da T n) rfl<|.a 1 rfl<|.k [10,25] rfl)<|ah rfl (fun hc=>?_) (fun hc=>?_)
  ·have hn:bu T n=false:=by revert hc;cases bu T n<;>simp
   exact ab (.a 2 rfl<|.k [8,9] rfl)<|aq<|⟨_,_,aA.of rfl,aB.bG (an.cons aB.b9 (an.cons aB.pure an.nil)),by unfold ep cB;rw[if_pos he,hn];rfl⟩
  ·have hn:bu T n=true:=by revert hc;cases bu T n<;>simp
   exact ak<|ab (.a 3 rfl<|.k [8,9] rfl)<|aq<|⟨_,_,aA.of rfl,aB.pure,by unfold ep cB;simp only[he,hn,if_true];rfl⟩
theorem AD{T:ai}{D:List Bool}{ns:List Int}(he:cO T D ns=0):ao T=true∧bX T D=true∧∀n∈ns,bu T n=true:=by
 unfold cO at he
 split at he
 ·rename_i h1
  split at he
  ·rename_i h2
   obtain⟨a,b⟩:=Bool.and_eq_true_iff.1 h1
   exact⟨a,b,List.all_eq_true.1 h2⟩
  ·omega
 ·omega
theorem fB{T:ai}{D:List Bool}{n d:Int}(he:cB T D n d=0):ao T=true∧bX T D=true∧bu T n=true∧bu T d=true:=by
 unfold cB at he
 split at he
 ·rename_i h1
  obtain⟨a,b,c⟩:=AD h1
  split at he
  ·rename_i h2;exact⟨a,b,h2,c d (by simp)⟩
  ·omega
 ·omega
theorem eo{T:ai}{D:List Bool}(hv:ao T=true){d:Nat}{dir:Bool}(hd:(d:Int)<T.nodes):((bK T D d dir).length:Int)=T.nodes∧∀x∈bK T D d dir, -1≤x∧x≤4194240:=by
 have hS:=aJ hv
 have hI:=AV hS D dir hd
 refine⟨hI.len,fun x hx=>?_⟩
 obtain⟨i,hi,rfl⟩:=List.getElem_of_mem hx
 have hin:(i:Int)<T.nodes:=by have:=hI.len;omega
 have h1:=hI.ge i hin
 have h2:=hI.Iq i hin
 have h3:=p8 (bK T D d dir)
 have h4:=hS.nodes
 have h5:=hI.len
 rw[CZ _ i hi]at h1 h2
 omega
noncomputable def bL(T:ai)(D:List Bool)(n d:Nat):List Int:=
 if n=d∨(bK T D d false).getD n 0<0 then [] else kj T D (bK T D d false) ((bK T D d false).getD n 0) d (bm T n)
theorem jM{T:ai}{n:Int}{a:Int}(h:a∈bm T n):0≤a∧a<2*(T.af.length:Int):=by
 unfold bm fH at h
 obtain⟨b,hb,rfl⟩:=List.mem_map.1 h
 have:=(List.mem_filter.1 hb).1
 have:=List.mem_range.1 this
 simp;omega
theorem qm(T:ai)(D:List Bool)(n d:Int):Can Tryz.prog 109 [aP T,bf D,num n,num d] (· =ep (cB T D n d) (bL T D n.toNat d.toNat)):=by
 refine aF Tryz.func109 rfl Tryz.ntmps109 rfl<|ab (.a 3 rfl<|.k [1,2,3,4] rfl)<|ab (.a 4 rfl<|.c rfl (sf T D n d) rfl<|.a 5 rfl<|.k [1,2,3,4,10,11] rfl)<|aj<|ab (.a 2 rfl<|.k [1,2,3,4,10,11,21] rfl)<|ah rfl (fun hc=>?_) (fun hc=>?_)
 ·have he:cB T D n d≠0:=of_decide_eq_true hc
  exact ab (.a 3 rfl<|.k [8,9] rfl)<|aq<|⟨_,_,aA.of rfl,aB.bG (an.cons aB.b9 (an.cons aB.pure an.nil)),by unfold ep;rw[if_neg he];rfl⟩
 ·have he:cB T D n d=0:=by have:=of_decide_eq_false hc;omega
  rw[he]
  obtain⟨hv,hf,hn,hd⟩:=fB he
  rw[aW]at hn hd
  obtain⟨n,rfl⟩:=Int.eq_ofNat_of_zero_le hn.1
  obtain⟨d,rfl⟩:=Int.eq_ofNat_of_zero_le hd.1
  have hll:=bN hv
  obtain⟨hb1,hb2⟩:=eo (D:=D) hv (dir:=false) hd.2
  refine ak<|fp mixed (by kernel_rfl) (.a 5 rfl<|.v [26,27] (fm rfl (nh T hll _)) rfl rfl<|.a 2 rfl<|.v [23,24,25,28,29,30] (fm rfl (re T D (bK T D d false) (bm T n) n d hv hf hb1 hb2 hn.2 hd.2 (fun a ha=>jM ha) (Nat.le_trans (dH T n _) (by omega)))) rfl rfl<|.a 2 rfl<|.k [8,9] rfl) ?_
  exact aq<|⟨_,_,aA.of rfl,aB.pure,rfl⟩
end PW
end Go.Proofs.YtnegbdpggideiaaGreatDoor
namespace Go.Proofs.YtnegbdpggideiaaGreatDoor
namespace PW
open Go.RowKit cA Mem Net
structure bW where
 kind:Int
 num:Int
deriving DecidableEq
structure iw where
 aK:List Int
 rep:Bool
 push:List bW
structure dR where
 node:Int
 eV:List iw
 down:List Int
def ja(s:bW):List PV:=[num s.kind,num s.num]
def tB(s:bW):PV:=.agg (ja s)
def eC(l:List bW):List PV:=l.flatMap ja
def cn(l:List bW):PV:=.slice l.length (eC l)
def jR(e:iw):List PV:=[ax e.aK,flag e.rep,cn e.push]
def ua(e:iw):PV:=.agg (jR e)
def dq(l:List iw):List PV:=l.flatMap jR
def jq(l:List iw):PV:=.slice l.length (dq l)
def fL(t:dR):List PV:=[num t.node,jq t.eV,ax t.down]
def fA(t:dR):PV:=.agg (fL t)
def mj(l:List dR):List PV:=l.flatMap fL
def fR(l:List dR):PV:=.slice l.length (mj l)
instance (s:bW):aG (ja s):=by unfold ja;infer_instance
instance (s:bW):cq (ja s):=by unfold ja;infer_instance
instance (s:bW):IsPure (tB s):=by unfold tB;infer_instance
instance (l:List bW):aG (eC l):=aG.flatMap _ _ fun _=>inferInstance
instance (l:List bW):cq (eC l):=cq.flatMap _ _ fun _=>inferInstance
instance (l:List bW):IsPure (cn l):=by unfold cn;infer_instance
instance (l:List bW):eM (cn l):=by unfold cn;infer_instance
instance (e:iw):aG (jR e):=by unfold jR;infer_instance
instance (e:iw):cq (jR e):=by unfold jR;infer_instance
instance (e:iw):IsPure (ua e):=by unfold ua;infer_instance
instance (l:List iw):aG (dq l):=aG.flatMap _ _ fun _=>inferInstance
instance (l:List iw):cq (dq l):=cq.flatMap _ _ fun _=>inferInstance
instance (l:List iw):IsPure (jq l):=by unfold jq;infer_instance
instance (l:List iw):eM (jq l):=by unfold jq;infer_instance
instance (t:dR):aG (fL t):=by unfold fL;infer_instance
instance (t:dR):cq (fL t):=by unfold fL;infer_instance
instance (t:dR):IsPure (fA t):=by unfold fA;infer_instance
instance (l:List dR):aG (mj l):=aG.flatMap _ _ fun _=>inferInstance
instance (l:List dR):cq (mj l):=cq.flatMap _ _ fun _=>inferInstance
instance (l:List dR):IsPure (fR l):=by unfold fR;infer_instance
instance (l:List dR):eM (fR l):=by unfold fR;infer_instance
theorem mw(l:List iw)(e:iw):dq l++jR e=dq (l++[e]):=by simp[dq]
theorem pF(l:List dR)(e:dR):mj l++fL e=mj (l++[e]):=by simp[mj]
theorem flat_get{α:Type}(f:α→List PV)(s:Nat)(hf:∀a,(f a).length=s):∀(l:List α) (i j:Nat) (a:α),l[i]? =some a→j<s→(l.flatMap f)[i*s+j]? =(f a)[j]?
 | [],i,j,a,h,_=>by simp at h
 |b::l,0,j,a,h,hj=>by
  simp at h;subst h
  rw[List.flatMap_cons,Nat.zero_mul,Nat.zero_add,List.getElem?_append_left (by rw[hf];exact hj)]
 |b::l,i+1,j,a,h,hj=>by
  have:=flat_get f s hf l i j a (by simpa using h) hj
  have e1:(i+1)*s=i*s+s:=Nat.succ_mul i s
  have e2:(i+1)*s+j - s=i*s+j:=by omega
  have e3:(f b).length≤(i+1)*s+j:=by rw[hf];omega
  rw[List.flatMap_cons,List.getElem?_append_right e3,hf,e2,this]
theorem jv{α:Type}(f:α→List PV)(s:Nat)(hf:∀a,(f a).length=s):∀(l:List α) (i:Nat) (a:α),l[i]? =some a→((l.flatMap f).drop (i*s)).take s=f a
 | [],i,a,h=>by simp at h
 |b::l,0,a,h=>by
  simp at h;subst h
  rw[List.flatMap_cons,Nat.zero_mul,List.drop_zero]
  exact List.take_left' (hf b)
 |b::l,i+1,a,h=>by
  have:=jv f s hf l i a (by simpa using h)
  have e1:(i+1)*s=s+i*s:=by rw[Nat.succ_mul];omega
  rw[List.flatMap_cons,e1,←List.drop_drop,List.drop_left' (hf b),this]
theorem Ds{α:Type}(f:α→List PV)(s:Nat)(hf:∀a,(f a).length=s)(l:List α):(l.flatMap f).length=l.length*s:=by
 induction l with
 |nil=>simp
 |cons a l ih=>rw[List.flatMap_cons,List.length_append,ih,hf,List.length_cons,Nat.succ_mul];omega
theorem vw(l:List iw)(i j:Nat)(e:iw)(h:l[i]? =some e)(hj:j<3):(dq l)[i*3+j]? =(jR e)[j]? :=flat_get jR 3 (fun _=>rfl) l i j e h hj
theorem ov(l:List iw)(i:Nat)(e:iw)(h:l[i]? =some e):((dq l).drop (i*3)).take 3=jR e:=jv jR 3 (fun _=>rfl) l i e h
theorem uB(l:List bW)(i j:Nat)(e:bW)(h:l[i]? =some e)(hj:j<2):(eC l)[i*2+j]? =(ja e)[j]? :=flat_get ja 2 (fun _=>rfl) l i j e h hj
theorem iC(l:List bW)(i:Nat)(e:bW)(h:l[i]? =some e):((eC l).drop (i*2)).take 2=ja e:=jv ja 2 (fun _=>rfl) l i e h
theorem rn(l:List dR)(i:Nat)(e:dR)(h:l[i]? =some e):((mj l).drop (i*3)).take 3=fL e:=jv fL 3 (fun _=>rfl) l i e h
theorem DO{P:Program}{σ:cd}{t:bZ}{o:Oper}{p q:PV}(h:bg P σ t o p)(hl:jK p q):bg P σ t o q:=fun F base E ρ w hρ hS hT=>by
 have:=h F base E ρ w hρ hS hT
 generalize (execOp ρ o).run P w=x at*
 cases x with
 |ok n w'=>
  cases n with
  |value v=>exact⟨this.1,hl _ _ _ this.2⟩
  |skip=>exact⟨this.1,hl _ _ _ this.2⟩
  |enter f args=>exact⟨this.1,Calls.mono this.2 (fun e w'' ⟨x,h1,h2,h3⟩=>⟨x,h1,h2,hl _ _ _ h3⟩)⟩
  |_=>exact this
 |halt x w'=>exact this
def Aw(xs ys:List PV):Prop:=xs.length=ys.length∧∀(i:Nat) x y,xs[i]? =some x→ys[i]? =some y→jK x y
theorem Aw.nil:Aw [] []:=⟨rfl,fun i x y h=>by simp at h⟩
theorem Aw.cons{x y:PV}{xs ys:List PV}(h:jK x y)(hs:Aw xs ys):Aw (x::xs) (y::ys):=⟨by simp[hs.1],fun j a b h1 h2=>by
 cases j with
 |zero=>simp at h1 h2;subst h1;subst h2;exact h
 |succ j=>exact hs.2 j a b (by simpa using h1) (by simpa using h2)⟩
theorem jK.jb{xs ys:List PV}(h:Aw xs ys):jK (.agg xs) (.agg ys):=fun E w v hv=>by
 cases hv with
 |agg cs _ hl hr=>exact .agg cs ys (hl.trans h.1) (fun i c u h1 h2=>by
   have hi:i<xs.length:=by rw[h.1];exact(List.getElem?_eq_some_iff.1 h2).1
   exact h.2 i xs[i] u (by simp[hi]) h2 E w c (hr i c _ h1 (by simp[hi])))
noncomputable def nF(T:ai)(D:List Bool)(n k:Nat):List iw:=(List.range k).map fun d=>⟨bL T D n d,false,[]⟩
def cG(D:List Bool)(l:List Int):List Int:=l.filter fun a=>aX D a.toNat
noncomputable def dV(T:ai)(D:List Bool)(n:Nat):dR:=⟨n,nF T D n T.nodes.toNat,cG D (bm T n)⟩
noncomputable def gC(T:ai)(D:List Bool)(n:Int):dR:=if cO T D [n]=0 then dV T D n.toNat else⟨0,[],[]⟩
theorem vq(T:ai)(D:List Bool)(n k:Nat):nF T D n (k+1)=nF T D n k++[⟨bL T D n k,false,[]⟩]:=by simp[nF,List.range_succ]
theorem tM(T:ai)(D:List Bool)(n k:Nat):(nF T D n k).length=k:=by simp[nF]
end PW
end Go.Proofs.YtnegbdpggideiaaGreatDoor
namespace Go.Proofs.YtnegbdpggideiaaGreatDoor
namespace PW
open Go.RowKit cA Mem Net
end PW
end Go.Proofs.YtnegbdpggideiaaGreatDoor
namespace Go.Proofs.YtnegbdpggideiaaGreatDoor
namespace PW
open Go.RowKit cA Mem Net
theorem Ck(T:ai)(hv:ao T=true)(n:Int):Can Tryz.prog 61 [aP T,num n] (· =ax (bm T n)):=by
 have hll:=bN hv
 refine aF Tryz.func61 rfl Tryz.ntmps61 rfl<|ab (.a 2 rfl<|.k [1,2] rfl)<|ab (.a 1 rfl<|.k [1,2,5] rfl)<|dW 5 3 1 rfl ?_
 refine aj<|ab (.a 1 rfl<|.k [1,2,5,6] rfl)<|av<|eZ [1,2,5,6] rfl<|bw (fun r s=>∃k,k≤2*T.af.length∧r=2*T.af.length - k∧s=⟨[(1,num n),(2,.aV (bx T) 0),(5,.own 0),(6,num k)],[some (.row 3 1 (fH T n k).length (aN (fH T n k)))]⟩) (2*T.af.length) ⟨0,by omega,by omega,rfl⟩ ?_
 rintro r s ⟨k,hk,rfl,rfl⟩
 refine aj<|ab (.a 2 rfl<|.c rfl (nZ T hv) rfl<|.a 1 rfl<|.k [1,2,5,6,10] rfl)<|ah rfl (fun hc=>?_) (fun hc=>?_)
 ·have hlt:k<2*T.af.length:=by have:=of_decide_eq_true hc;omega
  have hlen:=dH T n k
  refine ak<|aj<|av<|ab (.a 2 rfl<|.c rfl (pq T hv k hlt) rfl<|.a 2 rfl<|.k [1,2,5,6,17] rfl)<|ah rfl (fun hc=>?_) (fun hc=>?_)
  ·have hst:=sk T n k (by simpa using of_decide_eq_true hc)
   refine ba<|au 3 rfl<|ca (aY rfl (bE.rk.get rfl) rfl rfl rfl rfl (by unfold maxLen;omega)) rfl<|au 1 rfl ?_
   refine cE [1] (.c 1<|.c 2<|.c 5<|.c 6<|.nil) (.kept rfl (.dr rfl (bT _ _))<|.nil) rfl rfl (aO ?_)
   refine ay (.a 1 rfl<|.v (aR rfl) rfl<|.a 1 rfl<|.k [1,2,5,6] rfl) ?_
   refine⟨2*T.af.length - (k+1),by omega,k+1,by omega,rfl,?_⟩
   rw[hst]
   first
    |rfl
    |(simp only[List.length_append,List.length_singleton];rfl)
  ·have hst:=uY T n k (by simpa using of_decide_eq_false hc)
   refine ak<|ay (.a 1 rfl<|.v (aR rfl) rfl<|.a 1 rfl<|.k [1,2,5,6] rfl) ?_
   refine⟨2*T.af.length - (k+1),by omega,k+1,by omega,rfl,?_⟩
   rw[hst]
   first
    |rfl
    |(simp only[List.length_append,List.length_singleton];rfl)
 ·have hke:k=2*T.af.length:=by have:=of_decide_eq_false hc;omega
  subst hke
  exact bn<|ab (.a 2 rfl<|.k [4] rfl)<|aq<|⟨_,_,aA.of rfl,aB.ey rfl an.pure,rfl⟩
end PW
end Go.Proofs.YtnegbdpggideiaaGreatDoor
namespace Go.Proofs.YtnegbdpggideiaaGreatDoor
namespace PW
open Go.RowKit cA Mem Net
end PW
end Go.Proofs.YtnegbdpggideiaaGreatDoor
namespace Go.Proofs.YtnegbdpggideiaaGreatDoor
namespace PW
open Go.RowKit cA Mem Net
theorem AN(a b c d:Int)(w:World):(Op.equalIn 10000 103 (.agg #[.int .i64 a,.int .i64 b]) (.agg #[.int .i64 c,.int .i64 d])).run Tryz.prog w= .ok (a==c&&b==d) w:=by
 have u3:=Tryz.underlying3
 have a3:=Tryz.isAgg3
 have z3:=Tryz.sizeOf3
 have hS:Tryz.prog.underlying 103=some (.struct (Tryz.prog.fieldsOf 103)):=by kernel_rfl
 rw[show(10000:Nat)=9999+1 from rfl,run_equalIn_agg w 9999 103 _ _ hS (by kernel_rfl)]
 simp only[Program.fieldsOf,Tryz.underlying103]
 go_simp
 by_cases h1:a=c<;>by_cases h2:b=d<;>simp[h1,h2]
theorem yX{E:Env}{w:World}{v:Value}{s:bW}(h:cz E w v (tB s)):v= .agg #[.int .i64 s.kind,.int .i64 s.num]:=by
 unfold tB ja at h
 cases h with
 |agg cs _ hl hr=>
  obtain⟨l⟩:=cs
  match l,hl,hr with
  | [x,y],_,hr=>
   have h0:=dE (hr 0 x _ rfl rfl)
   have h1:=dE (hr 1 y _ rfl rfl)
   subst h0;subst h1;rfl
  | [],hl,_=>simp at hl
  | [_],hl,_=>simp at hl
  |_::_::_::_,hl,_=>simp at hl
theorem Db{σ:cd}{t:bZ}{o:Oper}{x y:Operand}{tz:TypeId}{a b:bW}{q:Bool}(ho:o.op= .binOp .eql 103 x y tz)(hx:aC t x=some (tB a))(hy:aC t y=some (tB b))(hq:decide (a=b)=q):bg Tryz.prog σ t o (.raw (.bool q)):=by
 intro F base E ρ w hρ _ hT
 have h1:=yX (aw hρ hT hx)
 have h2:=yX (aw hρ hT hy)
 have hb:(a.kind==b.kind&&a.num==b.num)=q:=by
  rw[←hq]
  obtain⟨a1,a2⟩:=a
  obtain⟨b1,b2⟩:=b
  by_cases e1:a1=b1<;>by_cases e2:a2=b2<;>simp[e1,e2]
 simp only[execOp,ho,h1,h2,Sem.run_bind,run_eqGuard_agg w _ _ _ _ _ _ (show Tryz.prog.eqGuardType Tryz.prog.depth 103=false by kernel_rfl),Result.andThen_ok,run_eql_struct,AN,Sem.run_pure,hb]
 exact bd (.raw _)
end PW
end Go.Proofs.YtnegbdpggideiaaGreatDoor
namespace Go.Proofs.YtnegbdpggideiaaGreatDoor
namespace PW
open Go.RowKit cA Mem Net
deriving instance DecidableEq for iw
deriving instance DecidableEq for dR
theorem FI{E:Env}{w:World}{v:Value}{x:dR}(h:cz E w v (fA x)):x.eV.length≤maxLen∧x.down.length≤maxLen:=by
 unfold fA fL at h
 cases h with
 |agg cs _ hl hr=>
  have hr:aU E w cs.toList _:=⟨by simpa using hl,fun i x u h1 h2=>hr i x u (by simpa using h1) h2⟩
  obtain⟨v1,_,h1⟩:=hr.get (i:=1) rfl
  obtain⟨v2,_,h2⟩:=hr.get (i:=2) rfl
  exact⟨lP h1,lP h2⟩
end PW
end Go.Proofs.YtnegbdpggideiaaGreatDoor
