/- Texts of the proof, part 5. -/
import Derived.WideShapes
import Derived.Test.YtnegbdpggideiaaGreatDoorCardMMB4
set_option linter.unusedVariables false
set_option linter.unusedSimpArgs false
set_option maxRecDepth 10000
set_option maxHeartbeats 1000000
namespace Go.Proofs.YtnegbdpggideiaaGreatDoor
namespace PW
open Go.RowKit cB Mem Net
theorem eD(n lo hi:Int):Can Tryz.prog 116 [num n,num lo,num hi] (· =flag (bR n lo hi)):=by
 obtain⟨p1,hp1⟩:∃q,decide (lo≤n)=q:=⟨_,rfl⟩
 obtain⟨p2,hp2⟩:∃q,decide (n≤hi)=q:=⟨_,rfl⟩
 have he:bR n lo hi=(p1&&p2):=by rw[←hp1,←hp2];unfold bR;exact Bool.decide_and _ _
 rw[he]
 refine aE Tryz.func116 rfl Tryz.ntmps116 rfl<|ab (.a 1 rfl<|.k [0,1,2] rfl)<|bp 6 (.raw (.bool (p1&&p2))) [] rfl ?_ ?_
 ·refine .a 2 rfl<|.v (cb rfl (hp1)) rfl<|.a 1 rfl<|?_
  cases p1
  ·exact .a 5 rfl<|.k [6] rfl
  ·exact .a 2 rfl<|.v (cb rfl (hp2)) rfl<|.a 2 rfl<|.k [6] rfl
 exact aq<|⟨_,_,ay.of rfl,aB.pure,rfl⟩
set_option maxHeartbeats 2000000 in
theorem gG(T:ai):Can Tryz.prog 58 [aP T] (· =flag (ao T)):=by
  obtain⟨p0,hp0⟩:∃q,bR T.nodes 1 64=q:=⟨_,rfl⟩
  obtain⟨p1,hp1⟩:∃q,decide ((T.over.length:Int)≠0)=q:=⟨_,rfl⟩
  obtain⟨p2,hp2⟩:∃q,decide ((T.over.length:Int)≠T.nodes)=q:=⟨_,rfl⟩
  obtain⟨p3,hp3⟩:∃q,decide (256<(T.af.length:Int))=q:=⟨_,rfl⟩
  have hw:Can Tryz.prog 116 [num T.nodes,num 1,num 64] (· =flag p0):=by rw[←hp0];exact eD _ _ _
  refine aE Tryz.func58 rfl Tryz.ntmps58 rfl<|ab (.a 2 rfl<|.k [1] rfl)<|aj<|bp 28 (.raw (.bool (((!p0)||(p1&&p2))||p3))) [1] rfl ?_ ?_
  · refine .a 2 rfl<|.c rfl (hw) rfl<|.a 2 rfl<|?_
    cases p0
    · exact .a 19 rfl<|.k [28,1] rfl
    · refine .a 3 rfl<|.v (cb rfl (hp1)) rfl<|.a 1 rfl<|?_
      cases p1
      · exact .a 12 rfl<|.v (cb rfl (hp3)) rfl<|.a 1 rfl<|.k [28,1] rfl
      · refine .a 5 rfl<|.v (cb rfl (hp2)) rfl<|.a 3 rfl<|?_
        cases p2
        · exact .a 3 rfl<|.v (cb rfl (hp3)) rfl<|.a 1 rfl<|.k [28,1] rfl
        · exact .a 5 rfl<|.k [28,1] rfl
  refine ah rfl (fun hc=>?_) (fun hc=>?_)
  · have hv:ao T=false:=by
      rcases Bool.or_eq_true_iff.1 hc with h|h
      · rcases Bool.or_eq_true_iff.1 h with h|h
        · exact(gH T (.inl (by rw[hp0];simpa using h))).symm
        · obtain⟨a1,a2⟩:=Bool.and_eq_true_iff.1 h
          rw[a1]at hp1
          rw[a2]at hp2
          exact(gH T (.inr (.inr ⟨by have:=tt hp1;omega,tt hp2⟩))).symm
      · rw[h]at hp3;exact(gH T (.inr (.inl (by have:=tt hp3;omega)))).symm
    rw[hv]
    exact ab (.a 1 rfl<|.k [2] rfl)<|aq<|⟨_,_,ay.of rfl,aB.pure,rfl⟩
  · obtain ⟨c1, c2⟩ := Bool.or_eq_false_iff.1 hc
    obtain⟨c1,c3⟩:=Bool.or_eq_false_iff.1 c1
    have h0:p0=true:=by simpa using c1
    rw[h0]at hp0
    rw[c2]at hp3
    have hle:T.af.length≤256:=by have:=ff hp3;omega
    have hov:T.over.length=0∨(T.over.length:Int)=T.nodes:=by
      rcases Bool.and_eq_false_iff.1 c3 with h|h
      · rw[h]at hp1;exact .inl (by have:=ff hp1;omega)
      · rw[h]at hp2;exact .inr (by have:=ff hp2;omega)
    rw[qy T hp0 hle hov]
    have hnd:=nR hp0
    clear hw hc c1 c3 hp1 hp2
    refine ak<|aj<|ab (.a 1 rfl<|.k [1,3] rfl)<|av<|ft [1,3] rfl<|br (fun r s=>∃k,k≤T.af.length∧r=T.af.length - k∧(T.af.take k).all (ia T)=true∧s=⟨[(1,.aX (bx T) 0),(3,num k)],[]⟩) T.af.length ⟨0,by omega,by omega,by simp,rfl⟩ ?_
    rintro r s ⟨k,hk,rfl,hall,rfl⟩
    refine aj<|ab (.a 5 rfl<|.k [1,3,33] rfl)<|ah rfl (fun hc=>?_) (fun hc=>?_)
    · have hlt:k<T.af.length:=by have:=tt hc;omega
      obtain⟨q1,g1⟩:∃q,decide ((cu T.af k).a=(cu T.af k).b)=q:=⟨_,rfl⟩
      obtain⟨q2,g2⟩:∃q,bn T (cu T.af k).a=q:=⟨_,rfl⟩
      obtain⟨q3,g3⟩:∃q,bn T (cu T.af k).b=q:=⟨_,rfl⟩
      obtain⟨q4,g4⟩:∃q,bR (cu T.af k).c0 1 65535=q:=⟨_,rfl⟩
      obtain⟨q5,g5⟩:∃q,bR (cu T.af k).c1 1 65535=q:=⟨_,rfl⟩
      obtain⟨q6,g6⟩:∃q,bR (cu T.af k).cap 0 1048576=q:=⟨_,rfl⟩
      obtain⟨q7,g7⟩:∃q,bR (cu T.af k).fk 1 65536=q:=⟨_,rfl⟩
      obtain⟨q8,g8⟩:∃q,bR (cu T.af k).tm 0 64=q:=⟨_,rfl⟩
      have hOK:=sD (T:=T) (l:=cu T.af k) (q1:=q1) (by rw[←g1];exact Bool.eq_iff_iff.2 (by simp)) g2 g3 g4 g5 g6 g7 g8
      have hall':=vP (ia T) T.af k hlt
      have hno:=vg (ia T) T.af k hlt
      rw[hOK]at hall' hno
      have n2:=eD (cu T.af k).a 0 (T.nodes - 1)
      rw[o9,g2]at n2
      have n3:=eD (cu T.af k).b 0 (T.nodes - 1)
      rw[o9,g3]at n3
      have n4:=eD (cu T.af k).c0 1 65535
      rw[g4]at n4
      have n5:=eD (cu T.af k).c1 1 65535
      rw[g5]at n5
      have n6:=eD (cu T.af k).cap 0 1048576
      rw[g6]at n6
      have n7:=eD (cu T.af k).fk 1 65536
      rw[g7]at n7
      have n8:=eD (cu T.af k).tm 0 64
      rw[g8]at n8
      clear hOK g2 g3 g4 g5 g6 g7 g8
      refine ak<|aj<|av<|aQ<|au 3 rfl<|bE (aL (k*7) rfl) rfl<|bE (fU rfl (CK T.af k hlt) rfl) rfl<|au 2 rfl<|aH [1,3,4] rfl ?_
      refine fR 4 0 0 rfl rfl ?_
      refine cZ [] (.c 1<|.c 3<|.c 4 .nil) .nil rfl rfl ?_
      refine aj<|bp 77 (.raw (.bool (((((!q2)|| !q3)||q1)|| !q4)|| !q5))) [1,3,4] rfl ?_ ?_
      · refine .a 4 rfl<|.v (aS rfl) rfl<|.c rfl (n2) rfl<|.a 2 rfl<|?_
        cases q2
        · exact .a 29 rfl<|.k [77,1,3,4] rfl
        · refine .a 4 rfl<|.v (aS rfl) rfl<|.c rfl (n3) rfl<|.a 3 rfl<|?_
          cases q3
          · exact .a 20 rfl<|.k [77,1,3,4] rfl
          · refine .a 4 rfl<|.v (cb rfl (g1)) rfl<|.a 2 rfl<|?_
            cases q1
            · refine .a 1 rfl<|.v (aL (0) rfl) rfl<|.a 1 rfl<|.c rfl (n4) rfl<|.a 3 rfl<|?_
              cases q4
              · exact .a 6 rfl<|.k [77,1,3,4] rfl
              · exact .a 1 rfl<|.v (aL (1) rfl) rfl<|.a 1 rfl<|.c rfl (n5) rfl<|.a 2 rfl<|.k [77,1,3,4] rfl
            · exact .a 13 rfl<|.k [77,1,3,4] rfl
      refine ah rfl (fun hx=>?_) (fun hx=>?_)
      · have hno':=hno (by cases q1<;>cases q2<;>cases q3<;>cases q4<;>cases q5<;>simp_all)
        rw[hno']
        exact ab (.a 1 rfl<|.k [2] rfl)<|aq<|⟨_,_,ay.of rfl,aB.pure,rfl⟩
      · have e1:q1=false:=by cases q1<;>simp_all
        have e2:q2=true:=by cases q2<;>simp_all
        have e3:q3=true:=by cases q3<;>simp_all
        have e4:q4=true:=by cases q4<;>simp_all
        have e5:q5=true:=by cases q5<;>simp_all
        subst e1 e2 e3 e4 e5
        clear n2 n3 n4 n5 hx
        refine ak<|bp 93 (.raw (.bool (((!q6)|| !q7)|| !q8))) [1,3] rfl ?_ ?_
        · refine .a 2 rfl<|.c rfl (n6) rfl<|.a 2 rfl<|?_
          cases q6
          · exact .a 11 rfl<|.k [93,1,3] rfl
          · refine .a 2 rfl<|.c rfl (n7) rfl<|.a 3 rfl<|?_
            cases q7
            · exact .a 5 rfl<|.k [93,1,3] rfl
            · exact .a 2 rfl<|.c rfl (n8) rfl<|.a 2 rfl<|.k [93,1,3] rfl
        refine ah rfl (fun hx=>?_) (fun hx=>?_)
        · have hno':=hno (by cases q6<;>cases q7<;>cases q8<;>simp_all)
          rw[hno']
          exact ab (.a 1 rfl<|.k [2] rfl)<|aq<|⟨_,_,ay.of rfl,aB.pure,rfl⟩
        · have e1:q6=true:=by cases q6<;>simp_all
          have e2:q7=true:=by cases q7<;>simp_all
          have e3:q8=true:=by cases q8<;>simp_all
          subst e1 e2 e3
          clear n6 n7 n8 hx
          refine ak<|az (.a 1 rfl<|.v (aS rfl) rfl<|.a 1 rfl<|.k [1,3] rfl) ?_
          exact⟨T.af.length - (k+1),by omega,k+1,by omega,rfl,by rw[hall',hall];rfl,rfl⟩
    · have hke:k=T.af.length:=by have:=ff hc;omega
      subst hke
      rw[List.take_length]at hall
      rw[hall]
      exact bg<|ab (.a 1 rfl<|.k [2] rfl)<|aq<|⟨_,_,ay.of rfl,aB.pure,rfl⟩
theorem oM(T:ai)(hv:ao T=true):Can Tryz.prog 94 [aP T] (· =num (2*(T.af.length:Int))):=by
 have hll:=bO hv
 have h:=gG T
 rw[hv]at h
 refine aE Tryz.func94 rfl Tryz.ntmps94 rfl<|ab (.a 2 rfl<|.k [1] rfl)<|aj<|ab (.a 1 rfl<|.c rfl (h) rfl<|.a 1 rfl<|.k [1,5] rfl)<|ah rfl (fun hc=>?_) (fun hc=>?_)
 ·cases hc
 ·exact ak<|ab (.a 3 rfl<|.v (aS rfl) rfl<|.a 1 rfl<|.k [2] rfl)<|aq<|⟨_,_,ay.of rfl,aB.pure,rfl⟩
theorem rI{T:ai}{a:Int}{p1 p2:Bool}(hp1:decide (a<0)=p1)(hp2:decide (2*(T.af.length:Int)≤a)=p2)(hc:(p1||p2)=true):¬(0≤a∧a<2*(T.af.length:Int)):=by
 rcases Bool.or_eq_true_iff.1 hc with h|h
 ·rw[h]at hp1;have:=tt hp1;omega
 ·rw[h]at hp2;have:=tt hp2;omega
theorem oH{T:ai}{a:Int}{p1 p2:Bool}(hp1:decide (a<0)=p1)(hp2:decide (2*(T.af.length:Int)≤a)=p2)(hc:(p1||p2)=false):0≤a∧a<2*(T.af.length:Int):=by
 obtain⟨h1,h2⟩:=Bool.or_eq_false_iff.1 hc
 rw[h1]at hp1
 rw[h2]at hp2
 have:=ff hp1
 have:=ff hp2
 omega
theorem sw(T:ai)(hv:ao T=true)(a:Int):Can Tryz.prog 39 [aP T,num a] (· =num (xe T a)):=by
 have hll:=bO hv
 obtain⟨p1,hp1⟩:∃q,decide (a<0)=q:=⟨_,rfl⟩
 obtain⟨p2,hp2⟩:∃q,decide (2*(T.af.length:Int)≤a)=q:=⟨_,rfl⟩
 refine aE Tryz.func39 rfl Tryz.ntmps39 rfl<|ab (.a 2 rfl<|.k [1,2] rfl)<|aj<|av<|bp 5 (.raw (.bool (p1||p2))) [1,2] rfl ?_ ?_
 ·refine .a 1 rfl<|.v (cb rfl (hp1)) rfl<|.a 1 rfl<|?_
  cases p1
  ·exact .a 2 rfl<|.c rfl (oM T hv) rfl<|.v (cb rfl (hp2)) rfl<|.a 2 rfl<|.k [5,1,2] rfl
  ·exact .a 6 rfl<|.k [5,1,2] rfl
 refine ah rfl (fun hc=>?_) (fun hc=>?_)
 ·unfold xe
  rw[if_neg (rI hp1 hp2 hc)]
  exact ab (.a 1 rfl<|.k [4] rfl)<|aq<|⟨_,_,ay.of rfl,aB.pure,rfl⟩
 ·have hy:=oH hp1 hp2 hc
  unfold xe
  rw[if_pos hy]
  clear hp1 hp2 hc
  obtain⟨a,rfl⟩:=Int.eq_ofNat_of_zero_le hy.1
  have hi:a / 2<T.af.length:=by omega
  unfold bb
  rw[Int.toNat_natCast]
  refine ab (.a 1 rfl<|.v (qM rfl rfl rfl (by decide) (Ds a)) rfl<|.a 2 rfl<|.k [1,2,14] rfl)<|ah rfl (fun hc=>?_) (fun hc=>?_)
  ·have h2:a % 2=0:=by have:=tt hc;omega
   rw[if_pos h2]
   exact ab (.a 3 rfl<|.v (iA rfl rfl rfl (by decide) (yV a) (by unfold In64;omega)) rfl<|.v (aL (a / 2*7) rfl) rfl<|.a 1 rfl<|.v (aN rfl (eu T.af (a / 2) 0 hi (by omega))) rfl<|.a 1 rfl<|.k [4] rfl)<|aq<|⟨_,_,ay.of rfl,aB.pure,rfl⟩
  ·have h2:¬a % 2=0:=by have:=ff hc;omega
   rw[if_neg h2]
   exact ak<|ab (.a 3 rfl<|.v (iA rfl rfl rfl (by decide) (yV a) (by unfold In64;omega)) rfl<|.v (aL (a / 2*7) rfl) rfl<|.a 1 rfl<|.v (aN rfl (eu T.af (a / 2) 1 hi (by omega))) rfl<|.a 1 rfl<|.k [4] rfl)<|aq<|⟨_,_,ay.of rfl,aB.pure,rfl⟩
theorem G0(a:Nat):(((a / 2:Nat):Int)*2+1) - ((a % 2:Nat):Int)=((Net.flip a:Nat):Int):=by unfold Net.flip;split<;>omega
theorem BF(T:ai)(hv:ao T=true)(a:Int):Can Tryz.prog 41 [aP T,num a] (· =num (vV T a)):=by
 have hll:=bO hv
 obtain⟨p1,hp1⟩:∃q,decide (a<0)=q:=⟨_,rfl⟩
 obtain⟨p2,hp2⟩:∃q,decide (2*(T.af.length:Int)≤a)=q:=⟨_,rfl⟩
 refine aE Tryz.func41 rfl Tryz.ntmps41 rfl<|ab (.a 2 rfl<|.k [1,2] rfl)<|aj<|bp 12 (.raw (.bool (p1||p2))) [1,2] rfl ?_ ?_
 ·refine .a 1 rfl<|.v (cb rfl (hp1)) rfl<|.a 1 rfl<|?_
  cases p1
  ·exact .a 2 rfl<|.c rfl (oM T hv) rfl<|.v (cb rfl (hp2)) rfl<|.a 1 rfl<|.k [12,1,2] rfl
  ·exact .a 5 rfl<|.k [12,1,2] rfl
 refine ah rfl (fun hc=>?_) (fun hc=>?_)
 ·unfold vV
  rw[if_neg (rI hp1 hp2 hc)]
  exact ab (.a 1 rfl<|.k [4] rfl)<|aq<|⟨_,_,ay.of rfl,aB.pure,rfl⟩
 ·have hy:=oH hp1 hp2 hc
  unfold vV
  rw[if_pos hy]
  clear hp1 hp2 hc
  obtain⟨a,rfl⟩:=Int.eq_ofNat_of_zero_le hy.1
  rw[Int.toNat_natCast]
  have ht:=sw T hv ((Net.flip a:Nat):Int)
  rw[sR T (Net.flip a) (by unfold Net.flip;split<;>omega)]at ht
  exact ak<|ab (.a 2 rfl<|.v (iA rfl rfl rfl (by decide) (yV a) (by unfold In64;omega)) rfl<|.v (aS rfl) rfl<|.v (aS rfl) rfl<|.a 1 rfl<|.v (qM rfl rfl rfl (by decide) (Ds a)) rfl<|.v (aS rfl (hc:=G0 a) (hn:=by unfold In64 Net.flip;split<;>omega)) rfl<|.c rfl (ht) rfl<|.a 1 rfl<|.k [4] rfl)<|aq<|⟨_,_,ay.of rfl,aB.pure,rfl⟩
theorem AM(T:ai)(hv:ao T=true)(a:Int):Can Tryz.prog 42 [aP T,num a] (· =num (u4 T a)):=by
 have hll:=bO hv
 obtain⟨p1,hp1⟩:∃q,decide (a<0)=q:=⟨_,rfl⟩
 obtain⟨p2,hp2⟩:∃q,decide (2*(T.af.length:Int)≤a)=q:=⟨_,rfl⟩
 refine aE Tryz.func42 rfl Tryz.ntmps42 rfl<|ab (.a 2 rfl<|.k [1,2] rfl)<|aj<|bp 12 (.raw (.bool (p1||p2))) [1,2] rfl ?_ ?_
 ·refine .a 1 rfl<|.v (cb rfl (hp1)) rfl<|.a 1 rfl<|?_
  cases p1
  ·exact .a 2 rfl<|.c rfl (oM T hv) rfl<|.v (cb rfl (hp2)) rfl<|.a 1 rfl<|.k [12,1,2] rfl
  ·exact .a 5 rfl<|.k [12,1,2] rfl
 refine ah rfl (fun hc=>?_) (fun hc=>?_)
 ·unfold u4
  rw[if_neg (rI hp1 hp2 hc)]
  exact ab (.a 1 rfl<|.k [4] rfl)<|aq<|⟨_,_,ay.of rfl,aB.pure,rfl⟩
 ·have hy:=oH hp1 hp2 hc
  unfold u4
  rw[if_pos hy]
  clear hp1 hp2 hc
  obtain⟨a,rfl⟩:=Int.eq_ofNat_of_zero_le hy.1
  rw[Int.toNat_natCast]
  exact ak<|ab (.a 3 rfl<|.v (iA rfl rfl rfl (by decide) (yV a) (by unfold In64;omega)) rfl<|.a 1 rfl<|.v (qM rfl rfl rfl (by decide) (Ds a)) rfl<|.v (aL (a / 2*7) rfl) rfl<|.a 1 rfl<|.v (aL (a % 2) rfl) rfl<|.v (aN rfl (wD T a (by omega))) rfl<|.a 1 rfl<|.k [4] rfl)<|aq<|⟨_,_,ay.of rfl,aB.pure,rfl⟩
theorem gC(T:ai)(hv:ao T=true)(a:Nat)(ha:a<2*T.af.length):Can Tryz.prog 39 [aP T,num a] (· =num (bb T a)):=by rw[←sR T a ha];exact sw T hv a
theorem gJ(T:ai)(hv:ao T=true)(a:Nat)(ha:a<2*T.af.length):Can Tryz.prog 41 [aP T,num a] (· =num (aT T a)):=by rw[←BL T a ha];exact BF T hv a
theorem mZ(T:ai)(hv:ao T=true)(a:Nat)(ha:a<2*T.af.length):Can Tryz.prog 42 [aP T,num a] (· =num (ca T a)):=by rw[←AE T a ha];exact AM T hv a
theorem Az(T:ai)(hv:ao T=true)(n:Nat):Can Tryz.prog 62 [aP T,num n] (· =flag (cR T n)):=by
 have h:=gG T
 rw[hv]at h
 obtain⟨p1,hp1⟩:∃q,decide ((n:Int)<(T.over.length:Int))=q:=⟨_,rfl⟩
 obtain⟨p2,hp2⟩:∃q,T.over.getD n false=q:=⟨_,rfl⟩
 have he:cR T n=(p1&&p2):=by
  unfold cR
  cases p1
  ·have:=ff hp1
   rw[List.getD_eq_getElem?_getD,List.getElem?_eq_none (by omega)];rfl
  ·exact hp2
 rw[he]
 have h0:decide (0≤(n:Int))=true:=decide_eq_true (by omega)
 refine aE Tryz.func62 rfl Tryz.ntmps62 rfl<|ab (.a 2 rfl<|.k [1,2] rfl)<|bp 4 (.raw (.bool (p1&&p2))) [] rfl ?_ ?_
 ·refine .a 1 rfl<|.c rfl (h) rfl<|.a 2 rfl<|.v (cb rfl h0) rfl<|.a 6 rfl<|.v (cb rfl (hp1)) rfl<|.a 2 rfl<|?_
  cases p1
  ·exact .a 7 rfl<|.k [4] rfl
  ·exact .a 3 rfl<|.v (aL (n) rfl (by omega) (by have:=tt hp1;omega)) rfl<|.v (aN rfl (show _=some (flag p2) by rw[cV _ n (by have:=tt hp1;omega),hp2])) rfl<|.a 2 rfl<|.k [4] rfl
 exact aq<|⟨_,_,ay.of rfl,aB.pure,rfl⟩
theorem zY(T:ai)(D:List Bool):Can Tryz.prog 134 [aP T,aY D] (· =flag (ao T&&bP T D)):=by
 obtain⟨p0,hp0⟩:∃q,ao T=q:=⟨_,rfl⟩
 have h:=gG T
 rw[hp0]at h
 obtain⟨p1,hp1⟩:∃q,decide ((D.length:Int)=0)=q:=⟨_,rfl⟩
 obtain⟨p2,hp2⟩:∃q,decide ((D.length:Int)=2*(T.af.length:Int))=q:=⟨_,rfl⟩
 have he:bP T D=(p1||p2):=by rw[←hp1,←hp2];unfold bP;rw[←Bool.decide_or];exact decide_eq_decide.2 (by omega)
 rw[he,hp0]
 refine aE Tryz.func134 rfl Tryz.ntmps134 rfl<|ab (.a 2 rfl<|.k [1,2] rfl)<|bp 4 (.raw (.bool (p0&&(p1||p2)))) [] rfl ?_ ?_
 ·refine .a 1 rfl<|.c rfl (h) rfl<|.a 1 rfl<|?_
  cases p0
  ·exact .a 14 rfl<|.k [4] rfl
  ·refine .a 2 rfl<|.v (cb rfl (hp1)) rfl<|.a 1 rfl<|?_
   cases p1
   ·exact .a 5 rfl<|.v (aS rfl (hn:=by have:=bO hp0;unfold In64;omega)) rfl<|.v (cb rfl (hp2)) rfl<|.a 3 rfl<|.k [4] rfl
   ·exact .a 10 rfl<|.k [4] rfl
 exact aq<|⟨_,_,ay.of rfl,aB.pure,rfl⟩
theorem ua(D:List Bool)(a:Nat)(ha:D.length=0∨a<D.length):Can Tryz.prog 40 [aY D,num a] (· =flag (!aM D a)):=by
 obtain⟨p1,hp1⟩:∃q,decide ((D.length:Int)=0)=q:=⟨_,rfl⟩
 obtain⟨p2,hp2⟩:∃q,D.getD a false=q:=⟨_,rfl⟩
 have he:(!aM D a)=(p1|| !p2):=by
  rw[zQ (p1:= !p1) (by rw[←hp1];rw[←decide_not];exact decide_eq_decide.2 (by omega)) hp2]
  cases p1<;>cases p2<;>rfl
 rw[he]
 refine aE Tryz.func40 rfl Tryz.ntmps40 rfl<|ab (.a 1 rfl<|.k [0,1] rfl)<|bp 4 (.raw (.bool (p1|| !p2))) [] rfl ?_ ?_
 ·refine .a 2 rfl<|.v (cb rfl (hp1)) rfl<|.a 1 rfl<|?_
  cases p1
  ·exact .a 2 rfl<|.v (aL (a) rfl (by omega) (by have:=ff hp1;omega)) rfl<|.v (aN rfl (show _=some (flag p2) by rw[cV _ a (by have:=ff hp1;omega),hp2])) rfl<|.a 3 rfl<|.k [4] rfl
  ·exact .a 7 rfl<|.k [4] rfl
 exact aq<|⟨_,_,ay.of rfl,aB.pure,rfl⟩
theorem kp(T:ai)(hv:ao T=true)(n d:Nat):Can Tryz.prog 97 [aP T,num n,num d] (· =flag (decide (n=d)|| !cR T n)):=by
 obtain⟨p1,hp1⟩:∃q,decide ((n:Int)=(d:Int))=q:=⟨_,rfl⟩
 obtain⟨p2,hp2⟩:∃q,cR T n=q:=⟨_,rfl⟩
 have he:decide (n=d)=p1:=by rw[←hp1];exact decide_eq_decide.2 (by omega)
 have h:=Az T hv n
 rw[hp2]at h
 rw[he,hp2]
 refine aE Tryz.func97 rfl Tryz.ntmps97 rfl<|ab (.a 2 rfl<|.k [1,2,3] rfl)<|bp 6 (.raw (.bool (p1|| !p2))) [] rfl ?_ ?_
 ·refine .a 2 rfl<|.v (cb rfl (hp1)) rfl<|.a 1 rfl<|?_
  cases p1
  ·exact .a 2 rfl<|.c rfl (h) rfl<|.a 3 rfl<|.k [6] rfl
  ·exact .a 6 rfl<|.k [6] rfl
 exact aq<|⟨_,_,ay.of rfl,aB.pure,rfl⟩
theorem AN(L M:List Int):Can Tryz.prog 35 [aw L,aw M] (· =flag (mz L M)):=by
 refine pI fun⟨E,w,vs,hR⟩=>?_
 obtain⟨v,_,hv⟩:=hR.get (i:=0) rfl
 have hm:=ml hv
 unfold maxLen at hm
 refine aE Tryz.func35 rfl Tryz.ntmps35 rfl<|ab (.a 1 rfl<|.k [0,1] rfl)<|aj<|ab (.a 5 rfl<|.k [0,1,10] rfl)<|ah rfl (fun hc=>?_) (fun hc=>?_)
 ·rw[←C6 L M (by have:=tt hc;omega)]
  exact ab (.a 1 rfl<|.k [4] rfl)<|aq<|⟨_,_,ay.of rfl,aB.pure,rfl⟩
 ·have hlen:M.length=L.length:=by have:=ff hc;omega
  refine ak<|aj<|ab (.a 1 rfl<|.k [0,1,5] rfl)<|av<|ft [0,1,5] rfl<|br (fun r s=>∃k,k≤L.length∧r=L.length - k∧(∀i,i<k→L.getD i 0=M.getD i 0)∧s=⟨[(0,aw L),(1,aw M),(5,num k)],[]⟩) L.length ⟨0,by omega,by omega,fun i hi=>by omega,rfl⟩ ?_
  rintro r s ⟨k,hk,rfl,hall,rfl⟩
  refine aj<|ab (.a 4 rfl<|.k [0,1,5,14] rfl)<|ah rfl (fun hc=>?_) (fun hc=>?_)
  ·have hlt:k<L.length:=by have:=tt hc;omega
   refine ak<|aj<|av<|ei mixed (by kernel_rfl) (.a 2 rfl<|.v [17,18] (aL (k) rfl) rfl rfl<|.v [19] (aN rfl (aA L k hlt)) rfl rfl<|.a 2 rfl<|.v [21,22] (aL (k) rfl) rfl rfl<|.v [23] (aN rfl (aA M k (by omega))) rfl rfl<|.a 1 rfl<|.k [0,1,5,25] rfl) ?_
   refine ah rfl (fun hx=>?_) (fun hx=>?_)
   ·rw[←Fb L M k (tt hx)]
    exact ab (.a 1 rfl<|.k [4] rfl)<|aq<|⟨_,_,ay.of rfl,aB.pure,rfl⟩
   ·have hx':L.getD k 0=M.getD k 0:=by have:=ff hx;omega
    refine ak<|az (.a 1 rfl<|.v (aS rfl) rfl<|.a 1 rfl<|.k [0,1,5] rfl) ?_
    refine⟨L.length - (k+1),by omega,k+1,by omega,rfl,fun i hi=>?_,rfl⟩
    by_cases h:i=k
    ·rw[h];exact hx'
    ·exact hall i (by omega)
  ·have hke:k=L.length:=by have:=ff hc;omega
   rw[←C9 L M hlen (fun i hi=>hall i (by omega))]
   exact bg<|ab (.a 1 rfl<|.k [4] rfl)<|aq<|⟨_,_,ay.of rfl,aB.pure,rfl⟩
end PW
end Go.Proofs.YtnegbdpggideiaaGreatDoor
namespace Go.Proofs.YtnegbdpggideiaaGreatDoor
namespace Net
def fp(T:ai)(dir:Bool)(a:Nat):Int:=if dir then aT T a else bb T a
def cK(T:ai)(dir:Bool)(a:Nat):Int:=if dir then bb T a else aT T a
def at'(l:List Int)(x:Int):Int:=l.getD x.toNat (-1)
def Way(T:ai)(D:List Bool)(n:Nat)(dir:Bool)(out:List Int)(a:Nat):Prop:=
 aM D a=false∧0≤at' out (cK T dir a)∧(cK T dir a=(n:Int)∨cR T (cK T dir a).toNat=false)
structure ir (T:ai) (D:List Bool) (n:Nat) (dir:Bool) (out:List Int):Prop where
 len:(out.length:Int)=T.nodes
 root:at' out (n:Int)=0
 ge:∀x:Nat,(x:Int)<T.nodes→ -1≤at' out (x:Int)
 closed:∀a,a<2*T.af.length→Way T D n dir out a→0≤at' out (fp T dir a)∧at' out (fp T dir a)≤at' out (cK T dir a)+ca T a
 my:∀x:Nat,(x:Int)<T.nodes→0≤at' out (x:Int)→x=n∨∃a,a<2*T.af.length∧fp T dir a=(x:Int)∧Way T D n dir out a∧at' out (x:Int)=at' out (cK T dir a)+ca T a
structure Sound (T:ai):Prop where
 cost:∀a,a<2*T.af.length→1≤ca T a∧ca T a≤65535
 tail:∀a,a<2*T.af.length→0≤bb T a∧bb T a<T.nodes
 head:∀a,a<2*T.af.length→0≤aT T a∧aT T a<T.nodes
 nodes:1≤T.nodes∧T.nodes≤64
theorem Sound.x{T:ai}(h:Sound T)(dir:Bool)(a:Nat)(ha:a<2*T.af.length):0≤fp T dir a∧fp T dir a<T.nodes:=by
 unfold fp;cases dir
 ·exact h.tail a ha
 ·exact h.head a ha
theorem Sound.y{T:ai}(h:Sound T)(dir:Bool)(a:Nat)(ha:a<2*T.af.length):0≤cK T dir a∧cK T dir a<T.nodes:=by
 unfold cK;cases dir
 ·exact h.head a ha
 ·exact h.tail a ha
theorem uk{T:ai}(hT:Sound T){D:List Bool}{n:Nat}{dir:Bool}{out out':List Int}(h:ir T D n dir out)(h':ir T D n dir out'):
  ∀(k:Nat) (x:Nat),(x:Int)<T.nodes→at' out (x:Int)=(k:Int)→0≤at' out' (x:Int)∧at' out' (x:Int)≤at' out (x:Int):=by
 intro k
 induction k using Nat.strongRecOn with
 |_ k ih=>
  intro x hx hk
  rcases h.my x hx (by omega)with rfl|⟨a,ha,hax,⟨w1,w2,w3⟩,he⟩
  ·rw[h'.root];omega
  ·have hc:=hT.cost a ha
   obtain⟨y,hy⟩:=Int.eq_ofNat_of_zero_le (hT.y dir a ha).1
   have hyn:=(hT.y dir a ha).2
   rw[hy]at w2 w3 he hyn
   obtain⟨j,hj⟩:=Int.eq_ofNat_of_zero_le w2
   have hlt:j<k:=by omega
   have h1:=ih j hlt y hyn hj
   have h2:=h'.closed a ha ⟨w1,by rw[hy];exact h1.1,by rw[hy];exact w3⟩
   rw[hax,hy]at h2
   exact⟨h2.1,by omega⟩
theorem Ck(out:List Int)(x:Nat)(hx:x<out.length):at' out (x:Int)=out[x]:=by
 simp[at',hx]
theorem xd{T:ai}(hT:Sound T){D:List Bool}{n:Nat}{dir:Bool}{out out':List Int}(h:ir T D n dir out)(h':ir T D n dir out'):out=out':=by
 have hl:out.length=out'.length:=by have:=h.len;have:=h'.len;omega
 refine List.ext_getElem hl fun x h1 h2=>?_
 have hx:(x:Int)<T.nodes:=by have:=h.len;omega
 rw[←Ck out x h1,←Ck out' x h2]
 have g1:=h.ge x hx
 have g2:=h'.ge x hx
 by_cases c1:0≤at' out (x:Int)
 ·obtain⟨k,hk⟩:=Int.eq_ofNat_of_zero_le c1
  have a1:=uk hT h h' k x hx hk
  obtain⟨k',hk'⟩:=Int.eq_ofNat_of_zero_le a1.1
  have a2:=uk hT h' h k' x hx hk'
  omega
 ·by_cases c2:0≤at' out' (x:Int)
  ·obtain⟨k,hk⟩:=Int.eq_ofNat_of_zero_le c2
   have a1:=uk hT h' h k x hx hk
   omega
  ·omega
open Classical in
noncomputable def bu(T:ai)(D:List Bool)(n:Nat)(dir:Bool):List Int:=if h:∃out,ir T D n dir out then h.choose else []
theorem jF{T:ai}(hT:Sound T){D:List Bool}{n:Nat}{dir:Bool}{out:List Int}(h:ir T D n dir out):bu T D n dir=out:=by
 unfold bu
 rw[dif_pos ⟨out,h⟩]
 exact xd hT (Exists.choose_spec (⟨out,h⟩:∃out,ir T D n dir out)) h
end Net
end Go.Proofs.YtnegbdpggideiaaGreatDoor
namespace Go.Proofs.YtnegbdpggideiaaGreatDoor
namespace Net
def mj:List Int→Nat
 | []=>0
 |v::l=>(if 0≤v then 1 else 0)+mj l
theorem oE(l:List Int):mj l≤l.length:=by
 induction l with
 |nil=>exact Nat.le_refl _
 |cons v l ih=>simp only[mj,List.length_cons];split<;>omega
theorem pZ:∀(l:List Int) (i:Nat) (c:Int),i<l.length→0≤c→mj (l.set i c)=mj l+(if 0≤l.getD i (-1) then 0 else 1)
 | [],i,c,h,_=>by simp at h
 |v::l,0,c,_,hc=>by
  simp only[List.set_cons_zero,mj,List.getD_cons_zero]
  rw[if_pos hc]
  by_cases h:0≤v
  ·rw[if_pos h,if_pos h];omega
  ·rw[if_neg h,if_neg h];omega
 |v::l,i+1,c,h,hc=>by
  simp only[List.set_cons_succ,mj,List.getD_cons_succ]
  rw[pZ l i c (by simpa using h) hc]
  omega
def Iv(v:Int):Nat:=if v<0 then 4194241 else v.toNat
def mu:List Int→Nat
 | []=>0
 |v::l=>Iv v+mu l
theorem CG:∀(l:List Int) (i:Nat) (c:Int),i<l.length→mu (l.set i c)+Iv (l.getD i (-1))=mu l+Iv c
 | [],i,c,h=>by simp at h
 |v::l,0,c,_=>by simp only[List.set_cons_zero,mu,List.getD_cons_zero];omega
 |v::l,i+1,c,h=>by
  have:=CG l i c (by simpa using h)
  simp only[List.set_cons_succ,mu,List.getD_cons_succ]
  omega
structure Inv (T:ai) (D:List Bool) (n:Nat) (dir:Bool) (out:List Int):Prop where
 len:(out.length:Int)=T.nodes
 root:at' out (n:Int)=0
 ge:∀x:Nat,(x:Int)<T.nodes→ -1≤at' out (x:Int)
 IJ:∀x:Nat,(x:Int)<T.nodes→at' out (x:Int)≤65535*(mj out:Int)
 my:∀x:Nat,(x:Int)<T.nodes→0≤at' out (x:Int)→x=n∨∃a,a<2*T.af.length∧fp T dir a=(x:Int)∧Way T D n dir out a∧at' out (cK T dir a)+ca T a≤at' out (x:Int)
def kD(T:ai)(D:List Bool)(n:Nat)(dir:Bool)(out:List Int)(a:Nat):Prop:=
 Way T D n dir out a∧(at' out (fp T dir a)<0∨at' out (cK T dir a)+ca T a<at' out (fp T dir a))
def yE(T:ai)(dir:Bool)(out:List Int)(a:Nat):List Int:=out.set (fp T dir a).toNat (at' out (cK T dir a)+ca T a)
theorem xI(out:List Int)(x y:Nat)(c:Int)(hx:x<out.length):at' (out.set x c) (y:Int)=if y=x then c else at' out (y:Int):=by
 simp only[at',Int.toNat_natCast,List.getD_eq_getElem?_getD,List.getElem?_set]
 by_cases h:x=y
 ·subst h;simp[hx]
 ·rw[if_neg h,if_neg (Ne.symm h)]
theorem qV{T:ai}(hT:Sound T){D:List Bool}{n:Nat}{dir:Bool}{out:List Int}(h:Inv T D n dir out)(a:Nat)(ha:a<2*T.af.length)(hg:kD T D n dir out a):
  Inv T D n dir (yE T dir out a)∧mu (yE T dir out a)<mu out:=by
 obtain⟨⟨w1,w2,w3⟩,hb⟩:=hg
 have hc:=hT.cost a ha
 obtain⟨x,hx⟩:=Int.eq_ofNat_of_zero_le (hT.x dir a ha).1
 obtain⟨y,hy⟩:=Int.eq_ofNat_of_zero_le (hT.y dir a ha).1
 have hxn:=(hT.x dir a ha).2
 have hyn:=(hT.y dir a ha).2
 unfold yE
 rw[hx,hy,Int.toNat_natCast]
 rw[hx,hy]at hb
 rw[hy]at w2 w3
 rw[hx]at hxn
 rw[hy]at hyn
 have hlen:=h.len
 have hxl:x<out.length:=by omega
 generalize hcc:at' out (y:Int)+ca T a=c at*
 have hby:=h.IJ y hyn
 have hxr:x≠n:=fun e=>by
  rw[e,h.root]at hb
  omega
 have hcs:=pZ out x c hxl (by omega)
 have hgx:out.getD x (-1)=at' out (x:Int):=by simp[at']
 rw[hgx]at hcs
 have at1:=fun z=>xI out x z c hxl
 have reach:∀z:Nat,(z:Int)<T.nodes→0≤at' out (z:Int)→0≤at' (out.set x c) (z:Int):=fun z _ hz=>by
  rw[at1 z];split<;>omega
 have less:∀z:Nat,(z:Int)<T.nodes→0≤at' out (z:Int)→at' (out.set x c) (z:Int)≤at' out (z:Int):=fun z _ hz=>by
  rw[at1 z]
  split
  ·rename_i e;subst e;omega
  ·omega
 have FC:∀b,b<2*T.af.length→Way T D n dir out b→Way T D n dir (out.set x c) b:=fun b hbl ⟨v1,v2,v3⟩=>by
  obtain⟨z,hz⟩:=Int.eq_ofNat_of_zero_le (hT.y dir b hbl).1
  have hzn:=(hT.y dir b hbl).2
  refine⟨v1,?_,v3⟩
  rw[hz]at v2 hzn ⊢
  exact reach z hzn v2
 refine⟨⟨by rw[List.length_set];exact hlen,?_,fun z hz=>?_,fun z hz=>?_,fun z hz h0=>?_⟩,?_⟩
 ·rw[at1 n,if_neg (Ne.symm hxr)];exact h.root
 ·rw[at1 z];split
  ·omega
  ·exact h.ge z hz
 ·rw[at1 z]
  have hbz:=h.IJ z hz
  have:(mj out:Int)≤(mj (out.set x c):Int):=by rw[hcs];split<;>omega
  split
  ·rw[hcs]
   rename_i e
   subst e
   by_cases hr:0≤at' out (z:Int)
   ·rw[if_pos hr];omega
   ·rw[if_neg hr];omega
  ·omega
 ·by_cases e:z=x
  ·subst e
   refine .inr ⟨a,ha,hx,FC a ha ⟨w1,by rw[hy];exact w2,by rw[hy];exact w3⟩,?_⟩
   rw[hy,at1 z,if_pos rfl]
   have:=less y hyn w2
   omega
  ·rw[at1 z,if_neg e]at h0
   rcases h.my z hz h0 with e2|⟨b,hbl,hbx,hbw,hbe⟩
   ·exact .inl e2
   ·refine .inr ⟨b,hbl,hbx,FC b hbl hbw,?_⟩
    rw[at1 z,if_neg e]
    obtain⟨u,hu⟩:=Int.eq_ofNat_of_zero_le (hT.y dir b hbl).1
    have hun:=(hT.y dir b hbl).2
    have hw2:=hbw.2.1
    rw[hu]at hun hbe hw2 ⊢
    have:=less u hun hw2
    omega
 ·have hm:=CG out x c hxl
  rw[hgx]at hm
  have hcl:=oE out
  have hnn:=hT.nodes
  have hcb:c≤4194240:=by
   rcases hb with hb|hb
   ·have hlt:mj out<out.length:=by
     have:=oE (out.set x c)
     rw[List.length_set,hcs,if_neg (by omega)]at this
     omega
    omega
   ·have:=h.IJ x hxn;omega
  have hw1:Iv c=c.toNat:=by unfold Iv;rw[if_neg (by omega)]
  have hw2:Iv (at' out (x:Int))=if at' out (x:Int)<0 then 4194241 else(at' out (x:Int)).toNat:=rfl
  rw[hw1,hw2]at hm
  rcases hb with hb|hb
  ·rw[if_pos hb]at hm;omega
  ·by_cases hr:at' out (x:Int)<0
   ·rw[if_pos hr]at hm;omega
   ·rw[if_neg hr]at hm;omega
theorem wh{T:ai}{D:List Bool}{n:Nat}{dir:Bool}{out:List Int}(h:Inv T D n dir out)(hn:∀a,a<2*T.af.length→¬kD T D n dir out a):ir T D n dir out:=by
 have closed:∀a,a<2*T.af.length→Way T D n dir out a→0≤at' out (fp T dir a)∧at' out (fp T dir a)≤at' out (cK T dir a)+ca T a:=fun a ha hw=>by
  have:=hn a ha
  unfold kD at this
  have h2:¬(at' out (fp T dir a)<0∨at' out (cK T dir a)+ca T a<at' out (fp T dir a)):=fun e=>this ⟨hw,e⟩
  omega
 refine⟨h.len,h.root,h.ge,closed,fun x hx h0=>?_⟩
 rcases h.my x hx h0 with e|⟨a,ha,hax,hw,he⟩
 ·exact .inl e
 ·refine .inr ⟨a,ha,hax,hw,?_⟩
  have:=closed a ha hw
  rw[hax]at this
  omega
def start(N n:Nat):List Int:=(List.replicate N (-1)).set n 0
theorem np(N n:Nat)(hn:n<N)(x:Nat)(hx:x<N):at' (start N n) (x:Int)=if x=n then 0 else -1:=by
 unfold start
 rw[xI _ n x 0 (by simpa using hn)]
 split
 ·rfl
 ·simp[at',hx]
theorem oo{T:ai}{D:List Bool}{N n:Nat}{dir:Bool}(hN:(N:Int)=T.nodes)(hn:n<N):Inv T D n dir (start N n):=by
 have hc:1≤mj (start N n):=by
  unfold start
  rw[pZ _ n 0 (by simpa using hn) (by omega)]
  have:(List.replicate N (-1:Int)).getD n (-1)= -1:=by simp[hn]
  rw[this]
  simp
 refine⟨by simp[start];exact hN,by rw[np N n hn n hn,if_pos rfl],fun x hx=>?_,fun x hx=>?_,fun x hx h0=>?_⟩
 ·rw[np N n hn x (by omega)];split<;>omega
 ·rw[np N n hn x (by omega)];split<;>omega
 ·rw[np N n hn x (by omega)]at h0
  by_cases e:x=n
  ·exact .inl e
  ·rw[if_neg e]at h0;omega
theorem kS{T:ai}(hT:Sound T){D:List Bool}{n:Nat}{dir:Bool}:∀(k:Nat) (out:List Int),mu out=k→Inv T D n dir out→∃out',ir T D n dir out'∧Inv T D n dir out':=by
 intro k
 induction k using Nat.strongRecOn with
 |_ k ih=>
  intro out hk hi
  by_cases h:∃a,a<2*T.af.length∧kD T D n dir out a
  ·obtain⟨a,ha,hg⟩:=h
   obtain⟨h1,h2⟩:=qV hT hi a ha hg
   exact ih _ (by omega) _ rfl h1
  ·exact⟨out,wh hi fun a ha hg=>h ⟨a,ha,hg⟩,hi⟩
theorem iW{T:ai}(hT:Sound T)(D:List Bool){n:Nat}(dir:Bool)(hn:(n:Int)<T.nodes):ir T D n dir (bu T D n dir):=by
 obtain⟨N,hN⟩:=Int.eq_ofNat_of_zero_le (by have:=hT.nodes.1;omega:0≤T.nodes)
 obtain⟨out,ho,_⟩:=kS hT _ (start N n) rfl (oo (D:=D) (dir:=dir) hN.symm (by omega))
 rw[jF hT ho]
 exact ho
theorem Aj{T:ai}(hT:Sound T)(D:List Bool){n:Nat}(dir:Bool)(hn:(n:Int)<T.nodes):Inv T D n dir (bu T D n dir):=by
 obtain⟨N,hN⟩:=Int.eq_ofNat_of_zero_le (by have:=hT.nodes.1;omega:0≤T.nodes)
 obtain⟨out,ho,hi⟩:=kS hT _ (start N n) rfl (oo (D:=D) (dir:=dir) hN.symm (by omega))
 rw[jF hT ho]
 exact hi
end Net
end Go.Proofs.YtnegbdpggideiaaGreatDoor
namespace Go.Proofs.YtnegbdpggideiaaGreatDoor
namespace Net
theorem aK{T:ai}(h:ao T=true):Sound T:=by
 have hb:=fX h
 have lk:∀i,i<T.af.length→(0≤(cu T.af i).a∧(cu T.af i).a<T.nodes)∧(0≤(cu T.af i).b∧(cu T.af i).b<T.nodes)∧(1≤(cu T.af i).c0∧(cu T.af i).c0≤65535)∧(1≤(cu T.af i).c1∧(cu T.af i).c1≤65535):=fun i hi=>by
  have:=qc h i hi
  simp only[ia,bn,bR,Bool.and_eq_true,decide_eq_true_eq]at this
  obtain⟨⟨⟨⟨⟨⟨⟨_,h1⟩,h2⟩,h3⟩,h4⟩,_⟩,_⟩,_⟩:=this
  exact⟨h1,h2,h3,h4⟩
 have fl:∀a,a<2*T.af.length→flip a<2*T.af.length:=fun a ha=>by unfold flip;split<;>omega
 have tl:∀a,a<2*T.af.length→0≤bb T a∧bb T a<T.nodes:=fun a ha=>by
  have:=lk (a / 2) (by omega)
  unfold bb;split
  ·exact this.1
  ·exact this.2.1
 refine⟨fun a ha=>?_,tl,fun a ha=>tl _ (fl a ha),⟨hb.1,hb.2.1⟩⟩
 have:=lk (a / 2) (by omega)
 unfold ca;split
 ·exact this.2.2.1
 ·exact this.2.2.2
def ig(N k:Nat):List Int:=List.replicate k (-1)++List.replicate (N - k) 0
theorem u9(N k:Nat)(h:k<N):(ig N k).set k (-1)=ig N (k+1):=by
 unfold ig
 rw[List.set_append_right _ _ (by simp)]
 rw[List.length_replicate,Nat.sub_self,show N - k=(N - (k+1))+1 by omega,List.replicate_succ,List.set_cons_zero,List.replicate_succ',List.append_assoc]
 rfl
theorem xZ(N n:Nat):(ig N N).set n 0=start N n:=by simp[ig,start]
theorem Inv.ub{T:ai}{D:List Bool}{n:Nat}{dir:Bool}{out:List Int}(h:Inv T D n dir out)(x:Nat)(hx:(x:Int)<T.nodes)(hN:T.nodes≤64):at' out (x:Int)≤4194240:=by
 have h1:=h.IJ x hx
 have h2:=oE out
 have h3:=h.len
 omega
end Net
end Go.Proofs.YtnegbdpggideiaaGreatDoor
namespace Go.Proofs.YtnegbdpggideiaaGreatDoor
namespace PW
open Go.RowKit cB Mem Net
theorem tI(T:ai)(hv:ao T=true):Can Tryz.prog 174 [aP T] (· =iY (dr (aT T) T.nodes.toNat (2*T.af.length))):=by
 have hbd:=fX hv
 have hS:=aK hv
 obtain⟨n,hn⟩:∃n:Nat,T.nodes=(n:Int):=⟨T.nodes.toNat,by omega⟩
 rw[show T.nodes.toNat=n by omega]
 refine aE Tryz.func174 rfl Tryz.ntmps174 rfl<|ab (.a 2 rfl<|.k [1] rfl)<|aQ<|au 2 rfl<|cn (dD rfl (bI.rk.get rfl) rfl rfl hn hn ⟨by unfold maxLen;omega,by omega⟩) rfl<|au 1 rfl<|aH [1,3] rfl ?_
 refine pw 37 3 n ?_
 refine aj<|ab (.a 1 rfl<|.c rfl (gX T (by omega)) rfl<|.a 1 rfl<|.k [1,3,10,11] rfl)<|av<|ft [1,3,10,11] rfl<|br (fun r s=>∃k,k≤2*T.af.length∧r=2*T.af.length - k∧s=⟨[(1,.aX (bx T) 0),(3,.own 0),(10,num (2*(T.af.length:Int))),(11,num k)],kL 37 3 (dr (aT T) n k)⟩) (2*T.af.length) ⟨0,by omega,by omega,by rw[qH];rfl⟩ ?_
 rintro r s ⟨k,hk,rfl,rfl⟩
 refine ab (.a 1 rfl<|.k [1,3,10,11,12] rfl)<|aj<|ah rfl (fun hc=>?_) (fun hc=>?_)
 ·have hlt:k<2*T.af.length:=by have:=of_decide_eq_true hc;omega
  obtain⟨hd0,hhN⟩:=hS.head k hlt
  obtain⟨m,hm⟩:=Int.eq_ofNat_of_zero_le hd0
  have hmn:m<n:=by omega
  have hrl:=eM (aT T) n k
  have hgl:((dr (aT T) n k).getD m []).length≤k:=by
   rw[iL _ _ _ _ hmn]
   simp only[List.length_map]
   exact Nat.le_trans (List.length_filter_le _ _) (by simp)
  refine ak<|aj<|av<|ab (.a 2 rfl<|.k [1,3,4,10,11] rfl)<|ab (.a 2 rfl<|.c rfl (hm▸fH T k hlt (by omega)) rfl<|.a 1 rfl<|.k [1,3,4,5,10,11] rfl)<|bF<|au 4 rfl<|bE (aL (m) rfl) rfl<|bE (aN rfl (lr _ m (by omega))) rfl<|au 2 rfl<|cn (bA rfl (bI.rk.get rfl) rfl (kW _ _ _ m (by omega)) rfl rfl ⟨by unfold maxLen;omega,by omega⟩) rfl<|bE (aL (m) rfl) rfl<|bc (cG rfl (bI.tk.get rfl) rfl rfl rfl (by show m<(fI _).length;simp[fI];omega)) rfl rfl<|aH [1,3,10,11] rfl ?_
  refine cZ (EB (dr (aT T) n k).length m) (.cons 1 rfl Ren.pure<|.cons 3 rfl (Ren.own (i:=0) rfl)<|.cons 10 rfl Ren.pure<|.cons 11 rfl Ren.pure<|.nil) (wU 37 3 (dr (aT T) n k) m (by omega) (k:Int)) (rX _ _) rfl ?_
  rw[←qh (aT T) n k m hm hmn]
  refine az (.v (aS rfl) rfl<|.a 1 rfl<|.k [1,3,10,11] rfl) ?_
  exact⟨2*T.af.length - (k+1),by omega,k+1,by omega,rfl,rfl⟩
 ·have hke:k=2*T.af.length:=by have:=of_decide_eq_false hc;omega
  subst hke
  exact bg<|ab (.a 2 rfl<|.k [2] rfl)<|aq<|⟨_,_,ay.of rfl,v7 _ _ _,rfl⟩
end PW
end Go.Proofs.YtnegbdpggideiaaGreatDoor
namespace Go.Proofs.YtnegbdpggideiaaGreatDoor
namespace Net
structure xh (T:ai) (D:List Bool) (n:Nat) (dir:Bool) (out K:List Int) (H:Nat→Prop) (S:Nat→Prop):Prop where
 len:(out.length:Int)=T.nodes
 ge:∀x:Nat,(x:Int)<T.nodes→ -1≤at' out (x:Int)
 root:at' out (n:Int)=0∨(H n∧K.getD n 0=0)
 rM:∀y,H y→(y:Int)<T.nodes∧at' out (y:Int)= -1
 mono:∀x y:Nat,(x:Int)<T.nodes→H y→at' out (x:Int)≤K.getD y 0
 ph:∀y,H y→(y=n∧K.getD y 0=0)∨∃a,a<2*T.af.length∧fp T dir a=(y:Int)∧Way T D n dir out a∧K.getD y 0=at' out (cK T dir a)+ca T a
 my:∀x:Nat,(x:Int)<T.nodes→0≤at' out (x:Int)→x=n∨∃a,a<2*T.af.length∧fp T dir a=(x:Int)∧Way T D n dir out a∧at' out (x:Int)=at' out (cK T dir a)+ca T a
 closed:∀a,a<2*T.af.length→¬S a→Way T D n dir out a→(0≤at' out (fp T dir a)∧at' out (fp T dir a)≤at' out (cK T dir a)+ca T a)∨(H (fp T dir a).toNat∧K.getD (fp T dir a).toNat 0≤at' out (cK T dir a)+ca T a)
 ub:∀x:Nat,(x:Int)<T.nodes→at' out (x:Int)≤65535*(mj out:Int)
 HB:∀y,H y→K.getD y 0≤65535*(mj out:Int)
theorem xh.key{T:ai}(hT:Sound T){D:List Bool}{n:Nat}{dir:Bool}{out K:List Int}{H S:Nat→Prop}(h:xh T D n dir out K H S){y:Nat}(hy:H y):0≤K.getD y 0:=by
 rcases h.ph y hy with⟨_,h0⟩|⟨a,ha,_,hw,he⟩
 ·omega
 ·have:=hT.cost a ha
  have:=hw.2.1
  omega
theorem HD(L:List Int)(i j:Nat)(c:Int)(hi:i<L.length):(L.set i c).getD j 0=if j=i then c else L.getD j 0:=by
 by_cases h:j=i
 ·subst h;simp[List.getD_eq_getElem?_getD,hi]
 ·simp[List.getD_eq_getElem?_getD,List.getElem?_set,Ne.symm h,h]
theorem zH(N:Nat):mj (List.replicate N (-1))=0:=by
 induction N with
 |zero=>rfl
 |succ N ih=>rw[List.replicate_succ];simp[mj,ih]
theorem qX(N x:Nat):at' (List.replicate N (-1)) (x:Int)= -1:=by
 unfold at'
 rw[List.getD_eq_getElem?_getD,List.getElem?_replicate]
 split<;>rfl
theorem zX{T:ai}{D:List Bool}{N n:Nat}{dir:Bool}(hN:(N:Int)=T.nodes)(hn:n<N){K:List Int}{H:Nat→Prop}(hK:K.getD n 0=0)(hH:∀y,H y↔y=n):xh T D n dir (List.replicate N (-1)) K H (fun _=>False) where
 len:=by simpa using hN
 ge x _:=by rw[qX];omega
 root:=.inr ⟨(hH n).2 rfl,hK⟩
 rM y hy:=by have:=(hH y).1 hy;subst this;exact⟨by omega,qX N y⟩
 mono x y _ hy:=by have:=(hH y).1 hy;subst this;rw[qX,hK];omega
 ph y hy:=by have:=(hH y).1 hy;subst this;exact .inl ⟨rfl,hK⟩
 my x _ h:=by rw[qX]at h;omega
 closed a _ _ hw:=by
  have:=hw.2.1
  have h2:at' (List.replicate N (-1)) (cK T dir a)= -1:=by
   unfold at'
   rw[List.getD_eq_getElem?_getD,List.getElem?_replicate]
   split<;>rfl
  rw[h2]at this;omega
 ub x _:=by rw[qX,zH];omega
 HB y hy:=by have:=(hH y).1 hy;subst this;rw[hK,zH];omega
theorem FN{T:ai}(hT:Sound T){D:List Bool}{n:Nat}{dir:Bool}{out K:List Int}{H:Nat→Prop}(h:xh T D n dir out K H (fun _=>False)){i:Nat}(hi:H i)(hmin:∀j,H j→K.getD i 0≤K.getD j 0)(hKl:i<K.length){H':Nat→Prop}(hH':∀j,H' j↔H j∧j≠i):
  xh T D n dir (out.set i (K.getD i 0)) (K.set i 0) H' (fun a=>cK T dir a=(i:Int))∧mj (out.set i (K.getD i 0))=mj out+1∧(∀x:Nat,(x:Int)<T.nodes→at' (out.set i (K.getD i 0)) (x:Int)≤K.getD i 0)∧at' (out.set i (K.getD i 0)) (i:Int)=K.getD i 0∧0≤K.getD i 0∧K.getD i 0≤65535*(mj out:Int):=by
 obtain⟨hin,hineg⟩:=h.rM i hi
 have hil:i<out.length:=by have:=h.len;omega
 have hd:=h.key hT hi
 have hdu:=h.HB i hi
 have hat:=fun x:Nat=>xI out i x (K.getD i 0) hil
 have hK:∀j,j≠i→(K.set i 0).getD j 0=K.getD j 0:=fun j hj=>by rw[HD _ _ _ _ hKl,if_neg hj]
 have hcnt:mj (out.set i (K.getD i 0))=mj out+1:=by
  rw[pZ out i _ hil hd,if_neg]
  have:out.getD i (-1)=at' out (i:Int):=by simp[at']
  rw[this,hineg];omega
 have hy:∀a,a<2*T.af.length→Way T D n dir out a→Way T D n dir (out.set i (K.getD i 0)) a∧at' (out.set i (K.getD i 0)) (cK T dir a)=at' out (cK T dir a):=fun a ha hw=>by
  obtain⟨y,hy⟩:=Int.eq_ofNat_of_zero_le (hT.y dir a ha).1
  have hne:y≠i:=fun e=>by
   have:=hw.2.1
   rw[hy,e,hineg]at this;omega
  have e1:at' (out.set i (K.getD i 0)) (cK T dir a)=at' out (cK T dir a):=by rw[hy,hat y,if_neg hne]
  exact⟨⟨hw.1,by rw[e1];exact hw.2.1,hw.2.2⟩,e1⟩
 refine⟨⟨by simpa using h.len,fun x hx=>?_,?_,fun y hy'=>?_,fun x y hx hy'=>?_,fun y hy'=>?_,fun x hx h0=>?_,fun a ha hs hw=>?_,fun x hx=>?_,fun y hy'=>?_⟩,hcnt,fun x hx=>?_,by rw[hat i,if_pos rfl],hd,hdu⟩
 ·rw[hat x];split
  ·omega
  ·exact h.ge x hx
 ·by_cases e:n=i
  ·subst e
   left
   rw[hat n,if_pos rfl]
   rcases h.root with h0|⟨_,h0⟩
   ·omega
   ·exact h0
  ·rcases h.root with h0|⟨h1,h0⟩
   ·left;rw[hat n,if_neg e];exact h0
   ·right;exact⟨(hH' n).2 ⟨h1,e⟩,by rw[hK n e];exact h0⟩
 ·obtain⟨h1,h2⟩:=(hH' y).1 hy'
  obtain⟨h3,h4⟩:=h.rM y h1
  exact⟨h3,by rw[hat y,if_neg h2];exact h4⟩
 ·obtain⟨h1,h2⟩:=(hH' y).1 hy'
  rw[hat x,hK y h2]
  split
  ·exact hmin y h1
  ·exact h.mono x y hx h1
 ·obtain⟨h1,h2⟩:=(hH' y).1 hy'
  rw[hK y h2]
  rcases h.ph y h1 with h3|⟨a,ha,hx,hw,he⟩
  ·exact .inl h3
  ·obtain⟨k1,k2⟩:=hy a ha hw
   exact .inr ⟨a,ha,hx,k1,by rw[k2];exact he⟩
 ·rw[hat x]at h0 ⊢
  by_cases e:x=i
  ·subst e
   rw[if_pos rfl]
   rcases h.ph x hi with⟨h3,_⟩|⟨a,ha,hx,hw,he⟩
   ·exact .inl h3
   ·obtain⟨k1,k2⟩:=hy a ha hw
    exact .inr ⟨a,ha,hx,k1,by rw[k2];exact he⟩
  ·rw[if_neg e]at h0 ⊢
   rcases h.my x hx h0 with h3|⟨a,ha,hx,hw,he⟩
   ·exact .inl h3
   ·obtain⟨k1,k2⟩:=hy a ha hw
    exact .inr ⟨a,ha,hx,k1,by rw[k2];exact he⟩
 ·obtain⟨y,hya⟩:=Int.eq_ofNat_of_zero_le (hT.y dir a ha).1
  have hne:y≠i:=fun e=>hs (by rw[hya,e])
  have e1:at' (out.set i (K.getD i 0)) (cK T dir a)=at' out (cK T dir a):=by rw[hya,hat y,if_neg hne]
  have hw0:Way T D n dir out a:=⟨hw.1,by rw[←e1];exact hw.2.1,hw.2.2⟩
  obtain⟨x,hxa⟩:=Int.eq_ofNat_of_zero_le (hT.x dir a ha).1
  have hc:=h.closed a ha (fun f=>f) hw0
  rw[e1]
  rw[hxa]at hc ⊢
  rw[Int.toNat_natCast]at hc ⊢
  rw[hat x]
  by_cases e:x=i
  ·subst e
   left
   rw[if_pos rfl]
   rcases hc with⟨h1,_⟩|⟨_,h2⟩
   ·rw[hineg]at h1;omega
   ·exact⟨hd,h2⟩
  ·rw[if_neg e]
   rcases hc with h1|⟨h1,h2⟩
   ·exact .inl h1
   ·exact .inr ⟨(hH' x).2 ⟨h1,e⟩,by rw[hK x e];exact h2⟩
 ·rw[hat x,hcnt]
  split
  ·omega
  ·have:=h.ub x hx;omega
 ·obtain⟨h1,h2⟩:=(hH' y).1 hy'
  rw[hK y h2,hcnt]
  have:=h.HB y h1;omega
 ·rw[hat x]
  split
  ·omega
  ·exact h.mono x i hx hi
theorem Es{T:ai}{D:List Bool}{n:Nat}{dir:Bool}{out K:List Int}{H:Nat→Prop}{i:Nat}(h:xh T D n dir out K H (fun a=>cK T dir a=(i:Int)))(hi:i≠n)(ho:cR T i=true):xh T D n dir out K H (fun _=>False):=
 {h with closed:=fun a ha _ hw=>h.closed a ha (fun e=>by
   rcases hw.2.2 with h1|h1
   ·rw[h1]at e;exact hi (by omega)
   ·rw[e,Int.toNat_natCast,ho]at h1;cases h1) hw}
theorem zc{T:ai}{D:List Bool}{n:Nat}{dir:Bool}{out K:List Int}{H S S':Nat→Prop}(h:xh T D n dir out K H S){a:Nat}(hS:∀b,b<2*T.af.length→S b→S' b∨b=a)
  (hc:Way T D n dir out a→(0≤at' out (fp T dir a)∧at' out (fp T dir a)≤at' out (cK T dir a)+ca T a)∨(H (fp T dir a).toNat∧K.getD (fp T dir a).toNat 0≤at' out (cK T dir a)+ca T a)):xh T D n dir out K H S':=
 ⟨h.len,h.ge,h.root,h.rM,h.mono,h.ph,h.my,fun b hb hs hw=>by
   by_cases e:b=a
   ·subst e
    exact hc hw
   ·exact h.closed b hb (fun hb'=>(hS b hb hb').elim hs e) hw,h.ub,h.HB⟩
theorem Gd{T:ai}(hT:Sound T){D:List Bool}{n:Nat}{dir:Bool}{out K:List Int}{H H' S S':Nat→Prop}(h:xh T D n dir out K H S){a m:Nat}(ha:a<2*T.af.length)(hS:∀b,b<2*T.af.length→S b→S' b∨b=a)
  (hw:Way T D n dir out a) (hm:fp T dir a=(m:Int)) (rM:at' out (m:Int)<0) (htop:∀x:Nat,(x:Int)<T.nodes→at' out (x:Int)≤at' out (cK T dir a)) (hub:at' out (cK T dir a)+65535≤65535*(mj out:Int))
  (hnew:¬H m∨at' out (cK T dir a)+ca T a<K.getD m 0) (hml:m<K.length) (hH':∀j,H' j↔H j∨j=m):
  xh T D n dir out (K.set m (at' out (cK T dir a)+ca T a)) H' S':=by
 have hc:=hT.cost a ha
 have hmN:(m:Int)<T.nodes:=by have:=(hT.x dir a ha).2;omega
 have hK:∀j,(K.set m (at' out (cK T dir a)+ca T a)).getD j 0=if j=m then at' out (cK T dir a)+ca T a else K.getD j 0:=fun j=>HD _ _ _ _ hml
 have hy0:=hw.2.1
 refine⟨h.len,h.ge,?_,fun y hy=>?_,fun x y hx hy=>?_,fun y hy=>?_,h.my,fun b hb hs hwb=>?_,h.ub,fun y hy=>?_⟩
 ·rcases h.root with h0|⟨h1,h0⟩
  ·exact .inl h0
  ·right
   refine⟨(hH' n).2 (.inl h1),?_⟩
   rw[hK n,if_neg,h0]
   intro e
   subst e
   rcases hnew with h2|h2
   ·exact h2 h1
   ·omega
 ·rcases(hH' y).1 hy with h1|rfl
  ·exact h.rM y h1
  ·have:=h.ge y hmN
   exact⟨hmN,by omega⟩
 ·rw[hK y]
  have:=htop x hx
  split
  ·omega
  ·rename_i e
   exact h.mono x y hx (((hH' y).1 hy).resolve_right e)
 ·rw[hK y]
  by_cases e:y=m
  ·subst e
   rw[if_pos rfl]
   exact .inr ⟨a,ha,hm,hw,rfl⟩
  ·rw[if_neg e]
   exact h.ph y (((hH' y).1 hy).resolve_right e)
 ·obtain⟨x,hx⟩:=Int.eq_ofNat_of_zero_le (hT.x dir b hb).1
  by_cases e:b=a
  ·subst e
   right
   rw[hm,Int.toNat_natCast]
   exact⟨(hH' m).2 (.inr rfl),by rw[hK m,if_pos rfl];exact Int.le_refl _⟩
  ·have h1:=h.closed b hb (fun hb'=>(hS b hb hb').elim hs e) hwb
   rw[hx,Int.toNat_natCast]at h1 ⊢
   rcases h1 with h1|⟨h1,h2⟩
   ·exact .inl h1
   ·right
    refine⟨(hH' x).2 (.inl h1),?_⟩
    rw[hK x]
    split
    ·rename_i e'
     subst e'
     rcases hnew with h3|h3
     ·exact absurd h1 h3
     ·omega
    ·exact h2
 ·rw[hK y]
  split
  ·omega
  ·rename_i e
   exact h.HB y (((hH' y).1 hy).resolve_right e)
theorem GY{T:ai}{D:List Bool}{n:Nat}{dir:Bool}{out K:List Int}{H:Nat→Prop}(h:xh T D n dir out K H (fun _=>False))(hH:∀y,¬H y):ir T D n dir out:=
 ⟨h.len,h.root.resolve_right (fun k=>hH n k.1),h.ge,fun a ha hw=>(h.closed a ha (fun f=>f) hw).resolve_right (fun k=>hH _ k.1),h.my⟩
end Net
end Go.Proofs.YtnegbdpggideiaaGreatDoor
namespace Go.Proofs.YtnegbdpggideiaaGreatDoor
namespace PW
open Go.RowKit cB Mem Net Heap
theorem GU{N n:Nat}{K P O:List Int}(h:BV N n K P O)(hN:N≤65536){i:Nat}(hi:O.getD 0 0=(i:Int))(j:Nat)(hj:ez O (j:Int)):K.getD i 0≤K.getD j 0:=by
 obtain⟨hP,hO,hK,hH⟩:=h
 obtain⟨p,hp,he⟩:=hj
 have h1:=AU hH p (by omega)
 unfold rk at h1
 rw[hi,he]at h1
 have h2:=hP.item p hp
 have:=Cs (by omega) (by omega) h1
 simpa using this
theorem F7(N:Nat):BV N 0 (List.replicate N 0) (List.replicate N 0) []:=
 ⟨⟨by simp,fun p hp=>by simp at hp,fun i hi=>.inl (by simp[List.getD_eq_getElem?_getD,List.getElem?_replicate,hi])⟩,rfl,by simp,fun q _ hq=>by omega⟩
theorem yk{P:Program}{M:Nat}{c:Code}{t:bY}{Q:Exit→St→Prop}{b:Bool}{d:Option cT}{N n:Nat}{K Pl O:List Int}(hd:kG d)(hT:mH [0,1,2,3,5] t t)(h:W P M 0 c ⟨t,ij false d N n K Pl O⟩ Q):W P M 0 c ⟨t,ij b d N n K Pl O⟩ Q:=by
 cases b
 ·exact h
 ·exact cZ [0,1,2,3,5] hT (.same hd rfl<|.kept rfl (.cells (aD.cons (Ren.own (i:=2) rfl)<|aD.cons (Ren.own (i:=3) rfl)<|aD.cons (Ren.own (i:=4) rfl) aD.nil))<|.kept rfl (.row aD.pure)<|.kept rfl (.row aD.pure)<|.kept rfl (.row aD.pure)<|.nil) rfl rfl h
theorem ej{P:Program}{M L:Nat}{c:Code}{t:bY}{Q:Exit→St→Prop}{σ σ':cd}(he:σ=σ')(h:W P M L c ⟨t,σ'⟩ Q):W P M L c ⟨t,σ⟩ Q:=by subst he;exact h
theorem GS{N n:Nat}(d:Option cT)(hd:kG d)(K P O:List Int)(h:BV N n K P O)(hN:N≤65536):
  bT Tryz.prog 199 [.ptr 1 0] (ij false d N n K P O) (fun r σ'=>∃(b ok:Bool) (i n':Nat) (key:Int) (K' P' O':List Int),r= .tuple [num i,num key,flag ok]∧σ'=ij b d N n' K' P' O'∧
   ((ok=false∧n=0)∨(ok=true∧i<N∧ez O (i:Int)∧(∀j:Nat,ez O (j:Int)→K.getD i 0≤K.getD j 0)∧key=K.getD i 0∧K'=K.set i 0∧BV N n' K' P' O'∧∀j:Nat,ez O' (j:Int)↔ez O (j:Int)∧j≠i))):=by
 refine(Ga d hd K P O h hN).mono fun r σ' hr=>?_
 rcases hr with⟨h1,rfl,rfl⟩|⟨n',i,P',O',h1,h2,h3,rfl,rfl,h4,h5⟩
 ·exact⟨false,false,0,n,0,K,P,O,rfl,rfl,.inl ⟨rfl,h1⟩⟩
 ·refine⟨true,true,i,n',K.getD i 0,K.set i 0,P',O',rfl,rfl,.inr ⟨rfl,h2,⟨0,by have:=h.2.1;omega,h3⟩,GU h hN h3,rfl,rfl,h4,fun j=>(h5 j).trans ?_⟩⟩
  constructor<;>rintro⟨a,b⟩<;>exact⟨a,by omega⟩
def lR(T:ai)(D:List Bool)(n:Nat)(f1 f2:FuncId)(cap1 cap2:List PV):List PV:=[.raw (.int .i64 T.nodes),aY T.over,.slice T.af.length (gz T.af),aY D,num n,.func f1 cap1,.func f2 cap2]
instance (T:ai) (D:List Bool) (n:Nat) (f1 f2:FuncId) (cap1 cap2:List PV) [aJ cap1] [aJ cap2]:aJ (lR T D n f1 f2 cap1 cap2):=by unfold lR;infer_instance
def cO(T:ai)(dir:Bool)(i:Nat):List Int:=((List.range (2*T.af.length)).filter fun a=>decide (cK T dir a=(i:Int))).map Int.ofNat
theorem p7(T:ai)(dir:Bool)(i:Nat)(a:Nat):(a:Int)∈cO T dir i↔a<2*T.af.length∧cK T dir a=(i:Int):=by
 unfold cO
 simp only[List.mem_map,List.mem_filter,List.mem_range,decide_eq_true_eq]
 constructor
 ·rintro⟨b,h,e⟩
  have:b=a:=Int.ofNat.inj e
  subst this;exact h
 ·intro h;exact⟨a,h,rfl⟩
theorem yn(T:ai)(dir:Bool)(i k:Nat)(h:k<(cO T dir i).length):∃a:Nat,(cO T dir i).getD k 0=(a:Int)∧a<2*T.af.length∧cK T dir a=(i:Int):=by
 have hm:(cO T dir i).getD k 0∈cO T dir i:=bX h
 have:∃a:Nat,(cO T dir i).getD k 0=(a:Int):=by
  unfold cO at hm ⊢
  obtain⟨b,_,e⟩:=List.mem_map.1 hm
  exact⟨b,e.symm⟩
 obtain⟨a,ha⟩:=this
 rw[ha]at hm
 exact⟨a,ha,(p7 T dir i a).1 hm⟩
theorem xi(T:ai)(dir:Bool)(i:Nat):(cO T dir i).length≤2*T.af.length:=by
 unfold cO
 rw[List.length_map]
 exact Nat.le_trans (List.length_filter_le _ _) (by simp)
theorem D3(N k:Nat)(h:k<N):(List.replicate k (-1:Int)++List.replicate (N - k) 0).set k (-1)=List.replicate (k+1) (-1)++List.replicate (N - (k+1)) 0:=by
 rw[List.set_append_right _ _ (by simp),List.length_replicate,Nat.sub_self,show N - k=(N - (k+1))+1 by omega,List.replicate_succ,List.set_cons_zero,List.replicate_succ',List.append_assoc]
 rfl
theorem qk(N:Nat):dz [.raw (.int .i64 0)] N=aO (List.replicate 0 (-1)++List.replicate (N - 0) 0):=by simpa using cN N
theorem ku(n:Nat)(L:List Int):kG (some (.row 3 1 n (aO L))):=fun b h=>by
 cases h
 exact inferInstanceAs (aJ (aO L))
theorem HC{σ:cd}{K P O:List Int}(h:aB σ (.ptr 1 0) (wZ K P O))(p:Int):an σ ([.ptr 1 0,num p]++[]) [wZ K P O,num p]:=an.cons h (an.cons aB.pure an.nil)
set_option maxHeartbeats 4000000 in
theorem zN(T:ai)(D:List Bool)(n:Nat)(dir:Bool)(f1 f2:FuncId)(cap1 cap2:List PV)[aJ cap1][aJ cap2](hv:ao T=true)(hf:bP T D=true)(hn:(n:Int)<T.nodes)(he1:enters Tryz.prog f1=true)(he2:enters Tryz.prog f2=true)
  (h1:∀i:Nat,(i:Int)<T.nodes→Can Tryz.prog f1 ([num i]++cap1) (· =aw (cO T dir i))) (h2:∀a:Nat,a<2*T.af.length→Can Tryz.prog f2 ([num a]++cap2) (· =num (fp T dir a))):
  Can Tryz.prog 177 [.agg (lR T D n f1 f2 cap1 cap2)] (· =aw (bu T D n dir)):=by
 have hbd:=fX hv
 have hS:=aK hv
 obtain⟨N,hN⟩:∃N:Nat,T.nodes=(N:Int):=⟨T.nodes.toNat,by omega⟩
 have hN64:N≤64:=by have:=hS.nodes;omega
 have hnN:n<N:=by omega
 refine aE Tryz.func177 rfl Tryz.ntmps177 rfl<|ab (.a 2 rfl<|.k [1] rfl)<|aQ<|au 3 rfl<|cn (dD rfl (bI.rk.get rfl) rfl rfl hN hN ⟨by unfold maxLen;omega,by omega⟩) rfl<|au 1 rfl<|aH [1,3] rfl ?_
 refine aj<|ab (.a 3 rfl<|.k [1,3,21,22] rfl)<|av<|ft [1,3,21,22] rfl<|br (fun r s=>∃k,k≤N∧r=N - k∧s=⟨[(1,.aX (lR T D n f1 f2 cap1 cap2) 0),(3,.own 0),(21,num N),(22,num k)],[some (.row 3 1 N (aO (List.replicate k (-1)++List.replicate (N - k) 0)))]⟩) N ⟨0,by omega,by omega,by rw[←qk N];rfl⟩ ?_
 rintro r s ⟨k,hk,rfl,rfl⟩
 refine ab (.a 1 rfl<|.k [1,3,21,22,23] rfl)<|aj<|ah rfl (fun hc=>?_) (fun hc=>?_)
 ·have hlt:k<N:=by have:=of_decide_eq_true hc;omega
  refine ak<|aj<|av<|ab (.a 2 rfl<|.k [1,3,4,21,22] rfl)<|bF<|au 2 rfl<|bE (aL (k) rfl) rfl<|bc ((by first|exact bC rfl (bI.tk.get rfl) rfl rfl rfl (by first|omega|(simp;omega))|exact aW rfl (bI.tk.get rfl) rfl rfl rfl (by first|omega|(simp;omega)))) rfl rfl<|aH [1,3,21,22] rfl ?_
  refine ej (σ':=[some (.row 3 1 N (aO (List.replicate (k+1) (-1)++List.replicate (N - (k+1)) 0)))]) (by rw[←D3 N k hlt];rfl) ?_
  refine az (.v (aS rfl) rfl<|.a 1 rfl<|.k [1,3,21,22] rfl) ?_
  exact⟨N - (k+1),by omega,k+1,by omega,rfl,rfl⟩
 ·have hke:k=N:=by have:=of_decide_eq_false hc;omega
  subst hke
  refine ej (σ':=[some (.row 3 1 k (aO (List.replicate k (-1))))]) (by simp) ?_
  refine bg<|aQ<|au 2 rfl<|bE (aN rfl ((show some (num T.nodes)=some (num (k:Int)) by rw[hN]))) rfl<|cS rfl rfl (bT.mono (GQ k (some (.row 3 1 k (aO (List.replicate k (-1))))) (ku _ _) (by omega)) (fun _ σ' h=>?_))
  obtain⟨rfl,rfl⟩:=h
  refine au 5 rfl<|aH [1,3,5] rfl ?_
  refine aQ<|au 3 rfl<|cS rfl rfl (bT.mono (zJ (some (.row 3 1 k (aO (List.replicate k (-1))))) (ku _ _) _ _ _ (F7 k) (by omega) n hnN 0) (fun _ σ' h=>?_))
  obtain⟨b,n1,P1,O1,rfl,hok,hheld⟩:=h
  refine aH [1,3,5] rfl ?_
  refine yk (ku _ _) (.cons 1 rfl Ren.pure<|.cons 3 rfl (Ren.own (i:=0) rfl)<|.cons 5 rfl (Ren.ptr (i:=1) rfl)<|.nil) ?_
  have hD0:=zX (T:=T) (D:=D) (N:=k) (n:=n) (dir:=dir) hN.symm hnN (K:=(List.replicate k (0:Int)).set n 0) (H:=fun y=>ez O1 (y:Int)) (by rw[HD _ _ _ _ (by simpa using hnN),if_pos rfl]) (fun y=>(hheld y).trans ⟨fun h=>h.elim (fun⟨p,hp,_⟩=>by simp at hp) (fun e=>by omega),fun e=>.inr (by omega)⟩)
  generalize (List.replicate k (0:Int)).set n 0=K1 at hok hD0
  generalize List.replicate k (-1:Int)=out1 at hD0
  clear hheld
  refine av<|ft [1,3,5] rfl<|br (fun r s=>∃out K P O q,xh T D n dir out K (fun y=>ez O (y:Int)) (fun _=>False)∧BV k q K P O∧r=k+1 - mj out∧s=⟨[(1,.aX (lR T D n f1 f2 cap1 cap2) 0),(3,.own 0),(5,.ptr 1 0)],ij false (some (.row 3 1 k (aO out))) k q K P O⟩) (k+1 - mj out1) ⟨out1,K1,P1,O1,n1,hD0,hok,rfl,rfl⟩ ?_
  clear hD0 hok out1 K1 P1 O1 n1 b
  rintro r s ⟨out,K,P,O,q,hD,hok,rfl,rfl⟩
  refine av<|aQ<|au 1 rfl<|cS rfl rfl (bT.mono (GS (some (.row 3 1 k (aO out))) (ku _ _) K P O hok (by omega)) (fun _ σ' h=>?_))
  obtain⟨b,ok,i,n1,key,K1,P1,O1,rfl,rfl,hpop⟩:=h
  refine au 7 rfl<|aH [1,3,5,7,8,9] rfl ?_
  refine yk (ku _ _) (.cons 1 rfl Ren.pure<|.cons 3 rfl (Ren.own (i:=0) rfl)<|.cons 5 rfl (Ren.ptr (i:=1) rfl)<|.cons 7 rfl Ren.pure<|.cons 8 rfl Ren.pure<|.cons 9 rfl Ren.pure<|.nil) ?_
  refine aj<|ab (.a 2 rfl<|.k [1,3,5,7,8,47] rfl)<|ah rfl (fun hc=>?_) (fun hc=>?_)
  ·have hok0:ok=false:=by cases ok;rfl;cases hc
   have hq0:q=0:=by
    rcases hpop with⟨_,h⟩|⟨h,_⟩
    ·exact h
    ·rw[hok0]at h;cases h
   have hdist:bu T D n dir=out:=jF hS (GY hD (fun y ⟨p,hp,_⟩=>by have:=hok.2.1;omega))
   exact ab (.a 2 rfl<|.k [2] rfl)<|aq<|⟨_,_,ay.of rfl,aB.ew rfl an.pure,by rw[hdist];unfold aw;rw[show out.length=k by have:=hD.len;omega]⟩
  ·have hok1:ok=true:=by cases ok;cases hc;rfl
   rcases hpop with⟨h,_⟩|⟨_,hiN,hHi,hmin,rfl,rfl,hok',hH'⟩
   ·rw[hok1]at h;cases h
   obtain⟨hD1,hcnt,htop,hati,hk0,hku⟩:=FN hS hD hHi hmin (by rw[hok.2.2.1];exact hiN) hH'
   have hol:out.length=k:=by have:=hD.len;omega
   have hcl:=oE (out.set i (K.getD i 0))
   have hiT:(i:Int)<T.nodes:=by omega
   refine ak<|aQ<|au 3 rfl<|bE (aL (i) rfl) rfl<|bc ((by first|exact bC rfl (bI.tk.get rfl) rfl rfl rfl (by first|omega|(simp;omega))|exact aW rfl (bI.tk.get rfl) rfl rfl rfl (by first|omega|(simp;omega)))) rfl rfl<|aH [1,3,5,7,8] rfl ?_
   refine ej (σ':=ij false (some (.row 3 1 k (aO (out.set i (K.getD i 0))))) k n1 (K.set i 0) P1 O1) rfl ?_
   have ho1:(out.set i (K.getD i 0)).length=k:=by simpa using hol
   have hmeas:k+1 - mj (out.set i (K.getD i 0))<k+1 - mj out:=by have:=oE (out.set i (K.getD i 0));omega
   generalize K.getD i 0=d at hD1 hcnt htop hati hk0 hku ho1 hcl hmeas
   generalize out.set i d=out1 at hD1 hcnt htop hati ho1 hcl hmeas
   generalize K.set i 0=K1 at hD1 hok'
   refine aj ?_
   obtain⟨q1,hq1⟩:∃q,decide ((i:Int)≠(n:Int))=q:=⟨_,rfl⟩
   obtain⟨q2,hq2⟩:∃q,cR T i=q:=⟨_,rfl⟩
   have hov:T.over.length=0∨i<T.over.length:=by have:=hbd.2.2.2;omega
   refine bp 62 (.raw (.bool (q1&&q2))) [1,3,5,7,8] rfl ?_ ?_
   ·refine .a 3 rfl<|.v (cb rfl (hq1)) rfl<|.a 1 rfl<|?_
    cases q1
    ·exact .a 5 rfl<|.k [62,1,3,5,7,8] rfl
    ·exact .a 3 rfl<|.c rfl (hq2▸nM T i hov) rfl<|.a 1 rfl<|.k [62,1,3,5,7,8] rfl
   refine ah rfl (fun hc=>?_) (fun hc=>?_)
   ·obtain⟨c1,c2⟩:=Bool.and_eq_true_iff.1 hc
    rw[c1]at hq1
    rw[c2]at hq2
    have hDe:=Es hD1 (by have:=of_decide_eq_true hq1;omega) hq2
    refine kE (.cons (k:=1) rfl<|.cons (k:=3) rfl<|.cons (k:=5) rfl<|Sub.nil _) ?_
    refine bg ?_
    first
     |exact⟨_,hmeas,out1,K2,P2,O2,q2,hDe,hok2,rfl,rfl⟩
     |exact⟨_,hmeas,out1,K1,P1,O1,n1,hDe,hok',rfl,rfl⟩
   ·have hfree:i=n∨cR T i=false:=by
     by_cases e:i=n
     ·exact .inl e
     ·right
      have:q1=true:=by rw[←hq1];simp;omega
      rw[this,Bool.true_and]at hc
      rw[hq2,hc]
    clear hq1 hq2 hc
    refine ak<|ab (.a 3 rfl<|.v (qJ rfl he1 rfl rfl (h1 i hiT)) rfl<|.a 2 rfl<|.k [1,3,5,8,66,67,68] rfl) ?_
    have hll:=xi T dir i
    have hD2:xh T D n dir out1 K1 (fun y=>ez O1 (y:Int)) (fun a=>cK T dir a=(i:Int)∧(a:Int)∉(cO T dir i).take 0):=⟨hD1.len,hD1.ge,hD1.root,hD1.rM,hD1.mono,hD1.ph,hD1.my,fun a ha hs=>hD1.closed a ha (fun e=>hs ⟨e,by simp⟩),hD1.ub,hD1.HB⟩
    refine av<|ft [1,3,5,8,66,67,68] rfl<|br (fun r s=>∃j K P O q,j≤(cO T dir i).length∧xh T D n dir out1 K (fun y=>ez O (y:Int)) (fun a=>cK T dir a=(i:Int)∧(a:Int)∉(cO T dir i).take j)∧BV k q K P O∧r=(cO T dir i).length - j∧s=⟨[(1,.aX (lR T D n f1 f2 cap1 cap2) 0),(3,.own 0),(5,.ptr 1 0),(8,num d),(66,aw (cO T dir i)),(67,num (cO T dir i).length),(68,num j)],ij false (some (.row 3 1 k (aO out1))) k q K P O⟩) (cO T dir i).length ⟨0,K1,P1,O1,n1,by omega,hD2,hok',rfl,rfl⟩ ?_
    clear hD2 hok' hD1 K1 P1 O1 n1 hH' hmin hHi hD hok
    rintro r s ⟨j,K2,P2,O2,q2,hj,hD2,hok2,rfl,rfl⟩
    refine ab (.a 1 rfl<|.k [1,3,5,8,66,67,68,69] rfl)<|aj<|ah rfl (fun hc=>?_) (fun hc=>?_)
    ·have hlt:j<(cO T dir i).length:=by have:=of_decide_eq_true hc;omega
     obtain⟨a,ha,ham,hay⟩:=yn T dir i j hlt
     obtain⟨m,hm⟩:=Int.eq_ofNat_of_zero_le (hS.x dir a ham).1
     have hmN:m<k:=by have:=(hS.x dir a ham).2;omega
     have hcb:=hS.cost a ham
     have hDl:D.length=0∨a<D.length:=by simp only[bP,decide_eq_true_eq]at hf;omega
     have hSS:∀b,b<2*T.af.length→(cK T dir b=(i:Int)∧(b:Int)∉(cO T dir i).take j)→(cK T dir b=(i:Int)∧(b:Int)∉(cO T dir i).take (j+1))∨b=a:=fun b _ ⟨e1,e2⟩=>by
      by_cases e:b=a
      ·exact .inr e
      ·left
       refine⟨e1,fun hm'=>?_⟩
       rw[dH _ j 0 hlt,ha]at hm'
       rcases List.mem_append.1 hm' with h|h
       ·exact e2 h
       ·simp at h;exact e (by omega)
     have hayi:at' out1 (cK T dir a)=d:=by rw[hay];exact hati
     have hga:out1.getD m 0=at' out1 (m:Int):=by simp[at',List.getD_eq_getElem?_getD,show m<out1.length by omega]
     refine ak<|aj<|av<|ab (.v (aL (j) rfl) rfl<|.v (aN rfl ((aA _ j hlt).trans (by rw[ha]))) rfl<|.a 1 rfl<|.k [1,3,5,8,11,66,67,68] rfl)<|ab (.a 3 rfl<|.v (qJ rfl he2 rfl rfl (hm▸h2 a ham)) rfl<|.a 1 rfl<|.k [1,3,5,8,11,12,66,67,68] rfl)<|aj ?_
     obtain⟨p1,hp1⟩:∃q,aM D a=q:=⟨_,rfl⟩
     obtain⟨p2,hp2⟩:∃q,decide (0≤out1.getD m 0)=q:=⟨_,rfl⟩
     refine bp 86 (.raw (.bool (p1||p2))) [1,3,5,8,11,12,66,67,68] rfl ?_ ?_
     ·refine .a 3 rfl<|.c rfl (hp1▸je D a hDl) rfl<|.a 1 rfl<|?_
      cases p1
      ·exact .a 2 rfl<|.v (aL (m) rfl) rfl<|.v (aN rfl (aA out1 m (by omega))) rfl<|.v (cb rfl (hp2)) rfl<|.a 1 rfl<|.k [86,1,3,5,8,11,12,66,67,68] rfl
      ·exact .a 6 rfl<|.k [86,1,3,5,8,11,12,66,67,68] rfl
     refine ah rfl (fun hc=>?_) (fun hc=>?_)
     ·have hD3:=zc (S':=fun b=>cK T dir b=(i:Int)∧(b:Int)∉(cO T dir i).take (j+1)) hD2 hSS (fun hw=>.inl (by
       rcases Bool.or_eq_true_iff.1 hc with h|h
       ·rw[hw.1]at hp1;rw[h]at hp1;cases hp1
       ·rw[h]at hp2
        have h3:=of_decide_eq_true hp2
        rw[hga]at h3
        rw[hm,hayi]
        have:=htop m (by omega)
        exact⟨h3,by omega⟩))
      refine bg<|az (.v (aS rfl) rfl<|.a 1 rfl<|.k [1,3,5,8,66,67,68] rfl) ?_
      first
       |exact⟨(cO T dir i).length - (j+1),by omega,j+1,_,P3,O3,n3,by omega,hD3,hok3,rfl,rfl⟩
       |exact⟨(cO T dir i).length - (j+1),by omega,j+1,K2,P2,O2,q2,by omega,hD3,hok2,rfl,rfl⟩
     ·obtain⟨c1,c2⟩:=Bool.or_eq_false_iff.1 hc
      rw[c1]at hp1
      rw[c2]at hp2
      have hmneg:at' out1 (m:Int)<0:=by have:=of_decide_eq_false hp2;rw[hga]at this;omega
      have hway:Net.Way T D n dir out1 a:=⟨hp1,by rw[hayi];exact hk0,by rw[hay,Int.toNat_natCast];rcases hfree with h|h;(exact .inl (by rw[h]));exact .inr h⟩
      refine ak<|ab (.a 4 rfl<|.c rfl (lf T a ham) rfl<|.v (aS rfl) rfl<|.a 1 rfl<|.k [1,3,5,8,12,13,66,67,68] rfl) ?_
      obtain⟨p3,hp3⟩:∃q,(!decide (P2.getD m 0=0))=q:=⟨_,rfl⟩
      obtain⟨kv,hkv⟩:∃z,(if P2.getD m 0=0 then 0 else K2.getD m 0)=z:=⟨_,rfl⟩
      have hkc:=Gk K2 P2 O2 hok2.1.len hok2.2.2.1 (by omega) m hmN
      rw[hp3,hkv]at hkc
      refine ab (.a 2 rfl<|.v (Dd rfl (HC (qO false _ hok2.2.2.1 hok2.1.len hok2.2.1) _) (hkc)) rfl<|.a 5 rfl<|.k [1,3,5,8,12,13,14,15,66,67,68] rfl) ?_
      obtain⟨p4,hp4⟩:∃q,decide (d+ca T a<kv)=q:=⟨_,rfl⟩
      refine bp 105 (.raw (.bool ((!p3)||p4))) [1,3,5,8,12,13,66,67,68] rfl ?_ ?_
      ·refine .a 3 rfl<|?_
       cases p3
       ·exact .a 4 rfl<|.k [105,1,3,5,8,12,13,66,67,68] rfl
       ·exact .a 2 rfl<|.v (cb rfl (hp4)) rfl<|.a 1 rfl<|.k [105,1,3,5,8,12,13,66,67,68] rfl
      refine ah rfl (fun hc=>?_) (fun hc=>?_)
      ·have hnew:¬ez O2 (m:Int)∨at' out1 (cK T dir a)+ca T a<K2.getD m 0:=by
        rw[hayi]
        by_cases e:P2.getD m 0=0
        ·exact .inl ((hok2.1.zero hmN).1 e)
        ·right
         have h3:p3=true:=by rw[←hp3];simp only[e];rfl
         rw[h3]at hc
         have h4:p4=true:=by simpa using hc
         rw[h4]at hp4
         have:=of_decide_eq_true hp4
         rw[if_neg e]at hkv
         omega
       refine bF<|au 3 rfl<|cS rfl rfl (bT.mono (zJ (some (.row 3 1 k (aO out1))) (ku _ _) K2 P2 O2 hok2 (by omega) m hmN (d+ca T a)) (fun _ σ' h=>?_))
       obtain⟨b3,n3,P3,O3,rfl,hok3,hH3⟩:=h
       refine aH [1,3,5,8,66,67,68] rfl ?_
       refine yk (ku _ _) (.cons 1 rfl Ren.pure<|.cons 3 rfl (Ren.own (i:=0) rfl)<|.cons 5 rfl (Ren.ptr (i:=1) rfl)<|.cons 8 rfl Ren.pure<|.cons 66 rfl Ren.pure<|.cons 67 rfl Ren.pure<|.cons 68 rfl Ren.pure<|.nil) ?_
       have hD3:=Gd (S':=fun b=>cK T dir b=(i:Int)∧(b:Int)∉(cO T dir i).take (j+1)) (H':=fun y=>ez O3 (y:Int)) hS hD2 ham hSS hway hm hmneg (fun x hx=>by rw[hayi];exact htop x hx) (by rw[hayi];omega) hnew (by rw[hok2.2.2.1];exact hmN) (fun y=>(hH3 y).trans ⟨fun h=>h.imp id (fun e=>by omega),fun h=>h.imp id (fun e=>by omega)⟩)
       rw[hayi]at hD3
       refine az (.v (aS rfl) rfl<|.a 1 rfl<|.k [1,3,5,8,66,67,68] rfl) ?_
       first
        |exact⟨(cO T dir i).length - (j+1),by omega,j+1,_,P3,O3,n3,by omega,hD3,hok3,rfl,rfl⟩
        |exact⟨(cO T dir i).length - (j+1),by omega,j+1,K2,P2,O2,q2,by omega,hD3,hok2,rfl,rfl⟩
      ·obtain⟨c3,c4⟩:=Bool.or_eq_false_iff.1 hc
       have h3:p3=true:=by cases p3;cases c3;rfl
       rw[h3]at hp3
       rw[c4]at hp4
       have e:P2.getD m 0≠0:=fun e=>by rw[e]at hp3;cases hp3
       have hD3:=zc (S':=fun b=>cK T dir b=(i:Int)∧(b:Int)∉(cO T dir i).take (j+1)) hD2 hSS (fun hw=>.inr (by
        rw[hm,Int.toNat_natCast,hayi]
        refine⟨Classical.byContradiction fun hh=>e ((hok2.1.zero hmN).2 hh),?_⟩
        rw[if_neg e]at hkv
        have:=of_decide_eq_false hp4
        omega))
       refine ak<|az (.v (aS rfl) rfl<|.a 1 rfl<|.k [1,3,5,8,66,67,68] rfl) ?_
       first
        |exact⟨(cO T dir i).length - (j+1),by omega,j+1,_,P3,O3,n3,by omega,hD3,hok3,rfl,rfl⟩
        |exact⟨(cO T dir i).length - (j+1),by omega,j+1,K2,P2,O2,q2,by omega,hD3,hok2,rfl,rfl⟩
    ·have hje:j=(cO T dir i).length:=by have:=of_decide_eq_false hc;omega
     have hDe:xh T D n dir out1 K2 (fun y=>ez O2 (y:Int)) (fun _=>False):=⟨hD2.len,hD2.ge,hD2.root,hD2.rM,hD2.mono,hD2.ph,hD2.my,fun a ha _=>hD2.closed a ha (fun⟨e1,e2⟩=>e2 (by rw[hje,List.take_length];exact(p7 T dir i a).2 ⟨ha,e1⟩)),hD2.ub,hD2.HB⟩
     refine kE (.cons (k:=1) rfl<|.cons (k:=3) rfl<|.cons (k:=5) rfl<|Sub.nil _) ?_
     refine bg ?_
     first
      |exact⟨_,hmeas,out1,K2,P2,O2,q2,hDe,hok2,rfl,rfl⟩
      |exact⟨_,hmeas,out1,K1,P1,O1,n1,hDe,hok',rfl,rfl⟩
end PW
end Go.Proofs.YtnegbdpggideiaaGreatDoor
namespace Go.Proofs.YtnegbdpggideiaaGreatDoor
namespace PW
open Go.RowKit cB Mem Net
def gS(T:ai)(D:List Bool)(L:List Int)(dn:Int)(d a:Nat):Bool:=
 !(aM D a||decide (L.getD (aT T a).toNat 0<0)||(decide (aT T a≠(d:Int))&&cR T (aT T a).toNat))&&decide (L.getD (aT T a).toNat 0+ca T a=dn)
def kC(T:ai)(D:List Bool)(L:List Int)(dn:Int)(d:Nat)(l:List Int):List Int:=l.filter fun a=>gS T D L dn d a.toNat
theorem sX(T:ai)(D:List Bool)(L lv:List Int)(n d:Nat)(hv:ao T=true)(hf:bP T D=true)(hL:(L.length:Int)=T.nodes)(hub:∀x∈L, -1≤x∧x≤4194240)(hn:(n:Int)<T.nodes)(hd:(d:Int)<T.nodes)
    (hlv:∀a∈lv,0≤a∧a<2*(T.af.length:Int)) (hll:lv.length≤100000):
    Can Tryz.prog 148 [aP T,aY D,aw L,aw lv,num n,num d] (· =aw (if n=d∨L.getD n 0<0 then [] else kC T D L (L.getD n 0) d lv)):=by
  have hbd:=fX hv
  have hS:=aK hv
  have hnL:n<L.length:=by omega
  refine aE Tryz.func148 rfl Tryz.ntmps148 rfl<|ab (.a 2 rfl<|.k [1,2,3,4,5,6] rfl)<|ab (.a 1 rfl<|.k [1,2,3,4,5,6,13] rfl) ?_
  obtain⟨q1,hq1⟩:∃q,decide ((n:Int)=(d:Int))=q:=⟨_,rfl⟩
  obtain⟨q2,hq2⟩:∃q,decide (L.getD n 0<0)=q:=⟨_,rfl⟩
  refine aj<|bp 26 (.raw (.bool (q1||q2))) [1,2,3,4,5,6,13] rfl ?_ ?_
  · refine .a 2 rfl<|.v (cb rfl (hq1)) rfl<|.a 1 rfl<|?_
    cases q1
    · exact .a 2 rfl<|.v (aL (n) rfl) rfl<|.v (aN rfl (aA L n hnL)) rfl<|.v (cb rfl (hq2)) rfl<|.a 1 rfl<|.k [26,1,2,3,4,5,6,13] rfl
    · exact .a 6 rfl<|.k [26,1,2,3,4,5,6,13] rfl
  refine ah (b:=q1||q2) rfl (fun hc=>?_) (fun hc=>?_)
  · have:n=d∨L.getD n 0<0:=by
      rcases Bool.or_eq_true_iff.1 hc with h|h
      · rw[h]at hq1;exact .inl (by have:=of_decide_eq_true hq1;omega)
      · rw[h]at hq2;exact .inr (of_decide_eq_true hq2)
    rw[if_pos this]
    refine ab (.a 2 rfl<|.k [12] rfl)<|aq ⟨_,_,.cons (.tmp rfl) .nil,aB.bZ,rfl⟩
  · obtain ⟨c1, c2⟩ := Bool.or_eq_false_iff.1 hc
    rw[c1]at hq1
    rw[c2]at hq2
    have hnd:¬(n=d∨L.getD n 0<0):=by
      have:=of_decide_eq_false hq1
      have:=of_decide_eq_false hq2
      omega
    rw[if_neg hnd]
    refine ak<|aj<|ab (.a 3 rfl<|.k [1,2,4,5,6,13,28,29,30] rfl)<|gQ 13 3 1 rfl ?_
    refine av<|kE (.cons (k:=1) rfl<|.cons (k:=2) rfl<|.cons (k:=4) rfl<|.cons (k:=5) rfl<|.cons (k:=6) rfl<|.cons (k:=13) rfl<|.cons (k:=28) rfl<|.cons (k:=29) rfl<|.cons (k:=30) rfl<|Sub.nil _) ?_
    refine br (fun r s=>∃i,i≤lv.length∧r=lv.length - i∧s=⟨[(1,aY D),(2,aw L),(4,num n),(5,num d),(6,.aX (bx T) 0),(13,.own 0),(28,aw lv),(29,num lv.length),(30,num i)],[some (.row 3 1 (kC T D L (L.getD n 0) d (lv.take i)).length (aO (kC T D L (L.getD n 0) d (lv.take i))))]⟩) lv.length ⟨0,by omega,by omega,?_⟩ ?_
    · simp only[List.take_zero,kC,List.filter_nil]
      rfl
    · rintro r s ⟨i,hi,rfl,rfl⟩
      refine ab (.a 1 rfl<|.k [1,2,4,5,6,13,28,29,30,31] rfl)<|aj<|ah (b:=decide ((i:Int)<(lv.length:Int))) rfl (fun hc=>?_) (fun hc=>?_)
      · have hlt:i<lv.length:=by have:=of_decide_eq_true hc;omega
        refine ak ?_
        obtain⟨a,ha⟩:∃a:Nat,lv.getD i 0=(a:Int):=Int.eq_ofNat_of_zero_le (hlv _ (bX hlt)).1
        have ham:a<2*T.af.length:=by
          have:=(hlv (lv.getD i 0) (bX hlt)).2
          omega
        have hstep:kC T D L (L.getD n 0) d (lv.take (i+1))=kC T D L (L.getD n 0) d (lv.take i)++(if gS T D L (L.getD n 0) d a then [(a:Int)] else []):=by
          unfold kC
          rw[List.take_add_one,List.filter_append,show lv[i]? =some (a:Int) by rw[←ha,List.getD_eq_getElem?_getD];simp[hlt]]
          congr 1
          simp only[Option.toList_some,List.filter_cons,List.filter_nil,Int.toNat_natCast]
        have hlen:(kC T D L (L.getD n 0) d (lv.take i)).length≤100000:=Nat.le_trans (List.length_filter_le _ _) (by rw[List.length_take];omega)
        obtain⟨hd0,hhN⟩:=hS.head a ham
        obtain⟨h,hh⟩:=Int.eq_ofNat_of_zero_le hd0
        have hhL:h<L.length:=by omega
        have hub1: -1≤L.getD h 0∧L.getD h 0≤4194240:=hub _ (bX hhL)
        have hcb:=hS.cost a ham
        have hDl:D.length=0∨a<D.length:=by simp only[bP,decide_eq_true_eq]at hf;omega
        have hov:T.over.length=0∨h<T.over.length:=by have:=hbd.2.2.2;omega
        refine aj<|av<|ab (.v (aL (i) rfl) rfl<|.v (aN rfl ((aA lv i hlt).trans (by rw[ha]))) rfl<|.a 1 rfl<|.k [1,2,4,5,6,13,15,28,29,30] rfl)<|ab (.a 2 rfl<|.c rfl (hh▸fH T a ham (by omega)) rfl<|.a 1 rfl<|.k [1,2,4,5,6,13,15,16,28,29,30] rfl) ?_
        obtain⟨p1,hp1⟩:∃q,aM D a=q:=⟨_,rfl⟩
        obtain⟨p2,hp2⟩:∃q,decide (L.getD h 0<0)=q:=⟨_,rfl⟩
        obtain⟨p3,hp3⟩:∃q,decide ((h:Int)≠(d:Int))=q:=⟨_,rfl⟩
        obtain⟨p4,hp4⟩:∃q,cR T h=q:=⟨_,rfl⟩
        obtain⟨p5,hp5⟩:∃q,decide (L.getD h 0+ca T a=L.getD n 0)=q:=⟨_,rfl⟩
        have hpass:gS T D L (L.getD n 0) d a=(!((p1||p2)||(p3&&p4))&&p5):=by
          unfold gS;rw[hh,Int.toNat_natCast,hp1,hp2,hp3,hp4,hp5]
        refine aj<|bp 56 (.raw (.bool ((p1||p2)||(p3&&p4)))) [1,2,4,5,6,13,15,16,28,29,30] rfl ?_ ?_
        · refine .a 2 rfl<|.c rfl (hp1▸je D a hDl) rfl<|.a 1 rfl<|?_
          cases p1
          · refine .a 2 rfl<|.v (aL (h) rfl) rfl<|.v (aN rfl (aA L h hhL)) rfl<|.v (cb rfl (hp2)) rfl<|.a 2 rfl<|?_
            cases p2
            · refine .a 2 rfl<|.v (cb rfl (hp3)) rfl<|.a 1 rfl<|?_
              cases p3
              · exact .a 5 rfl<|.k [56,1,2,4,5,6,13,15,16,28,29,30] rfl
              · exact .a 2 rfl<|.c rfl (hp4▸nM T h hov) rfl<|.a 2 rfl<|.k [56,1,2,4,5,6,13,15,16,28,29,30] rfl
            · exact .a 9 rfl<|.k [56,1,2,4,5,6,13,15,16,28,29,30] rfl
          · exact .a 16 rfl<|.k [56,1,2,4,5,6,13,15,16,28,29,30] rfl
        refine ah (b:=(p1||p2)||(p3&&p4)) rfl (fun hc=>?_) (fun hc=>?_)
        · rw[hc]at hpass
          refine bg<|az (.v (aS rfl) rfl<|.a 1 rfl<|.k [1,2,4,5,6,13,28,29,30] rfl) ?_
          refine⟨lv.length - (i+1),by omega,i+1,by omega,rfl,?_⟩
          rw[hstep,hpass]
          simp only[Bool.not_true,Bool.false_and,Bool.false_eq_true,if_false,List.append_nil]
          rfl
        · rw[hc]at hpass
          refine ak<|ei mixed (by kernel_rfl) (.a 2 rfl<|.v [57,58] (aL (h) rfl) rfl rfl<|.v [59] (aN rfl (aA L h hhL)) rfl rfl<|.a 2 rfl<|.v [61,62] (dR rfl (lf T a ham)) rfl rfl<|.v [60,63] (aS rfl) rfl rfl<|.a 2 rfl<|.v [65,66] (aL (n) rfl) rfl rfl<|.v [67] (aN rfl (aA L n hnL)) rfl rfl<|.v [64,68] (cb rfl (hp5)) rfl rfl<|.k [1,2,4,5,6,13,15,28,29,30,69] rfl) ?_
          refine ah (b:=p5) rfl (fun hc5=>?_) (fun hc5=>?_)
          · rw[hc5]at hpass
            refine bF<|au 3 rfl<|cn (bA rfl (bI.rk.get rfl) rfl rfl rfl rfl (by unfold maxLen;omega)) rfl<|au 1 rfl ?_
            refine ep [1] (.c 1<|.c 2<|.c 4<|.c 5<|.c 6<|.c 13<|.c 28<|.c 29<|.c 30<|.nil) (.kept rfl (.fj rfl (df _ _))<|.nil) rfl rfl (aZ ?_)
            refine az (.v (aS rfl) rfl<|.a 1 rfl<|.k [1,2,4,5,6,13,28,29,30] rfl) ?_
            refine⟨lv.length - (i+1),by omega,i+1,by omega,rfl,?_⟩
            rw[hstep,hpass]
            simp only[Bool.not_false,Bool.true_and,if_true,List.length_append,List.length_singleton]
            rfl
          · rw[hc5]at hpass
            refine ak<|az (.v (aS rfl) rfl<|.a 1 rfl<|.k [1,2,4,5,6,13,28,29,30] rfl) ?_
            refine⟨lv.length - (i+1),by omega,i+1,by omega,rfl,?_⟩
            rw[hstep,hpass]
            simp only[Bool.not_false,Bool.true_and,Bool.false_eq_true,if_false,List.append_nil]
            rfl
      · have:i=lv.length:=by have:=of_decide_eq_false hc;omega
        subst this
        rw[List.take_length]
        exact bg<|ab (.a 2 rfl<|.k [12] rfl)<|aq ⟨_,_,.cons (.tmp rfl) .nil,aB.ew rfl an.pure,rfl⟩
end PW
end Go.Proofs.YtnegbdpggideiaaGreatDoor
namespace Go.Proofs.YtnegbdpggideiaaGreatDoor
namespace PW
open Go.RowKit cB Mem Net Heap
instance (rs:List (List Int)):eT (iY rs):=by unfold iY;infer_instance
instance (T:ai):cr (bx T):=by unfold bx;infer_instance
def cw(T:ai)(D:List Bool)(ns:List Int):Int:=if ao T&&bP T D then(if ns.all (bn T) then 0 else 2) else 1
theorem ow(T:ai)(D:List Bool)(ns:List Int)(hns:ns.length≤1000):Can Tryz.prog 173 [aP T,aY D,aw ns] (· =num (cw T D ns)):=by
 refine aE Tryz.func173 rfl Tryz.ntmps173 rfl<|ab (.a 2 rfl<|.k [1,2,3] rfl)<|aj ?_
 obtain⟨q1,hq1⟩:∃q,ao T=q:=⟨_,rfl⟩
 obtain⟨q2,hq2⟩:∃q,bP T D=q:=⟨_,rfl⟩
 refine bp 17 (.raw (.bool ((!q1)||(!q2)))) [2,3] rfl ?_ ?_
 ·refine .a 1 rfl<|.c rfl (hq1▸eh T) rfl<|.a 2 rfl<|?_
  cases q1
  ·exact .a 5 rfl<|.k [17,2,3] rfl
  ·exact .a 2 rfl<|.c rfl (hq2▸kY T D (by have:=bO hq1;omega)) rfl<|.a 2 rfl<|.k [17,2,3] rfl
 refine ah rfl (fun hc=>?_) (fun hc=>?_)
 ·have hch:cw T D ns=1:=by
   unfold cw
   rw[hq1,hq2,if_neg]
   revert hc
   cases q1<;>cases q2<;>simp
  exact ab (.a 1 rfl<|.k [6] rfl)<|aq<|⟨_,_,ay.of rfl,aB.pure,by rw[hch];rfl⟩
 ·have hok:(ao T&&bP T D)=true:=by
   rw[hq1,hq2]
   revert hc
   cases q1<;>cases q2<;>simp
  refine ak<|aj<|ab (.a 3 rfl<|.k [3,18,19,20] rfl)<|av<|ft [3,18,19,20] rfl<|br (fun r s=>∃i,i≤ns.length∧(ns.take i).all (bn T)=true∧r=ns.length - i∧s=⟨[(3,.aX (bx T) 0),(18,aw ns),(19,num ns.length),(20,num i)],[]⟩) ns.length ⟨0,by omega,by simp,by omega,rfl⟩ ?_
  rintro r s ⟨i,hi,hall,rfl,rfl⟩
  refine ab (.a 1 rfl<|.k [3,18,19,20,21] rfl)<|aj<|ah rfl (fun hc=>?_) (fun hc=>?_)
  ·have hlt:i<ns.length:=by have:=of_decide_eq_true hc;omega
   refine ak<|aj<|av<|ab (.v (aL (i) rfl) rfl<|.v (aN rfl (aA ns i hlt)) rfl<|.a 1 rfl<|.k [3,8,18,19,20] rfl)<|ab (.a 2 rfl<|.c rfl (dp T _) rfl<|.a 1 rfl<|.k [3,18,19,20,27] rfl)<|ah rfl (fun hc=>?_) (fun hc=>?_)
   ·have hch:cw T D ns=2:=by
     unfold cw
     rw[if_pos hok,if_neg]
     intro h
     have h1:=List.all_eq_true.1 h _ (bX (d:=0) hlt)
     rw[h1]at hc
     cases hc
    exact ab (.a 1 rfl<|.k [6] rfl)<|aq<|⟨_,_,ay.of rfl,aB.pure,by rw[hch];rfl⟩
   ·have hall':(ns.take (i+1)).all (bn T)=true:=by
     rw[dH ns i 0 hlt,List.all_append,hall]
     have:bn T (ns.getD i 0)=true:=by revert hc;cases bn T (ns.getD i 0)<;>simp
     simp only[List.all_cons,this,List.all_nil,Bool.and_self]
    refine ak<|az (.v (aS rfl) rfl<|.a 1 rfl<|.k [3,18,19,20] rfl) ?_
    exact⟨ns.length - (i+1),by omega,i+1,by omega,hall',rfl,rfl⟩
  ·have hie:i=ns.length:=by have:=of_decide_eq_false hc;omega
   refine bg<|ab (.a 1 rfl<|.k [6] rfl)<|aq<|⟨_,_,ay.of rfl,aB.pure,?_⟩
   unfold cw
   rw[if_pos hok,if_pos (by rw[hie,List.take_length]at hall;exact hall)]
   rfl
theorem Bu(rs:List (List Int))(i:Nat)(hi:i<rs.length):Can Tryz.prog 175 ([num i]++[.aX [iY rs] 0]) (· =aw (rs.getD i [])):=by
 exact aE Tryz.func175 rfl Tryz.ntmps175 rfl<|ab (.a 1 rfl<|.k [0,1] rfl)<|ab (.a 2 rfl<|.v (aL (i) rfl) rfl<|.v (aN rfl ((show(rs.map aw)[i]? =some (aw (rs.getD i [])) by simp[hi]))) rfl<|.a 1 rfl<|.k [3] rfl)<|aq<|⟨_,_,ay.of rfl,aB.pure,rfl⟩
theorem Bn(T:ai)(a:Nat)(ha:a<2*T.af.length):Can Tryz.prog 176 ([num a]++[.aX (bx T) 0]) (· =num (bb T a)):=by
 exact aE Tryz.func176 rfl Tryz.ntmps176 rfl<|ab (.a 1 rfl<|.k [0,1] rfl)<|ab (.a 2 rfl<|.c rfl (iT T a ha) rfl<|.a 1 rfl<|.k [3] rfl)<|aq<|⟨_,_,ay.of rfl,aB.pure,rfl⟩
def dx(e:Int)(l:List Int):PV:=.tuple [aw (if e=0 then l else []),num e]
instance (e:Int) (l:List Int):IsPure (dx e l):=by unfold dx;infer_instance
theorem qu(T:ai)(D:List Bool)(d:Int):Can Tryz.prog 151 [aP T,aY D,num d] (· =dx (cw T D [d]) (bu T D d.toNat false)):=by
 refine aE Tryz.func151 rfl Tryz.ntmps151 rfl<|ab (.a 3 rfl<|.k [1,2,3] rfl)<|aj<|ab (.a 4 rfl<|.c rfl (ow T D [d] (by simp)) rfl<|.a 1 rfl<|.k [1,2,3,8] rfl)<|ab (.a 2 rfl<|.k [1,2,3,8,17] rfl)<|ah rfl (fun hc=>?_) (fun hc=>?_)
 ·have he:cw T D [d]≠0:=of_decide_eq_true hc
  exact ab (.a 3 rfl<|.k [6,7] rfl)<|aq<|⟨_,_,ay.of rfl,aB.bG (an.cons aB.bZ (an.cons aB.pure an.nil)),by unfold dx;rw[if_neg he];rfl⟩
 ·have he:cw T D [d]=0:=by have:=of_decide_eq_false hc;omega
  have hok:(ao T&&bP T D)=true∧bn T d=true:=by
   unfold cw at he
   split at he
   ·rename_i h1
    split at he
    ·rename_i h2;exact⟨h1,by simpa using h2⟩
    ·omega
   ·omega
  obtain⟨hvf,hnd⟩:=hok
  obtain⟨hv,hf⟩:=Bool.and_eq_true_iff.1 hvf
  have hd:0≤d∧d<T.nodes:=by simpa[bn]using hnd
  obtain⟨n,rfl⟩:=Int.eq_ofNat_of_zero_le hd.1
  have hS:=aK hv
  refine ak<|aQ<|au 1 rfl<|eA rfl (tI T hv) rfl<|au 2 rfl<|aH [1,2,3,9] rfl ?_
  refine aQ<|au 3 rfl<|bE (dM rfl rfl) rfl<|au 4 rfl<|aH [10] rfl ?_
  refine wz (.cons 10 rfl (aB.jk rfl (an.cons aB.pure<|an.cons aB.pure<|an.cons aB.pure<|an.cons aB.pure<|an.cons aB.pure<|an.cons (aB.iw (an.cons (aB.jk rfl (an.cons aB.pure an.nil)) an.nil))<|an.cons aB.pure an.nil)) .nil) ?_
  exact ab (.a 1 rfl<|.c rfl (zN T D n false 175 176 [.aX [iY (dr (aT T) T.nodes.toNat (2*T.af.length))] 0] [.aX (bx T) 0] hv hf hd.2 (by kernel_rfl) (by kernel_rfl) (fun i hi=>by have h:=Bu (dr (aT T) T.nodes.toNat (2*T.af.length)) i (by rw[eM];omega);rw[iL _ _ _ _ (by omega)]at h;exact h) (fun a ha=>Bn T a ha)) rfl<|.a 2 rfl<|.k [6,7] rfl)<|aq<|⟨_,_,ay.of rfl,aB.pure,by unfold dx;rw[if_pos he,he];rfl⟩
end PW
end Go.Proofs.YtnegbdpggideiaaGreatDoor
namespace Go.Proofs.YtnegbdpggideiaaGreatDoor
namespace PW
open Go.RowKit cB Mem Net Heap
theorem nP(T:ai)(hl:T.af.length≤256)(n:Int):Can Tryz.prog 74 [aP T,num n] (· =aw (bJ T n)):=by
 refine aE Tryz.func74 rfl Tryz.ntmps74 rfl<|ab (.a 2 rfl<|.k [1,2] rfl)<|ab (.a 1 rfl<|.k [1,2,5] rfl)<|gQ 5 3 1 rfl ?_
 refine aj<|ab (.a 1 rfl<|.c rfl (gX T (by omega)) rfl<|.a 1 rfl<|.k [1,2,5,8,9] rfl)<|av<|ft [1,2,5,8,9] rfl<|br (fun r s=>∃k,k≤2*T.af.length∧r=2*T.af.length - k∧s=⟨[(1,num n),(2,.aX (bx T) 0),(5,.own 0),(8,num (2*(T.af.length:Int))),(9,num k)],[some (.row 3 1 (iy T n k).length (aO (iy T n k)))]⟩) (2*T.af.length) ⟨0,by omega,by omega,rfl⟩ ?_
 rintro r s ⟨k,hk,rfl,rfl⟩
 refine ab (.a 1 rfl<|.k [1,2,5,8,9,10] rfl)<|aj<|ah rfl (fun hc=>?_) (fun hc=>?_)
 ·have hlt:k<2*T.af.length:=by have:=of_decide_eq_true hc;omega
  have hlen:=ek T n k
  refine ak<|aj<|av<|ab (.a 2 rfl<|.k [1,2,5,6,8,9] rfl)<|ab (.a 2 rfl<|.c rfl (iT T k hlt) rfl<|.a 2 rfl<|.k [1,2,5,6,8,9,16] rfl)<|ah rfl (fun hc=>?_) (fun hc=>?_)
  ·have hst:=Bl T n k (by simpa using of_decide_eq_true hc)
   refine bF<|au 3 rfl<|cn (bA rfl (bI.rk.get rfl) rfl rfl rfl rfl (by unfold maxLen;omega)) rfl<|au 1 rfl ?_
   refine ep [1] (.c 1<|.c 2<|.c 5<|.c 8<|.c 9<|.nil) (.kept rfl (.fj rfl (df _ _))<|.nil) rfl rfl (aZ ?_)
   refine az (.v (aS rfl) rfl<|.a 1 rfl<|.k [1,2,5,8,9] rfl) ?_
   refine⟨2*T.af.length - (k+1),by omega,k+1,by omega,rfl,?_⟩
   rw[hst]
   first
    |rfl
    |(simp only[List.length_append,List.length_singleton];rfl)
  ·have hst:=Dh T n k (by simpa using of_decide_eq_false hc)
   refine ak<|az (.v (aS rfl) rfl<|.a 1 rfl<|.k [1,2,5,8,9] rfl) ?_
   refine⟨2*T.af.length - (k+1),by omega,k+1,by omega,rfl,?_⟩
   rw[hst]
   first
    |rfl
    |(simp only[List.length_append,List.length_singleton];rfl)
 ·have hke:k=2*T.af.length:=by have:=of_decide_eq_false hc;omega
  subst hke
  exact bg<|ab (.a 2 rfl<|.k [4] rfl)<|aq<|⟨_,_,ay.of rfl,aB.ew rfl an.pure,rfl⟩
def cc(T:ai)(D:List Bool)(n d:Int):Int:=if cw T D [d]=0 then(if bn T n then 0 else 2) else cw T D [d]
theorem sV(T:ai)(D:List Bool)(n d:Int):Can Tryz.prog 147 [aP T,aY D,num n,num d] (· =dx (cc T D n d) (bu T D d.toNat false)):=by
 refine aE Tryz.func147 rfl Tryz.ntmps147 rfl<|ab (.a 3 rfl<|.k [1,2,3,4] rfl)<|ab (.a 3 rfl<|.c rfl (qu T D d) rfl<|.a 5 rfl<|.k [2,4,10,11] rfl)<|aj<|ab (.a 2 rfl<|.k [2,4,10,11,20] rfl)<|ah rfl (fun hc=>?_) (fun hc=>?_)
 ·have he:cw T D [d]≠0:=of_decide_eq_true hc
  exact ab (.a 3 rfl<|.k [8,9] rfl)<|aq<|⟨_,_,ay.of rfl,aB.bG (an.cons aB.bZ (an.cons aB.pure an.nil)),by unfold dx cc;rw[if_neg he,if_neg he];rfl⟩
 ·have he:cw T D [d]=0:=by have:=of_decide_eq_false hc;omega
  refine ak<|aj<|ab (.a 2 rfl<|.c rfl (dp T n) rfl<|.a 1 rfl<|.k [10,25] rfl)<|ah rfl (fun hc=>?_) (fun hc=>?_)
  ·have hn:bn T n=false:=by revert hc;cases bn T n<;>simp
   exact ab (.a 2 rfl<|.k [8,9] rfl)<|aq<|⟨_,_,ay.of rfl,aB.bG (an.cons aB.bZ (an.cons aB.pure an.nil)),by unfold dx cc;rw[if_pos he,hn];rfl⟩
  ·have hn:bn T n=true:=by revert hc;cases bn T n<;>simp
   exact ak<|ab (.a 3 rfl<|.k [8,9] rfl)<|aq<|⟨_,_,ay.of rfl,aB.pure,by unfold dx cc;simp only[he,hn,if_true];rfl⟩
theorem tf{T:ai}{D:List Bool}{ns:List Int}(he:cw T D ns=0):ao T=true∧bP T D=true∧∀n∈ns,bn T n=true:=by
 unfold cw at he
 split at he
 ·rename_i h1
  split at he
  ·rename_i h2
   obtain⟨a,b⟩:=Bool.and_eq_true_iff.1 h1
   exact⟨a,b,List.all_eq_true.1 h2⟩
  ·omega
 ·omega
theorem fm{T:ai}{D:List Bool}{n d:Int}(he:cc T D n d=0):ao T=true∧bP T D=true∧bn T n=true∧bn T d=true:=by
 unfold cc at he
 split at he
 ·rename_i h1
  obtain⟨a,b,c⟩:=tf h1
  split at he
  ·rename_i h2;exact⟨a,b,h2,c d (by simp)⟩
  ·omega
 ·omega
theorem dq{T:ai}{D:List Bool}(hv:ao T=true){d:Nat}{dir:Bool}(hd:(d:Int)<T.nodes):((bu T D d dir).length:Int)=T.nodes∧∀x∈bu T D d dir, -1≤x∧x≤4194240:=by
 have hS:=aK hv
 have hI:=Aj hS D dir hd
 refine⟨hI.len,fun x hx=>?_⟩
 obtain⟨i,hi,rfl⟩:=List.getElem_of_mem hx
 have hin:(i:Int)<T.nodes:=by have:=hI.len;omega
 have h1:=hI.ge i hin
 have h2:=hI.IJ i hin
 have h3:=oE (bu T D d dir)
 have h4:=hS.nodes
 have h5:=hI.len
 rw[Ck _ i hi]at h1 h2
 omega
noncomputable def bz(T:ai)(D:List Bool)(n d:Nat):List Int:=
 if n=d∨(bu T D d false).getD n 0<0 then [] else kC T D (bu T D d false) ((bu T D d false).getD n 0) d (bJ T n)
theorem jX{T:ai}{n:Int}{a:Int}(h:a∈bJ T n):0≤a∧a<2*(T.af.length:Int):=by
 unfold bJ iy at h
 obtain⟨b,hb,rfl⟩:=List.mem_map.1 h
 have:=(List.mem_filter.1 hb).1
 have:=List.mem_range.1 this
 simp;omega
theorem rh(T:ai)(D:List Bool)(n d:Int):Can Tryz.prog 109 [aP T,aY D,num n,num d] (· =dx (cc T D n d) (bz T D n.toNat d.toNat)):=by
 refine aE Tryz.func109 rfl Tryz.ntmps109 rfl<|ab (.a 3 rfl<|.k [1,2,3,4] rfl)<|ab (.a 4 rfl<|.c rfl (sV T D n d) rfl<|.a 5 rfl<|.k [1,2,3,4,10,11] rfl)<|aj<|ab (.a 2 rfl<|.k [1,2,3,4,10,11,21] rfl)<|ah rfl (fun hc=>?_) (fun hc=>?_)
 ·have he:cc T D n d≠0:=of_decide_eq_true hc
  exact ab (.a 3 rfl<|.k [8,9] rfl)<|aq<|⟨_,_,ay.of rfl,aB.bG (an.cons aB.bZ (an.cons aB.pure an.nil)),by unfold dx;rw[if_neg he];rfl⟩
 ·have he:cc T D n d=0:=by have:=of_decide_eq_false hc;omega
  rw[he]
  obtain⟨hv,hf,hn,hd⟩:=fm he
  rw[aV]at hn hd
  obtain⟨n,rfl⟩:=Int.eq_ofNat_of_zero_le hn.1
  obtain⟨d,rfl⟩:=Int.eq_ofNat_of_zero_le hd.1
  have hll:=bO hv
  obtain⟨hb1,hb2⟩:=dq (D:=D) hv (dir:=false) hd.2
  refine ak<|ei mixed (by kernel_rfl) (.a 5 rfl<|.v [26,27] (dR rfl (nP T hll _)) rfl rfl<|.a 2 rfl<|.v [23,24,25,28,29,30] (dR rfl (sX T D (bu T D d false) (bJ T n) n d hv hf hb1 hb2 hn.2 hd.2 (fun a ha=>jX ha) (Nat.le_trans (ek T n _) (by omega)))) rfl rfl<|.a 2 rfl<|.k [8,9] rfl) ?_
  exact aq<|⟨_,_,ay.of rfl,aB.pure,rfl⟩
end PW
end Go.Proofs.YtnegbdpggideiaaGreatDoor
namespace Go.Proofs.YtnegbdpggideiaaGreatDoor
namespace PW
open Go.RowKit cB Mem Net
structure b7 where
 kind:Int
 num:Int
deriving DecidableEq
structure iC where
 aI:List Int
 rep:Bool
 push:List b7
structure ee where
 node:Int
 fq:List iC
 down:List Int
def mY(s:b7):List PV:=[num s.kind,num s.num]
def yM(s:b7):PV:=.agg (mY s)
def eL(l:List b7):List PV:=l.flatMap mY
def cI(l:List b7):PV:=.slice l.length (eL l)
def kg(e:iC):List PV:=[aw e.aI,flag e.rep,cI e.push]
def wN(e:iC):PV:=.agg (kg e)
def dA(l:List iC):List PV:=l.flatMap kg
def jQ(l:List iC):PV:=.slice l.length (dA l)
def fT(t:ee):List PV:=[num t.node,jQ t.fq,aw t.down]
def fN(t:ee):PV:=.agg (fT t)
def mB(l:List ee):List PV:=l.flatMap fT
def iz(l:List ee):PV:=.slice l.length (mB l)
instance (s:b7):aJ (mY s):=by unfold mY;infer_instance
instance (s:b7):cr (mY s):=by unfold mY;infer_instance
instance (s:b7):IsPure (yM s):=by unfold yM;infer_instance
instance (l:List b7):aJ (eL l):=aJ.flatMap _ _ fun _=>inferInstance
instance (l:List b7):cr (eL l):=cr.flatMap _ _ fun _=>inferInstance
instance (l:List b7):IsPure (cI l):=by unfold cI;infer_instance
instance (l:List b7):eT (cI l):=by unfold cI;infer_instance
instance (e:iC):aJ (kg e):=by unfold kg;infer_instance
instance (e:iC):cr (kg e):=by unfold kg;infer_instance
instance (e:iC):IsPure (wN e):=by unfold wN;infer_instance
instance (l:List iC):aJ (dA l):=aJ.flatMap _ _ fun _=>inferInstance
instance (l:List iC):cr (dA l):=cr.flatMap _ _ fun _=>inferInstance
instance (l:List iC):IsPure (jQ l):=by unfold jQ;infer_instance
instance (l:List iC):eT (jQ l):=by unfold jQ;infer_instance
instance (t:ee):aJ (fT t):=by unfold fT;infer_instance
instance (t:ee):cr (fT t):=by unfold fT;infer_instance
instance (t:ee):IsPure (fN t):=by unfold fN;infer_instance
instance (l:List ee):aJ (mB l):=aJ.flatMap _ _ fun _=>inferInstance
instance (l:List ee):cr (mB l):=cr.flatMap _ _ fun _=>inferInstance
instance (l:List ee):IsPure (iz l):=by unfold iz;infer_instance
instance (l:List ee):eT (iz l):=by unfold iz;infer_instance
theorem mN(l:List iC)(e:iC):dA l++kg e=dA (l++[e]):=by simp[dA]
theorem rq(l:List ee)(e:ee):mB l++fT e=mB (l++[e]):=by simp[mB]
theorem flat_get{α:Type}(f:α→List PV)(s:Nat)(hf:∀a,(f a).length=s):∀(l:List α) (i j:Nat) (a:α),l[i]? =some a→j<s→(l.flatMap f)[i*s+j]? =(f a)[j]?
 | [],i,j,a,h,_=>by simp at h
 |b::l,0,j,a,h,hj=>by
  simp at h;subst h
  rw[List.flatMap_cons,Nat.zero_mul,Nat.zero_add,List.getElem?_append_left (by rw[hf];exact hj)]
 |b::l,i+1,j,a,h,hj=>by
  have:=flat_get f s hf l i j a (by simpa using h) hj
  have e1:(i+1)*s=i*s+s:=Nat.succ_mul i s
  have e2:(i+1)*s+j - s=i*s+j:=by omega
  have e3:(f b).length≤(i+1)*s+j:=by rw[hf];omega
  rw[List.flatMap_cons,List.getElem?_append_right e3,hf,e2,this]
theorem lK{α:Type}(f:α→List PV)(s:Nat)(hf:∀a,(f a).length=s):∀(l:List α) (i:Nat) (a:α),l[i]? =some a→((l.flatMap f).drop (i*s)).take s=f a
 | [],i,a,h=>by simp at h
 |b::l,0,a,h=>by
  simp at h;subst h
  rw[List.flatMap_cons,Nat.zero_mul,List.drop_zero]
  exact List.take_left' (hf b)
 |b::l,i+1,a,h=>by
  have:=lK f s hf l i a (by simpa using h)
  have e1:(i+1)*s=s+i*s:=by rw[Nat.succ_mul];omega
  rw[List.flatMap_cons,e1,←List.drop_drop,List.drop_left' (hf b),this]
theorem D5{α:Type}(f:α→List PV)(s:Nat)(hf:∀a,(f a).length=s)(l:List α):(l.flatMap f).length=l.length*s:=by
 induction l with
 |nil=>simp
 |cons a l ih=>rw[List.flatMap_cons,List.length_append,ih,hf,List.length_cons,Nat.succ_mul];omega
theorem vA(l:List iC)(i j:Nat)(e:iC)(h:l[i]? =some e)(hj:j<3):(dA l)[i*3+j]? =(kg e)[j]? :=flat_get kg 3 (fun _=>rfl) l i j e h hj
theorem oY(l:List iC)(i:Nat)(e:iC)(h:l[i]? =some e):((dA l).drop (i*3)).take 3=kg e:=lK kg 3 (fun _=>rfl) l i e h
theorem uM(l:List b7)(i j:Nat)(e:b7)(h:l[i]? =some e)(hj:j<2):(eL l)[i*2+j]? =(mY e)[j]? :=flat_get mY 2 (fun _=>rfl) l i j e h hj
theorem og(l:List b7)(i:Nat)(e:b7)(h:l[i]? =some e):((eL l).drop (i*2)).take 2=mY e:=lK mY 2 (fun _=>rfl) l i e h
theorem ma(l:List ee)(i:Nat)(e:ee)(h:l[i]? =some e):((mB l).drop (i*3)).take 3=fT e:=lK fT 3 (fun _=>rfl) l i e h
theorem CP{P:Program}{σ:cd}{t:bY}{o:Oper}{p q:PV}(h:bm P σ t o p)(hl:jg p q):bm P σ t o q:=fun F base E ρ w hρ hS hT=>by
 have:=h F base E ρ w hρ hS hT
 generalize (execOp ρ o).run P w=x at*
 cases x with
 |ok n w'=>
  cases n with
  |value v=>exact⟨this.1,hl _ _ _ this.2⟩
  |skip=>exact⟨this.1,hl _ _ _ this.2⟩
  |enter f args=>exact⟨this.1,Calls.mono this.2 (fun e w'' ⟨x,h1,h2,h3⟩=>⟨x,h1,h2,hl _ _ _ h3⟩)⟩
  |_=>exact this
 |halt x w'=>exact this
def AT(xs ys:List PV):Prop:=xs.length=ys.length∧∀(i:Nat) x y,xs[i]? =some x→ys[i]? =some y→jg x y
theorem AT.nil:AT [] []:=⟨rfl,fun i x y h=>by simp at h⟩
theorem AT.cons{x y:PV}{xs ys:List PV}(h:jg x y)(hs:AT xs ys):AT (x::xs) (y::ys):=⟨by simp[hs.1],fun j a b h1 h2=>by
 cases j with
 |zero=>simp at h1 h2;subst h1;subst h2;exact h
 |succ j=>exact hs.2 j a b (by simpa using h1) (by simpa using h2)⟩
theorem jg.iH{xs ys:List PV}(h:AT xs ys):jg (.agg xs) (.agg ys):=fun E w v hv=>by
 cases hv with
 |agg cs _ hl hr=>exact .agg cs ys (hl.trans h.1) (fun i c u h1 h2=>by
   have hi:i<xs.length:=by rw[h.1];exact(List.getElem?_eq_some_iff.1 h2).1
   exact h.2 i xs[i] u (by simp[hi]) h2 E w c (hr i c _ h1 (by simp[hi])))
noncomputable def oa(T:ai)(D:List Bool)(n k:Nat):List iC:=(List.range k).map fun d=>⟨bz T D n d,false,[]⟩
def cF(D:List Bool)(l:List Int):List Int:=l.filter fun a=>aM D a.toNat
noncomputable def dE(T:ai)(D:List Bool)(n:Nat):ee:=⟨n,oa T D n T.nodes.toNat,cF D (bJ T n)⟩
noncomputable def jx(T:ai)(D:List Bool)(n:Int):ee:=if cw T D [n]=0 then dE T D n.toNat else⟨0,[],[]⟩
theorem vq(T:ai)(D:List Bool)(n k:Nat):oa T D n (k+1)=oa T D n k++[⟨bz T D n k,false,[]⟩]:=by simp[oa,List.range_succ]
theorem tG(T:ai)(D:List Bool)(n k:Nat):(oa T D n k).length=k:=by simp[oa]
end PW
end Go.Proofs.YtnegbdpggideiaaGreatDoor
namespace Go.Proofs.YtnegbdpggideiaaGreatDoor
namespace PW
open Go.RowKit cB Mem Net
section
variable {H:Type} {enc:TypeId×Value→H} {W:World}
end
end PW
end Go.Proofs.YtnegbdpggideiaaGreatDoor
namespace Go.Proofs.YtnegbdpggideiaaGreatDoor
namespace PW
open Go.RowKit cB Mem Net Go.WideShapes
section
variable {H:Type} {enc:TypeId×Value→H} {W:World}
theorem Cn{n:Nat}{cs:List Value}{y:DataW H×List MemPlace}(h:DataW.trod enc Tryz.prog W 0 (fun _=>true) true n 25 cs=some y)(hl:cs.length=3):∃T:ai,aU EN W cs (bx T):=by
 have c0':Tryz.prog.cellsOf 3=1:=by kernel_rfl
 have c1':Tryz.prog.cellsOf 22=1:=by kernel_rfl
 have c2':Tryz.prog.cellsOf 23=1:=by kernel_rfl
 obtain⟨xs,m,_,_,_,hlen,hf⟩:=DataW.trod_struct Tryz.underlying25 h
 match cs,hl with
 | [c0,c1,c2],_=>
  match xs,hlen with
  | [y0,y1,y2],_=>
   have f0:DataW.trod enc Tryz.prog W 0 (fun _=>true) true m 3 (([c0,c1,c2].drop 0).take (Tryz.prog.cellsOf 3))=some y0:=hf 0 _ rfl
   rw[c0']at f0
   have f1:DataW.trod enc Tryz.prog W 0 (fun _=>true) true m 22 (([c0,c1,c2].drop 1).take (Tryz.prog.cellsOf 22))=some y1:=hf 1 _ rfl
   rw[c1']at f1
   have f2:DataW.trod enc Tryz.prog W 0 (fun _=>true) true m 23 (([c0,c1,c2].drop 2).take (Tryz.prog.cellsOf 23))=some y2:=hf 2 _ rfl
   rw[c2']at f2
   obtain⟨a,ha⟩:=gI f0
   obtain⟨B,hB⟩:=B6 f1
   obtain⟨L,hL⟩:=nY (f:=jh) (s:=7) Tryz.underlying23 (by kernel_rfl) (by omega) (fun n cs y hy hl=>FG hy hl) f2
   simp at ha
   subst ha
   exact⟨⟨a,B,L⟩,aU.cons (.raw _)<|aU.cons hB<|aU.cons hL (aU.nil _ _)⟩
end
end PW
end Go.Proofs.YtnegbdpggideiaaGreatDoor
namespace Go.Proofs.YtnegbdpggideiaaGreatDoor
namespace PW
open Go.RowKit cB Mem
section
variable {P:Program} {N L:Nat} {ops:Array Oper} {Φ:rP} {Ts:List bY} {Ss:List cd} {K:St→Prop}
def zw:Nat→Nat→List Bool
 |0,_=>[]
 |n+1,z=>Nat.beq (z % 2) 1::zw n (z / 2)
def nf(n z:Nat):Array Bool:=(zw n z).toArray
def Hy(ops:Array Oper)(z:Nat)(l:List (Nat×Nat)):Bool:=
 !l.isEmpty &&(Region.ready .any ops (nf ops.size z)==l.map (·.1))&&l.all fun p=>(zw ops.size z).set p.1 true==zw ops.size p.2
def uD(Ts:List bY)(Ss:List cd)(j:Nat)(ks:List Nat)(k:Nat):Option St:=
 match Ts[j]? with
 |some T=>match iB T ks with
  |some t=>match Ss[k]? with
   |some σ=>some ⟨t,σ⟩
   |none=>none
  |none=>none
 |none=>none
def WZ(P:Program)(N L:Nat)(ops:Array Oper)(Ts:List bY)(Ss:List cd)(K:St→Prop)(n z j:Nat)(ks:List Nat)(k:Nat):Prop:=
 ∀st,uD Ts Ss j ks k=some st→WA P N L ops n (nf ops.size z) st K
def zl(P:Program)(N L:Nat)(ops:Array Oper)(K:St→Prop)(n:Nat)(st:St)(l:List (Nat×Nat)):Prop:=
 ∀p∈l,∃o,ops[p.1]? =some o∧o.guard=none∧WR P N L [o].toArray [o] st (fun s=>WA P N L ops n (nf ops.size p.2) s K)
theorem tQ{n:Nat}{ls:Array Bool}{st:St}(Ts:List bY)(Ss:List cd)(ks:List Nat)(hr:uD Ts Ss 0 ks 0=some st)(hl:ls=nf ops.size 0)(h:∀M:Nat→Nat→Nat→List Nat→Nat→Prop,(∀ {n z j ks k},WZ P N L ops Ts Ss K n z j ks k→M n z j ks k)→(∀ {n z j ks k},M n z j ks k→WZ P N L ops Ts Ss K n z j ks k)→M n 0 0 ks 0):WA P N L ops n ls st K:=by
 have:=h (WZ P N L ops Ts Ss K) id id st hr
 rwa [←hl]at this
theorem qF{z j k:Nat}{ks:List Nat}{st:St}(hr:uD Ts Ss j ks k=some st)(hz:Region.ready .any ops (nf ops.size z)=[])(hk:K st):WZ P N L ops Ts Ss K 0 z j ks k:=fun s hs=>by
 rw[hr]at hs
 cases hs
 exact jy hz hk
theorem aa{n z j k:Nat}{ks:List Nat}{st:St}(l:List (Nat×Nat))(hr:uD Ts Ss j ks k=some st)(hl:Hy ops z l=true)(h:zl P N L ops K n st l):WZ P N L ops Ts Ss K (n+1) z j ks k:=fun s hs=>by
 rw[hr]at hs
 cases hs
 unfold Hy at hl
 simp only[Bool.and_eq_true,List.all_eq_true]at hl
 obtain⟨⟨h0,h1⟩,h2⟩:=hl
 have h1:=eq_of_beq h1
 refine⟨?_,fun i hi=>?_⟩
 ·rw[h1]
  intro e
  cases l with
  |nil=>simp at h0
  |cons a l=>simp at e
 ·rw[h1]at hi
  obtain⟨p,hp,rfl⟩:=List.mem_map.1 hi
  obtain⟨o,e1,e2,e3⟩:=h p hp
  refine⟨o,e1,e2,?_⟩
  have e:(nf ops.size z).setIfInBounds p.1 true=nf ops.size p.2:=by
   unfold nf
   rw[←eq_of_beq (h2 p hp)]
   simp
  rw[e]
  exact e3
theorem ae{n:Nat}{st:St}:zl P N L ops K n st []:=fun p hp=>by simp at hp
theorem pK{n i z:Nat}{st:St}{o:Oper}{l:List (Nat×Nat)}(ho:ops[i]? =some o)(hg:o.guard=none)(h:WR P N L [o].toArray [o] st (fun s=>WA P N L ops n (nf ops.size z) s K))(hs:zl P N L ops K n st l):zl P N L ops K n st ((i,z)::l):=fun p hp=>by
 rcases List.mem_cons.1 hp with rfl|hp
 ·exact⟨o,ho,hg,h⟩
 ·exact hs p hp
variable {n i z j k:Nat} {ks:List Nat} {o:Oper} {t t':bY} {σ σ':cd} {l:List (Nat×Nat)} {p:PV} {d:Nat}
theorem bf(ho:ops[i]? =some o)(hg:o.guard=none)(hy:bm P σ t o p)(hd:dk N [o].toArray t o=some d)(ha:WZ P N L ops Ts Ss K n z j ks k)(hr:uD Ts Ss j ks k=some ⟨t',σ⟩)(hk:iB ((d,p)::t) ks=some t')(hs:zl P N L ops K n ⟨t,σ⟩ l):zl P N L ops K n ⟨t,σ⟩ ((i,z)::l):=
 pK ho hg (bE hy hd (aH ks hk (ha _ hr))) hs
theorem bW(ho:ops[i]? =some o)(hg:o.guard=none)(hy:cJ P σ t o p σ')(hd:dk N [o].toArray t o=some d)(ha:WZ P N L ops Ts Ss K n z j ks k)(hr:uD Ts Ss j ks k=some ⟨t',σ'⟩)(hk:iB ((d,p)::t) ks=some t')(hs:zl P N L ops K n ⟨t,σ⟩ l):zl P N L ops K n ⟨t,σ⟩ ((i,z)::l):=
 pK ho hg (cn hy hd (aH ks hk (ha _ hr))) hs
theorem oe(ho:ops[i]? =some o)(hg:o.guard=none)(hy:cJ P σ t o p σ')(hd:o.dst=none)(hw:eK [o].toArray t o=some true)(ha:WZ P N L ops Ts Ss K n z j ks k)(hr:uD Ts Ss j ks k=some ⟨t',σ'⟩)(hk:iB t ks=some t')(hs:zl P N L ops K n ⟨t,σ⟩ l):zl P N L ops K n ⟨t,σ⟩ ((i,z)::l):=
 pK ho hg (bc hy hd hw (aH ks hk (ha _ hr))) hs
theorem eJ[Has P Φ]{f:Nat}{ps:List PV}(ho:ops[i]? =some o)(hg:o.guard=none)(hf:nA Φ t o.op=some (f,ps))(hd:dk N [o].toArray t o=some d)(hc:bT P f ps σ (fun r s=>r=p∧s=σ'))(ha:WZ P N L ops Ts Ss K n z j ks k)(hr:uD Ts Ss j ks k=some ⟨t',σ'⟩)(hk:iB ((d,p)::t) ks=some t')(hs:zl P N L ops K n ⟨t,σ⟩ l):zl P N L ops K n ⟨t,σ⟩ ((i,z)::l):=
 pK ho hg (cS hf hd (bT.mono hc (fun r s h=>by obtain⟨rfl,rfl⟩:=h;exact aH ks hk (ha _ hr)))) hs
def Hp(Φ:rP)(ops:Array Oper)(N:Nat)(t:bY)(σ:cd)(i:Nat)(ks:List Nat):Option bY:=
 match ops[i]? with
 |some o=>match o.guard with
  |none=>match fG Φ σ t o.op with
   |some p=>match dk N [o].toArray t o with
    |some d=>iB ((d,p)::t) ks
    |none=>none
   |none=>none
  |some _=>none
 |none=>none
theorem ag[hP:Has P Φ](ha:WZ P N L ops Ts Ss K n z j ks k)(hr:uD Ts Ss j ks k=some ⟨t',σ⟩)(h:Hp Φ ops N t σ i ks=some t')(hs:zl P N L ops K n ⟨t,σ⟩ l):zl P N L ops K n ⟨t,σ⟩ ((i,z)::l):=by
 unfold Hp at h
 split at h
 ·rename_i o ho
  split at h
  ·rename_i hg
   split at h
   ·rename_i p hp
    split at h
    ·rename_i d hd
     exact bf ho hg (bw hp) hd ha hr h hs
    ·cases h
   ·cases h
  ·cases h
 ·cases h
end
end PW
end Go.Proofs.YtnegbdpggideiaaGreatDoor
