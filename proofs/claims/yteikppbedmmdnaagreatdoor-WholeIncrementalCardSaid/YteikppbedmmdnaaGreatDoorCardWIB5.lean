/- Texts of the proof, part 5. -/
import Derived.Laws.StructEq
import Derived.Test.YteikppbedmmdnaaGreatDoorCardWIB4
set_option linter.unusedVariables false
set_option linter.unusedSimpArgs false
set_option maxRecDepth 10000
set_option maxHeartbeats 1000000
namespace Go.Proofs.YteikppbedmmdnaaGreatDoor
namespace PW
section
open Go.RowKit cj Mem Net
theorem eE(n lo hi:Int):Can Tryz.prog 54 [num n,num lo,num hi] (· =flag (bU n lo hi)):=by
 obtain⟨p1,hp1⟩:∃q,decide (lo≤n)=q:=⟨_,rfl⟩
 obtain⟨p2,hp2⟩:∃q,decide (n≤hi)=q:=⟨_,rfl⟩
 have he:bU n lo hi=(p1&&p2):=by rw[←hp1,←hp2];unfold bU;exact Bool.decide_and _ _
 rw[he]
 refine aT Tryz.func54 I Tryz.ntmps54 I<|af (.a 1 I<|.k [0,1,2] I)<|bP 6 (.raw (.bool (p1&&p2))) [] I ?_ ?_
 ·refine .a 2 I<|.v (cD I (hp1)) I<|.a 1 I<|?_
  cases p1
  ·exact .a 5 I<|.k [6] I
  ·exact .a 2 I<|.v (cD I (hp2)) I<|.a 2 I<|.k [6] I
 exact az<|⟨_,_,aE.of I,aD.pure,rfl⟩
set_option maxHeartbeats 2000000 in
theorem i7(T:ah):Can Tryz.prog 24 [aZ T] (· =flag (au T)):=by
  obtain⟨p0,hp0⟩:∃q,bU T.nodes 1 64=q:=⟨_,rfl⟩
  obtain⟨p1,hp1⟩:∃q,decide ((T.over.length:Int)≠0)=q:=⟨_,rfl⟩
  obtain⟨p2,hp2⟩:∃q,decide ((T.over.length:Int)≠T.nodes)=q:=⟨_,rfl⟩
  obtain⟨p3,hp3⟩:∃q,decide (256<(T.ae.length:Int))=q:=⟨_,rfl⟩
  have hw:Can Tryz.prog 54 [num T.nodes,num 1,num 64] (· =flag p0):=by rw[←hp0];exact eE _ _ _
  refine aT Tryz.func24 I Tryz.ntmps24 I<|af (.a 2 I<|.k [1] I)<|an<|bP 28 (.raw (.bool (((!p0)||(p1&&p2))||p3))) [1] I ?_ ?_
  · refine .a 2 I<|.c rfl (hw) I<|.a 2 I<|?_
    cases p0
    · exact .a 19 I<|.k [28,1] I
    · refine .a 3 I<|.v (cD I (hp1)) I<|.a 1 I<|?_
      cases p1
      · exact .a 12 I<|.v (cD I (hp3)) I<|.a 1 I<|.k [28,1] I
      · refine .a 5 I<|.v (cD I (hp2)) I<|.a 3 I<|?_
        cases p2
        · exact .a 3 I<|.v (cD I (hp3)) I<|.a 1 I<|.k [28,1] I
        · exact .a 5 I<|.k [28,1] I
  refine aj I (fun hc=>?_) (fun hc=>?_)
  · have hv:au T=false:=by
      rcases Bool.or_eq_true_iff.1 hc with h|h
      · rcases Bool.or_eq_true_iff.1 h with h|h
        · exact(gX T (.inl (by rw[hp0];simpa using h))).symm
        · obtain⟨a1,a2⟩:=Bool.and_eq_true_iff.1 h
          rw[a1]at hp1
          rw[a2]at hp2
          exact(gX T (.inr (.inr ⟨by have:=tt hp1;omega,tt hp2⟩))).symm
      · rw[h]at hp3;exact(gX T (.inr (.inl (by have:=tt hp3;omega)))).symm
    rw[hv]
    exact af (.a 1 I<|.k [2] I)<|az<|⟨_,_,aE.of I,aD.pure,rfl⟩
  · obtain ⟨c1, c2⟩ := Bool.or_eq_false_iff.1 hc
    obtain⟨c1,c3⟩:=Bool.or_eq_false_iff.1 c1
    have h0:p0=true:=by simpa using c1
    rw[h0]at hp0
    rw[c2]at hp3
    have hle:T.ae.length≤256:=by have:=ff hp3;omega
    have hov:T.over.length=0∨(T.over.length:Int)=T.nodes:=by
      rcases Bool.and_eq_false_iff.1 c3 with h|h
      · rw[h]at hp1;exact .inl (by have:=ff hp1;omega)
      · rw[h]at hp2;exact .inr (by have:=ff hp2;omega)
    rw[rY T hp0 hle hov]
    have hnd:=nR hp0
    clear hw hc c1 c3 hp1 hp2
    refine ak<|an<|af (.a 1 I<|.k [1,3] I)<|ay<|eY [1,3] I<|br (fun r s=>∃k,k≤T.ae.length∧r=T.ae.length - k∧(T.ae.take k).all (fU T)=true∧s=⟨[(1,.bg (bI T) 0),(3,num k)],[]⟩) T.ae.length ⟨0,by omega,by omega,by simp,rfl⟩ ?_
    rintro r s ⟨k,hk,rfl,hall,rfl⟩
    refine an<|af (.a 5 I<|.k [1,3,33] I)<|aj I (fun hc=>?_) (fun hc=>?_)
    · have hlt:k<T.ae.length:=by have:=tt hc;omega
      obtain⟨q1,g1⟩:∃q,decide ((cw T.ae k).a=(cw T.ae k).b)=q:=⟨_,rfl⟩
      obtain⟨q2,g2⟩:∃q,bH T (cw T.ae k).a=q:=⟨_,rfl⟩
      obtain⟨q3,g3⟩:∃q,bH T (cw T.ae k).b=q:=⟨_,rfl⟩
      obtain⟨q4,g4⟩:∃q,bU (cw T.ae k).c0 1 65535=q:=⟨_,rfl⟩
      obtain⟨q5,g5⟩:∃q,bU (cw T.ae k).c1 1 65535=q:=⟨_,rfl⟩
      obtain⟨q6,g6⟩:∃q,bU (cw T.ae k).cap 0 1048576=q:=⟨_,rfl⟩
      obtain⟨q7,g7⟩:∃q,bU (cw T.ae k).fj 1 65536=q:=⟨_,rfl⟩
      obtain⟨q8,g8⟩:∃q,bU (cw T.ae k).wE 0 64=q:=⟨_,rfl⟩
      have hOK:=tp (T:=T) (l:=cw T.ae k) (q1:=q1) (by rw[←g1];exact Bool.eq_iff_iff.2 (by simp)) g2 g3 g4 g5 g6 g7 g8
      have hall':=wC (fU T) T.ae k hlt
      have hno:=xH (fU T) T.ae k hlt
      rw[hOK]at hall' hno
      have n2:=eE (cw T.ae k).a 0 (T.nodes - 1)
      rw[qd,g2]at n2
      have n3:=eE (cw T.ae k).b 0 (T.nodes - 1)
      rw[qd,g3]at n3
      have n4:=eE (cw T.ae k).c0 1 65535
      rw[g4]at n4
      have n5:=eE (cw T.ae k).c1 1 65535
      rw[g5]at n5
      have n6:=eE (cw T.ae k).cap 0 1048576
      rw[g6]at n6
      have n7:=eE (cw T.ae k).fj 1 65536
      rw[g7]at n7
      have n8:=eE (cw T.ae k).wE 0 64
      rw[g8]at n8
      clear hOK g2 g3 g4 g5 g6 g7 g8
      refine ak<|an<|ay<|aR<|ax 3 I<|bw (aJ (k*7) I) I<|bw (ju I (Ec T.ae k hlt) I) I<|ax 2 I<|aH [1,3,4] I ?_
      refine iV 4 0 0 I I ?_
      refine cJ [] (.c 1<|.c 3<|.c 4 .nil) .nil rfl rfl ?_
      refine an<|bP 77 (.raw (.bool (((((!q2)|| !q3)||q1)|| !q4)|| !q5))) [1,3,4] I ?_ ?_
      · refine .a 4 I<|.v (aU I) I<|.c rfl (n2) I<|.a 2 I<|?_
        cases q2
        · exact .a 29 I<|.k [77,1,3,4] I
        · refine .a 4 I<|.v (aU I) I<|.c rfl (n3) I<|.a 3 I<|?_
          cases q3
          · exact .a 20 I<|.k [77,1,3,4] I
          · refine .a 4 I<|.v (cD I (g1)) I<|.a 2 I<|?_
            cases q1
            · refine .a 1 I<|.v (aJ (0) I) I<|.a 1 I<|.c rfl (n4) I<|.a 3 I<|?_
              cases q4
              · exact .a 6 I<|.k [77,1,3,4] I
              · exact .a 1 I<|.v (aJ (1) I) I<|.a 1 I<|.c rfl (n5) I<|.a 2 I<|.k [77,1,3,4] I
            · exact .a 13 I<|.k [77,1,3,4] I
      refine aj I (fun hx=>?_) (fun hx=>?_)
      · have hno':=hno (by cases q1<;>cases q2<;>cases q3<;>cases q4<;>cases q5<;>simp_all)
        rw[hno']
        exact af (.a 1 I<|.k [2] I)<|az<|⟨_,_,aE.of I,aD.pure,rfl⟩
      · have e1:q1=false:=by cases q1<;>simp_all
        have e2:q2=true:=by cases q2<;>simp_all
        have e3:q3=true:=by cases q3<;>simp_all
        have e4:q4=true:=by cases q4<;>simp_all
        have e5:q5=true:=by cases q5<;>simp_all
        subst e1 e2 e3 e4 e5
        clear n2 n3 n4 n5 hx
        refine ak<|bP 93 (.raw (.bool (((!q6)|| !q7)|| !q8))) [1,3] I ?_ ?_
        · refine .a 2 I<|.c rfl (n6) I<|.a 2 I<|?_
          cases q6
          · exact .a 11 I<|.k [93,1,3] I
          · refine .a 2 I<|.c rfl (n7) I<|.a 3 I<|?_
            cases q7
            · exact .a 5 I<|.k [93,1,3] I
            · exact .a 2 I<|.c rfl (n8) I<|.a 2 I<|.k [93,1,3] I
        refine aj I (fun hx=>?_) (fun hx=>?_)
        · have hno':=hno (by cases q6<;>cases q7<;>cases q8<;>simp_all)
          rw[hno']
          exact af (.a 1 I<|.k [2] I)<|az<|⟨_,_,aE.of I,aD.pure,rfl⟩
        · have e1:q6=true:=by cases q6<;>simp_all
          have e2:q7=true:=by cases q7<;>simp_all
          have e3:q8=true:=by cases q8<;>simp_all
          subst e1 e2 e3
          clear n6 n7 n8 hx
          refine ak<|aF (.a 1 I<|.v (aU I) I<|.a 1 I<|.k [1,3] I) ?_
          exact⟨T.ae.length - (k+1),by omega,k+1,by omega,rfl,by rw[hall',hall];rfl,rfl⟩
    · have hke:k=T.ae.length:=by have:=ff hc;omega
      subst hke
      rw[List.take_length]at hall
      rw[hall]
      exact bp<|af (.a 1 I<|.k [2] I)<|az<|⟨_,_,aE.of I,aD.pure,rfl⟩
theorem mz(T:ah)(hv:au T=true):Can Tryz.prog 43 [aZ T] (· =num (2*(T.ae.length:Int))):=by
 have hll:=bX hv
 have h:=i7 T
 rw[hv]at h
 refine aT Tryz.func43 I Tryz.ntmps43 I<|af (.a 2 I<|.k [1] I)<|an<|af (.a 1 I<|.c rfl (h) I<|.a 1 I<|.k [1,5] I)<|aj I (fun hc=>?_) (fun hc=>?_)
 ·cases hc
 ·exact ak<|af (.a 3 I<|.v (aU I) I<|.a 1 I<|.k [2] I)<|az<|⟨_,_,aE.of I,aD.pure,rfl⟩
theorem oJ{T:ah}{a:Int}{p1 p2:Bool}(hp1:decide (a<0)=p1)(hp2:decide (2*(T.ae.length:Int)≤a)=p2)(hc:(p1||p2)=true):¬(0≤a∧a<2*(T.ae.length:Int)):=by
 rcases Bool.or_eq_true_iff.1 hc with h|h
 ·rw[h]at hp1;have:=tt hp1;omega
 ·rw[h]at hp2;have:=tt hp2;omega
theorem mw{T:ah}{a:Int}{p1 p2:Bool}(hp1:decide (a<0)=p1)(hp2:decide (2*(T.ae.length:Int)≤a)=p2)(hc:(p1||p2)=false):0≤a∧a<2*(T.ae.length:Int):=by
 obtain⟨h1,h2⟩:=Bool.or_eq_false_iff.1 hc
 rw[h1]at hp1
 rw[h2]at hp2
 have:=ff hp1
 have:=ff hp2
 omega
theorem sV(T:ah)(hv:au T=true)(a:Int):Can Tryz.prog 44 [aZ T,num a] (· =num (vZ T a)):=by
 have hll:=bX hv
 obtain⟨p1,hp1⟩:∃q,decide (a<0)=q:=⟨_,rfl⟩
 obtain⟨p2,hp2⟩:∃q,decide (2*(T.ae.length:Int)≤a)=q:=⟨_,rfl⟩
 refine aT Tryz.func44 I Tryz.ntmps44 I<|af (.a 2 I<|.k [1,2] I)<|an<|ay<|bP 5 (.raw (.bool (p1||p2))) [1,2] I ?_ ?_
 ·refine .a 1 I<|.v (cD I (hp1)) I<|.a 1 I<|?_
  cases p1
  ·exact .a 2 I<|.c rfl (mz T hv) I<|.v (cD I (hp2)) I<|.a 2 I<|.k [5,1,2] I
  ·exact .a 6 I<|.k [5,1,2] I
 refine aj I (fun hc=>?_) (fun hc=>?_)
 ·unfold vZ
  rw[if_neg (oJ hp1 hp2 hc)]
  exact af (.a 1 I<|.k [4] I)<|az<|⟨_,_,aE.of I,aD.pure,rfl⟩
 ·have hy:=mw hp1 hp2 hc
  unfold vZ
  rw[if_pos hy]
  clear hp1 hp2 hc
  obtain⟨a,rfl⟩:=Int.eq_ofNat_of_zero_le hy.1
  have hi:a / 2<T.ae.length:=by omega
  unfold aN
  rw[Int.toNat_natCast]
  refine af (.a 1 I<|.v (ni I I I (by decide) (Bs a)) I<|.a 2 I<|.k [1,2,14] I)<|aj I (fun hc=>?_) (fun hc=>?_)
  ·have h2:a % 2=0:=by have:=tt hc;omega
   rw[if_pos h2]
   exact af (.a 3 I<|.v (kf I I I (by decide) (ya a) (by unfold In64;omega)) I<|.v (aJ (a / 2*7) I) I<|.a 1 I<|.v (aK I (fr T.ae (a / 2) 0 hi (by omega))) I<|.a 1 I<|.k [4] I)<|az<|⟨_,_,aE.of I,aD.pure,rfl⟩
  ·have h2:¬a % 2=0:=by have:=ff hc;omega
   rw[if_neg h2]
   exact ak<|af (.a 3 I<|.v (kf I I I (by decide) (ya a) (by unfold In64;omega)) I<|.v (aJ (a / 2*7) I) I<|.a 1 I<|.v (aK I (fr T.ae (a / 2) 1 hi (by omega))) I<|.a 1 I<|.k [4] I)<|az<|⟨_,_,aE.of I,aD.pure,rfl⟩
theorem Gk(a:Nat):(((a / 2:Nat):Int)*2+1) - ((a % 2:Nat):Int)=((Net.flip a:Nat):Int):=by unfold Net.flip;split<;>omega
theorem Cp(T:ah)(hv:au T=true)(a:Int):Can Tryz.prog 47 [aZ T,num a] (· =num (wj T a)):=by
 have hll:=bX hv
 obtain⟨p1,hp1⟩:∃q,decide (a<0)=q:=⟨_,rfl⟩
 obtain⟨p2,hp2⟩:∃q,decide (2*(T.ae.length:Int)≤a)=q:=⟨_,rfl⟩
 refine aT Tryz.func47 I Tryz.ntmps47 I<|af (.a 2 I<|.k [1,2] I)<|an<|bP 12 (.raw (.bool (p1||p2))) [1,2] I ?_ ?_
 ·refine .a 1 I<|.v (cD I (hp1)) I<|.a 1 I<|?_
  cases p1
  ·exact .a 2 I<|.c rfl (mz T hv) I<|.v (cD I (hp2)) I<|.a 1 I<|.k [12,1,2] I
  ·exact .a 5 I<|.k [12,1,2] I
 refine aj I (fun hc=>?_) (fun hc=>?_)
 ·unfold wj
  rw[if_neg (oJ hp1 hp2 hc)]
  exact af (.a 1 I<|.k [4] I)<|az<|⟨_,_,aE.of I,aD.pure,rfl⟩
 ·have hy:=mw hp1 hp2 hc
  unfold wj
  rw[if_pos hy]
  clear hp1 hp2 hc
  obtain⟨a,rfl⟩:=Int.eq_ofNat_of_zero_le hy.1
  rw[Int.toNat_natCast]
  have ht:=sV T hv ((Net.flip a:Nat):Int)
  rw[uj T (Net.flip a) (by unfold Net.flip;split<;>omega)]at ht
  exact ak<|af (.a 2 I<|.v (kf I I I (by decide) (ya a) (by unfold In64;omega)) I<|.v (aU I) I<|.v (aU I) I<|.a 1 I<|.v (ni I I I (by decide) (Bs a)) I<|.v (aU I (hc:=Gk a) (hn:=by unfold In64 Net.flip;split<;>omega)) I<|.c rfl (ht) I<|.a 1 I<|.k [4] I)<|az<|⟨_,_,aE.of I,aD.pure,rfl⟩
theorem BB(T:ah)(hv:au T=true)(a:Int):Can Tryz.prog 46 [aZ T,num a] (· =num (wW T a)):=by
 have hll:=bX hv
 obtain⟨p1,hp1⟩:∃q,decide (a<0)=q:=⟨_,rfl⟩
 obtain⟨p2,hp2⟩:∃q,decide (2*(T.ae.length:Int)≤a)=q:=⟨_,rfl⟩
 refine aT Tryz.func46 I Tryz.ntmps46 I<|af (.a 2 I<|.k [1,2] I)<|an<|bP 12 (.raw (.bool (p1||p2))) [1,2] I ?_ ?_
 ·refine .a 1 I<|.v (cD I (hp1)) I<|.a 1 I<|?_
  cases p1
  ·exact .a 2 I<|.c rfl (mz T hv) I<|.v (cD I (hp2)) I<|.a 1 I<|.k [12,1,2] I
  ·exact .a 5 I<|.k [12,1,2] I
 refine aj I (fun hc=>?_) (fun hc=>?_)
 ·unfold wW
  rw[if_neg (oJ hp1 hp2 hc)]
  exact af (.a 1 I<|.k [4] I)<|az<|⟨_,_,aE.of I,aD.pure,rfl⟩
 ·have hy:=mw hp1 hp2 hc
  unfold wW
  rw[if_pos hy]
  clear hp1 hp2 hc
  obtain⟨a,rfl⟩:=Int.eq_ofNat_of_zero_le hy.1
  rw[Int.toNat_natCast]
  exact ak<|af (.a 3 I<|.v (kf I I I (by decide) (ya a) (by unfold In64;omega)) I<|.a 1 I<|.v (ni I I I (by decide) (Bs a)) I<|.v (aJ (a / 2*7) I) I<|.a 1 I<|.v (aJ (a % 2) I) I<|.v (aK I (xz T a (by omega))) I<|.a 1 I<|.k [4] I)<|az<|⟨_,_,aE.of I,aD.pure,rfl⟩
theorem zi(T:ah)(hv:au T=true)(a:Nat)(ha:a<2*T.ae.length):Can Tryz.prog 44 [aZ T,num a] (· =num (aN T a)):=by rw[←uj T a ha];exact sV T hv a
theorem zx(T:ah)(hv:au T=true)(a:Nat)(ha:a<2*T.ae.length):Can Tryz.prog 47 [aZ T,num a] (· =num (aB T a)):=by rw[←Bb T a ha];exact Cp T hv a
theorem zZ(T:ah)(hv:au T=true)(a:Nat)(ha:a<2*T.ae.length):Can Tryz.prog 46 [aZ T,num a] (· =num (bS T a)):=by rw[←CD T a ha];exact BB T hv a
theorem C0(T:ah)(hv:au T=true)(n:Nat):Can Tryz.prog 45 [aZ T,num n] (· =flag (cL T n)):=by
 have h:=i7 T
 rw[hv]at h
 obtain⟨p1,hp1⟩:∃q,decide ((n:Int)<(T.over.length:Int))=q:=⟨_,rfl⟩
 obtain⟨p2,hp2⟩:∃q,T.over.getD n false=q:=⟨_,rfl⟩
 have he:cL T n=(p1&&p2):=by
  unfold cL
  cases p1
  ·have:=ff hp1
   rw[List.getD_eq_getElem?_getD,List.getElem?_eq_none (by omega)];rfl
  ·exact hp2
 rw[he]
 have h0:decide (0≤(n:Int))=true:=decide_eq_true (by omega)
 refine aT Tryz.func45 I Tryz.ntmps45 I<|af (.a 2 I<|.k [1,2] I)<|bP 4 (.raw (.bool (p1&&p2))) [] I ?_ ?_
 ·refine .a 1 I<|.c rfl (h) I<|.a 2 I<|.v (cD I h0) I<|.a 6 I<|.v (cD I (hp1)) I<|.a 2 I<|?_
  cases p1
  ·exact .a 7 I<|.k [4] I
  ·exact .a 3 I<|.v (aJ (n) I (by omega) (by have:=tt hp1;omega)) I<|.v (aK I (show _=some (flag p2) by rw[ee _ n (by have:=tt hp1;omega),hp2])) I<|.a 2 I<|.k [4] I
 exact az<|⟨_,_,aE.of I,aD.pure,rfl⟩
theorem By(L M:List Int):Can Tryz.prog 14 [aw L,aw M] (· =flag (lW L M)):=by
 refine qo fun⟨E,w,vs,hR⟩=>?_
 obtain⟨v,_,hv⟩:=hR.get (i:=0) I
 have hm:=mC hv
 unfold maxLen at hm
 refine aT Tryz.func14 I Tryz.ntmps14 I<|af (.a 1 I<|.k [0,1] I)<|an<|af (.a 5 I<|.k [0,1,10] I)<|aj I (fun hc=>?_) (fun hc=>?_)
 ·rw[←Er L M (by have:=tt hc;omega)]
  exact af (.a 1 I<|.k [4] I)<|az<|⟨_,_,aE.of I,aD.pure,rfl⟩
 ·have hlen:M.length=L.length:=by have:=ff hc;omega
  refine ak<|an<|af (.a 1 I<|.k [0,1,5] I)<|ay<|eY [0,1,5] I<|br (fun r s=>∃k,k≤L.length∧r=L.length - k∧(∀i,i<k→L.getD i 0=M.getD i 0)∧s=⟨[(0,aw L),(1,aw M),(5,num k)],[]⟩) L.length ⟨0,by omega,by omega,fun i hi=>by omega,rfl⟩ ?_
  rintro r s ⟨k,hk,rfl,hall,rfl⟩
  refine an<|af (.a 4 I<|.k [0,1,5,14] I)<|aj I (fun hc=>?_) (fun hc=>?_)
  ·have hlt:k<L.length:=by have:=tt hc;omega
   refine ak<|an<|ay<|fZ mixed (by kernel_rfl) (.a 2 I<|.v [17,18] (aJ (k) I) I I<|.v [19] (aK I (aC L k hlt)) I I<|.a 2 I<|.v [21,22] (aJ (k) I) I I<|.v [23] (aK I (aC M k (by omega))) I I<|.a 1 I<|.k [0,1,5,25] I) ?_
   refine aj I (fun hx=>?_) (fun hx=>?_)
   ·rw[←Hr L M k (tt hx)]
    exact af (.a 1 I<|.k [4] I)<|az<|⟨_,_,aE.of I,aD.pure,rfl⟩
   ·have hx':L.getD k 0=M.getD k 0:=by have:=ff hx;omega
    refine ak<|aF (.a 1 I<|.v (aU I) I<|.a 1 I<|.k [0,1,5] I) ?_
    refine⟨L.length - (k+1),by omega,k+1,by omega,rfl,fun i hi=>?_,rfl⟩
    by_cases h:i=k
    ·rw[h];exact hx'
    ·exact hall i (by omega)
  ·have hke:k=L.length:=by have:=ff hc;omega
   rw[←Dk L M hlen (fun i hi=>hall i (by omega))]
   exact bp<|af (.a 1 I<|.k [4] I)<|az<|⟨_,_,aE.of I,aD.pure,rfl⟩
end
end PW
end Go.Proofs.YteikppbedmmdnaaGreatDoor
namespace Go.Proofs.YteikppbedmmdnaaGreatDoor
namespace Net
def eK(T:ah)(dir:Bool)(a:Nat):Int:=if dir then aB T a else aN T a
def cz(T:ah)(dir:Bool)(a:Nat):Int:=if dir then aN T a else aB T a
def at'(l:List Int)(x:Int):Int:=l.getD x.toNat (-1)
def Way(T:ah)(D:List Bool)(n:Nat)(dir:Bool)(out:List Int)(a:Nat):Prop:=
 bF D a=false∧0≤at' out (cz T dir a)∧(cz T dir a=(n:Int)∨cL T (cz T dir a).toNat=false)
structure eJ (T:ah) (D:List Bool) (n:Nat) (dir:Bool) (out:List Int):Prop where
 len:(out.length:Int)=T.nodes
 root:at' out (n:Int)=0
 ge:∀x:Nat,(x:Int)<T.nodes→ -1≤at' out (x:Int)
 closed:∀a,a<2*T.ae.length→Way T D n dir out a→0≤at' out (eK T dir a)∧at' out (eK T dir a)≤at' out (cz T dir a)+bS T a
 jh:∀x:Nat,(x:Int)<T.nodes→0≤at' out (x:Int)→x=n∨∃a,a<2*T.ae.length∧eK T dir a=(x:Int)∧Way T D n dir out a∧at' out (x:Int)=at' out (cz T dir a)+bS T a
structure Sound (T:ah):Prop where
 cost:∀a,a<2*T.ae.length→1≤bS T a∧bS T a≤65535
 tail:∀a,a<2*T.ae.length→0≤aN T a∧aN T a<T.nodes
 head:∀a,a<2*T.ae.length→0≤aB T a∧aB T a<T.nodes
 nodes:1≤T.nodes∧T.nodes≤64
theorem Sound.x{T:ah}(h:Sound T)(dir:Bool)(a:Nat)(ha:a<2*T.ae.length):0≤eK T dir a∧eK T dir a<T.nodes:=by
 unfold eK;cases dir
 ·exact h.tail a ha
 ·exact h.head a ha
theorem Sound.y{T:ah}(h:Sound T)(dir:Bool)(a:Nat)(ha:a<2*T.ae.length):0≤cz T dir a∧cz T dir a<T.nodes:=by
 unfold cz;cases dir
 ·exact h.head a ha
 ·exact h.tail a ha
theorem uY{T:ah}(hT:Sound T){D:List Bool}{n:Nat}{dir:Bool}{out out':List Int}(h:eJ T D n dir out)(h':eJ T D n dir out'):
  ∀(k:Nat) (x:Nat),(x:Int)<T.nodes→at' out (x:Int)=(k:Int)→0≤at' out' (x:Int)∧at' out' (x:Int)≤at' out (x:Int):=by
 intro k
 induction k using Nat.strongRecOn with
 |_ k ih=>
  intro x hx hk
  rcases h.jh x hx (by omega)with rfl|⟨a,ha,hax,⟨w1,w2,w3⟩,he⟩
  ·rw[h'.root];omega
  ·have hc:=hT.cost a ha
   obtain⟨y,hy⟩:=Int.eq_ofNat_of_zero_le (hT.y dir a ha).1
   have hyn:=(hT.y dir a ha).2
   rw[hy]at w2 w3 he hyn
   obtain⟨j,hj⟩:=Int.eq_ofNat_of_zero_le w2
   have hlt:j<k:=by omega
   have h1:=ih j hlt y hyn hj
   have h2:=h'.closed a ha ⟨w1,by rw[hy];exact h1.1,by rw[hy];exact w3⟩
   rw[hax,hy]at h2
   exact⟨h2.1,by omega⟩
theorem EV(out:List Int)(x:Nat)(hx:x<out.length):at' out (x:Int)=out[x]:=by
 simp[at',hx]
theorem wN{T:ah}(hT:Sound T){D:List Bool}{n:Nat}{dir:Bool}{out out':List Int}(h:eJ T D n dir out)(h':eJ T D n dir out'):out=out':=by
 have hl:out.length=out'.length:=by have:=h.len;have:=h'.len;omega
 refine List.ext_getElem hl fun x h1 h2=>?_
 have hx:(x:Int)<T.nodes:=by have:=h.len;omega
 rw[←EV out x h1,←EV out' x h2]
 have g1:=h.ge x hx
 have g2:=h'.ge x hx
 by_cases c1:0≤at' out (x:Int)
 ·obtain⟨k,hk⟩:=Int.eq_ofNat_of_zero_le c1
  have a1:=uY hT h h' k x hx hk
  obtain⟨k',hk'⟩:=Int.eq_ofNat_of_zero_le a1.1
  have a2:=uY hT h' h k' x hx hk'
  omega
 ·by_cases c2:0≤at' out' (x:Int)
  ·obtain⟨k,hk⟩:=Int.eq_ofNat_of_zero_le c2
   have a1:=uY hT h' h k x hx hk
   omega
  ·omega
open Classical in
noncomputable def aO(T:ah)(D:List Bool)(n:Nat)(dir:Bool):List Int:=if h:∃out,eJ T D n dir out then h.choose else []
theorem jn{T:ah}(hT:Sound T){D:List Bool}{n:Nat}{dir:Bool}{out:List Int}(h:eJ T D n dir out):aO T D n dir=out:=by
 unfold aO
 rw[dif_pos ⟨out,h⟩]
 exact wN hT (Exists.choose_spec (⟨out,h⟩:∃out,eJ T D n dir out)) h
end Net
end Go.Proofs.YteikppbedmmdnaaGreatDoor
namespace Go.Proofs.YteikppbedmmdnaaGreatDoor
namespace Net
section
def fL:List Int→Nat
 | []=>0
 |v::l=>(if 0≤v then 1 else 0)+fL l
theorem gZ(l:List Int):fL l≤l.length:=by
 induction l with
 |nil=>exact Nat.le_refl _
 |cons v l ih=>simp only[fL,List.length_cons];split<;>omega
theorem kS:∀(l:List Int) (i:Nat) (c:Int),i<l.length→0≤c→fL (l.set i c)=fL l+(if 0≤l.getD i (-1) then 0 else 1)
 | [],i,c,h,_=>by simp at h
 |v::l,0,c,_,hc=>by
  simp only[List.set_cons_zero,fL,List.getD_cons_zero]
  rw[if_pos hc]
  by_cases h:0≤v
  ·rw[if_pos h,if_pos h];omega
  ·rw[if_neg h,if_neg h];omega
 |v::l,i+1,c,h,hc=>by
  simp only[List.set_cons_succ,fL,List.getD_cons_succ]
  rw[kS l i c (by simpa using h) hc]
  omega
def JF(v:Int):Nat:=if v<0 then 4194241 else v.toNat
def mu:List Int→Nat
 | []=>0
 |v::l=>JF v+mu l
theorem Fx:∀(l:List Int) (i:Nat) (c:Int),i<l.length→mu (l.set i c)+JF (l.getD i (-1))=mu l+JF c
 | [],i,c,h=>by simp at h
 |v::l,0,c,_=>by simp only[List.set_cons_zero,mu,List.getD_cons_zero];omega
 |v::l,i+1,c,h=>by
  have:=Fx l i c (by simpa using h)
  simp only[List.set_cons_succ,mu,List.getD_cons_succ]
  omega
structure Inv (T:ah) (D:List Bool) (n:Nat) (dir:Bool) (out:List Int):Prop where
 len:(out.length:Int)=T.nodes
 root:at' out (n:Int)=0
 ge:∀x:Nat,(x:Int)<T.nodes→ -1≤at' out (x:Int)
 KD:∀x:Nat,(x:Int)<T.nodes→at' out (x:Int)≤65535*(fL out:Int)
 jh:∀x:Nat,(x:Int)<T.nodes→0≤at' out (x:Int)→x=n∨∃a,a<2*T.ae.length∧eK T dir a=(x:Int)∧Way T D n dir out a∧at' out (cz T dir a)+bS T a≤at' out (x:Int)
def Ag(T:ah)(D:List Bool)(n:Nat)(dir:Bool)(out:List Int)(a:Nat):Prop:=
 Way T D n dir out a∧(at' out (eK T dir a)<0∨at' out (cz T dir a)+bS T a<at' out (eK T dir a))
def IQ(T:ah)(dir:Bool)(out:List Int)(a:Nat):List Int:=out.set (eK T dir a).toNat (at' out (cz T dir a)+bS T a)
theorem nE(out:List Int)(x y:Nat)(c:Int)(hx:x<out.length):at' (out.set x c) (y:Int)=if y=x then c else at' out (y:Int):=by
 simp only[at',Int.toNat_natCast,List.getD_eq_getElem?_getD,List.getElem?_set]
 by_cases h:x=y
 ·subst h;simp[hx]
 ·rw[if_neg h,if_neg (Ne.symm h)]
theorem Ek{T:ah}(hT:Sound T){D:List Bool}{n:Nat}{dir:Bool}{out:List Int}(h:Inv T D n dir out)(a:Nat)(ha:a<2*T.ae.length)(hg:Ag T D n dir out a):
  Inv T D n dir (IQ T dir out a)∧mu (IQ T dir out a)<mu out:=by
 obtain⟨⟨w1,w2,w3⟩,hb⟩:=hg
 have hc:=hT.cost a ha
 obtain⟨x,hx⟩:=Int.eq_ofNat_of_zero_le (hT.x dir a ha).1
 obtain⟨y,hy⟩:=Int.eq_ofNat_of_zero_le (hT.y dir a ha).1
 have hxn:=(hT.x dir a ha).2
 have hyn:=(hT.y dir a ha).2
 unfold IQ
 rw[hx,hy,Int.toNat_natCast]
 rw[hx,hy]at hb
 rw[hy]at w2 w3
 rw[hx]at hxn
 rw[hy]at hyn
 have hlen:=h.len
 have hxl:x<out.length:=by omega
 generalize hcc:at' out (y:Int)+bS T a=c at*
 have hby:=h.KD y hyn
 have hxr:x≠n:=fun e=>by
  rw[e,h.root]at hb
  omega
 have hcs:=kS out x c hxl (by omega)
 have hgx:out.getD x (-1)=at' out (x:Int):=by simp[at']
 rw[hgx]at hcs
 have at1:=fun z=>nE out x z c hxl
 have reach:∀z:Nat,(z:Int)<T.nodes→0≤at' out (z:Int)→0≤at' (out.set x c) (z:Int):=fun z _ hz=>by
  rw[at1 z];split<;>omega
 have less:∀z:Nat,(z:Int)<T.nodes→0≤at' out (z:Int)→at' (out.set x c) (z:Int)≤at' out (z:Int):=fun z _ hz=>by
  rw[at1 z]
  split
  ·rename_i e;subst e;omega
  ·omega
 have KT:∀b,b<2*T.ae.length→Way T D n dir out b→Way T D n dir (out.set x c) b:=fun b hbl ⟨v1,v2,v3⟩=>by
  obtain⟨z,hz⟩:=Int.eq_ofNat_of_zero_le (hT.y dir b hbl).1
  have hzn:=(hT.y dir b hbl).2
  refine⟨v1,?_,v3⟩
  rw[hz]at v2 hzn ⊢
  exact reach z hzn v2
 refine⟨⟨by rw[List.length_set];exact hlen,?_,fun z hz=>?_,fun z hz=>?_,fun z hz h0=>?_⟩,?_⟩
 ·rw[at1 n,if_neg (Ne.symm hxr)];exact h.root
 ·rw[at1 z];split
  ·omega
  ·exact h.ge z hz
 ·rw[at1 z]
  have hbz:=h.KD z hz
  have:(fL out:Int)≤(fL (out.set x c):Int):=by rw[hcs];split<;>omega
  split
  ·rw[hcs]
   rename_i e
   subst e
   by_cases hr:0≤at' out (z:Int)
   ·rw[if_pos hr];omega
   ·rw[if_neg hr];omega
  ·omega
 ·by_cases e:z=x
  ·subst e
   refine .inr ⟨a,ha,hx,KT a ha ⟨w1,by rw[hy];exact w2,by rw[hy];exact w3⟩,?_⟩
   rw[hy,at1 z,if_pos rfl]
   have:=less y hyn w2
   omega
  ·rw[at1 z,if_neg e]at h0
   rcases h.jh z hz h0 with e2|⟨b,hbl,hbx,hbw,hbe⟩
   ·exact .inl e2
   ·refine .inr ⟨b,hbl,hbx,KT b hbl hbw,?_⟩
    rw[at1 z,if_neg e]
    obtain⟨u,hu⟩:=Int.eq_ofNat_of_zero_le (hT.y dir b hbl).1
    have hun:=(hT.y dir b hbl).2
    have hw2:=hbw.2.1
    rw[hu]at hun hbe hw2 ⊢
    have:=less u hun hw2
    omega
 ·have hm:=Fx out x c hxl
  rw[hgx]at hm
  have hcl:=gZ out
  have hnn:=hT.nodes
  have hcb:c≤4194240:=by
   rcases hb with hb|hb
   ·have hlt:fL out<out.length:=by
     have:=gZ (out.set x c)
     rw[List.length_set,hcs,if_neg (by omega)]at this
     omega
    omega
   ·have:=h.KD x hxn;omega
  have hw1:JF c=c.toNat:=by unfold JF;rw[if_neg (by omega)]
  have hw2:JF (at' out (x:Int))=if at' out (x:Int)<0 then 4194241 else(at' out (x:Int)).toNat:=rfl
  rw[hw1,hw2]at hm
  rcases hb with hb|hb
  ·rw[if_pos hb]at hm;omega
  ·by_cases hr:at' out (x:Int)<0
   ·rw[if_pos hr]at hm;omega
   ·rw[if_neg hr]at hm;omega
theorem FE{T:ah}{D:List Bool}{n:Nat}{dir:Bool}{out:List Int}(h:Inv T D n dir out)(hn:∀a,a<2*T.ae.length→¬Ag T D n dir out a):eJ T D n dir out:=by
 have closed:∀a,a<2*T.ae.length→Way T D n dir out a→0≤at' out (eK T dir a)∧at' out (eK T dir a)≤at' out (cz T dir a)+bS T a:=fun a ha hw=>by
  have:=hn a ha
  unfold Ag at this
  have h2:¬(at' out (eK T dir a)<0∨at' out (cz T dir a)+bS T a<at' out (eK T dir a)):=fun e=>this ⟨hw,e⟩
  omega
 refine⟨h.len,h.root,h.ge,closed,fun x hx h0=>?_⟩
 rcases h.jh x hx h0 with e|⟨a,ha,hax,hw,he⟩
 ·exact .inl e
 ·refine .inr ⟨a,ha,hax,hw,?_⟩
  have:=closed a ha hw
  rw[hax]at this
  omega
def start(N n:Nat):List Int:=(List.replicate N (-1)).set n 0
theorem nP(N n:Nat)(hn:n<N)(x:Nat)(hx:x<N):at' (start N n) (x:Int)=if x=n then 0 else -1:=by
 unfold start
 rw[nE _ n x 0 (by simpa using hn)]
 split
 ·rfl
 ·simp[at',hx]
theorem s9{T:ah}{D:List Bool}{N n:Nat}{dir:Bool}(hN:(N:Int)=T.nodes)(hn:n<N):Inv T D n dir (start N n):=by
 have hc:1≤fL (start N n):=by
  unfold start
  rw[kS _ n 0 (by simpa using hn) (by omega)]
  have:(List.replicate N (-1:Int)).getD n (-1)= -1:=by simp[hn]
  rw[this]
  simp
 refine⟨by simp[start];exact hN,by rw[nP N n hn n hn,if_pos rfl],fun x hx=>?_,fun x hx=>?_,fun x hx h0=>?_⟩
 ·rw[nP N n hn x (by omega)];split<;>omega
 ·rw[nP N n hn x (by omega)];split<;>omega
 ·rw[nP N n hn x (by omega)]at h0
  by_cases e:x=n
  ·exact .inl e
  ·rw[if_neg e]at h0;omega
theorem lU{T:ah}(hT:Sound T){D:List Bool}{n:Nat}{dir:Bool}:∀(k:Nat) (out:List Int),mu out=k→Inv T D n dir out→∃out',eJ T D n dir out'∧Inv T D n dir out':=by
 intro k
 induction k using Nat.strongRecOn with
 |_ k ih=>
  intro out hk hi
  by_cases h:∃a,a<2*T.ae.length∧Ag T D n dir out a
  ·obtain⟨a,ha,hg⟩:=h
   obtain⟨h1,h2⟩:=Ek hT hi a ha hg
   exact ih _ (by omega) _ rfl h1
  ·exact⟨out,FE hi fun a ha hg=>h ⟨a,ha,hg⟩,hi⟩
theorem fI{T:ah}(hT:Sound T)(D:List Bool){n:Nat}(dir:Bool)(hn:(n:Int)<T.nodes):eJ T D n dir (aO T D n dir):=by
 obtain⟨N,hN⟩:=Int.eq_ofNat_of_zero_le (by have:=hT.nodes.1;omega:0≤T.nodes)
 obtain⟨out,ho,_⟩:=lU hT _ (start N n) I (s9 (D:=D) (dir:=dir) hN.symm (by omega))
 rw[jn hT ho]
 exact ho
theorem ue{T:ah}(hT:Sound T)(D:List Bool){n:Nat}(dir:Bool)(hn:(n:Int)<T.nodes):Inv T D n dir (aO T D n dir):=by
 obtain⟨N,hN⟩:=Int.eq_ofNat_of_zero_le (by have:=hT.nodes.1;omega:0≤T.nodes)
 obtain⟨out,ho,hi⟩:=lU hT _ (start N n) I (s9 (D:=D) (dir:=dir) hN.symm (by omega))
 rw[jn hT ho]
 exact hi
theorem aM{T:ah}(h:au T=true):Sound T:=by
 have hb:=dz h
 have lk:∀i,i<T.ae.length→(0≤(cw T.ae i).a∧(cw T.ae i).a<T.nodes)∧(0≤(cw T.ae i).b∧(cw T.ae i).b<T.nodes)∧(1≤(cw T.ae i).c0∧(cw T.ae i).c0≤65535)∧(1≤(cw T.ae i).c1∧(cw T.ae i).c1≤65535):=fun i hi=>by
  have:=rD h i hi
  simp only[fU,bH,bU,Bool.and_eq_true,decide_eq_true_eq]at this
  obtain⟨⟨⟨⟨⟨⟨⟨_,h1⟩,h2⟩,h3⟩,h4⟩,_⟩,_⟩,_⟩:=this
  exact⟨h1,h2,h3,h4⟩
 have fl:∀a,a<2*T.ae.length→flip a<2*T.ae.length:=fun a ha=>by unfold flip;split<;>omega
 have tl:∀a,a<2*T.ae.length→0≤aN T a∧aN T a<T.nodes:=fun a ha=>by
  have:=lk (a / 2) (by omega)
  unfold aN;split
  ·exact this.1
  ·exact this.2.1
 refine⟨fun a ha=>?_,tl,fun a ha=>tl _ (fl a ha),⟨hb.1,hb.2.1⟩⟩
 have:=lk (a / 2) (by omega)
 unfold bS;split
 ·exact this.2.2.1
 ·exact this.2.2.2
theorem Inv.ub{T:ah}{D:List Bool}{n:Nat}{dir:Bool}{out:List Int}(h:Inv T D n dir out)(x:Nat)(hx:(x:Int)<T.nodes)(hN:T.nodes≤64):at' out (x:Int)≤4194240:=by
 have h1:=h.KD x hx
 have h2:=gZ out
 have h3:=h.len
 omega
end
end Net
end Go.Proofs.YteikppbedmmdnaaGreatDoor
namespace Go.Proofs.YteikppbedmmdnaaGreatDoor
namespace PW
section
open Go.RowKit cj Mem Net
theorem oC(T:ah)(hv:au T=true):Can Tryz.prog 31 [aZ T] (· =ew (ca (aB T) T.nodes.toNat (2*T.ae.length))):=by
 have hbd:=dz hv
 have hS:=aM hv
 obtain⟨n,hn⟩:∃n:Nat,T.nodes=(n:Int):=⟨T.nodes.toNat,by omega⟩
 rw[show T.nodes.toNat=n by omega]
 refine aT Tryz.func31 I Tryz.ntmps31 I<|af (.a 2 I<|.k [1] I)<|aR<|ax 2 I<|cg (da I (bG.rk.get I) I I hn hn ⟨by unfold maxLen;omega,by omega⟩) I<|ax 1 I<|aH [1,3] I ?_
 refine jK 43 3 n ?_
 refine an<|af (.a 1 I<|.c rfl (dY T (by omega)) I<|.a 1 I<|.k [1,3,10,11] I)<|ay<|eY [1,3,10,11] I<|br (fun r s=>∃k,k≤2*T.ae.length∧r=2*T.ae.length - k∧s=⟨[(1,.bg (bI T) 0),(3,.own 0),(10,num (2*(T.ae.length:Int))),(11,num k)],jR 43 3 (ca (aB T) n k)⟩) (2*T.ae.length) ⟨0,by omega,by omega,by rw[kL];rfl⟩ ?_
 rintro r s ⟨k,hk,rfl,rfl⟩
 refine af (.a 1 I<|.k [1,3,10,11,12] I)<|an<|aj I (fun hc=>?_) (fun hc=>?_)
 ·have hlt:k<2*T.ae.length:=by have:=of_decide_eq_true hc;omega
  obtain⟨hd0,hhN⟩:=hS.head k hlt
  obtain⟨m,hm⟩:=Int.eq_ofNat_of_zero_le hd0
  have hmn:m<n:=by omega
  have hrl:=cQ (aB T) n k
  have hgl:((ca (aB T) n k).getD m []).length≤k:=by
   rw[dH _ _ _ _ hmn]
   simp only[List.length_map]
   exact Nat.le_trans (List.length_filter_le _ _) (by simp)
  refine ak<|an<|ay<|af (.a 2 I<|.k [1,3,4,10,11] I)<|af (.a 2 I<|.c rfl (hm▸ed T k hlt (by omega)) I<|.a 1 I<|.k [1,3,4,5,10,11] I)<|bx<|ax 4 I<|bw (aJ (m) I) I<|bw (aK I (iz _ m (by omega))) I<|ax 2 I<|cg (bC I (bG.rk.get I) I (iv _ _ _ m (by omega)) I I ⟨by unfold maxLen;omega,by omega⟩) I<|bw (aJ (m) I) I<|ba (cm I (bG.tk.get I) I I I (by show m<(eC _).length;simp[eC];omega)) I I<|aH [1,3,10,11] I ?_
  refine cJ (C6 (ca (aB T) n k).length m) (.cons 1 I Ren.pure<|.cons 3 I (Ren.own (i:=0) I)<|.cons 10 I Ren.pure<|.cons 11 I Ren.pure<|.nil) (ow 43 3 (ca (aB T) n k) m (by omega) (k:Int)) (mM _ _) I ?_
  rw[←kX (aB T) n k m hm hmn]
  refine aF (.v (aU I) I<|.a 1 I<|.k [1,3,10,11] I) ?_
  exact⟨2*T.ae.length - (k+1),by omega,k+1,by omega,rfl,rfl⟩
 ·have hke:k=2*T.ae.length:=by have:=of_decide_eq_false hc;omega
  subst hke
  exact bp<|af (.a 2 I<|.k [2] I)<|az<|⟨_,_,aE.of I,v8 _ _ _,rfl⟩
end
end PW
end Go.Proofs.YteikppbedmmdnaaGreatDoor
namespace Go.Proofs.YteikppbedmmdnaaGreatDoor
namespace Net
section
structure uu (T:ah) (D:List Bool) (n:Nat) (dir:Bool) (out K:List Int) (H:Nat→Prop) (S:Nat→Prop):Prop where
 len:(out.length:Int)=T.nodes
 ge:∀x:Nat,(x:Int)<T.nodes→ -1≤at' out (x:Int)
 root:at' out (n:Int)=0∨(H n∧K.getD n 0=0)
 qg:∀y,H y→(y:Int)<T.nodes∧at' out (y:Int)= -1
 mono:∀x y:Nat,(x:Int)<T.nodes→H y→at' out (x:Int)≤K.getD y 0
 jJ:∀y,H y→(y=n∧K.getD y 0=0)∨∃a,a<2*T.ae.length∧eK T dir a=(y:Int)∧Way T D n dir out a∧K.getD y 0=at' out (cz T dir a)+bS T a
 jh:∀x:Nat,(x:Int)<T.nodes→0≤at' out (x:Int)→x=n∨∃a,a<2*T.ae.length∧eK T dir a=(x:Int)∧Way T D n dir out a∧at' out (x:Int)=at' out (cz T dir a)+bS T a
 closed:∀a,a<2*T.ae.length→¬S a→Way T D n dir out a→(0≤at' out (eK T dir a)∧at' out (eK T dir a)≤at' out (cz T dir a)+bS T a)∨(H (eK T dir a).toNat∧K.getD (eK T dir a).toNat 0≤at' out (cz T dir a)+bS T a)
 ub:∀x:Nat,(x:Int)<T.nodes→at' out (x:Int)≤65535*(fL out:Int)
 AF:∀y,H y→K.getD y 0≤65535*(fL out:Int)
theorem uu.key{T:ah}(hT:Sound T){D:List Bool}{n:Nat}{dir:Bool}{out K:List Int}{H S:Nat→Prop}(h:uu T D n dir out K H S){y:Nat}(hy:H y):0≤K.getD y 0:=by
 rcases h.jJ y hy with⟨_,h0⟩|⟨a,ha,_,hw,he⟩
 ·omega
 ·have:=hT.cost a ha
  have:=hw.2.1
  omega
theorem vz(L:List Int)(i j:Nat)(c:Int)(hi:i<L.length):(L.set i c).getD j 0=if j=i then c else L.getD j 0:=by
 by_cases h:j=i
 ·subst h;simp[List.getD_eq_getElem?_getD,hi]
 ·simp[List.getD_eq_getElem?_getD,List.getElem?_set,Ne.symm h,h]
theorem uP(N:Nat):fL (List.replicate N (-1))=0:=by
 induction N with
 |zero=>rfl
 |succ N ih=>rw[List.replicate_succ];simp[fL,ih]
theorem lI(N x:Nat):at' (List.replicate N (-1)) (x:Int)= -1:=by
 unfold at'
 rw[List.getD_eq_getElem?_getD,List.getElem?_replicate]
 split<;>rfl
theorem tf{T:ah}{D:List Bool}{N n:Nat}{dir:Bool}(hN:(N:Int)=T.nodes)(hn:n<N){K:List Int}{H:Nat→Prop}(hK:K.getD n 0=0)(hH:∀y,H y↔y=n):uu T D n dir (List.replicate N (-1)) K H (fun _=>False) where
 len:=by simpa using hN
 ge x _:=by rw[lI];omega
 root:=.inr ⟨(hH n).2 rfl,hK⟩
 qg y hy:=by have:=(hH y).1 hy;subst this;exact⟨by omega,lI N y⟩
 mono x y _ hy:=by have:=(hH y).1 hy;subst this;rw[lI,hK];omega
 jJ y hy:=by have:=(hH y).1 hy;subst this;exact .inl ⟨rfl,hK⟩
 jh x _ h:=by rw[lI]at h;omega
 closed a _ _ hw:=by
  have:=hw.2.1
  have h2:at' (List.replicate N (-1)) (cz T dir a)= -1:=by
   unfold at'
   rw[List.getD_eq_getElem?_getD,List.getElem?_replicate]
   split<;>rfl
  rw[h2]at this;omega
 ub x _:=by rw[lI,uP];omega
 AF y hy:=by have:=(hH y).1 hy;subst this;rw[hK,uP];omega
theorem Ah{T:ah}(hT:Sound T){D:List Bool}{n:Nat}{dir:Bool}{out K:List Int}{H:Nat→Prop}(h:uu T D n dir out K H (fun _=>False)){i:Nat}(hi:H i)(hmin:∀j,H j→K.getD i 0≤K.getD j 0)(hKl:i<K.length){H':Nat→Prop}(hH':∀j,H' j↔H j∧j≠i):
  uu T D n dir (out.set i (K.getD i 0)) (K.set i 0) H' (fun a=>cz T dir a=(i:Int))∧fL (out.set i (K.getD i 0))=fL out+1∧(∀x:Nat,(x:Int)<T.nodes→at' (out.set i (K.getD i 0)) (x:Int)≤K.getD i 0)∧at' (out.set i (K.getD i 0)) (i:Int)=K.getD i 0∧0≤K.getD i 0∧K.getD i 0≤65535*(fL out:Int):=by
 obtain⟨hin,hineg⟩:=h.qg i hi
 have hil:i<out.length:=by have:=h.len;omega
 have hd:=h.key hT hi
 have hdu:=h.AF i hi
 have hat:=fun x:Nat=>nE out i x (K.getD i 0) hil
 have hK:∀j,j≠i→(K.set i 0).getD j 0=K.getD j 0:=fun j hj=>by rw[vz _ _ _ _ hKl,if_neg hj]
 have hcnt:fL (out.set i (K.getD i 0))=fL out+1:=by
  rw[kS out i _ hil hd,if_neg]
  have:out.getD i (-1)=at' out (i:Int):=by simp[at']
  rw[this,hineg];omega
 have hy:∀a,a<2*T.ae.length→Way T D n dir out a→Way T D n dir (out.set i (K.getD i 0)) a∧at' (out.set i (K.getD i 0)) (cz T dir a)=at' out (cz T dir a):=fun a ha hw=>by
  obtain⟨y,hy⟩:=Int.eq_ofNat_of_zero_le (hT.y dir a ha).1
  have hne:y≠i:=fun e=>by
   have:=hw.2.1
   rw[hy,e,hineg]at this;omega
  have e1:at' (out.set i (K.getD i 0)) (cz T dir a)=at' out (cz T dir a):=by rw[hy,hat y,if_neg hne]
  exact⟨⟨hw.1,by rw[e1];exact hw.2.1,hw.2.2⟩,e1⟩
 refine⟨⟨by simpa using h.len,fun x hx=>?_,?_,fun y hy'=>?_,fun x y hx hy'=>?_,fun y hy'=>?_,fun x hx h0=>?_,fun a ha hs hw=>?_,fun x hx=>?_,fun y hy'=>?_⟩,hcnt,fun x hx=>?_,by rw[hat i,if_pos rfl],hd,hdu⟩
 ·rw[hat x];split
  ·omega
  ·exact h.ge x hx
 ·by_cases e:n=i
  ·subst e
   left
   rw[hat n,if_pos rfl]
   rcases h.root with h0|⟨_,h0⟩
   ·omega
   ·exact h0
  ·rcases h.root with h0|⟨h1,h0⟩
   ·left;rw[hat n,if_neg e];exact h0
   ·right;exact⟨(hH' n).2 ⟨h1,e⟩,by rw[hK n e];exact h0⟩
 ·obtain⟨h1,h2⟩:=(hH' y).1 hy'
  obtain⟨h3,h4⟩:=h.qg y h1
  exact⟨h3,by rw[hat y,if_neg h2];exact h4⟩
 ·obtain⟨h1,h2⟩:=(hH' y).1 hy'
  rw[hat x,hK y h2]
  split
  ·exact hmin y h1
  ·exact h.mono x y hx h1
 ·obtain⟨h1,h2⟩:=(hH' y).1 hy'
  rw[hK y h2]
  rcases h.jJ y h1 with h3|⟨a,ha,hx,hw,he⟩
  ·exact .inl h3
  ·obtain⟨k1,k2⟩:=hy a ha hw
   exact .inr ⟨a,ha,hx,k1,by rw[k2];exact he⟩
 ·rw[hat x]at h0 ⊢
  by_cases e:x=i
  ·subst e
   rw[if_pos rfl]
   rcases h.jJ x hi with⟨h3,_⟩|⟨a,ha,hx,hw,he⟩
   ·exact .inl h3
   ·obtain⟨k1,k2⟩:=hy a ha hw
    exact .inr ⟨a,ha,hx,k1,by rw[k2];exact he⟩
  ·rw[if_neg e]at h0 ⊢
   rcases h.jh x hx h0 with h3|⟨a,ha,hx,hw,he⟩
   ·exact .inl h3
   ·obtain⟨k1,k2⟩:=hy a ha hw
    exact .inr ⟨a,ha,hx,k1,by rw[k2];exact he⟩
 ·obtain⟨y,hya⟩:=Int.eq_ofNat_of_zero_le (hT.y dir a ha).1
  have hne:y≠i:=fun e=>hs (by rw[hya,e])
  have e1:at' (out.set i (K.getD i 0)) (cz T dir a)=at' out (cz T dir a):=by rw[hya,hat y,if_neg hne]
  have hw0:Way T D n dir out a:=⟨hw.1,by rw[←e1];exact hw.2.1,hw.2.2⟩
  obtain⟨x,hxa⟩:=Int.eq_ofNat_of_zero_le (hT.x dir a ha).1
  have hc:=h.closed a ha (fun f=>f) hw0
  rw[e1]
  rw[hxa]at hc ⊢
  rw[Int.toNat_natCast]at hc ⊢
  rw[hat x]
  by_cases e:x=i
  ·subst e
   left
   rw[if_pos rfl]
   rcases hc with⟨h1,_⟩|⟨_,h2⟩
   ·rw[hineg]at h1;omega
   ·exact⟨hd,h2⟩
  ·rw[if_neg e]
   rcases hc with h1|⟨h1,h2⟩
   ·exact .inl h1
   ·exact .inr ⟨(hH' x).2 ⟨h1,e⟩,by rw[hK x e];exact h2⟩
 ·rw[hat x,hcnt]
  split
  ·omega
  ·have:=h.ub x hx;omega
 ·obtain⟨h1,h2⟩:=(hH' y).1 hy'
  rw[hK y h2,hcnt]
  have:=h.AF y h1;omega
 ·rw[hat x]
  split
  ·omega
  ·exact h.mono x i hx hi
theorem xj{T:ah}{D:List Bool}{n:Nat}{dir:Bool}{out K:List Int}{H:Nat→Prop}{i:Nat}(h:uu T D n dir out K H (fun a=>cz T dir a=(i:Int)))(hi:i≠n)(ho:cL T i=true):uu T D n dir out K H (fun _=>False):=
 {h with closed:=fun a ha _ hw=>h.closed a ha (fun e=>by
   rcases hw.2.2 with h1|h1
   ·rw[h1]at e;exact hi (by omega)
   ·rw[e,Int.toNat_natCast,ho]at h1;cases h1) hw}
theorem qy{T:ah}{D:List Bool}{n:Nat}{dir:Bool}{out K:List Int}{H S S':Nat→Prop}(h:uu T D n dir out K H S){a:Nat}(hS:∀b,b<2*T.ae.length→S b→S' b∨b=a)
  (hc:Way T D n dir out a→(0≤at' out (eK T dir a)∧at' out (eK T dir a)≤at' out (cz T dir a)+bS T a)∨(H (eK T dir a).toNat∧K.getD (eK T dir a).toNat 0≤at' out (cz T dir a)+bS T a)):uu T D n dir out K H S':=
 ⟨h.len,h.ge,h.root,h.qg,h.mono,h.jJ,h.jh,fun b hb hs hw=>by
   by_cases e:b=a
   ·subst e
    exact hc hw
   ·exact h.closed b hb (fun hb'=>(hS b hb hb').elim hs e) hw,h.ub,h.AF⟩
theorem A3{T:ah}(hT:Sound T){D:List Bool}{n:Nat}{dir:Bool}{out K:List Int}{H H' S S':Nat→Prop}(h:uu T D n dir out K H S){a m:Nat}(ha:a<2*T.ae.length)(hS:∀b,b<2*T.ae.length→S b→S' b∨b=a)
  (hw:Way T D n dir out a) (hm:eK T dir a=(m:Int)) (qg:at' out (m:Int)<0) (htop:∀x:Nat,(x:Int)<T.nodes→at' out (x:Int)≤at' out (cz T dir a)) (hub:at' out (cz T dir a)+65535≤65535*(fL out:Int))
  (hnew:¬H m∨at' out (cz T dir a)+bS T a<K.getD m 0) (hml:m<K.length) (hH':∀j,H' j↔H j∨j=m):
  uu T D n dir out (K.set m (at' out (cz T dir a)+bS T a)) H' S':=by
 have hc:=hT.cost a ha
 have hmN:(m:Int)<T.nodes:=by have:=(hT.x dir a ha).2;omega
 have hK:∀j,(K.set m (at' out (cz T dir a)+bS T a)).getD j 0=if j=m then at' out (cz T dir a)+bS T a else K.getD j 0:=fun j=>vz _ _ _ _ hml
 have hy0:=hw.2.1
 refine⟨h.len,h.ge,?_,fun y hy=>?_,fun x y hx hy=>?_,fun y hy=>?_,h.jh,fun b hb hs hwb=>?_,h.ub,fun y hy=>?_⟩
 ·rcases h.root with h0|⟨h1,h0⟩
  ·exact .inl h0
  ·right
   refine⟨(hH' n).2 (.inl h1),?_⟩
   rw[hK n,if_neg,h0]
   intro e
   subst e
   rcases hnew with h2|h2
   ·exact h2 h1
   ·omega
 ·rcases(hH' y).1 hy with h1|rfl
  ·exact h.qg y h1
  ·have:=h.ge y hmN
   exact⟨hmN,by omega⟩
 ·rw[hK y]
  have:=htop x hx
  split
  ·omega
  ·rename_i e
   exact h.mono x y hx (((hH' y).1 hy).resolve_right e)
 ·rw[hK y]
  by_cases e:y=m
  ·subst e
   rw[if_pos rfl]
   exact .inr ⟨a,ha,hm,hw,rfl⟩
  ·rw[if_neg e]
   exact h.jJ y (((hH' y).1 hy).resolve_right e)
 ·obtain⟨x,hx⟩:=Int.eq_ofNat_of_zero_le (hT.x dir b hb).1
  by_cases e:b=a
  ·subst e
   right
   rw[hm,Int.toNat_natCast]
   exact⟨(hH' m).2 (.inr rfl),by rw[hK m,if_pos rfl];exact Int.le_refl _⟩
  ·have h1:=h.closed b hb (fun hb'=>(hS b hb hb').elim hs e) hwb
   rw[hx,Int.toNat_natCast]at h1 ⊢
   rcases h1 with h1|⟨h1,h2⟩
   ·exact .inl h1
   ·right
    refine⟨(hH' x).2 (.inl h1),?_⟩
    rw[hK x]
    split
    ·rename_i e'
     subst e'
     rcases hnew with h3|h3
     ·exact absurd h1 h3
     ·omega
    ·exact h2
 ·rw[hK y]
  split
  ·omega
  ·rename_i e
   exact h.AF y (((hH' y).1 hy).resolve_right e)
theorem AP{T:ah}{D:List Bool}{n:Nat}{dir:Bool}{out K:List Int}{H:Nat→Prop}(h:uu T D n dir out K H (fun _=>False))(hH:∀y,¬H y):eJ T D n dir out:=
 ⟨h.len,h.root.resolve_right (fun k=>hH n k.1),h.ge,fun a ha hw=>(h.closed a ha (fun f=>f) hw).resolve_right (fun k=>hH _ k.1),h.jh⟩
end
end Net
end Go.Proofs.YteikppbedmmdnaaGreatDoor
namespace Go.Proofs.YteikppbedmmdnaaGreatDoor
namespace PW
section
open Go.RowKit cj Mem Net Heap
theorem Gz{N n:Nat}{K P O:List Int}(h:oS N n K P O)(hN:N≤65536){i:Nat}(hi:O.getD 0 0=(i:Int))(j:Nat)(hj:cd O (j:Int)):K.getD i 0≤K.getD j 0:=by
 obtain⟨hP,hO,hK,hH⟩:=h
 obtain⟨p,hp,he⟩:=hj
 have h1:=Bo hH p (by omega)
 unfold rk at h1
 rw[hi,he]at h1
 have h2:=hP.item p hp
 have:=Dg (by omega) (by omega) h1
 simpa using this
theorem qm(N:Nat):oS N 0 (List.replicate N 0) (List.replicate N 0) []:=
 ⟨⟨by simp,fun p hp=>by simp at hp,fun i hi=>.inl (by simp[List.getD_eq_getElem?_getD,List.getElem?_replicate,hi])⟩,rfl,by simp,fun q _ hq=>by omega⟩
theorem pE{P:Program}{M:Nat}{c:Code}{t:b9}{Q:Exit→St→Prop}{b:Bool}{d:Option cK}{N n:Nat}{K Pl O:List Int}(hd:jO d)(hT:lZ [0,1,2,3,5] t t)(h:W P M 0 c ⟨t,eP false d N n K Pl O⟩ Q):W P M 0 c ⟨t,eP b d N n K Pl O⟩ Q:=by
 cases b
 ·exact h
 ·exact cJ [0,1,2,3,5] hT (.same hd rfl<|.kept rfl (.cells (ao.cons (Ren.own (i:=2) I)<|ao.cons (Ren.own (i:=3) I)<|ao.cons (Ren.own (i:=4) I) ao.nil))<|.kept rfl (.row ao.pure)<|.kept rfl (.row ao.pure)<|.kept rfl (.row ao.pure)<|.nil) I I h
theorem dF{P:Program}{M L:Nat}{c:Code}{t:b9}{Q:Exit→St→Prop}{σ σ':bN}(he:σ=σ')(h:W P M L c ⟨t,σ'⟩ Q):W P M L c ⟨t,σ⟩ Q:=by subst he;exact h
theorem uL{N n:Nat}(d:Option cK)(hd:jO d)(K P O:List Int)(h:oS N n K P O)(hN:N≤65536):
  aW Tryz.prog 83 [.ptr 1 0] (eP false d N n K P O) (fun r σ'=>∃(b ok:Bool) (i n':Nat) (key:Int) (K' P' O':List Int),r= .tuple [num i,num key,flag ok]∧σ'=eP b d N n' K' P' O'∧
   ((ok=false∧n=0)∨(ok=true∧i<N∧cd O (i:Int)∧(∀j:Nat,cd O (j:Int)→K.getD i 0≤K.getD j 0)∧key=K.getD i 0∧K'=K.set i 0∧oS N n' K' P' O'∧∀j:Nat,cd O' (j:Int)↔cd O (j:Int)∧j≠i))):=by
 refine(GI d hd K P O h hN).mono fun r σ' hr=>?_
 rcases hr with⟨h1,rfl,rfl⟩|⟨n',i,P',O',h1,h2,h3,rfl,rfl,h4,h5⟩
 ·exact⟨false,false,0,n,0,K,P,O,rfl,rfl,.inl ⟨rfl,h1⟩⟩
 ·refine⟨true,true,i,n',K.getD i 0,K.set i 0,P',O',rfl,rfl,.inr ⟨rfl,h2,⟨0,by have:=h.2.1;omega,h3⟩,Gz h hN h3,rfl,rfl,h4,fun j=>(h5 j).trans ?_⟩⟩
  constructor<;>rintro⟨a,b⟩<;>exact⟨a,by omega⟩
def ig(T:ah)(D:List Bool)(n:Nat)(f1 f2:FuncId)(cap1 cap2:List PV):List PV:=[.raw (.int .i64 T.nodes),bq T.over,.slice T.ae.length (ct T.ae),bq D,num n,.func f1 cap1,.func f2 cap2]
instance (T:ah) (D:List Bool) (n:Nat) (f1 f2:FuncId) (cap1 cap2:List PV) [aI cap1] [aI cap2]:aI (ig T D n f1 f2 cap1 cap2):=by unfold ig;infer_instance
def aP(T:ah)(dir:Bool)(i:Nat):List Int:=((List.range (2*T.ae.length)).filter fun a=>decide (cz T dir a=(i:Int))).map Int.ofNat
theorem fP(T:ah)(dir:Bool)(i:Nat)(a:Nat):(a:Int)∈aP T dir i↔a<2*T.ae.length∧cz T dir a=(i:Int):=by
 unfold aP
 simp only[List.mem_map,List.mem_filter,List.mem_range,decide_eq_true_eq]
 constructor
 ·rintro⟨b,h,e⟩
  have:b=a:=Int.ofNat.inj e
  subst this;exact h
 ·intro h;exact⟨a,h,rfl⟩
theorem jj(T:ah)(dir:Bool)(i k:Nat)(h:k<(aP T dir i).length):∃a:Nat,(aP T dir i).getD k 0=(a:Int)∧a<2*T.ae.length∧cz T dir a=(i:Int):=by
 have hm:(aP T dir i).getD k 0∈aP T dir i:=cf h
 have:∃a:Nat,(aP T dir i).getD k 0=(a:Int):=by
  unfold aP at hm ⊢
  obtain⟨b,_,e⟩:=List.mem_map.1 hm
  exact⟨b,e.symm⟩
 obtain⟨a,ha⟩:=this
 rw[ha]at hm
 exact⟨a,ha,(fP T dir i a).1 hm⟩
theorem gT(T:ah)(dir:Bool)(i:Nat):(aP T dir i).length≤2*T.ae.length:=by
 unfold aP
 rw[List.length_map]
 exact Nat.le_trans (List.length_filter_le _ _) (by simp)
theorem wU(N k:Nat)(h:k<N):(List.replicate k (-1:Int)++List.replicate (N - k) 0).set k (-1)=List.replicate (k+1) (-1)++List.replicate (N - (k+1)) 0:=by
 rw[List.set_append_right _ _ (by simp),List.length_replicate,Nat.sub_self,show N - k=(N - (k+1))+1 by omega,List.replicate_succ,List.set_cons_zero,List.replicate_succ',List.append_assoc]
 rfl
theorem lx(N:Nat):dB [.raw (.int .i64 0)] N=aL (List.replicate 0 (-1)++List.replicate (N - 0) 0):=by simpa using cU N
theorem eR(n:Nat)(L:List Int):jO (some (.row 3 1 n (aL L))):=fun b h=>by
 cases h
 exact inferInstanceAs (aI (aL L))
theorem D5{σ:bN}{K P O:List Int}(h:aD σ (.ptr 1 0) (oP K P O))(p:Int):ai σ ([.ptr 1 0,num p]++[]) [oP K P O,num p]:=ai.cons h (ai.cons aD.pure ai.nil)
set_option maxHeartbeats 4000000 in
theorem Ab(T:ah)(D:List Bool)(n:Nat)(dir:Bool)(f1 f2:FuncId)(cap1 cap2:List PV)[aI cap1][aI cap2](hv:au T=true)(hf:bR T D=true)(hn:(n:Int)<T.nodes)(he1:enters Tryz.prog f1=true)(he2:enters Tryz.prog f2=true)
  (h1:∀i:Nat,(i:Int)<T.nodes→Can Tryz.prog f1 ([num i]++cap1) (· =aw (aP T dir i))) (h2:∀a:Nat,a<2*T.ae.length→Can Tryz.prog f2 ([num a]++cap2) (· =num (eK T dir a))):
  Can Tryz.prog 59 [.agg (ig T D n f1 f2 cap1 cap2)] (· =aw (aO T D n dir)):=by
 have hbd:=dz hv
 have hS:=aM hv
 obtain⟨N,hN⟩:∃N:Nat,T.nodes=(N:Int):=⟨T.nodes.toNat,by omega⟩
 have hN64:N≤64:=by have:=hS.nodes;omega
 have hnN:n<N:=by omega
 refine aT Tryz.func59 I Tryz.ntmps59 I<|af (.a 2 I<|.k [1] I)<|aR<|ax 3 I<|cg (da I (bG.rk.get I) I I hN hN ⟨by unfold maxLen;omega,by omega⟩) I<|ax 1 I<|aH [1,3] I ?_
 refine an<|af (.a 3 I<|.k [1,3,21,22] I)<|ay<|eY [1,3,21,22] I<|br (fun r s=>∃k,k≤N∧r=N - k∧s=⟨[(1,.bg (ig T D n f1 f2 cap1 cap2) 0),(3,.own 0),(21,num N),(22,num k)],[some (.row 3 1 N (aL (List.replicate k (-1)++List.replicate (N - k) 0)))]⟩) N ⟨0,by omega,by omega,by rw[←lx N];rfl⟩ ?_
 rintro r s ⟨k,hk,rfl,rfl⟩
 refine af (.a 1 I<|.k [1,3,21,22,23] I)<|an<|aj I (fun hc=>?_) (fun hc=>?_)
 ·have hlt:k<N:=by have:=of_decide_eq_true hc;omega
  refine ak<|an<|ay<|af (.a 2 I<|.k [1,3,4,21,22] I)<|bx<|ax 2 I<|bw (aJ (k) I) I<|ba ((by first|exact bM I (bG.tk.get I) I I I (by first|omega|(simp;omega))|exact aX I (bG.tk.get I) I I I (by first|omega|(simp;omega)))) I I<|aH [1,3,21,22] I ?_
  refine dF (σ':=[some (.row 3 1 N (aL (List.replicate (k+1) (-1)++List.replicate (N - (k+1)) 0)))]) (by rw[←wU N k hlt];rfl) ?_
  refine aF (.v (aU I) I<|.a 1 I<|.k [1,3,21,22] I) ?_
  exact⟨N - (k+1),by omega,k+1,by omega,rfl,rfl⟩
 ·have hke:k=N:=by have:=of_decide_eq_false hc;omega
  subst hke
  refine dF (σ':=[some (.row 3 1 k (aL (List.replicate k (-1))))]) (by simp) ?_
  refine bp<|aR<|ax 2 I<|bw (aK I ((show some (num T.nodes)=some (num (k:Int)) by rw[hN]))) I<|b7 I I (aW.mono (uC k (some (.row 3 1 k (aL (List.replicate k (-1))))) (eR _ _) (by omega)) (fun _ σ' h=>?_))
  obtain⟨rfl,rfl⟩:=h
  refine ax 5 I<|aH [1,3,5] I ?_
  refine aR<|ax 3 I<|b7 I I (aW.mono (oe (some (.row 3 1 k (aL (List.replicate k (-1))))) (eR _ _) _ _ _ (qm k) (by omega) n hnN 0) (fun _ σ' h=>?_))
  obtain⟨b,n1,P1,O1,rfl,hok,hheld⟩:=h
  refine aH [1,3,5] I ?_
  refine pE (eR _ _) (.cons 1 I Ren.pure<|.cons 3 I (Ren.own (i:=0) I)<|.cons 5 I (Ren.ptr (i:=1) I)<|.nil) ?_
  have hD0:=tf (T:=T) (D:=D) (N:=k) (n:=n) (dir:=dir) hN.symm hnN (K:=(List.replicate k (0:Int)).set n 0) (H:=fun y=>cd O1 (y:Int)) (by rw[vz _ _ _ _ (by simpa using hnN),if_pos rfl]) (fun y=>(hheld y).trans ⟨fun h=>h.elim (fun⟨p,hp,_⟩=>by simp at hp) (fun e=>by omega),fun e=>.inr (by omega)⟩)
  generalize (List.replicate k (0:Int)).set n 0=K1 at hok hD0
  generalize List.replicate k (-1:Int)=out1 at hD0
  clear hheld
  refine ay<|eY [1,3,5] I<|br (fun r s=>∃out K P O q,uu T D n dir out K (fun y=>cd O (y:Int)) (fun _=>False)∧oS k q K P O∧r=k+1 - fL out∧s=⟨[(1,.bg (ig T D n f1 f2 cap1 cap2) 0),(3,.own 0),(5,.ptr 1 0)],eP false (some (.row 3 1 k (aL out))) k q K P O⟩) (k+1 - fL out1) ⟨out1,K1,P1,O1,n1,hD0,hok,rfl,rfl⟩ ?_
  clear hD0 hok out1 K1 P1 O1 n1 b
  rintro r s ⟨out,K,P,O,q,hD,hok,rfl,rfl⟩
  refine ay<|aR<|ax 1 I<|b7 I I (aW.mono (uL (some (.row 3 1 k (aL out))) (eR _ _) K P O hok (by omega)) (fun _ σ' h=>?_))
  obtain⟨b,ok,i,n1,key,K1,P1,O1,rfl,rfl,hpop⟩:=h
  refine ax 7 I<|aH [1,3,5,7,8,9] I ?_
  refine pE (eR _ _) (.cons 1 I Ren.pure<|.cons 3 I (Ren.own (i:=0) I)<|.cons 5 I (Ren.ptr (i:=1) I)<|.cons 7 I Ren.pure<|.cons 8 I Ren.pure<|.cons 9 I Ren.pure<|.nil) ?_
  refine an<|af (.a 2 I<|.k [1,3,5,7,8,47] I)<|aj I (fun hc=>?_) (fun hc=>?_)
  ·have hok0:ok=false:=by cases ok;rfl;cases hc
   have hq0:q=0:=by
    rcases hpop with⟨_,h⟩|⟨h,_⟩
    ·exact h
    ·rw[hok0]at h;cases h
   have hdist:aO T D n dir=out:=jn hS (AP hD (fun y ⟨p,hp,_⟩=>by have:=hok.2.1;omega))
   exact af (.a 2 I<|.k [2] I)<|az<|⟨_,_,aE.of I,aD.dA rfl ai.pure,by rw[hdist];unfold aw;rw[show out.length=k by have:=hD.len;omega]⟩
  ·have hok1:ok=true:=by cases ok;cases hc;rfl
   rcases hpop with⟨h,_⟩|⟨_,hiN,hHi,hmin,rfl,rfl,hok',hH'⟩
   ·rw[hok1]at h;cases h
   obtain⟨hD1,hcnt,htop,hati,hk0,hku⟩:=Ah hS hD hHi hmin (by rw[hok.2.2.1];exact hiN) hH'
   have hol:out.length=k:=by have:=hD.len;omega
   have hcl:=gZ (out.set i (K.getD i 0))
   have hiT:(i:Int)<T.nodes:=by omega
   refine ak<|aR<|ax 3 I<|bw (aJ (i) I) I<|ba ((by first|exact bM I (bG.tk.get I) I I I (by first|omega|(simp;omega))|exact aX I (bG.tk.get I) I I I (by first|omega|(simp;omega)))) I I<|aH [1,3,5,7,8] I ?_
   refine dF (σ':=eP false (some (.row 3 1 k (aL (out.set i (K.getD i 0))))) k n1 (K.set i 0) P1 O1) I ?_
   have ho1:(out.set i (K.getD i 0)).length=k:=by simpa using hol
   have hmeas:k+1 - fL (out.set i (K.getD i 0))<k+1 - fL out:=by have:=gZ (out.set i (K.getD i 0));omega
   generalize K.getD i 0=d at hD1 hcnt htop hati hk0 hku ho1 hcl hmeas
   generalize out.set i d=out1 at hD1 hcnt htop hati ho1 hcl hmeas
   generalize K.set i 0=K1 at hD1 hok'
   refine an ?_
   obtain⟨q1,hq1⟩:∃q,decide ((i:Int)≠(n:Int))=q:=⟨_,rfl⟩
   obtain⟨q2,hq2⟩:∃q,cL T i=q:=⟨_,rfl⟩
   have hov:T.over.length=0∨i<T.over.length:=by have:=hbd.2.2.2;omega
   refine bP 62 (.raw (.bool (q1&&q2))) [1,3,5,7,8] I ?_ ?_
   ·refine .a 3 I<|.v (cD I (hq1)) I<|.a 1 I<|?_
    cases q1
    ·exact .a 5 I<|.k [62,1,3,5,7,8] I
    ·exact .a 3 I<|.c rfl (hq2▸lK T i hov) I<|.a 1 I<|.k [62,1,3,5,7,8] I
   refine aj I (fun hc=>?_) (fun hc=>?_)
   ·obtain⟨c1,c2⟩:=Bool.and_eq_true_iff.1 hc
    rw[c1]at hq1
    rw[c2]at hq2
    have hDe:=xj hD1 (by have:=of_decide_eq_true hq1;omega) hq2
    refine iJ (.cons (k:=1) I<|.cons (k:=3) I<|.cons (k:=5) I<|Sub.nil _) ?_
    refine bp ?_
    first
     |exact⟨_,hmeas,out1,K2,P2,O2,q2,hDe,hok2,rfl,rfl⟩
     |exact⟨_,hmeas,out1,K1,P1,O1,n1,hDe,hok',rfl,rfl⟩
   ·have hfree:i=n∨cL T i=false:=by
     by_cases e:i=n
     ·exact .inl e
     ·right
      have:q1=true:=by rw[←hq1];simp;omega
      rw[this,Bool.true_and]at hc
      rw[hq2,hc]
    clear hq1 hq2 hc
    refine ak<|af (.a 3 I<|.v (pq I he1 rfl rfl (h1 i hiT)) I<|.a 2 I<|.k [1,3,5,8,66,67,68] I) ?_
    have hll:=gT T dir i
    have hD2:uu T D n dir out1 K1 (fun y=>cd O1 (y:Int)) (fun a=>cz T dir a=(i:Int)∧(a:Int)∉(aP T dir i).take 0):=⟨hD1.len,hD1.ge,hD1.root,hD1.qg,hD1.mono,hD1.jJ,hD1.jh,fun a ha hs=>hD1.closed a ha (fun e=>hs ⟨e,by simp⟩),hD1.ub,hD1.AF⟩
    refine ay<|eY [1,3,5,8,66,67,68] I<|br (fun r s=>∃j K P O q,j≤(aP T dir i).length∧uu T D n dir out1 K (fun y=>cd O (y:Int)) (fun a=>cz T dir a=(i:Int)∧(a:Int)∉(aP T dir i).take j)∧oS k q K P O∧r=(aP T dir i).length - j∧s=⟨[(1,.bg (ig T D n f1 f2 cap1 cap2) 0),(3,.own 0),(5,.ptr 1 0),(8,num d),(66,aw (aP T dir i)),(67,num (aP T dir i).length),(68,num j)],eP false (some (.row 3 1 k (aL out1))) k q K P O⟩) (aP T dir i).length ⟨0,K1,P1,O1,n1,by omega,hD2,hok',rfl,rfl⟩ ?_
    clear hD2 hok' hD1 K1 P1 O1 n1 hH' hmin hHi hD hok
    rintro r s ⟨j,K2,P2,O2,q2,hj,hD2,hok2,rfl,rfl⟩
    refine af (.a 1 I<|.k [1,3,5,8,66,67,68,69] I)<|an<|aj I (fun hc=>?_) (fun hc=>?_)
    ·have hlt:j<(aP T dir i).length:=by have:=of_decide_eq_true hc;omega
     obtain⟨a,ha,ham,hay⟩:=jj T dir i j hlt
     obtain⟨m,hm⟩:=Int.eq_ofNat_of_zero_le (hS.x dir a ham).1
     have hmN:m<k:=by have:=(hS.x dir a ham).2;omega
     have hcb:=hS.cost a ham
     have hDl:D.length=0∨a<D.length:=by simp only[bR,decide_eq_true_eq]at hf;omega
     have hSS:∀b,b<2*T.ae.length→(cz T dir b=(i:Int)∧(b:Int)∉(aP T dir i).take j)→(cz T dir b=(i:Int)∧(b:Int)∉(aP T dir i).take (j+1))∨b=a:=fun b _ ⟨e1,e2⟩=>by
      by_cases e:b=a
      ·exact .inr e
      ·left
       refine⟨e1,fun hm'=>?_⟩
       rw[dr _ j 0 hlt,ha]at hm'
       rcases List.mem_append.1 hm' with h|h
       ·exact e2 h
       ·simp at h;exact e (by omega)
     have hayi:at' out1 (cz T dir a)=d:=by rw[hay];exact hati
     have hga:out1.getD m 0=at' out1 (m:Int):=by simp[at',List.getD_eq_getElem?_getD,show m<out1.length by omega]
     refine ak<|an<|ay<|af (.v (aJ (j) I) I<|.v (aK I ((aC _ j hlt).trans (by rw[ha]))) I<|.a 1 I<|.k [1,3,5,8,11,66,67,68] I)<|af (.a 3 I<|.v (pq I he2 rfl rfl (hm▸h2 a ham)) I<|.a 1 I<|.k [1,3,5,8,11,12,66,67,68] I)<|an ?_
     obtain⟨p1,hp1⟩:∃q,bF D a=q:=⟨_,rfl⟩
     obtain⟨p2,hp2⟩:∃q,decide (0≤out1.getD m 0)=q:=⟨_,rfl⟩
     refine bP 86 (.raw (.bool (p1||p2))) [1,3,5,8,11,12,66,67,68] I ?_ ?_
     ·refine .a 3 I<|.c rfl (hp1▸jl D a hDl) I<|.a 1 I<|?_
      cases p1
      ·exact .a 2 I<|.v (aJ (m) I) I<|.v (aK I (aC out1 m (by omega))) I<|.v (cD I (hp2)) I<|.a 1 I<|.k [86,1,3,5,8,11,12,66,67,68] I
      ·exact .a 6 I<|.k [86,1,3,5,8,11,12,66,67,68] I
     refine aj I (fun hc=>?_) (fun hc=>?_)
     ·have hD3:=qy (S':=fun b=>cz T dir b=(i:Int)∧(b:Int)∉(aP T dir i).take (j+1)) hD2 hSS (fun hw=>.inl (by
       rcases Bool.or_eq_true_iff.1 hc with h|h
       ·rw[hw.1]at hp1;rw[h]at hp1;cases hp1
       ·rw[h]at hp2
        have h3:=of_decide_eq_true hp2
        rw[hga]at h3
        rw[hm,hayi]
        have:=htop m (by omega)
        exact⟨h3,by omega⟩))
      refine bp<|aF (.v (aU I) I<|.a 1 I<|.k [1,3,5,8,66,67,68] I) ?_
      first
       |exact⟨(aP T dir i).length - (j+1),by omega,j+1,_,P3,O3,n3,by omega,hD3,hok3,rfl,rfl⟩
       |exact⟨(aP T dir i).length - (j+1),by omega,j+1,K2,P2,O2,q2,by omega,hD3,hok2,rfl,rfl⟩
     ·obtain⟨c1,c2⟩:=Bool.or_eq_false_iff.1 hc
      rw[c1]at hp1
      rw[c2]at hp2
      have hmneg:at' out1 (m:Int)<0:=by have:=of_decide_eq_false hp2;rw[hga]at this;omega
      have hway:Net.Way T D n dir out1 a:=⟨hp1,by rw[hayi];exact hk0,by rw[hay,Int.toNat_natCast];rcases hfree with h|h;(exact .inl (by rw[h]));exact .inr h⟩
      refine ak<|af (.a 4 I<|.c rfl (gi T a ham) I<|.v (aU I) I<|.a 1 I<|.k [1,3,5,8,12,13,66,67,68] I) ?_
      obtain⟨p3,hp3⟩:∃q,(!decide (P2.getD m 0=0))=q:=⟨_,rfl⟩
      obtain⟨kv,hkv⟩:∃z,(if P2.getD m 0=0 then 0 else K2.getD m 0)=z:=⟨_,rfl⟩
      have hkc:=vM K2 P2 O2 hok2.1.len hok2.2.2.1 (by omega) m hmN
      rw[hp3,hkv]at hkc
      refine af (.a 2 I<|.v (oM I (D5 (nS false _ hok2.2.2.1 hok2.1.len hok2.2.1) _) (hkc)) I<|.a 5 I<|.k [1,3,5,8,12,13,14,15,66,67,68] I) ?_
      obtain⟨p4,hp4⟩:∃q,decide (d+bS T a<kv)=q:=⟨_,rfl⟩
      refine bP 105 (.raw (.bool ((!p3)||p4))) [1,3,5,8,12,13,66,67,68] I ?_ ?_
      ·refine .a 3 I<|?_
       cases p3
       ·exact .a 4 I<|.k [105,1,3,5,8,12,13,66,67,68] I
       ·exact .a 2 I<|.v (cD I (hp4)) I<|.a 1 I<|.k [105,1,3,5,8,12,13,66,67,68] I
      refine aj I (fun hc=>?_) (fun hc=>?_)
      ·have hnew:¬cd O2 (m:Int)∨at' out1 (cz T dir a)+bS T a<K2.getD m 0:=by
        rw[hayi]
        by_cases e:P2.getD m 0=0
        ·exact .inl ((hok2.1.zero hmN).1 e)
        ·right
         have h3:p3=true:=by rw[←hp3];simp only[e];rfl
         rw[h3]at hc
         have h4:p4=true:=by simpa using hc
         rw[h4]at hp4
         have:=of_decide_eq_true hp4
         rw[if_neg e]at hkv
         omega
       refine bx<|ax 3 I<|b7 I I (aW.mono (oe (some (.row 3 1 k (aL out1))) (eR _ _) K2 P2 O2 hok2 (by omega) m hmN (d+bS T a)) (fun _ σ' h=>?_))
       obtain⟨b3,n3,P3,O3,rfl,hok3,hH3⟩:=h
       refine aH [1,3,5,8,66,67,68] I ?_
       refine pE (eR _ _) (.cons 1 I Ren.pure<|.cons 3 I (Ren.own (i:=0) I)<|.cons 5 I (Ren.ptr (i:=1) I)<|.cons 8 I Ren.pure<|.cons 66 I Ren.pure<|.cons 67 I Ren.pure<|.cons 68 I Ren.pure<|.nil) ?_
       have hD3:=A3 (S':=fun b=>cz T dir b=(i:Int)∧(b:Int)∉(aP T dir i).take (j+1)) (H':=fun y=>cd O3 (y:Int)) hS hD2 ham hSS hway hm hmneg (fun x hx=>by rw[hayi];exact htop x hx) (by rw[hayi];omega) hnew (by rw[hok2.2.2.1];exact hmN) (fun y=>(hH3 y).trans ⟨fun h=>h.imp id (fun e=>by omega),fun h=>h.imp id (fun e=>by omega)⟩)
       rw[hayi]at hD3
       refine aF (.v (aU I) I<|.a 1 I<|.k [1,3,5,8,66,67,68] I) ?_
       first
        |exact⟨(aP T dir i).length - (j+1),by omega,j+1,_,P3,O3,n3,by omega,hD3,hok3,rfl,rfl⟩
        |exact⟨(aP T dir i).length - (j+1),by omega,j+1,K2,P2,O2,q2,by omega,hD3,hok2,rfl,rfl⟩
      ·obtain⟨c3,c4⟩:=Bool.or_eq_false_iff.1 hc
       have h3:p3=true:=by cases p3;cases c3;rfl
       rw[h3]at hp3
       rw[c4]at hp4
       have e:P2.getD m 0≠0:=fun e=>by rw[e]at hp3;cases hp3
       have hD3:=qy (S':=fun b=>cz T dir b=(i:Int)∧(b:Int)∉(aP T dir i).take (j+1)) hD2 hSS (fun hw=>.inr (by
        rw[hm,Int.toNat_natCast,hayi]
        refine⟨Classical.byContradiction fun hh=>e ((hok2.1.zero hmN).2 hh),?_⟩
        rw[if_neg e]at hkv
        have:=of_decide_eq_false hp4
        omega))
       refine ak<|aF (.v (aU I) I<|.a 1 I<|.k [1,3,5,8,66,67,68] I) ?_
       first
        |exact⟨(aP T dir i).length - (j+1),by omega,j+1,_,P3,O3,n3,by omega,hD3,hok3,rfl,rfl⟩
        |exact⟨(aP T dir i).length - (j+1),by omega,j+1,K2,P2,O2,q2,by omega,hD3,hok2,rfl,rfl⟩
    ·have hje:j=(aP T dir i).length:=by have:=of_decide_eq_false hc;omega
     have hDe:uu T D n dir out1 K2 (fun y=>cd O2 (y:Int)) (fun _=>False):=⟨hD2.len,hD2.ge,hD2.root,hD2.qg,hD2.mono,hD2.jJ,hD2.jh,fun a ha _=>hD2.closed a ha (fun⟨e1,e2⟩=>e2 (by rw[hje,List.take_length];exact(fP T dir i a).2 ⟨ha,e1⟩)),hD2.ub,hD2.AF⟩
     refine iJ (.cons (k:=1) I<|.cons (k:=3) I<|.cons (k:=5) I<|Sub.nil _) ?_
     refine bp ?_
     first
      |exact⟨_,hmeas,out1,K2,P2,O2,q2,hDe,hok2,rfl,rfl⟩
      |exact⟨_,hmeas,out1,K1,P1,O1,n1,hDe,hok',rfl,rfl⟩
end
section
open Go.RowKit cj Mem Net
def fV(T:ah)(D:List Bool)(L:List Int)(dn:Int)(d a:Nat):Bool:=
 !(bF D a||decide (L.getD (aB T a).toNat 0<0)||(decide (aB T a≠(d:Int))&&cL T (aB T a).toNat))&&decide (L.getD (aB T a).toNat 0+bS T a=dn)
def eB(T:ah)(D:List Bool)(L:List Int)(dn:Int)(d:Nat)(l:List Int):List Int:=l.filter fun a=>fV T D L dn d a.toNat
theorem tA(T:ah)(D:List Bool)(L lv:List Int)(n d:Nat)(hv:au T=true)(hf:bR T D=true)(hL:(L.length:Int)=T.nodes)(hub:∀x∈L, -1≤x∧x≤4194240)(hn:(n:Int)<T.nodes)(hd:(d:Int)<T.nodes)
    (hlv:∀a∈lv,0≤a∧a<2*(T.ae.length:Int)) (hll:lv.length≤100000):
    Can Tryz.prog 72 [aZ T,bq D,aw L,aw lv,num n,num d] (· =aw (if n=d∨L.getD n 0<0 then [] else eB T D L (L.getD n 0) d lv)):=by
  have hbd:=dz hv
  have hS:=aM hv
  have hnL:n<L.length:=by omega
  refine aT Tryz.func72 I Tryz.ntmps72 I<|af (.a 2 I<|.k [1,2,3,4,5,6] I)<|af (.a 1 I<|.k [1,2,3,4,5,6,13] I) ?_
  obtain⟨q1,hq1⟩:∃q,decide ((n:Int)=(d:Int))=q:=⟨_,rfl⟩
  obtain⟨q2,hq2⟩:∃q,decide (L.getD n 0<0)=q:=⟨_,rfl⟩
  refine an<|bP 26 (.raw (.bool (q1||q2))) [1,2,3,4,5,6,13] I ?_ ?_
  · refine .a 2 I<|.v (cD I (hq1)) I<|.a 1 I<|?_
    cases q1
    · exact .a 2 I<|.v (aJ (n) I) I<|.v (aK I (aC L n hnL)) I<|.v (cD I (hq2)) I<|.a 1 I<|.k [26,1,2,3,4,5,6,13] I
    · exact .a 6 I<|.k [26,1,2,3,4,5,6,13] I
  refine aj (b:=q1||q2) I (fun hc=>?_) (fun hc=>?_)
  · have:n=d∨L.getD n 0<0:=by
      rcases Bool.or_eq_true_iff.1 hc with h|h
      · rw[h]at hq1;exact .inl (by have:=of_decide_eq_true hq1;omega)
      · rw[h]at hq2;exact .inr (of_decide_eq_true hq2)
    rw[if_pos this]
    refine af (.a 2 I<|.k [12] I)<|az ⟨_,_,.cons (.tmp rfl) .nil,aD.cc,rfl⟩
  · obtain ⟨c1, c2⟩ := Bool.or_eq_false_iff.1 hc
    rw[c1]at hq1
    rw[c2]at hq2
    have hnd:¬(n=d∨L.getD n 0<0):=by
      have:=of_decide_eq_false hq1
      have:=of_decide_eq_false hq2
      omega
    rw[if_neg hnd]
    refine ak<|an<|af (.a 3 I<|.k [1,2,4,5,6,13,28,29,30] I)<|fM 13 3 1 I ?_
    refine ay<|iJ (.cons (k:=1) I<|.cons (k:=2) I<|.cons (k:=4) I<|.cons (k:=5) I<|.cons (k:=6) I<|.cons (k:=13) I<|.cons (k:=28) I<|.cons (k:=29) I<|.cons (k:=30) I<|Sub.nil _) ?_
    refine br (fun r s=>∃i,i≤lv.length∧r=lv.length - i∧s=⟨[(1,bq D),(2,aw L),(4,num n),(5,num d),(6,.bg (bI T) 0),(13,.own 0),(28,aw lv),(29,num lv.length),(30,num i)],[some (.row 3 1 (eB T D L (L.getD n 0) d (lv.take i)).length (aL (eB T D L (L.getD n 0) d (lv.take i))))]⟩) lv.length ⟨0,by omega,by omega,?_⟩ ?_
    · simp only[List.take_zero,eB,List.filter_nil]
      rfl
    · rintro r s ⟨i,hi,rfl,rfl⟩
      refine af (.a 1 I<|.k [1,2,4,5,6,13,28,29,30,31] I)<|an<|aj (b:=decide ((i:Int)<(lv.length:Int))) I (fun hc=>?_) (fun hc=>?_)
      · have hlt:i<lv.length:=by have:=of_decide_eq_true hc;omega
        refine ak ?_
        obtain⟨a,ha⟩:∃a:Nat,lv.getD i 0=(a:Int):=Int.eq_ofNat_of_zero_le (hlv _ (cf hlt)).1
        have ham:a<2*T.ae.length:=by
          have:=(hlv (lv.getD i 0) (cf hlt)).2
          omega
        have hstep:eB T D L (L.getD n 0) d (lv.take (i+1))=eB T D L (L.getD n 0) d (lv.take i)++(if fV T D L (L.getD n 0) d a then [(a:Int)] else []):=by
          unfold eB
          rw[List.take_add_one,List.filter_append,show lv[i]? =some (a:Int) by rw[←ha,List.getD_eq_getElem?_getD];simp[hlt]]
          congr 1
          simp only[Option.toList_some,List.filter_cons,List.filter_nil,Int.toNat_natCast]
        have hlen:(eB T D L (L.getD n 0) d (lv.take i)).length≤100000:=Nat.le_trans (List.length_filter_le _ _) (by rw[List.length_take];omega)
        obtain⟨hd0,hhN⟩:=hS.head a ham
        obtain⟨h,hh⟩:=Int.eq_ofNat_of_zero_le hd0
        have hhL:h<L.length:=by omega
        have hub1: -1≤L.getD h 0∧L.getD h 0≤4194240:=hub _ (cf hhL)
        have hcb:=hS.cost a ham
        have hDl:D.length=0∨a<D.length:=by simp only[bR,decide_eq_true_eq]at hf;omega
        have hov:T.over.length=0∨h<T.over.length:=by have:=hbd.2.2.2;omega
        refine an<|ay<|af (.v (aJ (i) I) I<|.v (aK I ((aC lv i hlt).trans (by rw[ha]))) I<|.a 1 I<|.k [1,2,4,5,6,13,15,28,29,30] I)<|af (.a 2 I<|.c rfl (hh▸ed T a ham (by omega)) I<|.a 1 I<|.k [1,2,4,5,6,13,15,16,28,29,30] I) ?_
        obtain⟨p1,hp1⟩:∃q,bF D a=q:=⟨_,rfl⟩
        obtain⟨p2,hp2⟩:∃q,decide (L.getD h 0<0)=q:=⟨_,rfl⟩
        obtain⟨p3,hp3⟩:∃q,decide ((h:Int)≠(d:Int))=q:=⟨_,rfl⟩
        obtain⟨p4,hp4⟩:∃q,cL T h=q:=⟨_,rfl⟩
        obtain⟨p5,hp5⟩:∃q,decide (L.getD h 0+bS T a=L.getD n 0)=q:=⟨_,rfl⟩
        have hpass:fV T D L (L.getD n 0) d a=(!((p1||p2)||(p3&&p4))&&p5):=by
          unfold fV;rw[hh,Int.toNat_natCast,hp1,hp2,hp3,hp4,hp5]
        refine an<|bP 56 (.raw (.bool ((p1||p2)||(p3&&p4)))) [1,2,4,5,6,13,15,16,28,29,30] I ?_ ?_
        · refine .a 2 I<|.c rfl (hp1▸jl D a hDl) I<|.a 1 I<|?_
          cases p1
          · refine .a 2 I<|.v (aJ (h) I) I<|.v (aK I (aC L h hhL)) I<|.v (cD I (hp2)) I<|.a 2 I<|?_
            cases p2
            · refine .a 2 I<|.v (cD I (hp3)) I<|.a 1 I<|?_
              cases p3
              · exact .a 5 I<|.k [56,1,2,4,5,6,13,15,16,28,29,30] I
              · exact .a 2 I<|.c rfl (hp4▸lK T h hov) I<|.a 2 I<|.k [56,1,2,4,5,6,13,15,16,28,29,30] I
            · exact .a 9 I<|.k [56,1,2,4,5,6,13,15,16,28,29,30] I
          · exact .a 16 I<|.k [56,1,2,4,5,6,13,15,16,28,29,30] I
        refine aj (b:=(p1||p2)||(p3&&p4)) I (fun hc=>?_) (fun hc=>?_)
        · rw[hc]at hpass
          refine bp<|aF (.v (aU I) I<|.a 1 I<|.k [1,2,4,5,6,13,28,29,30] I) ?_
          refine⟨lv.length - (i+1),by omega,i+1,by omega,rfl,?_⟩
          rw[hstep,hpass]
          simp only[Bool.not_true,Bool.false_and,Bool.false_eq_true,if_false,List.append_nil]
          rfl
        · rw[hc]at hpass
          refine ak<|fZ mixed (by kernel_rfl) (.a 2 I<|.v [57,58] (aJ (h) I) I I<|.v [59] (aK I (aC L h hhL)) I I<|.a 2 I<|.v [61,62] (eW I (gi T a ham)) I I<|.v [60,63] (aU I) I I<|.a 2 I<|.v [65,66] (aJ (n) I) I I<|.v [67] (aK I (aC L n hnL)) I I<|.v [64,68] (cD I (hp5)) I I<|.k [1,2,4,5,6,13,15,28,29,30,69] I) ?_
          refine aj (b:=p5) I (fun hc5=>?_) (fun hc5=>?_)
          · rw[hc5]at hpass
            refine bx<|ax 3 I<|cg (bC I (bG.rk.get I) I I I I (by unfold maxLen;omega)) I<|ax 1 I ?_
            refine eQ [1] (.c 1<|.c 2<|.c 4<|.c 5<|.c 6<|.c 13<|.c 28<|.c 29<|.c 30<|.nil) (.kept rfl (.fk rfl (dJ _ _))<|.nil) I I (bf ?_)
            refine aF (.v (aU I) I<|.a 1 I<|.k [1,2,4,5,6,13,28,29,30] I) ?_
            refine⟨lv.length - (i+1),by omega,i+1,by omega,rfl,?_⟩
            rw[hstep,hpass]
            simp only[Bool.not_false,Bool.true_and,if_true,List.length_append,List.length_singleton]
            rfl
          · rw[hc5]at hpass
            refine ak<|aF (.v (aU I) I<|.a 1 I<|.k [1,2,4,5,6,13,28,29,30] I) ?_
            refine⟨lv.length - (i+1),by omega,i+1,by omega,rfl,?_⟩
            rw[hstep,hpass]
            simp only[Bool.not_false,Bool.true_and,Bool.false_eq_true,if_false,List.append_nil]
            rfl
      · have:i=lv.length:=by have:=of_decide_eq_false hc;omega
        subst this
        rw[List.take_length]
        exact bp<|af (.a 2 I<|.k [12] I)<|az ⟨_,_,.cons (.tmp rfl) .nil,aD.dA rfl ai.pure,rfl⟩
open Heap
def cX(T:ah)(D:List Bool)(ns:List Int):Int:=if au T&&bR T D then(if ns.all (bH T) then 0 else 2) else 1
theorem mP(T:ah)(D:List Bool)(ns:List Int)(hns:ns.length≤1000):Can Tryz.prog 55 [aZ T,bq D,aw ns] (· =num (cX T D ns)):=by
 refine aT Tryz.func55 I Tryz.ntmps55 I<|af (.a 2 I<|.k [1,2,3] I)<|an ?_
 obtain⟨q1,hq1⟩:∃q,au T=q:=⟨_,rfl⟩
 obtain⟨q2,hq2⟩:∃q,bR T D=q:=⟨_,rfl⟩
 refine bP 17 (.raw (.bool ((!q1)||(!q2)))) [2,3] I ?_ ?_
 ·refine .a 1 I<|.c rfl (hq1▸eo T) I<|.a 2 I<|?_
  cases q1
  ·exact .a 5 I<|.k [17,2,3] I
  ·exact .a 2 I<|.c rfl (hq2▸lD T D (by have:=bX hq1;omega)) I<|.a 2 I<|.k [17,2,3] I
 refine aj I (fun hc=>?_) (fun hc=>?_)
 ·have hch:cX T D ns=1:=by
   unfold cX
   rw[hq1,hq2,if_neg]
   revert hc
   cases q1<;>cases q2<;>simp
  exact af (.a 1 I<|.k [6] I)<|az<|⟨_,_,aE.of I,aD.pure,by rw[hch];rfl⟩
 ·have hok:(au T&&bR T D)=true:=by
   rw[hq1,hq2]
   revert hc
   cases q1<;>cases q2<;>simp
  refine ak<|an<|af (.a 3 I<|.k [3,18,19,20] I)<|ay<|eY [3,18,19,20] I<|br (fun r s=>∃i,i≤ns.length∧(ns.take i).all (bH T)=true∧r=ns.length - i∧s=⟨[(3,.bg (bI T) 0),(18,aw ns),(19,num ns.length),(20,num i)],[]⟩) ns.length ⟨0,by omega,by simp,by omega,rfl⟩ ?_
  rintro r s ⟨i,hi,hall,rfl,rfl⟩
  refine af (.a 1 I<|.k [3,18,19,20,21] I)<|an<|aj I (fun hc=>?_) (fun hc=>?_)
  ·have hlt:i<ns.length:=by have:=of_decide_eq_true hc;omega
   refine ak<|an<|ay<|af (.v (aJ (i) I) I<|.v (aK I (aC ns i hlt)) I<|.a 1 I<|.k [3,8,18,19,20] I)<|af (.a 2 I<|.c rfl (dy T _) I<|.a 1 I<|.k [3,18,19,20,27] I)<|aj I (fun hc=>?_) (fun hc=>?_)
   ·have hch:cX T D ns=2:=by
     unfold cX
     rw[if_pos hok,if_neg]
     intro h
     have h1:=List.all_eq_true.1 h _ (cf (d:=0) hlt)
     rw[h1]at hc
     cases hc
    exact af (.a 1 I<|.k [6] I)<|az<|⟨_,_,aE.of I,aD.pure,by rw[hch];rfl⟩
   ·have hall':(ns.take (i+1)).all (bH T)=true:=by
     rw[dr ns i 0 hlt,List.all_append,hall]
     have:bH T (ns.getD i 0)=true:=by revert hc;cases bH T (ns.getD i 0)<;>simp
     simp only[List.all_cons,this,List.all_nil,Bool.and_self]
    refine ak<|aF (.v (aU I) I<|.a 1 I<|.k [3,18,19,20] I) ?_
    exact⟨ns.length - (i+1),by omega,i+1,by omega,hall',rfl,rfl⟩
  ·have hie:i=ns.length:=by have:=of_decide_eq_false hc;omega
   refine bp<|af (.a 1 I<|.k [6] I)<|az<|⟨_,_,aE.of I,aD.pure,?_⟩
   unfold cX
   rw[if_pos hok,if_pos (by rw[hie,List.take_length]at hall;exact hall)]
   rfl
theorem th(rs:List (List Int))(i:Nat)(hi:i<rs.length):Can Tryz.prog 56 ([num i]++[.bg [ew rs] 0]) (· =aw (rs.getD i [])):=by
 exact aT Tryz.func56 I Tryz.ntmps56 I<|af (.a 1 I<|.k [0,1] I)<|af (.a 2 I<|.v (aJ (i) I) I<|.v (aK I ((show(rs.map aw)[i]? =some (aw (rs.getD i [])) by simp[hi]))) I<|.a 1 I<|.k [3] I)<|az<|⟨_,_,aE.of I,aD.pure,rfl⟩
theorem ui(T:ah)(a:Nat)(ha:a<2*T.ae.length):Can Tryz.prog 57 ([num a]++[.bg (bI T) 0]) (· =num (aN T a)):=by
 exact aT Tryz.func57 I Tryz.ntmps57 I<|af (.a 1 I<|.k [0,1] I)<|af (.a 2 I<|.c rfl (fp T a ha) I<|.a 1 I<|.k [3] I)<|az<|⟨_,_,aE.of I,aD.pure,rfl⟩
def gu(e:Int)(l:List Int):PV:=.tuple [aw (if e=0 then l else []),num e]
theorem rO(T:ah)(D:List Bool)(d:Int):Can Tryz.prog 25 [aZ T,bq D,num d] (· =gu (cX T D [d]) (aO T D d.toNat false)):=by
 refine aT Tryz.func25 I Tryz.ntmps25 I<|af (.a 3 I<|.k [1,2,3] I)<|an<|af (.a 4 I<|.c rfl (mP T D [d] (by simp)) I<|.a 1 I<|.k [1,2,3,8] I)<|af (.a 2 I<|.k [1,2,3,8,17] I)<|aj I (fun hc=>?_) (fun hc=>?_)
 ·have he:cX T D [d]≠0:=of_decide_eq_true hc
  exact af (.a 3 I<|.k [6,7] I)<|az<|⟨_,_,aE.of I,aD.bY (ai.cons aD.cc (ai.cons aD.pure ai.nil)),by unfold gu;rw[if_neg he];rfl⟩
 ·have he:cX T D [d]=0:=by have:=of_decide_eq_false hc;omega
  have hok:(au T&&bR T D)=true∧bH T d=true:=by
   unfold cX at he
   split at he
   ·rename_i h1
    split at he
    ·rename_i h2;exact⟨h1,by simpa using h2⟩
    ·omega
   ·omega
  obtain⟨hvf,hnd⟩:=hok
  obtain⟨hv,hf⟩:=Bool.and_eq_true_iff.1 hvf
  have hd:0≤d∧d<T.nodes:=by simpa[bH]using hnd
  obtain⟨n,rfl⟩:=Int.eq_ofNat_of_zero_le hd.1
  have hS:=aM hv
  refine ak<|aR<|ax 1 I<|fC I (oC T hv) I<|ax 2 I<|aH [1,2,3,9] I ?_
  refine aR<|ax 3 I<|bw (dw I I) I<|ax 4 I<|aH [10] I ?_
  refine km (.cons 10 I (aD.gC rfl (ai.cons aD.pure<|ai.cons aD.pure<|ai.cons aD.pure<|ai.cons aD.pure<|ai.cons aD.pure<|ai.cons (aD.fy (ai.cons (aD.gC rfl (ai.cons aD.pure ai.nil)) ai.nil))<|ai.cons aD.pure ai.nil)) .nil) ?_
  exact af (.a 1 I<|.c rfl (Ab T D n false 56 57 [.bg [ew (ca (aB T) T.nodes.toNat (2*T.ae.length))] 0] [.bg (bI T) 0] hv hf hd.2 (by kernel_rfl) (by kernel_rfl) (fun i hi=>by have h:=th (ca (aB T) T.nodes.toNat (2*T.ae.length)) i (by rw[cQ];omega);rw[dH _ _ _ _ (by omega)]at h;exact h) (fun a ha=>ui T a ha)) I<|.a 2 I<|.k [6,7] I)<|az<|⟨_,_,aE.of I,aD.pure,by unfold gu;rw[if_pos he,he];rfl⟩
theorem qw(T:ah)(hl:T.ae.length≤256)(n:Int):Can Tryz.prog 36 [aZ T,num n] (· =aw (bW T n)):=by
 refine aT Tryz.func36 I Tryz.ntmps36 I<|af (.a 2 I<|.k [1,2] I)<|af (.a 1 I<|.k [1,2,5] I)<|fM 5 3 1 I ?_
 refine an<|af (.a 1 I<|.c rfl (dY T (by omega)) I<|.a 1 I<|.k [1,2,5,8,9] I)<|ay<|eY [1,2,5,8,9] I<|br (fun r s=>∃k,k≤2*T.ae.length∧r=2*T.ae.length - k∧s=⟨[(1,num n),(2,.bg (bI T) 0),(5,.own 0),(8,num (2*(T.ae.length:Int))),(9,num k)],[some (.row 3 1 (iN T n k).length (aL (iN T n k)))]⟩) (2*T.ae.length) ⟨0,by omega,by omega,rfl⟩ ?_
 rintro r s ⟨k,hk,rfl,rfl⟩
 refine af (.a 1 I<|.k [1,2,5,8,9,10] I)<|an<|aj I (fun hc=>?_) (fun hc=>?_)
 ·have hlt:k<2*T.ae.length:=by have:=of_decide_eq_true hc;omega
  have hlen:=eM T n k
  refine ak<|an<|ay<|af (.a 2 I<|.k [1,2,5,6,8,9] I)<|af (.a 2 I<|.c rfl (fp T k hlt) I<|.a 2 I<|.k [1,2,5,6,8,9,16] I)<|aj I (fun hc=>?_) (fun hc=>?_)
  ·have hst:=Cg T n k (by simpa using of_decide_eq_true hc)
   refine bx<|ax 3 I<|cg (bC I (bG.rk.get I) I I I I (by unfold maxLen;omega)) I<|ax 1 I ?_
   refine eQ [1] (.c 1<|.c 2<|.c 5<|.c 8<|.c 9<|.nil) (.kept rfl (.fk rfl (dJ _ _))<|.nil) I I (bf ?_)
   refine aF (.v (aU I) I<|.a 1 I<|.k [1,2,5,8,9] I) ?_
   refine⟨2*T.ae.length - (k+1),by omega,k+1,by omega,rfl,?_⟩
   rw[hst]
   first
    |rfl
    |(simp only[List.length_append,List.length_singleton];rfl)
  ·have hst:=Ee T n k (by simpa using of_decide_eq_false hc)
   refine ak<|aF (.v (aU I) I<|.a 1 I<|.k [1,2,5,8,9] I) ?_
   refine⟨2*T.ae.length - (k+1),by omega,k+1,by omega,rfl,?_⟩
   rw[hst]
   first
    |rfl
    |(simp only[List.length_append,List.length_singleton];rfl)
 ·have hke:k=2*T.ae.length:=by have:=of_decide_eq_false hc;omega
  subst hke
  exact bp<|af (.a 2 I<|.k [4] I)<|az<|⟨_,_,aE.of I,aD.dA rfl ai.pure,rfl⟩
def cF(T:ah)(D:List Bool)(n d:Int):Int:=if cX T D [d]=0 then(if bH T n then 0 else 2) else cX T D [d]
theorem sX(T:ah)(D:List Bool)(n d:Int):Can Tryz.prog 71 [aZ T,bq D,num n,num d] (· =gu (cF T D n d) (aO T D d.toNat false)):=by
 refine aT Tryz.func71 I Tryz.ntmps71 I<|af (.a 3 I<|.k [1,2,3,4] I)<|af (.a 3 I<|.c rfl (rO T D d) I<|.a 5 I<|.k [2,4,10,11] I)<|an<|af (.a 2 I<|.k [2,4,10,11,20] I)<|aj I (fun hc=>?_) (fun hc=>?_)
 ·have he:cX T D [d]≠0:=of_decide_eq_true hc
  exact af (.a 3 I<|.k [8,9] I)<|az<|⟨_,_,aE.of I,aD.bY (ai.cons aD.cc (ai.cons aD.pure ai.nil)),by unfold gu cF;rw[if_neg he,if_neg he];rfl⟩
 ·have he:cX T D [d]=0:=by have:=of_decide_eq_false hc;omega
  refine ak<|an<|af (.a 2 I<|.c rfl (dy T n) I<|.a 1 I<|.k [10,25] I)<|aj I (fun hc=>?_) (fun hc=>?_)
  ·have hn:bH T n=false:=by revert hc;cases bH T n<;>simp
   exact af (.a 2 I<|.k [8,9] I)<|az<|⟨_,_,aE.of I,aD.bY (ai.cons aD.cc (ai.cons aD.pure ai.nil)),by unfold gu cF;rw[if_pos he,hn];rfl⟩
  ·have hn:bH T n=true:=by revert hc;cases bH T n<;>simp
   exact ak<|af (.a 3 I<|.k [8,9] I)<|az<|⟨_,_,aE.of I,aD.pure,by unfold gu cF;simp only[he,hn,if_true];rfl⟩
theorem uk{T:ah}{D:List Bool}{ns:List Int}(he:cX T D ns=0):au T=true∧bR T D=true∧∀n∈ns,bH T n=true:=by
 unfold cX at he
 split at he
 ·rename_i h1
  split at he
  ·rename_i h2
   obtain⟨a,b⟩:=Bool.and_eq_true_iff.1 h1
   exact⟨a,b,List.all_eq_true.1 h2⟩
  ·omega
 ·omega
theorem fQ{T:ah}{D:List Bool}{n d:Int}(he:cF T D n d=0):au T=true∧bR T D=true∧bH T n=true∧bH T d=true:=by
 unfold cF at he
 split at he
 ·rename_i h1
  obtain⟨a,b,c⟩:=uk h1
  split at he
  ·rename_i h2;exact⟨a,b,h2,c d (by simp)⟩
  ·omega
 ·omega
theorem eD{T:ah}{D:List Bool}(hv:au T=true){d:Nat}{dir:Bool}(hd:(d:Int)<T.nodes):((aO T D d dir).length:Int)=T.nodes∧∀x∈aO T D d dir, -1≤x∧x≤4194240:=by
 have hS:=aM hv
 have hI:=ue hS D dir hd
 refine⟨hI.len,fun x hx=>?_⟩
 obtain⟨i,hi,rfl⟩:=List.getElem_of_mem hx
 have hin:(i:Int)<T.nodes:=by have:=hI.len;omega
 have h1:=hI.ge i hin
 have h2:=hI.KD i hin
 have h3:=gZ (aO T D d dir)
 have h4:=hS.nodes
 have h5:=hI.len
 rw[EV _ i hi]at h1 h2
 omega
noncomputable def bz(T:ah)(D:List Bool)(n d:Nat):List Int:=
 if n=d∨(aO T D d false).getD n 0<0 then [] else eB T D (aO T D d false) ((aO T D d false).getD n 0) d (bW T n)
theorem ko{T:ah}{n:Int}{a:Int}(h:a∈bW T n):0≤a∧a<2*(T.ae.length:Int):=by
 unfold bW iN at h
 obtain⟨b,hb,rfl⟩:=List.mem_map.1 h
 have:=(List.mem_filter.1 hb).1
 have:=List.mem_range.1 this
 simp;omega
theorem wb(T:ah)(D:List Bool)(n d:Int):Can Tryz.prog 48 [aZ T,bq D,num n,num d] (· =gu (cF T D n d) (bz T D n.toNat d.toNat)):=by
 refine aT Tryz.func48 I Tryz.ntmps48 I<|af (.a 3 I<|.k [1,2,3,4] I)<|af (.a 4 I<|.c rfl (sX T D n d) I<|.a 5 I<|.k [1,2,3,4,10,11] I)<|an<|af (.a 2 I<|.k [1,2,3,4,10,11,21] I)<|aj I (fun hc=>?_) (fun hc=>?_)
 ·have he:cF T D n d≠0:=of_decide_eq_true hc
  exact af (.a 3 I<|.k [8,9] I)<|az<|⟨_,_,aE.of I,aD.bY (ai.cons aD.cc (ai.cons aD.pure ai.nil)),by unfold gu;rw[if_neg he];rfl⟩
 ·have he:cF T D n d=0:=by have:=of_decide_eq_false hc;omega
  rw[he]
  obtain⟨hv,hf,hn,hd⟩:=fQ he
  rw[bu]at hn hd
  obtain⟨n,rfl⟩:=Int.eq_ofNat_of_zero_le hn.1
  obtain⟨d,rfl⟩:=Int.eq_ofNat_of_zero_le hd.1
  have hll:=bX hv
  obtain⟨hb1,hb2⟩:=eD (D:=D) hv (dir:=false) hd.2
  refine ak<|fZ mixed (by kernel_rfl) (.a 5 I<|.v [26,27] (eW I (qw T hll _)) I I<|.a 2 I<|.v [23,24,25,28,29,30] (eW I (tA T D (aO T D d false) (bW T n) n d hv hf hb1 hb2 hn.2 hd.2 (fun a ha=>ko ha) (Nat.le_trans (eM T n _) (by omega)))) I I<|.a 2 I<|.k [8,9] I) ?_
  exact az<|⟨_,_,aE.of I,aD.pure,rfl⟩
end
section
open Go.RowKit cj Mem Net
structure cr where
 kind:Int
 num:Int
deriving DecidableEq
structure kD where
 av:List Int
 rep:Bool
 push:List cr
structure eN where
 node:Int
 eO:List kD
 down:List Int
def oE(s:cr):List PV:=[num s.kind,num s.num]
def zm(s:cr):PV:=.agg (oE s)
def eS(l:List cr):List PV:=l.flatMap oE
def cN(l:List cr):PV:=.slice l.length (eS l)
def sn(e:kD):List PV:=[aw e.av,flag e.rep,cN e.push]
def wq(e:kD):PV:=.agg (sn e)
def ll(l:List kD):List PV:=l.flatMap sn
def lg(l:List kD):PV:=.slice l.length (ll l)
def gA(t:eN):List PV:=[num t.node,lg t.eO,aw t.down]
def qk(t:eN):PV:=.agg (gA t)
def oK(l:List eN):List PV:=l.flatMap gA
def gN(l:List eN):PV:=.slice l.length (oK l)
instance (s:cr):aI (oE s):=by unfold oE;infer_instance
instance (s:cr):cZ (oE s):=by unfold oE;infer_instance
instance (s:cr):IsPure (zm s):=by unfold zm;infer_instance
instance (l:List cr):aI (eS l):=aI.flatMap _ _ fun _=>inferInstance
instance (l:List cr):cZ (eS l):=cZ.flatMap _ _ fun _=>inferInstance
instance (l:List cr):IsPure (cN l):=by unfold cN;infer_instance
instance (l:List cr):fJ (cN l):=by unfold cN;infer_instance
instance (e:kD):aI (sn e):=by unfold sn;infer_instance
instance (e:kD):IsPure (wq e):=by unfold wq;infer_instance
instance (l:List kD):aI (ll l):=aI.flatMap _ _ fun _=>inferInstance
instance (l:List kD):IsPure (lg l):=by unfold lg;infer_instance
instance (l:List kD):fJ (lg l):=by unfold lg;infer_instance
instance (t:eN):aI (gA t):=by unfold gA;infer_instance
instance (t:eN):IsPure (qk t):=by unfold qk;infer_instance
instance (l:List eN):aI (oK l):=aI.flatMap _ _ fun _=>inferInstance
instance (l:List eN):IsPure (gN l):=by unfold gN;infer_instance
theorem qG(l:List kD)(e:kD):ll l++sn e=ll (l++[e]):=by simp[ll]
theorem ze(l:List eN)(e:eN):oK l++gA e=oK (l++[e]):=by simp[oK]
theorem flat_get{α:Type}(f:α→List PV)(s:Nat)(hf:∀a,(f a).length=s):∀(l:List α) (i j:Nat) (a:α),l[i]? =some a→j<s→(l.flatMap f)[i*s+j]? =(f a)[j]?
 | [],i,j,a,h,_=>by simp at h
 |b::l,0,j,a,h,hj=>by
  simp at h;subst h
  rw[List.flatMap_cons,Nat.zero_mul,Nat.zero_add,List.getElem?_append_left (by rw[hf];exact hj)]
 |b::l,i+1,j,a,h,hj=>by
  have:=flat_get f s hf l i j a (by simpa using h) hj
  have e1:(i+1)*s=i*s+s:=Nat.succ_mul i s
  have e2:(i+1)*s+j - s=i*s+j:=by omega
  have e3:(f b).length≤(i+1)*s+j:=by rw[hf];omega
  rw[List.flatMap_cons,List.getElem?_append_right e3,hf,e2,this]
theorem iS{α:Type}(f:α→List PV)(s:Nat)(hf:∀a,(f a).length=s):∀(l:List α) (i:Nat) (a:α),l[i]? =some a→((l.flatMap f).drop (i*s)).take s=f a
 | [],i,a,h=>by simp at h
 |b::l,0,a,h=>by
  simp at h;subst h
  rw[List.flatMap_cons,Nat.zero_mul,List.drop_zero]
  exact List.take_left' (hf b)
 |b::l,i+1,a,h=>by
  have:=iS f s hf l i a (by simpa using h)
  have e1:(i+1)*s=s+i*s:=by rw[Nat.succ_mul];omega
  rw[List.flatMap_cons,e1,←List.drop_drop,List.drop_left' (hf b),this]
theorem qQ(l:List kD)(i j:Nat)(e:kD)(h:l[i]? =some e)(hj:j<3):(ll l)[i*3+j]? =(sn e)[j]? :=flat_get sn 3 (fun _=>rfl) l i j e h hj
theorem o5(l:List kD)(i:Nat)(e:kD)(h:l[i]? =some e):((ll l).drop (i*3)).take 3=sn e:=iS sn 3 (fun _=>rfl) l i e h
theorem vV(l:List cr)(i j:Nat)(e:cr)(h:l[i]? =some e)(hj:j<2):(eS l)[i*2+j]? =(oE e)[j]? :=flat_get oE 2 (fun _=>rfl) l i j e h hj
theorem pn(l:List cr)(i:Nat)(e:cr)(h:l[i]? =some e):((eS l).drop (i*2)).take 2=oE e:=iS oE 2 (fun _=>rfl) l i e h
theorem tS(l:List eN)(i:Nat)(e:eN)(h:l[i]? =some e):((oK l).drop (i*3)).take 3=gA e:=iS gA 3 (fun _=>rfl) l i e h
theorem Kk{P:Program}{σ:bN}{t:b9}{o:Oper}{p q:PV}(h:bh P σ t o p)(hl:lr p q):bh P σ t o q:=fun F base E ρ w hρ hS hT=>by
 have:=h F base E ρ w hρ hS hT
 generalize (execOp ρ o).run P w=x at*
 cases x with
 |ok n w'=>
  cases n with
  |value v=>exact⟨this.1,hl _ _ _ this.2⟩
  |skip=>exact⟨this.1,hl _ _ _ this.2⟩
  |enter f args=>exact⟨this.1,Calls.mono this.2 (fun e w'' ⟨x,h1,h2,h3⟩=>⟨x,h1,h2,hl _ _ _ h3⟩)⟩
  |_=>exact this
 |halt x w'=>exact this
def zJ(xs ys:List PV):Prop:=xs.length=ys.length∧∀(i:Nat) x y,xs[i]? =some x→ys[i]? =some y→lr x y
theorem zJ.nil:zJ [] []:=⟨rfl,fun i x y h=>by simp at h⟩
theorem zJ.cons{x y:PV}{xs ys:List PV}(h:lr x y)(hs:zJ xs ys):zJ (x::xs) (y::ys):=⟨by simp[hs.1],fun j a b h1 h2=>by
 cases j with
 |zero=>simp at h1 h2;subst h1;subst h2;exact h
 |succ j=>exact hs.2 j a b (by simpa using h1) (by simpa using h2)⟩
theorem lr.gM{xs ys:List PV}(h:zJ xs ys):lr (.agg xs) (.agg ys):=fun E w v hv=>by
 cases hv with
 |agg cs _ hl hr=>exact .agg cs ys (hl.trans h.1) (fun i c u h1 h2=>by
   have hi:i<xs.length:=by rw[h.1];exact(List.getElem?_eq_some_iff.1 h2).1
   exact h.2 i xs[i] u (by simp[hi]) h2 E w c (hr i c _ h1 (by simp[hi])))
noncomputable def vR(T:ah)(D:List Bool)(n k:Nat):List kD:=(List.range k).map fun d=>⟨bz T D n d,false,[]⟩
def fX(D:List Bool)(l:List Int):List Int:=l.filter fun a=>bF D a.toNat
noncomputable def dW(T:ah)(D:List Bool)(n:Nat):eN:=⟨n,vR T D n T.nodes.toNat,fX D (bW T n)⟩
noncomputable def jz(T:ah)(D:List Bool)(n:Int):eN:=if cX T D [n]=0 then dW T D n.toNat else⟨0,[],[]⟩
theorem Da(T:ah)(D:List Bool)(n k:Nat):vR T D n (k+1)=vR T D n k++[⟨bz T D n k,false,[]⟩]:=by simp[vR,List.range_succ]
theorem vt(T:ah)(D:List Bool)(n k:Nat):(vR T D n k).length=k:=by simp[vR]
theorem Ba(a b c d:Int)(w:World):(Op.equalIn 10000 112 (.agg #[.int .i64 a,.int .i64 b]) (.agg #[.int .i64 c,.int .i64 d])).run Tryz.prog w= .ok (a==c&&b==d) w:=by
 have u3:=Tryz.underlying3
 have a3:=Tryz.isAgg3
 have z3:=Tryz.sizeOf3
 have hS:Tryz.prog.underlying 112=some (.struct (Tryz.prog.fieldsOf 112)):=by kernel_rfl
 rw[show(10000:Nat)=9999+1 from rfl,run_equalIn_agg w 9999 112 _ _ hS (by kernel_rfl)]
 simp only[Program.fieldsOf,Tryz.underlying112]
 go_simp
 by_cases h1:a=c<;>by_cases h2:b=d<;>simp[h1,h2]
theorem AW{E:Env}{w:World}{v:Value}{s:cr}(h:cu E w v (zm s)):v= .agg #[.int .i64 s.kind,.int .i64 s.num]:=by
 unfold zm oE at h
 cases h with
 |agg cs _ hl hr=>
  obtain⟨l⟩:=cs
  match l,hl,hr with
  | [x,y],_,hr=>
   have h0:=eF (hr 0 x _ rfl rfl)
   have h1:=eF (hr 1 y _ rfl rfl)
   subst h0;subst h1;rfl
  | [],hl,_=>simp at hl
  | [_],hl,_=>simp at hl
  |_::_::_::_,hl,_=>simp at hl
theorem DT{σ:bN}{t:b9}{o:Oper}{x y:Operand}{tz:TypeId}{a b:cr}{q:Bool}(ho:o.op= .binOp .eql 112 x y tz)(hx:aA t x=some (zm a))(hy:aA t y=some (zm b))(hq:decide (a=b)=q):bh Tryz.prog σ t o (.raw (.bool q)):=by
 intro F base E ρ w hρ _ hT
 have h1:=AW (aq hρ hT hx)
 have h2:=AW (aq hρ hT hy)
 have hb:(a.kind==b.kind&&a.num==b.num)=q:=by
  rw[←hq]
  obtain⟨a1,a2⟩:=a
  obtain⟨b1,b2⟩:=b
  by_cases e1:a1=b1<;>by_cases e2:a2=b2<;>simp[e1,e2]
 simp only[execOp,ho,h1,h2,Sem.run_bind,run_eqGuard_agg w _ _ _ _ _ _ (show Tryz.prog.eqGuardType Tryz.prog.depth 112=false by kernel_rfl),Result.andThen_ok,run_eql_struct,Ba,Sem.run_pure,hb]
 exact bd (.raw _)
deriving instance DecidableEq for kD
deriving instance DecidableEq for eN
theorem Gy{E:Env}{w:World}{v:Value}{x:eN}(h:cu E w v (qk x)):x.eO.length≤maxLen∧x.down.length≤maxLen:=by
 unfold qk gA at h
 cases h with
 |agg cs _ hl hr=>
  have hr:aV E w cs.toList _:=⟨by simpa using hl,fun i x u h1 h2=>hr i x u (by simpa using h1) h2⟩
  obtain⟨v1,_,h1⟩:=hr.get (i:=1) I
  obtain⟨v2,_,h2⟩:=hr.get (i:=2) I
  exact⟨mC h1,mC h2⟩
def sz(T:ah)(s:cr):Bool:=if s.kind=1 then bH T s.num else if s.kind=2 then dS T s.num else if s.kind=3 then bU s.num 1 64 else if s.kind=4 then bU s.num 0 65535 else false
def iE(T:ah)(n:Int)(L:List Int):Bool:=decide (∀i,i<L.length→dS T (L.getD i 0)=true∧aN T (L.getD i 0).toNat=n∧(0<i→L.getD (i - 1) 0<L.getD i 0))
def oh(T:ah)(n d:Int)(e:kD):Bool:=iE T n e.av&&(!(decide (d=n)&&decide (0<(e.av.length:Int))))&&(if e.rep then decide ((e.av.length:Int)=1)&&decide ((e.push.length:Int)≤32)&&e.push.all (sz T) else decide ((e.push.length:Int)=0))
def I7:kD:=⟨[],false,[]⟩
def uU(T:ah)(n:Int)(l:List kD):Bool:=decide (∀d,d<l.length→oh T n d (l.getD d I7)=true)
def fA(T:ah)(x:eN):Bool:=au T&&bH T x.node&&decide ((x.eO.length:Int)=T.nodes)&&iE T x.node x.down&&uU T x.node x.eO
theorem dh{T:ah}{a:Int}:dS T a=true↔0≤a∧a<2*(T.ae.length:Int):=by simp[dS]
theorem pz(T:ah)(a:Int)(h:dS T a=true):Can Tryz.prog 58 [aZ T,num a] (· =num (aN T a.toNat)):=by
 obtain⟨h0,h1⟩:=dh.1 h
 obtain⟨a,rfl⟩:=Int.eq_ofNat_of_zero_le h0
 exact fp T a (by omega)
theorem Eh(T:ah)(hl:T.ae.length≤4611686018427387903)(s:cr):Can Tryz.prog 129 [aZ T,zm s] (· =flag (sz T s)):=by
 unfold sz
 refine aT Tryz.func129 I Tryz.ntmps129 I<|af (.a 3 I<|.k [2,3] I)<|an<|af (.a 2 I<|.k [2,3,6] I)<|ay<|af (.a 2 I<|.k [2,3,6,7] I)<|aj I (fun hc=>?_) (fun hc=>?_)
 ·rw[if_pos (tt hc)]
  exact af (.a 3 I<|.c rfl (dy T s.num) I<|.a 1 I<|.k [4] I)<|az<|⟨_,_,aE.of I,aD.pure,rfl⟩
 ·rw[if_neg (ff hc)]
  refine af (.a 2 I<|.k [2,3,6,13] I)<|aj I (fun hc=>?_) (fun hc=>?_)
  ·rw[if_pos (tt hc)]
   exact af (.a 3 I<|.c rfl (mN T hl s.num) I<|.a 1 I<|.k [4] I)<|az<|⟨_,_,aE.of I,aD.pure,rfl⟩
  ·rw[if_neg (ff hc)]
   refine af (.a 2 I<|.k [3,6,19] I)<|aj I (fun hc=>?_) (fun hc=>?_)
   ·rw[if_pos (tt hc)]
    obtain⟨p1,hp1⟩:∃q,decide (1≤s.num)=q:=⟨_,rfl⟩
    obtain⟨p2,hp2⟩:∃q,decide (s.num≤64)=q:=⟨_,rfl⟩
    have he:bU s.num 1 64=(p1&&p2):=by rw[←hp1,←hp2];unfold bU;exact Bool.decide_and _ _
    rw[he]
    refine bP 4 (.raw (.bool (p1&&p2))) [] I ?_ ?_
    ·refine .a 2 I<|.v (cD I (hp1)) I<|.a 1 I<|?_
     cases p1
     ·exact .a 5 I<|.k [4] I
     ·exact .a 2 I<|.v (cD I (hp2)) I<|.a 2 I<|.k [4] I
    exact az<|⟨_,_,aE.of I,aD.pure,rfl⟩
   ·rw[if_neg (ff hc)]
    refine af (.a 2 I<|.k [3,29] I)<|aj I (fun hc=>?_) (fun hc=>?_)
    ·rw[if_pos (tt hc)]
     obtain⟨p1,hp1⟩:∃q,decide (0≤s.num)=q:=⟨_,rfl⟩
     obtain⟨p2,hp2⟩:∃q,decide (s.num≤65535)=q:=⟨_,rfl⟩
     have he:bU s.num 0 65535=(p1&&p2):=by rw[←hp1,←hp2];unfold bU;exact Bool.decide_and _ _
     rw[he]
     refine bP 4 (.raw (.bool (p1&&p2))) [] I ?_ ?_
     ·refine .a 2 I<|.v (cD I (hp1)) I<|.a 1 I<|?_
      cases p1
      ·exact .a 5 I<|.k [4] I
      ·exact .a 2 I<|.v (cD I (hp2)) I<|.a 2 I<|.k [4] I
     exact az<|⟨_,_,aE.of I,aD.pure,rfl⟩
    ·rw[if_neg (ff hc)]
     exact ak<|af (.a 1 I<|.k [4] I)<|az<|⟨_,_,aE.of I,aD.pure,rfl⟩
def xI(T:ah)(n:Int)(L:List Int)(i:Nat):Bool:=decide (dS T (L.getD i 0)=true∧aN T (L.getD i 0).toNat=n∧(0<i→L.getD (i - 1) 0<L.getD i 0))
theorem BR{T:ah}{n:Int}{L:List Int}(h:∀i,i<L.length→xI T n L i=true):iE T n L=true:=decide_eq_true fun i hi=>tt (h i hi)
theorem yN{T:ah}{n:Int}{L:List Int}{i:Nat}(hi:i<L.length)(h:xI T n L i=false):iE T n L=false:=decide_eq_false fun ha=>ff h (ha i hi)
theorem oF(T:ah)(hv:au T=true)(n:Int)(L:List Int):Can Tryz.prog 113 [aZ T,num n,aw L] (· =flag (iE T n L)):=by
 have hll:=bX hv
 refine qo fun⟨E,w,vs,hR⟩=>?_
 obtain⟨v,_,hv⟩:=hR.get (i:=2) I
 have hm:=mC hv
 unfold maxLen at hm
 refine aT Tryz.func113 I Tryz.ntmps113 I<|af (.a 2 I<|.k [1,2,3] I)<|an<|af (.a 3 I<|.k [1,2,3,9,10,11] I)<|ay<|eY [1,2,3,9,10,11] I<|br (fun r s=>∃k,k≤L.length∧r=L.length - k∧(∀i,i<k→xI T n L i=true)∧s=⟨[(1,num n),(2,aw L),(3,.bg (bI T) 0),(9,aw L),(10,num L.length),(11,num k)],[]⟩) L.length ⟨0,by omega,by omega,fun i hi=>by omega,rfl⟩ ?_
 rintro r s ⟨k,hk,rfl,hall,rfl⟩
 refine af (.a 1 I<|.k [1,2,3,9,10,11,12] I)<|an<|aj I (fun hc=>?_) (fun hc=>?_)
 ·have hlt:k<L.length:=by have:=tt hc;omega
  obtain⟨p1,hp1⟩:∃q,dS T (L.getD k 0)=q:=⟨_,rfl⟩
  obtain⟨p2,hp2⟩:∃q,decide (aN T (L.getD k 0).toNat≠n)=q:=⟨_,rfl⟩
  obtain⟨p3,hp3⟩:∃q,decide (0<(k:Int))=q:=⟨_,rfl⟩
  obtain⟨p4,hp4⟩:∃q,decide (L.getD k 0≤L.getD (k - 1) 0)=q:=⟨_,rfl⟩
  refine ak<|an<|ay<|af (.a 1 I<|.v (aJ (k) I) I<|.v (aK I (aC L k hlt)) I<|.a 2 I<|.k [1,2,3,7,8,9,10,11] I)<|bP 39 (.raw (.bool (((!p1)||p2)||(p3&&p4)))) [1,2,3,9,10,11] I ?_ ?_
  ·refine .a 2 I<|.c rfl (hp1▸mN T (by omega) (L.getD k 0)) I<|.a 2 I<|?_
   cases p1
   ·exact .a 19 I<|.k [39,1,2,3,9,10,11] I
   ·refine .a 2 I<|.c rfl (pz T _ hp1) I<|.a 1 I<|.v (cD I (hp2)) I<|.a 2 I<|?_
    cases p2
    ·refine .a 1 I<|.v (cD I (hp3)) I<|.a 1 I<|?_
     cases p3
     ·exact .a 9 I<|.k [39,1,2,3,9,10,11] I
     ·exact .a 2 I<|.v (aU I) I<|.v (aJ (k - 1) I (by have:=tt hp3;omega) (by omega)) I<|.v (aK I (aC L (k - 1) (by omega))) I<|.a 1 I<|.v (cD I (hp4)) I<|.a 2 I<|.k [39,1,2,3,9,10,11] I
    ·exact .a 12 I<|.k [39,1,2,3,9,10,11] I
  refine aj I (fun hx=>?_) (fun hx=>?_)
  ·have hno:xI T n L k=false:=by
    refine decide_eq_false fun⟨h1,h2,h3⟩=>?_
    rw[h1]at hp1
    rw[decide_eq_false (by simpa using h2)]at hp2
    subst hp1 hp2
    simp only[Bool.not_true,Bool.false_or,Bool.and_eq_true]at hx
    rw[hx.1]at hp3
    rw[hx.2]at hp4
    have:=h3 (by have:=tt hp3;omega)
    have:=tt hp4
    omega
   rw[yN hlt hno]
   exact af (.a 1 I<|.k [6] I)<|az<|⟨_,_,aE.of I,aD.pure,rfl⟩
  ·have hyes:xI T n L k=true:=by
    obtain⟨c1,c3⟩:=Bool.or_eq_false_iff.1 hx
    obtain⟨c1,c2⟩:=Bool.or_eq_false_iff.1 c1
    refine decide_eq_true ⟨?_,?_,fun h0=>?_⟩
    ·rw[hp1];simpa using c1
    ·rw[c2]at hp2;exact Classical.byContradiction (ff hp2)
    ·rw[decide_eq_true (by omega)]at hp3
     subst hp3
     rw[Bool.true_and]at c3
     rw[c3]at hp4
     have:=ff hp4
     omega
   refine ak<|aF (.v (aU I) I<|.a 1 I<|.k [1,2,3,9,10,11] I) ?_
   refine⟨L.length - (k+1),by omega,k+1,by omega,rfl,fun i hi=>?_,rfl⟩
   by_cases h:i=k
   ·rw[h];exact hyes
   ·exact hall i (by omega)
 ·have hke:k=L.length:=by have:=ff hc;omega
  subst hke
  rw[BR hall]
  exact bp<|af (.a 1 I<|.k [6] I)<|az<|⟨_,_,aE.of I,aD.pure,rfl⟩
theorem La{α:Type}(p:α→Bool)(L:List α)(k:Nat)(a:α)(h:L[k]? =some a):(L.take (k+1)).all p=((L.take k).all p&&p a):=by
 rw[List.take_add_one,h,List.all_append];simp
theorem Lg{α:Type}(p:α→Bool)(L:List α)(k:Nat)(a:α)(h:L[k]? =some a)(hp:p a=false):L.all p=false:=by
 rw[Bool.eq_false_iff]
 intro ha
 have:=List.all_eq_true.1 ha a (List.mem_of_getElem? h)
 rw[hp]at this
 cases this
theorem zj(T:ah)(hv:au T=true)(e:kD)(n d:Int):Can Tryz.prog 114 [aZ T,wq e,num n,num d] (· =flag (oh T n d e)):=by
 have hll:=bX hv
 obtain⟨p1,hp1⟩:∃q,iE T n e.av=q:=⟨_,rfl⟩
 obtain⟨p2,hp2⟩:∃q,decide (d=n)=q:=⟨_,rfl⟩
 obtain⟨p3,hp3⟩:∃q,decide (0<(e.av.length:Int))=q:=⟨_,rfl⟩
 unfold oh
 rw[hp1,hp2,hp3]
 refine aT Tryz.func114 I Tryz.ntmps114 I<|af (.a 3 I<|.k [2,3,4,5] I)<|an<|bP 27 (.raw (.bool ((!p1)||(p2&&p3)))) [4,5] I ?_ ?_
 ·refine .a 4 I<|.c rfl (hp1▸oF T hv n e.av) I<|.a 2 I<|?_
  cases p1
  ·exact .a 10 I<|.k [27,4,5] I
  ·refine .a 2 I<|.v (cD I (hp2)) I<|.a 1 I<|?_
   cases p2
   ·exact .a 6 I<|.k [27,4,5] I
   ·exact .a 3 I<|.v (cD I (hp3)) I<|.a 2 I<|.k [27,4,5] I
 refine aj I (fun hc=>?_) (fun hc=>?_)
 ·have he:(p1&& !(p2&&p3))=false:=by cases p1<;>cases p2<;>cases p3<;>first|rfl|cases hc
  rw[he,Bool.false_and]
  exact af (.a 1 I<|.k [8] I)<|az<|⟨_,_,aE.of I,aD.pure,rfl⟩
 ·have he:(p1&& !(p2&&p3))=true:=by cases p1<;>cases p2<;>cases p3<;>first|rfl|cases hc
  rw[he,Bool.true_and]
  refine ak<|an<|af (.a 3 I<|.k [4,5,30] I)<|aj I (fun hc=>?_) (fun hc=>?_)
  ·have hr:e.rep=false:=by simpa using hc
   rw[hr,if_neg (by simp)]
   exact af (.a 5 I<|.k [8] I)<|az<|⟨_,_,aE.of I,aD.pure,rfl⟩
  ·have hr:e.rep=true:=by simpa using hc
   rw[hr,if_pos rfl]
   refine ak<|an ?_
   obtain⟨p4,hp4⟩:∃q,decide ((e.av.length:Int)≠1)=q:=⟨_,rfl⟩
   obtain⟨p5,hp5⟩:∃q,decide (32<(e.push.length:Int))=q:=⟨_,rfl⟩
   refine bP 44 (.raw (.bool (p4||p5))) [4,5] I ?_ ?_
   ·refine .a 3 I<|.v (cD I (hp4)) I<|.a 1 I<|?_
    cases p4
    ·exact .a 3 I<|.v (cD I (hp5)) I<|.a 1 I<|.k [44,4,5] I
    ·exact .a 5 I<|.k [44,4,5] I
   refine aj I (fun hx=>?_) (fun hx=>?_)
   ·have hf:(decide ((e.av.length:Int)=1)&&decide ((e.push.length:Int)≤32))=false:=by
     rcases Bool.or_eq_true_iff.1 hx with h|h
     ·rw[h]at hp4;rw[decide_eq_false (tt hp4)];rfl
     ·rw[h]at hp5;rw[decide_eq_false (by have:=tt hp5;omega:¬((e.push.length:Int)≤32)),Bool.and_false]
    rw[hf,Bool.false_and]
    exact af (.a 1 I<|.k [8] I)<|az<|⟨_,_,aE.of I,aD.pure,rfl⟩
   ·obtain⟨c1,c2⟩:=Bool.or_eq_false_iff.1 hx
    rw[c1]at hp4
    rw[c2]at hp5
    have hlen:e.push.length≤32:=by have:=ff hp5;omega
    rw[decide_eq_true (Classical.byContradiction (ff hp4)),decide_eq_true (by omega:(e.push.length:Int)≤32),Bool.true_and,Bool.true_and]
    refine ak<|an<|af (.a 4 I<|.k [4,46,47,48] I)<|ay<|eY [4,46,47,48] I<|br (fun r s=>∃k,k≤e.push.length∧r=e.push.length - k∧(e.push.take k).all (sz T)=true∧s=⟨[(4,.bg (bI T) 0),(46,cN e.push),(47,num e.push.length),(48,num k)],[]⟩) e.push.length ⟨0,by omega,by omega,by simp,rfl⟩ ?_
    rintro r s ⟨k,hk,rfl,hall,rfl⟩
    refine af (.a 1 I<|.k [4,46,47,48,49] I)<|an<|aj I (fun hy=>?_) (fun hy=>?_)
    ·have hlt:k<e.push.length:=by have:=tt hy;omega
     obtain⟨a,ha⟩:∃a,e.push[k]? =some a:=⟨e.push[k],by simp[hlt]⟩
     refine ak<|an<|ay<|aR<|bw (aJ (k*2) I) I<|bw (ju I (pn e.push k a ha) I) I<|ax 2 I<|aH [4,10,46,47,48] I ?_
     refine af (.a 2 I<|.c rfl (Eh T (by omega) a) I<|.a 1 I<|.k [4,46,47,48,55] I)<|cJ [] (.c 4<|.c 46<|.c 47<|.c 48<|.c 55 .nil) .nil rfl rfl ?_
     refine aj I (fun hz=>?_) (fun hz=>?_)
     ·rw[Lg _ _ k a ha (by simpa using hz)]
      exact af (.a 1 I<|.k [8] I)<|az<|⟨_,_,aE.of I,aD.pure,rfl⟩
     ·have hz':sz T a=true:=by simpa using hz
      refine ak<|aF (.v (aU I) I<|.a 1 I<|.k [4,46,47,48] I) ?_
      exact⟨e.push.length - (k+1),by omega,k+1,by omega,rfl,by rw[La _ _ k a ha,hall,hz'];rfl,rfl⟩
    ·have hke:k=e.push.length:=by have:=ff hy;omega
     subst hke
     rw[List.take_length]at hall
     rw[hall]
     exact bp<|af (.a 1 I<|.k [8] I)<|az<|⟨_,_,aE.of I,aD.pure,rfl⟩
theorem mq(l:List kD)(k:Nat)(e:kD)(h:l[k]? =some e):l.getD k I7=e:=by rw[List.getD_eq_getElem?_getD,h];rfl
theorem wV{T:ah}{n:Int}{l:List kD}{k:Nat}{e:kD}(h:l[k]? =some e)(hf:oh T n k e=false):uU T n l=false:=decide_eq_false fun ha=>by
 have:=ha k (List.getElem?_eq_some_iff.1 h).1
 rw[mq l k e h,hf]at this
 cases this
theorem qE{T:ah}{n:Int}{l:List kD}(h:∀(k:Nat) e,l[k]? =some e→oh T n k e=true):uU T n l=true:=decide_eq_true fun d hd=>by
 have he:l[d]? =some l[d]:=by simp[hd]
 rw[mq l d _ he]
 exact h d _ he
theorem rm(T:ah)(x:eN):Can Tryz.prog 88 [aZ T,qk x] (· =flag (fA T x)):=by
 refine qo fun⟨E,w,vs,hR⟩=>?_
 obtain⟨v,_,hvv⟩:=hR.get (i:=1) I
 have hm:=(Gy hvv).1
 unfold maxLen at hm
 obtain⟨p1,hp1⟩:∃q,au T=q:=⟨_,rfl⟩
 obtain⟨p2,hp2⟩:∃q,bH T x.node=q:=⟨_,rfl⟩
 obtain⟨p3,hp3⟩:∃q,decide ((x.eO.length:Int)≠T.nodes)=q:=⟨_,rfl⟩
 obtain⟨p4,hp4⟩:∃q,iE T x.node x.down=q:=⟨_,rfl⟩
 have he:decide ((x.eO.length:Int)=T.nodes)= !p3 :=by rw[←hp3];simp
 unfold fA
 rw[hp1,hp2,he,hp4]
 refine aT Tryz.func88 I Tryz.ntmps88 I<|af (.a 3 I<|.k [2,3] I)<|an<|bP 33 (.raw (.bool ((((!p1)|| !p2)||p3)|| !p4))) [2,3] I ?_ ?_
 ·refine .a 1 I<|.c rfl (hp1▸eo T) I<|.a 2 I<|?_
  cases p1
  ·exact .a 23 I<|.k [33,2,3] I
  ·refine .a 3 I<|.c rfl (hp2▸dy T x.node) I<|.a 3 I<|?_
   cases p2
   ·exact .a 16 I<|.k [33,2,3] I
   ·refine .a 5 I<|.v (cD I (hp3)) I<|.a 2 I<|?_
    cases p3
    ·exact .a 5 I<|.c rfl (hp4▸oF T hp1 x.node x.down) I<|.a 2 I<|.k [33,2,3] I
    ·exact .a 8 I<|.k [33,2,3] I
 refine aj I (fun hc=>?_) (fun hc=>?_)
 ·have hf:(p1&&p2&& !p3 &&p4)=false:=by cases p1<;>cases p2<;>cases p3<;>cases p4<;>first|rfl|cases hc
  rw[hf,Bool.false_and]
  exact af (.a 1 I<|.k [4] I)<|az<|⟨_,_,aE.of I,aD.pure,rfl⟩
 ·have hf:(p1&&p2&& !p3 &&p4)=true:=by cases p1<;>cases p2<;>cases p3<;>cases p4<;>first|rfl|cases hc
  rw[hf,Bool.true_and]
  have e1:p1=true:=by cases p1<;>simp_all
  rw[e1]at hp1
  refine ak<|an<|af (.a 4 I<|.k [2,3,35,36,37] I)<|ay<|eY [2,3,35,36,37] I<|br (fun r s=>∃k,k≤x.eO.length∧r=x.eO.length - k∧(∀(i:Nat) e,i<k→x.eO[i]? =some e→oh T x.node i e=true)∧s=⟨[(2,.bg (bI T) 0),(3,.bg (gA x) 0),(35,lg x.eO),(36,num x.eO.length),(37,num k)],[]⟩) x.eO.length ⟨0,by omega,by omega,fun i e hi=>by omega,rfl⟩ ?_
  rintro r s ⟨k,hk,rfl,hall,rfl⟩
  refine af (.a 1 I<|.k [2,3,35,36,37,38] I)<|an<|aj I (fun hy=>?_) (fun hy=>?_)
  ·have hlt:k<x.eO.length:=by have:=tt hy;omega
   obtain⟨e,hek⟩:∃a,x.eO[k]? =some a:=⟨x.eO[k],by simp[hlt]⟩
   refine ak<|an<|ay<|aR<|ax 1 I<|bw (aJ (k*3) I) I<|bw (ju I (o5 x.eO k e hek) I) I<|ax 3 I<|aH [2,3,5,6,35,36,37] I ?_
   refine af (.a 5 I<|.c rfl (zj T hp1 e x.node k) I<|.a 1 I<|.k [2,3,35,36,37,48] I)<|cJ [] (.c 2<|.c 3<|.c 35<|.c 36<|.c 37<|.c 48 .nil) .nil rfl rfl ?_
   refine aj I (fun hz=>?_) (fun hz=>?_)
   ·rw[wV hek (by simpa using hz)]
    exact af (.a 1 I<|.k [4] I)<|az<|⟨_,_,aE.of I,aD.pure,rfl⟩
   ·have hz':oh T x.node k e=true:=by simpa using hz
    refine ak<|aF (.v (aU I) I<|.a 1 I<|.k [2,3,35,36,37] I) ?_
    refine⟨x.eO.length - (k+1),by omega,k+1,by omega,rfl,fun i e' hi he'=>?_,rfl⟩
    by_cases h:i=k
    ·subst h;rw[hek]at he';cases he';exact hz'
    ·exact hall i e' (by omega) he'
  ·have hke:k=x.eO.length:=by have:=ff hy;omega
   rw[qE fun i e hi=>hall i e (by have:=(List.getElem?_eq_some_iff.1 hi).1;omega) hi]
   exact bp<|af (.a 1 I<|.k [4] I)<|az<|⟨_,_,aE.of I,aD.pure,rfl⟩
end
end PW
end Go.Proofs.YteikppbedmmdnaaGreatDoor
