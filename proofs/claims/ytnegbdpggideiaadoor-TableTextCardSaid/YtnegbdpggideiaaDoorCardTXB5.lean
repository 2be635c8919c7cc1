/- Texts of the proof, part 5. -/
import Derived.Laws.StructEq
import Derived.Test.YtnegbdpggideiaaDoorCardTXB4
set_option linter.unusedVariables false
set_option linter.unusedSimpArgs false
set_option maxRecDepth 10000
set_option maxHeartbeats 1000000
namespace Go.Proofs.YtnegbdpggideiaaDoor
namespace PW
section
open Go.RowKit bm Mem Net
theorem qE{P:Program}{σ:bt}{t:aZ}{o:Oper}{x y:Operand}{ty tz:TypeId}{a:Nat}(ho:o.op= .binOp .xor ty x y tz)(hx:ag t x=some (num a))(hy:ag t y=some (num 1))(ha:a<9223372036854775806):ay P σ t o (num (flip a:Int)):=
 c8 ho hx hy fun w=>by
  have h:IntKind.i64.wrap ((BitVec.ofInt IntKind.i64.bits (a:Int) ^^^ BitVec.ofInt IntKind.i64.bits 1).toNat:Int)=(flip a:Int):=pR a ha
  simp only[binOp,Op.intBits,h]
  rfl
theorem qG(a:Nat):((a:Int)).tdiv 2=((a / 2:Nat):Int):=rfl
theorem re(a:Nat):((a:Int)).tmod 2=((a % 2:Nat):Int):=rfl
theorem eY{T:aG}{n:Int}:bE T n=true↔0≤n∧n<T.nodes:=by simp[bE]
theorem fy{T:aG}(h:aX T=true):T.ah.length≤256:=(eN h).2.2.1
theorem tt{b:Prop}[Decidable b](h:decide b=true):b:=of_decide_eq_true h
theorem ff{b:Prop}[Decidable b](h:decide b=false):¬b:=of_decide_eq_false h
theorem gP{E:Env}{w:World}{v:Value}{n:Nat}{xs:List PV}(h:bB E w v (.slice n xs)):n≤maxLen:=by
 obtain⟨a,c,_,h1,h2⟩:=pI h
 omega
theorem mi{P:Program}{f:FuncId}{ps:List PV}{R:PV→Prop}(h:(∃E w vs,aA E w vs ps)→Can P f ps R):Can P f ps R:=fun F w vs hF hG hR=>h ⟨_,_,_,hR⟩ F w vs hF hG hR
theorem kU{P:Program}{f:FuncId}{T:aG}{ps:List PV}{R:PV→Prop}(h:T.ah.length≤maxLen→T.over.length≤maxLen→Can P f (cj T::ps) R):Can P f (cj T::ps) R:=by
 refine mi fun⟨E,w,vs,hR⟩=>?_
 obtain⟨v,_,hv⟩:=hR.get (i:=0) I
 unfold cj eo at hv
 cases hv with
 |agg cs _ hl hr=>
  have hr:aA E w cs.toList _:=⟨by simpa using hl,fun i x u h1 h2=>hr i x u (by simpa using h1) h2⟩
  obtain⟨v1,_,h1⟩:=hr.get (i:=1) I
  obtain⟨v2,_,h2⟩:=hr.get (i:=2) I
  exact h (gP h2) (gP h1)
theorem iz(T:aG)(hl:T.ah.length≤4611686018427387903):Can Tryd.prog 63 [cj T] (· =num (2*(T.ah.length:Int))):=by
 exact aY Tryd.func63 I Tryd.ntmps63 I<|ai (.a 2 I<|.k [1] I)<|ai (.a 3 I<|.v (bA I) I<|.a 1 I<|.k [2] I)<|aF<|⟨_,_,aL.of I,aW.pure,rfl⟩
theorem iP(T:aG)(a:Nat)(ha:a<2*T.ah.length):Can Tryd.prog 68 [cj T,num a] (· =num (cL T a)):=by
 have hi:a / 2<T.ah.length:=by omega
 refine kU fun hm _=>?_
 unfold maxLen at hm
 refine aY Tryd.func68 I Tryd.ntmps68 I<|ai (.a 2 I<|.k [1,2] I)<|ak<|ai (.a 1 I<|.v (ox I I I (by decide) (re a)) I<|.a 1 I<|.k [1,2,7] I)<|aq I (fun hc=>?_) (fun hc=>?_)
 ·have h2:a % 2=0:=by have:=tt hc;omega
  unfold cL
  rw[if_pos h2]
  exact ai (.a 3 I<|.v (jB I I I (by decide) (qG a) (by unfold In64;omega)) I<|.v (bf (a / 2*7) I) I<|.a 1 I<|.v (aN I (eV T.ah (a / 2) 0 hi (by omega))) I<|.a 1 I<|.k [4] I)<|aF<|⟨_,_,aL.of I,aW.pure,rfl⟩
 ·have h2:¬a % 2=0:=by have:=ff hc;omega
  unfold cL
  rw[if_neg h2]
  exact au<|ai (.a 3 I<|.v (jB I I I (by decide) (qG a) (by unfold In64;omega)) I<|.v (bf (a / 2*7) I) I<|.a 1 I<|.v (aN I (eV T.ah (a / 2) 1 hi (by omega))) I<|.a 1 I<|.k [4] I)<|aF<|⟨_,_,aL.of I,aW.pure,rfl⟩
theorem kO(T:aG)(a:Nat)(ha:a<2*T.ah.length)(hl:T.ah.length≤4611686018427387902):Can Tryd.prog 36 [cj T,num a] (· =num (bV T a)):=by
 exact aY Tryd.func36 I Tryd.ntmps36 I<|ai (.a 2 I<|.k [1,2] I)<|ai (.a 2 I<|.v (qE I I I (by omega)) I<|.c rfl (iP T (Net.flip a) (by unfold Net.flip;split<;>omega)) I<|.a 1 I<|.k [4] I)<|aF<|⟨_,_,aL.of I,aW.pure,rfl⟩
theorem nV(T:aG)(a:Nat)(hi:a / 2<T.ah.length):(dx T.ah)[a / 2*7+2+a % 2]? =some (num (bo T a)):=by
 rw[Nat.add_assoc,eV T.ah (a / 2) (2+a % 2) hi (by omega)]
 unfold bo
 rcases Nat.mod_two_eq_zero_or_one a with h|h<;>rw[h]
 ·rfl
 ·rfl
theorem kq(T:aG)(a:Nat)(ha:a<2*T.ah.length):Can Tryd.prog 88 [cj T,num a] (· =num (bo T a)):=by
 have hi:a / 2<T.ah.length:=by omega
 refine kU fun hm _=>?_
 unfold maxLen at hm
 exact aY Tryd.func88 I Tryd.ntmps88 I<|ai (.a 2 I<|.k [1,2] I)<|ai (.a 3 I<|.v (jB I I I (by decide) (qG a) (by unfold In64;omega)) I<|.a 1 I<|.v (ox I I I (by decide) (re a)) I<|.v (bf (a / 2*7) I) I<|.a 1 I<|.v (bf (a % 2) I) I<|.v (aN I (nV T a hi)) I<|.a 1 I<|.k [4] I)<|aF<|⟨_,_,aL.of I,aW.pure,rfl⟩
theorem kM(T:aG)(n:Nat)(hn:T.over.length=0∨n<T.over.length):Can Tryd.prog 87 [cj T,num n] (· =flag (dM T n)):=by
 obtain⟨p1,hp1⟩:∃q,decide (0<(T.over.length:Int))=q:=⟨_,rfl⟩
 obtain⟨p2,hp2⟩:∃q,T.over.getD n false=q:=⟨_,rfl⟩
 have he:dM T n=(p1&&p2):=by
  unfold dM
  cases p1
  ·have:=ff hp1
   rw[List.getD_eq_getElem?_getD,List.getElem?_eq_none (by omega)];rfl
  ·exact hp2
 rw[he]
 refine aY Tryd.func87 I Tryd.ntmps87 I<|ai (.a 2 I<|.k [1,2] I)<|b4 4 (.raw (.bool (p1&&p2))) [] I ?_ ?_
 ·refine .a 3 I<|.v (et I (hp1)) I<|.a 1 I<|?_
  cases p1
  ·exact .a 7 I<|.k [4] I
  ·exact .a 3 I<|.v (bf (n) I (by omega) (by have:=tt hp1;omega)) I<|.v (aN I (show _=some (flag p2) by rw[iE _ n (by have:=tt hp1;omega),hp2])) I<|.a 2 I<|.k [4] I
 exact aF<|⟨_,_,aL.of I,aW.pure,rfl⟩
theorem eQ(T:aG)(n:Int):Can Tryd.prog 47 [cj T,num n] (· =flag (bE T n)):=by
 obtain⟨p1,hp1⟩:∃q,decide (0≤n)=q:=⟨_,rfl⟩
 obtain⟨p2,hp2⟩:∃q,decide (n<T.nodes)=q:=⟨_,rfl⟩
 have he:bE T n=(p1&&p2):=by rw[←hp1,←hp2];unfold bE;exact Bool.decide_and _ _
 rw[he]
 refine aY Tryd.func47 I Tryd.ntmps47 I<|ai (.a 2 I<|.k [1,2] I)<|b4 4 (.raw (.bool (p1&&p2))) [] I ?_ ?_
 ·refine .a 1 I<|.v (et I (hp1)) I<|.a 1 I<|?_
  cases p1
  ·exact .a 6 I<|.k [4] I
  ·exact .a 3 I<|.v (et I (hp2)) I<|.a 2 I<|.k [4] I
 exact aF<|⟨_,_,aL.of I,aW.pure,rfl⟩
theorem kD(T:aG)(D:List Bool)(hl:T.ah.length≤4611686018427387903):Can Tryd.prog 31 [cj T,ca D] (· =flag (da T D)):=by
 obtain⟨p1,hp1⟩:∃q,decide ((D.length:Int)=0)=q:=⟨_,rfl⟩
 obtain⟨p2,hp2⟩:∃q,decide ((D.length:Int)=2*(T.ah.length:Int))=q:=⟨_,rfl⟩
 have he:da T D=(p1||p2):=by rw[←hp1,←hp2];unfold da;rw[←Bool.decide_or];exact decide_eq_decide.2 (by omega)
 rw[he]
 refine aY Tryd.func31 I Tryd.ntmps31 I<|ai (.a 2 I<|.k [1,2] I)<|b4 4 (.raw (.bool (p1||p2))) [] I ?_ ?_
 ·refine .a 2 I<|.v (et I (hp1)) I<|.a 1 I<|?_
  cases p1
  ·exact .a 3 I<|.c rfl (iz T hl) I<|.v (et I (hp2)) I<|.a 2 I<|.k [4] I
  ·exact .a 7 I<|.k [4] I
 exact aF<|⟨_,_,aL.of I,aW.pure,rfl⟩
theorem pW{D:List Bool}{a:Nat}{p1 p2:Bool}(hp1:decide (0<(D.length:Int))=p1)(hp2:D.getD a false=p2):dB D a=(p1&&p2):=by
 unfold dB
 cases p1
 ·have:=ff hp1
  rw[List.getD_eq_getElem?_getD,List.getElem?_eq_none (by omega)];rfl
 ·exact hp2
theorem iI(D:List Bool)(a:Nat)(ha:D.length=0∨a<D.length):Can Tryd.prog 50 [ca D,num a] (· =flag (dB D a)):=by
 obtain⟨p1,hp1⟩:∃q,decide (0<(D.length:Int))=q:=⟨_,rfl⟩
 obtain⟨p2,hp2⟩:∃q,D.getD a false=q:=⟨_,rfl⟩
 rw[pW hp1 hp2]
 refine aY Tryd.func50 I Tryd.ntmps50 I<|ai (.a 1 I<|.k [0,1] I)<|b4 4 (.raw (.bool (p1&&p2))) [] I ?_ ?_
 ·refine .a 2 I<|.v (et I (hp1)) I<|.a 1 I<|?_
  cases p1
  ·exact .a 6 I<|.k [4] I
  ·exact .a 2 I<|.v (bf (a) I (by omega) (by have:=tt hp1;omega)) I<|.v (aN I (show _=some (flag p2) by rw[iE _ a (by have:=tt hp1;omega),hp2])) I<|.a 2 I<|.k [4] I
 exact aF<|⟨_,_,aL.of I,aW.pure,rfl⟩
theorem cM(n lo hi:Int):Can Tryd.prog 62 [num n,num lo,num hi] (· =flag (a8 n lo hi)):=by
 obtain⟨p1,hp1⟩:∃q,decide (lo≤n)=q:=⟨_,rfl⟩
 obtain⟨p2,hp2⟩:∃q,decide (n≤hi)=q:=⟨_,rfl⟩
 have he:a8 n lo hi=(p1&&p2):=by rw[←hp1,←hp2];unfold a8;exact Bool.decide_and _ _
 rw[he]
 refine aY Tryd.func62 I Tryd.ntmps62 I<|ai (.a 1 I<|.k [0,1,2] I)<|b4 6 (.raw (.bool (p1&&p2))) [] I ?_ ?_
 ·refine .a 2 I<|.v (et I (hp1)) I<|.a 1 I<|?_
  cases p1
  ·exact .a 5 I<|.k [6] I
  ·exact .a 2 I<|.v (et I (hp2)) I<|.a 2 I<|.k [6] I
 exact aF<|⟨_,_,aL.of I,aW.pure,rfl⟩
set_option maxHeartbeats 2000000 in
theorem jk(T:aG):Can Tryd.prog 30 [cj T] (· =flag (aX T)):=by
  obtain⟨p0,hp0⟩:∃q,a8 T.nodes 1 64=q:=⟨_,rfl⟩
  obtain⟨p1,hp1⟩:∃q,decide ((T.over.length:Int)≠0)=q:=⟨_,rfl⟩
  obtain⟨p2,hp2⟩:∃q,decide ((T.over.length:Int)≠T.nodes)=q:=⟨_,rfl⟩
  obtain⟨p3,hp3⟩:∃q,decide (256<(T.ah.length:Int))=q:=⟨_,rfl⟩
  have hw:Can Tryd.prog 62 [num T.nodes,num 1,num 64] (· =flag p0):=by rw[←hp0];exact cM _ _ _
  refine aY Tryd.func30 I Tryd.ntmps30 I<|ai (.a 2 I<|.k [1] I)<|ak<|b4 14 (.raw (.bool ((!p0)||p3))) [1] I ?_ ?_
  · refine .a 2 I<|.c rfl (hw) I<|.a 2 I<|?_
    cases p0
    · exact .a 5 I<|.k [14,1] I
    · exact .a 3 I<|.v (et I (hp3)) I<|.a 1 I<|.k [14,1] I
  refine aq I (fun hc=>?_) (fun hc=>?_)
  · have hv:aX T=false:=by
      rcases Bool.or_eq_true_iff.1 hc with h|h
      · exact(fi T (.inl (by rw[hp0];simpa using h))).symm
      · rw[h]at hp3;exact(fi T (.inr (.inl (by have:=tt hp3;omega)))).symm
    rw[hv]
    exact ai (.a 1 I<|.k [2] I)<|aF<|⟨_,_,aL.of I,aW.pure,rfl⟩
  · obtain ⟨c1, c2⟩ := Bool.or_eq_false_iff.1 hc
    have h0:p0=true:=by simpa using c1
    rw[h0]at hp0
    rw[c2]at hp3
    have hle:T.ah.length≤256:=by have:=ff hp3;omega
    clear hw hc c1
    refine au<|ak<|b4 26 (.raw (.bool (p1&&p2))) [1] I ?_ ?_
    · refine .a 3 I<|.v (et I (hp1)) I<|.a 1 I<|?_
      cases p1
      · exact .a 7 I<|.k [26,1] I
      · exact .a 5 I<|.v (et I (hp2)) I<|.a 1 I<|.k [26,1] I
    refine aq I (fun hc=>?_) (fun hc=>?_)
    · have hv:aX T=false:=by
        obtain⟨a1,a2⟩:=Bool.and_eq_true_iff.1 hc
        rw[a1]at hp1
        rw[a2]at hp2
        exact(fi T (.inr (.inr ⟨by have:=tt hp1;omega,tt hp2⟩))).symm
      rw[hv]
      exact ai (.a 1 I<|.k [2] I)<|aF<|⟨_,_,aL.of I,aW.pure,rfl⟩
    · have hov:T.over.length=0∨(T.over.length:Int)=T.nodes:=by
        rcases Bool.and_eq_false_iff.1 hc with h|h
        · rw[h]at hp1;exact .inl (by have:=ff hp1;omega)
        · rw[h]at hp2;exact .inr (by have:=ff hp2;omega)
      rw[lC T hp0 hle hov]
      clear hc hp1 hp2
      refine au<|ak<|ai (.a 4 I<|.k [1,29,30] I)<|aB<|gU [1,29,30] I<|bz (fun r s=>∃k,k≤T.ah.length∧r=T.ah.length - k∧(T.ah.take k).all (eE T)=true∧s=⟨[(1,.bT (eo T) 0),(29,num T.ah.length),(30,num k)],[]⟩) T.ah.length ⟨0,by omega,by omega,by simp,rfl⟩ ?_
      rintro r s ⟨k,hk,rfl,hall,rfl⟩
      refine ai (.a 1 I<|.k [1,29,30,31] I)<|ak<|aq I (fun hc=>?_) (fun hc=>?_)
      · have hlt:k<T.ah.length:=by have:=tt hc;omega
        have g:∀j,j<7→(dx T.ah)[k*7+j]? =(iZ (ej T.ah k))[j]? :=fun j hj=>eV T.ah k j hlt hj
        obtain⟨q1,g1⟩:∃q,decide ((ej T.ah k).a=(ej T.ah k).b)=q:=⟨_,rfl⟩
        obtain⟨q2,g2⟩:∃q,bE T (ej T.ah k).a=q:=⟨_,rfl⟩
        obtain⟨q3,g3⟩:∃q,bE T (ej T.ah k).b=q:=⟨_,rfl⟩
        obtain⟨q4,g4⟩:∃q,a8 (ej T.ah k).c0 1 65535=q:=⟨_,rfl⟩
        obtain⟨q5,g5⟩:∃q,a8 (ej T.ah k).c1 1 65535=q:=⟨_,rfl⟩
        obtain⟨q6,g6⟩:∃q,a8 (ej T.ah k).cap 0 1048576=q:=⟨_,rfl⟩
        obtain⟨q7,g7⟩:∃q,a8 (ej T.ah k).k8 1 65536=q:=⟨_,rfl⟩
        obtain⟨q8,g8⟩:∃q,a8 (ej T.ah k).rl 0 64=q:=⟨_,rfl⟩
        have hOK:=mW (T:=T) (l:=ej T.ah k) (q1:=q1) (by rw[←g1];exact Bool.eq_iff_iff.2 (by simp)) g2 g3 g4 g5 g6 g7 g8
        have hall':=oF (eE T) T.ah k hlt
        have hno:=o4 (eE T) T.ah k hlt
        rw[hOK]at hall' hno
        have n2:=eQ T (ej T.ah k).a
        rw[g2]at n2
        have n3:=eQ T (ej T.ah k).b
        rw[g3]at n3
        have n4:=cM (ej T.ah k).c0 1 65535
        rw[g4]at n4
        have n5:=cM (ej T.ah k).c1 1 65535
        rw[g5]at n5
        have n6:=cM (ej T.ah k).cap 0 1048576
        rw[g6]at n6
        have n7:=cM (ej T.ah k).k8 1 65536
        rw[g7]at n7
        have n8:=cM (ej T.ah k).rl 0 64
        rw[g8]at n8
        clear hOK g2 g3 g4 g5 g6 g7 g8
        refine au<|ak<|aB<|ai (.a 2 I<|.k [1,3,29,30] I)<|ai (.a 3 I<|.v (bf (k*7) I) I<|.a 1 I<|.k [1,4,29,30] I)<|ak<|qO mixed (by kernel_rfl) 63 (.raw (.bool ((q1|| !q2)|| !q3))) [1,4,29,30] I ?_ ?_
        · refine .a 3 I<|.v [39] (aN I (g 0 (by omega))) I I<|.a 3 I<|.v [43] (aN I (g 1 (by omega))) I I<|.v [40,44] (et I (g1)) I I<|.a 1 I<|?_
          cases q1
          · refine .a 4 I<|.v [50] (aN I (g 0 (by omega))) I I<|.v [47,51] (cH I (n2)) I I<|.a 3 I<|?_
            cases q2
            · exact .a 8 I<|.k [63,1,4,29,30] I
            · exact .a 4 I<|.v [59] (aN I (g 1 (by omega))) I I<|.v [56,60] (cH I (n3)) I I<|.a 2 I<|.k [63,1,4,29,30] I
          · exact .a 17 I<|.k [63,1,4,29,30] I
        refine aq I (fun hx=>?_) (fun hx=>?_)
        · have hno':=hno (by cases q1<;>cases q2<;>cases q3<;>simp_all)
          rw[hno']
          exact ai (.a 1 I<|.k [2] I)<|aF<|⟨_,_,aL.of I,aW.pure,rfl⟩
        · have e1:q1=false:=by cases q1<;>simp_all
          have e2:q2=true:=by cases q2<;>simp_all
          have e3:q3=true:=by cases q3<;>simp_all
          subst e1 e2 e3
          clear n2 n3 hx
          refine au<|ak<|b4 79 (.raw (.bool ((!q4)|| !q5))) [1,4,29,30] I ?_ ?_
          · refine .a 3 I<|.v (bf (0) I) I<|.v (aN I (g 2 (by omega))) I<|.c rfl (n4) I<|.a 2 I<|?_
            cases q4
            · exact .a 8 I<|.k [79,1,4,29,30] I
            · exact .a 3 I<|.v (bf (1) I) I<|.v (aN I (g 3 (by omega))) I<|.c rfl (n5) I<|.a 2 I<|.k [79,1,4,29,30] I
          refine aq I (fun hx=>?_) (fun hx=>?_)
          · have hno':=hno (by cases q4<;>cases q5<;>simp_all)
            rw[hno']
            exact ai (.a 1 I<|.k [2] I)<|aF<|⟨_,_,aL.of I,aW.pure,rfl⟩
          · have e1:q4=true:=by cases q4<;>simp_all
            have e2:q5=true:=by cases q5<;>simp_all
            subst e1 e2
            clear n4 n5 hx
            refine au<|b4 101 (.raw (.bool (((!q6)|| !q7)|| !q8))) [1,29,30] I ?_ ?_
            · refine .a 3 I<|.v (aN I (g 4 (by omega))) I<|.c rfl (n6) I<|.a 2 I<|?_
              cases q6
              · exact .a 15 I<|.k [101,1,29,30] I
              · refine .a 3 I<|.v (aN I (g 5 (by omega))) I<|.c rfl (n7) I<|.a 3 I<|?_
                cases q7
                · exact .a 7 I<|.k [101,1,29,30] I
                · exact .a 3 I<|.v (aN I (g 6 (by omega))) I<|.c rfl (n8) I<|.a 2 I<|.k [101,1,29,30] I
            refine aq I (fun hx=>?_) (fun hx=>?_)
            · have hno':=hno (by cases q6<;>cases q7<;>cases q8<;>simp_all)
              rw[hno']
              exact ai (.a 1 I<|.k [2] I)<|aF<|⟨_,_,aL.of I,aW.pure,rfl⟩
            · have e1:q6=true:=by cases q6<;>simp_all
              have e2:q7=true:=by cases q7<;>simp_all
              have e3:q8=true:=by cases q8<;>simp_all
              subst e1 e2 e3
              clear n6 n7 n8 hx
              refine au<|aE (.v (bA I) I<|.a 1 I<|.k [1,29,30] I) ?_
              exact⟨T.ah.length - (k+1),by omega,k+1,by omega,rfl,by rw[hall',hall];rfl,rfl⟩
      · have hke:k=T.ah.length:=by have:=ff hc;omega
        subst hke
        rw[List.take_length]at hall
        rw[hall]
        exact bh<|ai (.a 1 I<|.k [2] I)<|aF<|⟨_,_,aL.of I,aW.pure,rfl⟩
end
section
open Go.RowKit bm Mem
section
variable {P:Program} {N L:Nat} {ops:Array Oper}
theorem WA.mono:∀ {n:Nat} {ls:Array Bool} {st:St} {K K':St→Prop},WA P N L ops n ls st K→(∀s,K s→K' s)→WA P N L ops n ls st K'
 |0,_,_,_,_,h,hk=>⟨h.1,hk _ h.2⟩
 |_+1,_,_,_,_,h,hk=>⟨h.1,fun i hi=>by
   obtain⟨o,h1,h2,h3⟩:=h.2 i hi
   exact⟨o,h1,h2,h3.mono fun s hs=>WA.mono hs hk⟩⟩
theorem iR{id:Nat}{l:List Oper}{y:Code}{st:St}{Q:Exit→St→Prop}(t':aZ)(σ':bt)(hm:P.follows .mixedOrders=true)(h:WA P N L l.toArray l.length (Array.replicate l.length false) st (fun s=>s.σ=σ'∧Sub s.t t'))(hq:W P N L y ⟨t',σ'⟩ Q):W P N L (.seq (.region id l.toArray true) y) st Q:=
 jb hm (h.mono fun s hs=>by
  obtain⟨t,σ⟩:=s
  obtain⟨h1,h2⟩:=hs
  subst h1
  exact jJ h2 hq)
theorem Sat.seal{F:Nat→Prop}{base:Nat}{σ:bt}{E:Env}{w:World}(hS:Sat F base σ E w){i e s n:Nat}{xs:List PV}(hi:σ[i]? =some (some (.row e s n xs))){v:Value}(hv:bB E w v (.own i)):bB (E.kill i) w v (.slice n xs):=by
 obtain⟨_,g⟩:=hS.kill i hi
 cases hv with
 |own _ hiL _ h _=>
  obtain⟨cs,k1,k2⟩:=hS.blk i _ hi
  rw[h]at k1
  have k3:=k1
  rcases k1.2 with⟨rfl,h0⟩|⟨b,cap,cur,rfl,hb,hg,hn,hc,hs',ht⟩
  ·subst h0
   have:xs=[]:=by
    have:=k3.1;simp at this;subst this
    exact List.eq_nil_of_length_eq_zero k2.1.symm
   subst this
   exact .cl
  ·by_cases h0:n=0
   ·subst h0
    have:xs=[]:=by
     have:=k3.1;simp at this;subst this
     exact List.eq_nil_of_length_eq_zero k2.1.symm
    subst this
    exact .empty _ _ hc
   ·refine .slice b 0 n cap cs xs (by omega) hn hc (Array.getElem?_eq_some_iff.1 hg).1 (fun hM=>hM.2 (by rw[h];rfl)) (fun j x hx=>?_) k2.1 (fun j x u h1 h2=>(k2.2 j x u h1 h2).goes g)
    have:=k3.cells (g:=b) I j x hx
    rw[Addr.add_lit]at this
    exact this
theorem ki{c:Code}{t:aZ}{σ:bt}{Q:Exit→St→Prop}(k i:Nat){e s n:Nat}{xs:List PV}(hk:look k t=some (.own i))(hi:σ[i]? =some (some (.row e s n xs)))(h:W P N L c ⟨(k,.slice n xs)::t,σ.set i none⟩ Q):W P N L c ⟨t,σ⟩ Q:=fun F base E₀ w₀ E a w hc hs=>by
 obtain⟨a1,a2⟩:=hs.sat.kill i hi
 exact h F base E₀ w₀ _ a w (hc.on a2 (Below.refl _ _)) ⟨a1,(hs.tmp.goes a2).pz (hs.sat.seal hi (hs.tmp k _ hk)),hs.gy,hs.size⟩
theorem l8{l:List Oper}{t:aZ}{σ:bt}{K:St→Prop}(k i:Nat){e s n:Nat}{xs:List PV}(hk:look k t=some (.own i))(hi:σ[i]? =some (some (.row e s n xs)))(h:WR P N L ops l ⟨(k,.slice n xs)::t,σ.set i none⟩ K):WR P N L ops l ⟨t,σ⟩ K:=by
 intro F base E₀ w₀ E a w hc hs Q j hQ hl
 obtain⟨a1,a2⟩:=hs.sat.kill i hi
 exact h F base E₀ w₀ _ a w (hc.on a2 (Below.refl _ _)) ⟨a1,(hs.tmp.goes a2).pz (hs.sat.seal hi (hs.tmp k _ hk)),hs.gy,hs.size⟩ Q j hQ hl
theorem cq{c:Code}{t:aZ}{σ:bt}{Q:Exit→St→Prop}(k i off:Nat){ty:TypeId}{xs:List PV}(hk:look k t=some (.ptr i off))(hi:σ[i]? =some (some (.cells ty xs)))(h:W P N L c ⟨(k,.bT xs off)::t,σ.set i none⟩ Q):W P N L c ⟨t,σ⟩ Q:=fun F base E₀ w₀ E a w hc hs=>by
 obtain⟨a1,a2⟩:=hs.sat.kill i hi
 have hv:=hs.tmp k _ hk
 obtain⟨b,cs,h1,h2,h3,h4⟩:=hs.sat.blk i _ hi
 have hp:bB (E.kill i) w (a.eval (.tmp k)) (.bT xs off):=by
  generalize a.eval (.tmp k)=z at hv
  cases hv with
  |ptr _ _ b' hi' h=>
   have hb:b'=b:=by
    rcases h with h|⟨n,c,h⟩<;>rw[h1]at h<;>cases h
    rfl
   subst hb
   have:=bB.bT (E:=E.kill i) (w:=w) b' 0 off cs.toList xs (Array.getElem?_eq_some_iff.1 h3).1 (fun hM=>hM.2 (by rw[h1];rfl)) (fun j x hx=>by rw[Nat.zero_add];unfold World.cell?;simp only[h3];simpa using hx) h4.1 (fun j x u k1 k2=>(h4.2 j x u k1 k2).goes a2)
   rw[Nat.zero_add]at this
   exact this
 exact h F base E₀ w₀ _ a w (hc.on a2 (Below.refl _ _)) ⟨a1,(hs.tmp.goes a2).pz hp,hs.gy,hs.size⟩
end
open Net
end
end PW
end Go.Proofs.YtnegbdpggideiaaDoor
namespace Go.Proofs.YtnegbdpggideiaaDoor
namespace Net
def cx(T:aG)(dir:Bool)(a:Nat):Int:=if dir then bV T a else cL T a
def bq(T:aG)(dir:Bool)(a:Nat):Int:=if dir then cL T a else bV T a
def at'(l:List Int)(x:Int):Int:=l.getD x.toNat (-1)
def Way(T:aG)(D:List Bool)(n:Nat)(dir:Bool)(out:List Int)(a:Nat):Prop:=
 dB D a=false∧0≤at' out (bq T dir a)∧(bq T dir a=(n:Int)∨dM T (bq T dir a).toNat=false)
structure cW (T:aG) (D:List Bool) (n:Nat) (dir:Bool) (out:List Int):Prop where
 len:(out.length:Int)=T.nodes
 root:at' out (n:Int)=0
 ge:∀x:Nat,(x:Int)<T.nodes→ -1≤at' out (x:Int)
 closed:∀a,a<2*T.ah.length→Way T D n dir out a→0≤at' out (cx T dir a)∧at' out (cx T dir a)≤at' out (bq T dir a)+bo T a
 gI:∀x:Nat,(x:Int)<T.nodes→0≤at' out (x:Int)→x=n∨∃a,a<2*T.ah.length∧cx T dir a=(x:Int)∧Way T D n dir out a∧at' out (x:Int)=at' out (bq T dir a)+bo T a
structure Sound (T:aG):Prop where
 cost:∀a,a<2*T.ah.length→1≤bo T a∧bo T a≤65535
 tail:∀a,a<2*T.ah.length→0≤cL T a∧cL T a<T.nodes
 head:∀a,a<2*T.ah.length→0≤bV T a∧bV T a<T.nodes
 nodes:1≤T.nodes∧T.nodes≤64
theorem Sound.x{T:aG}(h:Sound T)(dir:Bool)(a:Nat)(ha:a<2*T.ah.length):0≤cx T dir a∧cx T dir a<T.nodes:=by
 unfold cx;cases dir
 ·exact h.tail a ha
 ·exact h.head a ha
theorem Sound.y{T:aG}(h:Sound T)(dir:Bool)(a:Nat)(ha:a<2*T.ah.length):0≤bq T dir a∧bq T dir a<T.nodes:=by
 unfold bq;cases dir
 ·exact h.head a ha
 ·exact h.tail a ha
theorem kg{T:aG}(hT:Sound T){D:List Bool}{n:Nat}{dir:Bool}{out out':List Int}(h:cW T D n dir out)(h':cW T D n dir out'):
  ∀(k:Nat) (x:Nat),(x:Int)<T.nodes→at' out (x:Int)=(k:Int)→0≤at' out' (x:Int)∧at' out' (x:Int)≤at' out (x:Int):=by
 intro k
 induction k using Nat.strongRecOn with
 |_ k ih=>
  intro x hx hk
  rcases h.gI x hx (by omega)with rfl|⟨a,ha,hax,⟨w1,w2,w3⟩,he⟩
  ·rw[h'.root];omega
  ·have hc:=hT.cost a ha
   obtain⟨y,hy⟩:=Int.eq_ofNat_of_zero_le (hT.y dir a ha).1
   have hyn:=(hT.y dir a ha).2
   rw[hy]at w2 w3 he hyn
   obtain⟨j,hj⟩:=Int.eq_ofNat_of_zero_le w2
   have hlt:j<k:=by omega
   have h1:=ih j hlt y hyn hj
   have h2:=h'.closed a ha ⟨w1,by rw[hy];exact h1.1,by rw[hy];exact w3⟩
   rw[hax,hy]at h2
   exact⟨h2.1,by omega⟩
theorem o9(out:List Int)(x:Nat)(hx:x<out.length):at' out (x:Int)=out[x]:=by
 simp[at',hx]
theorem kE{T:aG}(hT:Sound T){D:List Bool}{n:Nat}{dir:Bool}{out out':List Int}(h:cW T D n dir out)(h':cW T D n dir out'):out=out':=by
 have hl:out.length=out'.length:=by have:=h.len;have:=h'.len;omega
 refine List.ext_getElem hl fun x h1 h2=>?_
 have hx:(x:Int)<T.nodes:=by have:=h.len;omega
 rw[←o9 out x h1,←o9 out' x h2]
 have g1:=h.ge x hx
 have g2:=h'.ge x hx
 by_cases c1:0≤at' out (x:Int)
 ·obtain⟨k,hk⟩:=Int.eq_ofNat_of_zero_le c1
  have a1:=kg hT h h' k x hx hk
  obtain⟨k',hk'⟩:=Int.eq_ofNat_of_zero_le a1.1
  have a2:=kg hT h' h k' x hx hk'
  omega
 ·by_cases c2:0≤at' out' (x:Int)
  ·obtain⟨k,hk⟩:=Int.eq_ofNat_of_zero_le c2
   have a1:=kg hT h' h k x hx hk
   omega
  ·omega
open Classical in
noncomputable def cd(T:aG)(D:List Bool)(n:Nat)(dir:Bool):List Int:=if h:∃out,cW T D n dir out then h.choose else []
theorem fp{T:aG}(hT:Sound T){D:List Bool}{n:Nat}{dir:Bool}{out:List Int}(h:cW T D n dir out):cd T D n dir=out:=by
 unfold cd
 rw[dif_pos ⟨out,h⟩]
 exact kE hT (Exists.choose_spec (⟨out,h⟩:∃out,cW T D n dir out)) h
end Net
end Go.Proofs.YtnegbdpggideiaaDoor
namespace Go.Proofs.YtnegbdpggideiaaDoor
namespace Net
section
def gx:List Int→Nat
 | []=>0
 |v::l=>(if 0≤v then 1 else 0)+gx l
theorem gZ(l:List Int):gx l≤l.length:=by
 induction l with
 |nil=>exact Nat.le_refl _
 |cons v l ih=>simp only[gx,List.length_cons];split<;>omega
theorem gS:∀(l:List Int) (i:Nat) (c:Int),i<l.length→0≤c→gx (l.set i c)=gx l+(if 0≤l.getD i (-1) then 0 else 1)
 | [],i,c,h,_=>by simp at h
 |v::l,0,c,_,hc=>by
  simp only[List.set_cons_zero,gx,List.getD_cons_zero]
  rw[if_pos hc]
  by_cases h:0≤v
  ·rw[if_pos h,if_pos h];omega
  ·rw[if_neg h,if_neg h];omega
 |v::l,i+1,c,h,hc=>by
  simp only[List.set_cons_succ,gx,List.getD_cons_succ]
  rw[gS l i c (by simpa using h) hc]
  omega
def qZ(v:Int):Nat:=if v<0 then 4194241 else v.toNat
def mu:List Int→Nat
 | []=>0
 |v::l=>qZ v+mu l
theorem oK:∀(l:List Int) (i:Nat) (c:Int),i<l.length→mu (l.set i c)+qZ (l.getD i (-1))=mu l+qZ c
 | [],i,c,h=>by simp at h
 |v::l,0,c,_=>by simp only[List.set_cons_zero,mu,List.getD_cons_zero];omega
 |v::l,i+1,c,h=>by
  have:=oK l i c (by simpa using h)
  simp only[List.set_cons_succ,mu,List.getD_cons_succ]
  omega
structure Inv (T:aG) (D:List Bool) (n:Nat) (dir:Bool) (out:List Int):Prop where
 len:(out.length:Int)=T.nodes
 root:at' out (n:Int)=0
 ge:∀x:Nat,(x:Int)<T.nodes→ -1≤at' out (x:Int)
 rJ:∀x:Nat,(x:Int)<T.nodes→at' out (x:Int)≤65535*(gx out:Int)
 gI:∀x:Nat,(x:Int)<T.nodes→0≤at' out (x:Int)→x=n∨∃a,a<2*T.ah.length∧cx T dir a=(x:Int)∧Way T D n dir out a∧at' out (bq T dir a)+bo T a≤at' out (x:Int)
def me(T:aG)(D:List Bool)(n:Nat)(dir:Bool)(out:List Int)(a:Nat):Prop:=
 Way T D n dir out a∧(at' out (cx T dir a)<0∨at' out (bq T dir a)+bo T a<at' out (cx T dir a))
def qJ(T:aG)(dir:Bool)(out:List Int)(a:Nat):List Int:=out.set (cx T dir a).toNat (at' out (bq T dir a)+bo T a)
theorem lr(out:List Int)(x y:Nat)(c:Int)(hx:x<out.length):at' (out.set x c) (y:Int)=if y=x then c else at' out (y:Int):=by
 simp only[at',Int.toNat_natCast,List.getD_eq_getElem?_getD,List.getElem?_set]
 by_cases h:x=y
 ·subst h;simp[hx]
 ·rw[if_neg h,if_neg (Ne.symm h)]
theorem pn{T:aG}(hT:Sound T){D:List Bool}{n:Nat}{dir:Bool}{out:List Int}(h:Inv T D n dir out)(a:Nat)(ha:a<2*T.ah.length)(hg:me T D n dir out a):
  Inv T D n dir (qJ T dir out a)∧mu (qJ T dir out a)<mu out:=by
 obtain⟨⟨w1,w2,w3⟩,hb⟩:=hg
 have hc:=hT.cost a ha
 obtain⟨x,hx⟩:=Int.eq_ofNat_of_zero_le (hT.x dir a ha).1
 obtain⟨y,hy⟩:=Int.eq_ofNat_of_zero_le (hT.y dir a ha).1
 have hxn:=(hT.x dir a ha).2
 have hyn:=(hT.y dir a ha).2
 unfold qJ
 rw[hx,hy,Int.toNat_natCast]
 rw[hx,hy]at hb
 rw[hy]at w2 w3
 rw[hx]at hxn
 rw[hy]at hyn
 have hlen:=h.len
 have hxl:x<out.length:=by omega
 generalize hcc:at' out (y:Int)+bo T a=c at*
 have hby:=h.rJ y hyn
 have hxr:x≠n:=fun e=>by
  rw[e,h.root]at hb
  omega
 have hcs:=gS out x c hxl (by omega)
 have hgx:out.getD x (-1)=at' out (x:Int):=by simp[at']
 rw[hgx]at hcs
 have at1:=fun z=>lr out x z c hxl
 have reach:∀z:Nat,(z:Int)<T.nodes→0≤at' out (z:Int)→0≤at' (out.set x c) (z:Int):=fun z _ hz=>by
  rw[at1 z];split<;>omega
 have less:∀z:Nat,(z:Int)<T.nodes→0≤at' out (z:Int)→at' (out.set x c) (z:Int)≤at' out (z:Int):=fun z _ hz=>by
  rw[at1 z]
  split
  ·rename_i e;subst e;omega
  ·omega
 have way:∀b,b<2*T.ah.length→Way T D n dir out b→Way T D n dir (out.set x c) b:=fun b hbl ⟨v1,v2,v3⟩=>by
  obtain⟨z,hz⟩:=Int.eq_ofNat_of_zero_le (hT.y dir b hbl).1
  have hzn:=(hT.y dir b hbl).2
  refine⟨v1,?_,v3⟩
  rw[hz]at v2 hzn ⊢
  exact reach z hzn v2
 refine⟨⟨by rw[List.length_set];exact hlen,?_,fun z hz=>?_,fun z hz=>?_,fun z hz h0=>?_⟩,?_⟩
 ·rw[at1 n,if_neg (Ne.symm hxr)];exact h.root
 ·rw[at1 z];split
  ·omega
  ·exact h.ge z hz
 ·rw[at1 z]
  have hbz:=h.rJ z hz
  have:(gx out:Int)≤(gx (out.set x c):Int):=by rw[hcs];split<;>omega
  split
  ·rw[hcs]
   rename_i e
   subst e
   by_cases hr:0≤at' out (z:Int)
   ·rw[if_pos hr];omega
   ·rw[if_neg hr];omega
  ·omega
 ·by_cases e:z=x
  ·subst e
   refine .inr ⟨a,ha,hx,way a ha ⟨w1,by rw[hy];exact w2,by rw[hy];exact w3⟩,?_⟩
   rw[hy,at1 z,if_pos rfl]
   have:=less y hyn w2
   omega
  ·rw[at1 z,if_neg e]at h0
   rcases h.gI z hz h0 with e2|⟨b,hbl,hbx,hbw,hbe⟩
   ·exact .inl e2
   ·refine .inr ⟨b,hbl,hbx,way b hbl hbw,?_⟩
    rw[at1 z,if_neg e]
    obtain⟨u,hu⟩:=Int.eq_ofNat_of_zero_le (hT.y dir b hbl).1
    have hun:=(hT.y dir b hbl).2
    have hw2:=hbw.2.1
    rw[hu]at hun hbe hw2 ⊢
    have:=less u hun hw2
    omega
 ·have hm:=oK out x c hxl
  rw[hgx]at hm
  have hcl:=gZ out
  have hnn:=hT.nodes
  have hcb:c≤4194240:=by
   rcases hb with hb|hb
   ·have hlt:gx out<out.length:=by
     have:=gZ (out.set x c)
     rw[List.length_set,hcs,if_neg (by omega)]at this
     omega
    omega
   ·have:=h.rJ x hxn;omega
  have hw1:qZ c=c.toNat:=by unfold qZ;rw[if_neg (by omega)]
  have hw2:qZ (at' out (x:Int))=if at' out (x:Int)<0 then 4194241 else(at' out (x:Int)).toNat:=rfl
  rw[hw1,hw2]at hm
  rcases hb with hb|hb
  ·rw[if_pos hb]at hm;omega
  ·by_cases hr:at' out (x:Int)<0
   ·rw[if_pos hr]at hm;omega
   ·rw[if_neg hr]at hm;omega
theorem pf{T:aG}{D:List Bool}{n:Nat}{dir:Bool}{out:List Int}(h:Inv T D n dir out)(hn:∀a,a<2*T.ah.length→¬me T D n dir out a):cW T D n dir out:=by
 have closed:∀a,a<2*T.ah.length→Way T D n dir out a→0≤at' out (cx T dir a)∧at' out (cx T dir a)≤at' out (bq T dir a)+bo T a:=fun a ha hw=>by
  have:=hn a ha
  unfold me at this
  have h2:¬(at' out (cx T dir a)<0∨at' out (bq T dir a)+bo T a<at' out (cx T dir a)):=fun e=>this ⟨hw,e⟩
  omega
 refine⟨h.len,h.root,h.ge,closed,fun x hx h0=>?_⟩
 rcases h.gI x hx h0 with e|⟨a,ha,hax,hw,he⟩
 ·exact .inl e
 ·refine .inr ⟨a,ha,hax,hw,?_⟩
  have:=closed a ha hw
  rw[hax]at this
  omega
def start(N n:Nat):List Int:=(List.replicate N (-1)).set n 0
theorem fE(N n:Nat)(hn:n<N)(x:Nat)(hx:x<N):at' (start N n) (x:Int)=if x=n then 0 else -1:=by
 unfold start
 rw[lr _ n x 0 (by simpa using hn)]
 split
 ·rfl
 ·simp[at',hx]
theorem je{T:aG}{D:List Bool}{N n:Nat}{dir:Bool}(hN:(N:Int)=T.nodes)(hn:n<N):Inv T D n dir (start N n):=by
 have hc:1≤gx (start N n):=by
  unfold start
  rw[gS _ n 0 (by simpa using hn) (by omega)]
  have:(List.replicate N (-1:Int)).getD n (-1)= -1:=by simp[hn]
  rw[this]
  simp
 refine⟨by simp[start];exact hN,by rw[fE N n hn n hn,if_pos rfl],fun x hx=>?_,fun x hx=>?_,fun x hx h0=>?_⟩
 ·rw[fE N n hn x (by omega)];split<;>omega
 ·rw[fE N n hn x (by omega)];split<;>omega
 ·rw[fE N n hn x (by omega)]at h0
  by_cases e:x=n
  ·exact .inl e
  ·rw[if_neg e]at h0;omega
theorem eA{T:aG}(hT:Sound T){D:List Bool}{n:Nat}{dir:Bool}:∀(k:Nat) (out:List Int),mu out=k→Inv T D n dir out→∃out',cW T D n dir out'∧Inv T D n dir out':=by
 intro k
 induction k using Nat.strongRecOn with
 |_ k ih=>
  intro out hk hi
  by_cases h:∃a,a<2*T.ah.length∧me T D n dir out a
  ·obtain⟨a,ha,hg⟩:=h
   obtain⟨h1,h2⟩:=pn hT hi a ha hg
   exact ih _ (by omega) _ rfl h1
  ·exact⟨out,pf hi fun a ha hg=>h ⟨a,ha,hg⟩,hi⟩
theorem kT{T:aG}(hT:Sound T)(D:List Bool){n:Nat}(dir:Bool)(hn:(n:Int)<T.nodes):cW T D n dir (cd T D n dir):=by
 obtain⟨N,hN⟩:=Int.eq_ofNat_of_zero_le (by have:=hT.nodes.1;omega:0≤T.nodes)
 obtain⟨out,ho,_⟩:=eA hT _ (start N n) I (je (D:=D) (dir:=dir) hN.symm (by omega))
 rw[fp hT ho]
 exact ho
theorem mN{T:aG}(hT:Sound T)(D:List Bool){n:Nat}(dir:Bool)(hn:(n:Int)<T.nodes):Inv T D n dir (cd T D n dir):=by
 obtain⟨N,hN⟩:=Int.eq_ofNat_of_zero_le (by have:=hT.nodes.1;omega:0≤T.nodes)
 obtain⟨out,ho,hi⟩:=eA hT _ (start N n) I (je (D:=D) (dir:=dir) hN.symm (by omega))
 rw[fp hT ho]
 exact hi
theorem b7{T:aG}(h:aX T=true):Sound T:=by
 have hb:=eN h
 have lk:∀i,i<T.ah.length→(0≤(ej T.ah i).a∧(ej T.ah i).a<T.nodes)∧(0≤(ej T.ah i).b∧(ej T.ah i).b<T.nodes)∧(1≤(ej T.ah i).c0∧(ej T.ah i).c0≤65535)∧(1≤(ej T.ah i).c1∧(ej T.ah i).c1≤65535):=fun i hi=>by
  have:=lE h i hi
  simp only[eE,bE,a8,Bool.and_eq_true,decide_eq_true_eq]at this
  obtain⟨⟨⟨⟨⟨⟨⟨_,h1⟩,h2⟩,h3⟩,h4⟩,_⟩,_⟩,_⟩:=this
  exact⟨h1,h2,h3,h4⟩
 have fl:∀a,a<2*T.ah.length→flip a<2*T.ah.length:=fun a ha=>by unfold flip;split<;>omega
 have tl:∀a,a<2*T.ah.length→0≤cL T a∧cL T a<T.nodes:=fun a ha=>by
  have:=lk (a / 2) (by omega)
  unfold cL;split
  ·exact this.1
  ·exact this.2.1
 refine⟨fun a ha=>?_,tl,fun a ha=>tl _ (fl a ha),⟨hb.1,hb.2.1⟩⟩
 have:=lk (a / 2) (by omega)
 unfold bo;split
 ·exact this.2.2.1
 ·exact this.2.2.2
end
end Net
end Go.Proofs.YtnegbdpggideiaaDoor
namespace Go.Proofs.YtnegbdpggideiaaDoor
namespace PW
section
open Go.RowKit bm Mem Net
theorem kc(T:aG)(hv:aX T=true):Can Tryd.prog 98 [cj T] (· =jg (cb (bV T) T.nodes.toNat (2*T.ah.length))):=by
 have hbd:=eN hv
 have hS:=b7 hv
 obtain⟨n,hn⟩:∃n:Nat,T.nodes=(n:Int):=⟨T.nodes.toNat,by omega⟩
 rw[show T.nodes.toNat=n by omega]
 refine aY Tryd.func98 I Tryd.ntmps98 I<|ai (.a 2 I<|.k [1] I)<|bp<|aK 2 I<|aO (cF I (aV.rk.get I) I I hn hn ⟨by unfold maxLen;omega,by omega⟩) I<|aK 1 I<|bd [1,3] I ?_
 refine kX 23 3 n ?_
 refine ak<|ai (.a 1 I<|.c rfl (iz T (by omega)) I<|.a 1 I<|.k [1,3,10,11] I)<|aB<|gU [1,3,10,11] I<|bz (fun r s=>∃k,k≤2*T.ah.length∧r=2*T.ah.length - k∧s=⟨[(1,.bT (eo T) 0),(3,.own 0),(10,num (2*(T.ah.length:Int))),(11,num k)],eP 23 3 (cb (bV T) n k)⟩) (2*T.ah.length) ⟨0,by omega,by omega,by rw[lF];rfl⟩ ?_
 rintro r s ⟨k,hk,rfl,rfl⟩
 refine ai (.a 1 I<|.k [1,3,10,11,12] I)<|ak<|aq I (fun hc=>?_) (fun hc=>?_)
 ·have hlt:k<2*T.ah.length:=by have:=of_decide_eq_true hc;omega
  obtain⟨hd0,hhN⟩:=hS.head k hlt
  obtain⟨m,hm⟩:=Int.eq_ofNat_of_zero_le hd0
  have hmn:m<n:=by omega
  have hrl:=eS (bV T) n k
  have hgl:((cb (bV T) n k).getD m []).length≤k:=by
   rw[gg _ _ _ _ hmn]
   simp only[List.length_map]
   exact Nat.le_trans (List.length_filter_le _ _) (by simp)
  refine au<|ak<|aB<|ai (.a 2 I<|.k [1,3,4,10,11] I)<|ai (.a 2 I<|.c rfl (hm▸kO T k hlt (by omega)) I<|.a 1 I<|.k [1,3,4,5,10,11] I)<|a6<|aK 4 I<|an (bf (m) I) I<|an (aN I (fx _ m (by omega))) I<|aK 2 I<|aO (ax I (aV.rk.get I) I (ft _ _ _ m (by omega)) I I ⟨by unfold maxLen;omega,by omega⟩) I<|an (bf (m) I) I<|bc (fv I (aV.tk.get I) I I I (by show m<(cz _).length;simp[cz];omega)) I I<|bd [1,3,10,11] I ?_
  refine b0 (pD (cb (bV T) n k).length m) (.cons 1 I Ren.pure<|.cons 3 I (Ren.own (i:=0) I)<|.cons 10 I Ren.pure<|.cons 11 I Ren.pure<|.nil) (po 23 3 (cb (bV T) n k) m (by omega) (k:Int)) (mY _ _) I ?_
  rw[←lZ (bV T) n k m hm hmn]
  refine aE (.v (bA I) I<|.a 1 I<|.k [1,3,10,11] I) ?_
  exact⟨2*T.ah.length - (k+1),by omega,k+1,by omega,rfl,rfl⟩
 ·have hke:k=2*T.ah.length:=by have:=of_decide_eq_false hc;omega
  subst hke
  exact bh<|ai (.a 2 I<|.k [2] I)<|aF<|⟨_,_,aL.of I,oz _ _ _,rfl⟩
end
end PW
end Go.Proofs.YtnegbdpggideiaaDoor
namespace Go.Proofs.YtnegbdpggideiaaDoor
namespace Net
section
structure k9 (T:aG) (D:List Bool) (n:Nat) (dir:Bool) (out K:List Int) (H:Nat→Prop) (S:Nat→Prop):Prop where
 len:(out.length:Int)=T.nodes
 ge:∀x:Nat,(x:Int)<T.nodes→ -1≤at' out (x:Int)
 root:at' out (n:Int)=0∨(H n∧K.getD n 0=0)
 gJ:∀y,H y→(y:Int)<T.nodes∧at' out (y:Int)= -1
 mono:∀x y:Nat,(x:Int)<T.nodes→H y→at' out (x:Int)≤K.getD y 0
 gu:∀y,H y→(y=n∧K.getD y 0=0)∨∃a,a<2*T.ah.length∧cx T dir a=(y:Int)∧Way T D n dir out a∧K.getD y 0=at' out (bq T dir a)+bo T a
 gI:∀x:Nat,(x:Int)<T.nodes→0≤at' out (x:Int)→x=n∨∃a,a<2*T.ah.length∧cx T dir a=(x:Int)∧Way T D n dir out a∧at' out (x:Int)=at' out (bq T dir a)+bo T a
 closed:∀a,a<2*T.ah.length→¬S a→Way T D n dir out a→(0≤at' out (cx T dir a)∧at' out (cx T dir a)≤at' out (bq T dir a)+bo T a)∨(H (cx T dir a).toNat∧K.getD (cx T dir a).toNat 0≤at' out (bq T dir a)+bo T a)
 ub:∀x:Nat,(x:Int)<T.nodes→at' out (x:Int)≤65535*(gx out:Int)
 qI:∀y,H y→K.getD y 0≤65535*(gx out:Int)
theorem k9.key{T:aG}(hT:Sound T){D:List Bool}{n:Nat}{dir:Bool}{out K:List Int}{H S:Nat→Prop}(h:k9 T D n dir out K H S){y:Nat}(hy:H y):0≤K.getD y 0:=by
 rcases h.gu y hy with⟨_,h0⟩|⟨a,ha,_,hw,he⟩
 ·omega
 ·have:=hT.cost a ha
  have:=hw.2.1
  omega
theorem qD(L:List Int)(i j:Nat)(c:Int)(hi:i<L.length):(L.set i c).getD j 0=if j=i then c else L.getD j 0:=by
 by_cases h:j=i
 ·subst h;simp[List.getD_eq_getElem?_getD,hi]
 ·simp[List.getD_eq_getElem?_getD,List.getElem?_set,Ne.symm h,h]
theorem mF(N:Nat):gx (List.replicate N (-1))=0:=by
 induction N with
 |zero=>rfl
 |succ N ih=>rw[List.replicate_succ];simp[gx,ih]
theorem ik(N x:Nat):at' (List.replicate N (-1)) (x:Int)= -1:=by
 unfold at'
 rw[List.getD_eq_getElem?_getD,List.getElem?_replicate]
 split<;>rfl
theorem mZ{T:aG}{D:List Bool}{N n:Nat}{dir:Bool}(hN:(N:Int)=T.nodes)(hn:n<N){K:List Int}{H:Nat→Prop}(hK:K.getD n 0=0)(hH:∀y,H y↔y=n):k9 T D n dir (List.replicate N (-1)) K H (fun _=>False) where
 len:=by simpa using hN
 ge x _:=by rw[ik];omega
 root:=.inr ⟨(hH n).2 rfl,hK⟩
 gJ y hy:=by have:=(hH y).1 hy;subst this;exact⟨by omega,ik N y⟩
 mono x y _ hy:=by have:=(hH y).1 hy;subst this;rw[ik,hK];omega
 gu y hy:=by have:=(hH y).1 hy;subst this;exact .inl ⟨rfl,hK⟩
 gI x _ h:=by rw[ik]at h;omega
 closed a _ _ hw:=by
  have:=hw.2.1
  have h2:at' (List.replicate N (-1)) (bq T dir a)= -1:=by
   unfold at'
   rw[List.getD_eq_getElem?_getD,List.getElem?_replicate]
   split<;>rfl
  rw[h2]at this;omega
 ub x _:=by rw[ik,mF];omega
 qI y hy:=by have:=(hH y).1 hy;subst this;rw[hK,mF];omega
theorem py{T:aG}(hT:Sound T){D:List Bool}{n:Nat}{dir:Bool}{out K:List Int}{H:Nat→Prop}(h:k9 T D n dir out K H (fun _=>False)){i:Nat}(hi:H i)(hmin:∀j,H j→K.getD i 0≤K.getD j 0)(hKl:i<K.length){H':Nat→Prop}(hH':∀j,H' j↔H j∧j≠i):
  k9 T D n dir (out.set i (K.getD i 0)) (K.set i 0) H' (fun a=>bq T dir a=(i:Int))∧gx (out.set i (K.getD i 0))=gx out+1∧(∀x:Nat,(x:Int)<T.nodes→at' (out.set i (K.getD i 0)) (x:Int)≤K.getD i 0)∧at' (out.set i (K.getD i 0)) (i:Int)=K.getD i 0∧0≤K.getD i 0∧K.getD i 0≤65535*(gx out:Int):=by
 obtain⟨hin,hineg⟩:=h.gJ i hi
 have hil:i<out.length:=by have:=h.len;omega
 have hd:=h.key hT hi
 have hdu:=h.qI i hi
 have hat:=fun x:Nat=>lr out i x (K.getD i 0) hil
 have hK:∀j,j≠i→(K.set i 0).getD j 0=K.getD j 0:=fun j hj=>by rw[qD _ _ _ _ hKl,if_neg hj]
 have hcnt:gx (out.set i (K.getD i 0))=gx out+1:=by
  rw[gS out i _ hil hd,if_neg]
  have:out.getD i (-1)=at' out (i:Int):=by simp[at']
  rw[this,hineg];omega
 have hy:∀a,a<2*T.ah.length→Way T D n dir out a→Way T D n dir (out.set i (K.getD i 0)) a∧at' (out.set i (K.getD i 0)) (bq T dir a)=at' out (bq T dir a):=fun a ha hw=>by
  obtain⟨y,hy⟩:=Int.eq_ofNat_of_zero_le (hT.y dir a ha).1
  have hne:y≠i:=fun e=>by
   have:=hw.2.1
   rw[hy,e,hineg]at this;omega
  have e1:at' (out.set i (K.getD i 0)) (bq T dir a)=at' out (bq T dir a):=by rw[hy,hat y,if_neg hne]
  exact⟨⟨hw.1,by rw[e1];exact hw.2.1,hw.2.2⟩,e1⟩
 refine⟨⟨by simpa using h.len,fun x hx=>?_,?_,fun y hy'=>?_,fun x y hx hy'=>?_,fun y hy'=>?_,fun x hx h0=>?_,fun a ha hs hw=>?_,fun x hx=>?_,fun y hy'=>?_⟩,hcnt,fun x hx=>?_,by rw[hat i,if_pos rfl],hd,hdu⟩
 ·rw[hat x];split
  ·omega
  ·exact h.ge x hx
 ·by_cases e:n=i
  ·subst e
   left
   rw[hat n,if_pos rfl]
   rcases h.root with h0|⟨_,h0⟩
   ·omega
   ·exact h0
  ·rcases h.root with h0|⟨h1,h0⟩
   ·left;rw[hat n,if_neg e];exact h0
   ·right;exact⟨(hH' n).2 ⟨h1,e⟩,by rw[hK n e];exact h0⟩
 ·obtain⟨h1,h2⟩:=(hH' y).1 hy'
  obtain⟨h3,h4⟩:=h.gJ y h1
  exact⟨h3,by rw[hat y,if_neg h2];exact h4⟩
 ·obtain⟨h1,h2⟩:=(hH' y).1 hy'
  rw[hat x,hK y h2]
  split
  ·exact hmin y h1
  ·exact h.mono x y hx h1
 ·obtain⟨h1,h2⟩:=(hH' y).1 hy'
  rw[hK y h2]
  rcases h.gu y h1 with h3|⟨a,ha,hx,hw,he⟩
  ·exact .inl h3
  ·obtain⟨k1,k2⟩:=hy a ha hw
   exact .inr ⟨a,ha,hx,k1,by rw[k2];exact he⟩
 ·rw[hat x]at h0 ⊢
  by_cases e:x=i
  ·subst e
   rw[if_pos rfl]
   rcases h.gu x hi with⟨h3,_⟩|⟨a,ha,hx,hw,he⟩
   ·exact .inl h3
   ·obtain⟨k1,k2⟩:=hy a ha hw
    exact .inr ⟨a,ha,hx,k1,by rw[k2];exact he⟩
  ·rw[if_neg e]at h0 ⊢
   rcases h.gI x hx h0 with h3|⟨a,ha,hx,hw,he⟩
   ·exact .inl h3
   ·obtain⟨k1,k2⟩:=hy a ha hw
    exact .inr ⟨a,ha,hx,k1,by rw[k2];exact he⟩
 ·obtain⟨y,hya⟩:=Int.eq_ofNat_of_zero_le (hT.y dir a ha).1
  have hne:y≠i:=fun e=>hs (by rw[hya,e])
  have e1:at' (out.set i (K.getD i 0)) (bq T dir a)=at' out (bq T dir a):=by rw[hya,hat y,if_neg hne]
  have hw0:Way T D n dir out a:=⟨hw.1,by rw[←e1];exact hw.2.1,hw.2.2⟩
  obtain⟨x,hxa⟩:=Int.eq_ofNat_of_zero_le (hT.x dir a ha).1
  have hc:=h.closed a ha (fun f=>f) hw0
  rw[e1]
  rw[hxa]at hc ⊢
  rw[Int.toNat_natCast]at hc ⊢
  rw[hat x]
  by_cases e:x=i
  ·subst e
   left
   rw[if_pos rfl]
   rcases hc with⟨h1,_⟩|⟨_,h2⟩
   ·rw[hineg]at h1;omega
   ·exact⟨hd,h2⟩
  ·rw[if_neg e]
   rcases hc with h1|⟨h1,h2⟩
   ·exact .inl h1
   ·exact .inr ⟨(hH' x).2 ⟨h1,e⟩,by rw[hK x e];exact h2⟩
 ·rw[hat x,hcnt]
  split
  ·omega
  ·have:=h.ub x hx;omega
 ·obtain⟨h1,h2⟩:=(hH' y).1 hy'
  rw[hK y h2,hcnt]
  have:=h.qI y h1;omega
 ·rw[hat x]
  split
  ·omega
  ·exact h.mono x i hx hi
theorem nW{T:aG}{D:List Bool}{n:Nat}{dir:Bool}{out K:List Int}{H:Nat→Prop}{i:Nat}(h:k9 T D n dir out K H (fun a=>bq T dir a=(i:Int)))(hi:i≠n)(ho:dM T i=true):k9 T D n dir out K H (fun _=>False):=
 {h with closed:=fun a ha _ hw=>h.closed a ha (fun e=>by
   rcases hw.2.2 with h1|h1
   ·rw[h1]at e;exact hi (by omega)
   ·rw[e,Int.toNat_natCast,ho]at h1;cases h1) hw}
theorem l7{T:aG}{D:List Bool}{n:Nat}{dir:Bool}{out K:List Int}{H S S':Nat→Prop}(h:k9 T D n dir out K H S){a:Nat}(hS:∀b,b<2*T.ah.length→S b→S' b∨b=a)
  (hc:Way T D n dir out a→(0≤at' out (cx T dir a)∧at' out (cx T dir a)≤at' out (bq T dir a)+bo T a)∨(H (cx T dir a).toNat∧K.getD (cx T dir a).toNat 0≤at' out (bq T dir a)+bo T a)):k9 T D n dir out K H S':=
 ⟨h.len,h.ge,h.root,h.gJ,h.mono,h.gu,h.gI,fun b hb hs hw=>by
   by_cases e:b=a
   ·subst e
    exact hc hw
   ·exact h.closed b hb (fun hb'=>(hS b hb hb').elim hs e) hw,h.ub,h.qI⟩
theorem pJ{T:aG}(hT:Sound T){D:List Bool}{n:Nat}{dir:Bool}{out K:List Int}{H H' S S':Nat→Prop}(h:k9 T D n dir out K H S){a m:Nat}(ha:a<2*T.ah.length)(hS:∀b,b<2*T.ah.length→S b→S' b∨b=a)
  (hw:Way T D n dir out a) (hm:cx T dir a=(m:Int)) (gJ:at' out (m:Int)<0) (htop:∀x:Nat,(x:Int)<T.nodes→at' out (x:Int)≤at' out (bq T dir a)) (hub:at' out (bq T dir a)+65535≤65535*(gx out:Int))
  (hnew:¬H m∨at' out (bq T dir a)+bo T a<K.getD m 0) (hml:m<K.length) (hH':∀j,H' j↔H j∨j=m):
  k9 T D n dir out (K.set m (at' out (bq T dir a)+bo T a)) H' S':=by
 have hc:=hT.cost a ha
 have hmN:(m:Int)<T.nodes:=by have:=(hT.x dir a ha).2;omega
 have hK:∀j,(K.set m (at' out (bq T dir a)+bo T a)).getD j 0=if j=m then at' out (bq T dir a)+bo T a else K.getD j 0:=fun j=>qD _ _ _ _ hml
 have hy0:=hw.2.1
 refine⟨h.len,h.ge,?_,fun y hy=>?_,fun x y hx hy=>?_,fun y hy=>?_,h.gI,fun b hb hs hwb=>?_,h.ub,fun y hy=>?_⟩
 ·rcases h.root with h0|⟨h1,h0⟩
  ·exact .inl h0
  ·right
   refine⟨(hH' n).2 (.inl h1),?_⟩
   rw[hK n,if_neg,h0]
   intro e
   subst e
   rcases hnew with h2|h2
   ·exact h2 h1
   ·omega
 ·rcases(hH' y).1 hy with h1|rfl
  ·exact h.gJ y h1
  ·have:=h.ge y hmN
   exact⟨hmN,by omega⟩
 ·rw[hK y]
  have:=htop x hx
  split
  ·omega
  ·rename_i e
   exact h.mono x y hx (((hH' y).1 hy).resolve_right e)
 ·rw[hK y]
  by_cases e:y=m
  ·subst e
   rw[if_pos rfl]
   exact .inr ⟨a,ha,hm,hw,rfl⟩
  ·rw[if_neg e]
   exact h.gu y (((hH' y).1 hy).resolve_right e)
 ·obtain⟨x,hx⟩:=Int.eq_ofNat_of_zero_le (hT.x dir b hb).1
  by_cases e:b=a
  ·subst e
   right
   rw[hm,Int.toNat_natCast]
   exact⟨(hH' m).2 (.inr rfl),by rw[hK m,if_pos rfl];exact Int.le_refl _⟩
  ·have h1:=h.closed b hb (fun hb'=>(hS b hb hb').elim hs e) hwb
   rw[hx,Int.toNat_natCast]at h1 ⊢
   rcases h1 with h1|⟨h1,h2⟩
   ·exact .inl h1
   ·right
    refine⟨(hH' x).2 (.inl h1),?_⟩
    rw[hK x]
    split
    ·rename_i e'
     subst e'
     rcases hnew with h3|h3
     ·exact absurd h1 h3
     ·omega
    ·exact h2
 ·rw[hK y]
  split
  ·omega
  ·rename_i e
   exact h.qI y (((hH' y).1 hy).resolve_right e)
theorem pT{T:aG}{D:List Bool}{n:Nat}{dir:Bool}{out K:List Int}{H:Nat→Prop}(h:k9 T D n dir out K H (fun _=>False))(hH:∀y,¬H y):cW T D n dir out:=
 ⟨h.len,h.root.resolve_right (fun k=>hH n k.1),h.ge,fun a ha hw=>(h.closed a ha (fun f=>f) hw).resolve_right (fun k=>hH _ k.1),h.gI⟩
end
end Net
end Go.Proofs.YtnegbdpggideiaaDoor
namespace Go.Proofs.YtnegbdpggideiaaDoor
namespace PW
section
open Go.RowKit bm Mem Net Heap
theorem pH{N n:Nat}{K P O:List Int}(h:nK N n K P O)(hN:N≤65536){i:Nat}(hi:O.getD 0 0=(i:Int))(j:Nat)(hj:bU O (j:Int)):K.getD i 0≤K.getD j 0:=by
 obtain⟨hP,hO,hK,hH⟩:=h
 obtain⟨p,hp,he⟩:=hj
 have h1:=nm hH p (by omega)
 unfold rk at h1
 rw[hi,he]at h1
 have h2:=hP.item p hp
 have:=oh (by omega) (by omega) h1
 simpa using this
theorem qe(N:Nat):nK N 0 (List.replicate N 0) (List.replicate N 0) []:=
 ⟨⟨by simp,fun p hp=>by simp at hp,fun i hi=>.inl (by simp[List.getD_eq_getElem?_getD,List.getElem?_replicate,hi])⟩,rfl,by simp,fun q _ hq=>by omega⟩
theorem lp{P:Program}{M:Nat}{c:Code}{t:aZ}{Q:Exit→St→Prop}{b:Bool}{d:Option cI}{N n:Nat}{K Pl O:List Int}(hd:gC d)(hT:gb [0,1,2,3,5] t t)(h:W P M 0 c ⟨t,cY false d N n K Pl O⟩ Q):W P M 0 c ⟨t,cY b d N n K Pl O⟩ Q:=by
 cases b
 ·exact h
 ·exact b0 [0,1,2,3,5] hT (.same hd rfl<|.kept rfl (.cells (aw.cons (Ren.own (i:=2) I)<|aw.cons (Ren.own (i:=3) I)<|aw.cons (Ren.own (i:=4) I) aw.nil))<|.kept rfl (.row aw.pure)<|.kept rfl (.row aw.pure)<|.kept rfl (.row aw.pure)<|.nil) I I h
theorem cE{P:Program}{M L:Nat}{c:Code}{t:aZ}{Q:Exit→St→Prop}{σ σ':bt}(he:σ=σ')(h:W P M L c ⟨t,σ'⟩ Q):W P M L c ⟨t,σ⟩ Q:=by subst he;exact h
theorem pC{N n:Nat}(d:Option cI)(hd:gC d)(K P O:List Int)(h:nK N n K P O)(hN:N≤65536):
  bG Tryd.prog 110 [.ptr 1 0] (cY false d N n K P O) (fun r σ'=>∃(b ok:Bool) (i n':Nat) (key:Int) (K' P' O':List Int),r= .tuple [num i,num key,flag ok]∧σ'=cY b d N n' K' P' O'∧
   ((ok=false∧n=0)∨(ok=true∧i<N∧bU O (i:Int)∧(∀j:Nat,bU O (j:Int)→K.getD i 0≤K.getD j 0)∧key=K.getD i 0∧K'=K.set i 0∧nK N n' K' P' O'∧∀j:Nat,bU O' (j:Int)↔bU O (j:Int)∧j≠i))):=by
 refine(p8 d hd K P O h hN).mono fun r σ' hr=>?_
 rcases hr with⟨h1,rfl,rfl⟩|⟨n',i,P',O',h1,h2,h3,rfl,rfl,h4,h5⟩
 ·exact⟨false,false,0,n,0,K,P,O,rfl,rfl,.inl ⟨rfl,h1⟩⟩
 ·refine⟨true,true,i,n',K.getD i 0,K.set i 0,P',O',rfl,rfl,.inr ⟨rfl,h2,⟨0,by have:=h.2.1;omega,h3⟩,pH h hN h3,rfl,rfl,h4,fun j=>(h5 j).trans ?_⟩⟩
  constructor<;>rintro⟨a,b⟩<;>exact⟨a,by omega⟩
def eW(T:aG)(D:List Bool)(n:Nat)(f1 f2:FuncId)(cap1 cap2:List PV):List PV:=[.raw (.int .i64 T.nodes),ca T.over,.slice T.ah.length (dx T.ah),ca D,num n,.func f1 cap1,.func f2 cap2]
instance (T:aG) (D:List Bool) (n:Nat) (f1 f2:FuncId) (cap1 cap2:List PV) [ao cap1] [ao cap2]:ao (eW T D n f1 f2 cap1 cap2):=by unfold eW;infer_instance
def bb(T:aG)(dir:Bool)(i:Nat):List Int:=((List.range (2*T.ah.length)).filter fun a=>decide (bq T dir a=(i:Int))).map Int.ofNat
theorem iJ(T:aG)(dir:Bool)(i:Nat)(a:Nat):(a:Int)∈bb T dir i↔a<2*T.ah.length∧bq T dir a=(i:Int):=by
 unfold bb
 simp only[List.mem_map,List.mem_filter,List.mem_range,decide_eq_true_eq]
 constructor
 ·rintro⟨b,h,e⟩
  have:b=a:=Int.ofNat.inj e
  subst this;exact h
 ·intro h;exact⟨a,h,rfl⟩
theorem lJ(T:aG)(dir:Bool)(i k:Nat)(h:k<(bb T dir i).length):∃a:Nat,(bb T dir i).getD k 0=(a:Int)∧a<2*T.ah.length∧bq T dir a=(i:Int):=by
 have hm:(bb T dir i).getD k 0∈bb T dir i:=cA h
 have:∃a:Nat,(bb T dir i).getD k 0=(a:Int):=by
  unfold bb at hm ⊢
  obtain⟨b,_,e⟩:=List.mem_map.1 hm
  exact⟨b,e.symm⟩
 obtain⟨a,ha⟩:=this
 rw[ha]at hm
 exact⟨a,ha,(iJ T dir i a).1 hm⟩
theorem lz(T:aG)(dir:Bool)(i:Nat):(bb T dir i).length≤2*T.ah.length:=by
 unfold bb
 rw[List.length_map]
 exact Nat.le_trans (List.length_filter_le _ _) (by simp)
theorem nP(N k:Nat)(h:k<N):(List.replicate k (-1:Int)++List.replicate (N - k) 0).set k (-1)=List.replicate (k+1) (-1)++List.replicate (N - (k+1)) 0:=by
 rw[List.set_append_right _ _ (by simp),List.length_replicate,Nat.sub_self,show N - k=(N - (k+1))+1 by omega,List.replicate_succ,List.set_cons_zero,List.replicate_succ',List.append_assoc]
 rfl
theorem gX(N:Nat):cw [.raw (.int .i64 0)] N=aS (List.replicate 0 (-1)++List.replicate (N - 0) 0):=by simpa using bn N
theorem dY(n:Nat)(L:List Int):gC (some (.row 3 1 n (aS L))):=fun b h=>by
 cases h
 exact inferInstanceAs (ao (aS L))
theorem qV{σ:bt}{K P O:List Int}(h:aW σ (.ptr 1 0) (k0 K P O))(p:Int):aI σ ([.ptr 1 0,num p]++[]) [k0 K P O,num p]:=aI.cons h (aI.cons aW.pure aI.nil)
set_option maxHeartbeats 4000000 in
theorem qf(T:aG)(D:List Bool)(n:Nat)(dir:Bool)(f1 f2:FuncId)(cap1 cap2:List PV)[ao cap1][ao cap2](hv:aX T=true)(hf:da T D=true)(hn:(n:Int)<T.nodes)(he1:enters Tryd.prog f1=true)(he2:enters Tryd.prog f2=true)
  (h1:∀i:Nat,(i:Int)<T.nodes→Can Tryd.prog f1 ([num i]++cap1) (· =aR (bb T dir i))) (h2:∀a:Nat,a<2*T.ah.length→Can Tryd.prog f2 ([num a]++cap2) (· =num (cx T dir a))):
  Can Tryd.prog 101 [.agg (eW T D n f1 f2 cap1 cap2)] (· =aR (cd T D n dir)):=by
 have hbd:=eN hv
 have hS:=b7 hv
 obtain⟨N,hN⟩:∃N:Nat,T.nodes=(N:Int):=⟨T.nodes.toNat,by omega⟩
 have hN64:N≤64:=by have:=hS.nodes;omega
 have hnN:n<N:=by omega
 refine aY Tryd.func101 I Tryd.ntmps101 I<|ai (.a 2 I<|.k [1] I)<|bp<|aK 3 I<|aO (cF I (aV.rk.get I) I I hN hN ⟨by unfold maxLen;omega,by omega⟩) I<|aK 1 I<|bd [1,3] I ?_
 refine ak<|ai (.a 3 I<|.k [1,3,21,22] I)<|aB<|gU [1,3,21,22] I<|bz (fun r s=>∃k,k≤N∧r=N - k∧s=⟨[(1,.bT (eW T D n f1 f2 cap1 cap2) 0),(3,.own 0),(21,num N),(22,num k)],[some (.row 3 1 N (aS (List.replicate k (-1)++List.replicate (N - k) 0)))]⟩) N ⟨0,by omega,by omega,by rw[←gX N];rfl⟩ ?_
 rintro r s ⟨k,hk,rfl,rfl⟩
 refine ai (.a 1 I<|.k [1,3,21,22,23] I)<|ak<|aq I (fun hc=>?_) (fun hc=>?_)
 ·have hlt:k<N:=by have:=of_decide_eq_true hc;omega
  refine au<|ak<|aB<|ai (.a 2 I<|.k [1,3,4,21,22] I)<|a6<|aK 2 I<|an (bf (k) I) I<|bc ((by first|exact bF I (aV.tk.get I) I I I (by first|omega|(simp;omega))|exact bC I (aV.tk.get I) I I I (by first|omega|(simp;omega)))) I I<|bd [1,3,21,22] I ?_
  refine cE (σ':=[some (.row 3 1 N (aS (List.replicate (k+1) (-1)++List.replicate (N - (k+1)) 0)))]) (by rw[←nP N k hlt];rfl) ?_
  refine aE (.v (bA I) I<|.a 1 I<|.k [1,3,21,22] I) ?_
  exact⟨N - (k+1),by omega,k+1,by omega,rfl,rfl⟩
 ·have hke:k=N:=by have:=of_decide_eq_false hc;omega
  subst hke
  refine cE (σ':=[some (.row 3 1 k (aS (List.replicate k (-1))))]) (by simp) ?_
  refine bh<|bp<|aK 2 I<|an (aN I ((show some (num T.nodes)=some (num (k:Int)) by rw[hN]))) I<|bQ I I (bG.mono (pK k (some (.row 3 1 k (aS (List.replicate k (-1))))) (dY _ _) (by omega)) (fun _ σ' h=>?_))
  obtain⟨rfl,rfl⟩:=h
  refine aK 5 I<|bd [1,3,5] I ?_
  refine bp<|aK 3 I<|bQ I I (bG.mono (my (some (.row 3 1 k (aS (List.replicate k (-1))))) (dY _ _) _ _ _ (qe k) (by omega) n hnN 0) (fun _ σ' h=>?_))
  obtain⟨b,n1,P1,O1,rfl,hok,hheld⟩:=h
  refine bd [1,3,5] I ?_
  refine lp (dY _ _) (.cons 1 I Ren.pure<|.cons 3 I (Ren.own (i:=0) I)<|.cons 5 I (Ren.ptr (i:=1) I)<|.nil) ?_
  have hD0:=mZ (T:=T) (D:=D) (N:=k) (n:=n) (dir:=dir) hN.symm hnN (K:=(List.replicate k (0:Int)).set n 0) (H:=fun y=>bU O1 (y:Int)) (by rw[qD _ _ _ _ (by simpa using hnN),if_pos rfl]) (fun y=>(hheld y).trans ⟨fun h=>h.elim (fun⟨p,hp,_⟩=>by simp at hp) (fun e=>by omega),fun e=>.inr (by omega)⟩)
  generalize (List.replicate k (0:Int)).set n 0=K1 at hok hD0
  generalize List.replicate k (-1:Int)=out1 at hD0
  clear hheld
  refine aB<|gU [1,3,5] I<|bz (fun r s=>∃out K P O q,k9 T D n dir out K (fun y=>bU O (y:Int)) (fun _=>False)∧nK k q K P O∧r=k+1 - gx out∧s=⟨[(1,.bT (eW T D n f1 f2 cap1 cap2) 0),(3,.own 0),(5,.ptr 1 0)],cY false (some (.row 3 1 k (aS out))) k q K P O⟩) (k+1 - gx out1) ⟨out1,K1,P1,O1,n1,hD0,hok,rfl,rfl⟩ ?_
  clear hD0 hok out1 K1 P1 O1 n1 b
  rintro r s ⟨out,K,P,O,q,hD,hok,rfl,rfl⟩
  refine aB<|bp<|aK 1 I<|bQ I I (bG.mono (pC (some (.row 3 1 k (aS out))) (dY _ _) K P O hok (by omega)) (fun _ σ' h=>?_))
  obtain⟨b,ok,i,n1,key,K1,P1,O1,rfl,rfl,hpop⟩:=h
  refine aK 7 I<|bd [1,3,5,7,8,9] I ?_
  refine lp (dY _ _) (.cons 1 I Ren.pure<|.cons 3 I (Ren.own (i:=0) I)<|.cons 5 I (Ren.ptr (i:=1) I)<|.cons 7 I Ren.pure<|.cons 8 I Ren.pure<|.cons 9 I Ren.pure<|.nil) ?_
  refine ak<|ai (.a 2 I<|.k [1,3,5,7,8,47] I)<|aq I (fun hc=>?_) (fun hc=>?_)
  ·have hok0:ok=false:=by cases ok;rfl;cases hc
   have hq0:q=0:=by
    rcases hpop with⟨_,h⟩|⟨h,_⟩
    ·exact h
    ·rw[hok0]at h;cases h
   have hdist:cd T D n dir=out:=fp hS (pT hD (fun y ⟨p,hp,_⟩=>by have:=hok.2.1;omega))
   exact ai (.a 2 I<|.k [2] I)<|aF<|⟨_,_,aL.of I,aW.gH rfl aI.pure,by rw[hdist];unfold aR;rw[show out.length=k by have:=hD.len;omega]⟩
  ·have hok1:ok=true:=by cases ok;cases hc;rfl
   rcases hpop with⟨h,_⟩|⟨_,hiN,hHi,hmin,rfl,rfl,hok',hH'⟩
   ·rw[hok1]at h;cases h
   obtain⟨hD1,hcnt,htop,hati,hk0,hku⟩:=py hS hD hHi hmin (by rw[hok.2.2.1];exact hiN) hH'
   have hol:out.length=k:=by have:=hD.len;omega
   have hcl:=gZ (out.set i (K.getD i 0))
   have hiT:(i:Int)<T.nodes:=by omega
   refine au<|bp<|aK 3 I<|an (bf (i) I) I<|bc ((by first|exact bF I (aV.tk.get I) I I I (by first|omega|(simp;omega))|exact bC I (aV.tk.get I) I I I (by first|omega|(simp;omega)))) I I<|bd [1,3,5,7,8] I ?_
   refine cE (σ':=cY false (some (.row 3 1 k (aS (out.set i (K.getD i 0))))) k n1 (K.set i 0) P1 O1) I ?_
   have ho1:(out.set i (K.getD i 0)).length=k:=by simpa using hol
   have hmeas:k+1 - gx (out.set i (K.getD i 0))<k+1 - gx out:=by have:=gZ (out.set i (K.getD i 0));omega
   generalize K.getD i 0=d at hD1 hcnt htop hati hk0 hku ho1 hcl hmeas
   generalize out.set i d=out1 at hD1 hcnt htop hati ho1 hcl hmeas
   generalize K.set i 0=K1 at hD1 hok'
   refine ak ?_
   obtain⟨q1,hq1⟩:∃q,decide ((i:Int)≠(n:Int))=q:=⟨_,rfl⟩
   obtain⟨q2,hq2⟩:∃q,dM T i=q:=⟨_,rfl⟩
   have hov:T.over.length=0∨i<T.over.length:=by have:=hbd.2.2.2;omega
   refine b4 62 (.raw (.bool (q1&&q2))) [1,3,5,7,8] I ?_ ?_
   ·refine .a 3 I<|.v (et I (hq1)) I<|.a 1 I<|?_
    cases q1
    ·exact .a 5 I<|.k [62,1,3,5,7,8] I
    ·exact .a 3 I<|.c rfl (hq2▸kM T i hov) I<|.a 1 I<|.k [62,1,3,5,7,8] I
   refine aq I (fun hc=>?_) (fun hc=>?_)
   ·obtain⟨c1,c2⟩:=Bool.and_eq_true_iff.1 hc
    rw[c1]at hq1
    rw[c2]at hq2
    have hDe:=nW hD1 (by have:=of_decide_eq_true hq1;omega) hq2
    refine jJ (.cons (k:=1) I<|.cons (k:=3) I<|.cons (k:=5) I<|Sub.nil _) ?_
    refine bh ?_
    first
     |exact⟨_,hmeas,out1,K2,P2,O2,q2,hDe,hok2,rfl,rfl⟩
     |exact⟨_,hmeas,out1,K1,P1,O1,n1,hDe,hok',rfl,rfl⟩
   ·have hfree:i=n∨dM T i=false:=by
     by_cases e:i=n
     ·exact .inl e
     ·right
      have:q1=true:=by rw[←hq1];simp;omega
      rw[this,Bool.true_and]at hc
      rw[hq2,hc]
    clear hq1 hq2 hc
    refine au<|ai (.a 3 I<|.v (lK I he1 rfl rfl (h1 i hiT)) I<|.a 2 I<|.k [1,3,5,8,66,67,68] I) ?_
    have hll:=lz T dir i
    have hD2:k9 T D n dir out1 K1 (fun y=>bU O1 (y:Int)) (fun a=>bq T dir a=(i:Int)∧(a:Int)∉(bb T dir i).take 0):=⟨hD1.len,hD1.ge,hD1.root,hD1.gJ,hD1.mono,hD1.gu,hD1.gI,fun a ha hs=>hD1.closed a ha (fun e=>hs ⟨e,by simp⟩),hD1.ub,hD1.qI⟩
    refine aB<|gU [1,3,5,8,66,67,68] I<|bz (fun r s=>∃j K P O q,j≤(bb T dir i).length∧k9 T D n dir out1 K (fun y=>bU O (y:Int)) (fun a=>bq T dir a=(i:Int)∧(a:Int)∉(bb T dir i).take j)∧nK k q K P O∧r=(bb T dir i).length - j∧s=⟨[(1,.bT (eW T D n f1 f2 cap1 cap2) 0),(3,.own 0),(5,.ptr 1 0),(8,num d),(66,aR (bb T dir i)),(67,num (bb T dir i).length),(68,num j)],cY false (some (.row 3 1 k (aS out1))) k q K P O⟩) (bb T dir i).length ⟨0,K1,P1,O1,n1,by omega,hD2,hok',rfl,rfl⟩ ?_
    clear hD2 hok' hD1 K1 P1 O1 n1 hH' hmin hHi hD hok
    rintro r s ⟨j,K2,P2,O2,q2,hj,hD2,hok2,rfl,rfl⟩
    refine ai (.a 1 I<|.k [1,3,5,8,66,67,68,69] I)<|ak<|aq I (fun hc=>?_) (fun hc=>?_)
    ·have hlt:j<(bb T dir i).length:=by have:=of_decide_eq_true hc;omega
     obtain⟨a,ha,ham,hay⟩:=lJ T dir i j hlt
     obtain⟨m,hm⟩:=Int.eq_ofNat_of_zero_le (hS.x dir a ham).1
     have hmN:m<k:=by have:=(hS.x dir a ham).2;omega
     have hcb:=hS.cost a ham
     have hDl:D.length=0∨a<D.length:=by simp only[da,decide_eq_true_eq]at hf;omega
     have hSS:∀b,b<2*T.ah.length→(bq T dir b=(i:Int)∧(b:Int)∉(bb T dir i).take j)→(bq T dir b=(i:Int)∧(b:Int)∉(bb T dir i).take (j+1))∨b=a:=fun b _ ⟨e1,e2⟩=>by
      by_cases e:b=a
      ·exact .inr e
      ·left
       refine⟨e1,fun hm'=>?_⟩
       rw[de _ j 0 hlt,ha]at hm'
       rcases List.mem_append.1 hm' with h|h
       ·exact e2 h
       ·simp at h;exact e (by omega)
     have hayi:at' out1 (bq T dir a)=d:=by rw[hay];exact hati
     have hga:out1.getD m 0=at' out1 (m:Int):=by simp[at',List.getD_eq_getElem?_getD,show m<out1.length by omega]
     refine au<|ak<|aB<|ai (.v (bf (j) I) I<|.v (aN I ((aM _ j hlt).trans (by rw[ha]))) I<|.a 1 I<|.k [1,3,5,8,11,66,67,68] I)<|ai (.a 3 I<|.v (lK I he2 rfl rfl (hm▸h2 a ham)) I<|.a 1 I<|.k [1,3,5,8,11,12,66,67,68] I)<|ak ?_
     obtain⟨p1,hp1⟩:∃q,dB D a=q:=⟨_,rfl⟩
     obtain⟨p2,hp2⟩:∃q,decide (0≤out1.getD m 0)=q:=⟨_,rfl⟩
     refine b4 86 (.raw (.bool (p1||p2))) [1,3,5,8,11,12,66,67,68] I ?_ ?_
     ·refine .a 3 I<|.c rfl (hp1▸iI D a hDl) I<|.a 1 I<|?_
      cases p1
      ·exact .a 2 I<|.v (bf (m) I) I<|.v (aN I (aM out1 m (by omega))) I<|.v (et I (hp2)) I<|.a 1 I<|.k [86,1,3,5,8,11,12,66,67,68] I
      ·exact .a 6 I<|.k [86,1,3,5,8,11,12,66,67,68] I
     refine aq I (fun hc=>?_) (fun hc=>?_)
     ·have hD3:=l7 (S':=fun b=>bq T dir b=(i:Int)∧(b:Int)∉(bb T dir i).take (j+1)) hD2 hSS (fun hw=>.inl (by
       rcases Bool.or_eq_true_iff.1 hc with h|h
       ·rw[hw.1]at hp1;rw[h]at hp1;cases hp1
       ·rw[h]at hp2
        have h3:=of_decide_eq_true hp2
        rw[hga]at h3
        rw[hm,hayi]
        have:=htop m (by omega)
        exact⟨h3,by omega⟩))
      refine bh<|aE (.v (bA I) I<|.a 1 I<|.k [1,3,5,8,66,67,68] I) ?_
      first
       |exact⟨(bb T dir i).length - (j+1),by omega,j+1,_,P3,O3,n3,by omega,hD3,hok3,rfl,rfl⟩
       |exact⟨(bb T dir i).length - (j+1),by omega,j+1,K2,P2,O2,q2,by omega,hD3,hok2,rfl,rfl⟩
     ·obtain⟨c1,c2⟩:=Bool.or_eq_false_iff.1 hc
      rw[c1]at hp1
      rw[c2]at hp2
      have hmneg:at' out1 (m:Int)<0:=by have:=of_decide_eq_false hp2;rw[hga]at this;omega
      have hway:Net.Way T D n dir out1 a:=⟨hp1,by rw[hayi];exact hk0,by rw[hay,Int.toNat_natCast];rcases hfree with h|h;(exact .inl (by rw[h]));exact .inr h⟩
      refine au<|ai (.a 4 I<|.c rfl (kq T a ham) I<|.v (bA I) I<|.a 1 I<|.k [1,3,5,8,12,13,66,67,68] I) ?_
      obtain⟨p3,hp3⟩:∃q,(!decide (P2.getD m 0=0))=q:=⟨_,rfl⟩
      obtain⟨kv,hkv⟩:∃z,(if P2.getD m 0=0 then 0 else K2.getD m 0)=z:=⟨_,rfl⟩
      have hkc:=pS K2 P2 O2 hok2.1.len hok2.2.2.1 (by omega) m hmN
      rw[hp3,hkv]at hkc
      refine ai (.a 2 I<|.v (qB I (qV (ib false _ hok2.2.2.1 hok2.1.len hok2.2.1) _) (hkc)) I<|.a 5 I<|.k [1,3,5,8,12,13,14,15,66,67,68] I) ?_
      obtain⟨p4,hp4⟩:∃q,decide (d+bo T a<kv)=q:=⟨_,rfl⟩
      refine b4 105 (.raw (.bool ((!p3)||p4))) [1,3,5,8,12,13,66,67,68] I ?_ ?_
      ·refine .a 3 I<|?_
       cases p3
       ·exact .a 4 I<|.k [105,1,3,5,8,12,13,66,67,68] I
       ·exact .a 2 I<|.v (et I (hp4)) I<|.a 1 I<|.k [105,1,3,5,8,12,13,66,67,68] I
      refine aq I (fun hc=>?_) (fun hc=>?_)
      ·have hnew:¬bU O2 (m:Int)∨at' out1 (bq T dir a)+bo T a<K2.getD m 0:=by
        rw[hayi]
        by_cases e:P2.getD m 0=0
        ·exact .inl ((hok2.1.zero hmN).1 e)
        ·right
         have h3:p3=true:=by rw[←hp3];simp only[e];rfl
         rw[h3]at hc
         have h4:p4=true:=by simpa using hc
         rw[h4]at hp4
         have:=of_decide_eq_true hp4
         rw[if_neg e]at hkv
         omega
       refine a6<|aK 3 I<|bQ I I (bG.mono (my (some (.row 3 1 k (aS out1))) (dY _ _) K2 P2 O2 hok2 (by omega) m hmN (d+bo T a)) (fun _ σ' h=>?_))
       obtain⟨b3,n3,P3,O3,rfl,hok3,hH3⟩:=h
       refine bd [1,3,5,8,66,67,68] I ?_
       refine lp (dY _ _) (.cons 1 I Ren.pure<|.cons 3 I (Ren.own (i:=0) I)<|.cons 5 I (Ren.ptr (i:=1) I)<|.cons 8 I Ren.pure<|.cons 66 I Ren.pure<|.cons 67 I Ren.pure<|.cons 68 I Ren.pure<|.nil) ?_
       have hD3:=pJ (S':=fun b=>bq T dir b=(i:Int)∧(b:Int)∉(bb T dir i).take (j+1)) (H':=fun y=>bU O3 (y:Int)) hS hD2 ham hSS hway hm hmneg (fun x hx=>by rw[hayi];exact htop x hx) (by rw[hayi];omega) hnew (by rw[hok2.2.2.1];exact hmN) (fun y=>(hH3 y).trans ⟨fun h=>h.imp id (fun e=>by omega),fun h=>h.imp id (fun e=>by omega)⟩)
       rw[hayi]at hD3
       refine aE (.v (bA I) I<|.a 1 I<|.k [1,3,5,8,66,67,68] I) ?_
       first
        |exact⟨(bb T dir i).length - (j+1),by omega,j+1,_,P3,O3,n3,by omega,hD3,hok3,rfl,rfl⟩
        |exact⟨(bb T dir i).length - (j+1),by omega,j+1,K2,P2,O2,q2,by omega,hD3,hok2,rfl,rfl⟩
      ·obtain⟨c3,c4⟩:=Bool.or_eq_false_iff.1 hc
       have h3:p3=true:=by cases p3;cases c3;rfl
       rw[h3]at hp3
       rw[c4]at hp4
       have e:P2.getD m 0≠0:=fun e=>by rw[e]at hp3;cases hp3
       have hD3:=l7 (S':=fun b=>bq T dir b=(i:Int)∧(b:Int)∉(bb T dir i).take (j+1)) hD2 hSS (fun hw=>.inr (by
        rw[hm,Int.toNat_natCast,hayi]
        refine⟨Classical.byContradiction fun hh=>e ((hok2.1.zero hmN).2 hh),?_⟩
        rw[if_neg e]at hkv
        have:=of_decide_eq_false hp4
        omega))
       refine au<|aE (.v (bA I) I<|.a 1 I<|.k [1,3,5,8,66,67,68] I) ?_
       first
        |exact⟨(bb T dir i).length - (j+1),by omega,j+1,_,P3,O3,n3,by omega,hD3,hok3,rfl,rfl⟩
        |exact⟨(bb T dir i).length - (j+1),by omega,j+1,K2,P2,O2,q2,by omega,hD3,hok2,rfl,rfl⟩
    ·have hje:j=(bb T dir i).length:=by have:=of_decide_eq_false hc;omega
     have hDe:k9 T D n dir out1 K2 (fun y=>bU O2 (y:Int)) (fun _=>False):=⟨hD2.len,hD2.ge,hD2.root,hD2.gJ,hD2.mono,hD2.gu,hD2.gI,fun a ha _=>hD2.closed a ha (fun⟨e1,e2⟩=>e2 (by rw[hje,List.take_length];exact(iJ T dir i a).2 ⟨ha,e1⟩)),hD2.ub,hD2.qI⟩
     refine jJ (.cons (k:=1) I<|.cons (k:=3) I<|.cons (k:=5) I<|Sub.nil _) ?_
     refine bh ?_
     first
      |exact⟨_,hmeas,out1,K2,P2,O2,q2,hDe,hok2,rfl,rfl⟩
      |exact⟨_,hmeas,out1,K1,P1,O1,n1,hDe,hok',rfl,rfl⟩
end
section
open Go.RowKit bm Mem Net
def mr(T:aG)(D:List Bool)(L:List Int)(dn:Int)(d a:Nat):Bool:=
 !(dB D a||decide (L.getD (bV T a).toNat 0<0)||(decide (bV T a≠(d:Int))&&dM T (bV T a).toNat))&&decide (L.getD (bV T a).toNat 0+bo T a=dn)
def fc(T:aG)(D:List Bool)(L:List Int)(dn:Int)(d:Nat)(l:List Int):List Int:=l.filter fun a=>mr T D L dn d a.toNat
theorem nG(T:aG)(D:List Bool)(L lv:List Int)(n d:Nat)(hv:aX T=true)(hf:da T D=true)(hL:(L.length:Int)=T.nodes)(hub:∀x∈L, -1≤x∧x≤4194240)(hn:(n:Int)<T.nodes)(hd:(d:Int)<T.nodes)
    (hlv:∀a∈lv,0≤a∧a<2*(T.ah.length:Int)) (hll:lv.length≤100000):
    Can Tryd.prog 77 [cj T,ca D,aR L,aR lv,num n,num d] (· =aR (if n=d∨L.getD n 0<0 then [] else fc T D L (L.getD n 0) d lv)):=by
  have hbd:=eN hv
  have hS:=b7 hv
  have hnL:n<L.length:=by omega
  refine aY Tryd.func77 I Tryd.ntmps77 I<|ai (.a 2 I<|.k [1,2,3,4,5,6] I)<|ai (.a 1 I<|.k [1,2,3,4,5,6,13] I) ?_
  obtain⟨q1,hq1⟩:∃q,decide ((n:Int)=(d:Int))=q:=⟨_,rfl⟩
  obtain⟨q2,hq2⟩:∃q,decide (L.getD n 0<0)=q:=⟨_,rfl⟩
  refine ak<|b4 26 (.raw (.bool (q1||q2))) [1,2,3,4,5,6,13] I ?_ ?_
  · refine .a 2 I<|.v (et I (hq1)) I<|.a 1 I<|?_
    cases q1
    · exact .a 2 I<|.v (bf (n) I) I<|.v (aN I (aM L n hnL)) I<|.v (et I (hq2)) I<|.a 1 I<|.k [26,1,2,3,4,5,6,13] I
    · exact .a 6 I<|.k [26,1,2,3,4,5,6,13] I
  refine aq (b:=q1||q2) I (fun hc=>?_) (fun hc=>?_)
  · have:n=d∨L.getD n 0<0:=by
      rcases Bool.or_eq_true_iff.1 hc with h|h
      · rw[h]at hq1;exact .inl (by have:=of_decide_eq_true hq1;omega)
      · rw[h]at hq2;exact .inr (of_decide_eq_true hq2)
    rw[if_pos this]
    refine ai (.a 2 I<|.k [12] I)<|aF ⟨_,_,.cons (.tmp rfl) .nil,aW.cl,rfl⟩
  · obtain ⟨c1, c2⟩ := Bool.or_eq_false_iff.1 hc
    rw[c1]at hq1
    rw[c2]at hq2
    have hnd:¬(n=d∨L.getD n 0<0):=by
      have:=of_decide_eq_false hq1
      have:=of_decide_eq_false hq2
      omega
    rw[if_neg hnd]
    refine au<|ak<|ai (.a 3 I<|.k [1,2,4,5,6,13,28,29,30] I)<|fB 13 3 1 I ?_
    refine aB<|jJ (.cons (k:=1) I<|.cons (k:=2) I<|.cons (k:=4) I<|.cons (k:=5) I<|.cons (k:=6) I<|.cons (k:=13) I<|.cons (k:=28) I<|.cons (k:=29) I<|.cons (k:=30) I<|Sub.nil _) ?_
    refine bz (fun r s=>∃i,i≤lv.length∧r=lv.length - i∧s=⟨[(1,ca D),(2,aR L),(4,num n),(5,num d),(6,.bT (eo T) 0),(13,.own 0),(28,aR lv),(29,num lv.length),(30,num i)],[some (.row 3 1 (fc T D L (L.getD n 0) d (lv.take i)).length (aS (fc T D L (L.getD n 0) d (lv.take i))))]⟩) lv.length ⟨0,by omega,by omega,?_⟩ ?_
    · simp only[List.take_zero,fc,List.filter_nil]
      rfl
    · rintro r s ⟨i,hi,rfl,rfl⟩
      refine ai (.a 1 I<|.k [1,2,4,5,6,13,28,29,30,31] I)<|ak<|aq (b:=decide ((i:Int)<(lv.length:Int))) I (fun hc=>?_) (fun hc=>?_)
      · have hlt:i<lv.length:=by have:=of_decide_eq_true hc;omega
        refine au ?_
        obtain⟨a,ha⟩:∃a:Nat,lv.getD i 0=(a:Int):=Int.eq_ofNat_of_zero_le (hlv _ (cA hlt)).1
        have ham:a<2*T.ah.length:=by
          have:=(hlv (lv.getD i 0) (cA hlt)).2
          omega
        have hstep:fc T D L (L.getD n 0) d (lv.take (i+1))=fc T D L (L.getD n 0) d (lv.take i)++(if mr T D L (L.getD n 0) d a then [(a:Int)] else []):=by
          unfold fc
          rw[List.take_add_one,List.filter_append,show lv[i]? =some (a:Int) by rw[←ha,List.getD_eq_getElem?_getD];simp[hlt]]
          congr 1
          simp only[Option.toList_some,List.filter_cons,List.filter_nil,Int.toNat_natCast]
        have hlen:(fc T D L (L.getD n 0) d (lv.take i)).length≤100000:=Nat.le_trans (List.length_filter_le _ _) (by rw[List.length_take];omega)
        obtain⟨hd0,hhN⟩:=hS.head a ham
        obtain⟨h,hh⟩:=Int.eq_ofNat_of_zero_le hd0
        have hhL:h<L.length:=by omega
        have hub1: -1≤L.getD h 0∧L.getD h 0≤4194240:=hub _ (cA hhL)
        have hcb:=hS.cost a ham
        have hDl:D.length=0∨a<D.length:=by simp only[da,decide_eq_true_eq]at hf;omega
        have hov:T.over.length=0∨h<T.over.length:=by have:=hbd.2.2.2;omega
        refine ak<|aB<|ai (.v (bf (i) I) I<|.v (aN I ((aM lv i hlt).trans (by rw[ha]))) I<|.a 1 I<|.k [1,2,4,5,6,13,15,28,29,30] I)<|ai (.a 2 I<|.c rfl (hh▸kO T a ham (by omega)) I<|.a 1 I<|.k [1,2,4,5,6,13,15,16,28,29,30] I) ?_
        obtain⟨p1,hp1⟩:∃q,dB D a=q:=⟨_,rfl⟩
        obtain⟨p2,hp2⟩:∃q,decide (L.getD h 0<0)=q:=⟨_,rfl⟩
        obtain⟨p3,hp3⟩:∃q,decide ((h:Int)≠(d:Int))=q:=⟨_,rfl⟩
        obtain⟨p4,hp4⟩:∃q,dM T h=q:=⟨_,rfl⟩
        obtain⟨p5,hp5⟩:∃q,decide (L.getD h 0+bo T a=L.getD n 0)=q:=⟨_,rfl⟩
        have hpass:mr T D L (L.getD n 0) d a=(!((p1||p2)||(p3&&p4))&&p5):=by
          unfold mr;rw[hh,Int.toNat_natCast,hp1,hp2,hp3,hp4,hp5]
        refine ak<|b4 56 (.raw (.bool ((p1||p2)||(p3&&p4)))) [1,2,4,5,6,13,15,16,28,29,30] I ?_ ?_
        · refine .a 2 I<|.c rfl (hp1▸iI D a hDl) I<|.a 1 I<|?_
          cases p1
          · refine .a 2 I<|.v (bf (h) I) I<|.v (aN I (aM L h hhL)) I<|.v (et I (hp2)) I<|.a 2 I<|?_
            cases p2
            · refine .a 2 I<|.v (et I (hp3)) I<|.a 1 I<|?_
              cases p3
              · exact .a 5 I<|.k [56,1,2,4,5,6,13,15,16,28,29,30] I
              · exact .a 2 I<|.c rfl (hp4▸kM T h hov) I<|.a 2 I<|.k [56,1,2,4,5,6,13,15,16,28,29,30] I
            · exact .a 9 I<|.k [56,1,2,4,5,6,13,15,16,28,29,30] I
          · exact .a 16 I<|.k [56,1,2,4,5,6,13,15,16,28,29,30] I
        refine aq (b:=(p1||p2)||(p3&&p4)) I (fun hc=>?_) (fun hc=>?_)
        · rw[hc]at hpass
          refine bh<|aE (.v (bA I) I<|.a 1 I<|.k [1,2,4,5,6,13,28,29,30] I) ?_
          refine⟨lv.length - (i+1),by omega,i+1,by omega,rfl,?_⟩
          rw[hstep,hpass]
          simp only[Bool.not_true,Bool.false_and,Bool.false_eq_true,if_false,List.append_nil]
          rfl
        · rw[hc]at hpass
          refine au<|fa mixed (by kernel_rfl) (.a 2 I<|.v [57,58] (bf (h) I) I I<|.v [59] (aN I (aM L h hhL)) I I<|.a 2 I<|.v [61,62] (cH I (kq T a ham)) I I<|.v [60,63] (bA I) I I<|.a 2 I<|.v [65,66] (bf (n) I) I I<|.v [67] (aN I (aM L n hnL)) I I<|.v [64,68] (et I (hp5)) I I<|.k [1,2,4,5,6,13,15,28,29,30,69] I) ?_
          refine aq (b:=p5) I (fun hc5=>?_) (fun hc5=>?_)
          · rw[hc5]at hpass
            refine a6<|aK 3 I<|aO (ax I (aV.rk.get I) I I I I (by unfold maxLen;omega)) I<|aK 1 I ?_
            refine c5 [1] (.c 1<|.c 2<|.c 4<|.c 5<|.c 6<|.c 13<|.c 28<|.c 29<|.c 30<|.nil) (.kept rfl (.du rfl (dj _ _))<|.nil) I I (ab ?_)
            refine aE (.v (bA I) I<|.a 1 I<|.k [1,2,4,5,6,13,28,29,30] I) ?_
            refine⟨lv.length - (i+1),by omega,i+1,by omega,rfl,?_⟩
            rw[hstep,hpass]
            simp only[Bool.not_false,Bool.true_and,if_true,List.length_append,List.length_singleton]
            rfl
          · rw[hc5]at hpass
            refine au<|aE (.v (bA I) I<|.a 1 I<|.k [1,2,4,5,6,13,28,29,30] I) ?_
            refine⟨lv.length - (i+1),by omega,i+1,by omega,rfl,?_⟩
            rw[hstep,hpass]
            simp only[Bool.not_false,Bool.true_and,Bool.false_eq_true,if_false,List.append_nil]
            rfl
      · have:i=lv.length:=by have:=of_decide_eq_false hc;omega
        subst this
        rw[List.take_length]
        exact bh<|ai (.a 2 I<|.k [12] I)<|aF ⟨_,_,.cons (.tmp rfl) .nil,aW.gH rfl aI.pure,rfl⟩
open Heap
def cG(T:aG)(D:List Bool)(ns:List Int):Int:=if aX T&&da T D then(if ns.all (bE T) then 0 else 2) else 1
theorem mO(T:aG)(D:List Bool)(ns:List Int)(hns:ns.length≤1000):Can Tryd.prog 97 [cj T,ca D,aR ns] (· =num (cG T D ns)):=by
 refine aY Tryd.func97 I Tryd.ntmps97 I<|ai (.a 2 I<|.k [1,2,3] I)<|ak ?_
 obtain⟨q1,hq1⟩:∃q,aX T=q:=⟨_,rfl⟩
 obtain⟨q2,hq2⟩:∃q,da T D=q:=⟨_,rfl⟩
 refine b4 17 (.raw (.bool ((!q1)||(!q2)))) [2,3] I ?_ ?_
 ·refine .a 1 I<|.c rfl (hq1▸jk T) I<|.a 2 I<|?_
  cases q1
  ·exact .a 5 I<|.k [17,2,3] I
  ·exact .a 2 I<|.c rfl (hq2▸kD T D (by have:=fy hq1;omega)) I<|.a 2 I<|.k [17,2,3] I
 refine aq I (fun hc=>?_) (fun hc=>?_)
 ·have hch:cG T D ns=1:=by
   unfold cG
   rw[hq1,hq2,if_neg]
   revert hc
   cases q1<;>cases q2<;>simp
  exact ai (.a 1 I<|.k [6] I)<|aF<|⟨_,_,aL.of I,aW.pure,by rw[hch];rfl⟩
 ·have hok:(aX T&&da T D)=true:=by
   rw[hq1,hq2]
   revert hc
   cases q1<;>cases q2<;>simp
  refine au<|ak<|ai (.a 3 I<|.k [3,18,19,20] I)<|aB<|gU [3,18,19,20] I<|bz (fun r s=>∃i,i≤ns.length∧(ns.take i).all (bE T)=true∧r=ns.length - i∧s=⟨[(3,.bT (eo T) 0),(18,aR ns),(19,num ns.length),(20,num i)],[]⟩) ns.length ⟨0,by omega,by simp,by omega,rfl⟩ ?_
  rintro r s ⟨i,hi,hall,rfl,rfl⟩
  refine ai (.a 1 I<|.k [3,18,19,20,21] I)<|ak<|aq I (fun hc=>?_) (fun hc=>?_)
  ·have hlt:i<ns.length:=by have:=of_decide_eq_true hc;omega
   refine au<|ak<|aB<|ai (.v (bf (i) I) I<|.v (aN I (aM ns i hlt)) I<|.a 1 I<|.k [3,8,18,19,20] I)<|ai (.a 2 I<|.c rfl (eQ T _) I<|.a 1 I<|.k [3,18,19,20,27] I)<|aq I (fun hc=>?_) (fun hc=>?_)
   ·have hch:cG T D ns=2:=by
     unfold cG
     rw[if_pos hok,if_neg]
     intro h
     have h1:=List.all_eq_true.1 h _ (cA (d:=0) hlt)
     rw[h1]at hc
     cases hc
    exact ai (.a 1 I<|.k [6] I)<|aF<|⟨_,_,aL.of I,aW.pure,by rw[hch];rfl⟩
   ·have hall':(ns.take (i+1)).all (bE T)=true:=by
     rw[de ns i 0 hlt,List.all_append,hall]
     have:bE T (ns.getD i 0)=true:=by revert hc;cases bE T (ns.getD i 0)<;>simp
     simp only[List.all_cons,this,List.all_nil,Bool.and_self]
    refine au<|aE (.v (bA I) I<|.a 1 I<|.k [3,18,19,20] I) ?_
    exact⟨ns.length - (i+1),by omega,i+1,by omega,hall',rfl,rfl⟩
  ·have hie:i=ns.length:=by have:=of_decide_eq_false hc;omega
   refine bh<|ai (.a 1 I<|.k [6] I)<|aF<|⟨_,_,aL.of I,aW.pure,?_⟩
   unfold cG
   rw[if_pos hok,if_pos (by rw[hie,List.take_length]at hall;exact hall)]
   rfl
theorem nu(rs:List (List Int))(i:Nat)(hi:i<rs.length):Can Tryd.prog 99 ([num i]++[.bT [jg rs] 0]) (· =aR (rs.getD i [])):=by
 exact aY Tryd.func99 I Tryd.ntmps99 I<|ai (.a 1 I<|.k [0,1] I)<|ai (.a 2 I<|.v (bf (i) I) I<|.v (aN I ((show(rs.map aR)[i]? =some (aR (rs.getD i [])) by simp[hi]))) I<|.a 1 I<|.k [3] I)<|aF<|⟨_,_,aL.of I,aW.pure,rfl⟩
theorem nw(T:aG)(a:Nat)(ha:a<2*T.ah.length):Can Tryd.prog 100 ([num a]++[.bT (eo T) 0]) (· =num (cL T a)):=by
 exact aY Tryd.func100 I Tryd.ntmps100 I<|ai (.a 1 I<|.k [0,1] I)<|ai (.a 2 I<|.c rfl (iP T a ha) I<|.a 1 I<|.k [3] I)<|aF<|⟨_,_,aL.of I,aW.pure,rfl⟩
def fu(e:Int)(l:List Int):PV:=.tuple [aR (if e=0 then l else []),num e]
theorem pv(T:aG)(D:List Bool)(d:Int):Can Tryd.prog 86 [cj T,ca D,num d] (· =fu (cG T D [d]) (cd T D d.toNat false)):=by
 refine aY Tryd.func86 I Tryd.ntmps86 I<|ai (.a 3 I<|.k [1,2,3] I)<|ak<|ai (.a 4 I<|.c rfl (mO T D [d] (by simp)) I<|.a 1 I<|.k [1,2,3,8] I)<|ai (.a 2 I<|.k [1,2,3,8,17] I)<|aq I (fun hc=>?_) (fun hc=>?_)
 ·have he:cG T D [d]≠0:=of_decide_eq_true hc
  exact ai (.a 3 I<|.k [6,7] I)<|aF<|⟨_,_,aL.of I,aW.fk (aI.cons aW.cl (aI.cons aW.pure aI.nil)),by unfold fu;rw[if_neg he];rfl⟩
 ·have he:cG T D [d]=0:=by have:=of_decide_eq_false hc;omega
  have hok:(aX T&&da T D)=true∧bE T d=true:=by
   unfold cG at he
   split at he
   ·rename_i h1
    split at he
    ·rename_i h2;exact⟨h1,by simpa using h2⟩
    ·omega
   ·omega
  obtain⟨hvf,hnd⟩:=hok
  obtain⟨hv,hf⟩:=Bool.and_eq_true_iff.1 hvf
  have hd:0≤d∧d<T.nodes:=by simpa[bE]using hnd
  obtain⟨n,rfl⟩:=Int.eq_ofNat_of_zero_le hd.1
  have hS:=b7 hv
  refine au<|bp<|aK 1 I<|j4 I (kc T hv) I<|aK 2 I<|bd [1,2,3,9] I ?_
  refine bp<|aK 3 I<|an (iA I I) I<|aK 4 I<|bd [10] I ?_
  refine o8 (.cons 10 I (aW.qA rfl (aI.cons aW.pure<|aI.cons aW.pure<|aI.cons aW.pure<|aI.cons aW.pure<|aI.cons aW.pure<|aI.cons (aW.rF (aI.cons (aW.qA rfl (aI.cons aW.pure aI.nil)) aI.nil))<|aI.cons aW.pure aI.nil)) .nil) ?_
  exact ai (.a 1 I<|.c rfl (qf T D n false 99 100 [.bT [jg (cb (bV T) T.nodes.toNat (2*T.ah.length))] 0] [.bT (eo T) 0] hv hf hd.2 (by kernel_rfl) (by kernel_rfl) (fun i hi=>by have h:=nu (cb (bV T) T.nodes.toNat (2*T.ah.length)) i (by rw[eS];omega);rw[gg _ _ _ _ (by omega)]at h;exact h) (fun a ha=>nw T a ha)) I<|.a 2 I<|.k [6,7] I)<|aF<|⟨_,_,aL.of I,aW.pure,by unfold fu;rw[if_pos he,he];rfl⟩
theorem l4(T:aG)(hl:T.ah.length≤256)(n:Int):Can Tryd.prog 49 [cj T,num n] (· =aR (cX T n)):=by
 refine aY Tryd.func49 I Tryd.ntmps49 I<|ai (.a 2 I<|.k [1,2] I)<|ai (.a 1 I<|.k [1,2,5] I)<|fB 5 3 1 I ?_
 refine ak<|ai (.a 1 I<|.c rfl (iz T (by omega)) I<|.a 1 I<|.k [1,2,5,8,9] I)<|aB<|gU [1,2,5,8,9] I<|bz (fun r s=>∃k,k≤2*T.ah.length∧r=2*T.ah.length - k∧s=⟨[(1,num n),(2,.bT (eo T) 0),(5,.own 0),(8,num (2*(T.ah.length:Int))),(9,num k)],[some (.row 3 1 (ep T n k).length (aS (ep T n k)))]⟩) (2*T.ah.length) ⟨0,by omega,by omega,rfl⟩ ?_
 rintro r s ⟨k,hk,rfl,rfl⟩
 refine ai (.a 1 I<|.k [1,2,5,8,9,10] I)<|ak<|aq I (fun hc=>?_) (fun hc=>?_)
 ·have hlt:k<2*T.ah.length:=by have:=of_decide_eq_true hc;omega
  have hlen:=e5 T n k
  refine au<|ak<|aB<|ai (.a 2 I<|.k [1,2,5,6,8,9] I)<|ai (.a 2 I<|.c rfl (iP T k hlt) I<|.a 2 I<|.k [1,2,5,6,8,9,16] I)<|aq I (fun hc=>?_) (fun hc=>?_)
  ·have hst:=nB T n k (by simpa using of_decide_eq_true hc)
   refine a6<|aK 3 I<|aO (ax I (aV.rk.get I) I I I I (by unfold maxLen;omega)) I<|aK 1 I ?_
   refine c5 [1] (.c 1<|.c 2<|.c 5<|.c 8<|.c 9<|.nil) (.kept rfl (.du rfl (dj _ _))<|.nil) I I (ab ?_)
   refine aE (.v (bA I) I<|.a 1 I<|.k [1,2,5,8,9] I) ?_
   refine⟨2*T.ah.length - (k+1),by omega,k+1,by omega,rfl,?_⟩
   rw[hst]
   first
    |rfl
    |(simp only[List.length_append,List.length_singleton];rfl)
  ·have hst:=pw T n k (by simpa using of_decide_eq_false hc)
   refine au<|aE (.v (bA I) I<|.a 1 I<|.k [1,2,5,8,9] I) ?_
   refine⟨2*T.ah.length - (k+1),by omega,k+1,by omega,rfl,?_⟩
   rw[hst]
   first
    |rfl
    |(simp only[List.length_append,List.length_singleton];rfl)
 ·have hke:k=2*T.ah.length:=by have:=of_decide_eq_false hc;omega
  subst hke
  exact bh<|ai (.a 2 I<|.k [4] I)<|aF<|⟨_,_,aL.of I,aW.gH rfl aI.pure,rfl⟩
def eH(T:aG)(D:List Bool)(n d:Int):Int:=if cG T D [d]=0 then(if bE T n then 0 else 2) else cG T D [d]
theorem nb(T:aG)(D:List Bool)(n d:Int):Can Tryd.prog 76 [cj T,ca D,num n,num d] (· =fu (eH T D n d) (cd T D d.toNat false)):=by
 refine aY Tryd.func76 I Tryd.ntmps76 I<|ai (.a 3 I<|.k [1,2,3,4] I)<|ai (.a 3 I<|.c rfl (pv T D d) I<|.a 5 I<|.k [2,4,10,11] I)<|ak<|ai (.a 2 I<|.k [2,4,10,11,20] I)<|aq I (fun hc=>?_) (fun hc=>?_)
 ·have he:cG T D [d]≠0:=of_decide_eq_true hc
  exact ai (.a 3 I<|.k [8,9] I)<|aF<|⟨_,_,aL.of I,aW.fk (aI.cons aW.cl (aI.cons aW.pure aI.nil)),by unfold fu eH;rw[if_neg he,if_neg he];rfl⟩
 ·have he:cG T D [d]=0:=by have:=of_decide_eq_false hc;omega
  refine au<|ak<|ai (.a 2 I<|.c rfl (eQ T n) I<|.a 1 I<|.k [10,25] I)<|aq I (fun hc=>?_) (fun hc=>?_)
  ·have hn:bE T n=false:=by revert hc;cases bE T n<;>simp
   exact ai (.a 2 I<|.k [8,9] I)<|aF<|⟨_,_,aL.of I,aW.fk (aI.cons aW.cl (aI.cons aW.pure aI.nil)),by unfold fu eH;rw[if_pos he,hn];rfl⟩
  ·have hn:bE T n=true:=by revert hc;cases bE T n<;>simp
   exact au<|ai (.a 3 I<|.k [8,9] I)<|aF<|⟨_,_,aL.of I,aW.pure,by unfold fu eH;simp only[he,hn,if_true];rfl⟩
theorem mT{T:aG}{D:List Bool}{ns:List Int}(he:cG T D ns=0):aX T=true∧da T D=true∧∀n∈ns,bE T n=true:=by
 unfold cG at he
 split at he
 ·rename_i h1
  split at he
  ·rename_i h2
   obtain⟨a,b⟩:=Bool.and_eq_true_iff.1 h1
   exact⟨a,b,List.all_eq_true.1 h2⟩
  ·omega
 ·omega
theorem lP{T:aG}{D:List Bool}{n d:Int}(he:eH T D n d=0):aX T=true∧da T D=true∧bE T n=true∧bE T d=true:=by
 unfold eH at he
 split at he
 ·rename_i h1
  obtain⟨a,b,c⟩:=mT h1
  split at he
  ·rename_i h2;exact⟨a,b,h2,c d (by simp)⟩
  ·omega
 ·omega
theorem gk{T:aG}{D:List Bool}(hv:aX T=true){d:Nat}{dir:Bool}(hd:(d:Int)<T.nodes):((cd T D d dir).length:Int)=T.nodes∧∀x∈cd T D d dir, -1≤x∧x≤4194240:=by
 have hS:=b7 hv
 have hI:=mN hS D dir hd
 refine⟨hI.len,fun x hx=>?_⟩
 obtain⟨i,hi,rfl⟩:=List.getElem_of_mem hx
 have hin:(i:Int)<T.nodes:=by have:=hI.len;omega
 have h1:=hI.ge i hin
 have h2:=hI.rJ i hin
 have h3:=gZ (cd T D d dir)
 have h4:=hS.nodes
 have h5:=hI.len
 rw[o9 _ i hi]at h1 h2
 omega
noncomputable def ie(T:aG)(D:List Bool)(n d:Nat):List Int:=
 if n=d∨(cd T D d false).getD n 0<0 then [] else fc T D (cd T D d false) ((cd T D d false).getD n 0) d (cX T n)
theorem kN{T:aG}{n:Int}{a:Int}(h:a∈cX T n):0≤a∧a<2*(T.ah.length:Int):=by
 unfold cX ep at h
 obtain⟨b,hb,rfl⟩:=List.mem_map.1 h
 have:=(List.mem_filter.1 hb).1
 have:=List.mem_range.1 this
 simp;omega
theorem oR(T:aG)(D:List Bool)(n d:Int):Can Tryd.prog 48 [cj T,ca D,num n,num d] (· =fu (eH T D n d) (ie T D n.toNat d.toNat)):=by
 refine aY Tryd.func48 I Tryd.ntmps48 I<|ai (.a 3 I<|.k [1,2,3,4] I)<|ai (.a 4 I<|.c rfl (nb T D n d) I<|.a 5 I<|.k [1,2,3,4,10,11] I)<|ak<|ai (.a 2 I<|.k [1,2,3,4,10,11,21] I)<|aq I (fun hc=>?_) (fun hc=>?_)
 ·have he:eH T D n d≠0:=of_decide_eq_true hc
  exact ai (.a 3 I<|.k [8,9] I)<|aF<|⟨_,_,aL.of I,aW.fk (aI.cons aW.cl (aI.cons aW.pure aI.nil)),by unfold fu;rw[if_neg he];rfl⟩
 ·have he:eH T D n d=0:=by have:=of_decide_eq_false hc;omega
  rw[he]
  obtain⟨hv,hf,hn,hd⟩:=lP he
  rw[eY]at hn hd
  obtain⟨n,rfl⟩:=Int.eq_ofNat_of_zero_le hn.1
  obtain⟨d,rfl⟩:=Int.eq_ofNat_of_zero_le hd.1
  have hll:=fy hv
  obtain⟨hb1,hb2⟩:=gk (D:=D) hv (dir:=false) hd.2
  refine au<|fa mixed (by kernel_rfl) (.a 5 I<|.v [26,27] (cH I (l4 T hll _)) I I<|.a 2 I<|.v [23,24,25,28,29,30] (cH I (nG T D (cd T D d false) (cX T n) n d hv hf hb1 hb2 hn.2 hd.2 (fun a ha=>kN ha) (Nat.le_trans (e5 T n _) (by omega)))) I I<|.a 2 I<|.k [8,9] I) ?_
  exact aF<|⟨_,_,aL.of I,aW.pure,rfl⟩
end
section
open Go.RowKit bm Mem Net
structure gn where
 kind:Int
 num:Int
deriving DecidableEq
structure ev where
 aH:List Int
 rep:Bool
 push:List gn
structure iK where
 node:Int
 az:List ev
 down:List Int
def gF(s:gn):List PV:=[num s.kind,num s.num]
def oZ(s:gn):PV:=.agg (gF s)
def oX(l:List gn):List PV:=l.flatMap gF
def ek(l:List gn):PV:=.slice l.length (oX l)
def b6(e:ev):List PV:=[aR e.aH,flag e.rep,ek e.push]
def e8(l:List ev):List PV:=l.flatMap b6
def cS(l:List ev):PV:=.slice l.length (e8 l)
def cP(t:iK):List PV:=[num t.node,cS t.az,aR t.down]
def fW(t:iK):PV:=.agg (cP t)
instance (s:gn):ao (gF s):=by unfold gF;infer_instance
instance (s:gn):cn (gF s):=by unfold gF;infer_instance
instance (s:gn):IsPure (oZ s):=by unfold oZ;infer_instance
instance (l:List gn):ao (oX l):=ao.flatMap _ _ fun _=>inferInstance
instance (l:List gn):IsPure (ek l):=by unfold ek;infer_instance
instance (l:List gn):cJ (ek l):=by unfold ek;infer_instance
instance (e:ev):ao (b6 e):=by unfold b6;infer_instance
instance (e:ev):cn (b6 e):=by unfold b6;infer_instance
instance (l:List ev):ao (e8 l):=ao.flatMap _ _ fun _=>inferInstance
instance (l:List ev):IsPure (cS l):=by unfold cS;infer_instance
instance (t:iK):ao (cP t):=by unfold cP;infer_instance
instance (t:iK):IsPure (fW t):=by unfold fW;infer_instance
theorem lT(l:List ev)(e:ev):e8 l++b6 e=e8 (l++[e]):=by simp[e8]
theorem gf{α:Type}(f:α→List PV)(s:Nat)(hf:∀a,(f a).length=s):∀(l:List α) (i:Nat) (a:α),l[i]? =some a→((l.flatMap f).drop (i*s)).take s=f a
 | [],i,a,h=>by simp at h
 |b::l,0,a,h=>by
  simp at h;subst h
  rw[List.flatMap_cons,Nat.zero_mul,List.drop_zero]
  exact List.take_left' (hf b)
 |b::l,i+1,a,h=>by
  have:=gf f s hf l i a (by simpa using h)
  have e1:(i+1)*s=s+i*s:=by rw[Nat.succ_mul];omega
  rw[List.flatMap_cons,e1,←List.drop_drop,List.drop_left' (hf b),this]
theorem dH(l:List ev)(i:Nat)(e:ev)(h:l[i]? =some e):((e8 l).drop (i*3)).take 3=b6 e:=gf b6 3 (fun _=>rfl) l i e h
theorem fT(l:List gn)(i:Nat)(e:gn)(h:l[i]? =some e):((oX l).drop (i*2)).take 2=gF e:=gf gF 2 (fun _=>rfl) l i e h
theorem rS{P:Program}{σ:bt}{t:aZ}{o:Oper}{p q:PV}(h:ay P σ t o p)(hl:kn p q):ay P σ t o q:=fun F base E ρ w hρ hS hT=>by
 have:=h F base E ρ w hρ hS hT
 generalize (execOp ρ o).run P w=x at*
 cases x with
 |ok n w'=>
  cases n with
  |value v=>exact⟨this.1,hl _ _ _ this.2⟩
  |skip=>exact⟨this.1,hl _ _ _ this.2⟩
  |enter f args=>exact⟨this.1,Calls.mono this.2 (fun e w'' ⟨x,h1,h2,h3⟩=>⟨x,h1,h2,hl _ _ _ h3⟩)⟩
  |_=>exact this
 |halt x w'=>exact this
def mR(xs ys:List PV):Prop:=xs.length=ys.length∧∀(i:Nat) x y,xs[i]? =some x→ys[i]? =some y→kn x y
theorem mR.nil:mR [] []:=⟨rfl,fun i x y h=>by simp at h⟩
theorem mR.cons{x y:PV}{xs ys:List PV}(h:kn x y)(hs:mR xs ys):mR (x::xs) (y::ys):=⟨by simp[hs.1],fun j a b h1 h2=>by
 cases j with
 |zero=>simp at h1 h2;subst h1;subst h2;exact h
 |succ j=>exact hs.2 j a b (by simpa using h1) (by simpa using h2)⟩
theorem kn.nr{xs ys:List PV}(h:mR xs ys):kn (.agg xs) (.agg ys):=fun E w v hv=>by
 cases hv with
 |agg cs _ hl hr=>exact .agg cs ys (hl.trans h.1) (fun i c u h1 h2=>by
   have hi:i<xs.length:=by rw[h.1];exact(List.getElem?_eq_some_iff.1 h2).1
   exact h.2 i xs[i] u (by simp[hi]) h2 E w c (hr i c _ h1 (by simp[hi])))
noncomputable def nN(T:aG)(D:List Bool)(n k:Nat):List ev:=(List.range k).map fun d=>⟨ie T D n d,false,[]⟩
def fm(D:List Bool)(l:List Int):List Int:=l.filter fun a=>dB D a.toNat
noncomputable def jY(T:aG)(D:List Bool)(n:Nat):iK:=⟨n,nN T D n T.nodes.toNat,fm D (cX T n)⟩
noncomputable def eZ(T:aG)(D:List Bool)(n:Int):iK:=if cG T D [n]=0 then jY T D n.toNat else⟨0,[],[]⟩
theorem od(T:aG)(D:List Bool)(n k:Nat):nN T D n (k+1)=nN T D n k++[⟨ie T D n k,false,[]⟩]:=by simp[nN,List.range_succ]
theorem qg(T:aG)(D:List Bool)(n k:Nat):(nN T D n k).length=k:=by simp[nN]
deriving instance DecidableEq for ev
deriving instance DecidableEq for iK
theorem pN{E:Env}{w:World}{v:Value}{x:iK}(h:bB E w v (fW x)):x.az.length≤maxLen∧x.down.length≤maxLen:=by
 unfold fW cP at h
 cases h with
 |agg cs _ hl hr=>
  have hr:aA E w cs.toList _:=⟨by simpa using hl,fun i x u h1 h2=>hr i x u (by simpa using h1) h2⟩
  obtain⟨v1,_,h1⟩:=hr.get (i:=1) I
  obtain⟨v2,_,h2⟩:=hr.get (i:=2) I
  exact⟨gP h1,gP h2⟩
end
section
open Go.RowKit bm Mem
def br(L:List (List UInt8)):List UInt8:=Lib.join L [32]++[10]
theorem dv(u:Bool)(l:List UInt8)(L:List (List UInt8))(hL:L.length≤1000000)(hn:l.length+(br L).length≤1000000000):bG Tryd.prog 20 [.ptr 0 0,dG L] (e9 1 u l) (fun _ σ'=>σ'=e9 2 true (l++br L)):=by
 have hj:(br L).length=(Lib.join L [32]).length+1:=by simp[br]
 refine cg Tryd.func20 I Tryd.ntmps20 I<|bp<|aK 2 I<|j4 I (oV L [32] hL (by omega)) I<|bQ I I (bG.mono (rI u l ⟨(Lib.join L [32]).toArray⟩ (show l.length+(Lib.join L [32]).toArray.size≤1000000000 by simp;omega)) (fun _ σ' h=>?_))
 subst h
 refine bd [0] I ?_
 refine a6<|aK 1 I<|bQ I I (bG.mono (qT true (l++Lib.join L [32]) 10 (by simp;omega)) (fun _ σ' h=>?_))
 subst h
 refine c5 [0,1,3] (.nil) (.kept rfl (.cells (aw.c<|aw.c<|aw.nil))<|.gone<|.kept rfl (.row aw.pure)<|.nil) I I (ab ?_)
 refine⟨_,aL.of I,?_⟩
 unfold br
 rw[←List.append_assoc]
 rfl
def bN(l:List Int):List (List UInt8):=l.map fun n=>Lib.decDigits n.toNat
theorem dQ(L:List (List UInt8))(x:List UInt8):aT L++[ed x]=aT (L++[x]):=by simp[aT]
theorem aJ(l:List Int)(hl:l.length≤1000)(hs:∀n∈l,0≤n∧n<100):Can Tryd.prog 22 [aR l] (· =dG (bN l)):=by
 refine aY Tryd.func22 I Tryd.ntmps22 I<|ai (.a 1 I<|.k [0] I)<|ai (.a 1 I<|.k [0,3] I)<|fB 3 9 1 I ?_
 refine ak<|ai (.a 3 I<|.k [3,6,7,8] I)<|aB<|gU [3,6,7,8] I<|bz (fun r s=>∃i,i≤l.length∧r=l.length - i∧s=⟨[(3,.own 0),(6,aR l),(7,num l.length),(8,num i)],[some (.row 9 1 i (aT (bN (l.take i))))]⟩) l.length ⟨0,by omega,by omega,rfl⟩ ?_
 rintro r s ⟨i,hi,rfl,rfl⟩
 refine ai (.a 1 I<|.k [3,6,7,8,9] I)<|ak<|aq I (fun hc=>?_) (fun hc=>?_)
 ·have hlt:i<l.length:=by have:=of_decide_eq_true hc;omega
  obtain⟨h0,h1⟩:=hs _ (cA (d:=0) hlt)
  obtain⟨a,ha⟩:=Int.eq_ofNat_of_zero_le h0
  have hst:bN (l.take (i+1))=bN (l.take i)++[Lib.decDigits a]:=by
   unfold bN
   rw[de l i 0 hlt,List.map_append,ha]
   rfl
  refine au<|ak<|aB<|ai (.v (bf (i) I) I<|.v (aN I ((aM l i hlt).trans (by rw[ha]))) I<|.a 1 I<|.k [3,5,6,7,8] I)<|a6<|aK 2 I<|j4 I (cc a (by omega)) I<|aK 1 I<|aO (ax I (aV.rk.get I) I I I I (by unfold maxLen;omega)) I<|aK 1 I ?_
  refine c5 [1] (.c 3<|.c 6<|.c 7<|.c 8<|.nil) (.kept rfl (.du rfl (dQ _ _))<|.nil) I I (ab ?_)
  refine aE (.v (bA I) I<|.a 1 I<|.k [3,6,7,8] I) ?_
  refine⟨l.length - (i+1),by omega,i+1,by omega,rfl,?_⟩
  rw[hst]
  rfl
 ·have hie:i=l.length:=by have:=of_decide_eq_false hc;omega
  subst hie
  refine bh<|ai (.a 2 I<|.k [2] I)<|aF<|⟨_,_,aL.of I,aW.gH rfl aI.pure,?_⟩
  rw[List.take_length]
  unfold dG
  rw[show(bN l).length=l.length by simp[bN]]
end
end PW
end Go.Proofs.YtnegbdpggideiaaDoor
