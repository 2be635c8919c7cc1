/- Texts of the proof, part 7. -/
import Derived.Laws.StructEq
import Derived.Test.YtnegbdpggideiaaGreatDoorCardMMB6
set_option linter.unusedVariables false
set_option linter.unusedSimpArgs false
set_option maxRecDepth 10000
set_option maxHeartbeats 1000000
namespace Go.Proofs.YtnegbdpggideiaaGreatDoor
namespace PW
open Go.RowKit cB Mem Net
set_option maxHeartbeats 4000000 in
theorem vD(T:ai)(D:List Bool)(n:Int)(dir:Bool):Can Tryz.prog 91 [aP T,aY D,num n,flag dir] (· =dx (cw T D [n]) (bu T D n.toNat dir)):=by
  refine aE Tryz.func91 rfl Tryz.ntmps91 rfl<|ab (.a 3 rfl<|.k [1,2,3,4] rfl)<|aj<|ab (.a 2 rfl<|.c rfl (zY T D) rfl<|.a 1 rfl<|.k [1,2,3,4,20] rfl)<|ah rfl (fun hc=>?_) (fun hc=>?_)
  · have hch:cw T D [n]=1:=by
      unfold cw
      rw[if_neg]
      revert hc
      cases(ao T&&bP T D)<;>simp
    exact ab (.a 2 rfl<|.k [8,9] rfl)<|aq<|⟨_,_,ay.of rfl,aB.bG (an.cons aB.bZ (an.cons aB.pure an.nil)),by unfold dx;rw[hch];rfl⟩
  · have hok : (ao T && bP T D) = true := by revert hc; cases (ao T && bP T D) <;> simp
    refine ak<|aj ?_
    obtain⟨q1,hq1⟩:∃q,decide (n<0)=q:=⟨_,rfl⟩
    obtain⟨q2,hq2⟩:∃q,decide (T.nodes≤n)=q:=⟨_,rfl⟩
    have hnb:bn T n= !(q1||q2):=by rw[←hq1,←hq2];unfold bn;by_cases h1:n<0<;>by_cases h2:T.nodes≤n<;>simp[h1,h2]<;>omega
    refine bp 28 (.raw (.bool (q1||q2))) [1,2,3,4] rfl ?_ ?_
    · refine .a 1 rfl<|.v (cb rfl (hq1)) rfl<|.a 1 rfl<|?_
      cases q1
      · exact .a 3 rfl<|.v (cb rfl (hq2)) rfl<|.a 1 rfl<|.k [28,1,2,3,4] rfl
      · exact .a 5 rfl<|.k [28,1,2,3,4] rfl
    refine ah rfl (fun hc=>?_) (fun hc=>?_)
    · have hch:cw T D [n]=2:=by
        unfold cw
        rw[if_pos hok,if_neg]
        simp[hnb,hc]
      exact ab (.a 2 rfl<|.k [8,9] rfl)<|aq<|⟨_,_,ay.of rfl,aB.bG (an.cons aB.bZ (an.cons aB.pure an.nil)),by unfold dx;rw[hch];rfl⟩
    · have hnb':bn T n=true:=by rw[hnb,hc];rfl
      have hch:cw T D [n]=0:=by
        unfold cw
        rw[if_pos hok,if_pos]
        simp[hnb']
      obtain⟨hv,hf⟩:=Bool.and_eq_true_iff.1 hok
      have hn:=aV.1 hnb'
      obtain⟨n,rfl⟩:=Int.eq_ofNat_of_zero_le hn.1
      have hS:=aK hv
      have hbd:=fX hv
      obtain⟨N,hN⟩:∃N:Nat,T.nodes=(N:Int):=⟨T.nodes.toNat,by omega⟩
      have hN64:N≤64:=by have:=hS.nodes;omega
      have hnN:n<N:=by omega
      clear hc hq1 hq2 hnb
      refine ak<|aQ<|au 2 rfl<|cn (dD rfl (bI.rk.get rfl) rfl rfl hN hN ⟨by unfold maxLen;omega,by omega⟩) rfl<|au 1 rfl<|aH [1,2,3,4,10] rfl ?_
      refine aj<|ab (.a 1 rfl<|.k [1,2,3,4,10,11] rfl)<|av<|ft [1,2,3,4,10,11] rfl<|br (fun r s=>∃k,k≤N∧r=N - k∧s=⟨[(1,aY D),(2,num n),(3,flag dir),(4,.aX (bx T) 0),(10,.own 0),(11,num k)],[some (.row 3 1 N (aO (ig N k)))]⟩) N ⟨0,by omega,by omega,by have:=cN N;unfold ig;simp only[List.replicate_zero,List.nil_append,Nat.sub_zero];rw[←this];rfl⟩ ?_
      rintro r s ⟨k,hk,rfl,rfl⟩
      refine aj<|ab (.a 4 rfl<|.k [1,2,3,4,10,11,35] rfl)<|ah rfl (fun hc=>?_) (fun hc=>?_)
      · have hlt:k<N:=by have:=of_decide_eq_true hc;omega
        have hil:(ig N k).length=N:=by simp[ig];omega
        refine ak<|aj<|av<|bF<|au 2 rfl<|bE (aL (k) rfl) rfl<|bc ((by first|exact bC rfl (bI.tk.get rfl) rfl rfl rfl (by first|omega|(simp;omega))|exact aW rfl (bI.tk.get rfl) rfl rfl rfl (by first|omega|(simp;omega)))) rfl rfl<|aH [1,2,3,4,10,11] rfl ?_
        refine ej (σ':=[some (.row 3 1 N (aO (ig N (k+1))))]) (by rw[←u9 N k hlt];rfl) ?_
        refine az (.a 1 rfl<|.v (aS rfl) rfl<|.a 1 rfl<|.k [1,2,3,4,10,11] rfl) ?_
        exact⟨N - (k+1),by omega,k+1,by omega,rfl,rfl⟩
      · have hke:k=N:=by have:=of_decide_eq_false hc;omega
        subst hke
        have hil:(ig k k).length=k:=by simp[ig]
        refine bg<|aQ<|au 2 rfl<|bE (aL (n) rfl) rfl<|bc ((by first|exact bC rfl (bI.tk.get rfl) rfl rfl rfl (by first|omega|(simp;omega))|exact aW rfl (bI.tk.get rfl) rfl rfl rfl (by first|omega|(simp;omega)))) rfl rfl<|aH [1,2,3,4,10] rfl ?_
        refine ej (σ':=[some (.row 3 1 k (aO (Net.start k n)))]) (by rw[←xZ k n];rfl) ?_
        have hI0:=oo (T:=T) (D:=D) (N:=k) (n:=n) (dir:=dir) hN.symm hnN
        generalize Net.start k n=out0 at hI0
        refine aj<|ab (.a 1 rfl<|.k [1,2,3,4,10,12] rfl)<|av<|ft [1,2,3,4,10,12] rfl<|br (fun r s=>∃(out:List Int) (b:Bool),Inv T D n dir out∧(b=false→∀a,a<2*T.af.length→¬kD T D n dir out a)∧r=2*mu out+b.toNat∧s=⟨[(1,aY D),(2,num n),(3,flag dir),(4,.aX (bx T) 0),(10,.own 0),(12,flag b)],[some (.row 3 1 k (aO out))]⟩) (2*mu out0+1) ⟨out0,true,hI0,(fun h=>by cases h),rfl,rfl⟩ ?_
        clear hI0 out0
        rintro r s ⟨out,b,hI,hb,rfl,rfl⟩
        refine aj<|ab (.a 1 rfl<|.k [1,2,3,4,10,44] rfl)<|ah rfl (fun hc=>?_) (fun hc=>?_)
        · subst hc
          refine ak<|av<|ab (.a 1 rfl<|.k [1,2,3,4,10,12] rfl)<|ab (.a 1 rfl<|.k [1,2,3,4,10,12,13] rfl)<|av<|ft [1,2,3,4,10,12,13] rfl<|br (fun r s=>∃(k':Nat) (out':List Int) (b':Bool),k'≤2*T.af.length∧Inv T D n dir out'∧(b'=false→out'=out∧∀a,a<k'→¬kD T D n dir out a)∧(b'=true→mu out'<mu out)∧r=2*T.af.length - k'∧s=⟨[(1,aY D),(2,num n),(3,flag dir),(4,.aX (bx T) 0),(10,.own 0),(12,flag b'),(13,num k')],[some (.row 3 1 k (aO out'))]⟩) (2*T.af.length) ⟨0,out,false,by omega,hI,(fun _=>⟨rfl,fun a ha=>by omega⟩),(fun h=>by cases h),by omega,rfl⟩ ?_
          rintro r s ⟨a,out',b',ha,hI',hb',ht',rfl,rfl⟩
          refine aj<|ab (.a 4 rfl<|.v (aS rfl (hc:=rfl)) rfl<|.a 1 rfl<|.k [1,2,3,4,10,12,13,50] rfl)<|ah rfl (fun hc=>?_) (fun hc=>?_)
          · have ham:a<2*T.af.length:=by have:=of_decide_eq_true hc;omega
            obtain⟨p,hp⟩:=Int.eq_ofNat_of_zero_le (hS.tail a ham).1
            obtain⟨q,hq⟩:=Int.eq_ofNat_of_zero_le (hS.head a ham).1
            have hpN:p<k:=by have:=(hS.tail a ham).2;omega
            have hqN:q<k:=by have:=(hS.head a ham).2;omega
            have hcb:=hS.cost a ham
            have hDl:D.length=0∨a<D.length:=by simp only[bP,decide_eq_true_eq]at hf;omega
            have hol:out'.length=k:=by have:=hI'.len;omega
            refine ak<|aj<|av<|ei mixed (by kernel_rfl) (.a 2 rfl<|.v [53,54] (dR rfl (hp▸gC T hv a ham)) rfl rfl<|.a 2 rfl<|.v [56,57] (dR rfl (hq▸gJ T hv a ham)) rfl rfl<|.a 2 rfl<|.k [1,2,3,4,10,12,13,14,15] rfl) ?_
            refine aj<|ab (.a 1 rfl<|.k [1,2,3,4,10,12,13,14,15,59] rfl)<|ah rfl (fun hdir=>?_) (fun hdir=>?_)
            · obtain ⟨x, y, hx, hy, ex, ey⟩ : ∃ x y : Nat, fp T dir a = (x : Int) ∧ cK T dir a = (y : Int) ∧ x = q ∧ y = p := ⟨q, p, by rw [hdir]; exact hq, by rw [hdir]; exact hp, rfl, rfl⟩
              subst ex
              subst ey
              refine az (.a 4 rfl<|.k [1,2,3,4,10,12,13,14,15] rfl) ?_
              refine aj ?_
              have gx:out'.getD x 0=at' out' (x:Int):=by simp[at',List.getD_eq_getElem?_getD,show x<out'.length by omega]
              have gy:out'.getD y 0=at' out' (y:Int):=by simp[at',List.getD_eq_getElem?_getD,show y<out'.length by omega]
              have uy:=hI'.ub y (by omega) (by omega)
              have ly:=hI'.ge y (by omega)
              obtain⟨p1,hp1⟩:∃q,(!aM D a)=q:=⟨_,rfl⟩
              obtain⟨p2,hp2⟩:∃q,decide (out'.getD y 0<0)=q:=⟨_,rfl⟩
              obtain⟨p3,hp3⟩:∃q,(decide (y=n)|| !cR T y)=q:=⟨_,rfl⟩
              refine bp 79 (.raw (.bool (((!p1)||p2)||(!p3)))) [1,2,3,4,10,12,13,14,15] rfl ?_ ?_
              · refine .a 2 rfl<|.c rfl (hp1▸ua D a hDl) rfl<|.a 2 rfl<|?_
                cases p1
                · exact .a 13 rfl<|.k [79,1,2,3,4,10,12,13,14,15] rfl
                · refine .a 2 rfl<|.v (aL (y) rfl) rfl<|.v (aN rfl (aA out' y (by omega))) rfl<|.v (cb rfl (hp2)) rfl<|.a 2 rfl<|?_
                  cases p2
                  · exact .a 3 rfl<|.c rfl (hp3▸kp T hv y n) rfl<|.a 2 rfl<|.k [79,1,2,3,4,10,12,13,14,15] rfl
                  · exact .a 6 rfl<|.k [79,1,2,3,4,10,12,13,14,15] rfl
              refine ah rfl (fun hc=>?_) (fun hc=>?_)
              · have hng:¬kD T D n dir out' a:=fun hg=>by
                  obtain⟨⟨w1,w2,w3⟩,_⟩:=hg
                  rw[hy]at w2 w3
                  have e1:p1=true:=by rw[←hp1,w1];rfl
                  have e2:p2=false:=by rw[←hp2,gy];simp;omega
                  have e3:p3=true:=by
                    rw[←hp3]
                    rcases w3 with w3|w3
                    · have:y=n:=by omega
                      simp[this]
                    · rw[Int.toNat_natCast]at w3;simp[w3]
                  rw[e1,e2,e3]at hc
                  cases hc
                refine bg<|az (.a 1 rfl<|.v (aS rfl) rfl<|.a 1 rfl<|.k [1,2,3,4,10,12,13] rfl) ?_
                first
                  |exact⟨2*T.af.length - (a+1),by omega,a+1,_,true,by omega,hIg,fun h=>(by cases h),fun _=>(by by_cases e:b'=true;(have:=ht' e;omega);(have:=(hb' (by cases b';rfl;exact absurd rfl e)).1;rw[this]at hmg;rw[this];exact hmg)),rfl,rfl⟩
                  |exact⟨2*T.af.length - (a+1),by omega,a+1,out',b',by omega,hI',fun h=>⟨(hb' h).1,fun c hc'=>by by_cases e:c=a;(rw[e,←(hb' h).1];exact hng);exact(hb' h).2 c (by omega)⟩,ht',rfl,rfl⟩
              · have hway:Net.Way T D n dir out' a:=by
                  obtain⟨c1,c3⟩:=Bool.or_eq_false_iff.1 hc
                  obtain⟨c1,c2⟩:=Bool.or_eq_false_iff.1 c1
                  have e1:p1=true:=by cases p1;cases c1;rfl
                  have e3:p3=true:=by cases p3;cases c3;rfl
                  rw[e1]at hp1
                  rw[c2]at hp2
                  rw[e3]at hp3
                  refine⟨by revert hp1;cases aM D a<;>simp,?_,?_⟩
                  · rw[hy,←gy];have:=of_decide_eq_false hp2;omega
                  · rw[hy,Int.toNat_natCast]
                    rcases Bool.or_eq_true_iff.1 hp3 with h|h
                    · exact .inl (by have:=of_decide_eq_true h;omega)
                    · exact .inr (by revert h;cases cR T y<;>simp)
                have wy:=hway.2.1
                rw[hy]at wy
                refine ak<|ei mixed (by kernel_rfl) (.a 2 rfl<|.v [80,81] (aL (y) rfl) rfl rfl<|.v [82] (aN rfl ((aA out' y (by omega)).trans (by rw[gy]))) rfl rfl<|.a 2 rfl<|.v [84,85] (dR rfl (mZ T hv a ham)) rfl rfl<|.v [83,86] (aS rfl) rfl rfl<|.a 1 rfl<|.k [1,2,3,4,10,12,13,14,16] rfl) ?_
                obtain⟨p4,hp4⟩:∃q,decide (at' out' (x:Int)<0)=q:=⟨_,rfl⟩
                obtain⟨p5,hp5⟩:∃q,decide (at' out' (y:Int)+ca T a<at' out' (x:Int))=q:=⟨_,rfl⟩
                refine bp 100 (.raw (.bool (p4||p5))) [1,2,3,4,10,12,13,14,16] rfl ?_ ?_
                · refine .a 2 rfl<|.v (aL (x) rfl) rfl<|.v (aN rfl ((aA out' x (by omega)).trans (by rw[gx]))) rfl<|.v (cb rfl (hp4)) rfl<|.a 1 rfl<|?_
                  cases p4
                  · exact .a 3 rfl<|.v (aL (x) rfl) rfl<|.v (aN rfl ((aA out' x (by omega)).trans (by rw[gx]))) rfl<|.v (cb rfl (hp5)) rfl<|.a 1 rfl<|.k [100,1,2,3,4,10,12,13,14,16] rfl
                  · exact .a 7 rfl<|.k [100,1,2,3,4,10,12,13,14,16] rfl
                refine ah rfl (fun hc=>?_) (fun hc=>?_)
                · have hg:kD T D n dir out' a:=⟨hway,by
                    rw[hx,hy]
                    rcases Bool.or_eq_true_iff.1 hc with h|h
                    · rw[h]at hp4;exact .inl (of_decide_eq_true hp4)
                    · rw[h]at hp5;exact .inr (of_decide_eq_true hp5)⟩
                  obtain⟨hIg,hmg⟩:=qV hS hI' a ham hg
                  have hge:yE T dir out' a=out'.set x (at' out' (y:Int)+ca T a):=by unfold yE;rw[hx,hy,Int.toNat_natCast]
                  rw[hge]at hIg hmg
                  refine aQ<|au 3 rfl<|bE (aL (x) rfl) rfl<|bc ((by first|exact bC rfl (bI.tk.get rfl) rfl rfl rfl (by first|omega|(simp;omega))|exact aW rfl (bI.tk.get rfl) rfl rfl rfl (by first|omega|(simp;omega)))) rfl rfl<|aH [1,2,3,4,10,13] rfl ?_
                  refine az (.a 1 rfl<|.k [1,2,3,4,10,12,13] rfl) ?_
                  refine az (.a 1 rfl<|.v (aS rfl) rfl<|.a 1 rfl<|.k [1,2,3,4,10,12,13] rfl) ?_
                  first
                    |exact⟨2*T.af.length - (a+1),by omega,a+1,_,true,by omega,hIg,fun h=>(by cases h),fun _=>(by by_cases e:b'=true;(have:=ht' e;omega);(have:=(hb' (by cases b';rfl;exact absurd rfl e)).1;rw[this]at hmg;rw[this];exact hmg)),rfl,rfl⟩
                    |exact⟨2*T.af.length - (a+1),by omega,a+1,out',b',by omega,hI',fun h=>⟨(hb' h).1,fun c hc'=>by by_cases e:c=a;(rw[e,←(hb' h).1];exact hng);exact(hb' h).2 c (by omega)⟩,ht',rfl,rfl⟩
                · have hng:¬kD T D n dir out' a:=fun hg=>by
                    obtain⟨_,hg⟩:=hg
                    rw[hx,hy]at hg
                    obtain⟨c1,c2⟩:=Bool.or_eq_false_iff.1 hc
                    rw[c1]at hp4
                    rw[c2]at hp5
                    rcases hg with h|h
                    · exact of_decide_eq_false hp4 h
                    · exact of_decide_eq_false hp5 h
                  refine ak<|az (.a 1 rfl<|.v (aS rfl) rfl<|.a 1 rfl<|.k [1,2,3,4,10,12,13] rfl) ?_
                  first
                    |exact⟨2*T.af.length - (a+1),by omega,a+1,_,true,by omega,hIg,fun h=>(by cases h),fun _=>(by by_cases e:b'=true;(have:=ht' e;omega);(have:=(hb' (by cases b';rfl;exact absurd rfl e)).1;rw[this]at hmg;rw[this];exact hmg)),rfl,rfl⟩
                    |exact⟨2*T.af.length - (a+1),by omega,a+1,out',b',by omega,hI',fun h=>⟨(hb' h).1,fun c hc'=>by by_cases e:c=a;(rw[e,←(hb' h).1];exact hng);exact(hb' h).2 c (by omega)⟩,ht',rfl,rfl⟩
            · obtain ⟨x, y, hx, hy, ex, ey⟩ : ∃ x y : Nat, fp T dir a = (x : Int) ∧ cK T dir a = (y : Int) ∧ x = p ∧ y = q := ⟨p, q, by rw [hdir]; exact hp, by rw [hdir]; exact hq, rfl, rfl⟩
              subst ex
              subst ey
              refine ak<|aj ?_
              have gx:out'.getD x 0=at' out' (x:Int):=by simp[at',List.getD_eq_getElem?_getD,show x<out'.length by omega]
              have gy:out'.getD y 0=at' out' (y:Int):=by simp[at',List.getD_eq_getElem?_getD,show y<out'.length by omega]
              have uy:=hI'.ub y (by omega) (by omega)
              have ly:=hI'.ge y (by omega)
              obtain⟨p1,hp1⟩:∃q,(!aM D a)=q:=⟨_,rfl⟩
              obtain⟨p2,hp2⟩:∃q,decide (out'.getD y 0<0)=q:=⟨_,rfl⟩
              obtain⟨p3,hp3⟩:∃q,(decide (y=n)|| !cR T y)=q:=⟨_,rfl⟩
              refine bp 79 (.raw (.bool (((!p1)||p2)||(!p3)))) [1,2,3,4,10,12,13,14,15] rfl ?_ ?_
              · refine .a 2 rfl<|.c rfl (hp1▸ua D a hDl) rfl<|.a 2 rfl<|?_
                cases p1
                · exact .a 13 rfl<|.k [79,1,2,3,4,10,12,13,14,15] rfl
                · refine .a 2 rfl<|.v (aL (y) rfl) rfl<|.v (aN rfl (aA out' y (by omega))) rfl<|.v (cb rfl (hp2)) rfl<|.a 2 rfl<|?_
                  cases p2
                  · exact .a 3 rfl<|.c rfl (hp3▸kp T hv y n) rfl<|.a 2 rfl<|.k [79,1,2,3,4,10,12,13,14,15] rfl
                  · exact .a 6 rfl<|.k [79,1,2,3,4,10,12,13,14,15] rfl
              refine ah rfl (fun hc=>?_) (fun hc=>?_)
              · have hng:¬kD T D n dir out' a:=fun hg=>by
                  obtain⟨⟨w1,w2,w3⟩,_⟩:=hg
                  rw[hy]at w2 w3
                  have e1:p1=true:=by rw[←hp1,w1];rfl
                  have e2:p2=false:=by rw[←hp2,gy];simp;omega
                  have e3:p3=true:=by
                    rw[←hp3]
                    rcases w3 with w3|w3
                    · have:y=n:=by omega
                      simp[this]
                    · rw[Int.toNat_natCast]at w3;simp[w3]
                  rw[e1,e2,e3]at hc
                  cases hc
                refine bg<|az (.a 1 rfl<|.v (aS rfl) rfl<|.a 1 rfl<|.k [1,2,3,4,10,12,13] rfl) ?_
                first
                  |exact⟨2*T.af.length - (a+1),by omega,a+1,_,true,by omega,hIg,fun h=>(by cases h),fun _=>(by by_cases e:b'=true;(have:=ht' e;omega);(have:=(hb' (by cases b';rfl;exact absurd rfl e)).1;rw[this]at hmg;rw[this];exact hmg)),rfl,rfl⟩
                  |exact⟨2*T.af.length - (a+1),by omega,a+1,out',b',by omega,hI',fun h=>⟨(hb' h).1,fun c hc'=>by by_cases e:c=a;(rw[e,←(hb' h).1];exact hng);exact(hb' h).2 c (by omega)⟩,ht',rfl,rfl⟩
              · have hway:Net.Way T D n dir out' a:=by
                  obtain⟨c1,c3⟩:=Bool.or_eq_false_iff.1 hc
                  obtain⟨c1,c2⟩:=Bool.or_eq_false_iff.1 c1
                  have e1:p1=true:=by cases p1;cases c1;rfl
                  have e3:p3=true:=by cases p3;cases c3;rfl
                  rw[e1]at hp1
                  rw[c2]at hp2
                  rw[e3]at hp3
                  refine⟨by revert hp1;cases aM D a<;>simp,?_,?_⟩
                  · rw[hy,←gy];have:=of_decide_eq_false hp2;omega
                  · rw[hy,Int.toNat_natCast]
                    rcases Bool.or_eq_true_iff.1 hp3 with h|h
                    · exact .inl (by have:=of_decide_eq_true h;omega)
                    · exact .inr (by revert h;cases cR T y<;>simp)
                have wy:=hway.2.1
                rw[hy]at wy
                refine ak<|ei mixed (by kernel_rfl) (.a 2 rfl<|.v [80,81] (aL (y) rfl) rfl rfl<|.v [82] (aN rfl ((aA out' y (by omega)).trans (by rw[gy]))) rfl rfl<|.a 2 rfl<|.v [84,85] (dR rfl (mZ T hv a ham)) rfl rfl<|.v [83,86] (aS rfl) rfl rfl<|.a 1 rfl<|.k [1,2,3,4,10,12,13,14,16] rfl) ?_
                obtain⟨p4,hp4⟩:∃q,decide (at' out' (x:Int)<0)=q:=⟨_,rfl⟩
                obtain⟨p5,hp5⟩:∃q,decide (at' out' (y:Int)+ca T a<at' out' (x:Int))=q:=⟨_,rfl⟩
                refine bp 100 (.raw (.bool (p4||p5))) [1,2,3,4,10,12,13,14,16] rfl ?_ ?_
                · refine .a 2 rfl<|.v (aL (x) rfl) rfl<|.v (aN rfl ((aA out' x (by omega)).trans (by rw[gx]))) rfl<|.v (cb rfl (hp4)) rfl<|.a 1 rfl<|?_
                  cases p4
                  · exact .a 3 rfl<|.v (aL (x) rfl) rfl<|.v (aN rfl ((aA out' x (by omega)).trans (by rw[gx]))) rfl<|.v (cb rfl (hp5)) rfl<|.a 1 rfl<|.k [100,1,2,3,4,10,12,13,14,16] rfl
                  · exact .a 7 rfl<|.k [100,1,2,3,4,10,12,13,14,16] rfl
                refine ah rfl (fun hc=>?_) (fun hc=>?_)
                · have hg:kD T D n dir out' a:=⟨hway,by
                    rw[hx,hy]
                    rcases Bool.or_eq_true_iff.1 hc with h|h
                    · rw[h]at hp4;exact .inl (of_decide_eq_true hp4)
                    · rw[h]at hp5;exact .inr (of_decide_eq_true hp5)⟩
                  obtain⟨hIg,hmg⟩:=qV hS hI' a ham hg
                  have hge:yE T dir out' a=out'.set x (at' out' (y:Int)+ca T a):=by unfold yE;rw[hx,hy,Int.toNat_natCast]
                  rw[hge]at hIg hmg
                  refine aQ<|au 3 rfl<|bE (aL (x) rfl) rfl<|bc ((by first|exact bC rfl (bI.tk.get rfl) rfl rfl rfl (by first|omega|(simp;omega))|exact aW rfl (bI.tk.get rfl) rfl rfl rfl (by first|omega|(simp;omega)))) rfl rfl<|aH [1,2,3,4,10,13] rfl ?_
                  refine az (.a 1 rfl<|.k [1,2,3,4,10,12,13] rfl) ?_
                  refine az (.a 1 rfl<|.v (aS rfl) rfl<|.a 1 rfl<|.k [1,2,3,4,10,12,13] rfl) ?_
                  first
                    |exact⟨2*T.af.length - (a+1),by omega,a+1,_,true,by omega,hIg,fun h=>(by cases h),fun _=>(by by_cases e:b'=true;(have:=ht' e;omega);(have:=(hb' (by cases b';rfl;exact absurd rfl e)).1;rw[this]at hmg;rw[this];exact hmg)),rfl,rfl⟩
                    |exact⟨2*T.af.length - (a+1),by omega,a+1,out',b',by omega,hI',fun h=>⟨(hb' h).1,fun c hc'=>by by_cases e:c=a;(rw[e,←(hb' h).1];exact hng);exact(hb' h).2 c (by omega)⟩,ht',rfl,rfl⟩
                · have hng:¬kD T D n dir out' a:=fun hg=>by
                    obtain⟨_,hg⟩:=hg
                    rw[hx,hy]at hg
                    obtain⟨c1,c2⟩:=Bool.or_eq_false_iff.1 hc
                    rw[c1]at hp4
                    rw[c2]at hp5
                    rcases hg with h|h
                    · exact of_decide_eq_false hp4 h
                    · exact of_decide_eq_false hp5 h
                  refine ak<|az (.a 1 rfl<|.v (aS rfl) rfl<|.a 1 rfl<|.k [1,2,3,4,10,12,13] rfl) ?_
                  first
                    |exact⟨2*T.af.length - (a+1),by omega,a+1,_,true,by omega,hIg,fun h=>(by cases h),fun _=>(by by_cases e:b'=true;(have:=ht' e;omega);(have:=(hb' (by cases b';rfl;exact absurd rfl e)).1;rw[this]at hmg;rw[this];exact hmg)),rfl,rfl⟩
                    |exact⟨2*T.af.length - (a+1),by omega,a+1,out',b',by omega,hI',fun h=>⟨(hb' h).1,fun c hc'=>by by_cases e:c=a;(rw[e,←(hb' h).1];exact hng);exact(hb' h).2 c (by omega)⟩,ht',rfl,rfl⟩
          · have hae:a=2*T.af.length:=by have:=of_decide_eq_false hc;omega
            refine kE (.cons (k:=1) rfl<|.cons (k:=2) rfl<|.cons (k:=3) rfl<|.cons (k:=4) rfl<|.cons (k:=10) rfl<|.cons (k:=12) rfl<|Sub.nil _) ?_
            refine bg<|⟨_,?_,out',b',hI',fun h=>?_,rfl,rfl⟩
            · cases b'
              · rw[(hb' rfl).1];simp
              · have:=ht' rfl;simp;omega
            · rw[(hb' h).1];intro c hc';exact(hb' h).2 c (by omega)
        · have hdist:bu T D n dir=out:=jF hS (wh hI (hb hc))
          refine bg<|ab (.a 3 rfl<|.k [8,9] rfl)<|aq<|⟨_,_,ay.of rfl,aB.bG (an.cons (aB.ew rfl an.pure) (an.cons aB.pure an.nil)),?_⟩
          unfold dx
          rw[hch,if_pos rfl,Int.toNat_natCast,hdist]
          unfold aw
          rw[show out.length=k by have:=hI.len;omega]
theorem ob(T:ai)(D:List Bool)(d:Int):Can Tryz.prog 36 [aP T,aY D,num d] (· =dx (cw T D [d]) (bu T D d.toNat false)):=by
 exact aE Tryz.func36 rfl Tryz.ntmps36 rfl<|ab (.a 3 rfl<|.k [1,2,3] rfl)<|ab (.a 3 rfl<|.c rfl (vD T D d false) rfl<|.a 4 rfl<|.k [6,7] rfl)<|aq<|⟨_,_,ay.of rfl,aB.pure,rfl⟩
end PW
end Go.Proofs.YtnegbdpggideiaaGreatDoor
namespace Go.Proofs.YtnegbdpggideiaaGreatDoor
namespace PW
open Go.RowKit cB Mem Net
def H7(T:ai)(D:List Bool)(L:List Int)(a d:Nat):Bool:=
 ((((!aM D a)&&decide (bb T a≠(d:Int)))&&decide (0≤L.getD (aT T a).toNat 0))&&(decide ((aT T a).toNat=d)|| !cR T (aT T a).toNat))&&decide (L.getD (bb T a).toNat 0=L.getD (aT T a).toNat 0+ca T a)
theorem Ih(T:ai)(D:List Bool)(L:List Int)(a d:Nat)(hv:ao T=true)(hf:bP T D=true)(hL:(L.length:Int)=T.nodes)(hub:∀x∈L, -1≤x∧x≤4194240)(ha:a<2*T.af.length):
  Can Tryz.prog 44 [aP T,aY D,aw L,num a,num d] (· =flag (H7 T D L a d)):=by
 have hS:=aK hv
 obtain⟨x,hx⟩:=Int.eq_ofNat_of_zero_le (hS.tail a ha).1
 obtain⟨y,hy⟩:=Int.eq_ofNat_of_zero_le (hS.head a ha).1
 have hxL:x<L.length:=by have:=(hS.tail a ha).2;omega
 have hyL:y<L.length:=by have:=(hS.head a ha).2;omega
 have hcb:=hS.cost a ha
 have hDl:D.length=0∨a<D.length:=by simp only[bP,decide_eq_true_eq]at hf;omega
 have uy:=hub _ (bX (d:=0) hyL)
 obtain⟨p1,hp1⟩:∃q,(!aM D a)=q:=⟨_,rfl⟩
 obtain⟨p2,hp2⟩:∃q,decide ((x:Int)≠(d:Int))=q:=⟨_,rfl⟩
 obtain⟨p3,hp3⟩:∃q,decide (0≤L.getD y 0)=q:=⟨_,rfl⟩
 obtain⟨p4,hp4⟩:∃q,(decide (y=d)|| !cR T y)=q:=⟨_,rfl⟩
 obtain⟨p5,hp5⟩:∃q,decide (L.getD x 0=L.getD y 0+ca T a)=q:=⟨_,rfl⟩
 have hon:H7 T D L a d=((((p1&&p2)&&p3)&&p4)&&p5):=by
  unfold H7
  rw[hx,hy,Int.toNat_natCast,Int.toNat_natCast,hp1,hp2,hp3,hp4,hp5]
 rw[hon]
 refine aE Tryz.func44 rfl Tryz.ntmps44 rfl<|ab (.a 2 rfl<|.k [1,2,3,4,5] rfl)<|ei mixed (by kernel_rfl) (.a 2 rfl<|.v [13,14] (dR rfl (hx▸gC T hv a ha)) rfl rfl<|.a 2 rfl<|.v [16,17] (dR rfl (hy▸gJ T hv a ha)) rfl rfl<|.a 2 rfl<|.k [1,2,3,4,5,11,12] rfl) ?_
 refine mE mixed (by kernel_rfl) 10 (.raw (.bool ((((p1&&p2)&&p3)&&p4)&&p5))) [] rfl ?_ ?_
 ·refine .a 2 rfl<|.v [19,20] (dR rfl (hp1▸ua D a hDl)) rfl rfl<|.a 1 rfl<|?_
  cases p1
  ·exact .a 33 rfl<|.k [10] rfl
  ·refine .a 2 rfl<|.v [23,24] (cb rfl (hp2)) rfl rfl<|.a 2 rfl<|?_
   cases p2
   ·exact .a 28 rfl<|.k [10] rfl
   ·refine .a 2 rfl<|.v [28,29] (aL (y) rfl) rfl rfl<|.v [30] (aN rfl (aA L y hyL)) rfl rfl<|.v [31] (cb rfl (hp3)) rfl rfl<|.a 2 rfl<|?_
    cases p3
    ·exact .a 21 rfl<|.k [10] rfl
    ·refine .a 3 rfl<|.v [35,36,37] (dR rfl (hp4▸kp T hv y d)) rfl rfl<|.a 2 rfl<|?_
     cases p4
     ·exact .a 15 rfl<|.k [10] rfl
     ·exact .a 2 rfl<|.v [41,42] (aL (x) rfl) rfl rfl<|.v [43] (aN rfl (aA L x hxL)) rfl rfl<|.a 2 rfl<|.v [45,46] (aL (y) rfl) rfl rfl<|.v [47] (aN rfl (aA L y hyL)) rfl rfl<|.a 2 rfl<|.v [49,50] (dR rfl (mZ T hv a ha)) rfl rfl<|.v [48,51] (aS rfl) rfl rfl<|.v [44,52] (cb rfl (hp5)) rfl rfl<|.a 2 rfl<|.k [10] rfl
 exact aq<|⟨_,_,ay.of rfl,aB.pure,rfl⟩
end PW
end Go.Proofs.YtnegbdpggideiaaGreatDoor
namespace Go.Proofs.YtnegbdpggideiaaGreatDoor
namespace PW
open Go.RowKit cB Mem Net
end PW
end Go.Proofs.YtnegbdpggideiaaGreatDoor
namespace Go.Proofs.YtnegbdpggideiaaGreatDoor
namespace PW
open Go.RowKit cB Mem Net
theorem Bd(a b c d:Int)(w:World):(Op.equalIn 10000 103 (.agg #[.int .i64 a,.int .i64 b]) (.agg #[.int .i64 c,.int .i64 d])).run Tryz.prog w= .ok (a==c&&b==d) w:=by
 have u3:=Tryz.underlying3
 have a3:=Tryz.isAgg3
 have z3:=Tryz.sizeOf3
 have hS:Tryz.prog.underlying 103=some (.struct (Tryz.prog.fieldsOf 103)):=by kernel_rfl
 rw[show(10000:Nat)=9999+1 from rfl,run_equalIn_agg w 9999 103 _ _ hS (by kernel_rfl)]
 simp only[Program.fieldsOf,Tryz.underlying103]
 go_simp
 by_cases h1:a=c<;>by_cases h2:b=d<;>simp[h1,h2]
theorem zb{E:Env}{w:World}{v:Value}{s:b7}(h:cD E w v (yM s)):v= .agg #[.int .i64 s.kind,.int .i64 s.num]:=by
 unfold yM mY at h
 cases h with
 |agg cs _ hl hr=>
  obtain⟨l⟩:=cs
  match l,hl,hr with
  | [x,y],_,hr=>
   have h0:=dQ (hr 0 x _ rfl rfl)
   have h1:=dQ (hr 1 y _ rfl rfl)
   subst h0;subst h1;rfl
  | [],hl,_=>simp at hl
  | [_],hl,_=>simp at hl
  |_::_::_::_,hl,_=>simp at hl
theorem DE{σ:cd}{t:bY}{o:Oper}{x y:Operand}{tz:TypeId}{a b:b7}{q:Bool}(ho:o.op= .binOp .eql 103 x y tz)(hx:aC t x=some (yM a))(hy:aC t y=some (yM b))(hq:decide (a=b)=q):bm Tryz.prog σ t o (.raw (.bool q)):=by
 intro F base E ρ w hρ _ hT
 have h1:=zb (ax hρ hT hx)
 have h2:=zb (ax hρ hT hy)
 have hb:(a.kind==b.kind&&a.num==b.num)=q:=by
  rw[←hq]
  obtain⟨a1,a2⟩:=a
  obtain⟨b1,b2⟩:=b
  by_cases e1:a1=b1<;>by_cases e2:a2=b2<;>simp[e1,e2]
 simp only[execOp,ho,h1,h2,Sem.run_bind,run_eqGuard_agg w _ _ _ _ _ _ (show Tryz.prog.eqGuardType Tryz.prog.depth 103=false by kernel_rfl),Result.andThen_ok,run_eql_struct,Bd,Sem.run_pure,hb]
 exact bh (.raw _)
end PW
end Go.Proofs.YtnegbdpggideiaaGreatDoor
namespace Go.Proofs.YtnegbdpggideiaaGreatDoor
namespace PW
open Go.RowKit cB Mem Net
deriving instance DecidableEq for iC
deriving instance DecidableEq for ee
theorem EY{E:Env}{w:World}{v:Value}{x:ee}(h:cD E w v (fN x)):x.fq.length≤maxLen∧x.down.length≤maxLen:=by
 unfold fN fT at h
 cases h with
 |agg cs _ hl hr=>
  have hr:aU E w cs.toList _:=⟨by simpa using hl,fun i x u h1 h2=>hr i x u (by simpa using h1) h2⟩
  obtain⟨v1,_,h1⟩:=hr.get (i:=1) rfl
  obtain⟨v2,_,h2⟩:=hr.get (i:=2) rfl
  exact⟨ml h1,ml h2⟩
end PW
end Go.Proofs.YtnegbdpggideiaaGreatDoor
namespace Go.Proofs.YtnegbdpggideiaaGreatDoor
namespace PW
open Go.RowKit cB Mem Net
def nT(T:ai)(s:b7):Bool:=if s.kind=1 then bn T s.num else if s.kind=2 then fB T s.num else if s.kind=3 then bR s.num 1 64 else if s.kind=4 then bR s.num 0 65535 else false
def eP(T:ai)(n:Int)(L:List Int):Bool:=decide (∀i,i<L.length→fB T (L.getD i 0)=true∧bb T (L.getD i 0).toNat=n∧(0<i→L.getD (i - 1) 0<L.getD i 0))
def jb(T:ai)(n d:Int)(e:iC):Bool:=eP T n e.aI&&(!(decide (d=n)&&decide (0<(e.aI.length:Int))))&&(if e.rep then decide ((e.aI.length:Int)=1)&&decide ((e.push.length:Int)≤32)&&e.push.all (nT T) else decide ((e.push.length:Int)=0))
def HG:iC:=⟨[],false,[]⟩
def mO(T:ai)(n:Int)(l:List iC):Bool:=decide (∀d,d<l.length→jb T n d (l.getD d HG)=true)
def ed(T:ai)(x:ee):Bool:=ao T&&bn T x.node&&decide ((x.fq.length:Int)=T.nodes)&&eP T x.node x.down&&mO T x.node x.fq
theorem dc{T:ai}{a:Int}:fB T a=true↔0≤a∧a<2*(T.af.length:Int):=by simp[fB]
theorem oJ(T:ai)(a:Int)(h:fB T a=true):Can Tryz.prog 79 [aP T,num a] (· =num (bb T a.toNat)):=by
 obtain⟨h0,h1⟩:=dc.1 h
 obtain⟨a,rfl⟩:=Int.eq_ofNat_of_zero_le h0
 exact iT T a (by omega)
theorem Et(T:ai)(hl:T.af.length≤4611686018427387903)(s:b7):Can Tryz.prog 171 [aP T,yM s] (· =flag (nT T s)):=by
 unfold nT
 refine aE Tryz.func171 rfl Tryz.ntmps171 rfl<|ab (.a 3 rfl<|.k [2,3] rfl)<|aj<|ab (.a 2 rfl<|.k [2,3,6] rfl)<|av<|ab (.a 2 rfl<|.k [2,3,6,7] rfl)<|ah rfl (fun hc=>?_) (fun hc=>?_)
 ·rw[if_pos (tt hc)]
  exact ab (.a 3 rfl<|.c rfl (dp T s.num) rfl<|.a 1 rfl<|.k [4] rfl)<|aq<|⟨_,_,ay.of rfl,aB.pure,rfl⟩
 ·rw[if_neg (ff hc)]
  refine ab (.a 2 rfl<|.k [2,3,6,13] rfl)<|ah rfl (fun hc=>?_) (fun hc=>?_)
  ·rw[if_pos (tt hc)]
   exact ab (.a 3 rfl<|.c rfl (pS T hl s.num) rfl<|.a 1 rfl<|.k [4] rfl)<|aq<|⟨_,_,ay.of rfl,aB.pure,rfl⟩
  ·rw[if_neg (ff hc)]
   refine ab (.a 2 rfl<|.k [3,6,19] rfl)<|ah rfl (fun hc=>?_) (fun hc=>?_)
   ·rw[if_pos (tt hc)]
    obtain⟨p1,hp1⟩:∃q,decide (1≤s.num)=q:=⟨_,rfl⟩
    obtain⟨p2,hp2⟩:∃q,decide (s.num≤64)=q:=⟨_,rfl⟩
    have he:bR s.num 1 64=(p1&&p2):=by rw[←hp1,←hp2];unfold bR;exact Bool.decide_and _ _
    rw[he]
    refine bp 4 (.raw (.bool (p1&&p2))) [] rfl ?_ ?_
    ·refine .a 2 rfl<|.v (cb rfl (hp1)) rfl<|.a 1 rfl<|?_
     cases p1
     ·exact .a 5 rfl<|.k [4] rfl
     ·exact .a 2 rfl<|.v (cb rfl (hp2)) rfl<|.a 2 rfl<|.k [4] rfl
    exact aq<|⟨_,_,ay.of rfl,aB.pure,rfl⟩
   ·rw[if_neg (ff hc)]
    refine ab (.a 2 rfl<|.k [3,29] rfl)<|ah rfl (fun hc=>?_) (fun hc=>?_)
    ·rw[if_pos (tt hc)]
     obtain⟨p1,hp1⟩:∃q,decide (0≤s.num)=q:=⟨_,rfl⟩
     obtain⟨p2,hp2⟩:∃q,decide (s.num≤65535)=q:=⟨_,rfl⟩
     have he:bR s.num 0 65535=(p1&&p2):=by rw[←hp1,←hp2];unfold bR;exact Bool.decide_and _ _
     rw[he]
     refine bp 4 (.raw (.bool (p1&&p2))) [] rfl ?_ ?_
     ·refine .a 2 rfl<|.v (cb rfl (hp1)) rfl<|.a 1 rfl<|?_
      cases p1
      ·exact .a 5 rfl<|.k [4] rfl
      ·exact .a 2 rfl<|.v (cb rfl (hp2)) rfl<|.a 2 rfl<|.k [4] rfl
     exact aq<|⟨_,_,ay.of rfl,aB.pure,rfl⟩
    ·rw[if_neg (ff hc)]
     exact ak<|ab (.a 1 rfl<|.k [4] rfl)<|aq<|⟨_,_,ay.of rfl,aB.pure,rfl⟩
def vz(T:ai)(n:Int)(L:List Int)(i:Nat):Bool:=decide (fB T (L.getD i 0)=true∧bb T (L.getD i 0).toNat=n∧(0<i→L.getD (i - 1) 0<L.getD i 0))
theorem By{T:ai}{n:Int}{L:List Int}(h:∀i,i<L.length→vz T n L i=true):eP T n L=true:=decide_eq_true fun i hi=>tt (h i hi)
theorem xL{T:ai}{n:Int}{L:List Int}{i:Nat}(hi:i<L.length)(h:vz T n L i=false):eP T n L=false:=decide_eq_false fun ha=>ff h (ha i hi)
theorem nq(T:ai)(hv:ao T=true)(n:Int)(L:List Int):Can Tryz.prog 140 [aP T,num n,aw L] (· =flag (eP T n L)):=by
 have hll:=bO hv
 refine pI fun⟨E,w,vs,hR⟩=>?_
 obtain⟨v,_,hv⟩:=hR.get (i:=2) rfl
 have hm:=ml hv
 unfold maxLen at hm
 refine aE Tryz.func140 rfl Tryz.ntmps140 rfl<|ab (.a 2 rfl<|.k [1,2,3] rfl)<|aj<|ab (.a 3 rfl<|.k [1,2,3,9,10,11] rfl)<|av<|ft [1,2,3,9,10,11] rfl<|br (fun r s=>∃k,k≤L.length∧r=L.length - k∧(∀i,i<k→vz T n L i=true)∧s=⟨[(1,num n),(2,aw L),(3,.aX (bx T) 0),(9,aw L),(10,num L.length),(11,num k)],[]⟩) L.length ⟨0,by omega,by omega,fun i hi=>by omega,rfl⟩ ?_
 rintro r s ⟨k,hk,rfl,hall,rfl⟩
 refine ab (.a 1 rfl<|.k [1,2,3,9,10,11,12] rfl)<|aj<|ah rfl (fun hc=>?_) (fun hc=>?_)
 ·have hlt:k<L.length:=by have:=tt hc;omega
  obtain⟨p1,hp1⟩:∃q,fB T (L.getD k 0)=q:=⟨_,rfl⟩
  obtain⟨p2,hp2⟩:∃q,decide (bb T (L.getD k 0).toNat≠n)=q:=⟨_,rfl⟩
  obtain⟨p3,hp3⟩:∃q,decide (0<(k:Int))=q:=⟨_,rfl⟩
  obtain⟨p4,hp4⟩:∃q,decide (L.getD k 0≤L.getD (k - 1) 0)=q:=⟨_,rfl⟩
  refine ak<|aj<|av<|ab (.a 1 rfl<|.v (aL (k) rfl) rfl<|.v (aN rfl (aA L k hlt)) rfl<|.a 2 rfl<|.k [1,2,3,7,8,9,10,11] rfl)<|bp 39 (.raw (.bool (((!p1)||p2)||(p3&&p4)))) [1,2,3,9,10,11] rfl ?_ ?_
  ·refine .a 2 rfl<|.c rfl (hp1▸pS T (by omega) (L.getD k 0)) rfl<|.a 2 rfl<|?_
   cases p1
   ·exact .a 19 rfl<|.k [39,1,2,3,9,10,11] rfl
   ·refine .a 2 rfl<|.c rfl (oJ T _ hp1) rfl<|.a 1 rfl<|.v (cb rfl (hp2)) rfl<|.a 2 rfl<|?_
    cases p2
    ·refine .a 1 rfl<|.v (cb rfl (hp3)) rfl<|.a 1 rfl<|?_
     cases p3
     ·exact .a 9 rfl<|.k [39,1,2,3,9,10,11] rfl
     ·exact .a 2 rfl<|.v (aS rfl) rfl<|.v (aL (k - 1) rfl (by have:=tt hp3;omega) (by omega)) rfl<|.v (aN rfl (aA L (k - 1) (by omega))) rfl<|.a 1 rfl<|.v (cb rfl (hp4)) rfl<|.a 2 rfl<|.k [39,1,2,3,9,10,11] rfl
    ·exact .a 12 rfl<|.k [39,1,2,3,9,10,11] rfl
  refine ah rfl (fun hx=>?_) (fun hx=>?_)
  ·have hno:vz T n L k=false:=by
    refine decide_eq_false fun⟨h1,h2,h3⟩=>?_
    rw[h1]at hp1
    rw[decide_eq_false (by simpa using h2)]at hp2
    subst hp1 hp2
    simp only[Bool.not_true,Bool.false_or,Bool.and_eq_true]at hx
    rw[hx.1]at hp3
    rw[hx.2]at hp4
    have:=h3 (by have:=tt hp3;omega)
    have:=tt hp4
    omega
   rw[xL hlt hno]
   exact ab (.a 1 rfl<|.k [6] rfl)<|aq<|⟨_,_,ay.of rfl,aB.pure,rfl⟩
  ·have hyes:vz T n L k=true:=by
    obtain⟨c1,c3⟩:=Bool.or_eq_false_iff.1 hx
    obtain⟨c1,c2⟩:=Bool.or_eq_false_iff.1 c1
    refine decide_eq_true ⟨?_,?_,fun h0=>?_⟩
    ·rw[hp1];simpa using c1
    ·rw[c2]at hp2;exact Classical.byContradiction (ff hp2)
    ·rw[decide_eq_true (by omega)]at hp3
     subst hp3
     rw[Bool.true_and]at c3
     rw[c3]at hp4
     have:=ff hp4
     omega
   refine ak<|az (.v (aS rfl) rfl<|.a 1 rfl<|.k [1,2,3,9,10,11] rfl) ?_
   refine⟨L.length - (k+1),by omega,k+1,by omega,rfl,fun i hi=>?_,rfl⟩
   by_cases h:i=k
   ·rw[h];exact hyes
   ·exact hall i (by omega)
 ·have hke:k=L.length:=by have:=ff hc;omega
  subst hke
  rw[By hall]
  exact bg<|ab (.a 1 rfl<|.k [6] rfl)<|aq<|⟨_,_,ay.of rfl,aB.pure,rfl⟩
theorem JS{α:Type}(p:α→Bool)(L:List α)(k:Nat)(a:α)(h:L[k]? =some a):(L.take (k+1)).all p=((L.take k).all p&&p a):=by
 rw[List.take_add_one,h,List.all_append];simp
theorem JF{α:Type}(p:α→Bool)(L:List α)(k:Nat)(a:α)(h:L[k]? =some a)(hp:p a=false):L.all p=false:=by
 rw[Bool.eq_false_iff]
 intro ha
 have:=List.all_eq_true.1 ha a (List.mem_of_getElem? h)
 rw[hp]at this
 cases this
theorem yq(T:ai)(hv:ao T=true)(e:iC)(n d:Int):Can Tryz.prog 141 [aP T,wN e,num n,num d] (· =flag (jb T n d e)):=by
 have hll:=bO hv
 obtain⟨p1,hp1⟩:∃q,eP T n e.aI=q:=⟨_,rfl⟩
 obtain⟨p2,hp2⟩:∃q,decide (d=n)=q:=⟨_,rfl⟩
 obtain⟨p3,hp3⟩:∃q,decide (0<(e.aI.length:Int))=q:=⟨_,rfl⟩
 unfold jb
 rw[hp1,hp2,hp3]
 refine aE Tryz.func141 rfl Tryz.ntmps141 rfl<|ab (.a 3 rfl<|.k [2,3,4,5] rfl)<|aj<|bp 27 (.raw (.bool ((!p1)||(p2&&p3)))) [4,5] rfl ?_ ?_
 ·refine .a 4 rfl<|.c rfl (hp1▸nq T hv n e.aI) rfl<|.a 2 rfl<|?_
  cases p1
  ·exact .a 10 rfl<|.k [27,4,5] rfl
  ·refine .a 2 rfl<|.v (cb rfl (hp2)) rfl<|.a 1 rfl<|?_
   cases p2
   ·exact .a 6 rfl<|.k [27,4,5] rfl
   ·exact .a 3 rfl<|.v (cb rfl (hp3)) rfl<|.a 2 rfl<|.k [27,4,5] rfl
 refine ah rfl (fun hc=>?_) (fun hc=>?_)
 ·have he:(p1&& !(p2&&p3))=false:=by cases p1<;>cases p2<;>cases p3<;>first|rfl|cases hc
  rw[he,Bool.false_and]
  exact ab (.a 1 rfl<|.k [8] rfl)<|aq<|⟨_,_,ay.of rfl,aB.pure,rfl⟩
 ·have he:(p1&& !(p2&&p3))=true:=by cases p1<;>cases p2<;>cases p3<;>first|rfl|cases hc
  rw[he,Bool.true_and]
  refine ak<|aj<|ab (.a 3 rfl<|.k [4,5,30] rfl)<|ah rfl (fun hc=>?_) (fun hc=>?_)
  ·have hr:e.rep=false:=by simpa using hc
   rw[hr,if_neg (by simp)]
   exact ab (.a 5 rfl<|.k [8] rfl)<|aq<|⟨_,_,ay.of rfl,aB.pure,rfl⟩
  ·have hr:e.rep=true:=by simpa using hc
   rw[hr,if_pos rfl]
   refine ak<|aj ?_
   obtain⟨p4,hp4⟩:∃q,decide ((e.aI.length:Int)≠1)=q:=⟨_,rfl⟩
   obtain⟨p5,hp5⟩:∃q,decide (32<(e.push.length:Int))=q:=⟨_,rfl⟩
   refine bp 44 (.raw (.bool (p4||p5))) [4,5] rfl ?_ ?_
   ·refine .a 3 rfl<|.v (cb rfl (hp4)) rfl<|.a 1 rfl<|?_
    cases p4
    ·exact .a 3 rfl<|.v (cb rfl (hp5)) rfl<|.a 1 rfl<|.k [44,4,5] rfl
    ·exact .a 5 rfl<|.k [44,4,5] rfl
   refine ah rfl (fun hx=>?_) (fun hx=>?_)
   ·have hf:(decide ((e.aI.length:Int)=1)&&decide ((e.push.length:Int)≤32))=false:=by
     rcases Bool.or_eq_true_iff.1 hx with h|h
     ·rw[h]at hp4;rw[decide_eq_false (tt hp4)];rfl
     ·rw[h]at hp5;rw[decide_eq_false (by have:=tt hp5;omega:¬((e.push.length:Int)≤32)),Bool.and_false]
    rw[hf,Bool.false_and]
    exact ab (.a 1 rfl<|.k [8] rfl)<|aq<|⟨_,_,ay.of rfl,aB.pure,rfl⟩
   ·obtain⟨c1,c2⟩:=Bool.or_eq_false_iff.1 hx
    rw[c1]at hp4
    rw[c2]at hp5
    have hlen:e.push.length≤32:=by have:=ff hp5;omega
    rw[decide_eq_true (Classical.byContradiction (ff hp4)),decide_eq_true (by omega:(e.push.length:Int)≤32),Bool.true_and,Bool.true_and]
    refine ak<|aj<|ab (.a 4 rfl<|.k [4,46,47,48] rfl)<|av<|ft [4,46,47,48] rfl<|br (fun r s=>∃k,k≤e.push.length∧r=e.push.length - k∧(e.push.take k).all (nT T)=true∧s=⟨[(4,.aX (bx T) 0),(46,cI e.push),(47,num e.push.length),(48,num k)],[]⟩) e.push.length ⟨0,by omega,by omega,by simp,rfl⟩ ?_
    rintro r s ⟨k,hk,rfl,hall,rfl⟩
    refine ab (.a 1 rfl<|.k [4,46,47,48,49] rfl)<|aj<|ah rfl (fun hy=>?_) (fun hy=>?_)
    ·have hlt:k<e.push.length:=by have:=tt hy;omega
     obtain⟨a,ha⟩:∃a,e.push[k]? =some a:=⟨e.push[k],by simp[hlt]⟩
     refine ak<|aj<|av<|aQ<|bE (aL (k*2) rfl) rfl<|bE (fU rfl (og e.push k a ha) rfl) rfl<|au 2 rfl<|aH [4,10,46,47,48] rfl ?_
     refine ab (.a 2 rfl<|.c rfl (Et T (by omega) a) rfl<|.a 1 rfl<|.k [4,46,47,48,55] rfl)<|cZ [] (.c 4<|.c 46<|.c 47<|.c 48<|.c 55 .nil) .nil rfl rfl ?_
     refine ah rfl (fun hz=>?_) (fun hz=>?_)
     ·rw[JF _ _ k a ha (by simpa using hz)]
      exact ab (.a 1 rfl<|.k [8] rfl)<|aq<|⟨_,_,ay.of rfl,aB.pure,rfl⟩
     ·have hz':nT T a=true:=by simpa using hz
      refine ak<|az (.v (aS rfl) rfl<|.a 1 rfl<|.k [4,46,47,48] rfl) ?_
      exact⟨e.push.length - (k+1),by omega,k+1,by omega,rfl,by rw[JS _ _ k a ha,hall,hz'];rfl,rfl⟩
    ·have hke:k=e.push.length:=by have:=ff hy;omega
     subst hke
     rw[List.take_length]at hall
     rw[hall]
     exact bg<|ab (.a 1 rfl<|.k [8] rfl)<|aq<|⟨_,_,ay.of rfl,aB.pure,rfl⟩
theorem lQ(l:List iC)(k:Nat)(e:iC)(h:l[k]? =some e):l.getD k HG=e:=by rw[List.getD_eq_getElem?_getD,h];rfl
theorem vp{T:ai}{n:Int}{l:List iC}{k:Nat}{e:iC}(h:l[k]? =some e)(hf:jb T n k e=false):mO T n l=false:=decide_eq_false fun ha=>by
 have:=ha k (List.getElem?_eq_some_iff.1 h).1
 rw[lQ l k e h,hf]at this
 cases this
theorem jf{T:ai}{n:Int}{l:List iC}(h:∀(k:Nat) e,l[k]? =some e→jb T n k e=true):mO T n l=true:=decide_eq_true fun d hd=>by
 have he:l[d]? =some l[d]:=by simp[hd]
 rw[lQ l d _ he]
 exact h d _ he
theorem qT(T:ai)(x:ee):Can Tryz.prog 99 [aP T,fN x] (· =flag (ed T x)):=by
 refine pI fun⟨E,w,vs,hR⟩=>?_
 obtain⟨v,_,hvv⟩:=hR.get (i:=1) rfl
 have hm:=(EY hvv).1
 unfold maxLen at hm
 obtain⟨p1,hp1⟩:∃q,ao T=q:=⟨_,rfl⟩
 obtain⟨p2,hp2⟩:∃q,bn T x.node=q:=⟨_,rfl⟩
 obtain⟨p3,hp3⟩:∃q,decide ((x.fq.length:Int)≠T.nodes)=q:=⟨_,rfl⟩
 obtain⟨p4,hp4⟩:∃q,eP T x.node x.down=q:=⟨_,rfl⟩
 have he:decide ((x.fq.length:Int)=T.nodes)= !p3 :=by rw[←hp3];simp
 unfold ed
 rw[hp1,hp2,he,hp4]
 refine aE Tryz.func99 rfl Tryz.ntmps99 rfl<|ab (.a 3 rfl<|.k [2,3] rfl)<|aj<|bp 33 (.raw (.bool ((((!p1)|| !p2)||p3)|| !p4))) [2,3] rfl ?_ ?_
 ·refine .a 1 rfl<|.c rfl (hp1▸eh T) rfl<|.a 2 rfl<|?_
  cases p1
  ·exact .a 23 rfl<|.k [33,2,3] rfl
  ·refine .a 3 rfl<|.c rfl (hp2▸dp T x.node) rfl<|.a 3 rfl<|?_
   cases p2
   ·exact .a 16 rfl<|.k [33,2,3] rfl
   ·refine .a 5 rfl<|.v (cb rfl (hp3)) rfl<|.a 2 rfl<|?_
    cases p3
    ·exact .a 5 rfl<|.c rfl (hp4▸nq T hp1 x.node x.down) rfl<|.a 2 rfl<|.k [33,2,3] rfl
    ·exact .a 8 rfl<|.k [33,2,3] rfl
 refine ah rfl (fun hc=>?_) (fun hc=>?_)
 ·have hf:(p1&&p2&& !p3 &&p4)=false:=by cases p1<;>cases p2<;>cases p3<;>cases p4<;>first|rfl|cases hc
  rw[hf,Bool.false_and]
  exact ab (.a 1 rfl<|.k [4] rfl)<|aq<|⟨_,_,ay.of rfl,aB.pure,rfl⟩
 ·have hf:(p1&&p2&& !p3 &&p4)=true:=by cases p1<;>cases p2<;>cases p3<;>cases p4<;>first|rfl|cases hc
  rw[hf,Bool.true_and]
  have e1:p1=true:=by cases p1<;>simp_all
  rw[e1]at hp1
  refine ak<|aj<|ab (.a 4 rfl<|.k [2,3,35,36,37] rfl)<|av<|ft [2,3,35,36,37] rfl<|br (fun r s=>∃k,k≤x.fq.length∧r=x.fq.length - k∧(∀(i:Nat) e,i<k→x.fq[i]? =some e→jb T x.node i e=true)∧s=⟨[(2,.aX (bx T) 0),(3,.aX (fT x) 0),(35,jQ x.fq),(36,num x.fq.length),(37,num k)],[]⟩) x.fq.length ⟨0,by omega,by omega,fun i e hi=>by omega,rfl⟩ ?_
  rintro r s ⟨k,hk,rfl,hall,rfl⟩
  refine ab (.a 1 rfl<|.k [2,3,35,36,37,38] rfl)<|aj<|ah rfl (fun hy=>?_) (fun hy=>?_)
  ·have hlt:k<x.fq.length:=by have:=tt hy;omega
   obtain⟨e,hek⟩:∃a,x.fq[k]? =some a:=⟨x.fq[k],by simp[hlt]⟩
   refine ak<|aj<|av<|aQ<|au 1 rfl<|bE (aL (k*3) rfl) rfl<|bE (fU rfl (oY x.fq k e hek) rfl) rfl<|au 3 rfl<|aH [2,3,5,6,35,36,37] rfl ?_
   refine ab (.a 5 rfl<|.c rfl (yq T hp1 e x.node k) rfl<|.a 1 rfl<|.k [2,3,35,36,37,48] rfl)<|cZ [] (.c 2<|.c 3<|.c 35<|.c 36<|.c 37<|.c 48 .nil) .nil rfl rfl ?_
   refine ah rfl (fun hz=>?_) (fun hz=>?_)
   ·rw[vp hek (by simpa using hz)]
    exact ab (.a 1 rfl<|.k [4] rfl)<|aq<|⟨_,_,ay.of rfl,aB.pure,rfl⟩
   ·have hz':jb T x.node k e=true:=by simpa using hz
    refine ak<|az (.v (aS rfl) rfl<|.a 1 rfl<|.k [2,3,35,36,37] rfl) ?_
    refine⟨x.fq.length - (k+1),by omega,k+1,by omega,rfl,fun i e' hi he'=>?_,rfl⟩
    by_cases h:i=k
    ·subst h;rw[hek]at he';cases he';exact hz'
    ·exact hall i e' (by omega) he'
  ·have hke:k=x.fq.length:=by have:=ff hy;omega
   rw[jf fun i e hi=>hall i e (by have:=(List.getElem?_eq_some_iff.1 hi).1;omega) hi]
   exact bg<|ab (.a 1 rfl<|.k [4] rfl)<|aq<|⟨_,_,ay.of rfl,aB.pure,rfl⟩
end PW
end Go.Proofs.YtnegbdpggideiaaGreatDoor
namespace Go.Proofs.YtnegbdpggideiaaGreatDoor
namespace PW
open Go.RowKit cB Mem Net
theorem lu(T:ai)(n:Int):(bJ T n).Pairwise (· < ·):=by
 unfold bJ iy
 refine List.Pairwise.map _ (fun a b h=>?_) ((List.pairwise_lt_range (n:=2*T.af.length)).filter _)
 show(a:Int)<(b:Int)
 omega
theorem i6{T:ai}{n:Int}{a:Int}:a∈bJ T n↔fB T a=true∧bb T a.toNat=n:=by
 unfold bJ iy
 rw[List.mem_map,dc]
 constructor
 ·rintro⟨b,hb,rfl⟩
  obtain⟨h1,h2⟩:=List.mem_filter.1 hb
  have:=List.mem_range.1 h1
  refine⟨⟨by simp,by simp;omega⟩,by simpa using h2⟩
 ·rintro⟨⟨h0,h1⟩,h2⟩
  refine⟨a.toNat,List.mem_filter.2 ⟨List.mem_range.2 (by omega),by simpa using h2⟩,by simp;omega⟩
theorem rz{T:ai}{n:Int}{L:List Int}(hs:L.Pairwise (· < ·))(hm:∀a∈L,fB T a=true∧bb T a.toNat=n):eP T n L=true:=decide_eq_true fun i hi=>by
 have h1:=hm _ (bX (d:=0) hi)
 refine⟨h1.1,h1.2,fun h0=>?_⟩
 have:=List.pairwise_iff_getElem.1 hs (i - 1) i (by omega) hi (by omega)
 rw[List.getD_eq_getElem?_getD,List.getD_eq_getElem?_getD,List.getElem?_eq_getElem hi,List.getElem?_eq_getElem (by omega:i - 1<L.length)]
 exact this
theorem lI(T:ai)(n:Int)(p:Int→Bool):eP T n ((bJ T n).filter p)=true:=rz ((lu T n).filter p) fun _ ha=>i6.1 (List.mem_filter.1 ha).1
theorem rE(T:ai)(D:List Bool)(n d:Nat):eP T n (bz T D n d)=true:=by
 unfold bz
 split
 ·exact decide_eq_true fun i hi=>by simp at hi
 ·exact lI T n _
theorem iO(T:ai)(D:List Bool)(n:Nat):bz T D n n=[]:=by unfold bz;rw[if_pos (.inl rfl)]
theorem ky{T:ai}{D:List Bool}(hv:ao T=true){n:Nat}(hn:(n:Int)<T.nodes):ed T (dE T D n)=true:=by
 unfold ed dE
 have h1:bn T (n:Int)=true:=aV.2 ⟨by omega,hn⟩
 have hN:=(aK hv).nodes
 have h2:decide (((oa T D n T.nodes.toNat).length:Int)=T.nodes)=true:=decide_eq_true (by rw[tG];omega)
 have h3:eP T n (cF D (bJ T n))=true:=lI T n _
 have h4:mO T n (oa T D n T.nodes.toNat)=true:=jf fun d e he=>by
  unfold oa at he
  rw[List.getElem?_map,Option.map_eq_some_iff]at he
  obtain⟨d',hd',rfl⟩:=he
  have hd:d'=d:=by
   have:=List.getElem?_eq_some_iff.1 hd'
   obtain⟨h,h'⟩:=this
   simpa using h'.symm
  subst hd
  unfold jb
  simp only[rE,Bool.true_and]
  by_cases hdn:d'=n
  ·subst hdn;rw[iO];simp
  ·rw[decide_eq_false (by omega)];simp
 rw[hv,h1,h2,h3,h4]
 rfl
theorem nd{T:ai}{D:List Bool}(hv:ao T=true){d x:Nat}(hd:(d:Int)<T.nodes)(hx:(x:Int)<T.nodes):(bu T D d false).getD x 0=at' (bu T D d false) (x:Int):=by
 have hl:=(dq (D:=D) hv (dir:=false) hd).1
 unfold at'
 rw[Int.toNat_natCast,List.getD_eq_getElem?_getD,List.getD_eq_getElem?_getD,List.getElem?_eq_getElem (by omega)]
 rfl
structure iS (T:ai) (D:List Bool) (n d a:Nat):Prop where
 fx:a<2*T.af.length
 tail:bb T a=(n:Int)
 up:aM D a=false
 ne:n≠d
 reach:0≤(bu T D d false).getD (aT T a).toNat 0
 pass:aT T a=(d:Int)∨cR T (aT T a).toNat=false
 sum:(bu T D d false).getD n 0=(bu T D d false).getD (aT T a).toNat 0+ca T a
theorem cP{T:ai}{D:List Bool}{n d:Nat}{a:Int}(h:a∈bz T D n d):∃k:Nat,a=k∧iS T D n d k:=by
 unfold bz at h
 split at h
 ·simp at h
 ·rename_i hne
  obtain⟨h1,h2⟩:=List.mem_filter.1 h
  obtain⟨h3,h4⟩:=i6.1 h1
  obtain⟨h5,h6⟩:=dc.1 h3
  obtain⟨k,rfl⟩:=Int.eq_ofNat_of_zero_le h5
  rw[Int.toNat_natCast]at h2 h4
  unfold gS at h2
  simp only[Bool.and_eq_true,Bool.not_eq_true',Bool.or_eq_false_iff,decide_eq_true_eq,decide_eq_false_iff_not]at h2
  obtain⟨⟨⟨g1,g2⟩,g3⟩,g4⟩:=h2
  refine⟨k,rfl,by omega,h4,g1,fun e=>hne (.inl e),by omega,?_,by omega⟩
  rcases Bool.and_eq_false_iff.1 g3 with g|g
  ·exact .inl (Classical.byContradiction (ff g))
  ·exact .inr g
theorem eU{T:ai}{D:List Bool}{n d k:Nat}(h:iS T D n d k)(hc:1≤ca T k):(k:Int)∈bz T D n d:=by
 have hs:=h.sum
 have hr:=h.reach
 unfold bz
 rw[if_neg (by rintro(e|e);exact h.ne e;omega)]
 refine List.mem_filter.2 ⟨i6.2 ⟨dc.2 ⟨by omega,by have:=h.fx;omega⟩,h.tail⟩,?_⟩
 unfold gS
 rw[Int.toNat_natCast]
 simp only[Bool.and_eq_true,Bool.not_eq_true',Bool.or_eq_false_iff,decide_eq_true_eq,decide_eq_false_iff_not]
 refine⟨⟨⟨h.up,by omega⟩,?_⟩,by omega⟩
 rcases h.pass with g|g
 ·rw[decide_eq_false (by simpa using g)];rfl
 ·rw[g,Bool.and_false]
theorem jo{T:ai}{D:List Bool}(hv:ao T=true){n d:Nat}(hn:(n:Int)<T.nodes)(hd:(d:Int)<T.nodes)(hne:n≠d)(h0:0≤(bu T D d false).getD n 0):∃k,iS T D n d k:=by
 have hS:=aK hv
 have hI:=iW hS D false hd
 have e1:=nd (D:=D) hv hd hn
 rcases hI.my n hn (by rw[←e1];exact h0)with h|⟨a,ha,hx,⟨w1,w2,w3⟩,hs⟩
 ·exact absurd h hne
 ·have hh:=hS.head a ha
  obtain⟨y,hy⟩:=Int.eq_ofNat_of_zero_le hh.1
  have e2:=nd (D:=D) hv hd (x:=y) (by omega)
  simp only[fp,cK,Bool.false_eq_true,if_false]at hx w2 w3 hs
  rw[hy]at w2 w3 hs
  refine⟨a,ha,hx,w1,hne,?_,?_,?_⟩
  ·rw[hy,Int.toNat_natCast,e2];exact w2
  ·rw[hy];exact w3
  ·rw[hy,Int.toNat_natCast,e1,e2];exact hs
theorem AV{T:ai}{D:List Bool}(hv:ao T=true){d:Nat}(hd:(d:Int)<T.nodes):(bu T D d false).getD d 0=0:=by
 rw[nd hv hd hd]
 exact(iW (aK hv) D false hd).root
end PW
end Go.Proofs.YtnegbdpggideiaaGreatDoor
namespace Go.Proofs.YtnegbdpggideiaaGreatDoor
namespace PW
open Go.RowKit cB Mem Net
noncomputable def dN(T:ai)(D:List Bool)(d x:Nat):Int:=(bu T D d false).getD x 0
def cY(T:ai)(p:List Int):Int:=p.foldr (fun a c=>ca T a.toNat+c) 0
theorem jP(T:ai):cY T []=0:=rfl
theorem fL(T:ai)(a:Int)(p:List Int):cY T (a::p)=ca T a.toNat+cY T p:=rfl
theorem gu(T:ai)(p q:List Int):cY T (p++q)=cY T p+cY T q:=by
 induction p with
 |nil=>simp[jP]
 |cons a p ih=>rw[List.cons_append,fL,fL,ih];omega
inductive SP (T:ai) (D:List Bool) (d:Nat):Nat→List Int→Prop
 |nil:SP T D d d []
 |cons {n a m:Nat} {p:List Int}:iS T D n d a→aT T a=(m:Int)→SP T D d m p→SP T D d n ((a:Int)::p)
inductive Ch (T:ai) (D:List Bool) (d:Nat):Nat→List Int→Prop
 |nil:Ch T D d d []
 |cons {n a m:Nat} {p:List Int}:a<2*T.af.length→bb T a=(n:Int)→aM D a=false→aT T a=(m:Int)→(p=[]∨cR T m=false)→Ch T D d m p→Ch T D d n ((a:Int)::p)
theorem qL:∀(N:Nat) (l:List Nat),l.Nodup→(∀x∈l,x<N)→l.length≤N
 |0,l,_,h=>by
  cases l with
  |nil=>simp
  |cons a l=>have:=h a (by simp);omega
 |N+1,l,hn,h=>by
  have h1:=qL N (l.erase N) (hn.erase N) (fun x hx=>by
   have h2:=(List.Nodup.mem_erase_iff hn).1 hx
   have:=h x h2.2
   have:=h2.1
   omega)
  rw[List.length_erase]at h1
  split at h1<;>omega
section
variable {T:ai} {D:List Bool} {d:Nat}
theorem dB(hv:ao T=true){a:Nat}(ha:a<2*T.af.length):∃m:Nat,aT T a=(m:Int)∧(m:Int)<T.nodes:=by
 obtain⟨h0,h1⟩:=(aK hv).head a ha
 obtain⟨m,hm⟩:=Int.eq_ofNat_of_zero_le h0
 exact⟨m,hm,by rw[←hm];exact h1⟩
theorem kq(hv:ao T=true)(hd:(d:Int)<T.nodes):dN T D d d=0:=AV hv hd
theorem Hu(hv:ao T=true)(hd:(d:Int)<T.nodes){x:Nat}(hx:(x:Int)<T.nodes): -1≤dN T D d x∧dN T D d x≤4194240:=by
 obtain⟨h1,h2⟩:=dq (D:=D) hv (dir:=false) hd
 exact h2 _ (bX (by omega))
theorem iS.dN{n a m:Nat}(h:iS T D n d a)(hm:aT T a=(m:Int)):0≤dN T D d m∧dN T D d n=dN T D d m+ca T a:=by
 have h1:=h.reach
 have h2:=h.sum
 rw[hm,Int.toNat_natCast]at h1 h2
 exact⟨h1,h2⟩
theorem iS.node(hv:ao T=true){n a:Nat}(h:iS T D n d a):(n:Int)<T.nodes:=by rw[←h.tail];exact((aK hv).tail a h.fx).2
theorem SP.node(hv:ao T=true)(hd:(d:Int)<T.nodes){n:Nat}{p:List Int}(h:SP T D d n p):(n:Int)<T.nodes:=by
 cases h with
 |nil=>exact hd
 |cons h1 _ _=>exact h1.node hv
theorem SP.cost(hv:ao T=true)(hd:(d:Int)<T.nodes){n:Nat}{p:List Int}(h:SP T D d n p):dN T D d n=cY T p∧0≤dN T D d n:=by
 induction h with
 |nil=>rw[kq hv hd];exact⟨rfl,Int.le_refl _⟩
 |cons h1 hm _ ih=>
  obtain⟨g1,g2⟩:=h1.dN hm
  have:=(aK hv).cost _ h1.fx
  rw[fL,Int.toNat_natCast]
  omega
theorem SP.self{p:List Int}(h:SP T D d d p):p=[]:=by
 cases h with
 |nil=>rfl
 |cons h1 _ _=>exact absurd rfl h1.ne
theorem SP.len(hv:ao T=true)(hd:(d:Int)<T.nodes){n:Nat}{p:List Int}(h:SP T D d n p):(p.length:Int)≤dN T D d n:=by
 induction h with
 |nil=>rw[kq hv hd];simp
 |cons h1 hm _ ih=>
  obtain⟨g1,g2⟩:=h1.dN hm
  have:=(aK hv).cost _ h1.fx
  simp only[List.length_cons]
  omega
theorem SP.ch{n:Nat}{p:List Int}(h:SP T D d n p):Ch T D d n p:=by
 induction h with
 |nil=>exact .nil
 | @cons n a m p h1 hm hp ih=>
  refine .cons h1.fx h1.tail h1.up hm ?_ ih
  rcases h1.pass with hx|hx
  ·have:m=d:=by rw[hm]at hx;omega
   subst this
   exact .inl hp.self
  ·rw[hm,Int.toNat_natCast]at hx;exact .inr hx
theorem Dv(hv:ao T=true)(hd:(d:Int)<T.nodes){n a m:Nat}(ha:a<2*T.af.length)(ht:bb T a=(n:Int))(hu:aM D a=false)(hm:aT T a=(m:Int))(ho:m=d∨cR T m=false)(h0:0≤dN T D d m):0≤dN T D d n∧dN T D d n≤dN T D d m+ca T a:=by
 have hS:=aK hv
 have hI:=iW hS D false hd
 have hmN:(m:Int)<T.nodes:=by rw[←hm];exact(hS.head a ha).2
 have hnN:(n:Int)<T.nodes:=by rw[←ht];exact(hS.tail a ha).2
 have e1:=nd (D:=D) hv hd hnN
 have e2:=nd (D:=D) hv hd hmN
 have:=hI.closed a ha ⟨hu,by simp only[cK,Bool.false_eq_true,if_false];rw[hm,←e2];exact h0,by
  simp only[cK,Bool.false_eq_true,if_false];rw[hm]
  rcases ho with h|h
  ·exact .inl (by rw[h])
  ·exact .inr (by simpa using h)⟩
 simp only[fp,cK,Bool.false_eq_true,if_false]at this
 rw[hm,ht,←e1,←e2]at this
 exact this
theorem Ch.node(hv:ao T=true)(hd:(d:Int)<T.nodes){n:Nat}{p:List Int}(h:Ch T D d n p):(n:Int)<T.nodes:=by
 cases h with
 |nil=>exact hd
 |cons h1 ht _ _ _ _=>rw[←ht];exact((aK hv).tail _ h1).2
theorem Ch.to{n:Nat}{p:List Int}(h:Ch T D d n p):p=[]→n=d:=by
 cases h with
 |nil=>intro _;rfl
 |cons=>intro h;cases h
theorem Ch.le(hv:ao T=true)(hd:(d:Int)<T.nodes){n:Nat}{p:List Int}(h:Ch T D d n p):0≤dN T D d n∧dN T D d n≤cY T p:=by
 induction h with
 |nil=>rw[kq hv hd];exact⟨Int.le_refl _,Int.le_refl _⟩
 | @cons n a m p ha ht hu hm ho hp ih=>
  have:=Dv hv hd ha ht hu hm (by rcases ho with h|h;exact .inl (hp.to h);exact .inr h) ih.1
  rw[fL,Int.toNat_natCast]
  omega
theorem Ch.sp(hv:ao T=true)(hd:(d:Int)<T.nodes){n:Nat}{p:List Int}(h:Ch T D d n p)(hc:dN T D d n=cY T p):SP T D d n p:=by
 induction h with
 |nil=>exact .nil
 | @cons n a m p ha ht hu hm ho hp ih=>
  have ho':m=d∨cR T m=false:=by rcases ho with h|h;exact .inl (hp.to h);exact .inr h
  have h1:=hp.le hv hd
  have h2:=Dv hv hd ha ht hu hm ho' h1.1
  rw[fL,Int.toNat_natCast]at hc
  have h3:=(aK hv).cost a ha
  refine .cons ⟨ha,ht,hu,?_,?_,?_,?_⟩ hm (ih (by omega))
  ·rintro rfl;rw[kq hv hd]at hc h2;omega
  ·rw[hm,Int.toNat_natCast];exact h1.1
  ·rw[hm];rcases ho' with h|h;exact .inl (by rw[h]);exact .inr (by simpa using h)
  ·rw[hm,Int.toNat_natCast];show dN T D d n=dN T D d m+ca T a;omega
noncomputable def fi(T:ai)(D:List Bool)(d:Nat):Nat→Nat→List Int
 |0,_=>[]
 |f+1,n=>match bz T D n d with
  | []=>[]
  |a::_=>a::fi T D d f (aT T a.toNat).toNat
noncomputable def cg(T:ai)(D:List Bool)(n d:Nat):List Int:=fi T D d (dN T D d n).toNat n
theorem qC{n:Nat}(h:dN T D d n<0):bz T D n d=[]:=by unfold bz;rw[if_pos (.inr h)]
theorem uQ(hv:ao T=true)(hd:(d:Int)<T.nodes):∀(f n:Nat),(n:Int)<T.nodes→0≤dN T D d n→dN T D d n≤f→SP T D d n (fi T D d f n)
 |f,n,hn,h0,hf=>by
  by_cases hne:n=d
  ·subst hne
   have:fi T D n f n=[]:=by cases f with|zero=>rfl|succ f=>simp only[fi,iO]
   rw[this];exact .nil
  ·obtain⟨k,hk⟩:=jo (D:=D) hv hn hd hne h0
   cases f with
   |zero=>
    obtain⟨m,hm,_⟩:=dB hv hk.fx
    have:=hk.dN hm
    have:=(aK hv).cost k hk.fx
    omega
   |succ f=>
    simp only[fi]
    have hmem:=eU hk ((aK hv).cost k hk.fx).1
    cases hx:bz T D n d with
    |nil=>rw[hx]at hmem;cases hmem
    |cons a l=>
     obtain⟨b,hb,hbn⟩:=cP (T:=T) (D:=D) (n:=n) (d:=d) (a:=a) (by rw[hx];simp)
     subst hb
     obtain⟨m,hm,hmN⟩:=dB hv hbn.fx
     have g:=hbn.dN hm
     have:=(aK hv).cost b hbn.fx
     simp only[Int.toNat_natCast,hm]
     exact .cons hbn hm (uQ hv hd f m hmN g.1 (by omega))
theorem eo(hv:ao T=true)(hd:(d:Int)<T.nodes){n:Nat}(hn:(n:Int)<T.nodes)(h0:0≤dN T D d n):SP T D d n (cg T D n d):=uQ hv hd _ n hn h0 (by omega)
noncomputable def mv(T:ai)(D:List Bool)(d:Nat):Nat→Nat→Int
 |0,m=>if m=d then 1 else 0
 |f+1,m=>if m=d then 1 else(bz T D m d).foldl (fun c a=>min 2 (c+mv T D d f (aT T a.toNat).toNat)) 0
noncomputable def dK(T:ai)(D:List Bool)(d m:Nat):Int:=mv T D d (dN T D d m).toNat m
theorem foldl_congr{α β:Type}{f g:α→β→α}:∀ {l:List β} {a:α},(∀a b,b∈l→f a b=g a b)→l.foldl f a=l.foldl g a
 | [],_,_=>rfl
 |b::l,a,h=>by simp only[List.foldl_cons,h a b (by simp)];exact foldl_congr fun a c hc=>h a c (by simp[hc])
theorem me(hv:ao T=true)(hd:(d:Int)<T.nodes):∀(K m f:Nat),(m:Int)<T.nodes→dN T D d m≤K→dN T D d m≤f→mv T D d f m=dK T D d m
 |K,m,f,hmN,hK,hf=>by
  unfold dK
  by_cases hmd:m=d
  ·subst hmd
   cases f<;>cases(dN T D m m).toNat<;>simp[mv]
  ·by_cases h0:dN T D d m<0
   ·have hx:=qC h0
    rw[show(dN T D d m).toNat=0 by omega]
    cases f<;>simp[mv,hmd,hx]
   ·obtain⟨k,hk⟩:=jo (D:=D) hv hmN hd hmd (by show 0≤dN T D d m;omega)
    have hpos:0<dN T D d m:=by
     obtain⟨m',hm',_⟩:=dB hv hk.fx
     have:=hk.dN hm'
     have:=(aK hv).cost k hk.fx
     omega
    obtain⟨g,hg⟩:∃g,(dN T D d m).toNat=g+1:=⟨(dN T D d m).toNat - 1,by omega⟩
    cases f with
    |zero=>omega
    |succ f=>
     cases K with
     |zero=>omega
     |succ K=>
      rw[hg]
      simp only[mv,if_neg hmd]
      refine foldl_congr fun c a ha=>?_
      obtain⟨b,rfl,hbn⟩:=cP ha
      obtain⟨m',hm',hmN'⟩:=dB hv hbn.fx
      have g1:=hbn.dN hm'
      have g2:=(aK hv).cost b hbn.fx
      rw[Int.toNat_natCast,hm',Int.toNat_natCast,me hv hd K m' f hmN' (by omega) (by omega),me hv hd K m' g hmN' (by omega) (by omega)]
theorem nh(m:Nat):dK T D m m=1:=by unfold dK;cases(dN T D m m).toNat<;>simp[mv]
theorem qq(hv:ao T=true)(hd:(d:Int)<T.nodes){m:Nat}(hmN:(m:Int)<T.nodes)(hmd:m≠d):dK T D d m=(bz T D m d).foldl (fun c a=>min 2 (c+dK T D d (aT T a.toNat).toNat)) 0:=by
 by_cases h0:dN T D d m<0
 ·unfold dK
  rw[qC h0,show(dN T D d m).toNat=0 by omega]
  simp[mv,hmd]
 ·have h1:=me (D:=D) hv hd (dN T D d m).toNat m ((dN T D d m).toNat+1) hmN (by omega) (by omega)
  rw[←h1]
  simp only[mv,if_neg hmd]
  refine foldl_congr fun c a ha=>?_
  obtain⟨b,rfl,hbn⟩:=cP ha
  obtain⟨m',hm',hmN'⟩:=dB hv hbn.fx
  have g1:=hbn.dN hm'
  have g2:=(aK hv).cost b hbn.fx
  rw[Int.toNat_natCast,hm',Int.toNat_natCast,me hv hd (dN T D d m).toNat m' _ hmN' (by omega) (by omega)]
theorem ze(hv:ao T=true)(hd:(d:Int)<T.nodes){m:Nat}(hmN:(m:Int)<T.nodes)(h0:dN T D d m<0):dK T D d m=0:=by
 have hmd:m≠d:=by rintro rfl;rw[kq hv hd]at h0;omega
 rw[qq hv hd hmN hmd,qC h0];rfl
theorem nI(g:Int→Int)(hg:∀a,0≤g a):∀(l:List Int) (c:Int),0≤c→c≤2→0≤l.foldl (fun c a=>min 2 (c+g a)) c∧l.foldl (fun c a=>min 2 (c+g a)) c≤2
 | [],c,h0,h2=>⟨h0,h2⟩
 |a::l,c,h0,h2=>by
  have:=hg a
  exact nI g hg l _ (show 0≤min 2 (c+g a) by omega) (show min 2 (c+g a)≤2 by omega)
theorem rF(g:Int→Int)(hg:∀a,0≤g a):∀(l:List Int) (c:Int),c≤2→c≤l.foldl (fun c a=>min 2 (c+g a)) c
 | [],c,_=>Int.le_refl _
 |a::l,c,h2=>by
  have:=hg a
  have:=rF g hg l (min 2 (c+g a)) (by omega)
  simp only[List.foldl_cons]
  omega
theorem s7(hv:ao T=true)(hd:(d:Int)<T.nodes):∀(f m:Nat),0≤mv T D d f m∧mv T D d f m≤2
 |0,m=>by simp only[mv];split<;>omega
 |f+1,m=>by
  simp only[mv]
  split
  ·omega
  ·exact nI (fun a=>mv T D d f (aT T a.toNat).toNat) (fun a=>(s7 hv hd f _).1) _ 0 (by omega) (by omega)
theorem ko(hv:ao T=true)(hd:(d:Int)<T.nodes)(m:Nat):0≤dK T D d m∧dK T D d m≤2:=s7 hv hd _ m
theorem za(hv:ao T=true)(hd:(d:Int)<T.nodes):∀(K m:Nat),(m:Int)<T.nodes→0≤dN T D d m→dN T D d m≤K→1≤dK T D d m
 |K,m,hmN,h0,hK=>by
  by_cases hmd:m=d
  ·subst hmd;rw[nh];omega
  ·obtain⟨k,hk⟩:=jo (D:=D) hv hmN hd hmd h0
   have hmem:=eU hk ((aK hv).cost k hk.fx).1
   obtain⟨m',hm',hmN'⟩:=dB hv hk.fx
   have g1:=hk.dN hm'
   have g2:=(aK hv).cost k hk.fx
   cases K with
   |zero=>omega
   |succ K=>
    have hp:=za hv hd K m' hmN' g1.1 (by omega)
    rw[qq hv hd hmN hmd]
    obtain⟨l1,l2,hl⟩:=List.append_of_mem hmem
    rw[hl,List.foldl_append,List.foldl_cons]
    have hg:∀a:Int,0≤dK T D d (aT T a.toNat).toNat:=fun a=>(ko hv hd _).1
    have a1:=nI (fun a=>dK T D d (aT T a.toNat).toNat) hg l1 0 (by omega) (by omega)
    have a2:=rF (fun a=>dK T D d (aT T a.toNat).toNat) hg l2 (min 2 (l1.foldl (fun c a=>min 2 (c+dK T D d (aT T a.toNat).toNat)) 0+dK T D d (aT T (k:Int).toNat).toNat)) (by omega)
    rw[Int.toNat_natCast,hm',Int.toNat_natCast]at a2
    rw[Int.toNat_natCast,hm',Int.toNat_natCast]
    omega
theorem ug(hv:ao T=true)(hd:(d:Int)<T.nodes){m:Nat}(hmN:(m:Int)<T.nodes)(hmd:m≠d)(h:dK T D d m=1):∃a:Nat,bz T D m d=[(a:Int)]∧iS T D m d a∧∀k:Nat,aT T a=(k:Int)→dK T D d k=1:=by
 rw[qq hv hd hmN hmd]at h
 have hg:∀a:Int,0≤dK T D d (aT T a.toNat).toNat:=fun a=>(ko hv hd _).1
 have hone:∀a∈bz T D m d,1≤dK T D d (aT T a.toNat).toNat:=fun a ha=>by
  obtain⟨b,rfl,hb⟩:=cP ha
  obtain⟨m',hm',hmN'⟩:=dB hv hb.fx
  have g1:=hb.dN hm'
  rw[Int.toNat_natCast,hm',Int.toNat_natCast]
  exact za hv hd (dN T D d m').toNat m' hmN' g1.1 (by omega)
 cases hx:bz T D m d with
 |nil=>rw[hx]at h;simp at h
 |cons a l=>
  obtain⟨b,rfl,hb⟩:=cP (T:=T) (D:=D) (n:=m) (d:=d) (a:=a) (by rw[hx];simp)
  have h1:=hone b (by rw[hx];simp)
  rw[hx,List.foldl_cons]at h
  cases l with
  |nil=>
   refine⟨b,rfl,hb,fun k hk=>?_⟩
   simp only[List.foldl_nil,Int.toNat_natCast,hk]at h h1
   omega
  |cons a2 l=>
   have h2:=hone a2 (by rw[hx];simp)
   rw[List.foldl_cons]at h
   have:=rF (fun a=>dK T D d (aT T a.toNat).toNat) hg l (min 2 (min 2 (0+dK T D d (aT T (b:Int).toNat).toNat)+dK T D d (aT T a2.toNat).toNat)) (by omega)
   omega
theorem yA(hv:ao T=true)(hd:(d:Int)<T.nodes){m a k:Nat}(hmN:(m:Int)<T.nodes)(hmd:m≠d)(hx:bz T D m d=[(a:Int)])(hk:aT T a=(k:Int))(h:dK T D d k=1):dK T D d m=1:=by
 rw[qq hv hd hmN hmd,hx]
 simp only[List.foldl_cons,List.foldl_nil,Int.toNat_natCast,hk,h]
 omega
theorem SP.unique(hv:ao T=true)(hd:(d:Int)<T.nodes){n:Nat}{p q:List Int}(h:SP T D d n p)(hq:SP T D d n q)(hc:dK T D d n=1):p=q:=by
 induction h generalizing q with
 |nil=>exact hq.self.symm
 | @cons n a m p h1 hm hp ih=>
  cases hq with
  |nil=>exact absurd rfl h1.ne
  | @cons _ a' m' q h1' hm' hq=>
   obtain⟨b,hb,_,hb2⟩:=ug hv hd (h1.node hv) h1.ne hc
   have e1:=eU h1 ((aK hv).cost a h1.fx).1
   have e2:=eU h1' ((aK hv).cost a' h1'.fx).1
   rw[hb]at e1 e2
   simp only[List.mem_singleton]at e1 e2
   have ea:a=b:=by omega
   have ea':a'=b:=by omega
   subst ea
   subst ea'
   have em:m=m':=by rw[hm]at hm';omega
   subst em
   rw[ih hq (hb2 m hm)]
noncomputable def fy(T:ai)(D:List Bool)(n d:Int):Bool:=decide (cc T D n d=0)&&decide (dK T D d.toNat n.toNat=1)
theorem SP.Cq(hv:ao T=true)(hd:(d:Int)<T.nodes){n:Nat}{p:List Int}(h:SP T D d n p):(p.length:Int)<T.nodes:=by
 have key:∃l:List Nat,l.length=p.length+1∧l.Nodup∧(∀x∈l,(x:Int)<T.nodes∧dN T D d x≤dN T D d n):=by
  induction h with
  |nil=>exact⟨[d],rfl,by simp,fun x hx=>by simp at hx;subst hx;exact⟨hd,Int.le_refl _⟩⟩
  | @cons n a m p h1 hm hp ih=>
   obtain⟨l,e1,e2,e3⟩:=ih
   have g1:=h1.dN hm
   have g2:=(aK hv).cost a h1.fx
   refine⟨n::l,by simp[e1],List.nodup_cons.2 ⟨fun hn=>by have:=(e3 n hn).2;omega,e2⟩,fun x hx=>?_⟩
   cases hx with
   |head=>exact⟨h1.node hv,Int.le_refl _⟩
   |tail _ hx=>have:=e3 x hx;exact⟨this.1,by omega⟩
 obtain⟨l,e1,e2,e3⟩:=key
 have hN:=(aK hv).nodes
 have:=qL T.nodes.toNat l e2 (fun x hx=>by have:=(e3 x hx).1;omega)
 omega
end
end PW
end Go.Proofs.YtnegbdpggideiaaGreatDoor
namespace Go.Proofs.YtnegbdpggideiaaGreatDoor
namespace PW
open Go.RowKit cB Mem Net
def ec(T:ai):Bool→Int→List Int→Int
 |_,_,[]=>0
 |f,n,a::l=>if fB T a=false then 2 else if bb T a.toNat≠n∨(f=false∧cR T n.toNat=true) then 4 else ec T false (aT T a.toNat) l
def fe(T:ai)(n:Int)(l:List Int):Int:=if ao T then(if bn T n then ec T true n l else 2) else 1
def cE(T:ai):Int→List Int→Int
 |n,[]=>n
 |_,a::l=>cE T (aT T a.toNat) l
def pa(T:ai)(n:Int)(l:List Int):PV:=.tuple [num (if fe T n l=0 then cE T n l else 0),num (if fe T n l=0 then cY T l else 0),num (fe T n l)]
theorem lE(T:ai):∀(n:Int) (l m:List Int),cE T n (l++m)=cE T (cE T n l) m
 |_,[],_=>rfl
 |_,a::l,m=>lE T _ l m
theorem drop_cons(l:List Int)(k:Nat)(h:k<l.length):l.drop k=l.getD k 0::l.drop (k+1):=by
 rw[List.drop_eq_getElem_cons h,List.getD_eq_getElem?_getD,List.getElem?_eq_getElem h];rfl
theorem gA(T:ai)(n:Int)(l:List Int)(k:Nat)(h:k<l.length):cE T n (l.take (k+1))=aT T (l.getD k 0).toNat:=by
 rw[dH l k 0 h,lE];rfl
theorem mX(T:ai)(l:List Int)(k:Nat)(h:k<l.length):cY T (l.take (k+1))=cY T (l.take k)+ca T (l.getD k 0).toNat:=by
 rw[dH l k 0 h,gu];simp[fL,jP]
theorem oV{T:ai}{f:Bool}{n a:Int}{l:List Int}(h1:fB T a=true)(h2:bb T a.toNat=n)(h3:f=true∨cR T n.toNat=false):ec T f n (a::l)=ec T false (aT T a.toNat) l:=by
 simp only[ec]
 rw[if_neg (by rw[h1];simp),if_neg]
 rintro(h|⟨h,h'⟩)
 ·exact h h2
 ·rcases h3 with h3|h3
  ·rw[h3]at h;cases h
  ·rw[h3]at h';cases h'
theorem Ek{T:ai}{f:Bool}{n a:Int}{l:List Int}(h1:fB T a=true)(h2:bb T a.toNat≠n∨(f=false∧cR T n.toNat=true)):ec T f n (a::l)=4:=by
 simp only[ec]
 rw[if_neg (by rw[h1];simp),if_pos h2]
theorem AJ(T:ai)(hl:T.af.length≤4611686018427387902)(a:Int)(h:fB T a=true):Can Tryz.prog 150 [aP T,num a] (· =num (aT T a.toNat)):=by
 obtain⟨h0,h1⟩:=dc.1 h
 obtain⟨a,rfl⟩:=Int.eq_ofNat_of_zero_le h0
 exact fH T a (by omega) hl
theorem A9(T:ai)(a:Int)(h:fB T a=true):Can Tryz.prog 149 [aP T,num a] (· =num (ca T a.toNat)):=by
 obtain⟨h0,h1⟩:=dc.1 h
 obtain⟨a,rfl⟩:=Int.eq_ofNat_of_zero_le h0
 exact lf T a (by omega)
theorem jG{T:ai}(hv:ao T=true){a:Int}(h:fB T a=true):(1≤ca T a.toNat∧ca T a.toNat≤65535)∧∃m:Nat,aT T a.toNat=(m:Int)∧(m:Int)<T.nodes:=by
 obtain⟨h0,h1⟩:=dc.1 h
 have hl:a.toNat<2*T.af.length:=by omega
 exact⟨(aK hv).cost _ hl,dB hv hl⟩
theorem zK{T:ai}(hv:ao T=true){x:Nat}(hx:(x:Int)<T.nodes):T.over.length=0∨x<T.over.length:=by have:=(fX hv).2.2.2;omega
theorem uN(T:ai)(n:Int)(l:List Int)(hl:l.length≤1000000):Can Tryz.prog 120 [aP T,num n,aw l] (· =pa T n l):=by
 refine aE Tryz.func120 rfl Tryz.ntmps120 rfl<|ab (.a 4 rfl<|.k [1,2,3,7] rfl)<|aj<|ab (.a 1 rfl<|.c rfl (eh T) rfl<|.a 1 rfl<|.k [1,2,3,7,13] rfl)<|ah rfl (fun hc=>?_) (fun hc=>?_)
 ·have hv:ao T=false:=by simpa using hc
  have hX:fe T n l=1:=by unfold fe;rw[hv];rfl
  unfold pa
  rw[hX]
  exact ab (.a 3 rfl<|.k [6,7,8] rfl)<|aq<|⟨_,_,ay.of rfl,aB.pure,rfl⟩
 ·have hv:ao T=true:=by simpa using hc
  have hll:=bO hv
  refine ak<|aj<|ab (.a 2 rfl<|.c rfl (dp T n) rfl<|.a 1 rfl<|.k [1,2,3,7,17] rfl)<|ah rfl (fun hc=>?_) (fun hc=>?_)
  ·have hn:bn T n=false:=by simpa using hc
   have hX:fe T n l=2:=by unfold fe;rw[hv,hn];rfl
   unfold pa
   rw[hX]
   exact ab (.a 3 rfl<|.k [6,7,8] rfl)<|aq<|⟨_,_,ay.of rfl,aB.pure,rfl⟩
  ·have hn:bn T n=true:=by simpa using hc
   have hX:fe T n l=ec T true n l:=by unfold fe;rw[hv,hn];rfl
   obtain⟨hn0,hn1⟩:=aV.1 hn
   obtain⟨n,rfl⟩:=Int.eq_ofNat_of_zero_le hn0
   refine ak<|ab (.a 2 rfl<|.k [2,3,6,7] rfl)<|aj<|ab (.a 3 rfl<|.k [3,6,7,19,20,21] rfl)<|av<|ft [3,6,7,19,20,21] rfl<|br (fun r s=>∃(k x:Nat),k≤l.length∧r=l.length - k∧cE T n (l.take k)=(x:Int)∧(x:Int)<T.nodes∧0≤cY T (l.take k)∧cY T (l.take k)≤65535*(k:Int)∧ec T true n l=ec T (decide (k=0)) x (l.drop k)∧s=⟨[(3,.aX (bx T) 0),(6,num x),(7,num (cY T (l.take k))),(19,aw l),(20,num l.length),(21,num k)],[]⟩) l.length ⟨0,n,by omega,by omega,rfl,hn1,by simp[jP],by simp[jP],rfl,rfl⟩ ?_
   rintro r s ⟨k,x,hk,rfl,hx,hxN,hc0,hc1,hw,rfl⟩
   refine ab (.a 1 rfl<|.k [3,6,7,19,20,21,22] rfl)<|aj<|ah rfl (fun hy=>?_) (fun hy=>?_)
   ·have hlt:k<l.length:=by have:=tt hy;omega
    rw[drop_cons l k hlt]at hw
    obtain⟨p1,hp1⟩:∃q,fB T (l.getD k 0)=q:=⟨_,rfl⟩
    have ha:=pS T (by omega) (l.getD k 0)
    rw[hp1]at ha
    refine ak<|aj<|av<|ab (.a 1 rfl<|.v (aL (k) rfl) rfl<|.v (aN rfl (aA l k hlt)) rfl<|.a 2 rfl<|.k [3,6,7,9,10,19,20,21] rfl)<|aj<|ab (.a 2 rfl<|.c rfl (ha) rfl<|.a 1 rfl<|.k [3,6,7,9,10,19,20,21,29] rfl)<|ah rfl (fun hz=>?_) (fun hz=>?_)
    ·have h1:p1=false:=by simpa using hz
     subst h1
     have hw2:ec T true n l=2:=by rw[hw];simp only[ec];rw[if_pos hp1]
     unfold pa
     rw[hX,hw2]
     exact ab (.a 3 rfl<|.k [6,7,8] rfl)<|aq<|⟨_,_,ay.of rfl,aB.pure,rfl⟩
    ·have h1:p1=true:=by simpa using hz
     subst h1
     obtain⟨⟨hco0,hco1⟩,y,hyh,hyN⟩:=jG hv hp1
     have hsN:=gA T n l k hlt
     have hsC:=mX T l k hlt
     obtain⟨p2,hp2⟩:∃q,decide (bb T (l.getD k 0).toNat≠(x:Int))=q:=⟨_,rfl⟩
     obtain⟨p3,hp3⟩:∃q,decide (0<(k:Int))=q:=⟨_,rfl⟩
     obtain⟨p4,hp4⟩:∃q,cR T x=q:=⟨_,rfl⟩
     refine ak<|aj<|bp 43 (.raw (.bool (p2||(p3&&p4)))) [3,7,10,19,20,21] rfl ?_ ?_
     ·refine .a 2 rfl<|.c rfl (oJ T _ hp1) rfl<|.a 1 rfl<|.v (cb rfl (hp2)) rfl<|.a 1 rfl<|?_
      cases p2
      ·refine .a 1 rfl<|.v (cb rfl (hp3)) rfl<|.a 1 rfl<|?_
       cases p3
       ·exact .a 5 rfl<|.k [43,3,7,10,19,20,21] rfl
       ·exact .a 2 rfl<|.c rfl (hp4▸nM T x (zK hv hxN)) rfl<|.a 2 rfl<|.k [43,3,7,10,19,20,21] rfl
      ·exact .a 8 rfl<|.k [43,3,7,10,19,20,21] rfl
     refine ah rfl (fun hb=>?_) (fun hb=>?_)
     ·have hw4:ec T true n l=4:=by
       rw[hw]
       refine Ek hp1 ?_
       rcases Bool.or_eq_true_iff.1 hb with h|h
       ·rw[h]at hp2;exact .inl (tt hp2)
       ·obtain⟨h3,h4⟩:=Bool.and_eq_true_iff.1 h
        rw[h3]at hp3
        rw[h4]at hp4
        exact .inr ⟨decide_eq_false (by have:=tt hp3;omega),by rw[Int.toNat_natCast];exact hp4⟩
      unfold pa
      rw[hX,hw4]
      exact ab (.a 3 rfl<|.k [6,7,8] rfl)<|aq<|⟨_,_,ay.of rfl,aB.pure,rfl⟩
     ·obtain⟨b2,b3⟩:=Bool.or_eq_false_iff.1 hb
      rw[b2]at hp2
      have ht:bb T (l.getD k 0).toNat=(x:Int):=Classical.byContradiction (ff hp2)
      have hws:=oV (T:=T) (f:=decide (k=0)) (n:=(x:Int)) (l:=l.drop (k+1)) hp1 ht (by
       rcases Bool.and_eq_false_iff.1 b3 with h|h
       ·rw[h]at hp3;exact .inl (decide_eq_true (by have:=ff hp3;omega))
       ·rw[h]at hp4;exact .inr (by rw[Int.toNat_natCast];exact hp4))
      rw[hws,hyh]at hw
      have hh:=AJ T (by omega) _ hp1
      rw[hyh]at hh
      refine ak<|ab (.a 2 rfl<|.c rfl (hh) rfl<|.a 1 rfl<|.k [3,6,7,10,19,20,21] rfl)<|az (.a 3 rfl<|.c rfl (A9 T _ hp1) rfl<|.v (aS rfl (hc:=hsC.symm) (hn:=by unfold In64;omega)) rfl<|.a 1 rfl<|.k [3,6,7,19,20,21] rfl) ?_
      refine az (.v (aS rfl) rfl<|.a 1 rfl<|.k [3,6,7,19,20,21] rfl) ?_
      exact⟨l.length - (k+1),by omega,k+1,y,by omega,rfl,by rw[hsN,hyh],hyN,by omega,by omega,by rw[hw];rfl,rfl⟩
   ·have hke:k=l.length:=by have:=ff hy;omega
    subst hke
    rw[List.drop_length]at hw
    rw[List.take_length]at hx ⊢
    unfold pa
    rw[hX,hw]
    simp only[ec,if_true]
    rw[hx]
    exact bg<|ab (.a 5 rfl<|.k [6,7,8] rfl)<|aq<|⟨_,_,ay.of rfl,aB.pure,rfl⟩
end PW
end Go.Proofs.YtnegbdpggideiaaGreatDoor
namespace Go.Proofs.YtnegbdpggideiaaGreatDoor
namespace PW
open Go.RowKit cB Mem Net
theorem lC(T:ai)(hv:ao T=true):Can Tryz.prog 201 [aP T] (· =iY (dr (bb T) T.nodes.toNat (2*T.af.length))):=by
 have hbd:=fX hv
 have hS:=aK hv
 obtain⟨n,hn⟩:∃n:Nat,T.nodes=(n:Int):=⟨T.nodes.toNat,by omega⟩
 rw[show T.nodes.toNat=n by omega]
 refine aE Tryz.func201 rfl Tryz.ntmps201 rfl<|ab (.a 2 rfl<|.k [1] rfl)<|aQ<|au 2 rfl<|cn (dD rfl (bI.rk.get rfl) rfl rfl hn hn ⟨by unfold maxLen;omega,by omega⟩) rfl<|au 1 rfl<|aH [1,3] rfl ?_
 refine pw 37 3 n ?_
 refine aj<|ab (.a 1 rfl<|.c rfl (gX T (by omega)) rfl<|.a 1 rfl<|.k [1,3,10,11] rfl)<|av<|ft [1,3,10,11] rfl<|br (fun r s=>∃k,k≤2*T.af.length∧r=2*T.af.length - k∧s=⟨[(1,.aX (bx T) 0),(3,.own 0),(10,num (2*(T.af.length:Int))),(11,num k)],kL 37 3 (dr (bb T) n k)⟩) (2*T.af.length) ⟨0,by omega,by omega,by rw[qH];rfl⟩ ?_
 rintro r s ⟨k,hk,rfl,rfl⟩
 refine ab (.a 1 rfl<|.k [1,3,10,11,12] rfl)<|aj<|ah rfl (fun hc=>?_) (fun hc=>?_)
 ·have hlt:k<2*T.af.length:=by have:=of_decide_eq_true hc;omega
  obtain⟨hd0,hhN⟩:=hS.tail k hlt
  obtain⟨m,hm⟩:=Int.eq_ofNat_of_zero_le hd0
  have hmn:m<n:=by omega
  have hrl:=eM (bb T) n k
  have hgl:((dr (bb T) n k).getD m []).length≤k:=by
   rw[iL _ _ _ _ hmn]
   simp only[List.length_map]
   exact Nat.le_trans (List.length_filter_le _ _) (by simp)
  refine ak<|aj<|av<|ab (.a 2 rfl<|.k [1,3,4,10,11] rfl)<|ab (.a 2 rfl<|.c rfl (hm▸iT T k hlt) rfl<|.a 1 rfl<|.k [1,3,4,5,10,11] rfl)<|bF<|au 4 rfl<|bE (aL (m) rfl) rfl<|bE (aN rfl (lr _ m (by omega))) rfl<|au 2 rfl<|cn (bA rfl (bI.rk.get rfl) rfl (kW _ _ _ m (by omega)) rfl rfl ⟨by unfold maxLen;omega,by omega⟩) rfl<|bE (aL (m) rfl) rfl<|bc (cG rfl (bI.tk.get rfl) rfl rfl rfl (by show m<(fI _).length;simp[fI];omega)) rfl rfl<|aH [1,3,10,11] rfl ?_
  refine cZ (EB (dr (bb T) n k).length m) (.cons 1 rfl Ren.pure<|.cons 3 rfl (Ren.own (i:=0) rfl)<|.cons 10 rfl Ren.pure<|.cons 11 rfl Ren.pure<|.nil) (wU 37 3 (dr (bb T) n k) m (by omega) (k:Int)) (rX _ _) rfl ?_
  rw[←qh (bb T) n k m hm hmn]
  refine az (.v (aS rfl) rfl<|.a 1 rfl<|.k [1,3,10,11] rfl) ?_
  exact⟨2*T.af.length - (k+1),by omega,k+1,by omega,rfl,rfl⟩
 ·have hke:k=2*T.af.length:=by have:=of_decide_eq_false hc;omega
  subst hke
  exact bg<|ab (.a 2 rfl<|.k [2] rfl)<|aq<|⟨_,_,ay.of rfl,v7 _ _ _,rfl⟩
end PW
end Go.Proofs.YtnegbdpggideiaaGreatDoor
namespace Go.Proofs.YtnegbdpggideiaaGreatDoor
namespace PW
open Go.RowKit cB Mem Net
theorem vS(T:ai)(m:Nat)(hm:m<T.nodes.toNat):(dr (bb T) T.nodes.toNat (2*T.af.length)).getD m []=bJ T m:=by
 rw[iL _ _ _ _ hm]
 unfold bJ iy
 exact congrArg (List.map Int.ofNat) (List.filter_congr fun a _=>Bool.eq_iff_iff.2 (by simp))
theorem sj(rs:List (List Int))(i:Nat)(h:i<rs.length):(rs.map aw)[i]? =some (aw (rs.getD i [])):=by simp[h]
theorem FX(T:ai)(D:List Bool)(s d:Int):cw T D [s,d]=cc T D s d:=by
 unfold cc cw
 by_cases h:(ao T&&bP T D)=true
 ·rw[if_pos h]
  by_cases hs:bn T s=true<;>by_cases hd:bn T d=true<;>simp[h,hs,hd]
 ·rw[if_neg h]
  have:(ao T&&bP T D)=false:=by simpa using h
  simp[this]
noncomputable def gv(T:ai)(D:List Bool)(s d:Int):Int:=if cc T D s d=0 then(if dN T D d.toNat s.toNat<0 then 11 else 0) else cc T D s d
theorem yN{T:ai}{D:List Bool}{m d j:Nat}(hne:m≠d)(h0:0≤dN T D d m)(hj:j<(bJ T m).length)(hno:∀i,i<j→gS T D (bu T D d false) (dN T D d m) d ((bJ T m).getD i 0).toNat=false)(hy:gS T D (bu T D d false) (dN T D d m) d ((bJ T m).getD j 0).toNat=true):∃l,bz T D m d=(bJ T m).getD j 0::l:=by
 unfold bz
 rw[if_neg (by rintro(h|h);exact hne h;exact absurd h (by show ¬dN T D d m<0;omega))]
 have h1:((bJ T m).take j).filter (fun a=>gS T D (bu T D d false) (dN T D d m) d a.toNat)=[]:=by
  rw[List.filter_eq_nil_iff]
  intro a ha
  obtain⟨i,hi,rfl⟩:=List.getElem_of_mem ha
  have hij:i<j:=by rw[List.length_take]at hi;omega
  have:=hno i hij
  rw[List.getD_eq_getElem?_getD,List.getElem?_eq_getElem (by omega),Option.getD_some]at this
  rw[List.getElem_take,this]
  simp
 have hs:bJ T m=(bJ T m).take j++(bJ T m).getD j 0::(bJ T m).drop (j+1):=by rw[←drop_cons _ _ hj,List.take_append_drop]
 have h2:(bJ T m).filter (fun a:Int=>gS T D (bu T D d false) (dN T D d m) d a.toNat)=(bJ T m).getD j 0::((bJ T m).drop (j+1)).filter (fun a:Int=>gS T D (bu T D d false) (dN T D d m) d a.toNat):=by
  refine(congrArg (List.filter fun a:Int=>gS T D (bu T D d false) (dN T D d m) d a.toNat) hs).trans ?_
  rw[List.filter_append,h1,List.nil_append,List.filter_cons,if_pos hy]
 exact⟨_,h2⟩
theorem qd{T:ai}{D:List Bool}{m d f:Nat}{a:Int}{l:List Int}(h:bz T D m d=a::l):fi T D d (f+1) m=a::fi T D d f (aT T a.toNat).toNat:=by simp only[fi,h]
theorem D4{T:ai}{D:List Bool}(hv:ao T=true){m d:Nat}(hm:(m:Int)<T.nodes)(hd:(d:Int)<T.nodes)(hne:m≠d)(h0:0≤dN T D d m)(hno:∀i,i<(bJ T m).length→gS T D (bu T D d false) (dN T D d m) d ((bJ T m).getD i 0).toNat=false):False:=by
 obtain⟨k,hk⟩:=jo (D:=D) hv hm hd hne h0
 have:=eU hk ((aK hv).cost k hk.fx).1
 unfold bz at this
 rw[if_neg (by rintro(h|h);exact hne h;exact absurd h (by show ¬dN T D d m<0;omega))]at this
 obtain⟨h1,h2⟩:=List.mem_filter.1 this
 obtain⟨i,hi,he⟩:=List.getElem_of_mem h1
 have h3:=hno i hi
 rw[List.getD_eq_getElem?_getD,List.getElem?_eq_getElem hi,Option.getD_some,he]at h3
 have h2':gS T D (bu T D d false) (dN T D d m) d (k:Int).toNat=true:=h2
 rw[h3]at h2'
 cases h2'
set_option maxHeartbeats 2000000 in
theorem sc(T:ai)(D:List Bool)(s d:Int):Can Tryz.prog 206 [aP T,aY D,num s,num d] (· =dx (gv T D s d) (cg T D s.toNat d.toNat)):=by
 have hch:=ow T D [s,d] (by simp)
 rw[FX]at hch
 refine aE Tryz.func206 rfl Tryz.ntmps206 rfl<|ab (.a 3 rfl<|.k [1,2,3,4] rfl)<|aj<|ab (.a 5 rfl<|.c rfl (hch) rfl<|.a 1 rfl<|.k [1,2,3,4,10] rfl)<|ab (.a 2 rfl<|.k [1,2,3,4,10,26] rfl)<|ah rfl (fun hc=>?_) (fun hc=>?_)
 ·have he:cc T D s d≠0:=tt hc
  exact ab (.a 3 rfl<|.k [8,9] rfl)<|aq<|⟨_,_,ay.of rfl,aB.bG (an.cons aB.bZ (an.cons aB.pure an.nil)),by unfold dx gv;rw[if_neg he,if_neg he];rfl⟩
 ·have he:cc T D s d=0:=Classical.byContradiction (ff hc)
  obtain⟨hv,hf,hns,hnd⟩:=fm he
  obtain⟨hs0,hs1⟩:=aV.1 hns
  obtain⟨hd0,hd1⟩:=aV.1 hnd
  obtain⟨s,rfl⟩:=Int.eq_ofNat_of_zero_le hs0
  obtain⟨d,rfl⟩:=Int.eq_ofNat_of_zero_le hd0
  have hdi:Can Tryz.prog 151 [aP T,aY D,num d] (· = .tuple [aw (bu T D d false),num 0]):=by
   have h:=qu T D (d:Int)
   rw[show cw T D [(d:Int)]=0 by unfold cc at he;split at he;assumption;assumption]at h
   exact h
  have hS:=aK hv
  have hN:=hS.nodes
  have hll:=bO hv
  obtain⟨hb1,hb2⟩:=dq (D:=D) hv (dir:=false) hd1
  refine ak<|ab (.a 3 rfl<|.c rfl (hdi) rfl<|.a 5 rfl<|.k [1,2,3,4,11] rfl)<|aj<|ab (.a 2 rfl<|.v (aL (s) rfl) rfl<|.v (aN rfl (aA _ s (by omega))) rfl<|.a 1 rfl<|.k [1,2,3,4,11,39] rfl)<|ah rfl (fun hc=>?_) (fun hc=>?_)
  ·have h0:dN T D d s<0:=tt hc
   exact ab (.a 2 rfl<|.k [8,9] rfl)<|aq<|⟨_,_,ay.of rfl,aB.bG (an.cons aB.bZ (an.cons aB.pure an.nil)),by unfold dx gv;simp only[Int.toNat_natCast];rw[if_pos he,if_pos h0];rfl⟩
  ·have h0:0≤dN T D d s:=by have:=ff hc;show 0≤(bu T D d false).getD s 0;omega
   have hE:gv T D (s:Int) (d:Int)=0:=by unfold gv;simp only[Int.toNat_natCast];rw[if_pos he,if_neg (by omega)]
   rw[hE]
   refine ak<|ab (.a 1 rfl<|.c rfl (lC T hv) rfl<|.a 1 rfl<|.k [1,2,3,4,11,13] rfl)<|ab (.a 1 rfl<|.k [1,2,3,4,11,13,14] rfl)<|gQ 14 3 1 rfl ?_
   refine aj<|ab (.a 2 rfl<|.k [1,3,4,11,13,14,15] rfl)<|av<|ft [1,3,4,11,13,14,15] rfl<|br (fun r st=>∃(p:List Int) (m f:Nat),(m:Int)<T.nodes∧0≤dN T D d m∧dN T D d m≤f∧r=(dN T D d m).toNat∧(p.length:Int)+dN T D d m≤dN T D d s∧cg T D s d=p++fi T D d f m∧st=⟨[(1,aY D),(3,num d),(4,.aX (bx T) 0),(11,aw (bu T D d false)),(13,iY (dr (bb T) T.nodes.toNat (2*T.af.length))),(14,.own 0),(15,num m)],[some (.row 3 1 p.length (aO p))]⟩) (dN T D d s).toNat ⟨[],s,(dN T D d s).toNat,hs1,h0,by omega,rfl,by simp,rfl,rfl⟩ ?_
   rintro r st ⟨p,m,f,hm,hm0,hmf,rfl,hpl,hp,rfl⟩
   refine aj<|ab (.a 3 rfl<|.k [1,3,4,11,13,14,15,45] rfl)<|ah rfl (fun hy=>?_) (fun hy=>?_)
   ·have hne:m≠d:=by have:=tt hy;omega
    have hml:m<(bu T D d false).length:=by omega
    have hrow:=vS T m (by omega)
    have hbnd:=(Hu (D:=D) hv hd1 hs1).2
    have hol:(bJ T m).length≤512:=Nat.le_trans (ek T m _) (by omega)
    refine ak<|av<|ab (.a 2 rfl<|.v (aL (m) rfl (by omega) (by rw[eM];omega)) rfl<|.v (aN rfl ((sj _ m (by rw[eM];omega)).trans (by rw[hrow]))) rfl<|.a 2 rfl<|.k [1,3,4,11,13,14,15,49,50,51] rfl)<|av<|ft [1,3,4,11,13,14,15,49,50,51] rfl<|br (fun r st=>∃j:Nat,j≤(bJ T m).length∧r=(bJ T m).length - j∧(∀i,i<j→gS T D (bu T D d false) (dN T D d m) d ((bJ T m).getD i 0).toNat=false)∧st=⟨[(1,aY D),(3,num d),(4,.aX (bx T) 0),(11,aw (bu T D d false)),(13,iY (dr (bb T) T.nodes.toNat (2*T.af.length))),(14,.own 0),(15,num m),(49,aw (bJ T m)),(50,num (bJ T m).length),(51,num j)],[some (.row 3 1 p.length (aO p))]⟩) (bJ T m).length ⟨0,by omega,by omega,fun i hi=>by omega,rfl⟩ ?_
    rintro r st ⟨j,hj,rfl,hno,rfl⟩
    refine ab (.a 1 rfl<|.k [1,3,4,11,13,14,15,49,50,51,52] rfl)<|aj<|ah rfl (fun hz=>?_) (fun hz=>?_)
    ·have hlt:j<(bJ T m).length:=by have:=tt hz;omega
     obtain⟨ha0,ha1⟩:=jX (bX (d:=0) hlt)
     obtain⟨a,ha⟩:=Int.eq_ofNat_of_zero_le ha0
     have ham:a<2*T.af.length:=by omega
     obtain⟨y,hyh,hyN⟩:=dB hv ham
     have hyl:y<(bu T D d false).length:=by omega
     have hh:=fH T a ham (by omega)
     rw[hyh]at hh
     have hD:D.length=0∨a<D.length:=by simp only[bP,decide_eq_true_eq]at hf;omega
     obtain⟨p1,hp1⟩:∃q,aM D a=q:=⟨_,rfl⟩
     obtain⟨p2,hp2⟩:∃q,decide ((bu T D d false).getD y 0<0)=q:=⟨_,rfl⟩
     obtain⟨p3,hp3⟩:∃q,decide ((y:Int)≠(d:Int))=q:=⟨_,rfl⟩
     obtain⟨p4,hp4⟩:∃q,cR T y=q:=⟨_,rfl⟩
     have hpass:∀b,gS T D (bu T D d false) (dN T D d m) d ((bJ T m).getD j 0).toNat=b↔(!((p1||p2)||(p3&&p4))&&decide ((bu T D d false).getD y 0+ca T a=dN T D d m))=b:=fun b=>by
      unfold gS
      rw[ha,Int.toNat_natCast,hyh,Int.toNat_natCast,hp1,hp2,hp3,hp4]
     refine ak<|aj<|av<|ab (.v (aL (j) rfl) rfl<|.v (aN rfl ((aA _ j hlt).trans (by rw[ha]))) rfl<|.a 1 rfl<|.k [1,3,4,11,13,14,15,17,49,50,51] rfl)<|ab (.a 2 rfl<|.c rfl (hh) rfl<|.a 1 rfl<|.k [1,3,4,11,13,14,15,17,18,49,50,51] rfl)<|aj<|bp 77 (.raw (.bool ((p1||p2)||(p3&&p4)))) [1,3,4,11,13,14,15,17,18,49,50,51] rfl ?_ ?_
     ·refine .a 2 rfl<|.c rfl (hp1▸je D a hD) rfl<|.a 1 rfl<|?_
      cases p1
      ·refine .a 2 rfl<|.v (aL (y) rfl) rfl<|.v (aN rfl (aA _ y hyl)) rfl<|.v (cb rfl (hp2)) rfl<|.a 2 rfl<|?_
       cases p2
       ·refine .a 2 rfl<|.v (cb rfl (hp3)) rfl<|.a 1 rfl<|?_
        cases p3
        ·exact .a 5 rfl<|.k [77,1,3,4,11,13,14,15,17,18,49,50,51] rfl
        ·exact .a 2 rfl<|.c rfl (hp4▸nM T y (zK hv hyN)) rfl<|.a 2 rfl<|.k [77,1,3,4,11,13,14,15,17,18,49,50,51] rfl
       ·exact .a 9 rfl<|.k [77,1,3,4,11,13,14,15,17,18,49,50,51] rfl
      ·exact .a 16 rfl<|.k [77,1,3,4,11,13,14,15,17,18,49,50,51] rfl
     refine ah rfl (fun hk=>?_) (fun hk=>?_)
     ·have hnp:=(hpass false).2 (by rw[hk];rfl)
      refine bg<|az (.v (aS rfl) rfl<|.a 1 rfl<|.k [1,3,4,11,13,14,15,49,50,51] rfl) ?_
      refine⟨(bJ T m).length - (j+1),by omega,j+1,by omega,rfl,fun i hi=>?_,rfl⟩
      by_cases h:i=j
      ·rw[h];exact hnp
      ·exact hno i (by omega)
     ·skip
      refine ak ?_
      have hy4:=hb2 _ (bX (d:=0) hyl)
      have hc4:=hS.cost a ham
      refine ei mixed (by kernel_rfl) (.a 2 rfl<|.v [78,79] (aL (y) rfl) rfl rfl<|.v [80] (aN rfl (aA _ y hyl)) rfl rfl<|.a 2 rfl<|.v [82,83] (dR rfl (lf T a ham)) rfl rfl<|.v [81,84] (aS rfl (hn:=by unfold In64;omega)) rfl rfl<|.a 2 rfl<|.v [86,87] (aL (m) rfl) rfl rfl<|.v [88] (aN rfl (aA _ m hml)) rfl rfl<|.a 1 rfl<|.k [1,3,4,11,13,14,15,17,18,49,50,51,90] rfl) ?_
      refine ah rfl (fun hq=>?_) (fun hq=>?_)
      ·have hyes:=(hpass true).2 (by rw[hk];exact decide_eq_true (tt hq))
       obtain⟨l,hl⟩:=yN hne hm0 hlt hno hyes
       obtain⟨b,hb,hbn⟩:=cP (T:=T) (D:=D) (n:=m) (d:=d) (a:=(bJ T m).getD j 0) (by rw[hl];simp)
       have hba:b=a:=by omega
       subst hba
       have hdy:=hbn.dN hyh
       refine aQ<|au 3 rfl<|cn (bA rfl (bI.rk.get rfl) rfl rfl rfl rfl (by unfold maxLen;omega)) rfl<|au 1 rfl ?_
       refine ep [1] (.c 1<|.c 3<|.c 4<|.c 11<|.c 13<|.c 14<|.c 18<|.nil) (.kept rfl (.fj rfl (df _ _))<|.nil) rfl rfl (aZ ?_)
       refine ab (.a 2 rfl<|.k [1,3,4,11,13,14,15] rfl)<|bg ?_
       cases f with
       |zero=>omega
       |succ f=>
        refine⟨(dN T D d y).toNat,by omega,p++[(b:Int)],y,f,hyN,hdy.1,by omega,rfl,by simp;omega,?_,by simp⟩
        rw[hp,qd hl,ha,Int.toNat_natCast,hyh,Int.toNat_natCast,List.append_assoc]
        rfl
      ·have hnp:=(hpass false).2 (by rw[hk,Bool.and_eq_false_iff];exact .inr (decide_eq_false (ff hq)))
       refine ak<|az (.v (aS rfl) rfl<|.a 1 rfl<|.k [1,3,4,11,13,14,15,49,50,51] rfl) ?_
       refine⟨(bJ T m).length - (j+1),by omega,j+1,by omega,rfl,fun i hi=>?_,rfl⟩
       by_cases h:i=j
       ·rw[h];exact hnp
       ·exact hno i (by omega)
    ·exact absurd (D4 hv hm hd1 hne hm0 (fun i hi=>hno i (by have:=ff hz;omega))) (fun h=>h)
   ·have hmd:m=d:=by have:=ff hy;omega
    subst hmd
    have hfin:fi T D m f m=[]:=by cases f with|zero=>rfl|succ f=>simp only[fi,iO]
    rw[hfin,List.append_nil]at hp
    exact bg<|ab (.a 3 rfl<|.k [8,9] rfl)<|aq<|⟨_,_,ay.of rfl,aB.bG (an.cons (aB.ew rfl an.pure) (an.cons aB.pure an.nil)),by unfold dx;rw[if_pos rfl];simp only[Int.toNat_natCast];rw[hp];rfl⟩
theorem kX(T:ai)(D:List Bool)(m d:Nat):(bz T D m d).Pairwise (· < ·):=by
 unfold bz
 split
 ·exact List.Pairwise.nil
 ·exact(lu T m).filter _
theorem yi{T:ai}{D:List Bool}{m d a:Nat}(h:(a:Int)∈bz T D m d)(hno:∀i:Nat,i<a→¬(i:Int)∈bz T D m d):∃l,bz T D m d=(a:Int)::l:=by
 have hs:=kX T D m d
 cases hx:bz T D m d with
 |nil=>rw[hx]at h;cases h
 |cons b l=>
  obtain⟨c,rfl,_⟩:=cP (T:=T) (D:=D) (n:=m) (d:=d) (a:=b) (by rw[hx];simp)
  rw[hx]at h hs hno
  have h1:=hno c
  have:c=a:=by
   cases h with
   |head=>rfl
   |tail _ h=>
    have:=(List.pairwise_cons.1 hs).1 _ h
    exact absurd (List.mem_cons_self ..) (h1 (by omega))
  exact⟨l,by rw[this]⟩
theorem H9{T:ai}{D:List Bool}(hv:ao T=true){m d k:Nat}(hm:(m:Int)<T.nodes)(hd:(d:Int)<T.nodes)(hk:k<2*T.af.length):(decide (bb T k=(m:Int))&&H7 T D (bu T D d false) k d)=true↔(k:Int)∈bz T D m d:=by
 obtain⟨y,hyh,hyN⟩:=dB hv hk
 have hS:=aK hv
 constructor
 ·intro h
  obtain⟨h1,h2⟩:=Bool.and_eq_true_iff.1 h
  have h1:=tt h1
  unfold H7 at h2
  rw[h1,hyh]at h2
  simp only[Int.toNat_natCast,Bool.and_eq_true,Bool.not_eq_true',Bool.or_eq_true,decide_eq_true_eq]at h2
  obtain⟨⟨⟨⟨g1,g2⟩,g3⟩,g4⟩,g5⟩:=h2
  refine eU ⟨hk,h1,g1,by omega,?_,?_,?_⟩ (hS.cost k hk).1
  ·rw[hyh,Int.toNat_natCast];exact g3
  ·rw[hyh];rcases g4 with g|g
   ·exact .inl (by omega)
   ·exact .inr (by simpa using g)
  ·rw[hyh,Int.toNat_natCast];exact g5
 ·intro h
  obtain⟨k',hk',hn⟩:=cP h
  have:k'=k:=by omega
  subst this
  have h3:=hn.reach
  have h4:=hn.pass
  have h5:=hn.sum
  have h6:=hn.ne
  rw[hyh,Int.toNat_natCast]at h3 h5
  rw[hyh,Int.toNat_natCast]at h4
  refine Bool.and_eq_true_iff.2 ⟨decide_eq_true hn.tail,?_⟩
  unfold H7
  rw[hn.tail,hyh]
  simp only[Int.toNat_natCast,Bool.and_eq_true,Bool.not_eq_true',Bool.or_eq_true,decide_eq_true_eq]
  refine⟨⟨⟨⟨hn.up,by omega⟩,h3⟩,?_⟩,h5⟩
  rcases h4 with g|g
  ·exact .inl (by omega)
  ·exact .inr (by simpa using g)
set_option maxHeartbeats 2000000 in
theorem xD(T:ai)(D:List Bool)(s d:Int):Can Tryz.prog 90 [aP T,aY D,num s,num d] (· =dx (gv T D s d) (cg T D s.toNat d.toNat)):=by
 obtain⟨g1,hg1⟩:∃q,decide (s<0)=q:=⟨_,rfl⟩
 obtain⟨g2,hg2⟩:∃q,decide (T.nodes≤s)=q:=⟨_,rfl⟩
 have hnb:bn T s= !(g1||g2):=by rw[←hg1,←hg2,←Bool.decide_or,←decide_not];unfold bn;exact decide_eq_decide.2 (by omega)
 refine aE Tryz.func90 rfl Tryz.ntmps90 rfl<|ab (.a 3 rfl<|.k [1,2,3,4] rfl)<|ab (.a 3 rfl<|.c rfl (ob T D d) rfl<|.a 5 rfl<|.k [1,2,3,4,10,11] rfl)<|aj<|ab (.a 2 rfl<|.k [1,2,3,4,10,11,22] rfl)<|ah rfl (fun hc=>?_) (fun hc=>?_)
 ·have he0:cw T D [d]≠0:=tt hc
  have he:cc T D s d≠0:=by unfold cc;rw[if_neg he0];exact he0
  have he2:cc T D s d=cw T D [d]:=by unfold cc;rw[if_neg he0]
  exact ab (.a 3 rfl<|.k [8,9] rfl)<|aq<|⟨_,_,ay.of rfl,aB.bG (an.cons aB.bZ (an.cons aB.pure an.nil)),by unfold dx gv;rw[if_neg he,if_neg he,he2];rfl⟩
 ·have he0:cw T D [d]=0:=Classical.byContradiction (ff hc)
  rw[he0,if_pos rfl]
  refine ak<|aj<|bp 31 (.raw (.bool (g1||g2))) [1,2,3,4,10] rfl ?_ ?_
  ·refine .a 1 rfl<|.v (cb rfl (hg1)) rfl<|.a 1 rfl<|?_
   cases g1
   ·exact .a 3 rfl<|.v (cb rfl (hg2)) rfl<|.a 1 rfl<|.k [31,1,2,3,4,10] rfl
   ·exact .a 5 rfl<|.k [31,1,2,3,4,10] rfl
  refine ah rfl (fun hy=>?_) (fun hy=>?_)
  ·have hn:bn T s=false:=by rw[hnb,hy];rfl
   have he:cc T D s d=2:=by unfold cc;rw[if_pos he0,hn];rfl
   exact ab (.a 2 rfl<|.k [8,9] rfl)<|aq<|⟨_,_,ay.of rfl,aB.bG (an.cons aB.bZ (an.cons aB.pure an.nil)),by unfold dx gv;rw[he];rfl⟩
  ·have hn:bn T s=true:=by rw[hnb,hy];rfl
   have he:cc T D s d=0:=by unfold cc;rw[if_pos he0,hn];rfl
   obtain⟨hv,hf,hns,hnd⟩:=fm he
   obtain⟨hs0,hs1⟩:=aV.1 hns
   obtain⟨hd0,hd1⟩:=aV.1 hnd
   clear hnb hg1 hg2 hy
   obtain⟨s,rfl⟩:=Int.eq_ofNat_of_zero_le hs0
   obtain⟨d,rfl⟩:=Int.eq_ofNat_of_zero_le hd0
   simp only[Int.toNat_natCast]
   have hS:=aK hv
   have hN:=hS.nodes
   have hll:=bO hv
   obtain⟨hb1,hb2⟩:=dq (D:=D) hv (dir:=false) hd1
   refine ak<|aj<|ab (.a 2 rfl<|.v (aL (s) rfl) rfl<|.v (aN rfl (aA _ s (by omega))) rfl<|.a 1 rfl<|.k [1,2,3,4,10,36] rfl)<|ah rfl (fun hy=>?_) (fun hy=>?_)
   ·have h0:dN T D d s<0:=tt hy
    exact ab (.a 2 rfl<|.k [8,9] rfl)<|aq<|⟨_,_,ay.of rfl,aB.bG (an.cons aB.bZ (an.cons aB.pure an.nil)),by unfold dx gv;simp only[Int.toNat_natCast];rw[if_pos he,if_pos h0];rfl⟩
   ·have h0:0≤dN T D d s:=by have:=ff hy;show 0≤(bu T D d false).getD s 0;omega
    have hE:gv T D (s:Int) (d:Int)=0:=by unfold gv;simp only[Int.toNat_natCast];rw[if_pos he,if_neg (by omega)]
    rw[hE]
    refine ak<|ab (.a 1 rfl<|.k [1,2,3,4,10,12] rfl)<|gQ 12 3 1 rfl ?_
    refine aj<|av<|ft [1,2,3,4,10,12] rfl<|br (fun r st=>∃(p:List Int) (m f:Nat),(m:Int)<T.nodes∧0≤dN T D d m∧dN T D d m≤f∧r=(dN T D d m).toNat∧(p.length:Int)+dN T D d m≤dN T D d s∧cg T D s d=p++fi T D d f m∧st=⟨[(1,aY D),(2,num m),(3,num d),(4,.aX (bx T) 0),(10,aw (bu T D d false)),(12,.own 0)],[some (.row 3 1 p.length (aO p))]⟩) (dN T D d s).toNat ⟨[],s,(dN T D d s).toNat,hs1,h0,by omega,rfl,by simp,rfl,rfl⟩ ?_
    rintro r st ⟨p,m,f,hm,hm0,hmf,rfl,hpl,hp,rfl⟩
    refine aj<|ab (.a 3 rfl<|.k [1,2,3,4,10,12,39] rfl)<|ah rfl (fun hz=>?_) (fun hz=>?_)
    ·have hne:m≠d:=by have:=tt hz;omega
     have hbnd:=(Hu (D:=D) hv hd1 hs1).2
     refine ak<|av<|ab (.a 1 rfl<|.k [1,2,3,4,10,12,13] rfl)<|av<|ft [1,2,3,4,10,12,13] rfl<|br (fun r st=>∃a:Nat,a≤2*T.af.length∧r=2*T.af.length - a∧(∀i:Nat,i<a→¬(i:Int)∈bz T D m d)∧st=⟨[(1,aY D),(2,num m),(3,num d),(4,.aX (bx T) 0),(10,aw (bu T D d false)),(12,.own 0),(13,num a)],[some (.row 3 1 p.length (aO p))]⟩) (2*T.af.length) ⟨0,by omega,by omega,fun i hi=>by omega,rfl⟩ ?_
     rintro r st ⟨a,ha,rfl,hno,rfl⟩
     refine aj<|ab (.a 4 rfl<|.v (aS rfl) rfl<|.a 1 rfl<|.k [1,2,3,4,10,12,13,45] rfl)<|ah rfl (fun hq=>?_) (fun hq=>?_)
     ·have ham:a<2*T.af.length:=by have:=tt hq;omega
      obtain⟨y,hyh,hyN⟩:=dB hv ham
      have hh:=gJ T hv a ham
      rw[hyh]at hh
      obtain⟨p1,hp1⟩:∃q,decide (bb T a=(m:Int))=q:=⟨_,rfl⟩
      obtain⟨p2,hp2⟩:∃q,H7 T D (bu T D d false) a d=q:=⟨_,rfl⟩
      have hon:=H9 (D:=D) hv hm hd1 ham
      rw[hp1,hp2]at hon
      refine ak<|aj<|av<|bp 60 (.raw (.bool (p1&&p2))) [1,2,3,4,10,12,13] rfl ?_ ?_
      ·refine .a 2 rfl<|.c rfl (gC T hv a ham) rfl<|.a 1 rfl<|.v (cb rfl (hp1)) rfl<|.a 1 rfl<|?_
       cases p1
       ·exact .a 7 rfl<|.k [60,1,2,3,4,10,12,13] rfl
       ·exact .a 5 rfl<|.c rfl (hp2▸Ih T D (bu T D d false) a d hv hf hb1 hb2 ham) rfl<|.a 1 rfl<|.k [60,1,2,3,4,10,12,13] rfl
      refine ah rfl (fun hk=>?_) (fun hk=>?_)
      ·have hmem:=hon.1 hk
       obtain⟨l,hl⟩:=yi hmem hno
       obtain⟨b,hb,hbn⟩:=cP hmem
       have hba:b=a:=by omega
       subst hba
       have hdy:=hbn.dN hyh
       have hcy:=hS.cost b ham
       refine aQ<|au 3 rfl<|cn (bA rfl (bI.rk.get rfl) rfl rfl rfl rfl (by unfold maxLen;omega)) rfl<|au 1 rfl ?_
       refine ep [1] (.c 1<|.c 3<|.c 4<|.c 10<|.c 12<|.c 13<|.nil) (.kept rfl (.fj rfl (df _ _))<|.nil) rfl rfl (aZ ?_)
       refine ab (.a 2 rfl<|.c rfl (hh) rfl<|.a 1 rfl<|.k [1,2,3,4,10,12] rfl)<|bg ?_
       cases f with
       |zero=>omega
       |succ f=>
        refine⟨(dN T D d y).toNat,by omega,p++[(b:Int)],y,f,hyN,hdy.1,by omega,rfl,by simp;omega,?_,by simp⟩
        rw[hp,qd hl,Int.toNat_natCast,hyh,Int.toNat_natCast,List.append_assoc]
        rfl
      ·have hnm:¬(a:Int)∈bz T D m d:=fun h=>by rw[hon.2 h]at hk;cases hk
       refine ak<|az (.a 1 rfl<|.v (aS rfl) rfl<|.a 1 rfl<|.k [1,2,3,4,10,12,13] rfl) ?_
       refine⟨2*T.af.length - (a+1),by omega,a+1,by omega,rfl,fun i hi=>?_,rfl⟩
       by_cases h:i=a
       ·rw[h];exact hnm
       ·exact hno i (by omega)
     ·have hcon:False:=by
       obtain⟨k,hk⟩:=jo (D:=D) hv hm hd1 hne hm0
       have:=eU hk (hS.cost k hk.fx).1
       exact hno k (by have:=hk.fx;have:=ff hq;omega) this
      exact absurd hcon (fun h=>h)
    ·have hmd:m=d:=by have:=ff hz;omega
     subst hmd
     have hfin:fi T D m f m=[]:=by cases f with|zero=>rfl|succ f=>simp only[fi,iO]
     rw[hfin,List.append_nil]at hp
     exact bg<|ab (.a 3 rfl<|.k [8,9] rfl)<|aq<|⟨_,_,ay.of rfl,aB.bG (an.cons (aB.ew rfl an.pure) (an.cons aB.pure an.nil)),by unfold dx;rw[if_pos rfl,hp];rfl⟩
end PW
end Go.Proofs.YtnegbdpggideiaaGreatDoor
