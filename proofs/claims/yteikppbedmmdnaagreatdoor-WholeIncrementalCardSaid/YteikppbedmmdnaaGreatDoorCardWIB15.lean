/- Texts of the proof, part 15. -/
import Derived.Laws.CopyRow
import Derived.Laws.IdiomCopy
import Derived.Test.YteikppbedmmdnaaGreatDoorCardWIB14
set_option linter.unusedVariables false
set_option linter.unusedSimpArgs false
set_option maxRecDepth 10000
set_option maxHeartbeats 1000000
namespace Go.Proofs.YteikppbedmmdnaaGreatDoor
namespace PW
section
open Go.RowKit cj Mem Net Heap
set_option maxHeartbeats 4000000 in
theorem Df(T : ah)(D : List Bool)(n : Nat)(dir : Bool)(f1 f2 : FuncId)(cap1 cap2 : List PV)[aI cap1][aI cap2](hv : au T = true)(hf : bR T D = true)(hn : (n : Int) < T.nodes)(he1 : enters Tryz.prog f1 = true)(he2 : enters Tryz.prog f2 = true)
    (h1:∀i:Nat,(i:Int)<T.nodes→Can Tryz.prog f1 ([num i]++cap1) (· =aw (aP T dir i))) (h2:∀a:Nat,a<2*T.ae.length→Can Tryz.prog f2 ([num a]++cap2) (· =num (eK T dir a))):
    aW Tryz.prog 59 [.agg (ig T D n f1 f2 cap1 cap2)] [] (fun r σ'=>r= .own 0∧σ'=[some (.row 3 1 (aO T D n dir).length (aL (aO T D n dir)))]):=by
  have hbd:=dz hv
  have hS:=aM hv
  obtain⟨N,hN⟩:∃N:Nat,T.nodes=(N:Int):=⟨T.nodes.toNat,by omega⟩
  have hN64:N≤64:=by have:=hS.nodes;omega
  have hnN:n<N:=by omega
  refine bO Tryz.func59 I Tryz.ntmps59 I<|af (.a 2 I<|.k [1] I)<|aR<|ax 3 I<|cg (da I (bG.rk.get I) I I hN hN ⟨by unfold maxLen;omega,by omega⟩) I<|ax 1 I<|aH [1,3] I ?_
  refine an<|af (.a 3 I<|.k [1,3,21,22] I)<|ay<|eY [1,3,21,22] I<|br (fun r s=>∃k,k≤N∧r=N - k∧s=⟨[(1,.bg (ig T D n f1 f2 cap1 cap2) 0),(3,.own 0),(21,num N),(22,num k)],[some (.row 3 1 N (aL (List.replicate k (-1)++List.replicate (N - k) 0)))]⟩) N ⟨0,by omega,by omega,by rw[←lx N];rfl⟩ ?_
  rintro r s ⟨k,hk,rfl,rfl⟩
  refine af (.a 1 I<|.k [1,3,21,22,23] I)<|an<|aj I (fun hc=>?_) (fun hc=>?_)
  · have hlt:k<N:=by have:=of_decide_eq_true hc;omega
    refine ak<|an<|ay<|af (.a 2 I<|.k [1,3,4,21,22] I)<|bx<|ax 2 I<|bw (aJ (k) I) I<|ba ((by first|exact bM I (bG.tk.get I) I I I (by first|omega|(simp;omega))|exact aX I (bG.tk.get I) I I I (by first|omega|(simp;omega)))) I I<|aH [1,3,21,22] I ?_
    refine dF (σ':=[some (.row 3 1 N (aL (List.replicate (k+1) (-1)++List.replicate (N - (k+1)) 0)))]) (by rw[←wU N k hlt];rfl) ?_
    refine aF (.v (aU I) I<|.a 1 I<|.k [1,3,21,22] I) ?_
    exact⟨N - (k+1),by omega,k+1,by omega,rfl,rfl⟩
  · have hke:k=N:=by have:=of_decide_eq_false hc;omega
    subst hke
    refine dF (σ':=[some (.row 3 1 k (aL (List.replicate k (-1))))]) (by simp) ?_
    refine bp<|aR<|ax 2 I<|bw (aK I ((show some (num T.nodes)=some (num (k:Int)) by rw[hN]))) I<|b7 I I (aW.mono (uC k (some (.row 3 1 k (aL (List.replicate k (-1))))) (eR _ _) (by omega)) (fun _ σ' h=>?_))
    obtain⟨rfl,rfl⟩:=h
    refine ax 5 I<|aH [1,3,5] I ?_
    refine aR<|ax 3 I<|b7 I I (aW.mono (oe (some (.row 3 1 k (aL (List.replicate k (-1))))) (eR _ _) _ _ _ (qm k) (by omega) n hnN 0) (fun _ σ' h=>?_))
    obtain⟨b,n1,P1,O1,rfl,hok,hheld⟩:=h
    refine aH [1,3,5] I ?_
    refine pE (eR _ _) (.cons 1 I Ren.pure<|.cons 3 I (Ren.own (i:=0) I)<|.cons 5 I (Ren.ptr (i:=1) I)<|.nil) ?_
    have hD0:=tf (T:=T) (D:=D) (N:=k) (n:=n) (dir:=dir) hN.symm hnN (K:=(List.replicate k (0:Int)).set n 0) (H:=fun y=>cd O1 (y:Int)) (by rw[vz _ _ _ _ (by simpa using hnN),if_pos rfl]) (fun y=>(hheld y).trans ⟨fun h=>h.elim (fun⟨p,hp,_⟩=>by simp at hp) (fun e=>by omega),fun e=>.inr (by omega)⟩)
    generalize (List.replicate k (0:Int)).set n 0=K1 at hok hD0
    generalize List.replicate k (-1:Int)=out1 at hD0
    clear hheld
    refine ay<|eY [1,3,5] I<|br (fun r s=>∃out K P O q,uu T D n dir out K (fun y=>cd O (y:Int)) (fun _=>False)∧oS k q K P O∧r=k+1 - fL out∧s=⟨[(1,.bg (ig T D n f1 f2 cap1 cap2) 0),(3,.own 0),(5,.ptr 1 0)],eP false (some (.row 3 1 k (aL out))) k q K P O⟩) (k+1 - fL out1) ⟨out1,K1,P1,O1,n1,hD0,hok,rfl,rfl⟩ ?_
    clear hD0 hok out1 K1 P1 O1 n1 b
    rintro r s ⟨out,K,P,O,q,hD,hok,rfl,rfl⟩
    refine ay<|aR<|ax 1 I<|b7 I I (aW.mono (uL (some (.row 3 1 k (aL out))) (eR _ _) K P O hok (by omega)) (fun _ σ' h=>?_))
    obtain⟨b,ok,i,n1,key,K1,P1,O1,rfl,rfl,hpop⟩:=h
    refine ax 7 I<|aH [1,3,5,7,8,9] I ?_
    refine pE (eR _ _) (.cons 1 I Ren.pure<|.cons 3 I (Ren.own (i:=0) I)<|.cons 5 I (Ren.ptr (i:=1) I)<|.cons 7 I Ren.pure<|.cons 8 I Ren.pure<|.cons 9 I Ren.pure<|.nil) ?_
    refine an<|af (.a 2 I<|.k [1,3,5,7,8,47] I)<|aj I (fun hc=>?_) (fun hc=>?_)
    · have hok0:ok=false:=by cases ok;rfl;cases hc
      have hq0:q=0:=by
        rcases hpop with⟨_,h⟩|⟨h,_⟩
        · exact h
        · rw[hok0]at h;cases h
      have hdist:aO T D n dir=out:=jn hS (AP hD (fun y ⟨p,hp,_⟩=>by have:=hok.2.1;omega))
      refine cJ [0] (.c 3 .nil) (.kept rfl (.row ao.pure) .nil) I I ?_
      exact af (.a 2 I<|.k [2] I)<|az<|⟨_,aE.of I,rfl,by rw[hdist,show out.length=k by have:=hD.len;omega]⟩
    · have hok1:ok=true:=by cases ok;cases hc;rfl
      rcases hpop with⟨h,_⟩|⟨_,hiN,hHi,hmin,rfl,rfl,hok',hH'⟩
      · rw[hok1]at h;cases h
      obtain⟨hD1,hcnt,htop,hati,hk0,hku⟩:=Ah hS hD hHi hmin (by rw[hok.2.2.1];exact hiN) hH'
      have hol:out.length=k:=by have:=hD.len;omega
      have hcl:=gZ (out.set i (K.getD i 0))
      have hiT:(i:Int)<T.nodes:=by omega
      refine ak<|aR<|ax 3 I<|bw (aJ (i) I) I<|ba ((by first|exact bM I (bG.tk.get I) I I I (by first|omega|(simp;omega))|exact aX I (bG.tk.get I) I I I (by first|omega|(simp;omega)))) I I<|aH [1,3,5,7,8] I ?_
      refine dF (σ':=eP false (some (.row 3 1 k (aL (out.set i (K.getD i 0))))) k n1 (K.set i 0) P1 O1) I ?_
      have ho1:(out.set i (K.getD i 0)).length=k:=by simpa using hol
      have hmeas:k+1 - fL (out.set i (K.getD i 0))<k+1 - fL out:=by have:=gZ (out.set i (K.getD i 0));omega
      generalize K.getD i 0=d at hD1 hcnt htop hati hk0 hku ho1 hcl hmeas
      generalize out.set i d=out1 at hD1 hcnt htop hati ho1 hcl hmeas
      generalize K.set i 0=K1 at hD1 hok'
      refine an ?_
      obtain⟨q1,hq1⟩:∃q,decide ((i:Int)≠(n:Int))=q:=⟨_,rfl⟩
      obtain⟨q2,hq2⟩:∃q,cL T i=q:=⟨_,rfl⟩
      have hov:T.over.length=0∨i<T.over.length:=by have:=hbd.2.2.2;omega
      refine bP 62 (.raw (.bool (q1&&q2))) [1,3,5,7,8] I ?_ ?_
      · refine .a 3 I<|.v (cD I (hq1)) I<|.a 1 I<|?_
        cases q1
        · exact .a 5 I<|.k [62,1,3,5,7,8] I
        · exact .a 3 I<|.c rfl (hq2▸lK T i hov) I<|.a 1 I<|.k [62,1,3,5,7,8] I
      refine aj I (fun hc=>?_) (fun hc=>?_)
      · obtain⟨c1,c2⟩:=Bool.and_eq_true_iff.1 hc
        rw[c1]at hq1
        rw[c2]at hq2
        have hDe:=xj hD1 (by have:=of_decide_eq_true hq1;omega) hq2
        refine iJ (.cons (k:=1) I<|.cons (k:=3) I<|.cons (k:=5) I<|Sub.nil _) ?_
        refine bp ?_
        first
          |exact⟨_,hmeas,out1,K2,P2,O2,q2,hDe,hok2,rfl,rfl⟩
          |exact⟨_,hmeas,out1,K1,P1,O1,n1,hDe,hok',rfl,rfl⟩
      · have hfree:i=n∨cL T i=false:=by
          by_cases e:i=n
          · exact .inl e
          · right
            have:q1=true:=by rw[←hq1];simp;omega
            rw[this,Bool.true_and]at hc
            rw[hq2,hc]
        clear hq1 hq2 hc
        refine ak<|af (.a 3 I<|.v (pq I he1 rfl rfl (h1 i hiT)) I<|.a 2 I<|.k [1,3,5,8,66,67,68] I) ?_
        have hll:=gT T dir i
        have hD2:uu T D n dir out1 K1 (fun y=>cd O1 (y:Int)) (fun a=>cz T dir a=(i:Int)∧(a:Int)∉(aP T dir i).take 0):=⟨hD1.len,hD1.ge,hD1.root,hD1.qg,hD1.mono,hD1.jJ,hD1.jh,fun a ha hs=>hD1.closed a ha (fun e=>hs ⟨e,by simp⟩),hD1.ub,hD1.AF⟩
        refine ay<|eY [1,3,5,8,66,67,68] I<|br (fun r s=>∃j K P O q,j≤(aP T dir i).length∧uu T D n dir out1 K (fun y=>cd O (y:Int)) (fun a=>cz T dir a=(i:Int)∧(a:Int)∉(aP T dir i).take j)∧oS k q K P O∧r=(aP T dir i).length - j∧s=⟨[(1,.bg (ig T D n f1 f2 cap1 cap2) 0),(3,.own 0),(5,.ptr 1 0),(8,num d),(66,aw (aP T dir i)),(67,num (aP T dir i).length),(68,num j)],eP false (some (.row 3 1 k (aL out1))) k q K P O⟩) (aP T dir i).length ⟨0,K1,P1,O1,n1,by omega,hD2,hok',rfl,rfl⟩ ?_
        clear hD2 hok' hD1 K1 P1 O1 n1 hH' hmin hHi hD hok
        rintro r s ⟨j,K2,P2,O2,q2,hj,hD2,hok2,rfl,rfl⟩
        refine af (.a 1 I<|.k [1,3,5,8,66,67,68,69] I)<|an<|aj I (fun hc=>?_) (fun hc=>?_)
        · have hlt:j<(aP T dir i).length:=by have:=of_decide_eq_true hc;omega
          obtain⟨a,ha,ham,hay⟩:=jj T dir i j hlt
          obtain⟨m,hm⟩:=Int.eq_ofNat_of_zero_le (hS.x dir a ham).1
          have hmN:m<k:=by have:=(hS.x dir a ham).2;omega
          have hcb:=hS.cost a ham
          have hDl:D.length=0∨a<D.length:=by simp only[bR,decide_eq_true_eq]at hf;omega
          have hSS:∀b,b<2*T.ae.length→(cz T dir b=(i:Int)∧(b:Int)∉(aP T dir i).take j)→(cz T dir b=(i:Int)∧(b:Int)∉(aP T dir i).take (j+1))∨b=a:=fun b _ ⟨e1,e2⟩=>by
            by_cases e:b=a
            · exact .inr e
            · left
              refine⟨e1,fun hm'=>?_⟩
              rw[dr _ j 0 hlt,ha]at hm'
              rcases List.mem_append.1 hm' with h|h
              · exact e2 h
              · simp at h;exact e (by omega)
          have hayi:at' out1 (cz T dir a)=d:=by rw[hay];exact hati
          have hga:out1.getD m 0=at' out1 (m:Int):=by simp[at',List.getD_eq_getElem?_getD,show m<out1.length by omega]
          refine ak<|an<|ay<|af (.v (aJ (j) I) I<|.v (aK I ((aC _ j hlt).trans (by rw[ha]))) I<|.a 1 I<|.k [1,3,5,8,11,66,67,68] I)<|af (.a 3 I<|.v (pq I he2 rfl rfl (hm▸h2 a ham)) I<|.a 1 I<|.k [1,3,5,8,11,12,66,67,68] I)<|an ?_
          obtain⟨p1,hp1⟩:∃q,bF D a=q:=⟨_,rfl⟩
          obtain⟨p2,hp2⟩:∃q,decide (0≤out1.getD m 0)=q:=⟨_,rfl⟩
          refine bP 86 (.raw (.bool (p1||p2))) [1,3,5,8,11,12,66,67,68] I ?_ ?_
          · refine .a 3 I<|.c rfl (hp1▸jl D a hDl) I<|.a 1 I<|?_
            cases p1
            · exact .a 2 I<|.v (aJ (m) I) I<|.v (aK I (aC out1 m (by omega))) I<|.v (cD I (hp2)) I<|.a 1 I<|.k [86,1,3,5,8,11,12,66,67,68] I
            · exact .a 6 I<|.k [86,1,3,5,8,11,12,66,67,68] I
          refine aj I (fun hc=>?_) (fun hc=>?_)
          · have hD3:=qy (S':=fun b=>cz T dir b=(i:Int)∧(b:Int)∉(aP T dir i).take (j+1)) hD2 hSS (fun hw=>.inl (by
              rcases Bool.or_eq_true_iff.1 hc with h|h
              · rw[hw.1]at hp1;rw[h]at hp1;cases hp1
              · rw[h]at hp2
                have h3:=of_decide_eq_true hp2
                rw[hga]at h3
                rw[hm,hayi]
                have:=htop m (by omega)
                exact⟨h3,by omega⟩))
            refine bp<|aF (.v (aU I) I<|.a 1 I<|.k [1,3,5,8,66,67,68] I) ?_
            first
              |exact⟨(aP T dir i).length - (j+1),by omega,j+1,_,P3,O3,n3,by omega,hD3,hok3,rfl,rfl⟩
              |exact⟨(aP T dir i).length - (j+1),by omega,j+1,K2,P2,O2,q2,by omega,hD3,hok2,rfl,rfl⟩
          · obtain⟨c1,c2⟩:=Bool.or_eq_false_iff.1 hc
            rw[c1]at hp1
            rw[c2]at hp2
            have hmneg:at' out1 (m:Int)<0:=by have:=of_decide_eq_false hp2;rw[hga]at this;omega
            have hway:Net.Way T D n dir out1 a:=⟨hp1,by rw[hayi];exact hk0,by rw[hay,Int.toNat_natCast];rcases hfree with h|h;(exact .inl (by rw[h]));exact .inr h⟩
            refine ak<|af (.a 4 I<|.c rfl (gi T a ham) I<|.v (aU I) I<|.a 1 I<|.k [1,3,5,8,12,13,66,67,68] I) ?_
            obtain⟨p3,hp3⟩:∃q,(!decide (P2.getD m 0=0))=q:=⟨_,rfl⟩
            obtain⟨kv,hkv⟩:∃z,(if P2.getD m 0=0 then 0 else K2.getD m 0)=z:=⟨_,rfl⟩
            have hkc:=vM K2 P2 O2 hok2.1.len hok2.2.2.1 (by omega) m hmN
            rw[hp3,hkv]at hkc
            refine af (.a 2 I<|.v (oM I (D5 (nS false _ hok2.2.2.1 hok2.1.len hok2.2.1) _) (hkc)) I<|.a 5 I<|.k [1,3,5,8,12,13,14,15,66,67,68] I) ?_
            obtain⟨p4,hp4⟩:∃q,decide (d+bS T a<kv)=q:=⟨_,rfl⟩
            refine bP 105 (.raw (.bool ((!p3)||p4))) [1,3,5,8,12,13,66,67,68] I ?_ ?_
            · refine .a 3 I<|?_
              cases p3
              · exact .a 4 I<|.k [105,1,3,5,8,12,13,66,67,68] I
              · exact .a 2 I<|.v (cD I (hp4)) I<|.a 1 I<|.k [105,1,3,5,8,12,13,66,67,68] I
            refine aj I (fun hc=>?_) (fun hc=>?_)
            · have hnew:¬cd O2 (m:Int)∨at' out1 (cz T dir a)+bS T a<K2.getD m 0:=by
                rw[hayi]
                by_cases e:P2.getD m 0=0
                · exact .inl ((hok2.1.zero hmN).1 e)
                · right
                  have h3:p3=true:=by rw[←hp3];simp only[e];rfl
                  rw[h3]at hc
                  have h4:p4=true:=by simpa using hc
                  rw[h4]at hp4
                  have:=of_decide_eq_true hp4
                  rw[if_neg e]at hkv
                  omega
              refine bx<|ax 3 I<|b7 I I (aW.mono (oe (some (.row 3 1 k (aL out1))) (eR _ _) K2 P2 O2 hok2 (by omega) m hmN (d+bS T a)) (fun _ σ' h=>?_))
              obtain⟨b3,n3,P3,O3,rfl,hok3,hH3⟩:=h
              refine aH [1,3,5,8,66,67,68] I ?_
              refine pE (eR _ _) (.cons 1 I Ren.pure<|.cons 3 I (Ren.own (i:=0) I)<|.cons 5 I (Ren.ptr (i:=1) I)<|.cons 8 I Ren.pure<|.cons 66 I Ren.pure<|.cons 67 I Ren.pure<|.cons 68 I Ren.pure<|.nil) ?_
              have hD3:=A3 (S':=fun b=>cz T dir b=(i:Int)∧(b:Int)∉(aP T dir i).take (j+1)) (H':=fun y=>cd O3 (y:Int)) hS hD2 ham hSS hway hm hmneg (fun x hx=>by rw[hayi];exact htop x hx) (by rw[hayi];omega) hnew (by rw[hok2.2.2.1];exact hmN) (fun y=>(hH3 y).trans ⟨fun h=>h.imp id (fun e=>by omega),fun h=>h.imp id (fun e=>by omega)⟩)
              rw[hayi]at hD3
              refine aF (.v (aU I) I<|.a 1 I<|.k [1,3,5,8,66,67,68] I) ?_
              first
                |exact⟨(aP T dir i).length - (j+1),by omega,j+1,_,P3,O3,n3,by omega,hD3,hok3,rfl,rfl⟩
                |exact⟨(aP T dir i).length - (j+1),by omega,j+1,K2,P2,O2,q2,by omega,hD3,hok2,rfl,rfl⟩
            · obtain⟨c3,c4⟩:=Bool.or_eq_false_iff.1 hc
              have h3:p3=true:=by cases p3;cases c3;rfl
              rw[h3]at hp3
              rw[c4]at hp4
              have e:P2.getD m 0≠0:=fun e=>by rw[e]at hp3;cases hp3
              have hD3:=qy (S':=fun b=>cz T dir b=(i:Int)∧(b:Int)∉(aP T dir i).take (j+1)) hD2 hSS (fun hw=>.inr (by
                rw[hm,Int.toNat_natCast,hayi]
                refine⟨Classical.byContradiction fun hh=>e ((hok2.1.zero hmN).2 hh),?_⟩
                rw[if_neg e]at hkv
                have:=of_decide_eq_false hp4
                omega))
              refine ak<|aF (.v (aU I) I<|.a 1 I<|.k [1,3,5,8,66,67,68] I) ?_
              first
                |exact⟨(aP T dir i).length - (j+1),by omega,j+1,_,P3,O3,n3,by omega,hD3,hok3,rfl,rfl⟩
                |exact⟨(aP T dir i).length - (j+1),by omega,j+1,K2,P2,O2,q2,by omega,hD3,hok2,rfl,rfl⟩
        · have hje:j=(aP T dir i).length:=by have:=of_decide_eq_false hc;omega
          have hDe:uu T D n dir out1 K2 (fun y=>cd O2 (y:Int)) (fun _=>False):=⟨hD2.len,hD2.ge,hD2.root,hD2.qg,hD2.mono,hD2.jJ,hD2.jh,fun a ha _=>hD2.closed a ha (fun⟨e1,e2⟩=>e2 (by rw[hje,List.take_length];exact(fP T dir i a).2 ⟨ha,e1⟩)),hD2.ub,hD2.AF⟩
          refine iJ (.cons (k:=1) I<|.cons (k:=3) I<|.cons (k:=5) I<|Sub.nil _) ?_
          refine bp ?_
          first
            |exact⟨_,hmeas,out1,K2,P2,O2,q2,hDe,hok2,rfl,rfl⟩
            |exact⟨_,hmeas,out1,K1,P1,O1,n1,hDe,hok',rfl,rfl⟩
theorem Bk(T:ah)(D:List Bool)(d:Int):aW Tryz.prog 25 [aZ T,bq D,num d] [] (fun r σ'=>(cX T D [d]≠0∧r= .tuple [.raw (.slice none 0 0),num (cX T D [d])]∧σ'=[])∨(cX T D [d]=0∧r= .tuple [.own 0,num 0]∧σ'=[some (.row 3 1 (aO T D d.toNat false).length (aL (aO T D d.toNat false)))])):=by
 refine bO Tryz.func25 I Tryz.ntmps25 I<|af (.a 3 I<|.k [1,2,3] I)<|an<|af (.a 4 I<|.c rfl (mP T D [d] (by simp)) I<|.a 1 I<|.k [1,2,3,8] I)<|af (.a 2 I<|.k [1,2,3,8,17] I)<|aj I (fun hc=>?_) (fun hc=>?_)
 ·have he:cX T D [d]≠0:=of_decide_eq_true hc
  exact af (.a 3 I<|.k [6,7] I)<|az<|⟨_,aE.of I,.inl ⟨he,rfl,rfl⟩⟩
 ·have he:cX T D [d]=0:=by have:=of_decide_eq_false hc;omega
  have hok:(au T&&bR T D)=true∧bH T d=true:=by
   unfold cX at he
   split at he
   ·rename_i h1
    split at he
    ·rename_i h2;exact⟨h1,by simpa using h2⟩
    ·omega
   ·omega
  obtain⟨hvf,hnd⟩:=hok
  obtain⟨hv,hf⟩:=Bool.and_eq_true_iff.1 hvf
  have hd:0≤d∧d<T.nodes:=by simpa[bH]using hnd
  obtain⟨n,rfl⟩:=Int.eq_ofNat_of_zero_le hd.1
  have hS:=aM hv
  refine ak<|aR<|ax 1 I<|fC I (oC T hv) I<|ax 2 I<|aH [1,2,3,9] I ?_
  refine aR<|ax 3 I<|bw (dw I I) I<|ax 4 I<|aH [10] I ?_
  refine km (.cons 10 I (aD.gC rfl (ai.cons aD.pure<|ai.cons aD.pure<|ai.cons aD.pure<|ai.cons aD.pure<|ai.cons aD.pure<|ai.cons (aD.fy (ai.cons (aD.gC rfl (ai.cons aD.pure ai.nil)) ai.nil))<|ai.cons aD.pure ai.nil)) .nil) ?_
  refine aR<|ax 1 I<|b7 I I (aW.mono (Df T D n false 56 57 [.bg [ew (ca (aB T) T.nodes.toNat (2*T.ae.length))] 0] [.bg (bI T) 0] hv hf hd.2 (by kernel_rfl) (by kernel_rfl) (fun i hi=>by have h:=th (ca (aB T) T.nodes.toNat (2*T.ae.length)) i (by rw[cQ];omega);rw[dH _ _ _ _ (by omega)]at h;exact h) (fun a ha=>ui T a ha)) (fun _ σ' h=>?_))
  obtain⟨rfl,rfl⟩:=h
  refine ax 2 I<|aH [6,7] I ?_
  exact az<|⟨_,aE.of I,.inr ⟨he,rfl,rfl⟩⟩
end
section
open Go.RowKit cj Mem
theorem BZ{α:Type}{l:List α}{k:Nat}{x:α}(h:l[k]? =some x):l.set k x=l:=by
 obtain⟨h1,rfl⟩:=List.getElem?_eq_some_iff.1 h
 exact List.set_getElem_self h1
section
variable {P:Program} {σ:bN} {t:b9} {o:Oper}
theorem zD{ty e n i e' s':Nat}{x y:Operand}{xs ys:List PV}(ho:o.op= .call {callee:=.builtin .copy,args:= #[x,y],argTypes:= #[ty,ty]})(hu:P.underlying ty=some (.slice e))(hs:(P.info? e).map (·.size)=some 1)(hx:aA t x=some (.own i))(hi:σ[i]? =some (some (.row e' s' n xs)))(hy:aA t y=some (.slice 0 ys)):cM P σ t o (.raw (.int .i64 0)) σ:=by
 intro F base E ρ w hρ hS hT
 have h1:=aq hρ hT hx
 have h2:=aq hρ hT hy
 generalize hz1:ρ x=v at h1
 generalize hz2:ρ y=u at h2
 have hv:∃d m c,v= .slice d m c:=by
  cases h1 with
  |own _ hmL _ h _=>
   obtain⟨cs,k1,k2⟩:=hS.blk i _ hi
   rcases k1.2 with⟨hv,h0⟩|⟨g,cap,cur,hv,_⟩
   ·rw[hv]at h;subst h;exact⟨_,_,_,rfl⟩
   ·rw[hv]at h;subst h;exact⟨_,_,_,rfl⟩
 have hw:∃d c,u= .slice d 0 c:=by
  cases h2 with
  |cc=>exact⟨_,_,rfl⟩
  |empty a c h=>exact⟨_,_,rfl⟩
  |slice b off _ c cs _ h0=>omega
 obtain⟨d,m,c,rfl⟩:=hv
 obtain⟨d',c',rfl⟩:=hw
 have hrun:=run_copy_none (P:=P) w ty ty o.type e d d' m c 0 c' hu hs (by simp)
 have hr:(execOp ρ o).run P w= .ok (.value (.int .i64 0)) w:=by
  simp only[execOp,ho,resolve,invoke,builtin,List.map_toArray,List.map_cons,List.map_nil,hz1,hz2,Sem.run_bind,Sem.run_pure,Result.andThen_ok,hrun,goInt]
 exact⟨_,w,E,.inl hr,hS,cp.refl _ _,Below.refl _ _,.raw _⟩
theorem B7{ty e n i:Nat}{x y:Operand}{xs ys:List PV}(ho:o.op= .call {callee:=.builtin .copy,args:= #[x,y],argTypes:= #[ty,ty]})(hu:P.underlying ty=some (.slice e))(hs:(P.info? e).map (·.size)=some 1)(hx:aA t x=some (.own i))(hi:σ[i]? =some (some (.row e 1 n xs)))(hy:aA t y=some (.slice n ys))(hl:ys.length=n)(hn:0<n)[cZ ys]:
  cM P σ t o (.raw (.int .i64 n)) (σ.set i (some (.row e 1 n ys))):=by
 intro F base E ρ w hρ hS hT
 have h1:=aq hρ hT hx
 have h2:=qb (aq hρ hT hy)
 generalize hz1:ρ x=v at h1
 generalize hz2:ρ y=u at h2
 rcases h2 with⟨_,h0,_⟩|⟨a,c,news,rfl,hnews,hR⟩
 ·omega
 ·cases h1 with
  |own _ hiL _ hat _=>
   obtain⟨cs,k1,k2⟩:=hS.blk i _ hi
   obtain⟨hcl,k1'⟩:=k1
   rcases k1' with⟨_,h0⟩|⟨b,cap,cur,hv,hb0,hg,hnc,hcm,hcs,htake⟩
   ·omega
   ·rw[hv]at hat
    subst hat
    have hbk:aY (E.at_ i)=some b:=by rw[hv];rfl
    have hbM:E.M b:=(hS.mm b).2 (.inr ⟨i,_,hi,hbk⟩)
    have hnl:news.length=n:=hR.1.trans hl
    have hrun:=run_copy_row (P:=P) w ty ty o.type e b 0 n cap a n c cur e news hu hs hg (by rw[hnl];simp) hnews (by rw[hnl,hcs];omega) hR.uD
    rw[hnl,Nat.zero_add,List.take_zero,List.nil_append]at hrun
    have hr:(execOp ρ o).run P w= .ok (.value (.int .i64 n)) (w.setRow b (news++cur.toList.drop n).toArray):=by
     simp only[execOp,ho,resolve,invoke,builtin,List.map_toArray,List.map_cons,List.map_nil,hz1,hz2,Sem.run_bind,Sem.run_pure,Result.andThen_ok,hrun,goInt]
    have oth:∀j,j<w.heap.size→j≠b→(w.setRow b (news++cur.toList.drop n).toArray).heap[j]? =w.heap[j]? :=fun j _ hj=>setRow_other w b j _ hj
    have hsize:w.heap.size≤(w.setRow b (news++cur.toList.drop n).toArray).heap.size:=by simp
    have g:cp E w E (w.setRow b (news++cur.toList.drop n).toArray):=⟨Nat.le_refl _,fun _ _=>rfl,fun _ _ h=>h,hsize,fun j hj hM=>oth j hj (fun e=>hM (by rw[e];exact hbM))⟩
    have hcz:cur.toList.length=cap:=by rw[Array.length_toList,hcs];omega
    have hn:=hS.BA (w':=w.setRow b (news++cur.toList.drop n).toArray) (bi':=.row e 1 n ys) hi hbk hsize oth ⟨news,⟨by rw[hnl];omega,.inr ⟨b,cap,_,hv,hb0,setRow_heap w b cur _ e _ hg,hnc,hcm,by
     simp only[List.size_toArray,List.length_append,List.length_drop,hnl,hcz];omega,by
     rw[Nat.mul_one,List.take_append_of_le_length (by omega),List.take_of_length_le (by omega)]⟩⟩,hR.goes g⟩
    exact⟨_,_,E,.inl hr,hn.1,hn.2,⟨rfl,rfl,rfl,hsize,fun j hj=>setRow_other w b j _ (by omega)⟩,.raw _⟩
theorem za{ty e n i:Nat}{x y:Operand}{D:List Bool}(ho:o.op= .call {callee:=.builtin .copy,args:= #[x,y],argTypes:= #[ty,ty]})(hu:P.underlying ty=some (.slice e))(hs:(P.info? e).map (·.size)=some 1)(hx:aA t x=some (.own i))(hi:σ[i]? =some (some (.row e 1 n (bb (List.replicate n false)))))(hy:aA t y=some (bq D))(hD:D.length=0∨D.length=n):
  cM P σ t o (num D.length) (σ.set i (some (.row e 1 n (bb (if D.length=0 then List.replicate n false else D))))):=by
 by_cases h0:D.length=0
 ·have hd:D=[]:=List.eq_nil_of_length_eq_zero h0
  subst hd
  rw[if_pos (show([]:List Bool).length=0 from rfl),BZ hi]
  exact zD ho hu hs hx hi hy
 ·rw[if_neg h0]
  have hn:D.length=n:=hD.resolve_left h0
  subst hn
  exact B7 ho hu hs hx hi hy (by simp[bb]) (by omega)
end
open Net Heap
def cS(T:ah):ah:= {T with over:=if T.over.length=0 then List.replicate T.nodes.toNat false else T.over}
def ef(T:ah)(D:List Bool):List Bool:=if D.length=0 then List.replicate (2*T.ae.length) false else D
theorem xW(n a:Nat):(List.replicate n false).getD a false=false:=by
 rw[List.getD_eq_getElem?_getD,List.getElem?_replicate]
 split<;>rfl
theorem CK(T:ah)(x:Nat):cL (cS T) x=cL T x:=by
 unfold cL cS
 by_cases h:T.over.length=0
 ·simp only[if_pos h]
  rw[xW,List.eq_nil_of_length_eq_zero h]
  rfl
 ·simp only[if_neg h]
theorem BH(T:ah)(D:List Bool)(a:Nat):bF (ef T D) a=bF D a:=by
 unfold bF ef
 by_cases h:D.length=0
 ·rw[if_pos h,xW,List.eq_nil_of_length_eq_zero h]
  rfl
 ·rw[if_neg h]
theorem xZ{T:ah}{D:List Bool}{d N:Nat}(hv:au T=true)(hf:bR T D=true)(hN:T.nodes=(N:Int))(hd:d<N):iF (cS T) (ef T D) N d:=by
 have hb:=dz hv
 have hf':D.length=0∨D.length=2*T.ae.length:=by simpa[bR]using hf
 refine⟨?_,hN,?_,?_,hd⟩
 ·unfold au at hv ⊢
  simp only[Bool.and_eq_true]at hv ⊢
  obtain⟨⟨⟨h1,h2⟩,h3⟩,h4⟩:=hv
  refine⟨⟨⟨h1,h2⟩,?_⟩,h4⟩
  simp only[cS]
  by_cases h:T.over.length=0
  ·simp[h];right;omega
  ·simp only[if_neg h];exact h3
 ·show(ef T D).length=2*T.ae.length
  unfold ef
  split
  ·simp
  ·rename_i h;exact hf'.resolve_left h
 ·unfold cS
  simp only
  split
  ·simp;omega
  ·rename_i h
   have:=hb.2.2.2.resolve_left h
   omega
theorem A7{T:ah}{D:List Bool}{d:Nat}(hv:au T=true)(hd:(d:Int)<T.nodes)(hv':au (cS T)=true):aO (cS T) (ef T D) d false=aO T D d false:=by
 have h:=fI (aM hv) D false hd
 have hw:∀a,Net.Way (cS T) (ef T D) d false (aO T D d false) a↔Net.Way T D d false (aO T D d false) a:=fun a=>by
  unfold Net.Way
  rw[BH,show cz (cS T) false a=cz T false a from rfl,CK]
 refine jn (aM hv') ⟨h.len,h.root,h.ge,fun a ha hw'=>h.closed a ha ((hw a).1 hw'),fun x hx h0=>(h.jh x hx h0).imp id fun⟨a,h1,h2,h3,h4⟩=>⟨a,h1,h2,(hw a).2 h3,h4⟩⟩
theorem JS:(Tryz.prog.info? 4).map (·.size)=some 1:=by kernel_rfl
set_option maxHeartbeats 4000000 in
theorem Ck(T:ah)(D:List Bool)(d N:Nat)(he:cX T D [(d:Int)]=0)(hN:T.nodes=(N:Int)):aW Tryz.prog 6 [aZ T,bq D,num d] [] (fun r σ'=>r= .tuple [.ptr 0 0,num 0]∧σ'=ev (cS T) (ef T D) d N (aO (cS T) (ef T D) d false) (num 0)):=by
 obtain⟨hv,hf,hnd⟩:=uk he
 have hdn:=bu.1 (hnd _ (List.mem_singleton.2 rfl))
 have hb:=dz hv
 have hfd:D.length=0∨D.length=2*T.ae.length:=by simpa[bR]using hf
 have hT:=xZ hv hf hN (d:=d) (by omega)
 rw[A7 hv hdn.2 hT.valid]
 have hdl:(aO T D d false).length=N:=by have:=(fI (aM hv) D false hdn.2).len;omega
 have hds:aW Tryz.prog 25 [aZ T,bq D,num d] [] (fun r σ'=>r= .tuple [.own 0,num 0]∧σ'=[some (.row 3 1 N (aL (aO T D d false)))]):=(Bk T D d).mono fun r σ' h=>by
  rcases h with⟨h,_⟩|⟨_,h1,h2⟩
  ·exact absurd he h
  ·rw[Int.toNat_natCast,hdl]at h2
   exact⟨h1,h2⟩
 have hcl:=pW T (by omega) (by omega) [some (.row 3 1 N (aL (aO T D d false)))]
 have hl2:(2*(T.ae.length:Int))=((2*T.ae.length:Nat):Int):=by omega
 refine bO Tryz.func6 I Tryz.ntmps6 I<|af (.a 3 I<|.k [1,2,3] I)<|aR<|ax 3 I<|b7 I I (aW.mono hds (fun _ σ' h=>?_))
 obtain⟨rfl,rfl⟩:=h
 refine ax 5 I<|aH [1,2,3,8,9] I ?_
 refine an<|af (.a 2 I<|.k [1,2,3,8,9,19] I)<|aj I (fun hc=>?_) (fun hc=>?_)
 ·exact absurd rfl (of_decide_eq_true hc)
 ·refine ak<|iJ (bm (ks:=[1,2,3,8]) I) ?_
  refine kV ([(1,bq D),(3,.bg (bI T) 0),(10,.ptr 6 0)]) ([some (.row 3 1 N (aL (aO T D d false))),some (.cells 25 [num T.nodes,.own 3,.own 4]),some (.cells 25 [num T.nodes,.own 3,.own 4]),some (.row 4 1 T.over.length (bb T.over)),some (.row 82 7 T.ae.length (ct T.ae)),some (.row 4 1 (2*T.ae.length) (dB [.raw (.bool false)] (2*T.ae.length))),some (.cells 78 [num T.nodes,.own 3,.own 4,.own 5,num d,.own 0,num 0])]) mixed ?_ ?_
  ·refine o8 [[(1,bq D),(2,num d),(3,.bg (bI T) 0),(8,.own 0),(10,.ptr 6 0),(21,aZ T),(22,.agg [num T.nodes,.own 3,.own 4]),(23,aZ T),(24,num (2*(T.ae.length:Int))),(25,.own 5),(26,num d),(27,.own 0),(28,.agg [num T.nodes,.own 3,.own 4,.own 5,num d,.own 0,num 0]),(29,.ptr 6 0)]] [[some (.row 3 1 N (aL (aO T D d false)))],[some (.row 3 1 N (aL (aO T D d false))),some (.cells 25 [num T.nodes,.own 3,.own 4]),some (.cells 25 [num T.nodes,.own 3,.own 4]),some (.row 4 1 T.over.length (bb T.over)),some (.row 82 7 T.ae.length (ct T.ae))],[some (.row 3 1 N (aL (aO T D d false))),some (.cells 25 [num T.nodes,.own 3,.own 4]),some (.cells 25 [num T.nodes,.own 3,.own 4]),some (.row 4 1 T.over.length (bb T.over)),some (.row 82 7 T.ae.length (ct T.ae)),some (.row 4 1 (2*T.ae.length) (dB [.raw (.bool false)] (2*T.ae.length)))],[some (.row 3 1 N (aL (aO T D d false))),some (.cells 25 [num T.nodes,.own 3,.own 4]),some (.cells 25 [num T.nodes,.own 3,.own 4]),some (.row 4 1 T.over.length (bb T.over)),some (.row 82 7 T.ae.length (ct T.ae)),some (.row 4 1 (2*T.ae.length) (dB [.raw (.bool false)] (2*T.ae.length))),some (.cells 78 [num T.nodes,.own 3,.own 4,.own 5,num d,.own 0,num 0])]] [1,2,3,8] I (by kernel_rfl) (fun M hi ho=>?_)
   have μ0:M 0 1023 0 [1,3,10] 3:=hi<|nk I (by kernel_rfl) (⟨rfl,bm (ks:=[1,3,10]) I⟩)
   have μ1:M 1 511 0 [1,3,29] 3:=hi<|aa [(9,1023)] I<|ag (ho μ0) I I ab
   have μ2:M 2 255 0 [1,3,28] 2:=hi<|aa [(8,511)] I<|bL I I (eV I I I) I (ho μ1) I I ab
   have μ3:M 3 127 0 [1,3,22,25,26,27] 2:=hi<|aa [(7,255)] I<|ag (ho μ2) I I ab
   have μ4:M 4 63 0 [1,3,8,22,25,26] 2:=hi<|aa [(6,127)] I<|ag (ho μ3) I I ab
   have μ5:M 4 95 0 [1,2,3,22,25,27] 2:=hi<|aa [(5,127)] I<|ag (ho μ3) I I ab
   have μ6:M 5 31 0 [1,2,3,8,22,25] 2:=hi<|aa [(5,63),(6,95)] I<|ag (ho μ4) I I<|ag (ho μ5) I I ab
   have μ7:M 4 111 0 [1,3,22,24,26,27] 1:=hi<|aa [(4,127)] I<|bL I I (da I (bG.rk.get I) I I hl2 hl2 ⟨by unfold maxLen;omega,by omega⟩) I (ho μ3) I I ab
   have μ8:M 5 47 0 [1,3,8,22,24,26] 1:=hi<|aa [(4,63),(6,111)] I<|bL I I (da I (bG.rk.get I) I I hl2 hl2 ⟨by unfold maxLen;omega,by omega⟩) I (ho μ4) I I<|ag (ho μ7) I I ab
   have μ9:M 5 79 0 [1,2,3,22,24,27] 1:=hi<|aa [(4,95),(5,111)] I<|bL I I (da I (bG.rk.get I) I I hl2 hl2 ⟨by unfold maxLen;omega,by omega⟩) I (ho μ5) I I<|ag (ho μ7) I I ab
   have μ10:M 6 15 0 [1,2,3,8,22,24] 1:=hi<|aa [(4,31),(5,47),(6,79)] I<|bL I I (da I (bG.rk.get I) I I hl2 hl2 ⟨by unfold maxLen;omega,by omega⟩) I (ho μ6) I I<|ag (ho μ8) I I<|ag (ho μ9) I I ab
   have μ11:M 5 103 0 [1,3,22,23,26,27] 1:=hi<|aa [(3,111)] I<|aQ I I (eW I (dY T (by omega))) I (ho μ7) I I ab
   have μ12:M 6 39 0 [1,3,8,22,23,26] 1:=hi<|aa [(3,47),(6,103)] I<|aQ I I (eW I (dY T (by omega))) I (ho μ8) I I<|ag (ho μ11) I I ab
   have μ13:M 6 71 0 [1,2,3,22,23,27] 1:=hi<|aa [(3,79),(5,103)] I<|aQ I I (eW I (dY T (by omega))) I (ho μ9) I I<|ag (ho μ11) I I ab
   have μ14:M 7 7 0 [1,2,3,8,22,23] 1:=hi<|aa [(3,15),(5,39),(6,71)] I<|aQ I I (eW I (dY T (by omega))) I (ho μ10) I I<|ag (ho μ12) I I<|ag (ho μ13) I I ab
   have μ15:M 6 99 0 [1,3,22,26,27] 1:=hi<|aa [(2,103)] I<|ag (ho μ11) I I ab
   have μ16:M 7 35 0 [1,3,8,22,26] 1:=hi<|aa [(2,39),(6,99)] I<|ag (ho μ12) I I<|ag (ho μ15) I I ab
   have μ17:M 7 67 0 [1,2,3,22,27] 1:=hi<|aa [(2,71),(5,99)] I<|ag (ho μ13) I I<|ag (ho μ15) I I ab
   have μ18:M 8 3 0 [1,2,3,8,22] 1:=hi<|aa [(2,7),(5,35),(6,67)] I<|ag (ho μ14) I I<|ag (ho μ16) I I<|ag (ho μ17) I I ab
   have μ19:M 6 101 0 [1,3,21,23,26,27] 0:=hi<|aa [(1,103)] I<|dO I I I I hcl (ho μ11) I I ab
   have μ20:M 7 37 0 [1,3,8,21,23,26] 0:=hi<|aa [(1,39),(6,101)] I<|dO I I I I hcl (ho μ12) I I<|ag (ho μ19) I I ab
   have μ21:M 7 69 0 [1,2,3,21,23,27] 0:=hi<|aa [(1,71),(5,101)] I<|dO I I I I hcl (ho μ13) I I<|ag (ho μ19) I I ab
   have μ22:M 8 5 0 [1,2,3,8,21,23] 0:=hi<|aa [(1,7),(5,37),(6,69)] I<|dO I I I I hcl (ho μ14) I I<|ag (ho μ20) I I<|ag (ho μ21) I I ab
   have μ23:M 7 97 0 [1,3,21,26,27] 0:=hi<|aa [(1,99),(2,101)] I<|dO I I I I hcl (ho μ15) I I<|ag (ho μ19) I I ab
   have μ24:M 8 33 0 [1,3,8,21,26] 0:=hi<|aa [(1,35),(2,37),(6,97)] I<|dO I I I I hcl (ho μ16) I I<|ag (ho μ20) I I<|ag (ho μ23) I I ab
   have μ25:M 8 65 0 [1,2,3,21,27] 0:=hi<|aa [(1,67),(2,69),(5,97)] I<|dO I I I I hcl (ho μ17) I I<|ag (ho μ21) I I<|ag (ho μ23) I I ab
   have μ26:M 9 1 0 [1,2,3,8,21] 0:=hi<|aa [(1,3),(2,5),(5,33),(6,65)] I<|dO I I I I hcl (ho μ18) I I<|ag (ho μ22) I I<|ag (ho μ24) I I<|ag (ho μ25) I I ab
   have μ27:M 7 100 0 [1,3,23,26,27] 0:=hi<|aa [(0,101)] I<|ag (ho μ19) I I ab
   have μ28:M 8 36 0 [1,3,8,23,26] 0:=hi<|aa [(0,37),(6,100)] I<|ag (ho μ20) I I<|ag (ho μ27) I I ab
   have μ29:M 8 68 0 [1,2,3,23,27] 0:=hi<|aa [(0,69),(5,100)] I<|ag (ho μ21) I I<|ag (ho μ27) I I ab
   have μ30:M 9 4 0 [1,2,3,8,23] 0:=hi<|aa [(0,5),(5,36),(6,68)] I<|ag (ho μ22) I I<|ag (ho μ28) I I<|ag (ho μ29) I I ab
   have μ31:M 8 96 0 [1,3,26,27] 0:=hi<|aa [(0,97),(2,100)] I<|ag (ho μ23) I I<|ag (ho μ27) I I ab
   have μ32:M 9 32 0 [1,3,8,26] 0:=hi<|aa [(0,33),(2,36),(6,96)] I<|ag (ho μ24) I I<|ag (ho μ28) I I<|ag (ho μ31) I I ab
   have μ33:M 9 64 0 [1,2,3,27] 0:=hi<|aa [(0,65),(2,68),(5,96)] I<|ag (ho μ25) I I<|ag (ho μ29) I I<|ag (ho μ31) I I ab
   have μ34:M 10 0 0 [1,2,3,8] 0:=hi<|aa [(0,1),(2,4),(5,32),(6,64)] I<|ag (ho μ26) I I<|ag (ho μ30) I I<|ag (ho μ32) I I<|ag (ho μ33) I I ab
   exact μ34
  refine cJ [6,3,4,5,0] (σ':=ev T (List.replicate (2*T.ae.length) false) d N (aO T D d false) (num 0)) (.c 1<|.c 3<|.c 10 .nil) (.kept rfl (.cells (ao.c<|ao.c<|ao.c<|ao.c<|ao.c<|ao.c<|ao.c ao.nil))<|.kept rfl (.row ao.pure)<|.kept rfl (.row ao.pure)<|.kept rfl (.fk (by simp) (jN _))<|.kept rfl (.row ao.pure) .nil) I I ?_
  refine aR<|ax 5 I<|cg (za I Tryz.underlying22 JS rfl (show _=some (some (cK.row 4 1 (2*T.ae.length) (bb (List.replicate (2*T.ae.length) false)))) by simp[ev]) I hfd) I<|aH [3,10] I ?_
  refine dF (σ':=ev T (ef T D) d N (aO T D d false) (num 0)) (by
   have e:(ef T D).length=2*T.ae.length:=by have:=hT.mask;exact this
   unfold ev
   rw[e]
   rfl) ?_
  refine an<|af (.a 7 I<|.k [3,10,42] I)<|aj I (fun hc=>?_) (fun hc=>?_)
  ·have h0:T.over.length=0:=by have:=of_decide_eq_true hc;omega
   have hfo:(cS T).over=List.replicate N false:=by unfold cS;rw[show T.nodes.toNat=N by omega];exact if_pos h0
   have hzo:dB (List.map PV.raw [Value.bool false]) N=bb (cS T).over:=by rw[hfo];exact jN N
   have hol:(cS T).over.length=N:=by rw[hfo];simp
   refine bx<|ax 3 I<|cg (da I (bG.rk.get I) I I hN hN ⟨by unfold maxLen;omega,by omega⟩) I<|ax 4 I<|aH [10] I ?_
   refine cJ [0,5,2,3,4] (σ':=ev (cS T) (ef T D) d N (aO T D d false) (num 0)) (.c 10 .nil) (.kept rfl (.cells (ao.c<|ao.c<|ao.c<|ao.c<|ao.c<|ao.c<|ao.c ao.nil))<|.kept rfl (.fk hol.symm hzo)<|.kept rfl (.row ao.pure)<|.kept rfl (.row ao.pure)<|.kept rfl (.row ao.pure) .nil) I I ?_
   exact af (.a 3 I<|.k [6,7] I)<|az<|⟨_,aE.of I,rfl,rfl⟩
  ·have h0:T.over.length≠0:=fun e=>by rw[e]at hc;cases hc
   have hfu:cS T=T:=by unfold cS;rw[if_neg h0]
   rw[hfu]
   exact ak<|af (.a 3 I<|.k [6,7] I)<|az<|⟨_,aE.of I,rfl,rfl⟩
theorem iw{T:ah}{D:List Bool}{N d:Nat}(hT:iF T D N d)(v tch:PV)[IsPure v][IsPure tch]:aW Tryz.prog 10 [.bg (fi T D d v tch) 0] [] (fun r σ'=>Nw σ' r (aZ T)):=by
 have hb:=dz hT.valid
 have hN:=hT.nodes
 have ho:=hT.over
 refine bO Tryz.func10 I Tryz.ntmps10 I<|aR<|ax 1 I<|aH [0,2] I ?_
 refine an<|af (.a 2 I<|.k [0,2,4] I)<|aj I (fun hc=>?_) (fun hc=>?_)
 ·cases hc
 ·refine ak<|aR<|ax 4 I<|b7 I I (aW.mono (pW T (by omega) (by omega) _) (fun _ σ' h=>?_))
  obtain⟨rfl,rfl⟩:=h
  refine ax 1 I<|aH [2] I ?_
  exact az<|⟨_,aE.of I,Nw.gM (vD.cons Nw.flat<|vD.cons (Nw.dA rfl vD.flat)<|vD.cons (Nw.dA rfl vD.flat) vD.nil)⟩
theorem tr{T:ah}{D:List Bool}{N d:Nat}(hT:iF T D N d)(v tch:PV)[IsPure v][IsPure tch]:aW Tryz.prog 11 [.bg (fi T D d v tch) 0] [] (fun r σ'=>Nw σ' r (bq D)):=by
 have hb:=dz hT.valid
 have hm:=hT.mask
 refine bO Tryz.func11 I Tryz.ntmps11 I<|af (.a 1 I<|.k [0] I)<|an<|af (.a 2 I<|.k [0,4] I)<|aj I (fun hc=>?_) (fun hc=>?_)
 ·cases hc
 ·refine ak<|aR<|ax 4 I<|b7 I I (aW.mono (qc D (by omega) _) (fun _ σ' h=>?_))
  obtain⟨rfl,rfl⟩:=h
  refine ax 1 I<|aH [2] I ?_
  exact az<|⟨_,aE.of I,Nw.dA rfl vD.flat⟩
theorem C3{T:ah}{D:List Bool}{d a h:Nat}{L:List Int}{dn:Int}(hh:aB T a=(h:Int))(hhL:h<L.length){p1 p2 p3:Bool}(h1:qL T D d a=p1)(h2:decide (0≤at' L (h:Int))=p2)(h3:decide (at' L (h:Int)+bS T a=dn)=p3):fV T D L dn d a=((p1&&p2)&&p3):=by
 have e:L.getD h 0=at' L (h:Int):=by simp[at',List.getD_eq_getElem?_getD,hhL]
 have e2:decide (at' L (h:Int)<0)= !p2 :=by rw[←h2,Bool.eq_iff_iff];simp
 unfold fV
 rw[hh,Int.toNat_natCast,e,h3,e2,←h1]
 unfold qL
 rw[hh,Int.toNat_natCast,decide_not]
 cases bF D a<;>cases cL T h<;>cases decide ((h:Int)=(d:Int))<;>cases p2<;>cases p3<;>rfl
theorem F9{T:ah}{D:List Bool}{N d:Nat}(hT:iF T D N d)(n:Nat)(hn:n<N):bz T D n d=if n=d∨at' (aO T D d false) (n:Int)<0 then [] else eB T D (aO T D d false) (at' (aO T D d false) (n:Int)) d (bW T n):=by
 have hl:=hT.len
 have e:(aO T D d false).getD n 0=at' (aO T D d false) (n:Int):=by simp[at',List.getD_eq_getElem?_getD,show n<(aO T D d false).length by omega]
 unfold bz
 rw[e]
set_option maxHeartbeats 2000000 in
theorem Bl{T:ah}{D:List Bool}{N d:Nat}(hT:iF T D N d)(tch:PV)[IsPure tch](n:Nat)(hn:n<N):aW Tryz.prog 15 [.bg (fi T D d (aw (aO T D d false)) tch) 0,num n] [] (fun r σ'=>Nw σ' r (aw (bz T D n d))):=by
 have hb:=dz hT.valid
 have hll:=bX hT.valid
 have hS:=hT.sound
 have hN:=hT.nodes
 have hm:=hT.mask
 have hl:=hT.len
 have hout:(bW T n).length≤2*T.ae.length:=eM T n _
 have hub:=hT.ub
 have hge:=hT.qf.ge
 rw[F9 hT n hn]
 obtain⟨out,ho⟩:∃l,aO T D d false=l:=⟨_,rfl⟩
 rw[ho]at hl hub hge ⊢
 obtain⟨dn,hdn⟩:∃z,at' out (n:Int)=z:=⟨_,rfl⟩
 rw[hdn]
 obtain⟨p1,hp1⟩:∃q,bH T (n:Int)=q:=⟨_,rfl⟩
 obtain⟨p2,hp2⟩:∃q,decide ((n:Int)=(d:Int))=q:=⟨_,rfl⟩
 obtain⟨p3,hp3⟩:∃q,decide (dn<0)=q:=⟨_,rfl⟩
 have hn1:p1=true:=by rw[←hp1];exact bu.2 (by omega)
 refine bO Tryz.func15 I Tryz.ntmps15 I<|af (.a 1 I<|.k [0,1] I)<|an<|bP 37 (.raw (.bool ((!p1 ||p2)||p3))) [0,1] I ?_ ?_
 ·refine .a 8 I<|.c rfl (hp1▸dy T n) I<|.a 3 I<|?_
  cases p1
  ·exact .a 17 I<|.k [37,0,1] I
  ·refine .a 5 I<|.v (cD I (hp2)) I<|.a 2 I<|?_
   cases p2
   ·exact .a 5 I<|.v (aJ (n) I) I<|.v (aK I ((gH out n (by omega)).trans (by rw[hdn]))) I<|.v (cD I (hp3)) I<|.a 1 I<|.k [37,0,1] I
   ·exact .a 9 I<|.k [37,0,1] I
 refine aj I (fun hc=>?_) (fun hc=>?_)
 ·have hz:n=d∨dn<0:=by
   rw[hn1]at hc
   rcases Bool.or_eq_true_iff.1 hc with h|h
   ·have h2:p2=true:=by simpa using h
    rw[h2]at hp2;exact .inl (by have:=of_decide_eq_true hp2;omega)
   ·rw[h]at hp3;exact .inr (of_decide_eq_true hp3)
  exact af (.a 1 I<|.k [4] I)<|az<|⟨_,aE.of I,by rw[if_pos hz];exact Nw.cc⟩
 ·have hz:¬(n=d∨dn<0):=by
   obtain⟨h,h3⟩:=Bool.or_eq_false_iff.1 hc
   obtain⟨_,h2⟩:=Bool.or_eq_false_iff.1 h
   rw[h2]at hp2
   rw[h3]at hp3
   have:=of_decide_eq_false hp2
   have:=of_decide_eq_false hp3
   omega
  clear hc
  refine ak<|af (.a 1 I<|.k [0,1,5] I)<|fM 5 3 1 I ?_
  refine an<|af (.a 5 I<|.c rfl (qw T (by omega) n) I<|.a 2 I<|.k [0,1,5,43,44,45] I)<|ay<|eY [0,1,5,43,44,45] I<|br (fun r s=>∃i,i≤(bW T n).length∧r=(bW T n).length - i∧s=⟨[(0,.bg (fi T D d (aw out) tch) 0),(1,num n),(5,.own 0),(43,aw (bW T n)),(44,num (bW T n).length),(45,num i)],[some (.row 3 1 (eB T D out dn d ((bW T n).take i)).length (aL (eB T D out dn d ((bW T n).take i))))]⟩) (bW T n).length ⟨0,by omega,by omega,rfl⟩ ?_
  rintro r s ⟨i,hi,rfl,rfl⟩
  refine af (.a 1 I<|.k [0,1,5,43,44,45,46] I)<|an<|aj I (fun hc=>?_) (fun hc=>?_)
  ·have hlt:i<(bW T n).length:=by have:=of_decide_eq_true hc;omega
   obtain⟨a0,a1⟩:=ko (cf (d:=0) hlt)
   obtain⟨a,ha⟩:=Int.eq_ofNat_of_zero_le a0
   have ham:a<2*T.ae.length:=by omega
   obtain⟨hd0,hhN⟩:=hS.head a ham
   obtain⟨m,hm2⟩:=Int.eq_ofNat_of_zero_le hd0
   have hmN:m<N:=by omega
   have hcb:=hS.cost a ham
   have hu1:=hub m (by omega)
   have hu2:=hge m (by omega)
   obtain⟨p4,hp4⟩:∃q,qL T D d a=q:=⟨_,rfl⟩
   obtain⟨p5,hp5⟩:∃q,decide (0≤at' out (m:Int))=q:=⟨_,rfl⟩
   obtain⟨p6,hp6⟩:∃q,decide (at' out (m:Int)+bS T a=dn)=q:=⟨_,rfl⟩
   have hpass:=C3 hm2 (by omega) hp4 hp5 hp6
   have hstep:eB T D out dn d ((bW T n).take (i+1))=eB T D out dn d ((bW T n).take i)++(if fV T D out dn d a then [(a:Int)] else []):=by
    unfold eB
    rw[List.take_add_one,List.filter_append,show(bW T n)[i]? =some (a:Int) by rw[←ha,List.getD_eq_getElem?_getD];simp[hlt]]
    congr 1
    simp only[Option.toList_some,List.filter_cons,List.filter_nil,Int.toNat_natCast]
   have hlen:(eB T D out dn d ((bW T n).take i)).length≤100000:=Nat.le_trans (List.length_filter_le _ _) (by rw[List.length_take];omega)
   have huc:=nD hT (aw out) tch a ham
   rw[hp4]at huc
   refine ak<|an<|ay<|af (.v (aJ (i) I) I<|.v (aK I ((aC _ i hlt).trans (by rw[ha]))) I<|.a 1 I<|.k [0,1,5,7,43,44,45] I)<|af (.a 5 I<|.c rfl (hm2▸ed T a ham (by omega)) I<|.a 1 I<|.k [0,1,5,7,8,43,44,45] I)<|nG mixed (by kernel_rfl) 91 (.raw (.bool ((p4&&p5)&&p6))) [0,1,5,7,43,44,45] I ?_ ?_
   ·refine .a 2 I<|.v [55,56] (eW I (huc)) I I<|.a 1 I<|?_
    cases p4
    ·exact .a 33 I<|.k [91,0,1,5,7,43,44,45] I
    ·refine .a 5 I<|.v [62,63] (aJ (m) I) I I<|.v [64] (aK I (gH out m (by omega))) I I<|.v [65] (cD I (hp5)) I I<|.a 2 I<|?_
     cases p5
     ·exact .a 23 I<|.k [91,0,1,5,7,43,44,45] I
     ·exact .a 5 I<|.v [72,73] (aJ (m) I) I I<|.v [74] (aK I (gH out m (by omega))) I I<|.a 5 I<|.v [79,80] (eW I (gi T a ham)) I I<|.v [75,81] (aU I (hn:=by unfold In64;omega)) I I<|.a 5 I<|.v [86,87] (aJ (n) I) I I<|.v [88] (aK I ((gH out n (by omega)).trans (by rw[hdn]))) I I<|.v [82,89] (cD I (hp6)) I I<|.a 1 I<|.k [91,0,1,5,7,43,44,45] I
   refine aj I (fun hc=>?_) (fun hc=>?_)
   ·have hst:eB T D out dn d ((bW T n).take (i+1))=eB T D out dn d ((bW T n).take i)++[(a:Int)]:=by rw[hstep,hpass,hc];rfl
    refine bx<|ax 3 I<|cg (bC I (bG.rk.get I) I I I I (by unfold maxLen;omega)) I<|ax 1 I ?_
    refine eQ [1] (.c 0<|.c 1<|.c 5<|.c 43<|.c 44<|.c 45<|.nil) (.kept rfl (.fk rfl (dJ _ _))<|.nil) I I (bf ?_)
    refine aF (.v (aU I) I<|.a 1 I<|.k [0,1,5,43,44,45] I) ?_
    refine⟨(bW T n).length - (i+1),by omega,i+1,by omega,rfl,?_⟩
    rw[hst]
    first
     |rfl
     |(simp only[List.length_append,List.length_singleton];rfl)
   ·have hst:eB T D out dn d ((bW T n).take (i+1))=eB T D out dn d ((bW T n).take i):=by rw[hstep,hpass,hc];simp
    refine ak<|aF (.v (aU I) I<|.a 1 I<|.k [0,1,5,43,44,45] I) ?_
    refine⟨(bW T n).length - (i+1),by omega,i+1,by omega,rfl,?_⟩
    rw[hst]
    first
     |rfl
     |(simp only[List.length_append,List.length_singleton];rfl)
  ·have hie:i=(bW T n).length:=by have:=of_decide_eq_false hc;omega
   exact bp<|af (.a 2 I<|.k [4] I)<|az<|⟨_,aE.of I,by rw[if_neg hz,show eB T D out dn d (bW T n)=eB T D out dn d ((bW T n).take i) by rw[hie,List.take_length]];exact Nw.dA rfl vD.flat⟩
def jU(b:Nat)(T:ah)(D:List Bool)(d N:Nat)(out:List Int)(tch:PV):bN:=[some (.cells 78 [num T.nodes,.own (b+1),.own (b+2),.own (b+3),num d,.own (b+4),tch]),some (.row 4 1 T.over.length (bb T.over)),some (.row 82 7 T.ae.length (ct T.ae)),some (.row 4 1 D.length (bb D)),some (.row 3 1 N (aL out))]
def xX(b:Nat):List Nat:=[b,b+1,b+2,b+3,b+4]
section
variable {A C:bN} {b:Nat} {T T':ah} {D D':List Bool} {d N:Nat} {out out':List Int} {tch tch':PV}
theorem gr(h:A.length=b)(k:Nat)(hk:k<5):(A++(jU b T D d N out tch++C))[b+k]? =(jU b T D d N out tch)[k]? :=by
 rw[List.getElem?_append_right (by omega),show b+k - A.length=k by omega,List.getElem?_append_left (by simp[jU];omega)]
theorem kO:(A++(jU b T D d N out tch++C)).length=A.length+5+C.length:=by simp[jU];omega
theorem GQ(h:A.length=b)(tc:Int):EB (A++(jU b T D d N out (num tc)++C)) (xX b) (un (xX b) (ev T D d N out (num tc))) (ev T D d N out (num tc)) (xX b):=
 .kept (gr h 0 (by omega)) (.cells (fm.cons .pure<|fm.cons (Vw.own rfl)<|fm.cons (Vw.own rfl)<|fm.cons (Vw.own rfl)<|fm.cons .pure<|fm.cons (Vw.own rfl)<|fm.cons .pure fm.nil))<|.kept (gr h 1 (by omega)) (.row fm.pure)<|.kept (gr h 2 (by omega)) (.row fm.pure)<|.kept (gr h 3 (by omega)) (.row fm.pure)<|.kept (gr h 4 (by omega)) (.row fm.pure) .nil
theorem F4(h:A.length=b)(tc tc':Int):KP (A++(jU b T D d N out (num tc)++C)) (xX b) (ev T D d N out (num tc)) (ev T' D' d N out' (num tc')) (A++(jU b T' D' d N out' (num tc')++C)):=by
 refine⟨by rw[kO,kO];simp[ev,xX],fun i b2 hb2=>?_⟩
 have hu:∀i,i<b∨b+5≤i→un (xX b) (ev T D d N out (num tc)) i=true:=fun i hi=>by
  have e:∀j,b≤j→j<b+5→Nat.beq j i=false:=fun j h1 h2=>by
   rw[Bool.eq_false_iff];intro h;have:=Nat.eq_of_beq_eq_true h;omega
  simp[xX,ev,un,e b (by omega) (by omega),e (b+1) (by omega) (by omega),e (b+2) (by omega) (by omega),e (b+3) (by omega) (by omega),e (b+4) (by omega) (by omega)]
 by_cases h1:i<b
 ·left
  refine⟨by rw[kO];omega,hu i (.inl h1),?_⟩
  rw[List.getElem?_append_left (by omega)]at hb2 ⊢
  exact hb2
 ·by_cases h2:b+5≤i
  ·left
   have hl:=(List.getElem?_eq_some_iff.1 hb2).1
   rw[kO]at hl
   refine⟨by rw[kO];exact hl,hu i (.inr h2),?_⟩
   rw[List.getElem?_append_right (by omega),List.getElem?_append_right (by simp[jU];omega)]at hb2 ⊢
   exact hb2
  ·right
   obtain⟨k,rfl⟩:∃k,i=b+k:=⟨i - b,by omega⟩
   have hk:k<5:=by omega
   rw[gr h k hk]at hb2
   have hbk:∀j,j<5→bk (xX b) (A++(jU b T D d N out (num tc)++C)).length j=b+j:=fun j hj=>by
    unfold bk
    rw[if_pos (by simpa[xX]using hj)]
    match j,hj with
    |0,_=>rfl
    |1,_=>rfl
    |2,_=>rfl
    |3,_=>rfl
    |4,_=>rfl
   have hlt:b+k<(A++(jU b T D d N out (num tc)++C)).length:=by rw[kO];omega
   match k,hb2,hlt with
   |0,hb2,hlt=>cases hb2;exact⟨0,_,rfl,.cells (iO.cons .flat<|iO.cons (Mv.own (hbk 1 (by omega)))<|iO.cons (Mv.own (hbk 2 (by omega)))<|iO.cons (Mv.own (hbk 3 (by omega)))<|iO.cons .flat<|iO.cons (Mv.own (hbk 4 (by omega)))<|iO.cons .flat iO.nil),.inl ⟨by simp[xX],hlt,rfl⟩⟩
   |1,hb2,hlt=>cases hb2;exact⟨1,_,rfl,.row iO.flat,.inl ⟨by simp[xX],hlt,rfl⟩⟩
   |2,hb2,hlt=>cases hb2;exact⟨2,_,rfl,.row iO.flat,.inl ⟨by simp[xX],hlt,rfl⟩⟩
   |3,hb2,hlt=>cases hb2;exact⟨3,_,rfl,.row iO.flat,.inl ⟨by simp[xX],hlt,rfl⟩⟩
   |4,hb2,hlt=>cases hb2;exact⟨4,_,rfl,.row iO.flat,.inl ⟨by simp[xX],hlt,rfl⟩⟩
theorem o4{f:FuncId}{qs:List PV}[aI qs]{e tc:Int}(hA:A.length=b)(h:aW Tryz.prog f (.ptr 0 0::qs) (ev T D d N out (num tc)) (fun r σ'=>∃tc',r=num e∧σ'=ev T' D' d N out' (num tc'))):
  aW Tryz.prog f (.ptr b 0::qs) (A++(jU b T D d N out (num tc)++C)) (fun r σ'=>∃tc',r=num e∧σ'=A++(jU b T' D' d N out' (num tc')++C)):=by
 refine aW.view (xX b) (by simp[xX,fT]) (fm.cons (Vw.ptr rfl) fm.pure) (GQ hA tc) (by rw[kO];simp[xX];omega) (aW.mono h ?_)
 rintro r σ1 ⟨tc',rfl,rfl⟩
 exact⟨_,_,.flat,F4 hA tc tc',tc',rfl,rfl⟩
end
end
section
open Go.RowKit cj Mem Net eX
def JC(k:Nat):List jt:=(List.range k).map fun(i:Nat)=>⟨(i:Int),(((i+1) % 4:Nat):Int),1,1,3,1,0⟩
def uS:ah:=⟨4,[],JC 4⟩
theorem FN(k:Nat):JC (k+1)=JC k++[⟨(k:Int),(((k+1) % 4:Nat):Int),1,1,3,1,0⟩]:=by simp[JC,List.range_succ]
theorem oq:au uS=true:=by kernel_rfl
theorem uX:GF.nI uS []=true:=by kernel_rfl
theorem HD:cA uS 1 0=EL:=by kernel_rfl
def KR:eN:=⟨0,[⟨[],false,[]⟩,⟨[0],false,[]⟩,⟨[0,7],false,[]⟩,⟨[7],false,[]⟩],[]⟩
theorem CO:jz uS [] 0=KR:=by
 unfold jz
 rw[show cX uS [] [0]=0 by kernel_rfl,if_pos rfl]
 exact(GF.Ju oq uX 0).trans (by kernel_rfl)
theorem Jm:Bi uS EL 0=Ir:=(GF.Jd oq uX (by kernel_rfl)).trans (by kernel_rfl)
theorem Js:lq uS [] 0 [0,2]=[⟨1,1⟩,⟨1,2⟩]:=by
 show jw uS [] 0 [0,2] 2 0=_
 rw[GF.I6 oq uX]
 kernel_rfl
theorem xd:Can Tryz.prog 18 [] (· =aZ uS):=by
 refine aT Tryz.func18 I Tryz.ntmps18 I<|aR<|ax 1 I<|aH [0] I ?_
 refine aR<|ax 3 I<|aH [0,1] I ?_
 refine cB 1 2 82 7 I I ?_
 refine an<|af (.a 1 I<|.k [0,1,2] I)<|ay<|eY [0,1,2] I<|br (fun r s=>∃k,k≤4∧r=4 - k∧s=⟨[(0,.ptr 0 0),(1,.ptr 1 0),(2,num k)],[some (.cells 25 [num 0,.raw (.slice none 0 0),.raw (.slice none 0 0)]),some (.cells 25 [num 4,.raw (.slice none 0 0),.own 2]),some (.row 82 7 k (ct (JC k)))]⟩) 4 ⟨0,by omega,by omega,rfl⟩ ?_
 rintro r s ⟨k,hk,rfl,rfl⟩
 refine an<|af (.a 2 I<|.k [0,1,2,5] I)<|aj I (fun hc=>?_) (fun hc=>?_)
 ·have hlt:k<4:=by have:=of_decide_eq_true hc;omega
  refine ak<|an<|ay<|bx<|ax 4 I<|bw (aU I) I<|bw (ni I I I (by decide) ((show((k:Int)+1).tmod 4=(((k+1) % 4:Nat):Int) by rw[Int.tmod_eq_emod_of_nonneg (by omega)];omega))) I<|bw (EM I (show Tryz.prog.built 80 [(0,.int .i64 1),(1,.int .i64 1)]=some #[.int .i64 1,.int .i64 1] by kernel_rfl)) I<|ax 2 I<|cg (bC I (bG.rk.get I) I I I I (by unfold maxLen;omega)) I<|ax 2 I ?_
  refine eQ [0,1,3] (.c 0<|.c 1<|.c 2<|.nil) (.kept rfl (.cells (ao.c<|ao.c<|ao.c<|ao.nil))<|.kept rfl (.cells (ao.c<|ao.c<|ao.c<|ao.nil))<|.kept rfl (.fk rfl (show _=ct (JC (k+1)) by rw[FN];exact yK _ ⟨(k:Int),(((k+1) % 4:Nat):Int),1,1,3,1,0⟩))<|.nil) I I (bf ?_)
  refine aF (.a 1 I<|.v (aU I) I<|.a 1 I<|.k [0,1,2] I) ?_
  exact⟨4 - (k+1),by omega,k+1,by omega,rfl,rfl⟩
 ·have hke:k=4:=by have:=of_decide_eq_false hc;omega
  subst hke
  refine bp<|aR<|ax 2 I<|aH [0] I ?_
  exact az<|⟨_,_,aE.of I,aD.gM (ai.cons aD.pure<|ai.cons aD.cc<|ai.cons (aD.dA rfl ai.pure) ai.nil),rfl⟩
theorem Bx(T:ah)(L:List eN)(n:Int)(hv:au T=true)(hL:(L.length:Int)≠T.nodes):Can Tryz.prog 65 [aZ T,gN L,num n] (· =num 1):=by
 obtain⟨q2,hq2⟩:∃q,decide ((L.length:Int)≠T.nodes)=q:=⟨_,rfl⟩
 have hq2t:q2=true:=by rw[←hq2];exact decide_eq_true hL
 have hva:=eo T
 rw[hv]at hva
 refine aT Tryz.func65 I Tryz.ntmps65 I<|af (.a 2 I<|.k [1,2,3] I)<|an<|bP 18 (.raw (.bool (q2))) [1,2,3] I ?_ ?_
 ·exact .a 1 I<|.c rfl (hva) I<|.a 5 I<|.v (aK I (rfl)) I<|.v (cD I (hq2)) I<|.a 1 I<|.k [18,1,2,3] I
 refine aj I (fun hc=>?_) (fun hc=>?_)
 ·exact af (.a 1 I<|.k [6] I)<|az<|⟨_,_,aE.of I,aD.pure,rfl⟩
 ·exact absurd hc (by rw[hq2t];simp)
theorem zw(T:ah)(L:List eN)(p:gg)(n:Int)(hv:au T=true)(hL:(L.length:Int)≠T.nodes):Can Tryz.prog 40 [aZ T,gN L,fc p,num n] (· = .tuple [.raw (.pointer none),.slice 0 [],num 1]):=by
 have hck:=Bx T L n hv hL
 refine aT Tryz.func40 I Tryz.ntmps40 I<|aR<|ax 6 I<|aH [3,4,5,6,9] I ?_
 refine an<|af (.a 3 I<|.c rfl (hck) I<|.a 1 I<|.k [3,4,5,6,9,11] I)<|af (.a 2 I<|.k [3,4,5,6,9,11,20] I)<|aj I (fun hc=>?_) (fun hc=>?_)
 ·refine aR<|ax 4 I<|aH [8,9,10] I ?_
  exact az<|⟨_,_,aE.of I,aD.bY (ai.cons aD.pure<|ai.cons aD.cc<|ai.cons aD.pure ai.nil),rfl⟩
 ·cases hc
theorem GR(T:ah)(L:List eN)(p:gg)(n:Int)(hv:au T=true)(hL:(L.length:Int)≠T.nodes):Can Tryz.prog 22 [aZ T,gN L,fc p,num n] (· = .tuple [flag false,num 1]):=by
 have hs:=zw T L p n hv hL
 refine aT Tryz.func22 I Tryz.ntmps22 I<|af (.a 4 I<|.k [1,3,4,6] I)<|af (.v (ju I (rfl) I) I<|.a 3 I<|.c rfl (hs) I<|.a 7 I<|.k [11,12] I)<|an<|af (.a 2 I<|.k [11,12,25] I)<|aj I (fun hc=>?_) (fun hc=>?_)
 ·exact af (.a 3 I<|.k [8,9] I)<|az<|⟨_,_,aE.of I,aD.pure,rfl⟩
 ·cases hc
set_option maxHeartbeats 2000000 in
theorem uH:Can Tryz.prog 4 [] (· =flag true):=by
 have hR:=qY uS [] 0
 rw[CO,show cX uS [] [0]=0 by kernel_rfl]at hR
 have hE:=uo uS [] [0,2] 0 (by decide) (by decide) (by decide)
 rw[Js,show ft uS [] 0 [0,2]=0 by kernel_rfl]at hE
 have hE:Can Tryz.prog 20 [aZ uS,bq [],aw [0,2],num 0] (· = .tuple [cN [⟨1,1⟩,⟨1,2⟩],num 0]):=hE
 have hT:=CZ uS 1 0 0 (by decide)
 rw[show(if jG uS 1 0=0 then(if bH uS 0 then(0:Int) else 2) else 1)=0 by kernel_rfl,HD,show((0:Int).toNat)=0 from rfl,Jm]at hT
 have hT:Can Tryz.prog 21 [aZ uS,dX 1 0,num 0] (· = .tuple [qk Ir,num 0]):=hT
 have hW:=GR uS [KR] ⟨0,0,2,0,[],0⟩ 0 oq (by decide)
 refine aT Tryz.func4 I Tryz.ntmps4 I<|af (.a 1 I<|.k [] I)<|aR<|fC I (xd) I<|ax 2 I<|aH [1] I ?_
 refine aR<|ax 1 I<|bw (Bg I (ai.cons aD.pure<|ai.cons aD.cc<|ai.cons aD.pure ai.nil) (hR)) I<|ax 6 I<|aH [1,2,3] I ?_
 refine af (.a 2 I<|.v (Bg I (ai.cons aD.pure<|ai.cons aD.cc<|ai.cons (aD.pure (p:=aw [0,2]))<|ai.cons aD.pure ai.nil) (hE)) I<|.a 5 I<|.k [1,2,3,4,5] I)<|aR<|ax 2 I<|fC I (hT) I<|ax 6 I<|aH [1,2,3,4,5,6,7] I ?_
 refine an<|bP 63 (.raw (.bool (false))) [1,2,6] I ?_ ?_
 ·exact .a 25 I<|.v (aJ (6) I (by omega) (by decide)) I<|.a 1 I<|.v (aK I ((show _=some (aw [0,7]) from rfl))) I<|.a 8 I<|.k [63,1,2,6] I
 refine aj I (fun hc=>?_) (fun hc=>?_)
 ·cases hc
 ·refine ak<|af (.a 4 I<|.v (Bg I (ai.cons aD.pure<|ai.cons (aD.pure (p:=gN [KR]))<|ai.cons (aD.gM (ai.cons aD.pure<|ai.cons aD.pure<|ai.cons aD.pure<|ai.cons aD.pure<|ai.cons aD.cc<|ai.cons aD.pure ai.nil))<|ai.cons aD.pure ai.nil) (hW)) I<|.a 5 I<|.k [6,8,9] I)<|bP 0 (.raw (.bool (true))) [] I ?_ ?_
  ·exact .a 9 I<|.v (aJ (3) I (by omega) (by decide)) I<|.a 1 I<|.v (aK I ((show _=some (flag true) from rfl))) I<|.a 4 I<|.v (aJ (3) I (by omega) (by decide)) I<|.a 1 I<|.v (aK I ((show _=some (aw [7]) from rfl))) I<|.a 6 I<|.v (aJ (3) I (by omega) (by decide)) I<|.a 1 I<|.v (aK I ((show _=some (aw [7]) from rfl))) I<|.v (aJ (0) I (by omega) (by decide)) I<|.v (aK I ((show _=some (num 7) from rfl))) I<|.a 3 I<|.k [0] I
  exact az<|⟨_,_,aE.of I,aD.pure,rfl⟩
section
variable {T:ah} {k x:Int} {l:List Int}
end
def vi(T:ah):Bool:=(au T&&decide (T.nodes≤7))&&decide ((T.ae.length:Int)≤10)
theorem yB(T:ah):Can Tryz.prog 23 [aZ T,num 7,num 10] (· =flag (vi T)):=by
 obtain⟨q1,h1⟩:∃q,au T=q:=⟨_,rfl⟩
 obtain⟨q2,h2⟩:∃q,decide (T.nodes≤7)=q:=⟨_,rfl⟩
 obtain⟨q3,h3⟩:∃q,decide ((T.ae.length:Int)≤10)=q:=⟨_,rfl⟩
 have he:vi T=((q1&&q2)&&q3):=by unfold vi;rw[h1,h2,h3]
 have hv:=i7 T
 rw[h1]at hv
 rw[he]
 refine aT Tryz.func23 I Tryz.ntmps23 I<|af (.a 2 I<|.k [1,2,3] I)<|bP 6 (.raw (.bool ((q1&&q2)&&q3))) [] I ?_ ?_
 ·refine .v (ju I (rfl) I) I<|.c rfl (hv) I<|.a 1 I<|?_
  cases q1
  ·exact .a 13 I<|.k [6] I
  ·refine .a 3 I<|.v (cD I (h2)) I<|.a 2 I<|?_
   cases q2
   ·exact .a 7 I<|.k [6] I
   ·exact .a 4 I<|.v (cD I (h3)) I<|.a 2 I<|.k [6] I
 exact az<|⟨_,_,aE.of I,aD.pure,rfl⟩
theorem yx(T:ah):Can Tryz.prog 5 [aZ T] (· =flag (vi T)):=by
 obtain⟨q1,h1⟩:∃q,vi T=q:=⟨_,rfl⟩
 obtain⟨q2,h2⟩:∃q,au T=q:=⟨_,rfl⟩
 have he:vi T=(q1&&q2):=by
  rw[←h1,←h2]
  unfold vi
  cases au T<;>simp
 have hs:=yB T
 have hv:=i7 T
 rw[h1]at hs
 rw[h2]at hv
 rw[he]
 refine aT Tryz.func5 I Tryz.ntmps5 I<|af (.a 2 I<|.k [1] I)<|bP 2 (.raw (.bool (q1&&q2))) [] I ?_ ?_
 ·refine .v (ju I (rfl) I) I<|.c rfl (hs) I<|.a 1 I<|?_
  cases q1
  ·exact .a 4 I<|.k [2] I
  ·exact .v (ju I (rfl) I) I<|.c rfl (hv) I<|.a 2 I<|.k [2] I
 exact az<|⟨_,_,aE.of I,aD.pure,rfl⟩
open Heap
structure su where
 k:Nat
 w:Nat
 n:Nat
def vd(c:su):List PV:=[G8 c.k,G8 c.w,G8 c.n]
def DG(l:List su):List PV:=l.flatMap vd
def rK(l:List su):PV:=.slice l.length (DG l)
instance (c:su):cZ (vd c):=by unfold vd G8;infer_instance
theorem Ej(l:List su)(i:Nat)(e:su)(h:l[i]? =some e):((DG l).drop (i*3)).take 3=vd e:=iS vd 3 (fun _=>rfl) l i e h
def mR(A N:Nat)(s:ah×List Bool)(c:su):ah×List Bool:=
 if c.k % 3=0∧0<A then(iA s.1 ((c.w % A:Nat):Int) ((1+c.n % 6:Nat):Int),s.2)
 else if c.k % 3=1∧0<A then(s.1,kb s.1 s.2 ((c.w % A:Nat):Int) (decide (c.n % 2=1)))
 else if c.k % 3=2 then(jm s.1 ((c.w % N:Nat):Int) (decide (c.n % 2=1)),s.2) else s
def pR(A N:Nat)(s:ah×List Bool)(l:List su):ah×List Bool:=l.foldl (mR A N) s
theorem zA(A N:Nat)(s:ah×List Bool)(l:List su)(k:Nat)(c:su)(h:l[k]? =some c):pR A N s (l.take (k+1))=mR A N (pR A N s (l.take k)) c:=by
 unfold pR
 rw[List.take_add_one,h]
 simp
theorem pZ(T:ah)(a c:Int):(iA T a c).ae.length=T.ae.length:=by unfold iA;split<;>simp[dt]
theorem pI(T:ah)(n:Int)(b:Bool):(jm T n b).ae.length=T.ae.length:=by unfold jm;split<;>simp[cq]
section
variable {N c:Nat} {TF:ah} {DF:List Bool} {tcs:Nat→Int}
def fS(N c j:Nat):List PV:=(List.range N).map fun i=>if i<j then .ptr (1+i*(5+c)) 0 else .raw (.pointer none)
noncomputable def jx(TF:ah)(DF:List Bool)(N c:Nat)(tcs:Nat→Int):Nat→bN
 |0=>[]
 |j+1=>jx TF DF N c tcs j++(jU (1+j*(5+c)) TF DF j N (aO TF DF j false) (num (tcs j))++List.replicate c none)
abbrev pF(N c j:Nat):Option cK:=some (.row 31 1 N (fS N c j))
theorem kW(N c j:Nat):(fS N c j).length=N:=by simp[fS]
theorem rq(N c j i:Nat)(h:i<j)(hN:i<N):(fS N c j)[i]? =some (.ptr (1+i*(5+c)) 0):=by simp[fS,hN,h]
theorem yL(N c j:Nat)(hj:j<N):(fS N c j).set j (.ptr (1+j*(5+c)) 0)=fS N c (j+1):=by
 refine List.ext_getElem? fun i=>?_
 rw[List.getElem?_set]
 by_cases h:j=i
 ·subst h
  simp[fS,hj]
 ·rw[if_neg h]
  by_cases hi:i<N
  ·simp only[fS,List.getElem?_map,List.getElem?_range hi,Option.map_some]
   by_cases h2:i<j
   ·rw[if_pos h2,if_pos (by omega)]
   ·rw[if_neg h2,if_neg (by omega)]
  ·simp[fS,hi]
theorem xP(N c:Nat):dB [.raw (.pointer none)] N=fS N c 0:=by
 have h:∀n,dB [.raw (.pointer none)] n=List.replicate n (PV.raw (.pointer none)):=fun n=>by
  induction n with
  |zero=>rfl
  |succ n ih=>simp only[dB,ih,List.replicate_succ];rfl
 rw[h]
 unfold fS
 refine List.ext_getElem? fun i=>?_
 by_cases hi:i<N
 ·simp[hi]
 ·simp[hi]
theorem sh:∀j,(jx TF DF N c tcs j).length=j*(5+c)
 |0=>by simp[jx]
 |j+1=>by rw[jx,List.length_append,sh j,Nat.succ_mul];simp[jU];omega
theorem tC{tcs':Nat→Int}:∀ {j:Nat},(∀i,i<j→tcs i=tcs' i)→jx TF DF N c tcs j=jx TF DF N c tcs' j
 |0,_=>rfl
 |j+1,h=>by rw[jx,jx,tC (fun i hi=>h i (by omega)),h j (by omega)]
theorem AY:∀ {j i:Nat},i<j→∃A C,A.length=1+i*(5+c)∧pF N c j::jx TF DF N c tcs j=A++(jU (1+i*(5+c)) TF DF i N (aO TF DF i false) (num (tcs i))++C)
 |0,i,h=>by omega
 |j+1,i,h=>by
  rcases Nat.lt_succ_iff_lt_or_eq.1 h with h|rfl
  ·obtain⟨A,C,h1,h2⟩:=AY (j:=j) h
   obtain⟨x,A',rfl⟩:∃x A',A=x::A':=by
    cases A with
    |nil=>simp at h1;omega
    |cons x A'=>exact⟨x,A',rfl⟩
   have h3:=(List.cons.inj h2).2
   refine⟨pF N c (j+1)::A',C++(jU (1+j*(5+c)) TF DF j N (aO TF DF j false) (num (tcs j))++List.replicate c none),h1,?_⟩
   rw[jx,h3]
   simp
  ·exact⟨pF N c (i+1)::jx TF DF N c tcs i,List.replicate c none,by rw[List.length_cons,sh];omega,rfl⟩
theorem EI{A C:bN}{b d:Nat}{out:List Int}{tch:PV}[IsPure tch](h:A.length=b)(hout:out.length=N):aD (A++(jU b TF DF d N out tch++C)) (.ptr b 0) (.bg (fi TF DF d (aw out) tch) 0):=by
 subst hout
 exact aD.gC (blk:=.cells 78 [num TF.nodes,.own (b+1),.own (b+2),.own (b+3),num d,.own (b+4),tch]) (gr h 0 (by omega)) (ai.cons aD.pure<|ai.cons (aD.dA (gr h 1 (by omega)) ai.pure)<|ai.cons (aD.dA (gr h 2 (by omega)) ai.pure)<|ai.cons (aD.dA (gr h 3 (by omega)) ai.pure)<|ai.cons aD.pure<|ai.cons (aD.dA (gr h 4 (by omega)) ai.pure)<|ai.cons aD.pure ai.nil)
noncomputable def gQ(TF:ah)(DF:List Bool)(tcs:Nat→Int)(N:Nat):List PV:=(List.range N).map fun i=>.bg (fi TF DF i (aw (aO TF DF i false)) (num (tcs i))) 0
instance:aI (gQ TF DF tcs N):=aI.map _ _ fun _=>inferInstance
theorem pd{i:Nat}(h:i<N):(gQ TF DF tcs N)[i]? =some (.bg (fi TF DF i (aw (aO TF DF i false)) (num (tcs i))) 0):=by simp[gQ,h]
theorem C4:(gQ TF DF tcs N).length=N:=by simp[gQ]
theorem Fc(hT:∀i,i<N→iF TF DF N i):aD (pF N c N::jx TF DF N c tcs N) (.own 0) (.slice N (gQ TF DF tcs N)):=by
 refine aD.dA (i:=0) I ⟨by rw[kW,C4],fun j x y hx hy=>?_⟩
 have hj:j<N:=by have:=(List.getElem?_eq_some_iff.1 hx).1;rwa [kW]at this
 rw[rq N c N j hj hj]at hx
 rw[pd hj]at hy
 cases hx
 cases hy
 obtain⟨A,C,h1,h2⟩:=AY (N:=N) (c:=c) (TF:=TF) (DF:=DF) (tcs:=tcs) hj
 rw[h2]
 exact EI h1 (hT j hj).len
end
theorem Es(T:ah)(D:List Bool)(d N:Nat)(he:cX T D [(d:Int)]=0)(hN:T.nodes=(N:Int))(σ:bN):aW Tryz.prog 6 [aZ T,bq D,num d] σ (fun r σ'=>r= .tuple [.ptr σ.length 0,num 0]∧σ'=σ++jU σ.length (cS T) (ef T D) d N (aO (cS T) (ef T D) d false) (num 0)):=by
 refine aW.frame (aW.mono (Ck T D d N he hN) ?_)
 rintro r σ' ⟨rfl,rfl⟩
 refine⟨[.cells 78 [num (cS T).nodes,.own 1,.own 2,.own 3,num d,.own 4,num 0],.row 4 1 (cS T).over.length (bb (cS T).over),.row 82 7 (cS T).ae.length (ct (cS T).ae),.row 4 1 (ef T D).length (bb (ef T D)),.row 3 1 N (aL (aO (cS T) (ef T D) d false))],rfl,.tuple [.ptr σ.length 0,num 0],
  [.cells 78 [num (cS T).nodes,.own (σ.length+1),.own (σ.length+2),.own (σ.length+3),num d,.own (σ.length+4),num 0],.row 4 1 (cS T).over.length (bb (cS T).over),.row 82 7 (cS T).ae.length (ct (cS T).ae),.row 4 1 (ef T D).length (bb (ef T D)),.row 3 1 N (aL (aO (cS T) (ef T D) d false))],
  Up.bY (jQ.cons (Up.ptr rfl)<|jQ.cons .pure jQ.nil),iI.cons (.cells (jQ.cons .pure<|jQ.cons (Up.own rfl)<|jQ.cons (Up.own rfl)<|jQ.cons (Up.own rfl)<|jQ.cons .pure<|jQ.cons (Up.own rfl)<|jQ.cons .pure jQ.nil))<|iI.cons (.row jQ.pure)<|iI.cons (.row jQ.pure)<|iI.cons (.row jQ.pure)<|iI.cons (.row jQ.pure) iI.nil,rfl,rfl⟩
theorem EG(σ:bN)(blk:cK):Cz σ.length blk (σ++[some blk]) (σ++[none]):=⟨by simp,by simp,fun j hj=>.inl (by
 by_cases h:j<σ.length
 ·rw[List.getElem?_append_left h,List.getElem?_append_left h]
 ·rw[List.getElem?_eq_none (by simp;omega),List.getElem?_eq_none (by simp;omega)])⟩
theorem wx(σ:bN)(b:Option cK):(σ++[b])[σ.length]? =some b:=by simp
theorem Eb(σ:bN)(b b':Option cK):(σ++[b]).set σ.length b'=σ++[b']:=by simp
theorem vI{P:Program}{ty:TypeId}(a:Nat)(w:World):(binOp .rem ty (.int .u8 (a:Int)) (.int .u8 3)).run P w= .ok (.int .u8 ((a % 3:Nat):Int)) w:=by
 have:(a:Int).tmod 3=((a % 3:Nat):Int):=by rw[Int.tmod_eq_emod_of_nonneg (by omega)];omega
 simp[binOp,Op.intDiv,this]
theorem HU{P:Program}{ty:TypeId}(a:Nat)(w:World):(binOp .rem ty (.int .u8 (a:Int)) (.int .u8 6)).run P w= .ok (.int .u8 ((a % 6:Nat):Int)) w:=by
 have:(a:Int).tmod 6=((a % 6:Nat):Int):=by rw[Int.tmod_eq_emod_of_nonneg (by omega)];omega
 simp[binOp,Op.intDiv,this]
theorem Ar{P:Program}{ty:TypeId}(a:Nat)(w:World):(binOp .rem ty (.int .u8 (a:Int)) (.int .u8 2)).run P w= .ok (.int .u8 ((a % 2:Nat):Int)) w:=by
 have:(a:Int).tmod 2=((a % 2:Nat):Int):=by rw[Int.tmod_eq_emod_of_nonneg (by omega)];omega
 simp[binOp,Op.intDiv,this]
theorem Bd(T:ah)(D:List Bool)(d:Nat)(L:List Int)(tc:Int)(hl:L.length≤1000):Can Tryz.prog 13 [.bg (fi T D d (aw L) (num tc)) 0] (· =aw L):=by
 refine aT Tryz.func13 I Tryz.ntmps13 I<|af (.a 1 I<|.k [0] I)<|an<|af (.a 2 I<|.k [0,4] I)<|aj I (fun hc=>?_) (fun hc=>?_)
 ·cases hc
 ·exact ak<|af (.a 3 I<|.v (aK I (rfl)) I<|.c rfl (nx L hl) I<|.a 1 I<|.k [2] I)<|az<|⟨_,_,aE.of I,aD.pure,rfl⟩
theorem HN(L:List Rs)(i:Nat)(r:Rs)(h:L[i]? =some r):((p9 L).drop (i*3)).take 3=ey r.1 r.2.1 r.2.2:=iS (fun r:Rs=>ey r.1 r.2.1 r.2.2) 3 (fun _=>rfl) L i r h
end
end PW
end Go.Proofs.YteikppbedmmdnaaGreatDoor
