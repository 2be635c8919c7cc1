/- Texts of the proof, part 10. -/
import Derived.Test.YtnegbdpggideiaaGreatDoorCardXAB9
set_option linter.unusedVariables false
set_option linter.unusedSimpArgs false
set_option maxRecDepth 10000
set_option maxHeartbeats 1000000
namespace Go.Proofs.YtnegbdpggideiaaGreatDoor
namespace PW
section
open Go.RowKit cE Mem Net eX
theorem sS{T:an}{n:Int}{L:List Int}(hl:T.ae.length≤256)(h:eA T n L=true):L.length≤512:=by
 have h:=of_decide_eq_true h
 have key:∀i:Nat,i<L.length→(i:Int)≤L.getD i 0:=by
  intro i
  induction i with
  |zero=>intro hi;have:=(cR.1 (h 0 hi).1).1;omega
  |succ i ih=>
   intro hi
   have h1:=ih (by omega)
   have h2:=(h (i+1) hi).2.2 (by omega)
   rw[Nat.add_sub_cancel]at h2
   omega
 rcases Nat.eq_zero_or_pos L.length with h0|h0
 ·omega
 ·have h1:=key (L.length - 1) (by omega)
  have h2:=cR.1 (h (L.length - 1) (by omega)).1
  omega
theorem tc(p:dw)(s:List bV)(e:iV)(hs:s.length≤40)(hp:e.push.length≤40)(ha:e.ay.length≤1000)(hps:p.stack.length≤1000)(hh:0≤p.dA∧p.dA≤1000):Can Tryz.prog 106 [dv p,ca s,xH e] (· =vA (fq p s e)):=by
 obtain⟨c,hc⟩:∃q,e.rep=q:=⟨_,rfl⟩
 have hE:fq p s e=if c then(if 32<(e.push++s.drop 1).length then eo p 5 else cr p (e.push++s.drop 1) e.ay) else cr p s e.ay:=by unfold fq;rw[hc]
 rw[hE]
 refine aG Tryz.func106 I Tryz.ntmps106 I<|aM<|au 5 I<|aE [1,3,5,7] I ?_
 refine aj<|ab (.a 1 I<|.v (aJ I ((show(gA e)[1]? =some (flag c) by rw[←hc];rfl))) I<|.k [1,3,5,7,11] I)<|ag I (fun h1=>?_) (fun h1=>?_)
 ·subst h1
  simp only[if_true]
  refine ab (.a 2 I<|.k [3,5,7,9] I)<|aj<|ab (.a 3 I<|.k [3,5,7,9,15] I)<|ag I (fun h2=>?_) (fun h2=>?_)
  ·obtain⟨a,l,rfl⟩:∃a l,s=a::l:=by
    cases s with
    |nil=>exact absurd (tt h2) (by simp)
    |cons a l=>exact⟨a,l,rfl⟩
   simp only[List.drop_succ_cons,List.drop_zero]
   obtain⟨s',hs',hsl⟩:∃s',l=s'∧s'.length≤40:=⟨l,rfl,by simp at hs;omega⟩
   refine aB (.a 1 I<|.v (gw I (aZ.el.get I) I I) I<|.a 1 I<|.k [3,5,7,9] I) ?_
   rw[hs']
   refine ab (.a 4 I<|.c rfl (pX e.push s' (by omega)) I<|.a 1 I<|.k [1,3,5,7] I)<|ab (.a 3 I<|.k [1,3,5,7,25] I)<|ag I (fun h3=>?_) (fun h3=>?_)
   ·have h3:=tt h3
    rw[if_pos (by omega)]
    refine aM<|au 1 I<|eL I (gE p 5 hps) I<|au 6 I<|aE [6,7,8] I ?_
    exact ao<|⟨_,_,az.of I,ax.aX (ah.cons (ax.pure (p:=aw []))<|ah.cons (ax.pure (p:=dv p))<|ah.cons ax.pure ah.nil),rfl⟩
   ·have h3:=ff h3
    rw[if_neg (by omega)]
    refine ai<|aM<|au 4 I<|eL I (mN p _ e.ay (by first|(simp only[List.length_append];omega)|omega) ha hh) I<|au 6 I<|aE [6,7,8] I ?_
    exact ao<|⟨_,_,az.of I,ax.aX (ah.cons (ax.pure (p:=aw e.ay))<|ah.cons (ax.pure (p:=dv ⟨p.id,p.src,p.dst,p.j9,_,p.dA+1⟩))<|ah.cons ax.pure ah.nil),rfl⟩
  ·obtain rfl:s=[]:=by
    cases s with
    |nil=>rfl
    |cons a l=>exact absurd (ff h2) (by simp)
   simp only[List.drop_nil]
   obtain⟨s',hs',hsl⟩:∃s',([]:List bV)=s'∧s'.length≤40:=⟨[],rfl,by simp⟩
   refine ai ?_
   rw[hs']
   refine ab (.a 4 I<|.c rfl (pX e.push s' (by omega)) I<|.a 1 I<|.k [1,3,5,7] I)<|ab (.a 3 I<|.k [1,3,5,7,25] I)<|ag I (fun h3=>?_) (fun h3=>?_)
   ·have h3:=tt h3
    rw[if_pos (by omega)]
    refine aM<|au 1 I<|eL I (gE p 5 hps) I<|au 6 I<|aE [6,7,8] I ?_
    exact ao<|⟨_,_,az.of I,ax.aX (ah.cons (ax.pure (p:=aw []))<|ah.cons (ax.pure (p:=dv p))<|ah.cons ax.pure ah.nil),rfl⟩
   ·have h3:=ff h3
    rw[if_neg (by omega)]
    refine ai<|aM<|au 4 I<|eL I (mN p _ e.ay (by first|(simp only[List.length_append];omega)|omega) ha hh) I<|au 6 I<|aE [6,7,8] I ?_
    exact ao<|⟨_,_,az.of I,ax.aX (ah.cons (ax.pure (p:=aw e.ay))<|ah.cons (ax.pure (p:=dv ⟨p.id,p.src,p.dst,p.j9,_,p.dA+1⟩))<|ah.cons ax.pure ah.nil),rfl⟩
 ·subst h1
  simp only[Bool.false_eq_true,if_false]
  refine ai<|aM<|au 4 I<|eL I (mN p _ e.ay (by first|(simp only[List.length_append];omega)|omega) ha hh) I<|au 6 I<|aE [6,7,8] I ?_
  exact ao<|⟨_,_,az.of I,ax.aX (ah.cons (ax.pure (p:=aw e.ay))<|ah.cons (ax.pure (p:=dv ⟨p.id,p.src,p.dst,p.j9,_,p.dA+1⟩))<|ah.cons ax.pure ah.nil),rfl⟩
def da(x:db)(v:Int):iV:=x.di.getD v.toNat I2
def eD(h:bV):List bV→List bV
 | []=>[]
 |a::l=>if a=h then eD h l else a::l
def CX(T:an)(x:db)(p:dw)(s:List bV)(v:Int)(K:Out):Out:=if(br T v&&decide (0<((da x v).ay.length:Int)))=true then fq p s (da x v) else K
def dr(T:an)(x:db)(p:dw)(s:List bV)(K:Out):Out:=
 if(decide ((s.length:Int)=0)&&decide (p.dst=x.node))=true then⟨[],⟨p.id,p.src,p.dst,p.j9,[],p.dA⟩, -1⟩
 else if(decide (255≤p.dA)||decide (p.dA<0))=true then eo p 4
 else match s with
  | []=>CX T x p [] p.dst (eo p 1)
  |a::l=>if a.kind=1 then CX T x p (a::l) a.num K
   else if a.kind=2 then(if(!(eM T a.num)||decide (bn T a.num.toNat≠x.node))=true then eo p 2 else if a.num∈x.down then K else cr p l [a.num])
   else eo p 1
def dE(T:an)(x:db)(p:dw):Out:=
 if((!cQ T x)|| !(br T p.dst))=true then eo p 1
 else if 32<(p.stack.length:Int) then eo p 5
 else dr T x p (eD ⟨1,x.node⟩ p.stack) (dr T x p [] (eo p 1))
theorem xl(h:bV):∀l:List bV,(eD h l).length≤l.length
 | []=>Nat.le_refl _
 |a::l=>by
  simp only[eD]
  split
  ·have:=xl h l;simp only[List.length_cons];omega
  ·exact Nat.le_refl _
theorem ko{T:an}{x:db}(h:cQ T x=true){v:Int}(hv:br T v=true):∃k:Nat,v=(k:Int)∧x.di[k]? =some (da x v)∧(da x v).push.length≤40∧(da x v).ay.length≤1000:=by
 unfold cQ at h
 simp only[Bool.and_eq_true,decide_eq_true_eq]at h
 obtain⟨⟨⟨⟨h1,h2⟩,h3⟩,h4⟩,h5⟩:=h
 have hll:=bR h1
 obtain⟨v0,v1⟩:=aT.1 hv
 obtain⟨k,rfl⟩:=Int.eq_ofNat_of_zero_le v0
 have hk:k<x.di.length:=by omega
 have hg:x.di[k]? =some (da x (k:Int)):=by
  unfold da
  rw[Int.toNat_natCast,List.getD_eq_getElem?_getD,List.getElem?_eq_getElem hk]
  rfl
 have ho:=(of_decide_eq_true h5) k hk
 rw[mI _ _ _ hg]at ho
 unfold gz at ho
 simp only[Bool.and_eq_true]at ho
 refine⟨k,rfl,hg,?_,?_⟩
 ·have:=ho.2
  split at this
  ·simp only[Bool.and_eq_true,decide_eq_true_eq]at this;omega
  ·simp only[decide_eq_true_eq]at this;omega
 ·have:=sS hll ho.1.1;omega
theorem rn{T:an}{x:db}(h:cQ T x=true):x.down.length≤1000:=by
 unfold cQ at h
 simp only[Bool.and_eq_true]at h
 have:=sS (bR h.1.1.1.1) h.1.2
 omega
set_option maxHeartbeats 2000000 in
theorem Fy(T : an)(x : db)(p : dw)(hps : p.stack.length ≤ 1000) : Can Tryz.prog 47 [aN T, fr x, dv p] (· = vA (dE T x p)) := by
  obtain⟨c1,hc1⟩:∃q,cQ T x=q:=⟨_,rfl⟩
  obtain⟨c2,hc2⟩:∃q,br T p.dst=q:=⟨_,rfl⟩
  obtain⟨n,hn⟩:∃n,x.node=n:=⟨_,rfl⟩
  unfold dE
  rw[hc1,hc2]
  refine aG Tryz.func47 I Tryz.ntmps47 I<|aM<|au 6 I<|aE [3,4,5,7] I ?_
  refine Ay ?_
  refine aj<|bz 22 (.raw (.bool ((!c1)|| !c2))) [3,4,5,7] I ?_ ?_
  · refine .a 2 I<|.c rfl (hc1▸q9 T x) I<|.a 2 I<|?_
    cases c1
    · exact .a 6 I<|.k [22,3,4,5,7] I
    · exact .a 3 I<|.c rfl (hc2▸dF T p.dst) I<|.a 2 I<|.k [22,3,4,5,7] I
  refine ag I (fun h1=>?_) (fun h1=>?_)
  · rw[if_pos h1]
    refine aM<|au 1 I<|eL I (gE p 1 hps) I<|au 6 I<|aE [6,7,8] I ?_
    exact ao<|⟨_,_,az.of I,ax.aX (ah.cons (ax.pure (p:=aw []))<|ah.cons (ax.pure (p:=dv p))<|ah.cons ax.pure ah.nil),rfl⟩
  · rw [if_neg (by rw [h1]; simp)]
    obtain⟨rfl,rfl⟩:c1=true∧c2=true:=by revert h1;cases c1<;>cases c2<;>simp
    refine ai<|aj<|ab (.a 1 I<|.v (aJ I ((rfl:(cH p)[4]? =some (ca p.stack)))) I<|.a 2 I<|.k [3,4,5,7,31] I)<|ag I (fun h2=>?_) (fun h2=>?_)
    · rw[if_pos (tt h2)]
      refine aM<|au 1 I<|eL I (gE p 5 hps) I<|au 6 I<|aE [6,7,8] I ?_
      exact ao<|⟨_,_,az.of I,ax.aX (ah.cons (ax.pure (p:=aw []))<|ah.cons (ax.pure (p:=dv p))<|ah.cons ax.pure ah.nil),rfl⟩
    · rw [if_neg (ff h2)]
      have h32:p.stack.length≤32:=by have:=ff h2;omega
      refine ai<|ab (.a 1 I<|.v (aJ I ((rfl:(cH p)[4]? =some (ca p.stack)))) I<|.a 1 I<|.k [3,4,5,7,9] I)<|aM<|au 1 I<|bx (aJ I ((show(eK x)[0]? =some (num n) by rw[←hn];rfl))) I<|au 3 I<|aE [3,4,5,7,9,10] I ?_
      refine aj<|av<|eR [3,4,5,7,9,10] I<|bu (fun r st=>∃s:List bV,s.length≤32∧r=s.length∧eD ⟨1,n⟩ p.stack=eD ⟨1,n⟩ s∧st=⟨[(3,.ba (bC T) 0),(4,.ba (eK x) 0),(5,.ba (cH p) 0),(7,.ptr 0 0),(9,ca s),(10,.ptr 1 0)],[some (.cells 66 [num 0,num 0,num 0,num 0,.raw (.slice none 0 0),num 0]),some (.cells 103 [num 1,num n])]⟩) p.stack.length ⟨p.stack,h32,rfl,rfl,rfl⟩ ?_
      rintro r st ⟨s,hs,rfl,hsk,rfl⟩
      obtain⟨e1,he1⟩:∃q,decide (0<(s.length:Int))=q:=⟨_,rfl⟩
      obtain⟨a,ha⟩:∃a,s.getD 0 ⟨0,0⟩=a:=⟨_,rfl⟩
      obtain⟨e2,he2⟩:∃q,decide (a=(⟨1,n⟩:bV))=q:=⟨_,rfl⟩
      refine aj<|jk mixed (by kernel_rfl) 51 (.raw (.bool (e1&&e2))) [3,4,5,7,9,10] I ?_ ?_
      · refine .a 2 I<|.v [43] (cc I (he1)) I I<|.a 1 I<|?_
        cases e1
        · exact .a 6 I<|.k [51,3,4,5,7,9,10] I
        · exact .a 1 I<|.v [46] (aP (0) I (by omega) (by have:=tt he1;omega)) I I<|.v [47] (fA I (gu s 0 a (by rw[←ha];have:=tt he1;rw[List.getD_eq_getElem?_getD,List.getElem?_eq_getElem (by omega)];rfl)) I) I I<|.a 1 I<|.v [48,49] (wT I I (b:=⟨1,n⟩) I he2) I I<|.a 1 I<|.k [51,3,4,5,7,9,10] I
      refine ag I (fun h3=>?_) (fun h3=>?_)
      · obtain⟨rfl,rfl⟩:=Bool.and_eq_true_iff.1 h3
        obtain⟨l,rfl⟩:∃l,s=(⟨1,n⟩:bV)::l:=by
          have h4:=tt he2
          cases s with
          |nil=>exact absurd (tt he1) (by simp)
          |cons b l=>exact⟨l,by rw[←h4,←ha];rfl⟩
        simp only[eD,if_true]at hsk
        refine ai<|av<|aB (.a 1 I<|.v (gw I (aZ.el.get I) I I) I<|.a 1 I<|.k [3,4,5,7,9,10] I) ?_
        exact⟨l.length,by simp,l,by simp at hs;omega,rfl,hsk,rfl⟩
      · have hsk:eD ⟨1,n⟩ p.stack=s:=by
          rw[hsk]
          cases s with
          |nil=>rfl
          |cons b l=>
            have e1t:e1=true:=by rw[←he1];simp
            rw[e1t,Bool.true_and]at h3
            rw[h3]at he2
            have h5:=ff he2
            simp only[eD]
            rw[if_neg (by rw[←ha]at h5;exact h5)]
        rw[hn,hsk]
        clear he1 ha he2 h3
        refine bf<|aj<|AH ?_
        refine av<|eR [3,4,5,7,9] I<|bu (fun r st=>∃(s':List bV) (z:PV),kV z (ca s')∧s'.length≤32∧r=s'.length∧dr T x p s (dr T x p [] (eo p 1))=dr T x p s' (dr T x p [] (eo p 1))∧st=⟨[(3,.ba (bC T) 0),(4,.ba (eK x) 0),(5,.ba (cH p) 0),(7,.ptr 0 0),(9,z)],[some (.cells 66 [num 0,num 0,num 0,num 0,.raw (.slice none 0 0),num 0]),some (.cells 103 [num 1,num n])]⟩) s.length ⟨s,_,kV.refl _,hs,rfl,rfl,rfl⟩ ?_
        clear hsk hs
        rintro r st ⟨s',z,hz,hs,rfl,hR,rfl⟩
        refine la (t':=[(3,.ba (bC T) 0),(4,.ba (eK x) 0),(5,.ba (cH p) 0),(7,.ptr 0 0),(9,ca s')]) ?_ ?_
        · exact Sub.cons rfl<|Sub.cons rfl<|Sub.cons rfl<|Sub.cons rfl<|Sub.Jk rfl hz<|Sub.nil _
        clear hz
        rw[hR]
        clear hR
        obtain⟨K0,hK0⟩:∃K,dr T x p [] (eo p 1)=K:=⟨_,rfl⟩
        rw[hK0]
        obtain⟨R,hS⟩:∃R,dr T x p s' K0=R:=⟨_,rfl⟩
        rw[hS]
        have hRR:=hS
        unfold dr at hRR
        obtain⟨c5,hc5⟩:∃q,decide ((s'.length:Int)=0)=q:=⟨_,rfl⟩
        obtain⟨c6,hc6⟩:∃q,decide (p.dst=n)=q:=⟨_,rfl⟩
        obtain⟨c7,hc7⟩:∃q,decide (255≤p.dA)=q:=⟨_,rfl⟩
        obtain⟨c8,hc8⟩:∃q,decide (p.dA<0)=q:=⟨_,rfl⟩
        rw[hc5,hn,hc6,hc7,hc8]at hRR
        refine av<|aj<|bz 63 (.raw (.bool (c5&&c6))) [3,4,5,7,9] I ?_ ?_
        · refine .a 2 I<|.v (cc I (hc5)) I<|.a 1 I<|?_
          cases c5
          · exact .a 6 I<|.k [63,3,4,5,7,9] I
          · exact .a 1 I<|.v (aJ I ((rfl:(cH p)[2]? =some (num p.dst)))) I<|.a 1 I<|.v (aJ I ((show(eK x)[0]? =some (num n) by rw[←hn];rfl))) I<|.v (cc I (hc6)) I<|.a 1 I<|.k [63,3,4,5,7,9] I
        refine ag I (fun h1=>?_) (fun h1=>?_)
        · rw[if_pos h1]at hRR
          subst hRR
          refine aM<|au 1 I<|bx (wB I (ah.cons ax.pure<|ah.cons ax.bQ ah.nil) (sg p [] (by simp))) I<|au 3 I<|aE [6,7,8] I ?_
          exact ao<|⟨_,_,az.of I,ax.aX (ah.cons ax.bQ<|ah.cons (ax.pure (p:=dv ⟨p.id,p.src,p.dst,p.j9,[],p.dA⟩))<|ah.cons ax.pure ah.nil),rfl⟩
        · rw [if_neg (by rw [h1]; simp)] at hRR
          refine ai<|aj<|bz 73 (.raw (.bool (c7||c8))) [3,4,5,7,9] I ?_ ?_
          · refine .a 1 I<|.v (aJ I ((rfl:(cH p)[5]? =some (num p.dA)))) I<|.v (cc I (hc7)) I<|.a 1 I<|?_
            cases c7
            · exact .a 1 I<|.v (aJ I ((rfl:(cH p)[5]? =some (num p.dA)))) I<|.v (cc I (hc8)) I<|.a 1 I<|.k [73,3,4,5,7,9] I
            · exact .a 4 I<|.k [73,3,4,5,7,9] I
          refine ag I (fun h2=>?_) (fun h2=>?_)
          · rw[if_pos h2]at hRR
            subst hRR
            refine aM<|au 1 I<|eL I (gE p 4 hps) I<|au 6 I<|aE [6,7,8] I ?_
            exact ao<|⟨_,_,az.of I,ax.aX (ah.cons (ax.pure (p:=aw []))<|ah.cons (ax.pure (p:=dv p))<|ah.cons ax.pure ah.nil),rfl⟩
          · rw [if_neg (by rw [h2]; simp)] at hRR
            have hh:0≤p.dA∧p.dA≤1000:=by
              obtain⟨h3,h4⟩:=Bool.or_eq_false_iff.1 h2
              rw[←hc7]at h3
              rw[←hc8]at h4
              have:=ff h3
              have:=ff h4
              omega
            clear hc5 hc6 hc7 hc8 h1 h2
            refine ai ?_
            obtain⟨v,hv⟩:∃v,p.dst=v:=⟨_,rfl⟩
            refine ab (.a 1 I<|.v (aJ I ((show(cH p)[2]? =some (num v) by rw[←hv];rfl))) I<|.a 1 I<|.k [3,4,5,7,9,11] I)<|aj<|ab (.a 3 I<|.k [3,4,5,7,9,11,83] I)<|ag I (fun h3=>?_) (fun h3=>?_)
            · have hne:0<s'.length:=by have:=tt h3;omega
              obtain⟨a,l,hs'⟩:∃a l,s'=a::l:=by
                cases s' with
                |nil=>exact absurd hne (by simp)
                |cons a l=>exact⟨a,l,rfl⟩
              have h0:s'[0]? =some a:=by rw[hs'];rfl
              rw[hs']at hRR
              dsimp only at hRR
              rw[←hs']at hRR
              clear hv
              obtain⟨v,hv⟩:∃v,a.num=v:=⟨_,rfl⟩
              rw[hv]at hRR
              refine ab (.a 1 I<|.v (aP (0) I (by omega) (by omega)) I<|.a 1 I<|.v (aJ I (((Jc s' 0 a h0).trans (by rw[hv])))) I<|.a 1 I<|.k [3,4,5,7,9,11] I)<|ab (.a 1 I<|.v (aP (0) I (by omega) (by omega)) I<|.a 1 I<|.v (aJ I ((IZ s' 0 a h0))) I<|.k [3,4,5,7,9,11,91] I)<|av<|ab (.a 2 I<|.k [3,4,5,7,9,11,91,97] I)<|ag I (fun h4=>?_) (fun h4=>?_)
              · rw[if_pos (tt h4)]at hRR
                obtain⟨K1,hK1,hK1n,hK1p⟩:∃K1,K1=K0∧(s'.length=0→K1=eo p 1)∧(0<s'.length→K1=K0):=⟨_,rfl,fun h=>absurd h (by omega),fun h=>rfl⟩
                rw[←hK1]at hRR
                clear hK1 h3 h4 hs' hv h0
                refine ai<|aj ?_
                obtain⟨c11,hc11⟩:∃q,br T v=q:=⟨_,rfl⟩
                have hnc:=dF T v
                rw[hc11]at hnc
                unfold CX at hRR
                have hes:c11=true→x.di[v.toNat]? =some (da x v)∧(da x v).push.length≤40∧(da x v).ay.length≤1000∧v<(x.di.length:Int)∧0≤v:=fun h=>by
                  obtain⟨k,rfl,g1,g2,g3⟩:=ko hc1 (hc11.trans h)
                  have:=(List.getElem?_eq_some_iff.1 g1).1
                  exact⟨g1,g2,g3,by omega,by omega⟩
                obtain⟨e,he⟩:∃e,da x v=e:=⟨_,rfl⟩
                obtain⟨IJ,hc12⟩:∃q,decide (0<(e.ay.length:Int))=q:=⟨_,rfl⟩
                rw[he]at hes hRR
                rw[hc11,hc12]at hRR
                refine uK (Q1:=fun st=>st=⟨[(143,flag (c11&&IJ)),(3,.ba (bC T) 0),(4,.ba (eK x) 0),(5,.ba (cH p) 0),(7,.ptr 0 0),(9,ca s'),(11,num v)],[some (.cells 66 [num 0,num 0,num 0,num 0,.raw (.slice none 0 0),num 0]),some (.cells 103 [num 1,num n])]⟩) ?_ ?_
                · cases c11
                  · refine aB (.a 2 I<|.c rfl (hnc) I<|.a 10 I<|.k [143,3,4,5,7,9,11] I) ?_
                    rfl
                  · refine aB (.a 2 I<|.c rfl (hnc) I<|.a 2 I<|.v (aJ I ((rfl:(eK x)[1]? =some (iD x.di)))) I<|.a 1 I<|.v (aP ((v.toNat*3)) I (hes rfl).2.2.2.2 (hes rfl).2.2.2.1) I<|.a 1 I<|.v (aJ I ((oq x.di v.toNat 0 e (hes rfl).1 (by omega)))) I<|.a 1 I<|.v (cc I (hc12)) I<|.a 1 I<|.k [143,3,4,5,7,9,11] I) ?_
                    rfl
                rintro _ rfl
                refine ag I (fun h8=>?_) (fun h8=>?_)
                · rw[if_pos h8]at hRR
                  obtain⟨g1,g2,g3,g4,g5⟩:=hes (Bool.and_eq_true_iff.1 h8).1
                  subst hRR
                  refine ir 12 20 mixed (
                    .val [5] I (bh I) I I<|
                    .val [9] I (bh I) I I<|
                    .val [4] I (bh I) I I<|
                    .val [146] I (aJ I ((rfl:(eK x)[1]? =some (iD x.di)))) I I<|
                    .val [11] I (bh I) I I<|
                    .val [147,148] I (aP ((v.toNat*3)) I g5 g4) I I<|
                    .val [149] I (fA I ((i7 x.di v.toNat e g1)) I) I I<|
                    .val [144,145,150] I (dV I (tc p s' e (by omega) g2 g3 hps hh)) I I<|
                    .val [151] I (bh I) I I<|
                    .val [151] I (bh I) I I<|
                    .val [151] I (bh I) I I<|
                    .val [152] I (bh I) I I<|
                    .nil) (by kernel_rfl) I I (aY (ks:=[6,7,153,154]) I) ?_
                  refine au 2 I<|aE [6,7,8] I ?_
                  exact ao<|⟨_,_,az.of I,ax.aX (ah.cons (ax.pure (p:=aw (fq p s' e).ay))<|ah.cons (ax.pure (p:=dv (fq p s' e).eu))<|ah.cons ax.pure ah.nil),rfl⟩
                · rw[if_neg (by rw[h8];simp)]at hRR
                  refine ai<|aj<|ab (.a 3 I<|.k [3,4,5,7,157] I)<|ag I (fun h9=>?_) (fun h9=>?_)
                  · rw[hK1n (by have:=tt h9;omega)]at hRR
                    subst hRR
                    refine aM<|au 1 I<|eL I (gE p 1 hps) I<|au 6 I<|aE [6,7,8] I ?_
                    exact ao<|⟨_,_,az.of I,ax.aX (ah.cons (ax.pure (p:=aw []))<|ah.cons (ax.pure (p:=dv p))<|ah.cons ax.pure ah.nil),rfl⟩
                  · have hne:0<s'.length:=by have:=ff h9;omega
                    rw[hK1p hne]at hRR
                    refine ai<|aB (.a 1 I<|.k [3,4,5,7,9] I) ?_
                    exact⟨0,hne,[],_,kV.bQ,by simp,rfl,hRR.symm.trans (hK0.symm.trans rfl),rfl⟩
              · rw[if_neg (ff h4)]at hRR
                refine ab (.a 2 I<|.k [3,4,5,7,9,11,99] I)<|ag I (fun h5=>?_) (fun h5=>?_)
                · rw[if_pos (tt h5)]at hRR
                  obtain⟨c9,hc9⟩:∃q,eM T v=q:=⟨_,rfl⟩
                  obtain⟨c10,hc10⟩:∃q,decide (bn T v.toNat≠n)=q:=⟨_,rfl⟩
                  have hac:=qt T (by have h:=hc1;unfold cQ at h;simp only[Bool.and_eq_true]at h;have:=bR h.1.1.1.1;omega) v
                  rw[hc9]at hac
                  rw[hc9,hc10]at hRR
                  refine aj<|jk mixed (by kernel_rfl) 112 (.raw (.bool ((!c9)||c10))) [3,4,5,7,9,11] I ?_ ?_
                  · refine .a 2 I<|.v [101,102] (dV I (hac)) I I<|.a 2 I<|?_
                    cases c9
                    · exact .a 7 I<|.k [112,3,4,5,7,9,11] I
                    · exact .a 2 I<|.v [106,107] (dV I (o6 T v hc9)) I I<|.a 1 I<|.v [109] (aJ I ((show(eK x)[0]? =some (num n) by rw[←hn];rfl))) I I<|.v [108,110] (cc I (hc10)) I I<|.a 1 I<|.k [112,3,4,5,7,9,11] I
                  refine ag I (fun h6=>?_) (fun h6=>?_)
                  · rw[if_pos h6]at hRR
                    subst hRR
                    refine aM<|au 1 I<|eL I (gE p 2 hps) I<|au 6 I<|aE [6,7,8] I ?_
                    exact ao<|⟨_,_,az.of I,ax.aX (ah.cons (ax.pure (p:=aw []))<|ah.cons (ax.pure (p:=dv p))<|ah.cons ax.pure ah.nil),rfl⟩
                  · rw[if_neg (by rw[h6];simp)]at hRR
                    refine ai<|aj<|ab (.a 1 I<|.v (aJ I ((rfl:(eK x)[2]? =some (aw x.down)))) I<|.a 1 I<|.c rfl (sP x.down v (rn hc1)) I<|.k [3,4,5,7,9,11,121] I)<|ag I (fun h7=>?_) (fun h7=>?_)
                    · rw[if_pos (tt h7)]at hRR
                      exact ab (.a 1 I<|.k [3,4,5,7,9] I)<|bf<|⟨0,hne,[],_,kV.bQ,by simp,rfl,hRR.symm.trans (hK0.symm.trans rfl),rfl⟩
                    · rw[if_neg (ff h7)]at hRR
                      subst hRR
                      subst hs'
                      refine ai<|ir 10 20 mixed (
                        .val [5] I (bh I) I I<|
                        .val [9] I (bh I) I I<|
                        .val [123] I (gw I (aZ.el.get I) I I) I I<|
                        .val [11] I (bh I) I I<|
                        .val [125] I (bh I) I I<|
                        .val [122,124,126] I (dV I (mN p l [v] (by simp at hs;omega) (by simp) hh)) I I<|
                        .val [127] I (bh I) I I<|
                        .val [127] I (bh I) I I<|
                        .val [127] I (bh I) I I<|
                        .val [128] I (bh I) I I<|
                        .nil) (by kernel_rfl) I I (aY (ks:=[6,7,129,130]) I) ?_
                      refine au 2 I<|aE [6,7,8] I ?_
                      exact ao<|⟨_,_,az.of I,ax.aX (ah.cons (ax.pure (p:=aw [v]))<|ah.cons (ax.pure (p:=dv (cr p l [v]).eu))<|ah.cons ax.pure ah.nil),rfl⟩
                · rw[if_neg (ff h5)]at hRR
                  subst hRR
                  refine aM<|au 1 I<|eL I (gE p 1 hps) I<|au 6 I<|aE [6,7,8] I ?_
                  exact ao<|⟨_,_,az.of I,ax.aX (ah.cons (ax.pure (p:=aw []))<|ah.cons (ax.pure (p:=dv p))<|ah.cons ax.pure ah.nil),rfl⟩
            · have hs':s'=[]:=by
                cases s' with
                |nil=>rfl
                |cons a l=>exact absurd (ff h3) (by simp)
              rw[hs']at hRR
              dsimp only at hRR
              rw[←hs',hv]at hRR
              obtain⟨K1,hK1,hK1n,hK1p⟩:∃K1,K1=eo p 1∧(s'.length=0→K1=eo p 1)∧(0<s'.length→K1=K0):=⟨_,rfl,fun _=>rfl,fun h=>absurd h (by rw[hs'];simp)⟩
              rw[←hK1]at hRR
              clear hK1 h3 hs' hv
              refine ai<|aj ?_
              obtain⟨c11,hc11⟩:∃q,br T v=q:=⟨_,rfl⟩
              have hnc:=dF T v
              rw[hc11]at hnc
              unfold CX at hRR
              have hes:c11=true→x.di[v.toNat]? =some (da x v)∧(da x v).push.length≤40∧(da x v).ay.length≤1000∧v<(x.di.length:Int)∧0≤v:=fun h=>by
                obtain⟨k,rfl,g1,g2,g3⟩:=ko hc1 (hc11.trans h)
                have:=(List.getElem?_eq_some_iff.1 g1).1
                exact⟨g1,g2,g3,by omega,by omega⟩
              obtain⟨e,he⟩:∃e,da x v=e:=⟨_,rfl⟩
              obtain⟨IJ,hc12⟩:∃q,decide (0<(e.ay.length:Int))=q:=⟨_,rfl⟩
              rw[he]at hes hRR
              rw[hc11,hc12]at hRR
              refine uK (Q1:=fun st=>st=⟨[(143,flag (c11&&IJ)),(3,.ba (bC T) 0),(4,.ba (eK x) 0),(5,.ba (cH p) 0),(7,.ptr 0 0),(9,ca s'),(11,num v)],[some (.cells 66 [num 0,num 0,num 0,num 0,.raw (.slice none 0 0),num 0]),some (.cells 103 [num 1,num n])]⟩) ?_ ?_
              · cases c11
                · refine aB (.a 2 I<|.c rfl (hnc) I<|.a 10 I<|.k [143,3,4,5,7,9,11] I) ?_
                  rfl
                · refine aB (.a 2 I<|.c rfl (hnc) I<|.a 2 I<|.v (aJ I ((rfl:(eK x)[1]? =some (iD x.di)))) I<|.a 1 I<|.v (aP ((v.toNat*3)) I (hes rfl).2.2.2.2 (hes rfl).2.2.2.1) I<|.a 1 I<|.v (aJ I ((oq x.di v.toNat 0 e (hes rfl).1 (by omega)))) I<|.a 1 I<|.v (cc I (hc12)) I<|.a 1 I<|.k [143,3,4,5,7,9,11] I) ?_
                  rfl
              rintro _ rfl
              refine ag I (fun h8=>?_) (fun h8=>?_)
              · rw[if_pos h8]at hRR
                obtain⟨g1,g2,g3,g4,g5⟩:=hes (Bool.and_eq_true_iff.1 h8).1
                subst hRR
                refine ir 12 20 mixed (
                  .val [5] I (bh I) I I<|
                  .val [9] I (bh I) I I<|
                  .val [4] I (bh I) I I<|
                  .val [146] I (aJ I ((rfl:(eK x)[1]? =some (iD x.di)))) I I<|
                  .val [11] I (bh I) I I<|
                  .val [147,148] I (aP ((v.toNat*3)) I g5 g4) I I<|
                  .val [149] I (fA I ((i7 x.di v.toNat e g1)) I) I I<|
                  .val [144,145,150] I (dV I (tc p s' e (by omega) g2 g3 hps hh)) I I<|
                  .val [151] I (bh I) I I<|
                  .val [151] I (bh I) I I<|
                  .val [151] I (bh I) I I<|
                  .val [152] I (bh I) I I<|
                  .nil) (by kernel_rfl) I I (aY (ks:=[6,7,153,154]) I) ?_
                refine au 2 I<|aE [6,7,8] I ?_
                exact ao<|⟨_,_,az.of I,ax.aX (ah.cons (ax.pure (p:=aw (fq p s' e).ay))<|ah.cons (ax.pure (p:=dv (fq p s' e).eu))<|ah.cons ax.pure ah.nil),rfl⟩
              · rw[if_neg (by rw[h8];simp)]at hRR
                refine ai<|aj<|ab (.a 3 I<|.k [3,4,5,7,157] I)<|ag I (fun h9=>?_) (fun h9=>?_)
                · rw[hK1n (by have:=tt h9;omega)]at hRR
                  subst hRR
                  refine aM<|au 1 I<|eL I (gE p 1 hps) I<|au 6 I<|aE [6,7,8] I ?_
                  exact ao<|⟨_,_,az.of I,ax.aX (ah.cons (ax.pure (p:=aw []))<|ah.cons (ax.pure (p:=dv p))<|ah.cons ax.pure ah.nil),rfl⟩
                · have hne:0<s'.length:=by have:=ff h9;omega
                  rw[hK1p hne]at hRR
                  refine ai<|aB (.a 1 I<|.k [3,4,5,7,9] I) ?_
                  exact⟨0,hne,[],_,kV.bQ,by simp,rfl,hRR.symm.trans (hK0.symm.trans rfl),rfl⟩
end
section
open Go.RowKit cE Mem Net
section
variable {T:an} {D:List Bool}
theorem Ch.snoc{d n:Nat}{q:List Int}(h:Ch T D d n q):∀ {a x:Nat},(q=[]∨df T d=false)→a<2*T.ae.length→bn T a=(d:Int)→aQ D a=false→aS T a=(x:Int)→Ch T D x n (q++[(a:Int)]):=by
 induction h with
 |nil=>intro a x _ h1 h2 h3 h4;exact .cons h1 h2 h3 h4 (.inl rfl) .nil
 | @cons n b m p hb ht hu hm ho hp ih=>
  intro a x hov h1 h2 h3 h4
  have hov':df T d=false:=by rcases hov with h|h;cases h;exact h
  refine .cons hb ht hu hm ?_ (ih (.inr hov') h1 h2 h3 h4)
  rcases ho with h|h
  ·have:=hp.to h
   subst this
   exact .inr hov'
  ·exact .inr h
theorem I5(hv:aq T=true){n:Nat}(hn:(n:Int)<T.nodes){d m:Nat}{p:List Int}(h:Ch T D d m p)(h0:0≤at' (bG T D n true) (m:Int))(ho:p=[]∨m=n∨df T m=false):0≤at' (bG T D n true) (d:Int):=by
 have hI:=jy (aO hv) D true hn
 induction h with
 |nil=>exact h0
 | @cons m a m' p ha ht hu hm hov hp ih=>
  have hw:=hI.closed a ha ⟨hu,by simp only[cU,if_true];rw[ht];exact h0,by
   simp only[cU,if_true];rw[ht]
   rcases ho with h|h|h
   ·cases h
   ·exact .inl (by rw[h])
   ·exact .inr (by simpa using h)⟩
  simp only[fH,if_true]at hw
  rw[hm]at hw
  refine ih hw.1 ?_
  rcases hov with h|h
  ·exact .inl h
  ·exact .inr (.inr h)
theorem IA(hv:aq T=true){n:Nat}(hn:(n:Int)<T.nodes):∀(k x:Nat),(x:Int)<T.nodes→0≤at' (bG T D n true) (x:Int)→at' (bG T D n true) (x:Int)≤k→0≤dN T D x n:=by
 have hS:=aO hv
 have hI:=jy hS D true hn
 intro k
 induction k with
 |zero=>
  intro x hx h0 hk
  rcases hI.mQ x hx h0 with h|⟨a,ha,hX,hW,hs⟩
  ·subst h;rw[kK hv hn];exact Int.le_refl _
  ·have:=(hS.cost a ha).1
   have:=hW.2.1
   omega
 |succ k ih=>
  intro x hx h0 hk
  rcases hI.mQ x hx h0 with h|⟨a,ha,hX,hW,hs⟩
  ·subst h;rw[kK hv hn];exact Int.le_refl _
  ·simp only[fH,cU,if_true]at hX hs
   obtain⟨hu,hy0,hyo⟩:=hW
   simp only[cU,if_true]at hy0 hyo
   have hc:=(hS.cost a ha).1
   have ht:=hS.tail a ha
   obtain⟨y,hy⟩:=Int.eq_ofNat_of_zero_le ht.1
   rw[hy]at hy0 hyo hs ht
   have hyN:(y:Int)<T.nodes:=ht.2
   have h1:=ih y hyN hy0 (by omega)
   have hsp:=eQ (D:=D) hv hyN hn h1
   have hc2:=hsp.ch.snoc (a:=a) (x:=x) (by
    rcases hyo with h|h
    ·have:y=n:=by omega
     subst this
     exact .inl hsp.self
    ·exact .inr (by simpa using h)) ha hy hu hX
   exact(hc2.le hv hx).1
theorem GM(hv:aq T=true){n d:Nat}(hn:(n:Int)<T.nodes)(hd:(d:Int)<T.nodes):0≤(bG T D n true).getD d 0↔0≤dN T D d n:=by
 have hS:=aO hv
 have hI:=jy hS D true hn
 have hl:=hI.len
 have e:(bG T D n true).getD d 0=at' (bG T D n true) (d:Int):=by
  unfold at'
  rw[Int.toNat_natCast,List.getD_eq_getElem?_getD,List.getD_eq_getElem?_getD,List.getElem?_eq_getElem (by omega)]
  rfl
 rw[e]
 constructor
 ·intro h0
  exact IA hv hn (at' (bG T D n true) (d:Int)).toNat d hd h0 (by have:=Int.toNat_of_nonneg h0;omega)
 ·intro h0
  have hsp:=eQ (D:=D) hv hd hn h0
  refine I5 hv hn hsp.ch ?_ (.inr (.inl rfl))
  rw[hI.root]
  exact Int.le_refl _
end
open eX
def ga(T:an)(a:Nat):Int:=(cC T.ae (a / 2)).vF
noncomputable def gG(T:an)(D:List Bool)(n d:Int):Bool:=decide (gQ T D n d=0)
noncomputable def dt(T:an)(a:Nat)(d:Int):Int×Int:=
 if(decide (0<ga T a)&&gG T (aI T 3 (ga T a)) (bn T a) d)=true then(3,ga T a)
 else if(decide (aS T a≠d)&&gG T (aI T 2 (aS T a)) (bn T a) d)=true then(2,aS T a)
 else(1,((a / 2:Nat):Int))
def fV(T:an)(M:List Bool)(n:Int):List Bool:=(List.range (2*T.ae.length)).map fun a=>aQ M a&&decide (bn T a=n)
def orM(T:an)(D E:List Bool):List Bool:=(List.range (2*T.ae.length)).map fun a=>aQ D a||aQ E a
theorem xD{f:Nat→Bool}{n a:Nat}:aQ ((List.range n).map f) a=(decide (a<n)&&f a):=by
 unfold aQ
 rw[List.getD_eq_getElem?_getD,List.getElem?_map]
 by_cases h:a<n
 ·rw[List.getElem?_range h];simp[h]
 ·rw[List.getElem?_eq_none (by simp;omega)];simp[h]
theorem rp{T:an}{f:Nat→Bool}:bW T ((List.range (2*T.ae.length)).map f)=true:=by simp[bW]
theorem nK{T:an}{M:List Bool}{n:Int}{a:Nat}:aQ (fV T M n) a=(decide (a<2*T.ae.length)&&(aQ M a&&decide (bn T a=n))):=xD
theorem HP{T:an}{D E:List Bool}{a:Nat}:aQ (orM T D E) a=(decide (a<2*T.ae.length)&&(aQ D a||aQ E a)):=xD
theorem dx(T:an)(k x:Int):bW T (aI T k x)=true:=rp
theorem ED(T:an)(M:List Bool)(n:Int):bW T (fV T M n)=true:=rp
theorem uL(T:an)(D E:List Bool):bW T (orM T D E)=true:=rp
theorem mB{T:an}{D:List Bool}{x y:Nat}(hv:aq T=true)(hf:bW T D=true)(hx:(x:Int)<T.nodes)(hy:(y:Int)<T.nodes):gG T D x y=true↔0≤dN T D y x:=by
 unfold gG
 rw[decide_eq_true_eq,kf hv hf hx hy]
 split<;>omega
theorem tQ{T:an}(hv:aq T=true){a:Nat}(ha:a<2*T.ae.length):0≤ga T a∧ga T a≤64:=by
 have h:=rv hv (a / 2) (by omega)
 unfold ga
 unfold iH at h
 rw[Bool.and_eq_true]at h
 unfold bK at h
 exact of_decide_eq_true h.2
theorem wV{T:an}(hv:aq T=true){a:Nat}(ha:a<2*T.ae.length)(d:Int):cd T (dt T a d).1 (dt T a d).2=true:=by
 have hg:=tQ hv ha
 unfold dt
 split
 ·rename_i h
  rw[Bool.and_eq_true,decide_eq_true_eq]at h
  show cd T 3 (ga T a)=true
  unfold cd
  simp only[if_neg (show ¬(3:Int)=1 by decide),if_neg (show ¬(3:Int)=2 by decide),if_true,Bool.and_eq_true,decide_eq_true_eq]
  exact⟨by omega,by omega⟩
 ·split
  ·obtain⟨h0,h1⟩:=(aO hv).head a ha
   show cd T 2 (aS T a)=true
   unfold cd
   simp only[if_neg (show ¬(2:Int)=1 by decide),if_true]
   exact aT.2 ⟨h0,h1⟩
  ·show cd T 1 ((a / 2:Nat):Int)=true
   unfold cd
   simp only[if_true,Bool.and_eq_true,decide_eq_true_eq]
   exact⟨by omega,by omega⟩
def lx(own:List Bool)(l:List Int):Option Int:=l.find? fun a=>aQ own a.toNat
noncomputable def pA(T:an)(own:List Bool)(n d:Int)(a:Nat):List Bool:=
 if gG T (orM T (aI T (dt T a d).1 (dt T a d).2) own) n d=true then orM T (aI T (dt T a d).1 (dt T a d).2) own else own
noncomputable def np(T:an)(own:List Bool)(n d:Nat):iV:=match lx own (bI T [] n d)with
 |none=>⟨bI T [] n d,false,[]⟩
 |some a=>jS T (pA T own n d a.toNat) n d
noncomputable def oY(T:an)(own:List Bool)(n k:Nat):List iV:=(List.range k).map fun d=>np T own n d
theorem CN(T:an)(own:List Bool)(n k:Nat):oY T own n (k+1)=oY T own n k++[np T own n k]:=by simp[oY,List.range_succ]
theorem rA(T:an)(own:List Bool)(n k:Nat):(oY T own n k).length=k:=by simp[oY]
theorem wa{T:an}{own:List Bool}{n k d:Nat}(h:d<k):(oY T own n k)[d]? =some (np T own n d):=by simp[oY,h]
noncomputable def ra(T:an)(M:List Bool)(n:Nat):db:=⟨n,oY T (fV T M n) n T.nodes.toNat,cO M (bN T n)⟩
section
variable {T:an} {M own:List Bool} {n d:Nat}
theorem xO(hf:bW T own=true)(a:Nat):bW T (pA T own n d a)=true:=by
 unfold pA;split
 ·exact uL _ _ _
 ·exact hf
theorem ET{l:List Int}(h:lx own l=none):∀a∈l,aQ own a.toNat=false:=fun a ha=>by
 have:=List.find?_eq_none.1 h a ha
 simpa using this
theorem xn{l:List Int}{a:Int}(h:lx own l=some a):a∈l∧aQ own a.toNat=true:=⟨List.mem_of_find?_eq_some h,by have:=List.find?_some (p:=fun a:Int=>aQ own a.toNat) h;exact this⟩
theorem Jh(hv:aq T=true)(h12:T.nodes≤12):gz T n d (np T own n d)=true:=by
 unfold np
 cases lx own (bI T [] n d)with
 |some b=>exact DQ _ _ _ _ h12
 |none=>
  unfold gz
  simp only[rO,Bool.true_and]
  by_cases hdn:d=n
  ·subst hdn;rw[jc];simp
  ·rw[decide_eq_false (by omega)];simp
theorem pc(hv:aq T=true)(h12:T.nodes≤12)(hn:(n:Int)<T.nodes):cQ T (ra T M n)=true:=by
 unfold cQ ra
 have h1:br T (n:Int)=true:=aT.2 ⟨by omega,hn⟩
 have hN:=(aO hv).nodes
 have h2:decide (((oY T (fV T M n) n T.nodes.toNat).length:Int)=T.nodes)=true:=decide_eq_true (by rw[rA];omega)
 have h3:eA T n (cO M (bN T n))=true:=mq T n _
 have h4:nf T n (oY T (fV T M n) n T.nodes.toNat)=true:=gT fun d e he=>by
  have hd:d<T.nodes.toNat:=by
   have:=(List.getElem?_eq_some_iff.1 he).1
   rwa [rA]at this
  rw[wa hd]at he
  cases he
  exact Jh hv h12
 rw[hv,h1,h2,h3,h4]
 rfl
theorem D4{D E:List Bool}(hv:aq T=true)(hn:(n:Int)<T.nodes)(hd:(d:Int)<T.nodes)(hE:∀a,a<2*T.ae.length→aQ D a=false→aQ E a=false)(h:0≤dN T D d n):0≤dN T E d n:=by
 have hsp:=eQ (D:=D) hv hd hn h
 have hch:Ch T E d n (cu T D n d):=by
  have:=hsp.ch
  generalize cu T D n d=p at this
  clear hsp h hn
  induction this with
  |nil=>exact .nil
  |cons ha ht hu hm ho hp ih=>exact .cons ha ht (hE _ ha hu) hm ho ih
 exact(hch.le hv hd).1
end
end
section
open Go.RowKit cE Mem Net
section
variable {T:an} {D:List Bool}
theorem iK.tail{n y m:Nat}{a:Int}{p:List Int}(h:iK T D n y (a::p))(hm:aS T a.toNat=(m:Int)):(p=[]∧m=y)∨iK T D m y p:=by
 have hsp:=h.sp
 cases hsp with
 | @cons n a m' p hnr hh hp=>
  rw[Int.toNat_natCast,hh]at hm
  have e:m'=m:=by omega
  subst e
  cases p with
  |nil=>cases hp;exact .inl ⟨rfl,rfl⟩
  |cons b p=>
   refine .inr ?_
   have hpt:=h.part (i:=1) (k:=p.length+1) (by omega) (by simp)
   have hb:∃b':Nat,b=(b':Int)∧bn T b'=(m':Int):=by
    cases hp with
    |cons hn2 _ _=>exact⟨_,rfl,hn2.tail⟩
   obtain⟨b',rfl,hbt⟩:=hb
   have hfin:=h.sp.ch.fin
   have hlast:aS T (((a:Int)::(b':Int)::p).getD (p.length+1) 0).toNat=(y:Int):=by
    rw[←hfin]
    have:=hJ T (n:Int) ((a:Int)::(b':Int)::p) (p.length+1) (by simp)
    rw[←this,List.take_of_length_le (by simp)]
   rw[hlast]at hpt
   have e1:bn T (((a:Int)::(b':Int)::p).getD 1 0).toNat=(m':Int):=hbt
   rw[e1]at hpt
   obtain⟨u,v,e3,e4,hs,_⟩:=Aa hpt
   have e5:m'=u:=by omega
   have e6:y=v:=by omega
   subst e5;subst e6
   have:=hs.sp.unique hs.valid hs.hy hp hs.lq
   rw[this]at hs
   exact hs
theorem iK.H9{E:List Bool}{n y:Nat}{p:List Int}(h:iK T D n y p)(hf:bW T E=true)(hE:∀a,aQ D a=false→aQ E a=false):iK T E n y p:=
 ⟨h.valid,hf,h.ne,h.hx,h.hy,h.uniq,h.sp,fun a ha=>hE _ (h.up a ha)⟩
inductive sL (T:an) (D:List Bool) (d:Nat):Nat→List bV→List Int→Prop
 |nil:sL T D d d [] []
 |node {n y:Nat} {p q:List Int} {l:List bV}:iK T D n y p→sL T D d y l q→sL T D d n (⟨1,(y:Int)⟩::l) (p++q)
 |fC {n a m:Nat} {q:List Int} {l:List bV}:a<2*T.ae.length→bn T a=(n:Int)→aQ D a=false→aS T a=(m:Int)→sL T D d m l q→sL T D d n (⟨2,(a:Int)⟩::l) ((a:Int)::q)
theorem sL.len{d n:Nat}{l:List bV}{q:List Int}(h:sL T D d n l q):l.length≤q.length:=by
 induction h with
 |nil=>exact Nat.le_refl _
 |node hs _ ih=>have:=hs.pos;simp only[List.length_cons,List.length_append];omega
 |fC _ _ _ _ _ ih=>simp only[List.length_cons];omega
theorem sL.skip{d n:Nat}{l:List bV}{q:List Int}(h:sL T D d n l q):eD ⟨1,(n:Int)⟩ l=l:=by
 cases h with
 |nil=>rfl
 |node hs _=>
  have hne:=hs.ne
  simp only[eD]
  rw[if_neg (fun e=>by cases e;exact hne rfl)]
 |fC _ _ _ _ _=>
  simp only[eD]
  rw[if_neg (fun e=>by cases e)]
theorem sL.end_{d n:Nat}{l:List bV}(h:sL T D d n l []):l=[]∧n=d:=by
 generalize hq:([]:List Int)=q at h
 cases h with
 |nil=>exact⟨rfl,rfl⟩
 |node hs _=>
  have:=hs.pos
  have h2:=congrArg List.length hq
  simp only[List.length_nil,List.length_append]at h2
  omega
 |fC _ _ _ _ _=>cases hq
structure GZ (T:an) (D:List Bool) (n:Nat) (x:db):Prop where
 ok:cQ T x=true
 node:x.node=(n:Int)
 down:∀a:Nat,(a:Int)∈x.down→aQ D a=true
 JL:∀(y:Nat) p,iK T D n y p→(da x (y:Int)).ay=[p.getD 0 0]∧((da x (y:Int)).rep=true→(da x (y:Int)).push=[⟨1,(y:Int)⟩])
theorem pN{n d:Nat}{x:db}(hx:GZ T D n x)(hd:(d:Int)<T.nodes){p:dw}(hp:p.dst=(d:Int))(hn:n=d)(hl:eD ⟨1,(n:Int)⟩ p.stack=[])(h32:p.stack.length≤32):(dE T x p).ay=[]∧(dE T x p).cW= -1:=by
 have hdb:br T p.dst=true:=aT.2 ⟨by omega,by omega⟩
 unfold dE
 rw[hx.ok,hdb,hx.node,hl,if_neg (by simp),if_neg (by omega)]
 unfold dr
 rw[if_pos (by rw[hp,hx.node,hn];simp)]
 exact⟨rfl,rfl⟩
theorem Ct{n d:Nat}{x:db}(hx:GZ T D n x)(hd:(d:Int)<T.nodes){p:dw}(hp:p.dst=(d:Int))(hh:p.dA=0){l:List bV}{a:Int}{q:List Int}(hl:eD ⟨1,(n:Int)⟩ p.stack=l)(h:sL T D d n l (a::q))(h32:p.stack.length≤32):
  ∃(m:Nat) (s:List bV),aS T a.toNat=(m:Int)∧0≤a∧a.toNat<2*T.ae.length∧bn T a.toNat=(n:Int)∧aQ D a.toNat=false∧dE T x p=cr p s [a]∧s.length≤p.stack.length∧sL T D d m (eD ⟨1,(m:Int)⟩ s) q:=by
 have hdb:br T p.dst=true:=aT.2 ⟨by omega,by omega⟩
 have hsl:=xl ⟨1,(n:Int)⟩ p.stack
 rw[hl]at hsl
 unfold dE
 rw[hx.ok,hdb,hx.node,hl,if_neg (by simp),if_neg (by omega)]
 generalize dr T x p [] (eo p 1)=K
 generalize hq:a::q=q0 at h
 cases h with
 |nil=>cases hq
 | @node n y pp q1 l1 hs hr=>
  obtain⟨p0,pt,rfl⟩:∃p0 pt,pp=p0::pt:=by
   cases pp with
   |nil=>exact absurd hs.pos (by simp)
   |cons p0 pt=>exact⟨p0,pt,rfl⟩
  simp only[List.cons_append,List.cons.injEq]at hq
  obtain⟨rfl,rfl⟩:=hq
  have hyb:br T (y:Int)=true:=aT.2 ⟨by omega,hs.hy⟩
  obtain⟨e1,e2⟩:=hx.JL y _ hs
  have ha:∃a' m:Nat,a=(a':Int)∧a'<2*T.ae.length∧bn T a'=(n:Int)∧aS T a'=(m:Int):=by
   have:=hs.sp
   cases this with
   |cons hnr hh _=>exact⟨_,_,rfl,hnr.fC,hnr.tail,hh⟩
  obtain⟨a',m,rfl,ha1,ha2,ha3⟩:=ha
  have hup:=hs.up (a':Int) (by simp)
  rw[Int.toNat_natCast]at hup ⊢
  have hskip:sL T D d m (eD ⟨1,(m:Int)⟩ (⟨1,(y:Int)⟩::l1)) (pt++q1):=by
   rcases hs.tail (m:=m) (by rw[Int.toNat_natCast];exact ha3)with⟨rfl,rfl⟩|ht
   ·simp only[eD,if_true,List.nil_append]
    rw[hr.skip]
    exact hr
   ·rw[(sL.node ht hr).skip]
    exact .node ht hr
  have hgo:dr T x p (⟨1,(y:Int)⟩::l1) K=cr p (⟨1,(y:Int)⟩::l1) [(a':Int)]:=by
   unfold dr
   rw[if_neg (by simp;intro h;omega),if_neg (by rw[hh];simp)]
   dsimp only
   rw[if_pos rfl]
   unfold CX
   rw[hyb,e1,if_pos (by simp)]
   unfold fq
   rw[e1]
   by_cases hrp:(da x (y:Int)).rep=true
   ·rw[if_pos hrp,e2 hrp]
    have hlen:([⟨1,(y:Int)⟩]++(⟨1,(y:Int)⟩::l1:List bV).drop 1)=(⟨1,(y:Int)⟩::l1:List bV):=rfl
    rw[hlen,if_neg (by omega)]
    rfl
   ·rw[if_neg hrp]
    rfl
  exact⟨m,_,ha3,by omega,ha1,ha2,hup,hgo,hsl,hskip⟩
 | @fC n a' m q1 l1 h1 h2 h3 h4 h5=>
  simp only[List.cons.injEq]at hq
  obtain⟨rfl,rfl⟩:=hq
  rw[Int.toNat_natCast]
  have hab:eM T (a':Int)=true:=cR.2 ⟨by omega,by omega⟩
  have hgo:dr T x p (⟨2,(a':Int)⟩::l1) K=cr p l1 [(a':Int)]:=by
   unfold dr
   rw[if_neg (by simp;intro h;omega),if_neg (by rw[hh];simp)]
   dsimp only
   rw[if_neg (by decide),if_pos rfl,hab,Int.toNat_natCast,h2,hx.node,if_neg (by simp),if_neg (fun hm=>by rw[hx.down a' hm]at h3;cases h3)]
  refine⟨m,l1,h4,by omega,h1,h2,h3,hgo,by simp only[List.length_cons]at hsl;omega,?_⟩
  rw[h5.skip]
  exact h5
theorem vg{n:Int}{p:List Int}{d:Nat}(hF:p9 T D n p)(hfin:cK T n p=(d:Int)):∀(f i u:Nat),p.length - i≤f→i≤p.length→cK T n (p.take i)=(u:Int)→sL T D d u (iE T [] n p f i) (p.drop i)
 |f,i,u,hf,hi,hu=>by
  by_cases hlt:i<p.length
  ·cases f with
   |zero=>omega
   |succ f=>
    have ha:=hF.ay
    cases ht:lz (fD T [] n p i) i p.length with
    |none=>
     rw[lG hlt (fun k h1 h2=>jL _ ht k h1 h2)]
     obtain⟨v,hv,_⟩:=cB hF.valid hF.node ha (i+1) (by omega)
     have h1:=hJ T n p i hlt
     rw[hv]at h1
     have h2:=oX hF hlt hu
     have hm:=cm (d:=0) hlt
     have h3:=cR.1 (ha _ hm)
     have h4:=hF.up _ hm
     have h5:=vg hF hfin f (i+1) v (by omega) (by omega) hv
     rw[drop_cons p i hlt]
     obtain⟨a,hae⟩:=Int.eq_ofNat_of_zero_le h3.1
     rw[hae]at h1 h2 h3 h4 ⊢
     rw[Int.toNat_natCast]at h1 h2 h4
     exact .fC (by omega) h2 h4 h1.symm h5
    |some j=>
     obtain⟨t1,t2,t3,t4⟩:=ob _ _ ht
     rw[kp hlt t1 t2 t3 t4]
     obtain⟨v,hv,_⟩:=cB hF.valid hF.node ha j t2
     have hc:=qZ hF t1 t2 hu hv
     rw[t3,Bool.and_eq_true]at hc
     obtain⟨h1,h2⟩:=hc
     obtain⟨a,b,e1,e2,hs,_⟩:=Aa h1
     have e1:u=a:=by omega
     have e2:v=b:=by omega
     subst e1;subst e2
     have e3:cu T [] u v=fh p i j:=of_decide_eq_true h2
     rw[e3]at hs
     have h5:=vg hF hfin f j v (by omega) t2 hv
     have e4:p.drop i=fh p i j++p.drop j:=by
      unfold fh
      have:=List.take_append_drop (j - i) (p.drop i)
      rw[List.drop_drop,show i+(j - i)=j by omega]at this
      exact this.symm
     rw[hv,e4]
     exact .node hs h5
  ·have e:i=p.length:=by omega
   subst e
   rw[List.take_length,hfin]at hu
   have e:d=u:=by omega
   subst e
   rw[ot _ _ (Nat.le_refl _),List.drop_length]
   exact .nil
theorem pz.KZ{n d:Nat}{p:List Int}(h:pz T D n d p):sL T D d n (iT T [] n p) p:=by
 have:=vg h.Im h.sp.ch.fin p.length 0 n (by omega) (by omega) (by simp[cK])
 exact this
theorem pz.enter{n d:Nat}{p:List Int}(h:pz T D n d p):∃(a m:Nat) (q:List Int),p=(a:Int)::q∧a<2*T.ae.length∧bn T a=(n:Int)∧aQ D a=false∧aS T a=(m:Int)∧sL T D d m (eD ⟨1,(m:Int)⟩ (jF (iT T [] n p))) q:=by
 have hl:=h.KZ
 have hpos:=h.pos
 generalize iT T [] n p=l at hl
 cases hl with
 |nil=>exact absurd hpos (by simp)
 | @node n y pp q1 l1 hs hr=>
  obtain⟨p0,pt,rfl⟩:∃p0 pt,pp=p0::pt:=by
   cases pp with
   |nil=>exact absurd hs.pos (by simp)
   |cons p0 pt=>exact⟨p0,pt,rfl⟩
  have ha:∃a' m:Nat,p0=(a':Int)∧a'<2*T.ae.length∧bn T a'=(n:Int)∧aS T a'=(m:Int):=by
   have:=hs.sp
   cases this with
   |cons hnr hh _=>exact⟨_,_,rfl,hnr.fC,hnr.tail,hh⟩
  obtain⟨a',m,rfl,ha1,ha2,ha3⟩:=ha
  have hup:=hs.up (a':Int) (by simp)
  rw[Int.toNat_natCast]at hup
  refine⟨a',m,pt++q1,rfl,ha1,ha2,hup,ha3,?_⟩
  have hcut:jF (⟨1,(y:Int)⟩::l1)=⟨1,(y:Int)⟩::l1:=by simp[jF]
  rw[hcut]
  rcases hs.tail (m:=m) (by rw[Int.toNat_natCast];exact ha3)with⟨rfl,rfl⟩|ht
  ·simp only[eD,if_true,List.nil_append]
   rw[hr.skip]
   exact hr
  ·rw[(sL.node ht hr).skip]
   exact .node ht hr
 | @fC n a' m q1 l1 h1 h2 h3 h4 h5=>
  refine⟨a',m,q1,rfl,h1,h2,h3,h4,?_⟩
  have hcut:jF (⟨2,(a':Int)⟩::l1)=l1:=by simp[jF]
  rw[hcut,h5.skip]
  exact h5
theorem tY{n d:Nat}{x:db}(hok:cQ T x=true)(hxn:x.node=(n:Int))(hd:(d:Int)<T.nodes)(hne:n≠d){p:dw}(hp:p.dst=(d:Int))(hh:p.dA=0)(hl:eD ⟨1,(n:Int)⟩ p.stack=[])(h32:p.stack.length≤32)(ha:0<(da x (d:Int)).ay.length)(hpl:(da x (d:Int)).push.length≤32):
  dE T x p=cr p (if(da x (d:Int)).rep then(da x (d:Int)).push else []) (da x (d:Int)).ay:=by
 have hdb:br T p.dst=true:=aT.2 ⟨by omega,by omega⟩
 unfold dE
 rw[hok,hdb,hxn,hl,if_neg (by simp),if_neg (by omega)]
 unfold dr
 have hdn:decide ((d:Int)=x.node)=false:=decide_eq_false (by rw[hxn];omega)
 rw[hp,hdn,if_neg (by simp),if_neg (by rw[hh];simp)]
 dsimp only
 unfold CX
 rw[←hp,hdb,hp,if_pos (by simp;omega)]
 unfold fq
 simp only[List.drop_nil,List.append_nil]
 by_cases hr:(da x (d:Int)).rep=true
 ·rw[if_pos hr,if_pos hr,if_neg (by omega)]
 ·rw[if_neg hr,if_neg hr]
end
end
end PW
end Go.Proofs.YtnegbdpggideiaaGreatDoor
namespace Go.Proofs.YtnegbdpggideiaaGreatDoor
namespace eX
section
open Go.RowKit Go.Shelf Net
attribute [local go_sem] Oper.semAt_some
end
end eX
end Go.Proofs.YtnegbdpggideiaaGreatDoor
namespace Go.Proofs.YtnegbdpggideiaaGreatDoor
namespace PW
section
open Go.RowKit cE Mem
inductive Up (k:Nat):PV→PV→Prop
 |pure {p:PV} [IsPure p]:Up k p p
 |own {i j:Nat}:j=k+i→Up k (.own i) (.own j)
 |ptr {i j o:Nat}:j=k+i→Up k (.ptr i o) (.ptr j o)
 |agg {xs ys:List PV} (hl:ys.length=xs.length) (hs:∀(j:Nat) x y,xs[j]? =some x→ys[j]? =some y→Up k x y):Up k (.agg xs) (.agg ys)
 |tuple {xs ys:List PV} (hl:ys.length=xs.length) (hs:∀(j:Nat) x y,xs[j]? =some x→ys[j]? =some y→Up k x y):Up k (.tuple xs) (.tuple ys)
 |func {f:FuncId} {xs ys:List PV} (hl:ys.length=xs.length) (hs:∀(j:Nat) x y,xs[j]? =some x→ys[j]? =some y→Up k x y):Up k (.func f xs) (.func f ys)
def lB(k:Nat)(xs ys:List PV):Prop:=ys.length=xs.length∧∀(j:Nat) x y,xs[j]? =some x→ys[j]? =some y→Up k x y
theorem lB.nil{k:Nat}:lB k [] []:=⟨rfl,fun j x y h=>by simp at h⟩
theorem lB.cons{k:Nat}{x y:PV}{xs ys:List PV}(h:Up k x y)(hs:lB k xs ys):lB k (x::xs) (y::ys):=⟨by simp[hs.1],fun j a b h1 h2=>by
 cases j with
 |zero=>simp at h1 h2;subst h1;subst h2;exact h
 |succ j=>exact hs.2 j a b (by simpa using h1) (by simpa using h2)⟩
theorem lB.pure{k:Nat}{xs:List PV}[h:aK xs]:lB k xs xs:=⟨rfl,fun j x y h1 h2=>by
 rw[h1]at h2;cases h2
 haveI:=h.out j x h1
 exact Up.pure⟩
theorem Up.gV{k:Nat}{xs ys:List PV}(h:lB k xs ys):Up k (.agg xs) (.agg ys):=.agg h.1 h.2
theorem Up.aX{k:Nat}{xs ys:List PV}(h:lB k xs ys):Up k (.tuple xs) (.tuple ys):=.tuple h.1 h.2
inductive IP (k:Nat):cJ→cJ→Prop
 |cells {ty:TypeId} {xs ys:List PV}:lB k xs ys→IP k (.cells ty xs) (.cells ty ys)
 |row {e s n:Nat} {xs ys:List PV}:lB k xs ys→IP k (.row e s n xs) (.row e s n ys)
 |mp {kv:List (Value×PV)} [aK (kv.map (·.2))]:IP k (.mp kv) (.mp kv)
def nv(k:Nat)(xs ys:List cJ):Prop:=ys.length=xs.length∧∀(j:Nat) x y,xs[j]? =some x→ys[j]? =some y→IP k x y
theorem nv.nil{k:Nat}:nv k [] []:=⟨rfl,fun j x y h=>by simp at h⟩
theorem nv.cons{k:Nat}{x y:cJ}{xs ys:List cJ}(h:IP k x y)(hs:nv k xs ys):nv k (x::xs) (y::ys):=⟨by simp[hs.1],fun j a b h1 h2=>by
 cases j with
 |zero=>simp at h1 h2;subst h1;subst h2;exact h
 |succ j=>exact hs.2 j a b (by simpa using h1) (by simpa using h2)⟩
section
variable {E E1 E2:Env} {w:World} {k:Nat}
theorem Up.rep(hat:∀i,i<E1.L→E2.at_ (k+i)=E1.at_ i∧k+i<E2.L)(hM:∀b,E2.M b→E1.M b){p q:PV}(h:Up k p q):∀v,cI E1 w v p→cI E2 w v q:=by
 induction h with
 | @pure p hp=>
  intro v h
  have:=hp.out E1 E2.M w v hM h
  exact this.goes (E:=EF E2.M) (E':=E2) (w:=w) (w':=w) ⟨Nat.zero_le _,fun i hi=>absurd hi (Nat.not_lt_zero i),fun _ _ h=>h,Nat.le_refl _,fun _ _ _=>rfl⟩
 | @own i j hij=>
  intro v h
  subst hij
  cases h with
  |own _ hi _ h hs=>exact .own _ (hat i hi).2 v ((hat i hi).1.trans h) hs
 | @ptr i j o hij=>
  intro v h
  subst hij
  cases h with
  |ptr _ _ b hi h=>exact .ptr _ o b (hat i hi).2 (by rw[(hat i hi).1];exact h)
 | @agg xs ys hl _ ih=>
  intro v h
  cases h with
  |agg cs _ hl' hr=>exact .agg cs ys (hl'.trans hl.symm) (fun j c u h1 h2=>by
    have hj:j<xs.length:=by rw[←hl];exact(List.getElem?_eq_some_iff.1 h2).1
    exact ih j xs[j] u (by simp[hj]) h2 c (hr j c _ h1 (by simp[hj])))
 | @tuple xs ys hl _ ih=>
  intro v h
  cases h with
  |tuple cs _ hl' hr=>exact .tuple cs ys (hl'.trans hl.symm) (fun j c u h1 h2=>by
    have hj:j<xs.length:=by rw[←hl];exact(List.getElem?_eq_some_iff.1 h2).1
    exact ih j xs[j] u (by simp[hj]) h2 c (hr j c _ h1 (by simp[hj])))
 | @func f xs ys hl _ ih=>
  intro v h
  cases h with
  |func _ cs _ hl' hr=>exact .func f cs ys (hl'.trans hl.symm) (fun j c u h1 h2=>by
    have hj:j<xs.length:=by rw[←hl];exact(List.getElem?_eq_some_iff.1 h2).1
    exact ih j xs[j] u (by simp[hj]) h2 c (hr j c _ h1 (by simp[hj])))
theorem lB.rep(hat:∀i,i<E1.L→E2.at_ (k+i)=E1.at_ i∧k+i<E2.L)(hM:∀b,E2.M b→E1.M b){xs ys:List PV}(h:lB k xs ys){cs:List Value}(hs:bd E1 w cs xs):bd E2 w cs ys:=⟨hs.1.trans h.1.symm,fun j c u h1 h2=>by
 have hj:j<xs.length:=by rw[←h.1];exact(List.getElem?_eq_some_iff.1 h2).1
 exact(h.2 j xs[j] u (by simp[hj]) h2).rep hat hM c (hs.2 j c _ h1 (by simp[hj]))⟩
theorem IP.sat{base base':Nat}(hb:base'≤base)(hat:∀i,i<E1.L→E2.at_ (k+i)=E1.at_ i∧k+i<E2.L)(hM:∀b,E2.M b→E1.M b){v:Value}{x y:cJ}(h:IP k x y)(hs:gL base E1 w v x):gL base' E2 w v y:=by
 cases h with
 |cells h1=>
  obtain⟨b,cs,h2,h3,h4,h5⟩:=hs
  exact⟨b,cs,h2,by omega,h4,h1.rep hat hM h5⟩
 |row h1=>
  obtain⟨cs,h2,h3⟩:=hs
  refine⟨cs,⟨h2.1,?_⟩,h1.rep hat hM h3⟩
  rcases h2.2 with h|⟨g,cap,cur,a1,a2,a3⟩
  ·exact .inl h
  ·exact .inr ⟨g,cap,cur,a1,by omega,a3⟩
 | @mp kv hp=>
  obtain⟨r,es,ck,h2,h3,h4,h5,h6⟩:=hs
  exact⟨r,es,ck,h2,by omega,h4,h5,lB.pure (k:=k).rep hat hM h6⟩
end
theorem bU.frame{P:Program}{f:FuncId}{ps:List PV}{σ:cg}{R:PV→cg→Prop}[aK ps]
  (h:bU P f ps [] (fun r σ1=>∃bs,σ1=bs.map some∧∃r' bs',Up σ.length r r'∧nv σ.length bs bs'∧R r' (σ++bs'.map some))):bU P f ps σ R:=fun F base E w vs hS hR=>by
 refine(h E.M w.heap.size (EF E.M) w vs (Sat.start E.M w (fun b hb=>hS.lt hb) hS.gl) (hR.pure (fun _ h=>h))).mono ?_
 rintro e w' ⟨v,r,σ1,E1,rfl,⟨bs,rfl,r',bs',hu,hbu,hRr⟩,hS1,hg1,hB1,hv⟩
 have hE:Ext w w':=hB1
 have hL1:E1.L=bs.length:=by rw[hS1.len];simp
 have hlen:((List.range bs.length).map E1.at_).length=bs'.length:=by rw[List.length_map,List.length_range,hbu.1]
 have hget:∀(i:Nat) v,((List.range bs.length).map E1.at_)[i]? =some v→i<bs.length∧v=E1.at_ i:=fun i v hi=>by
  have hi':i<bs.length:=by have:=(List.getElem?_eq_some_iff.1 hi).1;simpa using this
  rw[List.getElem?_map,List.getElem?_range hi']at hi
  cases hi
  exact⟨hi',rfl⟩
 have hbk:∀i,i<bs.length→∃x,bs[i]? =some x∧(bs.map some)[i]? =some (some x):=fun i hi=>⟨bs[i],by simp[hi],by simp[hi]⟩
 have hat:∀i,i<E1.L→(E.eF ((List.range bs.length).map E1.at_)).at_ (σ.length+i)=E1.at_ i∧σ.length+i<(E.eF ((List.range bs.length).map E1.at_)).L:=fun i hi=>by
  rw[hL1]at hi
  refine⟨?_,?_⟩
  ·simp only[Env.eF,hS.len]
   rw[if_neg (by omega),Nat.add_sub_cancel_left,List.getD_eq_getElem?_getD,List.getElem?_map,List.getElem?_range hi]
   rfl
  ·simp only[Env.eF,hS.len,List.length_map,List.length_range];omega
 have hM:∀b,(E.eF ((List.range bs.length).map E1.at_)).M b→E1.M b:=fun b hb=>by
  rcases hb with hb|⟨v,hv1,hv2⟩
  ·exact(hS1.mm b).2 (.inl hb)
  ·obtain⟨i,hi⟩:=List.getElem?_of_mem hv1
   obtain⟨hi1,rfl⟩:=hget i v hi
   obtain⟨x,_,hx⟩:=hbk i hi1
   exact(hS1.mm b).2 (.inr ⟨i,x,hx,hv2⟩)
 have hp:=hS.eF hE ((List.range bs.length).map E1.at_) bs' hlen
  (fun v hv1 b hb=>by
   obtain⟨i,hi⟩:=List.getElem?_of_mem hv1
   obtain⟨hi1,rfl⟩:=hget i v hi
   obtain⟨x,_,hx⟩:=hbk i hi1
   exact((hS1.blk i x hx).lt hb).1)
  (fun i j u v b hi hj hu hv=>by
   obtain⟨hi1,rfl⟩:=hget i u hi
   obtain⟨hj1,rfl⟩:=hget j v hj
   obtain⟨x,_,hx⟩:=hbk i hi1
   obtain⟨y,_,hy⟩:=hbk j hj1
   exact hS1.inj i j x y b hx hy hu hv)
  (fun i v blk hi hb=>by
   obtain⟨hi1,rfl⟩:=hget i v hi
   obtain⟨x,hx0,hx⟩:=hbk i hi1
   exact(hbu.2 i x blk hx0 hb).sat hS.bl hat hM (hS1.blk i x hx))
 exact⟨v,r',_,_,rfl,hRr,hp.1,hp.2,Below.iS hE hS.bl,hu.rep hat hM v hv⟩
open Net
theorem qW(T:an)(D:List Bool)(n:Int):Can Tryz.prog 53 [aN T,bg D,num n] (· = .tuple [fr (jO T D n),num (cD T D [n])]):=by
 refine aG Tryz.func53 I Tryz.ntmps53 I<|aM<|au 3 I<|aE [1,2,3,6] I ?_
 refine aj ?_
 obtain⟨q1,hq1⟩:∃q,aq T=q:=⟨_,rfl⟩
 obtain⟨q2,hq2⟩:∃q,bW T D=q:=⟨_,rfl⟩
 refine bz 22 (.raw (.bool ((!q1)||(!q2)))) [1,2,3,6] I ?_ ?_
 ·refine .a 1 I<|.c rfl (hq1▸eI T) I<|.a 2 I<|?_
  cases q1
  ·exact .a 5 I<|.k [22,1,2,3,6] I
  ·exact .a 2 I<|.c rfl (hq2▸mc T D (by have:=bR hq1;omega)) I<|.a 2 I<|.k [22,1,2,3,6] I
 refine ag I (fun hc=>?_) (fun hc=>?_)
 ·have hch:cD T D [n]=1:=by
   unfold cD
   rw[hq1,hq2,if_neg]
   revert hc
   cases q1<;>cases q2<;>simp
  refine aM<|au 3 I<|aE [6,7] I ?_
  exact ao<|⟨_,_,az.of I,ax.aX (ah.cons (ax.gV (ah.cons ax.pure<|ah.cons ax.bQ<|ah.cons ax.bQ ah.nil)) (ah.cons ax.pure ah.nil)),by unfold jO;rw[hch];rfl⟩
 ·have hok:(aq T&&bW T D)=true:=by
   rw[hq1,hq2]
   revert hc
   cases q1<;>cases q2<;>simp
  clear hc hq1 hq2
  refine ai<|aj<|ab (.a 2 I<|.c rfl (dF T n) I<|.a 1 I<|.k [1,2,3,6,27] I)<|ag I (fun hc=>?_) (fun hc=>?_)
  ·have hn:br T n=false:=by revert hc;cases br T n<;>simp
   have hch:cD T D [n]=2:=by
    unfold cD
    rw[if_pos hok,if_neg]
    simp[hn]
   refine aM<|au 3 I<|aE [6,7] I ?_
   exact ao<|⟨_,_,az.of I,ax.aX (ah.cons (ax.gV (ah.cons ax.pure<|ah.cons ax.bQ<|ah.cons ax.bQ ah.nil)) (ah.cons ax.pure ah.nil)),by unfold jO;rw[hch];rfl⟩
  ·have hn:br T n=true:=by revert hc;cases br T n<;>simp
   have hch:cD T D [n]=0:=by
    unfold cD
    rw[if_pos hok,if_pos]
    simp[hn]
   obtain⟨hv,hf⟩:=Bool.and_eq_true_iff.1 hok
   rw[aT]at hn
   obtain⟨m,rfl⟩:=Int.eq_ofNat_of_zero_le hn.1
   obtain⟨N,hN⟩:∃N:Nat,T.nodes=(N:Int):=⟨T.nodes.toNat,by omega⟩
   have hN64:N≤64:=by have:=(aO hv).nodes;omega
   have hll:=bR hv
   refine ai<|aM<|au 4 I<|aE [1,2,3,6,8] I ?_
   refine ct 1 1 76 3 I I ?_
   refine ct 1 2 3 1 I I ?_
   refine aj<|ab (.a 1 I<|.v (aJ I ((show some (num T.nodes)=some (num (N:Int)) by rw[hN]))) I<|.a 1 I<|.k [1,2,3,6,8,32,33] I)<|av<|eR [1,2,3,6,8,32,33] I<|bu (fun r s=>∃j,j≤N∧r=N - j∧s=⟨[(1,bg D),(2,num m),(3,.ba (bC T) 0),(6,.ptr 0 0),(8,.ptr 1 0),(32,num N),(33,num j)],[some (.cells 56 [num 0,.raw (.slice none 0 0),.raw (.slice none 0 0)]),some (.cells 56 [num m,.own 2,.own 3]),some (.row 76 3 j (dT (oI T D m j))),some (.row 3 1 0 [])]⟩) N ⟨0,by omega,by omega,rfl⟩ ?_
   rintro r s ⟨j,hj,rfl,rfl⟩
   refine ab (.a 1 I<|.k [1,2,3,6,8,32,33,34] I)<|aj<|ag I (fun hc=>?_) (fun hc=>?_)
   ·have hlt:j<N:=by have:=of_decide_eq_true hc;omega
    have hne:cq T D (m:Int) (j:Int)=0:=by
     have hnb:br T (j:Int)=true:=aT.2 ⟨by omega,by omega⟩
     have hch':cD T D [(j:Int)]=0:=by
      unfold cD
      rw[if_pos hok,if_pos]
      simp[hnb]
     unfold cq
     rw[if_pos hch',if_pos (aT.2 hn)]
    have hnx:Can Tryz.prog 109 [aN T,bg D,num m,num j] (· = .tuple [aw (bI T D m j),num 0]):=by
     have h:=sz T D (m:Int) (j:Int)
     rw[hne]at h
     exact h
    refine ai<|aj<|av<|ab (.a 2 I<|.k [1,2,3,6,8,9,32,33] I)<|ab (.a 4 I<|.c rfl (hnx) I<|.a 5 I<|.k [1,2,3,6,8,10,32,33] I)<|bH<|au 3 I<|bx (FN (iY (xs:=[_,_,_]) I (aZ.st.get I) I I) (kV.gV (.cons (kV.refl _)<|.cons (kV.refl _)<|.cons kV.bQ .nil))) I<|au 1 I<|b9 (bp I (aZ.rk.get I) I I I I (by unfold maxLen;omega)) I<|au 2 I ?_
    refine eP [0,1,4,3] (.c 1<|.c 2<|.c 3<|.c 6<|.c 8<|.c 32<|.c 33<|.nil) (.kept rfl (.cells (aH.c<|aH.c<|aH.c<|aH.nil))<|.kept rfl (.cells (aH.c<|aH.c<|aH.c<|aH.nil))<|.kept rfl (.fG rfl (show _=dT (oI T D m (j+1)) by rw[xk];exact nh _ ⟨bI T D m j,false,[]⟩))<|.kept rfl (.row aH.pure)<|.nil) I I (bm ?_)
    refine aB (.v (aU I) I<|.a 1 I<|.k [1,2,3,6,8,32,33] I) ?_
    exact⟨N - (j+1),by omega,j+1,by omega,rfl,rfl⟩
   ·have hje:j=N:=by have:=of_decide_eq_false hc;omega
    subst hje
    refine bf<|aj ?_
    have hol:(bN T m).length≤512:=Nat.le_trans (eG T m _) (by omega)
    refine ab (.a 2 I<|.c rfl (oG T hll _) I<|.a 2 I<|.k [1,6,8,54,55,56] I)<|av<|eR [1,6,8,54,55,56] I<|bu (fun r s=>∃i,i≤(bN T m).length∧r=(bN T m).length - i∧s=⟨[(1,bg D),(6,.ptr 0 0),(8,.ptr 1 0),(54,aw (bN T m)),(55,num (bN T m).length),(56,num i)],[some (.cells 56 [num 0,.raw (.slice none 0 0),.raw (.slice none 0 0)]),some (.cells 56 [num m,.own 2,.own 3]),some (.row 76 3 j (dT (oI T D m j))),some (.row 3 1 (cO D ((bN T m).take i)).length (aL (cO D ((bN T m).take i))))]⟩) (bN T m).length ⟨0,by omega,by omega,rfl⟩ ?_
    rintro r s ⟨i,hi,rfl,rfl⟩
    refine ab (.a 1 I<|.k [1,6,8,54,55,56,57] I)<|aj<|ag I (fun hc=>?_) (fun hc=>?_)
    ·have hlt:i<(bN T m).length:=by have:=of_decide_eq_true hc;omega
     obtain⟨h0,h1⟩:=jX (cm (d:=0) hlt)
     obtain⟨a,ha⟩:=Int.eq_ofNat_of_zero_le h0
     have hDl:D.length=0∨a<D.length:=by simp only[bW,decide_eq_true_eq]at hf;omega
     have hstep:cO D ((bN T m).take (i+1))=cO D ((bN T m).take i)++(if aQ D a then [(a:Int)] else []):=by
      unfold cO
      rw[dI _ i 0 hlt,List.filter_append,ha]
      simp only[List.filter_cons,List.filter_nil,Int.toNat_natCast]
     have hdl:(cO D ((bN T m).take i)).length≤1000:=Nat.le_trans (List.length_filter_le _ _) (by rw[List.length_take];have:=eG T m (2*T.ae.length);unfold bN at*;omega)
     refine ai<|aj<|av<|ab (.v (aP (i) I) I<|.v (aJ I ((aC _ i hlt).trans (by rw[ha]))) I<|.a 1 I<|.k [1,6,8,13,54,55,56] I)<|ab (.a 2 I<|.c rfl (jA D a hDl) I<|.k [1,6,8,13,54,55,56,62] I)<|ag I (fun hcd=>?_) (fun hcd=>?_)
     ·rw[hcd,if_pos rfl]at hstep
      refine bH<|au 4 I<|b9 (bp I (aZ.rk.get I) I I I I (by unfold maxLen;omega)) I<|au 2 I ?_
      refine eP [0,1,2,4] (.c 1<|.c 6<|.c 8<|.c 54<|.c 55<|.c 56<|.nil) (.kept rfl (.cells (aH.c<|aH.c<|aH.c<|aH.nil))<|.kept rfl (.cells (aH.c<|aH.c<|aH.c<|aH.nil))<|.kept rfl (.row aH.pure)<|.kept rfl (.fG rfl (dy _ _))<|.nil) I I (bm ?_)
      refine aB (.v (aU I) I<|.a 1 I<|.k [1,6,8,54,55,56] I) ?_
      refine⟨(bN T m).length - (i+1),by omega,i+1,by omega,rfl,?_⟩
      rw[hstep]
      first
       |rfl
       |(simp only[List.length_append,List.length_singleton];rfl)
     ·rw[hcd,if_neg (by simp),List.append_nil]at hstep
      refine ai<|aB (.v (aU I) I<|.a 1 I<|.k [1,6,8,54,55,56] I) ?_
      refine⟨(bN T m).length - (i+1),by omega,i+1,by omega,rfl,?_⟩
      rw[hstep]
      first
       |rfl
       |(simp only[List.length_append,List.length_singleton];rfl)
    ·have hie:i=(bN T m).length:=by have:=of_decide_eq_false hc;omega
     subst hie
     refine bf<|aM<|bx (fe (ys:=[num m,.own 2,.own 3]) I (aZ.tk.get I) I I I I) I<|au 2 I<|aE [6,7] I ?_
     refine ao<|⟨_,_,az.of I,ax.aX (ah.cons (ax.gV (ah.cons ax.pure<|ah.cons (ax.fB rfl ah.pure)<|ah.cons (ax.fB rfl ah.pure) ah.nil)) (ah.cons ax.pure ah.nil)),?_⟩
     unfold jO
     rw[hch,if_pos rfl,List.take_length]
     unfold dR fr eK iD aw
     rw[uA,show T.nodes.toNat=j by omega]
     rfl
open eX
theorem wO(T:an)(D:List Bool)(n:Int)(hch0:cD T D [n]=0):bU Tryz.prog 53 [aN T,bg D,num n] [] (fun r σ'=>r= .tuple [.agg [num n,.own 2,.own 3],num 0]∧σ'=[some (.cells 56 [num n,.own 2,.own 3]),some (.cells 56 [num n,.own 2,.own 3]),some (.row 76 3 T.nodes.toNat (dT (oI T D n.toNat T.nodes.toNat))),some (.row 3 1 (cO D (bN T n)).length (aL (cO D (bN T n))))]):=by
 refine cp Tryz.func53 I Tryz.ntmps53 I<|aM<|au 3 I<|aE [1,2,3,6] I ?_
 refine aj ?_
 obtain⟨q1,hq1⟩:∃q,aq T=q:=⟨_,rfl⟩
 obtain⟨q2,hq2⟩:∃q,bW T D=q:=⟨_,rfl⟩
 refine bz 22 (.raw (.bool ((!q1)||(!q2)))) [1,2,3,6] I ?_ ?_
 ·refine .a 1 I<|.c rfl (hq1▸eI T) I<|.a 2 I<|?_
  cases q1
  ·exact .a 5 I<|.k [22,1,2,3,6] I
  ·exact .a 2 I<|.c rfl (hq2▸mc T D (by have:=bR hq1;omega)) I<|.a 2 I<|.k [22,1,2,3,6] I
 refine ag I (fun hc=>?_) (fun hc=>?_)
 ·have hch:cD T D [n]=1:=by
   unfold cD
   rw[hq1,hq2,if_neg]
   revert hc
   cases q1<;>cases q2<;>simp
  exact absurd hch0 (by rw[hch];decide)
 ·have hok:(aq T&&bW T D)=true:=by
   rw[hq1,hq2]
   revert hc
   cases q1<;>cases q2<;>simp
  clear hc hq1 hq2
  refine ai<|aj<|ab (.a 2 I<|.c rfl (dF T n) I<|.a 1 I<|.k [1,2,3,6,27] I)<|ag I (fun hc=>?_) (fun hc=>?_)
  ·have hn:br T n=false:=by revert hc;cases br T n<;>simp
   have hch:cD T D [n]=2:=by
    unfold cD
    rw[if_pos hok,if_neg]
    simp[hn]
   exact absurd hch0 (by rw[hch];decide)
  ·have hn:br T n=true:=by revert hc;cases br T n<;>simp
   have hch:cD T D [n]=0:=by
    unfold cD
    rw[if_pos hok,if_pos]
    simp[hn]
   obtain⟨hv,hf⟩:=Bool.and_eq_true_iff.1 hok
   rw[aT]at hn
   obtain⟨m,rfl⟩:=Int.eq_ofNat_of_zero_le hn.1
   obtain⟨N,hN⟩:∃N:Nat,T.nodes=(N:Int):=⟨T.nodes.toNat,by omega⟩
   have hN64:N≤64:=by have:=(aO hv).nodes;omega
   have hll:=bR hv
   refine ai<|aM<|au 4 I<|aE [1,2,3,6,8] I ?_
   refine ct 1 1 76 3 I I ?_
   refine ct 1 2 3 1 I I ?_
   refine aj<|ab (.a 1 I<|.v (aJ I ((show some (num T.nodes)=some (num (N:Int)) by rw[hN]))) I<|.a 1 I<|.k [1,2,3,6,8,32,33] I)<|av<|eR [1,2,3,6,8,32,33] I<|bu (fun r s=>∃j,j≤N∧r=N - j∧s=⟨[(1,bg D),(2,num m),(3,.ba (bC T) 0),(6,.ptr 0 0),(8,.ptr 1 0),(32,num N),(33,num j)],[some (.cells 56 [num 0,.raw (.slice none 0 0),.raw (.slice none 0 0)]),some (.cells 56 [num m,.own 2,.own 3]),some (.row 76 3 j (dT (oI T D m j))),some (.row 3 1 0 [])]⟩) N ⟨0,by omega,by omega,rfl⟩ ?_
   rintro r s ⟨j,hj,rfl,rfl⟩
   refine ab (.a 1 I<|.k [1,2,3,6,8,32,33,34] I)<|aj<|ag I (fun hc=>?_) (fun hc=>?_)
   ·have hlt:j<N:=by have:=of_decide_eq_true hc;omega
    have hne:cq T D (m:Int) (j:Int)=0:=by
     have hnb:br T (j:Int)=true:=aT.2 ⟨by omega,by omega⟩
     have hch':cD T D [(j:Int)]=0:=by
      unfold cD
      rw[if_pos hok,if_pos]
      simp[hnb]
     unfold cq
     rw[if_pos hch',if_pos (aT.2 hn)]
    have hnx:Can Tryz.prog 109 [aN T,bg D,num m,num j] (· = .tuple [aw (bI T D m j),num 0]):=by
     have h:=sz T D (m:Int) (j:Int)
     rw[hne]at h
     exact h
    refine ai<|aj<|av<|ab (.a 2 I<|.k [1,2,3,6,8,9,32,33] I)<|ab (.a 4 I<|.c rfl (hnx) I<|.a 5 I<|.k [1,2,3,6,8,10,32,33] I)<|bH<|au 3 I<|bx (FN (iY (xs:=[_,_,_]) I (aZ.st.get I) I I) (kV.gV (.cons (kV.refl _)<|.cons (kV.refl _)<|.cons kV.bQ .nil))) I<|au 1 I<|b9 (bp I (aZ.rk.get I) I I I I (by unfold maxLen;omega)) I<|au 2 I ?_
    refine eP [0,1,4,3] (.c 1<|.c 2<|.c 3<|.c 6<|.c 8<|.c 32<|.c 33<|.nil) (.kept rfl (.cells (aH.c<|aH.c<|aH.c<|aH.nil))<|.kept rfl (.cells (aH.c<|aH.c<|aH.c<|aH.nil))<|.kept rfl (.fG rfl (show _=dT (oI T D m (j+1)) by rw[xk];exact nh _ ⟨bI T D m j,false,[]⟩))<|.kept rfl (.row aH.pure)<|.nil) I I (bm ?_)
    refine aB (.v (aU I) I<|.a 1 I<|.k [1,2,3,6,8,32,33] I) ?_
    exact⟨N - (j+1),by omega,j+1,by omega,rfl,rfl⟩
   ·have hje:j=N:=by have:=of_decide_eq_false hc;omega
    subst hje
    refine bf<|aj ?_
    have hol:(bN T m).length≤512:=Nat.le_trans (eG T m _) (by omega)
    refine ab (.a 2 I<|.c rfl (oG T hll _) I<|.a 2 I<|.k [1,6,8,54,55,56] I)<|av<|eR [1,6,8,54,55,56] I<|bu (fun r s=>∃i,i≤(bN T m).length∧r=(bN T m).length - i∧s=⟨[(1,bg D),(6,.ptr 0 0),(8,.ptr 1 0),(54,aw (bN T m)),(55,num (bN T m).length),(56,num i)],[some (.cells 56 [num 0,.raw (.slice none 0 0),.raw (.slice none 0 0)]),some (.cells 56 [num m,.own 2,.own 3]),some (.row 76 3 j (dT (oI T D m j))),some (.row 3 1 (cO D ((bN T m).take i)).length (aL (cO D ((bN T m).take i))))]⟩) (bN T m).length ⟨0,by omega,by omega,rfl⟩ ?_
    rintro r s ⟨i,hi,rfl,rfl⟩
    refine ab (.a 1 I<|.k [1,6,8,54,55,56,57] I)<|aj<|ag I (fun hc=>?_) (fun hc=>?_)
    ·have hlt:i<(bN T m).length:=by have:=of_decide_eq_true hc;omega
     obtain⟨h0,h1⟩:=jX (cm (d:=0) hlt)
     obtain⟨a,ha⟩:=Int.eq_ofNat_of_zero_le h0
     have hDl:D.length=0∨a<D.length:=by simp only[bW,decide_eq_true_eq]at hf;omega
     have hstep:cO D ((bN T m).take (i+1))=cO D ((bN T m).take i)++(if aQ D a then [(a:Int)] else []):=by
      unfold cO
      rw[dI _ i 0 hlt,List.filter_append,ha]
      simp only[List.filter_cons,List.filter_nil,Int.toNat_natCast]
     have hdl:(cO D ((bN T m).take i)).length≤1000:=Nat.le_trans (List.length_filter_le _ _) (by rw[List.length_take];have:=eG T m (2*T.ae.length);unfold bN at*;omega)
     refine ai<|aj<|av<|ab (.v (aP (i) I) I<|.v (aJ I ((aC _ i hlt).trans (by rw[ha]))) I<|.a 1 I<|.k [1,6,8,13,54,55,56] I)<|ab (.a 2 I<|.c rfl (jA D a hDl) I<|.k [1,6,8,13,54,55,56,62] I)<|ag I (fun hcd=>?_) (fun hcd=>?_)
     ·rw[hcd,if_pos rfl]at hstep
      refine bH<|au 4 I<|b9 (bp I (aZ.rk.get I) I I I I (by unfold maxLen;omega)) I<|au 2 I ?_
      refine eP [0,1,2,4] (.c 1<|.c 6<|.c 8<|.c 54<|.c 55<|.c 56<|.nil) (.kept rfl (.cells (aH.c<|aH.c<|aH.c<|aH.nil))<|.kept rfl (.cells (aH.c<|aH.c<|aH.c<|aH.nil))<|.kept rfl (.row aH.pure)<|.kept rfl (.fG rfl (dy _ _))<|.nil) I I (bm ?_)
      refine aB (.v (aU I) I<|.a 1 I<|.k [1,6,8,54,55,56] I) ?_
      refine⟨(bN T m).length - (i+1),by omega,i+1,by omega,rfl,?_⟩
      rw[hstep]
      first
       |rfl
       |(simp only[List.length_append,List.length_singleton];rfl)
     ·rw[hcd,if_neg (by simp),List.append_nil]at hstep
      refine ai<|aB (.v (aU I) I<|.a 1 I<|.k [1,6,8,54,55,56] I) ?_
      refine⟨(bN T m).length - (i+1),by omega,i+1,by omega,rfl,?_⟩
      rw[hstep]
      first
       |rfl
       |(simp only[List.length_append,List.length_singleton];rfl)
    ·have hie:i=(bN T m).length:=by have:=of_decide_eq_false hc;omega
     subst hie
     refine bf<|aM<|bx (fe (ys:=[num m,.own 2,.own 3]) I (aZ.tk.get I) I I I I) I<|au 2 I<|aE [6,7] I ?_
     refine ao<|⟨_,az.of I,rfl,?_⟩
     have hjN:T.nodes.toNat=j:=by omega
     rw[List.take_length,Int.toNat_natCast,hjN]
     rfl
def jQ(e:Int)(x:db):PV:=.tuple [fr (if e=0 then x else⟨0,[],[]⟩),num e]
theorem pq{T:an}{D:List Bool}{n d:Int}(hv:aq T=true)(hf:bW T D=true)(hn:br T n=true)(hd:br T d=true):cq T D n d=0:=by
 unfold cq cD
 rw[hv,hf,hn]
 simp[hd]
def jB(M:List Bool)(T:an)(n:Int)(k:Nat):List Int:=((List.range k).filter fun a=>aQ M a&&decide (bn T a=n)).map Int.ofNat
def gR(T:an)(M:List Bool)(n:Int)(k:Nat):List Bool:=(List.range (2*T.ae.length)).map fun a=>decide (a<k)&&(aQ M a&&decide (bn T a=n))
theorem HZ(M:List Bool)(T:an)(n:Int):jB M T n (2*T.ae.length)=cO M (bN T n):=by
 unfold jB cO bN iP
 rw[List.filter_map,List.filter_filter]
 congr 1
theorem Gr(M:List Bool)(T:an)(n:Int)(k:Nat):(jB M T n k).length≤k:=by
 unfold jB
 rw[List.length_map]
 exact Nat.le_trans (List.length_filter_le _ _) (by simp)
theorem G7{M:List Bool}{T:an}{n:Int}{k:Nat}(h:(aQ M k&&decide (bn T k=n))=true):jB M T n (k+1)=jB M T n k++[(k:Int)]:=by
 simp only[jB,List.range_succ,List.filter_append,List.map_append]
 rw[List.filter_cons_of_pos (by simpa using h)]
 rfl
theorem Ja{M:List Bool}{T:an}{n:Int}{k:Nat}(h:(aQ M k&&decide (bn T k=n))=false):jB M T n (k+1)=jB M T n k:=by
 simp only[jB,List.range_succ,List.filter_append,List.map_append]
 rw[List.filter_cons_of_neg (by simpa using h)]
 simp
theorem BE(T:an)(M:List Bool)(n:Int)(k:Nat):(gR T M n k).length=2*T.ae.length:=by simp[gR]
theorem zL(T:an)(M:List Bool)(n:Int):gR T M n 0=List.replicate (2*T.ae.length) false:=by
 unfold gR
 apply List.ext_getElem (by simp)
 intro i h1 h2
 simp
theorem BJ{T:an}{M:List Bool}{n:Int}{k:Nat}(h:(aQ M k&&decide (bn T k=n))=true):(gR T M n k).set k true=gR T M n (k+1):=by
 apply List.ext_getElem (by simp[gR])
 intro i h1 h2
 rw[List.getElem_set]
 by_cases e:k=i
 ·subst e
  simp only[gR,List.getElem_map,List.getElem_range,if_true]
  rw[h,decide_eq_true (by omega)];rfl
 ·rw[if_neg e]
  simp only[gR,List.getElem_map,List.getElem_range]
  rw[show decide (i<k+1)=decide (i<k) from decide_eq_decide.2 (by omega)]
theorem FE{T:an}{M:List Bool}{n:Int}{k:Nat}(h:(aQ M k&&decide (bn T k=n))=false):gR T M n (k+1)=gR T M n k:=by
 unfold gR
 refine List.map_congr_left fun a _=>?_
 by_cases e:a=k
 ·subst e;rw[h];simp
 ·rw[show decide (a<k+1)=decide (a<k) from decide_eq_decide.2 (by omega)]
theorem Bz(T:an)(M:List Bool)(n:Int):gR T M n (2*T.ae.length)=fV T M n:=by
 unfold gR fV
 refine List.map_congr_left fun a ha=>?_
 rw[decide_eq_true (List.mem_range.1 ha),Bool.true_and]
theorem fk{M:List Bool}{a:Nat}:M.getD a false=aQ M a:=by
 unfold aQ
 by_cases h:M.length=0
 ·have:M=[]:=List.eq_nil_of_length_eq_zero h
  subst this;simp
 ·first
   |rfl
   |simp[h]
theorem A9(T:an)(k x n:Int)(hm:(aq T&&cd T k x)=true):Can Tryz.prog 95 [aN T,bY k x,num n] (· = .tuple [aw (cO (aI T k x) (bN T n)),bg (fV T (aI T k x) n)]):=by
 obtain⟨hv,hc⟩:=Bool.and_eq_true_iff.1 hm
 have hll:=bR hv
 have hmk:=mE T k x
 unfold iG dY at hmk
 rw[if_pos hm,if_pos rfl]at hmk
 obtain⟨M,hM⟩:∃M,aI T k x=M:=⟨_,rfl⟩
 have hMl:M.length=2*T.ae.length:=by rw[←hM];exact fm T k x
 rw[hM]at hmk ⊢
 refine aG Tryz.func95 I Tryz.ntmps95 I<|ab (.a 4 I<|.k [2,3,4] I)<|ab (.a 2 I<|.c rfl (hmk) I<|.a 5 I<|.k [2,3,8] I)<|aM<|au 2 I<|b9 (dS I (aZ.rk.get I) I I (show(M.length:Int)=((2*T.ae.length:Nat):Int) by omega) (show(M.length:Int)=((2*T.ae.length:Nat):Int) by omega) ⟨by unfold maxLen;omega,by omega⟩) I<|au 1 I<|aE [2,3,8,10] I ?_
 refine ab (.a 1 I<|.k [2,3,8,10,11] I)<|ia 11 3 1 I ?_
 refine eE (σ':=[some (.row 4 1 (2*T.ae.length) (bX (gR T M n 0))),some (.row 3 1 0 [])]) (by rw[zL,←ik];rfl) ?_
 refine aj<|ab (.a 1 I<|.k [2,3,8,10,11,12] I)<|av<|eR [2,3,8,10,11,12] I<|bu (fun r st=>∃a:Nat,a≤2*T.ae.length∧r=2*T.ae.length - a∧st=⟨[(2,num n),(3,.ba (bC T) 0),(8,bg M),(10,.own 0),(11,.own 1),(12,num a)],[some (.row 4 1 (2*T.ae.length) (bX (gR T M n a))),some (.row 3 1 (jB M T n a).length (aL (jB M T n a)))]⟩) (2*T.ae.length) ⟨0,by omega,by omega,rfl⟩ ?_
 rintro r st ⟨a,ha,rfl,rfl⟩
 refine aj<|ab (.a 4 I<|.k [2,3,8,10,11,12,25] I)<|ag I (fun h1=>?_) (fun h1=>?_)
 ·have hlt:a<2*T.ae.length:=by have:=tt h1;omega
  have hal:(gR T M n a).length=2*T.ae.length:=BE T M n a
  have hdl:(jB M T n a).length≤512:=Nat.le_trans (Gr M T n a) (by omega)
  refine ai<|aj<|av ?_
  obtain⟨c1,hc1⟩:∃q,aQ M a=q:=⟨_,rfl⟩
  obtain⟨c2,hc2⟩:∃q,decide (bn T a=n)=q:=⟨_,rfl⟩
  refine bz 38 (.raw (.bool (c1&&c2))) [2,3,8,10,11,12] I ?_ ?_
  ·refine .a 2 I<|.v (aP (a) I) I<|.v (aJ I (show _=some (flag c1) by rw[dj _ a (by omega),fk,hc1])) I<|.a 1 I<|?_
   cases c1
   ·exact .a 6 I<|.k [38,2,3,8,10,11,12] I
   ·exact .a 2 I<|.c rfl (hZ T hv a hlt) I<|.a 1 I<|.v (cc I (hc2)) I<|.a 1 I<|.k [38,2,3,8,10,11,12] I
  refine ag I (fun h2=>?_) (fun h2=>?_)
  ·have h2:(aQ M a&&decide (bn T a=n))=true:=by rw[hc1,hc2];exact h2
   have hs1:=G7 h2
   have hs2:=BJ h2
   refine aM<|au 3 I<|b9 (bp I (aZ.rk.get I) I I I I (by unfold maxLen;omega)) I<|au 1 I ?_
   refine eP [0,2] (.c 2<|.c 3<|.c 8<|.c 10<|.c 11<|.c 12<|.nil) (.kept rfl (.row aH.pure)<|.kept rfl (.fG rfl (dy _ _))<|.nil) I I (bm ?_)
   refine bH<|au 2 I<|bx (aP (a) I) I<|bb ((by first|exact bM I (aZ.tk.get I) I I I (by first|omega|(simp;omega))|exact bc I (aZ.tk.get I) I I I (by first|omega|(simp;omega)))) I I<|aE [2,3,8,10,11,12] I ?_
   refine eE (σ':=[some (.row 4 1 (2*T.ae.length) (bX (gR T M n (a+1)))),some (.row 3 1 (jB M T n (a+1)).length (aL (jB M T n (a+1))))]) (by rw[←hs2,hs1,List.length_append];rfl) ?_
   refine aB (.a 1 I<|.v (aU I) I<|.a 1 I<|.k [2,3,8,10,11,12] I) ?_
   first
    |exact⟨2*T.ae.length - (a+1),by omega,a+1,by omega,rfl,rfl⟩
    |exact⟨2*T.ae.length - (a+1),by omega,a+1,by omega,rfl,by rw[hs1,hs2];rfl⟩
  ·have h2:(aQ M a&&decide (bn T a=n))=false:=by rw[hc1,hc2];exact h2
   have hs1:=Ja h2
   have hs2:=FE h2
   refine ai<|aB (.a 1 I<|.v (aU I) I<|.a 1 I<|.k [2,3,8,10,11,12] I) ?_
   first
    |exact⟨2*T.ae.length - (a+1),by omega,a+1,by omega,rfl,rfl⟩
    |exact⟨2*T.ae.length - (a+1),by omega,a+1,by omega,rfl,by rw[hs1,hs2];rfl⟩
 ·have hae:a=2*T.ae.length:=by have:=ff h1;omega
  subst hae
  refine bf<|ab (.a 4 I<|.k [6,7] I)<|ao<|⟨_,_,az.of I,ax.aX (ah.cons (ax.fB rfl ah.pure) (ah.cons (ax.fB rfl ah.pure) ah.nil)),?_⟩
  rw[HZ,Bz]
  unfold aw bg
  rw[show(fV T M n).length=2*T.ae.length by simp[fV]]
end
section
open Go.RowKit cE Mem
structure GD where
 p:PV
 r:Option Nat
 lo:Nat
 hi:Nat
section
variable {P:Program} {N L:Nat}
inductive GK (P:Program) (N:Nat) (ops:Array Oper) (σs:List cg) (T:cj) (o:Oper):GD→Prop
 |val {p:PV} {d lo hi:Nat} (ks:List Nat) (hks:(ks.all fun k=>(o.looksAt ops).contains k)=true) (hw:fi ops T o=some true) (hy:∀r σ,lo≤r→r≤hi→σs[r]? =some σ→bE P σ (gO T ks) o p) (hd:o.dst=some d) (hN:Nat.blt d N=true):GK P N ops σs T o ⟨p,none,lo,hi⟩
 |skip {d lo hi:Nat} (hw:fi ops T o=some false) (hd:o.dst=some d) (hN:Nat.blt d N=true):GK P N ops σs T o ⟨.raw undef,none,lo,hi⟩
 |Ci {p:PV} {d r lo hi:Nat} {σ σ':cg} (ks:List Nat) (hks:(ks.all fun k=>(o.looksAt ops).contains k)=true) (hw:fi ops T o=some true) (h1:σs[r]? =some σ) (h2:σs[r+1]? =some σ') (hy:cw P σ (gO T ks) o p σ') (hd:o.dst=some d) (hN:Nat.blt d N=true):GK P N ops σs T o ⟨p,some r,lo,hi⟩
 |kY {p:PV} {r lo hi:Nat} {σ σ':cg} (ks:List Nat) (hks:(ks.all fun k=>(o.looksAt ops).contains k)=true) (hw:fi ops T o=some true) (h1:σs[r]? =some σ) (h2:σs[r+1]? =some σ') (hy:cw P σ (gO T ks) o p σ') (hd:o.dst=none):GK P N ops σs T o ⟨p,some r,lo,hi⟩
inductive GL (P:Program) (N:Nat) (ops:Array Oper) (σs:List cg) (T:cj):List Oper→List GD→Prop
 |nil:GL P N ops σs T [] []
 |cons {o:Oper} {g:GD} {l:List Oper} {gs:List GD}:GK P N ops σs T o g→GL P N ops σs T l gs→GL P N ops σs T (o::l) (g::gs)
theorem GL.get{ops:Array Oper}{σs:List cg}{T:cj}:∀ {l:List Oper} {gs:List GD},GL P N ops σs T l gs→gs.length=l.length∧∀(i:Nat) o g,l[i]? =some o→gs[i]? =some g→GK P N ops σs T o g
 |_,_,.nil=>⟨rfl,fun i o g h=>by simp at h⟩
 |_,_,.cons h hs=>by
  obtain⟨h1,h2⟩:=hs.get
  refine⟨by simp[h1],fun i o g ho hg=>?_⟩
  cases i with
  |zero=>simp at ho hg;subst ho;subst hg;exact h
  |succ i=>exact h2 i o g (by simpa using ho) (by simpa using hg)
def ke(gs:List GD)(i:Nat):Option Nat:=(gs[i]?).bind (·.r)
def Hk(ops:Array Oper)(f m:Nat)(gs:List GD):Bool:=
  Nat.beq gs.length ops.size&&
  ((List.range ops.size).all fun i=>(lL ops i).all fun k=>decide (k<i))&&
  ((List.range ops.size).all fun i=>(List.range i).all fun j=>(cA ops i).isNone||cA ops i !=cA ops j)&&
  ((List.range ops.size).all fun j=>(ez ops j).all fun k=>(List.range ops.size).all fun i=>cA ops i !=some k||ft ops f j i)&&
  ((List.range ops.size).all fun i => match gs[i]? with
    |some ⟨_,some r,_,_⟩=>decide (r<m)&&(Nat.beq r 0||(List.range ops.size).any fun j=>ke gs j==some (r - 1)&&ft ops f i j)
    |some ⟨_,none,lo,hi⟩=>(Nat.beq lo 0||(List.range ops.size).any fun j=>ke gs j==some (lo - 1)&&ft ops f i j)&&(Nat.ble m hi||(List.range ops.size).any fun j=>ke gs j==some hi&&ft ops f j i)
    |none=>false)&&
  ((List.range ops.size).all fun i=>(List.range i).all fun j=>(ke gs i).isNone||ke gs i !=ke gs j)&&
  ((List.range m).all fun r=>(List.range ops.size).any fun j=>ke gs j==some r)
structure J9 (ops:Array Oper) (f m:Nat) (gs:List GD):Prop where
 len:gs.length=ops.size
 lL:∀i,i<ops.size→∀k∈lL ops i,k<i
 ss:∀i j d,i<ops.size→j<ops.size→cA ops i=some d→cA ops j=some d→i=j
 rd:∀j,j<ops.size→∀k∈ez ops j,∀i,i<ops.size→cA ops i=some k→ft ops f j i=true
 Ci:∀(i:Nat) g r,gs[i]? =some g→g.r=some r→r<m∧(r=0∨∃j,j<ops.size∧ke gs j=some (r - 1)∧ft ops f i j=true)
 quiet:∀(i:Nat) g,gs[i]? =some g→g.r=none→(g.lo=0∨∃j,j<ops.size∧ke gs j=some (g.lo - 1)∧ft ops f i j=true)∧(m≤g.hi∨∃j,j<ops.size∧ke gs j=some g.hi∧ft ops f j i=true)
 one:∀i j r,i<ops.size→j<ops.size→ke gs i=some r→ke gs j=some r→i=j
 has:∀r,r<m→∃j,j<ops.size∧ke gs j=some r
theorem Du{ops:Array Oper}{f m:Nat}{gs:List GD}(h:Hk ops f m gs=true):J9 ops f m gs:=by
 unfold Hk at h
 simp only[Bool.and_eq_true]at h
 obtain⟨⟨⟨⟨⟨⟨h1,h2⟩,h3⟩,h4⟩,h5⟩,h6⟩,h7⟩:=h
 have hl:gs.length=ops.size:=Nat.eq_of_beq_eq_true h1
 have all:∀ {n:Nat} {p:Nat→Bool},(List.range n).all p=true→∀i,i<n→p i=true:=fun h i hi=>List.all_eq_true.1 h i (List.mem_range.2 hi)
 have any:∀ {n:Nat} {p:Nat→Bool},(List.range n).any p=true→∃i,i<n∧p i=true:=fun h=>by
  obtain⟨i,hi,hp⟩:=List.any_eq_true.1 h
  exact⟨i,List.mem_range.1 hi,hp⟩
 have s3:∀i j d,i<ops.size→j<i→cA ops i=some d→cA ops j=some d→False:=fun i j d hi hj e1 e2=>by
  have:=all (all h3 i hi) j hj
  rw[e1,e2]at this
  simp at this
 have s6:∀i j r,i<ops.size→j<i→ke gs i=some r→ke gs j=some r→False:=fun i j r hi hj e1 e2=>by
  have:=all (all h6 i hi) j hj
  rw[e1,e2]at this
  simp at this
 refine⟨hl,fun i hi k hk=>?_,fun i j d hi hj e1 e2=>?_,fun j hj k hk i hi hd=>?_,fun i g r hg hr=>?_,fun i g hg hr=>?_,fun i j r hi hj e1 e2=>?_,fun r hr=>?_⟩
 ·have:=List.all_eq_true.1 (all h2 i hi) k hk;simpa using this
 ·rcases Nat.lt_trichotomy i j with h|h|h
  ·exact(s3 j i d hj h e2 e1).elim
  ·exact h
  ·exact(s3 i j d hi h e1 e2).elim
 ·have:=all (List.all_eq_true.1 (all h4 j hj) k hk) i hi
  rw[hd]at this
  simpa using this
 ·have hi:i<ops.size:=by rw[←hl];exact(List.getElem?_eq_some_iff.1 hg).1
  have:=all h5 i hi
  obtain⟨p,r',lo,hi'⟩:=g
  simp only at hr
  subst hr
  rw[hg]at this
  simp only[Bool.and_eq_true,decide_eq_true_eq,Bool.or_eq_true]at this
  refine⟨this.1,?_⟩
  rcases this.2 with h|h
  ·exact .inl (Nat.eq_of_beq_eq_true h)
  ·obtain⟨j,hj,h'⟩:=any h
   simp only[Bool.and_eq_true,beq_iff_eq]at h'
   exact .inr ⟨j,hj,h'.1,h'.2⟩
 ·have hi:i<ops.size:=by rw[←hl];exact(List.getElem?_eq_some_iff.1 hg).1
  have:=all h5 i hi
  obtain⟨p,r',lo,hi'⟩:=g
  simp only at hr
  subst hr
  rw[hg]at this
  simp only[Bool.and_eq_true,Bool.or_eq_true]at this
  refine⟨?_,?_⟩
  ·rcases this.1 with h|h
   ·exact .inl (Nat.eq_of_beq_eq_true h)
   ·obtain⟨j,hj,h'⟩:=any h
    simp only[Bool.and_eq_true,beq_iff_eq]at h'
    exact .inr ⟨j,hj,h'.1,h'.2⟩
  ·rcases this.2 with h|h
   ·exact .inl (Nat.ble_eq.mp h)
   ·obtain⟨j,hj,h'⟩:=any h
    simp only[Bool.and_eq_true,beq_iff_eq]at h'
    exact .inr ⟨j,hj,h'.1,h'.2⟩
 ·rcases Nat.lt_trichotomy i j with h|h|h
  ·exact(s6 j i r hj h e2 e1).elim
  ·exact h
  ·exact(s6 i j r hi h e1 e2).elim
 ·obtain⟨j,hj,h⟩:=any (all h7 r hr)
  exact⟨j,hj,by simpa using h⟩
structure Gp (base N:Nat) (F:Nat→Prop) (l:List Oper) (gs:List GD) (σs:List cg) (t:cj) (ls:Array Bool) (r:Nat) (E:Env) (a:Act) (w:World):Prop where
 size:ls.size=l.length
 down:Down l.toArray ls
 rk:∀i s,i<l.length→ke gs i=some s→(ls.getD i true=true↔s<r)
 sat:∃σ,σs[r]? =some σ∧Sat F base σ E w
 kF:a.defers=[]
 tmps:a.tmps.size=N
 t0:eB E w a.eval t
 lC:∀j d g,j<l.length→ls.getD j true=true→cA l.toArray j=some d→gs[j]? =some g→cI E w (a.eval (.tmp d)) g.p
theorem zh(ls:Array Bool)(i j:Nat)(b:Bool)(hi:i<ls.size):(ls.setIfInBounds i true).getD j b=if j=i then true else ls.getD j b:=by
 by_cases e:j=i
 ·subst e;simp[hi]
 ·rw[if_neg e]
  simp only[Array.getD_eq_getD_getElem?,Array.getElem?_setIfInBounds_ne (Ne.symm e)]
theorem Eb{ls:Array Bool}{i:Nat}(hi:i<ls.size)(b c:Bool):ls.getD i b=ls.getD i c:=by simp[hi]
section
variable {l:List Oper} {gs:List GD} {σs:List cg} {t T:cj} {f m base:Nat} {F:Nat→Prop}
theorem Gp.reach(hG:J9 l.toArray f m gs){ls:Array Bool}{r:Nat}{E:Env}{a:Act}{w:World}(h:Gp base N F l gs σs t ls r E a w){i j:Nat}(hi:i<l.length)(hr:ft l.toArray f i j=true)(hk:∀k∈lL l.toArray i,ls.getD k false=true):ls.getD j true=true:=by
 have:=ew (by rw[h.size];simp) h.down (fun i hi=>hG.lL i hi) f i j (by simpa using hi) hr hk
 by_cases hj:j<ls.size
 ·rw[Eb hj true false];exact this
 ·simp[hj]
theorem Gp.looks(hG:J9 l.toArray f m gs)(hT:mY l (gs.map (·.p)) t=T){ls:Array Bool}{r:Nat}{E:Env}{a:Act}{w:World}(h:Gp base N F l gs σs t ls r E a w){i:Nat}(hi:i<l.length)(hk:∀k∈lL l.toArray i,ls.getD k false=true):
  ∀k∈ez l.toArray i,∀p,look k T=some p→cI E w (a.eval (.tmp k)) p:=fun k hks p hp=>by
 rw[←hT]at hp
 rcases lU _ _ _ k p hp with⟨j,o,h1,h2,h3⟩|h'
 ·rw[List.getElem?_map,Option.map_eq_some_iff]at h3
  obtain⟨g,hg,rfl⟩:=h3
  have hj:j<l.length:=(List.getElem?_eq_some_iff.1 h1).1
  have hd:cA l.toArray j=some k:=by simp only[cA,List.getElem?_toArray,h1,Option.bind_some,h2]
  have hr:=hG.rd i (by simpa using hi) k hks j (by simpa using hj) hd
  exact h.lC j k g hj (h.reach hG hi hr hk) hd hg
 ·exact h.t0 k p h'
theorem Gp.put(hG:J9 l.toArray f m gs)(hfr:∀i d,i<l.length→cA l.toArray i=some d→look d t=none){ls:Array Bool}{r r':Nat}{E E':Env}{a:Act}{w w':World}(h:Gp base N F l gs σs t ls r E a w){i:Nat}{g:GD}{v:Value}(hi:i<l.length)(hu:ls.getD i true=false)(hk:∀k∈lL l.toArray i,ls.getD k false=true)(hg:gs[i]? =some g)(hgo:de E w E' w')
  (hs:∃σ,σs[r']? =some σ∧Sat F base σ E' w') (hr:(g.r=none∧r'=r)∨(g.r=some r∧r'=r+1)) {o:Oper} (ho:l[i]? =some o) (hdN:∀d,o.dst=some d→d<N) (hv:∀d,o.dst=some d→cI E' w' v g.p):
  Gp base N F l gs σs t (ls.setIfInBounds i true) r' E' (a.put o.dst v) w':=by
 have hil:i<ls.size:=by rw[h.size];exact hi
 have hrk:ke gs i=g.r:=by simp only[ke,hg,Option.bind_some]
 have hdi:cA l.toArray i=o.dst:=by simp only[cA,List.getElem?_toArray,ho,Option.bind_some]
 refine⟨by simpa using h.size,fun j hj hjs k hkj=>?_,fun j s hj hs'=>?_,hs,by cases o.dst<;>simpa[Act.put]using h.kF,by cases o.dst<;>simpa[Act.put]using h.tmps,fun k p hkp=>?_,fun j d g' hj hjl hd hg'=>?_⟩
 ·rw[zh _ _ _ _ hil]at hj ⊢
  split
  ·rfl
  ·by_cases e:j=i
   ·subst e;exact hk k hkj
   ·rw[if_neg e]at hj
    exact h.down j hj hjs k hkj
 ·rw[zh _ _ _ _ hil]
  by_cases e:j=i
  ·subst e
   rw[if_pos rfl]
   rw[hrk]at hs'
   rcases hr with⟨h1,_⟩|⟨h1,h2⟩
   ·rw[h1]at hs';cases hs'
   ·rw[h1]at hs';cases hs';exact⟨fun _=>by omega,fun _=>rfl⟩
  ·rw[if_neg e,h.rk j s hj hs']
   rcases hr with⟨_,h2⟩|⟨h1,h2⟩
   ·rw[h2]
   ·have:s≠r:=fun e'=>e (hG.one j i r (by simpa using hj) (by simpa using hi) (by rw[hs',e']) (by rw[hrk,h1]))
    omega
 ·have hne:∀d,o.dst=some d→k≠d:=fun d hd e=>by
   subst e
   rw[hfr i k hi (by rw[hdi,hd])]at hkp;cases hkp
  have:(a.put o.dst v).eval (.tmp k)=a.eval (.tmp k):=Act.eval_put fun d hd heq=>by cases heq;exact hne _ hd rfl
  rw[this]
  exact(h.t0 k p hkp).goes hgo
 ·rw[zh _ _ _ _ hil]at hjl
  by_cases e:j=i
  ·subst e
   rw[hdi]at hd
   rw[hg]at hg';cases hg'
   rw[hd,jj a (by rw[h.tmps];exact hdN d hd),if_pos rfl]
   exact hv d hd
  ·rw[if_neg e]at hjl
   have hne:∀d',o.dst=some d'→d≠d':=fun d' hd' e'=>by
    subst e'
    exact e (hG.ss j i d (by simpa using hj) (by simpa using hi) hd (by rw[hdi,hd']))
   have:(a.put o.dst v).eval (.tmp d)=a.eval (.tmp d):=Act.eval_put fun d' hd' heq=>by cases heq;exact hne _ hd' rfl
   rw[this]
   exact(h.lC j d g' hj hjl hd hg').goes hgo
theorem He(hG:J9 l.toArray f m gs)(hT:mY l (gs.map (·.p)) t=T)(hfr:∀i d,i<l.length→cA l.toArray i=some d→look d t=none)(hL:GL P N l.toArray σs T l gs){σm:cg}(hm:σs[m]? =some σm){Q:Exit→Act→World→Prop}{E₀:Env}{w₀:World}(hq:∀a' w' E',Sat F base σm E' w'→eB E' w' a'.eval T→a'.defers=[]→a'.tmps.size=N→de E₀ w₀ E' w'→Below base w₀ w'→Q .normal a' w'):
  ∀(fuel:Nat) (ls:Array Bool) (r:Nat) (E:Env) (a:Act) (w:World),Gp base N F l gs σs t ls r E a w→bS ls l.length=fuel→de E₀ w₀ E w→Below base w₀ w→r≤m→wpAny P .any l.toArray Q fuel ls a w:=by
 obtain⟨hgl,hget⟩:=hL.get
 intro fuel
 induction fuel with
 |zero=>
  intro ls r E a w h hu hgo hb hrm
  have hall:=dh hu
  have hrm':r=m:=by
   rcases Nat.lt_or_ge r m with h'|h'
   ·obtain⟨j,hj,hjr⟩:=hG.has r h'
    have hj:j<l.length:=by simpa using hj
    have:=(h.rk j r hj hjr).1 (hall j hj)
    omega
   ·omega
  subst hrm'
  refine⟨List.eq_nil_iff_forall_not_mem.2 fun i hi=>?_,?_⟩
  ·obtain⟨h1,h2,_⟩:=cF.1 hi
   rw[hall i (by simpa using h1)]at h2;cases h2
  ·obtain⟨σ,hσ,hs⟩:=h.sat
   rw[hm]at hσ;cases hσ
   refine hq a w E hs (fun k p hkp=>?_) h.kF h.tmps hgo hb
   rw[←hT]at hkp
   rcases lU _ _ _ k p hkp with⟨j,o,h1,h2,h3⟩|h'
   ·rw[List.getElem?_map,Option.map_eq_some_iff]at h3
    obtain⟨g,hg,rfl⟩:=h3
    have hj:j<l.length:=(List.getElem?_eq_some_iff.1 h1).1
    exact h.lC j k g hj (hall j hj) (by simp only[cA,List.getElem?_toArray,h1,Option.bind_some,h2]) hg
   ·exact h.t0 k p h'
 |succ fuel ih=>
  intro ls r E a w h hu hgo hb hrm
  obtain⟨i0,hi0,hi1,hi2⟩:=fO (ls:=ls) (m:=l.length) (by omega)
  have hi0r:i0∈Region.ready .any l.toArray ls:=cF.2 ⟨by simpa using hi0,hi1,fun k hk=>by
   have:=hG.lL i0 (by simpa using hi0) k hk
   rw[Eb (by rw[h.size];omega) false true];exact hi2 k this⟩
  refine⟨fun h0=>absurd hi0r (by rw[h0];simp),fun i hi=>?_⟩
  obtain⟨h1,h2,h3⟩:=cF.1 hi
  have hil:i<l.length:=by simpa using h1
  have ho:l[i]? =some l[i]:=by simp[hil]
  have hgi:gs[i]? =some (gs[i]'(by omega)):=by simp
  have hK:=hget i _ _ ho hgi
  generalize hgg:gs[i]'(by omega)=g at hgi hK
  generalize hoo:l[i]=o at ho hK
  have hlk:=h.looks hG hT hil h3
  have hlo:ez l.toArray i=o.looksAt l.toArray:=by simp only[ez,List.getElem?_toArray,ho]
  rw[hlo]at hlk
  have hpk:∀ks:List Nat,(ks.all fun k=>(o.looksAt l.toArray).contains k)=true→eB E w a.eval (gO T ks):=fun ks hks k p hkp=>by
   obtain⟨e1,e2⟩:=jg ks k p hkp
   exact hlk k (by have:=List.all_eq_true.1 hks k e1;simpa using this) p e2
  have hwant:∀b,fi l.toArray T o=some b→Region.wanted o (yielded l.toArray a.tmps)=b:=fun b hb=>by
   rw[iU];exact lI (fun k hk p hp=>hlk k hk p hp) hb
  have hun:bS (ls.setIfInBounds i true) l.length=fuel:=by have:=fN h2 hil (by rw[h.size];omega);omega
  unfold wpOp
  have ho':l.toArray[i]? =some o:=by simpa using ho
  simp only[ho']
  have hrk:ke gs i=g.r:=by simp only[ke,hgi,Option.bind_some]
  cases hK with
  | @val p d lo hi ks hks hw hy hd hN=>
   rw[hwant true hw,if_pos rfl]
   left
   obtain⟨σ,hσ,hs⟩:=h.sat
   obtain⟨q1,q2⟩:=hG.quiet i _ hgi rfl
   have hlo':lo≤r:=by
    rcases q1 with e|⟨j,hj,hj1,hj2⟩
    ·simp only at e;omega
    ·have:=(h.rk j _ (by simpa using hj) hj1).1 (h.reach hG hil hj2 h3)
     simp only at this;omega
   have hhi':r≤hi:=by
    rcases q2 with e|⟨j,hj,hj1,hj2⟩
    ·simp only at e;omega
    ·rcases Nat.lt_or_ge hi r with h'|h'
     ·have hjl:j<l.length:=by simpa using hj
      have e1:=(h.rk j _ hjl hj1).2 h'
      have e2:=h.reach hG hjl hj2 (h.down j e1 hj)
      rw[h2]at e2;cases e2
     ·exact h'
   refine ql (hy r σ hlo' hhi' hσ F base E a.eval w (gF a) hs (hpk ks hks)) fun v w' hE hv=>?_
   exact ih _ r E _ w' (h.put hG hfr hil h2 h3 hgi (.ext hE) ⟨σ,hσ,hs.ext hE⟩ (.inl ⟨rfl,rfl⟩) ho (fun d' hd'=>by rw[hd]at hd';cases hd';exact Nat.blt_eq.mp hN) (fun _ _=>hv)) hun (hgo.trans (.ext hE)) (hb.trans (Below.iS hE hs.bl)) hrm
  | @skip d lo hi hw hd hN=>
   rw[hwant false hw,if_neg (by simp)]
   exact ih _ r E _ w (h.put hG hfr hil h2 h3 hgi (de.refl _ _) h.sat (.inl ⟨rfl,rfl⟩) ho (fun d' hd'=>by rw[hd]at hd';cases hd';exact Nat.blt_eq.mp hN) (fun _ _=>.raw _)) hun hgo hb hrm
  | @Ci p d r0 lo hi σ σ' ks hks hw e1 e2 hy hd hN=>
   rw[hwant true hw,if_pos rfl]
   left
   obtain⟨q1,q2⟩:=hG.Ci i _ r0 hgi rfl
   have hr0:r0=r:=by
    have n1:¬r0<r:=fun h'=>by
     have:=(h.rk i r0 hil hrk).2 h'
     rw[h2]at this;cases this
    rcases q2 with e|⟨j,hj,hj1,hj2⟩
    ·omega
    ·have:=(h.rk j _ (by simpa using hj) hj1).1 (h.reach hG hil hj2 h3)
     omega
   subst hr0
   obtain⟨σ0,hσ,hs⟩:=h.sat
   rw[e1]at hσ;cases hσ
   obtain⟨v,w',E',hr,k1,k2,k3,k4⟩:=hy F base E a.eval w (gF a) hs (hpk ks hks)
   have hn':=ih _ (r0+1) E' (a.put o.dst v) w' (h.put hG hfr hil h2 h3 hgi k2 ⟨σ',e2,k1⟩ (.inr ⟨rfl,rfl⟩) ho (fun d' hd'=>by rw[hd]at hd';cases hd';exact Nat.blt_eq.mp hN) (fun _ _=>k4)) hun (hgo.trans k2) (hb.trans k3) (by omega)
   unfold Oper.wp
   rcases hr with hr|⟨rfl,hr⟩
   ·rw[hr];exact hn'
   ·rw[hr];exact hn'
  | @kY p r0 lo hi σ σ' ks hks hw e1 e2 hy hd=>
   rw[hwant true hw,if_pos rfl]
   left
   obtain⟨q1,q2⟩:=hG.Ci i _ r0 hgi rfl
   have hr0:r0=r:=by
    have n1:¬r0<r:=fun h'=>by
     have:=(h.rk i r0 hil hrk).2 h'
     rw[h2]at this;cases this
    rcases q2 with e|⟨j,hj,hj1,hj2⟩
    ·omega
    ·have:=(h.rk j _ (by simpa using hj) hj1).1 (h.reach hG hil hj2 h3)
     omega
   subst hr0
   obtain⟨σ0,hσ,hs⟩:=h.sat
   rw[e1]at hσ;cases hσ
   obtain⟨v,w',E',hr,k1,k2,k3,k4⟩:=hy F base E a.eval w (gF a) hs (hpk ks hks)
   have hn':=ih _ (r0+1) E' (a.put o.dst v) w' (h.put hG hfr hil h2 h3 hgi k2 ⟨σ',e2,k1⟩ (.inr ⟨rfl,rfl⟩) ho (fun d' hd'=>by rw[hd]at hd';cases hd') (fun d' hd'=>by rw[hd]at hd';cases hd')) hun (hgo.trans k2) (hb.trans k3) (by omega)
   unfold Oper.wp
   rcases hr with hr|⟨rfl,hr⟩
   ·rw[hr];exact hn'
   ·rw[hr];exact hn'
end
theorem om:∀(n k:Nat),k≤n→bS (Array.replicate n false) k=k
 |n,0,_=>rfl
 |n,k+1,h=>by
  simp only[bS]
  rw[om n k (by omega)]
  simp[show k<n by omega]
theorem sT{id:Nat}{l:List Oper}{t t':cj}{σ σm:cg}{Q:Exit→St→Prop}(f m:Nat)(σs:List cg)(gs:List GD)(T:cj)(hm:P.follows .mixedOrders=true)(hB:Hk l.toArray f m gs=true)(hT:mY l (gs.map (·.p)) t=T)(hfr:(l.all fun o=>o.dst.all fun d=>(look d t).isNone)=true)(h0:σs[0]? =some σ)(h1:σs[m]? =some σm)
  (hL:GL P N l.toArray σs T l gs) (hsub:Sub T t') (hq:Q .normal ⟨t',σm⟩):W P N L (.region id l.toArray true) ⟨t,σ⟩ Q:=fun F base E₀ w₀ E a w hc hs=>by
 have hG:=Du hB
 have hE:Ext w {w with drawn:=w.drawn+1}:=⟨rfl,rfl,rfl,Nat.le_refl _,fun _ _=>rfl⟩
 refine wp_region_any hm ?_
 have hfr':∀i d,i<l.length→cA l.toArray i=some d→look d t=none:=fun i d hi hd=>by
  have ho:l[i]? =some l[i]:=by simp[hi]
  simp only[cA,List.getElem?_toArray,ho,Option.bind_some]at hd
  have:=List.all_eq_true.1 hfr _ (List.mem_of_getElem? ho)
  rw[hd]at this
  simpa using this
 have hg0:Gp base N F l gs σs t (Array.replicate l.length false) 0 E a {w with drawn:=w.drawn+1}:=by
  have hrep:∀i,i<l.length→(Array.replicate l.length false).getD i true=false:=fun i hi=>by simp[hi]
  refine⟨by simp,fun i hi hi'=>?_,fun i s hi _=>?_,⟨σ,h0,hs.sat.ext hE⟩,hs.kF,hs.size,hs.tmp.goes (.ext hE),fun j d g hj hjl=>?_⟩
  ·rw[hrep i (by simpa using hi')]at hi;cases hi
  ·rw[hrep i hi];simp
  ·rw[hrep j hj]at hjl;cases hjl
 have:=He (Q:=fun e a' w'=>oW F base N E₀ w₀ (Q e) a' w') hG hT hfr' hL h1 (E₀:=E₀) (w₀:=w₀) (fun a' w' E' k1 k2 k3 k4 k5 k6=>⟨⟨t',σm⟩,E',hq,⟨k1,k2.sub hsub,k3,k4⟩,k5,k6⟩) l.length _ 0 E a _ hg0 (om _ _ (Nat.le_refl _)) (hc.g.trans (.ext hE)) (hc.b.trans (Below.iS hE hs.sat.bl)) (Nat.zero_le _)
 simpa using this
theorem yT{id:Nat}{l:List Oper}{y:Code}{t t':cj}{σ σm:cg}{Q:Exit→St→Prop}(f m:Nat)(σs:List cg)(gs:List GD)(T:cj)(hm:P.follows .mixedOrders=true)(hB:Hk l.toArray f m gs=true)(hT:mY l (gs.map (·.p)) t=T)(hfr:(l.all fun o=>o.dst.all fun d=>(look d t).isNone)=true)(h0:σs[0]? =some σ)(h1:σs[m]? =some σm)
  (hL:GL P N l.toArray σs T l gs) (hsub:Sub T t') (hq:W P N L y ⟨t',σm⟩ Q):W P N L (.seq (.region id l.toArray true) y) ⟨t,σ⟩ Q:=aj (sT f m σs gs T hm hB hT hfr h0 h1 hL hsub hq)
theorem yz{P:Program}{σs:List cg}{t:cj}{o:Oper}{p:PV}{lo hi:Nat}(h:∀σ∈(σs.drop lo).take (hi+1 - lo),bE P σ t o p):∀r σ,lo≤r→r≤hi→σs[r]? =some σ→bE P σ t o p:=fun r σ h1 h2 hs=>by
 refine h σ (List.mem_of_getElem? (i:=r - lo) ?_)
 rw[List.getElem?_take,if_pos (by omega),List.getElem?_drop,show lo+(r - lo)=r by omega]
 exact hs
theorem dK{α:Type}{p:α→Prop}:∀x∈([]:List α),p x:=fun _ h=>by cases h
theorem cL{α:Type}{p:α→Prop}{a:α}{l:List α}(h:p a)(hs:∀x∈l,p x):∀x∈a::l,p x:=fun x hx=>by
 rcases List.mem_cons.1 hx with rfl|h'
 ·exact h
 ·exact hs x h'
end
open Net eX
theorem Iy{P:Program}{N L:Nat}{x:Code}{st:St}{Q:Exit→St→Prop}{Q1:St→Prop}(h:W P N L x st (Ib Q1))(k:∀s,Q1 s→Q .normal s):W P N L x st Q:=
 h.mono fun e s hq=>by cases e<;>first|exact k s hq|exact hq.elim
theorem Cs{T:an}(hv:aq T=true)(D:List Bool)(n d:Nat):(bI T D n d).length≤512:=by
 have hl:=bR hv
 unfold bI
 split
 ·simp
 ·exact Nat.le_trans (List.length_filter_le _ _) (Nat.le_trans (eG T n _) (by omega))
theorem nc(T:an)(D:List Bool)(n d:Int):Can Tryz.prog 84 [aN T,bg D,num n,num d] (· =flag (gG T D n d)):=by
 obtain⟨q,hq⟩:∃q,decide (gQ T D n d=0)=q:=⟨_,rfl⟩
 unfold gG
 rw[hq]
 exact aG Tryz.func84 I Tryz.ntmps84 I<|ab (.a 2 I<|.k [1,2,3,4] I)<|ab (.a 4 I<|.c rfl (wQ T D n d) I<|.a 5 I<|.k [10] I)<|ab (.a 1 I<|.v (cc I (hq)) I<|.a 1 I<|.k [8] I)<|ao<|⟨_,_,az.of I,ax.pure,rfl⟩
def gh(T:an)(k x:Int):List Bool:=if dY T k x=0 then aI T k x else []
theorem rQ{T:an}{k x:Int}(h:(aq T&&cd T k x)=true):gh T k x=aI T k x:=by
 unfold gh dY
 rw[if_pos h,if_pos rfl]
theorem ox(T:an)(k x n d:Int):Can Tryz.prog 98 [aN T,bY k x,num n,num d] (· =flag (gG T (gh T k x) n d)):=by
 have hmk:=mE T k x
 unfold iG at hmk
 exact aG Tryz.func98 I Tryz.ntmps98 I<|ab (.a 3 I<|.k [2,3,4,5] I)<|ab (.a 2 I<|.c rfl (hmk) I<|.a 5 I<|.k [2,3,4,9] I)<|ab (.a 4 I<|.c rfl (nc T (gh T k x) n d) I<|.a 1 I<|.k [8] I)<|ao<|⟨_,_,az.of I,ax.pure,rfl⟩
theorem Ac{T:an}(hv:aq T=true){a:Nat}(ha:a<2*T.ae.length)(h:0<ga T a):(aq T&&cd T 3 (ga T a))=true:=by
 have:=tQ hv ha
 rw[hv]
 unfold cd
 simp only[if_neg (show ¬(3:Int)=1 by decide),if_neg (show ¬(3:Int)=2 by decide),if_true,Bool.true_and,Bool.and_eq_true,decide_eq_true_eq]
 exact⟨by omega,by omega⟩
theorem xx{T:an}(hv:aq T=true){a:Nat}(ha:a<2*T.ae.length):(aq T&&cd T 2 (aS T a))=true:=by
 obtain⟨h0,h1⟩:=(aO hv).head a ha
 rw[hv]
 unfold cd
 simp only[if_neg (show ¬(2:Int)=1 by decide),if_true,Bool.true_and]
 exact aT.2 ⟨h0,h1⟩
theorem A2(T:an)(a:Nat)(d:Int)(hv:aq T=true)(ha:a<2*T.ae.length)(hd:0≤d∧d<T.nodes):Can Tryz.prog 45 [aN T,num a,num d] (· = .tuple [bY (dt T a d).1 (dt T a d).2,num 0]):=by
 have hll:=bR hv
 have hi:a / 2<T.ae.length:=by omega
 obtain⟨g,hg⟩:∃g,ga T a=g:=⟨_,rfl⟩
 obtain⟨h,hh⟩:∃h,aS T a=h:=⟨_,rfl⟩
 obtain⟨m,hm⟩:∃m,bn T a=m:=⟨_,rfl⟩
 have hgv:=Ac hv ha
 have hnv:=xx hv ha
 have hrh:=jv T hv a ha
 have hrt:=hZ T hv a ha
 have hgl:(cC T.ae (a / 2)).vF=g:=hg
 rw[hh]at hnv hrh
 rw[hg]at hgv
 rw[hm]at hrt
 obtain⟨c1,hc1⟩:∃q,decide (0<g)=q:=⟨_,rfl⟩
 obtain⟨c2,hc2⟩:∃q,gG T (gh T 3 g) m d=q:=⟨_,rfl⟩
 obtain⟨c3,hc3⟩:∃q,decide (h≠d)=q:=⟨_,rfl⟩
 obtain⟨c4,hc4⟩:∃q,gG T (gh T 2 h) m d=q:=⟨_,rfl⟩
 have hA:dt T a d=if(c1&&c2)=true then(3,g) else if(c3&&c4)=true then(2,h) else(1,((a / 2:Nat):Int)):=by
  unfold dt
  rw[hg,hh,hm,hc1,hc3,←rQ hnv,hc4]
  congr 1
  cases c1 with
  |false=>rfl
  |true=>rw[←rQ (hgv (tt hc1)),hc2]
 have hw1:=ox T 3 g m d
 rw[hc2]at hw1
 have hw2:=ox T 2 h m d
 rw[hc4]at hw2
 rw[hA]
 refine aG Tryz.func45 I Tryz.ntmps45 I<|aM<|au 3 I<|aE [1,2,3,6] I ?_
 refine aj<|ab (.a 1 I<|.c rfl (hv▸fc T) I<|.a 1 I<|.k [1,2,3,6,14] I)<|ag I (fun h1=>?_) (fun h1=>?_)
 ·exact absurd h1 (by decide)
 ·clear h1
  refine ai<|aj<|bz 35 (.raw (.bool (false))) [1,2,3,6] I ?_ ?_
  ·exact .a 1 I<|.v (cc I (show decide ((a:Int)<0)=false from decide_eq_false (by omega))) I<|.a 5 I<|.v (aU I (hc:=rfl)) I<|.v (cc I (show decide (2*(T.ae.length:Int)≤(a:Int))=false from decide_eq_false (by omega))) I<|.a 3 I<|.v (cc I (show decide (d<0)=false from decide_eq_false (by omega))) I<|.a 5 I<|.v (cc I (show decide (T.nodes≤d)=false from decide_eq_false (by omega))) I<|.a 1 I<|.k [35,1,2,3,6] I
  refine ag I (fun h1=>?_) (fun h1=>?_)
  ·exact absurd h1 (by decide)
  ·clear h1
   refine ai<|ep mixed (by kernel_rfl) (.a 2 I<|.v [37,38] (dV I (hrt)) I I<|.a 2 I<|.v [40,41] (dV I (hrh)) I I<|.a 2 I<|.k [1,2,3,6,8,9] I) ?_
   refine aM<|au 3 I<|bx (iO I I I (by decide) ((show(a:Int).tdiv 2=((a / 2:Nat):Int) by rw[Int.tdiv_eq_ediv_of_nonneg (by omega)];omega)) (by unfold In64;omega)) I<|bx (aP ((a / 2*7)) I) I<|au 1 I<|bx (aJ I ((eJ T.ae (a / 2) 6 hi (by omega)).trans (show(kr (cC T.ae (a / 2)))[6]? =some (num g) by rw[←hgl];rfl))) I<|au 3 I<|aE [1,2,3,6,8,9,10] I ?_
   refine aM<|au 4 I<|aE [1,2,3,6,8,9,10,11] I ?_
   refine aj<|av<|bz 53 (.raw (.bool (c1&&c2))) [1,2,3,6,8,9,10,11] I ?_ ?_
   ·refine .a 2 I<|.v (cc I (hc1)) I<|.a 1 I<|?_
    cases c1
    ·exact .a 7 I<|.k [53,1,2,3,6,8,9,10,11] I
    ·exact .a 4 I<|.c rfl (hw1) I<|.a 2 I<|.k [53,1,2,3,6,8,9,10,11] I
   refine ag I (fun h1=>?_) (fun h1=>?_)
   ·rw[if_pos h1]
    refine aM<|au 3 I<|aE [6,7] I ?_
    exact ao<|⟨_,_,az.of I,ax.pure (p:=.tuple [bY 3 g,num 0]),rfl⟩
   ·rw[if_neg (by rw[h1];simp)]
    refine bz 65 (.raw (.bool (c3&&c4))) [1,6,11] I ?_ ?_
    ·refine .a 2 I<|.v (cc I (hc3)) I<|.a 1 I<|?_
     cases c3
     ·exact .a 7 I<|.k [65,1,6,11] I
     ·exact .a 4 I<|.c rfl (hw2) I<|.a 2 I<|.k [65,1,6,11] I
    refine ag I (fun h2=>?_) (fun h2=>?_)
    ·rw[if_pos h2]
     refine aM<|au 3 I<|aE [6,7] I ?_
     exact ao<|⟨_,_,az.of I,ax.pure (p:=.tuple [bY 2 h,num 0]),rfl⟩
    ·rw[if_neg (by rw[h2];simp)]
     refine ai<|aM<|au 1 I<|bx (iO I I I (by decide) ((show(a:Int).tdiv 2=((a / 2:Nat):Int) by rw[Int.tdiv_eq_ediv_of_nonneg (by omega)];omega)) (by unfold In64;omega)) I<|au 3 I<|aE [6,7] I ?_
     exact ao<|⟨_,_,az.of I,ax.pure (p:=.tuple [bY 1 ((a / 2:Nat):Int),num 0]),rfl⟩
def lA(T:an)(D E:List Bool)(k:Nat):List Bool:=(List.range (2*T.ae.length)).map fun a=>if a<k then aQ D a||aQ E a else aQ D a
theorem rR(T:an)(D E:List Bool)(k:Nat):(lA T D E k).length=2*T.ae.length:=by simp[lA]
theorem oh{T:an}{D E:List Bool}{k i:Nat}(h:i<(lA T D E k).length):(lA T D E k)[i]=if i<k then aQ D i||aQ E i else aQ D i:=by simp[lA]
theorem zI{M:List Bool}{a:Nat}(h:a<M.length):aQ M a=M[a]:=by rw[←fk];simp[h]
theorem Cm{T:an}{D E:List Bool}(h:D.length=2*T.ae.length):lA T D E 0=D:=by
 apply List.ext_getElem (by rw[rR,h])
 intro i h1 h2
 rw[oh,if_neg (by omega),zI h2]
theorem Dv(T:an)(D E:List Bool):lA T D E (2*T.ae.length)=orM T D E:=by
 unfold lA orM
 exact List.map_congr_left fun a ha=>if_pos (List.mem_range.1 ha)
theorem BB(T:an)(D E:List Bool)(k:Nat):(lA T D E k).set k (aQ D k||aQ E k)=lA T D E (k+1):=by
 apply List.ext_getElem (by simp[lA])
 intro i h1 h2
 rw[List.getElem_set,oh,oh]
 by_cases e:k=i
 ·subst e;rw[if_pos rfl,if_pos (by omega)]
 ·rw[if_neg e]
  by_cases h:i<k
  ·rw[if_pos h,if_pos (by omega)]
  ·rw[if_neg h,if_neg (by omega)]
theorem HH{T:an}{D E:List Bool}{k:Nat}(h:k<2*T.ae.length):(lA T D E k).getD k false=aQ D k:=by
 have hk:k<(lA T D E k).length:=by rw[rR];exact h
 rw[List.getD_eq_getElem?_getD,List.getElem?_eq_getElem hk,Option.getD_some,oh,if_neg (by omega)]
end
end PW
end Go.Proofs.YtnegbdpggideiaaGreatDoor
