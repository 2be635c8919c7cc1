/- Texts of the proof, part 10. -/
import Derived.Test.YtnegbdpggideiaaGreatDoorCardXEB9
set_option linter.unusedVariables false
set_option linter.unusedSimpArgs false
set_option maxRecDepth 10000
set_option maxHeartbeats 1000000
namespace Go.Proofs.YtnegbdpggideiaaGreatDoor
namespace PW
section
open Go.RowKit cG Mem Net eY
theorem tB{T:ak}{n:Int}{L:List Int}(hl:T.ae.length≤256)(h:eC T n L=true):L.length≤512:=by
 have h:=of_decide_eq_true h
 have key:∀i:Nat,i<L.length→(i:Int)≤L.getD i 0:=by
  intro i
  induction i with
  |zero=>intro hi;have:=(cW.1 (h 0 hi).1).1;omega
  |succ i ih=>
   intro hi
   have h1:=ih (by omega)
   have h2:=(h (i+1) hi).2.2 (by omega)
   rw[Nat.add_sub_cancel]at h2
   omega
 rcases Nat.eq_zero_or_pos L.length with h0|h0
 ·omega
 ·have h1:=key (L.length - 1) (by omega)
  have h2:=cW.1 (h (L.length - 1) (by omega)).1
  omega
theorem uE(p:dx)(s:List bV)(e:i6)(hs:s.length≤40)(hp:e.push.length≤40)(ha:e.ax.length≤1000)(hps:p.stack.length≤1000)(hh:0≤p.dG∧p.dG≤1000):Can Tryz.prog 106 [dB p,cc s,xQ e] (· =vv (fA p s e)):=by
 obtain⟨c,hc⟩:∃q,e.rep=q:=⟨_,rfl⟩
 have hE:fA p s e=if c then(if 32<(e.push++s.drop 1).length then eu p 5 else cB p (e.push++s.drop 1) e.ax) else cB p s e.ax:=by unfold fA;rw[hc]
 rw[hE]
 refine aH Tryz.func106 I Tryz.ntmps106 I<|aO<|aw 5 I<|aE [1,3,5,7] I ?_
 refine aj<|ab (.a 1 I<|.v (aJ I ((show(gF e)[1]? =some (flag c) by rw[←hc];rfl))) I<|.k [1,3,5,7,11] I)<|ag I (fun h1=>?_) (fun h1=>?_)
 ·subst h1
  simp only[if_true]
  refine ab (.a 2 I<|.k [3,5,7,9] I)<|aj<|ab (.a 3 I<|.k [3,5,7,9,15] I)<|ag I (fun h2=>?_) (fun h2=>?_)
  ·obtain⟨a,l,rfl⟩:∃a l,s=a::l:=by
    cases s with
    |nil=>exact absurd (tt h2) (by simp)
    |cons a l=>exact⟨a,l,rfl⟩
   simp only[List.drop_succ_cons,List.drop_zero]
   obtain⟨s',hs',hsl⟩:∃s',l=s'∧s'.length≤40:=⟨l,rfl,by simp at hs;omega⟩
   refine aC (.a 1 I<|.v (gu I (ba.el.get I) I I) I<|.a 1 I<|.k [3,5,7,9] I) ?_
   rw[hs']
   refine ab (.a 4 I<|.c rfl (pO e.push s' (by omega)) I<|.a 1 I<|.k [1,3,5,7] I)<|ab (.a 3 I<|.k [1,3,5,7,25] I)<|ag I (fun h3=>?_) (fun h3=>?_)
   ·have h3:=tt h3
    rw[if_pos (by omega)]
    refine aO<|aw 1 I<|eW I (gS p 5 hps) I<|aw 6 I<|aE [6,7,8] I ?_
    exact ao<|⟨_,_,az.of I,ay.aX (ah.cons (ay.pure (p:=av []))<|ah.cons (ay.pure (p:=dB p))<|ah.cons ay.pure ah.nil),rfl⟩
   ·have h3:=ff h3
    rw[if_neg (by omega)]
    refine ai<|aO<|aw 4 I<|eW I (mY p _ e.ax (by first|(simp only[List.length_append];omega)|omega) ha hh) I<|aw 6 I<|aE [6,7,8] I ?_
    exact ao<|⟨_,_,az.of I,ay.aX (ah.cons (ay.pure (p:=av e.ax))<|ah.cons (ay.pure (p:=dB ⟨p.id,p.src,p.dst,p.ku,_,p.dG+1⟩))<|ah.cons ay.pure ah.nil),rfl⟩
  ·obtain rfl:s=[]:=by
    cases s with
    |nil=>rfl
    |cons a l=>exact absurd (ff h2) (by simp)
   simp only[List.drop_nil]
   obtain⟨s',hs',hsl⟩:∃s',([]:List bV)=s'∧s'.length≤40:=⟨[],rfl,by simp⟩
   refine ai ?_
   rw[hs']
   refine ab (.a 4 I<|.c rfl (pO e.push s' (by omega)) I<|.a 1 I<|.k [1,3,5,7] I)<|ab (.a 3 I<|.k [1,3,5,7,25] I)<|ag I (fun h3=>?_) (fun h3=>?_)
   ·have h3:=tt h3
    rw[if_pos (by omega)]
    refine aO<|aw 1 I<|eW I (gS p 5 hps) I<|aw 6 I<|aE [6,7,8] I ?_
    exact ao<|⟨_,_,az.of I,ay.aX (ah.cons (ay.pure (p:=av []))<|ah.cons (ay.pure (p:=dB p))<|ah.cons ay.pure ah.nil),rfl⟩
   ·have h3:=ff h3
    rw[if_neg (by omega)]
    refine ai<|aO<|aw 4 I<|eW I (mY p _ e.ax (by first|(simp only[List.length_append];omega)|omega) ha hh) I<|aw 6 I<|aE [6,7,8] I ?_
    exact ao<|⟨_,_,az.of I,ay.aX (ah.cons (ay.pure (p:=av e.ax))<|ah.cons (ay.pure (p:=dB ⟨p.id,p.src,p.dst,p.ku,_,p.dG+1⟩))<|ah.cons ay.pure ah.nil),rfl⟩
 ·subst h1
  simp only[Bool.false_eq_true,if_false]
  refine ai<|aO<|aw 4 I<|eW I (mY p _ e.ax (by first|(simp only[List.length_append];omega)|omega) ha hh) I<|aw 6 I<|aE [6,7,8] I ?_
  exact ao<|⟨_,_,az.of I,ay.aX (ah.cons (ay.pure (p:=av e.ax))<|ah.cons (ay.pure (p:=dB ⟨p.id,p.src,p.dst,p.ku,_,p.dG+1⟩))<|ah.cons ay.pure ah.nil),rfl⟩
def dh(x:de)(v:Int):i6:=x.dr.getD v.toNat I9
def eD(h:bV):List bV→List bV
 | []=>[]
 |a::l=>if a=h then eD h l else a::l
def C8(T:ak)(x:de)(p:dx)(s:List bV)(v:Int)(K:Out):Out:=if(bu T v&&decide (0<((dh x v).ax.length:Int)))=true then fA p s (dh x v) else K
def dy(T:ak)(x:de)(p:dx)(s:List bV)(K:Out):Out:=
 if(decide ((s.length:Int)=0)&&decide (p.dst=x.node))=true then⟨[],⟨p.id,p.src,p.dst,p.ku,[],p.dG⟩, -1⟩
 else if(decide (255≤p.dG)||decide (p.dG<0))=true then eu p 4
 else match s with
  | []=>C8 T x p [] p.dst (eu p 1)
  |a::l=>if a.kind=1 then C8 T x p (a::l) a.num K
   else if a.kind=2 then(if(!(eQ T a.num)||decide (bm T a.num.toNat≠x.node))=true then eu p 2 else if a.num∈x.down then K else cB p l [a.num])
   else eu p 1
def dj(T:ak)(x:de)(p:dx):Out:=
 if((!cT T x)|| !(bu T p.dst))=true then eu p 1
 else if 32<(p.stack.length:Int) then eu p 5
 else dy T x p (eD ⟨1,x.node⟩ p.stack) (dy T x p [] (eu p 1))
theorem yc(h:bV):∀l:List bV,(eD h l).length≤l.length
 | []=>Nat.le_refl _
 |a::l=>by
  simp only[eD]
  split
  ·have:=yc h l;simp only[List.length_cons];omega
  ·exact Nat.le_refl _
theorem km{T:ak}{x:de}(h:cT T x=true){v:Int}(hv:bu T v=true):∃k:Nat,v=(k:Int)∧x.dr[k]? =some (dh x v)∧(dh x v).push.length≤40∧(dh x v).ax.length≤1000:=by
 unfold cT at h
 simp only[Bool.and_eq_true,decide_eq_true_eq]at h
 obtain⟨⟨⟨⟨h1,h2⟩,h3⟩,h4⟩,h5⟩:=h
 have hll:=bT h1
 obtain⟨v0,v1⟩:=aT.1 hv
 obtain⟨k,rfl⟩:=Int.eq_ofNat_of_zero_le v0
 have hk:k<x.dr.length:=by omega
 have hg:x.dr[k]? =some (dh x (k:Int)):=by
  unfold dh
  rw[Int.toNat_natCast,List.getD_eq_getElem?_getD,List.getElem?_eq_getElem hk]
  rfl
 have ho:=(of_decide_eq_true h5) k hk
 rw[mW _ _ _ hg]at ho
 unfold gA at ho
 simp only[Bool.and_eq_true]at ho
 refine⟨k,rfl,hg,?_,?_⟩
 ·have:=ho.2
  split at this
  ·simp only[Bool.and_eq_true,decide_eq_true_eq]at this;omega
  ·simp only[decide_eq_true_eq]at this;omega
 ·have:=tB hll ho.1.1;omega
theorem ra{T:ak}{x:de}(h:cT T x=true):x.down.length≤1000:=by
 unfold cT at h
 simp only[Bool.and_eq_true]at h
 have:=tB (bT h.1.1.1.1) h.1.2
 omega
set_option maxHeartbeats 2000000 in
theorem Dc(T : ak)(x : de)(p : dx)(hps : p.stack.length ≤ 1000) : Can Tryz.prog 47 [aP T, fw x, dB p] (· = vv (dj T x p)) := by
  obtain⟨c1,hc1⟩:∃q,cT T x=q:=⟨_,rfl⟩
  obtain⟨c2,hc2⟩:∃q,bu T p.dst=q:=⟨_,rfl⟩
  obtain⟨n,hn⟩:∃n,x.node=n:=⟨_,rfl⟩
  unfold dj
  rw[hc1,hc2]
  refine aH Tryz.func47 I Tryz.ntmps47 I<|aO<|aw 6 I<|aE [3,4,5,7] I ?_
  refine AJ ?_
  refine aj<|bz 22 (.raw (.bool ((!c1)|| !c2))) [3,4,5,7] I ?_ ?_
  · refine .a 2 I<|.c rfl (hc1▸sK T x) I<|.a 2 I<|?_
    cases c1
    · exact .a 6 I<|.k [22,3,4,5,7] I
    · exact .a 3 I<|.c rfl (hc2▸dJ T p.dst) I<|.a 2 I<|.k [22,3,4,5,7] I
  refine ag I (fun h1=>?_) (fun h1=>?_)
  · rw[if_pos h1]
    refine aO<|aw 1 I<|eW I (gS p 1 hps) I<|aw 6 I<|aE [6,7,8] I ?_
    exact ao<|⟨_,_,az.of I,ay.aX (ah.cons (ay.pure (p:=av []))<|ah.cons (ay.pure (p:=dB p))<|ah.cons ay.pure ah.nil),rfl⟩
  · rw [if_neg (by rw [h1]; simp)]
    obtain⟨rfl,rfl⟩:c1=true∧c2=true:=by revert h1;cases c1<;>cases c2<;>simp
    refine ai<|aj<|ab (.a 1 I<|.v (aJ I ((rfl:(cL p)[4]? =some (cc p.stack)))) I<|.a 2 I<|.k [3,4,5,7,31] I)<|ag I (fun h2=>?_) (fun h2=>?_)
    · rw[if_pos (tt h2)]
      refine aO<|aw 1 I<|eW I (gS p 5 hps) I<|aw 6 I<|aE [6,7,8] I ?_
      exact ao<|⟨_,_,az.of I,ay.aX (ah.cons (ay.pure (p:=av []))<|ah.cons (ay.pure (p:=dB p))<|ah.cons ay.pure ah.nil),rfl⟩
    · rw [if_neg (ff h2)]
      have h32:p.stack.length≤32:=by have:=ff h2;omega
      refine ai<|ab (.a 1 I<|.v (aJ I ((rfl:(cL p)[4]? =some (cc p.stack)))) I<|.a 1 I<|.k [3,4,5,7,9] I)<|aO<|aw 1 I<|bw (aJ I ((show(eL x)[0]? =some (num n) by rw[←hn];rfl))) I<|aw 3 I<|aE [3,4,5,7,9,10] I ?_
      refine aj<|au<|eH [3,4,5,7,9,10] I<|bq (fun r st=>∃s:List bV,s.length≤32∧r=s.length∧eD ⟨1,n⟩ p.stack=eD ⟨1,n⟩ s∧st=⟨[(3,.bb (bC T) 0),(4,.bb (eL x) 0),(5,.bb (cL p) 0),(7,.ptr 0 0),(9,cc s),(10,.ptr 1 0)],[some (.cells 66 [num 0,num 0,num 0,num 0,.raw (.slice none 0 0),num 0]),some (.cells 103 [num 1,num n])]⟩) p.stack.length ⟨p.stack,h32,rfl,rfl,rfl⟩ ?_
      rintro r st ⟨s,hs,rfl,hsk,rfl⟩
      obtain⟨e1,he1⟩:∃q,decide (0<(s.length:Int))=q:=⟨_,rfl⟩
      obtain⟨a,ha⟩:∃a,s.getD 0 ⟨0,0⟩=a:=⟨_,rfl⟩
      obtain⟨e2,he2⟩:∃q,decide (a=(⟨1,n⟩:bV))=q:=⟨_,rfl⟩
      refine aj<|iJ mixed (by kernel_rfl) 51 (.raw (.bool (e1&&e2))) [3,4,5,7,9,10] I ?_ ?_
      · refine .a 2 I<|.v [43] (cf I (he1)) I I<|.a 1 I<|?_
        cases e1
        · exact .a 6 I<|.k [51,3,4,5,7,9,10] I
        · exact .a 1 I<|.v [46] (aN (0) I (by omega) (by have:=tt he1;omega)) I I<|.v [47] (eU I (gv s 0 a (by rw[←ha];have:=tt he1;rw[List.getD_eq_getElem?_getD,List.getElem?_eq_getElem (by omega)];rfl)) I) I I<|.a 1 I<|.v [48,49] (wN I I (b:=⟨1,n⟩) I he2) I I<|.a 1 I<|.k [51,3,4,5,7,9,10] I
      refine ag I (fun h3=>?_) (fun h3=>?_)
      · obtain⟨rfl,rfl⟩:=Bool.and_eq_true_iff.1 h3
        obtain⟨l,rfl⟩:∃l,s=(⟨1,n⟩:bV)::l:=by
          have h4:=tt he2
          cases s with
          |nil=>exact absurd (tt he1) (by simp)
          |cons b l=>exact⟨l,by rw[←h4,←ha];rfl⟩
        simp only[eD,if_true]at hsk
        refine ai<|au<|aC (.a 1 I<|.v (gu I (ba.el.get I) I I) I<|.a 1 I<|.k [3,4,5,7,9,10] I) ?_
        exact⟨l.length,by simp,l,by simp at hs;omega,rfl,hsk,rfl⟩
      · have hsk:eD ⟨1,n⟩ p.stack=s:=by
          rw[hsk]
          cases s with
          |nil=>rfl
          |cons b l=>
            have e1t:e1=true:=by rw[←he1];simp
            rw[e1t,Bool.true_and]at h3
            rw[h3]at he2
            have h5:=ff he2
            simp only[eD]
            rw[if_neg (by rw[←ha]at h5;exact h5)]
        rw[hn,hsk]
        clear he1 ha he2 h3
        refine bd<|aj<|AK ?_
        refine au<|eH [3,4,5,7,9] I<|bq (fun r st=>∃(s':List bV) (z:PV),kK z (cc s')∧s'.length≤32∧r=s'.length∧dy T x p s (dy T x p [] (eu p 1))=dy T x p s' (dy T x p [] (eu p 1))∧st=⟨[(3,.bb (bC T) 0),(4,.bb (eL x) 0),(5,.bb (cL p) 0),(7,.ptr 0 0),(9,z)],[some (.cells 66 [num 0,num 0,num 0,num 0,.raw (.slice none 0 0),num 0]),some (.cells 103 [num 1,num n])]⟩) s.length ⟨s,_,kK.refl _,hs,rfl,rfl,rfl⟩ ?_
        clear hsk hs
        rintro r st ⟨s',z,hz,hs,rfl,hR,rfl⟩
        refine ln (t':=[(3,.bb (bC T) 0),(4,.bb (eL x) 0),(5,.bb (cL p) 0),(7,.ptr 0 0),(9,cc s')]) ?_ ?_
        · exact Sub.cons rfl<|Sub.cons rfl<|Sub.cons rfl<|Sub.cons rfl<|Sub.IU rfl hz<|Sub.nil _
        clear hz
        rw[hR]
        clear hR
        obtain⟨K0,hK0⟩:∃K,dy T x p [] (eu p 1)=K:=⟨_,rfl⟩
        rw[hK0]
        obtain⟨R,hS⟩:∃R,dy T x p s' K0=R:=⟨_,rfl⟩
        rw[hS]
        have hRR:=hS
        unfold dy at hRR
        obtain⟨c5,hc5⟩:∃q,decide ((s'.length:Int)=0)=q:=⟨_,rfl⟩
        obtain⟨c6,hc6⟩:∃q,decide (p.dst=n)=q:=⟨_,rfl⟩
        obtain⟨c7,hc7⟩:∃q,decide (255≤p.dG)=q:=⟨_,rfl⟩
        obtain⟨c8,hc8⟩:∃q,decide (p.dG<0)=q:=⟨_,rfl⟩
        rw[hc5,hn,hc6,hc7,hc8]at hRR
        refine au<|aj<|bz 63 (.raw (.bool (c5&&c6))) [3,4,5,7,9] I ?_ ?_
        · refine .a 2 I<|.v (cf I (hc5)) I<|.a 1 I<|?_
          cases c5
          · exact .a 6 I<|.k [63,3,4,5,7,9] I
          · exact .a 1 I<|.v (aJ I ((rfl:(cL p)[2]? =some (num p.dst)))) I<|.a 1 I<|.v (aJ I ((show(eL x)[0]? =some (num n) by rw[←hn];rfl))) I<|.v (cf I (hc6)) I<|.a 1 I<|.k [63,3,4,5,7,9] I
        refine ag I (fun h1=>?_) (fun h1=>?_)
        · rw[if_pos h1]at hRR
          subst hRR
          refine aO<|aw 1 I<|bw (s4 I (ah.cons ay.pure<|ah.cons ay.bM ah.nil) (rz p [] (by simp))) I<|aw 3 I<|aE [6,7,8] I ?_
          exact ao<|⟨_,_,az.of I,ay.aX (ah.cons ay.bM<|ah.cons (ay.pure (p:=dB ⟨p.id,p.src,p.dst,p.ku,[],p.dG⟩))<|ah.cons ay.pure ah.nil),rfl⟩
        · rw [if_neg (by rw [h1]; simp)] at hRR
          refine ai<|aj<|bz 73 (.raw (.bool (c7||c8))) [3,4,5,7,9] I ?_ ?_
          · refine .a 1 I<|.v (aJ I ((rfl:(cL p)[5]? =some (num p.dG)))) I<|.v (cf I (hc7)) I<|.a 1 I<|?_
            cases c7
            · exact .a 1 I<|.v (aJ I ((rfl:(cL p)[5]? =some (num p.dG)))) I<|.v (cf I (hc8)) I<|.a 1 I<|.k [73,3,4,5,7,9] I
            · exact .a 4 I<|.k [73,3,4,5,7,9] I
          refine ag I (fun h2=>?_) (fun h2=>?_)
          · rw[if_pos h2]at hRR
            subst hRR
            refine aO<|aw 1 I<|eW I (gS p 4 hps) I<|aw 6 I<|aE [6,7,8] I ?_
            exact ao<|⟨_,_,az.of I,ay.aX (ah.cons (ay.pure (p:=av []))<|ah.cons (ay.pure (p:=dB p))<|ah.cons ay.pure ah.nil),rfl⟩
          · rw [if_neg (by rw [h2]; simp)] at hRR
            have hh:0≤p.dG∧p.dG≤1000:=by
              obtain⟨h3,h4⟩:=Bool.or_eq_false_iff.1 h2
              rw[←hc7]at h3
              rw[←hc8]at h4
              have:=ff h3
              have:=ff h4
              omega
            clear hc5 hc6 hc7 hc8 h1 h2
            refine ai ?_
            obtain⟨v,hv⟩:∃v,p.dst=v:=⟨_,rfl⟩
            refine ab (.a 1 I<|.v (aJ I ((show(cL p)[2]? =some (num v) by rw[←hv];rfl))) I<|.a 1 I<|.k [3,4,5,7,9,11] I)<|aj<|ab (.a 3 I<|.k [3,4,5,7,9,11,83] I)<|ag I (fun h3=>?_) (fun h3=>?_)
            · have hne:0<s'.length:=by have:=tt h3;omega
              obtain⟨a,l,hs'⟩:∃a l,s'=a::l:=by
                cases s' with
                |nil=>exact absurd hne (by simp)
                |cons a l=>exact⟨a,l,rfl⟩
              have h0:s'[0]? =some a:=by rw[hs'];rfl
              rw[hs']at hRR
              dsimp only at hRR
              rw[←hs']at hRR
              clear hv
              obtain⟨v,hv⟩:∃v,a.num=v:=⟨_,rfl⟩
              rw[hv]at hRR
              refine ab (.a 1 I<|.v (aN (0) I (by omega) (by omega)) I<|.a 1 I<|.v (aJ I (((Js s' 0 a h0).trans (by rw[hv])))) I<|.a 1 I<|.k [3,4,5,7,9,11] I)<|ab (.a 1 I<|.v (aN (0) I (by omega) (by omega)) I<|.a 1 I<|.v (aJ I ((Jz s' 0 a h0))) I<|.k [3,4,5,7,9,11,91] I)<|au<|ab (.a 2 I<|.k [3,4,5,7,9,11,91,97] I)<|ag I (fun h4=>?_) (fun h4=>?_)
              · rw[if_pos (tt h4)]at hRR
                obtain⟨K1,hK1,hK1n,hK1p⟩:∃K1,K1=K0∧(s'.length=0→K1=eu p 1)∧(0<s'.length→K1=K0):=⟨_,rfl,fun h=>absurd h (by omega),fun h=>rfl⟩
                rw[←hK1]at hRR
                clear hK1 h3 h4 hs' hv h0
                refine ai<|aj ?_
                obtain⟨c11,hc11⟩:∃q,bu T v=q:=⟨_,rfl⟩
                have hnc:=dJ T v
                rw[hc11]at hnc
                unfold C8 at hRR
                have hes:c11=true→x.dr[v.toNat]? =some (dh x v)∧(dh x v).push.length≤40∧(dh x v).ax.length≤1000∧v<(x.dr.length:Int)∧0≤v:=fun h=>by
                  obtain⟨k,rfl,g1,g2,g3⟩:=km hc1 (hc11.trans h)
                  have:=(List.getElem?_eq_some_iff.1 g1).1
                  exact⟨g1,g2,g3,by omega,by omega⟩
                obtain⟨e,he⟩:∃e,dh x v=e:=⟨_,rfl⟩
                obtain⟨I7,hc12⟩:∃q,decide (0<(e.ax.length:Int))=q:=⟨_,rfl⟩
                rw[he]at hes hRR
                rw[hc11,hc12]at hRR
                refine vf (Q1:=fun st=>st=⟨[(143,flag (c11&&I7)),(3,.bb (bC T) 0),(4,.bb (eL x) 0),(5,.bb (cL p) 0),(7,.ptr 0 0),(9,cc s'),(11,num v)],[some (.cells 66 [num 0,num 0,num 0,num 0,.raw (.slice none 0 0),num 0]),some (.cells 103 [num 1,num n])]⟩) ?_ ?_
                · cases c11
                  · refine aC (.a 2 I<|.c rfl (hnc) I<|.a 10 I<|.k [143,3,4,5,7,9,11] I) ?_
                    rfl
                  · refine aC (.a 2 I<|.c rfl (hnc) I<|.a 2 I<|.v (aJ I ((rfl:(eL x)[1]? =some (iv x.dr)))) I<|.a 1 I<|.v (aN ((v.toNat*3)) I (hes rfl).2.2.2.2 (hes rfl).2.2.2.1) I<|.a 1 I<|.v (aJ I ((oO x.dr v.toNat 0 e (hes rfl).1 (by omega)))) I<|.a 1 I<|.v (cf I (hc12)) I<|.a 1 I<|.k [143,3,4,5,7,9,11] I) ?_
                    rfl
                rintro _ rfl
                refine ag I (fun h8=>?_) (fun h8=>?_)
                · rw[if_pos h8]at hRR
                  obtain⟨g1,g2,g3,g4,g5⟩:=hes (Bool.and_eq_true_iff.1 h8).1
                  subst hRR
                  refine iw 12 20 mixed (
                    .val [5] I (aZ I) I I<|
                    .val [9] I (aZ I) I I<|
                    .val [4] I (aZ I) I I<|
                    .val [146] I (aJ I ((rfl:(eL x)[1]? =some (iv x.dr)))) I I<|
                    .val [11] I (aZ I) I I<|
                    .val [147,148] I (aN ((v.toNat*3)) I g5 g4) I I<|
                    .val [149] I (eU I ((jg x.dr v.toNat e g1)) I) I I<|
                    .val [144,145,150] I (dU I (uE p s' e (by omega) g2 g3 hps hh)) I I<|
                    .val [151] I (aZ I) I I<|
                    .val [151] I (aZ I) I I<|
                    .val [151] I (aZ I) I I<|
                    .val [152] I (aZ I) I I<|
                    .nil) (by kernel_rfl) I I (aY (ks:=[6,7,153,154]) I) ?_
                  refine aw 2 I<|aE [6,7,8] I ?_
                  exact ao<|⟨_,_,az.of I,ay.aX (ah.cons (ay.pure (p:=av (fA p s' e).ax))<|ah.cons (ay.pure (p:=dB (fA p s' e).eo))<|ah.cons ay.pure ah.nil),rfl⟩
                · rw[if_neg (by rw[h8];simp)]at hRR
                  refine ai<|aj<|ab (.a 3 I<|.k [3,4,5,7,157] I)<|ag I (fun h9=>?_) (fun h9=>?_)
                  · rw[hK1n (by have:=tt h9;omega)]at hRR
                    subst hRR
                    refine aO<|aw 1 I<|eW I (gS p 1 hps) I<|aw 6 I<|aE [6,7,8] I ?_
                    exact ao<|⟨_,_,az.of I,ay.aX (ah.cons (ay.pure (p:=av []))<|ah.cons (ay.pure (p:=dB p))<|ah.cons ay.pure ah.nil),rfl⟩
                  · have hne:0<s'.length:=by have:=ff h9;omega
                    rw[hK1p hne]at hRR
                    refine ai<|aC (.a 1 I<|.k [3,4,5,7,9] I) ?_
                    exact⟨0,hne,[],_,kK.bM,by simp,rfl,hRR.symm.trans (hK0.symm.trans rfl),rfl⟩
              · rw[if_neg (ff h4)]at hRR
                refine ab (.a 2 I<|.k [3,4,5,7,9,11,99] I)<|ag I (fun h5=>?_) (fun h5=>?_)
                · rw[if_pos (tt h5)]at hRR
                  obtain⟨c9,hc9⟩:∃q,eQ T v=q:=⟨_,rfl⟩
                  obtain⟨c10,hc10⟩:∃q,decide (bm T v.toNat≠n)=q:=⟨_,rfl⟩
                  have hac:=qw T (by have h:=hc1;unfold cT at h;simp only[Bool.and_eq_true]at h;have:=bT h.1.1.1.1;omega) v
                  rw[hc9]at hac
                  rw[hc9,hc10]at hRR
                  refine aj<|iJ mixed (by kernel_rfl) 112 (.raw (.bool ((!c9)||c10))) [3,4,5,7,9,11] I ?_ ?_
                  · refine .a 2 I<|.v [101,102] (dU I (hac)) I I<|.a 2 I<|?_
                    cases c9
                    · exact .a 7 I<|.k [112,3,4,5,7,9,11] I
                    · exact .a 2 I<|.v [106,107] (dU I (px T v hc9)) I I<|.a 1 I<|.v [109] (aJ I ((show(eL x)[0]? =some (num n) by rw[←hn];rfl))) I I<|.v [108,110] (cf I (hc10)) I I<|.a 1 I<|.k [112,3,4,5,7,9,11] I
                  refine ag I (fun h6=>?_) (fun h6=>?_)
                  · rw[if_pos h6]at hRR
                    subst hRR
                    refine aO<|aw 1 I<|eW I (gS p 2 hps) I<|aw 6 I<|aE [6,7,8] I ?_
                    exact ao<|⟨_,_,az.of I,ay.aX (ah.cons (ay.pure (p:=av []))<|ah.cons (ay.pure (p:=dB p))<|ah.cons ay.pure ah.nil),rfl⟩
                  · rw[if_neg (by rw[h6];simp)]at hRR
                    refine ai<|aj<|ab (.a 1 I<|.v (aJ I ((rfl:(eL x)[2]? =some (av x.down)))) I<|.a 1 I<|.c rfl (sZ x.down v (ra hc1)) I<|.k [3,4,5,7,9,11,121] I)<|ag I (fun h7=>?_) (fun h7=>?_)
                    · rw[if_pos (tt h7)]at hRR
                      exact ab (.a 1 I<|.k [3,4,5,7,9] I)<|bd<|⟨0,hne,[],_,kK.bM,by simp,rfl,hRR.symm.trans (hK0.symm.trans rfl),rfl⟩
                    · rw[if_neg (ff h7)]at hRR
                      subst hRR
                      subst hs'
                      refine ai<|iw 10 20 mixed (
                        .val [5] I (aZ I) I I<|
                        .val [9] I (aZ I) I I<|
                        .val [123] I (gu I (ba.el.get I) I I) I I<|
                        .val [11] I (aZ I) I I<|
                        .val [125] I (aZ I) I I<|
                        .val [122,124,126] I (dU I (mY p l [v] (by simp at hs;omega) (by simp) hh)) I I<|
                        .val [127] I (aZ I) I I<|
                        .val [127] I (aZ I) I I<|
                        .val [127] I (aZ I) I I<|
                        .val [128] I (aZ I) I I<|
                        .nil) (by kernel_rfl) I I (aY (ks:=[6,7,129,130]) I) ?_
                      refine aw 2 I<|aE [6,7,8] I ?_
                      exact ao<|⟨_,_,az.of I,ay.aX (ah.cons (ay.pure (p:=av [v]))<|ah.cons (ay.pure (p:=dB (cB p l [v]).eo))<|ah.cons ay.pure ah.nil),rfl⟩
                · rw[if_neg (ff h5)]at hRR
                  subst hRR
                  refine aO<|aw 1 I<|eW I (gS p 1 hps) I<|aw 6 I<|aE [6,7,8] I ?_
                  exact ao<|⟨_,_,az.of I,ay.aX (ah.cons (ay.pure (p:=av []))<|ah.cons (ay.pure (p:=dB p))<|ah.cons ay.pure ah.nil),rfl⟩
            · have hs':s'=[]:=by
                cases s' with
                |nil=>rfl
                |cons a l=>exact absurd (ff h3) (by simp)
              rw[hs']at hRR
              dsimp only at hRR
              rw[←hs',hv]at hRR
              obtain⟨K1,hK1,hK1n,hK1p⟩:∃K1,K1=eu p 1∧(s'.length=0→K1=eu p 1)∧(0<s'.length→K1=K0):=⟨_,rfl,fun _=>rfl,fun h=>absurd h (by rw[hs'];simp)⟩
              rw[←hK1]at hRR
              clear hK1 h3 hs' hv
              refine ai<|aj ?_
              obtain⟨c11,hc11⟩:∃q,bu T v=q:=⟨_,rfl⟩
              have hnc:=dJ T v
              rw[hc11]at hnc
              unfold C8 at hRR
              have hes:c11=true→x.dr[v.toNat]? =some (dh x v)∧(dh x v).push.length≤40∧(dh x v).ax.length≤1000∧v<(x.dr.length:Int)∧0≤v:=fun h=>by
                obtain⟨k,rfl,g1,g2,g3⟩:=km hc1 (hc11.trans h)
                have:=(List.getElem?_eq_some_iff.1 g1).1
                exact⟨g1,g2,g3,by omega,by omega⟩
              obtain⟨e,he⟩:∃e,dh x v=e:=⟨_,rfl⟩
              obtain⟨I7,hc12⟩:∃q,decide (0<(e.ax.length:Int))=q:=⟨_,rfl⟩
              rw[he]at hes hRR
              rw[hc11,hc12]at hRR
              refine vf (Q1:=fun st=>st=⟨[(143,flag (c11&&I7)),(3,.bb (bC T) 0),(4,.bb (eL x) 0),(5,.bb (cL p) 0),(7,.ptr 0 0),(9,cc s'),(11,num v)],[some (.cells 66 [num 0,num 0,num 0,num 0,.raw (.slice none 0 0),num 0]),some (.cells 103 [num 1,num n])]⟩) ?_ ?_
              · cases c11
                · refine aC (.a 2 I<|.c rfl (hnc) I<|.a 10 I<|.k [143,3,4,5,7,9,11] I) ?_
                  rfl
                · refine aC (.a 2 I<|.c rfl (hnc) I<|.a 2 I<|.v (aJ I ((rfl:(eL x)[1]? =some (iv x.dr)))) I<|.a 1 I<|.v (aN ((v.toNat*3)) I (hes rfl).2.2.2.2 (hes rfl).2.2.2.1) I<|.a 1 I<|.v (aJ I ((oO x.dr v.toNat 0 e (hes rfl).1 (by omega)))) I<|.a 1 I<|.v (cf I (hc12)) I<|.a 1 I<|.k [143,3,4,5,7,9,11] I) ?_
                  rfl
              rintro _ rfl
              refine ag I (fun h8=>?_) (fun h8=>?_)
              · rw[if_pos h8]at hRR
                obtain⟨g1,g2,g3,g4,g5⟩:=hes (Bool.and_eq_true_iff.1 h8).1
                subst hRR
                refine iw 12 20 mixed (
                  .val [5] I (aZ I) I I<|
                  .val [9] I (aZ I) I I<|
                  .val [4] I (aZ I) I I<|
                  .val [146] I (aJ I ((rfl:(eL x)[1]? =some (iv x.dr)))) I I<|
                  .val [11] I (aZ I) I I<|
                  .val [147,148] I (aN ((v.toNat*3)) I g5 g4) I I<|
                  .val [149] I (eU I ((jg x.dr v.toNat e g1)) I) I I<|
                  .val [144,145,150] I (dU I (uE p s' e (by omega) g2 g3 hps hh)) I I<|
                  .val [151] I (aZ I) I I<|
                  .val [151] I (aZ I) I I<|
                  .val [151] I (aZ I) I I<|
                  .val [152] I (aZ I) I I<|
                  .nil) (by kernel_rfl) I I (aY (ks:=[6,7,153,154]) I) ?_
                refine aw 2 I<|aE [6,7,8] I ?_
                exact ao<|⟨_,_,az.of I,ay.aX (ah.cons (ay.pure (p:=av (fA p s' e).ax))<|ah.cons (ay.pure (p:=dB (fA p s' e).eo))<|ah.cons ay.pure ah.nil),rfl⟩
              · rw[if_neg (by rw[h8];simp)]at hRR
                refine ai<|aj<|ab (.a 3 I<|.k [3,4,5,7,157] I)<|ag I (fun h9=>?_) (fun h9=>?_)
                · rw[hK1n (by have:=tt h9;omega)]at hRR
                  subst hRR
                  refine aO<|aw 1 I<|eW I (gS p 1 hps) I<|aw 6 I<|aE [6,7,8] I ?_
                  exact ao<|⟨_,_,az.of I,ay.aX (ah.cons (ay.pure (p:=av []))<|ah.cons (ay.pure (p:=dB p))<|ah.cons ay.pure ah.nil),rfl⟩
                · have hne:0<s'.length:=by have:=ff h9;omega
                  rw[hK1p hne]at hRR
                  refine ai<|aC (.a 1 I<|.k [3,4,5,7,9] I) ?_
                  exact⟨0,hne,[],_,kK.bM,by simp,rfl,hRR.symm.trans (hK0.symm.trans rfl),rfl⟩
end
section
open Go.RowKit cG Mem Net
section
variable {T:ak} {D:List Bool}
theorem Ch.snoc{d n:Nat}{q:List Int}(h:Ch T D d n q):∀ {a x:Nat},(q=[]∨dp T d=false)→a<2*T.ae.length→bm T a=(d:Int)→aQ D a=false→aS T a=(x:Int)→Ch T D x n (q++[(a:Int)]):=by
 induction h with
 |nil=>intro a x _ h1 h2 h3 h4;exact .cons h1 h2 h3 h4 (.inl rfl) .nil
 | @cons n b m p hb ht hu hm ho hp ih=>
  intro a x hov h1 h2 h3 h4
  have hov':dp T d=false:=by rcases hov with h|h;cases h;exact h
  refine .cons hb ht hu hm ?_ (ih (.inr hov') h1 h2 h3 h4)
  rcases ho with h|h
  ·have:=hp.to h
   subst this
   exact .inr hov'
  ·exact .inr h
theorem Jq(hv:aq T=true){n:Nat}(hn:(n:Int)<T.nodes){d m:Nat}{p:List Int}(h:Ch T D d m p)(h0:0≤at' (bG T D n true) (m:Int))(ho:p=[]∨m=n∨dp T m=false):0≤at' (bG T D n true) (d:Int):=by
 have hI:=jF (aM hv) D true hn
 induction h with
 |nil=>exact h0
 | @cons m a m' p ha ht hu hm hov hp ih=>
  have hw:=hI.closed a ha ⟨hu,by simp only[cY,if_true];rw[ht];exact h0,by
   simp only[cY,if_true];rw[ht]
   rcases ho with h|h|h
   ·cases h
   ·exact .inl (by rw[h])
   ·exact .inr (by simpa using h)⟩
  simp only[fL,if_true]at hw
  rw[hm]at hw
  refine ih hw.1 ?_
  rcases hov with h|h
  ·exact .inl h
  ·exact .inr (.inr h)
theorem JI(hv:aq T=true){n:Nat}(hn:(n:Int)<T.nodes):∀(k x:Nat),(x:Int)<T.nodes→0≤at' (bG T D n true) (x:Int)→at' (bG T D n true) (x:Int)≤k→0≤dN T D x n:=by
 have hS:=aM hv
 have hI:=jF hS D true hn
 intro k
 induction k with
 |zero=>
  intro x hx h0 hk
  rcases hI.nm x hx h0 with h|⟨a,ha,hX,hW,hs⟩
  ·subst h;rw[kR hv hn];exact Int.le_refl _
  ·have:=(hS.cost a ha).1
   have:=hW.2.1
   omega
 |succ k ih=>
  intro x hx h0 hk
  rcases hI.nm x hx h0 with h|⟨a,ha,hX,hW,hs⟩
  ·subst h;rw[kR hv hn];exact Int.le_refl _
  ·simp only[fL,cY,if_true]at hX hs
   obtain⟨hu,hy0,hyo⟩:=hW
   simp only[cY,if_true]at hy0 hyo
   have hc:=(hS.cost a ha).1
   have ht:=hS.tail a ha
   obtain⟨y,hy⟩:=Int.eq_ofNat_of_zero_le ht.1
   rw[hy]at hy0 hyo hs ht
   have hyN:(y:Int)<T.nodes:=ht.2
   have h1:=ih y hyN hy0 (by omega)
   have hsp:=eM (D:=D) hv hyN hn h1
   have hc2:=hsp.ch.snoc (a:=a) (x:=x) (by
    rcases hyo with h|h
    ·have:y=n:=by omega
     subst this
     exact .inl hsp.self
    ·exact .inr (by simpa using h)) ha hy hu hX
   exact(hc2.le hv hx).1
theorem Ig(hv:aq T=true){n d:Nat}(hn:(n:Int)<T.nodes)(hd:(d:Int)<T.nodes):0≤(bG T D n true).getD d 0↔0≤dN T D d n:=by
 have hS:=aM hv
 have hI:=jF hS D true hn
 have hl:=hI.len
 have e:(bG T D n true).getD d 0=at' (bG T D n true) (d:Int):=by
  unfold at'
  rw[Int.toNat_natCast,List.getD_eq_getElem?_getD,List.getD_eq_getElem?_getD,List.getElem?_eq_getElem (by omega)]
  rfl
 rw[e]
 constructor
 ·intro h0
  exact JI hv hn (at' (bG T D n true) (d:Int)).toNat d hd h0 (by have:=Int.toNat_of_nonneg h0;omega)
 ·intro h0
  have hsp:=eM (D:=D) hv hd hn h0
  refine Jq hv hn hsp.ch ?_ (.inr (.inl rfl))
  rw[hI.root]
  exact Int.le_refl _
end
open eY
def gi(T:ak)(a:Nat):Int:=(cF T.ae (a / 2)).vg
noncomputable def gR(T:ak)(D:List Bool)(n d:Int):Bool:=decide (gV T D n d=0)
noncomputable def dz(T:ak)(a:Nat)(d:Int):Int×Int:=
 if(decide (0<gi T a)&&gR T (aF T 3 (gi T a)) (bm T a) d)=true then(3,gi T a)
 else if(decide (aS T a≠d)&&gR T (aF T 2 (aS T a)) (bm T a) d)=true then(2,aS T a)
 else(1,((a / 2:Nat):Int))
def fX(T:ak)(M:List Bool)(n:Int):List Bool:=(List.range (2*T.ae.length)).map fun a=>aQ M a&&decide (bm T a=n)
def orM(T:ak)(D E:List Bool):List Bool:=(List.range (2*T.ae.length)).map fun a=>aQ D a||aQ E a
theorem xH{f:Nat→Bool}{n a:Nat}:aQ ((List.range n).map f) a=(decide (a<n)&&f a):=by
 unfold aQ
 rw[List.getD_eq_getElem?_getD,List.getElem?_map]
 by_cases h:a<n
 ·rw[List.getElem?_range h];simp[h]
 ·rw[List.getElem?_eq_none (by simp;omega)];simp[h]
theorem sv{T:ak}{f:Nat→Bool}:bW T ((List.range (2*T.ae.length)).map f)=true:=by simp[bW]
theorem nW{T:ak}{M:List Bool}{n:Int}{a:Nat}:aQ (fX T M n) a=(decide (a<2*T.ae.length)&&(aQ M a&&decide (bm T a=n))):=xH
theorem Hz{T:ak}{D E:List Bool}{a:Nat}:aQ (orM T D E) a=(decide (a<2*T.ae.length)&&(aQ D a||aQ E a)):=xH
theorem du(T:ak)(k x:Int):bW T (aF T k x)=true:=sv
theorem Dz(T:ak)(M:List Bool)(n:Int):bW T (fX T M n)=true:=sv
theorem vK(T:ak)(D E:List Bool):bW T (orM T D E)=true:=sv
theorem mN{T:ak}{D:List Bool}{x y:Nat}(hv:aq T=true)(hf:bW T D=true)(hx:(x:Int)<T.nodes)(hy:(y:Int)<T.nodes):gR T D x y=true↔0≤dN T D y x:=by
 unfold gR
 rw[decide_eq_true_eq,kE hv hf hx hy]
 split<;>omega
theorem tA{T:ak}(hv:aq T=true){a:Nat}(ha:a<2*T.ae.length):0≤gi T a∧gi T a≤64:=by
 have h:=rf hv (a / 2) (by omega)
 unfold gi
 unfold iU at h
 rw[Bool.and_eq_true]at h
 unfold bK at h
 exact of_decide_eq_true h.2
theorem xC{T:ak}(hv:aq T=true){a:Nat}(ha:a<2*T.ae.length)(d:Int):cj T (dz T a d).1 (dz T a d).2=true:=by
 have hg:=tA hv ha
 unfold dz
 split
 ·rename_i h
  rw[Bool.and_eq_true,decide_eq_true_eq]at h
  show cj T 3 (gi T a)=true
  unfold cj
  simp only[if_neg (show ¬(3:Int)=1 by decide),if_neg (show ¬(3:Int)=2 by decide),if_true,Bool.and_eq_true,decide_eq_true_eq]
  exact⟨by omega,by omega⟩
 ·split
  ·obtain⟨h0,h1⟩:=(aM hv).head a ha
   show cj T 2 (aS T a)=true
   unfold cj
   simp only[if_neg (show ¬(2:Int)=1 by decide),if_true]
   exact aT.2 ⟨h0,h1⟩
  ·show cj T 1 ((a / 2:Nat):Int)=true
   unfold cj
   simp only[if_true,Bool.and_eq_true,decide_eq_true_eq]
   exact⟨by omega,by omega⟩
def lE(own:List Bool)(l:List Int):Option Int:=l.find? fun a=>aQ own a.toNat
noncomputable def ph(T:ak)(own:List Bool)(n d:Int)(a:Nat):List Bool:=
 if gR T (orM T (aF T (dz T a d).1 (dz T a d).2) own) n d=true then orM T (aF T (dz T a d).1 (dz T a d).2) own else own
noncomputable def nF(T:ak)(own:List Bool)(n d:Nat):i6:=match lE own (bH T [] n d)with
 |none=>⟨bH T [] n d,false,[]⟩
 |some a=>jY T (ph T own n d a.toNat) n d
noncomputable def pC(T:ak)(own:List Bool)(n k:Nat):List i6:=(List.range k).map fun d=>nF T own n d
theorem B9(T:ak)(own:List Bool)(n k:Nat):pC T own n (k+1)=pC T own n k++[nF T own n k]:=by simp[pC,List.range_succ]
theorem rO(T:ak)(own:List Bool)(n k:Nat):(pC T own n k).length=k:=by simp[pC]
theorem yk{T:ak}{own:List Bool}{n k d:Nat}(h:d<k):(pC T own n k)[d]? =some (nF T own n d):=by simp[pC,h]
noncomputable def qU(T:ak)(M:List Bool)(n:Nat):de:=⟨n,pC T (fX T M n) n T.nodes.toNat,cQ M (bP T n)⟩
section
variable {T:ak} {M own:List Bool} {n d:Nat}
theorem xc(hf:bW T own=true)(a:Nat):bW T (ph T own n d a)=true:=by
 unfold ph;split
 ·exact vK _ _ _
 ·exact hf
theorem FV{l:List Int}(h:lE own l=none):∀a∈l,aQ own a.toNat=false:=fun a ha=>by
 have:=List.find?_eq_none.1 h a ha
 simpa using this
theorem wW{l:List Int}{a:Int}(h:lE own l=some a):a∈l∧aQ own a.toNat=true:=⟨List.mem_of_find?_eq_some h,by have:=List.find?_some (p:=fun a:Int=>aQ own a.toNat) h;exact this⟩
theorem JK(hv:aq T=true)(h12:T.nodes≤12):gA T n d (nF T own n d)=true:=by
 unfold nF
 cases lE own (bH T [] n d)with
 |some b=>exact Fb _ _ _ _ h12
 |none=>
  unfold gA
  simp only[q9,Bool.true_and]
  by_cases hdn:d=n
  ·subst hdn;rw[jl];simp
  ·rw[decide_eq_false (by omega)];simp
theorem po(hv:aq T=true)(h12:T.nodes≤12)(hn:(n:Int)<T.nodes):cT T (qU T M n)=true:=by
 unfold cT qU
 have h1:bu T (n:Int)=true:=aT.2 ⟨by omega,hn⟩
 have hN:=(aM hv).nodes
 have h2:decide (((pC T (fX T M n) n T.nodes.toNat).length:Int)=T.nodes)=true:=decide_eq_true (by rw[rO];omega)
 have h3:eC T n (cQ M (bP T n))=true:=mD T n _
 have h4:nG T n (pC T (fX T M n) n T.nodes.toNat)=true:=ib fun d e he=>by
  have hd:d<T.nodes.toNat:=by
   have:=(List.getElem?_eq_some_iff.1 he).1
   rwa [rO]at this
  rw[yk hd]at he
  cases he
  exact JK hv h12
 rw[hv,h1,h2,h3,h4]
 rfl
theorem wB{D E:List Bool}(hv:aq T=true)(hn:(n:Int)<T.nodes)(hd:(d:Int)<T.nodes)(hE:∀a,a<2*T.ae.length→aQ D a=false→aQ E a=false)(h:0≤dN T D d n):0≤dN T E d n:=by
 have hsp:=eM (D:=D) hv hd hn h
 have hch:Ch T E d n (cA T D n d):=by
  have:=hsp.ch
  generalize cA T D n d=p at this
  clear hsp h hn
  induction this with
  |nil=>exact .nil
  |cons ha ht hu hm ho hp ih=>exact .cons ha ht (hE _ ha hu) hm ho ih
 exact(hch.le hv hd).1
end
end
section
open Go.RowKit cG Mem Net
section
variable {T:ak} {D:List Bool}
theorem iP.tail{n y m:Nat}{a:Int}{p:List Int}(h:iP T D n y (a::p))(hm:aS T a.toNat=(m:Int)):(p=[]∧m=y)∨iP T D m y p:=by
 have hsp:=h.sp
 cases hsp with
 | @cons n a m' p hnr hh hp=>
  rw[Int.toNat_natCast,hh]at hm
  have e:m'=m:=by omega
  subst e
  cases p with
  |nil=>cases hp;exact .inl ⟨rfl,rfl⟩
  |cons b p=>
   refine .inr ?_
   have hpt:=h.part (i:=1) (k:=p.length+1) (by omega) (by simp)
   have hb:∃b':Nat,b=(b':Int)∧bm T b'=(m':Int):=by
    cases hp with
    |cons hn2 _ _=>exact⟨_,rfl,hn2.tail⟩
   obtain⟨b',rfl,hbt⟩:=hb
   have hfin:=h.sp.ch.fin
   have hlast:aS T (((a:Int)::(b':Int)::p).getD (p.length+1) 0).toNat=(y:Int):=by
    rw[←hfin]
    have:=gZ T (n:Int) ((a:Int)::(b':Int)::p) (p.length+1) (by simp)
    rw[←this,List.take_of_length_le (by simp)]
   rw[hlast]at hpt
   have e1:bm T (((a:Int)::(b':Int)::p).getD 1 0).toNat=(m':Int):=hbt
   rw[e1]at hpt
   obtain⟨u,v,e3,e4,hs,_⟩:=AS hpt
   have e5:m'=u:=by omega
   have e6:y=v:=by omega
   subst e5;subst e6
   have:=hs.sp.unique hs.valid hs.hy hp hs.lu
   rw[this]at hs
   exact hs
theorem iP.It{E:List Bool}{n y:Nat}{p:List Int}(h:iP T D n y p)(hf:bW T E=true)(hE:∀a,aQ D a=false→aQ E a=false):iP T E n y p:=
 ⟨h.valid,hf,h.ne,h.hx,h.hy,h.uniq,h.sp,fun a ha=>hE _ (h.up a ha)⟩
inductive sR (T:ak) (D:List Bool) (d:Nat):Nat→List bV→List Int→Prop
 |nil:sR T D d d [] []
 |node {n y:Nat} {p q:List Int} {l:List bV}:iP T D n y p→sR T D d y l q→sR T D d n (⟨1,(y:Int)⟩::l) (p++q)
 |fu {n a m:Nat} {q:List Int} {l:List bV}:a<2*T.ae.length→bm T a=(n:Int)→aQ D a=false→aS T a=(m:Int)→sR T D d m l q→sR T D d n (⟨2,(a:Int)⟩::l) ((a:Int)::q)
theorem sR.len{d n:Nat}{l:List bV}{q:List Int}(h:sR T D d n l q):l.length≤q.length:=by
 induction h with
 |nil=>exact Nat.le_refl _
 |node hs _ ih=>have:=hs.pos;simp only[List.length_cons,List.length_append];omega
 |fu _ _ _ _ _ ih=>simp only[List.length_cons];omega
theorem sR.skip{d n:Nat}{l:List bV}{q:List Int}(h:sR T D d n l q):eD ⟨1,(n:Int)⟩ l=l:=by
 cases h with
 |nil=>rfl
 |node hs _=>
  have hne:=hs.ne
  simp only[eD]
  rw[if_neg (fun e=>by cases e;exact hne rfl)]
 |fu _ _ _ _ _=>
  simp only[eD]
  rw[if_neg (fun e=>by cases e)]
theorem sR.end_{d n:Nat}{l:List bV}(h:sR T D d n l []):l=[]∧n=d:=by
 generalize hq:([]:List Int)=q at h
 cases h with
 |nil=>exact⟨rfl,rfl⟩
 |node hs _=>
  have:=hs.pos
  have h2:=congrArg List.length hq
  simp only[List.length_nil,List.length_append]at h2
  omega
 |fu _ _ _ _ _=>cases hq
structure H3 (T:ak) (D:List Bool) (n:Nat) (x:de):Prop where
 ok:cT T x=true
 node:x.node=(n:Int)
 down:∀a:Nat,(a:Int)∈x.down→aQ D a=true
 Kl:∀(y:Nat) p,iP T D n y p→(dh x (y:Int)).ax=[p.getD 0 0]∧((dh x (y:Int)).rep=true→(dh x (y:Int)).push=[⟨1,(y:Int)⟩])
theorem p8{n d:Nat}{x:de}(hx:H3 T D n x)(hd:(d:Int)<T.nodes){p:dx}(hp:p.dst=(d:Int))(hn:n=d)(hl:eD ⟨1,(n:Int)⟩ p.stack=[])(h32:p.stack.length≤32):(dj T x p).ax=[]∧(dj T x p).cS= -1:=by
 have hdb:bu T p.dst=true:=aT.2 ⟨by omega,by omega⟩
 unfold dj
 rw[hx.ok,hdb,hx.node,hl,if_neg (by simp),if_neg (by omega)]
 unfold dy
 rw[if_pos (by rw[hp,hx.node,hn];simp)]
 exact⟨rfl,rfl⟩
theorem Bj{n d:Nat}{x:de}(hx:H3 T D n x)(hd:(d:Int)<T.nodes){p:dx}(hp:p.dst=(d:Int))(hh:p.dG=0){l:List bV}{a:Int}{q:List Int}(hl:eD ⟨1,(n:Int)⟩ p.stack=l)(h:sR T D d n l (a::q))(h32:p.stack.length≤32):
  ∃(m:Nat) (s:List bV),aS T a.toNat=(m:Int)∧0≤a∧a.toNat<2*T.ae.length∧bm T a.toNat=(n:Int)∧aQ D a.toNat=false∧dj T x p=cB p s [a]∧s.length≤p.stack.length∧sR T D d m (eD ⟨1,(m:Int)⟩ s) q:=by
 have hdb:bu T p.dst=true:=aT.2 ⟨by omega,by omega⟩
 have hsl:=yc ⟨1,(n:Int)⟩ p.stack
 rw[hl]at hsl
 unfold dj
 rw[hx.ok,hdb,hx.node,hl,if_neg (by simp),if_neg (by omega)]
 generalize dy T x p [] (eu p 1)=K
 generalize hq:a::q=q0 at h
 cases h with
 |nil=>cases hq
 | @node n y pp q1 l1 hs hr=>
  obtain⟨p0,pt,rfl⟩:∃p0 pt,pp=p0::pt:=by
   cases pp with
   |nil=>exact absurd hs.pos (by simp)
   |cons p0 pt=>exact⟨p0,pt,rfl⟩
  simp only[List.cons_append,List.cons.injEq]at hq
  obtain⟨rfl,rfl⟩:=hq
  have hyb:bu T (y:Int)=true:=aT.2 ⟨by omega,hs.hy⟩
  obtain⟨e1,e2⟩:=hx.Kl y _ hs
  have ha:∃a' m:Nat,a=(a':Int)∧a'<2*T.ae.length∧bm T a'=(n:Int)∧aS T a'=(m:Int):=by
   have:=hs.sp
   cases this with
   |cons hnr hh _=>exact⟨_,_,rfl,hnr.fu,hnr.tail,hh⟩
  obtain⟨a',m,rfl,ha1,ha2,ha3⟩:=ha
  have hup:=hs.up (a':Int) (by simp)
  rw[Int.toNat_natCast]at hup ⊢
  have hskip:sR T D d m (eD ⟨1,(m:Int)⟩ (⟨1,(y:Int)⟩::l1)) (pt++q1):=by
   rcases hs.tail (m:=m) (by rw[Int.toNat_natCast];exact ha3)with⟨rfl,rfl⟩|ht
   ·simp only[eD,if_true,List.nil_append]
    rw[hr.skip]
    exact hr
   ·rw[(sR.node ht hr).skip]
    exact .node ht hr
  have hgo:dy T x p (⟨1,(y:Int)⟩::l1) K=cB p (⟨1,(y:Int)⟩::l1) [(a':Int)]:=by
   unfold dy
   rw[if_neg (by simp;intro h;omega),if_neg (by rw[hh];simp)]
   dsimp only
   rw[if_pos rfl]
   unfold C8
   rw[hyb,e1,if_pos (by simp)]
   unfold fA
   rw[e1]
   by_cases hrp:(dh x (y:Int)).rep=true
   ·rw[if_pos hrp,e2 hrp]
    have hlen:([⟨1,(y:Int)⟩]++(⟨1,(y:Int)⟩::l1:List bV).drop 1)=(⟨1,(y:Int)⟩::l1:List bV):=rfl
    rw[hlen,if_neg (by omega)]
    rfl
   ·rw[if_neg hrp]
    rfl
  exact⟨m,_,ha3,by omega,ha1,ha2,hup,hgo,hsl,hskip⟩
 | @fu n a' m q1 l1 h1 h2 h3 h4 h5=>
  simp only[List.cons.injEq]at hq
  obtain⟨rfl,rfl⟩:=hq
  rw[Int.toNat_natCast]
  have hab:eQ T (a':Int)=true:=cW.2 ⟨by omega,by omega⟩
  have hgo:dy T x p (⟨2,(a':Int)⟩::l1) K=cB p l1 [(a':Int)]:=by
   unfold dy
   rw[if_neg (by simp;intro h;omega),if_neg (by rw[hh];simp)]
   dsimp only
   rw[if_neg (by decide),if_pos rfl,hab,Int.toNat_natCast,h2,hx.node,if_neg (by simp),if_neg (fun hm=>by rw[hx.down a' hm]at h3;cases h3)]
  refine⟨m,l1,h4,by omega,h1,h2,h3,hgo,by simp only[List.length_cons]at hsl;omega,?_⟩
  rw[h5.skip]
  exact h5
theorem vm{n:Int}{p:List Int}{d:Nat}(hF:qh T D n p)(hfin:cO T n p=(d:Int)):∀(f i u:Nat),p.length - i≤f→i≤p.length→cO T n (p.take i)=(u:Int)→sR T D d u (iR T [] n p f i) (p.drop i)
 |f,i,u,hf,hi,hu=>by
  by_cases hlt:i<p.length
  ·cases f with
   |zero=>omega
   |succ f=>
    have ha:=hF.ax
    cases ht:lH (fI T [] n p i) i p.length with
    |none=>
     rw[mq hlt (fun k h1 h2=>jU _ ht k h1 h2)]
     obtain⟨v,hv,_⟩:=cE hF.valid hF.node ha (i+1) (by omega)
     have h1:=gZ T n p i hlt
     rw[hv]at h1
     have h2:=pf hF hlt hu
     have hm:=cr (d:=0) hlt
     have h3:=cW.1 (ha _ hm)
     have h4:=hF.up _ hm
     have h5:=vm hF hfin f (i+1) v (by omega) (by omega) hv
     rw[drop_cons p i hlt]
     obtain⟨a,hae⟩:=Int.eq_ofNat_of_zero_le h3.1
     rw[hae]at h1 h2 h3 h4 ⊢
     rw[Int.toNat_natCast]at h1 h2 h4
     exact .fu (by omega) h2 h4 h1.symm h5
    |some j=>
     obtain⟨t1,t2,t3,t4⟩:=ob _ _ ht
     rw[kL hlt t1 t2 t3 t4]
     obtain⟨v,hv,_⟩:=cE hF.valid hF.node ha j t2
     have hc:=rG hF t1 t2 hu hv
     rw[t3,Bool.and_eq_true]at hc
     obtain⟨h1,h2⟩:=hc
     obtain⟨a,b,e1,e2,hs,_⟩:=AS h1
     have e1:u=a:=by omega
     have e2:v=b:=by omega
     subst e1;subst e2
     have e3:cA T [] u v=fm p i j:=of_decide_eq_true h2
     rw[e3]at hs
     have h5:=vm hF hfin f j v (by omega) t2 hv
     have e4:p.drop i=fm p i j++p.drop j:=by
      unfold fm
      have:=List.take_append_drop (j - i) (p.drop i)
      rw[List.drop_drop,show i+(j - i)=j by omega]at this
      exact this.symm
     rw[hv,e4]
     exact .node hs h5
  ·have e:i=p.length:=by omega
   subst e
   rw[List.take_length,hfin]at hu
   have e:d=u:=by omega
   subst e
   rw[oP _ _ (Nat.le_refl _),List.drop_length]
   exact .nil
theorem pJ.K4{n d:Nat}{p:List Int}(h:pJ T D n d p):sR T D d n (jb T [] n p) p:=by
 have:=vm h.IB h.sp.ch.fin p.length 0 n (by omega) (by omega) (by simp[cO])
 exact this
theorem pJ.enter{n d:Nat}{p:List Int}(h:pJ T D n d p):∃(a m:Nat) (q:List Int),p=(a:Int)::q∧a<2*T.ae.length∧bm T a=(n:Int)∧aQ D a=false∧aS T a=(m:Int)∧sR T D d m (eD ⟨1,(m:Int)⟩ (jJ (jb T [] n p))) q:=by
 have hl:=h.K4
 have hpos:=h.pos
 generalize jb T [] n p=l at hl
 cases hl with
 |nil=>exact absurd hpos (by simp)
 | @node n y pp q1 l1 hs hr=>
  obtain⟨p0,pt,rfl⟩:∃p0 pt,pp=p0::pt:=by
   cases pp with
   |nil=>exact absurd hs.pos (by simp)
   |cons p0 pt=>exact⟨p0,pt,rfl⟩
  have ha:∃a' m:Nat,p0=(a':Int)∧a'<2*T.ae.length∧bm T a'=(n:Int)∧aS T a'=(m:Int):=by
   have:=hs.sp
   cases this with
   |cons hnr hh _=>exact⟨_,_,rfl,hnr.fu,hnr.tail,hh⟩
  obtain⟨a',m,rfl,ha1,ha2,ha3⟩:=ha
  have hup:=hs.up (a':Int) (by simp)
  rw[Int.toNat_natCast]at hup
  refine⟨a',m,pt++q1,rfl,ha1,ha2,hup,ha3,?_⟩
  have hcut:jJ (⟨1,(y:Int)⟩::l1)=⟨1,(y:Int)⟩::l1:=by simp[jJ]
  rw[hcut]
  rcases hs.tail (m:=m) (by rw[Int.toNat_natCast];exact ha3)with⟨rfl,rfl⟩|ht
  ·simp only[eD,if_true,List.nil_append]
   rw[hr.skip]
   exact hr
  ·rw[(sR.node ht hr).skip]
   exact .node ht hr
 | @fu n a' m q1 l1 h1 h2 h3 h4 h5=>
  refine⟨a',m,q1,rfl,h1,h2,h3,h4,?_⟩
  have hcut:jJ (⟨2,(a':Int)⟩::l1)=l1:=by simp[jJ]
  rw[hcut,h5.skip]
  exact h5
theorem ta{n d:Nat}{x:de}(hok:cT T x=true)(hxn:x.node=(n:Int))(hd:(d:Int)<T.nodes)(hne:n≠d){p:dx}(hp:p.dst=(d:Int))(hh:p.dG=0)(hl:eD ⟨1,(n:Int)⟩ p.stack=[])(h32:p.stack.length≤32)(ha:0<(dh x (d:Int)).ax.length)(hpl:(dh x (d:Int)).push.length≤32):
  dj T x p=cB p (if(dh x (d:Int)).rep then(dh x (d:Int)).push else []) (dh x (d:Int)).ax:=by
 have hdb:bu T p.dst=true:=aT.2 ⟨by omega,by omega⟩
 unfold dj
 rw[hok,hdb,hxn,hl,if_neg (by simp),if_neg (by omega)]
 unfold dy
 have hdn:decide ((d:Int)=x.node)=false:=decide_eq_false (by rw[hxn];omega)
 rw[hp,hdn,if_neg (by simp),if_neg (by rw[hh];simp)]
 dsimp only
 unfold C8
 rw[←hp,hdb,hp,if_pos (by simp;omega)]
 unfold fA
 simp only[List.drop_nil,List.append_nil]
 by_cases hr:(dh x (d:Int)).rep=true
 ·rw[if_pos hr,if_pos hr,if_neg (by omega)]
 ·rw[if_neg hr,if_neg hr]
end
end
end PW
end Go.Proofs.YtnegbdpggideiaaGreatDoor
namespace Go.Proofs.YtnegbdpggideiaaGreatDoor
namespace eY
section
open Go.RowKit Go.Shelf Net
attribute [local go_sem] Oper.semAt_some
end
end eY
end Go.Proofs.YtnegbdpggideiaaGreatDoor
namespace Go.Proofs.YtnegbdpggideiaaGreatDoor
namespace PW
section
open Go.RowKit cG Mem
inductive Up (k:Nat):PV→PV→Prop
 |pure {p:PV} [IsPure p]:Up k p p
 |own {i j:Nat}:j=k+i→Up k (.own i) (.own j)
 |ptr {i j o:Nat}:j=k+i→Up k (.ptr i o) (.ptr j o)
 |agg {xs ys:List PV} (hl:ys.length=xs.length) (hs:∀(j:Nat) x y,xs[j]? =some x→ys[j]? =some y→Up k x y):Up k (.agg xs) (.agg ys)
 |tuple {xs ys:List PV} (hl:ys.length=xs.length) (hs:∀(j:Nat) x y,xs[j]? =some x→ys[j]? =some y→Up k x y):Up k (.tuple xs) (.tuple ys)
 |func {f:FuncId} {xs ys:List PV} (hl:ys.length=xs.length) (hs:∀(j:Nat) x y,xs[j]? =some x→ys[j]? =some y→Up k x y):Up k (.func f xs) (.func f ys)
def lJ(k:Nat)(xs ys:List PV):Prop:=ys.length=xs.length∧∀(j:Nat) x y,xs[j]? =some x→ys[j]? =some y→Up k x y
theorem lJ.nil{k:Nat}:lJ k [] []:=⟨rfl,fun j x y h=>by simp at h⟩
theorem lJ.cons{k:Nat}{x y:PV}{xs ys:List PV}(h:Up k x y)(hs:lJ k xs ys):lJ k (x::xs) (y::ys):=⟨by simp[hs.1],fun j a b h1 h2=>by
 cases j with
 |zero=>simp at h1 h2;subst h1;subst h2;exact h
 |succ j=>exact hs.2 j a b (by simpa using h1) (by simpa using h2)⟩
theorem lJ.pure{k:Nat}{xs:List PV}[h:aL xs]:lJ k xs xs:=⟨rfl,fun j x y h1 h2=>by
 rw[h1]at h2;cases h2
 haveI:=h.out j x h1
 exact Up.pure⟩
theorem Up.gY{k:Nat}{xs ys:List PV}(h:lJ k xs ys):Up k (.agg xs) (.agg ys):=.agg h.1 h.2
theorem Up.aX{k:Nat}{xs ys:List PV}(h:lJ k xs ys):Up k (.tuple xs) (.tuple ys):=.tuple h.1 h.2
inductive I8 (k:Nat):cK→cK→Prop
 |cells {ty:TypeId} {xs ys:List PV}:lJ k xs ys→I8 k (.cells ty xs) (.cells ty ys)
 |row {e s n:Nat} {xs ys:List PV}:lJ k xs ys→I8 k (.row e s n xs) (.row e s n ys)
 |mp {kv:List (Value×PV)} [aL (kv.map (·.2))]:I8 k (.mp kv) (.mp kv)
def nK(k:Nat)(xs ys:List cK):Prop:=ys.length=xs.length∧∀(j:Nat) x y,xs[j]? =some x→ys[j]? =some y→I8 k x y
theorem nK.nil{k:Nat}:nK k [] []:=⟨rfl,fun j x y h=>by simp at h⟩
theorem nK.cons{k:Nat}{x y:cK}{xs ys:List cK}(h:I8 k x y)(hs:nK k xs ys):nK k (x::xs) (y::ys):=⟨by simp[hs.1],fun j a b h1 h2=>by
 cases j with
 |zero=>simp at h1 h2;subst h1;subst h2;exact h
 |succ j=>exact hs.2 j a b (by simpa using h1) (by simpa using h2)⟩
section
variable {E E1 E2:Env} {w:World} {k:Nat}
theorem Up.rep(hat:∀i,i<E1.L→E2.at_ (k+i)=E1.at_ i∧k+i<E2.L)(hM:∀b,E2.M b→E1.M b){p q:PV}(h:Up k p q):∀v,cM E1 w v p→cM E2 w v q:=by
 induction h with
 | @pure p hp=>
  intro v h
  have:=hp.out E1 E2.M w v hM h
  exact this.goes (E:=EF E2.M) (E':=E2) (w:=w) (w':=w) ⟨Nat.zero_le _,fun i hi=>absurd hi (Nat.not_lt_zero i),fun _ _ h=>h,Nat.le_refl _,fun _ _ _=>rfl⟩
 | @own i j hij=>
  intro v h
  subst hij
  cases h with
  |own _ hi _ h hs=>exact .own _ (hat i hi).2 v ((hat i hi).1.trans h) hs
 | @ptr i j o hij=>
  intro v h
  subst hij
  cases h with
  |ptr _ _ b hi h=>exact .ptr _ o b (hat i hi).2 (by rw[(hat i hi).1];exact h)
 | @agg xs ys hl _ ih=>
  intro v h
  cases h with
  |agg cs _ hl' hr=>exact .agg cs ys (hl'.trans hl.symm) (fun j c u h1 h2=>by
    have hj:j<xs.length:=by rw[←hl];exact(List.getElem?_eq_some_iff.1 h2).1
    exact ih j xs[j] u (by simp[hj]) h2 c (hr j c _ h1 (by simp[hj])))
 | @tuple xs ys hl _ ih=>
  intro v h
  cases h with
  |tuple cs _ hl' hr=>exact .tuple cs ys (hl'.trans hl.symm) (fun j c u h1 h2=>by
    have hj:j<xs.length:=by rw[←hl];exact(List.getElem?_eq_some_iff.1 h2).1
    exact ih j xs[j] u (by simp[hj]) h2 c (hr j c _ h1 (by simp[hj])))
 | @func f xs ys hl _ ih=>
  intro v h
  cases h with
  |func _ cs _ hl' hr=>exact .func f cs ys (hl'.trans hl.symm) (fun j c u h1 h2=>by
    have hj:j<xs.length:=by rw[←hl];exact(List.getElem?_eq_some_iff.1 h2).1
    exact ih j xs[j] u (by simp[hj]) h2 c (hr j c _ h1 (by simp[hj])))
theorem lJ.rep(hat:∀i,i<E1.L→E2.at_ (k+i)=E1.at_ i∧k+i<E2.L)(hM:∀b,E2.M b→E1.M b){xs ys:List PV}(h:lJ k xs ys){cs:List Value}(hs:bf E1 w cs xs):bf E2 w cs ys:=⟨hs.1.trans h.1.symm,fun j c u h1 h2=>by
 have hj:j<xs.length:=by rw[←h.1];exact(List.getElem?_eq_some_iff.1 h2).1
 exact(h.2 j xs[j] u (by simp[hj]) h2).rep hat hM c (hs.2 j c _ h1 (by simp[hj]))⟩
theorem I8.sat{base base':Nat}(hb:base'≤base)(hat:∀i,i<E1.L→E2.at_ (k+i)=E1.at_ i∧k+i<E2.L)(hM:∀b,E2.M b→E1.M b){v:Value}{x y:cK}(h:I8 k x y)(hs:gI base E1 w v x):gI base' E2 w v y:=by
 cases h with
 |cells h1=>
  obtain⟨b,cs,h2,h3,h4,h5⟩:=hs
  exact⟨b,cs,h2,by omega,h4,h1.rep hat hM h5⟩
 |row h1=>
  obtain⟨cs,h2,h3⟩:=hs
  refine⟨cs,⟨h2.1,?_⟩,h1.rep hat hM h3⟩
  rcases h2.2 with h|⟨g,cap,cur,a1,a2,a3⟩
  ·exact .inl h
  ·exact .inr ⟨g,cap,cur,a1,by omega,a3⟩
 | @mp kv hp=>
  obtain⟨r,es,ck,h2,h3,h4,h5,h6⟩:=hs
  exact⟨r,es,ck,h2,by omega,h4,h5,lJ.pure (k:=k).rep hat hM h6⟩
end
theorem bU.frame{P:Program}{f:FuncId}{ps:List PV}{σ:cg}{R:PV→cg→Prop}[aL ps]
  (h:bU P f ps [] (fun r σ1=>∃bs,σ1=bs.map some∧∃r' bs',Up σ.length r r'∧nK σ.length bs bs'∧R r' (σ++bs'.map some))):bU P f ps σ R:=fun F base E w vs hS hR=>by
 refine(h E.M w.heap.size (EF E.M) w vs (Sat.start E.M w (fun b hb=>hS.lt hb) hS.gl) (hR.pure (fun _ h=>h))).mono ?_
 rintro e w' ⟨v,r,σ1,E1,rfl,⟨bs,rfl,r',bs',hu,hbu,hRr⟩,hS1,hg1,hB1,hv⟩
 have hE:Ext w w':=hB1
 have hL1:E1.L=bs.length:=by rw[hS1.len];simp
 have hlen:((List.range bs.length).map E1.at_).length=bs'.length:=by rw[List.length_map,List.length_range,hbu.1]
 have hget:∀(i:Nat) v,((List.range bs.length).map E1.at_)[i]? =some v→i<bs.length∧v=E1.at_ i:=fun i v hi=>by
  have hi':i<bs.length:=by have:=(List.getElem?_eq_some_iff.1 hi).1;simpa using this
  rw[List.getElem?_map,List.getElem?_range hi']at hi
  cases hi
  exact⟨hi',rfl⟩
 have hbk:∀i,i<bs.length→∃x,bs[i]? =some x∧(bs.map some)[i]? =some (some x):=fun i hi=>⟨bs[i],by simp[hi],by simp[hi]⟩
 have hat:∀i,i<E1.L→(E.eI ((List.range bs.length).map E1.at_)).at_ (σ.length+i)=E1.at_ i∧σ.length+i<(E.eI ((List.range bs.length).map E1.at_)).L:=fun i hi=>by
  rw[hL1]at hi
  refine⟨?_,?_⟩
  ·simp only[Env.eI,hS.len]
   rw[if_neg (by omega),Nat.add_sub_cancel_left,List.getD_eq_getElem?_getD,List.getElem?_map,List.getElem?_range hi]
   rfl
  ·simp only[Env.eI,hS.len,List.length_map,List.length_range];omega
 have hM:∀b,(E.eI ((List.range bs.length).map E1.at_)).M b→E1.M b:=fun b hb=>by
  rcases hb with hb|⟨v,hv1,hv2⟩
  ·exact(hS1.mm b).2 (.inl hb)
  ·obtain⟨i,hi⟩:=List.getElem?_of_mem hv1
   obtain⟨hi1,rfl⟩:=hget i v hi
   obtain⟨x,_,hx⟩:=hbk i hi1
   exact(hS1.mm b).2 (.inr ⟨i,x,hx,hv2⟩)
 have hp:=hS.eI hE ((List.range bs.length).map E1.at_) bs' hlen
  (fun v hv1 b hb=>by
   obtain⟨i,hi⟩:=List.getElem?_of_mem hv1
   obtain⟨hi1,rfl⟩:=hget i v hi
   obtain⟨x,_,hx⟩:=hbk i hi1
   exact((hS1.blk i x hx).lt hb).1)
  (fun i j u v b hi hj hu hv=>by
   obtain⟨hi1,rfl⟩:=hget i u hi
   obtain⟨hj1,rfl⟩:=hget j v hj
   obtain⟨x,_,hx⟩:=hbk i hi1
   obtain⟨y,_,hy⟩:=hbk j hj1
   exact hS1.inj i j x y b hx hy hu hv)
  (fun i v blk hi hb=>by
   obtain⟨hi1,rfl⟩:=hget i v hi
   obtain⟨x,hx0,hx⟩:=hbk i hi1
   exact(hbu.2 i x blk hx0 hb).sat hS.bl hat hM (hS1.blk i x hx))
 exact⟨v,r',_,_,rfl,hRr,hp.1,hp.2,Below.iy hE hS.bl,hu.rep hat hM v hv⟩
open Net
theorem sf(T:ak)(D:List Bool)(n:Int):Can Tryz.prog 53 [aP T,bn D,num n] (· = .tuple [fw (jL T D n),num (cD T D [n])]):=by
 refine aH Tryz.func53 I Tryz.ntmps53 I<|aO<|aw 3 I<|aE [1,2,3,6] I ?_
 refine aj ?_
 obtain⟨q1,hq1⟩:∃q,aq T=q:=⟨_,rfl⟩
 obtain⟨q2,hq2⟩:∃q,bW T D=q:=⟨_,rfl⟩
 refine bz 22 (.raw (.bool ((!q1)||(!q2)))) [1,2,3,6] I ?_ ?_
 ·refine .a 1 I<|.c rfl (hq1▸eJ T) I<|.a 2 I<|?_
  cases q1
  ·exact .a 5 I<|.k [22,1,2,3,6] I
  ·exact .a 2 I<|.c rfl (hq2▸me T D (by have:=bT hq1;omega)) I<|.a 2 I<|.k [22,1,2,3,6] I
 refine ag I (fun hc=>?_) (fun hc=>?_)
 ·have hch:cD T D [n]=1:=by
   unfold cD
   rw[hq1,hq2,if_neg]
   revert hc
   cases q1<;>cases q2<;>simp
  refine aO<|aw 3 I<|aE [6,7] I ?_
  exact ao<|⟨_,_,az.of I,ay.aX (ah.cons (ay.gY (ah.cons ay.pure<|ah.cons ay.bM<|ah.cons ay.bM ah.nil)) (ah.cons ay.pure ah.nil)),by unfold jL;rw[hch];rfl⟩
 ·have hok:(aq T&&bW T D)=true:=by
   rw[hq1,hq2]
   revert hc
   cases q1<;>cases q2<;>simp
  clear hc hq1 hq2
  refine ai<|aj<|ab (.a 2 I<|.c rfl (dJ T n) I<|.a 1 I<|.k [1,2,3,6,27] I)<|ag I (fun hc=>?_) (fun hc=>?_)
  ·have hn:bu T n=false:=by revert hc;cases bu T n<;>simp
   have hch:cD T D [n]=2:=by
    unfold cD
    rw[if_pos hok,if_neg]
    simp[hn]
   refine aO<|aw 3 I<|aE [6,7] I ?_
   exact ao<|⟨_,_,az.of I,ay.aX (ah.cons (ay.gY (ah.cons ay.pure<|ah.cons ay.bM<|ah.cons ay.bM ah.nil)) (ah.cons ay.pure ah.nil)),by unfold jL;rw[hch];rfl⟩
  ·have hn:bu T n=true:=by revert hc;cases bu T n<;>simp
   have hch:cD T D [n]=0:=by
    unfold cD
    rw[if_pos hok,if_pos]
    simp[hn]
   obtain⟨hv,hf⟩:=Bool.and_eq_true_iff.1 hok
   rw[aT]at hn
   obtain⟨m,rfl⟩:=Int.eq_ofNat_of_zero_le hn.1
   obtain⟨N,hN⟩:∃N:Nat,T.nodes=(N:Int):=⟨T.nodes.toNat,by omega⟩
   have hN64:N≤64:=by have:=(aM hv).nodes;omega
   have hll:=bT hv
   refine ai<|aO<|aw 4 I<|aE [1,2,3,6,8] I ?_
   refine cz 1 1 76 3 I I ?_
   refine cz 1 2 3 1 I I ?_
   refine aj<|ab (.a 1 I<|.v (aJ I ((show some (num T.nodes)=some (num (N:Int)) by rw[hN]))) I<|.a 1 I<|.k [1,2,3,6,8,32,33] I)<|au<|eH [1,2,3,6,8,32,33] I<|bq (fun r s=>∃j,j≤N∧r=N - j∧s=⟨[(1,bn D),(2,num m),(3,.bb (bC T) 0),(6,.ptr 0 0),(8,.ptr 1 0),(32,num N),(33,num j)],[some (.cells 56 [num 0,.raw (.slice none 0 0),.raw (.slice none 0 0)]),some (.cells 56 [num m,.own 2,.own 3]),some (.row 76 3 j (dZ (oT T D m j))),some (.row 3 1 0 [])]⟩) N ⟨0,by omega,by omega,rfl⟩ ?_
   rintro r s ⟨j,hj,rfl,rfl⟩
   refine ab (.a 1 I<|.k [1,2,3,6,8,32,33,34] I)<|aj<|ag I (fun hc=>?_) (fun hc=>?_)
   ·have hlt:j<N:=by have:=of_decide_eq_true hc;omega
    have hne:cu T D (m:Int) (j:Int)=0:=by
     have hnb:bu T (j:Int)=true:=aT.2 ⟨by omega,by omega⟩
     have hch':cD T D [(j:Int)]=0:=by
      unfold cD
      rw[if_pos hok,if_pos]
      simp[hnb]
     unfold cu
     rw[if_pos hch',if_pos (aT.2 hn)]
    have hnx:Can Tryz.prog 109 [aP T,bn D,num m,num j] (· = .tuple [av (bH T D m j),num 0]):=by
     have h:=qL T D (m:Int) (j:Int)
     rw[hne]at h
     exact h
    refine ai<|aj<|au<|ab (.a 2 I<|.k [1,2,3,6,8,9,32,33] I)<|ab (.a 4 I<|.c rfl (hnx) I<|.a 5 I<|.k [1,2,3,6,8,10,32,33] I)<|bI<|aw 3 I<|bw (Gx (iZ (xs:=[_,_,_]) I (ba.st.get I) I I) (kK.gY (.cons (kK.refl _)<|.cons (kK.refl _)<|.cons kK.bM .nil))) I<|aw 1 I<|b7 (bh I (ba.rk.get I) I I I I (by unfold maxLen;omega)) I<|aw 2 I ?_
    refine eR [0,1,4,3] (.c 1<|.c 2<|.c 3<|.c 6<|.c 8<|.c 32<|.c 33<|.nil) (.kept rfl (.cells (aI.c<|aI.c<|aI.c<|aI.nil))<|.kept rfl (.cells (aI.c<|aI.c<|aI.c<|aI.nil))<|.kept rfl (.fF rfl (show _=dZ (oT T D m (j+1)) by rw[yb];exact nB _ ⟨bH T D m j,false,[]⟩))<|.kept rfl (.row aI.pure)<|.nil) I I (bp ?_)
    refine aC (.v (aU I) I<|.a 1 I<|.k [1,2,3,6,8,32,33] I) ?_
    exact⟨N - (j+1),by omega,j+1,by omega,rfl,rfl⟩
   ·have hje:j=N:=by have:=of_decide_eq_false hc;omega
    subst hje
    refine bd<|aj ?_
    have hol:(bP T m).length≤512:=Nat.le_trans (eT T m _) (by omega)
    refine ab (.a 2 I<|.c rfl (oF T hll _) I<|.a 2 I<|.k [1,6,8,54,55,56] I)<|au<|eH [1,6,8,54,55,56] I<|bq (fun r s=>∃i,i≤(bP T m).length∧r=(bP T m).length - i∧s=⟨[(1,bn D),(6,.ptr 0 0),(8,.ptr 1 0),(54,av (bP T m)),(55,num (bP T m).length),(56,num i)],[some (.cells 56 [num 0,.raw (.slice none 0 0),.raw (.slice none 0 0)]),some (.cells 56 [num m,.own 2,.own 3]),some (.row 76 3 j (dZ (oT T D m j))),some (.row 3 1 (cQ D ((bP T m).take i)).length (aK (cQ D ((bP T m).take i))))]⟩) (bP T m).length ⟨0,by omega,by omega,rfl⟩ ?_
    rintro r s ⟨i,hi,rfl,rfl⟩
    refine ab (.a 1 I<|.k [1,6,8,54,55,56,57] I)<|aj<|ag I (fun hc=>?_) (fun hc=>?_)
    ·have hlt:i<(bP T m).length:=by have:=of_decide_eq_true hc;omega
     obtain⟨h0,h1⟩:=kI (cr (d:=0) hlt)
     obtain⟨a,ha⟩:=Int.eq_ofNat_of_zero_le h0
     have hDl:D.length=0∨a<D.length:=by simp only[bW,decide_eq_true_eq]at hf;omega
     have hstep:cQ D ((bP T m).take (i+1))=cQ D ((bP T m).take i)++(if aQ D a then [(a:Int)] else []):=by
      unfold cQ
      rw[dK _ i 0 hlt,List.filter_append,ha]
      simp only[List.filter_cons,List.filter_nil,Int.toNat_natCast]
     have hdl:(cQ D ((bP T m).take i)).length≤1000:=Nat.le_trans (List.length_filter_le _ _) (by rw[List.length_take];have:=eT T m (2*T.ae.length);unfold bP at*;omega)
     refine ai<|aj<|au<|ab (.v (aN (i) I) I<|.v (aJ I ((aB _ i hlt).trans (by rw[ha]))) I<|.a 1 I<|.k [1,6,8,13,54,55,56] I)<|ab (.a 2 I<|.c rfl (jy D a hDl) I<|.k [1,6,8,13,54,55,56,62] I)<|ag I (fun hcd=>?_) (fun hcd=>?_)
     ·rw[hcd,if_pos rfl]at hstep
      refine bI<|aw 4 I<|b7 (bh I (ba.rk.get I) I I I I (by unfold maxLen;omega)) I<|aw 2 I ?_
      refine eR [0,1,2,4] (.c 1<|.c 6<|.c 8<|.c 54<|.c 55<|.c 56<|.nil) (.kept rfl (.cells (aI.c<|aI.c<|aI.c<|aI.nil))<|.kept rfl (.cells (aI.c<|aI.c<|aI.c<|aI.nil))<|.kept rfl (.row aI.pure)<|.kept rfl (.fF rfl (dE _ _))<|.nil) I I (bp ?_)
      refine aC (.v (aU I) I<|.a 1 I<|.k [1,6,8,54,55,56] I) ?_
      refine⟨(bP T m).length - (i+1),by omega,i+1,by omega,rfl,?_⟩
      rw[hstep]
      first
       |rfl
       |(simp only[List.length_append,List.length_singleton];rfl)
     ·rw[hcd,if_neg (by simp),List.append_nil]at hstep
      refine ai<|aC (.v (aU I) I<|.a 1 I<|.k [1,6,8,54,55,56] I) ?_
      refine⟨(bP T m).length - (i+1),by omega,i+1,by omega,rfl,?_⟩
      rw[hstep]
      first
       |rfl
       |(simp only[List.length_append,List.length_singleton];rfl)
    ·have hie:i=(bP T m).length:=by have:=of_decide_eq_false hc;omega
     subst hie
     refine bd<|aO<|bw (fh (ys:=[num m,.own 2,.own 3]) I (ba.tk.get I) I I I I) I<|aw 2 I<|aE [6,7] I ?_
     refine ao<|⟨_,_,az.of I,ay.aX (ah.cons (ay.gY (ah.cons ay.pure<|ah.cons (ay.fy rfl ah.pure)<|ah.cons (ay.fy rfl ah.pure) ah.nil)) (ah.cons ay.pure ah.nil)),?_⟩
     unfold jL
     rw[hch,if_pos rfl,List.take_length]
     unfold dO fw eL iv av
     rw[uQ,show T.nodes.toNat=j by omega]
     rfl
open eY
theorem wT(T:ak)(D:List Bool)(n:Int)(hch0:cD T D [n]=0):bU Tryz.prog 53 [aP T,bn D,num n] [] (fun r σ'=>r= .tuple [.agg [num n,.own 2,.own 3],num 0]∧σ'=[some (.cells 56 [num n,.own 2,.own 3]),some (.cells 56 [num n,.own 2,.own 3]),some (.row 76 3 T.nodes.toNat (dZ (oT T D n.toNat T.nodes.toNat))),some (.row 3 1 (cQ D (bP T n)).length (aK (cQ D (bP T n))))]):=by
 refine ct Tryz.func53 I Tryz.ntmps53 I<|aO<|aw 3 I<|aE [1,2,3,6] I ?_
 refine aj ?_
 obtain⟨q1,hq1⟩:∃q,aq T=q:=⟨_,rfl⟩
 obtain⟨q2,hq2⟩:∃q,bW T D=q:=⟨_,rfl⟩
 refine bz 22 (.raw (.bool ((!q1)||(!q2)))) [1,2,3,6] I ?_ ?_
 ·refine .a 1 I<|.c rfl (hq1▸eJ T) I<|.a 2 I<|?_
  cases q1
  ·exact .a 5 I<|.k [22,1,2,3,6] I
  ·exact .a 2 I<|.c rfl (hq2▸me T D (by have:=bT hq1;omega)) I<|.a 2 I<|.k [22,1,2,3,6] I
 refine ag I (fun hc=>?_) (fun hc=>?_)
 ·have hch:cD T D [n]=1:=by
   unfold cD
   rw[hq1,hq2,if_neg]
   revert hc
   cases q1<;>cases q2<;>simp
  exact absurd hch0 (by rw[hch];decide)
 ·have hok:(aq T&&bW T D)=true:=by
   rw[hq1,hq2]
   revert hc
   cases q1<;>cases q2<;>simp
  clear hc hq1 hq2
  refine ai<|aj<|ab (.a 2 I<|.c rfl (dJ T n) I<|.a 1 I<|.k [1,2,3,6,27] I)<|ag I (fun hc=>?_) (fun hc=>?_)
  ·have hn:bu T n=false:=by revert hc;cases bu T n<;>simp
   have hch:cD T D [n]=2:=by
    unfold cD
    rw[if_pos hok,if_neg]
    simp[hn]
   exact absurd hch0 (by rw[hch];decide)
  ·have hn:bu T n=true:=by revert hc;cases bu T n<;>simp
   have hch:cD T D [n]=0:=by
    unfold cD
    rw[if_pos hok,if_pos]
    simp[hn]
   obtain⟨hv,hf⟩:=Bool.and_eq_true_iff.1 hok
   rw[aT]at hn
   obtain⟨m,rfl⟩:=Int.eq_ofNat_of_zero_le hn.1
   obtain⟨N,hN⟩:∃N:Nat,T.nodes=(N:Int):=⟨T.nodes.toNat,by omega⟩
   have hN64:N≤64:=by have:=(aM hv).nodes;omega
   have hll:=bT hv
   refine ai<|aO<|aw 4 I<|aE [1,2,3,6,8] I ?_
   refine cz 1 1 76 3 I I ?_
   refine cz 1 2 3 1 I I ?_
   refine aj<|ab (.a 1 I<|.v (aJ I ((show some (num T.nodes)=some (num (N:Int)) by rw[hN]))) I<|.a 1 I<|.k [1,2,3,6,8,32,33] I)<|au<|eH [1,2,3,6,8,32,33] I<|bq (fun r s=>∃j,j≤N∧r=N - j∧s=⟨[(1,bn D),(2,num m),(3,.bb (bC T) 0),(6,.ptr 0 0),(8,.ptr 1 0),(32,num N),(33,num j)],[some (.cells 56 [num 0,.raw (.slice none 0 0),.raw (.slice none 0 0)]),some (.cells 56 [num m,.own 2,.own 3]),some (.row 76 3 j (dZ (oT T D m j))),some (.row 3 1 0 [])]⟩) N ⟨0,by omega,by omega,rfl⟩ ?_
   rintro r s ⟨j,hj,rfl,rfl⟩
   refine ab (.a 1 I<|.k [1,2,3,6,8,32,33,34] I)<|aj<|ag I (fun hc=>?_) (fun hc=>?_)
   ·have hlt:j<N:=by have:=of_decide_eq_true hc;omega
    have hne:cu T D (m:Int) (j:Int)=0:=by
     have hnb:bu T (j:Int)=true:=aT.2 ⟨by omega,by omega⟩
     have hch':cD T D [(j:Int)]=0:=by
      unfold cD
      rw[if_pos hok,if_pos]
      simp[hnb]
     unfold cu
     rw[if_pos hch',if_pos (aT.2 hn)]
    have hnx:Can Tryz.prog 109 [aP T,bn D,num m,num j] (· = .tuple [av (bH T D m j),num 0]):=by
     have h:=qL T D (m:Int) (j:Int)
     rw[hne]at h
     exact h
    refine ai<|aj<|au<|ab (.a 2 I<|.k [1,2,3,6,8,9,32,33] I)<|ab (.a 4 I<|.c rfl (hnx) I<|.a 5 I<|.k [1,2,3,6,8,10,32,33] I)<|bI<|aw 3 I<|bw (Gx (iZ (xs:=[_,_,_]) I (ba.st.get I) I I) (kK.gY (.cons (kK.refl _)<|.cons (kK.refl _)<|.cons kK.bM .nil))) I<|aw 1 I<|b7 (bh I (ba.rk.get I) I I I I (by unfold maxLen;omega)) I<|aw 2 I ?_
    refine eR [0,1,4,3] (.c 1<|.c 2<|.c 3<|.c 6<|.c 8<|.c 32<|.c 33<|.nil) (.kept rfl (.cells (aI.c<|aI.c<|aI.c<|aI.nil))<|.kept rfl (.cells (aI.c<|aI.c<|aI.c<|aI.nil))<|.kept rfl (.fF rfl (show _=dZ (oT T D m (j+1)) by rw[yb];exact nB _ ⟨bH T D m j,false,[]⟩))<|.kept rfl (.row aI.pure)<|.nil) I I (bp ?_)
    refine aC (.v (aU I) I<|.a 1 I<|.k [1,2,3,6,8,32,33] I) ?_
    exact⟨N - (j+1),by omega,j+1,by omega,rfl,rfl⟩
   ·have hje:j=N:=by have:=of_decide_eq_false hc;omega
    subst hje
    refine bd<|aj ?_
    have hol:(bP T m).length≤512:=Nat.le_trans (eT T m _) (by omega)
    refine ab (.a 2 I<|.c rfl (oF T hll _) I<|.a 2 I<|.k [1,6,8,54,55,56] I)<|au<|eH [1,6,8,54,55,56] I<|bq (fun r s=>∃i,i≤(bP T m).length∧r=(bP T m).length - i∧s=⟨[(1,bn D),(6,.ptr 0 0),(8,.ptr 1 0),(54,av (bP T m)),(55,num (bP T m).length),(56,num i)],[some (.cells 56 [num 0,.raw (.slice none 0 0),.raw (.slice none 0 0)]),some (.cells 56 [num m,.own 2,.own 3]),some (.row 76 3 j (dZ (oT T D m j))),some (.row 3 1 (cQ D ((bP T m).take i)).length (aK (cQ D ((bP T m).take i))))]⟩) (bP T m).length ⟨0,by omega,by omega,rfl⟩ ?_
    rintro r s ⟨i,hi,rfl,rfl⟩
    refine ab (.a 1 I<|.k [1,6,8,54,55,56,57] I)<|aj<|ag I (fun hc=>?_) (fun hc=>?_)
    ·have hlt:i<(bP T m).length:=by have:=of_decide_eq_true hc;omega
     obtain⟨h0,h1⟩:=kI (cr (d:=0) hlt)
     obtain⟨a,ha⟩:=Int.eq_ofNat_of_zero_le h0
     have hDl:D.length=0∨a<D.length:=by simp only[bW,decide_eq_true_eq]at hf;omega
     have hstep:cQ D ((bP T m).take (i+1))=cQ D ((bP T m).take i)++(if aQ D a then [(a:Int)] else []):=by
      unfold cQ
      rw[dK _ i 0 hlt,List.filter_append,ha]
      simp only[List.filter_cons,List.filter_nil,Int.toNat_natCast]
     have hdl:(cQ D ((bP T m).take i)).length≤1000:=Nat.le_trans (List.length_filter_le _ _) (by rw[List.length_take];have:=eT T m (2*T.ae.length);unfold bP at*;omega)
     refine ai<|aj<|au<|ab (.v (aN (i) I) I<|.v (aJ I ((aB _ i hlt).trans (by rw[ha]))) I<|.a 1 I<|.k [1,6,8,13,54,55,56] I)<|ab (.a 2 I<|.c rfl (jy D a hDl) I<|.k [1,6,8,13,54,55,56,62] I)<|ag I (fun hcd=>?_) (fun hcd=>?_)
     ·rw[hcd,if_pos rfl]at hstep
      refine bI<|aw 4 I<|b7 (bh I (ba.rk.get I) I I I I (by unfold maxLen;omega)) I<|aw 2 I ?_
      refine eR [0,1,2,4] (.c 1<|.c 6<|.c 8<|.c 54<|.c 55<|.c 56<|.nil) (.kept rfl (.cells (aI.c<|aI.c<|aI.c<|aI.nil))<|.kept rfl (.cells (aI.c<|aI.c<|aI.c<|aI.nil))<|.kept rfl (.row aI.pure)<|.kept rfl (.fF rfl (dE _ _))<|.nil) I I (bp ?_)
      refine aC (.v (aU I) I<|.a 1 I<|.k [1,6,8,54,55,56] I) ?_
      refine⟨(bP T m).length - (i+1),by omega,i+1,by omega,rfl,?_⟩
      rw[hstep]
      first
       |rfl
       |(simp only[List.length_append,List.length_singleton];rfl)
     ·rw[hcd,if_neg (by simp),List.append_nil]at hstep
      refine ai<|aC (.v (aU I) I<|.a 1 I<|.k [1,6,8,54,55,56] I) ?_
      refine⟨(bP T m).length - (i+1),by omega,i+1,by omega,rfl,?_⟩
      rw[hstep]
      first
       |rfl
       |(simp only[List.length_append,List.length_singleton];rfl)
    ·have hie:i=(bP T m).length:=by have:=of_decide_eq_false hc;omega
     subst hie
     refine bd<|aO<|bw (fh (ys:=[num m,.own 2,.own 3]) I (ba.tk.get I) I I I I) I<|aw 2 I<|aE [6,7] I ?_
     refine ao<|⟨_,az.of I,rfl,?_⟩
     have hjN:T.nodes.toNat=j:=by omega
     rw[List.take_length,Int.toNat_natCast,hjN]
     rfl
def j8(e:Int)(x:de):PV:=.tuple [fw (if e=0 then x else⟨0,[],[]⟩),num e]
theorem pE{T:ak}{D:List Bool}{n d:Int}(hv:aq T=true)(hf:bW T D=true)(hn:bu T n=true)(hd:bu T d=true):cu T D n d=0:=by
 unfold cu cD
 rw[hv,hf,hn]
 simp[hd]
def jC(M:List Bool)(T:ak)(n:Int)(k:Nat):List Int:=((List.range k).filter fun a=>aQ M a&&decide (bm T a=n)).map Int.ofNat
def gW(T:ak)(M:List Bool)(n:Int)(k:Nat):List Bool:=(List.range (2*T.ae.length)).map fun a=>decide (a<k)&&(aQ M a&&decide (bm T a=n))
theorem Hu(M:List Bool)(T:ak)(n:Int):jC M T n (2*T.ae.length)=cQ M (bP T n):=by
 unfold jC cQ bP iW
 rw[List.filter_map,List.filter_filter]
 congr 1
theorem Hg(M:List Bool)(T:ak)(n:Int)(k:Nat):(jC M T n k).length≤k:=by
 unfold jC
 rw[List.length_map]
 exact Nat.le_trans (List.length_filter_le _ _) (by simp)
theorem Gq{M:List Bool}{T:ak}{n:Int}{k:Nat}(h:(aQ M k&&decide (bm T k=n))=true):jC M T n (k+1)=jC M T n k++[(k:Int)]:=by
 simp only[jC,List.range_succ,List.filter_append,List.map_append]
 rw[List.filter_cons_of_pos (by simpa using h)]
 rfl
theorem IW{M:List Bool}{T:ak}{n:Int}{k:Nat}(h:(aQ M k&&decide (bm T k=n))=false):jC M T n (k+1)=jC M T n k:=by
 simp only[jC,List.range_succ,List.filter_append,List.map_append]
 rw[List.filter_cons_of_neg (by simpa using h)]
 simp
theorem Ct(T:ak)(M:List Bool)(n:Int)(k:Nat):(gW T M n k).length=2*T.ae.length:=by simp[gW]
theorem zq(T:ak)(M:List Bool)(n:Int):gW T M n 0=List.replicate (2*T.ae.length) false:=by
 unfold gW
 apply List.ext_getElem (by simp)
 intro i h1 h2
 simp
theorem Cf{T:ak}{M:List Bool}{n:Int}{k:Nat}(h:(aQ M k&&decide (bm T k=n))=true):(gW T M n k).set k true=gW T M n (k+1):=by
 apply List.ext_getElem (by simp[gW])
 intro i h1 h2
 rw[List.getElem_set]
 by_cases e:k=i
 ·subst e
  simp only[gW,List.getElem_map,List.getElem_range,if_true]
  rw[h,decide_eq_true (by omega)];rfl
 ·rw[if_neg e]
  simp only[gW,List.getElem_map,List.getElem_range]
  rw[show decide (i<k+1)=decide (i<k) from decide_eq_decide.2 (by omega)]
theorem EU{T:ak}{M:List Bool}{n:Int}{k:Nat}(h:(aQ M k&&decide (bm T k=n))=false):gW T M n (k+1)=gW T M n k:=by
 unfold gW
 refine List.map_congr_left fun a _=>?_
 by_cases e:a=k
 ·subst e;rw[h];simp
 ·rw[show decide (a<k+1)=decide (a<k) from decide_eq_decide.2 (by omega)]
theorem Cz(T:ak)(M:List Bool)(n:Int):gW T M n (2*T.ae.length)=fX T M n:=by
 unfold gW fX
 refine List.map_congr_left fun a ha=>?_
 rw[decide_eq_true (List.mem_range.1 ha),Bool.true_and]
theorem ft{M:List Bool}{a:Nat}:M.getD a false=aQ M a:=by
 unfold aQ
 by_cases h:M.length=0
 ·have:M=[]:=List.eq_nil_of_length_eq_zero h
  subst this;simp
 ·first
   |rfl
   |simp[h]
theorem BL(T:ak)(k x n:Int)(hm:(aq T&&cj T k x)=true):Can Tryz.prog 95 [aP T,ca k x,num n] (· = .tuple [av (cQ (aF T k x) (bP T n)),bn (fX T (aF T k x) n)]):=by
 obtain⟨hv,hc⟩:=Bool.and_eq_true_iff.1 hm
 have hll:=bT hv
 have hmk:=mI T k x
 unfold iO ej at hmk
 rw[if_pos hm,if_pos rfl]at hmk
 obtain⟨M,hM⟩:∃M,aF T k x=M:=⟨_,rfl⟩
 have hMl:M.length=2*T.ae.length:=by rw[←hM];exact fr T k x
 rw[hM]at hmk ⊢
 refine aH Tryz.func95 I Tryz.ntmps95 I<|ab (.a 4 I<|.k [2,3,4] I)<|ab (.a 2 I<|.c rfl (hmk) I<|.a 5 I<|.k [2,3,8] I)<|aO<|aw 2 I<|b7 (dX I (ba.rk.get I) I I (show(M.length:Int)=((2*T.ae.length:Nat):Int) by omega) (show(M.length:Int)=((2*T.ae.length:Nat):Int) by omega) ⟨by unfold maxLen;omega,by omega⟩) I<|aw 1 I<|aE [2,3,8,10] I ?_
 refine ab (.a 1 I<|.k [2,3,8,10,11] I)<|gH 11 3 1 I ?_
 refine eF (σ':=[some (.row 4 1 (2*T.ae.length) (bX (gW T M n 0))),some (.row 3 1 0 [])]) (by rw[zq,←iD];rfl) ?_
 refine aj<|ab (.a 1 I<|.k [2,3,8,10,11,12] I)<|au<|eH [2,3,8,10,11,12] I<|bq (fun r st=>∃a:Nat,a≤2*T.ae.length∧r=2*T.ae.length - a∧st=⟨[(2,num n),(3,.bb (bC T) 0),(8,bn M),(10,.own 0),(11,.own 1),(12,num a)],[some (.row 4 1 (2*T.ae.length) (bX (gW T M n a))),some (.row 3 1 (jC M T n a).length (aK (jC M T n a)))]⟩) (2*T.ae.length) ⟨0,by omega,by omega,rfl⟩ ?_
 rintro r st ⟨a,ha,rfl,rfl⟩
 refine aj<|ab (.a 4 I<|.k [2,3,8,10,11,12,25] I)<|ag I (fun h1=>?_) (fun h1=>?_)
 ·have hlt:a<2*T.ae.length:=by have:=tt h1;omega
  have hal:(gW T M n a).length=2*T.ae.length:=Ct T M n a
  have hdl:(jC M T n a).length≤512:=Nat.le_trans (Hg M T n a) (by omega)
  refine ai<|aj<|au ?_
  obtain⟨c1,hc1⟩:∃q,aQ M a=q:=⟨_,rfl⟩
  obtain⟨c2,hc2⟩:∃q,decide (bm T a=n)=q:=⟨_,rfl⟩
  refine bz 38 (.raw (.bool (c1&&c2))) [2,3,8,10,11,12] I ?_ ?_
  ·refine .a 2 I<|.v (aN (a) I) I<|.v (aJ I (show _=some (flag c1) by rw[dt _ a (by omega),ft,hc1])) I<|.a 1 I<|?_
   cases c1
   ·exact .a 6 I<|.k [38,2,3,8,10,11,12] I
   ·exact .a 2 I<|.c rfl (gh T hv a hlt) I<|.a 1 I<|.v (cf I (hc2)) I<|.a 1 I<|.k [38,2,3,8,10,11,12] I
  refine ag I (fun h2=>?_) (fun h2=>?_)
  ·have h2:(aQ M a&&decide (bm T a=n))=true:=by rw[hc1,hc2];exact h2
   have hs1:=Gq h2
   have hs2:=Cf h2
   refine aO<|aw 3 I<|b7 (bh I (ba.rk.get I) I I I I (by unfold maxLen;omega)) I<|aw 1 I ?_
   refine eR [0,2] (.c 2<|.c 3<|.c 8<|.c 10<|.c 11<|.c 12<|.nil) (.kept rfl (.row aI.pure)<|.kept rfl (.fF rfl (dE _ _))<|.nil) I I (bp ?_)
   refine bI<|aw 2 I<|bw (aN (a) I) I<|bc ((by first|exact bN I (ba.tk.get I) I I I (by first|omega|(simp;omega))|exact bg I (ba.tk.get I) I I I (by first|omega|(simp;omega)))) I I<|aE [2,3,8,10,11,12] I ?_
   refine eF (σ':=[some (.row 4 1 (2*T.ae.length) (bX (gW T M n (a+1)))),some (.row 3 1 (jC M T n (a+1)).length (aK (jC M T n (a+1))))]) (by rw[←hs2,hs1,List.length_append];rfl) ?_
   refine aC (.a 1 I<|.v (aU I) I<|.a 1 I<|.k [2,3,8,10,11,12] I) ?_
   first
    |exact⟨2*T.ae.length - (a+1),by omega,a+1,by omega,rfl,rfl⟩
    |exact⟨2*T.ae.length - (a+1),by omega,a+1,by omega,rfl,by rw[hs1,hs2];rfl⟩
  ·have h2:(aQ M a&&decide (bm T a=n))=false:=by rw[hc1,hc2];exact h2
   have hs1:=IW h2
   have hs2:=EU h2
   refine ai<|aC (.a 1 I<|.v (aU I) I<|.a 1 I<|.k [2,3,8,10,11,12] I) ?_
   first
    |exact⟨2*T.ae.length - (a+1),by omega,a+1,by omega,rfl,rfl⟩
    |exact⟨2*T.ae.length - (a+1),by omega,a+1,by omega,rfl,by rw[hs1,hs2];rfl⟩
 ·have hae:a=2*T.ae.length:=by have:=ff h1;omega
  subst hae
  refine bd<|ab (.a 4 I<|.k [6,7] I)<|ao<|⟨_,_,az.of I,ay.aX (ah.cons (ay.fy rfl ah.pure) (ah.cons (ay.fy rfl ah.pure) ah.nil)),?_⟩
  rw[Hu,Cz]
  unfold av bn
  rw[show(fX T M n).length=2*T.ae.length by simp[fX]]
end
section
open Go.RowKit cG Mem
structure GD where
 p:PV
 r:Option Nat
 lo:Nat
 hi:Nat
section
variable {P:Program} {N L:Nat}
inductive GK (P:Program) (N:Nat) (ops:Array Oper) (σs:List cg) (T:cn) (o:Oper):GD→Prop
 |val {p:PV} {d lo hi:Nat} (ks:List Nat) (hks:(ks.all fun k=>(o.looksAt ops).contains k)=true) (hw:fk ops T o=some true) (hy:∀r σ,lo≤r→r≤hi→σs[r]? =some σ→bE P σ (gT T ks) o p) (hd:o.dst=some d) (hN:Nat.blt d N=true):GK P N ops σs T o ⟨p,none,lo,hi⟩
 |skip {d lo hi:Nat} (hw:fk ops T o=some false) (hd:o.dst=some d) (hN:Nat.blt d N=true):GK P N ops σs T o ⟨.raw undef,none,lo,hi⟩
 |py {p:PV} {d r lo hi:Nat} {σ σ':cg} (ks:List Nat) (hks:(ks.all fun k=>(o.looksAt ops).contains k)=true) (hw:fk ops T o=some true) (h1:σs[r]? =some σ) (h2:σs[r+1]? =some σ') (hy:cq P σ (gT T ks) o p σ') (hd:o.dst=some d) (hN:Nat.blt d N=true):GK P N ops σs T o ⟨p,some r,lo,hi⟩
 |ll {p:PV} {r lo hi:Nat} {σ σ':cg} (ks:List Nat) (hks:(ks.all fun k=>(o.looksAt ops).contains k)=true) (hw:fk ops T o=some true) (h1:σs[r]? =some σ) (h2:σs[r+1]? =some σ') (hy:cq P σ (gT T ks) o p σ') (hd:o.dst=none):GK P N ops σs T o ⟨p,some r,lo,hi⟩
inductive GL (P:Program) (N:Nat) (ops:Array Oper) (σs:List cg) (T:cn):List Oper→List GD→Prop
 |nil:GL P N ops σs T [] []
 |cons {o:Oper} {g:GD} {l:List Oper} {gs:List GD}:GK P N ops σs T o g→GL P N ops σs T l gs→GL P N ops σs T (o::l) (g::gs)
theorem GL.get{ops:Array Oper}{σs:List cg}{T:cn}:∀ {l:List Oper} {gs:List GD},GL P N ops σs T l gs→gs.length=l.length∧∀(i:Nat) o g,l[i]? =some o→gs[i]? =some g→GK P N ops σs T o g
 |_,_,.nil=>⟨rfl,fun i o g h=>by simp at h⟩
 |_,_,.cons h hs=>by
  obtain⟨h1,h2⟩:=hs.get
  refine⟨by simp[h1],fun i o g ho hg=>?_⟩
  cases i with
  |zero=>simp at ho hg;subst ho;subst hg;exact h
  |succ i=>exact h2 i o g (by simpa using ho) (by simpa using hg)
def kp(gs:List GD)(i:Nat):Option Nat:=(gs[i]?).bind (·.r)
def FU(ops:Array Oper)(f m:Nat)(gs:List GD):Bool:=
  Nat.beq gs.length ops.size&&
  ((List.range ops.size).all fun i=>(lT ops i).all fun k=>decide (k<i))&&
  ((List.range ops.size).all fun i=>(List.range i).all fun j=>(cw ops i).isNone||cw ops i !=cw ops j)&&
  ((List.range ops.size).all fun j=>(ew ops j).all fun k=>(List.range ops.size).all fun i=>cw ops i !=some k||fx ops f j i)&&
  ((List.range ops.size).all fun i => match gs[i]? with
    |some ⟨_,some r,_,_⟩=>decide (r<m)&&(Nat.beq r 0||(List.range ops.size).any fun j=>kp gs j==some (r - 1)&&fx ops f i j)
    |some ⟨_,none,lo,hi⟩=>(Nat.beq lo 0||(List.range ops.size).any fun j=>kp gs j==some (lo - 1)&&fx ops f i j)&&(Nat.ble m hi||(List.range ops.size).any fun j=>kp gs j==some hi&&fx ops f j i)
    |none=>false)&&
  ((List.range ops.size).all fun i=>(List.range i).all fun j=>(kp gs i).isNone||kp gs i !=kp gs j)&&
  ((List.range m).all fun r=>(List.range ops.size).any fun j=>kp gs j==some r)
structure JR (ops:Array Oper) (f m:Nat) (gs:List GD):Prop where
 len:gs.length=ops.size
 lT:∀i,i<ops.size→∀k∈lT ops i,k<i
 ss:∀i j d,i<ops.size→j<ops.size→cw ops i=some d→cw ops j=some d→i=j
 rd:∀j,j<ops.size→∀k∈ew ops j,∀i,i<ops.size→cw ops i=some k→fx ops f j i=true
 py:∀(i:Nat) g r,gs[i]? =some g→g.r=some r→r<m∧(r=0∨∃j,j<ops.size∧kp gs j=some (r - 1)∧fx ops f i j=true)
 quiet:∀(i:Nat) g,gs[i]? =some g→g.r=none→(g.lo=0∨∃j,j<ops.size∧kp gs j=some (g.lo - 1)∧fx ops f i j=true)∧(m≤g.hi∨∃j,j<ops.size∧kp gs j=some g.hi∧fx ops f j i=true)
 one:∀i j r,i<ops.size→j<ops.size→kp gs i=some r→kp gs j=some r→i=j
 has:∀r,r<m→∃j,j<ops.size∧kp gs j=some r
theorem xL{ops:Array Oper}{f m:Nat}{gs:List GD}(h:FU ops f m gs=true):JR ops f m gs:=by
 unfold FU at h
 simp only[Bool.and_eq_true]at h
 obtain⟨⟨⟨⟨⟨⟨h1,h2⟩,h3⟩,h4⟩,h5⟩,h6⟩,h7⟩:=h
 have hl:gs.length=ops.size:=Nat.eq_of_beq_eq_true h1
 have all:∀ {n:Nat} {p:Nat→Bool},(List.range n).all p=true→∀i,i<n→p i=true:=fun h i hi=>List.all_eq_true.1 h i (List.mem_range.2 hi)
 have any:∀ {n:Nat} {p:Nat→Bool},(List.range n).any p=true→∃i,i<n∧p i=true:=fun h=>by
  obtain⟨i,hi,hp⟩:=List.any_eq_true.1 h
  exact⟨i,List.mem_range.1 hi,hp⟩
 have s3:∀i j d,i<ops.size→j<i→cw ops i=some d→cw ops j=some d→False:=fun i j d hi hj e1 e2=>by
  have:=all (all h3 i hi) j hj
  rw[e1,e2]at this
  simp at this
 have s6:∀i j r,i<ops.size→j<i→kp gs i=some r→kp gs j=some r→False:=fun i j r hi hj e1 e2=>by
  have:=all (all h6 i hi) j hj
  rw[e1,e2]at this
  simp at this
 refine⟨hl,fun i hi k hk=>?_,fun i j d hi hj e1 e2=>?_,fun j hj k hk i hi hd=>?_,fun i g r hg hr=>?_,fun i g hg hr=>?_,fun i j r hi hj e1 e2=>?_,fun r hr=>?_⟩
 ·have:=List.all_eq_true.1 (all h2 i hi) k hk;simpa using this
 ·rcases Nat.lt_trichotomy i j with h|h|h
  ·exact(s3 j i d hj h e2 e1).elim
  ·exact h
  ·exact(s3 i j d hi h e1 e2).elim
 ·have:=all (List.all_eq_true.1 (all h4 j hj) k hk) i hi
  rw[hd]at this
  simpa using this
 ·have hi:i<ops.size:=by rw[←hl];exact(List.getElem?_eq_some_iff.1 hg).1
  have:=all h5 i hi
  obtain⟨p,r',lo,hi'⟩:=g
  simp only at hr
  subst hr
  rw[hg]at this
  simp only[Bool.and_eq_true,decide_eq_true_eq,Bool.or_eq_true]at this
  refine⟨this.1,?_⟩
  rcases this.2 with h|h
  ·exact .inl (Nat.eq_of_beq_eq_true h)
  ·obtain⟨j,hj,h'⟩:=any h
   simp only[Bool.and_eq_true,beq_iff_eq]at h'
   exact .inr ⟨j,hj,h'.1,h'.2⟩
 ·have hi:i<ops.size:=by rw[←hl];exact(List.getElem?_eq_some_iff.1 hg).1
  have:=all h5 i hi
  obtain⟨p,r',lo,hi'⟩:=g
  simp only at hr
  subst hr
  rw[hg]at this
  simp only[Bool.and_eq_true,Bool.or_eq_true]at this
  refine⟨?_,?_⟩
  ·rcases this.1 with h|h
   ·exact .inl (Nat.eq_of_beq_eq_true h)
   ·obtain⟨j,hj,h'⟩:=any h
    simp only[Bool.and_eq_true,beq_iff_eq]at h'
    exact .inr ⟨j,hj,h'.1,h'.2⟩
  ·rcases this.2 with h|h
   ·exact .inl (Nat.ble_eq.mp h)
   ·obtain⟨j,hj,h'⟩:=any h
    simp only[Bool.and_eq_true,beq_iff_eq]at h'
    exact .inr ⟨j,hj,h'.1,h'.2⟩
 ·rcases Nat.lt_trichotomy i j with h|h|h
  ·exact(s6 j i r hj h e2 e1).elim
  ·exact h
  ·exact(s6 i j r hi h e1 e2).elim
 ·obtain⟨j,hj,h⟩:=any (all h7 r hr)
  exact⟨j,hj,by simpa using h⟩
structure F6 (base N:Nat) (F:Nat→Prop) (l:List Oper) (gs:List GD) (σs:List cg) (t:cn) (ls:Array Bool) (r:Nat) (E:Env) (a:Act) (w:World):Prop where
 size:ls.size=l.length
 down:Down l.toArray ls
 rk:∀i s,i<l.length→kp gs i=some s→(ls.getD i true=true↔s<r)
 sat:∃σ,σs[r]? =some σ∧Sat F base σ E w
 j9:a.defers=[]
 tmps:a.tmps.size=N
 t0:eB E w a.eval t
 lK:∀j d g,j<l.length→ls.getD j true=true→cw l.toArray j=some d→gs[j]? =some g→cM E w (a.eval (.tmp d)) g.p
theorem zj(ls:Array Bool)(i j:Nat)(b:Bool)(hi:i<ls.size):(ls.setIfInBounds i true).getD j b=if j=i then true else ls.getD j b:=by
 by_cases e:j=i
 ·subst e;simp[hi]
 ·rw[if_neg e]
  simp only[Array.getD_eq_getD_getElem?,Array.getElem?_setIfInBounds_ne (Ne.symm e)]
theorem Ey{ls:Array Bool}{i:Nat}(hi:i<ls.size)(b c:Bool):ls.getD i b=ls.getD i c:=by simp[hi]
section
variable {l:List Oper} {gs:List GD} {σs:List cg} {t T:cn} {f m base:Nat} {F:Nat→Prop}
theorem F6.reach(hG:JR l.toArray f m gs){ls:Array Bool}{r:Nat}{E:Env}{a:Act}{w:World}(h:F6 base N F l gs σs t ls r E a w){i j:Nat}(hi:i<l.length)(hr:fx l.toArray f i j=true)(hk:∀k∈lT l.toArray i,ls.getD k false=true):ls.getD j true=true:=by
 have:=ez (by rw[h.size];simp) h.down (fun i hi=>hG.lT i hi) f i j (by simpa using hi) hr hk
 by_cases hj:j<ls.size
 ·rw[Ey hj true false];exact this
 ·simp[hj]
theorem F6.looks(hG:JR l.toArray f m gs)(hT:nk l (gs.map (·.p)) t=T){ls:Array Bool}{r:Nat}{E:Env}{a:Act}{w:World}(h:F6 base N F l gs σs t ls r E a w){i:Nat}(hi:i<l.length)(hk:∀k∈lT l.toArray i,ls.getD k false=true):
  ∀k∈ew l.toArray i,∀p,look k T=some p→cM E w (a.eval (.tmp k)) p:=fun k hks p hp=>by
 rw[←hT]at hp
 rcases lN _ _ _ k p hp with⟨j,o,h1,h2,h3⟩|h'
 ·rw[List.getElem?_map,Option.map_eq_some_iff]at h3
  obtain⟨g,hg,rfl⟩:=h3
  have hj:j<l.length:=(List.getElem?_eq_some_iff.1 h1).1
  have hd:cw l.toArray j=some k:=by simp only[cw,List.getElem?_toArray,h1,Option.bind_some,h2]
  have hr:=hG.rd i (by simpa using hi) k hks j (by simpa using hj) hd
  exact h.lK j k g hj (h.reach hG hi hr hk) hd hg
 ·exact h.t0 k p h'
theorem F6.put(hG:JR l.toArray f m gs)(hfr:∀i d,i<l.length→cw l.toArray i=some d→look d t=none){ls:Array Bool}{r r':Nat}{E E':Env}{a:Act}{w w':World}(h:F6 base N F l gs σs t ls r E a w){i:Nat}{g:GD}{v:Value}(hi:i<l.length)(hu:ls.getD i true=false)(hk:∀k∈lT l.toArray i,ls.getD k false=true)(hg:gs[i]? =some g)(hgo:di E w E' w')
  (hs:∃σ,σs[r']? =some σ∧Sat F base σ E' w') (hr:(g.r=none∧r'=r)∨(g.r=some r∧r'=r+1)) {o:Oper} (ho:l[i]? =some o) (hdN:∀d,o.dst=some d→d<N) (hv:∀d,o.dst=some d→cM E' w' v g.p):
  F6 base N F l gs σs t (ls.setIfInBounds i true) r' E' (a.put o.dst v) w':=by
 have hil:i<ls.size:=by rw[h.size];exact hi
 have hrk:kp gs i=g.r:=by simp only[kp,hg,Option.bind_some]
 have hdi:cw l.toArray i=o.dst:=by simp only[cw,List.getElem?_toArray,ho,Option.bind_some]
 refine⟨by simpa using h.size,fun j hj hjs k hkj=>?_,fun j s hj hs'=>?_,hs,by cases o.dst<;>simpa[Act.put]using h.j9,by cases o.dst<;>simpa[Act.put]using h.tmps,fun k p hkp=>?_,fun j d g' hj hjl hd hg'=>?_⟩
 ·rw[zj _ _ _ _ hil]at hj ⊢
  split
  ·rfl
  ·by_cases e:j=i
   ·subst e;exact hk k hkj
   ·rw[if_neg e]at hj
    exact h.down j hj hjs k hkj
 ·rw[zj _ _ _ _ hil]
  by_cases e:j=i
  ·subst e
   rw[if_pos rfl]
   rw[hrk]at hs'
   rcases hr with⟨h1,_⟩|⟨h1,h2⟩
   ·rw[h1]at hs';cases hs'
   ·rw[h1]at hs';cases hs';exact⟨fun _=>by omega,fun _=>rfl⟩
  ·rw[if_neg e,h.rk j s hj hs']
   rcases hr with⟨_,h2⟩|⟨h1,h2⟩
   ·rw[h2]
   ·have:s≠r:=fun e'=>e (hG.one j i r (by simpa using hj) (by simpa using hi) (by rw[hs',e']) (by rw[hrk,h1]))
    omega
 ·have hne:∀d,o.dst=some d→k≠d:=fun d hd e=>by
   subst e
   rw[hfr i k hi (by rw[hdi,hd])]at hkp;cases hkp
  have:(a.put o.dst v).eval (.tmp k)=a.eval (.tmp k):=Act.eval_put fun d hd heq=>by cases heq;exact hne _ hd rfl
  rw[this]
  exact(h.t0 k p hkp).goes hgo
 ·rw[zj _ _ _ _ hil]at hjl
  by_cases e:j=i
  ·subst e
   rw[hdi]at hd
   rw[hg]at hg';cases hg'
   rw[hd,jG a (by rw[h.tmps];exact hdN d hd),if_pos rfl]
   exact hv d hd
  ·rw[if_neg e]at hjl
   have hne:∀d',o.dst=some d'→d≠d':=fun d' hd' e'=>by
    subst e'
    exact e (hG.ss j i d (by simpa using hj) (by simpa using hi) hd (by rw[hdi,hd']))
   have:(a.put o.dst v).eval (.tmp d)=a.eval (.tmp d):=Act.eval_put fun d' hd' heq=>by cases heq;exact hne _ hd' rfl
   rw[this]
   exact(h.lK j d g' hj hjl hd hg').goes hgo
theorem A4(hG:JR l.toArray f m gs)(hT:nk l (gs.map (·.p)) t=T)(hfr:∀i d,i<l.length→cw l.toArray i=some d→look d t=none)(hL:GL P N l.toArray σs T l gs){σm:cg}(hm:σs[m]? =some σm){Q:Exit→Act→World→Prop}{E₀:Env}{w₀:World}(hq:∀a' w' E',Sat F base σm E' w'→eB E' w' a'.eval T→a'.defers=[]→a'.tmps.size=N→di E₀ w₀ E' w'→Below base w₀ w'→Q .normal a' w'):
  ∀(fuel:Nat) (ls:Array Bool) (r:Nat) (E:Env) (a:Act) (w:World),F6 base N F l gs σs t ls r E a w→bO ls l.length=fuel→di E₀ w₀ E w→Below base w₀ w→r≤m→wpAny P .any l.toArray Q fuel ls a w:=by
 obtain⟨hgl,hget⟩:=hL.get
 intro fuel
 induction fuel with
 |zero=>
  intro ls r E a w h hu hgo hb hrm
  have hall:=dq hu
  have hrm':r=m:=by
   rcases Nat.lt_or_ge r m with h'|h'
   ·obtain⟨j,hj,hjr⟩:=hG.has r h'
    have hj:j<l.length:=by simpa using hj
    have:=(h.rk j r hj hjr).1 (hall j hj)
    omega
   ·omega
  subst hrm'
  refine⟨List.eq_nil_iff_forall_not_mem.2 fun i hi=>?_,?_⟩
  ·obtain⟨h1,h2,_⟩:=cH.1 hi
   rw[hall i (by simpa using h1)]at h2;cases h2
  ·obtain⟨σ,hσ,hs⟩:=h.sat
   rw[hm]at hσ;cases hσ
   refine hq a w E hs (fun k p hkp=>?_) h.j9 h.tmps hgo hb
   rw[←hT]at hkp
   rcases lN _ _ _ k p hkp with⟨j,o,h1,h2,h3⟩|h'
   ·rw[List.getElem?_map,Option.map_eq_some_iff]at h3
    obtain⟨g,hg,rfl⟩:=h3
    have hj:j<l.length:=(List.getElem?_eq_some_iff.1 h1).1
    exact h.lK j k g hj (hall j hj) (by simp only[cw,List.getElem?_toArray,h1,Option.bind_some,h2]) hg
   ·exact h.t0 k p h'
 |succ fuel ih=>
  intro ls r E a w h hu hgo hb hrm
  obtain⟨i0,hi0,hi1,hi2⟩:=fQ (ls:=ls) (m:=l.length) (by omega)
  have hi0r:i0∈Region.ready .any l.toArray ls:=cH.2 ⟨by simpa using hi0,hi1,fun k hk=>by
   have:=hG.lT i0 (by simpa using hi0) k hk
   rw[Ey (by rw[h.size];omega) false true];exact hi2 k this⟩
  refine⟨fun h0=>absurd hi0r (by rw[h0];simp),fun i hi=>?_⟩
  obtain⟨h1,h2,h3⟩:=cH.1 hi
  have hil:i<l.length:=by simpa using h1
  have ho:l[i]? =some l[i]:=by simp[hil]
  have hgi:gs[i]? =some (gs[i]'(by omega)):=by simp
  have hK:=hget i _ _ ho hgi
  generalize hgg:gs[i]'(by omega)=g at hgi hK
  generalize hoo:l[i]=o at ho hK
  have hlk:=h.looks hG hT hil h3
  have hlo:ew l.toArray i=o.looksAt l.toArray:=by simp only[ew,List.getElem?_toArray,ho]
  rw[hlo]at hlk
  have hpk:∀ks:List Nat,(ks.all fun k=>(o.looksAt l.toArray).contains k)=true→eB E w a.eval (gT T ks):=fun ks hks k p hkp=>by
   obtain⟨e1,e2⟩:=jf ks k p hkp
   exact hlk k (by have:=List.all_eq_true.1 hks k e1;simpa using this) p e2
  have hwant:∀b,fk l.toArray T o=some b→Region.wanted o (yielded l.toArray a.tmps)=b:=fun b hb=>by
   rw[i7];exact mh (fun k hk p hp=>hlk k hk p hp) hb
  have hun:bO (ls.setIfInBounds i true) l.length=fuel:=by have:=fO h2 hil (by rw[h.size];omega);omega
  unfold wpOp
  have ho':l.toArray[i]? =some o:=by simpa using ho
  simp only[ho']
  have hrk:kp gs i=g.r:=by simp only[kp,hgi,Option.bind_some]
  cases hK with
  | @val p d lo hi ks hks hw hy hd hN=>
   rw[hwant true hw,if_pos rfl]
   left
   obtain⟨σ,hσ,hs⟩:=h.sat
   obtain⟨q1,q2⟩:=hG.quiet i _ hgi rfl
   have hlo':lo≤r:=by
    rcases q1 with e|⟨j,hj,hj1,hj2⟩
    ·simp only at e;omega
    ·have:=(h.rk j _ (by simpa using hj) hj1).1 (h.reach hG hil hj2 h3)
     simp only at this;omega
   have hhi':r≤hi:=by
    rcases q2 with e|⟨j,hj,hj1,hj2⟩
    ·simp only at e;omega
    ·rcases Nat.lt_or_ge hi r with h'|h'
     ·have hjl:j<l.length:=by simpa using hj
      have e1:=(h.rk j _ hjl hj1).2 h'
      have e2:=h.reach hG hjl hj2 (h.down j e1 hj)
      rw[h2]at e2;cases e2
     ·exact h'
   refine qE (hy r σ hlo' hhi' hσ F base E a.eval w (gN a) hs (hpk ks hks)) fun v w' hE hv=>?_
   exact ih _ r E _ w' (h.put hG hfr hil h2 h3 hgi (.ext hE) ⟨σ,hσ,hs.ext hE⟩ (.inl ⟨rfl,rfl⟩) ho (fun d' hd'=>by rw[hd]at hd';cases hd';exact Nat.blt_eq.mp hN) (fun _ _=>hv)) hun (hgo.trans (.ext hE)) (hb.trans (Below.iy hE hs.bl)) hrm
  | @skip d lo hi hw hd hN=>
   rw[hwant false hw,if_neg (by simp)]
   exact ih _ r E _ w (h.put hG hfr hil h2 h3 hgi (di.refl _ _) h.sat (.inl ⟨rfl,rfl⟩) ho (fun d' hd'=>by rw[hd]at hd';cases hd';exact Nat.blt_eq.mp hN) (fun _ _=>.raw _)) hun hgo hb hrm
  | @py p d r0 lo hi σ σ' ks hks hw e1 e2 hy hd hN=>
   rw[hwant true hw,if_pos rfl]
   left
   obtain⟨q1,q2⟩:=hG.py i _ r0 hgi rfl
   have hr0:r0=r:=by
    have n1:¬r0<r:=fun h'=>by
     have:=(h.rk i r0 hil hrk).2 h'
     rw[h2]at this;cases this
    rcases q2 with e|⟨j,hj,hj1,hj2⟩
    ·omega
    ·have:=(h.rk j _ (by simpa using hj) hj1).1 (h.reach hG hil hj2 h3)
     omega
   subst hr0
   obtain⟨σ0,hσ,hs⟩:=h.sat
   rw[e1]at hσ;cases hσ
   obtain⟨v,w',E',hr,k1,k2,k3,k4⟩:=hy F base E a.eval w (gN a) hs (hpk ks hks)
   have hn':=ih _ (r0+1) E' (a.put o.dst v) w' (h.put hG hfr hil h2 h3 hgi k2 ⟨σ',e2,k1⟩ (.inr ⟨rfl,rfl⟩) ho (fun d' hd'=>by rw[hd]at hd';cases hd';exact Nat.blt_eq.mp hN) (fun _ _=>k4)) hun (hgo.trans k2) (hb.trans k3) (by omega)
   unfold Oper.wp
   rcases hr with hr|⟨rfl,hr⟩
   ·rw[hr];exact hn'
   ·rw[hr];exact hn'
  | @ll p r0 lo hi σ σ' ks hks hw e1 e2 hy hd=>
   rw[hwant true hw,if_pos rfl]
   left
   obtain⟨q1,q2⟩:=hG.py i _ r0 hgi rfl
   have hr0:r0=r:=by
    have n1:¬r0<r:=fun h'=>by
     have:=(h.rk i r0 hil hrk).2 h'
     rw[h2]at this;cases this
    rcases q2 with e|⟨j,hj,hj1,hj2⟩
    ·omega
    ·have:=(h.rk j _ (by simpa using hj) hj1).1 (h.reach hG hil hj2 h3)
     omega
   subst hr0
   obtain⟨σ0,hσ,hs⟩:=h.sat
   rw[e1]at hσ;cases hσ
   obtain⟨v,w',E',hr,k1,k2,k3,k4⟩:=hy F base E a.eval w (gN a) hs (hpk ks hks)
   have hn':=ih _ (r0+1) E' (a.put o.dst v) w' (h.put hG hfr hil h2 h3 hgi k2 ⟨σ',e2,k1⟩ (.inr ⟨rfl,rfl⟩) ho (fun d' hd'=>by rw[hd]at hd';cases hd') (fun d' hd'=>by rw[hd]at hd';cases hd')) hun (hgo.trans k2) (hb.trans k3) (by omega)
   unfold Oper.wp
   rcases hr with hr|⟨rfl,hr⟩
   ·rw[hr];exact hn'
   ·rw[hr];exact hn'
end
theorem la:∀(n k:Nat),k≤n→bO (Array.replicate n false) k=k
 |n,0,_=>rfl
 |n,k+1,h=>by
  simp only[bO]
  rw[la n k (by omega)]
  simp[show k<n by omega]
theorem tO{id:Nat}{l:List Oper}{t t':cn}{σ σm:cg}{Q:Exit→St→Prop}(f m:Nat)(σs:List cg)(gs:List GD)(T:cn)(hm:P.follows .mixedOrders=true)(hB:FU l.toArray f m gs=true)(hT:nk l (gs.map (·.p)) t=T)(hfr:(l.all fun o=>o.dst.all fun d=>(look d t).isNone)=true)(h0:σs[0]? =some σ)(h1:σs[m]? =some σm)
  (hL:GL P N l.toArray σs T l gs) (hsub:Sub T t') (hq:Q .normal ⟨t',σm⟩):W P N L (.region id l.toArray true) ⟨t,σ⟩ Q:=fun F base E₀ w₀ E a w hc hs=>by
 have hG:=xL hB
 have hE:Ext w {w with drawn:=w.drawn+1}:=⟨rfl,rfl,rfl,Nat.le_refl _,fun _ _=>rfl⟩
 refine wp_region_any hm ?_
 have hfr':∀i d,i<l.length→cw l.toArray i=some d→look d t=none:=fun i d hi hd=>by
  have ho:l[i]? =some l[i]:=by simp[hi]
  simp only[cw,List.getElem?_toArray,ho,Option.bind_some]at hd
  have:=List.all_eq_true.1 hfr _ (List.mem_of_getElem? ho)
  rw[hd]at this
  simpa using this
 have hg0:F6 base N F l gs σs t (Array.replicate l.length false) 0 E a {w with drawn:=w.drawn+1}:=by
  have hrep:∀i,i<l.length→(Array.replicate l.length false).getD i true=false:=fun i hi=>by simp[hi]
  refine⟨by simp,fun i hi hi'=>?_,fun i s hi _=>?_,⟨σ,h0,hs.sat.ext hE⟩,hs.j9,hs.size,hs.tmp.goes (.ext hE),fun j d g hj hjl=>?_⟩
  ·rw[hrep i (by simpa using hi')]at hi;cases hi
  ·rw[hrep i hi];simp
  ·rw[hrep j hj]at hjl;cases hjl
 have:=A4 (Q:=fun e a' w'=>nh F base N E₀ w₀ (Q e) a' w') hG hT hfr' hL h1 (E₀:=E₀) (w₀:=w₀) (fun a' w' E' k1 k2 k3 k4 k5 k6=>⟨⟨t',σm⟩,E',hq,⟨k1,k2.sub hsub,k3,k4⟩,k5,k6⟩) l.length _ 0 E a _ hg0 (la _ _ (Nat.le_refl _)) (hc.g.trans (.ext hE)) (hc.b.trans (Below.iy hE hs.sat.bl)) (Nat.zero_le _)
 simpa using this
theorem vk{id:Nat}{l:List Oper}{y:Code}{t t':cn}{σ σm:cg}{Q:Exit→St→Prop}(f m:Nat)(σs:List cg)(gs:List GD)(T:cn)(hm:P.follows .mixedOrders=true)(hB:FU l.toArray f m gs=true)(hT:nk l (gs.map (·.p)) t=T)(hfr:(l.all fun o=>o.dst.all fun d=>(look d t).isNone)=true)(h0:σs[0]? =some σ)(h1:σs[m]? =some σm)
  (hL:GL P N l.toArray σs T l gs) (hsub:Sub T t') (hq:W P N L y ⟨t',σm⟩ Q):W P N L (.seq (.region id l.toArray true) y) ⟨t,σ⟩ Q:=aj (tO f m σs gs T hm hB hT hfr h0 h1 hL hsub hq)
theorem yz{P:Program}{σs:List cg}{t:cn}{o:Oper}{p:PV}{lo hi:Nat}(h:∀σ∈(σs.drop lo).take (hi+1 - lo),bE P σ t o p):∀r σ,lo≤r→r≤hi→σs[r]? =some σ→bE P σ t o p:=fun r σ h1 h2 hs=>by
 refine h σ (List.mem_of_getElem? (i:=r - lo) ?_)
 rw[List.getElem?_take,if_pos (by omega),List.getElem?_drop,show lo+(r - lo)=r by omega]
 exact hs
theorem df{α:Type}{p:α→Prop}:∀x∈([]:List α),p x:=fun _ h=>by cases h
theorem bZ{α:Type}{p:α→Prop}{a:α}{l:List α}(h:p a)(hs:∀x∈l,p x):∀x∈a::l,p x:=fun x hx=>by
 rcases List.mem_cons.1 hx with rfl|h'
 ·exact h
 ·exact hs x h'
end
open Net eY
theorem Ju{P:Program}{N L:Nat}{x:Code}{st:St}{Q:Exit→St→Prop}{Q1:St→Prop}(h:W P N L x st (IM Q1))(k:∀s,Q1 s→Q .normal s):W P N L x st Q:=
 h.mono fun e s hq=>by cases e<;>first|exact k s hq|exact hq.elim
theorem Bu{T:ak}(hv:aq T=true)(D:List Bool)(n d:Nat):(bH T D n d).length≤512:=by
 have hl:=bT hv
 unfold bH
 split
 ·simp
 ·exact Nat.le_trans (List.length_filter_le _ _) (Nat.le_trans (eT T n _) (by omega))
theorem nJ(T:ak)(D:List Bool)(n d:Int):Can Tryz.prog 84 [aP T,bn D,num n,num d] (· =flag (gR T D n d)):=by
 obtain⟨q,hq⟩:∃q,decide (gV T D n d=0)=q:=⟨_,rfl⟩
 unfold gR
 rw[hq]
 exact aH Tryz.func84 I Tryz.ntmps84 I<|ab (.a 2 I<|.k [1,2,3,4] I)<|ab (.a 4 I<|.c rfl (xR T D n d) I<|.a 5 I<|.k [10] I)<|ab (.a 1 I<|.v (cf I (hq)) I<|.a 1 I<|.k [8] I)<|ao<|⟨_,_,az.of I,ay.pure,rfl⟩
def gC(T:ak)(k x:Int):List Bool:=if ej T k x=0 then aF T k x else []
theorem ru{T:ak}{k x:Int}(h:(aq T&&cj T k x)=true):gC T k x=aF T k x:=by
 unfold gC ej
 rw[if_pos h,if_pos rfl]
theorem oH(T:ak)(k x n d:Int):Can Tryz.prog 98 [aP T,ca k x,num n,num d] (· =flag (gR T (gC T k x) n d)):=by
 have hmk:=mI T k x
 unfold iO at hmk
 exact aH Tryz.func98 I Tryz.ntmps98 I<|ab (.a 3 I<|.k [2,3,4,5] I)<|ab (.a 2 I<|.c rfl (hmk) I<|.a 5 I<|.k [2,3,4,9] I)<|ab (.a 4 I<|.c rfl (nJ T (gC T k x) n d) I<|.a 1 I<|.k [8] I)<|ao<|⟨_,_,az.of I,ay.pure,rfl⟩
theorem AI{T:ak}(hv:aq T=true){a:Nat}(ha:a<2*T.ae.length)(h:0<gi T a):(aq T&&cj T 3 (gi T a))=true:=by
 have:=tA hv ha
 rw[hv]
 unfold cj
 simp only[if_neg (show ¬(3:Int)=1 by decide),if_neg (show ¬(3:Int)=2 by decide),if_true,Bool.true_and,Bool.and_eq_true,decide_eq_true_eq]
 exact⟨by omega,by omega⟩
theorem xm{T:ak}(hv:aq T=true){a:Nat}(ha:a<2*T.ae.length):(aq T&&cj T 2 (aS T a))=true:=by
 obtain⟨h0,h1⟩:=(aM hv).head a ha
 rw[hv]
 unfold cj
 simp only[if_neg (show ¬(2:Int)=1 by decide),if_true,Bool.true_and]
 exact aT.2 ⟨h0,h1⟩
theorem Bl(T:ak)(a:Nat)(d:Int)(hv:aq T=true)(ha:a<2*T.ae.length)(hd:0≤d∧d<T.nodes):Can Tryz.prog 45 [aP T,num a,num d] (· = .tuple [ca (dz T a d).1 (dz T a d).2,num 0]):=by
 have hll:=bT hv
 have hi:a / 2<T.ae.length:=by omega
 obtain⟨g,hg⟩:∃g,gi T a=g:=⟨_,rfl⟩
 obtain⟨h,hh⟩:∃h,aS T a=h:=⟨_,rfl⟩
 obtain⟨m,hm⟩:∃m,bm T a=m:=⟨_,rfl⟩
 have hgv:=AI hv ha
 have hnv:=xm hv ha
 have hrh:=gX T hv a ha
 have hrt:=gh T hv a ha
 have hgl:(cF T.ae (a / 2)).vg=g:=hg
 rw[hh]at hnv hrh
 rw[hg]at hgv
 rw[hm]at hrt
 obtain⟨c1,hc1⟩:∃q,decide (0<g)=q:=⟨_,rfl⟩
 obtain⟨c2,hc2⟩:∃q,gR T (gC T 3 g) m d=q:=⟨_,rfl⟩
 obtain⟨c3,hc3⟩:∃q,decide (h≠d)=q:=⟨_,rfl⟩
 obtain⟨c4,hc4⟩:∃q,gR T (gC T 2 h) m d=q:=⟨_,rfl⟩
 have hA:dz T a d=if(c1&&c2)=true then(3,g) else if(c3&&c4)=true then(2,h) else(1,((a / 2:Nat):Int)):=by
  unfold dz
  rw[hg,hh,hm,hc1,hc3,←ru hnv,hc4]
  congr 1
  cases c1 with
  |false=>rfl
  |true=>rw[←ru (hgv (tt hc1)),hc2]
 have hw1:=oH T 3 g m d
 rw[hc2]at hw1
 have hw2:=oH T 2 h m d
 rw[hc4]at hw2
 rw[hA]
 refine aH Tryz.func45 I Tryz.ntmps45 I<|aO<|aw 3 I<|aE [1,2,3,6] I ?_
 refine aj<|ab (.a 1 I<|.c rfl (hv▸fe T) I<|.a 1 I<|.k [1,2,3,6,14] I)<|ag I (fun h1=>?_) (fun h1=>?_)
 ·exact absurd h1 (by decide)
 ·clear h1
  refine ai<|aj<|bz 35 (.raw (.bool (false))) [1,2,3,6] I ?_ ?_
  ·exact .a 1 I<|.v (cf I (show decide ((a:Int)<0)=false from decide_eq_false (by omega))) I<|.a 5 I<|.v (aU I (hc:=rfl)) I<|.v (cf I (show decide (2*(T.ae.length:Int)≤(a:Int))=false from decide_eq_false (by omega))) I<|.a 3 I<|.v (cf I (show decide (d<0)=false from decide_eq_false (by omega))) I<|.a 5 I<|.v (cf I (show decide (T.nodes≤d)=false from decide_eq_false (by omega))) I<|.a 1 I<|.k [35,1,2,3,6] I
  refine ag I (fun h1=>?_) (fun h1=>?_)
  ·exact absurd h1 (by decide)
  ·clear h1
   refine ai<|ep mixed (by kernel_rfl) (.a 2 I<|.v [37,38] (dU I (hrt)) I I<|.a 2 I<|.v [40,41] (dU I (hrh)) I I<|.a 2 I<|.k [1,2,3,6,8,9] I) ?_
   refine aO<|aw 3 I<|bw (iV I I I (by decide) ((show(a:Int).tdiv 2=((a / 2:Nat):Int) by rw[Int.tdiv_eq_ediv_of_nonneg (by omega)];omega)) (by unfold In64;omega)) I<|bw (aN ((a / 2*7)) I) I<|aw 1 I<|bw (aJ I ((eP T.ae (a / 2) 6 hi (by omega)).trans (show(kh (cF T.ae (a / 2)))[6]? =some (num g) by rw[←hgl];rfl))) I<|aw 3 I<|aE [1,2,3,6,8,9,10] I ?_
   refine aO<|aw 4 I<|aE [1,2,3,6,8,9,10,11] I ?_
   refine aj<|au<|bz 53 (.raw (.bool (c1&&c2))) [1,2,3,6,8,9,10,11] I ?_ ?_
   ·refine .a 2 I<|.v (cf I (hc1)) I<|.a 1 I<|?_
    cases c1
    ·exact .a 7 I<|.k [53,1,2,3,6,8,9,10,11] I
    ·exact .a 4 I<|.c rfl (hw1) I<|.a 2 I<|.k [53,1,2,3,6,8,9,10,11] I
   refine ag I (fun h1=>?_) (fun h1=>?_)
   ·rw[if_pos h1]
    refine aO<|aw 3 I<|aE [6,7] I ?_
    exact ao<|⟨_,_,az.of I,ay.pure (p:=.tuple [ca 3 g,num 0]),rfl⟩
   ·rw[if_neg (by rw[h1];simp)]
    refine bz 65 (.raw (.bool (c3&&c4))) [1,6,11] I ?_ ?_
    ·refine .a 2 I<|.v (cf I (hc3)) I<|.a 1 I<|?_
     cases c3
     ·exact .a 7 I<|.k [65,1,6,11] I
     ·exact .a 4 I<|.c rfl (hw2) I<|.a 2 I<|.k [65,1,6,11] I
    refine ag I (fun h2=>?_) (fun h2=>?_)
    ·rw[if_pos h2]
     refine aO<|aw 3 I<|aE [6,7] I ?_
     exact ao<|⟨_,_,az.of I,ay.pure (p:=.tuple [ca 2 h,num 0]),rfl⟩
    ·rw[if_neg (by rw[h2];simp)]
     refine ai<|aO<|aw 1 I<|bw (iV I I I (by decide) ((show(a:Int).tdiv 2=((a / 2:Nat):Int) by rw[Int.tdiv_eq_ediv_of_nonneg (by omega)];omega)) (by unfold In64;omega)) I<|aw 3 I<|aE [6,7] I ?_
     exact ao<|⟨_,_,az.of I,ay.pure (p:=.tuple [ca 1 ((a / 2:Nat):Int),num 0]),rfl⟩
def lG(T:ak)(D E:List Bool)(k:Nat):List Bool:=(List.range (2*T.ae.length)).map fun a=>if a<k then aQ D a||aQ E a else aQ D a
theorem sz(T:ak)(D E:List Bool)(k:Nat):(lG T D E k).length=2*T.ae.length:=by simp[lG]
theorem nU{T:ak}{D E:List Bool}{k i:Nat}(h:i<(lG T D E k).length):(lG T D E k)[i]=if i<k then aQ D i||aQ E i else aQ D i:=by simp[lG]
theorem zf{M:List Bool}{a:Nat}(h:a<M.length):aQ M a=M[a]:=by rw[←ft];simp[h]
theorem Cx{T:ak}{D E:List Bool}(h:D.length=2*T.ae.length):lG T D E 0=D:=by
 apply List.ext_getElem (by rw[sz,h])
 intro i h1 h2
 rw[nU,if_neg (by omega),zf h2]
theorem Fl(T:ak)(D E:List Bool):lG T D E (2*T.ae.length)=orM T D E:=by
 unfold lG orM
 exact List.map_congr_left fun a ha=>if_pos (List.mem_range.1 ha)
theorem Cc(T:ak)(D E:List Bool)(k:Nat):(lG T D E k).set k (aQ D k||aQ E k)=lG T D E (k+1):=by
 apply List.ext_getElem (by simp[lG])
 intro i h1 h2
 rw[List.getElem_set,nU,nU]
 by_cases e:k=i
 ·subst e;rw[if_pos rfl,if_pos (by omega)]
 ·rw[if_neg e]
  by_cases h:i<k
  ·rw[if_pos h,if_pos (by omega)]
  ·rw[if_neg h,if_neg (by omega)]
theorem F8{T:ak}{D E:List Bool}{k:Nat}(h:k<2*T.ae.length):(lG T D E k).getD k false=aQ D k:=by
 have hk:k<(lG T D E k).length:=by rw[sz];exact h
 rw[List.getD_eq_getElem?_getD,List.getElem?_eq_getElem hk,Option.getD_some,nU,if_neg (by omega)]
end
end PW
end Go.Proofs.YtnegbdpggideiaaGreatDoor
