/- Texts of the proof, part 10. -/
import Derived.Test.YtnegbdpggideiaaGreatDoorCardXLB9
set_option linter.unusedVariables false
set_option linter.unusedSimpArgs false
set_option maxRecDepth 10000
set_option maxHeartbeats 1000000
namespace Go.Proofs.YtnegbdpggideiaaGreatDoor
namespace PW
section
open Go.RowKit cE Mem Net eY
theorem sY{T:an}{n:Int}{L:List Int}(hl:T.ag.length≤256)(h:eE T n L=true):L.length≤512:=by
 have h:=of_decide_eq_true h
 have key:∀i:Nat,i<L.length→(i:Int)≤L.getD i 0:=by
  intro i
  induction i with
  |zero=>intro hi;have:=(cD.1 (h 0 hi).1).1;omega
  |succ i ih=>
   intro hi
   have h1:=ih (by omega)
   have h2:=(h (i+1) hi).2.2 (by omega)
   rw[Nat.add_sub_cancel]at h2
   omega
 rcases Nat.eq_zero_or_pos L.length with h0|h0
 ·omega
 ·have h1:=key (L.length - 1) (by omega)
  have h2:=cD.1 (h (L.length - 1) (by omega)).1
  omega
theorem tY(p:dv)(s:List bU)(e:iS)(hs:s.length≤40)(hp:e.push.length≤40)(ha:e.ax.length≤1000)(hps:p.stack.length≤1000)(hh:0≤p.dD∧p.dD≤1000):Can Tryz.prog 106 [dx p,ca s,wW e] (· =vv (ft p s e)):=by
 obtain⟨c,hc⟩:∃q,e.rep=q:=⟨_,rfl⟩
 have hE:ft p s e=if c then(if 32<(e.push++s.drop 1).length then ez p 5 else cA p (e.push++s.drop 1) e.ax) else cA p s e.ax:=by unfold ft;rw[hc]
 rw[hE]
 refine aI Tryz.func106 I Tryz.ntmps106 I<|aP<|av 5 I<|aG [1,3,5,7] I ?_
 refine aj<|ab (.a 1 I<|.v (aJ I ((show(gz e)[1]? =some (flag c) by rw[←hc];rfl))) I<|.k [1,3,5,7,11] I)<|ah I (fun h1=>?_) (fun h1=>?_)
 ·subst h1
  simp only[if_true]
  refine ab (.a 2 I<|.k [3,5,7,9] I)<|aj<|ab (.a 3 I<|.k [3,5,7,9,15] I)<|ah I (fun h2=>?_) (fun h2=>?_)
  ·obtain⟨a,l,rfl⟩:∃a l,s=a::l:=by
    cases s with
    |nil=>exact absurd (tt h2) (by simp)
    |cons a l=>exact⟨a,l,rfl⟩
   simp only[List.drop_succ_cons,List.drop_zero]
   obtain⟨s',hs',hsl⟩:∃s',l=s'∧s'.length≤40:=⟨l,rfl,by simp at hs;omega⟩
   refine aC (.a 1 I<|.v (gv I (ba.el.get I) I I) I<|.a 1 I<|.k [3,5,7,9] I) ?_
   rw[hs']
   refine ab (.a 4 I<|.c rfl (p6 e.push s' (by omega)) I<|.a 1 I<|.k [1,3,5,7] I)<|ab (.a 3 I<|.k [1,3,5,7,25] I)<|ah I (fun h3=>?_) (fun h3=>?_)
   ·have h3:=tt h3
    rw[if_pos (by omega)]
    refine aP<|av 1 I<|fe I (gJ p 5 hps) I<|av 6 I<|aG [6,7,8] I ?_
    exact ao<|⟨_,_,az.of I,ay.aX (af.cons (ay.pure (p:=au []))<|af.cons (ay.pure (p:=dx p))<|af.cons ay.pure af.nil),rfl⟩
   ·have h3:=ff h3
    rw[if_neg (by omega)]
    refine ai<|aP<|av 4 I<|fe I (mN p _ e.ax (by first|(simp only[List.length_append];omega)|omega) ha hh) I<|av 6 I<|aG [6,7,8] I ?_
    exact ao<|⟨_,_,az.of I,ay.aX (af.cons (ay.pure (p:=au e.ax))<|af.cons (ay.pure (p:=dx ⟨p.id,p.src,p.dst,p.kq,_,p.dD+1⟩))<|af.cons ay.pure af.nil),rfl⟩
  ·obtain rfl:s=[]:=by
    cases s with
    |nil=>rfl
    |cons a l=>exact absurd (ff h2) (by simp)
   simp only[List.drop_nil]
   obtain⟨s',hs',hsl⟩:∃s',([]:List bU)=s'∧s'.length≤40:=⟨[],rfl,by simp⟩
   refine ai ?_
   rw[hs']
   refine ab (.a 4 I<|.c rfl (p6 e.push s' (by omega)) I<|.a 1 I<|.k [1,3,5,7] I)<|ab (.a 3 I<|.k [1,3,5,7,25] I)<|ah I (fun h3=>?_) (fun h3=>?_)
   ·have h3:=tt h3
    rw[if_pos (by omega)]
    refine aP<|av 1 I<|fe I (gJ p 5 hps) I<|av 6 I<|aG [6,7,8] I ?_
    exact ao<|⟨_,_,az.of I,ay.aX (af.cons (ay.pure (p:=au []))<|af.cons (ay.pure (p:=dx p))<|af.cons ay.pure af.nil),rfl⟩
   ·have h3:=ff h3
    rw[if_neg (by omega)]
    refine ai<|aP<|av 4 I<|fe I (mN p _ e.ax (by first|(simp only[List.length_append];omega)|omega) ha hh) I<|av 6 I<|aG [6,7,8] I ?_
    exact ao<|⟨_,_,az.of I,ay.aX (af.cons (ay.pure (p:=au e.ax))<|af.cons (ay.pure (p:=dx ⟨p.id,p.src,p.dst,p.kq,_,p.dD+1⟩))<|af.cons ay.pure af.nil),rfl⟩
 ·subst h1
  simp only[Bool.false_eq_true,if_false]
  refine ai<|aP<|av 4 I<|fe I (mN p _ e.ax (by first|(simp only[List.length_append];omega)|omega) ha hh) I<|av 6 I<|aG [6,7,8] I ?_
  exact ao<|⟨_,_,az.of I,ay.aX (af.cons (ay.pure (p:=au e.ax))<|af.cons (ay.pure (p:=dx ⟨p.id,p.src,p.dst,p.kq,_,p.dD+1⟩))<|af.cons ay.pure af.nil),rfl⟩
def di(x:de)(v:Int):iS:=x.dr.getD v.toNat IY
def eH(h:bU):List bU→List bU
 | []=>[]
 |a::l=>if a=h then eH h l else a::l
def CT(T:an)(x:de)(p:dv)(s:List bU)(v:Int)(K:Out):Out:=if(bm T v&&decide (0<((di x v).ax.length:Int)))=true then ft p s (di x v) else K
def du(T:an)(x:de)(p:dv)(s:List bU)(K:Out):Out:=
 if(decide ((s.length:Int)=0)&&decide (p.dst=x.node))=true then⟨[],⟨p.id,p.src,p.dst,p.kq,[],p.dD⟩, -1⟩
 else if(decide (255≤p.dD)||decide (p.dD<0))=true then ez p 4
 else match s with
  | []=>CT T x p [] p.dst (ez p 1)
  |a::l=>if a.kind=1 then CT T x p (a::l) a.num K
   else if a.kind=2 then(if(!(ep T a.num)||decide (br T a.num.toNat≠x.node))=true then ez p 2 else if a.num∈x.down then K else cA p l [a.num])
   else ez p 1
def dq(T:an)(x:de)(p:dv):Out:=
 if((!cV T x)|| !(bm T p.dst))=true then ez p 1
 else if 32<(p.stack.length:Int) then ez p 5
 else du T x p (eH ⟨1,x.node⟩ p.stack) (du T x p [] (ez p 1))
theorem vY(h:bU):∀l:List bU,(eH h l).length≤l.length
 | []=>Nat.le_refl _
 |a::l=>by
  simp only[eH]
  split
  ·have:=vY h l;simp only[List.length_cons];omega
  ·exact Nat.le_refl _
theorem kK{T:an}{x:de}(h:cV T x=true){v:Int}(hv:bm T v=true):∃k:Nat,v=(k:Int)∧x.dr[k]? =some (di x v)∧(di x v).push.length≤40∧(di x v).ax.length≤1000:=by
 unfold cV at h
 simp only[Bool.and_eq_true,decide_eq_true_eq]at h
 obtain⟨⟨⟨⟨h1,h2⟩,h3⟩,h4⟩,h5⟩:=h
 have hll:=bV h1
 obtain⟨v0,v1⟩:=aT.1 hv
 obtain⟨k,rfl⟩:=Int.eq_ofNat_of_zero_le v0
 have hk:k<x.dr.length:=by omega
 have hg:x.dr[k]? =some (di x (k:Int)):=by
  unfold di
  rw[Int.toNat_natCast,List.getD_eq_getElem?_getD,List.getElem?_eq_getElem hk]
  rfl
 have ho:=(of_decide_eq_true h5) k hk
 rw[mP _ _ _ hg]at ho
 unfold gh at ho
 simp only[Bool.and_eq_true]at ho
 refine⟨k,rfl,hg,?_,?_⟩
 ·have:=ho.2
  split at this
  ·simp only[Bool.and_eq_true,decide_eq_true_eq]at this;omega
  ·simp only[decide_eq_true_eq]at this;omega
 ·have:=sY hll ho.1.1;omega
theorem sd{T:an}{x:de}(h:cV T x=true):x.down.length≤1000:=by
 unfold cV at h
 simp only[Bool.and_eq_true]at h
 have:=sY (bV h.1.1.1.1) h.1.2
 omega
set_option maxHeartbeats 2000000 in
theorem EI(T : an)(x : de)(p : dv)(hps : p.stack.length ≤ 1000) : Can Tryz.prog 47 [aN T, fv x, dx p] (· = vv (dq T x p)) := by
  obtain⟨c1,hc1⟩:∃q,cV T x=q:=⟨_,rfl⟩
  obtain⟨c2,hc2⟩:∃q,bm T p.dst=q:=⟨_,rfl⟩
  obtain⟨n,hn⟩:∃n,x.node=n:=⟨_,rfl⟩
  unfold dq
  rw[hc1,hc2]
  refine aI Tryz.func47 I Tryz.ntmps47 I<|aP<|av 6 I<|aG [3,4,5,7] I ?_
  refine Ag ?_
  refine aj<|bE 22 (.raw (.bool ((!c1)|| !c2))) [3,4,5,7] I ?_ ?_
  · refine .a 2 I<|.c rfl (hc1▸sA T x) I<|.a 2 I<|?_
    cases c1
    · exact .a 6 I<|.k [22,3,4,5,7] I
    · exact .a 3 I<|.c rfl (hc2▸dF T p.dst) I<|.a 2 I<|.k [22,3,4,5,7] I
  refine ah I (fun h1=>?_) (fun h1=>?_)
  · rw[if_pos h1]
    refine aP<|av 1 I<|fe I (gJ p 1 hps) I<|av 6 I<|aG [6,7,8] I ?_
    exact ao<|⟨_,_,az.of I,ay.aX (af.cons (ay.pure (p:=au []))<|af.cons (ay.pure (p:=dx p))<|af.cons ay.pure af.nil),rfl⟩
  · rw [if_neg (by rw [h1]; simp)]
    obtain⟨rfl,rfl⟩:c1=true∧c2=true:=by revert h1;cases c1<;>cases c2<;>simp
    refine ai<|aj<|ab (.a 1 I<|.v (aJ I ((rfl:(cL p)[4]? =some (ca p.stack)))) I<|.a 2 I<|.k [3,4,5,7,31] I)<|ah I (fun h2=>?_) (fun h2=>?_)
    · rw[if_pos (tt h2)]
      refine aP<|av 1 I<|fe I (gJ p 5 hps) I<|av 6 I<|aG [6,7,8] I ?_
      exact ao<|⟨_,_,az.of I,ay.aX (af.cons (ay.pure (p:=au []))<|af.cons (ay.pure (p:=dx p))<|af.cons ay.pure af.nil),rfl⟩
    · rw [if_neg (ff h2)]
      have h32:p.stack.length≤32:=by have:=ff h2;omega
      refine ai<|ab (.a 1 I<|.v (aJ I ((rfl:(cL p)[4]? =some (ca p.stack)))) I<|.a 1 I<|.k [3,4,5,7,9] I)<|aP<|av 1 I<|bw (aJ I ((show(eR x)[0]? =some (num n) by rw[←hn];rfl))) I<|av 3 I<|aG [3,4,5,7,9,10] I ?_
      refine aj<|aw<|eS [3,4,5,7,9,10] I<|bu (fun r st=>∃s:List bU,s.length≤32∧r=s.length∧eH ⟨1,n⟩ p.stack=eH ⟨1,n⟩ s∧st=⟨[(3,.bc (bC T) 0),(4,.bc (eR x) 0),(5,.bc (cL p) 0),(7,.ptr 0 0),(9,ca s),(10,.ptr 1 0)],[some (.cells 66 [num 0,num 0,num 0,num 0,.raw (.slice none 0 0),num 0]),some (.cells 103 [num 1,num n])]⟩) p.stack.length ⟨p.stack,h32,rfl,rfl,rfl⟩ ?_
      rintro r st ⟨s,hs,rfl,hsk,rfl⟩
      obtain⟨e1,he1⟩:∃q,decide (0<(s.length:Int))=q:=⟨_,rfl⟩
      obtain⟨a,ha⟩:∃a,s.getD 0 ⟨0,0⟩=a:=⟨_,rfl⟩
      obtain⟨e2,he2⟩:∃q,decide (a=(⟨1,n⟩:bU))=q:=⟨_,rfl⟩
      refine aj<|iM mixed (by kernel_rfl) 51 (.raw (.bool (e1&&e2))) [3,4,5,7,9,10] I ?_ ?_
      · refine .a 2 I<|.v [43] (cd I (he1)) I I<|.a 1 I<|?_
        cases e1
        · exact .a 6 I<|.k [51,3,4,5,7,9,10] I
        · exact .a 1 I<|.v [46] (aM (0) I (by omega) (by have:=tt he1;omega)) I I<|.v [47] (fG I (gg s 0 a (by rw[←ha];have:=tt he1;rw[List.getD_eq_getElem?_getD,List.getElem?_eq_getElem (by omega)];rfl)) I) I I<|.a 1 I<|.v [48,49] (wE I I (b:=⟨1,n⟩) I he2) I I<|.a 1 I<|.k [51,3,4,5,7,9,10] I
      refine ah I (fun h3=>?_) (fun h3=>?_)
      · obtain⟨rfl,rfl⟩:=Bool.and_eq_true_iff.1 h3
        obtain⟨l,rfl⟩:∃l,s=(⟨1,n⟩:bU)::l:=by
          have h4:=tt he2
          cases s with
          |nil=>exact absurd (tt he1) (by simp)
          |cons b l=>exact⟨l,by rw[←h4,←ha];rfl⟩
        simp only[eH,if_true]at hsk
        refine ai<|aw<|aC (.a 1 I<|.v (gv I (ba.el.get I) I I) I<|.a 1 I<|.k [3,4,5,7,9,10] I) ?_
        exact⟨l.length,by simp,l,by simp at hs;omega,rfl,hsk,rfl⟩
      · have hsk:eH ⟨1,n⟩ p.stack=s:=by
          rw[hsk]
          cases s with
          |nil=>rfl
          |cons b l=>
            have e1t:e1=true:=by rw[←he1];simp
            rw[e1t,Bool.true_and]at h3
            rw[h3]at he2
            have h5:=ff he2
            simp only[eH]
            rw[if_neg (by rw[←ha]at h5;exact h5)]
        rw[hn,hsk]
        clear he1 ha he2 h3
        refine bh<|aj<|zY ?_
        refine aw<|eS [3,4,5,7,9] I<|bu (fun r st=>∃(s':List bU) (z:PV),kM z (ca s')∧s'.length≤32∧r=s'.length∧du T x p s (du T x p [] (ez p 1))=du T x p s' (du T x p [] (ez p 1))∧st=⟨[(3,.bc (bC T) 0),(4,.bc (eR x) 0),(5,.bc (cL p) 0),(7,.ptr 0 0),(9,z)],[some (.cells 66 [num 0,num 0,num 0,num 0,.raw (.slice none 0 0),num 0]),some (.cells 103 [num 1,num n])]⟩) s.length ⟨s,_,kM.refl _,hs,rfl,rfl,rfl⟩ ?_
        clear hsk hs
        rintro r st ⟨s',z,hz,hs,rfl,hR,rfl⟩
        refine lB (t':=[(3,.bc (bC T) 0),(4,.bc (eR x) 0),(5,.bc (cL p) 0),(7,.ptr 0 0),(9,ca s')]) ?_ ?_
        · exact Sub.cons rfl<|Sub.cons rfl<|Sub.cons rfl<|Sub.cons rfl<|Sub.IF rfl hz<|Sub.nil _
        clear hz
        rw[hR]
        clear hR
        obtain⟨K0,hK0⟩:∃K,du T x p [] (ez p 1)=K:=⟨_,rfl⟩
        rw[hK0]
        obtain⟨R,hS⟩:∃R,du T x p s' K0=R:=⟨_,rfl⟩
        rw[hS]
        have hRR:=hS
        unfold du at hRR
        obtain⟨c5,hc5⟩:∃q,decide ((s'.length:Int)=0)=q:=⟨_,rfl⟩
        obtain⟨c6,hc6⟩:∃q,decide (p.dst=n)=q:=⟨_,rfl⟩
        obtain⟨c7,hc7⟩:∃q,decide (255≤p.dD)=q:=⟨_,rfl⟩
        obtain⟨c8,hc8⟩:∃q,decide (p.dD<0)=q:=⟨_,rfl⟩
        rw[hc5,hn,hc6,hc7,hc8]at hRR
        refine aw<|aj<|bE 63 (.raw (.bool (c5&&c6))) [3,4,5,7,9] I ?_ ?_
        · refine .a 2 I<|.v (cd I (hc5)) I<|.a 1 I<|?_
          cases c5
          · exact .a 6 I<|.k [63,3,4,5,7,9] I
          · exact .a 1 I<|.v (aJ I ((rfl:(cL p)[2]? =some (num p.dst)))) I<|.a 1 I<|.v (aJ I ((show(eR x)[0]? =some (num n) by rw[←hn];rfl))) I<|.v (cd I (hc6)) I<|.a 1 I<|.k [63,3,4,5,7,9] I
        refine ah I (fun h1=>?_) (fun h1=>?_)
        · rw[if_pos h1]at hRR
          subst hRR
          refine aP<|av 1 I<|bw (xe I (af.cons ay.pure<|af.cons ay.bQ af.nil) (sq p [] (by simp))) I<|av 3 I<|aG [6,7,8] I ?_
          exact ao<|⟨_,_,az.of I,ay.aX (af.cons ay.bQ<|af.cons (ay.pure (p:=dx ⟨p.id,p.src,p.dst,p.kq,[],p.dD⟩))<|af.cons ay.pure af.nil),rfl⟩
        · rw [if_neg (by rw [h1]; simp)] at hRR
          refine ai<|aj<|bE 73 (.raw (.bool (c7||c8))) [3,4,5,7,9] I ?_ ?_
          · refine .a 1 I<|.v (aJ I ((rfl:(cL p)[5]? =some (num p.dD)))) I<|.v (cd I (hc7)) I<|.a 1 I<|?_
            cases c7
            · exact .a 1 I<|.v (aJ I ((rfl:(cL p)[5]? =some (num p.dD)))) I<|.v (cd I (hc8)) I<|.a 1 I<|.k [73,3,4,5,7,9] I
            · exact .a 4 I<|.k [73,3,4,5,7,9] I
          refine ah I (fun h2=>?_) (fun h2=>?_)
          · rw[if_pos h2]at hRR
            subst hRR
            refine aP<|av 1 I<|fe I (gJ p 4 hps) I<|av 6 I<|aG [6,7,8] I ?_
            exact ao<|⟨_,_,az.of I,ay.aX (af.cons (ay.pure (p:=au []))<|af.cons (ay.pure (p:=dx p))<|af.cons ay.pure af.nil),rfl⟩
          · rw [if_neg (by rw [h2]; simp)] at hRR
            have hh:0≤p.dD∧p.dD≤1000:=by
              obtain⟨h3,h4⟩:=Bool.or_eq_false_iff.1 h2
              rw[←hc7]at h3
              rw[←hc8]at h4
              have:=ff h3
              have:=ff h4
              omega
            clear hc5 hc6 hc7 hc8 h1 h2
            refine ai ?_
            obtain⟨v,hv⟩:∃v,p.dst=v:=⟨_,rfl⟩
            refine ab (.a 1 I<|.v (aJ I ((show(cL p)[2]? =some (num v) by rw[←hv];rfl))) I<|.a 1 I<|.k [3,4,5,7,9,11] I)<|aj<|ab (.a 3 I<|.k [3,4,5,7,9,11,83] I)<|ah I (fun h3=>?_) (fun h3=>?_)
            · have hne:0<s'.length:=by have:=tt h3;omega
              obtain⟨a,l,hs'⟩:∃a l,s'=a::l:=by
                cases s' with
                |nil=>exact absurd hne (by simp)
                |cons a l=>exact⟨a,l,rfl⟩
              have h0:s'[0]? =some a:=by rw[hs'];rfl
              rw[hs']at hRR
              dsimp only at hRR
              rw[←hs']at hRR
              clear hv
              obtain⟨v,hv⟩:∃v,a.num=v:=⟨_,rfl⟩
              rw[hv]at hRR
              refine ab (.a 1 I<|.v (aM (0) I (by omega) (by omega)) I<|.a 1 I<|.v (aJ I (((IZ s' 0 a h0).trans (by rw[hv])))) I<|.a 1 I<|.k [3,4,5,7,9,11] I)<|ab (.a 1 I<|.v (aM (0) I (by omega) (by omega)) I<|.a 1 I<|.v (aJ I ((IL s' 0 a h0))) I<|.k [3,4,5,7,9,11,91] I)<|aw<|ab (.a 2 I<|.k [3,4,5,7,9,11,91,97] I)<|ah I (fun h4=>?_) (fun h4=>?_)
              · rw[if_pos (tt h4)]at hRR
                obtain⟨K1,hK1,hK1n,hK1p⟩:∃K1,K1=K0∧(s'.length=0→K1=ez p 1)∧(0<s'.length→K1=K0):=⟨_,rfl,fun h=>absurd h (by omega),fun h=>rfl⟩
                rw[←hK1]at hRR
                clear hK1 h3 h4 hs' hv h0
                refine ai<|aj ?_
                obtain⟨c11,hc11⟩:∃q,bm T v=q:=⟨_,rfl⟩
                have hnc:=dF T v
                rw[hc11]at hnc
                unfold CT at hRR
                have hes:c11=true→x.dr[v.toNat]? =some (di x v)∧(di x v).push.length≤40∧(di x v).ax.length≤1000∧v<(x.dr.length:Int)∧0≤v:=fun h=>by
                  obtain⟨k,rfl,g1,g2,g3⟩:=kK hc1 (hc11.trans h)
                  have:=(List.getElem?_eq_some_iff.1 g1).1
                  exact⟨g1,g2,g3,by omega,by omega⟩
                obtain⟨e,he⟩:∃e,di x v=e:=⟨_,rfl⟩
                obtain⟨I0,hc12⟩:∃q,decide (0<(e.ax.length:Int))=q:=⟨_,rfl⟩
                rw[he]at hes hRR
                rw[hc11,hc12]at hRR
                refine uO (Q1:=fun st=>st=⟨[(143,flag (c11&&I0)),(3,.bc (bC T) 0),(4,.bc (eR x) 0),(5,.bc (cL p) 0),(7,.ptr 0 0),(9,ca s'),(11,num v)],[some (.cells 66 [num 0,num 0,num 0,num 0,.raw (.slice none 0 0),num 0]),some (.cells 103 [num 1,num n])]⟩) ?_ ?_
                · cases c11
                  · refine aC (.a 2 I<|.c rfl (hnc) I<|.a 10 I<|.k [143,3,4,5,7,9,11] I) ?_
                    rfl
                  · refine aC (.a 2 I<|.c rfl (hnc) I<|.a 2 I<|.v (aJ I ((rfl:(eR x)[1]? =some (ij x.dr)))) I<|.a 1 I<|.v (aM ((v.toNat*3)) I (hes rfl).2.2.2.2 (hes rfl).2.2.2.1) I<|.a 1 I<|.v (aJ I ((nZ x.dr v.toNat 0 e (hes rfl).1 (by omega)))) I<|.a 1 I<|.v (cd I (hc12)) I<|.a 1 I<|.k [143,3,4,5,7,9,11] I) ?_
                    rfl
                rintro _ rfl
                refine ah I (fun h8=>?_) (fun h8=>?_)
                · rw[if_pos h8]at hRR
                  obtain⟨g1,g2,g3,g4,g5⟩:=hes (Bool.and_eq_true_iff.1 h8).1
                  subst hRR
                  refine iC 12 20 mixed (
                    .val [5] I (aZ I) I I<|
                    .val [9] I (aZ I) I I<|
                    .val [4] I (aZ I) I I<|
                    .val [146] I (aJ I ((rfl:(eR x)[1]? =some (ij x.dr)))) I I<|
                    .val [11] I (aZ I) I I<|
                    .val [147,148] I (aM ((v.toNat*3)) I g5 g4) I I<|
                    .val [149] I (fG I ((jh x.dr v.toNat e g1)) I) I I<|
                    .val [144,145,150] I (dX I (tY p s' e (by omega) g2 g3 hps hh)) I I<|
                    .val [151] I (aZ I) I I<|
                    .val [151] I (aZ I) I I<|
                    .val [151] I (aZ I) I I<|
                    .val [152] I (aZ I) I I<|
                    .nil) (by kernel_rfl) I I (aY (ks:=[6,7,153,154]) I) ?_
                  refine av 2 I<|aG [6,7,8] I ?_
                  exact ao<|⟨_,_,az.of I,ay.aX (af.cons (ay.pure (p:=au (ft p s' e).ax))<|af.cons (ay.pure (p:=dx (ft p s' e).ev))<|af.cons ay.pure af.nil),rfl⟩
                · rw[if_neg (by rw[h8];simp)]at hRR
                  refine ai<|aj<|ab (.a 3 I<|.k [3,4,5,7,157] I)<|ah I (fun h9=>?_) (fun h9=>?_)
                  · rw[hK1n (by have:=tt h9;omega)]at hRR
                    subst hRR
                    refine aP<|av 1 I<|fe I (gJ p 1 hps) I<|av 6 I<|aG [6,7,8] I ?_
                    exact ao<|⟨_,_,az.of I,ay.aX (af.cons (ay.pure (p:=au []))<|af.cons (ay.pure (p:=dx p))<|af.cons ay.pure af.nil),rfl⟩
                  · have hne:0<s'.length:=by have:=ff h9;omega
                    rw[hK1p hne]at hRR
                    refine ai<|aC (.a 1 I<|.k [3,4,5,7,9] I) ?_
                    exact⟨0,hne,[],_,kM.bQ,by simp,rfl,hRR.symm.trans (hK0.symm.trans rfl),rfl⟩
              · rw[if_neg (ff h4)]at hRR
                refine ab (.a 2 I<|.k [3,4,5,7,9,11,99] I)<|ah I (fun h5=>?_) (fun h5=>?_)
                · rw[if_pos (tt h5)]at hRR
                  obtain⟨c9,hc9⟩:∃q,ep T v=q:=⟨_,rfl⟩
                  obtain⟨c10,hc10⟩:∃q,decide (br T v.toNat≠n)=q:=⟨_,rfl⟩
                  have hac:=qw T (by have h:=hc1;unfold cV at h;simp only[Bool.and_eq_true]at h;have:=bV h.1.1.1.1;omega) v
                  rw[hc9]at hac
                  rw[hc9,hc10]at hRR
                  refine aj<|iM mixed (by kernel_rfl) 112 (.raw (.bool ((!c9)||c10))) [3,4,5,7,9,11] I ?_ ?_
                  · refine .a 2 I<|.v [101,102] (dX I (hac)) I I<|.a 2 I<|?_
                    cases c9
                    · exact .a 7 I<|.k [112,3,4,5,7,9,11] I
                    · exact .a 2 I<|.v [106,107] (dX I (pr T v hc9)) I I<|.a 1 I<|.v [109] (aJ I ((show(eR x)[0]? =some (num n) by rw[←hn];rfl))) I I<|.v [108,110] (cd I (hc10)) I I<|.a 1 I<|.k [112,3,4,5,7,9,11] I
                  refine ah I (fun h6=>?_) (fun h6=>?_)
                  · rw[if_pos h6]at hRR
                    subst hRR
                    refine aP<|av 1 I<|fe I (gJ p 2 hps) I<|av 6 I<|aG [6,7,8] I ?_
                    exact ao<|⟨_,_,az.of I,ay.aX (af.cons (ay.pure (p:=au []))<|af.cons (ay.pure (p:=dx p))<|af.cons ay.pure af.nil),rfl⟩
                  · rw[if_neg (by rw[h6];simp)]at hRR
                    refine ai<|aj<|ab (.a 1 I<|.v (aJ I ((rfl:(eR x)[2]? =some (au x.down)))) I<|.a 1 I<|.c rfl (sC x.down v (sd hc1)) I<|.k [3,4,5,7,9,11,121] I)<|ah I (fun h7=>?_) (fun h7=>?_)
                    · rw[if_pos (tt h7)]at hRR
                      exact ab (.a 1 I<|.k [3,4,5,7,9] I)<|bh<|⟨0,hne,[],_,kM.bQ,by simp,rfl,hRR.symm.trans (hK0.symm.trans rfl),rfl⟩
                    · rw[if_neg (ff h7)]at hRR
                      subst hRR
                      subst hs'
                      refine ai<|iC 10 20 mixed (
                        .val [5] I (aZ I) I I<|
                        .val [9] I (aZ I) I I<|
                        .val [123] I (gv I (ba.el.get I) I I) I I<|
                        .val [11] I (aZ I) I I<|
                        .val [125] I (aZ I) I I<|
                        .val [122,124,126] I (dX I (mN p l [v] (by simp at hs;omega) (by simp) hh)) I I<|
                        .val [127] I (aZ I) I I<|
                        .val [127] I (aZ I) I I<|
                        .val [127] I (aZ I) I I<|
                        .val [128] I (aZ I) I I<|
                        .nil) (by kernel_rfl) I I (aY (ks:=[6,7,129,130]) I) ?_
                      refine av 2 I<|aG [6,7,8] I ?_
                      exact ao<|⟨_,_,az.of I,ay.aX (af.cons (ay.pure (p:=au [v]))<|af.cons (ay.pure (p:=dx (cA p l [v]).ev))<|af.cons ay.pure af.nil),rfl⟩
                · rw[if_neg (ff h5)]at hRR
                  subst hRR
                  refine aP<|av 1 I<|fe I (gJ p 1 hps) I<|av 6 I<|aG [6,7,8] I ?_
                  exact ao<|⟨_,_,az.of I,ay.aX (af.cons (ay.pure (p:=au []))<|af.cons (ay.pure (p:=dx p))<|af.cons ay.pure af.nil),rfl⟩
            · have hs':s'=[]:=by
                cases s' with
                |nil=>rfl
                |cons a l=>exact absurd (ff h3) (by simp)
              rw[hs']at hRR
              dsimp only at hRR
              rw[←hs',hv]at hRR
              obtain⟨K1,hK1,hK1n,hK1p⟩:∃K1,K1=ez p 1∧(s'.length=0→K1=ez p 1)∧(0<s'.length→K1=K0):=⟨_,rfl,fun _=>rfl,fun h=>absurd h (by rw[hs'];simp)⟩
              rw[←hK1]at hRR
              clear hK1 h3 hs' hv
              refine ai<|aj ?_
              obtain⟨c11,hc11⟩:∃q,bm T v=q:=⟨_,rfl⟩
              have hnc:=dF T v
              rw[hc11]at hnc
              unfold CT at hRR
              have hes:c11=true→x.dr[v.toNat]? =some (di x v)∧(di x v).push.length≤40∧(di x v).ax.length≤1000∧v<(x.dr.length:Int)∧0≤v:=fun h=>by
                obtain⟨k,rfl,g1,g2,g3⟩:=kK hc1 (hc11.trans h)
                have:=(List.getElem?_eq_some_iff.1 g1).1
                exact⟨g1,g2,g3,by omega,by omega⟩
              obtain⟨e,he⟩:∃e,di x v=e:=⟨_,rfl⟩
              obtain⟨I0,hc12⟩:∃q,decide (0<(e.ax.length:Int))=q:=⟨_,rfl⟩
              rw[he]at hes hRR
              rw[hc11,hc12]at hRR
              refine uO (Q1:=fun st=>st=⟨[(143,flag (c11&&I0)),(3,.bc (bC T) 0),(4,.bc (eR x) 0),(5,.bc (cL p) 0),(7,.ptr 0 0),(9,ca s'),(11,num v)],[some (.cells 66 [num 0,num 0,num 0,num 0,.raw (.slice none 0 0),num 0]),some (.cells 103 [num 1,num n])]⟩) ?_ ?_
              · cases c11
                · refine aC (.a 2 I<|.c rfl (hnc) I<|.a 10 I<|.k [143,3,4,5,7,9,11] I) ?_
                  rfl
                · refine aC (.a 2 I<|.c rfl (hnc) I<|.a 2 I<|.v (aJ I ((rfl:(eR x)[1]? =some (ij x.dr)))) I<|.a 1 I<|.v (aM ((v.toNat*3)) I (hes rfl).2.2.2.2 (hes rfl).2.2.2.1) I<|.a 1 I<|.v (aJ I ((nZ x.dr v.toNat 0 e (hes rfl).1 (by omega)))) I<|.a 1 I<|.v (cd I (hc12)) I<|.a 1 I<|.k [143,3,4,5,7,9,11] I) ?_
                  rfl
              rintro _ rfl
              refine ah I (fun h8=>?_) (fun h8=>?_)
              · rw[if_pos h8]at hRR
                obtain⟨g1,g2,g3,g4,g5⟩:=hes (Bool.and_eq_true_iff.1 h8).1
                subst hRR
                refine iC 12 20 mixed (
                  .val [5] I (aZ I) I I<|
                  .val [9] I (aZ I) I I<|
                  .val [4] I (aZ I) I I<|
                  .val [146] I (aJ I ((rfl:(eR x)[1]? =some (ij x.dr)))) I I<|
                  .val [11] I (aZ I) I I<|
                  .val [147,148] I (aM ((v.toNat*3)) I g5 g4) I I<|
                  .val [149] I (fG I ((jh x.dr v.toNat e g1)) I) I I<|
                  .val [144,145,150] I (dX I (tY p s' e (by omega) g2 g3 hps hh)) I I<|
                  .val [151] I (aZ I) I I<|
                  .val [151] I (aZ I) I I<|
                  .val [151] I (aZ I) I I<|
                  .val [152] I (aZ I) I I<|
                  .nil) (by kernel_rfl) I I (aY (ks:=[6,7,153,154]) I) ?_
                refine av 2 I<|aG [6,7,8] I ?_
                exact ao<|⟨_,_,az.of I,ay.aX (af.cons (ay.pure (p:=au (ft p s' e).ax))<|af.cons (ay.pure (p:=dx (ft p s' e).ev))<|af.cons ay.pure af.nil),rfl⟩
              · rw[if_neg (by rw[h8];simp)]at hRR
                refine ai<|aj<|ab (.a 3 I<|.k [3,4,5,7,157] I)<|ah I (fun h9=>?_) (fun h9=>?_)
                · rw[hK1n (by have:=tt h9;omega)]at hRR
                  subst hRR
                  refine aP<|av 1 I<|fe I (gJ p 1 hps) I<|av 6 I<|aG [6,7,8] I ?_
                  exact ao<|⟨_,_,az.of I,ay.aX (af.cons (ay.pure (p:=au []))<|af.cons (ay.pure (p:=dx p))<|af.cons ay.pure af.nil),rfl⟩
                · have hne:0<s'.length:=by have:=ff h9;omega
                  rw[hK1p hne]at hRR
                  refine ai<|aC (.a 1 I<|.k [3,4,5,7,9] I) ?_
                  exact⟨0,hne,[],_,kM.bQ,by simp,rfl,hRR.symm.trans (hK0.symm.trans rfl),rfl⟩
end
section
open Go.RowKit cE Mem Net
section
variable {T:an} {D:List Bool}
theorem Ch.snoc{d n:Nat}{q:List Int}(h:Ch T D d n q):∀ {a x:Nat},(q=[]∨dh T d=false)→a<2*T.ag.length→br T a=(d:Int)→aQ D a=false→aS T a=(x:Int)→Ch T D x n (q++[(a:Int)]):=by
 induction h with
 |nil=>intro a x _ h1 h2 h3 h4;exact .cons h1 h2 h3 h4 (.inl rfl) .nil
 | @cons n b m p hb ht hu hm ho hp ih=>
  intro a x hov h1 h2 h3 h4
  have hov':dh T d=false:=by rcases hov with h|h;cases h;exact h
  refine .cons hb ht hu hm ?_ (ih (.inr hov') h1 h2 h3 h4)
  rcases ho with h|h
  ·have:=hp.to h
   subst this
   exact .inr hov'
  ·exact .inr h
theorem I9(hv:aq T=true){n:Nat}(hn:(n:Int)<T.nodes){d m:Nat}{p:List Int}(h:Ch T D d m p)(h0:0≤at' (bH T D n true) (m:Int))(ho:p=[]∨m=n∨dh T m=false):0≤at' (bH T D n true) (d:Int):=by
 have hI:=jo (aO hv) D true hn
 induction h with
 |nil=>exact h0
 | @cons m a m' p ha ht hu hm hov hp ih=>
  have hw:=hI.closed a ha ⟨hu,by simp only[cX,if_true];rw[ht];exact h0,by
   simp only[cX,if_true];rw[ht]
   rcases ho with h|h|h
   ·cases h
   ·exact .inl (by rw[h])
   ·exact .inr (by simpa using h)⟩
  simp only[fJ,if_true]at hw
  rw[hm]at hw
  refine ih hw.1 ?_
  rcases hov with h|h
  ·exact .inl h
  ·exact .inr (.inr h)
theorem Jn(hv:aq T=true){n:Nat}(hn:(n:Int)<T.nodes):∀(k x:Nat),(x:Int)<T.nodes→0≤at' (bH T D n true) (x:Int)→at' (bH T D n true) (x:Int)≤k→0≤dN T D x n:=by
 have hS:=aO hv
 have hI:=jo hS D true hn
 intro k
 induction k with
 |zero=>
  intro x hx h0 hk
  rcases hI.nk x hx h0 with h|⟨a,ha,hX,hW,hs⟩
  ·subst h;rw[kT hv hn];exact Int.le_refl _
  ·have:=(hS.cost a ha).1
   have:=hW.2.1
   omega
 |succ k ih=>
  intro x hx h0 hk
  rcases hI.nk x hx h0 with h|⟨a,ha,hX,hW,hs⟩
  ·subst h;rw[kT hv hn];exact Int.le_refl _
  ·simp only[fJ,cX,if_true]at hX hs
   obtain⟨hu,hy0,hyo⟩:=hW
   simp only[cX,if_true]at hy0 hyo
   have hc:=(hS.cost a ha).1
   have ht:=hS.tail a ha
   obtain⟨y,hy⟩:=Int.eq_ofNat_of_zero_le ht.1
   rw[hy]at hy0 hyo hs ht
   have hyN:(y:Int)<T.nodes:=ht.2
   have h1:=ih y hyN hy0 (by omega)
   have hsp:=ej (D:=D) hv hyN hn h1
   have hc2:=hsp.ch.snoc (a:=a) (x:=x) (by
    rcases hyo with h|h
    ·have:y=n:=by omega
     subst this
     exact .inl hsp.self
    ·exact .inr (by simpa using h)) ha hy hu hX
   exact(hc2.le hv hx).1
theorem HZ(hv:aq T=true){n d:Nat}(hn:(n:Int)<T.nodes)(hd:(d:Int)<T.nodes):0≤(bH T D n true).getD d 0↔0≤dN T D d n:=by
 have hS:=aO hv
 have hI:=jo hS D true hn
 have hl:=hI.len
 have e:(bH T D n true).getD d 0=at' (bH T D n true) (d:Int):=by
  unfold at'
  rw[Int.toNat_natCast,List.getD_eq_getElem?_getD,List.getD_eq_getElem?_getD,List.getElem?_eq_getElem (by omega)]
  rfl
 rw[e]
 constructor
 ·intro h0
  exact Jn hv hn (at' (bH T D n true) (d:Int)).toNat d hd h0 (by have:=Int.toNat_of_nonneg h0;omega)
 ·intro h0
  have hsp:=ej (D:=D) hv hd hn h0
  refine I9 hv hn hsp.ch ?_ (.inr (.inl rfl))
  rw[hI.root]
  exact Int.le_refl _
end
open eY
def gA(T:an)(a:Nat):Int:=(cC T.ag (a / 2)).vF
noncomputable def iT(T:an)(D:List Bool)(n d:Int):Bool:=decide (gR T D n d=0)
noncomputable def er(T:an)(a:Nat)(d:Int):Int×Int:=
 if(decide (0<gA T a)&&iT T (aE T 3 (gA T a)) (br T a) d)=true then(3,gA T a)
 else if(decide (aS T a≠d)&&iT T (aE T 2 (aS T a)) (br T a) d)=true then(2,aS T a)
 else(1,((a / 2:Nat):Int))
def fX(T:an)(M:List Bool)(n:Int):List Bool:=(List.range (2*T.ag.length)).map fun a=>aQ M a&&decide (br T a=n)
def orM(T:an)(D E:List Bool):List Bool:=(List.range (2*T.ag.length)).map fun a=>aQ D a||aQ E a
theorem wZ{f:Nat→Bool}{n a:Nat}:aQ ((List.range n).map f) a=(decide (a<n)&&f a):=by
 unfold aQ
 rw[List.getD_eq_getElem?_getD,List.getElem?_map]
 by_cases h:a<n
 ·rw[List.getElem?_range h];simp[h]
 ·rw[List.getElem?_eq_none (by simp;omega)];simp[h]
theorem rR{T:an}{f:Nat→Bool}:bW T ((List.range (2*T.ag.length)).map f)=true:=by simp[bW]
theorem nX{T:an}{M:List Bool}{n:Int}{a:Nat}:aQ (fX T M n) a=(decide (a<2*T.ag.length)&&(aQ M a&&decide (br T a=n))):=wZ
theorem G0{T:an}{D E:List Bool}{a:Nat}:aQ (orM T D E) a=(decide (a<2*T.ag.length)&&(aQ D a||aQ E a)):=wZ
theorem dt(T:an)(k x:Int):bW T (aE T k x)=true:=rR
theorem DU(T:an)(M:List Bool)(n:Int):bW T (fX T M n)=true:=rR
theorem vm(T:an)(D E:List Bool):bW T (orM T D E)=true:=rR
theorem mO{T:an}{D:List Bool}{x y:Nat}(hv:aq T=true)(hf:bW T D=true)(hx:(x:Int)<T.nodes)(hy:(y:Int)<T.nodes):iT T D x y=true↔0≤dN T D y x:=by
 unfold iT
 rw[decide_eq_true_eq,kB hv hf hx hy]
 split<;>omega
theorem tN{T:an}(hv:aq T=true){a:Nat}(ha:a<2*T.ag.length):0≤gA T a∧gA T a≤64:=by
 have h:=sn hv (a / 2) (by omega)
 unfold gA
 unfold iJ at h
 rw[Bool.and_eq_true]at h
 unfold bL at h
 exact of_decide_eq_true h.2
theorem DV{T:an}(hv:aq T=true){a:Nat}(ha:a<2*T.ag.length)(d:Int):cp T (er T a d).1 (er T a d).2=true:=by
 have hg:=tN hv ha
 unfold er
 split
 ·rename_i h
  rw[Bool.and_eq_true,decide_eq_true_eq]at h
  show cp T 3 (gA T a)=true
  unfold cp
  simp only[if_neg (show ¬(3:Int)=1 by decide),if_neg (show ¬(3:Int)=2 by decide),if_true,Bool.and_eq_true,decide_eq_true_eq]
  exact⟨by omega,by omega⟩
 ·split
  ·obtain⟨h0,h1⟩:=(aO hv).head a ha
   show cp T 2 (aS T a)=true
   unfold cp
   simp only[if_neg (show ¬(2:Int)=1 by decide),if_true]
   exact aT.2 ⟨h0,h1⟩
  ·show cp T 1 ((a / 2:Nat):Int)=true
   unfold cp
   simp only[if_true,Bool.and_eq_true,decide_eq_true_eq]
   exact⟨by omega,by omega⟩
def lK(own:List Bool)(l:List Int):Option Int:=l.find? fun a=>aQ own a.toNat
noncomputable def pL(T:an)(own:List Bool)(n d:Int)(a:Nat):List Bool:=
 if iT T (orM T (aE T (er T a d).1 (er T a d).2) own) n d=true then orM T (aE T (er T a d).1 (er T a d).2) own else own
noncomputable def nB(T:an)(own:List Bool)(n d:Nat):iS:=match lK own (bI T [] n d)with
 |none=>⟨bI T [] n d,false,[]⟩
 |some a=>jW T (pL T own n d a.toNat) n d
noncomputable def pG(T:an)(own:List Bool)(n k:Nat):List iS:=(List.range k).map fun d=>nB T own n d
theorem Bi(T:an)(own:List Bool)(n k:Nat):pG T own n (k+1)=pG T own n k++[nB T own n k]:=by simp[pG,List.range_succ]
theorem sv(T:an)(own:List Bool)(n k:Nat):(pG T own n k).length=k:=by simp[pG]
theorem xl{T:an}{own:List Bool}{n k d:Nat}(h:d<k):(pG T own n k)[d]? =some (nB T own n d):=by simp[pG,h]
noncomputable def qW(T:an)(M:List Bool)(n:Nat):de:=⟨n,pG T (fX T M n) n T.nodes.toNat,cQ M (bN T n)⟩
section
variable {T:an} {M own:List Bool} {n d:Nat}
theorem wv(hf:bW T own=true)(a:Nat):bW T (pL T own n d a)=true:=by
 unfold pL;split
 ·exact vm _ _ _
 ·exact hf
theorem Ex{l:List Int}(h:lK own l=none):∀a∈l,aQ own a.toNat=false:=fun a ha=>by
 have:=List.find?_eq_none.1 h a ha
 simpa using this
theorem vO{l:List Int}{a:Int}(h:lK own l=some a):a∈l∧aQ own a.toNat=true:=⟨List.mem_of_find?_eq_some h,by have:=List.find?_some (p:=fun a:Int=>aQ own a.toNat) h;exact this⟩
theorem IU(hv:aq T=true)(h12:T.nodes≤12):gh T n d (nB T own n d)=true:=by
 unfold nB
 cases lK own (bI T [] n d)with
 |some b=>exact CZ _ _ _ _ h12
 |none=>
  unfold gh
  simp only[rQ,Bool.true_and]
  by_cases hdn:d=n
  ·subst hdn;rw[je];simp
  ·rw[decide_eq_false (by omega)];simp
theorem pq(hv:aq T=true)(h12:T.nodes≤12)(hn:(n:Int)<T.nodes):cV T (qW T M n)=true:=by
 unfold cV qW
 have h1:bm T (n:Int)=true:=aT.2 ⟨by omega,hn⟩
 have hN:=(aO hv).nodes
 have h2:decide (((pG T (fX T M n) n T.nodes.toNat).length:Int)=T.nodes)=true:=decide_eq_true (by rw[sv];omega)
 have h3:eE T n (cQ M (bN T n))=true:=mB T n _
 have h4:nu T n (pG T (fX T M n) n T.nodes.toNat)=true:=gT fun d e he=>by
  have hd:d<T.nodes.toNat:=by
   have:=(List.getElem?_eq_some_iff.1 he).1
   rwa [sv]at this
  rw[xl hd]at he
  cases he
  exact IU hv h12
 rw[hv,h1,h2,h3,h4]
 rfl
theorem EC{D E:List Bool}(hv:aq T=true)(hn:(n:Int)<T.nodes)(hd:(d:Int)<T.nodes)(hE:∀a,a<2*T.ag.length→aQ D a=false→aQ E a=false)(h:0≤dN T D d n):0≤dN T E d n:=by
 have hsp:=ej (D:=D) hv hd hn h
 have hch:Ch T E d n (cr T D n d):=by
  have:=hsp.ch
  generalize cr T D n d=p at this
  clear hsp h hn
  induction this with
  |nil=>exact .nil
  |cons ha ht hu hm ho hp ih=>exact .cons ha ht (hE _ ha hu) hm ho ih
 exact(hch.le hv hd).1
end
end
section
open Go.RowKit cE Mem Net
section
variable {T:an} {D:List Bool}
theorem iK.tail{n y m:Nat}{a:Int}{p:List Int}(h:iK T D n y (a::p))(hm:aS T a.toNat=(m:Int)):(p=[]∧m=y)∨iK T D m y p:=by
 have hsp:=h.sp
 cases hsp with
 | @cons n a m' p hnr hh hp=>
  rw[Int.toNat_natCast,hh]at hm
  have e:m'=m:=by omega
  subst e
  cases p with
  |nil=>cases hp;exact .inl ⟨rfl,rfl⟩
  |cons b p=>
   refine .inr ?_
   have hpt:=h.part (i:=1) (k:=p.length+1) (by omega) (by simp)
   have hb:∃b':Nat,b=(b':Int)∧br T b'=(m':Int):=by
    cases hp with
    |cons hn2 _ _=>exact⟨_,rfl,hn2.tail⟩
   obtain⟨b',rfl,hbt⟩:=hb
   have hfin:=h.sp.ch.fin
   have hlast:aS T (((a:Int)::(b':Int)::p).getD (p.length+1) 0).toNat=(y:Int):=by
    rw[←hfin]
    have:=gj T (n:Int) ((a:Int)::(b':Int)::p) (p.length+1) (by simp)
    rw[←this,List.take_of_length_le (by simp)]
   rw[hlast]at hpt
   have e1:br T (((a:Int)::(b':Int)::p).getD 1 0).toNat=(m':Int):=hbt
   rw[e1]at hpt
   obtain⟨u,v,e3,e4,hs,_⟩:=Ak hpt
   have e5:m'=u:=by omega
   have e6:y=v:=by omega
   subst e5;subst e6
   have:=hs.sp.unique hs.valid hs.hy hp hs.lr
   rw[this]at hs
   exact hs
theorem iK.Ii{E:List Bool}{n y:Nat}{p:List Int}(h:iK T D n y p)(hf:bW T E=true)(hE:∀a,aQ D a=false→aQ E a=false):iK T E n y p:=
 ⟨h.valid,hf,h.ne,h.hx,h.hy,h.uniq,h.sp,fun a ha=>hE _ (h.up a ha)⟩
inductive sP (T:an) (D:List Bool) (d:Nat):Nat→List bU→List Int→Prop
 |nil:sP T D d d [] []
 |node {n y:Nat} {p q:List Int} {l:List bU}:iK T D n y p→sP T D d y l q→sP T D d n (⟨1,(y:Int)⟩::l) (p++q)
 |fy {n a m:Nat} {q:List Int} {l:List bU}:a<2*T.ag.length→br T a=(n:Int)→aQ D a=false→aS T a=(m:Int)→sP T D d m l q→sP T D d n (⟨2,(a:Int)⟩::l) ((a:Int)::q)
theorem sP.len{d n:Nat}{l:List bU}{q:List Int}(h:sP T D d n l q):l.length≤q.length:=by
 induction h with
 |nil=>exact Nat.le_refl _
 |node hs _ ih=>have:=hs.pos;simp only[List.length_cons,List.length_append];omega
 |fy _ _ _ _ _ ih=>simp only[List.length_cons];omega
theorem sP.skip{d n:Nat}{l:List bU}{q:List Int}(h:sP T D d n l q):eH ⟨1,(n:Int)⟩ l=l:=by
 cases h with
 |nil=>rfl
 |node hs _=>
  have hne:=hs.ne
  simp only[eH]
  rw[if_neg (fun e=>by cases e;exact hne rfl)]
 |fy _ _ _ _ _=>
  simp only[eH]
  rw[if_neg (fun e=>by cases e)]
theorem sP.end_{d n:Nat}{l:List bU}(h:sP T D d n l []):l=[]∧n=d:=by
 generalize hq:([]:List Int)=q at h
 cases h with
 |nil=>exact⟨rfl,rfl⟩
 |node hs _=>
  have:=hs.pos
  have h2:=congrArg List.length hq
  simp only[List.length_nil,List.length_append]at h2
  omega
 |fy _ _ _ _ _=>cases hq
structure G5 (T:an) (D:List Bool) (n:Nat) (x:de):Prop where
 ok:cV T x=true
 node:x.node=(n:Int)
 down:∀a:Nat,(a:Int)∈x.down→aQ D a=true
 Ke:∀(y:Nat) p,iK T D n y p→(di x (y:Int)).ax=[p.getD 0 0]∧((di x (y:Int)).rep=true→(di x (y:Int)).push=[⟨1,(y:Int)⟩])
theorem p8{n d:Nat}{x:de}(hx:G5 T D n x)(hd:(d:Int)<T.nodes){p:dv}(hp:p.dst=(d:Int))(hn:n=d)(hl:eH ⟨1,(n:Int)⟩ p.stack=[])(h32:p.stack.length≤32):(dq T x p).ax=[]∧(dq T x p).cT= -1:=by
 have hdb:bm T p.dst=true:=aT.2 ⟨by omega,by omega⟩
 unfold dq
 rw[hx.ok,hdb,hx.node,hl,if_neg (by simp),if_neg (by omega)]
 unfold du
 rw[if_pos (by rw[hp,hx.node,hn];simp)]
 exact⟨rfl,rfl⟩
theorem A2{n d:Nat}{x:de}(hx:G5 T D n x)(hd:(d:Int)<T.nodes){p:dv}(hp:p.dst=(d:Int))(hh:p.dD=0){l:List bU}{a:Int}{q:List Int}(hl:eH ⟨1,(n:Int)⟩ p.stack=l)(h:sP T D d n l (a::q))(h32:p.stack.length≤32):
  ∃(m:Nat) (s:List bU),aS T a.toNat=(m:Int)∧0≤a∧a.toNat<2*T.ag.length∧br T a.toNat=(n:Int)∧aQ D a.toNat=false∧dq T x p=cA p s [a]∧s.length≤p.stack.length∧sP T D d m (eH ⟨1,(m:Int)⟩ s) q:=by
 have hdb:bm T p.dst=true:=aT.2 ⟨by omega,by omega⟩
 have hsl:=vY ⟨1,(n:Int)⟩ p.stack
 rw[hl]at hsl
 unfold dq
 rw[hx.ok,hdb,hx.node,hl,if_neg (by simp),if_neg (by omega)]
 generalize du T x p [] (ez p 1)=K
 generalize hq:a::q=q0 at h
 cases h with
 |nil=>cases hq
 | @node n y pp q1 l1 hs hr=>
  obtain⟨p0,pt,rfl⟩:∃p0 pt,pp=p0::pt:=by
   cases pp with
   |nil=>exact absurd hs.pos (by simp)
   |cons p0 pt=>exact⟨p0,pt,rfl⟩
  simp only[List.cons_append,List.cons.injEq]at hq
  obtain⟨rfl,rfl⟩:=hq
  have hyb:bm T (y:Int)=true:=aT.2 ⟨by omega,hs.hy⟩
  obtain⟨e1,e2⟩:=hx.Ke y _ hs
  have ha:∃a' m:Nat,a=(a':Int)∧a'<2*T.ag.length∧br T a'=(n:Int)∧aS T a'=(m:Int):=by
   have:=hs.sp
   cases this with
   |cons hnr hh _=>exact⟨_,_,rfl,hnr.fy,hnr.tail,hh⟩
  obtain⟨a',m,rfl,ha1,ha2,ha3⟩:=ha
  have hup:=hs.up (a':Int) (by simp)
  rw[Int.toNat_natCast]at hup ⊢
  have hskip:sP T D d m (eH ⟨1,(m:Int)⟩ (⟨1,(y:Int)⟩::l1)) (pt++q1):=by
   rcases hs.tail (m:=m) (by rw[Int.toNat_natCast];exact ha3)with⟨rfl,rfl⟩|ht
   ·simp only[eH,if_true,List.nil_append]
    rw[hr.skip]
    exact hr
   ·rw[(sP.node ht hr).skip]
    exact .node ht hr
  have hgo:du T x p (⟨1,(y:Int)⟩::l1) K=cA p (⟨1,(y:Int)⟩::l1) [(a':Int)]:=by
   unfold du
   rw[if_neg (by simp;intro h;omega),if_neg (by rw[hh];simp)]
   dsimp only
   rw[if_pos rfl]
   unfold CT
   rw[hyb,e1,if_pos (by simp)]
   unfold ft
   rw[e1]
   by_cases hrp:(di x (y:Int)).rep=true
   ·rw[if_pos hrp,e2 hrp]
    have hlen:([⟨1,(y:Int)⟩]++(⟨1,(y:Int)⟩::l1:List bU).drop 1)=(⟨1,(y:Int)⟩::l1:List bU):=rfl
    rw[hlen,if_neg (by omega)]
    rfl
   ·rw[if_neg hrp]
    rfl
  exact⟨m,_,ha3,by omega,ha1,ha2,hup,hgo,hsl,hskip⟩
 | @fy n a' m q1 l1 h1 h2 h3 h4 h5=>
  simp only[List.cons.injEq]at hq
  obtain⟨rfl,rfl⟩:=hq
  rw[Int.toNat_natCast]
  have hab:ep T (a':Int)=true:=cD.2 ⟨by omega,by omega⟩
  have hgo:du T x p (⟨2,(a':Int)⟩::l1) K=cA p l1 [(a':Int)]:=by
   unfold du
   rw[if_neg (by simp;intro h;omega),if_neg (by rw[hh];simp)]
   dsimp only
   rw[if_neg (by decide),if_pos rfl,hab,Int.toNat_natCast,h2,hx.node,if_neg (by simp),if_neg (fun hm=>by rw[hx.down a' hm]at h3;cases h3)]
  refine⟨m,l1,h4,by omega,h1,h2,h3,hgo,by simp only[List.length_cons]at hsl;omega,?_⟩
  rw[h5.skip]
  exact h5
theorem u6{n:Int}{p:List Int}{d:Nat}(hF:qf T D n p)(hfin:cI T n p=(d:Int)):∀(f i u:Nat),p.length - i≤f→i≤p.length→cI T n (p.take i)=(u:Int)→sP T D d u (iF T [] n p f i) (p.drop i)
 |f,i,u,hf,hi,hu=>by
  by_cases hlt:i<p.length
  ·cases f with
   |zero=>omega
   |succ f=>
    have ha:=hF.ax
    cases ht:lI (fD T [] n p i) i p.length with
    |none=>
     rw[lY hlt (fun k h1 h2=>jR _ ht k h1 h2)]
     obtain⟨v,hv,_⟩:=cB hF.valid hF.node ha (i+1) (by omega)
     have h1:=gj T n p i hlt
     rw[hv]at h1
     have h2:=pa hF hlt hu
     have hm:=cm (d:=0) hlt
     have h3:=cD.1 (ha _ hm)
     have h4:=hF.up _ hm
     have h5:=u6 hF hfin f (i+1) v (by omega) (by omega) hv
     rw[drop_cons p i hlt]
     obtain⟨a,hae⟩:=Int.eq_ofNat_of_zero_le h3.1
     rw[hae]at h1 h2 h3 h4 ⊢
     rw[Int.toNat_natCast]at h1 h2 h4
     exact .fy (by omega) h2 h4 h1.symm h5
    |some j=>
     obtain⟨t1,t2,t3,t4⟩:=oD _ _ ht
     rw[kC hlt t1 t2 t3 t4]
     obtain⟨v,hv,_⟩:=cB hF.valid hF.node ha j t2
     have hc:=qP hF t1 t2 hu hv
     rw[t3,Bool.and_eq_true]at hc
     obtain⟨h1,h2⟩:=hc
     obtain⟨a,b,e1,e2,hs,_⟩:=Ak h1
     have e1:u=a:=by omega
     have e2:v=b:=by omega
     subst e1;subst e2
     have e3:cr T [] u v=fj p i j:=of_decide_eq_true h2
     rw[e3]at hs
     have h5:=u6 hF hfin f j v (by omega) t2 hv
     have e4:p.drop i=fj p i j++p.drop j:=by
      unfold fj
      have:=List.take_append_drop (j - i) (p.drop i)
      rw[List.drop_drop,show i+(j - i)=j by omega]at this
      exact this.symm
     rw[hv,e4]
     exact .node hs h5
  ·have e:i=p.length:=by omega
   subst e
   rw[List.take_length,hfin]at hu
   have e:d=u:=by omega
   subst e
   rw[oB _ _ (Nat.le_refl _),List.drop_length]
   exact .nil
theorem oY.KI{n d:Nat}{p:List Int}(h:oY T D n d p):sP T D d n (i6 T [] n p) p:=by
 have:=u6 h.It h.sp.ch.fin p.length 0 n (by omega) (by omega) (by simp[cI])
 exact this
theorem oY.enter{n d:Nat}{p:List Int}(h:oY T D n d p):∃(a m:Nat) (q:List Int),p=(a:Int)::q∧a<2*T.ag.length∧br T a=(n:Int)∧aQ D a=false∧aS T a=(m:Int)∧sP T D d m (eH ⟨1,(m:Int)⟩ (jH (i6 T [] n p))) q:=by
 have hl:=h.KI
 have hpos:=h.pos
 generalize i6 T [] n p=l at hl
 cases hl with
 |nil=>exact absurd hpos (by simp)
 | @node n y pp q1 l1 hs hr=>
  obtain⟨p0,pt,rfl⟩:∃p0 pt,pp=p0::pt:=by
   cases pp with
   |nil=>exact absurd hs.pos (by simp)
   |cons p0 pt=>exact⟨p0,pt,rfl⟩
  have ha:∃a' m:Nat,p0=(a':Int)∧a'<2*T.ag.length∧br T a'=(n:Int)∧aS T a'=(m:Int):=by
   have:=hs.sp
   cases this with
   |cons hnr hh _=>exact⟨_,_,rfl,hnr.fy,hnr.tail,hh⟩
  obtain⟨a',m,rfl,ha1,ha2,ha3⟩:=ha
  have hup:=hs.up (a':Int) (by simp)
  rw[Int.toNat_natCast]at hup
  refine⟨a',m,pt++q1,rfl,ha1,ha2,hup,ha3,?_⟩
  have hcut:jH (⟨1,(y:Int)⟩::l1)=⟨1,(y:Int)⟩::l1:=by simp[jH]
  rw[hcut]
  rcases hs.tail (m:=m) (by rw[Int.toNat_natCast];exact ha3)with⟨rfl,rfl⟩|ht
  ·simp only[eH,if_true,List.nil_append]
   rw[hr.skip]
   exact hr
  ·rw[(sP.node ht hr).skip]
   exact .node ht hr
 | @fy n a' m q1 l1 h1 h2 h3 h4 h5=>
  refine⟨a',m,q1,rfl,h1,h2,h3,h4,?_⟩
  have hcut:jH (⟨2,(a':Int)⟩::l1)=l1:=by simp[jH]
  rw[hcut,h5.skip]
  exact h5
theorem ug{n d:Nat}{x:de}(hok:cV T x=true)(hxn:x.node=(n:Int))(hd:(d:Int)<T.nodes)(hne:n≠d){p:dv}(hp:p.dst=(d:Int))(hh:p.dD=0)(hl:eH ⟨1,(n:Int)⟩ p.stack=[])(h32:p.stack.length≤32)(ha:0<(di x (d:Int)).ax.length)(hpl:(di x (d:Int)).push.length≤32):
  dq T x p=cA p (if(di x (d:Int)).rep then(di x (d:Int)).push else []) (di x (d:Int)).ax:=by
 have hdb:bm T p.dst=true:=aT.2 ⟨by omega,by omega⟩
 unfold dq
 rw[hok,hdb,hxn,hl,if_neg (by simp),if_neg (by omega)]
 unfold du
 have hdn:decide ((d:Int)=x.node)=false:=decide_eq_false (by rw[hxn];omega)
 rw[hp,hdn,if_neg (by simp),if_neg (by rw[hh];simp)]
 dsimp only
 unfold CT
 rw[←hp,hdb,hp,if_pos (by simp;omega)]
 unfold ft
 simp only[List.drop_nil,List.append_nil]
 by_cases hr:(di x (d:Int)).rep=true
 ·rw[if_pos hr,if_pos hr,if_neg (by omega)]
 ·rw[if_neg hr,if_neg hr]
end
end
end PW
end Go.Proofs.YtnegbdpggideiaaGreatDoor
namespace Go.Proofs.YtnegbdpggideiaaGreatDoor
namespace eY
section
open Go.RowKit Go.Shelf Net
attribute [local go_sem] Oper.semAt_some
end
end eY
end Go.Proofs.YtnegbdpggideiaaGreatDoor
namespace Go.Proofs.YtnegbdpggideiaaGreatDoor
namespace PW
section
open Go.RowKit cE Mem
inductive Up (k:Nat):PV→PV→Prop
 |pure {p:PV} [IsPure p]:Up k p p
 |own {i j:Nat}:j=k+i→Up k (.own i) (.own j)
 |ptr {i j o:Nat}:j=k+i→Up k (.ptr i o) (.ptr j o)
 |agg {xs ys:List PV} (hl:ys.length=xs.length) (hs:∀(j:Nat) x y,xs[j]? =some x→ys[j]? =some y→Up k x y):Up k (.agg xs) (.agg ys)
 |tuple {xs ys:List PV} (hl:ys.length=xs.length) (hs:∀(j:Nat) x y,xs[j]? =some x→ys[j]? =some y→Up k x y):Up k (.tuple xs) (.tuple ys)
 |func {f:FuncId} {xs ys:List PV} (hl:ys.length=xs.length) (hs:∀(j:Nat) x y,xs[j]? =some x→ys[j]? =some y→Up k x y):Up k (.func f xs) (.func f ys)
def lL(k:Nat)(xs ys:List PV):Prop:=ys.length=xs.length∧∀(j:Nat) x y,xs[j]? =some x→ys[j]? =some y→Up k x y
theorem lL.nil{k:Nat}:lL k [] []:=⟨rfl,fun j x y h=>by simp at h⟩
theorem lL.cons{k:Nat}{x y:PV}{xs ys:List PV}(h:Up k x y)(hs:lL k xs ys):lL k (x::xs) (y::ys):=⟨by simp[hs.1],fun j a b h1 h2=>by
 cases j with
 |zero=>simp at h1 h2;subst h1;subst h2;exact h
 |succ j=>exact hs.2 j a b (by simpa using h1) (by simpa using h2)⟩
theorem lL.pure{k:Nat}{xs:List PV}[h:aL xs]:lL k xs xs:=⟨rfl,fun j x y h1 h2=>by
 rw[h1]at h2;cases h2
 haveI:=h.out j x h1
 exact Up.pure⟩
theorem Up.hZ{k:Nat}{xs ys:List PV}(h:lL k xs ys):Up k (.agg xs) (.agg ys):=.agg h.1 h.2
theorem Up.aX{k:Nat}{xs ys:List PV}(h:lL k xs ys):Up k (.tuple xs) (.tuple ys):=.tuple h.1 h.2
inductive IN (k:Nat):cJ→cJ→Prop
 |cells {ty:TypeId} {xs ys:List PV}:lL k xs ys→IN k (.cells ty xs) (.cells ty ys)
 |row {e s n:Nat} {xs ys:List PV}:lL k xs ys→IN k (.row e s n xs) (.row e s n ys)
 |mp {kv:List (Value×PV)} [aL (kv.map (·.2))]:IN k (.mp kv) (.mp kv)
def nK(k:Nat)(xs ys:List cJ):Prop:=ys.length=xs.length∧∀(j:Nat) x y,xs[j]? =some x→ys[j]? =some y→IN k x y
theorem nK.nil{k:Nat}:nK k [] []:=⟨rfl,fun j x y h=>by simp at h⟩
theorem nK.cons{k:Nat}{x y:cJ}{xs ys:List cJ}(h:IN k x y)(hs:nK k xs ys):nK k (x::xs) (y::ys):=⟨by simp[hs.1],fun j a b h1 h2=>by
 cases j with
 |zero=>simp at h1 h2;subst h1;subst h2;exact h
 |succ j=>exact hs.2 j a b (by simpa using h1) (by simpa using h2)⟩
section
variable {E E1 E2:Env} {w:World} {k:Nat}
theorem Up.rep(hat:∀i,i<E1.L→E2.at_ (k+i)=E1.at_ i∧k+i<E2.L)(hM:∀b,E2.M b→E1.M b){p q:PV}(h:Up k p q):∀v,cK E1 w v p→cK E2 w v q:=by
 induction h with
 | @pure p hp=>
  intro v h
  have:=hp.out E1 E2.M w v hM h
  exact this.goes (E:=EF E2.M) (E':=E2) (w:=w) (w':=w) ⟨Nat.zero_le _,fun i hi=>absurd hi (Nat.not_lt_zero i),fun _ _ h=>h,Nat.le_refl _,fun _ _ _=>rfl⟩
 | @own i j hij=>
  intro v h
  subst hij
  cases h with
  |own _ hi _ h hs=>exact .own _ (hat i hi).2 v ((hat i hi).1.trans h) hs
 | @ptr i j o hij=>
  intro v h
  subst hij
  cases h with
  |ptr _ _ b hi h=>exact .ptr _ o b (hat i hi).2 (by rw[(hat i hi).1];exact h)
 | @agg xs ys hl _ ih=>
  intro v h
  cases h with
  |agg cs _ hl' hr=>exact .agg cs ys (hl'.trans hl.symm) (fun j c u h1 h2=>by
    have hj:j<xs.length:=by rw[←hl];exact(List.getElem?_eq_some_iff.1 h2).1
    exact ih j xs[j] u (by simp[hj]) h2 c (hr j c _ h1 (by simp[hj])))
 | @tuple xs ys hl _ ih=>
  intro v h
  cases h with
  |tuple cs _ hl' hr=>exact .tuple cs ys (hl'.trans hl.symm) (fun j c u h1 h2=>by
    have hj:j<xs.length:=by rw[←hl];exact(List.getElem?_eq_some_iff.1 h2).1
    exact ih j xs[j] u (by simp[hj]) h2 c (hr j c _ h1 (by simp[hj])))
 | @func f xs ys hl _ ih=>
  intro v h
  cases h with
  |func _ cs _ hl' hr=>exact .func f cs ys (hl'.trans hl.symm) (fun j c u h1 h2=>by
    have hj:j<xs.length:=by rw[←hl];exact(List.getElem?_eq_some_iff.1 h2).1
    exact ih j xs[j] u (by simp[hj]) h2 c (hr j c _ h1 (by simp[hj])))
theorem lL.rep(hat:∀i,i<E1.L→E2.at_ (k+i)=E1.at_ i∧k+i<E2.L)(hM:∀b,E2.M b→E1.M b){xs ys:List PV}(h:lL k xs ys){cs:List Value}(hs:bd E1 w cs xs):bd E2 w cs ys:=⟨hs.1.trans h.1.symm,fun j c u h1 h2=>by
 have hj:j<xs.length:=by rw[←h.1];exact(List.getElem?_eq_some_iff.1 h2).1
 exact(h.2 j xs[j] u (by simp[hj]) h2).rep hat hM c (hs.2 j c _ h1 (by simp[hj]))⟩
theorem IN.sat{base base':Nat}(hb:base'≤base)(hat:∀i,i<E1.L→E2.at_ (k+i)=E1.at_ i∧k+i<E2.L)(hM:∀b,E2.M b→E1.M b){v:Value}{x y:cJ}(h:IN k x y)(hs:gH base E1 w v x):gH base' E2 w v y:=by
 cases h with
 |cells h1=>
  obtain⟨b,cs,h2,h3,h4,h5⟩:=hs
  exact⟨b,cs,h2,by omega,h4,h1.rep hat hM h5⟩
 |row h1=>
  obtain⟨cs,h2,h3⟩:=hs
  refine⟨cs,⟨h2.1,?_⟩,h1.rep hat hM h3⟩
  rcases h2.2 with h|⟨g,cap,cur,a1,a2,a3⟩
  ·exact .inl h
  ·exact .inr ⟨g,cap,cur,a1,by omega,a3⟩
 | @mp kv hp=>
  obtain⟨r,es,ck,h2,h3,h4,h5,h6⟩:=hs
  exact⟨r,es,ck,h2,by omega,h4,h5,lL.pure (k:=k).rep hat hM h6⟩
end
theorem bT.frame{P:Program}{f:FuncId}{ps:List PV}{σ:cc}{R:PV→cc→Prop}[aL ps]
  (h:bT P f ps [] (fun r σ1=>∃bs,σ1=bs.map some∧∃r' bs',Up σ.length r r'∧nK σ.length bs bs'∧R r' (σ++bs'.map some))):bT P f ps σ R:=fun F base E w vs hS hR=>by
 refine(h E.M w.heap.size (EF E.M) w vs (Sat.start E.M w (fun b hb=>hS.lt hb) hS.gl) (hR.pure (fun _ h=>h))).mono ?_
 rintro e w' ⟨v,r,σ1,E1,rfl,⟨bs,rfl,r',bs',hu,hbu,hRr⟩,hS1,hg1,hB1,hv⟩
 have hE:Ext w w':=hB1
 have hL1:E1.L=bs.length:=by rw[hS1.len];simp
 have hlen:((List.range bs.length).map E1.at_).length=bs'.length:=by rw[List.length_map,List.length_range,hbu.1]
 have hget:∀(i:Nat) v,((List.range bs.length).map E1.at_)[i]? =some v→i<bs.length∧v=E1.at_ i:=fun i v hi=>by
  have hi':i<bs.length:=by have:=(List.getElem?_eq_some_iff.1 hi).1;simpa using this
  rw[List.getElem?_map,List.getElem?_range hi']at hi
  cases hi
  exact⟨hi',rfl⟩
 have hbk:∀i,i<bs.length→∃x,bs[i]? =some x∧(bs.map some)[i]? =some (some x):=fun i hi=>⟨bs[i],by simp[hi],by simp[hi]⟩
 have hat:∀i,i<E1.L→(E.eJ ((List.range bs.length).map E1.at_)).at_ (σ.length+i)=E1.at_ i∧σ.length+i<(E.eJ ((List.range bs.length).map E1.at_)).L:=fun i hi=>by
  rw[hL1]at hi
  refine⟨?_,?_⟩
  ·simp only[Env.eJ,hS.len]
   rw[if_neg (by omega),Nat.add_sub_cancel_left,List.getD_eq_getElem?_getD,List.getElem?_map,List.getElem?_range hi]
   rfl
  ·simp only[Env.eJ,hS.len,List.length_map,List.length_range];omega
 have hM:∀b,(E.eJ ((List.range bs.length).map E1.at_)).M b→E1.M b:=fun b hb=>by
  rcases hb with hb|⟨v,hv1,hv2⟩
  ·exact(hS1.mm b).2 (.inl hb)
  ·obtain⟨i,hi⟩:=List.getElem?_of_mem hv1
   obtain⟨hi1,rfl⟩:=hget i v hi
   obtain⟨x,_,hx⟩:=hbk i hi1
   exact(hS1.mm b).2 (.inr ⟨i,x,hx,hv2⟩)
 have hp:=hS.eJ hE ((List.range bs.length).map E1.at_) bs' hlen
  (fun v hv1 b hb=>by
   obtain⟨i,hi⟩:=List.getElem?_of_mem hv1
   obtain⟨hi1,rfl⟩:=hget i v hi
   obtain⟨x,_,hx⟩:=hbk i hi1
   exact((hS1.blk i x hx).lt hb).1)
  (fun i j u v b hi hj hu hv=>by
   obtain⟨hi1,rfl⟩:=hget i u hi
   obtain⟨hj1,rfl⟩:=hget j v hj
   obtain⟨x,_,hx⟩:=hbk i hi1
   obtain⟨y,_,hy⟩:=hbk j hj1
   exact hS1.inj i j x y b hx hy hu hv)
  (fun i v blk hi hb=>by
   obtain⟨hi1,rfl⟩:=hget i v hi
   obtain⟨x,hx0,hx⟩:=hbk i hi1
   exact(hbu.2 i x blk hx0 hb).sat hS.bl hat hM (hS1.blk i x hx))
 exact⟨v,r',_,_,rfl,hRr,hp.1,hp.2,Below.ik hE hS.bl,hu.rep hat hM v hv⟩
open Net
theorem ri(T:an)(D:List Bool)(n:Int):Can Tryz.prog 53 [aN T,bq D,num n] (· = .tuple [fv (jN T D n),num (cN T D [n])]):=by
 refine aI Tryz.func53 I Tryz.ntmps53 I<|aP<|av 3 I<|aG [1,2,3,6] I ?_
 refine aj ?_
 obtain⟨q1,hq1⟩:∃q,aq T=q:=⟨_,rfl⟩
 obtain⟨q2,hq2⟩:∃q,bW T D=q:=⟨_,rfl⟩
 refine bE 22 (.raw (.bool ((!q1)||(!q2)))) [1,2,3,6] I ?_ ?_
 ·refine .a 1 I<|.c rfl (hq1▸eN T) I<|.a 2 I<|?_
  cases q1
  ·exact .a 5 I<|.k [22,1,2,3,6] I
  ·exact .a 2 I<|.c rfl (hq2▸my T D (by have:=bV hq1;omega)) I<|.a 2 I<|.k [22,1,2,3,6] I
 refine ah I (fun hc=>?_) (fun hc=>?_)
 ·have hch:cN T D [n]=1:=by
   unfold cN
   rw[hq1,hq2,if_neg]
   revert hc
   cases q1<;>cases q2<;>simp
  refine aP<|av 3 I<|aG [6,7] I ?_
  exact ao<|⟨_,_,az.of I,ay.aX (af.cons (ay.hZ (af.cons ay.pure<|af.cons ay.bQ<|af.cons ay.bQ af.nil)) (af.cons ay.pure af.nil)),by unfold jN;rw[hch];rfl⟩
 ·have hok:(aq T&&bW T D)=true:=by
   rw[hq1,hq2]
   revert hc
   cases q1<;>cases q2<;>simp
  clear hc hq1 hq2
  refine ai<|aj<|ab (.a 2 I<|.c rfl (dF T n) I<|.a 1 I<|.k [1,2,3,6,27] I)<|ah I (fun hc=>?_) (fun hc=>?_)
  ·have hn:bm T n=false:=by revert hc;cases bm T n<;>simp
   have hch:cN T D [n]=2:=by
    unfold cN
    rw[if_pos hok,if_neg]
    simp[hn]
   refine aP<|av 3 I<|aG [6,7] I ?_
   exact ao<|⟨_,_,az.of I,ay.aX (af.cons (ay.hZ (af.cons ay.pure<|af.cons ay.bQ<|af.cons ay.bQ af.nil)) (af.cons ay.pure af.nil)),by unfold jN;rw[hch];rfl⟩
  ·have hn:bm T n=true:=by revert hc;cases bm T n<;>simp
   have hch:cN T D [n]=0:=by
    unfold cN
    rw[if_pos hok,if_pos]
    simp[hn]
   obtain⟨hv,hf⟩:=Bool.and_eq_true_iff.1 hok
   rw[aT]at hn
   obtain⟨m,rfl⟩:=Int.eq_ofNat_of_zero_le hn.1
   obtain⟨N,hN⟩:∃N:Nat,T.nodes=(N:Int):=⟨T.nodes.toNat,by omega⟩
   have hN64:N≤64:=by have:=(aO hv).nodes;omega
   have hll:=bV hv
   refine ai<|aP<|av 4 I<|aG [1,2,3,6,8] I ?_
   refine cw 1 1 76 3 I I ?_
   refine cw 1 2 3 1 I I ?_
   refine aj<|ab (.a 1 I<|.v (aJ I ((show some (num T.nodes)=some (num (N:Int)) by rw[hN]))) I<|.a 1 I<|.k [1,2,3,6,8,32,33] I)<|aw<|eS [1,2,3,6,8,32,33] I<|bu (fun r s=>∃j,j≤N∧r=N - j∧s=⟨[(1,bq D),(2,num m),(3,.bc (bC T) 0),(6,.ptr 0 0),(8,.ptr 1 0),(32,num N),(33,num j)],[some (.cells 56 [num 0,.raw (.slice none 0 0),.raw (.slice none 0 0)]),some (.cells 56 [num m,.own 2,.own 3]),some (.row 76 3 j (dV (oS T D m j))),some (.row 3 1 0 [])]⟩) N ⟨0,by omega,by omega,rfl⟩ ?_
   rintro r s ⟨j,hj,rfl,rfl⟩
   refine ab (.a 1 I<|.k [1,2,3,6,8,32,33,34] I)<|aj<|ah I (fun hc=>?_) (fun hc=>?_)
   ·have hlt:j<N:=by have:=of_decide_eq_true hc;omega
    have hne:cu T D (m:Int) (j:Int)=0:=by
     have hnb:bm T (j:Int)=true:=aT.2 ⟨by omega,by omega⟩
     have hch':cN T D [(j:Int)]=0:=by
      unfold cN
      rw[if_pos hok,if_pos]
      simp[hnb]
     unfold cu
     rw[if_pos hch',if_pos (aT.2 hn)]
    have hnx:Can Tryz.prog 109 [aN T,bq D,num m,num j] (· = .tuple [au (bI T D m j),num 0]):=by
     have h:=sh T D (m:Int) (j:Int)
     rw[hne]at h
     exact h
    refine ai<|aj<|aw<|ab (.a 2 I<|.k [1,2,3,6,8,9,32,33] I)<|ab (.a 4 I<|.c rfl (hnx) I<|.a 5 I<|.k [1,2,3,6,8,10,32,33] I)<|bG<|av 3 I<|bw (Gi (iW (xs:=[_,_,_]) I (ba.st.get I) I I) (kM.hZ (.cons (kM.refl _)<|.cons (kM.refl _)<|.cons kM.bQ .nil))) I<|av 1 I<|b7 (bg I (ba.rk.get I) I I I I (by unfold maxLen;omega)) I<|av 2 I ?_
    refine eP [0,1,4,3] (.c 1<|.c 2<|.c 3<|.c 6<|.c 8<|.c 32<|.c 33<|.nil) (.kept rfl (.cells (aH.c<|aH.c<|aH.c<|aH.nil))<|.kept rfl (.cells (aH.c<|aH.c<|aH.c<|aH.nil))<|.kept rfl (.fF rfl (show _=dV (oS T D m (j+1)) by rw[xM];exact nC _ ⟨bI T D m j,false,[]⟩))<|.kept rfl (.row aH.pure)<|.nil) I I (bn ?_)
    refine aC (.v (aV I) I<|.a 1 I<|.k [1,2,3,6,8,32,33] I) ?_
    exact⟨N - (j+1),by omega,j+1,by omega,rfl,rfl⟩
   ·have hje:j=N:=by have:=of_decide_eq_false hc;omega
    subst hje
    refine bh<|aj ?_
    have hol:(bN T m).length≤512:=Nat.le_trans (eM T m _) (by omega)
    refine ab (.a 2 I<|.c rfl (oF T hll _) I<|.a 2 I<|.k [1,6,8,54,55,56] I)<|aw<|eS [1,6,8,54,55,56] I<|bu (fun r s=>∃i,i≤(bN T m).length∧r=(bN T m).length - i∧s=⟨[(1,bq D),(6,.ptr 0 0),(8,.ptr 1 0),(54,au (bN T m)),(55,num (bN T m).length),(56,num i)],[some (.cells 56 [num 0,.raw (.slice none 0 0),.raw (.slice none 0 0)]),some (.cells 56 [num m,.own 2,.own 3]),some (.row 76 3 j (dV (oS T D m j))),some (.row 3 1 (cQ D ((bN T m).take i)).length (aK (cQ D ((bN T m).take i))))]⟩) (bN T m).length ⟨0,by omega,by omega,rfl⟩ ?_
    rintro r s ⟨i,hi,rfl,rfl⟩
    refine ab (.a 1 I<|.k [1,6,8,54,55,56,57] I)<|aj<|ah I (fun hc=>?_) (fun hc=>?_)
    ·have hlt:i<(bN T m).length:=by have:=of_decide_eq_true hc;omega
     obtain⟨h0,h1⟩:=kp (cm (d:=0) hlt)
     obtain⟨a,ha⟩:=Int.eq_ofNat_of_zero_le h0
     have hDl:D.length=0∨a<D.length:=by simp only[bW,decide_eq_true_eq]at hf;omega
     have hstep:cQ D ((bN T m).take (i+1))=cQ D ((bN T m).take i)++(if aQ D a then [(a:Int)] else []):=by
      unfold cQ
      rw[dK _ i 0 hlt,List.filter_append,ha]
      simp only[List.filter_cons,List.filter_nil,Int.toNat_natCast]
     have hdl:(cQ D ((bN T m).take i)).length≤1000:=Nat.le_trans (List.length_filter_le _ _) (by rw[List.length_take];have:=eM T m (2*T.ag.length);unfold bN at*;omega)
     refine ai<|aj<|aw<|ab (.v (aM (i) I) I<|.v (aJ I ((aB _ i hlt).trans (by rw[ha]))) I<|.a 1 I<|.k [1,6,8,13,54,55,56] I)<|ab (.a 2 I<|.c rfl (jl D a hDl) I<|.k [1,6,8,13,54,55,56,62] I)<|ah I (fun hcd=>?_) (fun hcd=>?_)
     ·rw[hcd,if_pos rfl]at hstep
      refine bG<|av 4 I<|b7 (bg I (ba.rk.get I) I I I I (by unfold maxLen;omega)) I<|av 2 I ?_
      refine eP [0,1,2,4] (.c 1<|.c 6<|.c 8<|.c 54<|.c 55<|.c 56<|.nil) (.kept rfl (.cells (aH.c<|aH.c<|aH.c<|aH.nil))<|.kept rfl (.cells (aH.c<|aH.c<|aH.c<|aH.nil))<|.kept rfl (.row aH.pure)<|.kept rfl (.fF rfl (dA _ _))<|.nil) I I (bn ?_)
      refine aC (.v (aV I) I<|.a 1 I<|.k [1,6,8,54,55,56] I) ?_
      refine⟨(bN T m).length - (i+1),by omega,i+1,by omega,rfl,?_⟩
      rw[hstep]
      first
       |rfl
       |(simp only[List.length_append,List.length_singleton];rfl)
     ·rw[hcd,if_neg (by simp),List.append_nil]at hstep
      refine ai<|aC (.v (aV I) I<|.a 1 I<|.k [1,6,8,54,55,56] I) ?_
      refine⟨(bN T m).length - (i+1),by omega,i+1,by omega,rfl,?_⟩
      rw[hstep]
      first
       |rfl
       |(simp only[List.length_append,List.length_singleton];rfl)
    ·have hie:i=(bN T m).length:=by have:=of_decide_eq_false hc;omega
     subst hie
     refine bh<|aP<|bw (fc (ys:=[num m,.own 2,.own 3]) I (ba.tk.get I) I I I I) I<|av 2 I<|aG [6,7] I ?_
     refine ao<|⟨_,_,az.of I,ay.aX (af.cons (ay.hZ (af.cons ay.pure<|af.cons (ay.fr rfl af.pure)<|af.cons (ay.fr rfl af.pure) af.nil)) (af.cons ay.pure af.nil)),?_⟩
     unfold jN
     rw[hch,if_pos rfl,List.take_length]
     unfold dJ fv eR ij au
     rw[uT,show T.nodes.toNat=j by omega]
     rfl
open eY
theorem xI(T:an)(D:List Bool)(n:Int)(hch0:cN T D [n]=0):bT Tryz.prog 53 [aN T,bq D,num n] [] (fun r σ'=>r= .tuple [.agg [num n,.own 2,.own 3],num 0]∧σ'=[some (.cells 56 [num n,.own 2,.own 3]),some (.cells 56 [num n,.own 2,.own 3]),some (.row 76 3 T.nodes.toNat (dV (oS T D n.toNat T.nodes.toNat))),some (.row 3 1 (cQ D (bN T n)).length (aK (cQ D (bN T n))))]):=by
 refine ct Tryz.func53 I Tryz.ntmps53 I<|aP<|av 3 I<|aG [1,2,3,6] I ?_
 refine aj ?_
 obtain⟨q1,hq1⟩:∃q,aq T=q:=⟨_,rfl⟩
 obtain⟨q2,hq2⟩:∃q,bW T D=q:=⟨_,rfl⟩
 refine bE 22 (.raw (.bool ((!q1)||(!q2)))) [1,2,3,6] I ?_ ?_
 ·refine .a 1 I<|.c rfl (hq1▸eN T) I<|.a 2 I<|?_
  cases q1
  ·exact .a 5 I<|.k [22,1,2,3,6] I
  ·exact .a 2 I<|.c rfl (hq2▸my T D (by have:=bV hq1;omega)) I<|.a 2 I<|.k [22,1,2,3,6] I
 refine ah I (fun hc=>?_) (fun hc=>?_)
 ·have hch:cN T D [n]=1:=by
   unfold cN
   rw[hq1,hq2,if_neg]
   revert hc
   cases q1<;>cases q2<;>simp
  exact absurd hch0 (by rw[hch];decide)
 ·have hok:(aq T&&bW T D)=true:=by
   rw[hq1,hq2]
   revert hc
   cases q1<;>cases q2<;>simp
  clear hc hq1 hq2
  refine ai<|aj<|ab (.a 2 I<|.c rfl (dF T n) I<|.a 1 I<|.k [1,2,3,6,27] I)<|ah I (fun hc=>?_) (fun hc=>?_)
  ·have hn:bm T n=false:=by revert hc;cases bm T n<;>simp
   have hch:cN T D [n]=2:=by
    unfold cN
    rw[if_pos hok,if_neg]
    simp[hn]
   exact absurd hch0 (by rw[hch];decide)
  ·have hn:bm T n=true:=by revert hc;cases bm T n<;>simp
   have hch:cN T D [n]=0:=by
    unfold cN
    rw[if_pos hok,if_pos]
    simp[hn]
   obtain⟨hv,hf⟩:=Bool.and_eq_true_iff.1 hok
   rw[aT]at hn
   obtain⟨m,rfl⟩:=Int.eq_ofNat_of_zero_le hn.1
   obtain⟨N,hN⟩:∃N:Nat,T.nodes=(N:Int):=⟨T.nodes.toNat,by omega⟩
   have hN64:N≤64:=by have:=(aO hv).nodes;omega
   have hll:=bV hv
   refine ai<|aP<|av 4 I<|aG [1,2,3,6,8] I ?_
   refine cw 1 1 76 3 I I ?_
   refine cw 1 2 3 1 I I ?_
   refine aj<|ab (.a 1 I<|.v (aJ I ((show some (num T.nodes)=some (num (N:Int)) by rw[hN]))) I<|.a 1 I<|.k [1,2,3,6,8,32,33] I)<|aw<|eS [1,2,3,6,8,32,33] I<|bu (fun r s=>∃j,j≤N∧r=N - j∧s=⟨[(1,bq D),(2,num m),(3,.bc (bC T) 0),(6,.ptr 0 0),(8,.ptr 1 0),(32,num N),(33,num j)],[some (.cells 56 [num 0,.raw (.slice none 0 0),.raw (.slice none 0 0)]),some (.cells 56 [num m,.own 2,.own 3]),some (.row 76 3 j (dV (oS T D m j))),some (.row 3 1 0 [])]⟩) N ⟨0,by omega,by omega,rfl⟩ ?_
   rintro r s ⟨j,hj,rfl,rfl⟩
   refine ab (.a 1 I<|.k [1,2,3,6,8,32,33,34] I)<|aj<|ah I (fun hc=>?_) (fun hc=>?_)
   ·have hlt:j<N:=by have:=of_decide_eq_true hc;omega
    have hne:cu T D (m:Int) (j:Int)=0:=by
     have hnb:bm T (j:Int)=true:=aT.2 ⟨by omega,by omega⟩
     have hch':cN T D [(j:Int)]=0:=by
      unfold cN
      rw[if_pos hok,if_pos]
      simp[hnb]
     unfold cu
     rw[if_pos hch',if_pos (aT.2 hn)]
    have hnx:Can Tryz.prog 109 [aN T,bq D,num m,num j] (· = .tuple [au (bI T D m j),num 0]):=by
     have h:=sh T D (m:Int) (j:Int)
     rw[hne]at h
     exact h
    refine ai<|aj<|aw<|ab (.a 2 I<|.k [1,2,3,6,8,9,32,33] I)<|ab (.a 4 I<|.c rfl (hnx) I<|.a 5 I<|.k [1,2,3,6,8,10,32,33] I)<|bG<|av 3 I<|bw (Gi (iW (xs:=[_,_,_]) I (ba.st.get I) I I) (kM.hZ (.cons (kM.refl _)<|.cons (kM.refl _)<|.cons kM.bQ .nil))) I<|av 1 I<|b7 (bg I (ba.rk.get I) I I I I (by unfold maxLen;omega)) I<|av 2 I ?_
    refine eP [0,1,4,3] (.c 1<|.c 2<|.c 3<|.c 6<|.c 8<|.c 32<|.c 33<|.nil) (.kept rfl (.cells (aH.c<|aH.c<|aH.c<|aH.nil))<|.kept rfl (.cells (aH.c<|aH.c<|aH.c<|aH.nil))<|.kept rfl (.fF rfl (show _=dV (oS T D m (j+1)) by rw[xM];exact nC _ ⟨bI T D m j,false,[]⟩))<|.kept rfl (.row aH.pure)<|.nil) I I (bn ?_)
    refine aC (.v (aV I) I<|.a 1 I<|.k [1,2,3,6,8,32,33] I) ?_
    exact⟨N - (j+1),by omega,j+1,by omega,rfl,rfl⟩
   ·have hje:j=N:=by have:=of_decide_eq_false hc;omega
    subst hje
    refine bh<|aj ?_
    have hol:(bN T m).length≤512:=Nat.le_trans (eM T m _) (by omega)
    refine ab (.a 2 I<|.c rfl (oF T hll _) I<|.a 2 I<|.k [1,6,8,54,55,56] I)<|aw<|eS [1,6,8,54,55,56] I<|bu (fun r s=>∃i,i≤(bN T m).length∧r=(bN T m).length - i∧s=⟨[(1,bq D),(6,.ptr 0 0),(8,.ptr 1 0),(54,au (bN T m)),(55,num (bN T m).length),(56,num i)],[some (.cells 56 [num 0,.raw (.slice none 0 0),.raw (.slice none 0 0)]),some (.cells 56 [num m,.own 2,.own 3]),some (.row 76 3 j (dV (oS T D m j))),some (.row 3 1 (cQ D ((bN T m).take i)).length (aK (cQ D ((bN T m).take i))))]⟩) (bN T m).length ⟨0,by omega,by omega,rfl⟩ ?_
    rintro r s ⟨i,hi,rfl,rfl⟩
    refine ab (.a 1 I<|.k [1,6,8,54,55,56,57] I)<|aj<|ah I (fun hc=>?_) (fun hc=>?_)
    ·have hlt:i<(bN T m).length:=by have:=of_decide_eq_true hc;omega
     obtain⟨h0,h1⟩:=kp (cm (d:=0) hlt)
     obtain⟨a,ha⟩:=Int.eq_ofNat_of_zero_le h0
     have hDl:D.length=0∨a<D.length:=by simp only[bW,decide_eq_true_eq]at hf;omega
     have hstep:cQ D ((bN T m).take (i+1))=cQ D ((bN T m).take i)++(if aQ D a then [(a:Int)] else []):=by
      unfold cQ
      rw[dK _ i 0 hlt,List.filter_append,ha]
      simp only[List.filter_cons,List.filter_nil,Int.toNat_natCast]
     have hdl:(cQ D ((bN T m).take i)).length≤1000:=Nat.le_trans (List.length_filter_le _ _) (by rw[List.length_take];have:=eM T m (2*T.ag.length);unfold bN at*;omega)
     refine ai<|aj<|aw<|ab (.v (aM (i) I) I<|.v (aJ I ((aB _ i hlt).trans (by rw[ha]))) I<|.a 1 I<|.k [1,6,8,13,54,55,56] I)<|ab (.a 2 I<|.c rfl (jl D a hDl) I<|.k [1,6,8,13,54,55,56,62] I)<|ah I (fun hcd=>?_) (fun hcd=>?_)
     ·rw[hcd,if_pos rfl]at hstep
      refine bG<|av 4 I<|b7 (bg I (ba.rk.get I) I I I I (by unfold maxLen;omega)) I<|av 2 I ?_
      refine eP [0,1,2,4] (.c 1<|.c 6<|.c 8<|.c 54<|.c 55<|.c 56<|.nil) (.kept rfl (.cells (aH.c<|aH.c<|aH.c<|aH.nil))<|.kept rfl (.cells (aH.c<|aH.c<|aH.c<|aH.nil))<|.kept rfl (.row aH.pure)<|.kept rfl (.fF rfl (dA _ _))<|.nil) I I (bn ?_)
      refine aC (.v (aV I) I<|.a 1 I<|.k [1,6,8,54,55,56] I) ?_
      refine⟨(bN T m).length - (i+1),by omega,i+1,by omega,rfl,?_⟩
      rw[hstep]
      first
       |rfl
       |(simp only[List.length_append,List.length_singleton];rfl)
     ·rw[hcd,if_neg (by simp),List.append_nil]at hstep
      refine ai<|aC (.v (aV I) I<|.a 1 I<|.k [1,6,8,54,55,56] I) ?_
      refine⟨(bN T m).length - (i+1),by omega,i+1,by omega,rfl,?_⟩
      rw[hstep]
      first
       |rfl
       |(simp only[List.length_append,List.length_singleton];rfl)
    ·have hie:i=(bN T m).length:=by have:=of_decide_eq_false hc;omega
     subst hie
     refine bh<|aP<|bw (fc (ys:=[num m,.own 2,.own 3]) I (ba.tk.get I) I I I I) I<|av 2 I<|aG [6,7] I ?_
     refine ao<|⟨_,az.of I,rfl,?_⟩
     have hjN:T.nodes.toNat=j:=by omega
     rw[List.take_length,Int.toNat_natCast,hjN]
     rfl
def jZ(e:Int)(x:de):PV:=.tuple [fv (if e=0 then x else⟨0,[],[]⟩),num e]
theorem o8{T:an}{D:List Bool}{n d:Int}(hv:aq T=true)(hf:bW T D=true)(hn:bm T n=true)(hd:bm T d=true):cu T D n d=0:=by
 unfold cu cN
 rw[hv,hf,hn]
 simp[hd]
def jD(M:List Bool)(T:an)(n:Int)(k:Nat):List Int:=((List.range k).filter fun a=>aQ M a&&decide (br T a=n)).map Int.ofNat
def gS(T:an)(M:List Bool)(n:Int)(k:Nat):List Bool:=(List.range (2*T.ag.length)).map fun a=>decide (a<k)&&(aQ M a&&decide (br T a=n))
theorem GX(M:List Bool)(T:an)(n:Int):jD M T n (2*T.ag.length)=cQ M (bN T n):=by
 unfold jD cQ bN iP
 rw[List.filter_map,List.filter_filter]
 congr 1
theorem HT(M:List Bool)(T:an)(n:Int)(k:Nat):(jD M T n k).length≤k:=by
 unfold jD
 rw[List.length_map]
 exact Nat.le_trans (List.length_filter_le _ _) (by simp)
theorem Ga{M:List Bool}{T:an}{n:Int}{k:Nat}(h:(aQ M k&&decide (br T k=n))=true):jD M T n (k+1)=jD M T n k++[(k:Int)]:=by
 simp only[jD,List.range_succ,List.filter_append,List.map_append]
 rw[List.filter_cons_of_pos (by simpa using h)]
 rfl
theorem IK{M:List Bool}{T:an}{n:Int}{k:Nat}(h:(aQ M k&&decide (br T k=n))=false):jD M T n (k+1)=jD M T n k:=by
 simp only[jD,List.range_succ,List.filter_append,List.map_append]
 rw[List.filter_cons_of_neg (by simpa using h)]
 simp
theorem A8(T:an)(M:List Bool)(n:Int)(k:Nat):(gS T M n k).length=2*T.ag.length:=by simp[gS]
theorem yA(T:an)(M:List Bool)(n:Int):gS T M n 0=List.replicate (2*T.ag.length) false:=by
 unfold gS
 apply List.ext_getElem (by simp)
 intro i h1 h2
 simp
theorem AV{T:an}{M:List Bool}{n:Int}{k:Nat}(h:(aQ M k&&decide (br T k=n))=true):(gS T M n k).set k true=gS T M n (k+1):=by
 apply List.ext_getElem (by simp[gS])
 intro i h1 h2
 rw[List.getElem_set]
 by_cases e:k=i
 ·subst e
  simp only[gS,List.getElem_map,List.getElem_range,if_true]
  rw[h,decide_eq_true (by omega)];rfl
 ·rw[if_neg e]
  simp only[gS,List.getElem_map,List.getElem_range]
  rw[show decide (i<k+1)=decide (i<k) from decide_eq_decide.2 (by omega)]
theorem C0{T:an}{M:List Bool}{n:Int}{k:Nat}(h:(aQ M k&&decide (br T k=n))=false):gS T M n (k+1)=gS T M n k:=by
 unfold gS
 refine List.map_congr_left fun a _=>?_
 by_cases e:a=k
 ·subst e;rw[h];simp
 ·rw[show decide (a<k+1)=decide (a<k) from decide_eq_decide.2 (by omega)]
theorem Cb(T:an)(M:List Bool)(n:Int):gS T M n (2*T.ag.length)=fX T M n:=by
 unfold gS fX
 refine List.map_congr_left fun a ha=>?_
 rw[decide_eq_true (List.mem_range.1 ha),Bool.true_and]
theorem fL{M:List Bool}{a:Nat}:M.getD a false=aQ M a:=by
 unfold aQ
 by_cases h:M.length=0
 ·have:M=[]:=List.eq_nil_of_length_eq_zero h
  subst this;simp
 ·first
   |rfl
   |simp[h]
theorem BH(T:an)(k x n:Int)(hm:(aq T&&cp T k x)=true):Can Tryz.prog 95 [aN T,cq k x,num n] (· = .tuple [au (cQ (aE T k x) (bN T n)),bq (fX T (aE T k x) n)]):=by
 obtain⟨hv,hc⟩:=Bool.and_eq_true_iff.1 hm
 have hll:=bV hv
 have hmk:=td T k x
 unfold jY eA at hmk
 rw[if_pos hm,if_pos rfl]at hmk
 obtain⟨M,hM⟩:∃M,aE T k x=M:=⟨_,rfl⟩
 have hMl:M.length=2*T.ag.length:=by rw[←hM];exact fQ T k x
 rw[hM]at hmk ⊢
 refine aI Tryz.func95 I Tryz.ntmps95 I<|ab (.a 4 I<|.k [2,3,4] I)<|ab (.a 2 I<|.c rfl (hmk) I<|.a 5 I<|.k [2,3,8] I)<|aP<|av 2 I<|b7 (dT I (ba.rk.get I) I I (show(M.length:Int)=((2*T.ag.length:Nat):Int) by omega) (show(M.length:Int)=((2*T.ag.length:Nat):Int) by omega) ⟨by unfold maxLen;omega,by omega⟩) I<|av 1 I<|aG [2,3,8,10] I ?_
 refine ab (.a 1 I<|.k [2,3,8,10,11] I)<|gQ 11 3 1 I ?_
 refine eI (σ':=[some (.row 4 1 (2*T.ag.length) (bX (gS T M n 0))),some (.row 3 1 0 [])]) (by rw[yA,←iy];rfl) ?_
 refine aj<|ab (.a 1 I<|.k [2,3,8,10,11,12] I)<|aw<|eS [2,3,8,10,11,12] I<|bu (fun r st=>∃a:Nat,a≤2*T.ag.length∧r=2*T.ag.length - a∧st=⟨[(2,num n),(3,.bc (bC T) 0),(8,bq M),(10,.own 0),(11,.own 1),(12,num a)],[some (.row 4 1 (2*T.ag.length) (bX (gS T M n a))),some (.row 3 1 (jD M T n a).length (aK (jD M T n a)))]⟩) (2*T.ag.length) ⟨0,by omega,by omega,rfl⟩ ?_
 rintro r st ⟨a,ha,rfl,rfl⟩
 refine aj<|ab (.a 4 I<|.k [2,3,8,10,11,12,25] I)<|ah I (fun h1=>?_) (fun h1=>?_)
 ·have hlt:a<2*T.ag.length:=by have:=tt h1;omega
  have hal:(gS T M n a).length=2*T.ag.length:=A8 T M n a
  have hdl:(jD M T n a).length≤512:=Nat.le_trans (HT M T n a) (by omega)
  refine ai<|aj<|aw ?_
  obtain⟨c1,hc1⟩:∃q,aQ M a=q:=⟨_,rfl⟩
  obtain⟨c2,hc2⟩:∃q,decide (br T a=n)=q:=⟨_,rfl⟩
  refine bE 38 (.raw (.bool (c1&&c2))) [2,3,8,10,11,12] I ?_ ?_
  ·refine .a 2 I<|.v (aM (a) I) I<|.v (aJ I (show _=some (flag c1) by rw[dy _ a (by omega),fL,hc1])) I<|.a 1 I<|?_
   cases c1
   ·exact .a 6 I<|.k [38,2,3,8,10,11,12] I
   ·exact .a 2 I<|.c rfl (jA T hv a hlt) I<|.a 1 I<|.v (cd I (hc2)) I<|.a 1 I<|.k [38,2,3,8,10,11,12] I
  refine ah I (fun h2=>?_) (fun h2=>?_)
  ·have h2:(aQ M a&&decide (br T a=n))=true:=by rw[hc1,hc2];exact h2
   have hs1:=Ga h2
   have hs2:=AV h2
   refine aP<|av 3 I<|b7 (bg I (ba.rk.get I) I I I I (by unfold maxLen;omega)) I<|av 1 I ?_
   refine eP [0,2] (.c 2<|.c 3<|.c 8<|.c 10<|.c 11<|.c 12<|.nil) (.kept rfl (.row aH.pure)<|.kept rfl (.fF rfl (dA _ _))<|.nil) I I (bn ?_)
   refine bG<|av 2 I<|bw (aM (a) I) I<|bb ((by first|exact bO I (ba.tk.get I) I I I (by first|omega|(simp;omega))|exact bf I (ba.tk.get I) I I I (by first|omega|(simp;omega)))) I I<|aG [2,3,8,10,11,12] I ?_
   refine eI (σ':=[some (.row 4 1 (2*T.ag.length) (bX (gS T M n (a+1)))),some (.row 3 1 (jD M T n (a+1)).length (aK (jD M T n (a+1))))]) (by rw[←hs2,hs1,List.length_append];rfl) ?_
   refine aC (.a 1 I<|.v (aV I) I<|.a 1 I<|.k [2,3,8,10,11,12] I) ?_
   first
    |exact⟨2*T.ag.length - (a+1),by omega,a+1,by omega,rfl,rfl⟩
    |exact⟨2*T.ag.length - (a+1),by omega,a+1,by omega,rfl,by rw[hs1,hs2];rfl⟩
  ·have h2:(aQ M a&&decide (br T a=n))=false:=by rw[hc1,hc2];exact h2
   have hs1:=IK h2
   have hs2:=C0 h2
   refine ai<|aC (.a 1 I<|.v (aV I) I<|.a 1 I<|.k [2,3,8,10,11,12] I) ?_
   first
    |exact⟨2*T.ag.length - (a+1),by omega,a+1,by omega,rfl,rfl⟩
    |exact⟨2*T.ag.length - (a+1),by omega,a+1,by omega,rfl,by rw[hs1,hs2];rfl⟩
 ·have hae:a=2*T.ag.length:=by have:=ff h1;omega
  subst hae
  refine bh<|ab (.a 4 I<|.k [6,7] I)<|ao<|⟨_,_,az.of I,ay.aX (af.cons (ay.fr rfl af.pure) (af.cons (ay.fr rfl af.pure) af.nil)),?_⟩
  rw[GX,Cb]
  unfold au bq
  rw[show(fX T M n).length=2*T.ag.length by simp[fX]]
end
section
open Go.RowKit cE Mem
structure GD where
 p:PV
 r:Option Nat
 lo:Nat
 hi:Nat
section
variable {P:Program} {N L:Nat}
inductive GK (P:Program) (N:Nat) (ops:Array Oper) (σs:List cc) (T:cg) (o:Oper):GD→Prop
 |val {p:PV} {d lo hi:Nat} (ks:List Nat) (hks:(ks.all fun k=>(o.looksAt ops).contains k)=true) (hw:fm ops T o=some true) (hy:∀r σ,lo≤r→r≤hi→σs[r]? =some σ→bA P σ (gN T ks) o p) (hd:o.dst=some d) (hN:Nat.blt d N=true):GK P N ops σs T o ⟨p,none,lo,hi⟩
 |skip {d lo hi:Nat} (hw:fm ops T o=some false) (hd:o.dst=some d) (hN:Nat.blt d N=true):GK P N ops σs T o ⟨.raw undef,none,lo,hi⟩
 |pE {p:PV} {d r lo hi:Nat} {σ σ':cc} (ks:List Nat) (hks:(ks.all fun k=>(o.looksAt ops).contains k)=true) (hw:fm ops T o=some true) (h1:σs[r]? =some σ) (h2:σs[r+1]? =some σ') (hy:cj P σ (gN T ks) o p σ') (hd:o.dst=some d) (hN:Nat.blt d N=true):GK P N ops σs T o ⟨p,some r,lo,hi⟩
 |lC {p:PV} {r lo hi:Nat} {σ σ':cc} (ks:List Nat) (hks:(ks.all fun k=>(o.looksAt ops).contains k)=true) (hw:fm ops T o=some true) (h1:σs[r]? =some σ) (h2:σs[r+1]? =some σ') (hy:cj P σ (gN T ks) o p σ') (hd:o.dst=none):GK P N ops σs T o ⟨p,some r,lo,hi⟩
inductive GL (P:Program) (N:Nat) (ops:Array Oper) (σs:List cc) (T:cg):List Oper→List GD→Prop
 |nil:GL P N ops σs T [] []
 |cons {o:Oper} {g:GD} {l:List Oper} {gs:List GD}:GK P N ops σs T o g→GL P N ops σs T l gs→GL P N ops σs T (o::l) (g::gs)
theorem GL.get{ops:Array Oper}{σs:List cc}{T:cg}:∀ {l:List Oper} {gs:List GD},GL P N ops σs T l gs→gs.length=l.length∧∀(i:Nat) o g,l[i]? =some o→gs[i]? =some g→GK P N ops σs T o g
 |_,_,.nil=>⟨rfl,fun i o g h=>by simp at h⟩
 |_,_,.cons h hs=>by
  obtain⟨h1,h2⟩:=hs.get
  refine⟨by simp[h1],fun i o g ho hg=>?_⟩
  cases i with
  |zero=>simp at ho hg;subst ho;subst hg;exact h
  |succ i=>exact h2 i o g (by simpa using ho) (by simpa using hg)
def kH(gs:List GD)(i:Nat):Option Nat:=(gs[i]?).bind (·.r)
def Er(ops:Array Oper)(f m:Nat)(gs:List GD):Bool:=
  Nat.beq gs.length ops.size&&
  ((List.range ops.size).all fun i=>(lX ops i).all fun k=>decide (k<i))&&
  ((List.range ops.size).all fun i=>(List.range i).all fun j=>(cz ops i).isNone||cz ops i !=cz ops j)&&
  ((List.range ops.size).all fun j=>(eB ops j).all fun k=>(List.range ops.size).all fun i=>cz ops i !=some k||fu ops f j i)&&
  ((List.range ops.size).all fun i => match gs[i]? with
    |some ⟨_,some r,_,_⟩=>decide (r<m)&&(Nat.beq r 0||(List.range ops.size).any fun j=>kH gs j==some (r - 1)&&fu ops f i j)
    |some ⟨_,none,lo,hi⟩=>(Nat.beq lo 0||(List.range ops.size).any fun j=>kH gs j==some (lo - 1)&&fu ops f i j)&&(Nat.ble m hi||(List.range ops.size).any fun j=>kH gs j==some hi&&fu ops f j i)
    |none=>false)&&
  ((List.range ops.size).all fun i=>(List.range i).all fun j=>(kH gs i).isNone||kH gs i !=kH gs j)&&
  ((List.range m).all fun r=>(List.range ops.size).any fun j=>kH gs j==some r)
structure Kd (ops:Array Oper) (f m:Nat) (gs:List GD):Prop where
 len:gs.length=ops.size
 lX:∀i,i<ops.size→∀k∈lX ops i,k<i
 ss:∀i j d,i<ops.size→j<ops.size→cz ops i=some d→cz ops j=some d→i=j
 rd:∀j,j<ops.size→∀k∈eB ops j,∀i,i<ops.size→cz ops i=some k→fu ops f j i=true
 pE:∀(i:Nat) g r,gs[i]? =some g→g.r=some r→r<m∧(r=0∨∃j,j<ops.size∧kH gs j=some (r - 1)∧fu ops f i j=true)
 quiet:∀(i:Nat) g,gs[i]? =some g→g.r=none→(g.lo=0∨∃j,j<ops.size∧kH gs j=some (g.lo - 1)∧fu ops f i j=true)∧(m≤g.hi∨∃j,j<ops.size∧kH gs j=some g.hi∧fu ops f j i=true)
 one:∀i j r,i<ops.size→j<ops.size→kH gs i=some r→kH gs j=some r→i=j
 has:∀r,r<m→∃j,j<ops.size∧kH gs j=some r
theorem v7{ops:Array Oper}{f m:Nat}{gs:List GD}(h:Er ops f m gs=true):Kd ops f m gs:=by
 unfold Er at h
 simp only[Bool.and_eq_true]at h
 obtain⟨⟨⟨⟨⟨⟨h1,h2⟩,h3⟩,h4⟩,h5⟩,h6⟩,h7⟩:=h
 have hl:gs.length=ops.size:=Nat.eq_of_beq_eq_true h1
 have all:∀ {n:Nat} {p:Nat→Bool},(List.range n).all p=true→∀i,i<n→p i=true:=fun h i hi=>List.all_eq_true.1 h i (List.mem_range.2 hi)
 have any:∀ {n:Nat} {p:Nat→Bool},(List.range n).any p=true→∃i,i<n∧p i=true:=fun h=>by
  obtain⟨i,hi,hp⟩:=List.any_eq_true.1 h
  exact⟨i,List.mem_range.1 hi,hp⟩
 have s3:∀i j d,i<ops.size→j<i→cz ops i=some d→cz ops j=some d→False:=fun i j d hi hj e1 e2=>by
  have:=all (all h3 i hi) j hj
  rw[e1,e2]at this
  simp at this
 have s6:∀i j r,i<ops.size→j<i→kH gs i=some r→kH gs j=some r→False:=fun i j r hi hj e1 e2=>by
  have:=all (all h6 i hi) j hj
  rw[e1,e2]at this
  simp at this
 refine⟨hl,fun i hi k hk=>?_,fun i j d hi hj e1 e2=>?_,fun j hj k hk i hi hd=>?_,fun i g r hg hr=>?_,fun i g hg hr=>?_,fun i j r hi hj e1 e2=>?_,fun r hr=>?_⟩
 ·have:=List.all_eq_true.1 (all h2 i hi) k hk;simpa using this
 ·rcases Nat.lt_trichotomy i j with h|h|h
  ·exact(s3 j i d hj h e2 e1).elim
  ·exact h
  ·exact(s3 i j d hi h e1 e2).elim
 ·have:=all (List.all_eq_true.1 (all h4 j hj) k hk) i hi
  rw[hd]at this
  simpa using this
 ·have hi:i<ops.size:=by rw[←hl];exact(List.getElem?_eq_some_iff.1 hg).1
  have:=all h5 i hi
  obtain⟨p,r',lo,hi'⟩:=g
  simp only at hr
  subst hr
  rw[hg]at this
  simp only[Bool.and_eq_true,decide_eq_true_eq,Bool.or_eq_true]at this
  refine⟨this.1,?_⟩
  rcases this.2 with h|h
  ·exact .inl (Nat.eq_of_beq_eq_true h)
  ·obtain⟨j,hj,h'⟩:=any h
   simp only[Bool.and_eq_true,beq_iff_eq]at h'
   exact .inr ⟨j,hj,h'.1,h'.2⟩
 ·have hi:i<ops.size:=by rw[←hl];exact(List.getElem?_eq_some_iff.1 hg).1
  have:=all h5 i hi
  obtain⟨p,r',lo,hi'⟩:=g
  simp only at hr
  subst hr
  rw[hg]at this
  simp only[Bool.and_eq_true,Bool.or_eq_true]at this
  refine⟨?_,?_⟩
  ·rcases this.1 with h|h
   ·exact .inl (Nat.eq_of_beq_eq_true h)
   ·obtain⟨j,hj,h'⟩:=any h
    simp only[Bool.and_eq_true,beq_iff_eq]at h'
    exact .inr ⟨j,hj,h'.1,h'.2⟩
  ·rcases this.2 with h|h
   ·exact .inl (Nat.ble_eq.mp h)
   ·obtain⟨j,hj,h'⟩:=any h
    simp only[Bool.and_eq_true,beq_iff_eq]at h'
    exact .inr ⟨j,hj,h'.1,h'.2⟩
 ·rcases Nat.lt_trichotomy i j with h|h|h
  ·exact(s6 j i r hj h e2 e1).elim
  ·exact h
  ·exact(s6 i j r hi h e1 e2).elim
 ·obtain⟨j,hj,h⟩:=any (all h7 r hr)
  exact⟨j,hj,by simpa using h⟩
structure FF (base N:Nat) (F:Nat→Prop) (l:List Oper) (gs:List GD) (σs:List cc) (t:cg) (ls:Array Bool) (r:Nat) (E:Env) (a:Act) (w:World):Prop where
 size:ls.size=l.length
 down:Down l.toArray ls
 rk:∀i s,i<l.length→kH gs i=some s→(ls.getD i true=true↔s<r)
 sat:∃σ,σs[r]? =some σ∧Sat F base σ E w
 j9:a.defers=[]
 tmps:a.tmps.size=N
 t0:eF E w a.eval t
 lM:∀j d g,j<l.length→ls.getD j true=true→cz l.toArray j=some d→gs[j]? =some g→cK E w (a.eval (.tmp d)) g.p
theorem yq(ls:Array Bool)(i j:Nat)(b:Bool)(hi:i<ls.size):(ls.setIfInBounds i true).getD j b=if j=i then true else ls.getD j b:=by
 by_cases e:j=i
 ·subst e;simp[hi]
 ·rw[if_neg e]
  simp only[Array.getD_eq_getD_getElem?,Array.getElem?_setIfInBounds_ne (Ne.symm e)]
theorem Eh{ls:Array Bool}{i:Nat}(hi:i<ls.size)(b c:Bool):ls.getD i b=ls.getD i c:=by simp[hi]
section
variable {l:List Oper} {gs:List GD} {σs:List cc} {t T:cg} {f m base:Nat} {F:Nat→Prop}
theorem FF.reach(hG:Kd l.toArray f m gs){ls:Array Bool}{r:Nat}{E:Env}{a:Act}{w:World}(h:FF base N F l gs σs t ls r E a w){i j:Nat}(hi:i<l.length)(hr:fu l.toArray f i j=true)(hk:∀k∈lX l.toArray i,ls.getD k false=true):ls.getD j true=true:=by
 have:=eC (by rw[h.size];simp) h.down (fun i hi=>hG.lX i hi) f i j (by simpa using hi) hr hk
 by_cases hj:j<ls.size
 ·rw[Eh hj true false];exact this
 ·simp[hj]
theorem FF.looks(hG:Kd l.toArray f m gs)(hT:nh l (gs.map (·.p)) t=T){ls:Array Bool}{r:Nat}{E:Env}{a:Act}{w:World}(h:FF base N F l gs σs t ls r E a w){i:Nat}(hi:i<l.length)(hk:∀k∈lX l.toArray i,ls.getD k false=true):
  ∀k∈eB l.toArray i,∀p,look k T=some p→cK E w (a.eval (.tmp k)) p:=fun k hks p hp=>by
 rw[←hT]at hp
 rcases lW _ _ _ k p hp with⟨j,o,h1,h2,h3⟩|h'
 ·rw[List.getElem?_map,Option.map_eq_some_iff]at h3
  obtain⟨g,hg,rfl⟩:=h3
  have hj:j<l.length:=(List.getElem?_eq_some_iff.1 h1).1
  have hd:cz l.toArray j=some k:=by simp only[cz,List.getElem?_toArray,h1,Option.bind_some,h2]
  have hr:=hG.rd i (by simpa using hi) k hks j (by simpa using hj) hd
  exact h.lM j k g hj (h.reach hG hi hr hk) hd hg
 ·exact h.t0 k p h'
theorem FF.put(hG:Kd l.toArray f m gs)(hfr:∀i d,i<l.length→cz l.toArray i=some d→look d t=none){ls:Array Bool}{r r':Nat}{E E':Env}{a:Act}{w w':World}(h:FF base N F l gs σs t ls r E a w){i:Nat}{g:GD}{v:Value}(hi:i<l.length)(hu:ls.getD i true=false)(hk:∀k∈lX l.toArray i,ls.getD k false=true)(hg:gs[i]? =some g)(hgo:dj E w E' w')
  (hs:∃σ,σs[r']? =some σ∧Sat F base σ E' w') (hr:(g.r=none∧r'=r)∨(g.r=some r∧r'=r+1)) {o:Oper} (ho:l[i]? =some o) (hdN:∀d,o.dst=some d→d<N) (hv:∀d,o.dst=some d→cK E' w' v g.p):
  FF base N F l gs σs t (ls.setIfInBounds i true) r' E' (a.put o.dst v) w':=by
 have hil:i<ls.size:=by rw[h.size];exact hi
 have hrk:kH gs i=g.r:=by simp only[kH,hg,Option.bind_some]
 have hdi:cz l.toArray i=o.dst:=by simp only[cz,List.getElem?_toArray,ho,Option.bind_some]
 refine⟨by simpa using h.size,fun j hj hjs k hkj=>?_,fun j s hj hs'=>?_,hs,by cases o.dst<;>simpa[Act.put]using h.j9,by cases o.dst<;>simpa[Act.put]using h.tmps,fun k p hkp=>?_,fun j d g' hj hjl hd hg'=>?_⟩
 ·rw[yq _ _ _ _ hil]at hj ⊢
  split
  ·rfl
  ·by_cases e:j=i
   ·subst e;exact hk k hkj
   ·rw[if_neg e]at hj
    exact h.down j hj hjs k hkj
 ·rw[yq _ _ _ _ hil]
  by_cases e:j=i
  ·subst e
   rw[if_pos rfl]
   rw[hrk]at hs'
   rcases hr with⟨h1,_⟩|⟨h1,h2⟩
   ·rw[h1]at hs';cases hs'
   ·rw[h1]at hs';cases hs';exact⟨fun _=>by omega,fun _=>rfl⟩
  ·rw[if_neg e,h.rk j s hj hs']
   rcases hr with⟨_,h2⟩|⟨h1,h2⟩
   ·rw[h2]
   ·have:s≠r:=fun e'=>e (hG.one j i r (by simpa using hj) (by simpa using hi) (by rw[hs',e']) (by rw[hrk,h1]))
    omega
 ·have hne:∀d,o.dst=some d→k≠d:=fun d hd e=>by
   subst e
   rw[hfr i k hi (by rw[hdi,hd])]at hkp;cases hkp
  have:(a.put o.dst v).eval (.tmp k)=a.eval (.tmp k):=Act.eval_put fun d hd heq=>by cases heq;exact hne _ hd rfl
  rw[this]
  exact(h.t0 k p hkp).goes hgo
 ·rw[yq _ _ _ _ hil]at hjl
  by_cases e:j=i
  ·subst e
   rw[hdi]at hd
   rw[hg]at hg';cases hg'
   rw[hd,jw a (by rw[h.tmps];exact hdN d hd),if_pos rfl]
   exact hv d hd
  ·rw[if_neg e]at hjl
   have hne:∀d',o.dst=some d'→d≠d':=fun d' hd' e'=>by
    subst e'
    exact e (hG.ss j i d (by simpa using hj) (by simpa using hi) hd (by rw[hdi,hd']))
   have:(a.put o.dst v).eval (.tmp d)=a.eval (.tmp d):=Act.eval_put fun d' hd' heq=>by cases heq;exact hne _ hd' rfl
   rw[this]
   exact(h.lM j d g' hj hjl hd hg').goes hgo
theorem AE(hG:Kd l.toArray f m gs)(hT:nh l (gs.map (·.p)) t=T)(hfr:∀i d,i<l.length→cz l.toArray i=some d→look d t=none)(hL:GL P N l.toArray σs T l gs){σm:cc}(hm:σs[m]? =some σm){Q:Exit→Act→World→Prop}{E₀:Env}{w₀:World}(hq:∀a' w' E',Sat F base σm E' w'→eF E' w' a'.eval T→a'.defers=[]→a'.tmps.size=N→dj E₀ w₀ E' w'→Below base w₀ w'→Q .normal a' w'):
  ∀(fuel:Nat) (ls:Array Bool) (r:Nat) (E:Env) (a:Act) (w:World),FF base N F l gs σs t ls r E a w→bM ls l.length=fuel→dj E₀ w₀ E w→Below base w₀ w→r≤m→wpAny P .any l.toArray Q fuel ls a w:=by
 obtain⟨hgl,hget⟩:=hL.get
 intro fuel
 induction fuel with
 |zero=>
  intro ls r E a w h hu hgo hb hrm
  have hall:=dp hu
  have hrm':r=m:=by
   rcases Nat.lt_or_ge r m with h'|h'
   ·obtain⟨j,hj,hjr⟩:=hG.has r h'
    have hj:j<l.length:=by simpa using hj
    have:=(h.rk j r hj hjr).1 (hall j hj)
    omega
   ·omega
  subst hrm'
  refine⟨List.eq_nil_iff_forall_not_mem.2 fun i hi=>?_,?_⟩
  ·obtain⟨h1,h2,_⟩:=cF.1 hi
   rw[hall i (by simpa using h1)]at h2;cases h2
  ·obtain⟨σ,hσ,hs⟩:=h.sat
   rw[hm]at hσ;cases hσ
   refine hq a w E hs (fun k p hkp=>?_) h.j9 h.tmps hgo hb
   rw[←hT]at hkp
   rcases lW _ _ _ k p hkp with⟨j,o,h1,h2,h3⟩|h'
   ·rw[List.getElem?_map,Option.map_eq_some_iff]at h3
    obtain⟨g,hg,rfl⟩:=h3
    have hj:j<l.length:=(List.getElem?_eq_some_iff.1 h1).1
    exact h.lM j k g hj (hall j hj) (by simp only[cz,List.getElem?_toArray,h1,Option.bind_some,h2]) hg
   ·exact h.t0 k p h'
 |succ fuel ih=>
  intro ls r E a w h hu hgo hb hrm
  obtain⟨i0,hi0,hi1,hi2⟩:=fO (ls:=ls) (m:=l.length) (by omega)
  have hi0r:i0∈Region.ready .any l.toArray ls:=cF.2 ⟨by simpa using hi0,hi1,fun k hk=>by
   have:=hG.lX i0 (by simpa using hi0) k hk
   rw[Eh (by rw[h.size];omega) false true];exact hi2 k this⟩
  refine⟨fun h0=>absurd hi0r (by rw[h0];simp),fun i hi=>?_⟩
  obtain⟨h1,h2,h3⟩:=cF.1 hi
  have hil:i<l.length:=by simpa using h1
  have ho:l[i]? =some l[i]:=by simp[hil]
  have hgi:gs[i]? =some (gs[i]'(by omega)):=by simp
  have hK:=hget i _ _ ho hgi
  generalize hgg:gs[i]'(by omega)=g at hgi hK
  generalize hoo:l[i]=o at ho hK
  have hlk:=h.looks hG hT hil h3
  have hlo:eB l.toArray i=o.looksAt l.toArray:=by simp only[eB,List.getElem?_toArray,ho]
  rw[hlo]at hlk
  have hpk:∀ks:List Nat,(ks.all fun k=>(o.looksAt l.toArray).contains k)=true→eF E w a.eval (gN T ks):=fun ks hks k p hkp=>by
   obtain⟨e1,e2⟩:=ja ks k p hkp
   exact hlk k (by have:=List.all_eq_true.1 hks k e1;simpa using this) p e2
  have hwant:∀b,fm l.toArray T o=some b→Region.wanted o (yielded l.toArray a.tmps)=b:=fun b hb=>by
   rw[iU];exact lU (fun k hk p hp=>hlk k hk p hp) hb
  have hun:bM (ls.setIfInBounds i true) l.length=fuel:=by have:=fR h2 hil (by rw[h.size];omega);omega
  unfold wpOp
  have ho':l.toArray[i]? =some o:=by simpa using ho
  simp only[ho']
  have hrk:kH gs i=g.r:=by simp only[kH,hgi,Option.bind_some]
  cases hK with
  | @val p d lo hi ks hks hw hy hd hN=>
   rw[hwant true hw,if_pos rfl]
   left
   obtain⟨σ,hσ,hs⟩:=h.sat
   obtain⟨q1,q2⟩:=hG.quiet i _ hgi rfl
   have hlo':lo≤r:=by
    rcases q1 with e|⟨j,hj,hj1,hj2⟩
    ·simp only at e;omega
    ·have:=(h.rk j _ (by simpa using hj) hj1).1 (h.reach hG hil hj2 h3)
     simp only at this;omega
   have hhi':r≤hi:=by
    rcases q2 with e|⟨j,hj,hj1,hj2⟩
    ·simp only at e;omega
    ·rcases Nat.lt_or_ge hi r with h'|h'
     ·have hjl:j<l.length:=by simpa using hj
      have e1:=(h.rk j _ hjl hj1).2 h'
      have e2:=h.reach hG hjl hj2 (h.down j e1 hj)
      rw[h2]at e2;cases e2
     ·exact h'
   refine qt (hy r σ hlo' hhi' hσ F base E a.eval w (gF a) hs (hpk ks hks)) fun v w' hE hv=>?_
   exact ih _ r E _ w' (h.put hG hfr hil h2 h3 hgi (.ext hE) ⟨σ,hσ,hs.ext hE⟩ (.inl ⟨rfl,rfl⟩) ho (fun d' hd'=>by rw[hd]at hd';cases hd';exact Nat.blt_eq.mp hN) (fun _ _=>hv)) hun (hgo.trans (.ext hE)) (hb.trans (Below.ik hE hs.bl)) hrm
  | @skip d lo hi hw hd hN=>
   rw[hwant false hw,if_neg (by simp)]
   exact ih _ r E _ w (h.put hG hfr hil h2 h3 hgi (dj.refl _ _) h.sat (.inl ⟨rfl,rfl⟩) ho (fun d' hd'=>by rw[hd]at hd';cases hd';exact Nat.blt_eq.mp hN) (fun _ _=>.raw _)) hun hgo hb hrm
  | @pE p d r0 lo hi σ σ' ks hks hw e1 e2 hy hd hN=>
   rw[hwant true hw,if_pos rfl]
   left
   obtain⟨q1,q2⟩:=hG.pE i _ r0 hgi rfl
   have hr0:r0=r:=by
    have n1:¬r0<r:=fun h'=>by
     have:=(h.rk i r0 hil hrk).2 h'
     rw[h2]at this;cases this
    rcases q2 with e|⟨j,hj,hj1,hj2⟩
    ·omega
    ·have:=(h.rk j _ (by simpa using hj) hj1).1 (h.reach hG hil hj2 h3)
     omega
   subst hr0
   obtain⟨σ0,hσ,hs⟩:=h.sat
   rw[e1]at hσ;cases hσ
   obtain⟨v,w',E',hr,k1,k2,k3,k4⟩:=hy F base E a.eval w (gF a) hs (hpk ks hks)
   have hn':=ih _ (r0+1) E' (a.put o.dst v) w' (h.put hG hfr hil h2 h3 hgi k2 ⟨σ',e2,k1⟩ (.inr ⟨rfl,rfl⟩) ho (fun d' hd'=>by rw[hd]at hd';cases hd';exact Nat.blt_eq.mp hN) (fun _ _=>k4)) hun (hgo.trans k2) (hb.trans k3) (by omega)
   unfold Oper.wp
   rcases hr with hr|⟨rfl,hr⟩
   ·rw[hr];exact hn'
   ·rw[hr];exact hn'
  | @lC p r0 lo hi σ σ' ks hks hw e1 e2 hy hd=>
   rw[hwant true hw,if_pos rfl]
   left
   obtain⟨q1,q2⟩:=hG.pE i _ r0 hgi rfl
   have hr0:r0=r:=by
    have n1:¬r0<r:=fun h'=>by
     have:=(h.rk i r0 hil hrk).2 h'
     rw[h2]at this;cases this
    rcases q2 with e|⟨j,hj,hj1,hj2⟩
    ·omega
    ·have:=(h.rk j _ (by simpa using hj) hj1).1 (h.reach hG hil hj2 h3)
     omega
   subst hr0
   obtain⟨σ0,hσ,hs⟩:=h.sat
   rw[e1]at hσ;cases hσ
   obtain⟨v,w',E',hr,k1,k2,k3,k4⟩:=hy F base E a.eval w (gF a) hs (hpk ks hks)
   have hn':=ih _ (r0+1) E' (a.put o.dst v) w' (h.put hG hfr hil h2 h3 hgi k2 ⟨σ',e2,k1⟩ (.inr ⟨rfl,rfl⟩) ho (fun d' hd'=>by rw[hd]at hd';cases hd') (fun d' hd'=>by rw[hd]at hd';cases hd')) hun (hgo.trans k2) (hb.trans k3) (by omega)
   unfold Oper.wp
   rcases hr with hr|⟨rfl,hr⟩
   ·rw[hr];exact hn'
   ·rw[hr];exact hn'
end
theorem kU:∀(n k:Nat),k≤n→bM (Array.replicate n false) k=k
 |n,0,_=>rfl
 |n,k+1,h=>by
  simp only[bM]
  rw[kU n k (by omega)]
  simp[show k<n by omega]
theorem ua{id:Nat}{l:List Oper}{t t':cg}{σ σm:cc}{Q:Exit→St→Prop}(f m:Nat)(σs:List cc)(gs:List GD)(T:cg)(hm:P.follows .mixedOrders=true)(hB:Er l.toArray f m gs=true)(hT:nh l (gs.map (·.p)) t=T)(hfr:(l.all fun o=>o.dst.all fun d=>(look d t).isNone)=true)(h0:σs[0]? =some σ)(h1:σs[m]? =some σm)
  (hL:GL P N l.toArray σs T l gs) (hsub:Sub T t') (hq:Q .normal ⟨t',σm⟩):W P N L (.region id l.toArray true) ⟨t,σ⟩ Q:=fun F base E₀ w₀ E a w hc hs=>by
 have hG:=v7 hB
 have hE:Ext w {w with drawn:=w.drawn+1}:=⟨rfl,rfl,rfl,Nat.le_refl _,fun _ _=>rfl⟩
 refine wp_region_any hm ?_
 have hfr':∀i d,i<l.length→cz l.toArray i=some d→look d t=none:=fun i d hi hd=>by
  have ho:l[i]? =some l[i]:=by simp[hi]
  simp only[cz,List.getElem?_toArray,ho,Option.bind_some]at hd
  have:=List.all_eq_true.1 hfr _ (List.mem_of_getElem? ho)
  rw[hd]at this
  simpa using this
 have hg0:FF base N F l gs σs t (Array.replicate l.length false) 0 E a {w with drawn:=w.drawn+1}:=by
  have hrep:∀i,i<l.length→(Array.replicate l.length false).getD i true=false:=fun i hi=>by simp[hi]
  refine⟨by simp,fun i hi hi'=>?_,fun i s hi _=>?_,⟨σ,h0,hs.sat.ext hE⟩,hs.j9,hs.size,hs.tmp.goes (.ext hE),fun j d g hj hjl=>?_⟩
  ·rw[hrep i (by simpa using hi')]at hi;cases hi
  ·rw[hrep i hi];simp
  ·rw[hrep j hj]at hjl;cases hjl
 have:=AE (Q:=fun e a' w'=>ni F base N E₀ w₀ (Q e) a' w') hG hT hfr' hL h1 (E₀:=E₀) (w₀:=w₀) (fun a' w' E' k1 k2 k3 k4 k5 k6=>⟨⟨t',σm⟩,E',hq,⟨k1,k2.sub hsub,k3,k4⟩,k5,k6⟩) l.length _ 0 E a _ hg0 (kU _ _ (Nat.le_refl _)) (hc.g.trans (.ext hE)) (hc.b.trans (Below.ik hE hs.sat.bl)) (Nat.zero_le _)
 simpa using this
theorem uE{id:Nat}{l:List Oper}{y:Code}{t t':cg}{σ σm:cc}{Q:Exit→St→Prop}(f m:Nat)(σs:List cc)(gs:List GD)(T:cg)(hm:P.follows .mixedOrders=true)(hB:Er l.toArray f m gs=true)(hT:nh l (gs.map (·.p)) t=T)(hfr:(l.all fun o=>o.dst.all fun d=>(look d t).isNone)=true)(h0:σs[0]? =some σ)(h1:σs[m]? =some σm)
  (hL:GL P N l.toArray σs T l gs) (hsub:Sub T t') (hq:W P N L y ⟨t',σm⟩ Q):W P N L (.seq (.region id l.toArray true) y) ⟨t,σ⟩ Q:=aj (ua f m σs gs T hm hB hT hfr h0 h1 hL hsub hq)
theorem yz{P:Program}{σs:List cc}{t:cg}{o:Oper}{p:PV}{lo hi:Nat}(h:∀σ∈(σs.drop lo).take (hi+1 - lo),bA P σ t o p):∀r σ,lo≤r→r≤hi→σs[r]? =some σ→bA P σ t o p:=fun r σ h1 h2 hs=>by
 refine h σ (List.mem_of_getElem? (i:=r - lo) ?_)
 rw[List.getElem?_take,if_pos (by omega),List.getElem?_drop,show lo+(r - lo)=r by omega]
 exact hs
theorem df{α:Type}{p:α→Prop}:∀x∈([]:List α),p x:=fun _ h=>by cases h
theorem bZ{α:Type}{p:α→Prop}{a:α}{l:List α}(h:p a)(hs:∀x∈l,p x):∀x∈a::l,p x:=fun x hx=>by
 rcases List.mem_cons.1 hx with rfl|h'
 ·exact h
 ·exact hs x h'
end
open Net eY
theorem Ja{P:Program}{N L:Nat}{x:Code}{st:St}{Q:Exit→St→Prop}{Q1:St→Prop}(h:W P N L x st (Ik Q1))(k:∀s,Q1 s→Q .normal s):W P N L x st Q:=
 h.mono fun e s hq=>by cases e<;>first|exact k s hq|exact hq.elim
theorem BL{T:an}(hv:aq T=true)(D:List Bool)(n d:Nat):(bI T D n d).length≤512:=by
 have hl:=bV hv
 unfold bI
 split
 ·simp
 ·exact Nat.le_trans (List.length_filter_le _ _) (Nat.le_trans (eM T n _) (by omega))
theorem zi(T:an)(D:List Bool)(n d:Int):Can Tryz.prog 84 [aN T,bq D,num n,num d] (· =flag (iT T D n d)):=by
 obtain⟨q,hq⟩:∃q,decide (gR T D n d=0)=q:=⟨_,rfl⟩
 unfold iT
 rw[hq]
 exact aI Tryz.func84 I Tryz.ntmps84 I<|ab (.a 2 I<|.k [1,2,3,4] I)<|ab (.a 4 I<|.c rfl (wg T D n d) I<|.a 5 I<|.k [10] I)<|ab (.a 1 I<|.v (cd I (hq)) I<|.a 1 I<|.k [8] I)<|ao<|⟨_,_,az.of I,ay.pure,rfl⟩
def iO(T:an)(k x:Int):List Bool:=if eA T k x=0 then aE T k x else []
theorem DZ{T:an}{k x:Int}(h:(aq T&&cp T k x)=true):iO T k x=aE T k x:=by
 unfold iO eA
 rw[if_pos h,if_pos rfl]
theorem GH{T:an}(hv:aq T=true){a:Nat}(ha:a<2*T.ag.length)(h:0<gA T a):(aq T&&cp T 3 (gA T a))=true:=by
 have:=tN hv ha
 rw[hv]
 unfold cp
 simp only[if_neg (show ¬(3:Int)=1 by decide),if_neg (show ¬(3:Int)=2 by decide),if_true,Bool.true_and,Bool.and_eq_true,decide_eq_true_eq]
 exact⟨by omega,by omega⟩
theorem DQ{T:an}(hv:aq T=true){a:Nat}(ha:a<2*T.ag.length):(aq T&&cp T 2 (aS T a))=true:=by
 obtain⟨h0,h1⟩:=(aO hv).head a ha
 rw[hv]
 unfold cp
 simp only[if_neg (show ¬(2:Int)=1 by decide),if_true,Bool.true_and]
 exact aT.2 ⟨h0,h1⟩
def lG(T:an)(D E:List Bool)(k:Nat):List Bool:=(List.range (2*T.ag.length)).map fun a=>if a<k then aQ D a||aQ E a else aQ D a
theorem qL(T:an)(D E:List Bool)(k:Nat):(lG T D E k).length=2*T.ag.length:=by simp[lG]
theorem nQ{T:an}{D E:List Bool}{k i:Nat}(h:i<(lG T D E k).length):(lG T D E k)[i]=if i<k then aQ D i||aQ E i else aQ D i:=by simp[lG]
theorem yV{M:List Bool}{a:Nat}(h:a<M.length):aQ M a=M[a]:=by rw[←fL];simp[h]
theorem Bx{T:an}{D E:List Bool}(h:D.length=2*T.ag.length):lG T D E 0=D:=by
 apply List.ext_getElem (by rw[qL,h])
 intro i h1 h2
 rw[nQ,if_neg (by omega),yV h2]
theorem D1(T:an)(D E:List Bool):lG T D E (2*T.ag.length)=orM T D E:=by
 unfold lG orM
 exact List.map_congr_left fun a ha=>if_pos (List.mem_range.1 ha)
theorem Bq(T:an)(D E:List Bool)(k:Nat):(lG T D E k).set k (aQ D k||aQ E k)=lG T D E (k+1):=by
 apply List.ext_getElem (by simp[lG])
 intro i h1 h2
 rw[List.getElem_set,nQ,nQ]
 by_cases e:k=i
 ·subst e;rw[if_pos rfl,if_pos (by omega)]
 ·rw[if_neg e]
  by_cases h:i<k
  ·rw[if_pos h,if_pos (by omega)]
  ·rw[if_neg h,if_neg (by omega)]
theorem FJ{T:an}{D E:List Bool}{k:Nat}(h:k<2*T.ag.length):(lG T D E k).getD k false=aQ D k:=by
 have hk:k<(lG T D E k).length:=by rw[qL];exact h
 rw[List.getD_eq_getElem?_getD,List.getElem?_eq_getElem hk,Option.getD_some,nQ,if_neg (by omega)]
end
section
open Go.RowKit cE Mem Net
theorem CL(rs:List (List Int))(i:Nat)(hi:i<rs.length):Can Tryz.prog 204 ([num i]++[.bc [ko rs] 0]) (· =au (rs.getD i [])):=by
 exact aI Tryz.func204 I Tryz.ntmps204 I<|ab (.a 1 I<|.k [0,1] I)<|ab (.a 2 I<|.v (aM (i) I) I<|.v (aJ I ((show(rs.map au)[i]? =some (au (rs.getD i [])) by simp[hi]))) I<|.a 1 I<|.k [3] I)<|ao<|⟨_,_,az.of I,ay.pure,rfl⟩
theorem BG(T:an)(a:Nat)(ha:a<2*T.ag.length)(hl:T.ag.length≤4611686018427387902):Can Tryz.prog 205 ([num a]++[.bc (bC T) 0]) (· =num (aS T a)):=by
 exact aI Tryz.func205 I Tryz.ntmps205 I<|ab (.a 1 I<|.k [0,1] I)<|ab (.a 2 I<|.c rfl (fZ T a ha hl) I<|.a 1 I<|.k [3] I)<|ao<|⟨_,_,az.of I,ay.pure,rfl⟩
theorem DJ(T:an)(D:List Bool)(d:Int):Can Tryz.prog 180 [aN T,bq D,num d] (· =ei (cN T D [d]) (bH T D d.toNat true)):=by
 refine aI Tryz.func180 I Tryz.ntmps180 I<|ab (.a 3 I<|.k [1,2,3] I)<|aj<|ab (.a 4 I<|.c rfl (pH T D [d] (by simp)) I<|.a 1 I<|.k [1,2,3,8] I)<|ab (.a 2 I<|.k [1,2,3,8,17] I)<|ah I (fun hc=>?_) (fun hc=>?_)
 ·have he:cN T D [d]≠0:=of_decide_eq_true hc
  exact ab (.a 3 I<|.k [6,7] I)<|ao<|⟨_,_,az.of I,ay.aX (af.cons ay.bQ (af.cons ay.pure af.nil)),by unfold ei;rw[if_neg he];rfl⟩
 ·have he:cN T D [d]=0:=by have:=of_decide_eq_false hc;omega
  have hok:(aq T&&bW T D)=true∧bm T d=true:=by
   unfold cN at he
   split at he
   ·rename_i h1
    split at he
    ·rename_i h2;exact⟨h1,by simpa using h2⟩
    ·omega
   ·omega
  obtain⟨hvf,hnd⟩:=hok
  obtain⟨hv,hf⟩:=Bool.and_eq_true_iff.1 hvf
  have hd:0≤d∧d<T.nodes:=by simpa[bm]using hnd
  obtain⟨n,rfl⟩:=Int.eq_ofNat_of_zero_le hd.1
  have hS:=aO hv
  refine ai<|aP<|av 1 I<|fe I (lT T hv) I<|av 2 I<|aG [1,2,3,9] I ?_
  refine aP<|av 3 I<|bw (ed I I) I<|av 4 I<|aG [10] I ?_
  refine xj (.cons 10 I (ay.ju rfl (af.cons ay.pure<|af.cons ay.pure<|af.cons ay.pure<|af.cons ay.pure<|af.cons ay.pure<|af.cons (ay.iR (af.cons (ay.ju rfl (af.cons ay.pure af.nil)) af.nil))<|af.cons ay.pure af.nil)) .nil) ?_
  exact ab (.a 1 I<|.c rfl (AO T D n true 204 205 [.bc [ko (dE (br T) T.nodes.toNat (2*T.ag.length))] 0] [.bc (bC T) 0] hv hf hd.2 (by kernel_rfl) (by kernel_rfl) (fun i hi=>by have h:=CL (dE (br T) T.nodes.toNat (2*T.ag.length)) i (by rw[fp];omega);rw[jd _ _ _ _ (by omega)]at h;exact h) (fun a ha=>BG T a ha (by have:=bV hv;omega))) I<|.a 2 I<|.k [6,7] I)<|ao<|⟨_,_,az.of I,ay.pure,by unfold ei;rw[if_pos he,he];rfl⟩
end
end PW
end Go.Proofs.YtnegbdpggideiaaGreatDoor
