/- Texts of the proof, part 10. -/
import Derived.Test.YtnegbdpggideiaaGreatDoorCardMMB9
set_option linter.unusedVariables false
set_option linter.unusedSimpArgs false
set_option maxRecDepth 10000
set_option maxHeartbeats 1000000
namespace Go.Proofs.YtnegbdpggideiaaGreatDoor
namespace PW
open Go.RowKit cB Mem Net eW
theorem tc{T:ai}{n:Int}{L:List Int}(hl:T.af.length≤256)(h:eP T n L=true):L.length≤512:=by
 have h:=of_decide_eq_true h
 have key:∀i:Nat,i<L.length→(i:Int)≤L.getD i 0:=by
  intro i
  induction i with
  |zero=>intro hi;have:=(dc.1 (h 0 hi).1).1;omega
  |succ i ih=>
   intro hi
   have h1:=ih (by omega)
   have h2:=(h (i+1) hi).2.2 (by omega)
   rw[Nat.add_sub_cancel]at h2
   omega
 rcases Nat.eq_zero_or_pos L.length with h0|h0
 ·omega
 ·have h1:=key (L.length - 1) (by omega)
  have h2:=dc.1 (h (L.length - 1) (by omega)).1
  omega
theorem sn(p:eC)(s:List b7)(e:iC)(hs:s.length≤40)(hp:e.push.length≤40)(ha:e.aI.length≤1000)(hps:p.stack.length≤1000)(hh:0≤p.db∧p.db≤1000):Can Tryz.prog 106 [eI p,cI s,wN e] (· =An (gE p s e)):=by
 obtain⟨c,hc⟩:∃q,e.rep=q:=⟨_,rfl⟩
 have hE:gE p s e=if c then(if 32<(e.push++s.drop 1).length then fY p 5 else cH p (e.push++s.drop 1) e.aI) else cH p s e.aI:=by unfold gE;rw[hc]
 rw[hE]
 refine aE Tryz.func106 rfl Tryz.ntmps106 rfl<|aQ<|au 5 rfl<|aH [1,3,5,7] rfl ?_
 refine aj<|ab (.a 1 rfl<|.v (aN rfl ((show(kg e)[1]? =some (flag c) by rw[←hc];rfl))) rfl<|.k [1,3,5,7,11] rfl)<|ah rfl (fun h1=>?_) (fun h1=>?_)
 ·subst h1
  simp only[if_true]
  refine ab (.a 2 rfl<|.k [3,5,7,9] rfl)<|aj<|ab (.a 3 rfl<|.k [3,5,7,9,15] rfl)<|ah rfl (fun h2=>?_) (fun h2=>?_)
  ·obtain⟨a,l,rfl⟩:∃a l,s=a::l:=by
    cases s with
    |nil=>exact absurd (tt h2) (by simp)
    |cons a l=>exact⟨a,l,rfl⟩
   simp only[List.drop_succ_cons,List.drop_zero]
   obtain⟨s',hs',hsl⟩:∃s',l=s'∧s'.length≤40:=⟨l,rfl,by simp at hs;omega⟩
   refine az (.a 1 rfl<|.v (mc rfl (bI.el.get rfl) rfl rfl) rfl<|.a 1 rfl<|.k [3,5,7,9] rfl) ?_
   rw[hs']
   refine ab (.a 4 rfl<|.c rfl (pr e.push s' (by omega)) rfl<|.a 1 rfl<|.k [1,3,5,7] rfl)<|ab (.a 3 rfl<|.k [1,3,5,7,25] rfl)<|ah rfl (fun h3=>?_) (fun h3=>?_)
   ·have h3:=tt h3
    rw[if_pos (by omega)]
    refine aQ<|au 1 rfl<|eA rfl (fZ p 5 hps) rfl<|au 6 rfl<|aH [6,7,8] rfl ?_
    exact aq<|⟨_,_,ay.of rfl,aB.bG (an.cons (aB.pure (p:=aw []))<|an.cons (aB.pure (p:=eI p))<|an.cons aB.pure an.nil),rfl⟩
   ·have h3:=ff h3
    rw[if_neg (by omega)]
    refine ak<|aQ<|au 4 rfl<|eA rfl (lH p _ e.aI (by first|(simp only[List.length_append];omega)|omega) ha hh) rfl<|au 6 rfl<|aH [6,7,8] rfl ?_
    exact aq<|⟨_,_,ay.of rfl,aB.bG (an.cons (aB.pure (p:=aw e.aI))<|an.cons (aB.pure (p:=eI ⟨p.id,p.src,p.dst,p.pC,_,p.db+1⟩))<|an.cons aB.pure an.nil),rfl⟩
  ·obtain rfl:s=[]:=by
    cases s with
    |nil=>rfl
    |cons a l=>exact absurd (ff h2) (by simp)
   simp only[List.drop_nil]
   obtain⟨s',hs',hsl⟩:∃s',([]:List b7)=s'∧s'.length≤40:=⟨[],rfl,by simp⟩
   refine ak ?_
   rw[hs']
   refine ab (.a 4 rfl<|.c rfl (pr e.push s' (by omega)) rfl<|.a 1 rfl<|.k [1,3,5,7] rfl)<|ab (.a 3 rfl<|.k [1,3,5,7,25] rfl)<|ah rfl (fun h3=>?_) (fun h3=>?_)
   ·have h3:=tt h3
    rw[if_pos (by omega)]
    refine aQ<|au 1 rfl<|eA rfl (fZ p 5 hps) rfl<|au 6 rfl<|aH [6,7,8] rfl ?_
    exact aq<|⟨_,_,ay.of rfl,aB.bG (an.cons (aB.pure (p:=aw []))<|an.cons (aB.pure (p:=eI p))<|an.cons aB.pure an.nil),rfl⟩
   ·have h3:=ff h3
    rw[if_neg (by omega)]
    refine ak<|aQ<|au 4 rfl<|eA rfl (lH p _ e.aI (by first|(simp only[List.length_append];omega)|omega) ha hh) rfl<|au 6 rfl<|aH [6,7,8] rfl ?_
    exact aq<|⟨_,_,ay.of rfl,aB.bG (an.cons (aB.pure (p:=aw e.aI))<|an.cons (aB.pure (p:=eI ⟨p.id,p.src,p.dst,p.pC,_,p.db+1⟩))<|an.cons aB.pure an.nil),rfl⟩
 ·subst h1
  simp only[Bool.false_eq_true,if_false]
  refine ak<|aQ<|au 4 rfl<|eA rfl (lH p _ e.aI (by first|(simp only[List.length_append];omega)|omega) ha hh) rfl<|au 6 rfl<|aH [6,7,8] rfl ?_
  exact aq<|⟨_,_,ay.of rfl,aB.bG (an.cons (aB.pure (p:=aw e.aI))<|an.cons (aB.pure (p:=eI ⟨p.id,p.src,p.dst,p.pC,_,p.db+1⟩))<|an.cons aB.pure an.nil),rfl⟩
def dy(x:ee)(v:Int):iC:=x.fq.getD v.toNat HG
def fD(h:b7):List b7→List b7
 | []=>[]
 |a::l=>if a=h then fD h l else a::l
def Ff(T:ai)(x:ee)(p:eC)(s:List b7)(v:Int)(K:Out):Out:=if(bn T v&&decide (0<((dy x v).aI.length:Int)))=true then gE p s (dy x v) else K
def eE(T:ai)(x:ee)(p:eC)(s:List b7)(K:Out):Out:=
 if(decide ((s.length:Int)=0)&&decide (p.dst=x.node))=true then⟨[],⟨p.id,p.src,p.dst,p.pC,[],p.db⟩, -1⟩
 else if(decide (255≤p.db)||decide (p.db<0))=true then fY p 4
 else match s with
  | []=>Ff T x p [] p.dst (fY p 1)
  |a::l=>if a.kind=1 then Ff T x p (a::l) a.num K
   else if a.kind=2 then(if(!(fB T a.num)||decide (bb T a.num.toNat≠x.node))=true then fY p 2 else if a.num∈x.down then K else cH p l [a.num])
   else fY p 1
def cC(T:ai)(x:ee)(p:eC):Out:=
 if((!ed T x)|| !(bn T p.dst))=true then fY p 1
 else if 32<(p.stack.length:Int) then fY p 5
 else eE T x p (fD ⟨1,x.node⟩ p.stack) (eE T x p [] (fY p 1))
theorem wC(h:b7):∀l:List b7,(fD h l).length≤l.length
 | []=>Nat.le_refl _
 |a::l=>by
  simp only[fD]
  split
  ·have:=wC h l;simp only[List.length_cons];omega
  ·exact Nat.le_refl _
theorem sW{T:ai}{x:ee}(h:ed T x=true){v:Int}(hv:bn T v=true):∃k:Nat,v=(k:Int)∧x.fq[k]? =some (dy x v)∧(dy x v).push.length≤40∧(dy x v).aI.length≤1000:=by
 unfold ed at h
 simp only[Bool.and_eq_true,decide_eq_true_eq]at h
 obtain⟨⟨⟨⟨h1,h2⟩,h3⟩,h4⟩,h5⟩:=h
 have hll:=bO h1
 obtain⟨v0,v1⟩:=aV.1 hv
 obtain⟨k,rfl⟩:=Int.eq_ofNat_of_zero_le v0
 have hk:k<x.fq.length:=by omega
 have hg:x.fq[k]? =some (dy x (k:Int)):=by
  unfold dy
  rw[Int.toNat_natCast,List.getD_eq_getElem?_getD,List.getElem?_eq_getElem hk]
  rfl
 have ho:=(of_decide_eq_true h5) k hk
 rw[lQ _ _ _ hg]at ho
 unfold jb at ho
 simp only[Bool.and_eq_true]at ho
 refine⟨k,rfl,hg,?_,?_⟩
 ·have:=ho.2
  split at this
  ·simp only[Bool.and_eq_true,decide_eq_true_eq]at this;omega
  ·simp only[decide_eq_true_eq]at this;omega
 ·have:=tc hll ho.1.1;omega
theorem xn{T:ai}{x:ee}(h:ed T x=true):x.down.length≤1000:=by
 unfold ed at h
 simp only[Bool.and_eq_true]at h
 have:=tc (bO h.1.1.1.1) h.1.2
 omega
set_option maxHeartbeats 2000000 in
theorem wm(T : ai)(x : ee)(p : eC)(hps : p.stack.length ≤ 1000) : Can Tryz.prog 47 [aP T, fN x, eI p] (· = An (cC T x p)) := by
  obtain⟨c1,hc1⟩:∃q,ed T x=q:=⟨_,rfl⟩
  obtain⟨c2,hc2⟩:∃q,bn T p.dst=q:=⟨_,rfl⟩
  obtain⟨n,hn⟩:∃n,x.node=n:=⟨_,rfl⟩
  unfold cC
  rw[hc1,hc2]
  refine aE Tryz.func47 rfl Tryz.ntmps47 rfl<|aQ<|au 6 rfl<|aH [3,4,5,7] rfl ?_
  refine zt ?_
  refine aj<|bp 22 (.raw (.bool ((!c1)|| !c2))) [3,4,5,7] rfl ?_ ?_
  · refine .a 2 rfl<|.c rfl (hc1▸qT T x) rfl<|.a 2 rfl<|?_
    cases c1
    · exact .a 6 rfl<|.k [22,3,4,5,7] rfl
    · exact .a 3 rfl<|.c rfl (hc2▸dp T p.dst) rfl<|.a 2 rfl<|.k [22,3,4,5,7] rfl
  refine ah rfl (fun h1=>?_) (fun h1=>?_)
  · rw[if_pos h1]
    refine aQ<|au 1 rfl<|eA rfl (fZ p 1 hps) rfl<|au 6 rfl<|aH [6,7,8] rfl ?_
    exact aq<|⟨_,_,ay.of rfl,aB.bG (an.cons (aB.pure (p:=aw []))<|an.cons (aB.pure (p:=eI p))<|an.cons aB.pure an.nil),rfl⟩
  · rw [if_neg (by rw [h1]; simp)]
    obtain⟨rfl,rfl⟩:c1=true∧c2=true:=by revert h1;cases c1<;>cases c2<;>simp
    refine ak<|aj<|ab (.a 1 rfl<|.v (aN rfl ((rfl:(cX p)[4]? =some (cI p.stack)))) rfl<|.a 2 rfl<|.k [3,4,5,7,31] rfl)<|ah rfl (fun h2=>?_) (fun h2=>?_)
    · rw[if_pos (tt h2)]
      refine aQ<|au 1 rfl<|eA rfl (fZ p 5 hps) rfl<|au 6 rfl<|aH [6,7,8] rfl ?_
      exact aq<|⟨_,_,ay.of rfl,aB.bG (an.cons (aB.pure (p:=aw []))<|an.cons (aB.pure (p:=eI p))<|an.cons aB.pure an.nil),rfl⟩
    · rw [if_neg (ff h2)]
      have h32:p.stack.length≤32:=by have:=ff h2;omega
      refine ak<|ab (.a 1 rfl<|.v (aN rfl ((rfl:(cX p)[4]? =some (cI p.stack)))) rfl<|.a 1 rfl<|.k [3,4,5,7,9] rfl)<|aQ<|au 1 rfl<|bE (aN rfl ((show(fT x)[0]? =some (num n) by rw[←hn];rfl))) rfl<|au 3 rfl<|aH [3,4,5,7,9,10] rfl ?_
      refine aj<|av<|ft [3,4,5,7,9,10] rfl<|br (fun r st=>∃s:List b7,s.length≤32∧r=s.length∧fD ⟨1,n⟩ p.stack=fD ⟨1,n⟩ s∧st=⟨[(3,.aX (bx T) 0),(4,.aX (fT x) 0),(5,.aX (cX p) 0),(7,.ptr 0 0),(9,cI s),(10,.ptr 1 0)],[some (.cells 66 [num 0,num 0,num 0,num 0,.raw (.slice none 0 0),num 0]),some (.cells 103 [num 1,num n])]⟩) p.stack.length ⟨p.stack,h32,rfl,rfl,rfl⟩ ?_
      rintro r st ⟨s,hs,rfl,hsk,rfl⟩
      obtain⟨e1,he1⟩:∃q,decide (0<(s.length:Int))=q:=⟨_,rfl⟩
      obtain⟨a,ha⟩:∃a,s.getD 0 ⟨0,0⟩=a:=⟨_,rfl⟩
      obtain⟨e2,he2⟩:∃q,decide (a=(⟨1,n⟩:b7))=q:=⟨_,rfl⟩
      refine aj<|mE mixed (by kernel_rfl) 51 (.raw (.bool (e1&&e2))) [3,4,5,7,9,10] rfl ?_ ?_
      · refine .a 2 rfl<|.v [43] (cb rfl (he1)) rfl rfl<|.a 1 rfl<|?_
        cases e1
        · exact .a 6 rfl<|.k [51,3,4,5,7,9,10] rfl
        · exact .a 1 rfl<|.v [46] (aL (0) rfl (by omega) (by have:=tt he1;omega)) rfl rfl<|.v [47] (fU rfl (og s 0 a (by rw[←ha];have:=tt he1;rw[List.getD_eq_getElem?_getD,List.getElem?_eq_getElem (by omega)];rfl)) rfl) rfl rfl<|.a 1 rfl<|.v [48,49] (DE rfl rfl (b:=⟨1,n⟩) rfl he2) rfl rfl<|.a 1 rfl<|.k [51,3,4,5,7,9,10] rfl
      refine ah rfl (fun h3=>?_) (fun h3=>?_)
      · obtain⟨rfl,rfl⟩:=Bool.and_eq_true_iff.1 h3
        obtain⟨l,rfl⟩:∃l,s=(⟨1,n⟩:b7)::l:=by
          have h4:=tt he2
          cases s with
          |nil=>exact absurd (tt he1) (by simp)
          |cons b l=>exact⟨l,by rw[←h4,←ha];rfl⟩
        simp only[fD,if_true]at hsk
        refine ak<|av<|az (.a 1 rfl<|.v (mc rfl (bI.el.get rfl) rfl rfl) rfl<|.a 1 rfl<|.k [3,4,5,7,9,10] rfl) ?_
        exact⟨l.length,by simp,l,by simp at hs;omega,rfl,hsk,rfl⟩
      · have hsk:fD ⟨1,n⟩ p.stack=s:=by
          rw[hsk]
          cases s with
          |nil=>rfl
          |cons b l=>
            have e1t:e1=true:=by rw[←he1];simp
            rw[e1t,Bool.true_and]at h3
            rw[h3]at he2
            have h5:=ff he2
            simp only[fD]
            rw[if_neg (by rw[←ha]at h5;exact h5)]
        rw[hn,hsk]
        clear he1 ha he2 h3
        refine bg<|aj<|zB ?_
        refine av<|ft [3,4,5,7,9] rfl<|br (fun r st=>∃(s':List b7) (z:PV),jg z (cI s')∧s'.length≤32∧r=s'.length∧eE T x p s (eE T x p [] (fY p 1))=eE T x p s' (eE T x p [] (fY p 1))∧st=⟨[(3,.aX (bx T) 0),(4,.aX (fT x) 0),(5,.aX (cX p) 0),(7,.ptr 0 0),(9,z)],[some (.cells 66 [num 0,num 0,num 0,num 0,.raw (.slice none 0 0),num 0]),some (.cells 103 [num 1,num n])]⟩) s.length ⟨s,_,jg.refl _,hs,rfl,rfl,rfl⟩ ?_
        clear hsk hs
        rintro r st ⟨s',z,hz,hs,rfl,hR,rfl⟩
        refine kE (t':=[(3,.aX (bx T) 0),(4,.aX (fT x) 0),(5,.aX (cX p) 0),(7,.ptr 0 0),(9,cI s')]) ?_ ?_
        · exact Sub.cons rfl<|Sub.cons rfl<|Sub.cons rfl<|Sub.cons rfl<|Sub.HN rfl hz<|Sub.nil _
        clear hz
        rw[hR]
        clear hR
        obtain⟨K0,hK0⟩:∃K,eE T x p [] (fY p 1)=K:=⟨_,rfl⟩
        rw[hK0]
        obtain⟨R,hS⟩:∃R,eE T x p s' K0=R:=⟨_,rfl⟩
        rw[hS]
        have hRR:=hS
        unfold eE at hRR
        obtain⟨c5,hc5⟩:∃q,decide ((s'.length:Int)=0)=q:=⟨_,rfl⟩
        obtain⟨c6,hc6⟩:∃q,decide (p.dst=n)=q:=⟨_,rfl⟩
        obtain⟨c7,hc7⟩:∃q,decide (255≤p.db)=q:=⟨_,rfl⟩
        obtain⟨c8,hc8⟩:∃q,decide (p.db<0)=q:=⟨_,rfl⟩
        rw[hc5,hn,hc6,hc7,hc8]at hRR
        refine av<|aj<|bp 63 (.raw (.bool (c5&&c6))) [3,4,5,7,9] rfl ?_ ?_
        · refine .a 2 rfl<|.v (cb rfl (hc5)) rfl<|.a 1 rfl<|?_
          cases c5
          · exact .a 6 rfl<|.k [63,3,4,5,7,9] rfl
          · exact .a 1 rfl<|.v (aN rfl ((rfl:(cX p)[2]? =some (num p.dst)))) rfl<|.a 1 rfl<|.v (aN rfl ((show(fT x)[0]? =some (num n) by rw[←hn];rfl))) rfl<|.v (cb rfl (hc6)) rfl<|.a 1 rfl<|.k [63,3,4,5,7,9] rfl
        refine ah rfl (fun h1=>?_) (fun h1=>?_)
        · rw[if_pos h1]at hRR
          subst hRR
          refine aQ<|au 1 rfl<|bE (Dy rfl (an.cons aB.pure<|an.cons aB.bZ an.nil) (rb p [] (by simp))) rfl<|au 3 rfl<|aH [6,7,8] rfl ?_
          exact aq<|⟨_,_,ay.of rfl,aB.bG (an.cons aB.bZ<|an.cons (aB.pure (p:=eI ⟨p.id,p.src,p.dst,p.pC,[],p.db⟩))<|an.cons aB.pure an.nil),rfl⟩
        · rw [if_neg (by rw [h1]; simp)] at hRR
          refine ak<|aj<|bp 73 (.raw (.bool (c7||c8))) [3,4,5,7,9] rfl ?_ ?_
          · refine .a 1 rfl<|.v (aN rfl ((rfl:(cX p)[5]? =some (num p.db)))) rfl<|.v (cb rfl (hc7)) rfl<|.a 1 rfl<|?_
            cases c7
            · exact .a 1 rfl<|.v (aN rfl ((rfl:(cX p)[5]? =some (num p.db)))) rfl<|.v (cb rfl (hc8)) rfl<|.a 1 rfl<|.k [73,3,4,5,7,9] rfl
            · exact .a 4 rfl<|.k [73,3,4,5,7,9] rfl
          refine ah rfl (fun h2=>?_) (fun h2=>?_)
          · rw[if_pos h2]at hRR
            subst hRR
            refine aQ<|au 1 rfl<|eA rfl (fZ p 4 hps) rfl<|au 6 rfl<|aH [6,7,8] rfl ?_
            exact aq<|⟨_,_,ay.of rfl,aB.bG (an.cons (aB.pure (p:=aw []))<|an.cons (aB.pure (p:=eI p))<|an.cons aB.pure an.nil),rfl⟩
          · rw [if_neg (by rw [h2]; simp)] at hRR
            have hh:0≤p.db∧p.db≤1000:=by
              obtain⟨h3,h4⟩:=Bool.or_eq_false_iff.1 h2
              rw[←hc7]at h3
              rw[←hc8]at h4
              have:=ff h3
              have:=ff h4
              omega
            clear hc5 hc6 hc7 hc8 h1 h2
            refine ak ?_
            obtain⟨v,hv⟩:∃v,p.dst=v:=⟨_,rfl⟩
            refine ab (.a 1 rfl<|.v (aN rfl ((show(cX p)[2]? =some (num v) by rw[←hv];rfl))) rfl<|.a 1 rfl<|.k [3,4,5,7,9,11] rfl)<|aj<|ab (.a 3 rfl<|.k [3,4,5,7,9,11,83] rfl)<|ah rfl (fun h3=>?_) (fun h3=>?_)
            · have hne:0<s'.length:=by have:=tt h3;omega
              obtain⟨a,l,hs'⟩:∃a l,s'=a::l:=by
                cases s' with
                |nil=>exact absurd hne (by simp)
                |cons a l=>exact⟨a,l,rfl⟩
              have h0:s'[0]? =some a:=by rw[hs'];rfl
              rw[hs']at hRR
              dsimp only at hRR
              rw[←hs']at hRR
              clear hv
              obtain⟨v,hv⟩:∃v,a.num=v:=⟨_,rfl⟩
              rw[hv]at hRR
              refine ab (.a 1 rfl<|.v (aL (0) rfl (by omega) (by omega)) rfl<|.a 1 rfl<|.v (aN rfl (((H0 s' 0 a h0).trans (by rw[hv])))) rfl<|.a 1 rfl<|.k [3,4,5,7,9,11] rfl)<|ab (.a 1 rfl<|.v (aL (0) rfl (by omega) (by omega)) rfl<|.a 1 rfl<|.v (aN rfl ((Ii s' 0 a h0))) rfl<|.k [3,4,5,7,9,11,91] rfl)<|av<|ab (.a 2 rfl<|.k [3,4,5,7,9,11,91,97] rfl)<|ah rfl (fun h4=>?_) (fun h4=>?_)
              · rw[if_pos (tt h4)]at hRR
                obtain⟨K1,hK1,hK1n,hK1p⟩:∃K1,K1=K0∧(s'.length=0→K1=fY p 1)∧(0<s'.length→K1=K0):=⟨_,rfl,fun h=>absurd h (by omega),fun h=>rfl⟩
                rw[←hK1]at hRR
                clear hK1 h3 h4 hs' hv h0
                refine ak<|aj ?_
                obtain⟨c11,hc11⟩:∃q,bn T v=q:=⟨_,rfl⟩
                have hnc:=dp T v
                rw[hc11]at hnc
                unfold Ff at hRR
                have hes:c11=true→x.fq[v.toNat]? =some (dy x v)∧(dy x v).push.length≤40∧(dy x v).aI.length≤1000∧v<(x.fq.length:Int)∧0≤v:=fun h=>by
                  obtain⟨k,rfl,g1,g2,g3⟩:=sW hc1 (hc11.trans h)
                  have:=(List.getElem?_eq_some_iff.1 g1).1
                  exact⟨g1,g2,g3,by omega,by omega⟩
                obtain⟨e,he⟩:∃e,dy x v=e:=⟨_,rfl⟩
                obtain⟨JK,hc12⟩:∃q,decide (0<(e.aI.length:Int))=q:=⟨_,rfl⟩
                rw[he]at hes hRR
                rw[hc11,hc12]at hRR
                refine uF (Q1:=fun st=>st=⟨[(143,flag (c11&&JK)),(3,.aX (bx T) 0),(4,.aX (fT x) 0),(5,.aX (cX p) 0),(7,.ptr 0 0),(9,cI s'),(11,num v)],[some (.cells 66 [num 0,num 0,num 0,num 0,.raw (.slice none 0 0),num 0]),some (.cells 103 [num 1,num n])]⟩) ?_ ?_
                · cases c11
                  · refine az (.a 2 rfl<|.c rfl (hnc) rfl<|.a 10 rfl<|.k [143,3,4,5,7,9,11] rfl) ?_
                    rfl
                  · refine az (.a 2 rfl<|.c rfl (hnc) rfl<|.a 2 rfl<|.v (aN rfl ((rfl:(fT x)[1]? =some (jQ x.fq)))) rfl<|.a 1 rfl<|.v (aL ((v.toNat*3)) rfl (hes rfl).2.2.2.2 (hes rfl).2.2.2.1) rfl<|.a 1 rfl<|.v (aN rfl ((vA x.fq v.toNat 0 e (hes rfl).1 (by omega)))) rfl<|.a 1 rfl<|.v (cb rfl (hc12)) rfl<|.a 1 rfl<|.k [143,3,4,5,7,9,11] rfl) ?_
                    rfl
                rintro _ rfl
                refine ah rfl (fun h8=>?_) (fun h8=>?_)
                · rw[if_pos h8]at hRR
                  obtain⟨g1,g2,g3,g4,g5⟩:=hes (Bool.and_eq_true_iff.1 h8).1
                  subst hRR
                  refine lj 12 20 mixed (
                    .val [5] rfl (bw rfl) rfl rfl<|
                    .val [9] rfl (bw rfl) rfl rfl<|
                    .val [4] rfl (bw rfl) rfl rfl<|
                    .val [146] rfl (aN rfl ((rfl:(fT x)[1]? =some (jQ x.fq)))) rfl rfl<|
                    .val [11] rfl (bw rfl) rfl rfl<|
                    .val [147,148] rfl (aL ((v.toNat*3)) rfl g5 g4) rfl rfl<|
                    .val [149] rfl (fU rfl ((oY x.fq v.toNat e g1)) rfl) rfl rfl<|
                    .val [144,145,150] rfl (dR rfl (sn p s' e (by omega) g2 g3 hps hh)) rfl rfl<|
                    .val [151] rfl (bw rfl) rfl rfl<|
                    .val [151] rfl (bw rfl) rfl rfl<|
                    .val [151] rfl (bw rfl) rfl rfl<|
                    .val [152] rfl (bw rfl) rfl rfl<|
                    .nil) (by kernel_rfl) rfl rfl (bd (ks:=[6,7,153,154]) rfl) ?_
                  refine au 2 rfl<|aH [6,7,8] rfl ?_
                  exact aq<|⟨_,_,ay.of rfl,aB.bG (an.cons (aB.pure (p:=aw (gE p s' e).aI))<|an.cons (aB.pure (p:=eI (gE p s' e).eQ))<|an.cons aB.pure an.nil),rfl⟩
                · rw[if_neg (by rw[h8];simp)]at hRR
                  refine ak<|aj<|ab (.a 3 rfl<|.k [3,4,5,7,157] rfl)<|ah rfl (fun h9=>?_) (fun h9=>?_)
                  · rw[hK1n (by have:=tt h9;omega)]at hRR
                    subst hRR
                    refine aQ<|au 1 rfl<|eA rfl (fZ p 1 hps) rfl<|au 6 rfl<|aH [6,7,8] rfl ?_
                    exact aq<|⟨_,_,ay.of rfl,aB.bG (an.cons (aB.pure (p:=aw []))<|an.cons (aB.pure (p:=eI p))<|an.cons aB.pure an.nil),rfl⟩
                  · have hne:0<s'.length:=by have:=ff h9;omega
                    rw[hK1p hne]at hRR
                    refine ak<|az (.a 1 rfl<|.k [3,4,5,7,9] rfl) ?_
                    exact⟨0,hne,[],_,jg.bZ,by simp,rfl,hRR.symm.trans (hK0.symm.trans rfl),rfl⟩
              · rw[if_neg (ff h4)]at hRR
                refine ab (.a 2 rfl<|.k [3,4,5,7,9,11,99] rfl)<|ah rfl (fun h5=>?_) (fun h5=>?_)
                · rw[if_pos (tt h5)]at hRR
                  obtain⟨c9,hc9⟩:∃q,fB T v=q:=⟨_,rfl⟩
                  obtain⟨c10,hc10⟩:∃q,decide (bb T v.toNat≠n)=q:=⟨_,rfl⟩
                  have hac:=pS T (by have h:=hc1;unfold ed at h;simp only[Bool.and_eq_true]at h;have:=bO h.1.1.1.1;omega) v
                  rw[hc9]at hac
                  rw[hc9,hc10]at hRR
                  refine aj<|mE mixed (by kernel_rfl) 112 (.raw (.bool ((!c9)||c10))) [3,4,5,7,9,11] rfl ?_ ?_
                  · refine .a 2 rfl<|.v [101,102] (dR rfl (hac)) rfl rfl<|.a 2 rfl<|?_
                    cases c9
                    · exact .a 7 rfl<|.k [112,3,4,5,7,9,11] rfl
                    · exact .a 2 rfl<|.v [106,107] (dR rfl (oJ T v hc9)) rfl rfl<|.a 1 rfl<|.v [109] (aN rfl ((show(fT x)[0]? =some (num n) by rw[←hn];rfl))) rfl rfl<|.v [108,110] (cb rfl (hc10)) rfl rfl<|.a 1 rfl<|.k [112,3,4,5,7,9,11] rfl
                  refine ah rfl (fun h6=>?_) (fun h6=>?_)
                  · rw[if_pos h6]at hRR
                    subst hRR
                    refine aQ<|au 1 rfl<|eA rfl (fZ p 2 hps) rfl<|au 6 rfl<|aH [6,7,8] rfl ?_
                    exact aq<|⟨_,_,ay.of rfl,aB.bG (an.cons (aB.pure (p:=aw []))<|an.cons (aB.pure (p:=eI p))<|an.cons aB.pure an.nil),rfl⟩
                  · rw[if_neg (by rw[h6];simp)]at hRR
                    refine ak<|aj<|ab (.a 1 rfl<|.v (aN rfl ((rfl:(fT x)[2]? =some (aw x.down)))) rfl<|.a 1 rfl<|.c rfl (rK x.down v (xn hc1)) rfl<|.k [3,4,5,7,9,11,121] rfl)<|ah rfl (fun h7=>?_) (fun h7=>?_)
                    · rw[if_pos (tt h7)]at hRR
                      exact ab (.a 1 rfl<|.k [3,4,5,7,9] rfl)<|bg<|⟨0,hne,[],_,jg.bZ,by simp,rfl,hRR.symm.trans (hK0.symm.trans rfl),rfl⟩
                    · rw[if_neg (ff h7)]at hRR
                      subst hRR
                      subst hs'
                      refine ak<|lj 10 20 mixed (
                        .val [5] rfl (bw rfl) rfl rfl<|
                        .val [9] rfl (bw rfl) rfl rfl<|
                        .val [123] rfl (mc rfl (bI.el.get rfl) rfl rfl) rfl rfl<|
                        .val [11] rfl (bw rfl) rfl rfl<|
                        .val [125] rfl (bw rfl) rfl rfl<|
                        .val [122,124,126] rfl (dR rfl (lH p l [v] (by simp at hs;omega) (by simp) hh)) rfl rfl<|
                        .val [127] rfl (bw rfl) rfl rfl<|
                        .val [127] rfl (bw rfl) rfl rfl<|
                        .val [127] rfl (bw rfl) rfl rfl<|
                        .val [128] rfl (bw rfl) rfl rfl<|
                        .nil) (by kernel_rfl) rfl rfl (bd (ks:=[6,7,129,130]) rfl) ?_
                      refine au 2 rfl<|aH [6,7,8] rfl ?_
                      exact aq<|⟨_,_,ay.of rfl,aB.bG (an.cons (aB.pure (p:=aw [v]))<|an.cons (aB.pure (p:=eI (cH p l [v]).eQ))<|an.cons aB.pure an.nil),rfl⟩
                · rw[if_neg (ff h5)]at hRR
                  subst hRR
                  refine aQ<|au 1 rfl<|eA rfl (fZ p 1 hps) rfl<|au 6 rfl<|aH [6,7,8] rfl ?_
                  exact aq<|⟨_,_,ay.of rfl,aB.bG (an.cons (aB.pure (p:=aw []))<|an.cons (aB.pure (p:=eI p))<|an.cons aB.pure an.nil),rfl⟩
            · have hs':s'=[]:=by
                cases s' with
                |nil=>rfl
                |cons a l=>exact absurd (ff h3) (by simp)
              rw[hs']at hRR
              dsimp only at hRR
              rw[←hs',hv]at hRR
              obtain⟨K1,hK1,hK1n,hK1p⟩:∃K1,K1=fY p 1∧(s'.length=0→K1=fY p 1)∧(0<s'.length→K1=K0):=⟨_,rfl,fun _=>rfl,fun h=>absurd h (by rw[hs'];simp)⟩
              rw[←hK1]at hRR
              clear hK1 h3 hs' hv
              refine ak<|aj ?_
              obtain⟨c11,hc11⟩:∃q,bn T v=q:=⟨_,rfl⟩
              have hnc:=dp T v
              rw[hc11]at hnc
              unfold Ff at hRR
              have hes:c11=true→x.fq[v.toNat]? =some (dy x v)∧(dy x v).push.length≤40∧(dy x v).aI.length≤1000∧v<(x.fq.length:Int)∧0≤v:=fun h=>by
                obtain⟨k,rfl,g1,g2,g3⟩:=sW hc1 (hc11.trans h)
                have:=(List.getElem?_eq_some_iff.1 g1).1
                exact⟨g1,g2,g3,by omega,by omega⟩
              obtain⟨e,he⟩:∃e,dy x v=e:=⟨_,rfl⟩
              obtain⟨JK,hc12⟩:∃q,decide (0<(e.aI.length:Int))=q:=⟨_,rfl⟩
              rw[he]at hes hRR
              rw[hc11,hc12]at hRR
              refine uF (Q1:=fun st=>st=⟨[(143,flag (c11&&JK)),(3,.aX (bx T) 0),(4,.aX (fT x) 0),(5,.aX (cX p) 0),(7,.ptr 0 0),(9,cI s'),(11,num v)],[some (.cells 66 [num 0,num 0,num 0,num 0,.raw (.slice none 0 0),num 0]),some (.cells 103 [num 1,num n])]⟩) ?_ ?_
              · cases c11
                · refine az (.a 2 rfl<|.c rfl (hnc) rfl<|.a 10 rfl<|.k [143,3,4,5,7,9,11] rfl) ?_
                  rfl
                · refine az (.a 2 rfl<|.c rfl (hnc) rfl<|.a 2 rfl<|.v (aN rfl ((rfl:(fT x)[1]? =some (jQ x.fq)))) rfl<|.a 1 rfl<|.v (aL ((v.toNat*3)) rfl (hes rfl).2.2.2.2 (hes rfl).2.2.2.1) rfl<|.a 1 rfl<|.v (aN rfl ((vA x.fq v.toNat 0 e (hes rfl).1 (by omega)))) rfl<|.a 1 rfl<|.v (cb rfl (hc12)) rfl<|.a 1 rfl<|.k [143,3,4,5,7,9,11] rfl) ?_
                  rfl
              rintro _ rfl
              refine ah rfl (fun h8=>?_) (fun h8=>?_)
              · rw[if_pos h8]at hRR
                obtain⟨g1,g2,g3,g4,g5⟩:=hes (Bool.and_eq_true_iff.1 h8).1
                subst hRR
                refine lj 12 20 mixed (
                  .val [5] rfl (bw rfl) rfl rfl<|
                  .val [9] rfl (bw rfl) rfl rfl<|
                  .val [4] rfl (bw rfl) rfl rfl<|
                  .val [146] rfl (aN rfl ((rfl:(fT x)[1]? =some (jQ x.fq)))) rfl rfl<|
                  .val [11] rfl (bw rfl) rfl rfl<|
                  .val [147,148] rfl (aL ((v.toNat*3)) rfl g5 g4) rfl rfl<|
                  .val [149] rfl (fU rfl ((oY x.fq v.toNat e g1)) rfl) rfl rfl<|
                  .val [144,145,150] rfl (dR rfl (sn p s' e (by omega) g2 g3 hps hh)) rfl rfl<|
                  .val [151] rfl (bw rfl) rfl rfl<|
                  .val [151] rfl (bw rfl) rfl rfl<|
                  .val [151] rfl (bw rfl) rfl rfl<|
                  .val [152] rfl (bw rfl) rfl rfl<|
                  .nil) (by kernel_rfl) rfl rfl (bd (ks:=[6,7,153,154]) rfl) ?_
                refine au 2 rfl<|aH [6,7,8] rfl ?_
                exact aq<|⟨_,_,ay.of rfl,aB.bG (an.cons (aB.pure (p:=aw (gE p s' e).aI))<|an.cons (aB.pure (p:=eI (gE p s' e).eQ))<|an.cons aB.pure an.nil),rfl⟩
              · rw[if_neg (by rw[h8];simp)]at hRR
                refine ak<|aj<|ab (.a 3 rfl<|.k [3,4,5,7,157] rfl)<|ah rfl (fun h9=>?_) (fun h9=>?_)
                · rw[hK1n (by have:=tt h9;omega)]at hRR
                  subst hRR
                  refine aQ<|au 1 rfl<|eA rfl (fZ p 1 hps) rfl<|au 6 rfl<|aH [6,7,8] rfl ?_
                  exact aq<|⟨_,_,ay.of rfl,aB.bG (an.cons (aB.pure (p:=aw []))<|an.cons (aB.pure (p:=eI p))<|an.cons aB.pure an.nil),rfl⟩
                · have hne:0<s'.length:=by have:=ff h9;omega
                  rw[hK1p hne]at hRR
                  refine ak<|az (.a 1 rfl<|.k [3,4,5,7,9] rfl) ?_
                  exact⟨0,hne,[],_,jg.bZ,by simp,rfl,hRR.symm.trans (hK0.symm.trans rfl),rfl⟩
end PW
end Go.Proofs.YtnegbdpggideiaaGreatDoor
namespace Go.Proofs.YtnegbdpggideiaaGreatDoor
namespace PW
open Go.RowKit cB Mem Net
section
variable {T:ai} {D:List Bool}
theorem Ch.snoc{d n:Nat}{q:List Int}(h:Ch T D d n q):∀ {a x:Nat},(q=[]∨cR T d=false)→a<2*T.af.length→bb T a=(d:Int)→aM D a=false→aT T a=(x:Int)→Ch T D x n (q++[(a:Int)]):=by
 induction h with
 |nil=>intro a x _ h1 h2 h3 h4;exact .cons h1 h2 h3 h4 (.inl rfl) .nil
 | @cons n b m p hb ht hu hm ho hp ih=>
  intro a x hov h1 h2 h3 h4
  have hov':cR T d=false:=by rcases hov with h|h;cases h;exact h
  refine .cons hb ht hu hm ?_ (ih (.inr hov') h1 h2 h3 h4)
  rcases ho with h|h
  ·have:=hp.to h
   subst this
   exact .inr hov'
  ·exact .inr h
theorem HW(hv:ao T=true){n:Nat}(hn:(n:Int)<T.nodes){d m:Nat}{p:List Int}(h:Ch T D d m p)(h0:0≤at' (bu T D n true) (m:Int))(ho:p=[]∨m=n∨cR T m=false):0≤at' (bu T D n true) (d:Int):=by
 have hI:=iW (aK hv) D true hn
 induction h with
 |nil=>exact h0
 | @cons m a m' p ha ht hu hm hov hp ih=>
  have hw:=hI.closed a ha ⟨hu,by simp only[cK,if_true];rw[ht];exact h0,by
   simp only[cK,if_true];rw[ht]
   rcases ho with h|h|h
   ·cases h
   ·exact .inl (by rw[h])
   ·exact .inr (by simpa using h)⟩
  simp only[fp,if_true]at hw
  rw[hm]at hw
  refine ih hw.1 ?_
  rcases hov with h|h
  ·exact .inl h
  ·exact .inr (.inr h)
theorem HI(hv:ao T=true){n:Nat}(hn:(n:Int)<T.nodes):∀(k x:Nat),(x:Int)<T.nodes→0≤at' (bu T D n true) (x:Int)→at' (bu T D n true) (x:Int)≤k→0≤dN T D x n:=by
 have hS:=aK hv
 have hI:=iW hS D true hn
 intro k
 induction k with
 |zero=>
  intro x hx h0 hk
  rcases hI.my x hx h0 with h|⟨a,ha,hX,hW,hs⟩
  ·subst h;rw[kq hv hn];exact Int.le_refl _
  ·have:=(hS.cost a ha).1
   have:=hW.2.1
   omega
 |succ k ih=>
  intro x hx h0 hk
  rcases hI.my x hx h0 with h|⟨a,ha,hX,hW,hs⟩
  ·subst h;rw[kq hv hn];exact Int.le_refl _
  ·simp only[fp,cK,if_true]at hX hs
   obtain⟨hu,hy0,hyo⟩:=hW
   simp only[cK,if_true]at hy0 hyo
   have hc:=(hS.cost a ha).1
   have ht:=hS.tail a ha
   obtain⟨y,hy⟩:=Int.eq_ofNat_of_zero_le ht.1
   rw[hy]at hy0 hyo hs ht
   have hyN:(y:Int)<T.nodes:=ht.2
   have h1:=ih y hyN hy0 (by omega)
   have hsp:=eo (D:=D) hv hyN hn h1
   have hc2:=hsp.ch.snoc (a:=a) (x:=x) (by
    rcases hyo with h|h
    ·have:y=n:=by omega
     subst this
     exact .inl hsp.self
    ·exact .inr (by simpa using h)) ha hy hu hX
   exact(hc2.le hv hx).1
theorem EI(hv:ao T=true){n d:Nat}(hn:(n:Int)<T.nodes)(hd:(d:Int)<T.nodes):0≤(bu T D n true).getD d 0↔0≤dN T D d n:=by
 have hS:=aK hv
 have hI:=iW hS D true hn
 have hl:=hI.len
 have e:(bu T D n true).getD d 0=at' (bu T D n true) (d:Int):=by
  unfold at'
  rw[Int.toNat_natCast,List.getD_eq_getElem?_getD,List.getD_eq_getElem?_getD,List.getElem?_eq_getElem (by omega)]
  rfl
 rw[e]
 constructor
 ·intro h0
  exact HI hv hn (at' (bu T D n true) (d:Int)).toNat d hd h0 (by have:=Int.toNat_of_nonneg h0;omega)
 ·intro h0
  have hsp:=eo (D:=D) hv hd hn h0
  refine HW hv hn hsp.ch ?_ (.inr (.inl rfl))
  rw[hI.root]
  exact Int.le_refl _
end
end PW
end Go.Proofs.YtnegbdpggideiaaGreatDoor
namespace Go.Proofs.YtnegbdpggideiaaGreatDoor
namespace PW
open Go.RowKit cB Mem Net eW
def fK(T:ai)(a:Nat):Int:=(cu T.af (a / 2)).tm
noncomputable def gg(T:ai)(D:List Bool)(n d:Int):Bool:=decide (gv T D n d=0)
noncomputable def da(T:ai)(a:Nat)(d:Int):Int×Int:=
 if(decide (0<fK T a)&&gg T (aG T 3 (fK T a)) (bb T a) d)=true then(3,fK T a)
 else if(decide (aT T a≠d)&&gg T (aG T 2 (aT T a)) (bb T a) d)=true then(2,aT T a)
 else(1,((a / 2:Nat):Int))
def fE(T:ai)(M:List Bool)(n:Int):List Bool:=(List.range (2*T.af.length)).map fun a=>aM M a&&decide (bb T a=n)
def orM(T:ai)(D E:List Bool):List Bool:=(List.range (2*T.af.length)).map fun a=>aM D a||aM E a
theorem wY{f:Nat→Bool}{n a:Nat}:aM ((List.range n).map f) a=(decide (a<n)&&f a):=by
 unfold aM
 rw[List.getD_eq_getElem?_getD,List.getElem?_map]
 by_cases h:a<n
 ·rw[List.getElem?_range h];simp[h]
 ·rw[List.getElem?_eq_none (by simp;omega)];simp[h]
theorem rv{T:ai}{f:Nat→Bool}:bP T ((List.range (2*T.af.length)).map f)=true:=by simp[bP]
theorem nD{T:ai}{M:List Bool}{n:Int}{a:Nat}:aM (fE T M n) a=(decide (a<2*T.af.length)&&(aM M a&&decide (bb T a=n))):=wY
theorem Gy{T:ai}{D E:List Bool}{a:Nat}:aM (orM T D E) a=(decide (a<2*T.af.length)&&(aM D a||aM E a)):=wY
theorem di(T:ai)(k x:Int):bP T (aG T k x)=true:=rv
theorem Db(T:ai)(M:List Bool)(n:Int):bP T (fE T M n)=true:=rv
theorem tE(T:ai)(D E:List Bool):bP T (orM T D E)=true:=rv
theorem lX{T:ai}{D:List Bool}{x y:Nat}(hv:ao T=true)(hf:bP T D=true)(hx:(x:Int)<T.nodes)(hy:(y:Int)<T.nodes):gg T D x y=true↔0≤dN T D y x:=by
 unfold gg
 rw[decide_eq_true_eq,jO hv hf hx hy]
 split<;>omega
theorem sP{T:ai}(hv:ao T=true){a:Nat}(ha:a<2*T.af.length):0≤fK T a∧fK T a≤64:=by
 have h:=qc hv (a / 2) (by omega)
 unfold fK
 unfold ia at h
 rw[Bool.and_eq_true]at h
 unfold bR at h
 exact of_decide_eq_true h.2
theorem uY{T:ai}(hv:ao T=true){a:Nat}(ha:a<2*T.af.length)(d:Int):bV T (da T a d).1 (da T a d).2=true:=by
 have hg:=sP hv ha
 unfold da
 split
 ·rename_i h
  rw[Bool.and_eq_true,decide_eq_true_eq]at h
  show bV T 3 (fK T a)=true
  unfold bV
  simp only[if_neg (show ¬(3:Int)=1 by decide),if_neg (show ¬(3:Int)=2 by decide),if_true,Bool.and_eq_true,decide_eq_true_eq]
  exact⟨by omega,by omega⟩
 ·split
  ·obtain⟨h0,h1⟩:=(aK hv).head a ha
   show bV T 2 (aT T a)=true
   unfold bV
   simp only[if_neg (show ¬(2:Int)=1 by decide),if_true]
   exact aV.2 ⟨h0,h1⟩
  ·show bV T 1 ((a / 2:Nat):Int)=true
   unfold bV
   simp only[if_true,Bool.and_eq_true,decide_eq_true_eq]
   exact⟨by omega,by omega⟩
def kK(own:List Bool)(l:List Int):Option Int:=l.find? fun a=>aM own a.toNat
noncomputable def o4(T:ai)(own:List Bool)(n d:Int)(a:Nat):List Bool:=
 if gg T (orM T (aG T (da T a d).1 (da T a d).2) own) n d=true then orM T (aG T (da T a d).1 (da T a d).2) own else own
noncomputable def mM(T:ai)(own:List Bool)(n d:Nat):iC:=match kK own (bz T [] n d)with
 |none=>⟨bz T [] n d,false,[]⟩
 |some a=>jB T (o4 T own n d a.toNat) n d
noncomputable def oq(T:ai)(own:List Bool)(n k:Nat):List iC:=(List.range k).map fun d=>mM T own n d
theorem Ae(T:ai)(own:List Bool)(n k:Nat):oq T own n (k+1)=oq T own n k++[mM T own n k]:=by simp[oq,List.range_succ]
theorem p6(T:ai)(own:List Bool)(n k:Nat):(oq T own n k).length=k:=by simp[oq]
theorem wH{T:ai}{own:List Bool}{n k d:Nat}(h:d<k):(oq T own n k)[d]? =some (mM T own n d):=by simp[oq,h]
noncomputable def rH(T:ai)(M:List Bool)(n:Nat):ee:=⟨n,oq T (fE T M n) n T.nodes.toNat,cF M (bJ T n)⟩
section
variable {T:ai} {M own:List Bool} {n d:Nat}
theorem vm(hf:bP T own=true)(a:Nat):bP T (o4 T own n d a)=true:=by
 unfold o4;split
 ·exact tE _ _ _
 ·exact hf
theorem Dl{l:List Int}(h:kK own l=none):∀a∈l,aM own a.toNat=false:=fun a ha=>by
 have:=List.find?_eq_none.1 h a ha
 simpa using this
theorem vN{l:List Int}{a:Int}(h:kK own l=some a):a∈l∧aM own a.toNat=true:=⟨List.mem_of_find?_eq_some h,by have:=List.find?_some (p:=fun a:Int=>aM own a.toNat) h;exact this⟩
theorem HY(hv:ao T=true)(h12:T.nodes≤12):jb T n d (mM T own n d)=true:=by
 unfold mM
 cases kK own (bz T [] n d)with
 |some b=>exact C2 _ _ _ _ h12
 |none=>
  unfold jb
  simp only[rE,Bool.true_and]
  by_cases hdn:d=n
  ·subst hdn;rw[iO];simp
  ·rw[decide_eq_false (by omega)];simp
theorem oN(hv:ao T=true)(h12:T.nodes≤12)(hn:(n:Int)<T.nodes):ed T (rH T M n)=true:=by
 unfold ed rH
 have h1:bn T (n:Int)=true:=aV.2 ⟨by omega,hn⟩
 have hN:=(aK hv).nodes
 have h2:decide (((oq T (fE T M n) n T.nodes.toNat).length:Int)=T.nodes)=true:=decide_eq_true (by rw[p6];omega)
 have h3:eP T n (cF M (bJ T n))=true:=lI T n _
 have h4:mO T n (oq T (fE T M n) n T.nodes.toNat)=true:=jf fun d e he=>by
  have hd:d<T.nodes.toNat:=by
   have:=(List.getElem?_eq_some_iff.1 he).1
   rwa [p6]at this
  rw[wH hd]at he
  cases he
  exact HY hv h12
 rw[hv,h1,h2,h3,h4]
 rfl
theorem Co{D E:List Bool}(hv:ao T=true)(hn:(n:Int)<T.nodes)(hd:(d:Int)<T.nodes)(hE:∀a,a<2*T.af.length→aM D a=false→aM E a=false)(h:0≤dN T D d n):0≤dN T E d n:=by
 have hsp:=eo (D:=D) hv hd hn h
 have hch:Ch T E d n (cg T D n d):=by
  have:=hsp.ch
  generalize cg T D n d=p at this
  clear hsp h hn
  induction this with
  |nil=>exact .nil
  |cons ha ht hu hm ho hp ih=>exact .cons ha ht (hE _ ha hu) hm ho ih
 exact(hch.le hv hd).1
end
end PW
end Go.Proofs.YtnegbdpggideiaaGreatDoor
namespace Go.Proofs.YtnegbdpggideiaaGreatDoor
namespace PW
open Go.RowKit cB Mem Net
section
variable {T:ai} {D:List Bool}
theorem il.tail{n y m:Nat}{a:Int}{p:List Int}(h:il T D n y (a::p))(hm:aT T a.toNat=(m:Int)):(p=[]∧m=y)∨il T D m y p:=by
 have hsp:=h.sp
 cases hsp with
 | @cons n a m' p hnr hh hp=>
  rw[Int.toNat_natCast,hh]at hm
  have e:m'=m:=by omega
  subst e
  cases p with
  |nil=>cases hp;exact .inl ⟨rfl,rfl⟩
  |cons b p=>
   refine .inr ?_
   have hpt:=h.part (i:=1) (k:=p.length+1) (by omega) (by simp)
   have hb:∃b':Nat,b=(b':Int)∧bb T b'=(m':Int):=by
    cases hp with
    |cons hn2 _ _=>exact⟨_,rfl,hn2.tail⟩
   obtain⟨b',rfl,hbt⟩:=hb
   have hfin:=h.sp.ch.fin
   have hlast:aT T (((a:Int)::(b':Int)::p).getD (p.length+1) 0).toNat=(y:Int):=by
    rw[←hfin]
    have:=gA T (n:Int) ((a:Int)::(b':Int)::p) (p.length+1) (by simp)
    rw[←this,List.take_of_length_le (by simp)]
   rw[hlast]at hpt
   have e1:bb T (((a:Int)::(b':Int)::p).getD 1 0).toNat=(m':Int):=hbt
   rw[e1]at hpt
   obtain⟨u,v,e3,e4,hs,_⟩:=zd hpt
   have e5:m'=u:=by omega
   have e6:y=v:=by omega
   subst e5;subst e6
   have:=hs.sp.unique hs.valid hs.hy hp hs.mj
   rw[this]at hs
   exact hs
theorem il.Hi{E:List Bool}{n y:Nat}{p:List Int}(h:il T D n y p)(hf:bP T E=true)(hE:∀a,aM D a=false→aM E a=false):il T E n y p:=
 ⟨h.valid,hf,h.ne,h.hx,h.hy,h.uniq,h.sp,fun a ha=>hE _ (h.up a ha)⟩
inductive sM (T:ai) (D:List Bool) (d:Nat):Nat→List b7→List Int→Prop
 |nil:sM T D d d [] []
 |node {n y:Nat} {p q:List Int} {l:List b7}:il T D n y p→sM T D d y l q→sM T D d n (⟨1,(y:Int)⟩::l) (p++q)
 |fx {n a m:Nat} {q:List Int} {l:List b7}:a<2*T.af.length→bb T a=(n:Int)→aM D a=false→aT T a=(m:Int)→sM T D d m l q→sM T D d n (⟨2,(a:Int)⟩::l) ((a:Int)::q)
theorem sM.len{d n:Nat}{l:List b7}{q:List Int}(h:sM T D d n l q):l.length≤q.length:=by
 induction h with
 |nil=>exact Nat.le_refl _
 |node hs _ ih=>have:=hs.pos;simp only[List.length_cons,List.length_append];omega
 |fx _ _ _ _ _ ih=>simp only[List.length_cons];omega
theorem sM.skip{d n:Nat}{l:List b7}{q:List Int}(h:sM T D d n l q):fD ⟨1,(n:Int)⟩ l=l:=by
 cases h with
 |nil=>rfl
 |node hs _=>
  have hne:=hs.ne
  simp only[fD]
  rw[if_neg (fun e=>by cases e;exact hne rfl)]
 |fx _ _ _ _ _=>
  simp only[fD]
  rw[if_neg (fun e=>by cases e)]
theorem sM.end_{d n:Nat}{l:List b7}(h:sM T D d n l []):l=[]∧n=d:=by
 generalize hq:([]:List Int)=q at h
 cases h with
 |nil=>exact⟨rfl,rfl⟩
 |node hs _=>
  have:=hs.pos
  have h2:=congrArg List.length hq
  simp only[List.length_nil,List.length_append]at h2
  omega
 |fx _ _ _ _ _=>cases hq
structure Fm (T:ai) (D:List Bool) (n:Nat) (x:ee):Prop where
 ok:ed T x=true
 node:x.node=(n:Int)
 down:∀a:Nat,(a:Int)∈x.down→aM D a=true
 IL:∀(y:Nat) p,il T D n y p→(dy x (y:Int)).aI=[p.getD 0 0]∧((dy x (y:Int)).rep=true→(dy x (y:Int)).push=[⟨1,(y:Int)⟩])
theorem o7{n d:Nat}{x:ee}(hx:Fm T D n x)(hd:(d:Int)<T.nodes){p:eC}(hp:p.dst=(d:Int))(hn:n=d)(hl:fD ⟨1,(n:Int)⟩ p.stack=[])(h32:p.stack.length≤32):(cC T x p).aI=[]∧(cC T x p).dt= -1:=by
 have hdb:bn T p.dst=true:=aV.2 ⟨by omega,by omega⟩
 unfold cC
 rw[hx.ok,hdb,hx.node,hl,if_neg (by simp),if_neg (by omega)]
 unfold eE
 rw[if_pos (by rw[hp,hx.node,hn];simp)]
 exact⟨rfl,rfl⟩
theorem BP{n d:Nat}{x:ee}(hx:Fm T D n x)(hd:(d:Int)<T.nodes){p:eC}(hp:p.dst=(d:Int))(hh:p.db=0){l:List b7}{a:Int}{q:List Int}(hl:fD ⟨1,(n:Int)⟩ p.stack=l)(h:sM T D d n l (a::q))(h32:p.stack.length≤32):
  ∃(m:Nat) (s:List b7),aT T a.toNat=(m:Int)∧0≤a∧a.toNat<2*T.af.length∧bb T a.toNat=(n:Int)∧aM D a.toNat=false∧cC T x p=cH p s [a]∧s.length≤p.stack.length∧sM T D d m (fD ⟨1,(m:Int)⟩ s) q:=by
 have hdb:bn T p.dst=true:=aV.2 ⟨by omega,by omega⟩
 have hsl:=wC ⟨1,(n:Int)⟩ p.stack
 rw[hl]at hsl
 unfold cC
 rw[hx.ok,hdb,hx.node,hl,if_neg (by simp),if_neg (by omega)]
 generalize eE T x p [] (fY p 1)=K
 generalize hq:a::q=q0 at h
 cases h with
 |nil=>cases hq
 | @node n y pp q1 l1 hs hr=>
  obtain⟨p0,pt,rfl⟩:∃p0 pt,pp=p0::pt:=by
   cases pp with
   |nil=>exact absurd hs.pos (by simp)
   |cons p0 pt=>exact⟨p0,pt,rfl⟩
  simp only[List.cons_append,List.cons.injEq]at hq
  obtain⟨rfl,rfl⟩:=hq
  have hyb:bn T (y:Int)=true:=aV.2 ⟨by omega,hs.hy⟩
  obtain⟨e1,e2⟩:=hx.IL y _ hs
  have ha:∃a' m:Nat,a=(a':Int)∧a'<2*T.af.length∧bb T a'=(n:Int)∧aT T a'=(m:Int):=by
   have:=hs.sp
   cases this with
   |cons hnr hh _=>exact⟨_,_,rfl,hnr.fx,hnr.tail,hh⟩
  obtain⟨a',m,rfl,ha1,ha2,ha3⟩:=ha
  have hup:=hs.up (a':Int) (by simp)
  rw[Int.toNat_natCast]at hup ⊢
  have hskip:sM T D d m (fD ⟨1,(m:Int)⟩ (⟨1,(y:Int)⟩::l1)) (pt++q1):=by
   rcases hs.tail (m:=m) (by rw[Int.toNat_natCast];exact ha3)with⟨rfl,rfl⟩|ht
   ·simp only[fD,if_true,List.nil_append]
    rw[hr.skip]
    exact hr
   ·rw[(sM.node ht hr).skip]
    exact .node ht hr
  have hgo:eE T x p (⟨1,(y:Int)⟩::l1) K=cH p (⟨1,(y:Int)⟩::l1) [(a':Int)]:=by
   unfold eE
   rw[if_neg (by simp;intro h;omega),if_neg (by rw[hh];simp)]
   dsimp only
   rw[if_pos rfl]
   unfold Ff
   rw[hyb,e1,if_pos (by simp)]
   unfold gE
   rw[e1]
   by_cases hrp:(dy x (y:Int)).rep=true
   ·rw[if_pos hrp,e2 hrp]
    have hlen:([⟨1,(y:Int)⟩]++(⟨1,(y:Int)⟩::l1:List b7).drop 1)=(⟨1,(y:Int)⟩::l1:List b7):=rfl
    rw[hlen,if_neg (by omega)]
    rfl
   ·rw[if_neg hrp]
    rfl
  exact⟨m,_,ha3,by omega,ha1,ha2,hup,hgo,hsl,hskip⟩
 | @fx n a' m q1 l1 h1 h2 h3 h4 h5=>
  simp only[List.cons.injEq]at hq
  obtain⟨rfl,rfl⟩:=hq
  rw[Int.toNat_natCast]
  have hab:fB T (a':Int)=true:=dc.2 ⟨by omega,by omega⟩
  have hgo:eE T x p (⟨2,(a':Int)⟩::l1) K=cH p l1 [(a':Int)]:=by
   unfold eE
   rw[if_neg (by simp;intro h;omega),if_neg (by rw[hh];simp)]
   dsimp only
   rw[if_neg (by decide),if_pos rfl,hab,Int.toNat_natCast,h2,hx.node,if_neg (by simp),if_neg (fun hm=>by rw[hx.down a' hm]at h3;cases h3)]
  refine⟨m,l1,h4,by omega,h1,h2,h3,hgo,by simp only[List.length_cons]at hsl;omega,?_⟩
  rw[h5.skip]
  exact h5
theorem tw{n:Int}{p:List Int}{d:Nat}(hF:pA T D n p)(hfin:cE T n p=(d:Int)):∀(f i u:Nat),p.length - i≤f→i≤p.length→cE T n (p.take i)=(u:Int)→sM T D d u (ik T [] n p f i) (p.drop i)
 |f,i,u,hf,hi,hu=>by
  by_cases hlt:i<p.length
  ·cases f with
   |zero=>omega
   |succ f=>
    have ha:=hF.aI
    cases ht:kI (fr T [] n p i) i p.length with
    |none=>
     rw[lB hlt (fun k h1 h2=>jt _ ht k h1 h2)]
     obtain⟨v,hv,_⟩:=cq hF.valid hF.node ha (i+1) (by omega)
     have h1:=gA T n p i hlt
     rw[hv]at h1
     have h2:=oZ hF hlt hu
     have hm:=bX (d:=0) hlt
     have h3:=dc.1 (ha _ hm)
     have h4:=hF.up _ hm
     have h5:=tw hF hfin f (i+1) v (by omega) (by omega) hv
     rw[drop_cons p i hlt]
     obtain⟨a,hae⟩:=Int.eq_ofNat_of_zero_le h3.1
     rw[hae]at h1 h2 h3 h4 ⊢
     rw[Int.toNat_natCast]at h1 h2 h4
     exact .fx (by omega) h2 h4 h1.symm h5
    |some j=>
     obtain⟨t1,t2,t3,t4⟩:=nO _ _ ht
     rw[jM hlt t1 t2 t3 t4]
     obtain⟨v,hv,_⟩:=cq hF.valid hF.node ha j t2
     have hc:=qv hF t1 t2 hu hv
     rw[t3,Bool.and_eq_true]at hc
     obtain⟨h1,h2⟩:=hc
     obtain⟨a,b,e1,e2,hs,_⟩:=zd h1
     have e1:u=a:=by omega
     have e2:v=b:=by omega
     subst e1;subst e2
     have e3:cg T [] u v=eH p i j:=of_decide_eq_true h2
     rw[e3]at hs
     have h5:=tw hF hfin f j v (by omega) t2 hv
     have e4:p.drop i=eH p i j++p.drop j:=by
      unfold eH
      have:=List.take_append_drop (j - i) (p.drop i)
      rw[List.drop_drop,show i+(j - i)=j by omega]at this
      exact this.symm
     rw[hv,e4]
     exact .node hs h5
  ·have e:i=p.length:=by omega
   subst e
   rw[List.take_length,hfin]at hu
   have e:d=u:=by omega
   subst e
   rw[nF _ _ (Nat.le_refl _),List.drop_length]
   exact .nil
theorem oA.JG{n d:Nat}{p:List Int}(h:oA T D n d p):sM T D d n (iE T [] n p) p:=by
 have:=tw h.Ha h.sp.ch.fin p.length 0 n (by omega) (by omega) (by simp[cE])
 exact this
theorem oA.enter{n d:Nat}{p:List Int}(h:oA T D n d p):∃(a m:Nat) (q:List Int),p=(a:Int)::q∧a<2*T.af.length∧bb T a=(n:Int)∧aM D a=false∧aT T a=(m:Int)∧sM T D d m (fD ⟨1,(m:Int)⟩ (jm (iE T [] n p))) q:=by
 have hl:=h.JG
 have hpos:=h.pos
 generalize iE T [] n p=l at hl
 cases hl with
 |nil=>exact absurd hpos (by simp)
 | @node n y pp q1 l1 hs hr=>
  obtain⟨p0,pt,rfl⟩:∃p0 pt,pp=p0::pt:=by
   cases pp with
   |nil=>exact absurd hs.pos (by simp)
   |cons p0 pt=>exact⟨p0,pt,rfl⟩
  have ha:∃a' m:Nat,p0=(a':Int)∧a'<2*T.af.length∧bb T a'=(n:Int)∧aT T a'=(m:Int):=by
   have:=hs.sp
   cases this with
   |cons hnr hh _=>exact⟨_,_,rfl,hnr.fx,hnr.tail,hh⟩
  obtain⟨a',m,rfl,ha1,ha2,ha3⟩:=ha
  have hup:=hs.up (a':Int) (by simp)
  rw[Int.toNat_natCast]at hup
  refine⟨a',m,pt++q1,rfl,ha1,ha2,hup,ha3,?_⟩
  have hcut:jm (⟨1,(y:Int)⟩::l1)=⟨1,(y:Int)⟩::l1:=by simp[jm]
  rw[hcut]
  rcases hs.tail (m:=m) (by rw[Int.toNat_natCast];exact ha3)with⟨rfl,rfl⟩|ht
  ·simp only[fD,if_true,List.nil_append]
   rw[hr.skip]
   exact hr
  ·rw[(sM.node ht hr).skip]
   exact .node ht hr
 | @fx n a' m q1 l1 h1 h2 h3 h4 h5=>
  refine⟨a',m,q1,rfl,h1,h2,h3,h4,?_⟩
  have hcut:jm (⟨2,(a':Int)⟩::l1)=l1:=by simp[jm]
  rw[hcut,h5.skip]
  exact h5
theorem rW{n d:Nat}{x:ee}(hok:ed T x=true)(hxn:x.node=(n:Int))(hd:(d:Int)<T.nodes)(hne:n≠d){p:eC}(hp:p.dst=(d:Int))(hh:p.db=0)(hl:fD ⟨1,(n:Int)⟩ p.stack=[])(h32:p.stack.length≤32)(ha:0<(dy x (d:Int)).aI.length)(hpl:(dy x (d:Int)).push.length≤32):
  cC T x p=cH p (if(dy x (d:Int)).rep then(dy x (d:Int)).push else []) (dy x (d:Int)).aI:=by
 have hdb:bn T p.dst=true:=aV.2 ⟨by omega,by omega⟩
 unfold cC
 rw[hok,hdb,hxn,hl,if_neg (by simp),if_neg (by omega)]
 unfold eE
 have hdn:decide ((d:Int)=x.node)=false:=decide_eq_false (by rw[hxn];omega)
 rw[hp,hdn,if_neg (by simp),if_neg (by rw[hh];simp)]
 dsimp only
 unfold Ff
 rw[←hp,hdb,hp,if_pos (by simp;omega)]
 unfold gE
 simp only[List.drop_nil,List.append_nil]
 by_cases hr:(dy x (d:Int)).rep=true
 ·rw[if_pos hr,if_pos hr,if_neg (by omega)]
 ·rw[if_neg hr,if_neg hr]
end
end PW
end Go.Proofs.YtnegbdpggideiaaGreatDoor
namespace Go.Proofs.YtnegbdpggideiaaGreatDoor
namespace eW
open Go.RowKit Go.Shelf Net
attribute [local go_sem] Oper.semAt_some
end eW
end Go.Proofs.YtnegbdpggideiaaGreatDoor
namespace Go.Proofs.YtnegbdpggideiaaGreatDoor
namespace PW
open Go.RowKit cB Mem
inductive Up (k:Nat):PV→PV→Prop
 |pure {p:PV} [IsPure p]:Up k p p
 |own {i j:Nat}:j=k+i→Up k (.own i) (.own j)
 |ptr {i j o:Nat}:j=k+i→Up k (.ptr i o) (.ptr j o)
 |agg {xs ys:List PV} (hl:ys.length=xs.length) (hs:∀(j:Nat) x y,xs[j]? =some x→ys[j]? =some y→Up k x y):Up k (.agg xs) (.agg ys)
 |tuple {xs ys:List PV} (hl:ys.length=xs.length) (hs:∀(j:Nat) x y,xs[j]? =some x→ys[j]? =some y→Up k x y):Up k (.tuple xs) (.tuple ys)
 |func {f:FuncId} {xs ys:List PV} (hl:ys.length=xs.length) (hs:∀(j:Nat) x y,xs[j]? =some x→ys[j]? =some y→Up k x y):Up k (.func f xs) (.func f ys)
def kN(k:Nat)(xs ys:List PV):Prop:=ys.length=xs.length∧∀(j:Nat) x y,xs[j]? =some x→ys[j]? =some y→Up k x y
theorem kN.nil{k:Nat}:kN k [] []:=⟨rfl,fun j x y h=>by simp at h⟩
theorem kN.cons{k:Nat}{x y:PV}{xs ys:List PV}(h:Up k x y)(hs:kN k xs ys):kN k (x::xs) (y::ys):=⟨by simp[hs.1],fun j a b h1 h2=>by
 cases j with
 |zero=>simp at h1 h2;subst h1;subst h2;exact h
 |succ j=>exact hs.2 j a b (by simpa using h1) (by simpa using h2)⟩
theorem kN.pure{k:Nat}{xs:List PV}[h:aJ xs]:kN k xs xs:=⟨rfl,fun j x y h1 h2=>by
 rw[h1]at h2;cases h2
 haveI:=h.out j x h1
 exact Up.pure⟩
theorem Up.iH{k:Nat}{xs ys:List PV}(h:kN k xs ys):Up k (.agg xs) (.agg ys):=.agg h.1 h.2
theorem Up.bG{k:Nat}{xs ys:List PV}(h:kN k xs ys):Up k (.tuple xs) (.tuple ys):=.tuple h.1 h.2
inductive HO (k:Nat):cT→cT→Prop
 |cells {ty:TypeId} {xs ys:List PV}:kN k xs ys→HO k (.cells ty xs) (.cells ty ys)
 |row {e s n:Nat} {xs ys:List PV}:kN k xs ys→HO k (.row e s n xs) (.row e s n ys)
 |mp {kv:List (Value×PV)} [aJ (kv.map (·.2))]:HO k (.mp kv) (.mp kv)
def mW(k:Nat)(xs ys:List cT):Prop:=ys.length=xs.length∧∀(j:Nat) x y,xs[j]? =some x→ys[j]? =some y→HO k x y
theorem mW.nil{k:Nat}:mW k [] []:=⟨rfl,fun j x y h=>by simp at h⟩
theorem mW.cons{k:Nat}{x y:cT}{xs ys:List cT}(h:HO k x y)(hs:mW k xs ys):mW k (x::xs) (y::ys):=⟨by simp[hs.1],fun j a b h1 h2=>by
 cases j with
 |zero=>simp at h1 h2;subst h1;subst h2;exact h
 |succ j=>exact hs.2 j a b (by simpa using h1) (by simpa using h2)⟩
section
variable {E E1 E2:Env} {w:World} {k:Nat}
theorem Up.rep(hat:∀i,i<E1.L→E2.at_ (k+i)=E1.at_ i∧k+i<E2.L)(hM:∀b,E2.M b→E1.M b){p q:PV}(h:Up k p q):∀v,cD E1 w v p→cD E2 w v q:=by
 induction h with
 | @pure p hp=>
  intro v h
  have:=hp.out E1 E2.M w v hM h
  exact this.goes (E:=EF E2.M) (E':=E2) (w:=w) (w':=w) ⟨Nat.zero_le _,fun i hi=>absurd hi (Nat.not_lt_zero i),fun _ _ h=>h,Nat.le_refl _,fun _ _ _=>rfl⟩
 | @own i j hij=>
  intro v h
  subst hij
  cases h with
  |own _ hi _ h hs=>exact .own _ (hat i hi).2 v ((hat i hi).1.trans h) hs
 | @ptr i j o hij=>
  intro v h
  subst hij
  cases h with
  |ptr _ _ b hi h=>exact .ptr _ o b (hat i hi).2 (by rw[(hat i hi).1];exact h)
 | @agg xs ys hl _ ih=>
  intro v h
  cases h with
  |agg cs _ hl' hr=>exact .agg cs ys (hl'.trans hl.symm) (fun j c u h1 h2=>by
    have hj:j<xs.length:=by rw[←hl];exact(List.getElem?_eq_some_iff.1 h2).1
    exact ih j xs[j] u (by simp[hj]) h2 c (hr j c _ h1 (by simp[hj])))
 | @tuple xs ys hl _ ih=>
  intro v h
  cases h with
  |tuple cs _ hl' hr=>exact .tuple cs ys (hl'.trans hl.symm) (fun j c u h1 h2=>by
    have hj:j<xs.length:=by rw[←hl];exact(List.getElem?_eq_some_iff.1 h2).1
    exact ih j xs[j] u (by simp[hj]) h2 c (hr j c _ h1 (by simp[hj])))
 | @func f xs ys hl _ ih=>
  intro v h
  cases h with
  |func _ cs _ hl' hr=>exact .func f cs ys (hl'.trans hl.symm) (fun j c u h1 h2=>by
    have hj:j<xs.length:=by rw[←hl];exact(List.getElem?_eq_some_iff.1 h2).1
    exact ih j xs[j] u (by simp[hj]) h2 c (hr j c _ h1 (by simp[hj])))
theorem kN.rep(hat:∀i,i<E1.L→E2.at_ (k+i)=E1.at_ i∧k+i<E2.L)(hM:∀b,E2.M b→E1.M b){xs ys:List PV}(h:kN k xs ys){cs:List Value}(hs:aU E1 w cs xs):aU E2 w cs ys:=⟨hs.1.trans h.1.symm,fun j c u h1 h2=>by
 have hj:j<xs.length:=by rw[←h.1];exact(List.getElem?_eq_some_iff.1 h2).1
 exact(h.2 j xs[j] u (by simp[hj]) h2).rep hat hM c (hs.2 j c _ h1 (by simp[hj]))⟩
theorem HO.sat{base base':Nat}(hb:base'≤base)(hat:∀i,i<E1.L→E2.at_ (k+i)=E1.at_ i∧k+i<E2.L)(hM:∀b,E2.M b→E1.M b){v:Value}{x y:cT}(h:HO k x y)(hs:gm base E1 w v x):gm base' E2 w v y:=by
 cases h with
 |cells h1=>
  obtain⟨b,cs,h2,h3,h4,h5⟩:=hs
  exact⟨b,cs,h2,by omega,h4,h1.rep hat hM h5⟩
 |row h1=>
  obtain⟨cs,h2,h3⟩:=hs
  refine⟨cs,⟨h2.1,?_⟩,h1.rep hat hM h3⟩
  rcases h2.2 with h|⟨g,cap,cur,a1,a2,a3⟩
  ·exact .inl h
  ·exact .inr ⟨g,cap,cur,a1,by omega,a3⟩
 | @mp kv hp=>
  obtain⟨r,es,ck,h2,h3,h4,h5,h6⟩:=hs
  exact⟨r,es,ck,h2,by omega,h4,h5,kN.pure (k:=k).rep hat hM h6⟩
end
theorem bT.frame{P:Program}{f:FuncId}{ps:List PV}{σ:cd}{R:PV→cd→Prop}[aJ ps]
  (h:bT P f ps [] (fun r σ1=>∃bs,σ1=bs.map some∧∃r' bs',Up σ.length r r'∧mW σ.length bs bs'∧R r' (σ++bs'.map some))):bT P f ps σ R:=fun F base E w vs hS hR=>by
 refine(h E.M w.heap.size (EF E.M) w vs (Sat.start E.M w (fun b hb=>hS.lt hb) hS.gl) (hR.pure (fun _ h=>h))).mono ?_
 rintro e w' ⟨v,r,σ1,E1,rfl,⟨bs,rfl,r',bs',hu,hbu,hRr⟩,hS1,hg1,hB1,hv⟩
 have hE:Ext w w':=hB1
 have hL1:E1.L=bs.length:=by rw[hS1.len];simp
 have hlen:((List.range bs.length).map E1.at_).length=bs'.length:=by rw[List.length_map,List.length_range,hbu.1]
 have hget:∀(i:Nat) v,((List.range bs.length).map E1.at_)[i]? =some v→i<bs.length∧v=E1.at_ i:=fun i v hi=>by
  have hi':i<bs.length:=by have:=(List.getElem?_eq_some_iff.1 hi).1;simpa using this
  rw[List.getElem?_map,List.getElem?_range hi']at hi
  cases hi
  exact⟨hi',rfl⟩
 have hbk:∀i,i<bs.length→∃x,bs[i]? =some x∧(bs.map some)[i]? =some (some x):=fun i hi=>⟨bs[i],by simp[hi],by simp[hi]⟩
 have hat:∀i,i<E1.L→(E.ef ((List.range bs.length).map E1.at_)).at_ (σ.length+i)=E1.at_ i∧σ.length+i<(E.ef ((List.range bs.length).map E1.at_)).L:=fun i hi=>by
  rw[hL1]at hi
  refine⟨?_,?_⟩
  ·simp only[Env.ef,hS.len]
   rw[if_neg (by omega),Nat.add_sub_cancel_left,List.getD_eq_getElem?_getD,List.getElem?_map,List.getElem?_range hi]
   rfl
  ·simp only[Env.ef,hS.len,List.length_map,List.length_range];omega
 have hM:∀b,(E.ef ((List.range bs.length).map E1.at_)).M b→E1.M b:=fun b hb=>by
  rcases hb with hb|⟨v,hv1,hv2⟩
  ·exact(hS1.mm b).2 (.inl hb)
  ·obtain⟨i,hi⟩:=List.getElem?_of_mem hv1
   obtain⟨hi1,rfl⟩:=hget i v hi
   obtain⟨x,_,hx⟩:=hbk i hi1
   exact(hS1.mm b).2 (.inr ⟨i,x,hx,hv2⟩)
 have hp:=hS.ef hE ((List.range bs.length).map E1.at_) bs' hlen
  (fun v hv1 b hb=>by
   obtain⟨i,hi⟩:=List.getElem?_of_mem hv1
   obtain⟨hi1,rfl⟩:=hget i v hi
   obtain⟨x,_,hx⟩:=hbk i hi1
   exact((hS1.blk i x hx).lt hb).1)
  (fun i j u v b hi hj hu hv=>by
   obtain⟨hi1,rfl⟩:=hget i u hi
   obtain⟨hj1,rfl⟩:=hget j v hj
   obtain⟨x,_,hx⟩:=hbk i hi1
   obtain⟨y,_,hy⟩:=hbk j hj1
   exact hS1.inj i j x y b hx hy hu hv)
  (fun i v blk hi hb=>by
   obtain⟨hi1,rfl⟩:=hget i v hi
   obtain⟨x,hx0,hx⟩:=hbk i hi1
   exact(hbu.2 i x blk hx0 hb).sat hS.bl hat hM (hS1.blk i x hx))
 exact⟨v,r',_,_,rfl,hRr,hp.1,hp.2,Below.iv hE hS.bl,hu.rep hat hM v hv⟩
end PW
end Go.Proofs.YtnegbdpggideiaaGreatDoor
namespace Go.Proofs.YtnegbdpggideiaaGreatDoor
namespace PW
open Go.RowKit cB Mem Net
theorem rJ(T:ai)(D:List Bool)(n:Int):Can Tryz.prog 53 [aP T,aY D,num n] (· = .tuple [fN (jx T D n),num (cw T D [n])]):=by
 refine aE Tryz.func53 rfl Tryz.ntmps53 rfl<|aQ<|au 3 rfl<|aH [1,2,3,6] rfl ?_
 refine aj ?_
 obtain⟨q1,hq1⟩:∃q,ao T=q:=⟨_,rfl⟩
 obtain⟨q2,hq2⟩:∃q,bP T D=q:=⟨_,rfl⟩
 refine bp 22 (.raw (.bool ((!q1)||(!q2)))) [1,2,3,6] rfl ?_ ?_
 ·refine .a 1 rfl<|.c rfl (hq1▸eh T) rfl<|.a 2 rfl<|?_
  cases q1
  ·exact .a 5 rfl<|.k [22,1,2,3,6] rfl
  ·exact .a 2 rfl<|.c rfl (hq2▸kY T D (by have:=bO hq1;omega)) rfl<|.a 2 rfl<|.k [22,1,2,3,6] rfl
 refine ah rfl (fun hc=>?_) (fun hc=>?_)
 ·have hch:cw T D [n]=1:=by
   unfold cw
   rw[hq1,hq2,if_neg]
   revert hc
   cases q1<;>cases q2<;>simp
  refine aQ<|au 3 rfl<|aH [6,7] rfl ?_
  exact aq<|⟨_,_,ay.of rfl,aB.bG (an.cons (aB.iH (an.cons aB.pure<|an.cons aB.bZ<|an.cons aB.bZ an.nil)) (an.cons aB.pure an.nil)),by unfold jx;rw[hch];rfl⟩
 ·have hok:(ao T&&bP T D)=true:=by
   rw[hq1,hq2]
   revert hc
   cases q1<;>cases q2<;>simp
  clear hc hq1 hq2
  refine ak<|aj<|ab (.a 2 rfl<|.c rfl (dp T n) rfl<|.a 1 rfl<|.k [1,2,3,6,27] rfl)<|ah rfl (fun hc=>?_) (fun hc=>?_)
  ·have hn:bn T n=false:=by revert hc;cases bn T n<;>simp
   have hch:cw T D [n]=2:=by
    unfold cw
    rw[if_pos hok,if_neg]
    simp[hn]
   refine aQ<|au 3 rfl<|aH [6,7] rfl ?_
   exact aq<|⟨_,_,ay.of rfl,aB.bG (an.cons (aB.iH (an.cons aB.pure<|an.cons aB.bZ<|an.cons aB.bZ an.nil)) (an.cons aB.pure an.nil)),by unfold jx;rw[hch];rfl⟩
  ·have hn:bn T n=true:=by revert hc;cases bn T n<;>simp
   have hch:cw T D [n]=0:=by
    unfold cw
    rw[if_pos hok,if_pos]
    simp[hn]
   obtain⟨hv,hf⟩:=Bool.and_eq_true_iff.1 hok
   rw[aV]at hn
   obtain⟨m,rfl⟩:=Int.eq_ofNat_of_zero_le hn.1
   obtain⟨N,hN⟩:∃N:Nat,T.nodes=(N:Int):=⟨T.nodes.toNat,by omega⟩
   have hN64:N≤64:=by have:=(aK hv).nodes;omega
   have hll:=bO hv
   refine ak<|aQ<|au 4 rfl<|aH [1,2,3,6,8] rfl ?_
   refine cp 1 1 76 3 rfl rfl ?_
   refine cp 1 2 3 1 rfl rfl ?_
   refine aj<|ab (.a 1 rfl<|.v (aN rfl ((show some (num T.nodes)=some (num (N:Int)) by rw[hN]))) rfl<|.a 1 rfl<|.k [1,2,3,6,8,32,33] rfl)<|av<|ft [1,2,3,6,8,32,33] rfl<|br (fun r s=>∃j,j≤N∧r=N - j∧s=⟨[(1,aY D),(2,num m),(3,.aX (bx T) 0),(6,.ptr 0 0),(8,.ptr 1 0),(32,num N),(33,num j)],[some (.cells 56 [num 0,.raw (.slice none 0 0),.raw (.slice none 0 0)]),some (.cells 56 [num m,.own 2,.own 3]),some (.row 76 3 j (dA (oa T D m j))),some (.row 3 1 0 [])]⟩) N ⟨0,by omega,by omega,rfl⟩ ?_
   rintro r s ⟨j,hj,rfl,rfl⟩
   refine ab (.a 1 rfl<|.k [1,2,3,6,8,32,33,34] rfl)<|aj<|ah rfl (fun hc=>?_) (fun hc=>?_)
   ·have hlt:j<N:=by have:=of_decide_eq_true hc;omega
    have hne:cc T D (m:Int) (j:Int)=0:=by
     have hnb:bn T (j:Int)=true:=aV.2 ⟨by omega,by omega⟩
     have hch':cw T D [(j:Int)]=0:=by
      unfold cw
      rw[if_pos hok,if_pos]
      simp[hnb]
     unfold cc
     rw[if_pos hch',if_pos (aV.2 hn)]
    have hnx:Can Tryz.prog 109 [aP T,aY D,num m,num j] (· = .tuple [aw (bz T D m j),num 0]):=by
     have h:=rh T D (m:Int) (j:Int)
     rw[hne]at h
     exact h
    refine ak<|aj<|av<|ab (.a 2 rfl<|.k [1,2,3,6,8,9,32,33] rfl)<|ab (.a 4 rfl<|.c rfl (hnx) rfl<|.a 5 rfl<|.k [1,2,3,6,8,10,32,33] rfl)<|bF<|au 3 rfl<|bE (CP (gM (xs:=[_,_,_]) rfl (bI.st.get rfl) rfl rfl) (jg.iH (.cons (jg.refl _)<|.cons (jg.refl _)<|.cons jg.bZ .nil))) rfl<|au 1 rfl<|cn (bA rfl (bI.rk.get rfl) rfl rfl rfl rfl (by unfold maxLen;omega)) rfl<|au 2 rfl ?_
    refine ep [0,1,4,3] (.c 1<|.c 2<|.c 3<|.c 6<|.c 8<|.c 32<|.c 33<|.nil) (.kept rfl (.cells (aD.c<|aD.c<|aD.c<|aD.nil))<|.kept rfl (.cells (aD.c<|aD.c<|aD.c<|aD.nil))<|.kept rfl (.fj rfl (show _=dA (oa T D m (j+1)) by rw[vq];exact mN _ ⟨bz T D m j,false,[]⟩))<|.kept rfl (.row aD.pure)<|.nil) rfl rfl (aZ ?_)
    refine az (.v (aS rfl) rfl<|.a 1 rfl<|.k [1,2,3,6,8,32,33] rfl) ?_
    exact⟨N - (j+1),by omega,j+1,by omega,rfl,rfl⟩
   ·have hje:j=N:=by have:=of_decide_eq_false hc;omega
    subst hje
    refine bg<|aj ?_
    have hol:(bJ T m).length≤512:=Nat.le_trans (ek T m _) (by omega)
    refine ab (.a 2 rfl<|.c rfl (nP T hll _) rfl<|.a 2 rfl<|.k [1,6,8,54,55,56] rfl)<|av<|ft [1,6,8,54,55,56] rfl<|br (fun r s=>∃i,i≤(bJ T m).length∧r=(bJ T m).length - i∧s=⟨[(1,aY D),(6,.ptr 0 0),(8,.ptr 1 0),(54,aw (bJ T m)),(55,num (bJ T m).length),(56,num i)],[some (.cells 56 [num 0,.raw (.slice none 0 0),.raw (.slice none 0 0)]),some (.cells 56 [num m,.own 2,.own 3]),some (.row 76 3 j (dA (oa T D m j))),some (.row 3 1 (cF D ((bJ T m).take i)).length (aO (cF D ((bJ T m).take i))))]⟩) (bJ T m).length ⟨0,by omega,by omega,rfl⟩ ?_
    rintro r s ⟨i,hi,rfl,rfl⟩
    refine ab (.a 1 rfl<|.k [1,6,8,54,55,56,57] rfl)<|aj<|ah rfl (fun hc=>?_) (fun hc=>?_)
    ·have hlt:i<(bJ T m).length:=by have:=of_decide_eq_true hc;omega
     obtain⟨h0,h1⟩:=jX (bX (d:=0) hlt)
     obtain⟨a,ha⟩:=Int.eq_ofNat_of_zero_le h0
     have hDl:D.length=0∨a<D.length:=by simp only[bP,decide_eq_true_eq]at hf;omega
     have hstep:cF D ((bJ T m).take (i+1))=cF D ((bJ T m).take i)++(if aM D a then [(a:Int)] else []):=by
      unfold cF
      rw[dH _ i 0 hlt,List.filter_append,ha]
      simp only[List.filter_cons,List.filter_nil,Int.toNat_natCast]
     have hdl:(cF D ((bJ T m).take i)).length≤1000:=Nat.le_trans (List.length_filter_le _ _) (by rw[List.length_take];have:=ek T m (2*T.af.length);unfold bJ at*;omega)
     refine ak<|aj<|av<|ab (.v (aL (i) rfl) rfl<|.v (aN rfl ((aA _ i hlt).trans (by rw[ha]))) rfl<|.a 1 rfl<|.k [1,6,8,13,54,55,56] rfl)<|ab (.a 2 rfl<|.c rfl (je D a hDl) rfl<|.k [1,6,8,13,54,55,56,62] rfl)<|ah rfl (fun hcd=>?_) (fun hcd=>?_)
     ·rw[hcd,if_pos rfl]at hstep
      refine bF<|au 4 rfl<|cn (bA rfl (bI.rk.get rfl) rfl rfl rfl rfl (by unfold maxLen;omega)) rfl<|au 2 rfl ?_
      refine ep [0,1,2,4] (.c 1<|.c 6<|.c 8<|.c 54<|.c 55<|.c 56<|.nil) (.kept rfl (.cells (aD.c<|aD.c<|aD.c<|aD.nil))<|.kept rfl (.cells (aD.c<|aD.c<|aD.c<|aD.nil))<|.kept rfl (.row aD.pure)<|.kept rfl (.fj rfl (df _ _))<|.nil) rfl rfl (aZ ?_)
      refine az (.v (aS rfl) rfl<|.a 1 rfl<|.k [1,6,8,54,55,56] rfl) ?_
      refine⟨(bJ T m).length - (i+1),by omega,i+1,by omega,rfl,?_⟩
      rw[hstep]
      first
       |rfl
       |(simp only[List.length_append,List.length_singleton];rfl)
     ·rw[hcd,if_neg (by simp),List.append_nil]at hstep
      refine ak<|az (.v (aS rfl) rfl<|.a 1 rfl<|.k [1,6,8,54,55,56] rfl) ?_
      refine⟨(bJ T m).length - (i+1),by omega,i+1,by omega,rfl,?_⟩
      rw[hstep]
      first
       |rfl
       |(simp only[List.length_append,List.length_singleton];rfl)
    ·have hie:i=(bJ T m).length:=by have:=of_decide_eq_false hc;omega
     subst hie
     refine bg<|aQ<|bE (fv (ys:=[num m,.own 2,.own 3]) rfl (bI.tk.get rfl) rfl rfl rfl rfl) rfl<|au 2 rfl<|aH [6,7] rfl ?_
     refine aq<|⟨_,_,ay.of rfl,aB.bG (an.cons (aB.iH (an.cons aB.pure<|an.cons (aB.ew rfl an.pure)<|an.cons (aB.ew rfl an.pure) an.nil)) (an.cons aB.pure an.nil)),?_⟩
     unfold jx
     rw[hch,if_pos rfl,List.take_length]
     unfold dE fN fT jQ aw
     rw[tG,show T.nodes.toNat=j by omega]
     rfl
end PW
end Go.Proofs.YtnegbdpggideiaaGreatDoor
namespace Go.Proofs.YtnegbdpggideiaaGreatDoor
namespace PW
open Go.RowKit cB Mem Net eW
theorem uO(T:ai)(D:List Bool)(n:Int)(hch0:cw T D [n]=0):bT Tryz.prog 53 [aP T,aY D,num n] [] (fun r σ'=>r= .tuple [.agg [num n,.own 2,.own 3],num 0]∧σ'=[some (.cells 56 [num n,.own 2,.own 3]),some (.cells 56 [num n,.own 2,.own 3]),some (.row 76 3 T.nodes.toNat (dA (oa T D n.toNat T.nodes.toNat))),some (.row 3 1 (cF D (bJ T n)).length (aO (cF D (bJ T n))))]):=by
 refine ct Tryz.func53 rfl Tryz.ntmps53 rfl<|aQ<|au 3 rfl<|aH [1,2,3,6] rfl ?_
 refine aj ?_
 obtain⟨q1,hq1⟩:∃q,ao T=q:=⟨_,rfl⟩
 obtain⟨q2,hq2⟩:∃q,bP T D=q:=⟨_,rfl⟩
 refine bp 22 (.raw (.bool ((!q1)||(!q2)))) [1,2,3,6] rfl ?_ ?_
 ·refine .a 1 rfl<|.c rfl (hq1▸eh T) rfl<|.a 2 rfl<|?_
  cases q1
  ·exact .a 5 rfl<|.k [22,1,2,3,6] rfl
  ·exact .a 2 rfl<|.c rfl (hq2▸kY T D (by have:=bO hq1;omega)) rfl<|.a 2 rfl<|.k [22,1,2,3,6] rfl
 refine ah rfl (fun hc=>?_) (fun hc=>?_)
 ·have hch:cw T D [n]=1:=by
   unfold cw
   rw[hq1,hq2,if_neg]
   revert hc
   cases q1<;>cases q2<;>simp
  exact absurd hch0 (by rw[hch];decide)
 ·have hok:(ao T&&bP T D)=true:=by
   rw[hq1,hq2]
   revert hc
   cases q1<;>cases q2<;>simp
  clear hc hq1 hq2
  refine ak<|aj<|ab (.a 2 rfl<|.c rfl (dp T n) rfl<|.a 1 rfl<|.k [1,2,3,6,27] rfl)<|ah rfl (fun hc=>?_) (fun hc=>?_)
  ·have hn:bn T n=false:=by revert hc;cases bn T n<;>simp
   have hch:cw T D [n]=2:=by
    unfold cw
    rw[if_pos hok,if_neg]
    simp[hn]
   exact absurd hch0 (by rw[hch];decide)
  ·have hn:bn T n=true:=by revert hc;cases bn T n<;>simp
   have hch:cw T D [n]=0:=by
    unfold cw
    rw[if_pos hok,if_pos]
    simp[hn]
   obtain⟨hv,hf⟩:=Bool.and_eq_true_iff.1 hok
   rw[aV]at hn
   obtain⟨m,rfl⟩:=Int.eq_ofNat_of_zero_le hn.1
   obtain⟨N,hN⟩:∃N:Nat,T.nodes=(N:Int):=⟨T.nodes.toNat,by omega⟩
   have hN64:N≤64:=by have:=(aK hv).nodes;omega
   have hll:=bO hv
   refine ak<|aQ<|au 4 rfl<|aH [1,2,3,6,8] rfl ?_
   refine cp 1 1 76 3 rfl rfl ?_
   refine cp 1 2 3 1 rfl rfl ?_
   refine aj<|ab (.a 1 rfl<|.v (aN rfl ((show some (num T.nodes)=some (num (N:Int)) by rw[hN]))) rfl<|.a 1 rfl<|.k [1,2,3,6,8,32,33] rfl)<|av<|ft [1,2,3,6,8,32,33] rfl<|br (fun r s=>∃j,j≤N∧r=N - j∧s=⟨[(1,aY D),(2,num m),(3,.aX (bx T) 0),(6,.ptr 0 0),(8,.ptr 1 0),(32,num N),(33,num j)],[some (.cells 56 [num 0,.raw (.slice none 0 0),.raw (.slice none 0 0)]),some (.cells 56 [num m,.own 2,.own 3]),some (.row 76 3 j (dA (oa T D m j))),some (.row 3 1 0 [])]⟩) N ⟨0,by omega,by omega,rfl⟩ ?_
   rintro r s ⟨j,hj,rfl,rfl⟩
   refine ab (.a 1 rfl<|.k [1,2,3,6,8,32,33,34] rfl)<|aj<|ah rfl (fun hc=>?_) (fun hc=>?_)
   ·have hlt:j<N:=by have:=of_decide_eq_true hc;omega
    have hne:cc T D (m:Int) (j:Int)=0:=by
     have hnb:bn T (j:Int)=true:=aV.2 ⟨by omega,by omega⟩
     have hch':cw T D [(j:Int)]=0:=by
      unfold cw
      rw[if_pos hok,if_pos]
      simp[hnb]
     unfold cc
     rw[if_pos hch',if_pos (aV.2 hn)]
    have hnx:Can Tryz.prog 109 [aP T,aY D,num m,num j] (· = .tuple [aw (bz T D m j),num 0]):=by
     have h:=rh T D (m:Int) (j:Int)
     rw[hne]at h
     exact h
    refine ak<|aj<|av<|ab (.a 2 rfl<|.k [1,2,3,6,8,9,32,33] rfl)<|ab (.a 4 rfl<|.c rfl (hnx) rfl<|.a 5 rfl<|.k [1,2,3,6,8,10,32,33] rfl)<|bF<|au 3 rfl<|bE (CP (gM (xs:=[_,_,_]) rfl (bI.st.get rfl) rfl rfl) (jg.iH (.cons (jg.refl _)<|.cons (jg.refl _)<|.cons jg.bZ .nil))) rfl<|au 1 rfl<|cn (bA rfl (bI.rk.get rfl) rfl rfl rfl rfl (by unfold maxLen;omega)) rfl<|au 2 rfl ?_
    refine ep [0,1,4,3] (.c 1<|.c 2<|.c 3<|.c 6<|.c 8<|.c 32<|.c 33<|.nil) (.kept rfl (.cells (aD.c<|aD.c<|aD.c<|aD.nil))<|.kept rfl (.cells (aD.c<|aD.c<|aD.c<|aD.nil))<|.kept rfl (.fj rfl (show _=dA (oa T D m (j+1)) by rw[vq];exact mN _ ⟨bz T D m j,false,[]⟩))<|.kept rfl (.row aD.pure)<|.nil) rfl rfl (aZ ?_)
    refine az (.v (aS rfl) rfl<|.a 1 rfl<|.k [1,2,3,6,8,32,33] rfl) ?_
    exact⟨N - (j+1),by omega,j+1,by omega,rfl,rfl⟩
   ·have hje:j=N:=by have:=of_decide_eq_false hc;omega
    subst hje
    refine bg<|aj ?_
    have hol:(bJ T m).length≤512:=Nat.le_trans (ek T m _) (by omega)
    refine ab (.a 2 rfl<|.c rfl (nP T hll _) rfl<|.a 2 rfl<|.k [1,6,8,54,55,56] rfl)<|av<|ft [1,6,8,54,55,56] rfl<|br (fun r s=>∃i,i≤(bJ T m).length∧r=(bJ T m).length - i∧s=⟨[(1,aY D),(6,.ptr 0 0),(8,.ptr 1 0),(54,aw (bJ T m)),(55,num (bJ T m).length),(56,num i)],[some (.cells 56 [num 0,.raw (.slice none 0 0),.raw (.slice none 0 0)]),some (.cells 56 [num m,.own 2,.own 3]),some (.row 76 3 j (dA (oa T D m j))),some (.row 3 1 (cF D ((bJ T m).take i)).length (aO (cF D ((bJ T m).take i))))]⟩) (bJ T m).length ⟨0,by omega,by omega,rfl⟩ ?_
    rintro r s ⟨i,hi,rfl,rfl⟩
    refine ab (.a 1 rfl<|.k [1,6,8,54,55,56,57] rfl)<|aj<|ah rfl (fun hc=>?_) (fun hc=>?_)
    ·have hlt:i<(bJ T m).length:=by have:=of_decide_eq_true hc;omega
     obtain⟨h0,h1⟩:=jX (bX (d:=0) hlt)
     obtain⟨a,ha⟩:=Int.eq_ofNat_of_zero_le h0
     have hDl:D.length=0∨a<D.length:=by simp only[bP,decide_eq_true_eq]at hf;omega
     have hstep:cF D ((bJ T m).take (i+1))=cF D ((bJ T m).take i)++(if aM D a then [(a:Int)] else []):=by
      unfold cF
      rw[dH _ i 0 hlt,List.filter_append,ha]
      simp only[List.filter_cons,List.filter_nil,Int.toNat_natCast]
     have hdl:(cF D ((bJ T m).take i)).length≤1000:=Nat.le_trans (List.length_filter_le _ _) (by rw[List.length_take];have:=ek T m (2*T.af.length);unfold bJ at*;omega)
     refine ak<|aj<|av<|ab (.v (aL (i) rfl) rfl<|.v (aN rfl ((aA _ i hlt).trans (by rw[ha]))) rfl<|.a 1 rfl<|.k [1,6,8,13,54,55,56] rfl)<|ab (.a 2 rfl<|.c rfl (je D a hDl) rfl<|.k [1,6,8,13,54,55,56,62] rfl)<|ah rfl (fun hcd=>?_) (fun hcd=>?_)
     ·rw[hcd,if_pos rfl]at hstep
      refine bF<|au 4 rfl<|cn (bA rfl (bI.rk.get rfl) rfl rfl rfl rfl (by unfold maxLen;omega)) rfl<|au 2 rfl ?_
      refine ep [0,1,2,4] (.c 1<|.c 6<|.c 8<|.c 54<|.c 55<|.c 56<|.nil) (.kept rfl (.cells (aD.c<|aD.c<|aD.c<|aD.nil))<|.kept rfl (.cells (aD.c<|aD.c<|aD.c<|aD.nil))<|.kept rfl (.row aD.pure)<|.kept rfl (.fj rfl (df _ _))<|.nil) rfl rfl (aZ ?_)
      refine az (.v (aS rfl) rfl<|.a 1 rfl<|.k [1,6,8,54,55,56] rfl) ?_
      refine⟨(bJ T m).length - (i+1),by omega,i+1,by omega,rfl,?_⟩
      rw[hstep]
      first
       |rfl
       |(simp only[List.length_append,List.length_singleton];rfl)
     ·rw[hcd,if_neg (by simp),List.append_nil]at hstep
      refine ak<|az (.v (aS rfl) rfl<|.a 1 rfl<|.k [1,6,8,54,55,56] rfl) ?_
      refine⟨(bJ T m).length - (i+1),by omega,i+1,by omega,rfl,?_⟩
      rw[hstep]
      first
       |rfl
       |(simp only[List.length_append,List.length_singleton];rfl)
    ·have hie:i=(bJ T m).length:=by have:=of_decide_eq_false hc;omega
     subst hie
     refine bg<|aQ<|bE (fv (ys:=[num m,.own 2,.own 3]) rfl (bI.tk.get rfl) rfl rfl rfl rfl) rfl<|au 2 rfl<|aH [6,7] rfl ?_
     refine aq<|⟨_,ay.of rfl,rfl,?_⟩
     have hjN:T.nodes.toNat=j:=by omega
     rw[List.take_length,Int.toNat_natCast,hjN]
     rfl
def jC(e:Int)(x:ee):PV:=.tuple [fN (if e=0 then x else⟨0,[],[]⟩),num e]
theorem oO{T:ai}{D:List Bool}{n d:Int}(hv:ao T=true)(hf:bP T D=true)(hn:bn T n=true)(hd:bn T d=true):cc T D n d=0:=by
 unfold cc cw
 rw[hv,hf,hn]
 simp[hd]
def iQ(M:List Bool)(T:ai)(n:Int)(k:Nat):List Int:=((List.range k).filter fun a=>aM M a&&decide (bb T a=n)).map Int.ofNat
def gw(T:ai)(M:List Bool)(n:Int)(k:Nat):List Bool:=(List.range (2*T.af.length)).map fun a=>decide (a<k)&&(aM M a&&decide (bb T a=n))
theorem FR(M:List Bool)(T:ai)(n:Int):iQ M T n (2*T.af.length)=cF M (bJ T n):=by
 unfold iQ cF bJ iy
 rw[List.filter_map,List.filter_filter]
 congr 1
theorem EW(M:List Bool)(T:ai)(n:Int)(k:Nat):(iQ M T n k).length≤k:=by
 unfold iQ
 rw[List.length_map]
 exact Nat.le_trans (List.length_filter_le _ _) (by simp)
theorem GB{M:List Bool}{T:ai}{n:Int}{k:Nat}(h:(aM M k&&decide (bb T k=n))=true):iQ M T n (k+1)=iQ M T n k++[(k:Int)]:=by
 simp only[iQ,List.range_succ,List.filter_append,List.map_append]
 rw[List.filter_cons_of_pos (by simpa using h)]
 rfl
theorem HP{M:List Bool}{T:ai}{n:Int}{k:Nat}(h:(aM M k&&decide (bb T k=n))=false):iQ M T n (k+1)=iQ M T n k:=by
 simp only[iQ,List.range_succ,List.filter_append,List.map_append]
 rw[List.filter_cons_of_neg (by simpa using h)]
 simp
theorem Ab(T:ai)(M:List Bool)(n:Int)(k:Nat):(gw T M n k).length=2*T.af.length:=by simp[gw]
theorem xO(T:ai)(M:List Bool)(n:Int):gw T M n 0=List.replicate (2*T.af.length) false:=by
 unfold gw
 apply List.ext_getElem (by simp)
 intro i h1 h2
 simp
theorem Bq{T:ai}{M:List Bool}{n:Int}{k:Nat}(h:(aM M k&&decide (bb T k=n))=true):(gw T M n k).set k true=gw T M n (k+1):=by
 apply List.ext_getElem (by simp[gw])
 intro i h1 h2
 rw[List.getElem_set]
 by_cases e:k=i
 ·subst e
  simp only[gw,List.getElem_map,List.getElem_range,if_true]
  rw[h,decide_eq_true (by omega)];rfl
 ·rw[if_neg e]
  simp only[gw,List.getElem_map,List.getElem_range]
  rw[show decide (i<k+1)=decide (i<k) from decide_eq_decide.2 (by omega)]
theorem Cv{T:ai}{M:List Bool}{n:Int}{k:Nat}(h:(aM M k&&decide (bb T k=n))=false):gw T M n (k+1)=gw T M n k:=by
 unfold gw
 refine List.map_congr_left fun a _=>?_
 by_cases e:a=k
 ·subst e;rw[h];simp
 ·rw[show decide (a<k+1)=decide (a<k) from decide_eq_decide.2 (by omega)]
theorem AZ(T:ai)(M:List Bool)(n:Int):gw T M n (2*T.af.length)=fE T M n:=by
 unfold gw fE
 refine List.map_congr_left fun a ha=>?_
 rw[decide_eq_true (List.mem_range.1 ha),Bool.true_and]
theorem eO{M:List Bool}{a:Nat}:M.getD a false=aM M a:=by
 unfold aM
 by_cases h:M.length=0
 ·have:M=[]:=List.eq_nil_of_length_eq_zero h
  subst this;simp
 ·first
   |rfl
   |simp[h]
theorem AQ(T:ai)(k x n:Int)(hm:(ao T&&bV T k x)=true):Can Tryz.prog 95 [aP T,bU k x,num n] (· = .tuple [aw (cF (aG T k x) (bJ T n)),aY (fE T (aG T k x) n)]):=by
 obtain⟨hv,hc⟩:=Bool.and_eq_true_iff.1 hm
 have hll:=bO hv
 have hmk:=lL T k x
 unfold iu dL at hmk
 rw[if_pos hm,if_pos rfl]at hmk
 obtain⟨M,hM⟩:∃M,aG T k x=M:=⟨_,rfl⟩
 have hMl:M.length=2*T.af.length:=by rw[←hM];exact eN T k x
 rw[hM]at hmk ⊢
 refine aE Tryz.func95 rfl Tryz.ntmps95 rfl<|ab (.a 4 rfl<|.k [2,3,4] rfl)<|ab (.a 2 rfl<|.c rfl (hmk) rfl<|.a 5 rfl<|.k [2,3,8] rfl)<|aQ<|au 2 rfl<|cn (dD rfl (bI.rk.get rfl) rfl rfl (show(M.length:Int)=((2*T.af.length:Nat):Int) by omega) (show(M.length:Int)=((2*T.af.length:Nat):Int) by omega) ⟨by unfold maxLen;omega,by omega⟩) rfl<|au 1 rfl<|aH [2,3,8,10] rfl ?_
 refine ab (.a 1 rfl<|.k [2,3,8,10,11] rfl)<|gQ 11 3 1 rfl ?_
 refine ej (σ':=[some (.row 4 1 (2*T.af.length) (bQ (gw T M n 0))),some (.row 3 1 0 [])]) (by rw[xO,←gT];rfl) ?_
 refine aj<|ab (.a 1 rfl<|.k [2,3,8,10,11,12] rfl)<|av<|ft [2,3,8,10,11,12] rfl<|br (fun r st=>∃a:Nat,a≤2*T.af.length∧r=2*T.af.length - a∧st=⟨[(2,num n),(3,.aX (bx T) 0),(8,aY M),(10,.own 0),(11,.own 1),(12,num a)],[some (.row 4 1 (2*T.af.length) (bQ (gw T M n a))),some (.row 3 1 (iQ M T n a).length (aO (iQ M T n a)))]⟩) (2*T.af.length) ⟨0,by omega,by omega,rfl⟩ ?_
 rintro r st ⟨a,ha,rfl,rfl⟩
 refine aj<|ab (.a 4 rfl<|.k [2,3,8,10,11,12,25] rfl)<|ah rfl (fun h1=>?_) (fun h1=>?_)
 ·have hlt:a<2*T.af.length:=by have:=tt h1;omega
  have hal:(gw T M n a).length=2*T.af.length:=Ab T M n a
  have hdl:(iQ M T n a).length≤512:=Nat.le_trans (EW M T n a) (by omega)
  refine ak<|aj<|av ?_
  obtain⟨c1,hc1⟩:∃q,aM M a=q:=⟨_,rfl⟩
  obtain⟨c2,hc2⟩:∃q,decide (bb T a=n)=q:=⟨_,rfl⟩
  refine bp 38 (.raw (.bool (c1&&c2))) [2,3,8,10,11,12] rfl ?_ ?_
  ·refine .a 2 rfl<|.v (aL (a) rfl) rfl<|.v (aN rfl (show _=some (flag c1) by rw[cV _ a (by omega),eO,hc1])) rfl<|.a 1 rfl<|?_
   cases c1
   ·exact .a 6 rfl<|.k [38,2,3,8,10,11,12] rfl
   ·exact .a 2 rfl<|.c rfl (gC T hv a hlt) rfl<|.a 1 rfl<|.v (cb rfl (hc2)) rfl<|.a 1 rfl<|.k [38,2,3,8,10,11,12] rfl
  refine ah rfl (fun h2=>?_) (fun h2=>?_)
  ·have h2:(aM M a&&decide (bb T a=n))=true:=by rw[hc1,hc2];exact h2
   have hs1:=GB h2
   have hs2:=Bq h2
   refine aQ<|au 3 rfl<|cn (bA rfl (bI.rk.get rfl) rfl rfl rfl rfl (by unfold maxLen;omega)) rfl<|au 1 rfl ?_
   refine ep [0,2] (.c 2<|.c 3<|.c 8<|.c 10<|.c 11<|.c 12<|.nil) (.kept rfl (.row aD.pure)<|.kept rfl (.fj rfl (df _ _))<|.nil) rfl rfl (aZ ?_)
   refine bF<|au 2 rfl<|bE (aL (a) rfl) rfl<|bc ((by first|exact bC rfl (bI.tk.get rfl) rfl rfl rfl (by first|omega|(simp;omega))|exact aW rfl (bI.tk.get rfl) rfl rfl rfl (by first|omega|(simp;omega)))) rfl rfl<|aH [2,3,8,10,11,12] rfl ?_
   refine ej (σ':=[some (.row 4 1 (2*T.af.length) (bQ (gw T M n (a+1)))),some (.row 3 1 (iQ M T n (a+1)).length (aO (iQ M T n (a+1))))]) (by rw[←hs2,hs1,List.length_append];rfl) ?_
   refine az (.a 1 rfl<|.v (aS rfl) rfl<|.a 1 rfl<|.k [2,3,8,10,11,12] rfl) ?_
   first
    |exact⟨2*T.af.length - (a+1),by omega,a+1,by omega,rfl,rfl⟩
    |exact⟨2*T.af.length - (a+1),by omega,a+1,by omega,rfl,by rw[hs1,hs2];rfl⟩
  ·have h2:(aM M a&&decide (bb T a=n))=false:=by rw[hc1,hc2];exact h2
   have hs1:=HP h2
   have hs2:=Cv h2
   refine ak<|az (.a 1 rfl<|.v (aS rfl) rfl<|.a 1 rfl<|.k [2,3,8,10,11,12] rfl) ?_
   first
    |exact⟨2*T.af.length - (a+1),by omega,a+1,by omega,rfl,rfl⟩
    |exact⟨2*T.af.length - (a+1),by omega,a+1,by omega,rfl,by rw[hs1,hs2];rfl⟩
 ·have hae:a=2*T.af.length:=by have:=ff h1;omega
  subst hae
  refine bg<|ab (.a 4 rfl<|.k [6,7] rfl)<|aq<|⟨_,_,ay.of rfl,aB.bG (an.cons (aB.ew rfl an.pure) (an.cons (aB.ew rfl an.pure) an.nil)),?_⟩
  rw[FR,AZ]
  unfold aw aY
  rw[show(fE T M n).length=2*T.af.length by simp[fE]]
end PW
end Go.Proofs.YtnegbdpggideiaaGreatDoor
namespace Go.Proofs.YtnegbdpggideiaaGreatDoor
namespace PW
open Go.RowKit cB Mem
structure GD where
 p:PV
 r:Option Nat
 lo:Nat
 hi:Nat
section
variable {P:Program} {N L:Nat}
inductive GK (P:Program) (N:Nat) (ops:Array Oper) (σs:List cd) (T:bY) (o:Oper):GD→Prop
 |val {p:PV} {d lo hi:Nat} (ks:List Nat) (hks:(ks.all fun k=>(o.looksAt ops).contains k)=true) (hw:eK ops T o=some true) (hy:∀r σ,lo≤r→r≤hi→σs[r]? =some σ→bm P σ (gj T ks) o p) (hd:o.dst=some d) (hN:Nat.blt d N=true):GK P N ops σs T o ⟨p,none,lo,hi⟩
 |skip {d lo hi:Nat} (hw:eK ops T o=some false) (hd:o.dst=some d) (hN:Nat.blt d N=true):GK P N ops σs T o ⟨.raw undef,none,lo,hi⟩
 |Ep {p:PV} {d r lo hi:Nat} {σ σ':cd} (ks:List Nat) (hks:(ks.all fun k=>(o.looksAt ops).contains k)=true) (hw:eK ops T o=some true) (h1:σs[r]? =some σ) (h2:σs[r+1]? =some σ') (hy:cJ P σ (gj T ks) o p σ') (hd:o.dst=some d) (hN:Nat.blt d N=true):GK P N ops σs T o ⟨p,some r,lo,hi⟩
 |lh {p:PV} {r lo hi:Nat} {σ σ':cd} (ks:List Nat) (hks:(ks.all fun k=>(o.looksAt ops).contains k)=true) (hw:eK ops T o=some true) (h1:σs[r]? =some σ) (h2:σs[r+1]? =some σ') (hy:cJ P σ (gj T ks) o p σ') (hd:o.dst=none):GK P N ops σs T o ⟨p,some r,lo,hi⟩
inductive GL (P:Program) (N:Nat) (ops:Array Oper) (σs:List cd) (T:bY):List Oper→List GD→Prop
 |nil:GL P N ops σs T [] []
 |cons {o:Oper} {g:GD} {l:List Oper} {gs:List GD}:GK P N ops σs T o g→GL P N ops σs T l gs→GL P N ops σs T (o::l) (g::gs)
theorem GL.get{ops:Array Oper}{σs:List cd}{T:bY}:∀ {l:List Oper} {gs:List GD},GL P N ops σs T l gs→gs.length=l.length∧∀(i:Nat) o g,l[i]? =some o→gs[i]? =some g→GK P N ops σs T o g
 |_,_,.nil=>⟨rfl,fun i o g h=>by simp at h⟩
 |_,_,.cons h hs=>by
  obtain⟨h1,h2⟩:=hs.get
  refine⟨by simp[h1],fun i o g ho hg=>?_⟩
  cases i with
  |zero=>simp at ho hg;subst ho;subst hg;exact h
  |succ i=>exact h2 i o g (by simpa using ho) (by simpa using hg)
def jN(gs:List GD)(i:Nat):Option Nat:=(gs[i]?).bind (·.r)
def F9(ops:Array Oper)(f m:Nat)(gs:List GD):Bool:=
  Nat.beq gs.length ops.size&&
  ((List.range ops.size).all fun i=>(lD ops i).all fun k=>decide (k<i))&&
  ((List.range ops.size).all fun i=>(List.range i).all fun j=>(cm ops i).isNone||cm ops i !=cm ops j)&&
  ((List.range ops.size).all fun j=>(dV ops j).all fun k=>(List.range ops.size).all fun i=>cm ops i !=some k||eR ops f j i)&&
  ((List.range ops.size).all fun i => match gs[i]? with
    |some ⟨_,some r,_,_⟩=>decide (r<m)&&(Nat.beq r 0||(List.range ops.size).any fun j=>jN gs j==some (r - 1)&&eR ops f i j)
    |some ⟨_,none,lo,hi⟩=>(Nat.beq lo 0||(List.range ops.size).any fun j=>jN gs j==some (lo - 1)&&eR ops f i j)&&(Nat.ble m hi||(List.range ops.size).any fun j=>jN gs j==some hi&&eR ops f j i)
    |none=>false)&&
  ((List.range ops.size).all fun i=>(List.range i).all fun j=>(jN gs i).isNone||jN gs i !=jN gs j)&&
  ((List.range m).all fun r=>(List.range ops.size).any fun j=>jN gs j==some r)
structure I1 (ops:Array Oper) (f m:Nat) (gs:List GD):Prop where
 len:gs.length=ops.size
 lD:∀i,i<ops.size→∀k∈lD ops i,k<i
 ss:∀i j d,i<ops.size→j<ops.size→cm ops i=some d→cm ops j=some d→i=j
 rd:∀j,j<ops.size→∀k∈dV ops j,∀i,i<ops.size→cm ops i=some k→eR ops f j i=true
 Ep:∀(i:Nat) g r,gs[i]? =some g→g.r=some r→r<m∧(r=0∨∃j,j<ops.size∧jN gs j=some (r - 1)∧eR ops f i j=true)
 quiet:∀(i:Nat) g,gs[i]? =some g→g.r=none→(g.lo=0∨∃j,j<ops.size∧jN gs j=some (g.lo - 1)∧eR ops f i j=true)∧(m≤g.hi∨∃j,j<ops.size∧jN gs j=some g.hi∧eR ops f j i=true)
 one:∀i j r,i<ops.size→j<ops.size→jN gs i=some r→jN gs j=some r→i=j
 has:∀r,r<m→∃j,j<ops.size∧jN gs j=some r
theorem Dt{ops:Array Oper}{f m:Nat}{gs:List GD}(h:F9 ops f m gs=true):I1 ops f m gs:=by
 unfold F9 at h
 simp only[Bool.and_eq_true]at h
 obtain⟨⟨⟨⟨⟨⟨h1,h2⟩,h3⟩,h4⟩,h5⟩,h6⟩,h7⟩:=h
 have hl:gs.length=ops.size:=Nat.eq_of_beq_eq_true h1
 have all:∀ {n:Nat} {p:Nat→Bool},(List.range n).all p=true→∀i,i<n→p i=true:=fun h i hi=>List.all_eq_true.1 h i (List.mem_range.2 hi)
 have any:∀ {n:Nat} {p:Nat→Bool},(List.range n).any p=true→∃i,i<n∧p i=true:=fun h=>by
  obtain⟨i,hi,hp⟩:=List.any_eq_true.1 h
  exact⟨i,List.mem_range.1 hi,hp⟩
 have s3:∀i j d,i<ops.size→j<i→cm ops i=some d→cm ops j=some d→False:=fun i j d hi hj e1 e2=>by
  have:=all (all h3 i hi) j hj
  rw[e1,e2]at this
  simp at this
 have s6:∀i j r,i<ops.size→j<i→jN gs i=some r→jN gs j=some r→False:=fun i j r hi hj e1 e2=>by
  have:=all (all h6 i hi) j hj
  rw[e1,e2]at this
  simp at this
 refine⟨hl,fun i hi k hk=>?_,fun i j d hi hj e1 e2=>?_,fun j hj k hk i hi hd=>?_,fun i g r hg hr=>?_,fun i g hg hr=>?_,fun i j r hi hj e1 e2=>?_,fun r hr=>?_⟩
 ·have:=List.all_eq_true.1 (all h2 i hi) k hk;simpa using this
 ·rcases Nat.lt_trichotomy i j with h|h|h
  ·exact(s3 j i d hj h e2 e1).elim
  ·exact h
  ·exact(s3 i j d hi h e1 e2).elim
 ·have:=all (List.all_eq_true.1 (all h4 j hj) k hk) i hi
  rw[hd]at this
  simpa using this
 ·have hi:i<ops.size:=by rw[←hl];exact(List.getElem?_eq_some_iff.1 hg).1
  have:=all h5 i hi
  obtain⟨p,r',lo,hi'⟩:=g
  simp only at hr
  subst hr
  rw[hg]at this
  simp only[Bool.and_eq_true,decide_eq_true_eq,Bool.or_eq_true]at this
  refine⟨this.1,?_⟩
  rcases this.2 with h|h
  ·exact .inl (Nat.eq_of_beq_eq_true h)
  ·obtain⟨j,hj,h'⟩:=any h
   simp only[Bool.and_eq_true,beq_iff_eq]at h'
   exact .inr ⟨j,hj,h'.1,h'.2⟩
 ·have hi:i<ops.size:=by rw[←hl];exact(List.getElem?_eq_some_iff.1 hg).1
  have:=all h5 i hi
  obtain⟨p,r',lo,hi'⟩:=g
  simp only at hr
  subst hr
  rw[hg]at this
  simp only[Bool.and_eq_true,Bool.or_eq_true]at this
  refine⟨?_,?_⟩
  ·rcases this.1 with h|h
   ·exact .inl (Nat.eq_of_beq_eq_true h)
   ·obtain⟨j,hj,h'⟩:=any h
    simp only[Bool.and_eq_true,beq_iff_eq]at h'
    exact .inr ⟨j,hj,h'.1,h'.2⟩
  ·rcases this.2 with h|h
   ·exact .inl (Nat.ble_eq.mp h)
   ·obtain⟨j,hj,h'⟩:=any h
    simp only[Bool.and_eq_true,beq_iff_eq]at h'
    exact .inr ⟨j,hj,h'.1,h'.2⟩
 ·rcases Nat.lt_trichotomy i j with h|h|h
  ·exact(s6 j i r hj h e2 e1).elim
  ·exact h
  ·exact(s6 i j r hi h e1 e2).elim
 ·obtain⟨j,hj,h⟩:=any (all h7 r hr)
  exact⟨j,hj,by simpa using h⟩
structure FI (base N:Nat) (F:Nat→Prop) (l:List Oper) (gs:List GD) (σs:List cd) (t:bY) (ls:Array Bool) (r:Nat) (E:Env) (a:Act) (w:World):Prop where
 size:ls.size=l.length
 down:Down l.toArray ls
 rk:∀i s,i<l.length→jN gs i=some s→(ls.getD i true=true↔s<r)
 sat:∃σ,σs[r]? =some σ∧Sat F base σ E w
 j9:a.defers=[]
 tmps:a.tmps.size=N
 t0:dX E w a.eval t
 kM:∀j d g,j<l.length→ls.getD j true=true→cm l.toArray j=some d→gs[j]? =some g→cD E w (a.eval (.tmp d)) g.p
theorem yl(ls:Array Bool)(i j:Nat)(b:Bool)(hi:i<ls.size):(ls.setIfInBounds i true).getD j b=if j=i then true else ls.getD j b:=by
 by_cases e:j=i
 ·subst e;simp[hi]
 ·rw[if_neg e]
  simp only[Array.getD_eq_getD_getElem?,Array.getElem?_setIfInBounds_ne (Ne.symm e)]
theorem CW{ls:Array Bool}{i:Nat}(hi:i<ls.size)(b c:Bool):ls.getD i b=ls.getD i c:=by simp[hi]
section
variable {l:List Oper} {gs:List GD} {σs:List cd} {t T:bY} {f m base:Nat} {F:Nat→Prop}
theorem FI.reach(hG:I1 l.toArray f m gs){ls:Array Bool}{r:Nat}{E:Env}{a:Act}{w:World}(h:FI base N F l gs σs t ls r E a w){i j:Nat}(hi:i<l.length)(hr:eR l.toArray f i j=true)(hk:∀k∈lD l.toArray i,ls.getD k false=true):ls.getD j true=true:=by
 have:=dW (by rw[h.size];simp) h.down (fun i hi=>hG.lD i hi) f i j (by simpa using hi) hr hk
 by_cases hj:j<ls.size
 ·rw[CW hj true false];exact this
 ·simp[hj]
theorem FI.looks(hG:I1 l.toArray f m gs)(hT:mP l (gs.map (·.p)) t=T){ls:Array Bool}{r:Nat}{E:Env}{a:Act}{w:World}(h:FI base N F l gs σs t ls r E a w){i:Nat}(hi:i<l.length)(hk:∀k∈lD l.toArray i,ls.getD k false=true):
  ∀k∈dV l.toArray i,∀p,look k T=some p→cD E w (a.eval (.tmp k)) p:=fun k hks p hp=>by
 rw[←hT]at hp
 rcases lx _ _ _ k p hp with⟨j,o,h1,h2,h3⟩|h'
 ·rw[List.getElem?_map,Option.map_eq_some_iff]at h3
  obtain⟨g,hg,rfl⟩:=h3
  have hj:j<l.length:=(List.getElem?_eq_some_iff.1 h1).1
  have hd:cm l.toArray j=some k:=by simp only[cm,List.getElem?_toArray,h1,Option.bind_some,h2]
  have hr:=hG.rd i (by simpa using hi) k hks j (by simpa using hj) hd
  exact h.kM j k g hj (h.reach hG hi hr hk) hd hg
 ·exact h.t0 k p h'
theorem FI.put(hG:I1 l.toArray f m gs)(hfr:∀i d,i<l.length→cm l.toArray i=some d→look d t=none){ls:Array Bool}{r r':Nat}{E E':Env}{a:Act}{w w':World}(h:FI base N F l gs σs t ls r E a w){i:Nat}{g:GD}{v:Value}(hi:i<l.length)(hu:ls.getD i true=false)(hk:∀k∈lD l.toArray i,ls.getD k false=true)(hg:gs[i]? =some g)(hgo:cQ E w E' w')
  (hs:∃σ,σs[r']? =some σ∧Sat F base σ E' w') (hr:(g.r=none∧r'=r)∨(g.r=some r∧r'=r+1)) {o:Oper} (ho:l[i]? =some o) (hdN:∀d,o.dst=some d→d<N) (hv:∀d,o.dst=some d→cD E' w' v g.p):
  FI base N F l gs σs t (ls.setIfInBounds i true) r' E' (a.put o.dst v) w':=by
 have hil:i<ls.size:=by rw[h.size];exact hi
 have hrk:jN gs i=g.r:=by simp only[jN,hg,Option.bind_some]
 have hdi:cm l.toArray i=o.dst:=by simp only[cm,List.getElem?_toArray,ho,Option.bind_some]
 refine⟨by simpa using h.size,fun j hj hjs k hkj=>?_,fun j s hj hs'=>?_,hs,by cases o.dst<;>simpa[Act.put]using h.j9,by cases o.dst<;>simpa[Act.put]using h.tmps,fun k p hkp=>?_,fun j d g' hj hjl hd hg'=>?_⟩
 ·rw[yl _ _ _ _ hil]at hj ⊢
  split
  ·rfl
  ·by_cases e:j=i
   ·subst e;exact hk k hkj
   ·rw[if_neg e]at hj
    exact h.down j hj hjs k hkj
 ·rw[yl _ _ _ _ hil]
  by_cases e:j=i
  ·subst e
   rw[if_pos rfl]
   rw[hrk]at hs'
   rcases hr with⟨h1,_⟩|⟨h1,h2⟩
   ·rw[h1]at hs';cases hs'
   ·rw[h1]at hs';cases hs';exact⟨fun _=>by omega,fun _=>rfl⟩
  ·rw[if_neg e,h.rk j s hj hs']
   rcases hr with⟨_,h2⟩|⟨h1,h2⟩
   ·rw[h2]
   ·have:s≠r:=fun e'=>e (hG.one j i r (by simpa using hj) (by simpa using hi) (by rw[hs',e']) (by rw[hrk,h1]))
    omega
 ·have hne:∀d,o.dst=some d→k≠d:=fun d hd e=>by
   subst e
   rw[hfr i k hi (by rw[hdi,hd])]at hkp;cases hkp
  have:(a.put o.dst v).eval (.tmp k)=a.eval (.tmp k):=Act.eval_put fun d hd heq=>by cases heq;exact hne _ hd rfl
  rw[this]
  exact(h.t0 k p hkp).goes hgo
 ·rw[yl _ _ _ _ hil]at hjl
  by_cases e:j=i
  ·subst e
   rw[hdi]at hd
   rw[hg]at hg';cases hg'
   rw[hd,jd a (by rw[h.tmps];exact hdN d hd),if_pos rfl]
   exact hv d hd
  ·rw[if_neg e]at hjl
   have hne:∀d',o.dst=some d'→d≠d':=fun d' hd' e'=>by
    subst e'
    exact e (hG.ss j i d (by simpa using hj) (by simpa using hi) hd (by rw[hdi,hd']))
   have:(a.put o.dst v).eval (.tmp d)=a.eval (.tmp d):=Act.eval_put fun d' hd' heq=>by cases heq;exact hne _ hd' rfl
   rw[this]
   exact(h.kM j d g' hj hjl hd hg').goes hgo
theorem Gi(hG:I1 l.toArray f m gs)(hT:mP l (gs.map (·.p)) t=T)(hfr:∀i d,i<l.length→cm l.toArray i=some d→look d t=none)(hL:GL P N l.toArray σs T l gs){σm:cd}(hm:σs[m]? =some σm){Q:Exit→Act→World→Prop}{E₀:Env}{w₀:World}(hq:∀a' w' E',Sat F base σm E' w'→dX E' w' a'.eval T→a'.defers=[]→a'.tmps.size=N→cQ E₀ w₀ E' w'→Below base w₀ w'→Q .normal a' w'):
  ∀(fuel:Nat) (ls:Array Bool) (r:Nat) (E:Env) (a:Act) (w:World),FI base N F l gs σs t ls r E a w→bM ls l.length=fuel→cQ E₀ w₀ E w→Below base w₀ w→r≤m→wpAny P .any l.toArray Q fuel ls a w:=by
 obtain⟨hgl,hget⟩:=hL.get
 intro fuel
 induction fuel with
 |zero=>
  intro ls r E a w h hu hgo hb hrm
  have hall:=cU hu
  have hrm':r=m:=by
   rcases Nat.lt_or_ge r m with h'|h'
   ·obtain⟨j,hj,hjr⟩:=hG.has r h'
    have hj:j<l.length:=by simpa using hj
    have:=(h.rk j r hj hjr).1 (hall j hj)
    omega
   ·omega
  subst hrm'
  refine⟨List.eq_nil_iff_forall_not_mem.2 fun i hi=>?_,?_⟩
  ·obtain⟨h1,h2,_⟩:=cz.1 hi
   rw[hall i (by simpa using h1)]at h2;cases h2
  ·obtain⟨σ,hσ,hs⟩:=h.sat
   rw[hm]at hσ;cases hσ
   refine hq a w E hs (fun k p hkp=>?_) h.j9 h.tmps hgo hb
   rw[←hT]at hkp
   rcases lx _ _ _ k p hkp with⟨j,o,h1,h2,h3⟩|h'
   ·rw[List.getElem?_map,Option.map_eq_some_iff]at h3
    obtain⟨g,hg,rfl⟩:=h3
    have hj:j<l.length:=(List.getElem?_eq_some_iff.1 h1).1
    exact h.kM j k g hj (hall j hj) (by simp only[cm,List.getElem?_toArray,h1,Option.bind_some,h2]) hg
   ·exact h.t0 k p h'
 |succ fuel ih=>
  intro ls r E a w h hu hgo hb hrm
  obtain⟨i0,hi0,hi1,hi2⟩:=fw (ls:=ls) (m:=l.length) (by omega)
  have hi0r:i0∈Region.ready .any l.toArray ls:=cz.2 ⟨by simpa using hi0,hi1,fun k hk=>by
   have:=hG.lD i0 (by simpa using hi0) k hk
   rw[CW (by rw[h.size];omega) false true];exact hi2 k this⟩
  refine⟨fun h0=>absurd hi0r (by rw[h0];simp),fun i hi=>?_⟩
  obtain⟨h1,h2,h3⟩:=cz.1 hi
  have hil:i<l.length:=by simpa using h1
  have ho:l[i]? =some l[i]:=by simp[hil]
  have hgi:gs[i]? =some (gs[i]'(by omega)):=by simp
  have hK:=hget i _ _ ho hgi
  generalize hgg:gs[i]'(by omega)=g at hgi hK
  generalize hoo:l[i]=o at ho hK
  have hlk:=h.looks hG hT hil h3
  have hlo:dV l.toArray i=o.looksAt l.toArray:=by simp only[dV,List.getElem?_toArray,ho]
  rw[hlo]at hlk
  have hpk:∀ks:List Nat,(ks.all fun k=>(o.looksAt l.toArray).contains k)=true→dX E w a.eval (gj T ks):=fun ks hks k p hkp=>by
   obtain⟨e1,e2⟩:=iJ ks k p hkp
   exact hlk k (by have:=List.all_eq_true.1 hks k e1;simpa using this) p e2
  have hwant:∀b,eK l.toArray T o=some b→Region.wanted o (yielded l.toArray a.tmps)=b:=fun b hb=>by
   rw[iD];exact ld (fun k hk p hp=>hlk k hk p hp) hb
  have hun:bM (ls.setIfInBounds i true) l.length=fuel:=by have:=fu h2 hil (by rw[h.size];omega);omega
  unfold wpOp
  have ho':l.toArray[i]? =some o:=by simpa using ho
  simp only[ho']
  have hrk:jN gs i=g.r:=by simp only[jN,hgi,Option.bind_some]
  cases hK with
  | @val p d lo hi ks hks hw hy hd hN=>
   rw[hwant true hw,if_pos rfl]
   left
   obtain⟨σ,hσ,hs⟩:=h.sat
   obtain⟨q1,q2⟩:=hG.quiet i _ hgi rfl
   have hlo':lo≤r:=by
    rcases q1 with e|⟨j,hj,hj1,hj2⟩
    ·simp only at e;omega
    ·have:=(h.rk j _ (by simpa using hj) hj1).1 (h.reach hG hil hj2 h3)
     simp only at this;omega
   have hhi':r≤hi:=by
    rcases q2 with e|⟨j,hj,hj1,hj2⟩
    ·simp only at e;omega
    ·rcases Nat.lt_or_ge hi r with h'|h'
     ·have hjl:j<l.length:=by simpa using hj
      have e1:=(h.rk j _ hjl hj1).2 h'
      have e2:=h.reach hG hjl hj2 (h.down j e1 hj)
      rw[h2]at e2;cases e2
     ·exact h'
   refine pH (hy r σ hlo' hhi' hσ F base E a.eval w (gi a) hs (hpk ks hks)) fun v w' hE hv=>?_
   exact ih _ r E _ w' (h.put hG hfr hil h2 h3 hgi (.ext hE) ⟨σ,hσ,hs.ext hE⟩ (.inl ⟨rfl,rfl⟩) ho (fun d' hd'=>by rw[hd]at hd';cases hd';exact Nat.blt_eq.mp hN) (fun _ _=>hv)) hun (hgo.trans (.ext hE)) (hb.trans (Below.iv hE hs.bl)) hrm
  | @skip d lo hi hw hd hN=>
   rw[hwant false hw,if_neg (by simp)]
   exact ih _ r E _ w (h.put hG hfr hil h2 h3 hgi (cQ.refl _ _) h.sat (.inl ⟨rfl,rfl⟩) ho (fun d' hd'=>by rw[hd]at hd';cases hd';exact Nat.blt_eq.mp hN) (fun _ _=>.raw _)) hun hgo hb hrm
  | @Ep p d r0 lo hi σ σ' ks hks hw e1 e2 hy hd hN=>
   rw[hwant true hw,if_pos rfl]
   left
   obtain⟨q1,q2⟩:=hG.Ep i _ r0 hgi rfl
   have hr0:r0=r:=by
    have n1:¬r0<r:=fun h'=>by
     have:=(h.rk i r0 hil hrk).2 h'
     rw[h2]at this;cases this
    rcases q2 with e|⟨j,hj,hj1,hj2⟩
    ·omega
    ·have:=(h.rk j _ (by simpa using hj) hj1).1 (h.reach hG hil hj2 h3)
     omega
   subst hr0
   obtain⟨σ0,hσ,hs⟩:=h.sat
   rw[e1]at hσ;cases hσ
   obtain⟨v,w',E',hr,k1,k2,k3,k4⟩:=hy F base E a.eval w (gi a) hs (hpk ks hks)
   have hn':=ih _ (r0+1) E' (a.put o.dst v) w' (h.put hG hfr hil h2 h3 hgi k2 ⟨σ',e2,k1⟩ (.inr ⟨rfl,rfl⟩) ho (fun d' hd'=>by rw[hd]at hd';cases hd';exact Nat.blt_eq.mp hN) (fun _ _=>k4)) hun (hgo.trans k2) (hb.trans k3) (by omega)
   unfold Oper.wp
   rcases hr with hr|⟨rfl,hr⟩
   ·rw[hr];exact hn'
   ·rw[hr];exact hn'
  | @lh p r0 lo hi σ σ' ks hks hw e1 e2 hy hd=>
   rw[hwant true hw,if_pos rfl]
   left
   obtain⟨q1,q2⟩:=hG.Ep i _ r0 hgi rfl
   have hr0:r0=r:=by
    have n1:¬r0<r:=fun h'=>by
     have:=(h.rk i r0 hil hrk).2 h'
     rw[h2]at this;cases this
    rcases q2 with e|⟨j,hj,hj1,hj2⟩
    ·omega
    ·have:=(h.rk j _ (by simpa using hj) hj1).1 (h.reach hG hil hj2 h3)
     omega
   subst hr0
   obtain⟨σ0,hσ,hs⟩:=h.sat
   rw[e1]at hσ;cases hσ
   obtain⟨v,w',E',hr,k1,k2,k3,k4⟩:=hy F base E a.eval w (gi a) hs (hpk ks hks)
   have hn':=ih _ (r0+1) E' (a.put o.dst v) w' (h.put hG hfr hil h2 h3 hgi k2 ⟨σ',e2,k1⟩ (.inr ⟨rfl,rfl⟩) ho (fun d' hd'=>by rw[hd]at hd';cases hd') (fun d' hd'=>by rw[hd]at hd';cases hd')) hun (hgo.trans k2) (hb.trans k3) (by omega)
   unfold Oper.wp
   rcases hr with hr|⟨rfl,hr⟩
   ·rw[hr];exact hn'
   ·rw[hr];exact hn'
end
theorem nJ:∀(n k:Nat),k≤n→bM (Array.replicate n false) k=k
 |n,0,_=>rfl
 |n,k+1,h=>by
  simp only[bM]
  rw[nJ n k (by omega)]
  simp[show k<n by omega]
theorem qw{id:Nat}{l:List Oper}{t t':bY}{σ σm:cd}{Q:Exit→St→Prop}(f m:Nat)(σs:List cd)(gs:List GD)(T:bY)(hm:P.follows .mixedOrders=true)(hB:F9 l.toArray f m gs=true)(hT:mP l (gs.map (·.p)) t=T)(hfr:(l.all fun o=>o.dst.all fun d=>(look d t).isNone)=true)(h0:σs[0]? =some σ)(h1:σs[m]? =some σm)
  (hL:GL P N l.toArray σs T l gs) (hsub:Sub T t') (hq:Q .normal ⟨t',σm⟩):W P N L (.region id l.toArray true) ⟨t,σ⟩ Q:=fun F base E₀ w₀ E a w hc hs=>by
 have hG:=Dt hB
 have hE:Ext w {w with drawn:=w.drawn+1}:=⟨rfl,rfl,rfl,Nat.le_refl _,fun _ _=>rfl⟩
 refine wp_region_any hm ?_
 have hfr':∀i d,i<l.length→cm l.toArray i=some d→look d t=none:=fun i d hi hd=>by
  have ho:l[i]? =some l[i]:=by simp[hi]
  simp only[cm,List.getElem?_toArray,ho,Option.bind_some]at hd
  have:=List.all_eq_true.1 hfr _ (List.mem_of_getElem? ho)
  rw[hd]at this
  simpa using this
 have hg0:FI base N F l gs σs t (Array.replicate l.length false) 0 E a {w with drawn:=w.drawn+1}:=by
  have hrep:∀i,i<l.length→(Array.replicate l.length false).getD i true=false:=fun i hi=>by simp[hi]
  refine⟨by simp,fun i hi hi'=>?_,fun i s hi _=>?_,⟨σ,h0,hs.sat.ext hE⟩,hs.j9,hs.size,hs.tmp.goes (.ext hE),fun j d g hj hjl=>?_⟩
  ·rw[hrep i (by simpa using hi')]at hi;cases hi
  ·rw[hrep i hi];simp
  ·rw[hrep j hj]at hjl;cases hjl
 have:=Gi (Q:=fun e a' w'=>o5 F base N E₀ w₀ (Q e) a' w') hG hT hfr' hL h1 (E₀:=E₀) (w₀:=w₀) (fun a' w' E' k1 k2 k3 k4 k5 k6=>⟨⟨t',σm⟩,E',hq,⟨k1,k2.sub hsub,k3,k4⟩,k5,k6⟩) l.length _ 0 E a _ hg0 (nJ _ _ (Nat.le_refl _)) (hc.g.trans (.ext hE)) (hc.b.trans (Below.iv hE hs.sat.bl)) (Nat.zero_le _)
 simpa using this
theorem Ce{id:Nat}{l:List Oper}{y:Code}{t t':bY}{σ σm:cd}{Q:Exit→St→Prop}(f m:Nat)(σs:List cd)(gs:List GD)(T:bY)(hm:P.follows .mixedOrders=true)(hB:F9 l.toArray f m gs=true)(hT:mP l (gs.map (·.p)) t=T)(hfr:(l.all fun o=>o.dst.all fun d=>(look d t).isNone)=true)(h0:σs[0]? =some σ)(h1:σs[m]? =some σm)
  (hL:GL P N l.toArray σs T l gs) (hsub:Sub T t') (hq:W P N L y ⟨t',σm⟩ Q):W P N L (.seq (.region id l.toArray true) y) ⟨t,σ⟩ Q:=aj (qw f m σs gs T hm hB hT hfr h0 h1 hL hsub hq)
theorem yz{P:Program}{σs:List cd}{t:bY}{o:Oper}{p:PV}{lo hi:Nat}(h:∀σ∈(σs.drop lo).take (hi+1 - lo),bm P σ t o p):∀r σ,lo≤r→r≤hi→σs[r]? =some σ→bm P σ t o p:=fun r σ h1 h2 hs=>by
 refine h σ (List.mem_of_getElem? (i:=r - lo) ?_)
 rw[List.getElem?_take,if_pos (by omega),List.getElem?_drop,show lo+(r - lo)=r by omega]
 exact hs
theorem dZ{α:Type}{p:α→Prop}:∀x∈([]:List α),p x:=fun _ h=>by cases h
theorem cW{α:Type}{p:α→Prop}{a:α}{l:List α}(h:p a)(hs:∀x∈l,p x):∀x∈a::l,p x:=fun x hx=>by
 rcases List.mem_cons.1 hx with rfl|h'
 ·exact h
 ·exact hs x h'
end
end PW
end Go.Proofs.YtnegbdpggideiaaGreatDoor
namespace Go.Proofs.YtnegbdpggideiaaGreatDoor
namespace PW
open Go.RowKit cB Mem Net eW
theorem H3{P:Program}{N L:Nat}{x:Code}{st:St}{Q:Exit→St→Prop}{Q1:St→Prop}(h:W P N L x st (G7 Q1))(k:∀s,Q1 s→Q .normal s):W P N L x st Q:=
 h.mono fun e s hq=>by cases e<;>first|exact k s hq|exact hq.elim
theorem AH{T:ai}(hv:ao T=true)(D:List Bool)(n d:Nat):(bz T D n d).length≤512:=by
 have hl:=bO hv
 unfold bz
 split
 ·simp
 ·exact Nat.le_trans (List.length_filter_le _ _) (Nat.le_trans (ek T n _) (by omega))
theorem mG(T:ai)(D:List Bool)(n d:Int):Can Tryz.prog 84 [aP T,aY D,num n,num d] (· =flag (gg T D n d)):=by
 obtain⟨q,hq⟩:∃q,decide (gv T D n d=0)=q:=⟨_,rfl⟩
 unfold gg
 rw[hq]
 exact aE Tryz.func84 rfl Tryz.ntmps84 rfl<|ab (.a 2 rfl<|.k [1,2,3,4] rfl)<|ab (.a 4 rfl<|.c rfl (w7 T D n d) rfl<|.a 5 rfl<|.k [10] rfl)<|ab (.a 1 rfl<|.v (cb rfl (hq)) rfl<|.a 1 rfl<|.k [8] rfl)<|aq<|⟨_,_,ay.of rfl,aB.pure,rfl⟩
def fP(T:ai)(k x:Int):List Bool:=if dL T k x=0 then aG T k x else []
theorem qt{T:ai}{k x:Int}(h:(ao T&&bV T k x)=true):fP T k x=aG T k x:=by
 unfold fP dL
 rw[if_pos h,if_pos rfl]
theorem nQ(T:ai)(k x n d:Int):Can Tryz.prog 98 [aP T,bU k x,num n,num d] (· =flag (gg T (fP T k x) n d)):=by
 have hmk:=lL T k x
 unfold iu at hmk
 exact aE Tryz.func98 rfl Tryz.ntmps98 rfl<|ab (.a 3 rfl<|.k [2,3,4,5] rfl)<|ab (.a 2 rfl<|.c rfl (hmk) rfl<|.a 5 rfl<|.k [2,3,4,9] rfl)<|ab (.a 4 rfl<|.c rfl (mG T (fP T k x) n d) rfl<|.a 1 rfl<|.k [8] rfl)<|aq<|⟨_,_,ay.of rfl,aB.pure,rfl⟩
theorem zE{T:ai}(hv:ao T=true){a:Nat}(ha:a<2*T.af.length)(h:0<fK T a):(ao T&&bV T 3 (fK T a))=true:=by
 have:=sP hv ha
 rw[hv]
 unfold bV
 simp only[if_neg (show ¬(3:Int)=1 by decide),if_neg (show ¬(3:Int)=2 by decide),if_true,Bool.true_and,Bool.and_eq_true,decide_eq_true_eq]
 exact⟨by omega,by omega⟩
theorem ve{T:ai}(hv:ao T=true){a:Nat}(ha:a<2*T.af.length):(ao T&&bV T 2 (aT T a))=true:=by
 obtain⟨h0,h1⟩:=(aK hv).head a ha
 rw[hv]
 unfold bV
 simp only[if_neg (show ¬(2:Int)=1 by decide),if_true,Bool.true_and]
 exact aV.2 ⟨h0,h1⟩
theorem A6(T:ai)(a:Nat)(d:Int)(hv:ao T=true)(ha:a<2*T.af.length)(hd:0≤d∧d<T.nodes):Can Tryz.prog 45 [aP T,num a,num d] (· = .tuple [bU (da T a d).1 (da T a d).2,num 0]):=by
 have hll:=bO hv
 have hi:a / 2<T.af.length:=by omega
 obtain⟨g,hg⟩:∃g,fK T a=g:=⟨_,rfl⟩
 obtain⟨h,hh⟩:∃h,aT T a=h:=⟨_,rfl⟩
 obtain⟨m,hm⟩:∃m,bb T a=m:=⟨_,rfl⟩
 have hgv:=zE hv ha
 have hnv:=ve hv ha
 have hrh:=gJ T hv a ha
 have hrt:=gC T hv a ha
 have hgl:(cu T.af (a / 2)).tm=g:=hg
 rw[hh]at hnv hrh
 rw[hg]at hgv
 rw[hm]at hrt
 obtain⟨c1,hc1⟩:∃q,decide (0<g)=q:=⟨_,rfl⟩
 obtain⟨c2,hc2⟩:∃q,gg T (fP T 3 g) m d=q:=⟨_,rfl⟩
 obtain⟨c3,hc3⟩:∃q,decide (h≠d)=q:=⟨_,rfl⟩
 obtain⟨c4,hc4⟩:∃q,gg T (fP T 2 h) m d=q:=⟨_,rfl⟩
 have hA:da T a d=if(c1&&c2)=true then(3,g) else if(c3&&c4)=true then(2,h) else(1,((a / 2:Nat):Int)):=by
  unfold da
  rw[hg,hh,hm,hc1,hc3,←qt hnv,hc4]
  congr 1
  cases c1 with
  |false=>rfl
  |true=>rw[←qt (hgv (tt hc1)),hc2]
 have hw1:=nQ T 3 g m d
 rw[hc2]at hw1
 have hw2:=nQ T 2 h m d
 rw[hc4]at hw2
 rw[hA]
 refine aE Tryz.func45 rfl Tryz.ntmps45 rfl<|aQ<|au 3 rfl<|aH [1,2,3,6] rfl ?_
 refine aj<|ab (.a 1 rfl<|.c rfl (hv▸gG T) rfl<|.a 1 rfl<|.k [1,2,3,6,14] rfl)<|ah rfl (fun h1=>?_) (fun h1=>?_)
 ·exact absurd h1 (by decide)
 ·clear h1
  refine ak<|aj<|bp 35 (.raw (.bool (false))) [1,2,3,6] rfl ?_ ?_
  ·exact .a 1 rfl<|.v (cb rfl (show decide ((a:Int)<0)=false from decide_eq_false (by omega))) rfl<|.a 5 rfl<|.v (aS rfl (hc:=rfl)) rfl<|.v (cb rfl (show decide (2*(T.af.length:Int)≤(a:Int))=false from decide_eq_false (by omega))) rfl<|.a 3 rfl<|.v (cb rfl (show decide (d<0)=false from decide_eq_false (by omega))) rfl<|.a 5 rfl<|.v (cb rfl (show decide (T.nodes≤d)=false from decide_eq_false (by omega))) rfl<|.a 1 rfl<|.k [35,1,2,3,6] rfl
  refine ah rfl (fun h1=>?_) (fun h1=>?_)
  ·exact absurd h1 (by decide)
  ·clear h1
   refine ak<|ei mixed (by kernel_rfl) (.a 2 rfl<|.v [37,38] (dR rfl (hrt)) rfl rfl<|.a 2 rfl<|.v [40,41] (dR rfl (hrh)) rfl rfl<|.a 2 rfl<|.k [1,2,3,6,8,9] rfl) ?_
   refine aQ<|au 3 rfl<|bE (iA rfl rfl rfl (by decide) ((show(a:Int).tdiv 2=((a / 2:Nat):Int) by rw[Int.tdiv_eq_ediv_of_nonneg (by omega)];omega)) (by unfold In64;omega)) rfl<|bE (aL ((a / 2*7)) rfl) rfl<|au 1 rfl<|bE (aN rfl ((eu T.af (a / 2) 6 hi (by omega)).trans (show(jh (cu T.af (a / 2)))[6]? =some (num g) by rw[←hgl];rfl))) rfl<|au 3 rfl<|aH [1,2,3,6,8,9,10] rfl ?_
   refine aQ<|au 4 rfl<|aH [1,2,3,6,8,9,10,11] rfl ?_
   refine aj<|av<|bp 53 (.raw (.bool (c1&&c2))) [1,2,3,6,8,9,10,11] rfl ?_ ?_
   ·refine .a 2 rfl<|.v (cb rfl (hc1)) rfl<|.a 1 rfl<|?_
    cases c1
    ·exact .a 7 rfl<|.k [53,1,2,3,6,8,9,10,11] rfl
    ·exact .a 4 rfl<|.c rfl (hw1) rfl<|.a 2 rfl<|.k [53,1,2,3,6,8,9,10,11] rfl
   refine ah rfl (fun h1=>?_) (fun h1=>?_)
   ·rw[if_pos h1]
    refine aQ<|au 3 rfl<|aH [6,7] rfl ?_
    exact aq<|⟨_,_,ay.of rfl,aB.pure (p:=.tuple [bU 3 g,num 0]),rfl⟩
   ·rw[if_neg (by rw[h1];simp)]
    refine bp 65 (.raw (.bool (c3&&c4))) [1,6,11] rfl ?_ ?_
    ·refine .a 2 rfl<|.v (cb rfl (hc3)) rfl<|.a 1 rfl<|?_
     cases c3
     ·exact .a 7 rfl<|.k [65,1,6,11] rfl
     ·exact .a 4 rfl<|.c rfl (hw2) rfl<|.a 2 rfl<|.k [65,1,6,11] rfl
    refine ah rfl (fun h2=>?_) (fun h2=>?_)
    ·rw[if_pos h2]
     refine aQ<|au 3 rfl<|aH [6,7] rfl ?_
     exact aq<|⟨_,_,ay.of rfl,aB.pure (p:=.tuple [bU 2 h,num 0]),rfl⟩
    ·rw[if_neg (by rw[h2];simp)]
     refine ak<|aQ<|au 1 rfl<|bE (iA rfl rfl rfl (by decide) ((show(a:Int).tdiv 2=((a / 2:Nat):Int) by rw[Int.tdiv_eq_ediv_of_nonneg (by omega)];omega)) (by unfold In64;omega)) rfl<|au 3 rfl<|aH [6,7] rfl ?_
     exact aq<|⟨_,_,ay.of rfl,aB.pure (p:=.tuple [bU 1 ((a / 2:Nat):Int),num 0]),rfl⟩
def kJ(T:ai)(D E:List Bool)(k:Nat):List Bool:=(List.range (2*T.af.length)).map fun a=>if a<k then aM D a||aM E a else aM D a
theorem qo(T:ai)(D E:List Bool)(k:Nat):(kJ T D E k).length=2*T.af.length:=by simp[kJ]
theorem nn{T:ai}{D E:List Bool}{k i:Nat}(h:i<(kJ T D E k).length):(kJ T D E k)[i]=if i<k then aM D i||aM E i else aM D i:=by simp[kJ]
theorem yH{M:List Bool}{a:Nat}(h:a<M.length):aM M a=M[a]:=by rw[←eO];simp[h]
theorem A8{T:ai}{D E:List Bool}(h:D.length=2*T.af.length):kJ T D E 0=D:=by
 apply List.ext_getElem (by rw[qo,h])
 intro i h1 h2
 rw[nn,if_neg (by omega),yH h2]
theorem B5(T:ai)(D E:List Bool):kJ T D E (2*T.af.length)=orM T D E:=by
 unfold kJ orM
 exact List.map_congr_left fun a ha=>if_pos (List.mem_range.1 ha)
theorem Bj(T:ai)(D E:List Bool)(k:Nat):(kJ T D E k).set k (aM D k||aM E k)=kJ T D E (k+1):=by
 apply List.ext_getElem (by simp[kJ])
 intro i h1 h2
 rw[List.getElem_set,nn,nn]
 by_cases e:k=i
 ·subst e;rw[if_pos rfl,if_pos (by omega)]
 ·rw[if_neg e]
  by_cases h:i<k
  ·rw[if_pos h,if_pos (by omega)]
  ·rw[if_neg h,if_neg (by omega)]
theorem EX{T:ai}{D E:List Bool}{k:Nat}(h:k<2*T.af.length):(kJ T D E k).getD k false=aM D k:=by
 have hk:k<(kJ T D E k).length:=by rw[qo];exact h
 rw[List.getD_eq_getElem?_getD,List.getElem?_eq_getElem hk,Option.getD_some,nn,if_neg (by omega)]
end PW
end Go.Proofs.YtnegbdpggideiaaGreatDoor
