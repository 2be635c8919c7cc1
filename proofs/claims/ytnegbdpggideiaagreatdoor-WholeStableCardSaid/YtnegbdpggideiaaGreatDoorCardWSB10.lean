/- Texts of the proof, part 10. -/
import Derived.Test.YtnegbdpggideiaaGreatDoorCardWSB9
set_option linter.unusedVariables false
set_option linter.unusedSimpArgs false
set_option maxRecDepth 10000
set_option maxHeartbeats 1000000
namespace Go.Proofs.YtnegbdpggideiaaGreatDoor
namespace PW
open Go.RowKit cA Mem Net eS
theorem su{T:ai}{n:Int}{L:List Int}(hl:T.af.length≤256)(h:eI T n L=true):L.length≤512:=by
 have h:=of_decide_eq_true h
 have key:∀i:Nat,i<L.length→(i:Int)≤L.getD i 0:=by
  intro i
  induction i with
  |zero=>intro hi;have:=(cI.1 (h 0 hi).1).1;omega
  |succ i ih=>
   intro hi
   have h1:=ih (by omega)
   have h2:=(h (i+1) hi).2.2 (by omega)
   rw[Nat.add_sub_cancel]at h2
   omega
 rcases Nat.eq_zero_or_pos L.length with h0|h0
 ·omega
 ·have h1:=key (L.length - 1) (by omega)
  have h2:=cI.1 (h (L.length - 1) (by omega)).1
  omega
theorem si(p:fh)(s:List bW)(e:iw)(hs:s.length≤40)(hp:e.push.length≤40)(ha:e.aK.length≤1000)(hps:p.stack.length≤1000)(hh:0≤p.gA∧p.gA≤1000):Can Tryz.prog 106 [eJ p,cn s,ua e] (· =A3 (iS p s e)):=by
 obtain⟨c,hc⟩:∃q,e.rep=q:=⟨_,rfl⟩
 have hE:iS p s e=if c then(if 32<(e.push++s.drop 1).length then gJ p 5 else eA p (e.push++s.drop 1) e.aK) else eA p s e.aK:=by unfold iS;rw[hc]
 rw[hE]
 refine aF Tryz.func106 rfl Tryz.ntmps106 rfl<|aQ<|au 5 rfl<|aH [1,3,5,7] rfl ?_
 refine aj<|ab (.a 1 rfl<|.v (aL rfl ((show(jR e)[1]? =some (flag c) by rw[←hc];rfl))) rfl<|.k [1,3,5,7,11] rfl)<|ah rfl (fun h1=>?_) (fun h1=>?_)
 ·subst h1
  simp only[if_true]
  refine ab (.a 2 rfl<|.k [3,5,7,9] rfl)<|aj<|ab (.a 3 rfl<|.k [3,5,7,9,15] rfl)<|ah rfl (fun h2=>?_) (fun h2=>?_)
  ·obtain⟨a,l,rfl⟩:∃a l,s=a::l:=by
    cases s with
    |nil=>exact absurd (tt h2) (by simp)
    |cons a l=>exact⟨a,l,rfl⟩
   simp only[List.drop_succ_cons,List.drop_zero]
   obtain⟨s',hs',hsl⟩:∃s',l=s'∧s'.length≤40:=⟨l,rfl,by simp at hs;omega⟩
   refine ay (.a 1 rfl<|.v (lR rfl (bE.el.get rfl) rfl rfl) rfl<|.a 1 rfl<|.k [3,5,7,9] rfl) ?_
   rw[hs']
   refine ab (.a 4 rfl<|.c rfl (ox e.push s' (by omega)) rfl<|.a 1 rfl<|.k [1,3,5,7] rfl)<|ab (.a 3 rfl<|.k [1,3,5,7,25] rfl)<|ah rfl (fun h3=>?_) (fun h3=>?_)
   ·have h3:=tt h3
    rw[if_pos (by omega)]
    refine aQ<|au 1 rfl<|ek rfl (fP p 5 hps) rfl<|au 6 rfl<|aH [6,7,8] rfl ?_
    exact aq<|⟨_,_,aA.of rfl,aB.bG (an.cons (aB.pure (p:=ax []))<|an.cons (aB.pure (p:=eJ p))<|an.cons aB.pure an.nil),rfl⟩
   ·have h3:=ff h3
    rw[if_neg (by omega)]
    refine ak<|aQ<|au 4 rfl<|ek rfl (lS p _ e.aK (by first|(simp only[List.length_append];omega)|omega) ha hh) rfl<|au 6 rfl<|aH [6,7,8] rfl ?_
    exact aq<|⟨_,_,aA.of rfl,aB.bG (an.cons (aB.pure (p:=ax e.aK))<|an.cons (aB.pure (p:=eJ ⟨p.id,p.src,p.dst,p.pD,_,p.gA+1⟩))<|an.cons aB.pure an.nil),rfl⟩
  ·obtain rfl:s=[]:=by
    cases s with
    |nil=>rfl
    |cons a l=>exact absurd (ff h2) (by simp)
   simp only[List.drop_nil]
   obtain⟨s',hs',hsl⟩:∃s',([]:List bW)=s'∧s'.length≤40:=⟨[],rfl,by simp⟩
   refine ak ?_
   rw[hs']
   refine ab (.a 4 rfl<|.c rfl (ox e.push s' (by omega)) rfl<|.a 1 rfl<|.k [1,3,5,7] rfl)<|ab (.a 3 rfl<|.k [1,3,5,7,25] rfl)<|ah rfl (fun h3=>?_) (fun h3=>?_)
   ·have h3:=tt h3
    rw[if_pos (by omega)]
    refine aQ<|au 1 rfl<|ek rfl (fP p 5 hps) rfl<|au 6 rfl<|aH [6,7,8] rfl ?_
    exact aq<|⟨_,_,aA.of rfl,aB.bG (an.cons (aB.pure (p:=ax []))<|an.cons (aB.pure (p:=eJ p))<|an.cons aB.pure an.nil),rfl⟩
   ·have h3:=ff h3
    rw[if_neg (by omega)]
    refine ak<|aQ<|au 4 rfl<|ek rfl (lS p _ e.aK (by first|(simp only[List.length_append];omega)|omega) ha hh) rfl<|au 6 rfl<|aH [6,7,8] rfl ?_
    exact aq<|⟨_,_,aA.of rfl,aB.bG (an.cons (aB.pure (p:=ax e.aK))<|an.cons (aB.pure (p:=eJ ⟨p.id,p.src,p.dst,p.pD,_,p.gA+1⟩))<|an.cons aB.pure an.nil),rfl⟩
 ·subst h1
  simp only[Bool.false_eq_true,if_false]
  refine ak<|aQ<|au 4 rfl<|ek rfl (lS p _ e.aK (by first|(simp only[List.length_append];omega)|omega) ha hh) rfl<|au 6 rfl<|aH [6,7,8] rfl ?_
  exact aq<|⟨_,_,aA.of rfl,aB.bG (an.cons (aB.pure (p:=ax e.aK))<|an.cons (aB.pure (p:=eJ ⟨p.id,p.src,p.dst,p.pD,_,p.gA+1⟩))<|an.cons aB.pure an.nil),rfl⟩
def eO(x:dR)(v:Int):iw:=x.eV.getD v.toNat Hn
def fq(h:bW):List bW→List bW
 | []=>[]
 |a::l=>if a=h then fq h l else a::l
def Hm(T:ai)(x:dR)(p:fh)(s:List bW)(v:Int)(K:Out):Out:=if(bu T v&&decide (0<((eO x v).aK.length:Int)))=true then iS p s (eO x v) else K
def eU(T:ai)(x:dR)(p:fh)(s:List bW)(K:Out):Out:=
 if(decide ((s.length:Int)=0)&&decide (p.dst=x.node))=true then⟨[],⟨p.id,p.src,p.dst,p.pD,[],p.gA⟩, -1⟩
 else if(decide (255≤p.gA)||decide (p.gA<0))=true then gJ p 4
 else match s with
  | []=>Hm T x p [] p.dst (gJ p 1)
  |a::l=>if a.kind=1 then Hm T x p (a::l) a.num K
   else if a.kind=2 then(if(!(eR T a.num)||decide (bq T a.num.toNat≠x.node))=true then gJ p 2 else if a.num∈x.down then K else eA p l [a.num])
   else gJ p 1
def fX(T:ai)(x:dR)(p:fh):Out:=
 if((!ef T x)|| !(bu T p.dst))=true then gJ p 1
 else if 32<(p.stack.length:Int) then gJ p 5
 else eU T x p (fq ⟨1,x.node⟩ p.stack) (eU T x p [] (gJ p 1))
theorem uL(h:bW):∀l:List bW,(fq h l).length≤l.length
 | []=>Nat.le_refl _
 |a::l=>by
  simp only[fq]
  split
  ·have:=uL h l;simp only[List.length_cons];omega
  ·exact Nat.le_refl _
theorem nI{T:ai}{x:dR}(h:ef T x=true){v:Int}(hv:bu T v=true):∃k:Nat,v=(k:Int)∧x.eV[k]? =some (eO x v)∧(eO x v).push.length≤40∧(eO x v).aK.length≤1000:=by
 unfold ef at h
 simp only[Bool.and_eq_true,decide_eq_true_eq]at h
 obtain⟨⟨⟨⟨h1,h2⟩,h3⟩,h4⟩,h5⟩:=h
 have hll:=bN h1
 obtain⟨v0,v1⟩:=aW.1 hv
 obtain⟨k,rfl⟩:=Int.eq_ofNat_of_zero_le v0
 have hk:k<x.eV.length:=by omega
 have hg:x.eV[k]? =some (eO x (k:Int)):=by
  unfold eO
  rw[Int.toNat_natCast,List.getD_eq_getElem?_getD,List.getElem?_eq_getElem hk]
  rfl
 have ho:=(of_decide_eq_true h5) k hk
 rw[lN _ _ _ hg]at ho
 unfold iO at ho
 simp only[Bool.and_eq_true]at ho
 refine⟨k,rfl,hg,?_,?_⟩
 ·have:=ho.2
  split at this
  ·simp only[Bool.and_eq_true,decide_eq_true_eq]at this;omega
  ·simp only[decide_eq_true_eq]at this;omega
 ·have:=su hll ho.1.1;omega
theorem xy{T:ai}{x:dR}(h:ef T x=true):x.down.length≤1000:=by
 unfold ef at h
 simp only[Bool.and_eq_true]at h
 have:=su (bN h.1.1.1.1) h.1.2
 omega
set_option maxHeartbeats 2000000 in
theorem Co(T : ai)(x : dR)(p : fh)(hps : p.stack.length ≤ 1000) : Can Tryz.prog 47 [aP T, fA x, eJ p] (· = A3 (fX T x p)) := by
  obtain⟨c1,hc1⟩:∃q,ef T x=q:=⟨_,rfl⟩
  obtain⟨c2,hc2⟩:∃q,bu T p.dst=q:=⟨_,rfl⟩
  obtain⟨n,hn⟩:∃n,x.node=n:=⟨_,rfl⟩
  unfold fX
  rw[hc1,hc2]
  refine aF Tryz.func47 rfl Tryz.ntmps47 rfl<|aQ<|au 6 rfl<|aH [3,4,5,7] rfl ?_
  refine yG ?_
  refine aj<|bC 22 (.raw (.bool ((!c1)|| !c2))) [3,4,5,7] rfl ?_ ?_
  · refine .a 2 rfl<|.c rfl (hc1▸pf T x) rfl<|.a 2 rfl<|?_
    cases c1
    · exact .a 6 rfl<|.k [22,3,4,5,7] rfl
    · exact .a 3 rfl<|.c rfl (hc2▸da T p.dst) rfl<|.a 2 rfl<|.k [22,3,4,5,7] rfl
  refine ah rfl (fun h1=>?_) (fun h1=>?_)
  · rw[if_pos h1]
    refine aQ<|au 1 rfl<|ek rfl (fP p 1 hps) rfl<|au 6 rfl<|aH [6,7,8] rfl ?_
    exact aq<|⟨_,_,aA.of rfl,aB.bG (an.cons (aB.pure (p:=ax []))<|an.cons (aB.pure (p:=eJ p))<|an.cons aB.pure an.nil),rfl⟩
  · rw [if_neg (by rw [h1]; simp)]
    obtain⟨rfl,rfl⟩:c1=true∧c2=true:=by revert h1;cases c1<;>cases c2<;>simp
    refine ak<|aj<|ab (.a 1 rfl<|.v (aL rfl ((rfl:(dK p)[4]? =some (cn p.stack)))) rfl<|.a 2 rfl<|.k [3,4,5,7,31] rfl)<|ah rfl (fun h2=>?_) (fun h2=>?_)
    · rw[if_pos (tt h2)]
      refine aQ<|au 1 rfl<|ek rfl (fP p 5 hps) rfl<|au 6 rfl<|aH [6,7,8] rfl ?_
      exact aq<|⟨_,_,aA.of rfl,aB.bG (an.cons (aB.pure (p:=ax []))<|an.cons (aB.pure (p:=eJ p))<|an.cons aB.pure an.nil),rfl⟩
    · rw [if_neg (ff h2)]
      have h32:p.stack.length≤32:=by have:=ff h2;omega
      refine ak<|ab (.a 1 rfl<|.v (aL rfl ((rfl:(dK p)[4]? =some (cn p.stack)))) rfl<|.a 1 rfl<|.k [3,4,5,7,9] rfl)<|aQ<|au 1 rfl<|bz (aL rfl ((show(fL x)[0]? =some (num n) by rw[←hn];rfl))) rfl<|au 3 rfl<|aH [3,4,5,7,9,10] rfl ?_
      refine aj<|av<|eZ [3,4,5,7,9,10] rfl<|bw (fun r st=>∃s:List bW,s.length≤32∧r=s.length∧fq ⟨1,n⟩ p.stack=fq ⟨1,n⟩ s∧st=⟨[(3,.aV (bx T) 0),(4,.aV (fL x) 0),(5,.aV (dK p) 0),(7,.ptr 0 0),(9,cn s),(10,.ptr 1 0)],[some (.cells 66 [num 0,num 0,num 0,num 0,.raw (.slice none 0 0),num 0]),some (.cells 103 [num 1,num n])]⟩) p.stack.length ⟨p.stack,h32,rfl,rfl,rfl⟩ ?_
      rintro r st ⟨s,hs,rfl,hsk,rfl⟩
      obtain⟨e1,he1⟩:∃q,decide (0<(s.length:Int))=q:=⟨_,rfl⟩
      obtain⟨a,ha⟩:∃a,s.getD 0 ⟨0,0⟩=a:=⟨_,rfl⟩
      obtain⟨e2,he2⟩:∃q,decide (a=(⟨1,n⟩:bW))=q:=⟨_,rfl⟩
      refine aj<|nQ mixed (by kernel_rfl) 51 (.raw (.bool (e1&&e2))) [3,4,5,7,9,10] rfl ?_ ?_
      · refine .a 2 rfl<|.v [43] (cC rfl (he1)) rfl rfl<|.a 1 rfl<|?_
        cases e1
        · exact .a 6 rfl<|.k [51,3,4,5,7,9,10] rfl
        · exact .a 1 rfl<|.v [46] (aI (0) rfl (by omega) (by have:=tt he1;omega)) rfl rfl<|.v [47] (ed rfl (iC s 0 a (by rw[←ha];have:=tt he1;rw[List.getD_eq_getElem?_getD,List.getElem?_eq_getElem (by omega)];rfl)) rfl) rfl rfl<|.a 1 rfl<|.v [48,49] (Db rfl rfl (b:=⟨1,n⟩) rfl he2) rfl rfl<|.a 1 rfl<|.k [51,3,4,5,7,9,10] rfl
      refine ah rfl (fun h3=>?_) (fun h3=>?_)
      · obtain⟨rfl,rfl⟩:=Bool.and_eq_true_iff.1 h3
        obtain⟨l,rfl⟩:∃l,s=(⟨1,n⟩:bW)::l:=by
          have h4:=tt he2
          cases s with
          |nil=>exact absurd (tt he1) (by simp)
          |cons b l=>exact⟨l,by rw[←h4,←ha];rfl⟩
        simp only[fq,if_true]at hsk
        refine ak<|av<|ay (.a 1 rfl<|.v (lR rfl (bE.el.get rfl) rfl rfl) rfl<|.a 1 rfl<|.k [3,4,5,7,9,10] rfl) ?_
        exact⟨l.length,by simp,l,by simp at hs;omega,rfl,hsk,rfl⟩
      · have hsk:fq ⟨1,n⟩ p.stack=s:=by
          rw[hsk]
          cases s with
          |nil=>rfl
          |cons b l=>
            have e1t:e1=true:=by rw[←he1];simp
            rw[e1t,Bool.true_and]at h3
            rw[h3]at he2
            have h5:=ff he2
            simp only[fq]
            rw[if_neg (by rw[←ha]at h5;exact h5)]
        rw[hn,hsk]
        clear he1 ha he2 h3
        refine bn<|aj<|yC ?_
        refine av<|eZ [3,4,5,7,9] rfl<|bw (fun r st=>∃(s':List bW) (z:PV),jK z (cn s')∧s'.length≤32∧r=s'.length∧eU T x p s (eU T x p [] (gJ p 1))=eU T x p s' (eU T x p [] (gJ p 1))∧st=⟨[(3,.aV (bx T) 0),(4,.aV (fL x) 0),(5,.aV (dK p) 0),(7,.ptr 0 0),(9,z)],[some (.cells 66 [num 0,num 0,num 0,num 0,.raw (.slice none 0 0),num 0]),some (.cells 103 [num 1,num n])]⟩) s.length ⟨s,_,jK.refl _,hs,rfl,rfl,rfl⟩ ?_
        clear hsk hs
        rintro r st ⟨s',z,hz,hs,rfl,hR,rfl⟩
        refine mg (t':=[(3,.aV (bx T) 0),(4,.aV (fL x) 0),(5,.aV (dK p) 0),(7,.ptr 0 0),(9,cn s')]) ?_ ?_
        · exact Sub.cons rfl<|Sub.cons rfl<|Sub.cons rfl<|Sub.cons rfl<|Sub.Hb rfl hz<|Sub.nil _
        clear hz
        rw[hR]
        clear hR
        obtain⟨K0,hK0⟩:∃K,eU T x p [] (gJ p 1)=K:=⟨_,rfl⟩
        rw[hK0]
        obtain⟨R,hS⟩:∃R,eU T x p s' K0=R:=⟨_,rfl⟩
        rw[hS]
        have hRR:=hS
        unfold eU at hRR
        obtain⟨c5,hc5⟩:∃q,decide ((s'.length:Int)=0)=q:=⟨_,rfl⟩
        obtain⟨c6,hc6⟩:∃q,decide (p.dst=n)=q:=⟨_,rfl⟩
        obtain⟨c7,hc7⟩:∃q,decide (255≤p.gA)=q:=⟨_,rfl⟩
        obtain⟨c8,hc8⟩:∃q,decide (p.gA<0)=q:=⟨_,rfl⟩
        rw[hc5,hn,hc6,hc7,hc8]at hRR
        refine av<|aj<|bC 63 (.raw (.bool (c5&&c6))) [3,4,5,7,9] rfl ?_ ?_
        · refine .a 2 rfl<|.v (cC rfl (hc5)) rfl<|.a 1 rfl<|?_
          cases c5
          · exact .a 6 rfl<|.k [63,3,4,5,7,9] rfl
          · exact .a 1 rfl<|.v (aL rfl ((rfl:(dK p)[2]? =some (num p.dst)))) rfl<|.a 1 rfl<|.v (aL rfl ((show(fL x)[0]? =some (num n) by rw[←hn];rfl))) rfl<|.v (cC rfl (hc6)) rfl<|.a 1 rfl<|.k [63,3,4,5,7,9] rfl
        refine ah rfl (fun h1=>?_) (fun h1=>?_)
        · rw[if_pos h1]at hRR
          subst hRR
          refine aQ<|au 1 rfl<|bz (vd rfl (an.cons aB.pure<|an.cons aB.b9 an.nil) (pQ p [] (by simp))) rfl<|au 3 rfl<|aH [6,7,8] rfl ?_
          exact aq<|⟨_,_,aA.of rfl,aB.bG (an.cons aB.b9<|an.cons (aB.pure (p:=eJ ⟨p.id,p.src,p.dst,p.pD,[],p.gA⟩))<|an.cons aB.pure an.nil),rfl⟩
        · rw [if_neg (by rw [h1]; simp)] at hRR
          refine ak<|aj<|bC 73 (.raw (.bool (c7||c8))) [3,4,5,7,9] rfl ?_ ?_
          · refine .a 1 rfl<|.v (aL rfl ((rfl:(dK p)[5]? =some (num p.gA)))) rfl<|.v (cC rfl (hc7)) rfl<|.a 1 rfl<|?_
            cases c7
            · exact .a 1 rfl<|.v (aL rfl ((rfl:(dK p)[5]? =some (num p.gA)))) rfl<|.v (cC rfl (hc8)) rfl<|.a 1 rfl<|.k [73,3,4,5,7,9] rfl
            · exact .a 4 rfl<|.k [73,3,4,5,7,9] rfl
          refine ah rfl (fun h2=>?_) (fun h2=>?_)
          · rw[if_pos h2]at hRR
            subst hRR
            refine aQ<|au 1 rfl<|ek rfl (fP p 4 hps) rfl<|au 6 rfl<|aH [6,7,8] rfl ?_
            exact aq<|⟨_,_,aA.of rfl,aB.bG (an.cons (aB.pure (p:=ax []))<|an.cons (aB.pure (p:=eJ p))<|an.cons aB.pure an.nil),rfl⟩
          · rw [if_neg (by rw [h2]; simp)] at hRR
            have hh:0≤p.gA∧p.gA≤1000:=by
              obtain⟨h3,h4⟩:=Bool.or_eq_false_iff.1 h2
              rw[←hc7]at h3
              rw[←hc8]at h4
              have:=ff h3
              have:=ff h4
              omega
            clear hc5 hc6 hc7 hc8 h1 h2
            refine ak ?_
            obtain⟨v,hv⟩:∃v,p.dst=v:=⟨_,rfl⟩
            refine ab (.a 1 rfl<|.v (aL rfl ((show(dK p)[2]? =some (num v) by rw[←hv];rfl))) rfl<|.a 1 rfl<|.k [3,4,5,7,9,11] rfl)<|aj<|ab (.a 3 rfl<|.k [3,4,5,7,9,11,83] rfl)<|ah rfl (fun h3=>?_) (fun h3=>?_)
            · have hne:0<s'.length:=by have:=tt h3;omega
              obtain⟨a,l,hs'⟩:∃a l,s'=a::l:=by
                cases s' with
                |nil=>exact absurd hne (by simp)
                |cons a l=>exact⟨a,l,rfl⟩
              have h0:s'[0]? =some a:=by rw[hs'];rfl
              rw[hs']at hRR
              dsimp only at hRR
              rw[←hs']at hRR
              clear hv
              obtain⟨v,hv⟩:∃v,a.num=v:=⟨_,rfl⟩
              rw[hv]at hRR
              refine ab (.a 1 rfl<|.v (aI (0) rfl (by omega) (by omega)) rfl<|.a 1 rfl<|.v (aL rfl (((GS s' 0 a h0).trans (by rw[hv])))) rfl<|.a 1 rfl<|.k [3,4,5,7,9,11] rfl)<|ab (.a 1 rfl<|.v (aI (0) rfl (by omega) (by omega)) rfl<|.a 1 rfl<|.v (aL rfl ((Gr s' 0 a h0))) rfl<|.k [3,4,5,7,9,11,91] rfl)<|av<|ab (.a 2 rfl<|.k [3,4,5,7,9,11,91,97] rfl)<|ah rfl (fun h4=>?_) (fun h4=>?_)
              · rw[if_pos (tt h4)]at hRR
                obtain⟨K1,hK1,hK1n,hK1p⟩:∃K1,K1=K0∧(s'.length=0→K1=gJ p 1)∧(0<s'.length→K1=K0):=⟨_,rfl,fun h=>absurd h (by omega),fun h=>rfl⟩
                rw[←hK1]at hRR
                clear hK1 h3 h4 hs' hv h0
                refine ak<|aj ?_
                obtain⟨c11,hc11⟩:∃q,bu T v=q:=⟨_,rfl⟩
                have hnc:=da T v
                rw[hc11]at hnc
                unfold Hm at hRR
                have hes:c11=true→x.eV[v.toNat]? =some (eO x v)∧(eO x v).push.length≤40∧(eO x v).aK.length≤1000∧v<(x.eV.length:Int)∧0≤v:=fun h=>by
                  obtain⟨k,rfl,g1,g2,g3⟩:=nI hc1 (hc11.trans h)
                  have:=(List.getElem?_eq_some_iff.1 g1).1
                  exact⟨g1,g2,g3,by omega,by omega⟩
                obtain⟨e,he⟩:∃e,eO x v=e:=⟨_,rfl⟩
                obtain⟨IS,hc12⟩:∃q,decide (0<(e.aK.length:Int))=q:=⟨_,rfl⟩
                rw[he]at hes hRR
                rw[hc11,hc12]at hRR
                refine qn (Q1:=fun st=>st=⟨[(143,flag (c11&&IS)),(3,.aV (bx T) 0),(4,.aV (fL x) 0),(5,.aV (dK p) 0),(7,.ptr 0 0),(9,cn s'),(11,num v)],[some (.cells 66 [num 0,num 0,num 0,num 0,.raw (.slice none 0 0),num 0]),some (.cells 103 [num 1,num n])]⟩) ?_ ?_
                · cases c11
                  · refine ay (.a 2 rfl<|.c rfl (hnc) rfl<|.a 10 rfl<|.k [143,3,4,5,7,9,11] rfl) ?_
                    rfl
                  · refine ay (.a 2 rfl<|.c rfl (hnc) rfl<|.a 2 rfl<|.v (aL rfl ((rfl:(fL x)[1]? =some (jq x.eV)))) rfl<|.a 1 rfl<|.v (aI ((v.toNat*3)) rfl (hes rfl).2.2.2.2 (hes rfl).2.2.2.1) rfl<|.a 1 rfl<|.v (aL rfl ((vw x.eV v.toNat 0 e (hes rfl).1 (by omega)))) rfl<|.a 1 rfl<|.v (cC rfl (hc12)) rfl<|.a 1 rfl<|.k [143,3,4,5,7,9,11] rfl) ?_
                    rfl
                rintro _ rfl
                refine ah rfl (fun h8=>?_) (fun h8=>?_)
                · rw[if_pos h8]at hRR
                  obtain⟨g1,g2,g3,g4,g5⟩:=hes (Bool.and_eq_true_iff.1 h8).1
                  subst hRR
                  refine kY 12 20 mixed (
                    .val [5] rfl (bF rfl) rfl rfl<|
                    .val [9] rfl (bF rfl) rfl rfl<|
                    .val [4] rfl (bF rfl) rfl rfl<|
                    .val [146] rfl (aL rfl ((rfl:(fL x)[1]? =some (jq x.eV)))) rfl rfl<|
                    .val [11] rfl (bF rfl) rfl rfl<|
                    .val [147,148] rfl (aI ((v.toNat*3)) rfl g5 g4) rfl rfl<|
                    .val [149] rfl (ed rfl ((ov x.eV v.toNat e g1)) rfl) rfl rfl<|
                    .val [144,145,150] rfl (fm rfl (si p s' e (by omega) g2 g3 hps hh)) rfl rfl<|
                    .val [151] rfl (bF rfl) rfl rfl<|
                    .val [151] rfl (bF rfl) rfl rfl<|
                    .val [151] rfl (bF rfl) rfl rfl<|
                    .val [152] rfl (bF rfl) rfl rfl<|
                    .nil) (by kernel_rfl) rfl rfl (bh (ks:=[6,7,153,154]) rfl) ?_
                  refine au 2 rfl<|aH [6,7,8] rfl ?_
                  exact aq<|⟨_,_,aA.of rfl,aB.bG (an.cons (aB.pure (p:=ax (iS p s' e).aK))<|an.cons (aB.pure (p:=eJ (iS p s' e).eY))<|an.cons aB.pure an.nil),rfl⟩
                · rw[if_neg (by rw[h8];simp)]at hRR
                  refine ak<|aj<|ab (.a 3 rfl<|.k [3,4,5,7,157] rfl)<|ah rfl (fun h9=>?_) (fun h9=>?_)
                  · rw[hK1n (by have:=tt h9;omega)]at hRR
                    subst hRR
                    refine aQ<|au 1 rfl<|ek rfl (fP p 1 hps) rfl<|au 6 rfl<|aH [6,7,8] rfl ?_
                    exact aq<|⟨_,_,aA.of rfl,aB.bG (an.cons (aB.pure (p:=ax []))<|an.cons (aB.pure (p:=eJ p))<|an.cons aB.pure an.nil),rfl⟩
                  · have hne:0<s'.length:=by have:=ff h9;omega
                    rw[hK1p hne]at hRR
                    refine ak<|ay (.a 1 rfl<|.k [3,4,5,7,9] rfl) ?_
                    exact⟨0,hne,[],_,jK.b9,by simp,rfl,hRR.symm.trans (hK0.symm.trans rfl),rfl⟩
              · rw[if_neg (ff h4)]at hRR
                refine ab (.a 2 rfl<|.k [3,4,5,7,9,11,99] rfl)<|ah rfl (fun h5=>?_) (fun h5=>?_)
                · rw[if_pos (tt h5)]at hRR
                  obtain⟨c9,hc9⟩:∃q,eR T v=q:=⟨_,rfl⟩
                  obtain⟨c10,hc10⟩:∃q,decide (bq T v.toNat≠n)=q:=⟨_,rfl⟩
                  have hac:=o7 T (by have h:=hc1;unfold ef at h;simp only[Bool.and_eq_true]at h;have:=bN h.1.1.1.1;omega) v
                  rw[hc9]at hac
                  rw[hc9,hc10]at hRR
                  refine aj<|nQ mixed (by kernel_rfl) 112 (.raw (.bool ((!c9)||c10))) [3,4,5,7,9,11] rfl ?_ ?_
                  · refine .a 2 rfl<|.v [101,102] (fm rfl (hac)) rfl rfl<|.a 2 rfl<|?_
                    cases c9
                    · exact .a 7 rfl<|.k [112,3,4,5,7,9,11] rfl
                    · exact .a 2 rfl<|.v [106,107] (fm rfl (lF T v hc9)) rfl rfl<|.a 1 rfl<|.v [109] (aL rfl ((show(fL x)[0]? =some (num n) by rw[←hn];rfl))) rfl rfl<|.v [108,110] (cC rfl (hc10)) rfl rfl<|.a 1 rfl<|.k [112,3,4,5,7,9,11] rfl
                  refine ah rfl (fun h6=>?_) (fun h6=>?_)
                  · rw[if_pos h6]at hRR
                    subst hRR
                    refine aQ<|au 1 rfl<|ek rfl (fP p 2 hps) rfl<|au 6 rfl<|aH [6,7,8] rfl ?_
                    exact aq<|⟨_,_,aA.of rfl,aB.bG (an.cons (aB.pure (p:=ax []))<|an.cons (aB.pure (p:=eJ p))<|an.cons aB.pure an.nil),rfl⟩
                  · rw[if_neg (by rw[h6];simp)]at hRR
                    refine ak<|aj<|ab (.a 1 rfl<|.v (aL rfl ((rfl:(fL x)[2]? =some (ax x.down)))) rfl<|.a 1 rfl<|.c rfl (qQ x.down v (xy hc1)) rfl<|.k [3,4,5,7,9,11,121] rfl)<|ah rfl (fun h7=>?_) (fun h7=>?_)
                    · rw[if_pos (tt h7)]at hRR
                      exact ab (.a 1 rfl<|.k [3,4,5,7,9] rfl)<|bn<|⟨0,hne,[],_,jK.b9,by simp,rfl,hRR.symm.trans (hK0.symm.trans rfl),rfl⟩
                    · rw[if_neg (ff h7)]at hRR
                      subst hRR
                      subst hs'
                      refine ak<|kY 10 20 mixed (
                        .val [5] rfl (bF rfl) rfl rfl<|
                        .val [9] rfl (bF rfl) rfl rfl<|
                        .val [123] rfl (lR rfl (bE.el.get rfl) rfl rfl) rfl rfl<|
                        .val [11] rfl (bF rfl) rfl rfl<|
                        .val [125] rfl (bF rfl) rfl rfl<|
                        .val [122,124,126] rfl (fm rfl (lS p l [v] (by simp at hs;omega) (by simp) hh)) rfl rfl<|
                        .val [127] rfl (bF rfl) rfl rfl<|
                        .val [127] rfl (bF rfl) rfl rfl<|
                        .val [127] rfl (bF rfl) rfl rfl<|
                        .val [128] rfl (bF rfl) rfl rfl<|
                        .nil) (by kernel_rfl) rfl rfl (bh (ks:=[6,7,129,130]) rfl) ?_
                      refine au 2 rfl<|aH [6,7,8] rfl ?_
                      exact aq<|⟨_,_,aA.of rfl,aB.bG (an.cons (aB.pure (p:=ax [v]))<|an.cons (aB.pure (p:=eJ (eA p l [v]).eY))<|an.cons aB.pure an.nil),rfl⟩
                · rw[if_neg (ff h5)]at hRR
                  subst hRR
                  refine aQ<|au 1 rfl<|ek rfl (fP p 1 hps) rfl<|au 6 rfl<|aH [6,7,8] rfl ?_
                  exact aq<|⟨_,_,aA.of rfl,aB.bG (an.cons (aB.pure (p:=ax []))<|an.cons (aB.pure (p:=eJ p))<|an.cons aB.pure an.nil),rfl⟩
            · have hs':s'=[]:=by
                cases s' with
                |nil=>rfl
                |cons a l=>exact absurd (ff h3) (by simp)
              rw[hs']at hRR
              dsimp only at hRR
              rw[←hs',hv]at hRR
              obtain⟨K1,hK1,hK1n,hK1p⟩:∃K1,K1=gJ p 1∧(s'.length=0→K1=gJ p 1)∧(0<s'.length→K1=K0):=⟨_,rfl,fun _=>rfl,fun h=>absurd h (by rw[hs'];simp)⟩
              rw[←hK1]at hRR
              clear hK1 h3 hs' hv
              refine ak<|aj ?_
              obtain⟨c11,hc11⟩:∃q,bu T v=q:=⟨_,rfl⟩
              have hnc:=da T v
              rw[hc11]at hnc
              unfold Hm at hRR
              have hes:c11=true→x.eV[v.toNat]? =some (eO x v)∧(eO x v).push.length≤40∧(eO x v).aK.length≤1000∧v<(x.eV.length:Int)∧0≤v:=fun h=>by
                obtain⟨k,rfl,g1,g2,g3⟩:=nI hc1 (hc11.trans h)
                have:=(List.getElem?_eq_some_iff.1 g1).1
                exact⟨g1,g2,g3,by omega,by omega⟩
              obtain⟨e,he⟩:∃e,eO x v=e:=⟨_,rfl⟩
              obtain⟨IS,hc12⟩:∃q,decide (0<(e.aK.length:Int))=q:=⟨_,rfl⟩
              rw[he]at hes hRR
              rw[hc11,hc12]at hRR
              refine qn (Q1:=fun st=>st=⟨[(143,flag (c11&&IS)),(3,.aV (bx T) 0),(4,.aV (fL x) 0),(5,.aV (dK p) 0),(7,.ptr 0 0),(9,cn s'),(11,num v)],[some (.cells 66 [num 0,num 0,num 0,num 0,.raw (.slice none 0 0),num 0]),some (.cells 103 [num 1,num n])]⟩) ?_ ?_
              · cases c11
                · refine ay (.a 2 rfl<|.c rfl (hnc) rfl<|.a 10 rfl<|.k [143,3,4,5,7,9,11] rfl) ?_
                  rfl
                · refine ay (.a 2 rfl<|.c rfl (hnc) rfl<|.a 2 rfl<|.v (aL rfl ((rfl:(fL x)[1]? =some (jq x.eV)))) rfl<|.a 1 rfl<|.v (aI ((v.toNat*3)) rfl (hes rfl).2.2.2.2 (hes rfl).2.2.2.1) rfl<|.a 1 rfl<|.v (aL rfl ((vw x.eV v.toNat 0 e (hes rfl).1 (by omega)))) rfl<|.a 1 rfl<|.v (cC rfl (hc12)) rfl<|.a 1 rfl<|.k [143,3,4,5,7,9,11] rfl) ?_
                  rfl
              rintro _ rfl
              refine ah rfl (fun h8=>?_) (fun h8=>?_)
              · rw[if_pos h8]at hRR
                obtain⟨g1,g2,g3,g4,g5⟩:=hes (Bool.and_eq_true_iff.1 h8).1
                subst hRR
                refine kY 12 20 mixed (
                  .val [5] rfl (bF rfl) rfl rfl<|
                  .val [9] rfl (bF rfl) rfl rfl<|
                  .val [4] rfl (bF rfl) rfl rfl<|
                  .val [146] rfl (aL rfl ((rfl:(fL x)[1]? =some (jq x.eV)))) rfl rfl<|
                  .val [11] rfl (bF rfl) rfl rfl<|
                  .val [147,148] rfl (aI ((v.toNat*3)) rfl g5 g4) rfl rfl<|
                  .val [149] rfl (ed rfl ((ov x.eV v.toNat e g1)) rfl) rfl rfl<|
                  .val [144,145,150] rfl (fm rfl (si p s' e (by omega) g2 g3 hps hh)) rfl rfl<|
                  .val [151] rfl (bF rfl) rfl rfl<|
                  .val [151] rfl (bF rfl) rfl rfl<|
                  .val [151] rfl (bF rfl) rfl rfl<|
                  .val [152] rfl (bF rfl) rfl rfl<|
                  .nil) (by kernel_rfl) rfl rfl (bh (ks:=[6,7,153,154]) rfl) ?_
                refine au 2 rfl<|aH [6,7,8] rfl ?_
                exact aq<|⟨_,_,aA.of rfl,aB.bG (an.cons (aB.pure (p:=ax (iS p s' e).aK))<|an.cons (aB.pure (p:=eJ (iS p s' e).eY))<|an.cons aB.pure an.nil),rfl⟩
              · rw[if_neg (by rw[h8];simp)]at hRR
                refine ak<|aj<|ab (.a 3 rfl<|.k [3,4,5,7,157] rfl)<|ah rfl (fun h9=>?_) (fun h9=>?_)
                · rw[hK1n (by have:=tt h9;omega)]at hRR
                  subst hRR
                  refine aQ<|au 1 rfl<|ek rfl (fP p 1 hps) rfl<|au 6 rfl<|aH [6,7,8] rfl ?_
                  exact aq<|⟨_,_,aA.of rfl,aB.bG (an.cons (aB.pure (p:=ax []))<|an.cons (aB.pure (p:=eJ p))<|an.cons aB.pure an.nil),rfl⟩
                · have hne:0<s'.length:=by have:=ff h9;omega
                  rw[hK1p hne]at hRR
                  refine ak<|ay (.a 1 rfl<|.k [3,4,5,7,9] rfl) ?_
                  exact⟨0,hne,[],_,jK.b9,by simp,rfl,hRR.symm.trans (hK0.symm.trans rfl),rfl⟩
end PW
end Go.Proofs.YtnegbdpggideiaaGreatDoor
namespace Go.Proofs.YtnegbdpggideiaaGreatDoor
namespace PW
open Go.RowKit cA Mem Net
section
variable {T:ai} {D:List Bool}
theorem Ch.snoc{d n:Nat}{q:List Int}(h:Ch T D d n q):∀ {a x:Nat},(q=[]∨dc T d=false)→a<2*T.af.length→bq T a=(d:Int)→aX D a=false→aS T a=(x:Int)→Ch T D x n (q++[(a:Int)]):=by
 induction h with
 |nil=>intro a x _ h1 h2 h3 h4;exact .cons h1 h2 h3 h4 (.inl rfl) .nil
 | @cons n b m p hb ht hu hm ho hp ih=>
  intro a x hov h1 h2 h3 h4
  have hov':dc T d=false:=by rcases hov with h|h;cases h;exact h
  refine .cons hb ht hu hm ?_ (ih (.inr hov') h1 h2 h3 h4)
  rcases ho with h|h
  ·have:=hp.to h
   subst this
   exact .inr hov'
  ·exact .inr h
theorem G4(hv:ao T=true){n:Nat}(hn:(n:Int)<T.nodes){d m:Nat}{p:List Int}(h:Ch T D d m p)(h0:0≤at' (bK T D n true) (m:Int))(ho:p=[]∨m=n∨dc T m=false):0≤at' (bK T D n true) (d:Int):=by
 have hI:=jL (aJ hv) D true hn
 induction h with
 |nil=>exact h0
 | @cons m a m' p ha ht hu hm hov hp ih=>
  have hw:=hI.closed a ha ⟨hu,by simp only[cN,if_true];rw[ht];exact h0,by
   simp only[cN,if_true];rw[ht]
   rcases ho with h|h|h
   ·cases h
   ·exact .inl (by rw[h])
   ·exact .inr (by simpa using h)⟩
  simp only[fj,if_true]at hw
  rw[hm]at hw
  refine ih hw.1 ?_
  rcases hov with h|h
  ·exact .inl h
  ·exact .inr (.inr h)
theorem Ha(hv:ao T=true){n:Nat}(hn:(n:Int)<T.nodes):∀(k x:Nat),(x:Int)<T.nodes→0≤at' (bK T D n true) (x:Int)→at' (bK T D n true) (x:Int)≤k→0≤dN T D x n:=by
 have hS:=aJ hv
 have hI:=jL hS D true hn
 intro k
 induction k with
 |zero=>
  intro x hx h0 hk
  rcases hI.mq x hx h0 with h|⟨a,ha,hX,hW,hs⟩
  ·subst h;rw[jW hv hn];exact Int.le_refl _
  ·have:=(hS.cost a ha).1
   have:=hW.2.1
   omega
 |succ k ih=>
  intro x hx h0 hk
  rcases hI.mq x hx h0 with h|⟨a,ha,hX,hW,hs⟩
  ·subst h;rw[jW hv hn];exact Int.le_refl _
  ·simp only[fj,cN,if_true]at hX hs
   obtain⟨hu,hy0,hyo⟩:=hW
   simp only[cN,if_true]at hy0 hyo
   have hc:=(hS.cost a ha).1
   have ht:=hS.tail a ha
   obtain⟨y,hy⟩:=Int.eq_ofNat_of_zero_le ht.1
   rw[hy]at hy0 hyo hs ht
   have hyN:(y:Int)<T.nodes:=ht.2
   have h1:=ih y hyN hy0 (by omega)
   have hsp:=ee (D:=D) hv hyN hn h1
   have hc2:=hsp.ch.snoc (a:=a) (x:=x) (by
    rcases hyo with h|h
    ·have:y=n:=by omega
     subst this
     exact .inl hsp.self
    ·exact .inr (by simpa using h)) ha hy hu hX
   exact(hc2.le hv hx).1
theorem D6(hv:ao T=true){n d:Nat}(hn:(n:Int)<T.nodes)(hd:(d:Int)<T.nodes):0≤(bK T D n true).getD d 0↔0≤dN T D d n:=by
 have hS:=aJ hv
 have hI:=jL hS D true hn
 have hl:=hI.len
 have e:(bK T D n true).getD d 0=at' (bK T D n true) (d:Int):=by
  unfold at'
  rw[Int.toNat_natCast,List.getD_eq_getElem?_getD,List.getD_eq_getElem?_getD,List.getElem?_eq_getElem (by omega)]
  rfl
 rw[e]
 constructor
 ·intro h0
  exact Ha hv hn (at' (bK T D n true) (d:Int)).toNat d hd h0 (by have:=Int.toNat_of_nonneg h0;omega)
 ·intro h0
  have hsp:=ee (D:=D) hv hd hn h0
  refine G4 hv hn hsp.ch ?_ (.inr (.inl rfl))
  rw[hI.root]
  exact Int.le_refl _
end
end PW
end Go.Proofs.YtnegbdpggideiaaGreatDoor
namespace Go.Proofs.YtnegbdpggideiaaGreatDoor
namespace PW
open Go.RowKit cA Mem Net eS
def fM(T:ai)(a:Nat):Int:=(cr T.af (a / 2)).tX
noncomputable def ma(T:ai)(D:List Bool)(n d:Int):Bool:=decide (ir T D n d=0)
noncomputable def iP(T:ai)(a:Nat)(d:Int):Int×Int:=
 if(decide (0<fM T a)&&ma T (aT T 3 (fM T a)) (bq T a) d)=true then(3,fM T a)
 else if(decide (aS T a≠d)&&ma T (aT T 2 (aS T a)) (bq T a) d)=true then(2,aS T a)
 else(1,((a / 2:Nat):Int))
def kd(T:ai)(M:List Bool)(n:Int):List Bool:=(List.range (2*T.af.length)).map fun a=>aX M a&&decide (bq T a=n)
def orM(T:ai)(D E:List Bool):List Bool:=(List.range (2*T.af.length)).map fun a=>aX D a||aX E a
theorem Df{f:Nat→Bool}{n a:Nat}:aX ((List.range n).map f) a=(decide (a<n)&&f a):=by
 unfold aX
 rw[List.getD_eq_getElem?_getD,List.getElem?_map]
 by_cases h:a<n
 ·rw[List.getElem?_range h];simp[h]
 ·rw[List.getElem?_eq_none (by simp;omega)];simp[h]
theorem vK{T:ai}{f:Nat→Bool}:bX T ((List.range (2*T.af.length)).map f)=true:=by simp[bX]
theorem C9{T:ai}{M:List Bool}{n:Int}{a:Nat}:aX (kd T M n) a=(decide (a<2*T.af.length)&&(aX M a&&decide (bq T a=n))):=Df
theorem fK(T:ai)(k x:Int):bX T (aT T k x)=true:=vK
theorem EL(T:ai)(D E:List Bool):bX T (orM T D E)=true:=vK
theorem Fk{T:ai}{D:List Bool}{x y:Nat}(hv:ao T=true)(hf:bX T D=true)(hx:(x:Int)<T.nodes)(hy:(y:Int)<T.nodes):ma T D x y=true↔0≤dN T D y x:=by
 unfold ma
 rw[decide_eq_true_eq,kP hv hf hx hy]
 split<;>omega
theorem rU{T:ai}(hv:ao T=true){a:Nat}(ha:a<2*T.af.length):0≤fM T a∧fM T a≤64:=by
 have h:=ph hv (a / 2) (by omega)
 unfold fM
 unfold ic at h
 rw[Bool.and_eq_true]at h
 unfold bO at h
 exact of_decide_eq_true h.2
theorem Bv{T:ai}(hv:ao T=true){a:Nat}(ha:a<2*T.af.length)(d:Int):bV T (iP T a d).1 (iP T a d).2=true:=by
 have hg:=rU hv ha
 unfold iP
 split
 ·rename_i h
  rw[Bool.and_eq_true,decide_eq_true_eq]at h
  show bV T 3 (fM T a)=true
  unfold bV
  simp only[if_neg (show ¬(3:Int)=1 by decide),if_neg (show ¬(3:Int)=2 by decide),if_true,Bool.and_eq_true,decide_eq_true_eq]
  exact⟨by omega,by omega⟩
 ·split
  ·obtain⟨h0,h1⟩:=(aJ hv).head a ha
   show bV T 2 (aS T a)=true
   unfold bV
   simp only[if_neg (show ¬(2:Int)=1 by decide),if_true]
   exact aW.2 ⟨h0,h1⟩
  ·show bV T 1 ((a / 2:Nat):Int)=true
   unfold bV
   simp only[if_true,Bool.and_eq_true,decide_eq_true_eq]
   exact⟨by omega,by omega⟩
def me(own:List Bool)(l:List Int):Option Int:=l.find? fun a=>aX own a.toNat
noncomputable def xf(T:ai)(own:List Bool)(n d:Int)(a:Nat):List Bool:=
 if ma T (orM T (aT T (iP T a d).1 (iP T a d).2) own) n d=true then orM T (aT T (iP T a d).1 (iP T a d).2) own else own
noncomputable def qg(T:ai)(own:List Bool)(n d:Nat):iw:=match me own (bL T [] n d)with
 |none=>⟨bL T [] n d,false,[]⟩
 |some a=>j9 T (xf T own n d a.toNat) n d
noncomputable def oo(T:ai)(own:List Bool)(n k:Nat):List iw:=(List.range k).map fun d=>qg T own n d
theorem Af(T:ai)(own:List Bool)(n k:Nat):oo T own n (k+1)=oo T own n k++[qg T own n k]:=by simp[oo,List.range_succ]
theorem qG(T:ai)(own:List Bool)(n k:Nat):(oo T own n k).length=k:=by simp[oo]
theorem vl{T:ai}{own:List Bool}{n k d:Nat}(h:d<k):(oo T own n k)[d]? =some (qg T own n d):=by simp[oo,h]
noncomputable def sM(T:ai)(M:List Bool)(n:Nat):dR:=⟨n,oo T (kd T M n) n T.nodes.toNat,cG M (bm T n)⟩
section
variable {T:ai} {M own:List Bool} {n d:Nat}
theorem Cy(hf:bX T own=true)(a:Nat):bX T (xf T own n d a)=true:=by
 unfold xf;split
 ·exact EL _ _ _
 ·exact hf
theorem Cu{l:List Int}{a:Int}(h:me own l=some a):a∈l∧aX own a.toNat=true:=⟨List.mem_of_find?_eq_some h,by have:=List.find?_some (p:=fun a:Int=>aX own a.toNat) h;exact this⟩
theorem GX(hv:ao T=true)(h12:T.nodes≤12):iO T n d (qg T own n d)=true:=by
 unfold qg
 cases me own (bL T [] n d)with
 |some b=>exact Cd _ _ _ _ h12
 |none=>
  unfold iO
  simp only[qK,Bool.true_and]
  by_cases hdn:d=n
  ·subst hdn;rw[jE];simp
  ·rw[decide_eq_false (by omega)];simp
theorem AA(hv:ao T=true)(h12:T.nodes≤12)(hn:(n:Int)<T.nodes):ef T (sM T M n)=true:=by
 unfold ef sM
 have h1:bu T (n:Int)=true:=aW.2 ⟨by omega,hn⟩
 have hN:=(aJ hv).nodes
 have h2:decide (((oo T (kd T M n) n T.nodes.toNat).length:Int)=T.nodes)=true:=decide_eq_true (by rw[qG];omega)
 have h3:eI T n (cG M (bm T n))=true:=lY T n _
 have h4:mv T n (oo T (kd T M n) n T.nodes.toNat)=true:=iM fun d e he=>by
  have hd:d<T.nodes.toNat:=by
   have:=(List.getElem?_eq_some_iff.1 he).1
   rwa [qG]at this
  rw[vl hd]at he
  cases he
  exact GX hv h12
 rw[hv,h1,h2,h3,h4]
 rfl
end
end PW
end Go.Proofs.YtnegbdpggideiaaGreatDoor
namespace Go.Proofs.YtnegbdpggideiaaGreatDoor
namespace PW
open Go.RowKit cA Mem Net
section
variable {T:ai} {D:List Bool}
theorem gY.tail{n y m:Nat}{a:Int}{p:List Int}(h:gY T D n y (a::p))(hm:aS T a.toNat=(m:Int)):(p=[]∧m=y)∨gY T D m y p:=by
 have hsp:=h.sp
 cases hsp with
 | @cons n a m' p hnr hh hp=>
  rw[Int.toNat_natCast,hh]at hm
  have e:m'=m:=by omega
  subst e
  cases p with
  |nil=>cases hp;exact .inl ⟨rfl,rfl⟩
  |cons b p=>
   refine .inr ?_
   have hpt:=h.part (i:=1) (k:=p.length+1) (by omega) (by simp)
   have hb:∃b':Nat,b=(b':Int)∧bq T b'=(m':Int):=by
    cases hp with
    |cons hn2 _ _=>exact⟨_,rfl,hn2.tail⟩
   obtain⟨b',rfl,hbt⟩:=hb
   have hfin:=h.sp.ch.fin
   have hlast:aS T (((a:Int)::(b':Int)::p).getD (p.length+1) 0).toNat=(y:Int):=by
    rw[←hfin]
    have:=fF T (n:Int) ((a:Int)::(b':Int)::p) (p.length+1) (by simp)
    rw[←this,List.take_of_length_le (by simp)]
   rw[hlast]at hpt
   have e1:bq T (((a:Int)::(b':Int)::p).getD 1 0).toNat=(m':Int):=hbt
   rw[e1]at hpt
   obtain⟨u,v,e3,e4,hs,_⟩:=yu hpt
   have e5:m'=u:=by omega
   have e6:y=v:=by omega
   subst e5;subst e6
   have:=hs.sp.unique hs.valid hs.hy hp hs.lL
   rw[this]at hs
   exact hs
theorem gY.FU{E:List Bool}{n y:Nat}{p:List Int}(h:gY T D n y p)(hf:bX T E=true)(hE:∀a,aX D a=false→aX E a=false):gY T E n y p:=
 ⟨h.valid,hf,h.ne,h.hx,h.hy,h.uniq,h.sp,fun a ha=>hE _ (h.up a ha)⟩
inductive tT (T:ai) (D:List Bool) (d:Nat):Nat→List bW→List Int→Prop
 |nil:tT T D d d [] []
 |node {n y:Nat} {p q:List Int} {l:List bW}:gY T D n y p→tT T D d y l q→tT T D d n (⟨1,(y:Int)⟩::l) (p++q)
 |gH {n a m:Nat} {q:List Int} {l:List bW}:a<2*T.af.length→bq T a=(n:Int)→aX D a=false→aS T a=(m:Int)→tT T D d m l q→tT T D d n (⟨2,(a:Int)⟩::l) ((a:Int)::q)
theorem tT.len{d n:Nat}{l:List bW}{q:List Int}(h:tT T D d n l q):l.length≤q.length:=by
 induction h with
 |nil=>exact Nat.le_refl _
 |node hs _ ih=>have:=hs.pos;simp only[List.length_cons,List.length_append];omega
 |gH _ _ _ _ _ ih=>simp only[List.length_cons];omega
theorem tT.skip{d n:Nat}{l:List bW}{q:List Int}(h:tT T D d n l q):fq ⟨1,(n:Int)⟩ l=l:=by
 cases h with
 |nil=>rfl
 |node hs _=>
  have hne:=hs.ne
  simp only[fq]
  rw[if_neg (fun e=>by cases e;exact hne rfl)]
 |gH _ _ _ _ _=>
  simp only[fq]
  rw[if_neg (fun e=>by cases e)]
theorem tT.end_{d n:Nat}{l:List bW}(h:tT T D d n l []):l=[]∧n=d:=by
 generalize hq:([]:List Int)=q at h
 cases h with
 |nil=>exact⟨rfl,rfl⟩
 |node hs _=>
  have:=hs.pos
  have h2:=congrArg List.length hq
  simp only[List.length_nil,List.length_append]at h2
  omega
 |gH _ _ _ _ _=>cases hq
structure Ec (T:ai) (D:List Bool) (n:Nat) (x:dR):Prop where
 ok:ef T x=true
 node:x.node=(n:Int)
 down:∀a:Nat,(a:Int)∈x.down→aX D a=true
 H5:∀(y:Nat) p,gY T D n y p→(eO x (y:Int)).aK=[p.getD 0 0]∧((eO x (y:Int)).rep=true→(eO x (y:Int)).push=[⟨1,(y:Int)⟩])
theorem uf{n d:Nat}{x:dR}(hx:Ec T D n x)(hd:(d:Int)<T.nodes){p:fh}(hp:p.dst=(d:Int))(hn:n=d)(hl:fq ⟨1,(n:Int)⟩ p.stack=[])(h32:p.stack.length≤32):(fX T x p).aK=[]∧(fX T x p).dJ= -1:=by
 have hdb:bu T p.dst=true:=aW.2 ⟨by omega,by omega⟩
 unfold fX
 rw[hx.ok,hdb,hx.node,hl,if_neg (by simp),if_neg (by omega)]
 unfold eU
 rw[if_pos (by rw[hp,hx.node,hn];simp)]
 exact⟨rfl,rfl⟩
theorem AZ{n d:Nat}{x:dR}(hx:Ec T D n x)(hd:(d:Int)<T.nodes){p:fh}(hp:p.dst=(d:Int))(hh:p.gA=0){l:List bW}{a:Int}{q:List Int}(hl:fq ⟨1,(n:Int)⟩ p.stack=l)(h:tT T D d n l (a::q))(h32:p.stack.length≤32):
  ∃(m:Nat) (s:List bW),aS T a.toNat=(m:Int)∧0≤a∧a.toNat<2*T.af.length∧bq T a.toNat=(n:Int)∧aX D a.toNat=false∧fX T x p=eA p s [a]∧s.length≤p.stack.length∧tT T D d m (fq ⟨1,(m:Int)⟩ s) q:=by
 have hdb:bu T p.dst=true:=aW.2 ⟨by omega,by omega⟩
 have hsl:=uL ⟨1,(n:Int)⟩ p.stack
 rw[hl]at hsl
 unfold fX
 rw[hx.ok,hdb,hx.node,hl,if_neg (by simp),if_neg (by omega)]
 generalize eU T x p [] (gJ p 1)=K
 generalize hq:a::q=q0 at h
 cases h with
 |nil=>cases hq
 | @node n y pp q1 l1 hs hr=>
  obtain⟨p0,pt,rfl⟩:∃p0 pt,pp=p0::pt:=by
   cases pp with
   |nil=>exact absurd hs.pos (by simp)
   |cons p0 pt=>exact⟨p0,pt,rfl⟩
  simp only[List.cons_append,List.cons.injEq]at hq
  obtain⟨rfl,rfl⟩:=hq
  have hyb:bu T (y:Int)=true:=aW.2 ⟨by omega,hs.hy⟩
  obtain⟨e1,e2⟩:=hx.H5 y _ hs
  have ha:∃a' m:Nat,a=(a':Int)∧a'<2*T.af.length∧bq T a'=(n:Int)∧aS T a'=(m:Int):=by
   have:=hs.sp
   cases this with
   |cons hnr hh _=>exact⟨_,_,rfl,hnr.gH,hnr.tail,hh⟩
  obtain⟨a',m,rfl,ha1,ha2,ha3⟩:=ha
  have hup:=hs.up (a':Int) (by simp)
  rw[Int.toNat_natCast]at hup ⊢
  have hskip:tT T D d m (fq ⟨1,(m:Int)⟩ (⟨1,(y:Int)⟩::l1)) (pt++q1):=by
   rcases hs.tail (m:=m) (by rw[Int.toNat_natCast];exact ha3)with⟨rfl,rfl⟩|ht
   ·simp only[fq,if_true,List.nil_append]
    rw[hr.skip]
    exact hr
   ·rw[(tT.node ht hr).skip]
    exact .node ht hr
  have hgo:eU T x p (⟨1,(y:Int)⟩::l1) K=eA p (⟨1,(y:Int)⟩::l1) [(a':Int)]:=by
   unfold eU
   rw[if_neg (by simp;intro h;omega),if_neg (by rw[hh];simp)]
   dsimp only
   rw[if_pos rfl]
   unfold Hm
   rw[hyb,e1,if_pos (by simp)]
   unfold iS
   rw[e1]
   by_cases hrp:(eO x (y:Int)).rep=true
   ·rw[if_pos hrp,e2 hrp]
    have hlen:([⟨1,(y:Int)⟩]++(⟨1,(y:Int)⟩::l1:List bW).drop 1)=(⟨1,(y:Int)⟩::l1:List bW):=rfl
    rw[hlen,if_neg (by omega)]
    rfl
   ·rw[if_neg hrp]
    rfl
  exact⟨m,_,ha3,by omega,ha1,ha2,hup,hgo,hsl,hskip⟩
 | @gH n a' m q1 l1 h1 h2 h3 h4 h5=>
  simp only[List.cons.injEq]at hq
  obtain⟨rfl,rfl⟩:=hq
  rw[Int.toNat_natCast]
  have hab:eR T (a':Int)=true:=cI.2 ⟨by omega,by omega⟩
  have hgo:eU T x p (⟨2,(a':Int)⟩::l1) K=eA p l1 [(a':Int)]:=by
   unfold eU
   rw[if_neg (by simp;intro h;omega),if_neg (by rw[hh];simp)]
   dsimp only
   rw[if_neg (by decide),if_pos rfl,hab,Int.toNat_natCast,h2,hx.node,if_neg (by simp),if_neg (fun hm=>by rw[hx.down a' hm]at h3;cases h3)]
  refine⟨m,l1,h4,by omega,h1,h2,h3,hgo,by simp only[List.length_cons]at hsl;omega,?_⟩
  rw[h5.skip]
  exact h5
theorem tg{n:Int}{p:List Int}{d:Nat}(hF:mI T D n p)(hfin:b7 T n p=(d:Int)):∀(f i u:Nat),p.length - i≤f→i≤p.length→b7 T n (p.take i)=(u:Int)→tT T D d u (gU T [] n p f i) (p.drop i)
 |f,i,u,hf,hi,hu=>by
  by_cases hlt:i<p.length
  ·cases f with
   |zero=>omega
   |succ f=>
    have ha:=hF.aK
    cases ht:ky (eB T [] n p i) i p.length with
    |none=>
     rw[kG hlt (fun k h1 h2=>jf _ ht k h1 h2)]
     obtain⟨v,hv,_⟩:=cc hF.valid hF.node ha (i+1) (by omega)
     have h1:=fF T n p i hlt
     rw[hv]at h1
     have h2:=lM hF hlt hu
     have hm:=bU (d:=0) hlt
     have h3:=cI.1 (ha _ hm)
     have h4:=hF.up _ hm
     have h5:=tg hF hfin f (i+1) v (by omega) (by omega) hv
     rw[drop_cons p i hlt]
     obtain⟨a,hae⟩:=Int.eq_ofNat_of_zero_le h3.1
     rw[hae]at h1 h2 h3 h4 ⊢
     rw[Int.toNat_natCast]at h1 h2 h4
     exact .gH (by omega) h2 h4 h1.symm h5
    |some j=>
     obtain⟨t1,t2,t3,t4⟩:=nd _ _ ht
     rw[jJ hlt t1 t2 t3 t4]
     obtain⟨v,hv,_⟩:=cc hF.valid hF.node ha j t2
     have hc:=pL hF t1 t2 hu hv
     rw[t3,Bool.and_eq_true]at hc
     obtain⟨h1,h2⟩:=hc
     obtain⟨a,b,e1,e2,hs,_⟩:=yu h1
     have e1:u=a:=by omega
     have e2:v=b:=by omega
     subst e1;subst e2
     have e3:ct T [] u v=dX p i j:=of_decide_eq_true h2
     rw[e3]at hs
     have h5:=tg hF hfin f j v (by omega) t2 hv
     have e4:p.drop i=dX p i j++p.drop j:=by
      unfold dX
      have:=List.take_append_drop (j - i) (p.drop i)
      rw[List.drop_drop,show i+(j - i)=j by omega]at this
      exact this.symm
     rw[hv,e4]
     exact .node hs h5
  ·have e:i=p.length:=by omega
   subst e
   rw[List.take_length,hfin]at hu
   have e:d=u:=by omega
   subst e
   rw[nE _ _ (Nat.le_refl _),List.drop_length]
   exact .nil
end
end PW
end Go.Proofs.YtnegbdpggideiaaGreatDoor
namespace Go.Proofs.YtnegbdpggideiaaGreatDoor
namespace eS
open Go.RowKit Go.Shelf Net
attribute [local go_sem] Oper.semAt_some
end eS
end Go.Proofs.YtnegbdpggideiaaGreatDoor
namespace Go.Proofs.YtnegbdpggideiaaGreatDoor
namespace PW
open Go.RowKit cA Mem
inductive Up (k:Nat):PV→PV→Prop
 |pure {p:PV} [IsPure p]:Up k p p
 |own {i j:Nat}:j=k+i→Up k (.own i) (.own j)
 |ptr {i j o:Nat}:j=k+i→Up k (.ptr i o) (.ptr j o)
 |agg {xs ys:List PV} (hl:ys.length=xs.length) (hs:∀(j:Nat) x y,xs[j]? =some x→ys[j]? =some y→Up k x y):Up k (.agg xs) (.agg ys)
 |tuple {xs ys:List PV} (hl:ys.length=xs.length) (hs:∀(j:Nat) x y,xs[j]? =some x→ys[j]? =some y→Up k x y):Up k (.tuple xs) (.tuple ys)
 |func {f:FuncId} {xs ys:List PV} (hl:ys.length=xs.length) (hs:∀(j:Nat) x y,xs[j]? =some x→ys[j]? =some y→Up k x y):Up k (.func f xs) (.func f ys)
def kA(k:Nat)(xs ys:List PV):Prop:=ys.length=xs.length∧∀(j:Nat) x y,xs[j]? =some x→ys[j]? =some y→Up k x y
theorem kA.nil{k:Nat}:kA k [] []:=⟨rfl,fun j x y h=>by simp at h⟩
theorem kA.cons{k:Nat}{x y:PV}{xs ys:List PV}(h:Up k x y)(hs:kA k xs ys):kA k (x::xs) (y::ys):=⟨by simp[hs.1],fun j a b h1 h2=>by
 cases j with
 |zero=>simp at h1 h2;subst h1;subst h2;exact h
 |succ j=>exact hs.2 j a b (by simpa using h1) (by simpa using h2)⟩
theorem kA.pure{k:Nat}{xs:List PV}[h:aG xs]:kA k xs xs:=⟨rfl,fun j x y h1 h2=>by
 rw[h1]at h2;cases h2
 haveI:=h.out j x h1
 exact Up.pure⟩
theorem Up.jb{k:Nat}{xs ys:List PV}(h:kA k xs ys):Up k (.agg xs) (.agg ys):=.agg h.1 h.2
theorem Up.bG{k:Nat}{xs ys:List PV}(h:kA k xs ys):Up k (.tuple xs) (.tuple ys):=.tuple h.1 h.2
inductive Hu (k:Nat):cR→cR→Prop
 |cells {ty:TypeId} {xs ys:List PV}:kA k xs ys→Hu k (.cells ty xs) (.cells ty ys)
 |row {e s n:Nat} {xs ys:List PV}:kA k xs ys→Hu k (.row e s n xs) (.row e s n ys)
 |mp {kv:List (Value×PV)} [aG (kv.map (·.2))]:Hu k (.mp kv) (.mp kv)
def mL(k:Nat)(xs ys:List cR):Prop:=ys.length=xs.length∧∀(j:Nat) x y,xs[j]? =some x→ys[j]? =some y→Hu k x y
theorem mL.nil{k:Nat}:mL k [] []:=⟨rfl,fun j x y h=>by simp at h⟩
theorem mL.cons{k:Nat}{x y:cR}{xs ys:List cR}(h:Hu k x y)(hs:mL k xs ys):mL k (x::xs) (y::ys):=⟨by simp[hs.1],fun j a b h1 h2=>by
 cases j with
 |zero=>simp at h1 h2;subst h1;subst h2;exact h
 |succ j=>exact hs.2 j a b (by simpa using h1) (by simpa using h2)⟩
section
variable {E E1 E2:Env} {w:World} {k:Nat}
theorem Up.rep(hat:∀i,i<E1.L→E2.at_ (k+i)=E1.at_ i∧k+i<E2.L)(hM:∀b,E2.M b→E1.M b){p q:PV}(h:Up k p q):∀v,cz E1 w v p→cz E2 w v q:=by
 induction h with
 | @pure p hp=>
  intro v h
  have:=hp.out E1 E2.M w v hM h
  exact this.goes (E:=EF E2.M) (E':=E2) (w:=w) (w':=w) ⟨Nat.zero_le _,fun i hi=>absurd hi (Nat.not_lt_zero i),fun _ _ h=>h,Nat.le_refl _,fun _ _ _=>rfl⟩
 | @own i j hij=>
  intro v h
  subst hij
  cases h with
  |own _ hi _ h hs=>exact .own _ (hat i hi).2 v ((hat i hi).1.trans h) hs
 | @ptr i j o hij=>
  intro v h
  subst hij
  cases h with
  |ptr _ _ b hi h=>exact .ptr _ o b (hat i hi).2 (by rw[(hat i hi).1];exact h)
 | @agg xs ys hl _ ih=>
  intro v h
  cases h with
  |agg cs _ hl' hr=>exact .agg cs ys (hl'.trans hl.symm) (fun j c u h1 h2=>by
    have hj:j<xs.length:=by rw[←hl];exact(List.getElem?_eq_some_iff.1 h2).1
    exact ih j xs[j] u (by simp[hj]) h2 c (hr j c _ h1 (by simp[hj])))
 | @tuple xs ys hl _ ih=>
  intro v h
  cases h with
  |tuple cs _ hl' hr=>exact .tuple cs ys (hl'.trans hl.symm) (fun j c u h1 h2=>by
    have hj:j<xs.length:=by rw[←hl];exact(List.getElem?_eq_some_iff.1 h2).1
    exact ih j xs[j] u (by simp[hj]) h2 c (hr j c _ h1 (by simp[hj])))
 | @func f xs ys hl _ ih=>
  intro v h
  cases h with
  |func _ cs _ hl' hr=>exact .func f cs ys (hl'.trans hl.symm) (fun j c u h1 h2=>by
    have hj:j<xs.length:=by rw[←hl];exact(List.getElem?_eq_some_iff.1 h2).1
    exact ih j xs[j] u (by simp[hj]) h2 c (hr j c _ h1 (by simp[hj])))
theorem kA.rep(hat:∀i,i<E1.L→E2.at_ (k+i)=E1.at_ i∧k+i<E2.L)(hM:∀b,E2.M b→E1.M b){xs ys:List PV}(h:kA k xs ys){cs:List Value}(hs:aU E1 w cs xs):aU E2 w cs ys:=⟨hs.1.trans h.1.symm,fun j c u h1 h2=>by
 have hj:j<xs.length:=by rw[←h.1];exact(List.getElem?_eq_some_iff.1 h2).1
 exact(h.2 j xs[j] u (by simp[hj]) h2).rep hat hM c (hs.2 j c _ h1 (by simp[hj]))⟩
theorem Hu.sat{base base':Nat}(hb:base'≤base)(hat:∀i,i<E1.L→E2.at_ (k+i)=E1.at_ i∧k+i<E2.L)(hM:∀b,E2.M b→E1.M b){v:Value}{x y:cR}(h:Hu k x y)(hs:fN base E1 w v x):fN base' E2 w v y:=by
 cases h with
 |cells h1=>
  obtain⟨b,cs,h2,h3,h4,h5⟩:=hs
  exact⟨b,cs,h2,by omega,h4,h1.rep hat hM h5⟩
 |row h1=>
  obtain⟨cs,h2,h3⟩:=hs
  refine⟨cs,⟨h2.1,?_⟩,h1.rep hat hM h3⟩
  rcases h2.2 with h|⟨g,cap,cur,a1,a2,a3⟩
  ·exact .inl h
  ·exact .inr ⟨g,cap,cur,a1,by omega,a3⟩
 | @mp kv hp=>
  obtain⟨r,es,ck,h2,h3,h4,h5,h6⟩:=hs
  exact⟨r,es,ck,h2,by omega,h4,h5,kA.pure (k:=k).rep hat hM h6⟩
end
theorem bS.frame{P:Program}{f:FuncId}{ps:List PV}{σ:cd}{R:PV→cd→Prop}[aG ps]
  (h:bS P f ps [] (fun r σ1=>∃bs,σ1=bs.map some∧∃r' bs',Up σ.length r r'∧mL σ.length bs bs'∧R r' (σ++bs'.map some))):bS P f ps σ R:=fun F base E w vs hS hR=>by
 refine(h E.M w.heap.size (EF E.M) w vs (Sat.start E.M w (fun b hb=>hS.lt hb) hS.gl) (hR.pure (fun _ h=>h))).mono ?_
 rintro e w' ⟨v,r,σ1,E1,rfl,⟨bs,rfl,r',bs',hu,hbu,hRr⟩,hS1,hg1,hB1,hv⟩
 have hE:Ext w w':=hB1
 have hL1:E1.L=bs.length:=by rw[hS1.len];simp
 have hlen:((List.range bs.length).map E1.at_).length=bs'.length:=by rw[List.length_map,List.length_range,hbu.1]
 have hget:∀(i:Nat) v,((List.range bs.length).map E1.at_)[i]? =some v→i<bs.length∧v=E1.at_ i:=fun i v hi=>by
  have hi':i<bs.length:=by have:=(List.getElem?_eq_some_iff.1 hi).1;simpa using this
  rw[List.getElem?_map,List.getElem?_range hi']at hi
  cases hi
  exact⟨hi',rfl⟩
 have hbk:∀i,i<bs.length→∃x,bs[i]? =some x∧(bs.map some)[i]? =some (some x):=fun i hi=>⟨bs[i],by simp[hi],by simp[hi]⟩
 have hat:∀i,i<E1.L→(E.dU ((List.range bs.length).map E1.at_)).at_ (σ.length+i)=E1.at_ i∧σ.length+i<(E.dU ((List.range bs.length).map E1.at_)).L:=fun i hi=>by
  rw[hL1]at hi
  refine⟨?_,?_⟩
  ·simp only[Env.dU,hS.len]
   rw[if_neg (by omega),Nat.add_sub_cancel_left,List.getD_eq_getElem?_getD,List.getElem?_map,List.getElem?_range hi]
   rfl
  ·simp only[Env.dU,hS.len,List.length_map,List.length_range];omega
 have hM:∀b,(E.dU ((List.range bs.length).map E1.at_)).M b→E1.M b:=fun b hb=>by
  rcases hb with hb|⟨v,hv1,hv2⟩
  ·exact(hS1.mm b).2 (.inl hb)
  ·obtain⟨i,hi⟩:=List.getElem?_of_mem hv1
   obtain⟨hi1,rfl⟩:=hget i v hi
   obtain⟨x,_,hx⟩:=hbk i hi1
   exact(hS1.mm b).2 (.inr ⟨i,x,hx,hv2⟩)
 have hp:=hS.dU hE ((List.range bs.length).map E1.at_) bs' hlen
  (fun v hv1 b hb=>by
   obtain⟨i,hi⟩:=List.getElem?_of_mem hv1
   obtain⟨hi1,rfl⟩:=hget i v hi
   obtain⟨x,_,hx⟩:=hbk i hi1
   exact((hS1.blk i x hx).lt hb).1)
  (fun i j u v b hi hj hu hv=>by
   obtain⟨hi1,rfl⟩:=hget i u hi
   obtain⟨hj1,rfl⟩:=hget j v hj
   obtain⟨x,_,hx⟩:=hbk i hi1
   obtain⟨y,_,hy⟩:=hbk j hj1
   exact hS1.inj i j x y b hx hy hu hv)
  (fun i v blk hi hb=>by
   obtain⟨hi1,rfl⟩:=hget i v hi
   obtain⟨x,hx0,hx⟩:=hbk i hi1
   exact(hbu.2 i x blk hx0 hb).sat hS.bl hat hM (hS1.blk i x hx))
 exact⟨v,r',_,_,rfl,hRr,hp.1,hp.2,Below.ij hE hS.bl,hu.rep hat hM v hv⟩
end PW
end Go.Proofs.YtnegbdpggideiaaGreatDoor
namespace Go.Proofs.YtnegbdpggideiaaGreatDoor
namespace PW
open Go.RowKit cA Mem Net
theorem mJ(T:ai)(D:List Bool)(n:Int):Can Tryz.prog 53 [aP T,bf D,num n] (· = .tuple [fA (gC T D n),num (cO T D [n])]):=by
 refine aF Tryz.func53 rfl Tryz.ntmps53 rfl<|aQ<|au 3 rfl<|aH [1,2,3,6] rfl ?_
 refine aj ?_
 obtain⟨q1,hq1⟩:∃q,ao T=q:=⟨_,rfl⟩
 obtain⟨q2,hq2⟩:∃q,bX T D=q:=⟨_,rfl⟩
 refine bC 22 (.raw (.bool ((!q1)||(!q2)))) [1,2,3,6] rfl ?_ ?_
 ·refine .a 1 rfl<|.c rfl (hq1▸de T) rfl<|.a 2 rfl<|?_
  cases q1
  ·exact .a 5 rfl<|.k [22,1,2,3,6] rfl
  ·exact .a 2 rfl<|.c rfl (hq2▸kX T D (by have:=bN hq1;omega)) rfl<|.a 2 rfl<|.k [22,1,2,3,6] rfl
 refine ah rfl (fun hc=>?_) (fun hc=>?_)
 ·have hch:cO T D [n]=1:=by
   unfold cO
   rw[hq1,hq2,if_neg]
   revert hc
   cases q1<;>cases q2<;>simp
  refine aQ<|au 3 rfl<|aH [6,7] rfl ?_
  exact aq<|⟨_,_,aA.of rfl,aB.bG (an.cons (aB.jb (an.cons aB.pure<|an.cons aB.b9<|an.cons aB.b9 an.nil)) (an.cons aB.pure an.nil)),by unfold gC;rw[hch];rfl⟩
 ·have hok:(ao T&&bX T D)=true:=by
   rw[hq1,hq2]
   revert hc
   cases q1<;>cases q2<;>simp
  clear hc hq1 hq2
  refine ak<|aj<|ab (.a 2 rfl<|.c rfl (da T n) rfl<|.a 1 rfl<|.k [1,2,3,6,27] rfl)<|ah rfl (fun hc=>?_) (fun hc=>?_)
  ·have hn:bu T n=false:=by revert hc;cases bu T n<;>simp
   have hch:cO T D [n]=2:=by
    unfold cO
    rw[if_pos hok,if_neg]
    simp[hn]
   refine aQ<|au 3 rfl<|aH [6,7] rfl ?_
   exact aq<|⟨_,_,aA.of rfl,aB.bG (an.cons (aB.jb (an.cons aB.pure<|an.cons aB.b9<|an.cons aB.b9 an.nil)) (an.cons aB.pure an.nil)),by unfold gC;rw[hch];rfl⟩
  ·have hn:bu T n=true:=by revert hc;cases bu T n<;>simp
   have hch:cO T D [n]=0:=by
    unfold cO
    rw[if_pos hok,if_pos]
    simp[hn]
   obtain⟨hv,hf⟩:=Bool.and_eq_true_iff.1 hok
   rw[aW]at hn
   obtain⟨m,rfl⟩:=Int.eq_ofNat_of_zero_le hn.1
   obtain⟨N,hN⟩:∃N:Nat,T.nodes=(N:Int):=⟨T.nodes.toNat,by omega⟩
   have hN64:N≤64:=by have:=(aJ hv).nodes;omega
   have hll:=bN hv
   refine ak<|aQ<|au 4 rfl<|aH [1,2,3,6,8] rfl ?_
   refine cm 1 1 76 3 rfl rfl ?_
   refine cm 1 2 3 1 rfl rfl ?_
   refine aj<|ab (.a 1 rfl<|.v (aL rfl ((show some (num T.nodes)=some (num (N:Int)) by rw[hN]))) rfl<|.a 1 rfl<|.k [1,2,3,6,8,32,33] rfl)<|av<|eZ [1,2,3,6,8,32,33] rfl<|bw (fun r s=>∃j,j≤N∧r=N - j∧s=⟨[(1,bf D),(2,num m),(3,.aV (bx T) 0),(6,.ptr 0 0),(8,.ptr 1 0),(32,num N),(33,num j)],[some (.cells 56 [num 0,.raw (.slice none 0 0),.raw (.slice none 0 0)]),some (.cells 56 [num m,.own 2,.own 3]),some (.row 76 3 j (dq (nF T D m j))),some (.row 3 1 0 [])]⟩) N ⟨0,by omega,by omega,rfl⟩ ?_
   rintro r s ⟨j,hj,rfl,rfl⟩
   refine ab (.a 1 rfl<|.k [1,2,3,6,8,32,33,34] rfl)<|aj<|ah rfl (fun hc=>?_) (fun hc=>?_)
   ·have hlt:j<N:=by have:=of_decide_eq_true hc;omega
    have hne:cB T D (m:Int) (j:Int)=0:=by
     have hnb:bu T (j:Int)=true:=aW.2 ⟨by omega,by omega⟩
     have hch':cO T D [(j:Int)]=0:=by
      unfold cO
      rw[if_pos hok,if_pos]
      simp[hnb]
     unfold cB
     rw[if_pos hch',if_pos (aW.2 hn)]
    have hnx:Can Tryz.prog 109 [aP T,bf D,num m,num j] (· = .tuple [ax (bL T D m j),num 0]):=by
     have h:=qm T D (m:Int) (j:Int)
     rw[hne]at h
     exact h
    refine ak<|aj<|av<|ab (.a 2 rfl<|.k [1,2,3,6,8,9,32,33] rfl)<|ab (.a 4 rfl<|.c rfl (hnx) rfl<|.a 5 rfl<|.k [1,2,3,6,8,10,32,33] rfl)<|ba<|au 3 rfl<|bz (DO (iu (xs:=[_,_,_]) rfl (bE.st.get rfl) rfl rfl) (jK.jb (.cons (jK.refl _)<|.cons (jK.refl _)<|.cons jK.b9 .nil))) rfl<|au 1 rfl<|ca (aY rfl (bE.rk.get rfl) rfl rfl rfl rfl (by unfold maxLen;omega)) rfl<|au 2 rfl ?_
    refine cE [0,1,4,3] (.c 1<|.c 2<|.c 3<|.c 6<|.c 8<|.c 32<|.c 33<|.nil) (.kept rfl (.cells (az.c<|az.c<|az.c<|az.nil))<|.kept rfl (.cells (az.c<|az.c<|az.c<|az.nil))<|.kept rfl (.dr rfl (show _=dq (nF T D m (j+1)) by rw[vq];exact mw _ ⟨bL T D m j,false,[]⟩))<|.kept rfl (.row az.pure)<|.nil) rfl rfl (aO ?_)
    refine ay (.v (aR rfl) rfl<|.a 1 rfl<|.k [1,2,3,6,8,32,33] rfl) ?_
    exact⟨N - (j+1),by omega,j+1,by omega,rfl,rfl⟩
   ·have hje:j=N:=by have:=of_decide_eq_false hc;omega
    subst hje
    refine bn<|aj ?_
    have hol:(bm T m).length≤512:=Nat.le_trans (dH T m _) (by omega)
    refine ab (.a 2 rfl<|.c rfl (nh T hll _) rfl<|.a 2 rfl<|.k [1,6,8,54,55,56] rfl)<|av<|eZ [1,6,8,54,55,56] rfl<|bw (fun r s=>∃i,i≤(bm T m).length∧r=(bm T m).length - i∧s=⟨[(1,bf D),(6,.ptr 0 0),(8,.ptr 1 0),(54,ax (bm T m)),(55,num (bm T m).length),(56,num i)],[some (.cells 56 [num 0,.raw (.slice none 0 0),.raw (.slice none 0 0)]),some (.cells 56 [num m,.own 2,.own 3]),some (.row 76 3 j (dq (nF T D m j))),some (.row 3 1 (cG D ((bm T m).take i)).length (aN (cG D ((bm T m).take i))))]⟩) (bm T m).length ⟨0,by omega,by omega,rfl⟩ ?_
    rintro r s ⟨i,hi,rfl,rfl⟩
    refine ab (.a 1 rfl<|.k [1,6,8,54,55,56,57] rfl)<|aj<|ah rfl (fun hc=>?_) (fun hc=>?_)
    ·have hlt:i<(bm T m).length:=by have:=of_decide_eq_true hc;omega
     obtain⟨h0,h1⟩:=jM (bU (d:=0) hlt)
     obtain⟨a,ha⟩:=Int.eq_ofNat_of_zero_le h0
     have hDl:D.length=0∨a<D.length:=by simp only[bX,decide_eq_true_eq]at hf;omega
     have hstep:cG D ((bm T m).take (i+1))=cG D ((bm T m).take i)++(if aX D a then [(a:Int)] else []):=by
      unfold cG
      rw[df _ i 0 hlt,List.filter_append,ha]
      simp only[List.filter_cons,List.filter_nil,Int.toNat_natCast]
     have hdl:(cG D ((bm T m).take i)).length≤1000:=Nat.le_trans (List.length_filter_le _ _) (by rw[List.length_take];have:=dH T m (2*T.af.length);unfold bm at*;omega)
     refine ak<|aj<|av<|ab (.v (aI (i) rfl) rfl<|.v (aL rfl ((aD _ i hlt).trans (by rw[ha]))) rfl<|.a 1 rfl<|.k [1,6,8,13,54,55,56] rfl)<|ab (.a 2 rfl<|.c rfl (iG D a hDl) rfl<|.k [1,6,8,13,54,55,56,62] rfl)<|ah rfl (fun hcd=>?_) (fun hcd=>?_)
     ·rw[hcd,if_pos rfl]at hstep
      refine ba<|au 4 rfl<|ca (aY rfl (bE.rk.get rfl) rfl rfl rfl rfl (by unfold maxLen;omega)) rfl<|au 2 rfl ?_
      refine cE [0,1,2,4] (.c 1<|.c 6<|.c 8<|.c 54<|.c 55<|.c 56<|.nil) (.kept rfl (.cells (az.c<|az.c<|az.c<|az.nil))<|.kept rfl (.cells (az.c<|az.c<|az.c<|az.nil))<|.kept rfl (.row az.pure)<|.kept rfl (.dr rfl (bT _ _))<|.nil) rfl rfl (aO ?_)
      refine ay (.v (aR rfl) rfl<|.a 1 rfl<|.k [1,6,8,54,55,56] rfl) ?_
      refine⟨(bm T m).length - (i+1),by omega,i+1,by omega,rfl,?_⟩
      rw[hstep]
      first
       |rfl
       |(simp only[List.length_append,List.length_singleton];rfl)
     ·rw[hcd,if_neg (by simp),List.append_nil]at hstep
      refine ak<|ay (.v (aR rfl) rfl<|.a 1 rfl<|.k [1,6,8,54,55,56] rfl) ?_
      refine⟨(bm T m).length - (i+1),by omega,i+1,by omega,rfl,?_⟩
      rw[hstep]
      first
       |rfl
       |(simp only[List.length_append,List.length_singleton];rfl)
    ·have hie:i=(bm T m).length:=by have:=of_decide_eq_false hc;omega
     subst hie
     refine bn<|aQ<|bz (fi (ys:=[num m,.own 2,.own 3]) rfl (bE.tk.get rfl) rfl rfl rfl rfl) rfl<|au 2 rfl<|aH [6,7] rfl ?_
     refine aq<|⟨_,_,aA.of rfl,aB.bG (an.cons (aB.jb (an.cons aB.pure<|an.cons (aB.ey rfl an.pure)<|an.cons (aB.ey rfl an.pure) an.nil)) (an.cons aB.pure an.nil)),?_⟩
     unfold gC
     rw[hch,if_pos rfl,List.take_length]
     unfold dV fA fL jq ax
     rw[tM,show T.nodes.toNat=j by omega]
     rfl
end PW
end Go.Proofs.YtnegbdpggideiaaGreatDoor
namespace Go.Proofs.YtnegbdpggideiaaGreatDoor
namespace PW
open Go.RowKit cA Mem Net eS
theorem vh(T:ai)(D:List Bool)(n:Int)(hch0:cO T D [n]=0):bS Tryz.prog 53 [aP T,bf D,num n] [] (fun r σ'=>r= .tuple [.agg [num n,.own 2,.own 3],num 0]∧σ'=[some (.cells 56 [num n,.own 2,.own 3]),some (.cells 56 [num n,.own 2,.own 3]),some (.row 76 3 T.nodes.toNat (dq (nF T D n.toNat T.nodes.toNat))),some (.row 3 1 (cG D (bm T n)).length (aN (cG D (bm T n))))]):=by
 refine cp Tryz.func53 rfl Tryz.ntmps53 rfl<|aQ<|au 3 rfl<|aH [1,2,3,6] rfl ?_
 refine aj ?_
 obtain⟨q1,hq1⟩:∃q,ao T=q:=⟨_,rfl⟩
 obtain⟨q2,hq2⟩:∃q,bX T D=q:=⟨_,rfl⟩
 refine bC 22 (.raw (.bool ((!q1)||(!q2)))) [1,2,3,6] rfl ?_ ?_
 ·refine .a 1 rfl<|.c rfl (hq1▸de T) rfl<|.a 2 rfl<|?_
  cases q1
  ·exact .a 5 rfl<|.k [22,1,2,3,6] rfl
  ·exact .a 2 rfl<|.c rfl (hq2▸kX T D (by have:=bN hq1;omega)) rfl<|.a 2 rfl<|.k [22,1,2,3,6] rfl
 refine ah rfl (fun hc=>?_) (fun hc=>?_)
 ·have hch:cO T D [n]=1:=by
   unfold cO
   rw[hq1,hq2,if_neg]
   revert hc
   cases q1<;>cases q2<;>simp
  exact absurd hch0 (by rw[hch];decide)
 ·have hok:(ao T&&bX T D)=true:=by
   rw[hq1,hq2]
   revert hc
   cases q1<;>cases q2<;>simp
  clear hc hq1 hq2
  refine ak<|aj<|ab (.a 2 rfl<|.c rfl (da T n) rfl<|.a 1 rfl<|.k [1,2,3,6,27] rfl)<|ah rfl (fun hc=>?_) (fun hc=>?_)
  ·have hn:bu T n=false:=by revert hc;cases bu T n<;>simp
   have hch:cO T D [n]=2:=by
    unfold cO
    rw[if_pos hok,if_neg]
    simp[hn]
   exact absurd hch0 (by rw[hch];decide)
  ·have hn:bu T n=true:=by revert hc;cases bu T n<;>simp
   have hch:cO T D [n]=0:=by
    unfold cO
    rw[if_pos hok,if_pos]
    simp[hn]
   obtain⟨hv,hf⟩:=Bool.and_eq_true_iff.1 hok
   rw[aW]at hn
   obtain⟨m,rfl⟩:=Int.eq_ofNat_of_zero_le hn.1
   obtain⟨N,hN⟩:∃N:Nat,T.nodes=(N:Int):=⟨T.nodes.toNat,by omega⟩
   have hN64:N≤64:=by have:=(aJ hv).nodes;omega
   have hll:=bN hv
   refine ak<|aQ<|au 4 rfl<|aH [1,2,3,6,8] rfl ?_
   refine cm 1 1 76 3 rfl rfl ?_
   refine cm 1 2 3 1 rfl rfl ?_
   refine aj<|ab (.a 1 rfl<|.v (aL rfl ((show some (num T.nodes)=some (num (N:Int)) by rw[hN]))) rfl<|.a 1 rfl<|.k [1,2,3,6,8,32,33] rfl)<|av<|eZ [1,2,3,6,8,32,33] rfl<|bw (fun r s=>∃j,j≤N∧r=N - j∧s=⟨[(1,bf D),(2,num m),(3,.aV (bx T) 0),(6,.ptr 0 0),(8,.ptr 1 0),(32,num N),(33,num j)],[some (.cells 56 [num 0,.raw (.slice none 0 0),.raw (.slice none 0 0)]),some (.cells 56 [num m,.own 2,.own 3]),some (.row 76 3 j (dq (nF T D m j))),some (.row 3 1 0 [])]⟩) N ⟨0,by omega,by omega,rfl⟩ ?_
   rintro r s ⟨j,hj,rfl,rfl⟩
   refine ab (.a 1 rfl<|.k [1,2,3,6,8,32,33,34] rfl)<|aj<|ah rfl (fun hc=>?_) (fun hc=>?_)
   ·have hlt:j<N:=by have:=of_decide_eq_true hc;omega
    have hne:cB T D (m:Int) (j:Int)=0:=by
     have hnb:bu T (j:Int)=true:=aW.2 ⟨by omega,by omega⟩
     have hch':cO T D [(j:Int)]=0:=by
      unfold cO
      rw[if_pos hok,if_pos]
      simp[hnb]
     unfold cB
     rw[if_pos hch',if_pos (aW.2 hn)]
    have hnx:Can Tryz.prog 109 [aP T,bf D,num m,num j] (· = .tuple [ax (bL T D m j),num 0]):=by
     have h:=qm T D (m:Int) (j:Int)
     rw[hne]at h
     exact h
    refine ak<|aj<|av<|ab (.a 2 rfl<|.k [1,2,3,6,8,9,32,33] rfl)<|ab (.a 4 rfl<|.c rfl (hnx) rfl<|.a 5 rfl<|.k [1,2,3,6,8,10,32,33] rfl)<|ba<|au 3 rfl<|bz (DO (iu (xs:=[_,_,_]) rfl (bE.st.get rfl) rfl rfl) (jK.jb (.cons (jK.refl _)<|.cons (jK.refl _)<|.cons jK.b9 .nil))) rfl<|au 1 rfl<|ca (aY rfl (bE.rk.get rfl) rfl rfl rfl rfl (by unfold maxLen;omega)) rfl<|au 2 rfl ?_
    refine cE [0,1,4,3] (.c 1<|.c 2<|.c 3<|.c 6<|.c 8<|.c 32<|.c 33<|.nil) (.kept rfl (.cells (az.c<|az.c<|az.c<|az.nil))<|.kept rfl (.cells (az.c<|az.c<|az.c<|az.nil))<|.kept rfl (.dr rfl (show _=dq (nF T D m (j+1)) by rw[vq];exact mw _ ⟨bL T D m j,false,[]⟩))<|.kept rfl (.row az.pure)<|.nil) rfl rfl (aO ?_)
    refine ay (.v (aR rfl) rfl<|.a 1 rfl<|.k [1,2,3,6,8,32,33] rfl) ?_
    exact⟨N - (j+1),by omega,j+1,by omega,rfl,rfl⟩
   ·have hje:j=N:=by have:=of_decide_eq_false hc;omega
    subst hje
    refine bn<|aj ?_
    have hol:(bm T m).length≤512:=Nat.le_trans (dH T m _) (by omega)
    refine ab (.a 2 rfl<|.c rfl (nh T hll _) rfl<|.a 2 rfl<|.k [1,6,8,54,55,56] rfl)<|av<|eZ [1,6,8,54,55,56] rfl<|bw (fun r s=>∃i,i≤(bm T m).length∧r=(bm T m).length - i∧s=⟨[(1,bf D),(6,.ptr 0 0),(8,.ptr 1 0),(54,ax (bm T m)),(55,num (bm T m).length),(56,num i)],[some (.cells 56 [num 0,.raw (.slice none 0 0),.raw (.slice none 0 0)]),some (.cells 56 [num m,.own 2,.own 3]),some (.row 76 3 j (dq (nF T D m j))),some (.row 3 1 (cG D ((bm T m).take i)).length (aN (cG D ((bm T m).take i))))]⟩) (bm T m).length ⟨0,by omega,by omega,rfl⟩ ?_
    rintro r s ⟨i,hi,rfl,rfl⟩
    refine ab (.a 1 rfl<|.k [1,6,8,54,55,56,57] rfl)<|aj<|ah rfl (fun hc=>?_) (fun hc=>?_)
    ·have hlt:i<(bm T m).length:=by have:=of_decide_eq_true hc;omega
     obtain⟨h0,h1⟩:=jM (bU (d:=0) hlt)
     obtain⟨a,ha⟩:=Int.eq_ofNat_of_zero_le h0
     have hDl:D.length=0∨a<D.length:=by simp only[bX,decide_eq_true_eq]at hf;omega
     have hstep:cG D ((bm T m).take (i+1))=cG D ((bm T m).take i)++(if aX D a then [(a:Int)] else []):=by
      unfold cG
      rw[df _ i 0 hlt,List.filter_append,ha]
      simp only[List.filter_cons,List.filter_nil,Int.toNat_natCast]
     have hdl:(cG D ((bm T m).take i)).length≤1000:=Nat.le_trans (List.length_filter_le _ _) (by rw[List.length_take];have:=dH T m (2*T.af.length);unfold bm at*;omega)
     refine ak<|aj<|av<|ab (.v (aI (i) rfl) rfl<|.v (aL rfl ((aD _ i hlt).trans (by rw[ha]))) rfl<|.a 1 rfl<|.k [1,6,8,13,54,55,56] rfl)<|ab (.a 2 rfl<|.c rfl (iG D a hDl) rfl<|.k [1,6,8,13,54,55,56,62] rfl)<|ah rfl (fun hcd=>?_) (fun hcd=>?_)
     ·rw[hcd,if_pos rfl]at hstep
      refine ba<|au 4 rfl<|ca (aY rfl (bE.rk.get rfl) rfl rfl rfl rfl (by unfold maxLen;omega)) rfl<|au 2 rfl ?_
      refine cE [0,1,2,4] (.c 1<|.c 6<|.c 8<|.c 54<|.c 55<|.c 56<|.nil) (.kept rfl (.cells (az.c<|az.c<|az.c<|az.nil))<|.kept rfl (.cells (az.c<|az.c<|az.c<|az.nil))<|.kept rfl (.row az.pure)<|.kept rfl (.dr rfl (bT _ _))<|.nil) rfl rfl (aO ?_)
      refine ay (.v (aR rfl) rfl<|.a 1 rfl<|.k [1,6,8,54,55,56] rfl) ?_
      refine⟨(bm T m).length - (i+1),by omega,i+1,by omega,rfl,?_⟩
      rw[hstep]
      first
       |rfl
       |(simp only[List.length_append,List.length_singleton];rfl)
     ·rw[hcd,if_neg (by simp),List.append_nil]at hstep
      refine ak<|ay (.v (aR rfl) rfl<|.a 1 rfl<|.k [1,6,8,54,55,56] rfl) ?_
      refine⟨(bm T m).length - (i+1),by omega,i+1,by omega,rfl,?_⟩
      rw[hstep]
      first
       |rfl
       |(simp only[List.length_append,List.length_singleton];rfl)
    ·have hie:i=(bm T m).length:=by have:=of_decide_eq_false hc;omega
     subst hie
     refine bn<|aQ<|bz (fi (ys:=[num m,.own 2,.own 3]) rfl (bE.tk.get rfl) rfl rfl rfl rfl) rfl<|au 2 rfl<|aH [6,7] rfl ?_
     refine aq<|⟨_,aA.of rfl,rfl,?_⟩
     have hjN:T.nodes.toNat=j:=by omega
     rw[List.take_length,Int.toNat_natCast,hjN]
     rfl
def jl(e:Int)(x:dR):PV:=.tuple [fA (if e=0 then x else⟨0,[],[]⟩),num e]
theorem nH{T:ai}{D:List Bool}{n d:Int}(hv:ao T=true)(hf:bX T D=true)(hn:bu T n=true)(hd:bu T d=true):cB T D n d=0:=by
 unfold cB cO
 rw[hv,hf,hn]
 simp[hd]
def iH(M:List Bool)(T:ai)(n:Int)(k:Nat):List Int:=((List.range k).filter fun a=>aX M a&&decide (bq T a=n)).map Int.ofNat
def gg(T:ai)(M:List Bool)(n:Int)(k:Nat):List Bool:=(List.range (2*T.af.length)).map fun a=>decide (a<k)&&(aX M a&&decide (bq T a=n))
theorem Ej(M:List Bool)(T:ai)(n:Int):iH M T n (2*T.af.length)=cG M (bm T n):=by
 unfold iH cG bm fH
 rw[List.filter_map,List.filter_filter]
 congr 1
theorem DT(M:List Bool)(T:ai)(n:Int)(k:Nat):(iH M T n k).length≤k:=by
 unfold iH
 rw[List.length_map]
 exact Nat.le_trans (List.length_filter_le _ _) (by simp)
theorem Ek{M:List Bool}{T:ai}{n:Int}{k:Nat}(h:(aX M k&&decide (bq T k=n))=true):iH M T n (k+1)=iH M T n k++[(k:Int)]:=by
 simp only[iH,List.range_succ,List.filter_append,List.map_append]
 rw[List.filter_cons_of_pos (by simpa using h)]
 rfl
theorem GJ{M:List Bool}{T:ai}{n:Int}{k:Nat}(h:(aX M k&&decide (bq T k=n))=false):iH M T n (k+1)=iH M T n k:=by
 simp only[iH,List.range_succ,List.filter_append,List.map_append]
 rw[List.filter_cons_of_neg (by simpa using h)]
 simp
theorem zt(T:ai)(M:List Bool)(n:Int)(k:Nat):(gg T M n k).length=2*T.af.length:=by simp[gg]
theorem wQ(T:ai)(M:List Bool)(n:Int):gg T M n 0=List.replicate (2*T.af.length) false:=by
 unfold gg
 apply List.ext_getElem (by simp)
 intro i h1 h2
 simp
theorem AY{T:ai}{M:List Bool}{n:Int}{k:Nat}(h:(aX M k&&decide (bq T k=n))=true):(gg T M n k).set k true=gg T M n (k+1):=by
 apply List.ext_getElem (by simp[gg])
 intro i h1 h2
 rw[List.getElem_set]
 by_cases e:k=i
 ·subst e
  simp only[gg,List.getElem_map,List.getElem_range,if_true]
  rw[h,decide_eq_true (by omega)];rfl
 ·rw[if_neg e]
  simp only[gg,List.getElem_map,List.getElem_range]
  rw[show decide (i<k+1)=decide (i<k) from decide_eq_decide.2 (by omega)]
theorem CO{T:ai}{M:List Bool}{n:Int}{k:Nat}(h:(aX M k&&decide (bq T k=n))=false):gg T M n (k+1)=gg T M n k:=by
 unfold gg
 refine List.map_congr_left fun a _=>?_
 by_cases e:a=k
 ·subst e;rw[h];simp
 ·rw[show decide (a<k+1)=decide (a<k) from decide_eq_decide.2 (by omega)]
theorem zy(T:ai)(M:List Bool)(n:Int):gg T M n (2*T.af.length)=kd T M n:=by
 unfold gg kd
 refine List.map_congr_left fun a ha=>?_
 rw[decide_eq_true (List.mem_range.1 ha),Bool.true_and]
theorem gz{M:List Bool}{a:Nat}:M.getD a false=aX M a:=by
 unfold aX
 by_cases h:M.length=0
 ·have:M=[]:=List.eq_nil_of_length_eq_zero h
  subst this;simp
 ·first
   |rfl
   |simp[h]
theorem zc(T:ai)(k x n:Int)(hm:(ao T&&bV T k x)=true):Can Tryz.prog 95 [aP T,cu k x,num n] (· = .tuple [ax (cG (aT T k x) (bm T n)),bf (kd T (aT T k x) n)]):=by
 obtain⟨hv,hc⟩:=Bool.and_eq_true_iff.1 hm
 have hll:=bN hv
 have hmk:=zH T k x
 unfold iI dL at hmk
 rw[if_pos hm,if_pos rfl]at hmk
 obtain⟨M,hM⟩:∃M,aT T k x=M:=⟨_,rfl⟩
 have hMl:M.length=2*T.af.length:=by rw[←hM];exact gw T k x
 rw[hM]at hmk ⊢
 refine aF Tryz.func95 rfl Tryz.ntmps95 rfl<|ab (.a 4 rfl<|.k [2,3,4] rfl)<|ab (.a 2 rfl<|.c rfl (hmk) rfl<|.a 5 rfl<|.k [2,3,8] rfl)<|aQ<|au 2 rfl<|ca (dB rfl (bE.rk.get rfl) rfl rfl (show(M.length:Int)=((2*T.af.length:Nat):Int) by omega) (show(M.length:Int)=((2*T.af.length:Nat):Int) by omega) ⟨by unfold maxLen;omega,by omega⟩) rfl<|au 1 rfl<|aH [2,3,8,10] rfl ?_
 refine ab (.a 1 rfl<|.k [2,3,8,10,11] rfl)<|dW 11 3 1 rfl ?_
 refine eh (σ':=[some (.row 4 1 (2*T.af.length) (bP (gg T M n 0))),some (.row 3 1 0 [])]) (by rw[wQ,←gS];rfl) ?_
 refine aj<|ab (.a 1 rfl<|.k [2,3,8,10,11,12] rfl)<|av<|eZ [2,3,8,10,11,12] rfl<|bw (fun r st=>∃a:Nat,a≤2*T.af.length∧r=2*T.af.length - a∧st=⟨[(2,num n),(3,.aV (bx T) 0),(8,bf M),(10,.own 0),(11,.own 1),(12,num a)],[some (.row 4 1 (2*T.af.length) (bP (gg T M n a))),some (.row 3 1 (iH M T n a).length (aN (iH M T n a)))]⟩) (2*T.af.length) ⟨0,by omega,by omega,rfl⟩ ?_
 rintro r st ⟨a,ha,rfl,rfl⟩
 refine aj<|ab (.a 4 rfl<|.k [2,3,8,10,11,12,25] rfl)<|ah rfl (fun h1=>?_) (fun h1=>?_)
 ·have hlt:a<2*T.af.length:=by have:=tt h1;omega
  have hal:(gg T M n a).length=2*T.af.length:=zt T M n a
  have hdl:(iH M T n a).length≤512:=Nat.le_trans (DT M T n a) (by omega)
  refine ak<|aj<|av ?_
  obtain⟨c1,hc1⟩:∃q,aX M a=q:=⟨_,rfl⟩
  obtain⟨c2,hc2⟩:∃q,decide (bq T a=n)=q:=⟨_,rfl⟩
  refine bC 38 (.raw (.bool (c1&&c2))) [2,3,8,10,11,12] rfl ?_ ?_
  ·refine .a 2 rfl<|.v (aI (a) rfl) rfl<|.v (aL rfl (show _=some (flag c1) by rw[cW _ a (by omega),gz,hc1])) rfl<|.a 1 rfl<|?_
   cases c1
   ·exact .a 6 rfl<|.k [38,2,3,8,10,11,12] rfl
   ·exact .a 2 rfl<|.c rfl (pq T hv a hlt) rfl<|.a 1 rfl<|.v (cC rfl (hc2)) rfl<|.a 1 rfl<|.k [38,2,3,8,10,11,12] rfl
  refine ah rfl (fun h2=>?_) (fun h2=>?_)
  ·have h2:(aX M a&&decide (bq T a=n))=true:=by rw[hc1,hc2];exact h2
   have hs1:=Ek h2
   have hs2:=AY h2
   refine aQ<|au 3 rfl<|ca (aY rfl (bE.rk.get rfl) rfl rfl rfl rfl (by unfold maxLen;omega)) rfl<|au 1 rfl ?_
   refine cE [0,2] (.c 2<|.c 3<|.c 8<|.c 10<|.c 11<|.c 12<|.nil) (.kept rfl (.row az.pure)<|.kept rfl (.dr rfl (bT _ _))<|.nil) rfl rfl (aO ?_)
   refine ba<|au 2 rfl<|bz (aI (a) rfl) rfl<|br ((by first|exact bQ rfl (bE.tk.get rfl) rfl rfl rfl (by first|omega|(simp;omega))|exact bb rfl (bE.tk.get rfl) rfl rfl rfl (by first|omega|(simp;omega)))) rfl rfl<|aH [2,3,8,10,11,12] rfl ?_
   refine eh (σ':=[some (.row 4 1 (2*T.af.length) (bP (gg T M n (a+1)))),some (.row 3 1 (iH M T n (a+1)).length (aN (iH M T n (a+1))))]) (by rw[←hs2,hs1,List.length_append];rfl) ?_
   refine ay (.a 1 rfl<|.v (aR rfl) rfl<|.a 1 rfl<|.k [2,3,8,10,11,12] rfl) ?_
   first
    |exact⟨2*T.af.length - (a+1),by omega,a+1,by omega,rfl,rfl⟩
    |exact⟨2*T.af.length - (a+1),by omega,a+1,by omega,rfl,by rw[hs1,hs2];rfl⟩
  ·have h2:(aX M a&&decide (bq T a=n))=false:=by rw[hc1,hc2];exact h2
   have hs1:=GJ h2
   have hs2:=CO h2
   refine ak<|ay (.a 1 rfl<|.v (aR rfl) rfl<|.a 1 rfl<|.k [2,3,8,10,11,12] rfl) ?_
   first
    |exact⟨2*T.af.length - (a+1),by omega,a+1,by omega,rfl,rfl⟩
    |exact⟨2*T.af.length - (a+1),by omega,a+1,by omega,rfl,by rw[hs1,hs2];rfl⟩
 ·have hae:a=2*T.af.length:=by have:=ff h1;omega
  subst hae
  refine bn<|ab (.a 4 rfl<|.k [6,7] rfl)<|aq<|⟨_,_,aA.of rfl,aB.bG (an.cons (aB.ey rfl an.pure) (an.cons (aB.ey rfl an.pure) an.nil)),?_⟩
  rw[Ej,zy]
  unfold ax bf
  rw[show(kd T M n).length=2*T.af.length by simp[kd]]
end PW
end Go.Proofs.YtnegbdpggideiaaGreatDoor
namespace Go.Proofs.YtnegbdpggideiaaGreatDoor
namespace PW
open Go.RowKit cA Mem
structure GD where
 p:PV
 r:Option Nat
 lo:Nat
 hi:Nat
section
variable {P:Program} {N L:Nat}
inductive GK (P:Program) (N:Nat) (ops:Array Oper) (σs:List cd) (T:bZ) (o:Oper):GD→Prop
 |val {p:PV} {d lo hi:Nat} (ks:List Nat) (hks:(ks.all fun k=>(o.looksAt ops).contains k)=true) (hw:eE ops T o=some true) (hy:∀r σ,lo≤r→r≤hi→σs[r]? =some σ→bg P σ (fS T ks) o p) (hd:o.dst=some d) (hN:Nat.blt d N=true):GK P N ops σs T o ⟨p,none,lo,hi⟩
 |skip {d lo hi:Nat} (hw:eE ops T o=some false) (hd:o.dst=some d) (hN:Nat.blt d N=true):GK P N ops σs T o ⟨.raw undef,none,lo,hi⟩
 |EW {p:PV} {d r lo hi:Nat} {σ σ':cd} (ks:List Nat) (hks:(ks.all fun k=>(o.looksAt ops).contains k)=true) (hw:eE ops T o=some true) (h1:σs[r]? =some σ) (h2:σs[r+1]? =some σ') (hy:cK P σ (fS T ks) o p σ') (hd:o.dst=some d) (hN:Nat.blt d N=true):GK P N ops σs T o ⟨p,some r,lo,hi⟩
 |ow {p:PV} {r lo hi:Nat} {σ σ':cd} (ks:List Nat) (hks:(ks.all fun k=>(o.looksAt ops).contains k)=true) (hw:eE ops T o=some true) (h1:σs[r]? =some σ) (h2:σs[r+1]? =some σ') (hy:cK P σ (fS T ks) o p σ') (hd:o.dst=none):GK P N ops σs T o ⟨p,some r,lo,hi⟩
inductive GL (P:Program) (N:Nat) (ops:Array Oper) (σs:List cd) (T:bZ):List Oper→List GD→Prop
 |nil:GL P N ops σs T [] []
 |cons {o:Oper} {g:GD} {l:List Oper} {gs:List GD}:GK P N ops σs T o g→GL P N ops σs T l gs→GL P N ops σs T (o::l) (g::gs)
theorem GL.get{ops:Array Oper}{σs:List cd}{T:bZ}:∀ {l:List Oper} {gs:List GD},GL P N ops σs T l gs→gs.length=l.length∧∀(i:Nat) o g,l[i]? =some o→gs[i]? =some g→GK P N ops σs T o g
 |_,_,.nil=>⟨rfl,fun i o g h=>by simp at h⟩
 |_,_,.cons h hs=>by
  obtain⟨h1,h2⟩:=hs.get
  refine⟨by simp[h1],fun i o g ho hg=>?_⟩
  cases i with
  |zero=>simp at ho hg;subst ho;subst hg;exact h
  |succ i=>exact h2 i o g (by simpa using ho) (by simpa using hg)
def jI(gs:List GD)(i:Nat):Option Nat:=(gs[i]?).bind (·.r)
def Fl(ops:Array Oper)(f m:Nat)(gs:List GD):Bool:=
  Nat.beq gs.length ops.size&&
  ((List.range ops.size).all fun i=>(kT ops i).all fun k=>decide (k<i))&&
  ((List.range ops.size).all fun i=>(List.range i).all fun j=>(cg ops i).isNone||cg ops i !=cg ops j)&&
  ((List.range ops.size).all fun j=>(dP ops j).all fun k=>(List.range ops.size).all fun i=>cg ops i !=some k||eK ops f j i)&&
  ((List.range ops.size).all fun i => match gs[i]? with
    |some ⟨_,some r,_,_⟩=>decide (r<m)&&(Nat.beq r 0||(List.range ops.size).any fun j=>jI gs j==some (r - 1)&&eK ops f i j)
    |some ⟨_,none,lo,hi⟩=>(Nat.beq lo 0||(List.range ops.size).any fun j=>jI gs j==some (lo - 1)&&eK ops f i j)&&(Nat.ble m hi||(List.range ops.size).any fun j=>jI gs j==some hi&&eK ops f j i)
    |none=>false)&&
  ((List.range ops.size).all fun i=>(List.range i).all fun j=>(jI gs i).isNone||jI gs i !=jI gs j)&&
  ((List.range m).all fun r=>(List.range ops.size).any fun j=>jI gs j==some r)
structure HT (ops:Array Oper) (f m:Nat) (gs:List GD):Prop where
 len:gs.length=ops.size
 kT:∀i,i<ops.size→∀k∈kT ops i,k<i
 ss:∀i j d,i<ops.size→j<ops.size→cg ops i=some d→cg ops j=some d→i=j
 rd:∀j,j<ops.size→∀k∈dP ops j,∀i,i<ops.size→cg ops i=some k→eK ops f j i=true
 EW:∀(i:Nat) g r,gs[i]? =some g→g.r=some r→r<m∧(r=0∨∃j,j<ops.size∧jI gs j=some (r - 1)∧eK ops f i j=true)
 quiet:∀(i:Nat) g,gs[i]? =some g→g.r=none→(g.lo=0∨∃j,j<ops.size∧jI gs j=some (g.lo - 1)∧eK ops f i j=true)∧(m≤g.hi∨∃j,j<ops.size∧jI gs j=some g.hi∧eK ops f j i=true)
 one:∀i j r,i<ops.size→j<ops.size→jI gs i=some r→jI gs j=some r→i=j
 has:∀r,r<m→∃j,j<ops.size∧jI gs j=some r
theorem BE{ops:Array Oper}{f m:Nat}{gs:List GD}(h:Fl ops f m gs=true):HT ops f m gs:=by
 unfold Fl at h
 simp only[Bool.and_eq_true]at h
 obtain⟨⟨⟨⟨⟨⟨h1,h2⟩,h3⟩,h4⟩,h5⟩,h6⟩,h7⟩:=h
 have hl:gs.length=ops.size:=Nat.eq_of_beq_eq_true h1
 have all:∀ {n:Nat} {p:Nat→Bool},(List.range n).all p=true→∀i,i<n→p i=true:=fun h i hi=>List.all_eq_true.1 h i (List.mem_range.2 hi)
 have any:∀ {n:Nat} {p:Nat→Bool},(List.range n).any p=true→∃i,i<n∧p i=true:=fun h=>by
  obtain⟨i,hi,hp⟩:=List.any_eq_true.1 h
  exact⟨i,List.mem_range.1 hi,hp⟩
 have s3:∀i j d,i<ops.size→j<i→cg ops i=some d→cg ops j=some d→False:=fun i j d hi hj e1 e2=>by
  have:=all (all h3 i hi) j hj
  rw[e1,e2]at this
  simp at this
 have s6:∀i j r,i<ops.size→j<i→jI gs i=some r→jI gs j=some r→False:=fun i j r hi hj e1 e2=>by
  have:=all (all h6 i hi) j hj
  rw[e1,e2]at this
  simp at this
 refine⟨hl,fun i hi k hk=>?_,fun i j d hi hj e1 e2=>?_,fun j hj k hk i hi hd=>?_,fun i g r hg hr=>?_,fun i g hg hr=>?_,fun i j r hi hj e1 e2=>?_,fun r hr=>?_⟩
 ·have:=List.all_eq_true.1 (all h2 i hi) k hk;simpa using this
 ·rcases Nat.lt_trichotomy i j with h|h|h
  ·exact(s3 j i d hj h e2 e1).elim
  ·exact h
  ·exact(s3 i j d hi h e1 e2).elim
 ·have:=all (List.all_eq_true.1 (all h4 j hj) k hk) i hi
  rw[hd]at this
  simpa using this
 ·have hi:i<ops.size:=by rw[←hl];exact(List.getElem?_eq_some_iff.1 hg).1
  have:=all h5 i hi
  obtain⟨p,r',lo,hi'⟩:=g
  simp only at hr
  subst hr
  rw[hg]at this
  simp only[Bool.and_eq_true,decide_eq_true_eq,Bool.or_eq_true]at this
  refine⟨this.1,?_⟩
  rcases this.2 with h|h
  ·exact .inl (Nat.eq_of_beq_eq_true h)
  ·obtain⟨j,hj,h'⟩:=any h
   simp only[Bool.and_eq_true,beq_iff_eq]at h'
   exact .inr ⟨j,hj,h'.1,h'.2⟩
 ·have hi:i<ops.size:=by rw[←hl];exact(List.getElem?_eq_some_iff.1 hg).1
  have:=all h5 i hi
  obtain⟨p,r',lo,hi'⟩:=g
  simp only at hr
  subst hr
  rw[hg]at this
  simp only[Bool.and_eq_true,Bool.or_eq_true]at this
  refine⟨?_,?_⟩
  ·rcases this.1 with h|h
   ·exact .inl (Nat.eq_of_beq_eq_true h)
   ·obtain⟨j,hj,h'⟩:=any h
    simp only[Bool.and_eq_true,beq_iff_eq]at h'
    exact .inr ⟨j,hj,h'.1,h'.2⟩
  ·rcases this.2 with h|h
   ·exact .inl (Nat.ble_eq.mp h)
   ·obtain⟨j,hj,h'⟩:=any h
    simp only[Bool.and_eq_true,beq_iff_eq]at h'
    exact .inr ⟨j,hj,h'.1,h'.2⟩
 ·rcases Nat.lt_trichotomy i j with h|h|h
  ·exact(s6 j i r hj h e2 e1).elim
  ·exact h
  ·exact(s6 i j r hi h e1 e2).elim
 ·obtain⟨j,hj,h⟩:=any (all h7 r hr)
  exact⟨j,hj,by simpa using h⟩
structure Es (base N:Nat) (F:Nat→Prop) (l:List Oper) (gs:List GD) (σs:List cd) (t:bZ) (ls:Array Bool) (r:Nat) (E:Env) (a:Act) (w:World):Prop where
 size:ls.size=l.length
 down:Down l.toArray ls
 rk:∀i s,i<l.length→jI gs i=some s→(ls.getD i true=true↔s<r)
 sat:∃σ,σs[r]? =some σ∧Sat F base σ E w
 jQ:a.defers=[]
 tmps:a.tmps.size=N
 t0:dQ E w a.eval t
 kz:∀j d g,j<l.length→ls.getD j true=true→cg l.toArray j=some d→gs[j]? =some g→cz E w (a.eval (.tmp d)) g.p
theorem xI(ls:Array Bool)(i j:Nat)(b:Bool)(hi:i<ls.size):(ls.setIfInBounds i true).getD j b=if j=i then true else ls.getD j b:=by
 by_cases e:j=i
 ·subst e;simp[hi]
 ·rw[if_neg e]
  simp only[Array.getD_eq_getD_getElem?,Array.getElem?_setIfInBounds_ne (Ne.symm e)]
theorem C4{ls:Array Bool}{i:Nat}(hi:i<ls.size)(b c:Bool):ls.getD i b=ls.getD i c:=by simp[hi]
section
variable {l:List Oper} {gs:List GD} {σs:List cd} {t T:bZ} {f m base:Nat} {F:Nat→Prop}
theorem Es.reach(hG:HT l.toArray f m gs){ls:Array Bool}{r:Nat}{E:Env}{a:Act}{w:World}(h:Es base N F l gs σs t ls r E a w){i j:Nat}(hi:i<l.length)(hr:eK l.toArray f i j=true)(hk:∀k∈kT l.toArray i,ls.getD k false=true):ls.getD j true=true:=by
 have:=dO (by rw[h.size];simp) h.down (fun i hi=>hG.kT i hi) f i j (by simpa using hi) hr hk
 by_cases hj:j<ls.size
 ·rw[C4 hj true false];exact this
 ·simp[hj]
theorem Es.looks(hG:HT l.toArray f m gs)(hT:mC l (gs.map (·.p)) t=T){ls:Array Bool}{r:Nat}{E:Env}{a:Act}{w:World}(h:Es base N F l gs σs t ls r E a w){i:Nat}(hi:i<l.length)(hk:∀k∈kT l.toArray i,ls.getD k false=true):
  ∀k∈dP l.toArray i,∀p,look k T=some p→cz E w (a.eval (.tmp k)) p:=fun k hks p hp=>by
 rw[←hT]at hp
 rcases kC _ _ _ k p hp with⟨j,o,h1,h2,h3⟩|h'
 ·rw[List.getElem?_map,Option.map_eq_some_iff]at h3
  obtain⟨g,hg,rfl⟩:=h3
  have hj:j<l.length:=(List.getElem?_eq_some_iff.1 h1).1
  have hd:cg l.toArray j=some k:=by simp only[cg,List.getElem?_toArray,h1,Option.bind_some,h2]
  have hr:=hG.rd i (by simpa using hi) k hks j (by simpa using hj) hd
  exact h.kz j k g hj (h.reach hG hi hr hk) hd hg
 ·exact h.t0 k p h'
theorem Es.put(hG:HT l.toArray f m gs)(hfr:∀i d,i<l.length→cg l.toArray i=some d→look d t=none){ls:Array Bool}{r r':Nat}{E E':Env}{a:Act}{w w':World}(h:Es base N F l gs σs t ls r E a w){i:Nat}{g:GD}{v:Value}(hi:i<l.length)(hu:ls.getD i true=false)(hk:∀k∈kT l.toArray i,ls.getD k false=true)(hg:gs[i]? =some g)(hgo:cP E w E' w')
  (hs:∃σ,σs[r']? =some σ∧Sat F base σ E' w') (hr:(g.r=none∧r'=r)∨(g.r=some r∧r'=r+1)) {o:Oper} (ho:l[i]? =some o) (hdN:∀d,o.dst=some d→d<N) (hv:∀d,o.dst=some d→cz E' w' v g.p):
  Es base N F l gs σs t (ls.setIfInBounds i true) r' E' (a.put o.dst v) w':=by
 have hil:i<ls.size:=by rw[h.size];exact hi
 have hrk:jI gs i=g.r:=by simp only[jI,hg,Option.bind_some]
 have hdi:cg l.toArray i=o.dst:=by simp only[cg,List.getElem?_toArray,ho,Option.bind_some]
 refine⟨by simpa using h.size,fun j hj hjs k hkj=>?_,fun j s hj hs'=>?_,hs,by cases o.dst<;>simpa[Act.put]using h.jQ,by cases o.dst<;>simpa[Act.put]using h.tmps,fun k p hkp=>?_,fun j d g' hj hjl hd hg'=>?_⟩
 ·rw[xI _ _ _ _ hil]at hj ⊢
  split
  ·rfl
  ·by_cases e:j=i
   ·subst e;exact hk k hkj
   ·rw[if_neg e]at hj
    exact h.down j hj hjs k hkj
 ·rw[xI _ _ _ _ hil]
  by_cases e:j=i
  ·subst e
   rw[if_pos rfl]
   rw[hrk]at hs'
   rcases hr with⟨h1,_⟩|⟨h1,h2⟩
   ·rw[h1]at hs';cases hs'
   ·rw[h1]at hs';cases hs';exact⟨fun _=>by omega,fun _=>rfl⟩
  ·rw[if_neg e,h.rk j s hj hs']
   rcases hr with⟨_,h2⟩|⟨h1,h2⟩
   ·rw[h2]
   ·have:s≠r:=fun e'=>e (hG.one j i r (by simpa using hj) (by simpa using hi) (by rw[hs',e']) (by rw[hrk,h1]))
    omega
 ·have hne:∀d,o.dst=some d→k≠d:=fun d hd e=>by
   subst e
   rw[hfr i k hi (by rw[hdi,hd])]at hkp;cases hkp
  have:(a.put o.dst v).eval (.tmp k)=a.eval (.tmp k):=Act.eval_put fun d hd heq=>by cases heq;exact hne _ hd rfl
  rw[this]
  exact(h.t0 k p hkp).goes hgo
 ·rw[xI _ _ _ _ hil]at hjl
  by_cases e:j=i
  ·subst e
   rw[hdi]at hd
   rw[hg]at hg';cases hg'
   rw[hd,iW a (by rw[h.tmps];exact hdN d hd),if_pos rfl]
   exact hv d hd
  ·rw[if_neg e]at hjl
   have hne:∀d',o.dst=some d'→d≠d':=fun d' hd' e'=>by
    subst e'
    exact e (hG.ss j i d (by simpa using hj) (by simpa using hi) hd (by rw[hdi,hd']))
   have:(a.put o.dst v).eval (.tmp d)=a.eval (.tmp d):=Act.eval_put fun d' hd' heq=>by cases heq;exact hne _ hd' rfl
   rw[this]
   exact(h.kz j d g' hj hjl hd hg').goes hgo
theorem DZ(hG:HT l.toArray f m gs)(hT:mC l (gs.map (·.p)) t=T)(hfr:∀i d,i<l.length→cg l.toArray i=some d→look d t=none)(hL:GL P N l.toArray σs T l gs){σm:cd}(hm:σs[m]? =some σm){Q:Exit→Act→World→Prop}{E₀:Env}{w₀:World}(hq:∀a' w' E',Sat F base σm E' w'→dQ E' w' a'.eval T→a'.defers=[]→a'.tmps.size=N→cP E₀ w₀ E' w'→Below base w₀ w'→Q .normal a' w'):
  ∀(fuel:Nat) (ls:Array Bool) (r:Nat) (E:Env) (a:Act) (w:World),Es base N F l gs σs t ls r E a w→bJ ls l.length=fuel→cP E₀ w₀ E w→Below base w₀ w→r≤m→wpAny P .any l.toArray Q fuel ls a w:=by
 obtain⟨hgl,hget⟩:=hL.get
 intro fuel
 induction fuel with
 |zero=>
  intro ls r E a w h hu hgo hb hrm
  have hall:=cQ hu
  have hrm':r=m:=by
   rcases Nat.lt_or_ge r m with h'|h'
   ·obtain⟨j,hj,hjr⟩:=hG.has r h'
    have hj:j<l.length:=by simpa using hj
    have:=(h.rk j r hj hjr).1 (hall j hj)
    omega
   ·omega
  subst hrm'
  refine⟨List.eq_nil_iff_forall_not_mem.2 fun i hi=>?_,?_⟩
  ·obtain⟨h1,h2,_⟩:=cw.1 hi
   rw[hall i (by simpa using h1)]at h2;cases h2
  ·obtain⟨σ,hσ,hs⟩:=h.sat
   rw[hm]at hσ;cases hσ
   refine hq a w E hs (fun k p hkp=>?_) h.jQ h.tmps hgo hb
   rw[←hT]at hkp
   rcases kC _ _ _ k p hkp with⟨j,o,h1,h2,h3⟩|h'
   ·rw[List.getElem?_map,Option.map_eq_some_iff]at h3
    obtain⟨g,hg,rfl⟩:=h3
    have hj:j<l.length:=(List.getElem?_eq_some_iff.1 h1).1
    exact h.kz j k g hj (hall j hj) (by simp only[cg,List.getElem?_toArray,h1,Option.bind_some,h2]) hg
   ·exact h.t0 k p h'
 |succ fuel ih=>
  intro ls r E a w h hu hgo hb hrm
  obtain⟨i0,hi0,hi1,hi2⟩:=fc (ls:=ls) (m:=l.length) (by omega)
  have hi0r:i0∈Region.ready .any l.toArray ls:=cw.2 ⟨by simpa using hi0,hi1,fun k hk=>by
   have:=hG.kT i0 (by simpa using hi0) k hk
   rw[C4 (by rw[h.size];omega) false true];exact hi2 k this⟩
  refine⟨fun h0=>absurd hi0r (by rw[h0];simp),fun i hi=>?_⟩
  obtain⟨h1,h2,h3⟩:=cw.1 hi
  have hil:i<l.length:=by simpa using h1
  have ho:l[i]? =some l[i]:=by simp[hil]
  have hgi:gs[i]? =some (gs[i]'(by omega)):=by simp
  have hK:=hget i _ _ ho hgi
  generalize hgg:gs[i]'(by omega)=g at hgi hK
  generalize hoo:l[i]=o at ho hK
  have hlk:=h.looks hG hT hil h3
  have hlo:dP l.toArray i=o.looksAt l.toArray:=by simp only[dP,List.getElem?_toArray,ho]
  rw[hlo]at hlk
  have hpk:∀ks:List Nat,(ks.all fun k=>(o.looksAt l.toArray).contains k)=true→dQ E w a.eval (fS T ks):=fun ks hks k p hkp=>by
   obtain⟨e1,e2⟩:=iE ks k p hkp
   exact hlk k (by have:=List.all_eq_true.1 hks k e1;simpa using this) p e2
  have hwant:∀b,eE l.toArray T o=some b→Region.wanted o (yielded l.toArray a.tmps)=b:=fun b hb=>by
   rw[iy];exact kM (fun k hk p hp=>hlk k hk p hp) hb
  have hun:bJ (ls.setIfInBounds i true) l.length=fuel:=by have:=fe h2 hil (by rw[h.size];omega);omega
  unfold wpOp
  have ho':l.toArray[i]? =some o:=by simpa using ho
  simp only[ho']
  have hrk:jI gs i=g.r:=by simp only[jI,hgi,Option.bind_some]
  cases hK with
  | @val p d lo hi ks hks hw hy hd hN=>
   rw[hwant true hw,if_pos rfl]
   left
   obtain⟨σ,hσ,hs⟩:=h.sat
   obtain⟨q1,q2⟩:=hG.quiet i _ hgi rfl
   have hlo':lo≤r:=by
    rcases q1 with e|⟨j,hj,hj1,hj2⟩
    ·simp only at e;omega
    ·have:=(h.rk j _ (by simpa using hj) hj1).1 (h.reach hG hil hj2 h3)
     simp only at this;omega
   have hhi':r≤hi:=by
    rcases q2 with e|⟨j,hj,hj1,hj2⟩
    ·simp only at e;omega
    ·rcases Nat.lt_or_ge hi r with h'|h'
     ·have hjl:j<l.length:=by simpa using hj
      have e1:=(h.rk j _ hjl hj1).2 h'
      have e2:=h.reach hG hjl hj2 (h.down j e1 hj)
      rw[h2]at e2;cases e2
     ·exact h'
   refine oT (hy r σ hlo' hhi' hσ F base E a.eval w (fZ a) hs (hpk ks hks)) fun v w' hE hv=>?_
   exact ih _ r E _ w' (h.put hG hfr hil h2 h3 hgi (.ext hE) ⟨σ,hσ,hs.ext hE⟩ (.inl ⟨rfl,rfl⟩) ho (fun d' hd'=>by rw[hd]at hd';cases hd';exact Nat.blt_eq.mp hN) (fun _ _=>hv)) hun (hgo.trans (.ext hE)) (hb.trans (Below.ij hE hs.bl)) hrm
  | @skip d lo hi hw hd hN=>
   rw[hwant false hw,if_neg (by simp)]
   exact ih _ r E _ w (h.put hG hfr hil h2 h3 hgi (cP.refl _ _) h.sat (.inl ⟨rfl,rfl⟩) ho (fun d' hd'=>by rw[hd]at hd';cases hd';exact Nat.blt_eq.mp hN) (fun _ _=>.raw _)) hun hgo hb hrm
  | @EW p d r0 lo hi σ σ' ks hks hw e1 e2 hy hd hN=>
   rw[hwant true hw,if_pos rfl]
   left
   obtain⟨q1,q2⟩:=hG.EW i _ r0 hgi rfl
   have hr0:r0=r:=by
    have n1:¬r0<r:=fun h'=>by
     have:=(h.rk i r0 hil hrk).2 h'
     rw[h2]at this;cases this
    rcases q2 with e|⟨j,hj,hj1,hj2⟩
    ·omega
    ·have:=(h.rk j _ (by simpa using hj) hj1).1 (h.reach hG hil hj2 h3)
     omega
   subst hr0
   obtain⟨σ0,hσ,hs⟩:=h.sat
   rw[e1]at hσ;cases hσ
   obtain⟨v,w',E',hr,k1,k2,k3,k4⟩:=hy F base E a.eval w (fZ a) hs (hpk ks hks)
   have hn':=ih _ (r0+1) E' (a.put o.dst v) w' (h.put hG hfr hil h2 h3 hgi k2 ⟨σ',e2,k1⟩ (.inr ⟨rfl,rfl⟩) ho (fun d' hd'=>by rw[hd]at hd';cases hd';exact Nat.blt_eq.mp hN) (fun _ _=>k4)) hun (hgo.trans k2) (hb.trans k3) (by omega)
   unfold Oper.wp
   rcases hr with hr|⟨rfl,hr⟩
   ·rw[hr];exact hn'
   ·rw[hr];exact hn'
  | @ow p r0 lo hi σ σ' ks hks hw e1 e2 hy hd=>
   rw[hwant true hw,if_pos rfl]
   left
   obtain⟨q1,q2⟩:=hG.EW i _ r0 hgi rfl
   have hr0:r0=r:=by
    have n1:¬r0<r:=fun h'=>by
     have:=(h.rk i r0 hil hrk).2 h'
     rw[h2]at this;cases this
    rcases q2 with e|⟨j,hj,hj1,hj2⟩
    ·omega
    ·have:=(h.rk j _ (by simpa using hj) hj1).1 (h.reach hG hil hj2 h3)
     omega
   subst hr0
   obtain⟨σ0,hσ,hs⟩:=h.sat
   rw[e1]at hσ;cases hσ
   obtain⟨v,w',E',hr,k1,k2,k3,k4⟩:=hy F base E a.eval w (fZ a) hs (hpk ks hks)
   have hn':=ih _ (r0+1) E' (a.put o.dst v) w' (h.put hG hfr hil h2 h3 hgi k2 ⟨σ',e2,k1⟩ (.inr ⟨rfl,rfl⟩) ho (fun d' hd'=>by rw[hd]at hd';cases hd') (fun d' hd'=>by rw[hd]at hd';cases hd')) hun (hgo.trans k2) (hb.trans k3) (by omega)
   unfold Oper.wp
   rcases hr with hr|⟨rfl,hr⟩
   ·rw[hr];exact hn'
   ·rw[hr];exact hn'
end
theorem mM:∀(n k:Nat),k≤n→bJ (Array.replicate n false) k=k
 |n,0,_=>rfl
 |n,k+1,h=>by
  simp only[bJ]
  rw[mM n k (by omega)]
  simp[show k<n by omega]
theorem u4{id:Nat}{l:List Oper}{t t':bZ}{σ σm:cd}{Q:Exit→St→Prop}(f m:Nat)(σs:List cd)(gs:List GD)(T:bZ)(hm:P.follows .mixedOrders=true)(hB:Fl l.toArray f m gs=true)(hT:mC l (gs.map (·.p)) t=T)(hfr:(l.all fun o=>o.dst.all fun d=>(look d t).isNone)=true)(h0:σs[0]? =some σ)(h1:σs[m]? =some σm)
  (hL:GL P N l.toArray σs T l gs) (hsub:Sub T t') (hq:Q .normal ⟨t',σm⟩):W P N L (.region id l.toArray true) ⟨t,σ⟩ Q:=fun F base E₀ w₀ E a w hc hs=>by
 have hG:=BE hB
 have hE:Ext w {w with drawn:=w.drawn+1}:=⟨rfl,rfl,rfl,Nat.le_refl _,fun _ _=>rfl⟩
 refine wp_region_any hm ?_
 have hfr':∀i d,i<l.length→cg l.toArray i=some d→look d t=none:=fun i d hi hd=>by
  have ho:l[i]? =some l[i]:=by simp[hi]
  simp only[cg,List.getElem?_toArray,ho,Option.bind_some]at hd
  have:=List.all_eq_true.1 hfr _ (List.mem_of_getElem? ho)
  rw[hd]at this
  simpa using this
 have hg0:Es base N F l gs σs t (Array.replicate l.length false) 0 E a {w with drawn:=w.drawn+1}:=by
  have hrep:∀i,i<l.length→(Array.replicate l.length false).getD i true=false:=fun i hi=>by simp[hi]
  refine⟨by simp,fun i hi hi'=>?_,fun i s hi _=>?_,⟨σ,h0,hs.sat.ext hE⟩,hs.jQ,hs.size,hs.tmp.goes (.ext hE),fun j d g hj hjl=>?_⟩
  ·rw[hrep i (by simpa using hi')]at hi;cases hi
  ·rw[hrep i hi];simp
  ·rw[hrep j hj]at hjl;cases hjl
 have:=DZ (Q:=fun e a' w'=>nG F base N E₀ w₀ (Q e) a' w') hG hT hfr' hL h1 (E₀:=E₀) (w₀:=w₀) (fun a' w' E' k1 k2 k3 k4 k5 k6=>⟨⟨t',σm⟩,E',hq,⟨k1,k2.sub hsub,k3,k4⟩,k5,k6⟩) l.length _ 0 E a _ hg0 (mM _ _ (Nat.le_refl _)) (hc.g.trans (.ext hE)) (hc.b.trans (Below.ij hE hs.sat.bl)) (Nat.zero_le _)
 simpa using this
theorem Hq{id:Nat}{l:List Oper}{y:Code}{t t':bZ}{σ σm:cd}{Q:Exit→St→Prop}(f m:Nat)(σs:List cd)(gs:List GD)(T:bZ)(hm:P.follows .mixedOrders=true)(hB:Fl l.toArray f m gs=true)(hT:mC l (gs.map (·.p)) t=T)(hfr:(l.all fun o=>o.dst.all fun d=>(look d t).isNone)=true)(h0:σs[0]? =some σ)(h1:σs[m]? =some σm)
  (hL:GL P N l.toArray σs T l gs) (hsub:Sub T t') (hq:W P N L y ⟨t',σm⟩ Q):W P N L (.seq (.region id l.toArray true) y) ⟨t,σ⟩ Q:=aj (u4 f m σs gs T hm hB hT hfr h0 h1 hL hsub hq)
theorem yz{P:Program}{σs:List cd}{t:bZ}{o:Oper}{p:PV}{lo hi:Nat}(h:∀σ∈(σs.drop lo).take (hi+1 - lo),bg P σ t o p):∀r σ,lo≤r→r≤hi→σs[r]? =some σ→bg P σ t o p:=fun r σ h1 h2 hs=>by
 refine h σ (List.mem_of_getElem? (i:=r - lo) ?_)
 rw[List.getElem?_take,if_pos (by omega),List.getElem?_drop,show lo+(r - lo)=r by omega]
 exact hs
theorem gh{α:Type}{p:α→Prop}:∀x∈([]:List α),p x:=fun _ h=>by cases h
theorem eQ{α:Type}{p:α→Prop}{a:α}{l:List α}(h:p a)(hs:∀x∈l,p x):∀x∈a::l,p x:=fun x hx=>by
 rcases List.mem_cons.1 hx with rfl|h'
 ·exact h
 ·exact hs x h'
end
end PW
end Go.Proofs.YtnegbdpggideiaaGreatDoor
namespace Go.Proofs.YtnegbdpggideiaaGreatDoor
namespace PW
open Go.RowKit cA Mem Net eS
theorem Hs{P:Program}{N L:Nat}{x:Code}{st:St}{Q:Exit→St→Prop}{Q1:St→Prop}(h:W P N L x st (Gk Q1))(k:∀s,Q1 s→Q .normal s):W P N L x st Q:=
 h.mono fun e s hq=>by cases e<;>first|exact k s hq|exact hq.elim
theorem AB{T:ai}(hv:ao T=true)(D:List Bool)(n d:Nat):(bL T D n d).length≤512:=by
 have hl:=bN hv
 unfold bL
 split
 ·simp
 ·exact Nat.le_trans (List.length_filter_le _ _) (Nat.le_trans (dH T n _) (by omega))
def ik(T:ai)(k x:Int):List Bool:=if dL T k x=0 then aT T k x else []
theorem Cm{T:ai}{k x:Int}(h:(ao T&&bV T k x)=true):ik T k x=aT T k x:=by
 unfold ik dL
 rw[if_pos h,if_pos rfl]
theorem Em{T:ai}(hv:ao T=true){a:Nat}(ha:a<2*T.af.length)(h:0<fM T a):(ao T&&bV T 3 (fM T a))=true:=by
 have:=rU hv ha
 rw[hv]
 unfold bV
 simp only[if_neg (show ¬(3:Int)=1 by decide),if_neg (show ¬(3:Int)=2 by decide),if_true,Bool.true_and,Bool.and_eq_true,decide_eq_true_eq]
 exact⟨by omega,by omega⟩
theorem Cx{T:ai}(hv:ao T=true){a:Nat}(ha:a<2*T.af.length):(ao T&&bV T 2 (aS T a))=true:=by
 obtain⟨h0,h1⟩:=(aJ hv).head a ha
 rw[hv]
 unfold bV
 simp only[if_neg (show ¬(2:Int)=1 by decide),if_true,Bool.true_and]
 exact aW.2 ⟨h0,h1⟩
def kq(T:ai)(D E:List Bool)(k:Nat):List Bool:=(List.range (2*T.af.length)).map fun a=>if a<k then aX D a||aX E a else aX D a
theorem pN(T:ai)(D E:List Bool)(k:Nat):(kq T D E k).length=2*T.af.length:=by simp[kq]
theorem mQ{T:ai}{D E:List Bool}{k i:Nat}(h:i<(kq T D E k).length):(kq T D E k)[i]=if i<k then aX D i||aX E i else aX D i:=by simp[kq]
theorem xE{M:List Bool}{a:Nat}(h:a<M.length):aX M a=M[a]:=by rw[←gz];simp[h]
theorem Ao{T:ai}{D E:List Bool}(h:D.length=2*T.af.length):kq T D E 0=D:=by
 apply List.ext_getElem (by rw[pN,h])
 intro i h1 h2
 rw[mQ,if_neg (by omega),xE h2]
theorem Cq(T:ai)(D E:List Bool):kq T D E (2*T.af.length)=orM T D E:=by
 unfold kq orM
 exact List.map_congr_left fun a ha=>if_pos (List.mem_range.1 ha)
theorem zP(T:ai)(D E:List Bool)(k:Nat):(kq T D E k).set k (aX D k||aX E k)=kq T D E (k+1):=by
 apply List.ext_getElem (by simp[kq])
 intro i h1 h2
 rw[List.getElem_set,mQ,mQ]
 by_cases e:k=i
 ·subst e;rw[if_pos rfl,if_pos (by omega)]
 ·rw[if_neg e]
  by_cases h:i<k
  ·rw[if_pos h,if_pos (by omega)]
  ·rw[if_neg h,if_neg (by omega)]
theorem FO{T:ai}{D E:List Bool}{k:Nat}(h:k<2*T.af.length):(kq T D E k).getD k false=aX D k:=by
 have hk:k<(kq T D E k).length:=by rw[pN];exact h
 rw[List.getD_eq_getElem?_getD,List.getElem?_eq_getElem hk,Option.getD_some,mQ,if_neg (by omega)]
end PW
end Go.Proofs.YtnegbdpggideiaaGreatDoor
namespace Go.Proofs.YtnegbdpggideiaaGreatDoor
namespace PW
open Go.RowKit cA Mem Net
theorem AH(rs:List (List Int))(i:Nat)(hi:i<rs.length):Can Tryz.prog 204 ([num i]++[.aV [iX rs] 0]) (· =ax (rs.getD i [])):=by
 exact aF Tryz.func204 rfl Tryz.ntmps204 rfl<|ab (.a 1 rfl<|.k [0,1] rfl)<|ab (.a 2 rfl<|.v (aI (i) rfl) rfl<|.v (aL rfl ((show(rs.map ax)[i]? =some (ax (rs.getD i [])) by simp[hi]))) rfl<|.a 1 rfl<|.k [3] rfl)<|aq<|⟨_,_,aA.of rfl,aB.pure,rfl⟩
theorem za(T:ai)(a:Nat)(ha:a<2*T.af.length)(hl:T.af.length≤4611686018427387902):Can Tryz.prog 205 ([num a]++[.aV (bx T) 0]) (· =num (aS T a)):=by
 exact aF Tryz.func205 rfl Tryz.ntmps205 rfl<|ab (.a 1 rfl<|.k [0,1] rfl)<|ab (.a 2 rfl<|.c rfl (fu T a ha hl) rfl<|.a 1 rfl<|.k [3] rfl)<|aq<|⟨_,_,aA.of rfl,aB.pure,rfl⟩
theorem Bq(T:ai)(D:List Bool)(d:Int):Can Tryz.prog 180 [aP T,bf D,num d] (· =ep (cO T D [d]) (bK T D d.toNat true)):=by
 refine aF Tryz.func180 rfl Tryz.ntmps180 rfl<|ab (.a 3 rfl<|.k [1,2,3] rfl)<|aj<|ab (.a 4 rfl<|.c rfl (nN T D [d] (by simp)) rfl<|.a 1 rfl<|.k [1,2,3,8] rfl)<|ab (.a 2 rfl<|.k [1,2,3,8,17] rfl)<|ah rfl (fun hc=>?_) (fun hc=>?_)
 ·have he:cO T D [d]≠0:=of_decide_eq_true hc
  exact ab (.a 3 rfl<|.k [6,7] rfl)<|aq<|⟨_,_,aA.of rfl,aB.bG (an.cons aB.b9 (an.cons aB.pure an.nil)),by unfold ep;rw[if_neg he];rfl⟩
 ·have he:cO T D [d]=0:=by have:=of_decide_eq_false hc;omega
  have hok:(ao T&&bX T D)=true∧bu T d=true:=by
   unfold cO at he
   split at he
   ·rename_i h1
    split at he
    ·rename_i h2;exact⟨h1,by simpa using h2⟩
    ·omega
   ·omega
  obtain⟨hvf,hnd⟩:=hok
  obtain⟨hv,hf⟩:=Bool.and_eq_true_iff.1 hvf
  have hd:0≤d∧d<T.nodes:=by simpa[bu]using hnd
  obtain⟨n,rfl⟩:=Int.eq_ofNat_of_zero_le hd.1
  have hS:=aJ hv
  refine ak<|aQ<|au 1 rfl<|ek rfl (kU T hv) rfl<|au 2 rfl<|aH [1,2,3,9] rfl ?_
  refine aQ<|au 3 rfl<|bz (dA rfl rfl) rfl<|au 4 rfl<|aH [10] rfl ?_
  refine ud (.cons 10 rfl (aB.jc rfl (an.cons aB.pure<|an.cons aB.pure<|an.cons aB.pure<|an.cons aB.pure<|an.cons aB.pure<|an.cons (aB.il (an.cons (aB.jc rfl (an.cons aB.pure an.nil)) an.nil))<|an.cons aB.pure an.nil)) .nil) ?_
  exact ab (.a 1 rfl<|.c rfl (yA T D n true 204 205 [.aV [iX (cZ (bq T) T.nodes.toNat (2*T.af.length))] 0] [.aV (bx T) 0] hv hf hd.2 (by kernel_rfl) (by kernel_rfl) (fun i hi=>by have h:=AH (cZ (bq T) T.nodes.toNat (2*T.af.length)) i (by rw[eG];omega);rw[iD _ _ _ _ (by omega)]at h;exact h) (fun a ha=>za T a ha (by have:=bN hv;omega))) rfl<|.a 2 rfl<|.k [6,7] rfl)<|aq<|⟨_,_,aA.of rfl,aB.pure,by unfold ep;rw[if_pos he,he];rfl⟩
end PW
end Go.Proofs.YtnegbdpggideiaaGreatDoor
