/- Texts of the proof, part 9. -/
import Derived.Test.YteikppbedmmdnaaGreatDoorCardWIB8
set_option linter.unusedVariables false
set_option linter.unusedSimpArgs false
set_option maxRecDepth 10000
set_option maxHeartbeats 1000000
namespace Go.Proofs.YteikppbedmmdnaaGreatDoor
namespace PW
section
open Go.RowKit cj Mem Net eX
theorem nx(l:List Int)(hl:l.length≤1000):Can Tryz.prog 35 [aw l] (· =aw l):=by
 refine aT Tryz.func35 I Tryz.ntmps35 I<|af (.a 1 I<|.k [0] I)<|an<|aR (WR.mono (K:=fun s=>∃b:Bool,s=⟨[(0,aw l),(4,.raw (.bool b))],[]⟩∧(b=true→l=[])) ?_ ?_)
 ·cases l with
  |nil=>exact ax 1 rfl<|vC rfl Kr rfl rfl rfl rfl rfl fun b=>aH [0,4] rfl ⟨b,rfl,fun _=>rfl⟩
  |cons a l=>exact ax 1 rfl<|bA (je rfl Kr rfl rfl (Nat.succ_pos _)) rfl rfl rfl<|aH [0,4] rfl ⟨_,rfl,fun h=>by cases h⟩
 rintro _ ⟨b,rfl,hb⟩
 refine aj I (fun hc=>?_) (fun hc=>?_)
 ·have:l=[]:=hb hc
  subst this
  exact af (.a 1 I<|.k [2] I)<|az<|⟨_,_,aE.of I,aD.cc,rfl⟩
 ·refine ak<|aR<|cg (fu I (bG.sl.get I)) I<|ax 1 I<|cg (bC I (bG.rk.get I) I I I (show(aL l).length=l.length*1 by simp[aL]) (by unfold maxLen;omega)) I<|ax 1 I<|aH [2] I ?_
  refine az<|⟨_,_,aE.of I,aD.dA (xs:=aL l) (ys:=aL l) I ai.pure,?_⟩
  rw[Nat.zero_add];rfl
theorem CC(n:Nat)(hn:n≤1000):aW Tryz.prog 132 [.raw (.slice none 0 0),num n] [] (fun r σ'=>r= .own 0∧σ'=[some (.row 112 2 0 [])]):=by
 refine bO Tryz.func132 I Tryz.ntmps132 I<|af (.a 1 I<|.k [0,1] I)<|an<|af (.a 2 I<|.k [0,1,6] I)<|aj I (fun h1=>?_) (fun h1=>?_)
 ·exact absurd (tt h1) (by omega)
 ·clear h1
  refine ak<|an<|af (.a 2 I<|.v (wL I (bG.el.get I) I) I<|.a 1 I<|.v (rb I (bG.el.get I) I) I<|.v (aU I) I<|.v (aU I) I<|.a 1 I<|.k [0,1] I)<|af (.a 2 I<|.k [0,1,16] I)<|aj I (fun h2=>?_) (fun h2=>?_)
  ·have hpos:0<n:=by have:=tt h2;omega
   refine bx<|ax 2 I<|bw (wL I (bG.el.get I) I) I<|bw (zf I (bG.el.get I) I I) I<|ax 1 I<|cg (CF (n:=n) I (bG.rk.get I) Tryz.underlying3 rfl rfl (by omega) hpos (by unfold maxLen;omega)) I<|ax 1 I<|bw (rb I (bG.el.get I) I) I<|cg (oL (h:=0) I (bG.el.get I) I I I I (by omega)) I<|ax 1 I<|aH [0] I ?_
   refine cJ [1] (.c 0<|.nil) (.kept rfl (.row ao.nil)<|.nil) I I ?_
   exact af (.a 2 I<|.k [4] I)<|az<|⟨_,aE.of I,rfl,rfl⟩
  ·refine fM 0 112 2 I ?_
   exact ak<|af (.a 2 I<|.k [4] I)<|az<|⟨_,aE.of I,rfl,rfl⟩
def ra(A B:List cr)(i:Nat):List cr:=if i=0 then [] else if i=1 then A else A++B
def HL(A B:List cr)(i:Nat):List cr:=if i=0 then A else B
theorem xn(A B:List cr){i:Nat}(h:i<2):ra A B (i+1)=ra A B i++HL A B i:=by
 rcases(show i=0∨i=1 by omega)with rfl|rfl<;>rfl
theorem qB(A B:List cr)(i:Nat):(ra A B i).length≤A.length+B.length:=by
 unfold ra
 split
 ·simp
 ·split<;>simp
theorem pO(A B:List cr)(hl:A.length+B.length≤1000):Can Tryz.prog 118 [.slice 2 [cN A,cN B]] (· =cN (A++B)):=by
 refine aT Tryz.func118 I Tryz.ntmps118 I ?_
 have hg:=CC (A++B).length (by simpa using hl)
 refine af (.a 1 I<|.k [0] I)<|af (.a 1 I<|.k [0,3] I)<|an<|af (.a 3 I<|.k [0,3,9,10,11] I)<|ay<|eY [0,3,9,10,11] I<|br (fun r s=>∃i,i≤2∧r=2 - i∧s=⟨[(0,.slice 2 [cN A,cN B]),(3,num (ra A B i).length),(9,.slice 2 [cN A,cN B]),(10,num 2),(11,num i)],[]⟩) 2 ⟨0,by omega,by omega,rfl⟩ ?_
 rintro r s ⟨i,hi,rfl,rfl⟩
 refine af (.a 1 I<|.k [0,3,9,10,11,12] I)<|an<|aj I (fun h1=>?_) (fun h1=>?_)
 ·have hlt:i<2:=by have:=tt h1;omega
  have hc1:=qB A B i
  have hc2:=qB A B (i+1)
  have hst:=congrArg List.length (xn A B hlt)
  rw[List.length_append]at hst
  have hget:[cN A,cN B][i]? =some (cN (HL A B i)):=by
   rcases(show i=0∨i=1 by omega)with rfl|rfl<;>rfl
  clear h1
  refine ak<|an<|ay<|af (.v (aJ (i) I) I<|.v (aK I (hget)) I<|.a 1 I<|.k [0,3,5,9,10,11] I)<|af (.a 3 I<|.v (aU I (hc:=(show((ra A B i).length:Int)+((HL A B i).length:Int)=((ra A B (i+1)).length:Int) by omega)) (hn:=(by unfold In64;omega))) I<|.a 1 I<|.k [0,3,9,10,11] I)<|af (.a 2 I<|.k [0,3,9,10,11,20] I)<|aj I (fun h2=>?_) (fun h2=>?_)
  ·exact absurd (tt h2) (by omega)
  ·clear h2
   refine ak<|aF (.v (aU I) I<|.a 1 I<|.k [0,3,9,10,11] I) ?_
   exact⟨2 - (i+1),by omega,i+1,by omega,rfl,rfl⟩
 ·have hie:i=2:=by have:=ff h1;omega
  subst hie
  have hcat:ra A B 2=A++B:=rfl
  rw[hcat]
  clear h1
  refine bp<|aR<|ax 1 I<|b7 I I (aW.mono hg (fun r σ' h=>?_))
  obtain⟨rfl,rfl⟩:=h
  refine ax 1 I<|aH [0,6] I ?_
  refine an<|af (.a 3 I<|.k [6,25,26,27] I)<|ay<|eY [6,25,26,27] I<|br (fun r s=>∃i,i≤2∧r=2 - i∧s=⟨[(6,.own 0),(25,.slice 2 [cN A,cN B]),(26,num 2),(27,num i)],[some (.row 112 2 (ra A B i).length (eS (ra A B i)))]⟩) 2 ⟨0,by omega,by omega,rfl⟩ ?_
  rintro r s ⟨i,hi,rfl,rfl⟩
  refine af (.a 1 I<|.k [6,25,26,27,28] I)<|an<|aj I (fun h1=>?_) (fun h1=>?_)
  ·have hlt:i<2:=by have:=tt h1;omega
   have hc1:=qB A B i
   have hc2:=qB A B (i+1)
   have hst:=xn A B hlt
   have hsl:=congrArg List.length hst
   rw[List.length_append]at hsl
   have hget:[cN A,cN B][i]? =some (cN (HL A B i)):=by
    rcases(show i=0∨i=1 by omega)with rfl|rfl<;>rfl
   clear h1
   refine ak<|an<|ay<|af (.v (aJ (i) I) I<|.v (aK I (hget)) I<|.a 1 I<|.k [6,8,25,26,27] I)<|bx<|ax 2 I<|cg (bC I (bG.rk.get I) I I I (mG _) (show _≤maxLen∧_*16≤140737488355328 by unfold maxLen;omega)) I<|ax 1 I ?_
   refine eQ [1] (.c 6<|.c 25<|.c 26<|.c 27<|.nil) (.kept rfl (.fk rfl (rfl))<|.nil) I I (bf ?_)
   refine aF (.v (aU I) I<|.a 1 I<|.k [6,25,26,27] I) ?_
   refine⟨2 - (i+1),by omega,i+1,by omega,rfl,?_⟩
   rw[hst,List.length_append]
   unfold eS
   rw[List.flatMap_append]
   rfl
  ·have hie:i=2:=by have:=ff h1;omega
   subst hie
   have hcat:ra A B 2=A++B:=rfl
   rw[hcat]
   clear h1
   exact bp<|af (.a 2 I<|.k [2] I)<|az<|⟨_,_,aE.of I,aD.dA rfl ai.pure,rfl⟩
def HO(v:Int):List Int→Nat→Int
 | [],_=> -1
 |a::l,i=>bif decide (v=a) then(i:Int) else HO v l (i+1)
theorem Ad(v:Int):∀(l:List Int) (i:Nat),0≤HO v l i↔v∈l
 | [],i=>by simp[HO]
 |a::l,i=>by
  simp only[HO]
  by_cases h:v=a
  ·rw[decide_eq_true h,cond_true]
   exact⟨fun _=>by rw[h];exact List.mem_cons_self,fun _=>by omega⟩
  ·rw[decide_eq_false h,cond_false,Ad v l (i+1),List.mem_cons]
   exact⟨.inr,fun h'=>h'.resolve_left h⟩
theorem Hm(v:Int)(l:List Int)(i:Nat):decide (0≤HO v l i)=decide (v∈l):=decide_eq_decide.2 (Ad v l i)
theorem yM(l:List Int)(v:Int)(hl:l.length≤1000):Can Tryz.prog 117 [aw l,num v] (· =num (HO v l 0)):=by
 refine aT Tryz.func117 I Tryz.ntmps117 I<|af (.a 1 I<|.k [0,1] I)<|an<|af (.a 3 I<|.k [0,1,7,8] I)<|ay<|eY [0,1,7,8] I<|br (fun r s=>∃i,i≤l.length∧r=l.length - i∧HO v l 0=HO v (l.drop i) i∧s=⟨[(0,aw l),(1,num v),(7,num l.length),(8,num i)],[]⟩) l.length ⟨0,by omega,by omega,rfl,rfl⟩ ?_
 rintro r s ⟨i,hi,rfl,hx,rfl⟩
 refine af (.a 1 I<|.k [0,1,7,8,9] I)<|an<|aj I (fun h1=>?_) (fun h1=>?_)
 ·have hlt:i<l.length:=by have:=tt h1;omega
  rw[drop_cons l i hlt]at hx
  simp only[HO]at hx
  obtain⟨q,hq⟩:∃q,decide (v=l.getD i 0)=q:=⟨_,rfl⟩
  rw[hq]at hx
  refine ak<|an<|ay<|af (.a 2 I<|.k [0,1,5,7,8] I)<|af (.a 3 I<|.v (aJ (i) I) I<|.v (aK I (aC l i hlt)) I<|.v (cD I (hq)) I<|.k [0,1,5,7,8,16] I)<|aj I (fun h2=>?_) (fun h2=>?_)
  ·subst h2
   rw[cond_true]at hx
   rw[hx]
   exact af (.a 2 I<|.k [4] I)<|az<|⟨_,_,aE.of I,aD.pure,rfl⟩
  ·subst h2
   rw[cond_false]at hx
   refine ak<|aF (.v (aU I) I<|.a 1 I<|.k [0,1,7,8] I) ?_
   exact⟨l.length - (i+1),by omega,i+1,by omega,rfl,hx,rfl⟩
 ·have hie:i=l.length:=by have:=ff h1;omega
  subst hie
  rw[List.drop_length]at hx
  rw[hx]
  exact bp<|af (.a 1 I<|.k [4] I)<|az<|⟨_,_,aE.of I,aD.pure,rfl⟩
theorem sD(l:List Int)(v:Int)(hl:l.length≤1000):Can Tryz.prog 95 [aw l,num v] (· =flag (decide (v∈l))):=by
 obtain⟨q,hq⟩:∃q,decide (v∈l)=q:=⟨_,rfl⟩
 have hm:=(Hm v l 0).trans hq
 rw[hq]
 exact aT Tryz.func95 I Tryz.ntmps95 I<|af (.a 1 I<|.k [0,1] I)<|af (.a 2 I<|.c rfl (yM l v hl) I<|.v (cD I (hm)) I<|.a 1 I<|.k [4] I)<|az<|⟨_,_,aE.of I,aD.pure,rfl⟩
structure gg where
 id:Int
 src:Int
 dst:Int
 rf:Int
 stack:List cr
 gS:Int
def dU(p:gg):List PV:=[num p.id,num p.src,num p.dst,num p.rf,cN p.stack,num p.gS]
def fc(p:gg):PV:=.agg (dU p)
instance (p:gg):aI (dU p):=by unfold dU;infer_instance
instance (p:gg):IsPure (fc p):=by unfold fc;infer_instance
structure Out where
 av:List Int
 fe:gg
 jZ:Int
def A9(r:Out):PV:=.tuple [aw r.av,fc r.fe,num r.jZ]
def iK(p:gg)(r:Int):Out:=⟨[],p,r⟩
def gV(p:gg)(s:List cr)(av:List Int):Out:=⟨av,⟨p.id,p.src,p.dst,p.rf,s,p.gS+1⟩,0⟩
def jo(p:gg)(s:List cr)(e:kD):Out:=
 if e.rep then(if 32<(e.push++s.drop 1).length then iK p 5 else gV p (e.push++s.drop 1) e.av) else gV p s e.av
theorem qX(p:gg)(s:List cr)(hl:s.length≤1000):Can Tryz.prog 94 [fc p,cN s] (· =fc ⟨p.id,p.src,p.dst,p.rf,s,p.gS⟩):=by
 refine aT Tryz.func94 I Tryz.ntmps94 I<|aR<|cg (eV I I I) I<|ax 1 I<|aH [1,2,4] I ?_
 refine aR<|ax 1 I<|fC I (nC s hl) I<|ax 2 I<|aH [2,4] I ?_
 refine aR<|ax 2 I<|aH [4] I ?_
 exact az<|⟨_,_,aE.of I,aD.pure (p:=fc ⟨p.id,p.src,p.dst,p.rf,s,p.gS⟩),rfl⟩
theorem gI(p:gg)(r:Int)(hl:p.stack.length≤1000):Can Tryz.prog 93 [fc p,num r] (· =A9 (iK p r)):=by
 refine aT Tryz.func93 I Tryz.ntmps93 I<|aR<|ax 4 I<|aH [1,2,5] I ?_
 refine aR<|ax 2 I<|bw (aK I ((rfl:(dU p)[4]? =some (cN p.stack)))) I<|fC I (qX p p.stack hl) I<|ax 4 I<|aH [4,5,6] I ?_
 exact az<|⟨_,_,aE.of I,aD.bY (ai.cons aD.cc<|ai.cons (aD.pure (p:=fc p))<|ai.cons aD.pure ai.nil),rfl⟩
theorem ma(p:gg)(s:List cr)(av:List Int)(hl:s.length≤1000)(ha:av.length≤1000)(hh:0≤p.gS∧p.gS≤1000):Can Tryz.prog 96 [fc p,cN s,aw av] (· =A9 (gV p s av)):=by
 refine aT Tryz.func96 I Tryz.ntmps96 I<|aR<|cg (eV I I I) I<|ax 3 I<|aH [1,2,3,7] I ?_
 refine aR<|ax 2 I<|fC I (qX p s hl) I<|ax 1 I<|aH [2,3,7] I ?_
 refine aR<|ax 2 I<|bw (aU I (hn:=(show In64 (p.gS+1) by unfold In64;omega))) I<|ax 2 I<|aH [2,3,7] I ?_
 refine lT 4 20 mixed (
  .val [2] I (bn I) I I<|
  .val [16] I (eW I (nx av ha)) I I<|
  .val [3] I (bn I) I I<|
  .val [17] I (bn I) I I<|
  .nil) (by kernel_rfl) I I (bm (ks:=[6,7,18]) I) ?_
 refine ax 2 I<|aH [6,7,8] I ?_
 exact az<|⟨_,_,aE.of I,aD.bY (ai.cons (aD.pure (p:=aw av))<|ai.cons (aD.pure (p:=fc ⟨p.id,p.src,p.dst,p.rf,s,p.gS+1⟩))<|ai.cons aD.pure ai.nil),rfl⟩
theorem tY{T:ah}{n:Int}{L:List Int}(hl:T.ae.length≤256)(h:iE T n L=true):L.length≤512:=by
 have h:=of_decide_eq_true h
 have key:∀i:Nat,i<L.length→(i:Int)≤L.getD i 0:=by
  intro i
  induction i with
  |zero=>intro hi;have:=(dh.1 (h 0 hi).1).1;omega
  |succ i ih=>
   intro hi
   have h1:=ih (by omega)
   have h2:=(h (i+1) hi).2.2 (by omega)
   rw[Nat.add_sub_cancel]at h2
   omega
 rcases Nat.eq_zero_or_pos L.length with h0|h0
 ·omega
 ·have h1:=key (L.length - 1) (by omega)
  have h2:=dh.1 (h (L.length - 1) (by omega)).1
  omega
theorem s4(p:gg)(s:List cr)(e:kD)(hs:s.length≤40)(hp:e.push.length≤40)(ha:e.av.length≤1000)(hps:p.stack.length≤1000)(hh:0≤p.gS∧p.gS≤1000):Can Tryz.prog 97 [fc p,cN s,wq e] (· =A9 (jo p s e)):=by
 obtain⟨c,hc⟩:∃q,e.rep=q:=⟨_,rfl⟩
 have hE:jo p s e=if c then(if 32<(e.push++s.drop 1).length then iK p 5 else gV p (e.push++s.drop 1) e.av) else gV p s e.av:=by unfold jo;rw[hc]
 rw[hE]
 refine aT Tryz.func97 I Tryz.ntmps97 I<|aR<|ax 5 I<|aH [1,3,5,7] I ?_
 refine an<|af (.a 1 I<|.v (aK I ((show(sn e)[1]? =some (flag c) by rw[←hc];rfl))) I<|.k [1,3,5,7,11] I)<|aj I (fun h1=>?_) (fun h1=>?_)
 ·subst h1
  simp only[if_true]
  refine af (.a 2 I<|.k [3,5,7,9] I)<|an<|af (.a 3 I<|.k [3,5,7,9,15] I)<|aj I (fun h2=>?_) (fun h2=>?_)
  ·obtain⟨a,l,rfl⟩:∃a l,s=a::l:=by
    cases s with
    |nil=>exact absurd (tt h2) (by simp)
    |cons a l=>exact⟨a,l,rfl⟩
   simp only[List.drop_succ_cons,List.drop_zero]
   obtain⟨s',hs',hsl⟩:∃s',l=s'∧s'.length≤40:=⟨l,rfl,by simp at hs;omega⟩
   refine aF (.a 1 I<|.v (me I (bG.el.get I) I I) I<|.a 1 I<|.k [3,5,7,9] I) ?_
   rw[hs']
   refine af (.a 4 I<|.c rfl (pO e.push s' (by omega)) I<|.a 1 I<|.k [1,3,5,7] I)<|af (.a 3 I<|.k [1,3,5,7,25] I)<|aj I (fun h3=>?_) (fun h3=>?_)
   ·have h3:=tt h3
    rw[if_pos (by omega)]
    refine aR<|ax 1 I<|fC I (gI p 5 hps) I<|ax 6 I<|aH [6,7,8] I ?_
    exact az<|⟨_,_,aE.of I,aD.bY (ai.cons (aD.pure (p:=aw []))<|ai.cons (aD.pure (p:=fc p))<|ai.cons aD.pure ai.nil),rfl⟩
   ·have h3:=ff h3
    rw[if_neg (by omega)]
    refine ak<|aR<|ax 4 I<|fC I (ma p _ e.av (by first|(simp only[List.length_append];omega)|omega) ha hh) I<|ax 6 I<|aH [6,7,8] I ?_
    exact az<|⟨_,_,aE.of I,aD.bY (ai.cons (aD.pure (p:=aw e.av))<|ai.cons (aD.pure (p:=fc ⟨p.id,p.src,p.dst,p.rf,_,p.gS+1⟩))<|ai.cons aD.pure ai.nil),rfl⟩
  ·obtain rfl:s=[]:=by
    cases s with
    |nil=>rfl
    |cons a l=>exact absurd (ff h2) (by simp)
   simp only[List.drop_nil]
   obtain⟨s',hs',hsl⟩:∃s',([]:List cr)=s'∧s'.length≤40:=⟨[],rfl,by simp⟩
   refine ak ?_
   rw[hs']
   refine af (.a 4 I<|.c rfl (pO e.push s' (by omega)) I<|.a 1 I<|.k [1,3,5,7] I)<|af (.a 3 I<|.k [1,3,5,7,25] I)<|aj I (fun h3=>?_) (fun h3=>?_)
   ·have h3:=tt h3
    rw[if_pos (by omega)]
    refine aR<|ax 1 I<|fC I (gI p 5 hps) I<|ax 6 I<|aH [6,7,8] I ?_
    exact az<|⟨_,_,aE.of I,aD.bY (ai.cons (aD.pure (p:=aw []))<|ai.cons (aD.pure (p:=fc p))<|ai.cons aD.pure ai.nil),rfl⟩
   ·have h3:=ff h3
    rw[if_neg (by omega)]
    refine ak<|aR<|ax 4 I<|fC I (ma p _ e.av (by first|(simp only[List.length_append];omega)|omega) ha hh) I<|ax 6 I<|aH [6,7,8] I ?_
    exact az<|⟨_,_,aE.of I,aD.bY (ai.cons (aD.pure (p:=aw e.av))<|ai.cons (aD.pure (p:=fc ⟨p.id,p.src,p.dst,p.rf,_,p.gS+1⟩))<|ai.cons aD.pure ai.nil),rfl⟩
 ·subst h1
  simp only[Bool.false_eq_true,if_false]
  refine ak<|aR<|ax 4 I<|fC I (ma p _ e.av (by first|(simp only[List.length_append];omega)|omega) ha hh) I<|ax 6 I<|aH [6,7,8] I ?_
  exact az<|⟨_,_,aE.of I,aD.bY (ai.cons (aD.pure (p:=aw e.av))<|ai.cons (aD.pure (p:=fc ⟨p.id,p.src,p.dst,p.rf,_,p.gS+1⟩))<|ai.cons aD.pure ai.nil),rfl⟩
def ei(x:eN)(v:Int):kD:=x.eO.getD v.toNat I7
def nf(h:cr):List cr→List cr
 | []=>[]
 |a::l=>if a=h then nf h l else a::l
def Jt(T:ah)(x:eN)(p:gg)(s:List cr)(v:Int)(K:Out):Out:=if(bH T v&&decide (0<((ei x v).av.length:Int)))=true then jo p s (ei x v) else K
def ic(T:ah)(x:eN)(p:gg)(s:List cr)(K:Out):Out:=
 if(decide ((s.length:Int)=0)&&decide (p.dst=x.node))=true then⟨[],⟨p.id,p.src,p.dst,p.rf,[],p.gS⟩, -1⟩
 else if(decide (255≤p.gS)||decide (p.gS<0))=true then iK p 4
 else match s with
  | []=>Jt T x p [] p.dst (iK p 1)
  |a::l=>if a.kind=1 then Jt T x p (a::l) a.num K
   else if a.kind=2 then(if(!(dS T a.num)||decide (aN T a.num.toNat≠x.node))=true then iK p 2 else if a.num∈x.down then K else gV p l [a.num])
   else iK p 1
def gG(T:ah)(x:eN)(p:gg):Out:=
 if((!fA T x)|| !(bH T p.dst))=true then iK p 1
 else if 32<(p.stack.length:Int) then iK p 5
 else ic T x p (nf ⟨1,x.node⟩ p.stack) (ic T x p [] (iK p 1))
theorem oV{T:ah}{x:eN}(h:fA T x=true){v:Int}(hv:bH T v=true):∃k:Nat,v=(k:Int)∧x.eO[k]? =some (ei x v)∧(ei x v).push.length≤40∧(ei x v).av.length≤1000:=by
 unfold fA at h
 simp only[Bool.and_eq_true,decide_eq_true_eq]at h
 obtain⟨⟨⟨⟨h1,h2⟩,h3⟩,h4⟩,h5⟩:=h
 have hll:=bX h1
 obtain⟨v0,v1⟩:=bu.1 hv
 obtain⟨k,rfl⟩:=Int.eq_ofNat_of_zero_le v0
 have hk:k<x.eO.length:=by omega
 have hg:x.eO[k]? =some (ei x (k:Int)):=by
  unfold ei
  rw[Int.toNat_natCast,List.getD_eq_getElem?_getD,List.getElem?_eq_getElem hk]
  rfl
 have ho:=(of_decide_eq_true h5) k hk
 rw[mq _ _ _ hg]at ho
 unfold oh at ho
 simp only[Bool.and_eq_true]at ho
 refine⟨k,rfl,hg,?_,?_⟩
 ·have:=ho.2
  split at this
  ·simp only[Bool.and_eq_true,decide_eq_true_eq]at this;omega
  ·simp only[decide_eq_true_eq]at this;omega
 ·have:=tY hll ho.1.1;omega
theorem zS{T:ah}{x:eN}(h:fA T x=true):x.down.length≤1000:=by
 unfold fA at h
 simp only[Bool.and_eq_true]at h
 have:=tY (bX h.1.1.1.1) h.1.2
 omega
set_option maxHeartbeats 2000000 in
theorem DA(T : ah)(x : eN)(p : gg)(hps : p.stack.length ≤ 1000) : Can Tryz.prog 68 [aZ T, qk x, fc p] (· = A9 (gG T x p)) := by
  obtain⟨c1,hc1⟩:∃q,fA T x=q:=⟨_,rfl⟩
  obtain⟨c2,hc2⟩:∃q,bH T p.dst=q:=⟨_,rfl⟩
  obtain⟨n,hn⟩:∃n,x.node=n:=⟨_,rfl⟩
  unfold gG
  rw[hc1,hc2]
  refine aT Tryz.func68 I Tryz.ntmps68 I<|aR<|ax 6 I<|aH [3,4,5,7] I ?_
  refine AX ?_
  refine an<|bP 22 (.raw (.bool ((!c1)|| !c2))) [3,4,5,7] I ?_ ?_
  · refine .a 2 I<|.c rfl (hc1▸rm T x) I<|.a 2 I<|?_
    cases c1
    · exact .a 6 I<|.k [22,3,4,5,7] I
    · exact .a 3 I<|.c rfl (hc2▸dy T p.dst) I<|.a 2 I<|.k [22,3,4,5,7] I
  refine aj I (fun h1=>?_) (fun h1=>?_)
  · rw[if_pos h1]
    refine aR<|ax 1 I<|fC I (gI p 1 hps) I<|ax 6 I<|aH [6,7,8] I ?_
    exact az<|⟨_,_,aE.of I,aD.bY (ai.cons (aD.pure (p:=aw []))<|ai.cons (aD.pure (p:=fc p))<|ai.cons aD.pure ai.nil),rfl⟩
  · rw [if_neg (by rw [h1]; simp)]
    obtain⟨rfl,rfl⟩:c1=true∧c2=true:=by revert h1;cases c1<;>cases c2<;>simp
    refine ak<|an<|af (.a 1 I<|.v (aK I ((rfl:(dU p)[4]? =some (cN p.stack)))) I<|.a 2 I<|.k [3,4,5,7,31] I)<|aj I (fun h2=>?_) (fun h2=>?_)
    · rw[if_pos (tt h2)]
      refine aR<|ax 1 I<|fC I (gI p 5 hps) I<|ax 6 I<|aH [6,7,8] I ?_
      exact az<|⟨_,_,aE.of I,aD.bY (ai.cons (aD.pure (p:=aw []))<|ai.cons (aD.pure (p:=fc p))<|ai.cons aD.pure ai.nil),rfl⟩
    · rw [if_neg (ff h2)]
      have h32:p.stack.length≤32:=by have:=ff h2;omega
      refine ak<|af (.a 1 I<|.v (aK I ((rfl:(dU p)[4]? =some (cN p.stack)))) I<|.a 1 I<|.k [3,4,5,7,9] I)<|aR<|ax 1 I<|bw (aK I ((show(gA x)[0]? =some (num n) by rw[←hn];rfl))) I<|ax 3 I<|aH [3,4,5,7,9,10] I ?_
      refine an<|ay<|eY [3,4,5,7,9,10] I<|br (fun r st=>∃s:List cr,s.length≤32∧r=s.length∧nf ⟨1,n⟩ p.stack=nf ⟨1,n⟩ s∧st=⟨[(3,.bg (bI T) 0),(4,.bg (gA x) 0),(5,.bg (dU p) 0),(7,.ptr 0 0),(9,cN s),(10,.ptr 1 0)],[some (.cells 57 [num 0,num 0,num 0,num 0,.raw (.slice none 0 0),num 0]),some (.cells 112 [num 1,num n])]⟩) p.stack.length ⟨p.stack,h32,rfl,rfl,rfl⟩ ?_
      rintro r st ⟨s,hs,rfl,hsk,rfl⟩
      obtain⟨e1,he1⟩:∃q,decide (0<(s.length:Int))=q:=⟨_,rfl⟩
      obtain⟨a,ha⟩:∃a,s.getD 0 ⟨0,0⟩=a:=⟨_,rfl⟩
      obtain⟨e2,he2⟩:∃q,decide (a=(⟨1,n⟩:cr))=q:=⟨_,rfl⟩
      refine an<|nG mixed (by kernel_rfl) 51 (.raw (.bool (e1&&e2))) [3,4,5,7,9,10] I ?_ ?_
      · refine .a 2 I<|.v [43] (cD I (he1)) I I<|.a 1 I<|?_
        cases e1
        · exact .a 6 I<|.k [51,3,4,5,7,9,10] I
        · exact .a 1 I<|.v [46] (aJ (0) I (by omega) (by have:=tt he1;omega)) I I<|.v [47] (ju I (pn s 0 a (by rw[←ha];have:=tt he1;rw[List.getD_eq_getElem?_getD,List.getElem?_eq_getElem (by omega)];rfl)) I) I I<|.a 1 I<|.v [48,49] (DT I I (b:=⟨1,n⟩) I he2) I I<|.a 1 I<|.k [51,3,4,5,7,9,10] I
      refine aj I (fun h3=>?_) (fun h3=>?_)
      · obtain⟨rfl,rfl⟩:=Bool.and_eq_true_iff.1 h3
        obtain⟨l,rfl⟩:∃l,s=(⟨1,n⟩:cr)::l:=by
          have h4:=tt he2
          cases s with
          |nil=>exact absurd (tt he1) (by simp)
          |cons b l=>exact⟨l,by rw[←h4,←ha];rfl⟩
        simp only[nf,if_true]at hsk
        refine ak<|ay<|aF (.a 1 I<|.v (me I (bG.el.get I) I I) I<|.a 1 I<|.k [3,4,5,7,9,10] I) ?_
        exact⟨l.length,by simp,l,by simp at hs;omega,rfl,hsk,rfl⟩
      · have hsk:nf ⟨1,n⟩ p.stack=s:=by
          rw[hsk]
          cases s with
          |nil=>rfl
          |cons b l=>
            have e1t:e1=true:=by rw[←he1];simp
            rw[e1t,Bool.true_and]at h3
            rw[h3]at he2
            have h5:=ff he2
            simp only[nf]
            rw[if_neg (by rw[←ha]at h5;exact h5)]
        rw[hn,hsk]
        clear he1 ha he2 h3
        refine bp<|an<|A4 ?_
        refine ay<|eY [3,4,5,7,9] I<|br (fun r st=>∃(s':List cr) (z:PV),lr z (cN s')∧s'.length≤32∧r=s'.length∧ic T x p s (ic T x p [] (iK p 1))=ic T x p s' (ic T x p [] (iK p 1))∧st=⟨[(3,.bg (bI T) 0),(4,.bg (gA x) 0),(5,.bg (dU p) 0),(7,.ptr 0 0),(9,z)],[some (.cells 57 [num 0,num 0,num 0,num 0,.raw (.slice none 0 0),num 0]),some (.cells 112 [num 1,num n])]⟩) s.length ⟨s,_,lr.refl _,hs,rfl,rfl,rfl⟩ ?_
        clear hsk hs
        rintro r st ⟨s',z,hz,hs,rfl,hR,rfl⟩
        refine iJ (t':=[(3,.bg (bI T) 0),(4,.bg (gA x) 0),(5,.bg (dU p) 0),(7,.ptr 0 0),(9,cN s')]) ?_ ?_
        · exact Sub.cons rfl<|Sub.cons rfl<|Sub.cons rfl<|Sub.cons rfl<|Sub.IY rfl hz<|Sub.nil _
        clear hz
        rw[hR]
        clear hR
        obtain⟨K0,hK0⟩:∃K,ic T x p [] (iK p 1)=K:=⟨_,rfl⟩
        rw[hK0]
        obtain⟨R,hS⟩:∃R,ic T x p s' K0=R:=⟨_,rfl⟩
        rw[hS]
        have hRR:=hS
        unfold ic at hRR
        obtain⟨c5,hc5⟩:∃q,decide ((s'.length:Int)=0)=q:=⟨_,rfl⟩
        obtain⟨c6,hc6⟩:∃q,decide (p.dst=n)=q:=⟨_,rfl⟩
        obtain⟨c7,hc7⟩:∃q,decide (255≤p.gS)=q:=⟨_,rfl⟩
        obtain⟨c8,hc8⟩:∃q,decide (p.gS<0)=q:=⟨_,rfl⟩
        rw[hc5,hn,hc6,hc7,hc8]at hRR
        refine ay<|an<|bP 63 (.raw (.bool (c5&&c6))) [3,4,5,7,9] I ?_ ?_
        · refine .a 2 I<|.v (cD I (hc5)) I<|.a 1 I<|?_
          cases c5
          · exact .a 6 I<|.k [63,3,4,5,7,9] I
          · exact .a 1 I<|.v (aK I ((rfl:(dU p)[2]? =some (num p.dst)))) I<|.a 1 I<|.v (aK I ((show(gA x)[0]? =some (num n) by rw[←hn];rfl))) I<|.v (cD I (hc6)) I<|.a 1 I<|.k [63,3,4,5,7,9] I
        refine aj I (fun h1=>?_) (fun h1=>?_)
        · rw[if_pos h1]at hRR
          subst hRR
          refine aR<|ax 1 I<|bw (Bg I (ai.cons aD.pure<|ai.cons aD.cc ai.nil) (qX p [] (by simp))) I<|ax 3 I<|aH [6,7,8] I ?_
          exact az<|⟨_,_,aE.of I,aD.bY (ai.cons aD.cc<|ai.cons (aD.pure (p:=fc ⟨p.id,p.src,p.dst,p.rf,[],p.gS⟩))<|ai.cons aD.pure ai.nil),rfl⟩
        · rw [if_neg (by rw [h1]; simp)] at hRR
          refine ak<|an<|bP 73 (.raw (.bool (c7||c8))) [3,4,5,7,9] I ?_ ?_
          · refine .a 1 I<|.v (aK I ((rfl:(dU p)[5]? =some (num p.gS)))) I<|.v (cD I (hc7)) I<|.a 1 I<|?_
            cases c7
            · exact .a 1 I<|.v (aK I ((rfl:(dU p)[5]? =some (num p.gS)))) I<|.v (cD I (hc8)) I<|.a 1 I<|.k [73,3,4,5,7,9] I
            · exact .a 4 I<|.k [73,3,4,5,7,9] I
          refine aj I (fun h2=>?_) (fun h2=>?_)
          · rw[if_pos h2]at hRR
            subst hRR
            refine aR<|ax 1 I<|fC I (gI p 4 hps) I<|ax 6 I<|aH [6,7,8] I ?_
            exact az<|⟨_,_,aE.of I,aD.bY (ai.cons (aD.pure (p:=aw []))<|ai.cons (aD.pure (p:=fc p))<|ai.cons aD.pure ai.nil),rfl⟩
          · rw [if_neg (by rw [h2]; simp)] at hRR
            have hh:0≤p.gS∧p.gS≤1000:=by
              obtain⟨h3,h4⟩:=Bool.or_eq_false_iff.1 h2
              rw[←hc7]at h3
              rw[←hc8]at h4
              have:=ff h3
              have:=ff h4
              omega
            clear hc5 hc6 hc7 hc8 h1 h2
            refine ak ?_
            obtain⟨v,hv⟩:∃v,p.dst=v:=⟨_,rfl⟩
            refine af (.a 1 I<|.v (aK I ((show(dU p)[2]? =some (num v) by rw[←hv];rfl))) I<|.a 1 I<|.k [3,4,5,7,9,11] I)<|an<|af (.a 3 I<|.k [3,4,5,7,9,11,83] I)<|aj I (fun h3=>?_) (fun h3=>?_)
            · have hne:0<s'.length:=by have:=tt h3;omega
              obtain⟨a,l,hs'⟩:∃a l,s'=a::l:=by
                cases s' with
                |nil=>exact absurd hne (by simp)
                |cons a l=>exact⟨a,l,rfl⟩
              have h0:s'[0]? =some a:=by rw[hs'];rfl
              rw[hs']at hRR
              dsimp only at hRR
              rw[←hs']at hRR
              clear hv
              obtain⟨v,hv⟩:∃v,a.num=v:=⟨_,rfl⟩
              rw[hv]at hRR
              refine af (.a 1 I<|.v (aJ (0) I (by omega) (by omega)) I<|.a 1 I<|.v (aK I (((IJ s' 0 a h0).trans (by rw[hv])))) I<|.a 1 I<|.k [3,4,5,7,9,11] I)<|af (.a 1 I<|.v (aJ (0) I (by omega) (by omega)) I<|.a 1 I<|.v (aK I ((IP s' 0 a h0))) I<|.k [3,4,5,7,9,11,91] I)<|ay<|af (.a 2 I<|.k [3,4,5,7,9,11,91,97] I)<|aj I (fun h4=>?_) (fun h4=>?_)
              · rw[if_pos (tt h4)]at hRR
                obtain⟨K1,hK1,hK1n,hK1p⟩:∃K1,K1=K0∧(s'.length=0→K1=iK p 1)∧(0<s'.length→K1=K0):=⟨_,rfl,fun h=>absurd h (by omega),fun h=>rfl⟩
                rw[←hK1]at hRR
                clear hK1 h3 h4 hs' hv h0
                refine ak<|an ?_
                obtain⟨c11,hc11⟩:∃q,bH T v=q:=⟨_,rfl⟩
                have hnc:=dy T v
                rw[hc11]at hnc
                unfold Jt at hRR
                have hes:c11=true→x.eO[v.toNat]? =some (ei x v)∧(ei x v).push.length≤40∧(ei x v).av.length≤1000∧v<(x.eO.length:Int)∧0≤v:=fun h=>by
                  obtain⟨k,rfl,g1,g2,g3⟩:=oV hc1 (hc11.trans h)
                  have:=(List.getElem?_eq_some_iff.1 g1).1
                  exact⟨g1,g2,g3,by omega,by omega⟩
                obtain⟨e,he⟩:∃e,ei x v=e:=⟨_,rfl⟩
                obtain⟨KQ,hc12⟩:∃q,decide (0<(e.av.length:Int))=q:=⟨_,rfl⟩
                rw[he]at hes hRR
                rw[hc11,hc12]at hRR
                refine vp (Q1:=fun st=>st=⟨[(143,flag (c11&&KQ)),(3,.bg (bI T) 0),(4,.bg (gA x) 0),(5,.bg (dU p) 0),(7,.ptr 0 0),(9,cN s'),(11,num v)],[some (.cells 57 [num 0,num 0,num 0,num 0,.raw (.slice none 0 0),num 0]),some (.cells 112 [num 1,num n])]⟩) ?_ ?_
                · cases c11
                  · refine aF (.a 2 I<|.c rfl (hnc) I<|.a 10 I<|.k [143,3,4,5,7,9,11] I) ?_
                    rfl
                  · refine aF (.a 2 I<|.c rfl (hnc) I<|.a 2 I<|.v (aK I ((rfl:(gA x)[1]? =some (lg x.eO)))) I<|.a 1 I<|.v (aJ ((v.toNat*3)) I (hes rfl).2.2.2.2 (hes rfl).2.2.2.1) I<|.a 1 I<|.v (aK I ((qQ x.eO v.toNat 0 e (hes rfl).1 (by omega)))) I<|.a 1 I<|.v (cD I (hc12)) I<|.a 1 I<|.k [143,3,4,5,7,9,11] I) ?_
                    rfl
                rintro _ rfl
                refine aj I (fun h8=>?_) (fun h8=>?_)
                · rw[if_pos h8]at hRR
                  obtain⟨g1,g2,g3,g4,g5⟩:=hes (Bool.and_eq_true_iff.1 h8).1
                  subst hRR
                  refine lT 12 20 mixed (
                    .val [5] I (bn I) I I<|
                    .val [9] I (bn I) I I<|
                    .val [4] I (bn I) I I<|
                    .val [146] I (aK I ((rfl:(gA x)[1]? =some (lg x.eO)))) I I<|
                    .val [11] I (bn I) I I<|
                    .val [147,148] I (aJ ((v.toNat*3)) I g5 g4) I I<|
                    .val [149] I (ju I ((o5 x.eO v.toNat e g1)) I) I I<|
                    .val [144,145,150] I (eW I (s4 p s' e (by omega) g2 g3 hps hh)) I I<|
                    .val [151] I (bn I) I I<|
                    .val [151] I (bn I) I I<|
                    .val [151] I (bn I) I I<|
                    .val [152] I (bn I) I I<|
                    .nil) (by kernel_rfl) I I (bm (ks:=[6,7,153,154]) I) ?_
                  refine ax 2 I<|aH [6,7,8] I ?_
                  exact az<|⟨_,_,aE.of I,aD.bY (ai.cons (aD.pure (p:=aw (jo p s' e).av))<|ai.cons (aD.pure (p:=fc (jo p s' e).fe))<|ai.cons aD.pure ai.nil),rfl⟩
                · rw[if_neg (by rw[h8];simp)]at hRR
                  refine ak<|an<|af (.a 3 I<|.k [3,4,5,7,157] I)<|aj I (fun h9=>?_) (fun h9=>?_)
                  · rw[hK1n (by have:=tt h9;omega)]at hRR
                    subst hRR
                    refine aR<|ax 1 I<|fC I (gI p 1 hps) I<|ax 6 I<|aH [6,7,8] I ?_
                    exact az<|⟨_,_,aE.of I,aD.bY (ai.cons (aD.pure (p:=aw []))<|ai.cons (aD.pure (p:=fc p))<|ai.cons aD.pure ai.nil),rfl⟩
                  · have hne:0<s'.length:=by have:=ff h9;omega
                    rw[hK1p hne]at hRR
                    refine ak<|aF (.a 1 I<|.k [3,4,5,7,9] I) ?_
                    exact⟨0,hne,[],_,lr.cc,by simp,rfl,hRR.symm.trans (hK0.symm.trans rfl),rfl⟩
              · rw[if_neg (ff h4)]at hRR
                refine af (.a 2 I<|.k [3,4,5,7,9,11,99] I)<|aj I (fun h5=>?_) (fun h5=>?_)
                · rw[if_pos (tt h5)]at hRR
                  obtain⟨c9,hc9⟩:∃q,dS T v=q:=⟨_,rfl⟩
                  obtain⟨c10,hc10⟩:∃q,decide (aN T v.toNat≠n)=q:=⟨_,rfl⟩
                  have hac:=mN T (by have h:=hc1;unfold fA at h;simp only[Bool.and_eq_true]at h;have:=bX h.1.1.1.1;omega) v
                  rw[hc9]at hac
                  rw[hc9,hc10]at hRR
                  refine an<|nG mixed (by kernel_rfl) 112 (.raw (.bool ((!c9)||c10))) [3,4,5,7,9,11] I ?_ ?_
                  · refine .a 2 I<|.v [101,102] (eW I (hac)) I I<|.a 2 I<|?_
                    cases c9
                    · exact .a 7 I<|.k [112,3,4,5,7,9,11] I
                    · exact .a 2 I<|.v [106,107] (eW I (pz T v hc9)) I I<|.a 1 I<|.v [109] (aK I ((show(gA x)[0]? =some (num n) by rw[←hn];rfl))) I I<|.v [108,110] (cD I (hc10)) I I<|.a 1 I<|.k [112,3,4,5,7,9,11] I
                  refine aj I (fun h6=>?_) (fun h6=>?_)
                  · rw[if_pos h6]at hRR
                    subst hRR
                    refine aR<|ax 1 I<|fC I (gI p 2 hps) I<|ax 6 I<|aH [6,7,8] I ?_
                    exact az<|⟨_,_,aE.of I,aD.bY (ai.cons (aD.pure (p:=aw []))<|ai.cons (aD.pure (p:=fc p))<|ai.cons aD.pure ai.nil),rfl⟩
                  · rw[if_neg (by rw[h6];simp)]at hRR
                    refine ak<|an<|af (.a 1 I<|.v (aK I ((rfl:(gA x)[2]? =some (aw x.down)))) I<|.a 1 I<|.c rfl (sD x.down v (zS hc1)) I<|.k [3,4,5,7,9,11,121] I)<|aj I (fun h7=>?_) (fun h7=>?_)
                    · rw[if_pos (tt h7)]at hRR
                      exact af (.a 1 I<|.k [3,4,5,7,9] I)<|bp<|⟨0,hne,[],_,lr.cc,by simp,rfl,hRR.symm.trans (hK0.symm.trans rfl),rfl⟩
                    · rw[if_neg (ff h7)]at hRR
                      subst hRR
                      subst hs'
                      refine ak<|lT 10 20 mixed (
                        .val [5] I (bn I) I I<|
                        .val [9] I (bn I) I I<|
                        .val [123] I (me I (bG.el.get I) I I) I I<|
                        .val [11] I (bn I) I I<|
                        .val [125] I (bn I) I I<|
                        .val [122,124,126] I (eW I (ma p l [v] (by simp at hs;omega) (by simp) hh)) I I<|
                        .val [127] I (bn I) I I<|
                        .val [127] I (bn I) I I<|
                        .val [127] I (bn I) I I<|
                        .val [128] I (bn I) I I<|
                        .nil) (by kernel_rfl) I I (bm (ks:=[6,7,129,130]) I) ?_
                      refine ax 2 I<|aH [6,7,8] I ?_
                      exact az<|⟨_,_,aE.of I,aD.bY (ai.cons (aD.pure (p:=aw [v]))<|ai.cons (aD.pure (p:=fc (gV p l [v]).fe))<|ai.cons aD.pure ai.nil),rfl⟩
                · rw[if_neg (ff h5)]at hRR
                  subst hRR
                  refine aR<|ax 1 I<|fC I (gI p 1 hps) I<|ax 6 I<|aH [6,7,8] I ?_
                  exact az<|⟨_,_,aE.of I,aD.bY (ai.cons (aD.pure (p:=aw []))<|ai.cons (aD.pure (p:=fc p))<|ai.cons aD.pure ai.nil),rfl⟩
            · have hs':s'=[]:=by
                cases s' with
                |nil=>rfl
                |cons a l=>exact absurd (ff h3) (by simp)
              rw[hs']at hRR
              dsimp only at hRR
              rw[←hs',hv]at hRR
              obtain⟨K1,hK1,hK1n,hK1p⟩:∃K1,K1=iK p 1∧(s'.length=0→K1=iK p 1)∧(0<s'.length→K1=K0):=⟨_,rfl,fun _=>rfl,fun h=>absurd h (by rw[hs'];simp)⟩
              rw[←hK1]at hRR
              clear hK1 h3 hs' hv
              refine ak<|an ?_
              obtain⟨c11,hc11⟩:∃q,bH T v=q:=⟨_,rfl⟩
              have hnc:=dy T v
              rw[hc11]at hnc
              unfold Jt at hRR
              have hes:c11=true→x.eO[v.toNat]? =some (ei x v)∧(ei x v).push.length≤40∧(ei x v).av.length≤1000∧v<(x.eO.length:Int)∧0≤v:=fun h=>by
                obtain⟨k,rfl,g1,g2,g3⟩:=oV hc1 (hc11.trans h)
                have:=(List.getElem?_eq_some_iff.1 g1).1
                exact⟨g1,g2,g3,by omega,by omega⟩
              obtain⟨e,he⟩:∃e,ei x v=e:=⟨_,rfl⟩
              obtain⟨KQ,hc12⟩:∃q,decide (0<(e.av.length:Int))=q:=⟨_,rfl⟩
              rw[he]at hes hRR
              rw[hc11,hc12]at hRR
              refine vp (Q1:=fun st=>st=⟨[(143,flag (c11&&KQ)),(3,.bg (bI T) 0),(4,.bg (gA x) 0),(5,.bg (dU p) 0),(7,.ptr 0 0),(9,cN s'),(11,num v)],[some (.cells 57 [num 0,num 0,num 0,num 0,.raw (.slice none 0 0),num 0]),some (.cells 112 [num 1,num n])]⟩) ?_ ?_
              · cases c11
                · refine aF (.a 2 I<|.c rfl (hnc) I<|.a 10 I<|.k [143,3,4,5,7,9,11] I) ?_
                  rfl
                · refine aF (.a 2 I<|.c rfl (hnc) I<|.a 2 I<|.v (aK I ((rfl:(gA x)[1]? =some (lg x.eO)))) I<|.a 1 I<|.v (aJ ((v.toNat*3)) I (hes rfl).2.2.2.2 (hes rfl).2.2.2.1) I<|.a 1 I<|.v (aK I ((qQ x.eO v.toNat 0 e (hes rfl).1 (by omega)))) I<|.a 1 I<|.v (cD I (hc12)) I<|.a 1 I<|.k [143,3,4,5,7,9,11] I) ?_
                  rfl
              rintro _ rfl
              refine aj I (fun h8=>?_) (fun h8=>?_)
              · rw[if_pos h8]at hRR
                obtain⟨g1,g2,g3,g4,g5⟩:=hes (Bool.and_eq_true_iff.1 h8).1
                subst hRR
                refine lT 12 20 mixed (
                  .val [5] I (bn I) I I<|
                  .val [9] I (bn I) I I<|
                  .val [4] I (bn I) I I<|
                  .val [146] I (aK I ((rfl:(gA x)[1]? =some (lg x.eO)))) I I<|
                  .val [11] I (bn I) I I<|
                  .val [147,148] I (aJ ((v.toNat*3)) I g5 g4) I I<|
                  .val [149] I (ju I ((o5 x.eO v.toNat e g1)) I) I I<|
                  .val [144,145,150] I (eW I (s4 p s' e (by omega) g2 g3 hps hh)) I I<|
                  .val [151] I (bn I) I I<|
                  .val [151] I (bn I) I I<|
                  .val [151] I (bn I) I I<|
                  .val [152] I (bn I) I I<|
                  .nil) (by kernel_rfl) I I (bm (ks:=[6,7,153,154]) I) ?_
                refine ax 2 I<|aH [6,7,8] I ?_
                exact az<|⟨_,_,aE.of I,aD.bY (ai.cons (aD.pure (p:=aw (jo p s' e).av))<|ai.cons (aD.pure (p:=fc (jo p s' e).fe))<|ai.cons aD.pure ai.nil),rfl⟩
              · rw[if_neg (by rw[h8];simp)]at hRR
                refine ak<|an<|af (.a 3 I<|.k [3,4,5,7,157] I)<|aj I (fun h9=>?_) (fun h9=>?_)
                · rw[hK1n (by have:=tt h9;omega)]at hRR
                  subst hRR
                  refine aR<|ax 1 I<|fC I (gI p 1 hps) I<|ax 6 I<|aH [6,7,8] I ?_
                  exact az<|⟨_,_,aE.of I,aD.bY (ai.cons (aD.pure (p:=aw []))<|ai.cons (aD.pure (p:=fc p))<|ai.cons aD.pure ai.nil),rfl⟩
                · have hne:0<s'.length:=by have:=ff h9;omega
                  rw[hK1p hne]at hRR
                  refine ak<|aF (.a 1 I<|.k [3,4,5,7,9] I) ?_
                  exact⟨0,hne,[],_,lr.cc,by simp,rfl,hRR.symm.trans (hK0.symm.trans rfl),rfl⟩
end
section
open Go.RowKit cj Mem Net
section
variable {T:ah} {D:List Bool}
theorem Ch.snoc{d n:Nat}{q:List Int}(h:Ch T D d n q):∀ {a x:Nat},(q=[]∨cL T d=false)→a<2*T.ae.length→aN T a=(d:Int)→bF D a=false→aB T a=(x:Int)→Ch T D x n (q++[(a:Int)]):=by
 induction h with
 |nil=>intro a x _ h1 h2 h3 h4;exact .cons h1 h2 h3 h4 (.inl rfl) .nil
 | @cons n b m p hb ht hu hm ho hp ih=>
  intro a x hov h1 h2 h3 h4
  have hov':cL T d=false:=by rcases hov with h|h;cases h;exact h
  refine .cons hb ht hu hm ?_ (ih (.inr hov') h1 h2 h3 h4)
  rcases ho with h|h
  ·have:=hp.to h
   subst this
   exact .inr hov'
  ·exact .inr h
theorem Jw(hv:au T=true){n:Nat}(hn:(n:Int)<T.nodes){d m:Nat}{p:List Int}(h:Ch T D d m p)(h0:0≤at' (aO T D n true) (m:Int))(ho:p=[]∨m=n∨cL T m=false):0≤at' (aO T D n true) (d:Int):=by
 have hI:=fI (aM hv) D true hn
 induction h with
 |nil=>exact h0
 | @cons m a m' p ha ht hu hm hov hp ih=>
  have hw:=hI.closed a ha ⟨hu,by simp only[cz,if_true];rw[ht];exact h0,by
   simp only[cz,if_true];rw[ht]
   rcases ho with h|h|h
   ·cases h
   ·exact .inl (by rw[h])
   ·exact .inr (by simpa using h)⟩
  simp only[eK,if_true]at hw
  rw[hm]at hw
  refine ih hw.1 ?_
  rcases hov with h|h
  ·exact .inl h
  ·exact .inr (.inr h)
theorem I1(hv:au T=true){n:Nat}(hn:(n:Int)<T.nodes):∀(k x:Nat),(x:Int)<T.nodes→0≤at' (aO T D n true) (x:Int)→at' (aO T D n true) (x:Int)≤k→0≤dN T D x n:=by
 have hS:=aM hv
 have hI:=fI hS D true hn
 intro k
 induction k with
 |zero=>
  intro x hx h0 hk
  rcases hI.jh x hx h0 with h|⟨a,ha,hX,hW,hs⟩
  ·subst h;rw[kZ hv hn];exact Int.le_refl _
  ·have:=(hS.cost a ha).1
   have:=hW.2.1
   omega
 |succ k ih=>
  intro x hx h0 hk
  rcases hI.jh x hx h0 with h|⟨a,ha,hX,hW,hs⟩
  ·subst h;rw[kZ hv hn];exact Int.le_refl _
  ·simp only[eK,cz,if_true]at hX hs
   obtain⟨hu,hy0,hyo⟩:=hW
   simp only[cz,if_true]at hy0 hyo
   have hc:=(hS.cost a ha).1
   have ht:=hS.tail a ha
   obtain⟨y,hy⟩:=Int.eq_ofNat_of_zero_le ht.1
   rw[hy]at hy0 hyo hs ht
   have hyN:(y:Int)<T.nodes:=ht.2
   have h1:=ih y hyN hy0 (by omega)
   have hsp:=eL (D:=D) hv hyN hn h1
   have hc2:=hsp.ch.snoc (a:=a) (x:=x) (by
    rcases hyo with h|h
    ·have:y=n:=by omega
     subst this
     exact .inl hsp.self
    ·exact .inr (by simpa using h)) ha hy hu hX
   exact(hc2.le hv hx).1
theorem HE(hv:au T=true){n d:Nat}(hn:(n:Int)<T.nodes)(hd:(d:Int)<T.nodes):0≤(aO T D n true).getD d 0↔0≤dN T D d n:=by
 have hS:=aM hv
 have hI:=fI hS D true hn
 have hl:=hI.len
 have e:(aO T D n true).getD d 0=at' (aO T D n true) (d:Int):=by
  unfold at'
  rw[Int.toNat_natCast,List.getD_eq_getElem?_getD,List.getD_eq_getElem?_getD,List.getElem?_eq_getElem (by omega)]
  rfl
 rw[e]
 constructor
 ·intro h0
  exact I1 hv hn (at' (aO T D n true) (d:Int)).toNat d hd h0 (by have:=Int.toNat_of_nonneg h0;omega)
 ·intro h0
  have hsp:=eL (D:=D) hv hd hn h0
  refine Jw hv hn hsp.ch ?_ (.inr (.inl rfl))
  rw[hI.root]
  exact Int.le_refl _
end
open eX
def gh(T:ah)(a:Nat):Int:=(cw T.ae (a / 2)).wE
noncomputable def mU(T:ah)(D:List Bool)(n d:Int):Bool:=decide (jy T D n d=0)
noncomputable def jk(T:ah)(a:Nat)(d:Int):Int×Int:=
 if(decide (0<gh T a)&&mU T (cA T 3 (gh T a)) (aN T a) d)=true then(3,gh T a)
 else if(decide (aB T a≠d)&&mU T (cA T 2 (aB T a)) (aN T a) d)=true then(2,aB T a)
 else(1,((a / 2:Nat):Int))
def xg(T:ah)(M:List Bool)(n:Int):List Bool:=(List.range (2*T.ae.length)).map fun a=>bF M a&&decide (aN T a=n)
def orM(T:ah)(D E:List Bool):List Bool:=(List.range (2*T.ae.length)).map fun a=>bF D a||bF E a
theorem yh{T:ah}{f:Nat→Bool}:bR T ((List.range (2*T.ae.length)).map f)=true:=by simp[bR]
theorem tU(T:ah)(k x:Int):bR T (cA T k x)=true:=yh
theorem H2(T:ah)(D E:List Bool):bR T (orM T D E)=true:=yh
theorem GS{T:ah}{D:List Bool}{x y:Nat}(hv:au T=true)(hf:bR T D=true)(hx:(x:Int)<T.nodes)(hy:(y:Int)<T.nodes):mU T D x y=true↔0≤dN T D y x:=by
 unfold mU
 rw[decide_eq_true_eq,nX hv hf hx hy]
 split<;>omega
theorem tu{T:ah}(hv:au T=true){a:Nat}(ha:a<2*T.ae.length):0≤gh T a∧gh T a≤64:=by
 have h:=rD hv (a / 2) (by omega)
 unfold gh
 unfold fU at h
 rw[Bool.and_eq_true]at h
 unfold bU at h
 exact of_decide_eq_true h.2
theorem ET{T:ah}(hv:au T=true){a:Nat}(ha:a<2*T.ae.length)(d:Int):ek T (jk T a d).1 (jk T a d).2=true:=by
 have hg:=tu hv ha
 unfold jk
 split
 ·rename_i h
  rw[Bool.and_eq_true,decide_eq_true_eq]at h
  show ek T 3 (gh T a)=true
  unfold ek
  simp only[if_neg (show ¬(3:Int)=1 by decide),if_neg (show ¬(3:Int)=2 by decide),if_true,Bool.and_eq_true,decide_eq_true_eq]
  exact⟨by omega,by omega⟩
 ·split
  ·obtain⟨h0,h1⟩:=(aM hv).head a ha
   show ek T 2 (aB T a)=true
   unfold ek
   simp only[if_neg (show ¬(2:Int)=1 by decide),if_true]
   exact bu.2 ⟨h0,h1⟩
  ·show ek T 1 ((a / 2:Nat):Int)=true
   unfold ek
   simp only[if_true,Bool.and_eq_true,decide_eq_true_eq]
   exact⟨by omega,by omega⟩
def qh(own:List Bool)(l:List Int):Option Int:=l.find? fun a=>bF own a.toNat
noncomputable def zY(T:ah)(own:List Bool)(n d:Int)(a:Nat):List Bool:=
 if mU T (orM T (cA T (jk T a d).1 (jk T a d).2) own) n d=true then orM T (cA T (jk T a d).1 (jk T a d).2) own else own
noncomputable def Bq(T:ah)(own:List Bool)(n d:Nat):kD:=match qh own (bz T [] n d)with
 |none=>⟨bz T [] n d,false,[]⟩
 |some a=>sE T (zY T own n d a.toNat) n d
noncomputable def ve(T:ah)(own:List Bool)(n k:Nat):List kD:=(List.range k).map fun d=>Bq T own n d
theorem B4(T:ah)(own:List Bool)(n k:Nat):ve T own n (k+1)=ve T own n k++[Bq T own n k]:=by simp[ve,List.range_succ]
theorem FA(T:ah)(own:List Bool)(n k:Nat):(ve T own n k).length=k:=by simp[ve]
noncomputable def Bi(T:ah)(M:List Bool)(n:Nat):eN:=⟨n,ve T (xg T M n) n T.nodes.toNat,fX M (bW T n)⟩
section
variable {T:ah} {M own:List Bool} {n d:Nat}
theorem C8(hf:bR T own=true)(a:Nat):bR T (zY T own n d a)=true:=by
 unfold zY;split
 ·exact H2 _ _ _
 ·exact hf
end
end
section
open Go.RowKit cj Mem Net
section
variable {T:ah} {D:List Bool}
theorem iD.tail{n y m:Nat}{a:Int}{p:List Int}(h:iD T D n y (a::p))(hm:aB T a.toNat=(m:Int)):(p=[]∧m=y)∨iD T D m y p:=by
 have hsp:=h.sp
 cases hsp with
 | @cons n a m' p hnr hh hp=>
  rw[Int.toNat_natCast,hh]at hm
  have e:m'=m:=by omega
  subst e
  cases p with
  |nil=>cases hp;exact .inl ⟨rfl,rfl⟩
  |cons b p=>
   refine .inr ?_
   have hpt:=h.part (i:=1) (k:=p.length+1) (by omega) (by simp)
   have hb:∃b':Nat,b=(b':Int)∧aN T b'=(m':Int):=by
    cases hp with
    |cons hn2 _ _=>exact⟨_,rfl,hn2.tail⟩
   obtain⟨b',rfl,hbt⟩:=hb
   have hfin:=h.sp.ch.fin
   have hlast:aB T (((a:Int)::(b':Int)::p).getD (p.length+1) 0).toNat=(y:Int):=by
    rw[←hfin]
    have:=gU T (n:Int) ((a:Int)::(b':Int)::p) (p.length+1) (by simp)
    rw[←this,List.take_of_length_le (by simp)]
   rw[hlast]at hpt
   have e1:aN T (((a:Int)::(b':Int)::p).getD 1 0).toNat=(m':Int):=hbt
   rw[e1]at hpt
   obtain⟨u,v,e3,e4,hs,_⟩:=HF hpt
   have e5:m'=u:=by omega
   have e6:y=v:=by omega
   subst e5;subst e6
   have:=hs.sp.unique hs.valid hs.hy hp hs.fL
   rw[this]at hs
   exact hs
theorem iD.JY{E:List Bool}{n y:Nat}{p:List Int}(h:iD T D n y p)(hf:bR T E=true)(hE:∀a,bF D a=false→bF E a=false):iD T E n y p:=
 ⟨h.valid,hf,h.ne,h.hx,h.hy,h.uniq,h.sp,fun a ha=>hE _ (h.up a ha)⟩
inductive Io (T:ah) (D:List Bool) (d:Nat):Nat→List cr→List Int→Prop
 |nil:Io T D d d [] []
 |node {n y:Nat} {p q:List Int} {l:List cr}:iD T D n y p→Io T D d y l q→Io T D d n (⟨1,(y:Int)⟩::l) (p++q)
 |iu {n a m:Nat} {q:List Int} {l:List cr}:a<2*T.ae.length→aN T a=(n:Int)→bF D a=false→aB T a=(m:Int)→Io T D d m l q→Io T D d n (⟨2,(a:Int)⟩::l) ((a:Int)::q)
theorem Io.len{d n:Nat}{l:List cr}{q:List Int}(h:Io T D d n l q):l.length≤q.length:=by
 induction h with
 |nil=>exact Nat.le_refl _
 |node hs _ ih=>have:=hs.pos;simp only[List.length_cons,List.length_append];omega
 |iu _ _ _ _ _ ih=>simp only[List.length_cons];omega
structure KB (T:ah) (D:List Bool) (n:Nat) (x:eN):Prop where
 ok:fA T x=true
 node:x.node=(n:Int)
 down:∀a:Nat,(a:Int)∈x.down→bF D a=true
 K8:∀(y:Nat) p,iD T D n y p→(ei x (y:Int)).av=[p.getD 0 0]∧((ei x (y:Int)).rep=true→(ei x (y:Int)).push=[⟨1,(y:Int)⟩])
theorem xU{n d:Nat}{x:eN}(hx:KB T D n x)(hd:(d:Int)<T.nodes){p:gg}(hp:p.dst=(d:Int))(hn:n=d)(hl:nf ⟨1,(n:Int)⟩ p.stack=[])(h32:p.stack.length≤32):(gG T x p).av=[]∧(gG T x p).jZ= -1:=by
 have hdb:bH T p.dst=true:=bu.2 ⟨by omega,by omega⟩
 unfold gG
 rw[hx.ok,hdb,hx.node,hl,if_neg (by simp),if_neg (by omega)]
 unfold ic
 rw[if_pos (by rw[hp,hx.node,hn];simp)]
 exact⟨rfl,rfl⟩
theorem Cy{n d:Nat}{x:eN}(hok:fA T x=true)(hxn:x.node=(n:Int))(hd:(d:Int)<T.nodes)(hne:n≠d){p:gg}(hp:p.dst=(d:Int))(hh:p.gS=0)(hl:nf ⟨1,(n:Int)⟩ p.stack=[])(h32:p.stack.length≤32)(ha:0<(ei x (d:Int)).av.length)(hpl:(ei x (d:Int)).push.length≤32):
  gG T x p=gV p (if(ei x (d:Int)).rep then(ei x (d:Int)).push else []) (ei x (d:Int)).av:=by
 have hdb:bH T p.dst=true:=bu.2 ⟨by omega,by omega⟩
 unfold gG
 rw[hok,hdb,hxn,hl,if_neg (by simp),if_neg (by omega)]
 unfold ic
 have hdn:decide ((d:Int)=x.node)=false:=decide_eq_false (by rw[hxn];omega)
 rw[hp,hdn,if_neg (by simp),if_neg (by rw[hh];simp)]
 dsimp only
 unfold Jt
 rw[←hp,hdb,hp,if_pos (by simp;omega)]
 unfold jo
 simp only[List.drop_nil,List.append_nil]
 by_cases hr:(ei x (d:Int)).rep=true
 ·rw[if_pos hr,if_pos hr,if_neg (by omega)]
 ·rw[if_neg hr,if_neg hr]
end
end
end PW
end Go.Proofs.YteikppbedmmdnaaGreatDoor
namespace Go.Proofs.YteikppbedmmdnaaGreatDoor
namespace eX
section
open Go.RowKit Go.Shelf Net
attribute [local go_sem] Oper.semAt_some
end
end eX
end Go.Proofs.YteikppbedmmdnaaGreatDoor
namespace Go.Proofs.YteikppbedmmdnaaGreatDoor
namespace PW
section
open Go.RowKit cj Mem
inductive Up (k:Nat):PV→PV→Prop
 |pure {p:PV} [IsPure p]:Up k p p
 |own {i j:Nat}:j=k+i→Up k (.own i) (.own j)
 |ptr {i j o:Nat}:j=k+i→Up k (.ptr i o) (.ptr j o)
 |agg {xs ys:List PV} (hl:ys.length=xs.length) (hs:∀(j:Nat) x y,xs[j]? =some x→ys[j]? =some y→Up k x y):Up k (.agg xs) (.agg ys)
 |tuple {xs ys:List PV} (hl:ys.length=xs.length) (hs:∀(j:Nat) x y,xs[j]? =some x→ys[j]? =some y→Up k x y):Up k (.tuple xs) (.tuple ys)
 |func {f:FuncId} {xs ys:List PV} (hl:ys.length=xs.length) (hs:∀(j:Nat) x y,xs[j]? =some x→ys[j]? =some y→Up k x y):Up k (.func f xs) (.func f ys)
def jQ(k:Nat)(xs ys:List PV):Prop:=ys.length=xs.length∧∀(j:Nat) x y,xs[j]? =some x→ys[j]? =some y→Up k x y
theorem jQ.nil{k:Nat}:jQ k [] []:=⟨rfl,fun j x y h=>by simp at h⟩
theorem jQ.cons{k:Nat}{x y:PV}{xs ys:List PV}(h:Up k x y)(hs:jQ k xs ys):jQ k (x::xs) (y::ys):=⟨by simp[hs.1],fun j a b h1 h2=>by
 cases j with
 |zero=>simp at h1 h2;subst h1;subst h2;exact h
 |succ j=>exact hs.2 j a b (by simpa using h1) (by simpa using h2)⟩
theorem jQ.pure{k:Nat}{xs:List PV}[h:aI xs]:jQ k xs xs:=⟨rfl,fun j x y h1 h2=>by
 rw[h1]at h2;cases h2
 haveI:=h.out j x h1
 exact Up.pure⟩
theorem Up.gM{k:Nat}{xs ys:List PV}(h:jQ k xs ys):Up k (.agg xs) (.agg ys):=.agg h.1 h.2
theorem Up.bY{k:Nat}{xs ys:List PV}(h:jQ k xs ys):Up k (.tuple xs) (.tuple ys):=.tuple h.1 h.2
inductive IM (k:Nat):cK→cK→Prop
 |cells {ty:TypeId} {xs ys:List PV}:jQ k xs ys→IM k (.cells ty xs) (.cells ty ys)
 |row {e s n:Nat} {xs ys:List PV}:jQ k xs ys→IM k (.row e s n xs) (.row e s n ys)
 |mp {kv:List (Value×PV)} [aI (kv.map (·.2))]:IM k (.mp kv) (.mp kv)
def iI(k:Nat)(xs ys:List cK):Prop:=ys.length=xs.length∧∀(j:Nat) x y,xs[j]? =some x→ys[j]? =some y→IM k x y
theorem iI.nil{k:Nat}:iI k [] []:=⟨rfl,fun j x y h=>by simp at h⟩
theorem iI.cons{k:Nat}{x y:cK}{xs ys:List cK}(h:IM k x y)(hs:iI k xs ys):iI k (x::xs) (y::ys):=⟨by simp[hs.1],fun j a b h1 h2=>by
 cases j with
 |zero=>simp at h1 h2;subst h1;subst h2;exact h
 |succ j=>exact hs.2 j a b (by simpa using h1) (by simpa using h2)⟩
section
variable {E E1 E2:Env} {w:World} {k:Nat}
theorem Up.rep(hat:∀i,i<E1.L→E2.at_ (k+i)=E1.at_ i∧k+i<E2.L)(hM:∀b,E2.M b→E1.M b){p q:PV}(h:Up k p q):∀v,cu E1 w v p→cu E2 w v q:=by
 induction h with
 | @pure p hp=>
  intro v h
  have:=hp.out E1 E2.M w v hM h
  exact this.goes (E:=EF E2.M) (E':=E2) (w:=w) (w':=w) ⟨Nat.zero_le _,fun i hi=>absurd hi (Nat.not_lt_zero i),fun _ _ h=>h,Nat.le_refl _,fun _ _ _=>rfl⟩
 | @own i j hij=>
  intro v h
  subst hij
  cases h with
  |own _ hi _ h hs=>exact .own _ (hat i hi).2 v ((hat i hi).1.trans h) hs
 | @ptr i j o hij=>
  intro v h
  subst hij
  cases h with
  |ptr _ _ b hi h=>exact .ptr _ o b (hat i hi).2 (by rw[(hat i hi).1];exact h)
 | @agg xs ys hl _ ih=>
  intro v h
  cases h with
  |agg cs _ hl' hr=>exact .agg cs ys (hl'.trans hl.symm) (fun j c u h1 h2=>by
    have hj:j<xs.length:=by rw[←hl];exact(List.getElem?_eq_some_iff.1 h2).1
    exact ih j xs[j] u (by simp[hj]) h2 c (hr j c _ h1 (by simp[hj])))
 | @tuple xs ys hl _ ih=>
  intro v h
  cases h with
  |tuple cs _ hl' hr=>exact .tuple cs ys (hl'.trans hl.symm) (fun j c u h1 h2=>by
    have hj:j<xs.length:=by rw[←hl];exact(List.getElem?_eq_some_iff.1 h2).1
    exact ih j xs[j] u (by simp[hj]) h2 c (hr j c _ h1 (by simp[hj])))
 | @func f xs ys hl _ ih=>
  intro v h
  cases h with
  |func _ cs _ hl' hr=>exact .func f cs ys (hl'.trans hl.symm) (fun j c u h1 h2=>by
    have hj:j<xs.length:=by rw[←hl];exact(List.getElem?_eq_some_iff.1 h2).1
    exact ih j xs[j] u (by simp[hj]) h2 c (hr j c _ h1 (by simp[hj])))
theorem jQ.rep(hat:∀i,i<E1.L→E2.at_ (k+i)=E1.at_ i∧k+i<E2.L)(hM:∀b,E2.M b→E1.M b){xs ys:List PV}(h:jQ k xs ys){cs:List Value}(hs:aV E1 w cs xs):aV E2 w cs ys:=⟨hs.1.trans h.1.symm,fun j c u h1 h2=>by
 have hj:j<xs.length:=by rw[←h.1];exact(List.getElem?_eq_some_iff.1 h2).1
 exact(h.2 j xs[j] u (by simp[hj]) h2).rep hat hM c (hs.2 j c _ h1 (by simp[hj]))⟩
theorem IM.sat{base base':Nat}(hb:base'≤base)(hat:∀i,i<E1.L→E2.at_ (k+i)=E1.at_ i∧k+i<E2.L)(hM:∀b,E2.M b→E1.M b){v:Value}{x y:cK}(h:IM k x y)(hs:fF base E1 w v x):fF base' E2 w v y:=by
 cases h with
 |cells h1=>
  obtain⟨b,cs,h2,h3,h4,h5⟩:=hs
  exact⟨b,cs,h2,by omega,h4,h1.rep hat hM h5⟩
 |row h1=>
  obtain⟨cs,h2,h3⟩:=hs
  refine⟨cs,⟨h2.1,?_⟩,h1.rep hat hM h3⟩
  rcases h2.2 with h|⟨g,cap,cur,a1,a2,a3⟩
  ·exact .inl h
  ·exact .inr ⟨g,cap,cur,a1,by omega,a3⟩
 | @mp kv hp=>
  obtain⟨r,es,ck,h2,h3,h4,h5,h6⟩:=hs
  exact⟨r,es,ck,h2,by omega,h4,h5,jQ.pure (k:=k).rep hat hM h6⟩
end
theorem aW.frame{P:Program}{f:FuncId}{ps:List PV}{σ:bN}{R:PV→bN→Prop}[aI ps]
  (h:aW P f ps [] (fun r σ1=>∃bs,σ1=bs.map some∧∃r' bs',Up σ.length r r'∧iI σ.length bs bs'∧R r' (σ++bs'.map some))):aW P f ps σ R:=fun F base E w vs hS hR=>by
 refine(h E.M w.heap.size (EF E.M) w vs (Sat.start E.M w (fun b hb=>hS.lt hb) hS.gl) (hR.pure (fun _ h=>h))).mono ?_
 rintro e w' ⟨v,r,σ1,E1,rfl,⟨bs,rfl,r',bs',hu,hbu,hRr⟩,hS1,hg1,hB1,hv⟩
 have hE:Ext w w':=hB1
 have hL1:E1.L=bs.length:=by rw[hS1.len];simp
 have hlen:((List.range bs.length).map E1.at_).length=bs'.length:=by rw[List.length_map,List.length_range,hbu.1]
 have hget:∀(i:Nat) v,((List.range bs.length).map E1.at_)[i]? =some v→i<bs.length∧v=E1.at_ i:=fun i v hi=>by
  have hi':i<bs.length:=by have:=(List.getElem?_eq_some_iff.1 hi).1;simpa using this
  rw[List.getElem?_map,List.getElem?_range hi']at hi
  cases hi
  exact⟨hi',rfl⟩
 have hbk:∀i,i<bs.length→∃x,bs[i]? =some x∧(bs.map some)[i]? =some (some x):=fun i hi=>⟨bs[i],by simp[hi],by simp[hi]⟩
 have hat:∀i,i<E1.L→(E.ej ((List.range bs.length).map E1.at_)).at_ (σ.length+i)=E1.at_ i∧σ.length+i<(E.ej ((List.range bs.length).map E1.at_)).L:=fun i hi=>by
  rw[hL1]at hi
  refine⟨?_,?_⟩
  ·simp only[Env.ej,hS.len]
   rw[if_neg (by omega),Nat.add_sub_cancel_left,List.getD_eq_getElem?_getD,List.getElem?_map,List.getElem?_range hi]
   rfl
  ·simp only[Env.ej,hS.len,List.length_map,List.length_range];omega
 have hM:∀b,(E.ej ((List.range bs.length).map E1.at_)).M b→E1.M b:=fun b hb=>by
  rcases hb with hb|⟨v,hv1,hv2⟩
  ·exact(hS1.mm b).2 (.inl hb)
  ·obtain⟨i,hi⟩:=List.getElem?_of_mem hv1
   obtain⟨hi1,rfl⟩:=hget i v hi
   obtain⟨x,_,hx⟩:=hbk i hi1
   exact(hS1.mm b).2 (.inr ⟨i,x,hx,hv2⟩)
 have hp:=hS.ej hE ((List.range bs.length).map E1.at_) bs' hlen
  (fun v hv1 b hb=>by
   obtain⟨i,hi⟩:=List.getElem?_of_mem hv1
   obtain⟨hi1,rfl⟩:=hget i v hi
   obtain⟨x,_,hx⟩:=hbk i hi1
   exact((hS1.blk i x hx).lt hb).1)
  (fun i j u v b hi hj hu hv=>by
   obtain⟨hi1,rfl⟩:=hget i u hi
   obtain⟨hj1,rfl⟩:=hget j v hj
   obtain⟨x,_,hx⟩:=hbk i hi1
   obtain⟨y,_,hy⟩:=hbk j hj1
   exact hS1.inj i j x y b hx hy hu hv)
  (fun i v blk hi hb=>by
   obtain⟨hi1,rfl⟩:=hget i v hi
   obtain⟨x,hx0,hx⟩:=hbk i hi1
   exact(hbu.2 i x blk hx0 hb).sat hS.bl hat hM (hS1.blk i x hx))
 exact⟨v,r',_,_,rfl,hRr,hp.1,hp.2,Below.fB hE hS.bl,hu.rep hat hM v hv⟩
open Net
theorem qY(T:ah)(D:List Bool)(n:Int):Can Tryz.prog 19 [aZ T,bq D,num n] (· = .tuple [qk (jz T D n),num (cX T D [n])]):=by
 refine aT Tryz.func19 I Tryz.ntmps19 I<|aR<|ax 3 I<|aH [1,2,3,6] I ?_
 refine an ?_
 obtain⟨q1,hq1⟩:∃q,au T=q:=⟨_,rfl⟩
 obtain⟨q2,hq2⟩:∃q,bR T D=q:=⟨_,rfl⟩
 refine bP 22 (.raw (.bool ((!q1)||(!q2)))) [1,2,3,6] I ?_ ?_
 ·refine .a 1 I<|.c rfl (hq1▸eo T) I<|.a 2 I<|?_
  cases q1
  ·exact .a 5 I<|.k [22,1,2,3,6] I
  ·exact .a 2 I<|.c rfl (hq2▸lD T D (by have:=bX hq1;omega)) I<|.a 2 I<|.k [22,1,2,3,6] I
 refine aj I (fun hc=>?_) (fun hc=>?_)
 ·have hch:cX T D [n]=1:=by
   unfold cX
   rw[hq1,hq2,if_neg]
   revert hc
   cases q1<;>cases q2<;>simp
  refine aR<|ax 3 I<|aH [6,7] I ?_
  exact az<|⟨_,_,aE.of I,aD.bY (ai.cons (aD.gM (ai.cons aD.pure<|ai.cons aD.cc<|ai.cons aD.cc ai.nil)) (ai.cons aD.pure ai.nil)),by unfold jz;rw[hch];rfl⟩
 ·have hok:(au T&&bR T D)=true:=by
   rw[hq1,hq2]
   revert hc
   cases q1<;>cases q2<;>simp
  clear hc hq1 hq2
  refine ak<|an<|af (.a 2 I<|.c rfl (dy T n) I<|.a 1 I<|.k [1,2,3,6,27] I)<|aj I (fun hc=>?_) (fun hc=>?_)
  ·have hn:bH T n=false:=by revert hc;cases bH T n<;>simp
   have hch:cX T D [n]=2:=by
    unfold cX
    rw[if_pos hok,if_neg]
    simp[hn]
   refine aR<|ax 3 I<|aH [6,7] I ?_
   exact az<|⟨_,_,aE.of I,aD.bY (ai.cons (aD.gM (ai.cons aD.pure<|ai.cons aD.cc<|ai.cons aD.cc ai.nil)) (ai.cons aD.pure ai.nil)),by unfold jz;rw[hch];rfl⟩
  ·have hn:bH T n=true:=by revert hc;cases bH T n<;>simp
   have hch:cX T D [n]=0:=by
    unfold cX
    rw[if_pos hok,if_pos]
    simp[hn]
   obtain⟨hv,hf⟩:=Bool.and_eq_true_iff.1 hok
   rw[bu]at hn
   obtain⟨m,rfl⟩:=Int.eq_ofNat_of_zero_le hn.1
   obtain⟨N,hN⟩:∃N:Nat,T.nodes=(N:Int):=⟨T.nodes.toNat,by omega⟩
   have hN64:N≤64:=by have:=(aM hv).nodes;omega
   have hll:=bX hv
   refine ak<|aR<|ax 4 I<|aH [1,2,3,6,8] I ?_
   refine cB 1 1 49 3 I I ?_
   refine cB 1 2 3 1 I I ?_
   refine an<|af (.a 1 I<|.v (aK I ((show some (num T.nodes)=some (num (N:Int)) by rw[hN]))) I<|.a 1 I<|.k [1,2,3,6,8,32,33] I)<|ay<|eY [1,2,3,6,8,32,33] I<|br (fun r s=>∃j,j≤N∧r=N - j∧s=⟨[(1,bq D),(2,num m),(3,.bg (bI T) 0),(6,.ptr 0 0),(8,.ptr 1 0),(32,num N),(33,num j)],[some (.cells 52 [num 0,.raw (.slice none 0 0),.raw (.slice none 0 0)]),some (.cells 52 [num m,.own 2,.own 3]),some (.row 49 3 j (ll (vR T D m j))),some (.row 3 1 0 [])]⟩) N ⟨0,by omega,by omega,rfl⟩ ?_
   rintro r s ⟨j,hj,rfl,rfl⟩
   refine af (.a 1 I<|.k [1,2,3,6,8,32,33,34] I)<|an<|aj I (fun hc=>?_) (fun hc=>?_)
   ·have hlt:j<N:=by have:=of_decide_eq_true hc;omega
    have hne:cF T D (m:Int) (j:Int)=0:=by
     have hnb:bH T (j:Int)=true:=bu.2 ⟨by omega,by omega⟩
     have hch':cX T D [(j:Int)]=0:=by
      unfold cX
      rw[if_pos hok,if_pos]
      simp[hnb]
     unfold cF
     rw[if_pos hch',if_pos (bu.2 hn)]
    have hnx:Can Tryz.prog 48 [aZ T,bq D,num m,num j] (· = .tuple [aw (bz T D m j),num 0]):=by
     have h:=wb T D (m:Int) (j:Int)
     rw[hne]at h
     exact h
    refine ak<|an<|ay<|af (.a 2 I<|.k [1,2,3,6,8,9,32,33] I)<|af (.a 4 I<|.c rfl (hnx) I<|.a 5 I<|.k [1,2,3,6,8,10,32,33] I)<|bx<|ax 3 I<|bw (Kk (iR (xs:=[_,_,_]) I (bG.st.get I) I I) (lr.gM (.cons (lr.refl _)<|.cons (lr.refl _)<|.cons lr.cc .nil))) I<|ax 1 I<|cg (bC I (bG.rk.get I) I I I I (by unfold maxLen;omega)) I<|ax 2 I ?_
    refine eQ [0,1,4,3] (.c 1<|.c 2<|.c 3<|.c 6<|.c 8<|.c 32<|.c 33<|.nil) (.kept rfl (.cells (ao.c<|ao.c<|ao.c<|ao.nil))<|.kept rfl (.cells (ao.c<|ao.c<|ao.c<|ao.nil))<|.kept rfl (.fk rfl (show _=ll (vR T D m (j+1)) by rw[Da];exact qG _ ⟨bz T D m j,false,[]⟩))<|.kept rfl (.row ao.pure)<|.nil) I I (bf ?_)
    refine aF (.v (aU I) I<|.a 1 I<|.k [1,2,3,6,8,32,33] I) ?_
    exact⟨N - (j+1),by omega,j+1,by omega,rfl,rfl⟩
   ·have hje:j=N:=by have:=of_decide_eq_false hc;omega
    subst hje
    refine bp<|an ?_
    have hol:(bW T m).length≤512:=Nat.le_trans (eM T m _) (by omega)
    refine af (.a 2 I<|.c rfl (qw T hll _) I<|.a 2 I<|.k [1,6,8,54,55,56] I)<|ay<|eY [1,6,8,54,55,56] I<|br (fun r s=>∃i,i≤(bW T m).length∧r=(bW T m).length - i∧s=⟨[(1,bq D),(6,.ptr 0 0),(8,.ptr 1 0),(54,aw (bW T m)),(55,num (bW T m).length),(56,num i)],[some (.cells 52 [num 0,.raw (.slice none 0 0),.raw (.slice none 0 0)]),some (.cells 52 [num m,.own 2,.own 3]),some (.row 49 3 j (ll (vR T D m j))),some (.row 3 1 (fX D ((bW T m).take i)).length (aL (fX D ((bW T m).take i))))]⟩) (bW T m).length ⟨0,by omega,by omega,rfl⟩ ?_
    rintro r s ⟨i,hi,rfl,rfl⟩
    refine af (.a 1 I<|.k [1,6,8,54,55,56,57] I)<|an<|aj I (fun hc=>?_) (fun hc=>?_)
    ·have hlt:i<(bW T m).length:=by have:=of_decide_eq_true hc;omega
     obtain⟨h0,h1⟩:=ko (cf (d:=0) hlt)
     obtain⟨a,ha⟩:=Int.eq_ofNat_of_zero_le h0
     have hDl:D.length=0∨a<D.length:=by simp only[bR,decide_eq_true_eq]at hf;omega
     have hstep:fX D ((bW T m).take (i+1))=fX D ((bW T m).take i)++(if bF D a then [(a:Int)] else []):=by
      unfold fX
      rw[dr _ i 0 hlt,List.filter_append,ha]
      simp only[List.filter_cons,List.filter_nil,Int.toNat_natCast]
     have hdl:(fX D ((bW T m).take i)).length≤1000:=Nat.le_trans (List.length_filter_le _ _) (by rw[List.length_take];have:=eM T m (2*T.ae.length);unfold bW at*;omega)
     refine ak<|an<|ay<|af (.v (aJ (i) I) I<|.v (aK I ((aC _ i hlt).trans (by rw[ha]))) I<|.a 1 I<|.k [1,6,8,13,54,55,56] I)<|af (.a 2 I<|.c rfl (jl D a hDl) I<|.k [1,6,8,13,54,55,56,62] I)<|aj I (fun hcd=>?_) (fun hcd=>?_)
     ·rw[hcd,if_pos rfl]at hstep
      refine bx<|ax 4 I<|cg (bC I (bG.rk.get I) I I I I (by unfold maxLen;omega)) I<|ax 2 I ?_
      refine eQ [0,1,2,4] (.c 1<|.c 6<|.c 8<|.c 54<|.c 55<|.c 56<|.nil) (.kept rfl (.cells (ao.c<|ao.c<|ao.c<|ao.nil))<|.kept rfl (.cells (ao.c<|ao.c<|ao.c<|ao.nil))<|.kept rfl (.row ao.pure)<|.kept rfl (.fk rfl (dJ _ _))<|.nil) I I (bf ?_)
      refine aF (.v (aU I) I<|.a 1 I<|.k [1,6,8,54,55,56] I) ?_
      refine⟨(bW T m).length - (i+1),by omega,i+1,by omega,rfl,?_⟩
      rw[hstep]
      first
       |rfl
       |(simp only[List.length_append,List.length_singleton];rfl)
     ·rw[hcd,if_neg (by simp),List.append_nil]at hstep
      refine ak<|aF (.v (aU I) I<|.a 1 I<|.k [1,6,8,54,55,56] I) ?_
      refine⟨(bW T m).length - (i+1),by omega,i+1,by omega,rfl,?_⟩
      rw[hstep]
      first
       |rfl
       |(simp only[List.length_append,List.length_singleton];rfl)
    ·have hie:i=(bW T m).length:=by have:=of_decide_eq_false hc;omega
     subst hie
     refine bp<|aR<|bw (gw (ys:=[num m,.own 2,.own 3]) I (bG.tk.get I) I I I I) I<|ax 2 I<|aH [6,7] I ?_
     refine az<|⟨_,_,aE.of I,aD.bY (ai.cons (aD.gM (ai.cons aD.pure<|ai.cons (aD.dA rfl ai.pure)<|ai.cons (aD.dA rfl ai.pure) ai.nil)) (ai.cons aD.pure ai.nil)),?_⟩
     unfold jz
     rw[hch,if_pos rfl,List.take_length]
     unfold dW qk gA lg aw
     rw[vt,show T.nodes.toNat=j by omega]
     rfl
open eX
def KC(e:Int)(x:eN):PV:=.tuple [qk (if e=0 then x else⟨0,[],[]⟩),num e]
theorem tN{T:ah}{D:List Bool}{n d:Int}(hv:au T=true)(hf:bR T D=true)(hn:bH T n=true)(hd:bH T d=true):cF T D n d=0:=by
 unfold cF cX
 rw[hv,hf,hn]
 simp[hd]
theorem mE{M:List Bool}{a:Nat}:M.getD a false=bF M a:=by
 unfold bF
 by_cases h:M.length=0
 ·have:M=[]:=List.eq_nil_of_length_eq_zero h
  subst this;simp
 ·first
   |rfl
   |simp[h]
end
section
open Go.RowKit cj Mem
structure GD where
 p:PV
 r:Option Nat
 lo:Nat
 hi:Nat
section
variable {P:Program} {N L:Nat}
inductive GK (P:Program) (N:Nat) (ops:Array Oper) (σs:List bN) (T:b9) (o:Oper):GD→Prop
 |val {p:PV} {d lo hi:Nat} (ks:List Nat) (hks:(ks.all fun k=>(o.looksAt ops).contains k)=true) (hw:dP ops T o=some true) (hy:∀r σ,lo≤r→r≤hi→σs[r]? =some σ→bh P σ (fx T ks) o p) (hd:o.dst=some d) (hN:Nat.blt d N=true):GK P N ops σs T o ⟨p,none,lo,hi⟩
 |skip {d lo hi:Nat} (hw:dP ops T o=some false) (hd:o.dst=some d) (hN:Nat.blt d N=true):GK P N ops σs T o ⟨.raw undef,none,lo,hi⟩
 |mW {p:PV} {d r lo hi:Nat} {σ σ':bN} (ks:List Nat) (hks:(ks.all fun k=>(o.looksAt ops).contains k)=true) (hw:dP ops T o=some true) (h1:σs[r]? =some σ) (h2:σs[r+1]? =some σ') (hy:cM P σ (fx T ks) o p σ') (hd:o.dst=some d) (hN:Nat.blt d N=true):GK P N ops σs T o ⟨p,some r,lo,hi⟩
 |jM {p:PV} {r lo hi:Nat} {σ σ':bN} (ks:List Nat) (hks:(ks.all fun k=>(o.looksAt ops).contains k)=true) (hw:dP ops T o=some true) (h1:σs[r]? =some σ) (h2:σs[r+1]? =some σ') (hy:cM P σ (fx T ks) o p σ') (hd:o.dst=none):GK P N ops σs T o ⟨p,some r,lo,hi⟩
inductive GL (P:Program) (N:Nat) (ops:Array Oper) (σs:List bN) (T:b9):List Oper→List GD→Prop
 |nil:GL P N ops σs T [] []
 |cons {o:Oper} {g:GD} {l:List Oper} {gs:List GD}:GK P N ops σs T o g→GL P N ops σs T l gs→GL P N ops σs T (o::l) (g::gs)
theorem GL.get{ops:Array Oper}{σs:List bN}{T:b9}:∀ {l:List Oper} {gs:List GD},GL P N ops σs T l gs→gs.length=l.length∧∀(i:Nat) o g,l[i]? =some o→gs[i]? =some g→GK P N ops σs T o g
 |_,_,.nil=>⟨rfl,fun i o g h=>by simp at h⟩
 |_,_,.cons h hs=>by
  obtain⟨h1,h2⟩:=hs.get
  refine⟨by simp[h1],fun i o g ho hg=>?_⟩
  cases i with
  |zero=>simp at ho hg;subst ho;subst hg;exact h
  |succ i=>exact h2 i o g (by simpa using ho) (by simpa using hg)
def dE(gs:List GD)(i:Nat):Option Nat:=(gs[i]?).bind (·.r)
def Gi(ops:Array Oper)(f m:Nat)(gs:List GD):Bool:=
  Nat.beq gs.length ops.size&&
  ((List.range ops.size).all fun i=>(jD ops i).all fun k=>decide (k<i))&&
  ((List.range ops.size).all fun i=>(List.range i).all fun j=>(bV ops i).isNone||bV ops i !=bV ops j)&&
  ((List.range ops.size).all fun j=>(cR ops j).all fun k=>(List.range ops.size).all fun i=>bV ops i !=some k||de ops f j i)&&
  ((List.range ops.size).all fun i => match gs[i]? with
    |some ⟨_,some r,_,_⟩=>decide (r<m)&&(Nat.beq r 0||(List.range ops.size).any fun j=>dE gs j==some (r - 1)&&de ops f i j)
    |some ⟨_,none,lo,hi⟩=>(Nat.beq lo 0||(List.range ops.size).any fun j=>dE gs j==some (lo - 1)&&de ops f i j)&&(Nat.ble m hi||(List.range ops.size).any fun j=>dE gs j==some hi&&de ops f j i)
    |none=>false)&&
  ((List.range ops.size).all fun i=>(List.range i).all fun j=>(dE gs i).isNone||dE gs i !=dE gs j)&&
  ((List.range m).all fun r=>(List.range ops.size).any fun j=>dE gs j==some r)
structure JR (ops:Array Oper) (f m:Nat) (gs:List GD):Prop where
 len:gs.length=ops.size
 jD:∀i,i<ops.size→∀k∈jD ops i,k<i
 ss:∀i j d,i<ops.size→j<ops.size→bV ops i=some d→bV ops j=some d→i=j
 rd:∀j,j<ops.size→∀k∈cR ops j,∀i,i<ops.size→bV ops i=some k→de ops f j i=true
 mW:∀(i:Nat) g r,gs[i]? =some g→g.r=some r→r<m∧(r=0∨∃j,j<ops.size∧dE gs j=some (r - 1)∧de ops f i j=true)
 quiet:∀(i:Nat) g,gs[i]? =some g→g.r=none→(g.lo=0∨∃j,j<ops.size∧dE gs j=some (g.lo - 1)∧de ops f i j=true)∧(m≤g.hi∨∃j,j<ops.size∧dE gs j=some g.hi∧de ops f j i=true)
 one:∀i j r,i<ops.size→j<ops.size→dE gs i=some r→dE gs j=some r→i=j
 has:∀r,r<m→∃j,j<ops.size∧dE gs j=some r
theorem ED{ops:Array Oper}{f m:Nat}{gs:List GD}(h:Gi ops f m gs=true):JR ops f m gs:=by
 unfold Gi at h
 simp only[Bool.and_eq_true]at h
 obtain⟨⟨⟨⟨⟨⟨h1,h2⟩,h3⟩,h4⟩,h5⟩,h6⟩,h7⟩:=h
 have hl:gs.length=ops.size:=Nat.eq_of_beq_eq_true h1
 have all:∀ {n:Nat} {p:Nat→Bool},(List.range n).all p=true→∀i,i<n→p i=true:=fun h i hi=>List.all_eq_true.1 h i (List.mem_range.2 hi)
 have any:∀ {n:Nat} {p:Nat→Bool},(List.range n).any p=true→∃i,i<n∧p i=true:=fun h=>by
  obtain⟨i,hi,hp⟩:=List.any_eq_true.1 h
  exact⟨i,List.mem_range.1 hi,hp⟩
 have s3:∀i j d,i<ops.size→j<i→bV ops i=some d→bV ops j=some d→False:=fun i j d hi hj e1 e2=>by
  have:=all (all h3 i hi) j hj
  rw[e1,e2]at this
  simp at this
 have s6:∀i j r,i<ops.size→j<i→dE gs i=some r→dE gs j=some r→False:=fun i j r hi hj e1 e2=>by
  have:=all (all h6 i hi) j hj
  rw[e1,e2]at this
  simp at this
 refine⟨hl,fun i hi k hk=>?_,fun i j d hi hj e1 e2=>?_,fun j hj k hk i hi hd=>?_,fun i g r hg hr=>?_,fun i g hg hr=>?_,fun i j r hi hj e1 e2=>?_,fun r hr=>?_⟩
 ·have:=List.all_eq_true.1 (all h2 i hi) k hk;simpa using this
 ·rcases Nat.lt_trichotomy i j with h|h|h
  ·exact(s3 j i d hj h e2 e1).elim
  ·exact h
  ·exact(s3 i j d hi h e1 e2).elim
 ·have:=all (List.all_eq_true.1 (all h4 j hj) k hk) i hi
  rw[hd]at this
  simpa using this
 ·have hi:i<ops.size:=by rw[←hl];exact(List.getElem?_eq_some_iff.1 hg).1
  have:=all h5 i hi
  obtain⟨p,r',lo,hi'⟩:=g
  simp only at hr
  subst hr
  rw[hg]at this
  simp only[Bool.and_eq_true,decide_eq_true_eq,Bool.or_eq_true]at this
  refine⟨this.1,?_⟩
  rcases this.2 with h|h
  ·exact .inl (Nat.eq_of_beq_eq_true h)
  ·obtain⟨j,hj,h'⟩:=any h
   simp only[Bool.and_eq_true,beq_iff_eq]at h'
   exact .inr ⟨j,hj,h'.1,h'.2⟩
 ·have hi:i<ops.size:=by rw[←hl];exact(List.getElem?_eq_some_iff.1 hg).1
  have:=all h5 i hi
  obtain⟨p,r',lo,hi'⟩:=g
  simp only at hr
  subst hr
  rw[hg]at this
  simp only[Bool.and_eq_true,Bool.or_eq_true]at this
  refine⟨?_,?_⟩
  ·rcases this.1 with h|h
   ·exact .inl (Nat.eq_of_beq_eq_true h)
   ·obtain⟨j,hj,h'⟩:=any h
    simp only[Bool.and_eq_true,beq_iff_eq]at h'
    exact .inr ⟨j,hj,h'.1,h'.2⟩
  ·rcases this.2 with h|h
   ·exact .inl (Nat.ble_eq.mp h)
   ·obtain⟨j,hj,h'⟩:=any h
    simp only[Bool.and_eq_true,beq_iff_eq]at h'
    exact .inr ⟨j,hj,h'.1,h'.2⟩
 ·rcases Nat.lt_trichotomy i j with h|h|h
  ·exact(s6 j i r hj h e2 e1).elim
  ·exact h
  ·exact(s6 i j r hi h e1 e2).elim
 ·obtain⟨j,hj,h⟩:=any (all h7 r hr)
  exact⟨j,hj,by simpa using h⟩
structure uv (base N:Nat) (F:Nat→Prop) (l:List Oper) (gs:List GD) (σs:List bN) (t:b9) (ls:Array Bool) (r:Nat) (E:Env) (a:Act) (w:World):Prop where
 size:ls.size=l.length
 down:Down l.toArray ls
 rk:∀i s,i<l.length→dE gs i=some s→(ls.getD i true=true↔s<r)
 sat:∃σ,σs[r]? =some σ∧Sat F base σ E w
 jL:a.defers=[]
 tmps:a.tmps.size=N
 t0:cG E w a.eval t
 kG:∀j d g,j<l.length→ls.getD j true=true→bV l.toArray j=some d→gs[j]? =some g→cu E w (a.eval (.tmp d)) g.p
theorem pD(ls:Array Bool)(i j:Nat)(b:Bool)(hi:i<ls.size):(ls.setIfInBounds i true).getD j b=if j=i then true else ls.getD j b:=by
 by_cases e:j=i
 ·subst e;simp[hi]
 ·rw[if_neg e]
  simp only[Array.getD_eq_getD_getElem?,Array.getElem?_setIfInBounds_ne (Ne.symm e)]
theorem rV{ls:Array Bool}{i:Nat}(hi:i<ls.size)(b c:Bool):ls.getD i b=ls.getD i c:=by simp[hi]
section
variable {l:List Oper} {gs:List GD} {σs:List bN} {t T:b9} {f m base:Nat} {F:Nat→Prop}
theorem uv.reach(hG:JR l.toArray f m gs){ls:Array Bool}{r:Nat}{E:Env}{a:Act}{w:World}(h:uv base N F l gs σs t ls r E a w){i j:Nat}(hi:i<l.length)(hr:de l.toArray f i j=true)(hk:∀k∈jD l.toArray i,ls.getD k false=true):ls.getD j true=true:=by
 have:=dD (by rw[h.size];simp) h.down (fun i hi=>hG.jD i hi) f i j (by simpa using hi) hr hk
 by_cases hj:j<ls.size
 ·rw[rV hj true false];exact this
 ·simp[hj]
theorem uv.looks(hG:JR l.toArray f m gs)(hT:jW l (gs.map (·.p)) t=T){ls:Array Bool}{r:Nat}{E:Env}{a:Act}{w:World}(h:uv base N F l gs σs t ls r E a w){i:Nat}(hi:i<l.length)(hk:∀k∈jD l.toArray i,ls.getD k false=true):
  ∀k∈cR l.toArray i,∀p,look k T=some p→cu E w (a.eval (.tmp k)) p:=fun k hks p hp=>by
 rw[←hT]at hp
 rcases i6 _ _ _ k p hp with⟨j,o,h1,h2,h3⟩|h'
 ·rw[List.getElem?_map,Option.map_eq_some_iff]at h3
  obtain⟨g,hg,rfl⟩:=h3
  have hj:j<l.length:=(List.getElem?_eq_some_iff.1 h1).1
  have hd:bV l.toArray j=some k:=by simp only[bV,List.getElem?_toArray,h1,Option.bind_some,h2]
  have hr:=hG.rd i (by simpa using hi) k hks j (by simpa using hj) hd
  exact h.kG j k g hj (h.reach hG hi hr hk) hd hg
 ·exact h.t0 k p h'
theorem uv.put(hG:JR l.toArray f m gs)(hfr:∀i d,i<l.length→bV l.toArray i=some d→look d t=none){ls:Array Bool}{r r':Nat}{E E':Env}{a:Act}{w w':World}(h:uv base N F l gs σs t ls r E a w){i:Nat}{g:GD}{v:Value}(hi:i<l.length)(hu:ls.getD i true=false)(hk:∀k∈jD l.toArray i,ls.getD k false=true)(hg:gs[i]? =some g)(hgo:cp E w E' w')
  (hs:∃σ,σs[r']? =some σ∧Sat F base σ E' w') (hr:(g.r=none∧r'=r)∨(g.r=some r∧r'=r+1)) {o:Oper} (ho:l[i]? =some o) (hdN:∀d,o.dst=some d→d<N) (hv:∀d,o.dst=some d→cu E' w' v g.p):
  uv base N F l gs σs t (ls.setIfInBounds i true) r' E' (a.put o.dst v) w':=by
 have hil:i<ls.size:=by rw[h.size];exact hi
 have hrk:dE gs i=g.r:=by simp only[dE,hg,Option.bind_some]
 have hdi:bV l.toArray i=o.dst:=by simp only[bV,List.getElem?_toArray,ho,Option.bind_some]
 refine⟨by simpa using h.size,fun j hj hjs k hkj=>?_,fun j s hj hs'=>?_,hs,by cases o.dst<;>simpa[Act.put]using h.jL,by cases o.dst<;>simpa[Act.put]using h.tmps,fun k p hkp=>?_,fun j d g' hj hjl hd hg'=>?_⟩
 ·rw[pD _ _ _ _ hil]at hj ⊢
  split
  ·rfl
  ·by_cases e:j=i
   ·subst e;exact hk k hkj
   ·rw[if_neg e]at hj
    exact h.down j hj hjs k hkj
 ·rw[pD _ _ _ _ hil]
  by_cases e:j=i
  ·subst e
   rw[if_pos rfl]
   rw[hrk]at hs'
   rcases hr with⟨h1,_⟩|⟨h1,h2⟩
   ·rw[h1]at hs';cases hs'
   ·rw[h1]at hs';cases hs';exact⟨fun _=>by omega,fun _=>rfl⟩
  ·rw[if_neg e,h.rk j s hj hs']
   rcases hr with⟨_,h2⟩|⟨h1,h2⟩
   ·rw[h2]
   ·have:s≠r:=fun e'=>e (hG.one j i r (by simpa using hj) (by simpa using hi) (by rw[hs',e']) (by rw[hrk,h1]))
    omega
 ·have hne:∀d,o.dst=some d→k≠d:=fun d hd e=>by
   subst e
   rw[hfr i k hi (by rw[hdi,hd])]at hkp;cases hkp
  have:(a.put o.dst v).eval (.tmp k)=a.eval (.tmp k):=Act.eval_put fun d hd heq=>by cases heq;exact hne _ hd rfl
  rw[this]
  exact(h.t0 k p hkp).goes hgo
 ·rw[pD _ _ _ _ hil]at hjl
  by_cases e:j=i
  ·subst e
   rw[hdi]at hd
   rw[hg]at hg';cases hg'
   rw[hd,iB a (by rw[h.tmps];exact hdN d hd),if_pos rfl]
   exact hv d hd
  ·rw[if_neg e]at hjl
   have hne:∀d',o.dst=some d'→d≠d':=fun d' hd' e'=>by
    subst e'
    exact e (hG.ss j i d (by simpa using hj) (by simpa using hi) hd (by rw[hdi,hd']))
   have:(a.put o.dst v).eval (.tmp d)=a.eval (.tmp d):=Act.eval_put fun d' hd' heq=>by cases heq;exact hne _ hd' rfl
   rw[this]
   exact(h.kG j d g' hj hjl hd hg').goes hgo
theorem Hb(hG:JR l.toArray f m gs)(hT:jW l (gs.map (·.p)) t=T)(hfr:∀i d,i<l.length→bV l.toArray i=some d→look d t=none)(hL:GL P N l.toArray σs T l gs){σm:bN}(hm:σs[m]? =some σm){Q:Exit→Act→World→Prop}{E₀:Env}{w₀:World}(hq:∀a' w' E',Sat F base σm E' w'→cG E' w' a'.eval T→a'.defers=[]→a'.tmps.size=N→cp E₀ w₀ E' w'→Below base w₀ w'→Q .normal a' w'):
  ∀(fuel:Nat) (ls:Array Bool) (r:Nat) (E:Env) (a:Act) (w:World),uv base N F l gs σs t ls r E a w→bE ls l.length=fuel→cp E₀ w₀ E w→Below base w₀ w→r≤m→wpAny P .any l.toArray Q fuel ls a w:=by
 obtain⟨hgl,hget⟩:=hL.get
 intro fuel
 induction fuel with
 |zero=>
  intro ls r E a w h hu hgo hb hrm
  have hall:=cI hu
  have hrm':r=m:=by
   rcases Nat.lt_or_ge r m with h'|h'
   ·obtain⟨j,hj,hjr⟩:=hG.has r h'
    have hj:j<l.length:=by simpa using hj
    have:=(h.rk j r hj hjr).1 (hall j hj)
    omega
   ·omega
  subst hrm'
  refine⟨List.eq_nil_iff_forall_not_mem.2 fun i hi=>?_,?_⟩
  ·obtain⟨h1,h2,_⟩:=cb.1 hi
   rw[hall i (by simpa using h1)]at h2;cases h2
  ·obtain⟨σ,hσ,hs⟩:=h.sat
   rw[hm]at hσ;cases hσ
   refine hq a w E hs (fun k p hkp=>?_) h.jL h.tmps hgo hb
   rw[←hT]at hkp
   rcases i6 _ _ _ k p hkp with⟨j,o,h1,h2,h3⟩|h'
   ·rw[List.getElem?_map,Option.map_eq_some_iff]at h3
    obtain⟨g,hg,rfl⟩:=h3
    have hj:j<l.length:=(List.getElem?_eq_some_iff.1 h1).1
    exact h.kG j k g hj (hall j hj) (by simp only[bV,List.getElem?_toArray,h1,Option.bind_some,h2]) hg
   ·exact h.t0 k p h'
 |succ fuel ih=>
  intro ls r E a w h hu hgo hb hrm
  obtain⟨i0,hi0,hi1,hi2⟩:=ec (ls:=ls) (m:=l.length) (by omega)
  have hi0r:i0∈Region.ready .any l.toArray ls:=cb.2 ⟨by simpa using hi0,hi1,fun k hk=>by
   have:=hG.jD i0 (by simpa using hi0) k hk
   rw[rV (by rw[h.size];omega) false true];exact hi2 k this⟩
  refine⟨fun h0=>absurd hi0r (by rw[h0];simp),fun i hi=>?_⟩
  obtain⟨h1,h2,h3⟩:=cb.1 hi
  have hil:i<l.length:=by simpa using h1
  have ho:l[i]? =some l[i]:=by simp[hil]
  have hgi:gs[i]? =some (gs[i]'(by omega)):=by simp
  have hK:=hget i _ _ ho hgi
  generalize hgg:gs[i]'(by omega)=g at hgi hK
  generalize hoo:l[i]=o at ho hK
  have hlk:=h.looks hG hT hil h3
  have hlo:cR l.toArray i=o.looksAt l.toArray:=by simp only[cR,List.getElem?_toArray,ho]
  rw[hlo]at hlk
  have hpk:∀ks:List Nat,(ks.all fun k=>(o.looksAt l.toArray).contains k)=true→cG E w a.eval (fx T ks):=fun ks hks k p hkp=>by
   obtain⟨e1,e2⟩:=fq ks k p hkp
   exact hlk k (by have:=List.all_eq_true.1 hks k e1;simpa using this) p e2
  have hwant:∀b,dP l.toArray T o=some b→Region.wanted o (yielded l.toArray a.tmps)=b:=fun b hb=>by
   rw[eI];exact gb (fun k hk p hp=>hlk k hk p hp) hb
  have hun:bE (ls.setIfInBounds i true) l.length=fuel:=by have:=dV h2 hil (by rw[h.size];omega);omega
  unfold wpOp
  have ho':l.toArray[i]? =some o:=by simpa using ho
  simp only[ho']
  have hrk:dE gs i=g.r:=by simp only[dE,hgi,Option.bind_some]
  cases hK with
  | @val p d lo hi ks hks hw hy hd hN=>
   rw[hwant true hw,if_pos rfl]
   left
   obtain⟨σ,hσ,hs⟩:=h.sat
   obtain⟨q1,q2⟩:=hG.quiet i _ hgi rfl
   have hlo':lo≤r:=by
    rcases q1 with e|⟨j,hj,hj1,hj2⟩
    ·simp only at e;omega
    ·have:=(h.rk j _ (by simpa using hj) hj1).1 (h.reach hG hil hj2 h3)
     simp only at this;omega
   have hhi':r≤hi:=by
    rcases q2 with e|⟨j,hj,hj1,hj2⟩
    ·simp only at e;omega
    ·rcases Nat.lt_or_ge hi r with h'|h'
     ·have hjl:j<l.length:=by simpa using hj
      have e1:=(h.rk j _ hjl hj1).2 h'
      have e2:=h.reach hG hjl hj2 (h.down j e1 hj)
      rw[h2]at e2;cases e2
     ·exact h'
   refine kY (hy r σ hlo' hhi' hσ F base E a.eval w (dx a) hs (hpk ks hks)) fun v w' hE hv=>?_
   exact ih _ r E _ w' (h.put hG hfr hil h2 h3 hgi (.ext hE) ⟨σ,hσ,hs.ext hE⟩ (.inl ⟨rfl,rfl⟩) ho (fun d' hd'=>by rw[hd]at hd';cases hd';exact Nat.blt_eq.mp hN) (fun _ _=>hv)) hun (hgo.trans (.ext hE)) (hb.trans (Below.fB hE hs.bl)) hrm
  | @skip d lo hi hw hd hN=>
   rw[hwant false hw,if_neg (by simp)]
   exact ih _ r E _ w (h.put hG hfr hil h2 h3 hgi (cp.refl _ _) h.sat (.inl ⟨rfl,rfl⟩) ho (fun d' hd'=>by rw[hd]at hd';cases hd';exact Nat.blt_eq.mp hN) (fun _ _=>.raw _)) hun hgo hb hrm
  | @mW p d r0 lo hi σ σ' ks hks hw e1 e2 hy hd hN=>
   rw[hwant true hw,if_pos rfl]
   left
   obtain⟨q1,q2⟩:=hG.mW i _ r0 hgi rfl
   have hr0:r0=r:=by
    have n1:¬r0<r:=fun h'=>by
     have:=(h.rk i r0 hil hrk).2 h'
     rw[h2]at this;cases this
    rcases q2 with e|⟨j,hj,hj1,hj2⟩
    ·omega
    ·have:=(h.rk j _ (by simpa using hj) hj1).1 (h.reach hG hil hj2 h3)
     omega
   subst hr0
   obtain⟨σ0,hσ,hs⟩:=h.sat
   rw[e1]at hσ;cases hσ
   obtain⟨v,w',E',hr,k1,k2,k3,k4⟩:=hy F base E a.eval w (dx a) hs (hpk ks hks)
   have hn':=ih _ (r0+1) E' (a.put o.dst v) w' (h.put hG hfr hil h2 h3 hgi k2 ⟨σ',e2,k1⟩ (.inr ⟨rfl,rfl⟩) ho (fun d' hd'=>by rw[hd]at hd';cases hd';exact Nat.blt_eq.mp hN) (fun _ _=>k4)) hun (hgo.trans k2) (hb.trans k3) (by omega)
   unfold Oper.wp
   rcases hr with hr|⟨rfl,hr⟩
   ·rw[hr];exact hn'
   ·rw[hr];exact hn'
  | @jM p r0 lo hi σ σ' ks hks hw e1 e2 hy hd=>
   rw[hwant true hw,if_pos rfl]
   left
   obtain⟨q1,q2⟩:=hG.mW i _ r0 hgi rfl
   have hr0:r0=r:=by
    have n1:¬r0<r:=fun h'=>by
     have:=(h.rk i r0 hil hrk).2 h'
     rw[h2]at this;cases this
    rcases q2 with e|⟨j,hj,hj1,hj2⟩
    ·omega
    ·have:=(h.rk j _ (by simpa using hj) hj1).1 (h.reach hG hil hj2 h3)
     omega
   subst hr0
   obtain⟨σ0,hσ,hs⟩:=h.sat
   rw[e1]at hσ;cases hσ
   obtain⟨v,w',E',hr,k1,k2,k3,k4⟩:=hy F base E a.eval w (dx a) hs (hpk ks hks)
   have hn':=ih _ (r0+1) E' (a.put o.dst v) w' (h.put hG hfr hil h2 h3 hgi k2 ⟨σ',e2,k1⟩ (.inr ⟨rfl,rfl⟩) ho (fun d' hd'=>by rw[hd]at hd';cases hd') (fun d' hd'=>by rw[hd]at hd';cases hd')) hun (hgo.trans k2) (hb.trans k3) (by omega)
   unfold Oper.wp
   rcases hr with hr|⟨rfl,hr⟩
   ·rw[hr];exact hn'
   ·rw[hr];exact hn'
end
theorem kB:∀(n k:Nat),k≤n→bE (Array.replicate n false) k=k
 |n,0,_=>rfl
 |n,k+1,h=>by
  simp only[bE]
  rw[kB n k (by omega)]
  simp[show k<n by omega]
theorem wy{id:Nat}{l:List Oper}{t t':b9}{σ σm:bN}{Q:Exit→St→Prop}(f m:Nat)(σs:List bN)(gs:List GD)(T:b9)(hm:P.follows .mixedOrders=true)(hB:Gi l.toArray f m gs=true)(hT:jW l (gs.map (·.p)) t=T)(hfr:(l.all fun o=>o.dst.all fun d=>(look d t).isNone)=true)(h0:σs[0]? =some σ)(h1:σs[m]? =some σm)
  (hL:GL P N l.toArray σs T l gs) (hsub:Sub T t') (hq:Q .normal ⟨t',σm⟩):W P N L (.region id l.toArray true) ⟨t,σ⟩ Q:=fun F base E₀ w₀ E a w hc hs=>by
 have hG:=ED hB
 have hE:Ext w {w with drawn:=w.drawn+1}:=⟨rfl,rfl,rfl,Nat.le_refl _,fun _ _=>rfl⟩
 refine wp_region_any hm ?_
 have hfr':∀i d,i<l.length→bV l.toArray i=some d→look d t=none:=fun i d hi hd=>by
  have ho:l[i]? =some l[i]:=by simp[hi]
  simp only[bV,List.getElem?_toArray,ho,Option.bind_some]at hd
  have:=List.all_eq_true.1 hfr _ (List.mem_of_getElem? ho)
  rw[hd]at this
  simpa using this
 have hg0:uv base N F l gs σs t (Array.replicate l.length false) 0 E a {w with drawn:=w.drawn+1}:=by
  have hrep:∀i,i<l.length→(Array.replicate l.length false).getD i true=false:=fun i hi=>by simp[hi]
  refine⟨by simp,fun i hi hi'=>?_,fun i s hi _=>?_,⟨σ,h0,hs.sat.ext hE⟩,hs.jL,hs.size,hs.tmp.goes (.ext hE),fun j d g hj hjl=>?_⟩
  ·rw[hrep i (by simpa using hi')]at hi;cases hi
  ·rw[hrep i hi];simp
  ·rw[hrep j hj]at hjl;cases hjl
 have:=Hb (Q:=fun e a' w'=>mQ F base N E₀ w₀ (Q e) a' w') hG hT hfr' hL h1 (E₀:=E₀) (w₀:=w₀) (fun a' w' E' k1 k2 k3 k4 k5 k6=>⟨⟨t',σm⟩,E',hq,⟨k1,k2.sub hsub,k3,k4⟩,k5,k6⟩) l.length _ 0 E a _ hg0 (kB _ _ (Nat.le_refl _)) (hc.g.trans (.ext hE)) (hc.b.trans (Below.fB hE hs.sat.bl)) (Nat.zero_le _)
 simpa using this
theorem Jg{id:Nat}{l:List Oper}{y:Code}{t t':b9}{σ σm:bN}{Q:Exit→St→Prop}(f m:Nat)(σs:List bN)(gs:List GD)(T:b9)(hm:P.follows .mixedOrders=true)(hB:Gi l.toArray f m gs=true)(hT:jW l (gs.map (·.p)) t=T)(hfr:(l.all fun o=>o.dst.all fun d=>(look d t).isNone)=true)(h0:σs[0]? =some σ)(h1:σs[m]? =some σm)
  (hL:GL P N l.toArray σs T l gs) (hsub:Sub T t') (hq:W P N L y ⟨t',σm⟩ Q):W P N L (.seq (.region id l.toArray true) y) ⟨t,σ⟩ Q:=an (wy f m σs gs T hm hB hT hfr h0 h1 hL hsub hq)
theorem yz{P:Program}{σs:List bN}{t:b9}{o:Oper}{p:PV}{lo hi:Nat}(h:∀σ∈(σs.drop lo).take (hi+1 - lo),bh P σ t o p):∀r σ,lo≤r→r≤hi→σs[r]? =some σ→bh P σ t o p:=fun r σ h1 h2 hs=>by
 refine h σ (List.mem_of_getElem? (i:=r - lo) ?_)
 rw[List.getElem?_take,if_pos (by omega),List.getElem?_drop,show lo+(r - lo)=r by omega]
 exact hs
theorem ez{α:Type}{p:α→Prop}:∀x∈([]:List α),p x:=fun _ h=>by cases h
theorem cC{α:Type}{p:α→Prop}{a:α}{l:List α}(h:p a)(hs:∀x∈l,p x):∀x∈a::l,p x:=fun x hx=>by
 rcases List.mem_cons.1 hx with rfl|h'
 ·exact h
 ·exact hs x h'
end
open Net eX
theorem IT{P:Program}{N L:Nat}{x:Code}{st:St}{Q:Exit→St→Prop}{Q1:St→Prop}(h:W P N L x st (H7 Q1))(k:∀s,Q1 s→Q .normal s):W P N L x st Q:=
 h.mono fun e s hq=>by cases e<;>first|exact k s hq|exact hq.elim
theorem CV{T:ah}(hv:au T=true)(D:List Bool)(n d:Nat):(bz T D n d).length≤512:=by
 have hl:=bX hv
 unfold bz
 split
 ·simp
 ·exact Nat.le_trans (List.length_filter_le _ _) (Nat.le_trans (eM T n _) (by omega))
def iL(T:ah)(k x:Int):List Bool:=if jG T k x=0 then cA T k x else []
theorem DY{T:ah}{k x:Int}(h:(au T&&ek T k x)=true):iL T k x=cA T k x:=by
 unfold iL jG
 rw[if_pos h,if_pos rfl]
theorem HJ{T:ah}(hv:au T=true){a:Nat}(ha:a<2*T.ae.length)(h:0<gh T a):(au T&&ek T 3 (gh T a))=true:=by
 have:=tu hv ha
 rw[hv]
 unfold ek
 simp only[if_neg (show ¬(3:Int)=1 by decide),if_neg (show ¬(3:Int)=2 by decide),if_true,Bool.true_and,Bool.and_eq_true,decide_eq_true_eq]
 exact⟨by omega,by omega⟩
theorem EJ{T:ah}(hv:au T=true){a:Nat}(ha:a<2*T.ae.length):(au T&&ek T 2 (aB T a))=true:=by
 obtain⟨h0,h1⟩:=(aM hv).head a ha
 rw[hv]
 unfold ek
 simp only[if_neg (show ¬(2:Int)=1 by decide),if_true,Bool.true_and]
 exact bu.2 ⟨h0,h1⟩
def ln(T:ah)(D E:List Bool)(k:Nat):List Bool:=(List.range (2*T.ae.length)).map fun a=>if a<k then bF D a||bF E a else bF D a
theorem rj(T:ah)(D E:List Bool)(k:Nat):(ln T D E k).length=2*T.ae.length:=by simp[ln]
theorem oo{T:ah}{D E:List Bool}{k i:Nat}(h:i<(ln T D E k).length):(ln T D E k)[i]=if i<k then bF D i||bF E i else bF D i:=by simp[ln]
theorem yy{M:List Bool}{a:Nat}(h:a<M.length):bF M a=M[a]:=by rw[←mE];simp[h]
theorem Bj{T:ah}{D E:List Bool}(h:D.length=2*T.ae.length):ln T D E 0=D:=by
 apply List.ext_getElem (by rw[rj,h])
 intro i h1 h2
 rw[oo,if_neg (by omega),yy h2]
theorem DX(T:ah)(D E:List Bool):ln T D E (2*T.ae.length)=orM T D E:=by
 unfold ln orM
 exact List.map_congr_left fun a ha=>if_pos (List.mem_range.1 ha)
theorem BE(T:ah)(D E:List Bool)(k:Nat):(ln T D E k).set k (bF D k||bF E k)=ln T D E (k+1):=by
 apply List.ext_getElem (by simp[ln])
 intro i h1 h2
 rw[List.getElem_set,oo,oo]
 by_cases e:k=i
 ·subst e;rw[if_pos rfl,if_pos (by omega)]
 ·rw[if_neg e]
  by_cases h:i<k
  ·rw[if_pos h,if_pos (by omega)]
  ·rw[if_neg h,if_neg (by omega)]
theorem HV{T:ah}{D E:List Bool}{k:Nat}(h:k<2*T.ae.length):(ln T D E k).getD k false=bF D k:=by
 have hk:k<(ln T D E k).length:=by rw[rj];exact h
 rw[List.getD_eq_getElem?_getD,List.getElem?_eq_getElem hk,Option.getD_some,oo,if_neg (by omega)]
end
section
open Go.RowKit cj Mem Net
theorem Bf(rs:List (List Int))(i:Nat)(hi:i<rs.length):Can Tryz.prog 122 ([num i]++[.bg [ew rs] 0]) (· =aw (rs.getD i [])):=by
 exact aT Tryz.func122 I Tryz.ntmps122 I<|af (.a 1 I<|.k [0,1] I)<|af (.a 2 I<|.v (aJ (i) I) I<|.v (aK I ((show(rs.map aw)[i]? =some (aw (rs.getD i [])) by simp[hi]))) I<|.a 1 I<|.k [3] I)<|az<|⟨_,_,aE.of I,aD.pure,rfl⟩
theorem Ce(T:ah)(a:Nat)(ha:a<2*T.ae.length)(hl:T.ae.length≤4611686018427387902):Can Tryz.prog 123 ([num a]++[.bg (bI T) 0]) (· =num (aB T a)):=by
 exact aT Tryz.func123 I Tryz.ntmps123 I<|af (.a 1 I<|.k [0,1] I)<|af (.a 2 I<|.c rfl (ed T a ha hl) I<|.a 1 I<|.k [3] I)<|az<|⟨_,_,aE.of I,aD.pure,rfl⟩
theorem D4(T:ah)(D:List Bool)(d:Int):Can Tryz.prog 102 [aZ T,bq D,num d] (· =gu (cX T D [d]) (aO T D d.toNat true)):=by
 refine aT Tryz.func102 I Tryz.ntmps102 I<|af (.a 3 I<|.k [1,2,3] I)<|an<|af (.a 4 I<|.c rfl (mP T D [d] (by simp)) I<|.a 1 I<|.k [1,2,3,8] I)<|af (.a 2 I<|.k [1,2,3,8,17] I)<|aj I (fun hc=>?_) (fun hc=>?_)
 ·have he:cX T D [d]≠0:=of_decide_eq_true hc
  exact af (.a 3 I<|.k [6,7] I)<|az<|⟨_,_,aE.of I,aD.bY (ai.cons aD.cc (ai.cons aD.pure ai.nil)),by unfold gu;rw[if_neg he];rfl⟩
 ·have he:cX T D [d]=0:=by have:=of_decide_eq_false hc;omega
  have hok:(au T&&bR T D)=true∧bH T d=true:=by
   unfold cX at he
   split at he
   ·rename_i h1
    split at he
    ·rename_i h2;exact⟨h1,by simpa using h2⟩
    ·omega
   ·omega
  obtain⟨hvf,hnd⟩:=hok
  obtain⟨hv,hf⟩:=Bool.and_eq_true_iff.1 hvf
  have hd:0≤d∧d<T.nodes:=by simpa[bH]using hnd
  obtain⟨n,rfl⟩:=Int.eq_ofNat_of_zero_le hd.1
  have hS:=aM hv
  refine ak<|aR<|ax 1 I<|fC I (lY T hv) I<|ax 2 I<|aH [1,2,3,9] I ?_
  refine aR<|ax 3 I<|bw (dw I I) I<|ax 4 I<|aH [10] I ?_
  refine km (.cons 10 I (aD.gC rfl (ai.cons aD.pure<|ai.cons aD.pure<|ai.cons aD.pure<|ai.cons aD.pure<|ai.cons aD.pure<|ai.cons (aD.fy (ai.cons (aD.gC rfl (ai.cons aD.pure ai.nil)) ai.nil))<|ai.cons aD.pure ai.nil)) .nil) ?_
  exact af (.a 1 I<|.c rfl (Ab T D n true 122 123 [.bg [ew (ca (aN T) T.nodes.toNat (2*T.ae.length))] 0] [.bg (bI T) 0] hv hf hd.2 (by kernel_rfl) (by kernel_rfl) (fun i hi=>by have h:=Bf (ca (aN T) T.nodes.toNat (2*T.ae.length)) i (by rw[cQ];omega);rw[dH _ _ _ _ (by omega)]at h;exact h) (fun a ha=>Ce T a ha (by have:=bX hv;omega))) I<|.a 2 I<|.k [6,7] I)<|az<|⟨_,_,aE.of I,aD.pure,by unfold gu;rw[if_pos he,he];rfl⟩
end
end PW
end Go.Proofs.YteikppbedmmdnaaGreatDoor
