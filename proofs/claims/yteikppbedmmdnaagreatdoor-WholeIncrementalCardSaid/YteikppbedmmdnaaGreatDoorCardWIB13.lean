/- Texts of the proof, part 13. -/
import Derived.Test.YteikppbedmmdnaaGreatDoorCardWIB12
set_option linter.unusedVariables false
set_option linter.unusedSimpArgs false
set_option maxRecDepth 10000
set_option maxHeartbeats 1000000
namespace Go.Proofs.YteikppbedmmdnaaGreatDoor
namespace PW
section
open Go.RowKit Go.Shelf cj Mem Net eX
theorem vE{xv pv:PV}[IsPure xv][IsPure pv]{L:List Rs}(hLl:L.length≤1000)
  (hin:∀(F0:Nat→Prop) (xb pb:Value) (W':World),(∀b,F0 b→b<W'.heap.size)→iC F0 W'→cu (EF F0) W' xb xv→cu (EF F0) W' pb pv→u7 Tryz.prog 70 #[xb,pb] L.length (MR F0 L) F0 W'):
  Can Tryz.prog 41 [.func 70 [xv,pv]] (· = .slice L.length (p9 L)):=by
 exact aT Tryz.func41 I Tryz.ntmps41 I<|af (.a 1 I<|.k [0] I)<|af (.a 1 I<|.c rfl (zP hLl hin) I<|.a 1 I<|.k [2] I)<|az<|⟨_,_,aE.of I,aD.pure,rfl⟩
section
variable {T:ah} {tb:Nat→eN} {p0:gg} {Φ:Nat→Nat→List cr→Prop}
structure Lm (T:ah) (tb:Nat→eN) (p0:gg) (Φ:Nat→Nat→List cr→Prop) (wt:Nat→List cr→Nat):Prop where
 leaf:∀ {u n s},Φ u n s→(bT T tb p0 n s).av=[]→1≤wt n s
 node:∀ {u n s},Φ u n s→(bT T tb p0 n s).av≠[]→∃B,(bT T tb p0 n s).av.length*B≤wt n s∧∀a∈(bT T tb p0 n s).av,wt (aB T a.toNat).toNat (bT T tb p0 n s).fe.stack≤B
def uT(pre:List Int)(r:Rs):Rs:=(r.1,r.2.1,pre++r.2.2)
theorem vS(Ls:Nat→List Rs)(f:Rs→Rs):∀k,(dT Ls k).map f=dT (fun i=>(Ls i).map f) k
 |0=>rfl
 |k+1=>by rw[dT,List.map_append,vS Ls f k];rfl
theorem xu(Ls:Nat→List Rs){r:Rs}:∀ {k:Nat},r∈dT Ls k→∃i,i<k∧r∈Ls i
 |0,h=>by cases h
 |k+1,h=>by
  rcases List.mem_append.1 h with h|h
  ·obtain⟨i,h1,h2⟩:=xu Ls h
   exact⟨i,by omega,h2⟩
  ·exact⟨k,by omega,h⟩
theorem xY(Ls:Nat→List Rs){B:Nat}:∀ {k:Nat},(∀i,i<k→(Ls i).length≤B)→(dT Ls k).length≤k*B
 |0,_=>by simp[dT]
 |k+1,h=>by
  have h1:=xY Ls (k:=k) (fun i hi=>h i (by omega))
  have h2:=h k (by omega)
  rw[dT,List.length_append,Nat.succ_mul]
  omega
theorem tM{Ls Ls':Nat→List Rs}:∀ {k:Nat},(∀i,i<k→Ls i=Ls' i)→dT Ls k=dT Ls' k
 |0,_=>rfl
 |k+1,h=>by rw[dT,dT,tM (fun i hi=>h i (by omega)),h k (by omega)]
theorem wY(Ls:Nat→List Rs){cs:List Int}:∀ {k:Nat},k≤cs.length→(∀i,i<k→cs.getD i 0=min ((Ls i).length:Int) 1001)→JH (cs.take k)=min ((dT Ls k).length:Int) 1001
 |0,_,_=>by simp only[List.take_zero,JH,dT,List.foldl_nil,List.length_nil];decide
 |k+1,hk,h=>by
  have e:cs.take (k+1)=cs.take k++[cs.getD k 0]:=by
   rw[List.take_add_one,List.getElem?_eq_getElem (by omega),List.getD_eq_getElem?_getD,List.getElem?_eq_getElem (by omega)]
   rfl
  rw[e,rR,wY Ls (by omega) (fun i hi=>h i (by omega)),h k (by omega),dT,List.length_append]
  omega
theorem HQ(R:nU T tb p0 Φ){wt:Nat→List cr→Nat}(hw:Lm T tb p0 Φ wt):∀(u n:Nat) (s:List cr) (v:PV) (c:Int),Φ u n s→Good T tb p0 Φ v n s c→∃L:List Rs,L≠[]∧(∀r∈L,Br T tb p0 n s r.2.2 r.1 r.2.1∧r.2.2.length≤u)∧c=min (L.length:Int) 1001∧L.length≤wt n s∧
  ∀pre:List Int,pre.length+u≤1000→∀(F0:Nat→Prop) (xb pb:Value) (W:World),(∀b,F0 b→b<W.heap.size)→iC F0 W→cu (EF F0) W xb (.bg [v] 0)→cu (EF F0) W pb (.bg [aw pre] 0)→u7 Tryz.prog 70 #[xb,pb] (L.map (uT pre)).length (MR F0 (L.map (uT pre))) F0 W:=by
 intro u
 induction u using Nat.strongRecOn with
 |_ u ih=>
 intro n s v c hΦ hg
 obtain⟨vs,cs,rfl,e2,e3,e4,e5⟩:=hg.parts
 haveI:aI vs:=⟨fun i x hx=>by
  have hlt:=(List.getElem?_eq_some_iff.1 hx).1
  have:=(e5 i (by rw[←e2];exact hlt)).pure
  rw[List.getD_eq_getElem?_getD,hx]at this
  exact this⟩
 by_cases ha:(bT T tb p0 n s).av=[]
 ·have hc:c=1:=by rw[e4,ha];rfl
  refine⟨[(n,(bT T tb p0 n s).jZ,[])],by simp,fun r hr=>?_,by rw[hc];rfl,hw.leaf hΦ ha,fun pre hpl F0 xb pb W hF gl hX hP=>?_⟩
  ·rw[List.mem_singleton]at hr
   subst hr
   exact⟨.stop ha,Nat.zero_le _⟩
  ·have:=Fw ha (by omega) hF gl hX hP
   simpa[uT]using this
 ·obtain⟨hal,hlv,hst⟩:(bT T tb p0 n s).av.length≤1000∧bT T tb p0 n s=gV (gL p0 s) (bT T tb p0 n s).fe.stack (bT T tb p0 n s).av∧
    ∀a∈(bT T tb p0 n s).av,∃b m:Nat,a=(b:Int)∧b<2*T.ae.length∧aB T b=(m:Int)∧∃u',u'<u∧Φ u' m (bT T tb p0 n s).fe.stack:=by
   rcases R.step hΦ with h|h
   ·exact absurd h ha
   ·exact h
  obtain⟨B,hB1,hB2⟩:=hw.node hΦ ha
  have hch:∀i,∃L:List Rs,i<(bT T tb p0 n s).av.length→L≠[]∧(∀r∈L,∃m:Nat,aB T ((bT T tb p0 n s).av.getD i 0).toNat=(m:Int)∧Br T tb p0 m (bT T tb p0 n s).fe.stack r.2.2 r.1 r.2.1∧r.2.2.length<u)∧cs.getD i 0=min (L.length:Int) 1001∧L.length≤B∧(∃ys,vs[i]? =some (.bg ys 0)∧aI ys∧
    ∀pre:List Int,pre.length+1+(u - 1)≤1000→∀(F0:Nat→Prop) (xb pb:Value) (W:World),(∀b,F0 b→b<W.heap.size)→iC F0 W→cu (EF F0) W xb (.bg [.bg ys 0] 0)→cu (EF F0) W pb (.bg [aw (pre++[(bT T tb p0 n s).av.getD i 0])] 0)→u7 Tryz.prog 70 #[xb,pb] (L.map (uT (pre++[(bT T tb p0 n s).av.getD i 0]))).length (MR F0 (L.map (uT (pre++[(bT T tb p0 n s).av.getD i 0])))) F0 W):=by
   intro i
   by_cases hi:i<(bT T tb p0 n s).av.length
   ·have hmem:(bT T tb p0 n s).av.getD i 0∈(bT T tb p0 n s).av:=by
     rw[List.getD_eq_getElem?_getD,List.getElem?_eq_getElem hi]
     exact List.getElem_mem hi
    obtain⟨b,m,hab,hb,hm,u',hu,hΦ'⟩:=hst _ hmem
    have h0:=e5 i hi
    have hB:=hB2 _ hmem
    have hm':aB T ((bT T tb p0 n s).av.getD i 0).toNat=(m:Int):=by rw[hab,Int.toNat_natCast];exact hm
    rw[hm',Int.toNat_natCast]at h0 hB
    obtain⟨ys,hys,hyp⟩:=h0.H5
    obtain⟨L,i1,i2,i3,i4,i5⟩:=ih u' hu m _ _ _ hΦ' h0
    have hvi:vs[i]? =some (.bg ys 0):=by
     have hil:i<vs.length:=by omega
     rw[List.getD_eq_getElem?_getD,List.getElem?_eq_getElem hil]at hys
     rw[List.getElem?_eq_getElem hil]
     exact congrArg some hys
    refine⟨L,fun _=>⟨i1,fun r hr=>⟨m,hm',(i2 r hr).1,by have:=(i2 r hr).2;omega⟩,i3,by omega,ys,hvi,hyp,fun pre hpl F0 xb pb W hF gl hX hP=>?_⟩⟩
    rw[hys]at i5
    exact i5 (pre++[_]) (by simp only[List.length_append,List.length_singleton];omega) F0 xb pb W hF gl hX hP
   ·exact⟨[],fun h=>absurd h hi⟩
  obtain⟨Ls,hLs⟩:=Classical.skolem.1 hch
  have hlen0:0<(bT T tb p0 n s).av.length:=List.length_pos_iff.2 ha
  have hcc:c=min ((dT Ls (bT T tb p0 n s).av.length).length:Int) 1001:=by
   rw[e4]
   unfold iY
   rw[if_neg ha]
   have:=wY Ls (cs:=cs) (k:=(bT T tb p0 n s).av.length) (by omega) (fun i hi=>(hLs i hi).2.2.1)
   rw[List.take_of_length_le (by omega)]at this
   exact this
  have hlm:∀(f:Nat→Rs→Rs) k,(dT (fun i=>(Ls i).map (f i)) k).length=(dT Ls k).length:=fun f k=>by
   induction k with
   |zero=>rfl
   |succ k ih=>rw[dT,dT,List.length_append,List.length_append,ih,List.length_map]
  obtain⟨Q,hQ⟩:∃Q:Nat→List Rs,Q=fun i=>(Ls i).map fun r=>(r.1,r.2.1,(bT T tb p0 n s).av.getD i 0::r.2.2):=⟨_,rfl⟩
  have hql:(dT Q (bT T tb p0 n s).av.length).length=(dT Ls (bT T tb p0 n s).av.length).length:=by rw[hQ];exact hlm (fun i r=>(r.1,r.2.1,(bT T tb p0 n s).av.getD i 0::r.2.2)) _
  refine⟨dT Q (bT T tb p0 n s).av.length,fun e=>?_,fun r hr=>?_,by rw[hql];exact hcc,by rw[hql];exact Nat.le_trans (xY Ls (fun i hi=>(hLs i hi).2.2.2.1)) hB1,fun pre hpl F0 xb pb W hF gl hX hP=>?_⟩
  ·have h1:=qt Ls hlen0
   have h2:=List.length_pos_iff.2 (hLs 0 hlen0).1
   rw[e]at hql
   simp at hql
   omega
  ·obtain⟨i,hi,hr⟩:=xu Q hr
   rw[hQ]at hr
   obtain⟨r',hr',rfl⟩:=List.mem_map.1 hr
   obtain⟨m,k1,k2,k3⟩:=(hLs i hi).2.1 r' hr'
   refine⟨.go ?_ k1 k2,by simp only[List.length_cons];omega⟩
   rw[List.getD_eq_getElem?_getD,List.getElem?_eq_getElem hi]
   exact List.getElem_mem hi
  ·have hu:0<u:=by
    obtain⟨_,_,_,_,_,u',h,_⟩:=hst _ (List.getElem_mem hlen0)
    omega
   have hmp:(dT Q (bT T tb p0 n s).av.length).map (uT pre)=dT (fun i=>(Ls i).map (uT (pre++[(bT T tb p0 n s).av.getD i 0]))) (bT T tb p0 n s).av.length:=by
    rw[vS]
    refine tM fun i _=>?_
    rw[hQ]
    simp[uT,Function.comp_def]
   rw[hmp]
   refine FD _ ha (by omega) e2 hal hF gl hX hP fun i hi=>?_
   obtain⟨_,_,_,_,ys,y1,y2,y3⟩:=hLs i hi
   exact⟨ys,y1,y2,fun F1 xb' pb' W' h1 h2 h3 h4=>y3 pre (by omega) F1 xb' pb' W' h1 h2 h3 h4⟩
set_option maxHeartbeats 4000000 in
theorem CN(R:nU T tb p0 Φ){wt:Nat→List cr→Nat}(hw:Lm T tb p0 Φ wt)(hv:au T=true)(h12:T.nodes≤12){U:List (Nat×List cr)}(hU:∀ {u n s},Φ u n s→(n,s)∈U)(hUl:U.length≤1000000)(tbs:List eN)(htl:(tbs.length:Int)=T.nodes)(htb:∀n:Nat,(n:Int)<T.nodes→tbs[n]? =some (tb n))
  (hok:∀n:Nat,(n:Int)<T.nodes→(tb n).node=(n:Int)∧fA T (tb n)=true) {u n:Nat} {p:gg} (hΦ:Φ u n p.stack) (hu:u≤1000) (hwn:wt n p.stack≤1000) (hp:gL p p.stack=gL p0 p.stack):
  Can Tryz.prog 16 [aZ T,gN tbs,fc p,num n] (fun r=>∃L:List Rs,L≠[]∧L.length≤1000∧(∀q∈L,Br T tb p0 n p.stack q.2.2 q.1 q.2.1∧q.2.2.length≤u)∧r= .tuple [.slice L.length (p9 L),num 0]):=by
 refine aT Tryz.func16 I Tryz.ntmps16 I<|af (.a 4 I<|.k [1,3,4,6] I)<|aR<|ax 4 I<|b7 I I (aW.mono (aW.It (zv R hv h12 hU hUl tbs htl htb hok hΦ hp)) (fun y σ' h=>?_))
 obtain⟨⟨v,c,L0,rfl,hg,hLl,hall⟩,rfl⟩:=h
 refine ax 7 I<|aH [10,12] I ?_
 obtain⟨L,hL0,hbr,hc1,hLw,hmany⟩:=HQ R hw u n p.stack v c hΦ hg
 have hL1:L.length≤1000:=Nat.le_trans hLw hwn
 obtain⟨ys,hys,hyp⟩:=hg.H5
 obtain⟨vs,cs,hvs,_,_,_,_⟩:=hg.parts
 have hon:=hmany [] (by simp;omega)
 rw[show L.map (uT [])=L from(List.map_congr_left (g:=id) fun r _=>rfl).trans (List.map_id L)]at hon
 have hc2:c=(L.length:Int):=by omega
 have hcol:Can Tryz.prog 41 [.func 70 [.bg [v] 0,.bg [aw []] 0]] (· = .slice L.length (p9 L)):=by
  haveI:=hg.pure
  exact vE hL1 hon
 subst hvs
 cases hys
 refine an<|af (.a 2 I<|.k [10,12,23] I)<|aj I (fun hc=>?_) (fun hc=>?_)
 ·cases hc
 ·refine ak<|an<|af (.a 3 I<|.v (aK I (rfl)) I<|.a 1 I<|.k [10,29] I)<|aj I (fun hc=>?_) (fun hc=>?_)
  ·have:=tt hc
   omega
  ·exact ak<|af (.a 1 I<|.c rfl (sC _) I<|.c rfl (hcol) I<|.a 2 I<|.k [8,9] I)<|az<|⟨_,_,aE.of I,aD.pure (p:=.tuple [.slice L.length (p9 L),num 0]),L,hL0,hL1,hbr,rfl⟩
end
end
section
open Go.RowKit cj Mem Net
noncomputable def kI(T:ah)(D:List Bool)(k:Nat):List eN:=(List.range k).map fun n=>dW T D n
noncomputable def G4(T:ah)(D:List Bool):List eN:=if cX T D []=0 then kI T D T.nodes.toNat else []
theorem nL(T:ah)(D:List Bool)(k:Nat):(kI T D k).length=k:=by simp[kI]
theorem Co(T:ah)(D:List Bool)(k:Nat):kI T D (k+1)=kI T D k++[dW T D k]:=by simp[kI,List.range_succ]
theorem An{T:ah}{D:List Bool}(h:(au T&&bR T D)=true):cX T D []=0:=by unfold cX;rw[if_pos h];rfl
theorem Gl{T:ah}{D:List Bool}{ns:List Int}(h:(au T&&bR T D)=false):cX T D ns=1:=by unfold cX;rw[h];rfl
theorem Au{T:ah}{D:List Bool}{n:Int}(h:(au T&&bR T D)=true)(hn:bH T n=true):cX T D [n]=0:=by
 unfold cX;rw[if_pos h,if_pos];simp[hn]
theorem BY{T:ah}{D:List Bool}{n:Nat}(h:(au T&&bR T D)=true)(hn:(n:Int)<T.nodes):jz T D n=dW T D n:=by
 unfold jz
 rw[Au h (bu.2 ⟨by omega,hn⟩)]
 rfl
theorem Dl(T:ah)(D:List Bool):Can Tryz.prog 12 [aZ T,bq D] (· = .tuple [gN (G4 T D),num (cX T D [])]):=by
 obtain⟨q1,hq1⟩:∃q,au T=q:=⟨_,rfl⟩
 obtain⟨q2,hq2⟩:∃q,bR T D=q:=⟨_,rfl⟩
 refine aT Tryz.func12 I Tryz.ntmps12 I<|af (.a 3 I<|.k [1,2] I)<|an<|bP 18 (.raw (.bool ((!q1)|| !q2))) [1,2] I ?_ ?_
 ·refine .a 1 I<|.c rfl (hq1▸eo T) I<|.a 2 I<|?_
  cases q1
  ·exact .a 5 I<|.k [18,1,2] I
  ·exact .a 2 I<|.c rfl (hq2▸lD T D (by have:=bX hq1;omega)) I<|.a 2 I<|.k [18,1,2] I
 refine aj I (fun hc=>?_) (fun hc=>?_)
 ·have hb:(au T&&bR T D)=false:=by rw[hq1,hq2];revert hc;cases q1<;>cases q2<;>simp
  exact af (.a 2 I<|.k [4,5] I)<|az<|⟨_,_,aE.of I,aD.bY (ai.cons aD.cc (ai.cons aD.pure ai.nil)),by unfold G4;rw[Gl hb];rfl⟩
 ·have hok:(au T&&bR T D)=true:=by rw[hq1,hq2];revert hc;cases q1<;>cases q2<;>simp
  have hv:=(Bool.and_eq_true_iff.1 hok).1
  have hN:=(aM hv).nodes
  obtain⟨N,hNN⟩:∃N:Nat,T.nodes=(N:Int):=⟨T.nodes.toNat,by omega⟩
  refine ak<|af (.a 1 I<|.k [1,2,6] I)<|fM 6 52 3 I ?_
  refine an<|af (.a 1 I<|.v (aK I ((show some (num T.nodes)=some (num (N:Int)) by rw[hNN]))) I<|.a 1 I<|.k [1,2,6,20,21] I)<|ay<|eY [1,2,6,20,21] I<|br (fun r s=>∃k,k≤N∧r=N - k∧s=⟨[(1,bq D),(2,.bg (bI T) 0),(6,.own 0),(20,num N),(21,num k)],[some (.row 52 3 k (oK (kI T D k)))]⟩) N ⟨0,by omega,by omega,rfl⟩ ?_
  rintro r s ⟨k,hk,rfl,rfl⟩
  refine af (.a 1 I<|.k [1,2,6,20,21,22] I)<|an<|aj I (fun hy=>?_) (fun hy=>?_)
  ·have hlt:k<N:=by have:=tt hy;omega
   have hr:=qY T D (k:Int)
   rw[BY hok (by omega)]at hr
   refine ak<|an<|ay<|af (.a 2 I<|.k [1,2,6,7,20,21] I)<|aR<|ax 3 I<|fC I (hr) I<|ax 6 I<|aH [1,2,6,8,20,21] I ?_
   refine bx<|ax 3 I<|cg (bC I (bG.rk.get I) I I I I (by unfold maxLen;omega)) I<|ax 1 I ?_
   refine eQ [2] (.c 1<|.c 2<|.c 6<|.c 20<|.c 21<|.nil) (.kept rfl (.fk rfl (show _=oK (kI T D (k+1)) by rw[Co];exact ze _ _))<|.nil) I I (bf ?_)
   refine aF (.v (aU I) I<|.a 1 I<|.k [1,2,6,20,21] I) ?_
   exact⟨N - (k+1),by omega,k+1,by omega,rfl,rfl⟩
  ·have hke:k=N:=by have:=ff hy;omega
   subst hke
   refine bp<|af (.a 3 I<|.k [4,5] I)<|az<|⟨_,_,aE.of I,aD.bY (ai.cons (aD.dA rfl ai.pure) (ai.cons aD.pure ai.nil)),?_⟩
   unfold G4
   rw[An hok,if_pos rfl]
   unfold gN
   rw[nL,show T.nodes.toNat=k by omega]
theorem En(l:List eN)(i j:Nat)(e:eN)(h:l[i]? =some e)(hj:j<3):(oK l)[i*3+j]? =(gA e)[j]? :=flat_get gA 3 (fun _=>rfl) l i j e h hj
theorem B6(l:List Int):lW l l=true:=by
 unfold lW
 simp
end
end PW
end Go.Proofs.YteikppbedmmdnaaGreatDoor
namespace Go.Proofs.YteikppbedmmdnaaGreatDoor
namespace PW
open Go.RowKit cj Mem Net eX
theorem Can.Lk{P:Program}{f:FuncId}{ps:List PV}{R R':PV→Prop}(h:Can P f ps R)(hR:∀r,R r→R' r):Can P f ps R':=fun F w vs a b c=>(h F w vs a b c).mono fun _ _ ⟨v,he,hx,r,h1,h2⟩=>⟨v,he,hx,r,hR r h1,h2⟩
noncomputable def AH(T:ah)(D:List Bool)(n:Nat):eN:=dW T D n
def JI(T:ah)(D:List Bool)(d u n:Nat)(s:List cr):Prop:=s=[]∧(n:Int)<T.nodes∧0≤dN T D d n∧u=jv T D d n
theorem I3{T:ah}{D:List Bool}{d n:Nat}{p:List Int}(h:SP T D d n p):cE T n p=(d:Int):=by
 induction h with
 |nil=>rfl
 |cons _ hm _ ih=>
  simp only[cE,Int.toNat_natCast]
  rw[hm]
  exact ih
theorem LL{T:ah}{D:List Bool}{d n:Nat}{p:List Int}(hv:au T=true)(hd:(d:Int)<T.nodes)(h:SP T D d n p):dK T n p=0:=by
 unfold dK
 rw[if_pos hv,if_pos (bu.2 ⟨by omega,h.node hv hd⟩)]
 exact uI h.ch
theorem yP(T:ah)(D:List Bool)(n d:Nat):(bz T D n d).Nodup:=by
 unfold bz
 split
 ·exact List.nodup_nil
 ·unfold eB
  refine List.filter_sublist.nodup ?_
  unfold bW iN
  exact List.Pairwise.map _ (fun a b hab h=>hab (Int.ofNat.inj h)) (List.filter_sublist.nodup (List.nodup_range (n:=2*T.ae.length)))
section
variable {T:ah} {D:List Bool} {d:Nat} {p0:gg}
theorem Af(hv:au T=true)(hf:bR T D=true)(hd:(d:Int)<T.nodes)(hp0:p0.dst=(d:Int)):(bT T (AH T D) p0 d []).av=[]∧(bT T (AH T D) p0 d []).jZ= -1:=
 xU (wv (D:=D) hv hd hf (fun _ h=>h)) hd hp0 rfl rfl (by show(0:Nat)≤32;omega)
theorem Hz(hv:au T=true)(hd:(d:Int)<T.nodes)(hp0:p0.dst=(d:Int)){n:Nat}(hn:(n:Int)<T.nodes)(hr:0≤dN T D d n)(hne:n≠d):bz T D n d≠[]∧bT T (AH T D) p0 n []=gV (gL p0 []) [] (bz T D n d):=
 vX hv hd hn hne hr (kP hv hn) I (tK hd) (p:=gL p0 []) hp0 rfl rfl
theorem Kx(hv:au T=true)(hf:bR T D=true)(hd:(d:Int)<T.nodes)(hp0:p0.dst=(d:Int)):nU T (AH T D) p0 (JI T D d) where
 node:=fun h=>h.2.1
 small:=fun h=>by rw[h.1];exact⟨fun g hg=>(by cases hg),by simp⟩
 step:=fun {u n s} h=>by
  obtain⟨rfl,hn,hr,rfl⟩:=h
  by_cases hne:n=d
  ·subst hne;exact .inl (Af hv hf hd hp0).1
  ·obtain⟨_,e1⟩:=Hz (D:=D) hv hd hp0 hn hr hne
   refine .inr ⟨BI _ _ _,by rw[e1];rfl,fun a ha=>?_⟩
   rw[e1]at ha ⊢
   obtain⟨k,rfl,hk⟩:=cT ha
   obtain⟨m,hm,hmN⟩:=di hv hk.iu
   obtain⟨c1,c2⟩:=hk.dN hm
   have:=(aM hv).cost k hk.iu
   exact⟨k,m,rfl,hk.iu,hm,_,Eg hmN c1 (by omega),rfl,hmN,c1,rfl⟩
theorem C2(hv:au T=true)(hf:bR T D=true)(hd:(d:Int)<T.nodes)(hp0:p0.dst=(d:Int)){n e:Nat}{s:List cr}{p:List Int}{w:Int}(hb:Br T (AH T D) p0 n s p e w):s=[]→(n:Int)<T.nodes→0≤dN T D d n→SP T D d n p∧e=d∧w= -1:=by
 induction hb with
 | @stop n s h0=>
  rintro rfl hn hr
  by_cases hne:n=d
  ·subst hne;exact⟨.nil,rfl,(Af hv hf hd hp0).2⟩
  ·obtain⟨h1,e1⟩:=Hz (D:=D) hv hd hp0 hn hr hne
   rw[show gG T (AH T D n) (gL p0 [])=bT T (AH T D) p0 n [] from rfl,e1]at h0
   exact absurd h0 h1
 | @go n m e s a p w ha hm hbr ih=>
  rintro rfl hn hr
  by_cases hne:n=d
  ·subst hne
   rw[show gG T (AH T D n) (gL p0 [])=bT T (AH T D) p0 n [] from rfl,(Af hv hf hd hp0).1]at ha
   cases ha
  ·obtain⟨h1,e1⟩:=Hz (D:=D) hv hd hp0 hn hr hne
   rw[show gG T (AH T D n) (gL p0 [])=bT T (AH T D) p0 n [] from rfl,e1]at ha ih
   obtain⟨k,rfl,hk⟩:=cT ha
   rw[Int.toNat_natCast]at hm
   obtain⟨c1,c2⟩:=hk.dN hm
   obtain⟨i1,i2,i3⟩:=ih rfl (Hj hv hk.iu hm) c1
   exact⟨.cons hk hm i1,i2,i3⟩
def Jl(T:ah)(D:List Bool)(d:Nat)(r:Int)(l:Nat):Prop:=∃a n:Nat,(a=2*l∨a=2*l+1)∧gW T D n d a∧dN T D d n≤r
open Classical in
noncomputable def pr(T:ah)(D:List Bool)(d:Nat)(r:Int):List Nat:=(List.range T.ae.length).filter fun l=>decide (Jl T D d r l)
open Classical in
theorem kh{r:Int}{l:Nat}:l∈pr T D d r↔l<T.ae.length∧Jl T D d r l:=by
 unfold pr
 rw[List.mem_filter,List.mem_range,decide_eq_true_eq]
theorem rv(r:Int):(pr T D d r).Nodup:=by unfold pr;exact List.filter_sublist.nodup List.nodup_range
theorem G3{r r':Int}(h:r≤r'):(pr T D d r).length≤(pr T D d r').length:=
 mJ _ _ (rv r) fun l hl=>by
  obtain⟨h1,a,n,h2,h3,h4⟩:=kh.1 hl
  exact kh.2 ⟨h1,a,n,h2,h3,by omega⟩
theorem FB(r:Int):(pr T D d r).length≤T.ae.length:=by
 have:=List.length_filter_le (p:=fun l=> @decide (Jl T D d r l) (Classical.propDecidable _)) (l:=List.range T.ae.length)
 rw[List.length_range]at this
 exact this
theorem oZ(a b:Nat)(h:a / 2=b / 2):a=b∨b=Net.flip a:=by
 unfold Net.flip
 split<;>omega
theorem lL(hv:au T=true){n m a b:Nat}(h1:gW T D n d a)(h2:gW T D m d b)(h:b=Net.flip a):dN T D d m<dN T D d n:=by
 obtain⟨x,hx,_⟩:=di hv h1.iu
 have h3:(m:Int)=(x:Int):=by rw[←h2.tail,h,←hx];rfl
 have h4:m=x:=by omega
 subst h4
 have h5:=(h1.dN hx).2
 have:=(aM hv).cost a h1.iu
 omega
theorem Bz(hv:au T=true){n:Nat}:(pr T D d (dN T D d n - 1)).length+(bz T D n d).length≤(pr T D d (dN T D d n)).length:=by
 have hnd:(pr T D d (dN T D d n - 1)++(bz T D n d).map fun a:Int=>a.toNat / 2).Nodup:=by
  refine List.nodup_append.2 ⟨rv _,?_,fun l hl l' hl' e=>?_⟩
  ·refine List.Pairwise.map (R:=fun a b:Int=>a.toNat / 2≠b.toNat / 2) _ (fun a b h=>h) (List.Pairwise.imp_of_mem (fun {a b} ha hb hab h=>?_) (yP T D n d))
   obtain⟨k,rfl,hk⟩:=cT ha
   obtain⟨j,rfl,hj⟩:=cT hb
   simp only[Int.toNat_natCast]at h
   rcases oZ k j h with h|h
   ·exact hab (by rw[h])
   ·have:=lL hv hk hj h
    omega
  ·subst e
   obtain⟨_,a,m,h2,h3,h4⟩:=kh.1 hl
   obtain⟨b,hb,hbl⟩:=List.mem_map.1 hl'
   obtain⟨k,rfl,hk⟩:=cT hb
   simp only[Int.toNat_natCast]at hbl
   rcases oZ k a (by omega)with h|h
   ·subst h
    have:=hk.tail
    rw[h3.tail]at this
    have:m=n:=by omega
    subst this
    omega
   ·rcases oZ a k (by omega)with h'|h'
    ·unfold Net.flip at h
     split at h<;>omega
    ·have:=lL hv h3 hk h'
     have h5:=lL hv hk h3 h
     omega
 have:=mJ _ (pr T D d (dN T D d n)) hnd fun l hl=>by
  rcases List.mem_append.1 hl with hl|hl
  ·obtain⟨h1,a,m,h2,h3,h4⟩:=kh.1 hl
   exact kh.2 ⟨h1,a,m,h2,h3,by omega⟩
  ·obtain⟨b,hb,hbl⟩:=List.mem_map.1 hl
   obtain⟨k,rfl,hk⟩:=cT hb
   simp only[Int.toNat_natCast]at hbl
   have:=hk.iu
   exact kh.2 ⟨by omega,k,n,by omega,hk,Int.le_refl _⟩
 rw[List.length_append,List.length_map]at this
 exact this
noncomputable def K9(T:ah)(D:List Bool)(d n:Nat)(_:List cr):Nat:=2 ^ ((pr T D d (dN T D d n)).length - 1)
theorem KY(hv:au T=true)(hf:bR T D=true)(hd:(d:Int)<T.nodes)(hp0:p0.dst=(d:Int)):Lm T (AH T D) p0 (JI T D d) (K9 T D d) where
  leaf:=fun _ _=>Nat.one_le_two_pow
  node := fun {u n s} h hne => by
    obtain⟨rfl,hn,hr,rfl⟩:=h
    by_cases hnd:n=d
    · subst hnd;exact absurd (Af hv hf hd hp0).1 hne
    · obtain⟨h1,e1⟩:=Hz (D:=D) hv hd hp0 hn hr hnd
      have har:(bT T (AH T D) p0 n []).av=bz T D n d:=by rw[e1];rfl
      rw[har]
      have hk:0<(bz T D n d).length:=List.length_pos_iff.2 h1
      refine⟨2 ^ ((pr T D d (dN T D d n - 1)).length - 1),?_,fun a ha=>?_⟩
      · have hm:=Bz (D:=D) (d:=d) (n:=n) hv
        have h2:(bz T D n d).length≤2 ^ ((bz T D n d).length - 1):=by
          have:= @Nat.lt_two_pow_self ((bz T D n d).length - 1)
          omega
        refine Nat.le_trans (Nat.mul_le_mul_right _ h2) ?_
        rw[←Nat.pow_add]
        exact Nat.pow_le_pow_right (by omega) (by omega)
      · obtain⟨k,rfl,hk⟩:=cT ha
        obtain⟨m,hm,_⟩:=di hv hk.iu
        rw[Int.toNat_natCast,hm,Int.toNat_natCast]
        obtain⟨_,c2⟩:=hk.dN hm
        have hc:=(aM hv).cost k hk.iu
        have:=G3 (T:=T) (D:=D) (d:=d) (show dN T D d m≤dN T D d n - 1 by omega)
        exact Nat.pow_le_pow_right (by omega) (by omega)
theorem Jf(h10:T.ae.length≤10)(n:Nat)(s:List cr):K9 T D d n s≤1000:=by
 unfold K9
 have:=FB (T:=T) (D:=D) (d:=d) (dN T D d n)
 exact Nat.le_trans (Nat.pow_le_pow_right (n:=2) (i:=_) (j:=9) (by omega) (by omega)) (by omega)
theorem CG(hv:au T=true)(hf:bR T D=true)(h7:T.nodes≤7)(h10:T.ae.length≤10){N:Nat}(hN:T.nodes=(N:Int))(hd:d<N){n:Nat}(hn:n<N)(hr:0≤dN T D d n):
  Can Tryz.prog 16 [aZ T,gN (kI T D N),fc ⟨0,n,d,0,[],0⟩,num n] (fun r=>∃L:List Rs,L≠[]∧L.length≤1000∧(∀q∈L,SP T D d n q.2.2∧q.2.1= -1∧q.2.2.length≤1000)∧r= .tuple [.slice L.length (p9 L),num 0]):=by
 have hdN:(d:Int)<T.nodes:=by omega
 have hrk:=qA (T:=T) (D:=D) (d:=d) (n:=n) (by omega)
 have hR:=Kx (p0:=⟨0,n,d,0,[],0⟩) hv hf hdN rfl
 refine Can.Lk (CN hR (KY hv hf hdN rfl) hv (by omega) (U:=(List.range N).map fun n=>(n,[])) (fun {u n s} h=>?_) (by simp;omega) (kI T D N) (by rw[nL];omega) (fun m hm=>?_) (fun m hm=>⟨rfl,kP hv hm⟩) (u:=jv T D d n) (n:=n) (p:=⟨0,n,d,0,[],0⟩) ⟨rfl,by omega,hr,rfl⟩ (by omega) (Jf h10 _ _) I) ?_
 ·obtain⟨rfl,hn,_,_⟩:=h
  exact List.mem_map.2 ⟨n,List.mem_range.2 (by omega),rfl⟩
 ·simp[kI,AH,show m<N by omega]
 ·rintro r ⟨L,h1,h2,h3,rfl⟩
  refine⟨L,h1,h2,fun q hq=>?_,rfl⟩
  obtain⟨hb,hl⟩:=h3 q hq
  obtain⟨i1,_,i3⟩:=C2 hv hf hdN rfl hb rfl (by omega) hr
  exact⟨i1,i3,by omega⟩
end
end PW
end Go.Proofs.YteikppbedmmdnaaGreatDoor
namespace Go.Proofs.YteikppbedmmdnaaGreatDoor
namespace Net
section
def wi(T:ah)(D:List Bool)(n a:Nat):Prop:=bF D a=false∧(aB T a=(n:Int)∨cL T (aB T a).toNat=false)
structure Ia (T₀:ah) (D₀:List Bool) (T:ah) (D:List Bool) (n:Nat) (S:Nat→Prop):Prop where
 nodes:T₀.nodes=T.nodes
 ae:T₀.ae.length=T.ae.length
 tail:∀a,a<2*T.ae.length→aN T₀ a=aN T a
 head:∀a,a<2*T.ae.length→aB T₀ a=aB T a
 same:∀a,a<2*T.ae.length→¬S a→(wi T₀ D₀ n a↔wi T D n a)∧bS T₀ a=bS T a
def IE(T:ah)(D:List Bool)(n:Nat)(out:List Int)(a:Nat)(v:Int):Prop:=wi T D n a∧0≤at' out (aB T a)∧at' out (aB T a)+bS T a≤v
structure vP (T:ah) (D:List Bool) (n:Nat) (out:List Int) (lost H:Nat→Prop) (done:List Int) (b:Int) (S:Nat→Prop):Prop where
 np:(done.length:Int)=T.nodes
 held:∀y,H y→(y:Int)<T.nodes∧y≠n∧0≤at' out (y:Int)∧b≤at' out (y:Int)∧at' done (y:Int)<0
 gone:∀y,lost y→(y:Int)<T.nodes∧y≠n
 rh:∀y:Nat,(y:Int)<T.nodes→0≤at' done (y:Int)→at' out (y:Int)≤b
 sup:∀x:Nat,(x:Int)<T.nodes→x≠n→0≤at' out (x:Int)→¬lost x→H x∨∃a,a<2*T.ae.length∧aN T a=(x:Int)∧IE T D n out a (at' out (x:Int))∧(¬lost (aB T a).toNat∨S a)
theorem CB{T₀ T:ah}{D₀ D:List Bool}{n N:Nat}{S:Nat→Prop}(h2:Ia T₀ D₀ T D n S)(hT:Sound T)(hN:(N:Int)=T.nodes){out:List Int}(hd:eJ T₀ D₀ n false out){H:Nat→Prop}
  (hH:∀y,H y→(y:Int)<T.nodes∧y≠n∧0≤at' out (y:Int)) (hS:∀a (x:Nat),S a→a<2*T.ae.length→aN T a=(x:Int)→x≠n→0≤at' out (x:Int)→H x):
  vP T D n out (fun _=>False) H (List.replicate N (-1)) 0 (fun _=>False) where
 np:=by simpa using hN
 held y hy:=by
  obtain⟨h1,h3,h4⟩:=hH y hy
  exact⟨h1,h3,h4,h4,by rw[lI];omega⟩
 gone y hy:=hy.elim
 rh y hy h:=by rw[lI]at h;omega
 sup x hx hxn h0 _:=by
  rcases hd.jh x (by rw[h2.nodes];exact hx) h0 with e|⟨a,ha,hax,hw,he⟩
  ·exact absurd e hxn
  ·rw[h2.ae]at ha
   have hax':aN T a=(x:Int):=by rw[←h2.tail a ha];exact hax
   by_cases hs:S a
   ·exact .inl (hS a x hs ha hax' hxn h0)
   ·right
    obtain⟨k1,k2⟩:=h2.same a ha hs
    refine⟨a,ha,hax',⟨k1.1 ⟨hw.1,hw.2.2⟩,?_,?_⟩,.inl id⟩
    ·rw[←h2.head a ha];exact hw.2.1
    ·rw[←h2.head a ha,←k2]
     show at' out (cz T₀ false a)+bS T₀ a≤_
     omega
theorem Ey{T:ah}{D:List Bool}{n:Nat}{out:List Int}{lost H H':Nat→Prop}{done:List Int}{b:Int}(h:vP T D n out lost H done b (fun _=>False)){i:Nat}(hi:H i)(hmin:∀j,H j→at' out (i:Int)≤at' out (j:Int))(hH':∀j,H' j↔H j∧j≠i)
  {a:Nat} (ha:a<2*T.ae.length) (hat:aN T a=(i:Int)) (hs:IE T D n out a (at' out (i:Int))) (hl:¬lost (aB T a).toNat):
  vP T D n out lost H' (done.set i 0) (at' out (i:Int)) (fun _=>False)∧fL (done.set i 0)=fL done+1:=by
 obtain⟨hiN,hin,hi0,hib,hid⟩:=h.held i hi
 have hil:i<done.length:=by have:=h.np;omega
 have hat':=fun x:Nat=>nE done i x 0 hil
 refine⟨⟨by simpa using h.np,fun y hy=>?_,h.gone,fun y hy h0=>?_,fun x hx hxn h0 hxl=>?_⟩,?_⟩
 ·obtain⟨h1,h2⟩:=(hH' y).1 hy
  obtain⟨k1,k2,k3,k4,k5⟩:=h.held y h1
  exact⟨k1,k2,k3,hmin y h1,by rw[hat' y,if_neg h2];exact k5⟩
 ·rw[hat' y]at h0
  by_cases e:y=i
  ·subst e;exact Int.le_refl _
  ·rw[if_neg e]at h0;have:=h.rh y hy h0;omega
 ·by_cases e:x=i
  ·subst e;exact .inr ⟨a,ha,hat,hs,.inl hl⟩
  ·rcases h.sup x hx hxn h0 hxl with h1|⟨c,h1,h3,h4,h5⟩
   ·exact .inl ((hH' x).2 ⟨h1,e⟩)
   ·exact .inr ⟨c,h1,h3,h4,h5⟩
 ·rw[kS done i 0 hil (by omega),if_neg]
  have:done.getD i (-1)=at' done (i:Int):=by simp[at']
  rw[this];omega
theorem DZ{T:ah}{D:List Bool}{n:Nat}{out:List Int}{lost lost' H H':Nat→Prop}{done:List Int}{b:Int}(hT:Sound T)(h:vP T D n out lost H done b (fun _=>False)){i:Nat}(hi:H i)(hmin:∀j,H j→at' out (i:Int)≤at' out (j:Int))(hH':∀j,H' j↔H j∧j≠i)
  (hl:∀j,lost' j↔lost j∨j=i):
  vP T D n out lost' H' (done.set i 0) (at' out (i:Int)) (fun a=>aB T a=(i:Int))∧fL (done.set i 0)=fL done+1:=by
 obtain⟨hiN,hin,hi0,hib,hid⟩:=h.held i hi
 have hil:i<done.length:=by have:=h.np;omega
 have hat':=fun x:Nat=>nE done i x 0 hil
 refine⟨⟨by simpa using h.np,fun y hy=>?_,fun y hy=>?_,fun y hy h0=>?_,fun x hx hxn h0 hxl=>?_⟩,?_⟩
 ·obtain⟨h1,h2⟩:=(hH' y).1 hy
  obtain⟨k1,k2,k3,k4,k5⟩:=h.held y h1
  exact⟨k1,k2,k3,hmin y h1,by rw[hat' y,if_neg h2];exact k5⟩
 ·rcases(hl y).1 hy with h1|rfl
  ·exact h.gone y h1
  ·exact⟨hiN,hin⟩
 ·rw[hat' y]at h0
  by_cases e:y=i
  ·subst e;exact Int.le_refl _
  ·rw[if_neg e]at h0;have:=h.rh y hy h0;omega
 ·have hxi:x≠i:=fun e=>hxl ((hl x).2 (.inr e))
  rcases h.sup x hx hxn h0 (fun e=>hxl ((hl x).2 (.inl e)))with h1|⟨c,h1,h3,h4,h5⟩
  ·exact .inl ((hH' x).2 ⟨h1,hxi⟩)
  ·refine .inr ⟨c,h1,h3,h4,?_⟩
   have h6:=h5.resolve_right id
   by_cases e:(aB T c).toNat=i
   ·right
    have:=(hT.head c h1).1
    omega
   ·exact .inl fun hh=>((hl _).1 hh).elim h6 e
 ·rw[kS done i 0 hil (by omega),if_neg]
  have:done.getD i (-1)=at' done (i:Int):=by simp[at']
  rw[this];omega
theorem Az{T:ah}{D:List Bool}{n:Nat}{out:List Int}{lost H H':Nat→Prop}{done:List Int}{S S':Nat→Prop}{i:Nat}(hT:Sound T)(h:vP T D n out lost H done (at' out (i:Int)) S){a m:Nat}(ha:a<2*T.ae.length)(hah:aB T a=(i:Int))(hm:aN T a=(m:Int))
  (hS:∀c,c<2*T.ae.length→S c→S' c∨c=a) (hH':∀j,H' j↔H j∨(j=m∧m≠n∧at' out (i:Int)<at' out (m:Int))) (h0:0≤at' out (i:Int)):vP T D n out lost H' done (at' out (i:Int)) S':=by
 have hmN:(m:Int)<T.nodes:=by have:=(hT.tail a ha).2;omega
 refine⟨h.np,fun y hy=>?_,h.gone,h.rh,fun x hx hxn hx0 hxl=>?_⟩
 ·rcases(hH' y).1 hy with h1|⟨rfl,h2,h3⟩
  ·exact h.held y h1
  ·refine⟨hmN,h2,by omega,by omega,?_⟩
   exact Classical.byContradiction fun h4=>by have:=h.rh y hmN (by omega);omega
 ·rcases h.sup x hx hxn hx0 hxl with h1|⟨c,h1,h3,h4,h5⟩
  ·exact .inl ((hH' x).2 (.inl h1))
  ·rcases h5 with h5|h5
   ·exact .inr ⟨c,h1,h3,h4,.inl h5⟩
   ·rcases hS c h1 h5 with h6|rfl
    ·exact .inr ⟨c,h1,h3,h4,.inr h6⟩
    ·left
     have hxm:x=m:=by rw[hm]at h3;omega
     subst hxm
     have:=h4.2.2
     rw[hah]at this
     have:=hT.cost c h1
     exact(hH' x).2 (.inr ⟨rfl,hxn,by omega⟩)
theorem Av{T:ah}{D:List Bool}{n:Nat}{out:List Int}{lost H:Nat→Prop}{done:List Int}{b:Int}{S S':Nat→Prop}(h:vP T D n out lost H done b S)(hS:∀c,c<2*T.ae.length→S c→S' c):vP T D n out lost H done b S':=
 ⟨h.np,h.held,h.gone,h.rh,fun x hx hxn h0 hl=>(h.sup x hx hxn h0 hl).imp id fun⟨a,h1,h2,h3,h4⟩=>⟨a,h1,h2,h3,h4.imp id (hS a h1)⟩⟩
def Cut(lost:Nat→Prop)(out out':List Int):Prop:=out'.length=out.length∧∀x:Nat,x<out.length→(lost x→at' out' (x:Int)= -1)∧(¬lost x→at' out' (x:Int)=at' out (x:Int))
structure ud (T:ah) (D:List Bool) (n:Nat) (out K:List Int) (H:Nat→Prop) (done:List Int) (b:Int) (S:Nat→Prop):Prop where
 len:(out.length:Int)=T.nodes
 np:(done.length:Int)=T.nodes
 root:at' out (n:Int)=0
 ge:∀x:Nat,(x:Int)<T.nodes→ -1≤at' out (x:Int)
 held:∀y,H y→(y:Int)<T.nodes∧y≠n∧at' done (y:Int)<0∧0≤K.getD y 0∧b≤K.getD y 0∧(at' out (y:Int)<0∨K.getD y 0<at' out (y:Int))
 rh:∀y:Nat,(y:Int)<T.nodes→0≤at' done (y:Int)→0≤at' out (y:Int)∧at' out (y:Int)≤b
 jJ:∀y,H y→∃a,a<2*T.ae.length∧aN T a=(y:Int)∧IE T D n out a (K.getD y 0)
 jh:∀x:Nat,(x:Int)<T.nodes→0≤at' out (x:Int)→x=n∨∃a,a<2*T.ae.length∧aN T a=(x:Int)∧IE T D n out a (at' out (x:Int))
 yr:∀a,a<2*T.ae.length→¬S a→wi T D n a→0≤at' out (aB T a)→aN T a≠(n:Int)→
  (0≤at' out (aN T a)∧at' out (aN T a)≤at' out (aB T a)+bS T a)∨(H (aN T a).toNat∧K.getD (aN T a).toNat 0≤at' out (aB T a)+bS T a)
 ub:∀x:Nat,(x:Int)<T.nodes→at' out (x:Int)≤4194240+65535*(fL done:Int)
 AF:∀y,H y→K.getD y 0≤4194240+65535*(fL done+1:Int)
theorem B5{T₀ T:ah}{D₀ D:List Bool}{n N:Nat}{S:Nat→Prop}(h2:Ia T₀ D₀ T D n S)(hT:Sound T)(hN:(N:Int)=T.nodes)(hn:n<N){out out1:List Int}(hd:eJ T₀ D₀ n false out)(hub:∀x:Nat,(x:Int)<T.nodes→at' out (x:Int)≤4194240){lost:Nat→Prop}{done:List Int}{b:Int}
  (hl:vP T D n out lost (fun _=>False) done b (fun _=>False)) (hc:Cut lost out out1) {K:List Int} {H:Nat→Prop} (hH:∀y,¬H y):
  ud T D n out1 K H (List.replicate N (-1)) 0 (fun a=>lost (aN T a).toNat∨∃c,S c∧c<2*T.ae.length∧aN T c=aN T a):=by
 have hlen:(out.length:Int)=T.nodes:=by rw[hd.len,h2.nodes]
 have hc2:=hc.2
 have hnl:¬lost n:=fun h=>(hl.gone n h).2 rfl
 have val:∀x:Nat,(x:Int)<T.nodes→0≤at' out1 (x:Int)→¬lost x∧at' out1 (x:Int)=at' out (x:Int):=fun x hx h0=>by
  by_cases e:lost x
  ·have:=(hc2 x (by omega)).1 e;omega
  ·exact⟨e,(hc2 x (by omega)).2 e⟩
 refine⟨by rw[hc.1];exact hlen,by simpa using hN,?_,fun x hx=>?_,fun y hy=>(hH y hy).elim,fun y hy h0=>by rw[lI]at h0;omega,fun y hy=>(hH y hy).elim,fun x hx h0=>?_,fun a ha hs hu h0 hne=>?_,fun x hx=>?_,fun y hy=>(hH y hy).elim⟩
 ·rw[(hc2 n (by omega)).2 hnl];exact hd.root
 ·by_cases e:lost x
  ·rw[(hc2 x (by omega)).1 e];omega
  ·rw[(hc2 x (by omega)).2 e];exact hd.ge x (by rw[h2.nodes];exact hx)
 ·by_cases hxn:x=n
  ·exact .inl hxn
  ·obtain⟨hxl,hxe⟩:=val x hx h0
   rw[hxe]at h0 ⊢
   rcases hl.sup x hx hxn h0 hxl with h1|⟨a,ha,hax,⟨k1,k2,k3⟩,k4⟩
   ·exact h1.elim
   ·right
    obtain⟨y,hy⟩:=Int.eq_ofNat_of_zero_le (hT.head a ha).1
    have hyN:=(hT.head a ha).2
    have k5:=k4.resolve_right id
    rw[hy,Int.toNat_natCast]at k5
    have hye:at' out1 (aB T a)=at' out (aB T a):=by rw[hy];exact(hc2 y (by omega)).2 k5
    exact⟨a,ha,hax,k1,by rw[hye];exact k2,by rw[hye];exact k3⟩
 ·left
  obtain⟨x,hx⟩:=Int.eq_ofNat_of_zero_le (hT.tail a ha).1
  obtain⟨y,hy⟩:=Int.eq_ofNat_of_zero_le (hT.head a ha).1
  have hxN:=(hT.tail a ha).2
  have hyN:=(hT.head a ha).2
  have hxl:¬lost x:=fun e=>hs (.inl (by rw[hx,Int.toNat_natCast];exact e))
  have hsa:¬S a:=fun e=>hs (.inr ⟨a,e,ha,rfl⟩)
  rw[hy]at h0 hyN
  rw[hx]at hxN
  obtain⟨hyl,hye⟩:=val y hyN h0
  obtain⟨k1,k2⟩:=h2.same a ha hsa
  have hu0:=k1.2 hu
  have hcl:=hd.closed a (by rw[h2.ae];exact ha) ⟨hu0.1,by show 0≤at' out (aB T₀ a);rw[h2.head a ha,hy];omega,hu0.2⟩
  have e1:eK T₀ false a=(x:Int):=by show aN T₀ a=_;rw[h2.tail a ha,hx]
  have e2:cz T₀ false a=(y:Int):=by show aB T₀ a=_;rw[h2.head a ha,hy]
  rw[e1,e2,k2]at hcl
  rw[hx,hy,(hc2 x (by omega)).2 hxl,hye]
  exact hcl
 ·rw[uP]
  by_cases e:lost x
  ·rw[(hc2 x (by omega)).1 e];omega
  ·rw[(hc2 x (by omega)).2 e];have:=hub x hx;omega
theorem kA{T:ah}{D:List Bool}{n:Nat}{out K:List Int}{H:Nat→Prop}{done:List Int}{b:Int}{S S':Nat→Prop}(h:ud T D n out K H done b S)(hS:∀c,c<2*T.ae.length→S c→S' c):ud T D n out K H done b S':=
 {h with yr:=fun a ha hs=>h.yr a ha (fun e=>hs (hS a ha e))}
inductive sQ (n:Nat) (out K:List Int) (H:Nat→Prop) (m:Nat) (v:Int):List Int→(Nat→Prop)→Prop
 |none (h:m=n∨v<0∨(0≤at' out (m:Int)∧at' out (m:Int)≤v)):sQ n out K H m v K H
 |D9 (h:H m) (hk:K.getD m 0≤v):sQ n out K H m v K H
 |new {H':Nat→Prop} (h1:m≠n) (h2:0≤v) (h3:at' out (m:Int)<0∨v<at' out (m:Int)) (h4:H m→v<K.getD m 0) (hm:m<K.length) (hH:∀j,H' j↔H j∨j=m):sQ n out K H m v (K.set m v) H'
theorem sL{T:ah}{D:List Bool}{n:Nat}{out K K':List Int}{H H':Nat→Prop}{done:List Int}{b:Int}{S S':Nat→Prop}(hT:Sound T)(h:ud T D n out K H done b S){m:Nat}{v:Int}(hmN:(m:Int)<T.nodes)(ho:sQ n out K H m v K' H')
  (hS:∀c,c<2*T.ae.length→S c→S' c∨(aN T c=(m:Int)∧(wi T D n c→0≤at' out (aB T c)→0≤v∧v≤at' out (aB T c)+bS T c)))
  (hv:0≤v→b≤v∧v≤4194240+65535*(fL done+1:Int)∧∃a,a<2*T.ae.length∧aN T a=(m:Int)∧IE T D n out a v):ud T D n out K' H' done b S':=by
 cases ho with
 |none ho=>
  refine {h with yr:=fun a ha hs hu h0 hne=>?_}
  by_cases e:S a
  ·rcases hS a ha e with h1|⟨h1,h2⟩
   ·exact absurd h1 hs
   ·obtain⟨h3,h4⟩:=h2 hu h0
    rw[h1]at hne ⊢
    rcases ho with ho|ho|ho
    ·subst ho;exact absurd rfl hne
    ·omega
    ·exact .inl ⟨ho.1,by omega⟩
  ·exact h.yr a ha e hu h0 hne
 |D9 hh hk=>
  refine {h with yr:=fun a ha hs hu h0 hne=>?_}
  by_cases e:S a
  ·rcases hS a ha e with h1|⟨h1,h2⟩
   ·exact absurd h1 hs
   ·obtain⟨h3,h4⟩:=h2 hu h0
    rw[h1,Int.toNat_natCast]
    exact .inr ⟨hh,by omega⟩
  ·exact h.yr a ha e hu h0 hne
 |new h1 h2 h3 h4 hm hH=>
  obtain⟨hv1,hv2,hv3⟩:=hv h2
  have hK:∀j,(K.set m v).getD j 0=if j=m then v else K.getD j 0:=fun j=>vz _ _ _ _ hm
  refine⟨h.len,h.np,h.root,h.ge,fun y hy=>?_,h.rh,fun y hy=>?_,h.jh,fun a ha hs hu h0 hne=>?_,h.ub,fun y hy=>?_⟩
  ·rw[hK y]
   by_cases e:y=m
   ·subst e
    rw[if_pos rfl]
    refine⟨hmN,h1,?_,h2,hv1,h3⟩
    exact Classical.byContradiction fun k=>by have:=h.rh y hmN (by omega);omega
   ·rw[if_neg e]
    exact h.held y (((hH y).1 hy).resolve_right e)
  ·rw[hK y]
   by_cases e:y=m
   ·subst e;rw[if_pos rfl];exact hv3
   ·rw[if_neg e]
    exact h.jJ y (((hH y).1 hy).resolve_right e)
  ·by_cases e:S a
   ·rcases hS a ha e with k1|⟨k1,k2⟩
    ·exact absurd k1 hs
    ·right
     rw[k1,Int.toNat_natCast,hK m,if_pos rfl]
     exact⟨(hH m).2 (.inr rfl),(k2 hu h0).2⟩
   ·rcases h.yr a ha e hu h0 hne with k|⟨k1,k2⟩
    ·exact .inl k
    ·right
     refine⟨(hH _).2 (.inl k1),?_⟩
     rw[hK]
     split
     ·rename_i e'
      rw[e']at k1 k2
      have:=h4 k1
      omega
     ·exact k2
  ·rw[hK y]
   split
   ·exact hv2
   ·rename_i e
    exact h.AF y (((hH y).1 hy).resolve_right e)
theorem G7{T:ah}{D:List Bool}{n:Nat}{out K:List Int}{H H':Nat→Prop}{done:List Int}{b:Int}(hT:Sound T)(h:ud T D n out K H done b (fun _=>False)){i:Nat}(hi:H i)(hmin:∀j,H j→K.getD i 0≤K.getD j 0)(hKl:i<K.length)(hH':∀j,H' j↔H j∧j≠i):
  ud T D n (out.set i (K.getD i 0)) (K.set i 0) H' (done.set i 0) (K.getD i 0) (fun a=>aB T a=(i:Int))∧fL (done.set i 0)=fL done+1∧at' (out.set i (K.getD i 0)) (i:Int)=K.getD i 0∧0≤K.getD i 0∧K.getD i 0≤4194240+65535*(fL done+1:Int)∧fL done<done.length:=by
 obtain⟨hiN,hin,hid,hi0,hib,hio⟩:=h.held i hi
 have hil:i<out.length:=by have:=h.len;omega
 have hidl:i<done.length:=by have:=h.np;omega
 have hat:=fun x:Nat=>nE out i x (K.getD i 0) hil
 have had:=fun x:Nat=>nE done i x 0 hidl
 have hK:∀j,j≠i→(K.set i 0).getD j 0=K.getD j 0:=fun j hj=>by rw[vz _ _ _ _ hKl,if_neg hj]
 have hcnt:fL (done.set i 0)=fL done+1:=by
  rw[kS done i 0 hidl (by omega),if_neg]
  have:done.getD i (-1)=at' done (i:Int):=by simp[at']
  rw[this];omega
 have less:∀x:Nat,0≤at' out (x:Int)→0≤at' (out.set i (K.getD i 0)) (x:Int)∧at' (out.set i (K.getD i 0)) (x:Int)≤at' out (x:Int):=fun x hx=>by
  rw[hat x]
  split
  ·rename_i e;subst e;omega
  ·omega
 have sup:∀a v,a<2*T.ae.length→IE T D n out a v→IE T D n (out.set i (K.getD i 0)) a v:=fun a v ha ⟨k1,k2,k3⟩=>by
  obtain⟨y,hy⟩:=Int.eq_ofNat_of_zero_le (hT.head a ha).1
  rw[hy]at k2 k3
  have:=less y k2
  exact⟨k1,by rw[hy];exact this.1,by rw[hy];omega⟩
 refine⟨⟨by simpa using h.len,by simpa using h.np,?_,fun x hx=>?_,fun y hy=>?_,fun y hy h0=>?_,fun y hy=>?_,fun x hx h0=>?_,fun a ha hs hu h0 hne=>?_,fun x hx=>?_,fun y hy=>?_⟩,hcnt,by rw[hat i,if_pos rfl],hi0,h.AF i hi,?_⟩
 ·rw[hat n,if_neg (Ne.symm hin)];exact h.root
 ·rw[hat x];split
  ·omega
  ·exact h.ge x hx
 ·obtain⟨h1,h2⟩:=(hH' y).1 hy
  obtain⟨k1,k2,k3,k4,k5,k6⟩:=h.held y h1
  rw[hK y h2,had y,if_neg h2,hat y,if_neg h2]
  exact⟨k1,k2,k3,k4,hmin y h1,k6⟩
 ·rw[had y]at h0
  rw[hat y]
  by_cases e:y=i
  ·rw[if_pos e];omega
  ·rw[if_neg e]at h0 ⊢
   have:=h.rh y hy h0;omega
 ·obtain⟨h1,h2⟩:=(hH' y).1 hy
  rw[hK y h2]
  obtain⟨a,k1,k2,k3⟩:=h.jJ y h1
  exact⟨a,k1,k2,sup a _ k1 k3⟩
 ·rw[hat x]at h0 ⊢
  by_cases e:x=i
  ·subst e
   rw[if_pos rfl]
   obtain⟨a,k1,k2,k3⟩:=h.jJ x hi
   exact .inr ⟨a,k1,k2,sup a _ k1 k3⟩
  ·rw[if_neg e]at h0 ⊢
   exact(h.jh x hx h0).imp id fun⟨a,k1,k2,k3⟩=>⟨a,k1,k2,sup a _ k1 k3⟩
 ·obtain⟨y,hy⟩:=Int.eq_ofNat_of_zero_le (hT.head a ha).1
  obtain⟨x,hx⟩:=Int.eq_ofNat_of_zero_le (hT.tail a ha).1
  have hyi:y≠i:=fun e=>hs (by rw[hy,e])
  have hye:at' (out.set i (K.getD i 0)) (aB T a)=at' out (aB T a):=by rw[hy,hat y,if_neg hyi]
  rw[hye]at h0 ⊢
  have h1:=h.yr a ha id hu h0 hne
  rw[hx,Int.toNat_natCast]at h1 ⊢
  rw[hat x]
  by_cases e:x=i
  ·subst e
   left
   rw[if_pos rfl]
   refine⟨hi0,?_⟩
   rcases h1 with h1|h1
   ·omega
   ·exact h1.2
  ·rw[if_neg e]
   rcases h1 with h1|⟨h1,h3⟩
   ·exact .inl h1
   ·exact .inr ⟨(hH' x).2 ⟨h1,e⟩,by rw[hK x e];exact h3⟩
 ·rw[hat x,hcnt]
  split
  ·have:=h.AF i hi;omega
  ·have:=h.ub x hx;omega
 ·obtain⟨h1,h2⟩:=(hH' y).1 hy
  rw[hK y h2,hcnt]
  have:=h.AF y h1;omega
 ·have:=gZ (done.set i 0)
  rw[List.length_set]at this
  omega
theorem Hp{T:ah}{D:List Bool}{n:Nat}{out K:List Int}{H:Nat→Prop}{done:List Int}{b:Int}(hT:Sound T)(h:ud T D n out K H done b (fun _=>False))(hH:∀y,¬H y):eJ T D n false out:=by
 have closed:∀a,a<2*T.ae.length→Way T D n false out a→0≤at' out (eK T false a)∧at' out (eK T false a)≤at' out (cz T false a)+bS T a:=fun a ha hw=>by
  by_cases e:aN T a=(n:Int)
  ·have h1:eK T false a=(n:Int):=e
   have:=hT.cost a ha
   have:=hw.2.1
   rw[h1,h.root]
   omega
  ·exact(h.yr a ha id ⟨hw.1,hw.2.2⟩ hw.2.1 e).resolve_right fun k=>hH _ k.1
 refine⟨h.len,h.root,h.ge,closed,fun x hx h0=>(h.jh x hx h0).imp id fun⟨a,ha,hax,k1,k2,k3⟩=>?_⟩
 have hw:Way T D n false out a:=⟨k1.1,k2,k1.2⟩
 refine⟨a,ha,hax,hw,?_⟩
 have:=closed a ha hw
 have e1:eK T false a=(x:Int):=hax
 rw[e1]at this
 have e2:cz T false a=aB T a:=rfl
 rw[e2]at this ⊢
 omega
def jt.cost(l:jt)(k:Nat)(c:Int):jt:=if k=0 then {l with c0:=c} else {l with c1:=c}
def dt(T:ah)(a:Nat)(c:Int):ah:= {T with ae:=T.ae.set (a / 2) ((cw T.ae (a / 2)).cost (a % 2) c)}
def cq(T:ah)(n:Nat)(b:Bool):ah:= {T with over:=T.over.set n b}
theorem AT(L:List jt)(i j:Nat)(l:jt)(hi:i<L.length):cw (L.set i l) j=if j=i then l else cw L j:=by
 unfold cw
 by_cases h:j=i
 ·subst h;simp[List.getD_eq_getElem?_getD,hi]
 ·simp[List.getD_eq_getElem?_getD,List.getElem?_set,Ne.symm h,h]
theorem FC(l:jt)(k:Nat)(c:Int):(l.cost k c).a=l.a∧(l.cost k c).b=l.b:=by unfold jt.cost;split<;>exact⟨rfl,rfl⟩
theorem nJ(T:ah)(a b:Nat)(c:Int)(ha:a<2*T.ae.length):aN (dt T a c) b=aN T b:=by
 unfold aN dt
 simp only[AT T.ae (a / 2) (b / 2) _ (by omega)]
 by_cases h:b / 2=a / 2
 ·rw[if_pos h,(FC _ _ _).1,(FC _ _ _).2,h]
 ·rw[if_neg h]
theorem oa(T:ah)(a b:Nat)(c:Int)(ha:a<2*T.ae.length):aB (dt T a c) b=aB T b:=nJ T a (flip b) c ha
theorem vF(T:ah)(a b:Nat)(c:Int)(ha:a<2*T.ae.length)(h:b≠a):bS (dt T a c) b=bS T b:=by
 unfold bS dt
 simp only[AT T.ae (a / 2) (b / 2) _ (by omega)]
 by_cases h2:b / 2=a / 2
 ·rw[if_pos h2,h2]
  unfold jt.cost
  rcases Nat.mod_two_eq_zero_or_one a with e|e<;>rcases Nat.mod_two_eq_zero_or_one b with e'|e'<;>simp[e,e']<;>omega
 ·rw[if_neg h2]
theorem sq{T:ah}(h:au T=true)(a:Nat)(c:Int)(ha:a<2*T.ae.length)(hc:1≤c∧c≤65535):au (dt T a c)=true:=by
 unfold au at h ⊢
 simp only[Bool.and_eq_true]at h ⊢
 obtain⟨⟨⟨h1,h2⟩,h3⟩,h4⟩:=h
 refine⟨⟨⟨h1,by simpa[dt]using h2⟩,h3⟩,?_⟩
 rw[List.all_eq_true]at h4 ⊢
 intro l hl
 have hl':fU (dt T a c) l=fU T l:=rfl
 rw[hl']
 rcases List.mem_or_eq_of_mem_set hl with h5|h5
 ·exact h4 l h5
 ·subst h5
  have h6:=h4 (cw T.ae (a / 2)) (by simp[cw,show a / 2<T.ae.length by omega])
  have hw:bU c 1 65535=true:=decide_eq_true hc
  unfold fU at h6 ⊢
  simp only[Bool.and_eq_true]at h6 ⊢
  obtain⟨⟨⟨⟨⟨⟨⟨k1,k2⟩,k3⟩,k4⟩,k5⟩,k6⟩,k7⟩,k8⟩:=h6
  unfold jt.cost
  split
  ·exact⟨⟨⟨⟨⟨⟨⟨k1,k2⟩,k3⟩,hw⟩,k5⟩,k6⟩,k7⟩,k8⟩
  ·exact⟨⟨⟨⟨⟨⟨⟨k1,k2⟩,k3⟩,k4⟩,hw⟩,k6⟩,k7⟩,k8⟩
theorem sw{T:ah}(h:au T=true)(n:Nat)(b:Bool):au (cq T n b)=true:=by
 unfold au at h ⊢
 simp only[Bool.and_eq_true]at h ⊢
 obtain⟨⟨⟨h1,h2⟩,h3⟩,h4⟩:=h
 exact⟨⟨⟨h1,h2⟩,by simpa[cq]using h3⟩,h4⟩
theorem xM{T:ah}{D:List Bool}{d a:Nat}{c:Int}(ha:a<2*T.ae.length):Ia T D (dt T a c) D d (fun x=>x=a) where
 nodes:=rfl
 ae:=by simp[dt]
 tail b _:=(nJ T a b c ha).symm
 head b _:=(oa T a b c ha).symm
 same b hb h:=by
  refine⟨?_,(vF T a b c ha h).symm⟩
  unfold wi
  rw[oa T a b c ha]
  rfl
theorem xx{T:ah}{D:List Bool}{d a:Nat}{b:Bool}:Ia T D T (D.set a b) d (fun x=>x=a) where
 nodes:=rfl
 ae:=rfl
 tail _ _:=rfl
 head _ _:=rfl
 same x hx h:=by
  refine⟨?_,rfl⟩
  unfold wi bF
  rw[List.getD_eq_getElem?_getD,List.getD_eq_getElem?_getD,List.getElem?_set,if_neg (Ne.symm h)]
theorem xq{T:ah}{D:List Bool}{d n:Nat}{b:Bool}(hS:Sound T):Ia T D (cq T n b) D d (fun x=>aB T x=(n:Int)) where
 nodes:=rfl
 ae:=rfl
 tail _ _:=rfl
 head _ _:=rfl
 same x hx h:=by
  refine⟨?_,rfl⟩
  have hx':x<2*T.ae.length:=hx
  have h0:=(hS.head x hx').1
  have hne:n≠(aB T x).toNat:=fun e=>h (by omega)
  have e1:aB (cq T n b) x=aB T x:=rfl
  have e2:cL (cq T n b) (aB T x).toNat=cL T (aB T x).toNat:=by
   unfold cL cq
   rw[List.getD_eq_getElem?_getD,List.getD_eq_getElem?_getD,List.getElem?_set,if_neg hne]
  unfold wi
  rw[e1,e2]
theorem lC{T:ah}{a:Int}:dS T a=true↔0≤a∧a<2*(T.ae.length:Int):=by simp[dS]
def ly(T:ah)(a c:Int):Int:=if dS T a then(if c<1∨65535<c then 1 else 0) else 2
def iA(T:ah)(a c:Int):ah:=if ly T a c=0 then dt T a.toNat c else T
def rG(T:ah)(a:Int):Int:=if dS T a then 0 else 2
def kb(T:ah)(D:List Bool)(a:Int)(b:Bool):List Bool:=if dS T a then D.set a.toNat b else D
def rX(T:ah)(n:Int):Int:=if bH T n then 0 else 2
def jm(T:ah)(n:Int)(b:Bool):ah:=if bH T n then cq T n.toNat b else T
end
end Net
end Go.Proofs.YteikppbedmmdnaaGreatDoor
namespace Go.Proofs.YteikppbedmmdnaaGreatDoor
namespace PW
section
open Go.RowKit cj Mem
def un:List Nat→bN→Nat→Bool
 |j::fs,some _::σ,i=> !(Nat.beq j i)&&un fs σ i
 |_::fs,none::σ,i=>un fs σ i
 |_,_,_=>true
theorem Em:∀ {fs:List Nat} {σ:bN} {k i:Nat} {b:cK},fs[k]? =some i→σ[k]? =some (some b)→un fs σ i=false
 | [],_,k,i,b,h,_=>by simp at h
 |_::_,[],k,i,b,_,h=>by simp at h
 |j::fs,some c::σ,0,i,b,h1,h2=>by
  simp at h1
  subst h1
  simp[un,Nat.beq_refl]
 |j::fs,none::σ,0,i,b,h1,h2=>by simp at h2
 |j::fs,some c::σ,k+1,i,b,h1,h2=>by
  have:=Em (fs:=fs) (σ:=σ) (k:=k) (i:=i) (b:=b) (by simpa using h1) (by simpa using h2)
  simp[un,this]
 |j::fs,none::σ,k+1,i,b,h1,h2=>Em (fs:=fs) (σ:=σ) (k:=k) (i:=i) (b:=b) (by simpa using h1) (by simpa using h2)
inductive Vw (σ:bN) (fs:List Nat) (u:Nat→Bool):PV→PV→Prop
 |pure {p:PV} [IsPure p]:Vw σ fs u p p
 |cc:Vw σ fs u (.raw (.slice none 0 0)) (.slice 0 [])
 |own {i k:Nat}:fs[k]? =some i→Vw σ fs u (.own i) (.own k)
 |ptr {i k o:Nat}:fs[k]? =some i→Vw σ fs u (.ptr i o) (.ptr k o)
 |Kb {i e s n:Nat} {xs ys:List PV} (h:σ[i]? =some (some (.row e s n xs))) (hi:u i=true) (hl:xs.length=ys.length) (hs:∀(j:Nat) x y,xs[j]? =some x→ys[j]? =some y→Vw σ fs u x y):Vw σ fs u (.own i) (.slice n ys)
 |J1 {i k:Nat} {blk:cK} {ys:List PV} (h:σ[i]? =some (some blk)) (hi:u i=true) (hl:blk.xs.length=ys.length) (hs:∀(j:Nat) x y,blk.xs[j]? =some x→ys[j]? =some y→Vw σ fs u x y):Vw σ fs u (.ptr i k) (.bg ys k)
 |agg {xs ys:List PV} (hl:xs.length=ys.length) (hs:∀(j:Nat) x y,xs[j]? =some x→ys[j]? =some y→Vw σ fs u x y):Vw σ fs u (.agg xs) (.agg ys)
 |tuple {xs ys:List PV} (hl:xs.length=ys.length) (hs:∀(j:Nat) x y,xs[j]? =some x→ys[j]? =some y→Vw σ fs u x y):Vw σ fs u (.tuple xs) (.tuple ys)
 |func {f:FuncId} {xs ys:List PV} (hl:xs.length=ys.length) (hs:∀(j:Nat) x y,xs[j]? =some x→ys[j]? =some y→Vw σ fs u x y):Vw σ fs u (.func f xs) (.func f ys)
def fm(σ:bN)(fs:List Nat)(u:Nat→Bool)(xs ys:List PV):Prop:=xs.length=ys.length∧∀(j:Nat) x y,xs[j]? =some x→ys[j]? =some y→Vw σ fs u x y
section
variable {σ:bN} {fs:List Nat} {u:Nat→Bool}
theorem fm.nil:fm σ fs u [] []:=⟨rfl,fun j x y h=>by simp at h⟩
theorem fm.cons{x y:PV}{xs ys:List PV}(h:Vw σ fs u x y)(hs:fm σ fs u xs ys):fm σ fs u (x::xs) (y::ys):=⟨by simp[hs.1],fun j a b h1 h2=>by
 cases j with
 |zero=>simp at h1 h2;subst h1;subst h2;exact h
 |succ j=>exact hs.2 j a b (by simpa using h1) (by simpa using h2)⟩
theorem fm.pure{xs:List PV}[h:aI xs]:fm σ fs u xs xs:=⟨rfl,fun j x y h1 h2=>by
 rw[h1]at h2;cases h2
 haveI:=h.out j x h1
 exact Vw.pure⟩
theorem Vw.gM{xs ys:List PV}(h:fm σ fs u xs ys):Vw σ fs u (.agg xs) (.agg ys):=.agg h.1 h.2
theorem Vw.Aa{i e s n:Nat}{xs ys:List PV}(h:σ[i]? =some (some (.row e s n xs)))(hi:u i=true)(hs:fm σ fs u xs ys):Vw σ fs u (.own i) (.slice n ys):=.Kb h hi hs.1 hs.2
theorem Vw.Ki{i k:Nat}{blk:cK}{ys:List PV}(h:σ[i]? =some (some blk))(hi:u i=true)(hs:fm σ fs u blk.xs ys):Vw σ fs u (.ptr i k) (.bg ys k):=.J1 h hi hs.1 hs.2
theorem Vw.rep{F:Nat→Prop}{base:Nat}{E:Env}{w:World}(hS:Sat F base σ E w){M:Nat→Prop}(hM:∀b,M b→E.M b)(hf:∀i blk b,σ[i]? =some (some blk)→u i=true→aY (E.at_ i)=some b→¬M b){p q:PV}(hp:Vw σ fs u p q):∀v,cu E w v p→cu (E.nv fs M) w v q:=by
 induction hp with
 |pure=>
  intro v h
  have:=IsPure.out E M w v hM h
  exact this.goes (E:=EF M) (E':=E.nv fs M) (w:=w) (w':=w) ⟨Nat.zero_le _,fun i hi=>absurd hi (Nat.not_lt_zero i),fun _ _ h=>h,Nat.le_refl _,fun _ _ _=>rfl⟩
 |cc=>intro v h;cases h;exact .cc
 | @own i k hik=>
  intro v h
  cases h with
  |own _ hi _ h hs=>exact .own k (List.getElem?_eq_some_iff.1 hik).1 v (by simp[Env.nv,List.getD_eq_getElem?_getD,hik,h]) hs
 | @ptr i k o hik=>
  intro v h
  cases h with
  |ptr _ _ b hi h=>exact .ptr k o b (List.getElem?_eq_some_iff.1 hik).1 (by simpa[Env.nv,List.getD_eq_getElem?_getD,hik]using h)
 | @Kb i e s n xs ys hs hi' hl _ ih=>
  intro v h
  cases h with
  |own _ hi _ h _=>
   obtain⟨cs,k1,k2⟩:=hS.blk i _ hs
   have k3:aV (E.nv fs M) w cs ys:=⟨k2.1.trans hl,fun j c u h1 h2=>by
    have hj:j<xs.length:=by rw[hl];exact(List.getElem?_eq_some_iff.1 h2).1
    exact ih j xs[j] u (by simp[hj]) h2 c (k2.2 j c _ h1 (by simp[hj]))⟩
   have k4:=k1
   rcases k1.2 with⟨hv',h0⟩|⟨g,cap,cur,hv',hb,hg,hn,hc,hs',ht⟩
   ·rw[hv']at h;subst h;subst h0
    have:ys=[]:=by
     have:=k4.1;simp at this;subst this
     exact List.eq_nil_of_length_eq_zero k3.1.symm
    subst this
    exact .cc
   ·rw[hv']at h;subst h
    by_cases h0:n=0
    ·subst h0
     have:ys=[]:=by
      have:=k4.1;simp at this;subst this
      exact List.eq_nil_of_length_eq_zero k3.1.symm
     subst this
     exact .empty _ _ hc
    ·refine .slice g 0 n cap cs ys (by omega) hn hc (Array.getElem?_eq_some_iff.1 hg).1 (hf i _ g hs hi' (by rw[hv'];rfl)) (fun j x hx=>?_) k3.1 k3.2
     have:=k4.cells (g:=g) (by rw[hv'];rfl) j x hx
     rw[Addr.add_lit]at this
     exact this
 | @J1 i k blk ys hs hi' hl _ ih=>
  intro v h
  cases h with
  |ptr _ _ b hi h=>
   obtain⟨cs,k2,k3⟩:=hS.cells hs h
   have k4:aV (E.nv fs M) w cs ys:=⟨k2.1.trans hl,fun j c u h1 h2=>by
    have hj:j<blk.xs.length:=by rw[hl];exact(List.getElem?_eq_some_iff.1 h2).1
    exact ih j blk.xs[j] u (by simp[hj]) h2 c (k2.2 j c _ h1 (by simp[hj]))⟩
   have hbk:aY (E.at_ i)=some b:=by
    rcases h with h|⟨n,c,h⟩<;>rw[h]<;>rfl
   have:=cu.bg (E:=E.nv fs M) (w:=w) b 0 k cs ys ((hS.blk i blk hs).lt hbk).2 (hf i _ b hs hi' hbk) (fun j x hx=>by rw[Nat.zero_add];exact k3 j x hx) k4.1 k4.2
   rw[Nat.zero_add]at this
   exact this
 | @agg xs ys hl _ ih=>
  intro v h
  cases h with
  |agg cs _ hl' hr=>exact .agg cs ys (hl'.trans hl) (fun j c u h1 h2=>by
    have hj:j<xs.length:=by rw[hl];exact(List.getElem?_eq_some_iff.1 h2).1
    exact ih j xs[j] u (by simp[hj]) h2 c (hr j c _ h1 (by simp[hj])))
 | @tuple xs ys hl _ ih=>
  intro v h
  cases h with
  |tuple cs _ hl' hr=>exact .tuple cs ys (hl'.trans hl) (fun j c u h1 h2=>by
    have hj:j<xs.length:=by rw[hl];exact(List.getElem?_eq_some_iff.1 h2).1
    exact ih j xs[j] u (by simp[hj]) h2 c (hr j c _ h1 (by simp[hj])))
 | @func f xs ys hl _ ih=>
  intro v h
  cases h with
  |func _ cs _ hl' hr=>exact .func f cs ys (hl'.trans hl) (fun j c u h1 h2=>by
    have hj:j<xs.length:=by rw[hl];exact(List.getElem?_eq_some_iff.1 h2).1
    exact ih j xs[j] u (by simp[hj]) h2 c (hr j c _ h1 (by simp[hj])))
theorem fm.rep{F:Nat→Prop}{base:Nat}{E:Env}{w:World}(hS:Sat F base σ E w){M:Nat→Prop}(hM:∀b,M b→E.M b)(hf:∀i blk b,σ[i]? =some (some blk)→u i=true→aY (E.at_ i)=some b→¬M b){xs ys:List PV}(h:fm σ fs u xs ys){cs:List Value}(hs:aV E w cs xs):aV (E.nv fs M) w cs ys:=
 ⟨hs.1.trans h.1,fun j c u h1 h2=>by
  have hj:j<xs.length:=by rw[h.1];exact(List.getElem?_eq_some_iff.1 h2).1
  exact(h.2 j xs[j] u (by simp[hj]) h2).rep hS hM hf c (hs.2 j c _ h1 (by simp[hj]))⟩
inductive JK (σ:bN) (fs:List Nat) (u:Nat→Bool):cK→cK→Prop
 |cells {ty:TypeId} {xs ys:List PV}:fm σ fs u xs ys→JK σ fs u (.cells ty xs) (.cells ty ys)
 |row {e s n:Nat} {xs ys:List PV}:fm σ fs u xs ys→JK σ fs u (.row e s n xs) (.row e s n ys)
 |mp {kv:List (Value×PV)} [aI (kv.map (·.2))]:JK σ fs u (.mp kv) (.mp kv)
inductive EB (σ:bN) (fs:List Nat) (u:Nat→Bool):bN→List Nat→Prop
 |nil:EB σ fs u [] []
 |gone {σ':bN} {js:List Nat} {j:Nat}:EB σ fs u σ' js→EB σ fs u (none::σ') (j::js)
 |kept {σ':bN} {js:List Nat} {j:Nat} {b b':cK}:σ[j]? =some (some b)→JK σ fs u b b'→EB σ fs u σ' js→EB σ fs u (some b'::σ') (j::js)
theorem EB.get{σ':bN}{js:List Nat}(h:EB σ fs u σ' js):σ'.length=js.length∧∀(i:Nat) b',σ'[i]? =some (some b')→∃j b,js[i]? =some j∧σ[j]? =some (some b)∧JK σ fs u b b':=by
 induction h with
 |nil=>exact⟨rfl,fun i b' h=>by simp at h⟩
 |gone _ ih=>exact⟨by simp[ih.1],fun i b' h=>by
   cases i with
   |zero=>simp at h
   |succ i=>simpa using ih.2 i b' (by simpa using h)⟩
 | @kept σ' js j b b' h1 h2 _ ih=>exact⟨by simp[ih.1],fun i b'' h=>by
   cases i with
   |zero=>simp at h;subst h;exact⟨j,b,rfl,h1,h2⟩
   |succ i=>simpa using ih.2 i b'' (by simpa using h)⟩
theorem Sat.view{F:Nat→Prop}{base:Nat}{E:Env}{w:World}{σ':bN}(hS:Sat F base σ E w)(h:EB σ fs u σ' fs)(hn:fT fs=true)(hu:∀(k i:Nat) b,fs[k]? =some i→σ'[k]? =some (some b)→u i=false):
  ∃M,(∀b,M b→E.M b)∧(∀i blk b,σ[i]? =some (some blk)→u i=true→aY (E.at_ i)=some b→¬M b)∧Sat F base σ' (E.nv fs M) w:=by
 obtain⟨hl,hg⟩:=h.get
 have hat:∀i j,fs[i]? =some j→fs.getD i 0=j:=fun i j hij=>by simp[List.getD_eq_getElem?_getD,hij]
 have hM:∀b,(F b∨∃i blk,σ'[i]? =some (some blk)∧aY (E.at_ (fs.getD i 0))=some b)→E.M b:=fun b hb=>by
  rcases hb with hb|⟨i,blk,h1,h2⟩
  ·exact(hS.mm b).2 (.inl hb)
  ·obtain⟨j,b',h3,h4,_⟩:=hg i blk h1
   rw[hat i j h3]at h2
   exact(hS.mm b).2 (.inr ⟨j,b',h4,h2⟩)
 have hf:∀i blk b,σ[i]? =some (some blk)→u i=true→aY (E.at_ i)=some b→¬(F b∨∃i blk,σ'[i]? =some (some blk)∧aY (E.at_ (fs.getD i 0))=some b):=fun i blk b h1 h2 h3 h4=>by
  rcases h4 with h4|⟨k,bk,h5,h6⟩
  ·exact(hS.fb b h4).2 i blk h1 h3
  ·obtain⟨j,b',h7,h8,_⟩:=hg k bk h5
   rw[hat k j h7]at h6
   have:=hS.inj i j blk b' b h1 h8 h3 h6
   subst this
   have:=hu k i bk h7 h5
   rw[this]at h2
   cases h2
 refine⟨fun b=>F b∨∃i blk,σ'[i]? =some (some blk)∧aY (E.at_ (fs.getD i 0))=some b,hM,hf,?_⟩
 refine⟨hS.bl,fun b hb=>⟨(hS.fb b hb).1,fun i blk hi=>?_⟩,by simp[Env.nv,hl],fun b=>Iff.rfl,fun i blk hi=>?_,fun i j bi bj b hi hj h1 h2=>?_,hS.gl.sub hM⟩
 ·obtain⟨j,b',h3,h4,_⟩:=hg i blk hi
  simp only[Env.nv,hat i j h3]
  exact(hS.fb b hb).2 j b' h4
 ·obtain⟨j,b',h3,h4,h5⟩:=hg i blk hi
  have hB:=hS.blk j b' h4
  simp only[Env.nv,hat i j h3]
  cases h5 with
  |cells hr=>
   obtain⟨b,cs,k1,k2,k3,k4⟩:=hB
   exact⟨b,cs,k1,k2,k3,hr.rep hS hM hf k4⟩
  |row hr=>
   obtain⟨cs,k1,k2⟩:=hB
   exact⟨cs,k1,hr.rep hS hM hf k2⟩
  |mp=>
   obtain⟨r,es,ck,k1,k2,k3,k4,k5⟩:=hB
   exact⟨r,es,ck,k1,k2,k3,k4,(fm.pure (σ:=σ) (fs:=fs) (u:=u)).rep hS hM hf k5⟩
 ·obtain⟨i',bi',h3,h4,_⟩:=hg i bi hi
  obtain⟨j',bj',h5,h6,_⟩:=hg j bj hj
  simp only[Env.nv,hat i i' h3]at h1
  simp only[Env.nv,hat j j' h5]at h2
  have:=hS.inj i' j' bi' bj' b h4 h6 h1 h2
  subst this
  exact nm hn i j i' h3 h5
inductive Mv (g:Nat→Nat):PV→PV→Prop
 |flat {p:PV} [lV p]:Mv g p p
 |any {p:PV}:Mv g p .any
 |own {i j:Nat}:g i=j→Mv g (.own i) (.own j)
 |ptr {i j o:Nat}:g i=j→Mv g (.ptr i o) (.ptr j o)
 |agg {xs ys:List PV} (hl:ys.length=xs.length) (hs:∀(j:Nat) x y,xs[j]? =some x→ys[j]? =some y→Mv g x y):Mv g (.agg xs) (.agg ys)
 |tuple {xs ys:List PV} (hl:ys.length=xs.length) (hs:∀(j:Nat) x y,xs[j]? =some x→ys[j]? =some y→Mv g x y):Mv g (.tuple xs) (.tuple ys)
 |func {f:FuncId} {xs ys:List PV} (hl:ys.length=xs.length) (hs:∀(j:Nat) x y,xs[j]? =some x→ys[j]? =some y→Mv g x y):Mv g (.func f xs) (.func f ys)
def iO(g:Nat→Nat)(xs ys:List PV):Prop:=ys.length=xs.length∧∀(j:Nat) x y,xs[j]? =some x→ys[j]? =some y→Mv g x y
theorem iO.nil{g:Nat→Nat}:iO g [] []:=⟨rfl,fun j x y h=>by simp at h⟩
theorem iO.cons{g:Nat→Nat}{x y:PV}{xs ys:List PV}(h:Mv g x y)(hs:iO g xs ys):iO g (x::xs) (y::ys):=⟨by simp[hs.1],fun j a b h1 h2=>by
 cases j with
 |zero=>simp at h1 h2;subst h1;subst h2;exact h
 |succ j=>exact hs.2 j a b (by simpa using h1) (by simpa using h2)⟩
theorem iO.flat{g:Nat→Nat}{xs:List PV}[h:gF xs]:iO g xs xs:=⟨rfl,fun j x y h1 h2=>by
 rw[h1]at h2;cases h2
 haveI:=h.out j x h1
 exact Mv.flat⟩
theorem Mv.bY{g:Nat→Nat}{xs ys:List PV}(h:iO g xs ys):Mv g (.tuple xs) (.tuple ys):=.tuple h.1 h.2
theorem Mv.rep{g:Nat→Nat}{E1 E2:Env}{w:World}{p q:PV}(h:Mv g p q)(hat:∀i,i<E1.L→E2.at_ (g i)=E1.at_ i∧g i<E2.L):∀v,cu E1 w v p→cu E2 w v q:=by
 induction h with
 | @flat p hp=>intro v h;exact hp.out _ _ _ _ v h
 |any=>intro v _;exact .any v
 | @own i j hij=>
  intro v h
  subst hij
  cases h with
  |own _ hi _ h hs=>exact .own _ (hat i hi).2 v ((hat i hi).1.trans h) hs
 | @ptr i j o hij=>
  intro v h
  subst hij
  cases h with
  |ptr _ _ b hi h=>exact .ptr _ o b (hat i hi).2 (by rw[(hat i hi).1];exact h)
 | @agg xs ys hl _ ih=>
  intro v h
  cases h with
  |agg cs _ hl' hr=>exact .agg cs ys (hl'.trans hl.symm) (fun j c u h1 h2=>by
    have hj:j<xs.length:=by rw[←hl];exact(List.getElem?_eq_some_iff.1 h2).1
    exact ih j xs[j] u (by simp[hj]) h2 c (hr j c _ h1 (by simp[hj])))
 | @tuple xs ys hl _ ih=>
  intro v h
  cases h with
  |tuple cs _ hl' hr=>exact .tuple cs ys (hl'.trans hl.symm) (fun j c u h1 h2=>by
    have hj:j<xs.length:=by rw[←hl];exact(List.getElem?_eq_some_iff.1 h2).1
    exact ih j xs[j] u (by simp[hj]) h2 c (hr j c _ h1 (by simp[hj])))
 | @func f xs ys hl _ ih=>
  intro v h
  cases h with
  |func _ cs _ hl' hr=>exact .func f cs ys (hl'.trans hl.symm) (fun j c u h1 h2=>by
    have hj:j<xs.length:=by rw[←hl];exact(List.getElem?_eq_some_iff.1 h2).1
    exact ih j xs[j] u (by simp[hj]) h2 c (hr j c _ h1 (by simp[hj])))
theorem iO.rep{g:Nat→Nat}{E1 E2:Env}{w:World}{xs ys:List PV}(h:iO g xs ys)(hat:∀i,i<E1.L→E2.at_ (g i)=E1.at_ i∧g i<E2.L){cs:List Value}(hs:aV E1 w cs xs):aV E2 w cs ys:=⟨hs.1.trans h.1.symm,fun j c u h1 h2=>by
 have hj:j<xs.length:=by rw[←h.1];exact(List.getElem?_eq_some_iff.1 h2).1
 exact(h.2 j xs[j] u (by simp[hj]) h2).rep hat c (hs.2 j c _ h1 (by simp[hj]))⟩
inductive ID (g:Nat→Nat):cK→cK→Prop
 |cells {ty:TypeId} {xs ys:List PV}:iO g xs ys→ID g (.cells ty xs) (.cells ty ys)
 |row {e s n:Nat} {xs ys:List PV}:iO g xs ys→ID g (.row e s n xs) (.row e s n ys)
 |mp {kv:List (Value×PV)} [gF (kv.map (·.2))]:ID g (.mp kv) (.mp kv)
theorem ID.sat{g:Nat→Nat}{base:Nat}{E1 E2:Env}{w:World}{v:Value}{x y:cK}(h:ID g x y)(hat:∀i,i<E1.L→E2.at_ (g i)=E1.at_ i∧g i<E2.L)(hs:fF base E1 w v x):fF base E2 w v y:=by
 cases h with
 |cells h1=>
  obtain⟨b,cs,h2,h3,h4,h5⟩:=hs
  exact⟨b,cs,h2,h3,h4,h1.rep hat h5⟩
 |row h1=>
  obtain⟨cs,h2,h3⟩:=hs
  exact⟨cs,h2,h1.rep hat h3⟩
 |mp=>
  obtain⟨r,es,ck,h2,h3,h4,h5,h6⟩:=hs
  exact⟨r,es,ck,h2,h3,h4,h5,(iO.flat (g:=g)).rep hat h6⟩
def bk(fs:List Nat)(n j:Nat):Nat:=if j<fs.length then fs.getD j 0 else n+(j - fs.length)
def KP(σ:bN)(fs:List Nat)(σ0 σ1 σ2:bN):Prop:=σ2.length=σ.length+(σ1.length - fs.length)∧∀(i:Nat) b2,σ2[i]? =some (some b2)→
 (i<σ.length∧un fs σ0 i=true∧σ[i]? =some (some b2))∨∃j b1,σ1[j]? =some (some b1)∧ID (bk fs σ.length) b1 b2∧((j<fs.length∧i<σ.length∧fs[j]? =some i)∨(fs.length≤j∧i=σ.length+(j - fs.length)))
end
section
variable {P:Program}
theorem aW.view{f:FuncId}{ps qs:List PV}{σ σ0:bN}{R:PV→bN→Prop}(fs:List Nat)(hn:fT fs=true)(ha:fm σ fs (un fs σ0) ps qs)(hσ:EB σ fs (un fs σ0) σ0 fs)
  (hb:(fs.all fun i=>Nat.blt i σ.length)=true)
  (h:aW P f qs σ0 (fun r σ1=>∃r2 σ2,Mv (bk fs σ.length) r r2∧KP σ fs σ0 σ1 σ2∧R r2 σ2)):aW P f ps σ R:=fun F base E w vs hS hR=>by
 have hin:∀(j i:Nat),fs[j]? =some i→i<σ.length:=fun j i h=>Nat.blt_eq.mp (List.all_eq_true.1 hb i (List.mem_of_getElem? h))
 obtain⟨M,hM,hf,hS0⟩:=hS.view hσ hn (fun k i b h1 h2=>Em h1 h2)
 refine(h F base (E.nv fs M) w vs hS0 (ha.rep hS hM hf hR)).mono ?_
 rintro e w' ⟨v,r,σ1,E1,rfl,⟨r2,σ2,hr,⟨hlen,hbk⟩,hR2⟩,hS1,hg1,hB1,hv⟩
 have hL0:fs.length≤σ1.length:=by have:=hg1.L;rw[hS1.len]at this;exact this
 have hat1:∀j i,fs[j]? =some i→E1.at_ j=E.at_ i:=fun j i hji=>by
  have hj:=(List.getElem?_eq_some_iff.1 hji).1
  rw[hg1.at_ j hj]
  simp[Env.nv,List.getD_eq_getElem?_getD,hji]
 let E2:Env:=⟨σ2.length,fun i=>if i<σ.length then E.at_ i else E1.at_ (fs.length+(i - σ.length)),fun b=>F b∨∃i blk,σ2[i]? =some (some blk)∧aY (if i<σ.length then E.at_ i else E1.at_ (fs.length+(i - σ.length)))=some b⟩
 have hat:∀i,i<E1.L→E2.at_ (bk fs σ.length i)=E1.at_ i∧bk fs σ.length i<E2.L:=fun i hi=>by
  rw[hS1.len]at hi
  show(if bk fs σ.length i<σ.length then _ else _)=_∧bk fs σ.length i<σ2.length
  unfold bk
  by_cases hj:i<fs.length
  ·rw[if_pos hj]
   have hji:fs[i]? =some (fs.getD i 0):=by simp[List.getD_eq_getElem?_getD,hj]
   have hlt:fs.getD i 0<σ.length:=hin i _ hji
   rw[if_pos hlt,hat1 i _ hji]
   exact⟨rfl,by omega⟩
  ·rw[if_neg hj,if_neg (by omega),show fs.length+(σ.length+(i - fs.length) - σ.length)=i by omega]
   exact⟨rfl,by omega⟩
 have src:∀i b2,σ2[i]? =some (some b2)→(i<σ.length∧un fs σ0 i=true∧σ[i]? =some (some b2)∧E2.at_ i=E.at_ i)∨∃j b1,σ1[j]? =some (some b1)∧ID (bk fs σ.length) b1 b2∧bk fs σ.length j=i∧E2.at_ i=E1.at_ j:=fun i b2 h2=>by
  rcases hbk i b2 h2 with⟨h3,h4,h5⟩|⟨j,b1,h3,h4,h5⟩
  ·exact .inl ⟨h3,h4,h5,if_pos h3⟩
  ·have hji:bk fs σ.length j=i:=by
    unfold bk
    rcases h5 with⟨h6,h7,h8⟩|⟨h6,h7⟩
    ·rw[if_pos h6];simp[List.getD_eq_getElem?_getD,h8]
    ·rw[if_neg (by omega)];exact h7.symm
   refine .inr ⟨j,b1,h3,h4,hji,?_⟩
   have:=(hat j (by rw[hS1.len];exact(List.getElem?_eq_some_iff.1 h3).1)).1
   rw[hji]at this
   exact this
 have D9:∀i blk b,σ[i]? =some (some blk)→un fs σ0 i=true→aY (E.at_ i)=some b→b<w.heap.size∧¬M b∧¬E1.M b:=fun i blk b h1 h2 h3=>by
  have h4:=((hS.blk i blk h1).lt h3).2
  have h5:=hf i blk b h1 h2 h3
  exact⟨h4,h5,hg1.M b h4 h5⟩
 have g2:cp E w E2 w':=by
  refine⟨by show E.L≤σ2.length;rw[hS.len];omega,fun i hi=>if_pos (by rw[←hS.len];exact hi),fun b hb hnM hb2=>?_,hg1.size,fun b hb hnM=>hg1.heap b hb (fun h=>hnM (hM b h))⟩
  rcases hb2 with hF|⟨i,blk,h1,h2⟩
  ·exact hnM ((hS.mm b).2 (.inl hF))
  ·have h2':aY (E2.at_ i)=some b:=h2
   rcases src i blk h1 with⟨_,_,h3,h4⟩|⟨j,b1,h3,_,_,h4⟩
   ·rw[h4]at h2';exact hnM ((hS.mm b).2 (.inr ⟨i,blk,h3,h2'⟩))
   ·rw[h4]at h2'
    exact hg1.M b hb (fun h=>hnM (hM b h)) ((hS1.mm b).2 (.inr ⟨j,b1,h3,h2'⟩))
 refine⟨v,r2,σ2,E2,rfl,hR2,⟨hS1.bl,fun b hb=>⟨(hS1.fb b hb).1,fun i blk hi h2=>?_⟩,rfl,fun b=>Iff.rfl,fun i blk hi=>?_,fun i j bi bj b hi hj h1 h2=>?_,hS.gl.goes g2⟩,g2,hB1,hr.rep hat v hv⟩
 ·rcases src i blk hi with⟨_,_,h3,h4⟩|⟨j,b1,h3,_,_,h4⟩
  ·rw[h4]at h2;exact(hS.fb b hb).2 i blk h3 h2
  ·rw[h4]at h2;exact(hS1.fb b hb).2 j b1 h3 h2
 ·rcases src i blk hi with⟨_,h0,h3,h4⟩|⟨j,b1,h3,h5,_,h4⟩
  ·rw[h4]
   refine(hS.blk i blk h3).goes g2 (fun b hb=>?_)
   obtain⟨k1,k2,_⟩:=D9 i blk b h3 h0 hb
   exact hg1.heap b k1 k2
  ·rw[h4];exact h5.sat hat (hS1.blk j b1 h3)
 ·rcases src i bi hi with⟨_,h0,h3,h4⟩|⟨k,b1,h3,_,h5,h4⟩<;>rcases src j bj hj with⟨_,h0',h3',h4'⟩|⟨k',b1',h3',_,h5',h4'⟩
  ·rw[h4]at h1;rw[h4']at h2;exact hS.inj i j bi bj b h3 h3' h1 h2
  ·rw[h4]at h1;rw[h4']at h2
   exact absurd ((hS1.mm b).2 (.inr ⟨k',b1',h3',h2⟩)) (D9 i bi b h3 h0 h1).2.2
  ·rw[h4]at h1;rw[h4']at h2
   exact absurd ((hS1.mm b).2 (.inr ⟨k,b1,h3,h1⟩)) (D9 j bj b h3' h0' h2).2.2
  ·rw[h4]at h1;rw[h4']at h2
   have:=hS1.inj k k' b1 b1' b h3 h3' h1 h2
   subst this
   rw[←h5,←h5']
end
open Net
def fi(T:ah)(D:List Bool)(d:Nat)(v:PV)(tch:PV):List PV:=[num T.nodes,bq T.over,.slice T.ae.length (ct T.ae),bq D,num d,v,tch]
instance (T:ah) (D:List Bool) (d:Nat) (v tch:PV) [IsPure v] [IsPure tch]:aI (fi T D d v tch):=by unfold fi;infer_instance
structure iF (T:ah) (D:List Bool) (N d:Nat):Prop where
 valid:au T=true
 nodes:T.nodes=(N:Int)
 mask:D.length=2*T.ae.length
 over:T.over.length=N
 dest:d<N
def qL(T:ah)(D:List Bool)(n a:Nat):Bool:= !bF D a&&(decide (aB T a=(n:Int))|| !cL T (aB T a).toNat)
theorem nN{T:ah}{D:List Bool}{n a:Nat}:qL T D n a=true↔wi T D n a:=by
 unfold qL wi
 cases bF D a<;>cases cL T (aB T a).toNat<;>simp
theorem GO{T:ah}{D:List Bool}{n a:Nat}(h:qL T D n a=false):¬wi T D n a:=fun h'=>by rw[nN.2 h']at h;cases h
theorem nD{T:ah}{D:List Bool}{N d:Nat}(hT:iF T D N d)(v:PV)(tch:PV)[IsPure v][IsPure tch](a:Nat)(ha:a<2*T.ae.length):Can Tryz.prog 38 [.bg (fi T D d v tch) 0,num a] (· =flag (qL T D d a)):=by
 have hll:=bX hT.valid
 obtain⟨hd0,hhN⟩:=(aM hT.valid).head a ha
 obtain⟨h,hh⟩:=Int.eq_ofNat_of_zero_le hd0
 have hm:=hT.mask
 have ho:=hT.over
 have hn:=hT.nodes
 obtain⟨p1,hp1⟩:∃q,bF D a=q:=⟨_,rfl⟩
 obtain⟨p2,hp2⟩:∃q,decide ((h:Int)=(d:Int))=q:=⟨_,rfl⟩
 obtain⟨p3,hp3⟩:∃q,cL T h=q:=⟨_,rfl⟩
 have hu:qL T D d a=(!p1 &&(p2|| !p3)):=by unfold qL;rw[hh,Int.toNat_natCast,hp1,hp2,hp3]
 rw[hu]
 refine aT Tryz.func38 I Tryz.ntmps38 I<|af (.a 1 I<|.k [0,1] I)<|af (.a 5 I<|.c rfl (hh▸ed T a ha (by omega)) I<|.a 1 I<|.k [0,1,5] I)<|bP 4 (.raw (.bool (!p1 &&(p2|| !p3)))) [] I ?_ ?_
 ·refine .a 5 I<|.v (aJ (a) I) I<|.v (aK I ((show(bb D)[a]? =some (flag p1) by rw[←hp1];exact ee D a (by omega)))) I<|.a 2 I<|?_
  cases p1
  ·refine .a 5 I<|.v (cD I (hp2)) I<|.a 1 I<|?_
   cases p2
   ·exact .a 6 I<|.v (aJ (h) I) I<|.v (aK I ((show(bb T.over)[h]? =some (flag p3) by rw[←hp3];exact ee T.over h (by omega)))) I<|.a 4 I<|.k [4] I
   ·exact .a 12 I<|.k [4] I
  ·exact .a 19 I<|.k [4] I
 exact az<|⟨_,_,aE.of I,aD.pure,rfl⟩
def wS(T:ah)(D:List Bool)(d:Nat)(out:List Int)(lost A:Nat→Prop)(v:Int):Prop:=
 (v= -1∧∀a,A a→wi T D d a→0≤at' out (aB T a)→lost (aB T a).toNat)∨
 (0≤v∧(∃a,A a∧wi T D d a∧0≤at' out (aB T a)∧¬lost (aB T a).toNat∧v=at' out (aB T a)+bS T a)∧∀a,A a→wi T D d a→0≤at' out (aB T a)→¬lost (aB T a).toNat→v≤at' out (aB T a)+bS T a)
theorem Fj{T:ah}{D:List Bool}{d:Nat}{out:List Int}{lost:Nat→Prop}:wS T D d out lost (fun _=>False) (-1):=.inl ⟨rfl,fun _ h=>h.elim⟩
theorem tV{T:ah}{D:List Bool}{d:Nat}{out:List Int}{lost A A':Nat→Prop}{v:Int}(h:wS T D d out lost A v)(hA:∀a,A' a↔A a):wS T D d out lost A' v:=by
 rcases h with⟨h1,h2⟩|⟨h1,⟨a,h2,h3⟩,h4⟩
 ·exact .inl ⟨h1,fun a ha=>h2 a ((hA a).1 ha)⟩
 ·exact .inr ⟨h1,⟨a,(hA a).2 h2,h3⟩,fun a ha=>h4 a ((hA a).1 ha)⟩
theorem DJ{T:ah}{D:List Bool}{d:Nat}{out:List Int}{lost A A':Nat→Prop}{v:Int}{a:Nat}(h:wS T D d out lost A v)(hA:∀b,A' b↔A b∨b=a)(hs:wi T D d a→0≤at' out (aB T a)→lost (aB T a).toNat):wS T D d out lost A' v:=by
 rcases h with⟨h1,h2⟩|⟨h1,⟨b,h2,h3⟩,h4⟩
 ·refine .inl ⟨h1,fun b hb k1 k2=>?_⟩
  rcases(hA b).1 hb with hb|rfl
  ·exact h2 b hb k1 k2
  ·exact hs k1 k2
 ·refine .inr ⟨h1,⟨b,(hA b).2 (.inl h2),h3⟩,fun c hc k1 k2 k3=>?_⟩
  rcases(hA c).1 hc with hc|rfl
  ·exact h4 c hc k1 k2 k3
  ·exact absurd (hs k1 k2) k3
theorem DE{T:ah}{D:List Bool}{d:Nat}{out:List Int}{lost A A':Nat→Prop}{v:Int}{a:Nat}(h:wS T D d out lost A v)(hA:∀b,A' b↔A b∨b=a)(k1:wi T D d a)(k2:0≤at' out (aB T a))(k3:¬lost (aB T a).toNat)(hc:0≤bS T a)(hv:v<0∨at' out (aB T a)+bS T a<v):wS T D d out lost A' (at' out (aB T a)+bS T a):=by
 refine .inr ⟨by omega,⟨a,(hA a).2 (.inr rfl),k1,k2,k3,rfl⟩,fun c hc' e1 e2 e3=>?_⟩
 rcases(hA c).1 hc' with hc'|rfl
 ·rcases h with⟨_,h2⟩|⟨h1,_,h4⟩
  ·exact absurd (h2 c hc' e1 e2) e3
  ·have:=h4 c hc' e1 e2 e3;omega
 ·exact Int.le_refl _
theorem FW{T:ah}{D:List Bool}{d:Nat}{out:List Int}{lost A A':Nat→Prop}{v:Int}{a:Nat}(h:wS T D d out lost A v)(hA:∀b,A' b↔A b∨b=a)(hv:0≤v∧v≤at' out (aB T a)+bS T a):wS T D d out lost A' v:=by
 rcases h with⟨h1,_⟩|⟨h1,⟨b,h2,h3⟩,h4⟩
 ·omega
 ·refine .inr ⟨h1,⟨b,(hA b).2 (.inl h2),h3⟩,fun c hc k1 k2 k3=>?_⟩
  rcases(hA c).1 hc with hc|rfl
  ·exact h4 c hc k1 k2 k3
  ·exact hv.2
theorem HM:qM Tryz.prog 122=some (3,4):=by kernel_rfl
theorem KN:Gc Tryz.prog 4=some (.bool false):=by kernel_rfl
abbrev sA(n:Int):Value:=.int .i64 n
theorem Hk:gm Tryz.prog 3 sA:=FZ Tryz.underlying3
def mS(L:List Int):List (Int×PV):=L.map fun n=>(n,flag true)
def oW(L:List Int):cK:=.mp (eA sA (mS L))
theorem pw(k:Int):∀L:List Int,(cV k (mS L)).getD (flag false)=flag (decide (k∈L))
 | []=>by simp[mS,cV]
 |a::L=>by
  have ih:=pw k L
  unfold mS at ih ⊢
  simp only[List.map_cons,cV]
  split
  ·rename_i h;simp[h]
  ·rename_i h
   rw[ih]
   congr 2
   simp[Ne.symm h,h]
   first|done|exact fun e=>absurd e.symm h|exact fun e=>absurd e h
theorem wG(k:Int):∀L:List Int,gJ k (flag true) (mS L)=mS (if k∈L then L else L++[k])
 | []=>by simp[mS,gJ]
 |a::L=>by
  have ih:=wG k L
  unfold mS at ih ⊢
  simp only[List.map_cons,gJ]
  split
  ·rename_i h
   subst h
   simp
  ·rename_i h
   rw[ih]
   by_cases hm:k∈L
   ·rw[if_pos hm,if_pos (List.mem_cons_of_mem _ hm)];rfl
   ·rw[if_neg hm,if_neg (by simp[hm];first|exact fun e=>h e.symm|exact fun e=>h e)];rfl
instance (L:List Int):aI ((eA sA (mS L)).map (·.2)):=by
 have:(eA sA (mS L)).map (·.2)=L.map fun _=>flag true:=by simp[eA,mS]
 rw[this]
 exact aI.map _ _ fun _=>inferInstance
instance (L:List Int):gF ((eA sA (mS L)).map (·.2)):=by
 have:(eA sA (mS L)).map (·.2)=L.map fun _=>flag true:=by simp[eA,mS]
 rw[this]
 exact⟨fun i u hu=>by
  simp only[List.getElem?_map,Option.map_eq_some_iff]at hu
  obtain⟨a,_,rfl⟩:=hu
  infer_instance⟩
def sF(b:Bool)(L:List Int):Option cK:=if b then some (oW L) else none
def I9(b:Bool):PV:=if b then .own 0 else .raw (.map none)
theorem BS(b:Bool)(L:List Int):jO (sF b L):=fun x hx=>by
 cases b
 ·cases hx
 ·cases hx
  exact(inferInstance:aI ((eA sA (mS L)).map (·.2)))
section
variable {P:Program} {σ:bN} {t:b9} {o:Oper}
theorem IX{κ:Type}[DecidableEq κ]{enc:κ→Value}{kt:TypeId}{mt et:Nat}{x ix:Operand}{z:Value}{k:κ}{pk:PV}(hK:gm P kt enc)(ho:o.op= .lookup mt x ix false)(hm:qM P mt=some (kt,et))(hz:Gc P et=some z)(hx:aA t x=some (.raw (.map none)))(hp:aA t ix=some pk)(hk:tP pk (enc k)):bh P σ t o (.raw z):=by
 intro F base E ρ w hρ hS hT
 have h1:=aq hρ hT hx
 have h2:=hk _ _ _ (aq hρ hT hp)
 generalize hv:ρ x=v at h1
 cases h1
 have hf:(Instr.findKey kt (enc k) #[].toList).run P w= .ok none w:=by
  obtain⟨d,hd,_⟩:=hK.now
  simp[Instr.findKey,run_underlying hd,Instr.findNow]
 simp only[execOp,ho,hv,h2,Instr.lookup,Sem.run_bind,run_underlying (kp hm),Result.andThen_ok,Sem.run_pure,hK.nI,hf,xJ hz,Bool.false_eq_true,if_false]
 exact bd (.raw z)
end
theorem JM{b:Bool}{L:List Int}{σ:bN}{t:b9}{o:Oper}{x ix:Operand}{k:Int}{r:Bool}(ho:o.op= .lookup 122 x ix false)(hx:aA t x=some (I9 b))(hi:σ[0]? =some (sF b L))(hp:aA t ix=some (num k))(hr:(b&&decide (k∈L))=r):bh Tryz.prog σ t o (flag r):=by
 cases b
 ·subst hr
  exact IX Hk (k:=k) ho HM KN hx hp (jS _)
 ·refine o3 Hk (k:=k) ho HM KN hx hi hp (jS _) ?_
  rw[pw]
  simp at hr
  rw[←hr]
theorem gH(out:List Int)(x:Nat)(h:x<out.length):(aL out)[x]? =some (num (at' out (x:Int))):=by
 rw[aC out x h]
 simp[at',List.getD_eq_getElem?_getD,h]
def J7(T:ah)(D:List Bool)(N d:Nat)(v tch:PV)(av lv:PV):PV:=.agg [.bg (fi T D d v tch) 0,av,ew (ca (aN T) N (2*T.ae.length)),ew (ca (aB T) N (2*T.ae.length)),lv]
theorem ie{l:List Int}{j a:Nat}(h:j<l.length)(ha:l.getD j 0=(a:Int))(b:Nat):(b:Int)∈l.take (j+1)↔(b:Int)∈l.take j∨b=a:=by
 rw[dr l j 0 h,List.mem_append,ha]
 simp only[List.mem_singleton,Int.natCast_inj]
theorem wu{T:ah}{D:List Bool}{N d:Nat}(hT:iF T D N d)(out:List Int)(hout:out.length=N)(hub:∀x:Nat,(x:Int)<T.nodes→at' out (x:Int)≤100000000)(b:Bool)(L:List Int)(tch av:PV)[IsPure tch][IsPure av](n:Nat)(hn:n<N):
  aW Tryz.prog 86 [J7 T D N d (aw out) tch av (I9 b),num n] [sF b L] (fun r σ'=>∃v,r=num v∧wS T D d out (fun y=>b=true∧(y:Int)∈L) (fun a=>a<2*T.ae.length∧aN T a=(n:Int)) v∧σ'=[sF b L]):=by
 have hll:=bX hT.valid
 have hS:=aM hT.valid
 have hnn:=hT.nodes
 have hll2:=gT T true n
 have hrl:=cQ (aN T) N (2*T.ae.length)
 have hrow:(ca (aN T) N (2*T.ae.length)).getD n []=aP T true n:=dH _ _ _ _ hn
 refine bO Tryz.func86 I Tryz.ntmps86 I ?_
 unfold J7
 refine aR<|cg (eV I I I) I<|ax 1 I<|aH [1,2] I ?_
 refine af (.a 1 I<|.k [1,2,5] I)<|an<|af (.a 3 I<|.v (aJ (n) I) I<|.v (aK I ((show((ca (aN T) N (2*T.ae.length)).map aw)[n]? =some (aw (aP T true n)) by rw[←hrow];simp[hrl,hn]))) I<|.a 2 I<|.k [2,5,14,15,16] I)<|ay<|eY [2,5,14,15,16] I<|br (fun r s=>∃j v,j≤(aP T true n).length∧wS T D d out (fun y=>b=true∧(y:Int)∈L) (fun a=>(a:Int)∈(aP T true n).take j) v∧r=(aP T true n).length - j∧s=⟨[(2,.ptr 1 0),(5,num v),(14,aw (aP T true n)),(15,num (aP T true n).length),(16,num j)],[sF b L,some (.cells 124 [.bg (fi T D d (aw out) tch) 0,av,ew (ca (aN T) N (2*T.ae.length)),ew (ca (aB T) N (2*T.ae.length)),I9 b])]⟩) (aP T true n).length ⟨0, -1,by omega,tV Fj (fun a=>by simp),by omega,rfl⟩ ?_
 rintro r s ⟨j,v,hj,hb,rfl,rfl⟩
 refine af (.a 1 I<|.k [2,5,14,15,16,17] I)<|an<|aj I (fun hc=>?_) (fun hc=>?_)
 ·have hlt:j<(aP T true n).length:=by have:=of_decide_eq_true hc;omega
  obtain⟨a,ha,ham,hay⟩:=jj T true n j hlt
  obtain⟨m,hm⟩:=Int.eq_ofNat_of_zero_le (hS.head a ham).1
  have hmN:m<N:=by have:=(hS.head a ham).2;omega
  have hcb:=hS.cost a ham
  have hA:=ie hlt ha
  have hum:=hub m (by omega)
  refine ak<|an<|ay<|af (.v (aJ (j) I) I<|.v (aK I ((aC _ j hlt).trans (by rw[ha]))) I<|.a 1 I<|.k [2,5,7,14,15,16] I)<|af (.a 6 I<|.c rfl (hm▸ed T a ham (by omega)) I<|.a 1 I<|.k [2,5,7,8,14,15,16] I)<|an ?_
  obtain⟨p1,hp1⟩:∃q,qL T D d a=q:=⟨_,rfl⟩
  obtain⟨p2,hp2⟩:∃q,decide (at' out (m:Int)<0)=q:=⟨_,rfl⟩
  obtain⟨p3,hp3⟩:∃q,(b&&decide ((m:Int)∈L))=q:=⟨_,rfl⟩
  refine bP 48 (.raw (.bool (!p1 ||p2||p3))) [2,5,7,8,14,15,16] I ?_ ?_
  ·refine .a 3 I<|.c rfl (hp1▸nD hT (aw out) tch a ham) I<|.a 2 I<|?_
   cases p1
   ·exact .a 16 I<|.k [48,2,5,7,8,14,15,16] I
   ·refine .a 6 I<|.v (aJ (m) I) I<|.v (aK I (gH out m (by omega))) I<|.v (cD I (hp2)) I<|.a 2 I<|?_
    cases p2
    ·exact .a 3 I<|.v (JM I I I I hp3) I<|.a 1 I<|.k [48,2,5,7,8,14,15,16] I
    ·exact .a 5 I<|.k [48,2,5,7,8,14,15,16] I
  refine aj I (fun hc=>?_) (fun hc=>?_)
  ·have hb2:wS T D d out (fun y=>b=true∧(y:Int)∈L) (fun a=>(a:Int)∈(aP T true n).take (j+1)) v:=DJ hb hA fun k1 k2=>by
    rw[hm]at k2 ⊢
    rw[Int.toNat_natCast]
    rw[nN.2 k1]at hp1
    rw[decide_eq_false (by omega)]at hp2
    rw[←hp1,←hp2]at hc
    simp at hc
    rw[hc]at hp3
    simpa using hp3
   refine bp<|aF (.v (aU I) I<|.a 1 I<|.k [2,5,14,15,16] I) ?_
   exact⟨(aP T true n).length - (j+1),by omega,j+1,_,by omega,hb2,rfl,rfl⟩
  ·have hno:p1=true∧p2=false∧p3=false:=by revert hc;cases p1<;>cases p2<;>cases p3<;>simp
   obtain⟨rfl,rfl,rfl⟩:=hno
   have hu:=nN.1 hp1
   have h0m:0≤at' out (m:Int):=by have:=of_decide_eq_false hp2;omega
   have h0:0≤at' out (aB T a):=by rw[hm];exact h0m
   have hnl:¬(b=true∧(((aB T a).toNat:Nat):Int)∈L):=by
    rw[hm,Int.toNat_natCast]
    rintro⟨k1,k2⟩
    rw[k1]at hp3
    simp at hp3
    exact hp3 k2
   refine ak<|fZ mixed (by kernel_rfl) (.a 6 I<|.v [53,54] (aJ (m) I) I I<|.v [55] (aK I (gH out m (by omega))) I I<|.a 6 I<|.v [61,62] (eW I (gi T a ham)) I I<|.v [56,63] (aU I (hc:=rfl) (hn:=by unfold In64;omega)) I I<|.a 1 I<|.k [2,5,9,14,15,16] I) ?_
   obtain⟨p1,hp1⟩:∃q,decide (v<0)=q:=⟨_,rfl⟩
   obtain⟨p2,hp2⟩:∃q,decide (at' out (m:Int)+bS T a<v)=q:=⟨_,rfl⟩
   refine bP 71 (.raw (.bool (p1||p2))) [2,5,9,14,15,16] I ?_ ?_
   ·refine .a 1 I<|.v (cD I (hp1)) I<|.a 1 I<|?_
    cases p1
    ·exact .a 2 I<|.v (cD I (hp2)) I<|.a 1 I<|.k [71,2,5,9,14,15,16] I
    ·exact .a 4 I<|.k [71,2,5,9,14,15,16] I
   refine aj I (fun hc=>?_) (fun hc=>?_)
   ·have hb2:wS T D d out (fun y=>b=true∧(y:Int)∈L) (fun a=>(a:Int)∈(aP T true n).take (j+1)) (at' out (m:Int)+bS T a):=by
     rw[←hm]
     refine DE hb hA hu h0 hnl (by omega) ?_
     rw[hm]
     rcases Bool.or_eq_true_iff.1 hc with h|h
     ·rw[h]at hp1;exact .inl (of_decide_eq_true hp1)
     ·rw[h]at hp2;exact .inr (of_decide_eq_true hp2)
    refine aF (.a 2 I<|.k [2,5,14,15,16] I) ?_
    refine aF (.v (aU I) I<|.a 1 I<|.k [2,5,14,15,16] I) ?_
    exact⟨(aP T true n).length - (j+1),by omega,j+1,_,by omega,hb2,rfl,rfl⟩
   ·have hb2:wS T D d out (fun y=>b=true∧(y:Int)∈L) (fun a=>(a:Int)∈(aP T true n).take (j+1)) v:=by
     refine FW hb hA ?_
     rw[hm]
     obtain⟨c1,c2⟩:=Bool.or_eq_false_iff.1 hc
     rw[c1]at hp1
     rw[c2]at hp2
     have:=of_decide_eq_false hp1
     have:=of_decide_eq_false hp2
     omega
    refine ak<|aF (.v (aU I) I<|.a 1 I<|.k [2,5,14,15,16] I) ?_
    exact⟨(aP T true n).length - (j+1),by omega,j+1,_,by omega,hb2,rfl,rfl⟩
 ·have hje:j=(aP T true n).length:=by have:=of_decide_eq_false hc;omega
  refine bp<|af (.a 2 I<|.k [4] I)<|cJ [0] (.cons 4 I Ren.pure .nil) (.same (BS b L) I .nil) I I ?_
  exact az<|⟨_,aE.of I,v,rfl,tV hb (fun a=>by rw[hje,List.take_length];exact(fP T true n a).symm),rfl⟩
instance (L:List Int):gF (aL L):=⟨fun i u hu=>by
 simp only[aL,List.getElem?_map,Option.map_eq_some_iff]at hu
 obtain⟨a,_,rfl⟩:=hu
 infer_instance⟩
instance (L:List Bool):gF (bb L):=⟨fun i u hu=>by
 simp only[bb,List.getElem?_map,Option.map_eq_some_iff]at hu
 obtain⟨a,_,rfl⟩:=hu
 infer_instance⟩
instance (L:List jt):gF (ct L):=⟨fun i u hu=>by
 have hm:u∈ct L:=List.mem_of_getElem? hu
 obtain⟨a,_,ha⟩:=List.mem_flatMap.1 hm
 simp only[iQ,List.mem_cons,List.not_mem_nil,or_false]at ha
 rcases ha with rfl|rfl|rfl|rfl|rfl|rfl|rfl<;>infer_instance⟩
inductive Nw (σ:bN):PV→PV→Prop
 |flat {p:PV} [lV p]:Nw σ p p
 |cc:Nw σ (.raw (.slice none 0 0)) (.slice 0 [])
 |own {i e s n:Nat} {xs ys:List PV} (h:σ[i]? =some (some (.row e s n xs))) (hl:xs.length=ys.length) (hs:∀(j:Nat) x y,xs[j]? =some x→ys[j]? =some y→Nw σ x y):Nw σ (.own i) (.slice n ys)
 |agg {xs ys:List PV} (hl:xs.length=ys.length) (hs:∀(j:Nat) x y,xs[j]? =some x→ys[j]? =some y→Nw σ x y):Nw σ (.agg xs) (.agg ys)
 |tuple {xs ys:List PV} (hl:xs.length=ys.length) (hs:∀(j:Nat) x y,xs[j]? =some x→ys[j]? =some y→Nw σ x y):Nw σ (.tuple xs) (.tuple ys)
def vD(σ:bN)(xs ys:List PV):Prop:=xs.length=ys.length∧∀(j:Nat) x y,xs[j]? =some x→ys[j]? =some y→Nw σ x y
section
variable {σ:bN}
theorem vD.nil:vD σ [] []:=⟨rfl,fun j x y h=>by simp at h⟩
theorem vD.cons{x y:PV}{xs ys:List PV}(h:Nw σ x y)(hs:vD σ xs ys):vD σ (x::xs) (y::ys):=⟨by simp[hs.1],fun j a b h1 h2=>by
 cases j with
 |zero=>simp at h1 h2;subst h1;subst h2;exact h
 |succ j=>exact hs.2 j a b (by simpa using h1) (by simpa using h2)⟩
theorem vD.flat{xs:List PV}[h:gF xs]:vD σ xs xs:=⟨rfl,fun j x y h1 h2=>by
 rw[h1]at h2;cases h2
 haveI:=h.out j x h1
 exact Nw.flat⟩
theorem Nw.dA{i e s n:Nat}{xs ys:List PV}(h:σ[i]? =some (some (.row e s n xs)))(hs:vD σ xs ys):Nw σ (.own i) (.slice n ys):=.own h hs.1 hs.2
theorem Nw.gM{xs ys:List PV}(hs:vD σ xs ys):Nw σ (.agg xs) (.agg ys):=.agg hs.1 hs.2
theorem Nw.rep{base:Nat}{E1 E:Env}{w:World}(hS:Sat (fun _=>False) base σ E1 w)(hE:∀b,E.M b→b<base){p q:PV}(h:Nw σ p q):∀v,cu E1 w v p→cu E w v q:=by
 induction h with
 | @flat p hp=>intro v h;exact hp.out _ _ _ _ v h
 |cc=>intro v h;cases h;exact .cc
 | @own i e s n xs ys hs hl _ ih=>
  intro v h
  cases h with
  |own _ hi _ h _=>
   obtain⟨cs,k1,k2⟩:=hS.blk i _ hs
   have k3:aV E w cs ys:=⟨k2.1.trans hl,fun j c u h1 h2=>by
    have hj:j<xs.length:=by rw[hl];exact(List.getElem?_eq_some_iff.1 h2).1
    exact ih j xs[j] u (by simp[hj]) h2 c (k2.2 j c _ h1 (by simp[hj]))⟩
   have k4:=k1
   rcases k1.2 with⟨hv',h0⟩|⟨g,cap,cur,hv',hb,hg,hn,hc,hs',ht⟩
   ·rw[hv']at h;subst h;subst h0
    have:ys=[]:=by
     have:=k4.1;simp at this;subst this
     exact List.eq_nil_of_length_eq_zero k3.1.symm
    subst this
    exact .cc
   ·rw[hv']at h;subst h
    by_cases h0:n=0
    ·subst h0
     have:ys=[]:=by
      have:=k4.1;simp at this;subst this
      exact List.eq_nil_of_length_eq_zero k3.1.symm
     subst this
     exact .empty _ _ hc
    ·refine .slice g 0 n cap cs ys (by omega) hn hc (Array.getElem?_eq_some_iff.1 hg).1 (fun hM=>by have:=hE g hM;omega) (fun j x hx=>?_) k3.1 k3.2
     have:=k4.cells (g:=g) (by rw[hv'];rfl) j x hx
     rw[Addr.add_lit]at this
     exact this
 | @agg xs ys hl _ ih=>
  intro v h
  cases h with
  |agg cs _ hl' hr=>exact .agg cs ys (hl'.trans hl) (fun j c u h1 h2=>by
    have hj:j<xs.length:=by rw[hl];exact(List.getElem?_eq_some_iff.1 h2).1
    exact ih j xs[j] u (by simp[hj]) h2 c (hr j c _ h1 (by simp[hj])))
 | @tuple xs ys hl _ ih=>
  intro v h
  cases h with
  |tuple cs _ hl' hr=>exact .tuple cs ys (hl'.trans hl) (fun j c u h1 h2=>by
    have hj:j<xs.length:=by rw[hl];exact(List.getElem?_eq_some_iff.1 h2).1
    exact ih j xs[j] u (by simp[hj]) h2 c (hr j c _ h1 (by simp[hj])))
theorem AV(e1 e:TypeId)(rs:List (List Int)):Nw (jR e1 e rs) (.own 0) (ew rs):=by
 refine Nw.dA rfl ⟨by simp[eC],fun i a b h1 h2=>?_⟩
 have hi:i<rs.length:=by have:=(List.getElem?_eq_some_iff.1 h2).1;simpa using this
 rw[iz _ _ hi]at h1
 cases h1
 have:b=aw (rs.getD i []):=by simpa[hi]using h2.symm
 subst this
 exact Nw.dA (iv e1 e rs i hi) vD.flat
end
section
variable {P:Program} {σ:bN} {t:b9} {o:Oper}
theorem iG{Φ:si}[hP:Has P Φ]{f:Nat}{ps qs:List PV}{q:PV}(h:nj Φ t o.op=some (f,ps))(hq:ai σ ps qs)(hc:aW P f qs [] (fun r σ1=>Nw σ1 r q)):bh P σ t o q:=by
 obtain⟨x,args,ats,cap,ps',ho,hf,hx',ha,rfl⟩:=ja hP.ok h
 intro F base E ρ w hρ hS hT
 have h1:=aq hρ hT hx'
 have h2:=ga hρ hT ha
 generalize hz:ρ x=z at h1
 cases h1 with
 |func _ cs _ hl hr=>
  rw[fG hf ho hz w]
  refine⟨Ext.refl _,?_⟩
  have h3:aV E w (args.map ρ++cs).toList (ps'++cap):=by
   rw[Array.toList_append,Array.toList_map]
   exact h2.append ⟨by simpa using hl,fun i x u k1 k2=>hr i x u (by simpa using k1) k2⟩
  refine(hc (fun _=>False) w.heap.size (EF fun _=>False) w _ (Sat.start _ w (fun _ h=>h.elim) (hS.gl.sub fun _ h=>h.elim)) (hq.rep hS (fun _ h=>h.elim) (fun _ h=>h.elim) h3)).mono ?_
  rintro e w' ⟨v,r,σ1,E1,rfl,hn,hS1,_,hb,hv⟩
  exact⟨_,rfl,hb,hn.rep hS1 (fun b hb=>hS.lt hb) v hv⟩
variable {N L:Nat} {ops:Array Oper}
theorem uV{rest:List Oper}{K:St→Prop}{d:Nat}{x y:Operand}{ty tz:TypeId}{xs:List PV}(ho:o.op= .binOp .eql ty x y tz)(hk:qe P ty=true)(hx:aA t x=some (.slice 0 xs))(hy:aA t y=some (.raw (.slice none 0 0)))(hd:o.dst=some d)(hw:dP ops t o=some true)(hN:Nat.blt d N=true)
  (h:∀b,WR P N L ops rest ⟨(d,.raw (.bool b))::t,σ⟩ K):WR P N L ops (o::rest) ⟨t,σ⟩ K:=by
 refine kE hw fun F base E a w hs next Q hn=>?_
 obtain⟨e,hu⟩:=mB hk
 have h1:=aq (dx a) hs.tmp hx
 have h2:=aq (dx a) hs.tmp hy
 generalize hz:a.eval x=z at h1
 generalize hz':a.eval y=z' at h2
 cases h2
 obtain⟨p,c,rfl,_,_⟩:=nT h1
 have hrun:=Lib.run_eql_slice_nil w ty e p 0 c 0 0 hu
 have hg:∀a n c b m d,(eqGuard .eql ty x y (.slice a n c) (.slice b m d)).run P w= .ok () w:=fun _ _ _ _ _ _=>rfl
 have hU:fH P w (fun v w'=>cu E w' v (.raw (.bool p.isNone))) ((execOp a.eval o).run P w):=by
  simp only[execOp,ho,hz,hz',Sem.run_bind,Sem.run_pure,Result.andThen_ok,hg,hrun]
  exact bd (.raw _)
 refine kY hU fun v w' hE hv=>hn _ _ _ E (h p.isNone) ?_ (.ext hE) (Below.fB hE hs.sat.bl)
 rw[hd]
 exact hs.put (hs.sat.ext hE) (.ext hE) hN hv
end
theorem Ij:qe Tryz.prog 43=true:=by kernel_rfl
theorem ym(l:List Int)(hl:l.length≤1000):aW Tryz.prog 35 [aw l] [] (fun r σ'=>r= .own 0∧σ'=[some (.row 3 1 l.length (aL l))]):=by
 refine bO Tryz.func35 I Tryz.ntmps35 I<|af (.a 1 I<|.k [0] I)<|an<|aR (WR.mono (K:=fun s=>∃b:Bool,s=⟨[(0,aw l),(4,.raw (.bool b))],[]⟩∧(b=true→l=[])) ?_ ?_)
 ·cases l with
  |nil=>exact ax 1 rfl<|uV rfl Ij rfl rfl rfl rfl rfl fun b=>aH [0,4] rfl ⟨b,rfl,fun _=>rfl⟩
  |cons a l=>exact ax 1 rfl<|bA (je rfl Ij rfl rfl (Nat.succ_pos _)) rfl rfl rfl<|aH [0,4] rfl ⟨_,rfl,fun h=>by cases h⟩
 rintro _ ⟨b,rfl,hb⟩
 refine aj I (fun hc=>?_) (fun hc=>?_)
 ·have:l=[]:=hb hc
  subst this
  refine af (.a 1 I<|.k [2] I)<|fM 2 3 1 I ?_
  exact az<|⟨_,aE.of I,rfl,rfl⟩
 ·refine ak<|aR<|cg (fu I (bG.sl.get I)) I<|ax 1 I<|cg (bC I (bG.rk.get I) I I I (show(aL l).length=l.length*1 by simp[aL]) (by unfold maxLen;omega)) I<|ax 1 I<|aH [2] I ?_
  refine cJ [1] (.cons 2 I (Ren.own (i:=0) I) .nil) (.kept rfl (.row ao.pure) .nil) I I ?_
  exact az<|⟨_,aE.of I,rfl,by rw[Nat.zero_add];rfl⟩
theorem yk(l:List Int)(hl:l.length≤1000):aW Tryz.prog 35 [aw l] [] (fun r σ'=>Nw σ' r (aw l)):=aW.mono (ym l hl) (by rintro r σ' ⟨rfl,rfl⟩;exact Nw.dA rfl vD.flat)
theorem Iv:qe Tryz.prog 22=true:=by kernel_rfl
theorem yl(l:List Bool)(hl:l.length≤1000):aW Tryz.prog 32 [bq l] [] (fun r σ'=>r= .own 0∧σ'=[some (.row 4 1 l.length (bb l))]):=by
 refine bO Tryz.func32 I Tryz.ntmps32 I<|af (.a 1 I<|.k [0] I)<|an<|aR (WR.mono (K:=fun s=>∃b:Bool,s=⟨[(0,bq l),(4,.raw (.bool b))],[]⟩∧(b=true→l=[])) ?_ ?_)
 ·cases l with
  |nil=>exact ax 1 rfl<|uV rfl Iv rfl rfl rfl rfl rfl fun b=>aH [0,4] rfl ⟨b,rfl,fun _=>rfl⟩
  |cons a l=>exact ax 1 rfl<|bA (je rfl Iv rfl rfl (Nat.succ_pos _)) rfl rfl rfl<|aH [0,4] rfl ⟨_,rfl,fun h=>by cases h⟩
 rintro _ ⟨b,rfl,hb⟩
 refine aj I (fun hc=>?_) (fun hc=>?_)
 ·have:l=[]:=hb hc
  subst this
  refine af (.a 1 I<|.k [2] I)<|fM 2 4 1 I ?_
  exact az<|⟨_,aE.of I,rfl,rfl⟩
 ·refine ak<|aR<|cg (fu I (bG.sl.get I)) I<|ax 1 I<|cg (bC I (bG.rk.get I) I I I (show(bb l).length=l.length*1 by simp[bb]) (by unfold maxLen;omega)) I<|ax 1 I<|aH [2] I ?_
  refine cJ [1] (.cons 2 I (Ren.own (i:=0) I) .nil) (.kept rfl (.row ao.pure) .nil) I I ?_
  exact az<|⟨_,aE.of I,rfl,by rw[Nat.zero_add];rfl⟩
theorem qc(l:List Bool)(hl:l.length≤1000)(σ:bN):aW Tryz.prog 32 [bq l] σ (fun r σ'=>r= .own σ.length∧σ'=σ++[some (.row 4 1 l.length (bb l))]):=by
 refine aW.frame (aW.mono (yl l hl) ?_)
 rintro r σ' ⟨rfl,rfl⟩
 exact⟨[.row 4 1 l.length (bb l)],rfl,_,_,Up.own rfl,iI.cons (.row jQ.pure) iI.nil,by simp,rfl⟩
theorem Ip:qe Tryz.prog 23=true:=by kernel_rfl
theorem vT(l:List jt)(hl:l.length≤1000):aW Tryz.prog 60 [.slice l.length (ct l)] [] (fun r σ'=>r= .own 0∧σ'=[some (.row 82 7 l.length (ct l))]):=by
 refine bO Tryz.func60 I Tryz.ntmps60 I<|af (.a 1 I<|.k [0] I)<|an<|aR (WR.mono (K:=fun s=>∃b:Bool,s=⟨[(0,.slice l.length (ct l)),(4,.raw (.bool b))],[]⟩∧(b=true→l=[])) ?_ ?_)
 ·cases l with
  |nil=>exact ax 1 rfl<|uV rfl Ip rfl rfl rfl rfl rfl fun b=>aH [0,4] rfl ⟨b,rfl,fun _=>rfl⟩
  |cons a l=>exact ax 1 rfl<|bA (je rfl Ip rfl rfl (Nat.succ_pos _)) rfl rfl rfl<|aH [0,4] rfl ⟨_,rfl,fun h=>by cases h⟩
 rintro _ ⟨b,rfl,hb⟩
 refine aj I (fun hc=>?_) (fun hc=>?_)
 ·have:l=[]:=hb hc
  subst this
  refine af (.a 1 I<|.k [2] I)<|fM 2 82 7 I ?_
  exact az<|⟨_,aE.of I,rfl,rfl⟩
 ·refine ak<|aR<|cg (fu I (bG.sl.get I)) I<|ax 1 I<|cg (bC I (bG.rk.get I) I I I (show(ct l).length=l.length*7 by exact pC l) (by unfold maxLen;omega)) I<|ax 1 I<|aH [2] I ?_
  refine cJ [1] (.cons 2 I (Ren.own (i:=0) I) .nil) (.kept rfl (.row ao.pure) .nil) I I ?_
  exact az<|⟨_,aE.of I,rfl,by rw[Nat.zero_add];rfl⟩
theorem xl(l:List jt)(hl:l.length≤1000)(σ:bN):aW Tryz.prog 60 [.slice l.length (ct l)] σ (fun r σ'=>r= .own σ.length∧σ'=σ++[some (.row 82 7 l.length (ct l))]):=by
 refine aW.frame (aW.mono (vT l hl) ?_)
 rintro r σ' ⟨rfl,rfl⟩
 exact⟨[.row 82 7 l.length (ct l)],rfl,_,_,Up.own rfl,iI.cons (.row jQ.pure) iI.nil,by simp,rfl⟩
theorem xk(T:ah)(hl:T.ae.length≤1000)(ho:T.over.length≤1000):aW Tryz.prog 26 [aZ T] [] (fun r σ'=>r= .agg [num T.nodes,.own 2,.own 3]∧σ'=[some (.cells 25 [num T.nodes,.own 2,.own 3]),some (.cells 25 [num T.nodes,.own 2,.own 3]),some (.row 4 1 T.over.length (bb T.over)),some (.row 82 7 T.ae.length (ct T.ae))]):=by
 refine bO Tryz.func26 I Tryz.ntmps26 I<|aR<|cg (eV I I I) I<|ax 1 I<|aH [1,2] I ?_
 refine aR<|ax 2 I<|b7 I I (aW.mono (qc T.over ho _) (fun _ σ' h=>?_))
 obtain⟨rfl,rfl⟩:=h
 refine ax 2 I<|aH [1,2] I ?_
 refine aR<|ax 2 I<|b7 I I (aW.mono (xl T.ae hl _) (fun _ σ' h=>?_))
 obtain⟨rfl,rfl⟩:=h
 refine ax 2 I<|aH [1,2] I ?_
 refine aR<|ax 2 I<|aH [2] I ?_
 exact az<|⟨_,aE.of I,rfl,rfl⟩
theorem pW(T:ah)(hl:T.ae.length≤1000)(ho:T.over.length≤1000)(σ:bN):aW Tryz.prog 26 [aZ T] σ (fun r σ'=>r= .agg [num T.nodes,.own (σ.length+2),.own (σ.length+3)]∧σ'=σ++[some (.cells 25 [num T.nodes,.own (σ.length+2),.own (σ.length+3)]),some (.cells 25 [num T.nodes,.own (σ.length+2),.own (σ.length+3)]),some (.row 4 1 T.over.length (bb T.over)),some (.row 82 7 T.ae.length (ct T.ae))]):=by
 refine aW.frame (aW.mono (xk T hl ho) ?_)
 rintro r σ' ⟨rfl,rfl⟩
 have hc:jQ σ.length [num T.nodes,.own 2,.own 3] [num T.nodes,.own (σ.length+2),.own (σ.length+3)]:=jQ.cons .pure<|jQ.cons (.own rfl)<|jQ.cons (.own rfl) jQ.nil
 refine⟨[.cells 25 [num T.nodes,.own 2,.own 3],.cells 25 [num T.nodes,.own 2,.own 3],.row 4 1 T.over.length (bb T.over),.row 82 7 T.ae.length (ct T.ae)],rfl,_,[.cells 25 [num T.nodes,.own (σ.length+2),.own (σ.length+3)],.cells 25 [num T.nodes,.own (σ.length+2),.own (σ.length+3)],.row 4 1 T.over.length (bb T.over),.row 82 7 T.ae.length (ct T.ae)],Up.gM hc,iI.cons (.cells hc)<|iI.cons (.cells hc)<|iI.cons (.row jQ.pure)<|iI.cons (.row jQ.pure) iI.nil,rfl,rfl⟩
theorem nh(T:ah)(hv:au T=true):aW Tryz.prog 31 [aZ T] [] (fun r σ'=>Nw σ' r (ew (ca (aB T) T.nodes.toNat (2*T.ae.length)))):=by
 have hbd:=dz hv
 have hS:=aM hv
 obtain⟨n,hn⟩:∃n:Nat,T.nodes=(n:Int):=⟨T.nodes.toNat,by omega⟩
 rw[show T.nodes.toNat=n by omega]
 refine bO Tryz.func31 I Tryz.ntmps31 I<|af (.a 2 I<|.k [1] I)<|aR<|ax 2 I<|cg (da I (bG.rk.get I) I I hn hn ⟨by unfold maxLen;omega,by omega⟩) I<|ax 1 I<|aH [1,3] I ?_
 refine jK 43 3 n ?_
 refine an<|af (.a 1 I<|.c rfl (dY T (by omega)) I<|.a 1 I<|.k [1,3,10,11] I)<|ay<|eY [1,3,10,11] I<|br (fun r s=>∃k,k≤2*T.ae.length∧r=2*T.ae.length - k∧s=⟨[(1,.bg (bI T) 0),(3,.own 0),(10,num (2*(T.ae.length:Int))),(11,num k)],jR 43 3 (ca (aB T) n k)⟩) (2*T.ae.length) ⟨0,by omega,by omega,by rw[kL];rfl⟩ ?_
 rintro r s ⟨k,hk,rfl,rfl⟩
 refine af (.a 1 I<|.k [1,3,10,11,12] I)<|an<|aj I (fun hc=>?_) (fun hc=>?_)
 ·have hlt:k<2*T.ae.length:=by have:=of_decide_eq_true hc;omega
  obtain⟨hd0,hhN⟩:=hS.head k hlt
  obtain⟨m,hm⟩:=Int.eq_ofNat_of_zero_le hd0
  have hmn:m<n:=by omega
  have hrl:=cQ (aB T) n k
  have hgl:((ca (aB T) n k).getD m []).length≤k:=by
   rw[dH _ _ _ _ hmn]
   simp only[List.length_map]
   exact Nat.le_trans (List.length_filter_le _ _) (by simp)
  refine ak<|an<|ay<|af (.a 2 I<|.k [1,3,4,10,11] I)<|af (.a 2 I<|.c rfl (hm▸ed T k hlt (by omega)) I<|.a 1 I<|.k [1,3,4,5,10,11] I)<|bx<|ax 4 I<|bw (aJ (m) I) I<|bw (aK I (iz _ m (by omega))) I<|ax 2 I<|cg (bC I (bG.rk.get I) I (iv _ _ _ m (by omega)) I I ⟨by unfold maxLen;omega,by omega⟩) I<|bw (aJ (m) I) I<|ba (cm I (bG.tk.get I) I I I (by show m<(eC _).length;simp[eC];omega)) I I<|aH [1,3,10,11] I ?_
  refine cJ (C6 (ca (aB T) n k).length m) (.cons 1 I Ren.pure<|.cons 3 I (Ren.own (i:=0) I)<|.cons 10 I Ren.pure<|.cons 11 I Ren.pure<|.nil) (ow 43 3 (ca (aB T) n k) m (by omega) (k:Int)) (mM _ _) I ?_
  rw[←kX (aB T) n k m hm hmn]
  refine aF (.v (aU I) I<|.a 1 I<|.k [1,3,10,11] I) ?_
  exact⟨2*T.ae.length - (k+1),by omega,k+1,by omega,rfl,rfl⟩
 ·have hke:k=2*T.ae.length:=by have:=of_decide_eq_false hc;omega
  subst hke
  exact bp<|af (.a 2 I<|.k [2] I)<|az<|⟨_,aE.of I,AV _ _ _⟩
theorem vv(T:ah)(hv:au T=true):aW Tryz.prog 61 [aZ T] [] (fun r σ'=>Nw σ' r (ew (ca (aN T) T.nodes.toNat (2*T.ae.length)))):=by
 have hbd:=dz hv
 have hS:=aM hv
 obtain⟨n,hn⟩:∃n:Nat,T.nodes=(n:Int):=⟨T.nodes.toNat,by omega⟩
 rw[show T.nodes.toNat=n by omega]
 refine bO Tryz.func61 I Tryz.ntmps61 I<|af (.a 2 I<|.k [1] I)<|aR<|ax 2 I<|cg (da I (bG.rk.get I) I I hn hn ⟨by unfold maxLen;omega,by omega⟩) I<|ax 1 I<|aH [1,3] I ?_
 refine jK 43 3 n ?_
 refine an<|af (.a 1 I<|.c rfl (dY T (by omega)) I<|.a 1 I<|.k [1,3,10,11] I)<|ay<|eY [1,3,10,11] I<|br (fun r s=>∃k,k≤2*T.ae.length∧r=2*T.ae.length - k∧s=⟨[(1,.bg (bI T) 0),(3,.own 0),(10,num (2*(T.ae.length:Int))),(11,num k)],jR 43 3 (ca (aN T) n k)⟩) (2*T.ae.length) ⟨0,by omega,by omega,by rw[kL];rfl⟩ ?_
 rintro r s ⟨k,hk,rfl,rfl⟩
 refine af (.a 1 I<|.k [1,3,10,11,12] I)<|an<|aj I (fun hc=>?_) (fun hc=>?_)
 ·have hlt:k<2*T.ae.length:=by have:=of_decide_eq_true hc;omega
  obtain⟨hd0,hhN⟩:=hS.tail k hlt
  obtain⟨m,hm⟩:=Int.eq_ofNat_of_zero_le hd0
  have hmn:m<n:=by omega
  have hrl:=cQ (aN T) n k
  have hgl:((ca (aN T) n k).getD m []).length≤k:=by
   rw[dH _ _ _ _ hmn]
   simp only[List.length_map]
   exact Nat.le_trans (List.length_filter_le _ _) (by simp)
  refine ak<|an<|ay<|af (.a 2 I<|.k [1,3,4,10,11] I)<|af (.a 2 I<|.c rfl (hm▸fp T k hlt) I<|.a 1 I<|.k [1,3,4,5,10,11] I)<|bx<|ax 4 I<|bw (aJ (m) I) I<|bw (aK I (iz _ m (by omega))) I<|ax 2 I<|cg (bC I (bG.rk.get I) I (iv _ _ _ m (by omega)) I I ⟨by unfold maxLen;omega,by omega⟩) I<|bw (aJ (m) I) I<|ba (cm I (bG.tk.get I) I I I (by show m<(eC _).length;simp[eC];omega)) I I<|aH [1,3,10,11] I ?_
  refine cJ (C6 (ca (aN T) n k).length m) (.cons 1 I Ren.pure<|.cons 3 I (Ren.own (i:=0) I)<|.cons 10 I Ren.pure<|.cons 11 I Ren.pure<|.nil) (ow 43 3 (ca (aN T) n k) m (by omega) (k:Int)) (mM _ _) I ?_
  rw[←kX (aN T) n k m hm hmn]
  refine aF (.v (aU I) I<|.a 1 I<|.k [1,3,10,11] I) ?_
  exact⟨2*T.ae.length - (k+1),by omega,k+1,by omega,rfl,rfl⟩
 ·have hke:k=2*T.ae.length:=by have:=of_decide_eq_false hc;omega
  subst hke
  exact bp<|af (.a 2 I<|.k [2] I)<|az<|⟨_,aE.of I,AV _ _ _⟩
open Heap
def dZ(m:Nat)(b:Bool)(N n:Nat)(K P O:List Int):bN:=
 match b with
 |false=>[some (.cells 183 [.own (m+1),.own (m+2),.own (m+3)]),some (.row 3 1 N (aL K)),some (.row 3 1 N (aL P)),some (.row 3 1 n (aL O))]
 |true=>[some (.cells 183 [.own (m+1),.own (m+2),.own (m+4)]),some (.row 3 1 N (aL K)),some (.row 3 1 N (aL P)),none,some (.row 3 1 n (aL O))]
def nd(m:Nat):List Nat:=[0,m,m+1,m+2,m+3]
theorem rM:jO none:=fun _ h=>by cases h
theorem tQ{m:Nat}(h:0<m):fT (nd m)=true:=by simp[nd,fT];omega
section
variable {A:bN} {m N n:Nat} {K P O:List Int}
theorem qv(A:bN)(h:A.length=m)(b:Bool)(k:Nat):(A++dZ m b N n K P O)[m+k]? =(dZ m b N n K P O)[k]? :=by
 rw[List.getElem?_append_right (by omega),show m+k - A.length=k by omega]
theorem AS(A:bN)(h:A.length=m):(A++dZ m false N n K P O).length=m+4:=by simp[dZ,h]
theorem ti(h:A.length=m)(h0:0<m):((nd m).all fun i=>Nat.blt i (A++dZ m false N n K P O).length)=true:=by
 rw[AS A h]
 simp[nd]
theorem Ai(h:A.length=m):EB (A++dZ m false N n K P O) (nd m) (un (nd m) (eP false none N n K P O)) (eP false none N n K P O) (nd m):=by
 have g:=fun k=>qv (N:=N) (n:=n) (K:=K) (P:=P) (O:=O) A h false k
 refine .gone<|.kept (g 0) (.cells (fm.cons (Vw.own rfl)<|fm.cons (Vw.own rfl)<|fm.cons (Vw.own rfl) fm.nil))<|.kept (g 1) (.row fm.pure)<|.kept (g 2) (.row fm.pure)<|.kept (g 3) (.row fm.pure) .nil
theorem Jk{i:Nat}(hi:i<m):un (nd m) (eP false none N n K P O) i=true:=by
 have e:∀j,m≤j→Nat.beq j i=false:=fun j hj=>by
  rw[Bool.eq_false_iff];intro h;have:=Nat.eq_of_beq_eq_true h;omega
 simp[nd,eP,un,e m (by omega),e (m+1) (by omega),e (m+2) (by omega),e (m+3) (by omega)]
theorem xO{n':Nat}{K' P' O':List Int}(h:A.length=m)(b:Bool):KP (A++dZ m false N n K P O) (nd m) (eP false none N n K P O) (eP b none N n' K' P' O') (A++dZ m b N n' K' P' O'):=by
 have hl:(A++dZ m false N n K P O).length=m+4:=AS A h
 refine⟨?_,fun i b2 hb2=>?_⟩
 ·rw[hl];cases b<;>simp[dZ,eP,nd,h]
 ·by_cases hi:i<m
  ·left
   refine⟨by omega,Jk hi,?_⟩
   rw[List.getElem?_append_left (by omega)]at hb2 ⊢
   exact hb2
  ·obtain⟨k,rfl⟩:∃k,i=m+k:=⟨i - m,by omega⟩
   right
   rw[qv A h b k]at hb2
   have hbk:∀j,j<5→bk (nd m) (A++dZ m false N n K P O).length j=(nd m).getD j 0:=fun j hj=>by unfold bk;rw[if_pos (by simpa[nd]using hj)]
   have hb5:bk (nd m) (A++dZ m false N n K P O).length 5=m+4:=by unfold bk;rw[if_neg (by simp[nd]),hl];simp[nd]
   cases b with
   |false=>
    match k,hb2 with
    |0,hb2=>cases hb2;exact⟨1,_,rfl,.cells (iO.cons (Mv.own (hbk 2 (by omega)))<|iO.cons (Mv.own (hbk 3 (by omega)))<|iO.cons (Mv.own (hbk 4 (by omega))) iO.nil),.inl ⟨by simp[nd],by omega,rfl⟩⟩
    |1,hb2=>cases hb2;exact⟨2,_,rfl,.row iO.flat,.inl ⟨by simp[nd],by omega,rfl⟩⟩
    |2,hb2=>cases hb2;exact⟨3,_,rfl,.row iO.flat,.inl ⟨by simp[nd],by omega,rfl⟩⟩
    |3,hb2=>cases hb2;exact⟨4,_,rfl,.row iO.flat,.inl ⟨by simp[nd],by omega,rfl⟩⟩
    |_+4,hb2=>simp[dZ]at hb2
   |true=>
    match k,hb2 with
    |0,hb2=>cases hb2;exact⟨1,_,rfl,.cells (iO.cons (Mv.own (hbk 2 (by omega)))<|iO.cons (Mv.own (hbk 3 (by omega)))<|iO.cons (Mv.own hb5) iO.nil),.inl ⟨by simp[nd],by omega,rfl⟩⟩
    |1,hb2=>cases hb2;exact⟨2,_,rfl,.row iO.flat,.inl ⟨by simp[nd],by omega,rfl⟩⟩
    |2,hb2=>cases hb2;exact⟨3,_,rfl,.row iO.flat,.inl ⟨by simp[nd],by omega,rfl⟩⟩
    |3,hb2=>cases hb2
    |4,hb2=>cases hb2;exact⟨5,_,rfl,.row iO.flat,.inr ⟨by simp[nd],by rw[hl];simp[nd]⟩⟩
    |_+5,hb2=>simp[dZ]at hb2
theorem wH(h:A.length=m)(qs:List PV)[aI qs]:fm (A++dZ m false N n K P O) (nd m) (un (nd m) (eP false none N n K P O)) (.ptr m 0::qs) (.ptr 1 0::qs):=fm.cons (Vw.ptr rfl) fm.pure
theorem pg(A:bN)(hA:A.length=m)(h0:0<m)(h:oS N n K P O)(hN:N≤65536)(i:Nat)(hi:i<N)(key:Int):
  aW Tryz.prog 82 [.ptr m 0,num i,num key] (A++dZ m false N n K P O) (fun _ σ'=>∃(b:Bool) (n':Nat) (P' O':List Int),σ'=A++dZ m b N n' (K.set i key) P' O'∧oS N n' (K.set i key) P' O'∧∀j,cd O' j↔cd O j∨j=(i:Int)):=by
 refine aW.view (nd m) (tQ h0) (wH hA _) (Ai hA) (ti hA h0) (aW.mono (oe none rM K P O h hN i hi key) ?_)
 rintro r σ1 ⟨b,n',P',O',rfl,h1,h2⟩
 exact⟨.any,_,.any,xO hA b,b,n',P',O',rfl,h1,h2⟩
theorem tL(A:bN)(hA:A.length=m)(h0:0<m)(h:oS N n K P O)(hN:N≤65536):
  aW Tryz.prog 83 [.ptr m 0] (A++dZ m false N n K P O) (fun r σ'=>∃(b ok:Bool) (i n':Nat) (key:Int) (K' P' O':List Int),r= .tuple [num i,num key,flag ok]∧σ'=A++dZ m b N n' K' P' O'∧
   ((ok=false∧n=0)∨(ok=true∧i<N∧cd O (i:Int)∧(∀j:Nat,cd O (j:Int)→K.getD i 0≤K.getD j 0)∧key=K.getD i 0∧K'=K.set i 0∧oS N n' K' P' O'∧∀j:Nat,cd O' (j:Int)↔cd O (j:Int)∧j≠i))):=by
 refine aW.view (nd m) (tQ h0) (wH hA _) (Ai hA) (ti hA h0) (aW.mono (uL none rM K P O h hN) ?_)
 rintro r σ1 ⟨b,ok,i,n',key,K',P',O',rfl,rfl,h1⟩
 exact⟨_,_,.flat,xO hA b,b,ok,i,n',key,K',P',O',rfl,rfl,h1⟩
theorem tW(A:bN)(hA:A.length=m)(h0:0<m)(hN:N≤65536):
  aW Tryz.prog 81 [num N] A (fun r σ'=>r= .tuple [.ptr m 0,num 0]∧σ'=A++dZ m false N 0 (List.replicate N 0) (List.replicate N 0) []):=by
 refine aW.view (σ0:=[none]) [0] I fm.pure (.gone .nil) (by simp;omega) (aW.mono (uC N none rM hN) ?_)
 rintro r σ1 ⟨rfl,rfl⟩
 have hb:∀k,bk [0] A.length (k+1)=m+k:=fun k=>by unfold bk;rw[if_neg (by simp)];simp[hA]
 refine⟨.tuple [.ptr m 0,num 0],_,Mv.bY (iO.cons (Mv.ptr (hb 0))<|iO.cons .flat iO.nil),⟨?_,fun i b2 hb2=>?_⟩,rfl,rfl⟩
 ·simp[dZ,eP]
 ·by_cases hi:i<m
  ·left
   rw[List.getElem?_append_left (by omega)]at hb2
   exact⟨by omega,rfl,hb2⟩
  ·obtain⟨k,rfl⟩:∃k,i=m+k:=⟨i - m,by omega⟩
   right
   rw[qv A hA false k]at hb2
   match k,hb2 with
   |0,hb2=>cases hb2;exact⟨1,_,rfl,.cells (iO.cons (Mv.own (hb 1))<|iO.cons (Mv.own (hb 2))<|iO.cons (Mv.own (hb 3)) iO.nil),.inr ⟨by simp,by simp[hA]⟩⟩
   |1,hb2=>cases hb2;exact⟨2,_,rfl,.row iO.flat,.inr ⟨by simp,by simp[hA]⟩⟩
   |2,hb2=>cases hb2;exact⟨3,_,rfl,.row iO.flat,.inr ⟨by simp,by simp[hA]⟩⟩
   |3,hb2=>cases hb2;exact⟨4,_,rfl,.row iO.flat,.inr ⟨by simp,by simp[hA]⟩⟩
   |_+4,hb2=>simp[dZ]at hb2
theorem GB(A:bN)(hA:A.length=m)(h:oS N n K P O):aD (A++dZ m false N n K P O) (.ptr m 0) (oP K P O):=by
 have g:=fun k=>qv (N:=N) (n:=n) (K:=K) (P:=P) (O:=O) A hA false k
 have h1:=h.1.len
 have h2:=h.2.2.1
 have h3:=h.2.1
 subst h2;subst h3
 unfold oP aw
 rw[h1]
 exact aD.gC (g 0) (ai.cons (aD.dA (g 1) ai.pure) (ai.cons (aD.dA (g 2) ai.pure) (ai.cons (aD.dA (g 3) ai.pure) ai.nil)))
end
end
end PW
end Go.Proofs.YteikppbedmmdnaaGreatDoor
